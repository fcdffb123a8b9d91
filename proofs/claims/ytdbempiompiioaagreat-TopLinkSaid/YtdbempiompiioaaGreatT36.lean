/- The law TopLink: the walk. Conditions: the bounds stated in each theorem. -/
import Derived.Test.YtdbempiompiioaaGreatT04
import Derived.Test.YtdbempiompiioaaGreatT35
set_option linter.unusedVariables false
set_option linter.unusedSimpArgs false
namespace Go.Proofs.YtdbempiompiioaaGreat.C10
open Go.RowKit A1 A2 A3 A4 A9 A10 A11 A12 A13 A14 A18 A35 A41 A46 A48 A50 A52 A64 A66 A71 A72 A73 B4 B5 C1 C2 C3 C4 C5 C6 C7 C8 C9

theorem eq45s (b o n m : Nat) (w : World) : (binOp BinOp.eql 45 (.slice (some ⟨b, o, none⟩) n m) (.slice none 0 0)).run Tryz.prog w = .ok (.bool false) w := by kernel_rfl
theorem box10 {w : World} {B : Nat} {a b d e f g i j k l : Value} {t : TypeId} (h : w.heap[B]? = some (.cells #[a, b, d, e, f, g, i, j, k, l] t (0, 0))) : w.cell? ⟨B, 0, none⟩ = some a ∧ w.cell? ⟨B, 1, none⟩ = some b ∧ w.cell? ⟨B, 2, none⟩ = some d ∧ w.cell? ⟨B, 3, none⟩ = some e ∧ w.cell? ⟨B, 4, none⟩ = some f ∧ w.cell? ⟨B, 5, none⟩ = some g ∧ w.cell? ⟨B, 6, none⟩ = some i ∧ w.cell? ⟨B, 7, none⟩ = some j ∧ w.cell? ⟨B, 8, none⟩ = some k ∧ w.cell? ⟨B, 9, none⟩ = some l :=
  ⟨bcell h 0, bcell h 1, bcell h 2, bcell h 3, bcell h 4, bcell h 5, bcell h 6, bcell h 7, bcell h 8, bcell h 9⟩
set_option maxRecDepth 100000 in
set_option maxHeartbeats 40000000 in
theorem TopLink_yes (a0 a1 a2 a3 a4 : Int) (PA0 : Option Addr) (l0 : List Int) (C0 : Nat) (on0 dr0 er0 : List Int) (OA0 DA0 EA0 KA : Option Addr) (OC0 DC0 EC0 KL KC : Nat) (b0 b1 b2 b3 : Int) (CA : Option Addr) (CL CC : Nat) (VA : Option Addr) (vs : List Int) (VC : Nat) (link : Int) (WA : Option Addr) (ws : List Int) (WC : Nat) (w : World)
    (hP : Ints w PA0 l0) (hPL : l0.length ≤ 9223372036854775807) (hO : Ints w OA0 on0) (hOL : on0.length ≤ 9223372036854775807) (hD : Ints w DA0 dr0) (hDL : dr0.length ≤ 9223372036854775807) (hE : Ints w EA0 er0) (hEL : er0.length ≤ 9223372036854775807)
    (hA : ActsAt w CA CL) (hL : CL ≤ 9223372036854775807) (hV : Ints w VA vs) (hVL : vs.length ≤ 9223372036854775807) (hW : Ints w WA ws) (hWL : ws.length ≤ 9223372036854775807) :
    Calls Tryz.prog 5 #[.agg #[.int .i64 a0, .int .i64 a1, .int .i64 a2, .int .i64 a3, .int .i64 a4, .slice PA0 l0.length C0], .agg #[.slice OA0 on0.length OC0, .slice DA0 dr0.length DC0, .slice EA0 er0.length EC0, .slice KA KL KC, .int .i64 b0, .int .i64 b1, .int .i64 b2, .int .i64 b3, .slice CA CL CC, .slice VA vs.length VC], .int .i64 link, .slice WA ws.length WC] w fun e w' => e = .returned (.bool true) ∧ Below w.heap.size w w' := by
  obtain ⟨hC, hR, hz, hB⟩ := two w (.cells #[.int .i64 a0, .int .i64 a1, .int .i64 a2, .int .i64 a3, .int .i64 a4, .slice PA0 l0.length C0] 24) (.cells #[.slice OA0 on0.length OC0, .slice DA0 dr0.length DC0, .slice EA0 er0.length EC0, .slice KA KL KC, .int .i64 b0, .int .i64 b1, .int .i64 b2, .int .i64 b3, .slice CA CL CC, .slice VA vs.length VC] 29)
  have HRows := Lib.hid (And.intro hP (And.intro hO (And.intro hD (And.intro hE (And.intro hA (And.intro hV hW))))))
  have lo := fun A l (h : Ints w A l) (w' : World) (hb : Below w.heap.size w w') => C2.ints_low h hb (C2.ints_lt h) (Nat.le_refl _)
  have HLo := Lib.hid lo
  clear hP hO hD hE hA hV hW lo
  go_enter Tryz.func5, Tryz.ntmps5
  go_upto_region 1 with fail
  generalize (w.alloc (.cells #[.int .i64 a0, .int .i64 a1, .int .i64 a2, .int .i64 a3, .int .i64 a4, .slice PA0 l0.length C0] 24)).alloc (.cells #[.slice OA0 on0.length OC0, .slice DA0 dr0.length DC0, .slice EA0 er0.length EC0, .slice KA KL KC, .int .i64 b0, .int .i64 b1, .int .i64 b2, .int .i64 b3, .slice CA CL CC, .slice VA vs.length VC] 29) = wa at *
  have HC := Lib.hid hC
  have HR := Lib.hid hR
  have HB := Lib.hid hB
  clear hC hR hB
  go_wp2_with fail
  refine (known_yes wa).mono ?_
  rintro e w1 ⟨rfl, hb1⟩
  have s1 := hb1.size
  have HB1 := Lib.hid (HB.out.trans (hb1.mono (by omega)))
  have HC1 := Lib.hid ((hb1.block _ (by omega)).trans HC.out)
  have hR1 := (hb1.block _ hz).trans HR.out
  have HR1 := Lib.hid hR1
  obtain ⟨y0, y1, y2, y3, y4, y5, y6, y7, y8, y9⟩ := box10 hR1
  clear hb1 hR1 HC HR HB
  go_wp2_with fail
  refine (l17_Few _ _ _ _ _ _ _ _ _ _ _ _ b0 b1 b2 b3 CA CL CC VA vs.length VC w1 (HRows.out.2.2.2.2.1.below HB1.out) hL).mono ?_
  rintro e w2 ⟨b, rfl, hb2⟩
  have s2 := hb2.size
  have HB2 := Lib.hid (HB1.out.trans (hb2.mono (by omega)))
  have hC2 := (hb2.block _ (by omega)).trans HC1.out
  have hR2 := (hb2.block _ (by omega)).trans HR1.out
  have HC2 := Lib.hid hC2
  have HR2 := Lib.hid hR2
  clear y0 y1 y2 y3 y4 y5 y6 y7 y8 y9 hb2 HC1 HR1 HB1
  cases b
  · go_wp2
    go_ret
    exact ⟨rfl, HB2.out⟩
  · obtain ⟨x0, x1, x2, x3, x4, x5⟩ := box6 hC2
    clear hC2 hR2
    go_wp2_with fail
    refine (l17_Conf a0 a1 a2 a3 a4 PA0 l0 C0 w2 (HLo.out _ _ HRows.out.1 _ HB2.out) hPL).mono ?_
    rintro e w3 ⟨N, Pi, Er, G, Fi, ps, PA, PC, rfl, hcf, hPs, hPb, hb3⟩
    have s3 := hb3.size
    have HB3 := Lib.hid (HB2.out.trans (hb3.mono (by omega)))
    have HC3 := Lib.hid ((hb3.block _ (by omega)).trans HC2.out)
    have HR3 := Lib.hid ((hb3.block _ (by omega)).trans HR2.out)
    have n0 := hcf.n0
    have n1 := hcf.n1
    have HCf := Lib.hid hcf
    have hD4 := heap_alloc_new w3 (.cells #[.int .i64 N, .int .i64 Pi, .int .i64 Er, .int .i64 G, .int .i64 Fi, .slice PA ps.length PC] 24)
    have hb4 : Below w3.heap.size w3 (w3.alloc (.cells #[.int .i64 N, .int .i64 Pi, .int .i64 Er, .int .i64 G, .int .i64 Fi, .slice PA ps.length PC] 24)) := (Below.refl _ _).alloc (Nat.le_refl _) _
    clear x0 x1 x2 x3 x4 x5 hb3 HC2 HR2 HB2 hcf
    go_upto_region 6 with fail
    generalize w3.alloc (.cells #[.int .i64 N, .int .i64 Pi, .int .i64 Er, .int .i64 G, .int .i64 Fi, .slice PA ps.length PC] 24) = w4 at *
    have s4 := hb4.size
    have lD4 := heap_lt hD4
    have hR4 := (hb4.block _ (by omega)).trans HR3.out
    have HB4 := Lib.hid (HB3.out.trans (hb4.mono (by omega)))
    have HP4 := Lib.hid (hPs.below hb4)
    have HPl := Lib.hid hPb
    clear hPb
    have y3 := bcell hR4 3
    change _ = some _ at y3
    have f3 : w4.frozen? ⟨w.heap.size + 1, 3, none⟩ = false := by simp [World.frozen?, hR4]
    have hR5 : (w4.setCell ⟨w.heap.size + 1, 3, none⟩ (.slice none 0 0)).heap[w.heap.size + 1]? = some (.cells #[.slice OA0 on0.length OC0, .slice DA0 dr0.length DC0, .slice EA0 er0.length EC0, .slice none 0 0, .int .i64 b0, .int .i64 b1, .int .i64 b2, .int .i64 b3, .slice CA CL CC, .slice VA vs.length VC] 29 (0, 0)) := heap_setCell_same _ _ 3 _ _ (.slice none 0 0) hR4
    have hb5 := ((But.refl (fun b => b = w.heap.size + 1) w4).setCell (p := ⟨w.heap.size + 1, 3, none⟩) (.inl rfl) (.slice none 0 0))
    have HR5 := Lib.hid hR5
    have HB5b := Lib.hid hb5
    clear hb4 hR4 hPs HC3 HR3 HB3 hR5 hb5
    go_upto_region 7 with fail
    clear y3 f3
    generalize w4.setCell ⟨w.heap.size + 1, 3, none⟩ (.slice none 0 0) = w5 at *
    have s5 := HB5b.out.size
    have hD5 := (HB5b.out.block _ lD4 (by omega)).trans hD4
    have HB5 := Lib.hid (HB4.out.trans (HB5b.out.to_below (by omega) (fun b e => by omega)))
    obtain ⟨d0, d1, d2, d3, d4, d5⟩ := box6 hD5
    obtain ⟨y0, y1, y2, y3, y4, y5, y6, y7, y8, y9⟩ := box10 HR5.out
    have HD5 := Lib.hid hD5
    have HLa := Lib.hid (Late N Pi Er G Fi PA ps.length PC on0 dr0 er0 OA0 DA0 EA0 OC0 DC0 EC0 b0 b1 b2 b3 CA CL CC VA vs VC w5 (by omega) (by omega) HCf.out.e0 HCf.out.e1 HCf.out.g0 HCf.out.g1 (HRows.out.2.2.2.2.1.below HB5.out) hL (HLo.out _ _ HRows.out.2.2.2.2.2.1 _ HB5.out) hVL (HLo.out _ _ HRows.out.2.1 _ HB5.out) hOL (HLo.out _ _ HRows.out.2.2.1 _ HB5.out) hDL (HLo.out _ _ HRows.out.2.2.2.1 _ HB5.out) hEL)
    clear hD5 hD4
    go_wp2_with fail
    refine HLa.out.mono ?_
    rintro e w6 ⟨on, dr, er, OA1, DA1, EA1, OC1, DC1, EC1, fk, fa, ff, ft, FA, FL, FC, HA, HL, HCp, rfl, hol, hon, hdl, hel, hI0, hI1, hI2, _, _, _, hb6⟩
    rw [hol]
    have s6 := hb6.size
    have hS7 := heap_alloc_new w6 (.cells #[.slice OA1 N OC1, .slice DA1 dr.length DC1, .slice EA1 er.length EC1, .slice none 0 0, .int .i64 fk, .int .i64 fa, .int .i64 ff, .int .i64 ft, .slice FA FL FC, .slice HA HL HCp, .int .i64 (2 * N + 20)] 34)
    have hb7 : Below w6.heap.size w6 (w6.alloc (.cells #[.slice OA1 N OC1, .slice DA1 dr.length DC1, .slice EA1 er.length EC1, .slice none 0 0, .int .i64 fk, .int .i64 fa, .int .i64 ff, .int .i64 ft, .slice FA FL FC, .slice HA HL HCp, .int .i64 (2 * N + 20)] 34)) := (Below.refl _ _).alloc (Nat.le_refl _) _
    clear d0 d1 d2 d3 d4 d5 y0 y1 y2 y3 y4 y5 y6 y7 y8 y9 HLa
    go_upto_region 8 with fail
    generalize w6.alloc (.cells #[.slice OA1 N OC1, .slice DA1 dr.length DC1, .slice EA1 er.length EC1, .slice none 0 0, .int .i64 fk, .int .i64 fa, .int .i64 ff, .int .i64 ft, .slice FA FL FC, .slice HA HL HCp, .int .i64 (2 * N + 20)] 34) = w7 at *
    have s7 := hb7.size
    have lS7 := heap_lt hS7
    have hD7 := (hb7.block _ (by omega)).trans ((hb6.block _ (by omega)).trans HD5.out)
    have HD7 := Lib.hid hD7
    have HB7 := Lib.hid (HB5.out.trans ((hb6.mono (by omega)).trans (hb7.mono (by omega))))
    have HI0 := Lib.hid (hI0.below hb7)
    have HI1 := Lib.hid (hI1.below hb7)
    have HI2 := Lib.hid (hI2.below hb7)
    have HLi := Lib.hid (And.intro (C2.ints_lt hI0) (And.intro (C2.ints_lt hI1) (C2.ints_lt hI2)))
    have HP5 := Lib.hid (show Ints w5 PA ps from ints_keep HP4.out HB5b.out (fun b off e h => by have := HPl.out b off e; omega))
    have HP7 := Lib.hid ((((show Ints w5 PA ps from ints_keep HP4.out HB5b.out (fun b off e h => by have := HPl.out b off e; omega)).below hb6).below hb7))
    obtain ⟨d0, _, _, _, _, _⟩ := box6 hD7
    obtain ⟨_, _, _, _, c4, c5, c6, c7, c8, c9, _⟩ := box11 hS7
    have qf : ∀ o, w7.frozen? ⟨w6.heap.size, o, none⟩ = false := fun o => by simp [World.frozen?, hS7]
    have u4 := qf 4
    have u5 := qf 5
    have u6 := qf 6
    have u7 := qf 7
    have u8 := qf 8
    have u9 := qf 9
    have HS7 := Lib.hid hS7
    have lk0 : 0 ≤ link % (2 * (N : Int)) := Int.emod_nonneg _ (by omega)
    have lk1 : link % (2 * (N : Int)) < 2 * N := Int.emod_lt_of_pos _ (by omega)
    have wn2 : IntKind.i64.wrap (3 + 2 * (N : Int)) = 2 * N + 3 := by rw [IntKind.wrap_i64]; omega
    have wn3 : IntKind.i64.wrap (2 * (N : Int) + 3 + 9) = 2 * N + 12 := by rw [IntKind.wrap_i64]; omega
    have wn1 : IntKind.i64.wrap (2 * (N : Int)) = 2 * N := by rw [IntKind.wrap_i64]; omega
    clear hb6 hb7 hI0 hI1 hI2 hS7 hD7 qf HD5 HB5b HR5 HP4 HB4 HB5
    go_wp2_with (first | (go_at_call 9; refine (top_within _ _ _ (by omega) (by omega)).mono ?_; rintro e w' ⟨rfl, rfl⟩) | fail)
    generalize hat : link % (2 * (N : Int)) = fat at *
    have hS8 : ((((((w7.setCell ⟨w6.heap.size, 4, none⟩ (.int .i64 2)).setCell ⟨w6.heap.size, 5, none⟩ (.int .i64 (fat))).setCell ⟨w6.heap.size, 6, none⟩ (.int .i64 1000)).setCell ⟨w6.heap.size, 7, none⟩ (.int .i64 1000)).setCell ⟨w6.heap.size, 8, none⟩ (.slice none 0 0)).setCell ⟨w6.heap.size, 9, none⟩ (.slice none 0 0)).heap[w6.heap.size]? = some (.cells #[.slice OA1 N OC1, .slice DA1 dr.length DC1, .slice EA1 er.length EC1, .slice none 0 0, .int .i64 2, .int .i64 fat, .int .i64 1000, .int .i64 1000, .slice none 0 0, .slice none 0 0, .int .i64 (2 * N + 20)] 34 (0, 0)) := by
      have := heap_setCell_same _ _ 9 _ _ (.slice none 0 0) (heap_setCell_same _ _ 8 _ _ (.slice none 0 0) (heap_setCell_same _ _ 7 _ _ (.int .i64 1000) (heap_setCell_same _ _ 6 _ _ (.int .i64 1000) (heap_setCell_same _ _ 5 _ _ (.int .i64 fat) (heap_setCell_same _ _ 4 _ _ (.int .i64 2) HS7.out)))))
      simpa only [List.setIfInBounds_toArray, List.set_cons_zero, List.set_cons_succ] using this
    have hb8 : But (fun b => b = w6.heap.size) w7 ((((((w7.setCell ⟨w6.heap.size, 4, none⟩ (.int .i64 2)).setCell ⟨w6.heap.size, 5, none⟩ (.int .i64 (fat))).setCell ⟨w6.heap.size, 6, none⟩ (.int .i64 1000)).setCell ⟨w6.heap.size, 7, none⟩ (.int .i64 1000)).setCell ⟨w6.heap.size, 8, none⟩ (.slice none 0 0)).setCell ⟨w6.heap.size, 9, none⟩ (.slice none 0 0)) := ((((((But.refl (fun b => b = w6.heap.size) w7).setCell (p := ⟨w6.heap.size, 4, none⟩) (.inl rfl) _).setCell (p := ⟨w6.heap.size, 5, none⟩) (.inl rfl) _).setCell (p := ⟨w6.heap.size, 6, none⟩) (.inl rfl) _).setCell (p := ⟨w6.heap.size, 7, none⟩) (.inl rfl) _).setCell (p := ⟨w6.heap.size, 8, none⟩) (.inl rfl) _).setCell (p := ⟨w6.heap.size, 9, none⟩) (.inl rfl) _
    clear u4 u5 u6 u7 u8 u9 c4 c5 c6 c7 c8 c9 d0 HS7
    generalize (((((w7.setCell ⟨w6.heap.size, 4, none⟩ (.int .i64 2)).setCell ⟨w6.heap.size, 5, none⟩ (.int .i64 (fat))).setCell ⟨w6.heap.size, 6, none⟩ (.int .i64 1000)).setCell ⟨w6.heap.size, 7, none⟩ (.int .i64 1000)).setCell ⟨w6.heap.size, 8, none⟩ (.slice none 0 0)).setCell ⟨w6.heap.size, 9, none⟩ (.slice none 0 0) = w8 at *
    have s8 := hb8.size
    have HD8 := Lib.hid ((hb8.block _ (by omega) (by omega)).trans HD7.out)
    have HB8 := Lib.hid (HB7.out.trans (hb8.to_below (by omega) (fun b e => by omega)))
    have HI08 := Lib.hid (ints_keep HI0.out hb8 (fun b off e h => by have := HLi.out.1 b off e h; omega))
    have HI18 := Lib.hid (ints_keep HI1.out hb8 (fun b off e h => by have := HLi.out.2.1 b off e h; omega))
    have HI28 := Lib.hid (ints_keep HI2.out hb8 (fun b off e h => by have := HLi.out.2.2 b off e h; omega))
    have HP8 := Lib.hid (ints_keep HP7.out hb8 (fun b off e h => by have := C2.ints_lt HP5.out b off e h; omega))
    have HS8 := Lib.hid hS8
    have HF := Lib.hid (show ((2 * N + 12 : Nat) : Int) = 2 * (N : Int) + 12 by omega)
    clear hS8 HD7 HB7 HI0 HI1 HI2 wn1 wn2 wn3
    go_loopw [12, 13] (fun u t wr => ∃ (k : Nat) (vc : Value), k ≤ N ∧ t = .int .i64 k ∧ wr.heap[w6.heap.size]? = some (.cells #[.slice OA1 N OC1, .slice DA1 dr.length DC1, .slice EA1 er.length EC1, vc, .int .i64 2, .int .i64 fat, .int .i64 1000, .int .i64 1000, .slice none 0 0, .slice none 0 0, .int .i64 (2 * N + 20)] 34 (0, 0)) ∧ wr.ownsRow w8.heap.size 52 4 vc k (callCells (2 * N + 12) (vF ws) k) ∧ wr.ownsRow w8.heap.size 44 2 u k (wantCells (vF ws) k) ∧ (∀ b, vc.ownBlock = some b → u.ownBlock ≠ some b) ∧ But (fun b => b = w6.heap.size) w8 wr) (fun _ t _ => N - (intOf t).toNat)
    case atStart => exact ⟨0, .slice none 0 0, by omega, rfl, HS8.out, World.ownsRow_nil _ _ _ _, World.ownsRow_nil _ _ _ _, (fun b h => by simp [Value.ownBlock] at h), But.refl _ _⟩
    case round =>
      obtain ⟨k, vc, hk, rfl, hS, ho1, ho2, hne, hbut⟩ := hrel
      have zr := hbut.size
      have HDr := Lib.hid ((hbut.block _ (by omega) (by omega)).trans HD8.out)
      obtain ⟨d0, _, _, _, _, _⟩ := box6 HDr.out
      have HSr := Lib.hid hS
      have HO1 := Lib.hid ho1
      have HO2 := Lib.hid ho2
      have HNe := Lib.hid hne
      have HBu := Lib.hid hbut
      by_cases hlt : k < N
      · have lk : (k : Int) < (N : Int) := by omega
        have hvk := vF_le ws (i := k) (by omega)
        clear hS ho1 ho2 hne
        go_upto_if 53 with fail
        go_cut [14] from 53 to 58 (fun t14 wq => t14 = .int .i64 (vF ws k) ∧ wq = wr)
        case first =>
          by_cases hlo : k < ws.length
          · have lo : (k : Int) < (ws.length : Int) := by omega
            have hW0 := HLo.out _ _ HRows.out.2.2.2.2.2.2 _ HB8.out
            obtain ⟨b, off, rfl, hbl, hcell'⟩ := hW0 k hlo
            have hb0 := C2.ints_lt HRows.out.2.2.2.2.2.2 b off rfl (by omega)
            have hcell := (hbut.cell (p := ⟨b, off + k, none⟩) hbl (by show ¬ b = _; omega)).trans hcell'
            have hv : ((vF ws k : Nat) : Int) = ws.getD k 0 % 256 := by
              unfold vF
              rw [if_pos hlo]
              omega
            generalize ws.getD k 0 = z at *
            generalize vF ws k = vk at *
            clear hbut hW0 hcell' hb0
            go_wp2_with (first | (go_at_call 9; refine (top_within _ _ _ (by omega) (by omega)).mono ?_; rintro e w' ⟨rfl, rfl⟩) | fail)
            go_meet
            exact ⟨by rw [hv], rfl⟩
          · have lo : ¬ (k : Int) < (ws.length : Int) := by omega
            have hv : vF ws k = k := by unfold vF; rw [if_neg hlo]
            clear hbut
            go_wp2_with fail
            go_meet
            exact ⟨by rw [hv], rfl⟩
        case rest =>
          obtain ⟨rfl, rfl⟩ := hcut
          generalize hvk' : vF ws k = vk at *
          have c3 := bcell HSr.out 3
          change _ = some _ at c3
          have f3 : wc.frozen? ⟨w6.heap.size, 3, none⟩ = false := by simp [World.frozen?, HSr.out]
          clear hbut d0
          go_wp2_with (at_builtin; refine seq_own2 32 52 4 32 (.agg #[.int .i64 0, .int .i64 0, .int .i64 0, .int .i64 0]) Tryz.underlying32 Go.Proofs.YtdbempiompiioaaGreat.CL.info52 rfl (by decide) rfl _ _ rfl w8.heap.size vc k (callCells (2 * N + 12) (vF ws) k) rfl (HO1.out.alloc _) wc.heap.size #[.int .i64 (2 * N + 12), .int .i64 k, .int .i64 0, .int .i64 vk] rfl (heap_alloc_new wc _) rfl (fun u hu => by simp at hu; rcases hu with rfl | rfl | rfl | rfl <;> rfl) (by omega) (by omega) (by simp; omega) ?_)
          intro g1 cap1 w9 hown9 hb9 hg1
          have hb9' := ((But.refl (fun b => w8.heap.size ≤ b ∧ vc.ownBlock = some b) wc).alloc _).trans hb9
          have zw9 := hb9'.size
          have hS9 := (hb9'.block w6.heap.size (by omega) (fun e => by omega)).trans HSr.out
          have HO2b := Lib.hid (A59.own_but2 HO2.out hb9' (fun b e h => HNe.out b h.2 e))
          have lg1 := (World.ownsRow.lt hown9 g1 rfl).2
          have hg1' : u12.ownBlock ≠ some g1 := fun e => by
            rcases hg1 with h | h
            · exact HNe.out g1 h e
            · have := (World.ownsRow.lt HO2.out g1 e).2
              omega
          have c3' := bcell hS9 3
          change _ = some _ at c3'
          have f3' : w9.frozen? ⟨w6.heap.size, 3, none⟩ = false := by simp [World.frozen?, hS9]
          have hS10 : (w9.setCell ⟨w6.heap.size, 3, none⟩ (.slice (some ⟨g1, 0, none⟩) (k + 1) cap1)).heap[w6.heap.size]? = some (.cells #[.slice OA1 N OC1, .slice DA1 dr.length DC1, .slice EA1 er.length EC1, .slice (some ⟨g1, 0, none⟩) (k + 1) cap1, .int .i64 2, .int .i64 fat, .int .i64 1000, .int .i64 1000, .slice none 0 0, .slice none 0 0, .int .i64 (2 * N + 20)] 34 (0, 0)) := heap_setCell_same _ _ 3 _ _ _ hS9
          have HB10 := Lib.hid ((But.up HBu.out hb9' (Nat.le_refl _)).setCell (p := ⟨w6.heap.size, 3, none⟩) (.inl rfl) (.slice (some ⟨g1, 0, none⟩) (k + 1) cap1))
          have HO1c := Lib.hid (ownsRow_setCell_below (a := ⟨w6.heap.size, 3, none⟩) hown9 (show w6.heap.size < w8.heap.size by omega) (.slice (some ⟨g1, 0, none⟩) (k + 1) cap1))
          have HO2c := Lib.hid (ownsRow_setCell_below (a := ⟨w6.heap.size, 3, none⟩) HO2b.out (show w6.heap.size < w8.heap.size by omega) (.slice (some ⟨g1, 0, none⟩) (k + 1) cap1))
          have HS10 := Lib.hid hS10
          clear c3 f3 hb9 hb9' hS9 hown9 hS10 HO1 HO2 HO2b HSr
          go_upto_region 18 with fail
          clear c3' f3'
          generalize hw10 : w9.setCell ⟨w6.heap.size, 3, none⟩ (.slice (some ⟨g1, 0, none⟩) (k + 1) cap1) = w10 at *
          have HZ10 := Lib.hid (show w10.heap.size = w9.heap.size by rw [← hw10]; simp [World.setCell])
          clear hw10
          go_wp2_with (at_builtin; refine seq_own2 59 44 2 16 (.agg #[.int .i64 0, .int .i64 0]) Tryz.underlying59 Go.Proofs.YtdbempiompiioaaGreat.CL.info44 rfl (by decide) rfl _ _ rfl w8.heap.size u12 k (wantCells (vF ws) k) rfl (HO2c.out.alloc _) w10.heap.size #[.int .i64 2, .int .i64 vk] rfl (heap_alloc_new w10 _) rfl (fun u hu => by simp at hu; rcases hu with rfl | rfl <;> rfl) (by omega) (by omega) (by have := HZ10.out; simp; omega) ?_)
          have zw10 := HZ10.out
          intro g2 cap2 w11 hown11 hb11 hg2
          have hb11' := ((But.refl (fun b => w8.heap.size ≤ b ∧ u12.ownBlock = some b) w10).alloc _).trans hb11
          have HO1d := Lib.hid (A59.own_but2 HO1c.out hb11' (fun b e h => by
            have : b = g1 := by simpa [Value.ownBlock] using e.symm
            subst this
            exact hg1' h.2))
          have HS11 := Lib.hid ((hb11'.block w6.heap.size (by omega) (fun e => by omega)).trans HS10.out)
          have hne2 : g2 ≠ g1 := fun e => by
            rcases hg2 with h | h
            · exact hg1' (by rw [h, e])
            · omega
          have HB11 := Lib.hid (But.up HB10.out hb11' (Nat.le_refl _))
          have HO2d := Lib.hid hown11
          clear hb11 hb11' hown11
          go_wp2
          go_roundw
          case rel =>
            refine ⟨k + 1, .slice (some ⟨g1, 0, none⟩) (k + 1) cap1, by omega, by go_num, HS11.out, ?_, ?_, fun b h1 h2 => ?_, HB11.out⟩
            · have := HO1d.out
              simp only [callCells, hvk']
              simpa [HF.out] using this
            · have := HO2d.out
              simp only [wantCells, hvk']
              simpa using this
            · have e1 : b = g1 := by simpa [Value.ownBlock] using h1.symm
              have e2 : b = g2 := by simpa [Value.ownBlock] using h2.symm
              exact hne2 (e2.symm.trans e1)
          case measure => simp [intOf]; omega
      · obtain rfl : N = k := by omega
        have lk : ¬ (N : Int) < (N : Int) := by omega
        have hcc := ho1
        rw [callCells_is] at hcc
        obtain ⟨LA, LC, rfl, hLs, _⟩ := cls_of_own hcc (callL_length _ _ _).symm
        rw [callL_length] at *
        obtain ⟨gw, capw, rfl, _, hgw, hwc⟩ := own_some ho2 (by omega)
        have HWc := Lib.hid (show ∀ j, j < N → wr.cell? ⟨gw, j * 2, none⟩ = some (.int .i64 2) ∧ wr.cell? ⟨gw, j * 2 + 1, none⟩ = some (.int .i64 (vF ws j)) from fun j hj => by
          obtain ⟨h1, h2⟩ := wantCells_at (vF ws) N j hj
          exact ⟨hwc _ _ h1, hwc _ _ h2⟩)
        have HPr := Lib.hid (ints_keep HP8.out hbut (fun b off e h => by have := C2.ints_lt HP5.out b off e h; omega))
        have HI0r := Lib.hid (ints_keep HI08.out hbut (fun b off e h => by have := HLi.out.1 b off e h; omega))
        have HI1r := Lib.hid (ints_keep HI18.out hbut (fun b off e h => by have := HLi.out.2.1 b off e h; omega))
        have HI2r := Lib.hid (ints_keep HI28.out hbut (fun b off e h => by have := HLi.out.2.2 b off e h; omega))
        have HBr := Lib.hid (HB8.out.trans (hbut.to_below (by have := HB8.out.size; omega) (fun b e => by omega)))
        obtain ⟨T, hT, hPlay⟩ := link_play (PA := PA) (OA := OA1) (DA := DA1) (EA := EA1) (LA := LA) (CA := none) (VA := none) (PC := PC) (OC := OC1) (DC := DC1) (EC := EC1) (LC := LC) (CL := 0) (CC := 0) (VL := 0) (VC := 0) (v := vF ws) HCf.out hol hon hdl hel lk0 lk1 (fun k hk => vF_le ws (by omega))
        have hN13 := net_New ⟨N, Pi, Er, G, Fi, ps, PA, PC, on, OA1, OC1, dr, DA1, DC1, er, EA1, EC1, callL (2 * N + 12) (vF ws) N, LA, LC, 2, fat, 1000, 1000, none, 0, 0, none, 0, 0, 2 * N + 20⟩ wr hPlay.ok HPr.out HI0r.out HI1r.out HI2r.out hLs (fun e => by have := congrArg List.length e; rw [callL_length] at this; simp at this; omega) (fun k hk => by
          have hm : on.getD k 0 ∈ on := by rw [List.getD_eq_getElem?_getD, List.getElem?_eq_getElem hk]; exact List.getElem_mem _
          have := hon _ hm
          show -1 ≤ on.getD k 0 ∧ on.getD k 0 ≤ 200
          omega) (fun k hk => by
          have hk' : k < N := by simpa [callL] using hk
          show ((callL (2 * N + 12) (vF ws) N).getD k ⟨0, 0, 0, 0⟩).round ≤ 200 ∧ ((callL (2 * N + 12) (vF ws) N).getD k ⟨0, 0, 0, 0⟩).node < N ∧ ((callL (2 * N + 12) (vF ws) N).getD k ⟨0, 0, 0, 0⟩).pair ≤ ps.length
          rw [callL_at _ _ _ _ hk']
          exact ⟨by show 2 * N + 12 ≤ 200; omega, hk', Nat.zero_le _⟩)
        simp only [callL_length] at hN13
        have HN13 := Lib.hid hN13
        have HPlay := Lib.hid hPlay
        obtain ⟨d0, d1, d2, d3, d4, d5⟩ := box6 HDr.out
        obtain ⟨c0, c1, c2, c3, c4, c5, c6, c7, c8, c9, c10⟩ := box11 HSr.out
        clear hcc hLs hwc hN13 hPlay hS ho1 ho2 hne hbut
        go_wp2_with fail
        refine HN13.out.mono ?_
        rintro e w12 ⟨LO, PA', OA', DA', EA', LA', PC', OC', DC', EC', LC', Q, rfl, hb13, hLO, hNet⟩
        obtain ⟨c, hcN, hcp, hcR, P, hCo⟩ : ∃ c : NC, c.N = N ∧ c.ps.length = ps.length ∧ c.rounds = 2 * N + 20 ∧ Play c T (2 * N + 12) (vF ws) ∧ Course c T (2 * N + 12) (vF ws) (LO + 1) LO 0 w12 :=
          ⟨_, rfl, rfl, rfl, Play.made HPlay.out PA' OA' DA' EA' LA' PC' OC' DC' EC' LC', _, _, _, _, _, _, _, _, _, _, _, _, hNet, Inv.begin (Play.made HPlay.out PA' OA' DA' EA' LA' PC' OC' DC' EC' LC')⟩
        have HP := Lib.hid P
        have HC0 := Lib.hid hCo
        have s12 := hb13.size
        have HB12 := Lib.hid (HBr.out.trans (hb13.mono (by have := HBr.out.size; omega)))
        have HD12 := Lib.hid ((hb13.block _ (by omega)).trans HDr.out)
        have HW12 := Lib.hid (show ∀ j, j < N → w12.cell? ⟨gw, j * 2, none⟩ = some (.int .i64 2) ∧ w12.cell? ⟨gw, j * 2 + 1, none⟩ = some (.int .i64 (vF ws j)) from fun j hj => ⟨keep_of (HWc.out j hj).1 hgw hb13, keep_of (HWc.out j hj).2 hgw hb13⟩)
        have hplen := HCf.out.len
        have wf2 : IntKind.i64.wrap (2 * (N : Int) + 12 + 2) = 2 * N + 14 := by rw [IntKind.wrap_i64]; omega
        have hb0 := HB12.out.size
        clear HN13 hNet hb13 P hCo d0 d1 d2 d3 d4 d5 c0 c1 c2 c3 c4 c5 c6 c7 c8 c9 c10 HWc HPr HI0r HI1r HI2r HBr HDr HSr HO1 HO2 HNe HBu HPlay
        go_wp2
        go_loopw [] (fun wr => ∃ r : Nat, r ≤ 2 * N + 14 ∧ Course c T (2 * N + 12) (vF ws) (LO + 1) LO r wr ∧ Below LO w12 wr) (fun wr => 2 * N + 14 - roundOf wr (LO + 1))
        case atStart => exact ⟨0, by omega, HC0.out, Below.refl _ _⟩
        case round =>
          obtain ⟨r, hr, hC, hbw⟩ := hrel
          have hrd := roundOf_is (course_r hC)
          have h17 := course_r hC
          have HCr := Lib.hid hC
          have HBw := Lib.hid hbw
          have HRd := Lib.hid (show Calls Tryz.prog 14 #[.pointer (some ⟨LO + 1, 0, none⟩)] wr fun e w' => e = .returned (.int .i64 r) ∧ wr = w' from (net_Round (LO + 1) r _ h17).mono fun e w' h => ⟨h.1, h.2.symm⟩)
          have sw := hbw.size
          by_cases hlt : r < 2 * N + 14
          · have lr : (r : Int) < 2 * (N : Int) + 14 := by omega
            have HSt := Lib.hid (course_step HP.out hC (by rw [hcR]; omega))
            clear hC h17 hbw
            go_wp2_with (first | (go_at_call 14; refine HRd.out.mono ?_; rintro e w' ⟨rfl, rfl⟩) | fail)
            refine HSt.out.mono ?_
            rintro e w14 ⟨rfl, hb2, hC2⟩
            have HC2 := Lib.hid hC2
            have hrd2 := roundOf_is (course_r hC2)
            have HB2 := Lib.hid (HBw.out.trans (hb2.mono (by omega)))
            clear hC2 hb2
            go_wp2
            go_roundw
            case rel => exact ⟨r + 1, by omega, HC2.out, HB2.out⟩
            case measure => rw [hrd, hrd2]; omega
          · obtain rfl : r = 2 * N + 14 := by omega
            have lr : ¬ ((2 * N + 14 : Nat) : Int) < 2 * (N : Int) + 14 := by omega
            have lr2 : (decide (((2 * N + 14 : Nat) : Int) < 2 * (N : Int) + 14)) = false := by simp
            clear hC h17 hbw
            go_wp2_with (first | (go_at_call 14; refine HRd.out.mono ?_; rintro e w' ⟨rfl, rfl⟩) | fail)
            obtain ⟨ND, h18, hlog⟩ := course_log (F := 2 * N + 12) HP.out (by omega) (by omega) HCr.out
            rw [hcN, hcp] at hlog
            rw [hcN] at h18
            have HLog := Lib.hid hlog
            have HN18 := Lib.hid h18
            have HDz := Lib.hid ((HBw.out.block _ (by omega)).trans HD12.out)
            have HWz := Lib.hid (show ∀ j, j < N → wr.cell? ⟨gw, j * 2, none⟩ = some (.int .i64 2) ∧ wr.cell? ⟨gw, j * 2 + 1, none⟩ = some (.int .i64 (vF ws j)) from fun j hj => ⟨(HBw.out.cell (p := ⟨gw, j * 2, none⟩) (show gw < LO by omega)).trans (HW12.out j hj).1, (HBw.out.cell (p := ⟨gw, j * 2 + 1, none⟩) (show gw < LO by omega)).trans (HW12.out j hj).2⟩)
            have HBz := Lib.hid (HB12.out.trans (HBw.out.mono (by have := HB12.out.size; omega)))
            have lD := heap_lt HDz.out
            have lN := World.block_lt_of_cell? wr _ h18
            have lW := World.block_lt_of_cell? wr _ (HWz.out 0 (by omega)).1
            clear hlog h18 HRd HC0 HCr HB12 HBw HD12 HW12 lr lr2 hrd
            generalize wr = wz at *
            go_loopw [17] (fun t wr => ∃ i : Nat, i ≤ N ∧ t = .int .i64 i ∧ Below wz.heap.size wz wr) (fun t _ => N - (intOf t).toNat)
            case atStart => exact ⟨0, by omega, rfl, Below.refl _ _⟩
            case round =>
              obtain ⟨i, hi, rfl, hbi⟩ := hrel
              have si := hbi.size
              obtain ⟨d0, d1, d2, d3, d4, d5⟩ := box6 ((hbi.block _ lD).trans HDz.out)
              by_cases hlt : i < N
              · have lk : (i : Int) < (N : Int) := by omega
                obtain ⟨n, lv, xs, hl, ho, hn0, hn, h1, hr0, hxs⟩ := HLog.out i hlt
                have HTl := Lib.hid (top_last (LO + 1) ND N i n LO Pi Er G Fi PA ps.length PC (2 * (N : Int) + 12) lv xs wr (keep_of HN18.out lN hbi) hlt (by omega) (by omega) (keep_of hl (World.block_lt_of_cell? wz _ hl) hbi) (own_below ho hbi) hn0 hn h1 (by rw [hr0]; congr 1))
                have HXs := Lib.hid hxs
                have HBi := Lib.hid hbi
                clear hl ho h1 hr0 hxs hbi
                go_wp2_with fail
                refine HTl.out.mono ?_
                rintro e w15 ⟨gl, capl, rfl, hxc, hb15⟩
                have hb15' := HBi.out.trans (hb15.mono si)
                have HB15 := Lib.hid hb15'
                have sz15 := hb15'.size
                have HL15 := Lib.hid (show ∀ s, s < N → w15.cell? ⟨gl, (n - (N + ps.length)) * 4 + s * 4 + 2, none⟩ = some (.int .i64 2) ∧ w15.cell? ⟨gl, (n - (N + ps.length)) * 4 + s * 4 + 3, none⟩ = some (.int .i64 (vF ws s)) from fun s hs => ⟨hxc _ _ (HXs.out s hs).1, hxc _ _ (HXs.out s hs).2⟩)
                have HW15 := Lib.hid (show ∀ j, j < N → w15.cell? ⟨gw, j * 2, none⟩ = some (.int .i64 2) ∧ w15.cell? ⟨gw, j * 2 + 1, none⟩ = some (.int .i64 (vF ws j)) from fun j hj => ⟨keep_of (HWz.out j hj).1 lW hb15', keep_of (HWz.out j hj).2 lW hb15'⟩)
                have HD15 := Lib.hid ((hb15'.block _ lD).trans HDz.out)
                have lL := World.block_lt_of_cell? w15 _ (HL15.out 0 (by omega)).1
                have eqn := eq45s gl ((n - (N + ps.length)) * 4) (N + ps.length) capl w15
                clear hxc hb15 hb15' d0 d1 d2 d3 d4 d5 HTl HXs
                go_wp2
                clear eqn
                go_loopw [19] (fun t wr => ∃ k : Nat, k ≤ N ∧ t = .int .i64 k ∧ Below w15.heap.size w15 wr) (fun t _ => N - (intOf t).toNat)
                case atStart => exact ⟨0, by omega, rfl, Below.refl _ _⟩
                case round =>
                  obtain ⟨k, hk, rfl, hbk⟩ := hrel
                  have sk := hbk.size
                  have lD15 := heap_lt HD15.out
                  obtain ⟨d0, _, _, _, _, _⟩ := box6 ((hbk.block _ lD15).trans HD15.out)
                  have HBk := Lib.hid hbk
                  by_cases hlk : k < N
                  · have lk2 : (k : Int) < (N : Int) := by omega
                    have lW15 := World.block_lt_of_cell? w15 _ (HW15.out 0 (by omega)).1
                    have a2 := keep_of (HL15.out k hlk).1 lL hbk
                    have a3 := keep_of (HL15.out k hlk).2 lL hbk
                    have q0 := keep_of (HW15.out k hlk).1 lW15 hbk
                    have q1 := keep_of (HW15.out k hlk).2 lW15 hbk
                    have lks : (k : Int) < ((N + ps.length : Nat) : Int) := by omega
                    have lks2 : k < N + ps.length := by omega
                    have lks3 : (k : Int) < (N : Int) + ps.length := by omega
                    generalize vF ws k = vk at *
                    clear hbk
                    go_wp2_with fail
                    refine wp_region_held_drew (S := fun w' => w'.cell? ⟨gl, (n - (N + ps.length)) * 4 + k * 4 + 2, none⟩ = some (.int .i64 2) ∧ w'.cell? ⟨gl, (n - (N + ps.length)) * 4 + k * 4 + 3, none⟩ = some (.int .i64 vk) ∧ w'.cell? ⟨gw, k * 2, none⟩ = some (.int .i64 2) ∧ w'.cell? ⟨gw, k * 2 + 1, none⟩ = some (.int .i64 vk)) (by kernel_rfl) ⟨a2, a3, q0, q1⟩ (fun hHeld => ?_)
                    refine rgT 0 ?_
                    refine rgT 1 ?_
                    refine rgT 2 ?_
                    refine rgT 3 ?_
                    refine rgT 4 ?_
                    refine rgT 5 ?_
                    refine rgT 6 ?_
                    refine rgT 7 ?_
                    refine rgT 8 ?_
                    refine rgT 9 ?_
                    refine wpAnyH_done (by kernel_rfl) ?_ _
                    clear hHeld a2 a3 q0 q1 d0
                    go_wp2
                    go_roundw
                    case rel => exact ⟨k + 1, by omega, by go_num, HBk.out.drew⟩
                    case measure => simp [intOf]; omega
                  · obtain rfl : N = k := by omega
                    have lk2 : ¬ (N : Int) < (N : Int) := by omega
                    clear hbk
                    go_wp2
                    go_roundw
                    case rel => exact ⟨i + 1, by omega, by go_num, HB15.out.trans (HBk.out.mono (by omega))⟩
                    case measure => simp [intOf]; omega
              · obtain rfl : N = i := by omega
                have lk : ¬ (N : Int) < (N : Int) := by omega
                have HBi := Lib.hid hbi
                clear hbi
                go_wp2
                go_ret
                exact ⟨rfl, HBz.out.trans (HBi.out.mono (by have := HBz.out.size; omega))⟩
end Go.Proofs.YtdbempiompiioaaGreat.C10
