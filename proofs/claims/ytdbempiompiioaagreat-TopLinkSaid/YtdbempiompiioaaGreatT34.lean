/- A script of a raw run: plaitinglaw17's Run.Script. A script whose nodes are powered within so many rounds: plaitinglaw17's Run.Late. Conditions: the bounds stated in each theorem. -/
import Derived.Test.YtdbempiompiioaaGreatT04
import Derived.Test.YtdbempiompiioaaGreatT33
set_option linter.unusedVariables false
set_option linter.unusedSimpArgs false
namespace Go.Proofs.YtdbempiompiioaaGreat.C6
open Go.RowKit A1 A2 A3 A4 A9 A10 A11 A12 A13 A14 A18 A35 A46 A48 A50 A52 C1 C2 C3 C4 C5

def ScriptRet (N : Nat) (late rounds : Int) (w : World) (e : Ending) (w' : World) : Prop := ∃ (on dr er : List Int) (OA DA EA : Option Addr) (OC DC EC : Nat) (fk fa ff ft : Int) (FA : Option Addr) (FL FC : Nat) (HA : Option Addr) (HL HC : Nat),
  e = .returned (.agg #[.slice OA on.length OC, .slice DA dr.length DC, .slice EA er.length EC, .slice none 0 0, .int .i64 fk, .int .i64 fa, .int .i64 ff, .int .i64 ft, .slice FA FL FC, .slice HA HL HC, .int .i64 rounds]) ∧ on.length = N ∧ (∀ z ∈ on, 0 ≤ z ∧ z ≤ late) ∧ dr.length ≤ 20 ∧ er.length ≤ 20 ∧ Ints w' OA on ∧ Ints w' DA dr ∧ Ints w' EA er ∧ (∀ b off, OA = some ⟨b, off, none⟩ → w.heap.size ≤ b) ∧ (∀ b off, DA = some ⟨b, off, none⟩ → w.heap.size ≤ b) ∧ (∀ b off, EA = some ⟨b, off, none⟩ → w.heap.size ≤ b) ∧ Below w.heap.size w w'
theorem own_ints {w : World} {base n : Nat} {v : Value} {l : List Int} (h : w.ownsRow base 3 1 v n (l.map (Value.int .i64))) (hn : l.length = n) : ∃ A C, v = .slice A l.length C ∧ Ints w A l ∧ ∀ b off, A = some ⟨b, off, none⟩ → base ≤ b := by
  subst hn
  obtain ⟨A, C, e, h1, _⟩ := ints_of_own h
  refine ⟨A, C, e, h1, fun b off eA => ?_⟩
  rcases own_split h with ⟨h2, _⟩ | ⟨g, cap, h2, hg, _⟩
  · rw [e, eA] at h2; cases h2
  · rw [e, eA] at h2; cases h2; exact hg
theorem put11 {w : World} {R : Nat} {z0 z1 z2 z3 z4 z5 z6 z7 z8 z9 z10 : Value} {t : TypeId} (h : w.heap[R]? = some (.cells #[z0, z1, z2, z3, z4, z5, z6, z7, z8, z9, z10] t (0, 0))) (a0 a1 a2 a3 a4 a5 a6 a7 a8 a9 a10 : Value) :
    (((((((((((w.setCell ⟨R, 0, none⟩ a0).setCell ⟨R, 1, none⟩ a1).setCell ⟨R, 2, none⟩ a2).setCell ⟨R, 3, none⟩ a3).setCell ⟨R, 4, none⟩ a4).setCell ⟨R, 5, none⟩ a5).setCell ⟨R, 6, none⟩ a6).setCell ⟨R, 7, none⟩ a7).setCell ⟨R, 8, none⟩ a8).setCell ⟨R, 9, none⟩ a9).setCell ⟨R, 10, none⟩ a10).heap[R]? = some (.cells #[a0, a1, a2, a3, a4, a5, a6, a7, a8, a9, a10] t (0, 0)) ∧
    But (fun b => b = R) w (((((((((((w.setCell ⟨R, 0, none⟩ a0).setCell ⟨R, 1, none⟩ a1).setCell ⟨R, 2, none⟩ a2).setCell ⟨R, 3, none⟩ a3).setCell ⟨R, 4, none⟩ a4).setCell ⟨R, 5, none⟩ a5).setCell ⟨R, 6, none⟩ a6).setCell ⟨R, 7, none⟩ a7).setCell ⟨R, 8, none⟩ a8).setCell ⟨R, 9, none⟩ a9).setCell ⟨R, 10, none⟩ a10) :=
  ⟨by
    have := heap_setCell_same _ _ 10 _ _ a10 (heap_setCell_same _ _ 9 _ _ a9 (heap_setCell_same _ _ 8 _ _ a8 (heap_setCell_same _ _ 7 _ _ a7 (heap_setCell_same _ _ 6 _ _ a6 (heap_setCell_same _ _ 5 _ _ a5 (heap_setCell_same _ _ 4 _ _ a4 (heap_setCell_same _ _ 3 _ _ a3 (heap_setCell_same _ _ 2 _ _ a2 (heap_setCell_same _ _ 1 _ _ a1 (heap_setCell_same _ _ 0 _ _ a0 h))))))))))
    simpa only [List.setIfInBounds_toArray, List.set_cons_zero, List.set_cons_succ] using this,
    ((((((((((((But.refl (fun b => b = R) w).setCell (p := ⟨R, 0, none⟩) (.inl rfl) _).setCell (p := ⟨R, 1, none⟩) (.inl rfl) _).setCell (p := ⟨R, 2, none⟩) (.inl rfl) _).setCell (p := ⟨R, 3, none⟩) (.inl rfl) _).setCell (p := ⟨R, 4, none⟩) (.inl rfl) _).setCell (p := ⟨R, 5, none⟩) (.inl rfl) _).setCell (p := ⟨R, 6, none⟩) (.inl rfl) _).setCell (p := ⟨R, 7, none⟩) (.inl rfl) _).setCell (p := ⟨R, 8, none⟩) (.inl rfl) _).setCell (p := ⟨R, 9, none⟩) (.inl rfl) _).setCell (p := ⟨R, 10, none⟩) (.inl rfl) _)⟩
theorem ints_keep {w w1 : World} {A : Option Addr} {l : List Int} {X : Nat} (h : Ints w A l) (hb : But (fun b => b = X) w w1) (hA : ∀ b off, A = some ⟨b, off, none⟩ → 0 < l.length → b ≠ X) : Ints w1 A l := fun k hk => by
  obtain ⟨b, off, e, h1, h2⟩ := h k hk
  have := hb.size
  exact ⟨b, off, e, by omega, (hb.cell (p := ⟨b, off + k, none⟩) h1 (hA b off e (by omega))).trans h2⟩
set_option maxRecDepth 100000 in
set_option maxHeartbeats 40000000 in
theorem Script (N : Nat) (Pi Er Gd Fi : Int) (PA : Option Addr) (PL PC : Nat) (on0 dr0 er0 : List Int) (OA DA EA : Option Addr) (OC DC EC : Nat) (a0 a1 a2 a3 : Int) (CA : Option Addr) (CL CC : Nat) (VA : Option Addr) (vs : List Int) (VC : Nat) (late rounds : Int) (w : World)
    (hN : 1 ≤ N) (hN2 : N ≤ 12) (hE0 : 0 ≤ Er) (hE1 : Er ≤ 20) (hG0 : 0 ≤ Gd) (hG1 : Gd ≤ 20) (hl0 : 0 ≤ late) (hl1 : late ≤ 100) (hA : ActsAt w CA CL) (hL : CL ≤ 9223372036854775807) (hV : Ints w VA vs) (hVL : vs.length ≤ 9223372036854775807)
    (hO : Ints w OA on0) (hOL : on0.length ≤ 9223372036854775807) (hD : Ints w DA dr0) (hDL : dr0.length ≤ 9223372036854775807) (hE : Ints w EA er0) (hEL : er0.length ≤ 9223372036854775807) :
    Calls Tryz.prog 21 #[.agg #[.slice OA on0.length OC, .slice DA dr0.length DC, .slice EA er0.length EC, .slice none 0 0, .int .i64 a0, .int .i64 a1, .int .i64 a2, .int .i64 a3, .slice CA CL CC, .slice VA vs.length VC], .agg #[.int .i64 N, .int .i64 Pi, .int .i64 Er, .int .i64 Gd, .int .i64 Fi, .slice PA PL PC], .int .i64 late, .int .i64 rounds] w (ScriptRet N late rounds w) := by
  have HM := Lib.hid (fun w' (h1 : ActsAt w' CA CL) (h2 : Ints w' VA vs) => l6_Make N Pi Er Gd Fi PA PL PC a0 a1 a2 a3 CA CL CC VA vs VC w' hN hN2 h1 hL h2 hVL)
  have wl : IntKind.i64.wrap (late + 1) = late + 1 := by rw [IntKind.wrap_i64]; omega
  have wg1 : IntKind.i64.wrap (2 * Gd) = 2 * Gd := by rw [IntKind.wrap_i64]; omega
  have wg2 : IntKind.i64.wrap (2 * Gd + 3) = 2 * Gd + 3 := by rw [IntKind.wrap_i64]; omega
  have we1 : IntKind.i64.wrap (2 * Er) = 2 * Er := by rw [IntKind.wrap_i64]; omega
  have we2 : IntKind.i64.wrap (2 * Er + 3) = 2 * Er + 3 := by rw [IntKind.wrap_i64]; omega
  obtain ⟨hR, hC, hZ, hz, hB⟩ := three w (.cells #[.slice OA on0.length OC, .slice DA dr0.length DC, .slice EA er0.length EC, .slice none 0 0, .int .i64 a0, .int .i64 a1, .int .i64 a2, .int .i64 a3, .slice CA CL CC, .slice VA vs.length VC] 29) (.cells #[.int .i64 N, .int .i64 Pi, .int .i64 Er, .int .i64 Gd, .int .i64 Fi, .slice PA PL PC] 24) (.cells #[.slice none 0 0, .slice none 0 0, .slice none 0 0, .slice none 0 0, .int .i64 0, .int .i64 0, .int .i64 0, .int .i64 0, .slice none 0 0, .slice none 0 0, .int .i64 0] 34)
  have HRows := Lib.hid (And.intro hO (And.intro hD hE))
  have HAV := Lib.hid (And.intro hA hV)
  clear hA hV hO hD hE
  go_enter Tryz.func21, Tryz.ntmps21
  go_upto_region 1 with fail
  generalize ((w.alloc (.cells #[.slice OA on0.length OC, .slice DA dr0.length DC, .slice EA er0.length EC, .slice none 0 0, .int .i64 a0, .int .i64 a1, .int .i64 a2, .int .i64 a3, .slice CA CL CC, .slice VA vs.length VC] 29)).alloc (.cells #[.int .i64 N, .int .i64 Pi, .int .i64 Er, .int .i64 Gd, .int .i64 Fi, .slice PA PL PC] 24)).alloc (.cells #[.slice none 0 0, .slice none 0 0, .slice none 0 0, .slice none 0 0, .int .i64 0, .int .i64 0, .int .i64 0, .int .i64 0, .slice none 0 0, .slice none 0 0, .int .i64 0] 34) = wa at *
  obtain ⟨x0, x1, x2, x3, x4, x5⟩ := box6 hC
  have y4 := bcell hR 4
  have y5 := bcell hR 5
  have y6 := bcell hR 6
  have y7 := bcell hR 7
  have y8 := bcell hR 8
  have y9 := bcell hR 9
  change _ = some _ at y4 y5 y6 y7 y8 y9
  have HR := Lib.hid hR
  have HC := Lib.hid hC
  have HZ := Lib.hid hZ
  have HB := Lib.hid hB
  clear hR hC hZ hB
  go_wp2_with fail
  refine (HM.out wa (HAV.out.1.below HB.out) (ints_low HAV.out.2 HB.out (ints_lt HAV.out.2) (Nat.le_refl _))).mono ?_
  rintro e w1 ⟨fk, fa, ff, ft, FA, FL, FC, HA, HL, HCp, rfl, hb1⟩
  clear x0 x1 x2 x3 x4 x5 y4 y5 y6 y7 y8 y9
  have hX := heap_alloc_new w1 (.cells #[.slice none 0 0, .slice none 0 0, .slice none 0 0, .slice none 0 0, .int .i64 fk, .int .i64 fa, .int .i64 ff, .int .i64 ft, .slice FA FL FC, .slice HA HL HCp, .int .i64 rounds] 34)
  have hbx : Below w1.heap.size w1 (w1.alloc (.cells #[.slice none 0 0, .slice none 0 0, .slice none 0 0, .slice none 0 0, .int .i64 fk, .int .i64 fa, .int .i64 ff, .int .i64 ft, .slice FA FL FC, .slice HA HL HCp, .int .i64 rounds] 34)) := (Below.refl _ _).alloc (Nat.le_refl _) _
  go_upto_region 3 with fail
  generalize w1.alloc (.cells #[.slice none 0 0, .slice none 0 0, .slice none 0 0, .slice none 0 0, .int .i64 fk, .int .i64 fa, .int .i64 ff, .int .i64 ft, .slice FA FL FC, .slice HA HL HCp, .int .i64 rounds] 34) = wx at *
  have s1 := hb1.size
  have sx := hbx.size
  have lX := heap_lt hX
  have HRx := Lib.hid ((hbx.block _ (by omega)).trans ((hb1.block _ (by omega)).trans HR.out))
  have HCx := Lib.hid ((hbx.block _ (by omega)).trans ((hb1.block _ (by omega)).trans HC.out))
  have HZx := Lib.hid ((hbx.block _ (by omega)).trans ((hb1.block _ (by omega)).trans HZ.out))
  have HBx := Lib.hid (HB.out.trans ((hb1.mono (by omega)).trans (hbx.mono (by omega))))
  have HX := Lib.hid hX
  clear hX hbx hb1 HR HC HZ HB
  go_loopw [10] (fun t wr => ∃ (k : Nat) (on : List Int) (v : Value), k ≤ N ∧ t = .int .i64 k ∧ on.length = k ∧ (∀ z ∈ on, 0 ≤ z ∧ z ≤ late) ∧ wr.heap[w1.heap.size]? = some (.cells #[v, .slice none 0 0, .slice none 0 0, .slice none 0 0, .int .i64 fk, .int .i64 fa, .int .i64 ff, .int .i64 ft, .slice FA FL FC, .slice HA HL HCp, .int .i64 rounds] 34 (0, 0)) ∧ wr.ownsRow wx.heap.size 3 1 v k (on.map (Value.int .i64)) ∧ But (fun b => b = w1.heap.size) wx wr) (fun t _ => N - (intOf t).toNat)
  case atStart => exact ⟨0, [], .slice none 0 0, by omega, rfl, rfl, (fun z hz => by cases hz), HX.out, World.ownsRow_nil _ _ _ _, But.refl _ _⟩
  case round =>
    obtain ⟨k, on, v, hk, rfl, hol, hon, hx, hown, hbut⟩ := hrel
    have zr := hbut.size
    have HRr := Lib.hid ((hbut.block _ (by omega) (by omega)).trans HRx.out)
    have HCr := Lib.hid ((hbut.block _ (by omega) (by omega)).trans HCx.out)
    obtain ⟨x0, _, _, _, _, _⟩ := box6 HCr.out
    have y0 := bcell HRr.out 0
    change _ = some _ at y0
    have HXr := Lib.hid hx
    have HO := Lib.hid hown
    have HBu := Lib.hid hbut
    have HOn := Lib.hid hon
    by_cases hlt : k < N
    · have lk : (k : Int) < (N : Int) := by omega
      clear hx hown hon
      go_upto_if 32 with fail
      go_cut [11] from 32 to 40 (fun t11 wq => ∃ z : Int, t11 = .int .i64 z ∧ 0 ≤ z ∧ z ≤ late ∧ wq = wr)
      case first =>
        by_cases hlo : k < on0.length
        · have lo : (k : Int) < (on0.length : Int) := by omega
          have hO0 := ints_low HRows.out.1 HBx.out (ints_lt HRows.out.1) (Nat.le_refl _)
          obtain ⟨b, off, rfl, hbl, hcell'⟩ := hO0 k hlo
          have hb0 := ints_lt HRows.out.1 b off rfl (by omega)
          have hcell := (hbut.cell (p := ⟨b, off + k, none⟩) hbl (by show ¬ b = _; omega)).trans hcell'
          generalize on0.getD k 0 = z at *
          have za : 0 ≤ z % (late + 1) := Int.emod_nonneg _ (by omega)
          have zb : z % (late + 1) < late + 1 := Int.emod_lt_of_pos _ (by omega)
          clear hbut hO0 hcell' hb0
          go_wp2_with (first | (go_at_call 19; refine (within19 _ _ _ (by omega) (by omega)).mono ?_; rintro e w' ⟨rfl, rfl⟩) | fail)
          go_meet
          exact ⟨z % (late + 1), rfl, za, by omega, rfl⟩
        · have lo : ¬ (k : Int) < (on0.length : Int) := by omega
          clear hbut
          go_wp2_with fail
          go_meet
          exact ⟨0, rfl, by omega, by omega, rfl⟩
      case rest =>
        obtain ⟨z, rfl, za, zb, rfl⟩ := hcut
        have g0 := bcell HXr.out 0
        change _ = some _ at g0
        have f0 : wc.frozen? ⟨w1.heap.size, 0, none⟩ = false := by simp [World.frozen?, HXr.out]
        clear hbut x0 y0
        go_wp2_with (at_builtin; refine seq_own 22 3 1 8 (.int .i64 0) Tryz.underlying22 info3 rfl (by decide) rfl _ _ rfl wx.heap.size v k (on.map (Value.int .i64)) rfl (HO.out.alloc _) wc.heap.size #[.int .i64 z] rfl (heap_alloc_new wc _) rfl (fun u hu => by simp at hu; rw [hu]; rfl) (by omega) (by omega) (by simp; omega) ?_)
        intro gg cap w3 hown3 hb3
        have hb3' := ((But.refl (fun b => wx.heap.size ≤ b ∧ v.ownBlock = some b) wc).alloc _).trans hb3
        have hX3 := (hb3'.block w1.heap.size (by omega) (fun e => by omega)).trans HXr.out
        have n0 := bcell hX3 0
        change _ = some _ at n0
        have hfr3 : w3.frozen? ⟨w1.heap.size, 0, none⟩ = false := by simp [World.frozen?, hX3]
        have HX3 := Lib.hid (heap_setCell_same _ _ 0 _ _ (.slice (some ⟨gg, 0, none⟩) (k + 1) cap) hX3)
        have HB3 := Lib.hid hb3'
        have HO3 := Lib.hid hown3
        clear g0 f0 hb3 hb3' hX3 hown3
        go_wp2
        go_roundw
        case rel =>
          exact ⟨k + 1, on ++ [z], .slice (some ⟨gg, 0, none⟩) (k + 1) cap, by omega, by go_num, by simp; omega, (fun y hy => by
            rw [List.mem_append, List.mem_singleton] at hy
            rcases hy with hy | rfl
            · exact HOn.out y hy
            · omega), HX3.out, by rw [List.map_append]; exact ownsRow_setCell_below HO3.out (show w1.heap.size < _ by omega) _, (But.up HBu.out HB3.out (Nat.le_refl _)).setCell (p := ⟨w1.heap.size, 0, none⟩) (.inl rfl) _⟩
        case measure => simp [intOf]; omega
    · obtain rfl : k = N := by omega
      have lk : ¬ (k : Int) < (k : Int) := by omega
      obtain ⟨OA1, OC1, rfl, hOI, hOb⟩ := own_ints hown hol
      clear hbut hx hown hon
      go_upto_block 2 with fail
      generalize wr = wu at *
      have HIu := Lib.hid hOI
      have HIb := Lib.hid hOb
      have HXu := HXr
      have HRu := HRr
      have HCu := HCr
      have HZu := Lib.hid ((HBu.out.block _ (by omega) (by omega)).trans HZx.out)
      have HBw := Lib.hid (HBx.out.trans (HBu.out.to_below (by omega) (fun b e => by omega)))
      clear hOI hOb HXr HRr HCr HBu x0 y0
      go_upto_block 2 with fail
      go_cut [12] from 47 to 76 (fun t wq => ∃ (rows : List Int) (A : Option Addr) (C : Nat), rows.length ≤ 20 ∧ Ints wq A rows ∧ (∀ b off, A = some ⟨b, off, none⟩ → wu.heap.size ≤ b) ∧ (∃ v, v = .slice A rows.length C ∧ wq.heap[w1.heap.size]? = some (.cells #[.slice OA1 on.length OC1, v, .slice none 0 0, .slice none 0 0, .int .i64 fk, .int .i64 fa, .int .i64 ff, .int .i64 ft, .slice FA FL FC, .slice HA HL HCp, .int .i64 rounds] 34 (0, 0))) ∧ But (fun b => b = w1.heap.size) wu wq)
      case first =>
        have zwu := HBw.out.size
        go_wp2_with fail
        go_loopw [12] (fun t wr => ∃ (k : Nat) (rows : List Int) (v : Value), k ≤ 20 ∧ k ≤ dr0.length ∧ t = .int .i64 k ∧ rows.length = k ∧ wr.heap[w1.heap.size]? = some (.cells #[.slice OA1 on.length OC1, v, .slice none 0 0, .slice none 0 0, .int .i64 fk, .int .i64 fa, .int .i64 ff, .int .i64 ft, .slice FA FL FC, .slice HA HL HCp, .int .i64 rounds] 34 (0, 0)) ∧ wr.ownsRow wu.heap.size 3 1 v k (rows.map (Value.int .i64)) ∧ But (fun b => b = w1.heap.size) wu wr) (fun t _ => 20 - (intOf t).toNat)
        case atStart => exact ⟨0, [], .slice none 0 0, by omega, by omega, rfl, rfl, HXu.out, World.ownsRow_nil _ _ _ _, But.refl _ _⟩
        case round =>
          obtain ⟨k, rows, v, hk, hkl, rfl, hol, hx, hown, hbut⟩ := hrel
          have zr := hbut.size
          have lXu := heap_lt HXu.out
          have HRr := Lib.hid ((hbut.block _ (by omega) (by omega)).trans HRu.out)
          have HCr := Lib.hid ((hbut.block _ (by omega) (by omega)).trans HCu.out)
          obtain ⟨x0, _, x2, x3, _, _⟩ := box6 HCr.out
          have y := bcell HRr.out 1
          change _ = some _ at y
          have HXr := Lib.hid hx
          have HO := Lib.hid hown
          have HBu := Lib.hid hbut
          by_cases hlt : k < dr0.length
          · by_cases hk3 : k < 20
            · have lk1 : (k : Int) < (dr0.length : Int) := by omega
              have lk2 : (k : Int) < 20 := by omega
              have hO0 := ints_low HRows.out.2.1 HBw.out (ints_lt HRows.out.2.1) (Nat.le_refl _)
              obtain ⟨b, off, rfl, hbl, hcell'⟩ := hO0 k hlt
              have hb0 := ints_lt HRows.out.2.1 b off rfl (by omega)
              have hcell := (hbut.cell (p := ⟨b, off + k, none⟩) hbl (by show ¬ b = _; omega)).trans hcell'
              have hbl2 : b < wr.heap.size := by omega
              have g := bcell HXr.out 1
              change _ = some _ at g
              generalize dr0.getD k 0 = z at *
              have za : 0 ≤ z % (2 * Gd + 3) := Int.emod_nonneg _ (by omega)
              have zb : z % (2 * Gd + 3) < 2 * Gd + 3 := Int.emod_lt_of_pos _ (by omega)
              have wz1 : IntKind.i64.wrap (z % (2 * Gd + 3) - Gd) = z % (2 * Gd + 3) - Gd := by rw [IntKind.wrap_i64]; omega
              have wz2 : IntKind.i64.wrap (z % (2 * Gd + 3) - Gd - 1) = z % (2 * Gd + 3) - Gd - 1 := by rw [IntKind.wrap_i64]; omega
              clear hbut hO0 hcell' hx hown
              go_wp2_with fail
              refine AT.wp_region_tail (S := fun w' => w'.cell? ⟨w1.heap.size, 1, none⟩ = some v ∧ w'.cell? ⟨w.heap.size, 1, none⟩ = some (.slice (some ⟨b, off, none⟩) dr0.length DC) ∧ w'.cell? ⟨b, off + k, none⟩ = some (.int .i64 z) ∧ w'.cell? ⟨w.heap.size + 1, 3, none⟩ = some (.int .i64 Gd)) [18, 19] (by kernel_rfl) ⟨g, y, hcell, x3⟩ (fun hHeld => ?_)
              refine rgU 0 ?_
              refine rgU 1 ?_
              refine rgU 2 ?_
              refine rgU 3 ?_
              refine rgU 4 ?_
              refine rgU 5 ?_
              refine rgU 6 ?_
              refine rgU 7 ?_
              refine rgU 8 ?_
              refine rgU 9 ?_
              refine rgU 10 ?_
              refine rgU 12 ?_
              refine rgU 13 ?_
              refine AT.wpT_ready (rs := [11]) (by kernel_rfl) (by simp) (AT.AllT.cons rfl (fun K hK => ?_) AT.AllT.nil)
              go_simp
              refine (within19 _ _ _ (by omega) (by omega)).mono ?_
              rintro e w' ⟨rfl, rfl⟩
              go_simp
              refine hK.out _ _ ⟨g, y, hcell, x3⟩ (fun hHeld => ?_)
              clear hK K
              refine rgU 14 ?_
              refine rgU 15 ?_
              refine AT.wpT_ready (rs := [16]) (by kernel_rfl) (by simp) (AT.AllT.cons rfl (fun K hK => ?_) AT.AllT.nil)
              go_simp
              refine hK.out _ _ ⟨alloc_keep g, alloc_keep y, alloc_keep hcell, alloc_keep x3⟩ (fun hHeld => ?_)
              clear hK K
              refine AT.wpT_ready (rs := [17]) (by kernel_rfl) (by simp) (AT.AllT.cons rfl (fun K hK => ?_) AT.AllT.nil)
              refine app_int (by rfl) _ _ (by rfl) wu.heap.size v k (rows.map (Value.int .i64)) (by rfl) (HO.out.drew.alloc _) wr.heap.size (z % (2 * Gd + 3) - Gd - 1) (by rfl) (heap_alloc_new wr.drew _) (by omega) (by simp; omega) ?_
              intro gg cap w3 hown3 hb3
              have hb3' : But (fun x => wu.heap.size ≤ x ∧ v.ownBlock = some x) wr w3 := (((But.refl (fun x => wu.heap.size ≤ x ∧ v.ownBlock = some x) wr).drew).alloc _).trans hb3
              have hX3 := (hb3'.block w1.heap.size (by omega) (fun e => by omega)).trans HXr.out
              have n5 := bcell hX3 1
              change _ = some _ at n5
              have m5 := (hb3'.cell (p := ⟨w.heap.size, 1, none⟩) (by show w.heap.size < _; omega) (fun e => by have := e.1; simp only at this; omega)).trans y
              have mc := (hb3'.cell (p := ⟨b, off + k, none⟩) hbl2 (fun e => by have := e.1; simp only at this; omega)).trans hcell
              have mx := (hb3'.cell (p := ⟨w.heap.size + 1, 3, none⟩) (by show w.heap.size + 1 < _; omega) (fun e => by have := e.1; simp only at this; omega)).trans x3
              have hfr3 : w3.frozen? ⟨w1.heap.size, 1, none⟩ = false := by simp [World.frozen?, hX3]
              have HX3 := Lib.hid (heap_setCell_same _ _ 1 _ _ (.slice (some ⟨gg, 0, none⟩) (k + 1) cap) hX3)
              have HB3 := Lib.hid hb3'
              have HO3 := Lib.hid hown3
              clear g y hcell x0 x2 x3 hb3 hb3' hX3 hown3
              refine hK.out _ _ ⟨n5, m5, mc, mx⟩ (fun hHeld => ?_)
              clear hK K
              try simp only [Act.put, List.getElem_toArray, List.getElem_cons_succ, List.getElem_cons_zero, List.setIfInBounds_toArray, List.set_cons_zero, List.set_cons_succ]
              refine AT.wpT_ready (rs := [18]) (by kernel_rfl) (by simp) (AT.AllT.end rfl (by kernel_rfl) (fun K hK => ?_) AT.AllT.nil)
              go_simp
              refine hK.out _ _ ?_
              clear hK K
              refine AT.wpT_ready (rs := [19]) (by kernel_rfl) (by simp) (AT.AllT.end rfl (by kernel_rfl) (fun K hK => ?_) AT.AllT.nil)
              go_simp
              refine hK.out _ _ ?_
              clear hK K
              refine AT.wpT_done (by kernel_rfl) ?_ _
              clear n5 m5 mc mx hfr3 hHeld
              go_wp2
              go_roundw
              case rel =>
                exact ⟨k + 1, rows ++ [z % (2 * Gd + 3) - Gd - 1], .slice (some ⟨gg, 0, none⟩) (k + 1) cap, by omega, by omega, by go_num, by simp; omega, HX3.out, by rw [List.map_append]; exact ownsRow_setCell_below HO3.out (show w1.heap.size < _ by omega) _, (But.up HBu.out HB3.out (Nat.le_refl _)).setCell (p := ⟨w1.heap.size, 1, none⟩) (.inl rfl) _⟩
              case measure => simp [intOf]; omega
            · obtain rfl : k = 20 := by omega
              have lk1 : ((20 : Nat) : Int) < (dr0.length : Int) := by omega
              have lk2 : (20 : Int) < (dr0.length : Int) := by omega
              obtain ⟨A, C, e, hI, hb⟩ := own_ints hown hol
              clear hown hbut
              go_wp2_with fail
              go_meet
              exact ⟨rows, A, C, by omega, hI, hb, ⟨v, e, HXr.out⟩, HBu.out⟩
          · have lk1 : ¬ (k : Int) < (dr0.length : Int) := by omega
            obtain ⟨A, C, e, hI, hb⟩ := own_ints hown hol
            clear hown hbut
            go_wp2_with fail
            go_meet
            exact ⟨rows, A, C, by omega, hI, hb, ⟨v, e, HXr.out⟩, HBu.out⟩
      case rest =>
      generalize wc = wv at *
      obtain ⟨rows1, A1, C1, hlen1, hI1, hb1, ⟨_, rfl, hX1⟩, hbut⟩ := hcut
      have zu1 := HBw.out.size
      have zn1 := hbut.size
      have lXn1 := heap_lt HXu.out
      have HRn := Lib.hid ((hbut.block _ (by omega) (by omega)).trans HRu.out)
      have HCn := Lib.hid ((hbut.block _ (by omega) (by omega)).trans HCu.out)
      have HZn := Lib.hid ((hbut.block _ (by omega) (by omega)).trans HZu.out)
      have HBn := Lib.hid (HBw.out.trans (hbut.to_below (by omega) (fun b e => by omega)))
      have HIn := Lib.hid (ints_keep HIu.out hbut (fun b off e _ => by have := HIb.out b off e; omega))
      clear HRu HCu HZu HBw HXu HIu
      have HRu := HRn
      have HCu := HCn
      have HZu := HZn
      have HBw := HBn
      have HXu := Lib.hid hX1
      have HIu := HIn
      have HJu := Lib.hid hI1
      have HJb := Lib.hid hb1
      clear HRn HCn HZn HBn HIn hX1 hI1 hb1 hbut
      go_upto_block 4 with fail
      go_cut [13] from 77 to 106 (fun t wq => ∃ (rows : List Int) (A : Option Addr) (C : Nat), rows.length ≤ 20 ∧ Ints wq A rows ∧ (∀ b off, A = some ⟨b, off, none⟩ → wv.heap.size ≤ b) ∧ (∃ v, v = .slice A rows.length C ∧ wq.heap[w1.heap.size]? = some (.cells #[.slice OA1 on.length OC1, .slice A1 rows1.length C1, v, .slice none 0 0, .int .i64 fk, .int .i64 fa, .int .i64 ff, .int .i64 ft, .slice FA FL FC, .slice HA HL HCp, .int .i64 rounds] 34 (0, 0))) ∧ But (fun b => b = w1.heap.size) wv wq)
      case first =>
        have zwv := HBw.out.size
        go_wp2_with fail
        go_loopw [13] (fun t wr => ∃ (k : Nat) (rows : List Int) (v : Value), k ≤ 20 ∧ k ≤ er0.length ∧ t = .int .i64 k ∧ rows.length = k ∧ wr.heap[w1.heap.size]? = some (.cells #[.slice OA1 on.length OC1, .slice A1 rows1.length C1, v, .slice none 0 0, .int .i64 fk, .int .i64 fa, .int .i64 ff, .int .i64 ft, .slice FA FL FC, .slice HA HL HCp, .int .i64 rounds] 34 (0, 0)) ∧ wr.ownsRow wv.heap.size 3 1 v k (rows.map (Value.int .i64)) ∧ But (fun b => b = w1.heap.size) wv wr) (fun t _ => 20 - (intOf t).toNat)
        case atStart => exact ⟨0, [], .slice none 0 0, by omega, by omega, rfl, rfl, HXu.out, World.ownsRow_nil _ _ _ _, But.refl _ _⟩
        case round =>
          obtain ⟨k, rows, v, hk, hkl, rfl, hol, hx, hown, hbut⟩ := hrel
          have zr := hbut.size
          have lXu := heap_lt HXu.out
          have HRr := Lib.hid ((hbut.block _ (by omega) (by omega)).trans HRu.out)
          have HCr := Lib.hid ((hbut.block _ (by omega) (by omega)).trans HCu.out)
          obtain ⟨x0, _, x2, x3, _, _⟩ := box6 HCr.out
          have y := bcell HRr.out 2
          change _ = some _ at y
          have HXr := Lib.hid hx
          have HO := Lib.hid hown
          have HBu := Lib.hid hbut
          by_cases hlt : k < er0.length
          · by_cases hk3 : k < 20
            · have lk1 : (k : Int) < (er0.length : Int) := by omega
              have lk2 : (k : Int) < 20 := by omega
              have hO0 := ints_low HRows.out.2.2 HBw.out (ints_lt HRows.out.2.2) (Nat.le_refl _)
              obtain ⟨b, off, rfl, hbl, hcell'⟩ := hO0 k hlt
              have hb0 := ints_lt HRows.out.2.2 b off rfl (by omega)
              have hcell := (hbut.cell (p := ⟨b, off + k, none⟩) hbl (by show ¬ b = _; omega)).trans hcell'
              have hbl2 : b < wr.heap.size := by omega
              have g := bcell HXr.out 2
              change _ = some _ at g
              generalize er0.getD k 0 = z at *
              have za : 0 ≤ z % (2 * Er + 3) := Int.emod_nonneg _ (by omega)
              have zb : z % (2 * Er + 3) < 2 * Er + 3 := Int.emod_lt_of_pos _ (by omega)
              have wz1 : IntKind.i64.wrap (z % (2 * Er + 3) - Er) = z % (2 * Er + 3) - Er := by rw [IntKind.wrap_i64]; omega
              have wz2 : IntKind.i64.wrap (z % (2 * Er + 3) - Er - 1) = z % (2 * Er + 3) - Er - 1 := by rw [IntKind.wrap_i64]; omega
              clear hbut hO0 hcell' hx hown
              go_wp2_with fail
              refine AT.wp_region_tail (S := fun w' => w'.cell? ⟨w1.heap.size, 2, none⟩ = some v ∧ w'.cell? ⟨w.heap.size, 2, none⟩ = some (.slice (some ⟨b, off, none⟩) er0.length EC) ∧ w'.cell? ⟨b, off + k, none⟩ = some (.int .i64 z) ∧ w'.cell? ⟨w.heap.size + 1, 2, none⟩ = some (.int .i64 Er)) [18, 19] (by kernel_rfl) ⟨g, y, hcell, x2⟩ (fun hHeld => ?_)
              refine rgU 0 ?_
              refine rgU 1 ?_
              refine rgU 2 ?_
              refine rgU 3 ?_
              refine rgU 4 ?_
              refine rgU 5 ?_
              refine rgU 6 ?_
              refine rgU 7 ?_
              refine rgU 8 ?_
              refine rgU 9 ?_
              refine rgU 10 ?_
              refine rgU 12 ?_
              refine rgU 13 ?_
              refine AT.wpT_ready (rs := [11]) (by kernel_rfl) (by simp) (AT.AllT.cons rfl (fun K hK => ?_) AT.AllT.nil)
              go_simp
              refine (within19 _ _ _ (by omega) (by omega)).mono ?_
              rintro e w' ⟨rfl, rfl⟩
              go_simp
              refine hK.out _ _ ⟨g, y, hcell, x2⟩ (fun hHeld => ?_)
              clear hK K
              refine rgU 14 ?_
              refine rgU 15 ?_
              refine AT.wpT_ready (rs := [16]) (by kernel_rfl) (by simp) (AT.AllT.cons rfl (fun K hK => ?_) AT.AllT.nil)
              go_simp
              refine hK.out _ _ ⟨alloc_keep g, alloc_keep y, alloc_keep hcell, alloc_keep x2⟩ (fun hHeld => ?_)
              clear hK K
              refine AT.wpT_ready (rs := [17]) (by kernel_rfl) (by simp) (AT.AllT.cons rfl (fun K hK => ?_) AT.AllT.nil)
              refine app_int (by rfl) _ _ (by rfl) wv.heap.size v k (rows.map (Value.int .i64)) (by rfl) (HO.out.drew.alloc _) wr.heap.size (z % (2 * Er + 3) - Er - 1) (by rfl) (heap_alloc_new wr.drew _) (by omega) (by simp; omega) ?_
              intro gg cap w3 hown3 hb3
              have hb3' : But (fun x => wv.heap.size ≤ x ∧ v.ownBlock = some x) wr w3 := (((But.refl (fun x => wv.heap.size ≤ x ∧ v.ownBlock = some x) wr).drew).alloc _).trans hb3
              have hX3 := (hb3'.block w1.heap.size (by omega) (fun e => by omega)).trans HXr.out
              have n5 := bcell hX3 2
              change _ = some _ at n5
              have m5 := (hb3'.cell (p := ⟨w.heap.size, 2, none⟩) (by show w.heap.size < _; omega) (fun e => by have := e.1; simp only at this; omega)).trans y
              have mc := (hb3'.cell (p := ⟨b, off + k, none⟩) hbl2 (fun e => by have := e.1; simp only at this; omega)).trans hcell
              have mx := (hb3'.cell (p := ⟨w.heap.size + 1, 2, none⟩) (by show w.heap.size + 1 < _; omega) (fun e => by have := e.1; simp only at this; omega)).trans x2
              have hfr3 : w3.frozen? ⟨w1.heap.size, 2, none⟩ = false := by simp [World.frozen?, hX3]
              have HX3 := Lib.hid (heap_setCell_same _ _ 2 _ _ (.slice (some ⟨gg, 0, none⟩) (k + 1) cap) hX3)
              have HB3 := Lib.hid hb3'
              have HO3 := Lib.hid hown3
              clear g y hcell x0 x2 x3 hb3 hb3' hX3 hown3
              refine hK.out _ _ ⟨n5, m5, mc, mx⟩ (fun hHeld => ?_)
              clear hK K
              try simp only [Act.put, List.getElem_toArray, List.getElem_cons_succ, List.getElem_cons_zero, List.setIfInBounds_toArray, List.set_cons_zero, List.set_cons_succ]
              refine AT.wpT_ready (rs := [18]) (by kernel_rfl) (by simp) (AT.AllT.end rfl (by kernel_rfl) (fun K hK => ?_) AT.AllT.nil)
              go_simp
              refine hK.out _ _ ?_
              clear hK K
              refine AT.wpT_ready (rs := [19]) (by kernel_rfl) (by simp) (AT.AllT.end rfl (by kernel_rfl) (fun K hK => ?_) AT.AllT.nil)
              go_simp
              refine hK.out _ _ ?_
              clear hK K
              refine AT.wpT_done (by kernel_rfl) ?_ _
              clear n5 m5 mc mx hfr3 hHeld
              go_wp2
              go_roundw
              case rel =>
                exact ⟨k + 1, rows ++ [z % (2 * Er + 3) - Er - 1], .slice (some ⟨gg, 0, none⟩) (k + 1) cap, by omega, by omega, by go_num, by simp; omega, HX3.out, by rw [List.map_append]; exact ownsRow_setCell_below HO3.out (show w1.heap.size < _ by omega) _, (But.up HBu.out HB3.out (Nat.le_refl _)).setCell (p := ⟨w1.heap.size, 2, none⟩) (.inl rfl) _⟩
              case measure => simp [intOf]; omega
            · obtain rfl : k = 20 := by omega
              have lk1 : ((20 : Nat) : Int) < (er0.length : Int) := by omega
              have lk2 : (20 : Int) < (er0.length : Int) := by omega
              obtain ⟨A, C, e, hI, hb⟩ := own_ints hown hol
              clear hown hbut
              go_wp2_with fail
              go_meet
              exact ⟨rows, A, C, by omega, hI, hb, ⟨v, e, HXr.out⟩, HBu.out⟩
          · have lk1 : ¬ (k : Int) < (er0.length : Int) := by omega
            obtain ⟨A, C, e, hI, hb⟩ := own_ints hown hol
            clear hown hbut
            go_wp2_with fail
            go_meet
            exact ⟨rows, A, C, by omega, hI, hb, ⟨v, e, HXr.out⟩, HBu.out⟩
      case rest =>
      generalize wc = wt at *
      obtain ⟨rows2, A2, C2, hlen2, hI2, hb2, ⟨_, rfl, hX2⟩, hbut⟩ := hcut
      have zu2 := HBw.out.size
      have zn2 := hbut.size
      have lXn2 := heap_lt HXu.out
      have HRn := Lib.hid ((hbut.block _ (by omega) (by omega)).trans HRu.out)
      have HCn := Lib.hid ((hbut.block _ (by omega) (by omega)).trans HCu.out)
      have HZn := Lib.hid ((hbut.block _ (by omega) (by omega)).trans HZu.out)
      have HBn := Lib.hid (HBw.out.trans (hbut.to_below (by omega) (fun b e => by omega)))
      have HIn := Lib.hid (ints_keep HIu.out hbut (fun b off e _ => by have := HIb.out b off e; omega))
      have HJn := Lib.hid (ints_keep HJu.out hbut (fun b off e _ => by have := HJb.out b off e; omega))
      clear HRu HCu HZu HBw HXu HIu HJu
      have hx4 := bcell HRn.out 3
      change _ = some _ at hx4
      have SZ := HZn.out
      have lRX : w.heap.size + 2 ≠ w1.heap.size := by omega
      have lXR : w1.heap.size ≠ w.heap.size + 2 := by omega
      obtain ⟨c0, c1, c2, c3, c4, c5, c6, c7, c8, c9, c10⟩ := box11 hX2
      obtain ⟨q0, q1, q2, q3, q4, q5, q6, q7, q8, q9, q10⟩ := box11 SZ
      have qf : ∀ o, wt.frozen? ⟨w.heap.size + 2, o, none⟩ = false := fun o => by simp [World.frozen?, SZ]
      have u0 := qf 0
      have u1 := qf 1
      have u2 := qf 2
      have u3 := qf 3
      have u4 := qf 4
      have u5 := qf 5
      have u6 := qf 6
      have u7 := qf 7
      have u8 := qf 8
      have u9 := qf 9
      have u10 := qf 10
      have hE := Lib.hid (put11 (w := wt) (R := w.heap.size + 1 + 1) SZ (.slice OA1 k OC1) (.slice A1 rows1.length C1) (.slice A2 rows2.length C2) (.slice none 0 0) (.int .i64 fk) (.int .i64 fa) (.int .i64 ff) (.int .i64 ft) (.slice FA FL FC) (.slice HA HL HCp) (.int .i64 rounds))
      have HI2 := Lib.hid hI2
      have HB2 := Lib.hid hb2
      clear qf hbut SZ hX2 HZn hI2 hb2
      go_wp2_with fail
      refine wp_loop_rounds 1 ?_
      rw [rounds_succ]
      go_wp2
      generalize ((((((((((wt.setCell ⟨w.heap.size + 1 + 1, 0, none⟩ (.slice OA1 k OC1)).setCell ⟨w.heap.size + 1 + 1, 1, none⟩ (.slice A1 rows1.length C1)).setCell ⟨w.heap.size + 1 + 1, 2, none⟩ (.slice A2 rows2.length C2)).setCell ⟨w.heap.size + 1 + 1, 3, none⟩ (.slice none 0 0)).setCell ⟨w.heap.size + 1 + 1, 4, none⟩ (.int .i64 fk)).setCell ⟨w.heap.size + 1 + 1, 5, none⟩ (.int .i64 fa)).setCell ⟨w.heap.size + 1 + 1, 6, none⟩ (.int .i64 ff)).setCell ⟨w.heap.size + 1 + 1, 7, none⟩ (.int .i64 ft)).setCell ⟨w.heap.size + 1 + 1, 8, none⟩ (.slice FA FL FC)).setCell ⟨w.heap.size + 1 + 1, 9, none⟩ (.slice HA HL HCp)).setCell ⟨w.heap.size + 1 + 1, 10, none⟩ (.int .i64 rounds) = wz at *
      obtain ⟨hE1, hE2⟩ := hE.out
      obtain ⟨r0, r1, r2, r3, r4, r5, r6, r7, r8, r9, r10⟩ := box11 hE1
      refine bodyPost_ret (v := .agg #[.slice OA1 k OC1, .slice A1 rows1.length C1, .slice A2 rows2.length C2, .slice none 0 0, .int .i64 fk, .int .i64 fa, .int .i64 ff, .int .i64 ft, .slice FA FL FC, .slice HA HL HCp, .int .i64 rounds]) (by simp [results, Tryz.results21, go_sem, r0, r1, r2, r3, r4, r5, r6, r7, r8, r9, r10]) rfl ?_
      exact ⟨on, rows1, rows2, OA1, A1, A2, OC1, C1, C2, fk, fa, ff, ft, FA, FL, FC, HA, HL, HCp, by rw [hol], hol, HOn.out, hlen1, hlen2, ints_keep HIn.out hE2 (fun b off e _ => by have := HIb.out b off e; omega), ints_keep HJn.out hE2 (fun b off e _ => by have := HJb.out b off e; omega), ints_keep HI2.out hE2 (fun b off e _ => by have := HB2.out b off e; omega), (fun b off e => by have := HIb.out b off e; have := HBx.out.size; omega), (fun b off e => by have := HJb.out b off e; have := HBx.out.size; omega), (fun b off e => by have := HB2.out b off e; have := HBx.out.size; omega), HBn.out.trans (hE2.to_below (by omega) (fun b e => by omega))⟩
end Go.Proofs.YtdbempiompiioaaGreat.C6
namespace Go.Proofs.YtdbempiompiioaaGreat.C7
open Go.RowKit A1 A2 A3 A4 A9 A10 A11 A12 A13 A14 A18 A35 A46 A48 A50 A52 C1 C2 C3 C4 C5 C6

set_option maxRecDepth 100000 in
set_option maxHeartbeats 16000000 in
theorem Late (N : Nat) (Pi Er Gd Fi : Int) (PA : Option Addr) (PL PC : Nat) (on0 dr0 er0 : List Int) (OA DA EA : Option Addr) (OC DC EC : Nat) (a0 a1 a2 a3 : Int) (CA : Option Addr) (CL CC : Nat) (VA : Option Addr) (vs : List Int) (VC : Nat) (w : World)
    (hN : 1 ≤ N) (hN2 : N ≤ 12) (hE0 : 0 ≤ Er) (hE1 : Er ≤ 20) (hG0 : 0 ≤ Gd) (hG1 : Gd ≤ 20) (hA : ActsAt w CA CL) (hL : CL ≤ 9223372036854775807) (hV : Ints w VA vs) (hVL : vs.length ≤ 9223372036854775807)
    (hO : Ints w OA on0) (hOL : on0.length ≤ 9223372036854775807) (hD : Ints w DA dr0) (hDL : dr0.length ≤ 9223372036854775807) (hE : Ints w EA er0) (hEL : er0.length ≤ 9223372036854775807) :
    Calls Tryz.prog 8 #[.agg #[.slice OA on0.length OC, .slice DA dr0.length DC, .slice EA er0.length EC, .slice none 0 0, .int .i64 a0, .int .i64 a1, .int .i64 a2, .int .i64 a3, .slice CA CL CC, .slice VA vs.length VC], .agg #[.int .i64 N, .int .i64 Pi, .int .i64 Er, .int .i64 Gd, .int .i64 Fi, .slice PA PL PC], .int .i64 3, .int .i64 7] w (ScriptRet N 3 (2 * N + 20) w) := by
  have n1 : IntKind.i64.wrap (2 * (N : Int)) = 2 * N := by rw [IntKind.wrap_i64]; omega
  have n2 : IntKind.i64.wrap (3 + 2 * (N : Int)) = 2 * N + 3 := by rw [IntKind.wrap_i64]; omega
  have n3 : IntKind.i64.wrap (2 * (N : Int) + 3 + 10) = 2 * N + 13 := by rw [IntKind.wrap_i64]; omega
  have n4 : IntKind.i64.wrap (2 * (N : Int) + 13 + 7) = 2 * N + 20 := by rw [IntKind.wrap_i64]; omega
  have n5 : IntKind.i64.wrap (2 * (N : Int) + 3 + 9) = 2 * N + 12 := by rw [IntKind.wrap_i64]; omega
  have HS := Lib.hid (fun w' (h1 : ActsAt w' CA CL) (h2 : Ints w' VA vs) (h3 : Ints w' OA on0) (h4 : Ints w' DA dr0) (h5 : Ints w' EA er0) => Script N Pi Er Gd Fi PA PL PC on0 dr0 er0 OA DA EA OC DC EC a0 a1 a2 a3 CA CL CC VA vs VC 3 (2 * N + 20) w' hN hN2 hE0 hE1 hG0 hG1 (by omega) (by omega) h1 hL h2 hVL h3 hOL h4 hDL h5 hEL)
  obtain ⟨hR, hC, hZ, hz, hB⟩ := three w (.cells #[.slice OA on0.length OC, .slice DA dr0.length DC, .slice EA er0.length EC, .slice none 0 0, .int .i64 a0, .int .i64 a1, .int .i64 a2, .int .i64 a3, .slice CA CL CC, .slice VA vs.length VC] 29) (.cells #[.int .i64 N, .int .i64 Pi, .int .i64 Er, .int .i64 Gd, .int .i64 Fi, .slice PA PL PC] 24) (.cells #[.slice none 0 0, .slice none 0 0, .slice none 0 0, .slice none 0 0, .int .i64 0, .int .i64 0, .int .i64 0, .int .i64 0, .slice none 0 0, .slice none 0 0, .int .i64 0] 34)
  have HRows := Lib.hid (And.intro hO (And.intro hD hE))
  have HAV := Lib.hid (And.intro hA hV)
  clear hA hV hO hD hE
  go_enter Tryz.func8, Tryz.ntmps8
  go_upto_region 1 with fail
  generalize ((w.alloc (.cells #[.slice OA on0.length OC, .slice DA dr0.length DC, .slice EA er0.length EC, .slice none 0 0, .int .i64 a0, .int .i64 a1, .int .i64 a2, .int .i64 a3, .slice CA CL CC, .slice VA vs.length VC] 29)).alloc (.cells #[.int .i64 N, .int .i64 Pi, .int .i64 Er, .int .i64 Gd, .int .i64 Fi, .slice PA PL PC] 24)).alloc (.cells #[.slice none 0 0, .slice none 0 0, .slice none 0 0, .slice none 0 0, .int .i64 0, .int .i64 0, .int .i64 0, .int .i64 0, .slice none 0 0, .slice none 0 0, .int .i64 0] 34) = wa at *
  obtain ⟨x0, x1, x2, x3, x4, x5⟩ := box6 hC
  have y0 := bcell hR 0
  have y1 := bcell hR 1
  have y2 := bcell hR 2
  have y3 := bcell hR 3
  have y4 := bcell hR 4
  have y5 := bcell hR 5
  have y6 := bcell hR 6
  have y7 := bcell hR 7
  have y8 := bcell hR 8
  have y9 := bcell hR 9
  change _ = some _ at y0 y1 y2 y3 y4 y5 y6 y7 y8 y9
  have HC := Lib.hid hC
  have HZ := Lib.hid hZ
  have HB := Lib.hid hB
  clear hR hC hZ
  have lo := fun A l (h : Ints w A l) => ints_low h hB (ints_lt h) (Nat.le_refl _)
  have HI := Lib.hid (HS.out wa (HAV.out.1.below hB) (lo _ _ HAV.out.2) (lo _ _ HRows.out.1) (lo _ _ HRows.out.2.1) (lo _ _ HRows.out.2.2))
  clear hB lo HS
  go_wp2_with fail
  refine HI.out.mono ?_
  rintro e w1 ⟨on, dr, er, OA1, DA1, EA1, OC1, DC1, EC1, fk, fa, ff, ft, FA, FL, FC, HA, HL, HCp, rfl, hol, hon, hdl, hel, hI0, hI1, hI2, ho0, ho1, ho2, hb1⟩
  rw [hol]
  have hX := heap_alloc_new w1 (.cells #[.slice OA1 N OC1, .slice DA1 dr.length DC1, .slice EA1 er.length EC1, .slice none 0 0, .int .i64 fk, .int .i64 fa, .int .i64 ff, .int .i64 ft, .slice FA FL FC, .slice HA HL HCp, .int .i64 (2 * N + 20)] 34)
  have hbx : Below w1.heap.size w1 (w1.alloc (.cells #[.slice OA1 N OC1, .slice DA1 dr.length DC1, .slice EA1 er.length EC1, .slice none 0 0, .int .i64 fk, .int .i64 fa, .int .i64 ff, .int .i64 ft, .slice FA FL FC, .slice HA HL HCp, .int .i64 (2 * N + 20)] 34)) := (Below.refl _ _).alloc (Nat.le_refl _) _
  clear x0 x1 x2 x3 x4 x5 y0 y1 y2 y3 y4 y5 y6 y7 y8 y9
  go_upto_region 2 with fail
  generalize w1.alloc (.cells #[.slice OA1 N OC1, .slice DA1 dr.length DC1, .slice EA1 er.length EC1, .slice none 0 0, .int .i64 fk, .int .i64 fa, .int .i64 ff, .int .i64 ft, .slice FA FL FC, .slice HA HL HCp, .int .i64 (2 * N + 20)] 34) = wx at *
  have s1 := hb1.size
  have sx := hbx.size
  have lX := heap_lt hX
  have HCx := (hbx.block _ (by omega)).trans ((hb1.block _ (by omega)).trans HC.out)
  obtain ⟨x0, _, _, _, _, _⟩ := box6 HCx
  have HZx := Lib.hid ((hbx.block _ (by omega)).trans ((hb1.block _ (by omega)).trans HZ.out))
  have HBx := Lib.hid (HB.out.trans ((hb1.mono (by omega)).trans (hbx.mono (by omega))))
  have HI0 := Lib.hid (hI0.below hbx)
  have HI1 := Lib.hid (hI1.below hbx)
  have HI2 := Lib.hid (hI2.below hbx)
  have li0 := ints_lt hI0
  have li1 := ints_lt hI1
  have li2 := ints_lt hI2
  have HLi := Lib.hid (And.intro li0 (And.intro li1 li2))
  have c6 := bcell hX 6
  have c7 := bcell hX 7
  change _ = some _ at c6 c7
  have f6 : wx.frozen? ⟨w1.heap.size, 6, none⟩ = false := by simp [World.frozen?, hX]
  have f7 : wx.frozen? ⟨w1.heap.size, 7, none⟩ = false := by simp [World.frozen?, hX]
  have HY := Lib.hid (heap_setCell_same _ _ 7 _ _ (.int .i64 1000) (heap_setCell_same _ _ 6 _ _ (.int .i64 (2 * (N : Int) + 12)) hX))
  have HYb := Lib.hid (((But.refl (fun b => b = w1.heap.size) wx).setCell (p := ⟨w1.heap.size, 6, none⟩) (.inl rfl) (.int .i64 (2 * (N : Int) + 12))).setCell (p := ⟨w1.heap.size, 7, none⟩) (.inl rfl) (.int .i64 1000))
  clear hX hbx hb1 HC HZ HB HCx hI0 hI1 hI2 HI li0 li1 li2
  go_upto_region 4 with fail
  clear c6 c7 f6 f7 x0
  generalize (wx.setCell ⟨w1.heap.size, 6, none⟩ (.int .i64 (2 * (N : Int) + 12))).setCell ⟨w1.heap.size, 7, none⟩ (.int .i64 1000) = wy at *
  have hy := HY.out
  simp only [List.setIfInBounds_toArray, List.set_cons_zero, List.set_cons_succ] at hy
  have sy := HYb.out.size
  have HZy := (HYb.out.block _ (by omega) (by omega)).trans HZx.out
  have HBy := Lib.hid (HBx.out.trans (HYb.out.to_below (by omega) (fun b e => by omega)))
  obtain ⟨c0, c1, c2, c3, c4, c5, c6, c7, c8, c9, c10⟩ := box11 hy
  obtain ⟨q0, q1, q2, q3, q4, q5, q6, q7, q8, q9, q10⟩ := box11 HZy
  have qf : ∀ o, wy.frozen? ⟨w.heap.size + 2, o, none⟩ = false := fun o => by simp [World.frozen?, HZy]
  have u0 := qf 0
  have u1 := qf 1
  have u2 := qf 2
  have u3 := qf 3
  have u4 := qf 4
  have u5 := qf 5
  have u6 := qf 6
  have u7 := qf 7
  have u8 := qf 8
  have u9 := qf 9
  have u10 := qf 10
  have lRX : w.heap.size + 2 ≠ w1.heap.size := by omega
  have lXR : w1.heap.size ≠ w.heap.size + 2 := by omega
  have hE := Lib.hid (put11 (w := wy) (R := w.heap.size + 1 + 1) HZy (.slice OA1 N OC1) (.slice DA1 dr.length DC1) (.slice EA1 er.length EC1) (.slice none 0 0) (.int .i64 fk) (.int .i64 fa) (.int .i64 (2 * N + 12)) (.int .i64 1000) (.slice FA FL FC) (.slice HA HL HCp) (.int .i64 (2 * N + 20)))
  clear qf hy HZy HZx
  go_wp2
  generalize ((((((((((wy.setCell ⟨w.heap.size + 1 + 1, 0, none⟩ (.slice OA1 N OC1)).setCell ⟨w.heap.size + 1 + 1, 1, none⟩ (.slice DA1 dr.length DC1)).setCell ⟨w.heap.size + 1 + 1, 2, none⟩ (.slice EA1 er.length EC1)).setCell ⟨w.heap.size + 1 + 1, 3, none⟩ (.slice none 0 0)).setCell ⟨w.heap.size + 1 + 1, 4, none⟩ (.int .i64 fk)).setCell ⟨w.heap.size + 1 + 1, 5, none⟩ (.int .i64 fa)).setCell ⟨w.heap.size + 1 + 1, 6, none⟩ (.int .i64 (2 * N + 12))).setCell ⟨w.heap.size + 1 + 1, 7, none⟩ (.int .i64 1000)).setCell ⟨w.heap.size + 1 + 1, 8, none⟩ (.slice FA FL FC)).setCell ⟨w.heap.size + 1 + 1, 9, none⟩ (.slice HA HL HCp)).setCell ⟨w.heap.size + 1 + 1, 10, none⟩ (.int .i64 (2 * N + 20)) = wz at *
  obtain ⟨hE1, hE2⟩ := hE.out
  obtain ⟨r0, r1, r2, r3, r4, r5, r6, r7, r8, r9, r10⟩ := box11 hE1
  refine bodyPost_ret (v := .agg #[.slice OA1 N OC1, .slice DA1 dr.length DC1, .slice EA1 er.length EC1, .slice none 0 0, .int .i64 fk, .int .i64 fa, .int .i64 (2 * N + 12), .int .i64 1000, .slice FA FL FC, .slice HA HL HCp, .int .i64 (2 * N + 20)]) (by simp [results, Tryz.results8, go_sem, r0, r1, r2, r3, r4, r5, r6, r7, r8, r9, r10]) rfl ?_
  exact ⟨on, dr, er, OA1, DA1, EA1, OC1, DC1, EC1, fk, fa, 2 * N + 12, 1000, FA, FL, FC, HA, HL, HCp, by rw [hol], hol, hon, hdl, hel, ints_keep (ints_keep HI0.out HYb.out (fun b off e h => by have := HLi.out.1 b off e h; omega)) hE2 (fun b off e h => by have := ho0 b off e; omega), ints_keep (ints_keep HI1.out HYb.out (fun b off e h => by have := HLi.out.2.1 b off e h; omega)) hE2 (fun b off e h => by have := ho1 b off e; omega), ints_keep (ints_keep HI2.out HYb.out (fun b off e h => by have := HLi.out.2.2 b off e h; omega)) hE2 (fun b off e h => by have := ho2 b off e; omega), (fun b off e => by have := ho0 b off e; omega), (fun b off e => by have := ho1 b off e; omega), (fun b off e => by have := ho2 b off e; omega), HBy.out.trans (hE2.to_below (by omega) (fun b e => by omega))⟩
end Go.Proofs.YtdbempiompiioaaGreat.C7
