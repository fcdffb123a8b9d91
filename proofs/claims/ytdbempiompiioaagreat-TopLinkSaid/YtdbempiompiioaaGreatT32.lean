/- A configuration that may be, of a raw one: plaitinglaw3.Make. A small configuration that may be, of a raw one: plaitinglaw17.Conf. Whether a raw run is not too much: Few. Conditions: the bounds stated in each theorem. -/
import Derived.Test.YtdbempiompiioaaGreatT04
import Derived.Test.YtdbempiompiioaaGreatT29
set_option linter.unusedVariables false
set_option linter.unusedSimpArgs false
namespace Go.Proofs.YtdbempiompiioaaGreat.C2
open Go.RowKit A1 A2 A3 A4 A9 A10 A11 A12 A13 A14 A18 A35 A46 A48 A50 A52 C1
theorem ints_lt {w : World} {A : Option Addr} {l : List Int} (h : Ints w A l) : ∀ b off, A = some ⟨b, off, none⟩ → 0 < l.length → b < w.heap.size := fun b off e hl => by
  obtain ⟨b', off', e', h1, _⟩ := h 0 hl
  rw [e] at e'; injection e' with e'; injection e' with e' _; omega
theorem ints_low {w w1 : World} {A : Option Addr} {l : List Int} {LO : Nat} (h : Ints w A l) (hb : Below LO w w1) (hl : ∀ b off, A = some ⟨b, off, none⟩ → 0 < l.length → b < LO) (hs : LO ≤ w.heap.size) : Ints w1 A l := fun k hk => by
  obtain ⟨b, off, e, h1, h2⟩ := h k hk
  have := hl b off e (by omega)
  have := hb.size
  exact ⟨b, off, e, by omega, (hb.cell (p := ⟨b, off + k, none⟩) (hl b off e (by omega))).trans h2⟩
set_option maxRecDepth 100000 in
set_option maxHeartbeats 8000000 in
theorem l3_Make (a0 a1 a2 a3 a4 : Int) (A : Option Addr) (l : List Int) (C : Nat) (w : World) (hl : Ints w A l) (h0 : 0 ≤ a0) (h1 : a0 ≤ 1) (hL : l.length ≤ 9223372036854775807) :
    Calls Tryz.prog 20 #[.agg #[.int .i64 a0, .int .i64 a1, .int .i64 a2, .int .i64 a3, .int .i64 a4, .slice A l.length C]] w fun e w' => ∃ (N Pi Er G Fi : Int) (ps : List Int) (v : Value), e = .returned (.agg #[.int .i64 N, .int .i64 Pi, .int .i64 Er, .int .i64 G, .int .i64 Fi, v]) ∧ N = 6 + a0 % 7 ∧ 0 ≤ Er ∧ Er ≤ 20 ∧ 0 ≤ G ∧ G ≤ 20 ∧ 0 ≤ Fi ∧ Fi ≤ 65535 ∧ 4 * (Er + G + 1) ≤ Pi ∧ Pi ≤ 1000 ∧ (∀ z ∈ ps, -1 ≤ z ∧ z ≤ N - 1) ∧ ps.length ≤ 3 ∧ w'.ownsRow w.heap.size 3 1 v ps.length (ps.map (Value.int .i64)) ∧ Below w.heap.size w w' := by
  have r1a : 0 ≤ a0 % 7 := by omega
  have r1b : a0 % 7 < 7 := by omega
  have r2a : 0 ≤ a2 % 21 := by omega
  have r2b : a2 % 21 < 21 := by omega
  have r3a : 0 ≤ a3 % 21 := by omega
  have r3b : a3 % 21 < 21 := by omega
  have r4a : 0 ≤ a4 % 65536 := by omega
  have r4b : a4 % 65536 < 65536 := by omega
  have w1 : IntKind.i64.wrap (6 + a0 % 7) = 6 + a0 % 7 := by rw [IntKind.wrap_i64]; omega
  have HI := Lib.hid hl
  clear hl
  go_enter Tryz.func20, Tryz.ntmps20
  go_upto_region 1 with fail
  obtain ⟨hX, hR, hz, hB⟩ := two w
    (.cells #[.int .i64 a0, .int .i64 a1, .int .i64 a2, .int .i64 a3, .int .i64 a4, .slice A l.length C] 24) (.cells #[.int .i64 0, .int .i64 0, .int .i64 0, .int .i64 0, .int .i64 0, .slice none 0 0] 24)
  generalize (w.alloc (.cells #[.int .i64 a0, .int .i64 a1, .int .i64 a2, .int .i64 a3, .int .i64 a4, .slice A l.length C] 24)).alloc (.cells #[.int .i64 0, .int .i64 0, .int .i64 0, .int .i64 0, .int .i64 0, .slice none 0 0] 24) = wa at *
  obtain ⟨y0, y1, y2, y3, y4, y5⟩ := box6 hX
  have HX := Lib.hid hX
  have HRz := Lib.hid hR
  have HB := Lib.hid hB
  clear hX hR hB
  go_cut [3] (fun t wx => t = .pointer (some ⟨wa.heap.size, 0, none⟩) ∧ wx.heap[wa.heap.size]? = some (.cells #[.int .i64 (6 + a0 % 7), .int .i64 0, .int .i64 (a2 % 21), .int .i64 (a3 % 21), .int .i64 (a4 % 65536), .slice none 0 0] 24 (0, 0)) ∧ Below wa.heap.size wa wx)
  case first =>
    go_region_held3 (fun w' => w'.cell? ⟨w.heap.size, 0, none⟩ = some (.int .i64 a0) ∧ w'.cell? ⟨w.heap.size, 2, none⟩ = some (.int .i64 a2) ∧ w'.cell? ⟨w.heap.size, 3, none⟩ = some (.int .i64 a3) ∧ w'.cell? ⟨w.heap.size, 4, none⟩ = some (.int .i64 a4)) (go_keep) ((go_at_call 39; refine (within39 _ _ _ (by omega) (by omega)).mono ?_; rintro e w' ⟨rfl, rfl⟩))
    all_goals
      go_wp2_with fail
      go_meet
      exact ⟨rfl, (by first | exact heap_alloc_new wa _ | exact heap_alloc_new wa.drew _), (by repeat (first | exact Below.refl _ _ | refine Below.drew ?_ | refine below_drewN ?_ _ | refine Below.alloc ?_ (by simp; try omega) _))⟩
  case rest =>
    generalize wc = wd at *
    obtain ⟨rfl, hG, hb⟩ := hcut
    have HG := Lib.hid (Six.of hG)
    obtain ⟨g0, g1, g2, g3, g4, g5⟩ := box6 hG
    have HX2 := Lib.hid ((hb.block _ (by omega)).trans HX.out)
    have HR2 := Lib.hid ((hb.block _ hz).trans HRz.out)
    have HB2 := Lib.hid (HB.out.trans (hb.mono (by omega)))
    have lG := heap_lt hG
    clear y0 y1 y2 y3 y4 y5 hG hb HX HRz HB
    obtain ⟨y0, y1, y2, y3, y4, y5⟩ := box6 HX2.out
    clear g0 g1 g5 y0 y2 y3 y5
    go_upto_if 22 with (first | (go_at_call 39; refine (within39 _ _ _ (by omega) (by omega)).mono ?_; rintro e w' ⟨rfl, rfl⟩) | fail)
    go_cut [] from 22 to 27 (fun wx => ∃ Fi : Int, 0 ≤ Fi ∧ Fi ≤ 65535 ∧ Six wx wa.heap.size (.int .i64 (6 + a0 % 7)) (.int .i64 0) (.int .i64 (a2 % 21)) (.int .i64 (a3 % 21)) (.int .i64 Fi) (.slice none 0 0) ∧ But (fun b => b = wa.heap.size) wd wx)
    case first =>
      have hf4 := HG.out.fr 4
      have r5a : 0 ≤ a4 % 40 := by omega
      have r5b : a4 % 40 < 40 := by omega
      have w2 : IntKind.i64.wrap (65535 - a4 % 40) = 65535 - a4 % 40 := by rw [IntKind.wrap_i64]; omega
      go_wp2_with (first | (go_at_call 39; refine (within39 _ _ _ (by omega) (by omega)).mono ?_; rintro e w' ⟨rfl, rfl⟩) | fail)
      all_goals go_meet
      · exact ⟨65535 - a4 % 40, by omega, by omega, HG.out.set4 _, (But.refl (fun b => b = wa.heap.size) wd).setCell (p := ⟨wa.heap.size, 4, none⟩) (.inl rfl) _⟩
      · exact ⟨a4 % 65536, by omega, by omega, HG.out, But.refl _ _⟩
    case rest =>
      obtain ⟨Fi, f0, f1, hS, hbut⟩ := hcut
      have HB3 := Lib.hid (HB2.out.trans (hbut.to_below (by have := HB2.out.size; omega) (fun k e => by rw [e]; omega)))
      have hzc := hbut.size
      have hX3 := (hbut.block w.heap.size (by omega) (by omega)).trans HX2.out
      have hR3 := (hbut.block (w.heap.size + 1) (by omega) (by omega)).trans HR2.out
      have HS := Lib.hid hS
      clear g2 g3 g4 y1 HX2 HR2 HB2 hbut HG lG
      generalize hN : 6 + a0 % 7 = N at *
      generalize hE : a2 % 21 = Er at *
      generalize hG : a3 % 21 = G at *
      have pa : 0 ≤ a1 % 100 := by omega
      have pb : a1 % 100 < 100 := by omega
      obtain ⟨y0, y1, y2, y3, y4, y5⟩ := box6 hX3
      have HX3 := Lib.hid hX3
      have HR3 := Lib.hid hR3
      have g2 := hS.c2
      have g3 := hS.c3
      have g1 := hS.c1
      have hfr := hS.fr 1
      have w3 : IntKind.i64.wrap (Er + G) = Er + G := by rw [IntKind.wrap_i64]; omega
      have w4 : IntKind.i64.wrap (Er + G + 1) = Er + G + 1 := by rw [IntKind.wrap_i64]; omega
      have w5 : IntKind.i64.wrap (4 * (Er + G + 1)) = 4 * (Er + G + 1) := by rw [IntKind.wrap_i64]; omega
      have w6 : IntKind.i64.wrap (4 * (Er + G + 1) + a1 % 100) = 4 * (Er + G + 1) + a1 % 100 := by rw [IntKind.wrap_i64]; omega
      clear hS hX3 hR3 y0 y2 y3 y4 y5
      go_wp2_with fail
      refine AT.wp_region_tail (S := fun w' => w'.cell? ⟨wa.heap.size, 2, none⟩ = some (.int .i64 Er) ∧ w'.cell? ⟨wa.heap.size, 3, none⟩ = some (.int .i64 G) ∧ w'.cell? ⟨w.heap.size, 1, none⟩ = some (.int .i64 a1)) [11, 12] (by kernel_rfl) ⟨g2, g3, y1⟩ (fun hHeld => ?_)
      refine rgU 0 ?_
      refine rgU 1 ?_
      refine rgU 2 ?_
      refine rgU 3 ?_
      refine rgU 4 ?_
      refine rgU 5 ?_
      refine rgU 6 ?_
      refine rgU 7 ?_
      refine rgU 8 ?_
      refine AT.wpT_ready (rs := [9]) (by kernel_rfl) (by simp) (AT.AllT.cons rfl (fun K hK => ?_) AT.AllT.nil)
      go_simp
      refine (within39 _ _ _ (by omega) (by omega)).mono ?_
      rintro e w' ⟨rfl, rfl⟩
      go_simp
      refine hK.out _ _ ⟨g2, g3, y1⟩ (fun hHeld => ?_)
      clear hK K
      refine rgU 10 ?_
      refine AT.wpT_ready (rs := [11]) (by kernel_rfl) (by simp) (AT.AllT.end rfl (by kernel_rfl) (fun K hK => ?_) AT.AllT.nil)
      go_simp
      refine hK.out _ _ ?_
      clear hK K
      refine AT.wpT_ready (rs := [12]) (by kernel_rfl) (by simp) (AT.AllT.end rfl (by kernel_rfl) (fun K hK => ?_) AT.AllT.nil)
      go_simp
      refine hK.out _ _ ?_
      clear hK K
      refine AT.wpT_done (by kernel_rfl) ?_ _
      generalize hPi : 4 * (Er + G + 1) + a1 % 100 = Pi at *
      go_upto_region 6 with fail
      have HS1 := Lib.hid ((HS.out.set1 (.int .i64 Pi)).keep (w1 := (wc.setCell ⟨wa.heap.size, 1, none⟩ (.int .i64 Pi)).drew) rfl)
      have HX4 := Lib.hid (show (wc.setCell ⟨wa.heap.size, 1, none⟩ (.int .i64 Pi)).drew.heap[w.heap.size]? = _ from (Below.heap_setCell wc ⟨wa.heap.size, 1, none⟩ (.int .i64 Pi) w.heap.size (by simp; omega)).trans HX3.out)
      have HR4 := Lib.hid (show (wc.setCell ⟨wa.heap.size, 1, none⟩ (.int .i64 Pi)).drew.heap[w.heap.size + 1]? = _ from (Below.heap_setCell wc ⟨wa.heap.size, 1, none⟩ (.int .i64 Pi) (w.heap.size + 1) (by simp; omega)).trans HR3.out)
      have HB4 := Lib.hid ((HB3.out.setCell (p := ⟨wa.heap.size, 1, none⟩) (by simp; omega) (.int .i64 Pi)).drew)
      generalize (wc.setCell ⟨wa.heap.size, 1, none⟩ (.int .i64 Pi)).drew = we at *
      clear hfr HS HX3 HR3 HB3 g1 g2 g3 y1
      have HI4 := Lib.hid (ints_low HI.out HB4.out (ints_lt HI.out) (Nat.le_refl _))
      go_loopw [4] (fun t wr => ∃ (k : Nat) (ps : List Int) (v : Value), k ≤ 3 ∧ k ≤ l.length ∧ ps.length = k ∧ t = .int .i64 k ∧ (∀ z ∈ ps, -1 ≤ z ∧ z ≤ N - 1) ∧ Six wr wa.heap.size (.int .i64 N) (.int .i64 Pi) (.int .i64 Er) (.int .i64 G) (.int .i64 Fi) v ∧ wr.ownsRow we.heap.size 3 1 v k (ps.map (Value.int .i64)) ∧ But (fun b => b = wa.heap.size) we wr) (fun t _ => 3 - (intOf t).toNat)
      case atStart =>
        exact ⟨0, [], .slice none 0 0, by omega, by omega, rfl, rfl, (fun z hz => by cases hz), HS1.out, World.ownsRow_nil _ _ _ _, (But.refl _ _)⟩
      case round =>
        obtain ⟨k, ps, v, hk, hkl, hpl, rfl, hps, hS, hown, hbut⟩ := hrel
        have zb := hbut.size
        have hX5 := (hbut.block w.heap.size (by have := heap_lt HX4.out; omega) (by omega)).trans HX4.out
        obtain ⟨x0, x1, x2, x3, x4, y5⟩ := box6 hX5
        have HXr := Lib.hid hX5
        clear x0 x1 x2 x3 x4 hX5
        by_cases hlt : k < l.length
        · by_cases hk3 : k < 3
          · have lk1 : (k : Int) < (l.length : Int) := by omega
            have lk2 : (k : Int) < 3 := by omega
            obtain ⟨b, off, rfl, hbl, hcell'⟩ := HI4.out k hlt
            have hbG : b ≠ wa.heap.size := by
              have := ints_lt HI.out b off rfl (by omega); omega
            have hcell := (hbut.cell (p := ⟨b, off + k, none⟩) hbl hbG).trans hcell'
            have hbl2 : b < wr.heap.size := by omega
            have g5 := hS.c5
            have g0 := hS.c0
            have hfr := hS.fr 5
            have HSr := Lib.hid hS
            have HO := Lib.hid hown
            have HBu := Lib.hid hbut
            generalize hz : l.getD k 0 = z at *
            have pa : 0 ≤ z % (N + 1) := Int.emod_nonneg _ (by omega)
            have pb : z % (N + 1) < N + 1 := Int.emod_lt_of_pos _ (by omega)
            have w3 : IntKind.i64.wrap (N + 1) = N + 1 := by rw [IntKind.wrap_i64]; omega
            have w4 : IntKind.i64.wrap (z % (N + 1) - 1) = z % (N + 1) - 1 := by rw [IntKind.wrap_i64]; omega
            clear hS hown hbut hcell'
            go_wp2_with fail
            refine AT.wp_region_tail (S := fun w' => w'.cell? ⟨wa.heap.size, 5, none⟩ = some v ∧ w'.cell? ⟨wa.heap.size, 0, none⟩ = some (.int .i64 N) ∧ w'.cell? ⟨w.heap.size, 5, none⟩ = some (.slice (some ⟨b, off, none⟩) l.length C) ∧ w'.cell? ⟨b, off + k, none⟩ = some (.int .i64 z)) [14, 15] (by kernel_rfl) ⟨g5, g0, y5, hcell⟩ (fun hHeld => ?_)
            refine rgU 0 ?_
            refine rgU 1 ?_
            refine rgU 2 ?_
            refine rgU 3 ?_
            refine rgU 4 ?_
            refine rgU 5 ?_
            refine rgU 6 ?_
            refine rgU 7 ?_
            refine rgU 8 ?_
            refine rgU 9 ?_
            refine AT.wpT_ready (rs := [10]) (by kernel_rfl) (by simp) (AT.AllT.cons rfl (fun K hK => ?_) AT.AllT.nil)
            go_simp
            refine (within39 _ _ _ (by omega) (by omega)).mono ?_
            rintro e w' ⟨rfl, rfl⟩
            go_simp
            refine hK.out _ _ ⟨g5, g0, y5, hcell⟩ (fun hHeld => ?_)
            clear hK K
            refine rgU 11 ?_
            refine AT.wpT_ready (rs := [12]) (by kernel_rfl) (by simp) (AT.AllT.cons rfl (fun K hK => ?_) AT.AllT.nil)
            go_simp
            refine hK.out _ _ ⟨alloc_keep g5, alloc_keep g0, alloc_keep y5, alloc_keep hcell⟩ (fun hHeld => ?_)
            clear hK K
            refine AT.wpT_ready (rs := [13]) (by kernel_rfl) (by simp) (AT.AllT.cons rfl (fun K hK => ?_) AT.AllT.nil)
            refine app_int (by rfl) _ _ (by rfl) we.heap.size v k (ps.map (Value.int .i64)) (by rfl) (HO.out.drew.alloc _) wr.heap.size (z % (N + 1) - 1) (by rfl) (heap_alloc_new wr.drew _) (by omega) (by simp; omega) ?_
            intro gg cap w3 hown3 hb3
            have hb3' : But (fun x => we.heap.size ≤ x ∧ v.ownBlock = some x) wr w3 := ⟨hb3.os, hb3.tape, hb3.output, Nat.le_trans (by simp) hb3.size, fun q hq hn => (hb3.block q (by simp; omega) hn).trans (((Below.refl wr.heap.size wr.drew).alloc (Nat.le_refl _) _).block q hq)⟩
            have zwe := HBu.out.size
            have lGe := HS1.out.lt
            have hG1 := heap_lt HX4.out
            have S3 := HSr.out.keep (hb3'.block wa.heap.size HSr.out.lt (fun e => by omega))
            have n5 := S3.c5
            have n0 := S3.c0
            have m5 := (hb3'.cell (p := ⟨w.heap.size, 5, none⟩) (by show w.heap.size < _; omega) (fun e => by have := e.1; simp only at this; omega)).trans y5
            have mc := (hb3'.cell (p := ⟨b, off + k, none⟩) hbl2 (fun e => by have := e.1; simp only at this; omega)).trans hcell
            have hfr3 := S3.fr 5
            have HS3 := Lib.hid S3
            have HB3 := Lib.hid hb3'
            have HO3 := Lib.hid hown3
            clear g5 g0 y5 hcell hb3 hb3' S3 hown3 hfr
            refine hK.out _ _ ⟨n5, n0, m5, mc⟩ (fun hHeld => ?_)
            clear hK K
            try simp only [Act.put, List.getElem_toArray, List.getElem_cons_succ, List.getElem_cons_zero, List.setIfInBounds_toArray, List.set_cons_zero, List.set_cons_succ]
            refine AT.wpT_ready (rs := [14]) (by kernel_rfl) (by simp) (AT.AllT.end rfl (by kernel_rfl) (fun K hK => ?_) AT.AllT.nil)
            go_simp
            refine hK.out _ _ ?_
            clear hK K
            refine AT.wpT_ready (rs := [15]) (by kernel_rfl) (by simp) (AT.AllT.end rfl (by kernel_rfl) (fun K hK => ?_) AT.AllT.nil)
            go_simp
            refine hK.out _ _ ?_
            clear hK K
            refine AT.wpT_done (by kernel_rfl) ?_ _
            clear n5 n0 m5 mc hfr3 hHeld
            go_wp2
            go_roundw
            case rel =>
              exact ⟨k + 1, ps ++ [z % (N + 1) - 1], .slice (some ⟨gg, 0, none⟩) (k + 1) cap, by omega, by omega, by simp; omega, by go_num, (fun y hy => by
                rw [List.mem_append, List.mem_singleton] at hy
                rcases hy with hy | rfl
                · exact hps y hy
                · omega), HS3.out.set5 _, by rw [List.map_append]; exact ownsRow_setCell_below HO3.out (show wa.heap.size < _ by omega) _, (But.up HBu.out HB3.out (Nat.le_refl _)).setCell (p := ⟨wa.heap.size, 5, none⟩) (.inl rfl) _⟩
            case measure => simp [intOf]; omega
          · subst hpl
            obtain ⟨PA, PC, rfl, hPI, _⟩ := ints_of_own hown
            have lk1 : (ps.length : Int) < (l.length : Int) := by omega
            have lk2 : ¬ (ps.length : Int) < 3 := by omega
            obtain ⟨s0, s1, s2, s3, s4, s5, _⟩ := hS
            have lR := heap_lt HR4.out
            have SR := Six.of ((hbut.block (w.heap.size + 1) lR (by omega)).trans HR4.out)
            have HSR := Lib.hid SR
            obtain ⟨q0, q1, q2, q3, q4, q5, qf⟩ := SR
            have f0 := qf 0
            have f1' := qf 1
            have f2 := qf 2
            have f3 := qf 3
            have f4 := qf 4
            have f5 := qf 5
            have HO := Lib.hid hown
            have HBu := Lib.hid hbut
            clear hown hbut qf
            have HW := Lib.hid (HSR.out.all (.int .i64 N) (.int .i64 Pi) (.int .i64 Er) (.int .i64 G) (.int .i64 Fi) (.slice PA ps.length PC))
            have HWb := Lib.hid (but_all (w := wr) (w.heap.size + 1) (.int .i64 N) (.int .i64 Pi) (.int .i64 Er) (.int .i64 G) (.int .i64 Fi) (.slice PA ps.length PC))
            go_wp2
            generalize ((((((wr.setCell ⟨w.heap.size + 1, 0, none⟩ (.int .i64 N)).setCell ⟨w.heap.size + 1, 1, none⟩ (.int .i64 Pi)).setCell ⟨w.heap.size + 1, 2, none⟩ (.int .i64 Er)).setCell ⟨w.heap.size + 1, 3, none⟩ (.int .i64 G)).setCell ⟨w.heap.size + 1, 4, none⟩ (.int .i64 Fi)).setCell ⟨w.heap.size + 1, 5, none⟩ (.slice PA ps.length PC)) = wz at *
            obtain ⟨k0, k1, k2, k3, k4, k5, _⟩ := HW.out
            refine bodyPost_ret (v := .agg #[.int .i64 N, .int .i64 Pi, .int .i64 Er, .int .i64 G, .int .i64 Fi, .slice PA ps.length PC]) (by simp [results, Tryz.results20, go_sem, k0, k1, k2, k3, k4, k5]) rfl ?_
            exact ⟨N, Pi, Er, G, Fi, ps, _, rfl, (by first | rfl | exact hN.symm), by omega, by omega, by omega, by omega, by omega, by omega, by omega, by omega, hps, hk, own_mono (own_but HO.out HWb.out (fun b hb e => by omega)) (by have := HB4.out.size; omega), HB4.out.trans ((HBu.out.to_below (B := w.heap.size) (by have := HB4.out.size; omega) (fun b e => by omega)).trans (HWb.out.to_below (by have := HB4.out.size; omega) (fun b e => by omega)))⟩
        · subst hpl
          obtain ⟨PA, PC, rfl, hPI, _⟩ := ints_of_own hown
          have lk1 : ¬ (ps.length : Int) < (l.length : Int) := by omega
          obtain ⟨s0, s1, s2, s3, s4, s5, _⟩ := hS
          have lR := heap_lt HR4.out
          have SR := Six.of ((hbut.block (w.heap.size + 1) lR (by omega)).trans HR4.out)
          have HSR := Lib.hid SR
          obtain ⟨q0, q1, q2, q3, q4, q5, qf⟩ := SR
          have f0 := qf 0
          have f1' := qf 1
          have f2 := qf 2
          have f3 := qf 3
          have f4 := qf 4
          have f5 := qf 5
          have HO := Lib.hid hown
          have HBu := Lib.hid hbut
          clear hown hbut qf
          have HW := Lib.hid (HSR.out.all (.int .i64 N) (.int .i64 Pi) (.int .i64 Er) (.int .i64 G) (.int .i64 Fi) (.slice PA ps.length PC))
          have HWb := Lib.hid (but_all (w := wr) (w.heap.size + 1) (.int .i64 N) (.int .i64 Pi) (.int .i64 Er) (.int .i64 G) (.int .i64 Fi) (.slice PA ps.length PC))
          go_wp2
          generalize ((((((wr.setCell ⟨w.heap.size + 1, 0, none⟩ (.int .i64 N)).setCell ⟨w.heap.size + 1, 1, none⟩ (.int .i64 Pi)).setCell ⟨w.heap.size + 1, 2, none⟩ (.int .i64 Er)).setCell ⟨w.heap.size + 1, 3, none⟩ (.int .i64 G)).setCell ⟨w.heap.size + 1, 4, none⟩ (.int .i64 Fi)).setCell ⟨w.heap.size + 1, 5, none⟩ (.slice PA ps.length PC)) = wz at *
          obtain ⟨k0, k1, k2, k3, k4, k5, _⟩ := HW.out
          refine bodyPost_ret (v := .agg #[.int .i64 N, .int .i64 Pi, .int .i64 Er, .int .i64 G, .int .i64 Fi, .slice PA ps.length PC]) (by simp [results, Tryz.results20, go_sem, k0, k1, k2, k3, k4, k5]) rfl ?_
          exact ⟨N, Pi, Er, G, Fi, ps, _, rfl, (by first | rfl | exact hN.symm), by omega, by omega, by omega, by omega, by omega, by omega, by omega, by omega, hps, hk, own_mono (own_but HO.out HWb.out (fun b hb e => by omega)) (by have := HB4.out.size; omega), HB4.out.trans ((HBu.out.to_below (B := w.heap.size) (by have := HB4.out.size; omega) (fun b e => by omega)).trans (HWb.out.to_below (by have := HB4.out.size; omega) (fun b e => by omega)))⟩
end Go.Proofs.YtdbempiompiioaaGreat.C2
namespace Go.Proofs.YtdbempiompiioaaGreat.C3
open Go.RowKit A1 A2 A3 A4 A9 A10 A11 A12 A13 A14 A18 A35 A46 A48 A50 A52 C1 C2

theorem cf_of {N Pi Er G Fi : Int} {ps : List Int} (a : Int) (ha0 : 0 ≤ a) (ha1 : a ≤ 1) (h : N = 6 + a % 7 ∧ 0 ≤ Er ∧ Er ≤ 20 ∧ 0 ≤ G ∧ G ≤ 20 ∧ 0 ≤ Fi ∧ Fi ≤ 65535 ∧ 4 * (Er + G + 1) ≤ Pi ∧ Pi ≤ 1000 ∧ (∀ z ∈ ps, -1 ≤ z ∧ z ≤ N - 1) ∧ ps.length ≤ 3) : CfOk N Pi Er G Fi (ps.take 2) := by
  obtain ⟨h1, h2, h3, h4, h5, h6, h7, h8, h9, h10, h11⟩ := h
  refine ⟨by omega, by omega, h2, h3, h4, h5, h6, h7, h8, h9, by simp; omega, fun k hk => h10 _ ?_⟩
  have hm : (ps.take 2).getD k 0 ∈ ps.take 2 := by rw [List.getD_eq_getElem?_getD, List.getElem?_eq_getElem hk]; exact List.getElem_mem _
  exact List.mem_of_mem_take hm
set_option maxRecDepth 100000 in
set_option maxHeartbeats 8000000 in
theorem l17_Conf (a0 a1 a2 a3 a4 : Int) (A : Option Addr) (l : List Int) (C : Nat) (w : World) (hl : Ints w A l) (hL : l.length ≤ 9223372036854775807) :
    Calls Tryz.prog 7 #[.agg #[.int .i64 a0, .int .i64 a1, .int .i64 a2, .int .i64 a3, .int .i64 a4, .slice A l.length C]] w fun e w' => ∃ (N : Nat) (Pi Er G Fi : Int) (ps : List Int) (PA : Option Addr) (PC : Nat), e = .returned (.agg #[.int .i64 N, .int .i64 Pi, .int .i64 Er, .int .i64 G, .int .i64 Fi, .slice PA ps.length PC]) ∧ CfOk N Pi Er G Fi ps ∧ Ints w' PA ps ∧ (∀ b off, PA = some ⟨b, off, none⟩ → w.heap.size ≤ b) ∧ Below w.heap.size w w' := by
  have r1a : 0 ≤ a0 % 2 := by omega
  have r1b : a0 % 2 < 2 := by omega
  have HM := Lib.hid (fun w' (h : Ints w' A l) => l3_Make (a0 % 2) a1 a2 a3 a4 A l C w' h (by omega) (by omega) hL)
  have HI := Lib.hid hl
  clear hl
  obtain ⟨hX, hR, hz, hB⟩ := two w (.cells #[.int .i64 a0, .int .i64 a1, .int .i64 a2, .int .i64 a3, .int .i64 a4, .slice A l.length C] 24) (.cells #[.int .i64 0, .int .i64 0, .int .i64 0, .int .i64 0, .int .i64 0, .slice none 0 0] 24)
  go_enter Tryz.func7, Tryz.ntmps7
  go_upto_region 1 with fail
  generalize (w.alloc (.cells #[.int .i64 a0, .int .i64 a1, .int .i64 a2, .int .i64 a3, .int .i64 a4, .slice A l.length C] 24)).alloc (.cells #[.int .i64 0, .int .i64 0, .int .i64 0, .int .i64 0, .int .i64 0, .slice none 0 0] 24) = wa at *
  have SX := Six.of hX
  have y0 := SX.c0
  have f0 := SX.fr 0
  have HX1 := Lib.hid (SX.set0 (.int .i64 (a0 % 2)))
  have HR1 := Lib.hid ((Below.heap_setCell wa ⟨w.heap.size, 0, none⟩ (.int .i64 (a0 % 2)) (w.heap.size + 1) (by simp)).trans hR)
  have HB1 := Lib.hid (hB.setCell (p := ⟨w.heap.size, 0, none⟩) (Nat.le_refl _) (.int .i64 (a0 % 2)))
  have hz1 : (wa.setCell ⟨w.heap.size, 0, none⟩ (.int .i64 (a0 % 2))).heap.size = wa.heap.size := by simp [World.setCell]
  clear SX hX hR hB
  go_upto_region 2 with (first | (go_at_call 19; refine (within19 _ _ _ (by omega) (by omega)).mono ?_; rintro e w' ⟨rfl, rfl⟩) | fail)
  clear y0 f0
  generalize wa.setCell ⟨w.heap.size, 0, none⟩ (.int .i64 (a0 % 2)) = wb at *
  obtain ⟨y0, y1, y2, y3, y4, y5, _⟩ := HX1.out
  go_wp2_with fail
  refine (HM.out wb (ints_low HI.out HB1.out (ints_lt HI.out) (Nat.le_refl _))).mono ?_
  rintro e w1 ⟨N, Pi, Er, G, Fi, ps, v, rfl, hN, e0, e1, g0, g1, f0, f1, p0, p1, hps, hpl, hown, hb1⟩
  have HC := Lib.hid (cf_of (a0 % 2) r1a (by omega) ⟨hN, e0, e1, g0, g1, f0, f1, p0, p1, hps, hpl⟩)
  obtain ⟨M, rfl⟩ : ∃ M : Nat, N = M := ⟨N.toNat, by omega⟩
  clear hN
  obtain ⟨PA, PC, rfl, hPI, hPC⟩ := ints_of_own hown
  have hPI0 := Lib.hid hPI
  have hPb0 := Lib.hid (show ∀ b off, PA = some ⟨b, off, none⟩ → wb.heap.size ≤ b from fun b off e => by
    rcases own_split hown with ⟨h2, _⟩ | ⟨g, cap, h2, hg, _⟩
    · rw [e] at h2; cases h2
    · rw [e] at h2; cases h2; exact hg)
  have hR1 := (hb1.block (w.heap.size + 1) (by omega)).trans HR1.out
  have HBw := Lib.hid (HB1.out.trans (hb1.mono (by have := HB1.out.size; omega)))
  clear y0 y1 y2 y3 y4 y5
  have hD := heap_alloc_new w1 (.cells #[.int .i64 M, .int .i64 Pi, .int .i64 Er, .int .i64 G, .int .i64 Fi, .slice PA ps.length PC] 24)
  have hbd : Below w1.heap.size w1 (w1.alloc (.cells #[.int .i64 M, .int .i64 Pi, .int .i64 Er, .int .i64 G, .int .i64 Fi, .slice PA ps.length PC] 24)) := (Below.refl _ _).alloc (Nat.le_refl _) _
  go_upto_region 3 with fail
  generalize w1.alloc (.cells #[.int .i64 M, .int .i64 Pi, .int .i64 Er, .int .i64 G, .int .i64 Fi, .slice PA ps.length PC] 24) = wd at *
  have hz2 := hb1.size
  have hzD := heap_lt hD
  have SD := Six.of hD
  have HSD := Lib.hid SD
  have HRd := Lib.hid ((hbd.block (w.heap.size + 1) (by omega)).trans hR1)
  have HBd := Lib.hid (HBw.out.trans (hbd.mono (by omega)))
  have HId := Lib.hid (hPI.below hbd)
  obtain ⟨d0, d1, d2, d3, d4, d5, _⟩ := HSD.out
  have fd5 := SD.fr 5
  have lm : min (ps.length : Int) 2 = ((min ps.length 2 : Nat) : Int) := by omega
  have lm1 : ¬ ((min ps.length 2 : Nat) : Int) < 0 := by omega
  have lm2 : min ps.length 2 ≤ PC := by omega
  have SR := Six.of HRd.out
  have HSR := Lib.hid (SR.all (.int .i64 M) (.int .i64 Pi) (.int .i64 Er) (.int .i64 G) (.int .i64 Fi) (.slice PA (min ps.length 2) PC))
  have SRd := Six.keep (w1 := wd.setCell ⟨w1.heap.size, 5, none⟩ (.slice PA (min ps.length 2) PC)) SR (Below.heap_setCell _ _ _ _ (by simp; omega))
  have HSW := Lib.hid (SRd.all (.int .i64 M) (.int .i64 Pi) (.int .i64 Er) (.int .i64 G) (.int .i64 Fi) (.slice PA (min ps.length 2) PC))
  have HBb := Lib.hid (but_all (w := wd.setCell ⟨w1.heap.size, 5, none⟩ (.slice PA (min ps.length 2) PC)) (w.heap.size + 1) (.int .i64 M) (.int .i64 Pi) (.int .i64 Er) (.int .i64 G) (.int .i64 Fi) (.slice PA (min ps.length 2) PC))
  obtain ⟨q0, q1, q2, q3, q4, q5, qf⟩ := SR
  have x0 := qf 0
  have x1 := qf 1
  have x2 := qf 2
  have x3 := qf 3
  have x4 := qf 4
  have x5 := qf 5
  have ne1 : w.heap.size + 1 ≠ w1.heap.size := by omega
  have ne2 : w1.heap.size ≠ w.heap.size + 1 := by omega
  clear SD hD hbd hR1 hown hb1 hPI qf SRd HSR
  go_wp2
  generalize hwz : ((((((wd.setCell ⟨w1.heap.size, 5, none⟩ (.slice PA (min ps.length 2) PC)).setCell ⟨w.heap.size + 1, 0, none⟩ (.int .i64 M)).setCell ⟨w.heap.size + 1, 1, none⟩ (.int .i64 Pi)).setCell ⟨w.heap.size + 1, 2, none⟩ (.int .i64 Er)).setCell ⟨w.heap.size + 1, 3, none⟩ (.int .i64 G)).setCell ⟨w.heap.size + 1, 4, none⟩ (.int .i64 Fi)).setCell ⟨w.heap.size + 1, 5, none⟩ (.slice PA (min ps.length 2) PC) = wz at *
  obtain ⟨k0, k1, k2, k3, k4, k5, _⟩ := HSW.out
  refine bodyPost_ret (v := .agg #[.int .i64 M, .int .i64 Pi, .int .i64 Er, .int .i64 G, .int .i64 Fi, .slice PA (min ps.length 2) PC]) (by simp [results, Tryz.results7, go_sem, k0, k1, k2, k3, k4, k5]) rfl ?_
  have hl : (ps.take 2).length = min ps.length 2 := by simp; omega
  have hzw : wd.heap.size ≤ wz.heap.size := by have := HBb.out.size; simp only [World.setCell, Array.size_modify] at this; exact this
  have hI : Ints wz PA (ps.take 2) := fun k hk => by
    obtain ⟨b, off, e, h1, h2⟩ := HId.out k (by simp at hk; omega)
    have hb0 := ints_lt hPI0.out b off e (by simp at hk; omega)
    have hb1' := hPb0.out b off e
    refine ⟨b, off, e, by omega, (HBb.out.cell (p := ⟨b, off + k, none⟩) (by simpa [World.setCell] using h1) (by show ¬ b = w.heap.size + 1; omega)).trans ?_⟩
    rw [World.cell?_setCell_other _ _ _ _ (fun x => by injection x with x _; omega), h2]
    simp [List.getD_eq_getElem?_getD, List.getElem?_take]
    have : k < 2 := by simp at hk; omega
    simp [this]
  first
  | exact ⟨M, Pi, Er, G, Fi, ps.take 2, PA, ⟨PC, by rw [hl]⟩, HC.out, hI, (fun b off e => by have := hPb0.out b off e; have := HB1.out.size; omega), HBd.out.trans ((((Below.refl wd.heap.size wd).mono (by omega)).setCell (p := ⟨w1.heap.size, 5, none⟩) (by show w.heap.size ≤ w1.heap.size; omega) _).trans (HBb.out.to_below (by simp [World.setCell]; omega) (fun b e => by omega)))⟩
end Go.Proofs.YtdbempiompiioaaGreat.C3
namespace Go.Proofs.YtdbempiompiioaaGreat.C4
open Go.RowKit A1 A2 A3 A4 A9 A10 A11 A12 A13 A14 A18 A35 A46 A48 A50 A52 C1 C2

def BoolRet (w : World) (e : Ending) (w' : World) : Prop := ∃ b, e = .returned (.bool b) ∧ Below w.heap.size w w'
def ActsAt (w : World) (A : Option Addr) (n : Nat) : Prop := ∀ k, k < n → ∃ b off, A = some ⟨b, off, none⟩ ∧ b < w.heap.size ∧ ∃ (h m : Int) (s : ByteArray), w.cell? ⟨b, off + k * 3, none⟩ = some (.int .i64 h) ∧ w.cell? ⟨b, off + k * 3 + 1, none⟩ = some (.int .i64 m) ∧ w.cell? ⟨b, off + k * 3 + 2, none⟩ = some (.string s)
theorem ActsAt.below {w w1 : World} {A : Option Addr} {n : Nat} (h : ActsAt w A n) (hb : Below w.heap.size w w1) : ActsAt w1 A n := fun k hk => by
  obtain ⟨b, off, e, h1, x, m, s, h2, h3, h4⟩ := h k hk
  have := hb.size
  exact ⟨b, off, e, by omega, x, m, s, (hb.cell (p := ⟨b, _, none⟩) h1).trans h2, (hb.cell (p := ⟨b, _, none⟩) h1).trans h3, (hb.cell (p := ⟨b, _, none⟩) h1).trans h4⟩
set_option maxRecDepth 100000 in
set_option maxHeartbeats 4000000 in
theorem l6_Few (a0 a1 a2 a3 : Int) (CA : Option Addr) (CL CC : Nat) (VA : Option Addr) (VL VC : Nat) (w : World) (hA : ActsAt w CA CL) (hL : CL ≤ 9223372036854775807) :
    Calls Tryz.prog 25 #[.agg #[.int .i64 a0, .int .i64 a1, .int .i64 a2, .int .i64 a3, .slice CA CL CC, .slice VA VL VC]] w (BoolRet w) := by
  have hX := heap_alloc_new w (.cells #[.int .i64 a0, .int .i64 a1, .int .i64 a2, .int .i64 a3, .slice CA CL CC, .slice VA VL VC] 27)
  have hB : Below w.heap.size w (w.alloc (.cells #[.int .i64 a0, .int .i64 a1, .int .i64 a2, .int .i64 a3, .slice CA CL CC, .slice VA VL VC] 27)) := (Below.refl _ _).alloc (Nat.le_refl _) _
  have HA := Lib.hid (hA.below hB)
  have HB := Lib.hid hB
  clear hA hB
  go_enter Tryz.func25, Tryz.ntmps25
  go_upto_region 1 with fail
  generalize w.alloc (.cells #[.int .i64 a0, .int .i64 a1, .int .i64 a2, .int .i64 a3, .slice CA CL CC, .slice VA VL VC] 27) = wa at *
  obtain ⟨_, _, _, _, y4, y5⟩ := box6 hX
  clear hX
  go_wp2_with fail
  go_loopw [3] (fun t wr => ∃ k : Nat, k ≤ CL ∧ t = .int .i64 k ∧ ActsAt wr CA CL ∧ Below w.heap.size w wr ∧ wr.cell? ⟨w.heap.size, 4, none⟩ = some (.slice CA CL CC) ∧ wr.cell? ⟨w.heap.size, 5, none⟩ = some (.slice VA VL VC)) (fun t _ => CL - (intOf t).toNat)
  case atStart => exact ⟨0, by omega, rfl, HA.out, HB.out, y4, y5⟩
  case round =>
    obtain ⟨k, hk, rfl, hA, hB, y4, y5⟩ := hrel
    have HAr := Lib.hid hA
    have HBr := Lib.hid hB
    clear hB
    by_cases hlt : k < CL
    · have lk : (k : Int) < (CL : Int) := by omega
      obtain ⟨b, off, rfl, hb, h, m, s, c0, c1, c2⟩ := hA k hlt
      clear hA
      by_cases hs : 1200 < (s.size : Int)
      · have hs' : (1200 : Nat) < s.size := by omega
        go_wp2_with fail
        go_ret
        first | (refine ⟨_, rfl, ?_⟩; repeat (first | exact HBr.out | refine Below.drew ?_ | refine below_drewN ?_ _)) | (refine ⟨⟨_, rfl⟩, ?_⟩; repeat (first | exact HBr.out | refine Below.drew ?_ | refine below_drewN ?_ _)) | (repeat (first | exact HBr.out | refine Below.drew ?_ | refine below_drewN ?_ _))
      · have hs' : ¬ (1200 : Nat) < s.size := by omega
        go_wp2_with fail
        go_roundw
        case rel => exact ⟨k + 1, by omega, by go_num, (by first | exact HAr.out | exact HAr.out.below (Below.refl _ _).drew | exact HAr.out.below (Below.refl _ _).drew.drew), (by first | exact HBr.out | exact HBr.out.drew | exact HBr.out.drew.drew), y4, y5⟩
        case measure => simp [intOf]; omega
    · obtain rfl : k = CL := by omega
      have lk : ¬ (k : Int) < (k : Int) := by omega
      by_cases hc : (k : Int) ≤ 50
      · go_wp2
        go_ret
        first | (refine ⟨_, rfl, ?_⟩; repeat (first | exact HBr.out | refine Below.drew ?_ | refine below_drewN ?_ _)) | (refine ⟨⟨_, rfl⟩, ?_⟩; repeat (first | exact HBr.out | refine Below.drew ?_ | refine below_drewN ?_ _)) | (repeat (first | exact HBr.out | refine Below.drew ?_ | refine below_drewN ?_ _))
      · go_wp2
        go_ret
        first | (refine ⟨_, rfl, ?_⟩; repeat (first | exact HBr.out | refine Below.drew ?_ | refine below_drewN ?_ _)) | (refine ⟨⟨_, rfl⟩, ?_⟩; repeat (first | exact HBr.out | refine Below.drew ?_ | refine below_drewN ?_ _)) | (repeat (first | exact HBr.out | refine Below.drew ?_ | refine below_drewN ?_ _))
set_option maxRecDepth 100000 in
set_option maxHeartbeats 4000000 in
theorem l17_Few (A1 A2 A3 A4 : Option Addr) (L1 C1 L2 C2 L3 C3 L4 C4 : Nat) (a0 a1 a2 a3 : Int) (CA : Option Addr) (CL CC : Nat) (VA : Option Addr) (VL VC : Nat) (w : World) (hA : ActsAt w CA CL) (hL : CL ≤ 9223372036854775807) :
    Calls Tryz.prog 12 #[.agg #[.slice A1 L1 C1, .slice A2 L2 C2, .slice A3 L3 C3, .slice A4 L4 C4, .int .i64 a0, .int .i64 a1, .int .i64 a2, .int .i64 a3, .slice CA CL CC, .slice VA VL VC]] w (BoolRet w) := by
  have HF := Lib.hid (fun w' (h : ActsAt w' CA CL) => l6_Few a0 a1 a2 a3 CA CL CC VA VL VC w' h hL)
  have hX := heap_alloc_new w (.cells #[.slice A1 L1 C1, .slice A2 L2 C2, .slice A3 L3 C3, .slice A4 L4 C4, .int .i64 a0, .int .i64 a1, .int .i64 a2, .int .i64 a3, .slice CA CL CC, .slice VA VL VC] 29)
  have hB : Below w.heap.size w (w.alloc (.cells #[.slice A1 L1 C1, .slice A2 L2 C2, .slice A3 L3 C3, .slice A4 L4 C4, .int .i64 a0, .int .i64 a1, .int .i64 a2, .int .i64 a3, .slice CA CL CC, .slice VA VL VC] 29)) := (Below.refl _ _).alloc (Nat.le_refl _) _
  have HA := Lib.hid (hA.below hB)
  have HB := Lib.hid hB
  clear hA hB
  go_enter Tryz.func12, Tryz.ntmps12
  go_upto_region 1 with fail
  generalize w.alloc (.cells #[.slice A1 L1 C1, .slice A2 L2 C2, .slice A3 L3 C3, .slice A4 L4 C4, .int .i64 a0, .int .i64 a1, .int .i64 a2, .int .i64 a3, .slice CA CL CC, .slice VA VL VC] 29) = wa at *
  have y4 := bcell hX 4
  have y5 := bcell hX 5
  have y6 := bcell hX 6
  have y7 := bcell hX 7
  have y8 := bcell hX 8
  have y9 := bcell hX 9
  have HX := Lib.hid hX
  have hz := heap_lt hX
  change _ = some _ at y4 y5 y6 y7 y8 y9
  clear hX
  go_wp2_with fail
  refine (HF.out wa HA.out).mono ?_
  rintro e w1 ⟨b, rfl, hb1⟩
  have y3 := bcell ((hb1.block _ hz).trans HX.out) 3
  change _ = some _ at y3
  have HB1 := Lib.hid (HB.out.trans (hb1.mono (by have := HB.out.size; omega)))
  clear hb1 y4 y5 y6 y7 y8 y9
  cases b
  · go_wp2
    go_ret
    first | (refine ⟨_, rfl, ?_⟩; repeat (first | exact HB1.out | refine Below.drew ?_ | refine below_drewN ?_ _)) | (refine ⟨⟨_, rfl⟩, ?_⟩; repeat (first | exact HB1.out | refine Below.drew ?_ | refine below_drewN ?_ _)) | (repeat (first | exact HB1.out | refine Below.drew ?_ | refine below_drewN ?_ _))
  · by_cases hc : (L4 : Int) ≤ 40
    · go_wp2
      go_ret
      first | (refine ⟨_, rfl, ?_⟩; repeat (first | exact HB1.out | refine Below.drew ?_ | refine below_drewN ?_ _)) | (refine ⟨⟨_, rfl⟩, ?_⟩; repeat (first | exact HB1.out | refine Below.drew ?_ | refine below_drewN ?_ _)) | (repeat (first | exact HB1.out | refine Below.drew ?_ | refine below_drewN ?_ _))
    · go_wp2
      go_ret
      first | (refine ⟨_, rfl, ?_⟩; repeat (first | exact HB1.out | refine Below.drew ?_ | refine below_drewN ?_ _)) | (refine ⟨⟨_, rfl⟩, ?_⟩; repeat (first | exact HB1.out | refine Below.drew ?_ | refine below_drewN ?_ _)) | (repeat (first | exact HB1.out | refine Below.drew ?_ | refine below_drewN ?_ _))
end Go.Proofs.YtdbempiompiioaaGreat.C4
