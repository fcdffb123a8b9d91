/- What a copy tells: its text, its frame. Conditions: the bounds stated in each theorem. -/
import Derived.Test.YtdbempiompiioaaGreatT04
import Derived.Test.YtdbempiompiioaaGreatT10
set_option linter.unusedVariables false
set_option linter.unusedSimpArgs false
namespace Go.Proofs.YtdbempiompiioaaGreat.A30
open Go.RowKit A1 A2 A3 A4 A5 A6 A7 A8 A9 A10 A11 A12 A13 A14 A15 A16 A17 A18 A19 A20 A21 A22 A23 A24 A25 A26 A27 A28 A29

theorem below6 {B : Nat} {a w : World} {q : Nat} {u0 u1 u2 u3 u4 u5 : Value} (h : Below B a w) (hq : B ≤ q) : Below B a ((((((w.setCell ⟨q, 0, none⟩ u0).setCell ⟨q, 1, none⟩ u1).setCell ⟨q, 2, none⟩ u2).setCell ⟨q, 3, none⟩ u3).setCell ⟨q, 4, none⟩ u4).setCell ⟨q, 5, none⟩ u5) :=
  (((((h.setCell hq _).setCell hq _).setCell hq _).setCell hq _).setCell hq _).setCell hq _
theorem items6 {A : Option Addr} {l : List (Nat × Nat)} {w : World} {q : Nat} {u0 u1 u2 u3 u4 u5 : Value} (h : Items w A l) (hq : ∀ b off, A = some ⟨b, off, none⟩ → b ≠ q) : Items ((((((w.setCell ⟨q, 0, none⟩ u0).setCell ⟨q, 1, none⟩ u1).setCell ⟨q, 2, none⟩ u2).setCell ⟨q, 3, none⟩ u3).setCell ⟨q, 4, none⟩ u4).setCell ⟨q, 5, none⟩ u5) A l :=
  items_far (items_far (items_far (items_far (items_far (items_far h hq _) hq _) hq _) hq _) hq _) hq _
set_option maxRecDepth 100000 in
set_option maxHeartbeats 2000000 in
theorem Right_no (N : Nat) (Pi Er G Fi : Int) (PA : Option Addr) (PL PC : Nat) (round slot : Int) (s : ByteArray) (w : World) (h4 : s.size ≤ 4000) (ht : Lib.hasSuffix s.data.toList [35] = false) :
    Calls Tryz.prog 153 #[.agg #[.int .i64 N, .int .i64 Pi, .int .i64 Er, .int .i64 G, .int .i64 Fi, .slice PA PL PC], .int .i64 round, .int .i64 slot, .string s] w fun e w' => e = .returned (.tuple #[.agg #[.int .i64 0, .int .i64 0, .int .i64 0, .int .i64 0, .int .i64 0, .slice none 0 0], .bool false]) ∧ Below w.heap.size w w' := by
  have H := Lib.hid (fun w => Read_no N Pi Er G Fi PA PL PC s w h4 ht)
  clear ht
  go_enter Tryz.func153, Tryz.ntmps153
  go_wp2_with fail
  refine (H.out _).mono ?_
  rintro e w1 ⟨rfl, hb1⟩
  have bx : w1.heap[w.heap.size + 1]? = some (.cells #[.int .i64 0, .int .i64 0, .int .i64 0, .int .i64 0, .int .i64 0, .slice none 0 0] 118 (0, 0)) := (hb1.block _ (by simp)).trans (by
    have := heap_alloc_new (w.alloc (.cells #[.int .i64 N, .int .i64 Pi, .int .i64 Er, .int .i64 G, .int .i64 Fi, .slice PA PL PC] 24)) (.cells #[.int .i64 0, .int .i64 0, .int .i64 0, .int .i64 0, .int .i64 0, .slice none 0 0] 118)
    simpa using this)
  have hz1 := heap_lt bx
  have hB1 : Below w.heap.size w w1 := Below.trans (show Below w.heap.size w _ from (by repeat (first | exact Below.refl _ _ | refine Below.drew ?_ | refine below_drewN ?_ _ | refine Below.alloc ?_ (by simp; try omega) _))) (hb1.mono (by simp; omega))
  have bx2 : (w1.alloc (.cells #[.int .i64 0, .int .i64 0, .int .i64 0, .int .i64 0, .int .i64 0, .slice none 0 0] 118)).heap[w.heap.size + 1]? = some (.cells #[.int .i64 0, .int .i64 0, .int .i64 0, .int .i64 0, .int .i64 0, .slice none 0 0] 118 (0, 0)) := (Below.heap_alloc _ _ _ hz1).trans bx
  have hB2 : Below w.heap.size w (w1.alloc (.cells #[.int .i64 0, .int .i64 0, .int .i64 0, .int .i64 0, .int .i64 0, .slice none 0 0] 118)) := hB1.alloc (by omega) _
  have HB2 := Lib.hid hB2
  have HX2 := Lib.hid bx2
  clear bx bx2 hB1 hB2 hb1
  go_wp2_with fail
  refine wp_region_held_drew (S := fun w' => True) (by kernel_rfl) trivial (fun hHeld => ?_)
  refine rgT 0 ?_
  refine rgT 1 ?_
  refine rgT 2 ?_
  refine rgS 3 ?_
  refine rgS 4 ?_
  refine rgS 5 ?_
  refine rgS 6 ?_
  refine rgS 7 ?_
  refine rgS 8 ?_
  refine rgT 9 ?_
  refine rgT 10 ?_
  refine rgS 11 ?_
  refine rgS 12 ?_
  refine rgS 13 ?_
  refine rgS 14 ?_
  refine rgT 15 ?_
  refine wpAnyH_done (by kernel_rfl) ?_ _
  have hx := HX2.out
  generalize w1.alloc (.cells #[.int .i64 0, .int .i64 0, .int .i64 0, .int .i64 0, .int .i64 0, .slice none 0 0] 118) = w2 at *
  have x0 : w2.cell? ⟨w.heap.size + 1, 0, none⟩ = some (.int .i64 0) := by simp [World.cell?, hx]
  have x1 : w2.cell? ⟨w.heap.size + 1, 1, none⟩ = some (.int .i64 0) := by simp [World.cell?, hx]
  have x2 : w2.cell? ⟨w.heap.size + 1, 2, none⟩ = some (.int .i64 0) := by simp [World.cell?, hx]
  have x3 : w2.cell? ⟨w.heap.size + 1, 3, none⟩ = some (.int .i64 0) := by simp [World.cell?, hx]
  have x4 : w2.cell? ⟨w.heap.size + 1, 4, none⟩ = some (.int .i64 0) := by simp [World.cell?, hx]
  have x5 : w2.cell? ⟨w.heap.size + 1, 5, none⟩ = some (.slice none 0 0) := by simp [World.cell?, hx]
  have y0 : ∀ o, w2.frozen? ⟨w.heap.size + 1, o, none⟩ = false := fun o => by simp [World.frozen?, hx]
  clear hx hHeld HX2
  go_wp2
  refine bodyPost_ret (v := .tuple #[.agg #[.int .i64 0, .int .i64 0, .int .i64 0, .int .i64 0, .int .i64 0, .slice none 0 0], .bool false]) (by simp [results, Tryz.results153, go_sem, x0, x1, x2, x3, x4, x5]) rfl ⟨rfl, ?_⟩
  exact Below.drew (below6 HB2.out (by omega))
def RetOk (f : Fr) (w : World) (e : Ending) (w' : World) : Prop := ∃ EA EC, e = .returned (.tuple #[.agg #[.int .i64 f.kind, .int .i64 f.round, .int .i64 f.slot, .int .i64 f.pk, .int .i64 f.pv, .slice EA f.echo.length EC], .bool true]) ∧ Items w' EA f.echo ∧ (∀ b off, EA = some ⟨b, off, none⟩ → w.heap.size ≤ b) ∧ Below w.heap.size w w'
set_option maxRecDepth 100000 in
set_option maxHeartbeats 4000000 in
theorem Right_yes (N : Nat) (Pi Er G Fi : Int) (PA : Option Addr) (PL PC : Nat) (round : Int) (f : Fr) (w : World) (hf : FrOk N PL f) (hN : N ≤ 12) (hP : PL ≤ 3) (hFi : 0 ≤ Fi) (hFi2 : Fi ≤ 65535) (hr : 0 ≤ round) (hr2 : round ≤ 1000) (hw : (f.round : Int) = (Fi + round) % 65536) :
    Calls Tryz.prog 153 #[.agg #[.int .i64 N, .int .i64 Pi, .int .i64 Er, .int .i64 G, .int .i64 Fi, .slice PA PL PC], .int .i64 round, .int .i64 f.slot, .string (textB f)] w (RetOk f w) := by
  have H := Lib.hid (fun w => Read_yes N Pi Er G Fi PA PL PC f w hf hN hP)
  have hW := fun w => conf_Wire N Pi Er G Fi PA PL PC round w hFi hFi2 hr hr2
  rw [← hw] at hW
  have HW := Lib.hid hW
  clear hf hw hW
  generalize textB f = tx at *
  go_enter Tryz.func153, Tryz.ntmps153
  go_wp2_with fail
  refine (H.out _).mono ?_
  rintro e w1 ⟨EA, EC, rfl, hI, hEA, hb1⟩
  have HEA := Lib.hid hEA
  clear hEA
  have bx : w1.heap[w.heap.size + 1]? = some (.cells #[.int .i64 0, .int .i64 0, .int .i64 0, .int .i64 0, .int .i64 0, .slice none 0 0] 118 (0, 0)) := (hb1.block _ (by simp)).trans (by
    have := heap_alloc_new (w.alloc (.cells #[.int .i64 N, .int .i64 Pi, .int .i64 Er, .int .i64 G, .int .i64 Fi, .slice PA PL PC] 24)) (.cells #[.int .i64 0, .int .i64 0, .int .i64 0, .int .i64 0, .int .i64 0, .slice none 0 0] 118)
    simpa using this)
  have bc : w1.heap[w.heap.size]? = some (.cells #[.int .i64 N, .int .i64 Pi, .int .i64 Er, .int .i64 G, .int .i64 Fi, .slice PA PL PC] 24 (0, 0)) := (hb1.block _ (by simp; omega)).trans ((Below.heap_alloc _ _ _ (by simp)).trans (heap_alloc_new w _))
  have hz1 := heap_lt bx
  have hB1 : Below w.heap.size w w1 := Below.trans (show Below w.heap.size w _ from (by repeat (first | exact Below.refl _ _ | refine Below.drew ?_ | refine below_drewN ?_ _ | refine Below.alloc ?_ (by simp; try omega) _))) (hb1.mono (by simp; omega))
  obtain ⟨w2, hw2⟩ : ∃ w2, w2 = w1.alloc (.cells #[.int .i64 f.kind, .int .i64 f.round, .int .i64 f.slot, .int .i64 f.pk, .int .i64 f.pv, .slice EA f.echo.length EC] 118) := ⟨_, rfl⟩
  have hal : Below w1.heap.size w1 w2 := by rw [hw2]; exact (Below.refl _ _).alloc (Nat.le_refl _) _
  have hx2 := (hal.block _ hz1).trans bx
  have hc2 := (hal.block w.heap.size (by omega)).trans bc
  have hf2 : w2.heap[w1.heap.size]? = some (.cells #[.int .i64 f.kind, .int .i64 f.round, .int .i64 f.slot, .int .i64 f.pk, .int .i64 f.pv, .slice EA f.echo.length EC] 118 (0, 0)) := by rw [hw2]; exact heap_alloc_new w1 _
  have hI2 := hI.below hal
  have hB2 := hB1.trans (hal.mono (by omega))
  have HB2 := Lib.hid hB2
  have HX2 := Lib.hid hx2
  have HC2 := Lib.hid hc2
  have HF2 := Lib.hid hf2
  have HI2 := Lib.hid hI2
  have HW2 := Lib.hid hw2
  have hz2 := heap_lt hf2
  clear bx bc hB1 hB2 hb1 hI hx2 hc2 hf2 hI2 hal hw2
  go_wp2_with fail
  rw [← HW2.out]
  clear HW2
  have c0 : w2.cell? ⟨w.heap.size, 0, none⟩ = some (.int .i64 N) := by simp [World.cell?, HC2.out]
  have c1 : w2.cell? ⟨w.heap.size, 1, none⟩ = some (.int .i64 Pi) := by simp [World.cell?, HC2.out]
  have c2 : w2.cell? ⟨w.heap.size, 2, none⟩ = some (.int .i64 Er) := by simp [World.cell?, HC2.out]
  have c3 : w2.cell? ⟨w.heap.size, 3, none⟩ = some (.int .i64 G) := by simp [World.cell?, HC2.out]
  have c4 : w2.cell? ⟨w.heap.size, 4, none⟩ = some (.int .i64 Fi) := by simp [World.cell?, HC2.out]
  have c5 : w2.cell? ⟨w.heap.size, 5, none⟩ = some (.slice PA PL PC) := by simp [World.cell?, HC2.out]
  have f1 : w2.cell? ⟨w1.heap.size, 1, none⟩ = some (.int .i64 f.round) := by simp [World.cell?, HF2.out]
  have f2 : w2.cell? ⟨w1.heap.size, 2, none⟩ = some (.int .i64 f.slot) := by simp [World.cell?, HF2.out]
  refine wp_region_held_drew (S := fun w' => w'.cell? ⟨w.heap.size, 0, none⟩ = some (.int .i64 N) ∧ w'.cell? ⟨w.heap.size, 1, none⟩ = some (.int .i64 Pi) ∧ w'.cell? ⟨w.heap.size, 2, none⟩ = some (.int .i64 Er) ∧ w'.cell? ⟨w.heap.size, 3, none⟩ = some (.int .i64 G) ∧ w'.cell? ⟨w.heap.size, 4, none⟩ = some (.int .i64 Fi) ∧ w'.cell? ⟨w.heap.size, 5, none⟩ = some (.slice PA PL PC) ∧ w'.cell? ⟨w1.heap.size, 1, none⟩ = some (.int .i64 f.round) ∧ w'.cell? ⟨w1.heap.size, 2, none⟩ = some (.int .i64 f.slot)) (by kernel_rfl) ⟨c0, c1, c2, c3, c4, c5, f1, f2⟩ (fun hHeld => ?_)
  refine rgT 0 ?_
  refine rgT 1 ?_
  refine rgT 2 ?_
  refine rgT 3 ?_
  refine rgT 4 ?_
  refine rgT 5 ?_
  refine rgT 6 ?_
  refine wpAnyH_ready (rs := [7]) (by kernel_rfl) (by simp) (AllReadyH.cons rfl (fun K hK => ?_) AllReadyH.nil)
  go_simp
  refine (HW.out _).mono ?_
  rintro e w3 ⟨rfl, hb3'⟩
  have hb3 : Below w2.heap.size w2 w3 := ⟨hb3'.os, hb3'.tape, hb3'.output, hb3'.size, hb3'.block⟩
  have lw : w.heap.size < w2.heap.size := by omega
  go_simp
  refine hK.out _ _ ⟨keep_of c0 lw hb3, keep_of c1 lw hb3, keep_of c2 lw hb3, keep_of c3 lw hb3, keep_of c4 lw hb3, keep_of c5 lw hb3, keep_of f1 hz2 hb3, keep_of f2 hz2 hb3⟩ (fun hHeld => ?_)
  clear hK K
  refine rgT 8 ?_
  refine rgT 9 ?_
  refine rgT 10 ?_
  refine rgT 11 ?_
  refine rgT 12 ?_
  refine rgT 13 ?_
  refine rgT 14 ?_
  refine rgT 15 ?_
  refine wpAnyH_done (by kernel_rfl) ?_ _
  have hx := (hb3.block (w.heap.size + 1) (by omega)).trans HX2.out
  have hff := (hb3.block _ hz2).trans HF2.out
  have HI3 := Lib.hid (HI2.out.below hb3)
  have HB3 := Lib.hid (HB2.out.trans (hb3.mono (by omega)))
  have hz3 : w.heap.size + 1 < w3.heap.size := heap_lt hx
  have x0 : w3.cell? ⟨w.heap.size + 1, 0, none⟩ = some (.int .i64 0) := by simp [World.cell?, hx]
  have x1 : w3.cell? ⟨w.heap.size + 1, 1, none⟩ = some (.int .i64 0) := by simp [World.cell?, hx]
  have x2 : w3.cell? ⟨w.heap.size + 1, 2, none⟩ = some (.int .i64 0) := by simp [World.cell?, hx]
  have x3 : w3.cell? ⟨w.heap.size + 1, 3, none⟩ = some (.int .i64 0) := by simp [World.cell?, hx]
  have x4 : w3.cell? ⟨w.heap.size + 1, 4, none⟩ = some (.int .i64 0) := by simp [World.cell?, hx]
  have x5 : w3.cell? ⟨w.heap.size + 1, 5, none⟩ = some (.slice none 0 0) := by simp [World.cell?, hx]
  have y0 : ∀ o, w3.frozen? ⟨w.heap.size + 1, o, none⟩ = false := fun o => by simp [World.frozen?, hx]
  have g0 : w3.cell? ⟨w1.heap.size, 0, none⟩ = some (.int .i64 f.kind) := by simp [World.cell?, hff]
  have g1 : w3.cell? ⟨w1.heap.size, 1, none⟩ = some (.int .i64 f.round) := by simp [World.cell?, hff]
  have g2 : w3.cell? ⟨w1.heap.size, 2, none⟩ = some (.int .i64 f.slot) := by simp [World.cell?, hff]
  have g3 : w3.cell? ⟨w1.heap.size, 3, none⟩ = some (.int .i64 f.pk) := by simp [World.cell?, hff]
  have g4 : w3.cell? ⟨w1.heap.size, 4, none⟩ = some (.int .i64 f.pv) := by simp [World.cell?, hff]
  have g5 : w3.cell? ⟨w1.heap.size, 5, none⟩ = some (.slice EA f.echo.length EC) := by simp [World.cell?, hff]
  clear hx hff hHeld HX2 HC2 HF2 HI2 c0 c1 c2 c3 c4 c5 f1 f2 hb3 hb3' HB2
  go_wp2
  refine bodyPost_ret (v := .tuple #[.agg #[.int .i64 f.kind, .int .i64 f.round, .int .i64 f.slot, .int .i64 f.pk, .int .i64 f.pv, .slice EA f.echo.length EC], .bool true]) (by simp [results, Tryz.results153, go_sem, x0, x1, x2, x3, x4, x5]) rfl ⟨EA, EC, rfl, ?_, ?_, below6 HB3.out (by omega)⟩
  · exact items6 HI3.out (fun b off e => by have := HEA.out b off e; simp at this; omega)
  · intro b off e
    have := HEA.out b off e
    simp at this
    omega
set_option maxRecDepth 100000 in
theorem compared_text (d s o : ByteArray) (far : Int) (pair : Bool) (w : World) (hf : 1 ≤ far) :
    Calls Tryz.prog 261 #[.agg #[.string d, .string s, .string o, .int .i64 far, .bool pair]] w fun e w' => e = .returned (.tuple #[.string o, .bool (decide (2 ≤ far) || pair)]) ∧ Below w.heap.size w w' := by
  by_cases h2 : 2 ≤ far
  · have e0 : (decide (2 ≤ far) || pair) = true := by simp [h2]
    rw [e0]
    have d1 : decide (far ≥ 2) = true := by simp; omega
    go_enter Tryz.func261, Tryz.ntmps261
    go_wp2_with fail
    refine wp_region_held_drew (S := fun w' => (w'.cell? ⟨w.heap.size, 0, none⟩ = some (.string d) ∧ w'.cell? ⟨w.heap.size, 1, none⟩ = some (.string s) ∧ w'.cell? ⟨w.heap.size, 2, none⟩ = some (.string o) ∧ w'.cell? ⟨w.heap.size, 3, none⟩ = some (.int .i64 far) ∧ w'.cell? ⟨w.heap.size, 4, none⟩ = some (.bool pair))) (by kernel_rfl) (by go_keep) (fun hHeld => ?_)
    refine rgT 0 ?_
    refine rgT 1 ?_
    refine rgT 2 ?_
    refine rgT 3 ?_
    refine rgT 4 ?_
    refine rgT 5 ?_
    refine rgT 6 ?_
    refine rgT 7 ?_
    refine rgS 8 ?_
    refine rgS 9 ?_
    refine rgS 10 ?_
    refine rgS 11 ?_
    refine rgS 12 ?_
    refine rgS 13 ?_
    refine rgS 14 ?_
    refine rgS 15 ?_
    refine rgT 16 ?_
    refine rgT 17 ?_
    refine rgT 18 ?_
    refine wpAnyH_done (by kernel_rfl) ?_ _
    go_wp2
    go_ret2
    exact ⟨rfl, (by repeat (first | exact Below.refl _ _ | refine Below.drew ?_ | refine below_drewN ?_ _ | refine Below.alloc ?_ (by simp; try omega) _))⟩
  · obtain rfl : far = 1 := by omega
    have e0 : (decide ((2 : Int) ≤ 1) || pair) = pair := by simp
    rw [e0]
    go_enter Tryz.func261, Tryz.ntmps261
    go_wp2_with fail
    refine wp_region_held_drew (S := fun w' => w'.cell? ⟨w.heap.size, 0, none⟩ = some (.string d) ∧ w'.cell? ⟨w.heap.size, 1, none⟩ = some (.string s) ∧ w'.cell? ⟨w.heap.size, 2, none⟩ = some (.string o) ∧ w'.cell? ⟨w.heap.size, 3, none⟩ = some (.int .i64 1) ∧ w'.cell? ⟨w.heap.size, 4, none⟩ = some (.bool pair)) (by kernel_rfl) (by go_keep) (fun hHeld => ?_)
    refine rgT 0 ?_
    refine rgT 1 ?_
    refine rgT 2 ?_
    refine rgT 3 ?_
    refine rgT 4 ?_
    refine rgT 5 ?_
    refine rgT 6 ?_
    refine rgT 7 ?_
    refine rgT 8 ?_
    refine rgT 9 ?_
    refine rgT 10 ?_
    refine rgT 11 ?_
    refine rgT 12 ?_
    refine rgT 13 ?_
    refine rgT 14 ?_
    refine rgT 15 ?_
    refine rgT 16 ?_
    refine rgT 17 ?_
    refine rgT 18 ?_
    refine wpAnyH_done (by kernel_rfl) ?_ _
    go_wp2
    go_ret2
    exact ⟨rfl, (by repeat (first | exact Below.refl _ _ | refine Below.drew ?_ | refine below_drewN ?_ _ | refine Below.alloc ?_ (by simp; try omega) _))⟩
set_option maxRecDepth 100000 in
theorem direct_text (d s o : ByteArray) (far : Int) (pair : Bool) (w : World) (hf : 1 ≤ far) :
    Calls Tryz.prog 262 #[.agg #[.string d, .string s, .string o, .int .i64 far, .bool pair]] w fun e w' => e = .returned (.tuple #[.string d, .bool (decide (far = 1) && !pair)]) ∧ Below w.heap.size w w' := by
  by_cases h1 : far = 1
  · subst h1
    have e0 : (decide ((1 : Int) = 1) && !pair) = !pair := by simp
    rw [e0]
    go_enter Tryz.func262, Tryz.ntmps262
    go_wp2_with fail
    refine wp_region_held_drew (S := fun w' => w'.cell? ⟨w.heap.size, 0, none⟩ = some (.string d) ∧ w'.cell? ⟨w.heap.size, 1, none⟩ = some (.string s) ∧ w'.cell? ⟨w.heap.size, 2, none⟩ = some (.string o) ∧ w'.cell? ⟨w.heap.size, 3, none⟩ = some (.int .i64 1) ∧ w'.cell? ⟨w.heap.size, 4, none⟩ = some (.bool pair)) (by kernel_rfl) (by go_keep) (fun hHeld => ?_)
    refine rgT 0 ?_
    refine rgT 1 ?_
    refine rgT 2 ?_
    refine rgT 3 ?_
    refine rgT 4 ?_
    refine rgT 5 ?_
    refine rgT 6 ?_
    refine rgT 7 ?_
    refine rgT 8 ?_
    refine rgT 9 ?_
    refine rgT 10 ?_
    refine rgT 11 ?_
    refine rgT 12 ?_
    refine rgT 13 ?_
    refine wpAnyH_done (by kernel_rfl) ?_ _
    go_wp2
    go_ret2
    exact ⟨rfl, (by repeat (first | exact Below.refl _ _ | refine Below.drew ?_ | refine below_drewN ?_ _ | refine Below.alloc ?_ (by simp; try omega) _))⟩
  · have e0 : (decide (far = 1) && !pair) = false := by simp [h1]
    rw [e0]
    have b1 : (far == 1) = false := beq_eq_false_iff_ne.mpr h1
    clear h1
    go_enter Tryz.func262, Tryz.ntmps262
    go_wp2_with fail
    refine wp_region_held_drew (S := fun w' => (w'.cell? ⟨w.heap.size, 0, none⟩ = some (.string d) ∧ w'.cell? ⟨w.heap.size, 1, none⟩ = some (.string s) ∧ w'.cell? ⟨w.heap.size, 2, none⟩ = some (.string o) ∧ w'.cell? ⟨w.heap.size, 3, none⟩ = some (.int .i64 far) ∧ w'.cell? ⟨w.heap.size, 4, none⟩ = some (.bool pair))) (by kernel_rfl) (by go_keep) (fun hHeld => ?_)
    refine rgT 0 ?_
    refine rgT 1 ?_
    refine rgT 2 ?_
    refine rgT 3 ?_
    refine rgT 4 ?_
    refine rgT 5 ?_
    refine rgT 6 ?_
    refine rgT 7 ?_
    refine rgS 8 ?_
    refine rgS 9 ?_
    refine rgS 10 ?_
    refine rgT 11 ?_
    refine rgT 12 ?_
    refine rgT 13 ?_
    refine wpAnyH_done (by kernel_rfl) ?_ _
    go_wp2
    go_ret2
    exact ⟨rfl, (by repeat (first | exact Below.refl _ _ | refine Below.drew ?_ | refine below_drewN ?_ _ | refine Below.alloc ?_ (by simp; try omega) _))⟩
end Go.Proofs.YtdbempiompiioaaGreat.A30
