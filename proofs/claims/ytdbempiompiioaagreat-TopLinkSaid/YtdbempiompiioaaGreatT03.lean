/- The way round a ring. strings.Builder: its first use, a byte, a string, what it holds. slices.Clone at this program's element types, by the shelf's law. The owners of a slot, and where they lie. Conditions: the bounds stated in each theorem. -/
import Derived.Test.YtdbempiompiioaaGreatT02
import Derived.Lib.FrozenHead2
import Derived.Lib.Builder
set_option linter.unusedVariables false
set_option linter.unusedSimpArgs false
namespace Go.Proofs.YtdbempiompiioaaGreat.A10
open Go.RowKit A1 A2 A3 A4 A5 A6 A7 A8 A9

structure RingAt (w : World) (B : Nat) (l : List Int) (v : Value) : Prop where
  cell : w.cell? ⟨B, 0, none⟩ = some v
  free : w.frozen? ⟨B, 0, none⟩ = false
  own : w.ownsRow (B + 1) 3 1 v l.length (l.map (Value.int .i64))
  lt : B < w.heap.size
set_option maxRecDepth 100000 in
set_option maxHeartbeats 1000000 in
theorem ring_put (B : Nat) (l : List Int) (v : Value) (x : Int) (b : Nat) (w : World) (h : RingAt w B l v) (hx : w.cell? ⟨b, 0, none⟩ = some (.int .i64 x)) (hl : l.length ≤ 100) :
    Calls Tryz.prog 148 #[.pointer (some ⟨B, 0, none⟩), .slice (some ⟨b, 0, none⟩) 1 1] w fun e w' => ∃ v', e = .returned (.tuple #[]) ∧ RingAt w' B (l ++ [x]) v' ∧ Below B w w' := by
  obtain ⟨hcell, hfree, hown, hlt⟩ := h
  obtain ⟨i0, hi, hz0, hz1, hz2⟩ := info_parts info3
  have HI := Lib.hid hi
  have HZ0 := Lib.hid hz0
  have HZ1 := Lib.hid hz1
  have HZ2 := Lib.hid hz2
  clear hi hz0 hz1 hz2
  have hi := HI.out
  go_enter Tryz.func148, Tryz.ntmps148
  go_wp2_with (at_builtin; refine wpList_append_own _ rfl _ _ 22 rfl (B + 1) 3 i0 (.int .i64 0) 1 8 Tryz.underlying22 hi HZ0.out HZ1.out HZ2.out rfl (by decide) _ _ _ rfl hown ⟨b, 0, none⟩ 1 1 [.int .i64 x] rfl rfl ?c1 ?c2 ?c3 ?c4 ?c5 ?_)
  case c1 =>
    intro j u hj
    match j, hj with
    | 0, hj => simp at hj; subst hj; simpa [Addr.add] using hx
  case c2 => intro u hu; simp at hu; subst hu; rfl
  case c3 => unfold maxLen; omega
  case c4 => omega
  case c5 => omega
  intro v' w2 hown' hgrow _
  have hb : Below (B + 1) w w2 := (Below.refl _ _).grown hgrow (by omega) (fun q hq => ownsRow_block hown hq)
  have hc2 : w2.cell? ⟨B, 0, none⟩ = some v := (hb.cell (p := ⟨B, 0, none⟩) (by simp)).trans hcell
  have hf2 : w2.frozen? ⟨B, 0, none⟩ = false := (hb.frozen (p := ⟨B, 0, none⟩) (by simp)).trans hfree
  have hsz := hb.size
  clear hgrow hown hcell hfree
  have hown2 : w2.ownsRow (B + 1) 3 1 v' (l ++ [x]).length ((l ++ [x]).map (Value.int .i64)) := by simpa using hown'
  clear hown'
  obtain ⟨A2, C2, rfl, hI2, _⟩ := ints_of_own hown2
  go_wp2
  go_end0
  refine ⟨.slice A2 (l ++ [x]).length C2, rfl, ⟨by go_simp, by go_simp, ownsRow_setCell_below hown2 (by simp) _, by simp; omega⟩, ((hb.mono (by omega)).setCell (by simp) _)⟩

theorem clone_own (base : Nat) (v : Value) (l : List Int) (w : World) (h : w.ownsRow base 3 1 v l.length (l.map (Value.int .i64))) (hl : l.length ≤ 1000) :
    Calls Tryz.prog 28 #[v] w fun e w' => ∃ v', e = .returned v' ∧ w'.ownsRow w.heap.size 3 1 v' l.length (l.map (Value.int .i64)) ∧ Below w.heap.size w w' := by
  obtain ⟨A, C, rfl, hI, hC⟩ := ints_of_own h
  cases A with
  | none =>
    have h0 : l = [] := by
      cases l with
      | nil => rfl
      | cons x r =>
        obtain ⟨_, _, e, _⟩ := hI 0 (by simp)
        cases e
    subst h0
    exact (Tryz.slices_Clone_int_nil _ _ w).mono fun e w' hh => ⟨_, hh.1, World.ownsRow_nil _ _ _ _, by rw [hh.2]; exact Below.refl _ _⟩
  | some a =>
    rcases hI.cases with h0 | ⟨b, off, e, hb, hc⟩
    · subst h0
      exact (Tryz.slices_Clone_int_zero a C w).mono fun e w' hh => by
        obtain ⟨v', h1, h2, h3, h4⟩ := hh
        exact ⟨v', h1, h2, h4⟩
    · cases e
      exact (Tryz.slices_Clone_int b off l.length C l w (Nat.le_refl _) (by omega) hc).mono fun e w' hh => by
        obtain ⟨v', h1, h2, h3, h4⟩ := hh
        exact ⟨v', h1, by rw [List.take_length] at h2; exact h2, h4⟩
def wayTo (n last dir : Int) (own : List Int) (k : Nat) : List Int := ((List.range k).map (fun j : Nat => (last + dir * ((j : Int) + 1)) % n)).filter (fun i => !own.contains i)
theorem wayTo_in {n last dir : Int} {own : List Int} {k : Nat} (h : own.contains ((last + dir * ((k : Int) + 1)) % n) = true) : wayTo n last dir own (k + 1) = wayTo n last dir own k := by
  unfold wayTo
  rw [List.range_succ, List.map_append, List.filter_append]
  simpa using h
theorem wayTo_out {n last dir : Int} {own : List Int} {k : Nat} (h : own.contains ((last + dir * ((k : Int) + 1)) % n) = false) : wayTo n last dir own (k + 1) = wayTo n last dir own k ++ [(last + dir * ((k : Int) + 1)) % n] := by
  unfold wayTo
  rw [List.range_succ, List.map_append, List.filter_append]
  have h' : ¬ (last + dir * ((k : Int) + 1)) % n ∈ own := by simpa using h
  simp [h']
theorem wayTo_le (n last dir : Int) (own : List Int) (k : Nat) : (wayTo n last dir own k).length ≤ k := by
  unfold wayTo
  refine Nat.le_trans (List.length_filter_le _ _) ?_
  simp
def lastOf (own : List Int) (dir : Int) : Int := if dir = 1 then own.getD (own.length - 1) 0 else own.getD 0 0
set_option maxRecDepth 100000 in
set_option maxHeartbeats 2000000 in
theorem ring_Way1u (n x : Int) (b off C : Nat) (w : World) (hn : 6 ≤ n) (hn2 : n ≤ 7) (hb : b < w.heap.size) (c0 : w.cell? ⟨b, off, none⟩ = some (.int .i64 x)) (hr : 0 ≤ x) (hr2 : x < n) :
    Calls Tryz.prog 105 #[.int .i64 n, .slice (some ⟨b, off, none⟩) 1 C, .int .i64 1] w fun e w' => ∃ v, e = .returned v ∧ w'.ownsRow w.heap.size 3 1 v (wayTo n x 1 [x] (n - 1).toNat).length ((wayTo n x 1 [x] (n - 1).toNat).map (Value.int .i64)) ∧ Below w.heap.size w w' := by
  have hmf : ∀ (fn : Fn) (first cap : Array Value) (w : World), (Instr.makeFunc fn first cap).run Tryz.prog w = .ok (.func fn first cap) w := fun _ _ _ _ => rfl
  have z1 : decide (n < 6) = false := by simp; omega
  have z2 : decide (n > 12) = false := by simp; omega
  have hI : Ints w (some ⟨b, off, none⟩) [x] := fun k hk => ⟨b, off, rfl, hb, by
    match k, hk with
    | 0, _ => exact c0⟩
  have HI0 := Lib.hid hI
  clear hI
  go_enter Tryz.func105, Tryz.ntmps105
  go_wp2
  have hB0 : RingAt (w.alloc (.cells #[.slice none 0 0] 234)) w.heap.size [] (.slice none 0 0) := ⟨by go_simp, by go_simp, World.ownsRow_nil _ _ _ _, by simp⟩
  go_loopw [10] (fun i wr => ∃ (k : Nat) (v : Value), (k : Int) ≤ n - 1 ∧ i = .int .i64 ((k : Int) + 1) ∧ RingAt wr w.heap.size (wayTo n x 1 [x] k) v ∧ Below w.heap.size w wr) (fun i _ => n.toNat - (intOf i).toNat)
  case atStart => exact ⟨0, _, by omega, rfl, hB0, (Below.refl _ _).alloc (Nat.le_refl _) _⟩
  case round =>
    obtain ⟨k, v, hk, rfl, hR, hbr⟩ := hrel
    clear hB0
    have hIr := HI0.out.below hbr
    have hwl := wayTo_le n x 1 [x] k
    have hcellB := hR.cell
    by_cases hlt : (k : Int) + 1 < n
    · have q0 : 0 ≤ (x + ((k : Int) + 1)) % n := Int.emod_nonneg _ (by omega)
      have q1 : (x + ((k : Int) + 1)) % n < n := Int.emod_lt_of_pos _ (by omega)
      have hin := @wayTo_in n x 1 [x] k
      have hout := @wayTo_out n x 1 [x] k
      rw [Int.one_mul] at hin hout
      have HA := Lib.hid (ring_At n x ((k : Int) + 1) wr (by omega) (by omega) (by omega) (by omega) (by omega) (by omega))
      generalize (x + ((k : Int) + 1)) % n = q at *
      have HC := Lib.hid (Contains (some ⟨b, off, none⟩) [x] C q wr hIr (by simp))
      cases hcon : List.contains [x] q
      · rw [hcon] at HC
        have HO := Lib.hid (hout hcon)
        clear hin hout hcon
        have hR2 : RingAt (wr.alloc (.cells #[.int .i64 q] 3)) w.heap.size (wayTo n x 1 [x] k) v := ⟨by have := hR.cell; have := hR.lt; go_simp, by have := hR.free; have := hR.lt; go_simp, hR.own.alloc _, by have := hR.lt; simp; omega⟩
        have HR2 := Lib.hid hR2
        clear hR2
        go_wp2_with fail
        refine HA.out.mono ?_
        rintro e w' ⟨rfl, rfl⟩
        go_wp2_with fail
        refine HC.out.mono ?_
        rintro e w' ⟨rfl, rfl⟩
        go_wp2_with fail
        refine (ring_put w.heap.size (wayTo n x 1 [x] k) v q wr.heap.size _ HR2.out (by go_simp) (by omega)).mono ?_
        rintro e w2 ⟨v2, rfl, hR3, hb3⟩
        have hb4 : Below w.heap.size w w2 := (hbr.alloc hbr.size _).trans hb3
        clear hb3 hR hcellB
        go_wp2
        go_roundw
        case rel => exact ⟨k + 1, v2, by omega, by go_num, by rw [HO.out]; exact hR3, hb4⟩
        case measure => simp [intOf]; omega
      · rw [hcon] at HC
        have HO := Lib.hid (hin hcon)
        clear hin hout hcon
        go_wp2_with fail
        refine HA.out.mono ?_
        rintro e w' ⟨rfl, rfl⟩
        go_wp2_with fail
        refine HC.out.mono ?_
        rintro e w' ⟨rfl, rfl⟩
        go_wp2
        go_roundw
        case rel => exact ⟨k + 1, v, by omega, by go_num, by rw [HO.out]; exact hR, hbr⟩
        case measure => simp [intOf]; omega
    · go_wp2_with fail
      refine (clone_own _ v _ wr hR.own (by omega)).mono ?_
      rintro e w2 ⟨v2, rfl, ho2, hb2⟩
      have hkn : (n - 1).toNat = k := by omega
      go_wp2
      go_ret
      exact ⟨_, rfl, by rw [hkn]; exact own_mono ho2 hbr.size, hbr.trans (hb2.mono hbr.size)⟩
set_option maxRecDepth 100000 in
set_option maxHeartbeats 2000000 in
theorem ring_Way2u (n x y : Int) (b off C : Nat) (w : World) (hn : 6 ≤ n) (hn2 : n ≤ 7) (hb : b < w.heap.size) (c0 : w.cell? ⟨b, off, none⟩ = some (.int .i64 x)) (c1 : w.cell? ⟨b, off + 1, none⟩ = some (.int .i64 y)) (hr : 0 ≤ y) (hr2 : y < n) :
    Calls Tryz.prog 105 #[.int .i64 n, .slice (some ⟨b, off, none⟩) 2 C, .int .i64 1] w fun e w' => ∃ v, e = .returned v ∧ w'.ownsRow w.heap.size 3 1 v (wayTo n y 1 [x, y] (n - 1).toNat).length ((wayTo n y 1 [x, y] (n - 1).toNat).map (Value.int .i64)) ∧ Below w.heap.size w w' := by
  have hmf : ∀ (fn : Fn) (first cap : Array Value) (w : World), (Instr.makeFunc fn first cap).run Tryz.prog w = .ok (.func fn first cap) w := fun _ _ _ _ => rfl
  have z1 : decide (n < 6) = false := by simp; omega
  have z2 : decide (n > 12) = false := by simp; omega
  have hI : Ints w (some ⟨b, off, none⟩) [x, y] := fun k hk => ⟨b, off, rfl, hb, by
    match k, hk with
    | 0, _ => exact c0
    | 1, _ => exact c1⟩
  have HI0 := Lib.hid hI
  clear hI
  go_enter Tryz.func105, Tryz.ntmps105
  go_wp2
  have hB0 : RingAt (w.alloc (.cells #[.slice none 0 0] 234)) w.heap.size [] (.slice none 0 0) := ⟨by go_simp, by go_simp, World.ownsRow_nil _ _ _ _, by simp⟩
  go_loopw [10] (fun i wr => ∃ (k : Nat) (v : Value), (k : Int) ≤ n - 1 ∧ i = .int .i64 ((k : Int) + 1) ∧ RingAt wr w.heap.size (wayTo n y 1 [x, y] k) v ∧ Below w.heap.size w wr) (fun i _ => n.toNat - (intOf i).toNat)
  case atStart => exact ⟨0, _, by omega, rfl, hB0, (Below.refl _ _).alloc (Nat.le_refl _) _⟩
  case round =>
    obtain ⟨k, v, hk, rfl, hR, hbr⟩ := hrel
    clear hB0
    have hIr := HI0.out.below hbr
    have hwl := wayTo_le n y 1 [x, y] k
    have hcellB := hR.cell
    by_cases hlt : (k : Int) + 1 < n
    · have q0 : 0 ≤ (y + ((k : Int) + 1)) % n := Int.emod_nonneg _ (by omega)
      have q1 : (y + ((k : Int) + 1)) % n < n := Int.emod_lt_of_pos _ (by omega)
      have hin := @wayTo_in n y 1 [x, y] k
      have hout := @wayTo_out n y 1 [x, y] k
      rw [Int.one_mul] at hin hout
      have HA := Lib.hid (ring_At n y ((k : Int) + 1) wr (by omega) (by omega) (by omega) (by omega) (by omega) (by omega))
      generalize (y + ((k : Int) + 1)) % n = q at *
      have HC := Lib.hid (Contains (some ⟨b, off, none⟩) [x, y] C q wr hIr (by simp))
      cases hcon : List.contains [x, y] q
      · rw [hcon] at HC
        have HO := Lib.hid (hout hcon)
        clear hin hout hcon
        have hR2 : RingAt (wr.alloc (.cells #[.int .i64 q] 3)) w.heap.size (wayTo n y 1 [x, y] k) v := ⟨by have := hR.cell; have := hR.lt; go_simp, by have := hR.free; have := hR.lt; go_simp, hR.own.alloc _, by have := hR.lt; simp; omega⟩
        have HR2 := Lib.hid hR2
        clear hR2
        go_wp2_with fail
        refine HA.out.mono ?_
        rintro e w' ⟨rfl, rfl⟩
        go_wp2_with fail
        refine HC.out.mono ?_
        rintro e w' ⟨rfl, rfl⟩
        go_wp2_with fail
        refine (ring_put w.heap.size (wayTo n y 1 [x, y] k) v q wr.heap.size _ HR2.out (by go_simp) (by omega)).mono ?_
        rintro e w2 ⟨v2, rfl, hR3, hb3⟩
        have hb4 : Below w.heap.size w w2 := (hbr.alloc hbr.size _).trans hb3
        clear hb3 hR hcellB
        go_wp2
        go_roundw
        case rel => exact ⟨k + 1, v2, by omega, by go_num, by rw [HO.out]; exact hR3, hb4⟩
        case measure => simp [intOf]; omega
      · rw [hcon] at HC
        have HO := Lib.hid (hin hcon)
        clear hin hout hcon
        go_wp2_with fail
        refine HA.out.mono ?_
        rintro e w' ⟨rfl, rfl⟩
        go_wp2_with fail
        refine HC.out.mono ?_
        rintro e w' ⟨rfl, rfl⟩
        go_wp2
        go_roundw
        case rel => exact ⟨k + 1, v, by omega, by go_num, by rw [HO.out]; exact hR, hbr⟩
        case measure => simp [intOf]; omega
    · go_wp2_with fail
      refine (clone_own _ v _ wr hR.own (by omega)).mono ?_
      rintro e w2 ⟨v2, rfl, ho2, hb2⟩
      have hkn : (n - 1).toNat = k := by omega
      go_wp2
      go_ret
      exact ⟨_, rfl, by rw [hkn]; exact own_mono ho2 hbr.size, hbr.trans (hb2.mono hbr.size)⟩
set_option maxRecDepth 100000 in
set_option maxHeartbeats 2000000 in
theorem ring_Way1d (n x : Int) (b off C : Nat) (w : World) (hn : 6 ≤ n) (hn2 : n ≤ 7) (hb : b < w.heap.size) (c0 : w.cell? ⟨b, off, none⟩ = some (.int .i64 x)) (hr : 0 ≤ x) (hr2 : x < n) :
    Calls Tryz.prog 105 #[.int .i64 n, .slice (some ⟨b, off, none⟩) 1 C, .int .i64 (-1)] w fun e w' => ∃ v, e = .returned v ∧ w'.ownsRow w.heap.size 3 1 v (wayTo n x (-1) [x] (n - 1).toNat).length ((wayTo n x (-1) [x] (n - 1).toNat).map (Value.int .i64)) ∧ Below w.heap.size w w' := by
  have hmf : ∀ (fn : Fn) (first cap : Array Value) (w : World), (Instr.makeFunc fn first cap).run Tryz.prog w = .ok (.func fn first cap) w := fun _ _ _ _ => rfl
  have z1 : decide (n < 6) = false := by simp; omega
  have z2 : decide (n > 12) = false := by simp; omega
  have hI : Ints w (some ⟨b, off, none⟩) [x] := fun k hk => ⟨b, off, rfl, hb, by
    match k, hk with
    | 0, _ => exact c0⟩
  have HI0 := Lib.hid hI
  clear hI
  go_enter Tryz.func105, Tryz.ntmps105
  go_wp2
  have hB0 : RingAt (w.alloc (.cells #[.slice none 0 0] 234)) w.heap.size [] (.slice none 0 0) := ⟨by go_simp, by go_simp, World.ownsRow_nil _ _ _ _, by simp⟩
  go_loopw [10] (fun i wr => ∃ (k : Nat) (v : Value), (k : Int) ≤ n - 1 ∧ i = .int .i64 ((k : Int) + 1) ∧ RingAt wr w.heap.size (wayTo n x (-1) [x] k) v ∧ Below w.heap.size w wr) (fun i _ => n.toNat - (intOf i).toNat)
  case atStart => exact ⟨0, _, by omega, rfl, hB0, (Below.refl _ _).alloc (Nat.le_refl _) _⟩
  case round =>
    obtain ⟨k, v, hk, rfl, hR, hbr⟩ := hrel
    clear hB0
    have hIr := HI0.out.below hbr
    have hwl := wayTo_le n x (-1) [x] k
    have hcellB := hR.cell
    by_cases hlt : (k : Int) + 1 < n
    · have q0 : 0 ≤ (x + -((k : Int) + 1)) % n := Int.emod_nonneg _ (by omega)
      have q1 : (x + -((k : Int) + 1)) % n < n := Int.emod_lt_of_pos _ (by omega)
      have hin := @wayTo_in n x (-1) [x] k
      have hout := @wayTo_out n x (-1) [x] k
      rw [show (-1 : Int) * ((k : Int) + 1) = -((k : Int) + 1) from by omega] at hin hout
      have HA := Lib.hid (ring_At n x (-((k : Int) + 1)) wr (by omega) (by omega) (by omega) (by omega) (by omega) (by omega))
      generalize (x + -((k : Int) + 1)) % n = q at *
      have HC := Lib.hid (Contains (some ⟨b, off, none⟩) [x] C q wr hIr (by simp))
      cases hcon : List.contains [x] q
      · rw [hcon] at HC
        have HO := Lib.hid (hout hcon)
        clear hin hout hcon
        have hR2 : RingAt (wr.alloc (.cells #[.int .i64 q] 3)) w.heap.size (wayTo n x (-1) [x] k) v := ⟨by have := hR.cell; have := hR.lt; go_simp, by have := hR.free; have := hR.lt; go_simp, hR.own.alloc _, by have := hR.lt; simp; omega⟩
        have HR2 := Lib.hid hR2
        clear hR2
        go_wp2_with fail
        refine HA.out.mono ?_
        rintro e w' ⟨rfl, rfl⟩
        go_wp2_with fail
        refine HC.out.mono ?_
        rintro e w' ⟨rfl, rfl⟩
        go_wp2_with fail
        refine (ring_put w.heap.size (wayTo n x (-1) [x] k) v q wr.heap.size _ HR2.out (by go_simp) (by omega)).mono ?_
        rintro e w2 ⟨v2, rfl, hR3, hb3⟩
        have hb4 : Below w.heap.size w w2 := (hbr.alloc hbr.size _).trans hb3
        clear hb3 hR hcellB
        go_wp2
        go_roundw
        case rel => exact ⟨k + 1, v2, by omega, by go_num, by rw [HO.out]; exact hR3, hb4⟩
        case measure => simp [intOf]; omega
      · rw [hcon] at HC
        have HO := Lib.hid (hin hcon)
        clear hin hout hcon
        go_wp2_with fail
        refine HA.out.mono ?_
        rintro e w' ⟨rfl, rfl⟩
        go_wp2_with fail
        refine HC.out.mono ?_
        rintro e w' ⟨rfl, rfl⟩
        go_wp2
        go_roundw
        case rel => exact ⟨k + 1, v, by omega, by go_num, by rw [HO.out]; exact hR, hbr⟩
        case measure => simp [intOf]; omega
    · go_wp2_with fail
      refine (clone_own _ v _ wr hR.own (by omega)).mono ?_
      rintro e w2 ⟨v2, rfl, ho2, hb2⟩
      have hkn : (n - 1).toNat = k := by omega
      go_wp2
      go_ret
      exact ⟨_, rfl, by rw [hkn]; exact own_mono ho2 hbr.size, hbr.trans (hb2.mono hbr.size)⟩
set_option maxRecDepth 100000 in
set_option maxHeartbeats 2000000 in
theorem ring_Way2d (n x y : Int) (b off C : Nat) (w : World) (hn : 6 ≤ n) (hn2 : n ≤ 7) (hb : b < w.heap.size) (c0 : w.cell? ⟨b, off, none⟩ = some (.int .i64 x)) (c1 : w.cell? ⟨b, off + 1, none⟩ = some (.int .i64 y)) (hr : 0 ≤ x) (hr2 : x < n) :
    Calls Tryz.prog 105 #[.int .i64 n, .slice (some ⟨b, off, none⟩) 2 C, .int .i64 (-1)] w fun e w' => ∃ v, e = .returned v ∧ w'.ownsRow w.heap.size 3 1 v (wayTo n x (-1) [x, y] (n - 1).toNat).length ((wayTo n x (-1) [x, y] (n - 1).toNat).map (Value.int .i64)) ∧ Below w.heap.size w w' := by
  have hmf : ∀ (fn : Fn) (first cap : Array Value) (w : World), (Instr.makeFunc fn first cap).run Tryz.prog w = .ok (.func fn first cap) w := fun _ _ _ _ => rfl
  have z1 : decide (n < 6) = false := by simp; omega
  have z2 : decide (n > 12) = false := by simp; omega
  have hI : Ints w (some ⟨b, off, none⟩) [x, y] := fun k hk => ⟨b, off, rfl, hb, by
    match k, hk with
    | 0, _ => exact c0
    | 1, _ => exact c1⟩
  have HI0 := Lib.hid hI
  clear hI
  go_enter Tryz.func105, Tryz.ntmps105
  go_wp2
  have hB0 : RingAt (w.alloc (.cells #[.slice none 0 0] 234)) w.heap.size [] (.slice none 0 0) := ⟨by go_simp, by go_simp, World.ownsRow_nil _ _ _ _, by simp⟩
  go_loopw [10] (fun i wr => ∃ (k : Nat) (v : Value), (k : Int) ≤ n - 1 ∧ i = .int .i64 ((k : Int) + 1) ∧ RingAt wr w.heap.size (wayTo n x (-1) [x, y] k) v ∧ Below w.heap.size w wr) (fun i _ => n.toNat - (intOf i).toNat)
  case atStart => exact ⟨0, _, by omega, rfl, hB0, (Below.refl _ _).alloc (Nat.le_refl _) _⟩
  case round =>
    obtain ⟨k, v, hk, rfl, hR, hbr⟩ := hrel
    clear hB0
    have hIr := HI0.out.below hbr
    have hwl := wayTo_le n x (-1) [x, y] k
    have hcellB := hR.cell
    by_cases hlt : (k : Int) + 1 < n
    · have q0 : 0 ≤ (x + -((k : Int) + 1)) % n := Int.emod_nonneg _ (by omega)
      have q1 : (x + -((k : Int) + 1)) % n < n := Int.emod_lt_of_pos _ (by omega)
      have hin := @wayTo_in n x (-1) [x, y] k
      have hout := @wayTo_out n x (-1) [x, y] k
      rw [show (-1 : Int) * ((k : Int) + 1) = -((k : Int) + 1) from by omega] at hin hout
      have HA := Lib.hid (ring_At n x (-((k : Int) + 1)) wr (by omega) (by omega) (by omega) (by omega) (by omega) (by omega))
      generalize (x + -((k : Int) + 1)) % n = q at *
      have HC := Lib.hid (Contains (some ⟨b, off, none⟩) [x, y] C q wr hIr (by simp))
      cases hcon : List.contains [x, y] q
      · rw [hcon] at HC
        have HO := Lib.hid (hout hcon)
        clear hin hout hcon
        have hR2 : RingAt (wr.alloc (.cells #[.int .i64 q] 3)) w.heap.size (wayTo n x (-1) [x, y] k) v := ⟨by have := hR.cell; have := hR.lt; go_simp, by have := hR.free; have := hR.lt; go_simp, hR.own.alloc _, by have := hR.lt; simp; omega⟩
        have HR2 := Lib.hid hR2
        clear hR2
        go_wp2_with fail
        refine HA.out.mono ?_
        rintro e w' ⟨rfl, rfl⟩
        go_wp2_with fail
        refine HC.out.mono ?_
        rintro e w' ⟨rfl, rfl⟩
        go_wp2_with fail
        refine (ring_put w.heap.size (wayTo n x (-1) [x, y] k) v q wr.heap.size _ HR2.out (by go_simp) (by omega)).mono ?_
        rintro e w2 ⟨v2, rfl, hR3, hb3⟩
        have hb4 : Below w.heap.size w w2 := (hbr.alloc hbr.size _).trans hb3
        clear hb3 hR hcellB
        go_wp2
        go_roundw
        case rel => exact ⟨k + 1, v2, by omega, by go_num, by rw [HO.out]; exact hR3, hb4⟩
        case measure => simp [intOf]; omega
      · rw [hcon] at HC
        have HO := Lib.hid (hin hcon)
        clear hin hout hcon
        go_wp2_with fail
        refine HA.out.mono ?_
        rintro e w' ⟨rfl, rfl⟩
        go_wp2_with fail
        refine HC.out.mono ?_
        rintro e w' ⟨rfl, rfl⟩
        go_wp2
        go_roundw
        case rel => exact ⟨k + 1, v, by omega, by go_num, by rw [HO.out]; exact hR, hbr⟩
        case measure => simp [intOf]; omega
    · go_wp2_with fail
      refine (clone_own _ v _ wr hR.own (by omega)).mono ?_
      rintro e w2 ⟨v2, rfl, ho2, hb2⟩
      have hkn : (n - 1).toNat = k := by omega
      go_wp2
      go_ret
      exact ⟨_, rfl, by rw [hkn]; exact own_mono ho2 hbr.size, hbr.trans (hb2.mono hbr.size)⟩
end Go.Proofs.YtdbempiompiioaaGreat.A10
namespace Go.Proofs.YtdbempiompiioaaGreat.A11
open Go.RowKit A1 A2 A3 A4 A5 A6 A7 A8 A9 A10

theorem lies163 : liesAt Tryz.prog Tryz.prog.depth 163 (2 / Tryz.prog.cellsOf 163) 0 163 1 = true := by kernel_rfl
theorem size163 : (Tryz.prog.info? 163).map (·.size) = some 2 := by kernel_rfl
set_option maxRecDepth 100000 in
theorem copy_first (b : Nat) (w : World) (h0 : w.cell? ⟨b, 0, none⟩ = some (.pointer none)) (hsh : w.shape? b = some (163, 2)) (hf : w.frozen? ⟨b, 0, none⟩ = false) :
    Calls Tryz.prog 142 #[.pointer (some ⟨b, 0, none⟩)] w fun e w' => e = .returned (.tuple #[]) ∧ w' = w.setCell ⟨b, 0, none⟩ (.pointer (some ⟨b, 0, none⟩)) := by
  obtain ⟨j, hj, hjs⟩ := Option.map_eq_some_iff.1 size163
  have HJ := Lib.hid hj
  have e1 : (convert 160 262 (.pointer (some ⟨b, 0, none⟩))).run Tryz.prog w = .ok (.pointer (some ⟨b, 0, none⟩)) w := Lib.run_to_unsafe w ⟨b, 0, none⟩ Tryz.underlying160 Tryz.underlying262 hj (by rw [hjs]; decide) hsh (Nat.zero_lt_succ 1)
  have e2 : (convert 262 160 (.pointer (some ⟨b, 0, none⟩))).run Tryz.prog w = .ok (.pointer (some ⟨b, 0, none⟩)) w := Lib.run_from_unsafe w ⟨b, 0, none⟩ Tryz.underlying262 Tryz.underlying160 hj hsh lies163
  clear hj hjs
  go_enter Tryz.func142, Tryz.ntmps142
  go_wp2
  rw [run_callFunc_extern Tryz.func171 (by kernel_rfl) (by kernel_rfl) (by kernel_rfl) (e := Extern.AbiNoEscape.same) (by kernel_rfl)]
  rw [Lib.run_noEscape]
  simp only [Result.andThen]
  rw [Oper.upon_value]
  go_wp2
  go_end0
  exact ⟨rfl, rfl⟩

set_option maxRecDepth 100000 in
theorem copy_used (b : Nat) (w : World) (h0 : w.cell? ⟨b, 0, none⟩ = some (.pointer (some ⟨b, 0, none⟩))) :
    Calls Tryz.prog 142 #[.pointer (some ⟨b, 0, none⟩)] w fun e w' => e = .returned (.tuple #[]) ∧ w' = w := by
  obtain ⟨j, hj, hjs⟩ := Option.map_eq_some_iff.1 size163
  have e1 : ∀ w : World, (binOp .neq 160 (.pointer (some ⟨b, 0, none⟩)) (.pointer (some ⟨b, 0, none⟩))).run Tryz.prog w = .ok (.bool false) w := fun w => Lib.run_neq_ptr_same w ⟨b, 0, none⟩ Tryz.underlying160 hj
  clear hj hjs
  go_enter Tryz.func142, Tryz.ntmps142
  go_wp2
  go_end0
  exact ⟨rfl, rfl⟩
abbrev Bd (b : Nat) (bs : List Value) (w : World) : Prop := Lib.IsBuilderF 163 5 b b bs w
theorem copyCheck (b : Nat) (bs : List Value) (w : World) (h : Bd b bs w) :
    Calls Tryz.prog 142 #[.pointer (some ⟨b, 0, none⟩)] w fun e w' => e = .returned (.tuple #[]) ∧ Lib.BuilderAtF 163 5 b b (.pointer (some ⟨b, 0, none⟩)) bs w' ∧ Below b w w' := by
  rcases h with h | h
  · refine (copy_first b w h.cell0 h.shape h.frozen0).mono ?_
    rintro e w' ⟨rfl, rfl⟩
    exact ⟨rfl, h.used _, (Below.refl b w).setCell (p := ⟨b, 0, none⟩) (Nat.le_refl b) _⟩
  · refine (copy_used b w h.cell0).mono ?_
    rintro e w' ⟨rfl, rfl⟩
    exact ⟨rfl, h, Below.refl b _⟩
theorem info5 : (Tryz.prog.info? 5).map (fun i => (i.zero, i.size, i.bytes)) = some (some (.int .u8 0), 1, 1) := by kernel_rfl
theorem heap_lt {w : World} {b : Nat} {o : Obj} (h : w.heap[b]? = some o) : b < w.heap.size := (Array.getElem?_eq_some_iff.1 h).1
set_option maxRecDepth 100000 in
set_option maxHeartbeats 2000000 in
theorem WriteByte (b : Nat) (bs : List Value) (c : Int) (w : World) (h : Bd b bs w) (hl : bs.length ≤ 100000) :
    Calls Tryz.prog 178 #[.pointer (some ⟨b, 0, none⟩), .int .u8 c] w fun e w' => e = .returned .nilIface ∧ Bd b (bs ++ [.int .u8 c]) w' ∧ Below b w w' := by
  obtain ⟨i0, hi, hz0, hz1, hz2⟩ := info_parts info5
  have HZ := Lib.hid (And.intro hz0 (And.intro hz1 hz2))
  have HI := Lib.hid hi
  clear hi hz0 hz1 hz2
  go_enter Tryz.func178, Tryz.ntmps178
  go_wp2_with fail
  refine (copyCheck b bs _ h).mono ?_
  rintro e w1 ⟨rfl, ⟨hB, v, hbk, hown, hne⟩, hb1⟩
  have c0 : w1.cell? ⟨b, 0, none⟩ = some (.pointer (some ⟨b, 0, none⟩)) := by simp [World.cell?, hbk]
  have c1 : w1.cell? ⟨b, 1, none⟩ = some v := by simp [World.cell?, hbk]
  have hlt := heap_lt hbk
  have HK := Lib.hid hbk
  clear hbk
  go_wp2_with (at_builtin; refine wpList_append_ownF _ rfl _ _ 161 rfl b 5 i0 (.int .u8 0) 1 1 Tryz.underlying161 HI.out HZ.out.1 HZ.out.2.1 HZ.out.2.2 rfl (by decide) _ _ _ rfl (hown.alloc _) ⟨w1.heap.size, 0, none⟩ 1 1 [.int .u8 c] rfl rfl ?c1 ?c2 ?c3 ?c4 ?c5 ?_)
  case c1 =>
    intro j u hj
    match j, hj with
    | 0, hj => simp at hj; subst hj; simp [Addr.add]
  case c2 => intro u hu; simp at hu; subst hu; rfl
  case c3 => unfold maxLen; omega
  case c4 => omega
  case c5 => simp; omega
  intro v' w2 hown' hgrow _
  have hk2 : w2.heap[b]? = some (.cells #[.pointer (some ⟨b, 0, none⟩), v] 163 (0, 0)) := (hgrow.block b (by simp; omega) (fun e => hne e.symm)).trans ((Below.heap_alloc _ _ _ hlt).trans HK.out)
  have hb2 : Below b w w2 := (hb1.alloc (by omega) _).grown hgrow (by simp; omega) (fun k hk => (hown.lt k hk).1)
  have d0 : w2.cell? ⟨b, 0, none⟩ = some (.pointer (some ⟨b, 0, none⟩)) := by simp [World.cell?, hk2]
  have d1 : w2.cell? ⟨b, 1, none⟩ = some v := by simp [World.cell?, hk2]
  have f1 : w2.frozen? ⟨b, 1, none⟩ = false := by simp [World.frozen?, hk2]
  have HK2 := Lib.hid hk2
  clear hk2 hgrow
  obtain ⟨ao, n', cap, rfl⟩ : ∃ ao n' cap, v' = .slice ao n' cap := by
    rcases hown'.2 with ⟨hv, _⟩ | ⟨g, cap, cur, fz, hv, _⟩
    · exact ⟨_, _, _, hv⟩
    · exact ⟨_, _, _, hv⟩
  go_wp2
  go_ret
  exact ⟨rfl, .inr (Lib.BuilderAtF.put (T := 163) (e := 5) (Nat.le_refl b) HK2.out (bs' := bs ++ [.int .u8 c]) (by simpa using hown') (by decide)), hb2.setCell (p := ⟨b, 1, none⟩) (Nat.le_refl b) _⟩

set_option maxRecDepth 100000 in
set_option maxHeartbeats 2000000 in
theorem WriteString (b : Nat) (bs : List Value) (s : ByteArray) (w : World) (h : Bd b bs w) (hl : bs.length ≤ 100000) (hs : s.size ≤ 100000) :
    Calls Tryz.prog 99 #[.pointer (some ⟨b, 0, none⟩), .string s] w fun e w' => e = .returned (.tuple #[.int .i64 s.size, .nilIface]) ∧ Bd b (bs ++ Lib.strCells s) w' ∧ Below b w w' := by
  obtain ⟨i0, hi, hz0, hz1, hz2⟩ := info_parts info5
  have HZ := Lib.hid (And.intro hz0 (And.intro hz1 hz2))
  have HI := Lib.hid hi
  clear hi hz0 hz1 hz2
  go_enter Tryz.func99, Tryz.ntmps99
  go_wp2_with fail
  refine (copyCheck b bs _ h).mono ?_
  rintro e w1 ⟨rfl, ⟨hB, v, hbk, hown, hne⟩, hb1⟩
  have c0 : w1.cell? ⟨b, 0, none⟩ = some (.pointer (some ⟨b, 0, none⟩)) := by simp [World.cell?, hbk]
  have c1 : w1.cell? ⟨b, 1, none⟩ = some v := by simp [World.cell?, hbk]
  have hlt := heap_lt hbk
  have HK := Lib.hid hbk
  clear hbk
  go_wp2_with (at_builtin; refine Lib.wpList_append_own_stringF _ rfl _ _ 161 9 rfl b 5 i0 Tryz.underlying161 Tryz.underlying9 HI.out HZ.out.1 HZ.out.2.1 HZ.out.2.2 _ _ _ rfl hown s rfl ?c3 ?c4 ?c5 ?_)
  case c3 => unfold maxLen; omega
  case c4 => omega
  case c5 => omega
  intro v' w2 hown' hgrow _
  have hk2 : w2.heap[b]? = some (.cells #[.pointer (some ⟨b, 0, none⟩), v] 163 (0, 0)) := (hgrow.block b hlt (fun e => hne e.symm)).trans HK.out
  have hb2 : Below b w w2 := hb1.grown hgrow (by omega) (fun k hk => (hown.lt k hk).1)
  have d0 : w2.cell? ⟨b, 0, none⟩ = some (.pointer (some ⟨b, 0, none⟩)) := by simp [World.cell?, hk2]
  have d1 : w2.cell? ⟨b, 1, none⟩ = some v := by simp [World.cell?, hk2]
  have f1 : w2.frozen? ⟨b, 1, none⟩ = false := by simp [World.frozen?, hk2]
  have HK2 := Lib.hid hk2
  clear hk2 hgrow
  obtain ⟨ao, n', cap, rfl⟩ : ∃ ao n' cap, v' = .slice ao n' cap := by
    rcases hown'.2 with ⟨hv, _⟩ | ⟨g, cap, cur, fz, hv, _⟩
    · exact ⟨_, _, _, hv⟩
    · exact ⟨_, _, _, hv⟩
  go_wp2
  go_ret2
  exact ⟨rfl, .inr (Lib.BuilderAtF.put (T := 163) (e := 5) (Nat.le_refl b) HK2.out (bs' := bs ++ Lib.strCells s) (by simpa [Lib.strCells_length] using hown') (by decide)), hb2.setCell (p := ⟨b, 1, none⟩) (Nat.le_refl b) _⟩
theorem String (b : Nat) (l : List UInt8) (w : World) (h : Bd b (Lib.byteCells l) w) (hb : b ≤ w.heap.size) :
    Calls Tryz.prog 103 #[.pointer (some ⟨b, 0, none⟩)] w fun e w' => e = .returned (.string ⟨l.toArray⟩) ∧ Below b w w' :=
  (Tryz.Builder_String_any_f b b l w h hb).mono fun e w' hh => ⟨hh.1, hh.2.2⟩
end Go.Proofs.YtdbempiompiioaaGreat.A11
namespace Go.Proofs.YtdbempiompiioaaGreat.CL
open Go.Shelf Go.RowKit Go.Lib
def ren29 : Go.Shelf.Ren := ⟨fun | 41 => 29 | n => n, fun | 22 => 32 | 23 => 52 | 4 => 4 | n => n, fun | n => n⟩
theorem lays29 : Go.Proofs.SlLaysE0.n41 Tryz.prog ren29 := {
  mixed := by kernel_rfl
  f41 := ⟨Tryz.f29.name, by decide, Tryz.func29.trans (congrArg some (by kernel_rfl))⟩
  t4 := Tryz.underlying4
  a4 := Tryz.isAgg4
  z4 := Tryz.sizeOf4
  v4 := Tryz.zeroValue4
  t22 := Tryz.underlying32
  a22 := Tryz.isAgg32
  z22 := Tryz.sizeOf32
  v22 := Tryz.zeroValue32 }
theorem size52 (w : World) : (Go.sizeOf 52).run Tryz.prog w = .ok 4 w := Tryz.sizeOf52 w
theorem info52 : (Tryz.prog.info? 52).map (fun i => (i.zero, i.size, i.bytes)) = some (some (.agg #[.int .i64 0, .int .i64 0, .int .i64 0, .int .i64 0]), 4, 32) := by kernel_rfl
theorem Clone29 (b off n c : Nat) (news : List Value) (w : World) (hl : news.length = n * 4) (hn : n ≤ 10000) (hc : ∀ j u, news[j]? = some u → w.cell? ⟨b, off + j, none⟩ = some u) (h1 : ∀ u ∈ news, u.oneCell' = true) :
    Calls Tryz.prog 29 #[.slice (some ⟨b, off, none⟩) n c] w fun e w' => ∃ v', e = .returned v' ∧ w'.ownsRow w.heap.size 52 4 v' n news ∧ v' ≠ .slice none 0 0 ∧ Below w.heap.size w w' := by
  obtain ⟨i, hi, hz, hs, hb⟩ := info_parts info52
  exact AnyE.slices_Clone lays29 i (.agg #[.int .i64 0, .int .i64 0, .int .i64 0, .int .i64 0]) 4 32 hi hz hs hb rfl (by decide) size52 b off n c news w hl (by unfold maxLen; omega) (by omega) hc h1
theorem Clone29_nil (n c : Nat) (w : World) : Calls Tryz.prog 29 #[.slice none n c] w fun e w' => e = .returned (.slice none 0 0) ∧ w' = w := AnyE.slices_Clone_nil lays29 n c w
def ren30 : Go.Shelf.Ren := ⟨fun | 41 => 30 | n => n, fun | 22 => 25 | 23 => 38 | 4 => 4 | n => n, fun | n => n⟩
theorem lays30 : Go.Proofs.SlLaysE0.n41 Tryz.prog ren30 := {
  mixed := by kernel_rfl
  f41 := ⟨Tryz.f30.name, by decide, Tryz.func30.trans (congrArg some (by kernel_rfl))⟩
  t4 := Tryz.underlying4
  a4 := Tryz.isAgg4
  z4 := Tryz.sizeOf4
  v4 := Tryz.zeroValue4
  t22 := Tryz.underlying25
  a22 := Tryz.isAgg25
  z22 := Tryz.sizeOf25
  v22 := Tryz.zeroValue25 }
theorem size38 (w : World) : (Go.sizeOf 38).run Tryz.prog w = .ok 3 w := Tryz.sizeOf38 w
theorem info38 : (Tryz.prog.info? 38).map (fun i => (i.zero, i.size, i.bytes)) = some (some (.agg #[.int .i64 0, .int .i64 0, .string ⟨#[]⟩]), 3, 32) := by kernel_rfl
theorem Clone30 (b off n c : Nat) (news : List Value) (w : World) (hl : news.length = n * 3) (hn : n ≤ 10000) (hc : ∀ j u, news[j]? = some u → w.cell? ⟨b, off + j, none⟩ = some u) (h1 : ∀ u ∈ news, u.oneCell' = true) :
    Calls Tryz.prog 30 #[.slice (some ⟨b, off, none⟩) n c] w fun e w' => ∃ v', e = .returned v' ∧ w'.ownsRow w.heap.size 38 3 v' n news ∧ v' ≠ .slice none 0 0 ∧ Below w.heap.size w w' := by
  obtain ⟨i, hi, hz, hs, hb⟩ := info_parts info38
  exact AnyE.slices_Clone lays30 i (.agg #[.int .i64 0, .int .i64 0, .string ⟨#[]⟩]) 3 32 hi hz hs hb rfl (by decide) size38 b off n c news w hl (by unfold maxLen; omega) (by omega) hc h1
theorem Clone30_nil (n c : Nat) (w : World) : Calls Tryz.prog 30 #[.slice none n c] w fun e w' => e = .returned (.slice none 0 0) ∧ w' = w := AnyE.slices_Clone_nil lays30 n c w
def ren38 : Go.Shelf.Ren := ⟨fun | 41 => 38 | n => n, fun | 22 => 45 | 23 => 48 | 4 => 4 | n => n, fun | n => n⟩
theorem lays38 : Go.Proofs.SlLaysE0.n41 Tryz.prog ren38 := {
  mixed := by kernel_rfl
  f41 := ⟨Tryz.f38.name, by decide, Tryz.func38.trans (congrArg some (by kernel_rfl))⟩
  t4 := Tryz.underlying4
  a4 := Tryz.isAgg4
  z4 := Tryz.sizeOf4
  v4 := Tryz.zeroValue4
  t22 := Tryz.underlying45
  a22 := Tryz.isAgg45
  z22 := Tryz.sizeOf45
  v22 := Tryz.zeroValue45 }
theorem size48 (w : World) : (Go.sizeOf 48).run Tryz.prog w = .ok 4 w := Tryz.sizeOf48 w
theorem info48 : (Tryz.prog.info? 48).map (fun i => (i.zero, i.size, i.bytes)) = some (some (.agg #[.int .i64 0, .int .i64 0, .int .i64 0, .int .i64 0]), 4, 32) := by kernel_rfl
theorem Clone38 (b off n c : Nat) (news : List Value) (w : World) (hl : news.length = n * 4) (hn : n ≤ 10000) (hc : ∀ j u, news[j]? = some u → w.cell? ⟨b, off + j, none⟩ = some u) (h1 : ∀ u ∈ news, u.oneCell' = true) :
    Calls Tryz.prog 38 #[.slice (some ⟨b, off, none⟩) n c] w fun e w' => ∃ v', e = .returned v' ∧ w'.ownsRow w.heap.size 48 4 v' n news ∧ v' ≠ .slice none 0 0 ∧ Below w.heap.size w w' := by
  obtain ⟨i, hi, hz, hs, hb⟩ := info_parts info48
  exact AnyE.slices_Clone lays38 i (.agg #[.int .i64 0, .int .i64 0, .int .i64 0, .int .i64 0]) 4 32 hi hz hs hb rfl (by decide) size48 b off n c news w hl (by unfold maxLen; omega) (by omega) hc h1
theorem Clone38_nil (n c : Nat) (w : World) : Calls Tryz.prog 38 #[.slice none n c] w fun e w' => e = .returned (.slice none 0 0) ∧ w' = w := AnyE.slices_Clone_nil lays38 n c w
def ren107 : Go.Shelf.Ren := ⟨fun | 41 => 107 | n => n, fun | 22 => 81 | 23 => 129 | 4 => 4 | n => n, fun | n => n⟩
theorem lays107 : Go.Proofs.SlLaysE0.n41 Tryz.prog ren107 := {
  mixed := by kernel_rfl
  f41 := ⟨Tryz.f107.name, by decide, Tryz.func107.trans (congrArg some (by kernel_rfl))⟩
  t4 := Tryz.underlying4
  a4 := Tryz.isAgg4
  z4 := Tryz.sizeOf4
  v4 := Tryz.zeroValue4
  t22 := Tryz.underlying81
  a22 := Tryz.isAgg81
  z22 := Tryz.sizeOf81
  v22 := Tryz.zeroValue81 }
theorem size129 (w : World) : (Go.sizeOf 129).run Tryz.prog w = .ok 4 w := Tryz.sizeOf129 w
theorem info129 : (Tryz.prog.info? 129).map (fun i => (i.zero, i.size, i.bytes)) = some (some (.agg #[.string ⟨#[]⟩, .string ⟨#[]⟩, .string ⟨#[]⟩, .int .i64 0]), 4, 56) := by kernel_rfl
theorem Clone107 (b off n c : Nat) (news : List Value) (w : World) (hl : news.length = n * 4) (hn : n ≤ 10000) (hc : ∀ j u, news[j]? = some u → w.cell? ⟨b, off + j, none⟩ = some u) (h1 : ∀ u ∈ news, u.oneCell' = true) :
    Calls Tryz.prog 107 #[.slice (some ⟨b, off, none⟩) n c] w fun e w' => ∃ v', e = .returned v' ∧ w'.ownsRow w.heap.size 129 4 v' n news ∧ v' ≠ .slice none 0 0 ∧ Below w.heap.size w w' := by
  obtain ⟨i, hi, hz, hs, hb⟩ := info_parts info129
  exact AnyE.slices_Clone lays107 i (.agg #[.string ⟨#[]⟩, .string ⟨#[]⟩, .string ⟨#[]⟩, .int .i64 0]) 4 56 hi hz hs hb rfl (by decide) size129 b off n c news w hl (by unfold maxLen; omega) (by omega) hc h1
theorem Clone107_nil (n c : Nat) (w : World) : Calls Tryz.prog 107 #[.slice none n c] w fun e w' => e = .returned (.slice none 0 0) ∧ w' = w := AnyE.slices_Clone_nil lays107 n c w
def ren199 : Go.Shelf.Ren := ⟨fun | 41 => 199 | n => n, fun | 22 => 59 | 23 => 44 | 4 => 4 | n => n, fun | n => n⟩
theorem lays199 : Go.Proofs.SlLaysE0.n41 Tryz.prog ren199 := {
  mixed := by kernel_rfl
  f41 := ⟨Tryz.f199.name, by decide, Tryz.func199.trans (congrArg some (by kernel_rfl))⟩
  t4 := Tryz.underlying4
  a4 := Tryz.isAgg4
  z4 := Tryz.sizeOf4
  v4 := Tryz.zeroValue4
  t22 := Tryz.underlying59
  a22 := Tryz.isAgg59
  z22 := Tryz.sizeOf59
  v22 := Tryz.zeroValue59 }
theorem size44 (w : World) : (Go.sizeOf 44).run Tryz.prog w = .ok 2 w := Tryz.sizeOf44 w
theorem info44 : (Tryz.prog.info? 44).map (fun i => (i.zero, i.size, i.bytes)) = some (some (.agg #[.int .i64 0, .int .i64 0]), 2, 16) := by kernel_rfl
theorem Clone199 (b off n c : Nat) (news : List Value) (w : World) (hl : news.length = n * 2) (hn : n ≤ 10000) (hc : ∀ j u, news[j]? = some u → w.cell? ⟨b, off + j, none⟩ = some u) (h1 : ∀ u ∈ news, u.oneCell' = true) :
    Calls Tryz.prog 199 #[.slice (some ⟨b, off, none⟩) n c] w fun e w' => ∃ v', e = .returned v' ∧ w'.ownsRow w.heap.size 44 2 v' n news ∧ v' ≠ .slice none 0 0 ∧ Below w.heap.size w w' := by
  obtain ⟨i, hi, hz, hs, hb⟩ := info_parts info44
  exact AnyE.slices_Clone lays199 i (.agg #[.int .i64 0, .int .i64 0]) 2 16 hi hz hs hb rfl (by decide) size44 b off n c news w hl (by unfold maxLen; omega) (by omega) hc h1
theorem Clone199_nil (n c : Nat) (w : World) : Calls Tryz.prog 199 #[.slice none n c] w fun e w' => e = .returned (.slice none 0 0) ∧ w' = w := AnyE.slices_Clone_nil lays199 n c w
end Go.Proofs.YtdbempiompiioaaGreat.CL
namespace Go.Proofs.YtdbempiompiioaaGreat.A8b
open Go.RowKit A1 A2 A3 A4 A5 A6 A7 A8

def RetInts2 (w : World) (l : List Int) (e : Ending) (w' : World) : Prop := ∃ A C, e = .returned (.slice A l.length C) ∧ Ints w' A l ∧ l.length ≤ C ∧ (∀ b off, A = some ⟨b, off, none⟩ → w.heap.size ≤ b) ∧ Below w.heap.size w w'
theorem RetInts2.nil {w w' : World} (h : Below w.heap.size w w') : RetInts2 w [] (.returned (.slice none 0 0)) w' := ⟨none, 0, rfl, fun k hk => absurd hk (by simp), Nat.le_refl _, (fun b off e => by cases e), h⟩
set_option maxRecDepth 100000 in
theorem Owners_node2 (N Pi Er G Fi : Int) (PA : Option Addr) (ps : List Int) (PC : Nat) (slot : Int) (w : World) (hc : CfOk N Pi Er G Fi ps) (h0 : 0 ≤ slot) (h1 : slot < N) :
    Calls Tryz.prog 58 #[.agg #[.int .i64 N, .int .i64 Pi, .int .i64 Er, .int .i64 G, .int .i64 Fi, .slice PA ps.length PC], .int .i64 slot] w (RetInts2 w [slot]) := by
  have n0 := hc.n0
  have n1 := hc.n1
  have d1 : decide (slot < 0) = false := by simp; omega
  have d2 : decide (slot - N ≥ ps.length) = false := by simp; omega
  have d3 : decide (slot - N < 0) = true := by simp; omega
  go_enter Tryz.func58, Tryz.ntmps58
  go_wp2
  go_ret
  refine ⟨some ⟨w.heap.size + 1, 0, none⟩, 1, rfl, ?_, by simp, fun b off e => by injection e with e; injection e with e _; omega, by repeat (first | exact Below.refl _ _ | refine Below.alloc ?_ (by simp; try omega) _)⟩
  intro k hk
  obtain rfl : k = 0 := by simpa using hk
  refine ⟨_, _, rfl, by simp, ?_⟩
  go_simp
set_option maxRecDepth 100000 in
theorem Owners_none2 (N Pi Er G Fi : Int) (b off : Nat) (ps : List Int) (PC : Nat) (slot : Int) (w : World) (hc : CfOk N Pi Er G Fi ps) (hk : N ≤ slot) (hk2 : slot - N < ps.length) (hcell : w.cell? ⟨b, off + (slot - N).toNat, none⟩ = some (.int .i64 (-1))) (hb : b < w.heap.size) :
    Calls Tryz.prog 58 #[.agg #[.int .i64 N, .int .i64 Pi, .int .i64 Er, .int .i64 G, .int .i64 Fi, .slice (some ⟨b, off, none⟩) ps.length PC], .int .i64 slot] w (RetInts2 w []) := by
  have n0 := hc.n0
  have n1 := hc.n1
  have n2 := hc.len
  have d1 : decide (slot < 0) = false := by simp; omega
  have d2 : decide (slot - N ≥ ps.length) = false := by simp; omega
  have d3 : decide (slot - N < 0) = false := by simp; omega
  go_enter Tryz.func58, Tryz.ntmps58
  go_wp2
  go_ret
  exact RetInts2.nil (by repeat (first | exact Below.refl _ _ | refine Below.alloc ?_ (by simp; try omega) _))
set_option maxRecDepth 100000 in
theorem Owners_pair2 (N Pi Er G Fi : Int) (b off : Nat) (ps : List Int) (PC : Nat) (slot a : Int) (w : World) (hc : CfOk N Pi Er G Fi ps) (hk : N ≤ slot) (hk2 : slot - N < ps.length) (hcell : w.cell? ⟨b, off + (slot - N).toNat, none⟩ = some (.int .i64 a)) (hb : b < w.heap.size) (ha : 0 ≤ a) (ha2 : a < N) :
    Calls Tryz.prog 58 #[.agg #[.int .i64 N, .int .i64 Pi, .int .i64 Er, .int .i64 G, .int .i64 Fi, .slice (some ⟨b, off, none⟩) ps.length PC], .int .i64 slot] w (RetInts2 w [a, (a + 1) % N]) := by
  have n0 := hc.n0
  have n1 := hc.n1
  have n2 := hc.len
  have d1 : decide (slot < 0) = false := by simp; omega
  have d2 : decide (slot - N ≥ ps.length) = false := by simp; omega
  have d3 : decide (slot - N < 0) = false := by simp; omega
  have d4 : (a == -1) = false := beq_eq_false_iff_ne.mpr (by omega)
  have d7 : ¬ N = 0 := by omega
  have e1 : IntKind.i64.wrap (a + 1) = a + 1 := by rw [IntKind.wrap_i64]; omega
  have e2 : (a + 1).tmod N = (a + 1) % N := Int.tmod_eq_emod_of_nonneg (by omega)
  have d5 : decide (N ≤ 0) = false := by simp; omega
  go_enter Tryz.func58, Tryz.ntmps58
  go_wp2
  go_region_held3 (fun w' => w'.cell? ⟨b, off + (slot - N).toNat, none⟩ = some (.int .i64 a) ∧ w'.cell? ⟨w.heap.size, 0, none⟩ = some (.int .i64 N) ∧ w'.cell? ⟨w.heap.size, 5, none⟩ = some (.slice (some ⟨b, off, none⟩) ps.length PC)) (go_keep) (fail)
  go_wp2
  go_ret
  refine ⟨some ⟨w.heap.size + 1, 0, none⟩, 2, rfl, ?_, by simp, fun b off e => by injection e with e; injection e with e _; omega, by repeat (first | exact Below.refl _ _ | refine Below.drew ?_ | refine below_drewN ?_ _ | refine Below.alloc ?_ (by simp; try omega) _)⟩
  intro k hk
  rcases (by simpa using hk : k < 2) with _
  match k, hk with
  | 0, _ => exact ⟨_, _, rfl, by simp, by go_simp⟩
  | 1, _ => exact ⟨_, _, rfl, by simp, by go_simp⟩
theorem Owners2 (N Pi Er G Fi : Int) (PA : Option Addr) (ps : List Int) (PC : Nat) (slot : Int) (w : World) (hc : CfOk N Pi Er G Fi ps) (hl : Ints w PA ps) (h0 : 0 ≤ slot) (h1 : slot < N + ps.length) :
    Calls Tryz.prog 58 #[.agg #[.int .i64 N, .int .i64 Pi, .int .i64 Er, .int .i64 G, .int .i64 Fi, .slice PA ps.length PC], .int .i64 slot] w (RetInts2 w (owners N ps slot)) := by
  by_cases h : slot < N
  · rw [owners_node h]
    exact Owners_node2 N Pi Er G Fi PA ps PC slot w hc h0 h
  · have hk : (slot - N).toNat < ps.length := by omega
    obtain ⟨b, off, rfl, hb, hcell⟩ := hl _ hk
    have he := hc.each _ hk
    have hg : ps.getD (slot - N).toNat (-1) = ps.getD (slot - N).toNat 0 := by
      rw [List.getD_eq_getElem?_getD, List.getD_eq_getElem?_getD, List.getElem?_eq_getElem hk]
      rfl
    unfold owners
    rw [if_neg h, hg]
    by_cases hn : ps.getD (slot - N).toNat 0 = -1
    · rw [if_pos hn]
      rw [hn] at hcell
      exact Owners_none2 N Pi Er G Fi b off ps PC slot w hc (by omega) (by omega) hcell hb
    · rw [if_neg hn]
      exact Owners_pair2 N Pi Er G Fi b off ps PC slot _ w hc (by omega) (by omega) hcell hb (by omega) (by omega)
end Go.Proofs.YtdbempiompiioaaGreat.A8b
