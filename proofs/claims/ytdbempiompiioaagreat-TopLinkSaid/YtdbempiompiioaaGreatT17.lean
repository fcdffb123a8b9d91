/- Clocks: by how much one is put on. The network in memory: what does not turn; how far a clock seems ahead. Something of each node, in a row: states, clocks as they seem. Conditions: the bounds stated in each theorem. -/
import Derived.Test.YtdbempiompiioaaGreatT04
import Derived.Test.YtdbempiompiioaaGreatT16
set_option linter.unusedVariables false
set_option linter.unusedSimpArgs false
namespace Go.Proofs.YtdbempiompiioaaGreat.A40
open Go.RowKit A1 A2 A3 A4 A5 A6 A7 A8 A9 A10 A11 A12 A13 A14 A15 A16 A17 A18 A19 A20 A21 A22 A23 A24 A25 A26 A27 A28 A29 A30 A31 A32 A33 A34 A38 A39

def dataK (l : List Hd) : Nat → List Int
  | 0 => []
  | k + 1 => if (l.getD k Hd.none).kind = 3 then dataK l k ++ [(l.getD k Hd.none).dev] else dataK l k
theorem dataK_le (l : List Hd) (k : Nat) : (dataK l k).length ≤ k := by
  induction k with
  | zero => simp [dataK]
  | succ k ih =>
    unfold dataK
    split
    · rw [List.length_append, List.length_singleton]; omega
    · omega
set_option maxRecDepth 100000 in
set_option maxHeartbeats 1000000 in
theorem sync_data (A : Option Addr) (l : List Hd) (C : Nat) (w : World) (hl : Hds w A l) (hlen : l.length ≤ 100) :
    Calls Tryz.prog 116 #[.slice A l.length C] w fun e w' => ∃ v, e = .returned v ∧ w'.ownsRow w.heap.size 3 1 v (dataK l l.length).length ((dataK l l.length).map (Value.int .i64)) ∧ Below w.heap.size w w' := by
  have HL := Lib.hid hl
  clear hl
  obtain ⟨i0, hi, hz0, hz1, hz2⟩ := info_parts info3
  have HI := Lib.hid hi
  have HZ0 := Lib.hid hz0
  have HZ1 := Lib.hid hz1
  have HZ2 := Lib.hid hz2
  clear hi hz0 hz1 hz2
  go_enter Tryz.func116, Tryz.ntmps116
  go_wp2
  go_loopw [3, 8] (fun v i wr => ∃ k : Nat, k ≤ l.length ∧ i = .int .i64 k ∧ wr.ownsRow w.heap.size 3 1 v (dataK l k).length ((dataK l k).map (Value.int .i64)) ∧ Below w.heap.size w wr) (fun _ i _ => l.length - (intOf i).toNat)
  case atStart => exact ⟨0, by omega, rfl, World.ownsRow_nil _ _ _ _, Below.refl _ _⟩
  case round =>
    obtain ⟨k, hk, rfl, hown, hbr⟩ := hrel
    by_cases hlt : k < l.length
    · obtain ⟨eb, eo, rfl, hel, hc0, hc1, hc2⟩ := (HL.out.below hbr) k hlt
      have hK := dataK_le l k
      have HS := Lib.hid (show dataK l (k + 1) = if (l.getD k Hd.none).kind = 3 then dataK l k ++ [(l.getD k Hd.none).dev] else dataK l k from rfl)
      generalize l.getD k Hd.none = it at *
      obtain ⟨i1, i2, i3⟩ := it
      dsimp only at hc0 hc1 hc2 HS
      have lk0 : (0 : Int) ≤ (k : Int) := by omega
      have lk1 : (k : Int) < (l.length : Int) := by omega
      have HB := Lib.hid hbr
      have hzr := hbr.size
      have hi := HI.out
      by_cases hq : i2 = 3
      · have hq1 : ((i2 : Int) == 3) = true := by simp; omega
        have HS1 := Lib.hid (HS.out.trans (if_pos hq))
        clear hbr hq HS
        go_wp2_with (at_builtin; refine wpList_append_own _ rfl _ _ 22 rfl w.heap.size 3 i0 (.int .i64 0) 1 8 Tryz.underlying22 hi HZ0.out HZ1.out HZ2.out rfl (by decide) _ _ _ rfl ((hown.alloc _).alloc _) ⟨wr.heap.size + 1, 0, none⟩ 1 1 [.int .i64 i3] rfl rfl ?c1 ?c2 ?c3 ?c4 ?c5 ?_)
        case c1 =>
          intro j u hj
          match j, hj with
          | 0, hj => simp at hj; subst hj; simp [Addr.add]
        case c2 => intro u hu; simp at hu; subst hu; rfl
        case c3 => unfold maxLen; omega
        case c4 => omega
        case c5 => simp; omega
        intro v' w2 hown' hgrow _
        have hb2 : Below w.heap.size w w2 := ((HB.out.alloc hzr _).alloc (by simp; omega) _).grown hgrow (by simp; omega) (fun q hq => ownsRow_block hown hq)
        have HB2 := Lib.hid hb2
        clear hgrow hown hb2
        go_wp2
        go_roundw
        case rel => exact ⟨k + 1, by omega, by go_num, by rw [HS1.out]; simpa using hown', HB2.out⟩
        case measure => simp [intOf]; omega
      · have hq1 : ((i2 : Int) == 3) = false := beq_eq_false_iff_ne.mpr (by omega)
        have HS1 := Lib.hid (HS.out.trans (if_neg hq))
        have HO := Lib.hid hown
        clear hbr hq HS hown
        go_wp2
        go_roundw
        case rel => exact ⟨k + 1, by omega, by go_num, by rw [HS1.out]; exact HO.out.alloc _, HB.out.alloc hzr _⟩
        case measure => simp [intOf]; omega
    · obtain rfl : k = l.length := by omega
      have HO := Lib.hid hown
      clear hown
      go_wp2
      go_ret
      exact ⟨_, rfl, HO.out, hbr⟩
theorem sync_of4 (node : Int) (A : Option Addr) (L C : Nat) (w : World) : Calls Tryz.prog 114 #[.int .i64 4, .int .i64 node, .slice A L C] w fun e w' => e = .returned (.iface 199 (.agg #[.slice A L C])) ∧ w = w' := by
  go_enter Tryz.func114, Tryz.ntmps114
  go_wp2
  go_ret
  exact ⟨rfl, rfl⟩
theorem sync_of3 (node : Int) (A : Option Addr) (L C : Nat) (w : World) : Calls Tryz.prog 114 #[.int .i64 3, .int .i64 node, .slice A L C] w fun e w' => e = .returned (.iface 204 (.agg #[.int .i64 node, .slice A L C])) ∧ w = w' := by
  go_enter Tryz.func114, Tryz.ntmps114
  go_wp2
  go_ret
  exact ⟨rfl, rfl⟩
theorem sync_of1 (node : Int) (A : Option Addr) (L C : Nat) (w : World) : Calls Tryz.prog 114 #[.int .i64 1, .int .i64 node, .slice A L C] w fun e w' => e = .returned (.iface 207 (.agg #[.slice A L C])) ∧ w = w' := by
  go_enter Tryz.func114, Tryz.ntmps114
  go_wp2
  go_ret
  exact ⟨rfl, rfl⟩
theorem sync_of2 (node : Int) (A : Option Addr) (L C : Nat) (w : World) : Calls Tryz.prog 114 #[.int .i64 2, .int .i64 node, .slice A L C] w fun e w' => e = .returned (.iface 208 (.agg #[.int .i64 node, .slice A L C])) ∧ w = w' := by
  go_enter Tryz.func114, Tryz.ntmps114
  go_wp2
  go_ret
  exact ⟨rfl, rfl⟩
theorem ta4 (A : Option Addr) (L C : Nat) (w : World) : (Instr.typeAssert (.iface 199 (.agg #[.slice A L C])) 20 199 true).run Tryz.prog w = .ok (.tuple #[.agg #[.slice A L C], .bool true]) w := by kernel_rfl
theorem ta34 (a : Int) (A : Option Addr) (L C : Nat) (w : World) : (Instr.typeAssert (.iface 204 (.agg #[.int .i64 a, .slice A L C])) 20 199 true).run Tryz.prog w = .ok (.tuple #[.agg #[.slice none 0 0], .bool false]) w := by kernel_rfl
theorem ta33 (a : Int) (A : Option Addr) (L C : Nat) (w : World) : (Instr.typeAssert (.iface 204 (.agg #[.int .i64 a, .slice A L C])) 20 204 true).run Tryz.prog w = .ok (.tuple #[.agg #[.int .i64 a, .slice A L C], .bool true]) w := by kernel_rfl
theorem ta14 (A : Option Addr) (L C : Nat) (w : World) : (Instr.typeAssert (.iface 207 (.agg #[.slice A L C])) 20 199 true).run Tryz.prog w = .ok (.tuple #[.agg #[.slice none 0 0], .bool false]) w := by kernel_rfl
theorem ta13 (A : Option Addr) (L C : Nat) (w : World) : (Instr.typeAssert (.iface 207 (.agg #[.slice A L C])) 20 204 true).run Tryz.prog w = .ok (.tuple #[.agg #[.int .i64 0, .slice none 0 0], .bool false]) w := by kernel_rfl
theorem ta11 (A : Option Addr) (L C : Nat) (w : World) : (Instr.typeAssert (.iface 207 (.agg #[.slice A L C])) 20 207 true).run Tryz.prog w = .ok (.tuple #[.agg #[.slice A L C], .bool true]) w := by kernel_rfl
theorem ta24 (a : Int) (A : Option Addr) (L C : Nat) (w : World) : (Instr.typeAssert (.iface 208 (.agg #[.int .i64 a, .slice A L C])) 20 199 true).run Tryz.prog w = .ok (.tuple #[.agg #[.slice none 0 0], .bool false]) w := by kernel_rfl
theorem ta23 (a : Int) (A : Option Addr) (L C : Nat) (w : World) : (Instr.typeAssert (.iface 208 (.agg #[.int .i64 a, .slice A L C])) 20 204 true).run Tryz.prog w = .ok (.tuple #[.agg #[.int .i64 0, .slice none 0 0], .bool false]) w := by kernel_rfl
theorem ta21 (a : Int) (A : Option Addr) (L C : Nat) (w : World) : (Instr.typeAssert (.iface 208 (.agg #[.int .i64 a, .slice A L C])) 20 207 true).run Tryz.prog w = .ok (.tuple #[.agg #[.slice none 0 0], .bool false]) w := by kernel_rfl
theorem ta22 (a : Int) (A : Option Addr) (L C : Nat) (w : World) : (Instr.typeAssert (.iface 208 (.agg #[.int .i64 a, .slice A L C])) 20 208 true).run Tryz.prog w = .ok (.tuple #[.agg #[.int .i64 a, .slice A L C], .bool true]) w := by kernel_rfl
theorem step_nil1 (node : Int) (A : Option Addr) (C : Nat) (w : World) : Calls Tryz.prog 72 #[.int .i64 1, .int .i64 node, .slice A 0 C] w fun e w' => e = .returned (.int .i64 0) ∧ Below w.heap.size w w' := by
  have HO := Lib.hid (fun w => sync_of1 node A 0 C w)
  have HC := Lib.hid (fun w => chosen_nil (.func (.func 119) #[] #[]) A C w)
  have e1 := ta14 A 0 C
  have e2 := ta13 A 0 C
  have e3 := ta11 A 0 C
  go_enter Tryz.func72, Tryz.ntmps72
  go_wp2_with fail
  refine (HO.out _).mono ?_
  rintro e w1 ⟨rfl, rfl⟩
  go_wp2_with fail
  refine (HC.out _).mono ?_
  rintro e w2 ⟨rfl, hb⟩
  go_wp2
  go_ret
  exact ⟨rfl, (show Below w.heap.size w _ from (by repeat (first | exact Below.refl _ _ | refine Below.drew ?_ | refine below_drewN ?_ _ | refine Below.alloc ?_ (by simp; try omega) _))).trans (hb.mono (by simp))⟩
theorem step_never (node : Int) (A : Option Addr) (h : Hd) (r : List Hd) (C : Nat) (w : World) (hl : Hds w A (h :: r)) (hlen : (h :: r).length ≤ 100) (hv : ∀ k, k < (h :: r).length → ((h :: r).getD k Hd.none).kind ≠ 3) :
    Calls Tryz.prog 72 #[.int .i64 1, .int .i64 node, .slice A (r.length + 1) C] w fun e w' => e = .returned (.int .i64 h.dev) ∧ Below w.heap.size w w' := by
  have HO := Lib.hid (fun w => sync_of1 node A (r.length + 1) C w)
  have HC := Lib.hid (fun w' (hb : Below w.heap.size w w') => chosen_never A h r C w' (hl.below hb) hlen hv)
  have e1 := ta14 A (r.length + 1) C
  have e2 := ta13 A (r.length + 1) C
  have e3 := ta11 A (r.length + 1) C
  clear hl hlen hv
  go_enter Tryz.func72, Tryz.ntmps72
  go_wp2_with fail
  refine (HO.out _).mono ?_
  rintro e w1 ⟨rfl, rfl⟩
  go_wp2_with fail
  refine (HC.out _ (by repeat (first | exact Below.refl _ _ | refine Below.drew ?_ | refine below_drewN ?_ _ | refine Below.alloc ?_ (by simp; try omega) _))).mono ?_
  rintro e w2 ⟨rfl, hb⟩
  go_wp2
  go_ret
  exact ⟨rfl, (show Below w.heap.size w _ from (by repeat (first | exact Below.refl _ _ | refine Below.drew ?_ | refine below_drewN ?_ _ | refine Below.alloc ?_ (by simp; try omega) _))).trans (hb.mono (by simp))⟩
theorem step_begins (node : Nat) (A : Option Addr) (h : Hd) (r : List Hd) (C : Nat) (w : World) (hl : Hds w A (h :: r)) (hlen : (h :: r).length ≤ 100) (hv : ∀ k, k < (h :: r).length → ((h :: r).getD k Hd.none).kind ≠ 3) :
    Calls Tryz.prog 72 #[.int .i64 2, .int .i64 node, .slice A (r.length + 1) C] w fun e w' => e = .returned (.int .i64 (if decide (node < h.node) then 0 else h.dev)) ∧ Below w.heap.size w w' := by
  have HO := Lib.hid (fun w => sync_of2 node A (r.length + 1) C w)
  have HC := Lib.hid (fun w' (hb : Below w.heap.size w w') => chosen_begins node A (r.length + 1) C A h r C w' (hl.below hb) hlen hv)
  have e1 := ta24 node A (r.length + 1) C
  have e2 := ta23 node A (r.length + 1) C
  have e3 := ta21 node A (r.length + 1) C
  have e4 := ta22 node A (r.length + 1) C
  clear hl hlen hv
  generalize (if decide (node < h.node) = true then (0 : Int) else h.dev) = v at *
  go_enter Tryz.func72, Tryz.ntmps72
  go_wp2_with fail
  refine (HO.out _).mono ?_
  rintro e w1 ⟨rfl, rfl⟩
  go_wp2_with fail
  refine (HC.out _ (by repeat (first | exact Below.refl _ _ | refine Below.drew ?_ | refine below_drewN ?_ _ | refine Below.alloc ?_ (by simp; try omega) _))).mono ?_
  rintro e w2 ⟨rfl, hb⟩
  go_wp2
  go_ret
  exact ⟨rfl, (show Below w.heap.size w _ from (by repeat (first | exact Below.refl _ _ | refine Below.drew ?_ | refine below_drewN ?_ _ | refine Below.alloc ?_ (by simp; try omega) _))).trans (hb.mono (by simp))⟩
theorem step_begins0 (node : Nat) (A : Option Addr) (C : Nat) (w : World) :
    Calls Tryz.prog 72 #[.int .i64 2, .int .i64 node, .slice A 0 C] w fun e w' => e = .returned (.int .i64 0) ∧ Below w.heap.size w w' := by
  have HO := Lib.hid (fun w => sync_of2 node A 0 C w)
  have HC := Lib.hid (fun w' => chosen_nil (.func (.func 120) #[.agg #[.int .i64 node, .slice A 0 C]] #[]) A C w')
  have e1 := ta24 node A 0 C
  have e2 := ta23 node A 0 C
  have e3 := ta21 node A 0 C
  have e4 := ta22 node A 0 C
  go_enter Tryz.func72, Tryz.ntmps72
  go_wp2_with fail
  refine (HO.out _).mono ?_
  rintro e w1 ⟨rfl, rfl⟩
  go_wp2_with fail
  refine (HC.out _).mono ?_
  rintro e w2 ⟨rfl, hb⟩
  go_wp2
  go_ret
  exact ⟨rfl, (show Below w.heap.size w _ from (by repeat (first | exact Below.refl _ _ | refine Below.drew ?_ | refine below_drewN ?_ _ | refine Below.alloc ?_ (by simp; try omega) _))).trans (hb.mono (by simp))⟩
theorem dataK_none {l : List Hd} (h : ∀ k, k < l.length → (l.getD k Hd.none).kind ≠ 3) : ∀ k, k ≤ l.length → dataK l k = []
  | 0, _ => rfl
  | k + 1, hk => by
    unfold dataK
    rw [if_neg (h k (by omega))]
    exact dataK_none h k (by omega)
theorem step_joins0 (node : Nat) (A : Option Addr) (C : Nat) (w : World) :
    Calls Tryz.prog 72 #[.int .i64 3, .int .i64 node, .slice A 0 C] w fun e w' => e = .returned (.int .i64 0) ∧ Below w.heap.size w w' := by
  have HO := Lib.hid (fun w => sync_of3 node A 0 C w)
  have HD := Lib.hid (fun w => sync_data A [] C w (fun k hk => absurd hk (by simp)) (by simp))
  simp only [List.length_nil, dataK, List.map_nil] at HD
  have HM := Lib.hid (fun A C w => mid_Few A C [] w (by simp))
  simp only [List.length_nil] at HM
  have HC := Lib.hid (fun w' => chosen_nil (.func (.func 117) #[.agg #[.int .i64 node, .slice A 0 C]] #[]) A C w')
  have e1 := ta34 node A 0 C
  have e2 := ta33 node A 0 C
  go_enter Tryz.func72, Tryz.ntmps72
  go_wp2_with fail
  refine (HO.out _).mono ?_
  rintro e w1 ⟨rfl, rfl⟩
  go_wp2_with fail
  refine (HD.out _).mono ?_
  rintro e w2 ⟨v, rfl, hown, hb⟩
  obtain ⟨VA, VC, rfl, _, _⟩ := ints_of_own (l := []) hown
  clear hown
  simp only [List.length_nil]
  go_wp2_with fail
  refine (HM.out _ _ _).mono ?_
  rintro e w3 ⟨rfl, hb2⟩
  have bl : w3.heap[w.heap.size]? = some (.cells #[.int .i64 node, .slice A 0 C] 204 (0, 0)) := (hb2.block _ (by have := hb.size; simp at this; omega)).trans ((hb.block _ (by simp)).trans (heap_alloc_new w _))
  have x0 : w3.cell? ⟨w.heap.size, 0, none⟩ = some (.int .i64 node) := by simp [World.cell?, bl]
  have x1 : w3.cell? ⟨w.heap.size, 1, none⟩ = some (.slice A 0 C) := by simp [World.cell?, bl]
  have HB := Lib.hid ((show Below w.heap.size w _ from (by repeat (first | exact Below.refl _ _ | refine Below.drew ?_ | refine below_drewN ?_ _ | refine Below.alloc ?_ (by simp; try omega) _))).trans ((hb.mono (by simp)).trans (hb2.mono (by have := hb.size; simp at this; omega))))
  clear bl hb hb2
  go_wp2_with fail
  refine (HC.out _).mono ?_
  rintro e w4 ⟨rfl, hb⟩
  go_wp2
  go_ret
  exact ⟨rfl, HB.out.trans (hb.mono HB.out.size)⟩
theorem step_joins (node : Nat) (A : Option Addr) (h : Hd) (r : List Hd) (C : Nat) (w : World) (hl : Hds w A (h :: r)) (hlen : (h :: r).length ≤ 100) (hv : ∀ k, k < (h :: r).length → ((h :: r).getD k Hd.none).kind ≠ 3) :
    Calls Tryz.prog 72 #[.int .i64 3, .int .i64 node, .slice A (r.length + 1) C] w fun e w' => e = .returned (.int .i64 (if decide (node < h.node) then 0 else h.dev)) ∧ Below w.heap.size w w' := by
  have HO := Lib.hid (fun w => sync_of3 node A (r.length + 1) C w)
  have HD := Lib.hid (fun w' (hb : Below w.heap.size w w') => sync_data A (h :: r) C w' (hl.below hb) hlen)
  rw [dataK_none hv _ (Nat.le_refl _)] at HD
  simp only [List.length_cons, List.map_nil] at HD
  have HM := Lib.hid (fun A C w => mid_Few A C [] w (by simp))
  simp only [List.length_nil] at HM
  have HC := Lib.hid (fun w' (hb : Below w.heap.size w w') => chosen_joins node A (r.length + 1) C A h r C w' (hl.below hb) hlen hv)
  have e1 := ta34 node A (r.length + 1) C
  have e2 := ta33 node A (r.length + 1) C
  clear hl hlen hv
  generalize (if decide (node < h.node) = true then (0 : Int) else h.dev) = v at *
  go_enter Tryz.func72, Tryz.ntmps72
  go_wp2_with fail
  refine (HO.out _).mono ?_
  rintro e w1 ⟨rfl, rfl⟩
  go_wp2_with fail
  refine (HD.out _ (by repeat (first | exact Below.refl _ _ | refine Below.drew ?_ | refine below_drewN ?_ _ | refine Below.alloc ?_ (by simp; try omega) _))).mono ?_
  rintro e w2 ⟨v, rfl, hown, hb⟩
  obtain ⟨VA, VC, rfl, _, _⟩ := ints_of_own (l := []) hown
  clear hown
  simp only [List.length_nil]
  go_wp2_with fail
  refine (HM.out _ _ _).mono ?_
  rintro e w3 ⟨rfl, hb2⟩
  have bl : w3.heap[w.heap.size]? = some (.cells #[.int .i64 node, .slice A (r.length + 1) C] 204 (0, 0)) := (hb2.block _ (by have := hb.size; simp at this; omega)).trans ((hb.block _ (by simp)).trans (heap_alloc_new w _))
  have x0 : w3.cell? ⟨w.heap.size, 0, none⟩ = some (.int .i64 node) := by simp [World.cell?, bl]
  have x1 : w3.cell? ⟨w.heap.size, 1, none⟩ = some (.slice A (r.length + 1) C) := by simp [World.cell?, bl]
  have HB := Lib.hid ((show Below w.heap.size w _ from (by repeat (first | exact Below.refl _ _ | refine Below.drew ?_ | refine below_drewN ?_ _ | refine Below.alloc ?_ (by simp; try omega) _))).trans ((hb.mono (by simp)).trans (hb2.mono (by have := hb.size; simp at this; omega))))
  clear bl hb hb2
  go_wp2_with fail
  refine (HC.out _ HB.out).mono ?_
  rintro e w4 ⟨rfl, hb⟩
  go_wp2
  go_ret
  exact ⟨rfl, HB.out.trans (hb.mono HB.out.size)⟩
set_option maxRecDepth 100000 in
set_option maxHeartbeats 1000000 in
theorem step_active (node : Nat) (A : Option Addr) (l : List Hd) (C : Nat) (w : World) (hl : Hds w A l) (hlen : l.length ≤ 100) (h3 : 3 ≤ (dataK l l.length).length) (hd : ∀ z ∈ dataK l l.length, -1000000 ≤ z ∧ z ≤ 1000000) :
    Calls Tryz.prog 72 #[.int .i64 4, .int .i64 node, .slice A l.length C] w fun e w' => e = .returned (.int .i64 (midF (dataK l l.length ++ [0]))) ∧ Below w.heap.size w w' := by
  have HO := Lib.hid (fun w => sync_of4 node A l.length C w)
  have HD := Lib.hid (fun w' (hb : Below w.heap.size w w') => sync_data A l C w' (hl.below hb) hlen)
  have hdl := dataK_le l l.length
  have e1 := ta4 A l.length C
  obtain ⟨i0, hi, hz0, hz1, hz2⟩ := info_parts info3
  have HI := Lib.hid hi
  have HZ0 := Lib.hid hz0
  have HZ1 := Lib.hid hz1
  have HZ2 := Lib.hid hz2
  clear hi hz0 hz1 hz2
  generalize dataK l l.length = D at *
  have HM := Lib.hid (fun A C w (hI : Ints w A (D ++ [0])) => mid_Mid A C (D ++ [0]) w hI (by simp; omega) (by simp; omega) (fun z hz => by
    rw [List.mem_append] at hz
    rcases hz with hz | hz
    · exact hd z hz
    · simp at hz; omega))
  generalize midF (D ++ [0]) = mv at *
  clear hl hd
  go_enter Tryz.func72, Tryz.ntmps72
  go_wp2_with fail
  refine (HO.out _).mono ?_
  rintro e w1 ⟨rfl, rfl⟩
  go_wp2_with fail
  refine (HD.out _ (by repeat (first | exact Below.refl _ _ | refine Below.drew ?_ | refine below_drewN ?_ _ | refine Below.alloc ?_ (by simp; try omega) _))).mono ?_
  rintro e w2 ⟨v, rfl, hown, hb⟩
  have hi := HI.out
  have HB := Lib.hid hb
  have hzb := hb.size
  simp at hzb
  have hown1 : w2.ownsRow (w.heap.size + 1) 3 1 v D.length (D.map (Value.int .i64)) := by simpa using hown
  clear hb hown
  go_wp2_with (at_builtin; refine wpList_append_own _ rfl _ _ 22 rfl (w.heap.size + 1) 3 i0 (.int .i64 0) 1 8 Tryz.underlying22 hi HZ0.out HZ1.out HZ2.out rfl (by decide) _ _ _ rfl (hown1.alloc _) ⟨w2.heap.size, 0, none⟩ 1 1 [.int .i64 0] rfl rfl ?c1 ?c2 ?c3 ?c4 ?c5 ?_)
  case c1 =>
    intro j u hj
    match j, hj with
    | 0, hj => simp at hj; subst hj; simp [Addr.add]
  case c2 => intro u hu; simp at hu; subst hu; rfl
  case c3 => unfold maxLen; omega
  case c4 => omega
  case c5 => simp; omega
  intro v' w3 hown' hgrow _
  have hb2 : Below w.heap.size w w3 := (((show Below w.heap.size w _ from (by repeat (first | exact Below.refl _ _ | refine Below.drew ?_ | refine below_drewN ?_ _ | refine Below.alloc ?_ (by simp; try omega) _))).trans (HB.out.mono (by simp))).alloc (by omega) _).grown hgrow (by simp; omega) (fun q hq => by have := ownsRow_block hown1 hq; omega)
  have HB2 := Lib.hid hb2
  have hown2 : w3.ownsRow (w.heap.size + 1) 3 1 v' (D ++ [0]).length ((D ++ [0]).map (Value.int .i64)) := by simpa using hown'
  obtain ⟨VA, VC, rfl, hIv, _⟩ := ints_of_own hown2
  have HIv := Lib.hid hIv
  clear hgrow hown1 hb2 hown' hown2 hIv
  simp only [List.length_append, List.length_singleton]
  simp only [List.length_append, List.length_singleton] at HM
  go_wp2_with fail
  refine (HM.out _ _ _ HIv.out).mono ?_
  rintro e w4 ⟨rfl, hb4⟩
  go_wp2
  go_ret
  exact ⟨rfl, HB2.out.trans (hb4.mono HB2.out.size)⟩
end Go.Proofs.YtdbempiompiioaaGreat.A40
namespace Go.Proofs.YtdbempiompiioaaGreat.A41
open Go.RowKit A1 A2 A3 A4 A5 A6 A7 A8 A9 A10 A11 A12 A13 A14 A15 A16 A17 A18 A19 A20 A21 A22 A23 A24 A25 A26 A27 A28 A29 A30 A31 A32 A33 A34 A38 A39 A40

structure Cl where
  round : Nat
  node : Nat
  pair : Nat
  v : Nat
structure NC where
  N : Nat
  Pi : Int
  Er : Int
  G : Int
  Fi : Int
  ps : List Int
  PA : Option Addr
  PC : Nat
  on : List Int
  OA : Option Addr
  OC : Nat
  dr : List Int
  DA : Option Addr
  DC : Nat
  er : List Int
  EA : Option Addr
  EC : Nat
  cl : List Cl
  LA : Option Addr
  LC : Nat
  kind : Int
  fat : Int
  frm : Int
  till : Int
  CA : Option Addr
  CL : Nat
  CC : Nat
  VA : Option Addr
  VL : Nat
  VC : Nat
  rounds : Int
def Cls (w : World) (A : Option Addr) (l : List Cl) : Prop := ∀ k, k < l.length → ∃ b off, A = some ⟨b, off, none⟩ ∧ b < w.heap.size ∧ w.cell? ⟨b, off + k * 4, none⟩ = some (.int .i64 (l.getD k ⟨0, 0, 0, 0⟩).round) ∧ w.cell? ⟨b, off + k * 4 + 1, none⟩ = some (.int .i64 (l.getD k ⟨0, 0, 0, 0⟩).node) ∧ w.cell? ⟨b, off + k * 4 + 2, none⟩ = some (.int .i64 (l.getD k ⟨0, 0, 0, 0⟩).pair) ∧ w.cell? ⟨b, off + k * 4 + 3, none⟩ = some (.int .i64 (l.getD k ⟨0, 0, 0, 0⟩).v)
theorem Cls.below {w w1 : World} {A : Option Addr} {l : List Cl} (h : Cls w A l) (hb : Below w.heap.size w w1) : Cls w1 A l := fun k hk => by
  obtain ⟨b, off, e, h1, h2, h3, h4, h5⟩ := h k hk
  exact ⟨b, off, e, Nat.lt_of_lt_of_le h1 hb.size, (hb.cell (p := ⟨b, _, none⟩) h1).trans h2, (hb.cell (p := ⟨b, _, none⟩) h1).trans h3, (hb.cell (p := ⟨b, _, none⟩) h1).trans h4, (hb.cell (p := ⟨b, _, none⟩) h1).trans h5⟩
structure NOk (c : NC) : Prop where
  cf : CfOk c.N c.Pi c.Er c.G c.Fi c.ps
  on : c.on.length = c.N
  dr : c.dr.length ≤ 60
  er : c.er.length ≤ 60
  cl : c.cl.length ≤ 100
  kind : (c.kind = 0 ∧ c.fat = 0 ∧ c.frm = 0 ∧ c.till = 0) ∨ (c.kind = 2 ∧ c.frm = 1000 ∧ c.till = 1000 ∧ 0 ≤ c.fat ∧ c.fat < 2 * c.N)
  rounds0 : 0 ≤ c.rounds
  rounds1 : c.rounds ≤ 200
structure NbK (w : World) (NB : Nat) (c : NC) : Prop where
  c0 : w.cell? ⟨NB, 0, none⟩ = some (.int .i64 c.N)
  c1 : w.cell? ⟨NB, 1, none⟩ = some (.int .i64 c.Pi)
  c2 : w.cell? ⟨NB, 2, none⟩ = some (.int .i64 c.Er)
  c3 : w.cell? ⟨NB, 3, none⟩ = some (.int .i64 c.G)
  c4 : w.cell? ⟨NB, 4, none⟩ = some (.int .i64 c.Fi)
  c5 : w.cell? ⟨NB, 5, none⟩ = some (.slice c.PA c.ps.length c.PC)
  c6 : w.cell? ⟨NB, 6, none⟩ = some (.slice c.OA c.on.length c.OC)
  c7 : w.cell? ⟨NB, 7, none⟩ = some (.slice c.DA c.dr.length c.DC)
  c8 : w.cell? ⟨NB, 8, none⟩ = some (.slice c.EA c.er.length c.EC)
  c9 : w.cell? ⟨NB, 9, none⟩ = some (.slice c.LA c.cl.length c.LC)
  c10 : w.cell? ⟨NB, 10, none⟩ = some (.int .i64 c.kind)
  c11 : w.cell? ⟨NB, 11, none⟩ = some (.int .i64 c.fat)
  c12 : w.cell? ⟨NB, 12, none⟩ = some (.int .i64 c.frm)
  c13 : w.cell? ⟨NB, 13, none⟩ = some (.int .i64 c.till)
  c14 : w.cell? ⟨NB, 14, none⟩ = some (.slice c.CA c.CL c.CC)
  c15 : w.cell? ⟨NB, 15, none⟩ = some (.slice c.VA c.VL c.VC)
  c16 : w.cell? ⟨NB, 16, none⟩ = some (.int .i64 c.rounds)
structure LowK (w : World) (LO : Nat) (c : NC) : Prop where
  le : LO ≤ w.heap.size
  ps : Ints w c.PA c.ps
  on : Ints w c.OA c.on
  dr : Ints w c.DA c.dr
  er : Ints w c.EA c.er
  cl : Cls w c.LA c.cl
  psl : ∀ b off, c.PA = some ⟨b, off, none⟩ → 0 < c.ps.length → b < LO
  onl : ∀ b off, c.OA = some ⟨b, off, none⟩ → 0 < c.on.length → b < LO
  drl : ∀ b off, c.DA = some ⟨b, off, none⟩ → 0 < c.dr.length → b < LO
  erl : ∀ b off, c.EA = some ⟨b, off, none⟩ → 0 < c.er.length → b < LO
  cll : ∀ b off, c.LA = some ⟨b, off, none⟩ → 0 < c.cl.length → b < LO
theorem ints_low {w w1 : World} {A : Option Addr} {l : List Int} {LO : Nat} (h : Ints w A l) (hb : Below LO w w1) (hl : ∀ b off, A = some ⟨b, off, none⟩ → 0 < l.length → b < LO) (hs : LO ≤ w.heap.size) : Ints w1 A l := fun k hk => by
  obtain ⟨b, off, e, h1, h2⟩ := h k hk
  have := hl b off e (by omega)
  have := hb.size
  exact ⟨b, off, e, by omega, (hb.cell (p := ⟨b, off + k, none⟩) (hl b off e (by omega))).trans h2⟩
theorem LowK.below {w w1 : World} {LO : Nat} {c : NC} (h : LowK w LO c) (hb : Below LO w w1) : LowK w1 LO c := by
  have hz := hb.size
  have hle := h.le
  refine ⟨by omega, ints_low h.ps hb h.psl hle, ints_low h.on hb h.onl hle, ints_low h.dr hb h.drl hle, ints_low h.er hb h.erl hle, fun k hk => ?_, h.psl, h.onl, h.drl, h.erl, h.cll⟩
  obtain ⟨b, off, e, h1, h2, h3, h4, h5⟩ := h.cl k hk
  have hbl := h.cll b off e (by omega)
  exact ⟨b, off, e, by omega, (hb.cell (p := ⟨b, _, none⟩) hbl).trans h2, (hb.cell (p := ⟨b, _, none⟩) hbl).trans h3, (hb.cell (p := ⟨b, _, none⟩) hbl).trans h4, (hb.cell (p := ⟨b, _, none⟩) hbl).trans h5⟩
theorem NbK.keep {w w1 : World} {NB : Nat} {c : NC} (h : NbK w NB c) (k : w1.heap[NB]? = w.heap[NB]?) : NbK w1 NB c := by
  have f : ∀ o, w1.cell? ⟨NB, o, none⟩ = w.cell? ⟨NB, o, none⟩ := fun o => World.cell?_of_block (a := ⟨NB, o, none⟩) k
  exact ⟨(f 0).trans h.c0, (f 1).trans h.c1, (f 2).trans h.c2, (f 3).trans h.c3, (f 4).trans h.c4, (f 5).trans h.c5, (f 6).trans h.c6, (f 7).trans h.c7, (f 8).trans h.c8, (f 9).trans h.c9, (f 10).trans h.c10, (f 11).trans h.c11, (f 12).trans h.c12, (f 13).trans h.c13, (f 14).trans h.c14, (f 15).trans h.c15, (f 16).trans h.c16⟩
theorem NbK.set {w : World} {NB : Nat} {c : NC} (h : NbK w NB c) (o : Nat) (ho : 17 ≤ o) (v : Value) : NbK (w.setCell ⟨NB, o, none⟩ v) NB c := by
  have f : ∀ j, j < 17 → (w.setCell ⟨NB, o, none⟩ v).cell? ⟨NB, j, none⟩ = w.cell? ⟨NB, j, none⟩ := fun j hj => World.cell?_setCell_other _ _ _ _ (fun e => by injection e with _ e; omega)
  exact ⟨(f 0 (by omega)).trans h.c0, (f 1 (by omega)).trans h.c1, (f 2 (by omega)).trans h.c2, (f 3 (by omega)).trans h.c3, (f 4 (by omega)).trans h.c4, (f 5 (by omega)).trans h.c5, (f 6 (by omega)).trans h.c6, (f 7 (by omega)).trans h.c7, (f 8 (by omega)).trans h.c8, (f 9 (by omega)).trans h.c9, (f 10 (by omega)).trans h.c10, (f 11 (by omega)).trans h.c11, (f 12 (by omega)).trans h.c12, (f 13 (by omega)).trans h.c13, (f 14 (by omega)).trans h.c14, (f 15 (by omega)).trans h.c15, (f 16 (by omega)).trans h.c16⟩
theorem NbK.keep2 {w w1 : World} {NB : Nat} {c : NC} (h : NbK w NB c) (hb : Below w.heap.size w w1) : NbK w1 NB c := h.keep (hb.block NB (World.block_lt_of_cell? w _ h.c0))
theorem NOk.dev {c : NC} (h : NOk c) (round owner i dev : Int) (w : World) :
    Calls Tryz.prog 104 #[.agg #[.int .i64 c.N, .int .i64 c.Pi, .int .i64 c.Er, .int .i64 c.G, .int .i64 c.Fi, .slice c.PA c.ps.length c.PC], .agg #[.int .i64 c.kind, .int .i64 c.fat, .int .i64 c.frm, .int .i64 c.till, .slice c.CA c.CL c.CC, .slice c.VA c.VL c.VC], .int .i64 round, .int .i64 owner, .int .i64 i, .int .i64 dev] w fun e w' => e = .returned (.int .i64 dev) ∧ Below w.heap.size w w' := by
  rcases h.kind with ⟨e, _⟩ | ⟨e, _⟩
  · rw [e]; exact Dev_none c.N c.Pi c.Er c.G c.Fi c.PA c.ps.length c.PC c.fat c.frm c.till c.CA c.CL c.CC c.VA c.VL c.VC round owner i dev w
  · rw [e]; exact Dev_link c.N c.Pi c.Er c.G c.Fi c.PA c.ps.length c.PC c.fat c.frm c.till c.CA c.CL c.CC c.VA c.VL c.VC round owner i dev w
def devF (c : NC) (round : Nat) (ck : Nat → Int) (o i : Nat) : Int := ck o - ck i + pickN c.er (7 * round + 3 * o + i) c.Er
set_option maxRecDepth 100000 in
set_option maxHeartbeats 2000000 in
theorem net_dev (c : NC) (NB LO ND : Nat) (round o i : Nat) (ck : Nat → Int) (w : World) (hc : NOk c) (hN : NbK w NB c) (hL : LowK w LO c)
    (hr : w.cell? ⟨NB, 17, none⟩ = some (.int .i64 round)) (hn : w.cell? ⟨NB, 18, none⟩ = some (.slice (some ⟨ND, 0, none⟩) c.N c.N)) (hck : ∀ i, i < c.N → w.cell? ⟨ND, i * 7 + 3, none⟩ = some (.int .i64 (ck i)))
    (hrb : round ≤ 1000) (ho : o < c.N) (hi : i < c.N) (hb : ∀ i, i < c.N → -1000000 ≤ ck i ∧ ck i ≤ 1000000) :
    Calls Tryz.prog 65 #[.pointer (some ⟨NB, 0, none⟩), .int .i64 o, .int .i64 i] w fun e w' => e = .returned (.int .i64 (devF c round ck o i)) ∧ Below w.heap.size w w' := by
  have n1 := hc.cf.n1
  have HP := Lib.hid (fun w' (hI : Ints w' c.EA c.er) => net_pick c.EA c.er c.EC (7 * round + 3 * o + i) c.Er w' hI (by have := hc.er; omega) (by omega) hc.cf.e0 (by have := hc.cf.e1; omega))
  have HI := Lib.hid hL.er
  have HD := Lib.hid (fun a w => hc.dev round o i a w)
  have c0 := hck o ho
  have c1 := hck i hi
  have b0 := hb o ho
  have b1 := hb i hi
  have pl := pickN_le c.er (7 * round + 3 * o + i) c.Er hc.cf.e0
  have pe := hc.cf.e1
  unfold devF
  generalize pickN c.er (7 * round + 3 * o + i) c.Er = pv at *
  generalize ck o = a at *
  generalize ck i = b at *
  obtain ⟨k0, k1, k2, k3, k4, k5, k6, k7, k8, k9, k10, k11, k12, k13, k14, k15, k16⟩ := hN
  have i0 : (o : Int) < (c.N : Int) := by omega
  have i1 : (i : Int) < (c.N : Int) := by omega
  have e1 : ((7 * round + 3 * o + i : Nat) : Int) = 7 * (round : Int) + 3 * (o : Int) + (i : Int) := by omega
  rw [e1] at HP
  have wr : ∀ x : Int, -4000000 ≤ x → x ≤ 4000000 → IntKind.i64.wrap x = x := fun x h1 h2 => by rw [IntKind.wrap_i64]; omega
  have q1 := wr (7 * (round : Int)) (by omega) (by omega)
  have q2 := wr (3 * (o : Int)) (by omega) (by omega)
  have q3 := wr (7 * (round : Int) + 3 * (o : Int)) (by omega) (by omega)
  have q4 := wr (7 * (round : Int) + 3 * (o : Int) + (i : Int)) (by omega) (by omega)
  have q5 := wr (a - b) (by omega) (by omega)
  have q6 := wr (a - b + pv) (by omega) (by omega)
  clear hc hL hck hb e1 n1 wr
  go_enter Tryz.func65, Tryz.ntmps65
  go_wp2
  refine wp_region_held_drew (S := fun w' => w'.cell? ⟨NB, 2, none⟩ = some (.int .i64 c.Er) ∧ w'.cell? ⟨NB, 8, none⟩ = some (.slice c.EA c.er.length c.EC) ∧ w'.cell? ⟨NB, 17, none⟩ = some (.int .i64 round) ∧ w'.cell? ⟨NB, 18, none⟩ = some (.slice (some ⟨ND, 0, none⟩) c.N c.N) ∧ w'.cell? ⟨ND, o * 7 + 3, none⟩ = some (.int .i64 a) ∧ w'.cell? ⟨ND, i * 7 + 3, none⟩ = some (.int .i64 b)) (by kernel_rfl) ⟨k2, k8, hr, hn, c0, c1⟩ (fun hHeld => ?_)
  refine rgT 0 ?_
  refine rgT 1 ?_
  refine rgT 2 ?_
  refine rgT 3 ?_
  refine rgT 4 ?_
  refine rgT 5 ?_
  refine rgT 6 ?_
  refine rgT 7 ?_
  refine rgT 8 ?_
  refine rgT 9 ?_
  refine rgT 10 ?_
  refine rgT 11 ?_
  refine rgT 12 ?_
  refine rgT 13 ?_
  refine rgT 14 ?_
  refine rgT 15 ?_
  refine rgT 16 ?_
  refine rgT 17 ?_
  refine rgT 18 ?_
  refine rgT 19 ?_
  refine rgT 20 ?_
  refine rgT 21 ?_
  refine rgT 22 ?_
  refine rgT 23 ?_
  refine rgT 24 ?_
  refine rgT 25 ?_
  refine rgT 26 ?_
  refine rgT 27 ?_
  refine rgT 28 ?_
  refine rgT 29 ?_
  refine rgT 30 ?_
  refine rgT 31 ?_
  refine rgT 32 ?_
  refine rgT 33 ?_
  refine rgT 34 ?_
  refine rgT 35 ?_
  refine rgT 36 ?_
  refine wpAnyH_ready (rs := [37]) (by kernel_rfl) (by simp) (AllReadyH.cons rfl (fun K hK => ?_) AllReadyH.nil)
  go_simp
  refine (HP.out _ HI.out.drew).mono ?_
  rintro e w1 ⟨rfl, rfl⟩
  go_simp
  refine hK.out _ _ ⟨k2, k8, hr, hn, c0, c1⟩ (fun hHeld => ?_)
  clear hK K
  refine rgT 38 ?_
  refine rgT 39 ?_
  refine wpAnyH_done (by kernel_rfl) ?_ _
  go_wp2
  refine wp_region_held_drew (S := fun w' => w'.cell? ⟨NB, 0, none⟩ = some (.int .i64 c.N) ∧ w'.cell? ⟨NB, 1, none⟩ = some (.int .i64 c.Pi) ∧ w'.cell? ⟨NB, 2, none⟩ = some (.int .i64 c.Er) ∧ w'.cell? ⟨NB, 3, none⟩ = some (.int .i64 c.G) ∧ w'.cell? ⟨NB, 4, none⟩ = some (.int .i64 c.Fi) ∧ w'.cell? ⟨NB, 5, none⟩ = some (.slice c.PA c.ps.length c.PC) ∧ w'.cell? ⟨NB, 10, none⟩ = some (.int .i64 c.kind) ∧ w'.cell? ⟨NB, 11, none⟩ = some (.int .i64 c.fat) ∧ w'.cell? ⟨NB, 12, none⟩ = some (.int .i64 c.frm) ∧ w'.cell? ⟨NB, 13, none⟩ = some (.int .i64 c.till) ∧ w'.cell? ⟨NB, 14, none⟩ = some (.slice c.CA c.CL c.CC) ∧ w'.cell? ⟨NB, 15, none⟩ = some (.slice c.VA c.VL c.VC) ∧ w'.cell? ⟨NB, 17, none⟩ = some (.int .i64 round)) (by kernel_rfl) ⟨k0, k1, k2, k3, k4, k5, k10, k11, k12, k13, k14, k15, hr⟩ (fun hHeld => ?_)
  refine rgT 0 ?_
  refine rgT 1 ?_
  refine rgT 2 ?_
  refine rgT 3 ?_
  refine rgT 4 ?_
  refine rgT 5 ?_
  refine rgT 6 ?_
  refine rgT 7 ?_
  refine rgT 8 ?_
  refine rgT 9 ?_
  refine rgT 10 ?_
  refine rgT 11 ?_
  refine rgT 12 ?_
  refine rgT 13 ?_
  refine rgT 14 ?_
  refine rgT 15 ?_
  refine wpAnyH_ready (rs := [16]) (by kernel_rfl) (by simp) (AllReadyH.cons rfl (fun K hK => ?_) AllReadyH.nil)
  go_simp
  refine (HD.out _ _).mono ?_
  rintro e w1 ⟨rfl, hb1⟩
  go_simp
  have hs : ∀ j v, w.cell? ⟨NB, j, none⟩ = some v → w1.cell? ⟨NB, j, none⟩ = some v := fun j v h => keep_of (w := w.drew.drew) h (World.block_lt_of_cell? w _ h) hb1
  refine hK.out _ _ ⟨hs _ _ k0, hs _ _ k1, hs _ _ k2, hs _ _ k3, hs _ _ k4, hs _ _ k5, hs _ _ k10, hs _ _ k11, hs _ _ k12, hs _ _ k13, hs _ _ k14, hs _ _ k15, hs _ _ hr⟩ (fun hHeld => ?_)
  clear hK K
  refine rgT 17 ?_
  refine wpAnyH_done (by kernel_rfl) ?_ _
  have HB := Lib.hid hb1
  clear hb1 hs
  go_wp2
  go_ret
  exact ⟨rfl, ⟨HB.out.os, HB.out.tape, HB.out.output, HB.out.size, HB.out.block⟩⟩
end Go.Proofs.YtdbempiompiioaaGreat.A41
namespace Go.Proofs.YtdbempiompiioaaGreat.A42
open Go.RowKit A1 A2 A3 A4 A5 A6 A7 A8 A9 A10 A11 A12 A13 A14 A15 A16 A17 A18 A19 A20 A21 A22 A23 A24 A25 A26 A27 A28 A29 A30 A31 A32 A33 A34 A38 A39 A40 A41

theorem mk22 (n : Nat) (hn : n ≤ 100) (w : World) : (Instr.makeSlice 22 (.int .i64 (n : Int)) (.int .i64 (n : Int))).run Tryz.prog w = .ok (.slice (some ⟨w.heap.size, 0, none⟩) n n) (w.alloc (.cells (madeCells #[.int .i64 0] (n * 1)) 3)) := by
  obtain ⟨i, hi, hz, hs, hb⟩ := info_parts info3
  have := run_make_n (P := Tryz.prog) 22 3 i _ Tryz.underlying22 hi hz n hn (by omega) w
  rw [hs] at this
  exact this
def RetRow (n : Nat) (f : Nat → Int) (w : World) (e : Ending) (w' : World) : Prop := ∃ g, e = .returned (.slice (some ⟨g, 0, none⟩) n n) ∧ w.heap.size ≤ g ∧ g < w'.heap.size ∧ (∀ i, i < n → w'.cell? ⟨g, i, none⟩ = some (.int .i64 (f i))) ∧ Below w.heap.size w w'
set_option maxRecDepth 100000 in
theorem run_state (BX NB ND n i : Nat) (st : Nat → Nat) (w : World) (hb : w.cell? ⟨BX, 0, none⟩ = some (.pointer (some ⟨NB, 0, none⟩))) (hn : w.cell? ⟨NB, 18, none⟩ = some (.slice (some ⟨ND, 0, none⟩) n n)) (hi : i < n) (hs : ∀ i, i < n → w.cell? ⟨ND, i * 7, none⟩ = some (.int .i64 (st i))) :
    Calls Tryz.prog 62 #[.int .i64 i, .pointer (some ⟨BX, 0, none⟩)] w fun e w' => e = .returned (.int .i64 (st i)) ∧ w = w' := by
  have h := hs i hi
  have i0 : (i : Int) < (n : Int) := by omega
  generalize st i = s at *
  clear hs
  go_enter Tryz.func62, Tryz.ntmps62
  go_wp2
  go_ret
  exact ⟨rfl, rfl⟩
set_option maxRecDepth 100000 in
theorem run_dev (c : NC) (BX B2 NB LO ND : Nat) (round o i : Nat) (ck : Nat → Int) (w : World) (hc : NOk c) (hN : NbK w NB c) (hL : LowK w LO c)
    (hb : w.cell? ⟨BX, 0, none⟩ = some (.pointer (some ⟨NB, 0, none⟩))) (hb2 : w.cell? ⟨B2, 0, none⟩ = some (.int .i64 o))
    (hr : w.cell? ⟨NB, 17, none⟩ = some (.int .i64 round)) (hn : w.cell? ⟨NB, 18, none⟩ = some (.slice (some ⟨ND, 0, none⟩) c.N c.N)) (hck : ∀ i, i < c.N → w.cell? ⟨ND, i * 7 + 3, none⟩ = some (.int .i64 (ck i)))
    (hrb : round ≤ 1000) (ho : o < c.N) (hi : i < c.N) (hbd : ∀ i, i < c.N → -1000000 ≤ ck i ∧ ck i ≤ 1000000) :
    Calls Tryz.prog 64 #[.int .i64 i, .pointer (some ⟨BX, 0, none⟩), .pointer (some ⟨B2, 0, none⟩)] w fun e w' => e = .returned (.int .i64 (devF c round ck o i)) ∧ Below w.heap.size w w' := by
  have HD := Lib.hid (net_dev c NB LO ND round o i ck w hc hN hL hr hn hck hrb ho hi hbd)
  clear hc hN hL hck hbd
  generalize devF c round ck o i = d at *
  go_enter Tryz.func64, Tryz.ntmps64
  go_wp2_with fail
  refine HD.out.mono ?_
  rintro e w1 ⟨rfl, hb1⟩
  go_wp2
  go_ret
  exact ⟨rfl, hb1⟩
set_option maxRecDepth 100000 in
set_option maxHeartbeats 1000000 in
theorem each_state (NB ND n : Nat) (BX : Nat) (f : Nat → Int) (w : World) (hn7 : n ≤ 100) (hn : w.cell? ⟨NB, 18, none⟩ = some (.slice (some ⟨ND, 0, none⟩) n n))
    (hf : ∀ i w', i < n → Below w.heap.size w w' → Calls Tryz.prog 62 #[.int .i64 (i : Nat), .pointer (some ⟨BX, 0, none⟩)] w' fun e w'' => e = .returned (.int .i64 (f i)) ∧ Below w'.heap.size w' w'') :
    Calls Tryz.prog 61 #[.pointer (some ⟨NB, 0, none⟩), .func (.func 62) #[] #[.pointer (some ⟨BX, 0, none⟩)]] w (RetRow n f w) := by
  have HF := Lib.hid hf
  have hmk := fun w => mk22 n hn7 w
  have lNB := World.block_lt_of_cell? w _ hn
  clear hf
  unfold RetRow
  go_enter Tryz.func61, Tryz.ntmps61
  go_wp2
  have hb0 : (w.alloc (.cells (madeCells #[.int .i64 0] n) 3)).heap[w.heap.size]? = some (.cells (madeCells #[.int .i64 0] n) 3 (0, 0)) := heap_alloc_new w _
  have HZ := Lib.hid hb0
  clear hb0
  go_loopw [15] (fun t wr => ∃ k : Nat, k ≤ n ∧ t = .int .i64 k ∧ Below w.heap.size w wr ∧ w.heap.size < wr.heap.size ∧ (∀ j, wr.frozen? ⟨w.heap.size, j, none⟩ = false) ∧ (∀ j, j < k → wr.cell? ⟨w.heap.size, j, none⟩ = some (.int .i64 (f j))) ∧ ∀ j, j < n → ∃ u, wr.cell? ⟨w.heap.size, j, none⟩ = some u) (fun t _ => n - (intOf t).toNat)
  case atStart =>
    refine ⟨0, by omega, rfl, by first | exact (by repeat (first | exact Below.refl _ _ | refine Below.drew ?_ | refine below_drewN ?_ _ | refine Below.alloc ?_ (by simp; try omega) _)) | (simp; exact (by repeat (first | exact Below.refl _ _ | refine Below.drew ?_ | refine below_drewN ?_ _ | refine Below.alloc ?_ (by simp; try omega) _))), by simp, fun j => Lib.frozen_of_heap HZ.out j, fun j hj => absurd hj (by omega), fun j hj => ⟨.int .i64 0, ?_⟩⟩
    rw [Lib.cell_of_heap HZ.out j, made_at _ _ _ (by omega)]
    simp [Nat.mod_one]
  case round =>
    obtain ⟨k, hk, rfl, hbr, hlt0, hfr, hcs, hall⟩ := hrel
    by_cases hlt : k < n
    · have lk : (k : Int) < (n : Int) := by omega
      obtain ⟨u0, hu0⟩ := hall k hlt
      have HB := Lib.hid hbr
      have HFR := Lib.hid hfr
      have HCS := Lib.hid hcs
      have HALL := Lib.hid hall
      have HC := Lib.hid (HF.out k wr hlt hbr)
      have nv := keep_of hn lNB hbr
      clear hbr hfr hcs hall
      go_wp2_with fail
      refine HC.out.mono ?_
      rintro e w1 ⟨rfl, hb1⟩
      have HB1 := Lib.hid hb1
      have cu : w1.cell? ⟨w.heap.size, k, none⟩ = some u0 := keep_of hu0 hlt0 hb1
      have cf : w1.frozen? ⟨w.heap.size, k, none⟩ = false := (hb1.frozen (p := ⟨w.heap.size, k, none⟩) hlt0).trans (HFR.out k)
      have hz1 := hb1.size
      clear hb1 hu0 nv
      go_wp2
      go_roundw
      case rel =>
        refine ⟨k + 1, by omega, by go_num, (HB.out.trans (HB1.out.mono HB.out.size)).setCell (Nat.le_refl _) _, by simp [World.setCell]; omega, fun j => ?_, fun j hj => ?_, fun j hj => ?_⟩
        · rw [World.frozen?_setCell]; exact (HB1.out.frozen (p := ⟨w.heap.size, j, none⟩) hlt0).trans (HFR.out j)
        · by_cases e : j = k
          · subst e; exact World.cell?_setCell_same _ _ _ cu
          · rw [World.cell?_setCell_other _ _ _ _ (fun h => by injection h with _ h; omega)]
            exact keep_of (HCS.out j (by omega)) hlt0 HB1.out
        · by_cases e : j = k
          · subst e; exact ⟨_, World.cell?_setCell_same _ _ _ cu⟩
          · obtain ⟨u, hu⟩ := HALL.out j hj
            exact ⟨u, by rw [World.cell?_setCell_other _ _ _ _ (fun h => by injection h with _ h; omega)]; exact keep_of hu hlt0 HB1.out⟩
      case measure => simp [intOf]; omega
    · obtain rfl : k = n := by omega
      have HCS := Lib.hid hcs
      have HB := Lib.hid hbr
      clear hcs hfr hall hbr
      go_wp2
      go_ret
      exact ⟨_, rfl, Nat.le_refl _, hlt0, HCS.out, HB.out⟩
set_option maxRecDepth 100000 in
set_option maxHeartbeats 1000000 in
theorem each_dev (NB ND n : Nat) (BX B2 : Nat) (f : Nat → Int) (w : World) (hn7 : n ≤ 100) (hn : w.cell? ⟨NB, 18, none⟩ = some (.slice (some ⟨ND, 0, none⟩) n n))
    (hf : ∀ i w', i < n → Below w.heap.size w w' → Calls Tryz.prog 64 #[.int .i64 (i : Nat), .pointer (some ⟨BX, 0, none⟩), .pointer (some ⟨B2, 0, none⟩)] w' fun e w'' => e = .returned (.int .i64 (f i)) ∧ Below w'.heap.size w' w'') :
    Calls Tryz.prog 61 #[.pointer (some ⟨NB, 0, none⟩), .func (.func 64) #[] #[.pointer (some ⟨BX, 0, none⟩), .pointer (some ⟨B2, 0, none⟩)]] w (RetRow n f w) := by
  have HF := Lib.hid hf
  have hmk := fun w => mk22 n hn7 w
  have lNB := World.block_lt_of_cell? w _ hn
  clear hf
  unfold RetRow
  go_enter Tryz.func61, Tryz.ntmps61
  go_wp2
  have hb0 : (w.alloc (.cells (madeCells #[.int .i64 0] n) 3)).heap[w.heap.size]? = some (.cells (madeCells #[.int .i64 0] n) 3 (0, 0)) := heap_alloc_new w _
  have HZ := Lib.hid hb0
  clear hb0
  go_loopw [15] (fun t wr => ∃ k : Nat, k ≤ n ∧ t = .int .i64 k ∧ Below w.heap.size w wr ∧ w.heap.size < wr.heap.size ∧ (∀ j, wr.frozen? ⟨w.heap.size, j, none⟩ = false) ∧ (∀ j, j < k → wr.cell? ⟨w.heap.size, j, none⟩ = some (.int .i64 (f j))) ∧ ∀ j, j < n → ∃ u, wr.cell? ⟨w.heap.size, j, none⟩ = some u) (fun t _ => n - (intOf t).toNat)
  case atStart =>
    refine ⟨0, by omega, rfl, by first | exact (by repeat (first | exact Below.refl _ _ | refine Below.drew ?_ | refine below_drewN ?_ _ | refine Below.alloc ?_ (by simp; try omega) _)) | (simp; exact (by repeat (first | exact Below.refl _ _ | refine Below.drew ?_ | refine below_drewN ?_ _ | refine Below.alloc ?_ (by simp; try omega) _))), by simp, fun j => Lib.frozen_of_heap HZ.out j, fun j hj => absurd hj (by omega), fun j hj => ⟨.int .i64 0, ?_⟩⟩
    rw [Lib.cell_of_heap HZ.out j, made_at _ _ _ (by omega)]
    simp [Nat.mod_one]
  case round =>
    obtain ⟨k, hk, rfl, hbr, hlt0, hfr, hcs, hall⟩ := hrel
    by_cases hlt : k < n
    · have lk : (k : Int) < (n : Int) := by omega
      obtain ⟨u0, hu0⟩ := hall k hlt
      have HB := Lib.hid hbr
      have HFR := Lib.hid hfr
      have HCS := Lib.hid hcs
      have HALL := Lib.hid hall
      have HC := Lib.hid (HF.out k wr hlt hbr)
      have nv := keep_of hn lNB hbr
      clear hbr hfr hcs hall
      go_wp2_with fail
      refine HC.out.mono ?_
      rintro e w1 ⟨rfl, hb1⟩
      have HB1 := Lib.hid hb1
      have cu : w1.cell? ⟨w.heap.size, k, none⟩ = some u0 := keep_of hu0 hlt0 hb1
      have cf : w1.frozen? ⟨w.heap.size, k, none⟩ = false := (hb1.frozen (p := ⟨w.heap.size, k, none⟩) hlt0).trans (HFR.out k)
      have hz1 := hb1.size
      clear hb1 hu0 nv
      go_wp2
      go_roundw
      case rel =>
        refine ⟨k + 1, by omega, by go_num, (HB.out.trans (HB1.out.mono HB.out.size)).setCell (Nat.le_refl _) _, by simp [World.setCell]; omega, fun j => ?_, fun j hj => ?_, fun j hj => ?_⟩
        · rw [World.frozen?_setCell]; exact (HB1.out.frozen (p := ⟨w.heap.size, j, none⟩) hlt0).trans (HFR.out j)
        · by_cases e : j = k
          · subst e; exact World.cell?_setCell_same _ _ _ cu
          · rw [World.cell?_setCell_other _ _ _ _ (fun h => by injection h with _ h; omega)]
            exact keep_of (HCS.out j (by omega)) hlt0 HB1.out
        · by_cases e : j = k
          · subst e; exact ⟨_, World.cell?_setCell_same _ _ _ cu⟩
          · obtain ⟨u, hu⟩ := HALL.out j hj
            exact ⟨u, by rw [World.cell?_setCell_other _ _ _ _ (fun h => by injection h with _ h; omega)]; exact keep_of hu hlt0 HB1.out⟩
      case measure => simp [intOf]; omega
    · obtain rfl : k = n := by omega
      have HCS := Lib.hid hcs
      have HB := Lib.hid hbr
      clear hcs hfr hall hbr
      go_wp2
      go_ret
      exact ⟨_, rfl, Nat.le_refl _, hlt0, HCS.out, HB.out⟩
end Go.Proofs.YtdbempiompiioaaGreat.A42
