/- Leaf functions of the network, more: clocks as they seem, states, queues, rows of numbers. A queue: a value put in, taken out. Votes: a map from items to counts, as vote.counts makes it. Condition: none but that the block is such a map. Conditions: the bounds stated in each theorem. -/
import Derived.Test.YtdbempiompiioaaGreatT04
import Derived.Test.YtdbempiompiioaaGreatT13
import Derived.WalkLawsBesides
import Derived.Maps.Own
import Derived.WideKeyEntry
import Derived.Deep.LoopGhost
import Derived.Deep.Draws
set_option linter.unusedVariables false
set_option linter.unusedSimpArgs false
namespace Go.Proofs.YtdbempiompiioaaGreat.A33
open Go.RowKit A1 A2 A3 A4 A5 A6 A7 A8 A9 A10 A11 A12 A13 A14 A15 A16 A17 A18 A19 A20 A21 A22 A23 A24 A25 A26 A27 A28 A29 A30 A31 A32

theorem ta_link (a b : Int) (w : World) : (Instr.typeAssert (.iface 265 (.agg #[.int .i64 a, .int .i64 b])) 230 227 true).run Tryz.prog w = .ok (.tuple #[.agg #[.int .i64 0], .bool false]) w := by kernel_rfl
theorem ta_none (w : World) : (Instr.typeAssert (.iface 267 (.agg #[])) 230 227 true).run Tryz.prog w = .ok (.tuple #[.agg #[.int .i64 0], .bool false]) w := by kernel_rfl
set_option maxRecDepth 100000 in
theorem Dev_link (N Pi Er G Fi : Int) (PA : Option Addr) (PL PC : Nat) (At From To : Int) (CA : Option Addr) (CL CC : Nat) (VA : Option Addr) (VL VC : Nat) (round owner i dev : Int) (w : World) :
    Calls Tryz.prog 104 #[.agg #[.int .i64 N, .int .i64 Pi, .int .i64 Er, .int .i64 G, .int .i64 Fi, .slice PA PL PC], .agg #[.int .i64 2, .int .i64 At, .int .i64 From, .int .i64 To, .slice CA CL CC, .slice VA VL VC], .int .i64 round, .int .i64 owner, .int .i64 i, .int .i64 dev] w fun e w' => e = .returned (.int .i64 dev) ∧ Below w.heap.size w w' := by
  have t1 := ta_link N At
  go_enter Tryz.func104, Tryz.ntmps104
  go_wp2_with (go_at_call 144; refine (of_link _ _ _ _ _ _ _ _ _ _ _ _ _ _ _ _ _ _).mono ?_; rintro e w' ⟨rfl, hb'⟩)
  go_ret
  exact ⟨rfl, Below.alloc ((((Below.refl _ _).alloc (Nat.le_refl _) _).alloc (by simp) _).trans (hb'.mono (by simp; omega))) (by have := hb'.size; simp at this; omega) _⟩
set_option maxRecDepth 100000 in
theorem Dev_none (N Pi Er G Fi : Int) (PA : Option Addr) (PL PC : Nat) (At From To : Int) (CA : Option Addr) (CL CC : Nat) (VA : Option Addr) (VL VC : Nat) (round owner i dev : Int) (w : World) :
    Calls Tryz.prog 104 #[.agg #[.int .i64 N, .int .i64 Pi, .int .i64 Er, .int .i64 G, .int .i64 Fi, .slice PA PL PC], .agg #[.int .i64 0, .int .i64 At, .int .i64 From, .int .i64 To, .slice CA CL CC, .slice VA VL VC], .int .i64 round, .int .i64 owner, .int .i64 i, .int .i64 dev] w fun e w' => e = .returned (.int .i64 dev) ∧ Below w.heap.size w w' := by
  have t1 := ta_none
  go_enter Tryz.func104, Tryz.ntmps104
  go_wp2_with (go_at_call 144; refine (of_none _ _ _ _ _ _ _ _ _ _ _ _ _ _ _ _ _ _).mono ?_; rintro e w' ⟨rfl, hb'⟩)
  go_ret
  exact ⟨rfl, Below.alloc ((((Below.refl _ _).alloc (Nat.le_refl _) _).alloc (by simp) _).trans (hb'.mono (by simp; omega))) (by have := hb'.size; simp at this; omega) _⟩
def sendsF (st : Nat) : Nat := if st = 2 then 1 else if st = 3 then 2 else if st = 4 then 3 else 0
set_option maxRecDepth 100000 in
theorem state_Sends (st : Nat) (w : World) (h : st ≤ 4) :
    Calls Tryz.prog 95 #[.int .i64 st] w fun e w' => e = .returned (.int .i64 (sendsF st)) ∧ Below w.heap.size w w' := by
  have : st = 0 ∨ st = 1 ∨ st = 2 ∨ st = 3 ∨ st = 4 := by omega
  rcases this with rfl | rfl | rfl | rfl | rfl <;>
  · go_enter Tryz.func95, Tryz.ntmps95
    go_wp2
    go_ret
    exact ⟨rfl, (by repeat (first | exact Below.refl _ _ | refine Below.drew ?_ | refine below_drewN ?_ _ | refine Below.alloc ?_ (by simp; try omega) _))⟩
def stNext (N node : Nat) (st tm heard : Nat) : Nat × Nat :=
  if st = 1 then (if 0 < heard then (3, 0) else if N + node ≤ tm + 1 then (2, 0) else (1, tm + 1))
  else if st = 2 then (3, 0)
  else if st = 3 then (if N / 2 + 1 ≤ heard + 1 then (4, 0) else if 3 ≤ tm + 1 then (1, 0) else (3, tm + 1))
  else if st = 4 then (if N / 2 + 1 ≤ heard + 1 then (4, 0) else (1, 0))
  else (0, 0)
set_option maxRecDepth 100000 in
theorem nx1a (N : Nat) (Pi Er G Fi : Int) (PA : Option Addr) (PL PC : Nat) (node tm heard : Nat) (w : World) (hN : N ≤ 12) (hn : node ≤ 12) (ht : tm ≤ 500) (hh : heard ≤ 100) (h : 0 < heard) :
    Calls Tryz.prog 73 #[.agg #[.int .i64 N, .int .i64 Pi, .int .i64 Er, .int .i64 G, .int .i64 Fi, .slice PA PL PC], .int .i64 node, .int .i64 1, .int .i64 tm, .int .i64 heard] w fun e w' => e = .returned (.tuple #[.int .i64 3, .int .i64 0]) ∧ Below w.heap.size w w' := by
  have HM := Lib.hid (fun w => conf_Most N Pi Er G Fi PA PL PC w (by omega) (by omega))
  have d1 : decide ((heard : Int) > 0) = true := by simp; omega
  have d2 : decide (0 < heard) = true := by simp; omega
  go_enter Tryz.func73, Tryz.ntmps73
  go_wp2_with fail
  refine (HM.out _).mono ?_
  rintro e w1 ⟨rfl, hb⟩
  have b0 : w1.heap[w.heap.size]? = some (.cells #[.int .i64 N, .int .i64 Pi, .int .i64 Er, .int .i64 G, .int .i64 Fi, .slice PA PL PC] 24 (0, 0)) := (hb.block _ (by simp)).trans (heap_alloc_new w _)
  have c0 : w1.cell? ⟨w.heap.size, 0, none⟩ = some (.int .i64 N) := by simp [World.cell?, b0]
  have hB : Below w.heap.size w w1 := Below.trans (show Below w.heap.size w _ from (by repeat (first | exact Below.refl _ _ | refine Below.drew ?_ | refine below_drewN ?_ _ | refine Below.alloc ?_ (by simp; try omega) _))) (hb.mono (by simp))
  clear b0
  go_wp2
  go_ret2
  exact ⟨rfl, hB⟩
set_option maxRecDepth 100000 in
theorem nx1b (N : Nat) (Pi Er G Fi : Int) (PA : Option Addr) (PL PC : Nat) (node tm heard : Nat) (w : World) (hN : N ≤ 12) (hn : node ≤ 12) (ht : tm ≤ 500) (hh : heard ≤ 100) (h : heard = 0) (h2 : N + node ≤ tm + 1) :
    Calls Tryz.prog 73 #[.agg #[.int .i64 N, .int .i64 Pi, .int .i64 Er, .int .i64 G, .int .i64 Fi, .slice PA PL PC], .int .i64 node, .int .i64 1, .int .i64 tm, .int .i64 heard] w fun e w' => e = .returned (.tuple #[.int .i64 2, .int .i64 0]) ∧ Below w.heap.size w w' := by
  have HM := Lib.hid (fun w => conf_Most N Pi Er G Fi PA PL PC w (by omega) (by omega))
  subst h
  have HW : Hid (∀ w : World, Calls Tryz.prog 122 #[.agg #[.int .i64 (N + node), .int .i64 2], .int .i64 1, .int .i64 tm] w fun e w' => e = .returned (.tuple #[.int .i64 2, .int .i64 0]) ∧ Below w.heap.size w w') := fun w => (state_wait (N + node) 2 1 tm w (by omega) (by omega)).mono (fun e w' h => ⟨by rw [h.1, if_pos (by omega)], h.2⟩)
  clear h2
  go_enter Tryz.func73, Tryz.ntmps73
  go_wp2_with fail
  refine (HM.out _).mono ?_
  rintro e w1 ⟨rfl, hb⟩
  have b0 : w1.heap[w.heap.size]? = some (.cells #[.int .i64 N, .int .i64 Pi, .int .i64 Er, .int .i64 G, .int .i64 Fi, .slice PA PL PC] 24 (0, 0)) := (hb.block _ (by simp)).trans (heap_alloc_new w _)
  have c0 : w1.cell? ⟨w.heap.size, 0, none⟩ = some (.int .i64 N) := by simp [World.cell?, b0]
  have hB : Below w.heap.size w w1 := Below.trans (show Below w.heap.size w _ from (by repeat (first | exact Below.refl _ _ | refine Below.drew ?_ | refine below_drewN ?_ _ | refine Below.alloc ?_ (by simp; try omega) _))) (hb.mono (by simp))
  clear b0
  go_wp2_with fail
  refine (HW.out _).mono ?_
  rintro e w2 ⟨rfl, hb2⟩
  go_wp2
  go_ret2
  exact ⟨rfl, hB.trans (hb2.mono hB.size)⟩
set_option maxRecDepth 100000 in
theorem nx1c (N : Nat) (Pi Er G Fi : Int) (PA : Option Addr) (PL PC : Nat) (node tm heard : Nat) (w : World) (hN : N ≤ 12) (hn : node ≤ 12) (ht : tm ≤ 500) (hh : heard ≤ 100) (h : heard = 0) (h2 : ¬ N + node ≤ tm + 1) :
    Calls Tryz.prog 73 #[.agg #[.int .i64 N, .int .i64 Pi, .int .i64 Er, .int .i64 G, .int .i64 Fi, .slice PA PL PC], .int .i64 node, .int .i64 1, .int .i64 tm, .int .i64 heard] w fun e w' => e = .returned (.tuple #[.int .i64 1, .int .i64 ((tm : Int) + 1)]) ∧ Below w.heap.size w w' := by
  have HM := Lib.hid (fun w => conf_Most N Pi Er G Fi PA PL PC w (by omega) (by omega))
  subst h
  have HW : Hid (∀ w : World, Calls Tryz.prog 122 #[.agg #[.int .i64 (N + node), .int .i64 2], .int .i64 1, .int .i64 tm] w fun e w' => e = .returned (.tuple #[.int .i64 1, .int .i64 ((tm : Int) + 1)]) ∧ Below w.heap.size w w') := fun w => (state_wait (N + node) 2 1 tm w (by omega) (by omega)).mono (fun e w' h => ⟨by rw [h.1, if_neg (by omega)], h.2⟩)
  clear h2
  go_enter Tryz.func73, Tryz.ntmps73
  go_wp2_with fail
  refine (HM.out _).mono ?_
  rintro e w1 ⟨rfl, hb⟩
  have b0 : w1.heap[w.heap.size]? = some (.cells #[.int .i64 N, .int .i64 Pi, .int .i64 Er, .int .i64 G, .int .i64 Fi, .slice PA PL PC] 24 (0, 0)) := (hb.block _ (by simp)).trans (heap_alloc_new w _)
  have c0 : w1.cell? ⟨w.heap.size, 0, none⟩ = some (.int .i64 N) := by simp [World.cell?, b0]
  have hB : Below w.heap.size w w1 := Below.trans (show Below w.heap.size w _ from (by repeat (first | exact Below.refl _ _ | refine Below.drew ?_ | refine below_drewN ?_ _ | refine Below.alloc ?_ (by simp; try omega) _))) (hb.mono (by simp))
  clear b0
  go_wp2_with fail
  refine (HW.out _).mono ?_
  rintro e w2 ⟨rfl, hb2⟩
  go_wp2
  go_ret2
  exact ⟨rfl, hB.trans (hb2.mono hB.size)⟩
set_option maxRecDepth 100000 in
theorem nx2 (N : Nat) (Pi Er G Fi : Int) (PA : Option Addr) (PL PC : Nat) (node tm heard : Nat) (w : World) (hN : N ≤ 12) (hn : node ≤ 12) (ht : tm ≤ 500) (hh : heard ≤ 100)  :
    Calls Tryz.prog 73 #[.agg #[.int .i64 N, .int .i64 Pi, .int .i64 Er, .int .i64 G, .int .i64 Fi, .slice PA PL PC], .int .i64 node, .int .i64 2, .int .i64 tm, .int .i64 heard] w fun e w' => e = .returned (.tuple #[.int .i64 3, .int .i64 0]) ∧ Below w.heap.size w w' := by
  have HM := Lib.hid (fun w => conf_Most N Pi Er G Fi PA PL PC w (by omega) (by omega))
  go_enter Tryz.func73, Tryz.ntmps73
  go_wp2_with fail
  refine (HM.out _).mono ?_
  rintro e w1 ⟨rfl, hb⟩
  have b0 : w1.heap[w.heap.size]? = some (.cells #[.int .i64 N, .int .i64 Pi, .int .i64 Er, .int .i64 G, .int .i64 Fi, .slice PA PL PC] 24 (0, 0)) := (hb.block _ (by simp)).trans (heap_alloc_new w _)
  have c0 : w1.cell? ⟨w.heap.size, 0, none⟩ = some (.int .i64 N) := by simp [World.cell?, b0]
  have hB : Below w.heap.size w w1 := Below.trans (show Below w.heap.size w _ from (by repeat (first | exact Below.refl _ _ | refine Below.drew ?_ | refine below_drewN ?_ _ | refine Below.alloc ?_ (by simp; try omega) _))) (hb.mono (by simp))
  clear b0
  go_wp2
  go_ret2
  exact ⟨rfl, hB⟩
set_option maxRecDepth 100000 in
theorem nx3a (N : Nat) (Pi Er G Fi : Int) (PA : Option Addr) (PL PC : Nat) (node tm heard : Nat) (w : World) (hN : N ≤ 12) (hn : node ≤ 12) (ht : tm ≤ 500) (hh : heard ≤ 100) (h : N / 2 + 1 ≤ heard + 1) :
    Calls Tryz.prog 73 #[.agg #[.int .i64 N, .int .i64 Pi, .int .i64 Er, .int .i64 G, .int .i64 Fi, .slice PA PL PC], .int .i64 node, .int .i64 3, .int .i64 tm, .int .i64 heard] w fun e w' => e = .returned (.tuple #[.int .i64 4, .int .i64 0]) ∧ Below w.heap.size w w' := by
  have HM := Lib.hid (fun w => conf_Most N Pi Er G Fi PA PL PC w (by omega) (by omega))
  have d1 : decide ((N : Int) / 2 ≤ (heard : Int)) = true := by simp; omega
  have h' : (N : Int) / 2 ≤ (heard : Int) := by omega
  go_enter Tryz.func73, Tryz.ntmps73
  go_wp2_with fail
  refine (HM.out _).mono ?_
  rintro e w1 ⟨rfl, hb⟩
  have b0 : w1.heap[w.heap.size]? = some (.cells #[.int .i64 N, .int .i64 Pi, .int .i64 Er, .int .i64 G, .int .i64 Fi, .slice PA PL PC] 24 (0, 0)) := (hb.block _ (by simp)).trans (heap_alloc_new w _)
  have c0 : w1.cell? ⟨w.heap.size, 0, none⟩ = some (.int .i64 N) := by simp [World.cell?, b0]
  have hB : Below w.heap.size w w1 := Below.trans (show Below w.heap.size w _ from (by repeat (first | exact Below.refl _ _ | refine Below.drew ?_ | refine below_drewN ?_ _ | refine Below.alloc ?_ (by simp; try omega) _))) (hb.mono (by simp))
  clear b0
  go_wp2
  go_ret2
  exact ⟨rfl, hB⟩
set_option maxRecDepth 100000 in
theorem nx3b (N : Nat) (Pi Er G Fi : Int) (PA : Option Addr) (PL PC : Nat) (node tm heard : Nat) (w : World) (hN : N ≤ 12) (hn : node ≤ 12) (ht : tm ≤ 500) (hh : heard ≤ 100) (h : ¬ N / 2 + 1 ≤ heard + 1) (h2 : 3 ≤ tm + 1) :
    Calls Tryz.prog 73 #[.agg #[.int .i64 N, .int .i64 Pi, .int .i64 Er, .int .i64 G, .int .i64 Fi, .slice PA PL PC], .int .i64 node, .int .i64 3, .int .i64 tm, .int .i64 heard] w fun e w' => e = .returned (.tuple #[.int .i64 1, .int .i64 0]) ∧ Below w.heap.size w w' := by
  have HM := Lib.hid (fun w => conf_Most N Pi Er G Fi PA PL PC w (by omega) (by omega))
  have d1 : decide ((N : Int) / 2 ≤ (heard : Int)) = false := by simp; omega
  have h' : ¬ (N : Int) / 2 ≤ (heard : Int) := by omega
  have HW : Hid (∀ w : World, Calls Tryz.prog 122 #[.agg #[.int .i64 3, .int .i64 1], .int .i64 3, .int .i64 tm] w fun e w' => e = .returned (.tuple #[.int .i64 1, .int .i64 0]) ∧ Below w.heap.size w w') := fun w => (state_wait 3 1 3 tm w (by omega) (by omega)).mono (fun e w' h => ⟨by rw [h.1, if_pos (by omega)], h.2⟩)
  clear h2
  go_enter Tryz.func73, Tryz.ntmps73
  go_wp2_with fail
  refine (HM.out _).mono ?_
  rintro e w1 ⟨rfl, hb⟩
  have b0 : w1.heap[w.heap.size]? = some (.cells #[.int .i64 N, .int .i64 Pi, .int .i64 Er, .int .i64 G, .int .i64 Fi, .slice PA PL PC] 24 (0, 0)) := (hb.block _ (by simp)).trans (heap_alloc_new w _)
  have c0 : w1.cell? ⟨w.heap.size, 0, none⟩ = some (.int .i64 N) := by simp [World.cell?, b0]
  have hB : Below w.heap.size w w1 := Below.trans (show Below w.heap.size w _ from (by repeat (first | exact Below.refl _ _ | refine Below.drew ?_ | refine below_drewN ?_ _ | refine Below.alloc ?_ (by simp; try omega) _))) (hb.mono (by simp))
  clear b0
  go_wp2_with fail
  refine (HW.out _).mono ?_
  rintro e w2 ⟨rfl, hb2⟩
  go_wp2
  go_ret2
  exact ⟨rfl, hB.trans (hb2.mono hB.size)⟩
set_option maxRecDepth 100000 in
theorem nx3c (N : Nat) (Pi Er G Fi : Int) (PA : Option Addr) (PL PC : Nat) (node tm heard : Nat) (w : World) (hN : N ≤ 12) (hn : node ≤ 12) (ht : tm ≤ 500) (hh : heard ≤ 100) (h : ¬ N / 2 + 1 ≤ heard + 1) (h2 : ¬ 3 ≤ tm + 1) :
    Calls Tryz.prog 73 #[.agg #[.int .i64 N, .int .i64 Pi, .int .i64 Er, .int .i64 G, .int .i64 Fi, .slice PA PL PC], .int .i64 node, .int .i64 3, .int .i64 tm, .int .i64 heard] w fun e w' => e = .returned (.tuple #[.int .i64 3, .int .i64 ((tm : Int) + 1)]) ∧ Below w.heap.size w w' := by
  have HM := Lib.hid (fun w => conf_Most N Pi Er G Fi PA PL PC w (by omega) (by omega))
  have d1 : decide ((N : Int) / 2 ≤ (heard : Int)) = false := by simp; omega
  have h' : ¬ (N : Int) / 2 ≤ (heard : Int) := by omega
  have HW : Hid (∀ w : World, Calls Tryz.prog 122 #[.agg #[.int .i64 3, .int .i64 1], .int .i64 3, .int .i64 tm] w fun e w' => e = .returned (.tuple #[.int .i64 3, .int .i64 ((tm : Int) + 1)]) ∧ Below w.heap.size w w') := fun w => (state_wait 3 1 3 tm w (by omega) (by omega)).mono (fun e w' h => ⟨by rw [h.1, if_neg (by omega)], h.2⟩)
  clear h2
  go_enter Tryz.func73, Tryz.ntmps73
  go_wp2_with fail
  refine (HM.out _).mono ?_
  rintro e w1 ⟨rfl, hb⟩
  have b0 : w1.heap[w.heap.size]? = some (.cells #[.int .i64 N, .int .i64 Pi, .int .i64 Er, .int .i64 G, .int .i64 Fi, .slice PA PL PC] 24 (0, 0)) := (hb.block _ (by simp)).trans (heap_alloc_new w _)
  have c0 : w1.cell? ⟨w.heap.size, 0, none⟩ = some (.int .i64 N) := by simp [World.cell?, b0]
  have hB : Below w.heap.size w w1 := Below.trans (show Below w.heap.size w _ from (by repeat (first | exact Below.refl _ _ | refine Below.drew ?_ | refine below_drewN ?_ _ | refine Below.alloc ?_ (by simp; try omega) _))) (hb.mono (by simp))
  clear b0
  go_wp2_with fail
  refine (HW.out _).mono ?_
  rintro e w2 ⟨rfl, hb2⟩
  go_wp2
  go_ret2
  exact ⟨rfl, hB.trans (hb2.mono hB.size)⟩
set_option maxRecDepth 100000 in
theorem nx4a (N : Nat) (Pi Er G Fi : Int) (PA : Option Addr) (PL PC : Nat) (node tm heard : Nat) (w : World) (hN : N ≤ 12) (hn : node ≤ 12) (ht : tm ≤ 500) (hh : heard ≤ 100) (h : N / 2 + 1 ≤ heard + 1) :
    Calls Tryz.prog 73 #[.agg #[.int .i64 N, .int .i64 Pi, .int .i64 Er, .int .i64 G, .int .i64 Fi, .slice PA PL PC], .int .i64 node, .int .i64 4, .int .i64 tm, .int .i64 heard] w fun e w' => e = .returned (.tuple #[.int .i64 4, .int .i64 0]) ∧ Below w.heap.size w w' := by
  have HM := Lib.hid (fun w => conf_Most N Pi Er G Fi PA PL PC w (by omega) (by omega))
  have d1 : decide ((N : Int) / 2 ≤ (heard : Int)) = true := by simp; omega
  have h' : (N : Int) / 2 ≤ (heard : Int) := by omega
  go_enter Tryz.func73, Tryz.ntmps73
  go_wp2_with fail
  refine (HM.out _).mono ?_
  rintro e w1 ⟨rfl, hb⟩
  have b0 : w1.heap[w.heap.size]? = some (.cells #[.int .i64 N, .int .i64 Pi, .int .i64 Er, .int .i64 G, .int .i64 Fi, .slice PA PL PC] 24 (0, 0)) := (hb.block _ (by simp)).trans (heap_alloc_new w _)
  have c0 : w1.cell? ⟨w.heap.size, 0, none⟩ = some (.int .i64 N) := by simp [World.cell?, b0]
  have hB : Below w.heap.size w w1 := Below.trans (show Below w.heap.size w _ from (by repeat (first | exact Below.refl _ _ | refine Below.drew ?_ | refine below_drewN ?_ _ | refine Below.alloc ?_ (by simp; try omega) _))) (hb.mono (by simp))
  clear b0
  go_wp2
  go_ret2
  exact ⟨rfl, hB⟩
set_option maxRecDepth 100000 in
theorem nx4b (N : Nat) (Pi Er G Fi : Int) (PA : Option Addr) (PL PC : Nat) (node tm heard : Nat) (w : World) (hN : N ≤ 12) (hn : node ≤ 12) (ht : tm ≤ 500) (hh : heard ≤ 100) (h : ¬ N / 2 + 1 ≤ heard + 1) :
    Calls Tryz.prog 73 #[.agg #[.int .i64 N, .int .i64 Pi, .int .i64 Er, .int .i64 G, .int .i64 Fi, .slice PA PL PC], .int .i64 node, .int .i64 4, .int .i64 tm, .int .i64 heard] w fun e w' => e = .returned (.tuple #[.int .i64 1, .int .i64 0]) ∧ Below w.heap.size w w' := by
  have HM := Lib.hid (fun w => conf_Most N Pi Er G Fi PA PL PC w (by omega) (by omega))
  have d1 : decide ((N : Int) / 2 ≤ (heard : Int)) = false := by simp; omega
  have h' : ¬ (N : Int) / 2 ≤ (heard : Int) := by omega
  go_enter Tryz.func73, Tryz.ntmps73
  go_wp2_with fail
  refine (HM.out _).mono ?_
  rintro e w1 ⟨rfl, hb⟩
  have b0 : w1.heap[w.heap.size]? = some (.cells #[.int .i64 N, .int .i64 Pi, .int .i64 Er, .int .i64 G, .int .i64 Fi, .slice PA PL PC] 24 (0, 0)) := (hb.block _ (by simp)).trans (heap_alloc_new w _)
  have c0 : w1.cell? ⟨w.heap.size, 0, none⟩ = some (.int .i64 N) := by simp [World.cell?, b0]
  have hB : Below w.heap.size w w1 := Below.trans (show Below w.heap.size w _ from (by repeat (first | exact Below.refl _ _ | refine Below.drew ?_ | refine below_drewN ?_ _ | refine Below.alloc ?_ (by simp; try omega) _))) (hb.mono (by simp))
  clear b0
  go_wp2
  go_ret2
  exact ⟨rfl, hB⟩
theorem state_Next (N : Nat) (Pi Er G Fi : Int) (PA : Option Addr) (PL PC : Nat) (node st tm heard : Nat) (w : World) (hN : N ≤ 12) (hn : node ≤ 12) (h1 : 1 ≤ st) (h4 : st ≤ 4) (ht : tm ≤ 500) (hh : heard ≤ 100) :
    Calls Tryz.prog 73 #[.agg #[.int .i64 N, .int .i64 Pi, .int .i64 Er, .int .i64 G, .int .i64 Fi, .slice PA PL PC], .int .i64 node, .int .i64 st, .int .i64 tm, .int .i64 heard] w fun e w' => e = .returned (.tuple #[.int .i64 (stNext N node st tm heard).1, .int .i64 (stNext N node st tm heard).2]) ∧ Below w.heap.size w w' := by
  have : st = 1 ∨ st = 2 ∨ st = 3 ∨ st = 4 := by omega
  unfold stNext
  rcases this with rfl | rfl | rfl | rfl
  · rw [if_pos rfl]
    by_cases h : 0 < heard
    · rw [if_pos h]; exact nx1a N Pi Er G Fi PA PL PC node tm heard w hN hn ht hh h
    · rw [if_neg h]
      by_cases h2 : N + node ≤ tm + 1
      · rw [if_pos h2]; exact nx1b N Pi Er G Fi PA PL PC node tm heard w hN hn ht hh (by omega) h2
      · rw [if_neg h2]; exact nx1c N Pi Er G Fi PA PL PC node tm heard w hN hn ht hh (by omega) h2
  · rw [if_neg (by decide), if_pos rfl]; exact nx2 N Pi Er G Fi PA PL PC node tm heard w hN hn ht hh
  · rw [if_neg (by decide), if_neg (by decide), if_pos rfl]
    by_cases h : N / 2 + 1 ≤ heard + 1
    · rw [if_pos h]; exact nx3a N Pi Er G Fi PA PL PC node tm heard w hN hn ht hh h
    · rw [if_neg h]
      by_cases h2 : 3 ≤ tm + 1
      · rw [if_pos h2]; exact nx3b N Pi Er G Fi PA PL PC node tm heard w hN hn ht hh h h2
      · rw [if_neg h2]; exact nx3c N Pi Er G Fi PA PL PC node tm heard w hN hn ht hh h h2
  · rw [if_neg (by decide), if_neg (by decide), if_neg (by decide), if_pos rfl]
    by_cases h : N / 2 + 1 ≤ heard + 1
    · rw [if_pos h]; exact nx4a N Pi Er G Fi PA PL PC node tm heard w hN hn ht hh h
    · rw [if_neg h]; exact nx4b N Pi Er G Fi PA PL PC node tm heard w hN hn ht hh h
def pickN (l : List Int) (k : Nat) (most : Int) : Int := if l.length = 0 then 0 else min (max (l.getD (k % l.length) 0) (-most)) most
theorem pickN_le (l : List Int) (k : Nat) (most : Int) (h : 0 ≤ most) : -most ≤ pickN l k most ∧ pickN l k most ≤ most := by
  unfold pickN
  split <;> omega
set_option maxRecDepth 100000 in
set_option maxHeartbeats 1000000 in
theorem net_pick (A : Option Addr) (l : List Int) (C k : Nat) (most : Int) (w : World) (hI : Ints w A l) (hl : l.length ≤ 1000) (hk : k ≤ 100000) (h0 : 0 ≤ most) (h1 : most ≤ 1000) :
    Calls Tryz.prog 56 #[.slice A l.length C, .int .i64 k, .int .i64 most] w fun e w' => e = .returned (.int .i64 (pickN l k most)) ∧ w = w' := by
  unfold pickN
  by_cases hz : l.length = 0
  · rw [if_pos hz]
    have b1 : ((l.length : Int) == 0) = true := by simp [hz]
    have b2 : (l.length == 0) = true := by simp [hz]
    clear hz
    go_enter Tryz.func56, Tryz.ntmps56
    go_wp2
    go_ret
    exact ⟨rfl, rfl⟩
  · rw [if_neg hz]
    have b1 : ((l.length : Int) == 0) = false := beq_eq_false_iff_ne.mpr (by omega)
    have b2 : (l.length == 0) = false := beq_eq_false_iff_ne.mpr hz
    have hm : k % l.length < l.length := Nat.mod_lt _ (by omega)
    obtain ⟨b, off, rfl, hb, hc⟩ := hI (k % l.length) hm
    generalize l.getD (k % l.length) 0 = v at *
    have hl0 : (0 : Int) < (l.length : Int) := by omega
    have q0 : (0 : Int) ≤ (k : Int) % (l.length : Int) := Int.emod_nonneg _ (by omega)
    have q1 : (k : Int) % (l.length : Int) < (l.length : Int) := Int.emod_lt_of_pos _ (by omega)
    have q2 : (k : Int) % (l.length : Int) + (l.length : Int) ≤ 2000 := by omega
    have q3 : (0 : Int) ≤ ((k : Int) % (l.length : Int) + (l.length : Int)) % (l.length : Int) := Int.emod_nonneg _ (by omega)
    have q4 : ((k : Int) % (l.length : Int) + (l.length : Int)) % (l.length : Int) < (l.length : Int) := Int.emod_lt_of_pos _ (by omega)
    have hl1 : (l.length : Int) ≤ 1000 := by omega
    clear hI hm hz
    go_enter Tryz.func56, Tryz.ntmps56
    go_wp2
    go_ret
    exact ⟨rfl, rfl⟩
end Go.Proofs.YtdbempiompiioaaGreat.A33
namespace Go.Proofs.YtdbempiompiioaaGreat.A34
open Go.RowKit A1 A2 A3 A4 A5 A6 A7 A8 A9 A10 A11 A12 A13 A14 A15 A16 A17 A18 A19 A20 A21 A22 A23 A24 A25 A26 A27 A28 A29 A30 A31 A32 A33

set_option maxRecDepth 100000 in
theorem queue_Send (Q o : Nat) (v : Nat) (u : Value) (w : World) (hv : v ≤ 255) (c0 : w.cell? ⟨Q, o, none⟩ = some u) (c4 : w.cell? ⟨Q, o + 4, none⟩ = some (.int .i64 0)) (f0 : w.frozen? ⟨Q, o, none⟩ = false) (f4 : w.frozen? ⟨Q, o + 4, none⟩ = false) :
    Calls Tryz.prog 94 #[.pointer (some ⟨Q, o, none⟩), .int .i64 v] w fun e w' => e = .returned (.int .i64 0) ∧ w' = ((w.drew.setCell ⟨Q, o, none⟩ (.int .i64 v)).setCell ⟨Q, o + 4, none⟩ (.int .i64 1)) := by
  have d1 : decide ((v : Int) < 0) = false := by simp
  have d2 : decide ((v : Int) > 255) = false := by simp; omega
  have lt := World.block_lt_of_cell? w _ c0
  have e4 : ({ block := Q, off := o } : Addr) ≠ ⟨Q, o + 4, none⟩ := fun e => by injection e with _ e; omega
  go_enter Tryz.func94, Tryz.ntmps94
  go_wp2
  refine wp_region_held_drew (S := fun w' => w'.cell? ⟨Q, o + 4, none⟩ = some (.int .i64 0)) (by kernel_rfl) c4 (fun hHeld => ?_)
  refine rgT 0 ?_
  refine rgT 1 ?_
  refine rgT 2 ?_
  refine rgT 3 ?_
  refine rgT 4 ?_
  refine rgT 5 ?_
  refine rgT 6 ?_
  refine rgT 7 ?_
  refine rgT 8 ?_
  refine wpAnyH_ready (rs := [9]) (by kernel_rfl) (by simp) (AllReadyH.cons rfl (fun K hK => ?_) AllReadyH.nil)
  go_simp
  refine hK.out _ _ (by go_simp) (fun hHeld => ?_)
  clear hK K
  refine wpAnyH_done (by kernel_rfl) ?_ _
  go_wp2
  go_ret
  exact ⟨rfl, rfl⟩
set_option maxRecDepth 100000 in
theorem queue_Next0 (Q o : Nat) (w : World) (c4 : w.cell? ⟨Q, o + 4, none⟩ = some (.int .i64 0)) :
    Calls Tryz.prog 97 #[.pointer (some ⟨Q, o, none⟩)] w fun e w' => e = .returned (.agg #[.int .i64 1, .int .i64 0]) ∧ Below w.heap.size w w' := by
  have n4 := World.new_ne w _ c4
  have c4' : (w.alloc (.cells #[.int .i64 0, .int .i64 0] 44)).cell? ⟨Q, o + 4, none⟩ = some (.int .i64 0) := (World.cell?_alloc_some _ _ _ (by rw [c4]; rfl)).trans c4
  go_enter Tryz.func97, Tryz.ntmps97
  go_wp2
  refine bodyPost_ret (v := .agg #[.int .i64 1, .int .i64 0]) (by simp [results, Tryz.results97, go_sem]) rfl ⟨rfl, ?_⟩
  exact (by repeat (first | exact Below.refl _ _ | refine Below.drew ?_ | refine below_drewN ?_ _ | refine Below.alloc ?_ (by simp; try omega) _))
set_option maxRecDepth 100000 in
theorem queue_Next1 (Q o : Nat) (v : Nat) (w : World) (c0 : w.cell? ⟨Q, o, none⟩ = some (.int .i64 v)) (c4 : w.cell? ⟨Q, o + 4, none⟩ = some (.int .i64 1)) (f4 : w.frozen? ⟨Q, o + 4, none⟩ = false) :
    Calls Tryz.prog 97 #[.pointer (some ⟨Q, o, none⟩)] w fun e w' => e = .returned (.agg #[.int .i64 2, .int .i64 v]) ∧ But (fun q => q = Q) w w' ∧ w'.cell? ⟨Q, o + 4, none⟩ = some (.int .i64 0) ∧ (∀ j, j ≠ o + 4 → w'.cell? ⟨Q, j, none⟩ = w.cell? ⟨Q, j, none⟩) ∧ ∀ j, w'.frozen? ⟨Q, j, none⟩ = w.frozen? ⟨Q, j, none⟩ := by
  have HCP := fun w => run_copy_none (P := Tryz.prog) w 22 22 3 3 (some ⟨Q, o, none⟩) (some ⟨Q, o + 1, none⟩) 4 4 0 3 Tryz.underlying22 (by kernel_rfl) (by decide)
  have n4 := World.new_ne w _ c4
  have lt := World.block_lt_of_cell? w _ c0
  have c4' : (w.alloc (.cells #[.int .i64 0, .int .i64 0] 44)).cell? ⟨Q, o + 4, none⟩ = some (.int .i64 1) := (World.cell?_alloc_some _ _ _ (by rw [c4]; rfl)).trans c4
  have c0' : (w.alloc (.cells #[.int .i64 0, .int .i64 0] 44)).cell? ⟨Q, o, none⟩ = some (.int .i64 v) := (World.cell?_alloc_some _ _ _ (by rw [c0]; rfl)).trans c0
  have f4' : (w.alloc (.cells #[.int .i64 0, .int .i64 0] 44)).frozen? ⟨Q, o + 4, none⟩ = false := (World.frozen?_of_block (w := w) (a := ⟨Q, o + 4, none⟩) (Below.heap_alloc _ _ _ lt)).trans f4
  go_enter Tryz.func97, Tryz.ntmps97
  go_wp2
  refine wp_region_held_drew (S := fun w' => True) (by kernel_rfl) trivial (fun hHeld => ?_)
  refine rgT 0 ?_
  refine rgT 1 ?_
  refine rgT 2 ?_
  refine rgT 3 ?_
  refine rgT 4 ?_
  refine rgT 5 ?_
  refine rgT 6 ?_
  refine rgT 7 ?_
  refine rgT 8 ?_
  refine rgT 9 ?_
  refine rgT 10 ?_
  refine wpAnyH_ready (rs := [11]) (by kernel_rfl) (by simp) (AllReadyH.cons rfl (fun K hK => ?_) AllReadyH.nil)
  go_simp
  refine hK.out _ _ trivial (fun hHeld => ?_)
  clear hK K
  refine rgT 12 ?_
  refine wpAnyH_ready (rs := [13]) (by kernel_rfl) (by simp) (AllReadyH.cons rfl (fun K hK => ?_) AllReadyH.nil)
  go_simp
  refine hK.out _ _ trivial (fun hHeld => ?_)
  clear hK K
  refine rgT 14 ?_
  refine rgT 15 ?_
  refine wpAnyH_ready (rs := [16]) (by kernel_rfl) (by simp) (AllReadyH.cons rfl (fun K hK => ?_) AllReadyH.nil)
  go_simp
  refine hK.out _ _ trivial (fun hHeld => ?_)
  clear hK K
  refine wpAnyH_done (by kernel_rfl) ?_ _
  go_wp2
  have hz : (w.setCell ⟨Q, o + 4, none⟩ (.int .i64 0)).heap.size = w.heap.size := by simp [World.setCell]
  have x : ∀ j, ((w.setCell ⟨Q, o + 4, none⟩ (.int .i64 0)).alloc (.cells #[.int .i64 2, .int .i64 v] 44)).drew.cell? ⟨w.heap.size, j, none⟩ = #[Value.int .i64 2, .int .i64 v][j]? := fun j => by rw [← hz]; exact World.cell?_alloc_new _ _ _ j
  have x0 := x 0
  have x1 := x 1
  simp only [List.getElem?_toArray, List.getElem?_cons_zero, List.getElem?_cons_succ] at x0 x1
  have bl : ((w.setCell ⟨Q, o + 4, none⟩ (.int .i64 0)).alloc (.cells #[.int .i64 2, .int .i64 v] 44)).drew.heap[Q]? = (w.setCell ⟨Q, o + 4, none⟩ (.int .i64 0)).heap[Q]? := Below.heap_alloc _ _ _ (by rw [hz]; exact lt)
  clear x HCP c4' c0' f4'
  refine bodyPost_ret (v := .agg #[.int .i64 2, .int .i64 v]) (by simp [results, Tryz.results97, go_sem, x0, x1]) rfl ⟨rfl, ?_, ?_, ?_, ?_⟩
  · exact (((But.refl (fun q => q = Q) w).setCell (p := ⟨Q, o + 4, none⟩) (.inl rfl) _).alloc _).drew
  · exact (World.cell?_of_block (w := w.setCell ⟨Q, o + 4, none⟩ (.int .i64 0)) (a := ⟨Q, o + 4, none⟩) bl).trans (World.cell?_setCell_same _ _ _ c4)
  · exact fun j hj => (World.cell?_of_block (w := w.setCell ⟨Q, o + 4, none⟩ (.int .i64 0)) (a := ⟨Q, j, none⟩) bl).trans (World.cell?_setCell_other _ _ _ _ (fun e => hj (by injection e with _ e; exact e.symm)))
  · exact fun j => (World.frozen?_of_block (w := w.setCell ⟨Q, o + 4, none⟩ (.int .i64 0)) (a := ⟨Q, j, none⟩) bl).trans (by simp only [World.frozen?_setCell])
end Go.Proofs.YtdbempiompiioaaGreat.A34
namespace Go.Proofs.YtdbempiompiioaaGreat.A35
open Go.RowKit Go.MapKept Go.ChangeMaps Go.WideElems A1 A2 A3 A4 A5 A6 A7 A8 A9 A10 A11 A12 A13 A14 A15 A16 A17 A18 A19 A20 A21 A22 A23 A24 A25 A26 A27 A28 A29 A30 A31 A32 A33 A34
structure Aside0 (p : Prop) : Prop where mk :: (out : p)
theorem below_alloc {w W : World} (h : Below w.heap.size w W) (o : Obj) : Below w.heap.size w (W.alloc o) := h.alloc h.size o
theorem below_step {w W w2 : World} (h : Below w.heap.size w W) (k : Below W.heap.size W w2) : Below w.heap.size w w2 := h.trans (k.mono h.size)
theorem below_set {w W : World} {g j : Nat} {v : Value} (h : Below w.heap.size w W) (hg : w.heap.size ≤ g) : Below w.heap.size w (W.setCell ⟨g, j, none⟩ v) := h.setCell hg _
theorem below_drew1 {base : Nat} {w W : World} (h : Below base w W) : Below base w W.drew := h.drew
theorem blk_lt {w : World} {g : Nat} {o : Obj} (h : w.heap[g]? = some o) : g < w.heap.size := (Array.getElem?_eq_some_iff.1 h).1
theorem blk_cell {w : World} {g : Nat} {t : TypeId} {cs : Array Value} (h : w.heap[g]? = some (.cells cs t (0, 0))) (i : Nat) : w.cell? ⟨g, i, none⟩ = cs[i]? := by simp [World.cell?, h]
theorem blk_frozen {w : World} {g : Nat} {t : TypeId} {cs : Array Value} (h : w.heap[g]? = some (.cells cs t (0, 0))) (i : Nat) : w.frozen? ⟨g, i, none⟩ = false := by simp [World.frozen?, h]
theorem blk_alloc {w : World} {g : Nat} {o : Obj} (h : w.heap[g]? = some o) (o' : Obj) : (w.alloc o').heap[g]? = some o := (Below.heap_alloc w o' g (blk_lt h)).trans h
theorem blk_below {w w1 : World} {g : Nat} {o : Obj} (h : w.heap[g]? = some o) (hb : Below w.heap.size w w1) : w1.heap[g]? = some o := (hb.block g (blk_lt h)).trans h
theorem blk_new (w : World) (o : Obj) : (w.alloc o).heap[w.heap.size]? = some o := heap_alloc_new w o
abbrev key (x y : Int) : Value := .agg #[.int .i64 x, .int .i64 y]
set_option maxRecDepth 100000 in
theorem check (em : Bool) (x y : Int) (w : World) : (Instr.checkKey em 10000 250 (key x y)).run Tryz.prog w = .ok () w := by kernel_rfl
theorem part0 (x y : Int) (w : World) : (part 3 #[.int .i64 x, .int .i64 y] 0).run Tryz.prog w = .ok (.int .i64 x) w := by kernel_rfl
theorem part1 (x y : Int) (w : World) : (part 3 #[.int .i64 x, .int .i64 y] 1).run Tryz.prog w = .ok (.int .i64 y) w := by kernel_rfl
theorem size3 (w : World) : (sizeOf 3).run Tryz.prog w = .ok 1 w := by kernel_rfl
theorem zero3 (w : World) : (zeroValue 3).run Tryz.prog w = .ok (.int .i64 0) w := by kernel_rfl
theorem eq3 (n : Nat) (x a : Int) (w : World) : (Op.equalIn (n + 1) 3 (.int .i64 x) (.int .i64 a)).run Tryz.prog w = .ok (x == a) w := by
  unfold Op.equalIn
  simp [run_underlying Tryz.underlying3, Result.andThen]
theorem two : List.range' 0 2 = [0, 1] := rfl
theorem eq250 (x y a b : Int) (w : World) : (Op.equal 250 (key x y) (key a b)).run Tryz.prog w = .ok (x == a && y == b) w := by
  unfold Op.equal
  rw [show Op.maxDepth = (Op.maxDepth - 2) + 1 + 1 from rfl]
  generalize Op.maxDepth - 2 = d
  rw [Op.equalIn]
  by_cases h1 : x = a
  · subst h1
    by_cases h2 : y = b
    · subst h2
      simp [run_underlying Tryz.underlying250, Result.andThen, two, part0, part1, eq3]
    · simp [run_underlying Tryz.underlying250, Result.andThen, two, part0, part1, eq3, h2]
  · simp [run_underlying Tryz.underlying250, Result.andThen, two, part0, eq3, h1]
theorem key_inj {x y a b : Int} (h : key x y = key a b) : x = a ∧ y = b := by
  simpa [key] using h
theorem stays (x y : Int) (w : World) : (Instr.keyThatStays (key x y) (key x y)).run Tryz.prog w = .ok (key x y) w := by
  have h : Instr.sameBits 10000 (key x y) (key x y) = true := by
    rw [show (10000 : Nat) = 9998 + 1 + 1 from rfl]
    simp [Instr.sameBits]
  unfold Instr.keyThatStays
  simp [h]

def Pairs (l : List MapEntry) : Prop := ∀ e ∈ l, ∃ a b, e.key = key a b
theorem asking (x y : Int) (w : World) : ∀ (l : List MapEntry) (i : Nat), Pairs l →
    ((Instr.findAsking 250 (key x y) l i).run Tryz.prog w = .ok none w ∧ ∀ e ∈ l, e.key ≠ key x y) ∨
    ∃ j e, (Instr.findAsking 250 (key x y) l i).run Tryz.prog w = .ok (some (i + j, e.val)) w ∧ l[j]? = some e ∧ e.key = key x y
  | [], i, _ => .inl ⟨by simp [Instr.findAsking], fun e he => absurd he (by simp)⟩
  | e :: r, i, hp => by
    obtain ⟨a, b, hk⟩ := hp e List.mem_cons_self
    by_cases c : x = a ∧ y = b
    · obtain ⟨rfl, rfl⟩ := c
      refine .inr ⟨0, e, ?_, rfl, hk⟩
      simp [Instr.findAsking, hk, eq250, Result.andThen]
    · have hf : (x == a && y == b) = false := by
        by_cases h1 : x = a
        · have h2 : ¬ y = b := fun h => c ⟨h1, h⟩
          simp [h2]
        · simp [h1]
      have hne : e.key ≠ key x y := fun h => by
        rw [hk] at h
        obtain ⟨h1, h2⟩ := key_inj h
        exact c ⟨h1.symm, h2.symm⟩
      rcases asking x y w r (i + 1) (fun e' h => hp e' (List.mem_cons_of_mem _ h)) with ⟨h1, h2⟩ | ⟨j, e', h1, h2, h3⟩
      · refine .inl ⟨?_, fun e' he' => ?_⟩
        · simp [Instr.findAsking, hk, eq250, hf, Result.andThen, h1]
        · rcases List.mem_cons.1 he' with rfl | h
          · exact hne
          · exact h2 e' h
      · refine .inr ⟨j + 1, e', ?_, by simpa using h2, h3⟩
        simp [Instr.findAsking, hk, eq250, hf, Result.andThen, h1]
        omega
theorem find (x y : Int) (w : World) (l : List MapEntry) (hp : Pairs l) :
    ((Instr.findKey 250 (key x y) l).run Tryz.prog w = .ok none w ∧ ∀ e ∈ l, e.key ≠ key x y) ∨
    ∃ j e, (Instr.findKey 250 (key x y) l).run Tryz.prog w = .ok (some (j, e.val)) w ∧ l[j]? = some e ∧ e.key = key x y := by
  cases l with
  | nil =>
    refine .inl ⟨?_, fun e he => absurd he (by simp)⟩
    simp [Instr.findKey, run_underlying Tryz.underlying250, Result.andThen, Instr.findNow]
  | cons e r =>
    have hrun : (Instr.findKey 250 (key x y) (e :: r)).run Tryz.prog w = (Instr.findAsking 250 (key x y) (e :: r)).run Tryz.prog w := by
      simp [Instr.findKey, run_underlying Tryz.underlying250, Result.andThen, Instr.findNow, Instr.sameNow]
    rw [hrun]
    rcases asking x y w (e :: r) 0 hp with h | ⟨j, e', h1, h2⟩
    · exact .inl h
    · exact .inr ⟨j, e', by simpa using h1, h2⟩

def Has (w : World) (b : Nat) (C : Int → Int → Int) : Prop :=
  ∃ es clock, w.heap[b]? = some (.map es clock) ∧ Stamped es clock ∧ Pairs es.toList ∧ (∀ e ∈ es.toList, ∀ x y, e.key = key x y → e.val = .int .i64 (C x y)) ∧ ∀ x y, (∀ e ∈ es.toList, e.key ≠ key x y) → C x y = 0

theorem Has.made (w : World) : Has (w.alloc (.map #[] 0)) w.heap.size (fun _ _ => 0) :=
  ⟨#[], 0, (MapKept.heap_alloc w _).1, stamped_empty 0, fun e he => absurd he (by simp), fun e he => absurd he (by simp), fun _ _ _ => rfl⟩
theorem Has.lt {w : World} {b : Nat} {C : Int → Int → Int} (h : Has w b C) : b < w.heap.size := by
  obtain ⟨es, clock, hb, _⟩ := h
  exact (Array.getElem?_eq_some_iff.1 hb).1
theorem Has.below {w w1 : World} {b : Nat} {C : Int → Int → Int} (h : Has w b C) (hb : Below w.heap.size w w1) : Has w1 b C := by
  have hlt := h.lt
  obtain ⟨es, clock, h0, r⟩ := h
  exact ⟨es, clock, (hb.block b hlt).trans h0, r⟩
theorem Has.look {w : World} {b : Nat} {C : Int → Int → Int} (h : Has w b C) (x y : Int) : (Instr.lookup 247 (.map (some b)) (key x y) false).run Tryz.prog w = .ok (.int .i64 (C x y)) w := by
  obtain ⟨es, clock, hb, _, hp, hv, h0⟩ := h
  rcases find x y w es.toList hp with ⟨h1, h2⟩ | ⟨j, e, h1, h2, h3⟩
  · simp [Instr.lookup, run_underlying Tryz.underlying247, MapKept.run_getObj_map hb, check, h1, Result.andThen, h0 x y h2]
  · simp [Instr.lookup, run_underlying Tryz.underlying247, MapKept.run_getObj_map hb, check, h1, Result.andThen, hv e (List.mem_of_getElem? h2) x y h3]

theorem Has.alloc {w : World} {b : Nat} {C : Int → Int → Int} (h : Has w b C) (o : Obj) : Has (w.alloc o) b C := h.below ((Below.refl _ _).alloc (Nat.le_refl _) _)
theorem Has.drew {w : World} {b : Nat} {C : Int → Int → Int} (h : Has w b C) : Has w.drew b C := h

def upd (C : Int → Int → Int) (x y v : Int) (a b : Int) : Int := if a = x ∧ b = y then v else C a b

theorem Has.entry {w : World} {b : Nat} {C : Int → Int → Int} (h : Has w b C) (x y v : Int) :
    ∃ (v0 : Value) (st : Nat) (wA wB : World), (Instr.mapEntry 247 (.map (some b)) (key x y)).run Tryz.prog w = .ok (.tuple #[v0, .int .i64 (st : Int)]) wA ∧
      (Instr.entryStore 247 (.map (some b)) (.int .i64 (st : Int)) (.int .i64 v)).run Tryz.prog wA = .ok () wB ∧ Has wB b (upd C x y v) ∧ w.grownBy wB (some b) ∧
      (Instr.lookup 247 (.map (some b)) (key x y) false).run Tryz.prog wA = .ok (.int .i64 (C x y)) wA := by
  obtain ⟨es, clock, hb, hS, hp, hv, h0⟩ := h
  have hlt : b < w.heap.size := (Array.getElem?_eq_some_iff.1 hb).1
  obtain ⟨s1, s2, s3⟩ := hS
  rcases find x y w es.toList hp with ⟨h1, h2⟩ | ⟨j, e0, h1, h2, h3⟩
  · have hidx : (es.push ⟨key x y, .int .i64 0, clock⟩).findIdx? (fun e => ((e.born : Nat) : Int) == ((clock : Nat) : Int)) = some es.size := by
      rw [findIdx_arr]
      have := findIdx_born (l := (es.push ⟨key x y, .int .i64 0, clock⟩).toList) (j := es.size) (e0 := ⟨key x y, .int .i64 0, clock⟩) (by
        simp only [Array.toList_push, List.map_append, List.map_cons, List.map_nil]
        refine List.nodup_append.2 ⟨s2, by simp, fun a ha c hc e1 => ?_⟩
        simp only [List.mem_singleton] at hc
        obtain ⟨z, hz, rfl⟩ := List.mem_map.1 ha
        have := s1 z hz
        omega) (by simp)
      exact this
    have hmod : (es.push ⟨key x y, .int .i64 0, clock⟩).modify es.size (fun e => { e with val := .int .i64 v }) = es.push ⟨key x y, .int .i64 v, clock⟩ := by
      apply Array.ext'
      rw [Array.toList_modify, Array.toList_push, Array.toList_push, ← Array.length_toList, modify_last]
    refine ⟨.int .i64 0, clock, setBlock w b (.map (es.push ⟨key x y, .int .i64 0, clock⟩) (clock + 1)), setBlock (setBlock w b (.map (es.push ⟨key x y, .int .i64 0, clock⟩) (clock + 1))) b (.map (es.push ⟨key x y, .int .i64 v, clock⟩) (clock + 1)), ?_, ?_, ?_, ?_, ?_⟩
    · simp [Instr.mapEntry, run_underlying Tryz.underlying247, MapKept.run_getObj_map hb, check, h1, MapKept.run_setObj_map _ hb, Result.andThen, setBlock, goInt]
    · have hw2 : (setBlock w b (.map (es.push ⟨key x y, .int .i64 0, clock⟩) (clock + 1))).heap[b]? = some (.map (es.push ⟨key x y, .int .i64 0, clock⟩) (clock + 1)) := heap_setBlock_same hb _
      simp [Instr.entryStore, MapKept.run_getObj_map hw2, asInt, asIntOf, hidx, hmod, MapKept.run_setObj_map _ hw2, Result.andThen]
      rfl
    · refine ⟨es.push ⟨key x y, .int .i64 v, clock⟩, clock + 1, heap_setBlock_same (heap_setBlock_same hb _) _, stamped_push ⟨s1, s2, s3⟩ h2, ?_, ?_, ?_⟩
      · intro e he
        simp only [Array.toList_push, List.mem_append, List.mem_singleton] at he
        rcases he with he | rfl
        · exact hp e he
        · exact ⟨x, y, rfl⟩
      · intro e he a c hk
        simp only [Array.toList_push, List.mem_append, List.mem_singleton] at he
        rcases he with he | rfl
        · have hne : ¬ (a = x ∧ c = y) := fun g => h2 e he (by rw [hk, g.1, g.2])
          rw [upd, if_neg hne]
          exact hv e he a c hk
        · obtain ⟨g1, g2⟩ := key_inj hk
          rw [upd, if_pos ⟨g1.symm, g2.symm⟩]
      · intro a c hk
        have hne : ¬ (a = x ∧ c = y) := fun g => hk ⟨key x y, .int .i64 v, clock⟩ (by simp) (by show key x y = key a c; rw [g.1, g.2])
        rw [upd, if_neg hne]
        exact h0 a c fun e he => hk e (by simp [he])
    · refine ⟨rfl, rfl, rfl, by simp [setBlock], fun i _ hi => ?_⟩
      have hne : i ≠ b := fun e => hi (by rw [e])
      have hb2 := heap_setBlock_same hb (.map (es.push ⟨key x y, .int .i64 0, clock⟩) (clock + 1))
      rw [heap_setBlock_other hb2 _ hne, heap_setBlock_other hb _ hne]
    · refine Has.look ⟨es.push ⟨key x y, .int .i64 0, clock⟩, clock + 1, heap_setBlock_same hb _, stamped_push ⟨s1, s2, s3⟩ h2, ?_, ?_, ?_⟩ x y
      · intro e he
        simp only [Array.toList_push, List.mem_append, List.mem_singleton] at he
        rcases he with he | rfl
        · exact hp e he
        · exact ⟨x, y, rfl⟩
      · intro e he a c hk
        simp only [Array.toList_push, List.mem_append, List.mem_singleton] at he
        rcases he with he | rfl
        · exact hv e he a c hk
        · obtain ⟨g1, g2⟩ := key_inj hk
          rw [← g1, ← g2, h0 x y h2]
      · intro a c hk
        exact h0 a c fun e he => hk e (by simp [he])
  · have hj : es[j]? = some e0 := by simpa using h2
    have hsame : es.modify j (fun e => { e with key := key x y }) = es := by
      apply Array.ext'
      rw [Array.toList_modify, modify_eq_set _ _ _ _ h2]
      have : ({ e0 with key := key x y } : MapEntry) = e0 := by rw [← h3]
      rw [this]
      exact set_self _ _ _ h2
    have hidx : es.findIdx? (fun e => ((e.born : Nat) : Int) == ((e0.born : Nat) : Int)) = some j := by
      rw [findIdx_arr]
      exact findIdx_born s2 h2
    refine ⟨e0.val, e0.born, setBlock w b (.map es clock), setBlock (setBlock w b (.map es clock)) b (.map (es.modify j fun e => { e with val := .int .i64 v }) clock), ?_, ?_, ?_, ?_, ?_⟩
    · simp [Instr.mapEntry, run_underlying Tryz.underlying247, MapKept.run_getObj_map hb, check, h1, hj, h3, stays, hsame, MapKept.run_setObj_map _ hb, Result.andThen, setBlock, goInt]
    · have hw2 : (setBlock w b (.map es clock)).heap[b]? = some (.map es clock) := heap_setBlock_same hb _
      simp [Instr.entryStore, MapKept.run_getObj_map hw2, asInt, asIntOf, hidx, MapKept.run_setObj_map _ hw2, Result.andThen]
      rfl
    · have hmem : ∀ e ∈ (es.modify j fun e => { e with val := .int .i64 v }).toList, (e.key = key x y ∧ e.val = .int .i64 v) ∨ (e ∈ es.toList ∧ e.key ≠ key x y) := by
        intro e he
        rw [Array.toList_modify, modify_eq_set _ _ _ _ h2] at he
        obtain ⟨i, hi⟩ := List.getElem?_of_mem he
        rw [List.getElem?_set] at hi
        by_cases c : j = i
        · rw [if_pos c] at hi
          split at hi
          · cases hi
            exact .inl ⟨h3, rfl⟩
          · cases hi
        · rw [if_neg c] at hi
          refine .inr ⟨List.mem_of_getElem? hi, fun hk => ?_⟩
          have hi' : (es.toList.map (·.key))[i]? = some (key x y) := by rw [List.getElem?_map, hi]; simp [hk]
          have hj' : (es.toList.map (·.key))[j]? = some (key x y) := by rw [List.getElem?_map, h2]; simp [h3]
          obtain ⟨li, gi⟩ := List.getElem?_eq_some_iff.1 hi'
          obtain ⟨lj, gj⟩ := List.getElem?_eq_some_iff.1 hj'
          have hne := List.pairwise_iff_getElem.1 s3
          rcases Nat.lt_or_gt_of_ne c with q | q
          · exact hne j i lj li q (gj.trans gi.symm)
          · exact hne i j li lj q (gi.trans gj.symm)
      refine ⟨es.modify j fun e => { e with val := .int .i64 v }, clock, heap_setBlock_same (heap_setBlock_same hb _) _, stamped_modify ⟨s1, s2, s3⟩ j _ (fun _ _ => rfl) (fun _ _ _ => rfl), ?_, ?_, ?_⟩
      · intro e he
        rcases hmem e he with ⟨g, _⟩ | ⟨g, _⟩
        · exact ⟨x, y, g⟩
        · exact hp e g
      · intro e he a c hk
        rcases hmem e he with ⟨g, g'⟩ | ⟨g, g'⟩
        · obtain ⟨r1, r2⟩ := key_inj (g.symm.trans hk)
          rw [upd, if_pos ⟨r1.symm, r2.symm⟩]
          exact g'
        · have hne : ¬ (a = x ∧ c = y) := fun q => g' (by rw [hk, q.1, q.2])
          rw [upd, if_neg hne]
          exact hv e g a c hk
      · intro a c hk
        have hin : ({ e0 with val := .int .i64 v } : MapEntry) ∈ (es.modify j fun e => { e with val := .int .i64 v }).toList := by
          rw [Array.toList_modify, modify_eq_set _ _ _ _ h2]
          obtain ⟨lj, _⟩ := List.getElem?_eq_some_iff.1 h2
          exact List.mem_iff_getElem?.2 ⟨j, by rw [List.getElem?_set_self lj]⟩
        have hne : ¬ (a = x ∧ c = y) := fun q => hk _ hin (by show e0.key = _; rw [h3, q.1, q.2])
        rw [upd, if_neg hne]
        refine h0 a c fun e he hke => ?_
        obtain ⟨i, hi⟩ := List.getElem?_of_mem he
        by_cases q : j = i
        · subst q
          rw [h2] at hi
          cases hi
          exact hk _ hin hke
        · exact hk e (by
            rw [Array.toList_modify, modify_eq_set _ _ _ _ h2]
            exact List.mem_iff_getElem?.2 ⟨i, by rw [List.getElem?_set_ne q]; exact hi⟩) hke
    · refine ⟨rfl, rfl, rfl, by simp [setBlock], fun i _ hi => ?_⟩
      have hne : i ≠ b := fun e => hi (by rw [e])
      have hb2 := heap_setBlock_same hb (.map es clock)
      rw [heap_setBlock_other hb2 _ hne, heap_setBlock_other hb _ hne]
    · exact Has.look ⟨es, clock, heap_setBlock_same hb _, ⟨s1, s2, s3⟩, hp, hv, h0⟩ x y
end Go.Proofs.YtdbempiompiioaaGreat.A35
