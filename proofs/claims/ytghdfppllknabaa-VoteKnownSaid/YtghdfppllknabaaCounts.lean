/- A map from pairs of whole numbers to counts, as vote.counts makes it: what a look-up tells, what one more vote does. Condition: none but that the block is such a map. -/
import Derived.Test.YtghdfppllknabaaProg
import Derived.WalkKit
import Derived.KernelRfl
import Derived.Maps.Own
import Derived.WideKeyEntry
namespace Go.Proofs.Ytghdfppllknabaa.Counts
open Go.RowKit Go.MapKept Go.ChangeMaps Go.WideElems

/-- A key: an item's kind and value. -/
abbrev key (x y : Int) : Value := .agg #[.int .i64 x, .int .i64 y]
set_option maxRecDepth 100000 in
theorem check (em : Bool) (x y : Int) (w : World) : (Instr.checkKey em 10000 48 (key x y)).run Try.prog w = .ok () w := by kernel_rfl
theorem part0 (x y : Int) (w : World) : (part 3 #[.int .i64 x, .int .i64 y] 0).run Try.prog w = .ok (.int .i64 x) w := by kernel_rfl
theorem part1 (x y : Int) (w : World) : (part 3 #[.int .i64 x, .int .i64 y] 1).run Try.prog w = .ok (.int .i64 y) w := by kernel_rfl
theorem size3 (w : World) : (sizeOf 3).run Try.prog w = .ok 1 w := by kernel_rfl
theorem zero3 (w : World) : (zeroValue 3).run Try.prog w = .ok (.int .i64 0) w := by kernel_rfl
theorem eq3 (n : Nat) (x a : Int) (w : World) : (Op.equalIn (n + 1) 3 (.int .i64 x) (.int .i64 a)).run Try.prog w = .ok (x == a) w := by
  unfold Op.equalIn
  simp [run_underlying Try.underlying3, Result.andThen]
theorem two : List.range' 0 2 = [0, 1] := rfl
theorem eq48 (x y a b : Int) (w : World) : (Op.equal 48 (key x y) (key a b)).run Try.prog w = .ok (x == a && y == b) w := by
  unfold Op.equal
  rw [show Op.maxDepth = (Op.maxDepth - 2) + 1 + 1 from rfl]
  generalize Op.maxDepth - 2 = d
  rw [Op.equalIn]
  by_cases h1 : x = a
  · subst h1
    by_cases h2 : y = b
    · subst h2
      simp [run_underlying Try.underlying48, Result.andThen, two, part0, part1, eq3]
    · simp [run_underlying Try.underlying48, Result.andThen, two, part0, part1, eq3, h2]
  · simp [run_underlying Try.underlying48, Result.andThen, two, part0, eq3, h1]
theorem key_inj {x y a b : Int} (h : key x y = key a b) : x = a ∧ y = b := by
  simpa [key] using h
theorem stays (x y : Int) (w : World) : (Instr.keyThatStays (key x y) (key x y)).run Try.prog w = .ok (key x y) w := by
  have h : Instr.sameBits 10000 (key x y) (key x y) = true := by
    rw [show (10000 : Nat) = 9998 + 1 + 1 from rfl]
    simp [Instr.sameBits]
  unfold Instr.keyThatStays
  simp [h]

/-- All keys are pairs. -/
def Pairs (l : List MapEntry) : Prop := ∀ e ∈ l, ∃ a b, e.key = key a b
theorem asking (x y : Int) (w : World) : ∀ (l : List MapEntry) (i : Nat), Pairs l →
    ((Instr.findAsking 48 (key x y) l i).run Try.prog w = .ok none w ∧ ∀ e ∈ l, e.key ≠ key x y) ∨
    ∃ j e, (Instr.findAsking 48 (key x y) l i).run Try.prog w = .ok (some (i + j, e.val)) w ∧ l[j]? = some e ∧ e.key = key x y
  | [], i, _ => .inl ⟨by simp [Instr.findAsking], fun e he => absurd he (by simp)⟩
  | e :: r, i, hp => by
    obtain ⟨a, b, hk⟩ := hp e List.mem_cons_self
    by_cases c : x = a ∧ y = b
    · obtain ⟨rfl, rfl⟩ := c
      refine .inr ⟨0, e, ?_, rfl, hk⟩
      simp [Instr.findAsking, hk, eq48, Result.andThen]
    · have hf : (x == a && y == b) = false := by
        by_cases h1 : x = a
        · have h2 : ¬ y = b := fun h => c ⟨h1, h⟩
          simp [h2]
        · simp [h1]
      have hne : e.key ≠ key x y := fun h => by
        rw [hk] at h
        obtain ⟨h1, h2⟩ := key_inj h
        exact c ⟨h1.symm, h2.symm⟩
      rcases asking x y w r (i + 1) (fun e' h => hp e' (List.mem_cons_of_mem _ h)) with ⟨h1, h2⟩ | ⟨j, e', h1, h2, h3⟩
      · refine .inl ⟨?_, fun e' he' => ?_⟩
        · simp [Instr.findAsking, hk, eq48, hf, Result.andThen, h1]
        · rcases List.mem_cons.1 he' with rfl | h
          · exact hne
          · exact h2 e' h
      · refine .inr ⟨j + 1, e', ?_, by simpa using h2, h3⟩
        simp [Instr.findAsking, hk, eq48, hf, Result.andThen, h1]
        omega
theorem find (x y : Int) (w : World) (l : List MapEntry) (hp : Pairs l) :
    ((Instr.findKey 48 (key x y) l).run Try.prog w = .ok none w ∧ ∀ e ∈ l, e.key ≠ key x y) ∨
    ∃ j e, (Instr.findKey 48 (key x y) l).run Try.prog w = .ok (some (j, e.val)) w ∧ l[j]? = some e ∧ e.key = key x y := by
  cases l with
  | nil =>
    refine .inl ⟨?_, fun e he => absurd he (by simp)⟩
    simp [Instr.findKey, run_underlying Try.underlying48, Result.andThen, Instr.findNow]
  | cons e r =>
    have hrun : (Instr.findKey 48 (key x y) (e :: r)).run Try.prog w = (Instr.findAsking 48 (key x y) (e :: r)).run Try.prog w := by
      simp [Instr.findKey, run_underlying Try.underlying48, Result.andThen, Instr.findNow, Instr.sameNow]
    rw [hrun]
    rcases asking x y w (e :: r) 0 hp with h | ⟨j, e', h1, h2⟩
    · exact .inl h
    · exact .inr ⟨j, e', by simpa using h1, h2⟩

/-- Block b is a map that counts as C says. -/
def Has (w : World) (b : Nat) (C : Int → Int → Int) : Prop :=
  ∃ es clock, w.heap[b]? = some (.map es clock) ∧ Stamped es clock ∧ Pairs es.toList ∧ (∀ e ∈ es.toList, ∀ x y, e.key = key x y → e.val = .int .i64 (C x y)) ∧ ∀ x y, (∀ e ∈ es.toList, e.key ≠ key x y) → C x y = 0

theorem Has.made (w : World) : Has (w.alloc (.map #[] 0)) w.heap.size (fun _ _ => 0) :=
  ⟨#[], 0, (MapKept.heap_alloc w _).1, stamped_empty 0, fun e he => absurd he (by simp), fun e he => absurd he (by simp), fun _ _ _ => rfl⟩
theorem Has.lt {w : World} {b : Nat} {C : Int → Int → Int} (h : Has w b C) : b < w.heap.size := by
  obtain ⟨es, clock, hb, _⟩ := h
  exact (Array.getElem?_eq_some_iff.1 hb).1
theorem Has.below {w w1 : World} {b : Nat} {C : Int → Int → Int} (h : Has w b C) (hb : Below w.heap.size w w1) : Has w1 b C := by
  have hlt := h.lt
  obtain ⟨es, clock, h0, r⟩ := h
  exact ⟨es, clock, (hb.block b hlt).trans h0, r⟩
theorem Has.look {w : World} {b : Nat} {C : Int → Int → Int} (h : Has w b C) (x y : Int) : (Instr.lookup 45 (.map (some b)) (key x y) false).run Try.prog w = .ok (.int .i64 (C x y)) w := by
  obtain ⟨es, clock, hb, _, hp, hv, h0⟩ := h
  rcases find x y w es.toList hp with ⟨h1, h2⟩ | ⟨j, e, h1, h2, h3⟩
  · simp [Instr.lookup, run_underlying Try.underlying45, MapKept.run_getObj_map hb, check, h1, Result.andThen, h0 x y h2]
  · simp [Instr.lookup, run_underlying Try.underlying45, MapKept.run_getObj_map hb, check, h1, Result.andThen, hv e (List.mem_of_getElem? h2) x y h3]

theorem Has.alloc {w : World} {b : Nat} {C : Int → Int → Int} (h : Has w b C) (o : Obj) : Has (w.alloc o) b C := h.below ((Below.refl _ _).alloc (Nat.le_refl _) _)
theorem Has.drew {w : World} {b : Nat} {C : Int → Int → Int} (h : Has w b C) : Has w.drew b C := h

/-- One entry is another one. -/
def upd (C : Int → Int → Int) (x y v : Int) (a b : Int) : Int := if a = x ∧ b = y then v else C a b

theorem Has.entry {w : World} {b : Nat} {C : Int → Int → Int} (h : Has w b C) (x y v : Int) :
    ∃ (v0 : Value) (st : Nat) (wA wB : World), (Instr.mapEntry 45 (.map (some b)) (key x y)).run Try.prog w = .ok (.tuple #[v0, .int .i64 (st : Int)]) wA ∧
      (Instr.entryStore 45 (.map (some b)) (.int .i64 (st : Int)) (.int .i64 v)).run Try.prog wA = .ok () wB ∧ Has wB b (upd C x y v) ∧ w.grownBy wB (some b) ∧
      (Instr.lookup 45 (.map (some b)) (key x y) false).run Try.prog wA = .ok (.int .i64 (C x y)) wA := by
  obtain ⟨es, clock, hb, hS, hp, hv, h0⟩ := h
  have hlt : b < w.heap.size := (Array.getElem?_eq_some_iff.1 hb).1
  obtain ⟨s1, s2, s3⟩ := hS
  rcases find x y w es.toList hp with ⟨h1, h2⟩ | ⟨j, e0, h1, h2, h3⟩
  · have hidx : (es.push ⟨key x y, .int .i64 0, clock⟩).findIdx? (fun e => ((e.born : Nat) : Int) == ((clock : Nat) : Int)) = some es.size := by
      rw [findIdx_arr]
      have := findIdx_born (l := (es.push ⟨key x y, .int .i64 0, clock⟩).toList) (j := es.size) (e0 := ⟨key x y, .int .i64 0, clock⟩) (by
        simp only [Array.toList_push, List.map_append, List.map_cons, List.map_nil]
        refine List.nodup_append.2 ⟨s2, by simp, fun a ha c hc e1 => ?_⟩
        simp only [List.mem_singleton] at hc
        obtain ⟨z, hz, rfl⟩ := List.mem_map.1 ha
        have := s1 z hz
        omega) (by simp)
      exact this
    have hmod : (es.push ⟨key x y, .int .i64 0, clock⟩).modify es.size (fun e => { e with val := .int .i64 v }) = es.push ⟨key x y, .int .i64 v, clock⟩ := by
      apply Array.ext'
      rw [Array.toList_modify, Array.toList_push, Array.toList_push, ← Array.length_toList, modify_last]
    refine ⟨.int .i64 0, clock, setBlock w b (.map (es.push ⟨key x y, .int .i64 0, clock⟩) (clock + 1)), setBlock (setBlock w b (.map (es.push ⟨key x y, .int .i64 0, clock⟩) (clock + 1))) b (.map (es.push ⟨key x y, .int .i64 v, clock⟩) (clock + 1)), ?_, ?_, ?_, ?_, ?_⟩
    · simp [Instr.mapEntry, run_underlying Try.underlying45, MapKept.run_getObj_map hb, check, h1, MapKept.run_setObj_map _ hb, Result.andThen, setBlock, goInt]
    · have hw2 : (setBlock w b (.map (es.push ⟨key x y, .int .i64 0, clock⟩) (clock + 1))).heap[b]? = some (.map (es.push ⟨key x y, .int .i64 0, clock⟩) (clock + 1)) := heap_setBlock_same hb _
      simp [Instr.entryStore, MapKept.run_getObj_map hw2, asInt, asIntOf, hidx, hmod, MapKept.run_setObj_map _ hw2, Result.andThen]
      rfl
    · refine ⟨es.push ⟨key x y, .int .i64 v, clock⟩, clock + 1, heap_setBlock_same (heap_setBlock_same hb _) _, stamped_push ⟨s1, s2, s3⟩ h2, ?_, ?_, ?_⟩
      · intro e he
        simp only [Array.toList_push, List.mem_append, List.mem_singleton] at he
        rcases he with he | rfl
        · exact hp e he
        · exact ⟨x, y, rfl⟩
      · intro e he a c hk
        simp only [Array.toList_push, List.mem_append, List.mem_singleton] at he
        rcases he with he | rfl
        · have hne : ¬ (a = x ∧ c = y) := fun g => h2 e he (by rw [hk, g.1, g.2])
          rw [upd, if_neg hne]
          exact hv e he a c hk
        · obtain ⟨g1, g2⟩ := key_inj hk
          rw [upd, if_pos ⟨g1.symm, g2.symm⟩]
      · intro a c hk
        have hne : ¬ (a = x ∧ c = y) := fun g => hk ⟨key x y, .int .i64 v, clock⟩ (by simp) (by show key x y = key a c; rw [g.1, g.2])
        rw [upd, if_neg hne]
        exact h0 a c fun e he => hk e (by simp [he])
    · refine ⟨rfl, rfl, rfl, by simp [setBlock], fun i _ hi => ?_⟩
      have hne : i ≠ b := fun e => hi (by rw [e])
      have hb2 := heap_setBlock_same hb (.map (es.push ⟨key x y, .int .i64 0, clock⟩) (clock + 1))
      rw [heap_setBlock_other hb2 _ hne, heap_setBlock_other hb _ hne]
    · refine Has.look ⟨es.push ⟨key x y, .int .i64 0, clock⟩, clock + 1, heap_setBlock_same hb _, stamped_push ⟨s1, s2, s3⟩ h2, ?_, ?_, ?_⟩ x y
      · intro e he
        simp only [Array.toList_push, List.mem_append, List.mem_singleton] at he
        rcases he with he | rfl
        · exact hp e he
        · exact ⟨x, y, rfl⟩
      · intro e he a c hk
        simp only [Array.toList_push, List.mem_append, List.mem_singleton] at he
        rcases he with he | rfl
        · exact hv e he a c hk
        · obtain ⟨g1, g2⟩ := key_inj hk
          rw [← g1, ← g2, h0 x y h2]
      · intro a c hk
        exact h0 a c fun e he => hk e (by simp [he])
  · have hj : es[j]? = some e0 := by simpa using h2
    have hsame : es.modify j (fun e => { e with key := key x y }) = es := by
      apply Array.ext'
      rw [Array.toList_modify, modify_eq_set _ _ _ _ h2]
      have : ({ e0 with key := key x y } : MapEntry) = e0 := by rw [← h3]
      rw [this]
      exact set_self _ _ _ h2
    have hidx : es.findIdx? (fun e => ((e.born : Nat) : Int) == ((e0.born : Nat) : Int)) = some j := by
      rw [findIdx_arr]
      exact findIdx_born s2 h2
    refine ⟨e0.val, e0.born, setBlock w b (.map es clock), setBlock (setBlock w b (.map es clock)) b (.map (es.modify j fun e => { e with val := .int .i64 v }) clock), ?_, ?_, ?_, ?_, ?_⟩
    · simp [Instr.mapEntry, run_underlying Try.underlying45, MapKept.run_getObj_map hb, check, h1, hj, h3, stays, hsame, MapKept.run_setObj_map _ hb, Result.andThen, setBlock, goInt]
    · have hw2 : (setBlock w b (.map es clock)).heap[b]? = some (.map es clock) := heap_setBlock_same hb _
      simp [Instr.entryStore, MapKept.run_getObj_map hw2, asInt, asIntOf, hidx, MapKept.run_setObj_map _ hw2, Result.andThen]
      rfl
    · have hmem : ∀ e ∈ (es.modify j fun e => { e with val := .int .i64 v }).toList, (e.key = key x y ∧ e.val = .int .i64 v) ∨ (e ∈ es.toList ∧ e.key ≠ key x y) := by
        intro e he
        rw [Array.toList_modify, modify_eq_set _ _ _ _ h2] at he
        obtain ⟨i, hi⟩ := List.getElem?_of_mem he
        rw [List.getElem?_set] at hi
        by_cases c : j = i
        · rw [if_pos c] at hi
          split at hi
          · cases hi
            exact .inl ⟨h3, rfl⟩
          · cases hi
        · rw [if_neg c] at hi
          refine .inr ⟨List.mem_of_getElem? hi, fun hk => ?_⟩
          have hi' : (es.toList.map (·.key))[i]? = some (key x y) := by rw [List.getElem?_map, hi]; simp [hk]
          have hj' : (es.toList.map (·.key))[j]? = some (key x y) := by rw [List.getElem?_map, h2]; simp [h3]
          obtain ⟨li, gi⟩ := List.getElem?_eq_some_iff.1 hi'
          obtain ⟨lj, gj⟩ := List.getElem?_eq_some_iff.1 hj'
          have hne := List.pairwise_iff_getElem.1 s3
          rcases Nat.lt_or_gt_of_ne c with q | q
          · exact hne j i lj li q (gj.trans gi.symm)
          · exact hne i j li lj q (gi.trans gj.symm)
      refine ⟨es.modify j fun e => { e with val := .int .i64 v }, clock, heap_setBlock_same (heap_setBlock_same hb _) _, stamped_modify ⟨s1, s2, s3⟩ j _ (fun _ _ => rfl) (fun _ _ _ => rfl), ?_, ?_, ?_⟩
      · intro e he
        rcases hmem e he with ⟨g, _⟩ | ⟨g, _⟩
        · exact ⟨x, y, g⟩
        · exact hp e g
      · intro e he a c hk
        rcases hmem e he with ⟨g, g'⟩ | ⟨g, g'⟩
        · obtain ⟨r1, r2⟩ := key_inj (g.symm.trans hk)
          rw [upd, if_pos ⟨r1.symm, r2.symm⟩]
          exact g'
        · have hne : ¬ (a = x ∧ c = y) := fun q => g' (by rw [hk, q.1, q.2])
          rw [upd, if_neg hne]
          exact hv e g a c hk
      · intro a c hk
        have hin : ({ e0 with val := .int .i64 v } : MapEntry) ∈ (es.modify j fun e => { e with val := .int .i64 v }).toList := by
          rw [Array.toList_modify, modify_eq_set _ _ _ _ h2]
          obtain ⟨lj, _⟩ := List.getElem?_eq_some_iff.1 h2
          exact List.mem_iff_getElem?.2 ⟨j, by rw [List.getElem?_set_self lj]⟩
        have hne : ¬ (a = x ∧ c = y) := fun q => hk _ hin (by show e0.key = _; rw [h3, q.1, q.2])
        rw [upd, if_neg hne]
        refine h0 a c fun e he hke => ?_
        obtain ⟨i, hi⟩ := List.getElem?_of_mem he
        by_cases q : j = i
        · subst q
          rw [h2] at hi
          cases hi
          exact hk _ hin hke
        · exact hk e (by
            rw [Array.toList_modify, modify_eq_set _ _ _ _ h2]
            exact List.mem_iff_getElem?.2 ⟨i, by rw [List.getElem?_set_ne q]; exact hi⟩) hke
    · refine ⟨rfl, rfl, rfl, by simp [setBlock], fun i _ hi => ?_⟩
      have hne : i ≠ b := fun e => hi (by rw [e])
      have hb2 := heap_setBlock_same hb (.map es clock)
      rw [heap_setBlock_other hb2 _ hne, heap_setBlock_other hb _ hne]
    · exact Has.look ⟨es, clock, heap_setBlock_same hb _, ⟨s1, s2, s3⟩, hp, hv, h0⟩ x y
end Go.Proofs.Ytghdfppllknabaa.Counts
