/- slices.Values, AppendSeq, Collect, Sorted over a slice of numbers. mid.Mid: the middle of all but the least and the greatest. Clocks: who stands ahead, the one whose clock counts, those that sent data. Conditions: the bounds stated in each theorem. -/
import Derived.Test.YtdbempiompiioaaGreatT02
import Derived.Test.YtdbempiompiioaaGreatT15
import Derived.RangeFuncBox
import Derived.RangeFuncLeaves
import Derived.RangeFuncBound
import Derived.RangeFuncGives
import Derived.Shelf.Abstract
import Derived.WalkKit
import Derived.OwnWalkIn
import Derived.TacticsInMore
import Derived.LoopNIn
import Derived.LoopIn
import Derived.Maps.AppendAt
import Derived.Sort.OwnSortedInts
set_option linter.unusedVariables false
set_option linter.unusedSimpArgs false
namespace Go.Proofs.YtdbempiompiioaaGreat.A37
open Go.RowKit Go.Shelf Go.Maps Go.Sort A1 A2 A3 A4 A5 A6 A7 A8 A9 A10 A11 A12 A13 A14 A15 A16 A17 A18 A19 A20 A21 A22 A23 A24 A25 A26 A27 A28 A29 A30 A31 A32 A33 A34
attribute [local go_sem] Oper.semAt_some
abbrev encI : Int → Value := Value.int .i64
def upto {α : Type} (f : Nat → α) (k : Nat) : List α := (List.range k).map f
theorem upto_succ {α : Type} (f : Nat → α) (k : Nat) : upto f (k + 1) = upto f k ++ [f k] := by simp [upto, List.range_succ]
theorem upto_length {α : Type} (f : Nat → α) (k : Nat) : (upto f k).length = k := by simp [upto]
theorem upto_all (zs : List Int) : upto (fun j => zs[j]?.getD 0) zs.length = zs := by
  apply List.ext_getElem
  · simp [upto]
  · intro i h1 h2
    simp [upto, h2]

set_option maxRecDepth 100000 in
set_option maxHeartbeats 2000000 in
theorem values1_in (F : Fence) (n : Nat) (h7 : F.fn 202) (hro : F.round = none) (hn : 1 ≤ n) (l Bs n₀ b off len cap : Nat) (zs : List Int) (hreach : len * 8 ≤ 140737488351232) (hb : b < n₀) (J Jx : List Int → World → Prop)
    (hY : ∀ pre x W, J pre W → pre.length < len → YieldAt F (n - 1) Tryz.prog l #[.int .i64 x] W fun e W' =>
      (e = .returned (.bool true) ∧ J (pre ++ [x]) W' ∧ Below n₀ W W') ∨ (e = .returned (.bool false) ∧ Jx (pre ++ [x]) W'))
    (W : World) (hBs : W.cell? ⟨Bs, 0, none⟩ = some (.slice (some ⟨b, off, none⟩) len cap)) (hc : ∀ j, j < len → W.cell? ⟨b, off + j, none⟩ = some (.int .i64 (zs[j]?.getD 0))) (h0 : J [] W) :
    CallsIn F n Tryz.prog 202 #[.func (.yield l) #[] #[], .pointer (some ⟨Bs, 0, none⟩)] W fun e W' => (∃ v, e = .returned v) ∧
      ((∃ ys, ys = upto (fun j => zs[j]?.getD 0) len ∧ J ys W') ∨ (∃ pre, (∃ k, k ≤ len ∧ pre = upto (fun j => zs[j]?.getD 0) k) ∧ Jx pre W')) := by
  refine callsIn_of_wp Tryz.func202 rfl h7 ?_ hro
  simp only [Tryz.ntmps202, List.size_toArray, List.length_cons, List.length_nil, Nat.reduceAdd, Nat.reduceSub, Array.replicate_succ, Array.replicate_zero, List.push_toArray, List.append_toArray, List.nil_append, List.cons_append]
  gi_wp2
  gi_loopw [7] (fun i wr => ∃ k : Nat, k ≤ len ∧ i = .int .i64 k ∧ J (upto (fun j => zs[j]?.getD 0) k) wr ∧ Below n₀ W wr)
    (fun i _ => len - (intOf i).toNat)
  case atStart => exact ⟨0, Nat.zero_le _, rfl, h0, Below.refl _ _⟩
  case round =>
    obtain ⟨k, hk, rfl, hJs, hnx⟩ := hrel
    have hcx : k < len → wr.cell? ⟨b, off + k, none⟩ = some (.int .i64 (zs[k]?.getD 0)) := fun h => (hnx.cell (p := ⟨b, off + k, none⟩) hb).trans (hc k h)
    by_cases hlt : k < len
    · obtain ⟨fn, tmps, assign, body, hy, hR⟩ := hY _ (zs[k]?.getD 0) wr hJs (by rw [upto_length]; exact hlt)
      have hcx' := hcx hlt
      gi_wp2
      refine hR.mono ?_
      rintro e W3 (⟨rfl, hJ3, hk3⟩ | ⟨rfl, hJx3⟩)
      · -- THE ROUND GOES ON
        gi_wp2
        go_roundw
        case rel => exact ⟨k + 1, by omega, by simp, by rw [upto_succ]; exact hJ3, hnx.trans hk3⟩
        case measure => simp [intOf]; omega
      · gi_wp2
        refine bodyPost_ret (results_none rfl _ _ _) rfl ?_
        exact ⟨⟨_, rfl⟩, .inr ⟨_, ⟨k + 1, by omega, (upto_succ _ _).symm⟩, hJx3⟩⟩
    · obtain rfl : k = len := by omega
      gi_wp2
      go_end0
      exact ⟨⟨_, rfl⟩, .inl ⟨_, rfl, hJs⟩⟩

theorem upto_take (zs : List Int) {k : Nat} (hk : k ≤ zs.length) : upto (fun j => zs[j]?.getD 0) k = zs.take k := by
  apply List.ext_getElem
  · simp [upto, hk]
  · intro i h1 h2
    have : i < zs.length := by simp [upto] at h1; omega
    simp [upto, this]

def IntsI (n₀ : Nat) (W : World) (sv : Value) (zs : List Int) : Prop :=
  (sv = .slice none 0 0 ∧ zs = []) ∨ ∃ b off cap, sv = .slice (some ⟨b, off, none⟩) zs.length cap ∧ b < n₀ ∧ ∀ j, j < zs.length → W.cell? ⟨b, off + j, none⟩ = some (.int .i64 (zs[j]?.getD 0))
theorem IntsI.below {n₀ : Nat} {A B : World} (h : Below n₀ A B) {sv : Value} {zs : List Int} : IntsI n₀ A sv zs → IntsI n₀ B sv zs
  | .inl e => .inl e
  | .inr ⟨b, off, cap, e, hb, hc⟩ => .inr ⟨b, off, cap, e, hb, fun j hj => (h.cell (p := ⟨b, off + j, none⟩) hb).trans (hc j hj)⟩

set_option maxRecDepth 100000 in
set_option maxHeartbeats 1000000 in
theorem values1_nil_in (F : Fence) (n : Nat) (h7 : F.fn 202) (hro : F.round = none) (l Bs : Nat) (J : List Int → World → Prop) (W : World) (hBs : W.cell? ⟨Bs, 0, none⟩ = some (.slice none 0 0)) (h0 : J [] W) :
    CallsIn F n Tryz.prog 202 #[.func (.yield l) #[] #[], .pointer (some ⟨Bs, 0, none⟩)] W fun e W' => (∃ v, e = .returned v) ∧ J [] W' := by
  refine callsIn_of_wp Tryz.func202 rfl h7 ?_ hro
  simp only [Tryz.ntmps202, List.size_toArray, List.length_cons, List.length_nil, Nat.reduceAdd, Nat.reduceSub, Array.replicate_succ, Array.replicate_zero, List.push_toArray, List.append_toArray, List.nil_append, List.cons_append]
  gi_wp2
  gi_loopw [7] (fun i wr => i = .int .i64 0 ∧ J [] wr) (fun _ _ => 0)
  case atStart => exact ⟨rfl, h0⟩
  case round =>
    obtain ⟨rfl, hJs⟩ := hrel
    gi_wp2
    go_end0
    exact ⟨⟨_, rfl⟩, hJs⟩

set_option maxHeartbeats 1000000 in
theorem values_in (F : Fence) (n : Nat) (h5 : F.fn 181) (hro : F.round = none) (a : Option Addr) (len cap : Nat) (w : World) :
    CallsIn F n Tryz.prog 181 #[.slice a len cap] w fun e w' => e = .returned (.func (.func 202) #[] #[.pointer (some ⟨w.heap.size, 0, none⟩)]) ∧ w' = w.alloc (.cells #[.slice a len cap] 22) := by
  refine callsIn_of_wp Tryz.func181 rfl h5 ?_ hro
  simp only [Tryz.ntmps181, List.size_toArray, List.length_cons, List.length_nil, Nat.reduceAdd, Nat.reduceSub, Array.replicate_succ, Array.replicate_zero, List.push_toArray, List.append_toArray, List.nil_append, List.cons_append]
  gi_wp2
  go_ret
  exact ⟨rfl, rfl⟩


def SeqB {α : Type} (F : Fence) (n : Nat) (P : Program) (g : Nat) (lb : Array Value) (enc : α → Value) (S : List α → Prop) (N : Nat) (w : World) : Prop :=
  ∀ (l : Nat) (J : List α → World → Prop) (W : World), Below w.heap.size w W → AbidesFrom W.heap.size J → (∀ pre W, J pre W → Below w.heap.size w W) →
    (∀ pre x W1, J pre W1 → pre.length < N → YieldAt F (n - 1) P l #[enc x] W1 fun e W' => e = .returned (.bool true) ∧ J (pre ++ [x]) W' ∧ KeepsWalks W1 W') →
    J [] W →
    CallsIn F n P g (#[.func (.yield l) #[] #[]] ++ lb) W fun e W' => (∃ v, e = .returned v) ∧ ∃ xs, S xs ∧ J xs W'
theorem SeqB.later {α : Type} {F : Fence} {n : Nat} {P : Program} {g : Nat} {lb : Array Value} {enc : α → Value} {S : List α → Prop} {N : Nat} {w w' : World}
    (h : SeqB F n P g lb enc S N w) (hb : Below w.heap.size w w') : SeqB F n P g lb enc S N w' :=
  fun l J W hW hJ hB hY h0 => h l J W (hb.trans (hW.mono hb.size)) hJ (fun pre W h => hb.trans ((hB pre W h).mono hb.size)) hY h0
theorem below_two {b : Nat} {w W W' : World} (h : Below b w W) (h' : Below b w W') (hs : W.heap.size ≤ W'.heap.size) : Below b W W' :=
  ⟨h'.os.trans h.os.symm, h'.tape.trans h.tape.symm, h'.output.trans h.output.symm, hs, fun k hk => (h'.block k hk).trans (h.block k hk).symm⟩
theorem values_gives (F : Fence) (n : Nat) (h7 : F.fn 202) (hro : F.round = none) (hn : 1 ≤ n) (Bs : Nat) (sv : Value) (zs : List Int) (hreach : zs.length * 8 ≤ 140737488351232) (w : World) (hBs : Bs < w.heap.size)
    (hc : w.cell? ⟨Bs, 0, none⟩ = some sv) (hI : IntsI w.heap.size w sv zs) :
    SeqB F n Tryz.prog 202 #[.pointer (some ⟨Bs, 0, none⟩)] encI (fun ys => ys = zs) zs.length w := fun l J W hW _ hJB hY h0 => by
  have hc' := (hW.cell (p := ⟨Bs, 0, none⟩) hBs).trans hc
  rcases hI.below hW with ⟨rfl, rfl⟩ | ⟨b, off, cap, rfl, hb, hcs⟩
  · exact (values1_nil_in F n h7 hro l Bs J W hc' h0).mono fun e W' ⟨he, hj⟩ => ⟨he, _, rfl, hj⟩
  · refine (values1_in F n h7 hro hn l Bs w.heap.size b off zs.length cap zs hreach hb J (fun _ _ => False) (fun pre x W1 hj hl => (hY pre x W1 hj hl).mono ?_) W hc' hcs h0).mono ?_
    · rintro e W' ⟨he, hj', hk⟩
      exact .inl ⟨he, hj', below_two (hJB _ _ hj) (hJB _ _ hj') hk.size⟩
    · rintro e W' ⟨he, ⟨ys, rfl, hj⟩ | ⟨pre, _, hj⟩⟩
      · exact ⟨he, _, upto_all zs, hj⟩
      · exact hj.elim
def apAssign : Code := (Code.region 2 #[{ dst := some 5, op := Op.assign (Operand.tmp 7), type := 3, pos := "iter.go:51", after := #[], guard := none }] false)
def apBody : Code := (Code.block 1 (Code.region 3 #[{ dst := some 8, op := Op.load 22 (Operand.tmp 2), type := 22, pos := "iter.go:52", after := #[], guard := none }, { dst := some 9, op := Op.move (Operand.tmp 5), type := 3, pos := "iter.go:52", after := #[], guard := none }, { dst := some 10, op := Op.buildSlice 22 1 #[(0, Operand.tmp 9)], type := 22, pos := "iter.go:52", after := #[{ on := 1, ground := Ground.data }], guard := none }, { dst := some 11, op := Op.call { callee := Callee.builtin Builtin.append, args := #[Operand.tmp 8, Operand.tmp 10], argTypes := #[22, 22] }, type := 22, pos := "iter.go:52", after := #[{ on := 0, ground := Ground.data }, { on := 2, ground := Ground.data }], guard := none }, { dst := none, op := Op.store 22 (Operand.tmp 2) (Operand.tmp 11), type := 0, pos := "iter.go:52", after := #[{ on := 3, ground := Ground.data }, { on := 3, ground := Ground.chain }, { on := 0, ground := Ground.phase }, { on := 1, ground := Ground.phase }, { on := 2, ground := Ground.phase }, { on := 3, ground := Ground.phase }], guard := none }] false))
def apRec (fn : FuncId) (sv : Value) (Bs D : Nat) (st : LoopState) (pend : Option Code) : Loop :=
  { state := st, pending := pend, fn, tmps := #[.slice none 0 0, sv, .pointer (some ⟨Bs, 0, none⟩), undef, .slice none 0 0, undef, sv, undef, undef, undef, undef, undef, undef], params := #[7], assign := apAssign, body := apBody, defers := D }

structure ApAt (w0 : World) (fn : FuncId) (sv : Value) (Bs l D : Nat) (ss : List Int) (W : World) : Prop where
  box : ∃ v, W.heap[Bs]? = some (.cells #[v] 22 (0, 0)) ∧ W.ownsRow w0.heap.size 3 1 v ss.length (ss.map encI) ∧ (v = .slice none 0 0 ↔ ss = [])
  L : W.heap[l]? = some (.loop (apRec fn sv Bs D .ready none))
  K : W.heap[D]? = some (.deferred (some []))
  below : Below w0.heap.size w0 W

theorem ownsRow_abides {W W' : World} {row : Option Nat} {base : Nat} {e : TypeId} {size : Nat} {v : Value} {k : Nat} {xs : List Value} (h : W.ownsRow base e size v k xs) (hg : W.grownBy W' row)
    (hrow : ∀ r, row = some r → ∃ o : Obj, W.heap[r]? = some o ∧ o.isWalk = true) : W'.ownsRow base e size v k xs := by
  refine h.kept hg ?_
  rcases h.2 with ⟨rfl, _⟩ | ⟨g, cap, cur, rfl, _, hgb, _⟩
  · exact .inl rfl
  · refine .inr fun e' => ?_
    obtain ⟨o, ho, hw⟩ := hrow g (by simpa [Value.ownBlock] using e'.symm)
    rw [hgb] at ho; cases ho; cases hw

theorem ap_abides (w0 : World) (fn : FuncId) (sv : Value) (Bs l D B : Nat) (hB : w0.heap.size ≤ B) : AbidesFrom B (ApAt w0 fn sv Bs l D) := fun s W W' row h hg hrow => by
  have hrow' : ∀ r, row = some r → ∃ o : Obj, W.heap[r]? = some o ∧ o.isWalk = true := fun r e => (hrow r e).2
  obtain ⟨v, hv, hr, hn⟩ := h.box
  exact ⟨⟨v, (grownBy_keeps hg hrow' hv rfl).trans hv, ownsRow_abides hr hg hrow', hn⟩, (grownBy_keeps hg hrow' h.L rfl).trans h.L, (grownBy_keeps hg hrow' h.K rfl).trans h.K,
    h.below.grown hg h.below.size (fun k e => Nat.le_trans hB (hrow k e).1)⟩

theorem grownBy_putObj (W : World) (l : Nat) (o : Obj) : W.grownBy (W.putObj l o) (some l) :=
  ⟨rfl, rfl, rfl, by simp, fun k _ hk => World.putObj_heap_other (fun e => hk (by rw [e]))⟩
theorem grownBy_setCell0 (W : World) (b : Nat) (v : Value) : W.grownBy (W.setCell ⟨b, 0, none⟩ v) (some b) :=
  ⟨rfl, rfl, rfl, (KeepsWalks.setCell W _ v).size, fun k _ hk => Below.heap_setCell _ _ _ k (fun e => hk (by rw [e]))⟩
theorem ownsRow_ne {W : World} {base : Nat} {e : TypeId} {size : Nat} {v : Value} {k : Nat} {xs : List Value} (h : W.ownsRow base e size v k xs) {j : Nat} {o : Obj} (hj : W.heap[j]? = some o) (hno : ∀ cur, o ≠ .cells cur e (0, 0)) :
    v.ownBlock = none ∨ v.ownBlock ≠ some j := by
  rcases h.2 with ⟨rfl, _⟩ | ⟨g, cap, cur, rfl, _, hgb, _⟩
  · exact .inl rfl
  · refine .inr fun e' => ?_
    have : g = j := by simpa [Value.ownBlock] using e'
    subst this; rw [hgb] at hj; cases hj; exact hno cur rfl
theorem cell_of_box {W : World} {B : Nat} {v : Value} {t : TypeId} (h : W.heap[B]? = some (.cells #[v] t (0, 0))) : W.cell? ⟨B, 0, none⟩ = some v ∧ W.frozen? ⟨B, 0, none⟩ = false := by
  constructor <;> simp [World.cell?, World.frozen?, h]

theorem heap_setCell_box {W : World} {B : Nat} {v : Value} {t : TypeId} (v' : Value) (h : W.heap[B]? = some (.cells #[v] t (0, 0))) : (W.setCell ⟨B, 0, none⟩ v').heap[B]? = some (.cells #[v'] t (0, 0)) := by
  obtain ⟨hlt, hk⟩ := Array.getElem?_eq_some_iff.1 h
  show (W.heap.modify B _)[B]? = _
  rw [Array.getElem?_eq_getElem (by rw [Array.size_modify]; exact hlt), Array.getElem_modify_self, hk]
  rfl
theorem ownsRow_not_walk {W : World} {base : Nat} {e : TypeId} {size : Nat} {v : Value} {k : Nat} {xs : List Value} (h : W.ownsRow base e size v k xs) : ∀ (j : Nat) (o : Obj), v.ownBlock = some j → W.heap[j]? = some o → o.isWalk = false := by
  intro j o hj ho
  rcases h.2 with ⟨rfl, _⟩ | ⟨g, cap, cur, rfl, _, hgb, _⟩
  · simp [Value.ownBlock] at hj
  · have : g = j := by simpa [Value.ownBlock] using hj
    subst this; rw [hgb] at ho; cases ho; rfl

theorem info3_ : (Tryz.prog.info? 3).map (fun i => (i.zero, i.size, i.bytes)) = some (some (.int .i64 0), 1, 8) := by kernel_rfl

set_option maxRecDepth 100000 in
set_option maxHeartbeats 2000000 in
theorem apYield (F : Fence) (m : Nat) (w0 : World) (fn : FuncId) (hfn : F.fn fn) (sv : Value) (Bs l D : Nat) (hBl : Bs ≠ l) (hDl : D ≠ l) (hDB : D ≠ Bs) (h0B : w0.heap.size ≤ Bs) (h0l : w0.heap.size ≤ l)
    (N : Nat) (hN : N ≤ maxLen) (hNb : N * 8 ≤ 140737488355328) (ss : List Int) (x : Int) (W : World) (h : ApAt w0 fn sv Bs l D ss W) (hlen : ss.length < N) :
    YieldAt F m Tryz.prog l #[encI x] W fun e W' => e = .returned (.bool true) ∧ ApAt w0 fn sv Bs l D (ss ++ [x]) W' ∧ KeepsWalks W W' := by
  obtain ⟨i0, hi, hz0, hz1, hz2⟩ := info_parts info3_
  obtain ⟨v, hv, hrow, _⟩ := h.box
  refine ⟨fn, #[.slice none 0 0, sv, .pointer (some ⟨Bs, 0, none⟩), undef, .slice none 0 0, undef, sv, encI x, undef, undef, undef, undef, undef], apAssign, apBody, by simpa [apRec] using run_yield (P := Tryz.prog) (args := #[encI x]) h.L rfl, roundIn_of_wpIn hfn ?_⟩
  have hl : l < W.heap.size := (Array.getElem?_eq_some_iff.1 h.L).1
  have hbr := run_beginRound (P := Tryz.prog) h.L rfl
  obtain ⟨W2, hW2⟩ : ∃ W2, W.putObj l (.loop { apRec fn sv Bs D .ready none with state := .busy }) = W2 := ⟨_, rfl⟩
  rw [hW2] at hbr
  have hg2 : W.grownBy W2 (some l) := by rw [← hW2]; exact grownBy_putObj _ _ _
  have hk2 : KeepsWalks W W2 := by rw [← hW2]; exact KeepsWalks.putObj _ h.L rfl
  have hv2 : W2.heap[Bs]? = some (.cells #[v] 22 (0, 0)) := by rw [← hW2]; exact (World.putObj_heap_other hBl).trans hv
  have hK2 : W2.heap[D]? = some (.deferred (some [])) := by rw [← hW2]; exact (World.putObj_heap_other hDl).trans h.K
  have hL2 : W2.heap[l]? = some (.loop { apRec fn sv Bs D .ready none with state := .busy }) := by rw [← hW2]; exact World.putObj_heap_same hl
  have hrow2 : W2.ownsRow w0.heap.size 3 1 v ss.length (ss.map encI) := hrow.kept hg2 (ownsRow_ne hrow h.L (fun cur e => by cases e))
  have hb2 : Below w0.heap.size w0 W2 := h.below.grown hg2 h.below.size (fun k e => by cases e; exact h0l)
  obtain ⟨hc2, hf2⟩ := cell_of_box hv2
  have hBlt : Bs < W2.heap.size := (Array.getElem?_eq_some_iff.1 hv2).1
  have hl2 : l < W2.heap.size := (Array.getElem?_eq_some_iff.1 hL2).1
  have hDlt : D < W2.heap.size := (Array.getElem?_eq_some_iff.1 hK2).1
  have ne_of : ∀ {j : Nat} {o : Obj}, W2.heap[j]? = some o → (∀ cur, o ≠ .cells cur 3 (0, 0)) → some j ≠ v.ownBlock := fun hj hno => by
    rcases ownsRow_ne hrow2 hj hno with e | e
    · rw [e]; simp
    · exact fun e' => e e'.symm
  clear hW2
  unfold apAssign
  gi_wp2_with (rw [Oper.semAt_eq _ _ _ (fun c h => by cases h)]; go_simp; try go_bits)
  unfold apBody
  gi_wp2_with (first
    | (gi_at_builtin; refine wpListIn_append_own _ rfl _ _ 22 rfl w0.heap.size 3 i0 (.int .i64 0) 1 8 Tryz.underlying22 hi hz0 hz1 hz2 rfl (by decide) _ _ _ rfl (hrow2.alloc _) ⟨W2.heap.size, 0, none⟩ 1 1 [encI x] rfl rfl (cell_one_new _ _ _) (by simp [Value.oneCell', encI]) (by omega) (by omega) (by have := hb2.size; simp; omega) ?_; intro v' w3 hown' hg3 hnil3
       have hv3 : w3.heap[Bs]? = some (.cells #[v] 22 (0, 0)) := (hg3.block Bs (by simp; omega) (ne_of hv2 (fun cur e => by cases e))).trans ((Below.heap_alloc _ _ Bs hBlt).trans hv2)
       obtain ⟨hc3, hf3⟩ := cell_of_box hv3
       obtain ⟨g', cap', cur', rfl, hbase', hgb', hr1, hr2, hr3, hr4⟩ : ∃ g' cap' cur', v' = .slice (some ⟨g', 0, none⟩) (ss.length + 1) cap' ∧ w0.heap.size ≤ g' ∧ w3.heap[g']? = some (.cells cur' 3 (0, 0)) ∧ ss.length + 1 ≤ cap' ∧ cap' ≤ maxLen ∧ cur'.size = cap' * 1 ∧ cur'.toList.take ((ss.length + 1) * 1) = ss.map encI ++ [encI x] := by
         rcases hown'.2 with ⟨_, h0⟩ | h'
         · exact absurd h0 (by omega)
         · exact h'
       simp only [Act.put, List.setIfInBounds_toArray, List.set_cons_succ, List.set_cons_zero])
    | (rw [Oper.semAt_eq _ _ _ (fun c h => by cases h)]; go_simp; try go_bits))
  have hg3' : (W2.alloc (.cells #[encI x] 3)).grownBy w3 v.ownBlock := hg3
  have hL3 : w3.heap[l]? = some (.loop { apRec fn sv Bs D .ready none with state := .busy }) := (hg3'.block l (by simp; omega) (ne_of hL2 (fun cur e => by cases e))).trans ((Below.heap_alloc _ _ l hl2).trans hL2)
  have hK3 : w3.heap[D]? = some (.deferred (some [])) := (hg3'.block D (by simp; omega) (ne_of hK2 (fun cur e => by cases e))).trans ((Below.heap_alloc _ _ D hDlt).trans hK2)
  obtain ⟨w4, hw4⟩ : ∃ w4, w3.setCell ⟨Bs, 0, none⟩ (.slice (some ⟨g', 0, none⟩) (ss.length + 1) cap') = w4 := ⟨_, rfl⟩
  rw [hw4]
  have hg4 : w3.grownBy w4 (some Bs) := by rw [← hw4]; exact grownBy_setCell0 _ _ _
  have hv4 : w4.heap[Bs]? = some (.cells #[.slice (some ⟨g', 0, none⟩) (ss.length + 1) cap'] 22 (0, 0)) := by rw [← hw4]; exact heap_setCell_box _ hv3
  have hL4 : w4.heap[l]? = some (.loop { apRec fn sv Bs D .ready none with state := .busy }) := (hg4.block l (Array.getElem?_eq_some_iff.1 hL3).1 (fun e => hBl (by cases e; rfl))).trans hL3
  have hK4 : w4.heap[D]? = some (.deferred (some [])) := (hg4.block D (Array.getElem?_eq_some_iff.1 hK3).1 (fun e => hDB (by cases e; rfl))).trans hK3
  have hrow4 := hown'.kept hg4 (ownsRow_ne hown' hv3 (fun cur e => by cases e))
  have hl4 : l < w4.heap.size := (Array.getElem?_eq_some_iff.1 hL4).1
  have hb3 : Below w0.heap.size w0 w3 := (hb2.alloc hb2.size _).grown hg3' (by have := hb2.size; simp; omega) (fun k e => (hrow2.lt k e).1)
  have hb4 : Below w0.heap.size w0 w4 := hb3.grown hg4 hb3.size (fun k e => by cases e; exact h0B)
  have hk4 : KeepsWalks W w4 := ((hk2.trans (KeepsWalks.alloc _ _)).trans (KeepsWalks.of_grownBy hg3' (ownsRow_not_walk (hrow2.alloc _)))).trans (by rw [← hw4]; exact KeepsWalks.setCell _ _ _)
  clear hw4
  refine ⟨_, _, run_endRound none hL4, rfl, ⟨⟨_, (World.putObj_heap_other hBl).trans hv4, ?_, by simp⟩, World.putObj_heap_same hl4, (World.putObj_heap_other hDl).trans hK4, hb4.grown (grownBy_putObj _ _ _) hb4.size (fun k e => by cases e; exact h0l)⟩, hk4.trans (KeepsWalks.putObj _ hL4 rfl)⟩
  have := hrow4.kept (grownBy_putObj w4 l (.loop { { apRec fn sv Bs D .ready none with state := .busy } with state := if (none : Option Code).isNone then .ready else .done, pending := none })) (ownsRow_ne hrow4 hL4 (fun cur e => by cases e))
  simpa using this


set_option maxRecDepth 100000 in
set_option maxHeartbeats 2000000 in
theorem appendSeq_in (F : Fence) (n : Nat) (h11 : F.fn 216) (hro : F.round = none) (hn : 2 ≤ n) (g : Nat) (lb : Array Value) (hFg : F.fn g) (eg : ∀ args w, (callFunc g args).run Tryz.prog w = .ok (.enter g args) w)
    (S : List Int → Prop) (N : Nat) (hN : N ≤ maxLen) (hNb : N * 8 ≤ 140737488355328) (w : World) (hseq : SeqB F (n - 1) Tryz.prog g lb encI S N w) :
    CallsIn F n Tryz.prog 216 #[.slice none 0 0, .func (.func g) #[] lb] w fun e w' => ∃ (v : Value) (ss : List Int), e = .returned v ∧ S ss ∧ w'.ownsRow w.heap.size 3 1 v ss.length (ss.map encI) ∧ (v = .slice none 0 0 ↔ ss = []) ∧ Below w.heap.size w w' := by
  have h1 : 1 ≤ n := by omega
  refine callsIn_of_wp_marks Tryz.func216 rfl h11 ?_ hro
  simp only [Tryz.ntmps216, List.size_toArray, List.length_cons, List.length_nil, Nat.reduceAdd, Nat.reduceSub, Array.replicate_succ, Array.replicate_zero, List.push_toArray, List.append_toArray, List.nil_append, List.cons_append]
  gi_wp2
  refine wpIn_rangeFunc ?_
  intro fn hfn
  rw [hro]
  obtain ⟨W0, hW0⟩ : ∃ W0, w.alloc (.cells #[.slice none 0 0] 22) = W0 := ⟨_, rfl⟩
  have hs0 : W0.heap.size = w.heap.size + 1 := by rw [← hW0]; simp
  have hv0 : W0.heap[w.heap.size]? = some (.cells #[.slice none 0 0] 22 (0, 0)) := by rw [← hW0]; exact World.alloc_heap_new w _
  have hb0 : Below w.heap.size w W0 := by rw [← hW0]; exact (Below.refl _ w).alloc (Nat.le_refl _) _
  rw [hW0]
  obtain ⟨W1, hW1⟩ : ∃ W1, (W0.alloc (.deferred (some []))).alloc (.loop (apRec fn (.func (.func g) #[] lb) w.heap.size W0.heap.size .ready none)) = W1 := ⟨_, rfl⟩
  have hold : ∀ k, k < W0.heap.size → W1.heap[k]? = W0.heap[k]? := fun k hk => by
    rw [← hW1]; exact (Below.heap_alloc _ _ k (by simp; omega)).trans (Below.heap_alloc _ _ k hk)
  have hb1 : Below w.heap.size w W1 := by rw [← hW1]; exact (hb0.alloc hb0.size _).alloc (by have := hb0.size; simp; omega) _
  have hs1 : W1.heap.size = W0.heap.size + 2 := by rw [← hW1]; simp
  have hM : ApAt w fn (.func (.func g) #[] lb) w.heap.size (W0.heap.size + 1) W0.heap.size [] W1 :=
    ⟨⟨_, (hold w.heap.size (by omega)).trans hv0, ⟨rfl, .inl ⟨rfl, rfl⟩⟩, by simp⟩,
     by rw [← hW1]; have := World.alloc_heap_new (W0.alloc (.deferred (some []))) (.loop (apRec fn (.func (.func g) #[] lb) w.heap.size W0.heap.size .ready none)); rwa [World.size_alloc] at this,
     by rw [← hW1]; exact (Below.heap_alloc _ _ _ (by simp)).trans (World.alloc_heap_new W0 _), hb1⟩
  refine ⟨W0.heap.size + 1, [{ target := .collected W0.heap.size, args := #[] }], W1, { target := .fn (.func g) lb, args := #[.func (.yield (W0.heap.size + 1)) #[] #[]] }, W1, g,
    #[.func (.yield (W0.heap.size + 1)) #[] #[]] ++ lb, W1, ?_, ?_, ?_, ?_, fun _ => h1, ?_⟩
  · rw [← hW1]; exact run_enterLoop_outer _ _ _ _ _
  · simp [resolve, go_sem]
  · intro f' hf'; simp [Target.leads] at hf'; subst hf'; exact hFg
  · simp [invoke, go_sem, eg]
  · refine (hseq (W0.heap.size + 1) (ApAt w fn (.func (.func g) #[] lb) w.heap.size (W0.heap.size + 1) W0.heap.size) W1 hb1 (ap_abides _ _ _ _ _ _ _ hb1.size) (fun pre W h => h.below)
      (fun pre x W hJ hl => apYield F (n - 1 - 1) w fn hfn _ w.heap.size (W0.heap.size + 1) W0.heap.size (by omega) (by omega) (by omega) (Nat.le_refl _) (by omega) N hN hNb pre x W hJ hl) hM).mono ?_
    rintro e W2 ⟨⟨v0, rfl⟩, ss, hS, h2⟩
    obtain ⟨v, hv, hrow, hnil⟩ := h2.box
    have hend := run_endLoop (P := Tryz.prog) h2.L (by simp [apRec])
    obtain ⟨W3, hW3⟩ : ∃ W3, W2.putObj (W0.heap.size + 1) (.loop { apRec fn (.func (.func g) #[] lb) w.heap.size W0.heap.size .ready none with state := .exhausted }) = W3 := ⟨_, rfl⟩
    rw [hW3] at hend
    have hg3 : W2.grownBy W3 (some (W0.heap.size + 1)) := by rw [← hW3]; exact grownBy_putObj _ _ _
    have hv3 : W3.heap[w.heap.size]? = some (.cells #[v] 22 (0, 0)) := by rw [← hW3]; exact (World.putObj_heap_other (by omega)).trans hv
    have hK3 : W3.heap[W0.heap.size]? = some (.deferred (some [])) := by rw [← hW3]; exact (World.putObj_heap_other (by omega)).trans h2.K
    have hrow3 := hrow.kept hg3 (ownsRow_ne hrow h2.L (fun cur e => by cases e))
    have hb3 : Below w.heap.size w W3 := h2.below.grown hg3 h2.below.size (fun k e => by cases e; omega)
    obtain ⟨hc3, hf3⟩ := cell_of_box hv3
    clear hW3
    refine ⟨none, W3, hend, ?_⟩
    gi_wp2
    rw [← hs0]
    refine ⟨by simp, .inl ⟨_, _, rfl, run_takeDeferred hK3, ?_⟩⟩
    exact ⟨_, results_tmp rfl _ _ _, v, ss, rfl, hS, hrow3.kept (grownBy_putObj _ _ _) (ownsRow_ne hrow3 hK3 (fun cur e => by cases e)), hnil, hb3.grown (grownBy_putObj _ _ _) hb3.size (fun k e => by cases e; omega)⟩


set_option maxHeartbeats 1000000 in
theorem collect_in (F : Fence) (n : Nat) (h8 : F.fn 200) (h11 : F.fn 216) (hro : F.round = none) (hn : 3 ≤ n) (g : Nat) (lb : Array Value) (hFg : F.fn g) (eg : ∀ args w, (callFunc g args).run Tryz.prog w = .ok (.enter g args) w)
    (S : List Int → Prop) (N : Nat) (hN : N ≤ maxLen) (hNb : N * 8 ≤ 140737488355328) (w : World) (hseq : SeqB F (n - 1 - 1) Tryz.prog g lb encI S N w) :
    CallsIn F n Tryz.prog 200 #[.func (.func g) #[] lb] w fun e w' => ∃ (v : Value) (ss : List Int), e = .returned v ∧ S ss ∧ w'.ownsRow w.heap.size 3 1 v ss.length (ss.map encI) ∧ (v = .slice none 0 0 ↔ ss = []) ∧ Below w.heap.size w w' := by
  have h1 : 1 ≤ n := by omega
  refine callsIn_of_wp Tryz.func200 rfl h8 ?_ hro
  simp only [Tryz.ntmps200, List.size_toArray, List.length_cons, List.length_nil, Nat.reduceAdd, Nat.reduceSub, Array.replicate_succ, Array.replicate_zero, List.push_toArray, List.append_toArray, List.nil_append, List.cons_append]
  gi_wp2_with (gi_at_call 216; refine (appendSeq_in F (n - 1) h11 hro (by omega) g lb hFg eg S N hN hNb _ hseq).mono ?_; rintro e w' ⟨v, ss, rfl, hS, hrow, hnil, hb⟩)
  go_ret
  exact ⟨v, ss, rfl, hS, hrow, hnil, hb⟩


theorem sorts_wide1 (m blk off cap : Nat) (zs : List Int) (W : World) (hH : Holds (Value.int .i64) W blk off zs.toArray) (hblk : blk < W.heap.size) (hsz : zs.length < 4611686018427387904) :
    CallsIn Fence.wide m Tryz.prog 201 #[.slice (some ⟨blk, off, none⟩) zs.length cap] W fun e w' => e = .returned (.tuple #[]) ∧ ∃ n os, w' = grow (putRow (Value.int .i64) (Sort.ahead W n) blk off (zs.mergeSort fun x y => decide (x ≤ y)).toArray) os :=
  callsIn_wide.2 (Tryz.slices_Sort_int blk off cap zs W hH hblk hsz)
theorem sorts_wide2 (m : Nat) (p : Option Addr) (cap : Nat) (W : World) : CallsIn Fence.wide m Tryz.prog 201 #[.slice p 0 cap] W fun e w' => e = .returned (.tuple #[]) ∧ w' = W :=
  callsIn_wide.2 (Tryz.slices_Sort_int_none p cap W)
set_option maxRecDepth 100000 in
set_option maxHeartbeats 2000000 in
theorem sorted_in (n : Nat) (hn : 4 ≤ n) (g : Nat) (lb : Array Value) (eg : ∀ args w, (callFunc g args).run Tryz.prog w = .ok (.enter g args) w)
    (S : List Int → Prop) (N : Nat) (hN : N ≤ maxLen) (hNb : N * 8 ≤ 140737488355328) (hlen : ∀ ss, S ss → ss.length ≤ N) (w : World) (hseq : SeqB Fence.wide (n - 1 - 1 - 1) Tryz.prog g lb encI S N w) :
    CallsIn Fence.wide n Tryz.prog 180 #[.func (.func g) #[] lb] w fun e w' => ∃ (v : Value) (ss : List Int), e = .returned v ∧ S ss ∧
      w'.ownsRow w.heap.size 3 1 v ss.length ((ss.mergeSort (fun x y => decide (x ≤ y))).map encI) ∧ (v = .slice none 0 0 ↔ ss = []) ∧ Below w.heap.size w w' := by
  have h1 : 1 ≤ n := by omega
  have h8 : Fence.wide.fn 200 := trivial
  have h9 : Fence.wide.fn 201 := trivial
  refine callsIn_of_wp Tryz.func180 rfl trivial ?_ rfl
  simp only [Tryz.ntmps180, List.size_toArray, List.length_cons, List.length_nil, Nat.reduceAdd, Nat.reduceSub, Array.replicate_succ, Array.replicate_zero, List.push_toArray, List.append_toArray, List.nil_append, List.cons_append]
  gi_wp2_with (gi_at_call 200; refine (collect_in Fence.wide (n - 1) h8 trivial rfl (by omega) g lb trivial eg S N hN hNb _ hseq).mono ?_; rintro e W ⟨v, ss, rfl, hS, hrow, hnil, hb⟩)
  rcases hrow.2 with ⟨rfl, hz⟩ | ⟨gb, cap, cur, rfl, hbase, hgb, r1, r2, r3, r4⟩
  · have hss : ss = [] := List.eq_nil_of_length_eq_zero hz
    subst hss
    gi_wp2_with (gi_at_call 201; refine (sorts_wide2 _ none 0 W).mono ?_; rintro e w' ⟨rfl, rfl⟩)
    go_ret
    exact ⟨.slice none 0 0, [], rfl, hS, by simpa using hrow, by simp, hb⟩
  · have hH : Holds (Value.int .i64) W gb 0 ss.toArray := holds_of_blockI hgb (by simpa using r4)
    have hgl : gb < W.heap.size := (Array.getElem?_eq_some_iff.1 hgb).1
    have hsz : ss.length < 4611686018427387904 := by have := hlen ss hS; omega
    have cS := sorts_wide1 (n - 1) gb 0 cap ss W hH hgl hsz
    gi_wp2_with (gi_at_call 201; refine cS.mono ?_; rintro e w' ⟨rfl, nn, os, rfl⟩)
    go_ret
    exact ⟨_, ss, rfl, hS, ownsRow_sortedI (by simp) hbase hgb r1 r2 r3, hnil, hb.grown (grownBy_sortedI _) hb.size (fun j hj => by cases hj; exact hbase)⟩
set_option maxRecDepth 100000 in
set_option maxHeartbeats 2000000 in
theorem mid_inner (A : Option Addr) (C : Nat) (zs : List Int) (w : World) (hI : IntsI w.heap.size w (.slice A zs.length C) zs) (hl : zs.length ≤ 1000) (hl2 : 2 ≤ zs.length) :
    Calls Tryz.prog 156 #[.slice A zs.length C] w fun e w' => ∃ g cap, e = .returned (.slice (some ⟨g, 1, none⟩) (zs.length - 2) cap) ∧ Below w.heap.size w w' ∧ g < w'.heap.size ∧
      ∀ j, j + 2 < zs.length → w'.cell? ⟨g, 1 + j, none⟩ = some (.int .i64 ((zs.mergeSort (fun x y => decide (x ≤ y))).getD (j + 1) 0)) := by
  refine (callsIn_wide (n := 8)).1 ?_
  have hf1 : Fence.wide.fn 181 := trivial
  have hf2 : Fence.wide.fn 180 := trivial
  have hml : (1000 : Nat) ≤ maxLen := by decide
  have hseq : SeqB Fence.wide 4 Tryz.prog 202 #[.pointer (some ⟨w.heap.size, 0, none⟩)] encI (fun ys => ys = zs) zs.length (w.alloc (.cells #[.slice A zs.length C] 22)) :=
    values_gives Fence.wide 4 trivial rfl (by omega) w.heap.size (.slice A zs.length C) zs (by omega) _ (by simp) (cell_of_box (World.alloc_heap_new w _)).1 ((show IntsI w.heap.size (w.alloc _) _ zs from hI.below ((Below.refl _ w).alloc (Nat.le_refl _) _)).imp id fun ⟨b, off, cap, e, hb, hc⟩ => ⟨b, off, cap, e, by simp; omega, hc⟩)
  have cV := values_in Fence.wide 7 trivial rfl A zs.length C w
  have cS := sorted_in 7 (by omega) 202 #[.pointer (some ⟨w.heap.size, 0, none⟩)] (enters_of Tryz.func202 (by kernel_rfl) rfl) _ _ (by omega) (by omega) (fun ss h => by rw [h]; exact Nat.le_refl _) _ hseq
  have hlz : (zs.mergeSort (fun x y => decide (x ≤ y))).length = zs.length := List.length_mergeSort _
  refine callsIn_of_wp Tryz.func156 rfl trivial ?_ rfl
  simp only [Tryz.ntmps156, List.size_toArray, List.length_cons, List.length_nil, Nat.reduceAdd, Nat.reduceSub, Array.replicate_succ, Array.replicate_zero, List.push_toArray, List.append_toArray, List.nil_append, List.cons_append]
  gi_wp2_with (first
    | (gi_at_call 181; refine cV.mono ?_; rintro e w' ⟨rfl, rfl⟩)
    | (gi_at_call 180; refine cS.mono ?_; rintro e w' ⟨v, ss, rfl, rfl, hrow, hnil, hb⟩
       rcases hrow.2 with ⟨rfl, hz⟩ | ⟨gb, cap, cur, rfl, hbase, hgb, r1, r2, r3, r4⟩
       · omega))
  have hcell : ∀ j, j < ss.length → w'.cell? ⟨gb, j, none⟩ = some (.int .i64 ((ss.mergeSort (fun x y => decide (x ≤ y))).getD j 0)) := fun j hj => by
    rw [Lib.cell_of_heap hgb j]
    have h1 : (cur.toList.take (ss.length * 1))[j]? = ((ss.mergeSort (fun x y => decide (x ≤ y))).map encI)[j]? := by rw [r4]
    rw [List.getElem?_take, if_pos (by omega), List.getElem?_map, Array.getElem?_toList] at h1
    rw [h1, List.getD_eq_getElem?_getD, List.getElem?_eq_getElem (by omega)]
    rfl
  go_ret
  refine ⟨gb, cap - 1, ?_, ?_, (Array.getElem?_eq_some_iff.1 hgb).1, fun j hj => ?_⟩
  · rw [show ss.length - 1 - 1 = ss.length - 2 from by omega]; rfl
  · exact ((Below.refl _ w).alloc (Nat.le_refl _) _).trans (hb.mono (by simp))
  · rw [Nat.add_comm 1 j]; exact hcell (j + 1) (by omega)
end Go.Proofs.YtdbempiompiioaaGreat.A37
namespace Go.Proofs.YtdbempiompiioaaGreat.A38
open Go.RowKit A1 A2 A3 A4 A5 A6 A7 A8 A9 A10 A11 A12 A13 A14 A15 A16 A17 A18 A19 A20 A21 A22 A23 A24 A25 A26 A27 A28 A29 A30 A31 A32 A33 A34

def nth (zs : List Int) (k : Nat) : Int := (zs.mergeSort (fun x y => decide (x ≤ y))).getD k 0
def midF (zs : List Int) : Int := (nth zs 1 + nth zs (zs.length - 2)) / 2
theorem nth_mem {zs : List Int} {k : Nat} (h : k < zs.length) : nth zs k ∈ zs := by
  have hl : (zs.mergeSort (fun x y => decide (x ≤ y))).length = zs.length := List.length_mergeSort _
  unfold nth
  rw [List.getD_eq_getElem?_getD, List.getElem?_eq_getElem (by omega)]
  exact (List.mergeSort_perm zs _).mem_iff.1 (List.getElem_mem _)
theorem intsI_of {w : World} {A : Option Addr} {C : Nat} {zs : List Int} (h : Ints w A zs) (hz : zs ≠ []) : A37.IntsI w.heap.size w (.slice A zs.length C) zs := by
  rcases h.cases with e | ⟨b, off, rfl, hb, hc⟩
  · exact absurd e hz
  · refine .inr ⟨b, off, C, rfl, hb, fun j hj => ?_⟩
    have := hc j hj
    rwa [List.getD_eq_getElem?_getD] at this
theorem mid_Few (A : Option Addr) (C : Nat) (zs : List Int) (w : World) (hl : zs.length < 4) :
    Calls Tryz.prog 115 #[.slice A zs.length C] w fun e w' => e = .returned (.tuple #[.int .i64 0, .bool false]) ∧ Below w.heap.size w w' := by
  generalize zs.length = n at *
  have d1 : decide (n < 4) = true := by simp; omega
  have d2 : decide ((n : Int) < 4) = true := by simp; omega
  clear hl
  go_enter Tryz.func115, Tryz.ntmps115
  go_wp2
  go_ret2
  exact ⟨rfl, (by repeat (first | exact Below.refl _ _ | refine Below.drew ?_ | refine below_drewN ?_ _ | refine Below.alloc ?_ (by simp; try omega) _))⟩
set_option maxRecDepth 100000 in
set_option maxHeartbeats 1000000 in
theorem mid_Mid (A : Option Addr) (C : Nat) (zs : List Int) (w : World) (hI : Ints w A zs) (hl : 4 ≤ zs.length) (hl2 : zs.length ≤ 1000) (hz : ∀ z ∈ zs, -1000000 ≤ z ∧ z ≤ 1000000) :
    Calls Tryz.prog 115 #[.slice A zs.length C] w fun e w' => e = .returned (.tuple #[.int .i64 (midF zs), .bool true]) ∧ Below w.heap.size w w' := by
  have HM := A37.mid_inner A C zs w (intsI_of hI (fun e => by rw [e] at hl; simp at hl)) hl2 (by omega)
  have b1 := hz _ (nth_mem (show 1 < zs.length by omega))
  have b2 := hz _ (nth_mem (show zs.length - 2 < zs.length by omega))
  replace HM := Lib.hid (HM.mono (R' := fun e w' => ∃ g cap, e = .returned (.slice (some ⟨g, 1, none⟩) (zs.length - 2) cap) ∧ Below w.heap.size w w' ∧ g < w'.heap.size ∧ w'.cell? ⟨g, 1, none⟩ = some (.int .i64 (nth zs 1)) ∧ w'.cell? ⟨g, 1 + (zs.length - 3), none⟩ = some (.int .i64 (nth zs (zs.length - 2)))) (by
    rintro e w1 ⟨g, cap, rfl, hb, hg, hc⟩
    refine ⟨g, cap, rfl, hb, hg, hc 0 (by omega), ?_⟩
    have := hc (zs.length - 3) (by omega)
    rw [show zs.length - 3 + 1 = zs.length - 2 from by omega] at this
    exact this))
  unfold midF
  obtain ⟨m, hm⟩ : ∃ m : Nat, zs.length = m + 4 := ⟨zs.length - 4, by omega⟩
  rw [hm] at HM b2 ⊢
  have hm2 : m + 4 - 2 = m + 2 := rfl
  have hm3 : m + 4 - 3 = m + 1 := rfl
  rw [hm3, hm2] at HM
  rw [hm2] at b2 ⊢
  generalize nth zs 1 = a at *
  generalize nth zs (m + 2) = b at *
  clear hI hz hm2 hm3
  have hm1 : m ≤ 1000 := by omega
  clear hl hl2 hm
  go_enter Tryz.func115, Tryz.ntmps115
  go_wp2_with fail
  refine HM.out.mono ?_
  rintro e w1 ⟨g, cap, rfl, hb, hg, c0, c1⟩
  have HB := Lib.hid hb
  clear HM hb
  go_wp2_with fail
  go_region
  all_goals
    go_wp2
    go_ret2
    exact ⟨rfl, HB.out.drew⟩
end Go.Proofs.YtdbempiompiioaaGreat.A38
namespace Go.Proofs.YtdbempiompiioaaGreat.A39
open Go.RowKit A1 A2 A3 A4 A5 A6 A7 A8 A9 A10 A11 A12 A13 A14 A15 A16 A17 A18 A19 A20 A21 A22 A23 A24 A25 A26 A27 A28 A29 A30 A31 A32 A33 A34 A38

structure Hd where
  node : Nat
  kind : Nat
  dev : Int
def Hd.none : Hd := ⟨0, 0, 0⟩
def Hds (w : World) (A : Option Addr) (l : List Hd) : Prop := ∀ k, k < l.length → ∃ b off, A = some ⟨b, off, Option.none⟩ ∧ b < w.heap.size ∧ w.cell? ⟨b, off + k * 3, Option.none⟩ = some (.int .i64 (l.getD k Hd.none).node) ∧ w.cell? ⟨b, off + k * 3 + 1, Option.none⟩ = some (.int .i64 (l.getD k Hd.none).kind) ∧ w.cell? ⟨b, off + k * 3 + 2, Option.none⟩ = some (.int .i64 (l.getD k Hd.none).dev)
theorem Hds.below {w w1 : World} {A : Option Addr} {l : List Hd} (h : Hds w A l) (hb : Below w.heap.size w w1) : Hds w1 A l := fun k hk => by
  obtain ⟨b, off, e, h1, h2, h3, h4⟩ := h k hk
  exact ⟨b, off, e, Nat.lt_of_lt_of_le h1 hb.size, (hb.cell (p := ⟨b, _, Option.none⟩) h1).trans h2, (hb.cell (p := ⟨b, _, Option.none⟩) h1).trans h3, (hb.cell (p := ⟨b, _, Option.none⟩) h1).trans h4⟩
theorem joins_below (node : Int) (LA : Option Addr) (LL LC : Nat) (a k d : Int) (w : World) :
    Calls Tryz.prog 117 #[.agg #[.int .i64 node, .slice LA LL LC], .agg #[.int .i64 a, .int .i64 k, .int .i64 d]] w fun e w' => e = .returned (.bool (decide (node < a))) ∧ Below w.heap.size w w' := by
  go_enter Tryz.func117, Tryz.ntmps117
  go_wp2
  go_ret
  exact ⟨rfl, (by repeat (first | exact Below.refl _ _ | refine Below.drew ?_ | refine below_drewN ?_ _ | refine Below.alloc ?_ (by simp; try omega) _))⟩
theorem begins_below (node : Int) (LA : Option Addr) (LL LC : Nat) (a k d : Int) (w : World) :
    Calls Tryz.prog 120 #[.agg #[.int .i64 node, .slice LA LL LC], .agg #[.int .i64 a, .int .i64 k, .int .i64 d]] w fun e w' => e = .returned (.bool (decide (node < a))) ∧ Below w.heap.size w w' := by
  go_enter Tryz.func120, Tryz.ntmps120
  go_wp2
  go_ret
  exact ⟨rfl, (by repeat (first | exact Below.refl _ _ | refine Below.drew ?_ | refine below_drewN ?_ _ | refine Below.alloc ?_ (by simp; try omega) _))⟩
theorem sync_never (a k d : Int) (w : World) :
    Calls Tryz.prog 119 #[.agg #[.int .i64 a, .int .i64 k, .int .i64 d]] w fun e w' => e = .returned (.bool false) ∧ Below w.heap.size w w' := by
  go_enter Tryz.func119, Tryz.ntmps119
  go_wp2
  go_ret
  exact ⟨rfl, (by repeat (first | exact Below.refl _ _ | refine Below.drew ?_ | refine below_drewN ?_ _ | refine Below.alloc ?_ (by simp; try omega) _))⟩
theorem chosen_is (a k d : Int) (w : World) :
    Calls Tryz.prog 158 #[.agg #[.int .i64 a, .int .i64 k, .int .i64 d]] w fun e w' => e = .returned (.bool (k == 3)) ∧ Below w.heap.size w w' := by
  go_enter Tryz.func158, Tryz.ntmps158
  go_wp2
  go_ret
  exact ⟨rfl, (by repeat (first | exact Below.refl _ _ | refine Below.drew ?_ | refine below_drewN ?_ _ | refine Below.alloc ?_ (by simp; try omega) _))⟩
set_option maxRecDepth 100000 in
set_option maxHeartbeats 1000000 in
theorem index_none (A : Option Addr) (l : List Hd) (C : Nat) (w : World) (hl : Hds w A l) (hlen : l.length ≤ 100) (hv : ∀ k, k < l.length → (l.getD k Hd.none).kind ≠ 3) :
    Calls Tryz.prog 157 #[.slice A l.length C, .func (Fn.func 158) #[] #[]] w fun e w' => e = .returned (.int .i64 (-1)) ∧ Below w.heap.size w w' := by
  have HL := Lib.hid hl
  have HV := Lib.hid hv
  clear hl hv
  go_enter Tryz.func157, Tryz.ntmps157
  go_wp2
  go_loopw [8] (fun t wr => ∃ k : Nat, k ≤ l.length ∧ t = .int .i64 k ∧ Below w.heap.size w wr) (fun t _ => l.length - (intOf t).toNat)
  case atStart => exact ⟨0, by omega, rfl, Below.refl _ _⟩
  case round =>
    obtain ⟨k, hk, rfl, hbr⟩ := hrel
    by_cases hlt : k < l.length
    · obtain ⟨eb, eo, rfl, hel, hc0, hc1, hc2⟩ := (HL.out.below hbr) k hlt
      have ho := HV.out k hlt
      generalize l.getD k Hd.none = it at *
      obtain ⟨i1, i2, i3⟩ := it
      have hq : ((i2 : Int) == 3) = false := beq_eq_false_iff_ne.mpr (by simp at ho; omega)
      have HC := Lib.hid (fun w => chosen_is i1 i2 i3 w)
      rw [hq] at HC
      have HB := Lib.hid hbr
      have lk0 : (0 : Int) ≤ (k : Int) := by omega
      have lk1 : (k : Int) < (l.length : Int) := by omega
      clear hbr ho hq
      go_wp2_with fail
      refine (HC.out _).mono ?_
      rintro e w1 ⟨rfl, hb1⟩
      go_wp2
      go_roundw
      case rel => exact ⟨k + 1, by omega, by go_num, HB.out.trans (hb1.mono HB.out.size)⟩
      case measure => simp [intOf]; omega
    · go_wp2
      go_ret
      exact ⟨rfl, hbr⟩
def chosenF (l : List Hd) (ahead : Nat → Bool) : Int := match l with | [] => 0 | h :: _ => if ahead h.node then 0 else h.dev
set_option maxRecDepth 100000 in
theorem chosen_nil (fv : Value) (A : Option Addr) (C : Nat) (w : World) :
    Calls Tryz.prog 118 #[.slice A 0 C, fv] w fun e w' => e = .returned (.int .i64 0) ∧ Below w.heap.size w w' := by
  have HI := Lib.hid (index_none A [] C w (fun k hk => absurd hk (by simp)) (by simp) (fun k hk => absurd hk (by simp)))
  simp only [List.length_nil] at HI
  go_enter Tryz.func118, Tryz.ntmps118
  go_wp2_with fail
  refine HI.out.mono ?_
  rintro e w1 ⟨rfl, hb1⟩
  go_wp2
  go_ret
  exact ⟨rfl, hb1⟩
set_option maxRecDepth 100000 in
theorem chosen_joins (node : Nat) (x : Option Addr) (y z : Nat) (A : Option Addr) (h : Hd) (r : List Hd) (C : Nat) (w : World) (hl : Hds w A (h :: r)) (hlen : (h :: r).length ≤ 100) (hv : ∀ k, k < (h :: r).length → ((h :: r).getD k Hd.none).kind ≠ 3) :
    Calls Tryz.prog 118 #[.slice A (r.length + 1) C, .func (.func 117) #[.agg #[.int .i64 node, .slice x y z]] #[]] w fun e w' => e = .returned (.int .i64 (if decide (node < h.node) then 0 else h.dev)) ∧ Below w.heap.size w w' := by
  have HI := Lib.hid (index_none A (h :: r) C w hl hlen hv)
  obtain ⟨eb, eo, rfl, hel, hc0, hc1, hc2⟩ := hl 0 (by simp)
  simp only [List.getD_cons_zero, Nat.zero_mul, Nat.add_zero] at hc0 hc1 hc2
  obtain ⟨i1, i2, i3⟩ := h
  simp only [List.length_cons] at HI hlen
  clear hl hv
  generalize r.length = n at *
  have hz1 : ((n : Int) + 1 == 0) = false := beq_eq_false_iff_ne.mpr (by omega)
  have hz2 : (0 : Int) < (n : Int) + 1 := by omega
  have HJ := Lib.hid (fun w => joins_below node x y z i1 i2 i3 w)
  obtain ⟨q, hd, hd2⟩ : ∃ q, decide ((node : Int) < (i1 : Int)) = q ∧ decide (node < i1) = q := ⟨decide (node < i1), by simp, rfl⟩
  rw [hd] at HJ
  dsimp only at hc0 hc1 hc2 ⊢
  rw [hd2]
  clear hd hd2
  cases q
  all_goals
    go_enter Tryz.func118, Tryz.ntmps118
    go_wp2_with fail
    refine HI.out.mono ?_
    rintro e w1 ⟨rfl, hb1⟩
    have c0 := keep_of hc0 hel hb1
    have c1 := keep_of hc1 hel hb1
    have c2 := keep_of hc2 hel hb1
    have HB := Lib.hid hb1
    have hz := hb1.size
    have hel1 : eb < w1.heap.size := by omega
    clear hc0 hc1 hc2 hb1 HI
    go_wp2_with fail
    refine (HJ.out _).mono ?_
    rintro e w2 ⟨rfl, hb2⟩
    have d2 := keep_of c2 hel1 hb2
    have HB2 := Lib.hid (HB.out.trans (hb2.mono hz))
    clear HJ hb2
    go_wp2
    go_ret
    exact ⟨rfl, HB2.out⟩
set_option maxRecDepth 100000 in
theorem chosen_begins (node : Nat) (x : Option Addr) (y z : Nat) (A : Option Addr) (h : Hd) (r : List Hd) (C : Nat) (w : World) (hl : Hds w A (h :: r)) (hlen : (h :: r).length ≤ 100) (hv : ∀ k, k < (h :: r).length → ((h :: r).getD k Hd.none).kind ≠ 3) :
    Calls Tryz.prog 118 #[.slice A (r.length + 1) C, .func (.func 120) #[.agg #[.int .i64 node, .slice x y z]] #[]] w fun e w' => e = .returned (.int .i64 (if decide (node < h.node) then 0 else h.dev)) ∧ Below w.heap.size w w' := by
  have HI := Lib.hid (index_none A (h :: r) C w hl hlen hv)
  obtain ⟨eb, eo, rfl, hel, hc0, hc1, hc2⟩ := hl 0 (by simp)
  simp only [List.getD_cons_zero, Nat.zero_mul, Nat.add_zero] at hc0 hc1 hc2
  obtain ⟨i1, i2, i3⟩ := h
  simp only [List.length_cons] at HI hlen
  clear hl hv
  generalize r.length = n at *
  have hz1 : ((n : Int) + 1 == 0) = false := beq_eq_false_iff_ne.mpr (by omega)
  have hz2 : (0 : Int) < (n : Int) + 1 := by omega
  have HJ := Lib.hid (fun w => begins_below node x y z i1 i2 i3 w)
  obtain ⟨q, hd, hd2⟩ : ∃ q, decide ((node : Int) < (i1 : Int)) = q ∧ decide (node < i1) = q := ⟨decide (node < i1), by simp, rfl⟩
  rw [hd] at HJ
  dsimp only at hc0 hc1 hc2 ⊢
  rw [hd2]
  clear hd hd2
  cases q
  all_goals
    go_enter Tryz.func118, Tryz.ntmps118
    go_wp2_with fail
    refine HI.out.mono ?_
    rintro e w1 ⟨rfl, hb1⟩
    have c0 := keep_of hc0 hel hb1
    have c1 := keep_of hc1 hel hb1
    have c2 := keep_of hc2 hel hb1
    have HB := Lib.hid hb1
    have hz := hb1.size
    have hel1 : eb < w1.heap.size := by omega
    clear hc0 hc1 hc2 hb1 HI
    go_wp2_with fail
    refine (HJ.out _).mono ?_
    rintro e w2 ⟨rfl, hb2⟩
    have d2 := keep_of c2 hel1 hb2
    have HB2 := Lib.hid (HB.out.trans (hb2.mono hz))
    clear HJ hb2
    go_wp2
    go_ret
    exact ⟨rfl, HB2.out⟩
set_option maxRecDepth 100000 in
theorem chosen_never (A : Option Addr) (h : Hd) (r : List Hd) (C : Nat) (w : World) (hl : Hds w A (h :: r)) (hlen : (h :: r).length ≤ 100) (hv : ∀ k, k < (h :: r).length → ((h :: r).getD k Hd.none).kind ≠ 3) :
    Calls Tryz.prog 118 #[.slice A (r.length + 1) C, .func (.func 119) #[] #[]] w fun e w' => e = .returned (.int .i64 (h.dev)) ∧ Below w.heap.size w w' := by
  have HI := Lib.hid (index_none A (h :: r) C w hl hlen hv)
  obtain ⟨eb, eo, rfl, hel, hc0, hc1, hc2⟩ := hl 0 (by simp)
  simp only [List.getD_cons_zero, Nat.zero_mul, Nat.add_zero] at hc0 hc1 hc2
  obtain ⟨i1, i2, i3⟩ := h
  simp only [List.length_cons] at HI hlen
  clear hl hv
  generalize r.length = n at *
  have hz1 : ((n : Int) + 1 == 0) = false := beq_eq_false_iff_ne.mpr (by omega)
  have hz2 : (0 : Int) < (n : Int) + 1 := by omega
  have HJ := Lib.hid (fun w => sync_never i1 i2 i3 w)
  dsimp only at hc0 hc1 hc2 ⊢
  all_goals
    go_enter Tryz.func118, Tryz.ntmps118
    go_wp2_with fail
    refine HI.out.mono ?_
    rintro e w1 ⟨rfl, hb1⟩
    have c0 := keep_of hc0 hel hb1
    have c1 := keep_of hc1 hel hb1
    have c2 := keep_of hc2 hel hb1
    have HB := Lib.hid hb1
    have hz := hb1.size
    have hel1 : eb < w1.heap.size := by omega
    clear hc0 hc1 hc2 hb1 HI
    go_wp2_with fail
    refine (HJ.out _).mono ?_
    rintro e w2 ⟨rfl, hb2⟩
    have d2 := keep_of c2 hel1 hb2
    have HB2 := Lib.hid (HB.out.trans (hb2.mono hz))
    clear HJ hb2
    go_wp2
    go_ret
    exact ⟨rfl, HB2.out⟩
end Go.Proofs.YtdbempiompiioaaGreat.A39
