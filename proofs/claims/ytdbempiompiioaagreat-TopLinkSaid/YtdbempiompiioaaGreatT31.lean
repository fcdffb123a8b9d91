/- The course of a network whose nodes find one another: what holds ahead of each round, and that each round goes well. The course of a network whose nodes are active: each round goes well, and what one sent is delivered by all. Conditions: the bounds stated in each theorem. -/
import Derived.Test.YtdbempiompiioaaGreatT30
set_option linter.unusedVariables false
set_option linter.unusedSimpArgs false
namespace Go.Proofs.YtdbempiompiioaaGreat.B4
open Go.RowKit A8 A9 A22 A25 A33 A36 A38 A39 A40 A41 A44 A45 A47 A48 A50 A51 A54 A55 A56 A57 A62 A65 B1 B2 B3

structure Play (c : NC) (T F : Nat) (v : Nat → Nat) : Prop where
  ok : NOk c
  on : ∀ i, i < c.N → 0 ≤ c.on.getD i 0 ∧ c.on.getD i 0 ≤ 3
  t1 : ∀ i, i < c.N → (T : Int) ≤ c.on.getD i 0 + c.N + i
  t2 : ∃ i, i < c.N ∧ (T : Int) = c.on.getD i 0 + c.N + i
  cl : ∀ k, k < c.cl.length → c.cl.getD k ⟨0, 0, 0, 0⟩ = ⟨F, k, 0, v k⟩
  cn : c.cl.length = c.N ∨ c.rounds ≤ F
  cm : c.cl.length ≤ c.N
  v : ∀ k, k < c.N → v k ≤ 255
  f : T + 3 ≤ F
def payF (F : Nat) (v : Nat → Nat) (r s : Nat) : Nat × Nat := if r = F then (2, v s) else (1, 0)
structure Inv (c : NC) (T F : Nat) (v : Nat → Nat) (r : Nat) (st tm was : Nat → Nat) (ck : Nat → Int) (q : Nat → Nat → Option Nat) (g : Nat → Option (List (Nat × Nat))) (n : Nat → Nat) (xs : Nat → List Value) : Prop where
  hck : ∀ i, i < c.N → -(40 * (r : Int)) ≤ ck i ∧ ck i ≤ 40 * r
  htm : ∀ i, i < c.N → tm i ≤ r
  hq : ∀ i, i < c.N → ∀ s, q i s = none
  hg : ∀ i, i < c.N → ∀ l, g i = some l → l.length = c.N + c.ps.length ∧ ∀ k, k < c.N + c.ps.length → okI (l.getD k (0, 0))
  hn : ∀ i, i < c.N → n i ≤ 9 * r
  xl : ∀ i, i < c.N → (xs i).length = n i * 4
  x1 : ∀ i, i < c.N → ∀ u ∈ xs i, ∃ z, u = .int .i64 z
  x0 : r ≤ T + 3 → ∀ i, i < c.N → xs i = []
  w0 : r ≤ T + 2 → ∀ i, i < c.N → was i ≠ 4
  p1 : r ≤ T → ∀ i, i < c.N → st i = (if (r : Int) ≤ c.on.getD i 0 then 0 else if (r : Int) = c.on.getD i 0 + c.N + i then 2 else 1) ∧ (st i = 1 → (tm i : Int) = r - c.on.getD i 0)
  p2 : r = T + 1 → ∀ i, i < c.N → st i = 3
  p3 : T + 2 ≤ r → (∀ i, i < c.N → st i = 4) ∧ ∀ i j, i < c.N → j < c.N → ck i - ck j ≤ 2 * c.Er
  p4 : T + 3 ≤ r → ∀ i, i < c.N → was i = 4 ∧ ∃ l, g i = some l ∧ ∀ s, s < c.N → s ≠ i → l.getD s (0, 0) = payF F v (r - 1) s
  p5 : T + 4 ≤ r → ∀ i, i < c.N → (∃ f post, xs i = lineCells ((T : Int) + 2) f (c.N + c.ps.length) ++ post ∧ ∀ s, s < c.N → f s = (((payF F v (T + 2) s).1 : Int), ((payF F v (T + 2) s).2 : Int))) ∧
    ∃ pre f, xs i = pre ++ lineCells ((r : Int) - 2) f (c.N + c.ps.length) ∧ ∀ s, s < c.N → f s = (((payF F v (r - 2) s).1 : Int), ((payF F v (r - 2) s).2 : Int))
theorem Inv.begin {c : NC} {T F : Nat} {v : Nat → Nat} (P : Play c T F v) : Inv c T F v 0 (fun _ => 0) (fun _ => 0) (fun _ => 0) (fun _ => 0) (fun _ _ => none) (fun _ => none) (fun _ => 0) (fun _ => []) :=
  ⟨fun i hi => by simp, fun i hi => Nat.le_refl _, fun i hi s => rfl, (fun i hi l h => by cases h), fun i hi => by omega, fun i hi => rfl, (fun i hi u h => by cases h), fun _ i hi => rfl, fun _ i hi => by omega,
    fun _ i hi => ⟨by have := (P.on i hi).1; rw [if_pos (by omega)], fun h => by omega⟩, fun h => by omega, fun h => by omega, fun h => by omega, fun h => by omega⟩
theorem lineCells_int (r : Int) (f : Nat → Int × Int) : ∀ n, ∀ u ∈ lineCells r f n, ∃ z, u = .int .i64 z
  | 0, u, h => by cases h
  | n + 1, u, h => by
    unfold lineCells at h
    rw [List.mem_append] at h
    rcases h with h | h
    · exact lineCells_int r f n u h
    · simp only [List.mem_cons, List.not_mem_nil, or_false] at h
      rcases h with rfl | rfl | rfl | rfl <;> exact ⟨_, rfl⟩
theorem stNext_tm (N i st tm h : Nat) : (stNext N i st tm h).2 ≤ tm + 1 := by
  unfold stNext
  split
  · split
    · simp
    · split <;> simp
  · split
    · simp
    · split
      · split
        · simp
        · split <;> simp
      · split
        · split <;> simp
        · simp
theorem Play.ck {c : NC} {T F : Nat} {v : Nat → Nat} (P : Play c T F v) {r : Nat} {st : Nat → Nat} {ck : Nat → Int} (h : ∀ i, i < c.N → -(40 * (r : Int)) ≤ ck i ∧ ck i ≤ 40 * r) : ∀ i, i < c.N → (-(40 * (r : Int)) - 20 ≤ ckF c r st ck i ∧ ckF c r st ck i ≤ 40 * r + 20) := fun i hi => by
  have h0 := h i hi
  have hp := pickN_le c.dr (11 * r + i) c.G P.ok.cf.g0
  have := P.ok.cf.g1
  unfold ckF
  split <;> omega
theorem com {c : NC} {T F : Nat} {v : Nat → Nat} {r : Nat} {st tm was : Nat → Nat} {ck : Nat → Int} {q : Nat → Nat → Option Nat} {g : Nat → Option (List (Nat × Nat))} {n : Nat → Nat} {xs : Nat → List Value} {fo : Nat → Option Fr} {d : Nat → Int}
    (P : Play c T F v) (I : Inv c T F v r st tm was ck q g n xs) (K : StepOk c r st tm was ck q g n fo d) :
    (∀ i, i < c.N → (nxN c r st tm was ck g n xs fo d).tm i ≤ r + 1) ∧
    (∀ i, i < c.N → ∀ l, (nxN c r st tm was ck g n xs fo d).g i = some l → l.length = c.N + c.ps.length ∧ ∀ k, k < c.N + c.ps.length → okI (l.getD k (0, 0))) ∧
    (∀ i, i < c.N → (nxN c r st tm was ck g n xs fo d).n i ≤ 9 * (r + 1)) ∧
    (∀ i, i < c.N → ((nxN c r st tm was ck g n xs fo d).xs i).length = (nxN c r st tm was ck g n xs fo d).n i * 4) ∧
    (∀ i, i < c.N → ∀ u ∈ (nxN c r st tm was ck g n xs fo d).xs i, ∃ z, u = .int .i64 z) := by
  have n1 := P.ok.cf.n1
  have l1 := P.ok.cf.len
  refine ⟨fun i hi => ?_, fun i hi l h => ?_, fun i hi => ?_, fun i hi => ?_, fun i hi u hu => ?_⟩
  · have h0 := I.htm i hi
    have h1 : tmF c r tm i ≤ r := by unfold tmF; split <;> omega
    have h2 := stNext_tm c.N i (stF c r st i) (tmF c r tm i) (hdN c r st ck fo i).length
    show (if stF c r st i = 0 then tmF c r tm i else _) ≤ _
    split <;> omega
  · change (if stF c r st i = 0 then g i else some _) = some l at h
    split at h
    · exact I.hg i hi l h
    · injection h with h
      subst h
      exact ⟨gotE_length _ _ _, fun k hk => by rw [gotE_at _ _ _ _ hk]; exact okI_item (fun f hf => (K.ok k hk f (tkN_ok hf)).1)⟩
  · have h0 := I.hn i hi
    have e : (nxN c r st tm was ck g n xs fo d).n i = if stF c r st i = 4 ∧ was i = 4 then n i + (c.N + c.ps.length) else n i := rfl
    rw [e]
    split <;> omega
  · have h0 := I.xl i hi
    by_cases e : stF c r st i = 4 ∧ was i = 4
    · have e1 : (nxN c r st tm was ck g n xs fo d).n i = n i + (c.N + c.ps.length) := if_pos e
      have e2 : (nxN c r st tm was ck g n xs fo d).xs i = xs i ++ _ := if_pos e
      rw [e1, e2, List.length_append, lineCells_length, h0]; omega
    · have e1 : (nxN c r st tm was ck g n xs fo d).n i = n i := if_neg e
      have e2 : (nxN c r st tm was ck g n xs fo d).xs i = xs i := if_neg e
      rw [e1, e2]; exact h0
  · change u ∈ (if _ then xs i ++ _ else xs i) at hu
    split at hu
    · rw [List.mem_append] at hu
      rcases hu with hu | hu
      · exact I.x1 i hi u hu
      · exact lineCells_int _ _ _ u hu
    · exact I.x1 i hi u hu
theorem on_far {c : NC} {T F : Nat} {v : Nat → Nat} (P : Play c T F v) {r i : Nat} (hi : i < c.N) (h : T ≤ r) : c.on.getD i 0 ≠ (r : Int) ∧ c.on.getD i 0 < (r : Int) := by
  have h1 := P.on i hi
  obtain ⟨j, hj, e⟩ := P.t2
  have h2 := P.on j hj
  have h3 := P.ok.cf.n0
  omega
theorem no_calls {c : NC} {T F : Nat} {v : Nat → Nat} (P : Play c T F v) {r : Nat} (h : r ≠ F) : ∀ k, k < c.cl.length → (c.cl.getD k ⟨0, 0, 0, 0⟩).round ≠ r := fun k hk e => by
  rw [P.cl k hk] at e
  exact h e.symm
theorem Inv.silent {c : NC} {T F : Nat} {v : Nat → Nat} {r : Nat} {st tm was : Nat → Nat} {ck : Nat → Int} {q : Nat → Nat → Option Nat} {g : Nat → Option (List (Nat × Nat))} {n : Nat → Nat} {xs : Nat → List Value}
    (P : Play c T F v) (I : Inv c T F v r st tm was ck q g n xs) (hr : r < T) (lt : (r : Int) < c.rounds) :
    StepOk c r st tm was ck q g n (fun _ => none) (fun _ => 0) ∧ Inv c T F v (r + 1) (nxN c r st tm was ck g n xs (fun _ => none) (fun _ => 0)).st (nxN c r st tm was ck g n xs (fun _ => none) (fun _ => 0)).tm (nxN c r st tm was ck g n xs (fun _ => none) (fun _ => 0)).was (nxN c r st tm was ck g n xs (fun _ => none) (fun _ => 0)).ck (qN c r st q (c.N + c.ps.length)) (nxN c r st tm was ck g n xs (fun _ => none) (fun _ => 0)).g (nxN c r st tm was ck g n xs (fun _ => none) (fun _ => 0)).n (nxN c r st tm was ck g n xs (fun _ => none) (fun _ => 0)).xs := by
  have rb := P.ok.rounds1
  have hck := P.ck (st := st) I.hck
  have h1 : ∀ i, i < c.N → (stF c r st i = 0 ∧ (r : Int) < c.on.getD i 0) ∨ (stF c r st i = 1 ∧ c.on.getD i 0 ≤ (r : Int) ∧ (tmF c r tm i : Int) = r - c.on.getD i 0) := fun i hi => by
    obtain ⟨h, h'⟩ := I.p1 (by omega) i hi
    have := P.t1 i hi
    unfold stF tmF
    by_cases e : c.on.getD i 0 = (r : Int)
    · rw [if_pos e, if_pos e]; exact .inr ⟨rfl, by omega, by omega⟩
    · rw [if_neg e, if_neg e]
      by_cases e2 : (r : Int) ≤ c.on.getD i 0
      · rw [if_pos e2] at h; exact .inl ⟨h, by omega⟩
      · rw [if_neg e2, if_neg (by omega)] at h; exact .inr ⟨h, by omega, h' h⟩
  have h01 : ∀ i, i < c.N → stF c r st i = 0 ∨ stF c r st i = 1 := fun i hi => (h1 i hi).imp (·.1) (·.1)
  have hcl := no_calls P (r := r) (by have := P.f; omega)
  have K := step_silent (ck := ck) (tm := tm) (was := was) (q := q) (g := g) (n := n) lt (fun i hi => by have := I.hck i hi; omega) (fun i hi => by have := hck i hi; omega) h01 (fun i hi => by have := I.htm i hi; unfold tmF; split <;> omega) hcl
  obtain ⟨c1, c2, c3, c4, c5⟩ := com P I K
  refine ⟨K, ⟨fun i hi => ?_, c1, fun i hi s => ?_, c2, c3, c4, c5, fun h i hi => ?_, fun h i hi => ?_, fun h i hi => ?_, fun h => by omega, fun h => by omega, fun h => by omega, fun h => by omega⟩⟩
  · rw [(nx_silent i (h01 i hi)).2.2.1]
    have := hck i hi
    omega
  · unfold qN
    rw [qK_other hcl _ (Nat.le_refl _), qS_idle (by rcases h01 i hi with e | e <;> omega)]
    exact I.hq i hi s
  · rw [(nx_silent i (h01 i hi)).2.2.2.2]
    exact I.x0 (by omega) i hi
  · show (if stF c r st i = 0 then 0 else stF c r st i) ≠ 4
    rcases h01 i hi with e | e <;> rw [e] <;> decide
  · obtain ⟨s1, s2, _⟩ := nx_silent (tm := tm) (was := was) (ck := ck) (g := g) (n := n) (xs := xs) i (h01 i hi)
    rw [s1, s2]
    have := P.t1 i hi
    rcases h1 i hi with ⟨e, e2⟩ | ⟨e, e2, e3⟩
    · have e5 : ((r + 1 : Nat) : Int) ≤ c.on.getD i 0 := by omega
      simp only [if_pos e, if_pos e5]
      exact ⟨trivial, fun h => by omega⟩
    · have n0 : ¬ stF c r st i = 0 := by omega
      have e5 : ¬ ((r + 1 : Nat) : Int) ≤ c.on.getD i 0 := by omega
      simp only [if_neg n0, if_neg e5]
      by_cases e4 : c.N + i ≤ tmF c r tm i + 1
      · have e6 : ((r + 1 : Nat) : Int) = c.on.getD i 0 + c.N + i := by omega
        simp only [if_pos e4, if_pos e6]
        exact ⟨trivial, fun h => by omega⟩
      · have e6 : ¬ ((r + 1 : Nat) : Int) = c.on.getD i 0 + c.N + i := by omega
        simp only [if_neg e4, if_neg e6]
        exact ⟨trivial, fun h => by omega⟩
def callF (c : NC) (r : Nat) (st : Nat → Nat) (s : Nat) : Option Fr := if s < c.N ∧ (stF c r st s = 2 ∨ stF c r st s = 3) then some ⟨sendsF (stF c r st s), ((c.Fi + r) % 65536).toNat, s, 0, 0, []⟩ else none
def callD (c : NC) (r : Nat) (st : Nat → Nat) (ck : Nat → Int) (i : Nat) : Int := chosenF (hdN c r st ck (callF c r st) i) (fun k => stF c r st i != 1 && decide (i < k))
theorem callF_some {c : NC} {r : Nat} {st : Nat → Nat} {s : Nat} {f : Fr} (h : callF c r st s = some f) : s < c.N ∧ (stF c r st s = 2 ∨ stF c r st s = 3) ∧ f = ⟨sendsF (stF c r st s), ((c.Fi + r) % 65536).toNat, s, 0, 0, []⟩ := by
  unfold callF at h
  split at h
  · next e => injection h with h; exact ⟨e.1, e.2, h.symm⟩
  · cases h
theorem sends_23 {s : Nat} (h : s = 2 ∨ s = 3) : 1 ≤ sendsF s ∧ sendsF s ≤ 2 := by rcases h with rfl | rfl <;> decide
theorem chosen_or (l : List Hd) (a : Nat → Bool) : chosenF l a = 0 ∨ ∃ x ∈ l, chosenF l a = x.dev := by
  cases l with
  | nil => exact .inl rfl
  | cons x r =>
    unfold chosenF
    by_cases e : a x.node = true
    · exact .inl (if_pos e)
    · exact .inr ⟨x, List.mem_cons_self .., if_neg e⟩
theorem callD_or (c : NC) (r : Nat) (st : Nat → Nat) (ck : Nat → Int) (i : Nat) : callD c r st ck i = 0 ∨ ∃ k, k < c.N ∧ callD c r st ck i = devF c r (ckF c r st ck) k i := by
  rcases chosen_or (hdN c r st ck (callF c r st) i) (fun k => stF c r st i != 1 && decide (i < k)) with h | ⟨x, hx, h⟩
  · exact .inl h
  · obtain ⟨k, f, h1, h2, h3⟩ := hdK_mem hx
    exact .inr ⟨k, h1, h.trans (by rw [h3])⟩
theorem dev_is (c : NC) (h : 0 ≤ c.Er) (r : Nat) (ck : Nat → Int) (o i : Nat) : ∃ p, -c.Er ≤ p ∧ p ≤ c.Er ∧ devF c r ck o i = ck o - ck i + p := by
  have := pickN_le c.er (7 * r + 3 * o + i) c.Er h
  exact ⟨_, this.1, this.2, rfl⟩
theorem step_call {c : NC} {T F : Nat} {v : Nat → Nat} {r : Nat} {st tm was : Nat → Nat} {ck : Nat → Int} {q : Nat → Nat → Option Nat} {g : Nat → Option (List (Nat × Nat))} {n : Nat → Nat} {xs : Nat → List Value}
    (P : Play c T F v) (I : Inv c T F v r st tm was ck q g n xs) (hr : r ≤ T + 1) (lt : (r : Int) < c.rounds) (h : ∀ i, i < c.N → stF c r st i = 1 ∨ stF c r st i = 2 ∨ stF c r st i = 3) :
    StepOk c r st tm was ck q g n (callF c r st) (callD c r st ck) := by
  have rb := P.ok.rounds1
  have hck := P.ck (st := st) I.hck
  have hE := P.ok.cf.e1
  have n1 := P.ok.cf.n1
  refine ⟨lt, fun i hi => by have := I.hck i hi; omega, fun i hi => by have := hck i hi; omega, fun i hi => by have := h i hi; omega, fun i hi => by have := I.htm i hi; unfold tmF; split <;> omega,
    fun k hk e => absurd e (no_calls P (by have := P.f; omega) k hk), fun s hs i hi ho => ?_, fun s hs f hf => ?_, fun s hs e => ?_, fun s hs hf => ⟨fun i hi => by have := h i hi; omega, fun o ho _ i hi => .inl (by have := h i hi; omega)⟩, fun i hi h0 => ?_, fun i hi => ?_, fun i hi h4 => by have := h i hi; omega⟩
  · by_cases e : s < c.N
    · rw [own_node e] at ho
      have : i = s := by simpa using ho
      subst this
      unfold frameF callF
      rcases h i hi with e2 | e2 | e2 <;> simp [e2, e]
    · rw [show callF c r st s = none from if_neg (fun x => e x.1)]
      unfold frameF
      rcases h i hi with e2 | e2 | e2 <;> simp [e2, e]
  · obtain ⟨h1, h2, rfl⟩ := callF_some hf
    have h3 := sends_23 h2
    refine ⟨⟨h3.1, show sendsF _ ≤ 3 by omega, wire_le c r, hs, fun e => absurd h1 (by have : c.N ≤ s := e; omega), .inl ⟨rfl, rfl⟩, fun e => absurd (show sendsF _ = 3 from e) (by omega), fun _ => rfl, ?_, fun k hk => absurd hk (by simp)⟩, rfl, rfl⟩
    rw [if_neg (fun e => by have : sendsF _ = 3 := e.1; omega)]; rfl
  · unfold callF
    rw [if_neg (fun x => ?_)]
    rw [owners_node (by have := x.1; omega)] at e
    cases e
  · refine sync_no (h i hi) ?_ (kinds_of (p := fun k => k ≠ 3) fun k f hk hf => ?_)
    · have := hdK_le (fun k => tkN c r st (callF c r st) k i) (fun k => devF c r (ckF c r st ck) k i) c.N
      unfold hdN; omega
    · obtain ⟨_, h2, rfl⟩ := callF_some (tkN_ok hf)
      have h3 := sends_23 h2
      simp only; omega
  · rcases callD_or c r st ck i with e | ⟨k, hk, e⟩
    · rw [e]; omega
    · obtain ⟨p, p1, p2, e2⟩ := dev_is c P.ok.cf.e0 r (ckF c r st ck) k i
      have := hck i hi
      have := hck k hk
      rw [e, e2]; omega
theorem hdK_in {tk : Nat → Option Fr} {dv : Nat → Int} {k : Nat} {f : Fr} (h : tk k = some f) : ∀ n, k < n → 0 < (hdK tk dv n).length
  | 0, hk => absurd hk (by omega)
  | n + 1, hk => by
    unfold hdK
    by_cases e : k = n
    · subst e; rw [h]; simp
    · have := hdK_in (dv := dv) h n (by omega)
      split
      · exact this
      · rw [List.length_append]; omega
theorem Inv.first {c : NC} {T F : Nat} {v : Nat → Nat} {r : Nat} {st tm was : Nat → Nat} {ck : Nat → Int} {q : Nat → Nat → Option Nat} {g : Nat → Option (List (Nat × Nat))} {n : Nat → Nat} {xs : Nat → List Value}
    (P : Play c T F v) (I : Inv c T F v r st tm was ck q g n xs) (hr : r = T ∨ r = T + 1) (lt : (r : Int) < c.rounds) :
    StepOk c r st tm was ck q g n (callF c r st) (callD c r st ck) ∧ Inv c T F v (r + 1) (nxN c r st tm was ck g n xs (callF c r st) (callD c r st ck)).st (nxN c r st tm was ck g n xs (callF c r st) (callD c r st ck)).tm (nxN c r st tm was ck g n xs (callF c r st) (callD c r st ck)).was (nxN c r st tm was ck g n xs (callF c r st) (callD c r st ck)).ck (qN c r st q (c.N + c.ps.length)) (nxN c r st tm was ck g n xs (callF c r st) (callD c r st ck)).g (nxN c r st tm was ck g n xs (callF c r st) (callD c r st ck)).n (nxN c r st tm was ck g n xs (callF c r st) (callD c r st ck)).xs := by
  have rb := P.ok.rounds1
  have hck := P.ck (st := st) I.hck
  have hE := P.ok.cf.e1
  have hE0 := P.ok.cf.e0
  have n0 := P.ok.cf.n0
  have n1 := P.ok.cf.n1
  have hon : ∀ i, i < c.N → c.on.getD i 0 ≠ (r : Int) ∧ c.on.getD i 0 < (r : Int) := fun i hi => on_far P hi (by omega)
  have hs : ∀ i, i < c.N → stF c r st i = st i := fun i hi => by unfold stF; rw [if_neg (hon i hi).1]
  have h : ∀ i, i < c.N → (r = T ∧ (stF c r st i = 1 ∨ stF c r st i = 2)) ∨ (r = T + 1 ∧ stF c r st i = 3) := fun i hi => by
    rw [hs i hi]
    rcases hr with e | e
    · obtain ⟨h1, _⟩ := I.p1 (by omega) i hi
      have := hon i hi
      rw [if_neg (by omega)] at h1
      refine .inl ⟨e, ?_⟩
      split at h1
      · exact .inr h1
      · exact .inl h1
    · exact .inr ⟨e, I.p2 e i hi⟩
  have h123 : ∀ i, i < c.N → stF c r st i = 1 ∨ stF c r st i = 2 ∨ stF c r st i = 3 := fun i hi => by have := h i hi; omega
  have h0 : ∀ i, i < c.N → stF c r st i ≠ 0 := fun i hi => by have := h i hi; omega
  have hcl := no_calls P (r := r) (by have := P.f; omega)
  have K := step_call P I (by omega) lt h123
  obtain ⟨c1, c2, c3, c4, c5⟩ := com P I K
  have hx : ∀ i, i < c.N → ¬ (stF c r st i = 4 ∧ was i = 4) := fun i hi e => by have := h i hi; omega
  have hck' : ∀ i, i < c.N → (nxN c r st tm was ck g n xs (callF c r st) (callD c r st ck)).ck i = ckF c r st ck i + callD c r st ck i := fun i hi => if_neg (h0 i hi)
  refine ⟨K, ⟨fun i hi => ?_, c1, fun i hi s => ?_, c2, c3, c4, c5, fun h' i hi => ?_, fun h' i hi => ?_, fun h' => by omega, fun h' i hi => ?_, fun h' => ⟨fun i hi => ?_, ?_⟩, fun h' => by omega, fun h' => by omega⟩⟩
  · rw [hck' i hi]
    have := hck i hi
    rcases callD_or c r st ck i with e | ⟨k, hk, e⟩
    · rw [e]; omega
    · obtain ⟨p, p1, p2, e2⟩ := dev_is c hE0 r (ckF c r st ck) k i
      have := hck k hk
      rw [e, e2]; omega
  · unfold qN
    rw [qK_other hcl _ (Nat.le_refl _), qS_idle (by have := h i hi; omega)]
    exact I.hq i hi s
  · show (if stF c r st i = 4 ∧ was i = 4 then _ else xs i) = []
    rw [if_neg (hx i hi)]
    exact I.x0 (by omega) i hi
  · show (if stF c r st i = 0 then 0 else stF c r st i) ≠ 4
    rw [if_neg (h0 i hi)]
    have := h i hi; omega
  · show (if stF c r st i = 0 then 0 else (stNext c.N i (stF c r st i) (tmF c r tm i) (hdN c r st ck (callF c r st) i).length).1) = 3
    rw [if_neg (h0 i hi)]
    rcases h i hi with ⟨e, e1 | e1⟩ | ⟨e, e1⟩
    · obtain ⟨j, hj, ej⟩ := P.t2
      have sj : stF c r st j = 2 := by
        rw [hs j hj, (I.p1 (by omega) j hj).1, if_neg (by have := hon j hj; omega), if_pos (by omega)]
      have hp : 0 < (hdN c r st ck (callF c r st) i).length := by
        rw [hdN_all h0 hi]
        refine hdK_in (k := j) (f := ⟨sendsF (stF c r st j), ((c.Fi + r) % 65536).toNat, j, 0, 0, []⟩) ?_ _ hj
        show (if j = i then none else callF c r st j) = _
        rw [if_neg (fun x => by subst x; omega)]
        unfold callF
        rw [if_pos ⟨hj, .inl sj⟩]
      simp [stNext, e1, hp]
    · simp [stNext, e1]
    · omega
  · show (if stF c r st i = 0 then 0 else (stNext c.N i (stF c r st i) (tmF c r tm i) (hdN c r st ck (callF c r st) i).length).1) = 4
    rw [if_neg (h0 i hi)]
    have e1 : stF c r st i = 3 := by have := h i hi; omega
    have hall : ∀ k, k < c.N → ∃ f, callF c r st k = some f := fun k hk => ⟨_, by unfold callF; rw [if_pos ⟨hk, .inr (by have := h k hk; omega)⟩]⟩
    have hl : (hdN c r st ck (callF c r st) i).length = c.N - 1 := by rw [hdN_all h0 hi, (data_perm c.N hall).2.2, if_pos hi]
    have : c.N / 2 + 1 ≤ c.N - 1 + 1 := by omega
    simp [stNext, e1, hl, this]
  · have hall : ∀ k, k < c.N → ∃ f, callF c r st k = some f := fun k hk => ⟨_, by unfold callF; rw [if_pos ⟨hk, .inr (by have := h k hk; omega)⟩]⟩
    have hd : ∀ i, i < c.N → ∃ p, -c.Er ≤ p ∧ p ≤ c.Er ∧ ckF c r st ck i + callD c r st ck i = ckF c r st ck 0 + p := fun i hi => by
      have e1 : stF c r st i = 3 := by have := h i hi; omega
      unfold callD
      rw [hdN_all h0 hi, e1]
      by_cases e : i = 0
      · subst e
        obtain ⟨f, hf⟩ := hall 1 (by omega)
        obtain ⟨l, hl⟩ := hdK_head (tk := fun k => if k = 0 then none else callF c r st k) (dv := fun k => devF c r (ckF c r st ck) k 0) (k0 := 1) (f0 := f) (by simpa using hf) (fun k hk => by simp; omega) c.N (by omega)
        rw [hl]
        exact ⟨0, by omega, by omega, by simp [chosenF]⟩
      · obtain ⟨f, hf⟩ := hall 0 (by omega)
        obtain ⟨l, hl⟩ := hdK_head (tk := fun k => if k = i then none else callF c r st k) (dv := fun k => devF c r (ckF c r st ck) k i) (k0 := 0) (f0 := f) (by simp only [if_neg (Ne.symm e), hf]) (fun k hk => by omega) c.N (by omega)
        rw [hl]
        obtain ⟨p, p1, p2, e2⟩ := dev_is c hE0 r (ckF c r st ck) 0 i
        refine ⟨p, p1, p2, ?_⟩
        simp only [chosenF, Nat.not_lt_zero, decide_false, Bool.and_false, Bool.false_eq_true, if_false, e2]
        omega
    intro i j hi hj
    rw [hck' i hi, hck' j hj]
    obtain ⟨p, p1, p2, e1⟩ := hd i hi
    obtain ⟨p', p3, p4, e2⟩ := hd j hj
    omega
end Go.Proofs.YtdbempiompiioaaGreat.B4
namespace Go.Proofs.YtdbempiompiioaaGreat.B5
open Go.RowKit A8 A9 A22 A25 A33 A36 A38 A39 A40 A41 A44 A45 A47 A48 A50 A51 A54 A55 A56 A57 A62 A65 B1 B2 B3 B4

def actF (c : NC) (F : Nat) (v : Nat → Nat) (r : Nat) (g : Nat → Option (List (Nat × Nat))) (s : Nat) : Option Fr :=
  if s < c.N then some ⟨3, ((c.Fi + r) % 65536).toNat, s, (payF F v r s).1, (payF F v r s).2, gotL (c.N + c.ps.length) (g s)⟩
  else if owners c.N c.ps s = [] then none else some ⟨3, ((c.Fi + r) % 65536).toNat, s, 1, 0, []⟩
def actD (c : NC) (F : Nat) (v : Nat → Nat) (r : Nat) (st : Nat → Nat) (ck : Nat → Int) (g : Nat → Option (List (Nat × Nat))) (i : Nat) : Int :=
  midF (dataK (hdN c r st ck (actF c F v r g) i) (hdN c r st ck (actF c F v r g) i).length ++ [0])
theorem actF_node {c : NC} {F : Nat} {v : Nat → Nat} {r : Nat} {g : Nat → Option (List (Nat × Nat))} {s : Nat} (h : s < c.N) : actF c F v r g s = some ⟨3, ((c.Fi + r) % 65536).toNat, s, (payF F v r s).1, (payF F v r s).2, gotL (c.N + c.ps.length) (g s)⟩ := if_pos h
theorem payF_ok {c : NC} {T F : Nat} {v : Nat → Nat} (P : Play c T F v) (r : Nat) {s : Nat} (h : s < c.N) : okI (payF F v r s) ∧ (payF F v r s).1 ≠ 0 := by
  have := P.v s h
  unfold payF
  split
  · exact ⟨.inr (.inr ⟨rfl, this⟩), by simp⟩
  · exact ⟨.inr (.inl ⟨rfl, rfl⟩), by simp⟩
theorem gotL_ok {S : Nat} {g : Option (List (Nat × Nat))} (h : ∀ l, g = some l → l.length = S ∧ ∀ k, k < S → okI (l.getD k (0, 0))) : (gotL S g).length = S ∧ ∀ k, k < S → okI ((gotL S g).getD k (0, 0)) := by
  cases g with
  | none =>
    refine ⟨by simp [gotL], fun k hk => .inl ?_⟩
    simp [gotL, List.getD_eq_getElem?_getD, List.getElem?_replicate, hk]
  | some l => exact h l rfl
structure Acts (c : NC) (T F : Nat) (v : Nat → Nat) (r : Nat) (st tm was : Nat → Nat) (ck : Nat → Int) (q : Nat → Nat → Option Nat) (g : Nat → Option (List (Nat × Nat))) : Prop where
  s4 : ∀ i, i < c.N → stF c r st i = 4
  near : ∀ i j, i < c.N → j < c.N → ckF c r st ck i - ckF c r st ck j ≤ 2 * c.Er + 2 * c.G
  hd : ∀ i, i < c.N → hdN c r st ck (actF c F v r g) i = hdK (fun k => if k = i then none else actF c F v r g k) (fun k => devF c r (ckF c r st ck) k i) c.N
  da : ∀ i, i < c.N → dataK (hdN c r st ck (actF c F v r g) i) (hdN c r st ck (actF c F v r g) i).length = (hdN c r st ck (actF c F v r g) i).map (·.dev)
  ln : ∀ i, i < c.N → (hdN c r st ck (actF c F v r g) i).length = c.N - 1
  pm : ∀ i, i < c.N → (dataK (hdN c r st ck (actF c F v r g) i) (hdN c r st ck (actF c F v r g) i).length ++ [0]).Perm ((List.range c.N).map (fun k => if k = i then 0 else devF c r (ckF c r st ck) k i))
  fk : ∀ i k, i < c.N → k < c.N → ∃ p, -c.Er ≤ p ∧ p ≤ c.Er ∧ (if k = i then 0 else devF c r (ckF c r st ck) k i) = ckF c r st ck k - ckF c r st ck i + p
  q : ∀ s i j, i < c.N → qN c r st q s i j = if j = i ∧ s ≤ i ∧ r = F then some (v i) else none
theorem Inv.acts {c : NC} {T F : Nat} {v : Nat → Nat} {r : Nat} {st tm was : Nat → Nat} {ck : Nat → Int} {q : Nat → Nat → Option Nat} {g : Nat → Option (List (Nat × Nat))} {n : Nat → Nat} {xs : Nat → List Value}
    (P : Play c T F v) (I : Inv c T F v r st tm was ck q g n xs) (hr : T + 2 ≤ r) (lt : (r : Int) < c.rounds) : Acts c T F v r st tm was ck q g := by
  have n0 := P.ok.cf.n0
  have hE0 := P.ok.cf.e0
  have hon : ∀ i, i < c.N → c.on.getD i 0 ≠ (r : Int) ∧ c.on.getD i 0 < (r : Int) := fun i hi => on_far P hi (by omega)
  have hs : ∀ i, i < c.N → stF c r st i = 4 := fun i hi => by unfold stF; rw [if_neg (hon i hi).1]; exact (I.p3 hr).1 i hi
  have h0 : ∀ i, i < c.N → stF c r st i ≠ 0 := fun i hi => by rw [hs i hi]; decide
  have hh := fun i hi => hdN_all (ck := ck) (fo := actF c F v r g) h0 (i := i) hi
  have hall : ∀ k, k < c.N → ∃ f, actF c F v r g k = some f := fun k hk => ⟨_, actF_node hk⟩
  have hda : ∀ i, i < c.N → dataK (hdN c r st ck (actF c F v r g) i) (hdN c r st ck (actF c F v r g) i).length = (hdN c r st ck (actF c F v r g) i).map (·.dev) := fun i hi => by
    rw [dataK_all (fun k hk => ?_) _ (Nat.le_refl _), List.take_length]
    refine kinds_of (p := fun k => k = 3) (fun j f hj hf => ?_) k hk
    have := tkN_ok hf
    rw [actF_node hj] at this
    injection this with this
    rw [← this]
  refine ⟨hs, fun i j hi hj => ?_, hh, hda, fun i hi => ?_, fun i hi => ?_, fun i k hi hk => ?_, fun s i j hi => ?_⟩
  · have h1 := (I.p3 hr).2 i j hi hj
    have h2 := pickN_le c.dr (11 * r + i) c.G P.ok.cf.g0
    have h3 := pickN_le c.dr (11 * r + j) c.G P.ok.cf.g0
    unfold ckF
    rw [if_neg (h0 i hi), if_neg (h0 j hj)]
    omega
  · rw [hh i hi, (data_perm c.N hall).2.2, if_pos hi]
  · rw [hda i hi, hh i hi]
    exact (data_perm c.N hall).2.1 hi
  · by_cases e : k = i
    · subst e; exact ⟨0, by omega, by omega, by rw [if_pos rfl]; omega⟩
    · rw [if_neg e]; exact dev_is c hE0 r (ckF c r st ck) k i
  · unfold qN
    by_cases e : r = F
    · subst e
      have hl : c.cl.length = c.N := by
        rcases P.cn with h | h
        · exact h
        · omega
      have hk := qK_all (q := q) P.cl c.cl.length (Nat.le_refl _)
      rw [qS_act hs (fun i hi j hj => ?_) s i j hi]
      · rw [hk i, if_pos (show i < c.cl.length by omega)]
        by_cases ej : j = i
        · by_cases es : s ≤ i
          · rw [if_pos ⟨ej, es⟩, if_pos ⟨ej, es, rfl⟩]; simp [sentQ]
          · rw [if_neg (fun x => es x.2), if_neg (fun x => es x.2.1)]
        · rw [if_neg (fun x => ej x.1), if_neg (fun x => ej x.1)]
      · rw [hk i, if_pos (show i < c.cl.length by omega)]
        unfold sentQ
        rw [if_neg hj]; exact I.hq i hi j
    · rw [qK_other (no_calls P e) _ (Nat.le_refl _), qS_act hs (fun i hi j _ => I.hq i hi j) s i j hi, if_neg (fun x : j = i ∧ s ≤ i ∧ r = F => e x.2.2)]
      split
      · exact I.hq i hi i
      · rfl
theorem step_act {c : NC} {T F : Nat} {v : Nat → Nat} {r : Nat} {st tm was : Nat → Nat} {ck : Nat → Int} {q : Nat → Nat → Option Nat} {g : Nat → Option (List (Nat × Nat))} {n : Nat → Nat} {xs : Nat → List Value}
    (P : Play c T F v) (I : Inv c T F v r st tm was ck q g n xs) (hr : T + 2 ≤ r) (lt : (r : Int) < c.rounds) (A : Acts c T F v r st tm was ck q g) :
    StepOk c r st tm was ck q g n (actF c F v r g) (actD c F v r st ck g) := by
  have rb := P.ok.rounds1
  have hck := P.ck (st := st) I.hck
  have hE := P.ok.cf.e1
  have hE0 := P.ok.cf.e0
  have hG := P.ok.cf.g0
  have hP := P.ok.cf.p0
  have n0 := P.ok.cf.n0
  have n1 := P.ok.cf.n1
  have hgl : ∀ s, s < c.N → _ := fun s hs => gotL_ok (I.hg s hs)
  have hfd : ∀ i k, i < c.N → k < c.N → -100000 ≤ (if k = i then 0 else devF c r (ckF c r st ck) k i) ∧ (if k = i then 0 else devF c r (ckF c r st ck) k i) ≤ 100000 := fun i k hi hk => by
    obtain ⟨p, p1, p2, e⟩ := A.fk i k hi hk
    have := hck i hi
    have := hck k hk
    rw [e]; omega
  have hz : ∀ i, i < c.N → ∀ z ∈ dataK (hdN c r st ck (actF c F v r g) i) (hdN c r st ck (actF c F v r g) i).length ++ [0], -100000 ≤ z ∧ z ≤ 100000 := fun i hi z hz => by
    rw [(A.pm i hi).mem_iff, List.mem_map] at hz
    obtain ⟨k, hk, e⟩ := hz
    rw [List.mem_range] at hk
    rw [← e]; exact hfd i k hi hk
  refine ⟨lt, fun i hi => by have := I.hck i hi; omega, fun i hi => by have := hck i hi; omega, fun i hi => Nat.le_of_eq (A.s4 i hi), fun i hi => by have := I.htm i hi; unfold tmF; split <;> omega,
    fun k hk e => ?_, fun s hs i hi ho => ?_, fun s hs f hf => ?_, fun s hs e => ?_, fun s hs hf => ⟨fun i hi => by rw [A.s4 i hi]; decide, fun o ho _ i hi => .inr ?_⟩, fun i hi h0 => ?_, fun i hi => ?_, fun i hi h4 hw => ?_⟩
  · rw [P.cl k hk] at e ⊢
    have hkN := Nat.lt_of_lt_of_le hk P.cm
    have e' : r = F := e.symm
    subst e'
    refine ⟨hkN, rfl, P.v k hkN, by rw [A.s4 k hkN]; decide, ?_⟩
    rw [qK_all P.cl k (by omega), if_neg (by simp)]
    exact I.hq k hkN k
  · rw [A.s4 i hi, A.q s i s hi]
    unfold frameF
    rw [if_pos rfl]
    by_cases e : s < c.N
    · rw [own_node e] at ho
      have : i = s := by simpa using ho
      subst this
      rw [actF_node e, if_pos e]
      unfold payF
      by_cases er : r = F <;> simp [er]
    · have h1 : owners c.N c.ps s ≠ [] := fun x => by rw [x] at ho; simp at ho
      unfold actF
      rw [if_neg e, if_neg h1, if_neg e, if_neg (show ¬ (s = i ∧ s ≤ i ∧ r = F) by omega)]
      rfl
  · by_cases e : s < c.N
    · rw [actF_node e] at hf
      injection hf with hf
      subst hf
      obtain ⟨h1, h2⟩ := payF_ok P r e
      refine ⟨⟨by simp, by simp, wire_le c r, hs, fun x => absurd e (by simp only at x; omega), h1, fun _ => h2, fun x => absurd rfl x, ?_, fun k hk => ?_⟩, rfl, rfl⟩
      · rw [if_pos ⟨rfl, e⟩]; exact (hgl s e).1
      · refine (hgl s e).2 k ?_
        simp only [(hgl s e).1] at hk
        exact hk
    · unfold actF at hf
      rw [if_neg e] at hf
      split at hf
      · cases hf
      · injection hf with hf
        subst hf
        refine ⟨⟨by simp, by simp, wire_le c r, hs, fun _ => rfl, .inr (.inl ⟨rfl, rfl⟩), fun _ => by simp, fun _ => by simp at *, ?_, fun k hk => absurd hk (by simp)⟩, rfl, rfl⟩
        rw [if_neg (fun x => e x.2)]; rfl
  · unfold actF
    rw [if_neg (fun x => ?_), if_pos e]
    rw [owners_node (by omega : (s : Int) < c.N)] at e
    cases e
  · obtain ⟨p, p1, p2, e⟩ := dev_is c hE0 r (ckF c r st ck) o i
    have h1 := A.near o i ho hi
    have h2 := A.near i o hi ho
    rw [e]; omega
  · rw [A.s4 i hi]
    intro B C w h
    have h1 := A.ln i hi
    refine step_active i B _ C w h (by omega) (by rw [A.da i hi, List.length_map]; omega) (fun z hz' => ?_)
    have := hz i hi z (List.mem_append_left _ hz')
    omega
  · have := mid_in (n := c.N) (by omega) (A.pm i hi) (fun k hk => hfd i k hi hk)
    unfold actD
    omega
  · have hT : T + 3 ≤ r := by
      rcases Nat.lt_or_ge r (T + 3) with h | h
      · exact absurd hw (I.w0 (by omega) i hi)
      · exact h
    obtain ⟨_, l, hl, _⟩ := I.p4 hT i hi
    have hn := I.hn i hi
    refine ⟨by omega, by omega, ⟨l, hl⟩, fun k s f hk hs hki hf _ => ?_⟩
    have := tkN_ok hf
    rw [actF_node hk] at this
    injection this with this
    rw [← this]
    show s < (gotL _ (g k)).length
    rw [(hgl k hk).1]; exact hs
theorem Inv.act {c : NC} {T F : Nat} {v : Nat → Nat} {r : Nat} {st tm was : Nat → Nat} {ck : Nat → Int} {q : Nat → Nat → Option Nat} {g : Nat → Option (List (Nat × Nat))} {n : Nat → Nat} {xs : Nat → List Value}
    (P : Play c T F v) (I : Inv c T F v r st tm was ck q g n xs) (hr : T + 2 ≤ r) (lt : (r : Int) < c.rounds) :
    StepOk c r st tm was ck q g n (actF c F v r g) (actD c F v r st ck g) ∧ Inv c T F v (r + 1) (nxN c r st tm was ck g n xs (actF c F v r g) (actD c F v r st ck g)).st (nxN c r st tm was ck g n xs (actF c F v r g) (actD c F v r st ck g)).tm (nxN c r st tm was ck g n xs (actF c F v r g) (actD c F v r st ck g)).was (nxN c r st tm was ck g n xs (actF c F v r g) (actD c F v r st ck g)).ck (qN c r st q (c.N + c.ps.length)) (nxN c r st tm was ck g n xs (actF c F v r g) (actD c F v r st ck g)).g (nxN c r st tm was ck g n xs (actF c F v r g) (actD c F v r st ck g)).n (nxN c r st tm was ck g n xs (actF c F v r g) (actD c F v r st ck g)).xs := by
  have hck := P.ck (st := st) I.hck
  have hE := P.ok.cf.e1
  have hE0 := P.ok.cf.e0
  have hG := P.ok.cf.g0
  have n0 := P.ok.cf.n0
  have n1 := P.ok.cf.n1
  have A := Inv.acts P I hr lt
  have K := step_act P I hr lt A
  obtain ⟨c1, c2, c3, c4, c5⟩ := com P I K
  have h0 : ∀ i, i < c.N → stF c r st i ≠ 0 := fun i hi => by rw [A.s4 i hi]; decide
  have hck' : ∀ i, i < c.N → (nxN c r st tm was ck g n xs (actF c F v r g) (actD c F v r st ck g)).ck i = ckF c r st ck i + actD c F v r st ck g i := fun i hi => if_neg (h0 i hi)
  have hg' : ∀ i, i < c.N → (nxN c r st tm was ck g n xs (actF c F v r g) (actD c F v r st ck g)).g i = some (gotE (tkN c r st (actF c F v r g)) i (c.N + c.ps.length)) := fun i hi => if_neg (h0 i hi)
  have hx' : ∀ i, i < c.N → (nxN c r st tm was ck g n xs (actF c F v r g) (actD c F v r st ck g)).xs i = if was i = 4 then xs i ++ lineCells ((r : Int) - 1) (lineF c.N c.ps (tkN c r st (actF c F v r g)) ((g i).getD []) i) (c.N + c.ps.length) else xs i := fun i hi => by
    show (if stF c r st i = 4 ∧ was i = 4 then _ else xs i) = _
    by_cases e : was i = 4
    · rw [if_pos ⟨A.s4 i hi, e⟩, if_pos e]
    · rw [if_neg (fun x => e x.2), if_neg e]
  have htk : ∀ k i, k < c.N → i < c.N → k ≠ i → tkN c r st (actF c F v r g) k i = actF c F v r g k := fun k i hk hi e => by rw [tkN_all h0 hk hi, if_neg e]
  have hline : T + 3 ≤ r → ∀ i, i < c.N → ∀ s, s < c.N → lineF c.N c.ps (tkN c r st (actF c F v r g)) ((g i).getD []) i s = (((payF F v (r - 1) s).1 : Int), ((payF F v (r - 1) s).2 : Int)) := fun hT i hi s hs => by
    refine line_all (by omega) (by omega) hs (fun e => (payF_ok P (r - 1) hs).2 (by rw [e])) (fun e => ?_) (fun k hk hks hki => ?_)
    · obtain ⟨_, l, hl, h⟩ := I.p4 hT i hi
      rw [hl]; exact h s hs (Ne.symm e)
    · obtain ⟨_, l, hl, h⟩ := I.p4 hT k hk
      refine ⟨_, (htk k i hk hi hki).trans (actF_node hk), rfl, ?_⟩
      show (gotL _ (g k)).getD s (0, 0) = _
      rw [hl]; exact h s hs (Ne.symm hks)
  refine ⟨K, ⟨fun i hi => ?_, c1, fun i hi s => ?_, c2, c3, c4, c5, fun h i hi => ?_, fun h => by omega, fun h => by omega, fun h => by omega, fun _ => ⟨fun i hi => ?_, fun i j hi hj => ?_⟩, fun h i hi => ⟨?_, _, hg' i hi, fun s hs hsi => ?_⟩, fun h i hi => ?_⟩⟩
  · rw [hck' i hi]
    have := mid_in (n := c.N) (lo := -(40 * (r : Int)) - 40 - ckF c r st ck i) (hi := 40 * (r : Int) + 40 - ckF c r st ck i) (by omega) (A.pm i hi) (fun k hk => by
      obtain ⟨p, p1, p2, e⟩ := A.fk i k hi hk
      have := hck k hk
      rw [e]; omega)
    unfold actD
    omega
  · rw [A.q _ i s hi, if_neg (fun x => by omega)]
  · rw [hx' i hi, if_neg (I.w0 (by omega) i hi)]
    exact I.x0 (by omega) i hi
  · show (if stF c r st i = 0 then 0 else (stNext c.N i (stF c r st i) (tmF c r tm i) (hdN c r st ck (actF c F v r g) i).length).1) = 4
    rw [if_neg (h0 i hi), A.s4 i hi, A.ln i hi]
    have : c.N / 2 + 1 ≤ c.N - 1 + 1 := by omega
    simp [stNext, this]
  · rw [hck' i hi, hck' j hj]
    have := mid_near (n := c.N) (d := ckF c r st ck j - ckF c r st ck i + 2 * c.Er) (by omega) (A.pm i hi) (A.pm j hj) (fun k hk => by
      obtain ⟨p, p1, p2, e⟩ := A.fk i k hi hk
      obtain ⟨p', p3, p4, e'⟩ := A.fk j k hj hk
      rw [e, e']; omega)
    unfold actD
    omega
  · show (if stF c r st i = 0 then 0 else stF c r st i) = 4
    rw [if_neg (h0 i hi)]; exact A.s4 i hi
  · rw [gotE_at _ _ _ _ (by omega), htk s i hs hi hsi, actF_node hs]
    rfl
  · have hT : T + 3 ≤ r := by omega
    have hw := (I.p4 hT i hi).1
    have hl := hline hT i hi
    rw [hx' i hi, if_pos hw]
    have e1 : ((r + 1 : Nat) : Int) - 2 = (r : Int) - 1 := by omega
    have e2 : r + 1 - 2 = r - 1 := by omega
    rw [e1, e2]
    refine ⟨?_, _, _, rfl, hl⟩
    by_cases e : r = T + 3
    · subst e
      refine ⟨_, [], ?_, hl⟩
      rw [I.x0 (Nat.le_refl _) i hi, List.nil_append, List.append_nil]
      have e3 : ((T + 3 : Nat) : Int) - 1 = (T : Int) + 2 := by omega
      rw [e3]
    · obtain ⟨⟨f, post, h1, h2⟩, _⟩ := I.p5 (by omega) i hi
      exact ⟨f, post ++ _, by rw [h1, List.append_assoc], h2⟩
theorem Inv.next {c : NC} {T F : Nat} {v : Nat → Nat} {r : Nat} {st tm was : Nat → Nat} {ck : Nat → Int} {q : Nat → Nat → Option Nat} {g : Nat → Option (List (Nat × Nat))} {n : Nat → Nat} {xs : Nat → List Value}
    (P : Play c T F v) (I : Inv c T F v r st tm was ck q g n xs) (lt : (r : Int) < c.rounds) :
    ∃ fo d, StepOk c r st tm was ck q g n fo d ∧ Inv c T F v (r + 1) (nxN c r st tm was ck g n xs fo d).st (nxN c r st tm was ck g n xs fo d).tm (nxN c r st tm was ck g n xs fo d).was (nxN c r st tm was ck g n xs fo d).ck (qN c r st q (c.N + c.ps.length)) (nxN c r st tm was ck g n xs fo d).g (nxN c r st tm was ck g n xs fo d).n (nxN c r st tm was ck g n xs fo d).xs := by
  rcases Nat.lt_or_ge r T with h | h
  · exact ⟨_, _, Inv.silent P I h lt⟩
  · rcases Nat.lt_or_ge r (T + 2) with h' | h'
    · exact ⟨_, _, Inv.first P I (by omega) lt⟩
    · exact ⟨_, _, Inv.act P I h' lt⟩
def Course (c : NC) (T F : Nat) (v : Nat → Nat) (NB LO : Nat) (r : Nat) (w : World) : Prop :=
  ∃ ND base m lv st tm was ck q g n xs, A64.NetAt w c NB LO ND base r m lv st tm was ck q g n xs ∧ Inv c T F v r st tm was ck q g n xs
theorem course_step {c : NC} {T F : Nat} {v : Nat → Nat} {NB LO r : Nat} {w : World} (P : Play c T F v) (H : Course c T F v NB LO r w) (lt : (r : Int) < c.rounds) :
    Calls Tryz.prog 15 #[.pointer (some ⟨NB, 0, none⟩)] w fun e w' => e = .returned (.bool true) ∧ Below LO w w' ∧ Course c T F v NB LO (r + 1) w' := by
  obtain ⟨ND, base, m, lv, st, tm, was, ck, q, g, n, xs, H, I⟩ := H
  obtain ⟨fo, d, K, I'⟩ := Inv.next P I lt
  refine (net_round c NB LO ND base r m lv st tm was ck q g n xs fo d w P.ok H K).mono ?_
  rintro e w' ⟨rfl, hb, ND', base', m', lv', H'⟩
  exact ⟨rfl, hb, ND', base', m', lv', _, _, _, _, _, _, _, _, H', I'⟩
end Go.Proofs.YtdbempiompiioaaGreat.B5
