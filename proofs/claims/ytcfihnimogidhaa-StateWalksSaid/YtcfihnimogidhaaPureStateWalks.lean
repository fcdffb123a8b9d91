/- The pure statement of the law StateWalks: for all its arguments the plain function answers true. No condition but that the numbers are of their kind and the rows of a length that can be. -/
import Derived.Test.YtcfihnimogidhaaPStateWalksx4
namespace Go.Proofs.Ytcfihnimogidhaa.Pure
open Go.RowKit Go.Proofs.Ytcfihnimogidhaa.PStateWalks Go.Proofs.YtcfihnimogidhaaW.PrintWords Go.Proofs.YtcfihnimogidhaaW.PrintLast
set_option linter.unusedVariables false

theorem within3 (a n : Int) (h : 0 < n) (hn : n ≤ 4611686018427387904) : ∃ r, plaitinglaw3_within.f a n = some r ∧ 0 ≤ r ∧ r < n := by
  have h1 := Int.tmod_lt_of_pos a h
  have h2 := Int.lt_tmod_of_pos a h
  unfold plaitinglaw3_within.f
  rw [if_neg (by omega)]
  by_cases c : Int.tmod a n < 0
  · rw [if_pos c]
    refine ⟨_, rfl, ?_, ?_⟩ <;> (unfold wrap64; omega)
  · rw [if_neg c]
    exact ⟨_, rfl, by omega, h1⟩


/-- What Make answers. -/
structure Made (r : Int × Int × Int × Int × Int × List Int) : Prop where
  n0 : 6 ≤ r.1
  n1 : r.1 ≤ 12
  e0 : 0 ≤ r.2.2.1
  e1 : r.2.2.1 ≤ 20
  g0 : 0 ≤ r.2.2.2.1
  g1 : r.2.2.2.1 ≤ 20
  p0 : 4 * (r.2.2.1 + r.2.2.2.1 + 1) ≤ r.2.1
  p1 : r.2.1 ≤ 4 * (r.2.2.1 + r.2.2.2.1 + 1) + 99

theorem make_l0 (a0 a1 a2 a3 a4 : Int) (l : List Int) (n pi e g f : Int) (hn0 : 6 ≤ n) (hn1 : n ≤ 12) (d : Nat) : ∀ (k : Nat) (i : Int) (ps : List Int), 0 ≤ i → i + d = 3 → ps.length ≤ i → d < k →
    ∃ qs, plaitinglaw3_Make.l0 k i a0 a1 a2 a3 a4 l n pi e g f ps = some (n, pi, e, g, f, qs) := by
  induction d with
  | zero =>
    intro k i ps h0 h1 h2 hk
    obtain ⟨k, rfl⟩ : ∃ m, k = m + 1 := ⟨k - 1, by omega⟩
    simp only [plaitinglaw3_Make.l0]
    by_cases c : i < (l.length : Int)
    · rw [if_pos c, if_neg (by omega)]; exact ⟨_, rfl⟩
    · rw [if_neg c]; exact ⟨_, rfl⟩
  | succ d ih =>
    intro k i ps h0 h1 h2 hk
    obtain ⟨k, rfl⟩ : ∃ m, k = m + 1 := ⟨k - 1, by omega⟩
    simp only [plaitinglaw3_Make.l0]
    by_cases c : i < (l.length : Int)
    · have hw : wrap64 (n + 1) = n + 1 := by unfold wrap64; omega
      have hi : wrap64 (i + 1) = i + 1 := by unfold wrap64; omega
      obtain ⟨r, hr, _, _⟩ := within3 (rd l i) (n + 1) (by omega) (by omega)
      rw [if_pos c, if_pos (by omega), if_pos h0, hw, hr]
      simp only [Option.bind_some]
      rw [if_pos (by omega), hi]
      exact ih k (i + 1) _ (by omega) (by omega) (by rw [List.length_append, List.length_singleton]; omega) (by omega)
    · rw [if_neg c]; exact ⟨_, rfl⟩

theorem make_some (k : Nat) (hk : 5 < k) (a0 a1 a2 a3 a4 : Int) (l : List Int) : ∃ r, plaitinglaw3_Make.f k a0 a1 a2 a3 a4 l = some r ∧ Made r := by
  obtain ⟨t0, h0, b0, b0'⟩ := within3 a0 7 (by omega) (by omega)
  obtain ⟨t2, h2, b2, b2'⟩ := within3 a2 21 (by omega) (by omega)
  obtain ⟨t3, h3, b3, b3'⟩ := within3 a3 21 (by omega) (by omega)
  obtain ⟨t4, h4, b4, b4'⟩ := within3 a4 65536 (by omega) (by omega)
  obtain ⟨t5, h5, b5, b5'⟩ := within3 a4 3 (by omega) (by omega)
  obtain ⟨t6, h6, b6, b6'⟩ := within3 a4 40 (by omega) (by omega)
  obtain ⟨t1, h1, b1, b1'⟩ := within3 a1 100 (by omega) (by omega)
  have w0 : wrap64 (6 + t0) = 6 + t0 := by unfold wrap64; omega
  have w1 : wrap64 (t2 + t3) = t2 + t3 := by unfold wrap64; omega
  have w2 : wrap64 (t2 + t3 + 1) = t2 + t3 + 1 := by unfold wrap64; omega
  have w3 : wrap64 (4 * (t2 + t3 + 1)) = 4 * (t2 + t3 + 1) := by unfold wrap64; omega
  have w4 : wrap64 (4 * (t2 + t3 + 1) + t1) = 4 * (t2 + t3 + 1) + t1 := by unfold wrap64; omega
  have hj : ∀ f, ∃ r, plaitinglaw3_Make.j0 k a0 a1 a2 a3 a4 l (6 + t0) 0 t2 t3 f = some r ∧ Made r := by
    intro f
    obtain ⟨k, rfl⟩ : ∃ m, k = m + 1 := ⟨k - 1, by omega⟩
    obtain ⟨qs, hq⟩ := make_l0 a0 a1 a2 a3 a4 l (6 + t0) (4 * (t2 + t3 + 1) + t1) t2 t3 f (by omega) (by omega) 3 k 0 [] (by omega) (by omega) (by simp) (by omega)
    simp only [plaitinglaw3_Make.j0, h1, Option.bind_some, w1, w2, w3, w4]
    exact ⟨_, hq, ⟨by show 6 ≤ 6 + t0; omega, by show 6 + t0 ≤ 12; omega, b2, by show t2 ≤ 20; omega, b3, by show t3 ≤ 20; omega, by show 4 * (t2 + t3 + 1) ≤ 4 * (t2 + t3 + 1) + t1; omega, by show 4 * (t2 + t3 + 1) + t1 ≤ 4 * (t2 + t3 + 1) + 99; omega⟩⟩
  simp only [plaitinglaw3_Make.f, h0, h2, h3, h4, h5, h6, Option.bind_some, w0]
  by_cases c : t5 = 0
  · rw [if_pos c]; exact hj _
  · rw [if_neg c]; exact hj _
theorem within13 (a n : Int) (h : 0 < n) (hn : n ≤ 4611686018427387904) : ∃ r, plaitinglaw13_within.f a n = some r ∧ 0 ≤ r ∧ r < n := within3 a n h hn
theorem known_true : plaitinglaw13_known.f = some true := by decide +kernel

/-- What comes next, by the machine's numbers. -/
def nxt (n i st tm hd : Int) : Int × Int :=
  if st = 1 then (if hd > 0 then (3, 0) else if wrap64 (tm + 1) ≥ wrap64 (n + i) then (2, 0) else (1, wrap64 (tm + 1)))
  else if st = 2 then (3, 0)
  else if st = 3 then (if wrap64 (hd + 1) ≥ wrap64 (wrap64 (Int.tdiv n 2) + 1) then (4, 0) else if wrap64 (tm + 1) ≥ 3 then (1, 0) else (3, wrap64 (tm + 1)))
  else if st = 4 then (if wrap64 (hd + 1) ≥ wrap64 (wrap64 (Int.tdiv n 2) + 1) then (4, 0) else (1, 0))
  else (0, 0)
theorem next_eq (c0 c1 c2 c3 c4 : Int) (ps : List Int) (i st tm hd : Int) : state_Next.f c0 c1 c2 c3 c4 ps i st tm hd = some (nxt c0 i st tm hd) := by
  simp only [state_Next.f, conf_Most.f, state_wait_on.f, nxt, Option.bind_some]
  repeat' split
  all_goals first | rfl | simp_all
/-- What comes next, by plain numbers. -/
def nx (n i st tm hd : Int) : Int × Int :=
  if st = 1 then (if hd > 0 then (3, 0) else if n + i ≤ tm + 1 then (2, 0) else (1, tm + 1))
  else if st = 2 then (3, 0)
  else if st = 3 then (if n < 2 * (hd + 1) then (4, 0) else if 3 ≤ tm + 1 then (1, 0) else (3, tm + 1))
  else if st = 4 then (if n < 2 * (hd + 1) then (4, 0) else (1, 0))
  else (0, 0)
theorem nxt_nx (n i st tm hd : Int) (n0 : 6 ≤ n) (n1 : n ≤ 12) (i0 : 0 ≤ i) (i1 : i < n) (t0 : 0 ≤ tm) (t1 : tm ≤ 100000) (h0 : 0 ≤ hd) (h1 : hd < n) : nxt n i st tm hd = nx n i st tm hd := by
  have w1 : wrap64 (tm + 1) = tm + 1 := by unfold wrap64; omega
  have w2 : wrap64 (n + i) = n + i := by unfold wrap64; omega
  have w3 : wrap64 (hd + 1) = hd + 1 := by unfold wrap64; omega
  have w4 : wrap64 (wrap64 (Int.tdiv n 2) + 1) = n / 2 + 1 := by
    rw [Int.tdiv_eq_ediv_of_nonneg (by omega)]
    unfold wrap64
    omega
  have e : (hd + 1 ≥ n / 2 + 1) = (n < 2 * (hd + 1)) := by
    apply propext
    omega
  unfold nxt nx
  simp only [w1, w2, w3, w4, e, ge_iff_le]

theorem walks_j3 (l : List Int) (i s t sil : Int) (m : Bool) (r was : Int) (q : Bool) (n c1 c2 c3 c4 : Int) (ps : List Int) (k : Nat) (n0 : 6 ≤ n) (n1 : n ≤ 12) (i0 : 0 ≤ i) (i1 : i < n) (hs : 1 ≤ s) (hs4 : s ≤ 4) (hm : s = 4 → m = true)
    (hc : s = 2 → was = 1 ∧ q = true ∧ sil + 1 = n + i) (ht : 0 ≤ t) (hl : s = 1 → t < n + i) (hsil : 0 ≤ sil) (hsil2 : sil ≤ 100) (r0 : 0 ≤ r) (r1 : r ≤ 100)
    (h : plaitinglaw13_StateWalks.l0 k l i s t (if q = true then sil + 1 else 0) (r + 1) n c1 c2 c3 c4 ps = some true) :
    plaitinglaw13_StateWalks.j3 (k + 1) l i s t sil m r was q n c1 c2 c3 c4 ps = some true := by
  have w1 : wrap64 (sil + 1) = sil + 1 := by unfold wrap64; omega
  have w2 : wrap64 (r + 1) = r + 1 := by unfold wrap64; omega
  have w3 : wrap64 (n + i) = n + i := by unfold wrap64; omega
  have hge : t ≥ n + i → ¬ s = 1 := fun a b => by have := hl b; omega
  simp only [plaitinglaw13_StateWalks.j3, w1, w2, w3]
  cases q with
  | true =>
    simp only [if_true] at h
    rw [if_pos rfl, if_neg (by omega), if_neg (by omega)]
    by_cases s4 : s = 4
    · obtain rfl := hm s4
      rw [if_pos s4, if_pos rfl, if_neg (by omega), if_neg (by omega)]
      by_cases g : t ≥ n + i
      · rw [if_pos g, if_neg (hge g)]; exact h
      · rw [if_neg g]; exact h
    · rw [if_neg s4]
      by_cases s2 : s = 2
      · obtain ⟨g1, _, g3⟩ := hc s2
        rw [if_pos s2, if_pos g1, if_pos g3, if_neg (by omega)]
        by_cases g : t ≥ n + i
        · rw [if_pos g, if_neg (hge g)]; exact h
        · rw [if_neg g]; exact h
      · rw [if_neg s2, if_neg (by omega)]
        by_cases g : t ≥ n + i
        · rw [if_pos g, if_neg (hge g)]; exact h
        · rw [if_neg g]; exact h
  | false =>
    simp only [Bool.false_eq_true, if_false] at h
    have s2 : ¬ s = 2 := fun e => by have := (hc e).2.1; simp at this
    rw [if_neg (by simp), if_neg (by omega), if_neg (by omega)]
    by_cases s4 : s = 4
    · obtain rfl := hm s4
      rw [if_pos s4, if_pos rfl, if_neg (by omega), if_neg (by omega)]
      by_cases g : t ≥ n + i
      · rw [if_pos g, if_neg (hge g)]; exact h
      · rw [if_neg g]; exact h
    · rw [if_neg s4, if_neg s2, if_neg (by omega)]
      by_cases g : t ≥ n + i
      · rw [if_pos g, if_neg (hge g)]; exact h
      · rw [if_neg g]; exact h

/-- What holds at a round's beginning. -/
structure Inv (n i st tm sil r : Int) : Prop where
  s0 : 1 ≤ st
  s1 : st ≤ 4
  t0 : 0 ≤ tm
  t1 : tm ≤ 100
  tl : st = 1 → tm < n + i
  sl : st = 1 → sil = tm
  q0 : 0 ≤ sil
  q1 : sil ≤ r

theorem inv_step (n i st tm sil r h : Int) (n0 : 6 ≤ n) (n1 : n ≤ 12) (i0 : 0 ≤ i) (i1 : i < n) (h0 : 0 ≤ h) (I : Inv n i st tm sil r) :
    Inv n i (nx n i st tm h).1 (nx n i st tm h).2 (if st = 1 ∧ h = 0 then sil + 1 else 0) (r + 1) ∧ ((nx n i st tm h).1 = 4 → n < 2 * (h + 1)) ∧ ((nx n i st tm h).1 = 2 → st = 1 ∧ h = 0 ∧ sil + 1 = n + i) := by
  obtain ⟨s0, s1, t0, t1, tl, sl, q0, q1⟩ := I
  rcases (by omega : st = 1 ∨ st = 2 ∨ st = 3 ∨ st = 4) with rfl | rfl | rfl | rfl
  · have tl := tl rfl
    have sl := sl rfl
    by_cases c : h > 0
    · have e : nx n i 1 tm h = (3, 0) := by simp [nx, c]
      rw [e, if_neg (by omega)]
      exact ⟨⟨by decide, by decide, by decide, by decide, fun g => by simp at g, fun g => by simp at g, by omega, by omega⟩, fun g => by simp at g, fun g => by simp at g⟩
    · by_cases d : n + i ≤ tm + 1
      · have e : nx n i 1 tm h = (2, 0) := by simp [nx, c, d]
        rw [e, if_pos (by omega)]
        exact ⟨⟨by decide, by decide, by decide, by decide, fun g => by simp at g, fun g => by simp at g, by omega, by omega⟩, fun g => by simp at g, fun _ => ⟨rfl, by omega, by omega⟩⟩
      · have e : nx n i 1 tm h = (1, tm + 1) := by simp [nx, c, d]
        rw [e, if_pos (by omega)]
        exact ⟨⟨by show (1 : Int) ≤ 1; omega, by show (1 : Int) ≤ 4; omega, by show 0 ≤ tm + 1; omega, by show tm + 1 ≤ 100; omega, fun _ => by show tm + 1 < n + i; omega, fun _ => by show sil + 1 = tm + 1; omega, by omega, by omega⟩, fun g => by simp at g, fun g => by simp at g⟩
  · have e : nx n i 2 tm h = (3, 0) := by simp [nx]
    rw [e, if_neg (by omega)]
    exact ⟨⟨by decide, by decide, by decide, by decide, fun g => by simp at g, fun g => by simp at g, by omega, by omega⟩, fun g => by simp at g, fun g => by simp at g⟩
  · rw [if_neg (by omega)]
    by_cases c : n < 2 * (h + 1)
    · have e : nx n i 3 tm h = (4, 0) := by simp [nx, c]
      rw [e]
      exact ⟨⟨by decide, by decide, by decide, by decide, fun g => by simp at g, fun g => by simp at g, by omega, by omega⟩, fun _ => c, fun g => by simp at g⟩
    · by_cases d : 3 ≤ tm + 1
      · have e : nx n i 3 tm h = (1, 0) := by simp [nx, c, d]
        rw [e]
        exact ⟨⟨by decide, by decide, by decide, by decide, fun _ => by show 0 < n + i; omega, fun _ => rfl, by omega, by omega⟩, fun g => by simp at g, fun g => by simp at g⟩
      · have e : nx n i 3 tm h = (3, tm + 1) := by simp [nx, c, d]
        rw [e]
        exact ⟨⟨by show (1 : Int) ≤ 3; omega, by show (3 : Int) ≤ 4; omega, by show 0 ≤ tm + 1; omega, by show tm + 1 ≤ 100; omega, fun g => by simp at g, fun g => by simp at g, by omega, by omega⟩, fun g => by simp at g, fun g => by simp at g⟩
  · rw [if_neg (by omega)]
    by_cases c : n < 2 * (h + 1)
    · have e : nx n i 4 tm h = (4, 0) := by simp [nx, c]
      rw [e]
      exact ⟨⟨by decide, by decide, by decide, by decide, fun g => by simp at g, fun g => by simp at g, by omega, by omega⟩, fun _ => c, fun g => by simp at g⟩
    · have e : nx n i 4 tm h = (1, 0) := by simp [nx, c]
      rw [e]
      exact ⟨⟨by decide, by decide, by decide, by decide, fun _ => by show 0 < n + i; omega, fun _ => rfl, by omega, by omega⟩, fun g => by simp at g, fun g => by simp at g⟩

theorem walks_j2 (l : List Int) (n i st tm sil r h : Int) (c1 c2 c3 c4 : Int) (ps : List Int) (n0 : 6 ≤ n) (n1 : n ≤ 12) (i0 : 0 ≤ i) (i1 : i < n) (h0 : 0 ≤ h) (h1 : h < n) (r0 : 0 ≤ r) (r1 : r < 100) (I : Inv n i st tm sil r) (k : Nat)
    (hgo : ∀ st' tm' sil', Inv n i st' tm' sil' (r + 1) → plaitinglaw13_StateWalks.l0 k l i st' tm' sil' (r + 1) n c1 c2 c3 c4 ps = some true) :
    plaitinglaw13_StateWalks.j2 (k + 2) l i st tm sil r h n c1 c2 c3 c4 ps = some true := by
  obtain ⟨I2, hm, hc⟩ := inv_step n i st tm sil r h n0 n1 i0 i1 h0 I
  have hn : nxt n i st tm h = nx n i st tm h := nxt_nx _ _ _ _ _ n0 n1 i0 i1 I.t0 (by have := I.t1; omega) h0 h1
  have w1 : wrap64 (h + 1) = h + 1 := by unfold wrap64; omega
  have w2 : wrap64 (2 * (h + 1)) = 2 * (h + 1) := by unfold wrap64; omega
  simp only [plaitinglaw13_StateWalks.j2, next_eq, hn, w1, w2, Option.bind_some]
  have hq1 := I.q1
  have hgo2 := hgo _ _ _ I2
  by_cases c : st = 1
  · rw [if_pos c]
    refine walks_j3 l i _ _ sil _ r st (h == 0) n c1 c2 c3 c4 ps k n0 n1 i0 i1 I2.s0 I2.s1 (fun e => decide_eq_true (hm e)) (fun e => ?_) I2.t0 I2.tl I.q0 (by omega) r0 (by omega) ?_
    · obtain ⟨g1, g2, g3⟩ := hc e
      exact ⟨g1, beq_iff_eq.mpr g2, g3⟩
    · by_cases g : h = 0
      · rw [if_pos ⟨c, g⟩] at hgo2
        rw [if_pos (beq_iff_eq.mpr g)]
        exact hgo2
      · rw [if_neg (fun x => g x.2)] at hgo2
        rw [if_neg (by simpa using g)]
        exact hgo2
  · rw [if_neg c]
    rw [if_neg (fun x => c x.1)] at hgo2
    refine walks_j3 l i _ _ sil _ r st false n c1 c2 c3 c4 ps k n0 n1 i0 i1 I2.s0 I2.s1 (fun e => decide_eq_true (hm e)) (fun e => absurd (hc e).1 c) I2.t0 I2.tl I.q0 (by omega) r0 (by omega) ?_
    rw [if_neg (by simp)]
    exact hgo2

theorem walks_l0 (l : List Int) (n i : Int) (c1 c2 c3 c4 : Int) (ps : List Int) (n0 : 6 ≤ n) (n1 : n ≤ 12) (i0 : 0 ≤ i) (i1 : i < n) (d : Nat) :
    ∀ (k : Nat) (st tm sil r : Int), 0 ≤ r → r + d = 100 → Inv n i st tm sil r → 4 * d + 2 < k → plaitinglaw13_StateWalks.l0 k l i st tm sil r n c1 c2 c3 c4 ps = some true := by
  induction d with
  | zero =>
    intro k st tm sil r h2 h3 I hk
    obtain ⟨k, rfl⟩ : ∃ m, k = m + 2 := ⟨k - 2, by omega⟩
    simp only [plaitinglaw13_StateWalks.l0, plaitinglaw13_StateWalks.j1]
    rw [decide_eq_false (by omega)]
    split <;> rfl
  | succ d ih =>
    intro k st tm sil r h2 h3 I hk
    obtain ⟨k, rfl⟩ : ∃ m, k = m + 4 := ⟨k - 4, by omega⟩
    simp only [plaitinglaw13_StateWalks.l0]
    by_cases c : r < (l.length : Int)
    · obtain ⟨u, hu, u0, u1⟩ := within13 (rd l r) n (by omega) (by omega)
      obtain ⟨v, hv, v0, v1⟩ := within13 (wrap64 (Int.tdiv (rd l r) 64)) 3 (by omega) (by omega)
      rw [if_pos c, decide_eq_true (by omega)]
      simp only [plaitinglaw13_StateWalks.j1, hu, hv, Option.bind_some, if_true]
      rw [if_pos h2, if_pos c]
      have hgo : ∀ st' tm' sil', Inv n i st' tm' sil' (r + 1) → plaitinglaw13_StateWalks.l0 k l i st' tm' sil' (r + 1) n c1 c2 c3 c4 ps = some true := fun st' tm' sil' I' => ih k st' tm' sil' (r + 1) (by omega) (by omega) I' (by omega)
      by_cases g : v > 0
      · rw [if_pos g]
        exact walks_j2 l n i st tm sil r 0 c1 c2 c3 c4 ps n0 n1 i0 i1 (by omega) (by omega) h2 (by omega) I k hgo
      · rw [if_neg g]
        exact walks_j2 l n i st tm sil r u c1 c2 c3 c4 ps n0 n1 i0 i1 u0 u1 h2 (by omega) I k hgo
    · rw [if_neg c]
      simp [plaitinglaw13_StateWalks.j1]

theorem StateWalks : ∀ (a0_0 : Int) (a0_1 : Int) (a0_2 : Int) (a0_3 : Int) (a0_4 : Int) (l0_5 : List Int) (a1 : Int) (l2 : List Int), (Lit.int .i64 a0_0).wf = true → (Lit.int .i64 a0_1).wf = true → (Lit.int .i64 a0_2).wf = true → (Lit.int .i64 a0_3).wf = true → (Lit.int .i64 a0_4).wf = true → l0_5.length ≤ maxLen → (∀ x ∈ l0_5, (Lit.int .i64 x).wf = true) → (Lit.int .i64 a1).wf = true → l2.length ≤ maxLen → l2.length * 8 ≤ 140737488351232 → (∀ x ∈ l2, (Lit.int .i64 x).wf = true) → ∃ k, plaitinglaw13_StateWalks.f k a0_0 a0_1 a0_2 a0_3 a0_4 l0_5 a1 l2 = some true := by
  intro a0_0 a0_1 a0_2 a0_3 a0_4 l0_5 a1 l2 _ _ _ _ _ _ _ _ _ _ _
  refine ⟨1000, ?_⟩
  obtain ⟨r, hr, M⟩ := make_some 1000 (by omega) a0_0 a0_1 a0_2 a0_3 a0_4 l0_5
  have n0 := M.n0
  have n1 := M.n1
  obtain ⟨t, ht, t0, t1⟩ := within13 a1 r.1 (by omega) (by omega)
  simp only [plaitinglaw13_StateWalks.f, known_true, hr, ht, Option.bind_some, if_true]
  exact walks_l0 l2 r.1 t _ _ _ _ _ n0 n1 t0 t1 100 1000 1 0 0 0 (by omega) (by omega) ⟨by omega, by omega, by omega, by omega, fun _ => by omega, fun _ => rfl, by omega, by omega⟩ (by omega)

end Go.Proofs.Ytcfihnimogidhaa.Pure
