/- The pure statement of the law StateHeard: for all its arguments the plain function answers true. No condition but that the numbers are of their kind and the rows of a length that can be. -/
import Derived.Test.YtcfihnimogidhaaPStateHeardx4
namespace Go.Proofs.Ytcfihnimogidhaa.Pure
open Go.RowKit Go.Proofs.Ytcfihnimogidhaa.PStateHeard Go.Proofs.YtcfihnimogidhaaW.PrintWords Go.Proofs.YtcfihnimogidhaaW.PrintLast
set_option linter.unusedVariables false

theorem within3 (a n : Int) (h : 0 < n) (hn : n ≤ 4611686018427387904) : ∃ r, plaitinglaw3_within.f a n = some r ∧ 0 ≤ r ∧ r < n := by
  have h1 := Int.tmod_lt_of_pos a h
  have h2 := Int.lt_tmod_of_pos a h
  unfold plaitinglaw3_within.f
  rw [if_neg (by omega)]
  by_cases c : Int.tmod a n < 0
  · rw [if_pos c]
    refine ⟨_, rfl, ?_, ?_⟩ <;> (unfold wrap64; omega)
  · rw [if_neg c]
    exact ⟨_, rfl, by omega, h1⟩


/-- What Make answers. -/
structure Made (r : Int × Int × Int × Int × Int × List Int) : Prop where
  n0 : 6 ≤ r.1
  n1 : r.1 ≤ 12
  e0 : 0 ≤ r.2.2.1
  e1 : r.2.2.1 ≤ 20
  g0 : 0 ≤ r.2.2.2.1
  g1 : r.2.2.2.1 ≤ 20
  p0 : 4 * (r.2.2.1 + r.2.2.2.1 + 1) ≤ r.2.1
  p1 : r.2.1 ≤ 4 * (r.2.2.1 + r.2.2.2.1 + 1) + 99

theorem make_l0 (a0 a1 a2 a3 a4 : Int) (l : List Int) (n pi e g f : Int) (hn0 : 6 ≤ n) (hn1 : n ≤ 12) (d : Nat) : ∀ (k : Nat) (i : Int) (ps : List Int), 0 ≤ i → i + d = 3 → ps.length ≤ i → d < k →
    ∃ qs, plaitinglaw3_Make.l0 k i a0 a1 a2 a3 a4 l n pi e g f ps = some (n, pi, e, g, f, qs) := by
  induction d with
  | zero =>
    intro k i ps h0 h1 h2 hk
    obtain ⟨k, rfl⟩ : ∃ m, k = m + 1 := ⟨k - 1, by omega⟩
    simp only [plaitinglaw3_Make.l0]
    by_cases c : i < (l.length : Int)
    · rw [if_pos c, if_neg (by omega)]; exact ⟨_, rfl⟩
    · rw [if_neg c]; exact ⟨_, rfl⟩
  | succ d ih =>
    intro k i ps h0 h1 h2 hk
    obtain ⟨k, rfl⟩ : ∃ m, k = m + 1 := ⟨k - 1, by omega⟩
    simp only [plaitinglaw3_Make.l0]
    by_cases c : i < (l.length : Int)
    · have hw : wrap64 (n + 1) = n + 1 := by unfold wrap64; omega
      have hi : wrap64 (i + 1) = i + 1 := by unfold wrap64; omega
      obtain ⟨r, hr, _, _⟩ := within3 (rd l i) (n + 1) (by omega) (by omega)
      rw [if_pos c, if_pos (by omega), if_pos h0, hw, hr]
      simp only [Option.bind_some]
      rw [if_pos (by omega), hi]
      exact ih k (i + 1) _ (by omega) (by omega) (by rw [List.length_append, List.length_singleton]; omega) (by omega)
    · rw [if_neg c]; exact ⟨_, rfl⟩

theorem make_some (k : Nat) (hk : 5 < k) (a0 a1 a2 a3 a4 : Int) (l : List Int) : ∃ r, plaitinglaw3_Make.f k a0 a1 a2 a3 a4 l = some r ∧ Made r := by
  obtain ⟨t0, h0, b0, b0'⟩ := within3 a0 7 (by omega) (by omega)
  obtain ⟨t2, h2, b2, b2'⟩ := within3 a2 21 (by omega) (by omega)
  obtain ⟨t3, h3, b3, b3'⟩ := within3 a3 21 (by omega) (by omega)
  obtain ⟨t4, h4, b4, b4'⟩ := within3 a4 65536 (by omega) (by omega)
  obtain ⟨t5, h5, b5, b5'⟩ := within3 a4 3 (by omega) (by omega)
  obtain ⟨t6, h6, b6, b6'⟩ := within3 a4 40 (by omega) (by omega)
  obtain ⟨t1, h1, b1, b1'⟩ := within3 a1 100 (by omega) (by omega)
  have w0 : wrap64 (6 + t0) = 6 + t0 := by unfold wrap64; omega
  have w1 : wrap64 (t2 + t3) = t2 + t3 := by unfold wrap64; omega
  have w2 : wrap64 (t2 + t3 + 1) = t2 + t3 + 1 := by unfold wrap64; omega
  have w3 : wrap64 (4 * (t2 + t3 + 1)) = 4 * (t2 + t3 + 1) := by unfold wrap64; omega
  have w4 : wrap64 (4 * (t2 + t3 + 1) + t1) = 4 * (t2 + t3 + 1) + t1 := by unfold wrap64; omega
  have hj : ∀ f, ∃ r, plaitinglaw3_Make.j0 k a0 a1 a2 a3 a4 l (6 + t0) 0 t2 t3 f = some r ∧ Made r := by
    intro f
    obtain ⟨k, rfl⟩ : ∃ m, k = m + 1 := ⟨k - 1, by omega⟩
    obtain ⟨qs, hq⟩ := make_l0 a0 a1 a2 a3 a4 l (6 + t0) (4 * (t2 + t3 + 1) + t1) t2 t3 f (by omega) (by omega) 3 k 0 [] (by omega) (by omega) (by simp) (by omega)
    simp only [plaitinglaw3_Make.j0, h1, Option.bind_some, w1, w2, w3, w4]
    exact ⟨_, hq, ⟨by show 6 ≤ 6 + t0; omega, by show 6 + t0 ≤ 12; omega, b2, by show t2 ≤ 20; omega, b3, by show t3 ≤ 20; omega, by show 4 * (t2 + t3 + 1) ≤ 4 * (t2 + t3 + 1) + t1; omega, by show 4 * (t2 + t3 + 1) + t1 ≤ 4 * (t2 + t3 + 1) + 99; omega⟩⟩
  simp only [plaitinglaw3_Make.f, h0, h2, h3, h4, h5, h6, Option.bind_some, w0]
  by_cases c : t5 = 0
  · rw [if_pos c]; exact hj _
  · rw [if_neg c]; exact hj _
theorem within13 (a n : Int) (h : 0 < n) (hn : n ≤ 4611686018427387904) : ∃ r, plaitinglaw13_within.f a n = some r ∧ 0 ≤ r ∧ r < n := within3 a n h hn
theorem known_true : plaitinglaw13_known.f = some true := by decide +kernel

/-- What comes next, by the machine's numbers. -/
def nxt (n i st tm hd : Int) : Int × Int :=
  if st = 1 then (if hd > 0 then (3, 0) else if wrap64 (tm + 1) ≥ wrap64 (n + i) then (2, 0) else (1, wrap64 (tm + 1)))
  else if st = 2 then (3, 0)
  else if st = 3 then (if wrap64 (hd + 1) ≥ wrap64 (wrap64 (Int.tdiv n 2) + 1) then (4, 0) else if wrap64 (tm + 1) ≥ 3 then (1, 0) else (3, wrap64 (tm + 1)))
  else if st = 4 then (if wrap64 (hd + 1) ≥ wrap64 (wrap64 (Int.tdiv n 2) + 1) then (4, 0) else (1, 0))
  else (0, 0)
theorem next_eq (c0 c1 c2 c3 c4 : Int) (ps : List Int) (i st tm hd : Int) : state_Next.f c0 c1 c2 c3 c4 ps i st tm hd = some (nxt c0 i st tm hd) := by
  simp only [state_Next.f, conf_Most.f, state_wait_on.f, nxt, Option.bind_some]
  repeat' split
  all_goals first | rfl | simp_all
/-- What comes next, by plain numbers. -/
def nx (n i st tm hd : Int) : Int × Int :=
  if st = 1 then (if hd > 0 then (3, 0) else if n + i ≤ tm + 1 then (2, 0) else (1, tm + 1))
  else if st = 2 then (3, 0)
  else if st = 3 then (if n < 2 * (hd + 1) then (4, 0) else if 3 ≤ tm + 1 then (1, 0) else (3, tm + 1))
  else if st = 4 then (if n < 2 * (hd + 1) then (4, 0) else (1, 0))
  else (0, 0)
theorem nxt_nx (n i st tm hd : Int) (n0 : 6 ≤ n) (n1 : n ≤ 12) (i0 : 0 ≤ i) (i1 : i < n) (t0 : 0 ≤ tm) (t1 : tm ≤ 100000) (h0 : 0 ≤ hd) (h1 : hd < n) : nxt n i st tm hd = nx n i st tm hd := by
  have w1 : wrap64 (tm + 1) = tm + 1 := by unfold wrap64; omega
  have w2 : wrap64 (n + i) = n + i := by unfold wrap64; omega
  have w3 : wrap64 (hd + 1) = hd + 1 := by unfold wrap64; omega
  have w4 : wrap64 (wrap64 (Int.tdiv n 2) + 1) = n / 2 + 1 := by
    rw [Int.tdiv_eq_ediv_of_nonneg (by omega)]
    unfold wrap64
    omega
  have e : (hd + 1 ≥ n / 2 + 1) = (n < 2 * (hd + 1)) := by
    apply propext
    omega
  unfold nxt nx
  simp only [w1, w2, w3, w4, e, ge_iff_le]


theorem StateHeard : ∀ (a0_0 : Int) (a0_1 : Int) (a0_2 : Int) (a0_3 : Int) (a0_4 : Int) (l0_5 : List Int) (a1 : Int) (a2 : Int) (a3 : Int), (Lit.int .i64 a0_0).wf = true → (Lit.int .i64 a0_1).wf = true → (Lit.int .i64 a0_2).wf = true → (Lit.int .i64 a0_3).wf = true → (Lit.int .i64 a0_4).wf = true → l0_5.length ≤ maxLen → (∀ x ∈ l0_5, (Lit.int .i64 x).wf = true) → (Lit.int .i64 a1).wf = true → (Lit.int .i64 a2).wf = true → (Lit.int .i64 a3).wf = true → ∃ k, plaitinglaw13_StateHeard.f k a0_0 a0_1 a0_2 a0_3 a0_4 l0_5 a1 a2 a3 = some true := by
  intro a0_0 a0_1 a0_2 a0_3 a0_4 l0_5 a1 a2 a3 _ _ _ _ _ _ _ _ _ _
  refine ⟨100, ?_⟩
  obtain ⟨r, hr, M⟩ := make_some 100 (by omega) a0_0 a0_1 a0_2 a0_3 a0_4 l0_5
  have n0 := M.n0
  have n1 := M.n1
  have w0 : wrap64 (r.1 - 1) = r.1 - 1 := by unfold wrap64; omega
  obtain ⟨t, ht, t0, t1⟩ := within13 a1 r.1 (by omega) (by omega)
  obtain ⟨u, hu, u0, u1⟩ := within13 a2 (r.1 - 1) (by omega) (by omega)
  obtain ⟨v, hv, v0, v1⟩ := within13 a3 40 (by omega) (by omega)
  have w1 : wrap64 (1 + u) = 1 + u := by unfold wrap64; omega
  have w2 : wrap64 (1 + u - 1) = 1 + u - 1 := by unfold wrap64; omega
  have f1 : nxt r.1 t 1 v (1 + u) = (3, 0) := by
    unfold nxt
    rw [if_pos rfl, if_pos (by omega)]
  have f2 : nxt r.1 t 2 v (1 + u - 1) = (3, 0) := by simp [nxt]
  have f3 : nxt r.1 t 0 v (1 + u) = (0, 0) := by simp [nxt]
  have w4 : wrap64 (wrap64 (Int.tdiv r.1 2) + 1) = r.1 / 2 + 1 := by
    rw [Int.tdiv_eq_ediv_of_nonneg (by omega)]
    unfold wrap64
    omega
  simp only [plaitinglaw13_StateHeard.f, plaitingref3_Most.f, known_true, hr, w0, ht, hu, hv, w1, w2, w4, next_eq, f1, f2, f3, Option.bind_some, if_true]
  rw [decide_eq_true (by omega)]

end Go.Proofs.Ytcfihnimogidhaa.Pure
