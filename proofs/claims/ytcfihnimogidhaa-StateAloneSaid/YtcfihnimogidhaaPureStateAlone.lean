/- The pure statement of the law StateAlone: for all its arguments the plain function answers true. No condition but that the numbers are of their kind and the rows of a length that can be. -/
import Derived.Test.YtcfihnimogidhaaPStateAlonex3
namespace Go.Proofs.Ytcfihnimogidhaa.Pure
open Go.RowKit Go.Proofs.Ytcfihnimogidhaa.PStateAlone Go.Proofs.YtcfihnimogidhaaW.PrintWords Go.Proofs.YtcfihnimogidhaaW.PrintLast
set_option linter.unusedVariables false

theorem within3 (a n : Int) (h : 0 < n) (hn : n ≤ 4611686018427387904) : ∃ r, plaitinglaw3_within.f a n = some r ∧ 0 ≤ r ∧ r < n := by
  have h1 := Int.tmod_lt_of_pos a h
  have h2 := Int.lt_tmod_of_pos a h
  unfold plaitinglaw3_within.f
  rw [if_neg (by omega)]
  by_cases c : Int.tmod a n < 0
  · rw [if_pos c]
    refine ⟨_, rfl, ?_, ?_⟩ <;> (unfold wrap64; omega)
  · rw [if_neg c]
    exact ⟨_, rfl, by omega, h1⟩


/-- What Make answers. -/
structure Made (r : Int × Int × Int × Int × Int × List Int) : Prop where
  n0 : 6 ≤ r.1
  n1 : r.1 ≤ 12
  e0 : 0 ≤ r.2.2.1
  e1 : r.2.2.1 ≤ 20
  g0 : 0 ≤ r.2.2.2.1
  g1 : r.2.2.2.1 ≤ 20
  p0 : 4 * (r.2.2.1 + r.2.2.2.1 + 1) ≤ r.2.1
  p1 : r.2.1 ≤ 4 * (r.2.2.1 + r.2.2.2.1 + 1) + 99

theorem make_l0 (a0 a1 a2 a3 a4 : Int) (l : List Int) (n pi e g f : Int) (hn0 : 6 ≤ n) (hn1 : n ≤ 12) (d : Nat) : ∀ (k : Nat) (i : Int) (ps : List Int), 0 ≤ i → i + d = 3 → ps.length ≤ i → d < k →
    ∃ qs, plaitinglaw3_Make.l0 k i a0 a1 a2 a3 a4 l n pi e g f ps = some (n, pi, e, g, f, qs) := by
  induction d with
  | zero =>
    intro k i ps h0 h1 h2 hk
    obtain ⟨k, rfl⟩ : ∃ m, k = m + 1 := ⟨k - 1, by omega⟩
    simp only [plaitinglaw3_Make.l0]
    by_cases c : i < (l.length : Int)
    · rw [if_pos c, if_neg (by omega)]; exact ⟨_, rfl⟩
    · rw [if_neg c]; exact ⟨_, rfl⟩
  | succ d ih =>
    intro k i ps h0 h1 h2 hk
    obtain ⟨k, rfl⟩ : ∃ m, k = m + 1 := ⟨k - 1, by omega⟩
    simp only [plaitinglaw3_Make.l0]
    by_cases c : i < (l.length : Int)
    · have hw : wrap64 (n + 1) = n + 1 := by unfold wrap64; omega
      have hi : wrap64 (i + 1) = i + 1 := by unfold wrap64; omega
      obtain ⟨r, hr, _, _⟩ := within3 (rd l i) (n + 1) (by omega) (by omega)
      rw [if_pos c, if_pos (by omega), if_pos h0, hw, hr]
      simp only [Option.bind_some]
      rw [if_pos (by omega), hi]
      exact ih k (i + 1) _ (by omega) (by omega) (by rw [List.length_append, List.length_singleton]; omega) (by omega)
    · rw [if_neg c]; exact ⟨_, rfl⟩

theorem make_some (k : Nat) (hk : 5 < k) (a0 a1 a2 a3 a4 : Int) (l : List Int) : ∃ r, plaitinglaw3_Make.f k a0 a1 a2 a3 a4 l = some r ∧ Made r := by
  obtain ⟨t0, h0, b0, b0'⟩ := within3 a0 7 (by omega) (by omega)
  obtain ⟨t2, h2, b2, b2'⟩ := within3 a2 21 (by omega) (by omega)
  obtain ⟨t3, h3, b3, b3'⟩ := within3 a3 21 (by omega) (by omega)
  obtain ⟨t4, h4, b4, b4'⟩ := within3 a4 65536 (by omega) (by omega)
  obtain ⟨t5, h5, b5, b5'⟩ := within3 a4 3 (by omega) (by omega)
  obtain ⟨t6, h6, b6, b6'⟩ := within3 a4 40 (by omega) (by omega)
  obtain ⟨t1, h1, b1, b1'⟩ := within3 a1 100 (by omega) (by omega)
  have w0 : wrap64 (6 + t0) = 6 + t0 := by unfold wrap64; omega
  have w1 : wrap64 (t2 + t3) = t2 + t3 := by unfold wrap64; omega
  have w2 : wrap64 (t2 + t3 + 1) = t2 + t3 + 1 := by unfold wrap64; omega
  have w3 : wrap64 (4 * (t2 + t3 + 1)) = 4 * (t2 + t3 + 1) := by unfold wrap64; omega
  have w4 : wrap64 (4 * (t2 + t3 + 1) + t1) = 4 * (t2 + t3 + 1) + t1 := by unfold wrap64; omega
  have hj : ∀ f, ∃ r, plaitinglaw3_Make.j0 k a0 a1 a2 a3 a4 l (6 + t0) 0 t2 t3 f = some r ∧ Made r := by
    intro f
    obtain ⟨k, rfl⟩ : ∃ m, k = m + 1 := ⟨k - 1, by omega⟩
    obtain ⟨qs, hq⟩ := make_l0 a0 a1 a2 a3 a4 l (6 + t0) (4 * (t2 + t3 + 1) + t1) t2 t3 f (by omega) (by omega) 3 k 0 [] (by omega) (by omega) (by simp) (by omega)
    simp only [plaitinglaw3_Make.j0, h1, Option.bind_some, w1, w2, w3, w4]
    exact ⟨_, hq, ⟨by show 6 ≤ 6 + t0; omega, by show 6 + t0 ≤ 12; omega, b2, by show t2 ≤ 20; omega, b3, by show t3 ≤ 20; omega, by show 4 * (t2 + t3 + 1) ≤ 4 * (t2 + t3 + 1) + t1; omega, by show 4 * (t2 + t3 + 1) + t1 ≤ 4 * (t2 + t3 + 1) + 99; omega⟩⟩
  simp only [plaitinglaw3_Make.f, h0, h2, h3, h4, h5, h6, Option.bind_some, w0]
  by_cases c : t5 = 0
  · rw [if_pos c]; exact hj _
  · rw [if_neg c]; exact hj _
theorem within13 (a n : Int) (h : 0 < n) (hn : n ≤ 4611686018427387904) : ∃ r, plaitinglaw13_within.f a n = some r ∧ 0 ≤ r ∧ r < n := within3 a n h hn
theorem known_true : plaitinglaw13_known.f = some true := by decide +kernel

/-- What comes next, by the machine's numbers. -/
def nxt (n i st tm hd : Int) : Int × Int :=
  if st = 1 then (if hd > 0 then (3, 0) else if wrap64 (tm + 1) ≥ wrap64 (n + i) then (2, 0) else (1, wrap64 (tm + 1)))
  else if st = 2 then (3, 0)
  else if st = 3 then (if wrap64 (hd + 1) ≥ wrap64 (wrap64 (Int.tdiv n 2) + 1) then (4, 0) else if wrap64 (tm + 1) ≥ 3 then (1, 0) else (3, wrap64 (tm + 1)))
  else if st = 4 then (if wrap64 (hd + 1) ≥ wrap64 (wrap64 (Int.tdiv n 2) + 1) then (4, 0) else (1, 0))
  else (0, 0)
theorem next_eq (c0 c1 c2 c3 c4 : Int) (ps : List Int) (i st tm hd : Int) : state_Next.f c0 c1 c2 c3 c4 ps i st tm hd = some (nxt c0 i st tm hd) := by
  simp only [state_Next.f, conf_Most.f, state_wait_on.f, nxt, Option.bind_some]
  repeat' split
  all_goals first | rfl | simp_all
/-- What comes next, by plain numbers. -/
def nx (n i st tm hd : Int) : Int × Int :=
  if st = 1 then (if hd > 0 then (3, 0) else if n + i ≤ tm + 1 then (2, 0) else (1, tm + 1))
  else if st = 2 then (3, 0)
  else if st = 3 then (if n < 2 * (hd + 1) then (4, 0) else if 3 ≤ tm + 1 then (1, 0) else (3, tm + 1))
  else if st = 4 then (if n < 2 * (hd + 1) then (4, 0) else (1, 0))
  else (0, 0)
theorem nxt_nx (n i st tm hd : Int) (n0 : 6 ≤ n) (n1 : n ≤ 12) (i0 : 0 ≤ i) (i1 : i < n) (t0 : 0 ≤ tm) (t1 : tm ≤ 100000) (h0 : 0 ≤ hd) (h1 : hd < n) : nxt n i st tm hd = nx n i st tm hd := by
  have w1 : wrap64 (tm + 1) = tm + 1 := by unfold wrap64; omega
  have w2 : wrap64 (n + i) = n + i := by unfold wrap64; omega
  have w3 : wrap64 (hd + 1) = hd + 1 := by unfold wrap64; omega
  have w4 : wrap64 (wrap64 (Int.tdiv n 2) + 1) = n / 2 + 1 := by
    rw [Int.tdiv_eq_ediv_of_nonneg (by omega)]
    unfold wrap64
    omega
  have e : (hd + 1 ≥ n / 2 + 1) = (n < 2 * (hd + 1)) := by
    apply propext
    omega
  unfold nxt nx
  simp only [w1, w2, w3, w4, e, ge_iff_le]

/-- Where a node that hears nobody stands in a round. -/
def Stands (n i r st tm : Int) : Prop :=
  (r % (n + i + 4) < n + i → st = 1 ∧ tm = r % (n + i + 4)) ∧ (r % (n + i + 4) = n + i → st = 2 ∧ tm = 0) ∧ (n + i < r % (n + i + 4) → st = 3 ∧ tm = r % (n + i + 4) - (n + i + 1))
theorem stands_step (n i r st tm : Int) (n0 : 6 ≤ n) (n1 : n ≤ 12) (i0 : 0 ≤ i) (i1 : i < n) (r0 : 0 ≤ r) (h : Stands n i r st tm) : Stands n i (r + 1) (nx n i st tm 0).1 (nx n i st tm 0).2 := by
  obtain ⟨h1, h2, h3⟩ := h
  have hp : 0 < n + i + 4 := by omega
  have q0 := Int.emod_nonneg r (by omega : n + i + 4 ≠ 0)
  have q1 := Int.emod_lt_of_pos r hp
  have hs : (r + 1) % (n + i + 4) = if r % (n + i + 4) = n + i + 3 then 0 else r % (n + i + 4) + 1 := by
    rw [Int.add_emod, Int.emod_eq_of_lt (by omega : (0 : Int) ≤ 1) (by omega : (1 : Int) < n + i + 4)]
    split
    · rename_i e
      rw [e, show n + i + 3 + 1 = n + i + 4 from by omega, Int.emod_self]
    · exact Int.emod_eq_of_lt (by omega) (by omega)
  unfold Stands
  rw [hs]
  generalize r % (n + i + 4) = q at *
  rcases (by omega : q < n + i ∨ q = n + i ∨ n + i < q) with c | c | c
  · obtain ⟨rfl, rfl⟩ := h1 c
    rw [if_neg (by omega)]
    by_cases d : n + i ≤ tm + 1
    · have e : nx n i 1 tm 0 = (2, 0) := by simp [nx, d]
      rw [e]
      exact ⟨fun _ => by omega, fun _ => ⟨rfl, rfl⟩, fun _ => by omega⟩
    · have e : nx n i 1 tm 0 = (1, tm + 1) := by simp [nx, d]
      rw [e]
      exact ⟨fun _ => ⟨rfl, rfl⟩, fun _ => by omega, fun _ => by omega⟩
  · obtain ⟨rfl, rfl⟩ := h2 c
    rw [if_neg (by omega)]
    have e : nx n i 2 0 0 = (3, 0) := by simp [nx]
    rw [e]
    exact ⟨fun _ => by omega, fun _ => by omega, fun _ => ⟨rfl, by show (0 : Int) = _; omega⟩⟩
  · obtain ⟨rfl, rfl⟩ := h3 c
    by_cases d : q = n + i + 3
    · rw [if_pos d]
      have e : nx n i 3 (q - (n + i + 1)) 0 = (1, 0) := by
        unfold nx
        rw [if_neg (by omega), if_neg (by omega), if_pos rfl, if_neg (by omega), if_pos (by omega)]
      rw [e]
      exact ⟨fun _ => ⟨rfl, rfl⟩, fun _ => by omega, fun _ => by omega⟩
    · rw [if_neg d]
      have e : nx n i 3 (q - (n + i + 1)) 0 = (3, q - (n + i + 1) + 1) := by
        unfold nx
        rw [if_neg (by omega), if_neg (by omega), if_pos rfl, if_neg (by omega), if_neg (by omega)]
      rw [e]
      exact ⟨fun _ => by omega, fun _ => by omega, fun _ => ⟨rfl, by show q - (n + i + 1) + 1 = _; omega⟩⟩

theorem alone_l0 (a2 R : Int) (hR : plaitinglaw13_within.f a2 100 = some R) (R1 : R < 100) (n i : Int) (c1 c2 c3 c4 : Int) (ps : List Int) (n0 : 6 ≤ n) (n1 : n ≤ 12) (i0 : 0 ≤ i) (i1 : i < n) (d : Nat) :
    ∀ (k : Nat) (r st tm : Int), 0 ≤ r → r + d = 100 → Stands n i r st tm → d < k → plaitinglaw13_StateAlone.l0 k a2 i (n + i + 4) st tm r n c1 c2 c3 c4 ps = some true := by
  induction d with
  | zero =>
    intro k r st tm h2 h3 hs hk
    obtain ⟨k, rfl⟩ : ∃ m, k = m + 1 := ⟨k - 1, by omega⟩
    simp only [plaitinglaw13_StateAlone.l0, hR, Option.bind_some]
    rw [if_neg (by omega)]
  | succ d ih =>
    intro k r st tm h2 h3 hs hk
    obtain ⟨k, rfl⟩ : ∃ m, k = m + 1 := ⟨k - 1, by omega⟩
    simp only [plaitinglaw13_StateAlone.l0, hR, next_eq, Option.bind_some]
    by_cases c : r < R
    · have hi : wrap64 (r + 1) = r + 1 := by unfold wrap64; omega
      have hw : wrap64 (n + i) = n + i := by unfold wrap64; omega
      have hmod : Int.tmod r (n + i + 4) = r % (n + i + 4) := Int.tmod_eq_emod_of_nonneg h2
      have hst := stands_step n i r st tm n0 n1 i0 i1 h2 hs
      have q0 := Int.emod_nonneg r (by omega : n + i + 4 ≠ 0)
      have q1 := Int.emod_lt_of_pos r (by omega : 0 < n + i + 4)
      have g1 := hs.1
      have g2 := hs.2.1
      have g3 := hs.2.2
      have ht : 0 ≤ tm ∧ tm ≤ 100000 := by
        rcases (by omega : r % (n + i + 4) < n + i ∨ r % (n + i + 4) = n + i ∨ n + i < r % (n + i + 4)) with c | c | c
        · have := g1 c; omega
        · have := g2 c; omega
        · have := g3 c; omega
      have hn : nxt n i st tm 0 = nx n i st tm 0 := nxt_nx _ _ _ _ _ n0 n1 i0 i1 ht.1 ht.2 (by omega) (by omega)
      have hgo := ih k (r + 1) (nx n i st tm 0).1 (nx n i st tm 0).2 (by omega) (by omega) hst (by omega)
      rw [if_pos c, if_neg (by omega), hmod, hw, hn, hi]
      by_cases e1 : r % (n + i + 4) = n + i
      · rw [if_pos e1, if_pos (hs.2.1 e1).1]; exact hgo
      · rw [if_neg e1]
        by_cases e2 : r % (n + i + 4) > n + i
        · rw [if_pos e2, if_pos (hs.2.2 e2).1]; exact hgo
        · rw [if_neg e2, if_pos (hs.1 (by omega)).1]; exact hgo
    · rw [if_neg c]

theorem StateAlone : ∀ (a0_0 : Int) (a0_1 : Int) (a0_2 : Int) (a0_3 : Int) (a0_4 : Int) (l0_5 : List Int) (a1 : Int) (a2 : Int), (Lit.int .i64 a0_0).wf = true → (Lit.int .i64 a0_1).wf = true → (Lit.int .i64 a0_2).wf = true → (Lit.int .i64 a0_3).wf = true → (Lit.int .i64 a0_4).wf = true → l0_5.length ≤ maxLen → (∀ x ∈ l0_5, (Lit.int .i64 x).wf = true) → (Lit.int .i64 a1).wf = true → (Lit.int .i64 a2).wf = true → ∃ k, plaitinglaw13_StateAlone.f k a0_0 a0_1 a0_2 a0_3 a0_4 l0_5 a1 a2 = some true := by
  intro a0_0 a0_1 a0_2 a0_3 a0_4 l0_5 a1 a2 _ _ _ _ _ _ _ _ _
  refine ⟨200, ?_⟩
  obtain ⟨r, hr, M⟩ := make_some 200 (by omega) a0_0 a0_1 a0_2 a0_3 a0_4 l0_5
  have n0 := M.n0
  have n1 := M.n1
  obtain ⟨t, ht, t0, t1⟩ := within13 a1 r.1 (by omega) (by omega)
  obtain ⟨u, hu, u0, u1⟩ := within13 a2 100 (by omega) (by omega)
  have w1 : wrap64 (r.1 + t) = r.1 + t := by unfold wrap64; omega
  have w2 : wrap64 (r.1 + t + 1) = r.1 + t + 1 := by unfold wrap64; omega
  have w3 : wrap64 (r.1 + t + 1 + 3) = r.1 + t + 4 := by unfold wrap64; omega
  simp only [plaitinglaw13_StateAlone.f, known_true, hr, ht, w1, w2, w3, Option.bind_some, if_true]
  refine alone_l0 a2 u hu u1 r.1 t _ _ _ _ _ n0 n1 t0 t1 100 200 0 1 0 (by omega) (by omega) ?_ (by omega)
  have z : (0 : Int) % (r.1 + t + 4) = 0 := Int.zero_emod _
  refine ⟨fun _ => ⟨rfl, z.symm⟩, fun h => ?_, fun h => ?_⟩ <;> (rw [z] at h; omega)

end Go.Proofs.Ytcfihnimogidhaa.Pure
