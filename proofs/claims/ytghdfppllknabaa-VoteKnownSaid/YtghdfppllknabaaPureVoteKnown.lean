/- The pure statement of the law VoteKnown: for all its arguments the plain function answers true. No condition but that the numbers are of their kind and the rows of a length that can be. -/
import Derived.Test.YtghdfppllknabaaPVoteKnownx4
namespace Go.Proofs.Ytghdfppllknabaa.Pure
open Go.RowKit Go.Proofs.Ytghdfppllknabaa.PVoteKnown Go.Proofs.YtghdfppllknabaaW.PrintWords Go.Proofs.YtghdfppllknabaaW.PrintLast
set_option linter.unusedVariables false

theorem within15 (a n : Int) (h : 0 < n) (hn : n ≤ 4611686018427387904) : ∃ r, plaitinglaw15_within.f a n = some r ∧ 0 ≤ r ∧ r < n := by
  have h1 := Int.tmod_lt_of_pos a h
  have h2 := Int.lt_tmod_of_pos a h
  unfold plaitinglaw15_within.f
  rw [if_neg (by omega)]
  by_cases c : Int.tmod a n < 0
  · rw [if_pos c]
    refine ⟨_, rfl, ?_, ?_⟩ <;> (unfold wrap64; omega)
  · rw [if_neg c]
    exact ⟨_, rfl, by omega, h1⟩

/-- A vote for an item. -/
def isFor (a b : Int) (v : S31) : Bool := v.f0 && (v.f1.f0 == a && v.f1.f1 == b)
/-- How many votes are for an item. -/
def cN (l : List S31) (a b : Int) : Nat := l.countP (isFor a b)
theorem cN_le (l : List S31) (a b : Int) : cN l a b ≤ l.length := List.countP_le_length
theorem cN_snoc (l : List S31) (v : S31) (a b : Int) : cN (l ++ [v]) a b = cN l a b + if isFor a b v = true then 1 else 0 := by
  unfold cN
  rw [List.countP_append, List.countP_singleton]
theorem cN_two (a b a' b' : Int) (h : ¬ (a = a' ∧ b = b')) : ∀ l : List S31, cN l a b + cN l a' b' ≤ l.length
  | [] => by simp [cN]
  | v :: r => by
    have ih := cN_two a b a' b' h r
    unfold cN at *
    rw [List.countP_cons, List.countP_cons, List.length_cons]
    by_cases c : isFor a b v = true
    · have c' : ¬ isFor a' b' v = true := fun c' => by
        simp only [isFor, Bool.and_eq_true, beq_iff_eq] at c c'
        exact h ⟨c.2.1.symm.trans c'.2.1, c.2.2.symm.trans c'.2.2⟩
      rw [if_pos c, if_neg c']
      omega
    · rw [if_neg c]
      split <;> omega
/-- What Most answers: an item that more than half have, or, where there is none, the zero item. -/
def Good (l : List S31) (r : Int × Int) : Prop := l.length < 2 * cN l r.1 r.2 ∨ (r = (0, 0) ∧ ∀ a b, 2 * cN l a b ≤ l.length)
theorem good_one {l : List S31} {r r' : Int × Int} (h : Good l r) (h' : Good l r') : r = r' := by
  rcases h with h | ⟨rfl, h⟩
  · rcases h' with h' | ⟨rfl, h'⟩
    · by_cases c : r.1 = r'.1 ∧ r.2 = r'.2
      · exact Prod.ext c.1 c.2
      · have := cN_two r.1 r.2 r'.1 r'.2 c l
        omega
    · have := h' r.1 r.2
      omega
  · rcases h' with h' | ⟨rfl, h'⟩
    · have := h r'.1 r'.2
      omega
    · rfl
theorem good_of {l : List S31} {a b : Int} (h : l.length < 2 * cN l a b) : Good l (a, b) := .inl h

theorem rd_nat (l : List S31) (j : Nat) (h : j < l.length) : rd_T31 l (j : Int) = l[j] := by
  unfold rd_T31
  rw [Int.toNat_natCast, List.getD_eq_getElem?_getD, List.getElem?_eq_getElem h]
  rfl
theorem take_cN (l : List S31) (j : Nat) (h : j < l.length) (a b : Int) : cN (l.take (j + 1)) a b = cN (l.take j) a b + if isFor a b (rd_T31 l (j : Int)) = true then 1 else 0 := by
  rw [List.take_succ_eq_append_getElem h, cN_snoc, rd_nat l j h]

theorem most_l1' (l : List S31) (hl : l.length ≤ 1000) (i : Nat) (hi : i < l.length) (k : Nat) (d : Nat) : ∀ (j : Nat), j + d = l.length →
    vote_Most.l1 (k + d + 1) l i ((cN (l.take j) (rd_T31 l i).f1.f0 (rd_T31 l i).f1.f1 : Nat) : Int) j =
      if (rd_T31 l i).f0 = true then (if l.length < 2 * cN l (rd_T31 l i).f1.f0 (rd_T31 l i).f1.f1 then some ((rd_T31 l i).f1.f0, (rd_T31 l i).f1.f1) else vote_Most.l0 k l ((i + 1 : Nat) : Int)) else vote_Most.l0 k l ((i + 1 : Nat) : Int) := by
  induction d with
  | zero =>
    intro j hj
    obtain rfl : j = l.length := by omega
    have hw : wrap64 ((i : Int) + 1) = ((i + 1 : Nat) : Int) := by unfold wrap64; omega
    have hc := cN_le l (rd_T31 l i).f1.f0 (rd_T31 l i).f1.f1
    have h2 : wrap64 (2 * ((cN l (rd_T31 l i).f1.f0 (rd_T31 l i).f1.f1 : Nat) : Int)) = 2 * ((cN l (rd_T31 l i).f1.f0 (rd_T31 l i).f1.f1 : Nat) : Int) := by
      generalize cN l (rd_T31 l i).f1.f0 (rd_T31 l i).f1.f1 = q at *
      unfold wrap64
      omega
    simp only [vote_Most.l1]
    rw [if_neg (by omega), if_pos (by omega), if_pos (by omega), hw, List.take_length, h2]
    by_cases c : (rd_T31 l i).f0 = true
    · rw [if_pos c, if_pos c]
      by_cases c2 : l.length < 2 * cN l (rd_T31 l i).f1.f0 (rd_T31 l i).f1.f1
      · rw [if_pos c2, if_pos (by omega)]
      · rw [if_neg c2, if_neg (by omega)]
    · rw [if_neg c, if_neg c]
  | succ d ih =>
    intro j hj
    have hlt : j < l.length := by omega
    have hw : wrap64 ((j : Int) + 1) = ((j + 1 : Nat) : Int) := by unfold wrap64; omega
    have hs := take_cN l j hlt (rd_T31 l i).f1.f0 (rd_T31 l i).f1.f1
    have hb := cN_le (l.take j) (rd_T31 l i).f1.f0 (rd_T31 l i).f1.f1
    have hb2 : (l.take j).length ≤ l.length := by rw [List.length_take]; omega
    have hc : wrap64 (((cN (l.take j) (rd_T31 l i).f1.f0 (rd_T31 l i).f1.f1 : Nat) : Int) + 1) = ((cN (l.take j) (rd_T31 l i).f1.f0 (rd_T31 l i).f1.f1 + 1 : Nat) : Int) := by
      generalize cN (l.take j) (rd_T31 l i).f1.f0 (rd_T31 l i).f1.f1 = q at *
      unfold wrap64
      omega
    have go := ih (j + 1) (by omega)
    rw [show k + (d + 1) + 1 = (k + d + 1) + 1 from by omega]
    generalize k + d + 1 = m at go ⊢
    simp only [vote_Most.l1]
    rw [if_pos (by omega), if_pos (by omega), hc, hw, ← go, hs]
    by_cases c1 : (rd_T31 l j).f0 = true
    · rw [if_pos c1, if_pos (by omega), if_pos (by omega)]
      by_cases c2 : (((rd_T31 l j).f1.f0) == ((rd_T31 l i).f1.f0) && (((rd_T31 l j).f1.f1) == ((rd_T31 l i).f1.f1))) = true
      · rw [if_pos c2, if_pos (by simp only [isFor, c1, c2, Bool.and_self])]
      · rw [if_neg c2, if_neg (by simp only [isFor, c1, Bool.true_and]; exact c2)]
        rfl
    · rw [if_neg c1, if_neg (by simp only [isFor, Bool.eq_false_iff.mpr c1, Bool.false_and]; exact Bool.false_ne_true)]
      rfl

theorem most_l0' (l : List S31) (hl : l.length ≤ 1000) (d : Nat) : ∀ (k i : Nat), i + d = l.length → (l.length + 3) * (d + 1) < k →
    ∃ r : Int × Int, vote_Most.l0 k l i = some r ∧ (l.length < 2 * cN l r.1 r.2 ∨ (r = (0, 0) ∧ ∀ j, i ≤ j → j < l.length → (rd_T31 l (j : Int)).f0 = true → 2 * cN l (rd_T31 l (j : Int)).f1.f0 (rd_T31 l (j : Int)).f1.f1 ≤ l.length)) := by
  induction d with
  | zero =>
    intro k i hi hk
    obtain ⟨k, rfl⟩ : ∃ m, k = m + 1 := ⟨k - 1, by omega⟩
    refine ⟨(0, 0), ?_, .inr ⟨rfl, fun j h1 h2 => by omega⟩⟩
    simp only [vote_Most.l0]
    rw [if_neg (by omega)]
  | succ d ih =>
    intro k i hi hk
    have hmul : (l.length + 3) * (d + 1 + 1) = (l.length + 3) * (d + 1) + (l.length + 3) := Nat.mul_succ _ _
    obtain ⟨k, rfl⟩ : ∃ m, k = m + l.length + 1 + 1 := ⟨k - (l.length + 2), by omega⟩
    have hlt : i < l.length := by omega
    have h1 := most_l1' l hl i hlt k l.length 0 (by omega)
    have hz : ((cN (l.take 0) (rd_T31 l i).f1.f0 (rd_T31 l i).f1.f1 : Nat) : Int) = 0 := by simp [cN]
    rw [hz] at h1
    obtain ⟨r, hr, hg⟩ := ih k (i + 1) (by omega) (by omega)
    simp only [vote_Most.l0]
    rw [if_pos (by omega)]
    have h1' : vote_Most.l1 (k + l.length + 1) l i 0 0 = _ := h1
    rw [h1']
    by_cases c1 : (rd_T31 l i).f0 = true
    · rw [if_pos c1]
      by_cases c2 : l.length < 2 * cN l (rd_T31 l i).f1.f0 (rd_T31 l i).f1.f1
      · rw [if_pos c2]
        exact ⟨_, rfl, .inl c2⟩
      · rw [if_neg c2]
        refine ⟨r, hr, ?_⟩
        rcases hg with hg | ⟨e, hg⟩
        · exact .inl hg
        · refine .inr ⟨e, fun j g1 g2 g3 => ?_⟩
          by_cases q : j = i
          · subst q; omega
          · exact hg j (by omega) g2 g3
    · rw [if_neg c1]
      refine ⟨r, hr, ?_⟩
      rcases hg with hg | ⟨e, hg⟩
      · exact .inl hg
      · refine .inr ⟨e, fun j g1 g2 g3 => ?_⟩
        by_cases q : j = i
        · subst q; exact absurd g3 c1
        · exact hg j (by omega) g2 g3

theorem most_some (l : List S31) (hl : l.length ≤ 30) (k : Nat) (hk : 2000 < k) : ∃ r, vote_Most.f k l = some r ∧ Good l r := by
  have hmul : (l.length + 3) * (l.length + 1) ≤ 33 * 31 := Nat.mul_le_mul (by omega) (by omega)
  obtain ⟨r, hr, hg⟩ := most_l0' l (by omega) l.length k 0 (by omega) (by omega)
  refine ⟨r, hr, ?_⟩
  rcases hg with hg | ⟨e, hg⟩
  · exact .inl hg
  · refine .inr ⟨e, fun a b => ?_⟩
    by_cases c : cN l a b = 0
    · omega
    · have : 0 < cN l a b := by omega
      unfold cN at this
      rw [List.countP_pos_iff] at this
      obtain ⟨v, hv, hf⟩ := this
      obtain ⟨j, hj, rfl⟩ := List.getElem_of_mem hv
      have g := hg j (Nat.zero_le _) hj
      rw [rd_nat l j hj] at g
      simp only [isFor, Bool.and_eq_true, beq_iff_eq] at hf
      have g2 := g hf.1
      rw [hf.2.1, hf.2.2] at g2
      exact g2
theorem known_true (k : Nat) (hk : 2000 < k) : plaitinglaw15_known.f k = some true := by
  obtain ⟨r, hr, hg⟩ := most_some [] (by simp) k hk
  obtain ⟨r', hr', hg'⟩ := most_some [(⟨true, (⟨2, 3⟩ : S29)⟩ : S31), (⟨false, (⟨0, 0⟩ : S29)⟩ : S31), (⟨true, (⟨2, 3⟩ : S29)⟩ : S31)] (by simp) k hk
  obtain rfl := good_one hg (.inr ⟨rfl, fun a b => by simp [cN]⟩ : Good [] (0, 0))
  obtain rfl := good_one hg' (good_of (a := 2) (b := 3) (by decide))
  simp only [plaitinglaw15_known.f, hr, hr', Option.bind_some]
  rfl

theorem most_of (K : Nat) (hK : 4500 < K) (l : List S31) (r : Int × Int) (hl : l.length ≤ 30) (h : Good l r) : vote_Most.f K l = some r := by
  obtain ⟨r', hr, hg⟩ := most_some l hl K (by omega)
  rw [hr, good_one hg h]

abbrev vA : S31 := ⟨true, ⟨2, 1⟩⟩
abbrev vB : S31 := ⟨true, ⟨2, 2⟩⟩
abbrev vN : S31 := ⟨true, ⟨1, 0⟩⟩
abbrev vZ : S31 := ⟨true, ⟨0, 0⟩⟩
abbrev vO : S31 := ⟨false, ⟨0, 0⟩⟩
abbrev vI : S31 := ⟨false, ⟨2, 1⟩⟩
theorem g0 : Good [vA] (2, 1) := .inl (by decide)
theorem g1 : Good [vA, vB] (0, 0) := .inr ⟨rfl, fun a b => by
  simp only [cN, List.countP_cons, List.countP_nil, isFor, Bool.true_and, Bool.and_eq_true, beq_iff_eq, List.length_cons, List.length_nil]
  (repeat' split) <;> omega⟩
theorem g2 : Good [vA, vB, vA] (2, 1) := .inl (by decide)
theorem g3 : Good [vA, vO, vO] (0, 0) := .inr ⟨rfl, fun a b => by
  simp only [cN, List.countP_cons, List.countP_nil, isFor, Bool.true_and, Bool.false_and, Bool.and_eq_true, beq_iff_eq, List.length_cons, List.length_nil, Bool.false_eq_true, if_false]
  (repeat' split) <;> omega⟩
theorem g4 : Good [vA, vA, vO] (2, 1) := .inl (by decide)
theorem g5 : Good [vN, vN, vA] (1, 0) := .inl (by decide)
theorem g6 : Good [vZ, vZ, vA] (0, 0) := .inl (by decide)
theorem g7 : Good [vA, vA, vB, vB] (0, 0) := .inr ⟨rfl, fun a b => by
  simp only [cN, List.countP_cons, List.countP_nil, isFor, Bool.true_and, Bool.and_eq_true, beq_iff_eq, List.length_cons, List.length_nil]
  (repeat' split) <;> omega⟩
theorem g8 : Good [vA, vA, vA, vB, vO] (2, 1) := .inl (by decide)
theorem g9 : Good [vA, vA, vO, vO, vO] (0, 0) := .inr ⟨rfl, fun a b => by
  simp only [cN, List.countP_cons, List.countP_nil, isFor, Bool.true_and, Bool.false_and, Bool.and_eq_true, beq_iff_eq, List.length_cons, List.length_nil, Bool.false_eq_true, if_false]
  (repeat' split) <;> omega⟩
theorem g10 : Good [vI, vI, vI] (0, 0) := .inr ⟨rfl, fun a b => by
  simp only [cN, List.countP_cons, List.countP_nil, isFor, Bool.false_and, List.length_cons, List.length_nil, Bool.false_eq_true, if_false]
  omega⟩
theorem g11 : Good [vN, vZ, vN, vN, vO] (1, 0) := .inl (by decide)

abbrev LL : List (List S31) := [[vA], [vA, vB], [vA, vB, vA], [vA, vO, vO], [vA, vA, vO], [vN, vN, vA], [vZ, vZ, vA], [vA, vA, vB, vB], [vA, vA, vA, vB, vO], [vA, vA, vO, vO, vO], [vI, vI, vI], [vN, vZ, vN, vN, vO]]
abbrev WW : List S29 := [⟨2, 1⟩, ⟨0, 0⟩, ⟨2, 1⟩, ⟨0, 0⟩, ⟨2, 1⟩, ⟨1, 0⟩, ⟨0, 0⟩, ⟨0, 0⟩, ⟨2, 1⟩, ⟨0, 0⟩, ⟨0, 0⟩, ⟨1, 0⟩]
theorem pick (K : Nat) (hK : 4500 < K) (u : Int) (u0 : 0 ≤ u) (u1 : u < 12) : ∃ r : Int × Int, vote_Most.f K (rd_L4 LL u) = some r ∧ (r.1 == (rd_T29 WW u).f0 && r.2 == (rd_T29 WW u).f1) = true := by
  rcases (by omega : u = 0 ∨ u = 1 ∨ u = 2 ∨ u = 3 ∨ u = 4 ∨ u = 5 ∨ u = 6 ∨ u = 7 ∨ u = 8 ∨ u = 9 ∨ u = 10 ∨ u = 11) with rfl | rfl | rfl | rfl | rfl | rfl | rfl | rfl | rfl | rfl | rfl | rfl
  · exact ⟨_, most_of K hK _ _ (by decide) g0, rfl⟩
  · exact ⟨_, most_of K hK _ _ (by decide) g1, rfl⟩
  · exact ⟨_, most_of K hK _ _ (by decide) g2, rfl⟩
  · exact ⟨_, most_of K hK _ _ (by decide) g3, rfl⟩
  · exact ⟨_, most_of K hK _ _ (by decide) g4, rfl⟩
  · exact ⟨_, most_of K hK _ _ (by decide) g5, rfl⟩
  · exact ⟨_, most_of K hK _ _ (by decide) g6, rfl⟩
  · exact ⟨_, most_of K hK _ _ (by decide) g7, rfl⟩
  · exact ⟨_, most_of K hK _ _ (by decide) g8, rfl⟩
  · exact ⟨_, most_of K hK _ _ (by decide) g9, rfl⟩
  · exact ⟨_, most_of K hK _ _ (by decide) g10, rfl⟩
  · exact ⟨_, most_of K hK _ _ (by decide) g11, rfl⟩

theorem VoteKnown : plaitinglaw15_VoteKnown.Pure := by
  intro a0 _
  obtain ⟨K, hK⟩ : ∃ K : Nat, 4500 < K := ⟨5000, by omega⟩
  refine ⟨K, ?_⟩
  obtain ⟨u, hu, u0, u1⟩ := within15 a0 12 (by omega) (by omega)
  obtain ⟨r, hr, hw⟩ := pick K hK u u0 u1
  rw [plaitinglaw15_VoteKnown.f, known_true K (by omega), Option.bind_some, if_pos rfl]
  show (plaitinglaw15_within.f a0 12).bind (fun t => if 0 ≤ t then (if t < ((LL.length : Nat) : Int) then ((vote_Most.f K (rd_L4 LL t)).bind fun bt => (if t < ((WW.length : Nat) : Int) then (some (bt.1 == ((rd_T29 WW t).f0) && (bt.2 == ((rd_T29 WW t).f1)))) else (none))) else (none)) else (none)) = some true
  rw [hu, Option.bind_some, if_pos u0, if_pos (by show u < 12; exact u1), hr, Option.bind_some, if_pos (by show u < 12; exact u1), hw]

end Go.Proofs.Ytghdfppllknabaa.Pure
