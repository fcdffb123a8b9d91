/- The pure statement of the law VoteAll: for all its arguments the plain function answers true. No condition but that the numbers are of their kind and the rows of a length that can be. -/
import Derived.Test.YtghdfppllknabaaPVoteAllx4
namespace Go.Proofs.Ytghdfppllknabaa.Pure
open Go.RowKit Go.Proofs.Ytghdfppllknabaa.PVoteAll Go.Proofs.YtghdfppllknabaaW.PrintWords Go.Proofs.YtghdfppllknabaaW.PrintLast
set_option linter.unusedVariables false

theorem within15 (a n : Int) (h : 0 < n) (hn : n ≤ 4611686018427387904) : ∃ r, plaitinglaw15_within.f a n = some r ∧ 0 ≤ r ∧ r < n := by
  have h1 := Int.tmod_lt_of_pos a h
  have h2 := Int.lt_tmod_of_pos a h
  unfold plaitinglaw15_within.f
  rw [if_neg (by omega)]
  by_cases c : Int.tmod a n < 0
  · rw [if_pos c]
    refine ⟨_, rfl, ?_, ?_⟩ <;> (unfold wrap64; omega)
  · rw [if_neg c]
    exact ⟨_, rfl, by omega, h1⟩

/-- A vote for an item. -/
def isFor (a b : Int) (v : S31) : Bool := v.f0 && (v.f1.f0 == a && v.f1.f1 == b)
/-- How many votes are for an item. -/
def cN (l : List S31) (a b : Int) : Nat := l.countP (isFor a b)
theorem cN_le (l : List S31) (a b : Int) : cN l a b ≤ l.length := List.countP_le_length
theorem cN_snoc (l : List S31) (v : S31) (a b : Int) : cN (l ++ [v]) a b = cN l a b + if isFor a b v = true then 1 else 0 := by
  unfold cN
  rw [List.countP_append, List.countP_singleton]
theorem cN_two (a b a' b' : Int) (h : ¬ (a = a' ∧ b = b')) : ∀ l : List S31, cN l a b + cN l a' b' ≤ l.length
  | [] => by simp [cN]
  | v :: r => by
    have ih := cN_two a b a' b' h r
    unfold cN at *
    rw [List.countP_cons, List.countP_cons, List.length_cons]
    by_cases c : isFor a b v = true
    · have c' : ¬ isFor a' b' v = true := fun c' => by
        simp only [isFor, Bool.and_eq_true, beq_iff_eq] at c c'
        exact h ⟨c.2.1.symm.trans c'.2.1, c.2.2.symm.trans c'.2.2⟩
      rw [if_pos c, if_neg c']
      omega
    · rw [if_neg c]
      split <;> omega
/-- What Most answers: an item that more than half have, or, where there is none, the zero item. -/
def Good (l : List S31) (r : Int × Int) : Prop := l.length < 2 * cN l r.1 r.2 ∨ (r = (0, 0) ∧ ∀ a b, 2 * cN l a b ≤ l.length)
theorem good_one {l : List S31} {r r' : Int × Int} (h : Good l r) (h' : Good l r') : r = r' := by
  rcases h with h | ⟨rfl, h⟩
  · rcases h' with h' | ⟨rfl, h'⟩
    · by_cases c : r.1 = r'.1 ∧ r.2 = r'.2
      · exact Prod.ext c.1 c.2
      · have := cN_two r.1 r.2 r'.1 r'.2 c l
        omega
    · have := h' r.1 r.2
      omega
  · rcases h' with h' | ⟨rfl, h'⟩
    · have := h r'.1 r'.2
      omega
    · rfl
theorem good_of {l : List S31} {a b : Int} (h : l.length < 2 * cN l a b) : Good l (a, b) := .inl h

theorem rd_nat (l : List S31) (j : Nat) (h : j < l.length) : rd_T31 l (j : Int) = l[j] := by
  unfold rd_T31
  rw [Int.toNat_natCast, List.getD_eq_getElem?_getD, List.getElem?_eq_getElem h]
  rfl
theorem take_cN (l : List S31) (j : Nat) (h : j < l.length) (a b : Int) : cN (l.take (j + 1)) a b = cN (l.take j) a b + if isFor a b (rd_T31 l (j : Int)) = true then 1 else 0 := by
  rw [List.take_succ_eq_append_getElem h, cN_snoc, rd_nat l j h]

theorem most_l1' (l : List S31) (hl : l.length ≤ 1000) (i : Nat) (hi : i < l.length) (k : Nat) (d : Nat) : ∀ (j : Nat), j + d = l.length →
    vote_Most.l1 (k + d + 1) l i ((cN (l.take j) (rd_T31 l i).f1.f0 (rd_T31 l i).f1.f1 : Nat) : Int) j =
      if (rd_T31 l i).f0 = true then (if l.length < 2 * cN l (rd_T31 l i).f1.f0 (rd_T31 l i).f1.f1 then some ((rd_T31 l i).f1.f0, (rd_T31 l i).f1.f1) else vote_Most.l0 k l ((i + 1 : Nat) : Int)) else vote_Most.l0 k l ((i + 1 : Nat) : Int) := by
  induction d with
  | zero =>
    intro j hj
    obtain rfl : j = l.length := by omega
    have hw : wrap64 ((i : Int) + 1) = ((i + 1 : Nat) : Int) := by unfold wrap64; omega
    have hc := cN_le l (rd_T31 l i).f1.f0 (rd_T31 l i).f1.f1
    have h2 : wrap64 (2 * ((cN l (rd_T31 l i).f1.f0 (rd_T31 l i).f1.f1 : Nat) : Int)) = 2 * ((cN l (rd_T31 l i).f1.f0 (rd_T31 l i).f1.f1 : Nat) : Int) := by
      generalize cN l (rd_T31 l i).f1.f0 (rd_T31 l i).f1.f1 = q at *
      unfold wrap64
      omega
    simp only [vote_Most.l1]
    rw [if_neg (by omega), if_pos (by omega), if_pos (by omega), hw, List.take_length, h2]
    by_cases c : (rd_T31 l i).f0 = true
    · rw [if_pos c, if_pos c]
      by_cases c2 : l.length < 2 * cN l (rd_T31 l i).f1.f0 (rd_T31 l i).f1.f1
      · rw [if_pos c2, if_pos (by omega)]
      · rw [if_neg c2, if_neg (by omega)]
    · rw [if_neg c, if_neg c]
  | succ d ih =>
    intro j hj
    have hlt : j < l.length := by omega
    have hw : wrap64 ((j : Int) + 1) = ((j + 1 : Nat) : Int) := by unfold wrap64; omega
    have hs := take_cN l j hlt (rd_T31 l i).f1.f0 (rd_T31 l i).f1.f1
    have hb := cN_le (l.take j) (rd_T31 l i).f1.f0 (rd_T31 l i).f1.f1
    have hb2 : (l.take j).length ≤ l.length := by rw [List.length_take]; omega
    have hc : wrap64 (((cN (l.take j) (rd_T31 l i).f1.f0 (rd_T31 l i).f1.f1 : Nat) : Int) + 1) = ((cN (l.take j) (rd_T31 l i).f1.f0 (rd_T31 l i).f1.f1 + 1 : Nat) : Int) := by
      generalize cN (l.take j) (rd_T31 l i).f1.f0 (rd_T31 l i).f1.f1 = q at *
      unfold wrap64
      omega
    have go := ih (j + 1) (by omega)
    rw [show k + (d + 1) + 1 = (k + d + 1) + 1 from by omega]
    generalize k + d + 1 = m at go ⊢
    simp only [vote_Most.l1]
    rw [if_pos (by omega), if_pos (by omega), hc, hw, ← go, hs]
    by_cases c1 : (rd_T31 l j).f0 = true
    · rw [if_pos c1, if_pos (by omega), if_pos (by omega)]
      by_cases c2 : (((rd_T31 l j).f1.f0) == ((rd_T31 l i).f1.f0) && (((rd_T31 l j).f1.f1) == ((rd_T31 l i).f1.f1))) = true
      · rw [if_pos c2, if_pos (by simp only [isFor, c1, c2, Bool.and_self])]
      · rw [if_neg c2, if_neg (by simp only [isFor, c1, Bool.true_and]; exact c2)]
        rfl
    · rw [if_neg c1, if_neg (by simp only [isFor, Bool.eq_false_iff.mpr c1, Bool.false_and]; exact Bool.false_ne_true)]
      rfl

theorem most_l0' (l : List S31) (hl : l.length ≤ 1000) (d : Nat) : ∀ (k i : Nat), i + d = l.length → (l.length + 3) * (d + 1) < k →
    ∃ r : Int × Int, vote_Most.l0 k l i = some r ∧ (l.length < 2 * cN l r.1 r.2 ∨ (r = (0, 0) ∧ ∀ j, i ≤ j → j < l.length → (rd_T31 l (j : Int)).f0 = true → 2 * cN l (rd_T31 l (j : Int)).f1.f0 (rd_T31 l (j : Int)).f1.f1 ≤ l.length)) := by
  induction d with
  | zero =>
    intro k i hi hk
    obtain ⟨k, rfl⟩ : ∃ m, k = m + 1 := ⟨k - 1, by omega⟩
    refine ⟨(0, 0), ?_, .inr ⟨rfl, fun j h1 h2 => by omega⟩⟩
    simp only [vote_Most.l0]
    rw [if_neg (by omega)]
  | succ d ih =>
    intro k i hi hk
    have hmul : (l.length + 3) * (d + 1 + 1) = (l.length + 3) * (d + 1) + (l.length + 3) := Nat.mul_succ _ _
    obtain ⟨k, rfl⟩ : ∃ m, k = m + l.length + 1 + 1 := ⟨k - (l.length + 2), by omega⟩
    have hlt : i < l.length := by omega
    have h1 := most_l1' l hl i hlt k l.length 0 (by omega)
    have hz : ((cN (l.take 0) (rd_T31 l i).f1.f0 (rd_T31 l i).f1.f1 : Nat) : Int) = 0 := by simp [cN]
    rw [hz] at h1
    obtain ⟨r, hr, hg⟩ := ih k (i + 1) (by omega) (by omega)
    simp only [vote_Most.l0]
    rw [if_pos (by omega)]
    have h1' : vote_Most.l1 (k + l.length + 1) l i 0 0 = _ := h1
    rw [h1']
    by_cases c1 : (rd_T31 l i).f0 = true
    · rw [if_pos c1]
      by_cases c2 : l.length < 2 * cN l (rd_T31 l i).f1.f0 (rd_T31 l i).f1.f1
      · rw [if_pos c2]
        exact ⟨_, rfl, .inl c2⟩
      · rw [if_neg c2]
        refine ⟨r, hr, ?_⟩
        rcases hg with hg | ⟨e, hg⟩
        · exact .inl hg
        · refine .inr ⟨e, fun j g1 g2 g3 => ?_⟩
          by_cases q : j = i
          · subst q; omega
          · exact hg j (by omega) g2 g3
    · rw [if_neg c1]
      refine ⟨r, hr, ?_⟩
      rcases hg with hg | ⟨e, hg⟩
      · exact .inl hg
      · refine .inr ⟨e, fun j g1 g2 g3 => ?_⟩
        by_cases q : j = i
        · subst q; exact absurd g3 c1
        · exact hg j (by omega) g2 g3

theorem most_some (l : List S31) (hl : l.length ≤ 30) (k : Nat) (hk : 2000 < k) : ∃ r, vote_Most.f k l = some r ∧ Good l r := by
  have hmul : (l.length + 3) * (l.length + 1) ≤ 33 * 31 := Nat.mul_le_mul (by omega) (by omega)
  obtain ⟨r, hr, hg⟩ := most_l0' l (by omega) l.length k 0 (by omega) (by omega)
  refine ⟨r, hr, ?_⟩
  rcases hg with hg | ⟨e, hg⟩
  · exact .inl hg
  · refine .inr ⟨e, fun a b => ?_⟩
    by_cases c : cN l a b = 0
    · omega
    · have : 0 < cN l a b := by omega
      unfold cN at this
      rw [List.countP_pos_iff] at this
      obtain ⟨v, hv, hf⟩ := this
      obtain ⟨j, hj, rfl⟩ := List.getElem_of_mem hv
      have g := hg j (Nat.zero_le _) hj
      rw [rd_nat l j hj] at g
      simp only [isFor, Bool.and_eq_true, beq_iff_eq] at hf
      have g2 := g hf.1
      rw [hf.2.1, hf.2.2] at g2
      exact g2
theorem known_true (k : Nat) (hk : 2000 < k) : plaitinglaw15_known.f k = some true := by
  obtain ⟨r, hr, hg⟩ := most_some [] (by simp) k hk
  obtain ⟨r', hr', hg'⟩ := most_some [(⟨true, (⟨2, 3⟩ : S29)⟩ : S31), (⟨false, (⟨0, 0⟩ : S29)⟩ : S31), (⟨true, (⟨2, 3⟩ : S29)⟩ : S31)] (by simp) k hk
  obtain rfl := good_one hg (.inr ⟨rfl, fun a b => by simp [cN]⟩ : Good [] (0, 0))
  obtain rfl := good_one hg' (good_of (a := 2) (b := 3) (by decide))
  simp only [plaitinglaw15_known.f, hr, hr', Option.bind_some]
  rfl

/-- The same vote, as the face's. -/
def conv (v : S44) : S31 := ⟨v.f0, v.f1⟩
theorem row_l0 (l : List Int) (d : Nat) : ∀ (k i : Nat) (a : List S31) (b : List S44), i + d = 20 → a = b.map conv → b.length = i → 2 * d + 2 < k →
    ∃ a' b', plaitinglaw15_Row.l0 k l a b (i : Int) = some (a', b') ∧ a' = b'.map conv ∧ b'.length ≤ 20 := by
  induction d with
  | zero =>
    intro k i a b hi ha hb hk
    obtain ⟨k, rfl⟩ : ∃ m, k = m + 2 := ⟨k - 2, by omega⟩
    refine ⟨a, b, ?_, ha, by omega⟩
    simp only [plaitinglaw15_Row.l0, plaitinglaw15_Row.j1]
    rw [decide_eq_false (by omega)]
    split <;> rfl
  | succ d ih =>
    intro k i a b hi ha hb hk
    obtain ⟨k, rfl⟩ : ∃ m, k = m + 2 := ⟨k - 2, by omega⟩
    simp only [plaitinglaw15_Row.l0]
    by_cases c : (i : Int) < (l.length : Int)
    · have hw : wrap64 ((i : Int) + 1) = ((i + 1 : Nat) : Int) := by unfold wrap64; omega
      have hal : a.length = i := by rw [ha, List.length_map]; exact hb
      obtain ⟨t, ht, _, _⟩ := within15 (rd l i) 3 (by omega) (by omega)
      obtain ⟨u, hu, _, _⟩ := within15 (wrap64 (Int.tdiv (rd l i) 3)) 3 (by omega) (by omega)
      obtain ⟨v, hv, _, _⟩ := within15 (wrap64 (Int.tdiv (rd l i) 9)) 6 (by omega) (by omega)
      rw [if_pos c, decide_eq_true (by omega)]
      simp only [plaitinglaw15_Row.j1, ht, hu, hv, Option.bind_some, if_true, List.length_singleton, hw]
      rw [if_pos (by omega), if_pos c]
      have h1 : a.length + 1 < 5864062014805 := by omega
      have h2 : b.length + 1 < 5864062014805 := by omega
      by_cases q : t = 2
      · rw [if_pos q, if_pos h1, if_pos h2]
        exact ih k (i + 1) _ _ (by omega) (by rw [ha, List.map_append]; rfl) (by rw [List.length_append, hb]; rfl) (by omega)
      · rw [if_neg q, if_pos h1, if_pos h2]
        exact ih k (i + 1) _ _ (by omega) (by rw [ha, List.map_append]; rfl) (by rw [List.length_append, hb]; rfl) (by omega)
    · refine ⟨a, b, ?_, ha, by omega⟩
      rw [if_neg c]
      simp [plaitinglaw15_Row.j1]
theorem row_some (k : Nat) (hk : 100 < k) (l : List Int) : ∃ a b, plaitinglaw15_Row.f k l = some (a, b) ∧ a = b.map conv ∧ b.length ≤ 20 :=
  row_l0 l 20 k 0 [] [] (by omega) rfl rfl (by omega)

theorem rd_conv (b : List S44) (i : Int) : rd_T31 (b.map conv) i = conv (rd_T44 b i) := by
  unfold rd_T31 rd_T44
  rw [List.getD_eq_getElem?_getD, List.getD_eq_getElem?_getD, List.getElem?_map]
  cases b[i.toNat]? <;> rfl
theorem ref_eq (b : List S44) : ∀ k, (∀ i, plaitingref15_Most.l0 k b i = vote_Most.l0 k (b.map conv) i) ∧ (∀ i c j, plaitingref15_Most.l1 k b i c j = vote_Most.l1 k (b.map conv) i c j)
  | 0 => ⟨fun _ => by rw [plaitingref15_Most.l0, vote_Most.l0], fun _ _ _ => by rw [plaitingref15_Most.l1, vote_Most.l1]⟩
  | k + 1 => by
    obtain ⟨h0, h1⟩ := ref_eq b k
    refine ⟨fun i => ?_, fun i c j => ?_⟩
    · rw [plaitingref15_Most.l0, vote_Most.l0, List.length_map, h1]
    · rw [plaitingref15_Most.l1, vote_Most.l1, List.length_map]
      simp only [rd_conv, h0, h1, conv]
theorem refMost_eq (k : Nat) (b : List S44) : plaitingref15_Most.f k b = vote_Most.f k (b.map conv) := (ref_eq b k).1 0

theorem turn_perm : ∀ n : Nat, n < 21 → ∀ s : Nat, s < n → ¬ n % 7 = 0 → ((List.range n).map fun i => (i * 7 + s) % n).isPerm (List.range n) = true := by decide +kernel
theorem cN_range (l : List S31) (a b : Int) : cN l a b = (List.range l.length).countP fun i : Nat => isFor a b (rd_T31 l (i : Int)) := by
  have h : l = (List.range l.length).map fun i => rd_T31 l ((i : Nat) : Int) := by
    apply List.ext_getElem
    · simp
    · intro i h1 h2
      rw [List.getElem_map, List.getElem_range, rd_nat l i h1]
  unfold cN
  conv => lhs; rw [h]
  rw [List.countP_map]
  rfl
/-- The list, turned. -/
def turned (l : List S31) (s : Nat) (m : Nat) : List S31 := (List.range m).map fun i => rd_T31 l (((i * 7 + s) % l.length : Nat) : Int)
theorem turned_succ (l : List S31) (s m : Nat) : turned l s (m + 1) = turned l s m ++ [rd_T31 l (((m * 7 + s) % l.length : Nat) : Int)] := by
  unfold turned
  rw [List.range_succ, List.map_append]
  rfl
theorem turned_len (l : List S31) (s m : Nat) : (turned l s m).length = m := by simp [turned]
theorem turned_cN (l : List S31) (s : Nat) (hl : l.length < 21) (hs : s < l.length) (h7 : ¬ l.length % 7 = 0) (a b : Int) : cN (turned l s l.length) a b = cN l a b := by
  have hp := List.isPerm_iff.1 (turn_perm l.length hl s hs h7)
  rw [cN_range l a b, ← hp.countP_eq, List.countP_map]
  unfold turned cN
  rw [List.countP_map]
  rfl

theorem va_j1 (a : List S31) (b : List S44) (hab : a = b.map conv) (t : List S31) (ha : a.length ≤ 30) (ht : t.length = a.length) (hc : ∀ p q, cN t p q = cN a p q) (k : Nat) (hk : 2001 < k) : plaitinglaw15_VoteAll.j1 k a b t = some true := by
  obtain ⟨k, rfl⟩ : ∃ m, k = m + 1 := ⟨k - 1, by omega⟩
  obtain ⟨r, hr, hg⟩ := most_some a ha k (by omega)
  obtain ⟨r', hr', hg'⟩ := most_some t (by omega) k (by omega)
  have e : r' = r := by
    refine good_one (l := t) hg' ?_
    unfold Good at *
    rw [ht]
    simp only [hc]
    exact hg
  have hb : plaitingref15_Most.f k b = some r := by rw [refMost_eq, ← hab, hr]
  rw [plaitinglaw15_VoteAll.j1, hr, hb, hr', e]
  simp

theorem va_l0 (by' : Int) (a : List S31) (b : List S44) (hab : a = b.map conv) (ha : a.length < 21) (s : Nat) (hs : plaitinglaw15_within.f by' (a.length : Int) = some (s : Int)) (hsl : s < a.length) (d : Nat) :
    ∀ (k i : Nat), i + d = a.length → 2002 + d < k → plaitinglaw15_VoteAll.l0 k by' a b (turned a s i) (i : Int) = some true := by
  induction d with
  | zero =>
    intro k i hi hk
    obtain rfl : i = a.length := by omega
    obtain ⟨k, rfl⟩ : ∃ m, k = m + 1 := ⟨k - 1, by omega⟩
    rw [plaitinglaw15_VoteAll.l0, if_neg (by omega)]
    by_cases c : (a.length : Int) % 7 = 0
    · rw [if_pos c]
      exact va_j1 a b hab a (by omega) rfl (fun _ _ => rfl) k (by omega)
    · rw [if_neg c]
      exact va_j1 a b hab _ (by omega) (turned_len _ _ _) (turned_cN a s ha hsl (by omega)) k (by omega)
  | succ d ih =>
    intro k i hi hk
    obtain ⟨k, rfl⟩ : ∃ m, k = m + 1 := ⟨k - 1, by omega⟩
    have w1 : wrap64 ((i : Int) * 7) = (i : Int) * 7 := by unfold wrap64; omega
    have w2 : wrap64 ((i : Int) * 7 + (s : Int)) = (i : Int) * 7 + (s : Int) := by unfold wrap64; omega
    have w3 : wrap64 ((i : Int) + 1) = ((i + 1 : Nat) : Int) := by unfold wrap64; omega
    have hm : Int.tmod ((i : Int) * 7 + (s : Int)) (a.length : Int) = (((i * 7 + s) % a.length : Nat) : Int) := by
      rw [Int.tmod_eq_emod_of_nonneg (by omega)]
      rfl
    have hlt : (i * 7 + s) % a.length < a.length := Nat.mod_lt _ (by omega)
    have hlen := turned_len a s i
    rw [plaitinglaw15_VoteAll.l0, if_pos (by omega), hs, Option.bind_some, if_neg (by omega), w1, w2, w3, hm]
    generalize hq : (i * 7 + s) % a.length = q at hlt
    rw [if_pos (by omega), if_pos (by omega), if_pos (by omega)]
    have go := ih k (i + 1) (by omega) (by omega)
    rw [turned_succ, hq] at go
    exact go

theorem VoteAll : plaitinglaw15_VoteAll.Pure := by
  intro l by' _ _ _ _
  obtain ⟨K, hK⟩ : ∃ K : Nat, 4500 < K := ⟨5000, by omega⟩
  refine ⟨K, ?_⟩
  obtain ⟨a, b, hr, hab, hb⟩ := row_some K (by omega) l
  have ha : a.length < 21 := by rw [hab, List.length_map]; omega
  rw [plaitinglaw15_VoteAll.f, known_true K (by omega), Option.bind_some, if_pos rfl, hr, Option.bind_some]
  by_cases c : a.length = 0
  · obtain rfl : a = [] := List.eq_nil_of_length_eq_zero c
    obtain ⟨K, rfl⟩ : ∃ m, K = m + 1 := ⟨K - 1, by omega⟩
    show plaitinglaw15_VoteAll.l0 (K + 1) by' [] b [] 0 = some true
    rw [plaitinglaw15_VoteAll.l0, if_neg (by simp), if_pos (by simp)]
    exact va_j1 [] b hab [] (by simp) rfl (fun _ _ => rfl) K (by omega)
  · obtain ⟨s, hs, s0, s1⟩ := within15 by' (a.length : Int) (by omega) (by omega)
    obtain ⟨s, rfl⟩ := Int.eq_ofNat_of_zero_le s0
    exact va_l0 by' a b hab ha s hs (by omega) a.length K 0 (by omega) (by omega)

end Go.Proofs.Ytghdfppllknabaa.Pure
