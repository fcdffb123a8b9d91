/- The pure statement of the law GuardEnds: for all its arguments the plain function answers true. No condition but that the numbers are of their kind and the rows of a length that can be. -/
import Derived.Test.YtldokdfncoahoaaPGuardEndsx4
namespace Go.Proofs.Ytldokdfncoahoaa.Pure
open Go.RowKit Go.Proofs.Ytldokdfncoahoaa.PGuardEnds Go.Proofs.YtldokdfncoahoaaW.PrintWords Go.Proofs.YtldokdfncoahoaaW.PrintLast

theorem within3 (a n : Int) (h : 0 < n) (hn : n ≤ 4611686018427387904) : ∃ r, plaitinglaw3_within.f a n = some r ∧ 0 ≤ r ∧ r < n := by
  have h1 := Int.tmod_lt_of_pos a h
  have h2 := Int.lt_tmod_of_pos a h
  unfold plaitinglaw3_within.f
  rw [if_neg (by omega)]
  by_cases c : Int.tmod a n < 0
  · rw [if_pos c]
    refine ⟨_, rfl, ?_, ?_⟩ <;> (unfold wrap64; omega)
  · rw [if_neg c]
    exact ⟨_, rfl, by omega, h1⟩
theorem within8 (a n : Int) (h : 0 < n) (hn : n ≤ 4611686018427387904) : ∃ r, plaitinglaw8_within.f a n = some r ∧ 0 ≤ r ∧ r < n := within3 a n h hn

/-- What Make answers. -/
structure Made (r : Int × Int × Int × Int × Int × List Int) : Prop where
  n0 : 6 ≤ r.1
  n1 : r.1 ≤ 12
  e0 : 0 ≤ r.2.2.1
  e1 : r.2.2.1 ≤ 20
  g0 : 0 ≤ r.2.2.2.1
  g1 : r.2.2.2.1 ≤ 20
  p0 : 4 * (r.2.2.1 + r.2.2.2.1 + 1) ≤ r.2.1
  p1 : r.2.1 ≤ 4 * (r.2.2.1 + r.2.2.2.1 + 1) + 99

theorem make_l0 (a0 a1 a2 a3 a4 : Int) (l : List Int) (n pi e g f : Int) (hn0 : 6 ≤ n) (hn1 : n ≤ 12) (d : Nat) : ∀ (k : Nat) (i : Int) (ps : List Int), 0 ≤ i → i + d = 3 → ps.length ≤ i → d < k →
    ∃ qs, plaitinglaw3_Make.l0 k i a0 a1 a2 a3 a4 l n pi e g f ps = some (n, pi, e, g, f, qs) := by
  induction d with
  | zero =>
    intro k i ps h0 h1 h2 hk
    obtain ⟨k, rfl⟩ : ∃ m, k = m + 1 := ⟨k - 1, by omega⟩
    simp only [plaitinglaw3_Make.l0]
    by_cases c : i < (l.length : Int)
    · rw [if_pos c, if_neg (by omega)]; exact ⟨_, rfl⟩
    · rw [if_neg c]; exact ⟨_, rfl⟩
  | succ d ih =>
    intro k i ps h0 h1 h2 hk
    obtain ⟨k, rfl⟩ : ∃ m, k = m + 1 := ⟨k - 1, by omega⟩
    simp only [plaitinglaw3_Make.l0]
    by_cases c : i < (l.length : Int)
    · have hw : wrap64 (n + 1) = n + 1 := by unfold wrap64; omega
      have hi : wrap64 (i + 1) = i + 1 := by unfold wrap64; omega
      obtain ⟨r, hr, _, _⟩ := within3 (rd l i) (n + 1) (by omega) (by omega)
      rw [if_pos c, if_pos (by omega), if_pos h0, hw, hr]
      simp only [Option.bind_some]
      rw [if_pos (by omega), hi]
      exact ih k (i + 1) _ (by omega) (by omega) (by rw [List.length_append, List.length_singleton]; omega) (by omega)
    · rw [if_neg c]; exact ⟨_, rfl⟩

theorem make_some (k : Nat) (hk : 5 < k) (a0 a1 a2 a3 a4 : Int) (l : List Int) : ∃ r, plaitinglaw3_Make.f k a0 a1 a2 a3 a4 l = some r ∧ Made r := by
  obtain ⟨t0, h0, b0, b0'⟩ := within3 a0 7 (by omega) (by omega)
  obtain ⟨t2, h2, b2, b2'⟩ := within3 a2 21 (by omega) (by omega)
  obtain ⟨t3, h3, b3, b3'⟩ := within3 a3 21 (by omega) (by omega)
  obtain ⟨t4, h4, b4, b4'⟩ := within3 a4 65536 (by omega) (by omega)
  obtain ⟨t5, h5, b5, b5'⟩ := within3 a4 3 (by omega) (by omega)
  obtain ⟨t6, h6, b6, b6'⟩ := within3 a4 40 (by omega) (by omega)
  obtain ⟨t1, h1, b1, b1'⟩ := within3 a1 100 (by omega) (by omega)
  have w0 : wrap64 (6 + t0) = 6 + t0 := by unfold wrap64; omega
  have w1 : wrap64 (t2 + t3) = t2 + t3 := by unfold wrap64; omega
  have w2 : wrap64 (t2 + t3 + 1) = t2 + t3 + 1 := by unfold wrap64; omega
  have w3 : wrap64 (4 * (t2 + t3 + 1)) = 4 * (t2 + t3 + 1) := by unfold wrap64; omega
  have w4 : wrap64 (4 * (t2 + t3 + 1) + t1) = 4 * (t2 + t3 + 1) + t1 := by unfold wrap64; omega
  have hj : ∀ f, ∃ r, plaitinglaw3_Make.j0 k a0 a1 a2 a3 a4 l (6 + t0) 0 t2 t3 f = some r ∧ Made r := by
    intro f
    obtain ⟨k, rfl⟩ : ∃ m, k = m + 1 := ⟨k - 1, by omega⟩
    obtain ⟨qs, hq⟩ := make_l0 a0 a1 a2 a3 a4 l (6 + t0) (4 * (t2 + t3 + 1) + t1) t2 t3 f (by omega) (by omega) 3 k 0 [] (by omega) (by omega) (by simp) (by omega)
    simp only [plaitinglaw3_Make.j0, h1, Option.bind_some, w1, w2, w3, w4]
    exact ⟨_, hq, ⟨by show 6 ≤ 6 + t0; omega, by show 6 + t0 ≤ 12; omega, b2, by show t2 ≤ 20; omega, b3, by show t3 ≤ 20; omega, by show 4 * (t2 + t3 + 1) ≤ 4 * (t2 + t3 + 1) + t1; omega, by show 4 * (t2 + t3 + 1) + t1 ≤ 4 * (t2 + t3 + 1) + 99; omega⟩⟩
  simp only [plaitinglaw3_Make.f, h0, h2, h3, h4, h5, h6, Option.bind_some, w0]
  by_cases c : t5 = 0
  · rw [if_pos c]; exact hj _
  · rw [if_neg c]; exact hj _

theorem text_l0 (l : List Int) (d : Nat) : ∀ (k : Nat) (i : Int) (s : ByteArray), 0 ≤ i → i + d = 80 → (s.size : Int) ≤ i → d < k →
    ∃ r, plaitinglaw1_Text.l0 k l s i = some r := by
  induction d with
  | zero =>
    intro k i s h0 h1 h2 hk
    obtain ⟨k, rfl⟩ : ∃ m, k = m + 1 := ⟨k - 1, by omega⟩
    simp only [plaitinglaw1_Text.l0]
    by_cases c : i < (l.length : Int)
    · rw [if_pos c, if_neg (by omega)]; exact ⟨_, rfl⟩
    · rw [if_neg c]; exact ⟨_, rfl⟩
  | succ d ih =>
    intro k i s h0 h1 h2 hk
    obtain ⟨k, rfl⟩ : ∃ m, k = m + 1 := ⟨k - 1, by omega⟩
    simp only [plaitinglaw1_Text.l0, Option.bind_some]
    by_cases c : i < (l.length : Int)
    · have hi : wrap64 (i + 1) = i + 1 := by unfold wrap64; omega
      obtain ⟨r, hr, hr0, hr1⟩ : ∃ r, plaitinglaw1_within.f (rd l i) 11 = some r ∧ 0 ≤ r ∧ r < 11 := within3 (rd l i) 11 (by omega) (by omega)
      rw [if_pos c, if_pos (by omega), if_pos h0, hr]
      simp only [Option.bind_some]
      have hlen : r < (([(⟨#[48]⟩ : ByteArray), (⟨#[49]⟩ : ByteArray), (⟨#[48]⟩ : ByteArray), (⟨#[49]⟩ : ByteArray), (⟨#[48]⟩ : ByteArray), (⟨#[49]⟩ : ByteArray), (⟨#[48]⟩ : ByteArray), (⟨#[49]⟩ : ByteArray), (⟨#[35]⟩ : ByteArray), (⟨#[46]⟩ : ByteArray), (⟨#[120]⟩ : ByteArray)] : List ByteArray).length : Int) := by simpa using hr1
      have hone : (rdOf ByteArray.empty [(⟨#[48]⟩ : ByteArray), (⟨#[49]⟩ : ByteArray), (⟨#[48]⟩ : ByteArray), (⟨#[49]⟩ : ByteArray), (⟨#[48]⟩ : ByteArray), (⟨#[49]⟩ : ByteArray), (⟨#[48]⟩ : ByteArray), (⟨#[49]⟩ : ByteArray), (⟨#[35]⟩ : ByteArray), (⟨#[46]⟩ : ByteArray), (⟨#[120]⟩ : ByteArray)] r).size = 1 := by
        rcases (by omega : r = 0 ∨ r = 1 ∨ r = 2 ∨ r = 3 ∨ r = 4 ∨ r = 5 ∨ r = 6 ∨ r = 7 ∨ r = 8 ∨ r = 9 ∨ r = 10) with rfl | rfl | rfl | rfl | rfl | rfl | rfl | rfl | rfl | rfl | rfl <;> rfl
      rw [if_pos hr0, if_pos hlen, if_pos (by rw [hone]; omega), hi]
      exact ih k (i + 1) _ (by omega) (by omega) (by rw [ByteArray.size_append, hone]; omega) (by omega)
    · rw [if_neg c]; exact ⟨_, rfl⟩
theorem text_some (k : Nat) (hk : 80 < k) (l : List Int) : ∃ s, plaitinglaw1_Text.f k l = some s :=
  text_l0 l 80 k 0 _ (by omega) (by omega) (by show ((0 : Nat) : Int) ≤ 0; omega) hk

/-- Whether a stream is let in, by the window's half, the state, the difference. -/
def adm (pi st dev : Int) : Bool := if st = 4 then (if dev ≥ wrap64 (-(wrap64 (2 * pi))) then decide (dev ≤ wrap64 (2 * pi)) else false) else true
theorem admits (a0 a1 a2 a3 a4 : Int) (l : List Int) (st dev : Int) : guard_Admits.f a0 a1 a2 a3 a4 l st dev = some (adm a1 st dev) := by
  simp only [guard_Admits.f, conf_Window.f, Option.bind_some, adm]
  repeat' split
  all_goals rfl
theorem stream (a0 a1 a2 a3 a4 : Int) (l : List Int) (st dev : Int) (s : ByteArray) : guard_Stream.f a0 a1 a2 a3 a4 l st dev s = some (if adm a1 st dev = true then s else ⟨#[]⟩) := by
  simp only [guard_Stream.f, admits, Option.bind_some]
  repeat' split
  all_goals first | rfl | simp_all

theorem known_true : plaitinglaw8_known.f = some true := by decide +kernel
theorem adm_other (pi st v : Int) (h : st ≠ 4) : adm pi st v = true := by unfold adm; rw [if_neg h]
theorem adm_in (pi v : Int) (h0 : 4 ≤ pi) (h1 : pi ≤ 1000) (h2 : -(2 * pi) ≤ v) (h3 : v ≤ 2 * pi) : adm pi 4 v = true := by
  have w1 : wrap64 (2 * pi) = 2 * pi := by unfold wrap64; omega
  have w2 : wrap64 (-(2 * pi)) = -(2 * pi) := by unfold wrap64; omega
  unfold adm
  rw [if_pos rfl, w1, w2, if_pos (by omega)]
  exact decide_eq_true h3
theorem adm_hi (pi v : Int) (h0 : 4 ≤ pi) (h1 : pi ≤ 1000) (h2 : 2 * pi < v) : adm pi 4 v = false := by
  have w1 : wrap64 (2 * pi) = 2 * pi := by unfold wrap64; omega
  have w2 : wrap64 (-(2 * pi)) = -(2 * pi) := by unfold wrap64; omega
  unfold adm
  rw [if_pos rfl, w1, w2, if_pos (by omega)]
  exact decide_eq_false (by omega)
theorem adm_lo (pi v : Int) (h0 : 4 ≤ pi) (h1 : pi ≤ 1000) (h2 : v < -(2 * pi)) : adm pi 4 v = false := by
  have w1 : wrap64 (2 * pi) = 2 * pi := by unfold wrap64; omega
  have w2 : wrap64 (-(2 * pi)) = -(2 * pi) := by unfold wrap64; omega
  unfold adm
  rw [if_pos rfl, w1, w2, if_neg (by omega)]
theorem nothing : (⟨#[]⟩ : ByteArray).toList = [] := by decide +kernel


theorem GuardEnds : ∀ (a0_0 : Int) (a0_1 : Int) (a0_2 : Int) (a0_3 : Int) (a0_4 : Int) (l0_5 : List Int) (l1 : List Int) (a2 : Int), (Lit.int .i64 a0_0).wf = true → (Lit.int .i64 a0_1).wf = true → (Lit.int .i64 a0_2).wf = true → (Lit.int .i64 a0_3).wf = true → (Lit.int .i64 a0_4).wf = true → l0_5.length ≤ maxLen → (∀ x ∈ l0_5, (Lit.int .i64 x).wf = true) → l1.length ≤ maxLen → l1.length * 8 ≤ 140737488351232 → (∀ x ∈ l1, (Lit.int .i64 x).wf = true) → (Lit.int .i64 a2).wf = true → ∃ k, plaitinglaw8_GuardEnds.f k a0_0 a0_1 a0_2 a0_3 a0_4 l0_5 l1 a2 = some true := by
  intro a0_0 a0_1 a0_2 a0_3 a0_4 l0_5 l1 a2 _ _ _ _ _ _ _ _ _ _ _
  refine ⟨100, ?_⟩
  obtain ⟨r, hr, M⟩ := make_some 100 (by omega) a0_0 a0_1 a0_2 a0_3 a0_4 l0_5
  obtain ⟨s, hs⟩ := text_some 100 (by omega) l1
  have hp0 := M.p0
  have hp1 := M.p1
  have he0 := M.e0
  have he1 := M.e1
  have hg0 := M.g0
  have hg1 := M.g1
  have b0 : 4 ≤ r.2.1 := by omega
  have b1 : r.2.1 ≤ 1000 := by omega
  obtain ⟨t, ht, t0, t1⟩ := within8 a2 1099511627776 (by omega) (by omega)
  have w1 : wrap64 (2 * r.2.1) = 2 * r.2.1 := by unfold wrap64; omega
  have w2 : wrap64 (-(2 * r.2.1)) = -(2 * r.2.1) := by unfold wrap64; omega
  have w3 : wrap64 (1 + t) = 1 + t := by unfold wrap64; omega
  have w4 : wrap64 (2 * r.2.1 + (1 + t)) = 2 * r.2.1 + (1 + t) := by unfold wrap64; omega
  have w5 : wrap64 (-(2 * r.2.1) - (1 + t)) = -(2 * r.2.1) - (1 + t) := by unfold wrap64; omega
  have e1 : adm r.2.1 4 (2 * r.2.1) = true := adm_in _ _ b0 b1 (by omega) (by omega)
  have e2 : adm r.2.1 4 (-(2 * r.2.1)) = true := adm_in _ _ b0 b1 (by omega) (by omega)
  have e3 : adm r.2.1 4 (2 * r.2.1 + (1 + t)) = false := adm_hi _ _ b0 b1 (by omega)
  have e4 : adm r.2.1 4 (-(2 * r.2.1) - (1 + t)) = false := adm_lo _ _ b0 b1 (by omega)
  have e5 : ∀ v, adm r.2.1 3 v = true := fun v => adm_other _ _ _ (by omega)
  have e6 : ∀ v, adm r.2.1 2 v = true := fun v => adm_other _ _ _ (by omega)
  have e7 : ∀ v, adm r.2.1 0 v = true := fun v => adm_other _ _ _ (by omega)
  have e8 : adm r.2.1 4 9223372036854775807 = false := adm_hi _ _ b0 b1 (by omega)
  have e9 : adm r.2.1 4 (-9223372036854775808) = false := adm_lo _ _ b0 b1 (by omega)
  simp only [plaitinglaw8_GuardEnds.f, known_true, hr, hs, ht, w1, w2, w3, w4, w5, admits, stream, e1, e2, e3, e4, e5, e6, e7, e8, e9, nothing, Option.bind_some, if_true, Bool.false_eq_true, if_false, Bool.not_false]

end Go.Proofs.Ytldokdfncoahoaa.Pure
