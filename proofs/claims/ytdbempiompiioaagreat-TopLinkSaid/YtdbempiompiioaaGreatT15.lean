/- The walks of vote.of, vote.counts and vote.Most: what they answer of votes that lie in memory. Condition: the votes read as stated. Conditions: the bounds stated in each theorem. -/
import Derived.Test.YtdbempiompiioaaGreatT14
set_option linter.unusedVariables false
set_option linter.unusedSimpArgs false
namespace Go.Proofs.YtdbempiompiioaaGreat.A36
open Go.RowKit Go.MapKept Go.ChangeMaps Go.WideElems A1 A2 A3 A4 A5 A6 A7 A8 A9 A10 A11 A12 A13 A14 A15 A16 A17 A18 A19 A20 A21 A22 A23 A24 A25 A26 A27 A28 A29 A30 A31 A32 A33 A34 A35
structure Votes (w : World) (A : Option Addr) (n : Nat) (is : Nat → Bool) (x y : Nat → Int) : Prop where
  len : n ≤ 9223372036854775807
  cells : ∀ i, i < n → ∃ ad, A = some ad ∧ w.cell? (ad.add (i * 3)) = some (.bool (is i)) ∧ w.cell? ⟨(ad.add (i * 3)).block, (ad.add (i * 3)).off + 1, none⟩ = some (.int .i64 (x i)) ∧ w.cell? ⟨(ad.add (i * 3)).block, (ad.add (i * 3)).off + 2, none⟩ = some (.int .i64 (y i))
theorem Votes.below {w w1 : World} {A : Option Addr} {n : Nat} {is : Nat → Bool} {x y : Nat → Int} (h : Votes w A n is x y) (hb : Below w.heap.size w w1) : Votes w1 A n is x y := by
  refine ⟨h.len, fun i hi => ?_⟩
  obtain ⟨ad, h0, h1, h2, h3⟩ := h.cells i hi
  have hlt : ∀ {p : Addr} {v : Value}, w.cell? p = some v → w1.cell? p = some v := fun {p v} hp => (hb.cell (World.block_lt_of_cell? _ _ hp)).trans hp
  exact ⟨ad, h0, hlt h1, hlt h2, hlt h3⟩

theorem of_any (x y : Int) (w : World) : Calls Tryz.prog 155 #[.agg #[.int .i64 x, .int .i64 y]] w fun e w' => e = .returned (.agg #[.int .i64 x, .int .i64 y]) ∧ Below w.heap.size w w' := by
  have HB := Aside0.mk (Below.refl w.heap.size w)
  go_enter Tryz.func155, Tryz.ntmps155
  go_wp2
  exact bodyPost_ret (v := .agg #[.int .i64 x, .int .i64 y]) (by simp [results, Tryz.results155, go_sem]) rfl ⟨rfl, below_alloc (below_alloc HB.out _) _⟩

def cnt (is : Nat → Bool) (x y : Nat → Int) : Nat → Int → Int → Int
  | 0, _, _ => 0
  | n + 1, a, b => if is n = true ∧ a = x n ∧ b = y n then cnt is x y n a b + 1 else cnt is x y n a b
theorem cnt_bd (is : Nat → Bool) (x y : Nat → Int) (a b : Int) : ∀ n, 0 ≤ cnt is x y n a b ∧ cnt is x y n a b ≤ n
  | 0 => by simp [cnt]
  | n + 1 => by
    have := cnt_bd is x y a b n
    unfold cnt
    split <;> omega
theorem cnt_yes (is : Nat → Bool) (x y : Nat → Int) (n : Nat) (h : is n = true) : upd (cnt is x y n) (x n) (y n) (cnt is x y n (x n) (y n) + 1) = cnt is x y (n + 1) := by
  funext a b
  unfold upd
  show _ = if is n = true ∧ a = x n ∧ b = y n then cnt is x y n a b + 1 else cnt is x y n a b
  by_cases c : a = x n ∧ b = y n
  · rw [if_pos c, if_pos ⟨h, c⟩, c.1, c.2]
  · rw [if_neg c, if_neg (fun g => c g.2)]
theorem cnt_no (is : Nat → Bool) (x y : Nat → Int) (n : Nat) (h : is n = false) : cnt is x y n = cnt is x y (n + 1) := by
  funext a b
  show _ = if is n = true ∧ a = x n ∧ b = y n then cnt is x y n a b + 1 else cnt is x y n a b
  rw [if_neg (fun g => by rw [h] at g; exact absurd g.1 (by simp))]

def CountsPost (w : World) (is : Nat → Bool) (x y : Nat → Int) (n : Nat) (e : Ending) (w' : World) : Prop := ∃ b, e = .returned (.map (some b)) ∧ Has w' b (cnt is x y n) ∧ Below w.heap.size w w'

set_option maxHeartbeats 1000000 in
theorem counts_any (A : Option Addr) (n c : Nat) (is : Nat → Bool) (x y : Nat → Int) (w : World) (hv : Votes w A n is x y) (hc : n ≤ c) : Calls Tryz.prog 154 #[.slice A n c] w (CountsPost w is x y n) := by
  have hmm := @run_makeMap Tryz.prog
  have hu190 := Tryz.underlying190
  have hu44 := Tryz.underlying44
  have HV := Aside0.mk hv
  have hlen := hv.len
  clear hv
  go_enter Tryz.func154, Tryz.ntmps154
  go_wp2
  go_loopw [9] (fun i wr => ∃ k : Nat, k ≤ n ∧ i = .int .i64 k ∧ Aside0 (Has wr w.heap.size (cnt is x y k)) ∧ Aside0 (Below w.heap.size w wr)) (fun i _ => n - (intOf i).toNat)
  case atStart => exact ⟨0, Nat.zero_le _, rfl, ⟨Has.made w⟩, ⟨(Below.refl _ _).alloc (Nat.le_refl _) _⟩⟩
  case round =>
    obtain ⟨k, hk, rfl, HM, HB⟩ := hrel
    by_cases hlt : k < n
    · obtain ⟨ad, rfl, c0, c1, c2⟩ := (HV.out.below HB.out).cells k hlt
      cases hi : is k with
      | true =>
        rw [hi] at c0
        go_wp2_with fail
        go_region_with (go_at_call 155; refine (of_any _ _ _).mono ?_; rintro e w3 ⟨rfl, hb3⟩; have HM3 := Aside0.mk (((HM.out.alloc _).drew).below hb3); have hl3 := HM3.out.look (x k) (y k); obtain ⟨v0, st, wA, wB, hE, hS, hHB, hG, hlA⟩ := HM3.out.entry (x k) (y k) (IntKind.i64.wrap (cnt is x y k (x k) (y k) + 1)); have HHB := Aside0.mk hHB; have HG := Aside0.mk hG; clear hHB hG)
        all_goals
          have HX : Aside0 (Has wB w.heap.size (cnt is x y (k + 1))) := ⟨by
            have h0 := HHB.out
            have hb := cnt_bd is x y (x k) (y k) k
            have hw : IntKind.i64.wrap (cnt is x y k (x k) (y k) + 1) = cnt is x y k (x k) (y k) + 1 := by
              rw [IntKind.wrap_i64]
              omega
            rw [hw, cnt_yes is x y k hi] at h0
            exact h0⟩
          have HY : Aside0 (Below w.heap.size w wB) := ⟨by
            have h1 := below_step (below_drew1 (below_alloc HB.out _)) hb3
            exact h1.grown HG.out h1.size (fun j hj => by cases hj; exact Nat.le_refl _)⟩
          clear hl3 hE hS hlA HHB HG hb3 HM3 hi c0 c1 c2
          go_wp2
          go_roundw
          case rel => exact ⟨k + 1, by omega, by go_num, HX, HY⟩
          case measure => simp [intOf]; omega
      | false =>
        rw [hi] at c0
        have HX : Aside0 (Has wr w.heap.size (cnt is x y (k + 1))) := ⟨by rw [← cnt_no is x y k hi]; exact HM.out⟩
        clear hi
        go_wp2
        go_roundw
        case rel => exact ⟨k + 1, by omega, by go_num, ⟨HX.out.alloc _⟩, ⟨below_alloc HB.out _⟩⟩
        case measure => simp [intOf]; omega
    · obtain rfl : k = n := by omega
      go_wp2
      go_ret
      exact ⟨_, rfl, HM.out, HB.out⟩

def wins (is : Nat → Bool) (x y : Nat → Int) (n : Nat) (i : Nat) : Bool := is i && !(x i == 0 && y i == 0) && decide ((n : Int) < wrap64 (2 * cnt is x y n (x i) (y i)))
def mostFrom (is : Nat → Bool) (x y : Nat → Int) (n : Nat) : Nat → Nat → Int × Int
  | 0, _ => (0, 0)
  | d + 1, i => if wins is x y n i = true then (x i, y i) else mostFrom is x y n d (i + 1)

set_option maxHeartbeats 1000000 in
set_option maxRecDepth 100000 in
theorem most_any (A : Option Addr) (n c : Nat) (is : Nat → Bool) (x y : Nat → Int) (w : World) (hv : Votes w A n is x y) (hc : n ≤ c) (r1 r2 : Int) (h : mostFrom is x y n n 0 = (r1, r2)) :
    Calls Tryz.prog 113 #[.slice A n c] w fun e w' => e = .returned (.agg #[.int .i64 r1, .int .i64 r2]) ∧ Below w.heap.size w w' := by
  have hu190 := Tryz.underlying190
  have hu44 := Tryz.underlying44
  have hu250 := Tryz.underlying250
  have HV := Aside0.mk hv
  have HC := Aside0.mk hc
  have H := Aside0.mk h
  have hlen := hv.len
  clear hv hc h
  go_enter Tryz.func113, Tryz.ntmps113
  go_wp2_with fail
  refine (counts_any A n c is x y _ (HV.out.below ((Below.refl _ _).alloc (Nat.le_refl _) _)) HC.out).mono ?_
  rintro e w1 ⟨b, rfl, hm, hb1⟩
  have HM := Aside0.mk hm
  have HB := Aside0.mk (below_step (below_alloc (Below.refl w.heap.size w) _) hb1)
  have BK := Aside0.mk (blk_below (g := w.heap.size) (o := .cells #[.int .i64 0, .int .i64 0] 44 (0, 0)) (MapKept.heap_alloc w _).1 hb1)
  clear hm hb1
  go_wp2_with fail
  go_loopw [12] (fun i wr => ∃ k : Nat, k ≤ n ∧ i = .int .i64 k ∧ Aside0 (mostFrom is x y n (n - k) k = (r1, r2)) ∧ Aside0 (Has wr b (cnt is x y n)) ∧ Aside0 (wr.heap[w.heap.size]? = some (.cells #[.int .i64 0, .int .i64 0] 44 (0, 0))) ∧ Aside0 (Below w.heap.size w wr)) (fun i _ => n - (intOf i).toNat)
  case atStart => exact ⟨0, Nat.zero_le _, rfl, H, HM, BK, HB⟩
  case round =>
    clear HM HB H BK
    obtain ⟨k, hk, rfl, H, HM, BK, HB⟩ := hrel
    by_cases hlt : k < n
    · obtain ⟨ad, rfl, c0, c1, c2⟩ := (HV.out.below HB.out).cells k hlt
      go_wp2_with fail
      refine (of_any _ _ _).mono ?_
      rintro e w2 ⟨rfl, hb2⟩
      go_wp2_with fail
      refine (of_any _ _ _).mono ?_
      rintro e w3 ⟨rfl, hb3⟩
      have HB2 := Aside0.mk hb2
      have HB3 := Aside0.mk hb3
      have s2 := hb2.size
      have s3 := hb3.size
      simp only [World.size_alloc] at s2 s3
      have hbx := blk_below (g := wr.heap.size) (o := .cells #[.bool (is k), .int .i64 (x k), .int .i64 (y k)] 190 (0, 0)) (blk_alloc (blk_below (g := wr.heap.size) (o := .cells #[.bool (is k), .int .i64 (x k), .int .i64 (y k)] 190 (0, 0)) (blk_new wr _) hb2) (.cells #[.int .i64 (x k), .int .i64 (y k)] 250)) hb3
      have hby := blk_below (g := w2.heap.size) (o := .cells #[.int .i64 (x k), .int .i64 (y k)] 250 (0, 0)) (blk_new w2 _) hb3
      have d0 : w3.cell? ⟨wr.heap.size, 0, none⟩ = some (.bool (is k)) := (blk_cell hbx 0).trans rfl
      have d1 : w3.cell? ⟨wr.heap.size, 1, none⟩ = some (.int .i64 (x k)) := (blk_cell hbx 1).trans rfl
      have d2 : w3.cell? ⟨wr.heap.size, 2, none⟩ = some (.int .i64 (y k)) := (blk_cell hbx 2).trans rfl
      have e0 : w3.cell? ⟨w2.heap.size, 0, none⟩ = some (.int .i64 (x k)) := (blk_cell hby 0).trans rfl
      have e1 : w3.cell? ⟨w2.heap.size, 1, none⟩ = some (.int .i64 (y k)) := (blk_cell hby 1).trans rfl
      have z1 : wr.heap.size < w3.heap.size := by omega
      have z2 : w2.heap.size < w3.heap.size := by omega
      have HM3 := Aside0.mk (((HM.out.alloc (.cells #[.bool (is k), .int .i64 (x k), .int .i64 (y k)] 190)).below hb2 |>.alloc (.cells #[.int .i64 (x k), .int .i64 (y k)] 250)).below hb3)
      have HB4 := Aside0.mk (below_step (below_alloc (below_step (below_alloc HB.out (.cells #[.bool (is k), .int .i64 (x k), .int .i64 (y k)] 190)) hb2) (.cells #[.int .i64 (x k), .int .i64 (y k)] 250)) hb3)
      have BK3 := Aside0.mk (blk_below (g := w.heap.size) (o := .cells #[.int .i64 0, .int .i64 0] 44 (0, 0)) (blk_alloc (blk_below (g := w.heap.size) (o := .cells #[.int .i64 0, .int .i64 0] 44 (0, 0)) (blk_alloc BK.out (.cells #[.bool (is k), .int .i64 (x k), .int .i64 (y k)] 190)) hb2) (.cells #[.int .i64 (x k), .int .i64 (y k)] 250)) hb3)
      clear hb2 hb3 c0 c1 c2 s2 s3 HB HM HB2 HB3 BK hbx hby
      have hd : mostFrom is x y n (n - k) k = if wins is x y n k = true then (x k, y k) else mostFrom is x y n (n - (k + 1)) (k + 1) := by
        rw [show n - k = (n - (k + 1)) + 1 from by omega]
        rfl
      have HD := Aside0.mk (hd.symm.trans H.out)
      clear hd H
      have heq : ∀ w', (Op.equalIn 10000 250 (.agg #[.int .i64 (x k), .int .i64 (y k)]) (.agg #[.int .i64 0, .int .i64 0])).run Tryz.prog w' = .ok (x k == 0 && y k == 0) w' := fun w' => eq250 (x k) (y k) 0 0 w'
      have hl : ∀ o, (Instr.lookup 247 (.map (some b)) (.agg #[.int .i64 (x k), .int .i64 (y k)]) false).run Tryz.prog (w3.alloc o) = .ok (.int .i64 (cnt is x y n (x k) (y k))) (w3.alloc o) := fun o => (HM3.out.alloc o).look (x k) (y k)
      cases hi : is k with
      | false =>
        have HN : Aside0 (mostFrom is x y n (n - (k + 1)) (k + 1) = (r1, r2)) := ⟨by
          have h0 := HD.out
          rw [if_neg (by unfold wins; rw [hi]; simp)] at h0
          exact h0⟩
        rw [hi] at d0
        clear hi heq hl HD d1 d2 e0 e1
        go_wp2
        go_roundw
        case rel => exact ⟨k + 1, by omega, by go_num, HN, ⟨HM3.out.alloc _⟩, ⟨blk_alloc BK3.out _⟩, ⟨below_alloc HB4.out _⟩⟩
        case measure => simp [intOf]; omega
      | true =>
        rw [hi] at d0
        cases hz : (x k == 0 && y k == 0) with
        | true =>
          have HN : Aside0 (mostFrom is x y n (n - (k + 1)) (k + 1) = (r1, r2)) := ⟨by
            have h0 := HD.out
            rw [if_neg (by unfold wins; rw [hi, hz]; simp)] at h0
            exact h0⟩
          rw [hz] at heq
          clear hi hz hl HD
          go_wp2
          go_roundw
          case rel => exact ⟨k + 1, by omega, by go_num, HN, ⟨HM3.out.alloc _⟩, ⟨blk_alloc BK3.out _⟩, ⟨below_alloc HB4.out _⟩⟩
          case measure => simp [intOf]; omega
        | false =>
          rw [hz] at heq
          by_cases hw : (n : Int) < wrap64 (2 * cnt is x y n (x k) (y k))
          · have HN : Aside0 ((x k, y k) = (r1, r2)) := ⟨by
              have h0 := HD.out
              rw [if_pos (by unfold wins; rw [hi, hz, decide_eq_true hw]; rfl)] at h0
              exact h0⟩
            clear hi hz HD
            generalize cnt is x y n (x k) (y k) = cv at *
            have f0 : w3.cell? ⟨w.heap.size, 0, none⟩ = some (.int .i64 0) := (blk_cell BK3.out 0).trans rfl
            have f1 : w3.cell? ⟨w.heap.size, 1, none⟩ = some (.int .i64 0) := (blk_cell BK3.out 1).trans rfl
            have g0 := blk_frozen BK3.out 0
            have g1 := blk_frozen BK3.out 1
            have z0 : w.heap.size < w3.heap.size := (Array.getElem?_eq_some_iff.1 BK3.out).1
            go_wp2
            obtain ⟨q1, q2⟩ := Prod.mk.inj HN.out
            rw [← q1, ← q2]
            exact bodyPost_ret (v := .agg #[.int .i64 (x k), .int .i64 (y k)]) (by simp [results, Tryz.results113, go_sem, f0, f1, z0, hu44]) rfl ⟨rfl, below_alloc (below_set (below_set HB4.out (Nat.le_refl _)) (Nat.le_refl _)) _⟩
          · have HN : Aside0 (mostFrom is x y n (n - (k + 1)) (k + 1) = (r1, r2)) := ⟨by
              have h0 := HD.out
              rw [if_neg (by unfold wins; rw [hi, hz, decide_eq_false hw]; simp)] at h0
              exact h0⟩
            clear hi hz HD
            generalize cnt is x y n (x k) (y k) = cv at *
            go_wp2
            go_roundw
            case rel => exact ⟨k + 1, by omega, by go_num, HN, ⟨HM3.out.alloc _⟩, ⟨blk_alloc BK3.out _⟩, ⟨below_alloc HB4.out _⟩⟩
            case measure => simp [intOf]; omega
    · obtain rfl : k = n := by omega
      have HN : Aside0 (((0 : Int), (0 : Int)) = (r1, r2)) := ⟨by
        have h0 := H.out
        rw [Nat.sub_self] at h0
        exact h0⟩
      clear H
      have f0 : wr.cell? ⟨w.heap.size, 0, none⟩ = some (.int .i64 0) := (blk_cell BK.out 0).trans rfl
      have f1 : wr.cell? ⟨w.heap.size, 1, none⟩ = some (.int .i64 0) := (blk_cell BK.out 1).trans rfl
      have g0 := blk_frozen BK.out 0
      have g1 := blk_frozen BK.out 1
      go_wp2
      obtain ⟨q1, q2⟩ := Prod.mk.inj HN.out
      rw [← q1, ← q2]
      exact bodyPost_ret (v := .agg #[.int .i64 0, .int .i64 0]) (by simp [results, Tryz.results113, go_sem, f0, f1, hu44]) rfl ⟨rfl, below_set (below_set HB.out (Nat.le_refl _)) (Nat.le_refl _)⟩
theorem cnt_two (is : Nat → Bool) (x y : Nat → Int) (a b a' b' : Int) (h : ¬ (a = a' ∧ b = b')) : ∀ n, cnt is x y n a b + cnt is x y n a' b' ≤ n
  | 0 => by simp [cnt]
  | n + 1 => by
    have ih := cnt_two is x y a b a' b' h n
    unfold cnt
    by_cases c : is n = true ∧ a = x n ∧ b = y n
    · rw [if_pos c, if_neg (fun c' => h ⟨c.2.1.trans c'.2.1.symm, c.2.2.trans c'.2.2.symm⟩)]
      omega
    · rw [if_neg c]
      split <;> omega
theorem wrap_two {c n : Int} (h0 : 0 ≤ c) (h1 : c ≤ n) (h2 : n ≤ 9223372036854775807) (h : n < wrap64 (2 * c)) : n < 2 * c := by
  unfold wrap64 at h
  omega
theorem none_else (is : Nat → Bool) (x y : Nat → Int) (n : Nat) (hn : n ≤ 9223372036854775807) (h : (n : Int) < wrap64 (2 * cnt is x y n 0 0)) (i : Nat) : wins is x y n i = false := by
  cases hw : wins is x y n i with
  | false => rfl
  | true =>
    unfold wins at hw
    simp only [Bool.and_eq_true, decide_eq_true_eq, Bool.not_eq_true'] at hw
    obtain ⟨⟨_, hz⟩, hc⟩ := hw
    have hne : ¬ (x i = 0 ∧ y i = 0) := fun g => by
      rw [g.1, g.2] at hz
      simp at hz
    have b0 := cnt_bd is x y 0 0 n
    have b1 := cnt_bd is x y (x i) (y i) n
    have t := cnt_two is x y (x i) (y i) 0 0 hne n
    have e0 := wrap_two b0.1 b0.2 (by omega) h
    have e1 := wrap_two b1.1 b1.2 (by omega) hc
    omega
theorem mostFrom_none (is : Nat → Bool) (x y : Nat → Int) (n : Nat) (h : ∀ i, wins is x y n i = false) : ∀ d i, mostFrom is x y n d i = (0, 0)
  | 0, _ => rfl
  | d + 1, i => by
    unfold mostFrom
    rw [if_neg (by rw [h i]; simp)]
    exact mostFrom_none is x y n h d (i + 1)
end Go.Proofs.YtdbempiompiioaaGreat.A36
