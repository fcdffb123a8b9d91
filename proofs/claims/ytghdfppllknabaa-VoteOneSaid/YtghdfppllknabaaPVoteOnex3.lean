/- Functions that the claim reaches, each as a plain Lean function with a proof that the Go call comes to what it answers, written by the printer of the kit for this claim over stand-in bodies whose own contracts are proved by hand. Conditions: the readings stated in each theorem. -/
import Derived.Test.YtghdfppllknabaaPVoteOnex0
import Derived.Test.YtghdfppllknabaaPVoteOnex1
import Derived.Test.YtghdfppllknabaaPVoteOnex2
namespace Go.Proofs.Ytghdfppllknabaa.PVoteOne
open Go.RowKit Go.Proofs.YtghdfppllknabaaW.PrintWords Go.Proofs.YtghdfppllknabaaW.PrintLast Go.Proofs.YtghdfppllknabaaW.PrintMore
attribute [local go_sem] max2_int min2_int max_two min_two max_three min_three max_four min_four   -- for this text's walks alone
set_option linter.unusedVariables false
set_option linter.unusedSimpArgs false

attribute [local go_sem high] eqA29
/-! ### plaitinglaw15_VoteOne: function 5 -/
mutual
def plaitinglaw15_VoteOne.j0 : Nat → Int → Int → Bool → Int → Int → Int → Int → Option (Bool)
  | 0, _, _, _, _, _, _, _ => none
  | k + 1, x0, x1, x4, x120000, x120001, x121000, x121001 => plaitinglaw15_VoteOne.l0 k x0 x1 x4 ([] : List (S31)) 0 x120000 x120001 x121000 x121001
def plaitinglaw15_VoteOne.l0 : Nat → Int → Int → Bool → List (S31) → Int → Int → Int → Int → Int → Option (Bool)
  | 0, _, _, _, _, _, _, _, _, _ => none
  | k + 1, x0, x1, x4, x13, x14, x120000, x120001, x121000, x121001 => if x14 < x0 then (if x13.length < 5864062014805 then (plaitinglaw15_VoteOne.l0 k x0 x1 x4 (x13 ++ [(⟨true, (⟨x120000, x120001⟩ : S29)⟩ : S31)]) (wrap64 (x14 + 1)) x120000 x120001 x121000 x121001) else (none)) else ((plaitinglaw15_within.f x1 x0).bind fun t126 => (if 0 ≤ t126 then (if t126 < (x13.length : Int) then ((vote_Most.f k (x13.set (t126 : Int).toNat (⟨!x4, (⟨x121000, x121001⟩ : S29)⟩ : S31))).bind fun bt128 => (some (bt128.1 == x120000 && (bt128.2 == x120001)))) else (none)) else (none)))
end
def plaitinglaw15_VoteOne.f (k : Nat) (a0 : Int) (a1 : Int) (a2 : Int) (a3 : Int) (a4 : Bool) : Option (Bool) := (plaitinglaw15_known.f k).bind fun t115 => (if t115 = true then ((plaitinglaw15_within.f a0 8).bind fun t116 => ((plaitinglaw15_within.f a2 256).bind fun t117 => ((plaitinglaw15_within.f a3 256).bind fun t118 => ((plaitinglaw15_within.f a2 5).bind fun t121 => (if t121 = 0 then ((plaitinglaw15_within.f (wrap64 (Int.tdiv a2 5)) 2).bind fun t122 => (plaitinglaw15_VoteOne.j0 k (wrap64 (4 + t116)) a1 a4 t122 0 2 t118)) else (plaitinglaw15_VoteOne.j0 k (wrap64 (4 + t116)) a1 a4 2 t117 2 t118)))))) else (some false))
theorem plaitinglaw15_VoteOne.mono_l : ∀ k, (∀ y0 y1 y2 y3 y4 y5 y6, LeO (plaitinglaw15_VoteOne.j0 k y0 y1 y2 y3 y4 y5 y6) (plaitinglaw15_VoteOne.j0 (k + 1) y0 y1 y2 y3 y4 y5 y6)) ∧ (∀ y0 y1 y2 y3 y4 y5 y6 y7 y8, LeO (plaitinglaw15_VoteOne.l0 k y0 y1 y2 y3 y4 y5 y6 y7 y8) (plaitinglaw15_VoteOne.l0 (k + 1) y0 y1 y2 y3 y4 y5 y6 y7 y8))
  | 0 => ⟨fun _ _ _ _ _ _ _ r h => by simp [plaitinglaw15_VoteOne.j0] at h, fun _ _ _ _ _ _ _ _ _ r h => by simp [plaitinglaw15_VoteOne.l0] at h⟩
  | k + 1 => by
    obtain ⟨ih0, ih1⟩ := plaitinglaw15_VoteOne.mono_l k
    refine ⟨?_, ?_⟩
    · intro y0 y1 y2 y3 y4 y5 y6
      unfold plaitinglaw15_VoteOne.j0
      repeat' first
      | (with_reducible exact ih0 _ _ _ _ _ _ _)
      | (with_reducible exact ih1 _ _ _ _ _ _ _ _ _)
      | (with_reducible exact plaitinglaw15_known.mono _)
      | (with_reducible exact vote_Most.mono _ _)
      | (with_reducible exact LeO.refl _)
      | (with_reducible exact LeO.none _)
      | (with_reducible refine LeO.ite ?_ ?_)
      | (with_reducible refine LeO.bind ?_ (fun _ => ?_))
      | exact ih0 _ _ _ _ _ _ _
      | exact ih1 _ _ _ _ _ _ _ _ _
      | exact plaitinglaw15_known.mono _
      | exact vote_Most.mono _ _
      | exact LeO.none _
      | refine LeO.ite ?_ ?_
      | refine LeO.bind ?_ (fun _ => ?_)
    · intro y0 y1 y2 y3 y4 y5 y6 y7 y8
      unfold plaitinglaw15_VoteOne.l0
      repeat' first
      | (with_reducible exact ih0 _ _ _ _ _ _ _)
      | (with_reducible exact ih1 _ _ _ _ _ _ _ _ _)
      | (with_reducible exact plaitinglaw15_known.mono _)
      | (with_reducible exact vote_Most.mono _ _)
      | (with_reducible exact LeO.refl _)
      | (with_reducible exact LeO.none _)
      | (with_reducible refine LeO.ite ?_ ?_)
      | (with_reducible refine LeO.bind ?_ (fun _ => ?_))
      | exact ih0 _ _ _ _ _ _ _
      | exact ih1 _ _ _ _ _ _ _ _ _
      | exact plaitinglaw15_known.mono _
      | exact vote_Most.mono _ _
      | exact LeO.none _
      | refine LeO.ite ?_ ?_
      | refine LeO.bind ?_ (fun _ => ?_)
theorem plaitinglaw15_VoteOne.mono : ∀ a0 a1 a2 a3 a4 k, LeO (plaitinglaw15_VoteOne.f k a0 a1 a2 a3 a4) (plaitinglaw15_VoteOne.f (k + 1) a0 a1 a2 a3 a4) := by
  intro a0 a1 a2 a3 a4 k
  obtain ⟨ih0, ih1⟩ := plaitinglaw15_VoteOne.mono_l k
  unfold plaitinglaw15_VoteOne.f
  repeat' first
      | (with_reducible exact ih0 _ _ _ _ _ _ _)
      | (with_reducible exact ih1 _ _ _ _ _ _ _ _ _)
      | (with_reducible exact plaitinglaw15_known.mono _)
      | (with_reducible exact vote_Most.mono _ _)
      | (with_reducible exact LeO.refl _)
      | (with_reducible exact LeO.none _)
      | (with_reducible refine LeO.ite ?_ ?_)
      | (with_reducible refine LeO.bind ?_ (fun _ => ?_))
      | exact ih0 _ _ _ _ _ _ _
      | exact ih1 _ _ _ _ _ _ _ _ _
      | exact plaitinglaw15_known.mono _
      | exact vote_Most.mono _ _
      | exact LeO.none _
      | refine LeO.ite ?_ ?_
      | refine LeO.bind ?_ (fun _ => ?_)
def plaitinglaw15_VoteOne.T12 : Bool × List (List Nat × List Nat) := (true, [([], []), ([], []), ([], []), ([1, 2], [1, 2]), ([], []), ([4], [4]), ([], []), ([5, 6], [5, 6]), ([0, 3, 0, 1, 2, 3, 4, 5, 6, 7], [0, 3]), ([8, 7, 3, 0, 1, 2, 3, 4, 5, 6, 7], [7, 8])])
def plaitinglaw15_VoteOne.B12 : List Nat := [0, 0, 0, 6, 0, 16, 0, 112, 255, 511]
theorem plaitinglaw15_VoteOne.tab12 : rtab .any (opsOf Try.f5 12) = plaitinglaw15_VoteOne.T12 := by kernel_rfl
theorem plaitinglaw15_VoteOne.bits12 : waitsOk plaitinglaw15_VoteOne.T12.2 plaitinglaw15_VoteOne.B12 = true := by kernel_rfl
set_option maxHeartbeats 8000000 in
set_option maxRecDepth 100000 in
theorem plaitinglaw15_VoteOne.calls (k : Nat) (a0 : Int) (a1 : Int) (a2 : Int) (a3 : Int) (a4 : Bool) (r : Bool) (w : World) (h : plaitinglaw15_VoteOne.f k a0 a1 a2 a3 a4 = some r) :
    Calls Try.prog 5 #[.int .i64 a0, .int .i64 a1, .int .i64 a2, .int .i64 a3, .bool a4] w fun e w' => e = .returned (.bool r) ∧ Below w.heap.size w w' := by
  have hu29 := Try.underlying29
  have hu31 := Try.underlying31
  have HB := Aside0.mk (Below.refl w.heap.size w)
  have H : ((plaitinglaw15_known.f k).bind fun t115 => (if t115 = true then ((plaitinglaw15_within.f a0 8).bind fun t116 => ((plaitinglaw15_within.f a2 256).bind fun t117 => ((plaitinglaw15_within.f a3 256).bind fun t118 => ((plaitinglaw15_within.f a2 5).bind fun t121 => (if t121 = 0 then ((plaitinglaw15_within.f (wrap64 (Int.tdiv a2 5)) 2).bind fun t122 => (plaitinglaw15_VoteOne.j0 k (wrap64 (4 + t116)) a1 a4 t122 0 2 t118)) else (plaitinglaw15_VoteOne.j0 k (wrap64 (4 + t116)) a1 a4 2 t117 2 t118)))))) else (some false))) = some r := h
  clear h
  replace H := Option.bind_eq_some_iff.mp H
  obtain ⟨t115, A60, H⟩ := H
  replace H : (if t115 = true then ((plaitinglaw15_within.f a0 8).bind fun t116 => ((plaitinglaw15_within.f a2 256).bind fun t117 => ((plaitinglaw15_within.f a3 256).bind fun t118 => ((plaitinglaw15_within.f a2 5).bind fun t121 => (if t121 = 0 then ((plaitinglaw15_within.f (wrap64 (Int.tdiv a2 5)) 2).bind fun t122 => (plaitinglaw15_VoteOne.j0 k (wrap64 (4 + t116)) a1 a4 t122 0 2 t118)) else (plaitinglaw15_VoteOne.j0 k (wrap64 (4 + t116)) a1 a4 2 t117 2 t118)))))) else (some false)) = some r := H
  have A6 := Aside0.mk A60
  clear A60
  by_cases c7 : t115 = true
  · subst c7
    have H1 : ((plaitinglaw15_within.f a0 8).bind fun t116 => ((plaitinglaw15_within.f a2 256).bind fun t117 => ((plaitinglaw15_within.f a3 256).bind fun t118 => ((plaitinglaw15_within.f a2 5).bind fun t121 => (if t121 = 0 then ((plaitinglaw15_within.f (wrap64 (Int.tdiv a2 5)) 2).bind fun t122 => (plaitinglaw15_VoteOne.j0 k (wrap64 (4 + t116)) a1 a4 t122 0 2 t118)) else (plaitinglaw15_VoteOne.j0 k (wrap64 (4 + t116)) a1 a4 2 t117 2 t118)))))) = some r := by rw [if_pos rfl] at H; exact H
    clear H
    have H := H1
    clear H1
    replace H := Option.bind_eq_some_iff.mp H
    obtain ⟨t116, A80, H⟩ := H
    replace H : ((plaitinglaw15_within.f a2 256).bind fun t117 => ((plaitinglaw15_within.f a3 256).bind fun t118 => ((plaitinglaw15_within.f a2 5).bind fun t121 => (if t121 = 0 then ((plaitinglaw15_within.f (wrap64 (Int.tdiv a2 5)) 2).bind fun t122 => (plaitinglaw15_VoteOne.j0 k (wrap64 (4 + t116)) a1 a4 t122 0 2 t118)) else (plaitinglaw15_VoteOne.j0 k (wrap64 (4 + t116)) a1 a4 2 t117 2 t118))))) = some r := H
    have A8 := Aside0.mk A80
    clear A80
    replace H := Option.bind_eq_some_iff.mp H
    obtain ⟨t117, A90, H⟩ := H
    replace H : ((plaitinglaw15_within.f a3 256).bind fun t118 => ((plaitinglaw15_within.f a2 5).bind fun t121 => (if t121 = 0 then ((plaitinglaw15_within.f (wrap64 (Int.tdiv a2 5)) 2).bind fun t122 => (plaitinglaw15_VoteOne.j0 k (wrap64 (4 + t116)) a1 a4 t122 0 2 t118)) else (plaitinglaw15_VoteOne.j0 k (wrap64 (4 + t116)) a1 a4 2 t117 2 t118)))) = some r := H
    have A9 := Aside0.mk A90
    clear A90
    replace H := Option.bind_eq_some_iff.mp H
    obtain ⟨t118, A100, H⟩ := H
    replace H : ((plaitinglaw15_within.f a2 5).bind fun t121 => (if t121 = 0 then ((plaitinglaw15_within.f (wrap64 (Int.tdiv a2 5)) 2).bind fun t122 => (plaitinglaw15_VoteOne.j0 k (wrap64 (4 + t116)) a1 a4 t122 0 2 t118)) else (plaitinglaw15_VoteOne.j0 k (wrap64 (4 + t116)) a1 a4 2 t117 2 t118))) = some r := H
    have A10 := Aside0.mk A100
    clear A100
    replace H := Option.bind_eq_some_iff.mp H
    obtain ⟨t121, A110, H⟩ := H
    replace H : (if t121 = 0 then ((plaitinglaw15_within.f (wrap64 (Int.tdiv a2 5)) 2).bind fun t122 => (plaitinglaw15_VoteOne.j0 k (wrap64 (4 + t116)) a1 a4 t122 0 2 t118)) else (plaitinglaw15_VoteOne.j0 k (wrap64 (4 + t116)) a1 a4 2 t117 2 t118)) = some r := H
    have A11 := Aside0.mk A110
    clear A110
    have HC12 := Aside0.mk H
    clear H
    go_enter Try.func5, Try.ntmps5
    go_upto_if 28 with (first | ((with_reducible refine gate_callee (f := 9) rfl ?_); refine goesL_ (some 15) rfl rfl Try.func9 (by kernel_rfl) rfl #[] rfl (by (try simp only [List.map_toArray, List.map_cons, List.map_nil]); first | done | rfl | (simp only [List.length_drop, List.length_take]; rfl)) ?_; (with_reducible refine (plaitinglaw15_known.calls k  true _ A6.out).mono ?_); rintro e w13 ⟨rfl, hb⟩; refine ⟨_, rfl, ?_⟩; have n0_ := Aside0.mk (below_step (by repeat (first | (with_reducible first | exact HB.out | apply below_alloc | apply pw_below_drewN | apply below_drew1) | exact HB.out)) hb); clear HB; have HB := n0_; clear n0_; (try clear hb); (try clear hb2); (try clear hk); (try clear hi)) | ((with_reducible refine gate_callee (f := 11) rfl ?_); refine goesL_ (some 18) rfl rfl Try.func11 (by kernel_rfl) rfl #[.int .i64 a0, .int .i64 8] rfl (by (try simp only [List.map_toArray, List.map_cons, List.map_nil]); first | done | rfl | (simp only [List.length_drop, List.length_take]; rfl)) ?_; (with_reducible refine (plaitinglaw15_within.calls a0 8 t116 _ A8.out).mono ?_); rintro e w' ⟨rfl, ⟨nd, rfl⟩⟩; refine ⟨_, rfl, ?_⟩; (try (rw [drewN_self w13]; generalize hq_ : World.drewN w13 _ = w13; have n0_ : Aside0 (Below w.heap.size w w13) := ⟨by rw [← hq_]; exact (by repeat (first | (with_reducible first | exact HB.out | apply below_alloc | apply pw_below_drewN | apply below_drew1) | exact HB.out))⟩; clear HB hq_; have HB := n0_; clear n0_))) | ((with_reducible refine gate_callee (f := 11) rfl ?_); refine goesL_ (some 21) rfl rfl Try.func11 (by kernel_rfl) rfl #[.int .i64 a2, .int .i64 256] rfl (by (try simp only [List.map_toArray, List.map_cons, List.map_nil]); first | done | rfl | (simp only [List.length_drop, List.length_take]; rfl)) ?_; (with_reducible refine (plaitinglaw15_within.calls a2 256 t117 _ A9.out).mono ?_); rintro e w' ⟨rfl, ⟨nd, rfl⟩⟩; refine ⟨_, rfl, ?_⟩; (try (rw [drewN_self w13]; generalize hq_ : World.drewN w13 _ = w13; have n0_ : Aside0 (Below w.heap.size w w13) := ⟨by rw [← hq_]; exact (by repeat (first | (with_reducible first | exact HB.out | apply below_alloc | apply pw_below_drewN | apply below_drew1) | exact HB.out))⟩; clear HB hq_; have HB := n0_; clear n0_))) | ((with_reducible refine gate_callee (f := 11) rfl ?_); refine goesL_ (some 24) rfl rfl Try.func11 (by kernel_rfl) rfl #[.int .i64 a3, .int .i64 256] rfl (by (try simp only [List.map_toArray, List.map_cons, List.map_nil]); first | done | rfl | (simp only [List.length_drop, List.length_take]; rfl)) ?_; (with_reducible refine (plaitinglaw15_within.calls a3 256 t118 _ A10.out).mono ?_); rintro e w' ⟨rfl, ⟨nd, rfl⟩⟩; refine ⟨_, rfl, ?_⟩; (try (rw [drewN_self w13]; generalize hq_ : World.drewN w13 _ = w13; have n0_ : Aside0 (Below w.heap.size w w13) := ⟨by rw [← hq_]; exact (by repeat (first | (with_reducible first | exact HB.out | apply below_alloc | apply pw_below_drewN | apply below_drew1) | exact HB.out))⟩; clear HB hq_; have HB := n0_; clear n0_))) | ((with_reducible refine gate_dst (N := 11) rfl ?_); refine box_event ?hg (N := 11) ?hd (cs := #[.int .i64 0, .int .i64 0]) (t := 29) ?hr ?_; (case hd => rfl); (case hg => rfl); (case hr => first | (go_simp; done) | (go_simp; rfl)); intro gb119 hg w14 hbox hb; have n0_ := Aside0.mk (below_step (by repeat (first | (with_reducible first | exact HB.out | apply below_alloc | apply pw_below_drewN | apply below_drew1) | exact HB.out)) hb); have n1_ := Aside0.mk (hbox); have n2_ := Aside0.mk ((by rw [hg]; exact (below_size (by repeat (first | (with_reducible first | exact HB.out | apply below_alloc | apply pw_below_drewN | apply below_drew1) | exact HB.out))) : w.heap.size ≤ gb119)); have n3_ := Aside0.mk ((by rw [hg]; exact (below_size (by repeat (first | (with_reducible first | exact HB.out | apply below_alloc | apply pw_below_drewN | apply below_drew1) | exact HB.out))) : w.heap.size ≤ gb119)); clear HB; have HB := n0_; have BK119 := n1_; have GW119 := n2_; have GE119 := n3_; clear n0_ n1_ n2_ n3_; clear hb hbox hg) | ((with_reducible refine gate_dst (N := 12) rfl ?_); refine box_event ?hg (N := 12) ?hd (cs := #[.int .i64 0, .int .i64 0]) (t := 29) ?hr ?_; (case hd => rfl); (case hg => rfl); (case hr => first | (go_simp; done) | (go_simp; rfl)); intro gb120 hg w15 hbox hb; have n0_ := Aside0.mk (blk_below (g := gb119) (o := .cells #[.int .i64 0, .int .i64 0] 29 (0, 0)) (by (with_reducible repeat (first | refine blk_drewN ?_ _ | refine blk_drew ?_ | refine blk_alloc ?_ _)); exact BK119.out) hb); have n1_ := Aside0.mk (below_step (by repeat (first | (with_reducible first | exact HB.out | apply below_alloc | apply pw_below_drewN | apply below_drew1 | refine below_set ?_ GE119.out) | exact HB.out)) hb); have n2_ := Aside0.mk (hbox); have n3_ := Aside0.mk ((by rw [hg]; exact (below_size (by repeat (first | (with_reducible first | exact HB.out | apply below_alloc | apply pw_below_drewN | apply below_drew1 | refine below_set ?_ GE119.out) | exact HB.out))) : w.heap.size ≤ gb120)); have n4_ := Aside0.mk ((by rw [hg]; exact (below_size (by repeat (first | (with_reducible first | exact HB.out | apply below_alloc | apply pw_below_drewN | apply below_drew1 | refine below_set ?_ GE119.out) | exact HB.out))) : w.heap.size ≤ gb120)); have n5_ := Aside0.mk ((by rw [hg]; exact Nat.ne_of_lt (blk_lt (g := gb119) (o := .cells #[.int .i64 0, .int .i64 0] 29 (0, 0)) (by (with_reducible repeat (first | refine blk_drewN ?_ _ | refine blk_drew ?_ | refine blk_alloc ?_ _)); exact BK119.out)) : gb119 ≠ gb120)); have n6_ := Aside0.mk ((by rw [hg]; exact Nat.ne_of_gt (blk_lt (g := gb119) (o := .cells #[.int .i64 0, .int .i64 0] 29 (0, 0)) (by (with_reducible repeat (first | refine blk_drewN ?_ _ | refine blk_drew ?_ | refine blk_alloc ?_ _)); exact BK119.out)) : gb120 ≠ gb119)); clear BK119; clear HB; have BK119 := n0_; have HB := n1_; have BK120 := n2_; have GW120 := n3_; have GE120 := n4_; have NB119_120 := n5_; have NB120_119 := n6_; clear n0_ n1_ n2_ n3_ n4_ n5_ n6_; clear hb hbox hg; have hnb16 := NB119_120.out; have hnc16 := NB120_119.out; have hcz17_0 : w15.cell? ⟨gb119, 0, none⟩ = some (.int .i64 0) := (blk_cell BK119.out 0).trans rfl; have hcz17_1 : w15.cell? ⟨gb119, 1, none⟩ = some (.int .i64 0) := (blk_cell BK119.out 1).trans rfl; have hfz17_0 := blk_frozen BK119.out 0; have hfz17_1 := blk_frozen BK119.out 1; have hcz18_0 : w15.cell? ⟨gb120, 0, none⟩ = some (.int .i64 0) := (blk_cell BK120.out 0).trans rfl; have hcz18_1 : w15.cell? ⟨gb120, 1, none⟩ = some (.int .i64 0) := (blk_cell BK120.out 1).trans rfl; have hfz18_0 := blk_frozen BK120.out 0; have hfz18_1 := blk_frozen BK120.out 1) | ((with_reducible refine gate_callee (f := 11) rfl ?_); refine goesL_ (some 27) rfl rfl Try.func11 (by kernel_rfl) rfl #[.int .i64 a2, .int .i64 5] rfl (by (try simp only [List.map_toArray, List.map_cons, List.map_nil]); first | done | rfl | (simp only [List.length_drop, List.length_take]; rfl)) ?_; (with_reducible refine (plaitinglaw15_within.calls a2 5 t121 _ A11.out).mono ?_); rintro e w' ⟨rfl, ⟨nd, rfl⟩⟩; refine ⟨_, rfl, ?_⟩))
    (try simp only [Act.put, List.setIfInBounds_toArray, List.set_cons_zero, List.set_cons_succ])
    go_cut [] (fun wc => ∃ (kq : Nat) (x120000_11 : Int) (x120001_11 : Int), Aside0 (plaitinglaw15_VoteOne.j0 kq (wrap64 (4 + t116)) a1 a4 x120000_11 x120001_11 2 t118 = some r) ∧ Aside0 (kq ≤ k) ∧ Aside0 (wc.heap[gb119]? = some (.cells #[.int .i64 x120000_11, .int .i64 x120001_11] 29 (0, 0))) ∧ Aside0 (wc.heap[gb120]? = some (.cells #[.int .i64 2, .int .i64 t118] 29 (0, 0))) ∧ Aside0 (Below w.heap.size w wc))
    case first =>
      have H := HC12.out
      clear HC12
      by_cases c19 : t121 = 0
      · rw [if_pos c19] at H
        have c19b0 : (t121 == 0) = true := beq_iff_eq.mpr c19
        have c19b1 : (t121 != 0) = false := bne_eq_false_iff_eq.mpr c19
        clear c19
        (first | rw [c19b0] | (simp only [i64_w, i32_w]; rw [c19b0]) | skip)
        replace H := Option.bind_eq_some_iff.mp H
        obtain ⟨t122, A200, H⟩ := H
        replace H : (plaitinglaw15_VoteOne.j0 k (wrap64 (4 + t116)) a1 a4 t122 0 2 t118) = some r := H
        have A20 := Aside0.mk A200
        clear A200
        have H' := Aside0.mk H
        clear H
        go_wp2_with (first | ((with_reducible refine gate_callee (f := 11) rfl ?_); refine goesL_ (some 31) rfl rfl Try.func11 (by kernel_rfl) rfl #[.int .i64 (wrap64 (Int.tdiv a2 5)), .int .i64 2] rfl (by (try simp only [List.map_toArray, List.map_cons, List.map_nil]); first | done | rfl | (simp only [List.length_drop, List.length_take]; rfl)) ?_; (with_reducible refine (plaitinglaw15_within.calls (wrap64 (Int.tdiv a2 5)) 2 t122 _ A20.out).mono ?_); rintro e w' ⟨rfl, ⟨nd, rfl⟩⟩; refine ⟨_, rfl, ?_⟩; have hnb21 := NB119_120.out; have hnc21 := NB120_119.out; have hcz22_0 : w15.cell? ⟨gb119, 0, none⟩ = some (.int .i64 0) := (blk_cell BK119.out 0).trans rfl; have hcz22_1 : w15.cell? ⟨gb119, 1, none⟩ = some (.int .i64 0) := (blk_cell BK119.out 1).trans rfl; have hfz22_0 := blk_frozen BK119.out 0; have hfz22_1 := blk_frozen BK119.out 1))
        go_meet
        case rel => exact ⟨_, (t122), (0), H', ⟨by first | omega | exact Nat.le_refl _⟩, ⟨by (with_reducible repeat (first | refine blk_drewN ?_ _ | refine blk_drew ?_ | refine blk_alloc ?_ _)); refine blk_put (cs := #[.int .i64 t122, .int .i64 t117]) ?_ 1 _ rfl; (with_reducible repeat (first | refine blk_drewN ?_ _ | refine blk_drew ?_ | refine blk_alloc ?_ _)); refine blk_put (cs := #[.int .i64 2, .int .i64 t117]) ?_ 0 _ rfl; (with_reducible repeat (first | refine blk_drewN ?_ _ | refine blk_drew ?_ | refine blk_alloc ?_ _)); refine blk_far ?_ NB119_120.out _; (with_reducible repeat (first | refine blk_drewN ?_ _ | refine blk_drew ?_ | refine blk_alloc ?_ _)); refine blk_far ?_ NB119_120.out _; (with_reducible repeat (first | refine blk_drewN ?_ _ | refine blk_drew ?_ | refine blk_alloc ?_ _)); refine blk_put (cs := #[.int .i64 2, .int .i64 0]) ?_ 1 _ rfl; (with_reducible repeat (first | refine blk_drewN ?_ _ | refine blk_drew ?_ | refine blk_alloc ?_ _)); refine blk_put (cs := #[.int .i64 0, .int .i64 0]) ?_ 0 _ rfl; (with_reducible repeat (first | refine blk_drewN ?_ _ | refine blk_drew ?_ | refine blk_alloc ?_ _)); exact BK119.out⟩, ⟨by (with_reducible repeat (first | refine blk_drewN ?_ _ | refine blk_drew ?_ | refine blk_alloc ?_ _)); refine blk_far ?_ NB120_119.out _; (with_reducible repeat (first | refine blk_drewN ?_ _ | refine blk_drew ?_ | refine blk_alloc ?_ _)); refine blk_far ?_ NB120_119.out _; (with_reducible repeat (first | refine blk_drewN ?_ _ | refine blk_drew ?_ | refine blk_alloc ?_ _)); refine blk_put (cs := #[.int .i64 2, .int .i64 0]) ?_ 1 _ rfl; (with_reducible repeat (first | refine blk_drewN ?_ _ | refine blk_drew ?_ | refine blk_alloc ?_ _)); refine blk_put (cs := #[.int .i64 0, .int .i64 0]) ?_ 0 _ rfl; (with_reducible repeat (first | refine blk_drewN ?_ _ | refine blk_drew ?_ | refine blk_alloc ?_ _)); refine blk_far ?_ NB120_119.out _; (with_reducible repeat (first | refine blk_drewN ?_ _ | refine blk_drew ?_ | refine blk_alloc ?_ _)); refine blk_far ?_ NB120_119.out _; (with_reducible repeat (first | refine blk_drewN ?_ _ | refine blk_drew ?_ | refine blk_alloc ?_ _)); exact BK120.out⟩, ⟨by repeat (first | (with_reducible first | exact HB.out | apply below_alloc | apply pw_below_drewN | apply below_drew1 | refine below_set ?_ GE119.out | refine below_set ?_ GE120.out) | exact HB.out)⟩⟩
      · rw [if_neg c19] at H
        have c19b0 : (t121 == 0) = false := beq_eq_false_iff_ne.mpr c19
        have c19b1 : (t121 != 0) = true := bne_iff_ne.mpr c19
        (first | rw [c19b0] | (simp only [i64_w, i32_w]; rw [c19b0]) | skip)
        have H' := Aside0.mk H
        clear H
        go_wp2
        go_meet
        case rel => exact ⟨_, (2), (t117), H', ⟨by first | omega | exact Nat.le_refl _⟩, ⟨by (with_reducible repeat (first | refine blk_drewN ?_ _ | refine blk_drew ?_ | refine blk_alloc ?_ _)); refine blk_far ?_ NB119_120.out _; (with_reducible repeat (first | refine blk_drewN ?_ _ | refine blk_drew ?_ | refine blk_alloc ?_ _)); refine blk_far ?_ NB119_120.out _; (with_reducible repeat (first | refine blk_drewN ?_ _ | refine blk_drew ?_ | refine blk_alloc ?_ _)); refine blk_put (cs := #[.int .i64 2, .int .i64 0]) ?_ 1 _ rfl; (with_reducible repeat (first | refine blk_drewN ?_ _ | refine blk_drew ?_ | refine blk_alloc ?_ _)); refine blk_put (cs := #[.int .i64 0, .int .i64 0]) ?_ 0 _ rfl; (with_reducible repeat (first | refine blk_drewN ?_ _ | refine blk_drew ?_ | refine blk_alloc ?_ _)); exact BK119.out⟩, ⟨by (with_reducible repeat (first | refine blk_drewN ?_ _ | refine blk_drew ?_ | refine blk_alloc ?_ _)); refine blk_put (cs := #[.int .i64 2, .int .i64 0]) ?_ 1 _ rfl; (with_reducible repeat (first | refine blk_drewN ?_ _ | refine blk_drew ?_ | refine blk_alloc ?_ _)); refine blk_put (cs := #[.int .i64 0, .int .i64 0]) ?_ 0 _ rfl; (with_reducible repeat (first | refine blk_drewN ?_ _ | refine blk_drew ?_ | refine blk_alloc ?_ _)); refine blk_far ?_ NB120_119.out _; (with_reducible repeat (first | refine blk_drewN ?_ _ | refine blk_drew ?_ | refine blk_alloc ?_ _)); refine blk_far ?_ NB120_119.out _; (with_reducible repeat (first | refine blk_drewN ?_ _ | refine blk_drew ?_ | refine blk_alloc ?_ _)); exact BK120.out⟩, ⟨by repeat (first | (with_reducible first | exact HB.out | apply below_alloc | apply pw_below_drewN | apply below_drew1 | refine below_set ?_ GE119.out | refine below_set ?_ GE120.out) | exact HB.out)⟩⟩
    case rest =>
      clear HC12
      try clear c1
      try clear c2
      try clear p2
      try clear c5
      try clear p6
      try clear c7
      try clear c9
      try clear c11
      try clear c16
      try clear c19
      try clear c19b0
      try clear c19b1
      try clear c21
      try clear hcz17_0
      try clear hcz17_1
      try clear hcz18_0
      try clear hcz18_1
      try clear hcz22_0
      try clear hcz22_1
      try clear hfz17_0
      try clear hfz17_1
      try clear hfz18_0
      try clear hfz18_1
      try clear hfz22_0
      try clear hfz22_1
      obtain ⟨kq, x120000_11, x120001_11, HA, HJ11, BK119, BK120, HB⟩ := hcut
      cases kq with
      | zero => exact absurd HA.out (by simp [plaitinglaw15_VoteOne.j0])
      | succ kj11 =>
        have H := HA.out
        clear HA
        simp only [plaitinglaw15_VoteOne.j0] at H
        have H' := Aside0.mk H
        clear H
        go_wp2
        go_loopg [13, 14] kj11 (fun kq v13 v14 w' => ∃ (x13_2 : List (S31)) (x14_2 : Int), v14 = .int .i64 x14_2 ∧ Aside0 (plaitinglaw15_VoteOne.l0 kq (wrap64 (4 + t116)) a1 a4 x13_2 x14_2 x120000_11 x120001_11 2 t118 = some r) ∧ Aside0 (kq ≤ kj11) ∧ Aside0 (Kd.R k31 31 w' w.heap.size (fun _ => True) v13 x13_2) ∧ Aside0 (w'.heap[gb119]? = some (.cells #[.int .i64 x120000_11, .int .i64 x120001_11] 29 (0, 0))) ∧ Aside0 (w'.heap[gb120]? = some (.cells #[.int .i64 2, .int .i64 t118] 29 (0, 0))) ∧ Aside0 (Below w.heap.size w w'))
        case atStart => exact ⟨(([] : List (S31))), (0), (by first | rfl | (simp; done) | (simp [*]; done)), H', ⟨Nat.le_refl _⟩, ⟨by first | exact Kd.R_nil _ _ _ _ _ | exact Kd.N_nil _ _ _ _ _ | exact Kd.V_nil _ _ _ _ _ | exact Kd.Q_nil _ _ _ _ _ | exact Kd.S_nil _ _ _ _ _⟩, ⟨by (with_reducible repeat (first | refine blk_drewN ?_ _ | refine blk_drew ?_ | refine blk_alloc ?_ _)); exact BK119.out⟩, ⟨by (with_reducible repeat (first | refine blk_drewN ?_ _ | refine blk_drew ?_ | refine blk_alloc ?_ _)); exact BK120.out⟩, ⟨by repeat (first | (with_reducible first | exact HB.out | apply below_alloc | apply pw_below_drewN | apply below_drew1 | refine below_set ?_ GE119.out | refine below_set ?_ GE120.out) | exact HB.out)⟩⟩
        case round =>
          clear H'
          try clear c1
          try clear c2
          try clear p2
          try clear c5
          try clear p6
          try clear c7
          try clear c9
          try clear c11
          try clear c16
          try clear c19
          try clear c19b0
          try clear c19b1
          try clear c21
          try clear hcz17_0
          try clear hcz17_1
          try clear hcz18_0
          try clear hcz18_1
          try clear hcz22_0
          try clear hcz22_1
          try clear hfz17_0
          try clear hfz17_1
          try clear hfz18_0
          try clear hfz18_1
          try clear hfz22_0
          try clear hfz22_1
          try clear p2
          try clear p6
          obtain ⟨x13_2, x14_2, rfl, HA, HK2, HO_13, BK119, BK120, HB⟩ := hrel
          cases gk with
          | zero => exact absurd HA.out (by simp [plaitinglaw15_VoteOne.l0])
          | succ k2 =>
            have H := HA.out
            clear HA
            simp only [plaitinglaw15_VoteOne.l0] at H
            by_cases c23 : x14_2 < (wrap64 (4 + t116))
            · rw [if_pos c23] at H
              have c23b0 : decide (x14_2 < (wrap64 (4 + t116))) = true := decide_eq_true c23
              clear c23
              by_cases c24 : x13_2.length < 5864062014805
              · rw [if_pos c24] at H
                have LMc24 := Aside0.mk c24
                clear c24
                obtain ⟨y123, hy123⟩ : ∃ y_ : List (S31), y_ = (x13_2 ++ [(⟨true, (⟨x120000_11, x120001_11⟩ : S29)⟩ : S31)]) := ⟨_, rfl⟩
                replace H : (plaitinglaw15_VoteOne.l0 k2 (wrap64 (4 + t116)) a1 a4 y123 (wrap64 (x14_2 + 1)) x120000_11 x120001_11 2 t118) = some r := by first | (rw [hy123]; with_reducible exact H) | (have H2_ := (Option.bind_some _ _).symm.trans H; rw [hy123]; with_reducible exact H2_) | (have H2_ := (Option.bind_some _ _).symm.trans H; with_reducible exact H2_) | with_reducible exact H | (rw [hy123]; exact H) | exact H
                have Ny123 := Aside0.mk hy123
                clear hy123
                have H' := Aside0.mk H
                clear H
                have hnb25 := NB119_120.out
                have hnc25 := NB120_119.out
                have hcz26_0 : wr.cell? ⟨gb119, 0, none⟩ = some (.int .i64 x120000_11) := (blk_cell BK119.out 0).trans rfl
                have hcz26_1 : wr.cell? ⟨gb119, 1, none⟩ = some (.int .i64 x120001_11) := (blk_cell BK119.out 1).trans rfl
                have hfz26_0 := blk_frozen BK119.out 0
                have hfz26_1 := blk_frozen BK119.out 1
                go_wp2_with (first | ((with_reducible refine gate_builtin (b := .append) (xs := #[.tmp 38, .tmp 41]) rfl ?_); at_builtin; refine Kd.R_append k31 (w0 := w) w.heap.size rfl (.tmp 38) (.tmp 41) 24 31 (.agg #[(.bool false), (.int .i64 0), (.int .i64 0)]) 24 rfl Try.underlying24 info31 rfl (by decide) (by omega) u13 x13_2 (⟨true, (⟨x120000_11, x120001_11⟩ : S29)⟩ : S31) [.bool true, .int .i64 x120000_11, .int .i64 x120001_11] (fun _ => True) (fun _ => False) rfl rfl ?aP (fun _ hk => hk.elim) ?aF ?aO ?aB ?aS ?aL ?_; (case aP => exact k31_mkM _ _ _ (⟨true, (⟨x120000_11, x120001_11⟩ : S29)⟩ : S31)); (case aB => exact (by repeat (first | (with_reducible first | exact HB.out | apply below_alloc | apply pw_below_drewN | apply below_drew1 | refine below_set ?_ GE119.out | refine below_set ?_ GE120.out) | exact HB.out))); (case aF => exact (fun _ _ => trivial)); (case aO => exact (by (with_reducible repeat (first | apply Kd.R_alloc | apply Kd.R_drewN | apply Kd.R_drew)); exact HO_13.out)); (case aS => exact (below_size (by repeat (first | (with_reducible first | exact HB.out | apply below_alloc | apply pw_below_drewN | apply below_drew1 | refine below_set ?_ GE119.out | refine below_set ?_ GE120.out) | exact HB.out)))); (case aL => have := LMc24.out; omega); intro v124 w27 ho hb hg hat; rw [← Ny123.out] at ho; have n0_ := Aside0.mk (blk_grown (g := gb119) (o := .cells #[.int .i64 x120000_11, .int .i64 x120001_11] 29 (0, 0)) (by (with_reducible repeat (first | refine blk_drewN ?_ _ | refine blk_drew ?_ | refine blk_alloc ?_ _)); exact BK119.out) hg (Kd.R_ne HO_13.out BK119.out (by decide))); have n1_ := Aside0.mk (blk_grown (g := gb120) (o := .cells #[.int .i64 2, .int .i64 t118] 29 (0, 0)) (by (with_reducible repeat (first | refine blk_drewN ?_ _ | refine blk_drew ?_ | refine blk_alloc ?_ _)); exact BK120.out) hg (Kd.R_ne HO_13.out BK120.out (by decide))); have n2_ := Aside0.mk (hb); have n3_ := Aside0.mk (ho); clear BK119; clear BK120; clear HB; clear HO_13; have BK119 := n0_; have BK120 := n1_; have HB := n2_; have HO125 := n3_; clear n0_ n1_ n2_ n3_; clear ho hb hg hat))
                go_roundg k2
                case measure => have := HJ11.out; have := HK2.out; omega
                case rel => exact ⟨(y123), (wrap64 (x14_2 + 1)), (by first | rfl | (simp; done) | (simp [*]; done)), H', ⟨by have := HJ11.out; have := HK2.out; omega⟩, ⟨by (with_reducible repeat (first | apply Kd.R_alloc | apply Kd.R_drewN | apply Kd.R_drew)); exact HO125.out⟩, ⟨by (with_reducible repeat (first | refine blk_drewN ?_ _ | refine blk_drew ?_ | refine blk_alloc ?_ _)); exact BK119.out⟩, ⟨by (with_reducible repeat (first | refine blk_drewN ?_ _ | refine blk_drew ?_ | refine blk_alloc ?_ _)); exact BK120.out⟩, ⟨by repeat (first | (with_reducible first | exact HB.out | apply below_alloc | apply pw_below_drewN | apply below_drew1 | refine below_set ?_ GE119.out | refine below_set ?_ GE120.out) | exact HB.out)⟩⟩
              · rw [if_neg c24] at H
                exact absurd H (by simp)
            · rw [if_neg c23] at H
              have c23b0 : decide (x14_2 < (wrap64 (4 + t116))) = false := decide_eq_false c23
              clear c23
              replace H := Option.bind_eq_some_iff.mp H
              obtain ⟨t126, A280, H⟩ := H
              replace H : (if 0 ≤ t126 then (if t126 < (x13_2.length : Int) then ((vote_Most.f k2 (x13_2.set (t126 : Int).toNat (⟨!a4, (⟨2, t118⟩ : S29)⟩ : S31))).bind fun bt128 => (some (bt128.1 == x120000_11 && (bt128.2 == x120001_11)))) else (none)) else (none)) = some r := H
              have A28 := Aside0.mk A280
              clear A280
              by_cases c29 : 0 ≤ t126
              · rw [if_pos c29] at H
                have c29b0 : decide (0 ≤ t126) = true := decide_eq_true c29
                clear c29
                by_cases c30 : t126 < (x13_2.length : Int)
                · rw [if_pos c30] at H
                  have c30b0 : decide (t126 < (x13_2.length : Int)) = true := decide_eq_true c30
                  clear c30
                  obtain ⟨y127, hy127⟩ : ∃ y_ : List (S31), y_ = (x13_2.set (t126 : Int).toNat (⟨!a4, (⟨2, t118⟩ : S29)⟩ : S31)) := ⟨_, rfl⟩
                  replace H : ((vote_Most.f k2 y127).bind fun bt128 => (some (bt128.1 == x120000_11 && (bt128.2 == x120001_11)))) = some r := by first | (rw [hy127]; with_reducible exact H) | (have H2_ := (Option.bind_some _ _).symm.trans H; rw [hy127]; with_reducible exact H2_) | (have H2_ := (Option.bind_some _ _).symm.trans H; with_reducible exact H2_) | with_reducible exact H | (rw [hy127]; exact H) | exact H
                  have Ny127 := Aside0.mk hy127
                  clear hy127
                  replace H := Option.bind_eq_some_iff.mp H
                  obtain ⟨⟨t128, t129⟩, A320, H⟩ := H
                  replace H : (some (t128 == x120000_11 && (t129 == x120001_11))) = some r := H
                  have A32 := Aside0.mk A320
                  clear A320
                  obtain rfl := Option.some.inj H
                  try go_wp2
                  have n0_ := Aside0.mk (Kd.R_drew HO_13.out)
                  have n1_ := Aside0.mk (blk_drew BK119.out)
                  have n2_ := Aside0.mk (blk_drew BK120.out)
                  have n3_ := Aside0.mk (below_drew1 HB.out)
                  clear HO_13
                  clear BK119
                  clear BK120
                  clear HB
                  have HO_13 := n0_
                  have BK119 := n1_
                  have BK120 := n2_
                  have HB := n3_
                  clear n0_ n1_ n2_ n3_
                  refine start_ (n := 10) (S := fun w' => w'.cell? ⟨gb120, 0, none⟩ = some (.int .i64 2) ∧ w'.cell? ⟨gb120, 1, none⟩ = some (.int .i64 t118)) (ds := [9]) #[false, false, false, false, false, false, false, false, false, false] (by kernel_rfl) rfl rfl ⟨(blk_cell BK120.out 0).trans rfl, (blk_cell BK120.out 1).trans rfl⟩ (fun hHeld => ?_); refine with_tabW plaitinglaw15_VoteOne.tab12 plaitinglaw15_VoteOne.bits12 (fun HT_ HW_ => ?_)
                  generalize wr.drew = w33 at HO_13 BK119 BK120 HB hHeld ⊢
                  refine pure_ (i := 0) (N := some 43) (v := ?_) (a' := ?_) #[true, false, false, false, false, false, false, false, false, false] rfl rfl (any_of HT_.out (by kernel_rfl)) (fun _ _ _ h => h) (Or.inl ⟨by rfl, ?_⟩) ?_ ?_
                  rotate_left
                  · intro w'
                    go_simp
                    with_reducible rfl
                  rotate_left
                  · simp only [Act.put, List.setIfInBounds_toArray, List.set_cons_zero, List.set_cons_succ, i64_w, i32_w]
                    rfl
                  refine pure_ (i := 1) (N := some 44) (v := ?_) (a' := ?_) #[true, true, false, false, false, false, false, false, false, false] rfl rfl (any_of HT_.out (by kernel_rfl)) (fun _ _ _ h => h) (Or.inl ⟨by rfl, ?_⟩) ?_ ?_
                  rotate_left
                  · intro w'
                    go_simp
                    with_reducible rfl
                  rotate_left
                  · simp only [Act.put, List.setIfInBounds_toArray, List.set_cons_zero, List.set_cons_succ, i64_w, i32_w]
                    rfl
                  refine pure_ (i := 2) (N := some 45) (v := ?_) (a' := ?_) #[true, true, true, false, false, false, false, false, false, false] rfl rfl (any_of HT_.out (by kernel_rfl)) (fun _ _ _ h => h) (Or.inl ⟨by rfl, ?_⟩) ?_ ?_
                  rotate_left
                  · intro w'
                    go_simp
                    with_reducible rfl
                  rotate_left
                  · simp only [Act.put, List.setIfInBounds_toArray, List.set_cons_zero, List.set_cons_succ, i64_w, i32_w]
                    rfl
                  refine pure_ (i := 4) (N := some 47) (v := ?_) (a' := ?_) #[true, true, true, false, true, false, false, false, false, false] rfl rfl (any_of HT_.out (by kernel_rfl)) (fun _ _ _ h => h) (Or.inl ⟨by rfl, ?_⟩) ?_ ?_
                  rotate_left
                  · intro w'
                    go_simp
                    with_reducible rfl
                  rotate_left
                  · simp only [Act.put, List.setIfInBounds_toArray, List.set_cons_zero, List.set_cons_succ, i64_w, i32_w]
                    rfl
                  refine pure_ (i := 5) (N := some 48) (v := ?_) (a' := ?_) #[true, true, true, false, true, true, false, false, false, false] rfl rfl (any_of HT_.out (by kernel_rfl)) (fun _ _ _ h => h) (Or.inl ⟨by rfl, ?_⟩) ?_ ?_
                  rotate_left
                  · intro w'
                    go_simp
                    with_reducible rfl
                  rotate_left
                  · simp only [Act.put, List.setIfInBounds_toArray, List.set_cons_zero, List.set_cons_succ, i64_w, i32_w]
                    rfl
                  refine take_ (i := 6) (N := some 49) (v := ?_) (a' := ?_) #[true, true, true, false, true, true, true, false, false, false] rfl rfl (take_ofW HT_.out HW_.out (by kernel_rfl)) (fun _ _ _ h => h) (Or.inl ⟨by rfl, ?_⟩) hHeld ?_ ?_
                  rotate_left
                  · rintro w' ⟨s0, s1⟩
                    go_simp
                    with_reducible rfl
                  rotate_left
                  · simp only [Act.put, List.setIfInBounds_toArray, List.set_cons_zero, List.set_cons_succ, i64_w, i32_w]
                    rfl
                  refine pure_ (i := 7) (N := some 50) (v := ?_) (a' := ?_) #[true, true, true, false, true, true, true, true, false, false] rfl rfl (any_of HT_.out (by kernel_rfl)) (fun _ _ _ h => h) (Or.inl ⟨by rfl, ?_⟩) ?_ ?_
                  rotate_left
                  · intro w'
                    go_simp
                    with_reducible rfl
                  rotate_left
                  · simp only [Act.put, List.setIfInBounds_toArray, List.set_cons_zero, List.set_cons_succ, i64_w, i32_w]
                    rfl
                  refine one_ (i := 3) (N := some 46) #[true, true, true, true, true, true, true, true, false, false] rfl rfl (one_of HT_.out (by kernel_rfl)) (by decide) (fun K hK => ?_)
                  refine goes_ Try.func11 (by kernel_rfl) rfl #[.int .i64 a1, .int .i64 (wrap64 (4 + t116))] (by rfl) rfl rfl (by (try simp only [List.map_toArray, List.map_cons, List.map_nil]); first | done | rfl | (simp only [List.length_drop, List.length_take]; rfl)) ?_
                  with_reducible refine (plaitinglaw15_within.calls a1 (wrap64 (4 + t116)) t126 _ A28.out).mono ?_
                  rintro e w' ⟨rfl, ⟨nd, rfl⟩⟩
                  refine ⟨_, rfl, ?_⟩
                  have p31 : 0 ≤ (t126 : Int) := of_decide_eq_true (by first | (with_reducible assumption) | assumption)
                  have q31 : (t126 : Int) < ((x13_2.length : Int) : Int) := of_decide_eq_true (by first | (with_reducible assumption) | assumption)
                  obtain ⟨go31, co31, eo31, gb31, gl31, cl31, HG31⟩ := Kd.R_form HO_13.out (by omega)
                  (first | cases eo31 | (injection eo31 with ea_ en_ ec_; (first | subst ea_ | (injection ea_ with ea_; subst ea_)); subst ec_; clear en_))
                  have GB31 := Aside0.mk gb31
                  have GG31 := Aside0.mk HG31
                  clear gb31 gl31 HG31
                  obtain ⟨ce31, hcl31, hM31, hcc31, hfr31⟩ := Kd.R_elem HO_13.out z31 (t126 : Int) p31 q31
                  obtain rfl := k31_openM hM31
                  have hx31_0 : World.cell? _ ⟨go31, (t126 : Int).toNat * 3, none⟩ = some (.bool ((rd_T31 x13_2 t126).f0)) := hcc31 0 _ rfl
                  have hx31_1 : World.cell? _ ⟨go31, (t126 : Int).toNat * 3 + 1, none⟩ = some (.int .i64 ((rd_T31 x13_2 t126).f1.f0)) := hcc31 1 _ rfl
                  have hx31_2 : World.cell? _ ⟨go31, (t126 : Int).toNat * 3 + 2, none⟩ = some (.int .i64 ((rd_T31 x13_2 t126).f1.f1)) := hcc31 2 _ rfl
                  have hf31_0 : World.frozen? _ ⟨go31, (t126 : Int).toNat * 3, none⟩ = false := hfr31 0
                  have hf31_1 : World.frozen? _ ⟨go31, (t126 : Int).toNat * 3 + 1, none⟩ = false := hfr31 1
                  have hf31_2 : World.frozen? _ ⟨go31, (t126 : Int).toNat * 3 + 2, none⟩ = false := hfr31 2
                  clear hcl31 hcc31 hfr31 hM31
                  replace p31 := eq_true p31
                  replace q31 := eq_true q31
                  obtain ⟨ce34, hcl34, hM34, hcc34, hfr34⟩ := Kd.R_elem HO_13.out z31 (t126 : Int) (of_decide_eq_true (by first | (with_reducible assumption) | assumption)) (by have h_ : (t126 : Int) < ((x13_2.length : Int) : Int) := of_decide_eq_true (by first | (with_reducible assumption) | assumption); first | exact h_ | (have e_ := (Kd.R_reads' HO_13.out).1; omega) | simpa using h_)
                  obtain rfl := k31_openM hM34
                  have HP34 := (Kd.R_seg HO_13.out (t126 : Int) (of_decide_eq_true (by first | (with_reducible assumption) | assumption)) (by have h_ : (t126 : Int) < ((x13_2.length : Int) : Int) := of_decide_eq_true (by first | (with_reducible assumption) | assumption); first | exact h_ | (have e_ := (Kd.R_reads' HO_13.out).1; omega) | simpa using h_) (seg := [.bool (!a4), .int .i64 2, .int .i64 t118]) (j := 0) hcl34 hcc34 (show 3 ≤ 3 from by decide) (x' := (⟨!a4, (⟨2, t118⟩ : S29)⟩ : S31)) (k31_mkM _ _ _ (⟨!a4, (⟨2, t118⟩ : S29)⟩ : S31) ) (fun _ hk => hk)).1
                  rw [← Ny127.out] at HP34
                  have HQ34 := Aside0.mk HP34
                  clear hcl34 hcc34 hfr34 hM34 HP34
                  refine hK.out _ _ ⟨(blk_cell BK120.out 0).trans rfl, (blk_cell BK120.out 1).trans rfl⟩ (fun hHeld => ?_)
                  clear hK K
                  refine norm_ (a' := ?_) ?_ ?_
                  rotate_left
                  · show Act.put _ (some 46) _ = _
                    simp only [Act.put, List.setIfInBounds_toArray, List.set_cons_zero, List.set_cons_succ, i64_w, i32_w]
                    rfl
                  refine pure_ (i := 8) (N := some 51) (v := ?_) (a' := ?_) #[true, true, true, true, true, true, true, true, true, false] rfl rfl (any_of HT_.out (by kernel_rfl)) (fun _ _ _ h => h) (Or.inl ⟨by rfl, ?_⟩) ?_ ?_
                  rotate_left
                  · intro w'
                    go_simp
                    with_reducible rfl
                  rotate_left
                  · simp only [Act.put, List.setIfInBounds_toArray, List.set_cons_zero, List.set_cons_succ, i64_w, i32_w]
                    rfl
                  refine last_ (i := 9) (N := none) #[true, true, true, true, true, true, true, true, true, true] rfl rfl (one_of HT_.out (by kernel_rfl)) (by decide) (fun K hK => ?_)
                  refine skip_ (w1 := ?_) (by rfl) rfl ?_ ?_
                  rotate_left
                  · go_simp
                    rfl
                  refine hK.out _ _ ?_
                  clear hK K
                  refine done_ (done_of HT_.out (by kernel_rfl)) ?_
                  try go_wp2
                  (try rw [show ∀ (w_ : World) (n_ : Nat) (a_ : Addr) (v_ : Value), (w_.drewN n_).setCell a_ v_ = (w_.setCell a_ v_).drewN n_ from fun _ _ _ _ => rfl])
                  (try rw [show ∀ (w_ : World) (n_ : Nat) (a_ : Addr) (v_ : Value), (w_.drewN n_).setCell a_ v_ = (w_.setCell a_ v_).drewN n_ from fun _ _ _ _ => rfl])
                  (try rw [show ∀ (w_ : World) (n_ : Nat) (a_ : Addr) (v_ : Value), (w_.drewN n_).setCell a_ v_ = (w_.setCell a_ v_).drewN n_ from fun _ _ _ _ => rfl])
                  have n0_ : Aside0 (Kd.R k31 31 (((w33.setCell ⟨go31, (t126 : Int).toNat * 3, none⟩ (.bool (!a4))).setCell ⟨go31, (t126 : Int).toNat * 3 + 1, none⟩ (.int .i64 2)).setCell ⟨go31, (t126 : Int).toNat * 3 + 2, none⟩ (.int .i64 t118)) w.heap.size (fun _ => True) (.slice (some ⟨go31, 0, none⟩) x13_2.length co31) y127) := ⟨by (with_reducible repeat (first | apply Kd.R_alloc | apply Kd.R_drewN | apply Kd.R_drew)); exact HQ34.out⟩
                  have n1_ : Aside0 ((((w33.setCell ⟨go31, (t126 : Int).toNat * 3, none⟩ (.bool (!a4))).setCell ⟨go31, (t126 : Int).toNat * 3 + 1, none⟩ (.int .i64 2)).setCell ⟨go31, (t126 : Int).toNat * 3 + 2, none⟩ (.int .i64 t118)).heap[gb119]? = some (.cells #[.int .i64 x120000_11, .int .i64 x120001_11] 29 (0, 0))) := ⟨by (with_reducible repeat (first | refine blk_drewN ?_ _ | refine blk_drew ?_ | refine blk_alloc ?_ _)); refine blk_far ?_ (by have h_ := Kd.R_ne HO_13.out BK119.out (by decide); intro e_; exact h_ (by rw [e_]; rfl)) _; (with_reducible repeat (first | refine blk_drewN ?_ _ | refine blk_drew ?_ | refine blk_alloc ?_ _)); refine blk_far ?_ (by have h_ := Kd.R_ne HO_13.out BK119.out (by decide); intro e_; exact h_ (by rw [e_]; rfl)) _; (with_reducible repeat (first | refine blk_drewN ?_ _ | refine blk_drew ?_ | refine blk_alloc ?_ _)); refine blk_far ?_ (by have h_ := Kd.R_ne HO_13.out BK119.out (by decide); intro e_; exact h_ (by rw [e_]; rfl)) _; (with_reducible repeat (first | refine blk_drewN ?_ _ | refine blk_drew ?_ | refine blk_alloc ?_ _)); exact BK119.out⟩
                  have n2_ : Aside0 ((((w33.setCell ⟨go31, (t126 : Int).toNat * 3, none⟩ (.bool (!a4))).setCell ⟨go31, (t126 : Int).toNat * 3 + 1, none⟩ (.int .i64 2)).setCell ⟨go31, (t126 : Int).toNat * 3 + 2, none⟩ (.int .i64 t118)).heap[gb120]? = some (.cells #[.int .i64 2, .int .i64 t118] 29 (0, 0))) := ⟨by (with_reducible repeat (first | refine blk_drewN ?_ _ | refine blk_drew ?_ | refine blk_alloc ?_ _)); refine blk_far ?_ (by have h_ := Kd.R_ne HO_13.out BK120.out (by decide); intro e_; exact h_ (by rw [e_]; rfl)) _; (with_reducible repeat (first | refine blk_drewN ?_ _ | refine blk_drew ?_ | refine blk_alloc ?_ _)); refine blk_far ?_ (by have h_ := Kd.R_ne HO_13.out BK120.out (by decide); intro e_; exact h_ (by rw [e_]; rfl)) _; (with_reducible repeat (first | refine blk_drewN ?_ _ | refine blk_drew ?_ | refine blk_alloc ?_ _)); refine blk_far ?_ (by have h_ := Kd.R_ne HO_13.out BK120.out (by decide); intro e_; exact h_ (by rw [e_]; rfl)) _; (with_reducible repeat (first | refine blk_drewN ?_ _ | refine blk_drew ?_ | refine blk_alloc ?_ _)); exact BK120.out⟩
                  have n3_ : Aside0 (Below w.heap.size w (((w33.setCell ⟨go31, (t126 : Int).toNat * 3, none⟩ (.bool (!a4))).setCell ⟨go31, (t126 : Int).toNat * 3 + 1, none⟩ (.int .i64 2)).setCell ⟨go31, (t126 : Int).toNat * 3 + 2, none⟩ (.int .i64 t118))) := ⟨by repeat (first | (with_reducible first | exact HB.out | apply below_alloc | apply pw_below_drewN | apply below_drew1 | refine below_set ?_ GB31.out | refine below_set ?_ GB31.out | refine below_set ?_ GB31.out | refine below_set ?_ GE119.out | refine below_set ?_ GE120.out) | exact HB.out)⟩
                  (try clear HO_13)
                  (try clear BK119)
                  (try clear BK120)
                  (try clear HB)
                  generalize (((w33.setCell ⟨go31, (t126 : Int).toNat * 3, none⟩ (.bool (!a4))).setCell ⟨go31, (t126 : Int).toNat * 3 + 1, none⟩ (.int .i64 2)).setCell ⟨go31, (t126 : Int).toNat * 3 + 2, none⟩ (.int .i64 t118)) = w35 at n0_ n1_ n2_ n3_ ⊢
                  have HO_13 := n0_
                  have BK119 := n1_
                  have BK120 := n2_
                  have HB := n3_
                  clear n0_ n1_ n2_ n3_
                  (try (rw [drewN_self w35]; generalize hq_ : World.drewN w35 _ = w35; have n0_ : Aside0 (Kd.R k31 31 w35 w.heap.size (fun _ => True) (.slice (some ⟨go31, 0, none⟩) x13_2.length co31) y127) := ⟨by rw [← hq_]; exact (by (with_reducible repeat (first | apply Kd.R_alloc | apply Kd.R_drewN | apply Kd.R_drew)); exact HO_13.out)⟩; have n1_ : Aside0 (w35.heap[gb119]? = some (.cells #[.int .i64 x120000_11, .int .i64 x120001_11] 29 (0, 0))) := ⟨by rw [← hq_]; exact (by (with_reducible repeat (first | refine blk_drewN ?_ _ | refine blk_drew ?_ | refine blk_alloc ?_ _)); exact BK119.out)⟩; have n2_ : Aside0 (w35.heap[gb120]? = some (.cells #[.int .i64 2, .int .i64 t118] 29 (0, 0))) := ⟨by rw [← hq_]; exact (by (with_reducible repeat (first | refine blk_drewN ?_ _ | refine blk_drew ?_ | refine blk_alloc ?_ _)); exact BK120.out)⟩; have n3_ : Aside0 (Below w.heap.size w w35) := ⟨by rw [← hq_]; exact (by repeat (first | (with_reducible first | exact HB.out | apply below_alloc | apply pw_below_drewN | apply below_drew1 | refine below_set ?_ GE119.out | refine below_set ?_ GE120.out) | exact HB.out))⟩; clear HO_13 BK119 BK120 HB hq_; have HO_13 := n0_; have BK119 := n1_; have BK120 := n2_; have HB := n3_; clear n0_ n1_ n2_ n3_))
                  have n0_ := Aside0.mk (Kd.R_drew HO_13.out)
                  have n1_ := Aside0.mk (blk_drew BK119.out)
                  have n2_ := Aside0.mk (blk_drew BK120.out)
                  have n3_ := Aside0.mk (below_drew1 HB.out)
                  clear HO_13
                  clear BK119
                  clear BK120
                  clear HB
                  have HO_13 := n0_
                  have BK119 := n1_
                  have BK120 := n2_
                  have HB := n3_
                  clear n0_ n1_ n2_ n3_
                  refine start_ (n := 5) (S := fun w' => w'.cell? ⟨gb119, 0, none⟩ = some (.int .i64 x120000_11) ∧ w'.cell? ⟨gb119, 1, none⟩ = some (.int .i64 x120001_11)) (ds := []) #[false, false, false, false, false] (by kernel_rfl) rfl rfl ⟨(blk_cell BK119.out 0).trans rfl, (blk_cell BK119.out 1).trans rfl⟩ (fun hHeld => ?_)
                  generalize w35.drew = w36 at HO_13 BK119 BK120 HB HQ34 hHeld ⊢
                  refine pure_ (i := 0) (N := some 52) (v := ?_) (a' := ?_) #[true, false, false, false, false] rfl rfl (by kernel_rfl) (fun _ _ _ h => h) (Or.inl ⟨by rfl, ?_⟩) ?_ ?_
                  rotate_left
                  · intro w'
                    go_simp
                    with_reducible rfl
                  rotate_left
                  · simp only [Act.put, List.setIfInBounds_toArray, List.set_cons_zero, List.set_cons_succ, i64_w, i32_w]
                    rfl
                  refine take_ (i := 2) (N := some 54) (v := ?_) (a' := ?_) #[true, false, true, false, false] rfl rfl (by kernel_rfl) (fun _ _ _ h => h) (Or.inl ⟨by rfl, ?_⟩) hHeld ?_ ?_
                  rotate_left
                  · rintro w' ⟨s0, s1⟩
                    go_simp
                    with_reducible rfl
                  rotate_left
                  · simp only [Act.put, List.setIfInBounds_toArray, List.set_cons_zero, List.set_cons_succ, i64_w, i32_w]
                    rfl
                  refine one_ (i := 1) (N := some 53) #[true, true, true, false, false] rfl rfl (by kernel_rfl) (by decide) (fun K hK => ?_)
                  refine goes_ Try.func12 (by kernel_rfl) rfl #[.slice (some ⟨go31, 0, none⟩) y127.length co31] (by rfl) rfl rfl (by (try simp only [List.map_toArray, List.map_cons, List.map_nil]); first | done | (rw [show y127.length = x13_2.length from (Kd.R_reads' HO_13.out).1.symm] <;> rfl) | rfl | (simp only [List.length_drop, List.length_take]; rfl)) ?_
                  with_reducible refine (vote_Most.calls k2 _ _ y127 t128 t129 _ ?side1 ?side2 A32.out).mono ?_
                  (case side1 => repeat (first | exact (Kd.R_reads' HO_13.out).2.2 | (with_reducible refine Kd.C_alloc ?_ _) | (with_reducible refine Kd.C_drewN ?_ _) | (with_reducible refine Kd.C_drew ?_)))
                  (case side2 => rw [show y127.length = x13_2.length from (Kd.R_reads' HO_13.out).1.symm]; exact (Kd.R_reads' HO_13.out).2.1)
                  rintro e w37 ⟨rfl, hb⟩
                  refine ⟨_, rfl, ?_⟩
                  have n0_ := Aside0.mk (Kd.R_below (by (with_reducible repeat (first | apply Kd.R_alloc | apply Kd.R_drewN | apply Kd.R_drew)); exact HO_13.out) hb)
                  have n1_ := Aside0.mk (blk_below (g := gb119) (o := .cells #[.int .i64 x120000_11, .int .i64 x120001_11] 29 (0, 0)) (by (with_reducible repeat (first | refine blk_drewN ?_ _ | refine blk_drew ?_ | refine blk_alloc ?_ _)); exact BK119.out) hb)
                  have n2_ := Aside0.mk (blk_below (g := gb120) (o := .cells #[.int .i64 2, .int .i64 t118] 29 (0, 0)) (by (with_reducible repeat (first | refine blk_drewN ?_ _ | refine blk_drew ?_ | refine blk_alloc ?_ _)); exact BK120.out) hb)
                  have n3_ := Aside0.mk (below_step (by repeat (first | (with_reducible first | exact HB.out | apply below_alloc | apply pw_below_drewN | apply below_drew1 | refine below_set ?_ GE119.out | refine below_set ?_ GE120.out) | exact HB.out)) hb)
                  clear HO_13
                  clear BK119
                  clear BK120
                  clear HB
                  have HO_13 := n0_
                  have BK119 := n1_
                  have BK120 := n2_
                  have HB := n3_
                  clear n0_ n1_ n2_ n3_
                  (try clear hb)
                  (try clear hb2)
                  (try clear hk)
                  (try clear hi)
                  refine hK.out _ _ ⟨(blk_cell BK119.out 0).trans rfl, (blk_cell BK119.out 1).trans rfl⟩ (fun hHeld => ?_)
                  clear hK K
                  refine norm_ (a' := ?_) ?_ ?_
                  rotate_left
                  · show Act.put _ (some 53) _ = _
                    simp only [Act.put, List.setIfInBounds_toArray, List.set_cons_zero, List.set_cons_succ, i64_w, i32_w]
                    rfl
                  refine pure_ (i := 3) (N := some 55) (v := ?_) (a' := ?_) #[true, true, true, true, false] rfl rfl (by kernel_rfl) (fun _ _ _ h => h) (Or.inl ⟨by rfl, ?_⟩) ?_ ?_
                  rotate_left
                  · intro w'
                    go_simp
                    with_reducible rfl
                  rotate_left
                  · simp only [Act.put, List.setIfInBounds_toArray, List.set_cons_zero, List.set_cons_succ, i64_w, i32_w]
                    rfl
                  refine pure_ (i := 4) (N := some 10) (v := ?_) (a' := ?_) #[true, true, true, true, true] rfl rfl (by kernel_rfl) (fun _ _ _ h => h) (Or.inl ⟨by rfl, ?_⟩) ?_ ?_
                  rotate_left
                  · intro w'
                    go_simp
                    with_reducible rfl
                  rotate_left
                  · simp only [Act.put, List.setIfInBounds_toArray, List.set_cons_zero, List.set_cons_succ, i64_w, i32_w]
                    rfl
                  refine done_ (by kernel_rfl) ?_
                  try go_wp2
                  go_ret
                  exact ⟨by first | rfl | (simp [errW_none, errW_some] <;> rfl) | (simp [*, errW_none, errW_some] <;> rfl), by repeat (first | (with_reducible first | exact HB.out | apply below_alloc | apply pw_below_drewN | apply below_drew1 | refine below_set ?_ GE119.out | refine below_set ?_ GE120.out) | exact HB.out)⟩
                · rw [if_neg c30] at H
                  exact absurd H (by simp)
              · rw [if_neg c29] at H
                exact absurd H (by simp)
  · replace c7 := Bool.eq_false_iff.mpr c7
    subst c7
    have H1 : (some false) = some r := by rw [if_neg (show ¬ (false = true) by decide)] at H; exact H
    clear H
    have H := H1
    clear H1
    obtain rfl := Option.some.inj H
    go_enter Try.func5, Try.ntmps5
    go_wp2_with (first | ((with_reducible refine gate_callee (f := 9) rfl ?_); refine goesL_ (some 15) rfl rfl Try.func9 (by kernel_rfl) rfl #[] rfl (by (try simp only [List.map_toArray, List.map_cons, List.map_nil]); first | done | rfl | (simp only [List.length_drop, List.length_take]; rfl)) ?_; (with_reducible refine (plaitinglaw15_known.calls k  false _ A6.out).mono ?_); rintro e w38 ⟨rfl, hb⟩; refine ⟨_, rfl, ?_⟩; have n0_ := Aside0.mk (below_step (by repeat (first | (with_reducible first | exact HB.out | apply below_alloc | apply pw_below_drewN | apply below_drew1) | exact HB.out)) hb); clear HB; have HB := n0_; clear n0_; (try clear hb); (try clear hb2); (try clear hk); (try clear hi)))
    go_ret
    exact ⟨by first | rfl | (simp [errW_none, errW_some] <;> rfl) | (simp [*, errW_none, errW_some] <;> rfl), by repeat (first | (with_reducible first | exact HB.out | apply below_alloc | apply pw_below_drewN | apply below_drew1) | exact HB.out)⟩

/-- THE ONE PURE STATEMENT of plaitinglaw15_VoteOne: yours. -/
def plaitinglaw15_VoteOne.Pure : Prop := ∀ (a0 : Int) (a1 : Int) (a2 : Int) (a3 : Int) (a4 : Bool), (Lit.int .i64 a0).wf = true → (Lit.int .i64 a1).wf = true → (Lit.int .i64 a2).wf = true → (Lit.int .i64 a3).wf = true → ∃ k, plaitinglaw15_VoteOne.f k a0 a1 a2 a3 a4 = some true
theorem plaitinglaw15_VoteOne.walk (P : plaitinglaw15_VoteOne.Pure) (a0 : Int) (a1 : Int) (a2 : Int) (a3 : Int) (a4 : Bool) (w : World) (w0 : (Lit.int .i64 a0).wf = true) (w1 : (Lit.int .i64 a1).wf = true) (w2 : (Lit.int .i64 a2).wf = true) (w3 : (Lit.int .i64 a3).wf = true) :
    Calls Try.prog 5 #[.int .i64 a0, .int .i64 a1, .int .i64 a2, .int .i64 a3, .bool a4] w fun e w' => e = .returned (.bool true) ∧ Below w.heap.size w w' := by
  obtain ⟨k, h⟩ := P a0 a1 a2 a3 a4 w0 w1 w2 w3
  refine (plaitinglaw15_VoteOne.calls k a0 a1 a2 a3 a4 true w h).mono ?_
  rintro e w' ⟨rfl, hd⟩
  exact ⟨rfl, hd⟩

end Go.Proofs.Ytghdfppllknabaa.PVoteOne
