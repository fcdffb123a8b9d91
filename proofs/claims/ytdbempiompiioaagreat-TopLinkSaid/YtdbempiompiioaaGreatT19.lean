/- What a node sends in a slot: the walk. Conditions: the bounds stated in each theorem. -/
import Derived.Test.YtdbempiompiioaaGreatT04
import Derived.Test.YtdbempiompiioaaGreatT18
set_option linter.unusedVariables false
set_option linter.unusedSimpArgs false
namespace Go.Proofs.YtdbempiompiioaaGreat.A46
open Go.RowKit A1 A2 A3 A4 A5 A6 A7 A8 A9 A10 A11 A12 A13 A14 A15 A16 A17 A18 A19 A20 A21 A22 A23 A24 A25 A26 A27 A28 A29 A30 A31 A32 A33 A34 A38 A39 A35 A40 A41 A42 A43 A44 A45

theorem alloc_keep {w : World} {p : Addr} {o : Obj} {v : Value} (h : w.cell? p = some v) : (w.alloc o).cell? p = some v := (World.cell?_alloc_some _ _ _ (by rw [h]; rfl)).trans h
theorem set_keep {w : World} {p q : Addr} {u v : Value} (h : w.cell? p = some v) (hne : p.block ≠ q.block) : (w.setCell q u).cell? p = some v := (World.cell?_setCell_other _ _ _ _ (fun e => hne (by rw [e]))).trans h
theorem alloc_keep2 {w : World} {p : Addr} {o o' : Obj} {v : Value} (h : (w.alloc o).cell? p = some v) (hne : p.block ≠ w.heap.size) : (w.alloc o').cell? p = some v := by
  rw [← h]
  exact World.cell?_of_block (by simp only [World.alloc]; rw [Array.getElem?_push, Array.getElem?_push, if_neg hne, if_neg hne])
abbrev frCells (k r s pk pv : Int) (v : Value) : Obj := .cells #[.int .i64 k, .int .i64 r, .int .i64 s, .int .i64 pk, .int .i64 pv, v] 118 (0, 0)
def FrMade2 (w : World) (k r s : Int) (v : Value) (wx : World) : Prop := ∃ F, v = .pointer (some ⟨F, 0, none⟩) ∧ wx.heap[F]? = some (frCells k r s 0 0 (.slice none 0 0)) ∧ w.heap.size ≤ F ∧ F ≠ w.heap.size ∧ wx.heap[w.heap.size]? = some (frCells 0 0 0 0 0 (.slice none 0 0)) ∧ Below w.heap.size w wx
def NdHere (w : World) (ND o : Nat) (v : Value) (wx : World) : Prop := v = .pointer (some ⟨ND, o, none⟩) ∧ wx.heap[w.heap.size]? = some (frCells 0 0 0 0 0 (.slice none 0 0)) ∧ Below w.heap.size w wx
theorem made6 {w : World} {F : Nat} {k r s a b : Int} {u : Value} {x0 x1 x2 x3 x4 x5 : Value} (h : w.heap[F]? = some (.cells #[x0, x1, x2, x3, x4, x5] 118 (0, 0))) :
    ((((((w.setCell ⟨F, 0, none⟩ (.int .i64 k)).setCell ⟨F, 1, none⟩ (.int .i64 r)).setCell ⟨F, 2, none⟩ (.int .i64 s)).setCell ⟨F, 3, none⟩ (.int .i64 a)).setCell ⟨F, 4, none⟩ (.int .i64 b)).setCell ⟨F, 5, none⟩ u).heap[F]? = some (frCells k r s a b u) := by
  simp [World.setCell, Array.getElem?_modify, h]
theorem made2 {w : World} {F : Nat} {x0 x1 x2 x3 x4 x5 a b : Value} (h : w.heap[F]? = some (.cells #[x0, x1, x2, x3, x4, x5] 118 (0, 0))) :
    ((w.setCell ⟨F, 3, none⟩ a).setCell ⟨F, 4, none⟩ b).heap[F]? = some (.cells #[x0, x1, x2, a, b, x5] 118 (0, 0)) := by
  simp [World.setCell, Array.getElem?_modify, h]
theorem far6 {w : World} {F q : Nat} {u0 u1 u2 u3 u4 u5 : Value} (h : q ≠ F) :
    ((((((w.setCell ⟨F, 0, none⟩ u0).setCell ⟨F, 1, none⟩ u1).setCell ⟨F, 2, none⟩ u2).setCell ⟨F, 3, none⟩ u3).setCell ⟨F, 4, none⟩ u4).setCell ⟨F, 5, none⟩ u5).heap[q]? = w.heap[q]? := by
  have e : ∀ (w : World) (o : Nat) (u : Value), (w.setCell ⟨F, o, none⟩ u).heap[q]? = w.heap[q]? := fun w o u => Below.heap_setCell _ _ _ _ h
  rw [e, e, e, e, e, e]
theorem made_set {w wc W : World} {F : Nat} {k r s : Int} (h : W.heap[F]? = some (.cells #[.int .i64 0, .int .i64 0, .int .i64 0, .int .i64 0, .int .i64 0, .slice none 0 0] 118 (0, 0))) (hb : Below wc.heap.size wc W) (hF : wc.heap.size ≤ F) (hbw : Below w.heap.size w wc) (hlt : w.heap.size < wc.heap.size) (h0 : wc.heap[w.heap.size]? = some (frCells 0 0 0 0 0 (.slice none 0 0))) :
    FrMade2 w k r s (.pointer (some ⟨F, 0, none⟩)) ((((((W.setCell ⟨F, 0, none⟩ (.int .i64 k)).setCell ⟨F, 1, none⟩ (.int .i64 r)).setCell ⟨F, 2, none⟩ (.int .i64 s)).setCell ⟨F, 3, none⟩ (.int .i64 0)).setCell ⟨F, 4, none⟩ (.int .i64 0)).setCell ⟨F, 5, none⟩ (.slice none 0 0)) :=
  ⟨F, rfl, made6 h, by omega, by omega, (far6 (by omega)).trans ((hb.block _ hlt).trans h0), below6 (hbw.trans (hb.mono (by omega))) (by omega)⟩
theorem made_new {w wc W : World} {k r s : Int} (hb : Below wc.heap.size wc W) (hbw : Below w.heap.size w wc) (hlt : w.heap.size < wc.heap.size) (h0 : wc.heap[w.heap.size]? = some (frCells 0 0 0 0 0 (.slice none 0 0))) :
    FrMade2 w k r s (.pointer (some ⟨W.heap.size, 0, none⟩)) (W.alloc (.cells #[.int .i64 k, .int .i64 r, .int .i64 s, .int .i64 0, .int .i64 0, .slice none 0 0] 118)) := by
  have hs := hb.size
  exact ⟨_, rfl, heap_alloc_new _ _, by omega, by omega, (Below.heap_alloc _ _ _ (by omega)).trans ((hb.block _ hlt).trans h0), (hbw.trans (hb.mono (by omega))).alloc (by omega) _⟩
theorem items_but {w w1 : World} {A : Option Addr} {l : List (Nat × Nat)} {T : Nat → Prop} (h : Items w A l) (hb : But T w w1) (hA : ∀ b off, A = some ⟨b, off, none⟩ → 0 < l.length → ¬ T b) : Items w1 A l := fun k hk => by
  obtain ⟨b, off, e, h1, h2, h3⟩ := h k hk
  have hn := hA b off e (by omega)
  exact ⟨b, off, e, Nat.lt_of_lt_of_le h1 hb.size, (hb.cell (p := ⟨b, _, none⟩) h1 hn).trans h2, (hb.cell (p := ⟨b, _, none⟩) h1 hn).trans h3⟩
theorem frame_sent {o : Option Fr} {f : Fr} {Q S : Nat} {q' : Nat → Option Nat} {w w2 w' : World} {EA : Option Addr} {EC : Nat} {e : Ending} (ho : o = some f) (he : e = .returned (.tuple #[.agg #[.int .i64 f.kind, .int .i64 f.round, .int .i64 f.slot, .int .i64 f.pk, .int .i64 f.pv, .slice EA f.echo.length EC], .bool true]))
    (hI : Items w' EA f.echo) (hb : But (fun x => x = Q) w w2) (hq : QAt w2 Q S q') (hQ : Q < w.heap.size) (hs : But (fun x => w.heap.size ≤ x ∧ x < w2.heap.size) w2 w') : FramePost o Q S q' w e w' := by
  subst ho
  refine ⟨⟨EA, EC, he, hI⟩, ?_, hq.but hs (by omega)⟩
  refine ⟨hs.os.trans hb.os, hs.tape.trans hb.tape, hs.output.trans hb.output, Nat.le_trans hb.size hs.size, fun k hk hn => (hs.block k (Nat.lt_of_lt_of_le hk hb.size) (by omega)).trans (hb.block k hk hn)⟩
theorem frame_not {o : Option Fr} {Q S : Nat} {q' : Nat → Option Nat} {w w2 w' : World} {k r s : Int} {e : Ending} (ho : o = none) (he : e = .returned (.tuple #[.agg #[.int .i64 k, .int .i64 r, .int .i64 s, .int .i64 0, .int .i64 0, .slice none 0 0], .bool false]))
    (hb : But (fun x => x = Q) w w2) (hq : QAt w2 Q S q') (hQ : Q < w.heap.size) (hs : But (fun x => w.heap.size ≤ x ∧ x < w2.heap.size) w2 w') : FramePost o Q S q' w e w' := by
  subst ho
  refine ⟨⟨k, r, s, he⟩, ?_, hq.but hs (by omega)⟩
  refine ⟨hs.os.trans hb.os, hs.tape.trans hb.tape, hs.output.trans hb.output, Nat.le_trans hb.size hs.size, fun k hk hn => (hs.block k (Nat.lt_of_lt_of_le hk hb.size) (by omega)).trans (hb.block k hk hn)⟩
set_option maxRecDepth 100000 in
set_option maxHeartbeats 1000000 in
theorem net_frame (c : NC) (NB ND Q QC : Nat) (round i slot st : Nat) (q : Nat → Option Nat) (g : Option (List (Nat × Nat))) (gv : Value) (w : World) (hc : NOk c) (hN : NbK w NB c)
    (hr : w.cell? ⟨NB, 17, none⟩ = some (.int .i64 round)) (hn : w.cell? ⟨NB, 18, none⟩ = some (.slice (some ⟨ND, 0, none⟩) c.N c.N)) (hs : w.cell? ⟨ND, i * 7, none⟩ = some (.int .i64 st)) (hq : w.cell? ⟨ND, i * 7 + 4, none⟩ = some (.slice (some ⟨Q, 0, none⟩) (c.N + c.ps.length) QC)) (hg : w.cell? ⟨ND, i * 7 + 5, none⟩ = some gv)
    (hG : GotAt w gv (c.N + c.ps.length) g) (hQ : QAt w Q (c.N + c.ps.length) q) (hst : st ≤ 4) (hrb : round ≤ 900) (hi : i < c.N) (hsl : slot < c.N + c.ps.length) (hQN : Q ≠ NB) (hQD : Q ≠ ND) (hGQ : ∀ b C, gv = .slice (some ⟨b, 0, none⟩) (c.N + c.ps.length) C → b ≠ Q) :
    Calls Tryz.prog 59 #[.pointer (some ⟨NB, 0, none⟩), .int .i64 i, .int .i64 slot] w (FramePost (frameF c.N (c.N + c.ps.length) ((c.Fi + round) % 65536).toNat slot st (q slot) g) Q (c.N + c.ps.length) (if st = 4 then took q slot else q) w) := by
  have n0 := hc.cf.n0
  have n1 := hc.cf.n1
  have n2 := hc.cf.len
  have f0 := hc.cf.f0
  have f1 := hc.cf.f1
  have HNb := Lib.hid hN
  have lNB := World.block_lt_of_cell? w _ hr
  have lND := World.block_lt_of_cell? w _ hs
  have HS := Lib.hid (fun w => state_Sends st w hst)
  have HW := Lib.hid (fun w => conf_Wire c.N c.Pi c.Er c.G c.Fi c.PA c.ps.length c.PC round w f0 f1 (by omega) (by omega))
  have HGn := Lib.hid hG
  have HQ := Lib.hid hQ
  have HGQ := Lib.hid hGQ
  obtain ⟨wi, hwi⟩ : ∃ wi : Nat, (c.Fi + round) % 65536 = (wi : Int) := ⟨((c.Fi + round) % 65536).toNat, by omega⟩
  rw [hwi] at HW
  rw [hwi, Int.toNat_natCast]
  have i0 : (i : Int) < (c.N : Int) := by omega
  have s0 : (slot : Int) < (((c.N + c.ps.length : Nat)) : Int) := by omega
  have HC := Lib.hid hc
  obtain ⟨k0, k1, k2, k3, k4, k5, k6, k7, k8, k9, k10, k11, k12, k13, k14, k15, k16⟩ := hN
  have HM := Lib.hid (show (sendsF 0 = 0 ∧ sendsF 1 = 0 ∧ sendsF 2 = 1 ∧ sendsF 3 = 2 ∧ sendsF 4 = 3) from ⟨rfl, rfl, rfl, rfl, rfl⟩)
  generalize hsf : sendsF st = sk at HS
  have HSF := Lib.hid hsf
  clear hwi hG hQ hGQ hc hsf f0 f1 k6 k7 k8 k9 k10 k11 k12 k13 k14 k15 k16
  go_enter Tryz.func59, Tryz.ntmps59
  go_upto_region 2 with fail
  have HBw := Lib.hid (show Below w.heap.size w (w.alloc (.cells #[.int .i64 0, .int .i64 0, .int .i64 0, .int .i64 0, .int .i64 0, .slice none 0 0] 118)) from (by repeat (first | exact Below.refl _ _ | refine Below.drew ?_ | refine below_drewN ?_ _ | refine Below.alloc ?_ (by simp; try omega) _)))
  have hF0 := Lib.hid (heap_alloc_new w (.cells #[.int .i64 0, .int .i64 0, .int .i64 0, .int .i64 0, .int .i64 0, .slice none 0 0] 118))
  have hW0 : w.heap.size < (w.alloc (.cells #[.int .i64 0, .int .i64 0, .int .i64 0, .int .i64 0, .int .i64 0, .slice none 0 0] 118)).heap.size := by simp
  generalize w.alloc (.cells #[.int .i64 0, .int .i64 0, .int .i64 0, .int .i64 0, .int .i64 0, .slice none 0 0] 118) = wv at *
  have HB0 := Lib.hid (Below.refl wv.heap.size wv)
  have HX := Lib.hid (And.intro HBw.out hW0)
  have HK := Lib.hid (show ∀ w', Below wv.heap.size wv w' → (w'.cell? ⟨NB, 0, none⟩ = some (.int .i64 c.N) ∧ w'.cell? ⟨NB, 1, none⟩ = some (.int .i64 c.Pi) ∧ w'.cell? ⟨NB, 2, none⟩ = some (.int .i64 c.Er) ∧ w'.cell? ⟨NB, 3, none⟩ = some (.int .i64 c.G) ∧ w'.cell? ⟨NB, 4, none⟩ = some (.int .i64 c.Fi) ∧ w'.cell? ⟨NB, 5, none⟩ = some (.slice c.PA c.ps.length c.PC) ∧ w'.cell? ⟨NB, 17, none⟩ = some (.int .i64 round) ∧ w'.cell? ⟨ND, i * 7, none⟩ = some (.int .i64 st)) from
      fun w' hb' => (fun (hb : Below w.heap.size w w') => ⟨keep_of k0 lNB hb, keep_of k1 lNB hb, keep_of k2 lNB hb, keep_of k3 lNB hb, keep_of k4 lNB hb, keep_of k5 lNB hb, keep_of hr lNB hb, keep_of hs lND hb⟩) (HBw.out.trans (hb'.mono HBw.out.size)))
  go_cut [9] (FrMade2 w sk wi slot)
  case first =>
    refine wp_region_held_drew (S := fun w' => w'.cell? ⟨NB, 0, none⟩ = some (.int .i64 c.N) ∧ w'.cell? ⟨NB, 1, none⟩ = some (.int .i64 c.Pi) ∧ w'.cell? ⟨NB, 2, none⟩ = some (.int .i64 c.Er) ∧ w'.cell? ⟨NB, 3, none⟩ = some (.int .i64 c.G) ∧ w'.cell? ⟨NB, 4, none⟩ = some (.int .i64 c.Fi) ∧ w'.cell? ⟨NB, 5, none⟩ = some (.slice c.PA c.ps.length c.PC) ∧ w'.cell? ⟨NB, 17, none⟩ = some (.int .i64 round) ∧ w'.cell? ⟨ND, i * 7, none⟩ = some (.int .i64 st)) (by kernel_rfl) (HK.out _ HB0.out.drew) (fun hHeld => ?_)
    refine rgT 0 ?_
    refine rgT 1 ?_
    refine rgT 2 ?_
    refine rgT 3 ?_
    refine rgT 5 ?_
    refine rgT 6 ?_
    refine rgT 7 ?_
    refine rgT 8 ?_
    refine rgT 9 ?_
    refine rgT 10 ?_
    refine rgT 11 ?_
    refine rgT 12 ?_
    refine rgT 14 ?_
    refine wpAnyH_ready (rs := [4, 16]) (by kernel_rfl) (by simp) (AllReadyH.cons rfl (fun K hK => ?_) (AllReadyH.cons rfl (fun K hK => ?_) AllReadyH.nil))
    · go_simp
      refine (HS.out _).mono ?_
      rintro e wS ⟨rfl, hbS⟩
      have HB1 := Lib.hid (Below.trans (show Below wv.heap.size wv _ from by first | exact HB0.out | exact HB0.out.drew) (hbS.mono (by first | exact HB0.out.size | exact HB0.out.drew.size)))
      clear hbS
      go_simp
      refine hK.out _ _ (HK.out _ (by first | exact HB1.out | exact HB1.out.drew)) (fun hHeld => ?_)
      clear hK K
      refine wpAnyH_ready (rs := [13, 16]) (by kernel_rfl) (by simp) (AllReadyH.cons rfl (fun K hK => ?_) (AllReadyH.cons rfl (fun K hK => ?_) AllReadyH.nil))
      · go_simp
        refine (HW.out _).mono ?_
        rintro e wW ⟨rfl, hbW⟩
        have HB2 := Lib.hid (Below.trans (show Below wv.heap.size wv _ from by first | exact HB1.out | exact HB1.out.drew) (hbW.mono (by first | exact HB1.out.size | exact HB1.out.drew.size)))
        clear hbW
        go_simp
        refine hK.out _ _ (HK.out _ (by first | exact HB2.out | exact HB2.out.drew)) (fun hHeld => ?_)
        clear hK K
        refine rgT 15 ?_
        refine wpAnyH_ready (rs := [16]) (by kernel_rfl) (by simp) (AllReadyH.cons rfl (fun K hK => ?_) AllReadyH.nil)
        go_simp
        have HB3 := Lib.hid (HB2.out.alloc HB2.out.size (.cells #[.int .i64 0, .int .i64 0, .int .i64 0, .int .i64 0, .int .i64 0, .slice none 0 0] 118))
        have hF3 := Lib.hid (heap_alloc_new wW (.cells #[.int .i64 0, .int .i64 0, .int .i64 0, .int .i64 0, .int .i64 0, .slice none 0 0] 118))
        refine hK.out _ _ (HK.out _ (by first | exact HB3.out | exact HB3.out.drew)) (fun hHeld => ?_)
        clear hK K
        refine wpAnyH_ready (rs := [17]) (by kernel_rfl) (by simp) (AllReadyH.cons rfl (fun K hK => ?_) AllReadyH.nil)
        go_simp
        refine hK.out _ _ (HK.out _ (HB2.out.alloc HB2.out.size _)) (fun hHeld => ?_)
        clear hK K
        refine wpAnyH_done (by kernel_rfl) ?_ _
        go_wp2_with fail
        go_meet
        exact made_new HB2.out HX.out.1 HX.out.2 hF0.out
      · go_simp
        have HB2 := Lib.hid (HB1.out.alloc HB1.out.size (.cells #[.int .i64 0, .int .i64 0, .int .i64 0, .int .i64 0, .int .i64 0, .slice none 0 0] 118))
        have hF2 := Lib.hid (heap_alloc_new wS (.cells #[.int .i64 0, .int .i64 0, .int .i64 0, .int .i64 0, .int .i64 0, .slice none 0 0] 118))
        refine hK.out _ _ (HK.out _ (by first | exact HB2.out | exact HB2.out.drew)) (fun hHeld => ?_)
        clear hK K
        refine wpAnyH_ready (rs := [13]) (by kernel_rfl) (by simp) (AllReadyH.cons rfl (fun K hK => ?_) AllReadyH.nil)
        go_simp
        refine (HW.out _).mono ?_
        rintro e wW ⟨rfl, hbW⟩
        have HB3 := Lib.hid (Below.trans (show Below wv.heap.size wv _ from by first | exact HB2.out | exact HB2.out.drew) (hbW.mono (by first | exact HB2.out.size | exact HB2.out.drew.size)))
        have hF3 := Lib.hid ((hbW.block _ (heap_lt hF2.out)).trans hF2.out)
        clear hbW
        go_simp
        refine hK.out _ _ (HK.out _ (by first | exact HB3.out | exact HB3.out.drew)) (fun hHeld => ?_)
        clear hK K
        refine rgT 15 ?_
        have x0 : wW.cell? ⟨wS.heap.size, 0, none⟩ = some (.int .i64 0) := by rw [blk_cell hF3.out]; rfl
        have y0 : wW.frozen? ⟨wS.heap.size, 0, none⟩ = false := blk_frozen hF3.out _
        have x1 : wW.cell? ⟨wS.heap.size, 1, none⟩ = some (.int .i64 0) := by rw [blk_cell hF3.out]; rfl
        have y1 : wW.frozen? ⟨wS.heap.size, 1, none⟩ = false := blk_frozen hF3.out _
        have x2 : wW.cell? ⟨wS.heap.size, 2, none⟩ = some (.int .i64 0) := by rw [blk_cell hF3.out]; rfl
        have y2 : wW.frozen? ⟨wS.heap.size, 2, none⟩ = false := blk_frozen hF3.out _
        have x3 : wW.cell? ⟨wS.heap.size, 3, none⟩ = some (.int .i64 0) := by rw [blk_cell hF3.out]; rfl
        have y3 : wW.frozen? ⟨wS.heap.size, 3, none⟩ = false := blk_frozen hF3.out _
        have x4 : wW.cell? ⟨wS.heap.size, 4, none⟩ = some (.int .i64 0) := by rw [blk_cell hF3.out]; rfl
        have y4 : wW.frozen? ⟨wS.heap.size, 4, none⟩ = false := blk_frozen hF3.out _
        have x5 : wW.cell? ⟨wS.heap.size, 5, none⟩ = some (.slice none 0 0) := by rw [blk_cell hF3.out]; rfl
        have y5 : wW.frozen? ⟨wS.heap.size, 5, none⟩ = false := blk_frozen hF3.out _
        refine wpAnyH_ready (rs := [17]) (by kernel_rfl) (by simp) (AllReadyH.cons rfl (fun K hK => ?_) AllReadyH.nil)
        go_simp
        refine hK.out _ _ (HK.out _ ((((((HB3.out.setCell (p := ⟨wS.heap.size, 0, none⟩) (HB1.out.size) _).setCell (p := ⟨wS.heap.size, 1, none⟩) (HB1.out.size) _).setCell (p := ⟨wS.heap.size, 2, none⟩) (HB1.out.size) _).setCell (p := ⟨wS.heap.size, 3, none⟩) (HB1.out.size) _).setCell (p := ⟨wS.heap.size, 4, none⟩) (HB1.out.size) _).setCell (p := ⟨wS.heap.size, 5, none⟩) (HB1.out.size) _)) (fun hHeld => ?_)
        clear hK K
        refine wpAnyH_done (by kernel_rfl) ?_ _
        go_wp2_with fail
        go_meet
        exact made_set hF3.out HB3.out HB1.out.size HX.out.1 HX.out.2 hF0.out
    · go_simp
      have HB1 := Lib.hid (HB0.out.alloc HB0.out.size (.cells #[.int .i64 0, .int .i64 0, .int .i64 0, .int .i64 0, .int .i64 0, .slice none 0 0] 118))
      have hF1 := Lib.hid (heap_alloc_new wv (.cells #[.int .i64 0, .int .i64 0, .int .i64 0, .int .i64 0, .int .i64 0, .slice none 0 0] 118))
      refine hK.out _ _ (HK.out _ (by first | exact HB1.out | exact HB1.out.drew)) (fun hHeld => ?_)
      clear hK K
      refine wpAnyH_ready (rs := [4]) (by kernel_rfl) (by simp) (AllReadyH.cons rfl (fun K hK => ?_) AllReadyH.nil)
      go_simp
      refine (HS.out _).mono ?_
      rintro e wS ⟨rfl, hbS⟩
      have HB2 := Lib.hid (Below.trans (show Below wv.heap.size wv _ from by first | exact HB1.out | exact HB1.out.drew) (hbS.mono (by first | exact HB1.out.size | exact HB1.out.drew.size)))
      have hF2 := Lib.hid ((hbS.block _ (heap_lt hF1.out)).trans hF1.out)
      clear hbS
      go_simp
      refine hK.out _ _ (HK.out _ (by first | exact HB2.out | exact HB2.out.drew)) (fun hHeld => ?_)
      clear hK K
      refine wpAnyH_ready (rs := [13]) (by kernel_rfl) (by simp) (AllReadyH.cons rfl (fun K hK => ?_) AllReadyH.nil)
      go_simp
      refine (HW.out _).mono ?_
      rintro e wW ⟨rfl, hbW⟩
      have HB3 := Lib.hid (Below.trans (show Below wv.heap.size wv _ from by first | exact HB2.out | exact HB2.out.drew) (hbW.mono (by first | exact HB2.out.size | exact HB2.out.drew.size)))
      have hF3 := Lib.hid ((hbW.block _ (heap_lt hF2.out)).trans hF2.out)
      clear hbW
      go_simp
      refine hK.out _ _ (HK.out _ (by first | exact HB3.out | exact HB3.out.drew)) (fun hHeld => ?_)
      clear hK K
      refine rgT 15 ?_
      have x0 : wW.cell? ⟨wv.heap.size, 0, none⟩ = some (.int .i64 0) := by rw [blk_cell hF3.out]; rfl
      have y0 : wW.frozen? ⟨wv.heap.size, 0, none⟩ = false := blk_frozen hF3.out _
      have x1 : wW.cell? ⟨wv.heap.size, 1, none⟩ = some (.int .i64 0) := by rw [blk_cell hF3.out]; rfl
      have y1 : wW.frozen? ⟨wv.heap.size, 1, none⟩ = false := blk_frozen hF3.out _
      have x2 : wW.cell? ⟨wv.heap.size, 2, none⟩ = some (.int .i64 0) := by rw [blk_cell hF3.out]; rfl
      have y2 : wW.frozen? ⟨wv.heap.size, 2, none⟩ = false := blk_frozen hF3.out _
      have x3 : wW.cell? ⟨wv.heap.size, 3, none⟩ = some (.int .i64 0) := by rw [blk_cell hF3.out]; rfl
      have y3 : wW.frozen? ⟨wv.heap.size, 3, none⟩ = false := blk_frozen hF3.out _
      have x4 : wW.cell? ⟨wv.heap.size, 4, none⟩ = some (.int .i64 0) := by rw [blk_cell hF3.out]; rfl
      have y4 : wW.frozen? ⟨wv.heap.size, 4, none⟩ = false := blk_frozen hF3.out _
      have x5 : wW.cell? ⟨wv.heap.size, 5, none⟩ = some (.slice none 0 0) := by rw [blk_cell hF3.out]; rfl
      have y5 : wW.frozen? ⟨wv.heap.size, 5, none⟩ = false := blk_frozen hF3.out _
      refine wpAnyH_ready (rs := [17]) (by kernel_rfl) (by simp) (AllReadyH.cons rfl (fun K hK => ?_) AllReadyH.nil)
      go_simp
      refine hK.out _ _ (HK.out _ ((((((HB3.out.setCell (p := ⟨wv.heap.size, 0, none⟩) (HB0.out.size) _).setCell (p := ⟨wv.heap.size, 1, none⟩) (HB0.out.size) _).setCell (p := ⟨wv.heap.size, 2, none⟩) (HB0.out.size) _).setCell (p := ⟨wv.heap.size, 3, none⟩) (HB0.out.size) _).setCell (p := ⟨wv.heap.size, 4, none⟩) (HB0.out.size) _).setCell (p := ⟨wv.heap.size, 5, none⟩) (HB0.out.size) _)) (fun hHeld => ?_)
      clear hK K
      refine wpAnyH_done (by kernel_rfl) ?_ _
      go_wp2_with fail
      go_meet
      exact made_set hF3.out HB3.out HB0.out.size HX.out.1 HX.out.2 hF0.out
  case rest =>
    obtain ⟨F, rfl, hF, hFge, hFne, hZ, hB⟩ := hcut
    have HF := Lib.hid hF
    have HZ := Lib.hid hZ
    have HB := Lib.hid hB
    have hQ1 := Lib.hid (HQ.out.below hB)
    have lQ := HQ.out.lt
    have n18 := keep_of hn lNB hB
    have nN := keep_of k0 lNB hB
    have dq := keep_of hq lND hB
    have dg := keep_of hg lND hB
    have lF := heap_lt hF
    have lNB1 := Nat.lt_of_lt_of_le lNB hB.size
    have lND1 := Nat.lt_of_lt_of_le lND hB.size
    clear HS HW HBw hF0 hW0 HK HB0 HX k0 k1 k2 k3 k4 k5 hr hn hs hq hg
    have x0 : wc.cell? ⟨F, 0, none⟩ = some (.int .i64 sk) := by rw [blk_cell hF]; rfl
    by_cases h4 : st = 4
    · subst h4
      obtain rfl : sk = 3 := HSF.out.symm
      have x3 : wc.cell? ⟨F, 3, none⟩ = some (.int .i64 0) := by rw [blk_cell hF]; rfl
      clear hF hZ hB
      by_cases hsn : slot < c.N
      · have l0 : (slot : Int) < (c.N : Int) := by omega
        go_wp2_with fail
        refine (queue_Next Q _ slot q _ hQ1.out hsl).mono ?_
        rintro e w2 ⟨rfl, hbut, hQ2⟩
        have f2 := (hbut.block F lF (by omega)).trans HF.out
        have z2 := (hbut.block w.heap.size (heap_lt HZ.out) (by omega)).trans HZ.out
        have m18 := (hbut.cell (p := ⟨NB, 18, none⟩) lNB1 (fun e => hQN e.symm)).trans n18
        have m5 := (hbut.cell (p := ⟨ND, i * 7 + 5, none⟩) lND1 (fun e => hQD e.symm)).trans dg
        have HNb2 := Lib.hid ((HNb.out.keep (HB.out.block NB lNB)).keep (hbut.block NB lNB1 (fun e => hQN e.symm)))
        have x0' : w2.cell? ⟨F, 0, none⟩ = some (.int .i64 (3 : Nat)) := by rw [blk_cell f2]; rfl
        have z0' : w2.cell? ⟨w.heap.size, 0, none⟩ = some (.int .i64 0) := by rw [blk_cell z2]; rfl
        have x1' : w2.cell? ⟨F, 1, none⟩ = some (.int .i64 wi) := by rw [blk_cell f2]; rfl
        have z1' : w2.cell? ⟨w.heap.size, 1, none⟩ = some (.int .i64 0) := by rw [blk_cell z2]; rfl
        have x2' : w2.cell? ⟨F, 2, none⟩ = some (.int .i64 slot) := by rw [blk_cell f2]; rfl
        have z2' : w2.cell? ⟨w.heap.size, 2, none⟩ = some (.int .i64 0) := by rw [blk_cell z2]; rfl
        have x3' : w2.cell? ⟨F, 3, none⟩ = some (.int .i64 0) := by rw [blk_cell f2]; rfl
        have z3' : w2.cell? ⟨w.heap.size, 3, none⟩ = some (.int .i64 0) := by rw [blk_cell z2]; rfl
        have x4' : w2.cell? ⟨F, 4, none⟩ = some (.int .i64 0) := by rw [blk_cell f2]; rfl
        have z4' : w2.cell? ⟨w.heap.size, 4, none⟩ = some (.int .i64 0) := by rw [blk_cell z2]; rfl
        have x5' : w2.cell? ⟨F, 5, none⟩ = some (.slice none 0 0) := by rw [blk_cell f2]; rfl
        have z5' : w2.cell? ⟨w.heap.size, 5, none⟩ = some (.slice none 0 0) := by rw [blk_cell z2]; rfl
        have yF : ∀ o, w2.frozen? ⟨F, o, none⟩ = false := fun o => blk_frozen f2 o
        have yZ : ∀ o, w2.frozen? ⟨w.heap.size, o, none⟩ = false := fun o => blk_frozen z2 o
        have HF2 := Lib.hid f2
        have HZ2 := Lib.hid z2
        have HBu := Lib.hid hbut
        have HQ2 := Lib.hid hQ2
        have hz2 := hbut.size
        generalize hpk : (if (q slot).isSome then 2 else 1 : Nat) = pk at *
        generalize hpv : (q slot).getD 0 = pv at *
        have HPk := Lib.hid (And.intro hpk hpv)
        clear f2 z2 hbut hQ2 hpk hpv x0 x3 n18 dg dq
        have hFne' : w.heap.size ≠ F := Ne.symm hFne
        have lF2 : F < w2.heap.size := by omega
        have lZ2 : w.heap.size < w2.heap.size := by omega
        cases g with
        | none =>
          have hG := HGn.out
          subst hG
          go_wp2_with fail
          refine (net_echo_nil c NB ND i _ HC.out ((HNb2.out.keep (Below.heap_setCell _ _ _ _ (show NB ≠ F by omega))).keep (Below.heap_setCell _ _ _ _ (show NB ≠ F by omega))) (set_keep (set_keep m18 (show NB ≠ F by omega)) (show NB ≠ F by omega)) hi (set_keep (set_keep m5 (show ND ≠ F by omega)) (show ND ≠ F by omega))).mono ?_
          rintro e w3 ⟨A, C, rfl, hI3, hA3, hb3⟩
          have hI3' := Lib.hid hI3
          have hA3' := Lib.hid hA3
          have hz3 := hb3.size
          simp only [World.size_setCell] at hz3
          have f3 := (hb3.block F (by simpa using lF2)).trans (made2 HF2.out)
          have z3 := (hb3.block w.heap.size (by simpa using lZ2)).trans (((Below.heap_setCell _ _ _ _ hFne').trans (Below.heap_setCell _ _ _ _ hFne')).trans HZ2.out)
          have HB3 := Lib.hid hb3
          clear x0' x1' x2' x3' x4' x5' z0' z1' z2' z3' z4' z5' yF yZ hI3 hA3 hb3
          have x0' : w3.cell? ⟨F, 0, none⟩ = some (.int .i64 (3 : Nat)) := by rw [blk_cell f3]; rfl
          have z0' : w3.cell? ⟨w.heap.size, 0, none⟩ = some (.int .i64 0) := by rw [blk_cell z3]; rfl
          have x1' : w3.cell? ⟨F, 1, none⟩ = some (.int .i64 wi) := by rw [blk_cell f3]; rfl
          have z1' : w3.cell? ⟨w.heap.size, 1, none⟩ = some (.int .i64 0) := by rw [blk_cell z3]; rfl
          have x2' : w3.cell? ⟨F, 2, none⟩ = some (.int .i64 slot) := by rw [blk_cell f3]; rfl
          have z2' : w3.cell? ⟨w.heap.size, 2, none⟩ = some (.int .i64 0) := by rw [blk_cell z3]; rfl
          have x3' : w3.cell? ⟨F, 3, none⟩ = some (.int .i64 pk) := by rw [blk_cell f3]; rfl
          have z3' : w3.cell? ⟨w.heap.size, 3, none⟩ = some (.int .i64 0) := by rw [blk_cell z3]; rfl
          have x4' : w3.cell? ⟨F, 4, none⟩ = some (.int .i64 pv) := by rw [blk_cell f3]; rfl
          have z4' : w3.cell? ⟨w.heap.size, 4, none⟩ = some (.int .i64 0) := by rw [blk_cell z3]; rfl
          have x5' : w3.cell? ⟨F, 5, none⟩ = some (.slice none 0 0) := by rw [blk_cell f3]; rfl
          have z5' : w3.cell? ⟨w.heap.size, 5, none⟩ = some (.slice none 0 0) := by rw [blk_cell z3]; rfl
          have yF : ∀ o, w3.frozen? ⟨F, o, none⟩ = false := fun o => blk_frozen f3 o
          have yZ : ∀ o, w3.frozen? ⟨w.heap.size, o, none⟩ = false := fun o => blk_frozen z3 o
          clear f3 z3
          go_wp2_with fail
          refine bodyPost_ret (v := .tuple #[.agg #[.int .i64 3, .int .i64 wi, .int .i64 slot, .int .i64 pk, .int .i64 pv, .slice A (c.N + c.ps.length) C], .bool true]) (by simp [results, Tryz.results59, go_sem, z0', z1', z2', z3', z4', z5', hFne, hFne']) rfl ?_
          refine frame_sent (f := ⟨3, wi, slot, pk, pv, List.replicate (c.N + c.ps.length) (0, 0)⟩) (w2 := w2) (EA := A) (EC := C) ?_ ?_ ?_ ?_ ?_ lQ ?_
          · unfold frameF; rw [if_pos rfl, if_pos hsn, HPk.out.1, HPk.out.2]; rfl
          · rw [List.length_replicate]; rfl
          · refine items_but (T := fun x => x < w2.heap.size) hI3'.out ?_ (fun b off h _ => by have := hA3'.out b off h; simp at this; omega)
            repeat refine But.setCell ?_ (.inl (by first | exact lF2 | exact lZ2)) _
            exact But.refl _ _
          · exact (But.of_below HB.out (Nat.le_refl _)).trans HBu.out
          · exact HQ2.out
          · repeat refine But.setCell ?_ (.inl (by first | exact ⟨hFge, lF2⟩ | exact ⟨Nat.le_refl _, lZ2⟩)) _
            refine But.trans ?_ (But.of_below HB3.out (by simp))
            repeat refine But.setCell ?_ (.inl (by first | exact ⟨hFge, lF2⟩ | exact ⟨Nat.le_refl _, lZ2⟩)) _
            exact But.refl _ _
        | some l =>
          obtain ⟨hl, b, C, hgv, hbl, hIt⟩ := HGn.out
          subst hgv
          have hbQ := HGQ.out b C rfl
          go_wp2_with fail
          refine (net_echo_some c.N NB ND i b _ C _ (set_keep (set_keep m18 (show NB ≠ F by omega)) (show NB ≠ F by omega)) hi (set_keep (set_keep m5 (show ND ≠ F by omega)) (show ND ≠ F by omega))).mono ?_
          rintro e w3 ⟨rfl, rfl⟩
          go_wp2_with fail
          refine bodyPost_ret (v := .tuple #[.agg #[.int .i64 3, .int .i64 wi, .int .i64 slot, .int .i64 pk, .int .i64 pv, .slice (some ⟨b, 0, none⟩) (c.N + c.ps.length) C], .bool true]) (by simp [results, Tryz.results59, go_sem, z0', z1', z2', z3', z4', z5', hFne, hFne']) rfl ?_
          refine frame_sent (f := ⟨3, wi, slot, pk, pv, l⟩) (w2 := w2) (EA := some ⟨b, 0, none⟩) (EC := C) ?_ ?_ ?_ ?_ ?_ lQ ?_
          · unfold frameF; rw [if_pos rfl, if_pos hsn, HPk.out.1, HPk.out.2]; rfl
          · rw [← hl]; rfl
          · refine items_but (T := fun x => w.heap.size ≤ x ∧ x < w2.heap.size) (w := w2) (items_but (items_but hIt (But.of_below HB.out (Nat.le_refl _)) (fun b off h _ => id) (T := fun _ => False)) HBu.out (fun b' off h _ e => by injection h with h; injection h with h _; exact hbQ (h.trans e))) ?_ (fun b' off h _ => by injection h with h; injection h with h _; omega)
            repeat refine But.setCell ?_ (.inl (by first | exact ⟨hFge, lF2⟩ | exact ⟨Nat.le_refl _, lZ2⟩)) _
            exact But.refl _ _
          · exact (But.of_below HB.out (Nat.le_refl _)).trans HBu.out
          · exact HQ2.out
          · repeat refine But.setCell ?_ (.inl (by first | exact ⟨hFge, lF2⟩ | exact ⟨Nat.le_refl _, lZ2⟩)) _
            exact But.refl _ _
      · have l0 : decide ((slot : Int) < (c.N : Int)) = false := by simp; omega
        have l0' : decide (slot < c.N) = false := by simp; omega
        go_wp2_with fail
        refine (queue_Next Q _ slot q _ hQ1.out hsl).mono ?_
        rintro e w2 ⟨rfl, hbut, hQ2⟩
        have f2 := (hbut.block F lF (by omega)).trans HF.out
        have z2 := (hbut.block w.heap.size (heap_lt HZ.out) (by omega)).trans HZ.out
        have m18 := (hbut.cell (p := ⟨NB, 18, none⟩) lNB1 (fun e => hQN e.symm)).trans n18
        have m5 := (hbut.cell (p := ⟨ND, i * 7 + 5, none⟩) lND1 (fun e => hQD e.symm)).trans dg
        have HNb2 := Lib.hid ((HNb.out.keep (HB.out.block NB lNB)).keep (hbut.block NB lNB1 (fun e => hQN e.symm)))
        have x0' : w2.cell? ⟨F, 0, none⟩ = some (.int .i64 (3 : Nat)) := by rw [blk_cell f2]; rfl
        have z0' : w2.cell? ⟨w.heap.size, 0, none⟩ = some (.int .i64 0) := by rw [blk_cell z2]; rfl
        have x1' : w2.cell? ⟨F, 1, none⟩ = some (.int .i64 wi) := by rw [blk_cell f2]; rfl
        have z1' : w2.cell? ⟨w.heap.size, 1, none⟩ = some (.int .i64 0) := by rw [blk_cell z2]; rfl
        have x2' : w2.cell? ⟨F, 2, none⟩ = some (.int .i64 slot) := by rw [blk_cell f2]; rfl
        have z2' : w2.cell? ⟨w.heap.size, 2, none⟩ = some (.int .i64 0) := by rw [blk_cell z2]; rfl
        have x3' : w2.cell? ⟨F, 3, none⟩ = some (.int .i64 0) := by rw [blk_cell f2]; rfl
        have z3' : w2.cell? ⟨w.heap.size, 3, none⟩ = some (.int .i64 0) := by rw [blk_cell z2]; rfl
        have x4' : w2.cell? ⟨F, 4, none⟩ = some (.int .i64 0) := by rw [blk_cell f2]; rfl
        have z4' : w2.cell? ⟨w.heap.size, 4, none⟩ = some (.int .i64 0) := by rw [blk_cell z2]; rfl
        have x5' : w2.cell? ⟨F, 5, none⟩ = some (.slice none 0 0) := by rw [blk_cell f2]; rfl
        have z5' : w2.cell? ⟨w.heap.size, 5, none⟩ = some (.slice none 0 0) := by rw [blk_cell z2]; rfl
        have yF : ∀ o, w2.frozen? ⟨F, o, none⟩ = false := fun o => blk_frozen f2 o
        have yZ : ∀ o, w2.frozen? ⟨w.heap.size, o, none⟩ = false := fun o => blk_frozen z2 o
        have HF2 := Lib.hid f2
        have HZ2 := Lib.hid z2
        have HBu := Lib.hid hbut
        have HQ2 := Lib.hid hQ2
        have hz2 := hbut.size
        generalize hpk : (if (q slot).isSome then 2 else 1 : Nat) = pk at *
        generalize hpv : (q slot).getD 0 = pv at *
        have HPk := Lib.hid (And.intro hpk hpv)
        clear f2 z2 hbut hQ2 hpk hpv x0 x3 n18 dg dq
        have hFne' : w.heap.size ≠ F := Ne.symm hFne
        have lF2 : F < w2.heap.size := by omega
        have lZ2 : w.heap.size < w2.heap.size := by omega
        go_wp2_with fail
        refine bodyPost_ret (v := .tuple #[.agg #[.int .i64 3, .int .i64 wi, .int .i64 slot, .int .i64 pk, .int .i64 pv, .slice none 0 0], .bool true]) (by simp [results, Tryz.results59, go_sem, z0', z1', z2', z3', z4', z5', hFne, hFne']) rfl ?_
        refine frame_sent (f := ⟨3, wi, slot, pk, pv, []⟩) (w2 := w2) (EA := none) (EC := 0) ?_ ?_ ?_ ?_ ?_ lQ ?_
        · unfold frameF; rw [if_pos rfl, if_neg hsn, HPk.out.1, HPk.out.2]
        · rfl
        · exact fun k hk => absurd hk (by simp)
        · exact (But.of_below HB.out (Nat.le_refl _)).trans HBu.out
        · exact HQ2.out
        · repeat refine But.setCell ?_ (.inl (by first | exact ⟨hFge, lF2⟩ | exact ⟨Nat.le_refl _, lZ2⟩)) _
          exact But.refl _ _
    · have hFne' : w.heap.size ≠ F := Ne.symm hFne
      have lF2 : F < wc.heap.size := by omega
      have lZ2 : w.heap.size < wc.heap.size := heap_lt hZ
      have x0' : wc.cell? ⟨F, 0, none⟩ = some (.int .i64 sk) := by rw [blk_cell hF]; rfl
      have z0' : wc.cell? ⟨w.heap.size, 0, none⟩ = some (.int .i64 0) := by rw [blk_cell hZ]; rfl
      have x1' : wc.cell? ⟨F, 1, none⟩ = some (.int .i64 wi) := by rw [blk_cell hF]; rfl
      have z1' : wc.cell? ⟨w.heap.size, 1, none⟩ = some (.int .i64 0) := by rw [blk_cell hZ]; rfl
      have x2' : wc.cell? ⟨F, 2, none⟩ = some (.int .i64 slot) := by rw [blk_cell hF]; rfl
      have z2' : wc.cell? ⟨w.heap.size, 2, none⟩ = some (.int .i64 0) := by rw [blk_cell hZ]; rfl
      have x3' : wc.cell? ⟨F, 3, none⟩ = some (.int .i64 0) := by rw [blk_cell hF]; rfl
      have z3' : wc.cell? ⟨w.heap.size, 3, none⟩ = some (.int .i64 0) := by rw [blk_cell hZ]; rfl
      have x4' : wc.cell? ⟨F, 4, none⟩ = some (.int .i64 0) := by rw [blk_cell hF]; rfl
      have z4' : wc.cell? ⟨w.heap.size, 4, none⟩ = some (.int .i64 0) := by rw [blk_cell hZ]; rfl
      have x5' : wc.cell? ⟨F, 5, none⟩ = some (.slice none 0 0) := by rw [blk_cell hF]; rfl
      have z5' : wc.cell? ⟨w.heap.size, 5, none⟩ = some (.slice none 0 0) := by rw [blk_cell hZ]; rfl
      have yF : ∀ o, wc.frozen? ⟨F, o, none⟩ = false := fun o => blk_frozen hF o
      have yZ : ∀ o, wc.frozen? ⟨w.heap.size, o, none⟩ = false := fun o => blk_frozen hZ o
      clear x0 hF hZ hB
      by_cases h23 : st = 2 ∨ st = 3
      · have hsk : sk = 1 ∨ sk = 2 := by
          rcases h23 with rfl | rfl
          · exact .inl HSF.out.symm
          · exact .inr HSF.out.symm
        have k0' : ((sk : Int) == 0) = false := by simp; omega
        have k0'' : (sk == 0) = false := by simp; omega
        have k3' : ((sk : Int) == 3) = false := by simp; omega
        have k3'' : (sk == 3) = false := by simp; omega
        have k3x : ((sk : Int) != 3) = true := by simp; omega
        have hfk : sendsF st = sk := HSF.out
        have HFK := Lib.hid hfk
        have H23 := Lib.hid h23
        have H4 := Lib.hid h4
        clear hsk hfk h23 h4
        by_cases hsn : slot < c.N
        · have l0 : (slot : Int) < (c.N : Int) := by omega
          go_wp2_with fail
          refine bodyPost_ret (v := .tuple #[.agg #[.int .i64 sk, .int .i64 wi, .int .i64 slot, .int .i64 0, .int .i64 0, .slice none 0 0], .bool true]) (by simp [results, Tryz.results59, go_sem, z0', z1', z2', z3', z4', z5', hFne, hFne']) rfl ?_
          refine frame_sent (f := ⟨sk, wi, slot, 0, 0, []⟩) (w2 := wc) (EA := none) (EC := 0) ?_ ?_ ?_ ?_ ?_ lQ ?_
          · unfold frameF; rw [if_neg H4.out, if_pos H23.out, if_pos hsn, HFK.out]
          · rfl
          · exact fun k hk => absurd hk (by simp)
          · exact But.of_below HB.out (Nat.le_refl _)
          · first | exact hQ1.out | (rw [if_neg H4.out]; exact hQ1.out)
          · repeat refine But.setCell ?_ (.inl (by first | exact ⟨hFge, lF2⟩ | exact ⟨Nat.le_refl _, lZ2⟩)) _
            exact But.refl _ _
        · have l0 : decide ((slot : Int) < (c.N : Int)) = false := by simp; omega
          have l0' : decide (slot < c.N) = false := by simp; omega
          go_wp2_with fail
          refine bodyPost_ret (v := .tuple #[.agg #[.int .i64 sk, .int .i64 wi, .int .i64 slot, .int .i64 0, .int .i64 0, .slice none 0 0], .bool false]) (by simp [results, Tryz.results59, go_sem, z0', z1', z2', z3', z4', z5', hFne, hFne']) rfl ?_
          refine frame_not (k := sk) (r := wi) (s := slot) (w2 := wc) ?_ rfl ?_ ?_ lQ ?_
          · unfold frameF; rw [if_neg H4.out, if_pos H23.out, if_neg hsn]
          · exact But.of_below HB.out (Nat.le_refl _)
          · first | exact hQ1.out | (rw [if_neg H4.out]; exact hQ1.out)
          · repeat refine But.setCell ?_ (.inl (by first | exact ⟨hFge, lF2⟩ | exact ⟨Nat.le_refl _, lZ2⟩)) _
            exact But.refl _ _
      · have hsk : sk = 0 := by
          have h01 : st = 0 ∨ st = 1 := by omega
          rcases h01 with rfl | rfl <;> exact HSF.out.symm
        subst hsk
        have H23 := Lib.hid h23
        have H4 := Lib.hid h4
        clear h23 h4
        go_wp2_with fail
        refine bodyPost_ret (v := .tuple #[.agg #[.int .i64 0, .int .i64 wi, .int .i64 slot, .int .i64 0, .int .i64 0, .slice none 0 0], .bool false]) (by simp [results, Tryz.results59, go_sem, z0', z1', z2', z3', z4', z5', hFne, hFne']) rfl ?_
        refine frame_not (k := 0) (r := wi) (s := slot) (w2 := wc) ?_ rfl ?_ ?_ lQ ?_
        · unfold frameF; rw [if_neg H4.out, if_neg H23.out]
        · exact But.of_below HB.out (Nat.le_refl _)
        · first | exact hQ1.out | (rw [if_neg H4.out]; exact hQ1.out)
        · repeat refine But.setCell ?_ (.inl (by first | exact ⟨hFge, lF2⟩ | exact ⟨Nat.le_refl _, lZ2⟩)) _
          exact But.refl _ _
end Go.Proofs.YtdbempiompiioaaGreat.A46
