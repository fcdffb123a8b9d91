/- One way round, as the network has it. A slot going round, reckoned with bits: who has the one text that was sent. Plain laws. What a node has got; what it sends in a slot. Conditions: the bounds stated in each theorem. -/
import Derived.Test.YtdbempiompiioaaGreatT04
import Derived.Test.YtdbempiompiioaaGreatT17
set_option linter.unusedVariables false
set_option linter.unusedSimpArgs false
namespace Go.Proofs.YtdbempiompiioaaGreat.A43
open Go.RowKit A1 A2 A3 A4 A5 A6 A7 A8 A9 A10 A11 A12 A13 A14 A15 A16 A17 A18 A19 A20 A21 A22 A23 A24 A25 A26 A27 A28 A29 A30 A31 A32 A33 A34 A38 A39 A40 A41 A42

set_option maxRecDepth 100000 in
theorem Emit_none (N Pi Er G Fi : Int) (PA : Option Addr) (ps : List Int) (PC : Nat) (At From To : Int) (CA : Option Addr) (CL CC : Nat) (VA : Option Addr) (VL VC : Nat) (round slot a b : Int) (s : ByteArray) (w : World) (hc : CfOk N Pi Er G Fi ps) (hl : Ints w PA ps) :
    Calls Tryz.prog 173 #[.agg #[.int .i64 N, .int .i64 Pi, .int .i64 Er, .int .i64 G, .int .i64 Fi, .slice PA ps.length PC], .agg #[.int .i64 0, .int .i64 At, .int .i64 From, .int .i64 To, .slice CA CL CC, .slice VA VL VC], .int .i64 round, .int .i64 slot, .int .i64 a, .int .i64 b, .string s] w
      fun e w' => e = .returned (.string s) ∧ Below w.heap.size w w' := by
  have HL := Lib.hid hl
  clear hl
  go_enter Tryz.func173, Tryz.ntmps173
  go_wp2_with fail
  refine (conf_Check N Pi Er G Fi PA ps PC _ hc (by repeat (first | exact HL.out | refine Ints.drewN ?_ _ | refine Ints.drew ?_ | refine Ints.alloc ?_ _))).mono ?_
  rintro e w1 ⟨rfl, hb1⟩
  obtain ⟨hc1, hf1⟩ := bcell hb1
  go_wp2_with fail
  refine (Hits_none _ _ _ _ _ _ _ _ _ _ _ _ _ _ _ _ _ _ _ _).mono ?_
  rintro e w2 ⟨rfl, hb2'⟩
  obtain ⟨hc2, hf2⟩ := bcell hb2'
  have hz : w.heap.size + 1 < w1.heap.size := by have := hb1.size; simp at this; omega
  go_wp2
  go_ret
  exact ⟨rfl, ((((Below.refl _ _).alloc (Nat.le_refl _) _).alloc (by simp) _).trans (hb1.mono (by simp; omega))).trans (hb2'.mono (by omega))⟩
def passB (c : NC) (a b : Int) : Bool := c.kind == 0 || !byLink c.N c.fat a b
def passE (c : NC) (a b : Int) (s : ByteArray) : ByteArray := if passB c a b then s else ⟨#[]⟩
theorem nok_emit {c : NC} (h : NOk c) (round slot : Int) (hr : round < 1000) :
    EmitIs (fun w => Ints w c.PA c.ps) c.N c.Pi c.Er c.G c.Fi c.PA c.ps.length c.PC c.kind c.fat c.frm c.till c.CA c.CL c.CC c.VA c.VL c.VC round slot (passE c) := by
  refine ⟨fun w w' hf hb => hf.below hb, fun a b s _ _ _ _ hs => ?_, fun a b s w h0 h1 h2 h3 hs hw => ?_⟩
  · unfold passE
    split
    · exact hs
    · exact Strm.empty
  · unfold passE passB
    rcases h.kind with ⟨e, _⟩ | ⟨e, e2, e3, _⟩
    · rw [e]
      exact Emit_none c.N c.Pi c.Er c.G c.Fi c.PA c.ps c.PC c.fat c.frm c.till c.CA c.CL c.CC c.VA c.VL c.VC round slot a b s w h.cf hw
    · rw [e, e2, e3]
      refine (Emit_link c.N c.Pi c.Er c.G c.Fi c.PA c.ps c.PC c.fat c.CA c.CL c.CC c.VA c.VL c.VC round slot a b s w h.cf hw h0 h1 h2 h3 hr).mono ?_
      rintro e w' ⟨rfl, hb⟩
      refine ⟨?_, hb⟩
      cases byLink c.N c.fat a b <;> rfl
noncomputable def dirF (c : NC) (round : Nat) (st : Nat → Nat) (ck : Nat → Int) (slot : Nat) (sends : List ByteArray) (dir : Int) (last : Nat) : Wv :=
  runF (passE c) c.N c.Pi slot dir (fun i => st i) (fun i => devF c round ck last i) (owners c.N c.ps slot) sends
set_option maxRecDepth 100000 in
set_option maxHeartbeats 2000000 in
theorem run_side (c : NC) (BX BS BN BT NB LO ND TB : Nat) (SA : Option Addr) (SC : Nat) (sends : List ByteArray) (round slot : Nat) (dir : Int) (last : Nat) (st : Nat → Nat) (ck : Nat → Int) (w : World) (hc : NOk c) (hN : NbK w NB c) (hL : LowK w LO c)
    (hbx : w.cell? ⟨BX, 0, none⟩ = some (.pointer (some ⟨NB, 0, none⟩))) (hbs : w.cell? ⟨BS, 0, none⟩ = some (.int .i64 slot)) (hbn : w.cell? ⟨BN, 0, none⟩ = some (.slice SA (owners c.N c.ps slot).length SC)) (hbt : w.cell? ⟨BT, 0, none⟩ = some (.slice (some ⟨TB, 0, none⟩) c.N c.N))
    (hr : w.cell? ⟨NB, 17, none⟩ = some (.int .i64 round)) (hn : w.cell? ⟨NB, 18, none⟩ = some (.slice (some ⟨ND, 0, none⟩) c.N c.N)) (hck : ∀ i, i < c.N → w.cell? ⟨ND, i * 7 + 3, none⟩ = some (.int .i64 (ck i)))
    (hrb : round ≤ 900) (hla : last < c.N) (hbd : ∀ i, i < c.N → -1000000 ≤ ck i ∧ ck i ≤ 1000000)
    (h1 : slot < c.N + c.ps.length) (hdir : dir = 1 ∨ dir = -1) (ho : (∃ x, owners c.N c.ps slot = [x] ∧ 0 ≤ x ∧ x < c.N) ∨ ∃ x y, owners c.N c.ps slot = [x, y] ∧ 0 ≤ x ∧ x < c.N ∧ 0 ≤ y ∧ y < c.N)
    (hlen : sends.length = (owners c.N c.ps slot).length) (hS : Strs w SA sends) (hstr : ∀ k, Strm (sends.getD k ⟨#[]⟩))
    (hT : ∀ i, i < c.N → w.cell? ⟨TB, i, none⟩ = some (.int .i64 (st i))) (hTl : TB < w.heap.size) :
    Calls Tryz.prog 63 #[.int .i64 dir, .int .i64 last, .pointer (some ⟨BX, 0, none⟩), .pointer (some ⟨BS, 0, none⟩), .pointer (some ⟨BN, 0, none⟩), .pointer (some ⟨BT, 0, none⟩)] w (RunPost c.N (dirF c round st ck slot sends dir last) w) := by
  have n1 := hc.cf.n1
  have HE := Lib.hid (fun (w' : World) (hb : Below w.heap.size w w') (hb2 : w'.cell? ⟨w.heap.size, 0, none⟩ = some (.int .i64 last)) =>
    each_dev NB ND c.N BX w.heap.size (fun i => devF c round ck last i) w' (by omega) (keep_of hn (World.block_lt_of_cell? w _ hn) hb) (fun i w2 hi hb3 => run_dev c BX w.heap.size NB LO ND round last i ck w2 hc ((hN.keep2 hb).keep2 hb3) ((hL.below (hb.mono hL.le)).below (hb3.mono (by have := hb.size; have := hL.le; omega)))
      (keep_of (keep_of hbx (World.block_lt_of_cell? w _ hbx) hb) (by have := World.block_lt_of_cell? w _ hbx; have := hb.size; simp at *; omega) hb3) (keep_of hb2 (World.block_lt_of_cell? w' _ hb2) hb3)
      (keep_of (keep_of hr (World.block_lt_of_cell? w _ hr) hb) (by have := World.block_lt_of_cell? w _ hr; have := hb.size; simp at *; omega) hb3) (keep_of (keep_of hn (World.block_lt_of_cell? w _ hn) hb) (by have := World.block_lt_of_cell? w _ hn; have := hb.size; simp at *; omega) hb3)
      (fun j hj => keep_of (keep_of (hck j hj) (World.block_lt_of_cell? w _ (hck j hj)) hb) (by have := World.block_lt_of_cell? w _ (hck j hj); have := hb.size; simp at *; omega) hb3) (by omega) hla hi hbd))
  have HR := Lib.hid (fun (UB : Nat) (w' : World) (hb : Below w.heap.size w w') (hU : ∀ i, i < c.N → w'.cell? ⟨UB, i, none⟩ = some (.int .i64 (devF c round ck last i))) (hUl : UB < w'.heap.size) =>
    spread_Run (fun w => Ints w c.PA c.ps) c.N c.Pi c.Er c.G c.Fi c.PA c.ps c.PC c.kind c.fat c.frm c.till c.CA c.CL c.CC c.VA c.VL c.VC round slot dir TB UB (passE c) SA SC sends (fun i => st i) (fun i => devF c round ck last i) w' hc.cf (hL.ps.below hb) (nok_emit hc round slot (by omega)) (hL.ps.below hb) (by omega) (by omega) hdir ho hlen (hS.below hb) hstr
      (fun i hi => keep_of (hT i hi) hTl hb) hU (by have := hb.size; omega) hUl)
  change Hid (∀ (UB : Nat) (w' : World) (hb : Below w.heap.size w w') (hU : ∀ i, i < c.N → w'.cell? ⟨UB, i, none⟩ = some (.int .i64 (devF c round ck last i))) (hUl : UB < w'.heap.size), Calls Tryz.prog 66 _ w' (RunPost c.N (dirF c round st ck slot sends dir last) w')) at HR
  generalize dirF c round st ck slot sends dir last = V at *
  generalize (owners c.N c.ps slot).length = OL at *
  have HNb := Lib.hid hN
  have l0 := World.block_lt_of_cell? w _ hbx
  have l1 := World.block_lt_of_cell? w _ hbs
  have l2 := World.block_lt_of_cell? w _ hbn
  have l3 := World.block_lt_of_cell? w _ hbt
  have l4 := World.block_lt_of_cell? w _ hr
  clear hc hN hL hck hbd ho hS hstr hT hlen
  go_enter Tryz.func63, Tryz.ntmps63
  go_wp2_with fail
  refine (HE.out _ (by repeat (first | exact Below.refl _ _ | refine Below.drew ?_ | refine below_drewN ?_ _ | refine Below.alloc ?_ (by simp; try omega) _)) (by simp)).mono ?_
  rintro e w1 ⟨g, rfl, hg1, hg2, hU, hb1⟩
  have HB := Lib.hid (Below.trans (show Below w.heap.size w _ from (by repeat (first | exact Below.refl _ _ | refine Below.drew ?_ | refine below_drewN ?_ _ | refine Below.alloc ?_ (by simp; try omega) _))) (hb1.mono (by simp)))
  have HRr := Lib.hid (HR.out g w1.drew HB.out.drew hU hg2)
  have HNb1 := Lib.hid (HNb.out.keep2 HB.out)
  have bx := keep_of hbx l0 HB.out
  have bs := keep_of hbs l1 HB.out
  have bn := keep_of hbn l2 HB.out
  have bt := keep_of hbt l3 HB.out
  have br := keep_of hr l4 HB.out
  have h16 := hb1.size
  clear hb1 hU HE HR hbx hbs hbn hbt hr
  go_wp2_with fail
  obtain ⟨k0, k1, k2, k3, k4, k5, k6, k7, k8, k9, k10, k11, k12, k13, k14, k15, k16⟩ := HNb1.out
  refine wp_region_held_drew (S := fun w' => w'.cell? ⟨BX, 0, none⟩ = some (.pointer (some ⟨NB, 0, none⟩)) ∧ w'.cell? ⟨BS, 0, none⟩ = some (.int .i64 slot) ∧ w'.cell? ⟨BN, 0, none⟩ = some (.slice SA OL SC) ∧ w'.cell? ⟨BT, 0, none⟩ = some (.slice (some ⟨TB, 0, none⟩) c.N c.N) ∧ w'.cell? ⟨NB, 0, none⟩ = some (.int .i64 c.N) ∧ w'.cell? ⟨NB, 1, none⟩ = some (.int .i64 c.Pi) ∧ w'.cell? ⟨NB, 2, none⟩ = some (.int .i64 c.Er) ∧ w'.cell? ⟨NB, 3, none⟩ = some (.int .i64 c.G) ∧ w'.cell? ⟨NB, 4, none⟩ = some (.int .i64 c.Fi) ∧ w'.cell? ⟨NB, 5, none⟩ = some (.slice c.PA c.ps.length c.PC) ∧ w'.cell? ⟨NB, 10, none⟩ = some (.int .i64 c.kind) ∧ w'.cell? ⟨NB, 11, none⟩ = some (.int .i64 c.fat) ∧ w'.cell? ⟨NB, 12, none⟩ = some (.int .i64 c.frm) ∧ w'.cell? ⟨NB, 13, none⟩ = some (.int .i64 c.till) ∧ w'.cell? ⟨NB, 14, none⟩ = some (.slice c.CA c.CL c.CC) ∧ w'.cell? ⟨NB, 15, none⟩ = some (.slice c.VA c.VL c.VC) ∧ w'.cell? ⟨NB, 17, none⟩ = some (.int .i64 round)) (by kernel_rfl) ⟨bx, bs, bn, bt, k0, k1, k2, k3, k4, k5, k10, k11, k12, k13, k14, k15, br⟩ (fun hHeld => ?_)
  refine rgT 0 ?_
  refine rgT 1 ?_
  refine rgT 2 ?_
  refine rgT 3 ?_
  refine rgT 4 ?_
  refine rgT 5 ?_
  refine rgT 6 ?_
  refine rgT 7 ?_
  refine rgT 8 ?_
  refine rgT 9 ?_
  refine rgT 10 ?_
  refine rgT 11 ?_
  refine rgT 12 ?_
  refine rgT 13 ?_
  refine rgT 14 ?_
  refine rgT 15 ?_
  refine rgT 16 ?_
  refine rgT 17 ?_
  refine wpAnyH_ready (rs := [18]) (by kernel_rfl) (by simp) (AllReadyH.cons rfl (fun K hK => ?_) AllReadyH.nil)
  go_simp
  refine HRr.out.mono ?_
  rintro e w2 ⟨u, rfl, hown, hnn, hb2⟩
  rcases hown.2 with ⟨_, h0⟩ | ⟨q, cap, cur, rfl, hq, _⟩
  · omega
  go_simp
  have kp : ∀ b j v, w1.cell? ⟨b, j, none⟩ = some v → w2.cell? ⟨b, j, none⟩ = some v := fun b j v h => keep_of (w := w1.drew) h (World.block_lt_of_cell? w1 _ h) hb2
  refine hK.out _ _ ⟨kp _ _ _ bx, kp _ _ _ bs, kp _ _ _ bn, kp _ _ _ bt, kp _ _ _ k0, kp _ _ _ k1, kp _ _ _ k2, kp _ _ _ k3, kp _ _ _ k4, kp _ _ _ k5, kp _ _ _ k10, kp _ _ _ k11, kp _ _ _ k12, kp _ _ _ k13, kp _ _ _ k14, kp _ _ _ k15, kp _ _ _ br⟩ (fun hHeld => ?_)
  clear hK K
  refine rgT 19 ?_
  refine wpAnyH_done (by kernel_rfl) ?_ _
  have HO := Lib.hid (own_mono hown (show w.heap.size ≤ w1.drew.heap.size from HB.out.size))
  have HB2 := Lib.hid (HB.out.trans (Below.mono (show Below w1.heap.size w1 w2 from ⟨hb2.os, hb2.tape, hb2.output, hb2.size, hb2.block⟩) HB.out.size))
  clear hown hb2 hnn kp
  unfold RunPost
  go_wp2
  go_ret
  exact ⟨_, rfl, HO.out, by simp, HB2.out⟩
end Go.Proofs.YtdbempiompiioaaGreat.A43
namespace Go.Proofs.YtdbempiompiioaaGreat.A44
open Go.RowKit A1 A2 A3 A4 A5 A6 A7 A8 A9 A10 A11 A12 A13 A14 A15 A16 A17 A18 A19 A20 A21 A22 A23 A24 A25 A26 A27 A28 A29 A30 A31 A32 A33 A34 A38 A39 A40 A41 A42 A43

def tb (t : ByteArray) (b : Bool) : ByteArray := if b then t else ⟨#[]⟩
theorem out_tb (t : ByteArray) (ht : Strm t) (cmp d s : Bool) : outF cmp (tb t d) (tb t s) = tb t (d && (!cmp || s)) := by
  cases d
  · exact outF_nil cmp _
  · cases cmp
    · exact outF_plain t _
    · cases s
      · exact outF_none t ht
      · exact outF_same true t
structure Wb where
  d : Nat → Bool
  s : Nat → Bool
  o : Nat → Bool
  g : Nat → Bool
  far : Nat → Int
def Wb.zero : Wb := ⟨fun _ => false, fun _ => false, fun _ => false, fun _ => false, fun _ => 0⟩
def Wb.own (b : Wb) (i : Nat) : Wb := ⟨b.d, b.s, fun j => if j = i then true else b.o j, fun j => if j = i then true else b.g j, b.far⟩
def comeB (P : Int → Int → Bool) (N dir : Int) (b : Wb) (node back : Int) : Bool :=
  b.g ((node + -dir * back) % N).toNat && (P ((node + -dir * back) % N) node && b.o ((node + -dir * back) % N).toNat)
def Wb.reach (P : Int → Int → Bool) (N dir : Int) (pair : Bool) (b : Wb) (i : Nat) (far : Int) : Wb :=
  ⟨fun j => if j = i then comeB P N dir b i 1 else b.d j, fun j => if j = i then comeB P N dir b i 2 else b.s j,
   fun j => if j = i then comeB P N dir b i 1 && (!(decide (far > 1) || pair) || comeB P N dir b i 2) else b.o j,
   fun j => if j = i then true else b.g j, fun j => if j = i then far else b.far j⟩
def ownB (ow : List Int) : Nat → Wb
  | 0 => Wb.zero
  | k + 1 => (ownB ow k).own (ow.getD k 0).toNat
def wayB (P : Int → Int → Bool) (N dir : Int) (pair : Bool) (b : Wb) (l : List Int) : Nat → Wb
  | 0 => b
  | k + 1 => (wayB P N dir pair b l k).reach P N dir pair (l.getD k 0).toNat ((k : Int) + 1)
def runB (P : Int → Int → Bool) (N dir : Int) (pair : Bool) (ow : List Int) : Wb :=
  wayB P N dir pair (ownB ow ow.length) (wayF N dir ow) (wayF N dir ow).length
structure Rel (t : ByteArray) (v : Wv) (b : Wb) : Prop where
  g : ∀ j, v.g j = b.g j
  d : ∀ j, (v.f j).d = tb t (b.d j)
  s : ∀ j, (v.f j).s = tb t (b.s j)
  o : ∀ j, (v.f j).o = tb t (b.o j)
  far : ∀ j, (v.f j).far = b.far j
theorem Rel.zero (t : ByteArray) : Rel t Wv.zero Wb.zero := ⟨fun _ => rfl, fun _ => rfl, fun _ => rfl, fun _ => rfl, fun _ => rfl⟩
theorem Rel.own {t : ByteArray} {v : Wv} {b : Wb} (h : Rel t v b) (i : Nat) : Rel t (v.own i t) (b.own i) := by
  refine ⟨fun j => ?_, fun j => ?_, fun j => ?_, fun j => ?_, fun j => ?_⟩
  · show (if j = i then true else v.g j) = if j = i then true else b.g j
    rw [h.g j]
  all_goals
    by_cases e : j = i
    · subst e
      first
      | (show (if j = j then _ else v.f j).d = _; rw [if_pos rfl]; exact h.d j)
      | (show (if j = j then _ else v.f j).s = _; rw [if_pos rfl]; exact h.s j)
      | (show (if j = j then _ else v.f j).o = tb t (if j = j then true else b.o j); rw [if_pos rfl, if_pos rfl]; rfl)
      | (show (if j = j then _ else v.f j).far = _; rw [if_pos rfl]; exact h.far j)
    · first
      | (show (if j = i then _ else v.f j).d = _; rw [if_neg e]; exact h.d j)
      | (show (if j = i then _ else v.f j).s = _; rw [if_neg e]; exact h.s j)
      | (show (if j = i then _ else v.f j).o = tb t (if j = i then true else b.o j); rw [if_neg e, if_neg e]; exact h.o j)
      | (show (if j = i then _ else v.f j).far = _; rw [if_neg e]; exact h.far j)
theorem Rel.come {t : ByteArray} {v : Wv} {b : Wb} (h : Rel t v b) (P : Int → Int → Bool) (N dir node back : Int) :
    comeF (fun a c s => if P a c then s else ⟨#[]⟩) N dir v.f v.g node back = tb t (comeB P N dir b node back) := by
  unfold comeF comeB
  rw [h.g]
  generalize ((node + -dir * back) % N) = k
  cases b.g k.toNat
  · rfl
  · rw [if_pos rfl, h.o]
    show (if P k node = true then tb t (b.o k.toNat) else ⟨#[]⟩) = _
    cases P k node
    · rfl
    · rfl
theorem Rel.reach {t : ByteArray} {v : Wv} {b : Wb} (h : Rel t v b) (ht : Strm t) (P : Int → Int → Bool) (N Pi slot dir : Int) (st dv : Nat → Int) (i : Nat) (far : Int) (h0 : st i ≠ 0) (hg : st i ≠ 4 ∨ -(2 * Pi) ≤ dv i ∧ dv i ≤ 2 * Pi) :
    Rel t (v.reach (fun a c s => if P a c then s else ⟨#[]⟩) N Pi slot dir st dv i far) (b.reach P N dir (decide (N ≤ slot)) i far) := by
  have hs : ∀ x, strF Pi (st i) (dv i) x = x := fun x => by unfold strF; rw [if_pos hg]
  have hd : sdF (fun a c s => if P a c then s else ⟨#[]⟩) N Pi slot dir v.f v.g (st i) (dv i) i far = ⟨tb t (comeB P N dir b i 1), tb t (comeB P N dir b i 2), tb t (comeB P N dir b i 1 && (!(decide (far > 1) || decide (N ≤ slot)) || comeB P N dir b i 2)), far⟩ := by
    unfold sdF
    rw [h.come, h.come, hs, ite_self, if_neg h0, out_tb t ht, Bool.decide_or]
  refine ⟨fun j => ?_, fun j => ?_, fun j => ?_, fun j => ?_, fun j => ?_⟩
  · show (if j = i then true else v.g j) = if j = i then true else b.g j
    rw [h.g j]
  all_goals
    by_cases e : j = i
    · subst e
      first
      | (show (if j = j then _ else v.f j).d = tb t (if j = j then _ else b.d j); rw [if_pos rfl, if_pos rfl, hd])
      | (show (if j = j then _ else v.f j).s = tb t (if j = j then _ else b.s j); rw [if_pos rfl, if_pos rfl, hd])
      | (show (if j = j then _ else v.f j).o = tb t (if j = j then _ else b.o j); rw [if_pos rfl, if_pos rfl, hd])
      | (show (if j = j then _ else v.f j).far = (if j = j then _ else b.far j); rw [if_pos rfl, if_pos rfl, hd])
    · first
      | (show (if j = i then _ else v.f j).d = tb t (if j = i then _ else b.d j); rw [if_neg e, if_neg e]; exact h.d j)
      | (show (if j = i then _ else v.f j).s = tb t (if j = i then _ else b.s j); rw [if_neg e, if_neg e]; exact h.s j)
      | (show (if j = i then _ else v.f j).o = tb t (if j = i then _ else b.o j); rw [if_neg e, if_neg e]; exact h.o j)
      | (show (if j = i then _ else v.f j).far = (if j = i then _ else b.far j); rw [if_neg e, if_neg e]; exact h.far j)
theorem rel_own {t : ByteArray} {ow : List Int} {sends : List ByteArray} : ∀ k, (∀ j, j < k → sends.getD j ⟨#[]⟩ = t) → Rel t (ownK ow sends k) (ownB ow k)
  | 0, _ => Rel.zero t
  | k + 1, h => by
    unfold ownK ownB
    rw [h k (by omega)]
    exact (rel_own k (fun j hj => h j (by omega))).own _
theorem rel_way {t : ByteArray} (ht : Strm t) (P : Int → Int → Bool) (n : Nat) (Pi slot dir : Int) (st dv : Nat → Int) {v : Wv} {b : Wb} (h : Rel t v b) (hg : ∀ i : Nat, i < n → st i ≠ 0 ∧ (st i ≠ 4 ∨ -(2 * Pi) ≤ dv i ∧ dv i ≤ 2 * Pi))
    (l : List Int) (hl : ∀ x ∈ l, 0 ≤ x ∧ x < (n : Int)) : ∀ k, k ≤ l.length → Rel t (wayK (fun a c s => if P a c then s else ⟨#[]⟩) n Pi slot dir st dv v l k) (wayB P n dir (decide ((n : Int) ≤ slot)) b l k)
  | 0, _ => h
  | k + 1, hk => by
    have hm := hl _ (getD_mem (l := l) (k := k) (by omega))
    have hx := hg (l.getD k 0).toNat (by omega)
    exact (rel_way ht P n Pi slot dir st dv h hg l hl k (by omega)).reach ht P n Pi slot dir st dv _ _ hx.1 hx.2
theorem rel_run {t : ByteArray} (ht : Strm t) (P : Int → Int → Bool) (n : Nat) (hn : 0 < n) (Pi slot dir : Int) (st dv : Nat → Int) (hg : ∀ i : Nat, i < n → st i ≠ 0 ∧ (st i ≠ 4 ∨ -(2 * Pi) ≤ dv i ∧ dv i ≤ 2 * Pi))
    (ow : List Int) (sends : List ByteArray) (hs : ∀ j, j < ow.length → sends.getD j ⟨#[]⟩ = t) :
    Rel t (runF (fun a c s => if P a c then s else ⟨#[]⟩) n Pi slot dir st dv ow sends) (runB P n dir (decide ((n : Int) ≤ slot)) ow) :=
  rel_way ht P n Pi slot dir st dv (rel_own _ hs) hg _ (fun x hx => wayF_mem (by omega) hx) _ (Nat.le_refl _)
structure Nil (v : Wv) (b : Wb) : Prop where
  d : ∀ j, (v.f j).d = ⟨#[]⟩
  s : ∀ j, (v.f j).s = ⟨#[]⟩
  o : ∀ j, (v.f j).o = ⟨#[]⟩
  far : ∀ j, (v.f j).far = b.far j
theorem Nil.come {v : Wv} {b : Wb} (h : Nil v b) (P : Int → Int → Bool) (N dir node back : Int) : comeF (fun a c s => if P a c then s else ⟨#[]⟩) N dir v.f v.g node back = ⟨#[]⟩ := by
  unfold comeF
  rw [h.o]
  split
  · exact ite_self _
  · rfl
theorem Nil.reach {v : Wv} {b : Wb} (h : Nil v b) (P : Int → Int → Bool) (N Pi slot dir : Int) (pair : Bool) (st dv : Nat → Int) (i : Nat) (far : Int) :
    Nil (v.reach (fun a c s => if P a c then s else ⟨#[]⟩) N Pi slot dir st dv i far) (b.reach P N dir pair i far) := by
  have hs : strF Pi (st i) (dv i) ⟨#[]⟩ = ⟨#[]⟩ := by unfold strF; exact ite_self _
  have hd : sdF (fun a c s => if P a c then s else ⟨#[]⟩) N Pi slot dir v.f v.g (st i) (dv i) i far = ⟨⟨#[]⟩, ⟨#[]⟩, ⟨#[]⟩, far⟩ := by
    unfold sdF
    rw [h.come, h.come, hs, ite_self, outF_nil, ite_self]
  refine ⟨fun j => ?_, fun j => ?_, fun j => ?_, fun j => ?_⟩
  all_goals
    by_cases e : j = i
    · subst e
      first
      | (show (if j = j then _ else v.f j).d = _; rw [if_pos rfl, hd])
      | (show (if j = j then _ else v.f j).s = _; rw [if_pos rfl, hd])
      | (show (if j = j then _ else v.f j).o = _; rw [if_pos rfl, hd])
      | (show (if j = j then _ else v.f j).far = (if j = j then _ else b.far j); rw [if_pos rfl, if_pos rfl, hd])
    · first
      | (show (if j = i then _ else v.f j).d = _; rw [if_neg e]; exact h.d j)
      | (show (if j = i then _ else v.f j).s = _; rw [if_neg e]; exact h.s j)
      | (show (if j = i then _ else v.f j).o = _; rw [if_neg e]; exact h.o j)
      | (show (if j = i then _ else v.f j).far = (if j = i then _ else b.far j); rw [if_neg e, if_neg e]; exact h.far j)
theorem Nil.own {v : Wv} {b : Wb} (h : Nil v b) (i : Nat) : Nil (v.own i ⟨#[]⟩) (b.own i) := by
  refine ⟨fun j => ?_, fun j => ?_, fun j => ?_, fun j => ?_⟩
  all_goals
    by_cases e : j = i
    · subst e
      first
      | (show (if j = j then _ else v.f j).d = _; rw [if_pos rfl]; exact h.d j)
      | (show (if j = j then _ else v.f j).s = _; rw [if_pos rfl]; exact h.s j)
      | (show (if j = j then _ else v.f j).o = _; rw [if_pos rfl])
      | (show (if j = j then _ else v.f j).far = b.far j; rw [if_pos rfl]; exact h.far j)
    · first
      | (show (if j = i then _ else v.f j).d = _; rw [if_neg e]; exact h.d j)
      | (show (if j = i then _ else v.f j).s = _; rw [if_neg e]; exact h.s j)
      | (show (if j = i then _ else v.f j).o = _; rw [if_neg e]; exact h.o j)
      | (show (if j = i then _ else v.f j).far = b.far j; rw [if_neg e]; exact h.far j)
theorem nil_own {ow : List Int} {sends : List ByteArray} : ∀ k, (∀ j, j < k → sends.getD j ⟨#[]⟩ = ⟨#[]⟩) → Nil (ownK ow sends k) (ownB ow k)
  | 0, _ => ⟨fun _ => rfl, fun _ => rfl, fun _ => rfl, fun _ => rfl⟩
  | k + 1, h => by
    unfold ownK ownB
    rw [h k (by omega)]
    exact (nil_own k (fun j hj => h j (by omega))).own _
theorem nil_way (P : Int → Int → Bool) (N Pi slot dir : Int) (pair : Bool) (st dv : Nat → Int) {v : Wv} {b : Wb} (h : Nil v b) (l : List Int) : ∀ k, Nil (wayK (fun a c s => if P a c then s else ⟨#[]⟩) N Pi slot dir st dv v l k) (wayB P N dir pair b l k)
  | 0 => h
  | k + 1 => (nil_way P N Pi slot dir pair st dv h l k).reach P N Pi slot dir pair st dv _ _
theorem nil_run (P : Int → Int → Bool) (N Pi slot dir : Int) (pair : Bool) (st dv : Nat → Int) (ow : List Int) (sends : List ByteArray) (hs : ∀ j, j < ow.length → sends.getD j ⟨#[]⟩ = ⟨#[]⟩) :
    Nil (runF (fun a c s => if P a c then s else ⟨#[]⟩) N Pi slot dir st dv ow sends) (runB P N dir pair ow) :=
  nil_way P N Pi slot dir pair st dv (nil_own _ hs) _ _
def gotB (pair : Bool) (d1 o1 d2 o2 : Bool) (f1 f2 : Int) : Bool := (o1 && (decide (2 ≤ f1) || pair)) || (o2 && (decide (2 ≤ f2) || pair)) || (d1 && (decide (f1 = 1) && !pair)) || (d2 && (decide (f2 = 1) && !pair))
def linkP (N l : Int) (a b : Int) : Bool := l == 2 * N || !byLink N l a b
def fineAt (N l : Int) (pair : Bool) (ow : List Int) (i : Nat) : Bool :=
  ow.contains i || (gotB pair ((runB (linkP N l) N 1 pair ow).d i) ((runB (linkP N l) N 1 pair ow).o i) ((runB (linkP N l) N (-1) pair ow).d i) ((runB (linkP N l) N (-1) pair ow).o i) ((runB (linkP N l) N 1 pair ow).far i) ((runB (linkP N l) N (-1) pair ow).far i)
    && decide (1 ≤ (runB (linkP N l) N 1 pair ow).far i) && decide (1 ≤ (runB (linkP N l) N (-1) pair ow).far i))
def fineAll (n : Nat) : Bool := (List.range (2 * n + 1)).all fun l => (List.range n).all fun x => (List.range n).all fun i => fineAt n l false [(x : Int)] i && fineAt n l true [(x : Int), ((x : Int) + 1) % n] i
set_option maxRecDepth 100000 in
theorem fine6 : fineAll 6 = true := by decide +kernel
set_option maxRecDepth 100000 in
theorem fine7 : fineAll 7 = true := by decide +kernel
theorem fine_of {n l x i : Nat} (hn : n = 6 ∨ n = 7) (hl : l ≤ 2 * n) (hx : x < n) (hi : i < n) : fineAt n l false [(x : Int)] i = true ∧ fineAt n l true [(x : Int), ((x : Int) + 1) % n] i = true := by
  have h : fineAll n = true := by
    rcases hn with rfl | rfl
    · exact fine6
    · exact fine7
  unfold fineAll at h
  have h1 := List.all_eq_true.mp h l (List.mem_range.mpr (by omega))
  have h2 := List.all_eq_true.mp h1 x (List.mem_range.mpr hx)
  have h3 := List.all_eq_true.mp h2 i (List.mem_range.mpr hi)
  exact Bool.and_eq_true_iff.mp h3
theorem nok_link {c : NC} (h : NOk c) : ∃ l : Nat, l ≤ 2 * c.N ∧ passE c = fun a b s => if linkP c.N l a b then s else ⟨#[]⟩ := by
  rcases h.kind with ⟨e, _⟩ | ⟨e, _, _, e0, e1⟩
  · refine ⟨2 * c.N, Nat.le_refl _, ?_⟩
    funext a b s
    unfold passE passB linkP
    rw [e]
    simp
  · refine ⟨c.fat.toNat, by omega, ?_⟩
    funext a b s
    unfold passE passB linkP
    rw [e]
    have h1 : ((c.fat.toNat : Int) == 2 * (c.N : Int)) = false := by rw [beq_eq_false_iff_ne]; omega
    have h2 : ((c.fat.toNat : Nat) : Int) = c.fat := by omega
    rw [h1, h2]
    rfl
def oneB (t : ByteArray) (f : Fr) (b : Bool) : List (ByteArray × Fr) := if b then [(t, f)] else []
theorem add_one (t : ByteArray) (f : Fr) (b c : Bool) : addF (tb t b) c (if b then some f else none) = oneB t f (b && c) := by
  cases b <;> cases c <;> rfl
theorem pick_one (t : ByteArray) (f : Fr) (a b c d : Bool) : pickF (oneB t f a ++ oneB t f b) (oneB t f c ++ oneB t f d) = if a || b || c || d then some f else none := by
  cases a <;> cases b <;> cases c <;> cases d <;> simp [pickF, oneB]
structure PickAt (N PL : Nat) (wire slot : Int) (a b : Sd) (o : Option Fr) : Prop where
  ex : ∃ r1 r2 q1 q2, SortIs N PL wire slot a.o r1 ∧ SortIs N PL wire slot b.o r2 ∧ SortIs N PL wire slot a.d q1 ∧ SortIs N PL wire slot b.d q2 ∧
    pickF (addF a.o (decide (2 ≤ a.far) || decide (slot ≥ N)) r1 ++ addF b.o (decide (2 ≤ b.far) || decide (slot ≥ N)) r2) (addF a.d (decide (a.far = 1) && !decide (slot ≥ N)) q1 ++ addF b.d (decide (b.far = 1) && !decide (slot ≥ N)) q2) = o
  f1 : 1 ≤ a.far
  f2 : 1 ≤ b.far
theorem sort_tb {N PL : Nat} {wire slot : Int} {f : Fr} (h1 : FrOk N PL f) (h2 : (f.round : Int) = wire) (h3 : (f.slot : Int) = slot) (b : Bool) : SortIs N PL wire slot (tb (textB f) b) (if b then some f else none) := by
  cases b
  · exact ⟨by show (0 : Nat) ≤ 4000; omega, by rfl⟩
  · exact ⟨rfl, h1, h2, h3⟩
theorem sort_nil (N PL : Nat) (wire slot : Int) : SortIs N PL wire slot ⟨#[]⟩ none := ⟨by show (0 : Nat) ≤ 4000; omega, by rfl⟩
theorem owners_cases {c : NC} (hc : NOk c) {slot : Nat} (hs : slot < c.N + c.ps.length) : (slot < c.N ∧ owners c.N c.ps slot = [(slot : Int)]) ∨ (c.N ≤ slot ∧ owners c.N c.ps slot = []) ∨ (c.N ≤ slot ∧ ∃ x : Nat, x < c.N ∧ owners c.N c.ps slot = [(x : Int), ((x : Int) + 1) % c.N]) := by
  by_cases h : slot < c.N
  · exact .inl ⟨h, by unfold owners; rw [if_pos (by omega)]⟩
  · have hn : ¬ (slot : Int) < c.N := by omega
    have hk := hc.cf.each ((slot : Int) - c.N).toNat (by omega)
    by_cases e : c.ps.getD ((slot : Int) - c.N).toNat (-1) = -1
    · exact .inr (.inl ⟨by omega, by unfold owners; rw [if_neg hn, if_pos e]⟩)
    · have hg : c.ps.getD ((slot : Int) - c.N).toNat (-1) = c.ps.getD ((slot : Int) - c.N).toNat 0 := by
        rw [List.getD_eq_getElem?_getD, List.getD_eq_getElem?_getD, List.getElem?_eq_getElem (show ((slot : Int) - c.N).toNat < c.ps.length by omega)]; rfl
      refine .inr (.inr ⟨by omega, (c.ps.getD ((slot : Int) - c.N).toNat (-1)).toNat, by omega, ?_⟩)
      have he : (((c.ps.getD ((slot : Int) - c.N).toNat (-1)).toNat : Nat) : Int) = c.ps.getD ((slot : Int) - c.N).toNat (-1) := by omega
      unfold owners
      rw [if_neg hn, if_neg e, he]
theorem fine_own {c : NC} (hc : NOk c) {slot : Nat} (hs : slot < c.N + c.ps.length) (hne : owners c.N c.ps slot ≠ []) {l i : Nat} (hl : l ≤ 2 * c.N) (hi : i < c.N) : fineAt c.N l (decide ((c.N : Int) ≤ slot)) (owners c.N c.ps slot) i = true := by
  have hn : c.N = 6 ∨ c.N = 7 := by have := hc.cf.n0; have := hc.cf.n1; omega
  rcases owners_cases hc hs with ⟨h, e⟩ | ⟨_, e⟩ | ⟨h, x, hx, e⟩
  · rw [e, decide_eq_false (by omega)]
    exact (fine_of hn hl h hi).1
  · exact absurd e hne
  · rw [e, decide_eq_true (by omega)]
    exact (fine_of hn hl hx hi).2
theorem pick_full {c : NC} (hc : NOk c) {round slot : Nat} {st : Nat → Nat} {ck : Nat → Int} {sends : List ByteArray} {f : Fr} {la lb : Nat} (hs : slot < c.N + c.ps.length) (hne : owners c.N c.ps slot ≠ []) (hf : FrOk c.N c.ps.length f) {wire : Int} (hw : (f.round : Int) = wire) (hsl : f.slot = slot) (ht : Strm (textB f))
    (hS : ∀ j, j < (owners c.N c.ps slot).length → sends.getD j ⟨#[]⟩ = textB f) (hst : ∀ i, i < c.N → st i ≠ 0)
    (h1 : ∀ i, i < c.N → st i ≠ 4 ∨ -(2 * c.Pi) ≤ devF c round ck la i ∧ devF c round ck la i ≤ 2 * c.Pi) (h2 : ∀ i, i < c.N → st i ≠ 4 ∨ -(2 * c.Pi) ≤ devF c round ck lb i ∧ devF c round ck lb i ≤ 2 * c.Pi)
    {i : Nat} (hi : i < c.N) (hni : (owners c.N c.ps slot).contains (i : Int) = false) :
    PickAt c.N c.ps.length wire slot ((dirF c round st ck slot sends 1 la).f i) ((dirF c round st ck slot sends (-1) lb).f i) (some f) := by
  obtain ⟨l, hl, hE⟩ := nok_link hc
  have hn0 := hc.cf.n0
  have R1 := rel_run ht (linkP c.N l) c.N (by omega) c.Pi slot 1 (fun i => st i) (fun i => devF c round ck la i) (fun i hi => ⟨by have := hst i hi; omega, by have := h1 i hi; omega⟩) (owners c.N c.ps slot) sends hS
  have R2 := rel_run ht (linkP c.N l) c.N (by omega) c.Pi slot (-1) (fun i => st i) (fun i => devF c round ck lb i) (fun i hi => ⟨by have := hst i hi; omega, by have := h2 i hi; omega⟩) (owners c.N c.ps slot) sends hS
  have F := fine_own hc hs hne hl hi
  unfold fineAt at F
  rw [hni, Bool.false_or] at F
  obtain ⟨F1, F3⟩ := Bool.and_eq_true_iff.mp F
  obtain ⟨F1, F2⟩ := Bool.and_eq_true_iff.mp F1
  unfold dirF
  rw [hE]
  have x1 := of_decide_eq_true F2
  have x2 := of_decide_eq_true F3
  refine ⟨⟨_, _, _, _, (R1.o i).symm ▸ sort_tb hf hw (by omega) _, (R2.o i).symm ▸ sort_tb hf hw (by omega) _, (R1.d i).symm ▸ sort_tb hf hw (by omega) _, (R2.d i).symm ▸ sort_tb hf hw (by omega) _, ?_⟩, by rw [R1.far]; exact x1, by rw [R2.far]; exact x2⟩
  rw [R1.o, R2.o, R1.d, R2.d, R1.far, R2.far, add_one, add_one, add_one, add_one, pick_one]
  exact if_pos F1
theorem pick_none {c : NC} (hc : NOk c) {round slot : Nat} {st : Nat → Nat} {ck : Nat → Int} {sends : List ByteArray} {la lb : Nat} (hs : slot < c.N + c.ps.length) (hne : owners c.N c.ps slot ≠ []) {wire : Int}
    (hS : ∀ j, j < (owners c.N c.ps slot).length → sends.getD j ⟨#[]⟩ = ⟨#[]⟩) {i : Nat} (hi : i < c.N) (hni : (owners c.N c.ps slot).contains (i : Int) = false) :
    PickAt c.N c.ps.length wire slot ((dirF c round st ck slot sends 1 la).f i) ((dirF c round st ck slot sends (-1) lb).f i) none := by
  obtain ⟨l, hl, hE⟩ := nok_link hc
  have R1 := nil_run (linkP c.N l) c.N c.Pi slot 1 (decide ((c.N : Int) ≤ slot)) (fun i => st i) (fun i => devF c round ck la i) (owners c.N c.ps slot) sends hS
  have R2 := nil_run (linkP c.N l) c.N c.Pi slot (-1) (decide ((c.N : Int) ≤ slot)) (fun i => st i) (fun i => devF c round ck lb i) (owners c.N c.ps slot) sends hS
  have F := fine_own hc hs hne hl hi
  unfold fineAt at F
  rw [hni, Bool.false_or] at F
  obtain ⟨F1, F3⟩ := Bool.and_eq_true_iff.mp F
  obtain ⟨F1, F2⟩ := Bool.and_eq_true_iff.mp F1
  unfold dirF
  rw [hE]
  have x1 := of_decide_eq_true F2
  have x2 := of_decide_eq_true F3
  refine ⟨⟨none, none, none, none, (R1.o i).symm ▸ sort_nil _ _ _ _, (R2.o i).symm ▸ sort_nil _ _ _ _, (R1.d i).symm ▸ sort_nil _ _ _ _, (R2.d i).symm ▸ sort_nil _ _ _ _, ?_⟩, by rw [R1.far]; exact x1, by rw [R2.far]; exact x2⟩
  have e : ∀ s b, addF s b none = [] := fun s b => by cases b <;> rfl
  rw [e, e, e, e]
  rfl
end Go.Proofs.YtdbempiompiioaaGreat.A44
namespace Go.Proofs.YtdbempiompiioaaGreat.A45
open Go.RowKit A1 A2 A3 A4 A5 A6 A7 A8 A9 A10 A11 A12 A13 A14 A15 A16 A17 A18 A19 A20 A21 A22 A23 A24 A25 A26 A27 A28 A29 A30 A31 A32 A33 A34 A38 A39 A40 A41 A42 A43 A44

def gotL (S : Nat) (g : Option (List (Nat × Nat))) : List (Nat × Nat) := g.getD (List.replicate S (0, 0))
def GotAt (w : World) (v : Value) (S : Nat) : Option (List (Nat × Nat)) → Prop
  | none => v = .slice none 0 0
  | some l => l.length = S ∧ ∃ b C, v = .slice (some ⟨b, 0, none⟩) S C ∧ b < w.heap.size ∧ Items w (some ⟨b, 0, none⟩) l
theorem mk59 (n : Nat) (hn : n ≤ 100) (w : World) : (Instr.makeSlice 59 (.int .i64 (n : Int)) (.int .i64 (n : Int))).run Tryz.prog w = .ok (.slice (some ⟨w.heap.size, 0, none⟩) n n) (w.alloc (.cells (madeCells #[.int .i64 0, .int .i64 0] (n * 2)) 44)) := by
  obtain ⟨i, hi, hz, hs, hb⟩ := info_parts CL.info44
  have := run_make_n (P := Tryz.prog) 59 44 i _ Tryz.underlying59 hi hz n hn (by omega) w
  rw [hs] at this
  exact this
theorem items_zero {w : World} {b n : Nat} (h : w.heap[b]? = some (.cells (madeCells #[.int .i64 0, .int .i64 0] (n * 2)) 44 (0, 0))) : Items w (some ⟨b, 0, none⟩) (List.replicate n (0, 0)) := fun k hk => by
  have hk' : k < n := by simpa using hk
  refine ⟨b, 0, rfl, heap_lt h, ?_, ?_⟩
  · rw [Lib.cell_of_heap h, made_at _ _ _ (by omega)]
    have : (0 + k * 2) % 2 = 0 := by omega
    rw [List.getD_eq_getElem?_getD, List.getElem?_eq_getElem hk]; simp [this]
  · rw [Lib.cell_of_heap h, made_at _ _ _ (by omega)]
    have : (0 + k * 2 + 1) % 2 = 1 := by omega
    rw [List.getD_eq_getElem?_getD, List.getElem?_eq_getElem hk]; simp [this]
theorem eq59n (w : World) : (binOp BinOp.eql 59 (.slice none 0 0) (.slice none 0 0)).run Tryz.prog w = .ok (.bool true) w := by kernel_rfl
theorem eq59s (b S C : Nat) (w : World) : (binOp BinOp.eql 59 (.slice (some ⟨b, 0, none⟩) S C) (.slice none 0 0)).run Tryz.prog w = .ok (.bool false) w := by kernel_rfl
set_option maxRecDepth 100000 in
theorem net_echo_some (N NB ND i b S C : Nat) (w : World) (hn : w.cell? ⟨NB, 18, none⟩ = some (.slice (some ⟨ND, 0, none⟩) N N)) (hi : i < N) (hg : w.cell? ⟨ND, i * 7 + 5, none⟩ = some (.slice (some ⟨b, 0, none⟩) S C)) :
    Calls Tryz.prog 98 #[.pointer (some ⟨NB, 0, none⟩), .int .i64 i] w fun e w' => e = .returned (.slice (some ⟨b, 0, none⟩) S C) ∧ w = w' := by
  have i0 : (i : Int) < (N : Int) := by omega
  have q := eq59s b S C
  go_enter Tryz.func98, Tryz.ntmps98
  go_wp2
  go_ret
  exact ⟨rfl, rfl⟩
set_option maxRecDepth 100000 in
theorem net_echo_nil (c : NC) (NB ND i : Nat) (w : World) (hc : NOk c) (hN : NbK w NB c) (hn : w.cell? ⟨NB, 18, none⟩ = some (.slice (some ⟨ND, 0, none⟩) c.N c.N)) (hi : i < c.N) (hg : w.cell? ⟨ND, i * 7 + 5, none⟩ = some (.slice none 0 0)) :
    Calls Tryz.prog 98 #[.pointer (some ⟨NB, 0, none⟩), .int .i64 i] w fun e w' => ∃ A C, e = .returned (.slice A (c.N + c.ps.length) C) ∧ Items w' A (List.replicate (c.N + c.ps.length) (0, 0)) ∧ (∀ b off, A = some ⟨b, off, none⟩ → w.heap.size ≤ b) ∧ Below w.heap.size w w' := by
  have i0 : (i : Int) < (c.N : Int) := by omega
  obtain ⟨k0, k1, k2, k3, k4, k5, k6, k7, k8, k9, k10, k11, k12, k13, k14, k15, k16⟩ := hN
  have n1 := hc.cf.n1
  have n2 := hc.cf.len
  have HS := Lib.hid (fun w => conf_Slots c.N c.Pi c.Er c.G c.Fi c.PA c.ps.length c.PC w (by omega) (by omega) (by omega))
  have hmk := fun w => mk59 (c.N + c.ps.length) (by omega) w
  rw [Int.natCast_add] at hmk
  clear hc
  have q := eq59n
  go_enter Tryz.func98, Tryz.ntmps98
  go_wp2_with fail
  refine (HS.out _).mono ?_
  rintro e w1 ⟨rfl, hb1⟩
  go_wp2
  go_ret
  exact ⟨_, _, rfl, items_zero (heap_alloc_new w1 _), fun b off h => by injection h with h; injection h with h _; have := hb1.size; omega, hb1.alloc hb1.size _⟩
structure QAt (w : World) (Q S : Nat) (q : Nat → Option Nat) : Prop where
  lt : Q < w.heap.size
  fr : ∀ o, w.frozen? ⟨Q, o, none⟩ = false
  c0 : ∀ s, s < S → ∃ u, w.cell? ⟨Q, s * 5, none⟩ = some u ∧ ∀ v, q s = some v → u = .int .i64 v
  c4 : ∀ s, s < S → w.cell? ⟨Q, s * 5 + 4, none⟩ = some (.int .i64 (if (q s).isSome then 1 else 0))
theorem QAt.keep {w w1 : World} {Q S : Nat} {q : Nat → Option Nat} (h : QAt w Q S q) (hs : w.heap.size ≤ w1.heap.size) (k : w1.heap[Q]? = w.heap[Q]?) : QAt w1 Q S q := by
  have f : ∀ o, w1.cell? ⟨Q, o, none⟩ = w.cell? ⟨Q, o, none⟩ := fun o => World.cell?_of_block (a := ⟨Q, o, none⟩) k
  exact ⟨Nat.lt_of_lt_of_le h.lt hs, fun o => (World.frozen?_of_block (w := w) (a := ⟨Q, o, none⟩) k).trans (h.fr o), fun s hs => (h.c0 s hs).imp fun u hu => ⟨(f _).trans hu.1, hu.2⟩, fun s hs => (f _).trans (h.c4 s hs)⟩
theorem QAt.below {w w1 : World} {Q S : Nat} {q : Nat → Option Nat} (h : QAt w Q S q) (hb : Below w.heap.size w w1) : QAt w1 Q S q := h.keep hb.size (hb.block Q h.lt)
theorem QAt.but {w w1 : World} {Q S : Nat} {q : Nat → Option Nat} {T : Nat → Prop} (h : QAt w Q S q) (hb : But T w w1) (hQ : ¬ T Q) : QAt w1 Q S q := h.keep hb.size (hb.block Q h.lt hQ)
def took (q : Nat → Option Nat) (s : Nat) : Nat → Option Nat := fun j => if j = s then none else q j
theorem QAt.next {w w1 : World} {Q S s : Nat} {q : Nat → Option Nat} (h : QAt w Q S q) (hs : w.heap.size ≤ w1.heap.size) (h4 : w1.cell? ⟨Q, s * 5 + 4, none⟩ = some (.int .i64 0)) (ho : ∀ j, j ≠ s * 5 + 4 → w1.cell? ⟨Q, j, none⟩ = w.cell? ⟨Q, j, none⟩) (hf : ∀ j, w1.frozen? ⟨Q, j, none⟩ = w.frozen? ⟨Q, j, none⟩) :
    QAt w1 Q S (took q s) := by
  refine ⟨Nat.lt_of_lt_of_le h.lt hs, fun o => (hf o).trans (h.fr o), fun j hj => ?_, fun j hj => ?_⟩
  · obtain ⟨u, h1, h2⟩ := h.c0 j hj
    refine ⟨u, (ho _ (by omega)).trans h1, fun v hv => h2 v ?_⟩
    unfold took at hv
    split at hv
    · cases hv
    · exact hv
  · by_cases e : j = s
    · subst e; rw [h4]; simp [took]
    · rw [ho _ (by omega), h.c4 j hj]; simp [took, e]
theorem QAt.none {w : World} {Q S s : Nat} {q : Nat → Option Nat} (h : QAt w Q S q) (hq : q s = Option.none) : QAt w Q S (took q s) := by
  have e : took q s = q := by
    funext j; unfold took
    split
    · rename_i e; subst e; exact hq.symm
    · rfl
  rw [e]; exact h
theorem queue_Next (Q S s : Nat) (q : Nat → Option Nat) (w : World) (hQ : QAt w Q S q) (hs : s < S) :
    Calls Tryz.prog 97 #[.pointer (some ⟨Q, s * 5, none⟩)] w fun e w' => e = .returned (.agg #[.int .i64 ((if (q s).isSome then 2 else 1 : Nat) : Int), .int .i64 (((q s).getD 0 : Nat) : Int)]) ∧ But (fun x => x = Q) w w' ∧ QAt w' Q S (took q s) := by
  have c4 := hQ.c4 s hs
  cases hq : q s with
  | none =>
    rw [hq] at c4
    refine (queue_Next0 Q (s * 5) w c4).mono ?_
    rintro e w' ⟨rfl, hb⟩
    exact ⟨rfl, But.of_below hb (Nat.le_refl _), (hQ.none hq).below hb⟩
  | some v =>
    rw [hq] at c4
    obtain ⟨u, h1, h2⟩ := hQ.c0 s hs
    rw [h2 v hq] at h1
    refine (queue_Next1 Q (s * 5) v w h1 c4 (hQ.fr _)).mono ?_
    rintro e w' ⟨rfl, hb, k4, ko, kf⟩
    exact ⟨rfl, hb, hQ.next hb.size k4 ko kf⟩
def frameF (N S wire slot st : Nat) (q : Option Nat) (g : Option (List (Nat × Nat))) : Option Fr :=
  if st = 4 then some ⟨3, wire, slot, if q.isSome then 2 else 1, q.getD 0, if slot < N then gotL S g else []⟩
  else if st = 2 ∨ st = 3 then (if slot < N then some ⟨sendsF st, wire, slot, 0, 0, []⟩ else none)
  else none
def FrMade (w : World) (k r s : Int) (v : Value) (wx : World) : Prop := ∃ F, v = .pointer (some ⟨F, 0, none⟩) ∧ wx.heap[F]? = some (.cells #[.int .i64 k, .int .i64 r, .int .i64 s, .int .i64 0, .int .i64 0, .slice none 0 0] 118 (0, 0)) ∧ w.heap.size ≤ F ∧ Below w.heap.size w wx
def FramePost (o : Option Fr) (Q S : Nat) (q' : Nat → Option Nat) (w : World) (e : Ending) (w' : World) : Prop :=
  (match o with
  | some f => ∃ EA EC, e = .returned (.tuple #[.agg #[.int .i64 f.kind, .int .i64 f.round, .int .i64 f.slot, .int .i64 f.pk, .int .i64 f.pv, .slice EA f.echo.length EC], .bool true]) ∧ Items w' EA f.echo
  | none => ∃ k r s : Int, e = .returned (.tuple #[.agg #[.int .i64 k, .int .i64 r, .int .i64 s, .int .i64 0, .int .i64 0, .slice none 0 0], .bool false])) ∧ But (fun x => x = Q) w w' ∧ QAt w' Q S q'
end Go.Proofs.YtdbempiompiioaaGreat.A45
