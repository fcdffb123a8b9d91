/- A locus that may be, of a raw one: plaitinglaw6.Make. Conditions: the bounds stated in each theorem. -/
import Derived.Test.YtdbempiompiioaaGreatT04
import Derived.Test.YtdbempiompiioaaGreatT32
import Derived.Deep.CutBlock
set_option linter.unusedVariables false
set_option linter.unusedSimpArgs false
namespace Go.Proofs.YtdbempiompiioaaGreat.C5
open Go.RowKit A1 A2 A3 A4 A9 A10 A11 A12 A13 A14 A18 A35 A46 A48 A50 A52 C1 C2 C4

theorem three (w : World) (A B C : Obj) : (((w.alloc A).alloc B).alloc C).heap[w.heap.size]? = some A ∧ (((w.alloc A).alloc B).alloc C).heap[w.heap.size + 1]? = some B ∧ (((w.alloc A).alloc B).alloc C).heap[w.heap.size + 2]? = some C ∧ w.heap.size + 2 < (((w.alloc A).alloc B).alloc C).heap.size ∧ Below w.heap.size w (((w.alloc A).alloc B).alloc C) := by
  obtain ⟨h1, h2, h3, h4⟩ := two w A B
  have z : ∀ (w : World) (A : Obj), (w.alloc A).heap.size = w.heap.size + 1 := fun w A => by simp
  have hb : Below ((w.alloc A).alloc B).heap.size ((w.alloc A).alloc B) (((w.alloc A).alloc B).alloc C) := (Below.refl _ _).alloc (Nat.le_refl _) C
  have hc := heap_alloc_new ((w.alloc A).alloc B) C
  have e : ((w.alloc A).alloc B).heap.size = w.heap.size + 2 := by rw [z, z]
  rw [e] at hc
  exact ⟨(hb.block _ (by omega)).trans h1, (hb.block _ (by omega)).trans h2, hc, heap_lt hc, h4.trans (hb.mono (by omega))⟩
theorem acts_low {w w1 : World} {A : Option Addr} {n : Nat} (h : ActsAt w A n) (hb : Below w.heap.size w w1) : ActsAt w1 A n := h.below hb
theorem info38 : (Tryz.prog.info? 38).map (fun i => (i.zero, i.size, i.bytes)) = some (some (.agg #[.int .i64 0, .int .i64 0, .string ⟨#[]⟩]), 3, 32) := by kernel_rfl
def FaultRet (w : World) (e : Ending) (w' : World) : Prop := ∃ (k a f t : Int) (A : Option Addr) (L C : Nat) (B : Option Addr) (M D : Nat), e = .returned (.agg #[.int .i64 k, .int .i64 a, .int .i64 f, .int .i64 t, .slice A L C, .slice B M D]) ∧ Below w.heap.size w w'
set_option maxRecDepth 100000 in
set_option maxHeartbeats 8000000 in
theorem l6_Make (N : Nat) (Pi Er Gd Fi : Int) (PA : Option Addr) (PL PC : Nat) (a0 a1 a2 a3 : Int) (CA : Option Addr) (CL CC : Nat) (VA : Option Addr) (vs : List Int) (VC : Nat) (w : World) (hN : 1 ≤ N) (hN2 : N ≤ 12) (hA : ActsAt w CA CL) (hL : CL ≤ 9223372036854775807) (hV : Ints w VA vs) (hVL : vs.length ≤ 9223372036854775807) :
    Calls Tryz.prog 40 #[.agg #[.int .i64 N, .int .i64 Pi, .int .i64 Er, .int .i64 Gd, .int .i64 Fi, .slice PA PL PC], .agg #[.int .i64 a0, .int .i64 a1, .int .i64 a2, .int .i64 a3, .slice CA CL CC, .slice VA vs.length VC]] w (FaultRet w) := by
  have r1a : 0 ≤ a0 % 3 := by omega
  have r1b : a0 % 3 < 3 := by omega
  have r2a : 0 ≤ a2 % 60 := by omega
  have r2b : a2 % 60 < 60 := by omega
  have r3a : 0 ≤ a3 % 60 := by omega
  have r3b : a3 % 60 < 60 := by omega
  have w1 : IntKind.i64.wrap (a2 % 60 + a3 % 60) = a2 % 60 + a3 % 60 := by rw [IntKind.wrap_i64]; omega
  have w2 : IntKind.i64.wrap (2 * (N : Int)) = 2 * N := by rw [IntKind.wrap_i64]; omega
  obtain ⟨hC, hF, hR, hz, hB⟩ := three w (.cells #[.int .i64 N, .int .i64 Pi, .int .i64 Er, .int .i64 Gd, .int .i64 Fi, .slice PA PL PC] 24) (.cells #[.int .i64 a0, .int .i64 a1, .int .i64 a2, .int .i64 a3, .slice CA CL CC, .slice VA vs.length VC] 27) (.cells #[.int .i64 0, .int .i64 0, .int .i64 0, .int .i64 0, .slice none 0 0, .slice none 0 0] 27)
  have HA := Lib.hid hA
  have HV := Lib.hid hV
  clear hA hV
  go_enter Tryz.func40, Tryz.ntmps40
  go_upto_region 1 with fail
  generalize ((w.alloc (.cells #[.int .i64 N, .int .i64 Pi, .int .i64 Er, .int .i64 Gd, .int .i64 Fi, .slice PA PL PC] 24)).alloc (.cells #[.int .i64 a0, .int .i64 a1, .int .i64 a2, .int .i64 a3, .slice CA CL CC, .slice VA vs.length VC] 27)).alloc (.cells #[.int .i64 0, .int .i64 0, .int .i64 0, .int .i64 0, .slice none 0 0, .slice none 0 0] 27) = wa at *
  have HC := Lib.hid hC
  have HF := Lib.hid hF
  have HR := Lib.hid hR
  have HB := Lib.hid hB
  obtain ⟨y0, y1, y2, y3, y4, y5⟩ := box6 hF
  clear hC hF hR hB
  go_cut [5] (fun t wx => t = .pointer (some ⟨wa.heap.size, 0, none⟩) ∧ wx.heap[wa.heap.size]? = some (.cells #[.int .i64 (a0 % 3), .int .i64 0, .int .i64 (a2 % 60), .int .i64 0, .slice none 0 0, .slice none 0 0] 27 (0, 0)) ∧ Below wa.heap.size wa wx)
  case first =>
    go_region_held3 (fun w' => w'.cell? ⟨w.heap.size + 1, 0, none⟩ = some (.int .i64 a0) ∧ w'.cell? ⟨w.heap.size + 1, 2, none⟩ = some (.int .i64 a2)) (go_keep) ((go_at_call 74; refine (within74 _ _ _ (by omega) (by omega)).mono ?_; rintro e w' ⟨rfl, rfl⟩))
    all_goals
      go_wp2_with fail
      go_meet
      exact ⟨rfl, (by first | exact heap_alloc_new wa _ | exact heap_alloc_new wa.drew _), (by repeat (first | exact Below.refl _ _ | refine Below.drew ?_ | refine below_drewN ?_ _ | refine Below.alloc ?_ (by simp; try omega) _))⟩
  case rest =>
    generalize wc = wd at *
    obtain ⟨rfl, hG, hb⟩ := hcut
    have HF2 := Lib.hid ((hb.block _ (by omega)).trans HF.out)
    have HC2 := Lib.hid ((hb.block _ (by omega)).trans HC.out)
    have HR2 := Lib.hid ((hb.block _ hz).trans HR.out)
    have HB2 := Lib.hid (HB.out.trans (hb.mono (by omega)))
    have SG := Six.of hG
    have hzg := heap_lt hG
    clear y0 y1 y2 y3 y4 y5 hG hb HF HC HR HB
    obtain ⟨_, _, _, y3, _, _⟩ := box6 HF2.out
    have g2 := SG.c2
    have g3 := SG.c3
    have f3 := SG.fr 3
    have HS := Lib.hid (SG.set3 (.int .i64 (a2 % 60 + a3 % 60)))
    clear SG
    go_upto_region 2 with fail
    refine AT.wp_region_tail (S := fun w' => w'.cell? ⟨wa.heap.size, 2, none⟩ = some (.int .i64 (a2 % 60)) ∧ w'.cell? ⟨w.heap.size + 1, 3, none⟩ = some (.int .i64 a3)) [6, 7] (by kernel_rfl) ⟨g2, y3⟩ (fun hHeld => ?_)
    refine rgU 0 ?_
    refine rgU 1 ?_
    refine rgU 2 ?_
    refine rgU 3 ?_
    refine AT.wpT_ready (rs := [4]) (by kernel_rfl) (by simp) (AT.AllT.cons rfl (fun K hK => ?_) AT.AllT.nil)
    go_simp
    refine (within74 _ _ _ (by omega) (by omega)).mono ?_
    rintro e w' ⟨rfl, rfl⟩
    go_simp
    refine hK.out _ _ ⟨g2, y3⟩ (fun hHeld => ?_)
    clear hK K
    refine rgU 5 ?_
    refine AT.wpT_ready (rs := [6]) (by kernel_rfl) (by simp) (AT.AllT.end rfl (by kernel_rfl) (fun K hK => ?_) AT.AllT.nil)
    go_simp
    refine hK.out _ _ ?_
    clear hK K
    refine AT.wpT_ready (rs := [7]) (by kernel_rfl) (by simp) (AT.AllT.end rfl (by kernel_rfl) (fun K hK => ?_) AT.AllT.nil)
    go_simp
    refine hK.out _ _ ?_
    clear hK K
    refine AT.wpT_done (by kernel_rfl) ?_ _
    clear hHeld g2 g3 f3 y3
    go_upto_region 3 with fail
    have HSe := Lib.hid (HS.out.keep (w1 := (wd.setCell ⟨wa.heap.size, 3, none⟩ (.int .i64 (a2 % 60 + a3 % 60))).drew) rfl)
    have hbe : But (fun b => b = wa.heap.size) wd (wd.setCell ⟨wa.heap.size, 3, none⟩ (.int .i64 (a2 % 60 + a3 % 60))).drew := ((But.refl (fun b => b = wa.heap.size) wd).setCell (p := ⟨wa.heap.size, 3, none⟩) (.inl rfl) _).drew
    clear HS
    generalize (wd.setCell ⟨wa.heap.size, 3, none⟩ (.int .i64 (a2 % 60 + a3 % 60))).drew = we at *
    have ze := hbe.size
    have HFe := Lib.hid ((hbe.block _ (by omega) (by omega)).trans HF2.out)
    have HCe := Lib.hid ((hbe.block _ (by omega) (by omega)).trans HC2.out)
    have HRe := Lib.hid ((hbe.block _ (by omega) (by omega)).trans HR2.out)
    have HBe := Lib.hid (HB2.out.trans (hbe.to_below (by omega) (fun b e => by omega)))
    clear hbe HF2 HC2 HR2 HB2
    generalize a2 % 60 = e2 at *
    generalize hfe : e2 + a3 % 60 = e3 at *
    clear hfe w1
    obtain ⟨_, y1, _, _, _, _⟩ := box6 HFe.out
    obtain ⟨x0, _, _, _, _, _⟩ := box6 HCe.out
    obtain ⟨g0, g1, _, _, _, _, gf⟩ := HSe.out
    have f1 := gf 1
    clear gf
    go_upto_block 0 with fail
    go_cut [] from 23 to 41 (fun wx => ∃ a : Int, Six wx wa.heap.size (.int .i64 (a0 % 3)) (.int .i64 a) (.int .i64 e2) (.int .i64 e3) (.slice none 0 0) (.slice none 0 0) ∧ But (fun b => b = wa.heap.size) we wx)
    case first =>
      go_wp2_with (first | (go_at_call 74; refine (within74 _ _ _ (by omega) (by omega)).mono ?_; rintro e w' ⟨rfl, rfl⟩) | fail)
      all_goals go_meet
      · exact ⟨a1 % (N : Int), HSe.out.set1 _, (But.refl (fun b => b = wa.heap.size) we).setCell (p := ⟨wa.heap.size, 1, none⟩) (.inl rfl) _⟩
      · exact ⟨a1 % (2 * (N : Int)), HSe.out.set1 _, (But.refl (fun b => b = wa.heap.size) we).setCell (p := ⟨wa.heap.size, 1, none⟩) (.inl rfl) _⟩
      · exact ⟨0, HSe.out, But.refl _ _⟩
    case rest =>
      generalize wc = wv at *
      obtain ⟨a, hS, hbut⟩ := hcut
      have zc := hbut.size
      have HFc := Lib.hid ((hbut.block _ (by omega) (by omega)).trans HFe.out)
      have HRc := Lib.hid ((hbut.block _ (by omega) (by omega)).trans HRe.out)
      have HBc := Lib.hid (HBe.out.trans (hbut.to_below (by omega) (fun b e => by omega)))
      have HSc := Lib.hid hS
      generalize a0 % 3 = e0 at *
      clear x0 y1 g0 g1 f1 HFe HCe HRe HBe HSe hS hbut w2
      have HAc := Lib.hid (acts_low HA.out HBc.out)
      have HVc := Lib.hid (ints_low HV.out HBc.out (ints_lt HV.out) (Nat.le_refl _))
      go_upto_block 1 with fail
      go_cut [6, 7] from 42 to 71 (fun t6 t7 wx => ∃ va : Value, (∃ A L C, va = .slice A L C) ∧ Six wx wa.heap.size (.int .i64 e0) (.int .i64 a) (.int .i64 e2) (.int .i64 e3) va (.slice none 0 0) ∧ But (fun b => b = wa.heap.size) wv wx)
      case first =>
       go_wp2_with fail
       go_loopw [6] (fun t wr => ∃ (k : Nat) (xs : List Value) (va : Value), k ≤ 10 ∧ k ≤ CL ∧ t = .int .i64 k ∧ Six wr wa.heap.size (.int .i64 e0) (.int .i64 a) (.int .i64 e2) (.int .i64 e3) va (.slice none 0 0) ∧ wr.ownsRow wv.heap.size 38 3 va k xs ∧ But (fun b => b = wa.heap.size) wv wr) (fun t _ => 10 - (intOf t).toNat)
       case atStart => exact ⟨0, [], .slice none 0 0, by omega, by omega, rfl, HSc.out, World.ownsRow_nil _ _ _ _, But.refl _ _⟩
       case round =>
         obtain ⟨k, xs, va, hk, hkl, rfl, hS, hown, hbut⟩ := hrel
         have zr := hbut.size
         have HFr := Lib.hid ((hbut.block _ (by have := heap_lt HFc.out; omega) (by omega)).trans HFc.out)
         obtain ⟨_, _, _, _, y4, y5⟩ := box6 HFr.out
         have HSr := Lib.hid hS
         have HO := Lib.hid hown
         have HBu := Lib.hid hbut
         by_cases hlt : k < CL
         · by_cases hk3 : k < 10
           · have lk1 : (k : Int) < (CL : Int) := by omega
             have lk2 : (k : Int) < 10 := by omega
             obtain ⟨b, off, rfl, hbl, h, m, s, c0', c1', c2'⟩ := HAc.out k hlt
             have hbG : b ≠ wa.heap.size := by
               obtain ⟨b', off', e, h1, _⟩ := HA.out k hlt
               injection e with e; injection e with e _; omega
             have c0 := (hbut.cell (p := ⟨b, off + k * 3, none⟩) hbl hbG).trans c0'
             have c1 := (hbut.cell (p := ⟨b, off + k * 3 + 1, none⟩) hbl hbG).trans c1'
             have c2 := (hbut.cell (p := ⟨b, off + k * 3 + 2, none⟩) hbl hbG).trans c2'
             have g4 := hS.c4
             have f4 := hS.fr 4
             clear hS hown hbut c0' c1' c2'
             have lm : min (s.size : Int) 300 = ((min s.size 300 : Nat) : Int) := by omega
             have lm2 : min s.size 300 ≤ s.size := by omega
             go_upto_region 13 with fail
             have hT := heap_alloc_new wr (.cells #[.int .i64 h, .int .i64 m, .string (s.extract 0 (min s.size 300))] 38)
             have hbt : Below wr.heap.size wr (wr.alloc (.cells #[.int .i64 h, .int .i64 m, .string (s.extract 0 (min s.size 300))] 38)) := (Below.refl _ _).alloc (Nat.le_refl _) _
             have g4t := keep_of g4 HSr.out.lt hbt
             have f4t := (hbt.frozen (p := ⟨wa.heap.size, 4, none⟩) HSr.out.lt).trans f4
             have HOt := Lib.hid (HO.out.alloc (.cells #[.int .i64 h, .int .i64 m, .string (s.extract 0 (min s.size 300))] 38))
             clear g4 f4 c0 c1 c2 lm lm2
             generalize wr.alloc (.cells #[.int .i64 h, .int .i64 m, .string (s.extract 0 (min s.size 300))] 38) = wt at *
             generalize s.extract 0 (min s.size 300) = s' at *
             have zt := hbt.size
             have t0 := bcell hT 0
             have t1 := bcell hT 1
             have t2 := bcell hT 2
             change _ = some _ at t0 t1 t2
             have HBt := Lib.hid hbt
             clear hT hbt
             go_wp2_with (at_builtin; refine seq_own 25 38 3 32 (.agg #[.int .i64 0, .int .i64 0, .string ⟨#[]⟩]) Tryz.underlying25 info38 rfl (by decide) rfl _ _ rfl wv.heap.size va k xs rfl (HOt.out.alloc _) wt.heap.size #[.int .i64 h, .int .i64 m, .string s'] rfl (heap_alloc_new wt _) rfl (fun u hu => by simp at hu; rcases hu with rfl | rfl | rfl <;> rfl) (by omega) (by omega) (by simp; omega) ?_)
             intro gg cap w3 hown3 hb3
             have hb3' := ((But.of_below (S := fun b => wv.heap.size ≤ b ∧ va.ownBlock = some b) HBt.out (Nat.le_refl _)).alloc _).trans hb3
             have lGc := HSc.out.lt
             have S3 := HSr.out.keep (hb3'.block wa.heap.size HSr.out.lt (fun e => by omega))
             have n4 := S3.c4
             have hfr3 := S3.fr 4
             have HS3 := Lib.hid (S3.set4 (.slice (some ⟨gg, 0, none⟩) (k + 1) cap))
             have HB3 := Lib.hid hb3'
             have HO3 := Lib.hid hown3
             clear g4t f4t t0 t1 t2 hb3 hb3' S3 hown3
             go_wp2
             go_roundw
             case rel =>
               exact ⟨k + 1, xs ++ [.int .i64 h, .int .i64 m, .string s'], .slice (some ⟨gg, 0, none⟩) (k + 1) cap, by omega, by omega, by go_num, HS3.out, ownsRow_setCell_below HO3.out (show wa.heap.size < _ by omega) _, (But.up HBu.out HB3.out (Nat.le_refl _)).setCell (p := ⟨wa.heap.size, 4, none⟩) (.inl rfl) _⟩
             case measure => simp [intOf]; omega
           · obtain rfl : k = 10 := by omega
             have lk1 : ((10 : Nat) : Int) < (CL : Int) := by omega
             have lk2 : (10 : Int) < (CL : Int) := by omega
             clear hS hown hbut
             go_wp2_with fail
             go_meet
             exact ⟨va, by rcases own_split HO.out with ⟨h1, _⟩ | ⟨g, cap, h1, _⟩ <;> exact ⟨_, _, _, h1⟩, HSr.out, HBu.out⟩
         · have lk1 : ¬ (k : Int) < (CL : Int) := by omega
           clear hS hown hbut
           go_wp2_with fail
           go_meet
           exact ⟨va, by rcases own_split HO.out with ⟨h1, _⟩ | ⟨g, cap, h1, _⟩ <;> exact ⟨_, _, _, h1⟩, HSr.out, HBu.out⟩
      case rest =>
        obtain ⟨va, ⟨DA, DL, DC, rfl⟩, hS, hbut⟩ := hcut
        have zc := hbut.size
        have HFd := Lib.hid ((hbut.block _ (by have := heap_lt HFc.out; omega) (by omega)).trans HFc.out)
        have HRd := Lib.hid ((hbut.block _ (by have := heap_lt HRc.out; omega) (by omega)).trans HRc.out)
        have HBd := Lib.hid (HBc.out.trans (hbut.to_below (by have := HBc.out.size; omega) (fun b e => by omega)))
        have HSd := Lib.hid hS
        have HVd := Lib.hid (ints_low HV.out HBd.out (ints_lt HV.out) (Nat.le_refl _))
        clear HFc HRc HBc HSc HAc HVc hS hbut
        go_upto_block 3 with fail
        go_cut [8] from 72 to 92 (fun t8 wx => ∃ vd : Value, (∃ A L C, vd = .slice A L C) ∧ Six wx wa.heap.size (.int .i64 e0) (.int .i64 a) (.int .i64 e2) (.int .i64 e3) (.slice DA DL DC) vd ∧ But (fun b => b = wa.heap.size) wc wx)
        case first =>
          go_wp2_with fail
          go_loopw [8] (fun t wr => ∃ (k : Nat) (xs : List Value) (vd : Value), k ≤ 10 ∧ k ≤ vs.length ∧ t = .int .i64 k ∧ Six wr wa.heap.size (.int .i64 e0) (.int .i64 a) (.int .i64 e2) (.int .i64 e3) (.slice DA DL DC) vd ∧ wr.ownsRow wc.heap.size 3 1 vd k xs ∧ But (fun b => b = wa.heap.size) wc wr) (fun t _ => 10 - (intOf t).toNat)
          case atStart => exact ⟨0, [], .slice none 0 0, by omega, by omega, rfl, HSd.out, World.ownsRow_nil _ _ _ _, But.refl _ _⟩
          case round =>
            obtain ⟨k, xs, vd, hk, hkl, rfl, hS, hown, hbut⟩ := hrel
            have zr := hbut.size
            have HFr := Lib.hid ((hbut.block _ (by have := heap_lt HFd.out; omega) (by omega)).trans HFd.out)
            obtain ⟨_, _, _, _, _, y5⟩ := box6 HFr.out
            have HSr := Lib.hid hS
            have HO := Lib.hid hown
            have HBu := Lib.hid hbut
            by_cases hlt : k < vs.length
            · by_cases hk3 : k < 10
              · have lk1 : (k : Int) < (vs.length : Int) := by omega
                have lk2 : (k : Int) < 10 := by omega
                obtain ⟨b, off, rfl, hbl, hcell'⟩ := HVd.out k hlt
                have hbG : b ≠ wa.heap.size := by
                  have := ints_lt HV.out b off rfl (by omega); omega
                have hcell := (hbut.cell (p := ⟨b, off + k, none⟩) hbl hbG).trans hcell'
                have hbl2 : b < wr.heap.size := by omega
                have g5 := hS.c5
                have hfr := hS.fr 5
                generalize hz : vs.getD k 0 = z at *
                clear hS hown hbut hcell'
                go_wp2_with fail
                refine AT.wp_region_tail (S := fun w' => w'.cell? ⟨wa.heap.size, 5, none⟩ = some vd ∧ w'.cell? ⟨w.heap.size + 1, 5, none⟩ = some (.slice (some ⟨b, off, none⟩) vs.length VC) ∧ w'.cell? ⟨b, off + k, none⟩ = some (.int .i64 z)) [9, 10] (by kernel_rfl) ⟨g5, y5, hcell⟩ (fun hHeld => ?_)
                refine rgU 0 ?_
                refine rgU 1 ?_
                refine rgU 2 ?_
                refine rgU 3 ?_
                refine rgU 4 ?_
                refine rgU 5 ?_
                refine rgU 6 ?_
                refine AT.wpT_ready (rs := [7]) (by kernel_rfl) (by simp) (AT.AllT.cons rfl (fun K hK => ?_) AT.AllT.nil)
                go_simp
                refine hK.out _ _ ⟨alloc_keep g5, alloc_keep y5, alloc_keep hcell⟩ (fun hHeld => ?_)
                clear hK K
                refine AT.wpT_ready (rs := [8]) (by kernel_rfl) (by simp) (AT.AllT.cons rfl (fun K hK => ?_) AT.AllT.nil)
                refine app_int (by rfl) _ _ (by rfl) wc.heap.size vd k xs (by rfl) (HO.out.drew.alloc _) wr.heap.size z (by rfl) (heap_alloc_new wr.drew _) (by omega) (by simp; omega) ?_
                intro gg cap w3 hown3 hb3
                have hb3' : But (fun x => wc.heap.size ≤ x ∧ vd.ownBlock = some x) wr w3 := (((But.refl (fun x => wc.heap.size ≤ x ∧ vd.ownBlock = some x) wr).drew).alloc _).trans hb3
                have lGe := HSd.out.lt
                have S3 := HSr.out.keep (hb3'.block wa.heap.size HSr.out.lt (fun e => by omega))
                have n5 := S3.c5
                have m5 := (hb3'.cell (p := ⟨w.heap.size + 1, 5, none⟩) (by show w.heap.size + 1 < _; omega) (fun e => by have := e.1; simp only at this; omega)).trans y5
                have mc := (hb3'.cell (p := ⟨b, off + k, none⟩) hbl2 (fun e => by have := e.1; simp only at this; omega)).trans hcell
                have hfr3 := S3.fr 5
                have HS3 := Lib.hid (S3.set5 (.slice (some ⟨gg, 0, none⟩) (k + 1) cap))
                have HB3 := Lib.hid hb3'
                have HO3 := Lib.hid hown3
                clear g5 y5 hcell hb3 hb3' S3 hown3 hfr
                refine hK.out _ _ ⟨n5, m5, mc⟩ (fun hHeld => ?_)
                clear hK K
                try simp only [Act.put, List.getElem_toArray, List.getElem_cons_succ, List.getElem_cons_zero, List.setIfInBounds_toArray, List.set_cons_zero, List.set_cons_succ]
                refine AT.wpT_ready (rs := [9]) (by kernel_rfl) (by simp) (AT.AllT.end rfl (by kernel_rfl) (fun K hK => ?_) AT.AllT.nil)
                go_simp
                refine hK.out _ _ ?_
                clear hK K
                refine AT.wpT_ready (rs := [10]) (by kernel_rfl) (by simp) (AT.AllT.end rfl (by kernel_rfl) (fun K hK => ?_) AT.AllT.nil)
                go_simp
                refine hK.out _ _ ?_
                clear hK K
                refine AT.wpT_done (by kernel_rfl) ?_ _
                clear n5 m5 mc hfr3 hHeld
                go_wp2
                go_roundw
                case rel =>
                  exact ⟨k + 1, xs ++ [.int .i64 z], .slice (some ⟨gg, 0, none⟩) (k + 1) cap, by omega, by omega, by go_num, HS3.out, ownsRow_setCell_below HO3.out (show wa.heap.size < _ by omega) _, (But.up HBu.out HB3.out (Nat.le_refl _)).setCell (p := ⟨wa.heap.size, 5, none⟩) (.inl rfl) _⟩
                case measure => simp [intOf]; omega
              · obtain rfl : k = 10 := by omega
                have lk1 : ((10 : Nat) : Int) < (vs.length : Int) := by omega
                have lk2 : (10 : Int) < (vs.length : Int) := by omega
                clear hS hown hbut
                go_wp2_with fail
                go_meet
                exact ⟨vd, by rcases own_split HO.out with ⟨h1, _⟩ | ⟨g, cap, h1, _⟩ <;> exact ⟨_, _, _, h1⟩, HSr.out, HBu.out⟩
            · have lk1 : ¬ (k : Int) < (vs.length : Int) := by omega
              clear hS hown hbut
              go_wp2_with fail
              go_meet
              exact ⟨vd, by rcases own_split HO.out with ⟨h1, _⟩ | ⟨g, cap, h1, _⟩ <;> exact ⟨_, _, _, h1⟩, HSr.out, HBu.out⟩
        case rest =>
          generalize wc = wy at *
          obtain ⟨vd, ⟨EA, EL, EC, rfl⟩, hS, hbut⟩ := hcut
          have zy := hbut.size
          have HRy := Lib.hid ((hbut.block _ (by have := heap_lt HRd.out; omega) (by omega)).trans HRd.out)
          have HBy := Lib.hid (HBd.out.trans (hbut.to_below (by have := HBd.out.size; omega) (fun b e => by omega)))
          obtain ⟨d0, d1, d2, d3, d4, d5, _⟩ := hS
          have SR := Six.of HRy.out
          have HSW := Lib.hid (SR.all (.int .i64 e0) (.int .i64 a) (.int .i64 e2) (.int .i64 e3) (.slice DA DL DC) (.slice EA EL EC))
          have HBb := Lib.hid (but_all (w := wy) (w.heap.size + 2) (.int .i64 e0) (.int .i64 a) (.int .i64 e2) (.int .i64 e3) (.slice DA DL DC) (.slice EA EL EC))
          obtain ⟨q0, q1, q2, q3, q4, q5, qf⟩ := SR
          have x0 := qf 0
          have x1 := qf 1
          have x2 := qf 2
          have x3 := qf 3
          have x4 := qf 4
          have x5 := qf 5
          clear qf hbut
          go_wp2
          generalize ((((((wy.setCell ⟨w.heap.size + 2, 0, none⟩ (.int .i64 e0)).setCell ⟨w.heap.size + 2, 1, none⟩ (.int .i64 a)).setCell ⟨w.heap.size + 2, 2, none⟩ (.int .i64 e2)).setCell ⟨w.heap.size + 2, 3, none⟩ (.int .i64 e3)).setCell ⟨w.heap.size + 2, 4, none⟩ (.slice DA DL DC)).setCell ⟨w.heap.size + 2, 5, none⟩ (.slice EA EL EC)) = wz at *
          obtain ⟨k0, k1, k2, k3, k4, k5, _⟩ := HSW.out
          refine bodyPost_ret (v := .agg #[.int .i64 e0, .int .i64 a, .int .i64 e2, .int .i64 e3, .slice DA DL DC, .slice EA EL EC]) (by simp [results, Tryz.results40, go_sem, k0, k1, k2, k3, k4, k5]) rfl ?_
          exact ⟨e0, a, e2, e3, DA, DL, DC, EA, EL, EC, rfl, HBy.out.trans (HBb.out.to_below (by have := HBy.out.size; omega) (fun b e => by omega))⟩
end Go.Proofs.YtdbempiompiioaaGreat.C5
