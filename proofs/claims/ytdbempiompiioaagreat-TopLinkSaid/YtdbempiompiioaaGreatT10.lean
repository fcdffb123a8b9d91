/- Streams read as frames, two. Conditions: the bounds stated in each theorem. -/
import Derived.Test.YtdbempiompiioaaGreatT04
import Derived.Test.YtdbempiompiioaaGreatT09
set_option linter.unusedVariables false
set_option linter.unusedSimpArgs false
namespace Go.Proofs.YtdbempiompiioaaGreat.A29
open Go.RowKit A1 A2 A3 A4 A5 A6 A7 A8 A9 A10 A11 A12 A13 A14 A15 A16 A17 A18 A19 A20 A21 A22 A23 A24 A25 A26 A27 A28

theorem items_far {w : World} {A : Option Addr} {l : List (Nat × Nat)} (h : Items w A l) {p : Addr} (hp : ∀ b off, A = some ⟨b, off, none⟩ → b ≠ p.block) (u : Value) : Items (w.setCell p u) A l := fun k hk => by
  obtain ⟨b, off, e, h1, h2, h3⟩ := h k hk
  have hne := hp b off e
  have ne : ∀ o : Nat, p ≠ ⟨b, o, none⟩ := fun o e => hne (by rw [e])
  exact ⟨b, off, e, by simp [World.setCell]; exact h1, (World.cell?_setCell_other _ _ _ _ (ne _)).trans h2, (World.cell?_setCell_other _ _ _ _ (ne _)).trans h3⟩
set_option maxRecDepth 100000 in
set_option maxHeartbeats 4000000 in
theorem Read_yes (N : Nat) (Pi Er G Fi : Int) (PA : Option Addr) (PL PC : Nat) (f : Fr) (w : World) (hf : FrOk N PL f) (hN : N ≤ 12) (hP : PL ≤ 3) :
    Calls Tryz.prog 179 #[.agg #[.int .i64 N, .int .i64 Pi, .int .i64 Er, .int .i64 G, .int .i64 Fi, .slice PA PL PC], .string (textB f)] w (RetFr f w) := by
  have hle : f.echo.length ≤ 100 := by rw [hf.len]; split <;> omega
  have hel := echoL_length f.echo
  have HO := Lib.hid (fun w => crc_Open (bodyL f) w (body_all f) (by unfold bodyL; rw [List.length_append, headL_length]; omega))
  have HBody : Hid (bodyL f = bitsL f.kind 2 ++ (bitsL f.round 16 ++ (bitsL f.slot 6 ++ (itemL (f.pk, f.pv) ++ echoL f.echo)))) := by
    show bodyL f = _
    simp [bodyL, headL, List.append_assoc]
  have HEc := Lib.hid (fun w => hf.echoes hN hP Pi Er G Fi PA PC w)
  have hk4 : f.kind < 4 := by have := hf.k3; omega
  have hr4 : f.round < 65536 := by have := hf.round; omega
  have hs4 : f.slot < 64 := by have := hf.slot; omega
  have hp : f.pk < 4 ∧ f.pv < 256 := by rcases hf.pay with h | h | h <;> simp only [] at h <;> omega
  have HF := Lib.hid hf
  have hbl : (bodyL f).length = 34 + 10 * f.echo.length := by unfold bodyL; rw [List.length_append, headL_length, hel]
  have d1 : decide (((bodyL f).length : Int) < 34) = false := by simp; omega
  have d2 : decide ((bodyL f).length < 34) = false := by simp; omega
  have hl4 : (bodyL f).length ≤ 1100 := by omega
  have HEL := Lib.hid hel
  have HBL := Lib.hid hbl
  have hT : textB f = ⟨(wrapL (bodyL f)).toArray⟩ := rfl
  rw [hT]
  generalize bodyL f = L at *
  clear hf hel hbl hT
  go_enter Tryz.func179, Tryz.ntmps179
  go_wp2_with fail
  refine (HO.out _).mono ?_
  rintro e w1 ⟨rfl, hb1⟩
  have bc : w1.heap[w.heap.size]? = some (.cells #[.int .i64 N, .int .i64 Pi, .int .i64 Er, .int .i64 G, .int .i64 Fi, .slice PA PL PC] 24 (0, 0)) := (hb1.block _ (by simp; omega)).trans ((Below.heap_alloc _ _ _ (by simp)).trans (heap_alloc_new w _))
  have bx : w1.heap[w.heap.size + 1]? = some (.cells #[.int .i64 0, .int .i64 0, .int .i64 0, .int .i64 0, .int .i64 0, .slice none 0 0] 118 (0, 0)) := (hb1.block _ (by simp)).trans (by
    have := heap_alloc_new (w.alloc (.cells #[.int .i64 N, .int .i64 Pi, .int .i64 Er, .int .i64 G, .int .i64 Fi, .slice PA PL PC] 24)) (.cells #[.int .i64 0, .int .i64 0, .int .i64 0, .int .i64 0, .int .i64 0, .slice none 0 0] 118)
    simpa using this)
  have hB1 : Below w.heap.size w w1 := Below.trans (show Below w.heap.size w _ from (by repeat (first | exact Below.refl _ _ | refine Below.drew ?_ | refine below_drewN ?_ _ | refine Below.alloc ?_ (by simp; try omega) _))) (hb1.mono (by simp; omega))
  have hz1 : w.heap.size + 1 < w1.heap.size := by have := hb1.size; simp at this; omega
  have HC1 := Lib.hid bc
  have HX1 := Lib.hid bx
  have HB1 := Lib.hid hB1
  clear bc bx hB1 hb1 HO
  have hlen1 : (bitsL f.round 16 ++ (bitsL f.slot 6 ++ (itemL (f.pk, f.pv) ++ echoL f.echo))).length ≤ 3900 := by simp only [List.length_append, bitsL_length, itemL_length, HEL.out]; omega
  have hlen2 : (bitsL f.slot 6 ++ (itemL (f.pk, f.pv) ++ echoL f.echo)).length ≤ 3900 := by simp only [List.length_append, bitsL_length, itemL_length, HEL.out]; omega
  have hlen3 : (itemL (f.pk, f.pv) ++ echoL f.echo).length ≤ 3900 := by simp only [List.length_append, bitsL_length, itemL_length, HEL.out]; omega
  have hlen4 : (echoL f.echo).length ≤ 3800 := by rw [HEL.out]; omega
  have hR0 : RdAt (w1.alloc (.cells #[.string ⟨L.toArray⟩] 297)) w1.heap.size (bitsL f.kind 2 ++ (bitsL f.round 16 ++ (bitsL f.slot 6 ++ (itemL (f.pk, f.pv) ++ echoL f.echo)))) := by
    rw [← HBody.out]
    exact ⟨Lib.cell_of_heap (heap_alloc_new w1 _) 0, Lib.frozen_of_heap (heap_alloc_new w1 _) 0⟩
  have HR0 := Lib.hid hR0
  clear hR0
  go_wp2_with fail
  refine (next2 w1.heap.size f.kind _ _ HR0.out hk4 hlen1).mono ?_
  rintro e w2 ⟨rfl, hr2, hb2⟩
  have HR2 := Lib.hid hr2
  clear hr2
  go_wp2_with fail
  refine (next16 w1.heap.size f.round _ _ HR2.out hr4 hlen2).mono ?_
  rintro e w3 ⟨rfl, hr3, hb3⟩
  have HR3 := Lib.hid hr3
  clear hr3
  go_wp2_with fail
  refine (next6 w1.heap.size f.slot _ _ HR3.out hs4 hlen3).mono ?_
  rintro e w4 ⟨rfl, hr4', hb4⟩
  have HR4 := Lib.hid hr4'
  clear hr4'
  go_wp2_with fail
  refine (reader_item w1.heap.size f.pk f.pv _ _ HR4.out hp.1 hp.2 hlen4).mono ?_
  rintro e w5 ⟨rfl, hr5, hb5⟩
  have hb15 : But (fun q => q = w1.heap.size) w1 w5 := (But.of_below (show Below w1.heap.size w1 _ from (by repeat (first | exact Below.refl _ _ | refine Below.drew ?_ | refine below_drewN ?_ _ | refine Below.alloc ?_ (by simp; try omega) _))) (Nat.le_refl _)).trans (((hb2.trans hb3).trans hb4).trans hb5)
  have hB5 : Below w.heap.size w w5 := HB1.out.trans (hb15.to_below (by omega) (by rintro q rfl; omega))
  have hz5 : w1.heap.size < w5.heap.size := hr5.lt
  have HC5 := Lib.hid ((hb15.block _ (by omega) (by omega)).trans HC1.out)
  have HX5 := Lib.hid ((hb15.block _ hz1 (by omega)).trans HX1.out)
  have HR5 := Lib.hid hr5
  have HB5 := Lib.hid hB5
  have c0 : w5.cell? ⟨w.heap.size, 0, none⟩ = some (.int .i64 N) := by simp [World.cell?, HC5.out]
  have c1 : w5.cell? ⟨w.heap.size, 1, none⟩ = some (.int .i64 Pi) := by simp [World.cell?, HC5.out]
  have c2 : w5.cell? ⟨w.heap.size, 2, none⟩ = some (.int .i64 Er) := by simp [World.cell?, HC5.out]
  have c3 : w5.cell? ⟨w.heap.size, 3, none⟩ = some (.int .i64 G) := by simp [World.cell?, HC5.out]
  have c4 : w5.cell? ⟨w.heap.size, 4, none⟩ = some (.int .i64 Fi) := by simp [World.cell?, HC5.out]
  have c5 : w5.cell? ⟨w.heap.size, 5, none⟩ = some (.slice PA PL PC) := by simp [World.cell?, HC5.out]
  have r0 : w5.cell? ⟨w1.heap.size, 0, none⟩ = some (.string ⟨(echoL f.echo).toArray⟩) := hr5.cell
  have n0 := World.new_ne w5 _ c0
  have n1 := World.new_ne w5 _ r0
  have ew : IntKind.i64.wrap (10 * (f.echo.length : Int)) = 10 * (f.echo.length : Int) := by rw [IntKind.wrap_i64]; omega
  have e1 : ((echoL f.echo).length != 10 * f.echo.length) = false := by simp [HEL.out]
  have e2 : (((echoL f.echo).length : Int) != 10 * (f.echo.length : Int)) = false := by simp; rw [HEL.out]; omega
  have lW5 : w.heap.size < w5.heap.size := by omega
  generalize hEL : echoL f.echo = EL at *
  have HELe := Lib.hid hEL
  generalize hR : w1.heap.size = R at *
  have hRz : w.heap.size + 1 < R := hz1
  clear hb2 hb3 hb4 hb5 hb15 hr5 hB5 HR0 HR2 HR3 HR4 HX1 HC1 HB1 d1 d2 hlen1 hlen2 hlen3 hEL hR hz1
  go_wp2_with fail
  refine wp_region_held_drew (S := fun w' => w'.cell? ⟨w.heap.size, 0, none⟩ = some (.int .i64 N) ∧ w'.cell? ⟨w.heap.size, 1, none⟩ = some (.int .i64 Pi) ∧ w'.cell? ⟨w.heap.size, 2, none⟩ = some (.int .i64 Er) ∧ w'.cell? ⟨w.heap.size, 3, none⟩ = some (.int .i64 G) ∧ w'.cell? ⟨w.heap.size, 4, none⟩ = some (.int .i64 Fi) ∧ w'.cell? ⟨w.heap.size, 5, none⟩ = some (.slice PA PL PC) ∧ w'.cell? ⟨R, 0, none⟩ = some (.string ⟨EL.toArray⟩) ∧ w'.cell? ⟨w5.heap.size, 0, none⟩ = some (.int .i64 f.kind) ∧ w'.cell? ⟨w5.heap.size, 2, none⟩ = some (.int .i64 f.slot)) (by kernel_rfl) (by go_keep) (fun hHeld => ?_)
  refine rgT 0 ?_
  refine rgT 1 ?_
  refine rgT 2 ?_
  refine rgT 3 ?_
  refine rgT 4 ?_
  refine rgT 5 ?_
  refine rgT 6 ?_
  refine rgT 7 ?_
  refine rgT 8 ?_
  refine rgT 9 ?_
  refine wpAnyH_ready (rs := [10]) (by kernel_rfl) (by simp) (AllReadyH.cons rfl (fun K hK => ?_) AllReadyH.nil)
  go_simp
  refine (HEc.out _).mono ?_
  rintro e w6 ⟨rfl, hb6⟩
  have hq : Below w5.heap.size w5 w6 := Below.trans (show Below w5.heap.size w5 _ from (by repeat (first | exact Below.refl _ _ | refine Below.drew ?_ | refine below_drewN ?_ _ | refine Below.alloc ?_ (by simp; try omega) _))) ⟨hb6.os, hb6.tape, hb6.output, hb6.size, fun q hq => hb6.block q (by simp; omega)⟩
  have hF6 : w6.heap[w5.heap.size]? = some (.cells #[.int .i64 f.kind, .int .i64 f.round, .int .i64 f.slot, .int .i64 f.pk, .int .i64 f.pv, .slice none 0 0] 118 (0, 0)) := (hb6.block _ (by simp)).trans (heap_alloc_new w5 _)
  have hC6 := (hq.block _ lW5).trans HC5.out
  have hX6 := (hq.block _ (by omega)).trans HX5.out
  have hR6 : RdAt w6 R EL := HR5.out.below hq
  have hB6 := HB5.out.trans (hq.mono (by omega))
  have hz6 := heap_lt hF6
  go_simp
  refine hK.out _ _ ⟨by simp [World.cell?, hC6], by simp [World.cell?, hC6], by simp [World.cell?, hC6], by simp [World.cell?, hC6], by simp [World.cell?, hC6], by simp [World.cell?, hC6], hR6.cell, by simp [World.cell?, hF6], by simp [World.cell?, hF6]⟩ (fun hHeld => ?_)
  clear hK K
  refine rgT 11 ?_
  refine rgT 12 ?_
  refine wpAnyH_done (by kernel_rfl) ?_ _
  have HC6 := Lib.hid hC6
  have HX6 := Lib.hid hX6
  have HR6 := Lib.hid hR6
  have HF6 := Lib.hid hF6
  have HB6 := Lib.hid hB6
  clear hHeld hC6 hX6 hR6 hF6 hB6 hb6 hq c0 c1 c2 c3 c4 c5 r0 n0 n1 e1 e2 ew HC5 HX5 HR5 HB5 HEc
  generalize hFb : w5.heap.size = F at *
  have hRF : R < F := by omega
  clear hFb hz5
  go_wp2
  go_loopw [] (fun wr => ∃ (k : Nat) (v : Value), k ≤ f.echo.length ∧ Hid (RdAt wr R (echoL (f.echo.drop k))) ∧ Hid (wr.heap[F]? = some (.cells #[.int .i64 f.kind, .int .i64 f.round, .int .i64 f.slot, .int .i64 f.pk, .int .i64 f.pv, v] 118 (0, 0))) ∧ Hid (wr.heap[w.heap.size]? = some (.cells #[.int .i64 N, .int .i64 Pi, .int .i64 Er, .int .i64 G, .int .i64 Fi, .slice PA PL PC] 24 (0, 0))) ∧ Hid (wr.heap[w.heap.size + 1]? = some (.cells #[.int .i64 0, .int .i64 0, .int .i64 0, .int .i64 0, .int .i64 0, .slice none 0 0] 118 (0, 0))) ∧ Hid (wr.ownsRow (F + 1) 44 2 v k (itemCells (f.echo.take k))) ∧ F < wr.heap.size ∧ Hid (Below w.heap.size w wr)) (fun wr => strLen wr R)
  case atStart => exact ⟨0, _, by omega, by rw [List.drop_zero, HELe.out]; exact HR6.out, HF6.out, HC6.out, HX6.out, World.ownsRow_nil _ _ _ _, hz6, HB6.out⟩
  case round =>
    obtain ⟨k, v, hk, hrd, hfb, hcb, hxb, hown, hzr, hbr⟩ := hrel
    have hm := A27.RdAt.len hrd.out
    clear HR6 HF6 HC6 HX6 HB6
    by_cases hlt : k < f.echo.length
    · have hdr := echo_drop hlt
      have HSN := Lib.hid (cells_snoc hlt)
      have hit := HF.out.each k hlt
      have hrd' : Hid (RdAt wr R (itemL (f.echo.getD k (0, 0)) ++ echoL (f.echo.drop (k + 1)))) := by rw [← hdr]; exact hrd.out
      have hm' : strLen wr R = 10 + (echoL (f.echo.drop (k + 1))).length := by rw [hm, hdr, List.length_append, itemL_length]
      have hl4' : (echoL (f.echo.drop (k + 1))).length ≤ 3800 := by rw [echoL_length, List.length_drop]; omega
      have rc : wr.cell? ⟨R, 0, none⟩ = some (.string ⟨(itemL (f.echo.getD k (0, 0)) ++ echoL (f.echo.drop (k + 1))).toArray⟩) := hrd'.out.cell
      have q1 : (itemL (f.echo.getD k (0, 0)) ++ echoL (f.echo.drop (k + 1))).isEmpty = false := by
        have := itemL_length (f.echo.getD k (0, 0))
        cases hh : itemL (f.echo.getD k (0, 0)) with
        | nil => rw [hh] at this; simp at this
        | cons a r => rfl
      have HM := Lib.hid hm'
      generalize hgl : echoL (f.echo.drop (k + 1)) = LR at *
      have HGL := Lib.hid hgl
      generalize f.echo.getD k (0, 0) = it at *
      obtain ⟨i1, i2⟩ := it
      have hok : i1 < 4 ∧ i2 < 256 := by rcases hit with h | h | h <;> simp only [] at h <;> omega
      have HIt := Lib.hid (fun w' h => reader_item R i1 i2 LR w' h hok.1 hok.2 hl4')
      generalize itemL (i1, i2) ++ LR = LL at *
      have q2 : (LL == []) = false := by cases LL; simp at q1; rfl
      have q3 : ¬ LL = [] := by cases LL; simp at q1; simp
      clear hdr hm hm' hrd hgl hit
      obtain ⟨i0, hi0, hz0, hz1', hz2'⟩ := info_parts CL.info44
      have HI := Lib.hid hi0
      have HZ := Lib.hid (And.intro hz0 (And.intro hz1' hz2'))
      have x5r : wr.cell? ⟨F, 5, none⟩ = some v := by simp [World.cell?, hfb.out]
      clear hi0 hz0 hz1' hz2'
      go_wp2_with fail
      refine wp_region_held_drew (S := fun w' => True) (by kernel_rfl) trivial (fun hHeld => ?_)
      refine rgT 0 ?_
      refine rgT 2 ?_
      refine wpAnyH_ready (rs := [1, 3]) (by kernel_rfl) (by simp) (AllReadyH.cons rfl (fun K hK => ?_) (AllReadyH.cons rfl (fun K hK => ?_) AllReadyH.nil))
      · go_simp
        refine hK.out _ _ trivial (fun hHeld => ?_)
        clear hK K
        refine wpAnyH_ready (rs := [3]) (by kernel_rfl) (by simp) (AllReadyH.cons rfl (fun K hK => ?_) AllReadyH.nil)
        go_simp
        refine (HIt.out _ (by exact ⟨hrd'.out.cell, hrd'.out.free⟩)).mono ?_
        rintro e w2 ⟨rfl, hr2, hb2'⟩
        have hb2 : But (fun q => q = R) wr w2 := ⟨hb2'.os, hb2'.tape, hb2'.output, hb2'.size, hb2'.block⟩
        have hf2 := (hb2.block F hzr (by omega)).trans hfb.out
        have hc2 := (hb2.block w.heap.size (by omega) (by omega)).trans hcb.out
        have hx2 := (hb2.block (w.heap.size + 1) (by omega) (by omega)).trans hxb.out
        have ho2 : w2.ownsRow (F + 1) 44 2 v k (itemCells (f.echo.take k)) := hown.out.kept (row := some R) ⟨hb2.os, hb2.tape, hb2.output, hb2.size, fun q hq hn => hb2.block q hq (fun e => hn (by rw [e]))⟩ (by
          rcases hv : v.ownBlock with _ | q
          · exact .inl rfl
          · refine .inr (fun e => ?_)
            have := ownsRow_block hown.out hv
            injection e with e
            omega)
        have x5 : w2.cell? ⟨F, 5, none⟩ = some v := by simp [World.cell?, hf2]
        have hz2 : F < w2.heap.size := heap_lt hf2
        have hbr2 := hbr.out.trans (hb2.to_below (by omega) (by rintro q rfl; omega))
        have HF2 := Lib.hid hf2
        have HC2 := Lib.hid hc2
        have HX2 := Lib.hid hx2
        have HO2 := Lib.hid ho2
        have HR2 := Lib.hid hr2
        have HBR2 := Lib.hid hbr2
        clear hf2 hc2 hx2 ho2 hr2 hbr2 hb2 hb2'
        go_simp
        refine hK.out _ _ trivial (fun hHeld => ?_)
        clear hK K
        refine wpAnyH_ready (rs := [4]) (by kernel_rfl) (by simp) (AllReadyH.cons rfl (fun K hK => ?_) AllReadyH.nil)
        go_simp
        refine hK.out _ _ trivial (fun hHeld => ?_)
        clear hK K
        refine wpAnyH_ready (rs := [5]) (by kernel_rfl) (by simp) (AllReadyH.cons rfl (fun K hK => ?_) AllReadyH.nil)
        refine step_append_lies _ (by rfl) _ _ _ (by rfl) (F + 1) 44 i0 (.agg #[.int .i64 0, .int .i64 0]) 2 16 Tryz.underlying59 HI.out HZ.out.1 HZ.out.2.1 HZ.out.2.2 rfl (by omega) v k (itemCells (f.echo.take k)) (by rfl) (HO2.out.alloc _) ⟨w2.heap.size, 0, none⟩ 1 1 [.int .i64 i1, .int .i64 i2] (by rfl) (by rfl) (World.news_of_block (cs := #[.int .i64 i1, .int .i64 i2]) (t := 44) (fr := (0, 0)) (heap_alloc_new w2 _)) (by simp [Value.oneCell']) (by omega) (by unfold maxLen; omega) (by omega) (by simp; omega) (w2.heap.size + 1) (by simp) ?_
        intro gg cap w3 hown3 hgrow hat hlt3
        have hne : some F ≠ v.ownBlock := fun e => by have := ownsRow_block HO2.out e.symm; omega
        have hfar : ∀ q o, q < w2.heap.size → q ≤ F → w2.heap[q]? = some o → w3.heap[q]? = some o := fun q o hq hqF ho => (hgrow.block q (by simp; omega) (fun e => by have := ownsRow_block HO2.out e.symm; omega)).trans ((Below.heap_alloc _ _ _ hq).trans ho)
        have hf3 := hfar F _ hz2 (Nat.le_refl _) HF2.out
        have hc3 := hfar w.heap.size _ (by omega) (by omega) HC2.out
        have hx3 := hfar (w.heap.size + 1) _ (by omega) (by omega) HX2.out
        have hr3 : RdAt w3 R LR := by
          have hq : w3.heap[R]? = w2.heap[R]? := (hgrow.block R (by simp; omega) (fun e => by have := ownsRow_block HO2.out e.symm; omega)).trans (Below.heap_alloc _ _ _ (by omega))
          exact ⟨(World.cell?_of_block (w := w2) (a := ⟨R, 0, none⟩) hq).trans HR2.out.cell, (World.frozen?_of_block (w := w2) (a := ⟨R, 0, none⟩) hq).trans HR2.out.free⟩
        have hbr3 : Below w.heap.size w w3 := (HBR2.out.alloc (by omega) (.cells #[.int .i64 i1, .int .i64 i2] 44)).grown hgrow (by simp; omega) (fun q hq => by have := ownsRow_block HO2.out hq; omega)
        have z5 : w3.cell? ⟨F, 5, none⟩ = some v := by simp [World.cell?, hf3]
        have y5 : w3.frozen? ⟨F, 5, none⟩ = false := by simp [World.frozen?, hf3]
        have hz3 : F < w3.heap.size := heap_lt hf3
        have HF3 := Lib.hid hf3
        have HC3 := Lib.hid hc3
        have HX3 := Lib.hid hx3
        have HR3 := Lib.hid hr3
        have HBR3 := Lib.hid hbr3
        have HO3 := Lib.hid hown3
        clear hf3 hc3 hx3 hr3 hbr3 hown3 hfar hgrow hne hat
        refine hK.out _ _ trivial (fun hHeld => ?_)
        clear hK K
        try simp only [Act.put, List.getElem_toArray, List.getElem_cons_succ, List.getElem_cons_zero, List.setIfInBounds_toArray, List.set_cons_zero, List.set_cons_succ]
        refine rgT 6 ?_
        refine wpAnyH_ready (rs := [7]) (by kernel_rfl) (by simp) (AllReadyH.cons rfl (fun K hK => ?_) AllReadyH.nil)
        go_simp
        refine hK.out _ _ trivial (fun hHeld => ?_)
        clear hK K
        refine wpAnyH_done (by kernel_rfl) ?_ _
        have hne4 : ∀ q o, q ≠ F → (⟨F, 5, none⟩ : Addr) ≠ ⟨q, o, none⟩ := fun q o h e => by injection e with e _; exact h e.symm
        go_wp2
        go_roundw
        case rel =>
          refine ⟨k + 1, .slice (some ⟨gg, 0, none⟩) (k + 1) cap, by omega, ?_, ?_, ?_, ?_, ?_, (by simp [World.setCell]; exact hz3), HBR3.out.setCell (p := ⟨F, 5, none⟩) (by simp; omega) _⟩
          · rw [HGL.out]
            exact ⟨(World.cell?_setCell_other _ _ _ _ (hne4 R 0 (by omega))).trans HR3.out.cell, by rw [World.frozen?_setCell]; exact HR3.out.free⟩
          · show (World.setCell _ _ _).heap[F]? = _
            simp [World.setCell, Array.getElem?_modify, HF3.out]
          · exact (Below.heap_setCell _ _ _ _ (by simp; omega)).trans HC3.out
          · exact (Below.heap_setCell _ _ _ _ (by simp; omega)).trans HX3.out
          · rw [HSN.out]
            exact ownsRow_setCell_below HO3.out (by simp) _
        case measure =>
          rw [HM.out]
          have h5 : strLen (w3.setCell ⟨F, 5, none⟩ (.slice (some ⟨gg, 0, none⟩) (k + 1) cap)) R = LR.length := A27.RdAt.len ⟨(World.cell?_setCell_other _ _ _ _ (hne4 R 0 (by omega))).trans HR3.out.cell, by rw [World.frozen?_setCell]; exact HR3.out.free⟩
          rw [h5]
          omega
      · go_simp
        refine (HIt.out _ (by exact ⟨hrd'.out.cell, hrd'.out.free⟩)).mono ?_
        rintro e w2 ⟨rfl, hr2, hb2'⟩
        have hb2 : But (fun q => q = R) wr w2 := ⟨hb2'.os, hb2'.tape, hb2'.output, hb2'.size, hb2'.block⟩
        have hf2 := (hb2.block F hzr (by omega)).trans hfb.out
        have hc2 := (hb2.block w.heap.size (by omega) (by omega)).trans hcb.out
        have hx2 := (hb2.block (w.heap.size + 1) (by omega) (by omega)).trans hxb.out
        have ho2 : w2.ownsRow (F + 1) 44 2 v k (itemCells (f.echo.take k)) := hown.out.kept (row := some R) ⟨hb2.os, hb2.tape, hb2.output, hb2.size, fun q hq hn => hb2.block q hq (fun e => hn (by rw [e]))⟩ (by
          rcases hv : v.ownBlock with _ | q
          · exact .inl rfl
          · refine .inr (fun e => ?_)
            have := ownsRow_block hown.out hv
            injection e with e
            omega)
        have x5 : w2.cell? ⟨F, 5, none⟩ = some v := by simp [World.cell?, hf2]
        have hz2 : F < w2.heap.size := heap_lt hf2
        have hbr2 := hbr.out.trans (hb2.to_below (by omega) (by rintro q rfl; omega))
        have HF2 := Lib.hid hf2
        have HC2 := Lib.hid hc2
        have HX2 := Lib.hid hx2
        have HO2 := Lib.hid ho2
        have HR2 := Lib.hid hr2
        have HBR2 := Lib.hid hbr2
        clear hf2 hc2 hx2 ho2 hr2 hbr2 hb2 hb2'
        go_simp
        refine hK.out _ _ trivial (fun hHeld => ?_)
        clear hK K
        refine wpAnyH_ready (rs := [1, 4]) (by kernel_rfl) (by simp) (AllReadyH.cons rfl (fun K hK => ?_) (AllReadyH.cons rfl (fun K hK => ?_) AllReadyH.nil))
        · go_simp
          refine hK.out _ _ trivial (fun hHeld => ?_)
          clear hK K
          refine wpAnyH_ready (rs := [4]) (by kernel_rfl) (by simp) (AllReadyH.cons rfl (fun K hK => ?_) AllReadyH.nil)
          go_simp
          refine hK.out _ _ trivial (fun hHeld => ?_)
          clear hK K
          refine wpAnyH_ready (rs := [5]) (by kernel_rfl) (by simp) (AllReadyH.cons rfl (fun K hK => ?_) AllReadyH.nil)
          refine step_append_lies _ (by rfl) _ _ _ (by rfl) (F + 1) 44 i0 (.agg #[.int .i64 0, .int .i64 0]) 2 16 Tryz.underlying59 HI.out HZ.out.1 HZ.out.2.1 HZ.out.2.2 rfl (by omega) v k (itemCells (f.echo.take k)) (by rfl) (HO2.out.alloc _) ⟨w2.heap.size, 0, none⟩ 1 1 [.int .i64 i1, .int .i64 i2] (by rfl) (by rfl) (World.news_of_block (cs := #[.int .i64 i1, .int .i64 i2]) (t := 44) (fr := (0, 0)) (heap_alloc_new w2 _)) (by simp [Value.oneCell']) (by omega) (by unfold maxLen; omega) (by omega) (by simp; omega) (w2.heap.size + 1) (by simp) ?_
          intro gg cap w3 hown3 hgrow hat hlt3
          have hne : some F ≠ v.ownBlock := fun e => by have := ownsRow_block HO2.out e.symm; omega
          have hfar : ∀ q o, q < w2.heap.size → q ≤ F → w2.heap[q]? = some o → w3.heap[q]? = some o := fun q o hq hqF ho => (hgrow.block q (by simp; omega) (fun e => by have := ownsRow_block HO2.out e.symm; omega)).trans ((Below.heap_alloc _ _ _ hq).trans ho)
          have hf3 := hfar F _ hz2 (Nat.le_refl _) HF2.out
          have hc3 := hfar w.heap.size _ (by omega) (by omega) HC2.out
          have hx3 := hfar (w.heap.size + 1) _ (by omega) (by omega) HX2.out
          have hr3 : RdAt w3 R LR := by
            have hq : w3.heap[R]? = w2.heap[R]? := (hgrow.block R (by simp; omega) (fun e => by have := ownsRow_block HO2.out e.symm; omega)).trans (Below.heap_alloc _ _ _ (by omega))
            exact ⟨(World.cell?_of_block (w := w2) (a := ⟨R, 0, none⟩) hq).trans HR2.out.cell, (World.frozen?_of_block (w := w2) (a := ⟨R, 0, none⟩) hq).trans HR2.out.free⟩
          have hbr3 : Below w.heap.size w w3 := (HBR2.out.alloc (by omega) (.cells #[.int .i64 i1, .int .i64 i2] 44)).grown hgrow (by simp; omega) (fun q hq => by have := ownsRow_block HO2.out hq; omega)
          have z5 : w3.cell? ⟨F, 5, none⟩ = some v := by simp [World.cell?, hf3]
          have y5 : w3.frozen? ⟨F, 5, none⟩ = false := by simp [World.frozen?, hf3]
          have hz3 : F < w3.heap.size := heap_lt hf3
          have HF3 := Lib.hid hf3
          have HC3 := Lib.hid hc3
          have HX3 := Lib.hid hx3
          have HR3 := Lib.hid hr3
          have HBR3 := Lib.hid hbr3
          have HO3 := Lib.hid hown3
          clear hf3 hc3 hx3 hr3 hbr3 hown3 hfar hgrow hne hat
          refine hK.out _ _ trivial (fun hHeld => ?_)
          clear hK K
          try simp only [Act.put, List.getElem_toArray, List.getElem_cons_succ, List.getElem_cons_zero, List.setIfInBounds_toArray, List.set_cons_zero, List.set_cons_succ]
          refine rgT 6 ?_
          refine wpAnyH_ready (rs := [7]) (by kernel_rfl) (by simp) (AllReadyH.cons rfl (fun K hK => ?_) AllReadyH.nil)
          go_simp
          refine hK.out _ _ trivial (fun hHeld => ?_)
          clear hK K
          refine wpAnyH_done (by kernel_rfl) ?_ _
          have hne4 : ∀ q o, q ≠ F → (⟨F, 5, none⟩ : Addr) ≠ ⟨q, o, none⟩ := fun q o h e => by injection e with e _; exact h e.symm
          go_wp2
          go_roundw
          case rel =>
            refine ⟨k + 1, .slice (some ⟨gg, 0, none⟩) (k + 1) cap, by omega, ?_, ?_, ?_, ?_, ?_, (by simp [World.setCell]; exact hz3), HBR3.out.setCell (p := ⟨F, 5, none⟩) (by simp; omega) _⟩
            · rw [HGL.out]
              exact ⟨(World.cell?_setCell_other _ _ _ _ (hne4 R 0 (by omega))).trans HR3.out.cell, by rw [World.frozen?_setCell]; exact HR3.out.free⟩
            · show (World.setCell _ _ _).heap[F]? = _
              simp [World.setCell, Array.getElem?_modify, HF3.out]
            · exact (Below.heap_setCell _ _ _ _ (by simp; omega)).trans HC3.out
            · exact (Below.heap_setCell _ _ _ _ (by simp; omega)).trans HX3.out
            · rw [HSN.out]
              exact ownsRow_setCell_below HO3.out (by simp) _
          case measure =>
            rw [HM.out]
            have h5 : strLen (w3.setCell ⟨F, 5, none⟩ (.slice (some ⟨gg, 0, none⟩) (k + 1) cap)) R = LR.length := A27.RdAt.len ⟨(World.cell?_setCell_other _ _ _ _ (hne4 R 0 (by omega))).trans HR3.out.cell, by rw [World.frozen?_setCell]; exact HR3.out.free⟩
            rw [h5]
            omega
        · go_simp
          refine hK.out _ _ trivial (fun hHeld => ?_)
          clear hK K
          have x6 : (w2.alloc (.cells #[.int .i64 i1, .int .i64 i2] 44)).cell? ⟨F, 5, none⟩ = some v := (World.cell?_alloc_lt _ _ _ hz2).trans x5
          refine wpAnyH_ready (rs := [1]) (by kernel_rfl) (by simp) (AllReadyH.cons rfl (fun K hK => ?_) AllReadyH.nil)
          go_simp
          refine hK.out _ _ trivial (fun hHeld => ?_)
          clear hK K
          refine wpAnyH_ready (rs := [5]) (by kernel_rfl) (by simp) (AllReadyH.cons rfl (fun K hK => ?_) AllReadyH.nil)
          refine step_append_lies _ (by rfl) _ _ _ (by rfl) (F + 1) 44 i0 (.agg #[.int .i64 0, .int .i64 0]) 2 16 Tryz.underlying59 HI.out HZ.out.1 HZ.out.2.1 HZ.out.2.2 rfl (by omega) v k (itemCells (f.echo.take k)) (by rfl) (HO2.out.alloc _) ⟨w2.heap.size, 0, none⟩ 1 1 [.int .i64 i1, .int .i64 i2] (by rfl) (by rfl) (World.news_of_block (cs := #[.int .i64 i1, .int .i64 i2]) (t := 44) (fr := (0, 0)) (heap_alloc_new w2 _)) (by simp [Value.oneCell']) (by omega) (by unfold maxLen; omega) (by omega) (by simp; omega) (w2.heap.size + 1) (by simp) ?_
          intro gg cap w3 hown3 hgrow hat hlt3
          have hne : some F ≠ v.ownBlock := fun e => by have := ownsRow_block HO2.out e.symm; omega
          have hfar : ∀ q o, q < w2.heap.size → q ≤ F → w2.heap[q]? = some o → w3.heap[q]? = some o := fun q o hq hqF ho => (hgrow.block q (by simp; omega) (fun e => by have := ownsRow_block HO2.out e.symm; omega)).trans ((Below.heap_alloc _ _ _ hq).trans ho)
          have hf3 := hfar F _ hz2 (Nat.le_refl _) HF2.out
          have hc3 := hfar w.heap.size _ (by omega) (by omega) HC2.out
          have hx3 := hfar (w.heap.size + 1) _ (by omega) (by omega) HX2.out
          have hr3 : RdAt w3 R LR := by
            have hq : w3.heap[R]? = w2.heap[R]? := (hgrow.block R (by simp; omega) (fun e => by have := ownsRow_block HO2.out e.symm; omega)).trans (Below.heap_alloc _ _ _ (by omega))
            exact ⟨(World.cell?_of_block (w := w2) (a := ⟨R, 0, none⟩) hq).trans HR2.out.cell, (World.frozen?_of_block (w := w2) (a := ⟨R, 0, none⟩) hq).trans HR2.out.free⟩
          have hbr3 : Below w.heap.size w w3 := (HBR2.out.alloc (by omega) (.cells #[.int .i64 i1, .int .i64 i2] 44)).grown hgrow (by simp; omega) (fun q hq => by have := ownsRow_block HO2.out hq; omega)
          have z5 : w3.cell? ⟨F, 5, none⟩ = some v := by simp [World.cell?, hf3]
          have y5 : w3.frozen? ⟨F, 5, none⟩ = false := by simp [World.frozen?, hf3]
          have hz3 : F < w3.heap.size := heap_lt hf3
          have HF3 := Lib.hid hf3
          have HC3 := Lib.hid hc3
          have HX3 := Lib.hid hx3
          have HR3 := Lib.hid hr3
          have HBR3 := Lib.hid hbr3
          have HO3 := Lib.hid hown3
          clear hf3 hc3 hx3 hr3 hbr3 hown3 hfar hgrow hne hat
          refine hK.out _ _ trivial (fun hHeld => ?_)
          clear hK K
          try simp only [Act.put, List.getElem_toArray, List.getElem_cons_succ, List.getElem_cons_zero, List.setIfInBounds_toArray, List.set_cons_zero, List.set_cons_succ]
          refine rgT 6 ?_
          refine wpAnyH_ready (rs := [7]) (by kernel_rfl) (by simp) (AllReadyH.cons rfl (fun K hK => ?_) AllReadyH.nil)
          go_simp
          refine hK.out _ _ trivial (fun hHeld => ?_)
          clear hK K
          refine wpAnyH_done (by kernel_rfl) ?_ _
          have hne4 : ∀ q o, q ≠ F → (⟨F, 5, none⟩ : Addr) ≠ ⟨q, o, none⟩ := fun q o h e => by injection e with e _; exact h e.symm
          go_wp2
          go_roundw
          case rel =>
            refine ⟨k + 1, .slice (some ⟨gg, 0, none⟩) (k + 1) cap, by omega, ?_, ?_, ?_, ?_, ?_, (by simp [World.setCell]; exact hz3), HBR3.out.setCell (p := ⟨F, 5, none⟩) (by simp; omega) _⟩
            · rw [HGL.out]
              exact ⟨(World.cell?_setCell_other _ _ _ _ (hne4 R 0 (by omega))).trans HR3.out.cell, by rw [World.frozen?_setCell]; exact HR3.out.free⟩
            · show (World.setCell _ _ _).heap[F]? = _
              simp [World.setCell, Array.getElem?_modify, HF3.out]
            · exact (Below.heap_setCell _ _ _ _ (by simp; omega)).trans HC3.out
            · exact (Below.heap_setCell _ _ _ _ (by simp; omega)).trans HX3.out
            · rw [HSN.out]
              exact ownsRow_setCell_below HO3.out (by simp) _
          case measure =>
            rw [HM.out]
            have h5 : strLen (w3.setCell ⟨F, 5, none⟩ (.slice (some ⟨gg, 0, none⟩) (k + 1) cap)) R = LR.length := A27.RdAt.len ⟨(World.cell?_setCell_other _ _ _ _ (hne4 R 0 (by omega))).trans HR3.out.cell, by rw [World.frozen?_setCell]; exact HR3.out.free⟩
            rw [h5]
            omega
    · obtain rfl : k = f.echo.length := by omega
      have hrd0 : wr.cell? ⟨R, 0, none⟩ = some (.string ⟨#[]⟩) := by
        have := hrd.out.cell
        rw [List.drop_length] at this
        exact this
      have hown0 : wr.ownsRow (F + 1) 44 2 v f.echo.length (itemCells f.echo) := by
        have := hown.out
        rwa [List.take_length] at this
      obtain ⟨A, C, rfl, hI, hle2, hnone, hbase⟩ := items_of_own hown0
      have x0 : wr.cell? ⟨F, 0, none⟩ = some (.int .i64 f.kind) := by simp [World.cell?, hfb.out]
      have x1 : wr.cell? ⟨F, 1, none⟩ = some (.int .i64 f.round) := by simp [World.cell?, hfb.out]
      have x2 : wr.cell? ⟨F, 2, none⟩ = some (.int .i64 f.slot) := by simp [World.cell?, hfb.out]
      have x3 : wr.cell? ⟨F, 3, none⟩ = some (.int .i64 f.pk) := by simp [World.cell?, hfb.out]
      have x4 : wr.cell? ⟨F, 4, none⟩ = some (.int .i64 f.pv) := by simp [World.cell?, hfb.out]
      have x5 : wr.cell? ⟨F, 5, none⟩ = some (.slice A f.echo.length C) := by simp [World.cell?, hfb.out]
      have c0 : wr.cell? ⟨w.heap.size, 0, none⟩ = some (.int .i64 N) := by simp [World.cell?, hcb.out]
      have c1 : wr.cell? ⟨w.heap.size, 1, none⟩ = some (.int .i64 Pi) := by simp [World.cell?, hcb.out]
      have c2 : wr.cell? ⟨w.heap.size, 2, none⟩ = some (.int .i64 Er) := by simp [World.cell?, hcb.out]
      have c3 : wr.cell? ⟨w.heap.size, 3, none⟩ = some (.int .i64 G) := by simp [World.cell?, hcb.out]
      have c4 : wr.cell? ⟨w.heap.size, 4, none⟩ = some (.int .i64 Fi) := by simp [World.cell?, hcb.out]
      have c5 : wr.cell? ⟨w.heap.size, 5, none⟩ = some (.slice PA PL PC) := by simp [World.cell?, hcb.out]
      have HCh := Lib.hid (frame_Check N Pi Er G Fi PA PL PC f A C wr HF.out hN hP hI)
      have HI := Lib.hid hI
      have HN := Lib.hid hnone
      have HBa := Lib.hid hbase
      have HOw := Lib.hid hown0
      clear hI hnone hbase hown0 hown hrd hm hle2
      go_wp2_with fail
      refine HCh.out.mono ?_
      rintro e w2 ⟨rfl, hb2⟩
      have hf2 := (hb2.block _ hzr).trans hfb.out
      have hx2 := (hb2.block (w.heap.size + 1) (by omega)).trans hxb.out
      have hbr2 := hbr.out.trans (hb2.mono (by omega))
      have hI2 := HI.out.below hb2
      have hz2 := heap_lt hf2
      have x5' : w2.cell? ⟨F, 5, none⟩ = some (.slice A f.echo.length C) := by simp [World.cell?, hf2]
      have hclone : Calls Tryz.prog 199 #[.slice A f.echo.length C] w2 fun e w' => ∃ v, e = .returned v ∧ w'.ownsRow w2.heap.size 44 2 v f.echo.length (itemCells f.echo) ∧ Below w2.heap.size w2 w' := by
        cases A with
        | none =>
          obtain ⟨hv, hl0⟩ := HN.out rfl
          refine (CL.Clone199_nil _ _ w2).mono ?_
          rintro e w' ⟨rfl, rfl⟩
          exact ⟨_, rfl, by rw [hl0]; exact World.ownsRow_nil _ _ _ _, Below.refl _ _⟩
        | some a =>
          obtain ⟨b, o, sp⟩ := a
          by_cases hl0 : f.echo.length = 0
          · have hnil : f.echo = [] := List.length_eq_zero_iff.1 hl0
            rcases HOw.out.2 with ⟨h1, _⟩ | ⟨g, cap, cur, h1, _⟩
            · cases h1
            · cases h1
              refine (CL.Clone199 b 0 f.echo.length C [] w2 (by rw [hl0]; rfl) (by omega) (fun j u hj => by cases hj) (fun u hu => by cases hu)).mono ?_
              rintro e w' ⟨v', rfl, ho, _, hb'⟩
              exact ⟨v', rfl, by rw [hnil]; rw [hnil] at ho; exact ho, hb'⟩
          · obtain ⟨b', off', e', hbl, _, _⟩ := HI.out 0 (by omega)
            cases e'
            obtain ⟨rfl, hb0, hb1⟩ := HBa.out b o rfl
            refine (CL.Clone199 b 0 f.echo.length C (itemCells f.echo) w2 (itemCells_length _) (by omega) (fun j u hj => ?_) (itemCells_one _)).mono ?_
            · have := World.ownsRow.cells HOw.out (g := b) rfl j u hj
              rw [Nat.zero_add]
              refine (hb2.cell (p := ⟨b, j, none⟩) hb1).trans ?_
              simpa [Addr.add_lit] using this
            · rintro e w' ⟨v', rfl, ho, _, hb'⟩
              exact ⟨v', rfl, ho, hb'⟩
      have HClone := Lib.hid hclone
      have HF2 := Lib.hid hf2
      have HX2 := Lib.hid hx2
      have HB2 := Lib.hid hbr2
      clear hclone hf2 hx2 hbr2 hI2 x0 x1 x2 x3 x4 x5 c0 c1 c2 c3 c4 c5 hrd0 hb2
      go_wp2_with fail
      refine HClone.out.mono ?_
      rintro e w3 ⟨v3, rfl, ho3, hb3⟩
      obtain ⟨A3, C3, rfl, hI3, _, _, hbase3⟩ := items_of_own ho3
      have hA3 : ∀ b off, A3 = some ⟨b, off, none⟩ → w2.heap.size ≤ b := fun b off e => (hbase3 b off e).2.1
      have HA3 := Lib.hid hA3
      clear hbase3 hA3
      have hf3 := (hb3.block _ hz2).trans HF2.out
      have hx3 := (hb3.block (w.heap.size + 1) (by omega)).trans HX2.out
      have HB3 := Lib.hid (HB2.out.trans (hb3.mono (by omega)))
      have y0 : w3.cell? ⟨F, 0, none⟩ = some (.int .i64 f.kind) := by simp [World.cell?, hf3]
      have y1 : w3.cell? ⟨F, 1, none⟩ = some (.int .i64 f.round) := by simp [World.cell?, hf3]
      have y2 : w3.cell? ⟨F, 2, none⟩ = some (.int .i64 f.slot) := by simp [World.cell?, hf3]
      have y3 : w3.cell? ⟨F, 3, none⟩ = some (.int .i64 f.pk) := by simp [World.cell?, hf3]
      have y4 : w3.cell? ⟨F, 4, none⟩ = some (.int .i64 f.pv) := by simp [World.cell?, hf3]
      have y5 : w3.cell? ⟨F, 5, none⟩ = some (.slice A f.echo.length C) := by simp [World.cell?, hf3]
      have yf : w3.frozen? ⟨F, 5, none⟩ = false := by simp [World.frozen?, hf3]
      have u0 : w3.cell? ⟨w.heap.size + 1, 0, none⟩ = some (.int .i64 0) := by simp [World.cell?, hx3]
      have u1 : w3.cell? ⟨w.heap.size + 1, 1, none⟩ = some (.int .i64 0) := by simp [World.cell?, hx3]
      have u2 : w3.cell? ⟨w.heap.size + 1, 2, none⟩ = some (.int .i64 0) := by simp [World.cell?, hx3]
      have u3 : w3.cell? ⟨w.heap.size + 1, 3, none⟩ = some (.int .i64 0) := by simp [World.cell?, hx3]
      have u4 : w3.cell? ⟨w.heap.size + 1, 4, none⟩ = some (.int .i64 0) := by simp [World.cell?, hx3]
      have u5 : w3.cell? ⟨w.heap.size + 1, 5, none⟩ = some (.slice none 0 0) := by simp [World.cell?, hx3]
      have uf : ∀ o, w3.frozen? ⟨w.heap.size + 1, o, none⟩ = false := fun o => by simp [World.frozen?, hx3]
      have nFX : F ≠ w.heap.size + 1 := by omega
      have nXF : w.heap.size + 1 ≠ F := by omega
      have HI3 := Lib.hid hI3
      have HO3 := Lib.hid ho3
      have hz3 : F < w3.heap.size := heap_lt hf3
      have hz23 := hb3.size
      clear hI3 ho3 hf3 hx3 hb3 x5'
      go_wp2
      refine bodyPost_ret (v := .tuple #[.agg #[.int .i64 f.kind, .int .i64 f.round, .int .i64 f.slot, .int .i64 f.pk, .int .i64 f.pv, .slice A3 f.echo.length C3], .int .i64 0]) (by simp [results, Tryz.results179, go_sem, u0, u1, u2, u3, u4, u5, nFX, nXF]) rfl ⟨A3, C3, rfl, ?_, fun b off e => by have := HA3.out b off e; omega, ?_⟩
      · have far : ∀ {W : World} (p : Addr) (u : Value), p.block < w2.heap.size → Items W A3 f.echo → Items (W.setCell p u) A3 f.echo := fun p u hp h => items_far h (fun b off e => by have := HA3.out b off e; omega) u
        refine far _ _ (by first | (simp; done) | (simp; omega)) ?_
        refine far _ _ (by first | (simp; done) | (simp; omega)) ?_
        refine far _ _ (by first | (simp; done) | (simp; omega)) ?_
        refine far _ _ (by first | (simp; done) | (simp; omega)) ?_
        refine far _ _ (by first | (simp; done) | (simp; omega)) ?_
        refine far _ _ (by first | (simp; done) | (simp; omega)) ?_
        refine far _ _ (by first | (simp; done) | (simp; omega)) ?_
        exact HI3.out
      · refine Below.setCell ?_ (by first | (simp; done) | (simp; omega)) _
        refine Below.setCell ?_ (by first | (simp; done) | (simp; omega)) _
        refine Below.setCell ?_ (by first | (simp; done) | (simp; omega)) _
        refine Below.setCell ?_ (by first | (simp; done) | (simp; omega)) _
        refine Below.setCell ?_ (by first | (simp; done) | (simp; omega)) _
        refine Below.setCell ?_ (by first | (simp; done) | (simp; omega)) _
        refine Below.setCell ?_ (by first | (simp; done) | (simp; omega)) _
        exact HB3.out
end Go.Proofs.YtdbempiompiioaaGreat.A29
