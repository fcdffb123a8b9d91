/- Streams that are whole, and opened. A frame that may be is found so. A frame that may be is found so, two. Items in a row of the call's own; how long a reader's bits are. Plain laws on memory. Streams read as frames. Conditions: the bounds stated in each theorem. -/
import Derived.Test.YtdbempiompiioaaGreatT04
import Derived.Test.YtdbempiompiioaaGreatT08
import Derived.Deep.AppendLies
set_option linter.unusedVariables false
set_option linter.unusedSimpArgs false
namespace Go.Proofs.YtdbempiompiioaaGreat.A24
open Go.RowKit A1 A2 A3 A4 A5 A6 A7 A8 A9 A10 A11 A12 A13 A14 A15 A16 A17 A18 A19 A20 A21 A22 A23

theorem wrapL_length (l : List UInt8) : (wrapL l).length = l.length + 17 := by simp [wrapL, bitsL_length]
theorem wrap_strm {l : List UInt8} (h : AllBits l) (hl : l.length ≤ 3900) : Strm ⟨(wrapL l).toArray⟩ := by
  have hsz : (⟨(wrapL l).toArray⟩ : ByteArray).size = l.length + 17 := wrapL_length l
  refine ⟨by rw [hsz]; omega, fun i hi => ?_⟩
  have hi' : i < l.length + 17 := by rw [← hsz]; exact hi
  have he : (⟨(wrapL l).toArray⟩ : ByteArray)[i]'hi = (wrapL l)[i]'(by rw [wrapL_length]; exact hi') := rfl
  rw [he]
  have hb : (l ++ bitsL (sumL l) 16).length = l.length + 16 := by simp [bitsL_length]
  by_cases hlt : i < l.length + 16
  · have : (wrapL l)[i]'(by rw [wrapL_length]; exact hi') = (l ++ bitsL (sumL l) 16)[i]'(by rw [hb]; exact hlt) := List.getElem_append_left _
    rw [this]
    rcases (h.app (bits_all _ _)) _ (List.getElem_mem (show i < (l ++ bitsL (sumL l) 16).length by rw [hb]; exact hlt)) with h1 | h1
    · exact .inl h1
    · exact .inr (.inl h1)
  · have e : i = l.length + 16 := by omega
    subst e
    have : (wrapL l)[l.length + 16]'(by rw [wrapL_length]; exact hi') = 35 := by
      unfold wrapL
      rw [List.getElem_append_right (by rw [hb]; exact Nat.le_refl _)]
      simp
    rw [this]
    exact .inr (.inr ⟨rfl, by rw [hsz]⟩)
theorem wrap_tail (l : List UInt8) : Lib.hasSuffix (wrapL l) [35] = true := by
  unfold Lib.hasSuffix
  rw [List.isSuffixOf_iff_suffix]
  exact ⟨l ++ bitsL (sumL l) 16, rfl⟩
set_option maxRecDepth 100000 in
theorem Whole_yes (s : ByteArray) (w : World) (hs : Strm s) (ht : Lib.hasSuffix s.data.toList [35] = true) :
    Calls Tryz.prog 211 #[.string s] w fun e w' => e = .returned (.bool true) ∧ Below w.heap.size w w' := by
  have h4 := hs.1
  have H1 := Lib.hid (fun w => Tryz.strings_HasSuffix s ⟨#[35]⟩ w (by omega))
  have hr : Lib.hasSuffix s.data.toList (⟨#[35]⟩ : ByteArray).data.toList = true := ht
  rw [hr] at H1
  have H2 := Lib.hid (fun w => sym_Clean s w hs)
  clear hs ht hr
  go_enter Tryz.func211, Tryz.ntmps211
  go_wp2_with fail
  refine (H1.out _).mono ?_
  rintro e w1 ⟨rfl, hw1⟩
  subst hw1
  go_wp2_with fail
  refine (H2.out _).mono ?_
  rintro e w2 ⟨rfl, hb2⟩
  go_wp2
  go_ret
  exact ⟨by first | rfl | simp, hb2⟩
set_option maxRecDepth 100000 in
theorem Whole_no (s : ByteArray) (w : World) (h4 : s.size ≤ 4000) (ht : Lib.hasSuffix s.data.toList [35] = false) :
    Calls Tryz.prog 211 #[.string s] w fun e w' => e = .returned (.bool false) ∧ Below w.heap.size w w' := by
  have H1 := Lib.hid (fun w => Tryz.strings_HasSuffix s ⟨#[35]⟩ w (by omega))
  have hr : Lib.hasSuffix s.data.toList (⟨#[35]⟩ : ByteArray).data.toList = false := ht
  rw [hr] at H1
  clear ht hr
  go_enter Tryz.func211, Tryz.ntmps211
  go_wp2_with fail
  refine (H1.out _).mono ?_
  rintro e w1 ⟨rfl, hw1⟩
  subst hw1
  go_wp2
  go_ret
  exact ⟨by first | rfl | simp, Below.refl _ _⟩
set_option maxRecDepth 100000 in
theorem Open_no (s : ByteArray) (w : World) (h4 : s.size ≤ 4000) (ht : Lib.hasSuffix s.data.toList [35] = false) :
    Calls Tryz.prog 194 #[.string s] w fun e w' => e = .returned (.tuple #[.string ⟨#[]⟩, .int .i64 4]) ∧ Below w.heap.size w w' := by
  have H := Lib.hid (fun w => Whole_no s w h4 ht)
  clear ht
  go_enter Tryz.func194, Tryz.ntmps194
  go_wp2_with fail
  refine (H.out _).mono ?_
  rintro e w1 ⟨rfl, hb1⟩
  go_wp2
  go_ret2
  exact ⟨rfl, hb1⟩
set_option maxRecDepth 100000 in
set_option maxHeartbeats 1000000 in
theorem Open_raw (s : ByteArray) (l : List UInt8) (n : Nat) (w : World) (hs : Strm s) (ht : Lib.hasSuffix s.data.toList [35] = true) (hn : n = l.length) (hsz : s.size = n + 17) (hb : AllBits l) (hl : l.length ≤ 3900)
    (x1 : s.extract 0 n = ⟨l.toArray⟩) (x2 : s.extract n (n + 16) = ⟨(bitsL (sumL l) 16).toArray⟩) :
    Calls Tryz.prog 194 #[.string s] w fun e w' => e = .returned (.tuple #[.string ⟨l.toArray⟩, .int .i64 0]) ∧ Below w.heap.size w w' := by
  have HW := Lib.hid (fun w => Whole_yes s w hs ht)
  have HS := Lib.hid (fun w => crc_Sum ⟨l.toArray⟩ w (bitsOnly_of hb (by omega)))
  have HB := Lib.hid (fun w => Bits16 (sumL l) w (by have := sumL_lt l; omega))
  have hn4 : n ≤ 3900 := by omega
  have e1 : (s.size : Int) - 1 - 16 = n := by omega
  have e2 : (s.size : Int) - 1 = ((n + 16 : Nat) : Int) := by omega
  have e3 : IntKind.i64.wrap ((n : Int) + 16) = (n : Int) + 16 := by rw [IntKind.wrap_i64]; omega
  have i5 : (n : Int) ≤ (n : Int) + 16 := by omega
  have i6 : (0 : Int) ≤ (n : Int) + 16 := by omega
  have i4 : (n : Int) + 16 ≤ (s.size : Int) := by omega
  have i0 : (0 : Int) ≤ (n : Int) := by omega
  have i1 : (n : Int) ≤ (s.size : Int) := by omega
  have i2 : n ≤ s.size := by omega
  have i3 : n + 16 ≤ s.size := by omega
  have x3 : (bitsL (sumL l) 16 == (s.extract n ((n : Int) + 16).toNat).toList) = true := by
    rw [show ((n : Int) + 16).toNat = n + 16 by omega, x2]
    simp [go_sem]
  clear hs ht hb hl hn hsz x2
  go_enter Tryz.func194, Tryz.ntmps194
  go_wp2_with fail
  refine (HW.out _).mono ?_
  rintro e w1 ⟨rfl, hb1⟩
  go_wp2_with fail
  refine wp_region_held_drew (S := fun w' => True) (by kernel_rfl) trivial (fun hHeld => ?_)
  refine rgT 0 ?_
  refine rgT 1 ?_
  refine rgT 2 ?_
  refine rgT 5 ?_
  refine rgT 6 ?_
  refine rgT 7 ?_
  refine rgT 8 ?_
  refine rgT 9 ?_
  refine rgT 10 ?_
  refine wpAnyH_ready (rs := [3]) (by kernel_rfl) (by simp) (AllReadyH.cons rfl (fun K hK => ?_) AllReadyH.nil)
  go_simp
  refine (HS.out _).mono ?_
  rintro e w2 ⟨rfl, hb2⟩
  go_simp
  refine hK.out _ _ trivial (fun hHeld => ?_)
  clear hK K
  refine wpAnyH_ready (rs := [4]) (by kernel_rfl) (by simp) (AllReadyH.cons rfl (fun K hK => ?_) AllReadyH.nil)
  go_simp
  refine (HB.out _).mono ?_
  rintro e w3 ⟨rfl, hb3⟩
  go_simp
  refine hK.out _ _ trivial (fun hHeld => ?_)
  clear hK K
  refine rgT 11 ?_
  refine wpAnyH_done (by kernel_rfl) ?_ _
  go_wp2
  go_ret2
  exact ⟨rfl, (hb1.trans (Below.mono (show Below w1.heap.size w1 w2 from ⟨hb2.os, hb2.tape, hb2.output, hb2.size, hb2.block⟩) hb1.size)).trans (hb3.mono (Nat.le_trans hb1.size hb2.size))⟩
theorem drop_wrap (l : List UInt8) : (⟨(wrapL l).toArray⟩ : ByteArray).extract 0 l.length = ⟨l.toArray⟩ ∧ (⟨(wrapL l).toArray⟩ : ByteArray).extract l.length (l.length + 16) = ⟨(bitsL (sumL l) 16).toArray⟩ := by
  constructor
  · have := extract_front l (bitsL (sumL l) 16 ++ [35])
    rw [← List.append_assoc] at this
    exact this
  · apply ByteArray.ext
    have hb := bitsL_length (sumL l) 16
    simp [Lib.extract_data, wrapL, hb]
theorem crc_Open (l : List UInt8) (w : World) (hb : AllBits l) (hl : l.length ≤ 3900) :
    Calls Tryz.prog 194 #[.string ⟨(wrapL l).toArray⟩] w fun e w' => e = .returned (.tuple #[.string ⟨l.toArray⟩, .int .i64 0]) ∧ Below w.heap.size w w' :=
  Open_raw ⟨(wrapL l).toArray⟩ l l.length w (wrap_strm hb hl) (wrap_tail l) rfl (wrapL_length l) hb hl (drop_wrap l).1 (drop_wrap l).2
end Go.Proofs.YtdbempiompiioaaGreat.A24
namespace Go.Proofs.YtdbempiompiioaaGreat.A25
open Go.RowKit A1 A2 A3 A4 A5 A6 A7 A8 A9 A10 A11 A12 A13 A14 A15 A16 A17 A18 A19 A20 A21 A22 A23 A24

def okI (i : Nat × Nat) : Prop := (i.1 = 0 ∧ i.2 = 0) ∨ (i.1 = 1 ∧ i.2 = 0) ∨ (i.1 = 2 ∧ i.2 ≤ 255)
theorem okI.item {i : Nat × Nat} (h : okI i) : okItem i.1 i.2 := by
  rcases h with h | h | h
  · exact .inl ⟨by omega, by omega⟩
  · exact .inr (.inl ⟨by omega, by omega⟩)
  · exact .inr (.inr ⟨by omega, by omega, by omega⟩)
set_option maxRecDepth 100000 in
theorem Check_each (k v : Nat) (w : World) (h : okI (k, v)) :
    Calls Tryz.prog 215 #[.agg #[.int .i64 k, .int .i64 v]] w fun e w' => e = .returned (.bool false) ∧ Below w.heap.size w w' := by
  have h1 := Lib.hid (fun w => frame_empty k v w h.item)
  have h2 := Lib.hid (fun w => frame_value k v w h.item)
  by_cases hk : k = 0
  · have hb : ((k : Int) == 0) = true := by simp; omega
    rw [hb] at h1
    clear h hk hb
    go_enter Tryz.func215, Tryz.ntmps215
    go_wp2_with fail
    refine (h1.out _).mono ?_
    rintro e w1 ⟨rfl, hb1⟩
    go_wp2
    go_ret
    exact ⟨by first | rfl | simp, Below.trans (by repeat (first | exact Below.refl _ _ | refine Below.drew ?_ | refine below_drewN ?_ _ | refine Below.alloc ?_ (by simp; try omega) _)) (hb1.mono (by simp))⟩
  · have hb : ((k : Int) == 0) = false := by simp; omega
    have hb' : ((k : Int) != 0) = true := by simp; omega
    rw [hb] at h1
    rw [hb'] at h2
    clear h hk hb hb'
    go_enter Tryz.func215, Tryz.ntmps215
    go_wp2_with fail
    refine (h1.out _).mono ?_
    rintro e w1 ⟨rfl, hb1⟩
    have bx : w1.heap[w.heap.size]? = some (.cells #[.int .i64 k, .int .i64 v] 44 (0, 0)) := (hb1.block _ (by simp)).trans (heap_alloc_new w _)
    have x0 : w1.cell? ⟨w.heap.size, 0, none⟩ = some (.int .i64 k) := by simp [World.cell?, bx]
    have x1 : w1.cell? ⟨w.heap.size, 1, none⟩ = some (.int .i64 v) := by simp [World.cell?, bx]
    clear bx
    go_wp2_with fail
    refine (h2.out _).mono ?_
    rintro e w2 ⟨rfl, hb2⟩
    go_wp2
    go_ret
    exact ⟨by first | rfl | simp, (Below.trans (show Below w.heap.size w _ from (by repeat (first | exact Below.refl _ _ | refine Below.drew ?_ | refine below_drewN ?_ _ | refine Below.alloc ?_ (by simp; try omega) _))) (hb1.mono (by simp))).trans (hb2.mono (by have := hb1.size; simp at this; omega))⟩
set_option maxRecDepth 100000 in
set_option maxHeartbeats 1000000 in
theorem indexFunc_items (A : Option Addr) (l : List (Nat × Nat)) (C : Nat) (w : World) (hl : Items w A l) (hlen : l.length ≤ 100) (hv : ∀ k, k < l.length → okI (l.getD k (0, 0))) :
    Calls Tryz.prog 222 #[.slice A l.length C, .func (Fn.func 215) #[] #[]] w fun e w' => e = .returned (.int .i64 (-1)) ∧ Below w.heap.size w w' := by
  have HL := Lib.hid hl
  have HV := Lib.hid hv
  clear hl hv
  go_enter Tryz.func222, Tryz.ntmps222
  go_wp2
  go_loopw [8] (fun t wr => ∃ k : Nat, k ≤ l.length ∧ t = .int .i64 k ∧ Below w.heap.size w wr) (fun t _ => l.length - (intOf t).toNat)
  case atStart => exact ⟨0, by omega, rfl, Below.refl _ _⟩
  case round =>
    obtain ⟨k, hk, rfl, hbr⟩ := hrel
    by_cases hlt : k < l.length
    · obtain ⟨eb, eo, rfl, hel, hc0, hc1⟩ := (HL.out.below hbr) k hlt
      have ho := HV.out k hlt
      generalize l.getD k (0, 0) = it at *
      obtain ⟨i1, i2⟩ := it
      have HC := Lib.hid (fun w => Check_each i1 i2 w ho)
      have HB := Lib.hid hbr
      have lk0 : (0 : Int) ≤ (k : Int) := by omega
      have lk1 : (k : Int) < (l.length : Int) := by omega
      clear hbr ho
      go_wp2_with fail
      refine (HC.out _).mono ?_
      rintro e w1 ⟨rfl, hb1⟩
      go_wp2
      go_roundw
      case rel => exact ⟨k + 1, by omega, by go_num, HB.out.trans (hb1.mono HB.out.size)⟩
      case measure => simp [intOf]; omega
    · go_wp2
      go_ret
      exact ⟨rfl, hbr⟩
theorem containsFunc_items (A : Option Addr) (l : List (Nat × Nat)) (C : Nat) (w : World) (hl : Items w A l) (hlen : l.length ≤ 100) (hv : ∀ k, k < l.length → okI (l.getD k (0, 0))) :
    Calls Tryz.prog 214 #[.slice A l.length C, .func (Fn.func 215) #[] #[]] w fun e w' => e = .returned (.bool false) ∧ Below w.heap.size w w' := by
  have H := Lib.hid (indexFunc_items A l C w hl hlen hv)
  clear hl hv
  go_enter Tryz.func214, Tryz.ntmps214
  go_wp2_with (go_at_call 222; refine (H.out).mono ?_; rintro e w' ⟨rfl, hb⟩)
  go_ret
  exact ⟨rfl, hb⟩
structure FrOk (N PL : Nat) (f : Fr) : Prop where
  k1 : 1 ≤ f.kind
  k3 : f.kind ≤ 3
  round : f.round ≤ 65535
  slot : f.slot < N + PL
  own : N ≤ f.slot → f.kind = 3
  pay : okI (f.pk, f.pv)
  payd : f.kind = 3 → f.pk ≠ 0
  payn : f.kind ≠ 3 → f.pk = 0
  len : f.echo.length = if f.kind = 3 ∧ f.slot < N then N + PL else 0
  each : ∀ k, k < f.echo.length → okI (f.echo.getD k (0, 0))
theorem FrOk.echoes {N PL : Nat} {f : Fr} (h : FrOk N PL f) (hN : N ≤ 12) (hP : PL ≤ 3) (Pi Er G Fi : Int) (PA : Option Addr) (PC : Nat) (w : World) :
    Calls Tryz.prog 197 #[.agg #[.int .i64 N, .int .i64 Pi, .int .i64 Er, .int .i64 G, .int .i64 Fi, .slice PA PL PC], .int .i64 f.kind, .int .i64 f.slot] w fun e w' => e = .returned (.int .i64 f.echo.length) ∧ Below w.heap.size w w' := by
  rw [h.len]
  by_cases hk : f.kind = 3
  · by_cases hs : f.slot < N
    · rw [if_pos ⟨hk, hs⟩, hk]
      have := frame_echoes_data N Pi Er G Fi PA PL PC f.slot w (by omega) (by omega) hP (by omega)
      rw [show ((N + PL : Nat) : Int) = (N : Int) + PL by omega]
      exact this
    · rw [if_neg (fun e => hs e.2), hk]
      exact frame_echoes_pair N Pi Er G Fi PA PL PC f.slot w (by omega) (by omega) hP (by omega)
  · rw [if_neg (fun e => hk e.1)]
    exact frame_echoes_none N Pi Er G Fi PA PL PC f.kind f.slot w (by omega) (by omega) hP (by omega)
theorem FrOk.may {N PL : Nat} {f : Fr} (h : FrOk N PL f) (w : World) :
    (f.kind = 3 → Calls Tryz.prog 213 #[.agg #[.int .i64 f.pk, .int .i64 f.pv]] w fun e w' => e = .returned (.bool true) ∧ Below w.heap.size w w') ∧
    (f.kind ≠ 3 → Calls Tryz.prog 212 #[.agg #[.int .i64 f.pk, .int .i64 f.pv]] w fun e w' => e = .returned (.bool true) ∧ Below w.heap.size w w') := by
  constructor
  · intro hk
    have := frame_value f.pk f.pv w h.pay.item
    rwa [show ((f.pk : Int) != 0) = true by simp; have := h.payd hk; omega] at this
  · intro hk
    have := frame_empty f.pk f.pv w h.pay.item
    rwa [show ((f.pk : Int) == 0) = true by simp; have := h.payn hk; omega] at this
end Go.Proofs.YtdbempiompiioaaGreat.A25
namespace Go.Proofs.YtdbempiompiioaaGreat.A26
open Go.RowKit A1 A2 A3 A4 A5 A6 A7 A8 A9 A10 A11 A12 A13 A14 A15 A16 A17 A18 A19 A20 A21 A22 A23 A24 A25

set_option maxRecDepth 100000 in
set_option maxHeartbeats 4000000 in
theorem frame_Check (N : Nat) (Pi Er G Fi : Int) (PA : Option Addr) (PL PC : Nat) (f : Fr) (EA : Option Addr) (EC : Nat) (w : World) (hf : FrOk N PL f) (hN : N ≤ 12) (hP : PL ≤ 3) (hE : Items w EA f.echo) :
    Calls Tryz.prog 198 #[.agg #[.int .i64 N, .int .i64 Pi, .int .i64 Er, .int .i64 G, .int .i64 Fi, .slice PA PL PC], .agg #[.int .i64 f.kind, .int .i64 f.round, .int .i64 f.slot, .int .i64 f.pk, .int .i64 f.pv, .slice EA f.echo.length EC]] w fun e w' => e = .returned (.int .i64 0) ∧ Below w.heap.size w w' := by
  have d1 : decide ((f.slot : Int) < 0) = false := by simp
  have d2 : decide ((f.slot : Int) ≥ (N : Int) + PL) = false := by have := hf.slot; simp; omega
  have d3 : decide ((f.round : Int) < 0) = false := by simp
  have d4 : decide ((f.round : Int) > 65535) = false := by have := hf.round; simp; omega
  have d5 : decide ((f.kind : Int) < 1) = false := by have := hf.k1; simp; omega
  have d6 : decide ((f.kind : Int) > 3) = false := by have := hf.k3; simp; omega
  have HS := Lib.hid (fun w => conf_Slots N Pi Er G Fi PA PL PC w (by omega) (by omega) hP)
  have HEc := Lib.hid (fun w => hf.echoes hN hP Pi Er G Fi PA PC w)
  have HMy := Lib.hid (fun w => hf.may w)
  have hle : f.echo.length ≤ 100 := by rw [hf.len]; split <;> omega
  have HIt := Lib.hid (fun w' (h : Items w' EA f.echo) => containsFunc_items EA f.echo EC w' h hle hf.each)
  have HE := Lib.hid hE
  have hown := hf.own
  have kp : ∀ W W' : World, w.heap.size + 1 < W.heap.size → Below W.heap.size W W' → (W.cell? ⟨w.heap.size, 0, none⟩ = some (.int .i64 N) ∧ W.cell? ⟨w.heap.size, 1, none⟩ = some (.int .i64 Pi) ∧ W.cell? ⟨w.heap.size, 2, none⟩ = some (.int .i64 Er) ∧ W.cell? ⟨w.heap.size, 3, none⟩ = some (.int .i64 G) ∧ W.cell? ⟨w.heap.size, 4, none⟩ = some (.int .i64 Fi) ∧ W.cell? ⟨w.heap.size, 5, none⟩ = some (.slice PA PL PC) ∧ W.cell? ⟨w.heap.size + 1, 0, none⟩ = some (.int .i64 f.kind) ∧ W.cell? ⟨w.heap.size + 1, 1, none⟩ = some (.int .i64 f.round) ∧ W.cell? ⟨w.heap.size + 1, 2, none⟩ = some (.int .i64 f.slot) ∧ W.cell? ⟨w.heap.size + 1, 3, none⟩ = some (.int .i64 f.pk) ∧ W.cell? ⟨w.heap.size + 1, 4, none⟩ = some (.int .i64 f.pv) ∧ W.cell? ⟨w.heap.size + 1, 5, none⟩ = some (.slice EA f.echo.length EC)) → (W'.cell? ⟨w.heap.size, 0, none⟩ = some (.int .i64 N) ∧ W'.cell? ⟨w.heap.size, 1, none⟩ = some (.int .i64 Pi) ∧ W'.cell? ⟨w.heap.size, 2, none⟩ = some (.int .i64 Er) ∧ W'.cell? ⟨w.heap.size, 3, none⟩ = some (.int .i64 G) ∧ W'.cell? ⟨w.heap.size, 4, none⟩ = some (.int .i64 Fi) ∧ W'.cell? ⟨w.heap.size, 5, none⟩ = some (.slice PA PL PC) ∧ W'.cell? ⟨w.heap.size + 1, 0, none⟩ = some (.int .i64 f.kind) ∧ W'.cell? ⟨w.heap.size + 1, 1, none⟩ = some (.int .i64 f.round) ∧ W'.cell? ⟨w.heap.size + 1, 2, none⟩ = some (.int .i64 f.slot) ∧ W'.cell? ⟨w.heap.size + 1, 3, none⟩ = some (.int .i64 f.pk) ∧ W'.cell? ⟨w.heap.size + 1, 4, none⟩ = some (.int .i64 f.pv) ∧ W'.cell? ⟨w.heap.size + 1, 5, none⟩ = some (.slice EA f.echo.length EC)) := fun W W' h hb hs => by
    obtain ⟨h0, h1, h2, h3, h4, h5, h6, h7, h8, h9, h10, h11⟩ := hs
    exact ⟨keep_of h0 (by omega) hb, keep_of h1 (by omega) hb, keep_of h2 (by omega) hb, keep_of h3 (by omega) hb, keep_of h4 (by omega) hb, keep_of h5 (by omega) hb, keep_of h6 h hb, keep_of h7 h hb, keep_of h8 h hb, keep_of h9 h hb, keep_of h10 h hb, keep_of h11 h hb⟩
  have KP := Lib.hid kp
  have s0 : ∀ W0 : World, W0 = (w.alloc (.cells #[.int .i64 N, .int .i64 Pi, .int .i64 Er, .int .i64 G, .int .i64 Fi, .slice PA PL PC] 24)).alloc (.cells #[.int .i64 f.kind, .int .i64 f.round, .int .i64 f.slot, .int .i64 f.pk, .int .i64 f.pv, .slice EA f.echo.length EC] 118) → (W0.cell? ⟨w.heap.size, 0, none⟩ = some (.int .i64 N) ∧ W0.cell? ⟨w.heap.size, 1, none⟩ = some (.int .i64 Pi) ∧ W0.cell? ⟨w.heap.size, 2, none⟩ = some (.int .i64 Er) ∧ W0.cell? ⟨w.heap.size, 3, none⟩ = some (.int .i64 G) ∧ W0.cell? ⟨w.heap.size, 4, none⟩ = some (.int .i64 Fi) ∧ W0.cell? ⟨w.heap.size, 5, none⟩ = some (.slice PA PL PC) ∧ W0.cell? ⟨w.heap.size + 1, 0, none⟩ = some (.int .i64 f.kind) ∧ W0.cell? ⟨w.heap.size + 1, 1, none⟩ = some (.int .i64 f.round) ∧ W0.cell? ⟨w.heap.size + 1, 2, none⟩ = some (.int .i64 f.slot) ∧ W0.cell? ⟨w.heap.size + 1, 3, none⟩ = some (.int .i64 f.pk) ∧ W0.cell? ⟨w.heap.size + 1, 4, none⟩ = some (.int .i64 f.pv) ∧ W0.cell? ⟨w.heap.size + 1, 5, none⟩ = some (.slice EA f.echo.length EC)) := by rintro _ rfl; go_simp
  have S0 := Lib.hid s0
  clear kp s0 hf hE
  by_cases hk : f.kind = 3
  · have b1 : ((f.kind : Int) == 3) = true := by simp; omega
    have b2 : ((f.kind : Int) != 3) = false := by simp; omega
    have HM := Lib.hid (fun w => (HMy.out w).1 hk)
    by_cases hs : f.slot < N
    · have b3 : decide ((f.slot : Int) ≥ N) = false := by simp; omega
      have b4 : decide (N ≤ f.slot) = false := by simp; omega
      have b5 : decide (f.slot ≥ N) = false := by simp; omega
      clear hk hown
      go_enter Tryz.func198, Tryz.ntmps198
      go_upto_region 4 with fail
      refine wp_region_held_drew (S := fun w' => (w'.cell? ⟨w.heap.size, 0, none⟩ = some (.int .i64 N) ∧ w'.cell? ⟨w.heap.size, 1, none⟩ = some (.int .i64 Pi) ∧ w'.cell? ⟨w.heap.size, 2, none⟩ = some (.int .i64 Er) ∧ w'.cell? ⟨w.heap.size, 3, none⟩ = some (.int .i64 G) ∧ w'.cell? ⟨w.heap.size, 4, none⟩ = some (.int .i64 Fi) ∧ w'.cell? ⟨w.heap.size, 5, none⟩ = some (.slice PA PL PC) ∧ w'.cell? ⟨w.heap.size + 1, 0, none⟩ = some (.int .i64 f.kind) ∧ w'.cell? ⟨w.heap.size + 1, 1, none⟩ = some (.int .i64 f.round) ∧ w'.cell? ⟨w.heap.size + 1, 2, none⟩ = some (.int .i64 f.slot) ∧ w'.cell? ⟨w.heap.size + 1, 3, none⟩ = some (.int .i64 f.pk) ∧ w'.cell? ⟨w.heap.size + 1, 4, none⟩ = some (.int .i64 f.pv) ∧ w'.cell? ⟨w.heap.size + 1, 5, none⟩ = some (.slice EA f.echo.length EC))) (by kernel_rfl) (by have := S0.out _ rfl; exact this) (fun hHeld => ?_)
      refine rgT 0 ?_
      refine rgT 1 ?_
      refine rgT 2 ?_
      refine rgT 3 ?_
      refine rgT 4 ?_
      refine rgT 5 ?_
      refine rgT 6 ?_
      refine wpAnyH_ready (rs := [7]) (by kernel_rfl) (by simp) (AllReadyH.cons rfl (fun K hK => ?_) AllReadyH.nil)
      go_simp
      refine (HS.out _).mono ?_
      rintro e w1 ⟨rfl, hb1⟩
      go_simp
      have hz1 : w.heap.size + 1 < w1.heap.size := by have := hb1.size; simp at this; omega
      have hB1 : Below w.heap.size w w1 := Below.trans (show Below w.heap.size w _ from (by repeat (first | exact Below.refl _ _ | refine Below.drew ?_ | refine below_drewN ?_ _ | refine Below.alloc ?_ (by simp; try omega) _))) (hb1.mono (by simp; omega))
      replace hHeld := KP.out _ _ (by simp) hb1 hHeld
      refine hK.out _ _ hHeld (fun hHeld => ?_)
      clear hK K
      refine rgT 8 ?_
      refine rgT 9 ?_
      refine rgT 10 ?_
      refine rgT 11 ?_
      refine rgT 12 ?_
      refine rgT 13 ?_
      refine rgT 14 ?_
      refine rgT 15 ?_
      refine rgT 16 ?_
      refine rgT 17 ?_
      refine rgT 18 ?_
      refine rgT 19 ?_
      refine rgT 20 ?_
      refine wpAnyH_done (by kernel_rfl) ?_ _
      obtain ⟨h0, h1, h2, h3, h4, h5, h6, h7, h8, h9, h10, h11⟩ := hHeld
      have HH : Hid ((w1.cell? ⟨w.heap.size, 0, none⟩ = some (.int .i64 N) ∧ w1.cell? ⟨w.heap.size, 1, none⟩ = some (.int .i64 Pi) ∧ w1.cell? ⟨w.heap.size, 2, none⟩ = some (.int .i64 Er) ∧ w1.cell? ⟨w.heap.size, 3, none⟩ = some (.int .i64 G) ∧ w1.cell? ⟨w.heap.size, 4, none⟩ = some (.int .i64 Fi) ∧ w1.cell? ⟨w.heap.size, 5, none⟩ = some (.slice PA PL PC) ∧ w1.cell? ⟨w.heap.size + 1, 0, none⟩ = some (.int .i64 f.kind) ∧ w1.cell? ⟨w.heap.size + 1, 1, none⟩ = some (.int .i64 f.round) ∧ w1.cell? ⟨w.heap.size + 1, 2, none⟩ = some (.int .i64 f.slot) ∧ w1.cell? ⟨w.heap.size + 1, 3, none⟩ = some (.int .i64 f.pk) ∧ w1.cell? ⟨w.heap.size + 1, 4, none⟩ = some (.int .i64 f.pv) ∧ w1.cell? ⟨w.heap.size + 1, 5, none⟩ = some (.slice EA f.echo.length EC))) := ⟨h0, h1, h2, h3, h4, h5, h6, h7, h8, h9, h10, h11⟩
      go_wp2_with (first | (go_at_call 213; refine (HM.out _).mono ?_; rintro e w2 ⟨rfl, hb2⟩) | (go_at_call 212; refine (HM.out _).mono ?_; rintro e w2 ⟨rfl, hb2⟩))
      have hz2 : w.heap.size + 1 < w2.heap.size := by have := hb2.size; omega
      have hB2 : Below w.heap.size w w2 := hB1.trans (hb2.mono (by omega))
      have HH2 := Lib.hid (KP.out _ _ hz1 hb2 HH.out)
      clear h0 h1 h2 h3 h4 h5 h6 h7 h8 h9 h10 h11 HH hb1 hb2 hB1
      refine wp_region_held_drew (S := fun w' => (w'.cell? ⟨w.heap.size, 0, none⟩ = some (.int .i64 N) ∧ w'.cell? ⟨w.heap.size, 1, none⟩ = some (.int .i64 Pi) ∧ w'.cell? ⟨w.heap.size, 2, none⟩ = some (.int .i64 Er) ∧ w'.cell? ⟨w.heap.size, 3, none⟩ = some (.int .i64 G) ∧ w'.cell? ⟨w.heap.size, 4, none⟩ = some (.int .i64 Fi) ∧ w'.cell? ⟨w.heap.size, 5, none⟩ = some (.slice PA PL PC) ∧ w'.cell? ⟨w.heap.size + 1, 0, none⟩ = some (.int .i64 f.kind) ∧ w'.cell? ⟨w.heap.size + 1, 1, none⟩ = some (.int .i64 f.round) ∧ w'.cell? ⟨w.heap.size + 1, 2, none⟩ = some (.int .i64 f.slot) ∧ w'.cell? ⟨w.heap.size + 1, 3, none⟩ = some (.int .i64 f.pk) ∧ w'.cell? ⟨w.heap.size + 1, 4, none⟩ = some (.int .i64 f.pv) ∧ w'.cell? ⟨w.heap.size + 1, 5, none⟩ = some (.slice EA f.echo.length EC))) (by kernel_rfl) (by have := HH2.out; exact this) (fun hHeld => ?_)
      refine rgT 0 ?_
      refine rgT 1 ?_
      refine rgT 2 ?_
      refine rgT 3 ?_
      refine rgT 4 ?_
      refine rgT 5 ?_
      refine rgT 6 ?_
      refine rgT 7 ?_
      refine wpAnyH_ready (rs := [8]) (by kernel_rfl) (by simp) (AllReadyH.cons rfl (fun K hK => ?_) AllReadyH.nil)
      go_simp
      refine (HEc.out _).mono ?_
      rintro e w3 ⟨rfl, hb3⟩
      go_simp
      have hz3 : w.heap.size + 1 < w3.heap.size := by have := hb3.size; simp at this; omega
      have hB3 : Below w.heap.size w w3 := hB2.trans (Below.mono (show Below w2.heap.size w2 w3 from ⟨hb3.os, hb3.tape, hb3.output, hb3.size, hb3.block⟩) (by omega))
      replace hHeld := KP.out _ _ (by first | exact hz2 | (simp; omega)) hb3 hHeld
      refine hK.out _ _ hHeld (fun hHeld => ?_)
      clear hK K
      refine rgT 9 ?_
      refine rgT 10 ?_
      refine wpAnyH_done (by kernel_rfl) ?_ _
      have h11 := hHeld.2.2.2.2.2.2.2.2.2.2.2
      clear hHeld HH2 hb3 hB2
      go_wp2_with fail
      refine (HIt.out _ (HE.out.below (Below.mono (show Below w.heap.size w w3 from hB3) (Nat.le_refl _)))).mono ?_
      rintro e w4 ⟨rfl, hb4⟩
      go_wp2
      go_ret
      exact ⟨rfl, hB3.trans (hb4.mono (by omega))⟩
    · have b3 : decide ((f.slot : Int) ≥ N) = true := by simp; omega
      have b4 : decide (N ≤ f.slot) = true := by simp; omega
      have b5 : decide (f.slot ≥ N) = true := by simp; omega
      clear hk hown
      go_enter Tryz.func198, Tryz.ntmps198
      go_upto_region 4 with fail
      refine wp_region_held_drew (S := fun w' => (w'.cell? ⟨w.heap.size, 0, none⟩ = some (.int .i64 N) ∧ w'.cell? ⟨w.heap.size, 1, none⟩ = some (.int .i64 Pi) ∧ w'.cell? ⟨w.heap.size, 2, none⟩ = some (.int .i64 Er) ∧ w'.cell? ⟨w.heap.size, 3, none⟩ = some (.int .i64 G) ∧ w'.cell? ⟨w.heap.size, 4, none⟩ = some (.int .i64 Fi) ∧ w'.cell? ⟨w.heap.size, 5, none⟩ = some (.slice PA PL PC) ∧ w'.cell? ⟨w.heap.size + 1, 0, none⟩ = some (.int .i64 f.kind) ∧ w'.cell? ⟨w.heap.size + 1, 1, none⟩ = some (.int .i64 f.round) ∧ w'.cell? ⟨w.heap.size + 1, 2, none⟩ = some (.int .i64 f.slot) ∧ w'.cell? ⟨w.heap.size + 1, 3, none⟩ = some (.int .i64 f.pk) ∧ w'.cell? ⟨w.heap.size + 1, 4, none⟩ = some (.int .i64 f.pv) ∧ w'.cell? ⟨w.heap.size + 1, 5, none⟩ = some (.slice EA f.echo.length EC))) (by kernel_rfl) (by have := S0.out _ rfl; exact this) (fun hHeld => ?_)
      refine rgT 0 ?_
      refine rgT 1 ?_
      refine rgT 2 ?_
      refine rgT 3 ?_
      refine rgT 4 ?_
      refine rgT 5 ?_
      refine rgT 6 ?_
      refine wpAnyH_ready (rs := [7]) (by kernel_rfl) (by simp) (AllReadyH.cons rfl (fun K hK => ?_) AllReadyH.nil)
      go_simp
      refine (HS.out _).mono ?_
      rintro e w1 ⟨rfl, hb1⟩
      go_simp
      have hz1 : w.heap.size + 1 < w1.heap.size := by have := hb1.size; simp at this; omega
      have hB1 : Below w.heap.size w w1 := Below.trans (show Below w.heap.size w _ from (by repeat (first | exact Below.refl _ _ | refine Below.drew ?_ | refine below_drewN ?_ _ | refine Below.alloc ?_ (by simp; try omega) _))) (hb1.mono (by simp; omega))
      replace hHeld := KP.out _ _ (by simp) hb1 hHeld
      refine hK.out _ _ hHeld (fun hHeld => ?_)
      clear hK K
      refine rgT 8 ?_
      refine rgT 9 ?_
      refine rgT 10 ?_
      refine rgT 11 ?_
      refine rgT 12 ?_
      refine rgT 13 ?_
      refine rgT 14 ?_
      refine rgT 15 ?_
      refine rgT 16 ?_
      refine rgT 17 ?_
      refine rgT 18 ?_
      refine rgT 19 ?_
      refine rgT 20 ?_
      refine wpAnyH_done (by kernel_rfl) ?_ _
      obtain ⟨h0, h1, h2, h3, h4, h5, h6, h7, h8, h9, h10, h11⟩ := hHeld
      have HH : Hid ((w1.cell? ⟨w.heap.size, 0, none⟩ = some (.int .i64 N) ∧ w1.cell? ⟨w.heap.size, 1, none⟩ = some (.int .i64 Pi) ∧ w1.cell? ⟨w.heap.size, 2, none⟩ = some (.int .i64 Er) ∧ w1.cell? ⟨w.heap.size, 3, none⟩ = some (.int .i64 G) ∧ w1.cell? ⟨w.heap.size, 4, none⟩ = some (.int .i64 Fi) ∧ w1.cell? ⟨w.heap.size, 5, none⟩ = some (.slice PA PL PC) ∧ w1.cell? ⟨w.heap.size + 1, 0, none⟩ = some (.int .i64 f.kind) ∧ w1.cell? ⟨w.heap.size + 1, 1, none⟩ = some (.int .i64 f.round) ∧ w1.cell? ⟨w.heap.size + 1, 2, none⟩ = some (.int .i64 f.slot) ∧ w1.cell? ⟨w.heap.size + 1, 3, none⟩ = some (.int .i64 f.pk) ∧ w1.cell? ⟨w.heap.size + 1, 4, none⟩ = some (.int .i64 f.pv) ∧ w1.cell? ⟨w.heap.size + 1, 5, none⟩ = some (.slice EA f.echo.length EC))) := ⟨h0, h1, h2, h3, h4, h5, h6, h7, h8, h9, h10, h11⟩
      go_wp2_with (first | (go_at_call 213; refine (HM.out _).mono ?_; rintro e w2 ⟨rfl, hb2⟩) | (go_at_call 212; refine (HM.out _).mono ?_; rintro e w2 ⟨rfl, hb2⟩))
      have hz2 : w.heap.size + 1 < w2.heap.size := by have := hb2.size; omega
      have hB2 : Below w.heap.size w w2 := hB1.trans (hb2.mono (by omega))
      have HH2 := Lib.hid (KP.out _ _ hz1 hb2 HH.out)
      clear h0 h1 h2 h3 h4 h5 h6 h7 h8 h9 h10 h11 HH hb1 hb2 hB1
      refine wp_region_held_drew (S := fun w' => (w'.cell? ⟨w.heap.size, 0, none⟩ = some (.int .i64 N) ∧ w'.cell? ⟨w.heap.size, 1, none⟩ = some (.int .i64 Pi) ∧ w'.cell? ⟨w.heap.size, 2, none⟩ = some (.int .i64 Er) ∧ w'.cell? ⟨w.heap.size, 3, none⟩ = some (.int .i64 G) ∧ w'.cell? ⟨w.heap.size, 4, none⟩ = some (.int .i64 Fi) ∧ w'.cell? ⟨w.heap.size, 5, none⟩ = some (.slice PA PL PC) ∧ w'.cell? ⟨w.heap.size + 1, 0, none⟩ = some (.int .i64 f.kind) ∧ w'.cell? ⟨w.heap.size + 1, 1, none⟩ = some (.int .i64 f.round) ∧ w'.cell? ⟨w.heap.size + 1, 2, none⟩ = some (.int .i64 f.slot) ∧ w'.cell? ⟨w.heap.size + 1, 3, none⟩ = some (.int .i64 f.pk) ∧ w'.cell? ⟨w.heap.size + 1, 4, none⟩ = some (.int .i64 f.pv) ∧ w'.cell? ⟨w.heap.size + 1, 5, none⟩ = some (.slice EA f.echo.length EC))) (by kernel_rfl) (by have := HH2.out; exact this) (fun hHeld => ?_)
      refine rgT 0 ?_
      refine rgT 1 ?_
      refine rgT 2 ?_
      refine rgT 3 ?_
      refine rgT 4 ?_
      refine rgT 5 ?_
      refine rgT 6 ?_
      refine rgT 7 ?_
      refine wpAnyH_ready (rs := [8]) (by kernel_rfl) (by simp) (AllReadyH.cons rfl (fun K hK => ?_) AllReadyH.nil)
      go_simp
      refine (HEc.out _).mono ?_
      rintro e w3 ⟨rfl, hb3⟩
      go_simp
      have hz3 : w.heap.size + 1 < w3.heap.size := by have := hb3.size; simp at this; omega
      have hB3 : Below w.heap.size w w3 := hB2.trans (Below.mono (show Below w2.heap.size w2 w3 from ⟨hb3.os, hb3.tape, hb3.output, hb3.size, hb3.block⟩) (by omega))
      replace hHeld := KP.out _ _ (by first | exact hz2 | (simp; omega)) hb3 hHeld
      refine hK.out _ _ hHeld (fun hHeld => ?_)
      clear hK K
      refine rgT 9 ?_
      refine rgT 10 ?_
      refine wpAnyH_done (by kernel_rfl) ?_ _
      have h11 := hHeld.2.2.2.2.2.2.2.2.2.2.2
      clear hHeld HH2 hb3 hB2
      go_wp2_with fail
      refine (HIt.out _ (HE.out.below (Below.mono (show Below w.heap.size w w3 from hB3) (Nat.le_refl _)))).mono ?_
      rintro e w4 ⟨rfl, hb4⟩
      go_wp2
      go_ret
      exact ⟨rfl, hB3.trans (hb4.mono (by omega))⟩
  · have hs : f.slot < N := by rcases Nat.lt_or_ge f.slot N with h | h; exact h; exact absurd (hown h) hk
    have b1 : ((f.kind : Int) == 3) = false := by simp; omega
    have b2 : ((f.kind : Int) != 3) = true := by simp; omega
    have HM := Lib.hid (fun w => (HMy.out w).2 hk)
    have b3 : decide ((f.slot : Int) ≥ N) = false := by simp; omega
    have b4 : decide (N ≤ f.slot) = false := by simp; omega
    have b5 : decide (f.slot ≥ N) = false := by simp; omega
    clear hk hown
    go_enter Tryz.func198, Tryz.ntmps198
    go_upto_region 4 with fail
    refine wp_region_held_drew (S := fun w' => (w'.cell? ⟨w.heap.size, 0, none⟩ = some (.int .i64 N) ∧ w'.cell? ⟨w.heap.size, 1, none⟩ = some (.int .i64 Pi) ∧ w'.cell? ⟨w.heap.size, 2, none⟩ = some (.int .i64 Er) ∧ w'.cell? ⟨w.heap.size, 3, none⟩ = some (.int .i64 G) ∧ w'.cell? ⟨w.heap.size, 4, none⟩ = some (.int .i64 Fi) ∧ w'.cell? ⟨w.heap.size, 5, none⟩ = some (.slice PA PL PC) ∧ w'.cell? ⟨w.heap.size + 1, 0, none⟩ = some (.int .i64 f.kind) ∧ w'.cell? ⟨w.heap.size + 1, 1, none⟩ = some (.int .i64 f.round) ∧ w'.cell? ⟨w.heap.size + 1, 2, none⟩ = some (.int .i64 f.slot) ∧ w'.cell? ⟨w.heap.size + 1, 3, none⟩ = some (.int .i64 f.pk) ∧ w'.cell? ⟨w.heap.size + 1, 4, none⟩ = some (.int .i64 f.pv) ∧ w'.cell? ⟨w.heap.size + 1, 5, none⟩ = some (.slice EA f.echo.length EC))) (by kernel_rfl) (by have := S0.out _ rfl; exact this) (fun hHeld => ?_)
    refine rgT 0 ?_
    refine rgT 1 ?_
    refine rgT 2 ?_
    refine rgT 3 ?_
    refine rgT 4 ?_
    refine rgT 5 ?_
    refine rgT 6 ?_
    refine wpAnyH_ready (rs := [7]) (by kernel_rfl) (by simp) (AllReadyH.cons rfl (fun K hK => ?_) AllReadyH.nil)
    go_simp
    refine (HS.out _).mono ?_
    rintro e w1 ⟨rfl, hb1⟩
    go_simp
    have hz1 : w.heap.size + 1 < w1.heap.size := by have := hb1.size; simp at this; omega
    have hB1 : Below w.heap.size w w1 := Below.trans (show Below w.heap.size w _ from (by repeat (first | exact Below.refl _ _ | refine Below.drew ?_ | refine below_drewN ?_ _ | refine Below.alloc ?_ (by simp; try omega) _))) (hb1.mono (by simp; omega))
    replace hHeld := KP.out _ _ (by simp) hb1 hHeld
    refine hK.out _ _ hHeld (fun hHeld => ?_)
    clear hK K
    refine rgT 8 ?_
    refine rgT 9 ?_
    refine rgT 10 ?_
    refine rgT 11 ?_
    refine rgT 12 ?_
    refine rgT 13 ?_
    refine rgT 14 ?_
    refine rgT 15 ?_
    refine rgT 16 ?_
    refine rgT 17 ?_
    refine rgT 18 ?_
    refine rgT 19 ?_
    refine rgT 20 ?_
    refine wpAnyH_done (by kernel_rfl) ?_ _
    obtain ⟨h0, h1, h2, h3, h4, h5, h6, h7, h8, h9, h10, h11⟩ := hHeld
    have HH : Hid ((w1.cell? ⟨w.heap.size, 0, none⟩ = some (.int .i64 N) ∧ w1.cell? ⟨w.heap.size, 1, none⟩ = some (.int .i64 Pi) ∧ w1.cell? ⟨w.heap.size, 2, none⟩ = some (.int .i64 Er) ∧ w1.cell? ⟨w.heap.size, 3, none⟩ = some (.int .i64 G) ∧ w1.cell? ⟨w.heap.size, 4, none⟩ = some (.int .i64 Fi) ∧ w1.cell? ⟨w.heap.size, 5, none⟩ = some (.slice PA PL PC) ∧ w1.cell? ⟨w.heap.size + 1, 0, none⟩ = some (.int .i64 f.kind) ∧ w1.cell? ⟨w.heap.size + 1, 1, none⟩ = some (.int .i64 f.round) ∧ w1.cell? ⟨w.heap.size + 1, 2, none⟩ = some (.int .i64 f.slot) ∧ w1.cell? ⟨w.heap.size + 1, 3, none⟩ = some (.int .i64 f.pk) ∧ w1.cell? ⟨w.heap.size + 1, 4, none⟩ = some (.int .i64 f.pv) ∧ w1.cell? ⟨w.heap.size + 1, 5, none⟩ = some (.slice EA f.echo.length EC))) := ⟨h0, h1, h2, h3, h4, h5, h6, h7, h8, h9, h10, h11⟩
    go_wp2_with (first | (go_at_call 213; refine (HM.out _).mono ?_; rintro e w2 ⟨rfl, hb2⟩) | (go_at_call 212; refine (HM.out _).mono ?_; rintro e w2 ⟨rfl, hb2⟩))
    have hz2 : w.heap.size + 1 < w2.heap.size := by have := hb2.size; omega
    have hB2 : Below w.heap.size w w2 := hB1.trans (hb2.mono (by omega))
    have HH2 := Lib.hid (KP.out _ _ hz1 hb2 HH.out)
    clear h0 h1 h2 h3 h4 h5 h6 h7 h8 h9 h10 h11 HH hb1 hb2 hB1
    refine wp_region_held_drew (S := fun w' => (w'.cell? ⟨w.heap.size, 0, none⟩ = some (.int .i64 N) ∧ w'.cell? ⟨w.heap.size, 1, none⟩ = some (.int .i64 Pi) ∧ w'.cell? ⟨w.heap.size, 2, none⟩ = some (.int .i64 Er) ∧ w'.cell? ⟨w.heap.size, 3, none⟩ = some (.int .i64 G) ∧ w'.cell? ⟨w.heap.size, 4, none⟩ = some (.int .i64 Fi) ∧ w'.cell? ⟨w.heap.size, 5, none⟩ = some (.slice PA PL PC) ∧ w'.cell? ⟨w.heap.size + 1, 0, none⟩ = some (.int .i64 f.kind) ∧ w'.cell? ⟨w.heap.size + 1, 1, none⟩ = some (.int .i64 f.round) ∧ w'.cell? ⟨w.heap.size + 1, 2, none⟩ = some (.int .i64 f.slot) ∧ w'.cell? ⟨w.heap.size + 1, 3, none⟩ = some (.int .i64 f.pk) ∧ w'.cell? ⟨w.heap.size + 1, 4, none⟩ = some (.int .i64 f.pv) ∧ w'.cell? ⟨w.heap.size + 1, 5, none⟩ = some (.slice EA f.echo.length EC))) (by kernel_rfl) (by have := HH2.out; exact this) (fun hHeld => ?_)
    refine rgT 0 ?_
    refine rgT 1 ?_
    refine rgT 2 ?_
    refine rgT 3 ?_
    refine rgT 4 ?_
    refine rgT 5 ?_
    refine rgT 6 ?_
    refine rgT 7 ?_
    refine wpAnyH_ready (rs := [8]) (by kernel_rfl) (by simp) (AllReadyH.cons rfl (fun K hK => ?_) AllReadyH.nil)
    go_simp
    refine (HEc.out _).mono ?_
    rintro e w3 ⟨rfl, hb3⟩
    go_simp
    have hz3 : w.heap.size + 1 < w3.heap.size := by have := hb3.size; simp at this; omega
    have hB3 : Below w.heap.size w w3 := hB2.trans (Below.mono (show Below w2.heap.size w2 w3 from ⟨hb3.os, hb3.tape, hb3.output, hb3.size, hb3.block⟩) (by omega))
    replace hHeld := KP.out _ _ (by first | exact hz2 | (simp; omega)) hb3 hHeld
    refine hK.out _ _ hHeld (fun hHeld => ?_)
    clear hK K
    refine rgT 9 ?_
    refine rgT 10 ?_
    refine wpAnyH_done (by kernel_rfl) ?_ _
    have h11 := hHeld.2.2.2.2.2.2.2.2.2.2.2
    clear hHeld HH2 hb3 hB2
    go_wp2_with fail
    refine (HIt.out _ (HE.out.below (Below.mono (show Below w.heap.size w w3 from hB3) (Nat.le_refl _)))).mono ?_
    rintro e w4 ⟨rfl, hb4⟩
    go_wp2
    go_ret
    exact ⟨rfl, hB3.trans (hb4.mono (by omega))⟩
end Go.Proofs.YtdbempiompiioaaGreat.A26
namespace Go.Proofs.YtdbempiompiioaaGreat.A27
open Go.RowKit A1 A2 A3 A4 A5 A6 A7 A8 A9 A10 A11 A12 A13 A14 A15 A16 A17 A18 A19 A20 A21 A22 A23 A24 A25 A26

def itemCells : List (Nat × Nat) → List Value
  | [] => []
  | i :: r => .int .i64 i.1 :: .int .i64 i.2 :: itemCells r
theorem itemCells_append (a b : List (Nat × Nat)) : itemCells (a ++ b) = itemCells a ++ itemCells b := by
  induction a with
  | nil => rfl
  | cons x r ih => simp [itemCells, ih]
theorem itemCells_length (l : List (Nat × Nat)) : (itemCells l).length = l.length * 2 := by
  induction l with
  | nil => rfl
  | cons x r ih => simp [itemCells, ih]; omega
theorem itemCells_at (l : List (Nat × Nat)) : ∀ k, k < l.length → (itemCells l)[k * 2]? = some (.int .i64 (l.getD k (0, 0)).1) ∧ (itemCells l)[k * 2 + 1]? = some (.int .i64 (l.getD k (0, 0)).2) := by
  induction l with
  | nil => intro k hk; exact absurd hk (by simp)
  | cons x r ih =>
    intro k hk
    cases k with
    | zero => exact ⟨rfl, rfl⟩
    | succ k =>
      obtain ⟨h1, h2⟩ := ih k (by simpa using hk)
      have e1 : (k + 1) * 2 = k * 2 + 2 := by omega
      rw [e1]
      exact ⟨h1, h2⟩
theorem itemCells_one (l : List (Nat × Nat)) : ∀ u ∈ itemCells l, u.oneCell' = true := by
  induction l with
  | nil => intro u hu; cases hu
  | cons x r ih =>
    intro u hu
    simp [itemCells] at hu
    rcases hu with rfl | rfl | hu
    · rfl
    · rfl
    · exact ih u hu
theorem items_of_own {w : World} {base : Nat} {v : Value} {l : List (Nat × Nat)} (h : w.ownsRow base 44 2 v l.length (itemCells l)) :
    ∃ A C, v = .slice A l.length C ∧ Items w A l ∧ l.length ≤ C ∧ (A = none → v = .slice none 0 0 ∧ l = []) ∧ ∀ b off, A = some ⟨b, off, none⟩ → off = 0 ∧ base ≤ b ∧ b < w.heap.size := by
  by_cases hl : l.length = 0
  · rcases h.2 with ⟨h1, _⟩ | ⟨g, cap, cur, h1, hb, hg, hc, _⟩
    · obtain rfl : l = [] := by cases l; rfl; simp at hl
      exact ⟨none, 0, by rw [h1]; rfl, fun k hk => absurd hk (by simp), Nat.le_refl _, fun _ => ⟨h1, rfl⟩, (fun b off e => by cases e)⟩
    · refine ⟨_, _, h1, fun k hk => absurd hk (by omega), by omega, (fun e => by cases e), fun b off e => ?_⟩
      cases e
      exact ⟨rfl, hb, heap_lt hg⟩
  · obtain ⟨g, cap, hv, _, hlt⟩ := World.ownsRow.form h (by omega)
    have hc := World.ownsRow.cells h (g := g) (by rw [hv]; rfl)
    rcases h.2 with ⟨h1, _⟩ | ⟨g', cap', cur, h1, hb, hg, hc', _⟩
    · rw [hv] at h1; cases h1
    · rw [hv] at h1
      cases h1
      refine ⟨_, _, hv, fun k hk => ⟨g, 0, rfl, hlt, ?_, ?_⟩, by assumption, (fun e => by cases e), fun b off e => ?_⟩
      · have := hc _ _ (itemCells_at l k hk).1
        rw [Nat.zero_add]
        simpa [Addr.add_lit] using this
      · have := hc _ _ (itemCells_at l k hk).2
        rw [Nat.zero_add]
        simpa [Addr.add_lit] using this
      · cases e
        exact ⟨rfl, hb, hlt⟩
def strLen (w : World) (R : Nat) : Nat := match w.cell? ⟨R, 0, none⟩ with | some (.string s) => s.size | _ => 0
theorem RdAt.len {w : World} {R : Nat} {l : List UInt8} (h : RdAt w R l) : strLen w R = l.length := by
  unfold strLen
  rw [h.cell]
  rfl
theorem echo_drop {l : List (Nat × Nat)} {k : Nat} (h : k < l.length) : echoL (l.drop k) = itemL (l.getD k (0, 0)) ++ echoL (l.drop (k + 1)) := by
  rw [List.drop_eq_getElem_cons h, List.getD_eq_getElem?_getD, List.getElem?_eq_getElem h]
  rfl
theorem cells_snoc {l : List (Nat × Nat)} {k : Nat} (h : k < l.length) : itemCells (l.take (k + 1)) = itemCells (l.take k) ++ [.int .i64 (l.getD k (0, 0)).1, .int .i64 (l.getD k (0, 0)).2] := by
  rw [List.take_succ_eq_append_getElem h, itemCells_append, List.getD_eq_getElem?_getD, List.getElem?_eq_getElem h]
  rfl
end Go.Proofs.YtdbempiompiioaaGreat.A27
namespace Go.Proofs.YtdbempiompiioaaGreat.A28
open Go.RowKit A1 A2 A3 A4 A5 A6 A7 A8 A9 A10 A11 A12 A13 A14 A15 A16 A17 A18 A19 A20 A21 A22 A23 A24 A25 A26 A27

set_option maxRecDepth 100000 in
set_option maxHeartbeats 2000000 in
theorem Read_no (N Pi Er G Fi : Int) (PA : Option Addr) (PL PC : Nat) (s : ByteArray) (w : World) (h4 : s.size ≤ 4000) (ht : Lib.hasSuffix s.data.toList [35] = false) :
    Calls Tryz.prog 179 #[.agg #[.int .i64 N, .int .i64 Pi, .int .i64 Er, .int .i64 G, .int .i64 Fi, .slice PA PL PC], .string s] w fun e w' => e = .returned (.tuple #[.agg #[.int .i64 0, .int .i64 0, .int .i64 0, .int .i64 0, .int .i64 0, .slice none 0 0], .int .i64 4]) ∧ Below w.heap.size w w' := by
  have H := Lib.hid (fun w => Open_no s w h4 ht)
  clear ht
  go_enter Tryz.func179, Tryz.ntmps179
  go_wp2_with fail
  refine (H.out _).mono ?_
  rintro e w1 ⟨rfl, hb1⟩
  have bx : w1.heap[w.heap.size + 1]? = some (.cells #[.int .i64 0, .int .i64 0, .int .i64 0, .int .i64 0, .int .i64 0, .slice none 0 0] 118 (0, 0)) := (hb1.block _ (by simp)).trans (by
    have := heap_alloc_new (w.alloc (.cells #[.int .i64 N, .int .i64 Pi, .int .i64 Er, .int .i64 G, .int .i64 Fi, .slice PA PL PC] 24)) (.cells #[.int .i64 0, .int .i64 0, .int .i64 0, .int .i64 0, .int .i64 0, .slice none 0 0] 118)
    simpa using this)
  have x0 : w1.cell? ⟨w.heap.size + 1, 0, none⟩ = some (.int .i64 0) := by simp [World.cell?, bx]
  have x1 : w1.cell? ⟨w.heap.size + 1, 1, none⟩ = some (.int .i64 0) := by simp [World.cell?, bx]
  have x2 : w1.cell? ⟨w.heap.size + 1, 2, none⟩ = some (.int .i64 0) := by simp [World.cell?, bx]
  have x3 : w1.cell? ⟨w.heap.size + 1, 3, none⟩ = some (.int .i64 0) := by simp [World.cell?, bx]
  have x4 : w1.cell? ⟨w.heap.size + 1, 4, none⟩ = some (.int .i64 0) := by simp [World.cell?, bx]
  have x5 : w1.cell? ⟨w.heap.size + 1, 5, none⟩ = some (.slice none 0 0) := by simp [World.cell?, bx]
  have y0 : ∀ o, w1.frozen? ⟨w.heap.size + 1, o, none⟩ = false := fun o => by simp [World.frozen?, bx]
  have hB1 : Below w.heap.size w w1 := Below.trans (show Below w.heap.size w _ from (by repeat (first | exact Below.refl _ _ | refine Below.drew ?_ | refine below_drewN ?_ _ | refine Below.alloc ?_ (by simp; try omega) _))) (hb1.mono (by simp; omega))
  clear bx
  go_wp2
  refine bodyPost_ret (v := .tuple #[.agg #[.int .i64 0, .int .i64 0, .int .i64 0, .int .i64 0, .int .i64 0, .slice none 0 0], .int .i64 4]) (by simp [results, Tryz.results179, go_sem, x0, x1, x2, x3, x4, x5]) rfl ⟨rfl, ?_⟩
  refine Below.setCell ?_ (by first | (simp; done) | (simp; omega)) _
  refine Below.setCell ?_ (by first | (simp; done) | (simp; omega)) _
  refine Below.setCell ?_ (by first | (simp; done) | (simp; omega)) _
  refine Below.setCell ?_ (by first | (simp; done) | (simp; omega)) _
  refine Below.setCell ?_ (by first | (simp; done) | (simp; omega)) _
  refine Below.setCell ?_ (by first | (simp; done) | (simp; omega)) _
  exact hB1
def RetFr (f : Fr) (w : World) (e : Ending) (w' : World) : Prop := ∃ EA EC, e = .returned (.tuple #[.agg #[.int .i64 f.kind, .int .i64 f.round, .int .i64 f.slot, .int .i64 f.pk, .int .i64 f.pv, .slice EA f.echo.length EC], .int .i64 0]) ∧ Items w' EA f.echo ∧ (∀ b off, EA = some ⟨b, off, none⟩ → w.heap.size ≤ b) ∧ Below w.heap.size w w'
end Go.Proofs.YtdbempiompiioaaGreat.A28
