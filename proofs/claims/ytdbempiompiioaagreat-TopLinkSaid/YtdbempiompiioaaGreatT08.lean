/- Numbers as bits: sym.Bits; sums: crc.Sum. Sums: crc.Sum, crc.Wrap. A frame's text. A reader of bits: numbers, items. Conditions: the bounds stated in each theorem. -/
import Derived.Test.YtdbempiompiioaaGreatT04
import Derived.Test.YtdbempiompiioaaGreatT07
import Derived.Laws.IdiomStrings
import Derived.Laws.BitsAllLaws
set_option linter.unusedVariables false
set_option linter.unusedSimpArgs false
namespace Go.Proofs.YtdbempiompiioaaGreat.A20
open Go.RowKit A1 A2 A3 A4 A5 A6 A7 A8 A9 A10 A11 A12 A13 A14 A15 A16 A17 A18 A19

def sg (b : Nat) : UInt8 := if b = 0 then 48 else 49
def bitAt (x size i : Nat) : Nat := x / 2 ^ (size - 1 - i) % 2
def bitsL (x size : Nat) : List UInt8 := (List.range size).map (fun i => sg (bitAt x size i))
theorem bitsL_length (x size : Nat) : (bitsL x size).length = size := by simp [bitsL]
theorem sg_toNat (b : Nat) (h : b < 2) : (sg b).toNat = 48 + b := by
  have : b = 0 ∨ b = 1 := by omega
  rcases this with rfl | rfl <;> rfl
theorem bitAt_lt (x size i : Nat) : bitAt x size i < 2 := Nat.mod_lt _ (by decide)
theorem and_one (x : Int) (h0 : 0 ≤ x) (h1 : x < 9223372036854775808) : bits BinOp.and IntKind.i64 x 1 = x % 2 := by
  have h := bits_mask .i64 63 (by decide) (fun n h0 h1 => by rw [two63] at h1; rw [IntKind.wrap_i64]; omega) 1 (by decide) x h0 (by rw [two63]; omega)
  have e : ((2 : Int) ^ 1 - 1) = 1 := by decide
  have e2 : ((2 : Int) ^ 1) = 2 := by decide
  rw [e, e2] at h
  exact h
theorem info5' : (Tryz.prog.info? 5).map (fun i => (i.zero, i.size, i.bytes)) = some (some (.int .u8 0), 1, 1) := by kernel_rfl
theorem mk161 (n : Nat) (hn : n ≤ 100) (w : World) : (Instr.makeSlice 161 (.int .i64 (n : Int)) (.int .i64 (n : Int))).run Tryz.prog w = .ok (.slice (some ⟨w.heap.size, 0, none⟩) n n) (w.alloc (.cells (madeCells #[.int .u8 0] (n * 1)) 5)) := by
  obtain ⟨i, hi, hz, hs, hb⟩ := info_parts info5'
  have := run_make_n (P := Tryz.prog) 161 5 i _ Tryz.underlying161 hi hz n hn (by omega) w
  rw [hs] at this
  exact this
theorem shr_nat (x k : Nat) : (x : Int) / 2 ^ k = ((x / 2 ^ k : Nat) : Int) := by
  rw [Int.natCast_ediv]
  simp
set_option maxRecDepth 100000 in
set_option maxHeartbeats 2000000 in
theorem sym_Bits (x size : Nat) (w : World) (hx : x ≤ 100000) (h1 : 1 ≤ size) (h2 : size ≤ 62) :
    Calls Tryz.prog 100 #[.int .i64 x, .int .i64 size] w fun e w' => e = .returned (.string ⟨(bitsL x size).toArray⟩) ∧ Below w.heap.size w w' := by
  have d1 : decide ((size : Int) < 1) = false := by simp; omega
  have d2 : decide ((size : Int) > 62) = false := by simp; omega
  have m1 := mk161 size (by omega)
  go_enter Tryz.func100, Tryz.ntmps100
  go_wp2
  have hz0 : (w.alloc (.cells (madeCells #[.int .u8 0] size) 5)).heap[w.heap.size]? = some (.cells (madeCells #[.int .u8 0] size) 5 (0, 0)) := heap_alloc_new w _
  have hc0 : ∀ j, j < size → ∃ v, (w.alloc (.cells (madeCells #[.int .u8 0] size) 5)).cell? ⟨w.heap.size, j, none⟩ = some v := fun j hj => ⟨_, (Lib.cell_of_heap hz0 j).trans (made_at _ _ _ hj)⟩
  have hf0 : ∀ j, (w.alloc (.cells (madeCells #[.int .u8 0] size) 5)).frozen? ⟨w.heap.size, j, none⟩ = false := fun j => Lib.frozen_of_heap hz0 j
  have HC0 := Lib.hid hc0
  have HF0 := Lib.hid hf0
  clear m1 hz0 hc0 hf0
  go_loopw [17] (fun t wr => ∃ k : Nat, k ≤ size ∧ t = .int .i64 k ∧ Hid ((∀ j, j < size → ∃ v, wr.cell? ⟨w.heap.size, j, none⟩ = some v) ∧ (∀ j, wr.frozen? ⟨w.heap.size, j, none⟩ = false) ∧ ∀ j, j < k → wr.cell? ⟨w.heap.size, j, none⟩ = some (.int .u8 (sg (bitAt x size j)).toNat)) ∧ w.heap.size < wr.heap.size ∧ Below w.heap.size w wr) (fun t _ => size - (intOf t).toNat)
  case atStart => exact ⟨0, by omega, rfl, ⟨HC0.out, HF0.out, fun j hj => absurd hj (by omega)⟩, by simp, (Below.refl _ _).alloc (Nat.le_refl _) _⟩
  case round =>
    obtain ⟨k, hk, rfl, HH, hlt, hbr⟩ := hrel
    clear HC0 HF0
    by_cases hks : k < size
    · obtain ⟨v, hv⟩ := HH.out.1 k hks
      have hf := HH.out.2.1 k
      have hval : wrap64 (48 + bits BinOp.and IntKind.i64 ((x : Int) / 2 ^ (size - 1 - k)) 1) % 256 = (((sg (bitAt x size k)).toNat : Nat) : Int) := by
        have hle : x / 2 ^ (size - 1 - k) ≤ x := Nat.div_le_self _ _
        rw [shr_nat, sg_toNat _ (bitAt_lt _ _ _)]
        unfold bitAt
        generalize x / 2 ^ (size - 1 - k) = q at *
        rw [and_one (q : Int) (by omega) (by omega)]
        rw [show wrap64 (48 + (q : Int) % 2) = 48 + (q : Int) % 2 by unfold wrap64; omega]
        omega
      have HV := Lib.hid hval
      clear hval
      go_wp2
      rw [HV.out]
      go_roundw
      case rel =>
        refine ⟨k + 1, by omega, by go_num, ⟨fun j hj => ?_, fun j => ?_, fun j hj => ?_⟩, by simp [World.setCell]; exact hlt, hbr.setCell (p := ⟨w.heap.size, k, none⟩) (Nat.le_refl _) _⟩
        · obtain ⟨u, hu⟩ := HH.out.1 j hj
          exact cell?_setCell_some hu
        · rw [World.frozen?_setCell]; exact HH.out.2.1 j
        · by_cases e : j = k
          · subst e; exact World.cell?_setCell_same _ _ _ hv
          · rw [World.cell?_setCell_other _ _ _ _ (fun h => e (by injection h with _ h2; exact h2.symm))]
            exact HH.out.2.2 j (by omega)
      case measure => simp [intOf]; omega
    · obtain rfl : k = size := by omega
      have hcv : ∀ W' : World, W' = wr → (convert 161 9 (.slice (some ⟨w.heap.size, 0, none⟩) k k)).run Tryz.prog W' = .ok (.string ⟨(bitsL x k).toArray⟩) W' := by
        rintro W' rfl
        have := run_convert_bytes_back (P := Tryz.prog) W' 161 9 5 ⟨w.heap.size, 0, none⟩ k (bitsL x k) Tryz.underlying161 Tryz.underlying5 Tryz.underlying9 (fun j hj => by
          have hj' : j < k := by simpa [bitsL_length] using hj
          have e : (bitsL x k)[j] = sg (bitAt x k j) := by simp [bitsL]
          rw [e]
          have := HH.out.2.2 j hj'
          rw [← this]
          congr 1
          unfold Addr.add
          split
          · simp_all
          · simp)
        rw [bitsL_length] at this
        exact this
      have hcv := hcv wr rfl
      go_wp2
      go_ret
      exact ⟨rfl, hbr⟩
end Go.Proofs.YtdbempiompiioaaGreat.A20
namespace Go.Proofs.YtdbempiompiioaaGreat.A21
open Go.RowKit A1 A2 A3 A4 A5 A6 A7 A8 A9 A10 A11 A12 A13 A14 A15 A16 A17 A18 A19 A20

theorem ofInt_i64 (a : Nat) (ha : a < 9223372036854775808) : (BitVec.ofInt 64 (a : Int)).toNat = a := by
  rw [BitVec.ofInt_natCast, BitVec.toNat_ofNat]; exact Nat.mod_eq_of_lt (by omega)
theorem i64_or_nat (a b : Nat) (ha : a < 9223372036854775808) (hb : b < 9223372036854775808) : bits .or .i64 (a : Int) (b : Int) = ((a ||| b : Nat) : Int) := by
  have hx : a ||| b < 2 ^ 63 := Nat.or_lt_two_pow (by omega) (by omega)
  show IntKind.i64.wrap ((BitVec.ofInt 64 (a : Int) ||| BitVec.ofInt 64 (b : Int)).toNat : Int) = _
  rw [BitVec.toNat_or, ofInt_i64 a ha, ofInt_i64 b hb, IntKind.wrap_i64]
  omega
theorem i64_xor_nat (a b : Nat) (ha : a < 9223372036854775808) (hb : b < 9223372036854775808) : bits .xor .i64 (a : Int) (b : Int) = ((a ^^^ b : Nat) : Int) := by
  have hx : a ^^^ b < 2 ^ 63 := Nat.xor_lt_two_pow (by omega) (by omega)
  show IntKind.i64.wrap ((BitVec.ofInt 64 (a : Int) ^^^ BitVec.ofInt 64 (b : Int)).toNat : Int) = _
  rw [BitVec.toNat_xor, ofInt_i64 a ha, ofInt_i64 b hb, IntKind.wrap_i64]
  omega
def crcStep (n : Nat) (c : UInt8) : Nat := if n / 32768 = c.toNat - 48 then 2 * n % 65536 else (2 * n % 65536) ^^^ 4129
def sumL (l : List UInt8) : Nat := l.foldl crcStep 65535
theorem crcStep_lt (n : Nat) (c : UInt8) : crcStep n c < 65536 := by
  unfold crcStep
  split
  · omega
  · exact Nat.xor_lt_two_pow (n := 16) (by omega) (by omega)
theorem sumL_snoc (l : List UInt8) (c : UInt8) : sumL (l ++ [c]) = crcStep (sumL l) c := by simp [sumL]
theorem sumL_lt (l : List UInt8) : sumL l < 65536 := by
  rcases List.eq_nil_or_concat l with rfl | ⟨r, c, rfl⟩
  · decide
  · rw [List.concat_eq_append, sumL_snoc]; exact crcStep_lt _ _
def BitsOnly (s : ByteArray) : Prop := s.size ≤ 4000 ∧ ∀ i (h : i < s.size), (s[i]'h).toNat = 48 ∨ (s[i]'h).toNat = 49
theorem take_snoc (s : ByteArray) (k : Nat) (h : k < s.size) : s.data.toList.take (k + 1) = s.data.toList.take k ++ [s[k]] := by
  rw [List.take_succ_eq_append_getElem (by simpa using h)]; rfl
theorem ands : bits BinOp.and IntKind.i64 0 1 = 0 ∧ bits BinOp.and IntKind.i64 1 1 = 1 := by decide
set_option maxRecDepth 100000 in
set_option maxHeartbeats 1000000 in
theorem crc_Sum (s : ByteArray) (w : World) (hs : BitsOnly s) :
    Calls Tryz.prog 143 #[.string s] w fun e w' => e = .returned (.int .i64 (sumL s.data.toList : Nat)) ∧ Below w.heap.size w w' := by
  obtain ⟨h4, hb⟩ := hs
  have HB := Lib.hid hb
  obtain ⟨a0, a1⟩ := ands
  clear hb
  go_enter Tryz.func143, Tryz.ntmps143
  go_wp2
  go_loopw [3] (fun t wr => ∃ pos : Nat, pos ≤ s.size ∧ wr = w.iter s pos ∧ t = .int .i64 (sumL (s.data.toList.take pos) : Nat)) (fun _ wr => s.size - wr.iterPos w.heap.size)
  case atStart => exact ⟨0, Nat.zero_le _, rfl, rfl⟩
  case round =>
    obtain ⟨pos, hp, rfl, rfl⟩ := hrel
    by_cases hlt : pos < s.size
    · have h3 := HB.out pos hlt
      have ha : (s[pos]'hlt).toNat < 128 := by omega
      have hnx := fun ty => run_next_ascii (P := Tryz.prog) w s pos ty hlt ha
      have hsn : sumL (s.data.toList.take (pos + 1)) = crcStep (sumL (s.data.toList.take pos)) s[pos] := by rw [take_snoc s pos hlt, sumL_snoc]
      have hl := sumL_lt (s.data.toList.take pos)
      have HSN := Lib.hid hsn
      clear hsn
      generalize hn : sumL (s.data.toList.take pos) = n at *
      have hand : bits BinOp.and IntKind.i64 ((n : Int) * 2) 65535 = ((2 * n % 65536 : Nat) : Int) := by rw [and_wires _ (by omega) (by omega)]; omega
      have hxor : bits BinOp.xor IntKind.i64 ((2 * n % 65536 : Nat) : Int) 4129 = (((2 * n % 65536) ^^^ 4129 : Nat) : Int) := i64_xor_nat _ 4129 (by omega) (by decide)
      have HX := Lib.hid hxor
      have HA := Lib.hid hand
      clear hand hxor hn
      rcases h3 with h | h
      · have H := Lib.hid h
        rw [h] at hnx
        clear h
        by_cases hq : n < 32768
        · have HD := Lib.hid (show (n : Int) / 32768 = 0 by omega)
          have hd := HD.out
          go_wp2
          rw [HA.out]
          go_roundw
          case rel => exact ⟨pos + 1, by omega, rfl, by rw [HSN.out]; unfold crcStep; rw [if_pos (show n / 32768 = (s[pos]'hlt).toNat - 48 by rw [H.out]; omega)]⟩
          case measure => simp; omega
        · have HD := Lib.hid (show (n : Int) / 32768 = 1 by omega)
          have hd := HD.out
          go_wp2
          rw [HA.out, HX.out]
          go_roundw
          case rel => exact ⟨pos + 1, by omega, rfl, by rw [HSN.out]; unfold crcStep; rw [if_neg (show ¬ n / 32768 = (s[pos]'hlt).toNat - 48 by rw [H.out]; omega)]⟩
          case measure => simp; omega
      · have H := Lib.hid h
        rw [h] at hnx
        clear h
        by_cases hq : n < 32768
        · have HD := Lib.hid (show (n : Int) / 32768 = 0 by omega)
          have hd := HD.out
          go_wp2
          rw [HA.out, HX.out]
          go_roundw
          case rel => exact ⟨pos + 1, by omega, rfl, by rw [HSN.out]; unfold crcStep; rw [if_neg (show ¬ n / 32768 = (s[pos]'hlt).toNat - 48 by rw [H.out]; omega)]⟩
          case measure => simp; omega
        · have HD := Lib.hid (show (n : Int) / 32768 = 1 by omega)
          have hd := HD.out
          go_wp2
          rw [HA.out]
          go_roundw
          case rel => exact ⟨pos + 1, by omega, rfl, by rw [HSN.out]; unfold crcStep; rw [if_pos (show n / 32768 = (s[pos]'hlt).toNat - 48 by rw [H.out]; omega)]⟩
          case measure => simp; omega
    · have hnx := fun ty => run_next_end (P := Tryz.prog) w s pos ty hlt
      have hp' : s.data.toList.take pos = s.data.toList := by
        refine List.take_of_length_le ?_
        have : s.data.toList.length = s.size := by simp
        omega
      rw [hp']
      clear hp'
      go_wp2
      go_ret
      exact ⟨rfl, (Below.refl _ _).alloc (Nat.le_refl _) _⟩
def wrapL (l : List UInt8) : List UInt8 := l ++ bitsL (sumL l) 16 ++ [35]
set_option maxRecDepth 100000 in
theorem crc_Wrap (l : List UInt8) (w : World) (hs : BitsOnly ⟨l.toArray⟩) :
    Calls Tryz.prog 102 #[.string ⟨l.toArray⟩] w fun e w' => e = .returned (.string ⟨(wrapL l).toArray⟩) ∧ Below w.heap.size w w' := by
  have hlt := sumL_lt l
  have HS := Lib.hid (fun w => crc_Sum ⟨l.toArray⟩ w hs)
  have HB := Lib.hid (fun w => sym_Bits (sumL l) 16 w (by omega) (by decide) (by decide))
  have hsz : (⟨l.toArray⟩ : ByteArray).size = l.length := rfl
  have h4 := hs.1
  rw [hsz] at h4
  have HW : Hid (wrapL l = l ++ bitsL (sumL l) 16 ++ [35]) := rfl
  clear hs hsz
  go_enter Tryz.func102, Tryz.ntmps102
  go_wp2_with fail
  refine (HS.out _).mono ?_
  rintro e w1 ⟨rfl, hb1⟩
  go_wp2_with fail
  refine (HB.out _).mono ?_
  rintro e w2 ⟨rfl, hb2⟩
  have hbl := bitsL_length (sumL l) 16
  go_wp2
  go_ret
  refine ⟨?_, hb1.trans (hb2.mono hb1.size)⟩
  rw [HW.out]
  first | rfl | (simp; done)
end Go.Proofs.YtdbempiompiioaaGreat.A21
namespace Go.Proofs.YtdbempiompiioaaGreat.A22
open Go.RowKit A1 A2 A3 A4 A5 A6 A7 A8 A9 A10 A11 A12 A13 A14 A15 A16 A17 A18 A19 A20 A21

structure Fr where
  kind : Nat
  round : Nat
  slot : Nat
  pk : Nat
  pv : Nat
  echo : List (Nat × Nat)
def itemL (i : Nat × Nat) : List UInt8 := bitsL i.1 2 ++ bitsL i.2 8
def headL (f : Fr) : List UInt8 := bitsL f.kind 2 ++ bitsL f.round 16 ++ bitsL f.slot 6 ++ itemL (f.pk, f.pv)
def echoL : List (Nat × Nat) → List UInt8
  | [] => []
  | i :: r => itemL i ++ echoL r
def bodyL (f : Fr) : List UInt8 := headL f ++ echoL f.echo
def textB (f : Fr) : ByteArray := ⟨(wrapL (bodyL f)).toArray⟩
theorem echoL_append (a b : List (Nat × Nat)) : echoL (a ++ b) = echoL a ++ echoL b := by
  induction a with
  | nil => rfl
  | cons x r ih => simp [echoL, ih]
theorem itemL_length (i : Nat × Nat) : (itemL i).length = 10 := by simp [itemL, bitsL_length]
theorem headL_length (f : Fr) : (headL f).length = 34 := by simp [headL, bitsL_length, itemL_length]
theorem echoL_length (l : List (Nat × Nat)) : (echoL l).length = 10 * l.length := by
  induction l with
  | nil => rfl
  | cons x r ih => simp [echoL, ih, itemL_length]; omega
def AllBits (l : List UInt8) : Prop := ∀ c ∈ l, c.toNat = 48 ∨ c.toNat = 49
theorem bits_all (x size : Nat) : AllBits (bitsL x size) := by
  intro c hc
  unfold bitsL at hc
  rw [List.mem_map] at hc
  obtain ⟨i, _, rfl⟩ := hc
  have := bitAt_lt x size i
  rw [sg_toNat _ this]
  omega
theorem AllBits.app {a b : List UInt8} (ha : AllBits a) (hb : AllBits b) : AllBits (a ++ b) := fun c hc => by
  rcases List.mem_append.1 hc with h | h
  · exact ha c h
  · exact hb c h
theorem item_all (i : Nat × Nat) : AllBits (itemL i) := (bits_all _ _).app (bits_all _ _)
theorem echo_all (l : List (Nat × Nat)) : AllBits (echoL l) := by
  induction l with
  | nil => intro c hc; cases hc
  | cons x r ih => exact (item_all x).app ih
theorem head_all (f : Fr) : AllBits (headL f) := (((bits_all _ _).app (bits_all _ _)).app (bits_all _ _)).app (item_all _)
theorem body_all (f : Fr) : AllBits (bodyL f) := (head_all f).app (echo_all _)
theorem bitsOnly_of {l : List UInt8} (h : AllBits l) (hl : l.length ≤ 4000) : BitsOnly ⟨l.toArray⟩ := by
  refine ⟨hl, fun i hi => ?_⟩
  have he : (⟨l.toArray⟩ : ByteArray)[i]'hi = l[i]'hi := rfl
  rw [he]
  exact h _ (List.getElem_mem _)
theorem cat (a b : List UInt8) : (⟨a.toArray⟩ : ByteArray) ++ ⟨b.toArray⟩ = ⟨(a ++ b).toArray⟩ := by
  first | rfl | simp
theorem strCells_of (l : List UInt8) : Lib.strCells ⟨l.toArray⟩ = Lib.byteCells l := rfl
theorem Bd_below {b : Nat} {bs : List Value} {w w' : World} (h : Bd b bs w) (hb : Below w.heap.size w w') : Bd b bs w' := by
  have key : ∀ q, Lib.BuilderAtF 163 5 b b q bs w → Lib.BuilderAtF 163 5 b b q bs w' := fun q hh => by
    have hlt := hh.lt
    obtain ⟨hB, v, hbk, hown, hne⟩ := hh
    refine ⟨hB, v, (hb.block b hlt).trans hbk, ?_, hne⟩
    refine hown.kept (row := none) ⟨hb.os, hb.tape, hb.output, hb.size, fun k hk _ => hb.block k hk⟩ ?_
    rcases hv : v.ownBlock with _ | q
    · exact .inl rfl
    · exact .inr (by simp)
  exact h.elim (fun x => .inl (key _ x)) (fun x => .inr (key _ x))
theorem Bits2 (x : Nat) (w : World) (hx : x ≤ 100000) : Calls Tryz.prog 100 #[.int .i64 x, .int .i64 2] w fun e w' => e = .returned (.string ⟨(bitsL x 2).toArray⟩) ∧ Below w.heap.size w w' := sym_Bits x 2 w hx (by decide) (by decide)
theorem Bits6 (x : Nat) (w : World) (hx : x ≤ 100000) : Calls Tryz.prog 100 #[.int .i64 x, .int .i64 6] w fun e w' => e = .returned (.string ⟨(bitsL x 6).toArray⟩) ∧ Below w.heap.size w w' := sym_Bits x 6 w hx (by decide) (by decide)
theorem Bits8 (x : Nat) (w : World) (hx : x ≤ 100000) : Calls Tryz.prog 100 #[.int .i64 x, .int .i64 8] w fun e w' => e = .returned (.string ⟨(bitsL x 8).toArray⟩) ∧ Below w.heap.size w w' := sym_Bits x 8 w hx (by decide) (by decide)
theorem Bits16 (x : Nat) (w : World) (hx : x ≤ 100000) : Calls Tryz.prog 100 #[.int .i64 x, .int .i64 16] w fun e w' => e = .returned (.string ⟨(bitsL x 16).toArray⟩) ∧ Below w.heap.size w w' := sym_Bits x 16 w hx (by decide) (by decide)
set_option maxRecDepth 100000 in
theorem frame_item (k v : Nat) (w : World) (hk : k ≤ 100000) (hv : v ≤ 100000) :
    Calls Tryz.prog 101 #[.agg #[.int .i64 k, .int .i64 v]] w fun e w' => e = .returned (.string ⟨(itemL (k, v)).toArray⟩) ∧ Below w.heap.size w w' := by
  have H2 := Lib.hid (fun w => Bits2 k w hk)
  have H8 := Lib.hid (fun w => Bits8 v w hv)
  have hl2 := bitsL_length k 2
  have hl8 := bitsL_length v 8
  have HI : Hid (itemL (k, v) = bitsL k 2 ++ bitsL v 8) := rfl
  go_enter Tryz.func101, Tryz.ntmps101
  go_wp2
  refine wp_region_held_drew (S := fun w' => w'.cell? ⟨w.heap.size, 0, none⟩ = some (.int .i64 k) ∧ w'.cell? ⟨w.heap.size, 1, none⟩ = some (.int .i64 v)) (by kernel_rfl) (by go_keep) (fun hHeld => ?_)
  refine rgT 0 ?_
  refine rgT 1 ?_
  refine rgT 3 ?_
  refine rgT 4 ?_
  refine wpAnyH_ready (rs := [2]) (by kernel_rfl) (by simp) (AllReadyH.cons rfl (fun K hK => ?_) AllReadyH.nil)
  go_simp
  refine (H2.out _).mono ?_
  rintro e w1 ⟨rfl, hb1⟩
  go_simp
  have g0 : w1.cell? ⟨w.heap.size, 0, none⟩ = some (.int .i64 k) := (hb1.cell (p := ⟨w.heap.size, 0, none⟩) (by simp)).trans hHeld.1
  have g1 : w1.cell? ⟨w.heap.size, 1, none⟩ = some (.int .i64 v) := (hb1.cell (p := ⟨w.heap.size, 1, none⟩) (by simp)).trans hHeld.2
  refine hK.out _ _ ⟨g0, g1⟩ (fun hHeld2 => ?_)
  clear hK K
  refine wpAnyH_ready (rs := [5]) (by kernel_rfl) (by simp) (AllReadyH.cons rfl (fun K hK => ?_) AllReadyH.nil)
  go_simp
  refine (H8.out _).mono ?_
  rintro e w2 ⟨rfl, hb2⟩
  go_simp
  have hz1 : w.heap.size < w1.heap.size := by have := hb1.size; simp at this; omega
  refine hK.out _ _ ⟨(hb2.cell (p := ⟨w.heap.size, 0, none⟩) hz1).trans g0, (hb2.cell (p := ⟨w.heap.size, 1, none⟩) hz1).trans g1⟩ (fun hHeld3 => ?_)
  clear hK K
  refine rgT 6 ?_
  refine rgT 7 ?_
  refine wpAnyH_done (by kernel_rfl) ?_ _
  go_wp2
  go_ret
  refine ⟨by rw [HI.out, cat]; rfl, Below.trans (Below.trans ((Below.refl _ _).alloc (Nat.le_refl _) _) (show Below w.heap.size _ w1 from ⟨hb1.os, hb1.tape, hb1.output, by have := hb1.size; simpa using this, fun q hq => hb1.block q (by simp; omega)⟩)) (hb2.mono (by omega))⟩
def Items (w : World) (A : Option Addr) (l : List (Nat × Nat)) : Prop := ∀ k, k < l.length → ∃ b off, A = some ⟨b, off, none⟩ ∧ b < w.heap.size ∧ w.cell? ⟨b, off + k * 2, none⟩ = some (.int .i64 (l.getD k (0, 0)).1) ∧ w.cell? ⟨b, off + k * 2 + 1, none⟩ = some (.int .i64 (l.getD k (0, 0)).2)
theorem Items.below {w w1 : World} {A : Option Addr} {l : List (Nat × Nat)} (h : Items w A l) (hb : Below w.heap.size w w1) : Items w1 A l := fun k hk => by
  obtain ⟨b, off, e, h1, h2, h3⟩ := h k hk
  exact ⟨b, off, e, Nat.lt_of_lt_of_le h1 hb.size, (hb.cell (p := ⟨b, off + k * 2, none⟩) h1).trans h2, (hb.cell (p := ⟨b, off + k * 2 + 1, none⟩) h1).trans h3⟩
theorem echo_snoc {l : List (Nat × Nat)} {k : Nat} (h : k < l.length) : echoL (l.take (k + 1)) = echoL (l.take k) ++ itemL (l.getD k (0, 0)) := by
  rw [List.take_succ_eq_append_getElem h, echoL_append, List.getD_eq_getElem?_getD, List.getElem?_eq_getElem h]
  simp [echoL]
structure FrLow (f : Fr) : Prop where
  kind : f.kind ≤ 100000
  round : f.round ≤ 100000
  slot : f.slot ≤ 100000
  pk : f.pk ≤ 100000
  pv : f.pv ≤ 100000
  len : f.echo.length ≤ 100
  each : ∀ k, k < f.echo.length → (f.echo.getD k (0, 0)).1 ≤ 100000 ∧ (f.echo.getD k (0, 0)).2 ≤ 100000
set_option maxRecDepth 100000 in
set_option maxHeartbeats 2000000 in
theorem frame_Text (Cf : Array Value) (f : Fr) (EA : Option Addr) (EC : Nat) (w : World) (hC : Cf.size = 6) (hf : FrLow f) (hE : Items w EA f.echo) (N Pi Er G Fi : Int) (PA : Option Addr) (PL PC : Nat) (hCf : Cf = #[.int .i64 N, .int .i64 Pi, .int .i64 Er, .int .i64 G, .int .i64 Fi, .slice PA PL PC]) :
    Calls Tryz.prog 60 #[.agg #[.int .i64 N, .int .i64 Pi, .int .i64 Er, .int .i64 G, .int .i64 Fi, .slice PA PL PC], .agg #[.int .i64 f.kind, .int .i64 f.round, .int .i64 f.slot, .int .i64 f.pk, .int .i64 f.pv, .slice EA f.echo.length EC]] w fun e w' => e = .returned (.string (textB f)) ∧ Below w.heap.size w w' := by
  clear hC hCf Cf
  have HK := Lib.hid (fun w => Bits2 f.kind w hf.kind)
  have HR := Lib.hid (fun w => Bits16 f.round w hf.round)
  have HS := Lib.hid (fun w => Bits6 f.slot w hf.slot)
  have HP := Lib.hid (fun w => frame_item f.pk f.pv w hf.pk hf.pv)
  have HE := Lib.hid hE
  have HF := Lib.hid hf
  have hk2 := bitsL_length f.kind 2
  have hr16 := bitsL_length f.round 16
  have hs6 := bitsL_length f.slot 6
  have hi10 := itemL_length (f.pk, f.pv)
  have hl34 := headL_length f
  have hlen := hf.len
  have HHead : Hid (headL f = bitsL f.kind 2 ++ bitsL f.round 16 ++ bitsL f.slot 6 ++ itemL (f.pk, f.pv)) := rfl
  clear hE hf
  go_enter Tryz.func60, Tryz.ntmps60
  go_upto_region 2 with fail
  have hBd0 := Bd_new ((w.alloc (.cells #[.int .i64 N, .int .i64 Pi, .int .i64 Er, .int .i64 G, .int .i64 Fi, .slice PA PL PC] 24)).alloc (.cells #[.int .i64 f.kind, .int .i64 f.round, .int .i64 f.slot, .int .i64 f.pk, .int .i64 f.pv, .slice EA f.echo.length EC] 118))
  have HBd0 := Lib.hid hBd0
  clear hBd0
  have kp : ∀ W W' : World, w.heap.size + 1 < W.heap.size → Below W.heap.size W W' → (W.cell? ⟨w.heap.size + 1, 0, none⟩ = some (.int .i64 f.kind) ∧ W.cell? ⟨w.heap.size + 1, 1, none⟩ = some (.int .i64 f.round) ∧ W.cell? ⟨w.heap.size + 1, 2, none⟩ = some (.int .i64 f.slot) ∧ W.cell? ⟨w.heap.size + 1, 3, none⟩ = some (.int .i64 f.pk) ∧ W.cell? ⟨w.heap.size + 1, 4, none⟩ = some (.int .i64 f.pv) ∧ W.cell? ⟨w.heap.size + 1, 5, none⟩ = some (.slice EA f.echo.length EC)) → (W'.cell? ⟨w.heap.size + 1, 0, none⟩ = some (.int .i64 f.kind) ∧ W'.cell? ⟨w.heap.size + 1, 1, none⟩ = some (.int .i64 f.round) ∧ W'.cell? ⟨w.heap.size + 1, 2, none⟩ = some (.int .i64 f.slot) ∧ W'.cell? ⟨w.heap.size + 1, 3, none⟩ = some (.int .i64 f.pk) ∧ W'.cell? ⟨w.heap.size + 1, 4, none⟩ = some (.int .i64 f.pv) ∧ W'.cell? ⟨w.heap.size + 1, 5, none⟩ = some (.slice EA f.echo.length EC)) := fun W W' h hb hs => ⟨keep_of hs.1 h hb, keep_of hs.2.1 h hb, keep_of hs.2.2.1 h hb, keep_of hs.2.2.2.1 h hb, keep_of hs.2.2.2.2.1 h hb, keep_of hs.2.2.2.2.2 h hb⟩
  have KP := Lib.hid kp
  clear kp
  refine wp_region_held_drew (S := fun w' => (w'.cell? ⟨w.heap.size + 1, 0, none⟩ = some (.int .i64 f.kind) ∧ w'.cell? ⟨w.heap.size + 1, 1, none⟩ = some (.int .i64 f.round) ∧ w'.cell? ⟨w.heap.size + 1, 2, none⟩ = some (.int .i64 f.slot) ∧ w'.cell? ⟨w.heap.size + 1, 3, none⟩ = some (.int .i64 f.pk) ∧ w'.cell? ⟨w.heap.size + 1, 4, none⟩ = some (.int .i64 f.pv) ∧ w'.cell? ⟨w.heap.size + 1, 5, none⟩ = some (.slice EA f.echo.length EC))) (by kernel_rfl) (by go_keep) (fun hHeld => ?_)
  refine rgT 0 ?_
  refine rgT 1 ?_
  refine rgT 3 ?_
  refine rgT 4 ?_
  refine rgT 7 ?_
  refine rgT 8 ?_
  refine rgT 11 ?_
  refine rgT 12 ?_
  refine wpAnyH_ready (rs := [2]) (by kernel_rfl) (by simp) (AllReadyH.cons rfl (fun K hK => ?_) AllReadyH.nil)
  go_simp
  refine (HK.out _).mono ?_
  rintro e w1 ⟨rfl, hb1⟩
  go_simp
  have hz1 : w.heap.size + 2 < w1.heap.size := by have := hb1.size; simp at this; omega
  replace hHeld := KP.out _ _ (by first | omega | (simp; done) | (simp; omega)) hb1 hHeld
  refine hK.out _ _ hHeld (fun hHeld => ?_)
  clear hK K
  refine wpAnyH_ready (rs := [5]) (by kernel_rfl) (by simp) (AllReadyH.cons rfl (fun K hK => ?_) AllReadyH.nil)
  go_simp
  refine (HR.out _).mono ?_
  rintro e w2 ⟨rfl, hb2⟩
  go_simp
  have hz2 : w.heap.size + 2 < w2.heap.size := by have := hb2.size; omega
  replace hHeld := KP.out _ _ (by omega) hb2 hHeld
  refine hK.out _ _ hHeld (fun hHeld => ?_)
  clear hK K
  refine rgT 6 ?_
  refine wpAnyH_ready (rs := [9]) (by kernel_rfl) (by simp) (AllReadyH.cons rfl (fun K hK => ?_) AllReadyH.nil)
  go_simp
  refine (HS.out _).mono ?_
  rintro e w3 ⟨rfl, hb3⟩
  go_simp
  have hz3 : w.heap.size + 2 < w3.heap.size := by have := hb3.size; omega
  replace hHeld := KP.out _ _ (by omega) hb3 hHeld
  refine hK.out _ _ hHeld (fun hHeld => ?_)
  clear hK K
  refine rgT 10 ?_
  refine wpAnyH_ready (rs := [13]) (by kernel_rfl) (by simp) (AllReadyH.cons rfl (fun K hK => ?_) AllReadyH.nil)
  go_simp
  refine (HP.out _).mono ?_
  rintro e w4 ⟨rfl, hb4⟩
  go_simp
  have hz4 : w.heap.size + 2 < w4.heap.size := by have := hb4.size; omega
  replace hHeld := KP.out _ _ (by omega) hb4 hHeld
  refine hK.out _ _ hHeld (fun hHeld => ?_)
  clear hK K
  refine rgT 14 ?_
  have hb34 := (hb1.trans (hb2.mono hb1.size)).trans ((hb3.trans (hb4.mono hb3.size)).mono (Nat.le_trans hb1.size hb2.size))
  have hBd4 := Bd_below HBd0.out ⟨hb34.os, hb34.tape, hb34.output, hb34.size, hb34.block⟩
  have hBw4 : Below w.heap.size w w4 := Below.trans (show Below w.heap.size w _ from (by repeat (first | exact Below.refl _ _ | refine Below.drew ?_ | refine below_drewN ?_ _ | refine Below.alloc ?_ (by simp; try omega) _))) (Below.mono hb34 (by simp; omega))
  have HBw4 := Lib.hid hBw4
  have HBd4 := Lib.hid (show Bd (w.heap.size + 1 + 1) [] w4 by simpa using hBd4)
  clear hb34 hBd4 hb1 hb2 hb3 hb4 HBd0 hBw4
  refine wpAnyH_ready (rs := [15]) (by kernel_rfl) (by simp) (AllReadyH.cons rfl (fun K hK => ?_) AllReadyH.nil)
  go_simp
  simp only [cat]
  refine (WriteString (w.heap.size + 1 + 1) [] ⟨(bitsL f.kind 2 ++ bitsL f.round 16 ++ bitsL f.slot 6 ++ itemL (f.pk, f.pv)).toArray⟩ _ HBd4.out (by simp) (by show (List.toArray _).size ≤ _; simp [hk2, hr16, hs6, hi10])).mono ?_
  rintro e w5 ⟨rfl, hBd5, hb5⟩
  have HBd5 := Lib.hid (show Bd (w.heap.size + 1 + 1) (Lib.byteCells (headL f)) w5 by rw [HHead.out]; simpa [strCells_of] using hBd5)
  have hBw5 := HBw4.out.trans (hb5.mono (by omega))
  have HBw5 := Lib.hid hBw5
  have hz5 : w.heap.size + 2 < w5.heap.size := by have := hb5.size; omega
  replace hHeld : (w5.cell? ⟨w.heap.size + 1, 0, none⟩ = some (.int .i64 f.kind) ∧ w5.cell? ⟨w.heap.size + 1, 1, none⟩ = some (.int .i64 f.round) ∧ w5.cell? ⟨w.heap.size + 1, 2, none⟩ = some (.int .i64 f.slot) ∧ w5.cell? ⟨w.heap.size + 1, 3, none⟩ = some (.int .i64 f.pk) ∧ w5.cell? ⟨w.heap.size + 1, 4, none⟩ = some (.int .i64 f.pv) ∧ w5.cell? ⟨w.heap.size + 1, 5, none⟩ = some (.slice EA f.echo.length EC)) := ⟨(hb5.cell (p := ⟨w.heap.size + 1, 0, none⟩) (by simp)).trans hHeld.1, (hb5.cell (p := ⟨w.heap.size + 1, 1, none⟩) (by simp)).trans hHeld.2.1, (hb5.cell (p := ⟨w.heap.size + 1, 2, none⟩) (by simp)).trans hHeld.2.2.1, (hb5.cell (p := ⟨w.heap.size + 1, 3, none⟩) (by simp)).trans hHeld.2.2.2.1, (hb5.cell (p := ⟨w.heap.size + 1, 4, none⟩) (by simp)).trans hHeld.2.2.2.2.1, (hb5.cell (p := ⟨w.heap.size + 1, 5, none⟩) (by simp)).trans hHeld.2.2.2.2.2⟩
  go_simp
  refine hK.out _ _ hHeld (fun hHeld => ?_)
  have x5 := hHeld.2.2.2.2.2
  clear hK K hHeld hBd5 hb5 hBw5 HBd4 HBw4 KP HK HR HS HP
  refine wpAnyH_done (by kernel_rfl) ?_ _
  go_wp2
  go_loopw [27] (fun t wr => ∃ k : Nat, k ≤ f.echo.length ∧ t = .int .i64 k ∧ Bd (w.heap.size + 1 + 1) (Lib.byteCells (headL f ++ echoL (f.echo.take k))) wr ∧ w.heap.size + 2 < wr.heap.size ∧ Below w.heap.size w wr) (fun t _ => f.echo.length - (intOf t).toNat)
  case atStart => exact ⟨0, by omega, rfl, by simpa [echoL] using HBd5.out, hz5, HBw5.out⟩
  case round =>
    obtain ⟨k, hk, rfl, hBd, hz, hbr⟩ := hrel
    clear HBd5 HBw5 x5 hz5
    have hsz : (echoL (f.echo.take k)).length = 10 * k := by rw [echoL_length, List.length_take, Nat.min_eq_left hk]
    by_cases hlt : k < f.echo.length
    · have HSN := Lib.hid (echo_snoc hlt)
      have hl2 := HF.out.each k hlt
      obtain ⟨eb, eo, rfl, hel, hc0, hc1⟩ := (HE.out.below hbr) k hlt
      generalize hgi : f.echo.getD k (0, 0) = it at *
      obtain ⟨i1, i2⟩ := it
      have HIt := Lib.hid (fun w => frame_item i1 i2 w hl2.1 hl2.2)
      have HBd := Lib.hid hBd
      have HBr := Lib.hid hbr
      have lk0 : (0 : Int) ≤ (k : Int) := by omega
      have lk1 : (k : Int) < (f.echo.length : Int) := by omega
      have hi10' := itemL_length (i1, i2)
      have ne1 := World.new_ne wr _ hc0
      clear hBd hbr hgi hl2
      go_wp2_with fail
      refine (HIt.out _).mono ?_
      rintro e w6 ⟨rfl, hb6⟩
      have hBd6 := Bd_below (HBd.out) (show Below wr.heap.size wr w6 from Below.trans (show Below wr.heap.size wr _ from (by repeat (first | exact Below.refl _ _ | refine Below.drew ?_ | refine below_drewN ?_ _ | refine Below.alloc ?_ (by simp; try omega) _))) ⟨hb6.os, hb6.tape, hb6.output, hb6.size, fun q hq => hb6.block q (by simp; omega)⟩)
      have HBd6 := Lib.hid hBd6
      have hBw6 : Below w.heap.size w w6 := HBr.out.trans (Below.mono (show Below wr.heap.size wr w6 from Below.trans (show Below wr.heap.size wr _ from (by repeat (first | exact Below.refl _ _ | refine Below.drew ?_ | refine below_drewN ?_ _ | refine Below.alloc ?_ (by simp; try omega) _))) ⟨hb6.os, hb6.tape, hb6.output, hb6.size, fun q hq => hb6.block q (by simp; omega)⟩) (by omega))
      have HBw6 := Lib.hid hBw6
      have hz6 : w.heap.size + 2 < w6.heap.size := by have := hb6.size; simp at this; omega
      clear hBd6 hBw6 hb6
      go_wp2_with fail
      refine (WriteString (w.heap.size + 1 + 1) _ ⟨(itemL (i1, i2)).toArray⟩ _ HBd6.out (by rw [Lib.byteCells_length, List.length_append, hsz, hl34]; omega) (by show (List.toArray _).size ≤ _; simp [hi10'])).mono ?_
      rintro e w7 ⟨rfl, hBd7, hb7⟩
      have HBd7 : Hid (Bd (w.heap.size + 1 + 1) (Lib.byteCells (headL f ++ echoL (f.echo.take (k + 1)))) w7) := by
        rw [HSN.out, ← List.append_assoc, Lib.byteCells_append]
        exact hBd7
      have hz7 : w.heap.size + 2 < w7.heap.size := by have := hb7.size; omega
      have HBw7 := Lib.hid (HBw6.out.trans (hb7.mono (by omega)))
      clear hBd7 hb7 HBw6
      go_wp2
      go_roundw
      case rel => exact ⟨k + 1, by omega, by go_num, HBd7.out, hz7, HBw7.out⟩
      case measure => simp [intOf]; omega
    · obtain rfl : k = f.echo.length := by omega
      rw [List.take_length] at hBd hsz
      have HStr := Lib.hid (String (w.heap.size + 1 + 1) (headL f ++ echoL f.echo) wr hBd (by omega))
      have HWr := Lib.hid (fun w => crc_Wrap (bodyL f) w (bitsOnly_of (body_all f) (by unfold bodyL; rw [List.length_append, hsz, hl34]; omega)))
      have HBody : Hid (bodyL f = headL f ++ echoL f.echo) := rfl
      have HT : Hid (textB f = ⟨(wrapL (bodyL f)).toArray⟩) := rfl
      clear hBd
      go_wp2_with fail
      refine HStr.out.mono ?_
      rintro e w6 ⟨rfl, hb6⟩
      rw [← HBody.out]
      go_wp2_with fail
      refine (HWr.out _).mono ?_
      rintro e w7 ⟨rfl, hb7⟩
      go_wp2
      go_ret
      exact ⟨by rw [HT.out]; rfl, (hbr.trans (hb6.mono (by omega))).trans (hb7.mono (by have := hb6.size; omega))⟩
end Go.Proofs.YtdbempiompiioaaGreat.A22
namespace Go.Proofs.YtdbempiompiioaaGreat.A23
open Go.RowKit A1 A2 A3 A4 A5 A6 A7 A8 A9 A10 A11 A12 A13 A14 A15 A16 A17 A18 A19 A20 A21 A22

def numL (l : List UInt8) : Nat := l.foldl (fun n c => 2 * n + (c.toNat - 48)) 0
theorem numL_snoc (l : List UInt8) (c : UInt8) : numL (l ++ [c]) = 2 * numL l + (c.toNat - 48) := by simp [numL]
theorem take_bits (x size k : Nat) (h : k < size) : (bitsL x size).take (k + 1) = (bitsL x size).take k ++ [sg (bitAt x size k)] := by
  rw [List.take_succ_eq_append_getElem (by rw [bitsL_length]; exact h)]
  simp [bitsL]
theorem numL_take (x size : Nat) (hx : x < 2 ^ size) : ∀ k, k ≤ size → numL ((bitsL x size).take k) = x / 2 ^ (size - k)
  | 0, _ => by
    show 0 = _
    rw [Nat.sub_zero, Nat.div_eq_of_lt hx]
  | k + 1, h => by
    rw [take_bits x size k (by omega), numL_snoc, numL_take x size hx k (by omega), sg_toNat _ (bitAt_lt _ _ _)]
    unfold bitAt
    have e : size - k = (size - 1 - k) + 1 := by omega
    have e2 : size - (k + 1) = size - 1 - k := by omega
    rw [e, e2, Nat.pow_succ, ← Nat.div_div_eq_div_mul]
    omega
theorem numL_bits (x size : Nat) (hx : x < 2 ^ size) : numL (bitsL x size) = x := by
  have h := numL_take x size hx size (Nat.le_refl _)
  rw [Nat.sub_self, Nat.pow_zero, Nat.div_one] at h
  rwa [List.take_of_length_le (by rw [bitsL_length]; exact Nat.le_refl _)] at h
theorem numL_lt {l : List UInt8} (h : AllBits l) : numL l < 2 ^ l.length := by
  have key : ∀ k, k ≤ l.length → numL (l.take k) < 2 ^ k := by
    intro k
    induction k with
    | zero => intro _; exact Nat.one_pos
    | succ k ih =>
      intro hk
      have ih := ih (by omega)
      rw [List.take_succ_eq_append_getElem (by omega), numL_snoc, Nat.pow_succ]
      have := h _ (List.getElem_mem (show k < l.length by omega))
      omega
  have := key l.length (Nat.le_refl _)
  rwa [List.take_length] at this
theorem extract_front (a r : List UInt8) : (⟨(a ++ r).toArray⟩ : ByteArray).extract 0 a.length = ⟨a.toArray⟩ := by
  apply ByteArray.ext
  simp [Lib.extract_data]
theorem extract_back (a r : List UInt8) : (⟨(a ++ r).toArray⟩ : ByteArray).extract a.length (a ++ r).length = ⟨r.toArray⟩ := by
  apply ByteArray.ext
  simp [Lib.extract_data]
theorem or_bit (n b : Nat) (hn : n < 1000000) (hb : b < 2) : bits BinOp.or IntKind.i64 ((n : Int) * 2) (b : Int) = ((2 * n + b : Nat) : Int) := by
  rw [bits_join .i64 63 (by decide) (fun n h0 h1 => by rw [two63] at h1; rw [IntKind.wrap_i64]; omega) 1 ((n : Int) * 2) b (by omega) (by omega) (by rw [two63]; omega) (by omega) (by omega) (by rw [two63]; omega)]
  omega
theorem iter_new (w : World) (s : ByteArray) (pos : Nat) : Below w.heap.size w (w.iter s pos) := (Below.refl _ _).alloc (Nat.le_refl _) _
set_option maxRecDepth 100000 in
set_option maxHeartbeats 2000000 in
theorem next_raw (B : Nat) (s : ByteArray) (a : List UInt8) (size : Nat) (w : World) (hc : w.cell? ⟨B, 0, none⟩ = some (.string s)) (hf : w.frozen? ⟨B, 0, none⟩ = false)
    (ha : AllBits a) (hl : a.length = size) (hs : size ≤ 16) (hle : size ≤ s.size) (h4 : s.size ≤ 4000) (hx : s.extract 0 size = ⟨a.toArray⟩) :
    Calls Tryz.prog 195 #[.pointer (some ⟨B, 0, none⟩), .int .i64 size] w fun e w' => e = .returned (.int .i64 (numL a : Nat)) ∧ w' = (w.iter ⟨a.toArray⟩ size).setCell ⟨B, 0, none⟩ (.string (s.extract size s.size)) := by
  have hlt := World.block_lt_of_cell? w _ hc
  have HX := Lib.hid hx
  have HA := Lib.hid ha
  have HL := Lib.hid hl
  have d0 : (0 : Int) ≤ (size : Int) := by omega
  have d1 : (size : Int) ≤ (s.size : Int) := by omega
  have hci : ∀ pos, (w.iter ⟨a.toArray⟩ pos).cell? ⟨B, 0, none⟩ = some (.string s) := fun pos => ((iter_new w _ pos).cell (p := ⟨B, 0, none⟩) hlt).trans hc
  have hfi : ∀ pos, (w.iter ⟨a.toArray⟩ pos).frozen? ⟨B, 0, none⟩ = false := fun pos => ((iter_new w _ pos).frozen (p := ⟨B, 0, none⟩) hlt).trans hf
  have HCI := Lib.hid hci
  have HFI := Lib.hid hfi
  clear ha hl hci hfi
  go_enter Tryz.func195, Tryz.ntmps195
  go_wp2
  clear hx
  go_loopw [5] (fun t wr => ∃ pos : Nat, pos ≤ size ∧ wr = w.iter ⟨a.toArray⟩ pos ∧ t = .int .i64 (numL (a.take pos) : Nat)) (fun _ wr => size - wr.iterPos w.heap.size)
  case atStart => exact ⟨0, Nat.zero_le _, rfl, rfl⟩
  case round =>
    obtain ⟨pos, hp, rfl, rfl⟩ := hrel
    by_cases hlt2 : pos < size
    · have hla : pos < a.length := by rw [HL.out]; exact hlt2
      have hlb : pos < (⟨a.toArray⟩ : ByteArray).size := hla
      have h3 : ((⟨a.toArray⟩ : ByteArray)[pos]'hlb).toNat = 48 ∨ ((⟨a.toArray⟩ : ByteArray)[pos]'hlb).toNat = 49 := HA.out _ (List.getElem_mem hla)
      have hlow : ((⟨a.toArray⟩ : ByteArray)[pos]'hlb).toNat < 128 := by omega
      have hnx := fun ty => run_next_ascii (P := Tryz.prog) w ⟨a.toArray⟩ pos ty hlb hlow
      have hsn : numL (a.take (pos + 1)) = 2 * numL (a.take pos) + (((⟨a.toArray⟩ : ByteArray)[pos]'hlb).toNat - 48) := by rw [List.take_succ_eq_append_getElem hla, numL_snoc]; rfl
      have hn : numL (a.take pos) < 65536 := by
        have h1 := numL_lt (l := a.take pos) (fun c hc => HA.out c (List.mem_of_mem_take hc))
        have h2 : (a.take pos).length ≤ 16 := by rw [List.length_take]; omega
        have h5 : 2 ^ (a.take pos).length ≤ 2 ^ 16 := Nat.pow_le_pow_right (by decide) h2
        omega
      have HSN := Lib.hid hsn
      clear hsn
      generalize numL (a.take pos) = n at *
      have HO0 := Lib.hid (or_bit n 0 (by omega) (by decide))
      have HO1 := Lib.hid (or_bit n 1 (by omega) (by decide))
      rcases h3 with h | h
      · have H := Lib.hid h
        rw [h] at hnx
        clear h
        go_wp2
        rw [show ((0 : Int)) = ((0 : Nat) : Int) from rfl, HO0.out]
        go_roundw
        case rel => exact ⟨pos + 1, by omega, rfl, by rw [HSN.out, H.out]⟩
        case measure => simp; omega
      · have H := Lib.hid h
        rw [h] at hnx
        clear h
        go_wp2
        rw [show ((1 : Int)) = ((1 : Nat) : Int) from rfl, HO1.out]
        go_roundw
        case rel => exact ⟨pos + 1, by omega, rfl, by rw [HSN.out, H.out]⟩
        case measure => simp; omega
    · obtain rfl : pos = size := by omega
      have hnx := fun ty => run_next_end (P := Tryz.prog) w ⟨a.toArray⟩ pos ty (by show ¬ pos < a.length; rw [HL.out]; omega)
      have ht : a.take pos = a := List.take_of_length_le (by rw [HL.out]; exact Nat.le_refl _)
      rw [ht]
      have hc2 := HCI.out pos
      have hf2 := HFI.out pos
      clear ht
      go_wp2
      go_ret
      exact ⟨rfl, rfl⟩
structure RdAt (w : World) (B : Nat) (l : List UInt8) : Prop where
  cell : w.cell? ⟨B, 0, none⟩ = some (.string ⟨l.toArray⟩)
  free : w.frozen? ⟨B, 0, none⟩ = false
theorem RdAt.lt {w : World} {B : Nat} {l : List UInt8} (h : RdAt w B l) : B < w.heap.size := World.block_lt_of_cell? w _ h.cell
theorem RdAt.below {w w' : World} {B : Nat} {l : List UInt8} (h : RdAt w B l) (hb : Below w.heap.size w w') : RdAt w' B l := ⟨(hb.cell (p := ⟨B, 0, none⟩) h.lt).trans h.cell, (hb.frozen (p := ⟨B, 0, none⟩) h.lt).trans h.free⟩
theorem next_list (B : Nat) (a r : List UInt8) (size : Nat) (w : World) (h : RdAt w B (a ++ r)) (ha : AllBits a) (hl : a.length = size) (hs : size ≤ 16) (h4 : (a ++ r).length ≤ 4000) :
    Calls Tryz.prog 195 #[.pointer (some ⟨B, 0, none⟩), .int .i64 size] w fun e w' => e = .returned (.int .i64 (numL a : Nat)) ∧ RdAt w' B r ∧ But (fun q => q = B) w w' := by
  subst hl
  refine (next_raw B ⟨(a ++ r).toArray⟩ a a.length w h.cell h.free ha rfl hs (by show _ ≤ (a ++ r).length; simp) h4 (extract_front a r)).mono ?_
  rintro e w' ⟨rfl, rfl⟩
  refine ⟨rfl, ⟨?_, ?_⟩, ?_⟩
  · rw [World.cell?_setCell_same _ _ _ (((iter_new w _ _).cell (p := ⟨B, 0, none⟩) h.lt).trans h.cell)]
    have := extract_back a r
    exact congrArg (fun x => some (Value.string x)) this
  · rw [World.frozen?_setCell]
    exact ((iter_new w _ _).frozen (p := ⟨B, 0, none⟩) h.lt).trans h.free
  · exact But.setCell (S := fun q => q = B) (But.of_below (iter_new w _ _) (Nat.le_refl _)) (.inl rfl) _
theorem next2 (B x : Nat) (r : List UInt8) (w : World) (h : RdAt w B (bitsL x 2 ++ r)) (hx : x < 4) (h4 : r.length ≤ 3900) :
    Calls Tryz.prog 195 #[.pointer (some ⟨B, 0, none⟩), .int .i64 2] w fun e w' => e = .returned (.int .i64 x) ∧ RdAt w' B r ∧ But (fun q => q = B) w w' := by
  have := next_list B (bitsL x 2) r 2 w h (bits_all _ _) (bitsL_length _ _) (by decide) (by rw [List.length_append, bitsL_length]; omega)
  rwa [numL_bits x 2 (by omega)] at this
theorem next6 (B x : Nat) (r : List UInt8) (w : World) (h : RdAt w B (bitsL x 6 ++ r)) (hx : x < 64) (h4 : r.length ≤ 3900) :
    Calls Tryz.prog 195 #[.pointer (some ⟨B, 0, none⟩), .int .i64 6] w fun e w' => e = .returned (.int .i64 x) ∧ RdAt w' B r ∧ But (fun q => q = B) w w' := by
  have := next_list B (bitsL x 6) r 6 w h (bits_all _ _) (bitsL_length _ _) (by decide) (by rw [List.length_append, bitsL_length]; omega)
  rwa [numL_bits x 6 (by omega)] at this
theorem next8 (B x : Nat) (r : List UInt8) (w : World) (h : RdAt w B (bitsL x 8 ++ r)) (hx : x < 256) (h4 : r.length ≤ 3900) :
    Calls Tryz.prog 195 #[.pointer (some ⟨B, 0, none⟩), .int .i64 8] w fun e w' => e = .returned (.int .i64 x) ∧ RdAt w' B r ∧ But (fun q => q = B) w w' := by
  have := next_list B (bitsL x 8) r 8 w h (bits_all _ _) (bitsL_length _ _) (by decide) (by rw [List.length_append, bitsL_length]; omega)
  rwa [numL_bits x 8 (by omega)] at this
theorem next16 (B x : Nat) (r : List UInt8) (w : World) (h : RdAt w B (bitsL x 16 ++ r)) (hx : x < 65536) (h4 : r.length ≤ 3900) :
    Calls Tryz.prog 195 #[.pointer (some ⟨B, 0, none⟩), .int .i64 16] w fun e w' => e = .returned (.int .i64 x) ∧ RdAt w' B r ∧ But (fun q => q = B) w w' := by
  have := next_list B (bitsL x 16) r 16 w h (bits_all _ _) (bitsL_length _ _) (by decide) (by rw [List.length_append, bitsL_length]; omega)
  rwa [numL_bits x 16 (by omega)] at this
set_option maxRecDepth 100000 in
set_option maxHeartbeats 2000000 in
theorem reader_item (B k v : Nat) (r : List UInt8) (w : World) (h : RdAt w B (itemL (k, v) ++ r)) (hk : k < 4) (hv : v < 256) (h4 : r.length ≤ 3800) :
    Calls Tryz.prog 196 #[.pointer (some ⟨B, 0, none⟩)] w fun e w' => e = .returned (.agg #[.int .i64 k, .int .i64 v]) ∧ RdAt w' B r ∧ But (fun q => q = B) w w' := by
  have hlt := h.lt
  have h' : RdAt w B (bitsL k 2 ++ (bitsL v 8 ++ r)) := by rw [← List.append_assoc]; exact h
  have HR := Lib.hid h'
  have hl8 : (bitsL v 8 ++ r).length ≤ 3900 := by rw [List.length_append, bitsL_length]; omega
  clear h h'
  go_enter Tryz.func196, Tryz.ntmps196
  go_wp2_with fail
  refine (next2 B k (bitsL v 8 ++ r) _ (HR.out.below ((Below.refl _ _).alloc (Nat.le_refl _) _)) hk hl8).mono ?_
  rintro e w1 ⟨rfl, hr1, hb1⟩
  have b1 : w1.heap[w.heap.size]? = some (.cells #[.int .i64 0, .int .i64 0] 44 (0, 0)) := (hb1.block _ (by simp) (by omega)).trans (heap_alloc_new w _)
  have HB1 := Lib.hid hb1
  have HR1 := Lib.hid hr1
  have hz1 := heap_lt b1
  have Hb1 := Lib.hid b1
  clear b1 hb1 hr1
  go_wp2_with fail
  refine (next8 B v r _ HR1.out hv (by omega)).mono ?_
  rintro e w2 ⟨rfl, hr2, hb2⟩
  have b2 : w2.heap[w.heap.size]? = some (.cells #[.int .i64 0, .int .i64 0] 44 (0, 0)) := (hb2.block _ hz1 (by omega)).trans Hb1.out
  have x0 : w2.cell? ⟨w.heap.size, 0, none⟩ = some (.int .i64 0) := by simp [World.cell?, b2]
  have x1 : w2.cell? ⟨w.heap.size, 1, none⟩ = some (.int .i64 0) := by simp [World.cell?, b2]
  have y0 : w2.frozen? ⟨w.heap.size, 0, none⟩ = false := by simp [World.frozen?, b2]
  have y1 : w2.frozen? ⟨w.heap.size, 1, none⟩ = false := by simp [World.frozen?, b2]
  have HR2 := Lib.hid hr2
  have HB2 := Lib.hid hb2
  clear b2 hr2 hb2
  go_wp2
  refine bodyPost_ret (v := .agg #[.int .i64 k, .int .i64 v]) (by simp [results, Tryz.results196, go_sem, x0, x1]) rfl ⟨rfl, ?_, ?_⟩
  · have hne : ∀ o : Nat, (⟨w.heap.size, o, none⟩ : Addr) ≠ ⟨B, 0, none⟩ := fun o e => by injection e with e _; omega
    exact ⟨(World.cell?_setCell_other _ _ _ _ (hne 1)).trans ((World.cell?_setCell_other _ _ _ _ (hne 0)).trans HR2.out.cell), by rw [World.frozen?_setCell, World.frozen?_setCell]; exact HR2.out.free⟩
  · have h1 : But (fun q => q = B) w w1 := ⟨HB1.out.os, HB1.out.tape, HB1.out.output, by have := HB1.out.size; simp at this; omega, fun q hq hn => (HB1.out.block q (by simp; omega) hn).trans (Below.heap_alloc _ _ _ hq)⟩
    exact ((h1.trans HB2.out).setCell (p := ⟨w.heap.size, 0, none⟩) (.inr (Nat.le_refl _)) _).setCell (p := ⟨w.heap.size, 1, none⟩) (.inr (Nat.le_refl _)) _
end Go.Proofs.YtdbempiompiioaaGreat.A23
