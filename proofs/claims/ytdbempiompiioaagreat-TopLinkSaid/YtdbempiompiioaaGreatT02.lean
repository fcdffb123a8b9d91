/- Streams: symbols that are bits up to the end, where the tail may stand. sym.Clean leaves them as they are. One relay: lane.New, passes, Step. The owners of a slot. DERIVED: THE SHELF's CONTRACTS AT THIS DUMP, IN PLAIN WORDS (tools/lay-plain.mjs out of 'TryzShelf.lean', which tools/lay-shelf.mjs wrote): THE SAME DECLARATIONS UNDER THE SAME NAMES: 'import', 'namespace', 'open', 'def', 'theorem' AND  Conditions: the bounds stated in each theorem. -/
import Derived.Test.YtdbempiompiioaaGreatT01
import Derived.Laws.RangeString
import Derived.RegionTactic
import Derived.Shelf.Strings.Builder1
import Derived.Shelf.Small.Bits
import Derived.Shelf.Strings.BuilderF
import Derived.Shelf.Strings.BuilderK
import Derived.Shelf.Strconv.Itoa0
import Derived.Shelf.Sort.Plain
import Derived.Shelf.Strings.Prefix
import Derived.Shelf.Bits.Mul64
import Derived.Shelf.Slices.Turned
import Derived.Shelf.Slices.Clone
import Derived.Shelf.Slices.SearchI
import Derived.Shelf.Slices.In.SortNone
import Derived.Shelf.SlicesE.Clone
import Derived.Laws.AppendOwn
import Derived.OwnWalk
set_option linter.unusedVariables false
set_option linter.unusedSimpArgs false
namespace Go.Proofs.YtdbempiompiioaaGreat.A6
open Go.RowKit A1 A2 A3 A4 A5

def Strm (s : ByteArray) : Prop := s.size ≤ 4000 ∧ ∀ i (h : i < s.size), (s[i]'h).toNat = 48 ∨ (s[i]'h).toNat = 49 ∨ ((s[i]'h).toNat = 35 ∧ i + 1 = s.size)
theorem Strm.empty : Strm ⟨#[]⟩ := ⟨by decide, fun i h => absurd h (by simp [ByteArray.size])⟩
theorem extract_all (s : ByteArray) : s.extract 0 s.size = s := by simp
set_option maxRecDepth 100000 in
theorem sym_Clean (s : ByteArray) (w : World) (hs : Strm s) :
    Calls Tryz.prog 172 #[.string s] w fun e w' => e = .returned (.string s) ∧ Below w.heap.size w w' := by
  obtain ⟨h4, hb⟩ := hs
  have HB := Lib.hid hb
  clear hb
  go_enter Tryz.func172, Tryz.ntmps172
  go_wp2
  go_loopw [] (fun wr => ∃ pos : Nat, pos ≤ s.size ∧ wr = w.iter s pos) (fun wr => s.size - wr.iterPos w.heap.size)
  case atStart => exact ⟨0, Nat.zero_le _, rfl⟩
  case round =>
    obtain ⟨pos, hp, rfl⟩ := hrel
    by_cases hlt : pos < s.size
    · have h3 := HB.out pos hlt
      have ha : (s[pos]'hlt).toNat < 128 := by rcases h3 with h | h | ⟨h, _⟩ <;> omega
      have hnx := fun ty => run_next_ascii (P := Tryz.prog) w s pos ty hlt ha
      have hbit := fun (c : Int) (h : c = 48 ∨ c = 49) (w : World) => sym_bit c w (by omega)
      rcases h3 with h | h | ⟨h, he⟩
      · rw [h] at hnx
        go_wp2_with (go_at_call 189; refine (sym_bit _ _ (by decide)).mono ?_; rintro e w' ⟨rfl, rfl⟩)
        go_roundw
        case rel => exact ⟨pos + 1, by omega, rfl⟩
        case measure => simp; omega
      · rw [h] at hnx
        go_wp2_with (go_at_call 189; refine (sym_bit _ _ (by decide)).mono ?_; rintro e w' ⟨rfl, rfl⟩)
        go_roundw
        case rel => exact ⟨pos + 1, by omega, rfl⟩
        case measure => simp; omega
      · rw [h] at hnx
        have hx : s.extract 0 (pos + 1) = s := by rw [he]; exact extract_all s
        have HX := Lib.hid hx
        clear hx
        go_wp2
        go_ret
        exact ⟨rfl, (Below.refl _ _).alloc (Nat.le_refl _) _⟩
    · have hnx := fun ty => run_next_end (P := Tryz.prog) w s pos ty hlt
      go_wp2
      go_ret
      exact ⟨rfl, (Below.refl _ _).alloc (Nat.le_refl _) _⟩
end Go.Proofs.YtdbempiompiioaaGreat.A6
namespace Go.Proofs.YtdbempiompiioaaGreat.A7
open Go.RowKit A1 A2 A3 A4 A5 A6

theorem lane_New (c : Bool) (w : World) :
    Calls Tryz.prog 175 #[.bool c] w fun e w' => e = .returned (.pointer (some ⟨w.heap.size, 0, none⟩)) ∧ w' = w.alloc (.cells #[.bool c, .bool false] 291) := by
  go_enter Tryz.func175, Tryz.ntmps175
  go_wp2
  go_ret
  exact ⟨rfl, rfl⟩
theorem passes_yes (B : Nat) (cmp : Bool) (d s : Int) (w : World) (h0 : w.cell? ⟨B, 0, none⟩ = some (.bool cmp)) (h1 : w.cell? ⟨B, 1, none⟩ = some (.bool false)) (hd : d = 48 ∨ d = 49 ∨ d = 35) (hs : cmp = false ∨ s = d) :
    Calls Tryz.prog 193 #[.pointer (some ⟨B, 0, none⟩), .int .u8 d, .int .u8 s] w fun e w' => e = .returned (.bool true) ∧ w = w' := by
  rcases hs with rfl | rfl
  · rcases hd with rfl | rfl | rfl <;>
    · go_enter Tryz.func193, Tryz.ntmps193
      go_wp2_with (go_at_call 210; refine (lane_symbol_yes _ _ (by decide)).mono ?_; rintro e w' ⟨rfl, rfl⟩)
      go_ret
      exact ⟨rfl, rfl⟩
  · cases cmp <;> rcases hd with rfl | rfl | rfl <;>
    · go_enter Tryz.func193, Tryz.ntmps193
      go_wp2_with (go_at_call 210; refine (lane_symbol_yes _ _ (by decide)).mono ?_; rintro e w' ⟨rfl, rfl⟩)
      go_ret
      exact ⟨rfl, rfl⟩
theorem passes_other (B : Nat) (d : Int) (w : World) (h0 : w.cell? ⟨B, 0, none⟩ = some (.bool true)) (h1 : w.cell? ⟨B, 1, none⟩ = some (.bool false)) (hd : d = 48 ∨ d = 49 ∨ d = 35) :
    Calls Tryz.prog 193 #[.pointer (some ⟨B, 0, none⟩), .int .u8 d, .int .u8 46] w fun e w' => e = .returned (.bool false) ∧ w = w' := by
  rcases hd with rfl | rfl | rfl <;>
  · go_enter Tryz.func193, Tryz.ntmps193
    go_wp2_with (go_at_call 210; refine (lane_symbol_yes _ _ (by decide)).mono ?_; rintro e w' ⟨rfl, rfl⟩)
    go_ret
    exact ⟨rfl, rfl⟩
theorem passes_idle (B : Nat) (cmp sh : Bool) (s : Int) (w : World) (h0 : w.cell? ⟨B, 0, none⟩ = some (.bool cmp)) (h1 : w.cell? ⟨B, 1, none⟩ = some (.bool sh)) :
    Calls Tryz.prog 193 #[.pointer (some ⟨B, 0, none⟩), .int .u8 46, .int .u8 s] w fun e w' => e = .returned (.bool false) ∧ w = w' := by
  cases sh
  · go_enter Tryz.func193, Tryz.ntmps193
    go_wp2_with (go_at_call 210; refine (lane_symbol_idle _).mono ?_; rintro e w' ⟨rfl, rfl⟩)
    go_ret
    exact ⟨rfl, rfl⟩
  · go_enter Tryz.func193, Tryz.ntmps193
    go_wp2
    go_ret
    exact ⟨rfl, rfl⟩
theorem Step_yes (B : Nat) (cmp : Bool) (d s : Int) (w : World) (h0 : w.cell? ⟨B, 0, none⟩ = some (.bool cmp)) (h1 : w.cell? ⟨B, 1, none⟩ = some (.bool false)) (hf : w.frozen? ⟨B, 1, none⟩ = false) (hd : d = 48 ∨ d = 49 ∨ d = 35) (hs : cmp = false ∨ s = d) :
    Calls Tryz.prog 176 #[.pointer (some ⟨B, 0, none⟩), .int .u8 d, .int .u8 s] w fun e w' => e = .returned (.int .u8 d) ∧ w' = w.setCell ⟨B, 1, none⟩ (.bool (d == 35)) := by
  have H := Lib.hid (passes_yes B cmp d s w h0 h1 hd hs)
  clear hs
  go_enter Tryz.func176, Tryz.ntmps176
  go_wp2_with (go_at_call 193; refine (H.out).mono ?_; rintro e w' ⟨rfl, rfl⟩)
  go_ret
  exact ⟨rfl, rfl⟩
theorem Step_no (B : Nat) (d s : Int) (sh : Bool) (w : World) (h1 : w.cell? ⟨B, 1, none⟩ = some (.bool sh)) (hf : w.frozen? ⟨B, 1, none⟩ = false)
    (hp : Calls Tryz.prog 193 #[.pointer (some ⟨B, 0, none⟩), .int .u8 d, .int .u8 s] w fun e w' => e = .returned (.bool false) ∧ w = w') :
    Calls Tryz.prog 176 #[.pointer (some ⟨B, 0, none⟩), .int .u8 d, .int .u8 s] w fun e w' => e = .returned (.int .u8 46) ∧ w' = w.setCell ⟨B, 1, none⟩ (.bool true) := by
  have H := Lib.hid hp
  clear hp
  go_enter Tryz.func176, Tryz.ntmps176
  go_wp2_with (go_at_call 193; refine (H.out).mono ?_; rintro e w' ⟨rfl, rfl⟩)
  go_ret
  exact ⟨rfl, rfl⟩
end Go.Proofs.YtdbempiompiioaaGreat.A7
namespace Go.Proofs.YtdbempiompiioaaGreat.A8
open Go.RowKit A1 A2 A3 A4 A5 A6 A7

def owners (N : Int) (ps : List Int) (slot : Int) : List Int :=
  if slot < N then [slot] else if ps.getD (slot - N).toNat (-1) = -1 then [] else [ps.getD (slot - N).toNat (-1), (ps.getD (slot - N).toNat (-1) + 1) % N]
def RetInts (w : World) (l : List Int) (e : Ending) (w' : World) : Prop := ∃ A C, e = .returned (.slice A l.length C) ∧ Ints w' A l ∧ l.length ≤ C ∧ C ≤ 1000 ∧ Below w.heap.size w w'
theorem RetInts.nil {w w' : World} (h : Below w.heap.size w w') : RetInts w [] (.returned (.slice none 0 0)) w' := ⟨none, 0, rfl, fun k hk => absurd hk (by simp), Nat.le_refl _, by omega, h⟩
set_option maxRecDepth 100000 in
theorem Owners_node (N Pi Er G Fi : Int) (PA : Option Addr) (ps : List Int) (PC : Nat) (slot : Int) (w : World) (hc : CfOk N Pi Er G Fi ps) (h0 : 0 ≤ slot) (h1 : slot < N) :
    Calls Tryz.prog 58 #[.agg #[.int .i64 N, .int .i64 Pi, .int .i64 Er, .int .i64 G, .int .i64 Fi, .slice PA ps.length PC], .int .i64 slot] w (RetInts w [slot]) := by
  have n0 := hc.n0
  have n1 := hc.n1
  have d1 : decide (slot < 0) = false := by simp; omega
  have d2 : decide (slot - N ≥ ps.length) = false := by simp; omega
  have d3 : decide (slot - N < 0) = true := by simp; omega
  go_enter Tryz.func58, Tryz.ntmps58
  go_wp2
  go_ret
  refine ⟨some ⟨w.heap.size + 1, 0, none⟩, 1, rfl, ?_, by simp, by omega, by repeat (first | exact Below.refl _ _ | refine Below.alloc ?_ (by simp; try omega) _)⟩
  intro k hk
  obtain rfl : k = 0 := by simpa using hk
  refine ⟨_, _, rfl, by simp, ?_⟩
  go_simp
set_option maxRecDepth 100000 in
theorem Owners_none (N Pi Er G Fi : Int) (b off : Nat) (ps : List Int) (PC : Nat) (slot : Int) (w : World) (hc : CfOk N Pi Er G Fi ps) (hk : N ≤ slot) (hk2 : slot - N < ps.length) (hcell : w.cell? ⟨b, off + (slot - N).toNat, none⟩ = some (.int .i64 (-1))) (hb : b < w.heap.size) :
    Calls Tryz.prog 58 #[.agg #[.int .i64 N, .int .i64 Pi, .int .i64 Er, .int .i64 G, .int .i64 Fi, .slice (some ⟨b, off, none⟩) ps.length PC], .int .i64 slot] w (RetInts w []) := by
  have n0 := hc.n0
  have n1 := hc.n1
  have n2 := hc.len
  have d1 : decide (slot < 0) = false := by simp; omega
  have d2 : decide (slot - N ≥ ps.length) = false := by simp; omega
  have d3 : decide (slot - N < 0) = false := by simp; omega
  go_enter Tryz.func58, Tryz.ntmps58
  go_wp2
  go_ret
  exact RetInts.nil (by repeat (first | exact Below.refl _ _ | refine Below.alloc ?_ (by simp; try omega) _))
set_option maxRecDepth 100000 in
theorem Owners_pair (N Pi Er G Fi : Int) (b off : Nat) (ps : List Int) (PC : Nat) (slot a : Int) (w : World) (hc : CfOk N Pi Er G Fi ps) (hk : N ≤ slot) (hk2 : slot - N < ps.length) (hcell : w.cell? ⟨b, off + (slot - N).toNat, none⟩ = some (.int .i64 a)) (hb : b < w.heap.size) (ha : 0 ≤ a) (ha2 : a < N) :
    Calls Tryz.prog 58 #[.agg #[.int .i64 N, .int .i64 Pi, .int .i64 Er, .int .i64 G, .int .i64 Fi, .slice (some ⟨b, off, none⟩) ps.length PC], .int .i64 slot] w (RetInts w [a, (a + 1) % N]) := by
  have n0 := hc.n0
  have n1 := hc.n1
  have n2 := hc.len
  have d1 : decide (slot < 0) = false := by simp; omega
  have d2 : decide (slot - N ≥ ps.length) = false := by simp; omega
  have d3 : decide (slot - N < 0) = false := by simp; omega
  have d4 : (a == -1) = false := beq_eq_false_iff_ne.mpr (by omega)
  have d7 : ¬ N = 0 := by omega
  have e1 : IntKind.i64.wrap (a + 1) = a + 1 := by rw [IntKind.wrap_i64]; omega
  have e2 : (a + 1).tmod N = (a + 1) % N := Int.tmod_eq_emod_of_nonneg (by omega)
  have d5 : decide (N ≤ 0) = false := by simp; omega
  go_enter Tryz.func58, Tryz.ntmps58
  go_wp2
  go_region_held3 (fun w' => w'.cell? ⟨b, off + (slot - N).toNat, none⟩ = some (.int .i64 a) ∧ w'.cell? ⟨w.heap.size, 0, none⟩ = some (.int .i64 N) ∧ w'.cell? ⟨w.heap.size, 5, none⟩ = some (.slice (some ⟨b, off, none⟩) ps.length PC)) (go_keep) (fail)
  go_wp2
  go_ret
  refine ⟨some ⟨w.heap.size + 1, 0, none⟩, 2, rfl, ?_, by simp, by omega, by repeat (first | exact Below.refl _ _ | refine Below.drew ?_ | refine below_drewN ?_ _ | refine Below.alloc ?_ (by simp; try omega) _)⟩
  intro k hk
  rcases (by simpa using hk : k < 2) with _
  match k, hk with
  | 0, _ => exact ⟨_, _, rfl, by simp, by go_simp⟩
  | 1, _ => exact ⟨_, _, rfl, by simp, by go_simp⟩
theorem owners_node {N : Int} {ps : List Int} {slot : Int} (h : slot < N) : owners N ps slot = [slot] := by simp [owners, h]
theorem Owners (N Pi Er G Fi : Int) (PA : Option Addr) (ps : List Int) (PC : Nat) (slot : Int) (w : World) (hc : CfOk N Pi Er G Fi ps) (hl : Ints w PA ps) (h0 : 0 ≤ slot) (h1 : slot < N + ps.length) :
    Calls Tryz.prog 58 #[.agg #[.int .i64 N, .int .i64 Pi, .int .i64 Er, .int .i64 G, .int .i64 Fi, .slice PA ps.length PC], .int .i64 slot] w (RetInts w (owners N ps slot)) := by
  by_cases h : slot < N
  · rw [owners_node h]
    exact Owners_node N Pi Er G Fi PA ps PC slot w hc h0 h
  · have hk : (slot - N).toNat < ps.length := by omega
    obtain ⟨b, off, rfl, hb, hcell⟩ := hl _ hk
    have he := hc.each _ hk
    have hg : ps.getD (slot - N).toNat (-1) = ps.getD (slot - N).toNat 0 := by
      rw [List.getD_eq_getElem?_getD, List.getD_eq_getElem?_getD, List.getElem?_eq_getElem hk]
      rfl
    unfold owners
    rw [if_neg h, hg]
    by_cases hn : ps.getD (slot - N).toNat 0 = -1
    · rw [if_pos hn]
      rw [hn] at hcell
      exact Owners_none N Pi Er G Fi b off ps PC slot w hc (by omega) (by omega) hcell hb
    · rw [if_neg hn]
      exact Owners_pair N Pi Er G Fi b off ps PC slot _ w hc (by omega) (by omega) hcell hb (by omega) (by omega)
end Go.Proofs.YtdbempiompiioaaGreat.A8
namespace Go.Proofs
open Go.Shelf
def Tryz.lays169_ren : Go.Shelf.Ren := ⟨fun | 169 => 103 | n => n, fun | 70 => 160 | 9 => 9 | 0 => 0 | 72 => 163 | 37 => 161 | 127 => 225 | 3 => 3 | 5 => 5 | n => n, fun | n => n⟩
theorem Tryz.lays169 : Go.Proofs.Lays.n169 Tryz.prog Tryz.lays169_ren := {
  mixed := by kernel_rfl
  f169 := Tryz.func103.trans (congrArg some (by kernel_rfl))
  t0 := Tryz.underlying0
  a0 := Tryz.isAgg0
  z0 := Tryz.sizeOf0
  v0 := Tryz.zeroValue0
  t3 := Tryz.underlying3
  a3 := Tryz.isAgg3
  z3 := Tryz.sizeOf3
  v3 := Tryz.zeroValue3
  t9 := Tryz.underlying9
  a9 := Tryz.isAgg9
  z9 := Tryz.sizeOf9
  v9 := Tryz.zeroValue9
  t37 := Tryz.underlying161
  a37 := Tryz.isAgg161
  z37 := Tryz.sizeOf161
  v37 := Tryz.zeroValue161
  t70 := Tryz.underlying160
  a70 := Tryz.isAgg160
  z70 := Tryz.sizeOf160
  v70 := Tryz.zeroValue160
  t72 := Tryz.underlying163
  a72 := Tryz.isAgg163
  z72 := Tryz.sizeOf163
  v72 := Tryz.zeroValue163
  t127 := Tryz.underlying225
  a127 := Tryz.isAgg225
  z127 := Tryz.sizeOf225
  v127 := Tryz.zeroValue225 }
theorem Tryz.Builder_Extra_169 : Builder.Extra Tryz.prog Tryz.lays169_ren := {
  sizeBuilder := by kernel_rfl
  liesBuilder := by kernel_rfl
  t5 := Tryz.underlying5
  a5 := Tryz.isAgg5
  z5 := Tryz.sizeOf5
  v5 := Tryz.zeroValue5
  infoByte := by kernel_rfl
  cellsByte := by kernel_rfl
  sizeByte := by kernel_rfl
  neB5 := by decide }
open Go.RowKit in
theorem Tryz.Builder_String (B b : Nat) (l : List UInt8) (w : World) (h : Lib.IsBuilder 163 5 B b (Lib.byteCells l) w) (h0 : l ≠ []) :
    Calls Tryz.prog 103 #[.pointer (some ⟨b, 0, none⟩)] w fun e w' => e = .returned (.string ⟨l.toArray⟩) ∧ Below B w w' := Any.Builder_String Tryz.lays169 Tryz.Builder_Extra_169 B b l w h h0
open Go.RowKit in
theorem Tryz.Builder_String_empty (B b : Nat) (w : World) (h : Lib.IsBuilder 163 5 B b [] w) (hBw : B ≤ w.heap.size) :
    Calls Tryz.prog 103 #[.pointer (some ⟨b, 0, none⟩)] w fun e w' => e = .returned (.string ⟨#[]⟩) ∧ Below B w w' := Any.Builder_String_empty Tryz.lays169 Tryz.Builder_Extra_169 B b w h hBw
open Go.RowKit in
theorem Tryz.Builder_String_any (B b : Nat) (l : List UInt8) (w : World) (h : Lib.IsBuilder 163 5 B b (Lib.byteCells l) w) (hBw : B ≤ w.heap.size) :
    Calls Tryz.prog 103 #[.pointer (some ⟨b, 0, none⟩)] w fun e w' => e = .returned (.string ⟨l.toArray⟩) ∧ Below B w w' := Any.Builder_String_any Tryz.lays169 Tryz.Builder_Extra_169 B b l w h hBw
def Tryz.lays128_ren : Go.Shelf.Ren := ⟨fun | 128 => 232 | n => n, fun | 51 => 325 | 3 => 3 | 4 => 4 | 46 => 253 | 5 => 5 | 9 => 9 | n => n, fun | n => n⟩
theorem Tryz.lays128 : Go.Proofs.Lays.n128 Tryz.prog Tryz.lays128_ren := {
  mixed := by kernel_rfl
  f128 := Tryz.func232.trans (congrArg some (by kernel_rfl))
  t3 := Tryz.underlying3
  a3 := Tryz.isAgg3
  z3 := Tryz.sizeOf3
  v3 := Tryz.zeroValue3
  t4 := Tryz.underlying4
  a4 := Tryz.isAgg4
  z4 := Tryz.sizeOf4
  v4 := Tryz.zeroValue4
  t5 := Tryz.underlying5
  a5 := Tryz.isAgg5
  z5 := Tryz.sizeOf5
  v5 := Tryz.zeroValue5
  t9 := Tryz.underlying9
  a9 := Tryz.isAgg9
  z9 := Tryz.sizeOf9
  v9 := Tryz.zeroValue9
  t46 := Tryz.underlying253
  a46 := Tryz.isAgg253
  z46 := Tryz.sizeOf253
  v46 := Tryz.zeroValue253
  t51 := Tryz.underlying325
  a51 := Tryz.isAgg325
  z51 := Tryz.sizeOf325
  v51 := Tryz.zeroValue325 }
theorem Tryz.bits_Len32 (x : Int) (w : World) (h0 : 0 ≤ x) (h1 : x ≤ 4294967295) :
    Calls Tryz.prog 232 #[.int .u32 x] w fun e w' => e = .returned (.int .i64 (Lib.bitLen x.toNat)) ∧ w' = w := Any.bits_Len32 Tryz.lays128 x w h0 h1
def Tryz.lays125_ren : Go.Shelf.Ren := ⟨fun | 125 => 218 | 128 => 232 | 129 => 233 | n => n, fun | 46 => 253 | 3 => 3 | 51 => 325 | 53 => 327 | 4 => 4 | 5 => 5 | 9 => 9 | n => n, fun | n => n⟩
theorem Tryz.lays125 : Go.Proofs.Lays.n125 Tryz.prog Tryz.lays125_ren := {
  mixed := by kernel_rfl
  f125 := Tryz.func218.trans (congrArg some (by kernel_rfl))
  f128 := Tryz.func232.trans (congrArg some (by kernel_rfl))
  f129 := Tryz.func233.trans (congrArg some (by kernel_rfl))
  t3 := Tryz.underlying3
  a3 := Tryz.isAgg3
  z3 := Tryz.sizeOf3
  v3 := Tryz.zeroValue3
  t4 := Tryz.underlying4
  a4 := Tryz.isAgg4
  z4 := Tryz.sizeOf4
  v4 := Tryz.zeroValue4
  t5 := Tryz.underlying5
  a5 := Tryz.isAgg5
  z5 := Tryz.sizeOf5
  v5 := Tryz.zeroValue5
  t9 := Tryz.underlying9
  a9 := Tryz.isAgg9
  z9 := Tryz.sizeOf9
  v9 := Tryz.zeroValue9
  t46 := Tryz.underlying253
  a46 := Tryz.isAgg253
  z46 := Tryz.sizeOf253
  v46 := Tryz.zeroValue253
  t51 := Tryz.underlying325
  a51 := Tryz.isAgg325
  z51 := Tryz.sizeOf325
  v51 := Tryz.zeroValue325
  t53 := Tryz.underlying327
  a53 := Tryz.isAgg327
  z53 := Tryz.sizeOf327
  v53 := Tryz.zeroValue327 }
theorem Tryz.bits_Len (x : Int) (w : World) (h0 : 0 ≤ x) (h1 : x ≤ 18446744073709551615) :
    Calls Tryz.prog 218 #[.int .u64 x] w fun e w' => e = .returned (.int .i64 (Lib.bitLen x.toNat)) ∧ w' = w := Any.bits_Len Tryz.lays125 x w h0 h1
open Go.RowKit in
theorem Tryz.Builder_String_f (B b : Nat) (l : List UInt8) (w : World) (h : Lib.IsBuilderF 163 5 B b (Lib.byteCells l) w) (h0 : l ≠ []) :
    Calls Tryz.prog 103 #[.pointer (some ⟨b, 0, none⟩)] w fun e w' => e = .returned (.string ⟨l.toArray⟩) ∧ (Lib.IsBuilderF 163 5 B b (Lib.byteCells l) w' ∧ Below B w w') := Any.Builder_String_f Tryz.lays169 Tryz.Builder_Extra_169 B b l w h h0
open Go.RowKit in
theorem Tryz.Builder_String_empty_f (B b : Nat) (w : World) (h : Lib.IsBuilderF 163 5 B b [] w) (hBw : B ≤ w.heap.size) :
    Calls Tryz.prog 103 #[.pointer (some ⟨b, 0, none⟩)] w fun e w' => e = .returned (.string ⟨#[]⟩) ∧ (Lib.IsBuilderF 163 5 B b [] w' ∧ Below B w w') := Any.Builder_String_empty_f Tryz.lays169 Tryz.Builder_Extra_169 B b w h hBw
open Go.RowKit in
theorem Tryz.Builder_String_any_f (B b : Nat) (l : List UInt8) (w : World) (h : Lib.IsBuilderF 163 5 B b (Lib.byteCells l) w) (hBw : B ≤ w.heap.size) :
    Calls Tryz.prog 103 #[.pointer (some ⟨b, 0, none⟩)] w fun e w' => e = .returned (.string ⟨l.toArray⟩) ∧ (Lib.IsBuilderF 163 5 B b (Lib.byteCells l) w' ∧ Below B w w') := Any.Builder_String_any_f Tryz.lays169 Tryz.Builder_Extra_169 B b l w h hBw
open Go.RowKit in
theorem Tryz.Builder_String_k (B b : Nat) (l : List UInt8) (w : World) (h : Lib.IsBuilderF 163 5 B b (Lib.byteCells l) w) (h0 : l ≠ []) :
    Calls Tryz.prog 103 #[.pointer (some ⟨b, 0, none⟩)] w fun e w' => e = .returned (.string ⟨l.toArray⟩) ∧ (Lib.IsBuilderF 163 5 B b (Lib.byteCells l) w' ∧ Below B w w' ∧ Lib.OthersKept 5 (some b) w w') := Any.Builder_String_k Tryz.lays169 Tryz.Builder_Extra_169 B b l w h h0
open Go.RowKit in
theorem Tryz.Builder_String_empty_k (B b : Nat) (w : World) (h : Lib.IsBuilderF 163 5 B b [] w) (hBw : B ≤ w.heap.size) :
    Calls Tryz.prog 103 #[.pointer (some ⟨b, 0, none⟩)] w fun e w' => e = .returned (.string ⟨#[]⟩) ∧ (Lib.IsBuilderF 163 5 B b [] w' ∧ Below B w w' ∧ Lib.OthersKept 5 (some b) w w') := Any.Builder_String_empty_k Tryz.lays169 Tryz.Builder_Extra_169 B b w h hBw
open Go.RowKit in
theorem Tryz.Builder_String_any_k (B b : Nat) (l : List UInt8) (w : World) (h : Lib.IsBuilderF 163 5 B b (Lib.byteCells l) w) (hBw : B ≤ w.heap.size) :
    Calls Tryz.prog 103 #[.pointer (some ⟨b, 0, none⟩)] w fun e w' => e = .returned (.string ⟨l.toArray⟩) ∧ (Lib.IsBuilderF 163 5 B b (Lib.byteCells l) w' ∧ Below B w w' ∧ Lib.OthersKept 5 (some b) w w') := Any.Builder_String_any_k Tryz.lays169 Tryz.Builder_Extra_169 B b l w h hBw
def Tryz.lays129_ren : Go.Shelf.Ren := ⟨fun | 129 => 233 | n => n, fun | 53 => 327 | 3 => 3 | 4 => 4 | 46 => 253 | 5 => 5 | 9 => 9 | n => n, fun | n => n⟩
theorem Tryz.lays129 : Go.Proofs.Lays.n129 Tryz.prog Tryz.lays129_ren := {
  mixed := by kernel_rfl
  f129 := Tryz.func233.trans (congrArg some (by kernel_rfl))
  t3 := Tryz.underlying3
  a3 := Tryz.isAgg3
  z3 := Tryz.sizeOf3
  v3 := Tryz.zeroValue3
  t4 := Tryz.underlying4
  a4 := Tryz.isAgg4
  z4 := Tryz.sizeOf4
  v4 := Tryz.zeroValue4
  t5 := Tryz.underlying5
  a5 := Tryz.isAgg5
  z5 := Tryz.sizeOf5
  v5 := Tryz.zeroValue5
  t9 := Tryz.underlying9
  a9 := Tryz.isAgg9
  z9 := Tryz.sizeOf9
  v9 := Tryz.zeroValue9
  t46 := Tryz.underlying253
  a46 := Tryz.isAgg253
  z46 := Tryz.sizeOf253
  v46 := Tryz.zeroValue253
  t53 := Tryz.underlying327
  a53 := Tryz.isAgg327
  z53 := Tryz.sizeOf327
  v53 := Tryz.zeroValue327 }
theorem Tryz.bits_Len64 (x : Int) (w : World) (h0 : 0 ≤ x) (h1 : x ≤ 18446744073709551615) :
    Calls Tryz.prog 233 #[.int .u64 x] w fun e w' => e = .returned (.int .i64 (Lib.bitLen x.toNat)) ∧ w' = w := Any.bits_Len64 Tryz.lays129 x w h0 h1
def Tryz.lays189_ren : Go.Shelf.Ren := ⟨fun | 189 => 201 | 125 => 218 | 257 => 217 | 128 => 232 | 129 => 233 | 294 => 223 | 295 => 224 | 296 => 225 | 297 => 226 | 298 => 227 | 299 => 228 | 216 => 229 | 300 => 230 | 301 => 231 | 328 => 237 | 329 => 238 | 330 => 239 | 331 => 240 | 332 => 241 | 215 => 242 | 343 => 243 | n => n, fun | 28 => 22 | 3 => 3 | 46 => 253 | 0 => 0 | 51 => 325 | 53 => 327 | 4 => 4 | 183 => 319 | 182 => 318 | 131 => 200 | 5 => 5 | 9 => 9 | 218 => 332 | 222 => 336 | 228 => 338 | 229 => 60 | n => n, fun | n => n⟩
theorem Tryz.lays189 : Go.Proofs.Lays.n189 Tryz.prog Tryz.lays189_ren := {
  mixed := by kernel_rfl
  f125 := Tryz.func218.trans (congrArg some (by kernel_rfl))
  f128 := Tryz.func232.trans (congrArg some (by kernel_rfl))
  f129 := Tryz.func233.trans (congrArg some (by kernel_rfl))
  f189 := Tryz.func201.trans (congrArg some (by kernel_rfl))
  f215 := Tryz.func242.trans (congrArg some (by kernel_rfl))
  f216 := Tryz.func229.trans (congrArg some (by kernel_rfl))
  f257 := Tryz.func217.trans (congrArg some (by kernel_rfl))
  f294 := Tryz.func223.trans (congrArg some (by kernel_rfl))
  f295 := Tryz.func224.trans (congrArg some (by kernel_rfl))
  f296 := Tryz.func225.trans (congrArg some (by kernel_rfl))
  f297 := Tryz.func226.trans (congrArg some (by kernel_rfl))
  f298 := Tryz.func227.trans (congrArg some (by kernel_rfl))
  f299 := Tryz.func228.trans (congrArg some (by kernel_rfl))
  f300 := Tryz.func230.trans (congrArg some (by kernel_rfl))
  f301 := Tryz.func231.trans (congrArg some (by kernel_rfl))
  f328 := Tryz.func237.trans (congrArg some (by kernel_rfl))
  f329 := Tryz.func238.trans (congrArg some (by kernel_rfl))
  f330 := Tryz.func239.trans (congrArg some (by kernel_rfl))
  f331 := Tryz.func240.trans (congrArg some (by kernel_rfl))
  f332 := Tryz.func241.trans (congrArg some (by kernel_rfl))
  f343 := Tryz.func243.trans (congrArg some (by kernel_rfl))
  t0 := Tryz.underlying0
  a0 := Tryz.isAgg0
  z0 := Tryz.sizeOf0
  v0 := Tryz.zeroValue0
  t3 := Tryz.underlying3
  a3 := Tryz.isAgg3
  z3 := Tryz.sizeOf3
  v3 := Tryz.zeroValue3
  t4 := Tryz.underlying4
  a4 := Tryz.isAgg4
  z4 := Tryz.sizeOf4
  v4 := Tryz.zeroValue4
  t5 := Tryz.underlying5
  a5 := Tryz.isAgg5
  z5 := Tryz.sizeOf5
  v5 := Tryz.zeroValue5
  t9 := Tryz.underlying9
  a9 := Tryz.isAgg9
  z9 := Tryz.sizeOf9
  v9 := Tryz.zeroValue9
  t28 := Tryz.underlying22
  a28 := Tryz.isAgg22
  z28 := Tryz.sizeOf22
  v28 := Tryz.zeroValue22
  t46 := Tryz.underlying253
  a46 := Tryz.isAgg253
  z46 := Tryz.sizeOf253
  v46 := Tryz.zeroValue253
  t51 := Tryz.underlying325
  a51 := Tryz.isAgg325
  z51 := Tryz.sizeOf325
  v51 := Tryz.zeroValue325
  t53 := Tryz.underlying327
  a53 := Tryz.isAgg327
  z53 := Tryz.sizeOf327
  v53 := Tryz.zeroValue327
  t131 := Tryz.underlying200
  a131 := Tryz.isAgg200
  z131 := Tryz.sizeOf200
  v131 := Tryz.zeroValue200
  t182 := Tryz.underlying318
  a182 := Tryz.isAgg318
  z182 := Tryz.sizeOf318
  v182 := Tryz.zeroValue318
  t183 := Tryz.underlying319
  a183 := Tryz.isAgg319
  z183 := Tryz.sizeOf319
  v183 := Tryz.zeroValue319
  t218 := Tryz.underlying332
  a218 := Tryz.isAgg332
  z218 := Tryz.sizeOf332
  v218 := Tryz.zeroValue332
  t222 := Tryz.underlying336
  a222 := Tryz.isAgg336
  z222 := Tryz.sizeOf336
  v222 := Tryz.zeroValue336
  t228 := Tryz.underlying338
  a228 := Tryz.isAgg338
  z228 := Tryz.sizeOf338
  v228 := Tryz.zeroValue338
  t229 := Tryz.underlying60
  a229 := Tryz.isAgg60
  z229 := Tryz.sizeOf60
  v229 := Tryz.zeroValue60 }
open Go.Sort Go.RowKit in
theorem Tryz.slices_Sort_int (blk off cap : Nat) (zs : List Int) (w : World) (hH : Holds (Value.int .i64) w blk off zs.toArray) (hblk : blk < w.heap.size) (hsz : zs.length < 4611686018427387904) :
    Calls Tryz.prog 201 #[.slice (some ⟨blk, off, none⟩) zs.length cap] w fun e w' =>
      e = .returned (.tuple #[]) ∧ ∃ n os, w' = grow (putRow (Value.int .i64) (Sort.ahead w n) blk off (zs.mergeSort fun x y => decide (x ≤ y)).toArray) os := Any.slices_Sort_int Tryz.lays189 blk off cap zs w hH hblk hsz
def Tryz.lays207_ren : Go.Shelf.Ren := ⟨fun | 207 => 236 | n => n, fun | 9 => 9 | 4 => 4 | 3 => 3 | n => n, fun | n => n⟩
theorem Tryz.lays207 : Go.Proofs.Lays.n207 Tryz.prog Tryz.lays207_ren := {
  mixed := by kernel_rfl
  f207 := Tryz.func236.trans (congrArg some (by kernel_rfl))
  t3 := Tryz.underlying3
  a3 := Tryz.isAgg3
  z3 := Tryz.sizeOf3
  v3 := Tryz.zeroValue3
  t4 := Tryz.underlying4
  a4 := Tryz.isAgg4
  z4 := Tryz.sizeOf4
  v4 := Tryz.zeroValue4
  t9 := Tryz.underlying9
  a9 := Tryz.isAgg9
  z9 := Tryz.sizeOf9
  v9 := Tryz.zeroValue9 }
open Go.RowKit Go.Lib in
theorem Tryz.stringslite_HasSuffix (s p : ByteArray) (w : World) (hs : s.size ≤ 9223372036854775807) :
    Calls Tryz.prog 236 #[.string s, .string p] w fun e w' => e = .returned (.bool (Lib.hasSuffix s.data.toList p.data.toList)) ∧ w' = w := Any.stringslite_HasSuffix Tryz.lays207 s p w hs
def Tryz.lays100_ren : Go.Shelf.Ren := ⟨fun | 100 => 221 | 207 => 236 | n => n, fun | 9 => 9 | 4 => 4 | 3 => 3 | n => n, fun | n => n⟩
theorem Tryz.lays100 : Go.Proofs.Lays.n100 Tryz.prog Tryz.lays100_ren := {
  mixed := by kernel_rfl
  f100 := Tryz.func221.trans (congrArg some (by kernel_rfl))
  f207 := Tryz.func236.trans (congrArg some (by kernel_rfl))
  t3 := Tryz.underlying3
  a3 := Tryz.isAgg3
  z3 := Tryz.sizeOf3
  v3 := Tryz.zeroValue3
  t4 := Tryz.underlying4
  a4 := Tryz.isAgg4
  z4 := Tryz.sizeOf4
  v4 := Tryz.zeroValue4
  t9 := Tryz.underlying9
  a9 := Tryz.isAgg9
  z9 := Tryz.sizeOf9
  v9 := Tryz.zeroValue9 }
open Go.RowKit Go.Lib in
theorem Tryz.strings_HasSuffix (s p : ByteArray) (w : World) (hs : s.size ≤ 9223372036854775807) :
    Calls Tryz.prog 221 #[.string s, .string p] w fun e w' => e = .returned (.bool (Lib.hasSuffix s.data.toList p.data.toList)) ∧ w' = w := Any.strings_HasSuffix Tryz.lays100 s p w hs
def Tryz.lays264_ren : Go.Shelf.Ren := ⟨fun | 264 => 235 | n => n, fun | 53 => 327 | 46 => 253 | n => n, fun | n => n⟩
theorem Tryz.lays264 : Go.Proofs.Lays.n264 Tryz.prog Tryz.lays264_ren := {
  mixed := by kernel_rfl
  f264 := Tryz.func235.trans (congrArg some (by kernel_rfl))
  t46 := Tryz.underlying253
  a46 := Tryz.isAgg253
  z46 := Tryz.sizeOf253
  v46 := Tryz.zeroValue253
  t53 := Tryz.underlying327
  a53 := Tryz.isAgg327
  z53 := Tryz.sizeOf327
  v53 := Tryz.zeroValue327 }
open Go.RowKit Go.Lib in
theorem Tryz.bits_Mul64 (x y : Nat) (hx : x < 18446744073709551616) (hy : y < 18446744073709551616) (w : World) :
    Calls Tryz.prog 235 #[.int .u64 x, .int .u64 y] w fun e w' => e = .returned (.tuple #[.int .u64 ((x * y / 18446744073709551616 : Nat) : Int), .int .u64 ((x * y % 18446744073709551616 : Nat) : Int)]) ∧ w' = w := Any.bits_Mul64 Tryz.lays264 x y hx hy w
def Tryz.lays212_ren : Go.Shelf.Ren := ⟨fun | 212 => 220 | 263 => 234 | 264 => 235 | n => n, fun | 46 => 253 | 51 => 325 | 146 => 328 | 53 => 327 | 148 => 330 | n => n, fun | n => n⟩
theorem Tryz.lays212 : Go.Proofs.Lays.n212 Tryz.prog Tryz.lays212_ren := {
  mixed := by kernel_rfl
  f212 := Tryz.func220.trans (congrArg some (by kernel_rfl))
  f263 := Tryz.func234.trans (congrArg some (by kernel_rfl))
  f264 := Tryz.func235.trans (congrArg some (by kernel_rfl))
  t46 := Tryz.underlying253
  a46 := Tryz.isAgg253
  z46 := Tryz.sizeOf253
  v46 := Tryz.zeroValue253
  t51 := Tryz.underlying325
  a51 := Tryz.isAgg325
  z51 := Tryz.sizeOf325
  v51 := Tryz.zeroValue325
  t53 := Tryz.underlying327
  a53 := Tryz.isAgg327
  z53 := Tryz.sizeOf327
  v53 := Tryz.zeroValue327
  t146 := Tryz.underlying328
  a146 := Tryz.isAgg328
  z146 := Tryz.sizeOf328
  v146 := Tryz.zeroValue328
  t148 := Tryz.underlying330
  a148 := Tryz.isAgg330
  z148 := Tryz.sizeOf330
  v148 := Tryz.zeroValue330 }
open Go.RowKit Go.Lib in
theorem Tryz.bits_Mul (x y : Nat) (hx : x < 18446744073709551616) (hy : y < 18446744073709551616) (w : World) :
    Calls Tryz.prog 220 #[.int .u64 x, .int .u64 y] w fun e w' => e = .returned (.tuple #[.int .u64 ((x * y / 18446744073709551616 : Nat) : Int), .int .u64 ((x * y % 18446744073709551616 : Nat) : Int)]) ∧ w' = w := Any.bits_Mul Tryz.lays212 x y hx hy w
def Tryz.lays108_ren : Go.Shelf.Ren := ⟨fun | 108 => 108 | n => n, fun | 28 => 22 | 3 => 3 | 0 => 0 | 4 => 4 | n => n, fun | n => n⟩
theorem Tryz.lays108 : Go.Proofs.Lays.n108 Tryz.prog Tryz.lays108_ren := {
  mixed := by kernel_rfl
  f108 := Tryz.func108.trans (congrArg some (by kernel_rfl))
  t0 := Tryz.underlying0
  a0 := Tryz.isAgg0
  z0 := Tryz.sizeOf0
  v0 := Tryz.zeroValue0
  t3 := Tryz.underlying3
  a3 := Tryz.isAgg3
  z3 := Tryz.sizeOf3
  v3 := Tryz.zeroValue3
  t4 := Tryz.underlying4
  a4 := Tryz.isAgg4
  z4 := Tryz.sizeOf4
  v4 := Tryz.zeroValue4
  t28 := Tryz.underlying22
  a28 := Tryz.isAgg22
  z28 := Tryz.sizeOf22
  v28 := Tryz.zeroValue22 }
open Go.Lib in
theorem Tryz.slices_Index_int (b off n c : Nat) (zs : List Int) (x : Int) (w : World) (hz : n ≤ zs.length) (hbig : n ≤ 9223372036854775807) (hc : ∀ j, j < zs.length → w.cell? ⟨b, off + j, none⟩ = some (.int .i64 (zs.getD j 0))) :
    Calls Tryz.prog 108 #[.slice (some ⟨b, off, none⟩) n c, .int .i64 x] w fun e w' => e = .returned (.int .i64 (Lib.idxOf (zs.take n) x)) ∧ w' = w := Any.slices_Index_int Tryz.lays108 b off n c zs x w hz hbig hc
open Go.Lib in
theorem Tryz.slices_Index_int_empty (a : Option Addr) (c : Nat) (x : Int) (w : World) :
    Calls Tryz.prog 108 #[.slice a 0 c, .int .i64 x] w fun e w' => e = .returned (.int .i64 (Lib.idxOf [] x)) ∧ w' = w := Any.slices_Index_int_empty Tryz.lays108 a c x w
def Tryz.lays107_ren : Go.Shelf.Ren := ⟨fun | 107 => 67 | 108 => 108 | n => n, fun | 28 => 22 | 3 => 3 | 4 => 4 | 0 => 0 | n => n, fun | n => n⟩
theorem Tryz.lays107 : Go.Proofs.Lays.n107 Tryz.prog Tryz.lays107_ren := {
  mixed := by kernel_rfl
  f107 := Tryz.func67.trans (congrArg some (by kernel_rfl))
  f108 := Tryz.func108.trans (congrArg some (by kernel_rfl))
  t0 := Tryz.underlying0
  a0 := Tryz.isAgg0
  z0 := Tryz.sizeOf0
  v0 := Tryz.zeroValue0
  t3 := Tryz.underlying3
  a3 := Tryz.isAgg3
  z3 := Tryz.sizeOf3
  v3 := Tryz.zeroValue3
  t4 := Tryz.underlying4
  a4 := Tryz.isAgg4
  z4 := Tryz.sizeOf4
  v4 := Tryz.zeroValue4
  t28 := Tryz.underlying22
  a28 := Tryz.isAgg22
  z28 := Tryz.sizeOf22
  v28 := Tryz.zeroValue22 }
open Go.Lib in
theorem Tryz.slices_Contains_int (b off n c : Nat) (zs : List Int) (x : Int) (w : World) (hz : n ≤ zs.length) (hbig : n ≤ 9223372036854775807) (hc : ∀ j, j < zs.length → w.cell? ⟨b, off + j, none⟩ = some (.int .i64 (zs.getD j 0))) :
    Calls Tryz.prog 67 #[.slice (some ⟨b, off, none⟩) n c, .int .i64 x] w fun e w' => e = .returned (.bool ((zs.take n).contains x)) ∧ w' = w := Any.slices_Contains_int Tryz.lays107 b off n c zs x w hz hbig hc
open Go.Lib in
theorem Tryz.slices_Contains_int_empty (a : Option Addr) (c : Nat) (x : Int) (w : World) :
    Calls Tryz.prog 67 #[.slice a 0 c, .int .i64 x] w fun e w' => e = .returned (.bool false) ∧ w' = w := Any.slices_Contains_int_empty Tryz.lays107 a c x w
def Tryz.laysNm215_ren : Go.Shelf.Ren := ⟨fun | 15 => 28 | n => n, fun | 22 => 22 | 3 => 3 | 4 => 4 | n => n, fun | n => n⟩
theorem Tryz.laysNm215 : Go.Proofs.Lays2.n15 Tryz.prog Tryz.laysNm215_ren := {
  mixed := by kernel_rfl
  f15 := Tryz.func28.trans (congrArg some (by kernel_rfl))
  t3 := Tryz.underlying3
  a3 := Tryz.isAgg3
  z3 := Tryz.sizeOf3
  v3 := Tryz.zeroValue3
  t4 := Tryz.underlying4
  a4 := Tryz.isAgg4
  z4 := Tryz.sizeOf4
  v4 := Tryz.zeroValue4
  t22 := Tryz.underlying22
  a22 := Tryz.isAgg22
  z22 := Tryz.sizeOf22
  v22 := Tryz.zeroValue22
  i3 := by kernel_rfl }
open Go.RowKit Go.Lib in
theorem Tryz.slices_Clone_int (b off n c : Nat) (zs : List Int) (w : World) (hz : n ≤ zs.length) (hbig : n * 8 ≤ 140737488355328) (hc : ∀ j, j < zs.length → w.cell? ⟨b, off + j, none⟩ = some (.int .i64 (zs.getD j 0))) :
    Calls Tryz.prog 28 #[.slice (some ⟨b, off, none⟩) n c] w fun e w' => ∃ v', e = .returned v' ∧ w'.ownsRow w.heap.size 3 1 v' n ((zs.take n).map (Value.int .i64)) ∧ v' ≠ .slice none 0 0 ∧ Below w.heap.size w w' := Any.slices_Clone_int Tryz.laysNm215 b off n c zs w hz hbig hc
open Go.RowKit Go.Lib in
theorem Tryz.slices_Clone_int_nil (n c : Nat) (w : World) :
    Calls Tryz.prog 28 #[.slice none n c] w fun e w' => e = .returned (.slice none 0 0) ∧ w' = w := Any.slices_Clone_int_nil Tryz.laysNm215 n c w
open Go.RowKit Go.Lib in
theorem Tryz.slices_Clone_int_zero (a : Addr) (c : Nat) (w : World) :
    Calls Tryz.prog 28 #[.slice (some a) 0 c] w fun e w' => ∃ v', e = .returned v' ∧ w'.ownsRow w.heap.size 3 1 v' 0 [] ∧ v' ≠ .slice none 0 0 ∧ Below w.heap.size w w' := Any.slices_Clone_int_zero Tryz.laysNm215 a c w
def Tryz.laysNm237_ren : Go.Shelf.Ren := ⟨fun | 37 => 242 | n => n, fun | 3 => 3 | 4 => 4 | n => n, fun | n => n⟩
theorem Tryz.laysNm237 : Go.Proofs.Lays2.n37 Tryz.prog Tryz.laysNm237_ren := {
  mixed := by kernel_rfl
  f37 := Tryz.func242.trans (congrArg some (by kernel_rfl))
  t3 := Tryz.underlying3
  a3 := Tryz.isAgg3
  z3 := Tryz.sizeOf3
  v3 := Tryz.zeroValue3
  t4 := Tryz.underlying4
  a4 := Tryz.isAgg4
  z4 := Tryz.sizeOf4
  v4 := Tryz.zeroValue4 }
open Go.RowKit Go.Lib in
theorem Tryz.cmp_isNaN_int2 (x : Int) (w : World) :
    Calls Tryz.prog 242 #[.int .i64 x] w fun e w' => e = .returned (.bool false) ∧ w' = w := Any.cmp_isNaN_int2 Tryz.laysNm237 x w
def Tryz.laysNm231_ren : Go.Shelf.Ren := ⟨fun | 31 => 229 | 37 => 242 | n => n, fun | 3 => 3 | 4 => 4 | n => n, fun | n => n⟩
theorem Tryz.laysNm231 : Go.Proofs.Lays2.n31 Tryz.prog Tryz.laysNm231_ren := {
  mixed := by kernel_rfl
  f31 := Tryz.func229.trans (congrArg some (by kernel_rfl))
  f37 := Tryz.func242.trans (congrArg some (by kernel_rfl))
  t3 := Tryz.underlying3
  a3 := Tryz.isAgg3
  z3 := Tryz.sizeOf3
  v3 := Tryz.zeroValue3
  t4 := Tryz.underlying4
  a4 := Tryz.isAgg4
  z4 := Tryz.sizeOf4
  v4 := Tryz.zeroValue4 }
open Go.RowKit Go.Lib in
theorem Tryz.cmp_Less_int2 (x y : Int) (w : World) :
    Calls Tryz.prog 229 #[.int .i64 x, .int .i64 y] w fun e w' => e = .returned (.bool (decide (x < y))) ∧ w' = w := Any.cmp_Less_int2 Tryz.laysNm231 x y w
open Go.RowKit Go.Sort in
theorem Tryz.slices_Sort_int_none (p : Option Addr) (cap : Nat) (w : World) :
    Calls Tryz.prog 201 #[.slice p 0 cap] w fun e w' => e = .returned (.tuple #[]) ∧ w' = w := Any.slices_Sort_int_none Tryz.lays189 p cap w
def Tryz.laysSlE041_f28_ren : Go.Shelf.Ren := ⟨fun | 41 => 28 | n => n, fun | 22 => 22 | 23 => 3 | 4 => 4 | n => n, fun | n => n⟩
theorem Tryz.laysSlE041_f28 : Go.Proofs.SlLaysE0.n41 Tryz.prog Tryz.laysSlE041_f28_ren := {
  mixed := by kernel_rfl
  f41 := ⟨Tryz.f28.name, by decide, Tryz.func28.trans (congrArg some (by kernel_rfl))⟩
  t4 := Tryz.underlying4
  a4 := Tryz.isAgg4
  z4 := Tryz.sizeOf4
  v4 := Tryz.zeroValue4
  t22 := Tryz.underlying22
  a22 := Tryz.isAgg22
  z22 := Tryz.sizeOf22
  v22 := Tryz.zeroValue22 }
open Go.RowKit Go.Lib in
theorem Tryz.slices_Clone (i0 : TypeInfo) (z : Value) (size bytes : Nat) (hi : Tryz.prog.info? 3 = some i0) (hz0 : i0.zero = some z) (hz1 : i0.size = size) (hz2 : i0.bytes = bytes) (hzs : z.cells.size = size) (hsz : 0 < size) (z23 : ∀ w, (Go.sizeOf 3).run Tryz.prog w = .ok size w) (b off n c : Nat) (news : List Value) (w : World) (hl : news.length = n * size) (hn : n ≤ maxLen) (hbig : n * bytes ≤ 140737488355328) (hc : ∀ j u, news[j]? = some u → w.cell? ⟨b, off + j, none⟩ = some u) (h1 : ∀ u ∈ news, u.oneCell' = true) :
    Calls Tryz.prog 28 #[.slice (some ⟨b, off, none⟩) n c] w fun e w' => ∃ v', e = .returned v' ∧ w'.ownsRow w.heap.size 3 size v' n news ∧ v' ≠ .slice none 0 0 ∧ Below w.heap.size w w' := AnyE.slices_Clone Tryz.laysSlE041_f28 i0 z size bytes hi hz0 hz1 hz2 hzs hsz z23 b off n c news w hl hn hbig hc h1
open Go.RowKit Go.Lib in
theorem Tryz.slices_Clone_nil (n c : Nat) (w : World) :
    Calls Tryz.prog 28 #[.slice none n c] w fun e w' => e = .returned (.slice none 0 0) ∧ w' = w := AnyE.slices_Clone_nil Tryz.laysSlE041_f28 n c w
end Go.Proofs
namespace Go.Proofs.YtdbempiompiioaaGreat.A9
open Go.RowKit A1 A2 A3 A4 A5 A6 A7 A8

theorem Contains (A : Option Addr) (l : List Int) (C : Nat) (x : Int) (w : World) (hl : Ints w A l) (hn : l.length ≤ 1000) :
    Calls Tryz.prog 67 #[.slice A l.length C, .int .i64 x] w fun e w' => e = .returned (.bool (l.contains x)) ∧ w = w' := by
  rcases hl.cases with h0 | ⟨b, off, rfl, hb, hc⟩
  · subst h0
    exact (Tryz.slices_Contains_int_empty A C x w).mono fun _ _ h => ⟨h.1, h.2.symm⟩
  · refine (Tryz.slices_Contains_int b off l.length C l x w (Nat.le_refl _) (by omega) hc).mono fun _ _ h => ⟨?_, h.2.symm⟩
    rw [h.1, List.take_length]
def others (l : List Int) (k : Nat) : List Int := ((List.range k).map (fun i : Nat => (i : Int))).filter (fun i => !l.contains i)
theorem others_zero (l : List Int) : others l 0 = [] := rfl
theorem others_in {l : List Int} {k : Nat} (h : l.contains (k : Int) = true) : others l (k + 1) = others l k := by
  unfold others
  rw [List.range_succ, List.map_append, List.filter_append]
  simpa using h
theorem others_out {l : List Int} {k : Nat} (h : l.contains (k : Int) = false) : others l (k + 1) = others l k ++ [(k : Int)] := by
  unfold others
  rw [List.range_succ, List.map_append, List.filter_append]
  have h' : ¬ (k : Int) ∈ l := by simpa using h
  simp [h']
theorem others_le (l : List Int) (k : Nat) : (others l k).length ≤ k := by
  unfold others
  refine Nat.le_trans (List.length_filter_le _ _) ?_
  simp
theorem info3 : (Tryz.prog.info? 3).map (fun i => (i.zero, i.size, i.bytes)) = some (some (.int .i64 0), 1, 8) := by kernel_rfl
theorem ints_of_own {w : World} {base : Nat} {v : Value} {l : List Int} (h : w.ownsRow base 3 1 v l.length (l.map (Value.int .i64))) : ∃ A C, v = .slice A l.length C ∧ Ints w A l ∧ l.length ≤ C := by
  obtain ⟨h1, h2⟩ := h
  rcases h2 with ⟨rfl, h0⟩ | ⟨g, cap, cur, rfl, hg, hh, hle, hcap, hsz, ht⟩
  · have : l = [] := List.length_eq_zero_iff.1 h0
    subst this
    exact ⟨none, 0, rfl, fun k hk => absurd hk (by simp), Nat.le_refl _⟩
  · refine ⟨some ⟨g, 0, none⟩, cap, rfl, fun k hk => ⟨g, 0, rfl, (Array.getElem?_eq_some_iff.1 hh).1, ?_⟩, hle⟩
    have hk2 : (l.map (Value.int .i64))[k]? = some (.int .i64 (l.getD k 0)) := by
      rw [List.getElem?_map, List.getElem?_eq_getElem hk]
      simp [List.getD, List.getElem?_eq_getElem hk]
    rw [← ht, List.getElem?_take] at hk2
    split at hk2
    · have h3 : cur[k]? = some (.int .i64 (l.getD k 0)) := by simpa using hk2
      simp only [World.cell?, hh]
      simpa using h3
    · cases hk2
theorem ownsRow_block {w : World} {base e size n : Nat} {v : Value} {xs : List Value} (h : w.ownsRow base e size v n xs) {q : Nat} (hq : v.ownBlock = some q) : base ≤ q := by
  obtain ⟨_, h2⟩ := h
  rcases h2 with ⟨rfl, _⟩ | ⟨g, cap, cur, rfl, hg, _⟩
  · simp [Value.ownBlock] at hq
  · simp [Value.ownBlock] at hq
    omega
theorem own_mono {w : World} {base base' e size n : Nat} {v : Value} {xs : List Value} (h : w.ownsRow base e size v n xs) (hb : base' ≤ base) : w.ownsRow base' e size v n xs := by
  obtain ⟨h1, h2⟩ := h
  refine ⟨h1, ?_⟩
  rcases h2 with h2 | ⟨g, cap, cur, h3, hg, r⟩
  · exact .inl h2
  · exact .inr ⟨g, cap, cur, h3, by omega, r⟩
set_option maxRecDepth 100000 in
set_option maxHeartbeats 1000000 in
theorem Voters (N Pi Er G Fi : Int) (PA : Option Addr) (ps : List Int) (PC : Nat) (slot : Int) (w : World) (hc : CfOk N Pi Er G Fi ps) (hl : Ints w PA ps) (h0 : 0 ≤ slot) (h1 : slot < N + ps.length) :
    Calls Tryz.prog 111 #[.agg #[.int .i64 N, .int .i64 Pi, .int .i64 Er, .int .i64 G, .int .i64 Fi, .slice PA ps.length PC], .int .i64 slot] w fun e w' => ∃ v, e = .returned v ∧ w'.ownsRow w.heap.size 3 1 v (others (owners N ps slot) N.toNat).length ((others (owners N ps slot) N.toNat).map (Value.int .i64)) ∧ Below w.heap.size w w' := by
  have n0 := hc.n0
  have n1 := hc.n1
  have HL := Lib.hid hl
  clear hl
  obtain ⟨i0, hi, hz0, hz1, hz2⟩ := info_parts info3
  have HI := Lib.hid hi
  have HZ0 := Lib.hid hz0
  have HZ1 := Lib.hid hz1
  have HZ2 := Lib.hid hz2
  clear hi hz0 hz1 hz2
  go_enter Tryz.func111, Tryz.ntmps111
  go_wp2_with fail
  refine (Owners N Pi Er G Fi PA ps PC slot _ hc (by repeat (first | exact HL.out | refine Ints.drewN ?_ _ | refine Ints.drew ?_ | refine Ints.alloc ?_ _)) h0 h1).mono ?_
  rintro e w1 ⟨A, C, rfl, hI, hle, hC, hb1⟩
  obtain ⟨hc1, hf1⟩ := bcell hb1
  have hz : w.heap.size < w1.heap.size := by have := hb1.size; simp at this; omega
  generalize how : owners N ps slot = ow at *
  have HOW := Lib.hid how
  clear how
  have hz0 : w.heap.size ≤ w1.heap.size := by omega
  go_wp2
  go_loopw [6, 14] (fun v i wr => ∃ k : Nat, (k : Int) ≤ N ∧ i = .int .i64 k ∧ wr.ownsRow w1.heap.size 3 1 v (others ow k).length ((others ow k).map (Value.int .i64)) ∧ Below w1.heap.size w1 wr) (fun _ i _ => N.toNat - (intOf i).toNat)
  case atStart => exact ⟨0, by omega, rfl, World.ownsRow_nil _ _ _ _, Below.refl _ _⟩
  case round =>
    obtain ⟨k, hk, rfl, hown, hbr⟩ := hrel
    have hIr := hI.below hbr
    have hol := others_le ow k
    by_cases hlt : (k : Int) < N
    · have HC := Lib.hid (Contains A ow C (k : Int) wr hIr (by omega))
      cases hcon : ow.contains (k : Int)
      · rw [hcon] at HC
        have ho := others_out hcon
        have HO := Lib.hid ho
        clear ho hcon
        have hi := HI.out
        go_wp2_with (first
          | (go_at_call 67; refine (HC.out).mono ?_; rintro e w' ⟨rfl, rfl⟩)
          | (at_builtin; refine wpList_append_own _ rfl _ _ 22 rfl w1.heap.size 3 i0 (.int .i64 0) 1 8 Tryz.underlying22 hi HZ0.out HZ1.out HZ2.out rfl (by decide) _ _ _ rfl (hown.alloc _) ⟨wr.heap.size, 0, none⟩ 1 1 [.int .i64 (k : Int)] rfl rfl ?c1 ?c2 ?c3 ?c4 ?c5 ?_))
        case c1 =>
          intro j u hj
          match j, hj with
          | 0, hj => simp at hj; subst hj; simp [Addr.add]
        case c2 => intro u hu; simp at hu; subst hu; rfl
        case c3 => unfold maxLen; omega
        case c4 => omega
        case c5 => have := hbr.size; simp; omega
        intro v' w2 hown' hgrow _
        have hb2 : Below w1.heap.size w1 w2 := (hbr.alloc hbr.size _).grown hgrow (by have := hbr.size; simp; omega) (fun q hq => ownsRow_block hown hq)
        clear hgrow hown
        go_wp2
        go_roundw
        case rel => exact ⟨k + 1, by omega, by go_num, by rw [HO.out]; simpa using hown', hb2⟩
        case measure => simp [intOf]; omega
      · rw [hcon] at HC
        have HO := Lib.hid (others_in hcon)
        clear hcon
        go_wp2_with (go_at_call 67; refine (HC.out).mono ?_; rintro e w' ⟨rfl, rfl⟩)
        go_roundw
        case rel => exact ⟨k + 1, by omega, by go_num, by rw [HO.out]; exact hown, hbr⟩
        case measure => simp [intOf]; omega
    · go_wp2
      go_ret
      have hkN : N.toNat = k := by omega
      refine ⟨_, rfl, ?_, ?_⟩
      · rw [hkN, HOW.out]
        exact own_mono hown hz0
      · exact (((Below.refl _ _).alloc (Nat.le_refl _) _).trans (hb1.mono (by simp))).trans (hbr.mono hz0)
end Go.Proofs.YtdbempiompiioaaGreat.A9
