/- Leaf functions of the network: places on a ring, numbers of a configuration, windows, states. Leaf functions of the network, two: guards, symbols, items, states. Leaf functions of the network, three: links of a ring, the one locus where it is a dead link or none. conf.Check on a configuration that may be: no error. The one locus where it is a dead link, or where there is none: what it hits, what i Conditions: the bounds stated in each theorem. -/
import Derived.Test.YtdbempiompiioaaGreatProg
import Derived.WalkKit
import Derived.KernelRfl
import Derived.Below
import Derived.LoopTactic
import Derived.Outline
import Derived.Lib.Hide
import Derived.Laws.BitsLemmas
import Derived.IntWalk
import Derived.Deep.Draws
import Derived.LoopN
import Derived.Deep.QuietTactic
import Derived.BigQuiet
import Derived.Deep.RegionHeld3
set_option linter.unusedVariables false
set_option linter.unusedSimpArgs false
namespace Go.Proofs.YtdbempiompiioaaGreat.A1
open Go.RowKit

theorem ret_int {k : IntKind} {a b : Int} (h : a = b) : Ending.returned (.int k a) = .returned (.int k b) := by rw [h]
theorem ret_bool {a b : Bool} (h : a = b) : Ending.returned (.bool a) = .returned (.bool b) := by rw [h]
theorem below_drewN {B : Nat} {a w : World} (h : Below B a w) (n : Nat) : Below B a (w.drewN n) := ⟨h.os, h.tape, h.output, h.size, h.block⟩
theorem two63 : (2 : Int) ^ 63 = 9223372036854775808 := by decide

theorem tmod_pos (a n : Int) (hn : 0 < n) : (a.tmod n + n).tmod n = a % n := by
  have h0 := Int.lt_tmod_of_pos a hn
  have h1 : 0 ≤ a.tmod n + n := by omega
  rw [Int.tmod_eq_emod_of_nonneg h1, Int.add_emod_right, Int.tmod_def, Int.sub_mul_emod_self_left]
theorem and_wires (x : Int) (h0 : 0 ≤ x) (h1 : x < 9223372036854775808) : bits BinOp.and IntKind.i64 x 65535 = x % 65536 := by
  have h := bits_mask .i64 63 (by decide) (fun n h0 h1 => by rw [two63] at h1; rw [IntKind.wrap_i64]; omega) 16 (by decide) x h0 (by rw [two63]; omega)
  have e : ((2 : Int) ^ 16 - 1) = 65535 := by decide
  have e2 : ((2 : Int) ^ 16) = 65536 := by decide
  rw [e, e2] at h
  exact h

theorem ring_At (n i d : Int) (w : World) (hn : 6 ≤ n) (hn2 : n ≤ 12) (hi : -1000 ≤ i) (hi2 : i ≤ 1000) (hd : -1000 ≤ d) (hd2 : d ≤ 1000) :
    Calls Tryz.prog 149 #[.int .i64 n, .int .i64 i, .int .i64 d] w fun e w' => e = .returned (.int .i64 ((i + d) % n)) ∧ w = w' := by
  have h1 := Int.lt_tmod_of_pos (i + d) (show 0 < n by omega)
  have h2 := Int.tmod_lt_of_pos (i + d) (show 0 < n by omega)
  have h3 : wrap64 ((i + d).tmod n + n) = (i + d).tmod n + n := by unfold wrap64; omega
  have H := Lib.hid h3
  clear h3 h1 h2
  go_enter Tryz.func149, Tryz.ntmps149
  go_wp2
  go_ret
  exact ⟨ret_int (by rw [H.out]; exact tmod_pos _ _ (by omega)), rfl⟩

theorem conf_Slots (N Pi Er G Fi : Int) (PA : Option Addr) (PL PC : Nat) (w : World) (hN : 0 ≤ N) (hN2 : N ≤ 12) (hp : PL ≤ 3) :
    Calls Tryz.prog 31 #[.agg #[.int .i64 N, .int .i64 Pi, .int .i64 Er, .int .i64 G, .int .i64 Fi, .slice PA PL PC]] w fun e w' => e = .returned (.int .i64 (N + PL)) ∧ Below w.heap.size w w' := by
  go_enter Tryz.func31, Tryz.ntmps31
  go_wp2
  go_ret
  exact ⟨rfl, (Below.refl _ _).alloc (Nat.le_refl _) _⟩
theorem ref_Slots (N Pi Er G Fi : Int) (PA : Option Addr) (PL PC : Nat) (w : World) (hN : 0 ≤ N) (hN2 : N ≤ 12) (hp : PL ≤ 3) :
    Calls Tryz.prog 24 #[.agg #[.int .i64 N, .int .i64 Pi, .int .i64 Er, .int .i64 G, .int .i64 Fi, .slice PA PL PC]] w fun e w' => e = .returned (.int .i64 (N + PL)) ∧ Below w.heap.size w w' := by
  go_enter Tryz.func24, Tryz.ntmps24
  go_wp2
  go_ret
  exact ⟨rfl, (Below.refl _ _).alloc (Nat.le_refl _) _⟩
theorem conf_Wire (N Pi Er G Fi : Int) (PA : Option Addr) (PL PC : Nat) (round : Int) (w : World) (hF : 0 ≤ Fi) (hF2 : Fi ≤ 65535) (hr : 0 ≤ round) (hr2 : round ≤ 1000) :
    Calls Tryz.prog 96 #[.agg #[.int .i64 N, .int .i64 Pi, .int .i64 Er, .int .i64 G, .int .i64 Fi, .slice PA PL PC], .int .i64 round] w fun e w' => e = .returned (.int .i64 ((Fi + round) % 65536)) ∧ Below w.heap.size w w' := by
  have H := Lib.hid (and_wires (Fi + round) (by omega) (by omega))
  go_enter Tryz.func96, Tryz.ntmps96
  go_wp2
  go_ret
  exact ⟨ret_int H.out, (Below.refl _ _).alloc (Nat.le_refl _) _⟩
theorem conf_Most (N Pi Er G Fi : Int) (PA : Option Addr) (PL PC : Nat) (w : World) (hN : 0 ≤ N) (hN2 : N ≤ 12) :
    Calls Tryz.prog 121 #[.agg #[.int .i64 N, .int .i64 Pi, .int .i64 Er, .int .i64 G, .int .i64 Fi, .slice PA PL PC]] w fun e w' => e = .returned (.int .i64 (N / 2 + 1)) ∧ Below w.heap.size w w' := by
  go_enter Tryz.func121, Tryz.ntmps121
  go_wp2
  go_ret
  exact ⟨rfl, (Below.refl _ _).alloc (Nat.le_refl _) _⟩
theorem conf_Window (N Pi Er G Fi : Int) (PA : Option Addr) (PL PC : Nat) (w : World) (hN : 0 ≤ Pi) (hN2 : Pi ≤ 10000) :
    Calls Tryz.prog 147 #[.agg #[.int .i64 N, .int .i64 Pi, .int .i64 Er, .int .i64 G, .int .i64 Fi, .slice PA PL PC]] w fun e w' => e = .returned (.int .i64 (2 * Pi)) ∧ Below w.heap.size w w' := by
  go_enter Tryz.func147, Tryz.ntmps147
  go_wp2
  go_ret
  exact ⟨rfl, (Below.refl _ _).alloc (Nat.le_refl _) _⟩
theorem conf_within (n a b : Int) (w : World) :
    Calls Tryz.prog 46 #[.int .i64 n, .int .i64 a, .int .i64 b] w fun e w' => e = .returned (.bool (decide (a ≤ n ∧ n ≤ b))) ∧ w = w' := by
  by_cases h1 : n ≥ a
  · by_cases h2 : n ≤ b
    · go_enter Tryz.func46, Tryz.ntmps46
      go_wp2
      go_ret
      exact ⟨ret_bool (by simp [h1, h2]), rfl⟩
    · go_enter Tryz.func46, Tryz.ntmps46
      go_wp2
      go_ret
      exact ⟨ret_bool (by simp [h1, h2]), rfl⟩
  · have h1' : decide (n ≥ a) = false := by simp; omega
    go_enter Tryz.func46, Tryz.ntmps46
    go_wp2
    go_ret
    exact ⟨ret_bool (by simp [h1]), rfl⟩
theorem script_within (n a b : Int) (w : World) :
    Calls Tryz.prog 50 #[.int .i64 n, .int .i64 a, .int .i64 b] w fun e w' => e = .returned (.bool (decide (a ≤ n ∧ n ≤ b))) ∧ w = w' := by
  by_cases h1 : n ≥ a
  · by_cases h2 : n ≤ b
    · go_enter Tryz.func50, Tryz.ntmps50
      go_wp2
      go_ret
      exact ⟨ret_bool (by simp [h1, h2]), rfl⟩
    · go_enter Tryz.func50, Tryz.ntmps50
      go_wp2
      go_ret
      exact ⟨ret_bool (by simp [h1, h2]), rfl⟩
  · have h1' : decide (n ≥ a) = false := by simp; omega
    go_enter Tryz.func50, Tryz.ntmps50
    go_wp2
    go_ret
    exact ⟨ret_bool (by simp [h1]), rfl⟩

theorem rem_lt (a n : Int) (hn : 0 < n) : a.tmod n < n ∧ -n < a.tmod n := ⟨Int.tmod_lt_of_pos a hn, Int.lt_tmod_of_pos a hn⟩
theorem rem_pos {a n : Int} (hn : 0 < n) (h : ¬ a.tmod n < 0) : a.tmod n = a % n := by
  have h1 := tmod_pos a n hn
  rw [Int.tmod_eq_emod_of_nonneg (by have := rem_lt a n hn; omega), Int.add_emod_right, Int.emod_eq_of_lt (by omega) (rem_lt a n hn).1] at h1
  exact h1
theorem rem_neg {a n : Int} (hn : 0 < n) (h : a.tmod n < 0) : a.tmod n + n = a % n := by
  have h1 := tmod_pos a n hn
  have := rem_lt a n hn
  rw [Int.tmod_eq_emod_of_nonneg (by omega), Int.emod_eq_of_lt (by omega) (by omega)] at h1
  exact h1
theorem top_within (a n : Int) (w : World) (hn : 0 < n) (hn2 : n ≤ 1000000) :
    Calls Tryz.prog 9 #[.int .i64 a, .int .i64 n] w fun e w' => e = .returned (.int .i64 (a % n)) ∧ w = w' := by
  have hl := rem_lt a n hn
  by_cases h : a.tmod n < 0
  · have H := Lib.hid (rem_neg hn h)
    have H2 := Lib.hid (show wrap64 (a.tmod n + n) = a.tmod n + n by unfold wrap64; omega)
    clear hl
    go_enter Tryz.func9, Tryz.ntmps9
    go_wp2
    go_ret
    exact ⟨ret_int (by first | exact H.out | (rw [H2.out]; exact H.out)), rfl⟩
  · have H := Lib.hid (rem_pos hn h)
    clear hl
    go_enter Tryz.func9, Tryz.ntmps9
    go_wp2
    go_ret
    exact ⟨ret_int H.out, rfl⟩
end Go.Proofs.YtdbempiompiioaaGreat.A1
namespace Go.Proofs.YtdbempiompiioaaGreat.A2
open Go.RowKit A1

theorem lane_symbol_yes (c : Int) (w : World) (h : c = 48 ∨ c = 49 ∨ c = 35) :
    Calls Tryz.prog 210 #[.int .i32 c] w fun e w' => e = .returned (.bool true) ∧ w = w' := by
  rcases h with rfl | rfl | rfl <;>
  · go_enter Tryz.func210, Tryz.ntmps210
    go_wp2
    go_ret
    exact ⟨rfl, rfl⟩
theorem lane_symbol_idle (w : World) :
    Calls Tryz.prog 210 #[.int .i32 46] w fun e w' => e = .returned (.bool false) ∧ w = w' := by
  go_enter Tryz.func210, Tryz.ntmps210
  go_wp2
  go_ret
  exact ⟨rfl, rfl⟩
theorem sym_bit (c : Int) (w : World) (h : c = 48 ∨ c = 49 ∨ c = 35) :
    Calls Tryz.prog 189 #[.int .i32 c] w fun e w' => e = .returned (.bool (c != 35)) ∧ w = w' := by
  rcases h with rfl | rfl | rfl <;>
  · go_enter Tryz.func189, Tryz.ntmps189
    go_wp2
    go_ret
    exact ⟨rfl, rfl⟩
theorem lane_at_in (s : ByteArray) (i : Nat) (w : World) (hs : s.size ≤ 4000) (h : i < s.size) :
    Calls Tryz.prog 177 #[.string s, .int .i64 i] w fun e w' => e = .returned (.int .u8 s[i].toNat) ∧ w = w' := by
  go_enter Tryz.func177, Tryz.ntmps177
  go_wp2
  go_ret
  exact ⟨rfl, rfl⟩
theorem lane_at_out (s : ByteArray) (i : Nat) (w : World) (hs : s.size ≤ 4000) (hi : i ≤ 5000) (h : s.size ≤ i) :
    Calls Tryz.prog 177 #[.string s, .int .i64 i] w fun e w' => e = .returned (.int .u8 46) ∧ w = w' := by
  have h1 : decide (i < s.size) = false := by simp; omega
  go_enter Tryz.func177, Tryz.ntmps177
  go_wp2
  go_ret
  exact ⟨rfl, rfl⟩
theorem frame_echoes_data (N Pi Er G Fi : Int) (PA : Option Addr) (PL PC : Nat) (slot : Int) (w : World) (hN : 0 ≤ N) (hN2 : N ≤ 12) (hp : PL ≤ 3) (h2 : slot < N) :
    Calls Tryz.prog 197 #[.agg #[.int .i64 N, .int .i64 Pi, .int .i64 Er, .int .i64 G, .int .i64 Fi, .slice PA PL PC], .int .i64 3, .int .i64 slot] w fun e w' => e = .returned (.int .i64 (N + PL)) ∧ Below w.heap.size w w' := by
  go_enter Tryz.func197, Tryz.ntmps197
  go_wp2_with (go_at_call 31; refine (conf_Slots _ _ _ _ _ _ _ _ _ hN hN2 hp).mono ?_; rintro e w' ⟨rfl, hb⟩)
  go_ret
  exact ⟨rfl, ((Below.refl _ _).alloc (Nat.le_refl _) _).trans (hb.mono (by simp))⟩
theorem frame_echoes_pair (N Pi Er G Fi : Int) (PA : Option Addr) (PL PC : Nat) (slot : Int) (w : World) (hN : 0 ≤ N) (hN2 : N ≤ 12) (hp : PL ≤ 3) (h2 : N ≤ slot) :
    Calls Tryz.prog 197 #[.agg #[.int .i64 N, .int .i64 Pi, .int .i64 Er, .int .i64 G, .int .i64 Fi, .slice PA PL PC], .int .i64 3, .int .i64 slot] w fun e w' => e = .returned (.int .i64 0) ∧ Below w.heap.size w w' := by
  have h2' : decide (slot < N) = false := by simp; omega
  go_enter Tryz.func197, Tryz.ntmps197
  go_wp2
  go_ret
  exact ⟨rfl, (Below.refl _ _).alloc (Nat.le_refl _) _⟩
theorem frame_echoes_none (N Pi Er G Fi : Int) (PA : Option Addr) (PL PC : Nat) (kind slot : Int) (w : World) (hN : 0 ≤ N) (hN2 : N ≤ 12) (hp : PL ≤ 3) (h1 : kind ≠ 3) :
    Calls Tryz.prog 197 #[.agg #[.int .i64 N, .int .i64 Pi, .int .i64 Er, .int .i64 G, .int .i64 Fi, .slice PA PL PC], .int .i64 kind, .int .i64 slot] w fun e w' => e = .returned (.int .i64 0) ∧ Below w.heap.size w w' := by
  have h1' : (kind == 3) = false := beq_eq_false_iff_ne.mpr h1
  go_enter Tryz.func197, Tryz.ntmps197
  go_wp2
  go_ret
  exact ⟨rfl, (Below.refl _ _).alloc (Nat.le_refl _) _⟩
def okItem (k v : Int) : Prop := (k = 0 ∧ v = 0) ∨ (k = 1 ∧ v = 0) ∨ (k = 2 ∧ 0 ≤ v ∧ v ≤ 255)
theorem frame_empty (k v : Int) (w : World) (h : okItem k v) :
    Calls Tryz.prog 212 #[.agg #[.int .i64 k, .int .i64 v]] w fun e w' => e = .returned (.bool (k == 0)) ∧ Below w.heap.size w w' := by
  rcases h with ⟨rfl, rfl⟩ | ⟨rfl, rfl⟩ | ⟨rfl, h1, h2⟩ <;>
  · go_enter Tryz.func212, Tryz.ntmps212
    go_wp2
    go_ret
    exact ⟨rfl, by repeat (first | exact Below.refl _ _ | refine Below.alloc ?_ (Nat.le_refl _) _)⟩
theorem frame_value (k v : Int) (w : World) (h : okItem k v) :
    Calls Tryz.prog 213 #[.agg #[.int .i64 k, .int .i64 v]] w fun e w' => e = .returned (.bool (k != 0)) ∧ Below w.heap.size w w' := by
  rcases h with ⟨rfl, rfl⟩ | ⟨rfl, rfl⟩ | ⟨rfl, h1, h2⟩ <;>
  · go_enter Tryz.func213, Tryz.ntmps213
    go_wp2
    go_ret
    exact ⟨rfl, by repeat (first | exact Below.refl _ _ | refine Below.alloc ?_ (Nat.le_refl _) _)⟩
theorem state_wait (most th state timer : Int) (w : World) (ht : 0 ≤ timer) (ht2 : timer ≤ 1000) :
    Calls Tryz.prog 122 #[.agg #[.int .i64 most, .int .i64 th], .int .i64 state, .int .i64 timer] w fun e w' =>
      e = .returned (.tuple (if most ≤ timer + 1 then #[.int .i64 th, .int .i64 0] else #[.int .i64 state, .int .i64 (timer + 1)])) ∧ Below w.heap.size w w' := by
  by_cases h : timer + 1 ≥ most
  · go_enter Tryz.func122, Tryz.ntmps122
    go_wp2
    go_ret2
    exact ⟨by simp [h], (Below.refl _ _).alloc (Nat.le_refl _) _⟩
  · go_enter Tryz.func122, Tryz.ntmps122
    go_wp2
    go_ret2
    exact ⟨by simp [h], (Below.refl _ _).alloc (Nat.le_refl _) _⟩
theorem guard_holds (most dev : Int) (w : World) (h0 : 0 ≤ most) (h1 : most ≤ 1000000) :
    Calls Tryz.prog 192 #[.agg #[.int .i64 most], .int .i64 dev] w fun e w' => e = .returned (.bool (decide (-most ≤ dev ∧ dev ≤ most))) ∧ Below w.heap.size w w' := by
  by_cases h2 : dev ≥ -most
  · go_enter Tryz.func192, Tryz.ntmps192
    go_wp2
    all_goals
      go_ret
      exact ⟨ret_bool (by first | (simp; done) | (simp; omega)), (Below.refl _ _).alloc (Nat.le_refl _) _⟩
  · have h2' : decide (dev ≥ -most) = false := by simp; omega
    go_enter Tryz.func192, Tryz.ntmps192
    go_wp2
    all_goals
      go_ret
      exact ⟨ret_bool (by first | (simp; done) | (simp; omega)), (Below.refl _ _).alloc (Nat.le_refl _) _⟩

theorem guard_Admits (N Pi Er G Fi : Int) (PA : Option Addr) (PL PC : Nat) (state dev : Int) (w : World) (h0 : 0 ≤ Pi) (h1 : Pi ≤ 10000) :
    Calls Tryz.prog 174 #[.agg #[.int .i64 N, .int .i64 Pi, .int .i64 Er, .int .i64 G, .int .i64 Fi, .slice PA PL PC], .int .i64 state, .int .i64 dev] w fun e w' => e = .returned (.bool (decide (state ≠ 4 ∨ -(2 * Pi) ≤ dev ∧ dev ≤ 2 * Pi))) ∧ Below w.heap.size w w' := by
  have hmf : ∀ (fn : Fn) (first cap : Array Value) (w : World), (Instr.makeFunc fn first cap).run Tryz.prog w = .ok (.func fn first cap) w := fun _ _ _ _ => rfl
  by_cases c5 : state = 4
  · subst c5
    go_enter Tryz.func174, Tryz.ntmps174
    go_wp2_with (first | (go_at_call 147; refine (conf_Window _ _ _ _ _ _ _ _ _ h0 h1).mono ?_; rintro e w' ⟨rfl, hb⟩) | (go_at_call 192; refine (guard_holds _ _ _ (by omega) (by omega)).mono ?_; rintro e w2 ⟨rfl, hb2⟩))
    go_ret
    exact ⟨ret_bool (by simp), (((Below.refl _ _).alloc (Nat.le_refl _) _).trans (hb.mono (by simp))).trans (hb2.mono (by have := hb.size; simp at this; omega))⟩
  · have c5b1 : (state != 4) = true := bne_iff_ne.mpr c5
    go_enter Tryz.func174, Tryz.ntmps174
    go_wp2_with (first | (go_at_call 147; refine (conf_Window _ _ _ _ _ _ _ _ _ h0 h1).mono ?_; rintro e w' ⟨rfl, hb⟩))
    go_ret
    exact ⟨ret_bool (by simp [c5]), ((Below.refl _ _).alloc (Nat.le_refl _) _).trans (hb.mono (by simp))⟩
theorem guard_Stream (N Pi Er G Fi : Int) (PA : Option Addr) (PL PC : Nat) (state dev : Int) (s : ByteArray) (w : World) (h0 : 0 ≤ Pi) (h1 : Pi ≤ 10000) :
    Calls Tryz.prog 151 #[.agg #[.int .i64 N, .int .i64 Pi, .int .i64 Er, .int .i64 G, .int .i64 Fi, .slice PA PL PC], .int .i64 state, .int .i64 dev, .string s] w fun e w' => e = .returned (.string (if state ≠ 4 ∨ -(2 * Pi) ≤ dev ∧ dev ≤ 2 * Pi then s else ⟨#[]⟩)) ∧ Below w.heap.size w w' := by
  by_cases c : state ≠ 4 ∨ -(2 * Pi) ≤ dev ∧ dev ≤ 2 * Pi
  · have H := Lib.hid (guard_Admits N Pi Er G Fi PA PL PC state dev · h0 h1)
    rw [if_pos c]
    have hd : decide (state ≠ 4 ∨ -(2 * Pi) ≤ dev ∧ dev ≤ 2 * Pi) = true := decide_eq_true c
    rw [hd] at H
    clear hd c
    go_enter Tryz.func151, Tryz.ntmps151
    go_wp2_with (go_at_call 174; refine (H.out _).mono ?_; rintro e w' ⟨rfl, hb⟩)
    go_ret
    exact ⟨rfl, ((Below.refl _ _).alloc (Nat.le_refl _) _).trans (hb.mono (by simp))⟩
  · have H := Lib.hid (guard_Admits N Pi Er G Fi PA PL PC state dev · h0 h1)
    rw [if_neg c]
    have hd : decide (state ≠ 4 ∨ -(2 * Pi) ≤ dev ∧ dev ≤ 2 * Pi) = false := decide_eq_false c
    rw [hd] at H
    clear hd c
    go_enter Tryz.func151, Tryz.ntmps151
    go_wp2_with (go_at_call 174; refine (H.out _).mono ?_; rintro e w' ⟨rfl, hb⟩)
    go_ret
    exact ⟨rfl, ((Below.refl _ _).alloc (Nat.le_refl _) _).trans (hb.mono (by simp))⟩
end Go.Proofs.YtdbempiompiioaaGreat.A2
namespace Go.Proofs.YtdbempiompiioaaGreat.A3
open Go.RowKit A1 A2

theorem quiet_add_left {P : Program} {f : FuncId} {args : Array Value} {w : World} {a n : Nat} {v : Value}
    (h : Calls P f args (w.drewN (a + n)) fun e w' => e = .returned v ∧ w.drewN (a + n) = w') :
    Calls P f args (w.drewN (a + n)) fun e w'' => e = .returned v ∧ ∃ m, w'' = w.drewN (a + m) :=
  h.mono fun _ _ ⟨he, hm⟩ => ⟨he, n, hm.symm⟩
theorem quiet_left {P : Program} {f : FuncId} {args : Array Value} {w : World} {n : Nat} {v : Value}
    (h : Calls P f args (w.drewN n) fun e w' => e = .returned v ∧ w.drewN n = w') : Calls P f args (w.drewN n) fun e w'' => e = .returned v ∧ ∃ m, w'' = w.drewN m :=
  h.mono fun _ _ ⟨he, hm⟩ => ⟨he, n, hm.symm⟩
def linkOf (n a b : Int) : Option Int :=
  if (a + 1) % n = b then some a else if (b + 1) % n = a then some b else if (a + 2) % n = b then some (a + n) else if (b + 2) % n = a then some (b + n) else none

abbrev links (a b : Int) : Array Value := #[.int .i64 a, .int .i64 b, .int .i64 1, .int .i64 b, .int .i64 a, .int .i64 1, .int .i64 a, .int .i64 b, .int .i64 2, .int .i64 b, .int .i64 a, .int .i64 2]
theorem ix0 (a b : Int) (w : World) : (Instr.index 353 (.agg #[.int .i64 a, .int .i64 b, .int .i64 1, .int .i64 b, .int .i64 a, .int .i64 1, .int .i64 a, .int .i64 b, .int .i64 2, .int .i64 b, .int .i64 a, .int .i64 2]) (.int .i64 0)).run Tryz.prog w = .ok (.agg #[.int .i64 a, .int .i64 b, .int .i64 1]) w := by kernel_rfl
theorem ix1 (a b : Int) (w : World) : (Instr.index 353 (.agg #[.int .i64 a, .int .i64 b, .int .i64 1, .int .i64 b, .int .i64 a, .int .i64 1, .int .i64 a, .int .i64 b, .int .i64 2, .int .i64 b, .int .i64 a, .int .i64 2]) (.int .i64 1)).run Tryz.prog w = .ok (.agg #[.int .i64 b, .int .i64 a, .int .i64 1]) w := by kernel_rfl
theorem ix2 (a b : Int) (w : World) : (Instr.index 353 (.agg #[.int .i64 a, .int .i64 b, .int .i64 1, .int .i64 b, .int .i64 a, .int .i64 1, .int .i64 a, .int .i64 b, .int .i64 2, .int .i64 b, .int .i64 a, .int .i64 2]) (.int .i64 2)).run Tryz.prog w = .ok (.agg #[.int .i64 a, .int .i64 b, .int .i64 2]) w := by kernel_rfl
theorem ix3 (a b : Int) (w : World) : (Instr.index 353 (.agg #[.int .i64 a, .int .i64 b, .int .i64 1, .int .i64 b, .int .i64 a, .int .i64 1, .int .i64 a, .int .i64 b, .int .i64 2, .int .i64 b, .int .i64 a, .int .i64 2]) (.int .i64 3)).run Tryz.prog w = .ok (.agg #[.int .i64 b, .int .i64 a, .int .i64 2]) w := by kernel_rfl
theorem at_quiet (n i d : Int) (w : World) (hn : 6 ≤ n) (hn2 : n ≤ 12) (hi : -1000 ≤ i) (hi2 : i ≤ 1000) (hd : -1000 ≤ d) (hd2 : d ≤ 1000) :
    Calls Tryz.prog 149 #[.int .i64 n, .int .i64 i, .int .i64 d] w fun e w' => e = .returned (.int .i64 ((i + d) % n)) ∧ w' = w :=
  (ring_At n i d w hn hn2 hi hi2 hd hd2).mono fun _ _ h => ⟨h.1, h.2.symm⟩
set_option maxRecDepth 100000 in
set_option maxHeartbeats 1000000 in
theorem ring_Link0 (n a b : Int) (w : World) (hn : 6 ≤ n) (hn2 : n ≤ 7) (ha : 0 ≤ a) (ha2 : a < n) (hb : 0 ≤ b) (hb2 : b < n) (h0 : (a + 1) % n = b) :
    Calls Tryz.prog 268 #[.int .i64 n, .int .i64 a, .int .i64 b] w fun e w' => e = .returned (.tuple #[.int .i64 a, .bool true]) ∧ Below w.heap.size w w' := by
  have e0 : ((a + 1) % n == b) = true := by simpa using h0
  have d1 : decide (a < 0) = false := by simp; omega
  have d2 : decide (b < 0) = false := by simp; omega
  have d3 : decide (a ≥ n) = false := by simp; omega
  have d4 : decide (b ≥ n) = false := by simp; omega
  have i0 := ix0 a b
  clear h0
  go_enter Tryz.func268, Tryz.ntmps268
  go_wp2
  refine wp_loop_rounds 5 ?_
  rw [rounds_succ]
  go_wp2
  go_quiet ((go_at_call 149; exact Calls.quiet_of_same (at_quiet _ _ _ _ (by omega) (by omega) (by omega) (by omega) (by omega) (by omega))))
  go_wp2
  go_ret2
  exact ⟨by first | rfl | simp, by repeat (first | exact Below.refl _ _ | refine Below.drew ?_ | refine below_drewN ?_ _ | refine Below.alloc ?_ (by simp; try omega) _)⟩
set_option maxRecDepth 100000 in
set_option maxHeartbeats 1000000 in
theorem ring_Link1 (n a b : Int) (w : World) (hn : 6 ≤ n) (hn2 : n ≤ 7) (ha : 0 ≤ a) (ha2 : a < n) (hb : 0 ≤ b) (hb2 : b < n) (h0 : ¬ (a + 1) % n = b) (h1 : (b + 1) % n = a) :
    Calls Tryz.prog 268 #[.int .i64 n, .int .i64 a, .int .i64 b] w fun e w' => e = .returned (.tuple #[.int .i64 b, .bool true]) ∧ Below w.heap.size w w' := by
  have e0 : ((a + 1) % n == b) = false := by simpa using h0
  have e1 : ((b + 1) % n == a) = true := by simpa using h1
  have d1 : decide (a < 0) = false := by simp; omega
  have d2 : decide (b < 0) = false := by simp; omega
  have d3 : decide (a ≥ n) = false := by simp; omega
  have d4 : decide (b ≥ n) = false := by simp; omega
  have i0 := ix0 a b
  have i1 := ix1 a b
  clear h0 h1
  go_enter Tryz.func268, Tryz.ntmps268
  go_wp2
  refine wp_loop_rounds 5 ?_
  rw [rounds_succ]
  go_wp2
  go_quiet ((go_at_call 149; exact Calls.quiet_of_same (at_quiet _ _ _ _ (by omega) (by omega) (by omega) (by omega) (by omega) (by omega))))
  go_wp2
  rw [rounds_succ]
  go_wp2
  go_quiet ((go_at_call 149; exact Calls.quiet_of_same (at_quiet _ _ _ _ (by omega) (by omega) (by omega) (by omega) (by omega) (by omega))))
  go_wp2
  go_ret2
  exact ⟨by first | rfl | simp, by repeat (first | exact Below.refl _ _ | refine Below.drew ?_ | refine below_drewN ?_ _ | refine Below.alloc ?_ (by simp; try omega) _)⟩
set_option maxRecDepth 100000 in
set_option maxHeartbeats 1000000 in
theorem ring_Link2 (n a b : Int) (w : World) (hn : 6 ≤ n) (hn2 : n ≤ 7) (ha : 0 ≤ a) (ha2 : a < n) (hb : 0 ≤ b) (hb2 : b < n) (h0 : ¬ (a + 1) % n = b) (h1 : ¬ (b + 1) % n = a) (h2 : (a + 2) % n = b) :
    Calls Tryz.prog 268 #[.int .i64 n, .int .i64 a, .int .i64 b] w fun e w' => e = .returned (.tuple #[.int .i64 (a + n), .bool true]) ∧ Below w.heap.size w w' := by
  have e0 : ((a + 1) % n == b) = false := by simpa using h0
  have e1 : ((b + 1) % n == a) = false := by simpa using h1
  have e2 : ((a + 2) % n == b) = true := by simpa using h2
  have d1 : decide (a < 0) = false := by simp; omega
  have d2 : decide (b < 0) = false := by simp; omega
  have d3 : decide (a ≥ n) = false := by simp; omega
  have d4 : decide (b ≥ n) = false := by simp; omega
  have i0 := ix0 a b
  have i1 := ix1 a b
  have i2 := ix2 a b
  clear h0 h1 h2
  go_enter Tryz.func268, Tryz.ntmps268
  go_wp2
  refine wp_loop_rounds 5 ?_
  rw [rounds_succ]
  go_wp2
  go_quiet ((go_at_call 149; exact Calls.quiet_of_same (at_quiet _ _ _ _ (by omega) (by omega) (by omega) (by omega) (by omega) (by omega))))
  go_wp2
  rw [rounds_succ]
  go_wp2
  go_quiet ((go_at_call 149; exact Calls.quiet_of_same (at_quiet _ _ _ _ (by omega) (by omega) (by omega) (by omega) (by omega) (by omega))))
  go_wp2
  rw [rounds_succ]
  go_wp2
  go_quiet ((go_at_call 149; exact Calls.quiet_of_same (at_quiet _ _ _ _ (by omega) (by omega) (by omega) (by omega) (by omega) (by omega))))
  go_wp2
  go_ret2
  exact ⟨by first | rfl | simp, by repeat (first | exact Below.refl _ _ | refine Below.drew ?_ | refine below_drewN ?_ _ | refine Below.alloc ?_ (by simp; try omega) _)⟩
set_option maxRecDepth 100000 in
set_option maxHeartbeats 1000000 in
theorem ring_Link3 (n a b : Int) (w : World) (hn : 6 ≤ n) (hn2 : n ≤ 7) (ha : 0 ≤ a) (ha2 : a < n) (hb : 0 ≤ b) (hb2 : b < n) (h0 : ¬ (a + 1) % n = b) (h1 : ¬ (b + 1) % n = a) (h2 : ¬ (a + 2) % n = b) (h3 : (b + 2) % n = a) :
    Calls Tryz.prog 268 #[.int .i64 n, .int .i64 a, .int .i64 b] w fun e w' => e = .returned (.tuple #[.int .i64 (b + n), .bool true]) ∧ Below w.heap.size w w' := by
  have e0 : ((a + 1) % n == b) = false := by simpa using h0
  have e1 : ((b + 1) % n == a) = false := by simpa using h1
  have e2 : ((a + 2) % n == b) = false := by simpa using h2
  have e3 : ((b + 2) % n == a) = true := by simpa using h3
  have d1 : decide (a < 0) = false := by simp; omega
  have d2 : decide (b < 0) = false := by simp; omega
  have d3 : decide (a ≥ n) = false := by simp; omega
  have d4 : decide (b ≥ n) = false := by simp; omega
  have i0 := ix0 a b
  have i1 := ix1 a b
  have i2 := ix2 a b
  have i3 := ix3 a b
  clear h0 h1 h2 h3
  go_enter Tryz.func268, Tryz.ntmps268
  go_wp2
  refine wp_loop_rounds 5 ?_
  rw [rounds_succ]
  go_wp2
  go_quiet ((go_at_call 149; exact Calls.quiet_of_same (at_quiet _ _ _ _ (by omega) (by omega) (by omega) (by omega) (by omega) (by omega))))
  go_wp2
  rw [rounds_succ]
  go_wp2
  go_quiet ((go_at_call 149; exact Calls.quiet_of_same (at_quiet _ _ _ _ (by omega) (by omega) (by omega) (by omega) (by omega) (by omega))))
  go_wp2
  rw [rounds_succ]
  go_wp2
  go_quiet ((go_at_call 149; exact Calls.quiet_of_same (at_quiet _ _ _ _ (by omega) (by omega) (by omega) (by omega) (by omega) (by omega))))
  go_wp2
  rw [rounds_succ]
  go_wp2
  go_quiet ((go_at_call 149; exact Calls.quiet_of_same (at_quiet _ _ _ _ (by omega) (by omega) (by omega) (by omega) (by omega) (by omega))))
  go_wp2
  go_ret2
  exact ⟨by first | rfl | simp, by repeat (first | exact Below.refl _ _ | refine Below.drew ?_ | refine below_drewN ?_ _ | refine Below.alloc ?_ (by simp; try omega) _)⟩
set_option maxRecDepth 100000 in
set_option maxHeartbeats 1000000 in
theorem ring_Link4 (n a b : Int) (w : World) (hn : 6 ≤ n) (hn2 : n ≤ 7) (ha : 0 ≤ a) (ha2 : a < n) (hb : 0 ≤ b) (hb2 : b < n) (h0 : ¬ (a + 1) % n = b) (h1 : ¬ (b + 1) % n = a) (h2 : ¬ (a + 2) % n = b) (h3 : ¬ (b + 2) % n = a) :
    Calls Tryz.prog 268 #[.int .i64 n, .int .i64 a, .int .i64 b] w fun e w' => e = .returned (.tuple #[.int .i64 0, .bool false]) ∧ Below w.heap.size w w' := by
  have e0 : ((a + 1) % n == b) = false := by simpa using h0
  have e1 : ((b + 1) % n == a) = false := by simpa using h1
  have e2 : ((a + 2) % n == b) = false := by simpa using h2
  have e3 : ((b + 2) % n == a) = false := by simpa using h3
  have d1 : decide (a < 0) = false := by simp; omega
  have d2 : decide (b < 0) = false := by simp; omega
  have d3 : decide (a ≥ n) = false := by simp; omega
  have d4 : decide (b ≥ n) = false := by simp; omega
  have i0 := ix0 a b
  have i1 := ix1 a b
  have i2 := ix2 a b
  have i3 := ix3 a b
  clear h0 h1 h2 h3
  go_enter Tryz.func268, Tryz.ntmps268
  go_wp2
  refine wp_loop_rounds 5 ?_
  rw [rounds_succ]
  go_wp2
  go_quiet ((go_at_call 149; exact Calls.quiet_of_same (at_quiet _ _ _ _ (by omega) (by omega) (by omega) (by omega) (by omega) (by omega))))
  go_wp2
  rw [rounds_succ]
  go_wp2
  go_quiet ((go_at_call 149; exact Calls.quiet_of_same (at_quiet _ _ _ _ (by omega) (by omega) (by omega) (by omega) (by omega) (by omega))))
  go_wp2
  rw [rounds_succ]
  go_wp2
  go_quiet ((go_at_call 149; exact Calls.quiet_of_same (at_quiet _ _ _ _ (by omega) (by omega) (by omega) (by omega) (by omega) (by omega))))
  go_wp2
  rw [rounds_succ]
  go_wp2
  go_quiet ((go_at_call 149; exact Calls.quiet_of_same (at_quiet _ _ _ _ (by omega) (by omega) (by omega) (by omega) (by omega) (by omega))))
  go_wp2
  rw [rounds_succ]
  go_wp2
  go_ret2
  exact ⟨by first | rfl | simp, by repeat (first | exact Below.refl _ _ | refine Below.drew ?_ | refine below_drewN ?_ _ | refine Below.alloc ?_ (by simp; try omega) _)⟩
end Go.Proofs.YtdbempiompiioaaGreat.A3
namespace Go.Proofs.YtdbempiompiioaaGreat.A4
open Go.RowKit A1 A2 A3

def Ints (w : World) (A : Option Addr) (l : List Int) : Prop := ∀ k, k < l.length → ∃ b off, A = some ⟨b, off, none⟩ ∧ b < w.heap.size ∧ w.cell? ⟨b, off + k, none⟩ = some (.int .i64 (l.getD k 0))
theorem Ints.below {w w1 : World} {A : Option Addr} {l : List Int} (h : Ints w A l) (hb : Below w.heap.size w w1) : Ints w1 A l := fun k hk => by
  obtain ⟨b, off, e, h1, h2⟩ := h k hk
  exact ⟨b, off, e, Nat.lt_of_lt_of_le h1 hb.size, (hb.cell (p := ⟨b, off + k, none⟩) h1).trans h2⟩
theorem Ints.drew {w : World} {A : Option Addr} {l : List Int} (h : Ints w A l) : Ints w.drew A l := h
theorem Ints.drewN {w : World} {A : Option Addr} {l : List Int} (h : Ints w A l) (n : Nat) : Ints (w.drewN n) A l := h
theorem Ints.alloc {w : World} {A : Option Addr} {l : List Int} (h : Ints w A l) (o : Obj) : Ints (w.alloc o) A l := h.below ((Below.refl _ _).alloc (Nat.le_refl _) _)
theorem Ints.cases {w : World} {A : Option Addr} {l : List Int} (h : Ints w A l) : l = [] ∨ ∃ b off, A = some ⟨b, off, none⟩ ∧ b < w.heap.size ∧ ∀ k, k < l.length → w.cell? ⟨b, off + k, none⟩ = some (.int .i64 (l.getD k 0)) := by
  cases l with
  | nil => exact .inl rfl
  | cons x r =>
    obtain ⟨b, off, e, h1, _⟩ := h 0 (by simp)
    refine .inr ⟨b, off, e, h1, fun k hk => ?_⟩
    obtain ⟨b', off', e', _, h2⟩ := h k hk
    rw [e] at e'
    cases e'
    exact h2

theorem check_each (a N : Int) (B : Nat) (w : World) (hp : w.cell? ⟨B, 0, none⟩ = some (.int .i64 N)) (ha : -1 ≤ a) (ha2 : a ≤ N - 1) (hN : 6 ≤ N) (hN2 : N ≤ 7) :
    Calls Tryz.prog 48 #[.int .i64 a, .pointer (some ⟨B, 0, none⟩)] w fun e w' => e = .returned (.bool false) ∧ w = w' := by
  have hd : decide (-1 ≤ a ∧ a ≤ N - 1) = true := decide_eq_true ⟨ha, ha2⟩
  have H := Lib.hid (conf_within a (-1) (N - 1) ·)
  rw [hd] at H
  clear hd
  go_enter Tryz.func48, Tryz.ntmps48
  go_wp2_with (go_at_call 46; refine (H.out _).mono ?_; rintro e w' ⟨rfl, rfl⟩)
  go_ret
  exact ⟨rfl, rfl⟩

theorem indexFunc_pairs (A : Option Addr) (l : List Int) (C : Nat) (B : Nat) (N : Int) (w : World) (hl : Ints w A l) (hlen : l.length ≤ 1000) (hp : w.cell? ⟨B, 0, none⟩ = some (.int .i64 N)) (hN : 6 ≤ N) (hN2 : N ≤ 7)
    (hv : ∀ k, k < l.length → -1 ≤ l.getD k 0 ∧ l.getD k 0 ≤ N - 1) :
    Calls Tryz.prog 88 #[.slice A l.length C, .func (Fn.func 48) #[] #[.pointer (some ⟨B, 0, none⟩)]] w fun e w' => e = .returned (.int .i64 (-1)) ∧ w = w' := by
  rcases hl.cases with h0 | ⟨b, off, rfl, hb, hc⟩
  · subst h0
    go_enter Tryz.func88, Tryz.ntmps88
    go_wp2
    refine wp_loop_rounds 1 ?_
    rw [rounds_succ]
    go_wp2
    go_ret
    exact ⟨rfl, rfl⟩
  · have HV := Lib.hid hv
    have HC := Lib.hid hc
    clear hv hc hl
    go_enter Tryz.func88, Tryz.ntmps88
    go_wp2
    go_loop [8] (fun i => ∃ k : Nat, k ≤ l.length ∧ i = .int .i64 k) (fun i => l.length - (intOf i).toNat)
    case atStart => exact ⟨0, Nat.zero_le _, rfl⟩
    case round =>
      obtain ⟨k, hk, rfl⟩ := hrel
      by_cases hlt : k < l.length
      · have hcell := HC.out k hlt
        have h1 := (HV.out k hlt).1
        have h2 := (HV.out k hlt).2
        generalize l.getD k 0 = x at *
        go_wp2_with (go_at_call 48; refine (check_each _ N B _ hp h1 h2 hN hN2).mono ?_; rintro e w' ⟨rfl, rfl⟩)
        go_round
        case rel => exact ⟨k + 1, by omega, by go_num⟩
        case measure => simp [intOf]; omega
      · go_wp2
        go_ret
        exact ⟨rfl, rfl⟩
theorem containsFunc_pairs (A : Option Addr) (l : List Int) (C : Nat) (B : Nat) (N : Int) (w : World) (hl : Ints w A l) (hlen : l.length ≤ 1000) (hp : w.cell? ⟨B, 0, none⟩ = some (.int .i64 N)) (hN : 6 ≤ N) (hN2 : N ≤ 7)
    (hv : ∀ k, k < l.length → -1 ≤ l.getD k 0 ∧ l.getD k 0 ≤ N - 1) :
    Calls Tryz.prog 47 #[.slice A l.length C, .func (Fn.func 48) #[] #[.pointer (some ⟨B, 0, none⟩)]] w fun e w' => e = .returned (.bool false) ∧ w = w' := by
  have H := Lib.hid (indexFunc_pairs A l C B N w hl hlen hp hN hN2 hv)
  clear hl hp hv
  go_enter Tryz.func47, Tryz.ntmps47
  go_wp2_with (go_at_call 88; refine (H.out).mono ?_; rintro e w' ⟨rfl, rfl⟩)
  go_ret
  exact ⟨rfl, rfl⟩

structure CfOk (N Pi Er G Fi : Int) (ps : List Int) : Prop where
  n0 : 6 ≤ N
  n1 : N ≤ 7
  e0 : 0 ≤ Er
  e1 : Er ≤ 20
  g0 : 0 ≤ G
  g1 : G ≤ 20
  f0 : 0 ≤ Fi
  f1 : Fi ≤ 65535
  p0 : 4 * (Er + G + 1) ≤ Pi
  p1 : Pi ≤ 1000
  len : ps.length ≤ 2
  each : ∀ k, k < ps.length → -1 ≤ ps.getD k 0 ∧ ps.getD k 0 ≤ N - 1

theorem ia0 (a b c d : Int) (w : World) : (Instr.index 107 (.agg #[.int .i64 a, .int .i64 b, .int .i64 c, .int .i64 d]) (.int .i64 0)).run Tryz.prog w = .ok (.int .i64 a) w := by kernel_rfl
theorem ia1 (a b c d : Int) (w : World) : (Instr.index 107 (.agg #[.int .i64 a, .int .i64 b, .int .i64 c, .int .i64 d]) (.int .i64 1)).run Tryz.prog w = .ok (.int .i64 b) w := by kernel_rfl
theorem ia2 (a b c d : Int) (w : World) : (Instr.index 107 (.agg #[.int .i64 a, .int .i64 b, .int .i64 c, .int .i64 d]) (.int .i64 2)).run Tryz.prog w = .ok (.int .i64 c) w := by kernel_rfl
theorem ia3 (a b c d : Int) (w : World) : (Instr.index 107 (.agg #[.int .i64 a, .int .i64 b, .int .i64 c, .int .i64 d]) (.int .i64 3)).run Tryz.prog w = .ok (.int .i64 d) w := by kernel_rfl
theorem within_yes (n a b : Int) (w : World) (h : a ≤ n) (h2 : n ≤ b) : Calls Tryz.prog 46 #[.int .i64 n, .int .i64 a, .int .i64 b] w fun e w' => e = .returned (.bool true) ∧ w' = w :=
  (conf_within n a b w).mono fun _ _ g => ⟨by rw [g.1, decide_eq_true ⟨h, h2⟩], g.2.symm⟩
theorem within_yes' (n a b : Int) (w : World) (h : a ≤ n) (h2 : n ≤ b) : Calls Tryz.prog 46 #[.int .i64 n, .int .i64 a, .int .i64 b] w fun e w' => e = .returned (.bool true) ∧ w = w' :=
  (conf_within n a b w).mono fun _ _ g => ⟨by rw [g.1, decide_eq_true ⟨h, h2⟩], g.2⟩
set_option maxRecDepth 100000 in
set_option maxHeartbeats 1000000 in
theorem conf_Check (N Pi Er G Fi : Int) (PA : Option Addr) (ps : List Int) (PC : Nat) (w : World) (hc : CfOk N Pi Er G Fi ps) (hl : Ints w PA ps) :
    Calls Tryz.prog 26 #[.agg #[.int .i64 N, .int .i64 Pi, .int .i64 Er, .int .i64 G, .int .i64 Fi, .slice PA ps.length PC]] w fun e w' => e = .returned (.int .i64 0) ∧ Below w.heap.size w w' := by
  obtain ⟨n0, n1, e0, e1, g0, g1, f0, f1, p0, p1, len, each⟩ := hc
  have i0 := ia0 N Er G Fi
  have i1 := ia1 N Er G Fi
  have i2 := ia2 N Er G Fi
  have i3 := ia3 N Er G Fi
  have d1 : decide ((ps.length : Int) > 3) = false := by simp; omega
  have HE := Lib.hid each
  have HL := Lib.hid hl
  clear each hl
  go_enter Tryz.func26, Tryz.ntmps26
  go_wp2
  refine wp_loop_rounds 5 ?_
  rw [rounds_succ]
  go_wp2
  go_quiet ((go_at_call 46; first | exact quiet_left (within_yes' _ _ _ _ (by omega) (by omega)) | exact quiet_add_left (within_yes' _ _ _ _ (by omega) (by omega))))
  go_wp2
  rw [rounds_succ]
  go_wp2
  go_quiet ((go_at_call 46; first | exact quiet_left (within_yes' _ _ _ _ (by omega) (by omega)) | exact quiet_add_left (within_yes' _ _ _ _ (by omega) (by omega))))
  go_wp2
  rw [rounds_succ]
  go_wp2
  go_quiet ((go_at_call 46; first | exact quiet_left (within_yes' _ _ _ _ (by omega) (by omega)) | exact quiet_add_left (within_yes' _ _ _ _ (by omega) (by omega))))
  go_wp2
  rw [rounds_succ]
  go_wp2
  go_quiet ((go_at_call 46; first | exact quiet_left (within_yes' _ _ _ _ (by omega) (by omega)) | exact quiet_add_left (within_yes' _ _ _ _ (by omega) (by omega))))
  go_wp2
  rw [rounds_succ]
  go_wp2_with (first | (go_at_call 46; refine (within_yes' _ _ _ _ (by omega) (by omega)).mono ?_; rintro e w' ⟨rfl, rfl⟩) | fail)
  refine (containsFunc_pairs PA ps PC w.heap.size N _ (by repeat (first | exact HL.out | refine Ints.drewN ?_ _ | refine Ints.drew ?_ | refine Ints.alloc ?_ _)) (by omega) (by go_simp) n0 n1 HE.out).mono ?_
  rintro e w' ⟨rfl, rfl⟩
  go_wp2
  go_ret
  exact ⟨rfl, by repeat (first | exact Below.refl _ _ | refine Below.drew ?_ | refine below_drewN ?_ _ | refine Below.alloc ?_ (by simp; try omega) _)⟩
end Go.Proofs.YtdbempiompiioaaGreat.A4
namespace Go.Proofs.YtdbempiompiioaaGreat.A5
open Go.RowKit A1 A2 A3 A4

theorem bcell {W w1 : World} (hb : Below W.heap.size W w1) : (∀ b o, b < W.heap.size → w1.cell? ⟨b, o, none⟩ = W.cell? ⟨b, o, none⟩) ∧ (∀ b o, b < W.heap.size → w1.frozen? ⟨b, o, none⟩ = W.frozen? ⟨b, o, none⟩) :=
  ⟨fun b o h => hb.cell (p := ⟨b, o, none⟩) h, fun b o h => hb.frozen (p := ⟨b, o, none⟩) h⟩
theorem of_link (N Pi Er G Fi : Int) (PA : Option Addr) (PL PC : Nat) (At From To : Int) (CA : Option Addr) (CL CC : Nat) (VA : Option Addr) (VL VC : Nat) (w : World) :
    Calls Tryz.prog 144 #[.agg #[.int .i64 N, .int .i64 Pi, .int .i64 Er, .int .i64 G, .int .i64 Fi, .slice PA PL PC], .agg #[.int .i64 2, .int .i64 At, .int .i64 From, .int .i64 To, .slice CA CL CC, .slice VA VL VC]] w fun e w' => e = .returned (.iface 265 (.agg #[.int .i64 N, .int .i64 At])) ∧ Below w.heap.size w w' := by
  go_enter Tryz.func144, Tryz.ntmps144
  go_wp2
  go_ret
  exact ⟨rfl, by repeat (first | exact Below.refl _ _ | refine Below.alloc ?_ (by simp; try omega) _)⟩
theorem of_none (N Pi Er G Fi : Int) (PA : Option Addr) (PL PC : Nat) (At From To : Int) (CA : Option Addr) (CL CC : Nat) (VA : Option Addr) (VL VC : Nat) (w : World) :
    Calls Tryz.prog 144 #[.agg #[.int .i64 N, .int .i64 Pi, .int .i64 Er, .int .i64 G, .int .i64 Fi, .slice PA PL PC], .agg #[.int .i64 0, .int .i64 At, .int .i64 From, .int .i64 To, .slice CA CL CC, .slice VA VL VC]] w fun e w' => e = .returned (.iface 267 (.agg #[])) ∧ Below w.heap.size w w' := by
  go_enter Tryz.func144, Tryz.ntmps144
  go_wp2
  go_ret
  exact ⟨rfl, by repeat (first | exact Below.refl _ _ | refine Below.alloc ?_ (by simp; try omega) _)⟩
def byLink (n l a b : Int) : Bool := linkOf n a b == some l
theorem byLink_def (n l a b : Int) : byLink n l a b = (linkOf n a b == some l) := rfl
set_option maxRecDepth 100000 in
theorem link_hits0 (n l a b : Int) (w : World) (hn : 6 ≤ n) (hn2 : n ≤ 7) (ha : 0 ≤ a) (ha2 : a < n) (hb : 0 ≤ b) (hb2 : b < n) (h0 : (a + 1) % n = b) :
    Calls Tryz.prog 266 #[.agg #[.int .i64 n, .int .i64 l], .int .i64 a, .int .i64 b] w fun e w' => e = .returned (.bool (byLink n l a b)) ∧ Below w.heap.size w w' := by
  have hf : byLink n l a b = (a == l) := by simp [byLink_def, linkOf, h0]
  rw [hf]
  have H := Lib.hid (ring_Link0 n a b · hn hn2 ha ha2 hb hb2 h0)
  clear h0 hf
  go_enter Tryz.func266, Tryz.ntmps266
  go_wp2_with (go_at_call 268; refine (H.out _).mono ?_; rintro e w' ⟨rfl, hb'⟩; obtain ⟨hc', hf'⟩ := bcell hb')
  go_ret
  exact ⟨rfl, ((Below.refl _ _).alloc (Nat.le_refl _) _).trans (hb'.mono (by simp))⟩
set_option maxRecDepth 100000 in
theorem link_hits1 (n l a b : Int) (w : World) (hn : 6 ≤ n) (hn2 : n ≤ 7) (ha : 0 ≤ a) (ha2 : a < n) (hb : 0 ≤ b) (hb2 : b < n) (h0 : ¬ (a + 1) % n = b) (h1 : (b + 1) % n = a) :
    Calls Tryz.prog 266 #[.agg #[.int .i64 n, .int .i64 l], .int .i64 a, .int .i64 b] w fun e w' => e = .returned (.bool (byLink n l a b)) ∧ Below w.heap.size w w' := by
  have hf : byLink n l a b = (b == l) := by simp [byLink_def, linkOf, h0, h1]
  rw [hf]
  have H := Lib.hid (ring_Link1 n a b · hn hn2 ha ha2 hb hb2 h0 h1)
  clear h0 h1 hf
  go_enter Tryz.func266, Tryz.ntmps266
  go_wp2_with (go_at_call 268; refine (H.out _).mono ?_; rintro e w' ⟨rfl, hb'⟩; obtain ⟨hc', hf'⟩ := bcell hb')
  go_ret
  exact ⟨rfl, ((Below.refl _ _).alloc (Nat.le_refl _) _).trans (hb'.mono (by simp))⟩
set_option maxRecDepth 100000 in
theorem link_hits2 (n l a b : Int) (w : World) (hn : 6 ≤ n) (hn2 : n ≤ 7) (ha : 0 ≤ a) (ha2 : a < n) (hb : 0 ≤ b) (hb2 : b < n) (h0 : ¬ (a + 1) % n = b) (h1 : ¬ (b + 1) % n = a) (h2 : (a + 2) % n = b) :
    Calls Tryz.prog 266 #[.agg #[.int .i64 n, .int .i64 l], .int .i64 a, .int .i64 b] w fun e w' => e = .returned (.bool (byLink n l a b)) ∧ Below w.heap.size w w' := by
  have hf : byLink n l a b = ((a + n) == l) := by simp [byLink_def, linkOf, h0, h1, h2]
  rw [hf]
  have H := Lib.hid (ring_Link2 n a b · hn hn2 ha ha2 hb hb2 h0 h1 h2)
  clear h0 h1 h2 hf
  go_enter Tryz.func266, Tryz.ntmps266
  go_wp2_with (go_at_call 268; refine (H.out _).mono ?_; rintro e w' ⟨rfl, hb'⟩; obtain ⟨hc', hf'⟩ := bcell hb')
  go_ret
  exact ⟨rfl, ((Below.refl _ _).alloc (Nat.le_refl _) _).trans (hb'.mono (by simp))⟩
set_option maxRecDepth 100000 in
theorem link_hits3 (n l a b : Int) (w : World) (hn : 6 ≤ n) (hn2 : n ≤ 7) (ha : 0 ≤ a) (ha2 : a < n) (hb : 0 ≤ b) (hb2 : b < n) (h0 : ¬ (a + 1) % n = b) (h1 : ¬ (b + 1) % n = a) (h2 : ¬ (a + 2) % n = b) (h3 : (b + 2) % n = a) :
    Calls Tryz.prog 266 #[.agg #[.int .i64 n, .int .i64 l], .int .i64 a, .int .i64 b] w fun e w' => e = .returned (.bool (byLink n l a b)) ∧ Below w.heap.size w w' := by
  have hf : byLink n l a b = ((b + n) == l) := by simp [byLink_def, linkOf, h0, h1, h2, h3]
  rw [hf]
  have H := Lib.hid (ring_Link3 n a b · hn hn2 ha ha2 hb hb2 h0 h1 h2 h3)
  clear h0 h1 h2 h3 hf
  go_enter Tryz.func266, Tryz.ntmps266
  go_wp2_with (go_at_call 268; refine (H.out _).mono ?_; rintro e w' ⟨rfl, hb'⟩; obtain ⟨hc', hf'⟩ := bcell hb')
  go_ret
  exact ⟨rfl, ((Below.refl _ _).alloc (Nat.le_refl _) _).trans (hb'.mono (by simp))⟩
set_option maxRecDepth 100000 in
theorem link_hits4 (n l a b : Int) (w : World) (hn : 6 ≤ n) (hn2 : n ≤ 7) (ha : 0 ≤ a) (ha2 : a < n) (hb : 0 ≤ b) (hb2 : b < n) (h0 : ¬ (a + 1) % n = b) (h1 : ¬ (b + 1) % n = a) (h2 : ¬ (a + 2) % n = b) (h3 : ¬ (b + 2) % n = a) :
    Calls Tryz.prog 266 #[.agg #[.int .i64 n, .int .i64 l], .int .i64 a, .int .i64 b] w fun e w' => e = .returned (.bool (byLink n l a b)) ∧ Below w.heap.size w w' := by
  have hf : byLink n l a b = false := by simp [byLink_def, linkOf, h0, h1, h2, h3]
  rw [hf]
  have H := Lib.hid (ring_Link4 n a b · hn hn2 ha ha2 hb hb2 h0 h1 h2 h3)
  clear h0 h1 h2 h3 hf
  go_enter Tryz.func266, Tryz.ntmps266
  go_wp2_with (go_at_call 268; refine (H.out _).mono ?_; rintro e w' ⟨rfl, hb'⟩; obtain ⟨hc', hf'⟩ := bcell hb')
  go_ret
  exact ⟨rfl, ((Below.refl _ _).alloc (Nat.le_refl _) _).trans (hb'.mono (by simp))⟩
theorem link_hits (n l a b : Int) (w : World) (hn : 6 ≤ n) (hn2 : n ≤ 7) (ha : 0 ≤ a) (ha2 : a < n) (hb : 0 ≤ b) (hb2 : b < n) :
    Calls Tryz.prog 266 #[.agg #[.int .i64 n, .int .i64 l], .int .i64 a, .int .i64 b] w fun e w' => e = .returned (.bool (byLink n l a b)) ∧ Below w.heap.size w w' := by
  by_cases h0 : (a + 1) % n = b
  · exact link_hits0 n l a b w hn hn2 ha ha2 hb hb2 h0
  · by_cases h1 : (b + 1) % n = a
    · exact link_hits1 n l a b w hn hn2 ha ha2 hb hb2 h0 h1
    · by_cases h2 : (a + 2) % n = b
      · exact link_hits2 n l a b w hn hn2 ha ha2 hb hb2 h0 h1 h2
      · by_cases h3 : (b + 2) % n = a
        · exact link_hits3 n l a b w hn hn2 ha ha2 hb hb2 h0 h1 h2 h3
        · exact link_hits4 n l a b w hn hn2 ha ha2 hb hb2 h0 h1 h2 h3
theorem none_hits (a b : Int) (w : World) :
    Calls Tryz.prog 269 #[.agg #[], .int .i64 a, .int .i64 b] w fun e w' => e = .returned (.bool false) ∧ Below w.heap.size w w' := by
  go_enter Tryz.func269, Tryz.ntmps269
  go_wp2
  go_ret
  exact ⟨rfl, by repeat (first | exact Below.refl _ _ | refine Below.alloc ?_ (by simp; try omega) _)⟩

theorem nil_link (a l : Int) (w : World) : (nilAhead 454 265 (.agg #[.int .i64 a, .int .i64 l]) "plaiting/fault.hits").run Tryz.prog w = .ok (some false) w := by kernel_rfl
theorem m_link (a l : Int) (w : World) : (method 454 265 (.agg #[.int .i64 a, .int .i64 l]) "plaiting/fault.hits").run Tryz.prog w = .ok (266, .agg #[.int .i64 a, .int .i64 l]) w := by kernel_rfl
set_option maxRecDepth 100000 in
theorem Hits_link (N Pi Er G Fi : Int) (PA : Option Addr) (PL PC : Nat) (At From To : Int) (CA : Option Addr) (CL CC : Nat) (VA : Option Addr) (VL VC : Nat) (a b : Int) (w : World) (hn : 6 ≤ N) (hn2 : N ≤ 7) (ha : 0 ≤ a) (ha2 : a < N) (hb : 0 ≤ b) (hb2 : b < N) :
    Calls Tryz.prog 190 #[.agg #[.int .i64 N, .int .i64 Pi, .int .i64 Er, .int .i64 G, .int .i64 Fi, .slice PA PL PC], .agg #[.int .i64 2, .int .i64 At, .int .i64 From, .int .i64 To, .slice CA CL CC, .slice VA VL VC], .int .i64 a, .int .i64 b] w fun e w' => e = .returned (.bool (byLink N At a b)) ∧ Below w.heap.size w w' := by
  have hn1 := nil_link N At
  have hm1 := m_link N At
  go_enter Tryz.func190, Tryz.ntmps190
  go_wp2_with (first | (go_at_call 144; refine (of_link _ _ _ _ _ _ _ _ _ _ _ _ _ _ _ _ _ _).mono ?_; rintro e w' ⟨rfl, hb'⟩; obtain ⟨hc', hf'⟩ := bcell hb') | (go_at_call 266; refine (link_hits _ _ _ _ _ hn hn2 ha ha2 hb hb2).mono ?_; rintro e w2 ⟨rfl, hb2'⟩; obtain ⟨hc2', hf2'⟩ := bcell hb2'))
  go_ret
  exact ⟨rfl, ((((Below.refl _ _).alloc (Nat.le_refl _) _).alloc (by simp) _).trans (hb'.mono (by simp; omega))).trans (hb2'.mono (by have := hb'.size; simp at this; omega))⟩
theorem nil_none (w : World) : (nilAhead 454 267 (.agg #[]) "plaiting/fault.hits").run Tryz.prog w = .ok (some false) w := by kernel_rfl
theorem m_none (w : World) : (method 454 267 (.agg #[]) "plaiting/fault.hits").run Tryz.prog w = .ok (269, .agg #[]) w := by kernel_rfl
set_option maxRecDepth 100000 in
theorem Hits_none (N Pi Er G Fi : Int) (PA : Option Addr) (PL PC : Nat) (At From To : Int) (CA : Option Addr) (CL CC : Nat) (VA : Option Addr) (VL VC : Nat) (a b : Int) (w : World) :
    Calls Tryz.prog 190 #[.agg #[.int .i64 N, .int .i64 Pi, .int .i64 Er, .int .i64 G, .int .i64 Fi, .slice PA PL PC], .agg #[.int .i64 0, .int .i64 At, .int .i64 From, .int .i64 To, .slice CA CL CC, .slice VA VL VC], .int .i64 a, .int .i64 b] w fun e w' => e = .returned (.bool false) ∧ Below w.heap.size w w' := by
  have hn1 := nil_none
  have hm1 := m_none
  go_enter Tryz.func190, Tryz.ntmps190
  go_wp2_with (first | (go_at_call 144; refine (of_none _ _ _ _ _ _ _ _ _ _ _ _ _ _ _ _ _ _).mono ?_; rintro e w' ⟨rfl, hb'⟩; obtain ⟨hc', hf'⟩ := bcell hb') | (go_at_call 269; refine (none_hits _ _ _).mono ?_; rintro e w2 ⟨rfl, hb2'⟩; obtain ⟨hc2', hf2'⟩ := bcell hb2'))
  go_ret
  exact ⟨rfl, ((((Below.refl _ _).alloc (Nat.le_refl _) _).alloc (by simp) _).trans (hb'.mono (by simp; omega))).trans (hb2'.mono (by have := hb'.size; simp at this; omega))⟩

def passes (n kind l a b : Int) : Bool := kind == 0 || !byLink n l a b
theorem Emit_link (N Pi Er G Fi : Int) (PA : Option Addr) (ps : List Int) (PC : Nat) (At : Int) (CA : Option Addr) (CL CC : Nat) (VA : Option Addr) (VL VC : Nat) (round slot a b : Int) (s : ByteArray) (w : World) (hc : CfOk N Pi Er G Fi ps) (hl : Ints w PA ps) (ha : 0 ≤ a) (ha2 : a < N) (hb : 0 ≤ b) (hb2 : b < N) (hr : round < 1000) :
    Calls Tryz.prog 173 #[.agg #[.int .i64 N, .int .i64 Pi, .int .i64 Er, .int .i64 G, .int .i64 Fi, .slice PA ps.length PC], .agg #[.int .i64 2, .int .i64 At, .int .i64 1000, .int .i64 1000, .slice CA CL CC, .slice VA VL VC], .int .i64 round, .int .i64 slot, .int .i64 a, .int .i64 b, .string s] w
      fun e w' => e = .returned (.string (if byLink N At a b then ⟨#[]⟩ else s)) ∧ Below w.heap.size w w' := by
  have HL := Lib.hid hl
  have n0 := hc.n0
  have n1 := hc.n1
  have hd : decide (round ≥ 1000) = false := by simp; omega
  clear hl
  cases hy : byLink N At a b
  all_goals
    have HY := Lib.hid hy
    clear hy
    go_enter Tryz.func173, Tryz.ntmps173
    go_wp2_with fail
    refine (conf_Check N Pi Er G Fi PA ps PC _ hc (by repeat (first | exact HL.out | refine Ints.drewN ?_ _ | refine Ints.drew ?_ | refine Ints.alloc ?_ _))).mono ?_
    rintro e w1 ⟨rfl, hb1⟩
    obtain ⟨hc1, hf1⟩ := bcell hb1
    go_wp2_with fail
    refine (Hits_link _ _ _ _ _ _ _ _ _ _ _ _ _ _ _ _ _ _ _ _ n0 n1 ha ha2 hb hb2).mono ?_
    rw [HY.out]
    rintro e w2 ⟨rfl, hb2'⟩
    obtain ⟨hc2, hf2⟩ := bcell hb2'
    have hz : w.heap.size + 1 < w1.heap.size := by have := hb1.size; simp at this; omega
    go_wp2
    go_ret
    exact ⟨rfl, ((((Below.refl _ _).alloc (Nat.le_refl _) _).alloc (by simp) _).trans (hb1.mono (by simp; omega))).trans (hb2'.mono (by omega))⟩
end Go.Proofs.YtdbempiompiioaaGreat.A5
