/- One relay from a stream's beginning to its end: lane.Out. A slot going round, one: what comes from a node that stands some steps back. A slot going round, two: what a relay makes of two streams, as a function; a world of which but some blocks are as they were. Plain laws. A region whose last operations may write what it has read: what is held need not be shown behind them. A plain law of walks. Sh Conditions: the bounds stated in each theorem. -/
import Derived.Test.YtdbempiompiioaaGreatT03
import Derived.Deep.RegionHeld3
set_option linter.unusedVariables false
set_option linter.unusedSimpArgs false
namespace Go.Proofs.YtdbempiompiioaaGreat.A12
open Go.RowKit A1 A2 A3 A4 A5 A6 A7 A8 A9 A10 A11

theorem Bd_new (w : World) : Bd w.heap.size [] (w.alloc (.cells #[.pointer none, .slice none 0 0] 163)) :=
  .inl ⟨Nat.le_refl _, .slice none 0 0, heap_alloc_new w _, World.ownsRowF_of (World.ownsRow_nil _ _ _ _), by simp [Value.ownBlock]⟩
def atB (s : ByteArray) (k : Nat) : Int := if h : k < s.size then (s[k]'h).toNat else 46
theorem lane_at (s : ByteArray) (k : Nat) (w : World) (hs : s.size ≤ 4000) (hk : k ≤ 5000) :
    Calls Tryz.prog 177 #[.string s, .int .i64 k] w fun e w' => e = .returned (.int .u8 (atB s k)) ∧ w = w' := by
  unfold atB
  by_cases h : k < s.size
  · rw [dif_pos h]; exact lane_at_in s k w hs h
  · rw [dif_neg h]; exact lane_at_out s k w hs hk (by omega)
theorem passes_differ (B : Nat) (d s : Int) (w : World) (h0 : w.cell? ⟨B, 0, none⟩ = some (.bool true)) (h1 : w.cell? ⟨B, 1, none⟩ = some (.bool false)) (hd : d = 48 ∨ d = 49 ∨ d = 35) (hs : (s == d) = false) :
    Calls Tryz.prog 193 #[.pointer (some ⟨B, 0, none⟩), .int .u8 d, .int .u8 s] w fun e w' => e = .returned (.bool false) ∧ w = w' := by
  rcases hd with rfl | rfl | rfl <;>
  · go_enter Tryz.func193, Tryz.ntmps193
    go_wp2_with (go_at_call 210; refine (lane_symbol_yes _ _ (by decide)).mono ?_; rintro e w' ⟨rfl, rfl⟩)
    go_ret
    exact ⟨rfl, rfl⟩
theorem Bd_far {b : Nat} {bs : List Value} {w : World} (h : Bd b bs w) {p : Addr} (hp : p.block < b) (u : Value) : Bd b bs (w.setCell p u) := by
  have key : ∀ q, Lib.BuilderAtF 163 5 b b q bs w → Lib.BuilderAtF 163 5 b b q bs (w.setCell p u) := fun q hh => by
    obtain ⟨hB, v, hb, hown, hne⟩ := hh
    refine ⟨hB, v, (Below.heap_setCell w p u b (by omega)).trans hb, ?_, hne⟩
    refine hown.kept (row := some p.block) ⟨rfl, rfl, rfl, by simp [World.setCell], fun k _ hk => Below.heap_setCell _ _ _ _ (fun e => hk (by simp [e]))⟩ (Or.inr ?_)
    intro e
    have := hown.lt _ e
    omega
  exact h.elim (fun x => .inl (key _ x)) (fun x => .inr (key _ x))
def passed (cmp : Bool) (d s : ByteArray) (k : Nat) : Prop := k ≤ d.size ∧ (cmp = true → ∀ j, j < k → atB s j = atB d j) ∧ (k < d.size → cmp = true ∧ atB s k ≠ atB d k)
def OutPost (cmp : Bool) (d s : ByteArray) (w : World) (e : Ending) (w' : World) : Prop := ∃ k, passed cmp d s k ∧ e = .returned (.string ⟨(d.data.toList.take k).toArray⟩) ∧ Below w.heap.size w w'
theorem byte_snoc (d : ByteArray) (k : Nat) (h : k < d.size) : Lib.byteCells (d.data.toList.take (k + 1)) = Lib.byteCells (d.data.toList.take k) ++ [.int .u8 (atB d k)] := by
  rw [List.take_succ_eq_append_getElem (by simpa using h), Lib.byteCells_append]
  simp [Lib.byteCells, atB, h]
  rfl
set_option maxRecDepth 100000 in
set_option maxHeartbeats 2000000 in
theorem lane_Out (cmp : Bool) (d s : ByteArray) (w : World) (hd : Strm d) (hs : s.size ≤ 4000) :
    Calls Tryz.prog 152 #[.bool cmp, .string d, .string s] w (OutPost cmp d s w) := by
  obtain ⟨hd4, hdb⟩ := hd
  have HD := Lib.hid hdb
  clear hdb
  go_enter Tryz.func152, Tryz.ntmps152
  go_wp2_with (go_at_call 175; refine (lane_New _ _).mono ?_; rintro e w' ⟨rfl, rfl⟩)
  have hB0 := Lib.hid (Bd_new (w.alloc (.cells #[.bool cmp, .bool false] 291)))
  go_loopw [10] (fun i wr => ∃ (k : Nat) (sh : Bool), k ≤ d.size ∧ i = .int .i64 k ∧ Hid ((k < d.size → sh = false) ∧ (cmp = true → ∀ j, j < k → atB s j = atB d j)) ∧ wr.heap[w.heap.size]? = some (.cells #[.bool cmp, .bool sh] 291 (0, 0)) ∧ Bd (w.heap.size + 1) (Lib.byteCells (d.data.toList.take k)) wr ∧ Below w.heap.size w wr) (fun i _ => d.size + 1 - (intOf i).toNat)
  case atStart => exact ⟨0, false, by omega, rfl, ⟨fun _ => rfl, fun _ j hj => absurd hj (by omega)⟩, (Below.heap_alloc _ _ _ (by simp)).trans (heap_alloc_new w _), by simpa [Lib.byteCells] using hB0.out, by repeat (first | exact Below.refl _ _ | refine Below.alloc ?_ (by simp; try omega) _)⟩
  case round =>
    obtain ⟨k, sh, hk, rfl, HS, hbk, hBd, hbr⟩ := hrel
    clear hB0
    have c0 : wr.cell? ⟨w.heap.size, 0, none⟩ = some (.bool cmp) := by simp [World.cell?, hbk]
    have c1 : wr.cell? ⟨w.heap.size, 1, none⟩ = some (.bool sh) := by simp [World.cell?, hbk]
    have f1 : wr.frozen? ⟨w.heap.size, 1, none⟩ = false := by simp [World.frozen?, hbk]
    have hlt := heap_lt hbk
    have HBK := Lib.hid hbk
    clear hbk
    have ha := fun w => lane_at d k w hd4 (by omega)
    have hs' := fun w => lane_at s k w hs (by omega)
    have HA := Lib.hid ha
    have HSs := Lib.hid hs'
    clear ha hs'
    by_cases hkd : k < d.size
    · obtain rfl : sh = false := HS.out.1 hkd
      have hdb : atB d k = 48 ∨ atB d k = 49 ∨ atB d k = 35 := by
        have := HD.out k hkd
        unfold atB; rw [dif_pos hkd]
        rcases this with h | h | h
        · left; omega
        · right; left; omega
        · right; right; omega
      have hsn := byte_snoc d k hkd
      have HSN := Lib.hid hsn
      clear hsn
      have h35 : k + 1 < d.size → (atB d k == 35) = false := by
        intro h
        have := HD.out k hkd
        unfold atB; rw [dif_pos hkd]
        rcases this with h | h | h
        · simp; omega
        · simp; omega
        · omega
      have H35 := Lib.hid h35
      clear h35
      by_cases hp : cmp = false ∨ atB s k = atB d k
      · have HP := Lib.hid hp
        have hid46 : (atB d k == 46) = false := by rcases hdb with h | h | h <;> rw [h] <;> rfl
        generalize hgd : atB d k = dk at *
        generalize hgs : atB s k = sk at *
        have HGD := Lib.hid hgd
        have HGS := Lib.hid hgs
        clear hgd hgs hp
        go_wp2_with fail
        refine (HA.out _).mono ?_
        rintro e w' ⟨rfl, rfl⟩
        go_wp2_with fail
        refine (HSs.out _).mono ?_
        rintro e w' ⟨rfl, rfl⟩
        go_wp2_with fail
        refine (Step_yes w.heap.size cmp dk sk wr c0 c1 f1 hdb HP.out).mono ?_
        rintro e w' ⟨rfl, rfl⟩
        have hBd2 : Bd (w.heap.size + 1) (Lib.byteCells (d.data.toList.take k)) (wr.setCell ⟨w.heap.size, 1, none⟩ (.bool (dk == 35))) := Bd_far hBd (by simp) _
        have HB2 := Lib.hid hBd2
        have hsl : (Lib.byteCells (d.data.toList.take k)).length ≤ 100000 := by rw [Lib.byteCells_length]; simp; omega
        have HSL := Lib.hid hsl
        have hbk2 : (wr.setCell ⟨w.heap.size, 1, none⟩ (.bool (dk == 35))).heap[w.heap.size]? = some (.cells #[.bool cmp, .bool (dk == 35)] 291 (0, 0)) := by
          simp [World.setCell, Array.getElem?_modify, HBK.out]
        have HBK2 := Lib.hid hbk2
        have hbr2 := hbr.setCell (p := ⟨w.heap.size, 1, none⟩) (Nat.le_refl _) (.bool (dk == 35))
        clear hBd hBd2 hbk2 hsl hbr
        go_wp2_with fail
        refine (WriteByte (w.heap.size + 1) (Lib.byteCells (d.data.toList.take k)) dk _ HB2.out HSL.out).mono ?_
        rintro e w2 ⟨rfl, hBd3, hb3⟩
        have hbk3 : w2.heap[w.heap.size]? = some (.cells #[.bool cmp, .bool (dk == 35)] 291 (0, 0)) := (hb3.block _ (by omega)).trans HBK2.out
        have HBK3 := Lib.hid hbk3
        clear hbk3
        go_wp2
        go_roundw
        case rel => exact ⟨k + 1, dk == 35, by omega, by go_num, ⟨fun h => H35.out h, fun hc j hj => by
          by_cases hjk : j = k
          · subst hjk; rw [HGS.out, HGD.out]; rcases HP.out with h | h
            · rw [h] at hc; cases hc
            · exact h
          · exact HS.out.2 hc j (by omega)⟩, HBK3.out, by rw [HSN.out]; exact hBd3, hbr2.trans (hb3.mono (by omega))⟩
        case measure => simp [intOf]; omega
      · have hp1 : cmp = true := by cases cmp; exact absurd (Or.inl rfl) hp; rfl
        subst hp1
        have hp2 : atB s k ≠ atB d k := fun h => hp (Or.inr h)
        have hp3 : (atB s k == atB d k) = false := beq_eq_false_iff_ne.mpr hp2
        have HP2 := Lib.hid hp2
        have HSt := Lib.hid (Step_no w.heap.size (atB d k) (atB s k) false wr c1 f1 (passes_differ w.heap.size (atB d k) (atB s k) wr c0 c1 hdb hp3))
        clear hp hp2 hp3
        go_wp2_with fail
        refine (HA.out _).mono ?_
        rintro e w' ⟨rfl, rfl⟩
        go_wp2_with fail
        refine (HSs.out _).mono ?_
        rintro e w' ⟨rfl, rfl⟩
        go_wp2_with fail
        refine HSt.out.mono ?_
        rintro e w' ⟨rfl, rfl⟩
        have hBd2 : Bd (w.heap.size + 1) (Lib.byteCells (d.data.toList.take k)) (wr.setCell ⟨w.heap.size, 1, none⟩ (.bool true)) := Bd_far hBd (by simp) _
        have HB2 := Lib.hid hBd2
        have hbr2 := hbr.setCell (p := ⟨w.heap.size, 1, none⟩) (Nat.le_refl _) (.bool true)
        clear hBd hBd2 hbr
        go_wp2_with fail
        refine (String (w.heap.size + 1) (d.data.toList.take k) _ HB2.out (by simp; omega)).mono ?_
        rintro e w2 ⟨rfl, hb3⟩
        go_wp2
        go_ret
        exact ⟨k, ⟨hk, fun hc => HS.out.2 (by first | exact hc | trivial), fun _ => ⟨rfl, HP2.out⟩⟩, rfl, hbr2.trans (hb3.mono (by omega))⟩
    · have hd46 : atB d k = 46 := by unfold atB; rw [dif_neg hkd]
      have HD46 := Lib.hid hd46
      clear hd46
      have HSt := Lib.hid (Step_no w.heap.size 46 (atB s k) sh wr c1 f1 (passes_idle w.heap.size cmp sh (atB s k) wr c0 c1))
      go_wp2_with fail
      refine (HA.out _).mono ?_
      rintro e w' ⟨rfl, rfl⟩
      go_wp2_with fail
      refine (HSs.out _).mono ?_
      rintro e w' ⟨rfl, rfl⟩
      go_wp2_with fail
      rw [HD46.out]
      refine HSt.out.mono ?_
      rintro e w' ⟨rfl, rfl⟩
      have hBd2 : Bd (w.heap.size + 1) (Lib.byteCells (d.data.toList.take k)) (wr.setCell ⟨w.heap.size, 1, none⟩ (.bool true)) := Bd_far hBd (by simp) _
      have HB2 := Lib.hid hBd2
      have hbr2 := hbr.setCell (p := ⟨w.heap.size, 1, none⟩) (Nat.le_refl _) (.bool true)
      clear hBd hBd2 hbr
      go_wp2_with fail
      refine (String (w.heap.size + 1) (d.data.toList.take k) _ HB2.out (by simp; omega)).mono ?_
      rintro e w2 ⟨rfl, hb3⟩
      go_wp2
      go_ret
      exact ⟨k, ⟨hk, fun hc => HS.out.2 hc, fun h => absurd h hkd⟩, rfl, hbr2.trans (hb3.mono (by omega))⟩
end Go.Proofs.YtdbempiompiioaaGreat.A12
namespace Go.Proofs.YtdbempiompiioaaGreat.A13
open Go.RowKit A1 A2 A3 A4 A5 A6 A7 A8 A9 A10 A11 A12

def Stays (FW : World → Prop) : Prop := (∀ w w', FW w → Below w.heap.size w w' → FW w')
structure EmitIs (FW : World → Prop) (N Pi Er G Fi : Int) (PA : Option Addr) (PL PC : Nat) (Kind At From To : Int) (CA : Option Addr) (CL CC : Nat) (VA : Option Addr) (VL VC : Nat) (round slot : Int) (E : Int → Int → ByteArray → ByteArray) : Prop where
  stays : Stays FW
  strm : ∀ a b s, 0 ≤ a → a < N → 0 ≤ b → b < N → Strm s → Strm (E a b s)
  calls : ∀ a b s w, 0 ≤ a → a < N → 0 ≤ b → b < N → Strm s → FW w →
    Calls Tryz.prog 173 #[.agg #[.int .i64 N, .int .i64 Pi, .int .i64 Er, .int .i64 G, .int .i64 Fi, .slice PA PL PC], .agg #[.int .i64 Kind, .int .i64 At, .int .i64 From, .int .i64 To, .slice CA CL CC, .slice VA VL VC], .int .i64 round, .int .i64 slot, .int .i64 a, .int .i64 b, .string s] w fun e w' => e = .returned (.string (E a b s)) ∧ Below w.heap.size w w'
structure Sd where
  d : ByteArray
  s : ByteArray
  o : ByteArray
  far : Int
structure WaveAt (w : World) (W : Nat) (N Pi Er G Fi : Int) (PA : Option Addr) (PL PC : Nat) (Kind At From To : Int) (CA : Option Addr) (CL CC : Nat) (VA : Option Addr) (VL VC : Nat) (round slot dir : Int) (TA : Option Addr) (TL TC : Nat) (UA : Option Addr) (UL UC : Nat) (SB DB n : Nat) : Prop where
  c0 : w.cell? ⟨W, 0, none⟩ = some (.int .i64 N)
  c1 : w.cell? ⟨W, 1, none⟩ = some (.int .i64 Pi)
  c2 : w.cell? ⟨W, 2, none⟩ = some (.int .i64 Er)
  c3 : w.cell? ⟨W, 3, none⟩ = some (.int .i64 G)
  c4 : w.cell? ⟨W, 4, none⟩ = some (.int .i64 Fi)
  c5 : w.cell? ⟨W, 5, none⟩ = some (.slice PA PL PC)
  c6 : w.cell? ⟨W, 6, none⟩ = some (.int .i64 Kind)
  c7 : w.cell? ⟨W, 7, none⟩ = some (.int .i64 At)
  c8 : w.cell? ⟨W, 8, none⟩ = some (.int .i64 From)
  c9 : w.cell? ⟨W, 9, none⟩ = some (.int .i64 To)
  c10 : w.cell? ⟨W, 10, none⟩ = some (.slice CA CL CC)
  c11 : w.cell? ⟨W, 11, none⟩ = some (.slice VA VL VC)
  c12 : w.cell? ⟨W, 12, none⟩ = some (.int .i64 round)
  c13 : w.cell? ⟨W, 13, none⟩ = some (.int .i64 slot)
  c14 : w.cell? ⟨W, 14, none⟩ = some (.int .i64 dir)
  c15 : w.cell? ⟨W, 15, none⟩ = some (.slice TA TL TC)
  c16 : w.cell? ⟨W, 16, none⟩ = some (.slice UA UL UC)
  c17 : w.cell? ⟨W, 17, none⟩ = some (.slice (some ⟨SB, 0, none⟩) n n)
  c18 : w.cell? ⟨W, 18, none⟩ = some (.slice (some ⟨DB, 0, none⟩) n n)
  lt : W < w.heap.size
  sl : SB < w.heap.size
  dl : DB < w.heap.size
structure SidesAt (w : World) (SB DB n : Nat) (f : Nat → Sd) (g : Nat → Bool) : Prop where
  d : ∀ i, i < n → w.cell? ⟨SB, i * 4, none⟩ = some (.string (f i).d)
  s : ∀ i, i < n → w.cell? ⟨SB, i * 4 + 1, none⟩ = some (.string (f i).s)
  o : ∀ i, i < n → w.cell? ⟨SB, i * 4 + 2, none⟩ = some (.string (f i).o)
  far : ∀ i, i < n → w.cell? ⟨SB, i * 4 + 3, none⟩ = some (.int .i64 (f i).far)
  g : ∀ i, i < n → w.cell? ⟨DB, i, none⟩ = some (.bool (g i))
def comeF (E : Int → Int → ByteArray → ByteArray) (N dir : Int) (f : Nat → Sd) (g : Nat → Bool) (node back : Int) : ByteArray :=
  if g ((node + -dir * back) % N).toNat then E ((node + -dir * back) % N) node (f ((node + -dir * back) % N).toNat).o else ⟨#[]⟩
set_option maxRecDepth 100000 in
set_option maxHeartbeats 2000000 in
theorem come (FW : World → Prop) (N Pi Er G Fi : Int) (PA : Option Addr) (PL PC : Nat) (Kind At From To : Int) (CA : Option Addr) (CL CC : Nat) (VA : Option Addr) (VL VC : Nat) (round slot dir : Int) (TA : Option Addr) (TL TC : Nat) (UA : Option Addr) (UL UC : Nat) (SB DB n W : Nat) (E : Int → Int → ByteArray → ByteArray) (f : Nat → Sd) (g : Nat → Bool) (node back : Int) (w : World)
    (hE : EmitIs FW N Pi Er G Fi PA PL PC Kind At From To CA CL CC VA VL VC round slot E) (hFW : FW w) (hn : (n : Int) = N) (hN : 6 ≤ N) (hN2 : N ≤ 7)
    (hW : WaveAt w W N Pi Er G Fi PA PL PC Kind At From To CA CL CC VA VL VC round slot dir TA TL TC UA UL UC SB DB n) (hS : SidesAt w SB DB n f g)
    (hdir : dir = 1 ∨ dir = -1) (hback : back = 1 ∨ back = 2) (h0 : 0 ≤ node) (h1 : node < N) (hf : ∀ i, i < n → Strm (f i).o) :
    Calls Tryz.prog 150 #[.pointer (some ⟨W, 0, none⟩), .int .i64 node, .int .i64 back] w fun e w' => e = .returned (.string (comeF E N dir f g node back)) ∧ Below w.heap.size w w' := by
  have q0 : 0 ≤ (node + -dir * back) % N := Int.emod_nonneg _ (by omega)
  have q1 : (node + -dir * back) % N < N := Int.emod_lt_of_pos _ (by omega)
  obtain ⟨m, hm⟩ : ∃ m : Nat, (node + -dir * back) % N = m := ⟨_, (Int.toNat_of_nonneg q0).symm⟩
  have hmn : m < n := by omega
  have HA := Lib.hid (fun w => at_quiet N node (-dir * back) w hN (by omega) (by omega) (by omega) (by rcases hdir with rfl | rfl <;> rcases hback with rfl | rfl <;> decide) (by rcases hdir with rfl | rfl <;> rcases hback with rfl | rfl <;> decide))
  rw [hm] at HA
  have hcf : comeF E N dir f g node back = if g m then E m node (f m).o else ⟨#[]⟩ := by unfold comeF; rw [hm]; simp
  rw [hcf]
  have ho := hS.o m hmn
  have hg := hS.g m hmn
  have hst := hf m hmn
  have hm0 : (0 : Int) ≤ (m : Int) := by omega
  have hm1 : (m : Int) < (n : Int) := by omega
  have hW' := hW
  obtain ⟨c0, c1, c2, c3, c4, c5, c6, c7, c8, c9, c10, c11, c12, c13, c14, c15, c16, c17, c18, l0, l1, l2⟩ := hW'
  have HN := Lib.hid hn
  have HEm := Lib.hid (hE.strm m node (f m).o (by omega) (by omega) h0 h1 hst)
  have HE := Lib.hid (fun w' (h : FW w') => hE.calls m node (f m).o w' (by omega) (by omega) h0 h1 hst h)
  have HST := Lib.hid hE.stays
  have HFW := Lib.hid hFW
  clear hm hcf hf hst hS hn hE hFW q0 q1
  generalize hgo : (f m).o = so at *
  generalize hgm : g m = gm at *
  clear hgo hgm
  cases gm
  · rcases hdir with rfl | rfl <;> rcases hback with rfl | rfl
    all_goals
      go_enter Tryz.func150, Tryz.ntmps150
      go_wp2
      go_quiet ((go_at_call 149; exact Calls.quiet_of_same (HA.out _)))
      go_wp2
      go_ret
      exact ⟨rfl, by repeat (first | exact Below.refl _ _ | refine Below.drew ?_ | refine below_drewN ?_ _)⟩
  · rcases hdir with rfl | rfl <;> rcases hback with rfl | rfl
    all_goals
      go_enter Tryz.func150, Tryz.ntmps150
      go_wp2
      go_quiet ((go_at_call 149; exact Calls.quiet_of_same (HA.out _)))
      go_wp2
      go_region_held3 (fun w' => w'.cell? ⟨W, 0, none⟩ = some (.int .i64 N) ∧ w'.cell? ⟨W, 1, none⟩ = some (.int .i64 Pi) ∧ w'.cell? ⟨W, 2, none⟩ = some (.int .i64 Er) ∧ w'.cell? ⟨W, 3, none⟩ = some (.int .i64 G) ∧ w'.cell? ⟨W, 4, none⟩ = some (.int .i64 Fi) ∧ w'.cell? ⟨W, 5, none⟩ = some (.slice PA PL PC) ∧ w'.cell? ⟨W, 6, none⟩ = some (.int .i64 Kind) ∧ w'.cell? ⟨W, 7, none⟩ = some (.int .i64 At) ∧ w'.cell? ⟨W, 8, none⟩ = some (.int .i64 From) ∧ w'.cell? ⟨W, 9, none⟩ = some (.int .i64 To) ∧ w'.cell? ⟨W, 10, none⟩ = some (.slice CA CL CC) ∧ w'.cell? ⟨W, 11, none⟩ = some (.slice VA VL VC) ∧ w'.cell? ⟨W, 12, none⟩ = some (.int .i64 round) ∧ w'.cell? ⟨W, 13, none⟩ = some (.int .i64 slot) ∧ w'.cell? ⟨W, 17, none⟩ = some (.slice (some ⟨SB, 0, none⟩) n n) ∧ w'.cell? ⟨SB, m * 4 + 2, none⟩ = some (.string so)) (first | go_keep | (go_split_ands; (repeat' apply And.intro) <;> (first | exact (hb3.cell (by first | omega | (simp; omega))).trans (by assumption) | exact (hb2.cell (by first | omega | (simp; omega))).trans (by assumption) | exact (hb1.cell (by first | omega | (simp; omega))).trans (by assumption))))
        (first
          | (go_at_call 173; refine (HE.out _ (HST.out _ _ HFW.out (by repeat (first | exact Below.refl _ _ | refine Below.drew ?_ | refine below_drewN ?_ _)))).mono ?_; rintro e w1 ⟨rfl, hb1⟩; have hz1 : w.heap.size ≤ w1.heap.size := hb1.size)
          | (go_at_call 172; refine (sym_Clean _ _ HEm.out).mono ?_; rintro e w2 ⟨rfl, hb2⟩))
      go_wp2
      go_ret
      exact ⟨rfl, (Below.trans (by repeat (first | exact Below.refl _ _ | refine Below.drew ?_ | refine below_drewN ?_ _)) hb1).trans (hb2.mono hb1.size)⟩
end Go.Proofs.YtdbempiompiioaaGreat.A13
namespace Go.Proofs.YtdbempiompiioaaGreat.A14
open Go.RowKit A1 A2 A3 A4 A5 A6 A7 A8 A9 A10 A11 A12 A13

theorem passed_any (cmp : Bool) (d s : ByteArray) : ∃ k, passed cmp d s k := by
  cases cmp
  · exact ⟨d.size, Nat.le_refl _, (fun h => by cases h), fun h => absurd h (by omega)⟩
  · have key : ∀ m, m ≤ d.size → (∃ k, k ≤ m ∧ passed true d s k) ∨ ∀ j, j < m → atB s j = atB d j := by
      intro m
      induction m with
      | zero => intro _; exact .inr (fun j hj => absurd hj (by omega))
      | succ m ih =>
        intro hm
        rcases ih (by omega) with ⟨k, hk, hp⟩ | h
        · exact .inl ⟨k, by omega, hp⟩
        · by_cases e : atB s m = atB d m
          · exact .inr (fun j hj => by by_cases hjm : j = m; · rw [hjm]; exact e
                                       · exact h j (by omega))
          · exact .inl ⟨m, by omega, by omega, fun _ j hj => h j hj, fun _ => ⟨rfl, e⟩⟩
    rcases key d.size (Nat.le_refl _) with ⟨k, _, hp⟩ | h
    · exact ⟨k, hp⟩
    · exact ⟨d.size, Nat.le_refl _, fun _ => h, fun h => absurd h (by omega)⟩
theorem passed_one {cmp : Bool} {d s : ByteArray} {k k' : Nat} (h : passed cmp d s k) (h' : passed cmp d s k') : k = k' := by
  have key : ∀ {a b}, passed cmp d s a → passed cmp d s b → ¬ a < b := by
    intro a b ha hb hab
    have h1 := ha.2.2 (by have := hb.1; omega)
    exact h1.2 (hb.2.1 h1.1 a hab)
  have h1 := key h h'
  have h2 := key h' h
  omega
noncomputable def outF (cmp : Bool) (d s : ByteArray) : ByteArray := ⟨(d.data.toList.take (Classical.choose (passed_any cmp d s))).toArray⟩
theorem outF_of {cmp : Bool} {d s : ByteArray} {k : Nat} (h : passed cmp d s k) : outF cmp d s = ⟨(d.data.toList.take k).toArray⟩ := by
  unfold outF; rw [passed_one (Classical.choose_spec (passed_any cmp d s)) h]
theorem lane_Out' (cmp : Bool) (d s : ByteArray) (w : World) (hd : Strm d) (hs : s.size ≤ 4000) :
    Calls Tryz.prog 152 #[.bool cmp, .string d, .string s] w fun e w' => e = .returned (.string (outF cmp d s)) ∧ Below w.heap.size w w' :=
  (lane_Out cmp d s w hd hs).mono fun e w' ⟨k, hk, he, hb⟩ => ⟨by rw [outF_of hk]; exact he, hb⟩
theorem take_whole (d : ByteArray) (k : Nat) (h : d.size ≤ k) : (⟨(d.data.toList.take k).toArray⟩ : ByteArray) = d := by
  rw [List.take_of_length_le (by simpa using h)]
theorem outF_plain (d s : ByteArray) : outF false d s = d := by
  rw [outF_of (k := d.size) ⟨Nat.le_refl _, (fun h => by cases h), fun h => absurd h (by omega)⟩]; exact take_whole d _ (Nat.le_refl _)
theorem outF_same (cmp : Bool) (d : ByteArray) : outF cmp d d = d := by
  rw [outF_of (k := d.size) ⟨Nat.le_refl _, fun _ _ _ => rfl, fun h => absurd h (by omega)⟩]; exact take_whole d _ (Nat.le_refl _)
theorem outF_nil (cmp : Bool) (s : ByteArray) : outF cmp ⟨#[]⟩ s = ⟨#[]⟩ := by
  rw [outF_of (k := 0) ⟨Nat.zero_le _, fun _ j hj => absurd hj (by omega), fun h => absurd h (Nat.not_lt_zero _)⟩]; rfl
theorem atB_range (d : ByteArray) (k : Nat) (hd : Strm d) (h : k < d.size) : atB d k ≠ 46 := by
  have := hd.2 k h
  unfold atB; rw [dif_pos h]
  rcases this with h | h | h <;> omega
theorem atB_nil (k : Nat) : atB ⟨#[]⟩ k = 46 := by
  unfold atB
  rw [dif_neg]
  exact Nat.not_lt_zero k
theorem outF_none (d : ByteArray) (hd : Strm d) : outF true d ⟨#[]⟩ = ⟨#[]⟩ := by
  rw [outF_of (k := 0) ⟨Nat.zero_le _, fun _ j hj => absurd hj (by omega), fun h => ⟨rfl, fun e => atB_range d 0 hd h (e.symm.trans (atB_nil 0))⟩⟩]; rfl
theorem strm_take {d : ByteArray} (h : Strm d) (k : Nat) : Strm ⟨(d.data.toList.take k).toArray⟩ := by
  obtain ⟨h1, h2⟩ := h
  have hsz : (⟨(d.data.toList.take k).toArray⟩ : ByteArray).size = min k d.size := by show (d.data.toList.take k).toArray.size = min k d.data.size; simp
  refine ⟨by rw [hsz]; omega, fun i hi => ?_⟩
  have hi' : i < min k d.size := by rw [hsz] at hi; exact hi
  have he : (⟨(d.data.toList.take k).toArray⟩ : ByteArray)[i]'hi = d[i]'(by omega) := by
    show (d.data.toList.take k).toArray[i]'_ = d.data[i]'_
    simp
  rw [he]
  rcases h2 i (by omega) with h | h | ⟨h, h'⟩
  · exact .inl h
  · exact .inr (.inl h)
  · refine .inr (.inr ⟨h, ?_⟩)
    rw [hsz]; omega
theorem strm_out (cmp : Bool) {d : ByteArray} (s : ByteArray) (h : Strm d) : Strm (outF cmp d s) := strm_take h _

structure But (S : Nat → Prop) (w w' : World) : Prop where
  os : w'.os = w.os
  tape : w'.tape = w.tape
  output : w'.output = w.output
  size : w.heap.size ≤ w'.heap.size
  block : ∀ k, k < w.heap.size → ¬ S k → w'.heap[k]? = w.heap[k]?
theorem But.refl (S : Nat → Prop) (w : World) : But S w w := ⟨rfl, rfl, rfl, Nat.le_refl _, fun _ _ _ => rfl⟩
theorem But.trans {S : Nat → Prop} {a b c : World} (h : But S a b) (k : But S b c) : But S a c :=
  ⟨k.os.trans h.os, k.tape.trans h.tape, k.output.trans h.output, Nat.le_trans h.size k.size, fun i hi hs => (k.block i (Nat.lt_of_lt_of_le hi h.size) hs).trans (h.block i hi hs)⟩
theorem But.more {S T : Nat → Prop} {a b : World} (h : But S a b) (hs : ∀ k, k < a.heap.size → S k → T k) : But T a b := ⟨h.os, h.tape, h.output, h.size, fun k hk hn => h.block k hk (fun e => hn (hs k hk e))⟩
theorem But.of_below {S : Nat → Prop} {a b : World} {B : Nat} (h : Below B a b) (hB : a.heap.size ≤ B) : But S a b := ⟨h.os, h.tape, h.output, h.size, fun k hk _ => h.block k (Nat.lt_of_lt_of_le hk hB)⟩
theorem But.drew {S : Nat → Prop} {a b : World} (h : But S a b) : But S a b.drew := ⟨h.os, h.tape, h.output, h.size, h.block⟩
theorem But.drewN {S : Nat → Prop} {a b : World} (h : But S a b) (n : Nat) : But S a (b.drewN n) := ⟨h.os, h.tape, h.output, h.size, h.block⟩
theorem But.alloc {S : Nat → Prop} {a b : World} (h : But S a b) (o : Obj) : But S a (b.alloc o) := h.trans (But.of_below ((Below.refl _ _).alloc (Nat.le_refl _) _) (Nat.le_refl _))
theorem But.setCell {S : Nat → Prop} {a b : World} (h : But S a b) {p : Addr} (hp : S p.block ∨ a.heap.size ≤ p.block) (u : Value) : But S a (b.setCell p u) :=
  ⟨h.os, h.tape, h.output, by simpa [World.setCell] using h.size, fun i hi hn => (Below.heap_setCell b p u i (by
    rintro rfl
    rcases hp with hp | hp
    · exact hn hp
    · omega)).trans (h.block i hi hn)⟩
theorem But.below {S : Nat → Prop} {a b c : World} (h : But S a b) (k : Below b.heap.size b c) : But S a c := h.trans (But.of_below k (Nat.le_refl _))
theorem But.grown {S : Nat → Prop} {a b c : World} {row : Option Nat} (h : But S a b) (hg : b.grownBy c row) (hr : ∀ k, row = some k → S k ∨ a.heap.size ≤ k) : But S a c :=
  ⟨hg.os.trans h.os, hg.tape.trans h.tape, hg.output.trans h.output, Nat.le_trans h.size hg.size, fun k hk hn => (hg.block k (Nat.lt_of_lt_of_le hk h.size) (fun e => by
    rcases hr k e.symm with h1 | h1
    · exact hn h1
    · omega)).trans (h.block k hk hn)⟩
theorem But.to_below {S : Nat → Prop} {a b : World} {B : Nat} (h : But S a b) (hB : B ≤ a.heap.size) (hs : ∀ k, S k → B ≤ k) : Below B a b :=
  ⟨h.os, h.tape, h.output, h.size, fun k hk => h.block k (by omega) (fun e => by have := hs k e; omega)⟩
theorem But.cell {S : Nat → Prop} {a b : World} (h : But S a b) {p : Addr} (hp : p.block < a.heap.size) (hn : ¬ S p.block) : b.cell? p = a.cell? p := World.cell?_of_block (w := a) (h.block p.block hp hn)
theorem But.frozen {S : Nat → Prop} {a b : World} (h : But S a b) {p : Addr} (hp : p.block < a.heap.size) (hn : ¬ S p.block) : b.frozen? p = a.frozen? p := World.frozen?_of_block (w := a) (h.block p.block hp hn)
end Go.Proofs.YtdbempiompiioaaGreat.A14
namespace Go.Proofs.YtdbempiompiioaaGreat.AT
open Go

section
variable {P : Program} {ops : Array Oper} {Q : Exit → Act → World → Prop} {md : Region.Mode} {S : World → Prop} {last : List Nat}
def wpT (P : Program) (md : Region.Mode) (ops : Array Oper) (Q : Exit → Act → World → Prop) (S : World → Prop) (last : List Nat) : Nat → Array Bool → Act → World → Prop
  | 0, listed, a, w => Region.ready md ops listed = [] ∧ Q .normal a w
  | n + 1, listed, a, w => (Region.ready md ops listed = [] → Q .normal a w) ∧
    ∀ j ∈ Region.ready md ops listed, wpOp P ops Q j (fun a2 w2 => (last.contains j = false → S w2) ∧ wpT P md ops Q S last n (listed.setIfInBounds j true) a2 w2) a w
theorem wpT.any : ∀ (n : Nat) (listed : Array Bool) (a : Act) (w : World), wpT P md ops Q S last n listed a w → wpAny P md ops Q n listed a w
  | 0, _, _, _, h => h
  | n + 1, _, _, _, h => ⟨h.1, fun j hj => wpOp_mono (fun a2 w2 k => wpT.any n _ a2 w2 k.2) (h.2 j hj)⟩
def tailB (md : Region.Mode) (ops : Array Oper) (last : List Nat) (i : Nat) : Bool := last.all fun j => match ops[j]? with
  | some oj => oj.after.any fun e => Region.binds md e && e.on == i
  | none => true
theorem wpT.first {i : Nat} {oi : Oper} {v : Value} (hi : ops[i]? = some oi) (hsel : ∀ (j : Nat) (o : Oper) cs b, ops[j]? = some o → o.op ≠ .select cs b)
    (hQ : ∀ c a w, Q (.panic c) (a.put oi.dst v) w → Q (.panic c) a w) (hT : tailB md ops last i = true) :
    ∀ (n : Nat) (listed : Array Bool) (a : Act) (w : World),
      (∀ j oj, ops[j]? = some oj → j ≠ i → listed.getD j true = false → (∀ e ∈ oj.after, Region.binds md e = true → e.on ≠ i) → oi.apart ops oj = true) →
      i ∈ Region.ready md ops listed → YieldsIf P ops S oi v a → S w →
      wpT P md ops Q S last n (listed.setIfInBounds i true) (a.put oi.dst v) w → wpT P md ops Q S last (n + 1) listed a w := by
  intro n
  induction n with
  | zero =>
    intro listed a w _ hr hy hS H
    refine ⟨fun h => (by rw [h] at hr; cases hr), fun j hj => ?_⟩
    by_cases hji : j = i
    · subst hji; exact hy.wpOp hi hS ⟨fun _ => hS, H⟩
    · have := ready_mono hj hji
      rw [H.1] at this
      cases this
  | succ n ih =>
    intro listed a w hfree hr hy hS H
    refine ⟨fun h => (by rw [h] at hr; cases hr), fun j hj => ?_⟩
    by_cases hji : j = i
    · subst hji; exact hy.wpOp hi hS ⟨fun _ => hS, H⟩
    · have h1 := H.2 j (ready_mono hj hji)
      obtain ⟨hjun, oj, hoj, hall⟩ := mem_ready.1 hj
      have hnot : ∀ e ∈ oj.after, Region.binds md e = true → e.on ≠ i := fun e he hb heq => by
        have h1 := hall e he hb
        have h0 := (mem_ready.1 hr).1
        rw [heq] at h1
        rcases Nat.lt_or_ge i listed.size with h' | h'
        · simp [h'] at h0 h1; rw [h0] at h1; cases h1
        · simp [Array.getElem?_eq_none h'] at h1
      have hl : last.contains j = false := by
        cases hc : last.contains j
        · rfl
        · have hj2 := List.all_eq_true.1 hT j (by simpa using hc)
          simp only [hoj] at hj2
          rw [Array.any_eq_true'] at hj2
          obtain ⟨e, he, hb⟩ := hj2
          simp only [Bool.and_eq_true, beq_iff_eq] at hb
          exact absurd hb.2 (hnot e he hb.1)
      have h2 := wpOp_putIf hoj (hfree j oj hoj hji hjun hnot) (fun cs b => hsel i oi cs b hi) (fun cs b => hsel j oj cs b hoj) hQ hy h1
      have hfree' : ∀ k ok, ops[k]? = some ok → k ≠ i → (listed.setIfInBounds j true).getD k true = false →
          (∀ e ∈ ok.after, Region.binds md e = true → e.on ≠ i) → oi.apart ops ok = true := fun k ok hk hki hun hno => by
        refine hfree k ok hk hki ?_ hno
        by_cases hjk : j = k
        · subst hjk; exact hjun
        · rw [getD_set_ne true hjk] at hun; exact hun
      refine wpOp_mono (fun a2 w2 h3 => ⟨h3.2.1, ih (listed.setIfInBounds j true) a2 w2 hfree' (ready_mono hr (Ne.symm hji)) h3.1 (h3.2.1 hl) ?_⟩) h2
      rw [Array.setIfInBounds_comm _ _ hji]
      exact h3.2.2
theorem wpT_take {i : Nat} {oi : Oper} {v : Value} {n : Nat} {listed : Array Bool} {a : Act} {w : World} (hi : ops[i]? = some oi)
    (hs : Region.noSelect ops = true) (hf : Region.free md ops listed i = true) (hr : (Region.ready md ops listed).contains i = true) (hT : tailB md ops last i = true)
    (hQ : ∀ c a w, Q (.panic c) (a.put oi.dst v) w → Q (.panic c) a w) (hy : YieldsIf P ops S oi v a) (hS : S w)
    (h : wpT P md ops Q S last n (listed.setIfInBounds i true) (a.put oi.dst v) w) : wpT P md ops Q S last (n + 1) listed a w :=
  wpT.first hi (Region.noSelect_spec hs) hQ hT n listed a w (Region.free_spec hi hf) (by simpa using hr) hy hS h
theorem wpT.first0 {i : Nat} {oi : Oper} {v : Value} (hi : ops[i]? = some oi) (hsel : ∀ (j : Nat) (o : Oper) cs b, ops[j]? = some o → o.op ≠ .select cs b)
    (hQ : ∀ c a w, Q (.panic c) (a.put oi.dst v) w → Q (.panic c) a w) (hl : last.contains i = true) :
    ∀ (n : Nat) (listed : Array Bool) (a : Act) (w : World),
      (∀ j oj, ops[j]? = some oj → j ≠ i → listed.getD j true = false → (∀ e ∈ oj.after, Region.binds md e = true → e.on ≠ i) → oi.apart ops oj = true) →
      i ∈ Region.ready md ops listed → YieldsIf P ops (fun _ => True) oi v a →
      wpT P md ops Q S last n (listed.setIfInBounds i true) (a.put oi.dst v) w → wpT P md ops Q S last (n + 1) listed a w := by
  intro n
  induction n with
  | zero =>
    intro listed a w _ hr hy H
    refine ⟨fun h => (by rw [h] at hr; cases hr), fun j hj => ?_⟩
    by_cases hji : j = i
    · subst hji; exact hy.wpOp hi trivial ⟨fun e => (by rw [hl] at e; cases e), H⟩
    · have := ready_mono hj hji
      rw [H.1] at this
      cases this
  | succ n ih =>
    intro listed a w hfree hr hy H
    refine ⟨fun h => (by rw [h] at hr; cases hr), fun j hj => ?_⟩
    by_cases hji : j = i
    · subst hji; exact hy.wpOp hi trivial ⟨fun e => (by rw [hl] at e; cases e), H⟩
    · have h1 := H.2 j (ready_mono hj hji)
      obtain ⟨hjun, oj, hoj, hall⟩ := mem_ready.1 hj
      have hnot : ∀ e ∈ oj.after, Region.binds md e = true → e.on ≠ i := fun e he hb heq => by
        have h1 := hall e he hb
        have h0 := (mem_ready.1 hr).1
        rw [heq] at h1
        rcases Nat.lt_or_ge i listed.size with h' | h'
        · simp [h'] at h0 h1; rw [h0] at h1; cases h1
        · simp [Array.getElem?_eq_none h'] at h1
      have h2 := wpOp_putIf hoj (hfree j oj hoj hji hjun hnot) (fun cs b => hsel i oi cs b hi) (fun cs b => hsel j oj cs b hoj) hQ hy h1
      have hfree' : ∀ k ok, ops[k]? = some ok → k ≠ i → (listed.setIfInBounds j true).getD k true = false →
          (∀ e ∈ ok.after, Region.binds md e = true → e.on ≠ i) → oi.apart ops ok = true := fun k ok hk hki hun hno => by
        refine hfree k ok hk hki ?_ hno
        by_cases hjk : j = k
        · subst hjk; exact hjun
        · rw [getD_set_ne true hjk] at hun; exact hun
      refine wpOp_mono (fun a2 w2 h3 => ⟨h3.2.1, ih (listed.setIfInBounds j true) a2 w2 hfree' (ready_mono hr (Ne.symm hji)) h3.1 ?_⟩) h2
      rw [Array.setIfInBounds_comm _ _ hji]
      exact h3.2.2
theorem wpT_take0 {i : Nat} {oi : Oper} {v : Value} {n : Nat} {listed : Array Bool} {a : Act} {w : World} (hi : ops[i]? = some oi)
    (hs : Region.noSelect ops = true) (hf : Region.free md ops listed i = true) (hr : (Region.ready md ops listed).contains i = true) (hl : last.contains i = true)
    (hQ : ∀ c a w, Q (.panic c) (a.put oi.dst v) w → Q (.panic c) a w) (hy : YieldsIf P ops (fun _ => True) oi v a)
    (h : wpT P md ops Q S last n (listed.setIfInBounds i true) (a.put oi.dst v) w) : wpT P md ops Q S last (n + 1) listed a w :=
  wpT.first0 hi (Region.noSelect_spec hs) hQ hl n listed a w (Region.free_spec hi hf) (by simpa using hr) hy h
theorem wpT_done {listed : Array Bool} {a : Act} {w : World} (hr : Region.ready md ops listed = []) (h : Q .normal a w) : ∀ n, wpT P md ops Q S last n listed a w
  | 0 => ⟨hr, h⟩
  | _ + 1 => ⟨fun _ => h, by rw [hr]; simp⟩
def AllT (P : Program) (md : Region.Mode) (ops : Array Oper) (Q : Exit → Act → World → Prop) (S : World → Prop) (last : List Nat) (n : Nat) (listed : Array Bool) (a : Act) (w : World) (rs : List Nat) : Prop :=
  ∀ j ∈ rs, wpOp P ops Q j (fun a2 w2 => (last.contains j = false → S w2) ∧ wpT P md ops Q S last n (listed.setIfInBounds j true) a2 w2) a w
theorem AllT.nil {n : Nat} {listed : Array Bool} {a : Act} {w : World} : AllT P md ops Q S last n listed a w [] := fun _ h => by cases h
theorem AllT.cons {n : Nat} {listed : Array Bool} {a : Act} {w : World} {i : Nat} {o : Oper} {rs : List Nat} (ho : ops[i]? = some o)
    (h : ∀ K' : Act → World → Prop, Shut (∀ a w, S w → (S w → wpT P md ops Q S last n (listed.setIfInBounds i true) a w) → K' a w) → if Region.wanted o (yielded ops a.tmps) = true then Oper.wp P o a w K' Q else K' (a.put o.dst undef) w)
    (hs : AllT P md ops Q S last n listed a w rs) : AllT P md ops Q S last n listed a w (i :: rs) := fun j hj => by
  rcases List.mem_cons.1 hj with rfl | hj
  · exact wpOp_step ho (fun K' hK => h K' (fun a w hS hW => hK a w ⟨fun _ => hS, hW hS⟩))
  · exact hs j hj
theorem AllT.end {n : Nat} {listed : Array Bool} {a : Act} {w : World} {i : Nat} {o : Oper} {rs : List Nat} (ho : ops[i]? = some o) (hl : last.contains i = true)
    (h : ∀ K' : Act → World → Prop, Shut (∀ a w, wpT P md ops Q S last n (listed.setIfInBounds i true) a w → K' a w) → if Region.wanted o (yielded ops a.tmps) = true then Oper.wp P o a w K' Q else K' (a.put o.dst undef) w)
    (hs : AllT P md ops Q S last n listed a w rs) : AllT P md ops Q S last n listed a w (i :: rs) := fun j hj => by
  rcases List.mem_cons.1 hj with rfl | hj
  · exact wpOp_step ho (fun K' hK => h K' (fun a w hW => hK a w ⟨fun e => (by rw [hl] at e; cases e), hW⟩))
  · exact hs j hj
theorem wpT_ready {rs : List Nat} {n : Nat} {listed : Array Bool} {a : Act} {w : World} (hr : Region.ready md ops listed = rs) (hne : rs ≠ [])
    (h : AllT P md ops Q S last n listed a w rs) : wpT P md ops Q S last (n + 1) listed a w := ⟨fun h0 => absurd (hr ▸ h0) hne, hr ▸ h⟩
theorem wp_region_tail (last : List Nat) {id : Nat} {a : Act} {w : World} (hm : P.follows .mixedOrders = true) (hS : S w.drew)
    (h : S w.drew → wpT P .any ops Q S last ops.size (Array.replicate ops.size false) a w.drew) : (Code.region id ops true).wp P Q a w :=
  wp_region_any hm (wpT.any _ _ _ _ (h hS))
end
end Go.Proofs.YtdbempiompiioaaGreat.AT
namespace Go.Proofs.YtdbempiompiioaaGreat
open Go.RowKit

theorem rgA {α : Type} {l : List α} {i : Nat} (h : i < l.toArray.size) : l.toArray[i] = l[i]'(by simpa using h) := List.getElem_toArray h
theorem rgB {α : Type} {a : α} {l : List α} {i : Nat} (h : i + 1 < (a :: l).length) : (a :: l)[i + 1] = l[i]'(by simpa using h) := List.getElem_cons_succ ..
theorem rgC {α : Type} {a : α} {l : List α} (h : 0 < (a :: l).length) : (a :: l)[0] = a := List.getElem_cons_zero ..
theorem rgD {α : Type} (l : List α) (i : Nat) (a : α) : l.toArray.setIfInBounds i a = (l.set i a).toArray := List.setIfInBounds_toArray ..
theorem rgE {α : Type} (x a : α) (l : List α) : (x :: l).set 0 a = a :: l := List.set_cons_zero ..
theorem rgF {α : Type} (x a : α) (l : List α) (n : Nat) : (x :: l).set (n + 1) a = x :: l.set n a := List.set_cons_succ ..
section
variable {P : Program} {md : Region.Mode} {ops : Array Oper} {Q : Exit → Act → World → Prop} {S : World → Prop} {last : List Nat} {n : Nat} {li : Array Bool} {a : Act} {w : World}
theorem rgT (i : Nat) {oi : Oper} {v : Value} {a' : Act} (h : wpAnyH P md ops Q S n (li.setIfInBounds i true) a' w) (hi : ops[i]? = some oi := by rfl)
    (hy : YieldsIf P ops S oi v a := by (refine Or.inl ⟨by rfl, ?_⟩; intro w_ h_; (try dsimp only at h_); go_simp; (try with_reducible rfl)))
    (ha : a.put oi.dst v = a' := by (simp only [Act.put, rgA, rgB, rgC, rgD, rgE, rgF]; rfl)) (hS : S w := by assumption) (hs : Region.noSelect ops = true := by kernel_rfl) (hf : Region.free md ops li i = true := by kernel_rfl)
    (hr : (Region.ready md ops li).contains i = true := by kernel_rfl) (hQ : ∀ c a w, Q (.panic c) (a.put oi.dst v) w → Q (.panic c) a w := by exact fun _ _ _ h => h) : wpAnyH P md ops Q S (n + 1) li a w :=
  wpAnyH_take hi hs hf hr hQ hy hS (ha ▸ h)
theorem rgU (i : Nat) {oi : Oper} {v : Value} {a' : Act} (h : AT.wpT P md ops Q S last n (li.setIfInBounds i true) a' w) (hi : ops[i]? = some oi := by rfl)
    (hy : YieldsIf P ops S oi v a := by (refine Or.inl ⟨by rfl, ?_⟩; intro w_ h_; (try dsimp only at h_); go_simp; (try with_reducible rfl)))
    (ha : a.put oi.dst v = a' := by (simp only [Act.put, rgA, rgB, rgC, rgD, rgE, rgF]; rfl)) (hS : S w := by assumption) (hs : Region.noSelect ops = true := by kernel_rfl) (hf : Region.free md ops li i = true := by kernel_rfl)
    (hr : (Region.ready md ops li).contains i = true := by kernel_rfl) (hT : AT.tailB md ops last i = true := by kernel_rfl) (hQ : ∀ c a w, Q (.panic c) (a.put oi.dst v) w → Q (.panic c) a w := by exact fun _ _ _ h => h) : AT.wpT P md ops Q S last (n + 1) li a w :=
  AT.wpT_take hi hs hf hr hT hQ hy hS (ha ▸ h)
theorem rgS (i : Nat) {oi : Oper} {a' : Act} (h : wpAnyH P md ops Q S n (li.setIfInBounds i true) a' w) (hi : ops[i]? = some oi := by rfl) (hy : Region.wanted oi (yielded ops a.tmps) = false := by rfl)
    (ha : a.put oi.dst undef = a' := by (simp only [Act.put, rgA, rgB, rgC, rgD, rgE, rgF]; rfl)) (hS : S w := by assumption) (hs : Region.noSelect ops = true := by kernel_rfl) (hf : Region.free md ops li i = true := by kernel_rfl)
    (hr : (Region.ready md ops li).contains i = true := by kernel_rfl) (hQ : ∀ c a w, Q (.panic c) (a.put oi.dst undef) w → Q (.panic c) a w := by exact fun _ _ _ h => h) : wpAnyH P md ops Q S (n + 1) li a w :=
  wpAnyH_take hi hs hf hr hQ (Or.inr ⟨hy, rfl⟩) hS (ha ▸ h)
end
end Go.Proofs.YtdbempiompiioaaGreat
