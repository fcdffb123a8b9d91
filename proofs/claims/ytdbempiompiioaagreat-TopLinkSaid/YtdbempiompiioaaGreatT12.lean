/- The copies that are right. Conditions: the bounds stated in each theorem. -/
import Derived.Test.YtdbempiompiioaaGreatT11
set_option linter.unusedVariables false
set_option linter.unusedSimpArgs false
namespace Go.Proofs.YtdbempiompiioaaGreat.A31
open Go.RowKit A1 A2 A3 A4 A5 A6 A7 A8 A9 A10 A11 A12 A13 A14 A15 A16 A17 A18 A19 A20 A21 A22 A23 A24 A25 A26 A27 A28 A29 A30

def SortIs (N PL : Nat) (wire slot : Int) (s : ByteArray) : Option Fr → Prop
  | some f => s = textB f ∧ FrOk N PL f ∧ (f.round : Int) = wire ∧ (f.slot : Int) = slot
  | none => s.size ≤ 4000 ∧ Lib.hasSuffix s.data.toList [35] = false
structure Tk where
  s : ByteArray
  f : Fr
  A : Option Addr
  C : Nat
def tkCells : List Tk → List Value
  | [] => []
  | t :: r => .string t.s :: .int .i64 t.f.kind :: .int .i64 t.f.round :: .int .i64 t.f.slot :: .int .i64 t.f.pk :: .int .i64 t.f.pv :: .slice t.A t.f.echo.length t.C :: tkCells r
theorem tkCells_append (a b : List Tk) : tkCells (a ++ b) = tkCells a ++ tkCells b := by
  induction a with
  | nil => rfl
  | cons x r ih => simp [tkCells, ih]
theorem tkCells_length (l : List Tk) : (tkCells l).length = l.length * 7 := by
  induction l with
  | nil => rfl
  | cons x r ih => simp [tkCells, ih]; omega
theorem tkCells_one (l : List Tk) : ∀ u ∈ tkCells l, u.oneCell' = true := by
  induction l with
  | nil => intro u hu; cases hu
  | cons x r ih =>
    intro u hu
    simp [tkCells] at hu
    rcases hu with rfl | rfl | rfl | rfl | rfl | rfl | rfl | hu
    all_goals first | rfl | exact ih u hu
def addF (t : ByteArray) (b : Bool) (o : Option Fr) : List (ByteArray × Fr) := if b then (match o with | some f => [(t, f)] | none => []) else []
def TkAt (w : World) (base : Nat) (v : Value) (l : List (ByteArray × Fr)) : Prop :=
  ∃ T : List Tk, T.map (fun t => (t.s, t.f)) = l ∧ w.ownsRow base 185 7 v T.length (tkCells T) ∧ ∀ t ∈ T, Items w t.A t.f.echo ∧ ∀ b off, t.A = some ⟨b, off, none⟩ → 0 < t.f.echo.length → v.ownBlock ≠ some b ∧ b < w.heap.size ∧ base ≤ b
theorem TkAt.below {w w' : World} {base : Nat} {v : Value} {l : List (ByteArray × Fr)} (h : TkAt w base v l) (hb : Below w.heap.size w w') : TkAt w' base v l := by
  obtain ⟨T, h1, h2, h3⟩ := h
  refine ⟨T, h1, World.ownsRow.kept h2 (row := none) ⟨hb.os, hb.tape, hb.output, hb.size, fun k hk _ => hb.block k hk⟩ ?_, fun t ht => ⟨(h3 t ht).1.below hb, fun b off e hl => ⟨((h3 t ht).2 b off e hl).1, Nat.lt_of_lt_of_le ((h3 t ht).2 b off e hl).2.1 hb.size, ((h3 t ht).2 b off e hl).2.2⟩⟩⟩
  rcases hv : v.ownBlock with _ | q
  · exact .inl rfl
  · exact .inr (by simp)
theorem info185 : (Tryz.prog.info? 185).map (fun i => (i.zero, i.size, i.bytes)) = some (some (.agg #[.string ⟨#[]⟩, .int .i64 0, .int .i64 0, .int .i64 0, .int .i64 0, .int .i64 0, .slice none 0 0]), 7, 80) := by kernel_rfl
def RetTk (l : List (ByteArray × Fr)) (w : World) (e : Ending) (w' : World) : Prop := ∃ v, e = .returned v ∧ TkAt w' w.heap.size v l ∧ Below w.heap.size w w'
theorem TkAt.mono {w : World} {base base' : Nat} {v : Value} {l : List (ByteArray × Fr)} (h : TkAt w base v l) (hb : base' ≤ base) : TkAt w base' v l := by
  obtain ⟨T, h1, h2, h3⟩ := h
  exact ⟨T, h1, own_mono h2 hb, fun t ht => ⟨(h3 t ht).1, fun b off e hl => ⟨((h3 t ht).2 b off e hl).1, ((h3 t ht).2 b off e hl).2.1, Nat.le_trans hb ((h3 t ht).2 b off e hl).2.2⟩⟩⟩

theorem nil_compared (d s o : ByteArray) (far : Int) (pair : Bool) (w : World) : (nilAhead 454 183 (.agg #[.string d, .string s, .string o, .int .i64 far, .bool pair]) "plaiting/arb.text").run Tryz.prog w = .ok (some false) w := by kernel_rfl
theorem m_compared (d s o : ByteArray) (far : Int) (pair : Bool) (w : World) : (method 454 183 (.agg #[.string d, .string s, .string o, .int .i64 far, .bool pair]) "plaiting/arb.text").run Tryz.prog w = .ok (261, .agg #[.string d, .string s, .string o, .int .i64 far, .bool pair]) w := by kernel_rfl
set_option maxRecDepth 100000 in
set_option maxHeartbeats 4000000 in
theorem rights_compared (N : Nat) (Pi Er G Fi : Int) (PA : Option Addr) (PL PC : Nat) (round slot : Int) (cb : Nat) (d1 s1 o1 d2 s2 o2 : ByteArray) (far1 far2 : Int) (pair : Bool) (r1 r2 : Option Fr) (w : World)
    (hN : N ≤ 12) (hP : PL ≤ 3) (hFi : 0 ≤ Fi) (hFi2 : Fi ≤ 65535) (hr : 0 ≤ round) (hr2 : round ≤ 1000) (hf1 : 1 ≤ far1) (hf2 : 1 ≤ far2)
    (h1 : SortIs N PL ((Fi + round) % 65536) slot o1 r1) (h2 : SortIs N PL ((Fi + round) % 65536) slot o2 r2)
    (hc1 : w.cell? ⟨cb, 0, none⟩ = some (.iface 183 (.agg #[.string d1, .string s1, .string o1, .int .i64 far1, .bool pair]))) (hc2 : w.cell? ⟨cb, 1, none⟩ = some (.iface 183 (.agg #[.string d2, .string s2, .string o2, .int .i64 far2, .bool pair]))) :
    Calls Tryz.prog 109 #[.agg #[.int .i64 N, .int .i64 Pi, .int .i64 Er, .int .i64 G, .int .i64 Fi, .slice PA PL PC], .int .i64 round, .int .i64 slot, .slice (some ⟨cb, 0, none⟩) 2 2] w (RetTk (addF o1 (decide (2 ≤ far1) || pair) r1 ++ addF o2 (decide (2 ≤ far2) || pair) r2) w) := by
  have hlt := World.block_lt_of_cell? w _ hc1
  have HC1 := Lib.hid hc1
  have HC2 := Lib.hid hc2
  have HT1 := Lib.hid (fun w => compared_text d1 s1 o1 far1 pair w hf1)
  have HT2 := Lib.hid (fun w => compared_text d2 s2 o2 far2 pair w hf2)
  have HN1 := nil_compared d1 s1 o1 far1 pair
  have HM1 := m_compared d1 s1 o1 far1 pair
  have HN2 := nil_compared d2 s2 o2 far2 pair
  have HM2 := m_compared d2 s2 o2 far2 pair
  have hR : ∀ (t : ByteArray) (r : Option Fr), SortIs N PL ((Fi + round) % 65536) slot t r → (∃ f, r = some f ∧ ∀ w, Calls Tryz.prog 153 #[.agg #[.int .i64 N, .int .i64 Pi, .int .i64 Er, .int .i64 G, .int .i64 Fi, .slice PA PL PC], .int .i64 round, .int .i64 slot, .string t] w (RetOk f w)) ∨ (r = none ∧ ∀ w, Calls Tryz.prog 153 #[.agg #[.int .i64 N, .int .i64 Pi, .int .i64 Er, .int .i64 G, .int .i64 Fi, .slice PA PL PC], .int .i64 round, .int .i64 slot, .string t] w fun e w' => e = .returned (.tuple #[.agg #[.int .i64 0, .int .i64 0, .int .i64 0, .int .i64 0, .int .i64 0, .slice none 0 0], .bool false]) ∧ Below w.heap.size w w') := by
    intro t r h
    cases r with
    | none => exact .inr ⟨rfl, fun w => Right_no N Pi Er G Fi PA PL PC round slot t w h.1 h.2⟩
    | some f =>
      obtain ⟨rfl, hf, hw, hs⟩ := h
      refine .inl ⟨f, rfl, fun w => ?_⟩
      rw [← hs]
      exact Right_yes N Pi Er G Fi PA PL PC round f w hf hN hP hFi hFi2 hr hr2 hw
  have HR1 := Lib.hid (hR _ _ h1)
  have HR2 := Lib.hid (hR _ _ h2)
  have hX1 : ∀ r, SortIs N PL ((Fi + round) % 65536) slot o1 r → True := fun _ _ => trivial
  obtain ⟨i0, hi0, hz0, hz1, hz2⟩ := info_parts info185
  have HI := Lib.hid hi0
  have HZ := Lib.hid (And.intro hz0 (And.intro hz1 hz2))
  clear h1 h2 hR hX1 hc1 hc2 hi0 hz0 hz1 hz2
  go_enter Tryz.func109, Tryz.ntmps109
  have hbx : (w.alloc (.cells #[.int .i64 N, .int .i64 Pi, .int .i64 Er, .int .i64 G, .int .i64 Fi, .slice PA PL PC] 24)).heap[w.heap.size]? = some (.cells #[.int .i64 N, .int .i64 Pi, .int .i64 Er, .int .i64 G, .int .i64 Fi, .slice PA PL PC] 24 (0, 0)) := heap_alloc_new w _
  have HBX := Lib.hid hbx
  clear hbx
  go_wp2
  go_loopw [9, 18] (fun v t wr => ∃ k : Nat, k ≤ 2 ∧ t = .int .i64 k ∧ TkAt wr (w.heap.size + 1) v (match k with | 0 => [] | 1 => addF o1 (decide (2 ≤ far1) || pair) r1 | _ => addF o1 (decide (2 ≤ far1) || pair) r1 ++ addF o2 (decide (2 ≤ far2) || pair) r2) ∧ Hid (wr.heap[w.heap.size]? = some (.cells #[.int .i64 N, .int .i64 Pi, .int .i64 Er, .int .i64 G, .int .i64 Fi, .slice PA PL PC] 24 (0, 0))) ∧ Below w.heap.size w wr) (fun _ t _ => 2 - (intOf t).toNat)
  case atStart => exact ⟨0, by omega, rfl, ⟨[], rfl, World.ownsRow_nil _ _ _ _, fun t ht => by cases ht⟩, HBX.out, (Below.refl _ _).alloc (Nat.le_refl _) _⟩
  case round =>
    obtain ⟨k, hk, rfl, htk, hbx, hbr⟩ := hrel
    clear HBX
    have c0 : wr.cell? ⟨w.heap.size, 0, none⟩ = some (.int .i64 N) := by simp [World.cell?, hbx.out]
    have c1 : wr.cell? ⟨w.heap.size, 1, none⟩ = some (.int .i64 Pi) := by simp [World.cell?, hbx.out]
    have c2 : wr.cell? ⟨w.heap.size, 2, none⟩ = some (.int .i64 Er) := by simp [World.cell?, hbx.out]
    have c3 : wr.cell? ⟨w.heap.size, 3, none⟩ = some (.int .i64 G) := by simp [World.cell?, hbx.out]
    have c4 : wr.cell? ⟨w.heap.size, 4, none⟩ = some (.int .i64 Fi) := by simp [World.cell?, hbx.out]
    have c5 : wr.cell? ⟨w.heap.size, 5, none⟩ = some (.slice PA PL PC) := by simp [World.cell?, hbx.out]
    have lw : w.heap.size < wr.heap.size := World.block_lt_of_cell? wr _ c0
    have HBr := Lib.hid hbr
    have k01 : k = 0 ∨ k = 1 ∨ k = 2 := by omega
    rcases k01 with rfl | rfl | rfl
    · have hcc : wr.cell? ⟨cb, 0, none⟩ = some (.iface 183 (.agg #[.string d1, .string s1, .string o1, .int .i64 far1, .bool pair])) := keep_of HC1.out hlt hbr
      have HTk := Lib.hid (show TkAt wr (w.heap.size + 1) u9 [] from htk)
      clear htk hbr
      go_wp2_with fail
      refine (HT1.out _).mono ?_
      rintro e w1 ⟨rfl, hb1⟩
      have HTk1 := Lib.hid (TkAt.below HTk.out hb1)
      have HBr1 := Lib.hid (HBr.out.trans (hb1.mono HBr.out.size))
      have HBx1 := Lib.hid ((hb1.block _ lw).trans hbx.out)
      have d0 := keep_of c0 lw hb1
      have d1' := keep_of c1 lw hb1
      have d2' := keep_of c2 lw hb1
      have d3 := keep_of c3 lw hb1
      have d4 := keep_of c4 lw hb1
      have d5 := keep_of c5 lw hb1
      have lw1 : w.heap.size < w1.heap.size := Nat.lt_of_lt_of_le lw hb1.size
      clear c0 c1 c2 c3 c4 c5 hcc hb1 HTk
      cases hbb : (decide (2 ≤ far1) || pair)
      · have hadd : addF o1 (decide (2 ≤ far1) || pair) r1 = [] := by unfold addF; rw [hbb]; rfl
        have HA := Lib.hid hadd
        clear hadd hbb
        go_wp2
        go_roundw
        case rel => exact ⟨1, by omega, by go_num, by first | (show TkAt _ _ _ (addF o1 (decide (2 ≤ far1) || pair) r1); rw [HA.out]; first | exact HTk1.out | (rw [List.append_nil]; exact HTk1.out)), HBx1.out, HBr1.out⟩
        case measure => first | decide | (simp [intOf]; done) | (simp [intOf]; omega)
      · have HBB := Lib.hid hbb
        clear hbb
        rcases HR1.out with ⟨f, rfl, hcall⟩ | ⟨rfl, hcall⟩
        · have hadd : addF o1 (decide (2 ≤ far1) || pair) (some f) = [(o1, f)] := by unfold addF; rw [HBB.out]; rfl
          have HA := Lib.hid hadd
          have HCl := Lib.hid hcall
          clear hadd hcall
          go_wp2_with fail
          refine (HCl.out _).mono ?_
          rintro e w2 ⟨EA, EC, rfl, hI2, hEA, hb2⟩
          have htk2 := TkAt.below HTk1.out hb2
          obtain ⟨Tl, hT1, hT2, hT3⟩ := htk2
          have hTl : Tl.length ≤ 1 := by
            have := congrArg List.length hT1
            simp only [List.length_map] at this
            rw [this]
            simp
          have HT2' := Lib.hid hT2
          have HT3 := Lib.hid hT3
          have HT1' := Lib.hid hT1
          have HI2 := Lib.hid hI2
          have HEA := Lib.hid hEA
          have HB2 := Lib.hid hb2
          have hz12 := hb2.size
          clear hT1 hT2 hT3 hI2 hEA hb2 d0 d1' d2' d3 d4 d5
          go_wp2_with (at_builtin; refine wpList_append_lies _ rfl _ _ _ rfl (w.heap.size + 1) 185 i0 (.agg #[.string ⟨#[]⟩, .int .i64 0, .int .i64 0, .int .i64 0, .int .i64 0, .int .i64 0, .slice none 0 0]) 7 80 Tryz.underlying180 HI.out HZ.out.1 HZ.out.2.1 HZ.out.2.2 rfl (by omega) _ Tl.length (tkCells Tl) rfl ((HT2'.out.alloc _).alloc _) ⟨w2.heap.size + 1, 0, none⟩ 1 1 [.string o1, .int .i64 f.kind, .int .i64 f.round, .int .i64 f.slot, .int .i64 f.pk, .int .i64 f.pv, .slice EA f.echo.length EC] rfl rfl (World.news_of_block (cs := #[.string o1, .int .i64 f.kind, .int .i64 f.round, .int .i64 f.slot, .int .i64 f.pk, .int .i64 f.pv, .slice EA f.echo.length EC]) (t := 185) (fr := (0, 0)) (by have := heap_alloc_new (w2.alloc (.cells #[.int .i64 f.kind, .int .i64 f.round, .int .i64 f.slot, .int .i64 f.pk, .int .i64 f.pv, .slice EA f.echo.length EC] 118)) (.cells #[.string o1, .int .i64 f.kind, .int .i64 f.round, .int .i64 f.slot, .int .i64 f.pk, .int .i64 f.pv, .slice EA f.echo.length EC] 185); simpa using this)) (by simp [Value.oneCell']) (by omega) (by unfold maxLen; omega) (by omega) (by simp; omega) (w2.heap.size + 1 + 1) (by simp) ?_)
          intro gg cap w3 hown3 hgrow hat hlt3
          have hbl : Below w2.heap.size w2 ((w2.alloc (.cells #[.int .i64 f.kind, .int .i64 f.round, .int .i64 f.slot, .int .i64 f.pk, .int .i64 f.pv, .slice EA f.echo.length EC] 118)).alloc (.cells #[.string o1, .int .i64 f.kind, .int .i64 f.round, .int .i64 f.slot, .int .i64 f.pk, .int .i64 f.pv, .slice EA f.echo.length EC] 185)) := (by repeat (first | exact Below.refl _ _ | refine Below.drew ?_ | refine below_drewN ?_ _ | refine Below.alloc ?_ (by simp; try omega) _))
          have hkeepI : ∀ (A : Option Addr) (l : List (Nat × Nat)), Items w2 A l → (∀ b off, A = some ⟨b, off, none⟩ → 0 < l.length → u9.ownBlock ≠ some b) → Items w3 A l := by
            intro A l hI hne q hq
            obtain ⟨b, off, e, h1, h2, h3⟩ := (hI.below hbl) q hq
            have hn := hne b off e (by omega)
            have hbb : w3.heap[b]? = _ := hgrow.block b h1 (fun e' => hn e'.symm)
            exact ⟨b, off, e, Nat.lt_of_lt_of_le h1 hgrow.size, (World.cell?_of_block (a := ⟨b, off + q * 2, none⟩) hbb).trans h2, (World.cell?_of_block (a := ⟨b, off + q * 2 + 1, none⟩) hbb).trans h3⟩
          have hsz3 := hgrow.size
          simp at hsz3
          have hown2 : u9.ownBlock = none ∨ ∃ q, u9.ownBlock = some q ∧ w.heap.size + 1 ≤ q ∧ q < w1.heap.size := by
            rcases hv : u9.ownBlock with _ | q
            · exact .inl rfl
            · exact .inr ⟨q, rfl, ownsRow_block HT2'.out hv, by
                obtain ⟨Tq, _, hq2, _⟩ := HTk1.out
                exact (World.ownsRow.lt hq2 _ hv).2⟩
          have htk3 : TkAt w3 (w.heap.size + 1) (.slice (some ⟨gg, 0, none⟩) (Tl.length + 1) cap) ([] ++ [(o1, f)]) := by
            refine ⟨Tl ++ [⟨o1, f, EA, EC⟩], ?_, ?_, ?_⟩
            · rw [List.map_append, HT1'.out]; rfl
            · rw [List.length_append, tkCells_append]; exact hown3
            · intro t ht
              rcases List.mem_append.1 ht with ht | ht
              · obtain ⟨hi, hb⟩ := HT3.out t ht
                refine ⟨hkeepI _ _ hi (fun b off e hl => (hb b off e hl).1), fun b off e hl => ⟨?_, by have := (hb b off e hl).2.1; omega, (hb b off e hl).2.2⟩⟩
                have h5 := (hb b off e hl).1
                have h6 := (hb b off e hl).2.1
                show some gg ≠ some b
                rcases hat with h7 | h7
                · rw [← h7]; exact h5
                · intro h8; injection h8 with h8; omega
              · rw [List.mem_singleton] at ht
                subst ht
                have hbe : ∀ b off, EA = some ⟨b, off, none⟩ → 0 < f.echo.length → w1.heap.size ≤ b ∧ b < w2.heap.size := fun b off e hl => by
                  have h5 := HEA.out b off e
                  obtain ⟨b', off', e', hb', _⟩ := HI2.out 0 hl
                  rw [e] at e'
                  cases e'
                  exact ⟨h5, hb'⟩
                have hne2 : ∀ b off, EA = some ⟨b, off, none⟩ → 0 < f.echo.length → u9.ownBlock ≠ some b := fun b off e hl => by
                  have h5 := (hbe b off e hl).1
                  rcases hown2 with h6 | ⟨q, h6, _, h7⟩
                  · rw [h6]; simp
                  · rw [h6]; intro h8; injection h8 with h8; omega
                refine ⟨hkeepI _ _ HI2.out hne2, fun b off e hl => ⟨?_, by have := (hbe b off e hl).2; omega, by have := (hbe b off e hl).1; omega⟩⟩
                show some gg ≠ some b
                intro h8
                injection h8 with h8
                rcases hat with h7 | h7
                · exact hne2 b off e hl (by rw [h7, h8])
                · have := (hbe b off e hl).2; omega
          have HTk3 := Lib.hid htk3
          have HBx3 := Lib.hid ((hgrow.block w.heap.size (by simp; omega) (fun e => by
            rcases hown2 with h6 | ⟨q, h6, h7, _⟩
            · rw [h6] at e; cases e
            · rw [h6] at e; injection e with e; omega)).trans ((hbl.block w.heap.size (by omega)).trans ((HB2.out.block _ lw1).trans HBx1.out)))
          have HBr3 := Lib.hid (((HBr1.out.trans (HB2.out.mono (by omega))).trans (hbl.mono (by omega))).grown hgrow (by simp; omega) (fun q hq => by
            rcases hown2 with h6 | ⟨q', h6, h7, _⟩
            · rw [h6] at hq; cases hq
            · rw [h6] at hq; injection hq with hq; omega))
          clear htk3 hown2 hkeepI hbl hgrow hown3 hat hsz3 hlt3
          go_wp2
          go_roundw
          case rel => exact ⟨1, by omega, by go_num, by first | (show TkAt _ _ _ (addF o1 (decide (2 ≤ far1) || pair) (some f)); rw [HA.out]; exact HTk3.out), HBx3.out, HBr3.out⟩
          case measure => first | decide | (simp [intOf]; done) | (simp [intOf]; omega)
        · have hadd : addF o1 (decide (2 ≤ far1) || pair) none = [] := by unfold addF; rw [HBB.out]; rfl
          have HA := Lib.hid hadd
          have HCl := Lib.hid hcall
          clear hadd hcall
          go_wp2_with fail
          refine (HCl.out _).mono ?_
          rintro e w2 ⟨rfl, hb2⟩
          have HTk2 := Lib.hid (TkAt.below HTk1.out hb2)
          have HTk3 := Lib.hid (TkAt.below HTk2.out (show Below w2.heap.size w2 (w2.alloc (.cells #[.int .i64 0, .int .i64 0, .int .i64 0, .int .i64 0, .int .i64 0, .slice none 0 0] 118)) from (by repeat (first | exact Below.refl _ _ | refine Below.drew ?_ | refine below_drewN ?_ _ | refine Below.alloc ?_ (by simp; try omega) _))))
          have HBr2 := Lib.hid (HBr1.out.trans (hb2.mono (by omega)))
          have HBx2 := Lib.hid ((hb2.block _ lw1).trans HBx1.out)
          have hz2 := hb2.size
          clear hb2 d0 d1' d2' d3 d4 d5
          go_wp2
          go_roundw
          case rel => exact ⟨1, by omega, by go_num, by first | (show TkAt _ _ _ (addF o1 (decide (2 ≤ far1) || pair) none); rw [HA.out]; first | exact HTk3.out | (rw [List.append_nil]; exact HTk3.out)), (Below.heap_alloc _ _ _ (by omega)).trans HBx2.out, HBr2.out.alloc (by omega) _⟩
          case measure => first | decide | (simp [intOf]; done) | (simp [intOf]; omega)
    · have hcc : wr.cell? ⟨cb, 1, none⟩ = some (.iface 183 (.agg #[.string d2, .string s2, .string o2, .int .i64 far2, .bool pair])) := keep_of HC2.out hlt hbr
      have HTk := Lib.hid (show TkAt wr (w.heap.size + 1) u9 (addF o1 (decide (2 ≤ far1) || pair) r1) from htk)
      clear htk hbr
      go_wp2_with fail
      refine (HT2.out _).mono ?_
      rintro e w1 ⟨rfl, hb1⟩
      have HTk1 := Lib.hid (TkAt.below HTk.out hb1)
      have HBr1 := Lib.hid (HBr.out.trans (hb1.mono HBr.out.size))
      have HBx1 := Lib.hid ((hb1.block _ lw).trans hbx.out)
      have d0 := keep_of c0 lw hb1
      have d1' := keep_of c1 lw hb1
      have d2' := keep_of c2 lw hb1
      have d3 := keep_of c3 lw hb1
      have d4 := keep_of c4 lw hb1
      have d5 := keep_of c5 lw hb1
      have lw1 : w.heap.size < w1.heap.size := Nat.lt_of_lt_of_le lw hb1.size
      clear c0 c1 c2 c3 c4 c5 hcc hb1 HTk
      cases hbb : (decide (2 ≤ far2) || pair)
      · have hadd : addF o2 (decide (2 ≤ far2) || pair) r2 = [] := by unfold addF; rw [hbb]; rfl
        have HA := Lib.hid hadd
        clear hadd hbb
        go_wp2
        go_roundw
        case rel => exact ⟨2, by omega, by go_num, by first | (show TkAt _ _ _ (addF o1 (decide (2 ≤ far1) || pair) r1 ++ addF o2 (decide (2 ≤ far2) || pair) r2); rw [HA.out]; first | exact HTk1.out | (rw [List.append_nil]; exact HTk1.out)), HBx1.out, HBr1.out⟩
        case measure => first | decide | (simp [intOf]; done) | (simp [intOf]; omega)
      · have HBB := Lib.hid hbb
        clear hbb
        rcases HR2.out with ⟨f, rfl, hcall⟩ | ⟨rfl, hcall⟩
        · have hadd : addF o2 (decide (2 ≤ far2) || pair) (some f) = [(o2, f)] := by unfold addF; rw [HBB.out]; rfl
          have HA := Lib.hid hadd
          have HCl := Lib.hid hcall
          clear hadd hcall
          go_wp2_with fail
          refine (HCl.out _).mono ?_
          rintro e w2 ⟨EA, EC, rfl, hI2, hEA, hb2⟩
          have htk2 := TkAt.below HTk1.out hb2
          obtain ⟨Tl, hT1, hT2, hT3⟩ := htk2
          have hTl : Tl.length ≤ 1 := by
            have := congrArg List.length hT1
            simp only [List.length_map] at this
            rw [this]
            unfold addF; split; (split <;> simp); simp
          have HT2' := Lib.hid hT2
          have HT3 := Lib.hid hT3
          have HT1' := Lib.hid hT1
          have HI2 := Lib.hid hI2
          have HEA := Lib.hid hEA
          have HB2 := Lib.hid hb2
          have hz12 := hb2.size
          clear hT1 hT2 hT3 hI2 hEA hb2 d0 d1' d2' d3 d4 d5
          go_wp2_with (at_builtin; refine wpList_append_lies _ rfl _ _ _ rfl (w.heap.size + 1) 185 i0 (.agg #[.string ⟨#[]⟩, .int .i64 0, .int .i64 0, .int .i64 0, .int .i64 0, .int .i64 0, .slice none 0 0]) 7 80 Tryz.underlying180 HI.out HZ.out.1 HZ.out.2.1 HZ.out.2.2 rfl (by omega) _ Tl.length (tkCells Tl) rfl ((HT2'.out.alloc _).alloc _) ⟨w2.heap.size + 1, 0, none⟩ 1 1 [.string o2, .int .i64 f.kind, .int .i64 f.round, .int .i64 f.slot, .int .i64 f.pk, .int .i64 f.pv, .slice EA f.echo.length EC] rfl rfl (World.news_of_block (cs := #[.string o2, .int .i64 f.kind, .int .i64 f.round, .int .i64 f.slot, .int .i64 f.pk, .int .i64 f.pv, .slice EA f.echo.length EC]) (t := 185) (fr := (0, 0)) (by have := heap_alloc_new (w2.alloc (.cells #[.int .i64 f.kind, .int .i64 f.round, .int .i64 f.slot, .int .i64 f.pk, .int .i64 f.pv, .slice EA f.echo.length EC] 118)) (.cells #[.string o2, .int .i64 f.kind, .int .i64 f.round, .int .i64 f.slot, .int .i64 f.pk, .int .i64 f.pv, .slice EA f.echo.length EC] 185); simpa using this)) (by simp [Value.oneCell']) (by omega) (by unfold maxLen; omega) (by omega) (by simp; omega) (w2.heap.size + 1 + 1) (by simp) ?_)
          intro gg cap w3 hown3 hgrow hat hlt3
          have hbl : Below w2.heap.size w2 ((w2.alloc (.cells #[.int .i64 f.kind, .int .i64 f.round, .int .i64 f.slot, .int .i64 f.pk, .int .i64 f.pv, .slice EA f.echo.length EC] 118)).alloc (.cells #[.string o2, .int .i64 f.kind, .int .i64 f.round, .int .i64 f.slot, .int .i64 f.pk, .int .i64 f.pv, .slice EA f.echo.length EC] 185)) := (by repeat (first | exact Below.refl _ _ | refine Below.drew ?_ | refine below_drewN ?_ _ | refine Below.alloc ?_ (by simp; try omega) _))
          have hkeepI : ∀ (A : Option Addr) (l : List (Nat × Nat)), Items w2 A l → (∀ b off, A = some ⟨b, off, none⟩ → 0 < l.length → u9.ownBlock ≠ some b) → Items w3 A l := by
            intro A l hI hne q hq
            obtain ⟨b, off, e, h1, h2, h3⟩ := (hI.below hbl) q hq
            have hn := hne b off e (by omega)
            have hbb : w3.heap[b]? = _ := hgrow.block b h1 (fun e' => hn e'.symm)
            exact ⟨b, off, e, Nat.lt_of_lt_of_le h1 hgrow.size, (World.cell?_of_block (a := ⟨b, off + q * 2, none⟩) hbb).trans h2, (World.cell?_of_block (a := ⟨b, off + q * 2 + 1, none⟩) hbb).trans h3⟩
          have hsz3 := hgrow.size
          simp at hsz3
          have hown2 : u9.ownBlock = none ∨ ∃ q, u9.ownBlock = some q ∧ w.heap.size + 1 ≤ q ∧ q < w1.heap.size := by
            rcases hv : u9.ownBlock with _ | q
            · exact .inl rfl
            · exact .inr ⟨q, rfl, ownsRow_block HT2'.out hv, by
                obtain ⟨Tq, _, hq2, _⟩ := HTk1.out
                exact (World.ownsRow.lt hq2 _ hv).2⟩
          have htk3 : TkAt w3 (w.heap.size + 1) (.slice (some ⟨gg, 0, none⟩) (Tl.length + 1) cap) ((addF o1 (decide (2 ≤ far1) || pair) r1) ++ [(o2, f)]) := by
            refine ⟨Tl ++ [⟨o2, f, EA, EC⟩], ?_, ?_, ?_⟩
            · rw [List.map_append, HT1'.out]; rfl
            · rw [List.length_append, tkCells_append]; exact hown3
            · intro t ht
              rcases List.mem_append.1 ht with ht | ht
              · obtain ⟨hi, hb⟩ := HT3.out t ht
                refine ⟨hkeepI _ _ hi (fun b off e hl => (hb b off e hl).1), fun b off e hl => ⟨?_, by have := (hb b off e hl).2.1; omega, (hb b off e hl).2.2⟩⟩
                have h5 := (hb b off e hl).1
                have h6 := (hb b off e hl).2.1
                show some gg ≠ some b
                rcases hat with h7 | h7
                · rw [← h7]; exact h5
                · intro h8; injection h8 with h8; omega
              · rw [List.mem_singleton] at ht
                subst ht
                have hbe : ∀ b off, EA = some ⟨b, off, none⟩ → 0 < f.echo.length → w1.heap.size ≤ b ∧ b < w2.heap.size := fun b off e hl => by
                  have h5 := HEA.out b off e
                  obtain ⟨b', off', e', hb', _⟩ := HI2.out 0 hl
                  rw [e] at e'
                  cases e'
                  exact ⟨h5, hb'⟩
                have hne2 : ∀ b off, EA = some ⟨b, off, none⟩ → 0 < f.echo.length → u9.ownBlock ≠ some b := fun b off e hl => by
                  have h5 := (hbe b off e hl).1
                  rcases hown2 with h6 | ⟨q, h6, _, h7⟩
                  · rw [h6]; simp
                  · rw [h6]; intro h8; injection h8 with h8; omega
                refine ⟨hkeepI _ _ HI2.out hne2, fun b off e hl => ⟨?_, by have := (hbe b off e hl).2; omega, by have := (hbe b off e hl).1; omega⟩⟩
                show some gg ≠ some b
                intro h8
                injection h8 with h8
                rcases hat with h7 | h7
                · exact hne2 b off e hl (by rw [h7, h8])
                · have := (hbe b off e hl).2; omega
          have HTk3 := Lib.hid htk3
          have HBx3 := Lib.hid ((hgrow.block w.heap.size (by simp; omega) (fun e => by
            rcases hown2 with h6 | ⟨q, h6, h7, _⟩
            · rw [h6] at e; cases e
            · rw [h6] at e; injection e with e; omega)).trans ((hbl.block w.heap.size (by omega)).trans ((HB2.out.block _ lw1).trans HBx1.out)))
          have HBr3 := Lib.hid (((HBr1.out.trans (HB2.out.mono (by omega))).trans (hbl.mono (by omega))).grown hgrow (by simp; omega) (fun q hq => by
            rcases hown2 with h6 | ⟨q', h6, h7, _⟩
            · rw [h6] at hq; cases hq
            · rw [h6] at hq; injection hq with hq; omega))
          clear htk3 hown2 hkeepI hbl hgrow hown3 hat hsz3 hlt3
          go_wp2
          go_roundw
          case rel => exact ⟨2, by omega, by go_num, by first | (show TkAt _ _ _ (addF o1 (decide (2 ≤ far1) || pair) r1 ++ addF o2 (decide (2 ≤ far2) || pair) (some f)); rw [HA.out]; exact HTk3.out), HBx3.out, HBr3.out⟩
          case measure => first | decide | (simp [intOf]; done) | (simp [intOf]; omega)
        · have hadd : addF o2 (decide (2 ≤ far2) || pair) none = [] := by unfold addF; rw [HBB.out]; rfl
          have HA := Lib.hid hadd
          have HCl := Lib.hid hcall
          clear hadd hcall
          go_wp2_with fail
          refine (HCl.out _).mono ?_
          rintro e w2 ⟨rfl, hb2⟩
          have HTk2 := Lib.hid (TkAt.below HTk1.out hb2)
          have HTk3 := Lib.hid (TkAt.below HTk2.out (show Below w2.heap.size w2 (w2.alloc (.cells #[.int .i64 0, .int .i64 0, .int .i64 0, .int .i64 0, .int .i64 0, .slice none 0 0] 118)) from (by repeat (first | exact Below.refl _ _ | refine Below.drew ?_ | refine below_drewN ?_ _ | refine Below.alloc ?_ (by simp; try omega) _))))
          have HBr2 := Lib.hid (HBr1.out.trans (hb2.mono (by omega)))
          have HBx2 := Lib.hid ((hb2.block _ lw1).trans HBx1.out)
          have hz2 := hb2.size
          clear hb2 d0 d1' d2' d3 d4 d5
          go_wp2
          go_roundw
          case rel => exact ⟨2, by omega, by go_num, by first | (show TkAt _ _ _ (addF o1 (decide (2 ≤ far1) || pair) r1 ++ addF o2 (decide (2 ≤ far2) || pair) none); rw [HA.out]; first | exact HTk3.out | (rw [List.append_nil]; exact HTk3.out)), (Below.heap_alloc _ _ _ (by omega)).trans HBx2.out, HBr2.out.alloc (by omega) _⟩
          case measure => first | decide | (simp [intOf]; done) | (simp [intOf]; omega)
    · clear hbr
      go_wp2
      go_ret
      exact ⟨_, rfl, TkAt.mono htk (by omega), HBr.out⟩
theorem nil_direct (d s o : ByteArray) (far : Int) (pair : Bool) (w : World) : (nilAhead 454 187 (.agg #[.string d, .string s, .string o, .int .i64 far, .bool pair]) "plaiting/arb.text").run Tryz.prog w = .ok (some false) w := by kernel_rfl
theorem m_direct (d s o : ByteArray) (far : Int) (pair : Bool) (w : World) : (method 454 187 (.agg #[.string d, .string s, .string o, .int .i64 far, .bool pair]) "plaiting/arb.text").run Tryz.prog w = .ok (262, .agg #[.string d, .string s, .string o, .int .i64 far, .bool pair]) w := by kernel_rfl
set_option maxRecDepth 100000 in
set_option maxHeartbeats 4000000 in
theorem rights_direct (N : Nat) (Pi Er G Fi : Int) (PA : Option Addr) (PL PC : Nat) (round slot : Int) (cb : Nat) (d1 s1 o1 d2 s2 o2 : ByteArray) (far1 far2 : Int) (pair : Bool) (r1 r2 : Option Fr) (w : World)
    (hN : N ≤ 12) (hP : PL ≤ 3) (hFi : 0 ≤ Fi) (hFi2 : Fi ≤ 65535) (hr : 0 ≤ round) (hr2 : round ≤ 1000) (hf1 : 1 ≤ far1) (hf2 : 1 ≤ far2)
    (h1 : SortIs N PL ((Fi + round) % 65536) slot d1 r1) (h2 : SortIs N PL ((Fi + round) % 65536) slot d2 r2)
    (hc1 : w.cell? ⟨cb, 0, none⟩ = some (.iface 187 (.agg #[.string d1, .string s1, .string o1, .int .i64 far1, .bool pair]))) (hc2 : w.cell? ⟨cb, 1, none⟩ = some (.iface 187 (.agg #[.string d2, .string s2, .string o2, .int .i64 far2, .bool pair]))) :
    Calls Tryz.prog 109 #[.agg #[.int .i64 N, .int .i64 Pi, .int .i64 Er, .int .i64 G, .int .i64 Fi, .slice PA PL PC], .int .i64 round, .int .i64 slot, .slice (some ⟨cb, 0, none⟩) 2 2] w (RetTk (addF d1 (decide (far1 = 1) && !pair) r1 ++ addF d2 (decide (far2 = 1) && !pair) r2) w) := by
  have hlt := World.block_lt_of_cell? w _ hc1
  have HC1 := Lib.hid hc1
  have HC2 := Lib.hid hc2
  have HT1 := Lib.hid (fun w => direct_text d1 s1 o1 far1 pair w hf1)
  have HT2 := Lib.hid (fun w => direct_text d2 s2 o2 far2 pair w hf2)
  have HN1 := nil_direct d1 s1 o1 far1 pair
  have HM1 := m_direct d1 s1 o1 far1 pair
  have HN2 := nil_direct d2 s2 o2 far2 pair
  have HM2 := m_direct d2 s2 o2 far2 pair
  have hR : ∀ (t : ByteArray) (r : Option Fr), SortIs N PL ((Fi + round) % 65536) slot t r → (∃ f, r = some f ∧ ∀ w, Calls Tryz.prog 153 #[.agg #[.int .i64 N, .int .i64 Pi, .int .i64 Er, .int .i64 G, .int .i64 Fi, .slice PA PL PC], .int .i64 round, .int .i64 slot, .string t] w (RetOk f w)) ∨ (r = none ∧ ∀ w, Calls Tryz.prog 153 #[.agg #[.int .i64 N, .int .i64 Pi, .int .i64 Er, .int .i64 G, .int .i64 Fi, .slice PA PL PC], .int .i64 round, .int .i64 slot, .string t] w fun e w' => e = .returned (.tuple #[.agg #[.int .i64 0, .int .i64 0, .int .i64 0, .int .i64 0, .int .i64 0, .slice none 0 0], .bool false]) ∧ Below w.heap.size w w') := by
    intro t r h
    cases r with
    | none => exact .inr ⟨rfl, fun w => Right_no N Pi Er G Fi PA PL PC round slot t w h.1 h.2⟩
    | some f =>
      obtain ⟨rfl, hf, hw, hs⟩ := h
      refine .inl ⟨f, rfl, fun w => ?_⟩
      rw [← hs]
      exact Right_yes N Pi Er G Fi PA PL PC round f w hf hN hP hFi hFi2 hr hr2 hw
  have HR1 := Lib.hid (hR _ _ h1)
  have HR2 := Lib.hid (hR _ _ h2)
  have hX1 : ∀ r, SortIs N PL ((Fi + round) % 65536) slot d1 r → True := fun _ _ => trivial
  obtain ⟨i0, hi0, hz0, hz1, hz2⟩ := info_parts info185
  have HI := Lib.hid hi0
  have HZ := Lib.hid (And.intro hz0 (And.intro hz1 hz2))
  clear h1 h2 hR hX1 hc1 hc2 hi0 hz0 hz1 hz2
  go_enter Tryz.func109, Tryz.ntmps109
  have hbx : (w.alloc (.cells #[.int .i64 N, .int .i64 Pi, .int .i64 Er, .int .i64 G, .int .i64 Fi, .slice PA PL PC] 24)).heap[w.heap.size]? = some (.cells #[.int .i64 N, .int .i64 Pi, .int .i64 Er, .int .i64 G, .int .i64 Fi, .slice PA PL PC] 24 (0, 0)) := heap_alloc_new w _
  have HBX := Lib.hid hbx
  clear hbx
  go_wp2
  go_loopw [9, 18] (fun v t wr => ∃ k : Nat, k ≤ 2 ∧ t = .int .i64 k ∧ TkAt wr (w.heap.size + 1) v (match k with | 0 => [] | 1 => addF d1 (decide (far1 = 1) && !pair) r1 | _ => addF d1 (decide (far1 = 1) && !pair) r1 ++ addF d2 (decide (far2 = 1) && !pair) r2) ∧ Hid (wr.heap[w.heap.size]? = some (.cells #[.int .i64 N, .int .i64 Pi, .int .i64 Er, .int .i64 G, .int .i64 Fi, .slice PA PL PC] 24 (0, 0))) ∧ Below w.heap.size w wr) (fun _ t _ => 2 - (intOf t).toNat)
  case atStart => exact ⟨0, by omega, rfl, ⟨[], rfl, World.ownsRow_nil _ _ _ _, fun t ht => by cases ht⟩, HBX.out, (Below.refl _ _).alloc (Nat.le_refl _) _⟩
  case round =>
    obtain ⟨k, hk, rfl, htk, hbx, hbr⟩ := hrel
    clear HBX
    have c0 : wr.cell? ⟨w.heap.size, 0, none⟩ = some (.int .i64 N) := by simp [World.cell?, hbx.out]
    have c1 : wr.cell? ⟨w.heap.size, 1, none⟩ = some (.int .i64 Pi) := by simp [World.cell?, hbx.out]
    have c2 : wr.cell? ⟨w.heap.size, 2, none⟩ = some (.int .i64 Er) := by simp [World.cell?, hbx.out]
    have c3 : wr.cell? ⟨w.heap.size, 3, none⟩ = some (.int .i64 G) := by simp [World.cell?, hbx.out]
    have c4 : wr.cell? ⟨w.heap.size, 4, none⟩ = some (.int .i64 Fi) := by simp [World.cell?, hbx.out]
    have c5 : wr.cell? ⟨w.heap.size, 5, none⟩ = some (.slice PA PL PC) := by simp [World.cell?, hbx.out]
    have lw : w.heap.size < wr.heap.size := World.block_lt_of_cell? wr _ c0
    have HBr := Lib.hid hbr
    have k01 : k = 0 ∨ k = 1 ∨ k = 2 := by omega
    rcases k01 with rfl | rfl | rfl
    · have hcc : wr.cell? ⟨cb, 0, none⟩ = some (.iface 187 (.agg #[.string d1, .string s1, .string o1, .int .i64 far1, .bool pair])) := keep_of HC1.out hlt hbr
      have HTk := Lib.hid (show TkAt wr (w.heap.size + 1) u9 [] from htk)
      clear htk hbr
      go_wp2_with fail
      refine (HT1.out _).mono ?_
      rintro e w1 ⟨rfl, hb1⟩
      have HTk1 := Lib.hid (TkAt.below HTk.out hb1)
      have HBr1 := Lib.hid (HBr.out.trans (hb1.mono HBr.out.size))
      have HBx1 := Lib.hid ((hb1.block _ lw).trans hbx.out)
      have d0 := keep_of c0 lw hb1
      have d1' := keep_of c1 lw hb1
      have d2' := keep_of c2 lw hb1
      have d3 := keep_of c3 lw hb1
      have d4 := keep_of c4 lw hb1
      have d5 := keep_of c5 lw hb1
      have lw1 : w.heap.size < w1.heap.size := Nat.lt_of_lt_of_le lw hb1.size
      clear c0 c1 c2 c3 c4 c5 hcc hb1 HTk
      cases hbb : (decide (far1 = 1) && !pair)
      · have hadd : addF d1 (decide (far1 = 1) && !pair) r1 = [] := by unfold addF; rw [hbb]; rfl
        have HA := Lib.hid hadd
        clear hadd hbb
        go_wp2
        go_roundw
        case rel => exact ⟨1, by omega, by go_num, by first | (show TkAt _ _ _ (addF d1 (decide (far1 = 1) && !pair) r1); rw [HA.out]; first | exact HTk1.out | (rw [List.append_nil]; exact HTk1.out)), HBx1.out, HBr1.out⟩
        case measure => first | decide | (simp [intOf]; done) | (simp [intOf]; omega)
      · have HBB := Lib.hid hbb
        clear hbb
        rcases HR1.out with ⟨f, rfl, hcall⟩ | ⟨rfl, hcall⟩
        · have hadd : addF d1 (decide (far1 = 1) && !pair) (some f) = [(d1, f)] := by unfold addF; rw [HBB.out]; rfl
          have HA := Lib.hid hadd
          have HCl := Lib.hid hcall
          clear hadd hcall
          go_wp2_with fail
          refine (HCl.out _).mono ?_
          rintro e w2 ⟨EA, EC, rfl, hI2, hEA, hb2⟩
          have htk2 := TkAt.below HTk1.out hb2
          obtain ⟨Tl, hT1, hT2, hT3⟩ := htk2
          have hTl : Tl.length ≤ 1 := by
            have := congrArg List.length hT1
            simp only [List.length_map] at this
            rw [this]
            simp
          have HT2' := Lib.hid hT2
          have HT3 := Lib.hid hT3
          have HT1' := Lib.hid hT1
          have HI2 := Lib.hid hI2
          have HEA := Lib.hid hEA
          have HB2 := Lib.hid hb2
          have hz12 := hb2.size
          clear hT1 hT2 hT3 hI2 hEA hb2 d0 d1' d2' d3 d4 d5
          go_wp2_with (at_builtin; refine wpList_append_lies _ rfl _ _ _ rfl (w.heap.size + 1) 185 i0 (.agg #[.string ⟨#[]⟩, .int .i64 0, .int .i64 0, .int .i64 0, .int .i64 0, .int .i64 0, .slice none 0 0]) 7 80 Tryz.underlying180 HI.out HZ.out.1 HZ.out.2.1 HZ.out.2.2 rfl (by omega) _ Tl.length (tkCells Tl) rfl ((HT2'.out.alloc _).alloc _) ⟨w2.heap.size + 1, 0, none⟩ 1 1 [.string d1, .int .i64 f.kind, .int .i64 f.round, .int .i64 f.slot, .int .i64 f.pk, .int .i64 f.pv, .slice EA f.echo.length EC] rfl rfl (World.news_of_block (cs := #[.string d1, .int .i64 f.kind, .int .i64 f.round, .int .i64 f.slot, .int .i64 f.pk, .int .i64 f.pv, .slice EA f.echo.length EC]) (t := 185) (fr := (0, 0)) (by have := heap_alloc_new (w2.alloc (.cells #[.int .i64 f.kind, .int .i64 f.round, .int .i64 f.slot, .int .i64 f.pk, .int .i64 f.pv, .slice EA f.echo.length EC] 118)) (.cells #[.string d1, .int .i64 f.kind, .int .i64 f.round, .int .i64 f.slot, .int .i64 f.pk, .int .i64 f.pv, .slice EA f.echo.length EC] 185); simpa using this)) (by simp [Value.oneCell']) (by omega) (by unfold maxLen; omega) (by omega) (by simp; omega) (w2.heap.size + 1 + 1) (by simp) ?_)
          intro gg cap w3 hown3 hgrow hat hlt3
          have hbl : Below w2.heap.size w2 ((w2.alloc (.cells #[.int .i64 f.kind, .int .i64 f.round, .int .i64 f.slot, .int .i64 f.pk, .int .i64 f.pv, .slice EA f.echo.length EC] 118)).alloc (.cells #[.string d1, .int .i64 f.kind, .int .i64 f.round, .int .i64 f.slot, .int .i64 f.pk, .int .i64 f.pv, .slice EA f.echo.length EC] 185)) := (by repeat (first | exact Below.refl _ _ | refine Below.drew ?_ | refine below_drewN ?_ _ | refine Below.alloc ?_ (by simp; try omega) _))
          have hkeepI : ∀ (A : Option Addr) (l : List (Nat × Nat)), Items w2 A l → (∀ b off, A = some ⟨b, off, none⟩ → 0 < l.length → u9.ownBlock ≠ some b) → Items w3 A l := by
            intro A l hI hne q hq
            obtain ⟨b, off, e, h1, h2, h3⟩ := (hI.below hbl) q hq
            have hn := hne b off e (by omega)
            have hbb : w3.heap[b]? = _ := hgrow.block b h1 (fun e' => hn e'.symm)
            exact ⟨b, off, e, Nat.lt_of_lt_of_le h1 hgrow.size, (World.cell?_of_block (a := ⟨b, off + q * 2, none⟩) hbb).trans h2, (World.cell?_of_block (a := ⟨b, off + q * 2 + 1, none⟩) hbb).trans h3⟩
          have hsz3 := hgrow.size
          simp at hsz3
          have hown2 : u9.ownBlock = none ∨ ∃ q, u9.ownBlock = some q ∧ w.heap.size + 1 ≤ q ∧ q < w1.heap.size := by
            rcases hv : u9.ownBlock with _ | q
            · exact .inl rfl
            · exact .inr ⟨q, rfl, ownsRow_block HT2'.out hv, by
                obtain ⟨Tq, _, hq2, _⟩ := HTk1.out
                exact (World.ownsRow.lt hq2 _ hv).2⟩
          have htk3 : TkAt w3 (w.heap.size + 1) (.slice (some ⟨gg, 0, none⟩) (Tl.length + 1) cap) ([] ++ [(d1, f)]) := by
            refine ⟨Tl ++ [⟨d1, f, EA, EC⟩], ?_, ?_, ?_⟩
            · rw [List.map_append, HT1'.out]; rfl
            · rw [List.length_append, tkCells_append]; exact hown3
            · intro t ht
              rcases List.mem_append.1 ht with ht | ht
              · obtain ⟨hi, hb⟩ := HT3.out t ht
                refine ⟨hkeepI _ _ hi (fun b off e hl => (hb b off e hl).1), fun b off e hl => ⟨?_, by have := (hb b off e hl).2.1; omega, (hb b off e hl).2.2⟩⟩
                have h5 := (hb b off e hl).1
                have h6 := (hb b off e hl).2.1
                show some gg ≠ some b
                rcases hat with h7 | h7
                · rw [← h7]; exact h5
                · intro h8; injection h8 with h8; omega
              · rw [List.mem_singleton] at ht
                subst ht
                have hbe : ∀ b off, EA = some ⟨b, off, none⟩ → 0 < f.echo.length → w1.heap.size ≤ b ∧ b < w2.heap.size := fun b off e hl => by
                  have h5 := HEA.out b off e
                  obtain ⟨b', off', e', hb', _⟩ := HI2.out 0 hl
                  rw [e] at e'
                  cases e'
                  exact ⟨h5, hb'⟩
                have hne2 : ∀ b off, EA = some ⟨b, off, none⟩ → 0 < f.echo.length → u9.ownBlock ≠ some b := fun b off e hl => by
                  have h5 := (hbe b off e hl).1
                  rcases hown2 with h6 | ⟨q, h6, _, h7⟩
                  · rw [h6]; simp
                  · rw [h6]; intro h8; injection h8 with h8; omega
                refine ⟨hkeepI _ _ HI2.out hne2, fun b off e hl => ⟨?_, by have := (hbe b off e hl).2; omega, by have := (hbe b off e hl).1; omega⟩⟩
                show some gg ≠ some b
                intro h8
                injection h8 with h8
                rcases hat with h7 | h7
                · exact hne2 b off e hl (by rw [h7, h8])
                · have := (hbe b off e hl).2; omega
          have HTk3 := Lib.hid htk3
          have HBx3 := Lib.hid ((hgrow.block w.heap.size (by simp; omega) (fun e => by
            rcases hown2 with h6 | ⟨q, h6, h7, _⟩
            · rw [h6] at e; cases e
            · rw [h6] at e; injection e with e; omega)).trans ((hbl.block w.heap.size (by omega)).trans ((HB2.out.block _ lw1).trans HBx1.out)))
          have HBr3 := Lib.hid (((HBr1.out.trans (HB2.out.mono (by omega))).trans (hbl.mono (by omega))).grown hgrow (by simp; omega) (fun q hq => by
            rcases hown2 with h6 | ⟨q', h6, h7, _⟩
            · rw [h6] at hq; cases hq
            · rw [h6] at hq; injection hq with hq; omega))
          clear htk3 hown2 hkeepI hbl hgrow hown3 hat hsz3 hlt3
          go_wp2
          go_roundw
          case rel => exact ⟨1, by omega, by go_num, by first | (show TkAt _ _ _ (addF d1 (decide (far1 = 1) && !pair) (some f)); rw [HA.out]; exact HTk3.out), HBx3.out, HBr3.out⟩
          case measure => first | decide | (simp [intOf]; done) | (simp [intOf]; omega)
        · have hadd : addF d1 (decide (far1 = 1) && !pair) none = [] := by unfold addF; rw [HBB.out]; rfl
          have HA := Lib.hid hadd
          have HCl := Lib.hid hcall
          clear hadd hcall
          go_wp2_with fail
          refine (HCl.out _).mono ?_
          rintro e w2 ⟨rfl, hb2⟩
          have HTk2 := Lib.hid (TkAt.below HTk1.out hb2)
          have HTk3 := Lib.hid (TkAt.below HTk2.out (show Below w2.heap.size w2 (w2.alloc (.cells #[.int .i64 0, .int .i64 0, .int .i64 0, .int .i64 0, .int .i64 0, .slice none 0 0] 118)) from (by repeat (first | exact Below.refl _ _ | refine Below.drew ?_ | refine below_drewN ?_ _ | refine Below.alloc ?_ (by simp; try omega) _))))
          have HBr2 := Lib.hid (HBr1.out.trans (hb2.mono (by omega)))
          have HBx2 := Lib.hid ((hb2.block _ lw1).trans HBx1.out)
          have hz2 := hb2.size
          clear hb2 d0 d1' d2' d3 d4 d5
          go_wp2
          go_roundw
          case rel => exact ⟨1, by omega, by go_num, by first | (show TkAt _ _ _ (addF d1 (decide (far1 = 1) && !pair) none); rw [HA.out]; first | exact HTk3.out | (rw [List.append_nil]; exact HTk3.out)), (Below.heap_alloc _ _ _ (by omega)).trans HBx2.out, HBr2.out.alloc (by omega) _⟩
          case measure => first | decide | (simp [intOf]; done) | (simp [intOf]; omega)
    · have hcc : wr.cell? ⟨cb, 1, none⟩ = some (.iface 187 (.agg #[.string d2, .string s2, .string o2, .int .i64 far2, .bool pair])) := keep_of HC2.out hlt hbr
      have HTk := Lib.hid (show TkAt wr (w.heap.size + 1) u9 (addF d1 (decide (far1 = 1) && !pair) r1) from htk)
      clear htk hbr
      go_wp2_with fail
      refine (HT2.out _).mono ?_
      rintro e w1 ⟨rfl, hb1⟩
      have HTk1 := Lib.hid (TkAt.below HTk.out hb1)
      have HBr1 := Lib.hid (HBr.out.trans (hb1.mono HBr.out.size))
      have HBx1 := Lib.hid ((hb1.block _ lw).trans hbx.out)
      have d0 := keep_of c0 lw hb1
      have d1' := keep_of c1 lw hb1
      have d2' := keep_of c2 lw hb1
      have d3 := keep_of c3 lw hb1
      have d4 := keep_of c4 lw hb1
      have d5 := keep_of c5 lw hb1
      have lw1 : w.heap.size < w1.heap.size := Nat.lt_of_lt_of_le lw hb1.size
      clear c0 c1 c2 c3 c4 c5 hcc hb1 HTk
      cases hbb : (decide (far2 = 1) && !pair)
      · have hadd : addF d2 (decide (far2 = 1) && !pair) r2 = [] := by unfold addF; rw [hbb]; rfl
        have HA := Lib.hid hadd
        clear hadd hbb
        go_wp2
        go_roundw
        case rel => exact ⟨2, by omega, by go_num, by first | (show TkAt _ _ _ (addF d1 (decide (far1 = 1) && !pair) r1 ++ addF d2 (decide (far2 = 1) && !pair) r2); rw [HA.out]; first | exact HTk1.out | (rw [List.append_nil]; exact HTk1.out)), HBx1.out, HBr1.out⟩
        case measure => first | decide | (simp [intOf]; done) | (simp [intOf]; omega)
      · have HBB := Lib.hid hbb
        clear hbb
        rcases HR2.out with ⟨f, rfl, hcall⟩ | ⟨rfl, hcall⟩
        · have hadd : addF d2 (decide (far2 = 1) && !pair) (some f) = [(d2, f)] := by unfold addF; rw [HBB.out]; rfl
          have HA := Lib.hid hadd
          have HCl := Lib.hid hcall
          clear hadd hcall
          go_wp2_with fail
          refine (HCl.out _).mono ?_
          rintro e w2 ⟨EA, EC, rfl, hI2, hEA, hb2⟩
          have htk2 := TkAt.below HTk1.out hb2
          obtain ⟨Tl, hT1, hT2, hT3⟩ := htk2
          have hTl : Tl.length ≤ 1 := by
            have := congrArg List.length hT1
            simp only [List.length_map] at this
            rw [this]
            unfold addF; split; (split <;> simp); simp
          have HT2' := Lib.hid hT2
          have HT3 := Lib.hid hT3
          have HT1' := Lib.hid hT1
          have HI2 := Lib.hid hI2
          have HEA := Lib.hid hEA
          have HB2 := Lib.hid hb2
          have hz12 := hb2.size
          clear hT1 hT2 hT3 hI2 hEA hb2 d0 d1' d2' d3 d4 d5
          go_wp2_with (at_builtin; refine wpList_append_lies _ rfl _ _ _ rfl (w.heap.size + 1) 185 i0 (.agg #[.string ⟨#[]⟩, .int .i64 0, .int .i64 0, .int .i64 0, .int .i64 0, .int .i64 0, .slice none 0 0]) 7 80 Tryz.underlying180 HI.out HZ.out.1 HZ.out.2.1 HZ.out.2.2 rfl (by omega) _ Tl.length (tkCells Tl) rfl ((HT2'.out.alloc _).alloc _) ⟨w2.heap.size + 1, 0, none⟩ 1 1 [.string d2, .int .i64 f.kind, .int .i64 f.round, .int .i64 f.slot, .int .i64 f.pk, .int .i64 f.pv, .slice EA f.echo.length EC] rfl rfl (World.news_of_block (cs := #[.string d2, .int .i64 f.kind, .int .i64 f.round, .int .i64 f.slot, .int .i64 f.pk, .int .i64 f.pv, .slice EA f.echo.length EC]) (t := 185) (fr := (0, 0)) (by have := heap_alloc_new (w2.alloc (.cells #[.int .i64 f.kind, .int .i64 f.round, .int .i64 f.slot, .int .i64 f.pk, .int .i64 f.pv, .slice EA f.echo.length EC] 118)) (.cells #[.string d2, .int .i64 f.kind, .int .i64 f.round, .int .i64 f.slot, .int .i64 f.pk, .int .i64 f.pv, .slice EA f.echo.length EC] 185); simpa using this)) (by simp [Value.oneCell']) (by omega) (by unfold maxLen; omega) (by omega) (by simp; omega) (w2.heap.size + 1 + 1) (by simp) ?_)
          intro gg cap w3 hown3 hgrow hat hlt3
          have hbl : Below w2.heap.size w2 ((w2.alloc (.cells #[.int .i64 f.kind, .int .i64 f.round, .int .i64 f.slot, .int .i64 f.pk, .int .i64 f.pv, .slice EA f.echo.length EC] 118)).alloc (.cells #[.string d2, .int .i64 f.kind, .int .i64 f.round, .int .i64 f.slot, .int .i64 f.pk, .int .i64 f.pv, .slice EA f.echo.length EC] 185)) := (by repeat (first | exact Below.refl _ _ | refine Below.drew ?_ | refine below_drewN ?_ _ | refine Below.alloc ?_ (by simp; try omega) _))
          have hkeepI : ∀ (A : Option Addr) (l : List (Nat × Nat)), Items w2 A l → (∀ b off, A = some ⟨b, off, none⟩ → 0 < l.length → u9.ownBlock ≠ some b) → Items w3 A l := by
            intro A l hI hne q hq
            obtain ⟨b, off, e, h1, h2, h3⟩ := (hI.below hbl) q hq
            have hn := hne b off e (by omega)
            have hbb : w3.heap[b]? = _ := hgrow.block b h1 (fun e' => hn e'.symm)
            exact ⟨b, off, e, Nat.lt_of_lt_of_le h1 hgrow.size, (World.cell?_of_block (a := ⟨b, off + q * 2, none⟩) hbb).trans h2, (World.cell?_of_block (a := ⟨b, off + q * 2 + 1, none⟩) hbb).trans h3⟩
          have hsz3 := hgrow.size
          simp at hsz3
          have hown2 : u9.ownBlock = none ∨ ∃ q, u9.ownBlock = some q ∧ w.heap.size + 1 ≤ q ∧ q < w1.heap.size := by
            rcases hv : u9.ownBlock with _ | q
            · exact .inl rfl
            · exact .inr ⟨q, rfl, ownsRow_block HT2'.out hv, by
                obtain ⟨Tq, _, hq2, _⟩ := HTk1.out
                exact (World.ownsRow.lt hq2 _ hv).2⟩
          have htk3 : TkAt w3 (w.heap.size + 1) (.slice (some ⟨gg, 0, none⟩) (Tl.length + 1) cap) ((addF d1 (decide (far1 = 1) && !pair) r1) ++ [(d2, f)]) := by
            refine ⟨Tl ++ [⟨d2, f, EA, EC⟩], ?_, ?_, ?_⟩
            · rw [List.map_append, HT1'.out]; rfl
            · rw [List.length_append, tkCells_append]; exact hown3
            · intro t ht
              rcases List.mem_append.1 ht with ht | ht
              · obtain ⟨hi, hb⟩ := HT3.out t ht
                refine ⟨hkeepI _ _ hi (fun b off e hl => (hb b off e hl).1), fun b off e hl => ⟨?_, by have := (hb b off e hl).2.1; omega, (hb b off e hl).2.2⟩⟩
                have h5 := (hb b off e hl).1
                have h6 := (hb b off e hl).2.1
                show some gg ≠ some b
                rcases hat with h7 | h7
                · rw [← h7]; exact h5
                · intro h8; injection h8 with h8; omega
              · rw [List.mem_singleton] at ht
                subst ht
                have hbe : ∀ b off, EA = some ⟨b, off, none⟩ → 0 < f.echo.length → w1.heap.size ≤ b ∧ b < w2.heap.size := fun b off e hl => by
                  have h5 := HEA.out b off e
                  obtain ⟨b', off', e', hb', _⟩ := HI2.out 0 hl
                  rw [e] at e'
                  cases e'
                  exact ⟨h5, hb'⟩
                have hne2 : ∀ b off, EA = some ⟨b, off, none⟩ → 0 < f.echo.length → u9.ownBlock ≠ some b := fun b off e hl => by
                  have h5 := (hbe b off e hl).1
                  rcases hown2 with h6 | ⟨q, h6, _, h7⟩
                  · rw [h6]; simp
                  · rw [h6]; intro h8; injection h8 with h8; omega
                refine ⟨hkeepI _ _ HI2.out hne2, fun b off e hl => ⟨?_, by have := (hbe b off e hl).2; omega, by have := (hbe b off e hl).1; omega⟩⟩
                show some gg ≠ some b
                intro h8
                injection h8 with h8
                rcases hat with h7 | h7
                · exact hne2 b off e hl (by rw [h7, h8])
                · have := (hbe b off e hl).2; omega
          have HTk3 := Lib.hid htk3
          have HBx3 := Lib.hid ((hgrow.block w.heap.size (by simp; omega) (fun e => by
            rcases hown2 with h6 | ⟨q, h6, h7, _⟩
            · rw [h6] at e; cases e
            · rw [h6] at e; injection e with e; omega)).trans ((hbl.block w.heap.size (by omega)).trans ((HB2.out.block _ lw1).trans HBx1.out)))
          have HBr3 := Lib.hid (((HBr1.out.trans (HB2.out.mono (by omega))).trans (hbl.mono (by omega))).grown hgrow (by simp; omega) (fun q hq => by
            rcases hown2 with h6 | ⟨q', h6, h7, _⟩
            · rw [h6] at hq; cases hq
            · rw [h6] at hq; injection hq with hq; omega))
          clear htk3 hown2 hkeepI hbl hgrow hown3 hat hsz3 hlt3
          go_wp2
          go_roundw
          case rel => exact ⟨2, by omega, by go_num, by first | (show TkAt _ _ _ (addF d1 (decide (far1 = 1) && !pair) r1 ++ addF d2 (decide (far2 = 1) && !pair) (some f)); rw [HA.out]; exact HTk3.out), HBx3.out, HBr3.out⟩
          case measure => first | decide | (simp [intOf]; done) | (simp [intOf]; omega)
        · have hadd : addF d2 (decide (far2 = 1) && !pair) none = [] := by unfold addF; rw [HBB.out]; rfl
          have HA := Lib.hid hadd
          have HCl := Lib.hid hcall
          clear hadd hcall
          go_wp2_with fail
          refine (HCl.out _).mono ?_
          rintro e w2 ⟨rfl, hb2⟩
          have HTk2 := Lib.hid (TkAt.below HTk1.out hb2)
          have HTk3 := Lib.hid (TkAt.below HTk2.out (show Below w2.heap.size w2 (w2.alloc (.cells #[.int .i64 0, .int .i64 0, .int .i64 0, .int .i64 0, .int .i64 0, .slice none 0 0] 118)) from (by repeat (first | exact Below.refl _ _ | refine Below.drew ?_ | refine below_drewN ?_ _ | refine Below.alloc ?_ (by simp; try omega) _))))
          have HBr2 := Lib.hid (HBr1.out.trans (hb2.mono (by omega)))
          have HBx2 := Lib.hid ((hb2.block _ lw1).trans HBx1.out)
          have hz2 := hb2.size
          clear hb2 d0 d1' d2' d3 d4 d5
          go_wp2
          go_roundw
          case rel => exact ⟨2, by omega, by go_num, by first | (show TkAt _ _ _ (addF d1 (decide (far1 = 1) && !pair) r1 ++ addF d2 (decide (far2 = 1) && !pair) none); rw [HA.out]; first | exact HTk3.out | (rw [List.append_nil]; exact HTk3.out)), (Below.heap_alloc _ _ _ (by omega)).trans HBx2.out, HBr2.out.alloc (by omega) _⟩
          case measure => first | decide | (simp [intOf]; done) | (simp [intOf]; omega)
    · clear hbr
      go_wp2
      go_ret
      exact ⟨_, rfl, TkAt.mono htk (by omega), HBr.out⟩
end Go.Proofs.YtdbempiompiioaaGreat.A31
