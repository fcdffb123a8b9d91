/- The first copy that was taken; the frame that a node takes. Conditions: the bounds stated in each theorem. -/
import Derived.Test.YtdbempiompiioaaGreatT04
import Derived.Test.YtdbempiompiioaaGreatT12
set_option linter.unusedVariables false
set_option linter.unusedSimpArgs false
namespace Go.Proofs.YtdbempiompiioaaGreat.A32
open Go.RowKit A1 A2 A3 A4 A5 A6 A7 A8 A9 A10 A11 A12 A13 A14 A15 A16 A17 A18 A19 A20 A21 A22 A23 A24 A25 A26 A27 A28 A29 A30 A31

def RetPick (o : Option Fr) (w : World) (e : Ending) (w' : World) : Prop :=
  match o with
  | some f => ∃ EA EC, e = .returned (.tuple #[.agg #[.int .i64 f.kind, .int .i64 f.round, .int .i64 f.slot, .int .i64 f.pk, .int .i64 f.pv, .slice EA f.echo.length EC], .bool true]) ∧ Items w' EA f.echo ∧ (∀ b off, EA = some ⟨b, off, none⟩ → 0 < f.echo.length → w.heap.size ≤ b) ∧ Below w.heap.size w w'
  | none => e = .returned (.tuple #[.agg #[.int .i64 0, .int .i64 0, .int .i64 0, .int .i64 0, .int .i64 0, .slice none 0 0], .bool false]) ∧ Below w.heap.size w w'
def RetFirst (base : Nat) (o : Option Fr) (w : World) (e : Ending) (w' : World) : Prop :=
  match o with
  | some f => ∃ EA EC, e = .returned (.tuple #[.agg #[.int .i64 f.kind, .int .i64 f.round, .int .i64 f.slot, .int .i64 f.pk, .int .i64 f.pv, .slice EA f.echo.length EC], .bool true]) ∧ Items w' EA f.echo ∧ (∀ b off, EA = some ⟨b, off, none⟩ → 0 < f.echo.length → base ≤ b) ∧ Below w.heap.size w w'
  | none => e = .returned (.tuple #[.agg #[.int .i64 0, .int .i64 0, .int .i64 0, .int .i64 0, .int .i64 0, .slice none 0 0], .bool false]) ∧ Below w.heap.size w w'
set_option maxRecDepth 100000 in
set_option maxHeartbeats 2000000 in
theorem first_nil (A : Option Addr) (C : Nat) (w : World) :
    Calls Tryz.prog 110 #[.slice A 0 C] w fun e w' => e = .returned (.tuple #[.agg #[.int .i64 0, .int .i64 0, .int .i64 0, .int .i64 0, .int .i64 0, .slice none 0 0], .bool false]) ∧ Below w.heap.size w w' := by
  go_enter Tryz.func110, Tryz.ntmps110
  go_wp2
  refine bodyPost_ret (v := .tuple #[.agg #[.int .i64 0, .int .i64 0, .int .i64 0, .int .i64 0, .int .i64 0, .slice none 0 0], .bool false]) (by simp [results, Tryz.results110, go_sem]) rfl ⟨rfl, ?_⟩
  first | exact (by repeat (first | exact Below.refl _ _ | refine Below.drew ?_ | refine below_drewN ?_ _ | refine Below.alloc ?_ (by simp; try omega) _))
theorem ta185 (t : ByteArray) (k r s pk pv : Int) (EA : Option Addr) (EL EC : Nat) (w : World) : (Instr.typeAssert (.iface 185 (.agg #[.string t, .int .i64 k, .int .i64 r, .int .i64 s, .int .i64 pk, .int .i64 pv, .slice EA EL EC])) 20 185 true).run Tryz.prog w = .ok (.tuple #[.agg #[.string t, .int .i64 k, .int .i64 r, .int .i64 s, .int .i64 pk, .int .i64 pv, .slice EA EL EC], .bool true]) w := by kernel_rfl
set_option maxRecDepth 100000 in
set_option maxHeartbeats 2000000 in
theorem first_some (g n cap : Nat) (t : ByteArray) (k r s pk pv : Int) (u : Value) (w : World) (hn : 0 < n)
    (c0 : w.cell? ⟨g, 0, none⟩ = some (.string t)) (c1 : w.cell? ⟨g, 1, none⟩ = some (.int .i64 k)) (c2 : w.cell? ⟨g, 2, none⟩ = some (.int .i64 r)) (c3 : w.cell? ⟨g, 3, none⟩ = some (.int .i64 s)) (c4 : w.cell? ⟨g, 4, none⟩ = some (.int .i64 pk)) (c5 : w.cell? ⟨g, 5, none⟩ = some (.int .i64 pv)) (EA : Option Addr) (EL EC : Nat) (c6 : w.cell? ⟨g, 6, none⟩ = some (.slice EA EL EC)) :
    Calls Tryz.prog 110 #[.slice (some ⟨g, 0, none⟩) n cap] w fun e w' => e = .returned (.tuple #[.agg #[.int .i64 k, .int .i64 r, .int .i64 s, .int .i64 pk, .int .i64 pv, .slice EA EL EC], .bool true]) ∧ Below w.heap.size w w' := by
  have n0 := World.new_ne w _ c0
  have hg := World.block_lt_of_cell? w _ c0
  have b1 : ((n : Int) == 0) = false := by simp; omega
  have b2 : (n == 0) = false := by simp; omega
  have b3 : (0 : Int) < (n : Int) := by omega
  go_enter Tryz.func110, Tryz.ntmps110
  have ta := ta185 t k r s pk pv EA EL EC
  go_wp2
  refine bodyPost_ret (v := .tuple #[.agg #[.int .i64 k, .int .i64 r, .int .i64 s, .int .i64 pk, .int .i64 pv, .slice EA EL EC], .bool true]) (by simp [results, Tryz.results110, go_sem]) rfl ⟨rfl, ?_⟩
  first | exact (by repeat (first | exact Below.refl _ _ | refine Below.drew ?_ | refine below_drewN ?_ _ | refine Below.alloc ?_ (by simp; try omega) _))
def pickF (la ld : List (ByteArray × Fr)) : Option Fr :=
  match la with
  | x :: y :: _ => if x.1 = y.1 then some x.2 else none
  | [x] => some x.2
  | [] => match ld with
    | [] => none
    | x :: _ => some x.2
theorem addF_le (t : ByteArray) (b : Bool) (o : Option Fr) : (addF t b o).length ≤ 1 := by
  unfold addF
  split
  · split <;> simp
  · simp
theorem tk_nil {w : World} {base : Nat} {v : Value} (h : TkAt w base v []) : ∃ A C, v = .slice A 0 C := by
  obtain ⟨T, h1, h2, _⟩ := h
  obtain rfl : T = [] := by simpa using h1
  rcases h2.2 with ⟨h3, _⟩ | ⟨g, cap, cur, h3, _⟩
  · exact ⟨_, _, h3⟩
  · exact ⟨_, _, h3⟩
theorem tk_cons {w : World} {base : Nat} {v : Value} {x : ByteArray × Fr} {l : List (ByteArray × Fr)} (h : TkAt w base v (x :: l)) :
    ∃ g cap EA EC, v = .slice (some ⟨g, 0, none⟩) (l.length + 1) cap ∧ g < w.heap.size ∧ w.cell? ⟨g, 0, none⟩ = some (.string x.1) ∧ w.cell? ⟨g, 1, none⟩ = some (.int .i64 x.2.kind) ∧ w.cell? ⟨g, 2, none⟩ = some (.int .i64 x.2.round) ∧ w.cell? ⟨g, 3, none⟩ = some (.int .i64 x.2.slot) ∧ w.cell? ⟨g, 4, none⟩ = some (.int .i64 x.2.pk) ∧ w.cell? ⟨g, 5, none⟩ = some (.int .i64 x.2.pv) ∧ w.cell? ⟨g, 6, none⟩ = some (.slice EA x.2.echo.length EC) ∧
      Items w EA x.2.echo ∧ (∀ b off, EA = some ⟨b, off, none⟩ → 0 < x.2.echo.length → base ≤ b) ∧ (∀ y r, l = y :: r → w.cell? ⟨g, 7, none⟩ = some (.string y.1)) := by
  obtain ⟨T, h1, h2, h3⟩ := h
  cases T with
  | nil => simp at h1
  | cons t T =>
    simp only [List.map_cons, List.cons.injEq] at h1
    obtain ⟨h1a, h1b⟩ := h1
    obtain ⟨g, cap, hv, _, hlt⟩ := World.ownsRow.form h2 (by simp)
    have hc : ∀ j u, (tkCells (t :: T))[j]? = some u → w.cell? ⟨g, j, none⟩ = some u := fun j u hj => by
      have := World.ownsRow.cells h2 (g := g) (by rw [hv]; rfl) j u hj
      simpa [Addr.add_lit] using this
    obtain ⟨hi, hb⟩ := h3 t (List.mem_cons_self ..)
    have hl : T.length = l.length := by rw [← h1b, List.length_map]
    subst h1a
    refine ⟨g, cap, t.A, t.C, by rw [hv]; simp [hl], hlt, hc 0 _ rfl, hc 1 _ rfl, hc 2 _ rfl, hc 3 _ rfl, hc 4 _ rfl, hc 5 _ rfl, hc 6 _ rfl, hi, fun b off e h => (hb b off e h).2.2, fun y r e => ?_⟩
    cases T with
    | nil => rw [e] at h1b; simp at h1b
    | cons t2 T2 =>
      rw [e] at h1b
      simp only [List.map_cons, List.cons.injEq] at h1b
      obtain ⟨rfl, _⟩ := h1b
      exact hc 7 _ rfl
theorem first_of {w : World} {base : Nat} {v : Value} {l : List (ByteArray × Fr)} (h : TkAt w base v l) : Calls Tryz.prog 110 #[v] w (RetFirst base (l.head?.map (·.2)) w) := by
  cases l with
  | nil =>
    obtain ⟨A, C, rfl⟩ := tk_nil h
    exact first_nil A C w
  | cons x l =>
    obtain ⟨g, cap, EA, EC, rfl, hg, c0, c1, c2, c3, c4, c5, c6, hi, hb, _⟩ := tk_cons h
    refine (first_some g (l.length + 1) cap x.1 x.2.kind x.2.round x.2.slot x.2.pk x.2.pv .nilIface w (by omega) c0 c1 c2 c3 c4 c5 EA _ EC c6).mono ?_
    rintro e w' ⟨rfl, hb'⟩
    exact ⟨EA, EC, rfl, hi.below hb', hb, hb'⟩
theorem five_allocs (w : World) (a b c d e : Obj) : (((((w.alloc a).alloc b).alloc c).alloc d).alloc e).heap[w.heap.size]? = some a ∧ (((((w.alloc a).alloc b).alloc c).alloc d).alloc e).heap[w.heap.size + 1]? = some b ∧ (((((w.alloc a).alloc b).alloc c).alloc d).alloc e).heap[w.heap.size + 2]? = some c ∧ (((((w.alloc a).alloc b).alloc c).alloc d).alloc e).heap[w.heap.size + 3]? = some d ∧ (((((w.alloc a).alloc b).alloc c).alloc d).alloc e).heap[w.heap.size + 4]? = some e := by
  have h1 : (w.alloc a).heap.size = w.heap.size + 1 := by simp
  have h2 : ((w.alloc a).alloc b).heap.size = w.heap.size + 2 := by simp
  have h3 : (((w.alloc a).alloc b).alloc c).heap.size = w.heap.size + 3 := by simp
  have h4 : ((((w.alloc a).alloc b).alloc c).alloc d).heap.size = w.heap.size + 4 := by simp
  refine ⟨?_, ?_, ?_, ?_, ?_⟩
  · rw [Below.heap_alloc _ _ _ (by omega), Below.heap_alloc _ _ _ (by omega), Below.heap_alloc _ _ _ (by omega), Below.heap_alloc _ _ _ (by omega)]
    exact heap_alloc_new w a
  · rw [Below.heap_alloc _ _ _ (by omega), Below.heap_alloc _ _ _ (by omega), Below.heap_alloc _ _ _ (by omega), ← h1]
    exact heap_alloc_new _ b
  · rw [Below.heap_alloc _ _ _ (by omega), Below.heap_alloc _ _ _ (by omega), ← h2]
    exact heap_alloc_new _ c
  · rw [Below.heap_alloc _ _ _ (by omega), ← h3]
    exact heap_alloc_new _ d
  · rw [← h4]
    exact heap_alloc_new _ e
theorem items6' {A : Option Addr} {l : List (Nat × Nat)} {w : World} {q : Nat} {u0 u1 u2 u3 u4 u5 : Value} (h : Items w A l) (hq : ∀ b off, A = some ⟨b, off, none⟩ → 0 < l.length → b ≠ q) : Items ((((((w.setCell ⟨q, 0, none⟩ u0).setCell ⟨q, 1, none⟩ u1).setCell ⟨q, 2, none⟩ u2).setCell ⟨q, 3, none⟩ u3).setCell ⟨q, 4, none⟩ u4).setCell ⟨q, 5, none⟩ u5) A l := by
  by_cases hl : 0 < l.length
  · exact items6 h (fun b off e => hq b off e hl)
  · exact fun k hk => absurd hk (by omega)
set_option maxRecDepth 100000 in
set_option maxHeartbeats 4000000 in
theorem Pick (N : Nat) (Pi Er G Fi : Int) (PA : Option Addr) (PL PC : Nat) (round slot : Int) (d1 s1 o1 d2 s2 o2 : ByteArray) (far1 far2 : Int) (r1 r2 q1 q2 : Option Fr) (w : World)
    (hN : N ≤ 12) (hP : PL ≤ 3) (hFi : 0 ≤ Fi) (hFi2 : Fi ≤ 65535) (hr : 0 ≤ round) (hr2 : round ≤ 1000) (hf1 : 1 ≤ far1) (hf2 : 1 ≤ far2)
    (h1 : SortIs N PL ((Fi + round) % 65536) slot o1 r1) (h2 : SortIs N PL ((Fi + round) % 65536) slot o2 r2) (h3 : SortIs N PL ((Fi + round) % 65536) slot d1 q1) (h4 : SortIs N PL ((Fi + round) % 65536) slot d2 q2) :
    Calls Tryz.prog 68 #[.agg #[.int .i64 N, .int .i64 Pi, .int .i64 Er, .int .i64 G, .int .i64 Fi, .slice PA PL PC], .int .i64 round, .int .i64 slot, .agg #[.string d1, .string s1, .string o1, .int .i64 far1], .agg #[.string d2, .string s2, .string o2, .int .i64 far2]] w
      (RetPick (pickF (addF o1 (decide (2 ≤ far1) || decide (slot ≥ N)) r1 ++ addF o2 (decide (2 ≤ far2) || decide (slot ≥ N)) r2) (addF d1 (decide (far1 = 1) && !decide (slot ≥ N)) q1 ++ addF d2 (decide (far2 = 1) && !decide (slot ≥ N)) q2)) w) := by
  generalize hpair : decide (slot ≥ (N : Int)) = pair
  have HA := Lib.hid (fun cb w' a b => rights_compared N Pi Er G Fi PA PL PC round slot cb d1 s1 o1 d2 s2 o2 far1 far2 pair r1 r2 w' hN hP hFi hFi2 hr hr2 hf1 hf2 h1 h2 a b)
  have HD := Lib.hid (fun cb w' a b => rights_direct N Pi Er G Fi PA PL PC round slot cb d1 s1 o1 d2 s2 o2 far1 far2 pair q1 q2 w' hN hP hFi hFi2 hr hr2 hf1 hf2 h3 h4 a b)
  have hla : (addF o1 (decide (2 ≤ far1) || pair) r1 ++ addF o2 (decide (2 ≤ far2) || pair) r2).length ≤ 2 := by
    rw [List.length_append]
    have := addF_le o1 (decide (2 ≤ far1) || pair) r1
    have := addF_le o2 (decide (2 ≤ far2) || pair) r2
    omega
  generalize addF o1 (decide (2 ≤ far1) || pair) r1 ++ addF o2 (decide (2 ≤ far2) || pair) r2 = la at *
  generalize addF d1 (decide (far1 = 1) && !pair) q1 ++ addF d2 (decide (far2 = 1) && !pair) q2 = ld at *
  clear h1 h2 h3 h4
  go_enter Tryz.func68, Tryz.ntmps68
  go_wp2_with fail
  refine (HA.out _ _ (by go_simp) (by go_simp)).mono ?_
  rintro e w1 ⟨v, rfl, htk, hb1⟩
  have h5 := five_allocs w (.cells #[.int .i64 N, .int .i64 Pi, .int .i64 Er, .int .i64 G, .int .i64 Fi, .slice PA PL PC] 24) (.cells #[.string d1, .string s1, .string o1, .int .i64 far1] 129) (.cells #[.string d2, .string s2, .string o2, .int .i64 far2] 129) (.cells #[.int .i64 0, .int .i64 0, .int .i64 0, .int .i64 0, .int .i64 0, .slice none 0 0] 118) (.cells #[.iface 183 (.agg #[.string d1, .string s1, .string o1, .int .i64 far1, .bool pair]), .iface 183 (.agg #[.string d2, .string s2, .string o2, .int .i64 far2, .bool pair])] 239)
  have hsz : ((((((w.alloc (.cells #[.int .i64 N, .int .i64 Pi, .int .i64 Er, .int .i64 G, .int .i64 Fi, .slice PA PL PC] 24)).alloc (.cells #[.string d1, .string s1, .string o1, .int .i64 far1] 129)).alloc (.cells #[.string d2, .string s2, .string o2, .int .i64 far2] 129)).alloc (.cells #[.int .i64 0, .int .i64 0, .int .i64 0, .int .i64 0, .int .i64 0, .slice none 0 0] 118)).alloc (.cells #[.iface 183 (.agg #[.string d1, .string s1, .string o1, .int .i64 far1, .bool pair]), .iface 183 (.agg #[.string d2, .string s2, .string o2, .int .i64 far2, .bool pair])] 239))).heap.size = w.heap.size + 5 := by simp
  have HC := Lib.hid ((hb1.block w.heap.size (by rw [hsz]; omega)).trans h5.1)
  have HSa := Lib.hid ((hb1.block (w.heap.size + 1) (by rw [hsz]; omega)).trans h5.2.1)
  have HSb := Lib.hid ((hb1.block (w.heap.size + 2) (by rw [hsz]; omega)).trans h5.2.2.1)
  have HR := Lib.hid ((hb1.block (w.heap.size + 3) (by rw [hsz]; omega)).trans h5.2.2.2.1)
  have hz1 : w.heap.size + 5 ≤ w1.heap.size := by have := hb1.size; rw [hsz] at this; exact this
  have hB1 : Below w.heap.size w w1 := Below.trans (show Below w.heap.size w _ from (by repeat (first | exact Below.refl _ _ | refine Below.drew ?_ | refine below_drewN ?_ _ | refine Below.alloc ?_ (by simp; try omega) _))) (hb1.mono (by rw [hsz]; omega))
  have htk' := TkAt.mono htk (show w.heap.size + 5 ≤ _ by rw [hsz]; omega)
  have HTk := Lib.hid htk'
  have HB1 := Lib.hid hB1
  clear h5 hsz hb1 hB1 htk htk' HA
  match la, hla with
  | [], _ =>
    obtain ⟨A0, C0, rfl⟩ := tk_nil HTk.out
    have c0 : w1.cell? ⟨w.heap.size, 0, none⟩ = some (.int .i64 N) := by simp [World.cell?, HC.out]
    have c1 : w1.cell? ⟨w.heap.size, 1, none⟩ = some (.int .i64 Pi) := by simp [World.cell?, HC.out]
    have c2 : w1.cell? ⟨w.heap.size, 2, none⟩ = some (.int .i64 Er) := by simp [World.cell?, HC.out]
    have c3 : w1.cell? ⟨w.heap.size, 3, none⟩ = some (.int .i64 G) := by simp [World.cell?, HC.out]
    have c4 : w1.cell? ⟨w.heap.size, 4, none⟩ = some (.int .i64 Fi) := by simp [World.cell?, HC.out]
    have c5 : w1.cell? ⟨w.heap.size, 5, none⟩ = some (.slice PA PL PC) := by simp [World.cell?, HC.out]
    have a0 : w1.cell? ⟨w.heap.size + 1, 0, none⟩ = some (.string d1) := by simp [World.cell?, HSa.out]
    have a1 : w1.cell? ⟨w.heap.size + 1, 1, none⟩ = some (.string s1) := by simp [World.cell?, HSa.out]
    have a2 : w1.cell? ⟨w.heap.size + 1, 2, none⟩ = some (.string o1) := by simp [World.cell?, HSa.out]
    have a3 : w1.cell? ⟨w.heap.size + 1, 3, none⟩ = some (.int .i64 far1) := by simp [World.cell?, HSa.out]
    have b0 : w1.cell? ⟨w.heap.size + 2, 0, none⟩ = some (.string d2) := by simp [World.cell?, HSb.out]
    have b1 : w1.cell? ⟨w.heap.size + 2, 1, none⟩ = some (.string s2) := by simp [World.cell?, HSb.out]
    have b2 : w1.cell? ⟨w.heap.size + 2, 2, none⟩ = some (.string o2) := by simp [World.cell?, HSb.out]
    have b3 : w1.cell? ⟨w.heap.size + 2, 3, none⟩ = some (.int .i64 far2) := by simp [World.cell?, HSb.out]
    go_wp2_with fail
    refine wp_region_held_drew (S := fun w' => True) (by kernel_rfl) trivial (fun hHeld => ?_)
    refine rgT 0 ?_
    refine rgT 1 ?_
    refine rgT 2 ?_
    refine rgT 3 ?_
    refine rgS 4 ?_
    refine rgS 5 ?_
    refine rgS 6 ?_
    refine rgS 7 ?_
    refine rgS 8 ?_
    refine rgS 9 ?_
    refine rgS 10 ?_
    refine rgS 11 ?_
    refine rgS 12 ?_
    refine rgT 13 ?_
    refine rgT 14 ?_
    refine wpAnyH_done (by kernel_rfl) ?_ _
    go_wp2_with fail
    refine (HD.out _ _ (by go_simp) (by go_simp)).mono ?_
    rintro e w2 ⟨v2, rfl, htk2, hb2'⟩
    have hb2 : Below w1.heap.size w1 w2 := Below.trans (show Below w1.heap.size w1 _ from (by repeat (first | exact Below.refl _ _ | refine Below.drew ?_ | refine below_drewN ?_ _ | refine Below.alloc ?_ (by simp; try omega) _))) (Below.mono hb2' (by simp))
    have HR2 := Lib.hid ((hb2.block (w.heap.size + 3) (by omega)).trans HR.out)
    have HB2 := Lib.hid (HB1.out.trans (hb2.mono (by omega)))
    have hz2 : w.heap.size + 5 ≤ w2.heap.size := by have := hb2.size; omega
    have htk3 := TkAt.mono htk2 (show w.heap.size + 5 ≤ _ by simp; omega)
    have HF := Lib.hid (first_of htk3)
    clear hb2 hb2' htk2 htk3 c0 c1 c2 c3 c4 c5 a0 a1 a2 a3 b0 b1 b2 b3 hHeld HD HTk
    go_wp2_with fail
    refine HF.out.mono ?_
    intro e w3 hfst
    match ld, hfst with
    | [], hfst =>
      obtain ⟨rfl, hb3⟩ := hfst
      have hr3 := (hb3.block (w.heap.size + 3) (by omega)).trans HR2.out
      have hB3 := HB2.out.trans (hb3.mono (by omega))
      have x0 : w3.cell? ⟨w.heap.size + 3, 0, none⟩ = some (.int .i64 0) := by simp [World.cell?, hr3]
      have x1 : w3.cell? ⟨w.heap.size + 3, 1, none⟩ = some (.int .i64 0) := by simp [World.cell?, hr3]
      have x2 : w3.cell? ⟨w.heap.size + 3, 2, none⟩ = some (.int .i64 0) := by simp [World.cell?, hr3]
      have x3 : w3.cell? ⟨w.heap.size + 3, 3, none⟩ = some (.int .i64 0) := by simp [World.cell?, hr3]
      have x4 : w3.cell? ⟨w.heap.size + 3, 4, none⟩ = some (.int .i64 0) := by simp [World.cell?, hr3]
      have x5 : w3.cell? ⟨w.heap.size + 3, 5, none⟩ = some (.slice none 0 0) := by simp [World.cell?, hr3]
      have y0 : ∀ o, w3.frozen? ⟨w.heap.size + 3, o, none⟩ = false := fun o => by simp [World.frozen?, hr3]
      have HB3 := Lib.hid hB3
      clear hr3 hB3 hb3
      go_wp2
      refine bodyPost_ret (v := .tuple #[.agg #[.int .i64 0, .int .i64 0, .int .i64 0, .int .i64 0, .int .i64 0, .slice none 0 0], .bool false]) (by simp [results, Tryz.results68, go_sem, x0, x1, x2, x3, x4, x5]) rfl ⟨rfl, below6 HB3.out (by omega)⟩
    | x :: l, hfst =>
      obtain ⟨EA, EC, rfl, hI3, hbs, hb3⟩ := hfst
      have hr3 := (hb3.block (w.heap.size + 3) (by omega)).trans HR2.out
      have hB3 := HB2.out.trans (hb3.mono (by omega))
      have x0 : w3.cell? ⟨w.heap.size + 3, 0, none⟩ = some (.int .i64 0) := by simp [World.cell?, hr3]
      have x1 : w3.cell? ⟨w.heap.size + 3, 1, none⟩ = some (.int .i64 0) := by simp [World.cell?, hr3]
      have x2 : w3.cell? ⟨w.heap.size + 3, 2, none⟩ = some (.int .i64 0) := by simp [World.cell?, hr3]
      have x3 : w3.cell? ⟨w.heap.size + 3, 3, none⟩ = some (.int .i64 0) := by simp [World.cell?, hr3]
      have x4 : w3.cell? ⟨w.heap.size + 3, 4, none⟩ = some (.int .i64 0) := by simp [World.cell?, hr3]
      have x5 : w3.cell? ⟨w.heap.size + 3, 5, none⟩ = some (.slice none 0 0) := by simp [World.cell?, hr3]
      have y0 : ∀ o, w3.frozen? ⟨w.heap.size + 3, o, none⟩ = false := fun o => by simp [World.frozen?, hr3]
      have HB3 := Lib.hid hB3
      have HI3 := Lib.hid hI3
      have HBS := Lib.hid hbs
      clear hI3 hbs
      clear hr3 hB3 hb3
      go_wp2
      refine bodyPost_ret (v := .tuple #[.agg #[.int .i64 x.2.kind, .int .i64 x.2.round, .int .i64 x.2.slot, .int .i64 x.2.pk, .int .i64 x.2.pv, .slice EA x.2.echo.length EC], .bool true]) (by simp [results, Tryz.results68, go_sem, x0, x1, x2, x3, x4, x5]) rfl ⟨EA, EC, rfl, ?_, ?_, below6 HB3.out (by omega)⟩
      · exact items6' HI3.out (fun b off e h => by have := HBS.out b off e h; omega)
      · exact fun b off e h => by have := HBS.out b off e h; omega
  | [x], _ =>
    have hF0 := first_of (TkAt.below HTk.out (show Below w1.heap.size w1 w1.drew from (Below.refl _ _).drew))
    obtain ⟨g, cap, EA0, EC0, hv, _⟩ := tk_cons HTk.out
    simp only [List.length_cons, List.length_nil, Nat.zero_add, Nat.reduceAdd] at hv
    subst hv
    have HF := Lib.hid hF0
    have HR2 := HR
    have HB2 := HB1
    have hz2 := hz1
    clear hF0 HTk HD
    go_wp2_with fail
    refine wp_region_held_drew (S := fun w' => True) (by kernel_rfl) trivial (fun hHeld => ?_)
    refine rgT 0 ?_
    refine rgT 1 ?_
    refine rgT 2 ?_
    refine rgT 3 ?_
    refine rgS 4 ?_
    refine rgS 5 ?_
    refine rgS 6 ?_
    refine rgS 7 ?_
    refine rgS 8 ?_
    refine rgS 9 ?_
    refine rgS 10 ?_
    refine rgS 11 ?_
    refine rgS 12 ?_
    refine rgT 13 ?_
    refine rgT 14 ?_
    refine wpAnyH_done (by kernel_rfl) ?_ _
    go_wp2_with fail
    refine HF.out.mono ?_
    intro e w3 hfst
    obtain ⟨EA, EC, rfl, hI3, hbs, hb3⟩ := hfst
    replace hb3 : Below w1.heap.size w1 w3 := ⟨hb3.os, hb3.tape, hb3.output, hb3.size, hb3.block⟩
    have hr3 := (hb3.block (w.heap.size + 3) (by omega)).trans HR2.out
    have hB3 := HB2.out.trans (hb3.mono (by omega))
    have x0 : w3.cell? ⟨w.heap.size + 3, 0, none⟩ = some (.int .i64 0) := by simp [World.cell?, hr3]
    have x1 : w3.cell? ⟨w.heap.size + 3, 1, none⟩ = some (.int .i64 0) := by simp [World.cell?, hr3]
    have x2 : w3.cell? ⟨w.heap.size + 3, 2, none⟩ = some (.int .i64 0) := by simp [World.cell?, hr3]
    have x3 : w3.cell? ⟨w.heap.size + 3, 3, none⟩ = some (.int .i64 0) := by simp [World.cell?, hr3]
    have x4 : w3.cell? ⟨w.heap.size + 3, 4, none⟩ = some (.int .i64 0) := by simp [World.cell?, hr3]
    have x5 : w3.cell? ⟨w.heap.size + 3, 5, none⟩ = some (.slice none 0 0) := by simp [World.cell?, hr3]
    have y0 : ∀ o, w3.frozen? ⟨w.heap.size + 3, o, none⟩ = false := fun o => by simp [World.frozen?, hr3]
    have HB3 := Lib.hid hB3
    have HI3 := Lib.hid hI3
    have HBS := Lib.hid hbs
    clear hI3 hbs
    clear hr3 hB3 hb3
    go_wp2
    refine bodyPost_ret (v := .tuple #[.agg #[.int .i64 x.2.kind, .int .i64 x.2.round, .int .i64 x.2.slot, .int .i64 x.2.pk, .int .i64 x.2.pv, .slice EA x.2.echo.length EC], .bool true]) (by simp [results, Tryz.results68, go_sem, x0, x1, x2, x3, x4, x5]) rfl ⟨EA, EC, rfl, ?_, ?_, below6 HB3.out (by omega)⟩
    · exact items6' HI3.out (fun b off e h => by have := HBS.out b off e h; omega)
    · exact fun b off e h => by have := HBS.out b off e h; omega
  | [x, y], _ =>
    have hF0 := first_of (TkAt.below HTk.out (show Below w1.heap.size w1 w1.drew from (Below.refl _ _).drew))
    obtain ⟨g, cap, EA0, EC0, hv, hg, k0, _, _, _, _, _, _, _, _, hk7⟩ := tk_cons HTk.out
    have k7 := hk7 y [] rfl
    simp only [List.length_cons, List.length_nil, Nat.zero_add, Nat.reduceAdd] at hv
    subst hv
    have HF := Lib.hid hF0
    have HR2 := HR
    have HB2 := HB1
    have hz2 := hz1
    clear hF0 HTk HD hk7
    obtain ⟨tx, fx⟩ := x
    obtain ⟨ty, fy⟩ := y
    by_cases hxy : tx = ty
    · subst hxy
      have HP : Hid (pickF [(tx, fx), (tx, fy)] ld = some fx) := by unfold pickF; exact if_pos rfl
      go_wp2_with fail
      refine wp_region_held_drew (S := fun w' => w'.cell? ⟨g, 0, none⟩ = some (.string tx) ∧ w'.cell? ⟨g, 7, none⟩ = some (.string tx)) (by kernel_rfl) ⟨k0, k7⟩ (fun hHeld => ?_)
      refine rgT 0 ?_
      refine rgT 1 ?_
      refine rgT 2 ?_
      refine rgT 3 ?_
      refine rgT 4 ?_
      refine rgT 5 ?_
      refine rgT 6 ?_
      refine rgT 7 ?_
      refine rgT 8 ?_
      refine rgT 9 ?_
      refine rgT 10 ?_
      refine rgT 11 ?_
      refine rgT 12 ?_
      refine rgT 13 ?_
      refine rgT 14 ?_
      refine wpAnyH_done (by kernel_rfl) ?_ _
      go_wp2_with fail
      refine HF.out.mono ?_
      intro e w3 hfst
      obtain ⟨EA, EC, rfl, hI3, hbs, hb3⟩ := hfst
      replace hb3 : Below w1.heap.size w1 w3 := ⟨hb3.os, hb3.tape, hb3.output, hb3.size, hb3.block⟩
      have hr3 := (hb3.block (w.heap.size + 3) (by omega)).trans HR2.out
      have hB3 := HB2.out.trans (hb3.mono (by omega))
      have x0 : w3.cell? ⟨w.heap.size + 3, 0, none⟩ = some (.int .i64 0) := by simp [World.cell?, hr3]
      have x1 : w3.cell? ⟨w.heap.size + 3, 1, none⟩ = some (.int .i64 0) := by simp [World.cell?, hr3]
      have x2 : w3.cell? ⟨w.heap.size + 3, 2, none⟩ = some (.int .i64 0) := by simp [World.cell?, hr3]
      have x3 : w3.cell? ⟨w.heap.size + 3, 3, none⟩ = some (.int .i64 0) := by simp [World.cell?, hr3]
      have x4 : w3.cell? ⟨w.heap.size + 3, 4, none⟩ = some (.int .i64 0) := by simp [World.cell?, hr3]
      have x5 : w3.cell? ⟨w.heap.size + 3, 5, none⟩ = some (.slice none 0 0) := by simp [World.cell?, hr3]
      have y0 : ∀ o, w3.frozen? ⟨w.heap.size + 3, o, none⟩ = false := fun o => by simp [World.frozen?, hr3]
      have HB3 := Lib.hid hB3
      have HI3 := Lib.hid hI3
      have HBS := Lib.hid hbs
      clear hI3 hbs
      clear hr3 hB3 hb3
      go_wp2
      refine bodyPost_ret (v := .tuple #[.agg #[.int .i64 fx.kind, .int .i64 fx.round, .int .i64 fx.slot, .int .i64 fx.pk, .int .i64 fx.pv, .slice EA fx.echo.length EC], .bool true]) (by simp [results, Tryz.results68, go_sem, x0, x1, x2, x3, x4, x5]) rfl ?_
      rw [HP.out]
      refine ⟨EA, EC, rfl, ?_, ?_, below6 HB3.out (by omega)⟩
      · exact items6' HI3.out (fun b off e h => by have := HBS.out b off e h; omega)
      · exact fun b off e h => by have := HBS.out b off e h; omega
    · have q1 : (tx.toList == ty.toList) = false := by
        refine beq_eq_false_iff_ne.mpr (fun e => hxy ?_)
        rw [ByteArray.toList_eq, ByteArray.toList_eq] at e
        exact ByteArray.ext (Array.toList_inj.mp e)
      go_wp2_with fail
      refine wp_region_held_drew (S := fun w' => w'.cell? ⟨g, 0, none⟩ = some (.string tx) ∧ w'.cell? ⟨g, 7, none⟩ = some (.string ty)) (by kernel_rfl) ⟨k0, k7⟩ (fun hHeld => ?_)
      refine rgT 0 ?_
      refine rgT 1 ?_
      refine rgT 2 ?_
      refine rgT 3 ?_
      refine rgT 4 ?_
      refine rgT 5 ?_
      refine rgT 6 ?_
      refine rgT 7 ?_
      refine rgT 8 ?_
      refine rgT 9 ?_
      refine rgT 10 ?_
      refine rgT 11 ?_
      refine rgT 12 ?_
      refine rgT 13 ?_
      refine rgT 14 ?_
      refine wpAnyH_done (by kernel_rfl) ?_ _
      have hB1 := HB1.out
      have x0 : w1.cell? ⟨w.heap.size + 3, 0, none⟩ = some (.int .i64 0) := by simp [World.cell?, HR.out]
      have x1 : w1.cell? ⟨w.heap.size + 3, 1, none⟩ = some (.int .i64 0) := by simp [World.cell?, HR.out]
      have x2 : w1.cell? ⟨w.heap.size + 3, 2, none⟩ = some (.int .i64 0) := by simp [World.cell?, HR.out]
      have x3 : w1.cell? ⟨w.heap.size + 3, 3, none⟩ = some (.int .i64 0) := by simp [World.cell?, HR.out]
      have x4 : w1.cell? ⟨w.heap.size + 3, 4, none⟩ = some (.int .i64 0) := by simp [World.cell?, HR.out]
      have x5 : w1.cell? ⟨w.heap.size + 3, 5, none⟩ = some (.slice none 0 0) := by simp [World.cell?, HR.out]
      have y0 : ∀ o, w1.frozen? ⟨w.heap.size + 3, o, none⟩ = false := fun o => by simp [World.frozen?, HR.out]
      have HP : Hid (pickF [(tx, fx), (ty, fy)] ld = none) := by unfold pickF; exact if_neg hxy
      clear hB1 hHeld k0 k7 hxy
      go_wp2
      refine bodyPost_ret (v := .tuple #[.agg #[.int .i64 0, .int .i64 0, .int .i64 0, .int .i64 0, .int .i64 0, .slice none 0 0], .bool false]) (by simp [results, Tryz.results68, go_sem, x0, x1, x2, x3, x4, x5]) rfl ?_
      rw [HP.out]
      exact ⟨rfl, Below.drew (below6 HB1.out (by omega))⟩
end Go.Proofs.YtdbempiompiioaaGreat.A32
