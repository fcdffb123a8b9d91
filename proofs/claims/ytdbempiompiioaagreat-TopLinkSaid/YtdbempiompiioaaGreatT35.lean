/- Six nodes that find one another, and deliver: plaitingtop's known. What the law TopLink makes: calls, wanted items, the network's course. Plain laws. Conditions: the bounds stated in each theorem. -/
import Derived.Test.YtdbempiompiioaaGreatT04
import Derived.Test.YtdbempiompiioaaGreatT30
import Derived.Test.YtdbempiompiioaaGreatT31
import Derived.Test.YtdbempiompiioaaGreatT34
set_option linter.unusedVariables false
set_option linter.unusedSimpArgs false
namespace Go.Proofs.YtdbempiompiioaaGreat.C8
open Go.RowKit A1 A2 A3 A4 A9 A10 A11 A12 A13 A14 A18 A35 A41 A46 A48 A50 A52 A64 A66 A72 A73 B4 B5 C1

theorem mk22 (n : Nat) (hn : n ≤ 100) (w : World) : (Instr.makeSlice 22 (.int .i64 (n : Int)) (.int .i64 (n : Int))).run Tryz.prog w = .ok (.slice (some ⟨w.heap.size, 0, none⟩) n n) (w.alloc (.cells (madeCells #[.int .i64 0] (n * 1)) 3)) := by
  obtain ⟨i, hi, hz, hs, hb⟩ := info_parts info3
  have := run_make_n (P := Tryz.prog) 22 3 i _ Tryz.underlying22 hi hz n hn (by omega) w
  rw [hs] at this
  exact this
set_option maxRecDepth 100000 in
set_option maxHeartbeats 4000000 in
theorem step_end (NB : Nat) (r R : Int) (w : World) (h17 : w.cell? ⟨NB, 17, none⟩ = some (.int .i64 r)) (h16 : w.cell? ⟨NB, 16, none⟩ = some (.int .i64 R)) (h : R ≤ r) :
    Calls Tryz.prog 15 #[.pointer (some ⟨NB, 0, none⟩)] w fun e w' => e = .returned (.bool false) ∧ Below w.heap.size w w' := by
  have cmp : (decide (r ≥ R)) = true := by simp; omega
  have cmp2 : (decide (R ≤ r)) = true := by simp; omega
  go_enter Tryz.func15, Tryz.ntmps15
  go_wp2_with fail
  refine wp_region_held_drew (S := fun w' => w'.cell? ⟨NB, 17, none⟩ = some (.int .i64 r) ∧ w'.cell? ⟨NB, 16, none⟩ = some (.int .i64 R)) (by kernel_rfl) ⟨h17, h16⟩ (fun hHeld => ?_)
  refine rgT 0 ?_
  refine rgT 1 ?_
  refine rgT 2 ?_
  refine rgT 3 ?_
  refine rgT 4 ?_
  refine rgT 5 ?_
  refine rgT 6 ?_
  refine rgT 7 ?_
  refine rgT 8 ?_
  refine rgT 9 ?_
  refine wpAnyH_done (by kernel_rfl) ?_ _
  clear h17 h16 hHeld
  go_wp2
  go_ret
  exact ⟨rfl, (by repeat (first | exact Below.refl _ _ | refine Below.drew ?_ | refine below_drewN ?_ _ | refine Below.alloc ?_ (by simp; try omega) _))⟩
def roundOf (w : World) (NB : Nat) : Nat := match w.cell? ⟨NB, 17, none⟩ with | some (.int _ r) => r.toNat | _ => 0
theorem roundOf_is {w : World} {NB r : Nat} (h : w.cell? ⟨NB, 17, none⟩ = some (.int .i64 r)) : roundOf w NB = r := by
  unfold roundOf
  rw [h]
  simp
theorem course_r {c : NC} {T F : Nat} {v : Nat → Nat} {NB LO r : Nat} {w : World} (H : Course c T F v NB LO r w) : w.cell? ⟨NB, 17, none⟩ = some (.int .i64 r) := by
  obtain ⟨ND, base, m, lv, st, tm, was, ck, q, g, n, xs, H, I⟩ := H
  exact H.nd.r
theorem course_drew {c : NC} {T F : Nat} {v : Nat → Nat} {NB LO r : Nat} {w : World} (H : Course c T F v NB LO r w) (P : Play c T F v) : Course c T F v NB LO r w.drew := by
  obtain ⟨ND, base, m, lv, st, tm, was, ck, q, g, n, xs, H, I⟩ := H
  exact ⟨ND, base, m, lv, st, tm, was, ck, q, g, n, xs, ⟨H.nd.below H.sep ((Below.refl _ _).drew), H.sep, H.ng, H.gd, H.ct, H.cw, H.cl, H.ls, fun i hi => (H.own i hi).drew, H.ne, H.base, H.c19, H.c20, H.fN, H.fD⟩, I⟩
abbrev six (A : Option Addr) : NC := ⟨6, 4, 0, 0, 0, [], none, 0, List.replicate 6 0, A, 6, [], none, 0, [], none, 0, [], none, 0, 0, 0, 0, 0, none, 0, 0, none, 0, 0, 12⟩
theorem rep0 (k : Nat) : (List.replicate 6 (0 : Int)).getD k 0 = 0 := by
  rw [List.getD_eq_getElem?_getD, List.getElem?_replicate]
  split <;> rfl
theorem six_ok (A : Option Addr) : NOk (six A) := by
  refine ⟨⟨?_, ?_, ?_, ?_, ?_, ?_, ?_, ?_, ?_, ?_, ?_, fun k hk => absurd hk (by simp)⟩, rfl, ?_, ?_, ?_, .inl ⟨rfl, rfl, rfl, rfl⟩, ?_, ?_⟩ <;> exact of_decide_eq_true rfl
theorem Play.made {c : NC} {T F : Nat} {v : Nat → Nat} (P : Play c T F v) (PA OA DA EA LA : Option Addr) (PC OC DC EC LC : Nat) : Play (A72.made c PA OA DA EA LA PC OC DC EC LC) T F v :=
  ⟨⟨P.ok.cf, P.ok.on, P.ok.dr, P.ok.er, P.ok.cl, P.ok.kind, P.ok.rounds0, P.ok.rounds1⟩, P.on, P.t1, P.t2, P.cl, P.cn, P.cm, P.v, P.f⟩
theorem six_play (A : Option Addr) : Play (six A) 6 100 (fun _ => 0) :=
  ⟨six_ok A, fun i hi => by show 0 ≤ (List.replicate 6 (0 : Int)).getD i 0 ∧ (List.replicate 6 (0 : Int)).getD i 0 ≤ 3; rw [rep0]; omega, fun i hi => by show ((6 : Nat) : Int) ≤ (List.replicate 6 (0 : Int)).getD i 0 + ((6 : Nat) : Int) + i; rw [rep0]; omega, ⟨0, of_decide_eq_true rfl, by show ((6 : Nat) : Int) = (List.replicate 6 (0 : Int)).getD 0 0 + ((6 : Nat) : Int) + ((0 : Nat) : Int); rw [rep0]; omega⟩, fun k hk => absurd hk (by simp), .inr (of_decide_eq_true rfl), of_decide_eq_true rfl, fun k hk => of_decide_eq_true rfl, of_decide_eq_true rfl⟩
set_option maxRecDepth 100000 in
set_option maxHeartbeats 8000000 in
theorem known_yes (w : World) : Calls Tryz.prog 6 #[] w fun e w' => e = .returned (.bool true) ∧ Below w.heap.size w w' := by
  have hM := heap_alloc_new w (.cells (madeCells #[.int .i64 0] (6 * 1)) 3)
  have hb : Below w.heap.size w (w.alloc (.cells (madeCells #[.int .i64 0] (6 * 1)) 3)) := (Below.refl _ _).alloc (Nat.le_refl _) _
  have mk : (Instr.makeSlice 22 (.int .i64 6) (.int .i64 6)).run Tryz.prog w = _ := mk22 6 (by omega) w
  go_enter Tryz.func6, Tryz.ntmps6
  go_upto_region 1 with fail
  go_wp2_with (rw [mk])
  clear mk
  generalize w.alloc (.cells (madeCells #[.int .i64 0] (6 * 1)) 3) = wa at *
  have HN : Calls Tryz.prog 13 #[.agg #[.int .i64 6, .int .i64 4, .int .i64 0, .int .i64 0, .int .i64 0, .slice none 0 0], .agg #[.slice (some ⟨w.heap.size, 0, none⟩) 6 6, .slice none 0 0, .slice none 0 0, .slice none 0 0, .int .i64 0, .int .i64 0, .int .i64 0, .int .i64 0, .slice none 0 0, .slice none 0 0, .int .i64 12]] wa _ :=
    net_New (six (some ⟨w.heap.size, 0, none⟩)) wa (six_ok _) (fun k hk => absurd hk (by simp)) (fun k hk => by
      have hk' : k < 6 := by simpa using hk
      refine ⟨w.heap.size, 0, rfl, heap_lt hM, ?_⟩
      show _ = some (Value.int .i64 ((List.replicate 6 (0 : Int)).getD k 0))
      rw [rep0, Lib.cell_of_heap hM, made_at _ _ _ (by omega)]
      have : (0 + k) % (#[Value.int .i64 0] : Array Value).size = 0 := by simp; omega
      rw [this]; rfl) (fun k hk => absurd hk (by simp)) (fun k hk => absurd hk (by simp)) (fun k hk => absurd hk (by simp)) (fun _ => rfl) (fun k hk => by show -1 ≤ (List.replicate 6 (0 : Int)).getD k 0 ∧ (List.replicate 6 (0 : Int)).getD k 0 ≤ 200; rw [rep0]; omega) (fun k hk => absurd hk (by simp))
  refine HN.mono ?_
  rintro e w1 ⟨LO, PA, OA, DA, EA, LA, PC, OC, DC, EC, LC, Q, rfl, hb1, hLO, hNet⟩
  obtain ⟨c, hcN, hcR, hcp, P, hCo⟩ : ∃ c : NC, c.N = 6 ∧ c.rounds = 12 ∧ c.ps.length = 0 ∧ Play c 6 100 (fun _ => 0) ∧ Course c 6 100 (fun _ => 0) (LO + 1) LO 0 w1 :=
    ⟨_, rfl, rfl, rfl, Play.made (six_play (some ⟨w.heap.size, 0, none⟩)) PA OA DA EA LA PC OC DC EC LC, _, _, _, _, _, _, _, _, _, _, _, _, hNet, Inv.begin (Play.made (six_play (some ⟨w.heap.size, 0, none⟩)) PA OA DA EA LA PC OC DC EC LC)⟩
  have HP := Lib.hid P
  have HC0 := Lib.hid hCo
  have HB1 := Lib.hid (hb.trans (hb1.mono hb.size))
  have hw0 := hb.size
  clear HN hNet hM hb hb1 P hCo
  go_wp2
  go_loopw [] (fun wr => ∃ r : Nat, r ≤ 12 ∧ Course c 6 100 (fun _ => 0) (LO + 1) LO r wr ∧ Below w.heap.size w wr) (fun wr => 12 - roundOf wr (LO + 1))
  case atStart => exact ⟨0, by omega, HC0.out, HB1.out⟩
  case round =>
    obtain ⟨r, hr, hC, hbw⟩ := hrel
    have hrd := roundOf_is (course_r hC)
    have HCr := Lib.hid hC
    have HBr := Lib.hid hbw
    clear hbw
    by_cases hlt : r < 12
    · have HSt := Lib.hid (course_step HP.out hC (by rw [hcR]; omega))
      clear hC
      go_wp2_with fail
      refine HSt.out.mono ?_
      rintro e w2 ⟨rfl, hb2, hC2⟩
      have HC2 := Lib.hid hC2
      have hrd2 := roundOf_is (course_r hC2)
      have HB2 := Lib.hid (HBr.out.trans (hb2.mono (by omega)))
      clear hC2 hb2
      go_wp2
      go_roundw
      case rel => exact ⟨r + 1, by omega, HC2.out, HB2.out⟩
      case measure => rw [hrd, hrd2]; omega
    · obtain rfl : r = 12 := by omega
      obtain ⟨ND, base, m, lv, st, tm, was, ck, q, g, n, xs, H, I⟩ := hC
      have h16 := H.nd.nb.c16
      rw [hcR] at h16
      have HE := Lib.hid (step_end (LO + 1) 12 12 wr (course_r HCr.out) h16 (by omega))
      have h18 := H.nd.n
      have h3 := H.nd.cs 3 (by omega)
      have t3 := H.ct 3 (by omega)
      have l3 := H.cl 3 (by omega)
      have o3 := H.own 3 (by omega)
      have s4 := (I.p3 (by omega)).1 3 (by omega)
      obtain ⟨⟨f, post, hx, hf⟩, _⟩ := I.p5 (by omega) 3 (by omega)
      have hxl := I.xl 3 (by omega)
      have hn := I.hn 3 (by omega)
      have h1 := I.x1 3 (by omega)
      rw [hcN] at h18
      rw [s4] at h3
      have hf0 := hf 0 (by omega)
      rw [hcN, hcp] at hx
      have hx2 : (xs 3)[2]? = some (.int .i64 1) ∧ (xs 3)[3]? = some (.int .i64 0) := by
        rw [hx]
        simp [lineCells, hf0, payF]
      have hnp : 6 ≤ n 3 := by
        have := congrArg List.length hx
        rw [List.length_append, A48.lineCells_length] at this
        omega
      have HX := Lib.hid (And.intro hx2 (And.intro hnp hn))
      have HO := Lib.hid o3
      have HX1 := Lib.hid h1
      clear hx hf hf0 hxl hn h1 hx2 hnp o3 H I s4
      go_wp2_with fail
      refine HE.out.mono ?_
      rintro e w2 ⟨rfl, hb2⟩
      have lz := World.block_lt_of_cell? wr _ h18
      have lD := World.block_lt_of_cell? wr _ h3
      have HSt := Lib.hid (net_State (LO + 1) ND 6 3 (.int .i64 (4 : Nat)) (.int .i64 (tm 3)) w2 (keep_of h18 lz hb2) (by omega) (by omega) (keep_of h3 lD hb2) (keep_of t3 lD hb2))
      have h18' := keep_of h18 lz hb2
      have l3' := keep_of l3 lD hb2
      have HO2 := Lib.hid (own_below HO.out hb2)
      have HB2 := Lib.hid (HBr.out.trans (hb2.mono (by have := HBr.out.size; omega)))
      have z2 := hb2.size
      clear h18 h3 t3 l3 hb2 HE
      go_wp2_with fail
      refine HSt.out.mono ?_
      rintro e w3 ⟨rfl, hb3⟩
      have HLg := Lib.hid (net_Log (LO + 1) ND 6 3 (n 3) LO (lv 3) (xs 3) w3 (keep_of h18' (by omega) hb3) (by omega) (by omega) (keep_of l3' (by omega) hb3) (own_below HO2.out hb3) (by have := HX.out.2.1; omega) (by have := HX.out.2.2; omega) (fun u hu => by obtain ⟨z, rfl⟩ := HX1.out u hu; rfl))
      have HB3 := Lib.hid (HB2.out.trans (hb3.mono (by have := HB2.out.size; omega)))
      clear h18' l3' hb3 HSt
      go_wp2_with fail
      refine HLg.out.mono ?_
      rintro e w4 ⟨v', rfl, ho4, hne, hb4⟩
      obtain ⟨gg, cap, rfl, _, _, hc4⟩ := own_some ho4 (by have := HX.out.2.1; omega)
      have HB4 := Lib.hid (HB3.out.trans (hb4.mono (by have := HB3.out.size; omega)))
      have k2 := hc4 _ _ HX.out.1.1
      have k3 := hc4 _ _ HX.out.1.2
      have hnp := HX.out.2.1
      generalize hnn : n 3 = nn at *
      have p0 : (0 : Int) < (nn : Int) := by omega
      have p1 : 0 < nn := by omega
      clear hc4 ho4 hne hb4 HLg
      go_wp2
      go_ret
      refine ⟨rfl, ?_⟩
      repeat (first | exact HB4.out | refine Below.drew ?_ | refine below_drewN ?_ _)
end Go.Proofs.YtdbempiompiioaaGreat.C8
namespace Go.Proofs.YtdbempiompiioaaGreat.C9
open Go.RowKit A1 A2 A3 A4 A9 A10 A11 A12 A13 A14 A18 A35 A41 A46 A48 A50 A52 A64 A66 A71 A72 A73 B4 B5 C1 C8

def vF (vs : List Int) (i : Nat) : Nat := if i < vs.length then (vs.getD i 0 % 256).toNat else i
theorem vF_le (vs : List Int) {i : Nat} (h : i ≤ 255) : vF vs i ≤ 255 := by
  unfold vF
  split <;> omega
def callCells (F : Nat) (v : Nat → Nat) : Nat → List Value
  | 0 => []
  | k + 1 => callCells F v k ++ [.int .i64 F, .int .i64 k, .int .i64 0, .int .i64 (v k)]
def wantCells (v : Nat → Nat) : Nat → List Value
  | 0 => []
  | k + 1 => wantCells v k ++ [.int .i64 2, .int .i64 (v k)]
theorem wantCells_length (v : Nat → Nat) : ∀ n, (wantCells v n).length = n * 2
  | 0 => rfl
  | n + 1 => by simp [wantCells, wantCells_length v n]; omega
theorem wantCells_at (v : Nat → Nat) : ∀ n k, k < n → (wantCells v n)[k * 2]? = some (.int .i64 2) ∧ (wantCells v n)[k * 2 + 1]? = some (.int .i64 (v k))
  | 0, k, h => absurd h (by omega)
  | n + 1, k, h => by
    have hl := wantCells_length v n
    unfold wantCells
    by_cases e : k < n
    · obtain ⟨h1, h2⟩ := wantCells_at v n k e
      rw [List.getElem?_append_left (by omega), List.getElem?_append_left (by omega)]
      exact ⟨h1, h2⟩
    · obtain rfl : k = n := by omega
      rw [List.getElem?_append_right (by omega), List.getElem?_append_right (by omega), hl]
      have e1 : k * 2 - k * 2 = 0 := by omega
      have e2 : k * 2 + 1 - k * 2 = 1 := by omega
      rw [e1, e2]
      exact ⟨rfl, rfl⟩
def callL (F : Nat) (v : Nat → Nat) (n : Nat) : List Cl := (List.range n).map (fun j => ⟨F, j, 0, v j⟩)
theorem callL_length (F : Nat) (v : Nat → Nat) (n : Nat) : (callL F v n).length = n := by simp [callL]
theorem callL_at (F : Nat) (v : Nat → Nat) (n k : Nat) (h : k < n) : (callL F v n).getD k ⟨0, 0, 0, 0⟩ = ⟨F, k, 0, v k⟩ := by
  unfold callL
  rw [List.getD_eq_getElem?_getD, List.getElem?_map, List.getElem?_range h]
  rfl
theorem clCells_append (a b : List Cl) : clCells (a ++ b) = clCells a ++ clCells b := by
  induction a with
  | nil => rfl
  | cons x r ih => simp [clCells, ih]
theorem callCells_is (F : Nat) (v : Nat → Nat) : ∀ n, callCells F v n = clCells (callL F v n)
  | 0 => rfl
  | n + 1 => by
    unfold callCells callL
    rw [List.range_succ, List.map_append, clCells_append, callCells_is F v n]
    rfl
theorem least (f : Nat → Nat) : ∀ n, 0 < n → ∃ m, (∀ i, i < n → m ≤ f i) ∧ ∃ i, i < n ∧ m = f i
  | 0, h => absurd h (by omega)
  | 1, _ => ⟨f 0, fun i hi => by rw [show i = 0 by omega]; exact Nat.le_refl _, 0, by omega, rfl⟩
  | n + 2, _ => by
    obtain ⟨m, h1, i, hi, h2⟩ := least f (n + 1) (by omega)
    by_cases e : m ≤ f (n + 1)
    · exact ⟨m, fun j hj => by
        by_cases ej : j = n + 1
        · rw [ej]; exact e
        · exact h1 j (by omega), i, by omega, h2⟩
    · exact ⟨f (n + 1), fun j hj => by
        by_cases ej : j = n + 1
        · rw [ej]; exact Nat.le_refl _
        · have := h1 j (by omega); omega, n + 1, by omega, rfl⟩
theorem link_play {N : Nat} {Pi Er G Fi : Int} {ps : List Int} {PA OA DA EA LA CA VA : Option Addr} {PC OC DC EC LC CL CC VL VC : Nat} {on dr er : List Int} {fat : Int} {v : Nat → Nat} (hc : CfOk N Pi Er G Fi ps) (hon : on.length = N) (ho : ∀ z ∈ on, 0 ≤ z ∧ z ≤ 3) (hd : dr.length ≤ 20) (he : er.length ≤ 20) (hf : 0 ≤ fat) (hf2 : fat < 2 * N) (hv : ∀ k, k < N → v k ≤ 255) :
    ∃ T, T + 5 ≤ 2 * N + 12 ∧ Play ⟨N, Pi, Er, G, Fi, ps, PA, PC, on, OA, OC, dr, DA, DC, er, EA, EC, callL (2 * N + 12) v N, LA, LC, 2, fat, 1000, 1000, CA, CL, CC, VA, VL, VC, 2 * N + 20⟩ T (2 * N + 12) v := by
  have n0 := hc.n0
  have n1 := hc.n1
  have hoi : ∀ i, i < N → 0 ≤ on.getD i 0 ∧ on.getD i 0 ≤ 3 := fun i hi => by
    have hm : on.getD i 0 ∈ on := by rw [List.getD_eq_getElem?_getD, List.getElem?_eq_getElem (by omega)]; exact List.getElem_mem _
    exact ho _ hm
  obtain ⟨T, h1, i, hi, h2⟩ := least (fun i => (on.getD i 0).toNat + N + i) N (by omega)
  have hT : ∀ i, i < N → (((on.getD i 0).toNat + N + i : Nat) : Int) = on.getD i 0 + N + i := fun i hi => by have := hoi i hi; omega
  have h0 := h1 0 (by omega)
  have h0' := hoi 0 (by omega)
  refine ⟨T, by omega, ⟨hc, hon, by show dr.length ≤ 60; omega, by show er.length ≤ 60; omega, by show (callL _ v N).length ≤ 100; rw [callL_length]; omega, .inr ⟨rfl, rfl, rfl, hf, hf2⟩, by show (0 : Int) ≤ 2 * N + 20; omega, by show 2 * (N : Int) + 20 ≤ 200; omega⟩, hoi, fun i hi => ?_, ⟨i, hi, ?_⟩, fun k hk => ?_, .inl (callL_length _ v N), Nat.le_of_eq (callL_length _ v N), hv, by omega⟩
  · have := h1 i hi
    have := hT i hi
    show (T : Int) ≤ on.getD i 0 + N + i
    omega
  · have := hT i hi
    show (T : Int) = on.getD i 0 + N + i
    omega
  · exact callL_at _ v N k (by simpa [callL] using hk)
theorem lineCells_at (r : Int) (f : Nat → Int × Int) : ∀ n s, s < n → (lineCells r f n)[s * 4]? = some (.int .i64 r) ∧ (lineCells r f n)[s * 4 + 2]? = some (.int .i64 (f s).1) ∧ (lineCells r f n)[s * 4 + 3]? = some (.int .i64 (f s).2)
  | 0, s, h => absurd h (by omega)
  | n + 1, s, h => by
    have hl := lineCells_length r f n
    unfold lineCells
    by_cases e : s < n
    · obtain ⟨h1, h2, h3⟩ := lineCells_at r f n s e
      rw [List.getElem?_append_left (by omega), List.getElem?_append_left (by omega), List.getElem?_append_left (by omega)]
      exact ⟨h1, h2, h3⟩
    · obtain rfl : s = n := by omega
      rw [List.getElem?_append_right (by omega), List.getElem?_append_right (by omega), List.getElem?_append_right (by omega), hl]
      have e0 : s * 4 - s * 4 = 0 := by omega
      have e1 : s * 4 + 2 - s * 4 = 2 := by omega
      have e2 : s * 4 + 3 - s * 4 = 3 := by omega
      rw [e0, e1, e2]
      exact ⟨rfl, rfl, rfl⟩
theorem course_log {c : NC} {T F : Nat} {v : Nat → Nat} {NB LO : Nat} {w : World} (P : Play c T F v) (hT : T + 2 ≤ F) (hF : F ≤ 1000) (H : Course c T F v NB LO (F + 2) w) : ∃ ND, w.cell? ⟨NB, 18, none⟩ = some (.slice (some ⟨ND, 0, none⟩) c.N c.N) ∧ ∀ i, i < c.N → ∃ n lv xs, w.cell? ⟨ND, i * 7 + 6, none⟩ = some lv ∧ w.ownsRow LO 48 4 lv n xs ∧ c.N + c.ps.length ≤ n ∧ n ≤ 10000 ∧ (∀ u ∈ xs, u.oneCell' = true) ∧ xs[(n - (c.N + c.ps.length)) * 4]? = some (.int .i64 F) ∧
    ∀ s, s < c.N → xs[(n - (c.N + c.ps.length)) * 4 + s * 4 + 2]? = some (.int .i64 2) ∧ xs[(n - (c.N + c.ps.length)) * 4 + s * 4 + 3]? = some (.int .i64 (v s)) := by
  obtain ⟨ND, base, m, lv, st, tm, was, ck, q, g, n, xs, H, I⟩ := H
  refine ⟨ND, H.nd.n, fun i hi => ⟨n i, lv i, xs i, H.cl i hi, H.own i hi, ?_⟩⟩
  obtain ⟨_, pre, f, hx, hf⟩ := I.p5 (by omega) i hi
  have hl := I.xl i hi
  have hn := I.hn i hi
  have n0 := P.ok.cf.n0
  have h0 := congrArg List.length hx
  rw [List.length_append, lineCells_length] at h0
  have hpre : pre.length = (n i - (c.N + c.ps.length)) * 4 := by omega
  have hr : ((F + 2 : Nat) : Int) - 2 = F := by omega
  refine ⟨by omega, by omega, fun u hu => by obtain ⟨z, rfl⟩ := I.x1 i hi u hu; rfl, ?_, fun s hs => ?_⟩
  · rw [hx, List.getElem?_append_right (by omega), hpre, Nat.sub_self, hr]
    exact (lineCells_at F f _ 0 (by omega)).1
  · have h4 := lineCells_at F f (c.N + c.ps.length) s (by omega)
    have hp : f s = (((payF F v F s).1 : Int), ((payF F v F s).2 : Int)) := hf s hs
    have e2 : (n i - (c.N + c.ps.length)) * 4 + s * 4 + 2 - pre.length = s * 4 + 2 := by omega
    have e3 : (n i - (c.N + c.ps.length)) * 4 + s * 4 + 3 - pre.length = s * 4 + 3 := by omega
    rw [hx, List.getElem?_append_right (by omega), List.getElem?_append_right (by omega), e2, e3, hr, h4.2.1, h4.2.2, hp]
    simp [payF]
theorem seq_own2 {ops : Array Oper} {rest : List Oper} {o : Oper} {a : Act} {Q : Exit → Act → World → Prop} {w : World} (t e : TypeId) (size bytes : Nat) (z : Value) (und : Tryz.prog.underlying t = some (.slice e))
    (inf : (Tryz.prog.info? e).map (fun i => (i.zero, i.size, i.bytes)) = some (some z, size, bytes)) (hzs : z.cells.size = size) (hsz : 0 < size) (hgd : o.guard = none) (s x : Operand)
    (ho : o.op = .call { callee := .builtin .append, args := #[s, x], argTypes := #[t, t] }) (base : Nat) (v : Value) (n : Nat) (xs : List Value) (hs : a.eval s = v) (hown : w.ownsRow base e size v n xs)
    (B : Nat) (cs : Array Value) (hx : a.eval x = .slice (some ⟨B, 0, none⟩) 1 1) (hB : w.heap[B]? = some (.cells cs e (0, 0))) (hcs : cs.size = size) (h1 : ∀ u ∈ cs.toList, u.oneCell' = true) (hn : n ≤ 1000) (hby : bytes ≤ 1000) (hbase : base ≤ w.heap.size)
    (h : ∀ g cap w', w'.ownsRow base e size (.slice (some ⟨g, 0, none⟩) (n + 1) cap) (n + 1) (xs ++ cs.toList) → But (fun b => base ≤ b ∧ v.ownBlock = some b) w w' → (v.ownBlock = some g ∨ g = w.heap.size) → wpList Tryz.prog ops Q rest (a.put o.dst (.slice (some ⟨g, 0, none⟩) (n + 1) cap)) w') :
    wpList Tryz.prog ops Q (o :: rest) a w := by
  obtain ⟨i0, hi, hz0, hz1, hz2⟩ := info_parts inf
  have hb : (n + 1) * bytes ≤ 1001 * 1000 := Nat.mul_le_mul (by omega) hby
  refine wpList_append_lies w hgd s x t ho base e i0 z size bytes und hi hz0 hz1 hz2 hzs hsz v n xs hs hown ⟨B, 0, none⟩ 1 1 cs.toList hx (by simp [hcs]) (World.news_of_block hB) h1 (by omega) (by unfold maxLen; omega) (by omega) hbase _ rfl ?_
  intro g cap w' hown' hgrow hat _
  exact h g cap w' hown' (But.grown (But.refl _ w) hgrow (fun q hq => .inl ⟨ownsRow_block hown hq, hq⟩)) hat
end Go.Proofs.YtdbempiompiioaaGreat.C9
