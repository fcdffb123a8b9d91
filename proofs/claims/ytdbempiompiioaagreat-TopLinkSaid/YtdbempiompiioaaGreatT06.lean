/- A slot going round, four: it goes on to a node: next to the owners, or one that is off. Conditions: the bounds stated in each theorem. -/
import Derived.Test.YtdbempiompiioaaGreatT04
import Derived.Test.YtdbempiompiioaaGreatT05
set_option linter.unusedVariables false
set_option linter.unusedSimpArgs false
namespace Go.Proofs.YtdbempiompiioaaGreat.A16
open Go.RowKit A1 A2 A3 A4 A5 A6 A7 A8 A9 A10 A11 A12 A13 A14 A15

set_option maxRecDepth 100000 in
set_option maxHeartbeats 2000000 in
theorem reach_far0 (N Pi Er G Fi : Int) (PA : Option Addr) (PL PC : Nat) (slot : Int) (TB UB SB DB n W m : Nat) (d0 s0 : ByteArray) (far st dv : Int) (w : World)
    (hc1 : ∀ w', Below w.heap.size w w' → Calls Tryz.prog 150 #[.pointer (some ⟨W, 0, none⟩), .int .i64 m, .int .i64 1] w' fun e w2 => e = .returned (.string d0) ∧ Below w'.heap.size w' w2)
    (hc2 : ∀ w', Below w.heap.size w w' → Calls Tryz.prog 150 #[.pointer (some ⟨W, 0, none⟩), .int .i64 m, .int .i64 2] w' fun e w2 => e = .returned (.string s0) ∧ Below w'.heap.size w' w2)
    (hd0 : Strm d0) (hs0 : s0.size ≤ 4000) (hm : m < n) (hn : n ≤ 12)
    (c0 : w.cell? ⟨W, 0, none⟩ = some (.int .i64 N)) (c1 : w.cell? ⟨W, 1, none⟩ = some (.int .i64 Pi)) (c2 : w.cell? ⟨W, 2, none⟩ = some (.int .i64 Er)) (c3 : w.cell? ⟨W, 3, none⟩ = some (.int .i64 G)) (c4 : w.cell? ⟨W, 4, none⟩ = some (.int .i64 Fi)) (c5 : w.cell? ⟨W, 5, none⟩ = some (.slice PA PL PC))
    (c13 : w.cell? ⟨W, 13, none⟩ = some (.int .i64 slot))
    (c15 : w.cell? ⟨W, 15, none⟩ = some (.slice (some ⟨TB, 0, none⟩) n n)) (c16 : w.cell? ⟨W, 16, none⟩ = some (.slice (some ⟨UB, 0, none⟩) n n)) (c17 : w.cell? ⟨W, 17, none⟩ = some (.slice (some ⟨SB, 0, none⟩) n n)) (c18 : w.cell? ⟨W, 18, none⟩ = some (.slice (some ⟨DB, 0, none⟩) n n))
    (k0 : ∃ v, w.cell? ⟨SB, m * 4, none⟩ = some v) (k1 : ∃ v, w.cell? ⟨SB, m * 4 + 1, none⟩ = some v) (k2 : ∃ v, w.cell? ⟨SB, m * 4 + 2, none⟩ = some v) (k3 : ∃ v, w.cell? ⟨SB, m * 4 + 3, none⟩ = some v) (k4 : ∃ v, w.cell? ⟨DB, m, none⟩ = some v)
    (fS : ∀ o, w.frozen? ⟨SB, o, none⟩ = false) (fD : ∀ o, w.frozen? ⟨DB, o, none⟩ = false) (hSD : SB ≠ DB) (hWS : W ≠ SB) (hWD : W ≠ DB) (hWl : W < w.heap.size) (hSl : SB < w.heap.size) (hDl : DB < w.heap.size)
    (hT : w.cell? ⟨TB, m, none⟩ = some (.int .i64 st)) (hTl : TB < w.heap.size) (hU : w.cell? ⟨UB, m, none⟩ = some (.int .i64 dv)) (hUl : UB < w.heap.size) (hPi : 0 ≤ Pi) (hPi2 : Pi ≤ 10000)
    (hfar : 2 ≤ far ∧ far ≤ 20) (hst : st = 0) :
    Calls Tryz.prog 106 #[.pointer (some ⟨W, 0, none⟩), .int .i64 m, .int .i64 far] w fun e w' => e = .returned (.tuple #[]) ∧ Laid w w' SB DB m d0 s0 ⟨#[]⟩ far := by
  have hm0 : (0 : Int) ≤ (m : Int) := by omega
  have hm1 : (m : Int) < (n : Int) := by omega
  have b1 : (far == 1) = false := beq_eq_false_iff_ne.mpr (by omega)
  have b2 : decide (far > 1) = true := by simp; omega
  obtain ⟨hfar, hfar2⟩ := hfar
  subst hst
  obtain ⟨v0, k0⟩ := k0
  obtain ⟨v1, k1⟩ := k1
  obtain ⟨v2, k2⟩ := k2
  obtain ⟨v3, k3⟩ := k3
  obtain ⟨v4, k4⟩ := k4
  have HDS := Lib.hid hd0
  have HC1 := Lib.hid hc1
  have HC2 := Lib.hid hc2
  clear hc1 hc2 hd0
  go_enter Tryz.func106, Tryz.ntmps106
  go_wp2_with fail
  refine (HC1.out _ (by repeat (first | exact Below.refl _ _ | refine Below.drew ?_ | refine below_drewN ?_ _ | refine Below.alloc ?_ (by simp) _))).mono ?_
  rintro e w1 ⟨rfl, hb1⟩
  have hz1 := hb1.size
  go_wp2_with fail
  refine (HC2.out _ ((show Below w.heap.size w _ by repeat (first | exact Below.refl _ _ | refine Below.drew ?_ | refine below_drewN ?_ _ | refine Below.alloc ?_ (by simp) _)).trans hb1)).mono ?_
  rintro e w2 ⟨rfl, hb2⟩
  have hz2 := hb2.size
  have hq := hb1.trans (hb2.mono hz1)
  have hfin := hq
  have lW := hWl
  have lS := hSl
  have lD := hDl
  have lT := hTl
  have lU := hUl
  have q : ∀ {b o v}, b < w.heap.size → w.cell? ⟨b, o, none⟩ = some v → (w2).cell? ⟨b, o, none⟩ = some v := fun {b o v} h hv => (hq.cell (p := ⟨b, o, none⟩) h).trans hv
  have qf : ∀ {b o}, b < w.heap.size → w.frozen? ⟨b, o, none⟩ = false → (w2).frozen? ⟨b, o, none⟩ = false := fun {b o} h hv => (hq.frozen (p := ⟨b, o, none⟩) h).trans hv
  replace c0 := q lW c0
  replace c1 := q lW c1
  replace c2 := q lW c2
  replace c3 := q lW c3
  replace c4 := q lW c4
  replace c5 := q lW c5
  replace c13 := q lW c13
  replace c15 := q lW c15
  replace c16 := q lW c16
  replace c17 := q lW c17
  replace c18 := q lW c18
  replace k0 := q lS k0
  replace k1 := q lS k1
  replace k2 := q lS k2
  replace k3 := q lS k3
  replace k4 := q lD k4
  replace hT := q lT hT
  replace fS := fun o => qf lS (fS o)
  replace fD := fun o => qf lD (fD o)
  replace hU := q lU hU
  clear q qf
  replace lW : W < w2.heap.size := by omega
  replace lS : SB < w2.heap.size := by omega
  replace lD : DB < w2.heap.size := by omega
  replace lT : TB < w2.heap.size := by omega
  replace lU : UB < w2.heap.size := by omega
  have nW := World.new_ne w2 _ c0
  have nT := World.new_ne w2 _ hT
  have nU := World.new_ne w2 _ hU
  have nS := World.new_ne w2 _ k0
  have nD := World.new_ne w2 _ k4
  clear hb1 hb2 hq
  have hq : Below w2.heap.size w2 (w2.alloc (.cells #[.string d0, .string s0, .string ⟨#[]⟩, .int .i64 far] 129)) := (Below.refl _ _).alloc (Nat.le_refl _) _
  have hsb : (w2.alloc (.cells #[.string d0, .string s0, .string ⟨#[]⟩, .int .i64 far] 129)).heap[w2.heap.size]? = some (.cells #[.string d0, .string s0, .string ⟨#[]⟩, .int .i64 far] 129 (0, 0)) := heap_alloc_new w2 _
  have HQ := Lib.hid hq
  have HS := Lib.hid hsb
  clear hq hsb
  go_wp2_with fail
  have hq := HQ.out
  have hsb := HS.out
  clear HQ HS
  generalize w2.alloc (.cells #[.string d0, .string s0, .string ⟨#[]⟩, .int .i64 far] 129) = wA at *
  have q : ∀ {b o v}, b < w2.heap.size → w2.cell? ⟨b, o, none⟩ = some v → (wA).cell? ⟨b, o, none⟩ = some v := fun {b o v} h hv => (hq.cell (p := ⟨b, o, none⟩) h).trans hv
  have qf : ∀ {b o}, b < w2.heap.size → w2.frozen? ⟨b, o, none⟩ = false → (wA).frozen? ⟨b, o, none⟩ = false := fun {b o} h hv => (hq.frozen (p := ⟨b, o, none⟩) h).trans hv
  replace c0 := q lW c0
  replace c1 := q lW c1
  replace c2 := q lW c2
  replace c3 := q lW c3
  replace c4 := q lW c4
  replace c5 := q lW c5
  replace c13 := q lW c13
  replace c15 := q lW c15
  replace c16 := q lW c16
  replace c17 := q lW c17
  replace c18 := q lW c18
  replace k0 := q lS k0
  replace k1 := q lS k1
  replace k2 := q lS k2
  replace k3 := q lS k3
  replace k4 := q lD k4
  replace hT := q lT hT
  replace fS := fun o => qf lS (fS o)
  replace fD := fun o => qf lD (fD o)
  clear q qf
  have z0 : (wA).cell? ⟨w2.heap.size, 0, none⟩ = some (.string d0) := by simp [World.cell?, hsb]
  have z1 : (wA).cell? ⟨w2.heap.size, 1, none⟩ = some (.string s0) := by simp [World.cell?, hsb]
  have z2 : (wA).cell? ⟨w2.heap.size, 2, none⟩ = some (.string ⟨#[]⟩) := by simp [World.cell?, hsb]
  have z3 : (wA).cell? ⟨w2.heap.size, 3, none⟩ = some (.int .i64 far) := by simp [World.cell?, hsb]
  have zf : (wA).frozen? ⟨w2.heap.size, 2, none⟩ = false := by simp [World.frozen?, hsb]
  have lX : w2.heap.size < wA.heap.size := heap_lt hsb
  replace hfin := hfin.trans (hq.mono (by omega))
  replace lW : W < wA.heap.size := by omega
  replace lS : SB < wA.heap.size := by omega
  replace lD : DB < wA.heap.size := by omega
  replace lT : TB < wA.heap.size := by omega
  replace lU : UB < wA.heap.size := by omega
  have xS : SB ≠ w2.heap.size := by omega
  have xD : DB ≠ w2.heap.size := by omega
  have xW : W ≠ w2.heap.size := by omega
  have hge : w.heap.size ≤ w2.heap.size := by omega
  have HSB := Lib.hid hsb
  clear nW nT nU nS nD hsb hU hq hz1 hz2
  generalize w2.heap.size = Sb at *
  clear c0 c1 c2 c3 c4 c5 c13 c15 c16 hT zf
  have hDS : DB ≠ SB := fun e => hSD e.symm
  have hSW : SB ≠ W := fun e => hWS e.symm
  have hDW : DB ≠ W := fun e => hWD e.symm
  go_region_held3 (fun w' => w'.cell? ⟨W, 17, none⟩ = some (.slice (some ⟨SB, 0, none⟩) n n) ∧ w'.cell? ⟨W, 18, none⟩ = some (.slice (some ⟨DB, 0, none⟩) n n) ∧ w'.cell? ⟨Sb, 0, none⟩ = some (.string d0) ∧ w'.cell? ⟨Sb, 1, none⟩ = some (.string s0) ∧ w'.cell? ⟨Sb, 2, none⟩ = some (.string ⟨#[]⟩) ∧ w'.cell? ⟨Sb, 3, none⟩ = some (.int .i64 far)) (go_keep) (fail)
  go_wp2
  go_end0
  exact ⟨rfl, (laid_of hfin hSl hDl hSD k0 k1 k2 k3 k4).drew⟩
set_option maxRecDepth 100000 in
set_option maxHeartbeats 2000000 in
theorem reach_near (N Pi Er G Fi : Int) (PA : Option Addr) (PL PC : Nat) (slot : Int) (TB UB SB DB n W m : Nat) (d0 s0 : ByteArray) (far st dv : Int) (w : World)
    (hc1 : ∀ w', Below w.heap.size w w' → Calls Tryz.prog 150 #[.pointer (some ⟨W, 0, none⟩), .int .i64 m, .int .i64 1] w' fun e w2 => e = .returned (.string d0) ∧ Below w'.heap.size w' w2)
    (hc2 : ∀ w', Below w.heap.size w w' → Calls Tryz.prog 150 #[.pointer (some ⟨W, 0, none⟩), .int .i64 m, .int .i64 2] w' fun e w2 => e = .returned (.string s0) ∧ Below w'.heap.size w' w2)
    (hd0 : Strm d0) (hs0 : s0.size ≤ 4000) (hm : m < n) (hn : n ≤ 12)
    (c0 : w.cell? ⟨W, 0, none⟩ = some (.int .i64 N)) (c1 : w.cell? ⟨W, 1, none⟩ = some (.int .i64 Pi)) (c2 : w.cell? ⟨W, 2, none⟩ = some (.int .i64 Er)) (c3 : w.cell? ⟨W, 3, none⟩ = some (.int .i64 G)) (c4 : w.cell? ⟨W, 4, none⟩ = some (.int .i64 Fi)) (c5 : w.cell? ⟨W, 5, none⟩ = some (.slice PA PL PC))
    (c13 : w.cell? ⟨W, 13, none⟩ = some (.int .i64 slot))
    (c15 : w.cell? ⟨W, 15, none⟩ = some (.slice (some ⟨TB, 0, none⟩) n n)) (c16 : w.cell? ⟨W, 16, none⟩ = some (.slice (some ⟨UB, 0, none⟩) n n)) (c17 : w.cell? ⟨W, 17, none⟩ = some (.slice (some ⟨SB, 0, none⟩) n n)) (c18 : w.cell? ⟨W, 18, none⟩ = some (.slice (some ⟨DB, 0, none⟩) n n))
    (k0 : ∃ v, w.cell? ⟨SB, m * 4, none⟩ = some v) (k1 : ∃ v, w.cell? ⟨SB, m * 4 + 1, none⟩ = some v) (k2 : ∃ v, w.cell? ⟨SB, m * 4 + 2, none⟩ = some v) (k3 : ∃ v, w.cell? ⟨SB, m * 4 + 3, none⟩ = some v) (k4 : ∃ v, w.cell? ⟨DB, m, none⟩ = some v)
    (fS : ∀ o, w.frozen? ⟨SB, o, none⟩ = false) (fD : ∀ o, w.frozen? ⟨DB, o, none⟩ = false) (hSD : SB ≠ DB) (hWS : W ≠ SB) (hWD : W ≠ DB) (hWl : W < w.heap.size) (hSl : SB < w.heap.size) (hDl : DB < w.heap.size)
    (hT : w.cell? ⟨TB, m, none⟩ = some (.int .i64 st)) (hTl : TB < w.heap.size) (hU : w.cell? ⟨UB, m, none⟩ = some (.int .i64 dv)) (hUl : UB < w.heap.size) (hPi : 0 ≤ Pi) (hPi2 : Pi ≤ 10000)
    (hfar : far = 1) (hst : st ≠ 0) (hslot : slot < N) :
    Calls Tryz.prog 106 #[.pointer (some ⟨W, 0, none⟩), .int .i64 m, .int .i64 far] w fun e w' => e = .returned (.tuple #[]) ∧ Laid w w' SB DB m (strF Pi st dv d0) s0 (outF false (strF Pi st dv d0) s0) far := by
  have hm0 : (0 : Int) ≤ (m : Int) := by omega
  have hm1 : (m : Int) < (n : Int) := by omega
  subst hfar
  have b3 : (st != 0) = true := bne_iff_ne.mpr hst
  have b4 : decide (slot ≥ N) = false := by simp; omega
  obtain ⟨v0, k0⟩ := k0
  obtain ⟨v1, k1⟩ := k1
  obtain ⟨v2, k2⟩ := k2
  obtain ⟨v3, k3⟩ := k3
  obtain ⟨v4, k4⟩ := k4
  obtain ⟨dd, hdd⟩ : ∃ dd, dd = strF Pi st dv d0 := ⟨_, rfl⟩
  rw [← hdd]
  have HDD := Lib.hid hdd
  have HDS : Hid (Strm dd) := by rw [hdd]; exact str_strm hd0
  clear hdd
  have HC1 := Lib.hid hc1
  have HC2 := Lib.hid hc2
  clear hc1 hc2 hst hd0
  go_enter Tryz.func106, Tryz.ntmps106
  go_wp2_with fail
  refine (HC1.out _ (by repeat (first | exact Below.refl _ _ | refine Below.drew ?_ | refine below_drewN ?_ _ | refine Below.alloc ?_ (by simp) _))).mono ?_
  rintro e w1 ⟨rfl, hb1⟩
  have hz1 := hb1.size
  go_wp2_with fail
  refine (HC2.out _ ((show Below w.heap.size w _ by repeat (first | exact Below.refl _ _ | refine Below.drew ?_ | refine below_drewN ?_ _ | refine Below.alloc ?_ (by simp) _)).trans hb1)).mono ?_
  rintro e w2 ⟨rfl, hb2⟩
  have hz2 := hb2.size
  have hq := hb1.trans (hb2.mono hz1)
  have hfin := hq
  have lW := hWl
  have lS := hSl
  have lD := hDl
  have lT := hTl
  have lU := hUl
  have q : ∀ {b o v}, b < w.heap.size → w.cell? ⟨b, o, none⟩ = some v → (w2).cell? ⟨b, o, none⟩ = some v := fun {b o v} h hv => (hq.cell (p := ⟨b, o, none⟩) h).trans hv
  have qf : ∀ {b o}, b < w.heap.size → w.frozen? ⟨b, o, none⟩ = false → (w2).frozen? ⟨b, o, none⟩ = false := fun {b o} h hv => (hq.frozen (p := ⟨b, o, none⟩) h).trans hv
  replace c0 := q lW c0
  replace c1 := q lW c1
  replace c2 := q lW c2
  replace c3 := q lW c3
  replace c4 := q lW c4
  replace c5 := q lW c5
  replace c13 := q lW c13
  replace c15 := q lW c15
  replace c16 := q lW c16
  replace c17 := q lW c17
  replace c18 := q lW c18
  replace k0 := q lS k0
  replace k1 := q lS k1
  replace k2 := q lS k2
  replace k3 := q lS k3
  replace k4 := q lD k4
  replace hT := q lT hT
  replace fS := fun o => qf lS (fS o)
  replace fD := fun o => qf lD (fD o)
  replace hU := q lU hU
  clear q qf
  replace lW : W < w2.heap.size := by omega
  replace lS : SB < w2.heap.size := by omega
  replace lD : DB < w2.heap.size := by omega
  replace lT : TB < w2.heap.size := by omega
  replace lU : UB < w2.heap.size := by omega
  have nW := World.new_ne w2 _ c0
  have nT := World.new_ne w2 _ hT
  have nU := World.new_ne w2 _ hU
  have nS := World.new_ne w2 _ k0
  have nD := World.new_ne w2 _ k4
  clear hb1 hb2 hq
  go_wp2_with fail
  refine wp_region_held_drew (S := fun w' => w'.cell? ⟨W, 0, none⟩ = some (.int .i64 N) ∧ w'.cell? ⟨W, 1, none⟩ = some (.int .i64 Pi) ∧ w'.cell? ⟨W, 2, none⟩ = some (.int .i64 Er) ∧ w'.cell? ⟨W, 3, none⟩ = some (.int .i64 G) ∧ w'.cell? ⟨W, 4, none⟩ = some (.int .i64 Fi) ∧ w'.cell? ⟨W, 5, none⟩ = some (.slice PA PL PC) ∧ w'.cell? ⟨W, 15, none⟩ = some (.slice (some ⟨TB, 0, none⟩) n n) ∧ w'.cell? ⟨W, 16, none⟩ = some (.slice (some ⟨UB, 0, none⟩) n n) ∧ w'.cell? ⟨TB, m, none⟩ = some (.int .i64 st) ∧ w'.cell? ⟨UB, m, none⟩ = some (.int .i64 dv)) (by kernel_rfl) (by go_keep) (fun hHeld => ?_)
  refine rgT 0 ?_
  refine rgT 1 ?_
  refine rgT 2 ?_
  refine rgT 3 ?_
  refine rgT 4 ?_
  refine rgT 5 ?_
  refine rgT 6 ?_
  refine rgT 7 ?_
  refine rgT 8 ?_
  refine rgT 9 ?_
  refine rgT 10 ?_
  refine rgT 11 ?_
  refine rgT 12 ?_
  refine rgT 13 ?_
  refine rgT 14 ?_
  refine rgT 15 ?_
  refine rgT 16 ?_
  refine rgT 17 ?_
  refine rgT 18 ?_
  refine wpAnyH_ready (rs := [19]) (by kernel_rfl) (by simp) (AllReadyH.cons rfl (fun K hK => ?_) AllReadyH.nil)
  go_simp
  refine hK.out _ _ (by assumption) (fun hHeld => ?_)
  clear hK K
  refine wpAnyH_ready (rs := [20]) (by kernel_rfl) (by simp) (AllReadyH.cons rfl (fun K hK => ?_) AllReadyH.nil)
  go_simp
  refine (guard_Stream N Pi Er G Fi PA PL PC st dv d0 _ hPi hPi2).mono ?_
  rw [show (if (st : Int) ≠ 4 ∨ -(2 * Pi) ≤ dv ∧ dv ≤ 2 * Pi then d0 else (⟨#[]⟩ : ByteArray)) = dd from HDD.out.symm]
  rintro e w3 ⟨rfl, hb3⟩
  have hq : Below w2.heap.size w2 w3 := ((Below.refl w2.heap.size w2).alloc (Nat.le_refl _) (.cells #[.string d0, .string s0, .string ⟨#[]⟩, .int .i64 1] 129)).trans (Below.mono (show Below (w2.heap.size + 1) _ w3 from ⟨hb3.os, hb3.tape, hb3.output, by have := hb3.size; simpa using this, fun k hk => hb3.block k (by simpa using hk)⟩) (by omega))
  have hsb : w3.heap[w2.heap.size]? = some (.cells #[.string d0, .string s0, .string ⟨#[]⟩, .int .i64 1] 129 (0, 0)) := (hb3.block _ (by simp)).trans (heap_alloc_new w2 _)
  go_simp
  have hx : ∀ {b o v}, b < w2.heap.size → w2.cell? ⟨b, o, none⟩ = some v → w3.cell? ⟨b, o, none⟩ = some v := fun {b o v} h hv => (hq.cell (p := ⟨b, o, none⟩) h).trans hv
  refine hK.out _ _ ⟨hx lW c0, hx lW c1, hx lW c2, hx lW c3, hx lW c4, hx lW c5, hx lW c15, hx lW c16, hx lT hT, hx lU hU⟩ (fun hHeld => ?_)
  clear hK K hx
  have x2 : w3.cell? ⟨w2.heap.size, 0, none⟩ = some (.string d0) := by simp [World.cell?, hsb]
  have y2 : w3.frozen? ⟨w2.heap.size, 0, none⟩ = false := by simp [World.frozen?, hsb]
  refine rgT 21 ?_
  refine wpAnyH_ready (rs := [22]) (by kernel_rfl) (by simp) (AllReadyH.cons rfl (fun K hK => ?_) AllReadyH.nil)
  go_simp
  replace hq : Below w2.heap.size w2 (w3.setCell ⟨w2.heap.size, 0, none⟩ (.string dd)) := hq.setCell (by simp) _
  have hx : ∀ {b o v}, b < w2.heap.size → w2.cell? ⟨b, o, none⟩ = some v → (w3.setCell ⟨w2.heap.size, 0, none⟩ (.string dd)).cell? ⟨b, o, none⟩ = some v := fun {b o v} h hv => (hq.cell (p := ⟨b, o, none⟩) h).trans hv
  refine hK.out _ _ ⟨hx lW c0, hx lW c1, hx lW c2, hx lW c3, hx lW c4, hx lW c5, hx lW c15, hx lW c16, hx lT hT, hx lU hU⟩ (fun hHeld => ?_)
  clear hK K hx x2 y2
  refine wpAnyH_done (by kernel_rfl) ?_ _
  replace hsb : (w3.setCell ⟨w2.heap.size, 0, none⟩ (.string dd)).heap[w2.heap.size]? = some (.cells #[.string dd, .string s0, .string ⟨#[]⟩, .int .i64 1] 129 (0, 0)) := by
    simp [World.setCell, Array.getElem?_modify, hsb]
  clear hHeld hb3
  generalize w3.setCell ⟨w2.heap.size, 0, none⟩ (.string dd) = wA at *
  have q : ∀ {b o v}, b < w2.heap.size → w2.cell? ⟨b, o, none⟩ = some v → (wA).cell? ⟨b, o, none⟩ = some v := fun {b o v} h hv => (hq.cell (p := ⟨b, o, none⟩) h).trans hv
  have qf : ∀ {b o}, b < w2.heap.size → w2.frozen? ⟨b, o, none⟩ = false → (wA).frozen? ⟨b, o, none⟩ = false := fun {b o} h hv => (hq.frozen (p := ⟨b, o, none⟩) h).trans hv
  replace c0 := q lW c0
  replace c1 := q lW c1
  replace c2 := q lW c2
  replace c3 := q lW c3
  replace c4 := q lW c4
  replace c5 := q lW c5
  replace c13 := q lW c13
  replace c15 := q lW c15
  replace c16 := q lW c16
  replace c17 := q lW c17
  replace c18 := q lW c18
  replace k0 := q lS k0
  replace k1 := q lS k1
  replace k2 := q lS k2
  replace k3 := q lS k3
  replace k4 := q lD k4
  replace hT := q lT hT
  replace fS := fun o => qf lS (fS o)
  replace fD := fun o => qf lD (fD o)
  clear q qf
  have z0 : (wA).cell? ⟨w2.heap.size, 0, none⟩ = some (.string dd) := by simp [World.cell?, hsb]
  have z1 : (wA).cell? ⟨w2.heap.size, 1, none⟩ = some (.string s0) := by simp [World.cell?, hsb]
  have z2 : (wA).cell? ⟨w2.heap.size, 2, none⟩ = some (.string ⟨#[]⟩) := by simp [World.cell?, hsb]
  have z3 : (wA).cell? ⟨w2.heap.size, 3, none⟩ = some (.int .i64 1) := by simp [World.cell?, hsb]
  have zf : (wA).frozen? ⟨w2.heap.size, 2, none⟩ = false := by simp [World.frozen?, hsb]
  have lX : w2.heap.size < wA.heap.size := heap_lt hsb
  replace hfin := hfin.trans (hq.mono (by omega))
  replace lW : W < wA.heap.size := by omega
  replace lS : SB < wA.heap.size := by omega
  replace lD : DB < wA.heap.size := by omega
  replace lT : TB < wA.heap.size := by omega
  replace lU : UB < wA.heap.size := by omega
  have xS : SB ≠ w2.heap.size := by omega
  have xD : DB ≠ w2.heap.size := by omega
  have xW : W ≠ w2.heap.size := by omega
  have hge : w.heap.size ≤ w2.heap.size := by omega
  have HSB := Lib.hid hsb
  clear nW nT nU nS nD hsb hU hq hz1 hz2
  generalize w2.heap.size = Sb at *
  go_wp2_with fail
  refine wp_region_held_drew (S := fun w' => w'.cell? ⟨Sb, 0, none⟩ = some (.string dd) ∧ w'.cell? ⟨Sb, 1, none⟩ = some (.string s0) ∧ w'.cell? ⟨W, 13, none⟩ = some (.int .i64 slot) ∧ w'.cell? ⟨W, 0, none⟩ = some (.int .i64 N)) (by kernel_rfl) (by go_keep) (fun hHeld => ?_)
  refine rgT 0 ?_
  refine rgT 1 ?_
  refine rgT 2 ?_
  refine rgT 3 ?_
  refine rgT 4 ?_
  refine rgT 5 ?_
  refine rgT 6 ?_
  refine rgT 7 ?_
  refine rgT 8 ?_
  refine rgT 9 ?_
  refine rgT 10 ?_
  refine rgT 11 ?_
  refine rgT 12 ?_
  refine rgT 13 ?_
  refine rgT 14 ?_
  refine rgT 15 ?_
  refine rgT 16 ?_
  refine rgT 17 ?_
  refine wpAnyH_ready (rs := [18]) (by kernel_rfl) (by simp) (AllReadyH.cons rfl (fun K hK => ?_) AllReadyH.nil)
  go_simp
  refine (lane_Out' _ _ _ _ HDS.out hs0).mono ?_
  rintro e w6 ⟨rfl, hb6⟩
  have hq : Below wA.heap.size wA w6 := ⟨hb6.os, hb6.tape, hb6.output, by have := hb6.size; simpa using this, fun k hk => hb6.block k (by simpa using hk)⟩
  have hsb := (hq.block _ lX).trans HSB.out
  go_simp
  have hx : ∀ {b o v}, b < wA.heap.size → wA.cell? ⟨b, o, none⟩ = some v → w6.cell? ⟨b, o, none⟩ = some v := fun {b o v} h hv => (hq.cell (p := ⟨b, o, none⟩) h).trans hv
  refine hK.out _ _ ⟨hx lX z0, hx lX z1, hx lW c13, hx lW c0⟩ (fun hHeld => ?_)
  clear hK K
  have x2 : w6.cell? ⟨Sb, 2, none⟩ = some (.string ⟨#[]⟩) := hx lX z2
  have y2 : w6.frozen? ⟨Sb, 2, none⟩ = false := (hq.frozen (p := ⟨Sb, 2, none⟩) lX).trans zf
  refine rgT 19 ?_
  refine wpAnyH_ready (rs := [20]) (by kernel_rfl) (by simp) (AllReadyH.cons rfl (fun K hK => ?_) AllReadyH.nil)
  go_simp
  refine hK.out _ _ ?_ (fun hHeld => ?_)
  · have n0 : (⟨Sb, 2, none⟩ : Addr) ≠ ⟨Sb, 0, none⟩ := by simp
    have n1 : (⟨Sb, 2, none⟩ : Addr) ≠ ⟨Sb, 1, none⟩ := by simp
    have n2 : (⟨Sb, 2, none⟩ : Addr) ≠ ⟨W, 13, none⟩ := by simp
    have n3 : (⟨Sb, 2, none⟩ : Addr) ≠ ⟨W, 0, none⟩ := by simp
    refine ⟨(World.cell?_setCell_other _ _ _ _ n0).trans (hx lX z0), (World.cell?_setCell_other _ _ _ _ n1).trans (hx lX z1), (World.cell?_setCell_other _ _ _ _ n2).trans (hx lW c13), (World.cell?_setCell_other _ _ _ _ n3).trans (hx lW c0)⟩
  clear hK K
  refine wpAnyH_done (by kernel_rfl) ?_ _
  have lX6 : SB < w6.heap.size ∧ DB < w6.heap.size ∧ W < w6.heap.size ∧ TB < w6.heap.size := by have := hq.size; omega
  have hr : Below w.heap.size w (w6.setCell ⟨Sb, 2, none⟩ (.string (outF false dd s0))) := (hfin.trans (hq.mono (by omega))).setCell (p := ⟨Sb, 2, none⟩) hge _
  have y : ∀ {b o v}, b < wA.heap.size → b ≠ Sb → wA.cell? ⟨b, o, none⟩ = some v → (w6.setCell ⟨Sb, 2, none⟩ (.string (outF false dd s0))).cell? ⟨b, o, none⟩ = some v := fun {b o v} h hb hv => (World.cell?_setCell_other _ _ _ _ (fun e => hb (by injection e with e1; exact e1.symm))).trans (hx h hv)
  have yf : ∀ {b o}, b < wA.heap.size → wA.frozen? ⟨b, o, none⟩ = false → (w6.setCell ⟨Sb, 2, none⟩ (.string (outF false dd s0))).frozen? ⟨b, o, none⟩ = false := fun {b o} h hv => (World.frozen?_setCell _ _ _ _).trans ((hq.frozen (p := ⟨b, o, none⟩) h).trans hv)
  replace c17 := y lW xW c17
  replace c18 := y lW xW c18
  replace k0 := y lS xS k0
  replace k1 := y lS xS k1
  replace k2 := y lS xS k2
  replace k3 := y lS xS k3
  replace k4 := y lD xD k4
  replace fS := fun o => yf lS (fS o)
  replace fD := fun o => yf lD (fD o)
  replace hsb : (w6.setCell ⟨Sb, 2, none⟩ (.string (outF false dd s0))).heap[Sb]? = some (.cells #[.string dd, .string s0, .string (outF false dd s0), .int .i64 1] 129 (0, 0)) := by simp [World.setCell, Array.getElem?_modify, hsb]
  clear x2 y2 z0 z1 z2 z3 zf hHeld hx y yf hq hb6 hfin
  generalize w6.setCell ⟨Sb, 2, none⟩ (.string (outF false dd s0)) = w7 at *
  have z0 : (w7).cell? ⟨Sb, 0, none⟩ = some (.string dd) := by simp [World.cell?, hsb]
  have z1 : (w7).cell? ⟨Sb, 1, none⟩ = some (.string s0) := by simp [World.cell?, hsb]
  have z2 : (w7).cell? ⟨Sb, 2, none⟩ = some (.string (outF false dd s0)) := by simp [World.cell?, hsb]
  have z3 : (w7).cell? ⟨Sb, 3, none⟩ = some (.int .i64 1) := by simp [World.cell?, hsb]
  have zf : (w7).frozen? ⟨Sb, 2, none⟩ = false := by simp [World.frozen?, hsb]
  have hfin := hr
  clear hsb hr
  clear c0 c1 c2 c3 c4 c5 c13 c15 c16 hT zf
  go_wp2
  have hDS : DB ≠ SB := fun e => hSD e.symm
  have hSW : SB ≠ W := fun e => hWS e.symm
  have hDW : DB ≠ W := fun e => hWD e.symm
  go_region_held3 (fun w' => w'.cell? ⟨W, 17, none⟩ = some (.slice (some ⟨SB, 0, none⟩) n n) ∧ w'.cell? ⟨W, 18, none⟩ = some (.slice (some ⟨DB, 0, none⟩) n n) ∧ w'.cell? ⟨Sb, 0, none⟩ = some (.string dd) ∧ w'.cell? ⟨Sb, 1, none⟩ = some (.string s0) ∧ w'.cell? ⟨Sb, 2, none⟩ = some (.string (outF false dd s0)) ∧ w'.cell? ⟨Sb, 3, none⟩ = some (.int .i64 1)) (go_keep) (fail)
  go_wp2
  go_end0
  exact ⟨rfl, (laid_of hfin hSl hDl hSD k0 k1 k2 k3 k4).drew⟩
set_option maxRecDepth 100000 in
set_option maxHeartbeats 2000000 in
theorem reach_nearPair (N Pi Er G Fi : Int) (PA : Option Addr) (PL PC : Nat) (slot : Int) (TB UB SB DB n W m : Nat) (d0 s0 : ByteArray) (far st dv : Int) (w : World)
    (hc1 : ∀ w', Below w.heap.size w w' → Calls Tryz.prog 150 #[.pointer (some ⟨W, 0, none⟩), .int .i64 m, .int .i64 1] w' fun e w2 => e = .returned (.string d0) ∧ Below w'.heap.size w' w2)
    (hc2 : ∀ w', Below w.heap.size w w' → Calls Tryz.prog 150 #[.pointer (some ⟨W, 0, none⟩), .int .i64 m, .int .i64 2] w' fun e w2 => e = .returned (.string s0) ∧ Below w'.heap.size w' w2)
    (hd0 : Strm d0) (hs0 : s0.size ≤ 4000) (hm : m < n) (hn : n ≤ 12)
    (c0 : w.cell? ⟨W, 0, none⟩ = some (.int .i64 N)) (c1 : w.cell? ⟨W, 1, none⟩ = some (.int .i64 Pi)) (c2 : w.cell? ⟨W, 2, none⟩ = some (.int .i64 Er)) (c3 : w.cell? ⟨W, 3, none⟩ = some (.int .i64 G)) (c4 : w.cell? ⟨W, 4, none⟩ = some (.int .i64 Fi)) (c5 : w.cell? ⟨W, 5, none⟩ = some (.slice PA PL PC))
    (c13 : w.cell? ⟨W, 13, none⟩ = some (.int .i64 slot))
    (c15 : w.cell? ⟨W, 15, none⟩ = some (.slice (some ⟨TB, 0, none⟩) n n)) (c16 : w.cell? ⟨W, 16, none⟩ = some (.slice (some ⟨UB, 0, none⟩) n n)) (c17 : w.cell? ⟨W, 17, none⟩ = some (.slice (some ⟨SB, 0, none⟩) n n)) (c18 : w.cell? ⟨W, 18, none⟩ = some (.slice (some ⟨DB, 0, none⟩) n n))
    (k0 : ∃ v, w.cell? ⟨SB, m * 4, none⟩ = some v) (k1 : ∃ v, w.cell? ⟨SB, m * 4 + 1, none⟩ = some v) (k2 : ∃ v, w.cell? ⟨SB, m * 4 + 2, none⟩ = some v) (k3 : ∃ v, w.cell? ⟨SB, m * 4 + 3, none⟩ = some v) (k4 : ∃ v, w.cell? ⟨DB, m, none⟩ = some v)
    (fS : ∀ o, w.frozen? ⟨SB, o, none⟩ = false) (fD : ∀ o, w.frozen? ⟨DB, o, none⟩ = false) (hSD : SB ≠ DB) (hWS : W ≠ SB) (hWD : W ≠ DB) (hWl : W < w.heap.size) (hSl : SB < w.heap.size) (hDl : DB < w.heap.size)
    (hT : w.cell? ⟨TB, m, none⟩ = some (.int .i64 st)) (hTl : TB < w.heap.size) (hU : w.cell? ⟨UB, m, none⟩ = some (.int .i64 dv)) (hUl : UB < w.heap.size) (hPi : 0 ≤ Pi) (hPi2 : Pi ≤ 10000)
    (hfar : far = 1) (hst : st ≠ 0) (hslot : N ≤ slot) :
    Calls Tryz.prog 106 #[.pointer (some ⟨W, 0, none⟩), .int .i64 m, .int .i64 far] w fun e w' => e = .returned (.tuple #[]) ∧ Laid w w' SB DB m (strF Pi st dv d0) s0 (outF true (strF Pi st dv d0) s0) far := by
  have hm0 : (0 : Int) ≤ (m : Int) := by omega
  have hm1 : (m : Int) < (n : Int) := by omega
  subst hfar
  have b3 : (st != 0) = true := bne_iff_ne.mpr hst
  have b4 : decide (slot ≥ N) = true := by simp; omega
  obtain ⟨v0, k0⟩ := k0
  obtain ⟨v1, k1⟩ := k1
  obtain ⟨v2, k2⟩ := k2
  obtain ⟨v3, k3⟩ := k3
  obtain ⟨v4, k4⟩ := k4
  obtain ⟨dd, hdd⟩ : ∃ dd, dd = strF Pi st dv d0 := ⟨_, rfl⟩
  rw [← hdd]
  have HDD := Lib.hid hdd
  have HDS : Hid (Strm dd) := by rw [hdd]; exact str_strm hd0
  clear hdd
  have HC1 := Lib.hid hc1
  have HC2 := Lib.hid hc2
  clear hc1 hc2 hst hd0
  go_enter Tryz.func106, Tryz.ntmps106
  go_wp2_with fail
  refine (HC1.out _ (by repeat (first | exact Below.refl _ _ | refine Below.drew ?_ | refine below_drewN ?_ _ | refine Below.alloc ?_ (by simp) _))).mono ?_
  rintro e w1 ⟨rfl, hb1⟩
  have hz1 := hb1.size
  go_wp2_with fail
  refine (HC2.out _ ((show Below w.heap.size w _ by repeat (first | exact Below.refl _ _ | refine Below.drew ?_ | refine below_drewN ?_ _ | refine Below.alloc ?_ (by simp) _)).trans hb1)).mono ?_
  rintro e w2 ⟨rfl, hb2⟩
  have hz2 := hb2.size
  have hq := hb1.trans (hb2.mono hz1)
  have hfin := hq
  have lW := hWl
  have lS := hSl
  have lD := hDl
  have lT := hTl
  have lU := hUl
  have q : ∀ {b o v}, b < w.heap.size → w.cell? ⟨b, o, none⟩ = some v → (w2).cell? ⟨b, o, none⟩ = some v := fun {b o v} h hv => (hq.cell (p := ⟨b, o, none⟩) h).trans hv
  have qf : ∀ {b o}, b < w.heap.size → w.frozen? ⟨b, o, none⟩ = false → (w2).frozen? ⟨b, o, none⟩ = false := fun {b o} h hv => (hq.frozen (p := ⟨b, o, none⟩) h).trans hv
  replace c0 := q lW c0
  replace c1 := q lW c1
  replace c2 := q lW c2
  replace c3 := q lW c3
  replace c4 := q lW c4
  replace c5 := q lW c5
  replace c13 := q lW c13
  replace c15 := q lW c15
  replace c16 := q lW c16
  replace c17 := q lW c17
  replace c18 := q lW c18
  replace k0 := q lS k0
  replace k1 := q lS k1
  replace k2 := q lS k2
  replace k3 := q lS k3
  replace k4 := q lD k4
  replace hT := q lT hT
  replace fS := fun o => qf lS (fS o)
  replace fD := fun o => qf lD (fD o)
  replace hU := q lU hU
  clear q qf
  replace lW : W < w2.heap.size := by omega
  replace lS : SB < w2.heap.size := by omega
  replace lD : DB < w2.heap.size := by omega
  replace lT : TB < w2.heap.size := by omega
  replace lU : UB < w2.heap.size := by omega
  have nW := World.new_ne w2 _ c0
  have nT := World.new_ne w2 _ hT
  have nU := World.new_ne w2 _ hU
  have nS := World.new_ne w2 _ k0
  have nD := World.new_ne w2 _ k4
  clear hb1 hb2 hq
  go_wp2_with fail
  refine wp_region_held_drew (S := fun w' => w'.cell? ⟨W, 0, none⟩ = some (.int .i64 N) ∧ w'.cell? ⟨W, 1, none⟩ = some (.int .i64 Pi) ∧ w'.cell? ⟨W, 2, none⟩ = some (.int .i64 Er) ∧ w'.cell? ⟨W, 3, none⟩ = some (.int .i64 G) ∧ w'.cell? ⟨W, 4, none⟩ = some (.int .i64 Fi) ∧ w'.cell? ⟨W, 5, none⟩ = some (.slice PA PL PC) ∧ w'.cell? ⟨W, 15, none⟩ = some (.slice (some ⟨TB, 0, none⟩) n n) ∧ w'.cell? ⟨W, 16, none⟩ = some (.slice (some ⟨UB, 0, none⟩) n n) ∧ w'.cell? ⟨TB, m, none⟩ = some (.int .i64 st) ∧ w'.cell? ⟨UB, m, none⟩ = some (.int .i64 dv)) (by kernel_rfl) (by go_keep) (fun hHeld => ?_)
  refine rgT 0 ?_
  refine rgT 1 ?_
  refine rgT 2 ?_
  refine rgT 3 ?_
  refine rgT 4 ?_
  refine rgT 5 ?_
  refine rgT 6 ?_
  refine rgT 7 ?_
  refine rgT 8 ?_
  refine rgT 9 ?_
  refine rgT 10 ?_
  refine rgT 11 ?_
  refine rgT 12 ?_
  refine rgT 13 ?_
  refine rgT 14 ?_
  refine rgT 15 ?_
  refine rgT 16 ?_
  refine rgT 17 ?_
  refine rgT 18 ?_
  refine wpAnyH_ready (rs := [19]) (by kernel_rfl) (by simp) (AllReadyH.cons rfl (fun K hK => ?_) AllReadyH.nil)
  go_simp
  refine hK.out _ _ (by assumption) (fun hHeld => ?_)
  clear hK K
  refine wpAnyH_ready (rs := [20]) (by kernel_rfl) (by simp) (AllReadyH.cons rfl (fun K hK => ?_) AllReadyH.nil)
  go_simp
  refine (guard_Stream N Pi Er G Fi PA PL PC st dv d0 _ hPi hPi2).mono ?_
  rw [show (if (st : Int) ≠ 4 ∨ -(2 * Pi) ≤ dv ∧ dv ≤ 2 * Pi then d0 else (⟨#[]⟩ : ByteArray)) = dd from HDD.out.symm]
  rintro e w3 ⟨rfl, hb3⟩
  have hq : Below w2.heap.size w2 w3 := ((Below.refl w2.heap.size w2).alloc (Nat.le_refl _) (.cells #[.string d0, .string s0, .string ⟨#[]⟩, .int .i64 1] 129)).trans (Below.mono (show Below (w2.heap.size + 1) _ w3 from ⟨hb3.os, hb3.tape, hb3.output, by have := hb3.size; simpa using this, fun k hk => hb3.block k (by simpa using hk)⟩) (by omega))
  have hsb : w3.heap[w2.heap.size]? = some (.cells #[.string d0, .string s0, .string ⟨#[]⟩, .int .i64 1] 129 (0, 0)) := (hb3.block _ (by simp)).trans (heap_alloc_new w2 _)
  go_simp
  have hx : ∀ {b o v}, b < w2.heap.size → w2.cell? ⟨b, o, none⟩ = some v → w3.cell? ⟨b, o, none⟩ = some v := fun {b o v} h hv => (hq.cell (p := ⟨b, o, none⟩) h).trans hv
  refine hK.out _ _ ⟨hx lW c0, hx lW c1, hx lW c2, hx lW c3, hx lW c4, hx lW c5, hx lW c15, hx lW c16, hx lT hT, hx lU hU⟩ (fun hHeld => ?_)
  clear hK K hx
  have x2 : w3.cell? ⟨w2.heap.size, 0, none⟩ = some (.string d0) := by simp [World.cell?, hsb]
  have y2 : w3.frozen? ⟨w2.heap.size, 0, none⟩ = false := by simp [World.frozen?, hsb]
  refine rgT 21 ?_
  refine wpAnyH_ready (rs := [22]) (by kernel_rfl) (by simp) (AllReadyH.cons rfl (fun K hK => ?_) AllReadyH.nil)
  go_simp
  replace hq : Below w2.heap.size w2 (w3.setCell ⟨w2.heap.size, 0, none⟩ (.string dd)) := hq.setCell (by simp) _
  have hx : ∀ {b o v}, b < w2.heap.size → w2.cell? ⟨b, o, none⟩ = some v → (w3.setCell ⟨w2.heap.size, 0, none⟩ (.string dd)).cell? ⟨b, o, none⟩ = some v := fun {b o v} h hv => (hq.cell (p := ⟨b, o, none⟩) h).trans hv
  refine hK.out _ _ ⟨hx lW c0, hx lW c1, hx lW c2, hx lW c3, hx lW c4, hx lW c5, hx lW c15, hx lW c16, hx lT hT, hx lU hU⟩ (fun hHeld => ?_)
  clear hK K hx x2 y2
  refine wpAnyH_done (by kernel_rfl) ?_ _
  replace hsb : (w3.setCell ⟨w2.heap.size, 0, none⟩ (.string dd)).heap[w2.heap.size]? = some (.cells #[.string dd, .string s0, .string ⟨#[]⟩, .int .i64 1] 129 (0, 0)) := by
    simp [World.setCell, Array.getElem?_modify, hsb]
  clear hHeld hb3
  generalize w3.setCell ⟨w2.heap.size, 0, none⟩ (.string dd) = wA at *
  have q : ∀ {b o v}, b < w2.heap.size → w2.cell? ⟨b, o, none⟩ = some v → (wA).cell? ⟨b, o, none⟩ = some v := fun {b o v} h hv => (hq.cell (p := ⟨b, o, none⟩) h).trans hv
  have qf : ∀ {b o}, b < w2.heap.size → w2.frozen? ⟨b, o, none⟩ = false → (wA).frozen? ⟨b, o, none⟩ = false := fun {b o} h hv => (hq.frozen (p := ⟨b, o, none⟩) h).trans hv
  replace c0 := q lW c0
  replace c1 := q lW c1
  replace c2 := q lW c2
  replace c3 := q lW c3
  replace c4 := q lW c4
  replace c5 := q lW c5
  replace c13 := q lW c13
  replace c15 := q lW c15
  replace c16 := q lW c16
  replace c17 := q lW c17
  replace c18 := q lW c18
  replace k0 := q lS k0
  replace k1 := q lS k1
  replace k2 := q lS k2
  replace k3 := q lS k3
  replace k4 := q lD k4
  replace hT := q lT hT
  replace fS := fun o => qf lS (fS o)
  replace fD := fun o => qf lD (fD o)
  clear q qf
  have z0 : (wA).cell? ⟨w2.heap.size, 0, none⟩ = some (.string dd) := by simp [World.cell?, hsb]
  have z1 : (wA).cell? ⟨w2.heap.size, 1, none⟩ = some (.string s0) := by simp [World.cell?, hsb]
  have z2 : (wA).cell? ⟨w2.heap.size, 2, none⟩ = some (.string ⟨#[]⟩) := by simp [World.cell?, hsb]
  have z3 : (wA).cell? ⟨w2.heap.size, 3, none⟩ = some (.int .i64 1) := by simp [World.cell?, hsb]
  have zf : (wA).frozen? ⟨w2.heap.size, 2, none⟩ = false := by simp [World.frozen?, hsb]
  have lX : w2.heap.size < wA.heap.size := heap_lt hsb
  replace hfin := hfin.trans (hq.mono (by omega))
  replace lW : W < wA.heap.size := by omega
  replace lS : SB < wA.heap.size := by omega
  replace lD : DB < wA.heap.size := by omega
  replace lT : TB < wA.heap.size := by omega
  replace lU : UB < wA.heap.size := by omega
  have xS : SB ≠ w2.heap.size := by omega
  have xD : DB ≠ w2.heap.size := by omega
  have xW : W ≠ w2.heap.size := by omega
  have hge : w.heap.size ≤ w2.heap.size := by omega
  have HSB := Lib.hid hsb
  clear nW nT nU nS nD hsb hU hq hz1 hz2
  generalize w2.heap.size = Sb at *
  go_wp2_with fail
  refine wp_region_held_drew (S := fun w' => w'.cell? ⟨Sb, 0, none⟩ = some (.string dd) ∧ w'.cell? ⟨Sb, 1, none⟩ = some (.string s0) ∧ w'.cell? ⟨W, 13, none⟩ = some (.int .i64 slot) ∧ w'.cell? ⟨W, 0, none⟩ = some (.int .i64 N)) (by kernel_rfl) (by go_keep) (fun hHeld => ?_)
  refine rgT 0 ?_
  refine rgT 1 ?_
  refine rgT 2 ?_
  refine rgT 3 ?_
  refine rgT 4 ?_
  refine rgT 5 ?_
  refine rgT 6 ?_
  refine rgT 7 ?_
  refine rgT 8 ?_
  refine rgT 9 ?_
  refine rgT 10 ?_
  refine rgT 11 ?_
  refine rgT 12 ?_
  refine rgT 13 ?_
  refine rgT 14 ?_
  refine rgT 15 ?_
  refine rgT 16 ?_
  refine rgT 17 ?_
  refine wpAnyH_ready (rs := [18]) (by kernel_rfl) (by simp) (AllReadyH.cons rfl (fun K hK => ?_) AllReadyH.nil)
  go_simp
  refine (lane_Out' _ _ _ _ HDS.out hs0).mono ?_
  rintro e w6 ⟨rfl, hb6⟩
  have hq : Below wA.heap.size wA w6 := ⟨hb6.os, hb6.tape, hb6.output, by have := hb6.size; simpa using this, fun k hk => hb6.block k (by simpa using hk)⟩
  have hsb := (hq.block _ lX).trans HSB.out
  go_simp
  have hx : ∀ {b o v}, b < wA.heap.size → wA.cell? ⟨b, o, none⟩ = some v → w6.cell? ⟨b, o, none⟩ = some v := fun {b o v} h hv => (hq.cell (p := ⟨b, o, none⟩) h).trans hv
  refine hK.out _ _ ⟨hx lX z0, hx lX z1, hx lW c13, hx lW c0⟩ (fun hHeld => ?_)
  clear hK K
  have x2 : w6.cell? ⟨Sb, 2, none⟩ = some (.string ⟨#[]⟩) := hx lX z2
  have y2 : w6.frozen? ⟨Sb, 2, none⟩ = false := (hq.frozen (p := ⟨Sb, 2, none⟩) lX).trans zf
  refine rgT 19 ?_
  refine wpAnyH_ready (rs := [20]) (by kernel_rfl) (by simp) (AllReadyH.cons rfl (fun K hK => ?_) AllReadyH.nil)
  go_simp
  refine hK.out _ _ ?_ (fun hHeld => ?_)
  · have n0 : (⟨Sb, 2, none⟩ : Addr) ≠ ⟨Sb, 0, none⟩ := by simp
    have n1 : (⟨Sb, 2, none⟩ : Addr) ≠ ⟨Sb, 1, none⟩ := by simp
    have n2 : (⟨Sb, 2, none⟩ : Addr) ≠ ⟨W, 13, none⟩ := by simp
    have n3 : (⟨Sb, 2, none⟩ : Addr) ≠ ⟨W, 0, none⟩ := by simp
    refine ⟨(World.cell?_setCell_other _ _ _ _ n0).trans (hx lX z0), (World.cell?_setCell_other _ _ _ _ n1).trans (hx lX z1), (World.cell?_setCell_other _ _ _ _ n2).trans (hx lW c13), (World.cell?_setCell_other _ _ _ _ n3).trans (hx lW c0)⟩
  clear hK K
  refine wpAnyH_done (by kernel_rfl) ?_ _
  have lX6 : SB < w6.heap.size ∧ DB < w6.heap.size ∧ W < w6.heap.size ∧ TB < w6.heap.size := by have := hq.size; omega
  have hr : Below w.heap.size w (w6.setCell ⟨Sb, 2, none⟩ (.string (outF true dd s0))) := (hfin.trans (hq.mono (by omega))).setCell (p := ⟨Sb, 2, none⟩) hge _
  have y : ∀ {b o v}, b < wA.heap.size → b ≠ Sb → wA.cell? ⟨b, o, none⟩ = some v → (w6.setCell ⟨Sb, 2, none⟩ (.string (outF true dd s0))).cell? ⟨b, o, none⟩ = some v := fun {b o v} h hb hv => (World.cell?_setCell_other _ _ _ _ (fun e => hb (by injection e with e1; exact e1.symm))).trans (hx h hv)
  have yf : ∀ {b o}, b < wA.heap.size → wA.frozen? ⟨b, o, none⟩ = false → (w6.setCell ⟨Sb, 2, none⟩ (.string (outF true dd s0))).frozen? ⟨b, o, none⟩ = false := fun {b o} h hv => (World.frozen?_setCell _ _ _ _).trans ((hq.frozen (p := ⟨b, o, none⟩) h).trans hv)
  replace c17 := y lW xW c17
  replace c18 := y lW xW c18
  replace k0 := y lS xS k0
  replace k1 := y lS xS k1
  replace k2 := y lS xS k2
  replace k3 := y lS xS k3
  replace k4 := y lD xD k4
  replace fS := fun o => yf lS (fS o)
  replace fD := fun o => yf lD (fD o)
  replace hsb : (w6.setCell ⟨Sb, 2, none⟩ (.string (outF true dd s0))).heap[Sb]? = some (.cells #[.string dd, .string s0, .string (outF true dd s0), .int .i64 1] 129 (0, 0)) := by simp [World.setCell, Array.getElem?_modify, hsb]
  clear x2 y2 z0 z1 z2 z3 zf hHeld hx y yf hq hb6 hfin
  generalize w6.setCell ⟨Sb, 2, none⟩ (.string (outF true dd s0)) = w7 at *
  have z0 : (w7).cell? ⟨Sb, 0, none⟩ = some (.string dd) := by simp [World.cell?, hsb]
  have z1 : (w7).cell? ⟨Sb, 1, none⟩ = some (.string s0) := by simp [World.cell?, hsb]
  have z2 : (w7).cell? ⟨Sb, 2, none⟩ = some (.string (outF true dd s0)) := by simp [World.cell?, hsb]
  have z3 : (w7).cell? ⟨Sb, 3, none⟩ = some (.int .i64 1) := by simp [World.cell?, hsb]
  have zf : (w7).frozen? ⟨Sb, 2, none⟩ = false := by simp [World.frozen?, hsb]
  have hfin := hr
  clear hsb hr
  clear c0 c1 c2 c3 c4 c5 c13 c15 c16 hT zf
  go_wp2
  have hDS : DB ≠ SB := fun e => hSD e.symm
  have hSW : SB ≠ W := fun e => hWS e.symm
  have hDW : DB ≠ W := fun e => hWD e.symm
  go_region_held3 (fun w' => w'.cell? ⟨W, 17, none⟩ = some (.slice (some ⟨SB, 0, none⟩) n n) ∧ w'.cell? ⟨W, 18, none⟩ = some (.slice (some ⟨DB, 0, none⟩) n n) ∧ w'.cell? ⟨Sb, 0, none⟩ = some (.string dd) ∧ w'.cell? ⟨Sb, 1, none⟩ = some (.string s0) ∧ w'.cell? ⟨Sb, 2, none⟩ = some (.string (outF true dd s0)) ∧ w'.cell? ⟨Sb, 3, none⟩ = some (.int .i64 1)) (go_keep) (fail)
  go_wp2
  go_end0
  exact ⟨rfl, (laid_of hfin hSl hDl hSD k0 k1 k2 k3 k4).drew⟩
set_option maxRecDepth 100000 in
set_option maxHeartbeats 2000000 in
theorem reach_near0 (N Pi Er G Fi : Int) (PA : Option Addr) (PL PC : Nat) (slot : Int) (TB UB SB DB n W m : Nat) (d0 s0 : ByteArray) (far st dv : Int) (w : World)
    (hc1 : ∀ w', Below w.heap.size w w' → Calls Tryz.prog 150 #[.pointer (some ⟨W, 0, none⟩), .int .i64 m, .int .i64 1] w' fun e w2 => e = .returned (.string d0) ∧ Below w'.heap.size w' w2)
    (hc2 : ∀ w', Below w.heap.size w w' → Calls Tryz.prog 150 #[.pointer (some ⟨W, 0, none⟩), .int .i64 m, .int .i64 2] w' fun e w2 => e = .returned (.string s0) ∧ Below w'.heap.size w' w2)
    (hd0 : Strm d0) (hs0 : s0.size ≤ 4000) (hm : m < n) (hn : n ≤ 12)
    (c0 : w.cell? ⟨W, 0, none⟩ = some (.int .i64 N)) (c1 : w.cell? ⟨W, 1, none⟩ = some (.int .i64 Pi)) (c2 : w.cell? ⟨W, 2, none⟩ = some (.int .i64 Er)) (c3 : w.cell? ⟨W, 3, none⟩ = some (.int .i64 G)) (c4 : w.cell? ⟨W, 4, none⟩ = some (.int .i64 Fi)) (c5 : w.cell? ⟨W, 5, none⟩ = some (.slice PA PL PC))
    (c13 : w.cell? ⟨W, 13, none⟩ = some (.int .i64 slot))
    (c15 : w.cell? ⟨W, 15, none⟩ = some (.slice (some ⟨TB, 0, none⟩) n n)) (c16 : w.cell? ⟨W, 16, none⟩ = some (.slice (some ⟨UB, 0, none⟩) n n)) (c17 : w.cell? ⟨W, 17, none⟩ = some (.slice (some ⟨SB, 0, none⟩) n n)) (c18 : w.cell? ⟨W, 18, none⟩ = some (.slice (some ⟨DB, 0, none⟩) n n))
    (k0 : ∃ v, w.cell? ⟨SB, m * 4, none⟩ = some v) (k1 : ∃ v, w.cell? ⟨SB, m * 4 + 1, none⟩ = some v) (k2 : ∃ v, w.cell? ⟨SB, m * 4 + 2, none⟩ = some v) (k3 : ∃ v, w.cell? ⟨SB, m * 4 + 3, none⟩ = some v) (k4 : ∃ v, w.cell? ⟨DB, m, none⟩ = some v)
    (fS : ∀ o, w.frozen? ⟨SB, o, none⟩ = false) (fD : ∀ o, w.frozen? ⟨DB, o, none⟩ = false) (hSD : SB ≠ DB) (hWS : W ≠ SB) (hWD : W ≠ DB) (hWl : W < w.heap.size) (hSl : SB < w.heap.size) (hDl : DB < w.heap.size)
    (hT : w.cell? ⟨TB, m, none⟩ = some (.int .i64 st)) (hTl : TB < w.heap.size) (hU : w.cell? ⟨UB, m, none⟩ = some (.int .i64 dv)) (hUl : UB < w.heap.size) (hPi : 0 ≤ Pi) (hPi2 : Pi ≤ 10000)
    (hfar : far = 1) (hst : st = 0) :
    Calls Tryz.prog 106 #[.pointer (some ⟨W, 0, none⟩), .int .i64 m, .int .i64 far] w fun e w' => e = .returned (.tuple #[]) ∧ Laid w w' SB DB m (strF Pi st dv d0) s0 ⟨#[]⟩ far := by
  have hm0 : (0 : Int) ≤ (m : Int) := by omega
  have hm1 : (m : Int) < (n : Int) := by omega
  subst hfar
  subst hst
  obtain ⟨v0, k0⟩ := k0
  obtain ⟨v1, k1⟩ := k1
  obtain ⟨v2, k2⟩ := k2
  obtain ⟨v3, k3⟩ := k3
  obtain ⟨v4, k4⟩ := k4
  obtain ⟨dd, hdd⟩ : ∃ dd, dd = strF Pi 0 dv d0 := ⟨_, rfl⟩
  rw [← hdd]
  have HDD := Lib.hid hdd
  have HDS : Hid (Strm dd) := by rw [hdd]; exact str_strm hd0
  clear hdd
  have HC1 := Lib.hid hc1
  have HC2 := Lib.hid hc2
  clear hc1 hc2 hd0
  go_enter Tryz.func106, Tryz.ntmps106
  go_wp2_with fail
  refine (HC1.out _ (by repeat (first | exact Below.refl _ _ | refine Below.drew ?_ | refine below_drewN ?_ _ | refine Below.alloc ?_ (by simp) _))).mono ?_
  rintro e w1 ⟨rfl, hb1⟩
  have hz1 := hb1.size
  go_wp2_with fail
  refine (HC2.out _ ((show Below w.heap.size w _ by repeat (first | exact Below.refl _ _ | refine Below.drew ?_ | refine below_drewN ?_ _ | refine Below.alloc ?_ (by simp) _)).trans hb1)).mono ?_
  rintro e w2 ⟨rfl, hb2⟩
  have hz2 := hb2.size
  have hq := hb1.trans (hb2.mono hz1)
  have hfin := hq
  have lW := hWl
  have lS := hSl
  have lD := hDl
  have lT := hTl
  have lU := hUl
  have q : ∀ {b o v}, b < w.heap.size → w.cell? ⟨b, o, none⟩ = some v → (w2).cell? ⟨b, o, none⟩ = some v := fun {b o v} h hv => (hq.cell (p := ⟨b, o, none⟩) h).trans hv
  have qf : ∀ {b o}, b < w.heap.size → w.frozen? ⟨b, o, none⟩ = false → (w2).frozen? ⟨b, o, none⟩ = false := fun {b o} h hv => (hq.frozen (p := ⟨b, o, none⟩) h).trans hv
  replace c0 := q lW c0
  replace c1 := q lW c1
  replace c2 := q lW c2
  replace c3 := q lW c3
  replace c4 := q lW c4
  replace c5 := q lW c5
  replace c13 := q lW c13
  replace c15 := q lW c15
  replace c16 := q lW c16
  replace c17 := q lW c17
  replace c18 := q lW c18
  replace k0 := q lS k0
  replace k1 := q lS k1
  replace k2 := q lS k2
  replace k3 := q lS k3
  replace k4 := q lD k4
  replace hT := q lT hT
  replace fS := fun o => qf lS (fS o)
  replace fD := fun o => qf lD (fD o)
  replace hU := q lU hU
  clear q qf
  replace lW : W < w2.heap.size := by omega
  replace lS : SB < w2.heap.size := by omega
  replace lD : DB < w2.heap.size := by omega
  replace lT : TB < w2.heap.size := by omega
  replace lU : UB < w2.heap.size := by omega
  have nW := World.new_ne w2 _ c0
  have nT := World.new_ne w2 _ hT
  have nU := World.new_ne w2 _ hU
  have nS := World.new_ne w2 _ k0
  have nD := World.new_ne w2 _ k4
  clear hb1 hb2 hq
  go_wp2_with fail
  refine wp_region_held_drew (S := fun w' => w'.cell? ⟨W, 0, none⟩ = some (.int .i64 N) ∧ w'.cell? ⟨W, 1, none⟩ = some (.int .i64 Pi) ∧ w'.cell? ⟨W, 2, none⟩ = some (.int .i64 Er) ∧ w'.cell? ⟨W, 3, none⟩ = some (.int .i64 G) ∧ w'.cell? ⟨W, 4, none⟩ = some (.int .i64 Fi) ∧ w'.cell? ⟨W, 5, none⟩ = some (.slice PA PL PC) ∧ w'.cell? ⟨W, 15, none⟩ = some (.slice (some ⟨TB, 0, none⟩) n n) ∧ w'.cell? ⟨W, 16, none⟩ = some (.slice (some ⟨UB, 0, none⟩) n n) ∧ w'.cell? ⟨TB, m, none⟩ = some (.int .i64 0) ∧ w'.cell? ⟨UB, m, none⟩ = some (.int .i64 dv)) (by kernel_rfl) (by go_keep) (fun hHeld => ?_)
  refine rgT 0 ?_
  refine rgT 1 ?_
  refine rgT 2 ?_
  refine rgT 3 ?_
  refine rgT 4 ?_
  refine rgT 5 ?_
  refine rgT 6 ?_
  refine rgT 7 ?_
  refine rgT 8 ?_
  refine rgT 9 ?_
  refine rgT 10 ?_
  refine rgT 11 ?_
  refine rgT 12 ?_
  refine rgT 13 ?_
  refine rgT 14 ?_
  refine rgT 15 ?_
  refine rgT 16 ?_
  refine rgT 17 ?_
  refine rgT 18 ?_
  refine wpAnyH_ready (rs := [19]) (by kernel_rfl) (by simp) (AllReadyH.cons rfl (fun K hK => ?_) AllReadyH.nil)
  go_simp
  refine hK.out _ _ (by assumption) (fun hHeld => ?_)
  clear hK K
  refine wpAnyH_ready (rs := [20]) (by kernel_rfl) (by simp) (AllReadyH.cons rfl (fun K hK => ?_) AllReadyH.nil)
  go_simp
  refine (guard_Stream N Pi Er G Fi PA PL PC 0 dv d0 _ hPi hPi2).mono ?_
  rw [show (if (0 : Int) ≠ 4 ∨ -(2 * Pi) ≤ dv ∧ dv ≤ 2 * Pi then d0 else (⟨#[]⟩ : ByteArray)) = dd from HDD.out.symm]
  rintro e w3 ⟨rfl, hb3⟩
  have hq : Below w2.heap.size w2 w3 := ((Below.refl w2.heap.size w2).alloc (Nat.le_refl _) (.cells #[.string d0, .string s0, .string ⟨#[]⟩, .int .i64 1] 129)).trans (Below.mono (show Below (w2.heap.size + 1) _ w3 from ⟨hb3.os, hb3.tape, hb3.output, by have := hb3.size; simpa using this, fun k hk => hb3.block k (by simpa using hk)⟩) (by omega))
  have hsb : w3.heap[w2.heap.size]? = some (.cells #[.string d0, .string s0, .string ⟨#[]⟩, .int .i64 1] 129 (0, 0)) := (hb3.block _ (by simp)).trans (heap_alloc_new w2 _)
  go_simp
  have hx : ∀ {b o v}, b < w2.heap.size → w2.cell? ⟨b, o, none⟩ = some v → w3.cell? ⟨b, o, none⟩ = some v := fun {b o v} h hv => (hq.cell (p := ⟨b, o, none⟩) h).trans hv
  refine hK.out _ _ ⟨hx lW c0, hx lW c1, hx lW c2, hx lW c3, hx lW c4, hx lW c5, hx lW c15, hx lW c16, hx lT hT, hx lU hU⟩ (fun hHeld => ?_)
  clear hK K hx
  have x2 : w3.cell? ⟨w2.heap.size, 0, none⟩ = some (.string d0) := by simp [World.cell?, hsb]
  have y2 : w3.frozen? ⟨w2.heap.size, 0, none⟩ = false := by simp [World.frozen?, hsb]
  refine rgT 21 ?_
  refine wpAnyH_ready (rs := [22]) (by kernel_rfl) (by simp) (AllReadyH.cons rfl (fun K hK => ?_) AllReadyH.nil)
  go_simp
  replace hq : Below w2.heap.size w2 (w3.setCell ⟨w2.heap.size, 0, none⟩ (.string dd)) := hq.setCell (by simp) _
  have hx : ∀ {b o v}, b < w2.heap.size → w2.cell? ⟨b, o, none⟩ = some v → (w3.setCell ⟨w2.heap.size, 0, none⟩ (.string dd)).cell? ⟨b, o, none⟩ = some v := fun {b o v} h hv => (hq.cell (p := ⟨b, o, none⟩) h).trans hv
  refine hK.out _ _ ⟨hx lW c0, hx lW c1, hx lW c2, hx lW c3, hx lW c4, hx lW c5, hx lW c15, hx lW c16, hx lT hT, hx lU hU⟩ (fun hHeld => ?_)
  clear hK K hx x2 y2
  refine wpAnyH_done (by kernel_rfl) ?_ _
  replace hsb : (w3.setCell ⟨w2.heap.size, 0, none⟩ (.string dd)).heap[w2.heap.size]? = some (.cells #[.string dd, .string s0, .string ⟨#[]⟩, .int .i64 1] 129 (0, 0)) := by
    simp [World.setCell, Array.getElem?_modify, hsb]
  clear hHeld hb3
  generalize w3.setCell ⟨w2.heap.size, 0, none⟩ (.string dd) = wA at *
  have q : ∀ {b o v}, b < w2.heap.size → w2.cell? ⟨b, o, none⟩ = some v → (wA).cell? ⟨b, o, none⟩ = some v := fun {b o v} h hv => (hq.cell (p := ⟨b, o, none⟩) h).trans hv
  have qf : ∀ {b o}, b < w2.heap.size → w2.frozen? ⟨b, o, none⟩ = false → (wA).frozen? ⟨b, o, none⟩ = false := fun {b o} h hv => (hq.frozen (p := ⟨b, o, none⟩) h).trans hv
  replace c0 := q lW c0
  replace c1 := q lW c1
  replace c2 := q lW c2
  replace c3 := q lW c3
  replace c4 := q lW c4
  replace c5 := q lW c5
  replace c13 := q lW c13
  replace c15 := q lW c15
  replace c16 := q lW c16
  replace c17 := q lW c17
  replace c18 := q lW c18
  replace k0 := q lS k0
  replace k1 := q lS k1
  replace k2 := q lS k2
  replace k3 := q lS k3
  replace k4 := q lD k4
  replace hT := q lT hT
  replace fS := fun o => qf lS (fS o)
  replace fD := fun o => qf lD (fD o)
  clear q qf
  have z0 : (wA).cell? ⟨w2.heap.size, 0, none⟩ = some (.string dd) := by simp [World.cell?, hsb]
  have z1 : (wA).cell? ⟨w2.heap.size, 1, none⟩ = some (.string s0) := by simp [World.cell?, hsb]
  have z2 : (wA).cell? ⟨w2.heap.size, 2, none⟩ = some (.string ⟨#[]⟩) := by simp [World.cell?, hsb]
  have z3 : (wA).cell? ⟨w2.heap.size, 3, none⟩ = some (.int .i64 1) := by simp [World.cell?, hsb]
  have zf : (wA).frozen? ⟨w2.heap.size, 2, none⟩ = false := by simp [World.frozen?, hsb]
  have lX : w2.heap.size < wA.heap.size := heap_lt hsb
  replace hfin := hfin.trans (hq.mono (by omega))
  replace lW : W < wA.heap.size := by omega
  replace lS : SB < wA.heap.size := by omega
  replace lD : DB < wA.heap.size := by omega
  replace lT : TB < wA.heap.size := by omega
  replace lU : UB < wA.heap.size := by omega
  have xS : SB ≠ w2.heap.size := by omega
  have xD : DB ≠ w2.heap.size := by omega
  have xW : W ≠ w2.heap.size := by omega
  have hge : w.heap.size ≤ w2.heap.size := by omega
  have HSB := Lib.hid hsb
  clear nW nT nU nS nD hsb hU hq hz1 hz2
  generalize w2.heap.size = Sb at *
  go_wp2_with fail
  clear c0 c1 c2 c3 c4 c5 c13 c15 c16 hT zf
  have hDS : DB ≠ SB := fun e => hSD e.symm
  have hSW : SB ≠ W := fun e => hWS e.symm
  have hDW : DB ≠ W := fun e => hWD e.symm
  go_region_held3 (fun w' => w'.cell? ⟨W, 17, none⟩ = some (.slice (some ⟨SB, 0, none⟩) n n) ∧ w'.cell? ⟨W, 18, none⟩ = some (.slice (some ⟨DB, 0, none⟩) n n) ∧ w'.cell? ⟨Sb, 0, none⟩ = some (.string dd) ∧ w'.cell? ⟨Sb, 1, none⟩ = some (.string s0) ∧ w'.cell? ⟨Sb, 2, none⟩ = some (.string ⟨#[]⟩) ∧ w'.cell? ⟨Sb, 3, none⟩ = some (.int .i64 1)) (go_keep) (fail)
  go_wp2
  go_end0
  exact ⟨rfl, (laid_of hfin hSl hDl hSD k0 k1 k2 k3 k4).drew⟩
end Go.Proofs.YtdbempiompiioaaGreat.A16
