/- A slot going round, three: it goes on to a node. Conditions: the bounds stated in each theorem. -/
import Derived.Test.YtdbempiompiioaaGreatT04
set_option linter.unusedVariables false
set_option linter.unusedSimpArgs false
namespace Go.Proofs.YtdbempiompiioaaGreat.A15
open Go.RowKit A1 A2 A3 A4 A5 A6 A7 A8 A9 A10 A11 A12 A13 A14

def strF (Pi st dv : Int) (s : ByteArray) : ByteArray := if st ≠ 4 ∨ -(2 * Pi) ≤ dv ∧ dv ≤ 2 * Pi then s else ⟨#[]⟩
noncomputable def sdF (E : Int → Int → ByteArray → ByteArray) (N Pi slot dir : Int) (f : Nat → Sd) (g : Nat → Bool) (st dv node far : Int) : Sd :=
  ⟨if far = 1 then strF Pi st dv (comeF E N dir f g node 1) else comeF E N dir f g node 1, comeF E N dir f g node 2,
   if st = 0 then ⟨#[]⟩ else outF (decide (far > 1 ∨ N ≤ slot)) (if far = 1 then strF Pi st dv (comeF E N dir f g node 1) else comeF E N dir f g node 1) (comeF E N dir f g node 2), far⟩
theorem come_strm {E : Int → Int → ByteArray → ByteArray} {N dir : Int} {f : Nat → Sd} {g : Nat → Bool} {node back : Int} (hE : ∀ a b s, 0 ≤ a → a < N → 0 ≤ b → b < N → Strm s → Strm (E a b s)) (hN : 6 ≤ N) (h0 : 0 ≤ node) (h1 : node < N)
    (hf : ∀ i : Nat, (i : Int) < N → Strm (f i).o) : Strm (comeF E N dir f g node back) := by
  have q0 : 0 ≤ (node + -dir * back) % N := Int.emod_nonneg _ (by omega)
  have q1 : (node + -dir * back) % N < N := Int.emod_lt_of_pos _ (by omega)
  unfold comeF
  split
  · exact hE _ _ _ q0 q1 h0 h1 (hf _ (by omega))
  · exact Strm.empty
theorem str_strm {Pi st dv : Int} {s : ByteArray} (h : Strm s) : Strm (strF Pi st dv s) := by unfold strF; split; exact h; exact Strm.empty
structure Laid (w w' : World) (SB DB m : Nat) (d s o : ByteArray) (far : Int) : Prop where
  but : But (fun k => k = SB ∨ k = DB) w w'
  cd : w'.cell? ⟨SB, m * 4, none⟩ = some (.string d)
  cs : w'.cell? ⟨SB, m * 4 + 1, none⟩ = some (.string s)
  co : w'.cell? ⟨SB, m * 4 + 2, none⟩ = some (.string o)
  cf : w'.cell? ⟨SB, m * 4 + 3, none⟩ = some (.int .i64 far)
  cg : w'.cell? ⟨DB, m, none⟩ = some (.bool true)
  rs : ∀ q, q < m * 4 ∨ m * 4 + 3 < q → w'.cell? ⟨SB, q, none⟩ = w.cell? ⟨SB, q, none⟩
  rg : ∀ q, q ≠ m → w'.cell? ⟨DB, q, none⟩ = w.cell? ⟨DB, q, none⟩
  fs : ∀ q, w'.frozen? ⟨SB, q, none⟩ = w.frozen? ⟨SB, q, none⟩
  fd : ∀ q, w'.frozen? ⟨DB, q, none⟩ = w.frozen? ⟨DB, q, none⟩
theorem laid_of {w w4 : World} {SB DB m : Nat} {d s o : ByteArray} {far : Int} {v0 v1 v2 v3 v4 : Value} (hb : Below w.heap.size w w4) (hSl : SB < w.heap.size) (hDl : DB < w.heap.size) (hSD : SB ≠ DB)
    (k0 : w4.cell? ⟨SB, m * 4, none⟩ = some v0) (k1 : w4.cell? ⟨SB, m * 4 + 1, none⟩ = some v1) (k2 : w4.cell? ⟨SB, m * 4 + 2, none⟩ = some v2) (k3 : w4.cell? ⟨SB, m * 4 + 3, none⟩ = some v3) (k4 : w4.cell? ⟨DB, m, none⟩ = some v4) :
    Laid w (((((w4.setCell ⟨SB, m * 4, none⟩ (.string d)).setCell ⟨SB, m * 4 + 1, none⟩ (.string s)).setCell ⟨SB, m * 4 + 2, none⟩ (.string o)).setCell ⟨SB, m * 4 + 3, none⟩ (.int .i64 far)).setCell ⟨DB, m, none⟩ (.bool true)) SB DB m d s o far := by
  have ne : ∀ {a b : Addr}, a.block ≠ b.block ∨ a.off ≠ b.off → a ≠ b := fun h e => by subst e; rcases h with h | h <;> exact h rfl
  have os : ∀ {w : World} {a b : Addr} {v : Value}, (a.block ≠ b.block ∨ a.off ≠ b.off) → (w.setCell a v).cell? b = w.cell? b := fun h => World.cell?_setCell_other _ _ _ _ (ne h)
  refine ⟨?_, ?_, ?_, ?_, ?_, ?_, ?_, ?_, ?_, ?_⟩
  · refine (But.setCell (But.setCell (But.setCell (But.setCell (But.setCell (But.of_below hb (Nat.le_refl _)) ?_ _) ?_ _) ?_ _) ?_ _) ?_ _) <;> simp
  · rw [os (.inl (by simpa using hSD.symm)), os (.inr (by simp)), os (.inr (by simp)), os (.inr (by simp)), World.cell?_setCell_same _ _ _ k0]
  · rw [os (.inl (by simpa using hSD.symm)), os (.inr (by simp)), os (.inr (by simp)), World.cell?_setCell_same _ _ _ (u := v1)]
    rw [os (.inr (by simp)), k1]
  · rw [os (.inl (by simpa using hSD.symm)), os (.inr (by simp)), World.cell?_setCell_same _ _ _ (u := v2)]
    rw [os (.inr (by simp)), os (.inr (by simp)), k2]
  · rw [os (.inl (by simpa using hSD.symm)), World.cell?_setCell_same _ _ _ (u := v3)]
    rw [os (.inr (by simp)), os (.inr (by simp)), os (.inr (by simp)), k3]
  · rw [World.cell?_setCell_same _ _ _ (u := v4)]
    rw [os (.inl (by simpa using hSD)), os (.inl (by simpa using hSD)), os (.inl (by simpa using hSD)), os (.inl (by simpa using hSD)), k4]
  · intro q hq
    rw [os (.inl (by simpa using hSD.symm)), os (.inr (by simp; omega)), os (.inr (by simp; omega)), os (.inr (by simp; omega)), os (.inr (by simp; omega))]
    exact hb.cell (p := ⟨SB, q, none⟩) hSl
  · intro q hq
    rw [os (.inr (by simpa using fun e => hq e.symm)), os (.inl (by simpa using hSD)), os (.inl (by simpa using hSD)), os (.inl (by simpa using hSD)), os (.inl (by simpa using hSD))]
    exact hb.cell (p := ⟨DB, q, none⟩) hDl
  · intro q
    simp only [World.frozen?_setCell]
    exact hb.frozen (p := ⟨SB, q, none⟩) hSl
  · intro q
    simp only [World.frozen?_setCell]
    exact hb.frozen (p := ⟨DB, q, none⟩) hDl
theorem Laid.drew {w w' : World} {SB DB m : Nat} {d s o : ByteArray} {far : Int} (h : Laid w w' SB DB m d s o far) : Laid w w'.drew SB DB m d s o far := ⟨h.but.drew, h.cd, h.cs, h.co, h.cf, h.cg, h.rs, h.rg, h.fs, h.fd⟩
set_option maxRecDepth 100000 in
set_option maxHeartbeats 2000000 in
theorem reach_far (N Pi Er G Fi : Int) (PA : Option Addr) (PL PC : Nat) (slot : Int) (TB SB DB n W m : Nat) (d0 s0 : ByteArray) (far st : Int) (w : World)
    (hc1 : ∀ w', Below w.heap.size w w' → Calls Tryz.prog 150 #[.pointer (some ⟨W, 0, none⟩), .int .i64 m, .int .i64 1] w' fun e w2 => e = .returned (.string d0) ∧ Below w'.heap.size w' w2)
    (hc2 : ∀ w', Below w.heap.size w w' → Calls Tryz.prog 150 #[.pointer (some ⟨W, 0, none⟩), .int .i64 m, .int .i64 2] w' fun e w2 => e = .returned (.string s0) ∧ Below w'.heap.size w' w2)
    (hd0 : Strm d0) (hs0 : s0.size ≤ 4000) (hm : m < n) (hn : n ≤ 12)
    (c0 : w.cell? ⟨W, 0, none⟩ = some (.int .i64 N)) (c13 : w.cell? ⟨W, 13, none⟩ = some (.int .i64 slot))
    (c15 : w.cell? ⟨W, 15, none⟩ = some (.slice (some ⟨TB, 0, none⟩) n n)) (c17 : w.cell? ⟨W, 17, none⟩ = some (.slice (some ⟨SB, 0, none⟩) n n)) (c18 : w.cell? ⟨W, 18, none⟩ = some (.slice (some ⟨DB, 0, none⟩) n n))
    (k0 : ∃ v, w.cell? ⟨SB, m * 4, none⟩ = some v) (k1 : ∃ v, w.cell? ⟨SB, m * 4 + 1, none⟩ = some v) (k2 : ∃ v, w.cell? ⟨SB, m * 4 + 2, none⟩ = some v) (k3 : ∃ v, w.cell? ⟨SB, m * 4 + 3, none⟩ = some v) (k4 : ∃ v, w.cell? ⟨DB, m, none⟩ = some v)
    (fS : ∀ o, w.frozen? ⟨SB, o, none⟩ = false) (fD : ∀ o, w.frozen? ⟨DB, o, none⟩ = false) (hSD : SB ≠ DB) (hWS : W ≠ SB) (hWD : W ≠ DB) (hWl : W < w.heap.size) (hSl : SB < w.heap.size) (hDl : DB < w.heap.size)
    (hT : w.cell? ⟨TB, m, none⟩ = some (.int .i64 st)) (hTl : TB < w.heap.size) (hfar : 2 ≤ far) (hfar2 : far ≤ 20) (hst : st ≠ 0) :
    Calls Tryz.prog 106 #[.pointer (some ⟨W, 0, none⟩), .int .i64 m, .int .i64 far] w fun e w' => e = .returned (.tuple #[]) ∧ Laid w w' SB DB m d0 s0 (outF true d0 s0) far := by
  have hm0 : (0 : Int) ≤ (m : Int) := by omega
  have hm1 : (m : Int) < (n : Int) := by omega
  have b1 : (far == 1) = false := beq_eq_false_iff_ne.mpr (by omega)
  have b2 : decide (far > 1) = true := by simp; omega
  have b3 : (st != 0) = true := bne_iff_ne.mpr hst
  obtain ⟨v0, k0⟩ := k0
  obtain ⟨v1, k1⟩ := k1
  obtain ⟨v2, k2⟩ := k2
  obtain ⟨v3, k3⟩ := k3
  obtain ⟨v4, k4⟩ := k4
  have HC1 := Lib.hid hc1
  have HC2 := Lib.hid hc2
  have HD0 := Lib.hid hd0
  clear hc1 hc2 hst hd0
  go_enter Tryz.func106, Tryz.ntmps106
  go_wp2_with fail
  refine (HC1.out _ (by repeat (first | exact Below.refl _ _ | refine Below.drew ?_ | refine below_drewN ?_ _ | refine Below.alloc ?_ (by simp) _))).mono ?_
  rintro e w1 ⟨rfl, hb1⟩
  have hz1 := hb1.size
  go_wp2_with fail
  refine (HC2.out _ ((show Below w.heap.size w _ by repeat (first | exact Below.refl _ _ | refine Below.drew ?_ | refine below_drewN ?_ _ | refine Below.alloc ?_ (by simp) _)).trans hb1)).mono ?_
  rintro e w2 ⟨rfl, hb2⟩
  have hz2 := hb2.size
  have hb := hb1.trans (hb2.mono hz1)
  have kc : ∀ {b o v}, b < w.heap.size → w.cell? ⟨b, o, none⟩ = some v → w2.cell? ⟨b, o, none⟩ = some v := fun {b o v} h hv => (hb.cell (p := ⟨b, o, none⟩) h).trans hv
  have kf : ∀ {b o}, b < w.heap.size → w.frozen? ⟨b, o, none⟩ = false → w2.frozen? ⟨b, o, none⟩ = false := fun {b o} h hv => (hb.frozen (p := ⟨b, o, none⟩) h).trans hv
  replace c0 := kc hWl c0
  replace c13 := kc hWl c13
  replace c15 := kc hWl c15
  replace c17 := kc hWl c17
  replace c18 := kc hWl c18
  replace k0 := kc hSl k0
  replace k1 := kc hSl k1
  replace k2 := kc hSl k2
  replace k3 := kc hSl k3
  replace k4 := kc hDl k4
  replace hT := kc hTl hT
  replace fS := fun o => kf hSl (fS o)
  replace fD := fun o => kf hDl (fD o)
  have lW : W < w2.heap.size := by omega
  have lS : SB < w2.heap.size := by omega
  have lD : DB < w2.heap.size := by omega
  have lT : TB < w2.heap.size := by omega
  have nW := World.new_ne w2 _ c0
  have nT := World.new_ne w2 _ hT
  have nS := World.new_ne w2 _ k0
  have nD := World.new_ne w2 _ k4
  clear kc kf
  go_wp2_with fail
  refine wp_region_held_drew (S := fun w' => w'.cell? ⟨w2.heap.size, 0, none⟩ = some (.string d0) ∧ w'.cell? ⟨w2.heap.size, 1, none⟩ = some (.string s0)) (by kernel_rfl) (by go_keep) (fun hHeld => ?_)
  refine rgT 0 ?_
  refine rgT 1 ?_
  refine rgT 2 ?_
  refine rgS 3 ?_
  refine rgS 4 ?_
  refine rgS 5 ?_
  refine rgS 6 ?_
  refine rgS 7 ?_
  refine rgS 8 ?_
  refine rgS 9 ?_
  refine rgS 10 ?_
  refine rgS 11 ?_
  refine rgS 12 ?_
  refine rgT 13 ?_
  refine rgT 14 ?_
  refine rgT 15 ?_
  refine rgT 16 ?_
  refine rgT 17 ?_
  refine wpAnyH_ready (rs := [18]) (by kernel_rfl) (by simp) (AllReadyH.cons rfl (fun K hK => ?_) AllReadyH.nil)
  go_simp
  refine (lane_Out' _ _ _ _ HD0.out hs0).mono ?_
  rintro e w3 ⟨rfl, hb3⟩
  have hz3 : w2.heap.size + 1 ≤ w3.heap.size := by have := hb3.size; simpa using this
  have hb23 : Below w2.heap.size w2 w3 := ((Below.refl w2.heap.size w2).alloc (Nat.le_refl _) (.cells #[.string d0, .string s0, .string ⟨#[]⟩, .int .i64 far] 129)).trans (Below.mono (show Below (w2.heap.size + 1) _ w3 from ⟨hb3.os, hb3.tape, hb3.output, hb3.size, fun k hk => hb3.block k (by simpa using hk)⟩) (by omega))
  have hsb : w3.heap[w2.heap.size]? = some (.cells #[.string d0, .string s0, .string ⟨#[]⟩, .int .i64 far] 129 (0, 0)) := (hb3.block _ (by simp)).trans (heap_alloc_new w2 _)
  go_simp
  refine hK.out _ _ ⟨by simp [World.cell?, hsb], by simp [World.cell?, hsb]⟩ (fun hHeld => ?_)
  clear hK K
  try simp only [Act.put, List.setIfInBounds_toArray, List.set_cons_zero, List.set_cons_succ]
  have x2 : w3.cell? ⟨w2.heap.size, 2, none⟩ = some (.string ⟨#[]⟩) := by simp [World.cell?, hsb]
  have y2 : w3.frozen? ⟨w2.heap.size, 2, none⟩ = false := by simp [World.frozen?, hsb]
  refine rgT 19 ?_
  refine wpAnyH_ready (rs := [20]) (by kernel_rfl) (by simp) (AllReadyH.cons rfl (fun K hK => ?_) AllReadyH.nil)
  go_simp
  refine hK.out _ _ ⟨by simp [World.cell?, World.setCell, Array.getElem?_modify, hsb], by simp [World.cell?, World.setCell, Array.getElem?_modify, hsb]⟩ (fun hHeld => ?_)
  clear hK K
  refine wpAnyH_done (by kernel_rfl) ?_ _
  have hsb4 : (w3.setCell ⟨w2.heap.size, 2, none⟩ (.string (outF true d0 s0))).heap[w2.heap.size]? = some (.cells #[.string d0, .string s0, .string (outF true d0 s0), .int .i64 far] 129 (0, 0)) := by
    simp [World.setCell, Array.getElem?_modify, hsb]
  have hb24 : Below w2.heap.size w2 (w3.setCell ⟨w2.heap.size, 2, none⟩ (.string (outF true d0 s0))) := hb23.setCell (by simp) _
  obtain ⟨w4, hw4⟩ : ∃ w4, w4 = w3.setCell ⟨w2.heap.size, 2, none⟩ (.string (outF true d0 s0)) := ⟨_, rfl⟩
  rw [← hw4] at hsb4 hb24 ⊢
  have q : ∀ {b o v}, b < w2.heap.size → w2.cell? ⟨b, o, none⟩ = some v → w4.cell? ⟨b, o, none⟩ = some v := fun {b o v} h hv => (hb24.cell (p := ⟨b, o, none⟩) h).trans hv
  have qf : ∀ {b o}, b < w2.heap.size → w2.frozen? ⟨b, o, none⟩ = false → w4.frozen? ⟨b, o, none⟩ = false := fun {b o} h hv => (hb24.frozen (p := ⟨b, o, none⟩) h).trans hv
  replace c17 := q lW c17
  replace c18 := q lW c18
  replace k0 := q lS k0
  replace k1 := q lS k1
  replace k2 := q lS k2
  replace k3 := q lS k3
  replace k4 := q lD k4
  replace fS := fun o => qf lS (fS o)
  replace fD := fun o => qf lD (fD o)
  have z0 : w4.cell? ⟨w2.heap.size, 0, none⟩ = some (.string d0) := by simp [World.cell?, hsb4]
  have z1 : w4.cell? ⟨w2.heap.size, 1, none⟩ = some (.string s0) := by simp [World.cell?, hsb4]
  have z2 : w4.cell? ⟨w2.heap.size, 2, none⟩ = some (.string (outF true d0 s0)) := by simp [World.cell?, hsb4]
  have z3 : w4.cell? ⟨w2.heap.size, 3, none⟩ = some (.int .i64 far) := by simp [World.cell?, hsb4]
  have hDS : DB ≠ SB := fun e => hSD e.symm
  have hSW : SB ≠ W := fun e => hWS e.symm
  have hDW : DB ≠ W := fun e => hWD e.symm
  have sS : SB ≠ w2.heap.size := by omega
  have sD : DB ≠ w2.heap.size := by omega
  have HSB4 := Lib.hid hsb4
  have hfin := hb.trans (hb24.mono (by omega))
  clear q qf hsb4 hsb hw4 hb23 hb24 hb3 x2 y2 hz3 hHeld c0 c13 c15 hT
  go_wp2
  go_region_held3 (fun w' => w'.cell? ⟨W, 17, none⟩ = some (.slice (some ⟨SB, 0, none⟩) n n) ∧ w'.cell? ⟨W, 18, none⟩ = some (.slice (some ⟨DB, 0, none⟩) n n) ∧ w'.cell? ⟨w2.heap.size, 0, none⟩ = some (.string d0) ∧ w'.cell? ⟨w2.heap.size, 1, none⟩ = some (.string s0) ∧ w'.cell? ⟨w2.heap.size, 2, none⟩ = some (.string (outF true d0 s0)) ∧ w'.cell? ⟨w2.heap.size, 3, none⟩ = some (.int .i64 far)) (go_keep) (fail)
  go_wp2
  go_end0
  exact ⟨rfl, (laid_of hfin hSl hDl hSD k0 k1 k2 k3 k4).drew⟩
end Go.Proofs.YtdbempiompiioaaGreat.A15
