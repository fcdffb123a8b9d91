/- A slot going round, five: the way, the sides so far, one step on, as functions and in memory. A slot going round, six: makes, lists in memory. A slot going round, seven: spread.Run. Conditions: the bounds stated in each theorem. -/
import Derived.Test.YtdbempiompiioaaGreatT03
import Derived.Test.YtdbempiompiioaaGreatT06
import Derived.Laws.MakeOwn
import Derived.Deep.DeepCutAuto
set_option linter.unusedVariables false
set_option linter.unusedSimpArgs false
namespace Go.Proofs.YtdbempiompiioaaGreat.A17
open Go.RowKit A1 A2 A3 A4 A5 A6 A7 A8 A9 A10 A11 A12 A13 A14 A15 A16

def wayF (N dir : Int) (ow : List Int) : List Int := wayTo N (lastOf ow dir) dir ow (N - 1).toNat
theorem ring_Way (N dir : Int) (A : Option Addr) (ow : List Int) (C : Nat) (w : World) (hn : 6 ≤ N) (hn2 : N ≤ 7) (hI : Ints w A ow) (ho : (∃ x, ow = [x] ∧ 0 ≤ x ∧ x < N) ∨ ∃ x y, ow = [x, y] ∧ 0 ≤ x ∧ x < N ∧ 0 ≤ y ∧ y < N) (hdir : dir = 1 ∨ dir = -1) :
    Calls Tryz.prog 105 #[.int .i64 N, .slice A ow.length C, .int .i64 dir] w fun e w' => ∃ v, e = .returned v ∧ w'.ownsRow w.heap.size 3 1 v (wayF N dir ow).length ((wayF N dir ow).map (Value.int .i64)) ∧ Below w.heap.size w w' := by
  rcases ho with ⟨x, rfl, h0, h1⟩ | ⟨x, y, rfl, h0, h1, h2, h3⟩
  · rcases hI.cases with h | ⟨b, off, rfl, hb, hc⟩
    · cases h
    · have c0 := hc 0 (by simp)
      rcases hdir with rfl | rfl
      · exact ring_Way1u N x b off C w hn hn2 hb c0 h0 h1
      · exact ring_Way1d N x b off C w hn hn2 hb c0 h0 h1
  · rcases hI.cases with h | ⟨b, off, rfl, hb, hc⟩
    · cases h
    · have c0 := hc 0 (by simp)
      have c1 := hc 1 (by simp)
      rcases hdir with rfl | rfl
      · exact ring_Way2u N x y b off C w hn hn2 hb c0 c1 h2 h3
      · exact ring_Way2d N x y b off C w hn hn2 hb c0 c1 h0 h1
theorem wayF_mem {N dir : Int} {ow : List Int} {x : Int} (hn : 0 < N) (h : x ∈ wayF N dir ow) : 0 ≤ x ∧ x < N := by
  unfold wayF wayTo at h
  rw [List.mem_filter] at h
  obtain ⟨h1, _⟩ := h
  rw [List.mem_map] at h1
  obtain ⟨j, _, rfl⟩ := h1
  exact ⟨Int.emod_nonneg _ (by omega), Int.emod_lt_of_pos _ hn⟩
theorem wayF_len (N dir : Int) (ow : List Int) : (wayF N dir ow).length ≤ (N - 1).toNat := wayTo_le _ _ _ _ _

structure Wv where
  f : Nat → Sd
  g : Nat → Bool
def Wv.zero : Wv := ⟨fun _ => ⟨⟨#[]⟩, ⟨#[]⟩, ⟨#[]⟩, 0⟩, fun _ => false⟩
def Wv.own (v : Wv) (i : Nat) (s : ByteArray) : Wv := ⟨fun j => if j = i then ⟨(v.f i).d, (v.f i).s, s, (v.f i).far⟩ else v.f j, fun j => if j = i then true else v.g j⟩
noncomputable def Wv.reach (E : Int → Int → ByteArray → ByteArray) (N Pi slot dir : Int) (st dv : Nat → Int) (v : Wv) (i : Nat) (far : Int) : Wv :=
  ⟨fun j => if j = i then sdF E N Pi slot dir v.f v.g (st i) (dv i) i far else v.f j, fun j => if j = i then true else v.g j⟩
def ownK (ow : List Int) (sends : List ByteArray) : Nat → Wv
  | 0 => Wv.zero
  | k + 1 => (ownK ow sends k).own (ow.getD k 0).toNat (sends.getD k ⟨#[]⟩)
noncomputable def wayK (E : Int → Int → ByteArray → ByteArray) (N Pi slot dir : Int) (st dv : Nat → Int) (v : Wv) (l : List Int) : Nat → Wv
  | 0 => v
  | k + 1 => (wayK E N Pi slot dir st dv v l k).reach E N Pi slot dir st dv (l.getD k 0).toNat ((k : Int) + 1)
noncomputable def runF (E : Int → Int → ByteArray → ByteArray) (N Pi slot dir : Int) (st dv : Nat → Int) (ow : List Int) (sends : List ByteArray) : Wv :=
  wayK E N Pi slot dir st dv (ownK ow sends ow.length) (wayF N dir ow) (wayF N dir ow).length

structure WvAt (w : World) (SB DB n : Nat) (v : Wv) : Prop where
  at_ : SidesAt w SB DB n v.f v.g
  fS : ∀ o, w.frozen? ⟨SB, o, none⟩ = false
  fD : ∀ o, w.frozen? ⟨DB, o, none⟩ = false
theorem WvAt.laid {w w' : World} {SB DB n m : Nat} {v : Wv} {d s o : ByteArray} {far : Int} (h : WvAt w SB DB n v) (hl : Laid w w' SB DB m d s o far) (hm : m < n) :
    WvAt w' SB DB n ⟨fun j => if j = m then ⟨d, s, o, far⟩ else v.f j, fun j => if j = m then true else v.g j⟩ := by
  refine ⟨⟨fun i hi => ?_, fun i hi => ?_, fun i hi => ?_, fun i hi => ?_, fun i hi => ?_⟩, fun q => (hl.fs q).trans (h.fS q), fun q => (hl.fd q).trans (h.fD q)⟩
  · by_cases e : i = m
    · subst e; simpa using hl.cd
    · simp only [if_neg e]; exact (hl.rs _ (by omega)).trans (h.at_.d i hi)
  · by_cases e : i = m
    · subst e; simpa using hl.cs
    · simp only [if_neg e]; exact (hl.rs _ (by omega)).trans (h.at_.s i hi)
  · by_cases e : i = m
    · subst e; simpa using hl.co
    · simp only [if_neg e]; exact (hl.rs _ (by omega)).trans (h.at_.o i hi)
  · by_cases e : i = m
    · subst e; simpa using hl.cf
    · simp only [if_neg e]; exact (hl.rs _ (by omega)).trans (h.at_.far i hi)
  · by_cases e : i = m
    · subst e; simpa using hl.cg
    · simp only [if_neg e]; exact (hl.rg _ e).trans (h.at_.g i hi)
theorem sidesAt_below {w w' : World} {SB DB n : Nat} {f : Nat → Sd} {g : Nat → Bool} (h : SidesAt w SB DB n f g) (hb : Below w.heap.size w w') (hS : SB < w.heap.size) (hD : DB < w.heap.size) : SidesAt w' SB DB n f g :=
  ⟨fun i hi => (hb.cell (p := ⟨SB, _, none⟩) hS).trans (h.d i hi), fun i hi => (hb.cell (p := ⟨SB, _, none⟩) hS).trans (h.s i hi), fun i hi => (hb.cell (p := ⟨SB, _, none⟩) hS).trans (h.o i hi), fun i hi => (hb.cell (p := ⟨SB, _, none⟩) hS).trans (h.far i hi), fun i hi => (hb.cell (p := ⟨DB, _, none⟩) hD).trans (h.g i hi)⟩
theorem WvAt.below {w w' : World} {SB DB n : Nat} {v : Wv} (h : WvAt w SB DB n v) (hb : Below w.heap.size w w') (hS : SB < w.heap.size) (hD : DB < w.heap.size) : WvAt w' SB DB n v :=
  ⟨sidesAt_below h.at_ hb hS hD, fun o => (hb.frozen (p := ⟨SB, o, none⟩) hS).trans (h.fS o), fun o => (hb.frozen (p := ⟨DB, o, none⟩) hD).trans (h.fD o)⟩
theorem waveAt_below {w w' : World} {W : Nat} (N Pi Er G Fi : Int) (PA : Option Addr) (PL PC : Nat) (Kind At From To : Int) (CA : Option Addr) (CL CC : Nat) (VA : Option Addr) (VL VC : Nat) {round slot dir : Int} {TA : Option Addr} {TL TC : Nat} {UA : Option Addr} {UL UC SB DB n : Nat}
    (h : WaveAt w W N Pi Er G Fi PA PL PC Kind At From To CA CL CC VA VL VC round slot dir TA TL TC UA UL UC SB DB n) (hb : Below w.heap.size w w') : WaveAt w' W N Pi Er G Fi PA PL PC Kind At From To CA CL CC VA VL VC round slot dir TA TL TC UA UL UC SB DB n := by
  have k : ∀ {o v}, w.cell? ⟨W, o, none⟩ = some v → w'.cell? ⟨W, o, none⟩ = some v := fun {o v} hv => (hb.cell (p := ⟨W, o, none⟩) h.lt).trans hv
  have hz := hb.size
  exact ⟨k h.c0, k h.c1, k h.c2, k h.c3, k h.c4, k h.c5, k h.c6, k h.c7, k h.c8, k h.c9, k h.c10, k h.c11, k h.c12, k h.c13, k h.c14, k h.c15, k h.c16, k h.c17, k h.c18, Nat.lt_of_lt_of_le h.lt hz, Nat.lt_of_lt_of_le h.sl hz, Nat.lt_of_lt_of_le h.dl hz⟩
theorem waveAt_but {w w' : World} {W : Nat} (N Pi Er G Fi : Int) (PA : Option Addr) (PL PC : Nat) (Kind At From To : Int) (CA : Option Addr) (CL CC : Nat) (VA : Option Addr) (VL VC : Nat) {round slot dir : Int} {TA : Option Addr} {TL TC : Nat} {UA : Option Addr} {UL UC SB DB n : Nat} {S : Nat → Prop}
    (h : WaveAt w W N Pi Er G Fi PA PL PC Kind At From To CA CL CC VA VL VC round slot dir TA TL TC UA UL UC SB DB n) (hb : But S w w') (hW : ¬ S W) : WaveAt w' W N Pi Er G Fi PA PL PC Kind At From To CA CL CC VA VL VC round slot dir TA TL TC UA UL UC SB DB n := by
  have k : ∀ {o v}, w.cell? ⟨W, o, none⟩ = some v → w'.cell? ⟨W, o, none⟩ = some v := fun {o v} hv => (hb.cell (p := ⟨W, o, none⟩) h.lt hW).trans hv
  have hz := hb.size
  exact ⟨k h.c0, k h.c1, k h.c2, k h.c3, k h.c4, k h.c5, k h.c6, k h.c7, k h.c8, k h.c9, k h.c10, k h.c11, k h.c12, k h.c13, k h.c14, k h.c15, k h.c16, k h.c17, k h.c18, Nat.lt_of_lt_of_le h.lt hz, Nat.lt_of_lt_of_le h.sl hz, Nat.lt_of_lt_of_le h.dl hz⟩
theorem reach (FW : World → Prop) (N Pi Er G Fi : Int) (PA : Option Addr) (PL PC : Nat) (Kind At From To : Int) (CA : Option Addr) (CL CC : Nat) (VA : Option Addr) (VL VC : Nat) (round slot dir : Int) (TB UB SB DB n W : Nat) (E : Int → Int → ByteArray → ByteArray) (v : Wv) (st dv : Nat → Int) (m : Nat) (far : Int) (w : World)
    (hE : EmitIs FW N Pi Er G Fi PA PL PC Kind At From To CA CL CC VA VL VC round slot E) (hFW : FW w) (hn : (n : Int) = N) (hN : 6 ≤ N) (hN2 : N ≤ 7) (hPi : 0 ≤ Pi) (hPi2 : Pi ≤ 10000)
    (hW : WaveAt w W N Pi Er G Fi PA PL PC Kind At From To CA CL CC VA VL VC round slot dir (some ⟨TB, 0, none⟩) n n (some ⟨UB, 0, none⟩) n n SB DB n) (hv : WvAt w SB DB n v)
    (hSD : SB ≠ DB) (hWS : W ≠ SB) (hWD : W ≠ DB)
    (hT : w.cell? ⟨TB, m, none⟩ = some (.int .i64 (st m))) (hU : w.cell? ⟨UB, m, none⟩ = some (.int .i64 (dv m))) (hTl : TB < w.heap.size) (hUl : UB < w.heap.size)
    (hdir : dir = 1 ∨ dir = -1) (hm : m < n) (hf : ∀ i, i < n → Strm (v.f i).o) (hfar : 1 ≤ far) (hfar2 : far ≤ 20) :
    Calls Tryz.prog 106 #[.pointer (some ⟨W, 0, none⟩), .int .i64 m, .int .i64 far] w fun e w' => e = .returned (.tuple #[]) ∧ But (fun k => k = SB ∨ k = DB) w w' ∧ WvAt w' SB DB n (v.reach E N Pi slot dir st dv m far) := by
  have hc : ∀ back, (back = 1 ∨ back = 2) → ∀ w', Below w.heap.size w w' → Calls Tryz.prog 150 #[.pointer (some ⟨W, 0, none⟩), .int .i64 m, .int .i64 back] w' fun e w2 => e = .returned (.string (comeF E N dir v.f v.g m back)) ∧ Below w'.heap.size w' w2 := fun back hb w' hw' =>
    come FW N Pi Er G Fi PA PL PC Kind At From To CA CL CC VA VL VC round slot dir (some ⟨TB, 0, none⟩) n n (some ⟨UB, 0, none⟩) n n SB DB n W E v.f v.g m back w' hE (hE.stays w w' hFW hw') hn hN hN2 (waveAt_below _ _ _ _ _ _ _ _ _ _ _ _ _ _ _ _ _ _ hW hw') (sidesAt_below hv.at_ hw' hW.sl hW.dl) hdir hb (by omega) (by omega) hf
  have hs : ∀ back, Strm (comeF E N dir v.f v.g m back) := fun back => come_strm hE.strm hN (by omega) (by omega) (fun i hi => hf i (by omega))
  have fin : ∀ {e : Ending} {w' : World} {d s o : ByteArray}, sdF E N Pi slot dir v.f v.g (st m) (dv m) m far = ⟨d, s, o, far⟩ → (e = .returned (.tuple #[]) ∧ Laid w w' SB DB m d s o far) → e = .returned (.tuple #[]) ∧ But (fun k => k = SB ∨ k = DB) w w' ∧ WvAt w' SB DB n (v.reach E N Pi slot dir st dv m far) := by
    intro e w' d s o he h
    refine ⟨h.1, h.2.but, ?_⟩
    have := hv.laid h.2 hm
    unfold Wv.reach
    rw [he]
    exact this
  by_cases h1 : far = 1
  · by_cases h0 : st m = 0
    · refine (reach_near0 N Pi Er G Fi PA PL PC slot TB UB SB DB n W m _ _ far (st m) (dv m) w (hc 1 (.inl rfl)) (hc 2 (.inr rfl)) (hs 1) (hs 2).1 hm (by omega) hW.c0 hW.c1 hW.c2 hW.c3 hW.c4 hW.c5 hW.c13 hW.c15 hW.c16 hW.c17 hW.c18 ⟨_, hv.at_.d m hm⟩ ⟨_, hv.at_.s m hm⟩ ⟨_, hv.at_.o m hm⟩ ⟨_, hv.at_.far m hm⟩ ⟨_, hv.at_.g m hm⟩ hv.fS hv.fD hSD hWS hWD hW.lt hW.sl hW.dl hT hTl hU hUl hPi hPi2 h1 h0).mono (fun e w' h => fin ?_ h)
      unfold sdF
      rw [if_pos h0, if_pos h1]
    · by_cases h2 : slot < N
      · refine (reach_near N Pi Er G Fi PA PL PC slot TB UB SB DB n W m _ _ far (st m) (dv m) w (hc 1 (.inl rfl)) (hc 2 (.inr rfl)) (hs 1) (hs 2).1 hm (by omega) hW.c0 hW.c1 hW.c2 hW.c3 hW.c4 hW.c5 hW.c13 hW.c15 hW.c16 hW.c17 hW.c18 ⟨_, hv.at_.d m hm⟩ ⟨_, hv.at_.s m hm⟩ ⟨_, hv.at_.o m hm⟩ ⟨_, hv.at_.far m hm⟩ ⟨_, hv.at_.g m hm⟩ hv.fS hv.fD hSD hWS hWD hW.lt hW.sl hW.dl hT hTl hU hUl hPi hPi2 h1 h0 h2).mono (fun e w' h => fin ?_ h)
        unfold sdF
        rw [if_neg h0, if_pos h1, decide_eq_false (show ¬ (far > 1 ∨ N ≤ slot) by omega)]
      · refine (reach_nearPair N Pi Er G Fi PA PL PC slot TB UB SB DB n W m _ _ far (st m) (dv m) w (hc 1 (.inl rfl)) (hc 2 (.inr rfl)) (hs 1) (hs 2).1 hm (by omega) hW.c0 hW.c1 hW.c2 hW.c3 hW.c4 hW.c5 hW.c13 hW.c15 hW.c16 hW.c17 hW.c18 ⟨_, hv.at_.d m hm⟩ ⟨_, hv.at_.s m hm⟩ ⟨_, hv.at_.o m hm⟩ ⟨_, hv.at_.far m hm⟩ ⟨_, hv.at_.g m hm⟩ hv.fS hv.fD hSD hWS hWD hW.lt hW.sl hW.dl hT hTl hU hUl hPi hPi2 h1 h0 (by omega)).mono (fun e w' h => fin ?_ h)
        unfold sdF
        rw [if_neg h0, if_pos h1, decide_eq_true (show (far > 1 ∨ N ≤ slot) by omega)]
  · by_cases h0 : st m = 0
    · refine (reach_far0 N Pi Er G Fi PA PL PC slot TB UB SB DB n W m _ _ far (st m) (dv m) w (hc 1 (.inl rfl)) (hc 2 (.inr rfl)) (hs 1) (hs 2).1 hm (by omega) hW.c0 hW.c1 hW.c2 hW.c3 hW.c4 hW.c5 hW.c13 hW.c15 hW.c16 hW.c17 hW.c18 ⟨_, hv.at_.d m hm⟩ ⟨_, hv.at_.s m hm⟩ ⟨_, hv.at_.o m hm⟩ ⟨_, hv.at_.far m hm⟩ ⟨_, hv.at_.g m hm⟩ hv.fS hv.fD hSD hWS hWD hW.lt hW.sl hW.dl hT hTl hU hUl hPi hPi2 ⟨by omega, hfar2⟩ h0).mono (fun e w' h => fin ?_ h)
      unfold sdF
      rw [if_pos h0, if_neg h1]
    · refine (reach_far N Pi Er G Fi PA PL PC slot TB SB DB n W m _ _ far (st m) w (hc 1 (.inl rfl)) (hc 2 (.inr rfl)) (hs 1) (hs 2).1 hm (by omega) hW.c0 hW.c13 hW.c15 hW.c17 hW.c18 ⟨_, hv.at_.d m hm⟩ ⟨_, hv.at_.s m hm⟩ ⟨_, hv.at_.o m hm⟩ ⟨_, hv.at_.far m hm⟩ ⟨_, hv.at_.g m hm⟩ hv.fS hv.fD hSD hWS hWD hW.lt hW.sl hW.dl hT hTl (by omega) hfar2 h0).mono (fun e w' h => fin ?_ h)
      unfold sdF
      rw [if_neg h0, if_neg h1, decide_eq_true (show (far > 1 ∨ N ≤ slot) by omega)]
end Go.Proofs.YtdbempiompiioaaGreat.A17
namespace Go.Proofs.YtdbempiompiioaaGreat.A18
open Go.RowKit A1 A2 A3 A4 A5 A6 A7 A8 A9 A10 A11 A12 A13 A14 A15 A16 A17

theorem run_make_n {P : Program} (t e : TypeId) (i : TypeInfo) (z : Value) (ht : P.underlying t = some (.slice e)) (hi : P.info? e = some i) (hz : i.zero = some z)
    (n : Nat) (hn : n ≤ 100) (hbytes : i.bytes ≤ 1000) (w : World) :
    (Instr.makeSlice t (.int .i64 (n : Int)) (.int .i64 (n : Int))).run P w = .ok (.slice (some ⟨w.heap.size, 0, none⟩) n n) (w.alloc (.cells (madeCells z.cells (n * i.size)) e)) := by
  have hb : (i.bytes : Int) * (n : Int) ≤ 281474976710656 := by
    have h : i.bytes * n ≤ 1000 * 100 := Nat.mul_le_mul hbytes hn
    have h2 : ((i.bytes * n : Nat) : Int) ≤ 100000 := by omega
    rw [Int.natCast_mul] at h2
    omega
  have hr := run_make (P := P) w t e i z ht hi hz .i64 .i64 n n (by omega) (by omega) hb (by omega)
  simp only [Int.toNat_natCast] at hr
  exact hr
theorem info129 : (Tryz.prog.info? 129).map (fun i => (i.zero, i.size, i.bytes)) = some (some (.agg #[.string ⟨#[]⟩, .string ⟨#[]⟩, .string ⟨#[]⟩, .int .i64 0]), 4, 56) := by kernel_rfl
theorem info4 : (Tryz.prog.info? 4).map (fun i => (i.zero, i.size, i.bytes)) = some (some (.bool false), 1, 1) := by kernel_rfl
theorem mk81 (n : Nat) (hn : n ≤ 100) (w : World) : (Instr.makeSlice 81 (.int .i64 (n : Int)) (.int .i64 (n : Int))).run Tryz.prog w = .ok (.slice (some ⟨w.heap.size, 0, none⟩) n n) (w.alloc (.cells (madeCells #[.string ⟨#[]⟩, .string ⟨#[]⟩, .string ⟨#[]⟩, .int .i64 0] (n * 4)) 129)) := by
  obtain ⟨i, hi, hz, hs, hb⟩ := info_parts info129
  have := run_make_n (P := Tryz.prog) 81 129 i _ Tryz.underlying81 hi hz n hn (by omega) w
  rw [hs] at this
  exact this
theorem mk173 (n : Nat) (hn : n ≤ 100) (w : World) : (Instr.makeSlice 173 (.int .i64 (n : Int)) (.int .i64 (n : Int))).run Tryz.prog w = .ok (.slice (some ⟨w.heap.size, 0, none⟩) n n) (w.alloc (.cells (madeCells #[.bool false] (n * 1)) 4)) := by
  obtain ⟨i, hi, hz, hs, hb⟩ := info_parts info4
  have := run_make_n (P := Tryz.prog) 173 4 i _ Tryz.underlying173 hi hz n hn (by omega) w
  rw [hs] at this
  exact this
theorem made_at (z : Array Value) (n j : Nat) (h : j < n) : (madeCells z n)[j]? = some (z[j % z.size]!) := by
  unfold madeCells
  rw [Array.getElem?_map, Array.getElem?_range]
  simp [h]
theorem zero_at {w : World} {SB DB n : Nat} (hS : w.heap[SB]? = some (.cells (madeCells #[.string ⟨#[]⟩, .string ⟨#[]⟩, .string ⟨#[]⟩, .int .i64 0] (n * 4)) 129 (0, 0))) (hD : w.heap[DB]? = some (.cells (madeCells #[.bool false] (n * 1)) 4 (0, 0))) : WvAt w SB DB n Wv.zero := by
  have c : ∀ o, w.cell? ⟨SB, o, none⟩ = (madeCells #[.string ⟨#[]⟩, .string ⟨#[]⟩, .string ⟨#[]⟩, .int .i64 0] (n * 4))[o]? := fun o => Lib.cell_of_heap hS o
  have d : ∀ o, w.cell? ⟨DB, o, none⟩ = (madeCells #[.bool false] (n * 1))[o]? := fun o => Lib.cell_of_heap hD o
  refine ⟨⟨fun i hi => ?_, fun i hi => ?_, fun i hi => ?_, fun i hi => ?_, fun i hi => ?_⟩, fun o => Lib.frozen_of_heap hS o, fun o => Lib.frozen_of_heap hD o⟩
  · rw [c, made_at _ _ _ (by omega)]
    have : (i * 4) % 4 = 0 := by omega
    simp [this, Wv.zero]
  · rw [c, made_at _ _ _ (by omega)]
    have : (i * 4 + 1) % 4 = 1 := by omega
    simp [this, Wv.zero]
  · rw [c, made_at _ _ _ (by omega)]
    have : (i * 4 + 2) % 4 = 2 := by omega
    simp [this, Wv.zero]
  · rw [c, made_at _ _ _ (by omega)]
    have : (i * 4 + 3) % 4 = 3 := by omega
    simp [this, Wv.zero]
  · rw [d, made_at _ _ _ (by omega)]
    simp [Wv.zero, Nat.mod_one]
def sideCells (f : Nat → Sd) : Nat → List Value
  | 0 => []
  | n + 1 => sideCells f n ++ [.string (f n).d, .string (f n).s, .string (f n).o, .int .i64 (f n).far]
theorem sideCells_length (f : Nat → Sd) (n : Nat) : (sideCells f n).length = n * 4 := by
  induction n with
  | zero => rfl
  | succ n ih => simp [sideCells, ih]; omega
theorem sideCells_at (f : Nat → Sd) (n i : Nat) (h : i < n) : (sideCells f n)[i * 4]? = some (.string (f i).d) ∧ (sideCells f n)[i * 4 + 1]? = some (.string (f i).s) ∧ (sideCells f n)[i * 4 + 2]? = some (.string (f i).o) ∧ (sideCells f n)[i * 4 + 3]? = some (.int .i64 (f i).far) := by
  induction n with
  | zero => omega
  | succ n ih =>
    by_cases e : i = n
    · subst e
      have hl := sideCells_length f i
      have a : ∀ r, (sideCells f (i + 1))[i * 4 + r]? = [Value.string (f i).d, .string (f i).s, .string (f i).o, .int .i64 (f i).far][r]? := fun r => by
        show (sideCells f i ++ _)[i * 4 + r]? = _
        rw [List.getElem?_append_right (by omega)]
        congr 1
        omega
      exact ⟨a 0, a 1, a 2, a 3⟩
    · have hl := sideCells_length f n
      have h' : i < n := by omega
      obtain ⟨h1, h2, h3, h4⟩ := ih h'
      have a : ∀ r, r < 4 → (sideCells f (n + 1))[i * 4 + r]? = (sideCells f n)[i * 4 + r]? := fun r hr => by
        show (sideCells f n ++ _)[i * 4 + r]? = _
        rw [List.getElem?_append_left (by omega)]
      exact ⟨(a 0 (by omega)).trans h1, (a 1 (by omega)).trans h2, (a 2 (by omega)).trans h3, (a 3 (by omega)).trans h4⟩
theorem sideCells_read {w : World} {SB DB n : Nat} {f : Nat → Sd} {g : Nat → Bool} (h : SidesAt w SB DB n f g) : ∀ j u, (sideCells f n)[j]? = some u → w.cell? ⟨SB, 0 + j, none⟩ = some u := by
  intro j u hj
  have hl := sideCells_length f n
  have hlt : j < n * 4 := by
    have := (List.getElem?_eq_some_iff.1 hj).1
    omega
  have hi : j / 4 < n := by omega
  obtain ⟨h1, h2, h3, h4⟩ := sideCells_at f n (j / 4) hi
  rw [Nat.zero_add]
  have hr : j % 4 = 0 ∨ j % 4 = 1 ∨ j % 4 = 2 ∨ j % 4 = 3 := by omega
  rcases hr with hr | hr | hr | hr
  · have e : j = j / 4 * 4 := by omega
    rw [e] at hj ⊢; rw [h1] at hj; injection hj with hj; rw [← hj]; exact h.d _ hi
  · have e : j = j / 4 * 4 + 1 := by omega
    rw [e] at hj ⊢; rw [h2] at hj; injection hj with hj; rw [← hj]; exact h.s _ hi
  · have e : j = j / 4 * 4 + 2 := by omega
    rw [e] at hj ⊢; rw [h3] at hj; injection hj with hj; rw [← hj]; exact h.o _ hi
  · have e : j = j / 4 * 4 + 3 := by omega
    rw [e] at hj ⊢; rw [h4] at hj; injection hj with hj; rw [← hj]; exact h.far _ hi
theorem sideCells_one (f : Nat → Sd) (n : Nat) : ∀ u ∈ sideCells f n, u.oneCell' = true := by
  induction n with
  | zero => intro u hu; cases hu
  | succ n ih =>
    intro u hu
    unfold sideCells at hu
    rw [List.mem_append] at hu
    rcases hu with hu | hu
    · exact ih u hu
    · simp at hu
      rcases hu with rfl | rfl | rfl | rfl <;> rfl
theorem keep_of {w w' : World} {b o : Nat} {v : Value} (hv : w.cell? ⟨b, o, none⟩ = some v) (h : b < w.heap.size) (hb : Below w.heap.size w w') : w'.cell? ⟨b, o, none⟩ = some v := (hb.cell (p := ⟨b, o, none⟩) h).trans hv
def Strs (w : World) (A : Option Addr) (l : List ByteArray) : Prop := ∀ k, k < l.length → ∃ b off, A = some ⟨b, off, none⟩ ∧ b < w.heap.size ∧ w.cell? ⟨b, off + k, none⟩ = some (.string (l.getD k ⟨#[]⟩))
theorem Strs.below {w w1 : World} {A : Option Addr} {l : List ByteArray} (h : Strs w A l) (hb : Below w.heap.size w w1) : Strs w1 A l := fun k hk => by
  obtain ⟨b, off, e, h1, h2⟩ := h k hk
  exact ⟨b, off, e, Nat.lt_of_lt_of_le h1 hb.size, (hb.cell (p := ⟨b, off + k, none⟩) h1).trans h2⟩
theorem ints_but {w w1 : World} {A : Option Addr} {l : List Int} {S : Nat → Prop} (h : Ints w A l) (hb : But S w w1) (hA : ∀ b off, A = some ⟨b, off, none⟩ → ¬ S b) : Ints w1 A l := fun k hk => by
  obtain ⟨b, off, e, h1, h2⟩ := h k hk
  exact ⟨b, off, e, Nat.lt_of_lt_of_le h1 hb.size, (hb.cell (p := ⟨b, off + k, none⟩) h1 (hA b off e)).trans h2⟩
theorem ints_of_own2 {w : World} {base : Nat} {v : Value} {l : List Int} (h : w.ownsRow base 3 1 v l.length (l.map (Value.int .i64))) : ∃ A C, v = .slice A l.length C ∧ Ints w A l ∧ l.length ≤ C ∧ ∀ b off, A = some ⟨b, off, none⟩ → base ≤ b := by
  obtain ⟨A, C, rfl, hI, hC⟩ := ints_of_own h
  refine ⟨A, C, rfl, hI, hC, fun b off e => ?_⟩
  subst e
  rcases h.2 with ⟨h1, _⟩ | ⟨g, cap, cur, h1, hb, _⟩
  · cases h1
  · injection h1 with h1
    injection h1 with h1
    injection h1 with h1
    omega
theorem own_wv {w : World} {SB DB n : Nat} {v : Wv} {i : Nat} {s : ByteArray} {w' : World} (h : WvAt w SB DB n v) (hi : i < n) (hSD : SB ≠ DB)
    (hw : w' = (w.setCell ⟨SB, i * 4 + 2, none⟩ (.string s)).setCell ⟨DB, i, none⟩ (.bool true)) : WvAt w' SB DB n (v.own i s) := by
  subst hw
  have ne : ∀ {a b : Addr}, a.block ≠ b.block ∨ a.off ≠ b.off → a ≠ b := fun h e => by subst e; rcases h with h | h <;> exact h rfl
  have os : ∀ {w : World} {a b : Addr} {v : Value}, (a.block ≠ b.block ∨ a.off ≠ b.off) → (w.setCell a v).cell? b = w.cell? b := fun h => World.cell?_setCell_other _ _ _ _ (ne h)
  refine ⟨⟨fun j hj => ?_, fun j hj => ?_, fun j hj => ?_, fun j hj => ?_, fun j hj => ?_⟩, fun o => ?_, fun o => ?_⟩
  · rw [os (.inl (by simpa using hSD.symm)), os (.inr (by simp; omega)), h.at_.d j hj]
    by_cases e : j = i
    · subst e; simp [Wv.own]
    · simp [Wv.own, e]
  · rw [os (.inl (by simpa using hSD.symm)), os (.inr (by simp; omega)), h.at_.s j hj]
    by_cases e : j = i
    · subst e; simp [Wv.own]
    · simp [Wv.own, e]
  · rw [os (.inl (by simpa using hSD.symm))]
    by_cases e : j = i
    · subst e
      rw [World.cell?_setCell_same _ _ _ (h.at_.o j hj)]; simp [Wv.own]
    · rw [os (.inr (by simp; omega)), h.at_.o j hj]; simp [Wv.own, e]
  · rw [os (.inl (by simpa using hSD.symm)), os (.inr (by simp; omega)), h.at_.far j hj]
    by_cases e : j = i
    · subst e; simp [Wv.own]
    · simp [Wv.own, e]
  · by_cases e : j = i
    · subst e
      rw [World.cell?_setCell_same _ _ _ (u := .bool (v.g j))]
      · simp [Wv.own]
      · rw [os (.inl (by simpa using hSD)), h.at_.g j hj]
    · rw [os (.inr (by simpa using fun e' => e e'.symm)), os (.inl (by simpa using hSD)), h.at_.g j hj]; simp [Wv.own, e]
  · simp only [World.frozen?_setCell]; exact h.fS o
  · simp only [World.frozen?_setCell]; exact h.fD o
theorem getD_mem {l : List Int} {k : Nat} (h : k < l.length) : l.getD k 0 ∈ l := by
  rw [List.getD_eq_getElem?_getD, List.getElem?_eq_getElem h]
  exact List.getElem_mem _
theorem ownK_strm {ow : List Int} {sends : List ByteArray} (h : ∀ k, Strm (sends.getD k ⟨#[]⟩)) : ∀ k i, Strm ((ownK ow sends k).f i).o
  | 0, i => Strm.empty
  | k + 1, i => by
    unfold ownK Wv.own
    simp only
    split
    · exact h k
    · exact ownK_strm h k i
theorem sdF_strm {E : Int → Int → ByteArray → ByteArray} {n : Nat} {Pi slot dir : Int} {f : Nat → Sd} {g : Nat → Bool} {st dv : Int} {m : Nat} {far : Int} (hE : ∀ a b s, 0 ≤ a → a < (n : Int) → 0 ≤ b → b < (n : Int) → Strm s → Strm (E a b s)) (hn : 6 ≤ n) (hm : m < n)
    (hf : ∀ i, i < n → Strm (f i).o) : Strm (sdF E n Pi slot dir f g st dv m far).o := by
  unfold sdF
  simp only
  split
  · exact Strm.empty
  · refine strm_out _ _ ?_
    have hs : Strm (comeF E n dir f g m 1) := come_strm hE (by omega) (by omega) (by omega) (fun i hi => hf i (by omega))
    split
    · exact str_strm hs
    · exact hs
theorem wayK_strm {E : Int → Int → ByteArray → ByteArray} {n : Nat} {Pi slot dir : Int} {st dv : Nat → Int} {v : Wv} {l : List Int} (hE : ∀ a b s, 0 ≤ a → a < (n : Int) → 0 ≤ b → b < (n : Int) → Strm s → Strm (E a b s)) (hn : 6 ≤ n) (hl : ∀ x ∈ l, 0 ≤ x ∧ x < (n : Int))
    (hf : ∀ i, i < n → Strm (v.f i).o) : ∀ k, k ≤ l.length → ∀ i, i < n → Strm ((wayK E n Pi slot dir st dv v l k).f i).o
  | 0, _, i, hi => hf i hi
  | k + 1, hk, i, hi => by
    have hm := hl (l.getD k 0) (getD_mem (by omega))
    have ih := wayK_strm (Pi := Pi) (slot := slot) (dir := dir) (st := st) (dv := dv) hE hn hl hf k (by omega)
    unfold wayK Wv.reach
    simp only
    split
    · exact sdF_strm hE hn (by omega) ih
    · exact ih i hi
end Go.Proofs.YtdbempiompiioaaGreat.A18
namespace Go.Proofs.YtdbempiompiioaaGreat.A19
open Go.RowKit A1 A2 A3 A4 A5 A6 A7 A8 A9 A10 A11 A12 A13 A14 A15 A16 A17 A18

def RunPost (n : Nat) (v : Wv) (w : World) (e : Ending) (w' : World) : Prop := ∃ u, e = .returned u ∧ w'.ownsRow w.heap.size 129 4 u n (sideCells v.f n) ∧ u ≠ .slice none 0 0 ∧ Below w.heap.size w w'
def MadeWave (w : World) (n : Nat) (Pi Er G Fi : Int) (PA : Option Addr) (PL PC : Nat) (Kind At From To : Int) (CA : Option Addr) (CL CC : Nat) (VA : Option Addr) (VL VC : Nat) (round slot dir : Int) (TB UB : Nat) (s18 : Value) (wx : World) : Prop :=
  ∃ W SB DB, s18 = .pointer (some ⟨W, 0, none⟩) ∧ WaveAt wx W n Pi Er G Fi PA PL PC Kind At From To CA CL CC VA VL VC round slot dir (some ⟨TB, 0, none⟩) n n (some ⟨UB, 0, none⟩) n n SB DB n ∧ WvAt wx SB DB n Wv.zero ∧ SB ≠ DB ∧ W ≠ SB ∧ W ≠ DB ∧ w.heap.size ≤ W ∧ w.heap.size ≤ SB ∧ w.heap.size ≤ DB ∧ Below w.heap.size w wx
theorem wv_drew {w : World} {SB DB n : Nat} {v : Wv} (h : WvAt w SB DB n v) : WvAt w.drew SB DB n v := ⟨⟨h.at_.d, h.at_.s, h.at_.o, h.at_.far, h.at_.g⟩, h.fS, h.fD⟩
theorem three_allocs (w : World) (a b c : Obj) : (((w.alloc a).alloc b).alloc c).drew.heap[w.heap.size]? = some a ∧ (((w.alloc a).alloc b).alloc c).drew.heap[w.heap.size + 1]? = some b ∧ (((w.alloc a).alloc b).alloc c).drew.heap[w.heap.size + 1 + 1]? = some c := by
  refine ⟨?_, ?_, ?_⟩
  · exact (Below.heap_alloc _ _ _ (by simp; omega)).trans ((Below.heap_alloc _ _ _ (by simp)).trans (heap_alloc_new w a))
  · have := heap_alloc_new (w.alloc a) b
    exact (Below.heap_alloc _ _ _ (by simp)).trans (by simpa using this)
  · have := heap_alloc_new ((w.alloc a).alloc b) c
    show ((((w.alloc a).alloc b).alloc c)).heap[w.heap.size + 1 + 1]? = some c
    simpa using this
theorem made_wave {w wx : World} {W SB DB n : Nat} {Pi Er G Fi : Int} {PA : Option Addr} {PL PC : Nat} {Kind At From To : Int} {CA : Option Addr} {CL CC : Nat} {VA : Option Addr} {VL VC : Nat} {round slot dir : Int} {TB UB : Nat}
    (hW : wx.heap[W]? = some (.cells #[.int .i64 n, .int .i64 Pi, .int .i64 Er, .int .i64 G, .int .i64 Fi, .slice PA PL PC, .int .i64 Kind, .int .i64 At, .int .i64 From, .int .i64 To, .slice CA CL CC, .slice VA VL VC, .int .i64 round, .int .i64 slot, .int .i64 dir, .slice (some ⟨TB, 0, none⟩) n n, .slice (some ⟨UB, 0, none⟩) n n, .slice (some ⟨SB, 0, none⟩) n n, .slice (some ⟨DB, 0, none⟩) n n] 175 (0, 0)))
    (hS : wx.heap[SB]? = some (.cells (madeCells #[.string ⟨#[]⟩, .string ⟨#[]⟩, .string ⟨#[]⟩, .int .i64 0] (n * 4)) 129 (0, 0))) (hD : wx.heap[DB]? = some (.cells (madeCells #[.bool false] n) 4 (0, 0)))
    (h1 : SB ≠ DB) (h2 : W ≠ SB) (h3 : W ≠ DB) (h4 : w.heap.size ≤ W) (h5 : w.heap.size ≤ SB) (h6 : w.heap.size ≤ DB) (hB : Below w.heap.size w wx) :
    MadeWave w n Pi Er G Fi PA PL PC Kind At From To CA CL CC VA VL VC round slot dir TB UB (.pointer (some ⟨W, 0, none⟩)) wx := by
  have c := fun o => Lib.cell_of_heap hW o
  exact ⟨W, SB, DB, rfl, ⟨c 0, c 1, c 2, c 3, c 4, c 5, c 6, c 7, c 8, c 9, c 10, c 11, c 12, c 13, c 14, c 15, c 16, c 17, c 18, heap_lt hW, heap_lt hS, heap_lt hD⟩, zero_at hS (by rw [Nat.mul_one]; exact hD), h1, h2, h3, h4, h5, h6, hB⟩
set_option maxRecDepth 100000 in
set_option maxHeartbeats 4000000 in
theorem spread_Run (FW : World → Prop) (n : Nat) (Pi Er G Fi : Int) (PA : Option Addr) (ps : List Int) (PC : Nat) (Kind At From To : Int) (CA : Option Addr) (CL CC : Nat) (VA : Option Addr) (VL VC : Nat) (round slot dir : Int) (TB UB : Nat) (E : Int → Int → ByteArray → ByteArray) (SA : Option Addr) (SC : Nat) (sends : List ByteArray) (st dv : Nat → Int) (w : World)
    (hc : CfOk n Pi Er G Fi ps) (hl : Ints w PA ps) (hE : EmitIs FW n Pi Er G Fi PA ps.length PC Kind At From To CA CL CC VA VL VC round slot E) (hFW : FW w) (h0 : 0 ≤ slot) (h1 : slot < n + ps.length)
    (hdir : dir = 1 ∨ dir = -1) (ho : (∃ x, owners n ps slot = [x] ∧ 0 ≤ x ∧ x < n) ∨ ∃ x y, owners n ps slot = [x, y] ∧ 0 ≤ x ∧ x < n ∧ 0 ≤ y ∧ y < n) (hlen : sends.length = (owners n ps slot).length) (hS : Strs w SA sends) (hstr : ∀ k, Strm (sends.getD k ⟨#[]⟩))
    (hT : ∀ i, i < n → w.cell? ⟨TB, i, none⟩ = some (.int .i64 (st i))) (hU : ∀ i, i < n → w.cell? ⟨UB, i, none⟩ = some (.int .i64 (dv i))) (hTl : TB < w.heap.size) (hUl : UB < w.heap.size) :
    Calls Tryz.prog 66 #[.agg #[.int .i64 n, .int .i64 Pi, .int .i64 Er, .int .i64 G, .int .i64 Fi, .slice PA ps.length PC], .agg #[.int .i64 Kind, .int .i64 At, .int .i64 From, .int .i64 To, .slice CA CL CC, .slice VA VL VC], .int .i64 round, .int .i64 slot, .int .i64 dir, .slice SA (owners n ps slot).length SC, .slice (some ⟨TB, 0, none⟩) n n, .slice (some ⟨UB, 0, none⟩) n n] w (RunPost n (runF E n Pi slot dir st dv (owners n ps slot) sends) w) := by
  have hn6 : 6 ≤ n := by have := hc.n0; omega
  have hn7 : n ≤ 7 := by have := hc.n1; omega
  have HOwn := Lib.hid (fun w' (h : Ints w' PA ps) => Owners n Pi Er G Fi PA ps PC slot w' hc h h0 h1)
  have HCheck := Lib.hid (fun w' (h : Ints w' PA ps) => conf_Check n Pi Er G Fi PA ps PC w' hc h)
  have HL := Lib.hid hl
  have HC := Lib.hid hc
  have m1 := mk81 n (by omega)
  have m2 := mk173 n (by omega)
  have M1 := Lib.hid m1
  have M2 := Lib.hid m2
  have HO := Lib.hid ho
  have HT := Lib.hid hT
  have HU := Lib.hid hU
  have HST := Lib.hid hS
  have HSTR := Lib.hid hstr
  have HE := Lib.hid hE
  have HFW := Lib.hid hFW
  have HLEN := Lib.hid hlen
  clear m1 m2 ho hT hU hS hstr hE hFW hlen hl hc
  generalize how : owners (n : Int) ps slot = ow at *
  have HOW := Lib.hid how
  clear how
  go_enter Tryz.func66, Tryz.ntmps66
  go_wp2_with fail
  refine (HOwn.out _ (by repeat (first | exact HL.out | refine Ints.drewN ?_ _ | refine Ints.drew ?_ | refine Ints.alloc ?_ _))).mono ?_
  rintro e w1 ⟨OA, OC, rfl, hOI, _, _, hb1⟩
  obtain ⟨hc1, hf1⟩ := bcell hb1
  have hz1 : w.heap.size + 1 < w1.heap.size := by have := hb1.size; simp at this; omega
  have hB1 : Below w.heap.size w w1 := (((Below.refl _ _).alloc (Nat.le_refl _) _).alloc (by simp) _).trans (hb1.mono (by simp; omega))
  have HI1 := Lib.hid (HL.out.below hB1)
  have HOI := Lib.hid hOI
  clear hOI
  go_wp2_with fail
  refine (HCheck.out _ HI1.out).mono ?_
  rintro e w2 ⟨rfl, hb2⟩
  have bx : w2.heap[w.heap.size]? = some (.cells #[.int .i64 n, .int .i64 Pi, .int .i64 Er, .int .i64 G, .int .i64 Fi, .slice PA ps.length PC] 24 (0, 0)) := (hb2.block _ (by omega)).trans ((hb1.block _ (by simp; omega)).trans ((Below.heap_alloc _ _ _ (by simp)).trans (heap_alloc_new w _)))
  have bf : w2.heap[w.heap.size + 1]? = some (.cells #[.int .i64 Kind, .int .i64 At, .int .i64 From, .int .i64 To, .slice CA CL CC, .slice VA VL VC] 27 (0, 0)) := (hb2.block _ (by omega)).trans ((hb1.block _ (by simp)).trans (by have := heap_alloc_new (w.alloc (.cells #[.int .i64 n, .int .i64 Pi, .int .i64 Er, .int .i64 G, .int .i64 Fi, .slice PA ps.length PC] 24)) (.cells #[.int .i64 Kind, .int .i64 At, .int .i64 From, .int .i64 To, .slice CA CL CC, .slice VA VL VC] 27); simpa using this))
  have x0 : w2.cell? ⟨w.heap.size, 0, none⟩ = some (.int .i64 n) := by simp [World.cell?, bx]
  have x1 : w2.cell? ⟨w.heap.size, 1, none⟩ = some (.int .i64 Pi) := by simp [World.cell?, bx]
  have x2 : w2.cell? ⟨w.heap.size, 2, none⟩ = some (.int .i64 Er) := by simp [World.cell?, bx]
  have x3 : w2.cell? ⟨w.heap.size, 3, none⟩ = some (.int .i64 G) := by simp [World.cell?, bx]
  have x4 : w2.cell? ⟨w.heap.size, 4, none⟩ = some (.int .i64 Fi) := by simp [World.cell?, bx]
  have x5 : w2.cell? ⟨w.heap.size, 5, none⟩ = some (.slice PA ps.length PC) := by simp [World.cell?, bx]
  have y0 : w2.cell? ⟨w.heap.size + 1, 0, none⟩ = some (.int .i64 Kind) := by simp [World.cell?, bf]
  have y1 : w2.cell? ⟨w.heap.size + 1, 1, none⟩ = some (.int .i64 At) := by simp [World.cell?, bf]
  have y2 : w2.cell? ⟨w.heap.size + 1, 2, none⟩ = some (.int .i64 From) := by simp [World.cell?, bf]
  have y3 : w2.cell? ⟨w.heap.size + 1, 3, none⟩ = some (.int .i64 To) := by simp [World.cell?, bf]
  have y4 : w2.cell? ⟨w.heap.size + 1, 4, none⟩ = some (.slice CA CL CC) := by simp [World.cell?, bf]
  have y5 : w2.cell? ⟨w.heap.size + 1, 5, none⟩ = some (.slice VA VL VC) := by simp [World.cell?, bf]
  clear hc1 hf1
  have hz2 : w.heap.size + 1 < w2.heap.size := by have := hb2.size; omega
  have hB2 : Below w.heap.size w w2 := hB1.trans (hb2.mono hB1.size)
  have HOI2 := Lib.hid (HOI.out.below hb2)
  have HOIn := Lib.hid (HOI.out.below hb2)
  have HI2 := Lib.hid (HI1.out.below hb2)
  clear HOI HI1 HCheck HOwn hb1 bx bf
  go_upto_region 4 with fail
  go_cut [18] (MadeWave w2 n Pi Er G Fi PA ps.length PC Kind At From To CA CL CC VA VL VC round slot dir TB UB)
  case first =>
    have m1 := M1.out
    have m2 := M2.out
    go_region_held3 (fun w' => w'.cell? ⟨w.heap.size, 0, none⟩ = some (.int .i64 n) ∧ w'.cell? ⟨w.heap.size, 1, none⟩ = some (.int .i64 Pi) ∧ w'.cell? ⟨w.heap.size, 2, none⟩ = some (.int .i64 Er) ∧ w'.cell? ⟨w.heap.size, 3, none⟩ = some (.int .i64 G) ∧ w'.cell? ⟨w.heap.size, 4, none⟩ = some (.int .i64 Fi) ∧ w'.cell? ⟨w.heap.size, 5, none⟩ = some (.slice PA ps.length PC) ∧ w'.cell? ⟨w.heap.size + 1, 0, none⟩ = some (.int .i64 Kind) ∧ w'.cell? ⟨w.heap.size + 1, 1, none⟩ = some (.int .i64 At) ∧ w'.cell? ⟨w.heap.size + 1, 2, none⟩ = some (.int .i64 From) ∧ w'.cell? ⟨w.heap.size + 1, 3, none⟩ = some (.int .i64 To) ∧ w'.cell? ⟨w.heap.size + 1, 4, none⟩ = some (.slice CA CL CC) ∧ w'.cell? ⟨w.heap.size + 1, 5, none⟩ = some (.slice VA VL VC)) (exact ⟨keep_of x0 (by omega) (by repeat (first | exact Below.refl _ _ | refine Below.drew ?_ | refine below_drewN ?_ _ | refine Below.alloc ?_ (by simp; try omega) _)), keep_of x1 (by omega) (by repeat (first | exact Below.refl _ _ | refine Below.drew ?_ | refine below_drewN ?_ _ | refine Below.alloc ?_ (by simp; try omega) _)), keep_of x2 (by omega) (by repeat (first | exact Below.refl _ _ | refine Below.drew ?_ | refine below_drewN ?_ _ | refine Below.alloc ?_ (by simp; try omega) _)), keep_of x3 (by omega) (by repeat (first | exact Below.refl _ _ | refine Below.drew ?_ | refine below_drewN ?_ _ | refine Below.alloc ?_ (by simp; try omega) _)), keep_of x4 (by omega) (by repeat (first | exact Below.refl _ _ | refine Below.drew ?_ | refine below_drewN ?_ _ | refine Below.alloc ?_ (by simp; try omega) _)), keep_of x5 (by omega) (by repeat (first | exact Below.refl _ _ | refine Below.drew ?_ | refine below_drewN ?_ _ | refine Below.alloc ?_ (by simp; try omega) _)), keep_of y0 (by omega) (by repeat (first | exact Below.refl _ _ | refine Below.drew ?_ | refine below_drewN ?_ _ | refine Below.alloc ?_ (by simp; try omega) _)), keep_of y1 (by omega) (by repeat (first | exact Below.refl _ _ | refine Below.drew ?_ | refine below_drewN ?_ _ | refine Below.alloc ?_ (by simp; try omega) _)), keep_of y2 (by omega) (by repeat (first | exact Below.refl _ _ | refine Below.drew ?_ | refine below_drewN ?_ _ | refine Below.alloc ?_ (by simp; try omega) _)), keep_of y3 (by omega) (by repeat (first | exact Below.refl _ _ | refine Below.drew ?_ | refine below_drewN ?_ _ | refine Below.alloc ?_ (by simp; try omega) _)), keep_of y4 (by omega) (by repeat (first | exact Below.refl _ _ | refine Below.drew ?_ | refine below_drewN ?_ _ | refine Below.alloc ?_ (by simp; try omega) _)), keep_of y5 (by omega) (by repeat (first | exact Below.refl _ _ | refine Below.drew ?_ | refine below_drewN ?_ _ | refine Below.alloc ?_ (by simp; try omega) _))⟩) (fail)
    · go_wp2_with fail
      go_meet
      have h3 := three_allocs w2 (.cells (madeCells #[.string ⟨#[]⟩, .string ⟨#[]⟩, .string ⟨#[]⟩, .int .i64 0] (n * 4)) 129) (.cells (madeCells #[.bool false] n) 4)
      exact made_wave (h3 _).2.2 (h3 _).1 (h3 _).2.1 (by omega) (by omega) (by omega) (by omega) (by omega) (by omega) (by repeat (first | exact Below.refl _ _ | refine Below.drew ?_ | refine below_drewN ?_ _ | refine Below.alloc ?_ (by simp; try omega) _))
    · go_wp2_with fail
      go_meet
      have h3 := three_allocs w2 (.cells (madeCells #[.bool false] n) 4) (.cells (madeCells #[.string ⟨#[]⟩, .string ⟨#[]⟩, .string ⟨#[]⟩, .int .i64 0] (n * 4)) 129)
      exact made_wave (h3 _).2.2 (h3 _).2.1 (h3 _).1 (by omega) (by omega) (by omega) (by omega) (by omega) (by omega) (by repeat (first | exact Below.refl _ _ | refine Below.drew ?_ | refine below_drewN ?_ _ | refine Below.alloc ?_ (by simp; try omega) _))
  case rest =>
    obtain ⟨W, SB, DB, rfl, hW, hv, hSD, hWS, hWD, gW, gS, gD, hBc⟩ := hcut
    have hIc := HOI2.out.below hBc
    have hSl := Nat.lt_of_lt_of_le (Nat.lt_of_lt_of_le (show w.heap.size < w2.heap.size by omega) (Nat.le_refl _)) hBc.size
    have xN := keep_of x0 (by omega) hBc
    have hBw := hB2.trans (hBc.mono (by omega))
    have hzc := hBc.size
    clear M1 M2 x0 x1 x2 x3 x4 x5 y0 y1 y2 y3 y4 y5 HOI2 HI2 hB1 hB2
    clear hIc
    go_wp2_with fail
    go_loopw [72] (fun t wr => ∃ k : Nat, k ≤ ow.length ∧ t = .int .i64 k ∧ WvAt wr SB DB n (ownK ow sends k) ∧ But (fun q => q = SB ∨ q = DB) wc wr) (fun t _ => ow.length - (intOf t).toNat)
    case atStart => exact ⟨0, by omega, rfl, hv, But.refl _ _⟩
    case round =>
      obtain ⟨k, hk, rfl, hvr, hbr⟩ := hrel
      have hB2r : Below w2.heap.size w2 wr := hBc.trans (hbr.to_below hzc (by rintro q (rfl | rfl) <;> assumption))
      have hBwr : Below w.heap.size w wr := hBw.trans (hbr.to_below (by omega) (by rintro q (rfl | rfl) <;> omega))
      by_cases hlt : k < ow.length
      · obtain ⟨ob, oo, rfl, hob, hoc⟩ := HOIn.out k hlt
        obtain ⟨sb, so, rfl, hsb, hsc⟩ := HST.out k (by rw [HLEN.out]; exact hlt)
        have hx : 0 ≤ ow.getD k 0 ∧ ow.getD k 0 < n := by
          rcases HO.out with ⟨x, e, h0, h1⟩ | ⟨x, y, e, h0, h1, h2, h3⟩
          · rw [e] at hlt ⊢
            have : k = 0 := by simpa using hlt
            subst this; exact ⟨h0, h1⟩
          · rw [e] at hlt ⊢
            have : k = 0 ∨ k = 1 := by simp at hlt; omega
            rcases this with rfl | rfl
            · exact ⟨h0, h1⟩
            · exact ⟨h2, h3⟩
        have co := keep_of hoc hob hB2r
        have cs := keep_of hsc hsb hBwr
        have hK : ownK ow sends (k + 1) = (ownK ow sends k).own (ow.getD k 0).toNat (sends.getD k ⟨#[]⟩) := rfl
        have HK := Lib.hid hK
        clear hK
        generalize hgo : ow.getD k 0 = x at *
        generalize hgs : sends.getD k ⟨#[]⟩ = sx at *
        obtain ⟨i, rfl⟩ : ∃ i : Nat, x = i := ⟨x.toNat, by omega⟩
        have hi : i < n := by omega
        have hi0 : (0 : Int) ≤ (i : Int) := by omega
        have hi1 : (i : Int) < (n : Int) := by omega
        have hWr := waveAt_but _ _ _ _ _ _ _ _ _ _ _ _ _ _ _ _ _ _ hW hbr (by rintro (h | h) <;> omega)
        have c17 := hWr.c17
        have c18 := hWr.c18
        have k2 := hvr.at_.o i hi
        have k4 := hvr.at_.g i hi
        have fS := hvr.fS
        have fD := hvr.fD
        have hDS : DB ≠ SB := fun e => hSD e.symm
        have hSW : SB ≠ W := fun e => hWS e.symm
        have hDW : DB ≠ W := fun e => hWD e.symm
        have s1 : SB ≠ sb := by omega
        have s2 : DB ≠ sb := by omega
        have HV := Lib.hid hvr
        have HB := Lib.hid hbr
        have HWr := Lib.hid hW
        have lkn : (0 : Int) ≤ (k : Int) := by omega
        have lkm : (k : Int) < (ow.length : Int) := by omega
        clear hvr hbr hW hWr hgo hgs hoc hsc
        go_wp2_with fail
        go_region_held3 (fun w' => w'.cell? ⟨W, 17, none⟩ = some (.slice (some ⟨SB, 0, none⟩) n n) ∧ w'.cell? ⟨W, 18, none⟩ = some (.slice (some ⟨DB, 0, none⟩) n n) ∧ w'.cell? ⟨sb, so + k, none⟩ = some (.string sx)) (go_keep) (fail)
        go_wp2
        go_roundw
        case rel => exact ⟨k + 1, by omega, by go_num, by rw [HK.out]; exact wv_drew (own_wv HV.out hi hSD rfl), ((HB.out.setCell (.inl (.inl rfl)) _).setCell (.inl (.inr rfl)) _).drew⟩
        case measure => simp [intOf]; omega
      · have hkl : k = ow.length := by omega
        subst hkl
        have hWr := waveAt_but _ _ _ _ _ _ _ _ _ _ _ _ _ _ _ _ _ _ hW hbr (by rintro (h | h) <;> omega)
        have xNr := (hbr.cell (p := ⟨w.heap.size, 0, none⟩) hSl (by rintro (h | h) <;> simp at h <;> omega)).trans xN
        have HWay := Lib.hid (ring_Way n dir OA ow OC wr (by omega) (by omega) (HOIn.out.below hB2r) HO.out hdir)
        have HWm := Lib.hid (fun x (h : x ∈ wayF n dir ow) => wayF_mem (by omega) h)
        have HWl := Lib.hid (wayF_len n dir ow)
        have HR : Hid (runF E n Pi slot dir st dv ow sends = wayK E n Pi slot dir st dv (ownK ow sends ow.length) (wayF n dir ow) (wayF n dir ow).length) := rfl
        generalize hgw : wayF n dir ow = way at *
        have HGW := Lib.hid hgw
        generalize hgv : ownK ow sends ow.length = v0 at *
        have HGV := Lib.hid hgv
        clear hgw hgv hW hv hbr xN
        go_wp2_with fail
        refine HWay.out.mono ?_
        rintro e w3 ⟨u3, rfl, hown3, hb3⟩
        obtain ⟨A3, C3, rfl, hI3, hlC3, hbase3⟩ := ints_of_own2 hown3
        have hW3 := waveAt_below _ _ _ _ _ _ _ _ _ _ _ _ _ _ _ _ _ _ hWr hb3
        have hv3 := WvAt.below hvr hb3 hWr.sl hWr.dl
        have hBw3 : Below w.heap.size w w3 := hBwr.trans (hb3.mono hBwr.size)
        have lS := hWr.sl
        have lD := hWr.dl
        have hA3 : ∀ b off, A3 = some ⟨b, off, none⟩ → ¬ (b = SB ∨ b = DB) := fun b off e => by have := hbase3 b off e; rintro (h | h) <;> omega
        have HA3 := Lib.hid hA3
        have HI3 := Lib.hid hI3
        have HW3 := Lib.hid hW3
        have hE0 := HE.out.strm
        have hStr := fun k hk i hi => wayK_strm (Pi := Pi) (slot := slot) (dir := dir) (st := st) (dv := dv) (v := v0) (l := way) hE0 hn6 HWm.out (fun i hi => by rw [← HGV.out]; exact ownK_strm HSTR.out _ _) k hk i hi
        have HStr := Lib.hid hStr
        have hg3 : ∀ q, (q = SB ∨ q = DB) → w.heap.size ≤ q := by rintro q (rfl | rfl) <;> omega
        have HG3 := Lib.hid hg3
        have hl3 : w.heap.size ≤ w3.heap.size := hBw3.size
        clear hA3 hI3 hbase3 hWr hvr hb3 hown3 hW3 hE0 hStr hg3 HWay xNr
        go_wp2_with fail
        go_loopw [103] (fun t wq => ∃ k : Nat, k ≤ way.length ∧ t = .int .i64 k ∧ WvAt wq SB DB n (wayK E n Pi slot dir st dv v0 way k) ∧ But (fun q => q = SB ∨ q = DB) w3 wq) (fun t _ => way.length - (intOf t).toNat)
        case atStart => exact ⟨0, by omega, rfl, hv3, But.refl _ _⟩
        case round =>
          obtain ⟨k, hk, rfl, hvq, hbq⟩ := hrel
          have hBwr : Below w.heap.size w wr := hBw3.trans (hbq.to_below hl3 HG3.out)
          have hWq := waveAt_but _ _ _ _ _ _ _ _ _ _ _ _ _ _ _ _ _ _ HW3.out hbq (by rintro (h | h) <;> omega)
          have hwl := HWl.out
          by_cases hlt : k < way.length
          · obtain ⟨ab, ao, rfl, hab, hac⟩ := ints_but HI3.out hbq HA3.out k hlt
            have hx := HWm.out (way.getD k 0) (getD_mem hlt)
            have hK : wayK E n Pi slot dir st dv v0 way (k + 1) = (wayK E n Pi slot dir st dv v0 way k).reach E n Pi slot dir st dv (way.getD k 0).toNat ((k : Int) + 1) := rfl
            have HK := Lib.hid hK
            clear hK
            generalize hgx : way.getD k 0 = x at *
            obtain ⟨m, rfl⟩ : ∃ m : Nat, x = m := ⟨x.toNat, by omega⟩
            have hm : m < n := by omega
            have HReach := Lib.hid (reach FW n Pi Er G Fi PA ps.length PC Kind At From To CA CL CC VA VL VC round slot dir TB UB SB DB n W E (wayK E n Pi slot dir st dv v0 way k) st dv m ((k : Int) + 1) wr HE.out (HE.out.stays w wr HFW.out hBwr) rfl (by omega) (by omega) (by have := HC.out.p0; have := HC.out.e0; have := HC.out.g0; omega) (by have := HC.out.p1; omega) hWq hvq hSD hWS hWD
              (keep_of (HT.out m hm) hTl hBwr) (keep_of (HU.out m hm) hUl hBwr) (Nat.lt_of_lt_of_le hTl hBwr.size) (Nat.lt_of_lt_of_le hUl hBwr.size) hdir hm (fun i hi => HStr.out k hk i hi) (by omega) (by omega))
            have HB := Lib.hid hbq
            clear hvq hbq hWq hgx
            have lkn : (0 : Int) ≤ (k : Int) := by omega
            have lkm : (k : Int) < (way.length : Int) := by omega
            go_wp2_with fail
            refine HReach.out.mono ?_
            rintro e w4 ⟨rfl, hb4, hv4⟩
            go_wp2
            go_roundw
            case rel => exact ⟨k + 1, by omega, by go_num, by rw [HK.out]; exact hv4, HB.out.trans hb4⟩
            case measure => simp [intOf]; omega
          · have hkl : k = way.length := by omega
            subst hkl
            have c17 := hWq.c17
            have HClone := Lib.hid (_root_.Go.Proofs.YtdbempiompiioaaGreat.CL.Clone107 SB 0 n n (sideCells (wayK E n Pi slot dir st dv v0 way way.length).f n) wr (sideCells_length _ _) (by omega) (sideCells_read hvq.at_) (sideCells_one _ _))
            clear hvq hbq hWq
            go_wp2_with fail
            refine HClone.out.mono ?_
            rintro e w5 ⟨u5, rfl, hown5, hne5, hb5⟩
            go_wp2
            go_ret
            exact ⟨_, rfl, by rw [HR.out]; exact own_mono hown5 hBwr.size, hne5, hBwr.trans (hb5.mono hBwr.size)⟩
end Go.Proofs.YtdbempiompiioaaGreat.A19
