/- A frame that may not be gets an error. A frame whose echoes may not be gets an error. Any stream rea Conditions: the bounds stated in each theorem. -/
import Derived.Test.YtdbempiompiioaaGreatT04
set_option linter.unusedVariables false
set_option linter.unusedSimpArgs false
set_option maxRecDepth 100000
set_option maxHeartbeats 80000000
open Go.Value renaming int → Z
open Go.IntKind renaming i64 → Y
open Go renaming World → Zw, Calls → Zc, heap_alloc_new → Zh
open Go.RowKit renaming Below → Zb
open Go.Proofs.Tryz renaming prog → Zp
open Go.Lib renaming hid → O
open Go.World renaming block_lt_of_cell? → Zl, cell?_setCell_other → Zo
open Nat renaming le_refl → Zr
open Go.RowKit.Below renaming refl → Zf
namespace Go.Proofs.YtdbempiompiioaaGreat
namespace D2
open Go.RowKit A1 A2 A18 A22 D1
structure FrR (N PL:Nat) (f:Fr):Prop where
 k3:f.kind≤3
 round:f.round≤65535
 slot:f.slot≤63
 pk:f.pk≤3
 pv:f.pv≤255
 len:f.echo.length=if f.kind=3∧f.slot < N then N+PL else 0
 each:∀ k,k < f.echo.length→(f.echo.getD k (0,0)).1≤3∧(f.echo.getD k (0,0)).2≤255
theorem FrR.echoes {N PL:Nat} {f:Fr} (h:FrR N PL f) (hN:N≤12) (hP:PL≤3) (Pi Er G Fi:Int) (PA:Option Addr) (PC:Nat) (w:Zw) :
 Zc Zp 197 #[.agg #[Z Y N,Z Y Pi,Z Y Er,Z Y G,Z Y Fi,.slice PA PL PC],Z Y f.kind,Z Y f.slot] w fun e w'=>e=.returned (Z Y f.echo.length)∧Zb w.heap.size w w':=by
 rw [h.len]
 by_cases hk:f.kind=3
 ·by_cases hs:f.slot < N
  ·rw [if_pos ⟨hk,hs⟩,hk]
   have:=frame_echoes_data N Pi Er G Fi PA PL PC f.slot w (by omega) (by omega) hP (by omega)
   rw [show((N+PL:Nat):Int)=(N:Int)+PL by omega]
   exact this
  ·rw [if_neg (fun e=>hs e.2),hk]
   exact frame_echoes_pair N Pi Er G Fi PA PL PC f.slot w (by omega) (by omega) hP (by omega)
 ·rw [if_neg (fun e=>hk e.1)]
  exact frame_echoes_none N Pi Er G Fi PA PL PC f.kind f.slot w (by omega) (by omega) hP (by omega)
theorem Check_slot (N:Nat) (Pi Er G Fi:Int) (PA:Option Addr) (PL PC:Nat) (f:Fr) (EA:Option Addr) (EC:Nat) (w:Zw) (hN:N≤12) (hP:PL≤3) (hs:N+PL≤f.slot) :
 Zc Zp 198 #[.agg #[Z Y N,Z Y Pi,Z Y Er,Z Y G,Z Y Fi,.slice PA PL PC],.agg #[Z Y f.kind,Z Y f.round,Z Y f.slot,Z Y f.pk,Z Y f.pv,.slice EA f.echo.length EC]] w fun e w'=>e=.returned (Z Y 1)∧Zb w.heap.size w w':=by
 have d1:decide ((f.slot:Int) < 0)=false:=by simp
 have d2:decide ((f.slot:Int)≥(N:Int)+PL)=true:=by simp;omega
 have HS:=O (fun w=>conf_Slots N Pi Er G Fi PA PL PC w (by omega) (by omega) hP)
 have kp:∀ W W':Zw,w.heap.size+1 < W.heap.size→Zb W.heap.size W W'→(W.cell? ⟨w.heap.size,0,none⟩=some (Z Y N)∧W.cell? ⟨w.heap.size,1,none⟩=some (Z Y Pi)∧W.cell? ⟨w.heap.size,2,none⟩=some (Z Y Er)∧W.cell? ⟨w.heap.size,3,none⟩=some (Z Y G)∧W.cell? ⟨w.heap.size,4,none⟩=some (Z Y Fi)∧W.cell? ⟨w.heap.size,5,none⟩=some (.slice PA PL PC)∧W.cell? ⟨w.heap.size+1,0,none⟩=some (Z Y f.kind)∧W.cell? ⟨w.heap.size+1,1,none⟩=some (Z Y f.round)∧W.cell? ⟨w.heap.size+1,2,none⟩=some (Z Y f.slot)∧W.cell? ⟨w.heap.size+1,3,none⟩=some (Z Y f.pk)∧W.cell? ⟨w.heap.size+1,4,none⟩=some (Z Y f.pv)∧W.cell? ⟨w.heap.size+1,5,none⟩=some (.slice EA f.echo.length EC))→(W'.cell? ⟨w.heap.size,0,none⟩=some (Z Y N)∧W'.cell? ⟨w.heap.size,1,none⟩=some (Z Y Pi)∧W'.cell? ⟨w.heap.size,2,none⟩=some (Z Y Er)∧W'.cell? ⟨w.heap.size,3,none⟩=some (Z Y G)∧W'.cell? ⟨w.heap.size,4,none⟩=some (Z Y Fi)∧W'.cell? ⟨w.heap.size,5,none⟩=some (.slice PA PL PC)∧W'.cell? ⟨w.heap.size+1,0,none⟩=some (Z Y f.kind)∧W'.cell? ⟨w.heap.size+1,1,none⟩=some (Z Y f.round)∧W'.cell? ⟨w.heap.size+1,2,none⟩=some (Z Y f.slot)∧W'.cell? ⟨w.heap.size+1,3,none⟩=some (Z Y f.pk)∧W'.cell? ⟨w.heap.size+1,4,none⟩=some (Z Y f.pv)∧W'.cell? ⟨w.heap.size+1,5,none⟩=some (.slice EA f.echo.length EC)):=fun W W' h hb hs=>by
  obtain⟨h0,h1,h2,h3,h4,h5,h6,h7,h8,h9,h10,h11⟩:=hs
  exact⟨keep_of h0 (by omega) hb,keep_of h1 (by omega) hb,keep_of h2 (by omega) hb,keep_of h3 (by omega) hb,keep_of h4 (by omega) hb,keep_of h5 (by omega) hb,keep_of h6 h hb,keep_of h7 h hb,keep_of h8 h hb,keep_of h9 h hb,keep_of h10 h hb,keep_of h11 h hb⟩
 have KP:=O kp
 have s0:∀ W0:Zw,W0=(w.alloc (.cells #[Z Y N,Z Y Pi,Z Y Er,Z Y G,Z Y Fi,.slice PA PL PC] 24)).alloc (.cells #[Z Y f.kind,Z Y f.round,Z Y f.slot,Z Y f.pk,Z Y f.pv,.slice EA f.echo.length EC] 118)→(W0.cell? ⟨w.heap.size,0,none⟩=some (Z Y N)∧W0.cell? ⟨w.heap.size,1,none⟩=some (Z Y Pi)∧W0.cell? ⟨w.heap.size,2,none⟩=some (Z Y Er)∧W0.cell? ⟨w.heap.size,3,none⟩=some (Z Y G)∧W0.cell? ⟨w.heap.size,4,none⟩=some (Z Y Fi)∧W0.cell? ⟨w.heap.size,5,none⟩=some (.slice PA PL PC)∧W0.cell? ⟨w.heap.size+1,0,none⟩=some (Z Y f.kind)∧W0.cell? ⟨w.heap.size+1,1,none⟩=some (Z Y f.round)∧W0.cell? ⟨w.heap.size+1,2,none⟩=some (Z Y f.slot)∧W0.cell? ⟨w.heap.size+1,3,none⟩=some (Z Y f.pk)∧W0.cell? ⟨w.heap.size+1,4,none⟩=some (Z Y f.pv)∧W0.cell? ⟨w.heap.size+1,5,none⟩=some (.slice EA f.echo.length EC)):=by rintro _ rfl;go_simp
 have S0:=O s0
 clear kp s0
 rcases Bool.eq_false_or_eq_true ((f.kind:Int) == 3)with b1 | b1
 ·go_enter Tryz.func198,Tryz.ntmps198
  go_upto_region 4 with fail
  refine wp_region_held_drew (S:=fun w'=>(w'.cell? ⟨w.heap.size,0,none⟩=some (Z Y N)∧w'.cell? ⟨w.heap.size,1,none⟩=some (Z Y Pi)∧w'.cell? ⟨w.heap.size,2,none⟩=some (Z Y Er)∧w'.cell? ⟨w.heap.size,3,none⟩=some (Z Y G)∧w'.cell? ⟨w.heap.size,4,none⟩=some (Z Y Fi)∧w'.cell? ⟨w.heap.size,5,none⟩=some (.slice PA PL PC)∧w'.cell? ⟨w.heap.size+1,0,none⟩=some (Z Y f.kind)∧w'.cell? ⟨w.heap.size+1,1,none⟩=some (Z Y f.round)∧w'.cell? ⟨w.heap.size+1,2,none⟩=some (Z Y f.slot)∧w'.cell? ⟨w.heap.size+1,3,none⟩=some (Z Y f.pk)∧w'.cell? ⟨w.heap.size+1,4,none⟩=some (Z Y f.pv)∧w'.cell? ⟨w.heap.size+1,5,none⟩=some (.slice EA f.echo.length EC))) (by kernel_rfl) (by have:=S0.out _ rfl;exact this) (fun hHeld=>?_)
  refine rgT 0 ?_
  refine rgT 1 ?_
  refine rgT 2 ?_
  refine rgT 3 ?_
  refine rgT 4 ?_
  refine rgT 5 ?_
  refine rgT 6 ?_
  refine rgR 7 fun K hK=>?_
  go_simp
  refine(HS.out _).mono ?_
  rintro e w1 ⟨rfl,hb1⟩
  go_simp
  have hz1:w.heap.size+1 < w1.heap.size:=by have:=hb1.size;simp at this;omega
  have hB1:Zb w.heap.size w w1:=Below.trans (show Zb w.heap.size w _ from bB) (hb1.mono (by simp;omega))
  replace hHeld:=KP.out _ _ (by simp) hb1 hHeld
  refine hK.out _ _ hHeld (fun hHeld=>?_)
  clear hK K
  refine rgT 8 ?_
  refine rgT 9 ?_
  refine rgT 10 ?_
  refine rgS 11 ?_
  refine rgS 12 ?_
  refine rgS 13 ?_
  refine rgT 14 ?_
  refine rgT 15 ?_
  refine rgS 16 ?_
  refine rgS 17 ?_
  refine rgS 18 ?_
  refine rgT 19 ?_
  refine rgT 20 ?_
  refine wpAnyH_done (by kernel_rfl) ?_ _
  go_wp2
  go_ret
  exact⟨rfl,hB1⟩
 ·go_enter Tryz.func198,Tryz.ntmps198
  go_upto_region 4 with fail
  refine wp_region_held_drew (S:=fun w'=>(w'.cell? ⟨w.heap.size,0,none⟩=some (Z Y N)∧w'.cell? ⟨w.heap.size,1,none⟩=some (Z Y Pi)∧w'.cell? ⟨w.heap.size,2,none⟩=some (Z Y Er)∧w'.cell? ⟨w.heap.size,3,none⟩=some (Z Y G)∧w'.cell? ⟨w.heap.size,4,none⟩=some (Z Y Fi)∧w'.cell? ⟨w.heap.size,5,none⟩=some (.slice PA PL PC)∧w'.cell? ⟨w.heap.size+1,0,none⟩=some (Z Y f.kind)∧w'.cell? ⟨w.heap.size+1,1,none⟩=some (Z Y f.round)∧w'.cell? ⟨w.heap.size+1,2,none⟩=some (Z Y f.slot)∧w'.cell? ⟨w.heap.size+1,3,none⟩=some (Z Y f.pk)∧w'.cell? ⟨w.heap.size+1,4,none⟩=some (Z Y f.pv)∧w'.cell? ⟨w.heap.size+1,5,none⟩=some (.slice EA f.echo.length EC))) (by kernel_rfl) (by have:=S0.out _ rfl;exact this) (fun hHeld=>?_)
  refine rgT 0 ?_
  refine rgT 1 ?_
  refine rgT 2 ?_
  refine rgT 3 ?_
  refine rgT 4 ?_
  refine rgT 5 ?_
  refine rgT 6 ?_
  refine rgR 7 fun K hK=>?_
  go_simp
  refine(HS.out _).mono ?_
  rintro e w1 ⟨rfl,hb1⟩
  go_simp
  have hz1:w.heap.size+1 < w1.heap.size:=by have:=hb1.size;simp at this;omega
  have hB1:Zb w.heap.size w w1:=Below.trans (show Zb w.heap.size w _ from bB) (hb1.mono (by simp;omega))
  replace hHeld:=KP.out _ _ (by simp) hb1 hHeld
  refine hK.out _ _ hHeld (fun hHeld=>?_)
  clear hK K
  refine rgT 8 ?_
  refine rgT 9 ?_
  refine rgT 10 ?_
  refine rgS 11 ?_
  refine rgS 12 ?_
  refine rgS 13 ?_
  refine rgT 14 ?_
  refine rgT 15 ?_
  refine rgS 16 ?_
  refine rgS 17 ?_
  refine rgS 18 ?_
  refine rgT 19 ?_
  refine rgT 20 ?_
  refine wpAnyH_done (by kernel_rfl) ?_ _
  go_wp2
  go_ret
  exact⟨rfl,hB1⟩
theorem Check_kind (N:Nat) (Pi Er G Fi:Int) (PA:Option Addr) (PL PC:Nat) (f:Fr) (EA:Option Addr) (EC:Nat) (w:Zw) (hN:N≤12) (hP:PL≤3) (hs:f.slot < N+PL) (hr:f.round≤65535) (hk3:f.kind≤3) (hk:f.kind=0∨N≤f.slot∧f.kind≠3) :
 Zc Zp 198 #[.agg #[Z Y N,Z Y Pi,Z Y Er,Z Y G,Z Y Fi,.slice PA PL PC],.agg #[Z Y f.kind,Z Y f.round,Z Y f.slot,Z Y f.pk,Z Y f.pv,.slice EA f.echo.length EC]] w fun e w'=>e=.returned (Z Y 6)∧Zb w.heap.size w w':=by
 have d1:decide ((f.slot:Int) < 0)=false:=by simp
 have d2:decide ((f.slot:Int)≥(N:Int)+PL)=false:=by simp;omega
 have d3:decide ((f.round:Int) < 0)=false:=by simp
 have d4:decide ((f.round:Int) > 65535)=false:=by simp;omega
 have d6:decide ((f.kind:Int) > 3)=false:=by simp;omega
 have b1:((f.kind:Int) == 3)=false:=by simp;omega
 have b2:((f.kind:Int) != 3)=true:=by simp;omega
 have HS:=O (fun w=>conf_Slots N Pi Er G Fi PA PL PC w (by omega) (by omega) hP)
 have kp:∀ W W':Zw,w.heap.size+1 < W.heap.size→Zb W.heap.size W W'→(W.cell? ⟨w.heap.size,0,none⟩=some (Z Y N)∧W.cell? ⟨w.heap.size,1,none⟩=some (Z Y Pi)∧W.cell? ⟨w.heap.size,2,none⟩=some (Z Y Er)∧W.cell? ⟨w.heap.size,3,none⟩=some (Z Y G)∧W.cell? ⟨w.heap.size,4,none⟩=some (Z Y Fi)∧W.cell? ⟨w.heap.size,5,none⟩=some (.slice PA PL PC)∧W.cell? ⟨w.heap.size+1,0,none⟩=some (Z Y f.kind)∧W.cell? ⟨w.heap.size+1,1,none⟩=some (Z Y f.round)∧W.cell? ⟨w.heap.size+1,2,none⟩=some (Z Y f.slot)∧W.cell? ⟨w.heap.size+1,3,none⟩=some (Z Y f.pk)∧W.cell? ⟨w.heap.size+1,4,none⟩=some (Z Y f.pv)∧W.cell? ⟨w.heap.size+1,5,none⟩=some (.slice EA f.echo.length EC))→(W'.cell? ⟨w.heap.size,0,none⟩=some (Z Y N)∧W'.cell? ⟨w.heap.size,1,none⟩=some (Z Y Pi)∧W'.cell? ⟨w.heap.size,2,none⟩=some (Z Y Er)∧W'.cell? ⟨w.heap.size,3,none⟩=some (Z Y G)∧W'.cell? ⟨w.heap.size,4,none⟩=some (Z Y Fi)∧W'.cell? ⟨w.heap.size,5,none⟩=some (.slice PA PL PC)∧W'.cell? ⟨w.heap.size+1,0,none⟩=some (Z Y f.kind)∧W'.cell? ⟨w.heap.size+1,1,none⟩=some (Z Y f.round)∧W'.cell? ⟨w.heap.size+1,2,none⟩=some (Z Y f.slot)∧W'.cell? ⟨w.heap.size+1,3,none⟩=some (Z Y f.pk)∧W'.cell? ⟨w.heap.size+1,4,none⟩=some (Z Y f.pv)∧W'.cell? ⟨w.heap.size+1,5,none⟩=some (.slice EA f.echo.length EC)):=fun W W' h hb hs=>by
  obtain⟨h0,h1,h2,h3,h4,h5,h6,h7,h8,h9,h10,h11⟩:=hs
  exact⟨keep_of h0 (by omega) hb,keep_of h1 (by omega) hb,keep_of h2 (by omega) hb,keep_of h3 (by omega) hb,keep_of h4 (by omega) hb,keep_of h5 (by omega) hb,keep_of h6 h hb,keep_of h7 h hb,keep_of h8 h hb,keep_of h9 h hb,keep_of h10 h hb,keep_of h11 h hb⟩
 have KP:=O kp
 have s0:∀ W0:Zw,W0=(w.alloc (.cells #[Z Y N,Z Y Pi,Z Y Er,Z Y G,Z Y Fi,.slice PA PL PC] 24)).alloc (.cells #[Z Y f.kind,Z Y f.round,Z Y f.slot,Z Y f.pk,Z Y f.pv,.slice EA f.echo.length EC] 118)→(W0.cell? ⟨w.heap.size,0,none⟩=some (Z Y N)∧W0.cell? ⟨w.heap.size,1,none⟩=some (Z Y Pi)∧W0.cell? ⟨w.heap.size,2,none⟩=some (Z Y Er)∧W0.cell? ⟨w.heap.size,3,none⟩=some (Z Y G)∧W0.cell? ⟨w.heap.size,4,none⟩=some (Z Y Fi)∧W0.cell? ⟨w.heap.size,5,none⟩=some (.slice PA PL PC)∧W0.cell? ⟨w.heap.size+1,0,none⟩=some (Z Y f.kind)∧W0.cell? ⟨w.heap.size+1,1,none⟩=some (Z Y f.round)∧W0.cell? ⟨w.heap.size+1,2,none⟩=some (Z Y f.slot)∧W0.cell? ⟨w.heap.size+1,3,none⟩=some (Z Y f.pk)∧W0.cell? ⟨w.heap.size+1,4,none⟩=some (Z Y f.pv)∧W0.cell? ⟨w.heap.size+1,5,none⟩=some (.slice EA f.echo.length EC)):=by rintro _ rfl;go_simp
 have S0:=O s0
 clear kp s0
 by_cases h0:f.kind=0
 ·have d5:decide ((f.kind:Int) < 1)=true:=by simp;omega
  clear hk h0
  go_enter Tryz.func198,Tryz.ntmps198
  go_upto_region 4 with fail
  refine wp_region_held_drew (S:=fun w'=>(w'.cell? ⟨w.heap.size,0,none⟩=some (Z Y N)∧w'.cell? ⟨w.heap.size,1,none⟩=some (Z Y Pi)∧w'.cell? ⟨w.heap.size,2,none⟩=some (Z Y Er)∧w'.cell? ⟨w.heap.size,3,none⟩=some (Z Y G)∧w'.cell? ⟨w.heap.size,4,none⟩=some (Z Y Fi)∧w'.cell? ⟨w.heap.size,5,none⟩=some (.slice PA PL PC)∧w'.cell? ⟨w.heap.size+1,0,none⟩=some (Z Y f.kind)∧w'.cell? ⟨w.heap.size+1,1,none⟩=some (Z Y f.round)∧w'.cell? ⟨w.heap.size+1,2,none⟩=some (Z Y f.slot)∧w'.cell? ⟨w.heap.size+1,3,none⟩=some (Z Y f.pk)∧w'.cell? ⟨w.heap.size+1,4,none⟩=some (Z Y f.pv)∧w'.cell? ⟨w.heap.size+1,5,none⟩=some (.slice EA f.echo.length EC))) (by kernel_rfl) (by have:=S0.out _ rfl;exact this) (fun hHeld=>?_)
  refine rgT 0 ?_
  refine rgT 1 ?_
  refine rgT 2 ?_
  refine rgT 3 ?_
  refine rgT 4 ?_
  refine rgT 5 ?_
  refine rgT 6 ?_
  refine rgR 7 fun K hK=>?_
  go_simp
  refine(HS.out _).mono ?_
  rintro e w1 ⟨rfl,hb1⟩
  go_simp
  have hz1:w.heap.size+1 < w1.heap.size:=by have:=hb1.size;simp at this;omega
  have hB1:Zb w.heap.size w w1:=Below.trans (show Zb w.heap.size w _ from bB) (hb1.mono (by simp;omega))
  replace hHeld:=KP.out _ _ (by simp) hb1 hHeld
  refine hK.out _ _ hHeld (fun hHeld=>?_)
  clear hK K
  refine rgT 8 ?_
  refine rgT 9 ?_
  refine rgT 10 ?_
  refine rgT 11 ?_
  refine rgT 12 ?_
  refine rgT 13 ?_
  refine rgT 14 ?_
  refine rgT 15 ?_
  refine rgT 16 ?_
  refine rgT 17 ?_
  refine rgT 18 ?_
  refine rgT 19 ?_
  refine rgT 20 ?_
  refine wpAnyH_done (by kernel_rfl) ?_ _
  obtain⟨h0,h1,h2,h3,h4,h5,h6,h7,h8,h9,h10,h11⟩:=hHeld
  go_wp2
  go_ret
  exact⟨rfl,hB1⟩
 ·have d5:decide ((f.kind:Int) < 1)=false:=by simp;omega
  have b3:decide ((f.slot:Int)≥N)=true:=by simp;omega
  have b4:decide (N≤f.slot)=true:=by simp;omega
  have b5:decide (f.slot≥N)=true:=by simp;omega
  clear hk h0
  go_enter Tryz.func198,Tryz.ntmps198
  go_upto_region 4 with fail
  refine wp_region_held_drew (S:=fun w'=>(w'.cell? ⟨w.heap.size,0,none⟩=some (Z Y N)∧w'.cell? ⟨w.heap.size,1,none⟩=some (Z Y Pi)∧w'.cell? ⟨w.heap.size,2,none⟩=some (Z Y Er)∧w'.cell? ⟨w.heap.size,3,none⟩=some (Z Y G)∧w'.cell? ⟨w.heap.size,4,none⟩=some (Z Y Fi)∧w'.cell? ⟨w.heap.size,5,none⟩=some (.slice PA PL PC)∧w'.cell? ⟨w.heap.size+1,0,none⟩=some (Z Y f.kind)∧w'.cell? ⟨w.heap.size+1,1,none⟩=some (Z Y f.round)∧w'.cell? ⟨w.heap.size+1,2,none⟩=some (Z Y f.slot)∧w'.cell? ⟨w.heap.size+1,3,none⟩=some (Z Y f.pk)∧w'.cell? ⟨w.heap.size+1,4,none⟩=some (Z Y f.pv)∧w'.cell? ⟨w.heap.size+1,5,none⟩=some (.slice EA f.echo.length EC))) (by kernel_rfl) (by have:=S0.out _ rfl;exact this) (fun hHeld=>?_)
  refine rgT 0 ?_
  refine rgT 1 ?_
  refine rgT 2 ?_
  refine rgT 3 ?_
  refine rgT 4 ?_
  refine rgT 5 ?_
  refine rgT 6 ?_
  refine rgR 7 fun K hK=>?_
  go_simp
  refine(HS.out _).mono ?_
  rintro e w1 ⟨rfl,hb1⟩
  go_simp
  have hz1:w.heap.size+1 < w1.heap.size:=by have:=hb1.size;simp at this;omega
  have hB1:Zb w.heap.size w w1:=Below.trans (show Zb w.heap.size w _ from bB) (hb1.mono (by simp;omega))
  replace hHeld:=KP.out _ _ (by simp) hb1 hHeld
  refine hK.out _ _ hHeld (fun hHeld=>?_)
  clear hK K
  refine rgT 8 ?_
  refine rgT 9 ?_
  refine rgT 10 ?_
  refine rgT 11 ?_
  refine rgT 12 ?_
  refine rgT 13 ?_
  refine rgT 14 ?_
  refine rgT 15 ?_
  refine rgT 16 ?_
  refine rgT 17 ?_
  refine rgT 18 ?_
  refine rgT 19 ?_
  refine rgT 20 ?_
  refine wpAnyH_done (by kernel_rfl) ?_ _
  obtain⟨h0,h1,h2,h3,h4,h5,h6,h7,h8,h9,h10,h11⟩:=hHeld
  go_wp2
  go_ret
  exact⟨rfl,hB1⟩
theorem Check_pay (N:Nat) (Pi Er G Fi:Int) (PA:Option Addr) (PL PC:Nat) (f:Fr) (EA:Option Addr) (EC:Nat) (w:Zw) (hN:N≤12) (hP:PL≤3) (hs:f.slot < N+PL) (hr:f.round≤65535) (hk3:f.kind≤3) (hk1:1≤f.kind) (ho:N≤f.slot→f.kind=3) (hv:f.pv≤255) (h3:f.kind=3→valB f.pk f.pv=false) (h4:f.kind≠3→¬(f.pk=0∧f.pv=0)) :
 Zc Zp 198 #[.agg #[Z Y N,Z Y Pi,Z Y Er,Z Y G,Z Y Fi,.slice PA PL PC],.agg #[Z Y f.kind,Z Y f.round,Z Y f.slot,Z Y f.pk,Z Y f.pv,.slice EA f.echo.length EC]] w fun e w'=>e=.returned (Z Y 1)∧Zb w.heap.size w w':=by
 have d1:decide ((f.slot:Int) < 0)=false:=by simp
 have d2:decide ((f.slot:Int)≥(N:Int)+PL)=false:=by simp;omega
 have d3:decide ((f.round:Int) < 0)=false:=by simp
 have d4:decide ((f.round:Int) > 65535)=false:=by simp;omega
 have d5:decide ((f.kind:Int) < 1)=false:=by simp;omega
 have d6:decide ((f.kind:Int) > 3)=false:=by simp;omega
 have HS:=O (fun w=>conf_Slots N Pi Er G Fi PA PL PC w (by omega) (by omega) hP)
 have kp:∀ W W':Zw,w.heap.size+1 < W.heap.size→Zb W.heap.size W W'→(W.cell? ⟨w.heap.size,0,none⟩=some (Z Y N)∧W.cell? ⟨w.heap.size,1,none⟩=some (Z Y Pi)∧W.cell? ⟨w.heap.size,2,none⟩=some (Z Y Er)∧W.cell? ⟨w.heap.size,3,none⟩=some (Z Y G)∧W.cell? ⟨w.heap.size,4,none⟩=some (Z Y Fi)∧W.cell? ⟨w.heap.size,5,none⟩=some (.slice PA PL PC)∧W.cell? ⟨w.heap.size+1,0,none⟩=some (Z Y f.kind)∧W.cell? ⟨w.heap.size+1,1,none⟩=some (Z Y f.round)∧W.cell? ⟨w.heap.size+1,2,none⟩=some (Z Y f.slot)∧W.cell? ⟨w.heap.size+1,3,none⟩=some (Z Y f.pk)∧W.cell? ⟨w.heap.size+1,4,none⟩=some (Z Y f.pv)∧W.cell? ⟨w.heap.size+1,5,none⟩=some (.slice EA f.echo.length EC))→(W'.cell? ⟨w.heap.size,0,none⟩=some (Z Y N)∧W'.cell? ⟨w.heap.size,1,none⟩=some (Z Y Pi)∧W'.cell? ⟨w.heap.size,2,none⟩=some (Z Y Er)∧W'.cell? ⟨w.heap.size,3,none⟩=some (Z Y G)∧W'.cell? ⟨w.heap.size,4,none⟩=some (Z Y Fi)∧W'.cell? ⟨w.heap.size,5,none⟩=some (.slice PA PL PC)∧W'.cell? ⟨w.heap.size+1,0,none⟩=some (Z Y f.kind)∧W'.cell? ⟨w.heap.size+1,1,none⟩=some (Z Y f.round)∧W'.cell? ⟨w.heap.size+1,2,none⟩=some (Z Y f.slot)∧W'.cell? ⟨w.heap.size+1,3,none⟩=some (Z Y f.pk)∧W'.cell? ⟨w.heap.size+1,4,none⟩=some (Z Y f.pv)∧W'.cell? ⟨w.heap.size+1,5,none⟩=some (.slice EA f.echo.length EC)):=fun W W' h hb hs=>by
  obtain⟨h0,h1,h2,h3,h4,h5,h6,h7,h8,h9,h10,h11⟩:=hs
  exact⟨keep_of h0 (by omega) hb,keep_of h1 (by omega) hb,keep_of h2 (by omega) hb,keep_of h3 (by omega) hb,keep_of h4 (by omega) hb,keep_of h5 (by omega) hb,keep_of h6 h hb,keep_of h7 h hb,keep_of h8 h hb,keep_of h9 h hb,keep_of h10 h hb,keep_of h11 h hb⟩
 have KP:=O kp
 have s0:∀ W0:Zw,W0=(w.alloc (.cells #[Z Y N,Z Y Pi,Z Y Er,Z Y G,Z Y Fi,.slice PA PL PC] 24)).alloc (.cells #[Z Y f.kind,Z Y f.round,Z Y f.slot,Z Y f.pk,Z Y f.pv,.slice EA f.echo.length EC] 118)→(W0.cell? ⟨w.heap.size,0,none⟩=some (Z Y N)∧W0.cell? ⟨w.heap.size,1,none⟩=some (Z Y Pi)∧W0.cell? ⟨w.heap.size,2,none⟩=some (Z Y Er)∧W0.cell? ⟨w.heap.size,3,none⟩=some (Z Y G)∧W0.cell? ⟨w.heap.size,4,none⟩=some (Z Y Fi)∧W0.cell? ⟨w.heap.size,5,none⟩=some (.slice PA PL PC)∧W0.cell? ⟨w.heap.size+1,0,none⟩=some (Z Y f.kind)∧W0.cell? ⟨w.heap.size+1,1,none⟩=some (Z Y f.round)∧W0.cell? ⟨w.heap.size+1,2,none⟩=some (Z Y f.slot)∧W0.cell? ⟨w.heap.size+1,3,none⟩=some (Z Y f.pk)∧W0.cell? ⟨w.heap.size+1,4,none⟩=some (Z Y f.pv)∧W0.cell? ⟨w.heap.size+1,5,none⟩=some (.slice EA f.echo.length EC)):=by rintro _ rfl;go_simp
 have S0:=O s0
 clear kp s0
 by_cases hk:f.kind=3
 ·have b1:((f.kind:Int) == 3)=true:=by simp;omega
  have b2:((f.kind:Int) != 3)=false:=by simp;omega
  have HM:=O (fun w=>value_any f.pk f.pv w hv)
  rw [h3 hk]at HM
  clear h3 h4 hk ho
  by_cases hs2:f.slot < N
  ·have b3:decide ((f.slot:Int)≥N)=false:=by simp;omega
   have b4:decide (N≤f.slot)=false:=by simp;omega
   have b5:decide (f.slot≥N)=false:=by simp;omega
   go_enter Tryz.func198,Tryz.ntmps198
   go_upto_region 4 with fail
   refine wp_region_held_drew (S:=fun w'=>(w'.cell? ⟨w.heap.size,0,none⟩=some (Z Y N)∧w'.cell? ⟨w.heap.size,1,none⟩=some (Z Y Pi)∧w'.cell? ⟨w.heap.size,2,none⟩=some (Z Y Er)∧w'.cell? ⟨w.heap.size,3,none⟩=some (Z Y G)∧w'.cell? ⟨w.heap.size,4,none⟩=some (Z Y Fi)∧w'.cell? ⟨w.heap.size,5,none⟩=some (.slice PA PL PC)∧w'.cell? ⟨w.heap.size+1,0,none⟩=some (Z Y f.kind)∧w'.cell? ⟨w.heap.size+1,1,none⟩=some (Z Y f.round)∧w'.cell? ⟨w.heap.size+1,2,none⟩=some (Z Y f.slot)∧w'.cell? ⟨w.heap.size+1,3,none⟩=some (Z Y f.pk)∧w'.cell? ⟨w.heap.size+1,4,none⟩=some (Z Y f.pv)∧w'.cell? ⟨w.heap.size+1,5,none⟩=some (.slice EA f.echo.length EC))) (by kernel_rfl) (by have:=S0.out _ rfl;exact this) (fun hHeld=>?_)
   refine rgT 0 ?_
   refine rgT 1 ?_
   refine rgT 2 ?_
   refine rgT 3 ?_
   refine rgT 4 ?_
   refine rgT 5 ?_
   refine rgT 6 ?_
   refine rgR 7 fun K hK=>?_
   go_simp
   refine(HS.out _).mono ?_
   rintro e w1 ⟨rfl,hb1⟩
   go_simp
   have hz1:w.heap.size+1 < w1.heap.size:=by have:=hb1.size;simp at this;omega
   have hB1:Zb w.heap.size w w1:=Below.trans (show Zb w.heap.size w _ from bB) (hb1.mono (by simp;omega))
   replace hHeld:=KP.out _ _ (by simp) hb1 hHeld
   refine hK.out _ _ hHeld (fun hHeld=>?_)
   clear hK K
   refine rgT 8 ?_
   refine rgT 9 ?_
   refine rgT 10 ?_
   refine rgT 11 ?_
   refine rgT 12 ?_
   refine rgT 13 ?_
   refine rgT 14 ?_
   refine rgT 15 ?_
   refine rgT 16 ?_
   refine rgT 17 ?_
   refine rgT 18 ?_
   refine rgT 19 ?_
   refine rgT 20 ?_
   refine wpAnyH_done (by kernel_rfl) ?_ _
   obtain⟨h0,h1,h2,h3,h4,h5,h6,h7,h8,h9,h10,h11⟩:=hHeld
   go_wp2_with (go_at_call 213;refine(HM.out _).mono ?_;rintro e w2 ⟨rfl,hb2⟩)
   go_wp2
   go_ret
   exact⟨rfl,hB1.trans (hb2.mono (by omega))⟩
  ·have b3:decide ((f.slot:Int)≥N)=true:=by simp;omega
   have b4:decide (N≤f.slot)=true:=by simp;omega
   have b5:decide (f.slot≥N)=true:=by simp;omega
   go_enter Tryz.func198,Tryz.ntmps198
   go_upto_region 4 with fail
   refine wp_region_held_drew (S:=fun w'=>(w'.cell? ⟨w.heap.size,0,none⟩=some (Z Y N)∧w'.cell? ⟨w.heap.size,1,none⟩=some (Z Y Pi)∧w'.cell? ⟨w.heap.size,2,none⟩=some (Z Y Er)∧w'.cell? ⟨w.heap.size,3,none⟩=some (Z Y G)∧w'.cell? ⟨w.heap.size,4,none⟩=some (Z Y Fi)∧w'.cell? ⟨w.heap.size,5,none⟩=some (.slice PA PL PC)∧w'.cell? ⟨w.heap.size+1,0,none⟩=some (Z Y f.kind)∧w'.cell? ⟨w.heap.size+1,1,none⟩=some (Z Y f.round)∧w'.cell? ⟨w.heap.size+1,2,none⟩=some (Z Y f.slot)∧w'.cell? ⟨w.heap.size+1,3,none⟩=some (Z Y f.pk)∧w'.cell? ⟨w.heap.size+1,4,none⟩=some (Z Y f.pv)∧w'.cell? ⟨w.heap.size+1,5,none⟩=some (.slice EA f.echo.length EC))) (by kernel_rfl) (by have:=S0.out _ rfl;exact this) (fun hHeld=>?_)
   refine rgT 0 ?_
   refine rgT 1 ?_
   refine rgT 2 ?_
   refine rgT 3 ?_
   refine rgT 4 ?_
   refine rgT 5 ?_
   refine rgT 6 ?_
   refine rgR 7 fun K hK=>?_
   go_simp
   refine(HS.out _).mono ?_
   rintro e w1 ⟨rfl,hb1⟩
   go_simp
   have hz1:w.heap.size+1 < w1.heap.size:=by have:=hb1.size;simp at this;omega
   have hB1:Zb w.heap.size w w1:=Below.trans (show Zb w.heap.size w _ from bB) (hb1.mono (by simp;omega))
   replace hHeld:=KP.out _ _ (by simp) hb1 hHeld
   refine hK.out _ _ hHeld (fun hHeld=>?_)
   clear hK K
   refine rgT 8 ?_
   refine rgT 9 ?_
   refine rgT 10 ?_
   refine rgT 11 ?_
   refine rgT 12 ?_
   refine rgT 13 ?_
   refine rgT 14 ?_
   refine rgT 15 ?_
   refine rgT 16 ?_
   refine rgT 17 ?_
   refine rgT 18 ?_
   refine rgT 19 ?_
   refine rgT 20 ?_
   refine wpAnyH_done (by kernel_rfl) ?_ _
   obtain⟨h0,h1,h2,h3,h4,h5,h6,h7,h8,h9,h10,h11⟩:=hHeld
   go_wp2_with (go_at_call 213;refine(HM.out _).mono ?_;rintro e w2 ⟨rfl,hb2⟩)
   go_wp2
   go_ret
   exact⟨rfl,hB1.trans (hb2.mono (by omega))⟩
 ·have b1:((f.kind:Int) == 3)=false:=by simp;omega
  have b2:((f.kind:Int) != 3)=true:=by simp;omega
  have b3:decide ((f.slot:Int)≥N)=false:=by simp;omega
  have b4:decide (N≤f.slot)=false:=by simp;omega
  have b5:decide (f.slot≥N)=false:=by simp;omega
  have HM:=O (fun w=>empty_any f.pk f.pv w)
  rw [decide_eq_false (h4 hk)]at HM
  clear h3 h4 hk ho
  go_enter Tryz.func198,Tryz.ntmps198
  go_upto_region 4 with fail
  refine wp_region_held_drew (S:=fun w'=>(w'.cell? ⟨w.heap.size,0,none⟩=some (Z Y N)∧w'.cell? ⟨w.heap.size,1,none⟩=some (Z Y Pi)∧w'.cell? ⟨w.heap.size,2,none⟩=some (Z Y Er)∧w'.cell? ⟨w.heap.size,3,none⟩=some (Z Y G)∧w'.cell? ⟨w.heap.size,4,none⟩=some (Z Y Fi)∧w'.cell? ⟨w.heap.size,5,none⟩=some (.slice PA PL PC)∧w'.cell? ⟨w.heap.size+1,0,none⟩=some (Z Y f.kind)∧w'.cell? ⟨w.heap.size+1,1,none⟩=some (Z Y f.round)∧w'.cell? ⟨w.heap.size+1,2,none⟩=some (Z Y f.slot)∧w'.cell? ⟨w.heap.size+1,3,none⟩=some (Z Y f.pk)∧w'.cell? ⟨w.heap.size+1,4,none⟩=some (Z Y f.pv)∧w'.cell? ⟨w.heap.size+1,5,none⟩=some (.slice EA f.echo.length EC))) (by kernel_rfl) (by have:=S0.out _ rfl;exact this) (fun hHeld=>?_)
  refine rgT 0 ?_
  refine rgT 1 ?_
  refine rgT 2 ?_
  refine rgT 3 ?_
  refine rgT 4 ?_
  refine rgT 5 ?_
  refine rgT 6 ?_
  refine rgR 7 fun K hK=>?_
  go_simp
  refine(HS.out _).mono ?_
  rintro e w1 ⟨rfl,hb1⟩
  go_simp
  have hz1:w.heap.size+1 < w1.heap.size:=by have:=hb1.size;simp at this;omega
  have hB1:Zb w.heap.size w w1:=Below.trans (show Zb w.heap.size w _ from bB) (hb1.mono (by simp;omega))
  replace hHeld:=KP.out _ _ (by simp) hb1 hHeld
  refine hK.out _ _ hHeld (fun hHeld=>?_)
  clear hK K
  refine rgT 8 ?_
  refine rgT 9 ?_
  refine rgT 10 ?_
  refine rgT 11 ?_
  refine rgT 12 ?_
  refine rgT 13 ?_
  refine rgT 14 ?_
  refine rgT 15 ?_
  refine rgT 16 ?_
  refine rgT 17 ?_
  refine rgT 18 ?_
  refine rgT 19 ?_
  refine rgT 20 ?_
  refine wpAnyH_done (by kernel_rfl) ?_ _
  obtain⟨h0,h1,h2,h3,h4,h5,h6,h7,h8,h9,h10,h11⟩:=hHeld
  go_wp2_with (go_at_call 212;refine(HM.out _).mono ?_;rintro e w2 ⟨rfl,hb2⟩)
  go_wp2
  go_ret
  exact⟨rfl,hB1.trans (hb2.mono (by omega))⟩
end D2
namespace D3
open Go.RowKit A1 A18 A22 A25 A26 D1 D2
theorem Check_echo (N:Nat) (Pi Er G Fi:Int) (PA:Option Addr) (PL PC:Nat) (f:Fr) (EA:Option Addr) (EC:Nat) (w:Zw) (hs:f.slot < N) (hf:FrR N PL f) (hk:f.kind=3) (hp:valB f.pk f.pv=true) (hbad:¬ ∀ k,k < f.echo.length→okI (f.echo.getD k (0,0))) (hN:N≤12) (hP:PL≤3) (hE:Items w EA f.echo) :
 Zc Zp 198 #[.agg #[Z Y N,Z Y Pi,Z Y Er,Z Y G,Z Y Fi,.slice PA PL PC],.agg #[Z Y f.kind,Z Y f.round,Z Y f.slot,Z Y f.pk,Z Y f.pv,.slice EA f.echo.length EC]] w fun e w'=>e=.returned (Z Y 1)∧Zb w.heap.size w w':=by
 have d1:decide ((f.slot:Int) < 0)=false:=by simp
 have d2:decide ((f.slot:Int)≥(N:Int)+PL)=false:=by simp;omega
 have d3:decide ((f.round:Int) < 0)=false:=by simp
 have d4:decide ((f.round:Int) > 65535)=false:=by have:=hf.round;simp;omega
 have d5:decide ((f.kind:Int) < 1)=false:=by simp;omega
 have d6:decide ((f.kind:Int) > 3)=false:=by have:=hf.k3;simp;omega
 have HS:=O (fun w=>conf_Slots N Pi Er G Fi PA PL PC w (by omega) (by omega) hP)
 have HEc:=O (fun w=>hf.echoes hN hP Pi Er G Fi PA PC w)
 have HM:=O (fun w=>value_any f.pk f.pv w hf.pv)
 rw [hp]at HM
 have hle:f.echo.length≤100:=by rw [hf.len];split <;> omega
 have HIt:=O (fun w' (h:Items w' EA f.echo)=>containsFunc_bad EA f.echo EC w' h hle (fun k hk=>(hf.each k hk).2) hbad)
 have HE:=O hE
 have kp:∀ W W':Zw,w.heap.size+1 < W.heap.size→Zb W.heap.size W W'→(W.cell? ⟨w.heap.size,0,none⟩=some (Z Y N)∧W.cell? ⟨w.heap.size,1,none⟩=some (Z Y Pi)∧W.cell? ⟨w.heap.size,2,none⟩=some (Z Y Er)∧W.cell? ⟨w.heap.size,3,none⟩=some (Z Y G)∧W.cell? ⟨w.heap.size,4,none⟩=some (Z Y Fi)∧W.cell? ⟨w.heap.size,5,none⟩=some (.slice PA PL PC)∧W.cell? ⟨w.heap.size+1,0,none⟩=some (Z Y f.kind)∧W.cell? ⟨w.heap.size+1,1,none⟩=some (Z Y f.round)∧W.cell? ⟨w.heap.size+1,2,none⟩=some (Z Y f.slot)∧W.cell? ⟨w.heap.size+1,3,none⟩=some (Z Y f.pk)∧W.cell? ⟨w.heap.size+1,4,none⟩=some (Z Y f.pv)∧W.cell? ⟨w.heap.size+1,5,none⟩=some (.slice EA f.echo.length EC))→(W'.cell? ⟨w.heap.size,0,none⟩=some (Z Y N)∧W'.cell? ⟨w.heap.size,1,none⟩=some (Z Y Pi)∧W'.cell? ⟨w.heap.size,2,none⟩=some (Z Y Er)∧W'.cell? ⟨w.heap.size,3,none⟩=some (Z Y G)∧W'.cell? ⟨w.heap.size,4,none⟩=some (Z Y Fi)∧W'.cell? ⟨w.heap.size,5,none⟩=some (.slice PA PL PC)∧W'.cell? ⟨w.heap.size+1,0,none⟩=some (Z Y f.kind)∧W'.cell? ⟨w.heap.size+1,1,none⟩=some (Z Y f.round)∧W'.cell? ⟨w.heap.size+1,2,none⟩=some (Z Y f.slot)∧W'.cell? ⟨w.heap.size+1,3,none⟩=some (Z Y f.pk)∧W'.cell? ⟨w.heap.size+1,4,none⟩=some (Z Y f.pv)∧W'.cell? ⟨w.heap.size+1,5,none⟩=some (.slice EA f.echo.length EC)):=fun W W' h hb hs=>by
  obtain⟨h0,h1,h2,h3,h4,h5,h6,h7,h8,h9,h10,h11⟩:=hs
  exact⟨keep_of h0 (by omega) hb,keep_of h1 (by omega) hb,keep_of h2 (by omega) hb,keep_of h3 (by omega) hb,keep_of h4 (by omega) hb,keep_of h5 (by omega) hb,keep_of h6 h hb,keep_of h7 h hb,keep_of h8 h hb,keep_of h9 h hb,keep_of h10 h hb,keep_of h11 h hb⟩
 have KP:=O kp
 have s0:∀ W0:Zw,W0=(w.alloc (.cells #[Z Y N,Z Y Pi,Z Y Er,Z Y G,Z Y Fi,.slice PA PL PC] 24)).alloc (.cells #[Z Y f.kind,Z Y f.round,Z Y f.slot,Z Y f.pk,Z Y f.pv,.slice EA f.echo.length EC] 118)→(W0.cell? ⟨w.heap.size,0,none⟩=some (Z Y N)∧W0.cell? ⟨w.heap.size,1,none⟩=some (Z Y Pi)∧W0.cell? ⟨w.heap.size,2,none⟩=some (Z Y Er)∧W0.cell? ⟨w.heap.size,3,none⟩=some (Z Y G)∧W0.cell? ⟨w.heap.size,4,none⟩=some (Z Y Fi)∧W0.cell? ⟨w.heap.size,5,none⟩=some (.slice PA PL PC)∧W0.cell? ⟨w.heap.size+1,0,none⟩=some (Z Y f.kind)∧W0.cell? ⟨w.heap.size+1,1,none⟩=some (Z Y f.round)∧W0.cell? ⟨w.heap.size+1,2,none⟩=some (Z Y f.slot)∧W0.cell? ⟨w.heap.size+1,3,none⟩=some (Z Y f.pk)∧W0.cell? ⟨w.heap.size+1,4,none⟩=some (Z Y f.pv)∧W0.cell? ⟨w.heap.size+1,5,none⟩=some (.slice EA f.echo.length EC)):=by rintro _ rfl;go_simp
 have S0:=O s0
 clear kp s0 hf hE hbad
 have b1:((f.kind:Int) == 3)=true:=by simp;omega
 have b2:((f.kind:Int) != 3)=false:=by simp;omega
 have b3:decide ((f.slot:Int)≥N)=false:=by simp;omega
 have b4:decide (N≤f.slot)=false:=by simp;omega
 have b5:decide (f.slot≥N)=false:=by simp;omega
 clear hk hp
 go_enter Tryz.func198,Tryz.ntmps198
 go_upto_region 4 with fail
 refine wp_region_held_drew (S:=fun w'=>(w'.cell? ⟨w.heap.size,0,none⟩=some (Z Y N)∧w'.cell? ⟨w.heap.size,1,none⟩=some (Z Y Pi)∧w'.cell? ⟨w.heap.size,2,none⟩=some (Z Y Er)∧w'.cell? ⟨w.heap.size,3,none⟩=some (Z Y G)∧w'.cell? ⟨w.heap.size,4,none⟩=some (Z Y Fi)∧w'.cell? ⟨w.heap.size,5,none⟩=some (.slice PA PL PC)∧w'.cell? ⟨w.heap.size+1,0,none⟩=some (Z Y f.kind)∧w'.cell? ⟨w.heap.size+1,1,none⟩=some (Z Y f.round)∧w'.cell? ⟨w.heap.size+1,2,none⟩=some (Z Y f.slot)∧w'.cell? ⟨w.heap.size+1,3,none⟩=some (Z Y f.pk)∧w'.cell? ⟨w.heap.size+1,4,none⟩=some (Z Y f.pv)∧w'.cell? ⟨w.heap.size+1,5,none⟩=some (.slice EA f.echo.length EC))) (by kernel_rfl) (by have:=S0.out _ rfl;exact this) (fun hHeld=>?_)
 refine rgT 0 ?_
 refine rgT 1 ?_
 refine rgT 2 ?_
 refine rgT 3 ?_
 refine rgT 4 ?_
 refine rgT 5 ?_
 refine rgT 6 ?_
 refine rgR 7 fun K hK=>?_
 go_simp
 refine(HS.out _).mono ?_
 rintro e w1 ⟨rfl,hb1⟩
 go_simp
 have hz1:w.heap.size+1 < w1.heap.size:=by have:=hb1.size;simp at this;omega
 have hB1:Zb w.heap.size w w1:=Below.trans (show Zb w.heap.size w _ from bB) (hb1.mono (by simp;omega))
 replace hHeld:=KP.out _ _ (by simp) hb1 hHeld
 refine hK.out _ _ hHeld (fun hHeld=>?_)
 clear hK K
 refine rgT 8 ?_
 refine rgT 9 ?_
 refine rgT 10 ?_
 refine rgT 11 ?_
 refine rgT 12 ?_
 refine rgT 13 ?_
 refine rgT 14 ?_
 refine rgT 15 ?_
 refine rgT 16 ?_
 refine rgT 17 ?_
 refine rgT 18 ?_
 refine rgT 19 ?_
 refine rgT 20 ?_
 refine wpAnyH_done (by kernel_rfl) ?_ _
 obtain⟨h0,h1,h2,h3,h4,h5,h6,h7,h8,h9,h10,h11⟩:=hHeld
 have HH:Hid ((w1.cell? ⟨w.heap.size,0,none⟩=some (Z Y N)∧w1.cell? ⟨w.heap.size,1,none⟩=some (Z Y Pi)∧w1.cell? ⟨w.heap.size,2,none⟩=some (Z Y Er)∧w1.cell? ⟨w.heap.size,3,none⟩=some (Z Y G)∧w1.cell? ⟨w.heap.size,4,none⟩=some (Z Y Fi)∧w1.cell? ⟨w.heap.size,5,none⟩=some (.slice PA PL PC)∧w1.cell? ⟨w.heap.size+1,0,none⟩=some (Z Y f.kind)∧w1.cell? ⟨w.heap.size+1,1,none⟩=some (Z Y f.round)∧w1.cell? ⟨w.heap.size+1,2,none⟩=some (Z Y f.slot)∧w1.cell? ⟨w.heap.size+1,3,none⟩=some (Z Y f.pk)∧w1.cell? ⟨w.heap.size+1,4,none⟩=some (Z Y f.pv)∧w1.cell? ⟨w.heap.size+1,5,none⟩=some (.slice EA f.echo.length EC))):=⟨h0,h1,h2,h3,h4,h5,h6,h7,h8,h9,h10,h11⟩
 go_wp2_with (first | (go_at_call 213;refine(HM.out _).mono ?_;rintro e w2 ⟨rfl,hb2⟩) | (go_at_call 212;refine(HM.out _).mono ?_;rintro e w2 ⟨rfl,hb2⟩))
 have hz2:w.heap.size+1 < w2.heap.size:=by have:=hb2.size;omega
 have hB2:Zb w.heap.size w w2:=hB1.trans (hb2.mono (by omega))
 have HH2:=O (KP.out _ _ hz1 hb2 HH.out)
 clear h0 h1 h2 h3 h4 h5 h6 h7 h8 h9 h10 h11 HH hb1 hb2 hB1
 refine wp_region_held_drew (S:=fun w'=>(w'.cell? ⟨w.heap.size,0,none⟩=some (Z Y N)∧w'.cell? ⟨w.heap.size,1,none⟩=some (Z Y Pi)∧w'.cell? ⟨w.heap.size,2,none⟩=some (Z Y Er)∧w'.cell? ⟨w.heap.size,3,none⟩=some (Z Y G)∧w'.cell? ⟨w.heap.size,4,none⟩=some (Z Y Fi)∧w'.cell? ⟨w.heap.size,5,none⟩=some (.slice PA PL PC)∧w'.cell? ⟨w.heap.size+1,0,none⟩=some (Z Y f.kind)∧w'.cell? ⟨w.heap.size+1,1,none⟩=some (Z Y f.round)∧w'.cell? ⟨w.heap.size+1,2,none⟩=some (Z Y f.slot)∧w'.cell? ⟨w.heap.size+1,3,none⟩=some (Z Y f.pk)∧w'.cell? ⟨w.heap.size+1,4,none⟩=some (Z Y f.pv)∧w'.cell? ⟨w.heap.size+1,5,none⟩=some (.slice EA f.echo.length EC))) (by kernel_rfl) (by have:=HH2.out;exact this) (fun hHeld=>?_)
 refine rgT 0 ?_
 refine rgT 1 ?_
 refine rgT 2 ?_
 refine rgT 3 ?_
 refine rgT 4 ?_
 refine rgT 5 ?_
 refine rgT 6 ?_
 refine rgT 7 ?_
 refine rgR 8 fun K hK=>?_
 go_simp
 refine(HEc.out _).mono ?_
 rintro e w3 ⟨rfl,hb3⟩
 go_simp
 have hz3:w.heap.size+1 < w3.heap.size:=by have:=hb3.size;simp at this;omega
 have hB3:Zb w.heap.size w w3:=hB2.trans (Below.mono (show Zb w2.heap.size w2 w3 from⟨hb3.os,hb3.tape,hb3.output,hb3.size,hb3.block⟩) (by omega))
 replace hHeld:=KP.out _ _ (by first | exact hz2 | (simp;omega)) hb3 hHeld
 refine hK.out _ _ hHeld (fun hHeld=>?_)
 clear hK K
 refine rgT 9 ?_
 refine rgT 10 ?_
 refine wpAnyH_done (by kernel_rfl) ?_ _
 have h11:=hHeld.2.2.2.2.2.2.2.2.2.2.2
 clear hHeld HH2 hb3 hB2
 go_wp2_with fail
 refine(HIt.out _ (HE.out.below (Below.mono (show Zb w.heap.size w w3 from hB3) (Zr _)))).mono ?_
 rintro e w4 ⟨rfl,hb4⟩
 go_wp2
 go_ret
 exact⟨rfl,hB3.trans (hb4.mono (by omega))⟩
theorem Check_any (N:Nat) (PL:Nat) (f:Fr) (hf:FrR N PL f) (hN:N≤12) (hP:PL≤3):∃ k:Nat,(k=0↔FrOk N PL f)∧∀(Pi Er G Fi:Int) (PA:Option Addr) (PC:Nat) (EA:Option Addr) (EC:Nat) (w:Zw),Items w EA f.echo →
 Zc Zp 198 #[.agg #[Z Y N,Z Y Pi,Z Y Er,Z Y G,Z Y Fi,.slice PA PL PC],.agg #[Z Y f.kind,Z Y f.round,Z Y f.slot,Z Y f.pk,Z Y f.pv,.slice EA f.echo.length EC]] w fun e w'=>e=.returned (Z Y k)∧Zb w.heap.size w w':=by
 by_cases h1:N+PL≤f.slot
 ·exact⟨1,⟨fun e=>by omega,fun e=>by have:=e.slot;omega⟩,fun Pi Er G Fi PA PC EA EC w hE=>Check_slot N Pi Er G Fi PA PL PC f EA EC w hN hP h1⟩
 by_cases h2:f.kind=0∨N≤f.slot∧f.kind≠3
 ·exact⟨6,⟨fun e=>by omega,fun e=>by have:=e.k1;have:=e.own;omega⟩,fun Pi Er G Fi PA PC EA EC w hE=>Check_kind N Pi Er G Fi PA PL PC f EA EC w hN hP (by omega) hf.round hf.k3 h2⟩
 by_cases h3:(f.kind=3∧valB f.pk f.pv=false)∨(f.kind≠3∧¬(f.pk=0∧f.pv=0))
 ·refine⟨1,⟨fun e=>by omega,fun e=>?_⟩,fun Pi Er G Fi PA PC EA EC w hE=>Check_pay N Pi Er G Fi PA PL PC f EA EC w hN hP (by omega) hf.round hf.k3 (by omega) (by omega) hf.pv (fun e=>by rcases h3 with h | h;exact h.2;exact absurd e h.1) (fun e=>by rcases h3 with h | h;exact absurd h.1 e;exact h.2)⟩
  exfalso
  have hp:=(okI_is hf.pv).mp e.pay
  rcases h3 with⟨h,h'⟩ | ⟨h,h'⟩
  ·have:=e.payd h
   rw [h']at hp
   simp at hp
   omega
  ·have:=e.payn h
   rcases hp with hp | hp
   ·exact h' hp
   ·simp [valB]at hp
    omega
 have h4:okI (f.pk,f.pv):=by
  rw [okI_is hf.pv]
  by_cases hk:f.kind=3
  ·right
   cases hv:valB f.pk f.pv
   ·exact absurd (.inl ⟨hk,hv⟩) h3
   ·rfl
  ·left
   exact Classical.byContradiction fun e=>h3 (.inr ⟨hk,e⟩)
 by_cases h5:∀ k,k < f.echo.length→okI (f.echo.getD k (0,0))
 ·have h:FrOk N PL f:=⟨by omega,hf.k3,hf.round,by omega,by omega,h4,fun hk e=>?_,fun hk=>Classical.byContradiction fun e=>h3 (.inr ⟨hk,fun e'=>e e'.1⟩),hf.len,h5⟩
  ·exact⟨0,⟨fun _=>h,fun _=>rfl⟩,fun Pi Er G Fi PA PC EA EC w hE=>frame_Check N Pi Er G Fi PA PL PC f EA EC w h hN hP hE⟩
  ·refine h3 (.inl ⟨hk,?_⟩)
   simp [valB]
   omega
 ·have hl:=hf.len
  have hk:f.kind=3∧f.slot < N:=Classical.byContradiction fun e=>by
   rw [if_neg e]at hl
   exact h5 (fun k hk=>by omega)
  refine⟨1,⟨fun e=>by omega,fun e=>absurd e.each h5⟩,fun Pi Er G Fi PA PC EA EC w hE=>Check_echo N Pi Er G Fi PA PL PC f EA EC w hk.2 hf hk.1 ?_ h5 hN hP hE⟩
  cases hv:valB f.pk f.pv
  ·exact absurd (.inl ⟨hk.1,hv⟩) h3
  ·rfl
end D3
namespace D4
open Go.RowKit A9 A11 A14 A20 A21 A22 A23 A24 A27 A28 A29 D2
theorem Read_raw (N:Nat) (Pi Er G Fi:Int) (PA:Option Addr) (PL PC:Nat) (f:Fr) (w:Zw) (hf:FrR N PL f) (chk:Nat) (hck:∀(EA:Option Addr) (EC:Nat) (w:Zw),Items w EA f.echo →
 Zc Zp 198 #[.agg #[Z Y N,Z Y Pi,Z Y Er,Z Y G,Z Y Fi,.slice PA PL PC],.agg #[Z Y f.kind,Z Y f.round,Z Y f.slot,Z Y f.pk,Z Y f.pv,.slice EA f.echo.length EC]] w fun e w'=>e=.returned (Z Y chk)∧Zb w.heap.size w w') (hN:N≤12) (hP:PL≤3) :
 Zc Zp 179 #[.agg #[Z Y N,Z Y Pi,Z Y Er,Z Y G,Z Y Fi,.slice PA PL PC],.string (textB f)] w (fun e w'=>(chk=0∧RetFr f w e w')∨(chk≠0∧e=.returned (.tuple #[.agg #[Z Y 0,Z Y 0,Z Y 0,Z Y 0,Z Y 0,.slice none 0 0],Z Y chk])∧Zb w.heap.size w w')):=by
 have HCK:=O hck
 clear hck
 have hle:f.echo.length≤100:=by rw [hf.len];split <;> omega
 have hel:=echoL_length f.echo
 have HO:=O (fun w=>crc_Open (bodyL f) w (body_all f) (by unfold bodyL;rw [List.length_append,headL_length];omega))
 have HBody:Hid (bodyL f=bitsL f.kind 2 ++ (bitsL f.round 16 ++ (bitsL f.slot 6 ++ (itemL (f.pk,f.pv) ++ echoL f.echo)))):=by
  show bodyL f=_
  simp [bodyL,headL,List.append_assoc]
 have HEc:=O (fun w=>hf.echoes hN hP Pi Er G Fi PA PC w)
 have hk4:f.kind < 4:=by have:=hf.k3;omega
 have hr4:f.round < 65536:=by have:=hf.round;omega
 have hs4:f.slot < 64:=by have:=hf.slot;omega
 have hp:f.pk < 4∧f.pv < 256:=⟨by have:=hf.pk;omega,by have:=hf.pv;omega⟩
 have HF:=O hf
 have hbl:(bodyL f).length=34+10*f.echo.length:=by unfold bodyL;rw [List.length_append,headL_length,hel]
 have d1:decide (((bodyL f).length:Int) < 34)=false:=by simp;omega
 have d2:decide ((bodyL f).length < 34)=false:=by simp;omega
 have hl4:(bodyL f).length≤1100:=by omega
 have HEL:=O hel
 have HBL:=O hbl
 have hT:textB f=⟨(wrapL (bodyL f)).toArray⟩:=rfl
 rw [hT]
 generalize bodyL f=L at *
 clear hf hel hbl hT
 go_enter Tryz.func179,Tryz.ntmps179
 go_wp2_with fail
 refine(HO.out _).mono ?_
 rintro e w1 ⟨rfl,hb1⟩
 have bc:w1.heap[w.heap.size]?=some (.cells #[Z Y N,Z Y Pi,Z Y Er,Z Y G,Z Y Fi,.slice PA PL PC] 24 (0,0)):=(hb1.block _ (by simp;omega)).trans ((Below.heap_alloc _ _ _ (by simp)).trans (Zh w _))
 have bx:w1.heap[w.heap.size+1]?=some (.cells #[Z Y 0,Z Y 0,Z Y 0,Z Y 0,Z Y 0,.slice none 0 0] 118 (0,0)):=(hb1.block _ (by simp)).trans (by
  have:=Zh (w.alloc (.cells #[Z Y N,Z Y Pi,Z Y Er,Z Y G,Z Y Fi,.slice PA PL PC] 24)) (.cells #[Z Y 0,Z Y 0,Z Y 0,Z Y 0,Z Y 0,.slice none 0 0] 118)
  simpa using this)
 have hB1:Zb w.heap.size w w1:=Below.trans (show Zb w.heap.size w _ from bB) (hb1.mono (by simp;omega))
 have hz1:w.heap.size+1 < w1.heap.size:=by have:=hb1.size;simp at this;omega
 have HC1:=O bc
 have HX1:=O bx
 have HB1:=O hB1
 clear bc bx hB1 hb1 HO
 have hlen1:(bitsL f.round 16 ++ (bitsL f.slot 6 ++ (itemL (f.pk,f.pv) ++ echoL f.echo))).length≤3984:=by simp only [List.length_append,bitsL_length,itemL_length,HEL.out];omega
 have hlen2:(bitsL f.slot 6 ++ (itemL (f.pk,f.pv) ++ echoL f.echo)).length≤3984:=by simp only [List.length_append,bitsL_length,itemL_length,HEL.out];omega
 have hlen3:(itemL (f.pk,f.pv) ++ echoL f.echo).length≤3984:=by simp only [List.length_append,bitsL_length,itemL_length,HEL.out];omega
 have hlen4:(echoL f.echo).length≤3976:=by rw [HEL.out];omega
 have hR0:RdAt (w1.alloc (.cells #[.string ⟨L.toArray⟩] 297)) w1.heap.size (bitsL f.kind 2 ++ (bitsL f.round 16 ++ (bitsL f.slot 6 ++ (itemL (f.pk,f.pv) ++ echoL f.echo)))):=by
  rw [← HBody.out]
  exact⟨Lib.cell_of_heap (Zh w1 _) 0,Lib.frozen_of_heap (Zh w1 _) 0⟩
 have HR0:=O hR0
 clear hR0
 go_wp2_with fail
 refine(next2 w1.heap.size f.kind _ _ HR0.out hk4 hlen1).mono ?_
 rintro e w2 ⟨rfl,hr2,hb2⟩
 have HR2:=O hr2
 clear hr2
 go_wp2_with fail
 refine(next16 w1.heap.size f.round _ _ HR2.out hr4 hlen2).mono ?_
 rintro e w3 ⟨rfl,hr3,hb3⟩
 have HR3:=O hr3
 clear hr3
 go_wp2_with fail
 refine(next6 w1.heap.size f.slot _ _ HR3.out hs4 hlen3).mono ?_
 rintro e w4 ⟨rfl,hr4',hb4⟩
 have HR4:=O hr4'
 clear hr4'
 go_wp2_with fail
 refine(reader_item w1.heap.size f.pk f.pv _ _ HR4.out hp.1 hp.2 hlen4).mono ?_
 rintro e w5 ⟨rfl,hr5,hb5⟩
 have hb15:But (fun q=>q=w1.heap.size) w1 w5:=(But.of_below (show Zb w1.heap.size w1 _ from bB) (Zr _)).trans (((hb2.trans hb3).trans hb4).trans hb5)
 have hB5:Zb w.heap.size w w5:=HB1.out.trans (hb15.to_below (by omega) (by rintro q rfl;omega))
 have hz5:w1.heap.size < w5.heap.size:=hr5.lt
 have HC5:=O ((hb15.block _ (by omega) (by omega)).trans HC1.out)
 have HX5:=O ((hb15.block _ hz1 (by omega)).trans HX1.out)
 have HR5:=O hr5
 have HB5:=O hB5
 have c0:w5.cell? ⟨w.heap.size,0,none⟩=some (Z Y N):=by simp [World.cell?,HC5.out]
 have c1:w5.cell? ⟨w.heap.size,1,none⟩=some (Z Y Pi):=by simp [World.cell?,HC5.out]
 have c2:w5.cell? ⟨w.heap.size,2,none⟩=some (Z Y Er):=by simp [World.cell?,HC5.out]
 have c3:w5.cell? ⟨w.heap.size,3,none⟩=some (Z Y G):=by simp [World.cell?,HC5.out]
 have c4:w5.cell? ⟨w.heap.size,4,none⟩=some (Z Y Fi):=by simp [World.cell?,HC5.out]
 have c5:w5.cell? ⟨w.heap.size,5,none⟩=some (.slice PA PL PC):=by simp [World.cell?,HC5.out]
 have r0:w5.cell? ⟨w1.heap.size,0,none⟩=some (.string ⟨(echoL f.echo).toArray⟩):=hr5.cell
 have n0:=World.new_ne w5 _ c0
 have n1:=World.new_ne w5 _ r0
 have ew:IntKind.i64.wrap (10*(f.echo.length:Int))=10*(f.echo.length:Int):=by rw [IntKind.wrap_i64];omega
 have e1:((echoL f.echo).length != 10*f.echo.length)=false:=by simp [HEL.out]
 have e2:(((echoL f.echo).length:Int) != 10*(f.echo.length:Int))=false:=by simp;rw [HEL.out];omega
 have lW5:w.heap.size < w5.heap.size:=by omega
 generalize hEL:echoL f.echo=EL at *
 have HELe:=O hEL
 generalize hR:w1.heap.size=R at *
 have hRz:w.heap.size+1 < R:=hz1
 clear hb2 hb3 hb4 hb5 hb15 hr5 hB5 HR0 HR2 HR3 HR4 HX1 HC1 HB1 d1 d2 hlen1 hlen2 hlen3 hEL hR hz1
 go_wp2_with fail
 refine wp_region_held_drew (S:=fun w'=>w'.cell? ⟨w.heap.size,0,none⟩=some (Z Y N)∧w'.cell? ⟨w.heap.size,1,none⟩=some (Z Y Pi)∧w'.cell? ⟨w.heap.size,2,none⟩=some (Z Y Er)∧w'.cell? ⟨w.heap.size,3,none⟩=some (Z Y G)∧w'.cell? ⟨w.heap.size,4,none⟩=some (Z Y Fi)∧w'.cell? ⟨w.heap.size,5,none⟩=some (.slice PA PL PC)∧w'.cell? ⟨R,0,none⟩=some (.string ⟨EL.toArray⟩)∧w'.cell? ⟨w5.heap.size,0,none⟩=some (Z Y f.kind)∧w'.cell? ⟨w5.heap.size,2,none⟩=some (Z Y f.slot)) (by kernel_rfl) (by go_keep) (fun hHeld=>?_)
 refine rgT 0 ?_
 refine rgT 1 ?_
 refine rgT 2 ?_
 refine rgT 3 ?_
 refine rgT 4 ?_
 refine rgT 5 ?_
 refine rgT 6 ?_
 refine rgT 7 ?_
 refine rgT 8 ?_
 refine rgT 9 ?_
 refine rgR 10 fun K hK=>?_
 go_simp
 refine(HEc.out _).mono ?_
 rintro e w6 ⟨rfl,hb6⟩
 have hq:Zb w5.heap.size w5 w6:=Below.trans (show Zb w5.heap.size w5 _ from bB) ⟨hb6.os,hb6.tape,hb6.output,hb6.size,fun q hq=>hb6.block q (by simp;omega)⟩
 have hF6:w6.heap[w5.heap.size]?=some (.cells #[Z Y f.kind,Z Y f.round,Z Y f.slot,Z Y f.pk,Z Y f.pv,.slice none 0 0] 118 (0,0)):=(hb6.block _ (by simp)).trans (Zh w5 _)
 have hC6:=(hq.block _ lW5).trans HC5.out
 have hX6:=(hq.block _ (by omega)).trans HX5.out
 have hR6:RdAt w6 R EL:=HR5.out.below hq
 have hB6:=HB5.out.trans (hq.mono (by omega))
 have hz6:=heap_lt hF6
 go_simp
 refine hK.out _ _ ⟨by simp [World.cell?,hC6],by simp [World.cell?,hC6],by simp [World.cell?,hC6],by simp [World.cell?,hC6],by simp [World.cell?,hC6],by simp [World.cell?,hC6],hR6.cell,by simp [World.cell?,hF6],by simp [World.cell?,hF6]⟩ (fun hHeld=>?_)
 clear hK K
 refine rgT 11 ?_
 refine rgT 12 ?_
 refine wpAnyH_done (by kernel_rfl) ?_ _
 have HC6:=O hC6
 have HX6:=O hX6
 have HR6:=O hR6
 have HF6:=O hF6
 have HB6:=O hB6
 clear hHeld hC6 hX6 hR6 hF6 hB6 hb6 hq c0 c1 c2 c3 c4 c5 r0 n0 n1 e1 e2 ew HC5 HX5 HR5 HB5 HEc
 generalize hFb:w5.heap.size=F at *
 have hRF:R < F:=by omega
 clear hFb hz5
 go_wp2
 go_loopw [] (fun wr=>∃(k:Nat) (v:Value),k≤f.echo.length∧Hid (RdAt wr R (echoL (f.echo.drop k)))∧Hid (wr.heap[F]?=some (.cells #[Z Y f.kind,Z Y f.round,Z Y f.slot,Z Y f.pk,Z Y f.pv,v] 118 (0,0)))∧Hid (wr.heap[w.heap.size]?=some (.cells #[Z Y N,Z Y Pi,Z Y Er,Z Y G,Z Y Fi,.slice PA PL PC] 24 (0,0)))∧Hid (wr.heap[w.heap.size+1]?=some (.cells #[Z Y 0,Z Y 0,Z Y 0,Z Y 0,Z Y 0,.slice none 0 0] 118 (0,0)))∧Hid (wr.ownsRow (F+1) 44 2 v k (itemCells (f.echo.take k)))∧F < wr.heap.size∧Hid (Zb w.heap.size w wr)) (fun wr=>strLen wr R)
 case atStart=>exact⟨0,_,by omega,by rw [List.drop_zero,HELe.out];exact HR6.out,HF6.out,HC6.out,HX6.out,World.ownsRow_nil _ _ _ _,hz6,HB6.out⟩
 case round =>
  obtain⟨k,v,hk,hrd,hfb,hcb,hxb,hown,hzr,hbr⟩:=hrel
  have hm:=A27.RdAt.len hrd.out
  clear HR6 HF6 HC6 HX6 HB6
  by_cases hlt:k < f.echo.length
  ·have hdr:=echo_drop hlt
   have HSN:=O (cells_snoc hlt)
   have hit:=HF.out.each k hlt
   have hrd':Hid (RdAt wr R (itemL (f.echo.getD k (0,0)) ++ echoL (f.echo.drop (k+1)))):=by rw [← hdr];exact hrd.out
   have hm':strLen wr R=10+(echoL (f.echo.drop (k+1))).length:=by rw [hm,hdr,List.length_append,itemL_length]
   have hl4':(echoL (f.echo.drop (k+1))).length≤3976:=by rw [echoL_length,List.length_drop];omega
   have rc:wr.cell? ⟨R,0,none⟩=some (.string ⟨(itemL (f.echo.getD k (0,0)) ++ echoL (f.echo.drop (k+1))).toArray⟩):=hrd'.out.cell
   have q1:(itemL (f.echo.getD k (0,0)) ++ echoL (f.echo.drop (k+1))).isEmpty=false:=by
    have:=itemL_length (f.echo.getD k (0,0))
    cases hh:itemL (f.echo.getD k (0,0))with
    | nil=>rw [hh]at this;simp at this
    | cons a r=>rfl
   have HM:=O hm'
   generalize hgl:echoL (f.echo.drop (k+1))=LR at *
   have HGL:=O hgl
   generalize f.echo.getD k (0,0)=it at *
   obtain⟨i1,i2⟩:=it
   have hok:i1 < 4∧i2 < 256:=by have h1:=hit.1;have h2:=hit.2;simp only []at h1 h2;omega
   have HIt:=O (fun w' h=>reader_item R i1 i2 LR w' h hok.1 hok.2 hl4')
   generalize itemL (i1,i2) ++ LR=LL at *
   have q2:(LL == [])=false:=by cases LL;simp at q1;rfl
   have q3:¬ LL=[]:=by cases LL;simp at q1;simp
   clear hdr hm hm' hrd hgl hit
   obtain⟨i0,hi0,hz0,hz1',hz2'⟩:=info_parts CL.info44
   have HI:=O hi0
   have HZ:=O (And.intro hz0 (And.intro hz1' hz2'))
   have x5r:wr.cell? ⟨F,5,none⟩=some v:=by simp [World.cell?,hfb.out]
   clear hi0 hz0 hz1' hz2'
   go_wp2_with fail
   refine wp_region_held_drew (S:=fun w'=>True) (by kernel_rfl) trivial (fun hHeld=>?_)
   refine rgT 0 ?_
   refine rgT 2 ?_
   refine wpAnyH_ready (rs:=[1,3]) (by kernel_rfl) (by simp) (AllReadyH.cons rfl (fun K hK=>?_) (AllReadyH.cons rfl (fun K hK=>?_) AllReadyH.nil))
   ·go_simp
    refine hK.out _ _ trivial (fun hHeld=>?_)
    clear hK K
    refine rgR 3 fun K hK=>?_
    go_simp
    refine(HIt.out _ (by exact⟨hrd'.out.cell,hrd'.out.free⟩)).mono ?_
    rintro e w2 ⟨rfl,hr2,hb2'⟩
    have hb2:But (fun q=>q=R) wr w2:=⟨hb2'.os,hb2'.tape,hb2'.output,hb2'.size,hb2'.block⟩
    have hf2:=(hb2.block F hzr (by omega)).trans hfb.out
    have hc2:=(hb2.block w.heap.size (by omega) (by omega)).trans hcb.out
    have hx2:=(hb2.block (w.heap.size+1) (by omega) (by omega)).trans hxb.out
    have ho2:w2.ownsRow (F+1) 44 2 v k (itemCells (f.echo.take k)):=hown.out.kept (row:=some R) ⟨hb2.os,hb2.tape,hb2.output,hb2.size,fun q hq hn=>hb2.block q hq (fun e=>hn (by rw [e]))⟩ (by
     rcases hv:v.ownBlock with _ | q
     ·exact .inl rfl
     ·refine .inr (fun e=>?_)
      have:=ownsRow_block hown.out hv
      injection e with e
      omega)
    have x5:w2.cell? ⟨F,5,none⟩=some v:=by simp [World.cell?,hf2]
    have hz2:F < w2.heap.size:=heap_lt hf2
    have hbr2:=hbr.out.trans (hb2.to_below (by omega) (by rintro q rfl;omega))
    have HF2:=O hf2
    have HC2:=O hc2
    have HX2:=O hx2
    have HO2:=O ho2
    have HR2:=O hr2
    have HBR2:=O hbr2
    clear hf2 hc2 hx2 ho2 hr2 hbr2 hb2 hb2'
    go_simp
    refine hK.out _ _ trivial (fun hHeld=>?_)
    clear hK K
    refine rgR 4 fun K hK=>?_
    go_simp
    refine hK.out _ _ trivial (fun hHeld=>?_)
    clear hK K
    refine rgR 5 fun K hK=>?_
    refine step_append_lies _ (by rfl) _ _ _ (by rfl) (F+1) 44 i0 (.agg #[Z Y 0,Z Y 0]) 2 16 Tryz.underlying59 HI.out HZ.out.1 HZ.out.2.1 HZ.out.2.2 rfl (by omega) v k (itemCells (f.echo.take k)) (by rfl) (HO2.out.alloc _) ⟨w2.heap.size,0,none⟩ 1 1 [Z Y i1,Z Y i2] (by rfl) (by rfl) (World.news_of_block (cs:=#[Z Y i1,Z Y i2]) (t:=44) (fr:=(0,0)) (Zh w2 _)) (by simp [Value.oneCell']) (by omega) (by unfold maxLen;omega) (by omega) (by simp;omega) (w2.heap.size+1) (by simp) ?_
    intro gg cap w3 hown3 hgrow hat hlt3
    have hne:some F≠v.ownBlock:=fun e=>by have:=ownsRow_block HO2.out e.symm;omega
    have hfar:∀ q o,q < w2.heap.size→q≤F→w2.heap[q]?=some o→w3.heap[q]?=some o:=fun q o hq hqF ho=>(hgrow.block q (by simp;omega) (fun e=>by have:=ownsRow_block HO2.out e.symm;omega)).trans ((Below.heap_alloc _ _ _ hq).trans ho)
    have hf3:=hfar F _ hz2 (Zr _) HF2.out
    have hc3:=hfar w.heap.size _ (by omega) (by omega) HC2.out
    have hx3:=hfar (w.heap.size+1) _ (by omega) (by omega) HX2.out
    have hr3:RdAt w3 R LR:=by
     have hq:w3.heap[R]?=w2.heap[R]?:=(hgrow.block R (by simp;omega) (fun e=>by have:=ownsRow_block HO2.out e.symm;omega)).trans (Below.heap_alloc _ _ _ (by omega))
     exact⟨(World.cell?_of_block (w:=w2) (a:=⟨R,0,none⟩) hq).trans HR2.out.cell,(World.frozen?_of_block (w:=w2) (a:=⟨R,0,none⟩) hq).trans HR2.out.free⟩
    have hbr3:Zb w.heap.size w w3:=(HBR2.out.alloc (by omega) (.cells #[Z Y i1,Z Y i2] 44)).grown hgrow (by simp;omega) (fun q hq=>by have:=ownsRow_block HO2.out hq;omega)
    have z5:w3.cell? ⟨F,5,none⟩=some v:=by simp [World.cell?,hf3]
    have y5:w3.frozen? ⟨F,5,none⟩=false:=by simp [World.frozen?,hf3]
    have hz3:F < w3.heap.size:=heap_lt hf3
    have HF3:=O hf3
    have HC3:=O hc3
    have HX3:=O hx3
    have HR3:=O hr3
    have HBR3:=O hbr3
    have HO3:=O hown3
    clear hf3 hc3 hx3 hr3 hbr3 hown3 hfar hgrow hne hat
    refine hK.out _ _ trivial (fun hHeld=>?_)
    clear hK K
    try simp only [Act.put,List.getElem_toArray,List.getElem_cons_succ,List.getElem_cons_zero,List.setIfInBounds_toArray,List.set_cons_zero,List.set_cons_succ]
    refine rgT 6 ?_
    refine rgR 7 fun K hK=>?_
    go_simp
    refine hK.out _ _ trivial (fun hHeld=>?_)
    clear hK K
    refine wpAnyH_done (by kernel_rfl) ?_ _
    have hne4:∀ q o,q≠F→(⟨F,5,none⟩:Addr)≠⟨q,o,none⟩:=fun q o h e=>by injection e with e _;exact h e.symm
    go_wp2
    go_roundw
    case rel =>
     refine⟨k+1,.slice (some ⟨gg,0,none⟩) (k+1) cap,by omega,?_,?_,?_,?_,?_,(by simp [World.setCell];exact hz3),HBR3.out.setCell (p:=⟨F,5,none⟩) (by simp;omega) _⟩
     ·rw [HGL.out]
      exact⟨(Zo _ _ _ _ (hne4 R 0 (by omega))).trans HR3.out.cell,by rw [World.frozen?_setCell];exact HR3.out.free⟩
     ·show(World.setCell _ _ _).heap[F]?=_
      simp [World.setCell,Array.getElem?_modify,HF3.out]
     ·exact(Below.heap_setCell _ _ _ _ (by simp;omega)).trans HC3.out
     ·exact(Below.heap_setCell _ _ _ _ (by simp;omega)).trans HX3.out
     ·rw [HSN.out]
      exact ownsRow_setCell_below HO3.out (by simp) _
    case measure =>
     rw [HM.out]
     have h5:strLen (w3.setCell ⟨F,5,none⟩ (.slice (some ⟨gg,0,none⟩) (k+1) cap)) R=LR.length:=A27.RdAt.len ⟨(Zo _ _ _ _ (hne4 R 0 (by omega))).trans HR3.out.cell,by rw [World.frozen?_setCell];exact HR3.out.free⟩
     rw [h5]
     omega
   ·go_simp
    refine(HIt.out _ (by exact⟨hrd'.out.cell,hrd'.out.free⟩)).mono ?_
    rintro e w2 ⟨rfl,hr2,hb2'⟩
    have hb2:But (fun q=>q=R) wr w2:=⟨hb2'.os,hb2'.tape,hb2'.output,hb2'.size,hb2'.block⟩
    have hf2:=(hb2.block F hzr (by omega)).trans hfb.out
    have hc2:=(hb2.block w.heap.size (by omega) (by omega)).trans hcb.out
    have hx2:=(hb2.block (w.heap.size+1) (by omega) (by omega)).trans hxb.out
    have ho2:w2.ownsRow (F+1) 44 2 v k (itemCells (f.echo.take k)):=hown.out.kept (row:=some R) ⟨hb2.os,hb2.tape,hb2.output,hb2.size,fun q hq hn=>hb2.block q hq (fun e=>hn (by rw [e]))⟩ (by
     rcases hv:v.ownBlock with _ | q
     ·exact .inl rfl
     ·refine .inr (fun e=>?_)
      have:=ownsRow_block hown.out hv
      injection e with e
      omega)
    have x5:w2.cell? ⟨F,5,none⟩=some v:=by simp [World.cell?,hf2]
    have hz2:F < w2.heap.size:=heap_lt hf2
    have hbr2:=hbr.out.trans (hb2.to_below (by omega) (by rintro q rfl;omega))
    have HF2:=O hf2
    have HC2:=O hc2
    have HX2:=O hx2
    have HO2:=O ho2
    have HR2:=O hr2
    have HBR2:=O hbr2
    clear hf2 hc2 hx2 ho2 hr2 hbr2 hb2 hb2'
    go_simp
    refine hK.out _ _ trivial (fun hHeld=>?_)
    clear hK K
    refine wpAnyH_ready (rs:=[1,4]) (by kernel_rfl) (by simp) (AllReadyH.cons rfl (fun K hK=>?_) (AllReadyH.cons rfl (fun K hK=>?_) AllReadyH.nil))
    ·go_simp
     refine hK.out _ _ trivial (fun hHeld=>?_)
     clear hK K
     refine rgR 4 fun K hK=>?_
     go_simp
     refine hK.out _ _ trivial (fun hHeld=>?_)
     clear hK K
     refine rgR 5 fun K hK=>?_
     refine step_append_lies _ (by rfl) _ _ _ (by rfl) (F+1) 44 i0 (.agg #[Z Y 0,Z Y 0]) 2 16 Tryz.underlying59 HI.out HZ.out.1 HZ.out.2.1 HZ.out.2.2 rfl (by omega) v k (itemCells (f.echo.take k)) (by rfl) (HO2.out.alloc _) ⟨w2.heap.size,0,none⟩ 1 1 [Z Y i1,Z Y i2] (by rfl) (by rfl) (World.news_of_block (cs:=#[Z Y i1,Z Y i2]) (t:=44) (fr:=(0,0)) (Zh w2 _)) (by simp [Value.oneCell']) (by omega) (by unfold maxLen;omega) (by omega) (by simp;omega) (w2.heap.size+1) (by simp) ?_
     intro gg cap w3 hown3 hgrow hat hlt3
     have hne:some F≠v.ownBlock:=fun e=>by have:=ownsRow_block HO2.out e.symm;omega
     have hfar:∀ q o,q < w2.heap.size→q≤F→w2.heap[q]?=some o→w3.heap[q]?=some o:=fun q o hq hqF ho=>(hgrow.block q (by simp;omega) (fun e=>by have:=ownsRow_block HO2.out e.symm;omega)).trans ((Below.heap_alloc _ _ _ hq).trans ho)
     have hf3:=hfar F _ hz2 (Zr _) HF2.out
     have hc3:=hfar w.heap.size _ (by omega) (by omega) HC2.out
     have hx3:=hfar (w.heap.size+1) _ (by omega) (by omega) HX2.out
     have hr3:RdAt w3 R LR:=by
      have hq:w3.heap[R]?=w2.heap[R]?:=(hgrow.block R (by simp;omega) (fun e=>by have:=ownsRow_block HO2.out e.symm;omega)).trans (Below.heap_alloc _ _ _ (by omega))
      exact⟨(World.cell?_of_block (w:=w2) (a:=⟨R,0,none⟩) hq).trans HR2.out.cell,(World.frozen?_of_block (w:=w2) (a:=⟨R,0,none⟩) hq).trans HR2.out.free⟩
     have hbr3:Zb w.heap.size w w3:=(HBR2.out.alloc (by omega) (.cells #[Z Y i1,Z Y i2] 44)).grown hgrow (by simp;omega) (fun q hq=>by have:=ownsRow_block HO2.out hq;omega)
     have z5:w3.cell? ⟨F,5,none⟩=some v:=by simp [World.cell?,hf3]
     have y5:w3.frozen? ⟨F,5,none⟩=false:=by simp [World.frozen?,hf3]
     have hz3:F < w3.heap.size:=heap_lt hf3
     have HF3:=O hf3
     have HC3:=O hc3
     have HX3:=O hx3
     have HR3:=O hr3
     have HBR3:=O hbr3
     have HO3:=O hown3
     clear hf3 hc3 hx3 hr3 hbr3 hown3 hfar hgrow hne hat
     refine hK.out _ _ trivial (fun hHeld=>?_)
     clear hK K
     try simp only [Act.put,List.getElem_toArray,List.getElem_cons_succ,List.getElem_cons_zero,List.setIfInBounds_toArray,List.set_cons_zero,List.set_cons_succ]
     refine rgT 6 ?_
     refine rgR 7 fun K hK=>?_
     go_simp
     refine hK.out _ _ trivial (fun hHeld=>?_)
     clear hK K
     refine wpAnyH_done (by kernel_rfl) ?_ _
     have hne4:∀ q o,q≠F→(⟨F,5,none⟩:Addr)≠⟨q,o,none⟩:=fun q o h e=>by injection e with e _;exact h e.symm
     go_wp2
     go_roundw
     case rel =>
      refine⟨k+1,.slice (some ⟨gg,0,none⟩) (k+1) cap,by omega,?_,?_,?_,?_,?_,(by simp [World.setCell];exact hz3),HBR3.out.setCell (p:=⟨F,5,none⟩) (by simp;omega) _⟩
      ·rw [HGL.out]
       exact⟨(Zo _ _ _ _ (hne4 R 0 (by omega))).trans HR3.out.cell,by rw [World.frozen?_setCell];exact HR3.out.free⟩
      ·show(World.setCell _ _ _).heap[F]?=_
       simp [World.setCell,Array.getElem?_modify,HF3.out]
      ·exact(Below.heap_setCell _ _ _ _ (by simp;omega)).trans HC3.out
      ·exact(Below.heap_setCell _ _ _ _ (by simp;omega)).trans HX3.out
      ·rw [HSN.out]
       exact ownsRow_setCell_below HO3.out (by simp) _
     case measure =>
      rw [HM.out]
      have h5:strLen (w3.setCell ⟨F,5,none⟩ (.slice (some ⟨gg,0,none⟩) (k+1) cap)) R=LR.length:=A27.RdAt.len ⟨(Zo _ _ _ _ (hne4 R 0 (by omega))).trans HR3.out.cell,by rw [World.frozen?_setCell];exact HR3.out.free⟩
      rw [h5]
      omega
    ·go_simp
     refine hK.out _ _ trivial (fun hHeld=>?_)
     clear hK K
     have x6:(w2.alloc (.cells #[Z Y i1,Z Y i2] 44)).cell? ⟨F,5,none⟩=some v:=(World.cell?_alloc_lt _ _ _ hz2).trans x5
     refine rgR 1 fun K hK=>?_
     go_simp
     refine hK.out _ _ trivial (fun hHeld=>?_)
     clear hK K
     refine rgR 5 fun K hK=>?_
     refine step_append_lies _ (by rfl) _ _ _ (by rfl) (F+1) 44 i0 (.agg #[Z Y 0,Z Y 0]) 2 16 Tryz.underlying59 HI.out HZ.out.1 HZ.out.2.1 HZ.out.2.2 rfl (by omega) v k (itemCells (f.echo.take k)) (by rfl) (HO2.out.alloc _) ⟨w2.heap.size,0,none⟩ 1 1 [Z Y i1,Z Y i2] (by rfl) (by rfl) (World.news_of_block (cs:=#[Z Y i1,Z Y i2]) (t:=44) (fr:=(0,0)) (Zh w2 _)) (by simp [Value.oneCell']) (by omega) (by unfold maxLen;omega) (by omega) (by simp;omega) (w2.heap.size+1) (by simp) ?_
     intro gg cap w3 hown3 hgrow hat hlt3
     have hne:some F≠v.ownBlock:=fun e=>by have:=ownsRow_block HO2.out e.symm;omega
     have hfar:∀ q o,q < w2.heap.size→q≤F→w2.heap[q]?=some o→w3.heap[q]?=some o:=fun q o hq hqF ho=>(hgrow.block q (by simp;omega) (fun e=>by have:=ownsRow_block HO2.out e.symm;omega)).trans ((Below.heap_alloc _ _ _ hq).trans ho)
     have hf3:=hfar F _ hz2 (Zr _) HF2.out
     have hc3:=hfar w.heap.size _ (by omega) (by omega) HC2.out
     have hx3:=hfar (w.heap.size+1) _ (by omega) (by omega) HX2.out
     have hr3:RdAt w3 R LR:=by
      have hq:w3.heap[R]?=w2.heap[R]?:=(hgrow.block R (by simp;omega) (fun e=>by have:=ownsRow_block HO2.out e.symm;omega)).trans (Below.heap_alloc _ _ _ (by omega))
      exact⟨(World.cell?_of_block (w:=w2) (a:=⟨R,0,none⟩) hq).trans HR2.out.cell,(World.frozen?_of_block (w:=w2) (a:=⟨R,0,none⟩) hq).trans HR2.out.free⟩
     have hbr3:Zb w.heap.size w w3:=(HBR2.out.alloc (by omega) (.cells #[Z Y i1,Z Y i2] 44)).grown hgrow (by simp;omega) (fun q hq=>by have:=ownsRow_block HO2.out hq;omega)
     have z5:w3.cell? ⟨F,5,none⟩=some v:=by simp [World.cell?,hf3]
     have y5:w3.frozen? ⟨F,5,none⟩=false:=by simp [World.frozen?,hf3]
     have hz3:F < w3.heap.size:=heap_lt hf3
     have HF3:=O hf3
     have HC3:=O hc3
     have HX3:=O hx3
     have HR3:=O hr3
     have HBR3:=O hbr3
     have HO3:=O hown3
     clear hf3 hc3 hx3 hr3 hbr3 hown3 hfar hgrow hne hat
     refine hK.out _ _ trivial (fun hHeld=>?_)
     clear hK K
     try simp only [Act.put,List.getElem_toArray,List.getElem_cons_succ,List.getElem_cons_zero,List.setIfInBounds_toArray,List.set_cons_zero,List.set_cons_succ]
     refine rgT 6 ?_
     refine rgR 7 fun K hK=>?_
     go_simp
     refine hK.out _ _ trivial (fun hHeld=>?_)
     clear hK K
     refine wpAnyH_done (by kernel_rfl) ?_ _
     have hne4:∀ q o,q≠F→(⟨F,5,none⟩:Addr)≠⟨q,o,none⟩:=fun q o h e=>by injection e with e _;exact h e.symm
     go_wp2
     go_roundw
     case rel =>
      refine⟨k+1,.slice (some ⟨gg,0,none⟩) (k+1) cap,by omega,?_,?_,?_,?_,?_,(by simp [World.setCell];exact hz3),HBR3.out.setCell (p:=⟨F,5,none⟩) (by simp;omega) _⟩
      ·rw [HGL.out]
       exact⟨(Zo _ _ _ _ (hne4 R 0 (by omega))).trans HR3.out.cell,by rw [World.frozen?_setCell];exact HR3.out.free⟩
      ·show(World.setCell _ _ _).heap[F]?=_
       simp [World.setCell,Array.getElem?_modify,HF3.out]
      ·exact(Below.heap_setCell _ _ _ _ (by simp;omega)).trans HC3.out
      ·exact(Below.heap_setCell _ _ _ _ (by simp;omega)).trans HX3.out
      ·rw [HSN.out]
       exact ownsRow_setCell_below HO3.out (by simp) _
     case measure =>
      rw [HM.out]
      have h5:strLen (w3.setCell ⟨F,5,none⟩ (.slice (some ⟨gg,0,none⟩) (k+1) cap)) R=LR.length:=A27.RdAt.len ⟨(Zo _ _ _ _ (hne4 R 0 (by omega))).trans HR3.out.cell,by rw [World.frozen?_setCell];exact HR3.out.free⟩
      rw [h5]
      omega
  ·obtain rfl:k=f.echo.length:=by omega
   have hrd0:wr.cell? ⟨R,0,none⟩=some (.string ⟨#[]⟩):=by
    have:=hrd.out.cell
    rw [List.drop_length]at this
    exact this
   have hown0:wr.ownsRow (F+1) 44 2 v f.echo.length (itemCells f.echo):=by
    have:=hown.out
    rwa [List.take_length]at this
   obtain⟨A,C,rfl,hI,hle2,hnone,hbase⟩:=items_of_own hown0
   have x0:wr.cell? ⟨F,0,none⟩=some (Z Y f.kind):=by simp [World.cell?,hfb.out]
   have x1:wr.cell? ⟨F,1,none⟩=some (Z Y f.round):=by simp [World.cell?,hfb.out]
   have x2:wr.cell? ⟨F,2,none⟩=some (Z Y f.slot):=by simp [World.cell?,hfb.out]
   have x3:wr.cell? ⟨F,3,none⟩=some (Z Y f.pk):=by simp [World.cell?,hfb.out]
   have x4:wr.cell? ⟨F,4,none⟩=some (Z Y f.pv):=by simp [World.cell?,hfb.out]
   have x5:wr.cell? ⟨F,5,none⟩=some (.slice A f.echo.length C):=by simp [World.cell?,hfb.out]
   have c0:wr.cell? ⟨w.heap.size,0,none⟩=some (Z Y N):=by simp [World.cell?,hcb.out]
   have c1:wr.cell? ⟨w.heap.size,1,none⟩=some (Z Y Pi):=by simp [World.cell?,hcb.out]
   have c2:wr.cell? ⟨w.heap.size,2,none⟩=some (Z Y Er):=by simp [World.cell?,hcb.out]
   have c3:wr.cell? ⟨w.heap.size,3,none⟩=some (Z Y G):=by simp [World.cell?,hcb.out]
   have c4:wr.cell? ⟨w.heap.size,4,none⟩=some (Z Y Fi):=by simp [World.cell?,hcb.out]
   have c5:wr.cell? ⟨w.heap.size,5,none⟩=some (.slice PA PL PC):=by simp [World.cell?,hcb.out]
   have HCh:=O (HCK.out A C wr hI)
   have HI:=O hI
   have HN:=O hnone
   have HBa:=O hbase
   have HOw:=O hown0
   clear hI hnone hbase hown0 hown hrd hm hle2
   by_cases hz:chk≠0
   ·have zc:((chk:Int) != 0)=true:=by simp;omega
    go_wp2_with fail
    refine HCh.out.mono ?_
    rintro e w2 ⟨rfl,hb2⟩
    have hx2:=(hb2.block (w.heap.size+1) (by omega)).trans hxb.out
    have hbr2:=hbr.out.trans (hb2.mono (by omega))
    have u0:w2.cell? ⟨w.heap.size+1,0,none⟩=some (Z Y 0):=by simp [World.cell?,hx2]
    have u1:w2.cell? ⟨w.heap.size+1,1,none⟩=some (Z Y 0):=by simp [World.cell?,hx2]
    have u2:w2.cell? ⟨w.heap.size+1,2,none⟩=some (Z Y 0):=by simp [World.cell?,hx2]
    have u3:w2.cell? ⟨w.heap.size+1,3,none⟩=some (Z Y 0):=by simp [World.cell?,hx2]
    have u4:w2.cell? ⟨w.heap.size+1,4,none⟩=some (Z Y 0):=by simp [World.cell?,hx2]
    have u5:w2.cell? ⟨w.heap.size+1,5,none⟩=some (.slice none 0 0):=by simp [World.cell?,hx2]
    have uf:∀ o,w2.frozen? ⟨w.heap.size+1,o,none⟩=false:=fun o=>by simp [World.frozen?,hx2]
    clear hx2
    go_wp2
    refine bodyPost_ret (v :=.tuple #[.agg #[Z Y 0,Z Y 0,Z Y 0,Z Y 0,Z Y 0,.slice none 0 0],Z Y chk]) (by simp [results,Tryz.results179,go_sem,u0,u1,u2,u3,u4,u5]) rfl (.inr ⟨hz,rfl,?_⟩)
    refine Below.setCell ?_ (by first | (simp;done) | (simp;omega)) _
    refine Below.setCell ?_ (by first | (simp;done) | (simp;omega)) _
    refine Below.setCell ?_ (by first | (simp;done) | (simp;omega)) _
    refine Below.setCell ?_ (by first | (simp;done) | (simp;omega)) _
    refine Below.setCell ?_ (by first | (simp;done) | (simp;omega)) _
    refine Below.setCell ?_ (by first | (simp;done) | (simp;omega)) _
    exact hbr2
   obtain rfl:chk=0:=Classical.byContradiction hz
   go_wp2_with fail
   refine HCh.out.mono ?_
   rintro e w2 ⟨rfl,hb2⟩
   have hf2:=(hb2.block _ hzr).trans hfb.out
   have hx2:=(hb2.block (w.heap.size+1) (by omega)).trans hxb.out
   have hbr2:=hbr.out.trans (hb2.mono (by omega))
   have hI2:=HI.out.below hb2
   have hz2:=heap_lt hf2
   have x5':w2.cell? ⟨F,5,none⟩=some (.slice A f.echo.length C):=by simp [World.cell?,hf2]
   have hclone:Zc Zp 199 #[.slice A f.echo.length C] w2 fun e w'=>∃ v,e=.returned v∧w'.ownsRow w2.heap.size 44 2 v f.echo.length (itemCells f.echo)∧Zb w2.heap.size w2 w':=by
    cases A with
    | none =>
     obtain⟨hv,hl0⟩:=HN.out rfl
     refine(CL.Clone199_nil _ _ w2).mono ?_
     rintro e w' ⟨rfl,rfl⟩
     exact⟨_,rfl,by rw [hl0];exact World.ownsRow_nil _ _ _ _,Zf _ _⟩
    | some a =>
     obtain⟨b,o,sp⟩:=a
     by_cases hl0:f.echo.length=0
     ·have hnil:f.echo=[]:=List.length_eq_zero_iff.1 hl0
      rcases HOw.out.2 with⟨h1,_⟩ | ⟨g,cap,cur,h1,_⟩
      ·cases h1
      ·cases h1
       refine(CL.Clone199 b 0 f.echo.length C [] w2 (by rw [hl0];rfl) (by omega) (fun j u hj=>by cases hj) (fun u hu=>by cases hu)).mono ?_
       rintro e w' ⟨v',rfl,ho,_,hb'⟩
       exact⟨v',rfl,by rw [hnil];rw [hnil]at ho;exact ho,hb'⟩
     ·obtain⟨b',off',e',hbl,_,_⟩:=HI.out 0 (by omega)
      cases e'
      obtain⟨rfl,hb0,hb1⟩:=HBa.out b o rfl
      refine(CL.Clone199 b 0 f.echo.length C (itemCells f.echo) w2 (itemCells_length _) (by omega) (fun j u hj=>?_) (itemCells_one _)).mono ?_
      ·have:=World.ownsRow.cells HOw.out (g:=b) rfl j u hj
       rw [Nat.zero_add]
       refine(hb2.cell (p:=⟨b,j,none⟩) hb1).trans ?_
       simpa [Addr.add_lit]using this
      ·rintro e w' ⟨v',rfl,ho,_,hb'⟩
       exact⟨v',rfl,ho,hb'⟩
   have HClone:=O hclone
   have HF2:=O hf2
   have HX2:=O hx2
   have HB2:=O hbr2
   clear hclone hf2 hx2 hbr2 hI2 x0 x1 x2 x3 x4 x5 c0 c1 c2 c3 c4 c5 hrd0 hb2
   go_wp2_with fail
   refine HClone.out.mono ?_
   rintro e w3 ⟨v3,rfl,ho3,hb3⟩
   obtain⟨A3,C3,rfl,hI3,_,_,hbase3⟩:=items_of_own ho3
   have hA3:∀ b off,A3=some ⟨b,off,none⟩→w2.heap.size≤b:=fun b off e=>(hbase3 b off e).2.1
   have HA3:=O hA3
   clear hbase3 hA3
   have hf3:=(hb3.block _ hz2).trans HF2.out
   have hx3:=(hb3.block (w.heap.size+1) (by omega)).trans HX2.out
   have HB3:=O (HB2.out.trans (hb3.mono (by omega)))
   have y0:w3.cell? ⟨F,0,none⟩=some (Z Y f.kind):=by simp [World.cell?,hf3]
   have y1:w3.cell? ⟨F,1,none⟩=some (Z Y f.round):=by simp [World.cell?,hf3]
   have y2:w3.cell? ⟨F,2,none⟩=some (Z Y f.slot):=by simp [World.cell?,hf3]
   have y3:w3.cell? ⟨F,3,none⟩=some (Z Y f.pk):=by simp [World.cell?,hf3]
   have y4:w3.cell? ⟨F,4,none⟩=some (Z Y f.pv):=by simp [World.cell?,hf3]
   have y5:w3.cell? ⟨F,5,none⟩=some (.slice A f.echo.length C):=by simp [World.cell?,hf3]
   have yf:w3.frozen? ⟨F,5,none⟩=false:=by simp [World.frozen?,hf3]
   have u0:w3.cell? ⟨w.heap.size+1,0,none⟩=some (Z Y 0):=by simp [World.cell?,hx3]
   have u1:w3.cell? ⟨w.heap.size+1,1,none⟩=some (Z Y 0):=by simp [World.cell?,hx3]
   have u2:w3.cell? ⟨w.heap.size+1,2,none⟩=some (Z Y 0):=by simp [World.cell?,hx3]
   have u3:w3.cell? ⟨w.heap.size+1,3,none⟩=some (Z Y 0):=by simp [World.cell?,hx3]
   have u4:w3.cell? ⟨w.heap.size+1,4,none⟩=some (Z Y 0):=by simp [World.cell?,hx3]
   have u5:w3.cell? ⟨w.heap.size+1,5,none⟩=some (.slice none 0 0):=by simp [World.cell?,hx3]
   have uf:∀ o,w3.frozen? ⟨w.heap.size+1,o,none⟩=false:=fun o=>by simp [World.frozen?,hx3]
   have nFX:F≠w.heap.size+1:=by omega
   have nXF:w.heap.size+1≠F:=by omega
   have HI3:=O hI3
   have HO3:=O ho3
   have hz3:F < w3.heap.size:=heap_lt hf3
   have hz23:=hb3.size
   clear hI3 ho3 hf3 hx3 hb3 x5'
   go_wp2
   refine bodyPost_ret (v :=.tuple #[.agg #[Z Y f.kind,Z Y f.round,Z Y f.slot,Z Y f.pk,Z Y f.pv,.slice A3 f.echo.length C3],Z Y 0]) (by simp [results,Tryz.results179,go_sem,u0,u1,u2,u3,u4,u5,nFX,nXF]) rfl ⟨A3,C3,rfl,?_,fun b off e=>by have:=HA3.out b off e;omega,?_⟩
   ·have far:∀ {W:Zw} (p:Addr) (u:Value),p.block < w2.heap.size→Items W A3 f.echo→Items (W.setCell p u) A3 f.echo:=fun p u hp h=>items_far h (fun b off e=>by have:=HA3.out b off e;omega) u
    refine far _ _ (by first | (simp;done) | (simp;omega)) ?_
    refine far _ _ (by first | (simp;done) | (simp;omega)) ?_
    refine far _ _ (by first | (simp;done) | (simp;omega)) ?_
    refine far _ _ (by first | (simp;done) | (simp;omega)) ?_
    refine far _ _ (by first | (simp;done) | (simp;omega)) ?_
    refine far _ _ (by first | (simp;done) | (simp;omega)) ?_
    refine far _ _ (by first | (simp;done) | (simp;omega)) ?_
    exact HI3.out
   ·refine Below.setCell ?_ (by first | (simp;done) | (simp;omega)) _
    refine Below.setCell ?_ (by first | (simp;done) | (simp;omega)) _
    refine Below.setCell ?_ (by first | (simp;done) | (simp;omega)) _
    refine Below.setCell ?_ (by first | (simp;done) | (simp;omega)) _
    refine Below.setCell ?_ (by first | (simp;done) | (simp;omega)) _
    refine Below.setCell ?_ (by first | (simp;done) | (simp;omega)) _
    refine Below.setCell ?_ (by first | (simp;done) | (simp;omega)) _
    exact HB3.out
end D4
namespace D5
open Go.RowKit A6 A20 A21 A22 A24
theorem Open_cut (s:ByteArray) (w:Zw) (hs:Strm s) (ht:Lib.hasSuffix s.data.toList [35]=true) (hsz:s.size < 17) :
 Zc Zp 194 #[.string s] w fun e w'=>e=.returned (.tuple #[.string ⟨#[]⟩,Z Y 3])∧Zb w.heap.size w w':=by
 have HW:=O (fun w=>Whole_yes s w hs ht)
 have d1:decide ((s.size:Int)-1-16 < 0)=true:=by simp;omega
 have e1:IntKind.i64.wrap ((s.size:Int)-1)=(s.size:Int)-1:=by rw [IntKind.wrap_i64];omega
 have e2:IntKind.i64.wrap ((s.size:Int)-1-16)=(s.size:Int)-1-16:=by rw [IntKind.wrap_i64];omega
 clear hs ht
 go_enter Tryz.func194,Tryz.ntmps194
 go_wp2_with fail
 refine(HW.out _).mono ?_
 rintro e w1 ⟨rfl,hb1⟩
 go_wp2
 go_ret2
 exact⟨rfl,hb1⟩
theorem Open_sum (s:ByteArray) (l:List UInt8) (n:Nat) (w:Zw) (hs:Strm s) (ht:Lib.hasSuffix s.data.toList [35]=true) (hn:n=l.length) (hsz:s.size=n+17) (hb:AllBits l)
 (x1:s.extract 0 n=⟨l.toArray⟩) (x2:¬(s.extract n (n+16)).toList=bitsL (sumL l) 16) :
 Zc Zp 194 #[.string s] w fun e w'=>e=.returned (.tuple #[.string ⟨#[]⟩,Z Y 5])∧Zb w.heap.size w w':=by
 have h4:=hs.1
 have hl:l.length≤4000:=by omega
 have HW:=O (fun w=>Whole_yes s w hs ht)
 have HS:=O (fun w=>crc_Sum ⟨l.toArray⟩ w (bitsOnly_of hb (by omega)))
 have HB:=O (fun w=>Bits16 (sumL l) w (by have:=sumL_lt l;omega))
 have hn4:n≤4000:=by omega
 have e1:(s.size:Int)-1-16=n:=by omega
 have e2:(s.size:Int)-1=((n+16:Nat):Int):=by omega
 have e3:IntKind.i64.wrap ((n:Int)+16)=(n:Int)+16:=by rw [IntKind.wrap_i64];omega
 have i5:(n:Int)≤(n:Int)+16:=by omega
 have i6:(0:Int)≤(n:Int)+16:=by omega
 have i4:(n:Int)+16≤(s.size:Int):=by omega
 have i0:(0:Int)≤(n:Int):=by omega
 have i1:(n:Int)≤(s.size:Int):=by omega
 have i2:n≤s.size:=by omega
 have i3:n+16≤s.size:=by omega
 have x3:(bitsL (sumL l) 16 == (s.extract n ((n:Int)+16).toNat).toList)=false:=by
  rw [show((n:Int)+16).toNat=n+16 by omega,beq_eq_false_iff_ne]
  exact fun e=>x2 e.symm
 clear hs ht hb hl hn hsz x2
 go_enter Tryz.func194,Tryz.ntmps194
 go_wp2_with fail
 refine(HW.out _).mono ?_
 rintro e w1 ⟨rfl,hb1⟩
 go_wp2_with fail
 refine wp_region_held_drew (S:=fun w'=>True) (by kernel_rfl) trivial (fun hHeld=>?_)
 refine rgT 0 ?_
 refine rgT 1 ?_
 refine rgT 2 ?_
 refine rgT 5 ?_
 refine rgT 6 ?_
 refine rgT 7 ?_
 refine rgT 8 ?_
 refine rgT 9 ?_
 refine rgT 10 ?_
 refine rgR 3 fun K hK=>?_
 go_simp
 refine(HS.out _).mono ?_
 rintro e w2 ⟨rfl,hb2⟩
 go_simp
 refine hK.out _ _ trivial (fun hHeld=>?_)
 clear hK K
 refine rgR 4 fun K hK=>?_
 go_simp
 refine(HB.out _).mono ?_
 rintro e w3 ⟨rfl,hb3⟩
 go_simp
 refine hK.out _ _ trivial (fun hHeld=>?_)
 clear hK K
 refine rgT 11 ?_
 refine wpAnyH_done (by kernel_rfl) ?_ _
 go_wp2
 go_ret2
 exact⟨rfl,(hb1.trans (Below.mono (show Zb w1.heap.size w1 w2 from⟨hb2.os,hb2.tape,hb2.output,hb2.size,hb2.block⟩) hb1.size)).trans (hb3.mono (Nat.le_trans hb1.size hb2.size))⟩
def RetErr (w:Zw) (e:Ending) (w':Zw):Prop:=∃ k:Nat,k≠0∧e=.returned (.tuple #[.agg #[Z Y 0,Z Y 0,Z Y 0,Z Y 0,Z Y 0,.slice none 0 0],Z Y k])∧Zb w.heap.size w w'
theorem Read_shut (N Pi Er G Fi:Int) (PA:Option Addr) (PL PC:Nat) (s:ByteArray) (k:Nat) (w:Zw) (hk:k≠0) (H:Hid (∀ w,Zc Zp 194 #[.string s] w fun e w'=>e=.returned (.tuple #[.string ⟨#[]⟩,Z Y k])∧Zb w.heap.size w w')) :
 Zc Zp 179 #[.agg #[Z Y N,Z Y Pi,Z Y Er,Z Y G,Z Y Fi,.slice PA PL PC],.string s] w (RetErr w):=by
 have zc:((k:Int) != 0)=true:=by simp;omega
 go_enter Tryz.func179,Tryz.ntmps179
 go_wp2_with fail
 refine(H.out _).mono ?_
 rintro e w1 ⟨rfl,hb1⟩
 have bx:w1.heap[w.heap.size+1]?=some (.cells #[Z Y 0,Z Y 0,Z Y 0,Z Y 0,Z Y 0,.slice none 0 0] 118 (0,0)):=(hb1.block _ (by simp)).trans (by
  have:=Zh (w.alloc (.cells #[Z Y N,Z Y Pi,Z Y Er,Z Y G,Z Y Fi,.slice PA PL PC] 24)) (.cells #[Z Y 0,Z Y 0,Z Y 0,Z Y 0,Z Y 0,.slice none 0 0] 118)
  simpa using this)
 have x0:w1.cell? ⟨w.heap.size+1,0,none⟩=some (Z Y 0):=by simp [World.cell?,bx]
 have x1:w1.cell? ⟨w.heap.size+1,1,none⟩=some (Z Y 0):=by simp [World.cell?,bx]
 have x2:w1.cell? ⟨w.heap.size+1,2,none⟩=some (Z Y 0):=by simp [World.cell?,bx]
 have x3:w1.cell? ⟨w.heap.size+1,3,none⟩=some (Z Y 0):=by simp [World.cell?,bx]
 have x4:w1.cell? ⟨w.heap.size+1,4,none⟩=some (Z Y 0):=by simp [World.cell?,bx]
 have x5:w1.cell? ⟨w.heap.size+1,5,none⟩=some (.slice none 0 0):=by simp [World.cell?,bx]
 have y0:∀ o,w1.frozen? ⟨w.heap.size+1,o,none⟩=false:=fun o=>by simp [World.frozen?,bx]
 have hB1:Zb w.heap.size w w1:=Below.trans (show Zb w.heap.size w _ from bB) (hb1.mono (by simp;omega))
 clear bx
 go_wp2
 refine bodyPost_ret (v :=.tuple #[.agg #[Z Y 0,Z Y 0,Z Y 0,Z Y 0,Z Y 0,.slice none 0 0],Z Y k]) (by simp [results,Tryz.results179,go_sem,x0,x1,x2,x3,x4,x5]) rfl ⟨k,hk,rfl,?_⟩
 refine Below.setCell ?_ (by first | (simp;done) | (simp;omega)) _
 refine Below.setCell ?_ (by first | (simp;done) | (simp;omega)) _
 refine Below.setCell ?_ (by first | (simp;done) | (simp;omega)) _
 refine Below.setCell ?_ (by first | (simp;done) | (simp;omega)) _
 refine Below.setCell ?_ (by first | (simp;done) | (simp;omega)) _
 refine Below.setCell ?_ (by first | (simp;done) | (simp;omega)) _
 exact hB1
theorem Read_short (N Pi Er G Fi:Int) (PA:Option Addr) (PL PC:Nat) (l:List UInt8) (w:Zw) (hb:AllBits l) (hl:l.length < 34) :
 Zc Zp 179 #[.agg #[Z Y N,Z Y Pi,Z Y Er,Z Y G,Z Y Fi,.slice PA PL PC],.string ⟨(wrapL l).toArray⟩] w (RetErr w):=by
 have HO:=O (fun w=>crc_Open l w hb (by omega))
 have d1:decide ((l.length:Int) < 34)=true:=by simp;omega
 have d2:decide (l.length < 34)=true:=by simp;omega
 clear hb
 go_enter Tryz.func179,Tryz.ntmps179
 go_wp2_with fail
 refine(HO.out _).mono ?_
 rintro e w1 ⟨rfl,hb1⟩
 have bx:w1.heap[w.heap.size+1]?=some (.cells #[Z Y 0,Z Y 0,Z Y 0,Z Y 0,Z Y 0,.slice none 0 0] 118 (0,0)):=(hb1.block _ (by simp)).trans (by
  have:=Zh (w.alloc (.cells #[Z Y N,Z Y Pi,Z Y Er,Z Y G,Z Y Fi,.slice PA PL PC] 24)) (.cells #[Z Y 0,Z Y 0,Z Y 0,Z Y 0,Z Y 0,.slice none 0 0] 118)
  simpa using this)
 have x0:w1.cell? ⟨w.heap.size+1,0,none⟩=some (Z Y 0):=by simp [World.cell?,bx]
 have x1:w1.cell? ⟨w.heap.size+1,1,none⟩=some (Z Y 0):=by simp [World.cell?,bx]
 have x2:w1.cell? ⟨w.heap.size+1,2,none⟩=some (Z Y 0):=by simp [World.cell?,bx]
 have x3:w1.cell? ⟨w.heap.size+1,3,none⟩=some (Z Y 0):=by simp [World.cell?,bx]
 have x4:w1.cell? ⟨w.heap.size+1,4,none⟩=some (Z Y 0):=by simp [World.cell?,bx]
 have x5:w1.cell? ⟨w.heap.size+1,5,none⟩=some (.slice none 0 0):=by simp [World.cell?,bx]
 have y0:∀ o,w1.frozen? ⟨w.heap.size+1,o,none⟩=false:=fun o=>by simp [World.frozen?,bx]
 have hB1:Zb w.heap.size w w1:=Below.trans (show Zb w.heap.size w _ from bB) (hb1.mono (by simp;omega))
 clear bx
 go_wp2
 refine bodyPost_ret (v :=.tuple #[.agg #[Z Y 0,Z Y 0,Z Y 0,Z Y 0,Z Y 0,.slice none 0 0],Z Y 3]) (by simp [results,Tryz.results179,go_sem,x0,x1,x2,x3,x4,x5]) rfl ⟨3,by omega,rfl,?_⟩
 refine Below.setCell ?_ (by first | (simp;done) | (simp;omega)) _
 refine Below.setCell ?_ (by first | (simp;done) | (simp;omega)) _
 refine Below.setCell ?_ (by first | (simp;done) | (simp;omega)) _
 refine Below.setCell ?_ (by first | (simp;done) | (simp;omega)) _
 refine Below.setCell ?_ (by first | (simp;done) | (simp;omega)) _
 refine Below.setCell ?_ (by first | (simp;done) | (simp;omega)) _
 exact hB1
end D5
namespace D6
open Go.RowKit A11 A14 A20 A21 A22 A23 A24 A27 D5
theorem Read_len (N:Nat) (Pi Er G Fi:Int) (PA:Option Addr) (PL PC:Nat) (fk fr fs fpk fpv m:Nat) (R0:List UInt8) (w:Zw) (hk4:fk < 4) (hr4:fr < 65536) (hs4:fs < 64) (hp:fpk < 4∧fpv < 256) (hR0:AllBits R0) (hRl:R0.length≤3949) (hm:m≤100) (hne:R0.length≠10*m)
 (HEc:Hid (∀ w,Zc Zp 197 #[.agg #[Z Y N,Z Y Pi,Z Y Er,Z Y G,Z Y Fi,.slice PA PL PC],Z Y fk,Z Y fs] w fun e w'=>e=.returned (Z Y m)∧Zb w.heap.size w w')) :
 Zc Zp 179 #[.agg #[Z Y N,Z Y Pi,Z Y Er,Z Y G,Z Y Fi,.slice PA PL PC],.string ⟨(wrapL (bitsL fk 2 ++ (bitsL fr 16 ++ (bitsL fs 6 ++ (itemL (fpk,fpv) ++ R0))))).toArray⟩] w (RetErr w):=by
 have hall:AllBits (bitsL fk 2 ++ (bitsL fr 16 ++ (bitsL fs 6 ++ (itemL (fpk,fpv) ++ R0)))):=(bits_all _ _).app ((bits_all _ _).app ((bits_all _ _).app ((item_all _).app hR0)))
 have hbl:(bitsL fk 2 ++ (bitsL fr 16 ++ (bitsL fs 6 ++ (itemL (fpk,fpv) ++ R0)))).length=34+R0.length:=by simp only [List.length_append,bitsL_length,itemL_length];omega
 have HO:=O (fun w=>crc_Open _ w hall (by omega))
 obtain⟨L,hL⟩:∃ L,L=bitsL fk 2 ++ (bitsL fr 16 ++ (bitsL fs 6 ++ (itemL (fpk,fpv) ++ R0))):=⟨_,rfl⟩
 rw [← hL]at HO hbl
 rw [← hL]
 have HBody:=O hL
 have d1:decide ((L.length:Int) < 34)=false:=by simp;omega
 have d2:decide (L.length < 34)=false:=by simp;omega
 have hl4:L.length≤3984:=by omega
 clear hbl hall hL
 go_enter Tryz.func179,Tryz.ntmps179
 go_wp2_with fail
 refine(HO.out _).mono ?_
 rintro e w1 ⟨rfl,hb1⟩
 have bc:w1.heap[w.heap.size]?=some (.cells #[Z Y N,Z Y Pi,Z Y Er,Z Y G,Z Y Fi,.slice PA PL PC] 24 (0,0)):=(hb1.block _ (by simp;omega)).trans ((Below.heap_alloc _ _ _ (by simp)).trans (Zh w _))
 have bx:w1.heap[w.heap.size+1]?=some (.cells #[Z Y 0,Z Y 0,Z Y 0,Z Y 0,Z Y 0,.slice none 0 0] 118 (0,0)):=(hb1.block _ (by simp)).trans (by
  have:=Zh (w.alloc (.cells #[Z Y N,Z Y Pi,Z Y Er,Z Y G,Z Y Fi,.slice PA PL PC] 24)) (.cells #[Z Y 0,Z Y 0,Z Y 0,Z Y 0,Z Y 0,.slice none 0 0] 118)
  simpa using this)
 have hB1:Zb w.heap.size w w1:=Below.trans (show Zb w.heap.size w _ from bB) (hb1.mono (by simp;omega))
 have hz1:w.heap.size+1 < w1.heap.size:=by have:=hb1.size;simp at this;omega
 have HC1:=O bc
 have HX1:=O bx
 have HB1:=O hB1
 clear bc bx hB1 hb1 HO
 have hlen1:(bitsL fr 16 ++ (bitsL fs 6 ++ (itemL (fpk,fpv) ++ R0))).length≤3984:=by simp only [List.length_append,bitsL_length,itemL_length];omega
 have hlen2:(bitsL fs 6 ++ (itemL (fpk,fpv) ++ R0)).length≤3984:=by simp only [List.length_append,bitsL_length,itemL_length];omega
 have hlen3:(itemL (fpk,fpv) ++ R0).length≤3984:=by simp only [List.length_append,bitsL_length,itemL_length];omega
 have hlen4:(R0).length≤3976:=by omega
 have hR0:RdAt (w1.alloc (.cells #[.string ⟨L.toArray⟩] 297)) w1.heap.size (bitsL fk 2 ++ (bitsL fr 16 ++ (bitsL fs 6 ++ (itemL (fpk,fpv) ++ R0)))):=by
  rw [← HBody.out]
  exact⟨Lib.cell_of_heap (Zh w1 _) 0,Lib.frozen_of_heap (Zh w1 _) 0⟩
 have HR0:=O hR0
 clear hR0
 go_wp2_with fail
 refine(next2 w1.heap.size fk _ _ HR0.out hk4 hlen1).mono ?_
 rintro e w2 ⟨rfl,hr2,hb2⟩
 have HR2:=O hr2
 clear hr2
 go_wp2_with fail
 refine(next16 w1.heap.size fr _ _ HR2.out hr4 hlen2).mono ?_
 rintro e w3 ⟨rfl,hr3,hb3⟩
 have HR3:=O hr3
 clear hr3
 go_wp2_with fail
 refine(next6 w1.heap.size fs _ _ HR3.out hs4 hlen3).mono ?_
 rintro e w4 ⟨rfl,hr4',hb4⟩
 have HR4:=O hr4'
 clear hr4'
 go_wp2_with fail
 refine(reader_item w1.heap.size fpk fpv _ _ HR4.out hp.1 hp.2 hlen4).mono ?_
 rintro e w5 ⟨rfl,hr5,hb5⟩
 have hb15:But (fun q=>q=w1.heap.size) w1 w5:=(But.of_below (show Zb w1.heap.size w1 _ from bB) (Zr _)).trans (((hb2.trans hb3).trans hb4).trans hb5)
 have hB5:Zb w.heap.size w w5:=HB1.out.trans (hb15.to_below (by omega) (by rintro q rfl;omega))
 have hz5:w1.heap.size < w5.heap.size:=hr5.lt
 have HC5:=O ((hb15.block _ (by omega) (by omega)).trans HC1.out)
 have HX5:=O ((hb15.block _ hz1 (by omega)).trans HX1.out)
 have HR5:=O hr5
 have HB5:=O hB5
 have c0:w5.cell? ⟨w.heap.size,0,none⟩=some (Z Y N):=by simp [World.cell?,HC5.out]
 have c1:w5.cell? ⟨w.heap.size,1,none⟩=some (Z Y Pi):=by simp [World.cell?,HC5.out]
 have c2:w5.cell? ⟨w.heap.size,2,none⟩=some (Z Y Er):=by simp [World.cell?,HC5.out]
 have c3:w5.cell? ⟨w.heap.size,3,none⟩=some (Z Y G):=by simp [World.cell?,HC5.out]
 have c4:w5.cell? ⟨w.heap.size,4,none⟩=some (Z Y Fi):=by simp [World.cell?,HC5.out]
 have c5:w5.cell? ⟨w.heap.size,5,none⟩=some (.slice PA PL PC):=by simp [World.cell?,HC5.out]
 have r0:w5.cell? ⟨w1.heap.size,0,none⟩=some (.string ⟨(R0).toArray⟩):=hr5.cell
 have n0:=World.new_ne w5 _ c0
 have n1:=World.new_ne w5 _ r0
 have ew:IntKind.i64.wrap (10*(m:Int))=10*(m:Int):=by rw [IntKind.wrap_i64];omega
 have e1:((R0).length != 10*m)=true:=by simp;exact hne
 have e2:(((R0).length:Int) != 10*(m:Int))=true:=by simp;omega
 have lW5:w.heap.size < w5.heap.size:=by omega
 generalize hR:w1.heap.size=R at *
 have hRz:w.heap.size+1 < R:=hz1
 clear hb2 hb3 hb4 hb5 hb15 hr5 hB5 HR0 HR2 HR3 HR4 HX1 HC1 HB1 d1 d2 hlen1 hlen2 hlen3 hR hz1
 go_wp2_with fail
 refine wp_region_held_drew (S:=fun w'=>w'.cell? ⟨w.heap.size,0,none⟩=some (Z Y N)∧w'.cell? ⟨w.heap.size,1,none⟩=some (Z Y Pi)∧w'.cell? ⟨w.heap.size,2,none⟩=some (Z Y Er)∧w'.cell? ⟨w.heap.size,3,none⟩=some (Z Y G)∧w'.cell? ⟨w.heap.size,4,none⟩=some (Z Y Fi)∧w'.cell? ⟨w.heap.size,5,none⟩=some (.slice PA PL PC)∧w'.cell? ⟨R,0,none⟩=some (.string ⟨R0.toArray⟩)∧w'.cell? ⟨w5.heap.size,0,none⟩=some (Z Y fk)∧w'.cell? ⟨w5.heap.size,2,none⟩=some (Z Y fs)) (by kernel_rfl) (by go_keep) (fun hHeld=>?_)
 refine rgT 0 ?_
 refine rgT 1 ?_
 refine rgT 2 ?_
 refine rgT 3 ?_
 refine rgT 4 ?_
 refine rgT 5 ?_
 refine rgT 6 ?_
 refine rgT 7 ?_
 refine rgT 8 ?_
 refine rgT 9 ?_
 refine rgR 10 fun K hK=>?_
 go_simp
 refine(HEc.out _).mono ?_
 rintro e w6 ⟨rfl,hb6⟩
 have hq:Zb w5.heap.size w5 w6:=Below.trans (show Zb w5.heap.size w5 _ from bB) ⟨hb6.os,hb6.tape,hb6.output,hb6.size,fun q hq=>hb6.block q (by simp;omega)⟩
 have hF6:w6.heap[w5.heap.size]?=some (.cells #[Z Y fk,Z Y fr,Z Y fs,Z Y fpk,Z Y fpv,.slice none 0 0] 118 (0,0)):=(hb6.block _ (by simp)).trans (Zh w5 _)
 have hC6:=(hq.block _ lW5).trans HC5.out
 have hX6:=(hq.block _ (by omega)).trans HX5.out
 have hR6:RdAt w6 R R0:=HR5.out.below hq
 have hB6:=HB5.out.trans (hq.mono (by omega))
 have hz6:=heap_lt hF6
 go_simp
 refine hK.out _ _ ⟨by simp [World.cell?,hC6],by simp [World.cell?,hC6],by simp [World.cell?,hC6],by simp [World.cell?,hC6],by simp [World.cell?,hC6],by simp [World.cell?,hC6],hR6.cell,by simp [World.cell?,hF6],by simp [World.cell?,hF6]⟩ (fun hHeld=>?_)
 clear hK K
 refine rgT 11 ?_
 refine rgT 12 ?_
 refine wpAnyH_done (by kernel_rfl) ?_ _
 have u0:w6.cell? ⟨w.heap.size+1,0,none⟩=some (Z Y 0):=by simp [World.cell?,hX6]
 have u1:w6.cell? ⟨w.heap.size+1,1,none⟩=some (Z Y 0):=by simp [World.cell?,hX6]
 have u2:w6.cell? ⟨w.heap.size+1,2,none⟩=some (Z Y 0):=by simp [World.cell?,hX6]
 have u3:w6.cell? ⟨w.heap.size+1,3,none⟩=some (Z Y 0):=by simp [World.cell?,hX6]
 have u4:w6.cell? ⟨w.heap.size+1,4,none⟩=some (Z Y 0):=by simp [World.cell?,hX6]
 have u5:w6.cell? ⟨w.heap.size+1,5,none⟩=some (.slice none 0 0):=by simp [World.cell?,hX6]
 have uf:∀ o,w6.frozen? ⟨w.heap.size+1,o,none⟩=false:=fun o=>by simp [World.frozen?,hX6]
 have HB6:=O hB6
 clear hHeld hC6 hX6 hR6 hF6 hB6 hb6 hq
 go_wp2
 refine bodyPost_ret (v :=.tuple #[.agg #[Z Y 0,Z Y 0,Z Y 0,Z Y 0,Z Y 0,.slice none 0 0],Z Y 2]) (by simp [results,Tryz.results179,go_sem,u0,u1,u2,u3,u4,u5]) rfl ⟨2,by omega,rfl,?_⟩
 refine Below.setCell ?_ (by first | (simp;done) | (simp;omega)) _
 refine Below.setCell ?_ (by first | (simp;done) | (simp;omega)) _
 refine Below.setCell ?_ (by first | (simp;done) | (simp;omega)) _
 refine Below.setCell ?_ (by first | (simp;done) | (simp;omega)) _
 refine Below.setCell ?_ (by first | (simp;done) | (simp;omega)) _
 refine Below.setCell ?_ (by first | (simp;done) | (simp;omega)) _
 exact HB6.out
end D6
end Go.Proofs.YtdbempiompiioaaGreat
