/- What an act makes of a stream. The one locus where it is a node: what it hits, how its clock seems.  Conditions: the bounds stated in each theorem. -/
import Derived.Test.YtdbempiompiioaaGreatT08
set_option linter.unusedVariables false
set_option linter.unusedSimpArgs false
set_option maxRecDepth 100000
set_option maxHeartbeats 80000000
open Go.Value renaming int → Z
open Go.IntKind renaming i64 → Y
open Go renaming World → Zw, Calls → Zc, heap_alloc_new → Zh
open Go.RowKit renaming Below → Zb
open Go.Proofs.Tryz renaming prog → Zp
open Go.Lib renaming hid → O
open Go.World renaming block_lt_of_cell? → Zl, cell?_setCell_other → Zo
open Nat renaming le_refl → Zr
open Go.RowKit.Below renaming refl → Zf
namespace Go.Proofs.YtdbempiompiioaaGreat
namespace D17
open Go.RowKit A6 A11 A14 A19 A22 A24 D9 D10 D11 D12 D15 D16
theorem set_off {w:Zw} {p q:Addr} {u v:Value} (h:w.cell? p=some v) (hne:p.block≠q.block):(w.setCell q u).cell? p=some v:=(Zo _ _ _ _ (fun e=>hne (congrArg Addr.block e).symm)).trans h
theorem al_keep {w:Zw} {p:Addr} {o:Obj} {v:Value} (h:w.cell? p=some v):(w.alloc o).cell? p=some v:=(World.cell?_alloc_some _ _ _ (by rw [h];rfl)).trans h
theorem rep_items {w wr:Zw} {g n:Nat} {v:Nat} (h:RepAt w wr g n n v):Items wr (some ⟨g,0,none⟩) (List.replicate n (2,v)):=fun k hk=>by
 have hk':k < n:=by simpa using hk
 have e:(List.replicate n (2,v)).getD k (0,0)=(2,v):=by rw [List.getD_eq_getElem?_getD,List.getElem?_replicate,if_pos hk'];rfl
 rw [e]
 refine⟨g,0,rfl,heap_lt h.row,?_,?_⟩
 ·have e0:(repL (v:Int) n n).toArray[0+k*2]?=(repL (v:Int) n n)[0+k*2]?:=by simp
  rw [Lib.cell_of_heap h.row,e0,repL_at,if_pos (by omega),if_pos (by omega),if_pos (by omega)];rfl
 ·have e0:(repL (v:Int) n n).toArray[0+k*2+1]?=(repL (v:Int) n n)[0+k*2+1]?:=by simp
  rw [Lib.cell_of_heap h.row,e0,repL_at,if_pos (by omega),if_pos (by omega),if_neg (by omega)]
theorem done1 (N:Nat) (Pi Er G Fi:Int) (PA:Option Addr) (PL PC slot:Nat) (round how n:Int) (t s:ByteArray) (w:Zw) (v:Int) (HV:Hid (∀ w,Zc Zp 146 #[Z Y n,Z Y 256] w fun e w'=>e=.returned (Z Y v)∧w=w')) (HK:Hid (∀ w,Zc Zp 146 #[Z Y how,Z Y 7] w fun e w'=>e=.returned (Z Y 1)∧w=w')):Zc Zp 191 #[.agg #[Z Y N,Z Y Pi,Z Y Er,Z Y G,Z Y Fi,.slice PA PL PC],.agg #[Z Y how,Z Y n,.string t],Z Y round,Z Y slot,.string s] w fun e w'=>e=.returned (.string (s))∧Zb w.heap.size w w':=by
 go_enter Tryz.func191,Tryz.ntmps191
 go_wp2_with fail
 refine(HV.out _).mono ?_
 rintro e w1 ⟨rfl,rfl⟩
 go_wp2_with fail
 refine(HK.out _).mono ?_
 rintro e w2 ⟨rfl,rfl⟩
 go_wp2
 go_ret
 exact⟨rfl,bB⟩
theorem done0 (N:Nat) (Pi Er G Fi:Int) (PA:Option Addr) (PL PC slot:Nat) (round how n:Int) (t s:ByteArray) (w:Zw) (v:Int) (HV:Hid (∀ w,Zc Zp 146 #[Z Y n,Z Y 256] w fun e w'=>e=.returned (Z Y v)∧w=w')) (HK:Hid (∀ w,Zc Zp 146 #[Z Y how,Z Y 7] w fun e w'=>e=.returned (Z Y 0)∧w=w')):Zc Zp 191 #[.agg #[Z Y N,Z Y Pi,Z Y Er,Z Y G,Z Y Fi,.slice PA PL PC],.agg #[Z Y how,Z Y n,.string t],Z Y round,Z Y slot,.string s] w fun e w'=>e=.returned (.string (⟨#[]⟩))∧Zb w.heap.size w w':=by
 go_enter Tryz.func191,Tryz.ntmps191
 go_wp2_with fail
 refine(HV.out _).mono ?_
 rintro e w1 ⟨rfl,rfl⟩
 go_wp2_with fail
 refine(HK.out _).mono ?_
 rintro e w2 ⟨rfl,rfl⟩
 go_wp2
 go_ret
 exact⟨rfl,bB⟩
theorem done2 (N:Nat) (Pi Er G Fi:Int) (PA:Option Addr) (PL PC slot:Nat) (round how n:Int) (t s:ByteArray) (w:Zw) (v:Int) (k:Nat) (HV:Hid (∀ w,Zc Zp 146 #[Z Y n,Z Y 256] w fun e w'=>e=.returned (Z Y v)∧w=w')) (HK:Hid (∀ w,Zc Zp 146 #[Z Y how,Z Y 7] w fun e w'=>e=.returned (Z Y 2)∧w=w')) (hk:k≤s.size) (hs:s.size≤4000) (H2:Hid (∀ w,Zc Zp 146 #[Z Y n,Z Y (s.size+1)] w fun e w'=>e=.returned (Z Y k)∧w=w')):Zc Zp 191 #[.agg #[Z Y N,Z Y Pi,Z Y Er,Z Y G,Z Y Fi,.slice PA PL PC],.agg #[Z Y how,Z Y n,.string t],Z Y round,Z Y slot,.string s] w fun e w'=>e=.returned (.string (s.extract 0 k))∧Zb w.heap.size w w':=by
 have q1:IntKind.i64.wrap ((s.size:Int)+1)=(s.size:Int)+1:=by rw [IntKind.wrap_i64];omega
 have q2:(k:Int)≤(s.size:Int):=by omega
 have q3:(0:Int)≤(k:Int):=by omega
 go_enter Tryz.func191,Tryz.ntmps191
 go_wp2_with fail
 refine(HV.out _).mono ?_
 rintro e w1 ⟨rfl,rfl⟩
 go_wp2_with fail
 refine(HK.out _).mono ?_
 rintro e w2 ⟨rfl,rfl⟩
 go_wp2_with (go_at_call 146;refine(H2.out _).mono ?_;rintro e w3 ⟨rfl,rfl⟩)
 go_ret
 exact⟨rfl,bB⟩
theorem done3 (N:Nat) (Pi Er G Fi:Int) (PA:Option Addr) (PL PC slot:Nat) (round how n:Int) (t s:ByteArray) (w:Zw) (v:Int) (HV:Hid (∀ w,Zc Zp 146 #[Z Y n,Z Y 256] w fun e w'=>e=.returned (Z Y v)∧w=w')) (HK:Hid (∀ w,Zc Zp 146 #[Z Y how,Z Y 7] w fun e w'=>e=.returned (Z Y 3)∧w=w')) (ht:t.size≤4000):Zc Zp 191 #[.agg #[Z Y N,Z Y Pi,Z Y Er,Z Y G,Z Y Fi,.slice PA PL PC],.agg #[Z Y how,Z Y n,.string t],Z Y round,Z Y slot,.string s] w fun e w'=>e=.returned (.string (cleanF t))∧Zb w.heap.size w w':=by
 have H2:=O (fun w=>Clean_any t w ht)
 go_enter Tryz.func191,Tryz.ntmps191
 go_wp2_with fail
 refine(HV.out _).mono ?_
 rintro e w1 ⟨rfl,rfl⟩
 go_wp2_with fail
 refine(HK.out _).mono ?_
 rintro e w2 ⟨rfl,rfl⟩
 go_wp2_with fail
 refine(H2.out _).mono ?_
 rintro e w3 ⟨rfl,hb⟩
 go_wp2
 go_ret
 exact⟨rfl,(show Zb w.heap.size w _ from bB).trans (hb.mono (by simp;try omega))⟩
theorem done4 (N:Nat) (Pi Er G Fi:Int) (PA:Option Addr) (PL PC slot:Nat) (round how n:Int) (t s:ByteArray) (w:Zw) (v k:Int) (u:ByteArray) (HV:Hid (∀ w,Zc Zp 146 #[Z Y n,Z Y 256] w fun e w'=>e=.returned (Z Y v)∧w=w')) (HK:Hid (∀ w,Zc Zp 146 #[Z Y how,Z Y 7] w fun e w'=>e=.returned (Z Y 4)∧w=w')) (hu:u.size≤4000) (H2:Hid (∀ w,Zc Zp 146 #[Z Y n,Z Y s.size] w fun e w'=>e=.returned (Z Y k)∧w=w')) (H3:Hid (∀ w,Zc Zp 207 #[.string s,Z Y k] w fun e w'=>e=.returned (.string u)∧Zb w.heap.size w w')):Zc Zp 191 #[.agg #[Z Y N,Z Y Pi,Z Y Er,Z Y G,Z Y Fi,.slice PA PL PC],.agg #[Z Y how,Z Y n,.string t],Z Y round,Z Y slot,.string s] w fun e w'=>e=.returned (.string (cleanF u))∧Zb w.heap.size w w':=by
 have H4:=O (fun w=>Clean_any u w hu)
 go_enter Tryz.func191,Tryz.ntmps191
 go_wp2_with fail
 refine(HV.out _).mono ?_
 rintro e w1 ⟨rfl,rfl⟩
 go_wp2_with fail
 refine(HK.out _).mono ?_
 rintro e w2 ⟨rfl,rfl⟩
 go_wp2_with fail
 refine(H2.out _).mono ?_
 rintro e w3 ⟨rfl,rfl⟩
 go_wp2_with fail
 refine(H3.out _).mono ?_
 rintro e w4 ⟨rfl,hb⟩
 go_wp2_with fail
 refine(H4.out _).mono ?_
 rintro e w5 ⟨rfl,hb2⟩
 go_wp2
 go_ret
 exact⟨rfl,((show Zb w.heap.size w _ from bB).trans (hb.mono (by simp;try omega))).trans (hb2.mono (by have:=hb.size;simp at this;omega))⟩
theorem done5 (N:Nat) (Pi Er G Fi:Int) (PA:Option Addr) (PL PC slot:Nat) (round how n:Int) (t s:ByteArray) (w:Zw) (v:Nat) (f:Fr) (HV:Hid (∀ w,Zc Zp 146 #[Z Y n,Z Y 256] w fun e w'=>e=.returned (Z Y v)∧w=w')) (HK:Hid (∀ w,Zc Zp 146 #[Z Y how,Z Y 7] w fun e w'=>e=.returned (Z Y 5)∧w=w')) (hv:v≤255) (hf:ToldOk N PL f) (hN:N≤12) (hP:PL≤3) (HT:Hid (∀ w,Zc Zp 208 #[.agg #[Z Y N,Z Y Pi,Z Y Er,Z Y G,Z Y Fi,.slice PA PL PC],Z Y round,Z Y slot,.string s] w (RetF f w))):Zc Zp 191 #[.agg #[Z Y N,Z Y Pi,Z Y Er,Z Y G,Z Y Fi,.slice PA PL PC],.agg #[Z Y how,Z Y n,.string t],Z Y round,Z Y slot,.string s] w fun e w'=>e=.returned (.string (textB { f with pk:=2,pv:=v }))∧Zb w.heap.size w w':=by
 have HX:=O (fun EA EC w (h:Items w EA f.echo)=>frame_Text #[Z Y N,Z Y Pi,Z Y Er,Z Y G,Z Y Fi,.slice PA PL PC] { f with pk:=2,pv:=v } EA EC w rfl ((hf.pay5 hv).low hN hP) h N Pi Er G Fi PA PL PC rfl)
 generalize textB { f with pk:=2,pv:=v }=u at *
 dsimp only at HX
 go_enter Tryz.func191,Tryz.ntmps191
 go_wp2_with fail
 refine(HV.out _).mono ?_
 rintro e w1 ⟨rfl,rfl⟩
 go_wp2_with fail
 refine(HK.out _).mono ?_
 rintro e w2 ⟨rfl,rfl⟩
 go_wp2_with fail
 refine(HT.out _).mono ?_
 rintro e w3 ⟨EA,EC,rfl,hI,hEA,hb⟩
 have h3:=three_allocs w (.cells #[Z Y N,Z Y Pi,Z Y Er,Z Y G,Z Y Fi,.slice PA PL PC] 24) (.cells #[Z Y how,Z Y n,.string t] 38) (.cells #[Z Y 2,Z Y v] 44)
 have b0:=(hb.block w.heap.size (by simp;omega)).trans h3.1
 have b2:=(hb.block (w.heap.size+1+1) (by simp)).trans h3.2.2
 have HB3:=O (Below.trans (show Zb w.heap.size w _ from bB) (hb.mono (by simp;omega)))
 have z3:w.heap.size+1+1 < w3.heap.size:=heap_lt b2
 obtain⟨w4,hw4⟩:∃ w4,w4=w3.alloc (.cells #[Z Y f.kind,Z Y f.round,Z Y f.slot,Z Y f.pk,Z Y f.pv,.slice EA f.echo.length EC] 118):=⟨_,rfl⟩
 have al:Zb w3.heap.size w3 w4:=by rw [hw4];exact(Zf _ _).alloc (Zr _) _
 have HB4:=O (HB3.out.trans (al.mono (by omega)))
 have HI4:=O (hI.below al)
 have bf:w4.heap[w3.heap.size]?=some (.cells #[Z Y f.kind,Z Y f.round,Z Y f.slot,Z Y f.pk,Z Y f.pv,.slice EA f.echo.length EC] 118 (0,0)):=by rw [hw4];exact Zh w3 _
 have b0':=(al.block w.heap.size (by omega)).trans b0
 have b2':=(al.block (w.heap.size+1+1) z3).trans b2
 have HW4:=O hw4
 have z4:=heap_lt bf
 have HBF:=O bf
 have HB0:=O b0'
 have i0:w4.cell? ⟨w.heap.size+1+1,0,none⟩=some (Z Y 2):=by simp [World.cell?,b2']
 have i1:w4.cell? ⟨w.heap.size+1+1,1,none⟩=some (Z Y v):=by simp [World.cell?,b2']
 have f3:w4.cell? ⟨w3.heap.size,3,none⟩=some (Z Y f.pk):=by simp [World.cell?,bf]
 have f4:w4.cell? ⟨w3.heap.size,4,none⟩=some (Z Y f.pv):=by simp [World.cell?,bf]
 have y3:∀ o,w4.frozen? ⟨w3.heap.size,o,none⟩=false:=fun o=>by simp [World.frozen?,bf]
 have HE3:=O (fun(e:EA=some ⟨w3.heap.size,0,none⟩)=>hEA _ _ e)
 have HEb:=O (show ∀ k,k < f.echo.length→∃ b off,EA=some ⟨b,off,none⟩∧b < w3.heap.size from fun k hk=>by obtain⟨b,off,e,hl,_⟩:=hI k hk;exact⟨b,off,e,hl⟩)
 clear hb h3 b0 b2 hI hEA hw4 al bf b0' b2'
 go_upto_region 13 with fail
 rw [← HW4.out]
 clear HW4
 go_upto_region 14 with fail
 have hI5:Items ((w4.setCell ⟨w3.heap.size,3,none⟩ (Z Y 2)).setCell ⟨w3.heap.size,4,none⟩ (Z Y v)) EA f.echo:=fun k hk=>by
  obtain⟨b,off,e,hl,c0,c1⟩:=HI4.out k hk
  obtain⟨b',off',e',hl'⟩:=HEb.out k hk
  rw [e]at e'
  injection e' with e'
  injection e' with e' _
  subst e'
  exact⟨b,off,e,by simpa [World.setCell]using hl,set_off (set_off c0 (show b≠w3.heap.size by omega)) (show b≠w3.heap.size by omega),set_off (set_off c1 (show b≠w3.heap.size by omega)) (show b≠w3.heap.size by omega)⟩
 have hB5:Zb w.heap.size w ((w4.setCell ⟨w3.heap.size,3,none⟩ (Z Y 2)).setCell ⟨w3.heap.size,4,none⟩ (Z Y v)):=(HB4.out.setCell (by show w.heap.size≤w3.heap.size;omega) _).setCell (by show w.heap.size≤w3.heap.size;omega) _
 have b05:((w4.setCell ⟨w3.heap.size,3,none⟩ (Z Y 2)).setCell ⟨w3.heap.size,4,none⟩ (Z Y v)).heap[w.heap.size]?=some (.cells #[Z Y N,Z Y Pi,Z Y Er,Z Y G,Z Y Fi,.slice PA PL PC] 24 (0,0)):=((Below.heap_setCell _ _ _ _ (show w.heap.size≠w3.heap.size by omega)).trans (Below.heap_setCell _ _ _ _ (show w.heap.size≠w3.heap.size by omega))).trans HB0.out
 have c3:((w4.setCell ⟨w3.heap.size,3,none⟩ (Z Y 2)).setCell ⟨w3.heap.size,4,none⟩ (Z Y v)).cell? ⟨w3.heap.size,3,none⟩=some (Z Y 2):=(Zo _ _ _ _ (fun e=>by injection e with _ e;omega)).trans (World.cell?_setCell_same _ _ _ f3)
 have c4:((w4.setCell ⟨w3.heap.size,3,none⟩ (Z Y 2)).setCell ⟨w3.heap.size,4,none⟩ (Z Y v)).cell? ⟨w3.heap.size,4,none⟩=some (Z Y v):=World.cell?_setCell_same _ _ _ ((Zo _ _ _ _ (fun e=>by injection e with _ e;omega)).trans f4)
 have co:∀ j u,j≠3→j≠4→w4.cell? ⟨w3.heap.size,j,none⟩=some u→((w4.setCell ⟨w3.heap.size,3,none⟩ (Z Y 2)).setCell ⟨w3.heap.size,4,none⟩ (Z Y v)).cell? ⟨w3.heap.size,j,none⟩=some u:=fun j u h1 h2 h=>((Zo _ _ _ _ (fun e=>by injection e with _ e;omega)).trans (Zo _ _ _ _ (fun e=>by injection e with _ e;omega))).trans h
 have c0:=co 0 (Z Y f.kind) (by omega) (by omega) (by simp [World.cell?,HBF.out])
 have c1:=co 1 (Z Y f.round) (by omega) (by omega) (by simp [World.cell?,HBF.out])
 have c2:=co 2 (Z Y f.slot) (by omega) (by omega) (by simp [World.cell?,HBF.out])
 have c5:=co 5 (.slice EA f.echo.length EC) (by omega) (by omega) (by simp [World.cell?,HBF.out])
 have HI5:=O hI5
 have HB5:=O hB5
 clear hI5 hB5 co f3 f4 y3 i0 i1 HBF HB0 HB4 HI4
 generalize (w4.setCell ⟨w3.heap.size,3,none⟩ (Z Y 2)).setCell ⟨w3.heap.size,4,none⟩ (Z Y v)=w5 at *
 have a0:w5.cell? ⟨w.heap.size,0,none⟩=some (Z Y N):=by simp [World.cell?,b05]
 have a1:w5.cell? ⟨w.heap.size,1,none⟩=some (Z Y Pi):=by simp [World.cell?,b05]
 have a2:w5.cell? ⟨w.heap.size,2,none⟩=some (Z Y Er):=by simp [World.cell?,b05]
 have a3:w5.cell? ⟨w.heap.size,3,none⟩=some (Z Y G):=by simp [World.cell?,b05]
 have a4:w5.cell? ⟨w.heap.size,4,none⟩=some (Z Y Fi):=by simp [World.cell?,b05]
 have a5:w5.cell? ⟨w.heap.size,5,none⟩=some (.slice PA PL PC):=by simp [World.cell?,b05]
 clear b05
 go_wp2_with fail
 refine(HX.out EA EC _ HI5.out).mono ?_
 rintro e w6 ⟨rfl,hb6⟩
 have HB6:=O (HB5.out.trans (hb6.mono HB5.out.size))
 clear hb6
 go_wp2
 go_ret
 exact⟨rfl,HB6.out⟩
theorem done6 (N:Nat) (Pi Er G Fi:Int) (PA:Option Addr) (PL PC slot:Nat) (round how n:Int) (t s:ByteArray) (w:Zw) (v:Nat) (f:Fr) (HV:Hid (∀ w,Zc Zp 146 #[Z Y n,Z Y 256] w fun e w'=>e=.returned (Z Y v)∧w=w')) (HK:Hid (∀ w,Zc Zp 146 #[Z Y how,Z Y 7] w fun e w'=>e=.returned (Z Y 6)∧w=w')) (hv:v≤255) (hf:ToldOk N PL f) (hN:N≤12) (hP:PL≤3) (HT:Hid (∀ w,Zc Zp 208 #[.agg #[Z Y N,Z Y Pi,Z Y Er,Z Y G,Z Y Fi,.slice PA PL PC],Z Y round,Z Y slot,.string s] w (RetF f w))) (u:ByteArray) (hu:textB { f with echo:=List.replicate f.echo.length (2,v) }=u):Zc Zp 191 #[.agg #[Z Y N,Z Y Pi,Z Y Er,Z Y G,Z Y Fi,.slice PA PL PC],.agg #[Z Y how,Z Y n,.string t],Z Y round,Z Y slot,.string s] w fun e w'=>e=.returned (.string (u))∧Zb w.heap.size w w':=by
 have hx:=(hf.echo6 hv).low hN hP
 have he:f.echo.length≤20:=by rw [hf.len];split <;> omega
 have HX:=O (fun EA EC w (h:Items w EA (List.replicate f.echo.length (2,v)))=>frame_Text #[Z Y N,Z Y Pi,Z Y Er,Z Y G,Z Y Fi,.slice PA PL PC] { f with echo:=List.replicate f.echo.length (2,v) } EA EC w rfl hx h N Pi Er G Fi PA PL PC rfl)
 rw [hu]at HX
 simp only [List.length_replicate]at HX
 clear hu
 go_enter Tryz.func191,Tryz.ntmps191
 go_wp2_with fail
 refine(HV.out _).mono ?_
 rintro e w1 ⟨rfl,rfl⟩
 go_wp2_with fail
 refine(HK.out _).mono ?_
 rintro e w2 ⟨rfl,rfl⟩
 go_wp2_with fail
 refine(HT.out _).mono ?_
 rintro e w3 ⟨EA,EC,rfl,hI,hEA,hb⟩
 have h3:=three_allocs w (.cells #[Z Y N,Z Y Pi,Z Y Er,Z Y G,Z Y Fi,.slice PA PL PC] 24) (.cells #[Z Y how,Z Y n,.string t] 38) (.cells #[Z Y 2,Z Y v] 44)
 have b0:=(hb.block w.heap.size (by simp;omega)).trans h3.1
 have b2:=(hb.block (w.heap.size+1+1) (by simp)).trans h3.2.2
 have HB3:=O (Below.trans (show Zb w.heap.size w _ from bB) (hb.mono (by simp;omega)))
 have z3:w.heap.size+1+1 < w3.heap.size:=heap_lt b2
 obtain⟨w4,hw4⟩:∃ w4,w4=w3.alloc (.cells #[Z Y f.kind,Z Y f.round,Z Y f.slot,Z Y f.pk,Z Y f.pv,.slice EA f.echo.length EC] 118):=⟨_,rfl⟩
 have al:Zb w3.heap.size w3 w4:=by rw [hw4];exact(Zf _ _).alloc (Zr _) _
 have HB4:=O (HB3.out.trans (al.mono (by omega)))
 have HI4:=O (hI.below al)
 have bf:w4.heap[w3.heap.size]?=some (.cells #[Z Y f.kind,Z Y f.round,Z Y f.slot,Z Y f.pk,Z Y f.pv,.slice EA f.echo.length EC] 118 (0,0)):=by rw [hw4];exact Zh w3 _
 have b0':=(al.block w.heap.size (by omega)).trans b0
 have b2':=(al.block (w.heap.size+1+1) z3).trans b2
 have HW4:=O hw4
 have z4:=heap_lt bf
 have HBF:=O bf
 have HB0:=O b0'
 have i0:w4.cell? ⟨w.heap.size+1+1,0,none⟩=some (Z Y 2):=by simp [World.cell?,b2']
 have i1:w4.cell? ⟨w.heap.size+1+1,1,none⟩=some (Z Y v):=by simp [World.cell?,b2']
 have f4:w4.cell? ⟨w3.heap.size,5,none⟩=some (.slice EA f.echo.length EC):=by simp [World.cell?,bf]
 have y3:w4.frozen? ⟨w3.heap.size,5,none⟩=false:=by simp [World.frozen?,bf]
 have HR:=O (fun XB w (h0:w.cell? ⟨XB,0,none⟩=some (Z Y 2)) (h1:w.cell? ⟨XB,1,none⟩=some (Z Y v))=>Repeat_one XB f.echo.length v w he h0 h1)
 have NX0:=al_keep (w:=w4) (o :=.cells #[Z Y 2,Z Y v] 44) f4
 have x0:(w4.alloc (.cells #[Z Y 2,Z Y v] 44)).cell? ⟨w4.heap.size,0,none⟩=some (Z Y 2):=World.cell?_alloc_new _ _ _ 0
 have x1:(w4.alloc (.cells #[Z Y 2,Z Y v] 44)).cell? ⟨w4.heap.size,1,none⟩=some (Z Y v):=World.cell?_alloc_new _ _ _ 1
 have HXn:=O (And.intro x0 x1)
 clear hb h3 b0 b2 hI hEA hw4 al bf b0' b2' x0 x1 HI4
 go_upto_region 17 with fail
 rw [← HW4.out]
 clear HW4
 go_wp2_with fail
 refine(HR.out _ _ HXn.out.1 HXn.out.2).mono ?_
 rintro e w5 ⟨g,rfl,hr⟩
 have hal:Zb w4.heap.size w4 w5:=(show Zb w4.heap.size w4 _ from(Zf _ _).alloc (Zr _) _).trans (hr.hb.mono (by simp))
 have hg:w4.heap.size < g:=by have:=hr.ge;simp at this;omega
 have k5:w5.cell? ⟨w3.heap.size,5,none⟩=some (.slice EA f.echo.length EC):=(hal.cell (p:=⟨w3.heap.size,5,none⟩) z4).trans f4
 have y5:w5.frozen? ⟨w3.heap.size,5,none⟩=false:=(hal.frozen (p:=⟨w3.heap.size,5,none⟩) z4).trans y3
 have B0:=O ((hal.block w.heap.size (by omega)).trans HB0.out)
 have BF:=O ((hal.block _ z4).trans HBF.out)
 have HI6:=O (rep_items hr)
 have HB5:=O (HB4.out.trans (hal.mono HB4.out.size))
 have K5:=O k5
 clear hr hal HB0 HBF HR HXn HB4 NX0 f4 y3
 go_upto_region 18 with fail
 have hI5:Items (w5.setCell ⟨w3.heap.size,5,none⟩ (.slice (some ⟨g,0,none⟩) f.echo.length f.echo.length)) (some ⟨g,0,none⟩) (List.replicate f.echo.length (2,v)):=fun k hk=>by
  obtain⟨b,off,e,hl,c0,c1⟩:=HI6.out k hk
  injection e with e
  injection e with e1 e2
  subst e1
  subst e2
  exact⟨_,_,rfl,by simpa [World.setCell]using hl,set_off c0 (show g≠w3.heap.size by omega),set_off c1 (show g≠w3.heap.size by omega)⟩
 have hB5:Zb w.heap.size w (w5.setCell ⟨w3.heap.size,5,none⟩ (.slice (some ⟨g,0,none⟩) f.echo.length f.echo.length)):=HB5.out.setCell (by show w.heap.size≤w3.heap.size;omega) _
 have b05:(w5.setCell ⟨w3.heap.size,5,none⟩ (.slice (some ⟨g,0,none⟩) f.echo.length f.echo.length)).heap[w.heap.size]?=some (.cells #[Z Y N,Z Y Pi,Z Y Er,Z Y G,Z Y Fi,.slice PA PL PC] 24 (0,0)):=(Below.heap_setCell _ _ _ _ (show w.heap.size≠w3.heap.size by omega)).trans B0.out
 have c5:(w5.setCell ⟨w3.heap.size,5,none⟩ (.slice (some ⟨g,0,none⟩) f.echo.length f.echo.length)).cell? ⟨w3.heap.size,5,none⟩=some (.slice (some ⟨g,0,none⟩) f.echo.length f.echo.length):=World.cell?_setCell_same _ _ _ K5.out
 have co:∀ j u,j≠5→w5.cell? ⟨w3.heap.size,j,none⟩=some u→(w5.setCell ⟨w3.heap.size,5,none⟩ (.slice (some ⟨g,0,none⟩) f.echo.length f.echo.length)).cell? ⟨w3.heap.size,j,none⟩=some u:=fun j u h1 h=>(Zo _ _ _ _ (fun e=>by injection e with _ e;omega)).trans h
 have c0:=co 0 (Z Y f.kind) (by omega) (by simp [World.cell?,BF.out])
 have c1:=co 1 (Z Y f.round) (by omega) (by simp [World.cell?,BF.out])
 have c2:=co 2 (Z Y f.slot) (by omega) (by simp [World.cell?,BF.out])
 have c3:=co 3 (Z Y f.pk) (by omega) (by simp [World.cell?,BF.out])
 have c4:=co 4 (Z Y f.pv) (by omega) (by simp [World.cell?,BF.out])
 have HI5:=O hI5
 have HB6:=O hB5
 clear hI5 hB5 co k5 y5 i0 i1 B0 BF HI6 HB5 K5
 generalize w5.setCell ⟨w3.heap.size,5,none⟩ (.slice (some ⟨g,0,none⟩) f.echo.length f.echo.length)=w6 at *
 have a0:w6.cell? ⟨w.heap.size,0,none⟩=some (Z Y N):=by simp [World.cell?,b05]
 have a1:w6.cell? ⟨w.heap.size,1,none⟩=some (Z Y Pi):=by simp [World.cell?,b05]
 have a2:w6.cell? ⟨w.heap.size,2,none⟩=some (Z Y Er):=by simp [World.cell?,b05]
 have a3:w6.cell? ⟨w.heap.size,3,none⟩=some (Z Y G):=by simp [World.cell?,b05]
 have a4:w6.cell? ⟨w.heap.size,4,none⟩=some (Z Y Fi):=by simp [World.cell?,b05]
 have a5:w6.cell? ⟨w.heap.size,5,none⟩=some (.slice PA PL PC):=by simp [World.cell?,b05]
 clear b05
 go_wp2_with fail
 refine(HX.out _ _ _ HI5.out).mono ?_
 rintro e w7 ⟨rfl,hb7⟩
 have HB7:=O (HB6.out.trans (hb7.mono HB6.out.size))
 clear hb7
 go_wp2
 go_ret
 exact⟨rfl,HB7.out⟩
theorem extract_take (s:ByteArray) (k:Nat):s.extract 0 k=⟨(s.data.toList.take k).toArray⟩:=by
 apply ByteArray.ext
 apply Array.toList_inj.mp
 simp
theorem done_strm {N PL wire slot:Nat} {how n:Int} {t s:ByteArray} (hN:N≤12) (hP:PL≤3) (hw:wire≤65535) (hsl:slot < N+PL) (hs:Strm s) (ht:t.size≤4000):Strm (doneF N PL wire slot how n t s):=by
 have txt:∀ f,ToldOk N PL f→Strm (textB f):=fun f hf=>by
  refine wrap_strm (body_all f) ?_
  unfold bodyL
  rw [List.length_append,headL_length,echoL_length,hf.len]
  split <;> omega
 have hp:=pickI_le (n:=n) (many:=256) (by omega)
 unfold doneF
 split
 ·exact hs
 ·split
  ·rw [extract_take];exact strm_take hs _
  ·split
   ·exact cleanF_strm ht
   ·split
    ·split
     ·exact cleanF_strm hs.1
     ·exact cleanF_strm (by rw [turnF_size];exact hs.1)
    ·split
     ·exact txt _ ((told_ok s hw hsl).pay5 (by omega))
     ·split
      ·exact txt _ ((told_ok s hw hsl).echo6 (by omega))
      ·exact Strm.empty
theorem done_any (N:Nat) (Pi Er G Fi:Int) (PA:Option Addr) (PL PC slot:Nat) (round how n:Int) (t s:ByteArray) (w:Zw) (wire:Nat) (hs:Strm s) (ht:t.size≤4000) (hN:N≤12) (hP:PL≤3) (hw:wire≤65535) (hsl:slot < N+PL)
 (HWi:Hid (∀ w,Zc Zp 96 #[.agg #[Z Y N,Z Y Pi,Z Y Er,Z Y G,Z Y Fi,.slice PA PL PC],Z Y round] w fun e w'=>e=.returned (Z Y wire)∧Zb w.heap.size w w')):Zc Zp 191 #[.agg #[Z Y N,Z Y Pi,Z Y Er,Z Y G,Z Y Fi,.slice PA PL PC],.agg #[Z Y how,Z Y n,.string t],Z Y round,Z Y slot,.string s] w fun e w'=>e=.returned (.string (doneF N PL wire slot how n t s))∧Zb w.heap.size w w':=by
 have HV:Hid (∀ w,Zc Zp 146 #[Z Y n,Z Y 256] w fun e w'=>e=.returned (Z Y (pickI n 256))∧w=w'):=fun w=>fault_pick n 256 w (by decide)
 have hk:=pickI_le (n:=how) (many:=7) (by omega)
 have hv:=pickI_le (n:=n) (many:=256) (by omega)
 have HK:∀ k:Int,pickI how 7=k→Hid (∀ w,Zc Zp 146 #[Z Y how,Z Y 7] w fun e w'=>e=.returned (Z Y k)∧w=w'):=fun k e w=>by rw [← e];exact fault_pick how 7 w (by decide)
 have hT:=fun w=>told_any N Pi Er G Fi PA PL PC wire slot round s w hs hN hP HWi
 have ok:=told_ok (N:=N) (PL:=PL) (wire:=wire) (slot:=slot) s hw hsl
 have hv':((pickI n 256).toNat:Int)=pickI n 256:=by omega
 unfold doneF
 have hc:pickI how 7=0∨pickI how 7=1∨pickI how 7=2∨pickI how 7=3∨pickI how 7=4∨pickI how 7=5∨pickI how 7=6:=by omega
 rcases hc with e | e | e | e | e | e | e
 ·rw [e,if_neg (by decide),if_neg (by decide),if_neg (by decide),if_neg (by decide),if_neg (by decide),if_neg (by decide)]
  exact done0 N Pi Er G Fi PA PL PC slot round how n t s w _ HV (HK 0 e)
 ·rw [e,if_pos rfl]
  exact done1 N Pi Er G Fi PA PL PC slot round how n t s w _ HV (HK 1 e)
 ·rw [e,if_neg (by decide),if_pos rfl]
  have hq:=pickI_le (n:=n) (many:=s.size+1) (by omega)
  have:=hs.1
  refine done2 N Pi Er G Fi PA PL PC slot round how n t s w _ (pickI n (s.size+1)).toNat HV (HK 2 e) (by omega) hs.1 (O (fun w=>?_))
  have e2:((pickI n (s.size+1)).toNat:Int)=pickI n (s.size+1):=by omega
  rw [e2]
  exact fault_pick n _ w (by omega)
 ·rw [e,if_neg (by decide),if_neg (by decide),if_pos rfl]
  exact done3 N Pi Er G Fi PA PL PC slot round how n t s w _ HV (HK 3 e) ht
 ·rw [e,if_neg (by decide),if_neg (by decide),if_neg (by decide),if_pos rfl]
  have:=hs.1
  by_cases h0:s.size=0
  ·rw [if_pos h0]
   refine done4 N Pi Er G Fi PA PL PC slot round how n t s w _ (-1) s HV (HK 4 e) hs.1 (O (fun w=>?_)) (O (fun w=>Turn_out s (-1) w (by decide)))
   have:=fault_pick n s.size w (by omega)
   rw [h0]at this ⊢
   exact this
  ·rw [if_neg h0]
   have hq:=pickI_le (n:=n) (many:=s.size) (by omega)
   refine done4 N Pi Er G Fi PA PL PC slot round how n t s w _ (pickI n s.size).toNat _ HV (HK 4 e) (by rw [turnF_size];exact hs.1) (O (fun w=>?_)) (O (fun w=>Turn_in s _ w hs (by omega)))
   have e2:((pickI n s.size).toNat:Int)=pickI n s.size:=by omega
   rw [e2]
   exact fault_pick n _ w (by omega)
 ·rw [e,if_neg (by decide),if_neg (by decide),if_neg (by decide),if_neg (by decide),if_pos rfl]
  rw [← hv']at HV
  exact done5 N Pi Er G Fi PA PL PC slot round how n t s w _ _ HV (HK 5 e) (by omega) ok hN hP (O hT)
 ·rw [e,if_neg (by decide),if_neg (by decide),if_neg (by decide),if_neg (by decide),if_neg (by decide),if_pos rfl]
  rw [← hv']at HV
  exact done6 N Pi Er G Fi PA PL PC slot round how n t s w _ _ HV (HK 6 e) (by omega) ok hN hP (O hT) _ rfl
end D17
namespace D18
open Go.RowKit A1 A4 A5 D10
theorem of_node (N Pi Er G Fi:Int) (PA:Option Addr) (PL PC:Nat) (At From To:Int) (CA:Option Addr) (CL CC:Nat) (VA:Option Addr) (VL VC:Nat) (w:Zw) :
 Zc Zp 144 #[.agg #[Z Y N,Z Y Pi,Z Y Er,Z Y G,Z Y Fi,.slice PA PL PC],.agg #[Z Y 1,Z Y At,Z Y From,Z Y To,.slice CA CL CC,.slice VA VL VC]] w fun e w'=>e=.returned (.iface 227 (.agg #[Z Y At]))∧Zb w.heap.size w w':=by
 go_enter Tryz.func144,Tryz.ntmps144
 go_wp2
 go_ret
 exact⟨rfl,by repeat(first | exact Zf _ _ | refine Below.alloc ?_ (by simp;try omega) _)⟩
theorem ta_node (a:Int) (w:Zw):(Instr.typeAssert (.iface 227 (.agg #[Z Y a])) 230 227 true).run Zp w=.ok (.tuple #[.agg #[Z Y a],.bool true]) w:=by kernel_rfl
theorem nil_node (a : Int) (w : World) : (nilAhead 454 227 (.agg #[.int .i64 a]) "plaiting/fault.hits").run Tryz.prog w = .ok (some false) w := by kernel_rfl
theorem m_node (a : Int) (w : World) : (method 454 227 (.agg #[.int .i64 a]) "plaiting/fault.hits").run Tryz.prog w = .ok (263, .agg #[.int .i64 a]) w := by kernel_rfl
theorem Hits_node (N Pi Er G Fi:Int) (PA:Option Addr) (PL PC:Nat) (At From To:Int) (CA:Option Addr) (CL CC:Nat) (VA:Option Addr) (VL VC:Nat) (a b:Int) (w:Zw) :
 Zc Zp 190 #[.agg #[Z Y N,Z Y Pi,Z Y Er,Z Y G,Z Y Fi,.slice PA PL PC],.agg #[Z Y 1,Z Y At,Z Y From,Z Y To,.slice CA CL CC,.slice VA VL VC],Z Y a,Z Y b] w fun e w'=>e=.returned (.bool (a == At))∧Zb w.heap.size w w':=by
 have hn1:=nil_node At
 have hm1:=m_node At
 go_enter Tryz.func190,Tryz.ntmps190
 go_wp2_with (first | (go_at_call 144;refine(of_node _ _ _ _ _ _ _ _ _ _ _ _ _ _ _ _ _ _).mono ?_;rintro e w' ⟨rfl,hb'⟩;obtain⟨hc',hf'⟩:=bcell hb') | (go_at_call 263;refine(node_hits _ _ _ _).mono ?_;rintro e w2 ⟨rfl,hb2'⟩;obtain⟨hc2',hf2'⟩:=bcell hb2'))
 go_ret
 exact⟨rfl,((((Zf _ _).alloc (Zr _) _).alloc (by simp) _).trans (hb'.mono (by simp;omega))).trans (hb2'.mono (by have:=hb'.size;simp at this;omega))⟩
structure DevB (w w2:Zw) (N Pi Er G Fi:Int) (PA:Option Addr) (PL PC:Nat) (At From To:Int) (CA:Option Addr) (CL CC:Nat) (VA:Option Addr) (VL VC:Nat):Prop where
 b0:w2.heap[w.heap.size]?=some (.cells #[Z Y N,Z Y Pi,Z Y Er,Z Y G,Z Y Fi,.slice PA PL PC] 24 (0,0))
 b1:w2.heap[w.heap.size+1]?=some (.cells #[Z Y 1,Z Y At,Z Y From,Z Y To,.slice CA CL CC,.slice VA VL VC] 27 (0,0))
 hb:Zb w.heap.size w w2
theorem devB (N Pi Er G Fi:Int) (PA:Option Addr) (PL PC:Nat) (At From To:Int) (CA:Option Addr) (CL CC:Nat) (VA:Option Addr) (VL VC:Nat) {w w1 w2:Zw} {o:Obj}
 (h1:Zb ((w.alloc (.cells #[Z Y N,Z Y Pi,Z Y Er,Z Y G,Z Y Fi,.slice PA PL PC] 24)).alloc (.cells #[Z Y 1,Z Y At,Z Y From,Z Y To,.slice CA CL CC,.slice VA VL VC] 27)).heap.size ((w.alloc (.cells #[Z Y N,Z Y Pi,Z Y Er,Z Y G,Z Y Fi,.slice PA PL PC] 24)).alloc (.cells #[Z Y 1,Z Y At,Z Y From,Z Y To,.slice CA CL CC,.slice VA VL VC] 27)) w1)
 (h2:Zb (w1.alloc o).heap.size (w1.alloc o) w2):DevB w w2 N Pi Er G Fi PA PL PC At From To CA CL CC VA VL VC:=by
 have z1:=h1.size
 simp at z1
 have k:∀ j,j < w1.heap.size→w2.heap[j]?=w1.heap[j]?:=fun j hj=>(h2.block _ (by simp;omega)).trans (Below.heap_alloc _ _ _ hj)
 refine⟨(k _ (by omega)).trans ((h1.block _ (by simp;omega)).trans ((Below.heap_alloc _ _ _ (by simp)).trans (Zh w _))),(k _ (by omega)).trans ((h1.block _ (by simp)).trans ?_),?_⟩
 ·have:=Zh (w.alloc (.cells #[Z Y N,Z Y Pi,Z Y Er,Z Y G,Z Y Fi,.slice PA PL PC] 24)) (.cells #[Z Y 1,Z Y At,Z Y From,Z Y To,.slice CA CL CC,.slice VA VL VC] 27)
  simpa using this
 ·exact((show Zb w.heap.size w _ from bB).trans (h1.mono (by simp;omega))).trans ((show Zb w.heap.size w1 _ from(Zf _ _).alloc (by omega) _).trans (h2.mono (by simp;omega)))
theorem Dev_other (N Pi Er G Fi:Int) (PA:Option Addr) (PL PC:Nat) (At From To:Int) (CA:Option Addr) (CL CC:Nat) (VA:Option Addr) (vs:List Int) (VC:Nat) (round owner i:Nat) (dev:Int) (w:Zw) (h:((owner:Int) == At)=false):Zc Zp 104 #[.agg #[Z Y N,Z Y Pi,Z Y Er,Z Y G,Z Y Fi,.slice PA PL PC],.agg #[Z Y 1,Z Y At,Z Y From,Z Y To,.slice CA CL CC,.slice VA vs.length VC],Z Y round,Z Y owner,Z Y i,Z Y dev] w fun e w'=>e=.returned (Z Y dev)∧Zb w.heap.size w w':=by
 have t1:=ta_node At
 go_enter Tryz.func104,Tryz.ntmps104
 go_wp2_with fail
 refine(of_node _ _ _ _ _ _ _ _ _ _ _ _ _ _ _ _ _ _).mono ?_
 rintro e w1 ⟨rfl,hb1⟩
 go_wp2_with fail
 refine(node_wrong _ _ _).mono ?_
 rintro e w2 ⟨rfl,hb2⟩
 have HD:=O (devB N Pi Er G Fi PA PL PC At From To CA CL CC VA vs.length VC hb1 hb2)
 go_wp2
 go_ret
 exact⟨rfl,HD.out.hb⟩
theorem Dev_early (N Pi Er G Fi:Int) (PA:Option Addr) (PL PC:Nat) (At From To:Int) (CA:Option Addr) (CL CC:Nat) (VA:Option Addr) (vs:List Int) (VC:Nat) (round owner i:Nat) (dev:Int) (w:Zw) (h:((owner:Int) == At)=true) (h2:decide ((round:Int) < From)=true):Zc Zp 104 #[.agg #[Z Y N,Z Y Pi,Z Y Er,Z Y G,Z Y Fi,.slice PA PL PC],.agg #[Z Y 1,Z Y At,Z Y From,Z Y To,.slice CA CL CC,.slice VA vs.length VC],Z Y round,Z Y owner,Z Y i,Z Y dev] w fun e w'=>e=.returned (Z Y dev)∧Zb w.heap.size w w':=by
 have t1:=ta_node At
 go_enter Tryz.func104,Tryz.ntmps104
 go_wp2_with fail
 refine(of_node _ _ _ _ _ _ _ _ _ _ _ _ _ _ _ _ _ _).mono ?_
 rintro e w1 ⟨rfl,hb1⟩
 go_wp2_with fail
 refine(node_wrong _ _ _).mono ?_
 rintro e w2 ⟨rfl,hb2⟩
 have hd:=devB N Pi Er G Fi PA PL PC At From To CA CL CC VA vs.length VC hb1 hb2
 have c2:w2.cell? ⟨w.heap.size+1,2,none⟩=some (Z Y From):=by simp [World.cell?,hd.b1]
 have HD:=O hd
 clear hd
 go_wp2
 go_ret
 exact⟨rfl,HD.out.hb⟩
theorem Dev_late (N Pi Er G Fi:Int) (PA:Option Addr) (PL PC:Nat) (At From To:Int) (CA:Option Addr) (CL CC:Nat) (VA:Option Addr) (vs:List Int) (VC:Nat) (round owner i:Nat) (dev:Int) (w:Zw) (h:((owner:Int) == At)=true) (h2:decide ((round:Int) < From)=false) (h3:decide ((round:Int)≥To)=true):Zc Zp 104 #[.agg #[Z Y N,Z Y Pi,Z Y Er,Z Y G,Z Y Fi,.slice PA PL PC],.agg #[Z Y 1,Z Y At,Z Y From,Z Y To,.slice CA CL CC,.slice VA vs.length VC],Z Y round,Z Y owner,Z Y i,Z Y dev] w fun e w'=>e=.returned (Z Y dev)∧Zb w.heap.size w w':=by
 have t1:=ta_node At
 go_enter Tryz.func104,Tryz.ntmps104
 go_wp2_with fail
 refine(of_node _ _ _ _ _ _ _ _ _ _ _ _ _ _ _ _ _ _).mono ?_
 rintro e w1 ⟨rfl,hb1⟩
 go_wp2_with fail
 refine(node_wrong _ _ _).mono ?_
 rintro e w2 ⟨rfl,hb2⟩
 have hd:=devB N Pi Er G Fi PA PL PC At From To CA CL CC VA vs.length VC hb1 hb2
 have c2:w2.cell? ⟨w.heap.size+1,2,none⟩=some (Z Y From):=by simp [World.cell?,hd.b1]
 have c3:w2.cell? ⟨w.heap.size+1,3,none⟩=some (Z Y To):=by simp [World.cell?,hd.b1]
 have HD:=O hd
 clear hd
 go_wp2
 go_ret
 exact⟨rfl,HD.out.hb⟩
theorem Dev_none0 (N Pi Er G Fi:Int) (PA:Option Addr) (PL PC:Nat) (At From To:Int) (CA:Option Addr) (CL CC:Nat) (VA:Option Addr) (vs:List Int) (VC:Nat) (round owner i:Nat) (dev:Int) (w:Zw) (h:((owner:Int) == At)=true) (h2:decide ((round:Int) < From)=false) (h3:decide ((round:Int)≥To)=false) (hr:round≤1000) (hi:i≤100) (h0:vs.length=0):Zc Zp 104 #[.agg #[Z Y N,Z Y Pi,Z Y Er,Z Y G,Z Y Fi,.slice PA PL PC],.agg #[Z Y 1,Z Y At,Z Y From,Z Y To,.slice CA CL CC,.slice VA vs.length VC],Z Y round,Z Y owner,Z Y i,Z Y dev] w fun e w'=>e=.returned (Z Y 0)∧Zb w.heap.size w w':=by
 have t1:=ta_node At
 have q1:IntKind.i64.wrap (13*(round:Int))=13*(round:Int):=by rw [IntKind.wrap_i64];omega
 have q2:IntKind.i64.wrap (13*(round:Int)+(i:Int))=13*(round:Int)+(i:Int):=by rw [IntKind.wrap_i64];omega
 have HP:Hid (∀ w,Zc Zp 146 #[Z Y (13*(round:Int)+(i:Int)),Z Y (0:Nat)] w fun e w'=>e=.returned (Z Y (-1))∧w=w'):=fun w=>fault_pick _ _ w (by omega)
 rw [h0]
 go_enter Tryz.func104,Tryz.ntmps104
 go_wp2_with fail
 refine(of_node _ _ _ _ _ _ _ _ _ _ _ _ _ _ _ _ _ _).mono ?_
 rintro e w1 ⟨rfl,hb1⟩
 go_wp2_with fail
 refine(node_wrong _ _ _).mono ?_
 rintro e w2 ⟨rfl,hb2⟩
 have hd:=devB N Pi Er G Fi PA PL PC At From To CA CL CC VA 0 VC hb1 hb2
 have c2:w2.cell? ⟨w.heap.size+1,2,none⟩=some (Z Y From):=by simp [World.cell?,hd.b1]
 have c3:w2.cell? ⟨w.heap.size+1,3,none⟩=some (Z Y To):=by simp [World.cell?,hd.b1]
 have c5:w2.cell? ⟨w.heap.size+1,5,none⟩=some (.slice VA 0 VC):=by simp [World.cell?,hd.b1]
 have HD:=O hd
 clear hd
 go_wp2_with fail
 refine(HP.out _).mono ?_
 rintro e w3 ⟨rfl,rfl⟩
 go_wp2
 go_ret
 exact⟨rfl,HD.out.hb⟩
theorem Dev_some (N Pi Er G Fi:Int) (PA:Option Addr) (PL PC:Nat) (At From To:Int) (CA:Option Addr) (CL CC:Nat) (VA:Option Addr) (vs:List Int) (VC:Nat) (round owner i:Nat) (dev:Int) (w:Zw) (h:((owner:Int) == At)=true) (h2:decide ((round:Int) < From)=false) (h3:decide ((round:Int)≥To)=false) (hr:round≤1000) (hi:i≤100) (h0:0 < vs.length) (hl:vs.length≤1000) (hV:Ints w VA vs) (hP0:0≤Pi) (hP1:Pi≤10000) :
 Zc Zp 104 #[.agg #[Z Y N,Z Y Pi,Z Y Er,Z Y G,Z Y Fi,.slice PA PL PC],.agg #[Z Y 1,Z Y At,Z Y From,Z Y To,.slice CA CL CC,.slice VA vs.length VC],Z Y round,Z Y owner,Z Y i,Z Y dev] w fun e w'=>e=.returned (Z Y (min (max (vs.getD ((13*round+i)%vs.length) 0) (-(6*Pi))) (6*Pi)))∧Zb w.heap.size w w':=by
 have t1:=ta_node At
 have q1:IntKind.i64.wrap (13*(round:Int))=13*(round:Int):=by rw [IntKind.wrap_i64];omega
 have q2:IntKind.i64.wrap (13*(round:Int)+(i:Int))=13*(round:Int)+(i:Int):=by rw [IntKind.wrap_i64];omega
 have hkl:(13*round+i)%vs.length < vs.length:=Nat.mod_lt _ h0
 have HP:Hid (∀ w,Zc Zp 146 #[Z Y (13*(round:Int)+(i:Int)),Z Y vs.length] w fun e w'=>e=.returned (Z Y ((13*round+i)%vs.length:Nat))∧w=w'):=fun w=>by
  have:=fault_pick (13*(round:Int)+(i:Int)) vs.length w (by omega)
  have e:pickI (13*(round:Int)+(i:Int)) vs.length=((13*round+i)%vs.length:Nat):=by unfold pickI;rw [if_neg (by omega)];simp
  rwa [e]at this
 obtain⟨b,off,rfl,hbl,hc⟩:=hV _ hkl
 generalize (13*round+i)%vs.length=k at *
 generalize vs.getD k 0=v at *
 have HW:=O (fun w=>conf_Window N Pi Er G Fi PA PL PC w (by omega) (by omega))
 have n0:decide ((k:Int) < 0)=false:=by simp
 have k0:(0:Int)≤(k:Int):=by omega
 have k1:(k:Int) < (vs.length:Int):=by omega
 have q3:IntKind.i64.wrap (3*(2*Pi))=6*Pi:=by rw [IntKind.wrap_i64];omega
 have q4:IntKind.i64.wrap (-(6*Pi)) = -(6*Pi):=by rw [IntKind.wrap_i64];omega
 generalize vs.length=L at *
 go_enter Tryz.func104,Tryz.ntmps104
 go_wp2_with fail
 refine(of_node _ _ _ _ _ _ _ _ _ _ _ _ _ _ _ _ _ _).mono ?_
 rintro e w1 ⟨rfl,hb1⟩
 go_wp2_with fail
 refine(node_wrong _ _ _).mono ?_
 rintro e w2 ⟨rfl,hb2⟩
 have hd:=devB N Pi Er G Fi PA PL PC At From To CA CL CC (some ⟨b,off,none⟩) L VC hb1 hb2
 have c2:w2.cell? ⟨w.heap.size+1,2,none⟩=some (Z Y From):=by simp [World.cell?,hd.b1]
 have c3:w2.cell? ⟨w.heap.size+1,3,none⟩=some (Z Y To):=by simp [World.cell?,hd.b1]
 have c5:w2.cell? ⟨w.heap.size+1,5,none⟩=some (.slice (some ⟨b,off,none⟩) L VC):=by simp [World.cell?,hd.b1]
 have a0:w2.cell? ⟨w.heap.size,0,none⟩=some (Z Y N):=by simp [World.cell?,hd.b0]
 have a1:w2.cell? ⟨w.heap.size,1,none⟩=some (Z Y Pi):=by simp [World.cell?,hd.b0]
 have a2:w2.cell? ⟨w.heap.size,2,none⟩=some (Z Y Er):=by simp [World.cell?,hd.b0]
 have a3:w2.cell? ⟨w.heap.size,3,none⟩=some (Z Y G):=by simp [World.cell?,hd.b0]
 have a4:w2.cell? ⟨w.heap.size,4,none⟩=some (Z Y Fi):=by simp [World.cell?,hd.b0]
 have a5:w2.cell? ⟨w.heap.size,5,none⟩=some (.slice PA PL PC):=by simp [World.cell?,hd.b0]
 have cv:=(hd.hb.cell (p:=⟨b,off+k,none⟩) hbl).trans hc
 have bl2:=Nat.lt_of_lt_of_le hbl hd.hb.size
 have l1:w.heap.size+1 < w2.heap.size:=Zl w2 _ c2
 have HD:=O hd
 clear hd hb1 hb2 hc
 go_wp2_with fail
 refine(HP.out _).mono ?_
 rintro e w3 ⟨rfl,rfl⟩
 go_wp2_with fail
 refine(HW.out _).mono ?_
 rintro e w4 ⟨rfl,hb4⟩
 have d5:=(hb4.cell (p:=⟨w.heap.size+1,5,none⟩) l1).trans c5
 have dv:=(hb4.cell (p:=⟨b,off+k,none⟩) bl2).trans cv
 have HB4:=O (HD.out.hb.trans (hb4.mono HD.out.hb.size))
 clear hb4
 go_wp2
 all_goals
  go_ret
  refine⟨congrArg (fun z=>Ending.returned (Z Y z)) ?_,⟨HB4.out.os,HB4.out.tape,HB4.out.output,HB4.out.size,HB4.out.block⟩⟩
  omega
theorem Dev_node (N Pi Er G Fi:Int) (PA:Option Addr) (PL PC:Nat) (At From To:Int) (CA:Option Addr) (CL CC:Nat) (VA:Option Addr) (vs:List Int) (VC:Nat) (round owner i:Nat) (dev:Int) (w:Zw) (hP0:0≤Pi) (hP1:Pi≤10000) (hr:round≤1000) (hi:i≤100) (hl:vs.length≤1000) (hV:Ints w VA vs) :
 Zc Zp 104 #[.agg #[Z Y N,Z Y Pi,Z Y Er,Z Y G,Z Y Fi,.slice PA PL PC],.agg #[Z Y 1,Z Y At,Z Y From,Z Y To,.slice CA CL CC,.slice VA vs.length VC],Z Y round,Z Y owner,Z Y i,Z Y dev] w fun e w'=>e=.returned (Z Y (if(owner:Int)=At∧From≤(round:Int)∧(round:Int) < To then(if vs.length=0 then 0 else min (max (vs.getD ((13*round+i)%vs.length) 0) (-(6*Pi))) (6*Pi))else dev))∧Zb w.heap.size w w':=by
 by_cases h1:(owner:Int)=At
 ·by_cases h2:(round:Int) < From
  ·rw [if_neg (by omega)];exact Dev_early N Pi Er G Fi PA PL PC At From To CA CL CC VA vs VC round owner i dev w (by simpa using h1) (decide_eq_true h2)
  ·by_cases h3:To≤(round:Int)
   ·rw [if_neg (by omega)];exact Dev_late N Pi Er G Fi PA PL PC At From To CA CL CC VA vs VC round owner i dev w (by simpa using h1) (decide_eq_false h2) (decide_eq_true h3)
   ·rw [if_pos ⟨h1,by omega,by omega⟩]
    by_cases h0:vs.length=0
    ·rw [if_pos h0];exact Dev_none0 N Pi Er G Fi PA PL PC At From To CA CL CC VA vs VC round owner i dev w (by simpa using h1) (decide_eq_false h2) (decide_eq_false h3) hr hi h0
    ·rw [if_neg h0];exact Dev_some N Pi Er G Fi PA PL PC At From To CA CL CC VA vs VC round owner i dev w (by simpa using h1) (decide_eq_false h2) (decide_eq_false h3) hr hi (by omega) hl hV hP0 hP1
 ·rw [if_neg (fun h=>h1 h.1)];exact Dev_other N Pi Er G Fi PA PL PC At From To CA CL CC VA vs VC round owner i dev w (by simpa using h1)
end D18
namespace D19
open Go.RowKit A4 A5 A18 D10 D18
structure Ac where
 how:Int
 n:Int
 t:ByteArray
def Ac.no:Ac:=⟨0,0,⟨#[]⟩⟩
def Acs (w:Zw) (A:Option Addr) (l:List Ac):Prop:=∀ k,k < l.length→∃ b off,A=some ⟨b,off,none⟩∧b < w.heap.size∧w.cell? ⟨b,off+k*3,none⟩=some (Z Y (l.getD k Ac.no).how)∧w.cell? ⟨b,off+k*3+1,none⟩=some (Z Y (l.getD k Ac.no).n)∧w.cell? ⟨b,off+k*3+2,none⟩=some (.string (l.getD k Ac.no).t)
theorem Acs.below {w w1:Zw} {A:Option Addr} {l:List Ac} (h:Acs w A l) (hb:Zb w.heap.size w w1):Acs w1 A l:=fun k hk=>by
 obtain⟨b,off,e,h1,h2,h3,h4⟩:=h k hk
 exact⟨b,off,e,Nat.lt_of_lt_of_le h1 hb.size,(hb.cell (p:=⟨b,_,none⟩) h1).trans h2,(hb.cell (p:=⟨b,_,none⟩) h1).trans h3,(hb.cell (p:=⟨b,_,none⟩) h1).trans h4⟩
structure EmB (w w2:Zw) (N Pi Er G Fi:Int) (PA:Option Addr) (PL PC:Nat) (At From To:Int) (CA:Option Addr) (CL CC:Nat) (VA:Option Addr) (VL VC:Nat):Prop where
 b0:w2.heap[w.heap.size]?=some (.cells #[Z Y N,Z Y Pi,Z Y Er,Z Y G,Z Y Fi,.slice PA PL PC] 24 (0,0))
 b1:w2.heap[w.heap.size+1]?=some (.cells #[Z Y 1,Z Y At,Z Y From,Z Y To,.slice CA CL CC,.slice VA VL VC] 27 (0,0))
 hb:Zb w.heap.size w w2
theorem emB (N Pi Er G Fi:Int) (PA:Option Addr) (PL PC:Nat) (At From To:Int) (CA:Option Addr) (CL CC:Nat) (VA:Option Addr) (VL VC:Nat) {w w1 w1' w2:Zw}
 (h1:Zb ((w.alloc (.cells #[Z Y N,Z Y Pi,Z Y Er,Z Y G,Z Y Fi,.slice PA PL PC] 24)).alloc (.cells #[Z Y 1,Z Y At,Z Y From,Z Y To,.slice CA CL CC,.slice VA VL VC] 27)).heap.size ((w.alloc (.cells #[Z Y N,Z Y Pi,Z Y Er,Z Y G,Z Y Fi,.slice PA PL PC] 24)).alloc (.cells #[Z Y 1,Z Y At,Z Y From,Z Y To,.slice CA CL CC,.slice VA VL VC] 27)) w1)
 (h2:Zb w1.heap.size w1 w2):EmB w w2 N Pi Er G Fi PA PL PC At From To CA CL CC VA VL VC:=by
 have z1:=h1.size
 simp at z1
 have k:∀ j,j < w1.heap.size→w2.heap[j]?=w1.heap[j]?:=fun j hj=>h2.block _ hj
 refine⟨(k _ (by omega)).trans ((h1.block _ (by simp;omega)).trans ((Below.heap_alloc _ _ _ (by simp)).trans (Zh w _))),(k _ (by omega)).trans ((h1.block _ (by simp)).trans ?_),?_⟩
 ·have:=Zh (w.alloc (.cells #[Z Y N,Z Y Pi,Z Y Er,Z Y G,Z Y Fi,.slice PA PL PC] 24)) (.cells #[Z Y 1,Z Y At,Z Y From,Z Y To,.slice CA CL CC,.slice VA VL VC] 27)
  simpa using this
 ·exact((show Zb w.heap.size w _ from bB).trans (h1.mono (by simp;omega))).trans (h2.mono (by omega))
theorem Emit_other (N Pi Er G Fi:Int) (PA:Option Addr) (ps:List Int) (PC:Nat) (At From To:Int) (CA:Option Addr) (ac:List Ac) (CC:Nat) (VA:Option Addr) (VL VC:Nat) (round slot a b:Nat) (s:ByteArray) (w:Zw) (hc:CfOk N Pi Er G Fi ps) (hl:Ints w PA ps) (h:((a:Int) == At)=false):Zc Zp 173 #[.agg #[Z Y N,Z Y Pi,Z Y Er,Z Y G,Z Y Fi,.slice PA ps.length PC],.agg #[Z Y 1,Z Y At,Z Y From,Z Y To,.slice CA ac.length CC,.slice VA VL VC],Z Y round,Z Y slot,Z Y a,Z Y b,.string s] w fun e w'=>e=.returned (.string s)∧Zb w.heap.size w w':=by
 have HL:=O hl
 clear hl
 go_enter Tryz.func173,Tryz.ntmps173
 go_wp2_with fail
 refine(conf_Check N Pi Er G Fi PA ps PC _ hc (by repeat(first | exact HL.out | refine Ints.drewN ?_ _ | refine Ints.drew ?_ | refine Ints.alloc ?_ _))).mono ?_
 rintro e w1 ⟨rfl,hb1⟩
 obtain⟨hc1,hf1⟩:=bcell hb1
 go_wp2_with fail
 refine(Hits_node _ _ _ _ _ _ _ _ _ _ _ _ _ _ _ _ _ _ _ _).mono ?_
 rintro e w2 ⟨rfl,hb2⟩
 clear hc1 hf1
 have HB:=O (emB N Pi Er G Fi PA ps.length PC At From To CA ac.length CC VA VL VC (w1':=w) hb1 hb2).hb
 clear hb1 hb2
 go_wp2
 go_ret
 exact⟨rfl,HB.out⟩
theorem Emit_late (N Pi Er G Fi:Int) (PA:Option Addr) (ps:List Int) (PC:Nat) (At From To:Int) (CA:Option Addr) (ac:List Ac) (CC:Nat) (VA:Option Addr) (VL VC:Nat) (round slot a b:Nat) (s:ByteArray) (w:Zw) (hc:CfOk N Pi Er G Fi ps) (hl:Ints w PA ps) (h:((a:Int) == At)=true) (h3:decide ((round:Int)≥To)=true):Zc Zp 173 #[.agg #[Z Y N,Z Y Pi,Z Y Er,Z Y G,Z Y Fi,.slice PA ps.length PC],.agg #[Z Y 1,Z Y At,Z Y From,Z Y To,.slice CA ac.length CC,.slice VA VL VC],Z Y round,Z Y slot,Z Y a,Z Y b,.string s] w fun e w'=>e=.returned (.string s)∧Zb w.heap.size w w':=by
 have HL:=O hl
 clear hl
 go_enter Tryz.func173,Tryz.ntmps173
 go_wp2_with fail
 refine(conf_Check N Pi Er G Fi PA ps PC _ hc (by repeat(first | exact HL.out | refine Ints.drewN ?_ _ | refine Ints.drew ?_ | refine Ints.alloc ?_ _))).mono ?_
 rintro e w1 ⟨rfl,hb1⟩
 obtain⟨hc1,hf1⟩:=bcell hb1
 go_wp2_with fail
 refine(Hits_node _ _ _ _ _ _ _ _ _ _ _ _ _ _ _ _ _ _ _ _).mono ?_
 rintro e w2 ⟨rfl,hb2⟩
 clear hc1 hf1
 have hd:=emB N Pi Er G Fi PA ps.length PC At From To CA ac.length CC VA VL VC (w1':=w) hb1 hb2
 have c3:w2.cell? ⟨w.heap.size+1,3,none⟩=some (Z Y To):=by simp [World.cell?,hd.b1]
 have HB:=O hd.hb
 clear hb1 hb2 hd
 go_wp2
 go_ret
 exact⟨rfl,HB.out⟩
theorem Emit_early (N Pi Er G Fi:Int) (PA:Option Addr) (ps:List Int) (PC:Nat) (At From To:Int) (CA:Option Addr) (ac:List Ac) (CC:Nat) (VA:Option Addr) (VL VC:Nat) (round slot a b:Nat) (s:ByteArray) (w:Zw) (hc:CfOk N Pi Er G Fi ps) (hl:Ints w PA ps) (h:((a:Int) == At)=true) (h3:decide ((round:Int)≥To)=false) (h2:decide ((round:Int) < From)=true):Zc Zp 173 #[.agg #[Z Y N,Z Y Pi,Z Y Er,Z Y G,Z Y Fi,.slice PA ps.length PC],.agg #[Z Y 1,Z Y At,Z Y From,Z Y To,.slice CA ac.length CC,.slice VA VL VC],Z Y round,Z Y slot,Z Y a,Z Y b,.string s] w fun e w'=>e=.returned (.string ⟨#[]⟩)∧Zb w.heap.size w w':=by
 have HL:=O hl
 clear hl
 go_enter Tryz.func173,Tryz.ntmps173
 go_wp2_with fail
 refine(conf_Check N Pi Er G Fi PA ps PC _ hc (by repeat(first | exact HL.out | refine Ints.drewN ?_ _ | refine Ints.drew ?_ | refine Ints.alloc ?_ _))).mono ?_
 rintro e w1 ⟨rfl,hb1⟩
 obtain⟨hc1,hf1⟩:=bcell hb1
 go_wp2_with fail
 refine(Hits_node _ _ _ _ _ _ _ _ _ _ _ _ _ _ _ _ _ _ _ _).mono ?_
 rintro e w2 ⟨rfl,hb2⟩
 clear hc1 hf1
 have hd:=emB N Pi Er G Fi PA ps.length PC At From To CA ac.length CC VA VL VC (w1':=w) hb1 hb2
 have c3:w2.cell? ⟨w.heap.size+1,3,none⟩=some (Z Y To):=by simp [World.cell?,hd.b1]
 have c2:w2.cell? ⟨w.heap.size+1,2,none⟩=some (Z Y From):=by simp [World.cell?,hd.b1]
 have HB:=O hd.hb
 clear hb1 hb2 hd
 go_wp2
 go_ret
 exact⟨rfl,HB.out⟩
theorem Emit_noact (N Pi Er G Fi:Int) (PA:Option Addr) (ps:List Int) (PC:Nat) (At From To:Int) (CA:Option Addr) (ac:List Ac) (CC:Nat) (VA:Option Addr) (VL VC:Nat) (round slot a b:Nat) (s:ByteArray) (w:Zw) (hc:CfOk N Pi Er G Fi ps) (hl:Ints w PA ps) (h:((a:Int) == At)=true) (h3:decide ((round:Int)≥To)=false) (h2:decide ((round:Int) < From)=false) (hr:round≤1000) (hs:slot≤100) (hb:b≤100) (h0:ac.length=0):Zc Zp 173 #[.agg #[Z Y N,Z Y Pi,Z Y Er,Z Y G,Z Y Fi,.slice PA ps.length PC],.agg #[Z Y 1,Z Y At,Z Y From,Z Y To,.slice CA ac.length CC,.slice VA VL VC],Z Y round,Z Y slot,Z Y a,Z Y b,.string s] w fun e w'=>e=.returned (.string ⟨#[]⟩)∧Zb w.heap.size w w':=by
 have HL:=O hl
 have q1:IntKind.i64.wrap (17*(round:Int))=17*(round:Int):=by rw [IntKind.wrap_i64];omega
 have q2:IntKind.i64.wrap (5*(slot:Int))=5*(slot:Int):=by rw [IntKind.wrap_i64];omega
 have q3:IntKind.i64.wrap (17*(round:Int)+5*(slot:Int))=17*(round:Int)+5*(slot:Int):=by rw [IntKind.wrap_i64];omega
 have q4:IntKind.i64.wrap (17*(round:Int)+5*(slot:Int)+(b:Int))=17*(round:Int)+5*(slot:Int)+(b:Int):=by rw [IntKind.wrap_i64];omega
 have HP:Hid (∀ w,Zc Zp 146 #[Z Y (17*(round:Int)+5*(slot:Int)+(b:Int)),Z Y (0:Nat)] w fun e w'=>e=.returned (Z Y (-1))∧w=w'):=fun w=>fault_pick _ _ w (by omega)
 clear hl
 rw [h0]
 go_enter Tryz.func173,Tryz.ntmps173
 go_wp2_with fail
 refine(conf_Check N Pi Er G Fi PA ps PC _ hc (by repeat(first | exact HL.out | refine Ints.drewN ?_ _ | refine Ints.drew ?_ | refine Ints.alloc ?_ _))).mono ?_
 rintro e w1 ⟨rfl,hb1⟩
 obtain⟨hc1,hf1⟩:=bcell hb1
 go_wp2_with fail
 refine(Hits_node _ _ _ _ _ _ _ _ _ _ _ _ _ _ _ _ _ _ _ _).mono ?_
 rintro e w2 ⟨rfl,hb2⟩
 clear hc1 hf1
 have hd:=emB N Pi Er G Fi PA ps.length PC At From To CA 0 CC VA VL VC (w1':=w) hb1 hb2
 have c3:w2.cell? ⟨w.heap.size+1,3,none⟩=some (Z Y To):=by simp [World.cell?,hd.b1]
 have c2:w2.cell? ⟨w.heap.size+1,2,none⟩=some (Z Y From):=by simp [World.cell?,hd.b1]
 have c4:w2.cell? ⟨w.heap.size+1,4,none⟩=some (.slice CA 0 CC):=by simp [World.cell?,hd.b1]
 have HB:=O hd.hb
 clear hb1 hb2 hd
 go_wp2_with fail
 refine(HP.out _).mono ?_
 rintro e w3 ⟨rfl,rfl⟩
 go_wp2
 go_ret
 exact⟨rfl,HB.out⟩
theorem Emit_act (N Pi Er G Fi:Int) (PA:Option Addr) (ps:List Int) (PC:Nat) (At From To:Int) (CA:Option Addr) (ac:List Ac) (CC:Nat) (VA:Option Addr) (VL VC:Nat) (round slot a b:Nat) (s:ByteArray) (w:Zw) (hc:CfOk N Pi Er G Fi ps) (hl:Ints w PA ps) (h:((a:Int) == At)=true) (h3:decide ((round:Int)≥To)=false) (h2:decide ((round:Int) < From)=false) (hr:round≤1000) (hs:slot≤100) (hb:b≤100) (h0:0 < ac.length) (hl4:ac.length≤40) (hA:Acs w CA ac) (u:ByteArray)
 (HD:∀ w,Zc Zp 191 #[.agg #[Z Y N,Z Y Pi,Z Y Er,Z Y G,Z Y Fi,.slice PA ps.length PC],.agg #[Z Y (ac.getD ((17*round+5*slot+b)%ac.length) Ac.no).how,Z Y (ac.getD ((17*round+5*slot+b)%ac.length) Ac.no).n,.string (ac.getD ((17*round+5*slot+b)%ac.length) Ac.no).t],Z Y round,Z Y slot,.string s] w fun e w'=>e=.returned (.string u)∧Zb w.heap.size w w') :
 Zc Zp 173 #[.agg #[Z Y N,Z Y Pi,Z Y Er,Z Y G,Z Y Fi,.slice PA ps.length PC],.agg #[Z Y 1,Z Y At,Z Y From,Z Y To,.slice CA ac.length CC,.slice VA VL VC],Z Y round,Z Y slot,Z Y a,Z Y b,.string s] w fun e w'=>e=.returned (.string u)∧Zb w.heap.size w w':=by
 have HL:=O hl
 have q1:IntKind.i64.wrap (17*(round:Int))=17*(round:Int):=by rw [IntKind.wrap_i64];omega
 have q2:IntKind.i64.wrap (5*(slot:Int))=5*(slot:Int):=by rw [IntKind.wrap_i64];omega
 have q3:IntKind.i64.wrap (17*(round:Int)+5*(slot:Int))=17*(round:Int)+5*(slot:Int):=by rw [IntKind.wrap_i64];omega
 have q4:IntKind.i64.wrap (17*(round:Int)+5*(slot:Int)+(b:Int))=17*(round:Int)+5*(slot:Int)+(b:Int):=by rw [IntKind.wrap_i64];omega
 have hkl:(17*round+5*slot+b)%ac.length < ac.length:=Nat.mod_lt _ h0
 have HP:Hid (∀ w,Zc Zp 146 #[Z Y (17*(round:Int)+5*(slot:Int)+(b:Int)),Z Y ac.length] w fun e w'=>e=.returned (Z Y ((17*round+5*slot+b)%ac.length:Nat))∧w=w'):=fun w=>by
  have:=fault_pick (17*(round:Int)+5*(slot:Int)+(b:Int)) ac.length w (by omega)
  have e:pickI (17*(round:Int)+5*(slot:Int)+(b:Int)) ac.length=((17*round+5*slot+b)%ac.length:Nat):=by unfold pickI;rw [if_neg (by omega)];simp
  rwa [e]at this
 obtain⟨ab,ao,rfl,abl,ac0,ac1,ac2⟩:=hA _ hkl
 have HDh:=O HD
 clear HD hA
 generalize (17*round+5*slot+b)%ac.length=k at *
 generalize ac.getD k Ac.no=act at *
 obtain⟨how,n,t⟩:=act
 dsimp only at ac0 ac1 ac2 HDh
 generalize ac.length=L at *
 have n0:decide ((k:Int) < 0)=false:=by simp
 have k0:(0:Int)≤(k:Int):=by omega
 have k1:(k:Int) < (L:Int):=by omega
 clear hl
 go_enter Tryz.func173,Tryz.ntmps173
 go_wp2_with fail
 refine(conf_Check N Pi Er G Fi PA ps PC _ hc (by repeat(first | exact HL.out | refine Ints.drewN ?_ _ | refine Ints.drew ?_ | refine Ints.alloc ?_ _))).mono ?_
 rintro e w1 ⟨rfl,hb1⟩
 obtain⟨hc1,hf1⟩:=bcell hb1
 go_wp2_with fail
 refine(Hits_node _ _ _ _ _ _ _ _ _ _ _ _ _ _ _ _ _ _ _ _).mono ?_
 rintro e w2 ⟨rfl,hb2⟩
 clear hc1 hf1
 have hd:=emB N Pi Er G Fi PA ps.length PC At From To (some ⟨ab,ao,none⟩) L CC VA VL VC (w1':=w) hb1 hb2
 have c3:w2.cell? ⟨w.heap.size+1,3,none⟩=some (Z Y To):=by simp [World.cell?,hd.b1]
 have c2:w2.cell? ⟨w.heap.size+1,2,none⟩=some (Z Y From):=by simp [World.cell?,hd.b1]
 have c4:w2.cell? ⟨w.heap.size+1,4,none⟩=some (.slice (some ⟨ab,ao,none⟩) L CC):=by simp [World.cell?,hd.b1]
 have a0:w2.cell? ⟨w.heap.size,0,none⟩=some (Z Y N):=by simp [World.cell?,hd.b0]
 have a1:w2.cell? ⟨w.heap.size,1,none⟩=some (Z Y Pi):=by simp [World.cell?,hd.b0]
 have a2:w2.cell? ⟨w.heap.size,2,none⟩=some (Z Y Er):=by simp [World.cell?,hd.b0]
 have a3:w2.cell? ⟨w.heap.size,3,none⟩=some (Z Y G):=by simp [World.cell?,hd.b0]
 have a4:w2.cell? ⟨w.heap.size,4,none⟩=some (Z Y Fi):=by simp [World.cell?,hd.b0]
 have a5:w2.cell? ⟨w.heap.size,5,none⟩=some (.slice PA ps.length PC):=by simp [World.cell?,hd.b0]
 have d0:=(hd.hb.cell (p:=⟨ab,ao+k*3,none⟩) abl).trans ac0
 have d1:=(hd.hb.cell (p:=⟨ab,ao+k*3+1,none⟩) abl).trans ac1
 have d2:=(hd.hb.cell (p:=⟨ab,ao+k*3+2,none⟩) abl).trans ac2
 have HB:=O hd.hb
 clear hb1 hb2 hd ac0 ac1 ac2
 go_wp2_with fail
 refine(HP.out _).mono ?_
 rintro e w3 ⟨rfl,rfl⟩
 go_wp2
 refine wp_region_held_drew (S:=fun w'=>w'.cell? ⟨w.heap.size,0,none⟩=some (Z Y N)∧w'.cell? ⟨w.heap.size,1,none⟩=some (Z Y Pi)∧w'.cell? ⟨w.heap.size,2,none⟩=some (Z Y Er)∧w'.cell? ⟨w.heap.size,3,none⟩=some (Z Y G)∧w'.cell? ⟨w.heap.size,4,none⟩=some (Z Y Fi)∧w'.cell? ⟨w.heap.size,5,none⟩=some (.slice PA ps.length PC)∧w'.cell? ⟨w.heap.size+1,4,none⟩=some (.slice (some ⟨ab,ao,none⟩) L CC)∧w'.cell? ⟨ab,ao+k*3,none⟩=some (Z Y how)∧w'.cell? ⟨ab,ao+k*3+1,none⟩=some (Z Y n)∧w'.cell? ⟨ab,ao+k*3+2,none⟩=some (.string t)) (by kernel_rfl) ⟨a0,a1,a2,a3,a4,a5,c4,d0,d1,d2⟩ (fun hHeld=>?_)
 refine rgT 0 ?_
 refine rgT 1 ?_
 refine rgT 2 ?_
 refine rgT 3 ?_
 refine rgT 4 ?_
 refine rgT 5 ?_
 refine rgT 6 ?_
 refine rgT 7 ?_
 refine rgT 8 ?_
 refine rgR 9 fun K hK=>?_
 go_simp
 refine(HDh.out _).mono ?_
 rintro e w4 ⟨rfl,hb4⟩
 go_simp
 have kp:∀ bl j v,w2.cell? ⟨bl,j,none⟩=some v→w4.cell? ⟨bl,j,none⟩=some v:=fun bl j v h=>keep_of (w:=w2.drew) h (Zl w2 _ h) hb4
 refine hK.out _ _ ⟨kp _ _ _ a0,kp _ _ _ a1,kp _ _ _ a2,kp _ _ _ a3,kp _ _ _ a4,kp _ _ _ a5,kp _ _ _ c4,kp _ _ _ d0,kp _ _ _ d1,kp _ _ _ d2⟩ (fun hHeld=>?_)
 clear hK K
 refine rgT 10 ?_
 refine wpAnyH_done (by kernel_rfl) ?_ _
 have HB4:=O (HB.out.trans ((show Zb w2.heap.size w2 w4 from⟨hb4.os,hb4.tape,hb4.output,hb4.size,hb4.block⟩).mono HB.out.size))
 clear hb4 kp
 go_wp2
 go_ret
 exact⟨rfl,⟨HB4.out.os,HB4.out.tape,HB4.out.output,HB4.out.size,HB4.out.block⟩⟩
end D19
namespace A41
open Go.RowKit A4 A18 A33 D18 D19
structure Cl where
 round:Nat
 node:Nat
 pair:Nat
 v:Nat
structure NC where
 N:Nat
 Pi:Int
 Er:Int
 G:Int
 Fi:Int
 ps:List Int
 PA:Option Addr
 PC:Nat
 on:List Int
 OA:Option Addr
 OC:Nat
 dr:List Int
 DA:Option Addr
 DC:Nat
 er:List Int
 EA:Option Addr
 EC:Nat
 cl:List Cl
 LA:Option Addr
 LC:Nat
 kind:Int
 fat:Int
 frm:Int
 till:Int
 CA:Option Addr
 ac:List Ac
 CC:Nat
 VA:Option Addr
 vs:List Int
 VC:Nat
 rounds:Int
abbrev NC.CL (c:NC):Nat:=c.ac.length
abbrev NC.VL (c:NC):Nat:=c.vs.length
def Cls (w:Zw) (A:Option Addr) (l:List Cl):Prop:=∀ k,k < l.length→∃ b off,A=some ⟨b,off,none⟩∧b < w.heap.size∧w.cell? ⟨b,off+k*4,none⟩=some (Z Y (l.getD k ⟨0,0,0,0⟩).round)∧w.cell? ⟨b,off+k*4+1,none⟩=some (Z Y (l.getD k ⟨0,0,0,0⟩).node)∧w.cell? ⟨b,off+k*4+2,none⟩=some (Z Y (l.getD k ⟨0,0,0,0⟩).pair)∧w.cell? ⟨b,off+k*4+3,none⟩=some (Z Y (l.getD k ⟨0,0,0,0⟩).v)
theorem Cls.below {w w1:Zw} {A:Option Addr} {l:List Cl} (h:Cls w A l) (hb:Zb w.heap.size w w1):Cls w1 A l:=fun k hk=>by
 obtain⟨b,off,e,h1,h2,h3,h4,h5⟩:=h k hk
 exact⟨b,off,e,Nat.lt_of_lt_of_le h1 hb.size,(hb.cell (p:=⟨b,_,none⟩) h1).trans h2,(hb.cell (p:=⟨b,_,none⟩) h1).trans h3,(hb.cell (p:=⟨b,_,none⟩) h1).trans h4,(hb.cell (p:=⟨b,_,none⟩) h1).trans h5⟩
structure NOk (c:NC):Prop where
 cf:CfOk c.N c.Pi c.Er c.G c.Fi c.ps
 on:c.on.length=c.N
 dr:c.dr.length≤60
 er:c.er.length≤60
 cl:c.cl.length≤100
 kind:c.kind=0∨c.kind=1
 fat0:0≤c.fat
 fat1:c.fat < c.N
 frm:0≤c.frm
 till:c.frm≤c.till
 till1:c.till≤1000
 ac:c.ac.length≤40
 act:∀ k,k < c.ac.length→(c.ac.getD k Ac.no).t.size≤1000
 vs:c.vs.length≤40
 rounds0:0≤c.rounds
 rounds1:c.rounds≤200
structure NbK (w:Zw) (NB:Nat) (c:NC):Prop where
 c0:w.cell? ⟨NB,0,none⟩=some (Z Y c.N)
 c1:w.cell? ⟨NB,1,none⟩=some (Z Y c.Pi)
 c2:w.cell? ⟨NB,2,none⟩=some (Z Y c.Er)
 c3:w.cell? ⟨NB,3,none⟩=some (Z Y c.G)
 c4:w.cell? ⟨NB,4,none⟩=some (Z Y c.Fi)
 c5:w.cell? ⟨NB,5,none⟩=some (.slice c.PA c.ps.length c.PC)
 c6:w.cell? ⟨NB,6,none⟩=some (.slice c.OA c.on.length c.OC)
 c7:w.cell? ⟨NB,7,none⟩=some (.slice c.DA c.dr.length c.DC)
 c8:w.cell? ⟨NB,8,none⟩=some (.slice c.EA c.er.length c.EC)
 c9:w.cell? ⟨NB,9,none⟩=some (.slice c.LA c.cl.length c.LC)
 c10:w.cell? ⟨NB,10,none⟩=some (Z Y c.kind)
 c11:w.cell? ⟨NB,11,none⟩=some (Z Y c.fat)
 c12:w.cell? ⟨NB,12,none⟩=some (Z Y c.frm)
 c13:w.cell? ⟨NB,13,none⟩=some (Z Y c.till)
 c14:w.cell? ⟨NB,14,none⟩=some (.slice c.CA c.CL c.CC)
 c15:w.cell? ⟨NB,15,none⟩=some (.slice c.VA c.VL c.VC)
 c16:w.cell? ⟨NB,16,none⟩=some (Z Y c.rounds)
structure LowK (w:Zw) (LO:Nat) (c:NC):Prop where
 le:LO≤w.heap.size
 ps:Ints w c.PA c.ps
 on:Ints w c.OA c.on
 dr:Ints w c.DA c.dr
 er:Ints w c.EA c.er
 cl:Cls w c.LA c.cl
 ac:Acs w c.CA c.ac
 vs:Ints w c.VA c.vs
 psl:∀ b off,c.PA=some ⟨b,off,none⟩→0 < c.ps.length→b < LO
 onl:∀ b off,c.OA=some ⟨b,off,none⟩→0 < c.on.length→b < LO
 drl:∀ b off,c.DA=some ⟨b,off,none⟩→0 < c.dr.length→b < LO
 erl:∀ b off,c.EA=some ⟨b,off,none⟩→0 < c.er.length→b < LO
 cll:∀ b off,c.LA=some ⟨b,off,none⟩→0 < c.cl.length→b < LO
 acl:∀ b off,c.CA=some ⟨b,off,none⟩→0 < c.ac.length→b < LO
 vsl:∀ b off,c.VA=some ⟨b,off,none⟩→0 < c.vs.length→b < LO
theorem ints_low {w w1:Zw} {A:Option Addr} {l:List Int} {LO:Nat} (h:Ints w A l) (hb:Zb LO w w1) (hl:∀ b off,A=some ⟨b,off,none⟩→0 < l.length→b < LO) (hs:LO≤w.heap.size):Ints w1 A l:=fun k hk=>by
 obtain⟨b,off,e,h1,h2⟩:=h k hk
 have:=hl b off e (by omega)
 have:=hb.size
 exact⟨b,off,e,by omega,(hb.cell (p:=⟨b,off+k,none⟩) (hl b off e (by omega))).trans h2⟩
theorem LowK.below {w w1:Zw} {LO:Nat} {c:NC} (h:LowK w LO c) (hb:Zb LO w w1):LowK w1 LO c:=by
 have hz:=hb.size
 have hle:=h.le
 refine⟨by omega,ints_low h.ps hb h.psl hle,ints_low h.on hb h.onl hle,ints_low h.dr hb h.drl hle,ints_low h.er hb h.erl hle,fun k hk=>?_,fun k hk=>?_,ints_low h.vs hb h.vsl hle,h.psl,h.onl,h.drl,h.erl,h.cll,h.acl,h.vsl⟩
 ·obtain⟨b,off,e,h1,h2,h3,h4,h5⟩:=h.cl k hk
  have hbl:=h.cll b off e (by omega)
  exact⟨b,off,e,by omega,(hb.cell (p:=⟨b,_,none⟩) hbl).trans h2,(hb.cell (p:=⟨b,_,none⟩) hbl).trans h3,(hb.cell (p:=⟨b,_,none⟩) hbl).trans h4,(hb.cell (p:=⟨b,_,none⟩) hbl).trans h5⟩
 ·obtain⟨b,off,e,h1,h2,h3,h4⟩:=h.ac k hk
  have hbl:=h.acl b off e (by omega)
  exact⟨b,off,e,by omega,(hb.cell (p:=⟨b,_,none⟩) hbl).trans h2,(hb.cell (p:=⟨b,_,none⟩) hbl).trans h3,(hb.cell (p:=⟨b,_,none⟩) hbl).trans h4⟩
theorem NbK.keep {w w1:Zw} {NB:Nat} {c:NC} (h:NbK w NB c) (k:w1.heap[NB]?=w.heap[NB]?):NbK w1 NB c:=by
 have f:∀ o,w1.cell? ⟨NB,o,none⟩=w.cell? ⟨NB,o,none⟩:=fun o=>World.cell?_of_block (a:=⟨NB,o,none⟩) k
 exact⟨(f 0).trans h.c0,(f 1).trans h.c1,(f 2).trans h.c2,(f 3).trans h.c3,(f 4).trans h.c4,(f 5).trans h.c5,(f 6).trans h.c6,(f 7).trans h.c7,(f 8).trans h.c8,(f 9).trans h.c9,(f 10).trans h.c10,(f 11).trans h.c11,(f 12).trans h.c12,(f 13).trans h.c13,(f 14).trans h.c14,(f 15).trans h.c15,(f 16).trans h.c16⟩
theorem NbK.set {w:Zw} {NB:Nat} {c:NC} (h:NbK w NB c) (o:Nat) (ho:17≤o) (v:Value):NbK (w.setCell ⟨NB,o,none⟩ v) NB c:=by
 have f:∀ j,j < 17→(w.setCell ⟨NB,o,none⟩ v).cell? ⟨NB,j,none⟩=w.cell? ⟨NB,j,none⟩:=fun j hj=>Zo _ _ _ _ (fun e=>by injection e with _ e;omega)
 exact⟨(f 0 (by omega)).trans h.c0,(f 1 (by omega)).trans h.c1,(f 2 (by omega)).trans h.c2,(f 3 (by omega)).trans h.c3,(f 4 (by omega)).trans h.c4,(f 5 (by omega)).trans h.c5,(f 6 (by omega)).trans h.c6,(f 7 (by omega)).trans h.c7,(f 8 (by omega)).trans h.c8,(f 9 (by omega)).trans h.c9,(f 10 (by omega)).trans h.c10,(f 11 (by omega)).trans h.c11,(f 12 (by omega)).trans h.c12,(f 13 (by omega)).trans h.c13,(f 14 (by omega)).trans h.c14,(f 15 (by omega)).trans h.c15,(f 16 (by omega)).trans h.c16⟩
theorem NbK.keep2 {w w1:Zw} {NB:Nat} {c:NC} (h:NbK w NB c) (hb:Zb w.heap.size w w1):NbK w1 NB c:=h.keep (hb.block NB (Zl w _ h.c0))
def locF (c:NC) (round owner i:Nat) (dev:Int):Int :=
 if c.kind=1∧(owner:Int)=c.fat∧c.frm≤(round:Int)∧(round:Int) < c.till then(if c.vs.length=0 then 0 else min (max (c.vs.getD ((13*round+i)%c.vs.length) 0) (-(6*c.Pi))) (6*c.Pi))else dev
theorem NOk.dev {c:NC} (h:NOk c) {round:Nat} (owner i:Nat) (dev:Int) (w:Zw) (hr:round≤1000) (hi:i < c.N) (hV:Ints w c.VA c.vs) :
 Zc Zp 104 #[.agg #[Z Y c.N,Z Y c.Pi,Z Y c.Er,Z Y c.G,Z Y c.Fi,.slice c.PA c.ps.length c.PC],.agg #[Z Y c.kind,Z Y c.fat,Z Y c.frm,Z Y c.till,.slice c.CA c.CL c.CC,.slice c.VA c.VL c.VC],Z Y round,Z Y owner,Z Y i,Z Y dev] w fun e w'=>e=.returned (Z Y (locF c round owner i dev))∧Zb w.heap.size w w':=by
 unfold locF
 rcases h.kind with e | e
 ·rw [e,if_neg (by omega)];exact Dev_none c.N c.Pi c.Er c.G c.Fi c.PA c.ps.length c.PC c.fat c.frm c.till c.CA c.CL c.CC c.VA c.VL c.VC round owner i dev w
 ·rw [e]
  refine(Dev_node c.N c.Pi c.Er c.G c.Fi c.PA c.ps.length c.PC c.fat c.frm c.till c.CA c.CL c.CC c.VA c.vs c.VC round owner i dev w (by have:=h.cf.p0;have:=h.cf.e0;have:=h.cf.g0;omega) (by have:=h.cf.p1;omega) hr (by have:=h.cf.n1;omega) (by have:=h.vs;omega) hV).mono fun e w' h'=>⟨h'.1.trans ?_,h'.2⟩
  simp only [true_and]
def devR (c:NC) (round:Nat) (ck:Nat→Int) (o i:Nat):Int:=ck o-ck i+pickN c.er (7*round+3*o+i) c.Er
def devF (c:NC) (round:Nat) (ck:Nat→Int) (o i:Nat):Int:=locF c round o i (devR c round ck o i)
theorem net_dev (c:NC) (NB LO ND:Nat) (round o i:Nat) (ck:Nat→Int) (w:Zw) (hc:NOk c) (hN:NbK w NB c) (hL:LowK w LO c)
 (hr:w.cell? ⟨NB,17,none⟩=some (Z Y round)) (hn:w.cell? ⟨NB,18,none⟩=some (.slice (some ⟨ND,0,none⟩) c.N c.N)) (hck:∀ i,i < c.N→w.cell? ⟨ND,i*7+3,none⟩=some (Z Y (ck i)))
 (hrb:round≤1000) (ho:o < c.N) (hi:i < c.N) (hb:∀ i,i < c.N → -1000000≤ck i∧ck i≤1000000) :
 Zc Zp 65 #[.pointer (some ⟨NB,0,none⟩),Z Y o,Z Y i] w fun e w'=>e=.returned (Z Y (devF c round ck o i))∧Zb w.heap.size w w':=by
 have n1:=hc.cf.n1
 have HP:=O (fun w' (hI:Ints w' c.EA c.er)=>net_pick c.EA c.er c.EC (7*round+3*o+i) c.Er w' hI (by have:=hc.er;omega) (by omega) hc.cf.e0 (by have:=hc.cf.e1;omega))
 have HI:=O hL.er
 have HD:=O (fun a w' (hV:Ints w' c.VA c.vs)=>hc.dev (round:=round) o i a w' hrb hi hV)
 have HV:=O (fun w' (hb:Zb w.heap.size w w')=>hL.vs.below hb)
 have c0:=hck o ho
 have c1:=hck i hi
 have b0:=hb o ho
 have b1:=hb i hi
 have pl:=pickN_le c.er (7*round+3*o+i) c.Er hc.cf.e0
 have pe:=hc.cf.e1
 unfold devF devR
 generalize pickN c.er (7*round+3*o+i) c.Er=pv at *
 generalize ck o=a at *
 generalize ck i=b at *
 obtain⟨k0,k1,k2,k3,k4,k5,k6,k7,k8,k9,k10,k11,k12,k13,k14,k15,k16⟩:=hN
 have i0:(o:Int) < (c.N:Int):=by omega
 have i1:(i:Int) < (c.N:Int):=by omega
 have e1:((7*round+3*o+i:Nat):Int)=7*(round:Int)+3*(o:Int)+(i:Int):=by omega
 rw [e1]at HP
 have wr:∀ x:Int,-4000000≤x→x≤4000000→IntKind.i64.wrap x=x:=fun x h1 h2=>by rw [IntKind.wrap_i64];omega
 have q1:=wr (7*(round:Int)) (by omega) (by omega)
 have q2:=wr (3*(o:Int)) (by omega) (by omega)
 have q3:=wr (7*(round:Int)+3*(o:Int)) (by omega) (by omega)
 have q4:=wr (7*(round:Int)+3*(o:Int)+(i:Int)) (by omega) (by omega)
 have q5:=wr (a-b) (by omega) (by omega)
 have q6:=wr (a-b+pv) (by omega) (by omega)
 clear hc hL hck hb e1 n1 wr
 go_enter Tryz.func65,Tryz.ntmps65
 go_wp2
 refine wp_region_held_drew (S:=fun w'=>w'.cell? ⟨NB,2,none⟩=some (Z Y c.Er)∧w'.cell? ⟨NB,8,none⟩=some (.slice c.EA c.er.length c.EC)∧w'.cell? ⟨NB,17,none⟩=some (Z Y round)∧w'.cell? ⟨NB,18,none⟩=some (.slice (some ⟨ND,0,none⟩) c.N c.N)∧w'.cell? ⟨ND,o*7+3,none⟩=some (Z Y a)∧w'.cell? ⟨ND,i*7+3,none⟩=some (Z Y b)) (by kernel_rfl) ⟨k2,k8,hr,hn,c0,c1⟩ (fun hHeld=>?_)
 refine rgT 0 ?_
 refine rgT 1 ?_
 refine rgT 2 ?_
 refine rgT 3 ?_
 refine rgT 4 ?_
 refine rgT 5 ?_
 refine rgT 6 ?_
 refine rgT 7 ?_
 refine rgT 8 ?_
 refine rgT 9 ?_
 refine rgT 10 ?_
 refine rgT 11 ?_
 refine rgT 12 ?_
 refine rgT 13 ?_
 refine rgT 14 ?_
 refine rgT 15 ?_
 refine rgT 16 ?_
 refine rgT 17 ?_
 refine rgT 18 ?_
 refine rgT 19 ?_
 refine rgT 20 ?_
 refine rgT 21 ?_
 refine rgT 22 ?_
 refine rgT 23 ?_
 refine rgT 24 ?_
 refine rgT 25 ?_
 refine rgT 26 ?_
 refine rgT 27 ?_
 refine rgT 28 ?_
 refine rgT 29 ?_
 refine rgT 30 ?_
 refine rgT 31 ?_
 refine rgT 32 ?_
 refine rgT 33 ?_
 refine rgT 34 ?_
 refine rgT 35 ?_
 refine rgT 36 ?_
 refine rgR 37 fun K hK=>?_
 go_simp
 refine(HP.out _ HI.out.drew).mono ?_
 rintro e w1 ⟨rfl,rfl⟩
 go_simp
 refine hK.out _ _ ⟨k2,k8,hr,hn,c0,c1⟩ (fun hHeld=>?_)
 clear hK K
 refine rgT 38 ?_
 refine rgT 39 ?_
 refine wpAnyH_done (by kernel_rfl) ?_ _
 go_wp2
 refine wp_region_held_drew (S:=fun w'=>w'.cell? ⟨NB,0,none⟩=some (Z Y c.N)∧w'.cell? ⟨NB,1,none⟩=some (Z Y c.Pi)∧w'.cell? ⟨NB,2,none⟩=some (Z Y c.Er)∧w'.cell? ⟨NB,3,none⟩=some (Z Y c.G)∧w'.cell? ⟨NB,4,none⟩=some (Z Y c.Fi)∧w'.cell? ⟨NB,5,none⟩=some (.slice c.PA c.ps.length c.PC)∧w'.cell? ⟨NB,10,none⟩=some (Z Y c.kind)∧w'.cell? ⟨NB,11,none⟩=some (Z Y c.fat)∧w'.cell? ⟨NB,12,none⟩=some (Z Y c.frm)∧w'.cell? ⟨NB,13,none⟩=some (Z Y c.till)∧w'.cell? ⟨NB,14,none⟩=some (.slice c.CA c.CL c.CC)∧w'.cell? ⟨NB,15,none⟩=some (.slice c.VA c.VL c.VC)∧w'.cell? ⟨NB,17,none⟩=some (Z Y round)) (by kernel_rfl) ⟨k0,k1,k2,k3,k4,k5,k10,k11,k12,k13,k14,k15,hr⟩ (fun hHeld=>?_)
 refine rgT 0 ?_
 refine rgT 1 ?_
 refine rgT 2 ?_
 refine rgT 3 ?_
 refine rgT 4 ?_
 refine rgT 5 ?_
 refine rgT 6 ?_
 refine rgT 7 ?_
 refine rgT 8 ?_
 refine rgT 9 ?_
 refine rgT 10 ?_
 refine rgT 11 ?_
 refine rgT 12 ?_
 refine rgT 13 ?_
 refine rgT 14 ?_
 refine rgT 15 ?_
 refine rgR 16 fun K hK=>?_
 go_simp
 refine(HD.out _ _ (HV.out _ bB)).mono ?_
 rintro e w1 ⟨rfl,hb1⟩
 go_simp
 have hs:∀ j v,w.cell? ⟨NB,j,none⟩=some v→w1.cell? ⟨NB,j,none⟩=some v:=fun j v h=>keep_of (w:=w.drew.drew) h (Zl w _ h) hb1
 refine hK.out _ _ ⟨hs _ _ k0,hs _ _ k1,hs _ _ k2,hs _ _ k3,hs _ _ k4,hs _ _ k5,hs _ _ k10,hs _ _ k11,hs _ _ k12,hs _ _ k13,hs _ _ k14,hs _ _ k15,hs _ _ hr⟩ (fun hHeld=>?_)
 clear hK K
 refine rgT 17 ?_
 refine wpAnyH_done (by kernel_rfl) ?_ _
 have HB:=O hb1
 clear hb1 hs
 go_wp2
 go_ret
 exact⟨rfl,⟨HB.out.os,HB.out.tape,HB.out.output,HB.out.size,HB.out.block⟩⟩
end A41
namespace A42
open Go.RowKit A9 A18 A41
theorem mk22 (n:Nat) (hn:n≤100) (w:Zw):(Instr.makeSlice 22 (Z Y (n:Int)) (Z Y (n:Int))).run Zp w=.ok (.slice (some ⟨w.heap.size,0,none⟩) n n) (w.alloc (.cells (madeCells #[Z Y 0] (n*1)) 3)):=by
 obtain⟨i,hi,hz,hs,hb⟩:=info_parts info3
 have:=run_make_n (P:=Zp) 22 3 i _ Tryz.underlying22 hi hz n hn (by omega) w
 rw [hs]at this
 exact this
def RetRow (n:Nat) (f:Nat→Int) (w:Zw) (e:Ending) (w':Zw):Prop:=∃ g,e=.returned (.slice (some ⟨g,0,none⟩) n n)∧w.heap.size≤g∧g < w'.heap.size∧(∀ i,i < n→w'.cell? ⟨g,i,none⟩=some (Z Y (f i)))∧Zb w.heap.size w w'
theorem run_state (BX NB ND n i:Nat) (st:Nat→Nat) (w:Zw) (hb:w.cell? ⟨BX,0,none⟩=some (.pointer (some ⟨NB,0,none⟩))) (hn:w.cell? ⟨NB,18,none⟩=some (.slice (some ⟨ND,0,none⟩) n n)) (hi:i < n) (hs:∀ i,i < n→w.cell? ⟨ND,i*7,none⟩=some (Z Y (st i))) :
 Zc Zp 62 #[Z Y i,.pointer (some ⟨BX,0,none⟩)] w fun e w'=>e=.returned (Z Y (st i))∧w=w':=by
 have h:=hs i hi
 have i0:(i:Int) < (n:Int):=by omega
 generalize st i=s at *
 clear hs
 go_enter Tryz.func62,Tryz.ntmps62
 go_wp2
 go_ret
 exact⟨rfl,rfl⟩
theorem run_dev (c:NC) (BX B2 NB LO ND:Nat) (round o i:Nat) (ck:Nat→Int) (w:Zw) (hc:NOk c) (hN:NbK w NB c) (hL:LowK w LO c)
 (hb:w.cell? ⟨BX,0,none⟩=some (.pointer (some ⟨NB,0,none⟩))) (hb2:w.cell? ⟨B2,0,none⟩=some (Z Y o))
 (hr:w.cell? ⟨NB,17,none⟩=some (Z Y round)) (hn:w.cell? ⟨NB,18,none⟩=some (.slice (some ⟨ND,0,none⟩) c.N c.N)) (hck:∀ i,i < c.N→w.cell? ⟨ND,i*7+3,none⟩=some (Z Y (ck i)))
 (hrb:round≤1000) (ho:o < c.N) (hi:i < c.N) (hbd:∀ i,i < c.N → -1000000≤ck i∧ck i≤1000000) :
 Zc Zp 64 #[Z Y i,.pointer (some ⟨BX,0,none⟩),.pointer (some ⟨B2,0,none⟩)] w fun e w'=>e=.returned (Z Y (devF c round ck o i))∧Zb w.heap.size w w':=by
 have HD:=O (net_dev c NB LO ND round o i ck w hc hN hL hr hn hck hrb ho hi hbd)
 clear hc hN hL hck hbd
 generalize devF c round ck o i=d at *
 go_enter Tryz.func64,Tryz.ntmps64
 go_wp2_with fail
 refine HD.out.mono ?_
 rintro e w1 ⟨rfl,hb1⟩
 go_wp2
 go_ret
 exact⟨rfl,hb1⟩
theorem each_state (NB ND n:Nat) (BX:Nat) (f:Nat→Int) (w:Zw) (hn7:n≤100) (hn:w.cell? ⟨NB,18,none⟩=some (.slice (some ⟨ND,0,none⟩) n n))
 (hf:∀ i w',i < n→Zb w.heap.size w w'→Zc Zp 62 #[Z Y (i:Nat),.pointer (some ⟨BX,0,none⟩)] w' fun e w''=>e=.returned (Z Y (f i))∧Zb w'.heap.size w' w'') :
 Zc Zp 61 #[.pointer (some ⟨NB,0,none⟩),.func (.func 62) #[] #[.pointer (some ⟨BX,0,none⟩)]] w (RetRow n f w):=by
 have HF:=O hf
 have hmk:=fun w=>mk22 n hn7 w
 have lNB:=Zl w _ hn
 clear hf
 unfold RetRow
 go_enter Tryz.func61,Tryz.ntmps61
 go_wp2
 have hb0:(w.alloc (.cells (madeCells #[Z Y 0] n) 3)).heap[w.heap.size]?=some (.cells (madeCells #[Z Y 0] n) 3 (0,0)):=Zh w _
 have HZ:=O hb0
 clear hb0
 go_loopw [15] (fun t wr=>∃ k:Nat,k≤n∧t=Z Y k∧Zb w.heap.size w wr∧w.heap.size < wr.heap.size∧(∀ j,wr.frozen? ⟨w.heap.size,j,none⟩=false)∧(∀ j,j < k→wr.cell? ⟨w.heap.size,j,none⟩=some (Z Y (f j)))∧∀ j,j < n→∃ u,wr.cell? ⟨w.heap.size,j,none⟩=some u) (fun t _=>n-(intOf t).toNat)
 case atStart =>
  refine⟨0,by omega,rfl,by first | exact bB | (simp;exact bB),by simp,fun j=>Lib.frozen_of_heap HZ.out j,fun j hj=>absurd hj (by omega),fun j hj=>⟨Z Y 0,?_⟩⟩
  rw [Lib.cell_of_heap HZ.out j,made_at _ _ _ (by omega)]
  simp [Nat.mod_one]
 case round =>
  obtain⟨k,hk,rfl,hbr,hlt0,hfr,hcs,hall⟩:=hrel
  by_cases hlt:k < n
  ·have lk:(k:Int) < (n:Int):=by omega
   obtain⟨u0,hu0⟩:=hall k hlt
   have HB:=O hbr
   have HFR:=O hfr
   have HCS:=O hcs
   have HALL:=O hall
   have HC:=O (HF.out k wr hlt hbr)
   have nv:=keep_of hn lNB hbr
   clear hbr hfr hcs hall
   go_wp2_with fail
   refine HC.out.mono ?_
   rintro e w1 ⟨rfl,hb1⟩
   have HB1:=O hb1
   have cu:w1.cell? ⟨w.heap.size,k,none⟩=some u0:=keep_of hu0 hlt0 hb1
   have cf:w1.frozen? ⟨w.heap.size,k,none⟩=false:=(hb1.frozen (p:=⟨w.heap.size,k,none⟩) hlt0).trans (HFR.out k)
   have hz1:=hb1.size
   clear hb1 hu0 nv
   go_wp2
   go_roundw
   case rel =>
    refine⟨k+1,by omega,by go_num,(HB.out.trans (HB1.out.mono HB.out.size)).setCell (Zr _) _,by simp [World.setCell];omega,fun j=>?_,fun j hj=>?_,fun j hj=>?_⟩
    ·rw [World.frozen?_setCell];exact(HB1.out.frozen (p:=⟨w.heap.size,j,none⟩) hlt0).trans (HFR.out j)
    ·by_cases e:j=k
     ·subst e;exact World.cell?_setCell_same _ _ _ cu
     ·rw [Zo _ _ _ _ (fun h=>by injection h with _ h;omega)]
      exact keep_of (HCS.out j (by omega)) hlt0 HB1.out
    ·by_cases e:j=k
     ·subst e;exact⟨_,World.cell?_setCell_same _ _ _ cu⟩
     ·obtain⟨u,hu⟩:=HALL.out j hj
      exact⟨u,by rw [Zo _ _ _ _ (fun h=>by injection h with _ h;omega)];exact keep_of hu hlt0 HB1.out⟩
   case measure=>simp [intOf];omega
  ·obtain rfl:k=n:=by omega
   have HCS:=O hcs
   have HB:=O hbr
   clear hcs hfr hall hbr
   go_wp2
   go_ret
   exact⟨_,rfl,Zr _,hlt0,HCS.out,HB.out⟩
theorem each_dev (NB ND n:Nat) (BX B2:Nat) (f:Nat→Int) (w:Zw) (hn7:n≤100) (hn:w.cell? ⟨NB,18,none⟩=some (.slice (some ⟨ND,0,none⟩) n n))
 (hf:∀ i w',i < n→Zb w.heap.size w w'→Zc Zp 64 #[Z Y (i:Nat),.pointer (some ⟨BX,0,none⟩),.pointer (some ⟨B2,0,none⟩)] w' fun e w''=>e=.returned (Z Y (f i))∧Zb w'.heap.size w' w'') :
 Zc Zp 61 #[.pointer (some ⟨NB,0,none⟩),.func (.func 64) #[] #[.pointer (some ⟨BX,0,none⟩),.pointer (some ⟨B2,0,none⟩)]] w (RetRow n f w):=by
 have HF:=O hf
 have hmk:=fun w=>mk22 n hn7 w
 have lNB:=Zl w _ hn
 clear hf
 unfold RetRow
 go_enter Tryz.func61,Tryz.ntmps61
 go_wp2
 have hb0:(w.alloc (.cells (madeCells #[Z Y 0] n) 3)).heap[w.heap.size]?=some (.cells (madeCells #[Z Y 0] n) 3 (0,0)):=Zh w _
 have HZ:=O hb0
 clear hb0
 go_loopw [15] (fun t wr=>∃ k:Nat,k≤n∧t=Z Y k∧Zb w.heap.size w wr∧w.heap.size < wr.heap.size∧(∀ j,wr.frozen? ⟨w.heap.size,j,none⟩=false)∧(∀ j,j < k→wr.cell? ⟨w.heap.size,j,none⟩=some (Z Y (f j)))∧∀ j,j < n→∃ u,wr.cell? ⟨w.heap.size,j,none⟩=some u) (fun t _=>n-(intOf t).toNat)
 case atStart =>
  refine⟨0,by omega,rfl,by first | exact bB | (simp;exact bB),by simp,fun j=>Lib.frozen_of_heap HZ.out j,fun j hj=>absurd hj (by omega),fun j hj=>⟨Z Y 0,?_⟩⟩
  rw [Lib.cell_of_heap HZ.out j,made_at _ _ _ (by omega)]
  simp [Nat.mod_one]
 case round =>
  obtain⟨k,hk,rfl,hbr,hlt0,hfr,hcs,hall⟩:=hrel
  by_cases hlt:k < n
  ·have lk:(k:Int) < (n:Int):=by omega
   obtain⟨u0,hu0⟩:=hall k hlt
   have HB:=O hbr
   have HFR:=O hfr
   have HCS:=O hcs
   have HALL:=O hall
   have HC:=O (HF.out k wr hlt hbr)
   have nv:=keep_of hn lNB hbr
   clear hbr hfr hcs hall
   go_wp2_with fail
   refine HC.out.mono ?_
   rintro e w1 ⟨rfl,hb1⟩
   have HB1:=O hb1
   have cu:w1.cell? ⟨w.heap.size,k,none⟩=some u0:=keep_of hu0 hlt0 hb1
   have cf:w1.frozen? ⟨w.heap.size,k,none⟩=false:=(hb1.frozen (p:=⟨w.heap.size,k,none⟩) hlt0).trans (HFR.out k)
   have hz1:=hb1.size
   clear hb1 hu0 nv
   go_wp2
   go_roundw
   case rel =>
    refine⟨k+1,by omega,by go_num,(HB.out.trans (HB1.out.mono HB.out.size)).setCell (Zr _) _,by simp [World.setCell];omega,fun j=>?_,fun j hj=>?_,fun j hj=>?_⟩
    ·rw [World.frozen?_setCell];exact(HB1.out.frozen (p:=⟨w.heap.size,j,none⟩) hlt0).trans (HFR.out j)
    ·by_cases e:j=k
     ·subst e;exact World.cell?_setCell_same _ _ _ cu
     ·rw [Zo _ _ _ _ (fun h=>by injection h with _ h;omega)]
      exact keep_of (HCS.out j (by omega)) hlt0 HB1.out
    ·by_cases e:j=k
     ·subst e;exact⟨_,World.cell?_setCell_same _ _ _ cu⟩
     ·obtain⟨u,hu⟩:=HALL.out j hj
      exact⟨u,by rw [Zo _ _ _ _ (fun h=>by injection h with _ h;omega)];exact keep_of hu hlt0 HB1.out⟩
   case measure=>simp [intOf];omega
  ·obtain rfl:k=n:=by omega
   have HCS:=O hcs
   have HB:=O hbr
   clear hcs hfr hall hbr
   go_wp2
   go_ret
   exact⟨_,rfl,Zr _,hlt0,HCS.out,HB.out⟩
end A42
namespace A43
open Go.RowKit A1 A4 A5 A6 A8 A9 A13 A17 A18 A19 D16 D17 D19 A41 A42
theorem Emit_none (N Pi Er G Fi:Int) (PA:Option Addr) (ps:List Int) (PC:Nat) (At From To:Int) (CA:Option Addr) (CL CC:Nat) (VA:Option Addr) (VL VC:Nat) (round slot a b:Int) (s:ByteArray) (w:Zw) (hc:CfOk N Pi Er G Fi ps) (hl:Ints w PA ps) :
 Zc Zp 173 #[.agg #[Z Y N,Z Y Pi,Z Y Er,Z Y G,Z Y Fi,.slice PA ps.length PC],.agg #[Z Y 0,Z Y At,Z Y From,Z Y To,.slice CA CL CC,.slice VA VL VC],Z Y round,Z Y slot,Z Y a,Z Y b,.string s] w
  fun e w'=>e=.returned (.string s)∧Zb w.heap.size w w':=by
 have HL:=O hl
 clear hl
 go_enter Tryz.func173,Tryz.ntmps173
 go_wp2_with fail
 refine(conf_Check N Pi Er G Fi PA ps PC _ hc (by repeat(first | exact HL.out | refine Ints.drewN ?_ _ | refine Ints.drew ?_ | refine Ints.alloc ?_ _))).mono ?_
 rintro e w1 ⟨rfl,hb1⟩
 obtain⟨hc1,hf1⟩:=bcell hb1
 go_wp2_with fail
 refine(Hits_none _ _ _ _ _ _ _ _ _ _ _ _ _ _ _ _ _ _ _ _).mono ?_
 rintro e w2 ⟨rfl,hb2'⟩
 obtain⟨hc2,hf2⟩:=bcell hb2'
 have hz:w.heap.size+1 < w1.heap.size:=by have:=hb1.size;simp at this;omega
 go_wp2
 go_ret
 exact⟨rfl,((((Zf _ _).alloc (Zr _) _).alloc (by simp) _).trans (hb1.mono (by simp;omega))).trans (hb2'.mono (by omega))⟩
noncomputable def emF (c:NC) (round slot:Nat) (a b:Int) (s:ByteArray):ByteArray :=
 if c.kind=0∨a≠c.fat∨c.till≤(round:Int)then s else if(round:Int) < c.frm then⟨#[]⟩else if c.ac.length=0 then⟨#[]⟩
 else doneF c.N c.ps.length ((c.Fi+round)%65536).toNat slot (c.ac.getD ((17*round+5*slot+b.toNat)%c.ac.length) Ac.no).how (c.ac.getD ((17*round+5*slot+b.toNat)%c.ac.length) Ac.no).n (c.ac.getD ((17*round+5*slot+b.toNat)%c.ac.length) Ac.no).t s
def EmW (c:NC) (w:Zw):Prop:=Ints w c.PA c.ps∧Acs w c.CA c.ac
theorem EmW.below {c:NC} {w w':Zw} (h:EmW c w) (hb:Zb w.heap.size w w'):EmW c w':=⟨h.1.below hb,h.2.below hb⟩
theorem em_of {w:Zw} {LO:Nat} {c:NC} (h:LowK w LO c):EmW c w:=⟨h.ps,h.ac⟩
theorem nok_emit {c:NC} (h:NOk c) (round slot:Nat) (hr:round≤1000) (hs:slot < c.N+c.ps.length) :
 EmitIs (EmW c) c.N c.Pi c.Er c.G c.Fi c.PA c.ps.length c.PC c.kind c.fat c.frm c.till c.CA c.CL c.CC c.VA c.VL c.VC round slot (emF c round slot):=by
 have n1:=h.cf.n1
 have hl:=h.cf.len
 have ha:=h.ac
 have act:∀ k:Nat,(c.ac.getD (k%c.ac.length) Ac.no).t.size≤4000:=fun k=>by
  by_cases h0:c.ac.length=0
  ·rw [List.length_eq_zero_iff.mp h0];simp [Ac.no];decide
  ·have:=h.act (k%c.ac.length) (Nat.mod_lt _ (by omega));omega
 refine⟨fun w w' hf hb=>hf.below hb,fun a b s _ _ _ _ hs'=>?_,fun a b s w h0 h1 h2 h3 hs' hw=>?_⟩
 ·unfold emF
  split
  ·exact hs'
  ·split
   ·exact Strm.empty
   ·split
    ·exact Strm.empty
    ·exact done_strm (by omega) (by omega) (by omega) hs hs' (act _)
 ·obtain⟨a',rfl⟩:∃ a':Nat,a=a':=⟨a.toNat,by omega⟩
  obtain⟨b',rfl⟩:∃ b':Nat,b=b':=⟨b.toNat,by omega⟩
  unfold emF
  rcases h.kind with e | e
  ·rw [if_pos (.inl e),e]
   exact Emit_none c.N c.Pi c.Er c.G c.Fi c.PA c.ps c.PC c.fat c.frm c.till c.CA c.CL c.CC c.VA c.VL c.VC round slot a' b' s w h.cf hw.1
  ·rw [e]
   by_cases h4:(a':Int)=c.fat
   ·have d4:((a':Int) == c.fat)=true:=by simpa using h4
    by_cases h5:c.till≤(round:Int)
    ·rw [if_pos (.inr (.inr h5))]
     exact Emit_late c.N c.Pi c.Er c.G c.Fi c.PA c.ps c.PC c.fat c.frm c.till c.CA c.ac c.CC c.VA c.VL c.VC round slot a' b' s w h.cf hw.1 d4 (decide_eq_true h5)
    ·have d5:decide ((round:Int)≥c.till)=false:=decide_eq_false h5
     rw [if_neg (fun x=>x.elim (fun x=>absurd x (by decide)) (fun x=>x.elim (fun x=>x h4) h5))]
     by_cases h6:(round:Int) < c.frm
     ·rw [if_pos h6]
      exact Emit_early c.N c.Pi c.Er c.G c.Fi c.PA c.ps c.PC c.fat c.frm c.till c.CA c.ac c.CC c.VA c.VL c.VC round slot a' b' s w h.cf hw.1 d4 d5 (decide_eq_true h6)
     ·rw [if_neg h6]
      by_cases h7:c.ac.length=0
      ·rw [if_pos h7]
       exact Emit_noact c.N c.Pi c.Er c.G c.Fi c.PA c.ps c.PC c.fat c.frm c.till c.CA c.ac c.CC c.VA c.VL c.VC round slot a' b' s w h.cf hw.1 d4 d5 (decide_eq_false h6) hr (by omega) (by omega) h7
      ·rw [if_neg h7]
       refine Emit_act c.N c.Pi c.Er c.G c.Fi c.PA c.ps c.PC c.fat c.frm c.till c.CA c.ac c.CC c.VA c.VL c.VC round slot a' b' s w h.cf hw.1 d4 d5 (decide_eq_false h6) hr (by omega) (by omega) (by omega) ha hw.2 _ (fun w=>?_)
       rw [Int.toNat_natCast]
       have hFi:=h.cf.f0
       have hFi1:=h.cf.f1
       exact done_any c.N c.Pi c.Er c.G c.Fi c.PA c.ps.length c.PC slot round _ _ _ s w ((c.Fi+round)%65536).toNat hs' (act _) (by omega) (by omega) (by omega) hs (O (fun w=>by
        have:=conf_Wire c.N c.Pi c.Er c.G c.Fi c.PA c.ps.length c.PC round w (by omega) (by omega) (by omega) (by omega)
        have e:(((c.Fi+round)%65536).toNat:Int)=(c.Fi+round)%65536:=by omega
        rwa [e]))
   ·rw [if_pos (.inr (.inl h4))]
    exact Emit_other c.N c.Pi c.Er c.G c.Fi c.PA c.ps c.PC c.fat c.frm c.till c.CA c.ac c.CC c.VA c.VL c.VC round slot a' b' s w h.cf hw.1 (by simpa using h4)
noncomputable def dirF (c:NC) (round:Nat) (st:Nat→Nat) (ck:Nat→Int) (slot:Nat) (sends:List ByteArray) (dir:Int) (last:Nat):Wv :=
 runF (emF c round slot) c.N c.Pi slot dir (fun i=>st i) (fun i=>devF c round ck last i) (owners c.N c.ps slot) sends
theorem run_side (c:NC) (BX BS BN BT NB LO ND TB:Nat) (SA:Option Addr) (SC:Nat) (sends:List ByteArray) (round slot:Nat) (dir:Int) (last:Nat) (st:Nat→Nat) (ck:Nat→Int) (w:Zw) (hc:NOk c) (hN:NbK w NB c) (hL:LowK w LO c)
 (hbx:w.cell? ⟨BX,0,none⟩=some (.pointer (some ⟨NB,0,none⟩))) (hbs:w.cell? ⟨BS,0,none⟩=some (Z Y slot)) (hbn:w.cell? ⟨BN,0,none⟩=some (.slice SA (owners c.N c.ps slot).length SC)) (hbt:w.cell? ⟨BT,0,none⟩=some (.slice (some ⟨TB,0,none⟩) c.N c.N))
 (hr:w.cell? ⟨NB,17,none⟩=some (Z Y round)) (hn:w.cell? ⟨NB,18,none⟩=some (.slice (some ⟨ND,0,none⟩) c.N c.N)) (hck:∀ i,i < c.N→w.cell? ⟨ND,i*7+3,none⟩=some (Z Y (ck i)))
 (hrb:round≤900) (hla:last < c.N) (hbd:∀ i,i < c.N → -1000000≤ck i∧ck i≤1000000)
 (h1:slot < c.N+c.ps.length) (hdir:dir=1∨dir = -1) (ho:(∃ x,owners c.N c.ps slot=[x]∧0≤x∧x < c.N)∨∃ x y,owners c.N c.ps slot=[x,y]∧0≤x∧x < c.N∧0≤y∧y < c.N)
 (hlen:sends.length=(owners c.N c.ps slot).length) (hS:Strs w SA sends) (hstr:∀ k,Strm (sends.getD k ⟨#[]⟩))
 (hT:∀ i,i < c.N→w.cell? ⟨TB,i,none⟩=some (Z Y (st i))) (hTl:TB < w.heap.size) :
 Zc Zp 63 #[Z Y dir,Z Y last,.pointer (some ⟨BX,0,none⟩),.pointer (some ⟨BS,0,none⟩),.pointer (some ⟨BN,0,none⟩),.pointer (some ⟨BT,0,none⟩)] w (RunPost c.N (dirF c round st ck slot sends dir last) w):=by
 have n1:=hc.cf.n1
 have HE:=O (fun(w':Zw) (hb:Zb w.heap.size w w') (hb2:w'.cell? ⟨w.heap.size,0,none⟩=some (Z Y last)) =>
  each_dev NB ND c.N BX w.heap.size (fun i=>devF c round ck last i) w' (by omega) (keep_of hn (Zl w _ hn) hb) (fun i w2 hi hb3=>run_dev c BX w.heap.size NB LO ND round last i ck w2 hc ((hN.keep2 hb).keep2 hb3) ((hL.below (hb.mono hL.le)).below (hb3.mono (by have:=hb.size;have:=hL.le;omega)))
   (keep_of (keep_of hbx (Zl w _ hbx) hb) (by have:=Zl w _ hbx;have:=hb.size;simp at *;omega) hb3) (keep_of hb2 (Zl w' _ hb2) hb3)
   (keep_of (keep_of hr (Zl w _ hr) hb) (by have:=Zl w _ hr;have:=hb.size;simp at *;omega) hb3) (keep_of (keep_of hn (Zl w _ hn) hb) (by have:=Zl w _ hn;have:=hb.size;simp at *;omega) hb3)
   (fun j hj=>keep_of (keep_of (hck j hj) (Zl w _ (hck j hj)) hb) (by have:=Zl w _ (hck j hj);have:=hb.size;simp at *;omega) hb3) (by omega) hla hi hbd))
 have HR:=O (fun(UB:Nat) (w':Zw) (hb:Zb w.heap.size w w') (hU:∀ i,i < c.N→w'.cell? ⟨UB,i,none⟩=some (Z Y (devF c round ck last i))) (hUl:UB < w'.heap.size) =>
  spread_Run (EmW c) c.N c.Pi c.Er c.G c.Fi c.PA c.ps c.PC c.kind c.fat c.frm c.till c.CA c.CL c.CC c.VA c.VL c.VC round slot dir TB UB (emF c round slot) SA SC sends (fun i=>st i) (fun i=>devF c round ck last i) w' hc.cf (hL.ps.below hb) (nok_emit hc round slot (by omega) h1) ((em_of hL).below hb) (by omega) (by omega) hdir ho hlen (hS.below hb) hstr
   (fun i hi=>keep_of (hT i hi) hTl hb) hU (by have:=hb.size;omega) hUl)
 change Hid (∀(UB:Nat) (w':Zw) (hb:Zb w.heap.size w w') (hU:∀ i,i < c.N→w'.cell? ⟨UB,i,none⟩=some (Z Y (devF c round ck last i))) (hUl:UB < w'.heap.size),Zc Zp 66 _ w' (RunPost c.N (dirF c round st ck slot sends dir last) w'))at HR
 generalize dirF c round st ck slot sends dir last=V at *
 generalize (owners c.N c.ps slot).length=OL at *
 have HNb:=O hN
 have l0:=Zl w _ hbx
 have l1:=Zl w _ hbs
 have l2:=Zl w _ hbn
 have l3:=Zl w _ hbt
 have l4:=Zl w _ hr
 clear hc hN hL hck hbd ho hS hstr hT hlen
 go_enter Tryz.func63,Tryz.ntmps63
 go_wp2_with fail
 refine(HE.out _ bB (by simp)).mono ?_
 rintro e w1 ⟨g,rfl,hg1,hg2,hU,hb1⟩
 have HB:=O (Below.trans (show Zb w.heap.size w _ from bB) (hb1.mono (by simp)))
 have HRr:=O (HR.out g w1.drew HB.out.drew hU hg2)
 have HNb1:=O (HNb.out.keep2 HB.out)
 have bx:=keep_of hbx l0 HB.out
 have bs:=keep_of hbs l1 HB.out
 have bn:=keep_of hbn l2 HB.out
 have bt:=keep_of hbt l3 HB.out
 have br:=keep_of hr l4 HB.out
 have h16:=hb1.size
 clear hb1 hU HE HR hbx hbs hbn hbt hr
 go_wp2_with fail
 obtain⟨k0,k1,k2,k3,k4,k5,k6,k7,k8,k9,k10,k11,k12,k13,k14,k15,k16⟩:=HNb1.out
 refine wp_region_held_drew (S:=fun w'=>w'.cell? ⟨BX,0,none⟩=some (.pointer (some ⟨NB,0,none⟩))∧w'.cell? ⟨BS,0,none⟩=some (Z Y slot)∧w'.cell? ⟨BN,0,none⟩=some (.slice SA OL SC)∧w'.cell? ⟨BT,0,none⟩=some (.slice (some ⟨TB,0,none⟩) c.N c.N)∧w'.cell? ⟨NB,0,none⟩=some (Z Y c.N)∧w'.cell? ⟨NB,1,none⟩=some (Z Y c.Pi)∧w'.cell? ⟨NB,2,none⟩=some (Z Y c.Er)∧w'.cell? ⟨NB,3,none⟩=some (Z Y c.G)∧w'.cell? ⟨NB,4,none⟩=some (Z Y c.Fi)∧w'.cell? ⟨NB,5,none⟩=some (.slice c.PA c.ps.length c.PC)∧w'.cell? ⟨NB,10,none⟩=some (Z Y c.kind)∧w'.cell? ⟨NB,11,none⟩=some (Z Y c.fat)∧w'.cell? ⟨NB,12,none⟩=some (Z Y c.frm)∧w'.cell? ⟨NB,13,none⟩=some (Z Y c.till)∧w'.cell? ⟨NB,14,none⟩=some (.slice c.CA c.CL c.CC)∧w'.cell? ⟨NB,15,none⟩=some (.slice c.VA c.VL c.VC)∧w'.cell? ⟨NB,17,none⟩=some (Z Y round)) (by kernel_rfl) ⟨bx,bs,bn,bt,k0,k1,k2,k3,k4,k5,k10,k11,k12,k13,k14,k15,br⟩ (fun hHeld=>?_)
 refine rgT 0 ?_
 refine rgT 1 ?_
 refine rgT 2 ?_
 refine rgT 3 ?_
 refine rgT 4 ?_
 refine rgT 5 ?_
 refine rgT 6 ?_
 refine rgT 7 ?_
 refine rgT 8 ?_
 refine rgT 9 ?_
 refine rgT 10 ?_
 refine rgT 11 ?_
 refine rgT 12 ?_
 refine rgT 13 ?_
 refine rgT 14 ?_
 refine rgT 15 ?_
 refine rgT 16 ?_
 refine rgT 17 ?_
 refine rgR 18 fun K hK=>?_
 go_simp
 refine HRr.out.mono ?_
 rintro e w2 ⟨u,rfl,hown,hnn,hb2⟩
 rcases hown.2 with⟨_,h0⟩ | ⟨q,cap,cur,rfl,hq,_⟩
 ·omega
 go_simp
 have kp:∀ b j v,w1.cell? ⟨b,j,none⟩=some v→w2.cell? ⟨b,j,none⟩=some v:=fun b j v h=>keep_of (w:=w1.drew) h (Zl w1 _ h) hb2
 refine hK.out _ _ ⟨kp _ _ _ bx,kp _ _ _ bs,kp _ _ _ bn,kp _ _ _ bt,kp _ _ _ k0,kp _ _ _ k1,kp _ _ _ k2,kp _ _ _ k3,kp _ _ _ k4,kp _ _ _ k5,kp _ _ _ k10,kp _ _ _ k11,kp _ _ _ k12,kp _ _ _ k13,kp _ _ _ k14,kp _ _ _ k15,kp _ _ _ br⟩ (fun hHeld=>?_)
 clear hK K
 refine rgT 19 ?_
 refine wpAnyH_done (by kernel_rfl) ?_ _
 have HO:=O (own_mono hown (show w.heap.size≤w1.drew.heap.size from HB.out.size))
 have HB2:=O (HB.out.trans (Below.mono (show Zb w1.heap.size w1 w2 from⟨hb2.os,hb2.tape,hb2.output,hb2.size,hb2.block⟩) HB.out.size))
 clear hown hb2 hnn kp
 unfold RunPost
 go_wp2
 go_ret
 exact⟨_,rfl,HO.out,by simp,HB2.out⟩
end A43
end Go.Proofs.YtdbempiompiioaaGreat
