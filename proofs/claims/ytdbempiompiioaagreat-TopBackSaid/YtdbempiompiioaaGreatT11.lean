/- script.Check. script.Check: no error. What a node sends in a slot: the walk. A queue cleared. A node Conditions: the bounds stated in each theorem. -/
import Derived.Test.YtdbempiompiioaaGreatT10
set_option linter.unusedVariables false
set_option linter.unusedSimpArgs false
set_option maxRecDepth 100000
set_option maxHeartbeats 80000000
open Go.Value renaming int → Z
open Go.IntKind renaming i64 → Y
open Go renaming World → Zw, Calls → Zc, heap_alloc_new → Zh
open Go.RowKit renaming Below → Zb
open Go.Proofs.Tryz renaming prog → Zp
open Go.Lib renaming hid → O
open Go.World renaming block_lt_of_cell? → Zl, cell?_setCell_other → Zo
open Nat renaming le_refl → Zr
open Go.RowKit.Below renaming refl → Zf
namespace Go.Proofs.YtdbempiompiioaaGreat
namespace A69
open Go.RowKit A1 A18 A35 A41
theorem script_in (n a b:Int) (w:Zw) (h1:a≤n) (h2:n≤b):Zc Zp 50 #[Z Y n,Z Y a,Z Y b] w fun e w'=>e=.returned (.bool true)∧w=w':=by
 have:=script_within n a b w
 rwa [decide_eq_true (p:=a≤n∧n≤b) ⟨h1,h2⟩]at this
theorem call_each (r n p v:Nat) (N B PL PC:Nat) (PA:Option Addr) (w:Zw) (hp:w.cell? ⟨B,0,none⟩=some (Z Y N)) (h5:w.cell? ⟨B,5,none⟩=some (.slice PA PL PC)) (hr:r≤200) (hn:n < N) (hpp:p≤PL) (hN2:N≤7) (hPL:PL≤3) :
 Zc Zp 51 #[.agg #[Z Y r,Z Y n,Z Y p,Z Y v],.pointer (some ⟨B,0,none⟩)] w fun e w'=>e=.returned (.bool false)∧Zb w.heap.size w w':=by
 have HN1:=O hr
 have lB:=Zl w _ hp
 have HB:=O (show Zb w.heap.size w (w.alloc (.cells #[Z Y r,Z Y n,Z Y p,Z Y v] 52))from(Zf _ _).alloc (Zr _) _)
 have k0:=keep_of hp lB HB.out
 have k5:=keep_of h5 lB HB.out
 have hX:=Zh w (.cells #[Z Y r,Z Y n,Z Y p,Z Y v] 52)
 clear hp h5
 go_enter Tryz.func51,Tryz.ntmps51
 go_upto_region 1 with fail
 generalize w.alloc (.cells #[Z Y r,Z Y n,Z Y p,Z Y v] 52)=wa at *
 have y0:wa.cell? ⟨w.heap.size,0,none⟩=some (Z Y r):=by rw [blk_cell hX];rfl
 have y1:wa.cell? ⟨w.heap.size,1,none⟩=some (Z Y n):=by rw [blk_cell hX];rfl
 have y2:wa.cell? ⟨w.heap.size,2,none⟩=some (Z Y p):=by rw [blk_cell hX];rfl
 clear hX
 go_wp2_with (go_at_call 50;refine(script_in _ _ _ _ (by omega) (by omega)).mono ?_;rintro e w' ⟨rfl,rfl⟩)
 go_ret
 exact⟨rfl,HB.out⟩
theorem indexFunc_calls (A:Option Addr) (l:List Cl) (C:Nat) (N B PL PC:Nat) (PA:Option Addr) (w:Zw) (hl:Cls w A l) (hlen:l.length≤100) (hp:w.cell? ⟨B,0,none⟩=some (Z Y N)) (h5:w.cell? ⟨B,5,none⟩=some (.slice PA PL PC)) (hN2:N≤7) (hPL:PL≤3)
 (hv:∀ k,k < l.length→(l.getD k ⟨0,0,0,0⟩).round≤200∧(l.getD k ⟨0,0,0,0⟩).node < N∧(l.getD k ⟨0,0,0,0⟩).pair≤PL) :
 Zc Zp 89 #[.slice A l.length C,.func (Fn.func 51) #[] #[.pointer (some ⟨B,0,none⟩)]] w fun e w'=>e=.returned (Z Y (-1))∧Zb w.heap.size w w':=by
 have lB:=Zl w _ hp
 have HL:=O hl
 have HV:=O hv
 have HP:=O hp
 have H5:=O h5
 clear hl hv hp h5
 go_enter Tryz.func89,Tryz.ntmps89
 go_wp2
 go_loopw [8] (fun t wr=>∃ k:Nat,k≤l.length∧t=Z Y k∧Zb w.heap.size w wr) (fun t _=>l.length-(intOf t).toNat)
 case atStart=>exact⟨0,Nat.zero_le _,rfl,Zf _ _⟩
 case round =>
  obtain⟨k,hk,rfl,hb⟩:=hrel
  have HB:=O hb
  by_cases hlt:k < l.length
  ·have lk:(k:Int) < (l.length:Int):=by omega
   obtain⟨b,off,rfl,hbl,e0,e1,e2,e3⟩:=(HL.out.below hb) k hlt
   obtain⟨v1,v2,v3⟩:=HV.out k hlt
   have HC:=O (call_each (l.getD k ⟨0,0,0,0⟩).round (l.getD k ⟨0,0,0,0⟩).node (l.getD k ⟨0,0,0,0⟩).pair (l.getD k ⟨0,0,0,0⟩).v N B PL PC PA _ (keep_of HP.out lB hb) (keep_of H5.out lB hb) v1 v2 v3 hN2 hPL)
   generalize l.getD k ⟨0,0,0,0⟩=x at *
   obtain⟨xr,xn,xp,xv⟩:=x
   dsimp only at e0 e1 e2 e3 HC
   clear hb HL
   go_wp2_with (refine(HC.out).mono ?_;rintro e w2 ⟨rfl,hb2⟩)
   go_roundw
   case rel=>exact⟨k+1,by omega,by go_num,HB.out.trans (hb2.mono HB.out.size)⟩
   case measure=>simp [intOf];omega
  ·obtain rfl:k=l.length:=by omega
   clear hb
   go_wp2
   go_ret
   exact⟨rfl,HB.out⟩
theorem containsFunc_calls (A:Option Addr) (l:List Cl) (C:Nat) (N B PL PC:Nat) (PA:Option Addr) (w:Zw) (hl:Cls w A l) (hlen:l.length≤100) (hp:w.cell? ⟨B,0,none⟩=some (Z Y N)) (h5:w.cell? ⟨B,5,none⟩=some (.slice PA PL PC)) (hN2:N≤7) (hPL:PL≤3)
 (hv:∀ k,k < l.length→(l.getD k ⟨0,0,0,0⟩).round≤200∧(l.getD k ⟨0,0,0,0⟩).node < N∧(l.getD k ⟨0,0,0,0⟩).pair≤PL) :
 Zc Zp 52 #[.slice A l.length C,.func (Fn.func 51) #[] #[.pointer (some ⟨B,0,none⟩)]] w fun e w'=>e=.returned (.bool false)∧Zb w.heap.size w w':=by
 have H:=O (indexFunc_calls A l C N B PL PC PA w hl hlen hp h5 hN2 hPL hv)
 clear hl hp h5 hv
 go_enter Tryz.func52,Tryz.ntmps52
 go_wp2_with (go_at_call 89;refine(H.out).mono ?_;rintro e w' ⟨rfl,hb⟩)
 go_ret
 exact⟨rfl,hb⟩
end A69
namespace A70
open Go.RowKit A4 A35 A41 A68 A69 D19
theorem script_Check (N:Nat) (Pi Er G Fi:Int) (PA:Option Addr) (PL PC:Nat) (on:List Int) (OA:Option Addr) (OC:Nat) (dr:List Int) (DA:Option Addr) (DC:Nat) (er:List Int) (EA:Option Addr) (EC:Nat) (cl:List Cl) (LA:Option Addr) (LC:Nat) (kind fat frm till:Int) (CA:Option Addr) (ac:List Ac) (CC:Nat) (VA:Option Addr) (VL VC:Nat) (rounds:Int) (w:Zw)
 (hk:kind=0∨kind=1) (hN:6≤N) (hN2:N≤7) (hPL:PL≤3) (hf:0≤fat) (hf2:fat < if kind=1 then(N:Int)else 1) (h0:0≤frm) (h1:frm≤till) (h2:till≤1000) (hA:Acs w CA ac) (hac:ac.length≤40) (hact:∀ k,k < ac.length→(ac.getD k Ac.no).t.size≤1000) (hVL:VL≤40)
 (hon:on.length=N) (hdr:dr.length≤60) (her:er.length≤60) (hcl:cl.length≤100) (hr0:0≤rounds) (hr1:rounds≤200)
 (hO:Ints w OA on) (hOv:∀ k,k < on.length → -1≤on.getD k 0∧on.getD k 0≤200) (hL:Cls w LA cl) (hLv:∀ k,k < cl.length→(cl.getD k ⟨0,0,0,0⟩).round≤200∧(cl.getD k ⟨0,0,0,0⟩).node < N∧(cl.getD k ⟨0,0,0,0⟩).pair≤PL) :
 Zc Zp 27 #[.agg #[Z Y N,Z Y Pi,Z Y Er,Z Y G,Z Y Fi,.slice PA PL PC],.agg #[.slice OA N OC,.slice DA dr.length DC,.slice EA er.length EC,.slice LA cl.length LC,Z Y kind,Z Y fat,Z Y frm,Z Y till,.slice CA ac.length CC,.slice VA VL VC,Z Y rounds]] w fun e w'=>e=.returned (Z Y 0)∧Zb w.heap.size w w':=by
 obtain⟨hXA,hXB,hz,hBa⟩:=alloc2 w (.cells #[Z Y N,Z Y Pi,Z Y Er,Z Y G,Z Y Fi,.slice PA PL PC] 24) (.cells #[.slice OA N OC,.slice DA dr.length DC,.slice EA er.length EC,.slice LA cl.length LC,Z Y kind,Z Y fat,Z Y frm,Z Y till,.slice CA ac.length CC,.slice VA VL VC,Z Y rounds] 34)
 have HBa:=O hBa
 have hz0:w.heap.size < ((w.alloc (.cells #[Z Y N,Z Y Pi,Z Y Er,Z Y G,Z Y Fi,.slice PA PL PC] 24)).alloc (.cells #[.slice OA N OC,.slice DA dr.length DC,.slice EA er.length EC,.slice LA cl.length LC,Z Y kind,Z Y fat,Z Y frm,Z Y till,.slice CA ac.length CC,.slice VA VL VC,Z Y rounds] 34)).heap.size:=by omega
 have sw:=hBa.size
 go_enter Tryz.func27,Tryz.ntmps27
 go_upto_region 1 with fail
 generalize (w.alloc (.cells #[Z Y N,Z Y Pi,Z Y Er,Z Y G,Z Y Fi,.slice PA PL PC] 24)).alloc (.cells #[.slice OA N OC,.slice DA dr.length DC,.slice EA er.length EC,.slice LA cl.length LC,Z Y kind,Z Y fat,Z Y frm,Z Y till,.slice CA ac.length CC,.slice VA VL VC,Z Y rounds] 34)=wa at *
 have y0:wa.cell? ⟨w.heap.size,0,none⟩=some (Z Y N):=by rw [blk_cell hXA];rfl
 have y1:wa.cell? ⟨w.heap.size,1,none⟩=some (Z Y Pi):=by rw [blk_cell hXA];rfl
 have y2:wa.cell? ⟨w.heap.size,2,none⟩=some (Z Y Er):=by rw [blk_cell hXA];rfl
 have y3:wa.cell? ⟨w.heap.size,3,none⟩=some (Z Y G):=by rw [blk_cell hXA];rfl
 have y4:wa.cell? ⟨w.heap.size,4,none⟩=some (Z Y Fi):=by rw [blk_cell hXA];rfl
 have y5:wa.cell? ⟨w.heap.size,5,none⟩=some (.slice PA PL PC):=by rw [blk_cell hXA];rfl
 have z0:wa.cell? ⟨w.heap.size+1,0,none⟩=some (.slice OA N OC):=by rw [blk_cell hXB];rfl
 have z1:wa.cell? ⟨w.heap.size+1,1,none⟩=some (.slice DA dr.length DC):=by rw [blk_cell hXB];rfl
 have z2:wa.cell? ⟨w.heap.size+1,2,none⟩=some (.slice EA er.length EC):=by rw [blk_cell hXB];rfl
 have z3:wa.cell? ⟨w.heap.size+1,3,none⟩=some (.slice LA cl.length LC):=by rw [blk_cell hXB];rfl
 have z4:wa.cell? ⟨w.heap.size+1,4,none⟩=some (Z Y kind):=by rw [blk_cell hXB];rfl
 have z5:wa.cell? ⟨w.heap.size+1,5,none⟩=some (Z Y fat):=by rw [blk_cell hXB];rfl
 have z6:wa.cell? ⟨w.heap.size+1,6,none⟩=some (Z Y frm):=by rw [blk_cell hXB];rfl
 have z7:wa.cell? ⟨w.heap.size+1,7,none⟩=some (Z Y till):=by rw [blk_cell hXB];rfl
 have z8:wa.cell? ⟨w.heap.size+1,8,none⟩=some (.slice CA ac.length CC):=by rw [blk_cell hXB];rfl
 have z9:wa.cell? ⟨w.heap.size+1,9,none⟩=some (.slice VA VL VC):=by rw [blk_cell hXB];rfl
 have z10:wa.cell? ⟨w.heap.size+1,10,none⟩=some (Z Y rounds):=by rw [blk_cell hXB];rfl
 have HXA:=O hXA
 have HXB:=O hXB
 have hOn:=(containsFunc_on OA on OC wa (ints_low hO hBa (fun b off e h=>by obtain⟨b',off',e',hl,_⟩:=hO 0 h;rw [e]at e';injection e' with e';injection e' with e' _;omega) (Zr _)) (by omega) hOv)
 rw [hon]at hOn
 have HOn:=O hOn
 have HCl:=O (containsFunc_calls LA cl LC N w.heap.size PL PC PA wa (hL.below hBa) hcl y0 y5 hN2 hPL hLv)
 have HFa:=O (fun w' (hb:Zb w.heap.size w w')=>fault_Check N Pi Er G Fi PA PL PC kind fat frm till CA ac CC VA VL VC w' hk (by omega) (by omega) hf hf2 h0 h1 h2 (hA.below hb) hac hact hVL)
 have f1:¬((on.length:Int)≠(N:Int)):=by omega
 have f2:((on.length:Int) != (N:Int))=false:=by simp;omega
 have f2':(on.length != N)=false:=by simp;omega
 have f3:¬(60 < (dr.length:Int)):=by omega
 have f4:¬(60 < (er.length:Int)):=by omega
 have f5:¬(100 < (cl.length:Int)):=by omega
 clear hOn hon f1 f2 f2' hXA hXB hO hOv hL hLv hf2 hBa hA hact
 go_wp2_with (first | (go_at_call 50;refine(script_in _ _ _ _ (by omega) (by omega)).mono ?_;rintro e w' ⟨rfl,rfl⟩) | (go_at_call 47;refine(HOn.out).mono ?_;rintro e w' ⟨rfl,rfl⟩) | fail)
 refine(HCl.out).mono ?_
 rintro e w2 ⟨rfl,hb2⟩
 have HB2:=O hb2
 have HA2:=O ((hb2.block _ hz0).trans HXA.out)
 have HS2:=O ((hb2.block _ hz).trans HXB.out)
 have x0:w2.cell? ⟨w.heap.size,0,none⟩=some (Z Y N):=by rw [blk_cell HA2.out];rfl
 have x1:w2.cell? ⟨w.heap.size,1,none⟩=some (Z Y Pi):=by rw [blk_cell HA2.out];rfl
 have x2:w2.cell? ⟨w.heap.size,2,none⟩=some (Z Y Er):=by rw [blk_cell HA2.out];rfl
 have x3:w2.cell? ⟨w.heap.size,3,none⟩=some (Z Y G):=by rw [blk_cell HA2.out];rfl
 have x4:w2.cell? ⟨w.heap.size,4,none⟩=some (Z Y Fi):=by rw [blk_cell HA2.out];rfl
 have x5:w2.cell? ⟨w.heap.size,5,none⟩=some (.slice PA PL PC):=by rw [blk_cell HA2.out];rfl
 have v4:w2.cell? ⟨w.heap.size+1,4,none⟩=some (Z Y kind):=by rw [blk_cell HS2.out];rfl
 have v5:w2.cell? ⟨w.heap.size+1,5,none⟩=some (Z Y fat):=by rw [blk_cell HS2.out];rfl
 have v6:w2.cell? ⟨w.heap.size+1,6,none⟩=some (Z Y frm):=by rw [blk_cell HS2.out];rfl
 have v7:w2.cell? ⟨w.heap.size+1,7,none⟩=some (Z Y till):=by rw [blk_cell HS2.out];rfl
 have v8:w2.cell? ⟨w.heap.size+1,8,none⟩=some (.slice CA ac.length CC):=by rw [blk_cell HS2.out];rfl
 have v9:w2.cell? ⟨w.heap.size+1,9,none⟩=some (.slice VA VL VC):=by rw [blk_cell HS2.out];rfl
 clear hb2 HCl HOn y0 y1 y2 y3 y4 y5 z0 z1 z2 z3 z4 z5 z6 z7 z8 z9 z10
 have HBw:=O (HBa.out.trans (HB2.out.mono sw))
 go_wp2_with fail
 refine(HFa.out _ (by first | exact HBw.out | exact HBw.out.drew | exact HBw.out.drew.drew)).mono ?_
 rintro e w3 ⟨rfl,hb3⟩
 go_wp2
 go_ret
 have s2:=HB2.out.size
 exact⟨rfl,(HBa.out.trans (HB2.out.mono sw)).trans (hb3.mono (by omega))⟩
end A70
namespace A46
open Go.RowKit A1 A11 A14 A18 A22 A30 A33 A35 A41 A45
theorem alloc_keep {w:Zw} {p:Addr} {o:Obj} {v:Value} (h:w.cell? p=some v):(w.alloc o).cell? p=some v:=(World.cell?_alloc_some _ _ _ (by rw [h];rfl)).trans h
theorem set_keep {w:Zw} {p q:Addr} {u v:Value} (h:w.cell? p=some v) (hne:p.block≠q.block):(w.setCell q u).cell? p=some v:=(Zo _ _ _ _ (fun e=>hne (by rw [e]))).trans h
abbrev frCells (k r s pk pv:Int) (v:Value):Obj :=.cells #[Z Y k,Z Y r,Z Y s,Z Y pk,Z Y pv,v] 118 (0,0)
def FrMade2 (w:Zw) (k r s:Int) (v:Value) (wx:Zw):Prop:=∃ F,v=.pointer (some ⟨F,0,none⟩)∧wx.heap[F]?=some (frCells k r s 0 0 (.slice none 0 0))∧w.heap.size≤F∧F≠w.heap.size∧wx.heap[w.heap.size]?=some (frCells 0 0 0 0 0 (.slice none 0 0))∧Zb w.heap.size w wx
theorem made6 {w:Zw} {F:Nat} {k r s a b:Int} {u:Value} {x0 x1 x2 x3 x4 x5:Value} (h:w.heap[F]?=some (.cells #[x0,x1,x2,x3,x4,x5] 118 (0,0))) :
 ((((((w.setCell ⟨F,0,none⟩ (Z Y k)).setCell ⟨F,1,none⟩ (Z Y r)).setCell ⟨F,2,none⟩ (Z Y s)).setCell ⟨F,3,none⟩ (Z Y a)).setCell ⟨F,4,none⟩ (Z Y b)).setCell ⟨F,5,none⟩ u).heap[F]?=some (frCells k r s a b u):=by
 simp [World.setCell,Array.getElem?_modify,h]
theorem made2 {w:Zw} {F:Nat} {x0 x1 x2 x3 x4 x5 a b:Value} (h:w.heap[F]?=some (.cells #[x0,x1,x2,x3,x4,x5] 118 (0,0))) :
 ((w.setCell ⟨F,3,none⟩ a).setCell ⟨F,4,none⟩ b).heap[F]?=some (.cells #[x0,x1,x2,a,b,x5] 118 (0,0)):=by
 simp [World.setCell,Array.getElem?_modify,h]
theorem far6 {w:Zw} {F q:Nat} {u0 u1 u2 u3 u4 u5:Value} (h:q≠F) :
 ((((((w.setCell ⟨F,0,none⟩ u0).setCell ⟨F,1,none⟩ u1).setCell ⟨F,2,none⟩ u2).setCell ⟨F,3,none⟩ u3).setCell ⟨F,4,none⟩ u4).setCell ⟨F,5,none⟩ u5).heap[q]?=w.heap[q]?:=by
 have e:∀(w:Zw) (o:Nat) (u:Value),(w.setCell ⟨F,o,none⟩ u).heap[q]?=w.heap[q]?:=fun w o u=>Below.heap_setCell _ _ _ _ h
 rw [e,e,e,e,e,e]
theorem made_set {w wc W:Zw} {F:Nat} {k r s:Int} (h:W.heap[F]?=some (.cells #[Z Y 0,Z Y 0,Z Y 0,Z Y 0,Z Y 0,.slice none 0 0] 118 (0,0))) (hb:Zb wc.heap.size wc W) (hF:wc.heap.size≤F) (hbw:Zb w.heap.size w wc) (hlt:w.heap.size < wc.heap.size) (h0:wc.heap[w.heap.size]?=some (frCells 0 0 0 0 0 (.slice none 0 0))) :
 FrMade2 w k r s (.pointer (some ⟨F,0,none⟩)) ((((((W.setCell ⟨F,0,none⟩ (Z Y k)).setCell ⟨F,1,none⟩ (Z Y r)).setCell ⟨F,2,none⟩ (Z Y s)).setCell ⟨F,3,none⟩ (Z Y 0)).setCell ⟨F,4,none⟩ (Z Y 0)).setCell ⟨F,5,none⟩ (.slice none 0 0)) :=
 ⟨F,rfl,made6 h,by omega,by omega,(far6 (by omega)).trans ((hb.block _ hlt).trans h0),below6 (hbw.trans (hb.mono (by omega))) (by omega)⟩
theorem made_new {w wc W:Zw} {k r s:Int} (hb:Zb wc.heap.size wc W) (hbw:Zb w.heap.size w wc) (hlt:w.heap.size < wc.heap.size) (h0:wc.heap[w.heap.size]?=some (frCells 0 0 0 0 0 (.slice none 0 0))) :
 FrMade2 w k r s (.pointer (some ⟨W.heap.size,0,none⟩)) (W.alloc (.cells #[Z Y k,Z Y r,Z Y s,Z Y 0,Z Y 0,.slice none 0 0] 118)):=by
 have hs:=hb.size
 exact⟨_,rfl,Zh _ _,by omega,by omega,(Below.heap_alloc _ _ _ (by omega)).trans ((hb.block _ hlt).trans h0),(hbw.trans (hb.mono (by omega))).alloc (by omega) _⟩
theorem items_but {w w1:Zw} {A:Option Addr} {l:List (Nat×Nat)} {T:Nat→Prop} (h:Items w A l) (hb:But T w w1) (hA:∀ b off,A=some ⟨b,off,none⟩→0 < l.length→¬ T b):Items w1 A l:=fun k hk=>by
 obtain⟨b,off,e,h1,h2,h3⟩:=h k hk
 have hn:=hA b off e (by omega)
 exact⟨b,off,e,Nat.lt_of_lt_of_le h1 hb.size,(hb.cell (p:=⟨b,_,none⟩) h1 hn).trans h2,(hb.cell (p:=⟨b,_,none⟩) h1 hn).trans h3⟩
theorem frame_sent {o:Option Fr} {f:Fr} {Q S:Nat} {q':Nat→Option Nat} {w w2 w':Zw} {EA:Option Addr} {EC:Nat} {e:Ending} (ho:o=some f) (he:e=.returned (.tuple #[.agg #[Z Y f.kind,Z Y f.round,Z Y f.slot,Z Y f.pk,Z Y f.pv,.slice EA f.echo.length EC],.bool true]))
 (hI:Items w' EA f.echo) (hb:But (fun x=>x=Q) w w2) (hq:QAt w2 Q S q') (hQ:Q < w.heap.size) (hs:But (fun x=>w.heap.size≤x∧x < w2.heap.size) w2 w'):FramePost o Q S q' w e w':=by
 subst ho
 refine⟨⟨EA,EC,he,hI⟩,?_,hq.but hs (by omega)⟩
 refine⟨hs.os.trans hb.os,hs.tape.trans hb.tape,hs.output.trans hb.output,Nat.le_trans hb.size hs.size,fun k hk hn=>(hs.block k (Nat.lt_of_lt_of_le hk hb.size) (by omega)).trans (hb.block k hk hn)⟩
theorem frame_not {o:Option Fr} {Q S:Nat} {q':Nat→Option Nat} {w w2 w':Zw} {k r s:Int} {e:Ending} (ho:o=none) (he:e=.returned (.tuple #[.agg #[Z Y k,Z Y r,Z Y s,Z Y 0,Z Y 0,.slice none 0 0],.bool false]))
 (hb:But (fun x=>x=Q) w w2) (hq:QAt w2 Q S q') (hQ:Q < w.heap.size) (hs:But (fun x=>w.heap.size≤x∧x < w2.heap.size) w2 w'):FramePost o Q S q' w e w':=by
 subst ho
 refine⟨⟨k,r,s,he⟩,?_,hq.but hs (by omega)⟩
 refine⟨hs.os.trans hb.os,hs.tape.trans hb.tape,hs.output.trans hb.output,Nat.le_trans hb.size hs.size,fun k hk hn=>(hs.block k (Nat.lt_of_lt_of_le hk hb.size) (by omega)).trans (hb.block k hk hn)⟩
theorem net_frame (c:NC) (NB ND Q QC:Nat) (round i slot st:Nat) (q:Nat→Option Nat) (g:Option (List (Nat×Nat))) (gv:Value) (w:Zw) (hc:NOk c) (hN:NbK w NB c)
 (hr:w.cell? ⟨NB,17,none⟩=some (Z Y round)) (hn:w.cell? ⟨NB,18,none⟩=some (.slice (some ⟨ND,0,none⟩) c.N c.N)) (hs:w.cell? ⟨ND,i*7,none⟩=some (Z Y st)) (hq:w.cell? ⟨ND,i*7+4,none⟩=some (.slice (some ⟨Q,0,none⟩) (c.N+c.ps.length) QC)) (hg:w.cell? ⟨ND,i*7+5,none⟩=some gv)
 (hG:GotAt w gv (c.N+c.ps.length) g) (hQ:QAt w Q (c.N+c.ps.length) q) (hst:st≤4) (hrb:round≤900) (hi:i < c.N) (hsl:slot < c.N+c.ps.length) (hQN:Q≠NB) (hQD:Q≠ND) (hGQ:∀ b C,gv=.slice (some ⟨b,0,none⟩) (c.N+c.ps.length) C→b≠Q) :
 Zc Zp 59 #[.pointer (some ⟨NB,0,none⟩),Z Y i,Z Y slot] w (FramePost (frameF c.N (c.N+c.ps.length) ((c.Fi+round)%65536).toNat slot st (q slot) g) Q (c.N+c.ps.length) (if st=4 then took q slot else q) w):=by
 have n0:=hc.cf.n0
 have n1:=hc.cf.n1
 have n2:=hc.cf.len
 have f0:=hc.cf.f0
 have f1:=hc.cf.f1
 have HNb:=O hN
 have lNB:=Zl w _ hr
 have lND:=Zl w _ hs
 have HS:=O (fun w=>state_Sends st w hst)
 have HW:=O (fun w=>conf_Wire c.N c.Pi c.Er c.G c.Fi c.PA c.ps.length c.PC round w f0 f1 (by omega) (by omega))
 have HGn:=O hG
 have HQ:=O hQ
 have HGQ:=O hGQ
 obtain⟨wi,hwi⟩:∃ wi:Nat,(c.Fi+round)%65536=(wi:Int):=⟨((c.Fi+round)%65536).toNat,by omega⟩
 rw [hwi]at HW
 rw [hwi,Int.toNat_natCast]
 have i0:(i:Int) < (c.N:Int):=by omega
 have s0:(slot:Int) < (((c.N+c.ps.length:Nat)):Int):=by omega
 have HC:=O hc
 obtain⟨k0,k1,k2,k3,k4,k5,k6,k7,k8,k9,k10,k11,k12,k13,k14,k15,k16⟩:=hN
 have HM:=O (show(sendsF 0=0∧sendsF 1=0∧sendsF 2=1∧sendsF 3=2∧sendsF 4=3)from⟨rfl,rfl,rfl,rfl,rfl⟩)
 generalize hsf:sendsF st=sk at HS
 have HSF:=O hsf
 clear hwi hG hQ hGQ hc hsf f0 f1 k6 k7 k8 k9 k10 k11 k12 k13 k14 k15 k16
 go_enter Tryz.func59,Tryz.ntmps59
 go_upto_region 2 with fail
 have HBw:=O (show Zb w.heap.size w (w.alloc (.cells #[Z Y 0,Z Y 0,Z Y 0,Z Y 0,Z Y 0,.slice none 0 0] 118))from bB)
 have hF0:=O (Zh w (.cells #[Z Y 0,Z Y 0,Z Y 0,Z Y 0,Z Y 0,.slice none 0 0] 118))
 have hW0:w.heap.size < (w.alloc (.cells #[Z Y 0,Z Y 0,Z Y 0,Z Y 0,Z Y 0,.slice none 0 0] 118)).heap.size:=by simp
 generalize w.alloc (.cells #[Z Y 0,Z Y 0,Z Y 0,Z Y 0,Z Y 0,.slice none 0 0] 118)=wv at *
 have HB0:=O (Zf wv.heap.size wv)
 have HX:=O (And.intro HBw.out hW0)
 have HK:=O (show ∀ w',Zb wv.heap.size wv w'→(w'.cell? ⟨NB,0,none⟩=some (Z Y c.N)∧w'.cell? ⟨NB,1,none⟩=some (Z Y c.Pi)∧w'.cell? ⟨NB,2,none⟩=some (Z Y c.Er)∧w'.cell? ⟨NB,3,none⟩=some (Z Y c.G)∧w'.cell? ⟨NB,4,none⟩=some (Z Y c.Fi)∧w'.cell? ⟨NB,5,none⟩=some (.slice c.PA c.ps.length c.PC)∧w'.cell? ⟨NB,17,none⟩=some (Z Y round)∧w'.cell? ⟨ND,i*7,none⟩=some (Z Y st))from
  fun w' hb'=>(fun(hb:Zb w.heap.size w w')=>⟨keep_of k0 lNB hb,keep_of k1 lNB hb,keep_of k2 lNB hb,keep_of k3 lNB hb,keep_of k4 lNB hb,keep_of k5 lNB hb,keep_of hr lNB hb,keep_of hs lND hb⟩) (HBw.out.trans (hb'.mono HBw.out.size)))
 go_cut [9] (FrMade2 w sk wi slot)
 case first =>
  refine wp_region_held_drew (S:=fun w'=>w'.cell? ⟨NB,0,none⟩=some (Z Y c.N)∧w'.cell? ⟨NB,1,none⟩=some (Z Y c.Pi)∧w'.cell? ⟨NB,2,none⟩=some (Z Y c.Er)∧w'.cell? ⟨NB,3,none⟩=some (Z Y c.G)∧w'.cell? ⟨NB,4,none⟩=some (Z Y c.Fi)∧w'.cell? ⟨NB,5,none⟩=some (.slice c.PA c.ps.length c.PC)∧w'.cell? ⟨NB,17,none⟩=some (Z Y round)∧w'.cell? ⟨ND,i*7,none⟩=some (Z Y st)) (by kernel_rfl) (HK.out _ HB0.out.drew) (fun hHeld=>?_)
  refine rgT 0 ?_
  refine rgT 1 ?_
  refine rgT 2 ?_
  refine rgT 3 ?_
  refine rgT 5 ?_
  refine rgT 6 ?_
  refine rgT 7 ?_
  refine rgT 8 ?_
  refine rgT 9 ?_
  refine rgT 10 ?_
  refine rgT 11 ?_
  refine rgT 12 ?_
  refine rgT 14 ?_
  refine wpAnyH_ready (rs:=[4,16]) (by kernel_rfl) (by simp) (AllReadyH.cons rfl (fun K hK=>?_) (AllReadyH.cons rfl (fun K hK=>?_) AllReadyH.nil))
  ·go_simp
   refine(HS.out _).mono ?_
   rintro e wS ⟨rfl,hbS⟩
   have HB1:=O (Below.trans (show Zb wv.heap.size wv _ from by first | exact HB0.out | exact HB0.out.drew) (hbS.mono (by first | exact HB0.out.size | exact HB0.out.drew.size)))
   clear hbS
   go_simp
   refine hK.out _ _ (HK.out _ (by first | exact HB1.out | exact HB1.out.drew)) (fun hHeld=>?_)
   clear hK K
   refine wpAnyH_ready (rs:=[13,16]) (by kernel_rfl) (by simp) (AllReadyH.cons rfl (fun K hK=>?_) (AllReadyH.cons rfl (fun K hK=>?_) AllReadyH.nil))
   ·go_simp
    refine(HW.out _).mono ?_
    rintro e wW ⟨rfl,hbW⟩
    have HB2:=O (Below.trans (show Zb wv.heap.size wv _ from by first | exact HB1.out | exact HB1.out.drew) (hbW.mono (by first | exact HB1.out.size | exact HB1.out.drew.size)))
    clear hbW
    go_simp
    refine hK.out _ _ (HK.out _ (by first | exact HB2.out | exact HB2.out.drew)) (fun hHeld=>?_)
    clear hK K
    refine rgT 15 ?_
    refine rgR 16 fun K hK=>?_
    go_simp
    have HB3:=O (HB2.out.alloc HB2.out.size (.cells #[Z Y 0,Z Y 0,Z Y 0,Z Y 0,Z Y 0,.slice none 0 0] 118))
    have hF3:=O (Zh wW (.cells #[Z Y 0,Z Y 0,Z Y 0,Z Y 0,Z Y 0,.slice none 0 0] 118))
    refine hK.out _ _ (HK.out _ (by first | exact HB3.out | exact HB3.out.drew)) (fun hHeld=>?_)
    clear hK K
    refine rgR 17 fun K hK=>?_
    go_simp
    refine hK.out _ _ (HK.out _ (HB2.out.alloc HB2.out.size _)) (fun hHeld=>?_)
    clear hK K
    refine wpAnyH_done (by kernel_rfl) ?_ _
    go_wp2_with fail
    go_meet
    exact made_new HB2.out HX.out.1 HX.out.2 hF0.out
   ·go_simp
    have HB2:=O (HB1.out.alloc HB1.out.size (.cells #[Z Y 0,Z Y 0,Z Y 0,Z Y 0,Z Y 0,.slice none 0 0] 118))
    have hF2:=O (Zh wS (.cells #[Z Y 0,Z Y 0,Z Y 0,Z Y 0,Z Y 0,.slice none 0 0] 118))
    refine hK.out _ _ (HK.out _ (by first | exact HB2.out | exact HB2.out.drew)) (fun hHeld=>?_)
    clear hK K
    refine rgR 13 fun K hK=>?_
    go_simp
    refine(HW.out _).mono ?_
    rintro e wW ⟨rfl,hbW⟩
    have HB3:=O (Below.trans (show Zb wv.heap.size wv _ from by first | exact HB2.out | exact HB2.out.drew) (hbW.mono (by first | exact HB2.out.size | exact HB2.out.drew.size)))
    have hF3:=O ((hbW.block _ (heap_lt hF2.out)).trans hF2.out)
    clear hbW
    go_simp
    refine hK.out _ _ (HK.out _ (by first | exact HB3.out | exact HB3.out.drew)) (fun hHeld=>?_)
    clear hK K
    refine rgT 15 ?_
    have x0:wW.cell? ⟨wS.heap.size,0,none⟩=some (Z Y 0):=by rw [blk_cell hF3.out];rfl
    have y0:wW.frozen? ⟨wS.heap.size,0,none⟩=false:=blk_frozen hF3.out _
    have x1:wW.cell? ⟨wS.heap.size,1,none⟩=some (Z Y 0):=by rw [blk_cell hF3.out];rfl
    have y1:wW.frozen? ⟨wS.heap.size,1,none⟩=false:=blk_frozen hF3.out _
    have x2:wW.cell? ⟨wS.heap.size,2,none⟩=some (Z Y 0):=by rw [blk_cell hF3.out];rfl
    have y2:wW.frozen? ⟨wS.heap.size,2,none⟩=false:=blk_frozen hF3.out _
    have x3:wW.cell? ⟨wS.heap.size,3,none⟩=some (Z Y 0):=by rw [blk_cell hF3.out];rfl
    have y3:wW.frozen? ⟨wS.heap.size,3,none⟩=false:=blk_frozen hF3.out _
    have x4:wW.cell? ⟨wS.heap.size,4,none⟩=some (Z Y 0):=by rw [blk_cell hF3.out];rfl
    have y4:wW.frozen? ⟨wS.heap.size,4,none⟩=false:=blk_frozen hF3.out _
    have x5:wW.cell? ⟨wS.heap.size,5,none⟩=some (.slice none 0 0):=by rw [blk_cell hF3.out];rfl
    have y5:wW.frozen? ⟨wS.heap.size,5,none⟩=false:=blk_frozen hF3.out _
    refine rgR 17 fun K hK=>?_
    go_simp
    refine hK.out _ _ (HK.out _ ((((((HB3.out.setCell (p:=⟨wS.heap.size,0,none⟩) (HB1.out.size) _).setCell (p:=⟨wS.heap.size,1,none⟩) (HB1.out.size) _).setCell (p:=⟨wS.heap.size,2,none⟩) (HB1.out.size) _).setCell (p:=⟨wS.heap.size,3,none⟩) (HB1.out.size) _).setCell (p:=⟨wS.heap.size,4,none⟩) (HB1.out.size) _).setCell (p:=⟨wS.heap.size,5,none⟩) (HB1.out.size) _)) (fun hHeld=>?_)
    clear hK K
    refine wpAnyH_done (by kernel_rfl) ?_ _
    go_wp2_with fail
    go_meet
    exact made_set hF3.out HB3.out HB1.out.size HX.out.1 HX.out.2 hF0.out
  ·go_simp
   have HB1:=O (HB0.out.alloc HB0.out.size (.cells #[Z Y 0,Z Y 0,Z Y 0,Z Y 0,Z Y 0,.slice none 0 0] 118))
   have hF1:=O (Zh wv (.cells #[Z Y 0,Z Y 0,Z Y 0,Z Y 0,Z Y 0,.slice none 0 0] 118))
   refine hK.out _ _ (HK.out _ (by first | exact HB1.out | exact HB1.out.drew)) (fun hHeld=>?_)
   clear hK K
   refine rgR 4 fun K hK=>?_
   go_simp
   refine(HS.out _).mono ?_
   rintro e wS ⟨rfl,hbS⟩
   have HB2:=O (Below.trans (show Zb wv.heap.size wv _ from by first | exact HB1.out | exact HB1.out.drew) (hbS.mono (by first | exact HB1.out.size | exact HB1.out.drew.size)))
   have hF2:=O ((hbS.block _ (heap_lt hF1.out)).trans hF1.out)
   clear hbS
   go_simp
   refine hK.out _ _ (HK.out _ (by first | exact HB2.out | exact HB2.out.drew)) (fun hHeld=>?_)
   clear hK K
   refine rgR 13 fun K hK=>?_
   go_simp
   refine(HW.out _).mono ?_
   rintro e wW ⟨rfl,hbW⟩
   have HB3:=O (Below.trans (show Zb wv.heap.size wv _ from by first | exact HB2.out | exact HB2.out.drew) (hbW.mono (by first | exact HB2.out.size | exact HB2.out.drew.size)))
   have hF3:=O ((hbW.block _ (heap_lt hF2.out)).trans hF2.out)
   clear hbW
   go_simp
   refine hK.out _ _ (HK.out _ (by first | exact HB3.out | exact HB3.out.drew)) (fun hHeld=>?_)
   clear hK K
   refine rgT 15 ?_
   have x0:wW.cell? ⟨wv.heap.size,0,none⟩=some (Z Y 0):=by rw [blk_cell hF3.out];rfl
   have y0:wW.frozen? ⟨wv.heap.size,0,none⟩=false:=blk_frozen hF3.out _
   have x1:wW.cell? ⟨wv.heap.size,1,none⟩=some (Z Y 0):=by rw [blk_cell hF3.out];rfl
   have y1:wW.frozen? ⟨wv.heap.size,1,none⟩=false:=blk_frozen hF3.out _
   have x2:wW.cell? ⟨wv.heap.size,2,none⟩=some (Z Y 0):=by rw [blk_cell hF3.out];rfl
   have y2:wW.frozen? ⟨wv.heap.size,2,none⟩=false:=blk_frozen hF3.out _
   have x3:wW.cell? ⟨wv.heap.size,3,none⟩=some (Z Y 0):=by rw [blk_cell hF3.out];rfl
   have y3:wW.frozen? ⟨wv.heap.size,3,none⟩=false:=blk_frozen hF3.out _
   have x4:wW.cell? ⟨wv.heap.size,4,none⟩=some (Z Y 0):=by rw [blk_cell hF3.out];rfl
   have y4:wW.frozen? ⟨wv.heap.size,4,none⟩=false:=blk_frozen hF3.out _
   have x5:wW.cell? ⟨wv.heap.size,5,none⟩=some (.slice none 0 0):=by rw [blk_cell hF3.out];rfl
   have y5:wW.frozen? ⟨wv.heap.size,5,none⟩=false:=blk_frozen hF3.out _
   refine rgR 17 fun K hK=>?_
   go_simp
   refine hK.out _ _ (HK.out _ ((((((HB3.out.setCell (p:=⟨wv.heap.size,0,none⟩) (HB0.out.size) _).setCell (p:=⟨wv.heap.size,1,none⟩) (HB0.out.size) _).setCell (p:=⟨wv.heap.size,2,none⟩) (HB0.out.size) _).setCell (p:=⟨wv.heap.size,3,none⟩) (HB0.out.size) _).setCell (p:=⟨wv.heap.size,4,none⟩) (HB0.out.size) _).setCell (p:=⟨wv.heap.size,5,none⟩) (HB0.out.size) _)) (fun hHeld=>?_)
   clear hK K
   refine wpAnyH_done (by kernel_rfl) ?_ _
   go_wp2_with fail
   go_meet
   exact made_set hF3.out HB3.out HB0.out.size HX.out.1 HX.out.2 hF0.out
 case rest =>
  obtain⟨F,rfl,hF,hFge,hFne,hZ,hB⟩:=hcut
  have HF:=O hF
  have HZ:=O hZ
  have HB:=O hB
  have hQ1:=O (HQ.out.below hB)
  have lQ:=HQ.out.lt
  have n18:=keep_of hn lNB hB
  have nN:=keep_of k0 lNB hB
  have dq:=keep_of hq lND hB
  have dg:=keep_of hg lND hB
  have lF:=heap_lt hF
  have lNB1:=Nat.lt_of_lt_of_le lNB hB.size
  have lND1:=Nat.lt_of_lt_of_le lND hB.size
  clear HS HW HBw hF0 hW0 HK HB0 HX k0 k1 k2 k3 k4 k5 hr hn hs hq hg
  have x0:wc.cell? ⟨F,0,none⟩=some (Z Y sk):=by rw [blk_cell hF];rfl
  by_cases h4:st=4
  ·subst h4
   obtain rfl:sk=3:=HSF.out.symm
   have x3:wc.cell? ⟨F,3,none⟩=some (Z Y 0):=by rw [blk_cell hF];rfl
   clear hF hZ hB
   by_cases hsn:slot < c.N
   ·have l0:(slot:Int) < (c.N:Int):=by omega
    go_wp2_with fail
    refine(queue_Next Q _ slot q _ hQ1.out hsl).mono ?_
    rintro e w2 ⟨rfl,hbut,hQ2⟩
    have f2:=(hbut.block F lF (by omega)).trans HF.out
    have z2:=(hbut.block w.heap.size (heap_lt HZ.out) (by omega)).trans HZ.out
    have m18:=(hbut.cell (p:=⟨NB,18,none⟩) lNB1 (fun e=>hQN e.symm)).trans n18
    have m5:=(hbut.cell (p:=⟨ND,i*7+5,none⟩) lND1 (fun e=>hQD e.symm)).trans dg
    have HNb2:=O ((HNb.out.keep (HB.out.block NB lNB)).keep (hbut.block NB lNB1 (fun e=>hQN e.symm)))
    have x0':w2.cell? ⟨F,0,none⟩=some (Z Y (3:Nat)):=by rw [blk_cell f2];rfl
    have z0':w2.cell? ⟨w.heap.size,0,none⟩=some (Z Y 0):=by rw [blk_cell z2];rfl
    have x1':w2.cell? ⟨F,1,none⟩=some (Z Y wi):=by rw [blk_cell f2];rfl
    have z1':w2.cell? ⟨w.heap.size,1,none⟩=some (Z Y 0):=by rw [blk_cell z2];rfl
    have x2':w2.cell? ⟨F,2,none⟩=some (Z Y slot):=by rw [blk_cell f2];rfl
    have z2':w2.cell? ⟨w.heap.size,2,none⟩=some (Z Y 0):=by rw [blk_cell z2];rfl
    have x3':w2.cell? ⟨F,3,none⟩=some (Z Y 0):=by rw [blk_cell f2];rfl
    have z3':w2.cell? ⟨w.heap.size,3,none⟩=some (Z Y 0):=by rw [blk_cell z2];rfl
    have x4':w2.cell? ⟨F,4,none⟩=some (Z Y 0):=by rw [blk_cell f2];rfl
    have z4':w2.cell? ⟨w.heap.size,4,none⟩=some (Z Y 0):=by rw [blk_cell z2];rfl
    have x5':w2.cell? ⟨F,5,none⟩=some (.slice none 0 0):=by rw [blk_cell f2];rfl
    have z5':w2.cell? ⟨w.heap.size,5,none⟩=some (.slice none 0 0):=by rw [blk_cell z2];rfl
    have yF:∀ o,w2.frozen? ⟨F,o,none⟩=false:=fun o=>blk_frozen f2 o
    have yZ:∀ o,w2.frozen? ⟨w.heap.size,o,none⟩=false:=fun o=>blk_frozen z2 o
    have HF2:=O f2
    have HZ2:=O z2
    have HBu:=O hbut
    have HQ2:=O hQ2
    have hz2:=hbut.size
    generalize hpk:(if(q slot).isSome then 2 else 1:Nat)=pk at *
    generalize hpv:(q slot).getD 0=pv at *
    have HPk:=O (And.intro hpk hpv)
    clear f2 z2 hbut hQ2 hpk hpv x0 x3 n18 dg dq
    have hFne':w.heap.size≠F:=Ne.symm hFne
    have lF2:F < w2.heap.size:=by omega
    have lZ2:w.heap.size < w2.heap.size:=by omega
    cases g with
    | none =>
     have hG:=HGn.out
     subst hG
     go_wp2_with fail
     refine(net_echo_nil c NB ND i _ HC.out ((HNb2.out.keep (Below.heap_setCell _ _ _ _ (show NB≠F by omega))).keep (Below.heap_setCell _ _ _ _ (show NB≠F by omega))) (set_keep (set_keep m18 (show NB≠F by omega)) (show NB≠F by omega)) hi (set_keep (set_keep m5 (show ND≠F by omega)) (show ND≠F by omega))).mono ?_
     rintro e w3 ⟨A,C,rfl,hI3,hA3,hb3⟩
     have hI3':=O hI3
     have hA3':=O hA3
     have hz3:=hb3.size
     simp only [World.size_setCell]at hz3
     have f3:=(hb3.block F (by simpa using lF2)).trans (made2 HF2.out)
     have z3:=(hb3.block w.heap.size (by simpa using lZ2)).trans (((Below.heap_setCell _ _ _ _ hFne').trans (Below.heap_setCell _ _ _ _ hFne')).trans HZ2.out)
     have HB3:=O hb3
     clear x0' x1' x2' x3' x4' x5' z0' z1' z2' z3' z4' z5' yF yZ hI3 hA3 hb3
     have x0':w3.cell? ⟨F,0,none⟩=some (Z Y (3:Nat)):=by rw [blk_cell f3];rfl
     have z0':w3.cell? ⟨w.heap.size,0,none⟩=some (Z Y 0):=by rw [blk_cell z3];rfl
     have x1':w3.cell? ⟨F,1,none⟩=some (Z Y wi):=by rw [blk_cell f3];rfl
     have z1':w3.cell? ⟨w.heap.size,1,none⟩=some (Z Y 0):=by rw [blk_cell z3];rfl
     have x2':w3.cell? ⟨F,2,none⟩=some (Z Y slot):=by rw [blk_cell f3];rfl
     have z2':w3.cell? ⟨w.heap.size,2,none⟩=some (Z Y 0):=by rw [blk_cell z3];rfl
     have x3':w3.cell? ⟨F,3,none⟩=some (Z Y pk):=by rw [blk_cell f3];rfl
     have z3':w3.cell? ⟨w.heap.size,3,none⟩=some (Z Y 0):=by rw [blk_cell z3];rfl
     have x4':w3.cell? ⟨F,4,none⟩=some (Z Y pv):=by rw [blk_cell f3];rfl
     have z4':w3.cell? ⟨w.heap.size,4,none⟩=some (Z Y 0):=by rw [blk_cell z3];rfl
     have x5':w3.cell? ⟨F,5,none⟩=some (.slice none 0 0):=by rw [blk_cell f3];rfl
     have z5':w3.cell? ⟨w.heap.size,5,none⟩=some (.slice none 0 0):=by rw [blk_cell z3];rfl
     have yF:∀ o,w3.frozen? ⟨F,o,none⟩=false:=fun o=>blk_frozen f3 o
     have yZ:∀ o,w3.frozen? ⟨w.heap.size,o,none⟩=false:=fun o=>blk_frozen z3 o
     clear f3 z3
     go_wp2_with fail
     refine bodyPost_ret (v :=.tuple #[.agg #[Z Y 3,Z Y wi,Z Y slot,Z Y pk,Z Y pv,.slice A (c.N+c.ps.length) C],.bool true]) (by simp [results,Tryz.results59,go_sem,z0',z1',z2',z3',z4',z5',hFne,hFne']) rfl ?_
     refine frame_sent (f:=⟨3,wi,slot,pk,pv,List.replicate (c.N+c.ps.length) (0,0)⟩) (w2:=w2) (EA:=A) (EC:=C) ?_ ?_ ?_ ?_ ?_ lQ ?_
     ·unfold frameF;rw [if_pos rfl,if_pos hsn,HPk.out.1,HPk.out.2];rfl
     ·rw [List.length_replicate];rfl
     ·refine items_but (T:=fun x=>x < w2.heap.size) hI3'.out ?_ (fun b off h _=>by have:=hA3'.out b off h;simp at this;omega)
      repeat refine But.setCell ?_ (.inl (by first | exact lF2 | exact lZ2)) _
      exact But.refl _ _
     ·exact(But.of_below HB.out (Zr _)).trans HBu.out
     ·exact HQ2.out
     ·repeat refine But.setCell ?_ (.inl (by first | exact⟨hFge,lF2⟩ | exact⟨Zr _,lZ2⟩)) _
      refine But.trans ?_ (But.of_below HB3.out (by simp))
      repeat refine But.setCell ?_ (.inl (by first | exact⟨hFge,lF2⟩ | exact⟨Zr _,lZ2⟩)) _
      exact But.refl _ _
    | some l =>
     obtain⟨hl,b,C,hgv,hbl,hIt⟩:=HGn.out
     subst hgv
     have hbQ:=HGQ.out b C rfl
     go_wp2_with fail
     refine(net_echo_some c.N NB ND i b _ C _ (set_keep (set_keep m18 (show NB≠F by omega)) (show NB≠F by omega)) hi (set_keep (set_keep m5 (show ND≠F by omega)) (show ND≠F by omega))).mono ?_
     rintro e w3 ⟨rfl,rfl⟩
     go_wp2_with fail
     refine bodyPost_ret (v :=.tuple #[.agg #[Z Y 3,Z Y wi,Z Y slot,Z Y pk,Z Y pv,.slice (some ⟨b,0,none⟩) (c.N+c.ps.length) C],.bool true]) (by simp [results,Tryz.results59,go_sem,z0',z1',z2',z3',z4',z5',hFne,hFne']) rfl ?_
     refine frame_sent (f:=⟨3,wi,slot,pk,pv,l⟩) (w2:=w2) (EA:=some ⟨b,0,none⟩) (EC:=C) ?_ ?_ ?_ ?_ ?_ lQ ?_
     ·unfold frameF;rw [if_pos rfl,if_pos hsn,HPk.out.1,HPk.out.2];rfl
     ·rw [← hl];rfl
     ·refine items_but (T:=fun x=>w.heap.size≤x∧x < w2.heap.size) (w:=w2) (items_but (items_but hIt (But.of_below HB.out (Zr _)) (fun b off h _=>id) (T:=fun _=>False)) HBu.out (fun b' off h _ e=>by injection h with h;injection h with h _;exact hbQ (h.trans e))) ?_ (fun b' off h _=>by injection h with h;injection h with h _;omega)
      repeat refine But.setCell ?_ (.inl (by first | exact⟨hFge,lF2⟩ | exact⟨Zr _,lZ2⟩)) _
      exact But.refl _ _
     ·exact(But.of_below HB.out (Zr _)).trans HBu.out
     ·exact HQ2.out
     ·repeat refine But.setCell ?_ (.inl (by first | exact⟨hFge,lF2⟩ | exact⟨Zr _,lZ2⟩)) _
      exact But.refl _ _
   ·have l0:decide ((slot:Int) < (c.N:Int))=false:=by simp;omega
    have l0':decide (slot < c.N)=false:=by simp;omega
    go_wp2_with fail
    refine(queue_Next Q _ slot q _ hQ1.out hsl).mono ?_
    rintro e w2 ⟨rfl,hbut,hQ2⟩
    have f2:=(hbut.block F lF (by omega)).trans HF.out
    have z2:=(hbut.block w.heap.size (heap_lt HZ.out) (by omega)).trans HZ.out
    have m18:=(hbut.cell (p:=⟨NB,18,none⟩) lNB1 (fun e=>hQN e.symm)).trans n18
    have m5:=(hbut.cell (p:=⟨ND,i*7+5,none⟩) lND1 (fun e=>hQD e.symm)).trans dg
    have HNb2:=O ((HNb.out.keep (HB.out.block NB lNB)).keep (hbut.block NB lNB1 (fun e=>hQN e.symm)))
    have x0':w2.cell? ⟨F,0,none⟩=some (Z Y (3:Nat)):=by rw [blk_cell f2];rfl
    have z0':w2.cell? ⟨w.heap.size,0,none⟩=some (Z Y 0):=by rw [blk_cell z2];rfl
    have x1':w2.cell? ⟨F,1,none⟩=some (Z Y wi):=by rw [blk_cell f2];rfl
    have z1':w2.cell? ⟨w.heap.size,1,none⟩=some (Z Y 0):=by rw [blk_cell z2];rfl
    have x2':w2.cell? ⟨F,2,none⟩=some (Z Y slot):=by rw [blk_cell f2];rfl
    have z2':w2.cell? ⟨w.heap.size,2,none⟩=some (Z Y 0):=by rw [blk_cell z2];rfl
    have x3':w2.cell? ⟨F,3,none⟩=some (Z Y 0):=by rw [blk_cell f2];rfl
    have z3':w2.cell? ⟨w.heap.size,3,none⟩=some (Z Y 0):=by rw [blk_cell z2];rfl
    have x4':w2.cell? ⟨F,4,none⟩=some (Z Y 0):=by rw [blk_cell f2];rfl
    have z4':w2.cell? ⟨w.heap.size,4,none⟩=some (Z Y 0):=by rw [blk_cell z2];rfl
    have x5':w2.cell? ⟨F,5,none⟩=some (.slice none 0 0):=by rw [blk_cell f2];rfl
    have z5':w2.cell? ⟨w.heap.size,5,none⟩=some (.slice none 0 0):=by rw [blk_cell z2];rfl
    have yF:∀ o,w2.frozen? ⟨F,o,none⟩=false:=fun o=>blk_frozen f2 o
    have yZ:∀ o,w2.frozen? ⟨w.heap.size,o,none⟩=false:=fun o=>blk_frozen z2 o
    have HF2:=O f2
    have HZ2:=O z2
    have HBu:=O hbut
    have HQ2:=O hQ2
    have hz2:=hbut.size
    generalize hpk:(if(q slot).isSome then 2 else 1:Nat)=pk at *
    generalize hpv:(q slot).getD 0=pv at *
    have HPk:=O (And.intro hpk hpv)
    clear f2 z2 hbut hQ2 hpk hpv x0 x3 n18 dg dq
    have hFne':w.heap.size≠F:=Ne.symm hFne
    have lF2:F < w2.heap.size:=by omega
    have lZ2:w.heap.size < w2.heap.size:=by omega
    go_wp2_with fail
    refine bodyPost_ret (v :=.tuple #[.agg #[Z Y 3,Z Y wi,Z Y slot,Z Y pk,Z Y pv,.slice none 0 0],.bool true]) (by simp [results,Tryz.results59,go_sem,z0',z1',z2',z3',z4',z5',hFne,hFne']) rfl ?_
    refine frame_sent (f:=⟨3,wi,slot,pk,pv,[]⟩) (w2:=w2) (EA:=none) (EC:=0) ?_ ?_ ?_ ?_ ?_ lQ ?_
    ·unfold frameF;rw [if_pos rfl,if_neg hsn,HPk.out.1,HPk.out.2]
    ·rfl
    ·exact fun k hk=>absurd hk (by simp)
    ·exact(But.of_below HB.out (Zr _)).trans HBu.out
    ·exact HQ2.out
    ·repeat refine But.setCell ?_ (.inl (by first | exact⟨hFge,lF2⟩ | exact⟨Zr _,lZ2⟩)) _
     exact But.refl _ _
  ·have hFne':w.heap.size≠F:=Ne.symm hFne
   have lF2:F < wc.heap.size:=by omega
   have lZ2:w.heap.size < wc.heap.size:=heap_lt hZ
   have x0':wc.cell? ⟨F,0,none⟩=some (Z Y sk):=by rw [blk_cell hF];rfl
   have z0':wc.cell? ⟨w.heap.size,0,none⟩=some (Z Y 0):=by rw [blk_cell hZ];rfl
   have x1':wc.cell? ⟨F,1,none⟩=some (Z Y wi):=by rw [blk_cell hF];rfl
   have z1':wc.cell? ⟨w.heap.size,1,none⟩=some (Z Y 0):=by rw [blk_cell hZ];rfl
   have x2':wc.cell? ⟨F,2,none⟩=some (Z Y slot):=by rw [blk_cell hF];rfl
   have z2':wc.cell? ⟨w.heap.size,2,none⟩=some (Z Y 0):=by rw [blk_cell hZ];rfl
   have x3':wc.cell? ⟨F,3,none⟩=some (Z Y 0):=by rw [blk_cell hF];rfl
   have z3':wc.cell? ⟨w.heap.size,3,none⟩=some (Z Y 0):=by rw [blk_cell hZ];rfl
   have x4':wc.cell? ⟨F,4,none⟩=some (Z Y 0):=by rw [blk_cell hF];rfl
   have z4':wc.cell? ⟨w.heap.size,4,none⟩=some (Z Y 0):=by rw [blk_cell hZ];rfl
   have x5':wc.cell? ⟨F,5,none⟩=some (.slice none 0 0):=by rw [blk_cell hF];rfl
   have z5':wc.cell? ⟨w.heap.size,5,none⟩=some (.slice none 0 0):=by rw [blk_cell hZ];rfl
   have yF:∀ o,wc.frozen? ⟨F,o,none⟩=false:=fun o=>blk_frozen hF o
   have yZ:∀ o,wc.frozen? ⟨w.heap.size,o,none⟩=false:=fun o=>blk_frozen hZ o
   clear x0 hF hZ hB
   by_cases h23:st=2∨st=3
   ·have hsk:sk=1∨sk=2:=by
     rcases h23 with rfl | rfl
     ·exact .inl HSF.out.symm
     ·exact .inr HSF.out.symm
    have k0':((sk:Int) == 0)=false:=by simp;omega
    have k0'':(sk == 0)=false:=by simp;omega
    have k3':((sk:Int) == 3)=false:=by simp;omega
    have k3'':(sk == 3)=false:=by simp;omega
    have k3x:((sk:Int) != 3)=true:=by simp;omega
    have hfk:sendsF st=sk:=HSF.out
    have HFK:=O hfk
    have H23:=O h23
    have H4:=O h4
    clear hsk hfk h23 h4
    by_cases hsn:slot < c.N
    ·have l0:(slot:Int) < (c.N:Int):=by omega
     go_wp2_with fail
     refine bodyPost_ret (v :=.tuple #[.agg #[Z Y sk,Z Y wi,Z Y slot,Z Y 0,Z Y 0,.slice none 0 0],.bool true]) (by simp [results,Tryz.results59,go_sem,z0',z1',z2',z3',z4',z5',hFne,hFne']) rfl ?_
     refine frame_sent (f:=⟨sk,wi,slot,0,0,[]⟩) (w2:=wc) (EA:=none) (EC:=0) ?_ ?_ ?_ ?_ ?_ lQ ?_
     ·unfold frameF;rw [if_neg H4.out,if_pos H23.out,if_pos hsn,HFK.out]
     ·rfl
     ·exact fun k hk=>absurd hk (by simp)
     ·exact But.of_below HB.out (Zr _)
     ·first | exact hQ1.out | (rw [if_neg H4.out];exact hQ1.out)
     ·repeat refine But.setCell ?_ (.inl (by first | exact⟨hFge,lF2⟩ | exact⟨Zr _,lZ2⟩)) _
      exact But.refl _ _
    ·have l0:decide ((slot:Int) < (c.N:Int))=false:=by simp;omega
     have l0':decide (slot < c.N)=false:=by simp;omega
     go_wp2_with fail
     refine bodyPost_ret (v :=.tuple #[.agg #[Z Y sk,Z Y wi,Z Y slot,Z Y 0,Z Y 0,.slice none 0 0],.bool false]) (by simp [results,Tryz.results59,go_sem,z0',z1',z2',z3',z4',z5',hFne,hFne']) rfl ?_
     refine frame_not (k:=sk) (r:=wi) (s:=slot) (w2:=wc) ?_ rfl ?_ ?_ lQ ?_
     ·unfold frameF;rw [if_neg H4.out,if_pos H23.out,if_neg hsn]
     ·exact But.of_below HB.out (Zr _)
     ·first | exact hQ1.out | (rw [if_neg H4.out];exact hQ1.out)
     ·repeat refine But.setCell ?_ (.inl (by first | exact⟨hFge,lF2⟩ | exact⟨Zr _,lZ2⟩)) _
      exact But.refl _ _
   ·have hsk:sk=0:=by
     have h01:st=0∨st=1:=by omega
     rcases h01 with rfl | rfl <;> exact HSF.out.symm
    subst hsk
    have H23:=O h23
    have H4:=O h4
    clear h23 h4
    go_wp2_with fail
    refine bodyPost_ret (v :=.tuple #[.agg #[Z Y 0,Z Y wi,Z Y slot,Z Y 0,Z Y 0,.slice none 0 0],.bool false]) (by simp [results,Tryz.results59,go_sem,z0',z1',z2',z3',z4',z5',hFne,hFne']) rfl ?_
    refine frame_not (k:=0) (r:=wi) (s:=slot) (w2:=wc) ?_ rfl ?_ ?_ lQ ?_
    ·unfold frameF;rw [if_neg H4.out,if_neg H23.out]
    ·exact But.of_below HB.out (Zr _)
    ·first | exact hQ1.out | (rw [if_neg H4.out];exact hQ1.out)
    ·repeat refine But.setCell ?_ (.inl (by first | exact⟨hFge,lF2⟩ | exact⟨Zr _,lZ2⟩)) _
     exact But.refl _ _
end A46
namespace E4
open Go.RowKit A14
theorem setO {w:Zw} {Q a b:Nat} {v:Value} (h:a≠b):(w.setCell ⟨Q,b,none⟩ v).cell? ⟨Q,a,none⟩=w.cell? ⟨Q,a,none⟩:=Zo _ _ _ _ (fun e=>by injection e with _ e;omega)
theorem queue_Clear (Q o:Nat) (u:Nat→Value) (w:Zw) (hc:∀ j,j < 5→w.cell? ⟨Q,o+j,none⟩=some (u j)) (hf:∀ j,w.frozen? ⟨Q,j,none⟩=false) :
 Zc Zp 93 #[.pointer (some ⟨Q,o,none⟩)] w fun e w'=>e=.returned (.tuple #[])∧But (fun x=>x=Q) w w'∧(∀ j,j < 5→w'.cell? ⟨Q,o+j,none⟩=some (Z Y 0))∧(∀ j,¬(o≤j∧j < o+5)→w'.cell? ⟨Q,j,none⟩=w.cell? ⟨Q,j,none⟩)∧∀ j,w'.frozen? ⟨Q,j,none⟩=w.frozen? ⟨Q,j,none⟩:=by
 have c0:=hc 0 (by omega)
 have c1:=hc 1 (by omega)
 have c2:=hc 2 (by omega)
 have c3:=hc 3 (by omega)
 have c4:=hc 4 (by omega)
 rw [Nat.add_zero]at c0
 have f0:=hf o
 have f1:=hf (o+1)
 have f2:=hf (o+2)
 have f3:=hf (o+3)
 have f4:=hf (o+4)
 clear hc hf
 go_enter Tryz.func93,Tryz.ntmps93
 go_wp2
 go_end0
 refine⟨rfl,(((((But.refl (fun x=>x=Q) w).setCell (.inl rfl) _).setCell (.inl rfl) _).setCell (.inl rfl) _).setCell (.inl rfl) _).setCell (.inl rfl) _,fun j hj=>?_,fun j hj=>?_,fun j=>by simp only [World.frozen?_setCell]⟩
 ·have:j=0∨j=1∨j=2∨j=3∨j=4:=by omega
  rcases this with rfl | rfl | rfl | rfl | rfl
  ·rw [setO (by omega),setO (by omega),setO (by omega),setO (by omega)];exact World.cell?_setCell_same _ _ _ c0
  ·rw [setO (by omega),setO (by omega),setO (by omega)];exact World.cell?_setCell_same _ _ _ ((setO (by omega)).trans c1)
  ·rw [setO (by omega),setO (by omega)];exact World.cell?_setCell_same _ _ _ ((setO (by omega)).trans ((setO (by omega)).trans c2))
  ·rw [setO (by omega)];exact World.cell?_setCell_same _ _ _ ((setO (by omega)).trans ((setO (by omega)).trans ((setO (by omega)).trans c3)))
  ·exact World.cell?_setCell_same _ _ _ ((setO (by omega)).trans ((setO (by omega)).trans ((setO (by omega)).trans ((setO (by omega)).trans c4))))
 ·rw [setO (by omega),setO (by omega),setO (by omega),setO (by omega),setO (by omega)]
end E4
namespace E5
open Go.RowKit A14 A45 E4
theorem node_listen (B o:Nat) (u0 u1:Value) (w:Zw) (h0:w.cell? ⟨B,o,none⟩=some u0) (h1:w.cell? ⟨B,o+1,none⟩=some u1) (f0:w.frozen? ⟨B,o,none⟩=false) (f1:w.frozen? ⟨B,o+1,none⟩=false) :
 Zc Zp 55 #[.pointer (some ⟨B,o,none⟩)] w fun e w'=>e=.returned (.tuple #[])∧w'=(w.setCell ⟨B,o,none⟩ (Z Y 1)).setCell ⟨B,o+1,none⟩ (Z Y 0):=by
 go_enter Tryz.func55,Tryz.ntmps55
 go_wp2
 go_end0
 exact⟨rfl,rfl⟩
theorem set_keep2 {w:Zw} {B o o':Nat} {u v:Value} (h:w.cell? ⟨B,o,none⟩=some v) (hne:o≠o'):(w.setCell ⟨B,o',none⟩ u).cell? ⟨B,o,none⟩=some v:=(Zo _ _ _ _ (fun e=>by injection e with _ e;omega)).trans h
structure RstPost (ND o Q S:Nat) (w w':Zw):Prop where
 but:But (fun b=>b=ND∨b=Q) w w'
 c0:w'.cell? ⟨ND,o,none⟩=some (Z Y 1)
 c1:w'.cell? ⟨ND,o+1,none⟩=some (Z Y 0)
 c5:w'.cell? ⟨ND,o+5,none⟩=some (.slice none 0 0)
 other:∀ j,j≠o→j≠o+1→j≠o+5→w'.cell? ⟨ND,j,none⟩=w.cell? ⟨ND,j,none⟩
 fr:∀ j,w'.frozen? ⟨ND,j,none⟩=w.frozen? ⟨ND,j,none⟩
 qa:QAt w' Q S (fun _=>none)
structure ClrK (ND Q S k:Nat) (q:Nat→Option Nat) (w wr:Zw):Prop where
 but:But (fun b=>b=Q) w wr
 qa:QAt wr Q S (fun s=>if s < k then none else q s)
theorem ClrK.next {ND Q S k:Nat} {q:Nat→Option Nat} {w wr w2:Zw} (h:ClrK ND Q S k q w wr) (hk:k < S) (hb:But (fun x=>x=Q) wr w2) (hz:∀ j,j < 5→w2.cell? ⟨Q,k*5+j,none⟩=some (Z Y 0)) (ho:∀ j,¬(k*5≤j∧j < k*5+5)→w2.cell? ⟨Q,j,none⟩=wr.cell? ⟨Q,j,none⟩) (hf:∀ j,w2.frozen? ⟨Q,j,none⟩=wr.frozen? ⟨Q,j,none⟩):ClrK ND Q S (k+1) q w w2:=by
 refine⟨h.but.trans hb,⟨Nat.lt_of_lt_of_le h.qa.lt hb.size,fun o=>(hf o).trans (h.qa.fr o),fun s hs=>?_,fun s hs=>?_,fun s hs j hj=>?_⟩⟩
 ·by_cases e:s=k
  ·subst e
   exact⟨_,hz 0 (by omega),fun v hv=>by rw [if_pos (by omega)]at hv;cases hv⟩
  ·obtain⟨u,h1,h2⟩:=h.qa.c0 s hs
   refine⟨u,(ho _ (by omega)).trans h1,fun v hv=>h2 v ?_⟩
   by_cases hl:s < k
   ·rw [if_pos (by omega)]at hv;cases hv
   ·rw [if_neg (by omega)]at hv;rw [if_neg hl];exact hv
 ·show w2.cell? _=some (Z Y (if(if s < k+1 then none else q s).isSome=true then 1 else 0))
  by_cases e:s=k
  ·subst e
   have e1:(if s < s+1 then none else q s)=none:=if_pos (by omega)
   rw [e1]
   exact hz 4 (by omega)
  ·have e1:(if s < k+1 then none else q s)=if s < k then none else q s:=by
    by_cases hl:s < k
    ·rw [if_pos hl,if_pos (by omega)]
    ·rw [if_neg hl,if_neg (by omega)]
   rw [ho _ (by omega),h.qa.c4 s hs,e1]
 ·by_cases e:s=k
  ·subst e;exact⟨_,hz j hj⟩
  ·rw [ho _ (by omega)];exact h.qa.cx s hs j hj
theorem node_reset (ND o Q S QC:Nat) (q:Nat→Option Nat) (w:Zw) (u0 u1 u5:Value) (h0:w.cell? ⟨ND,o,none⟩=some u0) (h1:w.cell? ⟨ND,o+1,none⟩=some u1) (h4:w.cell? ⟨ND,o+4,none⟩=some (.slice (some ⟨Q,0,none⟩) S QC)) (h5:w.cell? ⟨ND,o+5,none⟩=some u5)
 (hf:∀ j,w.frozen? ⟨ND,j,none⟩=false) (hQ:QAt w Q S q) (hne:Q≠ND) (hS:S≤100) :
 Zc Zp 54 #[.pointer (some ⟨ND,o,none⟩)] w fun e w'=>e=.returned (.tuple #[])∧RstPost ND o Q S w w':=by
 have HL:=O (node_listen ND o u0 u1 w h0 h1 (hf _) (hf _))
 have f5:=hf (o+5)
 obtain⟨wl,hwl⟩:∃ wl,wl=(w.setCell ⟨ND,o,none⟩ (Z Y 1)).setCell ⟨ND,o+1,none⟩ (Z Y 0):=⟨_,rfl⟩
 rw [← hwl]at HL
 have l4:wl.cell? ⟨ND,o+4,none⟩=some (.slice (some ⟨Q,0,none⟩) S QC):=by rw [hwl,setO (by omega),setO (by omega)];exact h4
 have l5:wl.cell? ⟨ND,o+5,none⟩=some u5:=by rw [hwl,setO (by omega),setO (by omega)];exact h5
 have lf:wl.frozen? ⟨ND,o+5,none⟩=false:=by rw [hwl];simp only [World.frozen?_setCell];exact f5
 obtain⟨wg,hwg⟩:∃ wg,wg=wl.setCell ⟨ND,o+5,none⟩ (.slice none 0 0):=⟨_,rfl⟩
 have g4:wg.cell? ⟨ND,o+4,none⟩=some (.slice (some ⟨Q,0,none⟩) S QC):=by rw [hwg,setO (by omega)];exact l4
 have hz:wg.heap.size=w.heap.size:=by rw [hwg,hwl];simp [World.setCell]
 have hbg:But (fun b=>b=ND∨b=Q) w wg:=by
  rw [hwg,hwl]
  exact(((But.refl _ w).setCell (.inl (.inl rfl)) _).setCell (.inl (.inl rfl)) _).setCell (.inl (.inl rfl)) _
 have hqg:QAt wg Q S q:=hQ.keep (by omega) (by rw [hwg,hwl];rw [Below.heap_setCell _ _ _ _ hne,Below.heap_setCell _ _ _ _ hne,Below.heap_setCell _ _ _ _ hne])
 have hg0:wg.cell? ⟨ND,o,none⟩=some (Z Y 1):=by rw [hwg,hwl,setO (by omega),setO (by omega)];exact World.cell?_setCell_same _ _ _ h0
 have hg1:wg.cell? ⟨ND,o+1,none⟩=some (Z Y 0):=by rw [hwg,hwl,setO (by omega)];exact World.cell?_setCell_same _ _ _ ((setO (by omega)).trans h1)
 have hg5:wg.cell? ⟨ND,o+5,none⟩=some (.slice none 0 0):=by rw [hwg];exact World.cell?_setCell_same _ _ _ l5
 have hgo:∀ j,j≠o→j≠o+1→j≠o+5→wg.cell? ⟨ND,j,none⟩=w.cell? ⟨ND,j,none⟩:=fun j a b d=>by rw [hwg,hwl,setO d,setO b,setO a]
 have hgf:∀ j,wg.frozen? ⟨ND,j,none⟩=w.frozen? ⟨ND,j,none⟩:=fun j=>by rw [hwg,hwl];simp only [World.frozen?_setCell]
 have lND:ND < wg.heap.size:=by rw [hz];exact Zl w _ h0
 have HG:=O (show But (fun b=>b=ND∨b=Q) w wg∧QAt wg Q S q∧wg.cell? ⟨ND,o,none⟩=some (Z Y 1)∧wg.cell? ⟨ND,o+1,none⟩=some (Z Y 0)∧wg.cell? ⟨ND,o+5,none⟩=some (.slice none 0 0)∧(∀ j,j≠o→j≠o+1→j≠o+5→wg.cell? ⟨ND,j,none⟩=w.cell? ⟨ND,j,none⟩)∧∀ j,wg.frozen? ⟨ND,j,none⟩=w.frozen? ⟨ND,j,none⟩from⟨hbg,hqg,hg0,hg1,hg5,hgo,hgf⟩)
 have HWG:=O hwg
 clear hwl hbg hqg hg0 hg1 hg5 hgo hgf hwg hQ hf h0 h1 h4 h5 f5 hz
 go_enter Tryz.func54,Tryz.ntmps54
 go_wp2_with fail
 refine HL.out.mono ?_
 rintro e w1 ⟨rfl,rfl⟩
 clear HL
 go_wp2_with fail
 rw [← HWG.out]
 go_loopw [13] (fun t wr=>∃ k:Nat,k≤S∧t=Z Y k∧ClrK ND Q S k q wg wr) (fun t _=>S-(intOf t).toNat)
 case atStart =>
  refine⟨0,by omega,rfl,⟨But.refl _ _,?_⟩⟩
  have e:(fun s=>if s < 0 then none else q s)=q:=by funext s;simp
  rw [e];exact HG.out.2.1
 case round =>
  obtain⟨k,hk,rfl,hck⟩:=hrel
  have HC:=O hck
  have m4:=(hck.but.cell (p:=⟨ND,o+4,none⟩) lND (Ne.symm hne)).trans g4
  by_cases hlt:k < S
  ·have hcx:=hck.qa.cx k hlt
   have HX:=O (queue_Clear Q (k*5) (fun j=>(wr.cell? ⟨Q,k*5+j,none⟩).getD (Z Y 0)) wr (fun j hj=>by obtain⟨u,hu⟩:=hcx j hj;rw [hu];rfl) hck.qa.fr)
   have k0:(0:Int)≤(k:Int):=by omega
   have k1:(k:Int) < (S:Int):=by omega
   clear hck hcx
   go_wp2_with fail
   refine HX.out.mono ?_
   rintro e w2 ⟨rfl,hb2,hz2,ho2,hf2⟩
   have HC2:=O (HC.out.next hlt hb2 hz2 ho2 hf2)
   clear hb2 hz2 ho2 hf2 HX
   go_wp2
   go_roundw
   case rel=>exact⟨k+1,by omega,by go_num,HC2.out⟩
   case measure=>simp [intOf];omega
  ·obtain rfl:k=S:=by omega
   clear hck
   go_wp2
   go_end0
   obtain⟨g1,g2,g3,g4',g5,g6,g7⟩:=HG.out
   have kp:∀ j,wr.cell? ⟨ND,j,none⟩=wg.cell? ⟨ND,j,none⟩:=fun j=>HC.out.but.cell (p:=⟨ND,j,none⟩) lND (Ne.symm hne)
   refine⟨rfl,⟨g1.trans (HC.out.but.more (fun b _ e =>.inr e)),(kp _).trans g3,(kp _).trans g4',(kp _).trans g5,fun j a b d=>(kp _).trans (g6 j a b d),fun j=>(HC.out.but.frozen (p:=⟨ND,j,none⟩) lND (Ne.symm hne)).trans (g7 j),?_⟩⟩
   have hq:=HC.out.qa
   refine⟨hq.lt,hq.fr,fun s hs=>?_,fun s hs=>?_,hq.cx⟩
   ·obtain⟨u,h1,_⟩:=hq.c0 s hs
    exact⟨u,h1,fun v hv=>by cases hv⟩
   ·have h4:=hq.c4 s hs
    rw [h4]
    show some (Z Y (if(if s < k then none else q s).isSome=true then 1 else 0))=_
    rw [if_pos hs]
end E5
namespace A50
open Go.RowKit A1 A14 A18 A33 A41 A45 A46 E5
structure Sc (w:Zw) (ND N:Nat) (st tm:Nat→Nat) (ck:Nat→Int):Prop where
 s:∀ i,i < N→w.cell? ⟨ND,i*7,none⟩=some (Z Y (st i))
 t:∀ i,i < N→w.cell? ⟨ND,i*7+1,none⟩=some (Z Y (tm i))
 c:∀ i,i < N→w.cell? ⟨ND,i*7+3,none⟩=some (Z Y (ck i))
def stF (c:NC) (round:Nat) (st:Nat→Nat) (i:Nat):Nat:=if c.on.getD i 0=(round:Int)then 1 else st i
def tmF (c:NC) (round:Nat) (tm:Nat→Nat) (i:Nat):Nat:=if c.on.getD i 0=(round:Int)then 0 else tm i
def ckF (c:NC) (round:Nat) (st:Nat→Nat) (ck:Nat→Int) (i:Nat):Int:=if stF c round st i=0 then ck i else ck i+pickN c.dr (11*round+i) c.G
def Rst (c:NC) (round:Nat) (st:Nat→Nat) (i:Nat):Prop:=c.kind=1∧c.till=(round:Int)∧(i:Int)=c.fat∧st i≠0
instance (c:NC) (round:Nat) (st:Nat→Nat) (i:Nat):Decidable (Rst c round st i):=by unfold Rst;infer_instance
def stR (c:NC) (round:Nat) (st:Nat→Nat) (i:Nat):Nat:=if Rst c round st i then 1 else st i
def tmR (c:NC) (round:Nat) (st tm:Nat→Nat) (i:Nat):Nat:=if Rst c round st i then 0 else tm i
def qR (c:NC) (round:Nat) (st:Nat→Nat) (q:Nat→Nat→Option Nat) (i:Nat):Nat→Option Nat:=if Rst c round st i then fun _=>none else q i
def gR {α:Type} (c:NC) (round:Nat) (st:Nat→Nat) (d:α) (g:Nat→α) (i:Nat):α:=if Rst c round st i then d else g i
structure RstTo (c:NC) (ND round:Nat) (Q:Nat→Nat) (gv:Nat→Value) (st tm:Nat→Nat) (ck:Nat→Int) (q:Nat→Nat→Option Nat) (w wr:Zw):Prop where
 but:But (fun b=>b=ND∨∃ i,i < c.N∧b=Q i) w wr
 sc:Sc wr ND c.N (stR c round st) (tmR c round st tm) ck
 cg:∀ i,i < c.N→wr.cell? ⟨ND,i*7+5,none⟩=some (gR c round st (.slice none 0 0) gv i)
 other:∀ j,j%7≠0→j%7≠1→j%7≠5→wr.cell? ⟨ND,j,none⟩=w.cell? ⟨ND,j,none⟩
 fr:∀ j,wr.frozen? ⟨ND,j,none⟩=w.frozen? ⟨ND,j,none⟩
 qa:∀ i,i < c.N→QAt wr (Q i) (c.N+c.ps.length) (qR c round st q i)
theorem RstTo.no {c:NC} {ND round:Nat} {Q:Nat→Nat} {gv:Nat→Value} {st tm:Nat→Nat} {ck:Nat→Int} {q:Nat→Nat→Option Nat} {w wr:Zw} (h:∀ i,i < c.N→¬ Rst c round st i) (hb:Zb w.heap.size w wr) (hl:ND < w.heap.size)
 (hs:Sc w ND c.N st tm ck) (hg:∀ i,i < c.N→w.cell? ⟨ND,i*7+5,none⟩=some (gv i)) (hq:∀ i,i < c.N→QAt w (Q i) (c.N+c.ps.length) (q i)):RstTo c ND round Q gv st tm ck q w wr:=by
 have k:∀ j,wr.cell? ⟨ND,j,none⟩=w.cell? ⟨ND,j,none⟩:=fun j=>hb.cell (p:=⟨ND,j,none⟩) hl
 refine⟨But.of_below hb (Zr _),⟨fun i hi=>?_,fun i hi=>?_,fun i hi=>(k _).trans (hs.c i hi)⟩,fun i hi=>?_,fun j _ _ _=>k j,fun j=>hb.frozen (p:=⟨ND,j,none⟩) hl,fun i hi=>?_⟩
 ·unfold stR;rw [if_neg (h i hi)];exact(k _).trans (hs.s i hi)
 ·unfold tmR;rw [if_neg (h i hi)];exact(k _).trans (hs.t i hi)
 ·unfold gR;rw [if_neg (h i hi)];exact(k _).trans (hg i hi)
 ·unfold qR;rw [if_neg (h i hi)];exact(hq i hi).below hb
theorem RstTo.yes {c:NC} {ND round f:Nat} {Q:Nat→Nat} {gv:Nat→Value} {st tm:Nat→Nat} {ck:Nat→Int} {q:Nat→Nat→Option Nat} {w wr w2:Zw} (hf:Rst c round st f) (hfN:f < c.N) (hQ:∀ i j,i < c.N→j < c.N→Q i=Q j→i=j) (hQD:∀ i,i < c.N→Q i≠ND) (hb:Zb w.heap.size w wr) (hl:ND < w.heap.size)
 (hs:Sc w ND c.N st tm ck) (hg:∀ i,i < c.N→w.cell? ⟨ND,i*7+5,none⟩=some (gv i)) (hq:∀ i,i < c.N→QAt w (Q i) (c.N+c.ps.length) (q i)) (hr:RstPost ND (f*7) (Q f) (c.N+c.ps.length) wr w2):RstTo c ND round Q gv st tm ck q w w2:=by
 have k:∀ j,wr.cell? ⟨ND,j,none⟩=w.cell? ⟨ND,j,none⟩:=fun j=>hb.cell (p:=⟨ND,j,none⟩) hl
 have one:∀ i,Rst c round st i→i=f:=fun i h=>by have:=h.2.2.1;have:=hf.2.2.1;omega
 refine⟨(But.of_below hb (Zr _)).trans (hr.but.more (fun b _ e=>e.imp id (fun e=>⟨f,hfN,e⟩))),⟨fun i hi=>?_,fun i hi=>?_,fun i hi=>?_⟩,fun i hi=>?_,fun j h1 h2 h3=>?_,fun j=>(hr.fr j).trans (hb.frozen (p:=⟨ND,j,none⟩) hl),fun i hi=>?_⟩
 ·unfold stR
  by_cases e:i=f
  ·subst e;rw [if_pos hf];exact hr.c0
  ·rw [if_neg (fun h=>e (one i h)),hr.other _ (by omega) (by omega) (by omega),k];exact hs.s i hi
 ·unfold tmR
  by_cases e:i=f
  ·subst e;rw [if_pos hf];exact hr.c1
  ·rw [if_neg (fun h=>e (one i h)),hr.other _ (by omega) (by omega) (by omega),k];exact hs.t i hi
 ·rw [hr.other _ (by omega) (by omega) (by omega),k];exact hs.c i hi
 ·unfold gR
  by_cases e:i=f
  ·subst e;rw [if_pos hf];exact hr.c5
  ·rw [if_neg (fun h=>e (one i h)),hr.other _ (by omega) (by omega) (by omega),k];exact hg i hi
 ·rw [hr.other _ (by omega) (by omega) (by omega),k]
 ·unfold qR
  by_cases e:i=f
  ·subst e;rw [if_pos hf];exact hr.qa
  ·rw [if_neg (fun h=>e (one i h))]
   exact((hq i hi).below hb).but hr.but (fun x=>x.elim (fun x=>hQD i hi x) (fun x=>e (hQ i f hi hfN x)))
def upto {α:Type} (k:Nat) (f g:Nat→α) (i:Nat):α:=if i < k then f i else g i
theorem upto_lt {α:Type} {k i:Nat} {f g:Nat→α} (h:i < k):upto k f g i=f i:=if_pos h
theorem upto_ge {α:Type} {k i:Nat} {f g:Nat→α} (h:¬ i < k):upto k f g i=g i:=if_neg h
structure ScBut (w w':Zw) (ND:Nat):Prop where
 but:But (fun q=>q=ND) w w'
 other:∀ o,o%7≠0→o%7≠1→o%7≠3→w'.cell? ⟨ND,o,none⟩=w.cell? ⟨ND,o,none⟩
 fr:∀ o,w'.frozen? ⟨ND,o,none⟩=w.frozen? ⟨ND,o,none⟩
theorem ScBut.refl (w:Zw) (ND:Nat):ScBut w w ND:=⟨But.refl _ _,fun _ _ _ _=>rfl,fun _=>rfl⟩
theorem ScBut.trans {a b d:Zw} {ND:Nat} (h:ScBut a b ND) (k:ScBut b d ND):ScBut a d ND:=⟨h.but.trans k.but,fun o h1 h2 h3=>(k.other o h1 h2 h3).trans (h.other o h1 h2 h3),fun o=>(k.fr o).trans (h.fr o)⟩
theorem ScBut.below {a b:Zw} {ND:Nat} (h:Zb a.heap.size a b) (hl:ND < a.heap.size):ScBut a b ND :=
 ⟨But.of_below h (Zr _),fun o _ _ _=>h.cell (p:=⟨ND,o,none⟩) hl,fun o=>h.frozen (p:=⟨ND,o,none⟩) hl⟩
theorem ScBut.set {w:Zw} {ND o:Nat} {v:Value} (h:o%7=0∨o%7=1∨o%7=3):ScBut w (w.setCell ⟨ND,o,none⟩ v) ND :=
 ⟨(But.refl (fun q=>q=ND) w).setCell (p:=⟨ND,o,none⟩) (.inl rfl) v,fun p h1 h2 h3=>Zo _ _ _ _ (fun e=>by injection e with _ e;omega),fun p=>World.frozen?_setCell _ _ _ _⟩
theorem ScBut.drew {w w':Zw} {ND:Nat} (h:ScBut w w' ND):ScBut w w'.drew ND:=⟨h.but.drew,h.other,h.fr⟩
theorem Sc.next {w w':Zw} {ND N k:Nat} {f st g tm:Nat→Nat} {h ck:Nat→Int} (H:Sc w ND N (upto k f st) (upto k g tm) (upto k h ck)) (hs:w'.cell? ⟨ND,k*7,none⟩=some (Z Y (f k))) (ht:w'.cell? ⟨ND,k*7+1,none⟩=some (Z Y (g k))) (hc:w'.cell? ⟨ND,k*7+3,none⟩=some (Z Y (h k)))
 (ho:∀ j o,j≠k→o < 7→w'.cell? ⟨ND,j*7+o,none⟩=w.cell? ⟨ND,j*7+o,none⟩):Sc w' ND N (upto (k+1) f st) (upto (k+1) g tm) (upto (k+1) h ck):=by
 have e:∀ {α:Type} (f g:Nat→α) (i:Nat),i≠k→upto (k+1) f g i=upto k f g i:=fun f g i hi=>by
  unfold upto
  by_cases h:i < k
  ·rw [if_pos h,if_pos (by omega)]
  ·rw [if_neg h,if_neg (by omega)]
 refine⟨fun i hi=>?_,fun i hi=>?_,fun i hi=>?_⟩
 ·by_cases h:i=k
  ·subst h;rw [upto_lt (by omega)];exact hs
  ·rw [e _ _ _ h];exact(ho i 0 h (by omega)).trans (H.s i hi)
 ·by_cases h:i=k
  ·subst h;rw [upto_lt (by omega)];exact ht
  ·rw [e _ _ _ h];exact(ho i 1 h (by omega)).trans (H.t i hi)
 ·by_cases h:i=k
  ·subst h;rw [upto_lt (by omega)];exact hc
  ·rw [e _ _ _ h];exact(ho i 3 h (by omega)).trans (H.c i hi)
theorem net_power (c:NC) (NB LO ND:Nat) (round:Nat) (Q QC:Nat→Nat) (gv:Nat→Value) (st0 tm0:Nat→Nat) (ck:Nat→Int) (q:Nat→Nat→Option Nat) (w:Zw) (hc:NOk c) (hN:NbK w NB c) (hL:LowK w LO c) (hLN:LO≤ND)
 (hr:w.cell? ⟨NB,17,none⟩=some (Z Y round)) (hn:w.cell? ⟨NB,18,none⟩=some (.slice (some ⟨ND,0,none⟩) c.N c.N)) (hs:Sc w ND c.N st0 tm0 ck) (hf:∀ o,w.frozen? ⟨ND,o,none⟩=false) (hND:ND≠NB)
 (hcq:∀ i,i < c.N→w.cell? ⟨ND,i*7+4,none⟩=some (.slice (some ⟨Q i,0,none⟩) (c.N+c.ps.length) (QC i))) (hcg:∀ i,i < c.N→w.cell? ⟨ND,i*7+5,none⟩=some (gv i)) (hqa:∀ i,i < c.N→QAt w (Q i) (c.N+c.ps.length) (q i))
 (hQQ:∀ i j,i < c.N→j < c.N→Q i=Q j→i=j) (hQD:∀ i,i < c.N→Q i≠ND) (hQN:∀ i,i < c.N→Q i≠NB) (hQL:∀ i,i < c.N→LO≤Q i)
 (hrb:round≤900) (hb:∀ i,i < c.N → -1000000≤ck i∧ck i≤1000000) :
 Zc Zp 32 #[.pointer (some ⟨NB,0,none⟩)] w fun e w'=>e=.returned (.tuple #[])∧∃ wr,RstTo c ND round Q gv st0 tm0 ck q w wr∧Sc w' ND c.N (stF c round (stR c round st0)) (tmF c round (tmR c round st0 tm0)) (ckF c round (stR c round st0) ck)∧ScBut wr w' ND:=by
 have n0:=hc.cf.n0
 have n1:=hc.cf.n1
 have n2:=hc.cf.len
 have lNB:=Zl w _ hr
 have lND:=Zl w _ (hs.s 0 (by omega))
 have g1:=hc.cf.g1
 have hon:=hc.on
 obtain⟨f,hfat⟩:∃ f:Nat,c.fat=f:=⟨c.fat.toNat,by have:=hc.fat0;omega⟩
 have hfN:f < c.N:=by have:=hc.fat1;omega
 have nNB:¬(NB=ND∨∃ i,i < c.N∧NB=Q i):=fun e=>e.elim (fun e=>hND e.symm) (fun⟨i,hi,e⟩=>hQN i hi e.symm)
 have HCut:=O (fun(wr:Zw) (H:RstTo c ND round Q gv st0 tm0 ck q w wr)=>show NbK wr NB c∧LowK wr LO c∧wr.cell? ⟨NB,17,none⟩=some (Z Y round)∧wr.cell? ⟨NB,18,none⟩=some (.slice (some ⟨ND,0,none⟩) c.N c.N)∧(∀ o,wr.frozen? ⟨ND,o,none⟩=false)from
  ⟨hN.keep (H.but.block NB lNB nNB),hL.below (H.but.to_below hL.le (fun k e=>e.elim (fun e=>by rw [e];exact hLN) (fun⟨i,hi,e⟩=>by rw [e];exact hQL i hi))),(H.but.cell (p:=⟨NB,17,none⟩) lNB nNB).trans hr,(H.but.cell (p:=⟨NB,18,none⟩) lNB nNB).trans hn,fun o=>(H.fr o).trans (hf o)⟩)
 have HNo:=O (fun(wr:Zw) (h:∀ i,i < c.N→¬ Rst c round st0 i) (hb:Zb w.heap.size w wr)=>RstTo.no (tm:=tm0) (ck:=ck) (gv:=gv) (Q:=Q) (q:=q) h hb lND hs hcg hqa)
 have HYes:=O (fun(wr w2:Zw) (h:Rst c round st0 f) (hb:Zb w.heap.size w wr) (hp:RstPost ND (f*7) (Q f) (c.N+c.ps.length) wr w2)=>RstTo.yes (tm:=tm0) (ck:=ck) (gv:=gv) (q:=q) h hfN hQQ hQD hb lND hs hcg hqa hp)
 have HReset:=O (fun(wr:Zw) (hb:Zb w.heap.size w wr)=>node_reset ND (f*7) (Q f) (c.N+c.ps.length) (QC f) (q f) wr _ _ _ (keep_of (hs.s _ hfN) lND hb) (keep_of (hs.t _ hfN) lND hb) (keep_of (hcq _ hfN) lND hb) (keep_of (hcg _ hfN) lND hb) (fun j=>(hb.frozen (p:=⟨ND,j,none⟩) lND).trans (hf j)) ((hqa _ hfN).below hb) (hQD _ hfN) (by omega))
 have hcs:=hs.s _ hfN
 have lQ:Q f < w.heap.size:=(hqa _ hfN).lt
 have nQ:NB≠Q f:=fun e=>hQN _ hfN e.symm
 have HRs:=O (show ∀ i,i < c.N→Rst c round st0 i→i=f∧c.kind=1∧c.till=(round:Int)∧st0 f≠0 from fun i hi h=>by
  have e:i=f:=by have:=h.2.2.1;omega
  exact⟨e,h.1,h.2.1,by rw [← e];exact h.2.2.2⟩)
 have HRt:=O (show c.kind=1→c.till=(round:Int)→st0 f≠0→Rst c round st0 f from fun h1 h2 h3=>⟨h1,h2,hfat.symm,h3⟩)
 have HKd:=O hc.kind
 obtain⟨k0,k1,k2,k3,k4,k5,k6,k7,k8,k9,k10,k11,k12,k13,k14,k15,k16⟩:=hN
 rw [hfat]at k11
 clear hfat
 have HPb:=O (fun k=>pickN_le c.dr k c.G hc.cf.g0)
 have HPk0:=O (fun(wr w':Zw) (hL:LowK wr LO c) (hb:ScBut wr w' ND) (k:Nat) (hk:k≤100000)=>net_pick c.DA c.dr c.DC k c.G w' (ints_low hL.dr (hb.but.to_below hL.le (by rintro q rfl;exact hLN)) hL.drl hL.le) (by have:=hc.dr;omega) hk hc.cf.g0 (by have:=hc.cf.g1;omega))
 have HOn0:=O (fun(wr w':Zw) (hL:LowK wr LO c) (hb:ScBut wr w' ND)=>(ints_low hL.on (hb.but.to_below hL.le (by rintro q rfl;exact hLN)) hL.onl hL.le))
 have HB:=O hb
 clear hc hL hs hf hb hcq hcg hqa hQQ hQD hQN hQL
 go_enter Tryz.func32,Tryz.ntmps32
 go_upto_region 1 with fail
 have b0:=Zh w (.cells #[Z Y c.kind,Z Y f,Z Y c.frm,Z Y c.till,.slice c.CA c.CL c.CC,.slice c.VA c.VL c.VC] 27)
 have hbw:Zb w.heap.size w (w.alloc (.cells #[Z Y c.kind,Z Y f,Z Y c.frm,Z Y c.till,.slice c.CA c.CL c.CC,.slice c.VA c.VL c.VC] 27)):=(Zf _ _).alloc (Zr _) _
 have HBW:=O hbw
 generalize w.alloc (.cells #[Z Y c.kind,Z Y f,Z Y c.frm,Z Y c.till,.slice c.CA c.CL c.CC,.slice c.VA c.VL c.VC] 27)=wa at *
 go_cut [33]from 10 to 34 (fun t wx=>t=.bool (decide (Rst c round st0 f))∧wx=wa.drew)
 have y0:wa.cell? ⟨w.heap.size,0,none⟩=some (Z Y c.kind):=by simp [World.cell?,b0]
 have y1:wa.cell? ⟨w.heap.size,1,none⟩=some (Z Y f):=by simp [World.cell?,b0]
 have y3:wa.cell? ⟨w.heap.size,3,none⟩=some (Z Y c.till):=by simp [World.cell?,b0]
 have z17:=keep_of hr lNB hbw
 have z18:=keep_of hn lNB hbw
 have zs:=keep_of hcs lND hbw
 have lf:(f:Int) < (c.N:Int):=by omega
 have lf0:(0:Int)≤(f:Int):=by omega
 clear b0 hbw hcs
 case first =>
  clear hr hn k0 k1 k2 k3 k4 k5 k6 k7 k8 k9 k10 k11 k12 k13 k14 k15 k16 HPk0 HOn0 HCut HNo HYes HReset
  rcases HKd.out with hk | hk
  ·have q1:(c.kind == 1)=false:=by rw [hk];rfl
   have HD:=O (show decide (Rst c round st0 f)=false from decide_eq_false (fun h=>by have:=h.1;omega))
   clear hk
   refine wp_region_held_drew (S:=(fun w'=>w'.cell? ⟨w.heap.size,0,none⟩=some (Z Y c.kind)∧w'.cell? ⟨w.heap.size,1,none⟩=some (Z Y f)∧w'.cell? ⟨w.heap.size,3,none⟩=some (Z Y c.till)∧w'.cell? ⟨NB,17,none⟩=some (Z Y round)∧w'.cell? ⟨NB,18,none⟩=some (.slice (some ⟨ND,0,none⟩) c.N c.N)∧w'.cell? ⟨ND,f*7,none⟩=some (Z Y (st0 f)))) (by kernel_rfl) ⟨y0,y1,y3,z17,z18,zs⟩ (fun hHeld=>?_)
   refine rgT 0 ?_
   refine rgT 1 ?_
   refine rgT 2 ?_
   refine rgT 3 ?_
   refine rgS 4 ?_
   refine rgS 5 ?_
   refine rgS 6 ?_
   refine rgS 7 ?_
   refine rgS 8 ?_
   refine rgS 9 ?_
   refine rgS 10 ?_
   refine rgT 11 ?_
   refine rgT 12 ?_
   refine rgS 13 ?_
   refine rgS 14 ?_
   refine rgS 15 ?_
   refine rgS 16 ?_
   refine rgS 17 ?_
   refine rgS 18 ?_
   refine rgS 19 ?_
   refine rgS 20 ?_
   refine rgS 21 ?_
   refine rgS 22 ?_
   refine rgT 23 ?_
   refine wpAnyH_done (by kernel_rfl) ?_ _
   clear y0 y1 y3 z17 z18 zs hHeld
   go_wp2
   go_meet
   exact⟨by rw [HD.out],rfl⟩
  ·have q1:(c.kind == 1)=true:=by rw [hk];rfl
   by_cases ht:c.till=(round:Int)
   ·have q2:((round:Int) == c.till)=true:=by rw [ht];simp
    by_cases hs0:st0 f=0
    ·have q3:((st0 f:Int) != 0)=false:=by rw [hs0];rfl
     have HD:=O (show decide (Rst c round st0 f)=false from decide_eq_false (fun h=>h.2.2.2 hs0))
     clear hk ht hs0
     refine wp_region_held_drew (S:=(fun w'=>w'.cell? ⟨w.heap.size,0,none⟩=some (Z Y c.kind)∧w'.cell? ⟨w.heap.size,1,none⟩=some (Z Y f)∧w'.cell? ⟨w.heap.size,3,none⟩=some (Z Y c.till)∧w'.cell? ⟨NB,17,none⟩=some (Z Y round)∧w'.cell? ⟨NB,18,none⟩=some (.slice (some ⟨ND,0,none⟩) c.N c.N)∧w'.cell? ⟨ND,f*7,none⟩=some (Z Y (st0 f)))) (by kernel_rfl) ⟨y0,y1,y3,z17,z18,zs⟩ (fun hHeld=>?_)
     refine rgT 0 ?_
     refine rgT 1 ?_
     refine rgT 2 ?_
     refine rgT 3 ?_
     refine rgT 4 ?_
     refine rgT 5 ?_
     refine rgT 6 ?_
     refine rgT 7 ?_
     refine rgT 8 ?_
     refine rgT 9 ?_
     refine rgT 10 ?_
     refine rgT 11 ?_
     refine rgT 12 ?_
     refine rgT 13 ?_
     refine rgT 14 ?_
     refine rgT 15 ?_
     refine rgT 16 ?_
     refine rgT 17 ?_
     refine rgT 18 ?_
     refine rgT 19 ?_
     refine rgT 20 ?_
     refine rgT 21 ?_
     refine rgT 22 ?_
     refine rgT 23 ?_
     refine wpAnyH_done (by kernel_rfl) ?_ _
     clear y0 y1 y3 z17 z18 zs hHeld
     go_wp2
     go_meet
     exact⟨by rw [HD.out],rfl⟩
    ·have q3:((st0 f:Int) != 0)=true:=by simp;omega
     have HD:=O (show decide (Rst c round st0 f)=true from decide_eq_true (HRt.out hk ht hs0))
     clear hk ht hs0
     refine wp_region_held_drew (S:=(fun w'=>w'.cell? ⟨w.heap.size,0,none⟩=some (Z Y c.kind)∧w'.cell? ⟨w.heap.size,1,none⟩=some (Z Y f)∧w'.cell? ⟨w.heap.size,3,none⟩=some (Z Y c.till)∧w'.cell? ⟨NB,17,none⟩=some (Z Y round)∧w'.cell? ⟨NB,18,none⟩=some (.slice (some ⟨ND,0,none⟩) c.N c.N)∧w'.cell? ⟨ND,f*7,none⟩=some (Z Y (st0 f)))) (by kernel_rfl) ⟨y0,y1,y3,z17,z18,zs⟩ (fun hHeld=>?_)
     refine rgT 0 ?_
     refine rgT 1 ?_
     refine rgT 2 ?_
     refine rgT 3 ?_
     refine rgT 4 ?_
     refine rgT 5 ?_
     refine rgT 6 ?_
     refine rgT 7 ?_
     refine rgT 8 ?_
     refine rgT 9 ?_
     refine rgT 10 ?_
     refine rgT 11 ?_
     refine rgT 12 ?_
     refine rgT 13 ?_
     refine rgT 14 ?_
     refine rgT 15 ?_
     refine rgT 16 ?_
     refine rgT 17 ?_
     refine rgT 18 ?_
     refine rgT 19 ?_
     refine rgT 20 ?_
     refine rgT 21 ?_
     refine rgT 22 ?_
     refine rgT 23 ?_
     refine wpAnyH_done (by kernel_rfl) ?_ _
     clear y0 y1 y3 z17 z18 zs hHeld
     go_wp2
     go_meet
     exact⟨by rw [HD.out],rfl⟩
   ·have q2:((round:Int) == c.till)=false:=by simp;omega
    have HD:=O (show decide (Rst c round st0 f)=false from decide_eq_false (fun h=>ht h.2.1))
    clear hk ht
    refine wp_region_held_drew (S:=(fun w'=>w'.cell? ⟨w.heap.size,0,none⟩=some (Z Y c.kind)∧w'.cell? ⟨w.heap.size,1,none⟩=some (Z Y f)∧w'.cell? ⟨w.heap.size,3,none⟩=some (Z Y c.till)∧w'.cell? ⟨NB,17,none⟩=some (Z Y round)∧w'.cell? ⟨NB,18,none⟩=some (.slice (some ⟨ND,0,none⟩) c.N c.N)∧w'.cell? ⟨ND,f*7,none⟩=some (Z Y (st0 f)))) (by kernel_rfl) ⟨y0,y1,y3,z17,z18,zs⟩ (fun hHeld=>?_)
    refine rgT 0 ?_
    refine rgT 1 ?_
    refine rgT 2 ?_
    refine rgT 3 ?_
    refine rgT 4 ?_
    refine rgT 5 ?_
    refine rgT 6 ?_
    refine rgT 7 ?_
    refine rgT 8 ?_
    refine rgT 9 ?_
    refine rgT 10 ?_
    refine rgT 11 ?_
    refine rgT 12 ?_
    refine rgS 13 ?_
    refine rgS 14 ?_
    refine rgS 15 ?_
    refine rgS 16 ?_
    refine rgS 17 ?_
    refine rgS 18 ?_
    refine rgS 19 ?_
    refine rgS 20 ?_
    refine rgS 21 ?_
    refine rgS 22 ?_
    refine rgT 23 ?_
    refine wpAnyH_done (by kernel_rfl) ?_ _
    clear y0 y1 y3 z17 z18 zs hHeld
    go_wp2
    go_meet
    exact⟨by rw [HD.out],rfl⟩
 case rest =>
  obtain⟨ht33,rfl⟩:=hcut
  have y1:wa.drew.cell? ⟨w.heap.size,1,none⟩=some (Z Y f):=by
   have:wa.cell? ⟨w.heap.size,1,none⟩=some (Z Y f):=by simp [World.cell?,b0]
   exact this
  have z18:wa.drew.cell? ⟨NB,18,none⟩=some (.slice (some ⟨ND,0,none⟩) c.N c.N):=keep_of hn lNB hbw.drew
  have lf:(f:Int) < (c.N:Int):=by omega
  have lf0:(0:Int)≤(f:Int):=by omega
  clear b0 hbw hcs
  have HOne:=O (show ¬ Rst c round st0 f→∀ i,i < c.N→¬ Rst c round st0 i from fun h i hi h'=>h (by rw [←(HRs.out i hi h').1];exact h'))
  go_upto_if 33 with fail
  go_cut []from 34 to 42 (RstTo c ND round Q gv st0 tm0 ck q w)
  case first =>
   clear hr hn k0 k1 k2 k3 k4 k5 k6 k7 k8 k9 k10 k11 k12 k13 k14 k15 k16 HPk0 HOn0 HCut
   by_cases hR:Rst c round st0 f
   ·rw [decide_eq_true hR]at ht33
    subst ht33
    have HR:=O hR
    have HRes:=O (HReset.out wa.drew.drew HBW.out.drew.drew)
    clear hR HReset
    go_wp2_with fail
    refine wp_region_held_drew (S:=fun w'=>w'.cell? ⟨w.heap.size,1,none⟩=some (Z Y f)∧w'.cell? ⟨NB,18,none⟩=some (.slice (some ⟨ND,0,none⟩) c.N c.N)) (by kernel_rfl) ⟨y1,z18⟩ (fun hHeld=>?_)
    refine rgT 0 ?_
    refine rgT 1 ?_
    refine rgT 2 ?_
    refine rgT 3 ?_
    refine rgT 4 ?_
    refine rgT 5 ?_
    refine rgT 6 ?_
    refine rgR 7 fun K hK=>?_
    go_simp
    refine HRes.out.mono ?_
    rintro e w2 ⟨rfl,hp⟩
    have HP:=O (HYes.out _ w2 HR.out HBW.out.drew.drew hp)
    have lw:w.heap.size < wa.heap.size:=Zl wa _ y1
    have m1:=(hp.but.cell (p:=⟨w.heap.size,1,none⟩) (show w.heap.size < wa.heap.size from lw) (fun e=>e.elim (fun e=>by simp only at e;omega) (fun e=>by simp only at e;omega))).trans y1
    have m18:=(hp.but.cell (p:=⟨NB,18,none⟩) (show NB < wa.heap.size by omega) (fun e=>e.elim (fun e=>hND e.symm) (fun e=>nQ e))).trans z18
    clear hp
    go_simp
    refine hK.out _ _ ⟨m1,m18⟩ (fun hHeld=>?_)
    clear hK K
    refine wpAnyH_done (by kernel_rfl) ?_ _
    clear m1 m18 y1 z18 hHeld
    go_wp2
    go_meet
    exact HP.out
   ·rw [decide_eq_false hR]at ht33
    subst ht33
    have HR:=O hR
    clear hR
    go_wp2
    go_meet
    exact HNo.out _ (HOne.out HR.out) HBW.out.drew
  case rest =>
   have HRT:=O hcut
   obtain⟨hN',hL',hr',hn',hf'⟩:=HCut.out wc hcut
   have lNBc:NB < wc.heap.size:=Zl wc _ hr'
   have lNDc:ND < wc.heap.size:=Zl wc _ (hcut.sc.s 0 (by omega))
   have HS:=O hcut.sc
   have HF:=O hf'
   have HPk:=O (fun(w':Zw) (hb:ScBut wc w' ND) (k:Nat) (hk:k≤100000)=>HPk0.out wc w' hL' hb k hk)
   have HOn:=O (fun(w':Zw) (hb:ScBut wc w' ND)=>HOn0.out wc w' hL' hb)
   clear ht33 hcut hL' hf' HRs HRt HKd HYes HNo HReset HBW HPk0 HOn0 HCut HOne y1 z18 k0 k1 k2 k3 k4 k5 k6 k7 k8 k9 k10 k11 k12 k13 k14 k15 k16 hr hn lNB lND
   obtain⟨k0,k1,k2,k3,k4,k5,k6,k7,k8,k9,k10,k11,k12,k13,k14,k15,k16⟩:=hN'
   have hr:=hr'
   have hn:=hn'
   have lNB:=lNBc
   have lND:=lNDc
   clear hr' hn' lNBc lNDc
   go_wp2
   go_loopw [47] (fun t wr=>∃ k:Nat,k≤c.N∧t=Z Y k∧Sc wr ND c.N (upto k (stF c round (stR c round st0)) (stR c round st0)) (upto k (tmF c round (tmR c round st0 tm0)) (tmR c round st0 tm0)) (upto k (ckF c round (stR c round st0) ck) ck)∧ScBut wc wr ND) (fun t _=>c.N-(intOf t).toNat)
   case atStart =>
    refine⟨0,by omega,rfl,⟨fun i hi=>?_,fun i hi=>?_,fun i hi=>?_⟩,?_⟩
    ·rw [upto_ge (by omega)];exact keep_of (HS.out.s i hi) lND (show Zb wc.heap.size wc _ from(by repeat(first | exact Zf _ _ | refine Below.drew ?_ | refine below_drewN ?_ _ | refine Below.alloc ?_ (by simp;try omega) _)))
    ·rw [upto_ge (by omega)];exact keep_of (HS.out.t i hi) lND (show Zb wc.heap.size wc _ from(by repeat(first | exact Zf _ _ | refine Below.drew ?_ | refine below_drewN ?_ _ | refine Below.alloc ?_ (by simp;try omega) _)))
    ·rw [upto_ge (by omega)];exact keep_of (HS.out.c i hi) lND (show Zb wc.heap.size wc _ from(by repeat(first | exact Zf _ _ | refine Below.drew ?_ | refine below_drewN ?_ _ | refine Below.alloc ?_ (by simp;try omega) _)))
    ·exact ScBut.below (show Zb wc.heap.size wc _ from(by repeat(first | exact Zf _ _ | refine Below.drew ?_ | refine below_drewN ?_ _ | refine Below.alloc ?_ (by simp;try omega) _))) lND
   case round =>
    obtain⟨k,hk,rfl,hsc,hsb⟩:=hrel
    have HSB:=O hsb
    have hz:=hsb.but.size
    have kp:=fun j v (h:wc.cell? ⟨NB,j,none⟩=some v)=>(hsb.but.cell (p:=⟨NB,j,none⟩) lNB (fun e=>hND e.symm)).trans h
    have m3:=kp _ _ k3
    have m6:=kp _ _ k6
    have m7:=kp _ _ k7
    have mr:=kp _ _ hr
    have m18:=kp _ _ hn
    by_cases hlt:k < c.N
    ·have lk:(k:Int) < (c.N:Int):=by omega
     have HSC:=O hsc
     obtain⟨ob,oo,eo,hob,hoc⟩:=(HOn.out _ hsb) k (by omega)
     have cs:=hsc.s k hlt
     have ct:=hsc.t k hlt
     have cc:=hsc.c k hlt
     rw [upto_ge (Nat.lt_irrefl k)]at cs ct cc
     have fr:∀ o,wr.frozen? ⟨ND,o,none⟩=false:=fun o=>(hsb.fr o).trans (HF.out o)
     have hbk:=HB.out k hlt
     clear hsc hsb kp k0 k1 k2 k3 k4 k5 k6 k7 k8 k9 k10 k11 k12 k13 k14 k15 k16 hr hn
     rw [eo]at m6
     have lk2:(k:Int) < (c.on.length:Int):=by omega
     have HSt:=O (show stF c round (stR c round st0) k=if c.on.getD k 0=(round:Int)then 1 else(stR c round st0) k from rfl)
     have HTm:=O (show tmF c round (tmR c round st0 tm0) k=if c.on.getD k 0=(round:Int)then 0 else(tmR c round st0 tm0) k from rfl)
     have HCk:=O (show ckF c round (stR c round st0) ck k=if stF c round (stR c round st0) k=0 then ck k else ck k+pickN c.dr (11*round+k) c.G from rfl)
     have HPl:=HPb.out (11*round+k)
     have wr1:∀ x:Int,-4000000≤x→x≤4000000→IntKind.i64.wrap x=x:=fun x h1 h2=>by rw [IntKind.wrap_i64];omega
     have q1:=wr1 (11*(round:Int)) (by omega) (by omega)
     have q2:=wr1 (11*(round:Int)+(k:Int)) (by omega) (by omega)
     have q3:=wr1 (ck k+pickN c.dr (11*round+k) c.G) (by omega) (by omega)
     have e1:((11*round+k:Nat):Int)=11*(round:Int)+(k:Int):=by omega
     have HPk1:=O (fun w' hb=>HPk.out w' hb (11*round+k) (by omega))
     rw [e1]at HPk1
     generalize pickN c.dr (11*round+k) c.G=pv at *
     generalize c.on.getD k 0=on at *
     clear wr1 HPl e1 HPk
     go_wp2
     refine wp_region_held_drew (S:=fun w'=>w'.cell? ⟨NB,6,none⟩=some (.slice (some ⟨ob,oo,none⟩) c.on.length c.OC)∧w'.cell? ⟨ob,oo+k,none⟩=some (Z Y on)∧w'.cell? ⟨NB,17,none⟩=some (Z Y round)) (by kernel_rfl) ⟨m6,hoc,mr⟩ (fun hHeld=>?_)
     refine rgT 0 ?_
     refine rgT 1 ?_
     refine rgT 2 ?_
     refine rgT 3 ?_
     refine rgT 4 ?_
     refine rgT 5 ?_
     refine rgT 6 ?_
     refine rgT 7 ?_
     refine rgT 8 ?_
     refine rgT 9 ?_
     refine rgT 10 ?_
     refine rgT 11 ?_
     refine rgT 12 ?_
     refine wpAnyH_done (by kernel_rfl) ?_ _
     by_cases hon:on=(round:Int)
     ·subst hon
      have HS1:=O (HSt.out.trans (if_pos rfl))
      have HT1:=O (HTm.out.trans (if_pos rfl))
      have HC1:=O (HCk.out.trans (if_neg (by rw [HS1.out];omega)))
      go_wp2_with fail
      refine(node_listen ND (k*7) _ _ wr.drew cs ct (fr _) (fr _)).mono ?_
      rintro e w1 ⟨rfl,rfl⟩
      go_wp2_with fail
      have cc1:=set_keep2 (o':=k*7+1) (u :=Z Y 0) (set_keep2 (o':=k*7) (u :=Z Y 1) cc (by omega)) (by omega)
      have m31:=set_keep (q:=⟨ND,k*7+1,none⟩) (u :=Z Y 0) (set_keep (q:=⟨ND,k*7,none⟩) (u :=Z Y 1) m3 (Ne.symm hND)) (Ne.symm hND)
      have m71:=set_keep (q:=⟨ND,k*7+1,none⟩) (u :=Z Y 0) (set_keep (q:=⟨ND,k*7,none⟩) (u :=Z Y 1) m7 (Ne.symm hND)) (Ne.symm hND)
      have mr1:=set_keep (q:=⟨ND,k*7+1,none⟩) (u :=Z Y 0) (set_keep (q:=⟨ND,k*7,none⟩) (u :=Z Y 1) mr (Ne.symm hND)) (Ne.symm hND)
      have HSb1:=O (((HSB.out.drew).trans (ScBut.set (o:=k*7) (v :=Z Y 1) (by omega))).trans (ScBut.set (o:=k*7+1) (v :=Z Y 0) (by omega)))
      refine AT.wp_region_tail (S:=fun w'=>w'.cell? ⟨ND,k*7+3,none⟩=some (Z Y (ck k))∧w'.cell? ⟨NB,7,none⟩=some (.slice c.DA c.dr.length c.DC)∧w'.cell? ⟨NB,17,none⟩=some (Z Y round)∧w'.cell? ⟨NB,3,none⟩=some (Z Y c.G)) [25] (by kernel_rfl) ⟨cc1,m71,mr1,m31⟩ (fun hHeld=>?_)
      refine rgU 0 ?_
      refine rgU 1 ?_
      refine rgU 2 ?_
      refine rgU 3 ?_
      refine rgU 4 ?_
      refine rgU 5 ?_
      refine rgU 6 ?_
      refine rgU 7 ?_
      refine rgU 8 ?_
      refine rgU 9 ?_
      refine rgU 10 ?_
      refine rgU 11 ?_
      refine rgU 12 ?_
      refine rgU 13 ?_
      refine rgU 14 ?_
      refine rgU 15 ?_
      refine rgU 16 ?_
      refine rgU 17 ?_
      refine rgU 18 ?_
      refine rgU 19 ?_
      refine rgU 20 ?_
      refine rgV 21 fun K hK=>?_
      go_simp
      refine(HPk1.out _ HSb1.out.drew).mono ?_
      rintro e w1 ⟨rfl,rfl⟩
      go_simp
      refine hK.out _ _ ⟨cc1,m71,mr1,m31⟩ (fun hHeld=>?_)
      clear hK K
      refine rgU 22 ?_
      refine rgV 23 fun K hK=>?_
      go_simp
      refine hK.out _ _ ⟨cc1,m71,mr1,m31⟩ (fun hHeld=>?_)
      clear hK K
      refine rgV 24 fun K hK=>?_
      go_simp
      refine hK.out _ _ ⟨cc1,m71,mr1,m31⟩ (fun hHeld=>?_)
      clear hK K
      refine rgW 25 fun K hK=>?_
      go_simp
      refine hK.out _ _ ?_
      clear hK K
      refine AT.wpT_done (by kernel_rfl) ?_ _
      go_wp2
      go_roundw
      case rel =>
       refine⟨k+1,by omega,by go_num,?_,?_⟩
       ·refine HSC.out.next ?_ ?_ ?_ (fun j o hj ho=>?_)
        ·rw [HS1.out];exact set_keep2 (o':=k*7+3) (set_keep2 (o':=k*7+1) (World.cell?_setCell_same _ _ _ cs) (by omega)) (by omega)
        ·rw [HT1.out];exact set_keep2 (o':=k*7+3) (World.cell?_setCell_same _ _ _ (set_keep2 (o':=k*7) ct (by omega))) (by omega)
        ·rw [HC1.out];exact World.cell?_setCell_same _ _ _ cc1
        ·exact((Zo _ _ _ _ (fun e=>by injection e with _ e;omega)).trans (Zo _ _ _ _ (fun e=>by injection e with _ e;omega))).trans (Zo _ _ _ _ (fun e=>by injection e with _ e;omega))
       ·exact(HSb1.out.drew).trans (ScBut.set (o:=k*7+3) (by omega))
      case measure=>simp [intOf];omega
     ·have HS1:=O (HSt.out.trans (if_neg hon))
      have HT1:=O (HTm.out.trans (if_neg hon))
      have qn:(on == (round:Int))=false:=by simp [hon]
      by_cases h0:(stR c round st0) k=0
      ·have HC1:=O (HCk.out.trans (if_pos (by rw [HS1.out];exact h0)))
       rw [h0]at cs
       go_wp2_with fail
       go_roundw
       case rel =>
        refine⟨k+1,by omega,by go_num,?_,HSB.out.drew⟩
        refine HSC.out.next ?_ ?_ ?_ (fun j o hj ho=>rfl)
        ·rw [HS1.out,h0];exact cs
        ·rw [HT1.out];exact ct
        ·rw [HC1.out];exact cc
       case measure=>simp [intOf];omega
      ·have HC1:=O (HCk.out.trans (if_neg (by rw [HS1.out];exact h0)))
       have z0:(((stR c round st0) k:Int) != 0)=true:=by simp;omega
       have z1:((stR c round st0) k != 0)=true:=by simp;omega
       go_wp2_with fail
       refine AT.wp_region_tail (S:=fun w'=>w'.cell? ⟨ND,k*7+3,none⟩=some (Z Y (ck k))∧w'.cell? ⟨NB,7,none⟩=some (.slice c.DA c.dr.length c.DC)∧w'.cell? ⟨NB,17,none⟩=some (Z Y round)∧w'.cell? ⟨NB,3,none⟩=some (Z Y c.G)) [25] (by kernel_rfl) ⟨cc,m7,mr,m3⟩ (fun hHeld=>?_)
       refine rgU 0 ?_
       refine rgU 1 ?_
       refine rgU 2 ?_
       refine rgU 3 ?_
       refine rgU 4 ?_
       refine rgU 5 ?_
       refine rgU 6 ?_
       refine rgU 7 ?_
       refine rgU 8 ?_
       refine rgU 9 ?_
       refine rgU 10 ?_
       refine rgU 11 ?_
       refine rgU 12 ?_
       refine rgU 13 ?_
       refine rgU 14 ?_
       refine rgU 15 ?_
       refine rgU 16 ?_
       refine rgU 17 ?_
       refine rgU 18 ?_
       refine rgU 19 ?_
       refine rgU 20 ?_
       refine rgV 21 fun K hK=>?_
       go_simp
       refine(HPk1.out _ HSB.out.drew.drew).mono ?_
       rintro e w1 ⟨rfl,rfl⟩
       go_simp
       refine hK.out _ _ ⟨cc,m7,mr,m3⟩ (fun hHeld=>?_)
       clear hK K
       refine rgU 22 ?_
       refine rgV 23 fun K hK=>?_
       go_simp
       refine hK.out _ _ ⟨cc,m7,mr,m3⟩ (fun hHeld=>?_)
       clear hK K
       refine rgV 24 fun K hK=>?_
       go_simp
       refine hK.out _ _ ⟨cc,m7,mr,m3⟩ (fun hHeld=>?_)
       clear hK K
       refine rgW 25 fun K hK=>?_
       go_simp
       refine hK.out _ _ ?_
       clear hK K
       refine AT.wpT_done (by kernel_rfl) ?_ _
       go_wp2
       go_roundw
       case rel =>
        refine⟨k+1,by omega,by go_num,?_,?_⟩
        ·refine HSC.out.next ?_ ?_ ?_ (fun j o hj ho=>?_)
         ·rw [HS1.out];exact set_keep2 (o':=k*7+3) cs (by omega)
         ·rw [HT1.out];exact set_keep2 (o':=k*7+3) ct (by omega)
         ·rw [HC1.out];exact World.cell?_setCell_same _ _ _ cc
         ·exact Zo _ _ _ _ (fun e=>by injection e with _ e;omega)
        ·exact(HSB.out.drew.drew).trans (ScBut.set (o:=k*7+3) (by omega))
       case measure=>simp [intOf];omega
    ·obtain rfl:k=c.N:=by omega
     have HSC:=O hsc
     clear hsc hsb
     go_wp2
     go_end0
     exact⟨rfl,_,HRT.out,⟨fun i hi=>by have:=HSC.out.s i hi;rwa [upto_lt hi]at this,fun i hi=>by have:=HSC.out.t i hi;rwa [upto_lt hi]at this,fun i hi=>by have:=HSC.out.c i hi;rwa [upto_lt hi]at this⟩,HSB.out⟩
end A50
end Go.Proofs.YtdbempiompiioaaGreat
