/- A round of the network: the walk. The network between two rounds, in memory. Clones of rows; queues  Conditions: the bounds stated in each theorem. -/
import Derived.Test.YtdbempiompiioaaGreatT13
set_option linter.unusedVariables false
set_option linter.unusedSimpArgs false
set_option maxRecDepth 100000
set_option maxHeartbeats 80000000
open Go.Value renaming int → Z
open Go.IntKind renaming i64 → Y
open Go renaming World → Zw, Calls → Zc, heap_alloc_new → Zh
open Go.RowKit renaming Below → Zb
open Go.Proofs.Tryz renaming prog → Zp
open Go.Lib renaming hid → O
open Go.World renaming block_lt_of_cell? → Zl, cell?_setCell_other → Zo
open Nat renaming le_refl → Zr
open Go.RowKit.Below renaming refl → Zf
namespace Go.Proofs.YtdbempiompiioaaGreat
namespace A63
open Go.RowKit A1 A8 A9 A14 A22 A41 A46 A51 A52 A56 A59 A61 A62
theorem info84:(Tryz.prog.info? 84).map (fun i=>(i.zero,i.size,i.bytes))=some (some (.agg #[.slice none 0 0,.slice none 0 0,.slice none 0 0,.slice none 0 0]),4,96):=by kernel_rfl
theorem net_step (c:NC) (NB LO ND round:Nat) (m:Nm) (st:Nat→Nat) (ck:Nat→Int) (q:Nat→Nat→Option Nat) (g:Nat→Option (List (Nat×Nat))) (fo:Nat→Nat→Option Fr) (A B:Zw→Prop) (D:Nat→Zw→Prop) (w:Zw) (hc:NOk c) (hs:Sep c NB LO ND m)
 (hng:∀ i b C,i < c.N→m.gv i=.slice (some ⟨b,0,none⟩) (c.N+c.ps.length) C→b≠NB)
 (h17:w.cell? ⟨NB,17,none⟩=some (Z Y round)) (h16:w.cell? ⟨NB,16,none⟩=some (Z Y c.rounds)) (hlt:(round:Int) < c.rounds)
 (hpow:∀ w',Zb w.heap.size w w'→w'.heap=w.heap→Zc Zp 32 #[.pointer (some ⟨NB,0,none⟩)] w' fun e w1=>e=.returned (.tuple #[])∧A w1)
 (hhost:∀ w1,A w1→Zc Zp 33 #[.pointer (some ⟨NB,0,none⟩)] w1 fun e w2=>e=.returned (.tuple #[])∧B w2)
 (hB:∀ w2,B w2→NdOk w2 c NB LO ND round m st ck q g∧(∃ u,w2.cell? ⟨NB,19,none⟩=some u)∧∀ o,w2.frozen? ⟨NB,o,none⟩=false)
 (hrun:∀ s wr,s < c.N+c.ps.length→NdOk wr c NB LO ND round m st ck (qS c st q s) g→Zc Zp 34 #[.pointer (some ⟨NB,0,none⟩),Z Y s] wr (RunSlot c m (owners c.N c.ps s) st (qS c st q s) s (fo s) wr))
 (heach:∀ w2 wr v xs,B w2→SlB w2 c NB m st fo q (c.N+c.ps.length) v xs wr→Zc Zp 35 #[.pointer (some ⟨NB,0,none⟩),.func (Fn.func 36) #[.pointer (some ⟨NB,0,none⟩)] #[]] wr fun e w4=>∃ EB,e=.returned (.slice (some ⟨EB,0,none⟩) c.N c.N)∧D EB w4)
 (hD:∀ EB w4,D EB w4→(∃ u,w4.cell? ⟨NB,18,none⟩=some u)∧w4.cell? ⟨NB,17,none⟩=some (Z Y round)∧∀ o,w4.frozen? ⟨NB,o,none⟩=false) :
 Zc Zp 15 #[.pointer (some ⟨NB,0,none⟩)] w fun e w'=>e=.returned (.bool true)∧∃ EB w4,D EB w4∧w'=(w4.setCell ⟨NB,18,none⟩ (.slice (some ⟨EB,0,none⟩) c.N c.N)).setCell ⟨NB,17,none⟩ (Z Y ((round:Int)+1)):=by
 have n0:=hc.cf.n0
 have n1:=hc.cf.n1
 have npl:c.ps.length≤3:=by have:=hc.cf.len;omega
 have nr:=hc.rounds1
 have lNB:=Zl w _ h17
 have cmp:(decide ((round:Int)≥c.rounds))=false:=by simp;omega
 have cmp2:(decide (c.rounds≤(round:Int)))=false:=by simp;omega
 have HNG:=O hng
 have HS:=O hs
 have HP:=O hpow
 have HH:=O hhost
 have HB:=O hB
 have HR:=O hrun
 have HE:=O heach
 have HD:=O hD
 have HSl:=O (fun w=>conf_Slots c.N c.Pi c.Er c.G c.Fi c.PA c.ps.length c.PC w (by omega) (by omega) (by omega))
 rw [← Int.natCast_add]at HSl
 obtain⟨j0,hi0,hz0,hz1,hz2⟩:=info_parts info84
 have HI0:=O hi0
 have HZ0:=O (And.intro hz0 (And.intro hz1 hz2))
 clear hi0 hz0 hz1 hz2 hc hs hng hpow hhost hB hrun heach hD
 go_enter Tryz.func15,Tryz.ntmps15
 go_wp2_with fail
 refine wp_region_held_drew (S:=fun w'=>w'.cell? ⟨NB,17,none⟩=some (Z Y round)∧w'.cell? ⟨NB,16,none⟩=some (Z Y c.rounds)) (by kernel_rfl) ⟨h17,h16⟩ (fun hHeld=>?_)
 refine rgT 0 ?_
 refine rgT 1 ?_
 refine rgT 2 ?_
 refine rgT 3 ?_
 refine rgT 4 ?_
 refine rgT 5 ?_
 refine rgT 6 ?_
 refine rgT 7 ?_
 refine rgT 8 ?_
 refine rgT 9 ?_
 refine wpAnyH_done (by kernel_rfl) ?_ _
 have HPw:=O (HP.out w.drew (Zf _ _).drew rfl)
 clear HP h17 h16 hHeld
 go_wp2_with fail
 refine(HPw.out).mono ?_
 rintro e w1 ⟨rfl,hA⟩
 have HA:=O hA
 clear HPw hA
 go_wp2_with fail
 refine(HH.out w1 HA.out).mono ?_
 rintro e w2 ⟨rfl,hB2⟩
 obtain⟨hn2,⟨u19,e19⟩,hfr⟩:=HB.out w2 hB2
 have HB2:=O hB2
 have HN2:=O hn2
 have HFr:=O hfr
 have f19:=hfr 19
 have lNB2:=Zl w2 _ e19
 have HSl0:=O (SlB.zero (c:=c) (m:=m) (st:=st) (fo:=fo) (q:=q) e19 hn2.qa HS.out.qn)
 have HNS:=O (NdOk.slots hn2 HS.out HNG.out HSl0.out.but HSl0.out.qa)
 obtain⟨k0,k1,k2,k3,k4,k5,k6,k7,k8,k9,k10,k11,k12,k13,k14,k15,k16⟩:=HNS.out.nb
 clear hn2 hfr hB2 HA k6 k7 k8 k9 k10 k11 k12 k13 k14 k15 k16
 go_upto_region 6 with fail
 generalize w2.setCell ⟨NB,19,none⟩ (.slice none 0 0)=ws at *
 go_wp2_with fail
 refine(HSl.out ws).mono ?_
 rintro e wt ⟨rfl,hbt⟩
 have HSl1:=O (HSl0.out.below hbt)
 clear hbt k0 k1 k2 k3 k4 k5 f19 e19 HSl0 HNS
 go_wp2_with fail
 go_loopw [27] (fun t wr=>∃(k:Nat) (v:Value) (xs:List Value),k≤c.N+c.ps.length∧t=Z Y k∧SlB w2 c NB m st fo q k v xs wr) (fun t _=>c.N+c.ps.length-(intOf t).toNat)
 case atStart=>exact⟨0,_,_,by omega,rfl,HSl1.out⟩
 case round =>
  obtain⟨k,v,xs,hk,rfl,hsb⟩:=hrel
  have hN:=NdOk.slots HN2.out HS.out HNG.out hsb.but hsb.qa
  by_cases hlt:k < c.N+c.ps.length
  ·have lk:(k:Int) < ((c.N+c.ps.length:Nat):Int):=by omega
   have lk2:(k:Int) < (c.N:Int)+(c.ps.length:Int):=by omega
   have v19:=hsb.c19
   have f19:wr.frozen? ⟨NB,19,none⟩=false:=(hsb.but.fr 19).trans (HFr.out 19)
   have lNr:=Zl wr _ v19
   have HCa:=O (HR.out k wr.drew hlt (NdOk.below hN HS.out (Zf _ _).drew))
   have HSB:=O hsb.drew
   have hqw:∀ i,i < c.N→m.Q i < w2.heap.size:=fun i hi=>(HN2.out.qa i hi).lt
   have HQw:=O hqw
   clear hsb hN hqw
   go_upto_region 9 with fail
   refine AT.wp_region_tail (S:=fun w'=>w'.cell? ⟨NB,19,none⟩=some v) [12] (by kernel_rfl) v19 (fun hHeld=>?_)
   refine rgU 0 ?_
   refine rgU 1 ?_
   refine rgU 2 ?_
   refine rgU 3 ?_
   refine rgU 4 ?_
   refine rgU 5 ?_
   refine rgU 6 ?_
   refine rgV 7 fun K hK=>?_
   go_simp
   refine(HCa.out).mono ?_
   rintro e wq ⟨A0,L0,C0,A1,L1,C1,A2,L2,C2,TB,rfl,hrow,hbq,hq2⟩
   have HBq:=O hbq
   have HRo:=O hrow
   have HQ2:=O hq2
   have nNQ:¬ ∃ i,i < c.N∧NB=m.Q i:=fun⟨i,hi,e⟩=>HS.out.qn i hi e.symm
   have q19:=(hbq.cell (p:=⟨NB,19,none⟩) (show NB < wr.heap.size from lNr) nNQ).trans v19
   have g19:=(hbq.frozen (p:=⟨NB,19,none⟩) (show NB < wr.heap.size from lNr) nNQ).trans f19
   have HOq:=O (own_but HSB.out.own hbq (fun b hb ⟨i,hi,e⟩=>by have:=HQw.out i hi;omega))
   have hzq:w2.heap.size≤wq.heap.size:=Nat.le_trans HSB.out.but.but.size hbq.size
   have lNq:NB < wq.heap.size:=by omega
   clear hbq hrow hq2 nNQ f19 v19 HCa
   go_simp
   refine hK.out _ _ q19 (fun hHeld=>?_)
   clear hK K
   refine rgV 8 fun K hK=>?_
   go_simp
   refine hK.out _ _ (alloc_keep q19) (fun hHeld=>?_)
   clear hK K
   refine rgV 9 fun K hK=>?_
   refine step_append_lies _ (by rfl) _ _ _ (by rfl) w2.heap.size 84 j0 _ 4 96 Tryz.underlying73 HI0.out HZ0.out.1 HZ0.out.2.1 HZ0.out.2.2 rfl (by omega) v k xs (by rfl) (HOq.out.alloc _) ⟨wq.heap.size,0,none⟩ 1 1 [.slice A0 L0 C0,.slice A1 L1 C1,.slice A2 L2 C2,.slice (some ⟨TB,0,none⟩) c.N c.N] (by rfl) (by rfl) (World.news_of_block (cs:=#[.slice A0 L0 C0,.slice A1 L1 C1,.slice A2 L2 C2,.slice (some ⟨TB,0,none⟩) c.N c.N]) (t:=84) (fr:=(0,0)) (Zh wq _)) (by simp [Value.oneCell']) (by omega) (by unfold maxLen;omega) (by omega) (by simp;omega) (wq.heap.size+1) (by simp) ?_
   intro gg cap w3 hown3 hgrow hat hlt3
   have HNx:=O (SlB.next HSB.out (show NB < w2.heap.size from lNB2) HQw.out HS.out.qn HRo.out HBq.out HQ2.out (But.alloc (But.refl (fun _=>False) wq) _) hown3 hgrow (hat.imp id (fun e=>by omega)))
   have hb23:But (fun b=>w2.heap.size≤b∧v.ownBlock=some b) wq w3:=But.grown (But.alloc (But.refl _ wq) _) hgrow (fun q hq =>.inl ⟨ownsRow_block HOq.out hq,hq⟩)
   have nNB:¬(w2.heap.size≤NB∧v.ownBlock=some NB):=fun e=>by have:=e.1;have:NB < w2.heap.size:=lNB2;omega
   have l19:=(hb23.cell (p:=⟨NB,19,none⟩) lNq nNB).trans q19
   have yN:w3.frozen? ⟨NB,19,none⟩=false:=(hb23.frozen (p:=⟨NB,19,none⟩) lNq nNB).trans g19
   clear hgrow hown3 hb23 nNB q19 g19 hat
   refine hK.out _ _ l19 (fun hHeld=>?_)
   clear hK K
   try simp only [Act.put,List.getElem_toArray,List.getElem_cons_succ,List.getElem_cons_zero,List.setIfInBounds_toArray,List.set_cons_zero,List.set_cons_succ]
   refine rgV 10 fun K hK=>?_
   go_simp
   refine hK.out _ _ l19 (fun hHeld=>?_)
   clear hK K
   refine rgV 11 fun K hK=>?_
   go_simp
   refine hK.out _ _ l19 (fun hHeld=>?_)
   clear hK K
   refine rgW 12 fun K hK=>?_
   go_simp
   refine hK.out _ _ ?_
   clear hK K
   refine AT.wpT_done (by kernel_rfl) ?_ _
   clear l19 yN hHeld
   go_wp2
   go_roundw
   case rel=>exact⟨k+1,_,_,by omega,by go_num,HNx.out⟩
   case measure=>simp [intOf];omega
  ·obtain rfl:k=c.N+c.ps.length:=by omega
   have HSB:=O hsb
   have HEc:=O (HE.out w2 wr v xs HB2.out hsb)
   clear hsb hN
   go_wp2_with fail
   refine(HEc.out).mono ?_
   rintro e w4 ⟨EB,rfl,hd⟩
   obtain⟨⟨u18,e18⟩,e17,hf4⟩:=HD.out EB w4 hd
   have f18:=hf4 18
   have f17:=hf4 17
   have HDd:=O hd
   clear hd HEc hf4
   go_wp2
   go_ret
   exact⟨rfl,EB,w4,HDd.out,rfl⟩
end A63
namespace A64
open Go.RowKit A9 A14 A41 A45 E5 A50 A51 A56 A59 A60 A61 A62
structure NetAt (w:Zw) (c:NC) (NB LO ND base round:Nat) (m:Nm) (lv:Nat→Value) (st tm was:Nat→Nat) (ck:Nat→Int) (q:Nat→Nat→Option Nat) (g:Nat→Option (List (Nat×Nat))) (n:Nat→Nat) (xs:Nat→List Value):Prop where
 nd:NdOk w c NB LO ND round m st ck q g
 sep:Sep c NB LO ND m
 ng:∀ i b C,i < c.N→m.gv i=.slice (some ⟨b,0,none⟩) (c.N+c.ps.length) C→b≠NB
 gd:∀ i b C,i < c.N→m.gv i=.slice (some ⟨b,0,none⟩) (c.N+c.ps.length) C→b≠ND
 ct:∀ i,i < c.N→w.cell? ⟨ND,i*7+1,none⟩=some (Z Y (tm i))
 cw:∀ i,i < c.N→w.cell? ⟨ND,i*7+2,none⟩=some (Z Y (was i))
 cl:∀ i,i < c.N→w.cell? ⟨ND,i*7+6,none⟩=some (lv i)
 ls:∀ i,i < c.N→LogSep c NB ND base m (lv i)
 own:∀ i,i < c.N→w.ownsRow LO 48 4 (lv i) (n i) (xs i)
 ne:∀ i j b,i < c.N→j < c.N→i≠j→(lv i).ownBlock=some b→(lv j).ownBlock≠some b
 base:base≤w.heap.size
 c19:∃ u,w.cell? ⟨NB,19,none⟩=some u
 c20:∃ u,w.cell? ⟨NB,20,none⟩=some u
 fN:∀ o,w.frozen? ⟨NB,o,none⟩=false
 fD:∀ o,w.frozen? ⟨ND,o,none⟩=false
theorem gotAt_lt {w:Zw} {v:Value} {S:Nat} {g:Option (List (Nat×Nat))} (h:GotAt w v S g) {b C:Nat} (e:v=.slice (some ⟨b,0,none⟩) S C):b < w.heap.size:=by
 cases g with
 | none=>rw [e]at h;exact absurd h (by simp [GotAt])
 | some l =>
  obtain⟨_,b',C',hv,hlt,_⟩:=h
  rw [e]at hv
  injection hv with hv _ _
  injection hv with hv
  injection hv with hv _ _
  omega
theorem NbK.cells {w w1:Zw} {NB:Nat} {c:NC} (b:NbK w NB c) (n:∀ o,o≤16→w1.cell? ⟨NB,o,none⟩=w.cell? ⟨NB,o,none⟩):NbK w1 NB c :=
 ⟨(n 0 (by omega)).trans b.c0,(n 1 (by omega)).trans b.c1,(n 2 (by omega)).trans b.c2,(n 3 (by omega)).trans b.c3,(n 4 (by omega)).trans b.c4,(n 5 (by omega)).trans b.c5,(n 6 (by omega)).trans b.c6,(n 7 (by omega)).trans b.c7,(n 8 (by omega)).trans b.c8,(n 9 (by omega)).trans b.c9,(n 10 (by omega)).trans b.c10,(n 11 (by omega)).trans b.c11,(n 12 (by omega)).trans b.c12,(n 13 (by omega)).trans b.c13,(n 14 (by omega)).trans b.c14,(n 15 (by omega)).trans b.c15,(n 16 (by omega)).trans b.c16⟩
theorem NdOk.power {w w1:Zw} {c:NC} {NB LO ND round:Nat} {m:Nm} {st st1 tm1:Nat→Nat} {ck ck1:Nat→Int} {q:Nat→Nat→Option Nat} {g:Nat→Option (List (Nat×Nat))} (h:NdOk w c NB LO ND round m st ck q g) (hs:Sep c NB LO ND m) (hgd:∀ i b C,i < c.N→m.gv i=.slice (some ⟨b,0,none⟩) (c.N+c.ps.length) C→b≠ND)
 (hsc:Sc w1 ND c.N st1 tm1 ck1) (hb:ScBut w w1 ND):NdOk w1 c NB LO ND round m st1 ck1 q g:=by
 have lNB:=Zl w _ h.r
 have kN:∀ o,w1.cell? ⟨NB,o,none⟩=w.cell? ⟨NB,o,none⟩:=fun o=>hb.but.cell (p:=⟨NB,o,none⟩) lNB hs.nn
 exact⟨h.nb.keep (hb.but.block NB lNB hs.nn),h.lo.below (hb.but.to_below h.lo.le (fun k e=>by rw [e];exact hs.ld)),(kN _).trans h.r,(kN _).trans h.n,hsc.s,hsc.c,fun i hi=>(hb.other _ (by omega) (by omega) (by omega)).trans (h.cq i hi),fun i hi=>(hb.other _ (by omega) (by omega) (by omega)).trans (h.cg i hi),fun i hi=>gotAt_but (h.ga i hi) hb.but (fun b C e=>hgd i b C hi e),fun i hi=>(h.qa i hi).but hb.but (hs.qd i hi)⟩
theorem NetAt.next {wr w4:Zw} {c:NC} {NB LO ND base round:Nat} {m:Nm} {lv:Nat→Value} {x:Nx} {gv' lv':Nat→Value} {st:Nat→Nat} {ck:Nat→Int} {q:Nat→Nat→Option Nat} {g:Nat→Option (List (Nat×Nat))} {n:Nat→Nat} {xs:Nat→List Value}
 (hn:NdOk wr c NB LO ND round m st ck q g) (hs:Sep c NB LO ND m) (hng:∀ i b C,i < c.N→m.gv i=.slice (some ⟨b,0,none⟩) (c.N+c.ps.length) C→b≠NB)
 (hls:∀ i,i < c.N→LogSep c NB ND base m (lv i)) (hown:∀ i,i < c.N→wr.ownsRow LO 48 4 (lv i) (n i) (xs i)) (hbase:base≤wr.heap.size) (c19:∃ u,wr.cell? ⟨NB,19,none⟩=some u) (c20:∃ u,wr.cell? ⟨NB,20,none⟩=some u) (fN:∀ o,wr.frozen? ⟨NB,o,none⟩=false)
 (hb:But (A61.Own lv c.N) wr w4) (hN:NewNd base c LO wr.heap.size m lv x gv' lv' c.N w4) :
 NetAt ((w4.setCell ⟨NB,18,none⟩ (.slice (some ⟨wr.heap.size,0,none⟩) c.N c.N)).setCell ⟨NB,17,none⟩ (Z Y ((round:Int)+1))) c NB LO wr.heap.size w4.heap.size (round+1) ⟨m.Q,m.QC,gv'⟩ lv' x.st x.tm x.was x.ck q x.g x.n x.xs:=by
 have lNB:NB < wr.heap.size:=Zl wr _ hn.r
 have nOwn:¬ A61.Own lv c.N NB:=fun⟨j,hj,e⟩=>(hls j hj).nb e
 have hgE:∀ i b C,i < c.N→m.gv i=.slice (some ⟨b,0,none⟩) (c.N+c.ps.length) C→b < wr.heap.size:=fun i b C hi e=>gotAt_lt (hn.ga i hi) e
 have hQE:∀ i,i < c.N→m.Q i < wr.heap.size:=fun i hi=>(hn.qa i hi).lt
 have hold:∀ j b,j < c.N→(lv j).ownBlock=some b→b < wr.heap.size:=fun j b hj e=>by have:=(hls j hj).lt b e;omega
 have hw4:=hb.size
 have hE4:=hN.lt
 have c4:∀ o,w4.cell? ⟨NB,o,none⟩=wr.cell? ⟨NB,o,none⟩:=fun o=>hb.cell (p:=⟨NB,o,none⟩) lNB nOwn
 have hSet:But (fun b=>b=NB) w4 ((w4.setCell ⟨NB,18,none⟩ (.slice (some ⟨wr.heap.size,0,none⟩) c.N c.N)).setCell ⟨NB,17,none⟩ (Z Y ((round:Int)+1))):=((But.refl (fun b=>b=NB) w4).setCell (p:=⟨NB,18,none⟩) (.inl rfl) _).setCell (p:=⟨NB,17,none⟩) (.inl rfl) _
 have hc:∀ o,o≠17→o≠18→((w4.setCell ⟨NB,18,none⟩ (.slice (some ⟨wr.heap.size,0,none⟩) c.N c.N)).setCell ⟨NB,17,none⟩ (Z Y ((round:Int)+1))).cell? ⟨NB,o,none⟩=wr.cell? ⟨NB,o,none⟩:=fun o h1 h2=>by
  rw [Zo _ _ _ _ (fun e=>by injection e with _ e;omega),Zo _ _ _ _ (fun e=>by injection e with _ e;omega)]
  exact c4 o
 have hc18:((w4.setCell ⟨NB,18,none⟩ (.slice (some ⟨wr.heap.size,0,none⟩) c.N c.N)).setCell ⟨NB,17,none⟩ (Z Y ((round:Int)+1))).cell? ⟨NB,18,none⟩=some (.slice (some ⟨wr.heap.size,0,none⟩) c.N c.N):=set_keep2 (World.cell?_setCell_same _ _ _ ((c4 18).trans hn.n)) (by omega)
 have hc17:((w4.setCell ⟨NB,18,none⟩ (.slice (some ⟨wr.heap.size,0,none⟩) c.N c.N)).setCell ⟨NB,17,none⟩ (Z Y ((round:Int)+1))).cell? ⟨NB,17,none⟩=some (Z Y ((round:Int)+1)):=World.cell?_setCell_same _ _ _ (set_keep2 ((c4 17).trans hn.r) (by omega))
 have hfr:∀ p,((w4.setCell ⟨NB,18,none⟩ (.slice (some ⟨wr.heap.size,0,none⟩) c.N c.N)).setCell ⟨NB,17,none⟩ (Z Y ((round:Int)+1))).frozen? p=w4.frozen? p:=fun p=>by simp only [World.frozen?_setCell]
 have hz:((w4.setCell ⟨NB,18,none⟩ (.slice (some ⟨wr.heap.size,0,none⟩) c.N c.N)).setCell ⟨NB,17,none⟩ (Z Y ((round:Int)+1))).heap.size=w4.heap.size:=by simp [World.setCell]
 generalize ((w4.setCell ⟨NB,18,none⟩ (.slice (some ⟨wr.heap.size,0,none⟩) c.N c.N)).setCell ⟨NB,17,none⟩ (Z Y ((round:Int)+1)))=W at *
 have nE:¬ wr.heap.size=NB:=by omega
 have kE:∀ o v,w4.cell? ⟨wr.heap.size,o,none⟩=some v→W.cell? ⟨wr.heap.size,o,none⟩=some v:=fun o v h=>(hSet.cell (p:=⟨wr.heap.size,o,none⟩) hE4 nE).trans h
 have gB:∀ i b C,i < c.N→gv' i=.slice (some ⟨b,0,none⟩) (c.N+c.ps.length) C→(m.gv i=.slice (some ⟨b,0,none⟩) (c.N+c.ps.length) C∧b < wr.heap.size)∨(wr.heap.size < b∧∀ j,j < c.N→(lv' j).ownBlock≠some b):=fun i b C hi e=>by
  rcases hN.gg i hi with h | h
  ·exact .inl ⟨h ▸ e,hgE i b C hi (h ▸ e)⟩
  ·exact .inr (h b C e)
 have lB:∀ j b,j < c.N→(lv' j).ownBlock=some b→((lv j).ownBlock=some b∧b < wr.heap.size)∨wr.heap.size < b:=fun j b hj e=>(hN.lo j b hj e).imp (fun h=>⟨h,hold j b hj h⟩) id
 have hlow:Zb LO wr w4:=hb.to_below hn.lo.le (fun k ⟨j,hj,e⟩=>ownsRow_block (hown j hj) e)
 have hlow2:Zb LO w4 W:=hSet.to_below (by have:=hn.lo.le;omega) (fun k e=>by rw [e];exact hs.ln)
 refine⟨⟨NbK.cells hn.nb (fun o ho=>hc o (by omega) (by omega)),(hn.lo.below hlow).below hlow2,by rw [hc17];simp,hc18,fun i hi=>kE _ _ (hN.cs i hi),fun i hi=>kE _ _ (hN.cc i hi),fun i hi=>kE _ _ (hN.cq i hi),fun i hi=>kE _ _ (hN.gc i hi),fun i hi=>gotAt_but (hN.ga i hi) hSet (fun b C e eN=>?_),fun i hi=>((hn.qa i hi).but hb (fun⟨j,hj,e⟩=>(hls j hj).q i hi e)).but hSet (hs.qn i hi)⟩,
  ⟨fun e=>nE e.symm,hs.ln,hn.lo.le,hs.lq,hs.qn,fun i hi e=>by have:=hQE i hi;rw [show(Nm.Q ⟨m.Q,m.QC,gv'⟩)=m.Q from rfl]at e;omega,hs.qq,fun i j b C hi hj e eQ=>?_⟩,
  fun i b C hi e eN=>?_,fun i b C hi e eE=>?_,fun i hi=>kE _ _ (hN.ct i hi),fun i hi=>kE _ _ (hN.cw i hi),fun i hi=>kE _ _ (hN.lc i hi),fun i hi=>⟨fun e=>?_,fun e=>?_,fun j hj e=>?_,fun j b C hj e e2=>?_,fun b e=>((hN.la i hi).lt b e).2⟩,fun i hi=>own_but2 (hN.la i hi) hSet (fun b e eN=>?_),hN.ll,by omega,?_,?_,fun o=>?_,fun o=>(hfr _).trans (hN.fr o)⟩
 ·rcases gB i b C hi e with h | h
  ·exact hng i b C hi h.1 eN
  ·have:=h.1;omega
 ·rcases gB i b C hi e with h | h
  ·exact hs.gq i j b C hi hj h.1 eQ
  ·have:=h.1;have:=hQE j hj;rw [show(Nm.Q ⟨m.Q,m.QC,gv'⟩)=m.Q from rfl]at eQ;omega
 ·rcases gB i b C hi e with h | h
  ·exact hng i b C hi h.1 eN
  ·have:=h.1;omega
 ·rcases gB i b C hi e with h | h
  ·have:=h.2;omega
  ·have:=h.1;omega
 ·rcases lB i _ hi e with h | h
  ·exact(hls i hi).nb h.1
  ·omega
 ·rcases lB i _ hi e with h | h
  ·have:=h.2;omega
  ·omega
 ·rcases lB i _ hi e with h | h
  ·exact(hls i hi).q j hj h.1
  ·have:=hQE j hj;rw [show(Nm.Q ⟨m.Q,m.QC,gv'⟩)=m.Q from rfl]at h;omega
 ·rcases gB j b C hj e with h | h
  ·rcases lB i b hi e2 with h' | h'
   ·exact(hls i hi).g j b C hj h.1 h'.1
   ·have:=h.2;omega
  ·exact h.2 i hi e2
 ·rcases lB i b hi e with h | h
  ·exact(hls i hi).nb (eN ▸ h.1)
  ·omega
 ·obtain⟨u,hu⟩:=c19;exact⟨u,(hc 19 (by omega) (by omega)).trans hu⟩
 ·obtain⟨u,hu⟩:=c20;exact⟨u,(hc 20 (by omega) (by omega)).trans hu⟩
 ·exact(hfr _).trans ((hb.frozen (p:=⟨NB,o,none⟩) lNB nOwn).trans (fN o))
end A64
namespace A71
open Go.RowKit A4 A9 A11 A18 D19 A41 A45 A48 A55
theorem ints_new {w:Zw} {base:Nat} {v:Value} {l:List Int} (h:w.ownsRow base 3 1 v l.length (l.map (Z Y))):∃ A C,v=.slice A l.length C∧Ints w A l∧∀ b off,A=some ⟨b,off,none⟩→base≤b:=by
 obtain⟨A,C,e,h1,_⟩:=ints_of_own h
 refine⟨A,C,e,h1,fun b off eA=>?_⟩
 rcases own_split h with⟨h2,_⟩ | ⟨g,cap,h2,hg,_⟩
 ·rw [e,eA]at h2;cases h2
 ·rw [e,eA]at h2;cases h2;exact hg
theorem clone_ints (A:Option Addr) (l:List Int) (C:Nat) (w:Zw) (hI:Ints w A l) (hl:l.length≤1000) :
 Zc Zp 28 #[.slice A l.length C] w fun e w'=>∃ A' C',e=.returned (.slice A' l.length C')∧Ints w' A' l∧(∀ b off,A'=some ⟨b,off,none⟩→w.heap.size≤b)∧Zb w.heap.size w w':=by
 cases A with
 | none =>
  have h0:l=[]:=by
   cases l with
   | nil=>rfl
   | cons x r =>
    obtain⟨_,_,e,_⟩:=hI 0 (by simp)
    cases e
  subst h0
  exact(Tryz.slices_Clone_int_nil _ _ w).mono fun e w' hh=>⟨none,0,hh.1,fun k hk=>absurd hk (by simp),(fun b off e=>by cases e),by rw [hh.2];exact Zf _ _⟩
 | some a =>
  rcases hI.cases with h0 | ⟨b,off,e,hb,hc⟩
  ·subst h0
   exact(Tryz.slices_Clone_int_zero a C w).mono fun e w' hh=>by
    obtain⟨v',h1,h2,h3,h4⟩:=hh
    obtain⟨A',C',e1,h5,h6⟩:=ints_new (l:=[]) h2
    exact⟨A',C',by rw [h1,e1],h5,h6,h4⟩
  ·cases e
   exact(Tryz.slices_Clone_int b off l.length C l w (Zr _) (by omega) hc).mono fun e w' hh=>by
    obtain⟨v',h1,h2,h3,h4⟩:=hh
    rw [List.take_length]at h2
    obtain⟨A',C',e1,h5,h6⟩:=ints_new h2
    exact⟨A',C',by rw [h1,e1],h5,h6,h4⟩
def clCells:List Cl→List Value
 | []=>[]
 | x :: r =>Z Y x.round :: Z Y x.node :: Z Y x.pair :: Z Y x.v :: clCells r
theorem clCells_length:∀ l,(clCells l).length=l.length*4
 | []=>rfl
 | x :: r=>by simp [clCells,clCells_length r];omega
theorem clCells_one:∀ l,∀ u ∈ clCells l,u.oneCell'=true
 | [],u,h=>by cases h
 | x :: r,u,h=>by
  simp only [clCells,List.mem_cons]at h
  rcases h with rfl | rfl | rfl | rfl | h
  ·rfl
  ·rfl
  ·rfl
  ·rfl
  ·exact clCells_one r u h
theorem clCells_at:∀(l:List Cl) (k:Nat),k < l.length→(clCells l)[k*4]?=some (Z Y (l.getD k ⟨0,0,0,0⟩).round)∧(clCells l)[k*4+1]?=some (Z Y (l.getD k ⟨0,0,0,0⟩).node)∧(clCells l)[k*4+2]?=some (Z Y (l.getD k ⟨0,0,0,0⟩).pair)∧(clCells l)[k*4+3]?=some (Z Y (l.getD k ⟨0,0,0,0⟩).v)
 | [],k,h=>absurd h (by simp)
 | x :: r,0,_=>⟨rfl,rfl,rfl,rfl⟩
 | x :: r,k+1,h=>by
  obtain⟨h1,h2,h3,h4⟩:=clCells_at r k (by simpa using h)
  have e:(k+1)*4=k*4+4:=by omega
  rw [e]
  exact⟨h1,h2,h3,h4⟩
theorem cls_cells {w:Zw} {b off:Nat}:∀ {l:List Cl},(∀ k,k < l.length→w.cell? ⟨b,off+k*4,none⟩=some (Z Y (l.getD k ⟨0,0,0,0⟩).round)∧w.cell? ⟨b,off+k*4+1,none⟩=some (Z Y (l.getD k ⟨0,0,0,0⟩).node)∧w.cell? ⟨b,off+k*4+2,none⟩=some (Z Y (l.getD k ⟨0,0,0,0⟩).pair)∧w.cell? ⟨b,off+k*4+3,none⟩=some (Z Y (l.getD k ⟨0,0,0,0⟩).v)) →
 ∀ j u,(clCells l)[j]?=some u→w.cell? ⟨b,off+j,none⟩=some u:=by
 intro l h j u hj
 have hl:j < (clCells l).length:=(List.getElem?_eq_some_iff.1 hj).1
 rw [clCells_length]at hl
 obtain⟨h1,h2,h3,h4⟩:=h (j / 4) (by omega)
 obtain⟨g1,g2,g3,g4⟩:=clCells_at l (j / 4) (by omega)
 have:j=j / 4*4∨j=j / 4*4+1∨j=j / 4*4+2∨j=j / 4*4+3:=by omega
 rcases this with e | e | e | e
 ·rw [e]at hj ⊢;rw [g1]at hj;cases hj;exact h1
 ·rw [e]at hj ⊢;rw [g2]at hj;cases hj;exact h2
 ·rw [e]at hj ⊢;rw [g3]at hj;cases hj;exact h3
 ·rw [e]at hj ⊢;rw [g4]at hj;cases hj;exact h4
theorem cls_of_own {w:Zw} {base n:Nat} {v:Value} {l:List Cl} (h:w.ownsRow base 52 4 v n (clCells l)) (hn:n=l.length):∃ A C,v=.slice A l.length C∧Cls w A l∧∀ b off,A=some ⟨b,off,none⟩→base≤b:=by
 subst hn
 rcases own_split h with⟨h1,h2⟩ | ⟨g,cap,h1,hg,h2,_,_,h3,_⟩
 ·exact⟨none,0,by rw [h1,h2],fun k hk=>absurd hk (by omega),(fun b off e=>by cases e)⟩
 ·refine⟨some ⟨g,0,none⟩,cap,h1,fun k hk=>?_,fun b off e=>by cases e;exact hg⟩
  obtain⟨a1,a2,a3,a4⟩:=clCells_at l k hk
  refine⟨g,0,rfl,h2,?_,?_,?_,?_⟩
  ·rw [Nat.zero_add];exact h3 _ _ a1
  ·rw [Nat.zero_add];exact h3 _ _ a2
  ·rw [Nat.zero_add];exact h3 _ _ a3
  ·rw [Nat.zero_add];exact h3 _ _ a4
theorem clone_cls (A:Option Addr) (l:List Cl) (C:Nat) (w:Zw) (hI:Cls w A l) (hl:l.length≤1000) (hA:l=[]→A=none) :
 Zc Zp 29 #[.slice A l.length C] w fun e w'=>∃ A' C',e=.returned (.slice A' l.length C')∧Cls w' A' l∧(∀ b off,A'=some ⟨b,off,none⟩→w.heap.size≤b)∧Zb w.heap.size w w':=by
 cases l with
 | nil =>
  rw [hA rfl]
  exact(CL.Clone29_nil _ _ w).mono fun e w' hh=>⟨none,0,hh.1,fun k hk=>absurd hk (by simp),(fun b off e=>by cases e),by rw [hh.2];exact Zf _ _⟩
 | cons x r =>
  obtain⟨b,off,rfl,_⟩:=hI 0 (by simp)
  have hc:∀ j u,(clCells (x :: r))[j]?=some u→w.cell? ⟨b,off+j,none⟩=some u:=cls_cells (fun k hk=>by
   obtain⟨b',off',e',_,h1,h2,h3,h4⟩:=hI k hk
   injection e' with e'
   injection e' with e1 e2
   subst e1;subst e2
   exact⟨h1,h2,h3,h4⟩)
  exact(CL.Clone29 b off (x :: r).length C (clCells (x :: r)) w (clCells_length _) (by omega) hc (clCells_one _)).mono fun e w' hh=>by
   obtain⟨v',h1,h2,h3,h4⟩:=hh
   obtain⟨A',C',e1,h5,h6⟩:=cls_of_own h2 rfl
   exact⟨A',C',by rw [h1,e1],h5,h6,h4⟩
def acCells:List Ac→List Value
 | []=>[]
 | x :: r =>Z Y x.how :: Z Y x.n :: .string x.t :: acCells r
theorem acCells_length:∀ l,(acCells l).length=l.length*3
 | []=>rfl
 | x :: r=>by simp [acCells,acCells_length r];omega
theorem acCells_one:∀ l,∀ u ∈ acCells l,u.oneCell'=true
 | [],u,h=>by cases h
 | x :: r,u,h=>by
  simp only [acCells,List.mem_cons]at h
  rcases h with rfl | rfl | rfl | h
  ·rfl
  ·rfl
  ·rfl
  ·exact acCells_one r u h
theorem acCells_at:∀(l:List Ac) (k:Nat),k < l.length→(acCells l)[k*3]?=some (Z Y (l.getD k Ac.no).how)∧(acCells l)[k*3+1]?=some (Z Y (l.getD k Ac.no).n)∧(acCells l)[k*3+2]?=some (.string (l.getD k Ac.no).t)
 | [],k,h=>absurd h (by simp)
 | x :: r,0,_=>⟨rfl,rfl,rfl⟩
 | x :: r,k+1,h=>by
  obtain⟨h1,h2,h3⟩:=acCells_at r k (by simpa using h)
  have e:(k+1)*3=k*3+3:=by omega
  rw [e]
  exact⟨h1,h2,h3⟩
theorem acs_cells {w:Zw} {b off:Nat} {l:List Ac} (h:∀ k,k < l.length→w.cell? ⟨b,off+k*3,none⟩=some (Z Y (l.getD k Ac.no).how)∧w.cell? ⟨b,off+k*3+1,none⟩=some (Z Y (l.getD k Ac.no).n)∧w.cell? ⟨b,off+k*3+2,none⟩=some (.string (l.getD k Ac.no).t)) :
 ∀ j u,(acCells l)[j]?=some u→w.cell? ⟨b,off+j,none⟩=some u:=by
 intro j u hj
 have hl:j < (acCells l).length:=(List.getElem?_eq_some_iff.1 hj).1
 rw [acCells_length]at hl
 obtain⟨h1,h2,h3⟩:=h (j / 3) (by omega)
 obtain⟨g1,g2,g3⟩:=acCells_at l (j / 3) (by omega)
 have:j=j / 3*3∨j=j / 3*3+1∨j=j / 3*3+2:=by omega
 rcases this with e | e | e
 ·rw [e]at hj ⊢;rw [g1]at hj;cases hj;exact h1
 ·rw [e]at hj ⊢;rw [g2]at hj;cases hj;exact h2
 ·rw [e]at hj ⊢;rw [g3]at hj;cases hj;exact h3
theorem acs_of_own {w:Zw} {base n:Nat} {v:Value} {l:List Ac} (h:w.ownsRow base 38 3 v n (acCells l)) (hn:n=l.length):∃ A C,v=.slice A l.length C∧Acs w A l∧∀ b off,A=some ⟨b,off,none⟩→base≤b:=by
 subst hn
 rcases own_split h with⟨h1,h2⟩ | ⟨g,cap,h1,hg,h2,_,_,h3,_⟩
 ·exact⟨none,0,by rw [h1,h2],fun k hk=>absurd hk (by omega),(fun b off e=>by cases e)⟩
 ·refine⟨some ⟨g,0,none⟩,cap,h1,fun k hk=>?_,fun b off e=>by cases e;exact hg⟩
  obtain⟨a1,a2,a3⟩:=acCells_at l k hk
  refine⟨g,0,rfl,h2,?_,?_,?_⟩
  ·rw [Nat.zero_add];exact h3 _ _ a1
  ·rw [Nat.zero_add];exact h3 _ _ a2
  ·rw [Nat.zero_add];exact h3 _ _ a3
theorem clone_acs (A:Option Addr) (l:List Ac) (C:Nat) (w:Zw) (hI:Acs w A l) (hl:l.length≤1000) (hA:l=[]→A=none) :
 Zc Zp 30 #[.slice A l.length C] w fun e w'=>∃ A' C',e=.returned (.slice A' l.length C')∧Acs w' A' l∧(∀ b off,A'=some ⟨b,off,none⟩→w.heap.size≤b)∧Zb w.heap.size w w':=by
 cases l with
 | nil =>
  rw [hA rfl]
  exact(CL.Clone30_nil _ _ w).mono fun e w' hh=>⟨none,0,hh.1,fun k hk=>absurd hk (by simp),(fun b off e=>by cases e),by rw [hh.2];exact Zf _ _⟩
 | cons x r =>
  obtain⟨b,off,rfl,_⟩:=hI 0 (by simp)
  have hc:∀ j u,(acCells (x :: r))[j]?=some u→w.cell? ⟨b,off+j,none⟩=some u:=acs_cells (fun k hk=>by
   obtain⟨b',off',e',_,h1,h2,h3⟩:=hI k hk
   injection e' with e'
   injection e' with e1 e2
   subst e1;subst e2
   exact⟨h1,h2,h3⟩)
  exact(CL.Clone30 b off (x :: r).length C (acCells (x :: r)) w (acCells_length _) (by omega) hc (acCells_one _)).mono fun e w' hh=>by
   obtain⟨v',h1,h2,h3,h4⟩:=hh
   obtain⟨A',C',e1,h5,h6⟩:=acs_of_own h2 rfl
   exact⟨A',C',by rw [h1,e1],h5,h6,h4⟩
theorem info156:(Tryz.prog.info? 156).map (fun i=>(i.zero,i.size,i.bytes))=some (some (.agg #[Z Y 0,Z Y 0,Z Y 0,Z Y 0,Z Y 0]),5,40):=by kernel_rfl
theorem mk77 (n:Nat) (hn:n≤100) (w:Zw):(Instr.makeSlice 77 (Z Y (n:Int)) (Z Y (n:Int))).run Zp w=.ok (.slice (some ⟨w.heap.size,0,none⟩) n n) (w.alloc (.cells (madeCells #[Z Y 0,Z Y 0,Z Y 0,Z Y 0,Z Y 0] (n*5)) 156)):=by
 obtain⟨i,hi,hz,hs,hb⟩:=info_parts info156
 have:=run_make_n (P:=Zp) 77 156 i _ Tryz.underlying77 hi hz n hn (by omega) w
 rw [hs]at this
 exact this
theorem qAt_made {w:Zw} {Q S:Nat} (h:w.heap[Q]?=some (.cells (madeCells #[Z Y 0,Z Y 0,Z Y 0,Z Y 0,Z Y 0] (S*5)) 156 (0,0))):QAt w Q S (fun _=>none):=by
 refine⟨heap_lt h,fun o=>by simp [World.frozen?,h],fun s hs=>?_,fun s hs=>?_,fun s hs j hj=>?_⟩
 ·rw [Lib.cell_of_heap h,made_at _ _ _ (by omega)]
  exact⟨_,rfl,fun v hv=>by cases hv⟩
 ·rw [Lib.cell_of_heap h,made_at _ _ _ (by omega)]
  have:(s*5+4)%5=4:=by omega
  simp [this]
 ·rw [Lib.cell_of_heap h,made_at _ _ _ (by omega)]
  exact⟨_,rfl⟩
end A71
namespace A72
open Go.RowKit A4 A11 A14 A18 A35 D19 A41 A45 A55 A59 A61 A64 A71
theorem ints_low2 {w w1:Zw} {A:Option Addr} {l:List Int} (h:Ints w A l) (hb:Zb w.heap.size w w1):Ints w1 A l :=
 ints_low h hb (fun b off e hl=>by obtain⟨b',off',e',h1,_⟩:=h 0 hl;rw [e]at e';injection e' with e';injection e' with e' _;omega) (Zr _)
theorem ints_but {w w1:Zw} {A:Option Addr} {l:List Int} {T:Nat→Prop} (h:Ints w A l) (hb:But T w w1) (hA:∀ b off,A=some ⟨b,off,none⟩→0 < l.length→¬ T b):Ints w1 A l:=fun k hk=>by
 obtain⟨b,off,e,h1,h2⟩:=h k hk
 have:=hb.size
 exact⟨b,off,e,by omega,(hb.cell (p:=⟨b,off+k,none⟩) h1 (hA b off e (by omega))).trans h2⟩
theorem cls_but {w w1:Zw} {A:Option Addr} {l:List Cl} {T:Nat→Prop} (h:Cls w A l) (hb:But T w w1) (hA:∀ b off,A=some ⟨b,off,none⟩→0 < l.length→¬ T b):Cls w1 A l:=fun k hk=>by
 obtain⟨b,off,e,h1,h2,h3,h4,h5⟩:=h k hk
 have:=hb.size
 have hn:=hA b off e (by omega)
 exact⟨b,off,e,by omega,(hb.cell (p:=⟨b,_,none⟩) h1 hn).trans h2,(hb.cell (p:=⟨b,_,none⟩) h1 hn).trans h3,(hb.cell (p:=⟨b,_,none⟩) h1 hn).trans h4,(hb.cell (p:=⟨b,_,none⟩) h1 hn).trans h5⟩
theorem ints_lt {w:Zw} {A:Option Addr} {l:List Int} (h:Ints w A l):∀ b off,A=some ⟨b,off,none⟩→0 < l.length→b < w.heap.size:=fun b off e hl=>by
 obtain⟨b',off',e',h1,_⟩:=h 0 hl
 rw [e]at e';injection e' with e';injection e' with e' _;omega
theorem acs_lt {w:Zw} {A:Option Addr} {l:List Ac} (h:Acs w A l):∀ b off,A=some ⟨b,off,none⟩→0 < l.length→b < w.heap.size:=fun b off e hl=>by
 obtain⟨b',off',e',h1,_⟩:=h 0 hl
 rw [e]at e'
 injection e' with e'
 injection e' with e' _
 omega
theorem acs_but {w w1:Zw} {A:Option Addr} {l:List Ac} {T:Nat→Prop} (h:Acs w A l) (hb:But T w w1) (hA:∀ b off,A=some ⟨b,off,none⟩→0 < l.length→¬ T b):Acs w1 A l:=fun k hk=>by
 obtain⟨b,off,e,h1,h2,h3,h4⟩:=h k hk
 have hn:=hA b off e (by omega)
 exact⟨b,off,e,Nat.lt_of_lt_of_le h1 hb.size,(hb.cell (p:=⟨b,_,none⟩) h1 hn).trans h2,(hb.cell (p:=⟨b,_,none⟩) h1 hn).trans h3,(hb.cell (p:=⟨b,_,none⟩) h1 hn).trans h4⟩
theorem cls_lt {w:Zw} {A:Option Addr} {l:List Cl} (h:Cls w A l):∀ b off,A=some ⟨b,off,none⟩→0 < l.length→b < w.heap.size:=fun b off e hl=>by
 obtain⟨b',off',e',h1,_⟩:=h 0 hl
 rw [e]at e';injection e' with e';injection e' with e' _;omega
structure Init (wx:Zw) (c:NC) (PA OA DA EA LA FA VA:Option Addr) (PC OC DC EC LC FC VC:Nat) (k:Nat) (Q:Nat→Nat) (wr:Zw):Prop where
 nb:wr.heap[wx.heap.size+1]?=some (.cells #[Z Y c.N,Z Y c.Pi,Z Y c.Er,Z Y c.G,Z Y c.Fi,.slice PA c.ps.length PC,.slice OA c.N OC,.slice DA c.dr.length DC,.slice EA c.er.length EC,.slice LA c.cl.length LC,Z Y c.kind,Z Y c.fat,Z Y c.frm,Z Y c.till,.slice FA c.ac.length FC,.slice VA c.vs.length VC,Z Y c.rounds,Z Y 0,.slice (some ⟨wx.heap.size,0,none⟩) c.N c.N,.slice none 0 0,.slice none 0 0] 76 (0,0))
 nd:∀ j o,j < c.N→o < 7→wr.cell? ⟨wx.heap.size,j*7+o,none⟩=some (if o=4∧j < k then .slice (some ⟨Q j,0,none⟩) (c.N+c.ps.length) (c.N+c.ps.length)else if o < 4 then Z Y 0 else .slice none 0 0)
 fr:∀ o,wr.frozen? ⟨wx.heap.size,o,none⟩=false
 qa:∀ j,j < k→QAt wr (Q j) (c.N+c.ps.length) (fun _=>none)
 ql:∀ j,j < k→wx.heap.size+1 < Q j
 qq:∀ i j,i < k→j < k→Q i=Q j→i=j
 low:Zb wx.heap.size wx wr
theorem Init.lt {wx:Zw} {c:NC} {PA OA DA EA LA FA VA:Option Addr} {PC OC DC EC LC FC VC:Nat} {k:Nat} {Q:Nat→Nat} {wr:Zw} (h:Init wx c PA OA DA EA LA FA VA PC OC DC EC LC FC VC k Q wr):wx.heap.size+1 < wr.heap.size:=heap_lt h.nb
theorem Init.zero {wx w:Zw} {c:NC} {PA OA DA EA LA FA VA:Option Addr} {PC OC DC EC LC FC VC:Nat} {Q:Nat→Nat} (hN:w.heap[wx.heap.size]?=some (.cells (madeCells #[Z Y 0,Z Y 0,Z Y 0,Z Y 0,.slice none 0 0,.slice none 0 0,.slice none 0 0] (c.N*7)) 79 (0,0)))
 (hM:w.heap[wx.heap.size+1]?=some (.cells #[Z Y c.N,Z Y c.Pi,Z Y c.Er,Z Y c.G,Z Y c.Fi,.slice PA c.ps.length PC,.slice OA c.N OC,.slice DA c.dr.length DC,.slice EA c.er.length EC,.slice LA c.cl.length LC,Z Y c.kind,Z Y c.fat,Z Y c.frm,Z Y c.till,.slice FA c.ac.length FC,.slice VA c.vs.length VC,Z Y c.rounds,Z Y 0,.slice (some ⟨wx.heap.size,0,none⟩) c.N c.N,.slice none 0 0,.slice none 0 0] 76 (0,0)))
 (hb:Zb wx.heap.size wx w):Init wx c PA OA DA EA LA FA VA PC OC DC EC LC FC VC 0 Q w:=by
 refine⟨hM,fun j o hj ho=>?_,fun o=>by simp [World.frozen?,hN],fun j hj=>absurd hj (by omega),fun j hj=>absurd hj (by omega),fun i j hi=>absurd hi (by omega),hb⟩
 rw [Lib.cell_of_heap hN,made_at _ _ _ (by omega),if_neg (fun x=>by omega)]
 have e:(j*7+o)%(#[Z Y 0,Z Y 0,Z Y 0,Z Y 0,.slice none 0 0,.slice none 0 0,.slice none 0 0]:Array Value).size=o:=by simp;omega
 rw [e]
 have:o=0∨o=1∨o=2∨o=3∨o=4∨o=5∨o=6:=by omega
 rcases this with rfl | rfl | rfl | rfl | rfl | rfl | rfl <;> rfl
theorem Init.drew {wx:Zw} {c:NC} {PA OA DA EA LA FA VA:Option Addr} {PC OC DC EC LC FC VC:Nat} {k:Nat} {Q:Nat→Nat} {wr:Zw} (h:Init wx c PA OA DA EA LA FA VA PC OC DC EC LC FC VC k Q wr):Init wx c PA OA DA EA LA FA VA PC OC DC EC LC FC VC k Q wr.drew :=
 ⟨h.nb,h.nd,h.fr,fun j hj=>(h.qa j hj).keep (Zr _) rfl,h.ql,h.qq,h.low.drew⟩
theorem Init.next {wx:Zw} {c:NC} {PA OA DA EA LA FA VA:Option Addr} {PC OC DC EC LC FC VC:Nat} {k:Nat} {Q:Nat→Nat} {wr w1:Zw} (h:Init wx c PA OA DA EA LA FA VA PC OC DC EC LC FC VC k Q wr) (hk:k < c.N) (hb:Zb wr.heap.size wr w1) :
 Init wx c PA OA DA EA LA FA VA PC OC DC EC LC FC VC (k+1) (fun j=>if j=k then w1.heap.size else Q j)
  ((w1.alloc (.cells (madeCells #[Z Y 0,Z Y 0,Z Y 0,Z Y 0,Z Y 0] ((c.N+c.ps.length)*5)) 156)).setCell ⟨wx.heap.size,k*7+4,none⟩ (.slice (some ⟨w1.heap.size,0,none⟩) (c.N+c.ps.length) (c.N+c.ps.length))):=by
 have hl:=h.lt
 have hz:=hb.size
 have hn:=Zh w1 (.cells (madeCells #[Z Y 0,Z Y 0,Z Y 0,Z Y 0,Z Y 0] ((c.N+c.ps.length)*5)) 156)
 have hb2:Zb w1.heap.size w1 (w1.alloc (.cells (madeCells #[Z Y 0,Z Y 0,Z Y 0,Z Y 0,Z Y 0] ((c.N+c.ps.length)*5)) 156)):=(Zf _ _).alloc (Zr _) _
 have hb3:Zb wr.heap.size wr (w1.alloc (.cells (madeCells #[Z Y 0,Z Y 0,Z Y 0,Z Y 0,Z Y 0] ((c.N+c.ps.length)*5)) 156)):=hb.trans (hb2.mono hz)
 generalize w1.alloc (.cells (madeCells #[Z Y 0,Z Y 0,Z Y 0,Z Y 0,Z Y 0] ((c.N+c.ps.length)*5)) 156)=w2 at *
 have hB:But (fun b=>b=wx.heap.size) wr (w2.setCell ⟨wx.heap.size,k*7+4,none⟩ (.slice (some ⟨w1.heap.size,0,none⟩) (c.N+c.ps.length) (c.N+c.ps.length))):=(But.of_below (S:=fun b=>b=wx.heap.size) hb3 (Zr _)).setCell (p:=⟨wx.heap.size,k*7+4,none⟩) (.inl rfl) _
 have hS:But (fun b=>b=wx.heap.size) w2 (w2.setCell ⟨wx.heap.size,k*7+4,none⟩ (.slice (some ⟨w1.heap.size,0,none⟩) (c.N+c.ps.length) (c.N+c.ps.length))):=(But.refl (fun b=>b=wx.heap.size) w2).setCell (p:=⟨wx.heap.size,k*7+4,none⟩) (.inl rfl) _
 have hlt2:=heap_lt hn
 have keep:∀ o v,wr.cell? ⟨wx.heap.size,o,none⟩=some v→w2.cell? ⟨wx.heap.size,o,none⟩=some v:=fun o v hv=>keep_of hv (by omega) hb3
 refine⟨(hB.block (wx.heap.size+1) (by omega) (by omega)).trans h.nb,fun j o hj ho=>?_,fun o=>?_,fun j hj=>?_,fun j hj=>?_,fun i j hi hj e=>?_,?_⟩
 ·by_cases e:j*7+o=k*7+4
  ·have e1:j=k:=by omega
   have e2:o=4:=by omega
   subst e1;subst e2
   rw [World.cell?_setCell_same _ _ _ (keep _ _ (h.nd j 4 hj (by omega))),if_pos ⟨rfl,by omega⟩,if_pos rfl]
  ·rw [Zo _ _ _ _ (fun x=>by injection x with _ x;omega),keep _ _ (h.nd j o hj ho)]
   by_cases e4:o=4
   ·have:j≠k:=fun x=>e (by rw [x,e4])
    by_cases e5:j < k
    ·have e6:j < k+1:=by omega
     simp only [e4,e5,e6,this,and_self,if_true,if_false]
    ·have e6:¬ j < k+1:=by omega
     simp only [e4,e5,e6,and_false,if_false]
   ·simp only [e4,false_and,if_false]
 ·rw [World.frozen?_setCell]
  exact(hb3.frozen (p:=⟨wx.heap.size,o,none⟩) (show wx.heap.size < _ by omega)).trans (h.fr o)
 ·show QAt _ (if j=k then _ else Q j) _ _
  by_cases e:j=k
  ·rw [if_pos e]
   exact(qAt_made hn).but hS (show ¬ w1.heap.size=wx.heap.size by omega)
  ·rw [if_neg e]
   have:=h.ql j (by omega)
   exact(h.qa j (by omega)).but hB (show ¬ Q j=wx.heap.size by omega)
 ·show _ < (if j=k then _ else Q j)
  by_cases e:j=k
  ·rw [if_pos e];omega
  ·rw [if_neg e];exact h.ql j (by omega)
 ·have hlq:∀ j,j < k→Q j < w1.heap.size:=fun j hj=>by have:=(h.qa j hj).lt;omega
  change (if i=k then _ else Q i)=(if j=k then _ else Q j)at e
  by_cases e1:i=k
  ·by_cases e2:j=k
   ·omega
   ·rw [if_pos e1,if_neg e2]at e
    have:=hlq j (by omega);omega
  ·by_cases e2:j=k
   ·rw [if_neg e1,if_pos e2]at e
    have:=hlq i (by omega);omega
   ·rw [if_neg e1,if_neg e2]at e
    exact h.qq i j (by omega) (by omega) e
 ·exact(h.low.trans (hb3.mono (by omega))).setCell (Zr _) _
abbrev made (c:NC) (PA OA DA EA LA FA VA:Option Addr) (PC OC DC EC LC FC VC:Nat):NC:={ c with PA:=PA,PC:=PC,OA:=OA,OC:=OC,DA:=DA,DC:=DC,EA:=EA,EC:=EC,LA:=LA,LC:=LC,CA:=FA,CC:=FC,VA:=VA,VC:=VC }
theorem Init.net {wx:Zw} {c:NC} {PA OA DA EA LA FA VA:Option Addr} {PC OC DC EC LC FC VC:Nat} {Q:Nat→Nat} {wr:Zw} (h:Init wx c PA OA DA EA LA FA VA PC OC DC EC LC FC VC c.N Q wr) (hon:c.on.length=c.N) (h1:Ints wx PA c.ps) (h2:Ints wx OA c.on) (h3:Ints wx DA c.dr) (h4:Ints wx EA c.er) (h5:Cls wx LA c.cl) (h6:Acs wx FA c.ac) (h7:Ints wx VA c.vs) :
 NetAt wr (made c PA OA DA EA LA FA VA PC OC DC EC LC FC VC) (wx.heap.size+1) wx.heap.size wx.heap.size wr.heap.size 0 ⟨Q,fun _=>c.N+c.ps.length,fun _ =>.slice none 0 0⟩ (fun _ =>.slice none 0 0) (fun _=>0) (fun _=>0) (fun _=>0) (fun _=>0) (fun _ _=>none) (fun _=>none) (fun _=>0) (fun _=>[]):=by
 have hl:=h.lt
 have b:=fun i=>blk_cell h.nb i
 have f:=fun i=>blk_frozen h.nb i
 have nd:=h.nd
 refine⟨⟨⟨b 0,b 1,b 2,b 3,b 4,b 5,?_,b 7,b 8,b 9,b 10,b 11,b 12,b 13,b 14,b 15,b 16⟩,⟨by omega,ints_low2 h1 h.low,ints_low2 h2 h.low,ints_low2 h3 h.low,ints_low2 h4 h.low,h5.below h.low,h6.below h.low,ints_low2 h7 h.low,ints_lt h1,ints_lt h2,ints_lt h3,ints_lt h4,cls_lt h5,acs_lt h6,ints_lt h7⟩,b 17,b 18,fun i hi=>?_,fun i hi=>?_,fun i hi=>?_,fun i hi=>?_,fun i hi=>rfl,fun i hi=>h.qa i hi⟩,
  ⟨by simp,by simp,Zr _,fun i hi=>by have:=h.ql i hi;simp only;omega,fun i hi=>by have:=h.ql i hi;simp only;omega,fun i hi=>by have:=h.ql i hi;simp only;omega,h.qq,(fun i j b C hi hj e=>by cases e)⟩,
  (fun i b C hi e=>by cases e),(fun i b C hi e=>by cases e),fun i hi=>?_,fun i hi=>?_,fun i hi=>?_,fun i hi=>⟨by simp [Value.ownBlock],by simp [Value.ownBlock],fun j hj=>by simp [Value.ownBlock],(fun j b C hj e=>by cases e),fun b e=>absurd e (by simp [Value.ownBlock])⟩,fun i hi=>World.ownsRow_nil _ _ _ _,fun i j b hi hj hij e=>absurd e (by simp [Value.ownBlock]),Zr _,⟨_,b 19⟩,⟨_,b 20⟩,f,h.fr⟩
 ·show wr.cell? ⟨_,6,none⟩=some (.slice OA c.on.length OC)
  rw [hon];exact b 6
 ·exact nd i 0 hi (by omega)
 ·exact nd i 3 hi (by omega)
 ·rw [nd i 4 hi (by omega),if_pos ⟨rfl,hi⟩]
 ·exact nd i 5 hi (by omega)
 ·exact nd i 1 hi (by omega)
 ·exact nd i 2 hi (by omega)
 ·exact nd i 6 hi (by omega)
end A72
namespace C1
open Go.RowKit A1 A9 A14 A35 A48
theorem within19 (a n:Int) (w:Zw) (hn:0 < n) (hn2:n≤1000000):Zc Zp 19 #[Z Y a,Z Y n] w fun e w'=>e=.returned (Z Y (a%n))∧w=w':=by
 have hl:=rem_lt a n hn
 by_cases h:a.tmod n < 0
 ·have H:=O (rem_neg hn h)
  have H2:=O (show wrap64 (a.tmod n+n)=a.tmod n+n by unfold wrap64;omega)
  clear hl
  go_enter Tryz.func19,Tryz.ntmps19
  go_wp2
  go_ret
  exact⟨ret_int (by first | exact H.out | (rw [H2.out];exact H.out)),rfl⟩
 ·have H:=O (rem_pos hn h)
  clear hl
  go_enter Tryz.func19,Tryz.ntmps19
  go_wp2
  go_ret
  exact⟨ret_int H.out,rfl⟩
theorem within39 (a n:Int) (w:Zw) (hn:0 < n) (hn2:n≤1000000):Zc Zp 39 #[Z Y a,Z Y n] w fun e w'=>e=.returned (Z Y (a%n))∧w=w':=by
 have hl:=rem_lt a n hn
 by_cases h:a.tmod n < 0
 ·have H:=O (rem_neg hn h)
  have H2:=O (show wrap64 (a.tmod n+n)=a.tmod n+n by unfold wrap64;omega)
  clear hl
  go_enter Tryz.func39,Tryz.ntmps39
  go_wp2
  go_ret
  exact⟨ret_int (by first | exact H.out | (rw [H2.out];exact H.out)),rfl⟩
 ·have H:=O (rem_pos hn h)
  clear hl
  go_enter Tryz.func39,Tryz.ntmps39
  go_wp2
  go_ret
  exact⟨ret_int H.out,rfl⟩
theorem within74 (a n:Int) (w:Zw) (hn:0 < n) (hn2:n≤1000000):Zc Zp 74 #[Z Y a,Z Y n] w fun e w'=>e=.returned (Z Y (a%n))∧w=w':=by
 have hl:=rem_lt a n hn
 by_cases h:a.tmod n < 0
 ·have H:=O (rem_neg hn h)
  have H2:=O (show wrap64 (a.tmod n+n)=a.tmod n+n by unfold wrap64;omega)
  clear hl
  go_enter Tryz.func74,Tryz.ntmps74
  go_wp2
  go_ret
  exact⟨ret_int (by first | exact H.out | (rw [H2.out];exact H.out)),rfl⟩
 ·have H:=O (rem_pos hn h)
  clear hl
  go_enter Tryz.func74,Tryz.ntmps74
  go_wp2
  go_ret
  exact⟨ret_int H.out,rfl⟩
theorem bcell {w:Zw} {g:Nat} {t:TypeId} {cs:Array Value} (h:w.heap[g]?=some (.cells cs t (0,0))) (i:Nat):w.cell? ⟨g,i,none⟩=cs[i]?:=by simp [World.cell?,h]
theorem box6 {w:Zw} {B:Nat} {a b d e f g:Value} {t:TypeId} (h:w.heap[B]?=some (.cells #[a,b,d,e,f,g] t (0,0))):w.cell? ⟨B,0,none⟩=some a∧w.cell? ⟨B,1,none⟩=some b∧w.cell? ⟨B,2,none⟩=some d∧w.cell? ⟨B,3,none⟩=some e∧w.cell? ⟨B,4,none⟩=some f∧w.cell? ⟨B,5,none⟩=some g :=
 ⟨bcell h 0,bcell h 1,bcell h 2,bcell h 3,bcell h 4,bcell h 5⟩
theorem box11 {w:Zw} {B:Nat} {a b d e f g i j k l m:Value} {t:TypeId} (h:w.heap[B]?=some (.cells #[a,b,d,e,f,g,i,j,k,l,m] t (0,0))):w.cell? ⟨B,0,none⟩=some a∧w.cell? ⟨B,1,none⟩=some b∧w.cell? ⟨B,2,none⟩=some d∧w.cell? ⟨B,3,none⟩=some e∧w.cell? ⟨B,4,none⟩=some f∧w.cell? ⟨B,5,none⟩=some g∧w.cell? ⟨B,6,none⟩=some i∧w.cell? ⟨B,7,none⟩=some j∧w.cell? ⟨B,8,none⟩=some k∧w.cell? ⟨B,9,none⟩=some l∧w.cell? ⟨B,10,none⟩=some m :=
 ⟨bcell h 0,bcell h 1,bcell h 2,bcell h 3,bcell h 4,bcell h 5,bcell h 6,bcell h 7,bcell h 8,bcell h 9,bcell h 10⟩
structure Six (w:Zw) (B:Nat) (a b d e f g:Value):Prop where
 c0:w.cell? ⟨B,0,none⟩=some a
 c1:w.cell? ⟨B,1,none⟩=some b
 c2:w.cell? ⟨B,2,none⟩=some d
 c3:w.cell? ⟨B,3,none⟩=some e
 c4:w.cell? ⟨B,4,none⟩=some f
 c5:w.cell? ⟨B,5,none⟩=some g
 fr:∀ o,w.frozen? ⟨B,o,none⟩=false
theorem Six.of {w:Zw} {B:Nat} {a b d e f g:Value} {t:TypeId} (h:w.heap[B]?=some (.cells #[a,b,d,e,f,g] t (0,0))):Six w B a b d e f g :=
 ⟨bcell h 0,bcell h 1,bcell h 2,bcell h 3,bcell h 4,bcell h 5,fun o=>by simp [World.frozen?,h]⟩
theorem Six.lt {w:Zw} {B:Nat} {a b d e f g:Value} (h:Six w B a b d e f g):B < w.heap.size:=Zl w _ h.c0
theorem Six.keep {w w1:Zw} {B:Nat} {a b d e f g:Value} (h:Six w B a b d e f g) (k:w1.heap[B]?=w.heap[B]?):Six w1 B a b d e f g:=by
 have f:∀ o,w1.cell? ⟨B,o,none⟩=w.cell? ⟨B,o,none⟩:=fun o=>World.cell?_of_block (a:=⟨B,o,none⟩) k
 exact⟨(f 0).trans h.c0,(f 1).trans h.c1,(f 2).trans h.c2,(f 3).trans h.c3,(f 4).trans h.c4,(f 5).trans h.c5,fun o=>(World.frozen?_of_block (w:=w) (a:=⟨B,o,none⟩) k).trans (h.fr o)⟩
theorem Six.below {w w1:Zw} {B:Nat} {a b d e f g:Value} (h:Six w B a b d e f g) (hb:Zb w.heap.size w w1):Six w1 B a b d e f g:=h.keep (hb.block B h.lt)
theorem put_other {w:Zw} {B o o':Nat} {u v:Value} (h:w.cell? ⟨B,o,none⟩=some v) (hne:o≠o'):(w.setCell ⟨B,o',none⟩ u).cell? ⟨B,o,none⟩=some v:=(Zo _ _ _ _ (fun e=>by injection e with _ e;omega)).trans h
theorem Six.set1 {w:Zw} {B:Nat} {a b d e f g:Value} (h:Six w B a b d e f g) (v:Value):Six (w.setCell ⟨B,1,none⟩ v) B a v d e f g :=
 ⟨put_other h.c0 (by decide),World.cell?_setCell_same _ _ _ h.c1,put_other h.c2 (by decide),put_other h.c3 (by decide),put_other h.c4 (by decide),put_other h.c5 (by decide),fun o=>(World.frozen?_setCell _ _ _ _).trans (h.fr o)⟩
theorem Six.set3 {w:Zw} {B:Nat} {a b d e f g:Value} (h:Six w B a b d e f g) (v:Value):Six (w.setCell ⟨B,3,none⟩ v) B a b d v f g :=
 ⟨put_other h.c0 (by decide),put_other h.c1 (by decide),put_other h.c2 (by decide),World.cell?_setCell_same _ _ _ h.c3,put_other h.c4 (by decide),put_other h.c5 (by decide),fun o=>(World.frozen?_setCell _ _ _ _).trans (h.fr o)⟩
theorem Six.set4 {w:Zw} {B:Nat} {a b d e f g:Value} (h:Six w B a b d e f g) (v:Value):Six (w.setCell ⟨B,4,none⟩ v) B a b d e v g :=
 ⟨put_other h.c0 (by decide),put_other h.c1 (by decide),put_other h.c2 (by decide),put_other h.c3 (by decide),World.cell?_setCell_same _ _ _ h.c4,put_other h.c5 (by decide),fun o=>(World.frozen?_setCell _ _ _ _).trans (h.fr o)⟩
theorem Six.set5 {w:Zw} {B:Nat} {a b d e f g:Value} (h:Six w B a b d e f g) (v:Value):Six (w.setCell ⟨B,5,none⟩ v) B a b d e f v :=
 ⟨put_other h.c0 (by decide),put_other h.c1 (by decide),put_other h.c2 (by decide),put_other h.c3 (by decide),put_other h.c4 (by decide),World.cell?_setCell_same _ _ _ h.c5,fun o=>(World.frozen?_setCell _ _ _ _).trans (h.fr o)⟩
theorem Six.set0 {w:Zw} {B:Nat} {a b d e f g:Value} (h:Six w B a b d e f g) (v:Value):Six (w.setCell ⟨B,0,none⟩ v) B v b d e f g :=
 ⟨World.cell?_setCell_same _ _ _ h.c0,put_other h.c1 (by decide),put_other h.c2 (by decide),put_other h.c3 (by decide),put_other h.c4 (by decide),put_other h.c5 (by decide),fun o=>(World.frozen?_setCell _ _ _ _).trans (h.fr o)⟩
theorem Six.set2 {w:Zw} {B:Nat} {a b d e f g:Value} (h:Six w B a b d e f g) (v:Value):Six (w.setCell ⟨B,2,none⟩ v) B a b v e f g :=
 ⟨put_other h.c0 (by decide),put_other h.c1 (by decide),World.cell?_setCell_same _ _ _ h.c2,put_other h.c3 (by decide),put_other h.c4 (by decide),put_other h.c5 (by decide),fun o=>(World.frozen?_setCell _ _ _ _).trans (h.fr o)⟩
theorem Six.all {w:Zw} {B:Nat} {a b d e f g:Value} (h:Six w B a b d e f g) (a' b' d' e' f' g':Value):Six ((((((w.setCell ⟨B,0,none⟩ a').setCell ⟨B,1,none⟩ b').setCell ⟨B,2,none⟩ d').setCell ⟨B,3,none⟩ e').setCell ⟨B,4,none⟩ f').setCell ⟨B,5,none⟩ g') B a' b' d' e' f' g' :=
 (((((h.set0 _).set1 _).set2 _).set3 _).set4 _).set5 _
theorem but_all {w:Zw} (B:Nat) (a' b' d' e' f' g':Value):But (fun x=>x=B) w ((((((w.setCell ⟨B,0,none⟩ a').setCell ⟨B,1,none⟩ b').setCell ⟨B,2,none⟩ d').setCell ⟨B,3,none⟩ e').setCell ⟨B,4,none⟩ f').setCell ⟨B,5,none⟩ g') :=
 ((((((But.refl (fun x=>x=B) w).setCell (p:=⟨B,0,none⟩) (.inl rfl) _).setCell (p:=⟨B,1,none⟩) (.inl rfl) _).setCell (p:=⟨B,2,none⟩) (.inl rfl) _).setCell (p:=⟨B,3,none⟩) (.inl rfl) _).setCell (p:=⟨B,4,none⟩) (.inl rfl) _).setCell (p:=⟨B,5,none⟩) (.inl rfl) _
theorem two (w:Zw) (A B:Obj):((w.alloc A).alloc B).heap[w.heap.size]?=some A∧((w.alloc A).alloc B).heap[w.heap.size+1]?=some B∧w.heap.size+1 < ((w.alloc A).alloc B).heap.size∧Zb w.heap.size w ((w.alloc A).alloc B):=by
 have z:∀(w:Zw) (A:Obj),(w.alloc A).heap.size=w.heap.size+1:=fun w A=>by simp
 have n:∀(w:Zw) (A:Obj),(w.alloc A).heap[w.heap.size]?=some A:=fun w A=>Zh w A
 refine⟨?_,?_,?_,?_⟩
 ·have hb:Zb (w.alloc A).heap.size (w.alloc A) ((w.alloc A).alloc B):=(Zf _ _).alloc (Zr _) B
  exact(hb.block w.heap.size (by rw [z];omega)).trans (n w A)
 ·have:=n (w.alloc A) B
  rwa [z]at this
 ·rw [z,z];omega
 ·exact((Zf _ _).alloc (Zr _) A).alloc (by rw [z];omega) B
theorem But.up {S:Nat→Prop} {a b c:Zw} {base:Nat} {v:Value} (h:But S a b) (k:But (fun x=>base≤x∧v.ownBlock=some x) b c) (hb:a.heap.size≤base):But S a c :=
 ⟨k.os.trans h.os,k.tape.trans h.tape,k.output.trans h.output,Nat.le_trans h.size k.size,fun i hi hn=>(k.block i (Nat.lt_of_lt_of_le hi h.size) (fun e=>by omega)).trans (h.block i hi hn)⟩
theorem app_int {ops:Array Oper} {o:Oper} {a:Act} {K:Act→Zw→Prop} {Q:Exit→Act→Zw→Prop} {E:Prop} {w:Zw} (hgd:o.guard=none) (s x:Operand)
 (ho:o.op=.call { callee :=.builtin .append,args:=#[s,x],argTypes:=#[22,22] }) (base:Nat) (v:Value) (n:Nat) (xs:List Value) (hs:a.eval s=v) (hown:w.ownsRow base 3 1 v n xs)
 (B:Nat) (z:Int) (hx:a.eval x=.slice (some ⟨B,0,none⟩) 1 1) (hB:w.heap[B]?=some (.cells #[Z Y z] 3 (0,0))) (hn:n≤1000) (hbase:base≤w.heap.size)
 (h:∀ g cap w',w'.ownsRow base 3 1 (.slice (some ⟨g,0,none⟩) (n+1) cap) (n+1) (xs ++ [Z Y z])→But (fun b=>base≤b∧v.ownBlock=some b) w w'→K (a.put o.dst (.slice (some ⟨g,0,none⟩) (n+1) cap)) w') :
 if Region.wanted o (yielded ops a.tmps)=true then Oper.wp Zp o a w K Q else E:=by
 obtain⟨i0,hi,hz0,hz1,hz2⟩:=info_parts info3
 refine step_append_lies w hgd s x 22 ho base 3 i0 (Z Y 0) 1 8 Tryz.underlying22 hi hz0 hz1 hz2 rfl (by omega) v n xs hs hown ⟨B,0,none⟩ 1 1 [Z Y z] hx (by rfl) (World.news_of_block (cs:=#[Z Y z]) (t:=3) (fr:=(0,0)) hB) (by simp [Value.oneCell']) (by omega) (by unfold maxLen;omega) (by omega) hbase _ rfl ?_
 intro g cap w' hown' hgrow hat hlt
 exact h g cap w' hown' (But.grown (But.refl _ w) hgrow (fun q hq =>.inl ⟨ownsRow_block hown hq,hq⟩))
theorem seq_own {ops:Array Oper} {rest:List Oper} {o:Oper} {a:Act} {Q:Exit→Act→Zw→Prop} {w:Zw} (t e:TypeId) (size bytes:Nat) (z:Value) (und:Tryz.prog.underlying t=some (.slice e))
 (inf:(Tryz.prog.info? e).map (fun i=>(i.zero,i.size,i.bytes))=some (some z,size,bytes)) (hzs:z.cells.size=size) (hsz:0 < size) (hgd:o.guard=none) (s x:Operand)
 (ho:o.op=.call { callee :=.builtin .append,args:=#[s,x],argTypes:=#[t,t] }) (base:Nat) (v:Value) (n:Nat) (xs:List Value) (hs:a.eval s=v) (hown:w.ownsRow base e size v n xs)
 (B:Nat) (cs:Array Value) (hx:a.eval x=.slice (some ⟨B,0,none⟩) 1 1) (hB:w.heap[B]?=some (.cells cs e (0,0))) (hcs:cs.size=size) (h1:∀ u ∈ cs.toList,u.oneCell'=true) (hn:n≤1000) (hby:bytes≤1000) (hbase:base≤w.heap.size)
 (h:∀ g cap w',w'.ownsRow base e size (.slice (some ⟨g,0,none⟩) (n+1) cap) (n+1) (xs ++ cs.toList)→But (fun b=>base≤b∧v.ownBlock=some b) w w'→wpList Zp ops Q rest (a.put o.dst (.slice (some ⟨g,0,none⟩) (n+1) cap)) w') :
 wpList Zp ops Q (o :: rest) a w:=by
 obtain⟨i0,hi,hz0,hz1,hz2⟩:=info_parts inf
 have hb:(n+1)*bytes≤1001*1000:=Nat.mul_le_mul (by omega) hby
 refine wpList_append_own w hgd s x t ho base e i0 z size bytes und hi hz0 hz1 hz2 hzs hsz v n xs hs hown ⟨B,0,none⟩ 1 1 cs.toList hx (by simp [hcs]) (World.news_of_block hB) h1 (by unfold maxLen;omega) (by omega) hbase ?_
 intro v' w' hown' hgrow _
 rcases own_split hown' with⟨_,h0⟩ | ⟨g,cap,rfl,_⟩
 ·omega
 ·exact h g cap w' hown' (But.grown (But.refl _ w) hgrow (fun q hq =>.inl ⟨ownsRow_block hown hq,hq⟩))
end C1
namespace A73
open Go.RowKit A1 A4 A5 A11 A14 A18 A35 D19 A41 A46 A59 A60 A61 A64 A68 A70 A71 A72 C1
theorem net_New (c:NC) (w:Zw) (hc:NOk c) (hps:Ints w c.PA c.ps) (hon:Ints w c.OA c.on) (hdr:Ints w c.DA c.dr) (her:Ints w c.EA c.er) (hcl:Cls w c.LA c.cl) (hA:c.cl=[]→c.LA=none) (hac:Acs w c.CA c.ac) (hvs:Ints w c.VA c.vs) (hA2:c.ac=[]→c.CA=none) (hfp:c.fat < if c.kind=1 then(c.N:Int)else 1)
 (hOv:∀ k,k < c.on.length → -1≤c.on.getD k 0∧c.on.getD k 0≤200) (hLv:∀ k,k < c.cl.length→(c.cl.getD k ⟨0,0,0,0⟩).round≤200∧(c.cl.getD k ⟨0,0,0,0⟩).node < c.N∧(c.cl.getD k ⟨0,0,0,0⟩).pair≤c.ps.length) :
 Zc Zp 13 #[.agg #[Z Y c.N,Z Y c.Pi,Z Y c.Er,Z Y c.G,Z Y c.Fi,.slice c.PA c.ps.length c.PC],.agg #[.slice c.OA c.N c.OC,.slice c.DA c.dr.length c.DC,.slice c.EA c.er.length c.EC,.slice c.LA c.cl.length c.LC,Z Y c.kind,Z Y c.fat,Z Y c.frm,Z Y c.till,.slice c.CA c.ac.length c.CC,.slice c.VA c.vs.length c.VC,Z Y c.rounds]] w
  fun e w'=>∃ LO PA OA DA EA LA FA VA PC OC DC EC LC FC VC Q,e=.returned (.tuple #[.pointer (some ⟨LO+1,0,none⟩),Z Y 0])∧Zb w.heap.size w w'∧w.heap.size≤LO ∧
   NetAt w' (made c PA OA DA EA LA FA VA PC OC DC EC LC FC VC) (LO+1) LO LO w'.heap.size 0 ⟨Q,fun _=>c.N+c.ps.length,fun _ =>.slice none 0 0⟩ (fun _ =>.slice none 0 0) (fun _=>0) (fun _=>0) (fun _=>0) (fun _=>0) (fun _ _=>none) (fun _=>none) (fun _=>0) (fun _=>[]):=by
 have n0:=hc.cf.n0
 have n1:=hc.cf.n1
 have npl:=hc.cf.len
 have hk:=hc.kind
 have HCk:=O (fun w' (h:Ints w' c.PA c.ps)=>conf_Check c.N c.Pi c.Er c.G c.Fi c.PA c.ps c.PC w' hc.cf h)
 have HSk:=O (fun w' (h1:Ints w' c.OA c.on) (h2:Cls w' c.LA c.cl) (h3:Acs w' c.CA c.ac)=>script_Check c.N c.Pi c.Er c.G c.Fi c.PA c.ps.length c.PC c.on c.OA c.OC c.dr c.DA c.DC c.er c.EA c.EC c.cl c.LA c.LC c.kind c.fat c.frm c.till c.CA c.ac c.CC c.VA c.vs.length c.VC c.rounds w' hk (by omega) (by omega) (by omega) hc.fat0 hfp hc.frm hc.till hc.till1 h3 hc.ac hc.act hc.vs hc.on hc.dr hc.er hc.cl hc.rounds0 hc.rounds1 h1 hOv h2 hLv)
 have K6:=O (fun w' (h:Acs w' c.CA c.ac)=>clone_acs c.CA c.ac c.CC w' h (by have:=hc.ac;omega) hA2)
 have K7:=O (fun w' (h:Ints w' c.VA c.vs)=>clone_ints c.VA c.vs c.VC w' h (by have:=hc.vs;omega))
 have HRa:=O (And.intro hac hvs)
 have K1:=O (fun w' (h:Ints w' c.PA c.ps)=>clone_ints c.PA c.ps c.PC w' h (by omega))
 have hK2:=fun w' (h:Ints w' c.OA c.on)=>clone_ints c.OA c.on c.OC w' h (by rw [hc.on];omega)
 rw [hc.on]at hK2
 have K2:=O hK2
 have K3:=O (fun w' (h:Ints w' c.DA c.dr)=>clone_ints c.DA c.dr c.DC w' h (by have:=hc.dr;omega))
 have K4:=O (fun w' (h:Ints w' c.EA c.er)=>clone_ints c.EA c.er c.EC w' h (by have:=hc.er;omega))
 have K5:=O (fun w' (h:Cls w' c.LA c.cl)=>clone_cls c.LA c.cl c.LC w' h (by have:=hc.cl;omega) hA)
 have HSl:=O (fun PA PC w=>conf_Slots c.N c.Pi c.Er c.G c.Fi PA c.ps.length PC w (by omega) (by omega) (by omega))
 rw [← Int.natCast_add]at HSl
 have HOn:=O hc.on
 have HR:=O (And.intro hps (And.intro hon (And.intro hdr (And.intro her hcl))))
 obtain⟨hXA,hXB,hz,hBa⟩:=alloc2 w (.cells #[Z Y c.N,Z Y c.Pi,Z Y c.Er,Z Y c.G,Z Y c.Fi,.slice c.PA c.ps.length c.PC] 24) (.cells #[.slice c.OA c.N c.OC,.slice c.DA c.dr.length c.DC,.slice c.EA c.er.length c.EC,.slice c.LA c.cl.length c.LC,Z Y c.kind,Z Y c.fat,Z Y c.frm,Z Y c.till,.slice c.CA c.ac.length c.CC,.slice c.VA c.vs.length c.VC,Z Y c.rounds] 34)
 have HBa:=O hBa
 have sw:=hBa.size
 clear hps hon hdr her hcl hOv hLv hK2 hc hA hk hac hvs hA2 hfp
 go_enter Tryz.func13,Tryz.ntmps13
 go_upto_region 1 with fail
 generalize (w.alloc (.cells #[Z Y c.N,Z Y c.Pi,Z Y c.Er,Z Y c.G,Z Y c.Fi,.slice c.PA c.ps.length c.PC] 24)).alloc (.cells #[.slice c.OA c.N c.OC,.slice c.DA c.dr.length c.DC,.slice c.EA c.er.length c.EC,.slice c.LA c.cl.length c.LC,Z Y c.kind,Z Y c.fat,Z Y c.frm,Z Y c.till,.slice c.CA c.ac.length c.CC,.slice c.VA c.vs.length c.VC,Z Y c.rounds] 34)=wa at *
 obtain⟨y0,y1,y2,y3,y4,y5⟩:=box6 hXA
 have HXA:=O hXA
 have HXB:=O hXB
 clear hXA hXB hBa
 go_wp2_with fail
 refine(HCk.out wa (ints_low2 HR.out.1 HBa.out)).mono ?_
 rintro e w1 ⟨rfl,hb1⟩
 have HB1:=O (HBa.out.trans (hb1.mono sw))
 have hXA1:=(hb1.block _ (by omega)).trans HXA.out
 have hXB1:=(hb1.block _ hz).trans HXB.out
 have s1:=hb1.size
 clear hb1 y0 y1 y2 y3 y4 y5 HXA HXB
 obtain⟨y0,y1,y2,y3,y4,y5⟩:=box6 hXA1
 obtain⟨z0,z1,z2,z3,z4,z5,z6,z7,z8,z9,z10⟩:=box11 hXB1
 have HXA1:=O hXA1
 have HXB1:=O hXB1
 clear hXA1 hXB1
 go_wp2_with fail
 refine(HSk.out w1 (ints_low2 HR.out.2.1 HB1.out) (HR.out.2.2.2.2.below HB1.out) (HRa.out.1.below HB1.out)).mono ?_
 rintro e w2 ⟨rfl,hb2⟩
 have HB2:=O (HB1.out.trans (hb2.mono (by omega)))
 have hXA2:=(hb2.block _ (by omega)).trans HXA1.out
 have hXB2:=(hb2.block _ (by omega)).trans HXB1.out
 have s2:=hb2.size
 clear hb2 y0 y1 y2 y3 y4 y5 z0 z1 z2 z3 z4 z5 z6 z7 z8 z9 z10 HXA1 HXB1
 obtain⟨y0,y1,y2,y3,y4,y5⟩:=box6 hXA2
 have HXA2:=O hXA2
 have HXB2:=O hXB2
 clear hXA2 hXB2 y0 y1 y2 y3 y4
 go_wp2_with fail
 refine(K1.out w2 (ints_low2 HR.out.1 HB2.out)).mono ?_
 rintro e w3 ⟨PA,PC,rfl,hP,hPb,hb3⟩
 have s3:=hb3.size
 have S3:=Six.of ((hb3.block w.heap.size (by omega)).trans HXA2.out)
 have hXB3:=(hb3.block (w.heap.size+1) (by omega)).trans HXB2.out
 have HB3:=O (HB2.out.trans (hb3.mono (by omega)))
 have y5':=S3.c5
 have hf5:=S3.fr 5
 have HS4:=O (S3.set5 (.slice PA c.ps.length PC))
 have hXB4:=(Below.heap_setCell w3 ⟨w.heap.size,5,none⟩ (.slice PA c.ps.length PC) (w.heap.size+1) (by simp)).trans hXB3
 have HP4:=O (ints_but hP ((But.refl (fun b=>b=w.heap.size) w3).setCell (p:=⟨w.heap.size,5,none⟩) (.inl rfl) (.slice PA c.ps.length PC)) (fun b off e _=>by have:=hPb b off e;show ¬ b=w.heap.size;omega))
 have HB4:=O (HB3.out.setCell (p:=⟨w.heap.size,5,none⟩) (Zr _) (.slice PA c.ps.length PC))
 have s4:(w3.setCell ⟨w.heap.size,5,none⟩ (.slice PA c.ps.length PC)).heap.size=w3.heap.size:=by simp [World.setCell]
 have HPb:=O hPb
 clear hP hPb hb3 S3 hXB3 HXA2 HXB2 y5
 go_upto_region 8 with fail
 clear y5' hf5
 generalize w3.setCell ⟨w.heap.size,5,none⟩ (.slice PA c.ps.length PC)=w4 at *
 obtain⟨z0,z1,z2,z3,_,_,_,_,z8,z9,_⟩:=box11 hXB4
 have HXB4:=O hXB4
 clear hXB4
 refine AT.wp_region_tail (S:=fun w'=>w'.cell? ⟨w.heap.size+1,0,none⟩=some (.slice c.OA c.N c.OC)∧w'.cell? ⟨w.heap.size+1,1,none⟩=some (.slice c.DA c.dr.length c.DC)∧w'.cell? ⟨w.heap.size+1,2,none⟩=some (.slice c.EA c.er.length c.EC)∧w'.cell? ⟨w.heap.size+1,3,none⟩=some (.slice c.LA c.cl.length c.LC)) [13,14,15,16,17,18,19] (by kernel_rfl) ⟨z0,z1,z2,z3⟩ (fun hHeld=>?_)
 refine rgU 0 ?_
 refine rgU 1 ?_
 refine rgU 3 ?_
 refine rgU 4 ?_
 refine rgU 6 ?_
 refine rgU 7 ?_
 refine rgU 9 ?_
 refine rgU 10 ?_
 refine rgV 2 fun K hK=>?_
 go_simp
 refine(K2.out w4.drew (ints_low2 HR.out.2.1 HB4.out.drew)).mono ?_
 rintro e w5 ⟨OA,OC,rfl,hO,hOb,hb5⟩
 have HB5:=O (HB4.out.drew.trans (hb5.mono (by simp;omega)))
 have s5:w4.heap.size≤w5.heap.size:=hb5.size
 have HS5:=O ((HS4.out.keep (w1:=w4.drew) rfl).below hb5)
 have HP5:=O (ints_low2 (HP4.out.drew) hb5)
 have HXB5:=O ((hb5.block (w.heap.size+1) (by simp;omega)).trans HXB4.out)
 have HO5:=O hO
 have HOb:=O hOb
 clear hO hOb hb5 z0 z1 z2 z3 z8 z9 HXB4 HP4 HB4
 obtain⟨z0,z1,z2,z3,_,_,_,_,_,_,_⟩:=box11 HXB5.out
 go_simp
 refine hK.out _ _ ⟨z0,z1,z2,z3⟩ (fun hHeld=>?_)
 clear hK K
 refine rgU 12 ?_
 refine rgV 5 fun K hK=>?_
 go_simp
 refine(K3.out w5 (ints_low2 HR.out.2.2.1 HB5.out)).mono ?_
 rintro e w6 ⟨DA,DC,rfl,hD,hDb,hb6⟩
 have HB6:=O (HB5.out.trans (hb6.mono (by omega)))
 have s6:=hb6.size
 have HS6:=O (HS5.out.below hb6)
 have HP6:=O (ints_low2 HP5.out hb6)
 have HO6:=O (ints_low2 HO5.out hb6)
 have HXB6:=O ((hb6.block (w.heap.size+1) (by omega)).trans HXB5.out)
 have HD6:=O hD
 have HDb:=O hDb
 clear hD hDb hb6 z0 z1 z2 z3 HXB5 HP5 HO5 HB5
 obtain⟨z0,z1,z2,z3,_,_,_,_,_,_,_⟩:=box11 HXB6.out
 go_simp
 refine hK.out _ _ ⟨z0,z1,z2,z3⟩ (fun hHeld=>?_)
 clear hK K
 refine rgV 8 fun K hK=>?_
 go_simp
 refine(K4.out w6 (ints_low2 HR.out.2.2.2.1 HB6.out)).mono ?_
 rintro e w7 ⟨EA,EC,rfl,hE,hEb,hb7⟩
 have HB7:=O (HB6.out.trans (hb7.mono (by omega)))
 have s7:=hb7.size
 have HS7:=O (HS6.out.below hb7)
 have HP7:=O (ints_low2 HP6.out hb7)
 have HO7:=O (ints_low2 HO6.out hb7)
 have HD7:=O (ints_low2 HD6.out hb7)
 have HXB7:=O ((hb7.block (w.heap.size+1) (by omega)).trans HXB6.out)
 have HE7:=O hE
 have HEb:=O hEb
 clear hE hEb hb7 z0 z1 z2 z3 HXB6 HP6 HO6 HD6 HB6
 obtain⟨z0,z1,z2,z3,_,_,_,_,_,_,_⟩:=box11 HXB7.out
 go_simp
 refine hK.out _ _ ⟨z0,z1,z2,z3⟩ (fun hHeld=>?_)
 clear hK K
 refine rgV 11 fun K hK=>?_
 go_simp
 refine(K5.out w7 (HR.out.2.2.2.2.below HB7.out)).mono ?_
 rintro e w8 ⟨LA,LC,rfl,hL,hLb,hb8⟩
 have HB8:=O (HB7.out.trans (hb8.mono (by omega)))
 have s8:=hb8.size
 have HS8:=O (HS7.out.below hb8)
 have HP8:=O (ints_low2 HP7.out hb8)
 have HO8:=O (ints_low2 HO7.out hb8)
 have HD8:=O (ints_low2 HD7.out hb8)
 have HE8:=O (ints_low2 HE7.out hb8)
 have HXB8:=O ((hb8.block (w.heap.size+1) (by omega)).trans HXB7.out)
 have HL8:=O hL
 have HLb:=O hLb
 clear hL hLb hb8 z0 z1 z2 z3 HXB7 HP7 HO7 HD7 HE7 HB7
 obtain⟨z0,z1,z2,z3,_,_,_,_,_,_,_⟩:=box11 HXB8.out
 go_simp
 refine hK.out _ _ ⟨z0,z1,z2,z3⟩ (fun hHeld=>?_)
 clear hK K
 have E8:World.heap _=w8.heap:=rfl
 have qf:∀ o,w8.frozen? ⟨w.heap.size+1,o,none⟩=false:=fun o=>by simp [World.frozen?,HXB8.out]
 have f0:=qf 0
 have f1:=qf 1
 have f2:=qf 2
 have f3:=qf 3
 clear E8 qf
 refine rgW 13 fun K hK=>?_
 go_simp
 refine hK.out _ _ ?_
 clear hK K
 refine rgW 14 fun K hK=>?_
 go_simp
 refine hK.out _ _ ?_
 clear hK K
 refine rgW 15 fun K hK=>?_
 go_simp
 refine hK.out _ _ ?_
 clear hK K
 refine rgW 16 fun K hK=>?_
 go_simp
 refine hK.out _ _ ?_
 clear hK K
 refine rgW 17 fun K hK=>?_
 go_simp
 refine hK.out _ _ ?_
 clear hK K
 refine rgW 18 fun K hK=>?_
 go_simp
 refine hK.out _ _ ?_
 clear hK K
 refine rgW 19 fun K hK=>?_
 go_simp
 refine hK.out _ _ ?_
 clear hK K
 refine AT.wpT_done (by kernel_rfl) ?_ _
 have hX9:((((w8.setCell ⟨w.heap.size+1,0,none⟩ (.slice OA c.N OC)).setCell ⟨w.heap.size+1,1,none⟩ (.slice DA c.dr.length DC)).setCell ⟨w.heap.size+1,2,none⟩ (.slice EA c.er.length EC)).setCell ⟨w.heap.size+1,3,none⟩ (.slice LA c.cl.length LC)).heap[w.heap.size+1]?=some (.cells #[.slice OA c.N OC,.slice DA c.dr.length DC,.slice EA c.er.length EC,.slice LA c.cl.length LC,Z Y c.kind,Z Y c.fat,Z Y c.frm,Z Y c.till,.slice c.CA c.ac.length c.CC,.slice c.VA c.vs.length c.VC,Z Y c.rounds] 34 (0,0)) :=
  heap_setCell_same _ _ 3 _ _ _ (heap_setCell_same _ _ 2 _ _ _ (heap_setCell_same _ _ 1 _ _ _ (heap_setCell_same _ _ 0 _ _ _ HXB8.out)))
 have hb9:But (fun b=>b=w.heap.size+1) w8 ((((w8.setCell ⟨w.heap.size+1,0,none⟩ (.slice OA c.N OC)).setCell ⟨w.heap.size+1,1,none⟩ (.slice DA c.dr.length DC)).setCell ⟨w.heap.size+1,2,none⟩ (.slice EA c.er.length EC)).setCell ⟨w.heap.size+1,3,none⟩ (.slice LA c.cl.length LC)) :=
  ((((But.refl (fun b=>b=w.heap.size+1) w8).setCell (p:=⟨w.heap.size+1,0,none⟩) (.inl rfl) _).setCell (p:=⟨w.heap.size+1,1,none⟩) (.inl rfl) _).setCell (p:=⟨w.heap.size+1,2,none⟩) (.inl rfl) _).setCell (p:=⟨w.heap.size+1,3,none⟩) (.inl rfl) _
 clear f0 f1 f2 f3 z0 z1 z2 z3 hHeld
 go_upto_region 9 with fail
 generalize ((((w8.setCell ⟨w.heap.size+1,0,none⟩ (.slice OA c.N OC)).setCell ⟨w.heap.size+1,1,none⟩ (.slice DA c.dr.length DC)).setCell ⟨w.heap.size+1,2,none⟩ (.slice EA c.er.length EC)).setCell ⟨w.heap.size+1,3,none⟩ (.slice LA c.cl.length LC))=w9 at *
 obtain⟨_,_,_,_,_,_,_,_,z8,z9,_⟩:=box11 hX9
 have f8:w9.frozen? ⟨w.heap.size+1,8,none⟩=false:=by simp [World.frozen?,hX9]
 have f9:w9.frozen? ⟨w.heap.size+1,9,none⟩=false:=by simp [World.frozen?,hX9]
 have HX9:=O hX9
 have HBb9:=O hb9
 clear hX9 hb9
 have HB9:=O (HB8.out.trans (HBb9.out.to_below (by omega) (fun b e=>by omega)))
 have s9:=HBb9.out.size
 refine AT.wp_region_tail (S:=fun w'=>w'.cell? ⟨w.heap.size+1,8,none⟩=some (.slice c.CA c.ac.length c.CC)∧w'.cell? ⟨w.heap.size+1,9,none⟩=some (.slice c.VA c.vs.length c.VC)) [8,9,10,11,12,13] (by kernel_rfl) ⟨z8,z9⟩ (fun hHeld=>?_)
 refine rgU 0 ?_
 refine rgU 1 ?_
 refine rgU 2 ?_
 refine rgU 4 ?_
 refine rgU 5 ?_
 refine rgU 6 ?_
 refine rgV 3 fun K hK=>?_
 go_simp
 refine(K6.out w9.drew (HRa.out.1.below HB9.out.drew)).mono ?_
 rintro e w10 ⟨FA,FC,rfl,hF,hFb,hb10⟩
 have HBc:=O (But.below (HBb9.out.drew) hb10)
 have s10:w9.heap.size≤w10.heap.size:=hb10.size
 have x8:=keep_of (w:=w9.drew) z8 (by simp;omega) hb10
 have x9:=keep_of (w:=w9.drew) z9 (by simp;omega) hb10
 have X10:=O ((hb10.block (w.heap.size+1) (by simp;omega)).trans HX9.out)
 have HB10:=O (HB9.out.drew.trans (hb10.mono (by simp;omega)))
 have HF:=O hF
 have HFb:=O hFb
 clear hF hFb hb10 z8 z9 HBb9 HX9
 go_simp
 refine hK.out _ _ ⟨x8,x9⟩ (fun hHeld=>?_)
 clear hK K
 refine AT.wpT_take0 (i:=8) (v:=?_) rfl (by kernel_rfl) (by kernel_rfl) (by kernel_rfl) (by kernel_rfl) (fun _ _ _ h=>h) (Or.inl ⟨by rfl,?_⟩) ?_
 rotate_left
 ·intro w_ _
  go_simp
  (try with_reducible rfl)
 simp only [Act.put,List.getElem_toArray,List.getElem_cons_succ,List.getElem_cons_zero,List.setIfInBounds_toArray,List.set_cons_zero,List.set_cons_succ]
 refine AT.wpT_take0 (i:=9) (v:=?_) rfl (by kernel_rfl) (by kernel_rfl) (by kernel_rfl) (by kernel_rfl) (fun _ _ _ h=>h) (Or.inl ⟨by rfl,?_⟩) ?_
 rotate_left
 ·intro w_ _
  go_simp
  (try with_reducible rfl)
 simp only [Act.put,List.getElem_toArray,List.getElem_cons_succ,List.getElem_cons_zero,List.setIfInBounds_toArray,List.set_cons_zero,List.set_cons_succ]
 refine rgV 7 fun K hK=>?_
 go_simp
 refine(K7.out w10 (ints_low2 HRa.out.2 HB10.out)).mono ?_
 rintro e w11 ⟨VA,VC,rfl,hV,hVb,hb11⟩
 have HBb9:=O (But.below HBc.out hb11)
 have s11:=hb11.size
 have z8:=keep_of x8 (by omega) hb11
 have z9:=keep_of x9 (by omega) hb11
 have HX9:=O ((hb11.block (w.heap.size+1) (by omega)).trans X10.out)
 have HF11:=O (HF.out.below hb11)
 have HV11:=O hV
 have HVb:=O hVb
 clear hV hVb hb11 x8 x9 HBc X10 HF f8 f9
 go_simp
 refine hK.out _ _ ⟨z8,z9⟩ (fun hHeld=>?_)
 clear hK K
 have qf:∀ o,w11.frozen? ⟨w.heap.size+1,o,none⟩=false:=fun o=>by simp [World.frozen?,HX9.out]
 have f8:=qf 8
 have f9:=qf 9
 clear qf
 refine rgW 10 fun K hK=>?_
 go_simp
 refine hK.out _ _ ?_
 clear hK K
 refine rgW 11 fun K hK=>?_
 go_simp
 refine hK.out _ _ ?_
 clear hK K
 refine rgW 12 fun K hK=>?_
 go_simp
 refine hK.out _ _ ?_
 clear hK K
 refine rgW 13 fun K hK=>?_
 go_simp
 refine hK.out _ _ ?_
 clear hK K
 refine AT.wpT_done (by kernel_rfl) ?_ _
 have hX:((w11.setCell ⟨w.heap.size+1,8,none⟩ (.slice FA c.ac.length FC)).setCell ⟨w.heap.size+1,9,none⟩ (.slice VA c.vs.length VC)).heap[w.heap.size+1]?=some (.cells #[.slice OA c.N OC,.slice DA c.dr.length DC,.slice EA c.er.length EC,.slice LA c.cl.length LC,Z Y c.kind,Z Y c.fat,Z Y c.frm,Z Y c.till,.slice FA c.ac.length FC,.slice VA c.vs.length VC,Z Y c.rounds] 34 (0,0)) :=
  heap_setCell_same _ _ 9 _ _ _ (heap_setCell_same _ _ 8 _ _ _ HX9.out)
 have hb:=((HBb9.out.setCell (p:=⟨w.heap.size+1,8,none⟩) (.inl rfl) (.slice FA c.ac.length FC)).setCell (p:=⟨w.heap.size+1,9,none⟩) (.inl rfl) (.slice VA c.vs.length VC))
 have hq:But (fun b=>b=w.heap.size+1) w11 ((w11.setCell ⟨w.heap.size+1,8,none⟩ (.slice FA c.ac.length FC)).setCell ⟨w.heap.size+1,9,none⟩ (.slice VA c.vs.length VC)):=((But.refl (fun b=>b=w.heap.size+1) w11).setCell (p:=⟨w.heap.size+1,8,none⟩) (.inl rfl) _).setCell (p:=⟨w.heap.size+1,9,none⟩) (.inl rfl) _
 clear f8 f9 z8 z9 hHeld
 go_upto_region 10 with fail
 have hFx:=acs_but (HF11.out) hq (fun b off e _=>by have:=HFb.out b off e;simp only [World.drew]at this;show ¬ b=w.heap.size+1;omega)
 have hVx:=ints_but (HV11.out) hq (fun b off e _=>by have:=HVb.out b off e;show ¬ b=w.heap.size+1;omega)
 have hPx:=ints_but (HP8.out) hb (fun b off e _=>by have:=HPb.out b off e;show ¬ b=w.heap.size+1;omega)
 have hOx:=ints_but (HO8.out) hb (fun b off e _=>by have:=HOb.out b off e;simp only [World.drew]at this;show ¬ b=w.heap.size+1;omega)
 have hDx:=ints_but (HD8.out) hb (fun b off e _=>by have:=HDb.out b off e;show ¬ b=w.heap.size+1;omega)
 have hEx:=ints_but (HE8.out) hb (fun b off e _=>by have:=HEb.out b off e;show ¬ b=w.heap.size+1;omega)
 have hLx:=cls_but (HL8.out) hb (fun b off e _=>by have:=HLb.out b off e;show ¬ b=w.heap.size+1;omega)
 have hSx:=HS8.out.keep (hb.block w.heap.size (by omega) (by show ¬ w.heap.size=w.heap.size+1;omega))
 have hBx:=HB8.out.trans (hb.to_below (by omega) (fun b e=>by omega))
 clear hb hq HP8 HO8 HD8 HE8 HL8 HS8 HPb HOb HDb HEb HLb HBb9 HX9 HF11 HV11 HFb HVb
 have hFx:=O hFx
 have hVx:=O hVx
 have hPx:=O hPx
 have hOx:=O hOx
 have hDx:=O hDx
 have hEx:=O hEx
 have hLx:=O hLx
 have HBx:=O hBx
 clear hBx
 generalize ((w11.setCell ⟨w.heap.size+1,8,none⟩ (.slice FA c.ac.length FC)).setCell ⟨w.heap.size+1,9,none⟩ (.slice VA c.vs.length VC))=wx at *
 have HX:=O hX
 obtain⟨y0,y1,y2,y3,y4,y5,_⟩:=hSx
 obtain⟨z0,z1,z2,z3,z4,z5,z6,z7,z8,z9,z10⟩:=box11 hX
 have hzx:=heap_lt hX
 clear hX
 refine wp_region_held_drew (S:=fun w'=>w'.cell? ⟨w.heap.size,0,none⟩=some (Z Y c.N)∧w'.cell? ⟨w.heap.size,1,none⟩=some (Z Y c.Pi)∧w'.cell? ⟨w.heap.size,2,none⟩=some (Z Y c.Er)∧w'.cell? ⟨w.heap.size,3,none⟩=some (Z Y c.G)∧w'.cell? ⟨w.heap.size,4,none⟩=some (Z Y c.Fi)∧w'.cell? ⟨w.heap.size,5,none⟩=some (.slice PA c.ps.length PC) ∧
  w'.cell? ⟨w.heap.size+1,0,none⟩=some (.slice OA c.N OC)∧w'.cell? ⟨w.heap.size+1,1,none⟩=some (.slice DA c.dr.length DC)∧w'.cell? ⟨w.heap.size+1,2,none⟩=some (.slice EA c.er.length EC)∧w'.cell? ⟨w.heap.size+1,3,none⟩=some (.slice LA c.cl.length LC)∧w'.cell? ⟨w.heap.size+1,4,none⟩=some (Z Y c.kind)∧w'.cell? ⟨w.heap.size+1,5,none⟩=some (Z Y c.fat)∧w'.cell? ⟨w.heap.size+1,6,none⟩=some (Z Y c.frm)∧w'.cell? ⟨w.heap.size+1,7,none⟩=some (Z Y c.till)∧w'.cell? ⟨w.heap.size+1,8,none⟩=some (.slice FA c.ac.length FC)∧w'.cell? ⟨w.heap.size+1,9,none⟩=some (.slice VA c.vs.length VC)∧w'.cell? ⟨w.heap.size+1,10,none⟩=some (Z Y c.rounds)) (by kernel_rfl) ⟨y0,y1,y2,y3,y4,y5,z0,z1,z2,z3,z4,z5,z6,z7,z8,z9,z10⟩ (fun hHeld=>?_)
 refine rgT 0 ?_
 refine rgT 1 ?_
 refine rgT 2 ?_
 refine rgT 3 ?_
 refine rgR 4 fun K hK=>?_
 go_simp
 rw [mk72 c.N (by omega)]
 go_simp
 refine hK.out _ _ ⟨alloc_keep y0,alloc_keep y1,alloc_keep y2,alloc_keep y3,alloc_keep y4,alloc_keep y5,alloc_keep z0,alloc_keep z1,alloc_keep z2,alloc_keep z3,alloc_keep z4,alloc_keep z5,alloc_keep z6,alloc_keep z7,alloc_keep z8,alloc_keep z9,alloc_keep z10⟩ (fun hHeld=>?_)
 clear hK K
 refine rgT 5 ?_
 refine rgR 6 fun K hK=>?_
 go_simp
 refine hK.out _ _ ⟨alloc_keep (alloc_keep y0),alloc_keep (alloc_keep y1),alloc_keep (alloc_keep y2),alloc_keep (alloc_keep y3),alloc_keep (alloc_keep y4),alloc_keep (alloc_keep y5),alloc_keep (alloc_keep z0),alloc_keep (alloc_keep z1),alloc_keep (alloc_keep z2),alloc_keep (alloc_keep z3),alloc_keep (alloc_keep z4),alloc_keep (alloc_keep z5),alloc_keep (alloc_keep z6),alloc_keep (alloc_keep z7),alloc_keep (alloc_keep z8),alloc_keep (alloc_keep z9),alloc_keep (alloc_keep z10)⟩ (fun hHeld=>?_)
 clear hK K
 refine rgR 7 fun K hK=>?_
 go_simp
 refine hK.out _ _ ⟨alloc_keep (alloc_keep y0),alloc_keep (alloc_keep y1),alloc_keep (alloc_keep y2),alloc_keep (alloc_keep y3),alloc_keep (alloc_keep y4),alloc_keep (alloc_keep y5),alloc_keep (alloc_keep z0),alloc_keep (alloc_keep z1),alloc_keep (alloc_keep z2),alloc_keep (alloc_keep z3),alloc_keep (alloc_keep z4),alloc_keep (alloc_keep z5),alloc_keep (alloc_keep z6),alloc_keep (alloc_keep z7),alloc_keep (alloc_keep z8),alloc_keep (alloc_keep z9),alloc_keep (alloc_keep z10)⟩ (fun hHeld=>?_)
 clear hK K
 refine wpAnyH_done (by kernel_rfl) ?_ _
 obtain⟨hN,hM,hz2,hB2⟩:=two wx (.cells (madeCells #[Z Y 0,Z Y 0,Z Y 0,Z Y 0,.slice none 0 0,.slice none 0 0,.slice none 0 0] (c.N*7)) 79)
  (.cells #[Z Y c.N,Z Y c.Pi,Z Y c.Er,Z Y c.G,Z Y c.Fi,.slice PA c.ps.length PC,.slice OA c.N OC,.slice DA c.dr.length DC,.slice EA c.er.length EC,.slice LA c.cl.length LC,Z Y c.kind,Z Y c.fat,Z Y c.frm,Z Y c.till,.slice FA c.ac.length FC,.slice VA c.vs.length VC,Z Y c.rounds,Z Y 0,.slice (some ⟨wx.heap.size,0,none⟩) c.N c.N,.slice none 0 0,.slice none 0 0] 76)
 have HSx:=O (Six.mk (w:=wx) (B:=w.heap.size) y0 y1 y2 y3 y4 y5 ‹_›)
 clear y0 y1 y2 y3 y4 y5 z0 z1 z2 z3 z4 z5 z6 z7 z8 z9 z10 hHeld
 go_upto_region 11 with fail
 generalize (wx.alloc (.cells (madeCells #[Z Y 0,Z Y 0,Z Y 0,Z Y 0,.slice none 0 0,.slice none 0 0,.slice none 0 0] (c.N*7)) 79)).alloc (.cells #[Z Y c.N,Z Y c.Pi,Z Y c.Er,Z Y c.G,Z Y c.Fi,.slice PA c.ps.length PC,.slice OA c.N OC,.slice DA c.dr.length DC,.slice EA c.er.length EC,.slice LA c.cl.length LC,Z Y c.kind,Z Y c.fat,Z Y c.frm,Z Y c.till,.slice FA c.ac.length FC,.slice VA c.vs.length VC,Z Y c.rounds,Z Y 0,.slice (some ⟨wx.heap.size,0,none⟩) c.N c.N,.slice none 0 0,.slice none 0 0] 76)=wn at *
 have HI0:=O (Init.zero (Q:=fun _=>0) hN hM hB2)
 have m18:=bcell hM 18
 change _=some _ at m18
 have HBn:=O hB2
 have szx:w.heap.size+1 < wx.heap.size:=hzx
 clear hN hM hB2
 go_wp2
 clear m18
 go_loopw [65] (fun t wr=>∃(k:Nat) (Q:Nat→Nat),k≤c.N∧t=Z Y k∧Init wx c PA OA DA EA LA FA VA PC OC DC EC LC FC VC k Q wr) (fun t _=>c.N-(intOf t).toNat)
 case atStart=>exact⟨0,fun _=>0,by omega,rfl,HI0.out.drew⟩
 case round =>
  obtain⟨k,Q,hk,rfl,hI⟩:=hrel
  by_cases hlt:k < c.N
  ·have lk:(k:Int) < (c.N:Int):=by omega
   have HI:=O hI
   have lNB:=hI.lt
   have m18:=bcell hI.nb 18
   change _=some _ at m18
   obtain⟨y0,y1,y2,y3,y4,y5,_⟩:=HSx.out.keep (hI.low.block w.heap.size (by omega))
   have d4:=hI.nd k 4 hlt (by omega)
   have f4:=hI.fr (k*7+4)
   have zr:=hI.low.size
   clear hI
   go_upto_region 14 with fail
   refine AT.wp_region_tail (S:=fun w'=>w'.cell? ⟨w.heap.size,0,none⟩=some (Z Y c.N)∧w'.cell? ⟨w.heap.size,1,none⟩=some (Z Y c.Pi)∧w'.cell? ⟨w.heap.size,2,none⟩=some (Z Y c.Er)∧w'.cell? ⟨w.heap.size,3,none⟩=some (Z Y c.G)∧w'.cell? ⟨w.heap.size,4,none⟩=some (Z Y c.Fi)∧w'.cell? ⟨w.heap.size,5,none⟩=some (.slice PA c.ps.length PC)∧w'.cell? ⟨wx.heap.size+1,18,none⟩=some (.slice (some ⟨wx.heap.size,0,none⟩) c.N c.N)) [8,9,10] (by kernel_rfl) ⟨y0,y1,y2,y3,y4,y5,m18⟩ (fun hHeld=>?_)
   refine rgU 0 ?_
   refine rgU 1 ?_
   refine rgU 2 ?_
   refine rgU 3 ?_
   refine rgU 4 ?_
   refine rgU 5 ?_
   refine rgV 6 fun K hK=>?_
   go_simp
   refine(HSl.out PA PC _).mono ?_
   rintro e w2 ⟨rfl,hb2⟩
   have hb2':Zb wr.heap.size wr w2:=(Zf _ _).drew.trans hb2
   have lz:=hb2'.size
   have HB2:=O hb2'
   have u0:=keep_of y0 (by omega) hb2'
   have u1:=keep_of y1 (by omega) hb2'
   have u2:=keep_of y2 (by omega) hb2'
   have u3:=keep_of y3 (by omega) hb2'
   have u4:=keep_of y4 (by omega) hb2'
   have u5:=keep_of y5 (by omega) hb2'
   have u18:=keep_of m18 lNB hb2'
   have ud:=keep_of d4 (by omega) hb2'
   have uf:=(hb2'.frozen (p:=⟨wx.heap.size,k*7+4,none⟩) (show wx.heap.size < _ by omega)).trans f4
   clear y0 y1 y2 y3 y4 y5 m18 hb2 hb2' d4 f4
   go_simp
   refine hK.out _ _ ⟨u0,u1,u2,u3,u4,u5,u18⟩ (fun hHeld=>?_)
   clear hK K
   refine rgV 7 fun K hK=>?_
   go_simp
   have mk:=mk77 (c.N+c.ps.length) (by omega) w2
   rw [Int.natCast_add]at mk
   rw [mk]
   go_simp
   refine hK.out _ _ ⟨alloc_keep u0,alloc_keep u1,alloc_keep u2,alloc_keep u3,alloc_keep u4,alloc_keep u5,alloc_keep u18⟩ (fun hHeld=>?_)
   clear hK K
   have vd:=alloc_keep (o :=.cells (madeCells #[Z Y 0,Z Y 0,Z Y 0,Z Y 0,Z Y 0] ((c.N+c.ps.length)*5)) 156) ud
   have vf:=(((Zf w2.heap.size w2).alloc (Zr _) (.cells (madeCells #[Z Y 0,Z Y 0,Z Y 0,Z Y 0,Z Y 0] ((c.N+c.ps.length)*5)) 156)).frozen (p:=⟨wx.heap.size,k*7+4,none⟩) (show wx.heap.size < _ by omega)).trans uf
   refine rgW 8 fun K hK=>?_
   go_simp
   refine hK.out _ _ ?_
   clear hK K
   refine rgW 9 fun K hK=>?_
   go_simp
   refine hK.out _ _ ?_
   clear hK K
   refine rgW 10 fun K hK=>?_
   go_simp
   refine hK.out _ _ ?_
   clear hK K
   refine AT.wpT_done (by kernel_rfl) ?_ _
   clear hHeld u0 u1 u2 u3 u4 u5 u18 ud uf vd vf mk
   go_wp2
   go_roundw
   case rel=>exact⟨k+1,_,by omega,by go_num,Init.next HI.out hlt HB2.out⟩
   case measure=>simp [intOf];omega
  ·obtain rfl:k=c.N:=by omega
   have HI:=O hI
   clear hI
   go_wp2
   refine bodyPost_ret (v :=.tuple #[.pointer (some ⟨wx.heap.size+1,0,none⟩),Z Y 0]) (by simp [results,Tryz.results13,go_sem]) rfl ?_
   refine⟨wx.heap.size,PA,OA,DA,EA,LA,FA,VA,PC,OC,DC,EC,LC,FC,VC,Q,rfl,?_,by omega,?_⟩
   ·exact HBx.out.trans (HI.out.low.mono (by omega))
   ·exact Init.net (wx:=wx) HI.out HOn.out hPx.out hOx.out hDx.out hEx.out hLx.out hFx.out hVx.out
end A73
namespace A66
open Go.RowKit A1 A11 A18 A35 A48 A52
theorem net_Round (NB:Nat) (round:Int) (w:Zw) (h17:w.cell? ⟨NB,17,none⟩=some (Z Y round)) :
 Zc Zp 14 #[.pointer (some ⟨NB,0,none⟩)] w fun e w'=>e=.returned (Z Y round)∧w'=w:=by
 go_enter Tryz.func14,Tryz.ntmps14
 go_wp2
 go_ret
 exact⟨rfl,rfl⟩
theorem net_at (NB ND N i:Nat) (w:Zw) (h18:w.cell? ⟨NB,18,none⟩=some (.slice (some ⟨ND,0,none⟩) N N)) (hi:i < N) (hN:N≤12) :
 Zc Zp 37 #[.pointer (some ⟨NB,0,none⟩),Z Y i] w fun e w'=>e=.returned (.pointer (some ⟨ND,i*7,none⟩))∧w'=w:=by
 have l1:(i:Int) < (N:Int):=by omega
 have l2:¬((i:Int) < 0):=by omega
 have l3:¬((N:Int)≤(i:Int)):=by omega
 go_enter Tryz.func37,Tryz.ntmps37
 go_wp2
 go_ret
 exact⟨rfl,rfl⟩
theorem net_State (NB ND N i:Nat) (a b:Value) (w:Zw) (h18:w.cell? ⟨NB,18,none⟩=some (.slice (some ⟨ND,0,none⟩) N N)) (hi:i < N) (hN:N≤12)
 (ha:w.cell? ⟨ND,i*7,none⟩=some a) (hb:w.cell? ⟨ND,i*7+1,none⟩=some b) :
 Zc Zp 17 #[.pointer (some ⟨NB,0,none⟩),Z Y i] w fun e w'=>e=.returned (.tuple #[a,b])∧Zb w.heap.size w w':=by
 have HA:=O (net_at NB ND N i w h18 hi hN)
 clear h18
 go_enter Tryz.func17,Tryz.ntmps17
 go_wp2_with (go_at_call 37;refine(HA.out).mono ?_;rintro e w' ⟨rfl,rfl⟩)
 go_quiet (fail)
 go_wp2
 go_ret2
 exact⟨rfl,⟨rfl,rfl,rfl,Zr _,fun _ _=>rfl⟩⟩
theorem net_Log (NB ND N i n:Nat) (LO:Nat) (lv:Value) (xs:List Value) (w:Zw) (h18:w.cell? ⟨NB,18,none⟩=some (.slice (some ⟨ND,0,none⟩) N N)) (hi:i < N) (hN:N≤12)
 (hl:w.cell? ⟨ND,i*7+6,none⟩=some lv) (ho:w.ownsRow LO 48 4 lv n xs) (hn0:0 < n) (hn:n≤10000) (h1:∀ u ∈ xs,u.oneCell'=true) :
 Zc Zp 18 #[.pointer (some ⟨NB,0,none⟩),Z Y i] w fun e w'=>∃ v',e=.returned v'∧w'.ownsRow w.heap.size 48 4 v' n xs∧v' ≠ .slice none 0 0∧Zb w.heap.size w w':=by
 have HA:=O (net_at NB ND N i w h18 hi hN)
 have hlen:=ho.1
 obtain⟨g,cap,rfl,_,_,hx⟩:=own_some ho hn0
 have HC:=O (CL.Clone38 g 0 n cap xs w hlen hn (fun j u h=>by rw [Nat.zero_add];exact hx j u h) h1)
 clear h18 ho hx h1
 go_enter Tryz.func18,Tryz.ntmps18
 go_wp2_with (first | (go_at_call 37;refine(HA.out).mono ?_;rintro e w' ⟨rfl,rfl⟩) | (go_at_call 38;refine(HC.out).mono ?_;rintro e w2 ⟨v',rfl,ho',hne,hb⟩))
 go_ret
 exact⟨v',rfl,ho',hne,hb⟩
theorem top_last (NB ND N i n:Nat) (LO:Nat) (Pi Er G Fi:Int) (PA:Option Addr) (PL PC:Nat) (round:Int) (lv:Value) (xs:List Value) (w:Zw) (h18:w.cell? ⟨NB,18,none⟩=some (.slice (some ⟨ND,0,none⟩) N N)) (hi:i < N) (hN:N≤12) (hP:PL≤3)
 (hl:w.cell? ⟨ND,i*7+6,none⟩=some lv) (ho:w.ownsRow LO 48 4 lv n xs) (hn0:N+PL≤n) (hn:n≤10000) (h1:∀ u ∈ xs,u.oneCell'=true) (hr:xs[(n-(N+PL))*4]?=some (Z Y round)) :
 Zc Zp 11 #[.pointer (some ⟨NB,0,none⟩),.agg #[Z Y N,Z Y Pi,Z Y Er,Z Y G,Z Y Fi,.slice PA PL PC],Z Y i,Z Y round] w fun e w'=>∃ g cap,e=.returned (.slice (some ⟨g,(n-(N+PL))*4,none⟩) (N+PL) cap)∧(∀ j u,xs[j]?=some u→w'.cell? ⟨g,j,none⟩=some u)∧Zb w.heap.size w w':=by
 have lNB:NB < w.heap.size:=Zl w _ h18
 have HB1:=O (show Zb w.heap.size w (w.alloc (.cells #[Z Y N,Z Y Pi,Z Y Er,Z Y G,Z Y Fi,.slice PA PL PC] 24))from(Zf _ _).alloc (Zr _) _)
 have HL:=O (net_Log NB ND N i n LO lv xs (w.alloc (.cells #[Z Y N,Z Y Pi,Z Y Er,Z Y G,Z Y Fi,.slice PA PL PC] 24)) (keep_of h18 lNB HB1.out) hi hN (keep_of hl (Zl w _ hl) HB1.out) (own_below ho HB1.out) (by omega) hn h1)
 have hX:=Zh w (.cells #[Z Y N,Z Y Pi,Z Y Er,Z Y G,Z Y Fi,.slice PA PL PC] 24)
 have HSl:=O (fun w=>ref_Slots N Pi Er G Fi PA PL PC w (by omega) (by omega) hP)
 have HR:=O hr
 clear h18 hl ho h1 hr
 go_enter Tryz.func11,Tryz.ntmps11
 go_upto_region 1 with fail
 generalize w.alloc (.cells #[Z Y N,Z Y Pi,Z Y Er,Z Y G,Z Y Fi,.slice PA PL PC] 24)=wa at *
 have hXz:=heap_lt hX
 have HX:=O hX
 clear hX
 go_wp2_with fail
 refine(HL.out).mono ?_
 rintro e w2 ⟨v',rfl,ho,hne,hb2⟩
 obtain⟨g,cap,rfl,hg1,hg2,hx⟩:=own_some ho (by omega)
 have HB2:=O hb2
 have HXs:=O hx
 have HX2:=O ((hb2.block _ hXz).trans HX.out)
 have c0:w2.cell? ⟨w.heap.size,0,none⟩=some (Z Y N):=by rw [blk_cell HX2.out];rfl
 have c1:w2.cell? ⟨w.heap.size,1,none⟩=some (Z Y Pi):=by rw [blk_cell HX2.out];rfl
 have c2:w2.cell? ⟨w.heap.size,2,none⟩=some (Z Y Er):=by rw [blk_cell HX2.out];rfl
 have c3:w2.cell? ⟨w.heap.size,3,none⟩=some (Z Y G):=by rw [blk_cell HX2.out];rfl
 have c4:w2.cell? ⟨w.heap.size,4,none⟩=some (Z Y Fi):=by rw [blk_cell HX2.out];rfl
 have c5:w2.cell? ⟨w.heap.size,5,none⟩=some (.slice PA PL PC):=by rw [blk_cell HX2.out];rfl
 have hcap:n≤cap:=by
  rcases ho.2 with⟨h,_⟩ | ⟨g',cap',cur,h,_,_,h2,_⟩
  ·exact absurd h (by simp)
  ·injection h with _ _ h;omega
 have HO:=O ho
 clear hb2 hx HL ho hne
 go_wp2_with fail
 refine(HSl.out w2).mono ?_
 rintro e w3 ⟨rfl,hb3⟩
 have HB3:=O hb3
 have hrk:=keep_of (HXs.out _ _ HR.out) hg2 hb3
 have e1:(n:Int)-((N:Int)+PL)=((n-(N+PL):Nat):Int):=by omega
 have l1:¬(((n-(N+PL):Nat):Int) < 0):=by omega
 have l2:((n-(N+PL):Nat):Int) < (n:Int):=by omega
 have l3:((n-(N+PL):Nat):Int)≤(n:Int):=by omega
 have l4:n-(N+PL) < cap:=by omega
 have l5:¬(n-(N+PL)=cap):=by omega
 have l6:¬(cap-(n-(N+PL))=0):=by omega
 have l7:((cap-(n-(N+PL))) == 0)=false:=by simp;omega
 have l8:n-(n-(N+PL))=N+PL:=by omega
 have l9:n-(N+PL)≤n:=by omega
 clear hb3 c0 c1 c2 c3 c4 c5
 go_wp2
 go_ret
 have z1:=HB1.out.size
 have z2:=HB2.out.size
 refine⟨g,_,rfl,fun j u h=>keep_of (HXs.out j u h) hg2 HB3.out,?_⟩
 have b12:Zb w.heap.size w w2:=HB1.out.trans ⟨HB2.out.os,HB2.out.tape,HB2.out.output,HB2.out.size,fun k hk=>HB2.out.block k (by omega)⟩
 exact b12.trans ⟨HB3.out.os,HB3.out.tape,HB3.out.output,HB3.out.size,fun k hk=>HB3.out.block k (by omega)⟩
end A66
end Go.Proofs.YtdbempiompiioaaGreat
