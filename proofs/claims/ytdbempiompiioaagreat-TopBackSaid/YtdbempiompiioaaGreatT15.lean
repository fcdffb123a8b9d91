/- A slot going round, as the network has it. A whole round of the network, as it turns what it remembe Conditions: the bounds stated in each theorem. -/
import Derived.Test.YtdbempiompiioaaGreatT14
set_option linter.unusedVariables false
set_option linter.unusedSimpArgs false
set_option maxRecDepth 100000
set_option maxHeartbeats 80000000
open Go.Value renaming int → Z
open Go.IntKind renaming i64 → Y
open Go renaming World → Zw, Calls → Zc, heap_alloc_new → Zh
open Go.RowKit renaming Below → Zb
open Go.Proofs.Tryz renaming prog → Zp
open Go.Lib renaming hid → O
open Go.World renaming block_lt_of_cell? → Zl, cell?_setCell_other → Zo
open Nat renaming le_refl → Zr
open Go.RowKit.Below renaming refl → Zf
namespace Go.Proofs.YtdbempiompiioaaGreat
namespace A53
open Go.RowKit A8 A9 A11 A14 A18 A19 A22 A25 A30 A32 A35 A41 A43 E2 A44 A45 A46 A48 A51 A52
theorem take_next {l:List Int} {k:Nat} (h:k < l.length):l.take (k+1)=l.take k ++ [l.getD k 0]:=by
 rw [List.take_succ_eq_append_getElem h,List.getD_eq_getElem?_getD,List.getElem?_eq_getElem h];rfl
theorem take_nextS {l:List ByteArray} {k:Nat} {s:ByteArray} (h:k < l.length) (e:l.getD k ⟨#[]⟩=s):(l.take (k+1)).map Value.string=(l.take k).map Value.string ++ [.string s]:=by
 rw [List.take_succ_eq_append_getElem h,List.map_append,← e,List.getD_eq_getElem?_getD,List.getElem?_eq_getElem h];rfl
theorem con_more {l l':List Int} {i:Int} (h:l'=l ++ [i]):∀ x,l'.contains x=false→l.contains x=false:=fun x hx=>by
 rw [h]at hx
 simp at hx ⊢
 exact hx.1
theorem con_last {l l':List Int} {i:Int} (h:l'=l ++ [i]):l'.contains i=true:=by rw [h];simp
theorem net_run (c:NC) (NB LO ND round slot:Nat) (m:Nm) (st:Nat→Nat) (ck:Nat→Int) (q:Nat→Nat→Option Nat) (g:Nat→Option (List (Nat×Nat))) (w:Zw) (hc:NOk c) (hn:NdOk w c NB LO ND round m st ck q g) (hs:Sep c NB LO ND m)
 (h4:∀ i,i < c.N→st i≤4) (hrb:round≤900) (hsl:slot < c.N+c.ps.length) (hbd:∀ i,i < c.N → -1000000≤ck i∧ck i≤1000000)
 (hok:∀ i,i < c.N→(owners c.N c.ps slot).contains (i:Int)=true→∀ f,ownF c round slot st q g i=some f→FrOk c.N c.ps.length f) :
 Zc Zp 34 #[.pointer (some ⟨NB,0,none⟩),Z Y slot] w (RunSlot c m (owners c.N c.ps slot) st q slot (tkP c round slot st ck q g) w):=by
 have n0:=hc.cf.n0
 have n1:=hc.cf.n1
 have n2:=hc.cf.len
 have lNB:NB < w.heap.size:=Zl w _ hn.r
 have HN:=O hn
 have HC:=O hc
 have HS:=O hs
 have HOK:=O hok
 have HSS:=O (snd_strm hc hsl hok)
 have H4:=O h4
 have HBD:=O hbd
 have HOw:=O (fun(w':Zw) (hb:Zb w.heap.size w w')=>(hn.below hs hb).own hc hsl)
 have hm80:=mk80 c.N (by omega)
 have hm82:=mk82 c.N (by omega)
 have M80:=O hm80
 have M82:=O hm82
 obtain⟨k0,k1,k2,k3,k4,k5,k6,k7,k8,k9,k10,k11,k12,k13,k14,k15,k16⟩:=hn.nb
 have hOL:(owners c.N c.ps slot).length≤2:=by
  rcases owners_cases hc hsl with⟨_,e⟩ | ⟨_,e⟩ | ⟨_,x,_,e⟩ <;> rw [e] <;> simp
 have hOM:∀ x,x ∈ owners c.N c.ps slot→0≤x∧x < c.N:=by
  rcases owners_cases hc hsl with⟨_,e⟩ | ⟨_,e⟩ | ⟨_,x,hx,e⟩ <;> rw [e]
  ·intro y hy;simp at hy;omega
  ·intro y hy;simp at hy
  ·intro y hy
   simp at hy
   rcases hy with rfl | rfl
   ·omega
   ·exact⟨Int.emod_nonneg _ (by omega),Int.emod_lt_of_pos _ (by omega)⟩
 have HOM:=O hOM
 have hND:∀ k,k < (owners c.N c.ps slot).length→((owners c.N c.ps slot).take k).contains ((owners c.N c.ps slot).getD k 0)=false:=by
  rcases owners_cases hc hsl with⟨_,e⟩ | ⟨_,e⟩ | ⟨_,x,hx,e⟩ <;> rw [e]
  ·intro k hk
   obtain rfl:k=0:=by simpa using hk
   rfl
  ·intro k hk;simp at hk
  ·intro k hk
   have:k=0∨k=1:=by simp at hk;omega
   rcases this with rfl | rfl
   ·rfl
   ·have hne:¬((x:Int)+1)%c.N=x:=not_next x c.N (by omega) hx
    simp [hne]
 obtain⟨j9,hi9,hz9,hz9',hz9x⟩:=info_parts info9
 have HI9:=O hi9
 have HZ9:=O (And.intro hz9 (And.intro hz9' hz9x))
 clear hi9 hz9 hz9' hz9x
 clear hn hc hs hok h4 hbd hm80 hm82 hOM k6 k7 k8 k9 k10 k11 k12 k13 k14 k15 k16
 have HSL:=O (show ∀ k,k < (owners c.N c.ps slot).length→(sndF c round slot st q g).getD k ⟨#[]⟩=soF (ownF c round slot st q g ((owners c.N c.ps slot).getD k 0).toNat)from fun k hk=>snd_at c round slot st q g hk)
 have HSN:=O (snd_len c round slot st q g)
 have HTP:=O (show ∀ i,tkP c round slot st ck q g i=if owners c.N c.ps slot=[]then none else pickG c.N c.ps.length ((c.Fi+round)%65536) slot ((dirF c round st ck slot (sndF c round slot st q g) 1 ((owners c.N c.ps slot).getD ((owners c.N c.ps slot).length-1) 0).toNat).f i) ((dirF c round st ck slot (sndF c round slot st q g) (-1) ((owners c.N c.ps slot).getD 0 0).toNat).f i)from fun i=>rfl)
 have HFd:=O (show ∀ i,ownF c round slot st q g i=frameF c.N (c.N+c.ps.length) ((c.Fi+round)%65536).toNat slot (st i) (q i slot) (g i)from fun i=>rfl)
 generalize ownF c round slot st q g=fs at *
 generalize sndF c round slot st q g=SL at *
 generalize hfo:tkP c round slot st ck q g=fo at *
 clear hfo
 have HPA0:=O (fun(hne:owners c.N c.ps slot≠[]) (la lb i:Nat) (hi:i < c.N) (hni:(owners c.N c.ps slot).contains (i:Int)=false)=>pick_at (st:=st) (ck:=ck) (la:=la) (lb:=lb) HC.out (by omega:round≤1000) hsl hne HSS.out hi hni ((c.Fi+round)%65536))
 generalize how:owners (c.N:Int) c.ps slot=ow at *
 have HOW:=O how
 clear how
 go_enter Tryz.func34,Tryz.ntmps34
 go_upto_region 1 with fail
 have HB0:=O (show Zb w.heap.size w (((w.alloc (.cells #[.pointer (some ⟨NB,0,none⟩)] 39)).alloc (.cells #[Z Y slot] 3)).alloc (.cells #[.slice none 0 0,.slice none 0 0,.slice none 0 0,.slice none 0 0] 84))from bB)
 have h3:=three_allocs w (.cells #[.pointer (some ⟨NB,0,none⟩)] 39) (.cells #[Z Y slot] 3) (.cells #[.slice none 0 0,.slice none 0 0,.slice none 0 0,.slice none 0 0] 84)
 have hz0:(((w.alloc (.cells #[.pointer (some ⟨NB,0,none⟩)] 39)).alloc (.cells #[Z Y slot] 3)).alloc (.cells #[.slice none 0 0,.slice none 0 0,.slice none 0 0,.slice none 0 0] 84)).heap.size=w.heap.size+3:=by simp
 have G0:=O (show(((w.alloc (.cells #[.pointer (some ⟨NB,0,none⟩)] 39)).alloc (.cells #[Z Y slot] 3)).alloc (.cells #[.slice none 0 0,.slice none 0 0,.slice none 0 0,.slice none 0 0] 84)).heap[w.heap.size]?=_ from h3.1)
 have G1:=O (show(((w.alloc (.cells #[.pointer (some ⟨NB,0,none⟩)] 39)).alloc (.cells #[Z Y slot] 3)).alloc (.cells #[.slice none 0 0,.slice none 0 0,.slice none 0 0,.slice none 0 0] 84)).heap[w.heap.size+1]?=_ from h3.2.1)
 have G2:=O (show(((w.alloc (.cells #[.pointer (some ⟨NB,0,none⟩)] 39)).alloc (.cells #[Z Y slot] 3)).alloc (.cells #[.slice none 0 0,.slice none 0 0,.slice none 0 0,.slice none 0 0] 84)).heap[w.heap.size+2]?=_ from h3.2.2)
 clear h3
 generalize ((w.alloc (.cells #[.pointer (some ⟨NB,0,none⟩)] 39)).alloc (.cells #[Z Y slot] 3)).alloc (.cells #[.slice none 0 0,.slice none 0 0,.slice none 0 0,.slice none 0 0] 84)=wa at *
 have hzb:w.heap.size+2 < wa.heap.size:=by omega
 clear hz0
 have HK:=O (show ∀ w',Zb wa.heap.size wa w'→(w'.cell? ⟨w.heap.size,0,none⟩=some (.pointer (some ⟨NB,0,none⟩))∧w'.cell? ⟨w.heap.size+1,0,none⟩=some (Z Y slot)∧w'.cell? ⟨NB,0,none⟩=some (Z Y c.N)∧w'.cell? ⟨NB,1,none⟩=some (Z Y c.Pi)∧w'.cell? ⟨NB,2,none⟩=some (Z Y c.Er)∧w'.cell? ⟨NB,3,none⟩=some (Z Y c.G)∧w'.cell? ⟨NB,4,none⟩=some (Z Y c.Fi)∧w'.cell? ⟨NB,5,none⟩=some (.slice c.PA c.ps.length c.PC))from fun w' hb' =>
  ⟨keep_of (by rw [blk_cell G0.out];rfl) (by omega) hb',keep_of (by rw [blk_cell G1.out];rfl) (by omega) hb',(fun(hb:Zb w.heap.size w w')=>⟨keep_of k0 lNB hb,keep_of k1 lNB hb,keep_of k2 lNB hb,keep_of k3 lNB hb,keep_of k4 lNB hb,keep_of k5 lNB hb⟩) (HB0.out.trans (hb'.mono HB0.out.size))⟩)
 refine wp_region_held_drew (S:=fun w'=>w'.cell? ⟨w.heap.size,0,none⟩=some (.pointer (some ⟨NB,0,none⟩))∧w'.cell? ⟨w.heap.size+1,0,none⟩=some (Z Y slot)∧w'.cell? ⟨NB,0,none⟩=some (Z Y c.N)∧w'.cell? ⟨NB,1,none⟩=some (Z Y c.Pi)∧w'.cell? ⟨NB,2,none⟩=some (Z Y c.Er)∧w'.cell? ⟨NB,3,none⟩=some (Z Y c.G)∧w'.cell? ⟨NB,4,none⟩=some (Z Y c.Fi)∧w'.cell? ⟨NB,5,none⟩=some (.slice c.PA c.ps.length c.PC)) (by kernel_rfl) (HK.out _ (Zf _ _).drew) (fun hHeld=>?_)
 refine rgT 0 ?_
 refine rgT 1 ?_
 refine rgT 2 ?_
 refine rgT 3 ?_
 refine rgT 4 ?_
 refine rgR 5 fun K hK=>?_
 go_simp
 refine(HOw.out _ HB0.out.drew).mono ?_
 rintro e w1 ⟨OA,OC,rfl,hOI,hle,hOC,hb1⟩
 have HB1:=O (show Zb wa.heap.size wa w1 from⟨hb1.os,hb1.tape,hb1.output,hb1.size,hb1.block⟩)
 have HOI:=O hOI
 have HOC:=O hOC
 clear hb1 hOI hOC HOw
 go_simp
 refine hK.out _ _ (HK.out _ HB1.out) (fun hHeld=>?_)
 clear hK K
 refine rgT 6 ?_
 refine wpAnyH_done (by kernel_rfl) ?_ _
 go_upto_region 2 with fail
 obtain⟨g0,g1,f0,f1,f2,f3,f4,f5⟩:=HK.out _ HB1.out
 have hz1:=HB1.out.size
 go_cut [6] (XMade w1 c.N)
 case first =>
  have m1:=M80.out
  have m2:=M82.out
  go_region_held3 (fun w'=>w'.cell? ⟨w.heap.size,0,none⟩=some (.pointer (some ⟨NB,0,none⟩))∧w'.cell? ⟨NB,0,none⟩=some (Z Y c.N)) (exact⟨keep_of g0 (by omega) bB,keep_of f0 (by omega) bB⟩) (fail)
  all_goals
   go_wp2_with fail
   go_meet
   first
   | exact⟨_,_,_,rfl,(three_allocs w1 _ _ _).2.2,(three_allocs w1 _ _ _).1,(three_allocs w1 _ _ _).2.1,by omega,by omega,by omega,by omega,by omega,by omega,bB⟩
   | exact⟨_,_,_,rfl,(three_allocs w1 _ _ _).2.1,(three_allocs w1 _ _ _).1,(three_allocs w1 _ _ _).2.2,by omega,by omega,by omega,by omega,by omega,by omega,bB⟩
   | exact⟨_,_,_,rfl,(three_allocs w1 _ _ _).2.2,(three_allocs w1 _ _ _).2.1,(three_allocs w1 _ _ _).1,by omega,by omega,by omega,by omega,by omega,by omega,bB⟩
   | exact⟨_,_,_,rfl,(three_allocs w1 _ _ _).2.1,(three_allocs w1 _ _ _).2.2,(three_allocs w1 _ _ _).1,by omega,by omega,by omega,by omega,by omega,by omega,bB⟩
   | exact⟨_,_,_,rfl,(three_allocs w1 _ _ _).1,(three_allocs w1 _ _ _).2.1,(three_allocs w1 _ _ _).2.2,by omega,by omega,by omega,by omega,by omega,by omega,bB⟩
   | exact⟨_,_,_,rfl,(three_allocs w1 _ _ _).1,(three_allocs w1 _ _ _).2.2,(three_allocs w1 _ _ _).2.1,by omega,by omega,by omega,by omega,by omega,by omega,bB⟩
 case rest =>
  obtain⟨XB,SB,TB,rfl,hX,hSB,hTB,gX,gS,gT,hXS,hXT,hST,hBx⟩:=hcut
  obtain⟨w8,hw8⟩:∃ w8,w8=wc:=⟨_,rfl⟩
  subst hw8
  have HBx:=O (HB1.out.trans (hBx.mono hz1))
  have hzx:=hBx.size
  have lX:=heap_lt hX
  have lS:=heap_lt hSB
  have lT:=heap_lt hTB
  have G0':=O ((HBx.out.block _ (by omega)).trans G0.out)
  have G1':=O ((HBx.out.block _ (by omega)).trans G1.out)
  have G2':=O ((HBx.out.block _ (by omega)).trans G2.out)
  have HBw:=O (HB0.out.trans (HBx.out.mono HB0.out.size))
  have hRA:RunAt w c m OA ow XB SB TB w8.heap.size:=⟨fun i hi=>((HN.out.qa i hi).lt),fun b off e hl=>by
   have h1:=HOC.out b off e
   have h2:w.heap.size≤b:=Nat.le_trans HB0.out.size h1
   obtain⟨b',off',e',h3,_⟩:=HOI.out 0 hl
   rw [e]at e'
   injection e' with e'
   injection e' with e' _
   omega,by omega,by omega,by omega,lX,lS,lT,hXS,hXT,hST⟩
  have HRA:=O hRA
  have HR0:=O (show RunB w c NB slot m (qF (ow.take 0) st q slot) (ow.take 0) ow OA XB SB TB w8.heap.size (.slice none 0 0) (w8.alloc (.cells #[.slice none 0 0] 80))from by
   have k:∀ b o,w8.heap[b]?=some o→(w8.alloc (.cells #[.slice none 0 0] 80)).heap[b]?=some o:=fun b o h=>blk_alloc h _
   refine⟨(But.of_below (HBw.out.alloc HBw.out.size _) (Zr _)),fun i hi=>?_,(HOI.out.below hBx).alloc _,k _ _ G0'.out,k _ _ G1'.out,k _ _ G2'.out,k _ _ hX,k _ _ hTB,by simp;omega,fun o=>blk_frozen (k _ _ hSB) o,fun j hj=>⟨⟨#[]⟩,?_,fun _=>rfl⟩,Zh _ _⟩
   ·have:qF (ow.take 0) st q slot i=q i:=by unfold qF;simp
    rw [this]
    exact(HN.out.qa i hi).below (HBw.out.alloc HBw.out.size _)
   ·rw [blk_cell (k _ _ hSB),made_at _ _ _ hj];simp [Nat.mod_one])
  clear hX hSB hTB hRA G0 G1 G2 HK g0 g1 f0 f1 f2 f3 f4 f5 M80 M82
  have HNth:=O (show ∀ k,k < ow.length→(ow.take k).contains (ow.getD k 0)=false from hND)
  clear hND
  go_wp2_with fail
  go_loopw [38] (fun t wr=>∃(k:Nat) (sv:Value),k≤ow.length∧t=Z Y k∧RunB w c NB slot m (qF (ow.take k) st q slot) (ow.take k) ow OA XB SB TB w8.heap.size sv wr∧wr.ownsRow (w8.heap.size+1) 9 1 sv k ((SL.take k).map Value.string)) (fun t _=>ow.length-(intOf t).toNat)
  case atStart=>exact⟨0,_,by omega,rfl,HR0.out,World.ownsRow_nil _ _ _ _⟩
  case round =>
   obtain⟨k,sv,hk,rfl,hR,hown⟩:=hrel
   have HR:=O hR
   by_cases hlt:k < ow.length
   ·have lk:(k:Int) < (ow.length:Int):=by omega
    obtain⟨ob,oo,rfl,hob,hoc⟩:=hR.oi k hlt
    have hxm:=HOM.out _ (getD_mem hlt)
    have hnd:=HNth.out k hlt
    have hcon:ow.contains (ow.getD k 0)=true:=by simpa using getD_mem hlt
    have HTk:=O (take_next hlt)
    have HSx0:=HSL.out k hlt
    generalize ow.getD k 0=x at *
    obtain⟨i,rfl⟩:∃ i:Nat,x=i:=⟨x.toNat,by omega⟩
    rw [Int.toNat_natCast]at HSx0
    have hi:i < c.N:=by omega
    have hqi:qF (ow.take k) st q slot i=q i:=by unfold qF;rw [if_neg (by rw [hnd];simp)]
    have HFr:=O ((HN.out.but HS.out hR.but hR.qa).frame HS.out HC.out hi hsl (H4.out i hi) hrb)
    rw [hqi,← HFd.out i]at HFr
    have HCon2:=O hcon
    have HSx:=O (take_nextS (by rw [HSN.out];exact hlt) HSx0)
    clear HSx0
    have c0:wr.cell? ⟨w.heap.size,0,none⟩=some (.pointer (some ⟨NB,0,none⟩)):=by rw [blk_cell hR.b0];rfl
    have c1:wr.cell? ⟨w.heap.size+1,0,none⟩=some (Z Y slot):=by rw [blk_cell hR.b1];rfl
    have HO:=O hown
    clear hR hown hqi hxm
    have HNd:=O hnd
    obtain hfn | ⟨f,hff⟩:fs i=none∨∃ f,fs i=some f:=by
     cases fs i with
     | none=>exact .inl rfl
     | some f=>exact .inr ⟨f,rfl⟩
    ·rw [hfn]at HFr
     have HFN:=O hfn
     clear hfn
     go_wp2_with fail
     refine HFr.out.mono ?_
     rintro e w2 ⟨⟨k',r',s',rfl⟩,hb2,hq2⟩
     have HR2:=O (show RunB w c NB slot m (qF (ow.take (k+1)) st q slot) (ow.take k) ow _ XB SB TB w8.heap.size sv w2 from by
      refine HR.out.go HRA.out (hb2.more (fun b _ e=>⟨i,hi,e⟩)) (fun j hj=>?_)
      by_cases e:j=i
      ·subst e;rw [qF_this HTk.out];exact hq2
      ·rw [qF_same HTk.out e]
       exact(HR.out.qa j hj).but hb2 (fun e2=>e (HS.out.qq j i hj hi e2)))
     have HO2:=O (own_but HO.out hb2 (fun b hb e=>by have:=HRA.out.q i hi;have:=HRA.out.sb;omega))
     clear hb2 hq2
     go_wp2_with fail
     have HR3:=O (HR2.out.below HRA.out ((Zf _ _).alloc (Zr _) (.cells #[Z Y k',Z Y r',Z Y s',Z Y 0,Z Y 0,.slice none 0 0] 118)))
     have HO3:=O (HO2.out.alloc (.cells #[Z Y k',Z Y r',Z Y s',Z Y 0,Z Y 0,.slice none 0 0] 118))
     have hz3:w2.heap.size < (w2.alloc (.cells #[Z Y k',Z Y r',Z Y s',Z Y 0,Z Y 0,.slice none 0 0] 118)).heap.size:=by simp
     generalize w2.alloc (.cells #[Z Y k',Z Y r',Z Y s',Z Y 0,Z Y 0,.slice none 0 0] 118)=w3 at *
     have d2:w3.cell? ⟨SB,i,none⟩=some (.string ⟨#[]⟩):=by
      obtain⟨u,h1,h2⟩:=HR3.out.se i hi
      rw [h1,h2 HNd.out]
     have HRep:=O (show(SL.take (k+1)).map Value.string=(SL.take k).map Value.string ++ [.string ⟨#[]⟩]from by rw [HSx.out,HFN.out];rfl)
     have d0:w3.cell? ⟨w8.heap.size,0,none⟩=some sv:=by rw [blk_cell HR3.out.bb];rfl
     have d1:w3.cell? ⟨XB,0,none⟩=some (.slice (some ⟨SB,0,none⟩) c.N c.N):=by rw [blk_cell HR3.out.x];rfl
     have i1:(i:Int) < (c.N:Int):=by omega
     have HD0:=O d0
     have HD1:=O d1
     have HD2:=O d2
     have yB:w3.frozen? ⟨w8.heap.size,0,none⟩=false:=blk_frozen HR3.out.bb _
     have YB:=O yB
     have HZ3:=O (heap_lt HR3.out.bb)
     refine AT.wp_region_tail (S:=fun w'=>w'.cell? ⟨w8.heap.size,0,none⟩=some sv∧w'.cell? ⟨XB,0,none⟩=some (.slice (some ⟨SB,0,none⟩) c.N c.N)∧w'.cell? ⟨SB,i,none⟩=some (.string ⟨#[]⟩)) [8] (by kernel_rfl) ⟨d0,d1,d2⟩ (fun hHeld=>?_)
     refine rgU 0 ?_
     refine rgU 1 ?_
     refine rgU 2 ?_
     refine rgU 3 ?_
     refine rgU 4 ?_
     refine rgU 5 ?_
     refine rgV 6 fun K hK=>?_
     go_simp
     refine hK.out _ _ ⟨alloc_keep (w:=w3) HD0.out,alloc_keep (w:=w3) HD1.out,alloc_keep (w:=w3) HD2.out⟩ (fun hHeld=>?_)
     clear hK K
     refine rgV 7 fun K hK=>?_
     refine step_append_lies _ (by rfl) _ _ _ (by rfl) (w8.heap.size+1) 9 j9 (.string ⟨#[]⟩) 1 16 Tryz.underlying80 HI9.out HZ9.out.1 HZ9.out.2.1 HZ9.out.2.2 rfl (by omega) sv k ((SL.take k).map Value.string) (by rfl) ((HO3.out.drew).alloc _) ⟨w3.heap.size,0,none⟩ 1 1 [.string ⟨#[]⟩] (by rfl) (by rfl) (World.news_of_block (cs:=#[.string ⟨#[]⟩]) (t:=9) (fr:=(0,0)) (Zh w3 _)) (by simp [Value.oneCell']) (by omega) (by unfold maxLen;omega) (by omega) (by have:=HZ3.out;simp;omega) (w3.heap.size+1) (by simp) ?_
     intro gg cap w4 hown4 hgrow hat hlt4
     have hb34:But (fun b=>w8.heap.size < b) w3 w4:=But.grown (But.alloc (But.drew (But.refl _ w3)) _) hgrow (fun q hq =>.inl (ownsRow_block HO3.out hq))
     have HR4:=O (HR3.out.far HRA.out hb34 (fun b h=>h))
     have e2:=(hb34.cell (p:=⟨SB,i,none⟩) HR3.out.sl (fun h=>by have:=HRA.out.sb;exact absurd h (by show ¬ w8.heap.size < SB;omega))).trans HD2.out
     clear hgrow hb34
     have HO4:=O hown4
     have e0:w4.cell? ⟨w8.heap.size,0,none⟩=some sv:=by rw [blk_cell HR4.out.bb];rfl
     have e1:w4.cell? ⟨XB,0,none⟩=some (.slice (some ⟨SB,0,none⟩) c.N c.N):=by rw [blk_cell HR4.out.x];rfl
     have y4:w4.frozen? ⟨w8.heap.size,0,none⟩=false:=blk_frozen HR4.out.bb _
     refine hK.out _ _ ⟨e0,e1,e2⟩ (fun hHeld=>?_)
     clear hK K
     try simp only [Act.put,List.getElem_toArray,List.getElem_cons_succ,List.getElem_cons_zero,List.setIfInBounds_toArray,List.set_cons_zero,List.set_cons_succ]
     refine rgW 8 fun K hK=>?_
     go_simp
     refine hK.out _ _ ?_
     clear hK K
     refine AT.wpT_done (by kernel_rfl) ?_ _
     go_wp2
     go_roundw
     case rel=>exact⟨k+1,.slice (some ⟨gg,0,none⟩) (k+1) cap,by omega,by go_num,(HR4.out.more (con_more HTk.out)).row HRA.out _,by rw [HRep.out];exact ownsRow_setCell_below HO4.out (show w8.heap.size < w8.heap.size+1 by omega) _⟩
     case measure=>simp [intOf];omega
    ·rw [hff]at HFr
     have HFF:=O hff
     clear hff
     go_wp2_with fail
     refine HFr.out.mono ?_
     rintro e w2 ⟨⟨EA,EC,rfl,hE2⟩,hb2,hq2⟩
     have HR2:=O (show RunB w c NB slot m (qF (ow.take (k+1)) st q slot) (ow.take k) ow _ XB SB TB w8.heap.size sv w2 from by
      refine HR.out.go HRA.out (hb2.more (fun b _ e=>⟨i,hi,e⟩)) (fun j hj=>?_)
      by_cases e:j=i
      ·subst e;rw [qF_this HTk.out];exact hq2
      ·rw [qF_same HTk.out e]
       exact(HR.out.qa j hj).but hb2 (fun e2=>e (HS.out.qq j i hj hi e2)))
     have HO2:=O (own_but HO.out hb2 (fun b hb e=>by have:=HRA.out.q i hi;have:=HRA.out.sb;omega))
     have HE2:=O hE2
     clear hb2 hq2 hE2
     go_wp2_with fail
     have HR3:=O (HR2.out.below HRA.out ((Zf _ _).alloc (Zr _) (.cells #[Z Y f.kind,Z Y f.round,Z Y f.slot,Z Y f.pk,Z Y f.pv,.slice EA f.echo.length EC] 118)))
     have HO3:=O (HO2.out.alloc (.cells #[Z Y f.kind,Z Y f.round,Z Y f.slot,Z Y f.pk,Z Y f.pv,.slice EA f.echo.length EC] 118))
     have HE3:=O (Items.below HE2.out ((Zf _ _).alloc (Zr _) (.cells #[Z Y f.kind,Z Y f.round,Z Y f.slot,Z Y f.pk,Z Y f.pv,.slice EA f.echo.length EC] 118)))
     have hF3:=Zh w2 (.cells #[Z Y f.kind,Z Y f.round,Z Y f.slot,Z Y f.pk,Z Y f.pv,.slice EA f.echo.length EC] 118)
     generalize w2.alloc (.cells #[Z Y f.kind,Z Y f.round,Z Y f.slot,Z Y f.pk,Z Y f.pv,.slice EA f.echo.length EC] 118)=w3 at *
     have hND3:=HN.out.but HS.out HR3.out.but HR3.out.qa
     obtain⟨q0,q1,q2,q3,q4,q5,_,_,_,_,_,_,_,_,_,_,_⟩:=hND3.nb
     have r0:w3.cell? ⟨w.heap.size,0,none⟩=some (.pointer (some ⟨NB,0,none⟩)):=by rw [blk_cell HR3.out.b0];rfl
     have r1:w3.cell? ⟨XB,0,none⟩=some (.slice (some ⟨SB,0,none⟩) c.N c.N):=by rw [blk_cell HR3.out.x];rfl
     have p0:w3.cell? ⟨w2.heap.size,0,none⟩=some (Z Y f.kind):=by rw [blk_cell hF3];rfl
     have p1:w3.cell? ⟨w2.heap.size,1,none⟩=some (Z Y f.round):=by rw [blk_cell hF3];rfl
     have p2:w3.cell? ⟨w2.heap.size,2,none⟩=some (Z Y f.slot):=by rw [blk_cell hF3];rfl
     have p3:w3.cell? ⟨w2.heap.size,3,none⟩=some (Z Y f.pk):=by rw [blk_cell hF3];rfl
     have p4:w3.cell? ⟨w2.heap.size,4,none⟩=some (Z Y f.pv):=by rw [blk_cell hF3];rfl
     have p5:w3.cell? ⟨w2.heap.size,5,none⟩=some (.slice EA f.echo.length EC):=by rw [blk_cell hF3];rfl
     have hz3:=heap_lt hF3
     have lNB3:NB < w3.heap.size:=Zl _ _ q0
     have lh3:w.heap.size < w3.heap.size:=heap_lt HR3.out.b0
     have lX3:XB < w3.heap.size:=heap_lt HR3.out.x
     have hfo:=HOK.out i hi HCon2.out f HFF.out
     have HT:=O (fun w' hE=>frame_Text #[Z Y c.N,Z Y c.Pi,Z Y c.Er,Z Y c.G,Z Y c.Fi,.slice c.PA c.ps.length c.PC] f EA EC w' rfl (A51.FrOk.low hfo (by omega) (by omega)) hE c.N c.Pi c.Er c.G c.Fi c.PA c.ps.length c.PC rfl)
     have HKs:=O (show ∀ w',Zb w3.heap.size w3 w'→(w'.cell? ⟨w.heap.size,0,none⟩=some (.pointer (some ⟨NB,0,none⟩))∧w'.cell? ⟨XB,0,none⟩=some (.slice (some ⟨SB,0,none⟩) c.N c.N)∧w'.cell? ⟨NB,0,none⟩=some (Z Y c.N)∧w'.cell? ⟨NB,1,none⟩=some (Z Y c.Pi)∧w'.cell? ⟨NB,2,none⟩=some (Z Y c.Er)∧w'.cell? ⟨NB,3,none⟩=some (Z Y c.G)∧w'.cell? ⟨NB,4,none⟩=some (Z Y c.Fi)∧w'.cell? ⟨NB,5,none⟩=some (.slice c.PA c.ps.length c.PC)∧w'.cell? ⟨w2.heap.size,0,none⟩=some (Z Y f.kind)∧w'.cell? ⟨w2.heap.size,1,none⟩=some (Z Y f.round)∧w'.cell? ⟨w2.heap.size,2,none⟩=some (Z Y f.slot)∧w'.cell? ⟨w2.heap.size,3,none⟩=some (Z Y f.pk)∧w'.cell? ⟨w2.heap.size,4,none⟩=some (Z Y f.pv)∧w'.cell? ⟨w2.heap.size,5,none⟩=some (.slice EA f.echo.length EC))from fun w' hb =>
      ⟨keep_of r0 lh3 hb,keep_of r1 lX3 hb,keep_of q0 lNB3 hb,keep_of q1 lNB3 hb,keep_of q2 lNB3 hb,keep_of q3 lNB3 hb,keep_of q4 lNB3 hb,keep_of q5 lNB3 hb,keep_of p0 hz3 hb,keep_of p1 hz3 hb,keep_of p2 hz3 hb,keep_of p3 hz3 hb,keep_of p4 hz3 hb,keep_of p5 hz3 hb⟩)
     clear hfo hF3 hND3 q0 q1 q2 q3 q4 q5 r0 r1 p0 p1 p2 p3 p4 p5
     have i0:(i:Int) < (c.N:Int):=by omega
     refine AT.wp_region_tail (S:=fun w'=>w'.cell? ⟨w.heap.size,0,none⟩=some (.pointer (some ⟨NB,0,none⟩))∧w'.cell? ⟨XB,0,none⟩=some (.slice (some ⟨SB,0,none⟩) c.N c.N)∧w'.cell? ⟨NB,0,none⟩=some (Z Y c.N)∧w'.cell? ⟨NB,1,none⟩=some (Z Y c.Pi)∧w'.cell? ⟨NB,2,none⟩=some (Z Y c.Er)∧w'.cell? ⟨NB,3,none⟩=some (Z Y c.G)∧w'.cell? ⟨NB,4,none⟩=some (Z Y c.Fi)∧w'.cell? ⟨NB,5,none⟩=some (.slice c.PA c.ps.length c.PC)∧w'.cell? ⟨w2.heap.size,0,none⟩=some (Z Y f.kind)∧w'.cell? ⟨w2.heap.size,1,none⟩=some (Z Y f.round)∧w'.cell? ⟨w2.heap.size,2,none⟩=some (Z Y f.slot)∧w'.cell? ⟨w2.heap.size,3,none⟩=some (Z Y f.pk)∧w'.cell? ⟨w2.heap.size,4,none⟩=some (Z Y f.pv)∧w'.cell? ⟨w2.heap.size,5,none⟩=some (.slice EA f.echo.length EC)) [10] (by kernel_rfl) (HKs.out _ (Zf _ _).drew) (fun hHeld=>?_)
     refine rgU 0 ?_
     refine rgU 1 ?_
     refine rgU 2 ?_
     refine rgU 3 ?_
     refine rgU 4 ?_
     refine rgU 5 ?_
     refine rgU 6 ?_
     refine rgU 7 ?_
     refine rgV 8 fun K hK=>?_
     go_simp
     refine(HT.out _ (show Items w3.drew EA f.echo from HE3.out)).mono ?_
     rintro e w5 ⟨rfl,hb5'⟩
     have hb5:Zb w3.heap.size w3 w5:=⟨hb5'.os,hb5'.tape,hb5'.output,hb5'.size,hb5'.block⟩
     have HR5:=O (HR3.out.below HRA.out hb5)
     have HO5:=O (own_below HO3.out hb5)
     have HHe:=O (HKs.out _ hb5)
     clear hb5' hb5
     go_simp
     refine hK.out _ _ HHe.out (fun hHeld=>?_)
     clear hK K
     refine rgV 9 fun K hK=>?_
     go_simp
     refine hK.out _ _ HHe.out (fun hHeld=>?_)
     clear hK K
     have ySB:w5.frozen? ⟨SB,i,none⟩=false:=HR5.out.sf i
     obtain⟨us,hus,_⟩:=HR5.out.se i hi
     refine rgW 10 fun K hK=>?_
     go_simp
     refine hK.out _ _ ?_
     clear hK K
     refine AT.wpT_done (by kernel_rfl) ?_ _
     clear HR2 HO2 HE2 HE3 HT HKs HHe hHeld HR3 HO3 ySB
     have HR3:=O ((HR5.out.more (con_more HTk.out)).sent HRA.out i (textB f) hi (con_last HTk.out))
     have HO3:=O (ownsRow_setCell_below HO5.out (a:=⟨SB,i,none⟩) (by have:=HRA.out.sb;show SB < w8.heap.size+1;omega) (.string (textB f)))
     have d2:(w5.setCell ⟨SB,i,none⟩ (.string (textB f))).cell? ⟨SB,i,none⟩=some (.string (textB f)):=World.cell?_setCell_same _ _ _ hus
     generalize w5.setCell ⟨SB,i,none⟩ (.string (textB f))=w3 at *
     have HRep:=O (show(SL.take (k+1)).map Value.string=(SL.take k).map Value.string ++ [.string (textB f)]from by rw [HSx.out,HFF.out];rfl)
     clear hus HR5 HO5
     go_wp2_with fail
     have d0:w3.cell? ⟨w8.heap.size,0,none⟩=some sv:=by rw [blk_cell HR3.out.bb];rfl
     have d1:w3.cell? ⟨XB,0,none⟩=some (.slice (some ⟨SB,0,none⟩) c.N c.N):=by rw [blk_cell HR3.out.x];rfl
     have i1:(i:Int) < (c.N:Int):=by omega
     have HD0:=O d0
     have HD1:=O d1
     have HD2:=O d2
     have yB:w3.frozen? ⟨w8.heap.size,0,none⟩=false:=blk_frozen HR3.out.bb _
     have YB:=O yB
     have HZ3:=O (heap_lt HR3.out.bb)
     refine AT.wp_region_tail (S:=fun w'=>w'.cell? ⟨w8.heap.size,0,none⟩=some sv∧w'.cell? ⟨XB,0,none⟩=some (.slice (some ⟨SB,0,none⟩) c.N c.N)∧w'.cell? ⟨SB,i,none⟩=some (.string (textB f))) [8] (by kernel_rfl) ⟨d0,d1,d2⟩ (fun hHeld=>?_)
     refine rgU 0 ?_
     refine rgU 1 ?_
     refine rgU 2 ?_
     refine rgU 3 ?_
     refine rgU 4 ?_
     refine rgU 5 ?_
     refine rgV 6 fun K hK=>?_
     go_simp
     refine hK.out _ _ ⟨alloc_keep (w:=w3) HD0.out,alloc_keep (w:=w3) HD1.out,alloc_keep (w:=w3) HD2.out⟩ (fun hHeld=>?_)
     clear hK K
     refine rgV 7 fun K hK=>?_
     refine step_append_lies _ (by rfl) _ _ _ (by rfl) (w8.heap.size+1) 9 j9 (.string ⟨#[]⟩) 1 16 Tryz.underlying80 HI9.out HZ9.out.1 HZ9.out.2.1 HZ9.out.2.2 rfl (by omega) sv k ((SL.take k).map Value.string) (by rfl) ((HO3.out.drew).alloc _) ⟨w3.heap.size,0,none⟩ 1 1 [.string (textB f)] (by rfl) (by rfl) (World.news_of_block (cs:=#[.string (textB f)]) (t:=9) (fr:=(0,0)) (Zh w3 _)) (by simp [Value.oneCell']) (by omega) (by unfold maxLen;omega) (by omega) (by have:=HZ3.out;simp;omega) (w3.heap.size+1) (by simp) ?_
     intro gg cap w4 hown4 hgrow hat hlt4
     have hb34:But (fun b=>w8.heap.size < b) w3 w4:=But.grown (But.alloc (But.drew (But.refl _ w3)) _) hgrow (fun q hq =>.inl (ownsRow_block HO3.out hq))
     have HR4:=O (HR3.out.far HRA.out hb34 (fun b h=>h))
     have e2:=(hb34.cell (p:=⟨SB,i,none⟩) HR3.out.sl (fun h=>by have:=HRA.out.sb;exact absurd h (by show ¬ w8.heap.size < SB;omega))).trans HD2.out
     clear hgrow hb34
     have HO4:=O hown4
     have e0:w4.cell? ⟨w8.heap.size,0,none⟩=some sv:=by rw [blk_cell HR4.out.bb];rfl
     have e1:w4.cell? ⟨XB,0,none⟩=some (.slice (some ⟨SB,0,none⟩) c.N c.N):=by rw [blk_cell HR4.out.x];rfl
     have y4:w4.frozen? ⟨w8.heap.size,0,none⟩=false:=blk_frozen HR4.out.bb _
     refine hK.out _ _ ⟨e0,e1,e2⟩ (fun hHeld=>?_)
     clear hK K
     try simp only [Act.put,List.getElem_toArray,List.getElem_cons_succ,List.getElem_cons_zero,List.setIfInBounds_toArray,List.set_cons_zero,List.set_cons_succ]
     refine rgW 8 fun K hK=>?_
     go_simp
     refine hK.out _ _ ?_
     clear hK K
     refine AT.wpT_done (by kernel_rfl) ?_ _
     go_wp2
     go_roundw
     case rel=>exact⟨k+1,.slice (some ⟨gg,0,none⟩) (k+1) cap,by omega,by go_num,HR4.out.row HRA.out _,by rw [HRep.out];exact ownsRow_setCell_below HO4.out (show w8.heap.size < w8.heap.size+1 by omega) _⟩
     case measure=>simp [intOf];omega
   ·obtain rfl:k=ow.length:=by omega
    have hR2:=HR.out
    rw [List.take_length]at hR2
    have hown:wr.ownsRow (w8.heap.size+1) 9 1 sv ow.length (SL.map Value.string):=by rw [show SL.take ow.length=SL from by rw [← HSN.out,List.take_length]]at hown;exact hown
    have HR2:=O hR2
    have HO2:=O hown
    have hz2:=heap_lt hR2.bb
    have c0:wr.cell? ⟨w.heap.size,0,none⟩=some (.pointer (some ⟨NB,0,none⟩)):=by rw [blk_cell hR2.b0];rfl
    have hND2:=HN.out.but HS.out hR2.but hR2.qa
    have n0':=hND2.nb.c0
    clear hR hR2 hown HR hND2
    by_cases hemp:ow.length=0
    ·have hze:(ow.length == 0)=true:=by simp [hemp]
     have hze':((ow.length:Int) == 0)=true:=by simp [hemp]
     have hfn:∀ i,fo i=none:=fun i=>(HTP.out i).trans (if_pos (List.length_eq_zero_iff.1 hemp))
     have HFN:=O hfn
     have hm81:=mk81 c.N (by omega)
     have lh:=heap_lt HR2.out.b0
     have lN:=Zl _ _ n0'
     have HX2:=O HR2.out.x
     have Hb2:=O HR2.out.b2
     clear hemp hfn
     go_upto_region 13 with fail
     go_cut [] (EmptyMade c.N XB SB TB wr)
     case first =>
      have lXw:XB < wr.heap.size:=heap_lt HX2.out
      have x1:wr.cell? ⟨XB,1,none⟩=some (.slice none 0 0):=by rw [blk_cell HX2.out];rfl
      have x2:wr.cell? ⟨XB,2,none⟩=some (.slice none 0 0):=by rw [blk_cell HX2.out];rfl
      have yX:∀ o,wr.frozen? ⟨XB,o,none⟩=false:=fun o=>blk_frozen HX2.out o
      have nn1:=World.new_ne wr _ c0
      have nn2:=World.new_ne wr _ n0'
      have lhX':XB≠w.heap.size:=by have:=HRA.out.x;omega
      have lNX':XB≠NB:=by have:=HRA.out.x;omega
      have lhX:w.heap.size≠XB:=by have:=HRA.out.x;omega
      have lNX:NB≠XB:=by have:=HRA.out.x;omega
      go_region_held3 (fun w'=>w'.cell? ⟨w.heap.size,0,none⟩=some (.pointer (some ⟨NB,0,none⟩))∧w'.cell? ⟨NB,0,none⟩=some (Z Y c.N)) (refine⟨?_,?_⟩ <;> (repeat(first | exact c0 | exact n0' | refine alloc_keep ?_ | refine set_keep ?_ lhX | refine set_keep ?_ lNX | assumption))) (fail)
      all_goals
       go_wp2_with fail
       go_meet
       exact empty_made HX2.out
     case rest =>
      obtain⟨sa,sb,hXx,hbx⟩:=hcut
      have lR:XB≠w.heap.size+2:=by have:=HRA.out.x;omega
      have lR':w.heap.size+2≠XB:=Ne.symm lR
      have hRb:=(hbx.block (w.heap.size+2) (heap_lt Hb2.out) lR').trans Hb2.out
      have x0:wc.cell? ⟨XB,0,none⟩=some (.slice (some ⟨SB,0,none⟩) c.N c.N):=by rw [blk_cell hXx];rfl
      have x1:wc.cell? ⟨XB,1,none⟩=some (.slice (some ⟨sa,0,none⟩) c.N c.N):=by rw [blk_cell hXx];rfl
      have x2:wc.cell? ⟨XB,2,none⟩=some (.slice (some ⟨sb,0,none⟩) c.N c.N):=by rw [blk_cell hXx];rfl
      have x3:wc.cell? ⟨XB,3,none⟩=some (.slice (some ⟨TB,0,none⟩) c.N c.N):=by rw [blk_cell hXx];rfl
      have z0:wc.cell? ⟨w.heap.size+2,0,none⟩=some (.slice none 0 0):=by rw [blk_cell hRb];rfl
      have z1:wc.cell? ⟨w.heap.size+2,1,none⟩=some (.slice none 0 0):=by rw [blk_cell hRb];rfl
      have z2:wc.cell? ⟨w.heap.size+2,2,none⟩=some (.slice none 0 0):=by rw [blk_cell hRb];rfl
      have z3:wc.cell? ⟨w.heap.size+2,3,none⟩=some (.slice none 0 0):=by rw [blk_cell hRb];rfl
      have yZ:∀ o,wc.frozen? ⟨w.heap.size+2,o,none⟩=false:=fun o=>blk_frozen hRb o
      have HBX:=O hbx
      have HT:=O ((hbx.block TB (heap_lt HR2.out.t) (fun e=>by have:=HRA.out.xt;exact this e.symm)).trans HR2.out.t)
      clear hbx hXx hRb
      go_wp2_with fail
      refine bodyPost_ret (v :=.agg #[.slice (some ⟨SB,0,none⟩) c.N c.N,.slice (some ⟨sa,0,none⟩) c.N c.N,.slice (some ⟨sb,0,none⟩) c.N c.N,.slice (some ⟨TB,0,none⟩) c.N c.N]) (by simp [results,Tryz.results34,go_sem,z0,z1,z2,z3]) rfl ?_
      refine run_end (W:=wc) rfl ?_ (fun i hi=>?_) ?_ (fun i hi=>HRA.out.q i hi) ?_
      ·exact⟨HBX.out.os.trans HR2.out.but.os,HBX.out.tape.trans HR2.out.but.tape,HBX.out.output.trans HR2.out.but.output,Nat.le_trans HR2.out.but.size HBX.out.size,fun k hk hn=>(HBX.out.block k (Nat.lt_of_lt_of_le hk HR2.out.but.size) (by have:=HRA.out.x;omega)).trans (HR2.out.but.block k hk hn)⟩
      ·exact(HR2.out.qa i hi).but HBX.out (by have:=HRA.out.x;have:=HRA.out.q i hi;omega)
      ·refine⟨by have:=HRA.out.t;omega,heap_lt HT.out,fun i hi=>⟨.pointer none,?_,?_⟩⟩
       ·rw [blk_cell HT.out,made_at _ _ _ hi];simp [Nat.mod_one]
       ·unfold tkF
        rw [HFN.out i,ite_self]
        exact rfl
      ·repeat refine But.setCell ?_ (by left;show w.heap.size+1+1=w.heap.size+2;omega) _
       exact But.refl _ _
    ·have hne:ow≠[]:=fun e=>hemp (by rw [e];rfl)
     have hze:(ow.length == 0)=false:=by simp [hne]
     have hze':((ow.length:Int) == 0)=false:=by simp [hne]
     have HNE:=O hne
     have hlen0:0 < ow.length:=by omega
     have HSt:=O ((HN.out.but HS.out HR2.out.but HR2.out.qa).states HC.out c0)
     have HHz:=O hlen0
     clear hemp hne
     go_wp2_with fail
     refine HSt.out.mono ?_
     rintro e w3 ⟨gs,rfl,hgs1,hgs2,hgs3,hb3⟩
     have HR3:=O (HR2.out.below HRA.out hb3)
     have HO3:=O (own_below HO2.out hb3)
     have HG3:=O hgs3
     have hz3:=hb3.size
     clear hgs3 hb3 HR2 HO2 HSt c0 n0'
     go_upto_region 17 with fail
     have HB34:=O (show Zb w3.heap.size w3 (w3.alloc (.cells #[.slice (some ⟨gs,0,none⟩) c.N c.N] 22))from(Zf _ _).alloc (Zr _) _)
     have hT4:=Zh w3 (.cells #[.slice (some ⟨gs,0,none⟩) c.N c.N] 22)
     generalize w3.alloc (.cells #[.slice (some ⟨gs,0,none⟩) c.N c.N] 22)=w4 at *
     have HR4:=O (HR3.out.below HRA.out HB34.out)
     have HO4:=O (own_below HO3.out HB34.out)
     have HT4:=O hT4
     have HG4:=O (show ∀ i,i < c.N→w4.cell? ⟨gs,i,none⟩=some (Z Y (st i))from fun i hi=>keep_of (HG3.out i hi) hgs2 HB34.out)
     have hgs4:gs < w4.heap.size:=Nat.lt_of_lt_of_le hgs2 HB34.out.size
     obtain⟨gS,capS,rfl,hgS,hStr⟩:=strs_own HO4.out hlen0 HSN.out
     have HStr:=O hStr
     clear hT4 hStr HR3 HO3 HG3
     obtain⟨L,hL⟩:∃ L,ow.length=L+1:=⟨ow.length-1,by omega⟩
     have hOI4:=HR4.out.oi
     obtain⟨ob,oo,rfl,hob,hc0⟩:=hOI4 0 hlen0
     obtain⟨ob',oo',e',_,hcL⟩:=hOI4 L (by omega)
     injection e' with e'
     injection e' with e1' e2'
     subst e1'
     subst e2'
     have hm0:=HOM.out _ (getD_mem hlen0)
     have hmL:=HOM.out _ (getD_mem (show L < ow.length by omega))
     have HA0:=O (show ow.contains (ow.getD 0 0)=true by simpa using getD_mem hlen0)
     have HAL:=O (show ow.contains (ow.getD L 0)=true by simpa using getD_mem (show L < ow.length by omega))
     have HTP2:=O (show ∀ i,fo i=pickG c.N c.ps.length ((c.Fi+round)%65536) slot ((dirF c round st ck slot SL 1 (ow.getD L 0).toNat).f i) ((dirF c round st ck slot SL (-1) (ow.getD 0 0).toNat).f i)from fun i=>by rw [HTP.out i,if_neg HNE.out,show ow.length-1=L by omega])
     clear HTP
     generalize ow.getD 0 0=a0 at *
     generalize ow.getD L 0=aL at *
     obtain⟨a0,rfl⟩:∃ a:Nat,a0=a:=⟨a0.toNat,by omega⟩
     obtain⟨aL,rfl⟩:∃ a:Nat,aL=a:=⟨aL.toNat,by omega⟩
     simp only [Int.toNat_natCast]at HTP2
     have HLast:=O (And.intro (show a0 < c.N by omega) (show aL < c.N by omega))
     have HSd:=O (fun(w':Zw) (hb:Zb w4.heap.size w4 w') (dir:Int) (last:Nat) (hd:dir=1∨dir = -1) (hla:last < c.N) =>
      side_ow (BX:=w.heap.size) (BS:=w.heap.size+1) (BN:=w8.heap.size) (BT:=w3.heap.size) (TB:=gs) (SA:=some ⟨gS,0,none⟩) (SC:=capS) (so:=SL) (dir:=dir) (last:=last) (HN.out.but HS.out (HR4.out.below HRA.out hb).but (HR4.out.below HRA.out hb).qa) HC.out HOW.out
       (by rw [blk_cell (HR4.out.below HRA.out hb).b0];rfl) (by rw [blk_cell (HR4.out.below HRA.out hb).b1];rfl) (by rw [blk_cell (HR4.out.below HRA.out hb).bb];rfl) (by rw [blk_cell ((hb.block _ (heap_lt HT4.out)).trans HT4.out)];rfl) hrb hla HBD.out hsl hd HNE.out HSN.out (HStr.out.below hb) HSS.out (fun i hi=>keep_of (HG4.out i hi) hgs4 hb) (Nat.lt_of_lt_of_le hgs4 hb.size))
     have eL:IntKind.i64.wrap ((ow.length:Int)-1)=(L:Int):=by rw [IntKind.wrap_i64];omega
     have lL:(L:Int) < (ow.length:Int):=by omega
     have l0:(0:Nat) < ow.length:=hlen0
     have hz4:=HR4.out.but.size
     clear hOI4 hm0 hmL hL
     refine wp_region_held_drew (S:=fun w'=>w'.cell? ⟨ob,oo,none⟩=some (Z Y a0)∧w'.cell? ⟨ob,oo+L,none⟩=some (Z Y aL)) (by kernel_rfl) ⟨hc0,hcL⟩ (fun hHeld=>?_)
     refine rgT 0 ?_
     refine rgT 1 ?_
     refine rgT 2 ?_
     refine rgT 3 ?_
     refine rgT 4 ?_
     refine rgT 5 ?_
     refine rgT 6 ?_
     refine rgT 8 ?_
     refine rgT 9 ?_
     refine rgT 10 ?_
     refine rgT 11 ?_
     refine rgR 7 fun K hK=>?_
     go_simp
     refine(HSd.out _ (Zf _ _).drew 1 aL (.inl rfl) HLast.out.2).mono ?_
     rintro e w5 ⟨u1,rfl,hown1,_,hb5'⟩
     have hb5:Zb w4.heap.size w4 w5:=⟨hb5'.os,hb5'.tape,hb5'.output,hb5'.size,hb5'.block⟩
     have HB5:=O hb5
     obtain⟨U1,C1,rfl,hU1g,hU1l,hU1c⟩:=own_some hown1 (by omega)
     change w4.heap.size≤U1 at hU1g
     have HU1:=O hU1c
     have c50:=keep_of hc0 hob hb5
     have c5L:=keep_of hcL hob hb5
     clear hb5' hb5 hown1 hU1c
     go_simp
     refine hK.out _ _ ⟨c50,c5L⟩ (fun hHeld=>?_)
     clear hK K
     refine rgT 13 ?_
     refine rgR 12 fun K hK=>?_
     go_simp
     refine(HSd.out _ HB5.out (-1) a0 (.inr rfl) HLast.out.1).mono ?_
     rintro e w6 ⟨u2,rfl,hown2,_,hb6⟩
     have HB6:=O (HB5.out.trans (hb6.mono HB5.out.size))
     obtain⟨U2,C2,rfl,hU2g,hU2l,hU2c⟩:=own_some hown2 (by omega)
     have HU1':=O (show ∀ j u,(sideCells (dirF c round st ck slot SL 1 aL).f c.N)[j]?=some u→w6.cell? ⟨U1,j,none⟩=some u from fun j u hu=>keep_of (HU1.out j u hu) hU1l hb6)
     have HU2:=O hU2c
     have HR6:=O (HR4.out.below HRA.out HB6.out)
     have hxo:=HRA.out.o ob oo rfl hlen0
     have c60:=keep_of hc0 hob HB6.out
     have c6L:=keep_of hcL hob HB6.out
     have x1:w6.cell? ⟨XB,1,none⟩=some (.slice none 0 0):=by rw [blk_cell HR6.out.x];rfl
     have x2:w6.cell? ⟨XB,2,none⟩=some (.slice none 0 0):=by rw [blk_cell HR6.out.x];rfl
     have yX:∀ o,w6.frozen? ⟨XB,o,none⟩=false:=fun o=>blk_frozen HR6.out.x o
     clear hown2 hb6 HU1 HSd c50 c5L hU2c
     go_simp
     refine hK.out _ _ ⟨c60,c6L⟩ (fun hHeld=>?_)
     clear hK K
     refine rgR 14 fun K hK=>?_
     go_simp
     refine hK.out _ _ ⟨set_keep (q:=⟨XB,1,none⟩) c60 (by show ob≠XB;omega),set_keep (q:=⟨XB,1,none⟩) c6L (by show ob≠XB;omega)⟩ (fun hHeld=>?_)
     clear hK K
     refine rgT 15 ?_
     refine rgR 16 fun K hK=>?_
     go_simp
     refine hK.out _ _ ⟨set_keep (q:=⟨XB,2,none⟩) (set_keep (q:=⟨XB,1,none⟩) c60 (by show ob≠XB;omega)) (by show ob≠XB;omega),set_keep (q:=⟨XB,2,none⟩) (set_keep (q:=⟨XB,1,none⟩) c6L (by show ob≠XB;omega)) (by show ob≠XB;omega)⟩ (fun hHeld=>?_)
     clear hK K
     refine wpAnyH_done (by kernel_rfl) ?_ _
     have hRC:=RunC.of (U1:=U1) (U2:=U2) (C1:=C1) (C2:=C2) HR6.out HRA.out HU1'.out HU2.out (by have:=HRA.out.xb;have:=heap_lt HR4.out.bb;omega) (by have:=HRA.out.xb;have:=heap_lt HR4.out.bb;have:=HB5.out.size;omega)
     have HC7:=O hRC.1
     have HT7:=O hRC.2
     have hU1T:U1≠TB:=by have:=HRA.out.tb;have:=heap_lt HR4.out.bb;omega
     have hU2T:U2≠TB:=by have:=HRA.out.tb;have:=heap_lt HR4.out.bb;have:=HB5.out.size;omega
     have hBBlt:w8.heap.size≤((w6.setCell ⟨XB,1,none⟩ (.slice (some ⟨U1,0,none⟩) c.N C1)).setCell ⟨XB,2,none⟩ (.slice (some ⟨U2,0,none⟩) c.N C2)).heap.size:=by
      have:=heap_lt HR6.out.bb
      simp [World.setCell];omega
     generalize (w6.setCell ⟨XB,1,none⟩ (.slice (some ⟨U1,0,none⟩) c.N C1)).setCell ⟨XB,2,none⟩ (.slice (some ⟨U2,0,none⟩) c.N C2)=w7 at *
     have HN7:=O (HN.out.but HS.out HC7.out.but HC7.out.qa)
     have d0:w7.cell? ⟨w.heap.size,0,none⟩=some (.pointer (some ⟨NB,0,none⟩)):=by rw [blk_cell HC7.out.b0];rfl
     have d18:=HN7.out.n
     clear hRC HR6 HR4 HO4 HB34 HT4 HG4 HU1' HU2 HStr hHeld x1 x2 yX c60 c6L hc0 hcL
     go_wp2_with fail
     clear d0 d18
     go_loopw [111] (fun t wr=>∃ k:Nat,k≤c.N∧t=Z Y k∧RunC w c NB slot m (qF ow st q slot) ow (some ⟨ob,oo,none⟩) XB SB TB U1 U2 C1 C2 (dirF c round st ck slot SL 1 aL).f (dirF c round st ck slot SL (-1) a0).f wr∧TkRow w8.heap.size c ow st fo TB k wr∧w8.heap.size≤wr.heap.size) (fun t _=>c.N-(intOf t).toNat)
     case atStart =>
      refine⟨0,by omega,rfl,HC7.out,fun j hj=>⟨.pointer none,?_,?_⟩,hBBlt⟩
      ·rw [blk_cell HT7.out,made_at _ _ _ hj];simp [Nat.mod_one]
      ·rw [if_neg (by omega)];exact rfl
     case round =>
      obtain⟨k,hk,rfl,hC,hT,hzr⟩:=hrel
      have HCr:=O hC
      have HTr:=O hT
      have hNr:=HN.out.but HS.out hC.but hC.qa
      have d18:=hNr.n
      have d0:wr.cell? ⟨w.heap.size,0,none⟩=some (.pointer (some ⟨NB,0,none⟩)):=by rw [blk_cell hC.b0];rfl
      have HNr:=O hNr
      by_cases hlt:k < c.N
      ·have lk:(k:Int) < (c.N:Int):=by omega
       have ds:=hNr.cs k hlt
       have HCon:=O (Contains (some ⟨ob,oo,none⟩) ow OC (k:Int) wr hC.oi (by omega))
       clear hC hT hNr
       by_cases hst:st k=0
       ·rw [hst]at ds
        have htk:tkF ow st fo k=none:=by unfold tkF;rw [if_pos (.inr hst)]
        have HTk2:=O htk
        clear htk hst HCon
        go_wp2_with fail
        go_roundw
        case rel=>exact⟨k+1,by omega,by go_num,HCr.out,HTr.out.skip HTk2.out,hzr⟩
        case measure=>simp [intOf];omega
       ·have q0:((st k:Int) == 0)=false:=by simp [hst]
        have q0':(st k == 0)=false:=by simp [hst]
        have HSt0:=O hst
        clear hst
        cases hcon:ow.contains (k:Int)
        ·have HConF:=O hcon
         rw [hcon]at HCon
         have htk:tkF ow st fo k=fo k:=by unfold tkF;rw [if_neg (by rw [hcon];simp;exact HSt0.out)]
         have HTk2:=O htk
         clear hcon htk
         go_wp2_with fail
         refine HCon.out.mono ?_
         rintro e wy ⟨rfl,rfl⟩
         go_upto_region 22 with fail
         have hpa:=HPA0.out HNE.out aL a0 k hlt HConF.out
         rw [← HTP2.out k]at hpa
         have HPA:=O hpa
         clear hpa
         have hs1:=sideCells_at (dirF c round st ck slot SL 1 aL).f c.N k hlt
         have hs2:=sideCells_at (dirF c round st ck slot SL (-1) a0).f c.N k hlt
         have v10:=HCr.out.s1 _ _ hs1.1
         have v11:=HCr.out.s1 _ _ hs1.2.1
         have v12:=HCr.out.s1 _ _ hs1.2.2.1
         have v13:=HCr.out.s1 _ _ hs1.2.2.2
         have v20:=HCr.out.s2 _ _ hs2.1
         have v21:=HCr.out.s2 _ _ hs2.2.1
         have v22:=HCr.out.s2 _ _ hs2.2.2.1
         have v23:=HCr.out.s2 _ _ hs2.2.2.2
         have hg1:∃ s1,s1=(dirF c round st ck slot SL 1 aL).f k:=⟨_,rfl⟩
         have hg2:∃ s2,s2=(dirF c round st ck slot SL (-1) a0).f k:=⟨_,rfl⟩
         obtain⟨s1,hg1⟩:=hg1
         obtain⟨s2,hg2⟩:=hg2
         rw [← hg1,← hg2]at HPA
         rw [← hg1]at v10 v11 v12 v13
         rw [← hg2]at v20 v21 v22 v23
         clear hg1 hg2 hs1 hs2
         obtain⟨d1,s1,o1,f1⟩:=s1
         obtain⟨d2,s2,o2,f2⟩:=s2
         dsimp only at v10 v11 v12 v13 v20 v21 v22 v23
         obtain⟨⟨r1,r2,q1,q2,h1,h2,h3,h4',hpk⟩,hf1,hf2⟩:=HPA.out
         have HPk0:=O (fun w'=>Pick c.N c.Pi c.Er c.G c.Fi c.PA c.ps.length c.PC round slot d1 s1 o1 d2 s2 o2 f1 f2 r1 r2 q1 q2 w' (by omega) (by omega) HC.out.cf.f0 HC.out.cf.f1 (by omega) (by omega) hf1 hf2 h1 h2 h3 h4')
         simp only [hpk]at HPk0
         have x1:wr.cell? ⟨XB,1,none⟩=some (.slice (some ⟨U1,0,none⟩) c.N C1):=by rw [blk_cell HCr.out.x];rfl
         have x2:wr.cell? ⟨XB,2,none⟩=some (.slice (some ⟨U2,0,none⟩) c.N C2):=by rw [blk_cell HCr.out.x];rfl
         have b1':wr.cell? ⟨w.heap.size+1,0,none⟩=some (Z Y slot):=by rw [blk_cell HCr.out.b1];rfl
         have lXr:=heap_lt HCr.out.x
         have lh0:=heap_lt HCr.out.b0
         have lh1:=heap_lt HCr.out.b1
         have lU1:U1 < wr.heap.size:=Zl _ _ v10
         have lU2:U2 < wr.heap.size:=Zl _ _ v20
         have lNr:NB < wr.heap.size:=Zl _ _ d18
         have HKc:=O (show ∀ w',Zb wr.heap.size wr w'→(w'.cell? ⟨w.heap.size,0,none⟩=some (.pointer (some ⟨NB,0,none⟩))∧w'.cell? ⟨w.heap.size+1,0,none⟩=some (Z Y slot)∧w'.cell? ⟨NB,0,none⟩=some (Z Y c.N)∧w'.cell? ⟨NB,1,none⟩=some (Z Y c.Pi)∧w'.cell? ⟨NB,2,none⟩=some (Z Y c.Er)∧w'.cell? ⟨NB,3,none⟩=some (Z Y c.G)∧w'.cell? ⟨NB,4,none⟩=some (Z Y c.Fi)∧w'.cell? ⟨NB,5,none⟩=some (.slice c.PA c.ps.length c.PC)∧w'.cell? ⟨NB,17,none⟩=some (Z Y round)∧w'.cell? ⟨XB,1,none⟩=some (.slice (some ⟨U1,0,none⟩) c.N C1)∧w'.cell? ⟨XB,2,none⟩=some (.slice (some ⟨U2,0,none⟩) c.N C2)∧w'.cell? ⟨U1,k*4,none⟩=some (.string d1)∧w'.cell? ⟨U1,k*4+1,none⟩=some (.string s1)∧w'.cell? ⟨U1,k*4+2,none⟩=some (.string o1)∧w'.cell? ⟨U1,k*4+3,none⟩=some (Z Y f1)∧w'.cell? ⟨U2,k*4,none⟩=some (.string d2)∧w'.cell? ⟨U2,k*4+1,none⟩=some (.string s2)∧w'.cell? ⟨U2,k*4+2,none⟩=some (.string o2)∧w'.cell? ⟨U2,k*4+3,none⟩=some (Z Y f2))from fun w' hb =>
          ⟨keep_of d0 lh0 hb,keep_of b1' lh1 hb,keep_of HNr.out.nb.c0 lNr hb,keep_of HNr.out.nb.c1 lNr hb,keep_of HNr.out.nb.c2 lNr hb,keep_of HNr.out.nb.c3 lNr hb,keep_of HNr.out.nb.c4 lNr hb,keep_of HNr.out.nb.c5 lNr hb,keep_of HNr.out.r lNr hb,keep_of x1 lXr hb,keep_of x2 lXr hb,keep_of v10 lU1 hb,keep_of v11 lU1 hb,keep_of v12 lU1 hb,keep_of v13 lU1 hb,keep_of v20 lU2 hb,keep_of v21 lU2 hb,keep_of v22 lU2 hb,keep_of v23 lU2 hb⟩)
         clear v10 v11 v12 v13 v20 v21 v22 v23 x1 x2 b1' d0 h1 h2 h3 h4' hpk ds
         obtain hfn | ⟨f,hff⟩:fo k=none∨∃ f,fo k=some f:=by
          cases fo k with
          | none=>exact .inl rfl
          | some f=>exact .inr ⟨f,rfl⟩
         ·rw [hfn]at HPk0
          have htk:tkF ow st fo k=none:=HTk2.out.trans hfn
          have HPk:=HPk0
          have HTk3:=O htk
          clear hfn htk HPk0
          refine wp_region_held_drew (S:=fun w'=>w'.cell? ⟨w.heap.size,0,none⟩=some (.pointer (some ⟨NB,0,none⟩))∧w'.cell? ⟨w.heap.size+1,0,none⟩=some (Z Y slot)∧w'.cell? ⟨NB,0,none⟩=some (Z Y c.N)∧w'.cell? ⟨NB,1,none⟩=some (Z Y c.Pi)∧w'.cell? ⟨NB,2,none⟩=some (Z Y c.Er)∧w'.cell? ⟨NB,3,none⟩=some (Z Y c.G)∧w'.cell? ⟨NB,4,none⟩=some (Z Y c.Fi)∧w'.cell? ⟨NB,5,none⟩=some (.slice c.PA c.ps.length c.PC)∧w'.cell? ⟨NB,17,none⟩=some (Z Y round)∧w'.cell? ⟨XB,1,none⟩=some (.slice (some ⟨U1,0,none⟩) c.N C1)∧w'.cell? ⟨XB,2,none⟩=some (.slice (some ⟨U2,0,none⟩) c.N C2)∧w'.cell? ⟨U1,k*4,none⟩=some (.string d1)∧w'.cell? ⟨U1,k*4+1,none⟩=some (.string s1)∧w'.cell? ⟨U1,k*4+2,none⟩=some (.string o1)∧w'.cell? ⟨U1,k*4+3,none⟩=some (Z Y f1)∧w'.cell? ⟨U2,k*4,none⟩=some (.string d2)∧w'.cell? ⟨U2,k*4+1,none⟩=some (.string s2)∧w'.cell? ⟨U2,k*4+2,none⟩=some (.string o2)∧w'.cell? ⟨U2,k*4+3,none⟩=some (Z Y f2)) (by kernel_rfl) (HKc.out _ (Zf _ _).drew) (fun hHeld=>?_)
          refine rgT 0 ?_
          refine rgT 1 ?_
          refine rgT 2 ?_
          refine rgT 3 ?_
          refine rgT 4 ?_
          refine rgT 5 ?_
          refine rgT 6 ?_
          refine rgT 7 ?_
          refine rgT 8 ?_
          refine rgT 9 ?_
          refine rgT 10 ?_
          refine rgT 11 ?_
          refine rgT 12 ?_
          refine rgT 13 ?_
          refine rgT 14 ?_
          refine rgT 15 ?_
          refine rgT 16 ?_
          refine rgT 17 ?_
          refine rgT 18 ?_
          refine wpAnyH_ready (rs:=[19,23]) (by kernel_rfl) (by simp) (AllReadyH.cons rfl (fun K hK=>?_) (AllReadyH.cons rfl (fun K hK=>?_) AllReadyH.nil))
          ·go_simp
           refine(HPk.out _).mono ?_
           rintro e w5 ⟨rfl,hb5⟩
           have HB5:=O (show Zb wr.heap.size wr w5 from⟨hb5.os,hb5.tape,hb5.output,hb5.size,hb5.block⟩)
           clear hb5
           go_simp
           refine hK.out _ _ (HKc.out _ HB5.out) (fun hHeld=>?_)
           clear hK K
           refine rgT 20 ?_
           refine rgT 21 ?_
           refine rgT 22 ?_
           refine rgR 23 fun K hK=>?_
           go_simp
           refine hK.out _ _ (HKc.out _ (HB5.out.alloc HB5.out.size _)) (fun hHeld=>?_)
           clear hK K
           refine rgR 24 fun K hK=>?_
           go_simp
           refine hK.out _ _ (HKc.out _ (HB5.out.alloc HB5.out.size _)) (fun hHeld=>?_)
           clear hK K
           refine rgR 25 fun K hK=>?_
           go_simp
           refine hK.out _ _ (HKc.out _ (HB5.out.alloc HB5.out.size _)) (fun hHeld=>?_)
           clear hK K
           refine wpAnyH_done (by kernel_rfl) ?_ _
           have HB6:=O (HB5.out.alloc HB5.out.size (.cells #[Z Y 0,Z Y 0,Z Y 0,Z Y 0,Z Y 0,.slice none 0 0] 118))
           have hp:=Zh w5 (.cells #[Z Y 0,Z Y 0,Z Y 0,Z Y 0,Z Y 0,.slice none 0 0] 118)
           have hpg:wr.heap.size≤w5.heap.size:=HB5.out.size
           generalize w5.heap.size=p at *
           generalize w5.alloc (.cells #[Z Y 0,Z Y 0,Z Y 0,Z Y 0,Z Y 0,.slice none 0 0] 118)=w6 at *
           clear HB5 hHeld
           have hzw:=HB6.out.size
           go_wp2_with fail
           go_roundw
           case rel=>exact⟨k+1,by omega,by go_num,HCr.out.below HB6.out,(HTr.out.keep HB6.out HCr.out.tl).skip HTk3.out,by omega⟩
           case measure=>simp [intOf];omega
          ·go_simp
           have HBa:=O ((Zf wr.heap.size wr).alloc (Zr _) (.cells #[Z Y 0,Z Y 0,Z Y 0,Z Y 0,Z Y 0,.slice none 0 0] 118))
           have hFa:=Zh wr (.cells #[Z Y 0,Z Y 0,Z Y 0,Z Y 0,Z Y 0,.slice none 0 0] 118)
           refine hK.out _ _ (HKc.out _ (by first | exact HBa.out | exact HBa.out.drew)) (fun hHeld=>?_)
           clear hK K
           refine rgR 19 fun K hK=>?_
           go_simp
           refine(HPk.out _).mono ?_
           rintro e w5 ⟨rfl,hb5⟩
           have HB5:=O (Below.trans (show Zb wr.heap.size wr _ from by first | exact HBa.out | exact HBa.out.drew) (hb5.mono (by first | exact HBa.out.size | exact HBa.out.drew.size)))
           have hF5:=(hb5.block wr.heap.size (by first | exact heap_lt hFa | (simp;done))).trans hFa
           have x0:w5.cell? ⟨wr.heap.size,0,none⟩=some (Z Y 0):=by rw [blk_cell hF5];rfl
           have x1:w5.cell? ⟨wr.heap.size,1,none⟩=some (Z Y 0):=by rw [blk_cell hF5];rfl
           have x2:w5.cell? ⟨wr.heap.size,2,none⟩=some (Z Y 0):=by rw [blk_cell hF5];rfl
           have x3:w5.cell? ⟨wr.heap.size,3,none⟩=some (Z Y 0):=by rw [blk_cell hF5];rfl
           have x4:w5.cell? ⟨wr.heap.size,4,none⟩=some (Z Y 0):=by rw [blk_cell hF5];rfl
           have x5:w5.cell? ⟨wr.heap.size,5,none⟩=some (.slice none 0 0):=by rw [blk_cell hF5];rfl
           have yF:∀ o,w5.frozen? ⟨wr.heap.size,o,none⟩=false:=fun o=>blk_frozen hF5 o
           have HF5:=O hF5
           clear hb5 hFa hF5
           go_simp
           refine hK.out _ _ (HKc.out _ HB5.out) (fun hHeld=>?_)
           clear hK K
           refine rgT 20 ?_
           refine rgT 21 ?_
           refine rgT 22 ?_
           refine rgR 24 fun K hK=>?_
           go_simp
           refine hK.out _ _ (HKc.out _ (below6 HB5.out (Zr _))) (fun hHeld=>?_)
           clear hK K
           refine rgR 25 fun K hK=>?_
           go_simp
           refine hK.out _ _ (HKc.out _ (below6 HB5.out (Zr _))) (fun hHeld=>?_)
           clear hK K
           refine wpAnyH_done (by kernel_rfl) ?_ _
           have HB6:=O (show Zb wr.heap.size wr ((((((w5.setCell ⟨wr.heap.size,0,none⟩ (Z Y 0)).setCell ⟨wr.heap.size,1,none⟩ (Z Y 0)).setCell ⟨wr.heap.size,2,none⟩ (Z Y 0)).setCell ⟨wr.heap.size,3,none⟩ (Z Y 0)).setCell ⟨wr.heap.size,4,none⟩ (Z Y 0)).setCell ⟨wr.heap.size,5,none⟩ (.slice none 0 0))from below6 HB5.out (Zr _))
           have hp:((((((w5.setCell ⟨wr.heap.size,0,none⟩ (Z Y 0)).setCell ⟨wr.heap.size,1,none⟩ (Z Y 0)).setCell ⟨wr.heap.size,2,none⟩ (Z Y 0)).setCell ⟨wr.heap.size,3,none⟩ (Z Y 0)).setCell ⟨wr.heap.size,4,none⟩ (Z Y 0)).setCell ⟨wr.heap.size,5,none⟩ (.slice none 0 0)).heap[wr.heap.size]?=_:=made6 HF5.out
           have hpg:wr.heap.size≤wr.heap.size:=Zr _
           generalize ((((((w5.setCell ⟨wr.heap.size,0,none⟩ (Z Y 0)).setCell ⟨wr.heap.size,1,none⟩ (Z Y 0)).setCell ⟨wr.heap.size,2,none⟩ (Z Y 0)).setCell ⟨wr.heap.size,3,none⟩ (Z Y 0)).setCell ⟨wr.heap.size,4,none⟩ (Z Y 0)).setCell ⟨wr.heap.size,5,none⟩ (.slice none 0 0))=w6 at *
           generalize hpp:wr.heap.size=p at hp ⊢
           have hpg:wr.heap.size≤p:=by omega
           clear HB5 hHeld x0 x1 x2 x3 x4 x5 yF HF5 HBa hpp
           have hzw:=HB6.out.size
           go_wp2_with fail
           go_roundw
           case rel=>exact⟨k+1,by omega,by go_num,HCr.out.below HB6.out,(HTr.out.keep HB6.out HCr.out.tl).skip HTk3.out,by omega⟩
           case measure=>simp [intOf];omega
         ·rw [hff]at HPk0
          have HFS:=O hff
          have HPk:=HPk0
          clear hff HPk0
          refine wp_region_held_drew (S:=fun w'=>w'.cell? ⟨w.heap.size,0,none⟩=some (.pointer (some ⟨NB,0,none⟩))∧w'.cell? ⟨w.heap.size+1,0,none⟩=some (Z Y slot)∧w'.cell? ⟨NB,0,none⟩=some (Z Y c.N)∧w'.cell? ⟨NB,1,none⟩=some (Z Y c.Pi)∧w'.cell? ⟨NB,2,none⟩=some (Z Y c.Er)∧w'.cell? ⟨NB,3,none⟩=some (Z Y c.G)∧w'.cell? ⟨NB,4,none⟩=some (Z Y c.Fi)∧w'.cell? ⟨NB,5,none⟩=some (.slice c.PA c.ps.length c.PC)∧w'.cell? ⟨NB,17,none⟩=some (Z Y round)∧w'.cell? ⟨XB,1,none⟩=some (.slice (some ⟨U1,0,none⟩) c.N C1)∧w'.cell? ⟨XB,2,none⟩=some (.slice (some ⟨U2,0,none⟩) c.N C2)∧w'.cell? ⟨U1,k*4,none⟩=some (.string d1)∧w'.cell? ⟨U1,k*4+1,none⟩=some (.string s1)∧w'.cell? ⟨U1,k*4+2,none⟩=some (.string o1)∧w'.cell? ⟨U1,k*4+3,none⟩=some (Z Y f1)∧w'.cell? ⟨U2,k*4,none⟩=some (.string d2)∧w'.cell? ⟨U2,k*4+1,none⟩=some (.string s2)∧w'.cell? ⟨U2,k*4+2,none⟩=some (.string o2)∧w'.cell? ⟨U2,k*4+3,none⟩=some (Z Y f2)) (by kernel_rfl) (HKc.out _ (Zf _ _).drew) (fun hHeld=>?_)
          refine rgT 0 ?_
          refine rgT 1 ?_
          refine rgT 2 ?_
          refine rgT 3 ?_
          refine rgT 4 ?_
          refine rgT 5 ?_
          refine rgT 6 ?_
          refine rgT 7 ?_
          refine rgT 8 ?_
          refine rgT 9 ?_
          refine rgT 10 ?_
          refine rgT 11 ?_
          refine rgT 12 ?_
          refine rgT 13 ?_
          refine rgT 14 ?_
          refine rgT 15 ?_
          refine rgT 16 ?_
          refine rgT 17 ?_
          refine rgT 18 ?_
          refine wpAnyH_ready (rs:=[19,23]) (by kernel_rfl) (by simp) (AllReadyH.cons rfl (fun K hK=>?_) (AllReadyH.cons rfl (fun K hK=>?_) AllReadyH.nil))
          ·go_simp
           refine(HPk.out _).mono ?_
           rintro e w5 ⟨EA,EC,rfl,hE5,hEb,hb5⟩
           have HB5:=O (show Zb wr.heap.size wr w5 from⟨hb5.os,hb5.tape,hb5.output,hb5.size,hb5.block⟩)
           clear hb5
           have HE5:=O hE5
           have HEb:=O (show ∀ b off,EA=some ⟨b,off,none⟩→0 < f.echo.length→wr.heap.size≤b from hEb)
           clear hE5 hEb
           go_simp
           refine hK.out _ _ (HKc.out _ HB5.out) (fun hHeld=>?_)
           clear hK K
           refine rgT 20 ?_
           refine rgT 21 ?_
           refine rgT 22 ?_
           refine rgR 23 fun K hK=>?_
           go_simp
           refine hK.out _ _ (HKc.out _ (HB5.out.alloc HB5.out.size _)) (fun hHeld=>?_)
           clear hK K
           refine rgR 24 fun K hK=>?_
           go_simp
           refine hK.out _ _ (HKc.out _ (HB5.out.alloc HB5.out.size _)) (fun hHeld=>?_)
           clear hK K
           refine rgR 25 fun K hK=>?_
           go_simp
           refine hK.out _ _ (HKc.out _ (HB5.out.alloc HB5.out.size _)) (fun hHeld=>?_)
           clear hK K
           refine wpAnyH_done (by kernel_rfl) ?_ _
           have HB6:=O (HB5.out.alloc HB5.out.size (.cells #[Z Y f.kind,Z Y f.round,Z Y f.slot,Z Y f.pk,Z Y f.pv,.slice EA f.echo.length EC] 118))
           have hp:=Zh w5 (.cells #[Z Y f.kind,Z Y f.round,Z Y f.slot,Z Y f.pk,Z Y f.pv,.slice EA f.echo.length EC] 118)
           have HE6:=O (Items.below HE5.out (show Zb w5.heap.size w5 (w5.alloc (.cells #[Z Y f.kind,Z Y f.round,Z Y f.slot,Z Y f.pk,Z Y f.pv,.slice EA f.echo.length EC] 118))from(Zf _ _).alloc (Zr _) _))
           have hpg:wr.heap.size≤w5.heap.size:=HB5.out.size
           generalize w5.heap.size=p at *
           generalize w5.alloc (.cells #[Z Y f.kind,Z Y f.round,Z Y f.slot,Z Y f.pk,Z Y f.pv,.slice EA f.echo.length EC] 118)=w6 at *
           clear HB5 hHeld
           clear HE5
           have hzw:=HB6.out.size
           have HFm:=O (fr_mem (base:=w8.heap.size) hp HE6.out (fun b off e hl=>by have:=HEb.out b off e hl;omega) (by omega))
           have HC6:=O (HCr.out.below HB6.out)
           have HT6:=O (HTr.out.keep HB6.out HCr.out.tl)
           have x3:w6.cell? ⟨XB,3,none⟩=some (.slice (some ⟨TB,0,none⟩) c.N c.N):=by rw [blk_cell HC6.out.x];rfl
           obtain⟨tv,htv,_⟩:=HT6.out k hlt
           have yT:=HC6.out.tf k
           clear hp
           go_wp2_with fail
           go_roundw
           case rel=>exact⟨k+1,by omega,by go_num,HC6.out.set HRA.out hU1T hU2T k _,HT6.out.set hlt (by rw [HTk2.out,HFS.out];exact⟨_,rfl,HFm.out⟩) HRA.out.tb,by simp [World.setCell];omega⟩
           case measure=>simp [intOf];omega
          ·go_simp
           have HBa:=O ((Zf wr.heap.size wr).alloc (Zr _) (.cells #[Z Y 0,Z Y 0,Z Y 0,Z Y 0,Z Y 0,.slice none 0 0] 118))
           have hFa:=Zh wr (.cells #[Z Y 0,Z Y 0,Z Y 0,Z Y 0,Z Y 0,.slice none 0 0] 118)
           refine hK.out _ _ (HKc.out _ (by first | exact HBa.out | exact HBa.out.drew)) (fun hHeld=>?_)
           clear hK K
           refine rgR 19 fun K hK=>?_
           go_simp
           refine(HPk.out _).mono ?_
           rintro e w5 ⟨EA,EC,rfl,hE5,hEb,hb5⟩
           have HB5:=O (Below.trans (show Zb wr.heap.size wr _ from by first | exact HBa.out | exact HBa.out.drew) (hb5.mono (by first | exact HBa.out.size | exact HBa.out.drew.size)))
           have hF5:=(hb5.block wr.heap.size (by first | exact heap_lt hFa | (simp;done))).trans hFa
           have HE5:=O hE5
           have HEb:=O (show ∀ b off,EA=some ⟨b,off,none⟩→0 < f.echo.length→wr.heap.size < b from fun b off e hl=>by have:=hEb b off e hl;simp at this;omega)
           clear hE5 hEb
           have x0:w5.cell? ⟨wr.heap.size,0,none⟩=some (Z Y 0):=by rw [blk_cell hF5];rfl
           have x1:w5.cell? ⟨wr.heap.size,1,none⟩=some (Z Y 0):=by rw [blk_cell hF5];rfl
           have x2:w5.cell? ⟨wr.heap.size,2,none⟩=some (Z Y 0):=by rw [blk_cell hF5];rfl
           have x3:w5.cell? ⟨wr.heap.size,3,none⟩=some (Z Y 0):=by rw [blk_cell hF5];rfl
           have x4:w5.cell? ⟨wr.heap.size,4,none⟩=some (Z Y 0):=by rw [blk_cell hF5];rfl
           have x5:w5.cell? ⟨wr.heap.size,5,none⟩=some (.slice none 0 0):=by rw [blk_cell hF5];rfl
           have yF:∀ o,w5.frozen? ⟨wr.heap.size,o,none⟩=false:=fun o=>blk_frozen hF5 o
           have HF5:=O hF5
           clear hb5 hFa hF5
           go_simp
           refine hK.out _ _ (HKc.out _ HB5.out) (fun hHeld=>?_)
           clear hK K
           refine rgT 20 ?_
           refine rgT 21 ?_
           refine rgT 22 ?_
           refine rgR 24 fun K hK=>?_
           go_simp
           refine hK.out _ _ (HKc.out _ (below6 HB5.out (Zr _))) (fun hHeld=>?_)
           clear hK K
           refine rgR 25 fun K hK=>?_
           go_simp
           refine hK.out _ _ (HKc.out _ (below6 HB5.out (Zr _))) (fun hHeld=>?_)
           clear hK K
           refine wpAnyH_done (by kernel_rfl) ?_ _
           have HB6:=O (show Zb wr.heap.size wr ((((((w5.setCell ⟨wr.heap.size,0,none⟩ (Z Y f.kind)).setCell ⟨wr.heap.size,1,none⟩ (Z Y f.round)).setCell ⟨wr.heap.size,2,none⟩ (Z Y f.slot)).setCell ⟨wr.heap.size,3,none⟩ (Z Y f.pk)).setCell ⟨wr.heap.size,4,none⟩ (Z Y f.pv)).setCell ⟨wr.heap.size,5,none⟩ (.slice EA f.echo.length EC))from below6 HB5.out (Zr _))
           have hp:((((((w5.setCell ⟨wr.heap.size,0,none⟩ (Z Y f.kind)).setCell ⟨wr.heap.size,1,none⟩ (Z Y f.round)).setCell ⟨wr.heap.size,2,none⟩ (Z Y f.slot)).setCell ⟨wr.heap.size,3,none⟩ (Z Y f.pk)).setCell ⟨wr.heap.size,4,none⟩ (Z Y f.pv)).setCell ⟨wr.heap.size,5,none⟩ (.slice EA f.echo.length EC)).heap[wr.heap.size]?=_:=made6 HF5.out
           have HE6:=O (show Items ((((((w5.setCell ⟨wr.heap.size,0,none⟩ (Z Y f.kind)).setCell ⟨wr.heap.size,1,none⟩ (Z Y f.round)).setCell ⟨wr.heap.size,2,none⟩ (Z Y f.slot)).setCell ⟨wr.heap.size,3,none⟩ (Z Y f.pk)).setCell ⟨wr.heap.size,4,none⟩ (Z Y f.pv)).setCell ⟨wr.heap.size,5,none⟩ (.slice EA f.echo.length EC)) EA f.echo from items6' HE5.out (fun b off e hl=>by have:=HEb.out b off e hl;omega))
           have HEb:=O (show ∀ b off,EA=some ⟨b,off,none⟩→0 < f.echo.length→wr.heap.size≤b from fun b off e hl=>Nat.le_of_lt (HEb.out b off e hl))
           have hpg:wr.heap.size≤wr.heap.size:=Zr _
           generalize ((((((w5.setCell ⟨wr.heap.size,0,none⟩ (Z Y f.kind)).setCell ⟨wr.heap.size,1,none⟩ (Z Y f.round)).setCell ⟨wr.heap.size,2,none⟩ (Z Y f.slot)).setCell ⟨wr.heap.size,3,none⟩ (Z Y f.pk)).setCell ⟨wr.heap.size,4,none⟩ (Z Y f.pv)).setCell ⟨wr.heap.size,5,none⟩ (.slice EA f.echo.length EC))=w6 at *
           generalize hpp:wr.heap.size=p at hp ⊢
           have hpg:wr.heap.size≤p:=by omega
           clear HB5 hHeld x0 x1 x2 x3 x4 x5 yF HF5 HBa hpp
           clear HE5
           have hzw:=HB6.out.size
           have HFm:=O (fr_mem (base:=w8.heap.size) hp HE6.out (fun b off e hl=>by have:=HEb.out b off e hl;omega) (by omega))
           have HC6:=O (HCr.out.below HB6.out)
           have HT6:=O (HTr.out.keep HB6.out HCr.out.tl)
           have x3:w6.cell? ⟨XB,3,none⟩=some (.slice (some ⟨TB,0,none⟩) c.N c.N):=by rw [blk_cell HC6.out.x];rfl
           obtain⟨tv,htv,_⟩:=HT6.out k hlt
           have yT:=HC6.out.tf k
           clear hp
           go_wp2_with fail
           go_roundw
           case rel=>exact⟨k+1,by omega,by go_num,HC6.out.set HRA.out hU1T hU2T k _,HT6.out.set hlt (by rw [HTk2.out,HFS.out];exact⟨_,rfl,HFm.out⟩) HRA.out.tb,by simp [World.setCell];omega⟩
           case measure=>simp [intOf];omega
        ·have htk:tkF ow st fo k=none:=by unfold tkF;rw [if_pos (.inl hcon)]
         rw [hcon]at HCon
         have HTk2:=O htk
         clear htk hcon
         go_wp2_with fail
         refine HCon.out.mono ?_
         rintro e wy ⟨rfl,rfl⟩
         go_wp2_with fail
         go_roundw
         case rel=>exact⟨k+1,by omega,by go_num,HCr.out,HTr.out.skip HTk2.out,hzr⟩
         case measure=>simp [intOf];omega
      ·obtain rfl:k=c.N:=by omega
       have lR:XB≠w.heap.size+2:=by have:=HRA.out.x;omega
       have lR':w.heap.size+2≠XB:=Ne.symm lR
       have hRb:=HCr.out.b2
       have hXx:=HCr.out.x
       have x0:wr.cell? ⟨XB,0,none⟩=some (.slice (some ⟨SB,0,none⟩) c.N c.N):=by rw [blk_cell hXx];rfl
       have x1:wr.cell? ⟨XB,1,none⟩=some (.slice (some ⟨U1,0,none⟩) c.N C1):=by rw [blk_cell hXx];rfl
       have x2:wr.cell? ⟨XB,2,none⟩=some (.slice (some ⟨U2,0,none⟩) c.N C2):=by rw [blk_cell hXx];rfl
       have x3:wr.cell? ⟨XB,3,none⟩=some (.slice (some ⟨TB,0,none⟩) c.N c.N):=by rw [blk_cell hXx];rfl
       have z0:wr.cell? ⟨w.heap.size+2,0,none⟩=some (.slice none 0 0):=by rw [blk_cell hRb];rfl
       have z1:wr.cell? ⟨w.heap.size+2,1,none⟩=some (.slice none 0 0):=by rw [blk_cell hRb];rfl
       have z2:wr.cell? ⟨w.heap.size+2,2,none⟩=some (.slice none 0 0):=by rw [blk_cell hRb];rfl
       have z3:wr.cell? ⟨w.heap.size+2,3,none⟩=some (.slice none 0 0):=by rw [blk_cell hRb];rfl
       have yZ:∀ o,wr.frozen? ⟨w.heap.size+2,o,none⟩=false:=fun o=>blk_frozen hRb o
       clear hC hT hNr hXx hRb d18 d0
       go_wp2_with fail
       refine bodyPost_ret (v :=.agg #[.slice (some ⟨SB,0,none⟩) c.N c.N,.slice (some ⟨U1,0,none⟩) c.N C1,.slice (some ⟨U2,0,none⟩) c.N C2,.slice (some ⟨TB,0,none⟩) c.N c.N]) (by simp [results,Tryz.results34,go_sem,z0,z1,z2,z3]) rfl ?_
       refine run_end (W:=wr) rfl HCr.out.but (fun i hi=>HCr.out.qa i hi) ?_ (fun i hi=>HRA.out.q i hi) ?_
       ·refine rowMem_mono (base:=w.heap.size+3) ⟨by have:=HRA.out.t;omega,HCr.out.tl,fun i hi=>?_⟩ (Zr _)
        obtain⟨v,h1,h2⟩:=HTr.out i hi
        rw [if_pos hi]at h2
        exact⟨v,h1,tkMem_mono h2 (by have:=HRA.out.t;have:=HRA.out.tb;omega)⟩
       ·repeat refine But.setCell ?_ (by left;show w.heap.size+1+1=w.heap.size+2;omega) _
        exact But.refl _ _
end A53
namespace A65
open Go.RowKit A8 A9 A14 A18 A22 A25 A33 A38 A39 A40 A41 A45 A48 E2 A50 A51 A53 A54 A55 A56 A57 A58 A59 A60 A62 A63 A64
def qN (c:NC) (round:Nat) (st:Nat→Nat) (q:Nat→Nat→Option Nat) (s:Nat):Nat→Nat→Option Nat:=qS c (stF c round st) (qK c.cl round q c.cl.length) s
noncomputable def tkN (c:NC) (round:Nat) (st:Nat→Nat) (ck:Nat→Int) (q:Nat→Nat→Option Nat) (g:Nat→Option (List (Nat×Nat))):Nat→Nat→Option Fr:=tkS c (stF c round st) (fun s=>tkP c round s (stF c round st) (ckF c round st ck) (qN c round st q s) g)
noncomputable def hdN (c:NC) (round:Nat) (st:Nat→Nat) (ck:Nat→Int) (q:Nat→Nat→Option Nat) (g:Nat→Option (List (Nat×Nat))) (i:Nat):List Hd:=hdK (fun k=>tkN c round st ck q g k i) (fun k=>devF c round (ckF c round st ck) k i) c.N
noncomputable def dN (c:NC) (round:Nat) (st:Nat→Nat) (ck:Nat→Int) (q:Nat→Nat→Option Nat) (g:Nat→Option (List (Nat×Nat))) (i:Nat):Int:=syncF (stF c round st i) i (hdN c round st ck q g i)
noncomputable def nxN (c:NC) (round:Nat) (st tm was:Nat→Nat) (ck:Nat→Int) (q:Nat→Nat→Option Nat) (g:Nat→Option (List (Nat×Nat))) (n:Nat→Nat) (xs:Nat→List Value):Nx where
 st i:=if stF c round st i=0 then 0 else(stNext c.N i (stF c round st i) (tmF c round tm i) (hdN c round st ck q g i).length).1
 tm i:=if stF c round st i=0 then tmF c round tm i else(stNext c.N i (stF c round st i) (tmF c round tm i) (hdN c round st ck q g i).length).2
 was i:=if stF c round st i=0 then 0 else stF c round st i
 ck i:=if stF c round st i=0 then ckF c round st ck i else ckF c round st ck i+dN c round st ck q g i
 g i:=if stF c round st i=0 then g i else some (gotE (tkN c round st ck q g) i (c.N+c.ps.length))
 n i:=if stF c round st i=4∧was i=4 then n i+(c.N+c.ps.length)else n i
 xs i:=if stF c round st i=4∧was i=4 then xs i ++ lineCells ((round:Int)-1) (lineF c.N c.ps (tkN c round st ck q g) ((g i).getD []) i) (c.N+c.ps.length)else xs i
structure StepOk (c:NC) (round:Nat) (st tm was:Nat→Nat) (ck:Nat→Int) (q:Nat→Nat→Option Nat) (g:Nat→Option (List (Nat×Nat))) (n:Nat→Nat):Prop where
 lt:(round:Int) < c.rounds
 b0:∀ i,i < c.N → -1000000≤ck i∧ck i≤1000000
 b1:∀ i,i < c.N → -1000000≤ckF c round st ck i∧ckF c round st ck i≤1000000
 s4:∀ i,i < c.N→stF c round st i≤4
 t4:∀ i,i < c.N→tmF c round tm i≤400
 cl:∀ k,k < c.cl.length→(c.cl.getD k ⟨0,0,0,0⟩).round=round→(c.cl.getD k ⟨0,0,0,0⟩).node < c.N∧(c.cl.getD k ⟨0,0,0,0⟩).pair=0∧(c.cl.getD k ⟨0,0,0,0⟩).v≤255∧stF c round st (c.cl.getD k ⟨0,0,0,0⟩).node≠0∧qK c.cl round q k (c.cl.getD k ⟨0,0,0,0⟩).node (c.cl.getD k ⟨0,0,0,0⟩).node=none
 fr:∀ s,s < c.N+c.ps.length→∀ i,i < c.N→(owners c.N c.ps s).contains (i:Int)=true→∀ f,ownF c round s (stF c round st) (qN c round st q s) g i=some f→FrOk c.N c.ps.length f
 dv:∀ i k,i < c.N→k < c.N → -1000000≤devF c round (ckF c round st ck) k i∧devF c round (ckF c round st ck) k i≤1000000
 lg:∀ i,i < c.N→stF c round st i=4→was i=4→1≤round∧n i≤4000∧∃ gl,g i=some gl
theorem tkN_fr {c:NC} {round:Nat} {st:Nat→Nat} {ck:Nat→Int} {q:Nat→Nat→Option Nat} {g:Nat→Option (List (Nat×Nat))} {s i:Nat} {f:Fr} (h:tkN c round st ck q g s i=some f):FrOk c.N c.ps.length f∧(f.round:Int)=(c.Fi+round)%65536∧(f.slot:Int)=s:=by
 unfold tkN tkS tkF at h
 split at h
 ·cases h
 ·change tkP c round s (stF c round st) (ckF c round st ck) (qN c round st q s) g i=some f at h
  unfold tkP at h
  split at h
  ·cases h
  ·exact pick_ok h
theorem hdK_dev {tk:Nat→Option Fr} {dv:Nat→Int} {lo hi:Int}:∀ n,(∀ k,k < n→lo≤dv k∧dv k≤hi)→∀ x ∈ hdK tk dv n,lo≤x.dev∧x.dev≤hi
 | 0,_,x,hx=>by simp [hdK]at hx
 | n+1,h,x,hx=>by
  have ih:=hdK_dev (tk:=tk) n (fun k hk=>h k (by omega))
  unfold hdK at hx
  split at hx
  ·exact ih x hx
  ·rw [List.mem_append,List.mem_singleton]at hx
   rcases hx with hx | hx
   ·exact ih x hx
   ·rw [hx];exact h n (by omega)
theorem dataK_mem {l:List Hd} {z:Int}:∀ k,k≤l.length→z ∈ dataK l k→∃ x ∈ l,x.dev=z
 | 0,_,h=>by simp [dataK]at h
 | k+1,hk,h=>by
  have hm:l.getD k Hd.none ∈ l:=by rw [List.getD_eq_getElem?_getD,List.getElem?_eq_getElem (by omega)];exact List.getElem_mem _
  unfold dataK at h
  split at h
  ·rw [List.mem_append,List.mem_singleton]at h
   rcases h with h | h
   ·exact dataK_mem k (by omega) h
   ·exact⟨_,hm,h.symm⟩
  ·exact dataK_mem k (by omega) h
theorem mid_le {zs:List Int} {lo hi:Int} (hn:2≤zs.length) (h:∀ z ∈ zs,lo≤z∧z≤hi):lo≤midF zs∧midF zs≤hi:=by
 have h1:=h _ (nth_mem (zs:=zs) (k:=1) (by omega))
 have h2:=h _ (nth_mem (zs:=zs) (k:=zs.length-2) (by omega))
 unfold midF
 omega
theorem chosen_le {l:List Hd} {ahead:Nat→Bool} {lo hi:Int} (h0:lo≤0∧0≤hi) (h:∀ x ∈ l,lo≤x.dev∧x.dev≤hi):lo≤chosenG l ahead∧chosenG l ahead≤hi:=by
 have hd:∀ z ∈ dataK l l.length,lo≤z∧z≤hi:=fun z hz=>by
  obtain⟨x,hx,e⟩:=dataK_mem _ (Zr _) hz
  rw [← e];exact h x hx
 unfold chosenG
 split
 ·next x r e=>exact hd x (by rw [e];exact List.mem_cons_self ..)
 ·cases l with
  | nil=>exact h0
  | cons x r =>
   show lo≤(if ahead x.node then 0 else x.dev)∧(if ahead x.node then 0 else x.dev)≤hi
   split
   ·exact h0
   ·exact h x (List.mem_cons_self ..)
theorem sync_le {st i:Nat} {l:List Hd} {lo hi:Int} (h0:lo≤0∧0≤hi) (h:∀ x ∈ l,lo≤x.dev∧x.dev≤hi):lo≤syncF st i l∧syncF st i l≤hi:=by
 have hd:∀ z ∈ dataK l l.length,lo≤z∧z≤hi:=fun z hz=>by
  obtain⟨x,hx,e⟩:=dataK_mem _ (Zr _) hz
  rw [← e];exact h x hx
 unfold syncF
 split
 ·split
  ·refine mid_le (by rw [List.length_append,List.length_singleton];omega) (fun z hz=>?_)
   rw [List.mem_append,List.mem_singleton]at hz
   rcases hz with hz | hz
   ·exact hd z hz
   ·rw [hz];exact h0
  ·exact h0
 ·split
  ·split
   ·exact mid_le (by omega) hd
   ·exact chosen_le h0 h
  ·split <;> exact chosen_le h0 h
theorem sync_is {st i:Nat} {l:List Hd} (hst:1≤st∧st≤4) (hlen:l.length≤100) (h:∀ x ∈ l,-1000000≤x.dev∧x.dev≤1000000):SyncIs st i l (syncF st i l):=fun A C w hl =>
 step_any st i A l C w hst hl hlen (fun z hz=>by
  obtain⟨x,hx,e⟩:=dataK_mem _ (Zr _) hz
  rw [← e];exact h x hx)
theorem NetAt.reset {w wr:Zw} {c:NC} {NB LO ND base round:Nat} {m:Nm} {lv:Nat→Value} {st tm was:Nat→Nat} {ck:Nat→Int} {q:Nat→Nat→Option Nat} {g:Nat→Option (List (Nat×Nat))} {n:Nat→Nat} {xs:Nat→List Value}
 (H:NetAt w c NB LO ND base round m lv st tm was ck q g n xs) (R:RstTo c ND round m.Q m.gv st tm ck q w wr) :
 NetAt wr c NB LO ND base round ⟨m.Q,m.QC,gR c round st (.slice none 0 0) m.gv⟩ lv (stR c round st) (tmR c round st tm) was ck (qR c round st q) (gR c round st none g) n xs:=by
 have lNB:NB < w.heap.size:=Zl w _ H.nd.r
 have nNB:¬(NB=ND∨∃ i,i < c.N∧NB=m.Q i):=fun e=>e.elim H.sep.nn (fun⟨i,hi,e⟩=>H.sep.qn i hi e.symm)
 have kN:∀ o,wr.cell? ⟨NB,o,none⟩=w.cell? ⟨NB,o,none⟩:=fun o=>R.but.cell (p:=⟨NB,o,none⟩) lNB nNB
 have gv:∀ i b C,i < c.N→gR c round st (.slice none 0 0) m.gv i=.slice (some ⟨b,0,none⟩) (c.N+c.ps.length) C→m.gv i=.slice (some ⟨b,0,none⟩) (c.N+c.ps.length) C:=fun i b C hi e=>by
  unfold gR at e
  split at e
  ·injection e with e _ _;cases e
  ·exact e
 refine⟨⟨H.nd.nb.keep (R.but.block NB lNB nNB),H.nd.lo.below (R.but.to_below H.nd.lo.le (fun k e=>e.elim (fun e=>by rw [e];exact H.sep.ld) (fun⟨i,hi,e⟩=>by rw [e];exact H.sep.lq i hi))),(kN _).trans H.nd.r,(kN _).trans H.nd.n,R.sc.s,R.sc.c,fun i hi=>(R.other _ (by omega) (by omega) (by omega)).trans (H.nd.cq i hi),R.cg,fun i hi=>?_,R.qa⟩,
  ⟨H.sep.nn,H.sep.ln,H.sep.ld,H.sep.lq,H.sep.qn,H.sep.qd,H.sep.qq,fun i j b C hi hj e=>H.sep.gq i j b C hi hj (gv i b C hi e)⟩,fun i b C hi e=>H.ng i b C hi (gv i b C hi e),fun i b C hi e=>H.gd i b C hi (gv i b C hi e),R.sc.t,fun i hi=>(R.other _ (by omega) (by omega) (by omega)).trans (H.cw i hi),fun i hi=>(R.other _ (by omega) (by omega) (by omega)).trans (H.cl i hi),
  fun i hi=>⟨(H.ls i hi).nb,(H.ls i hi).nd,(H.ls i hi).q,fun j b C hj e=>(H.ls i hi).g j b C hj (gv j b C hj e),(H.ls i hi).lt⟩,fun i hi=>own_but2 (H.own i hi) R.but (fun b e h=>h.elim (fun h=>(H.ls i hi).nd (h ▸ e)) (fun⟨j,hj,h⟩=>(H.ls i hi).q j hj (h ▸ e))),H.ne,Nat.le_trans H.base R.but.size,?_,?_,fun o=>(R.but.frozen (p:=⟨NB,o,none⟩) lNB nNB).trans (H.fN o),fun o=>(R.fr o).trans (H.fD o)⟩
 ·show GotAt wr (gR c round st (.slice none 0 0) m.gv i) _ (gR c round st none g i)
  unfold gR
  split
  ·rfl
  ·exact gotAt_but (H.nd.ga i hi) R.but (fun b C e h=>h.elim (fun h=>H.gd i b C hi e h) (fun⟨j,hj,h⟩=>H.sep.gq i j b C hi hj e h))
 ·obtain⟨u,hu⟩:=H.c19;exact⟨u,(kN _).trans hu⟩
 ·obtain⟨u,hu⟩:=H.c20;exact⟨u,(kN _).trans hu⟩
theorem NetAt.sepR {w:Zw} {c:NC} {NB LO ND base round:Nat} {m:Nm} {lv:Nat→Value} {st tm was:Nat→Nat} {ck:Nat→Int} {q:Nat→Nat→Option Nat} {g:Nat→Option (List (Nat×Nat))} {n:Nat→Nat} {xs:Nat→List Value}
 (H:NetAt w c NB LO ND base round m lv st tm was ck q g n xs):Sep c NB LO ND ⟨m.Q,m.QC,gR c round st (.slice none 0 0) m.gv⟩∧∀ i b C,i < c.N→gR c round st (.slice none 0 0) m.gv i=.slice (some ⟨b,0,none⟩) (c.N+c.ps.length) C→b≠NB:=by
 have gv:∀ i b C,i < c.N→gR c round st (.slice none 0 0) m.gv i=.slice (some ⟨b,0,none⟩) (c.N+c.ps.length) C→m.gv i=.slice (some ⟨b,0,none⟩) (c.N+c.ps.length) C:=fun i b C hi e=>by
  unfold gR at e
  split at e
  ·injection e with e _ _;cases e
  ·exact e
 exact⟨⟨H.sep.nn,H.sep.ln,H.sep.ld,H.sep.lq,H.sep.qn,H.sep.qd,H.sep.qq,fun i j b C hi hj e=>H.sep.gq i j b C hi hj (gv i b C hi e)⟩,fun i b C hi e=>H.ng i b C hi (gv i b C hi e)⟩
theorem RstTo.of {c:NC} {ND round:Nat} {Q:Nat→Nat} {gv:Nat→Value} {st tm:Nat→Nat} {ck:Nat→Int} {q:Nat→Nat→Option Nat} {w w' wr:Zw} (R:RstTo c ND round Q gv st tm ck q w' wr) (hb:Zb w.heap.size w w') (hl:ND < w.heap.size):RstTo c ND round Q gv st tm ck q w wr :=
 ⟨(But.of_below hb (Zr _)).trans R.but,R.sc,R.cg,fun j a b d=>(R.other j a b d).trans (hb.cell (p:=⟨ND,j,none⟩) hl),fun j=>(R.fr j).trans (hb.frozen (p:=⟨ND,j,none⟩) hl),R.qa⟩
def PowAt (c:NC) (ND round:Nat) (m:Nm) (st tm st1 tm1:Nat→Nat) (ck:Nat→Int) (q:Nat→Nat→Option Nat) (w w1:Zw):Prop:=∃ wr,RstTo c ND round m.Q m.gv st tm ck q w wr∧Sc w1 ND c.N (stF c round st1) (tmF c round tm1) (ckF c round st1 ck)∧ScBut wr w1 ND
theorem net_round (c:NC) (NB LO ND base round:Nat) (m:Nm) (lv:Nat→Value) (st tm was:Nat→Nat) (ck:Nat→Int) (q:Nat→Nat→Option Nat) (g:Nat→Option (List (Nat×Nat))) (n:Nat→Nat) (xs:Nat→List Value) (w:Zw) (hc:NOk c)
 (H0:NetAt w c NB LO ND base round m lv st tm was ck q g n xs) (K:StepOk c round (stR c round st) (tmR c round st tm) was ck (qR c round st q) (gR c round st none g) n) :
 Zc Zp 15 #[.pointer (some ⟨NB,0,none⟩)] w fun e w'=>e=.returned (.bool true)∧Zb LO w w'∧∃ ND' base' m' lv',NetAt w' c NB LO ND' base' (round+1) m' lv' (nxN c round (stR c round st) (tmR c round st tm) was ck (qR c round st q) (gR c round st none g) n xs).st (nxN c round (stR c round st) (tmR c round st tm) was ck (qR c round st q) (gR c round st none g) n xs).tm (nxN c round (stR c round st) (tmR c round st tm) was ck (qR c round st q) (gR c round st none g) n xs).was (nxN c round (stR c round st) (tmR c round st tm) was ck (qR c round st q) (gR c round st none g) n xs).ck (qN c round (stR c round st) (qR c round st q) (c.N+c.ps.length)) (nxN c round (stR c round st) (tmR c round st tm) was ck (qR c round st q) (gR c round st none g) n xs).g (nxN c round (stR c round st) (tmR c round st tm) was ck (qR c round st q) (gR c round st none g) n xs).n (nxN c round (stR c round st) (tmR c round st tm) was ck (qR c round st q) (gR c round st none g) n xs).xs:=by
 have n0:=hc.cf.n0
 have n1:=hc.cf.n1
 have hr2:=hc.rounds1
 have hrb:round≤900:=by have:=K.lt;omega
 have lNB:NB < w.heap.size:=Zl w _ H0.nd.r
 have lND:ND < w.heap.size:=Zl w _ (H0.nd.cs 0 (by omega))
 have h16:=H0.nd.nb.c16
 have h17:=H0.nd.r
 have hLO:=H0.nd.lo.le
 have HPw:∀ w',Zb w.heap.size w w'→Zc Zp 32 #[.pointer (some ⟨NB,0,none⟩)] w' fun e w1=>e=.returned (.tuple #[])∧PowAt c ND round m st tm (stR c round st) (tmR c round st tm) ck q w w1:=fun w' hb=>by
  have hn:=H0.nd.below H0.sep hb
  have kD:∀ o v,w.cell? ⟨ND,o,none⟩=some v→w'.cell? ⟨ND,o,none⟩=some v:=fun o v h=>keep_of h lND hb
  refine(net_power c NB LO ND round m.Q m.QC m.gv st tm ck q w' hc hn.nb hn.lo H0.sep.ld hn.r hn.n ⟨hn.cs,fun i hi=>kD _ _ (H0.ct i hi),hn.cc⟩ (fun o=>(hb.frozen (p:=⟨ND,o,none⟩) lND).trans (H0.fD o)) (fun e=>H0.sep.nn e.symm) hn.cq hn.cg hn.qa H0.sep.qq H0.sep.qd H0.sep.qn H0.sep.lq hrb K.b0).mono ?_
  rintro e w1 ⟨rfl,wr,hR,h1,h2⟩
  exact⟨rfl,wr,A65.RstTo.of hR hb lND,h1,h2⟩
 obtain⟨hsep,hng⟩:=A65.NetAt.sepR H0
 have HR:=fun wr (R:RstTo c ND round m.Q m.gv st tm ck q w wr)=>A65.NetAt.reset H0 R
 have hgr:∀ wr,RstTo c ND round m.Q m.gv st tm ck q w wr→Zb LO w wr:=fun wr R=>R.but.to_below hLO (fun k e=>e.elim (fun e=>by rw [e];exact H0.sep.ld) (fun⟨i,hi,e⟩=>by rw [e];exact H0.sep.lq i hi))
 clear H0
 generalize hm1:(⟨m.Q,m.QC,gR c round st (.slice none 0 0) m.gv⟩:Nm)=m1 at *
 have hng:∀ i b C,i < c.N→m1.gv i=.slice (some ⟨b,0,none⟩) (c.N+c.ps.length) C→b≠NB:=by rw [← hm1];exact hng
 clear hm1
 generalize stR c round st=st1 at *
 generalize tmR c round st tm=tm1 at *
 generalize qR c round st q=q1 at *
 generalize gR c round st none g=g1 at *
 have hdv:∀ i,i < c.N→∀ x ∈ hdN c round st1 ck q1 g1 i,-1000000≤x.dev∧x.dev≤1000000:=fun i hi=>hdK_dev c.N (fun k hk=>K.dv i k hi hk)
 have hsy:∀ i,i < c.N→stF c round st1 i≠0→SyncIs (stF c round st1 i) i (hdN c round st1 ck q1 g1 i) (dN c round st1 ck q1 g1 i):=fun i hi h0=>sync_is ⟨by omega,K.s4 i hi⟩ (by
  have:=hdK_le (fun k=>tkN c round st1 ck q1 g1 k i) (fun k=>devF c round (ckF c round st1 ck) k i) c.N
  unfold hdN;omega) (hdv i hi)
 have hd0:∀ i,i < c.N → -2000000≤dN c round st1 ck q1 g1 i∧dN c round st1 ck q1 g1 i≤2000000:=fun i hi=>by
  have:=sync_le (st:=stF c round st1 i) (i:=i) (lo:=-1000000) (hi:=1000000) ⟨by omega,by omega⟩ (hdv i hi)
  unfold dN;omega
 have hvk:∀ {i:Nat},∀ k s f,k < c.N→s < c.N+c.ps.length→k≠i→tkN c round st1 ck q1 g1 k i=some f→f.kind=3→s < f.echo.length:=fun {i} k s f hk hs _ hf h3=>by
  obtain⟨h1,_,h2⟩:=tkN_fr hf
  rw [h1.len,if_pos ⟨h3,by omega⟩];exact hs
 have sTe:∀ {i},stF c round st1 i=0→¬(stF c round st1 i=4∧was i=4):=fun h e=>by omega
 refine(net_step c NB LO ND round m1 (stF c round st1) (ckF c round st1 ck) (qK c.cl round q1 c.cl.length) g1 (fun s=>tkP c round s (stF c round st1) (ckF c round st1 ck) (qN c round st1 q1 s) g1)
  (PowAt c ND round m st tm st1 tm1 ck q w)
  (fun w2=>∃ w1,PowAt c ND round m st tm st1 tm1 ck q w w1∧HostBut w1 w2 c NB m1∧(∀ i,i < c.N→QAt w2 (m1.Q i) (c.N+c.ps.length) (qK c.cl round q1 c.cl.length i))∧∃ u,w2.cell? ⟨NB,20,none⟩=some u)
  (fun EB w4=>∃ w1 w2 wr v xs' gv' lv',PowAt c ND round m st tm st1 tm1 ck q w w1∧HostBut w1 w2 c NB m1∧(∀ i,i < c.N→QAt w2 (m1.Q i) (c.N+c.ps.length) (qK c.cl round q1 c.cl.length i))∧(∃ u,w2.cell? ⟨NB,20,none⟩=some u)∧SlB w2 c NB m1 (stF c round st1) (fun s=>tkP c round s (stF c round st1) (ckF c round st1 ck) (qN c round st1 q1 s) g1) (qK c.cl round q1 c.cl.length) (c.N+c.ps.length) v xs' wr∧EB=wr.heap.size∧But (A61.Own lv c.N) wr w4∧NewNd base c LO EB m1 lv (nxN c round st1 tm1 was ck q1 g1 n xs) gv' lv' c.N w4)
  w hc hsep hng h17 h16 K.lt ?_ ?_ ?_ ?_ ?_ ?_).mono ?_
 ·exact fun w' hb he=>HPw w' hb
 ·rintro w1 ⟨w0,hR,h1,h2⟩
  have H:=HR w0 hR
  have lNB:NB < w0.heap.size:=Zl w0 _ H.nd.r
  have lND0:ND < w0.heap.size:=Zl w0 _ (H.nd.cs 0 (by omega))
  have hn1:=NdOk.power H.nd H.sep H.gd h1 h2
  obtain⟨u20,h20⟩:=H.c20
  refine(net_hosts c NB LO ND round m1 (stF c round st1) (ckF c round st1 ck) q1 g1 u20 w1 hc hn1 H.sep H.ng ((h2.but.cell (p:=⟨NB,20,none⟩) lNB H.sep.nn).trans h20) (fun o=>(h2.but.frozen (p:=⟨NB,o,none⟩) lNB H.sep.nn).trans (H.fN o)) K.cl).mono ?_
  rintro e w2 ⟨rfl,h3,h4,h5⟩
  exact⟨rfl,w1,⟨w0,hR,h1,h2⟩,h3,h4,h5⟩
 ·rintro w2 ⟨w1,⟨w0,hR,h1,h2⟩,h3,h4,h5⟩
  have H:=HR w0 hR
  have lNB:NB < w0.heap.size:=Zl w0 _ H.nd.r
  have lND0:ND < w0.heap.size:=Zl w0 _ (H.nd.cs 0 (by omega))
  have hn1:=NdOk.power H.nd H.sep H.gd h1 h2
  obtain⟨u19,h19⟩:=H.c19
  exact⟨NdOk.host hn1 H.sep H.ng h3 h4,⟨u19,(h3.nb 19 (by omega)).trans ((h2.but.cell (p:=⟨NB,19,none⟩) lNB H.sep.nn).trans h19)⟩,fun o=>(h3.fr o).trans ((h2.but.frozen (p:=⟨NB,o,none⟩) lNB H.sep.nn).trans (H.fN o))⟩
 ·intro s wr hs hn
  exact net_run c NB LO ND round s m1 (stF c round st1) (ckF c round st1 ck) _ g1 wr hc hn hsep K.s4 hrb hs K.b1 (K.fr s hs)
 ·rintro w2 wr v xs' ⟨w1,⟨w0,hR,h1,h2⟩,h3,h4,h5⟩ hsl
  have H:=HR w0 hR
  have lNB:NB < w0.heap.size:=Zl w0 _ H.nd.r
  have lND0:ND < w0.heap.size:=Zl w0 _ (H.nd.cs 0 (by omega))
  have hn1:=NdOk.power H.nd H.sep H.gd h1 h2
  have hn2:=NdOk.host hn1 H.sep H.ng h3 h4
  have hnr:=NdOk.slots hn2 H.sep H.ng hsl.but hsl.qa
  have z1:=h2.but.size
  have z2:=h3.but.size
  have z3:=hsl.but.but.size
  have hb0:=H.base
  have hgE:∀ i b C,i < c.N→m1.gv i=.slice (some ⟨b,0,none⟩) (c.N+c.ps.length) C→b < wr.heap.size:=fun i b C hi e=>gotAt_lt (hnr.ga i hi) e
  have nH:¬(ND=NB∨∃ i,i < c.N∧ND=m1.Q i):=fun e=>e.elim (fun e=>H.sep.nn e.symm) (fun⟨i,hi,e⟩=>H.sep.qd i hi e.symm)
  have nL:∀ i b,i < c.N→(lv i).ownBlock=some b→¬(b=NB∨∃ i,i < c.N∧b=m1.Q i):=fun i b hi e h=>h.elim (fun h=>(H.ls i hi).nb (h ▸ e)) (fun⟨j,hj,h⟩=>(H.ls i hi).q j hj (h ▸ e))
  have kD:∀ o v,w1.cell? ⟨ND,o,none⟩=some v→wr.cell? ⟨ND,o,none⟩=some v:=fun o v h=>(hsl.but.but.cell (p:=⟨ND,o,none⟩) (show ND < w2.heap.size by omega) nH).trans ((h3.but.cell (p:=⟨ND,o,none⟩) (show ND < w1.heap.size by omega) nH).trans h)
  have hct:∀ i,i < c.N→wr.cell? ⟨ND,i*7+1,none⟩=some (Z Y (tmF c round tm1 i)):=fun i hi=>kD _ _ (h1.t i hi)
  have hcw:∀ i,i < c.N→wr.cell? ⟨ND,i*7+2,none⟩=some (Z Y (was i)):=fun i hi=>kD _ _ ((h2.other _ (by omega) (by omega) (by omega)).trans (H.cw i hi))
  have hcl:∀ i,i < c.N→wr.cell? ⟨ND,i*7+6,none⟩=some (lv i):=fun i hi=>kD _ _ ((h2.other _ (by omega) (by omega) (by omega)).trans (H.cl i hi))
  have how:∀ i,i < c.N→wr.ownsRow LO 48 4 (lv i) (n i) (xs i):=fun i hi=>own_but2 (own_but2 (own_but2 (H.own i hi) h2.but (fun b e h=>(H.ls i hi).nd (h ▸ e))) h3.but (fun b e=>nL i b hi e)) hsl.but.but (fun b e=>nL i b hi e)
  obtain⟨SB,SC,rfl,hS⟩:=hsl.mem (by omega)
  have hc19:=hsl.c19
  refine(A61.each_node c NB LO ND base m1 lv (nxN c round st1 tm1 was ck q1 g1 n xs) wr (by omega) (by omega) hnr.n (fun⟨j,hj,e⟩=>(H.ls j hj).nb e) H.ls H.ne (by omega) hgE (fun k w5 hk hb5=>?_)).mono ?_
  ·have nO:∀ b,A61.Own lv k b→b < base:=fun b ⟨j,hj,e⟩=>(H.ls j (by omega)).lt b e
   have lNr:NB < wr.heap.size:=by omega
   have lDr:ND < wr.heap.size:=by omega
   have nN:¬ A61.Own lv k NB:=fun⟨j,hj,e⟩=>(H.ls j (by omega)).nb e
   have nD:¬ A61.Own lv k ND:=fun⟨j,hj,e⟩=>(H.ls j (by omega)).nd e
   have hn5:=NdOk.far hnr hb5 nN nD (fun i hi ⟨j,hj,e⟩=>(H.ls j (by omega)).q i hi e) (fun i b C hi e ⟨j,hj,e2⟩=>(H.ls j (by omega)).g i b C hi e e2) (fun b ⟨j,hj,e⟩=>ownsRow_block (how j (by omega)) e)
   have kD5:∀ o v,wr.cell? ⟨ND,o,none⟩=some v→w5.cell? ⟨ND,o,none⟩=some v:=fun o v h=>(hb5.cell (p:=⟨ND,o,none⟩) lDr nD).trans h
   have ho5:=own_but2 (how k hk) hb5 (fun b e ⟨j,hj,e2⟩=>H.ne j k b (by omega) hk (by omega) e2 e)
   have h19:=(hb5.cell (p:=⟨NB,19,none⟩) lNr nN).trans hc19
   have hS5:=hS.keep hb5.size (fun b hb hl=>hb5.block b hl (fun e=>by have:=nO b e;omega))
   have z5:=hb5.size
   by_cases h0:stF c round st1 k=0
   ·have:=net_end_off c NB LO ND round k (n k) (tmF c round tm1 k) (was k) m1 (stF c round st1) (ckF c round st1 ck) _ g1 (lv k) (xs k) w5 hn5 hk h0 (kD5 _ _ (hct k hk)) (kD5 _ _ (hcw k hk)) (kD5 _ _ (hcl k hk)) ho5
    simpa only [nxN,if_pos h0,if_neg (sTe h0)]using this
   ·by_cases h4:stF c round st1 k=4∧was k=4
    ·obtain⟨l1,l2,⟨gl,l3⟩⟩:=K.lg k hk h4.1 h4.2
     have:=net_end_log c NB LO ND SB SC round k (n k) (tmF c round tm1 k) (was k) w2.heap.size m1 (stF c round st1) (ckF c round st1 ck) _ g1 (lv k) (xs k) (tkN c round st1 ck q1 g1) (dN c round st1 ck q1 g1 k) w5 hc hn5 H.sep hk (by omega) (K.s4 k hk) (K.t4 k hk) hrb (kD5 _ _ (hct k hk)) (kD5 _ _ (hcw k hk)) (kD5 _ _ (hcl k hk)) ho5 h19 hS5 (by omega) K.b1 ⟨(H.ls k hk).nb,(H.ls k hk).nd,(H.ls k hk).q,(H.ls k hk).g,fun b e=>by have:=(H.ls k hk).lt b e;omega⟩ (hsy k hk h0) (hd0 k hk) gl h4.1 h4.2 l3 l1 l2 hvk
     simpa only [nxN,hdN,if_neg h0,if_pos h4,l3,Option.getD_some]using this
    ·have:=net_end_plain c NB LO ND SB SC round k (n k) (tmF c round tm1 k) (was k) w2.heap.size m1 (stF c round st1) (ckF c round st1 ck) _ g1 (lv k) (xs k) (tkN c round st1 ck q1 g1) (dN c round st1 ck q1 g1 k) w5 hc hn5 H.sep hk (by omega) (K.s4 k hk) (K.t4 k hk) hrb (kD5 _ _ (hct k hk)) (kD5 _ _ (hcw k hk)) (kD5 _ _ (hcl k hk)) ho5 h19 hS5 (by omega) K.b1 ⟨(H.ls k hk).nb,(H.ls k hk).nd,(H.ls k hk).q,(H.ls k hk).g,fun b e=>by have:=(H.ls k hk).lt b e;omega⟩ (hsy k hk h0) (hd0 k hk) h4
     simpa only [nxN,hdN,if_neg h0,if_neg h4]using this
  ·rintro e w4 ⟨gv',lv',rfl,hb4,hN⟩
   exact⟨wr.heap.size,rfl,w1,w2,wr,_,xs',gv',lv',⟨w0,hR,h1,h2⟩,h3,h4,h5,hsl,rfl,hb4,hN⟩
 ·rintro EB w4 ⟨w1,w2,wr,v,xs',gv',lv',⟨w0,hR,h1,h2⟩,h3,h4,h5,hsl,rfl,hb4,hN⟩
  have H:=HR w0 hR
  have lNB:NB < w0.heap.size:=Zl w0 _ H.nd.r
  have lND0:ND < w0.heap.size:=Zl w0 _ (H.nd.cs 0 (by omega))
  have hn1:=NdOk.power H.nd H.sep H.gd h1 h2
  have hn2:=NdOk.host hn1 H.sep H.ng h3 h4
  have hnr:=NdOk.slots hn2 H.sep H.ng hsl.but hsl.qa
  have lNr:NB < wr.heap.size:=Zl wr _ hnr.r
  have nN:¬ A61.Own lv c.N NB:=fun⟨j,hj,e⟩=>(H.ls j hj).nb e
  exact⟨⟨_,(hb4.cell (p:=⟨NB,18,none⟩) lNr nN).trans hnr.n⟩,(hb4.cell (p:=⟨NB,17,none⟩) lNr nN).trans hnr.r,fun o=>(hb4.frozen (p:=⟨NB,o,none⟩) lNr nN).trans ((hsl.but.fr o).trans ((h3.fr o).trans ((h2.but.frozen (p:=⟨NB,o,none⟩) lNB H.sep.nn).trans (H.fN o))))⟩
 ·rintro e w' ⟨rfl,EB,w4,⟨w1,w2,wr,v,xs',gv',lv',⟨w0,hR,h1,h2⟩,h3,h4,h5,hsl,rfl,hb4,hN⟩,rfl⟩
  have H:=HR w0 hR
  have lNB:NB < w0.heap.size:=Zl w0 _ H.nd.r
  have lND0:ND < w0.heap.size:=Zl w0 _ (H.nd.cs 0 (by omega))
  have hgr0:=hgr w0 hR
  have hn1:=NdOk.power H.nd H.sep H.gd h1 h2
  have hn2:=NdOk.host hn1 H.sep H.ng h3 h4
  have hnr:=NdOk.slots hn2 H.sep H.ng hsl.but hsl.qa
  have z1:=h2.but.size
  have z2:=h3.but.size
  have z3:=hsl.but.but.size
  have z4:=hb4.size
  have hb0:=H.base
  have nL:∀ i b,i < c.N→(lv i).ownBlock=some b→¬(b=NB∨∃ i,i < c.N∧b=m1.Q i):=fun i b hi e h=>h.elim (fun h=>(H.ls i hi).nb (h ▸ e)) (fun⟨j,hj,h⟩=>(H.ls i hi).q j hj (h ▸ e))
  have how:∀ i,i < c.N→wr.ownsRow LO 48 4 (lv i) (n i) (xs i):=fun i hi=>own_but2 (own_but2 (own_but2 (H.own i hi) h2.but (fun b e h=>(H.ls i hi).nd (h ▸ e))) h3.but (fun b e=>nL i b hi e)) hsl.but.but (fun b e=>nL i b hi e)
  have lo0:=H.nd.lo.le
  have nq:∀ k,(k=NB∨∃ i,i < c.N∧k=m1.Q i)→LO≤k:=fun k h=>h.elim (fun h=>by rw [h];exact H.sep.ln) (fun⟨i,hi,h⟩=>by rw [h];exact H.sep.lq i hi)
  refine⟨rfl,hgr0.trans (((((h2.but.to_below lo0 (fun k e=>by rw [e];exact H.sep.ld)).trans (h3.but.to_below (by omega) nq)).trans (hsl.but.but.to_below (by omega) nq)).trans (hb4.to_below (by omega) (fun k ⟨j,hj,e⟩=>ownsRow_block (how j hj) e))).trans ((((But.refl (fun b=>b=NB) w4).setCell (p:=⟨NB,18,none⟩) (.inl rfl) _).setCell (p:=⟨NB,17,none⟩) (.inl rfl) _).to_below (by omega) (fun k e=>by rw [e];exact H.sep.ln))),wr.heap.size,w4.heap.size,⟨m1.Q,m1.QC,gv'⟩,lv',?_⟩
  obtain⟨u20,h20⟩:=h5
  exact NetAt.next hnr H.sep H.ng H.ls how (by omega) ⟨_,hsl.c19⟩ ⟨u20,(hsl.but.nb 20 (by omega)).trans h20⟩ (fun o=>(hsl.but.fr o).trans ((h3.fr o).trans ((h2.but.frozen (p:=⟨NB,o,none⟩) lNB H.sep.nn).trans (H.fN o)))) hb4 hN
end A65
end Go.Proofs.YtdbempiompiioaaGreat
