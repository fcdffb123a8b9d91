/- Six nodes that find one another, and deliver: plaitingtop's known. What the law TopBack makes: its c Conditions: the bounds stated in each theorem. -/
import Derived.Test.YtdbempiompiioaaGreatT16
import Derived.Test.YtdbempiompiioaaGreatT17
set_option linter.unusedVariables false
set_option linter.unusedSimpArgs false
set_option maxRecDepth 100000
set_option maxHeartbeats 80000000
open Go.Value renaming int → Z
open Go.IntKind renaming i64 → Y
open Go renaming World → Zw, Calls → Zc, heap_alloc_new → Zh
open Go.RowKit renaming Below → Zb
open Go.Proofs.Tryz renaming prog → Zp
open Go.Lib renaming hid → O
open Go.World renaming block_lt_of_cell? → Zl, cell?_setCell_other → Zo
open Nat renaming le_refl → Zr
open Go.RowKit.Below renaming refl → Zf
namespace Go.Proofs.YtdbempiompiioaaGreat
namespace C8
open Go.RowKit A1 A9 A11 A18 A41 A48 A52 A66 A72 A73 B9 B11 B13
theorem mk22 (n:Nat) (hn:n≤100) (w:Zw):(Instr.makeSlice 22 (Z Y (n:Int)) (Z Y (n:Int))).run Zp w=.ok (.slice (some ⟨w.heap.size,0,none⟩) n n) (w.alloc (.cells (madeCells #[Z Y 0] (n*1)) 3)):=by
 obtain⟨i,hi,hz,hs,hb⟩:=info_parts info3
 have:=run_make_n (P:=Zp) 22 3 i _ Tryz.underlying22 hi hz n hn (by omega) w
 rw [hs]at this
 exact this
theorem step_end (NB:Nat) (r R:Int) (w:Zw) (h17:w.cell? ⟨NB,17,none⟩=some (Z Y r)) (h16:w.cell? ⟨NB,16,none⟩=some (Z Y R)) (h:R≤r) :
 Zc Zp 15 #[.pointer (some ⟨NB,0,none⟩)] w fun e w'=>e=.returned (.bool false)∧Zb w.heap.size w w':=by
 have cmp:(decide (r≥R))=true:=by simp;omega
 have cmp2:(decide (R≤r))=true:=by simp;omega
 go_enter Tryz.func15,Tryz.ntmps15
 go_wp2_with fail
 refine wp_region_held_drew (S:=fun w'=>w'.cell? ⟨NB,17,none⟩=some (Z Y r)∧w'.cell? ⟨NB,16,none⟩=some (Z Y R)) (by kernel_rfl) ⟨h17,h16⟩ (fun hHeld=>?_)
 refine rgT 0 ?_
 refine rgT 1 ?_
 refine rgT 2 ?_
 refine rgT 3 ?_
 refine rgT 4 ?_
 refine rgT 5 ?_
 refine rgT 6 ?_
 refine rgT 7 ?_
 refine rgT 8 ?_
 refine rgT 9 ?_
 refine wpAnyH_done (by kernel_rfl) ?_ _
 clear h17 h16 hHeld
 go_wp2
 go_ret
 exact⟨rfl,bB⟩
def roundOf (w:Zw) (NB:Nat):Nat:=match w.cell? ⟨NB,17,none⟩with | some (.int _ r)=>r.toNat | _=>0
theorem roundOf_is {w:Zw} {NB r:Nat} (h:w.cell? ⟨NB,17,none⟩=some (Z Y r)):roundOf w NB=r:=by
 unfold roundOf
 rw [h]
 simp
theorem course_r {c:NC} {T z F zc v:Nat} {NB LO r:Nat} {w:Zw} (H:Course c T z F zc v NB LO r w):w.cell? ⟨NB,17,none⟩=some (Z Y r):=by
 obtain⟨s,⟨ND,base,m,lv,H⟩,I⟩:=H
 exact H.nd.r
abbrev six (A:Option Addr):NC:=⟨6,4,0,0,0,[],none,0,List.replicate 6 0,A,6,[],none,0,[],none,0,[],none,0,0,0,0,0,none,[],0,none,[],0,12⟩
theorem rep0 (k:Nat):(List.replicate 6 (0:Int)).getD k 0=0:=by
 rw [List.getD_eq_getElem?_getD,List.getElem?_replicate]
 split <;> rfl
theorem six_ok (A:Option Addr):NOk (six A):=by
 refine⟨⟨?_,?_,?_,?_,?_,?_,?_,?_,?_,?_,?_,fun k hk=>absurd hk (by simp)⟩,rfl,?_,?_,?_,.inl rfl,?_,?_,?_,?_,?_,?_,fun k hk=>absurd hk (by simp),?_,?_,?_⟩ <;> exact of_decide_eq_true rfl
theorem Play.made {c:NC} {T z F zc v:Nat} (P:Play c T z F zc v) (PA OA DA EA LA FA VA:Option Addr) (PC OC DC EC LC FC VC:Nat):Play (A72.made c PA OA DA EA LA FA VA PC OC DC EC LC FC VC) T z F zc v :=
 ⟨⟨P.ok.cf,P.ok.on,P.ok.dr,P.ok.er,P.ok.cl,P.ok.kind,P.ok.fat0,P.ok.fat1,P.ok.frm,P.ok.till,P.ok.till1,P.ok.ac,P.ok.act,P.ok.vs,P.ok.rounds0,P.ok.rounds1⟩,P.kd,P.on,P.t1,P.t2,P.frm,P.cl,P.cm,P.zc,P.v,P.f,P.f1⟩
theorem six_play (A:Option Addr):Play (six A) 6 6 100 0 0 :=
 ⟨six_ok A,.inl ⟨rfl,rfl⟩,fun i hi=>by show 0≤(List.replicate 6 (0:Int)).getD i 0∧(List.replicate 6 (0:Int)).getD i 0≤3;rw [rep0];omega,fun i hi _=>by show((6:Nat):Int)≤(List.replicate 6 (0:Int)).getD i 0+((6:Nat):Int)+i;rw [rep0];omega,⟨0,of_decide_eq_true rfl,of_decide_eq_true rfl,by show((6:Nat):Int)=(List.replicate 6 (0:Int)).getD 0 0+((6:Nat):Int)+((0:Nat):Int);rw [rep0];omega⟩,(fun h=>absurd (show(0:Int)=1 from h) (by decide)),fun k hk=>absurd hk (by simp),of_decide_eq_true rfl,of_decide_eq_true rfl,of_decide_eq_true rfl,of_decide_eq_true rfl,(fun h=>absurd (show(0:Int)=1 from h) (by decide))⟩
theorem known_yes (w:Zw):Zc Zp 6 #[] w fun e w'=>e=.returned (.bool true)∧Zb w.heap.size w w':=by
 have hM:=Zh w (.cells (madeCells #[Z Y 0] (6*1)) 3)
 have hb:Zb w.heap.size w (w.alloc (.cells (madeCells #[Z Y 0] (6*1)) 3)):=(Zf _ _).alloc (Zr _) _
 have mk:(Instr.makeSlice 22 (Z Y 6) (Z Y 6)).run Zp w=_:=mk22 6 (by omega) w
 go_enter Tryz.func6,Tryz.ntmps6
 go_upto_region 1 with fail
 go_wp2_with (rw [mk])
 clear mk
 generalize w.alloc (.cells (madeCells #[Z Y 0] (6*1)) 3)=wa at *
 have HN:Zc Zp 13 #[.agg #[Z Y 6,Z Y 4,Z Y 0,Z Y 0,Z Y 0,.slice none 0 0],.agg #[.slice (some ⟨w.heap.size,0,none⟩) 6 6,.slice none 0 0,.slice none 0 0,.slice none 0 0,Z Y 0,Z Y 0,Z Y 0,Z Y 0,.slice none 0 0,.slice none 0 0,Z Y 12]] wa _ :=
  net_New (six (some ⟨w.heap.size,0,none⟩)) wa (six_ok _) (fun k hk=>absurd hk (by simp)) (fun k hk=>by
   have hk':k < 6:=by simpa using hk
   refine⟨w.heap.size,0,rfl,heap_lt hM,?_⟩
   show _=some (Z Y ((List.replicate 6 (0:Int)).getD k 0))
   rw [rep0,Lib.cell_of_heap hM,made_at _ _ _ (by omega)]
   have:(0+k)%(#[Z Y 0]:Array Value).size=0:=by simp;omega
   rw [this];rfl) (fun k hk=>absurd hk (by simp)) (fun k hk=>absurd hk (by simp)) (fun k hk=>absurd hk (by simp)) (fun _=>rfl) (fun k hk=>absurd hk (by simp)) (fun k hk=>absurd hk (by simp)) (fun _=>rfl) (by show(0:Int) < (if(0:Int)=1 then _ else 1);rw [if_neg (by decide)];decide) (fun k hk=>by show -1≤(List.replicate 6 (0:Int)).getD k 0∧(List.replicate 6 (0:Int)).getD k 0≤200;rw [rep0];omega) (fun k hk=>absurd hk (by simp))
 refine HN.mono ?_
 rintro e w1 ⟨LO,PA,OA,DA,EA,LA,FA,VA,PC,OC,DC,EC,LC,FC,VC,Q,rfl,hb1,hLO,hNet⟩
 have hPl:=Play.made (six_play (some ⟨w.heap.size,0,none⟩)) PA OA DA EA LA FA VA PC OC DC EC LC FC VC
 obtain⟨c,hcN,hcR,hcp,hck,P,hCo⟩:∃ c:NC,c.N=6∧c.rounds=12∧c.ps.length=0∧c.kind=0∧Play c 6 6 100 0 0∧Course c 6 6 100 0 0 (LO+1) LO 0 w1 :=
  ⟨_,rfl,rfl,rfl,rfl,hPl,Stt.start,⟨_,_,_,_,hNet⟩,Inv.begin hPl⟩
 clear hPl
 have HP:=O P
 have HC0:=O hCo
 have HB1:=O (hb.trans (hb1.mono hb.size))
 have hw0:=hb.size
 clear HN hNet hM hb hb1 P hCo
 go_wp2
 go_loopw [] (fun wr=>∃ r:Nat,r≤12∧Course c 6 6 100 0 0 (LO+1) LO r wr∧Zb w.heap.size w wr) (fun wr=>12-roundOf wr (LO+1))
 case atStart=>exact⟨0,by omega,HC0.out,HB1.out⟩
 case round =>
  obtain⟨r,hr,hC,hbw⟩:=hrel
  have hrd:=roundOf_is (course_r hC)
  have HCr:=O hC
  have HBr:=O hbw
  clear hbw
  by_cases hlt:r < 12
  ·have HSt:=O (course_step HP.out hC (by rw [hcR];omega))
   clear hC
   go_wp2_with fail
   refine HSt.out.mono ?_
   rintro e w2 ⟨rfl,hb2,hC2⟩
   have HC2:=O hC2
   have hrd2:=roundOf_is (course_r hC2)
   have HB2:=O (HBr.out.trans (hb2.mono (by omega)))
   clear hC2 hb2
   go_wp2
   go_roundw
   case rel=>exact⟨r+1,by omega,HC2.out,HB2.out⟩
   case measure=>rw [hrd,hrd2];omega
  ·obtain rfl:r=12:=by omega
   obtain⟨s,⟨ND,base,m,lv,H⟩,I⟩:=hC
   have h16:=H.nd.nb.c16
   rw [hcR]at h16
   have HE:=O (step_end (LO+1) 12 12 wr (course_r HCr.out) h16 (by omega))
   have h18:=H.nd.n
   have h3:=H.nd.cs 3 (by omega)
   have t3:=H.ct 3 (by omega)
   have l3:=H.cl 3 (by omega)
   have o3:=H.own 3 (by omega)
   have s4:=(I.p3 (by omega)).1 3 (by omega) (by omega)
   obtain⟨post,hx⟩:=I.p6 hck (by omega) 3 (by omega)
   have hxl:=I.sh.xl 3 (by omega)
   have hn:=I.sh.hn 3 (by omega)
   have h1:=I.sh.x1 3 (by omega)
   rw [hcN]at h18
   rw [s4]at h3
   rw [hcN,hcp]at hx
   have hx2:(s.xs 3)[2]?=some (Z Y 1)∧(s.xs 3)[3]?=some (Z Y 0):=by
    rw [hx]
    simp [lineCells,payP,toI,hcN]
   have hnp:6≤s.n 3:=by
    have:=congrArg List.length hx
    rw [List.length_append,A48.lineCells_length]at this
    omega
   have HX:=O (And.intro hx2 (And.intro hnp hn))
   have HO:=O o3
   have HX1:=O h1
   clear hx hxl hn h1 hx2 hnp o3 H I s4
   go_wp2_with fail
   refine HE.out.mono ?_
   rintro e w2 ⟨rfl,hb2⟩
   have lz:=Zl wr _ h18
   have lD:=Zl wr _ h3
   have HSt:=O (net_State (LO+1) ND 6 3 (Z Y (4:Nat)) (Z Y (s.tm 3)) w2 (keep_of h18 lz hb2) (by omega) (by omega) (keep_of h3 lD hb2) (keep_of t3 lD hb2))
   have h18':=keep_of h18 lz hb2
   have l3':=keep_of l3 lD hb2
   have HO2:=O (own_below HO.out hb2)
   have HB2:=O (HBr.out.trans (hb2.mono (by have:=HBr.out.size;omega)))
   have z2:=hb2.size
   clear h18 h3 t3 l3 hb2 HE
   go_wp2_with fail
   refine HSt.out.mono ?_
   rintro e w3 ⟨rfl,hb3⟩
   have HLg:=O (net_Log (LO+1) ND 6 3 (s.n 3) LO (lv 3) (s.xs 3) w3 (keep_of h18' (by omega) hb3) (by omega) (by omega) (keep_of l3' (by omega) hb3) (own_below HO2.out hb3) (by have:=HX.out.2.1;omega) (by have:=HX.out.2.2;omega) (fun u hu=>by obtain⟨z,rfl⟩:=HX1.out u hu;rfl))
   have HB3:=O (HB2.out.trans (hb3.mono (by have:=HB2.out.size;omega)))
   clear h18' l3' hb3 HSt
   go_wp2_with fail
   refine HLg.out.mono ?_
   rintro e w4 ⟨v',rfl,ho4,hne,hb4⟩
   obtain⟨gg,cap,rfl,_,_,hc4⟩:=own_some ho4 (by have:=HX.out.2.1;omega)
   have HB4:=O (HB3.out.trans (hb4.mono (by have:=HB3.out.size;omega)))
   have k2:=hc4 _ _ HX.out.1.1
   have k3:=hc4 _ _ HX.out.1.2
   have hnp:=HX.out.2.1
   generalize hnn:s.n 3=nn at *
   have p0:(0:Int) < (nn:Int):=by omega
   have p1:0 < nn:=by omega
   clear hc4 ho4 hne hb4 HLg
   go_wp2
   go_ret
   refine⟨rfl,?_⟩
   repeat(first | exact HB4.out | refine Below.drew ?_ | refine below_drewN ?_ _)
end C8
namespace C9
open Go.RowKit A4 A18 D19 A41 A48 B9 B11 B13 C8
theorem least (f:Nat→Nat):∀ n,0 < n→∃ m,(∀ i,i < n→m≤f i)∧∃ i,i < n∧m=f i
 | 0,h=>absurd h (by omega)
 | 1,_=>⟨f 0,fun i hi=>by rw [show i=0 by omega];exact Zr _,0,by omega,rfl⟩
 | n+2,_=>by
  obtain⟨m,h1,i,hi,h2⟩:=least f (n+1) (by omega)
  by_cases e:m≤f (n+1)
  ·exact⟨m,fun j hj=>by
    by_cases ej:j=n+1
    ·rw [ej];exact e
    ·exact h1 j (by omega),i,by omega,h2⟩
  ·exact⟨f (n+1),fun j hj=>by
    by_cases ej:j=n+1
    ·rw [ej];exact Zr _
    ·have:=h1 j (by omega);omega,n+1,by omega,rfl⟩
theorem back_play {N:Nat} {Pi Er G Fi:Int} {ps:List Int} {PA OA DA EA LA CA VA:Option Addr} {PC OC DC EC LC CC VC:Nat} {on dr er vs:List Int} {ac:List Ac} {z v TO:Nat} (hc:CfOk N Pi Er G Fi ps) (hon:on.length=N) (ho:∀ z ∈ on,0≤z∧z≤2) (hd:dr.length≤20) (he:er.length≤20) (hz:z < N) (hv:v≤255) (h0:2*N+11≤TO) (h1:TO≤2*N+16)
 (ha:ac.length≤10) (has:∀ x ∈ ac,x.t.size≤300) (hvs:vs.length≤10) :
 ∃ T,Play ⟨N,Pi,Er,G,Fi,ps,PA,PC,on,OA,OC,dr,DA,DC,er,EA,EC,[⟨TO+5,z,0,v⟩],LA,LC,1,z,2*N+11,TO,CA,ac,CC,VA,vs,VC,2*N+28⟩ T z (TO+5) z v:=by
 have n0:=hc.n0
 have n1:=hc.n1
 have hoi:∀ i,i < N→0≤on.getD i 0∧on.getD i 0≤2:=fun i hi=>by
  have hm:on.getD i 0 ∈ on:=by rw [List.getD_eq_getElem?_getD,List.getElem?_eq_getElem (by omega)];exact List.getElem_mem _
  exact ho _ hm
 obtain⟨T,h2,i,hi,h3⟩:=least (fun i=>if i=z then 1000 else(on.getD i 0).toNat+N+i) N (by omega)
 have hT:∀ i,i < N→(((on.getD i 0).toNat+N+i:Nat):Int)=on.getD i 0+N+i:=fun i hi=>by have:=hoi i hi;omega
 have hT2:T≤N+3:=by
  by_cases e:z=0
  ·have h4:=h2 1 (by omega)
   have h5:=hoi 1 (by omega)
   simp only [if_neg (show ¬ 1=z by omega)]at h4
   omega
  ·have h4:=h2 0 (by omega)
   have h5:=hoi 0 (by omega)
   simp only [if_neg (show ¬ 0=z by omega)]at h4
   omega
 have hiz:i≠z:=fun e=>by simp only [if_pos e]at h3;omega
 simp only [if_neg hiz]at h3
 refine⟨T,⟨hc,hon,by show dr.length≤60;omega,by show er.length≤60;omega,by show 1≤100;omega,.inr rfl,by show(0:Int)≤z;omega,by show(z:Int) < N;omega,by show(0:Int)≤2*N+11;omega,by show 2*(N:Int)+11≤TO;omega,by show(TO:Int)≤1000;omega,by show ac.length≤40;omega,fun k hk=>?_,by show vs.length≤40;omega,by show(0:Int)≤2*N+28;omega,by show 2*(N:Int)+28≤200;omega⟩,.inr ⟨rfl,rfl,hz⟩,fun i hi=>by have:=hoi i hi;show 0≤on.getD i 0∧on.getD i 0≤3;omega,fun i hi hiz=>?_,⟨i,hi,hiz,?_⟩,fun _=>by show(T:Int)+2≤2*N+11;omega,fun k hk=>?_,Zr _,hz,hv,by omega,fun _=>by show(TO:Int)+2≤((TO+5:Nat):Int);omega⟩
 ·have hm:ac.getD k Ac.no ∈ ac:=by rw [List.getD_eq_getElem?_getD,List.getElem?_eq_getElem hk];exact List.getElem_mem _
  have:=has _ hm
  show(ac.getD k Ac.no).t.size≤1000
  omega
 ·have h4:=h2 i hi
  have h5:=hT i hi
  simp only [if_neg hiz]at h4
  show(T:Int)≤on.getD i 0+N+i
  omega
 ·have:=hT i hi
  show(T:Int)=on.getD i 0+N+i
  omega
 ·have:k=0:=by have:k < 1:=hk;omega
  subst this
  rfl
theorem lineCells_at (r:Int) (f:Nat→Int×Int):∀ n s,s < n→(lineCells r f n)[s*4]?=some (Z Y r)∧(lineCells r f n)[s*4+1]?=some (Z Y s)∧(lineCells r f n)[s*4+2]?=some (Z Y (f s).1)∧(lineCells r f n)[s*4+3]?=some (Z Y (f s).2)
 | 0,s,h=>absurd h (by omega)
 | n+1,s,h=>by
  have hl:=lineCells_length r f n
  unfold lineCells
  by_cases e:s < n
  ·obtain⟨h1,h2,h3,h4⟩:=lineCells_at r f n s e
   rw [List.getElem?_append_left (by omega),List.getElem?_append_left (by omega),List.getElem?_append_left (by omega),List.getElem?_append_left (by omega)]
   exact⟨h1,h2,h3,h4⟩
  ·obtain rfl:s=n:=by omega
   rw [List.getElem?_append_right (by omega),List.getElem?_append_right (by omega),List.getElem?_append_right (by omega),List.getElem?_append_right (by omega),hl]
   have e0:s*4-s*4=0:=by omega
   have e1:s*4+1-s*4=1:=by omega
   have e2:s*4+2-s*4=2:=by omega
   have e3:s*4+3-s*4=3:=by omega
   rw [e0,e1,e2,e3]
   exact⟨rfl,rfl,rfl,rfl⟩
def LinesAt (w:Zw) (b o n:Nat) (r:Int) (f:Nat→Int×Int):Prop:=∀ s,s < n→w.cell? ⟨b,o+s*4,none⟩=some (Z Y r)∧w.cell? ⟨b,o+s*4+1,none⟩=some (Z Y s)∧w.cell? ⟨b,o+s*4+2,none⟩=some (Z Y (f s).1)∧w.cell? ⟨b,o+s*4+3,none⟩=some (Z Y (f s).2)
theorem LinesAt.below {w w1:Zw} {b o n:Nat} {r:Int} {f:Nat→Int×Int} (h:LinesAt w b o n r f) (hb:Zb w.heap.size w w1):LinesAt w1 b o n r f:=fun s hs=>by
 obtain⟨h1,h2,h3,h4⟩:=h s hs
 have hl:=Zl w _ h1
 exact⟨keep_of h1 hl hb,keep_of h2 hl hb,keep_of h3 hl hb,keep_of h4 hl hb⟩
theorem course_log {c:NC} {T z F zc v NB LO:Nat} {w:Zw} (P:Play c T z F zc v) (hT:S0 c T≤F) (hF:F≤1000) (H:Course c T z F zc v NB LO (F+2) w):∃ ND,w.cell? ⟨NB,18,none⟩=some (.slice (some ⟨ND,0,none⟩) c.N c.N)∧∀ i,i < c.N→∃ n lv xs,w.cell? ⟨ND,i*7+6,none⟩=some lv∧w.ownsRow LO 48 4 lv n xs∧c.N+c.ps.length≤n∧n≤10000∧(∀ u ∈ xs,u.oneCell'=true) ∧
 ∀ j u,(lineCells (F:Int) (fun sl=>toI (payP c F zc v F sl)) (c.N+c.ps.length))[j]?=some u→xs[(n-(c.N+c.ps.length))*4+j]?=some u:=by
 obtain⟨s,⟨ND,base,m,lv,H⟩,I⟩:=H
 refine⟨ND,H.nd.n,fun i hi=>⟨s.n i,lv i,s.xs i,H.cl i hi,H.own i hi,?_⟩⟩
 obtain⟨pre,hx⟩:=I.p5 (by omega) i hi
 have hl:=I.sh.xl i hi
 have hn:=I.sh.hn i hi
 have n0:=P.ok.cf.n0
 have h0:=congrArg List.length hx
 rw [List.length_append,lineCells_length]at h0
 have hpre:pre.length=(s.n i-(c.N+c.ps.length))*4:=by omega
 have hr:((F+2:Nat):Int)-2=F:=by omega
 have hr2:F+2-2=F:=by omega
 refine⟨by omega,by omega,fun u hu=>by obtain⟨z,rfl⟩:=I.sh.x1 i hi u hu;rfl,fun j u hj=>?_⟩
 rw [hx,← hpre,hr,hr2,List.getElem?_append_right (by omega),Nat.add_sub_cancel_left]
 exact hj
theorem lines_at {w:Zw} {g o n:Nat} {r:Int} {f:Nat→Int×Int} {xs:List Value} (h:∀ j u,xs[j]?=some u→w.cell? ⟨g,j,none⟩=some u) (hx:∀ j u,(lineCells r f n)[j]?=some u→xs[o+j]?=some u):LinesAt w g o n r f:=fun s hs=>by
 obtain⟨h1,h2,h3,h4⟩:=lineCells_at r f n s hs
 exact⟨h _ _ (hx _ _ h1),h _ _ (hx _ _ h2),h _ _ (hx _ _ h3),h _ _ (hx _ _ h4)⟩
theorem ref_Lines (b1 o1 c1 b2 o2 c2 n:Nat) (r:Int) (f:Nat→Int×Int) (w:Zw) (hn:n≤20) (h1:LinesAt w b1 o1 n r f) (h2:LinesAt w b2 o2 n r f) :
 Zc Zp 16 #[.slice (some ⟨b1,o1,none⟩) n c1,.slice (some ⟨b2,o2,none⟩) n c2] w fun e w'=>e=.returned (.bool true)∧Zb w.heap.size w w':=by
 have H1:=O h1
 have H2:=O h2
 clear h1 h2
 go_enter Tryz.func16,Tryz.ntmps16
 go_wp2
 go_loopw [5] (fun t wr=>∃ k:Nat,k≤n∧t=Z Y k∧Zb w.heap.size w wr) (fun t _=>n-(intOf t).toNat)
 case atStart=>exact⟨0,by omega,rfl,bB⟩
 case round =>
  obtain⟨k,hk,rfl,hb⟩:=hrel
  have HB:=O hb
  by_cases hlt:k < n
  ·have lk:(k:Int) < (n:Int):=by omega
   obtain⟨a0,a1,a2,a3⟩:=H1.out.below hb k hlt
   obtain⟨q0,q1,q2,q3⟩:=H2.out.below hb k hlt
   generalize (f k).1=x at *
   generalize (f k).2=y at *
   clear hb
   go_wp2_with fail
   refine wp_region_held_drew (S:=fun w'=>w'.cell? ⟨b1,o1+k*4,none⟩=some (Z Y r)∧w'.cell? ⟨b1,o1+k*4+1,none⟩=some (Z Y k)∧w'.cell? ⟨b1,o1+k*4+2,none⟩=some (Z Y x)∧w'.cell? ⟨b1,o1+k*4+3,none⟩=some (Z Y y)∧w'.cell? ⟨b2,o2+k*4,none⟩=some (Z Y r)∧w'.cell? ⟨b2,o2+k*4+1,none⟩=some (Z Y k)∧w'.cell? ⟨b2,o2+k*4+2,none⟩=some (Z Y x)∧w'.cell? ⟨b2,o2+k*4+3,none⟩=some (Z Y y)) (by kernel_rfl) ⟨a0,a1,a2,a3,q0,q1,q2,q3⟩ (fun hHeld=>?_)
   refine rgT 0 ?_
   refine rgT 1 ?_
   refine rgT 2 ?_
   refine rgT 3 ?_
   refine rgT 4 ?_
   refine rgT 5 ?_
   refine rgT 6 ?_
   refine rgT 7 ?_
   refine rgT 8 ?_
   refine wpAnyH_done (by kernel_rfl) ?_ _
   clear hHeld a0 a1 a2 a3 q0 q1 q2 q3
   go_wp2
   go_roundw
   case rel=>exact⟨k+1,by omega,by go_num,HB.out.drew⟩
   case measure=>simp [intOf];omega
  ·obtain rfl:n=k:=by omega
   have lk:¬(n:Int) < (n:Int):=by omega
   clear hb
   go_wp2
   go_ret
   exact⟨rfl,HB.out⟩
end C9
namespace C10
open Go.RowKit A1 A4 A11 A14 A18 A35 A41 A48 A66 A72 A73 B9 B11 B13 C1 C2 C3 C4 C5 C7 C8 C9
theorem eq45s (b o n m:Nat) (w:Zw):(binOp BinOp.eql 45 (.slice (some ⟨b,o,none⟩) n m) (.slice none 0 0)).run Zp w=.ok (.bool false) w:=by kernel_rfl
theorem box10 {w:Zw} {B:Nat} {a b d e f g i j k l:Value} {t:TypeId} (h:w.heap[B]?=some (.cells #[a,b,d,e,f,g,i,j,k,l] t (0,0))):w.cell? ⟨B,0,none⟩=some a∧w.cell? ⟨B,1,none⟩=some b∧w.cell? ⟨B,2,none⟩=some d∧w.cell? ⟨B,3,none⟩=some e∧w.cell? ⟨B,4,none⟩=some f∧w.cell? ⟨B,5,none⟩=some g∧w.cell? ⟨B,6,none⟩=some i∧w.cell? ⟨B,7,none⟩=some j∧w.cell? ⟨B,8,none⟩=some k∧w.cell? ⟨B,9,none⟩=some l :=
 ⟨bcell h 0,bcell h 1,bcell h 2,bcell h 3,bcell h 4,bcell h 5,bcell h 6,bcell h 7,bcell h 8,bcell h 9⟩
theorem course_drew {c:NC} {T z F zc v NB LO r:Nat} {w:Zw} (H:Course c T z F zc v NB LO r w):Course c T z F zc v NB LO r w.drew:=by
 obtain⟨s,⟨ND,base,m,lv,H⟩,I⟩:=H
 exact⟨s,⟨ND,base,m,lv,⟨H.nd.below H.sep ((Zf _ _).drew),H.sep,H.ng,H.gd,H.ct,H.cw,H.cl,H.ls,fun i hi=>(H.own i hi).drew,H.ne,H.base,H.c19,H.c20,H.fN,H.fD⟩⟩,I⟩
theorem neq45n (w:Zw):(binOp BinOp.neq 45 (.slice none 0 0) (.slice none 0 0)).run Zp w=.ok (.bool false) w:=by kernel_rfl
theorem neq45s (b o n m:Nat) (w:Zw):(binOp BinOp.neq 45 (.slice (some ⟨b,o,none⟩) n m) (.slice none 0 0)).run Zp w=.ok (.bool true) w:=by kernel_rfl
theorem TopBack_yes (a0 a1 a2 a3 a4:Int) (PA0:Option Addr) (l0:List Int) (C0:Nat) (on0 dr0 er0:List Int) (OA0 DA0 EA0 KA:Option Addr) (OC0 DC0 EC0 KL KC:Nat) (b0 b1 b2 b3:Int) (CA:Option Addr) (CL CC:Nat) (VA:Option Addr) (vs:List Int) (VC:Nat) (tz v:Int) (w:Zw)
 (hP:Ints w PA0 l0) (hPL:l0.length≤9223372036854775807) (hO:Ints w OA0 on0) (hOL:on0.length≤9223372036854775807) (hD:Ints w DA0 dr0) (hDL:dr0.length≤9223372036854775807) (hE:Ints w EA0 er0) (hEL:er0.length≤9223372036854775807)
 (hA:ActsAt w CA CL) (hL:CL≤9223372036854775807) (hV:Ints w VA vs) (hVL:vs.length≤9223372036854775807) :
 Zc Zp 4 #[.agg #[Z Y a0,Z Y a1,Z Y a2,Z Y a3,Z Y a4,.slice PA0 l0.length C0],.agg #[.slice OA0 on0.length OC0,.slice DA0 dr0.length DC0,.slice EA0 er0.length EC0,.slice KA KL KC,Z Y b0,Z Y b1,Z Y b2,Z Y b3,.slice CA CL CC,.slice VA vs.length VC],Z Y tz,Z Y v] w fun e w'=>e=.returned (.bool true)∧Zb w.heap.size w w':=by
 obtain⟨hC,hR,hz,hB⟩:=two w (.cells #[Z Y a0,Z Y a1,Z Y a2,Z Y a3,Z Y a4,.slice PA0 l0.length C0] 24) (.cells #[.slice OA0 on0.length OC0,.slice DA0 dr0.length DC0,.slice EA0 er0.length EC0,.slice KA KL KC,Z Y b0,Z Y b1,Z Y b2,Z Y b3,.slice CA CL CC,.slice VA vs.length VC] 29)
 have HRows:=O (And.intro hP (And.intro hO (And.intro hD (And.intro hE (And.intro hA hV)))))
 have lo:=fun A l (h:Ints w A l) (w':Zw) (hb:Zb w.heap.size w w')=>C2.ints_low h hb (C2.ints_lt h) (Zr _)
 have HLo:=O lo
 clear hP hO hD hE hA hV lo
 go_enter Tryz.func4,Tryz.ntmps4
 go_upto_region 1 with fail
 generalize (w.alloc (.cells #[Z Y a0,Z Y a1,Z Y a2,Z Y a3,Z Y a4,.slice PA0 l0.length C0] 24)).alloc (.cells #[.slice OA0 on0.length OC0,.slice DA0 dr0.length DC0,.slice EA0 er0.length EC0,.slice KA KL KC,Z Y b0,Z Y b1,Z Y b2,Z Y b3,.slice CA CL CC,.slice VA vs.length VC] 29)=wa at *
 have HC:=O hC
 have HR:=O hR
 have HB:=O hB
 clear hC hR hB
 go_wp2_with fail
 refine(known_yes wa).mono ?_
 rintro e w1 ⟨rfl,hb1⟩
 have s1:=hb1.size
 have HB1:=O (HB.out.trans (hb1.mono (by omega)))
 have HC1:=O ((hb1.block _ (by omega)).trans HC.out)
 have hR1:=(hb1.block _ hz).trans HR.out
 have HR1:=O hR1
 obtain⟨y0,y1,y2,y3,y4,y5,y6,y7,y8,y9⟩:=box10 hR1
 clear hb1 hR1 HC HR HB
 go_wp2_with fail
 refine(l17_Few _ _ _ _ _ _ _ _ _ _ _ _ b0 b1 b2 b3 CA CL CC VA vs.length VC w1 (HRows.out.2.2.2.2.1.below HB1.out) hL).mono ?_
 rintro e w2 ⟨b,rfl,hb2⟩
 have s2:=hb2.size
 have HB2:=O (HB1.out.trans (hb2.mono (by omega)))
 have hC2:=(hb2.block _ (by omega)).trans HC1.out
 have hR2:=(hb2.block _ (by omega)).trans HR1.out
 have HC2:=O hC2
 have HR2:=O hR2
 clear y0 y1 y2 y3 y4 y5 y6 y7 y8 y9 hb2 HC1 HR1 HB1
 cases b
 ·go_wp2
  go_ret
  exact⟨rfl,HB2.out⟩
 ·obtain⟨x0,x1,x2,x3,x4,x5⟩:=box6 hC2
  clear hC2 hR2
  go_wp2_with fail
  refine(l17_Conf a0 a1 a2 a3 a4 PA0 l0 C0 w2 (HLo.out _ _ HRows.out.1 _ HB2.out) hPL).mono ?_
  rintro e w3 ⟨N,Pi,Er,G,Fi,ps,PA,PC,rfl,hcf,hPs,hPb,hb3⟩
  have s3:=hb3.size
  have HB3:=O (HB2.out.trans (hb3.mono (by omega)))
  have HC3:=O ((hb3.block _ (by omega)).trans HC2.out)
  have HR3:=O ((hb3.block _ (by omega)).trans HR2.out)
  have n0:=hcf.n0
  have n1:=hcf.n1
  have HCf:=O hcf
  have hD4:=Zh w3 (.cells #[Z Y N,Z Y Pi,Z Y Er,Z Y G,Z Y Fi,.slice PA ps.length PC] 24)
  have hb4:Zb w3.heap.size w3 (w3.alloc (.cells #[Z Y N,Z Y Pi,Z Y Er,Z Y G,Z Y Fi,.slice PA ps.length PC] 24)):=(Zf _ _).alloc (Zr _) _
  clear x0 x1 x2 x3 x4 x5 hb3 HC2 HR2 HB2 hcf
  go_upto_region 6 with fail
  generalize w3.alloc (.cells #[Z Y N,Z Y Pi,Z Y Er,Z Y G,Z Y Fi,.slice PA ps.length PC] 24)=w4 at *
  have s4:=hb4.size
  have lD4:=heap_lt hD4
  have hR4:=(hb4.block _ (by omega)).trans HR3.out
  have HB4:=O (HB3.out.trans (hb4.mono (by omega)))
  have HP4:=O (hPs.below hb4)
  have HPl:=O hPb
  clear hPb
  have y3:=bcell hR4 3
  change _=some _ at y3
  have f3:w4.frozen? ⟨w.heap.size+1,3,none⟩=false:=by simp [World.frozen?,hR4]
  have hR5:(w4.setCell ⟨w.heap.size+1,3,none⟩ (.slice none 0 0)).heap[w.heap.size+1]?=some (.cells #[.slice OA0 on0.length OC0,.slice DA0 dr0.length DC0,.slice EA0 er0.length EC0,.slice none 0 0,Z Y b0,Z Y b1,Z Y b2,Z Y b3,.slice CA CL CC,.slice VA vs.length VC] 29 (0,0)):=heap_setCell_same _ _ 3 _ _ (.slice none 0 0) hR4
  have hb5:=((But.refl (fun b=>b=w.heap.size+1) w4).setCell (p:=⟨w.heap.size+1,3,none⟩) (.inl rfl) (.slice none 0 0))
  have HR5:=O hR5
  have HB5b:=O hb5
  clear hb4 hR4 hPs HC3 HR3 HB3 hR5 hb5
  go_upto_region 7 with fail
  clear y3 f3
  generalize w4.setCell ⟨w.heap.size+1,3,none⟩ (.slice none 0 0)=w5 at *
  have s5:=HB5b.out.size
  have hD5:=(HB5b.out.block _ lD4 (by omega)).trans hD4
  have HB5:=O (HB4.out.trans (HB5b.out.to_below (by omega) (fun b e=>by omega)))
  obtain⟨d0,d1,d2,d3,d4,d5⟩:=box6 hD5
  obtain⟨y0,y1,y2,y3,y4,y5,y6,y7,y8,y9⟩:=box10 HR5.out
  have HD5:=O hD5
  have HLa:=O (Late N Pi Er G Fi PA ps.length PC on0 dr0 er0 OA0 DA0 EA0 OC0 DC0 EC0 b0 b1 b2 b3 CA CL CC VA vs VC w5 (by omega) (by omega) HCf.out.e0 HCf.out.e1 HCf.out.g0 HCf.out.g1 (HRows.out.2.2.2.2.1.below HB5.out) hL (HLo.out _ _ HRows.out.2.2.2.2.2 _ HB5.out) hVL (HLo.out _ _ HRows.out.2.1 _ HB5.out) hOL (HLo.out _ _ HRows.out.2.2.1 _ HB5.out) hDL (HLo.out _ _ HRows.out.2.2.2.1 _ HB5.out) hEL)
  clear hD5 hD4
  go_wp2_with fail
  refine HLa.out.mono ?_
  rintro e w6 ⟨on,dr,er,OA1,DA1,EA1,OC1,DC1,EC1,fk,fa,FA,la,FC,HA,vd,HCp,rfl,hol,hon,hdl,hel,hI0,hI1,hI2,_,_,_,hloc,hb6⟩
  rw [hol]
  have s6:=hb6.size
  have hS7:=Zh w6 (.cells #[.slice OA1 N OC1,.slice DA1 dr.length DC1,.slice EA1 er.length EC1,.slice none 0 0,Z Y fk,Z Y fa,Z Y (2*N+11),Z Y 1000,.slice FA la.length FC,.slice HA vd.length HCp,Z Y (2*N+28)] 34)
  have hb7:Zb w6.heap.size w6 (w6.alloc (.cells #[.slice OA1 N OC1,.slice DA1 dr.length DC1,.slice EA1 er.length EC1,.slice none 0 0,Z Y fk,Z Y fa,Z Y (2*N+11),Z Y 1000,.slice FA la.length FC,.slice HA vd.length HCp,Z Y (2*N+28)] 34)):=(Zf _ _).alloc (Zr _) _
  clear d0 d1 d2 d3 d4 d5 y0 y1 y2 y3 y4 y5 y6 y7 y8 y9 HLa
  go_upto_region 8 with fail
  generalize w6.alloc (.cells #[.slice OA1 N OC1,.slice DA1 dr.length DC1,.slice EA1 er.length EC1,.slice none 0 0,Z Y fk,Z Y fa,Z Y (2*N+11),Z Y 1000,.slice FA la.length FC,.slice HA vd.length HCp,Z Y (2*N+28)] 34)=w7 at *
  have s7:=hb7.size
  have lS7:=heap_lt hS7
  have hD7:=(hb7.block _ (by omega)).trans ((hb6.block _ (by omega)).trans HD5.out)
  have HD7:=O hD7
  have HB7:=O (HB5.out.trans ((hb6.mono (by omega)).trans (hb7.mono (by omega))))
  have HI0:=O (hI0.below hb7)
  have HI1:=O (hI1.below hb7)
  have HI2:=O (hI2.below hb7)
  have HLi:=O (And.intro (C2.ints_lt hI0) (And.intro (C2.ints_lt hI1) (C2.ints_lt hI2)))
  have hR7:=(hb7.block _ (by omega)).trans ((hb6.block _ (by omega)).trans HR5.out)
  have HLt:=O (And.intro (C5.acs_lt hloc.a) (C2.ints_lt hloc.d))
  have HL7:=O (hloc.below hb7)
  have HP5:=O (show Ints w5 PA ps from ints_keep HP4.out HB5b.out (fun b off e h=>by have:=HPl.out b off e;omega))
  have HP7:=O ((((show Ints w5 PA ps from ints_keep HP4.out HB5b.out (fun b off e h=>by have:=HPl.out b off e;omega)).below hb6).below hb7))
  obtain⟨d0,_,_,_,_,_⟩:=box6 hD7
  obtain⟨_,_,_,_,c4,c5,c6,c7,_,_,_⟩:=box11 hS7
  have y5:=bcell hR7 5
  change _=some _ at y5
  have qf:∀ o,w7.frozen? ⟨w6.heap.size,o,none⟩=false:=fun o=>by simp [World.frozen?,hS7]
  have u4:=qf 4
  have u5:=qf 5
  have HS7:=O hS7
  obtain⟨z,hzz⟩:∃ z:Nat,b1%(N:Int)=z:=⟨(b1%(N:Int)).toNat,by have:=Int.emod_nonneg b1 (show(N:Int)≠0 by omega);omega⟩
  have hzN:z < N:=by have:=Int.emod_lt_of_pos b1 (show(0:Int) < N by omega);omega
  obtain⟨t6,ht6⟩:∃ t6:Nat,tz%6=t6:=⟨(tz%6).toNat,by omega⟩
  have ht6b:t6 < 6:=by omega
  obtain⟨vv,hvv⟩:∃ vv:Nat,v%256=vv:=⟨(v%256).toNat,by omega⟩
  have hvb:vv≤255:=by omega
  obtain⟨TO,hTO⟩:∃ TO:Nat,TO=2*N+11+t6:=⟨_,rfl⟩
  have HW1:=O (fun w=>(top_within b1 N w (by omega) (by omega)).mono fun e w' h=>(show e=.returned (Z Y z)∧w=w' from⟨by rw [h.1,hzz],h.2⟩))
  have HW2:=O (fun w=>(top_within tz 6 w (by omega) (by omega)).mono fun e w' h=>(show e=.returned (Z Y t6)∧w=w' from⟨by rw [h.1,ht6],h.2⟩))
  have HW3:=O (fun w=>(top_within v 256 w (by omega) (by omega)).mono fun e w' h=>(show e=.returned (Z Y vv)∧w=w' from⟨by rw [h.1,hvv],h.2⟩))
  have q1:IntKind.i64.wrap (2*(N:Int)+11+t6)=TO:=by rw [IntKind.wrap_i64];omega
  have q2:IntKind.i64.wrap ((TO:Int)+5)=TO+5:=by rw [IntKind.wrap_i64];omega
  have q3:IntKind.i64.wrap ((TO:Int)+7)=TO+7:=by rw [IntKind.wrap_i64];omega
  have HT:=O (And.intro (show 2*N+11≤TO by omega) (show TO≤2*N+16 by omega))
  clear hb6 hb7 hI0 hI1 hI2 hS7 hD7 hR7 qf HD5 HB5b HR5 HP4 HB4 HB5 hloc hTO ht6 hvv hzz
  go_upto_region 9 with(first | (go_at_call 9;refine(HW1.out _).mono ?_;rintro e w' ⟨rfl,rfl⟩) | fail)
  have hS8:=heap_setCell_same _ _ 5 _ _ (Z Y z) (heap_setCell_same _ _ 4 _ _ (Z Y 1) HS7.out)
  have hb8:=((But.refl (fun b=>b=w6.heap.size) w7).setCell (p:=⟨w6.heap.size,4,none⟩) (.inl rfl) (Z Y 1)).setCell (p:=⟨w6.heap.size,5,none⟩) (.inl rfl) (Z Y z)
  clear c4 c5 c6 c7 u4 u5 d0 y5 HS7
  simp only [List.setIfInBounds_toArray,List.set_cons_zero,List.set_cons_succ]at hS8
  generalize (w7.setCell ⟨w6.heap.size,4,none⟩ (Z Y 1)).setCell ⟨w6.heap.size,5,none⟩ (Z Y z)=w8 at *
  have c6:=bcell hS8 6
  have c7:=bcell hS8 7
  change _=some _ at c6 c7
  have u7:w8.frozen? ⟨w6.heap.size,7,none⟩=false:=by simp [World.frozen?,hS8]
  have HS8:=O hS8
  have HB8:=O hb8
  clear hS8 hb8
  refine AT.wp_region_tail (S:=fun w'=>w'.cell? ⟨w6.heap.size,6,none⟩=some (Z Y (2*N+11))) [6,7,8] (by kernel_rfl) c6 (fun hHeld=>?_)
  refine rgU 0 ?_
  refine rgU 1 ?_
  refine rgU 2 ?_
  refine rgU 3 ?_
  refine rgV 4 fun K hK=>?_
  go_simp
  refine(HW2.out _).mono ?_
  rintro e w' ⟨rfl,rfl⟩
  go_simp
  refine hK.out _ _ c6 (fun hHeld=>?_)
  clear hK K
  refine rgU 5 ?_
  refine rgW 6 fun K hK=>?_
  go_simp
  refine hK.out _ _ ?_
  clear hK K
  refine rgW 7 fun K hK=>?_
  go_simp
  refine hK.out _ _ ?_
  clear hK K
  refine rgW 8 fun K hK=>?_
  go_simp
  refine hK.out _ _ ?_
  clear hK K
  refine AT.wpT_done (by kernel_rfl) ?_ _
  clear hHeld c6 c7 u7
  go_upto_region 10 with fail
  have hS9:=heap_setCell_same _ _ 7 _ _ (Z Y TO) HS8.out
  have hb9:=(HB8.out.setCell (p:=⟨w6.heap.size,7,none⟩) (.inl rfl) (Z Y TO)).drew
  change (w8.setCell ⟨w6.heap.size,7,none⟩ (Z Y TO)).drew.heap[w6.heap.size]?=_ at hS9
  simp only [List.setIfInBounds_toArray,List.set_cons_zero,List.set_cons_succ]at hS9
  generalize (w8.setCell ⟨w6.heap.size,7,none⟩ (Z Y TO)).drew=w9 at *
  have HS9:=O hS9
  have HB9:=O hb9
  have s9:=hb9.size
  clear hS9 hb9 HS8 HB8
  go_upto_region 11 with(first | (go_at_call 9;refine(HW3.out _).mono ?_;rintro e w' ⟨rfl,rfl⟩) | fail)
  obtain⟨_,_,_,c3,_,c5,_,c7,_,_,_⟩:=box11 HS9.out
  have hL10:=Zh w9 (.cells #[Z Y ((TO:Int)+5),Z Y z,Z Y 0,Z Y vv] 52)
  have hb10:Zb w9.heap.size w9 (w9.alloc (.cells #[Z Y ((TO:Int)+5),Z Y z,Z Y 0,Z Y vv] 52)):=(Zf _ _).alloc (Zr _) _
  have hS10:=(hb10.block w6.heap.size (by omega)).trans HS9.out
  have k3:=bcell hS10 3
  change _=some _ at k3
  have u3:(w9.alloc (.cells #[Z Y ((TO:Int)+5),Z Y z,Z Y 0,Z Y vv] 52)).frozen? ⟨w6.heap.size,3,none⟩=false:=by simp [World.frozen?,hS10]
  have HL10:=O hL10
  have HB10:=O hb10
  have HS10:=O hS10
  clear hL10 hb10 hS10
  go_upto_region 12 with fail
  clear k3 u3 c3 c5 c7
  have hS11:=heap_setCell_same _ _ 3 _ _ (.slice (some ⟨w9.heap.size,0,none⟩) 1 1) HS10.out
  have hb11:=(But.refl (fun b=>b=w6.heap.size) (w9.alloc (.cells #[Z Y ((TO:Int)+5),Z Y z,Z Y 0,Z Y vv] 52))).setCell (p:=⟨w6.heap.size,3,none⟩) (.inl rfl) (.slice (some ⟨w9.heap.size,0,none⟩) 1 1)
  simp only [List.setIfInBounds_toArray,List.set_cons_zero,List.set_cons_succ]at hS11
  have s10:=HB10.out.size
  generalize w9.alloc (.cells #[Z Y ((TO:Int)+5),Z Y z,Z Y 0,Z Y vv] 52)=w10 at *
  generalize w10.setCell ⟨w6.heap.size,3,none⟩ (.slice (some ⟨w9.heap.size,0,none⟩) 1 1)=w11 at *
  have s11:=hb11.size
  have l10:=heap_lt HL10.out
  have hL11:=(hb11.block w9.heap.size l10 (by omega)).trans HL10.out
  have hD11:=(hb11.block w3.heap.size (by omega) (by omega)).trans ((HB10.out.block _ (by omega)).trans ((HB9.out.block _ (by omega) (by omega)).trans HD7.out))
  have HB11:=O ((HB7.out.trans (HB9.out.to_below (by omega) (fun b e=>by omega))).trans ((HB10.out.mono (by omega)).trans (hb11.to_below (by omega) (fun b e=>by omega))))
  have hPs:=ints_keep ((ints_keep HP7.out HB9.out (fun b off e h=>by have:=C2.ints_lt HP5.out b off e h;omega)).below HB10.out) hb11 (fun b off e h=>by have:=C2.ints_lt HP5.out b off e h;omega)
  have hi0:=ints_keep ((ints_keep HI0.out HB9.out (fun b off e h=>by have:=HLi.out.1 b off e h;omega)).below HB10.out) hb11 (fun b off e h=>by have:=HLi.out.1 b off e h;omega)
  have hi1:=ints_keep ((ints_keep HI1.out HB9.out (fun b off e h=>by have:=HLi.out.2.1 b off e h;omega)).below HB10.out) hb11 (fun b off e h=>by have:=HLi.out.2.1 b off e h;omega)
  have hi2:=ints_keep ((ints_keep HI2.out HB9.out (fun b off e h=>by have:=HLi.out.2.2 b off e h;omega)).below HB10.out) hb11 (fun b off e h=>by have:=HLi.out.2.2 b off e h;omega)
  have hloc:=((HL7.out.keep HB9.out (.inr HLt.out)).below HB10.out).keep hb11 (.inr HLt.out)
  have hcls:Cls w11 (some ⟨w9.heap.size,0,none⟩) [⟨TO+5,z,0,vv⟩]:=fun k hk=>by
   have:k=0:=by have:k < 1:=hk;omega
   subst this
   exact⟨w9.heap.size,0,rfl,by omega,bcell hL11 0,bcell hL11 1,bcell hL11 2,bcell hL11 3⟩
  obtain⟨T,hPlay⟩:=back_play (PA:=PA) (OA:=OA1) (DA:=DA1) (EA:=EA1) (LA:=some ⟨w9.heap.size,0,none⟩) (CA:=FA) (VA:=HA) (PC:=PC) (OC:=OC1) (DC:=DC1) (EC:=EC1) (LC:=1) (CC:=FC) (VC:=HCp) (z:=z) (v:=vv) HCf.out hol hon hdl hel hzN hvb HT.out.1 HT.out.2 hloc.l hloc.s hloc.m
  have hN13:=net_New ⟨N,Pi,Er,G,Fi,ps,PA,PC,on,OA1,OC1,dr,DA1,DC1,er,EA1,EC1,[⟨TO+5,z,0,vv⟩],some ⟨w9.heap.size,0,none⟩,1,1,z,2*N+11,TO,FA,la,FC,HA,vd,HCp,2*N+28⟩ w11 hPlay.ok hPs hi0 hi1 hi2 hcls (fun e=>by cases e) hloc.a hloc.d hloc.n (by show(z:Int) < (if(1:Int)=1 then(N:Int)else 1);rw [if_pos rfl];omega) (fun k hk=>by
   have hm:on.getD k 0 ∈ on:=by rw [List.getD_eq_getElem?_getD,List.getElem?_eq_getElem hk];exact List.getElem_mem _
   have:=hon _ hm
   show -1≤on.getD k 0∧on.getD k 0≤200
   omega) (fun k hk=>by
   have:k=0:=by have:k < 1:=hk;omega
   subst this
   exact⟨by show TO+5≤200;have:=HT.out.2;omega,hzN,Nat.zero_le _⟩)
  have HN13:=O hN13
  have HPlay:=O hPlay
  have HD11:=O hD11
  have HS11:=O hS11
  obtain⟨d0,d1,d2,d3,d4,d5⟩:=box6 hD11
  obtain⟨c0,c1,c2,c3,c4,c5,c6,c7,c8,c9,c10⟩:=box11 hS11
  clear hL11 hD11 hS11 hb11 hPs hi0 hi1 hi2 hloc hcls hN13 hPlay HP7 HP5 HI0 HI1 HI2 HL7 HLt HLi HB9 HB10 HS9 HS10 HL10 HD7 HB7
  go_wp2_with fail
  refine HN13.out.mono ?_
  rintro e w12 ⟨LO,PA',OA',DA',EA',LA',FA',VA',PC',OC',DC',EC',LC',FC',VC',Q,rfl,hb13,hLO,hNet⟩
  have hPl:=C8.Play.made HPlay.out PA' OA' DA' EA' LA' FA' VA' PC' OC' DC' EC' LC' FC' VC'
  obtain⟨c,hcN,hcp,hcR,hcl,P,hCo⟩:∃ c:NC,c.N=N∧c.ps.length=ps.length∧c.rounds=2*N+28∧c.cl.length≠0∧Play c T z (TO+5) z vv∧Course c T z (TO+5) z vv (LO+1) LO 0 w12 :=
   ⟨_,rfl,rfl,rfl,(by show(1:Nat)≠0;decide),hPl,Stt.start,⟨_,_,_,_,hNet⟩,Inv.begin hPl⟩
  clear hPl
  have HP:=O P
  have HC0:=O hCo
  have hpay:payP c (TO+5) z vv (TO+5) z=(2,vv):=by unfold payP;rw [if_pos (by omega),if_pos ⟨rfl,rfl,hcl⟩]
  have s12:=hb13.size
  have HB12:=O (HB11.out.trans (hb13.mono (by omega)))
  have HD12:=O ((hb13.block _ (by omega)).trans HD11.out)
  have HS12:=O ((hb13.block _ (by omega)).trans HS11.out)
  have hplen:=HCf.out.len
  have ht0:=HT.out.1
  have ht1:=HT.out.2
  clear HN13 hNet hb13 P hCo hcl d0 d1 d2 d3 d4 d5 c0 c1 c2 c3 c4 c5 c6 c7 c8 c9 c10 HPlay HB11 HD11 HS11 HW1 HW2 HW3 q1
  go_wp2
  go_loopw [] (fun wr=>∃ r:Nat,r≤TO+7∧Course c T z (TO+5) z vv (LO+1) LO r wr∧Zb LO w12 wr) (fun wr=>TO+7-roundOf wr (LO+1))
  case atStart=>exact⟨0,by omega,HC0.out,Zf _ _⟩
  case round =>
   obtain⟨r,hr,hC,hbw⟩:=hrel
   have hrd:=roundOf_is (course_r hC)
   have hCd:=course_drew hC
   have h17:=course_r hCd
   have HCr:=O hCd
   have HBw:=O (hbw.drew)
   have HRd:=O (show Zc Zp 14 #[.pointer (some ⟨LO+1,0,none⟩)] wr.drew fun e w'=>e=.returned (Z Y r)∧wr.drew=w' from(net_Round (LO+1) r _ h17).mono fun e w' h=>⟨h.1,h.2.symm⟩)
   have sw:=hbw.size
   have e7:=bcell ((hbw.block w6.heap.size (by omega)).trans HS12.out) 7
   change _=some _ at e7
   by_cases hlt:r < TO+7
   ·have lr:(r:Int) < (TO:Int)+7:=by omega
    have HSt:=O (course_step HP.out hCd (by rw [hcR];omega))
    clear hC hCd h17 hbw
    go_wp2_with fail
    refine wp_region_held_drew (S:=fun w'=>w'.cell? ⟨w6.heap.size,7,none⟩=some (Z Y TO)) (by kernel_rfl) e7 (fun hHeld=>?_)
    refine rgT 0 ?_
    refine rgT 2 ?_
    refine rgT 3 ?_
    refine rgT 4 ?_
    refine rgT 5 ?_
    refine rgR 1 fun K hK=>?_
    go_simp
    refine HRd.out.mono ?_
    rintro e w' ⟨rfl,rfl⟩
    go_simp
    refine hK.out _ _ e7 (fun hHeld=>?_)
    clear hK K
    refine rgT 6 ?_
    refine rgT 7 ?_
    refine rgT 8 ?_
    refine rgR 9 fun K hK=>?_
    go_simp
    refine HSt.out.mono ?_
    rintro e w14 ⟨rfl,hb2,hC2⟩
    have e7':=(hb2.cell (p:=⟨w6.heap.size,7,none⟩) (show w6.heap.size < LO by omega)).trans e7
    go_simp
    refine hK.out _ _ e7' (fun hHeld=>?_)
    clear hK K
    refine rgT 10 ?_
    refine wpAnyH_done (by kernel_rfl) ?_ _
    have HC2:=O hC2
    have hrd2:=roundOf_is (course_r hC2)
    have HB2:=O (HBw.out.trans (hb2.mono (by omega)))
    clear hC2 hb2 hHeld e7 e7'
    go_wp2
    go_roundw
    case rel=>exact⟨r+1,by omega,HC2.out,HB2.out⟩
    case measure=>rw [hrd,hrd2];omega
   ·obtain rfl:r=TO+7:=by omega
    have lr:¬((TO+7:Nat):Int) < (TO:Int)+7:=by omega
    have lr2:(decide (((TO+7:Nat):Int) < (TO:Int)+7))=false:=by simp
    clear hC hCd h17 hbw
    go_wp2_with fail
    refine wp_region_held_drew (S:=fun w'=>w'.cell? ⟨w6.heap.size,7,none⟩=some (Z Y TO)) (by kernel_rfl) e7 (fun hHeld=>?_)
    refine rgT 0 ?_
    refine rgT 2 ?_
    refine rgT 3 ?_
    refine rgT 4 ?_
    refine rgT 5 ?_
    refine rgR 1 fun K hK=>?_
    go_simp
    refine HRd.out.mono ?_
    rintro e w' ⟨rfl,rfl⟩
    go_simp
    refine hK.out _ _ e7 (fun hHeld=>?_)
    clear hK K
    refine rgT 6 ?_
    refine rgT 7 ?_
    refine rgS 8 ?_
    refine rgS 9 ?_
    refine rgT 10 ?_
    refine wpAnyH_done (by kernel_rfl) ?_ _
    clear hHeld e7
    obtain⟨ND,h18,hlog⟩:=course_log HP.out (S0_le HP.out) (by omega) HCr.out
    rw [hcN,hcp]at hlog
    rw [hcN]at h18
    have hF:((TO+5:Nat):Int)=(TO:Int)+5:=by omega
    have HLog:=O hlog
    have HN18:=O h18
    have HDz:=O ((HBw.out.block _ (by omega)).trans HD12.out)
    have HSz:=O ((HBw.out.block _ (by omega)).trans HS12.out)
    have HBz:=O (HB12.out.trans (HBw.out.mono (by have:=HB12.out.size;omega)))
    have lD:=heap_lt HDz.out
    have lS:=heap_lt HSz.out
    have lN:=Zl wr.drew _ h18
    clear hlog h18 HRd HC0 HCr HB12 HBw HD12 HS12 lr lr2 hrd
    generalize hfL:(fun sl=>toI (payP c (TO+5) z vv (TO+5) sl))=fL at *
    have hfz:fL z=((2:Int),(vv:Int)):=by rw [← hfL];show toI (payP c (TO+5) z vv (TO+5) z)=_;rw [hpay];rfl
    generalize wr.drew=wz at *
    go_wp2_with fail
    go_loopw [13,14] (fun t13 t14 wr=>∃ i:Nat,i≤N∧t14=Z Y i∧((i=0∧t13=.slice none 0 0)∨(0 < i∧∃ g o cap,t13=.slice (some ⟨g,o,none⟩) (N+ps.length) cap∧LinesAt wr g o (N+ps.length) ((TO:Int)+5) fL))∧Zb wz.heap.size wz wr) (fun _ t14 _=>N-(intOf t14).toNat)
    case atStart=>exact⟨0,by omega,rfl,.inl ⟨rfl,rfl⟩,Zf _ _⟩
    case round =>
     obtain⟨i,hi,rfl,hw,hbi⟩:=hrel
     have si:=hbi.size
     obtain⟨d0,d1,d2,d3,d4,d5⟩:=box6 ((hbi.block _ lD).trans HDz.out)
     have e7:=bcell ((hbi.block _ lS).trans HSz.out) 7
     have e5:=bcell ((hbi.block _ lS).trans HSz.out) 5
     change _=some _ at e7 e5
     by_cases hlt:i < N
     ·have lk:(i:Int) < (N:Int):=by omega
      obtain⟨n,lv,xs,hl,ho,hn0,hn,h1,hxs⟩:=HLog.out i hlt
      have hr0:xs[(n-(N+ps.length))*4]?=some (Z Y ((TO:Int)+5)):=by rw [← hF];exact hxs 0 _ (lineCells_at _ fL _ 0 (by omega)).1
      have HTl:=O (top_last (LO+1) ND N i n LO Pi Er G Fi PA ps.length PC ((TO:Int)+5) lv xs wr (keep_of HN18.out lN hbi) hlt (by omega) (by omega) (keep_of hl (Zl wz _ hl) hbi) (own_below ho hbi) hn0 hn h1 hr0)
      have HXs:=O hxs
      have HBi:=O hbi
      have HW:=O hw
      clear hl ho h1 hr0 hxs hbi hw
      go_upto_region 21 with(first | (go_at_call 11;refine HTl.out.mono ?_;rintro e w15 ⟨gl,capl,rfl,hxc,hb15⟩) | fail)
      have hb15':=HBi.out.trans (hb15.mono si)
      have HB15:=O hb15'
      have HL15:=O (show LinesAt w15 gl ((n-(N+ps.length))*4) (N+ps.length) ((TO:Int)+5) fL from lines_at hxc (by rw [← hF];exact HXs.out))
      have eqn:=eq45s gl ((n-(N+ps.length))*4) (N+ps.length) capl w15
      clear d0 d1 d2 d3 d4 d5 e7 e5
      rcases HW.out with⟨rfl,rfl⟩ | ⟨hi0,g,o,cap,rfl,hLw⟩
      ·have nen:=neq45n w15
       clear hxc hb15 hb15' HTl HXs
       go_wp2
       clear eqn nen
       go_roundw
       case rel=>exact⟨1,by omega,by go_num,.inr ⟨by omega,_,_,_,rfl,HL15.out⟩,HB15.out⟩
       case measure=>simp [intOf];omega
      ·have nes:=neq45s g o (N+ps.length) cap w15
       have HRl:=O (ref_Lines gl ((n-(N+ps.length))*4) capl g o cap (N+ps.length) ((TO:Int)+5) fL w15 (by omega) HL15.out (hLw.below hb15))
       clear hxc hb15 hb15' HTl HXs hLw
       go_wp2_with fail
       refine HRl.out.mono ?_
       rintro e w16 ⟨rfl,hb16⟩
       have HB16:=O (HB15.out.trans (hb16.mono HB15.out.size))
       have HL16:=O (HL15.out.below hb16)
       clear eqn nes hb16 HRl
       go_wp2
       go_roundw
       case rel=>exact⟨i+1,by omega,by go_num,.inr ⟨by omega,_,_,_,rfl,HL16.out⟩,HB16.out⟩
       case measure=>simp [intOf];omega
     ·obtain rfl:N=i:=by omega
      have lk:¬(N:Int) < (N:Int):=by omega
      rcases hw with⟨h0,_⟩ | ⟨_,g,o,cap,rfl,hLw⟩
      ·omega
      have HBi:=O hbi
      have nes:=neq45s g o (N+ps.length) cap wr
      obtain⟨_,_,l2,l3⟩:=hLw z (by omega)
      rw [hfz]at l2 l3
      change _=some (Z Y 2)at l2
      change _=some (Z Y vv)at l3
      have lz:(z:Int) < ((N+ps.length:Nat):Int):=by omega
      have lz2:z < N+ps.length:=by omega
      have lz3:(z:Int) < (N:Int)+ps.length:=by omega
      clear hbi hLw
      go_wp2
      go_ret
      exact⟨rfl,HBz.out.trans (HBi.out.mono (by have:=HBz.out.size;omega))⟩
end C10
end Go.Proofs.YtdbempiompiioaaGreat
