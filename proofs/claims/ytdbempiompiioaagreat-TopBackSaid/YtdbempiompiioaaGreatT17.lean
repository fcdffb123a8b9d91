/- A configuration that may be, of a raw one: plaitinglaw3.Make. A small configuration that may be, of  Conditions: the bounds stated in each theorem. -/
import Derived.Test.YtdbempiompiioaaGreatT14
import Derived.Deep.CutBlock
set_option linter.unusedVariables false
set_option linter.unusedSimpArgs false
set_option maxRecDepth 100000
set_option maxHeartbeats 80000000
open Go.Value renaming int → Z
open Go.IntKind renaming i64 → Y
open Go renaming World → Zw, Calls → Zc, heap_alloc_new → Zh
open Go.RowKit renaming Below → Zb
open Go.Proofs.Tryz renaming prog → Zp
open Go.Lib renaming hid → O
open Go.World renaming block_lt_of_cell? → Zl, cell?_setCell_other → Zo
open Nat renaming le_refl → Zr
open Go.RowKit.Below renaming refl → Zf
namespace Go.Proofs.YtdbempiompiioaaGreat
namespace C2
open Go.RowKit A4 A9 A11 A14 A35 A46 A52 C1
theorem ints_lt {w:Zw} {A:Option Addr} {l:List Int} (h:Ints w A l):∀ b off,A=some ⟨b,off,none⟩→0 < l.length→b < w.heap.size:=fun b off e hl=>by
 obtain⟨b',off',e',h1,_⟩:=h 0 hl
 rw [e]at e';injection e' with e';injection e' with e' _;omega
theorem ints_low {w w1:Zw} {A:Option Addr} {l:List Int} {LO:Nat} (h:Ints w A l) (hb:Zb LO w w1) (hl:∀ b off,A=some ⟨b,off,none⟩→0 < l.length→b < LO) (hs:LO≤w.heap.size):Ints w1 A l:=fun k hk=>by
 obtain⟨b,off,e,h1,h2⟩:=h k hk
 have:=hl b off e (by omega)
 have:=hb.size
 exact⟨b,off,e,by omega,(hb.cell (p:=⟨b,off+k,none⟩) (hl b off e (by omega))).trans h2⟩
theorem l3_Make (a0 a1 a2 a3 a4:Int) (A:Option Addr) (l:List Int) (C:Nat) (w:Zw) (hl:Ints w A l) (h0:0≤a0) (h1:a0≤1) (hL:l.length≤9223372036854775807) :
 Zc Zp 20 #[.agg #[Z Y a0,Z Y a1,Z Y a2,Z Y a3,Z Y a4,.slice A l.length C]] w fun e w'=>∃(N Pi Er G Fi:Int) (ps:List Int) (v:Value),e=.returned (.agg #[Z Y N,Z Y Pi,Z Y Er,Z Y G,Z Y Fi,v])∧N=6+a0%7∧0≤Er∧Er≤20∧0≤G∧G≤20∧0≤Fi∧Fi≤65535∧4*(Er+G+1)≤Pi∧Pi≤1000∧(∀ z ∈ ps,-1≤z∧z≤N-1)∧ps.length≤3∧w'.ownsRow w.heap.size 3 1 v ps.length (ps.map (Z Y))∧Zb w.heap.size w w':=by
 have r1a:0≤a0%7:=by omega
 have r1b:a0%7 < 7:=by omega
 have r2a:0≤a2%21:=by omega
 have r2b:a2%21 < 21:=by omega
 have r3a:0≤a3%21:=by omega
 have r3b:a3%21 < 21:=by omega
 have r4a:0≤a4%65536:=by omega
 have r4b:a4%65536 < 65536:=by omega
 have w1:IntKind.i64.wrap (6+a0%7)=6+a0%7:=by rw [IntKind.wrap_i64];omega
 have HI:=O hl
 clear hl
 go_enter Tryz.func20,Tryz.ntmps20
 go_upto_region 1 with fail
 obtain⟨hX,hR,hz,hB⟩:=two w
  (.cells #[Z Y a0,Z Y a1,Z Y a2,Z Y a3,Z Y a4,.slice A l.length C] 24) (.cells #[Z Y 0,Z Y 0,Z Y 0,Z Y 0,Z Y 0,.slice none 0 0] 24)
 generalize (w.alloc (.cells #[Z Y a0,Z Y a1,Z Y a2,Z Y a3,Z Y a4,.slice A l.length C] 24)).alloc (.cells #[Z Y 0,Z Y 0,Z Y 0,Z Y 0,Z Y 0,.slice none 0 0] 24)=wa at *
 obtain⟨y0,y1,y2,y3,y4,y5⟩:=box6 hX
 have HX:=O hX
 have HRz:=O hR
 have HB:=O hB
 clear hX hR hB
 go_cut [3] (fun t wx=>t=.pointer (some ⟨wa.heap.size,0,none⟩)∧wx.heap[wa.heap.size]?=some (.cells #[Z Y (6+a0%7),Z Y 0,Z Y (a2%21),Z Y (a3%21),Z Y (a4%65536),.slice none 0 0] 24 (0,0))∧Zb wa.heap.size wa wx)
 case first =>
  go_region_held3 (fun w'=>w'.cell? ⟨w.heap.size,0,none⟩=some (Z Y a0)∧w'.cell? ⟨w.heap.size,2,none⟩=some (Z Y a2)∧w'.cell? ⟨w.heap.size,3,none⟩=some (Z Y a3)∧w'.cell? ⟨w.heap.size,4,none⟩=some (Z Y a4)) (go_keep) ((go_at_call 39;refine(within39 _ _ _ (by omega) (by omega)).mono ?_;rintro e w' ⟨rfl,rfl⟩))
  all_goals
   go_wp2_with fail
   go_meet
   exact⟨rfl,(by first | exact Zh wa _ | exact Zh wa.drew _),bB⟩
 case rest =>
  generalize wc=wd at *
  obtain⟨rfl,hG,hb⟩:=hcut
  have HG:=O (Six.of hG)
  obtain⟨g0,g1,g2,g3,g4,g5⟩:=box6 hG
  have HX2:=O ((hb.block _ (by omega)).trans HX.out)
  have HR2:=O ((hb.block _ hz).trans HRz.out)
  have HB2:=O (HB.out.trans (hb.mono (by omega)))
  have lG:=heap_lt hG
  clear y0 y1 y2 y3 y4 y5 hG hb HX HRz HB
  obtain⟨y0,y1,y2,y3,y4,y5⟩:=box6 HX2.out
  clear g0 g1 g5 y0 y2 y3 y5
  go_upto_if 22 with(first | (go_at_call 39;refine(within39 _ _ _ (by omega) (by omega)).mono ?_;rintro e w' ⟨rfl,rfl⟩) | fail)
  go_cut []from 22 to 27 (fun wx=>∃ Fi:Int,0≤Fi∧Fi≤65535∧Six wx wa.heap.size (Z Y (6+a0%7)) (Z Y 0) (Z Y (a2%21)) (Z Y (a3%21)) (Z Y Fi) (.slice none 0 0)∧But (fun b=>b=wa.heap.size) wd wx)
  case first =>
   have hf4:=HG.out.fr 4
   have r5a:0≤a4%40:=by omega
   have r5b:a4%40 < 40:=by omega
   have w2:IntKind.i64.wrap (65535-a4%40)=65535-a4%40:=by rw [IntKind.wrap_i64];omega
   go_wp2_with (first | (go_at_call 39;refine(within39 _ _ _ (by omega) (by omega)).mono ?_;rintro e w' ⟨rfl,rfl⟩) | fail)
   all_goals go_meet
   ·exact⟨65535-a4%40,by omega,by omega,HG.out.set4 _,(But.refl (fun b=>b=wa.heap.size) wd).setCell (p:=⟨wa.heap.size,4,none⟩) (.inl rfl) _⟩
   ·exact⟨a4%65536,by omega,by omega,HG.out,But.refl _ _⟩
  case rest =>
   obtain⟨Fi,f0,f1,hS,hbut⟩:=hcut
   have HB3:=O (HB2.out.trans (hbut.to_below (by have:=HB2.out.size;omega) (fun k e=>by rw [e];omega)))
   have hzc:=hbut.size
   have hX3:=(hbut.block w.heap.size (by omega) (by omega)).trans HX2.out
   have hR3:=(hbut.block (w.heap.size+1) (by omega) (by omega)).trans HR2.out
   have HS:=O hS
   clear g2 g3 g4 y1 HX2 HR2 HB2 hbut HG lG
   generalize hN:6+a0%7=N at *
   generalize hE:a2%21=Er at *
   generalize hG:a3%21=G at *
   have pa:0≤a1%100:=by omega
   have pb:a1%100 < 100:=by omega
   obtain⟨y0,y1,y2,y3,y4,y5⟩:=box6 hX3
   have HX3:=O hX3
   have HR3:=O hR3
   have g2:=hS.c2
   have g3:=hS.c3
   have g1:=hS.c1
   have hfr:=hS.fr 1
   have w3:IntKind.i64.wrap (Er+G)=Er+G:=by rw [IntKind.wrap_i64];omega
   have w4:IntKind.i64.wrap (Er+G+1)=Er+G+1:=by rw [IntKind.wrap_i64];omega
   have w5:IntKind.i64.wrap (4*(Er+G+1))=4*(Er+G+1):=by rw [IntKind.wrap_i64];omega
   have w6:IntKind.i64.wrap (4*(Er+G+1)+a1%100)=4*(Er+G+1)+a1%100:=by rw [IntKind.wrap_i64];omega
   clear hS hX3 hR3 y0 y2 y3 y4 y5
   go_wp2_with fail
   refine AT.wp_region_tail (S:=fun w'=>w'.cell? ⟨wa.heap.size,2,none⟩=some (Z Y Er)∧w'.cell? ⟨wa.heap.size,3,none⟩=some (Z Y G)∧w'.cell? ⟨w.heap.size,1,none⟩=some (Z Y a1)) [11,12] (by kernel_rfl) ⟨g2,g3,y1⟩ (fun hHeld=>?_)
   refine rgU 0 ?_
   refine rgU 1 ?_
   refine rgU 2 ?_
   refine rgU 3 ?_
   refine rgU 4 ?_
   refine rgU 5 ?_
   refine rgU 6 ?_
   refine rgU 7 ?_
   refine rgU 8 ?_
   refine rgV 9 fun K hK=>?_
   go_simp
   refine(within39 _ _ _ (by omega) (by omega)).mono ?_
   rintro e w' ⟨rfl,rfl⟩
   go_simp
   refine hK.out _ _ ⟨g2,g3,y1⟩ (fun hHeld=>?_)
   clear hK K
   refine rgU 10 ?_
   refine rgW 11 fun K hK=>?_
   go_simp
   refine hK.out _ _ ?_
   clear hK K
   refine rgW 12 fun K hK=>?_
   go_simp
   refine hK.out _ _ ?_
   clear hK K
   refine AT.wpT_done (by kernel_rfl) ?_ _
   generalize hPi:4*(Er+G+1)+a1%100=Pi at *
   go_upto_region 6 with fail
   have HS1:=O ((HS.out.set1 (Z Y Pi)).keep (w1:=(wc.setCell ⟨wa.heap.size,1,none⟩ (Z Y Pi)).drew) rfl)
   have HX4:=O (show(wc.setCell ⟨wa.heap.size,1,none⟩ (Z Y Pi)).drew.heap[w.heap.size]?=_ from(Below.heap_setCell wc ⟨wa.heap.size,1,none⟩ (Z Y Pi) w.heap.size (by simp;omega)).trans HX3.out)
   have HR4:=O (show(wc.setCell ⟨wa.heap.size,1,none⟩ (Z Y Pi)).drew.heap[w.heap.size+1]?=_ from(Below.heap_setCell wc ⟨wa.heap.size,1,none⟩ (Z Y Pi) (w.heap.size+1) (by simp;omega)).trans HR3.out)
   have HB4:=O ((HB3.out.setCell (p:=⟨wa.heap.size,1,none⟩) (by simp;omega) (Z Y Pi)).drew)
   generalize (wc.setCell ⟨wa.heap.size,1,none⟩ (Z Y Pi)).drew=we at *
   clear hfr HS HX3 HR3 HB3 g1 g2 g3 y1
   have HI4:=O (ints_low HI.out HB4.out (ints_lt HI.out) (Zr _))
   go_loopw [4] (fun t wr=>∃(k:Nat) (ps:List Int) (v:Value),k≤3∧k≤l.length∧ps.length=k∧t=Z Y k∧(∀ z ∈ ps,-1≤z∧z≤N-1)∧Six wr wa.heap.size (Z Y N) (Z Y Pi) (Z Y Er) (Z Y G) (Z Y Fi) v∧wr.ownsRow we.heap.size 3 1 v k (ps.map (Z Y))∧But (fun b=>b=wa.heap.size) we wr) (fun t _=>3-(intOf t).toNat)
   case atStart =>
    exact⟨0,[],.slice none 0 0,by omega,by omega,rfl,rfl,(fun z hz=>by cases hz),HS1.out,World.ownsRow_nil _ _ _ _,(But.refl _ _)⟩
   case round =>
    obtain⟨k,ps,v,hk,hkl,hpl,rfl,hps,hS,hown,hbut⟩:=hrel
    have zb:=hbut.size
    have hX5:=(hbut.block w.heap.size (by have:=heap_lt HX4.out;omega) (by omega)).trans HX4.out
    obtain⟨x0,x1,x2,x3,x4,y5⟩:=box6 hX5
    have HXr:=O hX5
    clear x0 x1 x2 x3 x4 hX5
    by_cases hlt:k < l.length
    ·by_cases hk3:k < 3
     ·have lk1:(k:Int) < (l.length:Int):=by omega
      have lk2:(k:Int) < 3:=by omega
      obtain⟨b,off,rfl,hbl,hcell'⟩:=HI4.out k hlt
      have hbG:b≠wa.heap.size:=by
       have:=ints_lt HI.out b off rfl (by omega);omega
      have hcell:=(hbut.cell (p:=⟨b,off+k,none⟩) hbl hbG).trans hcell'
      have hbl2:b < wr.heap.size:=by omega
      have g5:=hS.c5
      have g0:=hS.c0
      have hfr:=hS.fr 5
      have HSr:=O hS
      have HO:=O hown
      have HBu:=O hbut
      generalize hz:l.getD k 0=z at *
      have pa:0≤z%(N+1):=Int.emod_nonneg _ (by omega)
      have pb:z%(N+1) < N+1:=Int.emod_lt_of_pos _ (by omega)
      have w3:IntKind.i64.wrap (N+1)=N+1:=by rw [IntKind.wrap_i64];omega
      have w4:IntKind.i64.wrap (z%(N+1)-1)=z%(N+1)-1:=by rw [IntKind.wrap_i64];omega
      clear hS hown hbut hcell'
      go_wp2_with fail
      refine AT.wp_region_tail (S:=fun w'=>w'.cell? ⟨wa.heap.size,5,none⟩=some v∧w'.cell? ⟨wa.heap.size,0,none⟩=some (Z Y N)∧w'.cell? ⟨w.heap.size,5,none⟩=some (.slice (some ⟨b,off,none⟩) l.length C)∧w'.cell? ⟨b,off+k,none⟩=some (Z Y z)) [14,15] (by kernel_rfl) ⟨g5,g0,y5,hcell⟩ (fun hHeld=>?_)
      refine rgU 0 ?_
      refine rgU 1 ?_
      refine rgU 2 ?_
      refine rgU 3 ?_
      refine rgU 4 ?_
      refine rgU 5 ?_
      refine rgU 6 ?_
      refine rgU 7 ?_
      refine rgU 8 ?_
      refine rgU 9 ?_
      refine rgV 10 fun K hK=>?_
      go_simp
      refine(within39 _ _ _ (by omega) (by omega)).mono ?_
      rintro e w' ⟨rfl,rfl⟩
      go_simp
      refine hK.out _ _ ⟨g5,g0,y5,hcell⟩ (fun hHeld=>?_)
      clear hK K
      refine rgU 11 ?_
      refine rgV 12 fun K hK=>?_
      go_simp
      refine hK.out _ _ ⟨alloc_keep g5,alloc_keep g0,alloc_keep y5,alloc_keep hcell⟩ (fun hHeld=>?_)
      clear hK K
      refine rgV 13 fun K hK=>?_
      refine app_int (by rfl) _ _ (by rfl) we.heap.size v k (ps.map (Z Y)) (by rfl) (HO.out.drew.alloc _) wr.heap.size (z%(N+1)-1) (by rfl) (Zh wr.drew _) (by omega) (by simp;omega) ?_
      intro gg cap w3 hown3 hb3
      have hb3':But (fun x=>we.heap.size≤x∧v.ownBlock=some x) wr w3:=⟨hb3.os,hb3.tape,hb3.output,Nat.le_trans (by simp) hb3.size,fun q hq hn=>(hb3.block q (by simp;omega) hn).trans (((Zf wr.heap.size wr.drew).alloc (Zr _) _).block q hq)⟩
      have zwe:=HBu.out.size
      have lGe:=HS1.out.lt
      have hG1:=heap_lt HX4.out
      have S3:=HSr.out.keep (hb3'.block wa.heap.size HSr.out.lt (fun e=>by omega))
      have n5:=S3.c5
      have n0:=S3.c0
      have m5:=(hb3'.cell (p:=⟨w.heap.size,5,none⟩) (by show w.heap.size < _;omega) (fun e=>by have:=e.1;simp only at this;omega)).trans y5
      have mc:=(hb3'.cell (p:=⟨b,off+k,none⟩) hbl2 (fun e=>by have:=e.1;simp only at this;omega)).trans hcell
      have hfr3:=S3.fr 5
      have HS3:=O S3
      have HB3:=O hb3'
      have HO3:=O hown3
      clear g5 g0 y5 hcell hb3 hb3' S3 hown3 hfr
      refine hK.out _ _ ⟨n5,n0,m5,mc⟩ (fun hHeld=>?_)
      clear hK K
      try simp only [Act.put,List.getElem_toArray,List.getElem_cons_succ,List.getElem_cons_zero,List.setIfInBounds_toArray,List.set_cons_zero,List.set_cons_succ]
      refine rgW 14 fun K hK=>?_
      go_simp
      refine hK.out _ _ ?_
      clear hK K
      refine rgW 15 fun K hK=>?_
      go_simp
      refine hK.out _ _ ?_
      clear hK K
      refine AT.wpT_done (by kernel_rfl) ?_ _
      clear n5 n0 m5 mc hfr3 hHeld
      go_wp2
      go_roundw
      case rel =>
       exact⟨k+1,ps ++ [z%(N+1)-1],.slice (some ⟨gg,0,none⟩) (k+1) cap,by omega,by omega,by simp;omega,by go_num,(fun y hy=>by
        rw [List.mem_append,List.mem_singleton]at hy
        rcases hy with hy | rfl
        ·exact hps y hy
        ·omega),HS3.out.set5 _,by rw [List.map_append];exact ownsRow_setCell_below HO3.out (show wa.heap.size < _ by omega) _,(But.up HBu.out HB3.out (Zr _)).setCell (p:=⟨wa.heap.size,5,none⟩) (.inl rfl) _⟩
      case measure=>simp [intOf];omega
     ·subst hpl
      obtain⟨PA,PC,rfl,hPI,_⟩:=ints_of_own hown
      have lk1:(ps.length:Int) < (l.length:Int):=by omega
      have lk2:¬(ps.length:Int) < 3:=by omega
      obtain⟨s0,s1,s2,s3,s4,s5,_⟩:=hS
      have lR:=heap_lt HR4.out
      have SR:=Six.of ((hbut.block (w.heap.size+1) lR (by omega)).trans HR4.out)
      have HSR:=O SR
      obtain⟨q0,q1,q2,q3,q4,q5,qf⟩:=SR
      have f0:=qf 0
      have f1':=qf 1
      have f2:=qf 2
      have f3:=qf 3
      have f4:=qf 4
      have f5:=qf 5
      have HO:=O hown
      have HBu:=O hbut
      clear hown hbut qf
      have HW:=O (HSR.out.all (Z Y N) (Z Y Pi) (Z Y Er) (Z Y G) (Z Y Fi) (.slice PA ps.length PC))
      have HWb:=O (but_all (w:=wr) (w.heap.size+1) (Z Y N) (Z Y Pi) (Z Y Er) (Z Y G) (Z Y Fi) (.slice PA ps.length PC))
      go_wp2
      generalize ((((((wr.setCell ⟨w.heap.size+1,0,none⟩ (Z Y N)).setCell ⟨w.heap.size+1,1,none⟩ (Z Y Pi)).setCell ⟨w.heap.size+1,2,none⟩ (Z Y Er)).setCell ⟨w.heap.size+1,3,none⟩ (Z Y G)).setCell ⟨w.heap.size+1,4,none⟩ (Z Y Fi)).setCell ⟨w.heap.size+1,5,none⟩ (.slice PA ps.length PC))=wz at *
      obtain⟨k0,k1,k2,k3,k4,k5,_⟩:=HW.out
      refine bodyPost_ret (v :=.agg #[Z Y N,Z Y Pi,Z Y Er,Z Y G,Z Y Fi,.slice PA ps.length PC]) (by simp [results,Tryz.results20,go_sem,k0,k1,k2,k3,k4,k5]) rfl ?_
      exact⟨N,Pi,Er,G,Fi,ps,_,rfl,(by first | rfl | exact hN.symm),by omega,by omega,by omega,by omega,by omega,by omega,by omega,by omega,hps,hk,own_mono (own_but HO.out HWb.out (fun b hb e=>by omega)) (by have:=HB4.out.size;omega),HB4.out.trans ((HBu.out.to_below (B:=w.heap.size) (by have:=HB4.out.size;omega) (fun b e=>by omega)).trans (HWb.out.to_below (by have:=HB4.out.size;omega) (fun b e=>by omega)))⟩
    ·subst hpl
     obtain⟨PA,PC,rfl,hPI,_⟩:=ints_of_own hown
     have lk1:¬(ps.length:Int) < (l.length:Int):=by omega
     obtain⟨s0,s1,s2,s3,s4,s5,_⟩:=hS
     have lR:=heap_lt HR4.out
     have SR:=Six.of ((hbut.block (w.heap.size+1) lR (by omega)).trans HR4.out)
     have HSR:=O SR
     obtain⟨q0,q1,q2,q3,q4,q5,qf⟩:=SR
     have f0:=qf 0
     have f1':=qf 1
     have f2:=qf 2
     have f3:=qf 3
     have f4:=qf 4
     have f5:=qf 5
     have HO:=O hown
     have HBu:=O hbut
     clear hown hbut qf
     have HW:=O (HSR.out.all (Z Y N) (Z Y Pi) (Z Y Er) (Z Y G) (Z Y Fi) (.slice PA ps.length PC))
     have HWb:=O (but_all (w:=wr) (w.heap.size+1) (Z Y N) (Z Y Pi) (Z Y Er) (Z Y G) (Z Y Fi) (.slice PA ps.length PC))
     go_wp2
     generalize ((((((wr.setCell ⟨w.heap.size+1,0,none⟩ (Z Y N)).setCell ⟨w.heap.size+1,1,none⟩ (Z Y Pi)).setCell ⟨w.heap.size+1,2,none⟩ (Z Y Er)).setCell ⟨w.heap.size+1,3,none⟩ (Z Y G)).setCell ⟨w.heap.size+1,4,none⟩ (Z Y Fi)).setCell ⟨w.heap.size+1,5,none⟩ (.slice PA ps.length PC))=wz at *
     obtain⟨k0,k1,k2,k3,k4,k5,_⟩:=HW.out
     refine bodyPost_ret (v :=.agg #[Z Y N,Z Y Pi,Z Y Er,Z Y G,Z Y Fi,.slice PA ps.length PC]) (by simp [results,Tryz.results20,go_sem,k0,k1,k2,k3,k4,k5]) rfl ?_
     exact⟨N,Pi,Er,G,Fi,ps,_,rfl,(by first | rfl | exact hN.symm),by omega,by omega,by omega,by omega,by omega,by omega,by omega,by omega,hps,hk,own_mono (own_but HO.out HWb.out (fun b hb e=>by omega)) (by have:=HB4.out.size;omega),HB4.out.trans ((HBu.out.to_below (B:=w.heap.size) (by have:=HB4.out.size;omega) (fun b e=>by omega)).trans (HWb.out.to_below (by have:=HB4.out.size;omega) (fun b e=>by omega)))⟩
end C2
namespace C3
open Go.RowKit A4 A9 A11 A35 A48 C1 C2
theorem cf_of {N Pi Er G Fi:Int} {ps:List Int} (a:Int) (ha0:0≤a) (ha1:a≤1) (h:N=6+a%7∧0≤Er∧Er≤20∧0≤G∧G≤20∧0≤Fi∧Fi≤65535∧4*(Er+G+1)≤Pi∧Pi≤1000∧(∀ z ∈ ps,-1≤z∧z≤N-1)∧ps.length≤3):CfOk N Pi Er G Fi (ps.take 2):=by
 obtain⟨h1,h2,h3,h4,h5,h6,h7,h8,h9,h10,h11⟩:=h
 refine⟨by omega,by omega,h2,h3,h4,h5,h6,h7,h8,h9,by simp;omega,fun k hk=>h10 _ ?_⟩
 have hm:(ps.take 2).getD k 0 ∈ ps.take 2:=by rw [List.getD_eq_getElem?_getD,List.getElem?_eq_getElem hk];exact List.getElem_mem _
 exact List.mem_of_mem_take hm
theorem l17_Conf (a0 a1 a2 a3 a4:Int) (A:Option Addr) (l:List Int) (C:Nat) (w:Zw) (hl:Ints w A l) (hL:l.length≤9223372036854775807) :
 Zc Zp 7 #[.agg #[Z Y a0,Z Y a1,Z Y a2,Z Y a3,Z Y a4,.slice A l.length C]] w fun e w'=>∃(N:Nat) (Pi Er G Fi:Int) (ps:List Int) (PA:Option Addr) (PC:Nat),e=.returned (.agg #[Z Y N,Z Y Pi,Z Y Er,Z Y G,Z Y Fi,.slice PA ps.length PC])∧CfOk N Pi Er G Fi ps∧Ints w' PA ps∧(∀ b off,PA=some ⟨b,off,none⟩→w.heap.size≤b)∧Zb w.heap.size w w':=by
 have r1a:0≤a0%2:=by omega
 have r1b:a0%2 < 2:=by omega
 have HM:=O (fun w' (h:Ints w' A l)=>l3_Make (a0%2) a1 a2 a3 a4 A l C w' h (by omega) (by omega) hL)
 have HI:=O hl
 clear hl
 obtain⟨hX,hR,hz,hB⟩:=two w (.cells #[Z Y a0,Z Y a1,Z Y a2,Z Y a3,Z Y a4,.slice A l.length C] 24) (.cells #[Z Y 0,Z Y 0,Z Y 0,Z Y 0,Z Y 0,.slice none 0 0] 24)
 go_enter Tryz.func7,Tryz.ntmps7
 go_upto_region 1 with fail
 generalize (w.alloc (.cells #[Z Y a0,Z Y a1,Z Y a2,Z Y a3,Z Y a4,.slice A l.length C] 24)).alloc (.cells #[Z Y 0,Z Y 0,Z Y 0,Z Y 0,Z Y 0,.slice none 0 0] 24)=wa at *
 have SX:=Six.of hX
 have y0:=SX.c0
 have f0:=SX.fr 0
 have HX1:=O (SX.set0 (Z Y (a0%2)))
 have HR1:=O ((Below.heap_setCell wa ⟨w.heap.size,0,none⟩ (Z Y (a0%2)) (w.heap.size+1) (by simp)).trans hR)
 have HB1:=O (hB.setCell (p:=⟨w.heap.size,0,none⟩) (Zr _) (Z Y (a0%2)))
 have hz1:(wa.setCell ⟨w.heap.size,0,none⟩ (Z Y (a0%2))).heap.size=wa.heap.size:=by simp [World.setCell]
 clear SX hX hR hB
 go_upto_region 2 with(first | (go_at_call 19;refine(within19 _ _ _ (by omega) (by omega)).mono ?_;rintro e w' ⟨rfl,rfl⟩) | fail)
 clear y0 f0
 generalize wa.setCell ⟨w.heap.size,0,none⟩ (Z Y (a0%2))=wb at *
 obtain⟨y0,y1,y2,y3,y4,y5,_⟩:=HX1.out
 go_wp2_with fail
 refine(HM.out wb (ints_low HI.out HB1.out (ints_lt HI.out) (Zr _))).mono ?_
 rintro e w1 ⟨N,Pi,Er,G,Fi,ps,v,rfl,hN,e0,e1,g0,g1,f0,f1,p0,p1,hps,hpl,hown,hb1⟩
 have HC:=O (cf_of (a0%2) r1a (by omega) ⟨hN,e0,e1,g0,g1,f0,f1,p0,p1,hps,hpl⟩)
 obtain⟨M,rfl⟩:∃ M:Nat,N=M:=⟨N.toNat,by omega⟩
 clear hN
 obtain⟨PA,PC,rfl,hPI,hPC⟩:=ints_of_own hown
 have hPI0:=O hPI
 have hPb0:=O (show ∀ b off,PA=some ⟨b,off,none⟩→wb.heap.size≤b from fun b off e=>by
  rcases own_split hown with⟨h2,_⟩ | ⟨g,cap,h2,hg,_⟩
  ·rw [e]at h2;cases h2
  ·rw [e]at h2;cases h2;exact hg)
 have hR1:=(hb1.block (w.heap.size+1) (by omega)).trans HR1.out
 have HBw:=O (HB1.out.trans (hb1.mono (by have:=HB1.out.size;omega)))
 clear y0 y1 y2 y3 y4 y5
 have hD:=Zh w1 (.cells #[Z Y M,Z Y Pi,Z Y Er,Z Y G,Z Y Fi,.slice PA ps.length PC] 24)
 have hbd:Zb w1.heap.size w1 (w1.alloc (.cells #[Z Y M,Z Y Pi,Z Y Er,Z Y G,Z Y Fi,.slice PA ps.length PC] 24)):=(Zf _ _).alloc (Zr _) _
 go_upto_region 3 with fail
 generalize w1.alloc (.cells #[Z Y M,Z Y Pi,Z Y Er,Z Y G,Z Y Fi,.slice PA ps.length PC] 24)=wd at *
 have hz2:=hb1.size
 have hzD:=heap_lt hD
 have SD:=Six.of hD
 have HSD:=O SD
 have HRd:=O ((hbd.block (w.heap.size+1) (by omega)).trans hR1)
 have HBd:=O (HBw.out.trans (hbd.mono (by omega)))
 have HId:=O (hPI.below hbd)
 obtain⟨d0,d1,d2,d3,d4,d5,_⟩:=HSD.out
 have fd5:=SD.fr 5
 have lm:min (ps.length:Int) 2=((min ps.length 2:Nat):Int):=by omega
 have lm1:¬((min ps.length 2:Nat):Int) < 0:=by omega
 have lm2:min ps.length 2≤PC:=by omega
 have SR:=Six.of HRd.out
 have HSR:=O (SR.all (Z Y M) (Z Y Pi) (Z Y Er) (Z Y G) (Z Y Fi) (.slice PA (min ps.length 2) PC))
 have SRd:=Six.keep (w1:=wd.setCell ⟨w1.heap.size,5,none⟩ (.slice PA (min ps.length 2) PC)) SR (Below.heap_setCell _ _ _ _ (by simp;omega))
 have HSW:=O (SRd.all (Z Y M) (Z Y Pi) (Z Y Er) (Z Y G) (Z Y Fi) (.slice PA (min ps.length 2) PC))
 have HBb:=O (but_all (w:=wd.setCell ⟨w1.heap.size,5,none⟩ (.slice PA (min ps.length 2) PC)) (w.heap.size+1) (Z Y M) (Z Y Pi) (Z Y Er) (Z Y G) (Z Y Fi) (.slice PA (min ps.length 2) PC))
 obtain⟨q0,q1,q2,q3,q4,q5,qf⟩:=SR
 have x0:=qf 0
 have x1:=qf 1
 have x2:=qf 2
 have x3:=qf 3
 have x4:=qf 4
 have x5:=qf 5
 have ne1:w.heap.size+1≠w1.heap.size:=by omega
 have ne2:w1.heap.size≠w.heap.size+1:=by omega
 clear SD hD hbd hR1 hown hb1 hPI qf SRd HSR
 go_wp2
 generalize hwz:((((((wd.setCell ⟨w1.heap.size,5,none⟩ (.slice PA (min ps.length 2) PC)).setCell ⟨w.heap.size+1,0,none⟩ (Z Y M)).setCell ⟨w.heap.size+1,1,none⟩ (Z Y Pi)).setCell ⟨w.heap.size+1,2,none⟩ (Z Y Er)).setCell ⟨w.heap.size+1,3,none⟩ (Z Y G)).setCell ⟨w.heap.size+1,4,none⟩ (Z Y Fi)).setCell ⟨w.heap.size+1,5,none⟩ (.slice PA (min ps.length 2) PC)=wz at *
 obtain⟨k0,k1,k2,k3,k4,k5,_⟩:=HSW.out
 refine bodyPost_ret (v :=.agg #[Z Y M,Z Y Pi,Z Y Er,Z Y G,Z Y Fi,.slice PA (min ps.length 2) PC]) (by simp [results,Tryz.results7,go_sem,k0,k1,k2,k3,k4,k5]) rfl ?_
 have hl:(ps.take 2).length=min ps.length 2:=by simp;omega
 have hzw:wd.heap.size≤wz.heap.size:=by have:=HBb.out.size;simp only [World.setCell,Array.size_modify]at this;exact this
 have hI:Ints wz PA (ps.take 2):=fun k hk=>by
  obtain⟨b,off,e,h1,h2⟩:=HId.out k (by simp at hk;omega)
  have hb0:=ints_lt hPI0.out b off e (by simp at hk;omega)
  have hb1':=hPb0.out b off e
  refine⟨b,off,e,by omega,(HBb.out.cell (p:=⟨b,off+k,none⟩) (by simpa [World.setCell]using h1) (by show ¬ b=w.heap.size+1;omega)).trans ?_⟩
  rw [Zo _ _ _ _ (fun x=>by injection x with x _;omega),h2]
  simp [List.getD_eq_getElem?_getD,List.getElem?_take]
  have:k < 2:=by simp at hk;omega
  simp [this]
 first
 | exact⟨M,Pi,Er,G,Fi,ps.take 2,PA,⟨PC,by rw [hl]⟩,HC.out,hI,(fun b off e=>by have:=hPb0.out b off e;have:=HB1.out.size;omega),HBd.out.trans ((((Zf wd.heap.size wd).mono (by omega)).setCell (p:=⟨w1.heap.size,5,none⟩) (by show w.heap.size≤w1.heap.size;omega) _).trans (HBb.out.to_below (by simp [World.setCell];omega) (fun b e=>by omega)))⟩
end C3
namespace C4
open Go.RowKit A1 A11 C1
def BoolRet (w:Zw) (e:Ending) (w':Zw):Prop:=∃ b,e=.returned (.bool b)∧Zb w.heap.size w w'
def ActsAt (w:Zw) (A:Option Addr) (n:Nat):Prop:=∀ k,k < n→∃ b off,A=some ⟨b,off,none⟩∧b < w.heap.size∧∃(h m:Int) (s:ByteArray),w.cell? ⟨b,off+k*3,none⟩=some (Z Y h)∧w.cell? ⟨b,off+k*3+1,none⟩=some (Z Y m)∧w.cell? ⟨b,off+k*3+2,none⟩=some (.string s)
theorem ActsAt.below {w w1:Zw} {A:Option Addr} {n:Nat} (h:ActsAt w A n) (hb:Zb w.heap.size w w1):ActsAt w1 A n:=fun k hk=>by
 obtain⟨b,off,e,h1,x,m,s,h2,h3,h4⟩:=h k hk
 have:=hb.size
 exact⟨b,off,e,by omega,x,m,s,(hb.cell (p:=⟨b,_,none⟩) h1).trans h2,(hb.cell (p:=⟨b,_,none⟩) h1).trans h3,(hb.cell (p:=⟨b,_,none⟩) h1).trans h4⟩
theorem l6_Few (a0 a1 a2 a3:Int) (CA:Option Addr) (CL CC:Nat) (VA:Option Addr) (VL VC:Nat) (w:Zw) (hA:ActsAt w CA CL) (hL:CL≤9223372036854775807) :
 Zc Zp 25 #[.agg #[Z Y a0,Z Y a1,Z Y a2,Z Y a3,.slice CA CL CC,.slice VA VL VC]] w (BoolRet w):=by
 have hX:=Zh w (.cells #[Z Y a0,Z Y a1,Z Y a2,Z Y a3,.slice CA CL CC,.slice VA VL VC] 27)
 have hB:Zb w.heap.size w (w.alloc (.cells #[Z Y a0,Z Y a1,Z Y a2,Z Y a3,.slice CA CL CC,.slice VA VL VC] 27)):=(Zf _ _).alloc (Zr _) _
 have HA:=O (hA.below hB)
 have HB:=O hB
 clear hA hB
 go_enter Tryz.func25,Tryz.ntmps25
 go_upto_region 1 with fail
 generalize w.alloc (.cells #[Z Y a0,Z Y a1,Z Y a2,Z Y a3,.slice CA CL CC,.slice VA VL VC] 27)=wa at *
 obtain⟨_,_,_,_,y4,y5⟩:=box6 hX
 clear hX
 go_wp2_with fail
 go_loopw [3] (fun t wr=>∃ k:Nat,k≤CL∧t=Z Y k∧ActsAt wr CA CL∧Zb w.heap.size w wr∧wr.cell? ⟨w.heap.size,4,none⟩=some (.slice CA CL CC)∧wr.cell? ⟨w.heap.size,5,none⟩=some (.slice VA VL VC)) (fun t _=>CL-(intOf t).toNat)
 case atStart=>exact⟨0,by omega,rfl,HA.out,HB.out,y4,y5⟩
 case round =>
  obtain⟨k,hk,rfl,hA,hB,y4,y5⟩:=hrel
  have HAr:=O hA
  have HBr:=O hB
  clear hB
  by_cases hlt:k < CL
  ·have lk:(k:Int) < (CL:Int):=by omega
   obtain⟨b,off,rfl,hb,h,m,s,c0,c1,c2⟩:=hA k hlt
   clear hA
   by_cases hs:1200 < (s.size:Int)
   ·have hs':(1200:Nat) < s.size:=by omega
    go_wp2_with fail
    go_ret
    first | (refine⟨_,rfl,?_⟩;repeat(first | exact HBr.out | refine Below.drew ?_ | refine below_drewN ?_ _)) | (refine⟨⟨_,rfl⟩,?_⟩;repeat(first | exact HBr.out | refine Below.drew ?_ | refine below_drewN ?_ _)) | (repeat(first | exact HBr.out | refine Below.drew ?_ | refine below_drewN ?_ _))
   ·have hs':¬(1200:Nat) < s.size:=by omega
    go_wp2_with fail
    go_roundw
    case rel=>exact⟨k+1,by omega,by go_num,(by first | exact HAr.out | exact HAr.out.below (Zf _ _).drew | exact HAr.out.below (Zf _ _).drew.drew),(by first | exact HBr.out | exact HBr.out.drew | exact HBr.out.drew.drew),y4,y5⟩
    case measure=>simp [intOf];omega
  ·obtain rfl:k=CL:=by omega
   have lk:¬(k:Int) < (k:Int):=by omega
   by_cases hc:(k:Int)≤50
   ·go_wp2
    go_ret
    first | (refine⟨_,rfl,?_⟩;repeat(first | exact HBr.out | refine Below.drew ?_ | refine below_drewN ?_ _)) | (refine⟨⟨_,rfl⟩,?_⟩;repeat(first | exact HBr.out | refine Below.drew ?_ | refine below_drewN ?_ _)) | (repeat(first | exact HBr.out | refine Below.drew ?_ | refine below_drewN ?_ _))
   ·go_wp2
    go_ret
    first | (refine⟨_,rfl,?_⟩;repeat(first | exact HBr.out | refine Below.drew ?_ | refine below_drewN ?_ _)) | (refine⟨⟨_,rfl⟩,?_⟩;repeat(first | exact HBr.out | refine Below.drew ?_ | refine below_drewN ?_ _)) | (repeat(first | exact HBr.out | refine Below.drew ?_ | refine below_drewN ?_ _))
theorem l17_Few (A1 A2 A3 A4:Option Addr) (L1 C1 L2 C2 L3 C3 L4 C4:Nat) (a0 a1 a2 a3:Int) (CA:Option Addr) (CL CC:Nat) (VA:Option Addr) (VL VC:Nat) (w:Zw) (hA:ActsAt w CA CL) (hL:CL≤9223372036854775807) :
 Zc Zp 12 #[.agg #[.slice A1 L1 C1,.slice A2 L2 C2,.slice A3 L3 C3,.slice A4 L4 C4,Z Y a0,Z Y a1,Z Y a2,Z Y a3,.slice CA CL CC,.slice VA VL VC]] w (BoolRet w):=by
 have HF:=O (fun w' (h:ActsAt w' CA CL)=>l6_Few a0 a1 a2 a3 CA CL CC VA VL VC w' h hL)
 have hX:=Zh w (.cells #[.slice A1 L1 C1,.slice A2 L2 C2,.slice A3 L3 C3,.slice A4 L4 C4,Z Y a0,Z Y a1,Z Y a2,Z Y a3,.slice CA CL CC,.slice VA VL VC] 29)
 have hB:Zb w.heap.size w (w.alloc (.cells #[.slice A1 L1 C1,.slice A2 L2 C2,.slice A3 L3 C3,.slice A4 L4 C4,Z Y a0,Z Y a1,Z Y a2,Z Y a3,.slice CA CL CC,.slice VA VL VC] 29)):=(Zf _ _).alloc (Zr _) _
 have HA:=O (hA.below hB)
 have HB:=O hB
 clear hA hB
 go_enter Tryz.func12,Tryz.ntmps12
 go_upto_region 1 with fail
 generalize w.alloc (.cells #[.slice A1 L1 C1,.slice A2 L2 C2,.slice A3 L3 C3,.slice A4 L4 C4,Z Y a0,Z Y a1,Z Y a2,Z Y a3,.slice CA CL CC,.slice VA VL VC] 29)=wa at *
 have y4:=bcell hX 4
 have y5:=bcell hX 5
 have y6:=bcell hX 6
 have y7:=bcell hX 7
 have y8:=bcell hX 8
 have y9:=bcell hX 9
 have HX:=O hX
 have hz:=heap_lt hX
 change _=some _ at y4 y5 y6 y7 y8 y9
 clear hX
 go_wp2_with fail
 refine(HF.out wa HA.out).mono ?_
 rintro e w1 ⟨b,rfl,hb1⟩
 have y3:=bcell ((hb1.block _ hz).trans HX.out) 3
 change _=some _ at y3
 have HB1:=O (HB.out.trans (hb1.mono (by have:=HB.out.size;omega)))
 clear hb1 y4 y5 y6 y7 y8 y9
 cases b
 ·go_wp2
  go_ret
  first | (refine⟨_,rfl,?_⟩;repeat(first | exact HB1.out | refine Below.drew ?_ | refine below_drewN ?_ _)) | (refine⟨⟨_,rfl⟩,?_⟩;repeat(first | exact HB1.out | refine Below.drew ?_ | refine below_drewN ?_ _)) | (repeat(first | exact HB1.out | refine Below.drew ?_ | refine below_drewN ?_ _))
 ·by_cases hc:(L4:Int)≤40
  ·go_wp2
   go_ret
   first | (refine⟨_,rfl,?_⟩;repeat(first | exact HB1.out | refine Below.drew ?_ | refine below_drewN ?_ _)) | (refine⟨⟨_,rfl⟩,?_⟩;repeat(first | exact HB1.out | refine Below.drew ?_ | refine below_drewN ?_ _)) | (repeat(first | exact HB1.out | refine Below.drew ?_ | refine below_drewN ?_ _))
  ·go_wp2
   go_ret
   first | (refine⟨_,rfl,?_⟩;repeat(first | exact HB1.out | refine Below.drew ?_ | refine below_drewN ?_ _)) | (refine⟨⟨_,rfl⟩,?_⟩;repeat(first | exact HB1.out | refine Below.drew ?_ | refine below_drewN ?_ _)) | (repeat(first | exact HB1.out | refine Below.drew ?_ | refine below_drewN ?_ _))
end C4
namespace C5
open Go.RowKit A4 A9 A11 A14 A18 A35 D19 A46 A48 A71 C1 C2 C4
theorem three (w:Zw) (A B C:Obj):(((w.alloc A).alloc B).alloc C).heap[w.heap.size]?=some A∧(((w.alloc A).alloc B).alloc C).heap[w.heap.size+1]?=some B∧(((w.alloc A).alloc B).alloc C).heap[w.heap.size+2]?=some C∧w.heap.size+2 < (((w.alloc A).alloc B).alloc C).heap.size∧Zb w.heap.size w (((w.alloc A).alloc B).alloc C):=by
 obtain⟨h1,h2,h3,h4⟩:=two w A B
 have z:∀(w:Zw) (A:Obj),(w.alloc A).heap.size=w.heap.size+1:=fun w A=>by simp
 have hb:Zb ((w.alloc A).alloc B).heap.size ((w.alloc A).alloc B) (((w.alloc A).alloc B).alloc C):=(Zf _ _).alloc (Zr _) C
 have hc:=Zh ((w.alloc A).alloc B) C
 have e:((w.alloc A).alloc B).heap.size=w.heap.size+2:=by rw [z,z]
 rw [e]at hc
 exact⟨(hb.block _ (by omega)).trans h1,(hb.block _ (by omega)).trans h2,hc,heap_lt hc,h4.trans (hb.mono (by omega))⟩
theorem acts_low {w w1:Zw} {A:Option Addr} {n:Nat} (h:ActsAt w A n) (hb:Zb w.heap.size w w1):ActsAt w1 A n:=h.below hb
theorem info38:(Tryz.prog.info? 38).map (fun i=>(i.zero,i.size,i.bytes))=some (some (.agg #[Z Y 0,Z Y 0,.string ⟨#[]⟩]),3,32):=by kernel_rfl
def ActsOut (w:Zw) (base:Nat) (v:Value) (l:List Ac):Prop:=∃ A C,v=.slice A l.length C∧Acs w A l∧(l=[]→A=none)∧(∀ b off,A=some ⟨b,off,none⟩→base≤b)∧l.length≤10∧∀ x ∈ l,x.t.size≤300
theorem acts_out {w:Zw} {base k:Nat} {v:Value} {l:List Ac} (h:w.ownsRow base 38 3 v k (acCells l)) (hk:l.length=k) (h0:k=0→v=.slice none 0 0) (hl:k≤10) (hs:∀ x ∈ l,x.t.size≤300):ActsOut w base v l:=by
 obtain⟨A,C,e,h1,h2⟩:=acs_of_own h hk.symm
 refine⟨A,C,e,h1,fun e0=>?_,h2,by omega,hs⟩
 rw [h0 (by rw [← hk,e0];rfl)]at e
 injection e with e _ _
 exact e.symm
theorem acCells_append:∀ a b:List Ac,acCells (a ++ b)=acCells a ++ acCells b
 | [],_=>rfl
 | x :: r,b=>by simp [acCells,acCells_append r b]
theorem acs_keep {w w1:Zw} {A:Option Addr} {l:List Ac} {X:Nat} (h:Acs w A l) (hb:But (fun b=>b=X) w w1) (hA:∀ b off,A=some ⟨b,off,none⟩→0 < l.length→b≠X):Acs w1 A l:=fun k hk=>by
 obtain⟨b,off,e,h1,h2,h3,h4⟩:=h k hk
 have:=hb.size
 have hX:=hA b off e (by omega)
 exact⟨b,off,e,by omega,(hb.cell (p:=⟨b,_,none⟩) h1 hX).trans h2,(hb.cell (p:=⟨b,_,none⟩) h1 hX).trans h3,(hb.cell (p:=⟨b,_,none⟩) h1 hX).trans h4⟩
theorem acs_lt {w:Zw} {A:Option Addr} {l:List Ac} (h:Acs w A l):∀ b off,A=some ⟨b,off,none⟩→0 < l.length→b < w.heap.size:=fun b off e hl=>by
 obtain⟨b',off',e',h1,_⟩:=h 0 hl
 rw [e]at e'
 injection e' with e'
 injection e' with e' _
 omega
theorem own_ints {w:Zw} {base n:Nat} {v:Value} {l:List Int} (h:w.ownsRow base 3 1 v n (l.map (Z Y))) (hn:l.length=n):∃ A C,v=.slice A l.length C∧Ints w A l∧∀ b off,A=some ⟨b,off,none⟩→base≤b:=by
 subst hn
 obtain⟨A,C,e,h1,_⟩:=ints_of_own h
 refine⟨A,C,e,h1,fun b off eA=>?_⟩
 rcases own_split h with⟨h2,_⟩ | ⟨g,cap,h2,hg,_⟩
 ·rw [e,eA]at h2;cases h2
 ·rw [e,eA]at h2;cases h2;exact hg
theorem ints_keep {w w1:Zw} {A:Option Addr} {l:List Int} {X:Nat} (h:Ints w A l) (hb:But (fun b=>b=X) w w1) (hA:∀ b off,A=some ⟨b,off,none⟩→0 < l.length→b≠X):Ints w1 A l:=fun k hk=>by
 obtain⟨b,off,e,h1,h2⟩:=h k hk
 have:=hb.size
 exact⟨b,off,e,by omega,(hb.cell (p:=⟨b,off+k,none⟩) h1 (hA b off e (by omega))).trans h2⟩
theorem outs_of {w:Zw} {base k:Nat} {v:Value} {l:List Int} (h:w.ownsRow base 3 1 v k (l.map (Z Y))) (hn:l.length=k) (hk:k≤10):∃ A C,v=.slice A l.length C∧Ints w A l∧(∀ b off,A=some ⟨b,off,none⟩→base≤b)∧l.length≤10:=by
 obtain⟨A,C,e,h1,h2⟩:=own_ints h hn
 exact⟨A,C,e,h1,h2,by omega⟩
def FaultRet (w:Zw) (e:Ending) (w':Zw):Prop:=∃(k a f t:Int) (A:Option Addr) (l:List Ac) (C:Nat) (B:Option Addr) (vd:List Int) (D:Nat),e=.returned (.agg #[Z Y k,Z Y a,Z Y f,Z Y t,.slice A l.length C,.slice B vd.length D])∧(l.length≤10∧(∀ x ∈ l,x.t.size≤300)∧(l=[]→A=none)∧vd.length≤10)∧Acs w' A l∧Ints w' B vd∧(∀ b off,A=some ⟨b,off,none⟩→w.heap.size≤b)∧(∀ b off,B=some ⟨b,off,none⟩→w.heap.size≤b)∧Zb w.heap.size w w'
theorem l6_Make (N:Nat) (Pi Er Gd Fi:Int) (PA:Option Addr) (PL PC:Nat) (a0 a1 a2 a3:Int) (CA:Option Addr) (CL CC:Nat) (VA:Option Addr) (vs:List Int) (VC:Nat) (w:Zw) (hN:1≤N) (hN2:N≤12) (hA:ActsAt w CA CL) (hL:CL≤9223372036854775807) (hV:Ints w VA vs) (hVL:vs.length≤9223372036854775807) :
 Zc Zp 40 #[.agg #[Z Y N,Z Y Pi,Z Y Er,Z Y Gd,Z Y Fi,.slice PA PL PC],.agg #[Z Y a0,Z Y a1,Z Y a2,Z Y a3,.slice CA CL CC,.slice VA vs.length VC]] w (FaultRet w):=by
 have r1a:0≤a0%3:=by omega
 have r1b:a0%3 < 3:=by omega
 have r2a:0≤a2%60:=by omega
 have r2b:a2%60 < 60:=by omega
 have r3a:0≤a3%60:=by omega
 have r3b:a3%60 < 60:=by omega
 have w1:IntKind.i64.wrap (a2%60+a3%60)=a2%60+a3%60:=by rw [IntKind.wrap_i64];omega
 have w2:IntKind.i64.wrap (2*(N:Int))=2*N:=by rw [IntKind.wrap_i64];omega
 obtain⟨hC,hF,hR,hz,hB⟩:=three w (.cells #[Z Y N,Z Y Pi,Z Y Er,Z Y Gd,Z Y Fi,.slice PA PL PC] 24) (.cells #[Z Y a0,Z Y a1,Z Y a2,Z Y a3,.slice CA CL CC,.slice VA vs.length VC] 27) (.cells #[Z Y 0,Z Y 0,Z Y 0,Z Y 0,.slice none 0 0,.slice none 0 0] 27)
 have HA:=O hA
 have HV:=O hV
 clear hA hV
 go_enter Tryz.func40,Tryz.ntmps40
 go_upto_region 1 with fail
 generalize ((w.alloc (.cells #[Z Y N,Z Y Pi,Z Y Er,Z Y Gd,Z Y Fi,.slice PA PL PC] 24)).alloc (.cells #[Z Y a0,Z Y a1,Z Y a2,Z Y a3,.slice CA CL CC,.slice VA vs.length VC] 27)).alloc (.cells #[Z Y 0,Z Y 0,Z Y 0,Z Y 0,.slice none 0 0,.slice none 0 0] 27)=wa at *
 have HC:=O hC
 have HF:=O hF
 have HR:=O hR
 have HB:=O hB
 obtain⟨y0,y1,y2,y3,y4,y5⟩:=box6 hF
 clear hC hF hR hB
 go_cut [5] (fun t wx=>t=.pointer (some ⟨wa.heap.size,0,none⟩)∧wx.heap[wa.heap.size]?=some (.cells #[Z Y (a0%3),Z Y 0,Z Y (a2%60),Z Y 0,.slice none 0 0,.slice none 0 0] 27 (0,0))∧Zb wa.heap.size wa wx)
 case first =>
  go_region_held3 (fun w'=>w'.cell? ⟨w.heap.size+1,0,none⟩=some (Z Y a0)∧w'.cell? ⟨w.heap.size+1,2,none⟩=some (Z Y a2)) (go_keep) ((go_at_call 74;refine(within74 _ _ _ (by omega) (by omega)).mono ?_;rintro e w' ⟨rfl,rfl⟩))
  all_goals
   go_wp2_with fail
   go_meet
   exact⟨rfl,(by first | exact Zh wa _ | exact Zh wa.drew _),bB⟩
 case rest =>
  generalize wc=wd at *
  obtain⟨rfl,hG,hb⟩:=hcut
  have HF2:=O ((hb.block _ (by omega)).trans HF.out)
  have HC2:=O ((hb.block _ (by omega)).trans HC.out)
  have HR2:=O ((hb.block _ hz).trans HR.out)
  have HB2:=O (HB.out.trans (hb.mono (by omega)))
  have SG:=Six.of hG
  have hzg:=heap_lt hG
  clear y0 y1 y2 y3 y4 y5 hG hb HF HC HR HB
  obtain⟨_,_,_,y3,_,_⟩:=box6 HF2.out
  have g2:=SG.c2
  have g3:=SG.c3
  have f3:=SG.fr 3
  have HS:=O (SG.set3 (Z Y (a2%60+a3%60)))
  clear SG
  go_upto_region 2 with fail
  refine AT.wp_region_tail (S:=fun w'=>w'.cell? ⟨wa.heap.size,2,none⟩=some (Z Y (a2%60))∧w'.cell? ⟨w.heap.size+1,3,none⟩=some (Z Y a3)) [6,7] (by kernel_rfl) ⟨g2,y3⟩ (fun hHeld=>?_)
  refine rgU 0 ?_
  refine rgU 1 ?_
  refine rgU 2 ?_
  refine rgU 3 ?_
  refine rgV 4 fun K hK=>?_
  go_simp
  refine(within74 _ _ _ (by omega) (by omega)).mono ?_
  rintro e w' ⟨rfl,rfl⟩
  go_simp
  refine hK.out _ _ ⟨g2,y3⟩ (fun hHeld=>?_)
  clear hK K
  refine rgU 5 ?_
  refine rgW 6 fun K hK=>?_
  go_simp
  refine hK.out _ _ ?_
  clear hK K
  refine rgW 7 fun K hK=>?_
  go_simp
  refine hK.out _ _ ?_
  clear hK K
  refine AT.wpT_done (by kernel_rfl) ?_ _
  clear hHeld g2 g3 f3 y3
  go_upto_region 3 with fail
  have HSe:=O (HS.out.keep (w1:=(wd.setCell ⟨wa.heap.size,3,none⟩ (Z Y (a2%60+a3%60))).drew) rfl)
  have hbe:But (fun b=>b=wa.heap.size) wd (wd.setCell ⟨wa.heap.size,3,none⟩ (Z Y (a2%60+a3%60))).drew:=((But.refl (fun b=>b=wa.heap.size) wd).setCell (p:=⟨wa.heap.size,3,none⟩) (.inl rfl) _).drew
  clear HS
  generalize (wd.setCell ⟨wa.heap.size,3,none⟩ (Z Y (a2%60+a3%60))).drew=we at *
  have ze:=hbe.size
  have HFe:=O ((hbe.block _ (by omega) (by omega)).trans HF2.out)
  have HCe:=O ((hbe.block _ (by omega) (by omega)).trans HC2.out)
  have HRe:=O ((hbe.block _ (by omega) (by omega)).trans HR2.out)
  have HBe:=O (HB2.out.trans (hbe.to_below (by omega) (fun b e=>by omega)))
  clear hbe HF2 HC2 HR2 HB2
  generalize a2%60=e2 at *
  generalize hfe:e2+a3%60=e3 at *
  clear hfe w1
  obtain⟨_,y1,_,_,_,_⟩:=box6 HFe.out
  obtain⟨x0,_,_,_,_,_⟩:=box6 HCe.out
  obtain⟨g0,g1,_,_,_,_,gf⟩:=HSe.out
  have f1:=gf 1
  clear gf
  go_upto_block 0 with fail
  go_cut []from 23 to 41 (fun wx=>∃ a:Int,Six wx wa.heap.size (Z Y (a0%3)) (Z Y a) (Z Y e2) (Z Y e3) (.slice none 0 0) (.slice none 0 0)∧But (fun b=>b=wa.heap.size) we wx)
  case first =>
   go_wp2_with (first | (go_at_call 74;refine(within74 _ _ _ (by omega) (by omega)).mono ?_;rintro e w' ⟨rfl,rfl⟩) | fail)
   all_goals go_meet
   ·exact⟨a1%(N:Int),HSe.out.set1 _,(But.refl (fun b=>b=wa.heap.size) we).setCell (p:=⟨wa.heap.size,1,none⟩) (.inl rfl) _⟩
   ·exact⟨a1%(2*(N:Int)),HSe.out.set1 _,(But.refl (fun b=>b=wa.heap.size) we).setCell (p:=⟨wa.heap.size,1,none⟩) (.inl rfl) _⟩
   ·exact⟨0,HSe.out,But.refl _ _⟩
  case rest =>
   generalize wc=wv at *
   obtain⟨a,hS,hbut⟩:=hcut
   have zc:=hbut.size
   have HFc:=O ((hbut.block _ (by omega) (by omega)).trans HFe.out)
   have HRc:=O ((hbut.block _ (by omega) (by omega)).trans HRe.out)
   have HBc:=O (HBe.out.trans (hbut.to_below (by omega) (fun b e=>by omega)))
   have HSc:=O hS
   have HSc0:=O hS.lt
   have HBc0:=O (And.intro hz hS.lt)
   generalize a0%3=e0 at *
   clear x0 y1 g0 g1 f1 HFe HCe HRe HBe HSe hS hbut w2
   have HAc:=O (acts_low HA.out HBc.out)
   have HVc:=O (ints_low HV.out HBc.out (ints_lt HV.out) (Zr _))
   go_upto_block 1 with fail
   go_cut [6,7]from 42 to 71 (fun t6 t7 wx=>∃(va:Value) (la:List Ac),ActsOut wx wv.heap.size va la∧Six wx wa.heap.size (Z Y e0) (Z Y a) (Z Y e2) (Z Y e3) va (.slice none 0 0)∧But (fun b=>b=wa.heap.size) wv wx)
   case first =>
    go_wp2_with fail
    go_loopw [6] (fun t wr=>∃(k:Nat) (la:List Ac) (va:Value),k≤10∧k≤CL∧t=Z Y k∧la.length=k∧(k=0→va=.slice none 0 0)∧(∀ x ∈ la,x.t.size≤300)∧Six wr wa.heap.size (Z Y e0) (Z Y a) (Z Y e2) (Z Y e3) va (.slice none 0 0)∧wr.ownsRow wv.heap.size 38 3 va k (acCells la)∧But (fun b=>b=wa.heap.size) wv wr) (fun t _=>10-(intOf t).toNat)
    case atStart=>exact⟨0,[],.slice none 0 0,by omega,by omega,rfl,rfl,(fun _=>rfl),(fun x hx=>by cases hx),HSc.out,World.ownsRow_nil _ _ _ _,But.refl _ _⟩
    case round =>
     obtain⟨k,la,va,hk,hkl,rfl,hla,hva0,hlas,hS,hown,hbut⟩:=hrel
     have HLa:=O (And.intro hla (And.intro hva0 hlas))
     clear hva0 hlas
     have zr:=hbut.size
     have HFr:=O ((hbut.block _ (by have:=heap_lt HFc.out;omega) (by omega)).trans HFc.out)
     obtain⟨_,_,_,_,y4,y5⟩:=box6 HFr.out
     have HSr:=O hS
     have HO:=O hown
     have HBu:=O hbut
     by_cases hlt:k < CL
     ·by_cases hk3:k < 10
      ·have lk1:(k:Int) < (CL:Int):=by omega
       have lk2:(k:Int) < 10:=by omega
       obtain⟨b,off,rfl,hbl,h,m,s,c0',c1',c2'⟩:=HAc.out k hlt
       have hbG:b≠wa.heap.size:=by
        obtain⟨b',off',e,h1,_⟩:=HA.out k hlt
        injection e with e;injection e with e _;omega
       have c0:=(hbut.cell (p:=⟨b,off+k*3,none⟩) hbl hbG).trans c0'
       have c1:=(hbut.cell (p:=⟨b,off+k*3+1,none⟩) hbl hbG).trans c1'
       have c2:=(hbut.cell (p:=⟨b,off+k*3+2,none⟩) hbl hbG).trans c2'
       have g4:=hS.c4
       have f4:=hS.fr 4
       clear hS hown hbut c0' c1' c2'
       have lm:min (s.size:Int) 300=((min s.size 300:Nat):Int):=by omega
       have lm2:min s.size 300≤s.size:=by omega
       go_upto_region 13 with fail
       have hT:=Zh wr (.cells #[Z Y h,Z Y m,.string (s.extract 0 (min s.size 300))] 38)
       have hbt:Zb wr.heap.size wr (wr.alloc (.cells #[Z Y h,Z Y m,.string (s.extract 0 (min s.size 300))] 38)):=(Zf _ _).alloc (Zr _) _
       have g4t:=keep_of g4 HSr.out.lt hbt
       have f4t:=(hbt.frozen (p:=⟨wa.heap.size,4,none⟩) HSr.out.lt).trans f4
       have HOt:=O (HO.out.alloc (.cells #[Z Y h,Z Y m,.string (s.extract 0 (min s.size 300))] 38))
       clear g4 f4 c0 c1 c2 lm lm2
       generalize wr.alloc (.cells #[Z Y h,Z Y m,.string (s.extract 0 (min s.size 300))] 38)=wt at *
       have hs3:(s.extract 0 (min s.size 300)).size≤300:=by rw [ByteArray.size_extract];omega
       have HS3':=O hs3
       clear hs3
       generalize s.extract 0 (min s.size 300)=s' at *
       have zt:=hbt.size
       have t0:=bcell hT 0
       have t1:=bcell hT 1
       have t2:=bcell hT 2
       change _=some _ at t0 t1 t2
       have HBt:=O hbt
       clear hT hbt
       go_wp2_with (at_builtin;refine seq_own 25 38 3 32 (.agg #[Z Y 0,Z Y 0,.string ⟨#[]⟩]) Tryz.underlying25 info38 rfl (by decide) rfl _ _ rfl wv.heap.size va k (acCells la) rfl (HOt.out.alloc _) wt.heap.size #[Z Y h,Z Y m,.string s'] rfl (Zh wt _) rfl (fun u hu=>by simp at hu;rcases hu with rfl | rfl | rfl <;> rfl) (by omega) (by omega) (by simp;omega) ?_)
       intro gg cap w3 hown3 hb3
       have hb3':=((But.of_below (S:=fun b=>wv.heap.size≤b∧va.ownBlock=some b) HBt.out (Zr _)).alloc _).trans hb3
       have lGc:=HSc.out.lt
       have S3:=HSr.out.keep (hb3'.block wa.heap.size HSr.out.lt (fun e=>by omega))
       have n4:=S3.c4
       have hfr3:=S3.fr 4
       have HS3:=O (S3.set4 (.slice (some ⟨gg,0,none⟩) (k+1) cap))
       have HB3:=O hb3'
       have HO3:=O hown3
       clear g4t f4t t0 t1 t2 hb3 hb3' S3 hown3
       go_wp2
       go_roundw
       case rel =>
        exact⟨k+1,la ++ [⟨h,m,s'⟩],.slice (some ⟨gg,0,none⟩) (k+1) cap,by omega,by omega,by go_num,by rw [List.length_append,HLa.out.1];rfl,(fun e=>by omega),(fun x hx=>by
         rw [List.mem_append,List.mem_singleton]at hx
         rcases hx with hx | rfl
         ·exact HLa.out.2.2 x hx
         ·exact HS3'.out),HS3.out,by rw [acCells_append];exact ownsRow_setCell_below HO3.out (show wa.heap.size < _ by omega) _,(But.up HBu.out HB3.out (Zr _)).setCell (p:=⟨wa.heap.size,4,none⟩) (.inl rfl) _⟩
       case measure=>simp [intOf];omega
      ·obtain rfl:k=10:=by omega
       have lk1:((10:Nat):Int) < (CL:Int):=by omega
       have lk2:(10:Int) < (CL:Int):=by omega
       clear hS hown hbut
       go_wp2_with fail
       go_meet
       exact⟨va,la,acts_out HO.out HLa.out.1 HLa.out.2.1 hk HLa.out.2.2,HSr.out,HBu.out⟩
     ·have lk1:¬(k:Int) < (CL:Int):=by omega
      clear hS hown hbut
      go_wp2_with fail
      go_meet
      exact⟨va,la,acts_out HO.out HLa.out.1 HLa.out.2.1 hk HLa.out.2.2,HSr.out,HBu.out⟩
   case rest =>
    obtain⟨_,la,⟨DA,DC,rfl,hlaA,hla0,hlab,hlal,hlas⟩,hS,hbut⟩:=hcut
    have zc:=hbut.size
    have HLd:=O hlaA
    have HLp:=O (And.intro hlal (And.intro hlas (And.intro hla0 hlab)))
    clear hlaA hla0 hlab hlas hlal
    have HFd:=O ((hbut.block _ (by have:=heap_lt HFc.out;omega) (by omega)).trans HFc.out)
    have HRd:=O ((hbut.block _ (by have:=heap_lt HRc.out;omega) (by omega)).trans HRc.out)
    have HBd:=O (HBc.out.trans (hbut.to_below (by have:=HBc.out.size;omega) (fun b e=>by omega)))
    have HSd:=O hS
    have HVd:=O (ints_low HV.out HBd.out (ints_lt HV.out) (Zr _))
    clear HFc HRc HBc HSc HAc HVc hS hbut
    go_upto_block 3 with fail
    go_cut [8]from 72 to 92 (fun t8 wx=>∃(vd:Value) (rows:List Int),(∃ A C,vd=.slice A rows.length C∧Ints wx A rows∧(∀ b off,A=some ⟨b,off,none⟩→wc.heap.size≤b)∧rows.length≤10)∧Six wx wa.heap.size (Z Y e0) (Z Y a) (Z Y e2) (Z Y e3) (.slice DA la.length DC) vd∧But (fun b=>b=wa.heap.size) wc wx)
    case first =>
     go_wp2_with fail
     go_loopw [8] (fun t wr=>∃(k:Nat) (rows:List Int) (vd:Value),k≤10∧k≤vs.length∧t=Z Y k∧rows.length=k∧Six wr wa.heap.size (Z Y e0) (Z Y a) (Z Y e2) (Z Y e3) (.slice DA la.length DC) vd∧wr.ownsRow wc.heap.size 3 1 vd k (rows.map (Z Y))∧But (fun b=>b=wa.heap.size) wc wr) (fun t _=>10-(intOf t).toNat)
     case atStart=>exact⟨0,[],.slice none 0 0,by omega,by omega,rfl,rfl,HSd.out,World.ownsRow_nil _ _ _ _,But.refl _ _⟩
     case round =>
      obtain⟨k,rows,vd,hk,hkl,rfl,hol,hS,hown,hbut⟩:=hrel
      have zr:=hbut.size
      have HFr:=O ((hbut.block _ (by have:=heap_lt HFd.out;omega) (by omega)).trans HFd.out)
      obtain⟨_,_,_,_,_,y5⟩:=box6 HFr.out
      have HSr:=O hS
      have HO:=O hown
      have HBu:=O hbut
      by_cases hlt:k < vs.length
      ·by_cases hk3:k < 10
       ·have lk1:(k:Int) < (vs.length:Int):=by omega
        have lk2:(k:Int) < 10:=by omega
        obtain⟨b,off,rfl,hbl,hcell'⟩:=HVd.out k hlt
        have hbG:b≠wa.heap.size:=by
         have:=ints_lt HV.out b off rfl (by omega);omega
        have hcell:=(hbut.cell (p:=⟨b,off+k,none⟩) hbl hbG).trans hcell'
        have hbl2:b < wr.heap.size:=by omega
        have g5:=hS.c5
        have hfr:=hS.fr 5
        generalize hz:vs.getD k 0=z at *
        clear hS hown hbut hcell'
        go_wp2_with fail
        refine AT.wp_region_tail (S:=fun w'=>w'.cell? ⟨wa.heap.size,5,none⟩=some vd∧w'.cell? ⟨w.heap.size+1,5,none⟩=some (.slice (some ⟨b,off,none⟩) vs.length VC)∧w'.cell? ⟨b,off+k,none⟩=some (Z Y z)) [9,10] (by kernel_rfl) ⟨g5,y5,hcell⟩ (fun hHeld=>?_)
        refine rgU 0 ?_
        refine rgU 1 ?_
        refine rgU 2 ?_
        refine rgU 3 ?_
        refine rgU 4 ?_
        refine rgU 5 ?_
        refine rgU 6 ?_
        refine rgV 7 fun K hK=>?_
        go_simp
        refine hK.out _ _ ⟨alloc_keep g5,alloc_keep y5,alloc_keep hcell⟩ (fun hHeld=>?_)
        clear hK K
        refine rgV 8 fun K hK=>?_
        refine app_int (by rfl) _ _ (by rfl) wc.heap.size vd k (rows.map (Z Y)) (by rfl) (HO.out.drew.alloc _) wr.heap.size z (by rfl) (Zh wr.drew _) (by omega) (by simp;omega) ?_
        intro gg cap w3 hown3 hb3
        have hb3':But (fun x=>wc.heap.size≤x∧vd.ownBlock=some x) wr w3:=(((But.refl (fun x=>wc.heap.size≤x∧vd.ownBlock=some x) wr).drew).alloc _).trans hb3
        have lGe:=HSd.out.lt
        have S3:=HSr.out.keep (hb3'.block wa.heap.size HSr.out.lt (fun e=>by omega))
        have n5:=S3.c5
        have m5:=(hb3'.cell (p:=⟨w.heap.size+1,5,none⟩) (by show w.heap.size+1 < _;omega) (fun e=>by have:=e.1;simp only at this;omega)).trans y5
        have mc:=(hb3'.cell (p:=⟨b,off+k,none⟩) hbl2 (fun e=>by have:=e.1;simp only at this;omega)).trans hcell
        have hfr3:=S3.fr 5
        have HS3:=O (S3.set5 (.slice (some ⟨gg,0,none⟩) (k+1) cap))
        have HB3:=O hb3'
        have HO3:=O hown3
        clear g5 y5 hcell hb3 hb3' S3 hown3 hfr
        refine hK.out _ _ ⟨n5,m5,mc⟩ (fun hHeld=>?_)
        clear hK K
        try simp only [Act.put,List.getElem_toArray,List.getElem_cons_succ,List.getElem_cons_zero,List.setIfInBounds_toArray,List.set_cons_zero,List.set_cons_succ]
        refine rgW 9 fun K hK=>?_
        go_simp
        refine hK.out _ _ ?_
        clear hK K
        refine rgW 10 fun K hK=>?_
        go_simp
        refine hK.out _ _ ?_
        clear hK K
        refine AT.wpT_done (by kernel_rfl) ?_ _
        clear n5 m5 mc hfr3 hHeld
        go_wp2
        go_roundw
        case rel =>
         exact⟨k+1,rows ++ [z],.slice (some ⟨gg,0,none⟩) (k+1) cap,by omega,by omega,by go_num,by simp;omega,HS3.out,by rw [List.map_append];exact ownsRow_setCell_below HO3.out (show wa.heap.size < _ by omega) _,(But.up HBu.out HB3.out (Zr _)).setCell (p:=⟨wa.heap.size,5,none⟩) (.inl rfl) _⟩
        case measure=>simp [intOf];omega
       ·obtain rfl:k=10:=by omega
        have lk1:((10:Nat):Int) < (vs.length:Int):=by omega
        have lk2:(10:Int) < (vs.length:Int):=by omega
        clear hS hown hbut
        go_wp2_with fail
        go_meet
        exact⟨vd,rows,outs_of HO.out hol hk,HSr.out,HBu.out⟩
      ·have lk1:¬(k:Int) < (vs.length:Int):=by omega
       clear hS hown hbut
       go_wp2_with fail
       go_meet
       exact⟨vd,rows,outs_of HO.out hol hk,HSr.out,HBu.out⟩
    case rest =>
     generalize wc=wy at *
     obtain⟨_,rows,⟨EA,EC,rfl,hrI,hrb,hrl⟩,hS,hbut⟩:=hcut
     have zy:=hbut.size
     have zv:=HSc0.out
     have HLy:=O (acs_keep HLd.out hbut (fun b off e _=>by have:=HLp.out.2.2.2 b off e;omega))
     have HRo:=O (And.intro hrI (And.intro hrb hrl))
     clear hrI hrb hrl
     have HRy:=O ((hbut.block _ (by have:=heap_lt HRd.out;omega) (by omega)).trans HRd.out)
     have HBy:=O (HBd.out.trans (hbut.to_below (by have:=HBd.out.size;omega) (fun b e=>by omega)))
     obtain⟨d0,d1,d2,d3,d4,d5,_⟩:=hS
     have SR:=Six.of HRy.out
     have HSW:=O (SR.all (Z Y e0) (Z Y a) (Z Y e2) (Z Y e3) (.slice DA la.length DC) (.slice EA rows.length EC))
     have HBb:=O (but_all (w:=wy) (w.heap.size+2) (Z Y e0) (Z Y a) (Z Y e2) (Z Y e3) (.slice DA la.length DC) (.slice EA rows.length EC))
     obtain⟨q0,q1,q2,q3,q4,q5,qf⟩:=SR
     have x0:=qf 0
     have x1:=qf 1
     have x2:=qf 2
     have x3:=qf 3
     have x4:=qf 4
     have x5:=qf 5
     clear qf hbut
     go_wp2
     generalize ((((((wy.setCell ⟨w.heap.size+2,0,none⟩ (Z Y e0)).setCell ⟨w.heap.size+2,1,none⟩ (Z Y a)).setCell ⟨w.heap.size+2,2,none⟩ (Z Y e2)).setCell ⟨w.heap.size+2,3,none⟩ (Z Y e3)).setCell ⟨w.heap.size+2,4,none⟩ (.slice DA la.length DC)).setCell ⟨w.heap.size+2,5,none⟩ (.slice EA rows.length EC))=wz at *
     obtain⟨k0,k1,k2,k3,k4,k5,_⟩:=HSW.out
     refine bodyPost_ret (v :=.agg #[Z Y e0,Z Y a,Z Y e2,Z Y e3,.slice DA la.length DC,.slice EA rows.length EC]) (by simp [results,Tryz.results40,go_sem,k0,k1,k2,k3,k4,k5]) rfl ?_
     have zb:=HBc0.out
     exact⟨e0,a,e2,e3,DA,la,DC,EA,rows,EC,rfl,⟨HLp.out.1,HLp.out.2.1,HLp.out.2.2.1,HRo.out.2.2⟩,acs_keep HLy.out HBb.out (fun b off e _=>by have:=HLp.out.2.2.2 b off e;omega),ints_keep HRo.out.1 HBb.out (fun b off e _=>by have:=HRo.out.2.1 b off e;omega),(fun b off e=>by have:=HLp.out.2.2.2 b off e;omega),(fun b off e=>by have:=HRo.out.2.1 b off e;omega),HBy.out.trans (HBb.out.to_below (by have:=HBy.out.size;omega) (fun b e=>by omega))⟩
end C5
namespace C6
open Go.RowKit A4 A9 A11 A14 D19 A46 C1 C2 C4 C5
structure Loc (w:Zw) (base:Nat) (FA:Option Addr) (la:List Ac) (HA:Option Addr) (vd:List Int):Prop where
 l:la.length≤10
 s:∀ x ∈ la,x.t.size≤300
 n:la=[]→FA=none
 m:vd.length≤10
 a:Acs w FA la
 d:Ints w HA vd
 ab:∀ b off,FA=some ⟨b,off,none⟩→base≤b
 db:∀ b off,HA=some ⟨b,off,none⟩→base≤b
theorem Loc.below {w w1:Zw} {base:Nat} {FA:Option Addr} {la:List Ac} {HA:Option Addr} {vd:List Int} (h:Loc w base FA la HA vd) (hb:Zb w.heap.size w w1):Loc w1 base FA la HA vd:=⟨h.l,h.s,h.n,h.m,h.a.below hb,h.d.below hb,h.ab,h.db⟩
theorem Loc.up {w:Zw} {base b2:Nat} {FA:Option Addr} {la:List Ac} {HA:Option Addr} {vd:List Int} (h:Loc w base FA la HA vd) (hb:b2≤base):Loc w b2 FA la HA vd:=⟨h.l,h.s,h.n,h.m,h.a,h.d,fun b off e=>Nat.le_trans hb (h.ab b off e),fun b off e=>Nat.le_trans hb (h.db b off e)⟩
theorem Loc.keep {w w1:Zw} {base X:Nat} {FA:Option Addr} {la:List Ac} {HA:Option Addr} {vd:List Int} (h:Loc w base FA la HA vd) (hb:But (fun b=>b=X) w w1) (hX:X < base∨(∀ b off,FA=some ⟨b,off,none⟩→0 < la.length→b < X)∧(∀ b off,HA=some ⟨b,off,none⟩→0 < vd.length→b < X)):Loc w1 base FA la HA vd :=
 ⟨h.l,h.s,h.n,h.m,acs_keep h.a hb (fun b off e hl=>by
  rcases hX with hX | hX
  ·have:=h.ab b off e;omega
  ·have:=hX.1 b off e hl;omega),ints_keep h.d hb (fun b off e hl=>by
  rcases hX with hX | hX
  ·have:=h.db b off e;omega
  ·have:=hX.2 b off e hl;omega),h.ab,h.db⟩
def ScriptRet (N:Nat) (late rounds:Int) (w:Zw) (e:Ending) (w':Zw):Prop:=∃(on dr er:List Int) (OA DA EA:Option Addr) (OC DC EC:Nat) (fk fa ff ft:Int) (FA:Option Addr) (la:List Ac) (FC:Nat) (HA:Option Addr) (vd:List Int) (HC:Nat),
 e=.returned (.agg #[.slice OA on.length OC,.slice DA dr.length DC,.slice EA er.length EC,.slice none 0 0,Z Y fk,Z Y fa,Z Y ff,Z Y ft,.slice FA la.length FC,.slice HA vd.length HC,Z Y rounds])∧on.length=N∧(∀ z ∈ on,0≤z∧z≤late)∧dr.length≤20∧er.length≤20∧Ints w' OA on∧Ints w' DA dr∧Ints w' EA er∧(∀ b off,OA=some ⟨b,off,none⟩→w.heap.size≤b)∧(∀ b off,DA=some ⟨b,off,none⟩→w.heap.size≤b)∧(∀ b off,EA=some ⟨b,off,none⟩→w.heap.size≤b)∧Loc w' w.heap.size FA la HA vd∧Zb w.heap.size w w'
theorem put11 {w:Zw} {R:Nat} {z0 z1 z2 z3 z4 z5 z6 z7 z8 z9 z10:Value} {t:TypeId} (h:w.heap[R]?=some (.cells #[z0,z1,z2,z3,z4,z5,z6,z7,z8,z9,z10] t (0,0))) (a0 a1 a2 a3 a4 a5 a6 a7 a8 a9 a10:Value) :
 (((((((((((w.setCell ⟨R,0,none⟩ a0).setCell ⟨R,1,none⟩ a1).setCell ⟨R,2,none⟩ a2).setCell ⟨R,3,none⟩ a3).setCell ⟨R,4,none⟩ a4).setCell ⟨R,5,none⟩ a5).setCell ⟨R,6,none⟩ a6).setCell ⟨R,7,none⟩ a7).setCell ⟨R,8,none⟩ a8).setCell ⟨R,9,none⟩ a9).setCell ⟨R,10,none⟩ a10).heap[R]?=some (.cells #[a0,a1,a2,a3,a4,a5,a6,a7,a8,a9,a10] t (0,0)) ∧
 But (fun b=>b=R) w (((((((((((w.setCell ⟨R,0,none⟩ a0).setCell ⟨R,1,none⟩ a1).setCell ⟨R,2,none⟩ a2).setCell ⟨R,3,none⟩ a3).setCell ⟨R,4,none⟩ a4).setCell ⟨R,5,none⟩ a5).setCell ⟨R,6,none⟩ a6).setCell ⟨R,7,none⟩ a7).setCell ⟨R,8,none⟩ a8).setCell ⟨R,9,none⟩ a9).setCell ⟨R,10,none⟩ a10) :=
 ⟨by
  have:=heap_setCell_same _ _ 10 _ _ a10 (heap_setCell_same _ _ 9 _ _ a9 (heap_setCell_same _ _ 8 _ _ a8 (heap_setCell_same _ _ 7 _ _ a7 (heap_setCell_same _ _ 6 _ _ a6 (heap_setCell_same _ _ 5 _ _ a5 (heap_setCell_same _ _ 4 _ _ a4 (heap_setCell_same _ _ 3 _ _ a3 (heap_setCell_same _ _ 2 _ _ a2 (heap_setCell_same _ _ 1 _ _ a1 (heap_setCell_same _ _ 0 _ _ a0 h))))))))))
  simpa only [List.setIfInBounds_toArray,List.set_cons_zero,List.set_cons_succ]using this,
  ((((((((((((But.refl (fun b=>b=R) w).setCell (p:=⟨R,0,none⟩) (.inl rfl) _).setCell (p:=⟨R,1,none⟩) (.inl rfl) _).setCell (p:=⟨R,2,none⟩) (.inl rfl) _).setCell (p:=⟨R,3,none⟩) (.inl rfl) _).setCell (p:=⟨R,4,none⟩) (.inl rfl) _).setCell (p:=⟨R,5,none⟩) (.inl rfl) _).setCell (p:=⟨R,6,none⟩) (.inl rfl) _).setCell (p:=⟨R,7,none⟩) (.inl rfl) _).setCell (p:=⟨R,8,none⟩) (.inl rfl) _).setCell (p:=⟨R,9,none⟩) (.inl rfl) _).setCell (p:=⟨R,10,none⟩) (.inl rfl) _)⟩
theorem Script (N:Nat) (Pi Er Gd Fi:Int) (PA:Option Addr) (PL PC:Nat) (on0 dr0 er0:List Int) (OA DA EA:Option Addr) (OC DC EC:Nat) (a0 a1 a2 a3:Int) (CA:Option Addr) (CL CC:Nat) (VA:Option Addr) (vs:List Int) (VC:Nat) (late rounds:Int) (w:Zw)
 (hN:1≤N) (hN2:N≤12) (hE0:0≤Er) (hE1:Er≤20) (hG0:0≤Gd) (hG1:Gd≤20) (hl0:0≤late) (hl1:late≤100) (hA:ActsAt w CA CL) (hL:CL≤9223372036854775807) (hV:Ints w VA vs) (hVL:vs.length≤9223372036854775807)
 (hO:Ints w OA on0) (hOL:on0.length≤9223372036854775807) (hD:Ints w DA dr0) (hDL:dr0.length≤9223372036854775807) (hE:Ints w EA er0) (hEL:er0.length≤9223372036854775807) :
 Zc Zp 21 #[.agg #[.slice OA on0.length OC,.slice DA dr0.length DC,.slice EA er0.length EC,.slice none 0 0,Z Y a0,Z Y a1,Z Y a2,Z Y a3,.slice CA CL CC,.slice VA vs.length VC],.agg #[Z Y N,Z Y Pi,Z Y Er,Z Y Gd,Z Y Fi,.slice PA PL PC],Z Y late,Z Y rounds] w (ScriptRet N late rounds w):=by
 have HM:=O (fun w' (h1:ActsAt w' CA CL) (h2:Ints w' VA vs)=>l6_Make N Pi Er Gd Fi PA PL PC a0 a1 a2 a3 CA CL CC VA vs VC w' hN hN2 h1 hL h2 hVL)
 have wl:IntKind.i64.wrap (late+1)=late+1:=by rw [IntKind.wrap_i64];omega
 have wg1:IntKind.i64.wrap (2*Gd)=2*Gd:=by rw [IntKind.wrap_i64];omega
 have wg2:IntKind.i64.wrap (2*Gd+3)=2*Gd+3:=by rw [IntKind.wrap_i64];omega
 have we1:IntKind.i64.wrap (2*Er)=2*Er:=by rw [IntKind.wrap_i64];omega
 have we2:IntKind.i64.wrap (2*Er+3)=2*Er+3:=by rw [IntKind.wrap_i64];omega
 obtain⟨hR,hC,hZ,hz,hB⟩:=three w (.cells #[.slice OA on0.length OC,.slice DA dr0.length DC,.slice EA er0.length EC,.slice none 0 0,Z Y a0,Z Y a1,Z Y a2,Z Y a3,.slice CA CL CC,.slice VA vs.length VC] 29) (.cells #[Z Y N,Z Y Pi,Z Y Er,Z Y Gd,Z Y Fi,.slice PA PL PC] 24) (.cells #[.slice none 0 0,.slice none 0 0,.slice none 0 0,.slice none 0 0,Z Y 0,Z Y 0,Z Y 0,Z Y 0,.slice none 0 0,.slice none 0 0,Z Y 0] 34)
 have HRows:=O (And.intro hO (And.intro hD hE))
 have HAV:=O (And.intro hA hV)
 clear hA hV hO hD hE
 go_enter Tryz.func21,Tryz.ntmps21
 go_upto_region 1 with fail
 generalize ((w.alloc (.cells #[.slice OA on0.length OC,.slice DA dr0.length DC,.slice EA er0.length EC,.slice none 0 0,Z Y a0,Z Y a1,Z Y a2,Z Y a3,.slice CA CL CC,.slice VA vs.length VC] 29)).alloc (.cells #[Z Y N,Z Y Pi,Z Y Er,Z Y Gd,Z Y Fi,.slice PA PL PC] 24)).alloc (.cells #[.slice none 0 0,.slice none 0 0,.slice none 0 0,.slice none 0 0,Z Y 0,Z Y 0,Z Y 0,Z Y 0,.slice none 0 0,.slice none 0 0,Z Y 0] 34)=wa at *
 obtain⟨x0,x1,x2,x3,x4,x5⟩:=box6 hC
 have y4:=bcell hR 4
 have y5:=bcell hR 5
 have y6:=bcell hR 6
 have y7:=bcell hR 7
 have y8:=bcell hR 8
 have y9:=bcell hR 9
 change _=some _ at y4 y5 y6 y7 y8 y9
 have HR:=O hR
 have HC:=O hC
 have HZ:=O hZ
 have HB:=O hB
 clear hR hC hZ hB
 go_wp2_with fail
 refine(HM.out wa (HAV.out.1.below HB.out) (ints_low HAV.out.2 HB.out (ints_lt HAV.out.2) (Zr _))).mono ?_
 rintro e w1 ⟨fk,fa,ff,ft,FA,la,FC,HA,vd,HCp,rfl,⟨hl1,hl2,hl3,hl4⟩,hl5,hl6,hl7,hl8,hb1⟩
 have HLt:=O (And.intro (acs_lt hl5) (ints_lt hl6))
 have hloc:Loc w1 wa.heap.size FA la HA vd:=⟨hl1,hl2,hl3,hl4,hl5,hl6,hl7,hl8⟩
 clear hl1 hl2 hl3 hl4 hl5 hl6 hl7 hl8
 clear x0 x1 x2 x3 x4 x5 y4 y5 y6 y7 y8 y9
 have hX:=Zh w1 (.cells #[.slice none 0 0,.slice none 0 0,.slice none 0 0,.slice none 0 0,Z Y fk,Z Y fa,Z Y ff,Z Y ft,.slice FA la.length FC,.slice HA vd.length HCp,Z Y rounds] 34)
 have hbx:Zb w1.heap.size w1 (w1.alloc (.cells #[.slice none 0 0,.slice none 0 0,.slice none 0 0,.slice none 0 0,Z Y fk,Z Y fa,Z Y ff,Z Y ft,.slice FA la.length FC,.slice HA vd.length HCp,Z Y rounds] 34)):=(Zf _ _).alloc (Zr _) _
 go_upto_region 3 with fail
 generalize w1.alloc (.cells #[.slice none 0 0,.slice none 0 0,.slice none 0 0,.slice none 0 0,Z Y fk,Z Y fa,Z Y ff,Z Y ft,.slice FA la.length FC,.slice HA vd.length HCp,Z Y rounds] 34)=wx at *
 have s1:=hb1.size
 have sx:=hbx.size
 have lX:=heap_lt hX
 have HRx:=O ((hbx.block _ (by omega)).trans ((hb1.block _ (by omega)).trans HR.out))
 have HCx:=O ((hbx.block _ (by omega)).trans ((hb1.block _ (by omega)).trans HC.out))
 have HZx:=O ((hbx.block _ (by omega)).trans ((hb1.block _ (by omega)).trans HZ.out))
 have HBx:=O (HB.out.trans ((hb1.mono (by omega)).trans (hbx.mono (by omega))))
 have HX:=O hX
 have HLx:=O (hloc.below hbx)
 clear hX hbx hb1 HR HC HZ HB hloc
 go_loopw [10] (fun t wr=>∃(k:Nat) (on:List Int) (v:Value),k≤N∧t=Z Y k∧on.length=k∧(∀ z ∈ on,0≤z∧z≤late)∧wr.heap[w1.heap.size]?=some (.cells #[v,.slice none 0 0,.slice none 0 0,.slice none 0 0,Z Y fk,Z Y fa,Z Y ff,Z Y ft,.slice FA la.length FC,.slice HA vd.length HCp,Z Y rounds] 34 (0,0))∧wr.ownsRow wx.heap.size 3 1 v k (on.map (Z Y))∧But (fun b=>b=w1.heap.size) wx wr) (fun t _=>N-(intOf t).toNat)
 case atStart=>exact⟨0,[],.slice none 0 0,by omega,rfl,rfl,(fun z hz=>by cases hz),HX.out,World.ownsRow_nil _ _ _ _,But.refl _ _⟩
 case round =>
  obtain⟨k,on,v,hk,rfl,hol,hon,hx,hown,hbut⟩:=hrel
  have zr:=hbut.size
  have HRr:=O ((hbut.block _ (by omega) (by omega)).trans HRx.out)
  have HCr:=O ((hbut.block _ (by omega) (by omega)).trans HCx.out)
  obtain⟨x0,_,_,_,_,_⟩:=box6 HCr.out
  have y0:=bcell HRr.out 0
  change _=some _ at y0
  have HXr:=O hx
  have HO:=O hown
  have HBu:=O hbut
  have HOn:=O hon
  by_cases hlt:k < N
  ·have lk:(k:Int) < (N:Int):=by omega
   clear hx hown hon
   go_upto_if 32 with fail
   go_cut [11]from 32 to 40 (fun t11 wq=>∃ z:Int,t11=Z Y z∧0≤z∧z≤late∧wq=wr)
   case first =>
    by_cases hlo:k < on0.length
    ·have lo:(k:Int) < (on0.length:Int):=by omega
     have hO0:=ints_low HRows.out.1 HBx.out (ints_lt HRows.out.1) (Zr _)
     obtain⟨b,off,rfl,hbl,hcell'⟩:=hO0 k hlo
     have hb0:=ints_lt HRows.out.1 b off rfl (by omega)
     have hcell:=(hbut.cell (p:=⟨b,off+k,none⟩) hbl (by show ¬ b=_;omega)).trans hcell'
     generalize on0.getD k 0=z at *
     have za:0≤z%(late+1):=Int.emod_nonneg _ (by omega)
     have zb:z%(late+1) < late+1:=Int.emod_lt_of_pos _ (by omega)
     clear hbut hO0 hcell' hb0
     go_wp2_with (first | (go_at_call 19;refine(within19 _ _ _ (by omega) (by omega)).mono ?_;rintro e w' ⟨rfl,rfl⟩) | fail)
     go_meet
     exact⟨z%(late+1),rfl,za,by omega,rfl⟩
    ·have lo:¬(k:Int) < (on0.length:Int):=by omega
     clear hbut
     go_wp2_with fail
     go_meet
     exact⟨0,rfl,by omega,by omega,rfl⟩
   case rest =>
    obtain⟨z,rfl,za,zb,rfl⟩:=hcut
    have g0:=bcell HXr.out 0
    change _=some _ at g0
    have f0:wc.frozen? ⟨w1.heap.size,0,none⟩=false:=by simp [World.frozen?,HXr.out]
    clear hbut x0 y0
    go_wp2_with (at_builtin;refine seq_own 22 3 1 8 (Z Y 0) Tryz.underlying22 info3 rfl (by decide) rfl _ _ rfl wx.heap.size v k (on.map (Z Y)) rfl (HO.out.alloc _) wc.heap.size #[Z Y z] rfl (Zh wc _) rfl (fun u hu=>by simp at hu;rw [hu];rfl) (by omega) (by omega) (by simp;omega) ?_)
    intro gg cap w3 hown3 hb3
    have hb3':=((But.refl (fun b=>wx.heap.size≤b∧v.ownBlock=some b) wc).alloc _).trans hb3
    have hX3:=(hb3'.block w1.heap.size (by omega) (fun e=>by omega)).trans HXr.out
    have n0:=bcell hX3 0
    change _=some _ at n0
    have hfr3:w3.frozen? ⟨w1.heap.size,0,none⟩=false:=by simp [World.frozen?,hX3]
    have HX3:=O (heap_setCell_same _ _ 0 _ _ (.slice (some ⟨gg,0,none⟩) (k+1) cap) hX3)
    have HB3:=O hb3'
    have HO3:=O hown3
    clear g0 f0 hb3 hb3' hX3 hown3
    go_wp2
    go_roundw
    case rel =>
     exact⟨k+1,on ++ [z],.slice (some ⟨gg,0,none⟩) (k+1) cap,by omega,by go_num,by simp;omega,(fun y hy=>by
      rw [List.mem_append,List.mem_singleton]at hy
      rcases hy with hy | rfl
      ·exact HOn.out y hy
      ·omega),HX3.out,by rw [List.map_append];exact ownsRow_setCell_below HO3.out (show w1.heap.size < _ by omega) _,(But.up HBu.out HB3.out (Zr _)).setCell (p:=⟨w1.heap.size,0,none⟩) (.inl rfl) _⟩
    case measure=>simp [intOf];omega
  ·obtain rfl:k=N:=by omega
   have lk:¬(k:Int) < (k:Int):=by omega
   obtain⟨OA1,OC1,rfl,hOI,hOb⟩:=own_ints hown hol
   clear hbut hx hown hon
   go_upto_block 2 with fail
   generalize wr=wu at *
   have HIu:=O hOI
   have HIb:=O hOb
   have HXu:=HXr
   have HRu:=HRr
   have HCu:=HCr
   have HZu:=O ((HBu.out.block _ (by omega) (by omega)).trans HZx.out)
   have HLu:=O (HLx.out.keep HBu.out (.inr HLt.out))
   have HBw:=O (HBx.out.trans (HBu.out.to_below (by omega) (fun b e=>by omega)))
   clear hOI hOb HXr HRr HCr HBu x0 y0
   go_upto_block 2 with fail
   go_cut [12]from 47 to 76 (fun t wq=>∃(rows:List Int) (A:Option Addr) (C:Nat),rows.length≤20∧Ints wq A rows∧(∀ b off,A=some ⟨b,off,none⟩→wu.heap.size≤b)∧(∃ v,v=.slice A rows.length C∧wq.heap[w1.heap.size]?=some (.cells #[.slice OA1 on.length OC1,v,.slice none 0 0,.slice none 0 0,Z Y fk,Z Y fa,Z Y ff,Z Y ft,.slice FA la.length FC,.slice HA vd.length HCp,Z Y rounds] 34 (0,0)))∧But (fun b=>b=w1.heap.size) wu wq)
   case first =>
    have zwu:=HBw.out.size
    go_wp2_with fail
    go_loopw [12] (fun t wr=>∃(k:Nat) (rows:List Int) (v:Value),k≤20∧k≤dr0.length∧t=Z Y k∧rows.length=k∧wr.heap[w1.heap.size]?=some (.cells #[.slice OA1 on.length OC1,v,.slice none 0 0,.slice none 0 0,Z Y fk,Z Y fa,Z Y ff,Z Y ft,.slice FA la.length FC,.slice HA vd.length HCp,Z Y rounds] 34 (0,0))∧wr.ownsRow wu.heap.size 3 1 v k (rows.map (Z Y))∧But (fun b=>b=w1.heap.size) wu wr) (fun t _=>20-(intOf t).toNat)
    case atStart=>exact⟨0,[],.slice none 0 0,by omega,by omega,rfl,rfl,HXu.out,World.ownsRow_nil _ _ _ _,But.refl _ _⟩
    case round =>
     obtain⟨k,rows,v,hk,hkl,rfl,hol,hx,hown,hbut⟩:=hrel
     have zr:=hbut.size
     have lXu:=heap_lt HXu.out
     have HRr:=O ((hbut.block _ (by omega) (by omega)).trans HRu.out)
     have HCr:=O ((hbut.block _ (by omega) (by omega)).trans HCu.out)
     obtain⟨x0,_,x2,x3,_,_⟩:=box6 HCr.out
     have y:=bcell HRr.out 1
     change _=some _ at y
     have HXr:=O hx
     have HO:=O hown
     have HBu:=O hbut
     by_cases hlt:k < dr0.length
     ·by_cases hk3:k < 20
      ·have lk1:(k:Int) < (dr0.length:Int):=by omega
       have lk2:(k:Int) < 20:=by omega
       have hO0:=ints_low HRows.out.2.1 HBw.out (ints_lt HRows.out.2.1) (Zr _)
       obtain⟨b,off,rfl,hbl,hcell'⟩:=hO0 k hlt
       have hb0:=ints_lt HRows.out.2.1 b off rfl (by omega)
       have hcell:=(hbut.cell (p:=⟨b,off+k,none⟩) hbl (by show ¬ b=_;omega)).trans hcell'
       have hbl2:b < wr.heap.size:=by omega
       have g:=bcell HXr.out 1
       change _=some _ at g
       generalize dr0.getD k 0=z at *
       have za:0≤z%(2*Gd+3):=Int.emod_nonneg _ (by omega)
       have zb:z%(2*Gd+3) < 2*Gd+3:=Int.emod_lt_of_pos _ (by omega)
       have wz1:IntKind.i64.wrap (z%(2*Gd+3)-Gd)=z%(2*Gd+3)-Gd:=by rw [IntKind.wrap_i64];omega
       have wz2:IntKind.i64.wrap (z%(2*Gd+3)-Gd-1)=z%(2*Gd+3)-Gd-1:=by rw [IntKind.wrap_i64];omega
       clear hbut hO0 hcell' hx hown
       go_wp2_with fail
       refine AT.wp_region_tail (S:=fun w'=>w'.cell? ⟨w1.heap.size,1,none⟩=some v∧w'.cell? ⟨w.heap.size,1,none⟩=some (.slice (some ⟨b,off,none⟩) dr0.length DC)∧w'.cell? ⟨b,off+k,none⟩=some (Z Y z)∧w'.cell? ⟨w.heap.size+1,3,none⟩=some (Z Y Gd)) [18,19] (by kernel_rfl) ⟨g,y,hcell,x3⟩ (fun hHeld=>?_)
       refine rgU 0 ?_
       refine rgU 1 ?_
       refine rgU 2 ?_
       refine rgU 3 ?_
       refine rgU 4 ?_
       refine rgU 5 ?_
       refine rgU 6 ?_
       refine rgU 7 ?_
       refine rgU 8 ?_
       refine rgU 9 ?_
       refine rgU 10 ?_
       refine rgU 12 ?_
       refine rgU 13 ?_
       refine rgV 11 fun K hK=>?_
       go_simp
       refine(within19 _ _ _ (by omega) (by omega)).mono ?_
       rintro e w' ⟨rfl,rfl⟩
       go_simp
       refine hK.out _ _ ⟨g,y,hcell,x3⟩ (fun hHeld=>?_)
       clear hK K
       refine rgU 14 ?_
       refine rgU 15 ?_
       refine rgV 16 fun K hK=>?_
       go_simp
       refine hK.out _ _ ⟨alloc_keep g,alloc_keep y,alloc_keep hcell,alloc_keep x3⟩ (fun hHeld=>?_)
       clear hK K
       refine rgV 17 fun K hK=>?_
       refine app_int (by rfl) _ _ (by rfl) wu.heap.size v k (rows.map (Z Y)) (by rfl) (HO.out.drew.alloc _) wr.heap.size (z%(2*Gd+3)-Gd-1) (by rfl) (Zh wr.drew _) (by omega) (by simp;omega) ?_
       intro gg cap w3 hown3 hb3
       have hb3':But (fun x=>wu.heap.size≤x∧v.ownBlock=some x) wr w3:=(((But.refl (fun x=>wu.heap.size≤x∧v.ownBlock=some x) wr).drew).alloc _).trans hb3
       have hX3:=(hb3'.block w1.heap.size (by omega) (fun e=>by omega)).trans HXr.out
       have n5:=bcell hX3 1
       change _=some _ at n5
       have m5:=(hb3'.cell (p:=⟨w.heap.size,1,none⟩) (by show w.heap.size < _;omega) (fun e=>by have:=e.1;simp only at this;omega)).trans y
       have mc:=(hb3'.cell (p:=⟨b,off+k,none⟩) hbl2 (fun e=>by have:=e.1;simp only at this;omega)).trans hcell
       have mx:=(hb3'.cell (p:=⟨w.heap.size+1,3,none⟩) (by show w.heap.size+1 < _;omega) (fun e=>by have:=e.1;simp only at this;omega)).trans x3
       have hfr3:w3.frozen? ⟨w1.heap.size,1,none⟩=false:=by simp [World.frozen?,hX3]
       have HX3:=O (heap_setCell_same _ _ 1 _ _ (.slice (some ⟨gg,0,none⟩) (k+1) cap) hX3)
       have HB3:=O hb3'
       have HO3:=O hown3
       clear g y hcell x0 x2 x3 hb3 hb3' hX3 hown3
       refine hK.out _ _ ⟨n5,m5,mc,mx⟩ (fun hHeld=>?_)
       clear hK K
       try simp only [Act.put,List.getElem_toArray,List.getElem_cons_succ,List.getElem_cons_zero,List.setIfInBounds_toArray,List.set_cons_zero,List.set_cons_succ]
       refine rgW 18 fun K hK=>?_
       go_simp
       refine hK.out _ _ ?_
       clear hK K
       refine rgW 19 fun K hK=>?_
       go_simp
       refine hK.out _ _ ?_
       clear hK K
       refine AT.wpT_done (by kernel_rfl) ?_ _
       clear n5 m5 mc mx hfr3 hHeld
       go_wp2
       go_roundw
       case rel =>
        exact⟨k+1,rows ++ [z%(2*Gd+3)-Gd-1],.slice (some ⟨gg,0,none⟩) (k+1) cap,by omega,by omega,by go_num,by simp;omega,HX3.out,by rw [List.map_append];exact ownsRow_setCell_below HO3.out (show w1.heap.size < _ by omega) _,(But.up HBu.out HB3.out (Zr _)).setCell (p:=⟨w1.heap.size,1,none⟩) (.inl rfl) _⟩
       case measure=>simp [intOf];omega
      ·obtain rfl:k=20:=by omega
       have lk1:((20:Nat):Int) < (dr0.length:Int):=by omega
       have lk2:(20:Int) < (dr0.length:Int):=by omega
       obtain⟨A,C,e,hI,hb⟩:=own_ints hown hol
       clear hown hbut
       go_wp2_with fail
       go_meet
       exact⟨rows,A,C,by omega,hI,hb,⟨v,e,HXr.out⟩,HBu.out⟩
     ·have lk1:¬(k:Int) < (dr0.length:Int):=by omega
      obtain⟨A,C,e,hI,hb⟩:=own_ints hown hol
      clear hown hbut
      go_wp2_with fail
      go_meet
      exact⟨rows,A,C,by omega,hI,hb,⟨v,e,HXr.out⟩,HBu.out⟩
   case rest =>
   generalize wc=wv at *
   obtain⟨rows1,A1,C1,hlen1,hI1,hb1,⟨_,rfl,hX1⟩,hbut⟩:=hcut
   have zu1:=HBw.out.size
   have zn1:=hbut.size
   have lXn1:=heap_lt HXu.out
   have HRn:=O ((hbut.block _ (by omega) (by omega)).trans HRu.out)
   have HCn:=O ((hbut.block _ (by omega) (by omega)).trans HCu.out)
   have HZn:=O ((hbut.block _ (by omega) (by omega)).trans HZu.out)
   have HBn:=O (HBw.out.trans (hbut.to_below (by omega) (fun b e=>by omega)))
   have HIn:=O (ints_keep HIu.out hbut (fun b off e _=>by have:=HIb.out b off e;omega))
   have HLv:=O (HLu.out.keep hbut (.inr HLt.out))
   clear HRu HCu HZu HBw HXu HIu
   have HRu:=HRn
   have HCu:=HCn
   have HZu:=HZn
   have HBw:=HBn
   have HXu:=O hX1
   have HIu:=HIn
   have HJu:=O hI1
   have HJb:=O hb1
   clear HRn HCn HZn HBn HIn hX1 hI1 hb1 hbut
   go_upto_block 4 with fail
   go_cut [13]from 77 to 106 (fun t wq=>∃(rows:List Int) (A:Option Addr) (C:Nat),rows.length≤20∧Ints wq A rows∧(∀ b off,A=some ⟨b,off,none⟩→wv.heap.size≤b)∧(∃ v,v=.slice A rows.length C∧wq.heap[w1.heap.size]?=some (.cells #[.slice OA1 on.length OC1,.slice A1 rows1.length C1,v,.slice none 0 0,Z Y fk,Z Y fa,Z Y ff,Z Y ft,.slice FA la.length FC,.slice HA vd.length HCp,Z Y rounds] 34 (0,0)))∧But (fun b=>b=w1.heap.size) wv wq)
   case first =>
    have zwv:=HBw.out.size
    go_wp2_with fail
    go_loopw [13] (fun t wr=>∃(k:Nat) (rows:List Int) (v:Value),k≤20∧k≤er0.length∧t=Z Y k∧rows.length=k∧wr.heap[w1.heap.size]?=some (.cells #[.slice OA1 on.length OC1,.slice A1 rows1.length C1,v,.slice none 0 0,Z Y fk,Z Y fa,Z Y ff,Z Y ft,.slice FA la.length FC,.slice HA vd.length HCp,Z Y rounds] 34 (0,0))∧wr.ownsRow wv.heap.size 3 1 v k (rows.map (Z Y))∧But (fun b=>b=w1.heap.size) wv wr) (fun t _=>20-(intOf t).toNat)
    case atStart=>exact⟨0,[],.slice none 0 0,by omega,by omega,rfl,rfl,HXu.out,World.ownsRow_nil _ _ _ _,But.refl _ _⟩
    case round =>
     obtain⟨k,rows,v,hk,hkl,rfl,hol,hx,hown,hbut⟩:=hrel
     have zr:=hbut.size
     have lXu:=heap_lt HXu.out
     have HRr:=O ((hbut.block _ (by omega) (by omega)).trans HRu.out)
     have HCr:=O ((hbut.block _ (by omega) (by omega)).trans HCu.out)
     obtain⟨x0,_,x2,x3,_,_⟩:=box6 HCr.out
     have y:=bcell HRr.out 2
     change _=some _ at y
     have HXr:=O hx
     have HO:=O hown
     have HBu:=O hbut
     by_cases hlt:k < er0.length
     ·by_cases hk3:k < 20
      ·have lk1:(k:Int) < (er0.length:Int):=by omega
       have lk2:(k:Int) < 20:=by omega
       have hO0:=ints_low HRows.out.2.2 HBw.out (ints_lt HRows.out.2.2) (Zr _)
       obtain⟨b,off,rfl,hbl,hcell'⟩:=hO0 k hlt
       have hb0:=ints_lt HRows.out.2.2 b off rfl (by omega)
       have hcell:=(hbut.cell (p:=⟨b,off+k,none⟩) hbl (by show ¬ b=_;omega)).trans hcell'
       have hbl2:b < wr.heap.size:=by omega
       have g:=bcell HXr.out 2
       change _=some _ at g
       generalize er0.getD k 0=z at *
       have za:0≤z%(2*Er+3):=Int.emod_nonneg _ (by omega)
       have zb:z%(2*Er+3) < 2*Er+3:=Int.emod_lt_of_pos _ (by omega)
       have wz1:IntKind.i64.wrap (z%(2*Er+3)-Er)=z%(2*Er+3)-Er:=by rw [IntKind.wrap_i64];omega
       have wz2:IntKind.i64.wrap (z%(2*Er+3)-Er-1)=z%(2*Er+3)-Er-1:=by rw [IntKind.wrap_i64];omega
       clear hbut hO0 hcell' hx hown
       go_wp2_with fail
       refine AT.wp_region_tail (S:=fun w'=>w'.cell? ⟨w1.heap.size,2,none⟩=some v∧w'.cell? ⟨w.heap.size,2,none⟩=some (.slice (some ⟨b,off,none⟩) er0.length EC)∧w'.cell? ⟨b,off+k,none⟩=some (Z Y z)∧w'.cell? ⟨w.heap.size+1,2,none⟩=some (Z Y Er)) [18,19] (by kernel_rfl) ⟨g,y,hcell,x2⟩ (fun hHeld=>?_)
       refine rgU 0 ?_
       refine rgU 1 ?_
       refine rgU 2 ?_
       refine rgU 3 ?_
       refine rgU 4 ?_
       refine rgU 5 ?_
       refine rgU 6 ?_
       refine rgU 7 ?_
       refine rgU 8 ?_
       refine rgU 9 ?_
       refine rgU 10 ?_
       refine rgU 12 ?_
       refine rgU 13 ?_
       refine rgV 11 fun K hK=>?_
       go_simp
       refine(within19 _ _ _ (by omega) (by omega)).mono ?_
       rintro e w' ⟨rfl,rfl⟩
       go_simp
       refine hK.out _ _ ⟨g,y,hcell,x2⟩ (fun hHeld=>?_)
       clear hK K
       refine rgU 14 ?_
       refine rgU 15 ?_
       refine rgV 16 fun K hK=>?_
       go_simp
       refine hK.out _ _ ⟨alloc_keep g,alloc_keep y,alloc_keep hcell,alloc_keep x2⟩ (fun hHeld=>?_)
       clear hK K
       refine rgV 17 fun K hK=>?_
       refine app_int (by rfl) _ _ (by rfl) wv.heap.size v k (rows.map (Z Y)) (by rfl) (HO.out.drew.alloc _) wr.heap.size (z%(2*Er+3)-Er-1) (by rfl) (Zh wr.drew _) (by omega) (by simp;omega) ?_
       intro gg cap w3 hown3 hb3
       have hb3':But (fun x=>wv.heap.size≤x∧v.ownBlock=some x) wr w3:=(((But.refl (fun x=>wv.heap.size≤x∧v.ownBlock=some x) wr).drew).alloc _).trans hb3
       have hX3:=(hb3'.block w1.heap.size (by omega) (fun e=>by omega)).trans HXr.out
       have n5:=bcell hX3 2
       change _=some _ at n5
       have m5:=(hb3'.cell (p:=⟨w.heap.size,2,none⟩) (by show w.heap.size < _;omega) (fun e=>by have:=e.1;simp only at this;omega)).trans y
       have mc:=(hb3'.cell (p:=⟨b,off+k,none⟩) hbl2 (fun e=>by have:=e.1;simp only at this;omega)).trans hcell
       have mx:=(hb3'.cell (p:=⟨w.heap.size+1,2,none⟩) (by show w.heap.size+1 < _;omega) (fun e=>by have:=e.1;simp only at this;omega)).trans x2
       have hfr3:w3.frozen? ⟨w1.heap.size,2,none⟩=false:=by simp [World.frozen?,hX3]
       have HX3:=O (heap_setCell_same _ _ 2 _ _ (.slice (some ⟨gg,0,none⟩) (k+1) cap) hX3)
       have HB3:=O hb3'
       have HO3:=O hown3
       clear g y hcell x0 x2 x3 hb3 hb3' hX3 hown3
       refine hK.out _ _ ⟨n5,m5,mc,mx⟩ (fun hHeld=>?_)
       clear hK K
       try simp only [Act.put,List.getElem_toArray,List.getElem_cons_succ,List.getElem_cons_zero,List.setIfInBounds_toArray,List.set_cons_zero,List.set_cons_succ]
       refine rgW 18 fun K hK=>?_
       go_simp
       refine hK.out _ _ ?_
       clear hK K
       refine rgW 19 fun K hK=>?_
       go_simp
       refine hK.out _ _ ?_
       clear hK K
       refine AT.wpT_done (by kernel_rfl) ?_ _
       clear n5 m5 mc mx hfr3 hHeld
       go_wp2
       go_roundw
       case rel =>
        exact⟨k+1,rows ++ [z%(2*Er+3)-Er-1],.slice (some ⟨gg,0,none⟩) (k+1) cap,by omega,by omega,by go_num,by simp;omega,HX3.out,by rw [List.map_append];exact ownsRow_setCell_below HO3.out (show w1.heap.size < _ by omega) _,(But.up HBu.out HB3.out (Zr _)).setCell (p:=⟨w1.heap.size,2,none⟩) (.inl rfl) _⟩
       case measure=>simp [intOf];omega
      ·obtain rfl:k=20:=by omega
       have lk1:((20:Nat):Int) < (er0.length:Int):=by omega
       have lk2:(20:Int) < (er0.length:Int):=by omega
       obtain⟨A,C,e,hI,hb⟩:=own_ints hown hol
       clear hown hbut
       go_wp2_with fail
       go_meet
       exact⟨rows,A,C,by omega,hI,hb,⟨v,e,HXr.out⟩,HBu.out⟩
     ·have lk1:¬(k:Int) < (er0.length:Int):=by omega
      obtain⟨A,C,e,hI,hb⟩:=own_ints hown hol
      clear hown hbut
      go_wp2_with fail
      go_meet
      exact⟨rows,A,C,by omega,hI,hb,⟨v,e,HXr.out⟩,HBu.out⟩
   case rest =>
   generalize wc=wt at *
   obtain⟨rows2,A2,C2,hlen2,hI2,hb2,⟨_,rfl,hX2⟩,hbut⟩:=hcut
   have zu2:=HBw.out.size
   have zn2:=hbut.size
   have lXn2:=heap_lt HXu.out
   have HRn:=O ((hbut.block _ (by omega) (by omega)).trans HRu.out)
   have HCn:=O ((hbut.block _ (by omega) (by omega)).trans HCu.out)
   have HZn:=O ((hbut.block _ (by omega) (by omega)).trans HZu.out)
   have HBn:=O (HBw.out.trans (hbut.to_below (by omega) (fun b e=>by omega)))
   have HIn:=O (ints_keep HIu.out hbut (fun b off e _=>by have:=HIb.out b off e;omega))
   have HJn:=O (ints_keep HJu.out hbut (fun b off e _=>by have:=HJb.out b off e;omega))
   have HLz:=O (HLv.out.keep hbut (.inr HLt.out))
   clear HRu HCu HZu HBw HXu HIu HJu
   have hx4:=bcell HRn.out 3
   change _=some _ at hx4
   have SZ:=HZn.out
   have lRX:w.heap.size+2≠w1.heap.size:=by omega
   have lXR:w1.heap.size≠w.heap.size+2:=by omega
   obtain⟨c0,c1,c2,c3,c4,c5,c6,c7,c8,c9,c10⟩:=box11 hX2
   obtain⟨q0,q1,q2,q3,q4,q5,q6,q7,q8,q9,q10⟩:=box11 SZ
   have qf:∀ o,wt.frozen? ⟨w.heap.size+2,o,none⟩=false:=fun o=>by simp [World.frozen?,SZ]
   have u0:=qf 0
   have u1:=qf 1
   have u2:=qf 2
   have u3:=qf 3
   have u4:=qf 4
   have u5:=qf 5
   have u6:=qf 6
   have u7:=qf 7
   have u8:=qf 8
   have u9:=qf 9
   have u10:=qf 10
   have hE:=O (put11 (w:=wt) (R:=w.heap.size+1+1) SZ (.slice OA1 k OC1) (.slice A1 rows1.length C1) (.slice A2 rows2.length C2) (.slice none 0 0) (Z Y fk) (Z Y fa) (Z Y ff) (Z Y ft) (.slice FA la.length FC) (.slice HA vd.length HCp) (Z Y rounds))
   have HI2:=O hI2
   have HB2:=O hb2
   clear qf hbut SZ hX2 HZn hI2 hb2
   go_wp2_with fail
   refine wp_loop_rounds 1 ?_
   rw [rounds_succ]
   go_wp2
   generalize ((((((((((wt.setCell ⟨w.heap.size+1+1,0,none⟩ (.slice OA1 k OC1)).setCell ⟨w.heap.size+1+1,1,none⟩ (.slice A1 rows1.length C1)).setCell ⟨w.heap.size+1+1,2,none⟩ (.slice A2 rows2.length C2)).setCell ⟨w.heap.size+1+1,3,none⟩ (.slice none 0 0)).setCell ⟨w.heap.size+1+1,4,none⟩ (Z Y fk)).setCell ⟨w.heap.size+1+1,5,none⟩ (Z Y fa)).setCell ⟨w.heap.size+1+1,6,none⟩ (Z Y ff)).setCell ⟨w.heap.size+1+1,7,none⟩ (Z Y ft)).setCell ⟨w.heap.size+1+1,8,none⟩ (.slice FA la.length FC)).setCell ⟨w.heap.size+1+1,9,none⟩ (.slice HA vd.length HCp)).setCell ⟨w.heap.size+1+1,10,none⟩ (Z Y rounds)=wz at *
   obtain⟨hE1,hE2⟩:=hE.out
   obtain⟨r0,r1,r2,r3,r4,r5,r6,r7,r8,r9,r10⟩:=box11 hE1
   refine bodyPost_ret (v :=.agg #[.slice OA1 k OC1,.slice A1 rows1.length C1,.slice A2 rows2.length C2,.slice none 0 0,Z Y fk,Z Y fa,Z Y ff,Z Y ft,.slice FA la.length FC,.slice HA vd.length HCp,Z Y rounds]) (by simp [results,Tryz.results21,go_sem,r0,r1,r2,r3,r4,r5,r6,r7,r8,r9,r10]) rfl ?_
   exact⟨on,rows1,rows2,OA1,A1,A2,OC1,C1,C2,fk,fa,ff,ft,FA,la,FC,HA,vd,HCp,by rw [hol],hol,HOn.out,hlen1,hlen2,ints_keep HIn.out hE2 (fun b off e _=>by have:=HIb.out b off e;omega),ints_keep HJn.out hE2 (fun b off e _=>by have:=HJb.out b off e;omega),ints_keep HI2.out hE2 (fun b off e _=>by have:=HB2.out b off e;omega),(fun b off e=>by have:=HIb.out b off e;have:=HBx.out.size;omega),(fun b off e=>by have:=HJb.out b off e;have:=HBx.out.size;omega),(fun b off e=>by have:=HB2.out b off e;have:=HBx.out.size;omega),(HLz.out.keep hE2 (.inl (by omega))).up (by omega),HBn.out.trans (hE2.to_below (by omega) (fun b e=>by omega))⟩
end C6
namespace C7
open Go.RowKit A4 A11 A14 D19 C1 C2 C4 C5 C6
def LateRet (N:Nat) (w:Zw) (e:Ending) (w':Zw):Prop:=∃(on dr er:List Int) (OA DA EA:Option Addr) (OC DC EC:Nat) (fk fa:Int) (FA:Option Addr) (la:List Ac) (FC:Nat) (HA:Option Addr) (vd:List Int) (HC:Nat),
 e=.returned (.agg #[.slice OA on.length OC,.slice DA dr.length DC,.slice EA er.length EC,.slice none 0 0,Z Y fk,Z Y fa,Z Y (2*N+11),Z Y 1000,.slice FA la.length FC,.slice HA vd.length HC,Z Y (2*N+28)])∧on.length=N∧(∀ z ∈ on,0≤z∧z≤2)∧dr.length≤20∧er.length≤20∧Ints w' OA on∧Ints w' DA dr∧Ints w' EA er∧(∀ b off,OA=some ⟨b,off,none⟩→w.heap.size≤b)∧(∀ b off,DA=some ⟨b,off,none⟩→w.heap.size≤b)∧(∀ b off,EA=some ⟨b,off,none⟩→w.heap.size≤b)∧C6.Loc w' w.heap.size FA la HA vd∧Zb w.heap.size w w'
theorem Late (N:Nat) (Pi Er Gd Fi:Int) (PA:Option Addr) (PL PC:Nat) (on0 dr0 er0:List Int) (OA DA EA:Option Addr) (OC DC EC:Nat) (a0 a1 a2 a3:Int) (CA:Option Addr) (CL CC:Nat) (VA:Option Addr) (vs:List Int) (VC:Nat) (w:Zw)
 (hN:1≤N) (hN2:N≤12) (hE0:0≤Er) (hE1:Er≤20) (hG0:0≤Gd) (hG1:Gd≤20) (hA:ActsAt w CA CL) (hL:CL≤9223372036854775807) (hV:Ints w VA vs) (hVL:vs.length≤9223372036854775807)
 (hO:Ints w OA on0) (hOL:on0.length≤9223372036854775807) (hD:Ints w DA dr0) (hDL:dr0.length≤9223372036854775807) (hE:Ints w EA er0) (hEL:er0.length≤9223372036854775807) :
 Zc Zp 8 #[.agg #[.slice OA on0.length OC,.slice DA dr0.length DC,.slice EA er0.length EC,.slice none 0 0,Z Y a0,Z Y a1,Z Y a2,Z Y a3,.slice CA CL CC,.slice VA vs.length VC],.agg #[Z Y N,Z Y Pi,Z Y Er,Z Y Gd,Z Y Fi,.slice PA PL PC],Z Y 2,Z Y 16] w (LateRet N w):=by
 have n1:IntKind.i64.wrap (2*(N:Int))=2*N:=by rw [IntKind.wrap_i64];omega
 have n2:IntKind.i64.wrap (2+2*(N:Int))=2*N+2:=by rw [IntKind.wrap_i64];omega
 have n3:IntKind.i64.wrap (2*(N:Int)+2+10)=2*N+12:=by rw [IntKind.wrap_i64];omega
 have n4:IntKind.i64.wrap (2*(N:Int)+12+16)=2*N+28:=by rw [IntKind.wrap_i64];omega
 have n5:IntKind.i64.wrap (2*(N:Int)+2+9)=2*N+11:=by rw [IntKind.wrap_i64];omega
 have HS:=O (fun w' (h1:ActsAt w' CA CL) (h2:Ints w' VA vs) (h3:Ints w' OA on0) (h4:Ints w' DA dr0) (h5:Ints w' EA er0)=>Script N Pi Er Gd Fi PA PL PC on0 dr0 er0 OA DA EA OC DC EC a0 a1 a2 a3 CA CL CC VA vs VC 2 (2*N+28) w' hN hN2 hE0 hE1 hG0 hG1 (by omega) (by omega) h1 hL h2 hVL h3 hOL h4 hDL h5 hEL)
 obtain⟨hR,hC,hZ,hz,hB⟩:=three w (.cells #[.slice OA on0.length OC,.slice DA dr0.length DC,.slice EA er0.length EC,.slice none 0 0,Z Y a0,Z Y a1,Z Y a2,Z Y a3,.slice CA CL CC,.slice VA vs.length VC] 29) (.cells #[Z Y N,Z Y Pi,Z Y Er,Z Y Gd,Z Y Fi,.slice PA PL PC] 24) (.cells #[.slice none 0 0,.slice none 0 0,.slice none 0 0,.slice none 0 0,Z Y 0,Z Y 0,Z Y 0,Z Y 0,.slice none 0 0,.slice none 0 0,Z Y 0] 34)
 have HRows:=O (And.intro hO (And.intro hD hE))
 have HAV:=O (And.intro hA hV)
 clear hA hV hO hD hE
 go_enter Tryz.func8,Tryz.ntmps8
 go_upto_region 1 with fail
 generalize ((w.alloc (.cells #[.slice OA on0.length OC,.slice DA dr0.length DC,.slice EA er0.length EC,.slice none 0 0,Z Y a0,Z Y a1,Z Y a2,Z Y a3,.slice CA CL CC,.slice VA vs.length VC] 29)).alloc (.cells #[Z Y N,Z Y Pi,Z Y Er,Z Y Gd,Z Y Fi,.slice PA PL PC] 24)).alloc (.cells #[.slice none 0 0,.slice none 0 0,.slice none 0 0,.slice none 0 0,Z Y 0,Z Y 0,Z Y 0,Z Y 0,.slice none 0 0,.slice none 0 0,Z Y 0] 34)=wa at *
 obtain⟨x0,x1,x2,x3,x4,x5⟩:=box6 hC
 have y0:=bcell hR 0
 have y1:=bcell hR 1
 have y2:=bcell hR 2
 have y3:=bcell hR 3
 have y4:=bcell hR 4
 have y5:=bcell hR 5
 have y6:=bcell hR 6
 have y7:=bcell hR 7
 have y8:=bcell hR 8
 have y9:=bcell hR 9
 change _=some _ at y0 y1 y2 y3 y4 y5 y6 y7 y8 y9
 have HC:=O hC
 have HZ:=O hZ
 have HB:=O hB
 clear hR hC hZ
 have lo:=fun A l (h:Ints w A l)=>ints_low h hB (ints_lt h) (Zr _)
 have HI:=O (HS.out wa (HAV.out.1.below hB) (lo _ _ HAV.out.2) (lo _ _ HRows.out.1) (lo _ _ HRows.out.2.1) (lo _ _ HRows.out.2.2))
 clear hB lo HS
 go_wp2_with fail
 refine HI.out.mono ?_
 rintro e w1 ⟨on,dr,er,OA1,DA1,EA1,OC1,DC1,EC1,fk,fa,ff,ft,FA,la,FC,HA,vd,HCp,rfl,hol,hon,hdl,hel,hI0,hI1,hI2,ho0,ho1,ho2,hloc,hb1⟩
 have HLt:=O (And.intro (acs_lt hloc.a) (ints_lt hloc.d))
 rw [hol]
 have hX:=Zh w1 (.cells #[.slice OA1 N OC1,.slice DA1 dr.length DC1,.slice EA1 er.length EC1,.slice none 0 0,Z Y fk,Z Y fa,Z Y ff,Z Y ft,.slice FA la.length FC,.slice HA vd.length HCp,Z Y (2*N+28)] 34)
 have hbx:Zb w1.heap.size w1 (w1.alloc (.cells #[.slice OA1 N OC1,.slice DA1 dr.length DC1,.slice EA1 er.length EC1,.slice none 0 0,Z Y fk,Z Y fa,Z Y ff,Z Y ft,.slice FA la.length FC,.slice HA vd.length HCp,Z Y (2*N+28)] 34)):=(Zf _ _).alloc (Zr _) _
 clear x0 x1 x2 x3 x4 x5 y0 y1 y2 y3 y4 y5 y6 y7 y8 y9
 go_upto_region 2 with fail
 generalize w1.alloc (.cells #[.slice OA1 N OC1,.slice DA1 dr.length DC1,.slice EA1 er.length EC1,.slice none 0 0,Z Y fk,Z Y fa,Z Y ff,Z Y ft,.slice FA la.length FC,.slice HA vd.length HCp,Z Y (2*N+28)] 34)=wx at *
 have s1:=hb1.size
 have sx:=hbx.size
 have lX:=heap_lt hX
 have HCx:=(hbx.block _ (by omega)).trans ((hb1.block _ (by omega)).trans HC.out)
 obtain⟨x0,_,_,_,_,_⟩:=box6 HCx
 have HZx:=O ((hbx.block _ (by omega)).trans ((hb1.block _ (by omega)).trans HZ.out))
 have HBx:=O (HB.out.trans ((hb1.mono (by omega)).trans (hbx.mono (by omega))))
 have HI0:=O (hI0.below hbx)
 have HI1:=O (hI1.below hbx)
 have HI2:=O (hI2.below hbx)
 have li0:=ints_lt hI0
 have li1:=ints_lt hI1
 have li2:=ints_lt hI2
 have HLi:=O (And.intro li0 (And.intro li1 li2))
 have c6:=bcell hX 6
 have c7:=bcell hX 7
 change _=some _ at c6 c7
 have f6:wx.frozen? ⟨w1.heap.size,6,none⟩=false:=by simp [World.frozen?,hX]
 have f7:wx.frozen? ⟨w1.heap.size,7,none⟩=false:=by simp [World.frozen?,hX]
 have HY:=O (heap_setCell_same _ _ 7 _ _ (Z Y 1000) (heap_setCell_same _ _ 6 _ _ (Z Y (2*(N:Int)+11)) hX))
 have HYb:=O (((But.refl (fun b=>b=w1.heap.size) wx).setCell (p:=⟨w1.heap.size,6,none⟩) (.inl rfl) (Z Y (2*(N:Int)+11))).setCell (p:=⟨w1.heap.size,7,none⟩) (.inl rfl) (Z Y 1000))
 have HLx:=O (hloc.below hbx)
 clear hX hbx hb1 HC HZ HB HCx hI0 hI1 hI2 HI li0 li1 li2 hloc
 go_upto_region 4 with fail
 clear c6 c7 f6 f7 x0
 generalize (wx.setCell ⟨w1.heap.size,6,none⟩ (Z Y (2*(N:Int)+11))).setCell ⟨w1.heap.size,7,none⟩ (Z Y 1000)=wy at *
 have hy:=HY.out
 simp only [List.setIfInBounds_toArray,List.set_cons_zero,List.set_cons_succ]at hy
 have sy:=HYb.out.size
 have HZy:=(HYb.out.block _ (by omega) (by omega)).trans HZx.out
 have HBy:=O (HBx.out.trans (HYb.out.to_below (by omega) (fun b e=>by omega)))
 obtain⟨c0,c1,c2,c3,c4,c5,c6,c7,c8,c9,c10⟩:=box11 hy
 obtain⟨q0,q1,q2,q3,q4,q5,q6,q7,q8,q9,q10⟩:=box11 HZy
 have qf:∀ o,wy.frozen? ⟨w.heap.size+2,o,none⟩=false:=fun o=>by simp [World.frozen?,HZy]
 have u0:=qf 0
 have u1:=qf 1
 have u2:=qf 2
 have u3:=qf 3
 have u4:=qf 4
 have u5:=qf 5
 have u6:=qf 6
 have u7:=qf 7
 have u8:=qf 8
 have u9:=qf 9
 have u10:=qf 10
 have lRX:w.heap.size+2≠w1.heap.size:=by omega
 have lXR:w1.heap.size≠w.heap.size+2:=by omega
 have hE:=O (put11 (w:=wy) (R:=w.heap.size+1+1) HZy (.slice OA1 N OC1) (.slice DA1 dr.length DC1) (.slice EA1 er.length EC1) (.slice none 0 0) (Z Y fk) (Z Y fa) (Z Y (2*N+11)) (Z Y 1000) (.slice FA la.length FC) (.slice HA vd.length HCp) (Z Y (2*N+28)))
 clear qf hy HZy HZx
 go_wp2
 generalize ((((((((((wy.setCell ⟨w.heap.size+1+1,0,none⟩ (.slice OA1 N OC1)).setCell ⟨w.heap.size+1+1,1,none⟩ (.slice DA1 dr.length DC1)).setCell ⟨w.heap.size+1+1,2,none⟩ (.slice EA1 er.length EC1)).setCell ⟨w.heap.size+1+1,3,none⟩ (.slice none 0 0)).setCell ⟨w.heap.size+1+1,4,none⟩ (Z Y fk)).setCell ⟨w.heap.size+1+1,5,none⟩ (Z Y fa)).setCell ⟨w.heap.size+1+1,6,none⟩ (Z Y (2*N+11))).setCell ⟨w.heap.size+1+1,7,none⟩ (Z Y 1000)).setCell ⟨w.heap.size+1+1,8,none⟩ (.slice FA la.length FC)).setCell ⟨w.heap.size+1+1,9,none⟩ (.slice HA vd.length HCp)).setCell ⟨w.heap.size+1+1,10,none⟩ (Z Y (2*N+28))=wz at *
 obtain⟨hE1,hE2⟩:=hE.out
 obtain⟨r0,r1,r2,r3,r4,r5,r6,r7,r8,r9,r10⟩:=box11 hE1
 refine bodyPost_ret (v :=.agg #[.slice OA1 N OC1,.slice DA1 dr.length DC1,.slice EA1 er.length EC1,.slice none 0 0,Z Y fk,Z Y fa,Z Y (2*N+11),Z Y 1000,.slice FA la.length FC,.slice HA vd.length HCp,Z Y (2*N+28)]) (by simp [results,Tryz.results8,go_sem,r0,r1,r2,r3,r4,r5,r6,r7,r8,r9,r10]) rfl ?_
 exact⟨on,dr,er,OA1,DA1,EA1,OC1,DC1,EC1,fk,fa,FA,la,FC,HA,vd,HCp,by rw [hol],hol,hon,hdl,hel,ints_keep (ints_keep HI0.out HYb.out (fun b off e h=>by have:=HLi.out.1 b off e h;omega)) hE2 (fun b off e h=>by have:=ho0 b off e;omega),ints_keep (ints_keep HI1.out HYb.out (fun b off e h=>by have:=HLi.out.2.1 b off e h;omega)) hE2 (fun b off e h=>by have:=ho1 b off e;omega),ints_keep (ints_keep HI2.out HYb.out (fun b off e h=>by have:=HLi.out.2.2 b off e h;omega)) hE2 (fun b off e h=>by have:=ho2 b off e;omega),(fun b off e=>by have:=ho0 b off e;omega),(fun b off e=>by have:=ho1 b off e;omega),(fun b off e=>by have:=ho2 b off e;omega),((HLx.out.keep HYb.out (.inr HLt.out)).keep hE2 (.inl (by omega))).up (by omega),HBy.out.trans (hE2.to_below (by omega) (fun b e=>by omega))⟩
end C7
end Go.Proofs.YtdbempiompiioaaGreat
