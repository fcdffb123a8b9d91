/- The statement Rows.TopBackSaid: for every input the law TopBack answers true, and its arguments read as they did. No condition beyond the row's own cells. -/
import Derived.Test.YtdbempiompiioaaGreatT18
import Derived.Test.YtdbempiompiioaaGreatRows
import Derived.ProofKit
import Derived.OpenShut
import Derived.ShutString
import Derived.ChangeOld
import Derived.SizedLaws
import Derived.Lib.SmallJoins
import Derived.Deep.Slices
import Derived.Deep.Fields
import Derived.ChangeSame
set_option linter.unusedVariables false
set_option linter.unusedSimpArgs false
set_option maxRecDepth 100000
set_option maxHeartbeats 80000000
open Go.Value renaming int → Z
open Go.IntKind renaming i64 → Y
open Go renaming World → Zw, Calls → Zc, heap_alloc_new → Zh
open Go.RowKit renaming Below → Zb
open Go.Proofs.Tryz renaming prog → Zp
open Go.Lib renaming hid → O
open Go.World renaming block_lt_of_cell? → Zl, cell?_setCell_other → Zo
open Nat renaming le_refl → Zr
open Go.RowKit.Below renaming refl → Zf
namespace Go.Proofs.YtdbempiompiioaaGreat.topBack
open Go.ChangeShapes Go.WideShapes Go.ChangeAt Go.RowKit Go.Joins Go.Deep Go.Proofs.YtdbempiompiioaaGreat.A4 Go.Proofs.YtdbempiompiioaaGreat.C4
theorem own:ownKnob Tryz.prog.godebug=none:=by kernel_rfl
theorem laidOut:laidOutB Zp=true:=by kernel_rfl
theorem spot_none {w:Zw} {a:Addr} {v:Value} (h:w.cell? a=some v):a=⟨a.block,a.off,none⟩∧a.block < w.heap.size:=by
 refine⟨?_,Zl w _ h⟩
 unfold World.cell? at h
 split at h
 ·split at h
  ·cases h
  ·next hs =>
   cases a with
   | mk b o s =>
    cases s with
    | none=>rfl
    | some x=>simp at hs
 ·cases h
theorem add_is (b o k:Nat):(⟨b,o,none⟩:Addr).add k=⟨b,o+k,none⟩:=by
 unfold Addr.add
 by_cases h:k=0 <;> simp [h]
theorem add_no (a:Addr):a.add 0=a:=if_pos rfl
section
variable {H:Type} {enc:TypeId×Value→H} {w:Zw} {held:Bool}
theorem ints_of {n:Nat} {c:Value} {y:DataW H×List MemPlace} (h:DataW.trod enc Zp w 0 (fun _=>true) held n 22 [c]=some y):∃ A l C,c=.slice A l.length C∧Ints w A l∧l.length≤9223372036854775807:=by
 rcases open_ints Tryz.underlying22 Tryz.underlying3 (by kernel_rfl) h with⟨hcs,_⟩ | ⟨x,l,c',zs,hcs,_,hl,hm,hz,_,hcell,hwz⟩
 ·exact⟨none,[],0,by simpa using hcs,fun k hk=>absurd hk (by simp),by simp⟩
 ·have hz':zs.length=c':=by simpa using hz
  have e:(zs.take l).length=l:=by simp;omega
  refine⟨some x,zs.take l,c',by rw [e];simpa using hcs,fun k hk=>?_,by rw [e];unfold maxLen at hm;omega⟩
  rw [e]at hk
  have h1:=hcell k (by omega)
  have h0:=hcell 0 (by omega)
  rw [add_no]at h0
  obtain⟨h2,h3⟩:=spot_none h0
  have hx:x.spot=none:=congrArg Addr.spot h2
  cases x with
  | mk xb xo xs =>
   simp only at hx
   subst hx
   rw [add_is]at h1
   refine⟨xb,xo,rfl,h3,?_⟩
   rw [h1]
   simp [List.getD_eq_getElem?_getD,hk]
theorem act_of {n:Nat} {a:Addr} {cs:List Value} {y:DataW H×List MemPlace} (hc:w.cells? 0 a 3=some cs) (ht:DataW.trod enc Zp w 0 (fun _=>true) held n 38 cs=some y):∃(h m:Int) (s:ByteArray),w.cell? (a.add 0)=some (Z Y h)∧w.cell? (a.add 1)=some (Z Y m)∧w.cell? (a.add 2)=some (.string s):=by
 obtain⟨_,hlen,hat⟩:=World.cells?_some hc
 obtain⟨xs,n2,_,_,_,hxl,hg⟩:=DataW.trod_struct Tryz.underlying38 ht
 have k3:Tryz.prog.cellsOf 3=1:=by kernel_rfl
 have k9:Tryz.prog.cellsOf 9=1:=by kernel_rfl
 have a0:=hat 0 (by omega)
 have a1:=hat 1 (by omega)
 have a2:=hat 2 (by omega)
 clear hc ht hat
 match cs,hlen with
 | [c0,c1,c2],_ =>
  match xs,hxl with
  | [y0,y1,y2],_ =>
   have e0:DataW.trod enc Zp w 0 (fun _=>true) held n2 3 [c0]=some y0:=by simpa [k3]using hg 0 _ rfl
   have e1:DataW.trod enc Zp w 0 (fun _=>true) held n2 3 [c1]=some y1:=by simpa [k3]using hg 1 _ rfl
   have e2:DataW.trod enc Zp w 0 (fun _=>true) held n2 9 [c2]=some y2:=by simpa [k9]using hg 2 _ rfl
   obtain⟨z0,hz0,_⟩:=DataW.trod_int Tryz.underlying3 e0
   obtain⟨z1,hz1,_⟩:=DataW.trod_int Tryz.underlying3 e1
   obtain⟨s,hs,_⟩:=DataW.trod_string Tryz.underlying9 e2
   cases hz0
   cases hz1
   cases hs
   exact⟨z0,z1,s,a0,a1,a2⟩
theorem acts_of {n:Nat} {c:Value} {y:DataW H×List MemPlace} (h:DataW.trod enc Zp w 0 (fun _=>true) held n 25 [c]=some y):∃ A L C,c=.slice A L C∧ActsAt w A L∧L≤9223372036854775807:=by
 rcases open_slice Tryz.underlying25 h with⟨hcs,_⟩ | ⟨a,len,cap,m,n',D,Pl,hcs,_,hl,hm,hmm,_,hi⟩
 ·exact⟨none,0,0,by simpa using hcs,fun k hk=>absurd hk (by simp),by simp⟩
 ·have hmm':m=cap:=by simpa using hmm
  have h3:Tryz.prog.cellsOf 38=3:=by kernel_rfl
  have cell:∀ k,k < len→∃(h m:Int) (s:ByteArray),w.cell? ((a.add (k*3)).add 0)=some (Z Y h)∧w.cell? ((a.add (k*3)).add 1)=some (Z Y m)∧w.cell? ((a.add (k*3)).add 2)=some (.string s):=fun k hk=>by
   obtain⟨cs,hc,ht⟩:=hi k (by omega)
   rw [h3]at hc
   exact act_of hc ht
  refine⟨some a,len,cap,by simpa using hcs,fun k hk=>?_,by unfold maxLen at hm;omega⟩
  obtain⟨_,_,_,p0,_⟩:=cell 0 (by omega)
  rw [Nat.zero_mul,add_no,add_no]at p0
  obtain⟨q1,q2⟩:=spot_none p0
  have hx:a.spot=none:=congrArg Addr.spot q1
  cases a with
  | mk ab ao aspot =>
   simp only at hx
   subst hx
   obtain⟨z0,z1,s,b0,b1,b2⟩:=cell k hk
   rw [add_is,add_is]at b0 b1 b2
   exact⟨ab,ao,rfl,q2,z0,z1,s,b0,b1,b2⟩
theorem fault_of {n:Nat} {c0 c1 c2 c3 c4 c5:Value} {y:DataW H×List MemPlace} (h:DataW.trod enc Zp w 0 (fun _=>true) held n 27 [c0,c1,c2,c3,c4,c5]=some y) :
 ∃(b0 b1 b2 b3:Int) (A:Option Addr) (L C:Nat) (B:Option Addr) (l:List Int) (D:Nat),c0=Z Y b0∧c1=Z Y b1∧c2=Z Y b2∧c3=Z Y b3∧c4=.slice A L C∧c5=.slice B l.length D∧ActsAt w A L∧L≤9223372036854775807∧Ints w B l∧l.length≤9223372036854775807:=by
 obtain⟨xs,n2,_,_,_,hxl,hg⟩:=DataW.trod_struct Tryz.underlying27 h
 have k3:Tryz.prog.cellsOf 3=1:=by kernel_rfl
 have k25:Tryz.prog.cellsOf 25=1:=by kernel_rfl
 have k22:Tryz.prog.cellsOf 22=1:=by kernel_rfl
 match xs,hxl with
 | [y0,y1,y2,y3,y4,y5],_ =>
  have g0:DataW.trod enc Zp w 0 (fun _=>true) held n2 3 [c0]=some y0:=by simpa [k3]using hg 0 _ rfl
  have g1:DataW.trod enc Zp w 0 (fun _=>true) held n2 3 [c1]=some y1:=by simpa [k3]using hg 1 _ rfl
  have g2:DataW.trod enc Zp w 0 (fun _=>true) held n2 3 [c2]=some y2:=by simpa [k3]using hg 2 _ rfl
  have g3:DataW.trod enc Zp w 0 (fun _=>true) held n2 3 [c3]=some y3:=by simpa [k3]using hg 3 _ rfl
  have g4:DataW.trod enc Zp w 0 (fun _=>true) held n2 25 [c4]=some y4:=by simpa [k25]using hg 4 _ rfl
  have g5:DataW.trod enc Zp w 0 (fun _=>true) held n2 22 [c5]=some y5:=by simpa [k22]using hg 5 _ rfl
  obtain⟨z0,hz0,_⟩:=DataW.trod_int Tryz.underlying3 g0
  obtain⟨z1,hz1,_⟩:=DataW.trod_int Tryz.underlying3 g1
  obtain⟨z2,hz2,_⟩:=DataW.trod_int Tryz.underlying3 g2
  obtain⟨z3,hz3,_⟩:=DataW.trod_int Tryz.underlying3 g3
  obtain⟨A,L,C,e4,hA,hL⟩:=acts_of (c:=c4) g4
  obtain⟨B,l,D,e5,hB,hl⟩:=ints_of (c:=c5) g5
  cases hz0
  cases hz1
  cases hz2
  cases hz3
  exact⟨z0,z1,z2,z3,A,L,C,B,l,D,rfl,rfl,rfl,rfl,e4,e5,hA,hL,hB,hl⟩
theorem run_of {r:Reach} {b0:Nat} {v:Value} {d:DataW H} {p:List MemPlace} (hv:Value.okWide Zp w r b0 29 v) (h:DataW.Trod enc Zp w 0 (fun _=>true) held 29 v d p) :
 ∃(A1:Option Addr) (l1:List Int) (C1:Nat) (A2:Option Addr) (l2:List Int) (C2:Nat) (A3:Option Addr) (l3:List Int) (C3:Nat) (A4:Option Addr) (l4:List Int) (C4:Nat) (b0 b1 b2 b3:Int) (A:Option Addr) (L C:Nat) (B:Option Addr) (l:List Int) (D:Nat),
  v=.agg #[.slice A1 l1.length C1,.slice A2 l2.length C2,.slice A3 l3.length C3,.slice A4 l4.length C4,Z Y b0,Z Y b1,Z Y b2,Z Y b3,.slice A L C,.slice B l.length D]∧Ints w A1 l1∧l1.length≤9223372036854775807∧Ints w A2 l2∧l2.length≤9223372036854775807∧Ints w A3 l3∧l3.length≤9223372036854775807∧ActsAt w A L∧L≤9223372036854775807∧Ints w B l∧l.length≤9223372036854775807:=by
 obtain⟨cs,rfl,hsz⟩:=okWide_struct Tryz.underlying29 hv
 have k29:Tryz.prog.cellsOf 29=10:=by kernel_rfl
 have k27:Tryz.prog.cellsOf 27=6:=by kernel_rfl
 have k22:Tryz.prog.cellsOf 22=1:=by kernel_rfl
 rw [k29]at hsz
 obtain⟨cl⟩:=cs
 obtain⟨fuel,hf⟩:=h
 obtain⟨xs,n,_,_,_,hxl,hg⟩:=DataW.trod_struct Tryz.underlying29 hf
 match cl,hsz with
 | [c0,c1,c2,c3,c4,c5,c6,c7,c8,c9],_ =>
  match xs,hxl with
  | [y0,y1,y2,y3,y4],_ =>
   have g0:DataW.trod enc Zp w 0 (fun _=>true) held n 22 [c0]=some y0:=by simpa [Value.cells,k22]using hg 0 _ rfl
   have g1:DataW.trod enc Zp w 0 (fun _=>true) held n 22 [c1]=some y1:=by simpa [Value.cells,k22]using hg 1 _ rfl
   have g2:DataW.trod enc Zp w 0 (fun _=>true) held n 22 [c2]=some y2:=by simpa [Value.cells,k22]using hg 2 _ rfl
   have g3:DataW.trod enc Zp w 0 (fun _=>true) held n 22 [c3]=some y3:=by simpa [Value.cells,k22]using hg 3 _ rfl
   have g4:DataW.trod enc Zp w 0 (fun _=>true) held n 27 [c4,c5,c6,c7,c8,c9]=some y4:=by simpa [Value.cells,k27]using hg 4 _ rfl
   obtain⟨A1,l1,C1,e1,h1,q1⟩:=ints_of (c:=c0) g0
   obtain⟨A2,l2,C2,e2,h2,q2⟩:=ints_of (c:=c1) g1
   obtain⟨A3,l3,C3,e3,h3,q3⟩:=ints_of (c:=c2) g2
   obtain⟨A4,l4,C4,e4,_,_⟩:=ints_of (c:=c3) g3
   obtain⟨b0,b1,b2,b3,A,L,C,B,l,D,f0,f1,f2,f3,f4,f5,hA,hL,hB,hl⟩:=fault_of (c0:=c4) (c1:=c5) (c2:=c6) (c3:=c7) (c4:=c8) (c5:=c9) g4
   subst e1 e2 e3 e4 f0 f1 f2 f3 f4 f5
   exact⟨A1,l1,C1,A2,l2,C2,A3,l3,C3,A4,l4,C4,b0,b1,b2,b3,A,L,C,B,l,D,rfl,h1,q1,h2,q2,h3,q3,hA,hL,hB,hl⟩
theorem conf_of {r:Reach} {b0:Nat} {v:Value} {d:DataW H} {p:List MemPlace} (hv:Value.okWide Zp w r b0 24 v) (h:DataW.Trod enc Zp w 0 (fun _=>true) held 24 v d p) :
 ∃(a0 a1 a2 a3 a4:Int) (A:Option Addr) (l:List Int) (C:Nat),v=.agg #[Z Y a0,Z Y a1,Z Y a2,Z Y a3,Z Y a4,.slice A l.length C]∧Ints w A l∧l.length≤9223372036854775807:=by
 obtain⟨cs,rfl,hsz⟩:=okWide_struct Tryz.underlying24 hv
 have k24:Tryz.prog.cellsOf 24=6:=by kernel_rfl
 have k3:Tryz.prog.cellsOf 3=1:=by kernel_rfl
 have k22:Tryz.prog.cellsOf 22=1:=by kernel_rfl
 rw [k24]at hsz
 obtain⟨cl⟩:=cs
 obtain⟨fuel,hf⟩:=h
 obtain⟨xs,n,_,_,_,hxl,hg⟩:=DataW.trod_struct Tryz.underlying24 hf
 match cl,hsz with
 | [c0,c1,c2,c3,c4,c5],_ =>
  match xs,hxl with
  | [y0,y1,y2,y3,y4,y5],_ =>
   have g0:DataW.trod enc Zp w 0 (fun _=>true) held n 3 [c0]=some y0:=by simpa [Value.cells,k3]using hg 0 _ rfl
   have g1:DataW.trod enc Zp w 0 (fun _=>true) held n 3 [c1]=some y1:=by simpa [Value.cells,k3]using hg 1 _ rfl
   have g2:DataW.trod enc Zp w 0 (fun _=>true) held n 3 [c2]=some y2:=by simpa [Value.cells,k3]using hg 2 _ rfl
   have g3:DataW.trod enc Zp w 0 (fun _=>true) held n 3 [c3]=some y3:=by simpa [Value.cells,k3]using hg 3 _ rfl
   have g4:DataW.trod enc Zp w 0 (fun _=>true) held n 3 [c4]=some y4:=by simpa [Value.cells,k3]using hg 4 _ rfl
   have g5:DataW.trod enc Zp w 0 (fun _=>true) held n 22 [c5]=some y5:=by simpa [Value.cells,k22]using hg 5 _ rfl
   obtain⟨z0,hz0,_⟩:=DataW.trod_int Tryz.underlying3 g0
   obtain⟨z1,hz1,_⟩:=DataW.trod_int Tryz.underlying3 g1
   obtain⟨z2,hz2,_⟩:=DataW.trod_int Tryz.underlying3 g2
   obtain⟨z3,hz3,_⟩:=DataW.trod_int Tryz.underlying3 g3
   obtain⟨z4,hz4,_⟩:=DataW.trod_int Tryz.underlying3 g4
   obtain⟨B,l,D,e5,hB,hl⟩:=ints_of (c:=c5) g5
   cases hz0
   cases hz1
   cases hz2
   cases hz3
   cases hz4
   subst e5
   exact⟨z0,z1,z2,z3,z4,B,l,D,rfl,hB,hl⟩
end
theorem lifted (os:Os) (started:os.Started) (H:Type) (enc:TypeId×Value→H) :
 ReturnsInHanded {} Tryz.checked os 4 .any (Rows.topBackSpec.pre6 enc Zp Tryz.f4 Rows.topBackRow.domain false) (Rows.topBackSpec.post enc Zp Tryz.f4 false true false false):=by
 refine returnsInHanded_of_change (C:=Tryz.checked) own started (by kernel_rfl) Tryz.func4
  (ChangeSpec.witness6 (enc:=enc) (C:=Tryz.checked) false ⟨#[],#[.agg #[Z Y 0,Z Y 0,Z Y 0,Z Y 0,Z Y 0,.slice none 0 0],.agg #[.slice none 0 0,.slice none 0 0,.slice none 0 0,.slice none 0 0,Z Y 0,Z Y 0,Z Y 0,Z Y 0,.slice none 0 0,.slice none 0 0],Z Y 0,Z Y 0],[]⟩ 8 (by kernel_rfl) (by kernel_rfl) (by kernel_rfl) (by kernel_rfl)) ?_
 intro W base args ds gs before hval0 hW _ _
 have hval:∀(j:Nat) t v,Tryz.f4.params[j]?=some t→args[j]?=some v→Value.okWide Zp W .any base t v:=hval0
 have hW':=hW
 obtain⟨p,q,hA0,hV,rfl,hfz,hnd⟩:=hW
 have hA:DataW.TrodAll enc Zp W 0 (fun _=>true) true Tryz.f4.params.toList args.toList ds p:=hA0
 rw [Tryz.params4]at hA hval
 obtain⟨v0,vs0,d0,ds0,p0,q0,hargs,rfl,rfl,h0,r0⟩:=trodAll_cons hA
 obtain⟨v1,vs1,d1,ds1,p1,q1,rfl,rfl,rfl,h1,r1⟩:=trodAll_cons r0
 obtain⟨v2,vs2,d2,ds2,p2,q2,rfl,rfl,rfl,h2,r2⟩:=trodAll_cons r1
 obtain⟨v3,vs3,d3,ds3,p3,q3,rfl,rfl,rfl,h3,r3⟩:=trodAll_cons r2
 obtain⟨rfl,rfl,rfl⟩:=trodAll_nil r3
 obtain rfl:args=#[v0,v1,v2,v3]:=by cases args;simp_all
 obtain⟨rfl,rfl⟩:=trodVars_none hV
 have lt0:∀ x ∈ p0,x.block < W.heap.size:=by obtain⟨m,hm⟩:=h0;exact DataW.trod_lt m _ _ _ hm
 have lt1:∀ x ∈ p1,x.block < W.heap.size:=by obtain⟨m,hm⟩:=h1;exact DataW.trod_lt m _ _ _ hm
 obtain⟨a0,a1,a2,a3,a4,PA,l0,PC,rfl,hP,hPl⟩:=conf_of (hval 0 24 v0 rfl rfl) h0
 obtain⟨A1,l1,C1,A2,l2,C2,A3,l3,C3,A4,l4,C4,b0,b1,b2,b3,CA,CL,CC,VA,vs,VC,rfl,hI1,hq1,hI2,hq2,hI3,hq3,hAc,hL,hVs,hVl⟩:=run_of (hval 1 29 v1 rfl rfl) h1
 obtain⟨tz,rfl,rfl,rfl,w2⟩:=open_int Tryz.underlying3 (hval 2 3 v2 rfl rfl) h2
 obtain⟨vz,rfl,rfl,rfl,w3⟩:=open_int Tryz.underlying3 (hval 3 3 v3 rfl rfl) h3
 refine(C10.TopBack_yes a0 a1 a2 a3 a4 PA l0 PC l1 l2 l3 A1 A2 A3 A4 C1 C2 C3 l4.length C4 b0 b1 b2 b3 CA CL CC VA vs VC tz vz W hP hPl hI1 hq1 hI2 hq2 hI3 hq3 hAc hL hVs hVl).mono fun e W' ⟨he,bel⟩=>?_
 subst he
 exact⟨_,rfl,_,_,_,[],_,[],hW',trodAll_mk1 (shut_bool Tryz.underlying4 _),(trodAll_cons_mk (Below.trod laidOut (by kernel_rfl) (of_decide_eq_true (by kernel_rfl)) h0 bel lt0) (trodAll_cons_mk (Below.trod laidOut (by kernel_rfl) (of_decide_eq_true (by kernel_rfl)) h1 bel lt1) (trodAll_cons_mk (shut_int Tryz.underlying3 w2) (trodAll_cons_mk (shut_int Tryz.underlying3 w3) trodAll_mk0)))),rfl,bel.frame _,fun h=>by cases h⟩
theorem over:Rows.topBackRow.holds Tryz.pinned (OpenSpec.ofChange Rows.topBackSpec) :=
 OpenClaim.holds_of_wide 4 Tryz.f4 rfl rfl rfl rfl rfl rfl rfl ⟨rfl,rfl,rfl,rfl,rfl⟩ rfl rfl rfl rfl rfl (by kernel_rfl) Tryz.func4 (by kernel_rfl)
  (of_decide_eq_true (by kernel_rfl)) (by unfold Func.isWrapper;first | (rw [if_pos (by decide +kernel)];kernel_rfl) | (rw [if_neg (by decide +kernel)];exact⟨rfl,rfl⟩))
  (fun os started H enc _=>lifted os started H enc)
theorem proved:Rows.TopBackSaid:=over
#print axioms proved
end Go.Proofs.YtdbempiompiioaaGreat.topBack
namespace Go.Proofs.YtdbempiompiioaaGreat
theorem topBack_holds:Rows.TopBackSaid:=topBack.proved
end Go.Proofs.YtdbempiompiioaaGreat
