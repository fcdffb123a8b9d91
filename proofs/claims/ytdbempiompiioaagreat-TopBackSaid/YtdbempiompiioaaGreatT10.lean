/- A slot going round, reckoned with levels: what each node has of the one text that right owners sent, Conditions: the bounds stated in each theorem. -/
import Derived.Test.YtdbempiompiioaaGreatT09
set_option linter.unusedVariables false
set_option linter.unusedSimpArgs false
set_option maxRecDepth 100000
set_option maxHeartbeats 80000000
open Go.Value renaming int → Z
open Go.IntKind renaming i64 → Y
open Go renaming World → Zw, Calls → Zc, heap_alloc_new → Zh
open Go.RowKit renaming Below → Zb
open Go.Proofs.Tryz renaming prog → Zp
open Go.Lib renaming hid → O
open Go.World renaming block_lt_of_cell? → Zl, cell?_setCell_other → Zo
open Nat renaming le_refl → Zr
open Go.RowKit.Below renaming refl → Zf
namespace Go.Proofs.YtdbempiompiioaaGreat
namespace E1
open Go.RowKit A6 A12 A13 A14 A15 A17 A18
structure Fits (t:ByteArray) (l:Nat) (s:ByteArray):Prop where
 strm:Strm s
 front:1≤l→∃ k,s=⟨(t.data.toList.take k).toArray⟩
 full:2≤l→s=t
theorem Fits.nil (t:ByteArray):Fits t 1 ⟨#[]⟩:=⟨Strm.empty,fun _=>⟨0,rfl⟩,fun h=>absurd h (by omega)⟩
theorem Fits.mono {t s:ByteArray} {l m:Nat} (h:Fits t l s) (hm:m≤l):Fits t m s:=⟨h.strm,fun _=>h.front (by omega),fun _=>h.full (by omega)⟩
theorem Fits.of {t:ByteArray} (h:Strm t):Fits t 2 t:=⟨h,fun _=>⟨t.size,(take_whole t _ (Zr _)).symm⟩,fun _=>rfl⟩
theorem Fits.any {t s:ByteArray} (h:Strm s):Fits t 0 s:=⟨h,fun h=>absurd h (by omega),fun h=>absurd h (by omega)⟩
def outL (cmp:Bool) (a b:Nat):Nat:=if cmp then(if 2≤a∧2≤b then 2 else if 1≤a∨1≤b then 1 else 0)else a
theorem atB_in {s:ByteArray} {j:Nat} (h:j < s.size):atB s j=((s.data.toList[j]'(by simpa using h)).toNat:Int):=by
 unfold atB
 rw [dif_pos h]
 rfl
theorem out_front {d s:ByteArray} (hd:Strm d):∃ k,outF true d s=⟨(d.data.toList.take k).toArray⟩∧outF true d s=⟨(s.data.toList.take k).toArray⟩:=by
 obtain⟨k,hk⟩:=passed_any true d s
 refine⟨k,outF_of hk,?_⟩
 rw [outF_of hk]
 have:d.data.toList.take k=s.data.toList.take k:=by
  refine List.ext_getElem? fun j=>?_
  rw [List.getElem?_take,List.getElem?_take]
  by_cases h:j < k
  ·rw [if_pos h,if_pos h]
   have h1:j < d.size:=by have:=hk.1;omega
   have e:=hk.2.1 rfl j h
   have h2:j < s.size:=by
    rcases Nat.lt_or_ge j s.size with h2 | h2
    ·exact h2
    ·have:atB s j=46:=by unfold atB;rw [dif_neg (by omega)]
     exact absurd (e.symm.trans this) (atB_range d j hd h1)
   rw [atB_in h1,atB_in h2]at e
   have h1':j < d.data.toList.length:=by simpa using h1
   have h2':j < s.data.toList.length:=by simpa using h2
   rw [List.getElem?_eq_getElem h1',List.getElem?_eq_getElem h2']
   congr 1
   exact UInt8.toNat_inj.mp (by omega)
  ·rw [if_neg h,if_neg h]
 rw [this]
theorem Fits.out {t d s:ByteArray} {a b:Nat} (hd:Fits t a d) (hs:Fits t b s) (cmp:Bool):Fits t (outL cmp a b) (outF cmp d s):=by
 unfold outL
 cases cmp
 ·rw [outF_plain];exact hd
 ·rw [if_pos rfl]
  refine⟨strm_out true s hd.strm,fun h=>?_,fun h=>?_⟩
  ·obtain⟨k,e1,e2⟩:=out_front (s:=s) hd.strm
   have:1≤a∨1≤b:=by
    split at h
    ·omega
    ·split at h
     ·assumption
     ·omega
   rcases this with h | h
   ·obtain⟨m,e⟩:=hd.front h
    refine⟨min k m,?_⟩
    rw [e1,e,← List.take_take]
   ·obtain⟨m,e⟩:=hs.front h
    refine⟨min k m,?_⟩
    rw [e2,e,← List.take_take]
  ·have:2≤a∧2≤b:=by
    split at h
    ·assumption
    ·split at h <;> omega
   rw [hd.full this.1,hs.full this.2,outF_same]
structure Wl where
 d:Nat→Nat
 s:Nat→Nat
 o:Nat→Nat
 g:Nat→Bool
 far:Nat→Int
def Wl.zero:Wl:=⟨fun _=>1,fun _=>1,fun _=>1,fun _=>false,fun _=>0⟩
def Wl.own (b:Wl) (i:Nat):Wl:=⟨b.d,b.s,fun j=>if j=i then 2 else b.o j,fun j=>if j=i then true else b.g j,b.far⟩
def comeL (z:Nat) (N dir:Int) (b:Wl) (node back:Int):Nat :=
 if b.g ((node + -dir*back)%N).toNat then(if((node + -dir*back)%N).toNat=z then 0 else b.o ((node + -dir*back)%N).toNat)else 1
def Wl.reach (z:Nat) (N dir:Int) (pair:Bool) (b:Wl) (i:Nat) (far:Int):Wl :=
 ⟨fun j=>if j=i then(if i=z then 0 else comeL z N dir b i 1)else b.d j,fun j=>if j=i then comeL z N dir b i 2 else b.s j,
  fun j=>if j=i then(if i=z then 0 else outL (decide (far > 1) || pair) (comeL z N dir b i 1) (comeL z N dir b i 2))else b.o j,
  fun j=>if j=i then true else b.g j,fun j=>if j=i then far else b.far j⟩
def ownL (ow:List Int):Nat→Wl
 | 0=>Wl.zero
 | k+1=>(ownL ow k).own (ow.getD k 0).toNat
def wayL (z:Nat) (N dir:Int) (pair:Bool) (b:Wl) (l:List Int):Nat→Wl
 | 0=>b
 | k+1=>(wayL z N dir pair b l k).reach z N dir pair (l.getD k 0).toNat ((k:Int)+1)
def runL (z:Nat) (N dir:Int) (pair:Bool) (ow:List Int):Wl :=
 wayL z N dir pair (ownL ow ow.length) (wayF N dir ow) (wayF N dir ow).length
structure RelL (t:ByteArray) (v:Wv) (b:Wl):Prop where
 g:∀ j,v.g j=b.g j
 d:∀ j,Fits t (b.d j) (v.f j).d
 s:∀ j,Fits t (b.s j) (v.f j).s
 o:∀ j,Fits t (b.o j) (v.f j).o
 far:∀ j,(v.f j).far=b.far j
theorem RelL.zero (t:ByteArray):RelL t Wv.zero Wl.zero:=⟨fun _=>rfl,fun _=>Fits.nil t,fun _=>Fits.nil t,fun _=>Fits.nil t,fun _=>rfl⟩
theorem RelL.own {t:ByteArray} (ht:Strm t) {v:Wv} {b:Wl} (h:RelL t v b) (i:Nat):RelL t (v.own i t) (b.own i):=by
 refine⟨fun j=>?_,fun j=>?_,fun j=>?_,fun j=>?_,fun j=>?_⟩
 ·show(if j=i then true else v.g j)=if j=i then true else b.g j
  rw [h.g j]
 all_goals
  by_cases e:j=i
  ·subst e
   first
   | (show Fits t _ (if j=j then _ else v.f j).d;rw [if_pos rfl];exact h.d j)
   | (show Fits t _ (if j=j then _ else v.f j).s;rw [if_pos rfl];exact h.s j)
   | (show Fits t (if j=j then 2 else b.o j) (if j=j then _ else v.f j).o;rw [if_pos rfl,if_pos rfl];exact Fits.of ht)
   | (show(if j=j then _ else v.f j).far=_;rw [if_pos rfl];exact h.far j)
  ·first
   | (show Fits t _ (if j=i then _ else v.f j).d;rw [if_neg e];exact h.d j)
   | (show Fits t _ (if j=i then _ else v.f j).s;rw [if_neg e];exact h.s j)
   | (show Fits t (if j=i then 2 else b.o j) (if j=i then _ else v.f j).o;rw [if_neg e,if_neg e];exact h.o j)
   | (show(if j=i then _ else v.f j).far=_;rw [if_neg e];exact h.far j)
structure OneZ (E:Int→Int→ByteArray→ByteArray) (N:Int) (z:Nat):Prop where
 strm:∀ a b s,0≤a→a < N→0≤b→b < N→Strm s→Strm (E a b s)
 same:∀ a b s,0≤a→a < N→a≠(z:Int)→E a b s=s
theorem RelL.come {t:ByteArray} {v:Wv} {b:Wl} (h:RelL t v b) {E:Int→Int→ByteArray→ByteArray} {N:Int} {z:Nat} (hE:OneZ E N z) (hN:6≤N) (dir node back:Int) (h0:0≤node) (h1:node < N) :
 Fits t (comeL z N dir b node back) (comeF E N dir v.f v.g node back):=by
 have q0:0≤(node + -dir*back)%N:=Int.emod_nonneg _ (by omega)
 have q1:(node + -dir*back)%N < N:=Int.emod_lt_of_pos _ (by omega)
 unfold comeF comeL
 rw [h.g]
 generalize ((node + -dir*back)%N)=k at *
 by_cases hg:b.g k.toNat=true
 ·rw [if_pos hg,if_pos hg]
  by_cases hz:k.toNat=z
  ·rw [if_pos hz]
   exact Fits.any (hE.strm k node _ q0 q1 h0 h1 (h.o _).strm)
  ·rw [if_neg hz,hE.same k node _ q0 q1 (by omega)]
   exact h.o _
 ·rw [if_neg hg,if_neg hg]
  exact Fits.nil t
theorem RelL.reach {t:ByteArray} {v:Wv} {b:Wl} (h:RelL t v b) {E:Int→Int→ByteArray→ByteArray} {N:Int} {z:Nat} (hE:OneZ E N z) (hN:6≤N) (Pi slot dir:Int) (st dv:Nat→Int) (i:Nat) (far:Int) (hi:(i:Int) < N)
 (hg:i≠z→st i≠0∧(st i≠4 ∨ -(2*Pi)≤dv i∧dv i≤2*Pi)):RelL t (v.reach E N Pi slot dir st dv i far) (b.reach z N dir (decide (N≤slot)) i far):=by
 have c1:=h.come hE hN dir i 1 (by omega) hi
 have c2:=h.come hE hN dir i 2 (by omega) hi
 have hdf:Fits t (if i=z then 0 else comeL z N dir b i 1) (sdF E N Pi slot dir v.f v.g (st i) (dv i) i far).d:=by
  unfold sdF
  by_cases hz:i=z
  ·rw [if_pos hz]
   refine Fits.any ?_
   dsimp only
   split
   ·exact str_strm c1.strm
   ·exact c1.strm
  ·rw [if_neg hz]
   have hs:∀ x,strF Pi (st i) (dv i) x=x:=fun x=>by unfold strF;rw [if_pos (hg hz).2]
   dsimp only
   rw [hs,ite_self]
   exact c1
 have hof:Fits t (if i=z then 0 else outL (decide (far > 1) || decide (N≤slot)) (comeL z N dir b i 1) (comeL z N dir b i 2)) (sdF E N Pi slot dir v.f v.g (st i) (dv i) i far).o:=by
  by_cases hz:i=z
  ·rw [if_pos hz]
   rw [if_pos hz]at hdf
   refine Fits.any ?_
   unfold sdF at hdf ⊢
   dsimp only at hdf ⊢
   split
   ·exact Strm.empty
   ·exact strm_out _ _ hdf.strm
  ·rw [if_neg hz]
   rw [if_neg hz]at hdf
   unfold sdF at hdf ⊢
   dsimp only at hdf ⊢
   rw [if_neg (hg hz).1,Bool.decide_or]
   exact hdf.out c2 _
 refine⟨fun j=>?_,fun j=>?_,fun j=>?_,fun j=>?_,fun j=>?_⟩
 ·show(if j=i then true else v.g j)=if j=i then true else b.g j
  rw [h.g j]
 all_goals
  by_cases e:j=i
  ·subst e
   first
   | (show Fits t (if j=j then _ else b.d j) (if j=j then _ else v.f j).d;rw [if_pos rfl,if_pos rfl];exact hdf)
   | (show Fits t (if j=j then _ else b.s j) (if j=j then _ else v.f j).s;rw [if_pos rfl,if_pos rfl];exact c2)
   | (show Fits t (if j=j then _ else b.o j) (if j=j then _ else v.f j).o;rw [if_pos rfl,if_pos rfl];exact hof)
   | (show(if j=j then _ else v.f j).far=(if j=j then _ else b.far j);rw [if_pos rfl,if_pos rfl];rfl)
  ·first
   | (show Fits t (if j=i then _ else b.d j) (if j=i then _ else v.f j).d;rw [if_neg e,if_neg e];exact h.d j)
   | (show Fits t (if j=i then _ else b.s j) (if j=i then _ else v.f j).s;rw [if_neg e,if_neg e];exact h.s j)
   | (show Fits t (if j=i then _ else b.o j) (if j=i then _ else v.f j).o;rw [if_neg e,if_neg e];exact h.o j)
   | (show(if j=i then _ else v.f j).far=(if j=i then _ else b.far j);rw [if_neg e,if_neg e];exact h.far j)
theorem relL_own {t:ByteArray} (ht:Strm t) {ow:List Int} {sends:List ByteArray}:∀ k,(∀ j,j < k→sends.getD j ⟨#[]⟩=t)→RelL t (ownK ow sends k) (ownL ow k)
 | 0,_=>RelL.zero t
 | k+1,h=>by
  unfold ownK ownL
  rw [h k (by omega)]
  exact(relL_own ht k (fun j hj=>h j (by omega))).own ht _
theorem relL_way {t:ByteArray} {E:Int→Int→ByteArray→ByteArray} {n:Nat} {z:Nat} (hE:OneZ E n z) (hN:6≤n) (Pi slot dir:Int) (st dv:Nat→Int) {v:Wv} {b:Wl} (h:RelL t v b) (hg:∀ i:Nat,i < n→i≠z→st i≠0∧(st i≠4 ∨ -(2*Pi)≤dv i∧dv i≤2*Pi))
 (l:List Int) (hl:∀ x ∈ l,0≤x∧x < (n:Int)):∀ k,k≤l.length→RelL t (wayK E n Pi slot dir st dv v l k) (wayL z n dir (decide ((n:Int)≤slot)) b l k)
 | 0,_=>h
 | k+1,hk=>by
  have hm:=hl _ (getD_mem (l:=l) (k:=k) (by omega))
  exact(relL_way hE hN Pi slot dir st dv h hg l hl k (by omega)).reach hE (by omega) Pi slot dir st dv _ _ (by omega) (hg (l.getD k 0).toNat (by omega))
theorem relL_run {t:ByteArray} (ht:Strm t) {E:Int→Int→ByteArray→ByteArray} {n:Nat} {z:Nat} (hE:OneZ E n z) (hN:6≤n) (Pi slot dir:Int) (st dv:Nat→Int) (hg:∀ i:Nat,i < n→i≠z→st i≠0∧(st i≠4 ∨ -(2*Pi)≤dv i∧dv i≤2*Pi))
 (ow:List Int) (sends:List ByteArray) (hs:∀ j,j < ow.length→sends.getD j ⟨#[]⟩=t) :
 RelL t (runF E n Pi slot dir st dv ow sends) (runL z n dir (decide ((n:Int)≤slot)) ow) :=
 relL_way hE hN Pi slot dir st dv (relL_own ht _ hs) hg _ (fun x hx=>wayF_mem (by omega) hx) _ (Zr _)
def fineL (n z:Nat) (pair:Bool) (ow:List Int) (i:Nat):Bool :=
 ow.contains (z:Int) || ow.contains (i:Int) || i == z ||
 (decide (1≤(runL z n 1 pair ow).far i) && decide (1≤(runL z n (-1) pair ow).far i) &&
  (!(decide (2≤(runL z n 1 pair ow).far i) || pair) || decide (1≤(runL z n 1 pair ow).o i)) && (!(decide (2≤(runL z n (-1) pair ow).far i) || pair) || decide (1≤(runL z n (-1) pair ow).o i)) &&
  (((decide (2≤(runL z n 1 pair ow).far i) || pair) && decide (2≤(runL z n 1 pair ow).o i)) || ((decide (2≤(runL z n (-1) pair ow).far i) || pair) && decide (2≤(runL z n (-1) pair ow).o i)) ||
   (!pair && (decide ((runL z n 1 pair ow).far i=1) || decide ((runL z n (-1) pair ow).far i=1)) && (!decide ((runL z n 1 pair ow).far i=1) || decide (2≤(runL z n 1 pair ow).d i)) && (!decide ((runL z n (-1) pair ow).far i=1) || decide (2≤(runL z n (-1) pair ow).d i)))))
def fineAll (n:Nat):Bool:=(List.range n).all fun z=>(List.range n).all fun x=>(List.range n).all fun i=>fineL n z false [(x:Int)] i && fineL n z true [(x:Int),((x:Int)+1)%n] i
theorem fine6:fineAll 6=true:=by decide +kernel
theorem fine7:fineAll 7=true:=by decide +kernel
theorem fine_of {n z x i:Nat} (hn:n=6∨n=7) (hz:z < n) (hx:x < n) (hi:i < n):fineL n z false [(x:Int)] i=true∧fineL n z true [(x:Int),((x:Int)+1)%n] i=true:=by
 have h:fineAll n=true:=by
  rcases hn with rfl | rfl
  ·exact fine6
  ·exact fine7
 unfold fineAll at h
 have h1:=List.all_eq_true.mp h z (List.mem_range.mpr hz)
 have h2:=List.all_eq_true.mp h1 x (List.mem_range.mpr hx)
 have h3:=List.all_eq_true.mp h2 i (List.mem_range.mpr hi)
 exact Bool.and_eq_true_iff.mp h3
structure NilZ (v:Wv) (z:Nat):Prop where
 d:∀ j,(v.f j).d=⟨#[]⟩
 s:∀ j,(v.f j).s=⟨#[]⟩
 o:∀ j,j≠z→(v.f j).o=⟨#[]⟩
theorem NilZ.come {v:Wv} {z:Nat} (h:NilZ v z) {E:Int→Int→ByteArray→ByteArray} {N:Int} (hE:OneZ E N z) (h0:∀ b s,E z b s=⟨#[]⟩) (hN:6≤N) (dir node back:Int):comeF E N dir v.f v.g node back=⟨#[]⟩:=by
 have q0:0≤(node + -dir*back)%N:=Int.emod_nonneg _ (by omega)
 have q1:(node + -dir*back)%N < N:=Int.emod_lt_of_pos _ (by omega)
 unfold comeF
 generalize ((node + -dir*back)%N)=k at *
 split
 ·by_cases hz:k=(z:Int)
  ·rw [hz];exact h0 _ _
  ·rw [hE.same k node _ q0 q1 hz,h.o _ (by omega)]
 ·rfl
theorem NilZ.reach {v:Wv} {z:Nat} (h:NilZ v z) {E:Int→Int→ByteArray→ByteArray} {N:Int} (hE:OneZ E N z) (h0:∀ b s,E z b s=⟨#[]⟩) (hN:6≤N) (Pi slot dir:Int) (st dv:Nat→Int) (i:Nat) (far:Int):NilZ (v.reach E N Pi slot dir st dv i far) z:=by
 have hs:strF Pi (st i) (dv i) ⟨#[]⟩=⟨#[]⟩:=by unfold strF;exact ite_self _
 have hd:sdF E N Pi slot dir v.f v.g (st i) (dv i) i far=⟨⟨#[]⟩,⟨#[]⟩,⟨#[]⟩,far⟩:=by
  unfold sdF
  rw [h.come hE h0 hN,h.come hE h0 hN,hs,ite_self,outF_nil,ite_self]
 refine⟨fun j=>?_,fun j=>?_,fun j hj=>?_⟩
 all_goals
  by_cases e:j=i
  ·subst e
   first
   | (show(if j=j then _ else v.f j).d=_;rw [if_pos rfl,hd])
   | (show(if j=j then _ else v.f j).s=_;rw [if_pos rfl,hd])
   | (show(if j=j then _ else v.f j).o=_;rw [if_pos rfl,hd])
  ·first
   | (show(if j=i then _ else v.f j).d=_;rw [if_neg e];exact h.d j)
   | (show(if j=i then _ else v.f j).s=_;rw [if_neg e];exact h.s j)
   | (show(if j=i then _ else v.f j).o=_;rw [if_neg e];exact h.o j hj)
theorem NilZ.own {v:Wv} {z:Nat} (h:NilZ v z) (i:Nat) (s:ByteArray) (hs:i=z∨s=⟨#[]⟩):NilZ (v.own i s) z:=by
 refine⟨fun j=>?_,fun j=>?_,fun j hj=>?_⟩
 all_goals
  by_cases e:j=i
  ·subst e
   first
   | (show(if j=j then _ else v.f j).d=_;rw [if_pos rfl];exact h.d j)
   | (show(if j=j then _ else v.f j).s=_;rw [if_pos rfl];exact h.s j)
   | (show(if j=j then _ else v.f j).o=_;rw [if_pos rfl];exact hs.resolve_left hj)
  ·first
   | (show(if j=i then _ else v.f j).d=_;rw [if_neg e];exact h.d j)
   | (show(if j=i then _ else v.f j).s=_;rw [if_neg e];exact h.s j)
   | (show(if j=i then _ else v.f j).o=_;rw [if_neg e];exact h.o j hj)
theorem nilZ_own {z:Nat} {ow:List Int} {sends:List ByteArray}:∀ k,(∀ j,j < k→(ow.getD j 0).toNat=z∨sends.getD j ⟨#[]⟩=⟨#[]⟩)→NilZ (ownK ow sends k) z
 | 0,_=>⟨fun _=>rfl,fun _=>rfl,fun _ _=>rfl⟩
 | k+1,h=>by
  unfold ownK
  exact(nilZ_own k (fun j hj=>h j (by omega))).own _ _ (h k (by omega))
theorem nilZ_way {E:Int→Int→ByteArray→ByteArray} {N:Int} {z:Nat} (hE:OneZ E N z) (h0:∀ b s,E z b s=⟨#[]⟩) (hN:6≤N) (Pi slot dir:Int) (st dv:Nat→Int) {v:Wv} (h:NilZ v z) (l:List Int):∀ k,NilZ (wayK E N Pi slot dir st dv v l k) z
 | 0=>h
 | k+1=>(nilZ_way hE h0 hN Pi slot dir st dv h l k).reach hE h0 hN Pi slot dir st dv _ _
theorem nilZ_run {E:Int→Int→ByteArray→ByteArray} {N:Int} {z:Nat} (hE:OneZ E N z) (h0:∀ b s,E z b s=⟨#[]⟩) (hN:6≤N) (Pi slot dir:Int) (st dv:Nat→Int) (ow:List Int) (sends:List ByteArray) (hs:∀ j,j < ow.length→(ow.getD j 0).toNat=z∨sends.getD j ⟨#[]⟩=⟨#[]⟩) :
 NilZ (runF E N Pi slot dir st dv ow sends) z:=nilZ_way hE h0 hN Pi slot dir st dv (nilZ_own _ hs) _ _
structure StrmV (n:Nat) (v:Wv):Prop where
 d:∀ j,Strm (v.f j).d
 s:∀ j,Strm (v.f j).s
 o:∀ j,Strm (v.f j).o
end E1
namespace E2
open Go.RowKit A6 A13 A17 A20 A21 A22 A23 A24 A25 A31 A32 D7 D8 E1
theorem num_inj {x y n:Nat} (hx:x < 2 ^ n) (hy:y < 2 ^ n) (h:bitsL x n=bitsL y n):x=y:=by
 have:=congrArg numL h
 rwa [numL_bits _ _ hx,numL_bits _ _ hy]at this
theorem item_inj {a b:Nat×Nat} (ha:a.1 < 4∧a.2 < 256) (hb:b.1 < 4∧b.2 < 256) (h:itemL a=itemL b):a=b:=by
 obtain⟨h1,h2⟩:=List.append_inj h (by rw [bitsL_length,bitsL_length])
 exact Prod.ext (num_inj (n:=2) (by omega) (by omega) h1) (num_inj (n:=8) (by omega) (by omega) h2)
theorem echo_inj:∀ {a b:List (Nat×Nat)},(∀ x ∈ a,x.1 < 4∧x.2 < 256)→(∀ x ∈ b,x.1 < 4∧x.2 < 256)→echoL a=echoL b→a=b
 | [],[],_,_,_=>rfl
 | [],y :: r,_,_,h=>by have:=congrArg List.length h;rw [echoL_length,echoL_length]at this;simp at this
 | x :: r,[],_,_,h=>by have:=congrArg List.length h;rw [echoL_length,echoL_length]at this;simp at this
 | x :: r,y :: r',ha,hb,h=>by
  obtain⟨h1,h2⟩:=List.append_inj h (by rw [itemL_length,itemL_length])
  rw [item_inj (ha x (List.mem_cons_self ..)) (hb y (List.mem_cons_self ..)) h1,echo_inj (fun z hz=>ha z (List.mem_cons_of_mem _ hz)) (fun z hz=>hb z (List.mem_cons_of_mem _ hz)) h2]
theorem okI_low {i:Nat×Nat} (h:okI i):i.1 < 4∧i.2 < 256:=by
 rcases h with⟨h1,h2⟩ | ⟨h1,h2⟩ | ⟨h1,h2⟩ <;> omega
theorem echo_low {N PL:Nat} {f:Fr} (h:FrOk N PL f):∀ x ∈ f.echo,x.1 < 4∧x.2 < 256:=fun x hx=>by
 obtain⟨k,hk,rfl⟩:=List.mem_iff_getElem.mp hx
 have:=okI_low (h.each k hk)
 rwa [List.getD_eq_getElem?_getD,List.getElem?_eq_getElem hk]at this
theorem textB_data (f:Fr):(textB f).data.toList=wrapL (bodyL f):=rfl
theorem text_inj {N PL:Nat} {f g:Fr} (hf:FrOk N PL f) (hg:FrOk N PL g) (hN:N≤12) (hP:PL≤3) (h:textB f=textB g):f=g:=by
 have e:wrapL (bodyL f)=wrapL (bodyL g):=by rw [← textB_data,← textB_data,h]
 have hl:(bodyL f).length=(bodyL g).length:=by
  have:=congrArg List.length e
  rw [wrapL_length,wrapL_length]at this
  omega
 have eb:bodyL f=bodyL g:=by
  unfold wrapL at e
  simp only [List.append_assoc]at e
  exact(List.append_inj e hl).1
 obtain⟨eh,ee⟩:=List.append_inj eb (by rw [headL_length,headL_length])
 have e5:=echo_inj (echo_low hf) (echo_low hg) ee
 obtain⟨e4,ei⟩:=List.append_inj eh (by simp [bitsL_length])
 obtain⟨e3,es⟩:=List.append_inj e4 (by simp [bitsL_length])
 obtain⟨ek,er⟩:=List.append_inj e3 (by simp [bitsL_length])
 have k1:=hf.k3
 have k2:=hg.k3
 have r1:=hf.round
 have r2:=hg.round
 have s1:=hf.slot
 have s2:=hg.slot
 have p:=item_inj (okI_low hf.pay) (okI_low hg.pay) ei
 injection p with p1 p2
 have a1:=num_inj (n:=2) (by omega) (by omega) ek
 have a2:=num_inj (n:=16) (by omega) (by omega) er
 have a3:=num_inj (n:=6) (by omega) (by omega) es
 obtain⟨fk,fr,fs,fp,fv,fe⟩:=f
 obtain⟨gk,gr,gs,gp,gv,ge⟩:=g
 simp only at *
 subst a1 a2 a3 p1 p2 e5
 rfl
theorem read_text {N PL:Nat} {f:Fr} (hf:FrOk N PL f) (hN:N≤12) (hP:PL≤3):readF N PL (textB f)=some f:=by
 cases h:readF N PL (textB f)with
 | none=>exact absurd rfl (readF_none h f hf)
 | some g =>
  obtain⟨h1,h2⟩:=readF_ok h
  rw [text_inj hf h1 hN hP h2]
theorem right_text {N PL:Nat} {wire slot:Int} {f:Fr} (hf:FrOk N PL f) (hN:N≤12) (hP:PL≤3) (hw:(f.round:Int)=wire) (hs:(f.slot:Int)=slot):rightF N PL wire slot (textB f)=some f:=by
 unfold rightF
 rw [read_text hf hN hP]
 exact if_pos ⟨hw,hs⟩
theorem sort_right {N PL:Nat} {wire slot:Int} {s:ByteArray} (h:Strm s):SortIs N PL wire slot s (rightF N PL wire slot s):=by
 cases e:rightF N PL wire slot s with
 | none=>exact⟨h,h.1,e⟩
 | some f=>exact rightF_ok e
theorem front_right {N PL:Nat} {wire slot:Int} {f g:Fr} {s:ByteArray} (hf:FrOk N PL f) (hN:N≤12) (hP:PL≤3) {k:Nat} (he:s=⟨((textB f).data.toList.take k).toArray⟩) (hr:rightF N PL wire slot s=some g):s=textB f∧g=f:=by
 obtain⟨e,hg,_,_⟩:=rightF_ok hr
 have key:s=textB f:=by
  rcases Nat.lt_or_ge k (textB f).data.toList.length with h | h
  ·exfalso
   have e2:(textB g).data.toList=(textB f).data.toList.take k:=by rw [← e,he]
   rw [textB_data,textB_data]at e2
   have hl:=congrArg List.length e2
   rw [textB_data]at h
   simp only [List.length_take,wrapL_length]at hl
   rw [wrapL_length]at h
   have hk:0 < k:=by omega
   have hlast:(wrapL (bodyL g))[k-1]?=some 35:=by
    unfold wrapL
    rw [List.getElem?_append_right (by simp [bitsL_length];omega)]
    have:k-1-(bodyL g ++ bitsL (sumL (bodyL g)) 16).length=0:=by simp [bitsL_length];omega
    rw [this];rfl
   rw [e2,List.getElem?_take,if_pos (by omega)]at hlast
   have hb:AllBits (bodyL f ++ bitsL (sumL (bodyL f)) 16):=(body_all f).app (bits_all _ _)
   unfold wrapL at hlast
   rw [List.getElem?_append_left (by simp [bitsL_length];omega)]at hlast
   have:=hb 35 (List.mem_of_getElem? hlast)
   revert this;decide
  ·rw [he,List.take_of_length_le h]
 refine⟨key,?_⟩
 rw [key]at e
 exact(text_inj hf hg hN hP e).symm
noncomputable def pickG (N PL:Nat) (wire slot:Int) (a b:Sd):Option Fr :=
 pickF (addF a.o (decide (2≤a.far) || decide (slot≥N)) (rightF N PL wire slot a.o) ++ addF b.o (decide (2≤b.far) || decide (slot≥N)) (rightF N PL wire slot b.o))
  (addF a.d (decide (a.far=1) && !decide (slot≥N)) (rightF N PL wire slot a.d) ++ addF b.d (decide (b.far=1) && !decide (slot≥N)) (rightF N PL wire slot b.d))
theorem addF_none (s:ByteArray) (b:Bool):addF s b none=[]:=by unfold addF;split <;> rfl
theorem pick_all {la ld:List (ByteArray×Fr)} {t:ByteArray} {f:Fr} (h1:∀ x ∈ la,x=(t,f)) (h2:la≠[]∨((∀ x ∈ ld,x=(t,f))∧ld≠[])):pickF la ld=some f:=by
 match la,ld with
 | x :: y :: r,_ =>
  have e1:=h1 x (by simp)
  have e2:=h1 y (by simp)
  subst e1
  subst e2
  simp [pickF]
 | [x],_ =>
  have e1:=h1 x (by simp)
  subst e1
  rfl
 | [],[]=>rcases h2 with h | ⟨_,h⟩ <;> exact absurd rfl h
 | [],x :: r =>
  rcases h2 with h | ⟨h,_⟩
  ·exact absurd rfl h
  ·have e1:=h x (by simp)
   subst e1
   rfl
theorem add_front {N PL:Nat} {wire slot:Int} {f:Fr} {s:ByteArray} {l:Nat} {b:Bool} (hf:FrOk N PL f) (hN:N≤12) (hP:PL≤3) (h:Fits (textB f) l s) (hb:b=true→1≤l):∀ x ∈ addF s b (rightF N PL wire slot s),x=(textB f,f):=fun x hx=>by
 unfold addF at hx
 split at hx
 ·next e =>
  cases er:rightF N PL wire slot s with
  | none=>rw [er]at hx;cases hx
  | some g =>
   rw [er]at hx
   obtain⟨k,ek⟩:=h.front (hb e)
   obtain⟨e1,e2⟩:=front_right hf hN hP ek er
   simp only [List.mem_singleton]at hx
   rw [hx,e1,e2]
 ·cases hx
theorem add_full {N PL:Nat} {wire slot:Int} {f:Fr} {s:ByteArray} {l:Nat} {b:Bool} (hf:FrOk N PL f) (hN:N≤12) (hP:PL≤3) (hw:(f.round:Int)=wire) (hs:(f.slot:Int)=slot) (h:Fits (textB f) l s) (hb:b=true) (hl:2≤l):addF s b (rightF N PL wire slot s)≠[]:=by
 rw [h.full hl,right_text hf hN hP hw hs,hb]
 simp [addF]
theorem pick_right {N PL:Nat} {wire slot Pi:Int} {f:Fr} {z la lb i:Nat} {E:Int→Int→ByteArray→ByteArray} {st:Nat→Int} {d1 d2:Nat→Int} {ow:List Int} {sends:List ByteArray} (hN:6≤N) (hN2:N≤7) (hP:PL≤3) (hE:OneZ E N z) (hf:FrOk N PL f) (ht:Strm (textB f)) (hw:(f.round:Int)=wire) (hs:(f.slot:Int)=slot)
 (ho:(slot < N∧∃ x:Nat,x < N∧ow=[(x:Int)])∨((N:Int)≤slot∧∃ x:Nat,x < N∧ow=[(x:Int),((x:Int)+1)%N])) (hS:∀ j,j < ow.length→sends.getD j ⟨#[]⟩=textB f) (hz:z < N) (hzo:ow.contains (z:Int)=false) (hi:i < N) (hio:ow.contains (i:Int)=false) (hiz:i≠z)
 (h1:∀ j:Nat,j < N→j≠z→st j≠0∧(st j≠4 ∨ -(2*Pi)≤d1 j∧d1 j≤2*Pi)) (h2:∀ j:Nat,j < N→j≠z→st j≠0∧(st j≠4 ∨ -(2*Pi)≤d2 j∧d2 j≤2*Pi)) :
 pickG N PL wire slot ((runF E N Pi slot 1 st d1 ow sends).f i) ((runF E N Pi slot (-1) st d2 ow sends).f i)=some f∧1≤((runF E N Pi slot 1 st d1 ow sends).f i).far∧1≤((runF E N Pi slot (-1) st d2 ow sends).f i).far:=by
 have R1:=relL_run ht hE hN Pi slot 1 st d1 h1 ow sends hS
 have R2:=relL_run ht hE hN Pi slot (-1) st d2 h2 ow sends hS
 have F:fineL N z (decide ((N:Int)≤slot)) ow i=true:=by
  have hn:N=6∨N=7:=by omega
  rcases ho with⟨h,x,hx,e⟩ | ⟨h,x,hx,e⟩
  ·rw [e,decide_eq_false (by omega)];exact(fine_of hn hz hx hi).1
  ·rw [e,decide_eq_true (by omega)];exact(fine_of hn hz hx hi).2
 unfold fineL at F
 have hiz':(i == z)=false:=by simpa using hiz
 rw [hzo,hio,hiz']at F
 unfold pickG
 have o1:=R1.o i
 have a1:=R1.d i
 have o2:=R2.o i
 have a2:=R2.d i
 rw [R1.far i,R2.far i]
 generalize runL z N 1 (decide ((N:Int)≤slot)) ow=U at *
 generalize runL z N (-1) (decide ((N:Int)≤slot)) ow=W at *
 have hge:decide (slot≥(N:Int))=decide ((N:Int)≤slot):=rfl
 rw [hge]
 generalize decide ((N:Int)≤slot)=pair at *
 simp only [Bool.false_or,Bool.and_eq_true,decide_eq_true_eq]at F
 obtain⟨⟨⟨⟨f1,f2⟩,g1⟩,g2⟩,F⟩:=F
 refine⟨?_,f1,f2⟩
 have hN12:N≤12:=by omega
 have b1:(decide (2≤U.far i) || pair)=true→1≤U.o i:=fun h=>by rw [h]at g1;simpa using g1
 have b2:(decide (2≤W.far i) || pair)=true→1≤W.o i:=fun h=>by rw [h]at g2;simpa using g2
 refine pick_all (t:=textB f) (fun x hx=>?_) ?_
 ·rcases List.mem_append.mp hx with hx | hx
  ·exact add_front hf hN12 hP o1 b1 x hx
  ·exact add_front hf hN12 hP o2 b2 x hx
 ·simp only [Bool.or_eq_true,Bool.and_eq_true,decide_eq_true_eq]at F
  rcases F with(⟨h,h'⟩ | ⟨h,h'⟩) | ⟨⟨⟨hp,h⟩,h'⟩,h''⟩
  ·refine .inl (fun e=>add_full hf hN12 hP hw hs o1 (by simpa using h) h' (List.append_eq_nil_iff.mp e).1)
  ·refine .inl (fun e=>add_full hf hN12 hP hw hs o2 (by simpa using h) h' (List.append_eq_nil_iff.mp e).2)
  ·have q1:(decide (U.far i=1) && !pair)=true→2≤U.d i:=fun e=>by
    rw [Bool.and_eq_true]at e
    rw [e.1]at h';simpa using h'
   have q2:(decide (W.far i=1) && !pair)=true→2≤W.d i:=fun e=>by
    rw [Bool.and_eq_true]at e
    rw [e.1]at h'';simpa using h''
   refine .inr ⟨fun x hx=>?_,fun e=>?_⟩
   ·rcases List.mem_append.mp hx with hx | hx
    ·exact add_front hf hN12 hP a1 (fun e=>by have:=q1 e;omega) x hx
    ·exact add_front hf hN12 hP a2 (fun e=>by have:=q2 e;omega) x hx
   ·rcases h with h | h
    ·have hb:(decide (U.far i=1) && !pair)=true:=by rw [decide_eq_true h,hp];rfl
     exact add_full hf hN12 hP hw hs a1 hb (q1 hb) (List.append_eq_nil_iff.mp e).1
    ·have hb:(decide (W.far i=1) && !pair)=true:=by rw [decide_eq_true h,hp];rfl
     exact add_full hf hN12 hP hw hs a2 hb (q2 hb) (List.append_eq_nil_iff.mp e).2
theorem right_nil (N PL:Nat) (wire slot:Int):rightF N PL wire slot ⟨#[]⟩=none:=by
 cases h:rightF N PL wire slot ⟨#[]⟩with
 | none=>rfl
 | some f =>
  obtain⟨e,_⟩:=rightF_ok h
  have:=congrArg (fun s:ByteArray=>s.data.toList.length) e
  simp only [textB_data,wrapL_length]at this
  simp at this
theorem pick_nil {N PL z:Nat} {wire slot:Int} {v1 v2:Wv} (h1:NilZ v1 z) (h2:NilZ v2 z) {i:Nat} (hi:i≠z):pickG N PL wire slot (v1.f i) (v2.f i)=none:=by
 unfold pickG
 rw [h1.o i hi,h2.o i hi,h1.d i,h2.d i,right_nil,addF_none,addF_none,addF_none,addF_none]
 rfl
theorem pick_ok {N PL:Nat} {wire slot:Int} {a b:Sd} {f:Fr} (h:pickG N PL wire slot a b=some f):FrOk N PL f∧(f.round:Int)=wire∧(f.slot:Int)=slot:=by
 have key:∀(s:ByteArray) (c:Bool) (x:ByteArray×Fr),x ∈ addF s c (rightF N PL wire slot s)→FrOk N PL x.2∧(x.2.round:Int)=wire∧(x.2.slot:Int)=slot:=fun s c x hx=>by
  unfold addF at hx
  split at hx
  ·cases er:rightF N PL wire slot s with
   | none=>rw [er]at hx;cases hx
   | some g =>
    rw [er]at hx
    simp only [List.mem_singleton]at hx
    rw [hx]
    obtain⟨_,h1,h2,h3⟩:=rightF_ok er
    exact⟨h1,h2,h3⟩
  ·cases hx
 have key2:∀ la ld:List (ByteArray×Fr),pickF la ld=some f→∃ s,(s,f) ∈ la∨(s,f) ∈ ld:=fun la ld h=>by
  match la,ld,h with
  | x :: y :: r,_,h =>
   unfold pickF at h
   dsimp only at h
   split at h
   ·injection h with h;exact⟨x.1,.inl (by rw [← h];simp)⟩
   ·cases h
  | [x],_,h=>injection h with h;exact⟨x.1,.inl (by rw [← h];simp)⟩
  | [],[],h=>cases h
  | [],x :: r,h=>injection h with h;exact⟨x.1,.inr (by rw [← h];simp)⟩
 obtain⟨s,hs⟩:=key2 _ _ h
 rcases hs with hs | hs
 ·rcases List.mem_append.mp hs with hs | hs <;> exact key _ _ _ hs
 ·rcases List.mem_append.mp hs with hs | hs <;> exact key _ _ _ hs
end E2
namespace A44
open Go.RowKit A6 A8 A13 A14 A15 A17 A18 A22 A31 A32 A41 A43 E1 E2
structure PickAt (N PL:Nat) (wire slot:Int) (a b:Sd) (o:Option Fr):Prop where
 ex:∃ r1 r2 q1 q2,SortIs N PL wire slot a.o r1∧SortIs N PL wire slot b.o r2∧SortIs N PL wire slot a.d q1∧SortIs N PL wire slot b.d q2 ∧
  pickF (addF a.o (decide (2≤a.far) || decide (slot≥N)) r1 ++ addF b.o (decide (2≤b.far) || decide (slot≥N)) r2) (addF a.d (decide (a.far=1) && !decide (slot≥N)) q1 ++ addF b.d (decide (b.far=1) && !decide (slot≥N)) q2)=o
 f1:1≤a.far
 f2:1≤b.far
theorem owners_cases {c:NC} (hc:NOk c) {slot:Nat} (hs:slot < c.N+c.ps.length):(slot < c.N∧owners c.N c.ps slot=[(slot:Int)])∨(c.N≤slot∧owners c.N c.ps slot=[])∨(c.N≤slot∧∃ x:Nat,x < c.N∧owners c.N c.ps slot=[(x:Int),((x:Int)+1)%c.N]):=by
 by_cases h:slot < c.N
 ·exact .inl ⟨h,by unfold owners;rw [if_pos (by omega)]⟩
 ·have hn:¬(slot:Int) < c.N:=by omega
  have hk:=hc.cf.each ((slot:Int)-c.N).toNat (by omega)
  by_cases e:c.ps.getD ((slot:Int)-c.N).toNat (-1) = -1
  ·exact .inr (.inl ⟨by omega,by unfold owners;rw [if_neg hn,if_pos e]⟩)
  ·have hg:c.ps.getD ((slot:Int)-c.N).toNat (-1)=c.ps.getD ((slot:Int)-c.N).toNat 0:=by
    rw [List.getD_eq_getElem?_getD,List.getD_eq_getElem?_getD,List.getElem?_eq_getElem (show((slot:Int)-c.N).toNat < c.ps.length by omega)];rfl
   refine .inr (.inr ⟨by omega,(c.ps.getD ((slot:Int)-c.N).toNat (-1)).toNat,by omega,?_⟩)
   have he:(((c.ps.getD ((slot:Int)-c.N).toNat (-1)).toNat:Nat):Int)=c.ps.getD ((slot:Int)-c.N).toNat (-1):=by omega
   unfold owners
   rw [if_neg hn,if_neg e,he]
structure StrmV (v:Wv):Prop where
 d:∀ j,Strm (v.f j).d
 s:∀ j,Strm (v.f j).s
 o:∀ j,Strm (v.f j).o
theorem StrmV.own {v:Wv} (h:StrmV v) (i:Nat) {s:ByteArray} (hs:Strm s):StrmV (v.own i s):=by
 refine⟨fun j=>?_,fun j=>?_,fun j=>?_⟩
 all_goals
  by_cases e:j=i
  ·subst e
   first
   | (show Strm (if j=j then _ else v.f j).d;rw [if_pos rfl];exact h.d j)
   | (show Strm (if j=j then _ else v.f j).s;rw [if_pos rfl];exact h.s j)
   | (show Strm (if j=j then _ else v.f j).o;rw [if_pos rfl];exact hs)
  ·first
   | (show Strm (if j=i then _ else v.f j).d;rw [if_neg e];exact h.d j)
   | (show Strm (if j=i then _ else v.f j).s;rw [if_neg e];exact h.s j)
   | (show Strm (if j=i then _ else v.f j).o;rw [if_neg e];exact h.o j)
theorem StrmV.reach {v:Wv} (h:StrmV v) {E:Int→Int→ByteArray→ByteArray} {N:Int} (hE:∀ a b s,0≤a→a < N→0≤b→b < N→Strm s→Strm (E a b s)) (hN:6≤N) (Pi slot dir:Int) (st dv:Nat→Int) (i:Nat) (far:Int) (hi:(i:Int) < N):StrmV (v.reach E N Pi slot dir st dv i far):=by
 have c1:=come_strm (dir:=dir) (g:=v.g) (back:=1) hE hN (by omega:(0:Int)≤i) hi (fun j _=>h.o j)
 have c2:=come_strm (dir:=dir) (g:=v.g) (back:=2) hE hN (by omega:(0:Int)≤i) hi (fun j _=>h.o j)
 have hd:Strm (sdF E N Pi slot dir v.f v.g (st i) (dv i) i far).d:=by
  unfold sdF
  dsimp only
  split
  ·exact str_strm c1
  ·exact c1
 have ho:Strm (sdF E N Pi slot dir v.f v.g (st i) (dv i) i far).o:=by
  unfold sdF at hd ⊢
  dsimp only at hd ⊢
  split
  ·exact Strm.empty
  ·exact strm_out _ _ hd
 refine⟨fun j=>?_,fun j=>?_,fun j=>?_⟩
 all_goals
  by_cases e:j=i
  ·subst e
   first
   | (show Strm (if j=j then _ else v.f j).d;rw [if_pos rfl];exact hd)
   | (show Strm (if j=j then _ else v.f j).s;rw [if_pos rfl];exact c2)
   | (show Strm (if j=j then _ else v.f j).o;rw [if_pos rfl];exact ho)
  ·first
   | (show Strm (if j=i then _ else v.f j).d;rw [if_neg e];exact h.d j)
   | (show Strm (if j=i then _ else v.f j).s;rw [if_neg e];exact h.s j)
   | (show Strm (if j=i then _ else v.f j).o;rw [if_neg e];exact h.o j)
theorem strmV_own {ow:List Int} {sends:List ByteArray} (hs:∀ k,Strm (sends.getD k ⟨#[]⟩)):∀ k,StrmV (ownK ow sends k)
 | 0=>⟨fun _=>Strm.empty,fun _=>Strm.empty,fun _=>Strm.empty⟩
 | k+1=>(strmV_own hs k).own _ (hs k)
theorem strmV_way {E:Int→Int→ByteArray→ByteArray} {n:Nat} (hE:∀ a b s,0≤a→a < (n:Int)→0≤b→b < (n:Int)→Strm s→Strm (E a b s)) (hN:6≤n) (Pi slot dir:Int) (st dv:Nat→Int) {v:Wv} (h:StrmV v) (l:List Int) (hl:∀ x ∈ l,0≤x∧x < (n:Int)):∀ k,k≤l.length→StrmV (wayK E n Pi slot dir st dv v l k)
 | 0,_=>h
 | k+1,hk=>by
  have hm:=hl _ (getD_mem (l:=l) (k:=k) (by omega))
  exact(strmV_way hE hN Pi slot dir st dv h l hl k (by omega)).reach hE (by omega) Pi slot dir st dv _ _ (by omega)
theorem strmV_run {E:Int→Int→ByteArray→ByteArray} {n:Nat} (hE:∀ a b s,0≤a→a < (n:Int)→0≤b→b < (n:Int)→Strm s→Strm (E a b s)) (hN:6≤n) (Pi slot dir:Int) (st dv:Nat→Int) (ow:List Int) (sends:List ByteArray) (hs:∀ k,Strm (sends.getD k ⟨#[]⟩)):StrmV (runF E n Pi slot dir st dv ow sends) :=
 strmV_way hE hN Pi slot dir st dv (strmV_own hs _) _ (fun x hx=>wayF_mem (by omega) hx) _ (Zr _)
theorem far_own (ow:List Int) (sends:List ByteArray):∀ k j,((ownK ow sends k).f j).far=(ownL ow k).far j
 | 0,_=>rfl
 | k+1,j=>by
  have ih:=far_own ow sends k
  show(if j=(ow.getD k 0).toNat then _ else(ownK ow sends k).f j).far=(ownL ow k).far j
  by_cases e:j=(ow.getD k 0).toNat
  ·rw [if_pos e,← ih j,← e]
  ·rw [if_neg e];exact ih j
theorem far_way (E:Int→Int→ByteArray→ByteArray) (N Pi slot dir:Int) (st dv:Nat→Int) (z:Nat) (pair:Bool) {v:Wv} {b:Wl} (h:∀ j,(v.f j).far=b.far j) (l:List Int):∀ k j,((wayK E N Pi slot dir st dv v l k).f j).far=(wayL z N dir pair b l k).far j
 | 0,j=>h j
 | k+1,j=>by
  have ih:=far_way E N Pi slot dir st dv z pair h l k
  show(if j=(l.getD k 0).toNat then _ else(wayK E N Pi slot dir st dv v l k).f j).far=(if j=(l.getD k 0).toNat then _ else(wayL z N dir pair b l k).far j)
  by_cases e:j=(l.getD k 0).toNat
  ·rw [if_pos e,if_pos e];rfl
  ·rw [if_neg e,if_neg e];exact ih j
theorem far_run (E:Int→Int→ByteArray→ByteArray) (N Pi slot dir:Int) (st dv:Nat→Int) (z:Nat) (pair:Bool) (ow:List Int) (sends:List ByteArray) (j:Nat):((runF E N Pi slot dir st dv ow sends).f j).far=(runL z N dir pair ow).far j :=
 far_way E N Pi slot dir st dv z pair (far_own ow sends _) _ _ j
theorem fourth (x y i:Nat):∃ z,z < 4∧z≠x∧z≠y∧z≠i:=by
 have:(0≠x∧0≠y∧0≠i)∨(1≠x∧1≠y∧1≠i)∨(2≠x∧2≠y∧2≠i)∨(3≠x∧3≠y∧3≠i):=by omega
 rcases this with h | h | h | h
 ·exact⟨0,by omega,h⟩
 ·exact⟨1,by omega,h⟩
 ·exact⟨2,by omega,h⟩
 ·exact⟨3,by omega,h⟩
theorem fine_far {n z i:Nat} {pair:Bool} {ow:List Int} (F:fineL n z pair ow i=true) (hz:ow.contains (z:Int)=false) (hio:ow.contains (i:Int)=false) (hiz:i≠z):1≤(runL z n 1 pair ow).far i∧1≤(runL z n (-1) pair ow).far i:=by
 unfold fineL at F
 have hiz':(i == z)=false:=by simpa using hiz
 rw [hz,hio,hiz']at F
 simp only [Bool.false_or,Bool.and_eq_true,decide_eq_true_eq]at F
 exact⟨F.1.1.1.1,F.1.1.1.2⟩
theorem own_other {c:NC} (hc:NOk c) {slot:Nat} (hs:slot < c.N+c.ps.length) (i:Nat):∃ z,z < c.N∧z≠i∧(owners c.N c.ps slot).contains (z:Int)=false:=by
 have n0:=hc.cf.n0
 rcases owners_cases hc hs with⟨h,e⟩ | ⟨_,e⟩ | ⟨h,x,hx,e⟩
 ·obtain⟨z,h1,h2,h3,h4⟩:=fourth slot slot i
  refine⟨z,by omega,h4,?_⟩
  rw [e];simp;omega
 ·obtain⟨z,h1,h2,h3,h4⟩:=fourth 0 0 i
  exact⟨z,by omega,h4,by rw [e];rfl⟩
 ·obtain⟨z,h1,h2,h3,h4⟩:=fourth x (((x:Int)+1)%c.N).toNat i
  have q0:0≤((x:Int)+1)%c.N:=Int.emod_nonneg _ (by omega)
  refine⟨z,by omega,h4,?_⟩
  rw [e];simp;omega
theorem own_ways {c:NC} (hc:NOk c) {slot:Nat} (hs:slot < c.N+c.ps.length) (hne:owners c.N c.ps slot≠[]):((slot:Int) < c.N∧∃ x:Nat,x < c.N∧owners c.N c.ps slot=[(x:Int)])∨((c.N:Int)≤slot∧∃ x:Nat,x < c.N∧owners c.N c.ps slot=[(x:Int),((x:Int)+1)%c.N]):=by
 rcases owners_cases hc hs with⟨h,e⟩ | ⟨_,e⟩ | ⟨h,x,hx,e⟩
 ·exact .inl ⟨by omega,slot,h,e⟩
 ·exact absurd e hne
 ·exact .inr ⟨by omega,x,hx,e⟩
theorem pick_at {c:NC} (hc:NOk c) {round slot:Nat} {st:Nat→Nat} {ck:Nat→Int} {sends:List ByteArray} {la lb:Nat} (hr:round≤1000) (hs:slot < c.N+c.ps.length) (hne:owners c.N c.ps slot≠[]) (hS:∀ k,Strm (sends.getD k ⟨#[]⟩)) {i:Nat} (hi:i < c.N) (hni:(owners c.N c.ps slot).contains (i:Int)=false) (wire:Int) :
 PickAt c.N c.ps.length wire slot ((dirF c round st ck slot sends 1 la).f i) ((dirF c round st ck slot sends (-1) lb).f i) (pickG c.N c.ps.length wire slot ((dirF c round st ck slot sends 1 la).f i) ((dirF c round st ck slot sends (-1) lb).f i)):=by
 have n0:=hc.cf.n0
 have n1:=hc.cf.n1
 have hE:=(nok_emit hc round slot hr hs).strm
 have s1:=strmV_run hE (by omega) c.Pi slot 1 (fun i=>st i) (fun i=>devF c round ck la i) (owners c.N c.ps slot) sends hS
 have s2:=strmV_run hE (by omega) c.Pi slot (-1) (fun i=>st i) (fun i=>devF c round ck lb i) (owners c.N c.ps slot) sends hS
 obtain⟨z,hz1,hz2,hz3⟩:=own_other hc hs i
 have F:fineL c.N z (decide ((c.N:Int)≤slot)) (owners c.N c.ps slot) i=true:=by
  have hn:c.N=6∨c.N=7:=by omega
  rcases own_ways hc hs hne with⟨h,x,hx,e⟩ | ⟨h,x,hx,e⟩
  ·rw [e,decide_eq_false (by omega)];exact(fine_of hn hz1 hx hi).1
  ·rw [e,decide_eq_true (by omega)];exact(fine_of hn hz1 hx hi).2
 obtain⟨f1,f2⟩:=fine_far F hz3 hni (Ne.symm hz2)
 refine⟨⟨_,_,_,_,sort_right (s1.o i),sort_right (s2.o i),sort_right (s1.d i),sort_right (s2.d i),rfl⟩,?_,?_⟩
 ·show 1≤((runF _ _ _ _ _ _ _ _ _).f i).far
  rw [far_run _ _ _ _ _ _ _ z (decide ((c.N:Int)≤slot))];exact f1
 ·show 1≤((runF _ _ _ _ _ _ _ _ _).f i).far
  rw [far_run _ _ _ _ _ _ _ z (decide ((c.N:Int)≤slot))];exact f2
end A44
namespace A45
open Go.RowKit A1 A11 A14 A18 A22 A33 A34 A41
def gotL (S:Nat) (g:Option (List (Nat×Nat))):List (Nat×Nat):=g.getD (List.replicate S (0,0))
def GotAt (w:Zw) (v:Value) (S:Nat):Option (List (Nat×Nat))→Prop
 | none=>v=.slice none 0 0
 | some l=>l.length=S∧∃ b C,v=.slice (some ⟨b,0,none⟩) S C∧b < w.heap.size∧Items w (some ⟨b,0,none⟩) l
theorem mk59 (n:Nat) (hn:n≤100) (w:Zw):(Instr.makeSlice 59 (Z Y (n:Int)) (Z Y (n:Int))).run Zp w=.ok (.slice (some ⟨w.heap.size,0,none⟩) n n) (w.alloc (.cells (madeCells #[Z Y 0,Z Y 0] (n*2)) 44)):=by
 obtain⟨i,hi,hz,hs,hb⟩:=info_parts CL.info44
 have:=run_make_n (P:=Zp) 59 44 i _ Tryz.underlying59 hi hz n hn (by omega) w
 rw [hs]at this
 exact this
theorem items_zero {w:Zw} {b n:Nat} (h:w.heap[b]?=some (.cells (madeCells #[Z Y 0,Z Y 0] (n*2)) 44 (0,0))):Items w (some ⟨b,0,none⟩) (List.replicate n (0,0)):=fun k hk=>by
 have hk':k < n:=by simpa using hk
 refine⟨b,0,rfl,heap_lt h,?_,?_⟩
 ·rw [Lib.cell_of_heap h,made_at _ _ _ (by omega)]
  have:(0+k*2)%2=0:=by omega
  rw [List.getD_eq_getElem?_getD,List.getElem?_eq_getElem hk];simp [this]
 ·rw [Lib.cell_of_heap h,made_at _ _ _ (by omega)]
  have:(0+k*2+1)%2=1:=by omega
  rw [List.getD_eq_getElem?_getD,List.getElem?_eq_getElem hk];simp [this]
theorem eq59n (w:Zw):(binOp BinOp.eql 59 (.slice none 0 0) (.slice none 0 0)).run Zp w=.ok (.bool true) w:=by kernel_rfl
theorem eq59s (b S C:Nat) (w:Zw):(binOp BinOp.eql 59 (.slice (some ⟨b,0,none⟩) S C) (.slice none 0 0)).run Zp w=.ok (.bool false) w:=by kernel_rfl
theorem net_echo_some (N NB ND i b S C:Nat) (w:Zw) (hn:w.cell? ⟨NB,18,none⟩=some (.slice (some ⟨ND,0,none⟩) N N)) (hi:i < N) (hg:w.cell? ⟨ND,i*7+5,none⟩=some (.slice (some ⟨b,0,none⟩) S C)) :
 Zc Zp 98 #[.pointer (some ⟨NB,0,none⟩),Z Y i] w fun e w'=>e=.returned (.slice (some ⟨b,0,none⟩) S C)∧w=w':=by
 have i0:(i:Int) < (N:Int):=by omega
 have q:=eq59s b S C
 go_enter Tryz.func98,Tryz.ntmps98
 go_wp2
 go_ret
 exact⟨rfl,rfl⟩
theorem net_echo_nil (c:NC) (NB ND i:Nat) (w:Zw) (hc:NOk c) (hN:NbK w NB c) (hn:w.cell? ⟨NB,18,none⟩=some (.slice (some ⟨ND,0,none⟩) c.N c.N)) (hi:i < c.N) (hg:w.cell? ⟨ND,i*7+5,none⟩=some (.slice none 0 0)) :
 Zc Zp 98 #[.pointer (some ⟨NB,0,none⟩),Z Y i] w fun e w'=>∃ A C,e=.returned (.slice A (c.N+c.ps.length) C)∧Items w' A (List.replicate (c.N+c.ps.length) (0,0))∧(∀ b off,A=some ⟨b,off,none⟩→w.heap.size≤b)∧Zb w.heap.size w w':=by
 have i0:(i:Int) < (c.N:Int):=by omega
 obtain⟨k0,k1,k2,k3,k4,k5,k6,k7,k8,k9,k10,k11,k12,k13,k14,k15,k16⟩:=hN
 have n1:=hc.cf.n1
 have n2:=hc.cf.len
 have HS:=O (fun w=>conf_Slots c.N c.Pi c.Er c.G c.Fi c.PA c.ps.length c.PC w (by omega) (by omega) (by omega))
 have hmk:=fun w=>mk59 (c.N+c.ps.length) (by omega) w
 rw [Int.natCast_add]at hmk
 clear hc
 have q:=eq59n
 go_enter Tryz.func98,Tryz.ntmps98
 go_wp2_with fail
 refine(HS.out _).mono ?_
 rintro e w1 ⟨rfl,hb1⟩
 go_wp2
 go_ret
 exact⟨_,_,rfl,items_zero (Zh w1 _),fun b off h=>by injection h with h;injection h with h _;have:=hb1.size;omega,hb1.alloc hb1.size _⟩
structure QAt (w:Zw) (Q S:Nat) (q:Nat→Option Nat):Prop where
 lt:Q < w.heap.size
 fr:∀ o,w.frozen? ⟨Q,o,none⟩=false
 c0:∀ s,s < S→∃ u,w.cell? ⟨Q,s*5,none⟩=some u∧∀ v,q s=some v→u=Z Y v
 c4:∀ s,s < S→w.cell? ⟨Q,s*5+4,none⟩=some (Z Y (if(q s).isSome then 1 else 0))
 cx:∀ s,s < S→∀ j,j < 5→∃ u,w.cell? ⟨Q,s*5+j,none⟩=some u
theorem QAt.keep {w w1:Zw} {Q S:Nat} {q:Nat→Option Nat} (h:QAt w Q S q) (hs:w.heap.size≤w1.heap.size) (k:w1.heap[Q]?=w.heap[Q]?):QAt w1 Q S q:=by
 have f:∀ o,w1.cell? ⟨Q,o,none⟩=w.cell? ⟨Q,o,none⟩:=fun o=>World.cell?_of_block (a:=⟨Q,o,none⟩) k
 exact⟨Nat.lt_of_lt_of_le h.lt hs,fun o=>(World.frozen?_of_block (w:=w) (a:=⟨Q,o,none⟩) k).trans (h.fr o),fun s hs=>(h.c0 s hs).imp fun u hu=>⟨(f _).trans hu.1,hu.2⟩,fun s hs=>(f _).trans (h.c4 s hs),fun s hs j hj=>(h.cx s hs j hj).imp fun u hu=>(f _).trans hu⟩
theorem QAt.below {w w1:Zw} {Q S:Nat} {q:Nat→Option Nat} (h:QAt w Q S q) (hb:Zb w.heap.size w w1):QAt w1 Q S q:=h.keep hb.size (hb.block Q h.lt)
theorem QAt.but {w w1:Zw} {Q S:Nat} {q:Nat→Option Nat} {T:Nat→Prop} (h:QAt w Q S q) (hb:But T w w1) (hQ:¬ T Q):QAt w1 Q S q:=h.keep hb.size (hb.block Q h.lt hQ)
def took (q:Nat→Option Nat) (s:Nat):Nat→Option Nat:=fun j=>if j=s then none else q j
theorem QAt.next {w w1:Zw} {Q S s:Nat} {q:Nat→Option Nat} (h:QAt w Q S q) (hs:w.heap.size≤w1.heap.size) (h4:w1.cell? ⟨Q,s*5+4,none⟩=some (Z Y 0)) (ho:∀ j,j≠s*5+4→w1.cell? ⟨Q,j,none⟩=w.cell? ⟨Q,j,none⟩) (hf:∀ j,w1.frozen? ⟨Q,j,none⟩=w.frozen? ⟨Q,j,none⟩) :
 QAt w1 Q S (took q s):=by
 refine⟨Nat.lt_of_lt_of_le h.lt hs,fun o=>(hf o).trans (h.fr o),fun j hj=>?_,fun j hj=>?_,fun r hr j hj=>?_⟩
 ·obtain⟨u,h1,h2⟩:=h.c0 j hj
  refine⟨u,(ho _ (by omega)).trans h1,fun v hv=>h2 v ?_⟩
  unfold took at hv
  split at hv
  ·cases hv
  ·exact hv
 ·by_cases e:j=s
  ·subst e;rw [h4];simp [took]
  ·rw [ho _ (by omega),h.c4 j hj];simp [took,e]
 ·by_cases e:r*5+j=s*5+4
  ·exact⟨_,by rw [e];exact h4⟩
  ·rw [ho _ e];exact h.cx r hr j hj
theorem QAt.none {w:Zw} {Q S s:Nat} {q:Nat→Option Nat} (h:QAt w Q S q) (hq:q s=Option.none):QAt w Q S (took q s):=by
 have e:took q s=q:=by
  funext j;unfold took
  split
  ·rename_i e;subst e;exact hq.symm
  ·rfl
 rw [e];exact h
theorem queue_Next (Q S s:Nat) (q:Nat→Option Nat) (w:Zw) (hQ:QAt w Q S q) (hs:s < S) :
 Zc Zp 97 #[.pointer (some ⟨Q,s*5,none⟩)] w fun e w'=>e=.returned (.agg #[Z Y ((if(q s).isSome then 2 else 1:Nat):Int),Z Y (((q s).getD 0:Nat):Int)])∧But (fun x=>x=Q) w w'∧QAt w' Q S (took q s):=by
 have c4:=hQ.c4 s hs
 cases hq:q s with
 | none =>
  rw [hq]at c4
  refine(queue_Next0 Q (s*5) w c4).mono ?_
  rintro e w' ⟨rfl,hb⟩
  exact⟨rfl,But.of_below hb (Zr _),(hQ.none hq).below hb⟩
 | some v =>
  rw [hq]at c4
  obtain⟨u,h1,h2⟩:=hQ.c0 s hs
  rw [h2 v hq]at h1
  refine(queue_Next1 Q (s*5) v w h1 c4 (hQ.fr _)).mono ?_
  rintro e w' ⟨rfl,hb,k4,ko,kf⟩
  exact⟨rfl,hb,hQ.next hb.size k4 ko kf⟩
def frameF (N S wire slot st:Nat) (q:Option Nat) (g:Option (List (Nat×Nat))):Option Fr :=
 if st=4 then some ⟨3,wire,slot,if q.isSome then 2 else 1,q.getD 0,if slot < N then gotL S g else []⟩
 else if st=2∨st=3 then(if slot < N then some ⟨sendsF st,wire,slot,0,0,[]⟩else none)
 else none
def FramePost (o:Option Fr) (Q S:Nat) (q':Nat→Option Nat) (w:Zw) (e:Ending) (w':Zw):Prop :=
 (match o with
 | some f=>∃ EA EC,e=.returned (.tuple #[.agg #[Z Y f.kind,Z Y f.round,Z Y f.slot,Z Y f.pk,Z Y f.pv,.slice EA f.echo.length EC],.bool true])∧Items w' EA f.echo
 | none=>∃ k r s:Int,e=.returned (.tuple #[.agg #[Z Y k,Z Y r,Z Y s,Z Y 0,Z Y 0,.slice none 0 0],.bool false]))∧But (fun x=>x=Q) w w'∧QAt w' Q S q'
end A45
namespace A47
open Go.RowKit A22
structure FrMem (w:Zw) (base p:Nat) (f:Fr):Prop where
 ex:∃ EA EC,w.cell? ⟨p,5,none⟩=some (.slice EA f.echo.length EC)∧Items w EA f.echo∧∀ b off,EA=some ⟨b,off,none⟩→0 < f.echo.length→base≤b
 ge:base≤p
 lt:p < w.heap.size
 c0:w.cell? ⟨p,0,none⟩=some (Z Y f.kind)
 c1:w.cell? ⟨p,1,none⟩=some (Z Y f.round)
 c2:w.cell? ⟨p,2,none⟩=some (Z Y f.slot)
 c3:w.cell? ⟨p,3,none⟩=some (Z Y f.pk)
 c4:w.cell? ⟨p,4,none⟩=some (Z Y f.pv)
def TkMem (w:Zw) (base:Nat) (v:Value):Option Fr→Prop
 | none=>v=.pointer none
 | some f=>∃ p,v=.pointer (some ⟨p,0,none⟩)∧FrMem w base p f
theorem items_keep {w w1:Zw} {A:Option Addr} {l:List (Nat×Nat)} {base:Nat} (h:Items w A l) (hA:∀ b off,A=some ⟨b,off,none⟩→0 < l.length→base≤b) (hs:w.heap.size≤w1.heap.size) (hk:∀ b,base≤b→b < w.heap.size→w1.heap[b]?=w.heap[b]?):Items w1 A l:=fun k hl=>by
 obtain⟨b,off,e,h1,h2,h3⟩:=h k hl
 have hb:=hk b (hA b off e (by omega)) h1
 have f:∀ o,w1.cell? ⟨b,o,none⟩=w.cell? ⟨b,o,none⟩:=fun o=>World.cell?_of_block (a:=⟨b,o,none⟩) hb
 exact⟨b,off,e,Nat.lt_of_lt_of_le h1 hs,(f _).trans h2,(f _).trans h3⟩
theorem FrMem.keep {w w1:Zw} {base p:Nat} {f:Fr} (h:FrMem w base p f) (hs:w.heap.size≤w1.heap.size) (hk:∀ b,base≤b→b < w.heap.size→w1.heap[b]?=w.heap[b]?):FrMem w1 base p f:=by
 have g:∀ o,w1.cell? ⟨p,o,none⟩=w.cell? ⟨p,o,none⟩:=fun o=>World.cell?_of_block (a:=⟨p,o,none⟩) (hk p h.ge h.lt)
 obtain⟨EA,EC,e1,e2,e3⟩:=h.ex
 exact⟨⟨EA,EC,(g 5).trans e1,items_keep e2 e3 hs hk,e3⟩,h.ge,Nat.lt_of_lt_of_le h.lt hs,(g 0).trans h.c0,(g 1).trans h.c1,(g 2).trans h.c2,(g 3).trans h.c3,(g 4).trans h.c4⟩
theorem TkMem.keep {w w1:Zw} {base:Nat} {v:Value} {o:Option Fr} (h:TkMem w base v o) (hs:w.heap.size≤w1.heap.size) (hk:∀ b,base≤b→b < w.heap.size→w1.heap[b]?=w.heap[b]?):TkMem w1 base v o:=by
 cases o with
 | none=>exact h
 | some f=>obtain⟨p,e,hp⟩:=h;exact⟨p,e,hp.keep hs hk⟩
theorem TkMem.below {w w1:Zw} {base:Nat} {v:Value} {o:Option Fr} (h:TkMem w base v o) (hb:Zb w.heap.size w w1):TkMem w1 base v o:=h.keep hb.size (fun b _ hb'=>hb.block b hb')
structure RowMem (w:Zw) (base TB N:Nat) (tk:Nat→Option Fr):Prop where
 ge:base≤TB
 lt:TB < w.heap.size
 each:∀ i,i < N→∃ v,w.cell? ⟨TB,i,none⟩=some v∧TkMem w base v (tk i)
theorem RowMem.keep {w w1:Zw} {base TB N:Nat} {tk:Nat→Option Fr} (h:RowMem w base TB N tk) (hs:w.heap.size≤w1.heap.size) (hk:∀ b,base≤b→b < w.heap.size→w1.heap[b]?=w.heap[b]?):RowMem w1 base TB N tk :=
 ⟨h.ge,Nat.lt_of_lt_of_le h.lt hs,fun i hi=>by
  obtain⟨v,h1,h2⟩:=h.each i hi
  exact⟨v,(World.cell?_of_block (a:=⟨TB,i,none⟩) (hk TB h.ge h.lt)).trans h1,h2.keep hs hk⟩⟩
theorem RowMem.below {w w1:Zw} {base TB N:Nat} {tk:Nat→Option Fr} (h:RowMem w base TB N tk) (hb:Zb w.heap.size w w1):RowMem w1 base TB N tk:=h.keep hb.size (fun b _ hb'=>hb.block b hb')
structure SlotsMem (w:Zw) (base SB S N:Nat) (tk:Nat→Nat→Option Fr):Prop where
 ge:base≤SB
 lt:SB < w.heap.size
 each:∀ s,s < S→∃ TB,w.cell? ⟨SB,s*4+3,none⟩=some (.slice (some ⟨TB,0,none⟩) N N)∧RowMem w base TB N (tk s)
theorem SlotsMem.keep {w w1:Zw} {base SB S N:Nat} {tk:Nat→Nat→Option Fr} (h:SlotsMem w base SB S N tk) (hs:w.heap.size≤w1.heap.size) (hk:∀ b,base≤b→b < w.heap.size→w1.heap[b]?=w.heap[b]?):SlotsMem w1 base SB S N tk :=
 ⟨h.ge,Nat.lt_of_lt_of_le h.lt hs,fun s hs'=>by
  obtain⟨v,h1,h2⟩:=h.each s hs'
  exact⟨v,(World.cell?_of_block (a:=⟨SB,_,none⟩) (hk SB h.ge h.lt)).trans h1,h2.keep hs hk⟩⟩
theorem SlotsMem.below {w w1:Zw} {base SB S N:Nat} {tk:Nat→Nat→Option Fr} (h:SlotsMem w base SB S N tk) (hb:Zb w.heap.size w w1):SlotsMem w1 base SB S N tk:=h.keep hb.size (fun b _ hb'=>hb.block b hb')
theorem self_vote (A:Option Addr) (l:List (Nat×Nat)) (C slot:Nat) (w:Zw) (hl:Items w A l) (h:slot < l.length) :
 Zc Zp 264 #[.agg #[.slice A l.length C],Z Y slot] w fun e w'=>e=.returned (.agg #[.bool true,Z Y (l.getD slot (0,0)).1,Z Y (l.getD slot (0,0)).2])∧Zb w.heap.size w w':=by
 obtain⟨b,off,rfl,hb,c0,c1⟩:=hl slot h
 generalize l.getD slot (0,0)=it at *
 obtain⟨i1,i2⟩:=it
 have i0:(slot:Int) < (l.length:Int):=by omega
 have i9:decide (slot≥l.length)=false:=by simp;omega
 clear hl
 go_enter Tryz.func264,Tryz.ntmps264
 go_wp2
 refine bodyPost_ret (v :=.agg #[.bool true,Z Y i1,Z Y i2]) (by simp [results,Tryz.results264,go_sem]) rfl ⟨rfl,?_⟩
 exact bB
def voteF (slot:Nat):Option Fr→Bool×Nat×Nat
 | none=>(false,0,0)
 | some f=>if f.kind=3 then(true,(f.echo.getD slot (0,0)).1,(f.echo.getD slot (0,0)).2)else(false,0,0)
theorem other_none (slot:Nat) (w:Zw) :
 Zc Zp 265 #[.agg #[.pointer none],Z Y slot] w fun e w'=>e=.returned (.agg #[.bool false,Z Y 0,Z Y 0])∧Zb w.heap.size w w':=by
 go_enter Tryz.func265,Tryz.ntmps265
 go_wp2
 refine bodyPost_ret (v :=.agg #[.bool false,Z Y 0,Z Y 0]) (by simp [results,Tryz.results265,go_sem]) rfl ⟨rfl,?_⟩
 exact bB
theorem other_kind (slot p k:Nat) (w:Zw) (c0:w.cell? ⟨p,0,none⟩=some (Z Y k)) (hk:k≠3) :
 Zc Zp 265 #[.agg #[.pointer (some ⟨p,0,none⟩)],Z Y slot] w fun e w'=>e=.returned (.agg #[.bool false,Z Y 0,Z Y 0])∧Zb w.heap.size w w':=by
 have n0:=World.new_ne w _ c0
 have lp:=Zl w _ c0
 have q:((k:Int) != 3)=true:=by simp;omega
 go_enter Tryz.func265,Tryz.ntmps265
 go_wp2
 refine bodyPost_ret (v :=.agg #[.bool false,Z Y 0,Z Y 0]) (by simp [results,Tryz.results265,go_sem]) rfl ⟨rfl,?_⟩
 exact bB
theorem other_data (slot p b off EC:Nat) (l:List (Nat×Nat)) (i1 i2:Nat) (w:Zw) (c0:w.cell? ⟨p,0,none⟩=some (Z Y 3)) (c5:w.cell? ⟨p,5,none⟩=some (.slice (some ⟨b,off,none⟩) l.length EC)) (h:slot < l.length)
 (k0:w.cell? ⟨b,off+slot*2,none⟩=some (Z Y i1)) (k1:w.cell? ⟨b,off+slot*2+1,none⟩=some (Z Y i2)) :
 Zc Zp 265 #[.agg #[.pointer (some ⟨p,0,none⟩)],Z Y slot] w fun e w'=>e=.returned (.agg #[.bool true,Z Y i1,Z Y i2])∧Zb w.heap.size w w':=by
 have lp:=Zl w _ c0
 have lb:=Zl w _ k0
 have i0:(slot:Int) < (l.length:Int):=by omega
 have i9:decide (slot≥l.length)=false:=by simp;omega
 go_enter Tryz.func265,Tryz.ntmps265
 go_wp2
 refine bodyPost_ret (v :=.agg #[.bool true,Z Y i1,Z Y i2]) (by simp [results,Tryz.results265,go_sem]) rfl ⟨rfl,?_⟩
 exact bB
theorem other_vote (slot base:Nat) (v:Value) (o:Option Fr) (w:Zw) (h:TkMem w base v o) (hl:∀ f,o=some f→f.kind=3→slot < f.echo.length) :
 Zc Zp 265 #[.agg #[v],Z Y slot] w fun e w'=>e=.returned (.agg #[.bool (voteF slot o).1,Z Y (voteF slot o).2.1,Z Y (voteF slot o).2.2])∧Zb w.heap.size w w':=by
 cases o with
 | none=>subst h;exact other_none slot w
 | some f =>
  obtain⟨p,rfl,hp⟩:=h
  by_cases hk:f.kind=3
  ·obtain⟨EA,EC,e1,e2,_⟩:=hp.ex
   have hs:=hl f rfl hk
   obtain⟨b,off,rfl,hb,k0,k1⟩:=e2 slot hs
   have c0:=hp.c0
   rw [hk]at c0
   have:=other_data slot p b off EC f.echo _ _ w c0 e1 hs k0 k1
   simp only [voteF,if_pos hk]
   exact this
  ·have:=other_kind slot p f.kind w hp.c0 hk
   simp only [voteF,if_neg hk]
   exact this
def itemF:Option Fr→Nat×Nat
 | none=>(0,0)
 | some f=>if f.kind=3 then(f.pk,f.pv)else(0,0)
theorem item_none (NB SB TB S N C s i:Nat) (w:Zw) (hs:w.cell? ⟨NB,19,none⟩=some (.slice (some ⟨SB,0,none⟩) S C)) (ht:w.cell? ⟨SB,s*4+3,none⟩=some (.slice (some ⟨TB,0,none⟩) N N)) (hv:w.cell? ⟨TB,i,none⟩=some (.pointer none)) (h1:s < S) (h2:i < N) :
 Zc Zp 70 #[.pointer (some ⟨NB,0,none⟩),Z Y i,Z Y s] w fun e w'=>e=.returned (.agg #[Z Y 0,Z Y 0])∧Zb w.heap.size w w':=by
 have l1:=Zl w _ hs
 have l2:=Zl w _ ht
 have l3:=Zl w _ hv
 have i1:(s:Int) < (S:Int):=by omega
 have i2:(i:Int) < (N:Int):=by omega
 go_enter Tryz.func70,Tryz.ntmps70
 go_wp2
 refine bodyPost_ret (v :=.agg #[Z Y 0,Z Y 0]) (by simp [results,Tryz.results70,go_sem]) rfl ⟨rfl,?_⟩
 exact bB
theorem item_kind (NB SB TB S N C s i p k:Nat) (w:Zw) (hs:w.cell? ⟨NB,19,none⟩=some (.slice (some ⟨SB,0,none⟩) S C)) (ht:w.cell? ⟨SB,s*4+3,none⟩=some (.slice (some ⟨TB,0,none⟩) N N)) (hv:w.cell? ⟨TB,i,none⟩=some (.pointer (some ⟨p,0,none⟩))) (h1:s < S) (h2:i < N)
 (c0:w.cell? ⟨p,0,none⟩=some (Z Y k)) (hk:k≠3) :
 Zc Zp 70 #[.pointer (some ⟨NB,0,none⟩),Z Y i,Z Y s] w fun e w'=>e=.returned (.agg #[Z Y 0,Z Y 0])∧Zb w.heap.size w w':=by
 have l1:=Zl w _ hs
 have l2:=Zl w _ ht
 have l3:=Zl w _ hv
 have l4:=Zl w _ c0
 have i1:(s:Int) < (S:Int):=by omega
 have i2:(i:Int) < (N:Int):=by omega
 have q:((k:Int) != 3)=true:=by simp;omega
 go_enter Tryz.func70,Tryz.ntmps70
 go_wp2
 refine bodyPost_ret (v :=.agg #[Z Y 0,Z Y 0]) (by simp [results,Tryz.results70,go_sem]) rfl ⟨rfl,?_⟩
 exact bB
theorem item_data (NB SB TB S N C s i p pk pv:Nat) (w:Zw) (hs:w.cell? ⟨NB,19,none⟩=some (.slice (some ⟨SB,0,none⟩) S C)) (ht:w.cell? ⟨SB,s*4+3,none⟩=some (.slice (some ⟨TB,0,none⟩) N N)) (hv:w.cell? ⟨TB,i,none⟩=some (.pointer (some ⟨p,0,none⟩))) (h1:s < S) (h2:i < N)
 (c0:w.cell? ⟨p,0,none⟩=some (Z Y 3)) (c3:w.cell? ⟨p,3,none⟩=some (Z Y pk)) (c4:w.cell? ⟨p,4,none⟩=some (Z Y pv)) :
 Zc Zp 70 #[.pointer (some ⟨NB,0,none⟩),Z Y i,Z Y s] w fun e w'=>e=.returned (.agg #[Z Y pk,Z Y pv])∧Zb w.heap.size w w':=by
 have l1:=Zl w _ hs
 have l2:=Zl w _ ht
 have l3:=Zl w _ hv
 have l4:=Zl w _ c0
 have i1:(s:Int) < (S:Int):=by omega
 have i2:(i:Int) < (N:Int):=by omega
 go_enter Tryz.func70,Tryz.ntmps70
 go_wp2
 refine bodyPost_ret (v :=.agg #[Z Y pk,Z Y pv]) (by simp [results,Tryz.results70,go_sem]) rfl ⟨rfl,?_⟩
 exact bB
theorem net_item (NB SB S N C s i base:Nat) (tk:Nat→Nat→Option Fr) (w:Zw) (hs:w.cell? ⟨NB,19,none⟩=some (.slice (some ⟨SB,0,none⟩) S C)) (hS:SlotsMem w base SB S N tk) (h1:s < S) (h2:i < N) :
 Zc Zp 70 #[.pointer (some ⟨NB,0,none⟩),Z Y i,Z Y s] w fun e w'=>e=.returned (.agg #[Z Y (itemF (tk s i)).1,Z Y (itemF (tk s i)).2])∧Zb w.heap.size w w':=by
 obtain⟨TB,ht,hR⟩:=hS.each s h1
 obtain⟨v,hv,hT⟩:=hR.each i h2
 cases ho:tk s i with
 | none =>
  rw [ho]at hT
  rw [hT]at hv
  exact item_none NB SB TB S N C s i w hs ht hv h1 h2
 | some f =>
  rw [ho]at hT
  obtain⟨p,rfl,hp⟩:=hT
  have c0:=hp.c0
  by_cases hk:f.kind=3
  ·simp only [itemF,if_pos hk]
   rw [hk]at c0
   exact item_data NB SB TB S N C s i p _ _ w hs ht hv h1 h2 c0 hp.c3 hp.c4
  ·simp only [itemF,if_neg hk]
   exact item_kind NB SB TB S N C s i p _ w hs ht hv h1 h2 c0 hk
end A47
namespace A48
open Go.RowKit A8 A9 A11 A22 A35 A36 A47
theorem voter_self (N NB ND i:Nat) (GA:Option Addr) (GL GC:Nat) (w:Zw) (hn:w.cell? ⟨NB,18,none⟩=some (.slice (some ⟨ND,0,none⟩) N N)) (hi:i < N) (hg:w.cell? ⟨ND,i*7+5,none⟩=some (.slice GA GL GC)) :
 Zc Zp 112 #[.pointer (some ⟨NB,0,none⟩),Z Y i,Z Y i] w fun e w'=>e=.returned (.iface 244 (.agg #[.slice GA GL GC]))∧w=w':=by
 have i0:(i:Int) < (N:Int):=by omega
 go_enter Tryz.func112,Tryz.ntmps112
 go_wp2
 go_ret
 exact⟨rfl,rfl⟩
theorem voter_other (NB SB S N C i k TB:Nat) (v:Option Addr) (w:Zw) (hs:w.cell? ⟨NB,19,none⟩=some (.slice (some ⟨SB,0,none⟩) S C)) (ht:w.cell? ⟨SB,k*4+3,none⟩=some (.slice (some ⟨TB,0,none⟩) N N)) (hv:w.cell? ⟨TB,i,none⟩=some (.pointer v)) (h1:k < S) (h2:i < N) (hik:i≠k) :
 Zc Zp 112 #[.pointer (some ⟨NB,0,none⟩),Z Y i,Z Y k] w fun e w'=>e=.returned (.iface 246 (.agg #[.pointer v]))∧w=w':=by
 have i0:(i:Int) < (N:Int):=by omega
 have i1:(k:Int) < (S:Int):=by omega
 have q:((i:Int) == (k:Int))=false:=by simp;omega
 go_enter Tryz.func112,Tryz.ntmps112
 go_wp2
 go_ret
 exact⟨rfl,rfl⟩
theorem nil_self (v : Value) (w : World) : (nilAhead 454 244 (.agg #[v]) "plaiting/net.vote").run Tryz.prog w = .ok (some false) w := by kernel_rfl
theorem m_self (v : Value) (w : World) : (method 454 244 (.agg #[v]) "plaiting/net.vote").run Tryz.prog w = .ok (264, .agg #[v]) w := by kernel_rfl
theorem nil_other (v : Value) (w : World) : (nilAhead 454 246 (.agg #[v]) "plaiting/net.vote").run Tryz.prog w = .ok (some false) w := by kernel_rfl
theorem m_other (v : Value) (w : World) : (method 454 246 (.agg #[v]) "plaiting/net.vote").run Tryz.prog w = .ok (265, .agg #[v]) w := by kernel_rfl
def vt (tk:Nat→Nat→Option Fr) (g:List (Nat×Nat)) (i s k:Nat):Bool×Nat×Nat:=if k=i then(true,(g.getD s (0,0)).1,(g.getD s (0,0)).2)else voteF s (tk k i)
def voteCells (f:Nat→Bool×Nat×Nat):Nat→List Value
 | 0=>[]
 | k+1=>voteCells f k ++ [.bool (f k).1,Z Y (f k).2.1,Z Y (f k).2.2]
theorem voteCells_length (f:Nat→Bool×Nat×Nat) (n:Nat):(voteCells f n).length=n*3:=by
 induction n with
 | zero=>rfl
 | succ n ih=>simp [voteCells,ih];omega
theorem voteCells_at (f:Nat→Bool×Nat×Nat) (n i:Nat) (h:i < n):(voteCells f n)[i*3]?=some (.bool (f i).1)∧(voteCells f n)[i*3+1]?=some (Z Y (f i).2.1)∧(voteCells f n)[i*3+2]?=some (Z Y (f i).2.2):=by
 induction n with
 | zero=>omega
 | succ n ih =>
  have hl:=voteCells_length f n
  by_cases e:i=n
  ·subst e
   unfold voteCells
   refine⟨?_,?_,?_⟩
   ·rw [List.getElem?_append_right (by omega),hl];simp
   ·rw [List.getElem?_append_right (by omega),hl,Nat.add_sub_cancel_left];rfl
   ·rw [List.getElem?_append_right (by omega),hl,Nat.add_sub_cancel_left];rfl
  ·obtain⟨h1,h2,h3⟩:=ih (by omega)
   unfold voteCells
   rw [List.getElem?_append_left (by omega),List.getElem?_append_left (by omega),List.getElem?_append_left (by omega)]
   exact⟨h1,h2,h3⟩
theorem info190:(Tryz.prog.info? 190).map (fun i=>(i.zero,i.size,i.bytes))=some (some (.agg #[.bool false,Z Y 0,Z Y 0]),3,24):=by kernel_rfl
theorem add0 (g j:Nat):(⟨g,0,none⟩:Addr).add j=⟨g,j,none⟩:=by
 unfold Addr.add
 by_cases h:j=0 <;> simp [h]
theorem own_below {w w1:Zw} {base e size n:Nat} {v:Value} {xs:List Value} (h:w.ownsRow base e size v n xs) (hb:Zb w.heap.size w w1):w1.ownsRow base e size v n xs:=by
 refine h.kept (row:=none) ⟨hb.os,hb.tape,hb.output,hb.size,fun q hq _=>hb.block q hq⟩ ?_
 cases v.ownBlock with
 | none=>exact .inl rfl
 | some q=>exact .inr (fun e=>by cases e)
theorem own_split {w:Zw} {base e size n:Nat} {v:Value} {xs:List Value} (h:w.ownsRow base e size v n xs):(v=.slice none 0 0∧n=0) ∨
 ∃ g cap,v=.slice (some ⟨g,0,none⟩) n cap∧base≤g∧g < w.heap.size∧n≤cap∧cap≤maxLen∧(∀ j u,xs[j]?=some u→w.cell? ⟨g,j,none⟩=some u)∧∀ o,w.frozen? ⟨g,o,none⟩=false:=by
 rcases h.2 with h0 | ⟨g,cap,cur,rfl,hg,hh,hle,hcap,_,_⟩
 ·exact .inl h0
 ·refine .inr ⟨g,cap,rfl,hg,heap_lt hh,hle,hcap,fun j u hj=>?_,fun o=>blk_frozen hh o⟩
  have:=h.cells (g:=g) rfl j u hj
  rwa [add0]at this
theorem votes_of {w:Zw} {base n:Nat} {v:Value} {f:Nat→Bool×Nat×Nat} (h:w.ownsRow base 190 3 v n (voteCells f n)) (hn:n≤100):∃ A C,v=.slice A n C∧n≤C∧Votes w A n (fun i=>(f i).1) (fun i=>((f i).2.1:Int)) (fun i=>((f i).2.2:Int)):=by
 rcases own_split h with⟨rfl,h0⟩ | ⟨g,cap,rfl,_,_,hle,_,hc,_⟩
 ·subst h0
  exact⟨none,0,rfl,Zr _,by omega,fun i hi=>absurd hi (by omega)⟩
 ·refine⟨some ⟨g,0,none⟩,cap,rfl,hle,by omega,fun i hi=>?_⟩
  obtain⟨h1,h2,h3⟩:=voteCells_at f n i hi
  refine⟨⟨g,0,none⟩,rfl,?_,?_,?_⟩
  ·rw [add0];exact hc _ _ h1
  ·rw [add0];exact hc _ _ h2
  ·rw [add0];exact hc _ _ h3
def lineF (N:Nat) (ps:List Int) (tk:Nat→Nat→Option Fr) (g:List (Nat×Nat)) (i s:Nat):Int×Int :=
 mostFrom (fun j=>(vt tk g i s ((others (owners N ps s) N).getD j 0).toNat).1) (fun j=>((vt tk g i s ((others (owners N ps s) N).getD j 0).toNat).2.1:Int)) (fun j=>((vt tk g i s ((others (owners N ps s) N).getD j 0).toNat).2.2:Int)) (others (owners N ps s) N).length (others (owners N ps s) N).length 0
def lineCells (r:Int) (f:Nat→Int×Int):Nat→List Value
 | 0=>[]
 | s+1=>lineCells r f s ++ [Z Y r,Z Y s,Z Y (f s).1,Z Y (f s).2]
theorem lineCells_length (r:Int) (f:Nat→Int×Int) (n:Nat):(lineCells r f n).length=n*4:=by
 induction n with
 | zero=>rfl
 | succ n ih=>simp [lineCells,ih];omega
theorem others_mem {l:List Int} {n:Nat} {x:Int} (h:x ∈ others l n):0≤x∧x < n:=by
 unfold others at h
 rw [List.mem_filter,List.mem_map]at h
 obtain⟨⟨k,hk,rfl⟩,_⟩:=h
 rw [List.mem_range]at hk
 omega
end A48
namespace A49
open Go.RowKit A1 A8 A9 A18 A22 A36 A41 A47 A48
theorem _root_.Go.Proofs.YtdbempiompiioaaGreat.A47.TkMem.ptr {w:Zw} {base:Nat} {v:Value} {o:Option Fr} (h:TkMem w base v o):∃ p,v=.pointer p:=by
 cases o with
 | none=>exact⟨none,h⟩
 | some f=>obtain⟨p,e,_⟩:=h;exact⟨_,e⟩
theorem voter_both (NB SB S N C i k s base:Nat) (tk:Nat→Nat→Option Fr) (w:Zw) (hs:w.cell? ⟨NB,19,none⟩=some (.slice (some ⟨SB,0,none⟩) S C)) (hS:SlotsMem w base SB S N tk) (h1:k < S) (h2:i < N) (hik:i≠k) (hl:∀ f,tk k i=some f→f.kind=3→s < f.echo.length) :
 ∃ v:Option Addr,Zc Zp 112 #[.pointer (some ⟨NB,0,none⟩),Z Y i,Z Y k] w (fun e w''=>e=.returned (.iface 246 (.agg #[.pointer v]))∧w=w'') ∧
  Zc Zp 265 #[.agg #[.pointer v],Z Y s] w (fun e w''=>e=.returned (.agg #[.bool (voteF s (tk k i)).1,Z Y (voteF s (tk k i)).2.1,Z Y (voteF s (tk k i)).2.2])∧Zb w.heap.size w w''):=by
 obtain⟨TB,ht,hR⟩:=hS.each k h1
 obtain⟨v,hv',hT⟩:=hR.each i h2
 obtain⟨v,rfl⟩:=hT.ptr
 exact⟨v,voter_other NB SB S N C i k TB v w hs ht hv' h1 h2 hik,other_vote s base (.pointer v) (tk k i) w hT hl⟩
theorem net_lines (c:NC) (NB LO ND SB SC round i gb GC base:Nat) (tk:Nat→Nat→Option Fr) (g:List (Nat×Nat)) (w:Zw) (hc:NOk c) (hN:NbK w NB c) (hL:LowK w LO c)
 (hr:w.cell? ⟨NB,17,none⟩=some (Z Y round)) (hn:w.cell? ⟨NB,18,none⟩=some (.slice (some ⟨ND,0,none⟩) c.N c.N)) (hs:w.cell? ⟨NB,19,none⟩=some (.slice (some ⟨SB,0,none⟩) (c.N+c.ps.length) SC)) (hS:SlotsMem w base SB (c.N+c.ps.length) c.N tk)
 (hg:w.cell? ⟨ND,i*7+5,none⟩=some (.slice (some ⟨gb,0,none⟩) (c.N+c.ps.length) GC)) (hI:Items w (some ⟨gb,0,none⟩) g) (hgl:g.length=c.N+c.ps.length) (hi:i < c.N) (hr1:1≤round) (hr2:round≤900)
 (hv:∀ k s f,k < c.N→s < c.N+c.ps.length→k≠i→tk k i=some f→f.kind=3→s < f.echo.length) :
 Zc Zp 69 #[.pointer (some ⟨NB,0,none⟩),Z Y i] w fun e w'=>∃ v,e=.returned v∧w'.ownsRow w.heap.size 48 4 v (c.N+c.ps.length) (lineCells ((round:Int)-1) (lineF c.N c.ps tk g i) (c.N+c.ps.length))∧Zb w.heap.size w w':=by
 have n0:=hc.cf.n0
 have n1:=hc.cf.n1
 have n2:=hc.cf.len
 have HSl:=O (fun w=>conf_Slots c.N c.Pi c.Er c.G c.Fi c.PA c.ps.length c.PC w (by omega) (by omega) (by omega))
 rw [← Int.natCast_add]at HSl
 have lNB:=Zl w _ hr
 have lND:=Zl w _ hg
 have HVo:=O (fun(w':Zw) (hb:Zb w.heap.size w w') (s:Nat) (hs:s < c.N+c.ps.length)=>Voters c.N c.Pi c.Er c.G c.Fi c.PA c.ps c.PC s w' hc.cf (hL.ps.below hb) (by omega) (by omega))
 have HVs:=O (fun(w':Zw) (hb:Zb w.heap.size w w')=>voter_self c.N NB ND i _ _ _ w' (keep_of hn lNB hb) hi (keep_of hg lND hb))
 have HIs:=O (fun(w':Zw) (s:Nat) (hs:s < c.N+c.ps.length) (hb:Zb w.heap.size w w')=>self_vote _ g GC s w' (hI.below hb) (by omega))
 rw [hgl]at HIs
 have HVx:=O (fun(w':Zw) (s k:Nat) (hs':s < c.N+c.ps.length) (hk:k < c.N) (hki:k≠i) (hb:Zb w.heap.size w w')=>voter_both NB SB (c.N+c.ps.length) c.N SC i k s base tk w' (keep_of hs (Zl w _ hs) hb) (hS.below hb) (by omega) hi (fun e=>hki e.symm) (fun f hf h3=>hv k s f hk hs' hki hf h3))
 obtain⟨k0,k1,k2,k3,k4,k5,k6,k7,k8,k9,k10,k11,k12,k13,k14,k15,k16⟩:=hN
 obtain⟨j0,hi0,hz0,hz1,hz2⟩:=info_parts info190
 have HI0:=O hi0
 have HZ0:=O (And.intro hz0 (And.intro hz1 hz2))
 obtain⟨j1,hi1,hz0',hz1',hz2'⟩:=info_parts CL.info48
 have HI1:=O hi1
 have HZ1:=O (And.intro hz0' (And.intro hz1' hz2'))
 have i0:(i:Int) < (c.N:Int):=by omega
 clear hi0 hz0 hz1 hz2 hi1 hz0' hz1' hz2' hc hL hS hI hgl hv hn hs hg k6 k7 k8 k9 k10 k11 k12 k13 k14 k15 k16
 generalize hSS:c.N+c.ps.length=S at *
 have hS15:S≤15:=by omega
 clear hSS
 go_enter Tryz.func69,Tryz.ntmps69
 go_wp2_with fail
 refine(HSl.out _).mono ?_
 rintro e w1 ⟨rfl,hb1⟩
 have HB1:=O hb1
 clear hb1
 go_wp2_with fail
 go_loopw [5,15] (fun v t wr=>∃ s:Nat,s≤S∧t=Z Y s∧wr.ownsRow w.heap.size 48 4 v s (lineCells ((round:Int)-1) (lineF c.N c.ps tk g i) s)∧Zb w.heap.size w wr) (fun _ t _=>S-(intOf t).toNat)
 case atStart=>exact⟨0,by omega,rfl,World.ownsRow_nil _ _ _ _,HB1.out⟩
 case round =>
  obtain⟨s,hs,rfl,hown,hbr⟩:=hrel
  by_cases hlt:s < S
  ·have ls:(s:Int) < (S:Int):=by omega
   have HB:=O hbr
   have HO:=O hown
   have hk:=fun j v (h:w.cell? ⟨NB,j,none⟩=some v)=>keep_of h lNB hbr
   have m0:=hk _ _ k0
   have m1:=hk _ _ k1
   have m2:=hk _ _ k2
   have m3:=hk _ _ k3
   have m4:=hk _ _ k4
   have m5:=hk _ _ k5
   have mr:=hk _ _ hr
   have HV:=O (HVo.out wr hbr s hlt)
   have HLs:=O (show lineF c.N c.ps tk g i s=mostFrom (fun j=>(vt tk g i s ((others (owners c.N c.ps s) c.N).getD j 0).toNat).1) (fun j=>((vt tk g i s ((others (owners c.N c.ps s) c.N).getD j 0).toNat).2.1:Int)) (fun j=>((vt tk g i s ((others (owners c.N c.ps s) c.N).getD j 0).toNat).2.2:Int)) (others (owners c.N c.ps s) c.N).length (others (owners c.N c.ps s) c.N).length 0 from rfl)
   have hll:=others_le (owners c.N c.ps s) c.N
   have hlm:∀ x,x ∈ others (owners c.N c.ps s) c.N→0≤x∧x < c.N:=fun x hx=>others_mem hx
   rw [Int.toNat_natCast]at HV
   generalize others (owners c.N c.ps s) c.N=l at *
   have HLm:=O hlm
   clear hbr hown hk hlm
   go_wp2_with fail
   refine HV.out.mono ?_
   rintro e w2 ⟨vv,rfl,hown2,hb2⟩
   obtain⟨RA,RC,rfl,hRI,_⟩:=ints_of_own hown2
   have HRI:=O hRI
   have HB2:=O (HB.out.trans (hb2.mono HB.out.size))
   have HO2:=O (own_below HO.out hb2)
   have mr2:=keep_of mr (Nat.lt_of_lt_of_le lNB HB.out.size) hb2
   clear hown2 hRI hb2 HV HO m0 m1 m2 m3 m4 m5 mr
   go_wp2_with fail
   go_loopw [7,25] (fun v t wq=>∃ j:Nat,j≤l.length∧t=Z Y j∧wq.ownsRow w2.heap.size 190 3 v j (voteCells (fun j=>vt tk g i s (l.getD j 0).toNat) j)∧Zb w2.heap.size w2 wq) (fun _ t _=>l.length-(intOf t).toNat)
   case atStart=>exact⟨0,by omega,rfl,World.ownsRow_nil _ _ _ _,Zf _ _⟩
   case round =>
    obtain⟨j,hj,rfl,hownj,hbj⟩:=hrel
    have HBj:=O hbj
    have HBw:=O (HB2.out.trans (hbj.mono HB2.out.size))
    by_cases hltj:j < l.length
    ·obtain⟨eb,eo,rfl,hel,hce⟩:=(HRI.out.below hbj) j hltj
     have hkm:=HLm.out _ (getD_mem hltj)
     have HVC0:=O (show voteCells (fun j=>vt tk g i s (l.getD j 0).toNat) (j+1)=voteCells (fun j=>vt tk g i s (l.getD j 0).toNat) j ++ [.bool (vt tk g i s (l.getD j 0).toNat).1,Z Y (vt tk g i s (l.getD j 0).toNat).2.1,Z Y (vt tk g i s (l.getD j 0).toNat).2.2]from rfl)
     obtain⟨k,hk⟩:∃ k:Nat,l.getD j 0=(k:Int):=⟨(l.getD j 0).toNat,by omega⟩
     rw [hk]at hce hkm
     have HVC1:=O (show voteCells (fun j=>vt tk g i s (l.getD j 0).toNat) (j+1)=voteCells (fun j=>vt tk g i s (l.getD j 0).toNat) j ++ [.bool (vt tk g i s k).1,Z Y (vt tk g i s k).2.1,Z Y (vt tk g i s k).2.2]from by rw [HVC0.out,hk,Int.toNat_natCast])
     have lj:(j:Int) < (l.length:Int):=by omega
     have HOj:=O hownj
     have hkN:k < c.N:=by omega
     clear HVC0 hk hownj hbj hkm
     by_cases hki:k=i
     ·subst hki
      have HVC:=O (show voteCells (fun j=>vt tk g k s (l.getD j 0).toNat) (j+1)=voteCells (fun j=>vt tk g k s (l.getD j 0).toNat) j ++ [.bool true,Z Y (g.getD s (0,0)).1,Z Y (g.getD s (0,0)).2]from by rw [HVC1.out];unfold vt;rw [if_pos rfl])
      have hm1:=m_self (.slice (some ⟨gb,0,none⟩) S GC)
      have hm2:=nil_self (.slice (some ⟨gb,0,none⟩) S GC)
      clear HVC1
      go_wp2_with fail
      refine(HVs.out _ HBw.out).mono ?_
      rintro e w3 ⟨rfl,rfl⟩
      go_wp2_with fail
      refine(HIs.out _ s hlt HBw.out).mono ?_
      rintro e w4 ⟨rfl,hb4⟩
      have HB4:=O (HBj.out.trans (hb4.mono HBj.out.size))
      have hz4:=HB4.out.size
      have HOw:=O (own_below HOj.out hb4)
      clear hb4 hm1 hm2
      go_wp2_with (at_builtin;refine wpList_append_own _ rfl _ _ 188 rfl w2.heap.size 190 j0 (.agg #[.bool false,Z Y 0,Z Y 0]) 3 24 Tryz.underlying188 HI0.out HZ0.out.1 HZ0.out.2.1 HZ0.out.2.2 rfl (by decide) _ _ _ rfl (HOw.out.alloc _) ⟨w4.heap.size,0,none⟩ 1 1 [.bool true,Z Y (g.getD s (0,0)).1,Z Y (g.getD s (0,0)).2] rfl rfl ?c1 ?c2 ?c3 ?c4 ?c5 ?_)
      case c1=>exact World.news_of_block (cs:=#[.bool true,Z Y (g.getD s (0,0)).1,Z Y (g.getD s (0,0)).2]) (t:=190) (fr:=(0,0)) (Zh w4 _)
      case c2=>simp [Value.oneCell']
      case c3=>unfold maxLen;omega
      case c4=>omega
      case c5=>simp;omega
      intro v' w5 hown5 hgrow _
      have hb5:Zb w2.heap.size w2 w5:=(HB4.out.alloc HB4.out.size _).grown hgrow (by simp;omega) (fun q hq=>ownsRow_block HOw.out hq)
      have HB5:=O hb5
      have HO5:=O hown5
      clear hgrow hb5 hown5
      go_wp2
      go_roundw
      case rel=>exact⟨j+1,by omega,by go_num,by rw [HVC.out];simpa using HO5.out,HB5.out⟩
      case measure=>simp [intOf];omega
     ·have HVC:=O (show voteCells (fun j=>vt tk g i s (l.getD j 0).toNat) (j+1)=voteCells (fun j=>vt tk g i s (l.getD j 0).toNat) j ++ [.bool (voteF s (tk k i)).1,Z Y (voteF s (tk k i)).2.1,Z Y (voteF s (tk k i)).2.2]from by rw [HVC1.out];unfold vt;rw [if_neg hki])
      obtain⟨pv,hc1,hc2⟩:=HVx.out _ s k hlt hkN hki HBw.out
      have HC1:=O hc1
      have HC2:=O hc2
      have hm1:=m_other (.pointer pv)
      have hm2:=nil_other (.pointer pv)
      clear HVC1 hc1 hc2
      go_wp2_with fail
      refine HC1.out.mono ?_
      rintro e w3 ⟨rfl,rfl⟩
      go_wp2_with fail
      refine HC2.out.mono ?_
      rintro e w4 ⟨rfl,hb4⟩
      have HB4:=O (HBj.out.trans (hb4.mono HBj.out.size))
      have hz4:=HB4.out.size
      have HOw:=O (own_below HOj.out hb4)
      clear hb4 hm1 hm2
      go_wp2_with (at_builtin;refine wpList_append_own _ rfl _ _ 188 rfl w2.heap.size 190 j0 (.agg #[.bool false,Z Y 0,Z Y 0]) 3 24 Tryz.underlying188 HI0.out HZ0.out.1 HZ0.out.2.1 HZ0.out.2.2 rfl (by decide) _ _ _ rfl (HOw.out.alloc _) ⟨w4.heap.size,0,none⟩ 1 1 [.bool (voteF s (tk k i)).1,Z Y (voteF s (tk k i)).2.1,Z Y (voteF s (tk k i)).2.2] rfl rfl ?c1 ?c2 ?c3 ?c4 ?c5 ?_)
      case c1=>exact World.news_of_block (cs:=#[.bool (voteF s (tk k i)).1,Z Y (voteF s (tk k i)).2.1,Z Y (voteF s (tk k i)).2.2]) (t:=190) (fr:=(0,0)) (Zh w4 _)
      case c2=>simp [Value.oneCell']
      case c3=>unfold maxLen;omega
      case c4=>omega
      case c5=>simp;omega
      intro v' w5 hown5 hgrow _
      have hb5:Zb w2.heap.size w2 w5:=(HB4.out.alloc HB4.out.size _).grown hgrow (by simp;omega) (fun q hq=>ownsRow_block HOw.out hq)
      have HB5:=O hb5
      have HO5:=O hown5
      clear hgrow hb5 hown5
      go_wp2
      go_roundw
      case rel=>exact⟨j+1,by omega,by go_num,by rw [HVC.out];simpa using HO5.out,HB5.out⟩
      case measure=>simp [intOf];omega
    ·obtain rfl:j=l.length:=by omega
     obtain⟨VA,VC,rfl,hle,hVt⟩:=votes_of hownj (by omega)
     have hmf:mostFrom (fun j=>(vt tk g i s (l.getD j 0).toNat).1) (fun j=>((vt tk g i s (l.getD j 0).toNat).2.1:Int)) (fun j=>((vt tk g i s (l.getD j 0).toNat).2.2:Int)) l.length l.length 0=((lineF c.N c.ps tk g i s).1,(lineF c.N c.ps tk g i s).2):=by rw [← HLs.out]
     have HMo:=O (fun w' hb=>most_any VA l.length VC _ _ _ w' (hVt.below hb) hle _ _ hmf)
     have mrq:=keep_of mr2 (Nat.lt_of_lt_of_le lNB HB2.out.size) hbj
     have HOq:=O (own_below HO2.out hbj)
     have e1:IntKind.i64.wrap ((round:Int)-1)=(round:Int)-1:=by rw [IntKind.wrap_i64];omega
     have HLC:=O (show lineCells ((round:Int)-1) (lineF c.N c.ps tk g i) (s+1)=lineCells ((round:Int)-1) (lineF c.N c.ps tk g i) s ++ [Z Y ((round:Int)-1),Z Y s,Z Y (lineF c.N c.ps tk g i s).1,Z Y (lineF c.N c.ps tk g i s).2]from rfl)
     generalize (lineF c.N c.ps tk g i s).1=r1 at *
     generalize (lineF c.N c.ps tk g i s).2=r2 at *
     clear hownj hVt hmf hbj HVs HIs HVx HVo
     go_wp2_with fail
     refine wp_region_held_drew (S:=fun w'=>w'.cell? ⟨NB,17,none⟩=some (Z Y round)) (by kernel_rfl) mrq (fun hHeld=>?_)
     refine rgT 0 ?_
     refine rgT 1 ?_
     refine rgT 2 ?_
     refine rgT 3 ?_
     refine rgT 4 ?_
     refine rgT 5 ?_
     refine rgT 6 ?_
     refine rgT 7 ?_
     refine rgR 8 fun K hK=>?_
     go_simp
     refine(HMo.out _ (Zf _ _).drew).mono ?_
     rintro e w4 ⟨rfl,hb4⟩
     have HO4:=O (own_below HOq.out.drew hb4)
     have mr4:=keep_of (w:=World.drew _) mrq (Nat.lt_of_lt_of_le lNB HBw.out.size) hb4
     have HB4:=O (HBw.out.trans (Below.mono (show Zb (World.heap _).size _ w4 from⟨hb4.os,hb4.tape,hb4.output,hb4.size,hb4.block⟩) HBw.out.size))
     have hz4:=HB4.out.size
     clear hb4 mrq mr2
     go_simp
     refine hK.out _ _ mr4 (fun hHeld=>?_)
     clear hK K
     refine rgT 9 ?_
     refine rgR 10 fun K hK=>?_
     go_simp
     refine hK.out _ _ (keep_of mr4 (by omega) ((Zf _ _).alloc (Zr _) _)) (fun hHeld=>?_)
     clear hK K
     refine rgR 11 fun K hK=>?_
     refine step_append_lies _ (by rfl) _ _ _ (by rfl) w.heap.size 48 j1 (.agg #[Z Y 0,Z Y 0,Z Y 0,Z Y 0]) 4 32 Tryz.underlying45 HI1.out HZ1.out.1 HZ1.out.2.1 HZ1.out.2.2 rfl (by omega) _ s (lineCells ((round:Int)-1) (lineF c.N c.ps tk g i) s) (by rfl) (HO4.out.alloc _) ⟨w4.heap.size,0,none⟩ 1 1 [Z Y ((round:Int)-1),Z Y s,Z Y r1,Z Y r2] (by rfl) (by rfl) (World.news_of_block (cs:=#[Z Y ((round:Int)-1),Z Y s,Z Y r1,Z Y r2]) (t:=48) (fr:=(0,0)) (Zh w4 _)) (by simp [Value.oneCell']) (by omega) (by unfold maxLen;omega) (by omega) (by simp;omega) (w4.heap.size+1) (by simp) ?_
     intro gg cap w5 hown5 hgrow hat hlt5
     have hB5:Zb w.heap.size w w5:=(HB4.out.alloc hz4 _).grown hgrow (by simp;omega) (fun q hq=>ownsRow_block HO4.out hq)
     have HB5:=O hB5
     have HO5:=O hown5
     have mr5:=keep_of hr lNB hB5
     clear hgrow hown5 hB5 hat
     refine hK.out _ _ mr5 (fun hHeld=>?_)
     clear hK K
     try simp only [Act.put,List.getElem_toArray,List.getElem_cons_succ,List.getElem_cons_zero,List.setIfInBounds_toArray,List.set_cons_zero,List.set_cons_succ]
     refine rgT 12 ?_
     refine wpAnyH_done (by kernel_rfl) ?_ _
     go_wp2
     go_roundw
     case rel=>exact⟨s+1,by omega,by go_num,by rw [HLC.out];exact HO5.out,HB5.out⟩
     case measure=>simp [intOf];omega
  ·obtain rfl:s=S:=by omega
   have HO:=O hown
   have HB:=O hbr
   clear hown hbr
   go_wp2
   go_ret
   exact⟨_,rfl,HO.out,HB.out⟩
end A49
namespace A8b
open Go.RowKit A1 A4 A8
def RetInts2 (w:Zw) (l:List Int) (e:Ending) (w':Zw):Prop:=∃ A C,e=.returned (.slice A l.length C)∧Ints w' A l∧l.length≤C∧(∀ b off,A=some ⟨b,off,none⟩→w.heap.size≤b)∧Zb w.heap.size w w'
theorem RetInts2.nil {w w':Zw} (h:Zb w.heap.size w w'):RetInts2 w [] (.returned (.slice none 0 0)) w':=⟨none,0,rfl,fun k hk=>absurd hk (by simp),Zr _,(fun b off e=>by cases e),h⟩
theorem Owners_node2 (N Pi Er G Fi:Int) (PA:Option Addr) (ps:List Int) (PC:Nat) (slot:Int) (w:Zw) (hc:CfOk N Pi Er G Fi ps) (h0:0≤slot) (h1:slot < N) :
 Zc Zp 58 #[.agg #[Z Y N,Z Y Pi,Z Y Er,Z Y G,Z Y Fi,.slice PA ps.length PC],Z Y slot] w (RetInts2 w [slot]):=by
 have n0:=hc.n0
 have n1:=hc.n1
 have d1:decide (slot < 0)=false:=by simp;omega
 have d2:decide (slot-N≥ps.length)=false:=by simp;omega
 have d3:decide (slot-N < 0)=true:=by simp;omega
 go_enter Tryz.func58,Tryz.ntmps58
 go_wp2
 go_ret
 refine⟨some ⟨w.heap.size+1,0,none⟩,1,rfl,?_,by simp,fun b off e=>by injection e with e;injection e with e _;omega,by repeat(first | exact Zf _ _ | refine Below.alloc ?_ (by simp;try omega) _)⟩
 intro k hk
 obtain rfl:k=0:=by simpa using hk
 refine⟨_,_,rfl,by simp,?_⟩
 go_simp
theorem Owners_none2 (N Pi Er G Fi:Int) (b off:Nat) (ps:List Int) (PC:Nat) (slot:Int) (w:Zw) (hc:CfOk N Pi Er G Fi ps) (hk:N≤slot) (hk2:slot-N < ps.length) (hcell:w.cell? ⟨b,off+(slot-N).toNat,none⟩=some (Z Y (-1))) (hb:b < w.heap.size) :
 Zc Zp 58 #[.agg #[Z Y N,Z Y Pi,Z Y Er,Z Y G,Z Y Fi,.slice (some ⟨b,off,none⟩) ps.length PC],Z Y slot] w (RetInts2 w []):=by
 have n0:=hc.n0
 have n1:=hc.n1
 have n2:=hc.len
 have d1:decide (slot < 0)=false:=by simp;omega
 have d2:decide (slot-N≥ps.length)=false:=by simp;omega
 have d3:decide (slot-N < 0)=false:=by simp;omega
 go_enter Tryz.func58,Tryz.ntmps58
 go_wp2
 go_ret
 exact RetInts2.nil (by repeat(first | exact Zf _ _ | refine Below.alloc ?_ (by simp;try omega) _))
theorem Owners_pair2 (N Pi Er G Fi:Int) (b off:Nat) (ps:List Int) (PC:Nat) (slot a:Int) (w:Zw) (hc:CfOk N Pi Er G Fi ps) (hk:N≤slot) (hk2:slot-N < ps.length) (hcell:w.cell? ⟨b,off+(slot-N).toNat,none⟩=some (Z Y a)) (hb:b < w.heap.size) (ha:0≤a) (ha2:a < N) :
 Zc Zp 58 #[.agg #[Z Y N,Z Y Pi,Z Y Er,Z Y G,Z Y Fi,.slice (some ⟨b,off,none⟩) ps.length PC],Z Y slot] w (RetInts2 w [a,(a+1)%N]):=by
 have n0:=hc.n0
 have n1:=hc.n1
 have n2:=hc.len
 have d1:decide (slot < 0)=false:=by simp;omega
 have d2:decide (slot-N≥ps.length)=false:=by simp;omega
 have d3:decide (slot-N < 0)=false:=by simp;omega
 have d4:(a == -1)=false:=beq_eq_false_iff_ne.mpr (by omega)
 have d7:¬ N=0:=by omega
 have e1:IntKind.i64.wrap (a+1)=a+1:=by rw [IntKind.wrap_i64];omega
 have e2:(a+1).tmod N=(a+1)%N:=Int.tmod_eq_emod_of_nonneg (by omega)
 have d5:decide (N≤0)=false:=by simp;omega
 go_enter Tryz.func58,Tryz.ntmps58
 go_wp2
 go_region_held3 (fun w'=>w'.cell? ⟨b,off+(slot-N).toNat,none⟩=some (Z Y a)∧w'.cell? ⟨w.heap.size,0,none⟩=some (Z Y N)∧w'.cell? ⟨w.heap.size,5,none⟩=some (.slice (some ⟨b,off,none⟩) ps.length PC)) (go_keep) (fail)
 go_wp2
 go_ret
 refine⟨some ⟨w.heap.size+1,0,none⟩,2,rfl,?_,by simp,fun b off e=>by injection e with e;injection e with e _;omega,by repeat(first | exact Zf _ _ | refine Below.drew ?_ | refine below_drewN ?_ _ | refine Below.alloc ?_ (by simp;try omega) _)⟩
 intro k hk
 rcases(by simpa using hk:k < 2)with _
 match k,hk with
 | 0,_=>exact⟨_,_,rfl,by simp,by go_simp⟩
 | 1,_=>exact⟨_,_,rfl,by simp,by go_simp⟩
theorem Owners2 (N Pi Er G Fi:Int) (PA:Option Addr) (ps:List Int) (PC:Nat) (slot:Int) (w:Zw) (hc:CfOk N Pi Er G Fi ps) (hl:Ints w PA ps) (h0:0≤slot) (h1:slot < N+ps.length) :
 Zc Zp 58 #[.agg #[Z Y N,Z Y Pi,Z Y Er,Z Y G,Z Y Fi,.slice PA ps.length PC],Z Y slot] w (RetInts2 w (owners N ps slot)):=by
 by_cases h:slot < N
 ·rw [owners_node h]
  exact Owners_node2 N Pi Er G Fi PA ps PC slot w hc h0 h
 ·have hk:(slot-N).toNat < ps.length:=by omega
  obtain⟨b,off,rfl,hb,hcell⟩:=hl _ hk
  have he:=hc.each _ hk
  have hg:ps.getD (slot-N).toNat (-1)=ps.getD (slot-N).toNat 0:=by
   rw [List.getD_eq_getElem?_getD,List.getD_eq_getElem?_getD,List.getElem?_eq_getElem hk]
   rfl
  unfold owners
  rw [if_neg h,hg]
  by_cases hn:ps.getD (slot-N).toNat 0 = -1
  ·rw [if_pos hn]
   rw [hn]at hcell
   exact Owners_none2 N Pi Er G Fi b off ps PC slot w hc (by omega) (by omega) hcell hb
  ·rw [if_neg hn]
   exact Owners_pair2 N Pi Er G Fi b off ps PC slot _ w hc (by omega) (by omega) hcell hb (by omega) (by omega)
end A8b
namespace A67
open Go.RowKit A1 D19
theorem fault_places (N Pi Er G Fi:Int) (PA:Option Addr) (PL PC:Nat) (kind:Int) (w:Zw) (hk:kind=0∨kind=1) (hN:6≤N) (hN2:N≤7) :
 Zc Zp 90 #[.agg #[Z Y N,Z Y Pi,Z Y Er,Z Y G,Z Y Fi,.slice PA PL PC],Z Y kind] w fun e w'=>e=.returned (Z Y (if kind=1 then N else 1))∧Zb w.heap.size w w':=by
 rcases hk with rfl | rfl
 ·go_enter Tryz.func90,Tryz.ntmps90
  go_wp2
  go_ret
  exact⟨rfl,(Zf _ _).alloc (Zr _) _⟩
 ·go_enter Tryz.func90,Tryz.ntmps90
  go_wp2
  go_ret
  exact⟨rfl,(Zf _ _).alloc (Zr _) _⟩
theorem act_each (how n:Int) (t:ByteArray) (w:Zw) (ht:t.size≤1000):Zc Zp 92 #[.agg #[Z Y how,Z Y n,.string t]] w fun e w'=>e=.returned (.bool false)∧Zb w.heap.size w w':=by
 have d:decide ((1000:Int) < (t.size:Int))=false:=by simp;omega
 have d2:decide ((t.size:Int) > 1000)=false:=by simp;omega
 go_enter Tryz.func92,Tryz.ntmps92
 go_wp2
 go_ret
 exact⟨rfl,bB⟩
theorem index_acts (A:Option Addr) (l:List Ac) (C:Nat) (w:Zw) (hl:Acs w A l) (hlen:l.length≤100) (hv:∀ k,k < l.length→(l.getD k Ac.no).t.size≤1000) :
 Zc Zp 141 #[.slice A l.length C,.func (Fn.func 92) #[] #[]] w fun e w'=>e=.returned (Z Y (-1))∧Zb w.heap.size w w':=by
 have HL:=O hl
 have HV:=O hv
 clear hl hv
 go_enter Tryz.func141,Tryz.ntmps141
 go_wp2
 go_loopw [8] (fun t wr=>∃ k:Nat,k≤l.length∧t=Z Y k∧Zb w.heap.size w wr) (fun t _=>l.length-(intOf t).toNat)
 case atStart=>exact⟨0,Nat.zero_le _,rfl,Zf _ _⟩
 case round =>
  obtain⟨k,hk,rfl,hb⟩:=hrel
  have HB:=O hb
  by_cases hlt:k < l.length
  ·have lk:(k:Int) < (l.length:Int):=by omega
   obtain⟨b,off,rfl,hbl,e0,e1,e2⟩:=(HL.out.below hb) k hlt
   have HC:=O (fun w=>act_each (l.getD k Ac.no).how (l.getD k Ac.no).n (l.getD k Ac.no).t w (HV.out k hlt))
   generalize l.getD k Ac.no=x at *
   obtain⟨xr,xn,xt⟩:=x
   dsimp only at e0 e1 e2 HC
   clear hb HL
   go_wp2_with fail
   refine(HC.out _).mono ?_
   rintro e w2 ⟨rfl,hb2⟩
   go_wp2
   go_roundw
   case rel=>exact⟨k+1,by omega,by go_num,HB.out.trans (hb2.mono HB.out.size)⟩
   case measure=>simp [intOf];omega
  ·obtain rfl:k=l.length:=by omega
   clear hb
   go_wp2
   go_ret
   exact⟨rfl,HB.out⟩
theorem contains_acts (A:Option Addr) (l:List Ac) (C:Nat) (w:Zw) (hl:Acs w A l) (hlen:l.length≤100) (hv:∀ k,k < l.length→(l.getD k Ac.no).t.size≤1000) :
 Zc Zp 91 #[.slice A l.length C,.func (Fn.func 92) #[] #[]] w fun e w'=>e=.returned (.bool false)∧Zb w.heap.size w w':=by
 have H:=O (index_acts A l C w hl hlen hv)
 clear hl hv
 go_enter Tryz.func91,Tryz.ntmps91
 go_wp2_with fail
 refine H.out.mono ?_
 rintro e w1 ⟨rfl,hb⟩
 go_wp2
 go_ret
 exact⟨rfl,hb⟩
theorem script_each (a:Int) (w:Zw) (ha : -1≤a) (ha2:a≤200) :
 Zc Zp 49 #[Z Y a] w fun e w'=>e=.returned (.bool false)∧w=w':=by
 have hd:decide (-1≤a∧a≤200)=true:=decide_eq_true ⟨ha,ha2⟩
 have H:=O (script_within a (-1) 200 ·)
 rw [hd]at H
 clear hd
 go_enter Tryz.func49,Tryz.ntmps49
 go_wp2_with (go_at_call 50;refine(H.out _).mono ?_;rintro e w' ⟨rfl,rfl⟩)
 go_ret
 exact⟨rfl,rfl⟩
end A67
namespace A68
open Go.RowKit A4 A18 A35 A67 D19
theorem alloc2 (w:Zw) (A B:Obj):((w.alloc A).alloc B).heap[w.heap.size]?=some A∧((w.alloc A).alloc B).heap[w.heap.size+1]?=some B∧w.heap.size+1 < ((w.alloc A).alloc B).heap.size∧Zb w.heap.size w ((w.alloc A).alloc B):=by
 have z:∀(w:Zw) (A:Obj),(w.alloc A).heap.size=w.heap.size+1:=fun w A=>by simp
 refine⟨?_,?_,?_,?_⟩
 ·have hb:Zb (w.alloc A).heap.size (w.alloc A) ((w.alloc A).alloc B):=(Zf _ _).alloc (Zr _) B
  exact(hb.block w.heap.size (by rw [z];omega)).trans (Zh w A)
 ·have:=Zh (w.alloc A) B
  rwa [z]at this
 ·rw [z,z];omega
 ·exact((Zf _ _).alloc (Zr _) A).alloc (by rw [z];omega) B
theorem indexFunc_on (A:Option Addr) (l:List Int) (C:Nat) (w:Zw) (hl:Ints w A l) (hlen:l.length≤1000)
 (hv:∀ k,k < l.length → -1≤l.getD k 0∧l.getD k 0≤200) :
 Zc Zp 88 #[.slice A l.length C,.func (Fn.func 49) #[] #[]] w fun e w'=>e=.returned (Z Y (-1))∧w=w':=by
 rcases hl.cases with h0 | ⟨b,off,rfl,hb,hc⟩
 ·subst h0
  go_enter Tryz.func88,Tryz.ntmps88
  go_wp2
  refine wp_loop_rounds 1 ?_
  rw [rounds_succ]
  go_wp2
  go_ret
  exact⟨rfl,rfl⟩
 ·have HV:=O hv
  have HC:=O hc
  clear hv hc hl
  go_enter Tryz.func88,Tryz.ntmps88
  go_wp2
  go_loop [8] (fun i=>∃ k:Nat,k≤l.length∧i=Z Y k) (fun i=>l.length-(intOf i).toNat)
  case atStart=>exact⟨0,Nat.zero_le _,rfl⟩
  case round =>
   obtain⟨k,hk,rfl⟩:=hrel
   by_cases hlt:k < l.length
   ·have hcell:=HC.out k hlt
    have h1:=(HV.out k hlt).1
    have h2:=(HV.out k hlt).2
    generalize l.getD k 0=x at *
    go_wp2_with (go_at_call 49;refine(script_each _ _ h1 h2).mono ?_;rintro e w' ⟨rfl,rfl⟩)
    go_round
    case rel=>exact⟨k+1,by omega,by go_num⟩
    case measure=>simp [intOf];omega
   ·go_wp2
    go_ret
    exact⟨rfl,rfl⟩
theorem containsFunc_on (A:Option Addr) (l:List Int) (C:Nat) (w:Zw) (hl:Ints w A l) (hlen:l.length≤1000)
 (hv:∀ k,k < l.length → -1≤l.getD k 0∧l.getD k 0≤200) :
 Zc Zp 47 #[.slice A l.length C,.func (Fn.func 49) #[] #[]] w fun e w'=>e=.returned (.bool false)∧w=w':=by
 have H:=O (indexFunc_on A l C w hl hlen hv)
 clear hl hv
 go_enter Tryz.func47,Tryz.ntmps47
 go_wp2_with (go_at_call 88;refine(H.out).mono ?_;rintro e w' ⟨rfl,rfl⟩)
 go_ret
 exact⟨rfl,rfl⟩
theorem fault_Check (N Pi Er G Fi:Int) (PA:Option Addr) (PL PC:Nat) (kind fat frm till:Int) (CA:Option Addr) (ac:List Ac) (CC:Nat) (VA:Option Addr) (VL VC:Nat) (w:Zw) (hk:kind=0∨kind=1) (hN:6≤N) (hN2:N≤7) (hf:0≤fat) (hf2:fat < if kind=1 then N else 1) (h0:0≤frm) (h1:frm≤till) (h2:till≤1000) (hA:Acs w CA ac) (hac:ac.length≤40) (hact:∀ k,k < ac.length→(ac.getD k Ac.no).t.size≤1000) (hVL:VL≤40) :
 Zc Zp 53 #[.agg #[Z Y N,Z Y Pi,Z Y Er,Z Y G,Z Y Fi,.slice PA PL PC],.agg #[Z Y kind,Z Y fat,Z Y frm,Z Y till,.slice CA ac.length CC,.slice VA VL VC]] w fun e w'=>e=.returned (Z Y 0)∧Zb w.heap.size w w':=by
 have HP:=O (fun w'=>fault_places N Pi Er G Fi PA PL PC kind w' hk hN hN2)
 have HC:=O (fun w' (hb:Zb w.heap.size w w')=>contains_acts CA ac CC w' (hA.below hb) (by omega) hact)
 have l4:¬(40 < (ac.length:Int)):=by omega
 have l5:¬(40 < (VL:Int)):=by omega
 clear hA hact
 have d1:decide (fat < 0)=false:=by simp;omega
 have d2:decide (fat≥if kind=1 then N else 1)=false:=by simp only [decide_eq_false_iff_not];omega
 have d3:decide ((if kind=1 then N else 1)≤fat)=false:=by simp only [decide_eq_false_iff_not];omega
 have l1:¬(frm < 0):=by omega
 have l2:¬(1000 < till):=by omega
 have l3:¬(till < frm):=by omega
 have k1:¬(kind < 0):=by omega
 have k2:¬(2 < kind):=by omega
 have pl1 : -9223372036854775808≤(if kind=1 then N else 1):=by split <;> omega
 have pl2:(if kind=1 then N else 1)≤9223372036854775807:=by split <;> omega
 generalize hplq:(if kind=1 then N else 1)=pl at *
 go_enter Tryz.func53,Tryz.ntmps53
 go_upto_region 3 with fail
 obtain⟨hXA,hXB,hz,hBa⟩:=alloc2 w (.cells #[Z Y N,Z Y Pi,Z Y Er,Z Y G,Z Y Fi,.slice PA PL PC] 24) (.cells #[Z Y kind,Z Y fat,Z Y frm,Z Y till,.slice CA ac.length CC,.slice VA VL VC] 27)
 have HBa:=O hBa
 clear hBa
 generalize (w.alloc (.cells #[Z Y N,Z Y Pi,Z Y Er,Z Y G,Z Y Fi,.slice PA PL PC] 24)).alloc (.cells #[Z Y kind,Z Y fat,Z Y frm,Z Y till,.slice CA ac.length CC,.slice VA VL VC] 27)=wa at *
 have y0:wa.cell? ⟨w.heap.size,0,none⟩=some (Z Y N):=by rw [blk_cell hXA];rfl
 have y1:wa.cell? ⟨w.heap.size,1,none⟩=some (Z Y Pi):=by rw [blk_cell hXA];rfl
 have y2:wa.cell? ⟨w.heap.size,2,none⟩=some (Z Y Er):=by rw [blk_cell hXA];rfl
 have y3:wa.cell? ⟨w.heap.size,3,none⟩=some (Z Y G):=by rw [blk_cell hXA];rfl
 have y4:wa.cell? ⟨w.heap.size,4,none⟩=some (Z Y Fi):=by rw [blk_cell hXA];rfl
 have y5:wa.cell? ⟨w.heap.size,5,none⟩=some (.slice PA PL PC):=by rw [blk_cell hXA];rfl
 have z0:wa.cell? ⟨w.heap.size+1,0,none⟩=some (Z Y kind):=by rw [blk_cell hXB];rfl
 have z1:wa.cell? ⟨w.heap.size+1,1,none⟩=some (Z Y fat):=by rw [blk_cell hXB];rfl
 have HXB:=O hXB
 clear hXA hXB
 refine wp_region_held_drew (S:=fun w'=>w'.cell? ⟨w.heap.size,0,none⟩=some (Z Y N)∧w'.cell? ⟨w.heap.size,1,none⟩=some (Z Y Pi)∧w'.cell? ⟨w.heap.size,2,none⟩=some (Z Y Er)∧w'.cell? ⟨w.heap.size,3,none⟩=some (Z Y G)∧w'.cell? ⟨w.heap.size,4,none⟩=some (Z Y Fi)∧w'.cell? ⟨w.heap.size,5,none⟩=some (.slice PA PL PC)∧w'.cell? ⟨w.heap.size+1,0,none⟩=some (Z Y kind)∧w'.cell? ⟨w.heap.size+1,1,none⟩=some (Z Y fat)) (by kernel_rfl) ⟨y0,y1,y2,y3,y4,y5,z0,z1⟩ (fun hHeld=>?_)
 refine rgT 0 ?_
 refine rgT 1 ?_
 refine rgT 2 ?_
 refine rgT 3 ?_
 refine rgT 4 ?_
 refine rgT 5 ?_
 refine rgT 6 ?_
 refine rgT 7 ?_
 refine rgT 8 ?_
 refine rgR 9 fun K hK=>?_
 go_simp
 refine(HP.out wa.drew).mono ?_
 rintro e w2 ⟨rfl,hb2⟩
 have HB2:=O (show Zb wa.heap.size wa w2 from⟨hb2.os,hb2.tape,hb2.output,hb2.size,hb2.block⟩)
 have x0:=keep_of y0 (show w.heap.size < wa.heap.size by omega) HB2.out
 have x1:=keep_of y1 (show w.heap.size < wa.heap.size by omega) HB2.out
 have x2:=keep_of y2 (show w.heap.size < wa.heap.size by omega) HB2.out
 have x3:=keep_of y3 (show w.heap.size < wa.heap.size by omega) HB2.out
 have x4:=keep_of y4 (show w.heap.size < wa.heap.size by omega) HB2.out
 have x5:=keep_of y5 (show w.heap.size < wa.heap.size by omega) HB2.out
 have x6:=keep_of z0 hz HB2.out
 have x7:=keep_of z1 hz HB2.out
 have HX2:=O ((HB2.out.block _ hz).trans HXB.out)
 clear hb2 y0 y1 y2 y3 y4 y5 z0 z1
 go_simp
 refine hK.out _ _ ⟨x0,x1,x2,x3,x4,x5,x6,x7⟩ (fun hHeld=>?_)
 clear hK K
 refine rgT 10 ?_
 refine rgT 11 ?_
 refine rgT 12 ?_
 refine wpAnyH_done (by kernel_rfl) ?_ _
 have q2:w2.cell? ⟨w.heap.size+1,2,none⟩=some (Z Y frm):=by rw [blk_cell HX2.out];rfl
 have q3:w2.cell? ⟨w.heap.size+1,3,none⟩=some (Z Y till):=by rw [blk_cell HX2.out];rfl
 have q4:w2.cell? ⟨w.heap.size+1,4,none⟩=some (.slice CA ac.length CC):=by rw [blk_cell HX2.out];rfl
 have q5:w2.cell? ⟨w.heap.size+1,5,none⟩=some (.slice VA VL VC):=by rw [blk_cell HX2.out];rfl
 clear hHeld
 have HBw:=O (HBa.out.trans (HB2.out.mono HBa.out.size))
 go_wp2_with fail
 refine(HC.out _ (by first | exact HBw.out | exact HBw.out.drew | exact HBw.out.drew.drew)).mono ?_
 rintro e w3 ⟨rfl,hb3⟩
 have HB3:=O (HBw.out.trans (hb3.mono (by first | exact HBw.out.size | exact HBw.out.drew.size)))
 clear hb3
 go_wp2
 go_ret
 exact⟨rfl,HB3.out⟩
end A68
end Go.Proofs.YtdbempiompiioaaGreat
