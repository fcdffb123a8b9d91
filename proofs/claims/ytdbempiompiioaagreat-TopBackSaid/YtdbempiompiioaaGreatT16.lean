/- What a node takes in a round: frames of right owners, whatever the locus does; nothing where nobody  Conditions: the bounds stated in each theorem. -/
import Derived.Test.YtdbempiompiioaaGreatT15
set_option linter.unusedVariables false
set_option linter.unusedSimpArgs false
set_option maxRecDepth 100000
set_option maxHeartbeats 80000000
open Go.Value renaming int → Z
open Go.IntKind renaming i64 → Y
open Go renaming World → Zw, Calls → Zc, heap_alloc_new → Zh
open Go.RowKit renaming Below → Zb
open Go.Proofs.Tryz renaming prog → Zp
open Go.Lib renaming hid → O
open Go.World renaming block_lt_of_cell? → Zl, cell?_setCell_other → Zo
open Nat renaming le_refl → Zr
open Go.RowKit.Below renaming refl → Zf
namespace Go.Proofs.YtdbempiompiioaaGreat
namespace B6
open Go.RowKit A8 A13 A14 A15 A17 A18 A22 A25 A41 A43 E1 E2 A44 A50 A51 A52 A62 A65
theorem em_one {c:NC} (hc:NOk c) {r s z:Nat} (hr:r≤1000) (hs:s < c.N+c.ps.length) (h:c.kind=0∨c.till≤(r:Int)∨c.fat=(z:Int)):OneZ (emF c r s) c.N z :=
 ⟨(nok_emit hc r s hr hs).strm,fun a b t _ _ hz=>by
  unfold emF
  rw [if_pos]
  rcases h with h | h | h
  ·exact .inl h
  ·exact .inr (.inr h)
  ·exact .inr (.inl (by omega))⟩
theorem em_nil {c:NC} {r s z:Nat} (h:c.kind=1) (hf:c.fat=(z:Int)) (h1:(r:Int) < c.frm) (h2:(r:Int) < c.till) (b:Int) (t:ByteArray):emF c r s z b t=⟨#[]⟩:=by
 unfold emF
 rw [if_neg (fun x=>by rcases x with x | x | x <;> omega),if_pos h1]
theorem own_mem {c:NC} (hc:NOk c) {s:Nat} (hs:s < c.N+c.ps.length) {y:Int} (hy:y ∈ owners c.N c.ps s):0≤y∧y < c.N:=by
 have n0:=hc.cf.n0
 rcases owners_cases hc hs with⟨h,e⟩ | ⟨_,e⟩ | ⟨_,x,hx,e⟩
 ·rw [e]at hy;simp at hy;omega
 ·rw [e]at hy;simp at hy
 ·rw [e]at hy
  simp at hy
  have q0:0≤((x:Int)+1)%c.N:=Int.emod_nonneg _ (by omega)
  have q1:((x:Int)+1)%c.N < c.N:=Int.emod_lt_of_pos _ (by omega)
  rcases hy with hy | hy <;> (rw [hy];omega)
theorem take_right {c:NC} (hc:NOk c) {r s z i:Nat} {st:Nat→Nat} {ck:Nat→Int} {q:Nat→Nat→Option Nat} {g:Nat→Option (List (Nat×Nat))} {f:Fr} (hr:r≤1000) (hs:s < c.N+c.ps.length) (hne:owners c.N c.ps s≠[]) (hE:c.kind=0∨c.till≤(r:Int)∨c.fat=(z:Int))
 (hS:∀ x,x < c.N→(owners c.N c.ps s).contains (x:Int)=true→ownF c r s (stF c r st) (qN c r st q s) g x=some f) (hf:FrOk c.N c.ps.length f) (hw:(f.round:Int)=(c.Fi+r)%65536) (hsl:f.slot=s)
 (hz:z < c.N) (hzo:(owners c.N c.ps s).contains (z:Int)=false) (hi:i < c.N) (hio:(owners c.N c.ps s).contains (i:Int)=false) (hiz:i≠z) (hst:∀ j,j < c.N→j≠z→stF c r st j≠0)
 (hgd:∀ o,o < c.N→(owners c.N c.ps s).contains (o:Int)=true→∀ j,j < c.N→j≠z→stF c r st j≠4 ∨ -(2*c.Pi)≤devF c r (ckF c r st ck) o j∧devF c r (ckF c r st ck) o j≤2*c.Pi) :
 tkN c r st ck q g s i=some f:=by
 have n0:=hc.cf.n0
 have n1:=hc.cf.n1
 have n2:=hc.cf.len
 have hcon:∀ k,k < (owners c.N c.ps s).length→((owners c.N c.ps s).getD k 0).toNat < c.N∧(owners c.N c.ps s).contains ((((owners c.N c.ps s).getD k 0).toNat:Nat):Int)=true:=fun k hk=>by
  have hm:=getD_mem hk
  have hb:=own_mem hc hs hm
  have e:((((owners c.N c.ps s).getD k 0).toNat:Nat):Int)=(owners c.N c.ps s).getD k 0:=by omega
  exact⟨by omega,by rw [e];simpa using hm⟩
 have hl:0 < (owners c.N c.ps s).length:=List.length_pos_iff.mpr hne
 unfold tkN tkS tkF
 rw [if_neg (by rw [hio];simp;exact hst i hi hiz)]
 show tkP c r s (stF c r st) (ckF c r st ck) (qN c r st q s) g i=some f
 unfold tkP
 rw [if_neg hne]
 obtain⟨l1,l2⟩:=hcon ((owners c.N c.ps s).length-1) (by omega)
 obtain⟨f1,f2⟩:=hcon 0 hl
 refine(pick_right (z:=z) (la:=0) (lb:=0) (by omega) (by omega) (by omega) (em_one hc hr hs hE) hf (text_strm hf (by omega) (by omega)) hw (by omega) (own_ways hc hs hne) (fun j hj=>?_) hz hzo hi hio hiz (fun j hj hjz=>⟨?_,?_⟩) (fun j hj hjz=>⟨?_,?_⟩)).1
 ·rw [snd_at c r s _ _ _ hj,hS _ (hcon j hj).1 (hcon j hj).2];rfl
 ·have:=hst j hj hjz;omega
 ·have:=hgd _ l1 l2 j hj hjz;omega
 ·have:=hst j hj hjz;omega
 ·have:=hgd _ f1 f2 j hj hjz;omega
structure NilA (v:Wv):Prop where
 d:∀ j,(v.f j).d=⟨#[]⟩
 s:∀ j,(v.f j).s=⟨#[]⟩
 o:∀ j,(v.f j).o=⟨#[]⟩
theorem NilA.reach {v:Wv} (h:NilA v) {E:Int→Int→ByteArray→ByteArray} {N:Int} (hE:∀ a b,E a b ⟨#[]⟩=⟨#[]⟩) (Pi slot dir:Int) (st dv:Nat→Int) (i:Nat) (far:Int):NilA (v.reach E N Pi slot dir st dv i far):=by
 have hc:∀ node back,comeF E N dir v.f v.g node back=⟨#[]⟩:=fun node back=>by
  unfold comeF
  rw [h.o]
  split
  ·exact hE _ _
  ·rfl
 have hs:strF Pi (st i) (dv i) ⟨#[]⟩=⟨#[]⟩:=by unfold strF;exact ite_self _
 have hd:sdF E N Pi slot dir v.f v.g (st i) (dv i) i far=⟨⟨#[]⟩,⟨#[]⟩,⟨#[]⟩,far⟩:=by
  unfold sdF
  rw [hc,hc,hs,ite_self,outF_nil,ite_self]
 refine⟨fun j=>?_,fun j=>?_,fun j=>?_⟩
 all_goals
  by_cases e:j=i
  ·subst e
   first
   | (show(if j=j then _ else v.f j).d=_;rw [if_pos rfl,hd])
   | (show(if j=j then _ else v.f j).s=_;rw [if_pos rfl,hd])
   | (show(if j=j then _ else v.f j).o=_;rw [if_pos rfl,hd])
  ·first
   | (show(if j=i then _ else v.f j).d=_;rw [if_neg e];exact h.d j)
   | (show(if j=i then _ else v.f j).s=_;rw [if_neg e];exact h.s j)
   | (show(if j=i then _ else v.f j).o=_;rw [if_neg e];exact h.o j)
theorem nilA_own {ow:List Int} {sends:List ByteArray}:∀ k,(∀ j,j < k→sends.getD j ⟨#[]⟩=⟨#[]⟩)→NilA (ownK ow sends k)
 | 0,_=>⟨fun _=>rfl,fun _=>rfl,fun _=>rfl⟩
 | k+1,h=>by
  have ih:=nilA_own (ow:=ow) k (fun j hj=>h j (by omega))
  unfold ownK
  rw [h k (by omega)]
  refine⟨fun j=>?_,fun j=>?_,fun j=>?_⟩
  all_goals
   by_cases e:j=(ow.getD k 0).toNat
   ·first
    | (show(if j=_ then _ else(ownK ow sends k).f j).d=_;rw [if_pos e];exact ih.d _)
    | (show(if j=_ then _ else(ownK ow sends k).f j).s=_;rw [if_pos e];exact ih.s _)
    | (show(if j=_ then _ else(ownK ow sends k).f j).o=_;rw [if_pos e])
   ·first
    | (show(if j=_ then _ else(ownK ow sends k).f j).d=_;rw [if_neg e];exact ih.d j)
    | (show(if j=_ then _ else(ownK ow sends k).f j).s=_;rw [if_neg e];exact ih.s j)
    | (show(if j=_ then _ else(ownK ow sends k).f j).o=_;rw [if_neg e];exact ih.o j)
theorem nilA_way {E:Int→Int→ByteArray→ByteArray} {N:Int} (hE:∀ a b,E a b ⟨#[]⟩=⟨#[]⟩) (Pi slot dir:Int) (st dv:Nat→Int) {v:Wv} (h:NilA v) (l:List Int):∀ k,NilA (wayK E N Pi slot dir st dv v l k)
 | 0=>h
 | k+1=>(nilA_way hE Pi slot dir st dv h l k).reach hE Pi slot dir st dv _ _
theorem take_none {c:NC} (hc:NOk c) {r s z i:Nat} {st:Nat→Nat} {ck:Nat→Int} {q:Nat→Nat→Option Nat} {g:Nat→Option (List (Nat×Nat))} (hr:r≤1000) (hs:s < c.N+c.ps.length)
 (hE:c.kind=0∧(∀ x,x < c.N→(owners c.N c.ps s).contains (x:Int)=true→ownF c r s (stF c r st) (qN c r st q s) g x=none) ∨
  c.kind=1∧c.fat=(z:Int)∧(r:Int) < c.frm∧(r:Int) < c.till∧i≠z∧∀ x,x < c.N→x≠z→(owners c.N c.ps s).contains (x:Int)=true→ownF c r s (stF c r st) (qN c r st q s) g x=none) :
 tkN c r st ck q g s i=none:=by
 have n0:=hc.cf.n0
 unfold tkN tkS tkF
 split
 ·rfl
 show tkP c r s (stF c r st) (ckF c r st ck) (qN c r st q s) g i=none
 unfold tkP
 split
 ·rfl
 have hcon:∀ k,k < (owners c.N c.ps s).length→((owners c.N c.ps s).getD k 0).toNat < c.N∧(owners c.N c.ps s).contains ((((owners c.N c.ps s).getD k 0).toNat:Nat):Int)=true:=fun k hk=>by
  have hm:=getD_mem hk
  have hb:=own_mem hc hs hm
  have e:((((owners c.N c.ps s).getD k 0).toNat:Nat):Int)=(owners c.N c.ps s).getD k 0:=by omega
  exact⟨by omega,by rw [e];simpa using hm⟩
 rcases hE with⟨hk,h⟩ | ⟨hk,hf,h1,h2,hiz,h⟩
 ·have hE0:∀ a b,emF c r s a b ⟨#[]⟩=⟨#[]⟩:=fun a b=>by unfold emF;rw [if_pos (.inl hk)]
  have hso:∀ j,j < (owners c.N c.ps s).length→(sndF c r s (stF c r st) (qN c r st q s) g).getD j ⟨#[]⟩=⟨#[]⟩:=fun j hj=>by
   rw [snd_at c r s _ _ _ hj,h _ (hcon j hj).1 (hcon j hj).2];rfl
  have a1:NilA (upF c r s (stF c r st) (ckF c r st ck) (qN c r st q s) g):=nilA_way hE0 _ _ _ _ _ (nilA_own _ hso) _ _
  have a2:NilA (dnF c r s (stF c r st) (ckF c r st ck) (qN c r st q s) g):=nilA_way hE0 _ _ _ _ _ (nilA_own _ hso) _ _
  unfold pickG
  rw [a1.o i,a2.o i,a1.d i,a2.d i,right_nil,addF_none,addF_none,addF_none,addF_none]
  rfl
 ·have hso:∀ j,j < (owners c.N c.ps s).length→((owners c.N c.ps s).getD j 0).toNat=z∨(sndF c r s (stF c r st) (qN c r st q s) g).getD j ⟨#[]⟩=⟨#[]⟩:=fun j hj=>by
   by_cases e:((owners c.N c.ps s).getD j 0).toNat=z
   ·exact .inl e
   ·right
    rw [snd_at c r s _ _ _ hj,h _ (hcon j hj).1 e (hcon j hj).2];rfl
  have one:=em_one hc (z:=z) hr hs (.inr (.inr hf))
  have z0:=em_nil (s:=s) hk hf h1 h2
  exact pick_nil (nilZ_run one z0 (by omega) _ _ _ _ _ _ _ hso) (nilZ_run one z0 (by omega) _ _ _ _ _ _ _ hso) hiz
end B6
namespace B1
open Go.RowKit A38
theorem sorted_le:∀(L:List Int),L.Pairwise (fun a b=>a≤b)→∀(m:Nat) (v:Int),m < L.length→(L.getD m 0≤v↔m < L.countP (fun x=>decide (x≤v)))
 | [],_,m,v,hm=>absurd hm (by simp)
 | a :: r,h,m,v,hm=>by
  rw [List.pairwise_cons]at h
  obtain⟨h1,h2⟩:=h
  have none:¬ a≤v→(a :: r).countP (fun x=>decide (x≤v))=0:=fun ha=>by
   rw [List.countP_eq_zero]
   intro x hx
   rw [List.mem_cons]at hx
   rcases hx with rfl | hx
   ·simpa using ha
   ·have:=h1 x hx
    simp;omega
  cases m with
  | zero =>
   show a≤v↔_
   by_cases ha:a≤v
   ·refine⟨fun _=>?_,fun _=>ha⟩
    rw [List.countP_cons_of_pos (by simpa using ha)];omega
   ·refine⟨fun h=>absurd h ha,fun h=>?_⟩
    rw [none ha]at h;omega
  | succ m =>
   show r.getD m 0≤v↔_
   have hm':m < r.length:=by simpa using hm
   by_cases ha:a≤v
   ·rw [List.countP_cons_of_pos (by simpa using ha),sorted_le r h2 m v hm'];omega
   ·rw [none ha]
    have hx:r.getD m 0 ∈ r:=by rw [List.getD_eq_getElem?_getD,List.getElem?_eq_getElem hm'];exact List.getElem_mem _
    have:=h1 _ hx
    omega
theorem nth_le {xs:List Int} {m:Nat} (hm:m < xs.length) (v:Int):nth xs m≤v↔m < xs.countP (fun x=>decide (x≤v)):=by
 unfold nth
 have hp:=List.mergeSort_perm xs (fun x y=>decide (x≤y))
 have hs:=List.pairwise_mergeSort (le:=fun x y:Int=>decide (x≤y)) (fun a b c h1 h2=>by simp at *;omega) (fun a b=>by simp;omega) xs
 rw [sorted_le _ (hs.imp (fun h=>by simpa using h)) m v (by rw [hp.length_eq];exact hm),hp.countP_eq]
end B1
namespace B7
open Go.RowKit A38 B1
theorem nth_zero {C:List Int} {x:Int} (h:x ∈ C):nth C 0≤x:=by
 have hl:0 < C.length:=List.length_pos_of_mem h
 rw [nth_le hl]
 exact List.countP_pos_iff.mpr ⟨x,h,by simp⟩
theorem nth_last {C:List Int} {x:Int} (h:x ∈ C):x≤nth C (C.length-1):=by
 have hl:0 < C.length:=List.length_pos_of_mem h
 have h1:=(nth_le (xs:=C) (m:=C.length-1) (by omega) (nth C (C.length-1))).mp (Int.le_refl _)
 have h2:=List.countP_le_length (p:=fun x=>decide (x≤nth C (C.length-1))) (l:=C)
 have h3:C.countP (fun x=>decide (x≤nth C (C.length-1)))=C.length:=by omega
 have:=List.countP_eq_length.mp h3 x h
 simpa using this
theorem nth_mono {C:List Int} {a b:Nat} (h:a≤b) (hb:b < C.length):nth C a≤nth C b:=by
 rw [nth_le (by omega)]
 have:=(nth_le hb (nth C b)).mp (Int.le_refl _)
 omega
theorem rob {R:List Nat} {ck f:Nat→Int} {xs ox:List Int} {e a:Int} (hx:∀ p:Int→Bool,xs.countP p=(R.map f).countP p+ox.countP p) (hox:ox.length≤1) (hm:4≤R.length)
 (hf:∀ k ∈ R,ck k-e-a≤f k∧f k≤ck k+e-a) :
 nth (R.map ck) 0-e-a≤nth xs 1∧nth xs 1≤nth (R.map ck) 1+e-a∧nth (R.map ck) (R.length-2)-e-a≤nth xs (xs.length-2)∧nth xs (xs.length-2)≤nth (R.map ck) (R.length-1)+e-a:=by
 have hn:xs.length=R.length+ox.length:=by
  have:=hx (fun _=>true)
  simpa using this
 have ho:∀ p:Int→Bool,ox.countP p≤ox.length:=fun p=>List.countP_le_length
 have hlC:(R.map ck).length=R.length:=List.length_map _
 refine⟨?_,?_,?_,?_⟩
 ·rcases Int.lt_or_le (nth xs 1) (nth (R.map ck) 0-e-a)with h | h
  ·exfalso
   have h1:=(nth_le (xs:=xs) (m:=1) (by omega) (nth (R.map ck) 0-e-a-1)).mp (by omega)
   rw [hx]at h1
   have h2:(R.map f).countP (fun x=>decide (x≤nth (R.map ck) 0-e-a-1))=0:=by
    rw [List.countP_eq_zero]
    intro x hxm
    rw [List.mem_map]at hxm
    obtain⟨k,hk,rfl⟩:=hxm
    have:=(hf k hk).1
    have:=nth_zero (List.mem_map_of_mem (f:=ck) hk)
    simp;omega
   have:=ho (fun x=>decide (x≤nth (R.map ck) 0-e-a-1))
   omega
  ·exact h
 ·rw [nth_le (by omega),hx]
  have h1:=(nth_le (xs:=R.map ck) (m:=1) (by omega) (nth (R.map ck) 1)).mp (Int.le_refl _)
  rw [List.countP_map]at h1 ⊢
  refine Nat.lt_of_lt_of_le h1 (Nat.le_trans (List.countP_mono_left fun k hk hv=>?_) (Nat.le_add_right _ _))
  have:=(hf k hk).2
  simp at hv ⊢
  omega
 ·rcases Int.lt_or_le (nth xs (xs.length-2)) (nth (R.map ck) (R.length-2)-e-a)with h | h
  ·exfalso
   have h1:=(nth_le (xs:=xs) (m:=xs.length-2) (by omega) (nth (R.map ck) (R.length-2)-e-a-1)).mp (by omega)
   rw [hx]at h1
   have h2:(R.map f).countP (fun x=>decide (x≤nth (R.map ck) (R.length-2)-e-a-1))≤R.length-2:=by
    have h3:¬(nth (R.map ck) (R.length-2)≤nth (R.map ck) (R.length-2)-1):=by omega
    rw [nth_le (by omega)]at h3
    rw [List.countP_map]at h3 ⊢
    refine Nat.le_trans (List.countP_mono_left fun k hk hv=>?_) (Nat.not_lt.mp h3)
    have:=(hf k hk).1
    simp at hv ⊢
    omega
   have:=ho (fun x=>decide (x≤nth (R.map ck) (R.length-2)-e-a-1))
   omega
  ·exact h
 ·rw [nth_le (by omega),hx]
  have h1:(R.map f).countP (fun x=>decide (x≤nth (R.map ck) (R.length-1)+e-a))=R.length:=by
   have:(R.map f).countP (fun x=>decide (x≤nth (R.map ck) (R.length-1)+e-a))=(R.map f).length:=by
    rw [List.countP_eq_length]
    intro x hxm
    rw [List.mem_map]at hxm
    obtain⟨k,hk,rfl⟩:=hxm
    have h2:=(hf k hk).2
    have h3:=nth_last (List.mem_map_of_mem (f:=ck) hk)
    rw [hlC]at h3
    simp;omega
   rw [this,List.length_map]
  omega
theorem nth_pair {R:List Nat} {ck:Nat→Int} {S:Int} (h:∀ k ∈ R,∀ l ∈ R,ck k-ck l≤S) {a b:Nat} (ha:a < R.length) (hb:b < R.length):nth (R.map ck) a-nth (R.map ck) b≤S:=by
 have m1:=nth_mem (zs:=R.map ck) (k:=a) (by simpa using ha)
 have m2:=nth_mem (zs:=R.map ck) (k:=b) (by simpa using hb)
 rw [List.mem_map]at m1 m2
 obtain⟨k,hk,e1⟩:=m1
 obtain⟨l,hl,e2⟩:=m2
 have:=h k hk l hl
 omega
theorem rob_near {R:List Nat} {ck f g:Nat→Int} {xs ys ox oy:List Int} {e a b S W:Int} (hx:∀ p:Int→Bool,xs.countP p=(R.map f).countP p+ox.countP p) (hox:ox.length≤1) (hy:∀ p:Int→Bool,ys.countP p=(R.map g).countP p+oy.countP p) (hoy:oy.length≤1) (hm:4≤R.length)
 (hf:∀ k ∈ R,ck k-e-a≤f k∧f k≤ck k+e-a) (hg:∀ k ∈ R,ck k-e-b≤g k∧g k≤ck k+e-b) (hS:∀ k ∈ R,∀ l ∈ R,ck k-ck l≤S) (hW:S+4*e+2≤2*W):(a+midF xs)-(b+midF ys)≤W:=by
 obtain⟨x1,x2,x3,x4⟩:=rob hx hox hm hf
 obtain⟨y1,y2,y3,y4⟩:=rob hy hoy hm hg
 have h1:=nth_mono (C:=R.map ck) (a:=1) (b:=R.length-2) (by omega) (by simp;omega)
 have h2:=nth_pair hS (a:=R.length-1) (b:=0) (by omega) (by omega)
 unfold midF
 omega
theorem rob_in {R:List Nat} {ck f:Nat→Int} {xs ox:List Int} {e a lo hi:Int} (hx:∀ p:Int→Bool,xs.countP p=(R.map f).countP p+ox.countP p) (hox:ox.length≤1) (hm:4≤R.length)
 (hf:∀ k ∈ R,ck k-e-a≤f k∧f k≤ck k+e-a) (h:∀ k ∈ R,lo≤ck k∧ck k≤hi):lo-e≤a+midF xs∧a+midF xs≤hi+e:=by
 obtain⟨x1,x2,x3,x4⟩:=rob hx hox hm hf
 have hin:∀ j,j < R.length→lo≤nth (R.map ck) j∧nth (R.map ck) j≤hi:=fun j hj=>by
  have m1:=nth_mem (zs:=R.map ck) (k:=j) (by simpa using hj)
  rw [List.mem_map]at m1
  obtain⟨k,hk,e1⟩:=m1
  rw [← e1];exact h k hk
 have a0:=hin 0 (by omega)
 have a1:=hin 1 (by omega)
 have a2:=hin (R.length-2) (by omega)
 have a3:=hin (R.length-1) (by omega)
 unfold midF
 omega
end B7
namespace B8
open Go.RowKit A22 A39 A40 A54
theorem hdK_nil {tk:Nat→Option Fr} {dv:Nat→Int}:∀ {n:Nat},(∀ k,k < n→tk k=none)→hdK tk dv n=[]
 | 0,_=>rfl
 | n+1,h=>by
  unfold hdK
  rw [h n (by omega)]
  exact hdK_nil (fun k hk=>h k (by omega))
theorem hdK_mem {tk:Nat→Option Fr} {dv:Nat→Int}:∀ {n:Nat} {x:Hd},x ∈ hdK tk dv n→∃ k f,k < n∧tk k=some f∧x=⟨k,f.kind,dv k⟩
 | 0,x,h=>by simp [hdK]at h
 | n+1,x,h=>by
  unfold hdK at h
  split at h
  ·obtain⟨k,f,h1,h2⟩:=hdK_mem h
   exact⟨k,f,by omega,h2⟩
  ·next f e =>
   rw [List.mem_append,List.mem_singleton]at h
   rcases h with h | h
   ·obtain⟨k,f,h1,h2⟩:=hdK_mem h
    exact⟨k,f,by omega,h2⟩
   ·exact⟨n,f,by omega,e,h⟩
theorem hdK_head {tk:Nat→Option Fr} {dv:Nat→Int} {k0:Nat} {f0:Fr} (h0:tk k0=some f0) (hk:∀ k,k < k0→tk k=none):∀ n,k0 < n→∃ r,hdK tk dv n=⟨k0,f0.kind,dv k0⟩ :: r
 | 0,h=>absurd h (by omega)
 | n+1,h=>by
  by_cases e:n=k0
  ·subst e
   exact⟨[],by simp [hdK,h0,hdK_nil hk]⟩
  ·obtain⟨r,hr⟩:=hdK_head (dv:=dv) h0 hk n (by omega)
   unfold hdK
   split
   ·exact⟨r,hr⟩
   ·exact⟨r ++ [_],by rw [hr];rfl⟩
theorem hdK_in {tk:Nat→Option Fr} {dv:Nat→Int} {k:Nat} {f:Fr} (h:tk k=some f):∀ n,k < n→0 < (hdK tk dv n).length
 | 0,hk=>absurd hk (by omega)
 | n+1,hk=>by
  unfold hdK
  by_cases e:k=n
  ·subst e;rw [h];simp
  ·have:=hdK_in (dv:=dv) h n (by omega)
   split
   ·exact this
   ·rw [List.length_append];omega
theorem dataK_left (l:List Hd) (x:Hd):∀ k,k≤l.length→dataK (l ++ [x]) k=dataK l k
 | 0,_=>rfl
 | k+1,hk=>by
  unfold dataK
  have e:(l ++ [x]).getD k Hd.none=l.getD k Hd.none:=by
   rw [List.getD_eq_getElem?_getD,List.getD_eq_getElem?_getD,List.getElem?_append_left (by omega)]
  rw [e,dataK_left l x k (by omega)]
theorem dataK_snoc (l:List Hd) (x:Hd):dataK (l ++ [x]) (l ++ [x]).length=dataK l l.length ++ (if x.kind=3 then [x.dev]else []):=by
 have hl:(l ++ [x]).length=l.length+1:=by simp
 rw [hl]
 show(if((l ++ [x]).getD l.length Hd.none).kind=3 then _ else _)=_
 have e:(l ++ [x]).getD l.length Hd.none=x:=by
  rw [List.getD_eq_getElem?_getD,List.getElem?_append_right (Zr _)]
  simp
 rw [e,dataK_left l x l.length (Zr _)]
 split
 ·rfl
 ·rw [List.append_nil]
def Rz (n z:Nat):List Nat:=(List.range n).filter (fun k=>k != z)
theorem Rz_mem {n z k:Nat}:k ∈ Rz n z↔k < n∧k≠z:=by simp [Rz]
theorem Rz_succ (n z:Nat):Rz (n+1) z=Rz n z ++ (if n=z then []else [n]):=by
 unfold Rz
 rw [List.range_succ,List.filter_append]
 by_cases e:n=z
 ·simp [e]
 ·simp [e]
theorem Rz_len (z:Nat):∀ n,(Rz n z).length=if z < n then n-1 else n
 | 0=>by simp [Rz]
 | n+1=>by
  rw [Rz_succ,List.length_append,Rz_len z n]
  by_cases e:n=z
  ·subst e;simp
  ·rw [if_neg e]
   simp only [List.length_singleton]
   split <;> split <;> omega
theorem data_count {tk:Nat→Option Fr} {dv:Nat→Int} {z i:Nat} (hi:i≠z) (h0:tk i=none):∀ n,(∀ k,k < n→k≠z→k≠i→∃ f,tk k=some f∧f.kind=3) →
 ∃ ox:List Int,ox.length≤1∧(n≤z→ox=[])∧∀ p:Int→Bool,(dataK (hdK tk dv n) (hdK tk dv n).length ++ (if i < n then [0]else [])).countP p=((Rz n z).map (fun k=>if k=i then 0 else dv k)).countP p+ox.countP p
 | 0,_=>⟨[],by simp,fun _=>rfl,fun p=>by simp [hdK,dataK,Rz]⟩
 | n+1,h=>by
  obtain⟨ox,h1,h2,h3⟩:=data_count (dv:=dv) hi h0 n (fun k hk=>h k (by omega))
  by_cases e:n=i
  ·subst e
   refine⟨ox,h1,fun hz=>h2 (by omega),fun p=>?_⟩
   have hh:hdK tk dv (n+1)=hdK tk dv n:=by simp [hdK,h0]
   have:=h3 p
   rw [if_neg (by omega),List.append_nil]at this
   rw [hh,if_pos (by omega),Rz_succ,if_neg hi,List.map_append,List.countP_append,List.countP_append,this]
   simp;omega
  ·have hin:(if i < n+1 then([0]:List Int)else [])=if i < n then [0]else []:=by
    by_cases hl:i < n
    ·rw [if_pos hl,if_pos (by omega)]
    ·rw [if_neg hl,if_neg (by omega)]
   by_cases ez:n=z
   ·subst ez
    have hox:=h2 (Zr _)
    subst hox
    cases ht:tk n with
    | none =>
     have hh:hdK tk dv (n+1)=hdK tk dv n:=by simp [hdK,ht]
     exact⟨[],by simp,fun _=>rfl,fun p=>by rw [hh,hin,Rz_succ,if_pos rfl,List.append_nil];exact h3 p⟩
    | some f =>
     have hh:hdK tk dv (n+1)=hdK tk dv n ++ [⟨n,f.kind,dv n⟩]:=by simp [hdK,ht]
     refine⟨if f.kind=3 then [dv n]else [],by split <;> simp,fun hz=>absurd hz (by omega),fun p=>?_⟩
     have:=h3 p
     rw [hh,hin,Rz_succ,if_pos rfl,List.append_nil,dataK_snoc,List.append_assoc,List.countP_append,List.countP_append]
     rw [List.countP_append]at this
     simp only [List.countP_nil,Nat.add_zero]at this
     dsimp only
     omega
   ·obtain⟨f,hf,hk⟩:=h n (by omega) ez e
    have hh:hdK tk dv (n+1)=hdK tk dv n ++ [⟨n,f.kind,dv n⟩]:=by simp [hdK,hf]
    refine⟨ox,h1,fun hz=>h2 (by omega),fun p=>?_⟩
    have:=h3 p
    rw [hh,hin,Rz_succ,if_neg ez,dataK_snoc,if_pos hk,List.map_append,List.append_assoc,List.countP_append,List.countP_append,List.countP_append]
    rw [List.countP_append]at this
    simp only [List.map_cons,List.map_nil,if_neg e]
    omega
theorem data_other {tk:Nat→Option Fr} {dv:Nat→Int} {z:Nat} (h0:tk z=none):∀ n,(∀ k,k < n→k≠z→∃ f,tk k=some f∧f.kind=3)→dataK (hdK tk dv n) (hdK tk dv n).length=(Rz n z).map dv
 | 0,_=>rfl
 | n+1,h=>by
  have ih:=data_other (dv:=dv) h0 n (fun k hk=>h k (by omega))
  by_cases ez:n=z
  ·subst ez
   have hh:hdK tk dv (n+1)=hdK tk dv n:=by simp [hdK,h0]
   rw [hh,Rz_succ,if_pos rfl,List.append_nil]
   exact ih
  ·obtain⟨f,hf,hk⟩:=h n (by omega) ez
   have hh:hdK tk dv (n+1)=hdK tk dv n ++ [⟨n,f.kind,dv n⟩]:=by simp [hdK,hf]
   rw [hh,Rz_succ,if_neg ez,dataK_snoc,if_pos hk,List.map_append,ih]
   rfl
theorem dataK_none' {l:List Hd} (h:∀ x ∈ l,x.kind≠3):dataK l l.length=[] :=
 dataK_none (fun k hk=>h _ (by rw [List.getD_eq_getElem?_getD,List.getElem?_eq_getElem hk];exact List.getElem_mem _)) _ (Zr _)
end B8
namespace B9
open Go.RowKit A8 A22 A25 A33 A39 A40 A41 A45 A47 A48 A50 A51 A54 A55 A56 A57 A62 A65
structure Stt where
 st:Nat→Nat
 tm:Nat→Nat
 was:Nat→Nat
 ck:Nat→Int
 q:Nat→Nat→Option Nat
 g:Nat→Option (List (Nat×Nat))
 n:Nat→Nat
 xs:Nat→List Value
def Stt.sF (c:NC) (r:Nat) (s:Stt):Nat→Nat:=stF c r (stR c r s.st)
def Stt.tF (c:NC) (r:Nat) (s:Stt):Nat→Nat:=tmF c r (tmR c r s.st s.tm)
def Stt.kF (c:NC) (r:Nat) (s:Stt):Nat→Int:=ckF c r (stR c r s.st) s.ck
def Stt.gF (c:NC) (r:Nat) (s:Stt):Nat→Option (List (Nat×Nat)):=gR c r s.st none s.g
def Stt.qF (c:NC) (r:Nat) (s:Stt) (slot:Nat):Nat→Nat→Option Nat:=qN c r (stR c r s.st) (qR c r s.st s.q) slot
def Stt.snd (c:NC) (r:Nat) (s:Stt) (slot i:Nat):Option Fr:=ownF c r slot (s.sF c r) (s.qF c r slot) (s.gF c r) i
noncomputable def Stt.tk (c:NC) (r:Nat) (s:Stt):Nat→Nat→Option Fr:=tkN c r (stR c r s.st) s.ck (qR c r s.st s.q) (gR c r s.st none s.g)
noncomputable def Stt.hd (c:NC) (r:Nat) (s:Stt) (i:Nat):List Hd:=hdN c r (stR c r s.st) s.ck (qR c r s.st s.q) (gR c r s.st none s.g) i
theorem Stt.hd_def (c:NC) (r:Nat) (s:Stt) (i:Nat):s.hd c r i=hdK (fun k=>s.tk c r k i) (fun k=>devF c r (s.kF c r) k i) c.N:=rfl
noncomputable def Stt.next (c:NC) (r:Nat) (s:Stt):Stt where
 st i:=if s.sF c r i=0 then 0 else(stNext c.N i (s.sF c r i) (s.tF c r i) (s.hd c r i).length).1
 tm i:=if s.sF c r i=0 then s.tF c r i else(stNext c.N i (s.sF c r i) (s.tF c r i) (s.hd c r i).length).2
 was i:=if s.sF c r i=0 then 0 else s.sF c r i
 ck i:=if s.sF c r i=0 then s.kF c r i else s.kF c r i+syncF (s.sF c r i) i (s.hd c r i)
 q:=s.qF c r (c.N+c.ps.length)
 g i:=if s.sF c r i=0 then s.gF c r i else some (gotE (s.tk c r) i (c.N+c.ps.length))
 n i:=if s.sF c r i=4∧s.was i=4 then s.n i+(c.N+c.ps.length)else s.n i
 xs i:=if s.sF c r i=4∧s.was i=4 then s.xs i ++ lineCells ((r:Int)-1) (lineF c.N c.ps (s.tk c r) ((s.gF c r i).getD []) i) (c.N+c.ps.length)else s.xs i
def SttAt (c:NC) (NB LO r:Nat) (s:Stt) (w:Zw):Prop:=∃ ND base m lv,A64.NetAt w c NB LO ND base r m lv s.st s.tm s.was s.ck s.q s.g s.n s.xs
def Stt.Ok (c:NC) (r:Nat) (s:Stt):Prop:=StepOk c r (stR c r s.st) (tmR c r s.st s.tm) s.was s.ck (qR c r s.st s.q) (gR c r s.st none s.g) s.n
theorem step_at {c:NC} {NB LO r:Nat} {s:Stt} {w:Zw} (hc:NOk c) (H:SttAt c NB LO r s w) (K:s.Ok c r) :
 Zc Zp 15 #[.pointer (some ⟨NB,0,none⟩)] w fun e w'=>e=.returned (.bool true)∧Zb LO w w'∧SttAt c NB LO (r+1) (s.next c r) w':=by
 obtain⟨ND,base,m,lv,H⟩:=H
 refine(net_round c NB LO ND base r m lv s.st s.tm s.was s.ck s.q s.g s.n s.xs w hc H K).mono ?_
 rintro e w' ⟨rfl,hb,ND',base',m',lv',H'⟩
 exact⟨rfl,hb,ND',base',m',lv',H'⟩
structure Play (c:NC) (T z F zc v:Nat):Prop where
 ok:NOk c
 kd:(c.kind=0∧z=c.N)∨(c.kind=1∧c.fat=(z:Int)∧z < c.N)
 on:∀ i,i < c.N→0≤c.on.getD i 0∧c.on.getD i 0≤3
 t1:∀ i,i < c.N→i≠z→(T:Int)≤c.on.getD i 0+c.N+i
 t2:∃ i,i < c.N∧i≠z∧(T:Int)=c.on.getD i 0+c.N+i
 frm:c.kind=1→(T:Int)+2≤c.frm
 cl:∀ k,k < c.cl.length→c.cl.getD k ⟨0,0,0,0⟩=⟨F,zc,0,v⟩
 cm:c.cl.length≤1
 zc:zc < c.N
 v:v≤255
 f:T+2≤F
 f1:c.kind=1→c.till+2≤(F:Int)
structure Shape (c:NC) (r:Nat) (s:Stt):Prop where
 hst:∀ i,i < c.N→s.st i≤4
 htm:∀ i,i < c.N→s.tm i≤r
 hck:∀ i,i < c.N → -(40*(r:Int))≤s.ck i∧s.ck i≤40*r
 hq:∀ i,i < c.N→∀ j,s.q i j=none
 hg:∀ i,i < c.N→∀ l,s.g i=some l→l.length=c.N+c.ps.length∧∀ k,k < c.N+c.ps.length→okI (l.getD k (0,0))
 hn:∀ i,i < c.N→s.n i≤9*r
 xl:∀ i,i < c.N→(s.xs i).length=s.n i*4
 x1:∀ i,i < c.N→∀ u ∈ s.xs i,∃ y,u=Z Y y
 wg:∀ i,i < c.N→s.was i=4→1≤r∧∃ l,s.g i=some l
 on:∀ i,i < c.N→c.on.getD i 0 < (r:Int)→s.st i≠0
theorem Play.t0 {c:NC} {T z F zc v:Nat} (P:Play c T z F zc v):6≤T∧T≤3+c.N+7:=by
 obtain⟨i,hi,_,e⟩:=P.t2
 have:=P.on i hi
 have:=P.ok.cf.n0
 have:=P.ok.cf.n1
 omega
theorem okI_item {N PL:Nat} {o:Option Fr} (h:∀ f,o=some f→FrOk N PL f):okI (itemF o):=by
 cases o with
 | none=>exact .inl ⟨rfl,rfl⟩
 | some f =>
  show okI (if f.kind=3 then(f.pk,f.pv)else(0,0))
  by_cases e:f.kind=3
  ·rw [if_pos e];exact(h f rfl).pay
  ·rw [if_neg e];exact .inl ⟨rfl,rfl⟩
theorem wire_le (c:NC) (round:Nat):((c.Fi+round)%65536).toNat≤65535:=by omega
theorem gotL_ok {S:Nat} {g:Option (List (Nat×Nat))} (h:∀ l,g=some l→l.length=S∧∀ k,k < S→okI (l.getD k (0,0))):(gotL S g).length=S∧∀ k,k < S→okI ((gotL S g).getD k (0,0)):=by
 cases g with
 | none =>
  refine⟨by simp [gotL],fun k hk =>.inl ?_⟩
  simp [gotL,List.getD_eq_getElem?_getD,List.getElem?_replicate,hk]
 | some l=>exact h l rfl
theorem frame_ok {c:NC} {slot st:Nat} {r:Nat} {q:Option Nat} {g:Option (List (Nat×Nat))} {f:Fr} (hs:slot < c.N+c.ps.length) (hq:∀ x,q=some x→x≤255) (hg:∀ l,g=some l→l.length=c.N+c.ps.length∧∀ k,k < c.N+c.ps.length→okI (l.getD k (0,0)))
 (h:frameF c.N (c.N+c.ps.length) ((c.Fi+r)%65536).toNat slot st q g=some f):FrOk c.N c.ps.length f:=by
 obtain⟨g1,g2⟩:=gotL_ok hg
 unfold frameF at h
 split at h
 ·injection h with h
  subst h
  refine⟨by simp,by simp,wire_le c r,hs,fun _=>rfl,?_,fun _=>?_,fun e=>absurd rfl e,?_,fun k hk=>?_⟩
  ·cases q with
   | none=>exact .inr (.inl ⟨rfl,rfl⟩)
   | some x=>exact .inr (.inr ⟨rfl,hq x rfl⟩)
  ·show(if q.isSome=true then 2 else 1)≠0
   split <;> decide
  ·show(if slot < c.N then gotL (c.N+c.ps.length) g else []).length=if 3=3∧slot < c.N then c.N+c.ps.length else 0
   by_cases e:slot < c.N
   ·rw [if_pos e,if_pos ⟨rfl,e⟩,g1]
   ·rw [if_neg e,if_neg (fun x=>e x.2)];rfl
  ·change k < (if slot < c.N then gotL (c.N+c.ps.length) g else []).length at hk
   show okI ((if slot < c.N then gotL (c.N+c.ps.length) g else []).getD k (0,0))
   by_cases e:slot < c.N
   ·rw [if_pos e]at hk ⊢;exact g2 k (by omega)
   ·rw [if_neg e]at hk;simp at hk
 ·split at h
  ·next h23 =>
   split at h
   ·next e =>
    injection h with h
    subst h
    have h3:sendsF st=1∨sendsF st=2:=by rcases h23 with rfl | rfl <;> simp [sendsF]
    refine⟨by simp only;omega,by simp only;omega,wire_le c r,hs,fun e2=>absurd e (by simp only at e2;omega),.inl ⟨rfl,rfl⟩,fun e2=>absurd e2 (by simp only;omega),fun _=>rfl,?_,fun k hk=>absurd hk (by simp)⟩
    show([]:List (Nat×Nat)).length=if sendsF st=3∧slot < c.N then c.N+c.ps.length else 0
    rw [if_neg (fun e2=>by have:=e2.1;omega)];rfl
   ·cases h
  ·cases h
theorem qS_sub {c:NC} {st:Nat→Nat} {q:Nat→Nat→Option Nat} {i j x:Nat}:∀ s,qS c st q s i j=some x→q i j=some x
 | 0,h=>h
 | s+1,h=>by
  change A51.qF (owners c.N c.ps s) st (qS c st q s) s i j=some x at h
  unfold A51.qF at h
  split at h
  ·unfold took at h
   split at h
   ·cases h
   ·exact qS_sub s h
  ·exact qS_sub s h
theorem qK_sub {cl:List Cl} {r:Nat} {q:Nat→Nat→Option Nat} {v i j x:Nat} (hv:∀ k,k < cl.length→(cl.getD k ⟨0,0,0,0⟩).v=v):∀ k,k≤cl.length→qK cl r q k i j=some x→q i j=some x∨x=v
 | 0,_,h =>.inl h
 | k+1,hk,h=>by
  unfold qK at h
  split at h
  ·change (if i=(cl.getD k ⟨0,0,0,0⟩).node then sentQ (qK cl r q k i) _ _ else qK cl r q k i) j=some x at h
   split at h
   ·unfold sentQ at h
    split at h
    ·injection h with h
     exact .inr (by rw [← h,hv k (by omega)])
    ·exact qK_sub hv k (by omega) h
   ·exact qK_sub hv k (by omega) h
  ·exact qK_sub hv k (by omega) h
theorem qK_other {cl:List Cl} {r:Nat} {q:Nat→Nat→Option Nat} (h:∀ k,k < cl.length→(cl.getD k ⟨0,0,0,0⟩).round≠r):∀ k,k≤cl.length→qK cl r q k=q
 | 0,_=>rfl
 | k+1,hk=>by
  unfold qK
  rw [if_neg (h k (by omega)),qK_other h k (by omega)]
theorem stNext_le (N i st tm h:Nat):(stNext N i st tm h).1≤4:=by
 unfold stNext
 split
 ·split
  ·simp
  ·split <;> simp
 ·split
  ·simp
  ·split
   ·split
    ·simp
    ·split <;> simp
   ·split
    ·split <;> simp
    ·simp
theorem stNext_pos {N i st tm h:Nat} (h0:st≠0) (h4:st≤4):(stNext N i st tm h).1≠0:=by
 unfold stNext
 split
 ·split
  ·simp
  ·split <;> simp
 ·split
  ·simp
  ·split
   ·split
    ·simp
    ·split <;> simp
   ·split
    ·split <;> simp
    ·omega
theorem stNext_tm (N i st tm h:Nat):(stNext N i st tm h).2≤tm+1:=by
 unfold stNext
 split
 ·split
  ·simp
  ·split <;> simp
 ·split
  ·simp
  ·split
   ·split
    ·simp
    ·split <;> simp
   ·split
    ·split <;> simp
    ·simp
theorem lineCells_int (r:Int) (f:Nat→Int×Int):∀ n,∀ u ∈ lineCells r f n,∃ y,u=Z Y y
 | 0,u,h=>by cases h
 | n+1,u,h=>by
  unfold lineCells at h
  rw [List.mem_append]at h
  rcases h with h | h
  ·exact lineCells_int r f n u h
  ·simp only [List.mem_cons,List.not_mem_nil,or_false]at h
   rcases h with rfl | rfl | rfl | rfl <;> exact⟨_,rfl⟩
theorem dev_is (c:NC) (h:0≤c.Er) (r:Nat) (ck:Nat→Int) (o i:Nat):∃ p,-c.Er≤p∧p≤c.Er∧devR c r ck o i=ck o-ck i+p:=by
 have:=pickN_le c.er (7*r+3*o+i) c.Er h
 exact⟨_,this.1,this.2,rfl⟩
theorem dev_right {c:NC} {r o i:Nat} {ck:Nat→Int} (h:c.kind=0∨(o:Int)≠c.fat∨(r:Int) < c.frm∨c.till≤(r:Int)):devF c r ck o i=devR c r ck o i:=by
 unfold devF locF
 rw [if_neg (fun x=>by rcases h with h | h | h | h <;> omega)]
theorem Shape.kF {c:NC} {r:Nat} {s:Stt} (hc:NOk c) (I:Shape c r s) {i:Nat} (hi:i < c.N) : -(40*(r:Int))-20≤s.kF c r i∧s.kF c r i≤40*r+20:=by
 have h0:=I.hck i hi
 have hp:=pickN_le c.dr (11*r+i) c.G hc.cf.g0
 have:=hc.cf.g1
 unfold Stt.kF ckF
 split <;> omega
theorem Shape.sF {c:NC} {r:Nat} {s:Stt} (I:Shape c r s) {i:Nat} (hi:i < c.N):s.sF c r i≤4:=by
 have:=I.hst i hi
 unfold Stt.sF stF stR
 split
 ·omega
 ·split <;> omega
theorem Shape.on0 {c:NC} {r:Nat} {s:Stt} (I:Shape c r s) {i:Nat} (hi:i < c.N) (h:c.on.getD i 0≤(r:Int)):s.sF c r i≠0:=by
 unfold Stt.sF stF stR
 split
 ·decide
 ·split
  ·decide
  ·exact I.on i hi (by omega)
theorem Shape.tF {c:NC} {r:Nat} {s:Stt} (I:Shape c r s) {i:Nat} (hi:i < c.N):s.tF c r i≤r:=by
 have:=I.htm i hi
 unfold Stt.tF tmF tmR
 split
 ·omega
 ·split <;> omega
theorem Shape.gF {c:NC} {r:Nat} {s:Stt} (I:Shape c r s) {i:Nat} (hi:i < c.N):∀ l,s.gF c r i=some l→l.length=c.N+c.ps.length∧∀ k,k < c.N+c.ps.length→okI (l.getD k (0,0)):=fun l h=>by
 unfold Stt.gF gR at h
 split at h
 ·cases h
 ·exact I.hg i hi l h
theorem Shape.qR {c:NC} {r:Nat} {s:Stt} (I:Shape c r s) {i:Nat} (hi:i < c.N) (j:Nat):qR c r s.st s.q i j=none:=by
 unfold A50.qR
 split
 ·rfl
 ·exact I.hq i hi j
theorem Shape.qF {c:NC} {T z F zc v:Nat} {r:Nat} {s:Stt} (P:Play c T z F zc v) (I:Shape c r s) {i:Nat} (hi:i < c.N) {slot j x:Nat} (h:s.qF c r slot i j=some x):x=v:=by
 have h1:=qS_sub slot h
 rcases qK_sub (v:=v) (fun k hk=>by rw [P.cl k hk]) _ (Zr _) h1 with h2 | h2
 ·rw [I.qR hi]at h2;cases h2
 ·exact h2
theorem Shape.snd {c:NC} {T z F zc v:Nat} {r:Nat} {s:Stt} (P:Play c T z F zc v) (I:Shape c r s) {i slot:Nat} (hi:i < c.N) (hs:slot < c.N+c.ps.length) {f:Fr} (h:s.snd c r slot i=some f):FrOk c.N c.ps.length f :=
 frame_ok hs (fun x hx=>by rw [I.qF P hi hx];exact P.v) (I.gF hi) h
theorem Shape.ok {c:NC} {T z F zc v:Nat} {r:Nat} {s:Stt} (P:Play c T z F zc v) (I:Shape c r s) (lt:(r:Int) < c.rounds):s.Ok c r:=by
 have rb:=P.ok.rounds1
 have hE:=P.ok.cf.e1
 have hE0:=P.ok.cf.e0
 have hp0:=P.ok.cf.p0
 have hp1:=P.ok.cf.p1
 have hG:=P.ok.cf.g0
 refine⟨lt,fun i hi=>by have:=I.hck i hi;omega,fun i hi=>by have:=I.kF P.ok hi;unfold Stt.kF at this;omega,fun i hi=>I.sF hi,fun i hi=>by have:=I.tF hi;unfold Stt.tF at this;omega,fun k hk e=>?_,fun slot hs i hi _ f hf=>I.snd P hi hs hf,fun i k hi hk=>?_,fun i hi h4 hw=>?_⟩
 ·rw [P.cl k hk]at e ⊢
  have e':r=F:=e.symm
  have hzc:=P.zc
  have hon:=P.on zc hzc
  have ht:=P.t0
  have hf:=P.f
  have h0:s.sF c r zc≠0:=I.on0 hzc (by omega)
  refine⟨hzc,rfl,P.v,h0,?_⟩
  obtain rfl:k=0:=by have:=P.cm;omega
  exact I.qR hzc _
 ·have h1:=I.kF P.ok hi
  have h2:=I.kF P.ok hk
  obtain⟨p,p1,p2,e⟩:=dev_is c hE0 r (s.kF c r) k i
  show -1000000≤devF c r (s.kF c r) k i∧devF c r (s.kF c r) k i≤1000000
  unfold devF locF
  split
  ·split <;> omega
  ·rw [e];omega
 ·have hn:=I.hn i hi
  obtain⟨h1,l,hl⟩:=I.wg i hi hw
  refine⟨h1,by omega,l,?_⟩
  unfold gR
  rw [if_neg (fun hR=>?_)]
  ·exact hl
  ·unfold stF stR at h4
   rw [if_pos hR]at h4
   split at h4 <;> omega
theorem Shape.next {c:NC} {T z F zc v:Nat} {r:Nat} {s:Stt} (P:Play c T z F zc v) (I:Shape c r s) (hck:∀ i,i < c.N → -(40*((r:Int)+1))≤(s.next c r).ck i∧(s.next c r).ck i≤40*((r:Int)+1)) (hq:∀ i,i < c.N→∀ j,(s.next c r).q i j=none):Shape c (r+1) (s.next c r):=by
 have n1:=P.ok.cf.n1
 have l1:=P.ok.cf.len
 refine⟨fun i hi=>?_,fun i hi=>?_,fun i hi=>by have:=hck i hi;omega,hq,fun i hi l h=>?_,fun i hi=>?_,fun i hi=>?_,fun i hi u hu=>?_,fun i hi h=>?_,fun i hi h=>?_⟩
 ·show(if _ then 0 else _)≤4
  split
  ·omega
  ·exact stNext_le _ _ _ _ _
 ·have h1:=I.tF hi
  have h2:=stNext_tm c.N i (s.sF c r i) (s.tF c r i) (s.hd c r i).length
  show(if s.sF c r i=0 then s.tF c r i else _)≤_
  split <;> omega
 ·change (if s.sF c r i=0 then s.gF c r i else some _)=some l at h
  split at h
  ·exact I.gF hi l h
  ·injection h with h
   subst h
   exact⟨gotE_length _ _ _,fun k hk=>by rw [gotE_at _ _ _ _ hk];exact okI_item (fun f hf=>(tkN_fr hf).1)⟩
 ·have h0:=I.hn i hi
  show(if s.sF c r i=4∧s.was i=4 then s.n i+(c.N+c.ps.length)else s.n i)≤_
  split <;> omega
 ·have h0:=I.xl i hi
  by_cases e:s.sF c r i=4∧s.was i=4
  ·have e1:(s.next c r).n i=s.n i+(c.N+c.ps.length):=if_pos e
   have e2:(s.next c r).xs i=s.xs i ++ _:=if_pos e
   rw [e1,e2,List.length_append,lineCells_length,h0];omega
  ·have e1:(s.next c r).n i=s.n i:=if_neg e
   have e2:(s.next c r).xs i=s.xs i:=if_neg e
   rw [e1,e2];exact h0
 ·change u ∈ (if _ then s.xs i ++ _ else s.xs i)at hu
  split at hu
  ·rw [List.mem_append]at hu
   rcases hu with hu | hu
   ·exact I.x1 i hi u hu
   ·exact lineCells_int _ _ _ u hu
  ·exact I.x1 i hi u hu
 ·change (if s.sF c r i=0 then 0 else s.sF c r i)=4 at h
  refine⟨by omega,_,if_neg (fun e=>?_)⟩
  rw [if_pos e]at h;omega
 ·have h0:=I.on0 hi (r:=r) (by omega)
  show(if s.sF c r i=0 then 0 else _)≠0
  rw [if_neg h0]
  exact stNext_pos h0 (I.sF hi)
end B9
namespace B10
open Go.RowKit A8 A22 A33 A39 A40 A41 A44 A45 A50 A51 A54 A62 A65 B6 B8 B9
theorem _root_.Go.Proofs.YtdbempiompiioaaGreat.B9.Play.right {c:NC} {T z F zc v:Nat} (P:Play c T z F zc v) {i:Nat} (h:i≠z):c.kind=0∨(i:Int)≠c.fat:=by
 rcases P.kd with⟨h1,_⟩ | ⟨_,h2,_⟩
 ·exact .inl h1
 ·exact .inr (by omega)
theorem noR {c:NC} {r i:Nat} {st:Nat→Nat} (h:c.kind=0∨(i:Int)≠c.fat∨c.till≠(r:Int)):¬ Rst c r st i:=fun⟨h1,h2,h3,_⟩=>by rcases h with h | h | h <;> omega
theorem sF_eq {c:NC} {r i:Nat} {s:Stt} (h:c.kind=0∨(i:Int)≠c.fat∨c.till≠(r:Int)) (hon:c.on.getD i 0≠(r:Int)):s.sF c r i=s.st i:=by
 unfold Stt.sF stF stR
 rw [if_neg hon,if_neg (noR h)]
theorem gF_eq {c:NC} {r i:Nat} {s:Stt} (h:c.kind=0∨(i:Int)≠c.fat∨c.till≠(r:Int)):s.gF c r i=s.g i:=by
 unfold Stt.gF gR
 rw [if_neg (noR h)]
theorem own_node {N s:Nat} {ps:List Int} (h:s < N) (i:Nat):(owners N ps s).contains (i:Int)=decide (i=s):=by
 rw [owners_node (by omega:(s:Int) < N)]
 by_cases e:i=s
 ·subst e;simp
 ·simp [e];omega
theorem own_ne {N s:Nat} {ps:List Int} (h:s < N):owners N ps s≠[]:=by
 rw [owners_node (by omega:(s:Int) < N)];simp
theorem tk_own {c:NC} {r sl i:Nat} {s:Stt} (h:(owners c.N c.ps sl).contains (i:Int)=true):s.tk c r sl i=none:=by
 unfold Stt.tk tkN tkS tkF
 rw [if_pos (.inl h)]
theorem frame_wire {N S wire slot st:Nat} {q:Option Nat} {g:Option (List (Nat×Nat))} {f:Fr} (h:frameF N S wire slot st q g=some f):f.round=wire∧f.slot=slot:=by
 unfold frameF at h
 split at h
 ·injection h with h;subst h;exact⟨rfl,rfl⟩
 ·split at h
  ·split at h
   ·injection h with h;subst h;exact⟨rfl,rfl⟩
   ·cases h
  ·cases h
theorem take {c:NC} {T z F zc v r:Nat} {s:Stt} (P:Play c T z F zc v) (I:Shape c r s) (lt:(r:Int) < c.rounds) {sl zz i:Nat} {f:Fr} (hs:sl < c.N+c.ps.length) (hne:owners c.N c.ps sl≠[]) (hE:c.kind=0∨c.till≤(r:Int)∨c.fat=(zz:Int))
 (hS:∀ x,x < c.N→(owners c.N c.ps sl).contains (x:Int)=true→s.snd c r sl x=some f) (hz:zz < c.N) (hzo:(owners c.N c.ps sl).contains (zz:Int)=false) (hi:i < c.N) (hio:(owners c.N c.ps sl).contains (i:Int)=false) (hiz:i≠zz)
 (hst:∀ j,j < c.N→j≠zz→s.sF c r j≠0) (hgd:∀ o,o < c.N→(owners c.N c.ps sl).contains (o:Int)=true→∀ j,j < c.N→j≠zz→s.sF c r j≠4 ∨ -(2*c.Pi)≤devF c r (s.kF c r) o j∧devF c r (s.kF c r) o j≤2*c.Pi):s.tk c r sl i=some f:=by
 have rb:=P.ok.rounds1
 obtain⟨x,hx,hxo⟩:∃ x:Nat,x < c.N∧(owners c.N c.ps sl).contains (x:Int)=true:=by
  rcases own_ways P.ok hs hne with⟨_,x,hx,e⟩ | ⟨_,x,hx,e⟩ <;> exact⟨x,hx,by rw [e];simp⟩
 have h:=hS x hx hxo
 obtain⟨w1,w2⟩:=frame_wire h
 exact take_right P.ok (by omega) hs hne hE hS (I.snd P hx hs h) (by rw [w1];omega) w2 hz hzo hi hio hiz hst hgd
theorem q_none {c:NC} {T z F zc v r:Nat} {s:Stt} (P:Play c T z F zc v) (I:Shape c r s) (h:r≠F) {i j sl:Nat} (hi:i < c.N):s.qF c r sl i j=none:=by
 cases e:s.qF c r sl i j with
 | none=>rfl
 | some x =>
  have h1:=qS_sub sl e
  rw [qK_other (fun k hk e=>h (by rw [P.cl k hk]at e;exact e.symm)) _ (Zr _),I.qR hi]at h1
  cases h1
theorem hd_dev {c:NC} {T z F zc v r:Nat} {s:Stt} (P:Play c T z F zc v) {i:Nat} (h:c.kind=0∨(r:Int) < c.frm∨c.till≤(r:Int)∨(i:Int)=c.fat) (hi:i < c.N):∀ x ∈ s.hd c r i,∃ k p,k < c.N∧k≠i ∧ -c.Er≤p∧p≤c.Er∧x.dev=s.kF c r k-s.kF c r i+p:=by
 intro x hx
 rw [Stt.hd_def]at hx
 obtain⟨k,f,hk,ht,rfl⟩:=hdK_mem hx
 have hki:k≠i:=fun e=>by
  subst e
  rw [tk_own (by rw [own_node hk];simp)]at ht
  cases ht
 obtain⟨p,p1,p2,e⟩:=dev_is c P.ok.cf.e0 r (s.kF c r) k i
 refine⟨k,p,hk,hki,p1,p2,?_⟩
 show devF c r (s.kF c r) k i=_
 rw [dev_right (by omega),e]
theorem ck_far {c:NC} {T z F zc v r:Nat} {s:Stt} (P:Play c T z F zc v) (I:Shape c r s) {i:Nat} (h:c.kind=0∨(r:Int) < c.frm∨c.till≤(r:Int)∨(i:Int)=c.fat) (hi:i < c.N) : -(40*((r:Int)+1))≤(s.next c r).ck i∧(s.next c r).ck i≤40*((r:Int)+1):=by
 have hE:=P.ok.cf.e1
 have hk:=I.kF P.ok hi
 show -(40*((r:Int)+1))≤(if s.sF c r i=0 then s.kF c r i else _)∧(if s.sF c r i=0 then s.kF c r i else _)≤_
 split
 ·omega
 ·have:=sync_le (st:=s.sF c r i) (i:=i) (l:=s.hd c r i) (lo:=-(40*(r:Int))-40-s.kF c r i) (hi:=40*r+40-s.kF c r i) (by omega) (fun x hx=>by
   obtain⟨k,p,hk,_,p1,p2,e⟩:=hd_dev P h hi x hx
   have:=I.kF P.ok hk
   omega)
  omega
theorem hd_len {tk:Nat→Option Fr} {dv:Nat→Int} {z i:Nat}:∀ n,(∀ k,k < n→k≠z→k≠i→∃ f,tk k=some f)→n≤(hdK tk dv n).length+(if z < n then 1 else 0)+(if i < n then 1 else 0)
 | 0,_=>Nat.zero_le _
 | n+1,h=>by
  have ih:=hd_len (dv:=dv) (z:=z) (i:=i) n (fun k hk=>h k (by omega))
  have hm:(hdK tk dv n).length≤(hdK tk dv (n+1)).length:=by
   cases ht:tk n with
   | none=>rw [show hdK tk dv (n+1)=hdK tk dv n by simp [hdK,ht]];exact Zr _
   | some f=>rw [show hdK tk dv (n+1)=hdK tk dv n ++ [⟨n,f.kind,dv n⟩]by simp [hdK,ht],List.length_append];omega
  by_cases e1:n=z
  ·subst e1
   split <;> split <;> split at ih <;> split at ih <;> omega
  ·by_cases e2:n=i
   ·subst e2
    split <;> split <;> split at ih <;> split at ih <;> omega
   ·obtain⟨f,hf⟩:=h n (by omega) e1 e2
    have hh:(hdK tk dv (n+1)).length=(hdK tk dv n).length+1:=by simp [hdK,hf]
    split <;> split <;> split at ih <;> split at ih <;> omega
theorem data_len (l:List Hd):∀ k,(dataK l k).length≤k
 | 0=>Zr _
 | k+1=>by
  have:=data_len l k
  unfold dataK
  split
  ·rw [List.length_append,List.length_singleton];omega
  ·omega
theorem next_st {c:NC} {r i:Nat} {s:Stt} (h:s.sF c r i≠0):(s.next c r).st i=(stNext c.N i (s.sF c r i) (s.tF c r i) (s.hd c r i).length).1:=if_neg h
theorem next_tm {c:NC} {r i:Nat} {s:Stt} (h:s.sF c r i≠0):(s.next c r).tm i=(stNext c.N i (s.sF c r i) (s.tF c r i) (s.hd c r i).length).2:=if_neg h
theorem next_ck {c:NC} {r i:Nat} {s:Stt} (h:s.sF c r i≠0):(s.next c r).ck i=s.kF c r i+syncF (s.sF c r i) i (s.hd c r i):=if_neg h
theorem next_was {c:NC} {r i:Nat} {s:Stt}:(s.next c r).was i=s.sF c r i:=by
 show(if s.sF c r i=0 then 0 else s.sF c r i)=_
 split <;> omega
theorem next_xs {c:NC} {r i:Nat} {s:Stt} (h:¬(s.sF c r i=4∧s.was i=4)):(s.next c r).xs i=s.xs i:=if_neg h
theorem quiet {c:NC} {T z F zc v r:Nat} {s:Stt} (P:Play c T z F zc v) (lt:(r:Int) < c.rounds) (h:∀ i,i < c.N→i≠z→s.sF c r i=0∨s.sF c r i=1) (hr:c.kind=1→(r:Int) < c.frm) {i:Nat} (hi:i < c.N) (hiz:i≠z):s.hd c r i=[]:=by
 have rb:=P.ok.rounds1
 have hft:=P.ok.till
 rw [Stt.hd_def]
 refine hdK_nil (fun k hk=>?_)
 have hn:∀ x,x < c.N→x≠z→s.snd c r k x=none:=fun x hx hxz=>by
  unfold Stt.snd ownF frameF
  rcases h x hx hxz with e | e <;> simp [e]
 refine take_none (z:=z) P.ok (by omega) (by omega) ?_
 rcases P.kd with⟨h1,h2⟩ | ⟨h1,h2,h3⟩
 ·exact .inl ⟨h1,fun x hx _=>hn x hx (by omega)⟩
 ·exact .inr ⟨h1,h2,hr h1,by have:=hr h1;omega,hiz,fun x hx hxz _=>hn x hx hxz⟩
theorem tk_call {c:NC} {T z F zc v r:Nat} {s:Stt} (P:Play c T z F zc v) (I:Shape c r s) (lt:(r:Int) < c.rounds) (h:∀ i,i < c.N→i≠z→s.sF c r i≠0∧s.sF c r i≠4) (hr:c.kind=1→(r:Int) < c.frm) {k i:Nat} (hk:k < c.N) (hi:i < c.N) (hiz:i≠z):s.tk c r k i=if k=i∨k=z then none else s.snd c r k k:=by
 have rb:=P.ok.rounds1
 have hft:=P.ok.till
 by_cases e1:k=i
 ·rw [if_pos (.inl e1),tk_own (by rw [own_node hk];simp [e1])]
 by_cases e2:k=z
 ·rw [if_pos (.inr e2)]
  rcases P.kd with⟨h1,h2⟩ | ⟨h1,h2,h3⟩
  ·omega
  ·refine take_none (z:=z) P.ok (by omega) (by omega) (.inr ⟨h1,h2,hr h1,by have:=hr h1;omega,hiz,fun x hx hxz ho=>?_⟩)
   rw [own_node hk]at ho
   exact absurd ((of_decide_eq_true ho).trans e2) hxz
 rw [if_neg (fun x=>x.elim e1 e2)]
 cases hsn:s.snd c r k k with
 | none =>
  have hn:∀ x,x < c.N→(owners c.N c.ps k).contains (x:Int)=true→s.snd c r k x=none:=fun x hx ho=>by
   rw [own_node hk]at ho
   rw [of_decide_eq_true ho];exact hsn
  refine take_none (z:=z) P.ok (by omega) (by omega) ?_
  rcases P.kd with⟨h1,h2⟩ | ⟨h1,h2,h3⟩
  ·exact .inl ⟨h1,hn⟩
  ·exact .inr ⟨h1,h2,hr h1,by have:=hr h1;omega,hiz,fun x hx _ ho=>hn x hx ho⟩
 | some f =>
  have hn:∀ x,x < c.N→(owners c.N c.ps k).contains (x:Int)=true→s.snd c r k x=some f:=fun x hx ho=>by
   rw [own_node hk]at ho
   rw [of_decide_eq_true ho];exact hsn
  have hio:(owners c.N c.ps k).contains (i:Int)=false:=by rw [own_node hk];exact decide_eq_false (Ne.symm e1)
  rcases P.kd with⟨h1,h2⟩ | ⟨h1,h2,h3⟩
  ·obtain⟨zz,z1,z2,z3⟩:=own_other P.ok (slot:=k) (by omega) i
   exact take P I lt (by omega) (own_ne hk) (.inl h1) hn z1 z3 hi hio (Ne.symm z2) (fun j hj _=>(h j hj (by omega)).1) (fun o ho _ j hj _ =>.inl (h j hj (by omega)).2)
  ·exact take P I lt (by omega) (own_ne hk) (.inr (.inr h2)) hn h3 (by rw [own_node hk];exact decide_eq_false (Ne.symm e2)) hi hio hiz (fun j hj e=>(h j hj e).1) (fun o ho _ j hj e =>.inl (h j hj e).2)
end B10
namespace B11
open Go.RowKit A8 A33 A39 A40 A41 A45 A48 A50 B8 B9 B10
def Wd (c:NC):Int:=4*c.Er+2*c.G+2
def S0 (c:NC) (T:Nat):Nat:=if c.kind=1 then c.till.toNat+2 else T+2
def payP (c:NC) (F zc v r s:Nat):Nat×Nat:=if s < c.N then(if r=F∧s=zc∧c.cl.length≠0 then(2,v)else(1,0))else if owners c.N c.ps s=[]then(0,0)else(1,0)
def toI (p:Nat×Nat):Int×Int:=(p.1,p.2)
structure Inv (c:NC) (T z F zc v r:Nat) (s:Stt):Prop where
 sh:Shape c r s
 p1:r≤T→∀ i,i < c.N→i≠z→s.st i=(if(r:Int)≤c.on.getD i 0 then 0 else if(r:Int)=c.on.getD i 0+c.N+i then 2 else 1)∧(s.st i=1→(s.tm i:Int)=r-c.on.getD i 0)
 p2:r=T+1→∀ i,i < c.N→i≠z→s.st i=3
 p3:T+2≤r→(∀ i,i < c.N→i≠z→s.st i=4)∧∀ i j,i < c.N→j < c.N→i≠z→j≠z→s.ck i-s.ck j≤Wd c
 d1:c.kind=1→(r:Int)=c.till+1→s.st z=3
 pE:c.kind=1→c.till+2≤(r:Int)→s.st z=4∧∀ i,i < c.N→i≠z→s.ck z-s.ck i≤Wd c∧s.ck i-s.ck z≤Wd c
 w0:c.kind=0→r≤T+2→∀ i,i < c.N→s.was i≠4
 x0:c.kind=0→r≤T+3→∀ i,i < c.N→s.xs i=[]
 p4:S0 c T+1≤r→∀ i,i < c.N→s.was i=4∧∃ l,s.g i=some l∧∀ sl,sl < c.N+c.ps.length→(owners c.N c.ps sl).contains (i:Int)=false→l.getD sl (0,0)=payP c F zc v (r-1) sl
 p5:S0 c T+2≤r→∀ i,i < c.N→∃ pre,s.xs i=pre ++ lineCells ((r:Int)-2) (fun sl=>toI (payP c F zc v (r-2) sl)) (c.N+c.ps.length)
 p6:c.kind=0→T+4≤r→∀ i,i < c.N→∃ post,s.xs i=lineCells ((T:Int)+2) (fun sl=>toI (payP c F zc v (T+2) sl)) (c.N+c.ps.length) ++ post
def Stt.start:Stt:=⟨fun _=>0,fun _=>0,fun _=>0,fun _=>0,fun _ _=>none,fun _=>none,fun _=>0,fun _=>[]⟩
theorem S0_ge {c:NC} {T z F zc v:Nat} (P:Play c T z F zc v):T+2≤S0 c T:=by
 have:=P.frm
 have:=P.ok.till
 unfold S0
 split <;> omega
theorem S0_le {c:NC} {T z F zc v:Nat} (P:Play c T z F zc v):S0 c T≤F:=by
 have:=P.f
 have:=P.f1
 have:=P.frm
 have:=P.ok.till
 unfold S0
 split <;> omega
theorem Inv.begin {c:NC} {T z F zc v:Nat} (P:Play c T z F zc v):Inv c T z F zc v 0 Stt.start:=by
 have:=S0_ge P
 have:=P.frm
 have:=P.ok.till
 refine⟨⟨fun i hi=>Nat.zero_le _,fun i hi=>Zr _,fun i hi=>⟨by show -(40*((0:Nat):Int))≤0;omega,by show(0:Int)≤40*((0:Nat):Int);omega⟩,fun i hi j=>rfl,(fun i hi l h=>by cases h),fun i hi=>Nat.zero_le _,fun i hi=>rfl,(fun i hi u h=>by cases h),(fun i hi h=>by cases h),fun i hi h=>by have:=(P.on i hi).1;omega⟩,
  fun _ i hi _=>⟨by have:=(P.on i hi).1;show 0=_;rw [if_pos (by omega)],(fun h=>by cases h)⟩,fun h=>by omega,fun h=>by omega,fun h1 h=>by have:=P.frm h1;omega,fun h1 h=>by have:=P.frm h1;omega,(fun _ _ i hi h=>by cases h),fun _ _ i hi=>rfl,fun h=>by omega,fun h=>by omega,fun _ h=>by omega⟩
theorem Inv.silent {c:NC} {T z F zc v r:Nat} {s:Stt} (P:Play c T z F zc v) (I:Inv c T z F zc v r s) (hr:r < T) (lt:(r:Int) < c.rounds):Inv c T z F zc v (r+1) (s.next c r):=by
 have h0:=S0_ge P
 have hfr:=P.frm
 have hft:=P.ok.till
 have hf:=P.f
 have nt:c.kind=0∨c.till≠(r:Int):=P.ok.kind.imp id (fun h=>by have:=hfr h;omega)
 have h1:∀ i,i < c.N→i≠z→(s.sF c r i=0∧(r:Int) < c.on.getD i 0)∨(s.sF c r i=1∧c.on.getD i 0≤(r:Int)∧(s.tF c r i:Int)=r-c.on.getD i 0):=fun i hi hiz=>by
  obtain⟨h,h'⟩:=I.p1 (by omega) i hi hiz
  have:=P.t1 i hi hiz
  have hR:¬ Rst c r s.st i:=noR (by omega)
  unfold Stt.sF Stt.tF stF tmF stR tmR
  rw [if_neg hR,if_neg hR]
  by_cases e:c.on.getD i 0=(r:Int)
  ·rw [if_pos e,if_pos e];exact .inr ⟨rfl,by omega,by omega⟩
  ·rw [if_neg e,if_neg e]
   by_cases e2:(r:Int)≤c.on.getD i 0
   ·rw [if_pos e2]at h;exact .inl ⟨h,by omega⟩
   ·rw [if_neg e2,if_neg (by omega)]at h;exact .inr ⟨h,by omega,h' h⟩
 have h01:∀ i,i < c.N→i≠z→s.sF c r i=0∨s.sF c r i=1:=fun i hi hiz=>(h1 i hi hiz).imp (·.1) (·.1)
 have k0:c.kind=0→∀ i,i < c.N→i≠z:=fun h i hi=>by rcases P.kd with⟨_,e⟩ | ⟨e,_⟩ <;> omega
 refine⟨I.sh.next P (fun i hi=>ck_far P I.sh (P.ok.kind.imp id (fun h =>.inl (by have:=hfr h;omega))) hi) (fun i hi j=>q_none P I.sh (by omega) hi),fun h i hi hiz=>?_,fun h=>by omega,fun h=>by omega,fun h1 h=>by have:=hfr h1;omega,fun h1 h=>by have:=hfr h1;omega,fun h1 _ i hi=>?_,fun h1 _ i hi=>?_,fun h=>by omega,fun h=>by omega,fun _ h=>by omega⟩
 ·have hq:=quiet P lt h01 (fun h=>by have:=hfr h;omega) hi hiz
  rcases h1 i hi hiz with⟨e,e2⟩ | ⟨e,e2,e3⟩
  ·have e5:((r+1:Nat):Int)≤c.on.getD i 0:=by omega
   have es:(s.next c r).st i=0:=if_pos e
   rw [es,if_pos e5]
   exact⟨rfl,fun h=>by omega⟩
  ·have n0:¬ s.sF c r i=0:=by omega
   have e5:¬((r+1:Nat):Int)≤c.on.getD i 0:=by omega
   rw [next_st n0,next_tm n0,hq,e,if_neg e5]
   by_cases e4:c.N+i≤s.tF c r i+1
   ·have:=P.t1 i hi hiz
    have e6:((r+1:Nat):Int)=c.on.getD i 0+c.N+i:=by omega
    rw [if_pos e6]
    simp [stNext,e4]
   ·have e6:¬((r+1:Nat):Int)=c.on.getD i 0+c.N+i:=by omega
    rw [if_neg e6]
    simp only [stNext,if_true,if_neg (Nat.lt_irrefl 0)]
    rw [if_neg (by simp),if_neg e4]
    exact⟨rfl,fun _=>by simp only;omega⟩
 ·rw [next_was]
  rcases h01 i hi (k0 h1 i hi)with e | e <;> rw [e] <;> decide
 ·rw [next_xs (fun x=>by rcases h01 i hi (k0 h1 i hi)with e | e <;> omega)]
  exact I.x0 h1 (by omega) i hi
theorem frame_call {N S wire slot st:Nat} {q:Option Nat} {g:Option (List (Nat×Nat))} (h:st=2∨st=3) (hs:slot < N):frameF N S wire slot st q g=some ⟨sendsF st,wire,slot,0,0,[]⟩:=by
 unfold frameF
 rw [if_neg (by omega),if_pos h,if_pos hs]
theorem sync3 {i:Nat} {l:List Hd} (h:∀ x ∈ l,x.kind≠3):syncF 3 i l=chosenF l (fun k=>decide (i < k)):=by
 have:=dataK_none' h
 unfold syncF chosenG
 rw [this]
 simp
theorem Inv.first {c:NC} {T z F zc v r:Nat} {s:Stt} (P:Play c T z F zc v) (I:Inv c T z F zc v r s) (hr:r=T∨r=T+1) (lt:(r:Int) < c.rounds):Inv c T z F zc v (r+1) (s.next c r):=by
 have h0:=S0_ge P
 have hfr:=P.frm
 have hft:=P.ok.till
 have hf:=P.f
 have ht0:=P.t0
 have n0:=P.ok.cf.n0
 have n1:=P.ok.cf.n1
 have hE0:=P.ok.cf.e0
 have hG0:=P.ok.cf.g0
 have nt:c.kind=0∨c.till≠(r:Int):=P.ok.kind.imp id (fun h=>by have:=hfr h;omega)
 have hon:∀ i,i < c.N→c.on.getD i 0≠(r:Int)∧c.on.getD i 0 < (r:Int):=fun i hi=>by have:=P.on i hi;omega
 have hs:∀ i,i < c.N→i≠z→s.sF c r i=s.st i:=fun i hi hiz=>sF_eq (by omega) (hon i hi).1
 have h:∀ i,i < c.N→i≠z→(r=T∧(s.sF c r i=1∨s.sF c r i=2))∨(r=T+1∧s.sF c r i=3):=fun i hi hiz=>by
  rw [hs i hi hiz]
  rcases hr with e | e
  ·obtain⟨h1,_⟩:=I.p1 (by omega) i hi hiz
   have:=hon i hi
   rw [if_neg (by omega)]at h1
   refine .inl ⟨e,?_⟩
   split at h1
   ·exact .inr h1
   ·exact .inl h1
  ·exact .inr ⟨e,I.p2 e i hi hiz⟩
 have h04:∀ i,i < c.N→i≠z→s.sF c r i≠0∧s.sF c r i≠4:=fun i hi hiz=>by have:=h i hi hiz;omega
 have hrf:c.kind=1→(r:Int) < c.frm:=fun h=>by have:=hfr h;omega
 have htk:∀ k i,k < c.N→i < c.N→i≠z→s.tk c r k i=if k=i∨k=z then none else s.snd c r k k:=fun k i hk hi hiz=>tk_call P I.sh lt h04 hrf hk hi hiz
 have k0:c.kind=0→∀ i,i < c.N→i≠z:=fun h i hi=>by rcases P.kd with⟨_,e⟩ | ⟨e,_⟩ <;> omega
 have hsn:∀ k,k < c.N→(s.sF c r k=2∨s.sF c r k=3)→s.snd c r k k=some ⟨sendsF (s.sF c r k),((c.Fi+r)%65536).toNat,k,0,0,[]⟩:=fun k hk e=>frame_call e hk
 refine⟨I.sh.next P (fun i hi=>ck_far P I.sh (P.ok.kind.imp id (fun h =>.inl (hrf h))) hi) (fun i hi j=>q_none P I.sh (by omega) hi),fun h'=>by omega,fun h' i hi hiz=>?_,fun h'=>⟨fun i hi hiz=>?_,?_⟩,fun h1 h'=>by have:=hfr h1;omega,fun h1 h'=>by have:=hfr h1;omega,fun h1 _ i hi=>?_,fun h1 _ i hi=>?_,fun h'=>by omega,fun h'=>by omega,fun _ h'=>by omega⟩
 ·rw [next_st (h04 i hi hiz).1]
  rcases h i hi hiz with⟨e,e1 | e1⟩ | ⟨e,e1⟩
  ·obtain⟨j,hj,hjz,ej⟩:=P.t2
   have sj:s.sF c r j=2:=by
    rw [hs j hj hjz,(I.p1 (by omega) j hj hjz).1,if_neg (by have:=hon j hj;omega),if_pos (by omega)]
   have hji:j≠i:=fun x=>by subst x;omega
   have hp:0 < (s.hd c r i).length:=by
    rw [Stt.hd_def]
    refine hdK_in (k:=j) (f:=⟨sendsF (s.sF c r j),((c.Fi+r)%65536).toNat,j,0,0,[]⟩) ?_ _ hj
    rw [htk j i hj hi hiz,if_neg (fun x=>x.elim hji hjz),hsn j hj (.inl sj)]
   simp [stNext,e1,hp]
  ·simp [stNext,e1]
  ·omega
 ·have s3:∀ i,i < c.N→i≠z→s.sF c r i=3:=fun i hi hiz=>by have:=h i hi hiz;omega
  rw [next_st (h04 i hi hiz).1,s3 i hi hiz]
  have hl:c.N≤(s.hd c r i).length+2:=by
   rw [Stt.hd_def]
   have:=hd_len (tk:=fun k=>s.tk c r k i) (dv:=fun k=>devF c r (s.kF c r) k i) (z:=z) (i:=i) c.N (fun k hk e1 e2=>⟨_,by rw [htk k i hk hi hiz,if_neg (fun x=>x.elim e2 e1),hsn k hk (.inr (s3 k hk e1))]⟩)
   rw [if_pos hi]at this
   split at this <;> omega
  have:c.N / 2+1≤(s.hd c r i).length+1:=by omega
  simp [stNext,this]
 ·have s3:∀ i,i < c.N→i≠z→s.sF c r i=3:=fun i hi hiz=>by have:=h i hi hiz;omega
  obtain⟨m,hm,hmz,hml⟩:∃ m,m < c.N∧m≠z∧∀ k,k < m→k=z:=by
   by_cases e:z=0
   ·exact⟨1,by omega,by omega,fun k hk=>by omega⟩
   ·exact⟨0,by omega,by omega,fun k hk=>by omega⟩
  have hck:∀ i,i < c.N→i≠z→∃ p,-c.Er≤p∧p≤c.Er∧(s.next c r).ck i=s.kF c r m+p:=fun i hi hiz=>by
   have hk3:∀ x ∈ s.hd c r i,x.kind≠3:=fun x hx=>by
    rw [Stt.hd_def]at hx
    obtain⟨k,f,hk,ht,rfl⟩:=hdK_mem hx
    rw [htk k i hk hi hiz]at ht
    split at ht
    ·cases ht
    ·next e =>
     rw [hsn k hk (.inr (s3 k hk (fun x=>e (.inr x))))]at ht
     injection ht with ht
     subst ht
     show sendsF (s.sF c r k)≠3
     rw [s3 k hk (fun x=>e (.inr x))]
     decide
   rw [next_ck (h04 i hi hiz).1,s3 i hi hiz,sync3 hk3]
   by_cases e:i=m
   ·subst e
    refine⟨0,by omega,by omega,?_⟩
    have:chosenF (s.hd c r i) (fun k=>decide (i < k))=0:=by
     cases hh:s.hd c r i with
     | nil=>rfl
     | cons x l =>
      have hx:x ∈ s.hd c r i:=by rw [hh];exact List.mem_cons_self ..
      rw [Stt.hd_def]at hx
      obtain⟨k,f,hk,ht,rfl⟩:=hdK_mem hx
      rw [htk k i hk hi hiz]at ht
      split at ht
      ·cases ht
      ·next e =>
       have hik:i < k:=by
        rcases Nat.lt_or_ge i k with e1 | e1
        ·exact e1
        ·rcases Nat.lt_or_ge k i with e2 | e2
         ·exact absurd (hml k e2) (fun x=>e (.inr x))
         ·exact absurd (by omega:k=i) (fun x=>e (.inl x))
       show(if decide (i < k)=true then(0:Int)else _)=0
       rw [if_pos (by simpa using hik)]
    rw [this]
   ·obtain⟨p,p1,p2,ep⟩:=dev_is c hE0 r (s.kF c r) m i
    have hmi:¬(m=i∨m=z):=fun x=>x.elim (fun x=>e x.symm) hmz
    obtain⟨l,hl⟩:=hdK_head (dv:=fun k=>devF c r (s.kF c r) k i) (tk:=fun k=>s.tk c r k i) (k0:=m) (f0:=⟨sendsF (s.sF c r m),((c.Fi+r)%65536).toNat,m,0,0,[]⟩) (by rw [htk m i hm hi hiz,if_neg hmi,hsn m hm (.inr (s3 m hm hmz))]) (fun k hk=>by rw [htk k i (by omega) hi hiz,if_pos (.inr (hml k hk))]) c.N hm
    refine⟨p,p1,p2,?_⟩
    rw [Stt.hd_def,hl]
    have him:¬ i < m:=fun x=>hiz (hml i x)
    show s.kF c r i+(if decide (i < m)=true then(0:Int)else devF c r (s.kF c r) m i)=_
    rw [if_neg (by simpa using him),dev_right (P.ok.kind.imp id (fun h =>.inr (.inl (hrf h)))),ep]
    omega
  intro i j hi hj hiz hjz
  obtain⟨p,p1,p2,e1⟩:=hck i hi hiz
  obtain⟨p',p3,p4,e2⟩:=hck j hj hjz
  rw [e1,e2]
  unfold Wd
  omega
 ·rw [next_was]
  exact(h04 i hi (k0 h1 i hi)).2
 ·rw [next_xs (fun x=>(h04 i hi (k0 h1 i hi)).2 x.1)]
  exact I.x0 h1 (by omega) i hi
end B11
namespace B12
open Go.RowKit A8 A22 A33 A38 A40 A41 A44 A45 A50 A51 B7 B8 B9 B10 B11
theorem k0 {c:NC} {T z F zc v:Nat} (P:Play c T z F zc v) (h:c.kind=0) {i:Nat} (hi:i < c.N):i≠z:=by rcases P.kd with⟨_,e⟩ | ⟨e,_⟩ <;> omega
theorem S0_1 {c:NC} {T z F zc v r:Nat} (P:Play c T z F zc v) (h:c.kind=1):S0 c T≤r↔c.till+2≤(r:Int):=by
 have:=P.frm h
 have:=P.ok.till
 unfold S0
 rw [if_pos h]
 omega
theorem on_ne {c:NC} {T z F zc v r:Nat} (P:Play c T z F zc v) (hr:T+2≤r) {i:Nat} (hi:i < c.N):c.on.getD i 0 < (r:Int):=by
 have:=P.on i hi
 have:=P.t0
 omega
theorem sF_4 {c:NC} {T z F zc v r:Nat} {s:Stt} (P:Play c T z F zc v) (I:Inv c T z F zc v r s) (hr:T+2≤r) {i:Nat} (hi:i < c.N) (h:i≠z∨S0 c T≤r):s.sF c r i=4:=by
 have hon:=on_ne P hr hi
 by_cases e:i=z
 ·subst e
  rcases P.kd with⟨h1,h2⟩ | ⟨h1,h2,h3⟩
  ·omega
  ·have h4:=(S0_1 P h1).mp (h.elim (fun x=>absurd rfl x) id)
   rw [sF_eq (by omega) (by omega)]
   exact(I.pE h1 h4).1
 ·rw [sF_eq (by have:=P.right e;omega) (by omega)]
  exact(I.p3 hr).1 i hi e
theorem sF_z {c:NC} {T z F zc v r:Nat} {s:Stt} (P:Play c T z F zc v) (I:Inv c T z F zc v r s) (hr:T+2≤r) (h:c.kind=1):((r:Int)=c.till→s.sF c r z=1)∧((r:Int)=c.till+1→s.sF c r z=3):=by
 rcases P.kd with⟨h1,h2⟩ | ⟨h1,h2,h3⟩
 ·omega
 have hon:=on_ne P hr h3
 refine⟨fun e=>?_,fun e=>?_⟩
 ·have hR:Rst c r s.st z:=⟨h1,e.symm,h2.symm,I.sh.on z h3 hon⟩
  unfold Stt.sF stF stR
  rw [if_neg (by omega),if_pos hR]
 ·rw [sF_eq (by omega) (by omega)]
  exact I.d1 h e
theorem near_ck {c:NC} {T z F zc v r:Nat} {s:Stt} (P:Play c T z F zc v) (I:Inv c T z F zc v r s) (hr:T+2≤r) {i j:Nat} (hi:i < c.N) (hj:j < c.N) (h:i≠z∨S0 c T≤r) (h':j≠z∨S0 c T≤r):s.ck i-s.ck j≤Wd c:=by
 have hE:=P.ok.cf.e0
 have hG:=P.ok.cf.g0
 by_cases e:i=z
 ·subst e
  rcases P.kd with⟨h1,h2⟩ | ⟨h1,h2,h3⟩
  ·omega
  have h4:=I.pE h1 ((S0_1 P h1).mp (h.elim (fun x=>absurd rfl x) id))
  by_cases e':j=i
  ·subst e';unfold Wd;omega
  ·exact(h4.2 j hj e').1
 ·by_cases e':j=z
  ·subst e'
   rcases P.kd with⟨h1,h2⟩ | ⟨h1,h2,h3⟩
   ·omega
   have h4:=I.pE h1 ((S0_1 P h1).mp (h'.elim (fun x=>absurd rfl x) id))
   exact(h4.2 i hi e).2
  ·exact(I.p3 hr).2 i j hi hj e e'
theorem kF_ck {c:NC} {T z F zc v r:Nat} (P:Play c T z F zc v) (s:Stt) (i:Nat):s.ck i-c.G≤s.kF c r i∧s.kF c r i≤s.ck i+c.G:=by
 have hp:=pickN_le c.dr (11*r+i) c.G P.ok.cf.g0
 have:=P.ok.cf.g0
 unfold Stt.kF ckF
 split <;> omega
theorem near_kF {c:NC} {T z F zc v r:Nat} {s:Stt} (P:Play c T z F zc v) (I:Inv c T z F zc v r s) (hr:T+2≤r) {i j:Nat} (hi:i < c.N) (hj:j < c.N) (h:i≠z∨S0 c T≤r) (h':j≠z∨S0 c T≤r):s.kF c r i-s.kF c r j≤Wd c+2*c.G:=by
 have:=near_ck P I hr hi hj h h'
 have:=kF_ck (r:=r) P s i
 have:=kF_ck (r:=r) P s j
 omega
theorem dev_of {c:NC} {T z F zc v r:Nat} (P:Play c T z F zc v) (s:Stt) {o i:Nat} (ho:o < c.N) (h:o≠z∨S0 c T≤r):∃ p,-c.Er≤p∧p≤c.Er∧devF c r (s.kF c r) o i=s.kF c r o-s.kF c r i+p:=by
 obtain⟨p,p1,p2,e⟩:=dev_is c P.ok.cf.e0 r (s.kF c r) o i
 refine⟨p,p1,p2,?_⟩
 rw [dev_right,e]
 by_cases e:o=z
 ·subst e
  rcases P.kd with⟨h1,h2⟩ | ⟨h1,h2,h3⟩
  ·omega
  have h4:=(S0_1 P h1).mp (h.elim (fun x=>absurd rfl x) id)
  omega
 ·have:=P.right e
  omega
theorem guard_ok {c:NC} {T z F zc v r:Nat} {s:Stt} (P:Play c T z F zc v) (I:Inv c T z F zc v r s) (hr:T+2≤r) {o j:Nat} (ho:o < c.N) (hj:j < c.N) (h:o≠z∨S0 c T≤r) (h':j≠z∨S0 c T≤r) : -(2*c.Pi)≤devF c r (s.kF c r) o j∧devF c r (s.kF c r) o j≤2*c.Pi:=by
 have hE:=P.ok.cf.e0
 have hG:=P.ok.cf.g0
 have hP:=P.ok.cf.p0
 have h1:=near_kF P I hr ho hj h h'
 have h2:=near_kF P I hr hj ho h' h
 obtain⟨p,p1,p2,e⟩:=dev_of P s (i:=j) ho h
 unfold Wd at h1 h2
 rw [e];omega
theorem tk_act {c:NC} {T z F zc v r:Nat} {s:Stt} (P:Play c T z F zc v) (I:Inv c T z F zc v r s) (hr:T+2≤r) (lt:(r:Int) < c.rounds) {sl i:Nat} {f:Fr} (hs:sl < c.N+c.ps.length) (hne:owners c.N c.ps sl≠[]) (hS:∀ x,x < c.N→(owners c.N c.ps sl).contains (x:Int)=true→s.snd c r sl x=some f)
 (ho:∀ x,x < c.N→(owners c.N c.ps sl).contains (x:Int)=true→x≠z∨S0 c T≤r) (hi:i < c.N) (hio:(owners c.N c.ps sl).contains (i:Int)=false) (hiz:i≠z∨c.kind=1∧c.till≤(r:Int)):s.tk c r sl i=some f:=by
 have h4:∀ j,j < c.N→j≠z→s.sF c r j=4:=fun j hj e=>sF_4 P I hr hj (.inl e)
 by_cases hk:c.kind=1∧(r:Int) < c.till
 ·obtain⟨hk1,hk2⟩:=hk
  have hS0:¬ S0 c T≤r:=fun e=>by have:=(S0_1 P hk1).mp e;omega
  rcases P.kd with⟨h1,_⟩ | ⟨h1,h2,h3⟩
  ·omega
  have ho':∀ x,x < c.N→(owners c.N c.ps sl).contains (x:Int)=true→x≠z:=fun x hx h=>(ho x hx h).elim id (fun e=>absurd e hS0)
  have hzo:(owners c.N c.ps sl).contains (z:Int)=false:=by
   cases e:(owners c.N c.ps sl).contains (z:Int)with
   | false=>rfl
   | true=>exact absurd rfl (ho' z h3 e)
  exact take P I.sh lt hs hne (.inr (.inr h2)) hS h3 hzo hi hio (by omega) (fun j hj e=>by rw [h4 j hj e];decide) (fun o hoN h j hj e =>.inr (guard_ok P I hr hoN hj (.inl (ho' o hoN h)) (.inl e)))
 ·obtain⟨zz,z1,z2,z3⟩:=own_other P.ok hs i
  have hkk:=P.ok.kind
  refine take P I.sh lt hs hne (by omega) hS z1 z3 hi hio (Ne.symm z2) (fun j hj _=>I.sh.on0 hj (by have:=on_ne P hr hj;omega)) (fun o hoN h j hj _=>?_)
  by_cases e:j=z
  ·subst e
   rcases P.kd with⟨h1,_⟩ | ⟨h1,h2,h3⟩
   ·omega
   by_cases e2:S0 c T≤r
   ·exact .inr (guard_ok P I hr hoN hj (.inr e2) (.inr e2))
   ·rw [S0_1 P h1]at e2
    have:=sF_z P I hr h1
    left
    rcases(by omega:(r:Int)=c.till∨(r:Int)=c.till+1)with e3 | e3
    ·rw [this.1 e3];decide
    ·rw [this.2 e3];decide
  ·exact .inr (guard_ok P I hr hoN hj (ho o hoN h) (.inl e))
theorem snd4 {c:NC} {r sl x:Nat} {s:Stt} (h:s.sF c r x=4):s.snd c r sl x=some ⟨3,((c.Fi+r)%65536).toNat,sl,if(s.qF c r sl x sl).isSome then 2 else 1,(s.qF c r sl x sl).getD 0,if sl < c.N then gotL (c.N+c.ps.length) (s.gF c r x)else []⟩:=by
 unfold Stt.snd ownF frameF
 rw [if_pos h]
theorem heard {c:NC} {T z F zc v r:Nat} {s:Stt} (P:Play c T z F zc v) (I:Inv c T z F zc v r s) (hr:T+2≤r) (lt:(r:Int) < c.rounds) {i:Nat} (hi:i < c.N) (hiz:i≠z∨c.kind=1∧c.till≤(r:Int)):∀ k,k < c.N→(k≠z∨S0 c T≤r)→k≠i→∃ f,s.tk c r k i=some f∧f.kind=3:=fun k hk hkz hki =>
 ⟨_,tk_act P I hr lt (by omega) (own_ne hk) (fun x hx ho=>by
  rw [own_node hk]at ho
  obtain rfl:=of_decide_eq_true ho
  exact snd4 (sF_4 P I hr hx hkz)) (fun x hx ho=>by
  rw [own_node hk]at ho
  obtain rfl:=of_decide_eq_true ho
  exact hkz) hi (by rw [own_node hk];exact decide_eq_false (Ne.symm hki)) hiz,rfl⟩
theorem tk_self {c:NC} {r i:Nat} {s:Stt} (hi:i < c.N):s.tk c r i i=none:=tk_own (by rw [own_node hi];simp)
noncomputable def fd (c:NC) (r:Nat) (s:Stt) (i k:Nat):Int:=if k=i then 0 else devF c r (s.kF c r) k i
theorem fd_is {c:NC} {T z F zc v r:Nat} (P:Play c T z F zc v) (s:Stt) {i k:Nat} (hk:k < c.N) (h:k≠z∨S0 c T≤r):s.kF c r k-c.Er-s.kF c r i≤fd c r s i k∧fd c r s i k≤s.kF c r k+c.Er-s.kF c r i:=by
 have hE:=P.ok.cf.e0
 unfold fd
 split
 ·next e=>subst e;omega
 ·obtain⟨p,p1,p2,e⟩:=dev_of P s (i:=i) hk h
  rw [e];omega
theorem Rz_ge {c:NC} {T z F zc v:Nat} (P:Play c T z F zc v) (zz:Nat):c.N≤(Rz c.N zz).length+1∧5≤(Rz c.N zz).length:=by
 have:=P.ok.cf.n0
 rw [Rz_len]
 split <;> omega
theorem mid_is {c:NC} {T z F zc v r zz:Nat} {s:Stt} (P:Play c T z F zc v) (I:Inv c T z F zc v r s) (hr:T+2≤r) (lt:(r:Int) < c.rounds) (hzz:∀ k,k < c.N→k≠zz→k≠z∨S0 c T≤r) {i:Nat} (hi:i < c.N) (hiz:i≠zz) (hiz2:i≠z∨c.kind=1∧c.till≤(r:Int)) :
 (s.next c r).st i=4∧∃ xs ox:List Int,ox.length≤1∧(∀ p:Int→Bool,xs.countP p=((Rz c.N zz).map (fd c r s i)).countP p+ox.countP p)∧(s.next c r).ck i=s.kF c r i+midF xs:=by
 have h4:=sF_4 P I hr hi (hzz i hi hiz)
 obtain⟨ox,h1,_,h2⟩:=data_count (tk:=fun k=>s.tk c r k i) (dv:=fun k=>devF c r (s.kF c r) k i) hiz (tk_self hi) c.N (fun k hk e1 e2=>heard P I hr lt hi hiz2 k hk (hzz k hk e1) e2)
 rw [if_pos hi,← Stt.hd_def]at h2
 have hl:=h2 (fun _=>true)
 have hR:=Rz_ge P zz
 simp at hl
 have hd:=data_len (s.hd c r i) (s.hd c r i).length
 have n1:=P.ok.cf.n1
 refine⟨?_,_,ox,h1,h2,?_⟩
 ·rw [next_st (by omega),h4]
  have:c.N / 2+1≤(s.hd c r i).length+1:=by omega
  simp [stNext,this]
 ·rw [next_ck (by omega),h4]
  unfold syncF
  rw [if_pos rfl,if_pos (by omega)]
theorem near_next {c:NC} {T z F zc v r zz:Nat} {s:Stt} (P:Play c T z F zc v) (I:Inv c T z F zc v r s) (hr:T+2≤r) (lt:(r:Int) < c.rounds) (hzz:∀ k,k < c.N→k≠zz→k≠z∨S0 c T≤r) {i j:Nat} (hi:i < c.N) (hj:j < c.N) (hiz:i≠zz) (hjz:j≠zz) (hiz2:i≠z∨c.kind=1∧c.till≤(r:Int)) (hjz2:j≠z∨c.kind=1∧c.till≤(r:Int)):(s.next c r).ck i-(s.next c r).ck j≤Wd c:=by
 obtain⟨_,xs,ox,h1,h2,e1⟩:=mid_is P I hr lt hzz hi hiz hiz2
 obtain⟨_,ys,oy,h3,h4,e2⟩:=mid_is P I hr lt hzz hj hjz hjz2
 have hR:=Rz_ge P zz
 rw [e1,e2]
 refine rob_near (ck:=s.kF c r) (e:=c.Er) (S:=Wd c+2*c.G) h2 h1 h4 h3 (by omega) (fun k hk=>?_) (fun k hk=>?_) (fun k hk l hl=>?_) (by unfold Wd;omega)
 ·rw [Rz_mem]at hk;exact fd_is P s hk.1 (hzz k hk.1 hk.2)
 ·rw [Rz_mem]at hk;exact fd_is P s hk.1 (hzz k hk.1 hk.2)
 ·rw [Rz_mem]at hk hl;exact near_kF P I hr hk.1 hl.1 (hzz k hk.1 hk.2) (hzz l hl.1 hl.2)
theorem back_next {c:NC} {T z F zc v r:Nat} {s:Stt} (P:Play c T z F zc v) (I:Inv c T z F zc v r s) (hr:T+2≤r) (lt:(r:Int) < c.rounds) (hk:c.kind=1) (he:(r:Int)=c.till+1):(s.next c r).st z=4∧∀ i,i < c.N→i≠z→(s.next c r).ck z-(s.next c r).ck i≤Wd c∧(s.next c r).ck i-(s.next c r).ck z≤Wd c:=by
 rcases P.kd with⟨h1,_⟩ | ⟨h1,h2,h3⟩
 ·omega
 have s3:=(sF_z P I hr hk).2 he
 have hd:=data_other (tk:=fun k=>s.tk c r k z) (dv:=fun k=>devF c r (s.kF c r) k z) (tk_self h3) c.N (fun k hk' e=>heard P I hr lt h3 (.inr ⟨hk,by omega⟩) k hk' (.inl e) e)
 rw [← Stt.hd_def]at hd
 have hR:=Rz_ge P z
 have hl:=data_len (s.hd c r z) (s.hd c r z).length
 have hl2:=congrArg List.length hd
 rw [List.length_map]at hl2
 have n1:=P.ok.cf.n1
 have hc:(s.next c r).ck z=s.kF c r z+midF ((Rz c.N z).map (fun k=>devF c r (s.kF c r) k z)):=by
  rw [next_ck (by omega),s3]
  unfold syncF
  rw [if_neg (by decide),if_pos rfl,if_pos (by omega),hd]
 have hx:∀ p:Int→Bool,((Rz c.N z).map (fun k=>devF c r (s.kF c r) k z)).countP p=((Rz c.N z).map (fun k=>devF c r (s.kF c r) k z)).countP p+([]:List Int).countP p:=fun p=>by simp
 have hf:∀ k ∈ Rz c.N z,s.kF c r k-c.Er-s.kF c r z≤devF c r (s.kF c r) k z∧devF c r (s.kF c r) k z≤s.kF c r k+c.Er-s.kF c r z:=fun k hk=>by
  rw [Rz_mem]at hk
  obtain⟨p,p1,p2,e⟩:=dev_of P s (i:=z) hk.1 (.inl hk.2)
  rw [e];omega
 refine⟨?_,fun i hi hiz=>?_⟩
 ·rw [next_st (by omega),s3]
  have:c.N / 2+1≤(s.hd c r z).length+1:=by omega
  simp [stNext,this]
 ·obtain⟨_,xs,ox,o1,o2,e1⟩:=mid_is (zz:=z) P I hr lt (fun k _ e =>.inl e) hi hiz (.inl hiz)
  have hg:∀ k ∈ Rz c.N z,s.kF c r k-c.Er-s.kF c r i≤fd c r s i k∧fd c r s i k≤s.kF c r k+c.Er-s.kF c r i:=fun k hk=>by
   rw [Rz_mem]at hk;exact fd_is P s hk.1 (.inl hk.2)
  have hS:∀ k ∈ Rz c.N z,∀ l ∈ Rz c.N z,s.kF c r k-s.kF c r l≤Wd c+2*c.G:=fun k hk l hl=>by
   rw [Rz_mem]at hk hl;exact near_kF P I hr hk.1 hl.1 (.inl hk.2) (.inl hl.2)
  rw [hc,e1]
  exact⟨rob_near hx (by simp) o2 o1 (by omega) hf hg hS (by unfold Wd;omega),rob_near o2 o1 hx (by simp) (by omega) hg hf hS (by unfold Wd;omega)⟩
theorem wake_next {c:NC} {T z F zc v r:Nat} {s:Stt} (P:Play c T z F zc v) (I:Inv c T z F zc v r s) (hr:T+2≤r) (lt:(r:Int) < c.rounds) (hk:c.kind=1) (he:(r:Int)=c.till):(s.next c r).st z=3:=by
 rcases P.kd with⟨h1,_⟩ | ⟨h1,h2,h3⟩
 ·omega
 have s1:=(sF_z P I hr hk).1 he
 have n0:=P.ok.cf.n0
 obtain⟨k,hk',hkz⟩:∃ k,k < c.N∧k≠z:=by
  by_cases e:z=0
  ·exact⟨1,by omega,by omega⟩
  ·exact⟨0,by omega,by omega⟩
 obtain⟨f,hf,_⟩:=heard P I hr lt h3 (.inr ⟨hk,by omega⟩) k hk' (.inl hkz) hkz
 have hp:0 < (s.hd c r z).length:=by
  rw [Stt.hd_def];exact hdK_in (k:=k) hf _ hk'
 rw [next_st (by omega),s1]
 simp [stNext,hp]
theorem ck_near {c:NC} {T z F zc v r:Nat} {s:Stt} (P:Play c T z F zc v) (I:Inv c T z F zc v r s) (hr:T+2≤r) (lt:(r:Int) < c.rounds) {i:Nat} (hi:i < c.N) : -(40*((r:Int)+1))≤(s.next c r).ck i∧(s.next c r).ck i≤40*((r:Int)+1):=by
 have hE:=P.ok.cf.e1
 by_cases e:i=z
 ·subst e
  refine ck_far P I.sh ?_ hi
  rcases P.kd with⟨h1,_⟩ | ⟨h1,h2,h3⟩
  ·exact .inl h1
  ·exact .inr (.inr (.inr h2.symm))
 ·obtain⟨_,xs,ox,o1,o2,e1⟩:=mid_is (zz:=z) P I hr lt (fun k _ e =>.inl e) hi e (.inl e)
  have hR:=Rz_ge P z
  rw [e1]
  have:=rob_in (ck:=s.kF c r) (e:=c.Er) (lo:=-(40*(r:Int))-20) (hi:=40*r+20) o2 o1 (by omega) (fun k hk=>by rw [Rz_mem]at hk;exact fd_is P s hk.1 (.inl hk.2)) (fun k hk=>by rw [Rz_mem]at hk;exact I.sh.kF P.ok hk.1)
  omega
end B12
namespace B13
open Go.RowKit A8 A9 A22 A36 A41 A44 A45 A47 A48 A50 A51 A55 A56 A57 A62 A65 B9 B10 B11 B12
theorem qS_act {c:NC} {st:Nat→Nat} {q:Nat→Nat→Option Nat} (h4:∀ i,i < c.N→st i=4) (hq:∀ i,i < c.N→∀ j,j≠i→q i j=none):∀ s i j,i < c.N→qS c st q s i j=if j=i∧s≤i then q i i else none
 | 0,i,j,hi=>by
  show q i j=_
  by_cases e:j=i
  ·subst e;simp
  ·rw [if_neg (fun x=>e x.1),hq i hi j e]
 | s+1,i,j,hi=>by
  show qF (owners c.N c.ps s) st (qS c st q s) s i j=_
  have ih:=qS_act h4 hq s i j hi
  unfold qF
  by_cases hs:s < c.N
  ·rw [own_node hs]
   by_cases e:i=s
   ·subst e
    rw [if_pos ⟨by simp,h4 i hi⟩]
    unfold took
    by_cases ej:j=i
    ·subst ej;rw [if_pos rfl,if_neg (by omega)]
    ·rw [if_neg ej,ih,if_neg (fun x=>ej x.1),if_neg (fun x=>ej x.1)]
   ·rw [if_neg (fun x=>e (by simpa using x.1)),ih]
    by_cases ej:j=i
    ·by_cases es:s≤i
     ·rw [if_pos ⟨ej,es⟩,if_pos ⟨ej,by omega⟩]
     ·rw [if_neg (fun x=>es x.2),if_neg (fun x=>es (by omega))]
    ·rw [if_neg (fun x=>ej x.1),if_neg (fun x=>ej x.1)]
  ·have h0:qS c st q s i j=none:=by rw [ih,if_neg (fun x:j=i∧s≤i=>by omega)]
   rw [if_neg (fun x:j=i∧s+1≤i=>by omega)]
   split
   ·unfold took
    split
    ·rfl
    ·exact h0
   ·exact h0
theorem qK_one {c:NC} {T z F zc v r:Nat} (P:Play c T z F zc v) (q:Nat→Nat→Option Nat) (i j:Nat):qK c.cl r q c.cl.length i j=if r=F∧i=zc∧j=zc∧c.cl.length≠0 then some v else q i j:=by
 have hm:=P.cm
 have hc:=P.cl 0
 generalize c.cl=cl at *
 match cl,hm,hc with
 | [],_,_=>simp [qK]
 | [a],_,hc =>
  have e:a=⟨F,zc,0,v⟩:=hc (by simp)
  subst e
  show(if F=r then fun i=>if i=zc then sentQ (q i) zc v else q i else q) i j=_
  by_cases e1:F=r
  ·subst e1
   rw [if_pos rfl]
   by_cases e2:i=zc
   ·simp only [e2,if_true]
    unfold sentQ
    by_cases e3:j=zc
    ·simp [e3]
    ·simp [e3]
   ·simp [e2]
  ·rw [if_neg e1,if_neg (fun x=>e1 x.1.symm)]
 | _ :: _ :: _,h,_=>simp at h
theorem q_act {c:NC} {T z F zc v r:Nat} {s:Stt} (P:Play c T z F zc v) (I:Inv c T z F zc v r s) (h:S0 c T≤r) (sl i j:Nat) (hi:i < c.N):s.qF c r sl i j=if j=i∧sl≤i∧r=F∧i=zc∧c.cl.length≠0 then some v else none:=by
 have hT:=S0_ge P
 have hq:∀ i,i < c.N→∀ j,qK c.cl r (qR c r s.st s.q) c.cl.length i j=if r=F∧i=zc∧j=zc∧c.cl.length≠0 then some v else none:=fun i hi j=>by rw [qK_one P,I.sh.qR hi]
 have:=qS_act (c:=c) (st:=s.sF c r) (q:=qK c.cl r (qR c r s.st s.q) c.cl.length) (fun i hi=>sF_4 P I (by omega) hi (.inr h)) (fun i hi j hj=>by rw [hq i hi,if_neg (fun x=>hj (x.2.2.1.trans x.2.1.symm))]) sl i j hi
 show qS c (s.sF c r) (qK c.cl r (qR c r s.st s.q) c.cl.length) sl i j=_
 rw [this]
 by_cases e:j=i∧sl≤i
 ·rw [if_pos e,hq i hi]
  by_cases e2:r=F∧i=zc∧c.cl.length≠0
  ·rw [if_pos ⟨e2.1,e2.2.1,e2.2.1,e2.2.2⟩,if_pos ⟨e.1,e.2,e2⟩]
  ·rw [if_neg (fun x=>e2 ⟨x.1,x.2.1,x.2.2.2⟩),if_neg (fun x=>e2 x.2.2)]
 ·rw [if_neg e,if_neg (fun x=>e ⟨x.1,x.2.1⟩)]
def actF (c:NC) (F zc v r:Nat) (s:Stt) (sl:Nat):Fr:=⟨3,((c.Fi+r)%65536).toNat,sl,(payP c F zc v r sl).1,(payP c F zc v r sl).2,if sl < c.N then gotL (c.N+c.ps.length) (s.gF c r sl)else []⟩
theorem snd_act {c:NC} {T z F zc v r:Nat} {s:Stt} (P:Play c T z F zc v) (I:Inv c T z F zc v r s) (h:S0 c T≤r) {sl x:Nat} (hx:x < c.N) (ho:(owners c.N c.ps sl).contains (x:Int)=true):s.snd c r sl x=some (actF c F zc v r s sl):=by
 have hT:=S0_ge P
 have hq:=q_act P I h sl x sl hx
 rw [snd4 (sF_4 P I (by omega) hx (.inr h))]
 unfold actF payP
 by_cases e:sl < c.N
 ·rw [own_node e]at ho
  obtain rfl:=of_decide_eq_true ho
  simp only [if_pos e]
  by_cases e2:r=F∧x=zc∧c.cl.length≠0
  ·rw [if_pos ⟨rfl,Zr _,e2⟩]at hq
   rw [hq,if_pos e2];rfl
  ·rw [if_neg (fun x=>e2 x.2.2)]at hq
   rw [hq,if_neg e2];rfl
 ·have hne:owners c.N c.ps sl≠[]:=fun e=>by rw [e]at ho;simp at ho
  simp only [if_neg e,if_neg hne]
  rw [if_neg (fun y=>by have:=y.1;omega)]at hq
  rw [hq]
  rfl
theorem tk_all {c:NC} {T z F zc v r:Nat} {s:Stt} (P:Play c T z F zc v) (I:Inv c T z F zc v r s) (h:S0 c T≤r) (lt:(r:Int) < c.rounds) {sl i:Nat} (hs:sl < c.N+c.ps.length) (hi:i < c.N) (hio:(owners c.N c.ps sl).contains (i:Int)=false):s.tk c r sl i=if owners c.N c.ps sl=[]then none else some (actF c F zc v r s sl):=by
 have hT:=S0_ge P
 by_cases e:owners c.N c.ps sl=[]
 ·rw [if_pos e]
  unfold Stt.tk tkN tkS tkF
  split
  ·rfl
  ·show tkP c r sl _ _ _ _ i=none
   unfold tkP
   rw [if_pos e]
 ·rw [if_neg e]
  refine tk_act P I (by omega) lt hs e (fun x hx ho=>snd_act P I h hx ho) (fun x hx ho =>.inr h) hi hio ?_
  rcases P.kd with⟨h1,h2⟩ | ⟨h1,h2,h3⟩
  ·exact .inl (by omega)
  ·exact .inr ⟨h1,by have:=(S0_1 P h1).mp h;omega⟩
theorem item_all {c:NC} {T z F zc v r:Nat} {s:Stt} (P:Play c T z F zc v) (I:Inv c T z F zc v r s) (h:S0 c T≤r) (lt:(r:Int) < c.rounds) {sl i:Nat} (hs:sl < c.N+c.ps.length) (hi:i < c.N) (hio:(owners c.N c.ps sl).contains (i:Int)=false):itemF (s.tk c r sl i)=payP c F zc v r sl:=by
 rw [tk_all P I h lt hs hi hio]
 by_cases e:owners c.N c.ps sl=[]
 ·rw [if_pos e]
  unfold payP
  rw [if_neg (fun x=>own_ne x e),if_pos e]
  rfl
 ·rw [if_neg e]
  rfl
theorem most_zero {is:Nat→Bool} {x y:Nat→Int} {N:Nat}:∀ n m,(∀ j,j < n+m→x j=0∧y j=0)→mostFrom is x y N n m=(0,0)
 | 0,_,_=>rfl
 | n+1,m,h=>by
  have hx:=h m (by omega)
  have hw:¬ wins is x y N m=true:=by
   unfold wins
   rw [hx.1,hx.2]
   simp
  unfold mostFrom
  rw [if_neg hw]
  exact most_zero n (m+1) (fun j hj=>h j (by omega))
theorem cnt_all {is:Nat→Bool} {x y:Nat→Int} {a b:Int}:∀ n,(∀ j,j < n→is j=true∧x j=a∧y j=b)→cnt is x y n a b=n
 | 0,_=>rfl
 | n+1,h=>by
  obtain⟨h1,h2,h3⟩:=h n (by omega)
  unfold cnt
  rw [if_pos ⟨h1,h2.symm,h3.symm⟩,cnt_all n (fun j hj=>h j (by omega))]
  omega
theorem most_all {is:Nat→Bool} {x y:Nat→Int} {a b:Int} {n:Nat} (hn:0 < n) (hn2:n≤100) (h:∀ j,j < n→is j=true∧x j=a∧y j=b):mostFrom is x y n n 0=(a,b):=by
 by_cases hab:a=0∧b=0
 ·rw [most_zero n 0 (fun j hj=>by obtain⟨_,h2,h3⟩:=h j (by omega);exact⟨h2.trans hab.1,h3.trans hab.2⟩),hab.1,hab.2]
 obtain⟨m,rfl⟩:∃ m,n=m+1:=⟨n-1,by omega⟩
 obtain⟨h1,h2,h3⟩:=h 0 (by omega)
 have hw:wrap64 (2*((m+1:Nat):Int))=2*((m+1:Nat):Int):=by unfold wrap64;omega
 have:wins is x y (m+1) 0=true:=by
  unfold wins
  rw [h1,h2,h3,cnt_all (m+1) h,hw]
  have e1:(a == 0 && b == 0)=false:=by
   rw [Bool.and_eq_false_iff]
   by_cases ha:a=0
   ·exact .inr (by simpa using fun hb=>hab ⟨ha,hb⟩)
   ·exact .inl (by simpa using ha)
  rw [e1]
  simp;omega
 unfold mostFrom
 rw [if_pos this,h2,h3]
theorem others_not {l:List Int} {n:Nat} {x:Int} (h:x ∈ others l n):¬ x ∈ l:=by
 unfold others at h
 rw [List.mem_filter]at h
 simpa using h.2
theorem line_any {N:Nat} {ps:List Int} {tk:Nat→Nat→Option Fr} {g:List (Nat×Nat)} {i s z:Nat} {p:Nat×Nat} (hN:N≤12) (hz:z < N) (hzo:(owners N ps s).contains (z:Int)=false) (h:∀ k,k < N→(owners N ps s).contains (k:Int)=false→vt tk g i s k=(true,p.1,p.2)):lineF N ps tk g i s=toI p:=by
 unfold lineF
 have h0:0 < (others (owners N ps s) N).length:=by
  have hm:(z:Int) ∈ others (owners N ps s) N:=by
   unfold others
   rw [List.mem_filter]
   exact⟨List.mem_map.2 ⟨z,List.mem_range.2 hz,rfl⟩,by rw [hzo];rfl⟩
  exact List.length_pos_of_mem hm
 have h1:=others_le (owners N ps s) N
 refine most_all h0 (by omega) (fun j hj=>?_)
 have hm:(others (owners N ps s) N).getD j 0 ∈ others (owners N ps s) N:=by rw [List.getD_eq_getElem?_getD,List.getElem?_eq_getElem hj];exact List.getElem_mem _
 have hb:=others_mem hm
 have hn:=others_not hm
 generalize (others (owners N ps s) N).getD j 0=x at *
 obtain⟨k,rfl⟩:∃ k:Nat,x=k:=⟨x.toNat,by omega⟩
 rw [Int.toNat_natCast,h k (by omega) (by simpa using hn)]
 exact⟨rfl,rfl,rfl⟩
theorem line_act {c:NC} {T z F zc v r:Nat} {s:Stt} (P:Play c T z F zc v) (I:Inv c T z F zc v r s) (h:S0 c T+1≤r) (lt:(r:Int) < c.rounds) {sl i:Nat} (hs:sl < c.N+c.ps.length) (hi:i < c.N):lineF c.N c.ps (s.tk c r) ((s.gF c r i).getD []) i sl=toI (payP c F zc v (r-1) sl):=by
 have hT:=S0_ge P
 have n1:=P.ok.cf.n1
 have hgF:∀ k,k < c.N→s.gF c r k=s.g k:=fun k hk=>gF_eq (by
  rcases P.kd with⟨h1,h2⟩ | ⟨h1,h2,h3⟩
  ·exact .inl h1
  ·have:=(S0_1 (r:=r) P h1).mp (by omega);omega)
 obtain⟨z',z1,_,z3⟩:=own_other P.ok hs 0
 refine line_any (by omega) z1 z3 (fun k hk hko=>?_)
 obtain⟨_,l,hl,h4⟩:=I.p4 h k hk
 have hp:=h4 sl hs hko
 unfold vt
 by_cases e:k=i
 ·subst e
  rw [if_pos rfl,hgF k hk,hl]
  show(true,(l.getD sl (0,0)).1,(l.getD sl (0,0)).2)=_
  rw [hp]
 ·rw [if_neg e,tk_all P I (by omega) lt (by omega) hi (by rw [own_node hk];exact decide_eq_false (Ne.symm e)),if_neg (own_ne hk)]
  unfold actF voteF
  simp only [if_pos hk,if_true]
  rw [hgF k hk,hl]
  show(true,(l.getD sl (0,0)).1,(l.getD sl (0,0)).2)=_
  rw [hp]
theorem cells_congr {r:Int} {f g:Nat→Int×Int}:∀ n,(∀ s,s < n→f s=g s)→lineCells r f n=lineCells r g n
 | 0,_=>rfl
 | n+1,h=>by
  unfold lineCells
  rw [cells_congr n (fun s hs=>h s (by omega)),h n (by omega)]
theorem Inv.act {c:NC} {T z F zc v r:Nat} {s:Stt} (P:Play c T z F zc v) (I:Inv c T z F zc v r s) (hr:T+2≤r) (lt:(r:Int) < c.rounds):Inv c T z F zc v (r+1) (s.next c r):=by
 have hT:=S0_ge P
 have hF:=S0_le P
 have hxs:S0 c T+1≤r→∀ i,i < c.N→(s.next c r).xs i=s.xs i ++ lineCells ((r:Int)-1) (fun sl=>toI (payP c F zc v (r-1) sl)) (c.N+c.ps.length):=fun h i hi=>by
  have e:(s.next c r).xs i=s.xs i ++ lineCells ((r:Int)-1) (lineF c.N c.ps (s.tk c r) ((s.gF c r i).getD []) i) (c.N+c.ps.length):=if_pos ⟨sF_4 P I hr hi (.inr (by omega)),(I.p4 h i hi).1⟩
  rw [e,cells_congr _ (fun sl hs=>line_act P I h lt hs hi)]
 refine⟨I.sh.next P (fun i hi=>ck_near P I hr lt hi) (fun i hi j=>?_),fun h=>by omega,fun h=>by omega,fun _=>⟨fun i hi hiz=>(mid_is (zz:=z) P I hr lt (fun k _ e =>.inl e) hi hiz (.inl hiz)).1,fun i j hi hj hiz hjz=>near_next P I hr lt (fun k _ e =>.inl e) hi hj hiz hjz (.inl hiz) (.inl hjz)⟩,fun h1 h=>wake_next P I hr lt h1 (by omega),fun h1 h=>?_,fun h1 h=>by omega,fun h1 h i hi=>?_,fun h i hi=>⟨?_,?_⟩,fun h i hi=>⟨s.xs i,?_⟩,fun h1 h i hi=>?_⟩
 ·by_cases e:r=F
  ·have:=q_act P I (by omega) (c.N+c.ps.length) i j hi
   show s.qF c r (c.N+c.ps.length) i j=none
   rw [this,if_neg (fun x=>by omega)]
  ·exact q_none P I.sh e hi
 ·by_cases e:(r:Int)=c.till+1
  ·exact back_next P I hr lt h1 e
  ·have h0:S0 c T≤r:=(S0_1 P h1).mpr (by omega)
   have ht:c.kind=1∧c.till≤(r:Int):=⟨h1,by omega⟩
   rcases P.kd with⟨h2,_⟩ | ⟨_,h2,h3⟩
   ·omega
   have hn:∀ i,i < c.N→i≠c.N:=fun i hi=>by omega
   exact⟨(mid_is (zz:=c.N) P I hr lt (fun k _ _ =>.inr h0) h3 (hn z h3) (.inr ht)).1,fun i hi _=>⟨near_next (zz:=c.N) P I hr lt (fun k _ _ =>.inr h0) h3 hi (hn z h3) (hn i hi) (.inr ht) (.inr ht),near_next (zz:=c.N) P I hr lt (fun k _ _ =>.inr h0) hi h3 (hn i hi) (hn z h3) (.inr ht) (.inr ht)⟩⟩
 ·rw [next_xs (fun x=>I.w0 h1 (by omega) i hi x.2)]
  exact I.x0 h1 (by omega) i hi
 ·rw [next_was]
  exact sF_4 P I hr hi (.inr (by omega))
 ·have e:(s.next c r).g i=some (gotE (s.tk c r) i (c.N+c.ps.length)):=if_neg (by rw [sF_4 P I hr hi (.inr (by omega))];decide)
  refine⟨_,e,fun sl hs ho=>?_⟩
  rw [gotE_at _ _ _ _ hs,item_all P I (by omega) lt hs hi ho]
  rfl
 ·have e1:((r+1:Nat):Int)-2=(r:Int)-1:=by omega
  have e2:r+1-2=r-1:=by omega
  rw [e1,e2]
  exact hxs (by omega) i hi
 ·have hS:S0 c T=T+2:=by unfold S0;rw [if_neg (by omega)]
  rw [hxs (by omega) i hi]
  by_cases e:r=T+3
  ·subst e
   refine⟨[],?_⟩
   rw [I.x0 h1 (Zr _) i hi,List.nil_append,List.append_nil]
   have e3:((T+3:Nat):Int)-1=(T:Int)+2:=by omega
   rw [e3]
   rfl
  ·obtain⟨post,h2⟩:=I.p6 h1 (by omega) i hi
   exact⟨post ++ _,by rw [h2,List.append_assoc]⟩
theorem Inv.step {c:NC} {T z F zc v r:Nat} {s:Stt} (P:Play c T z F zc v) (I:Inv c T z F zc v r s) (lt:(r:Int) < c.rounds):Inv c T z F zc v (r+1) (s.next c r):=by
 rcases Nat.lt_or_ge r T with h | h
 ·exact Inv.silent P I h lt
 ·rcases Nat.lt_or_ge r (T+2)with h' | h'
  ·exact Inv.first P I (by omega) lt
  ·exact Inv.act P I h' lt
def Course (c:NC) (T z F zc v NB LO r:Nat) (w:Zw):Prop:=∃ s,SttAt c NB LO r s w∧Inv c T z F zc v r s
theorem course_step {c:NC} {T z F zc v NB LO r:Nat} {w:Zw} (P:Play c T z F zc v) (H:Course c T z F zc v NB LO r w) (lt:(r:Int) < c.rounds) :
 Zc Zp 15 #[.pointer (some ⟨NB,0,none⟩)] w fun e w'=>e=.returned (.bool true)∧Zb LO w w'∧Course c T z F zc v NB LO (r+1) w':=by
 obtain⟨s,H,I⟩:=H
 refine(step_at P.ok H (I.sh.ok P lt)).mono ?_
 rintro e w' ⟨h1,h2,h3⟩
 exact⟨h1,h2,_,h3,Inv.step P I lt⟩
end B13
end Go.Proofs.YtdbempiompiioaaGreat
