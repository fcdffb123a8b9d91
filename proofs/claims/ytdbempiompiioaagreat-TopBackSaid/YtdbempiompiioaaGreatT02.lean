/- A slot going round, two: what a relay makes of two streams, as a function; a world of which but some Conditions: the bounds stated in each theorem. -/
import Derived.Test.YtdbempiompiioaaGreatT01
set_option linter.unusedVariables false
set_option linter.unusedSimpArgs false
set_option maxRecDepth 100000
set_option maxHeartbeats 80000000
open Go.Value renaming int → Z
open Go.IntKind renaming i64 → Y
open Go renaming World → Zw, Calls → Zc, heap_alloc_new → Zh
open Go.RowKit renaming Below → Zb
open Go.Proofs.Tryz renaming prog → Zp
open Go.Lib renaming hid → O
open Go.World renaming block_lt_of_cell? → Zl, cell?_setCell_other → Zo
open Nat renaming le_refl → Zr
open Go.RowKit.Below renaming refl → Zf
namespace Go.Proofs.YtdbempiompiioaaGreat
namespace A14
open Go.RowKit A6 A12
theorem passed_any (cmp:Bool) (d s:ByteArray):∃ k,passed cmp d s k:=by
 cases cmp
 ·exact⟨d.size,Zr _,(fun h=>by cases h),fun h=>absurd h (by omega)⟩
 ·have key:∀ m,m≤d.size→(∃ k,k≤m∧passed true d s k)∨∀ j,j < m→atB s j=atB d j:=by
   intro m
   induction m with
   | zero=>intro _;exact .inr (fun j hj=>absurd hj (by omega))
   | succ m ih =>
    intro hm
    rcases ih (by omega)with⟨k,hk,hp⟩ | h
    ·exact .inl ⟨k,by omega,hp⟩
    ·by_cases e:atB s m=atB d m
     ·exact .inr (fun j hj=>if hjm:j=m then hjm ▸ e else h j (by omega))
     ·exact .inl ⟨m,by omega,by omega,fun _ j hj=>h j hj,fun _=>⟨rfl,e⟩⟩
  rcases key d.size (Zr _)with⟨k,_,hp⟩ | h
  ·exact⟨k,hp⟩
  ·exact⟨d.size,Zr _,fun _=>h,fun h=>absurd h (by omega)⟩
theorem passed_one {cmp:Bool} {d s:ByteArray} {k k':Nat} (h:passed cmp d s k) (h':passed cmp d s k'):k=k':=by
 have key:∀ {a b},passed cmp d s a→passed cmp d s b→¬ a < b:=by
  intro a b ha hb hab
  have h1:=ha.2.2 (by have:=hb.1;omega)
  exact h1.2 (hb.2.1 h1.1 a hab)
 have h1:=key h h'
 have h2:=key h' h
 omega
noncomputable def outF (cmp:Bool) (d s:ByteArray):ByteArray:=⟨(d.data.toList.take (Classical.choose (passed_any cmp d s))).toArray⟩
theorem outF_of {cmp:Bool} {d s:ByteArray} {k:Nat} (h:passed cmp d s k):outF cmp d s=⟨(d.data.toList.take k).toArray⟩:=by
 unfold outF;rw [passed_one (Classical.choose_spec (passed_any cmp d s)) h]
theorem lane_Out' (cmp:Bool) (d s:ByteArray) (w:Zw) (hd:Strm d) (hs:s.size≤4000) :
 Zc Zp 152 #[.bool cmp,.string d,.string s] w fun e w'=>e=.returned (.string (outF cmp d s))∧Zb w.heap.size w w' :=
 (lane_Out cmp d s w hd hs).mono fun e w' ⟨k,hk,he,hb⟩=>⟨by rw [outF_of hk];exact he,hb⟩
theorem take_whole (d:ByteArray) (k:Nat) (h:d.size≤k):(⟨(d.data.toList.take k).toArray⟩:ByteArray)=d:=by
 rw [List.take_of_length_le (by simpa using h)]
theorem outF_plain (d s:ByteArray):outF false d s=d:=by
 rw [outF_of (k:=d.size) ⟨Zr _,(fun h=>by cases h),fun h=>absurd h (by omega)⟩];exact take_whole d _ (Zr _)
theorem outF_same (cmp:Bool) (d:ByteArray):outF cmp d d=d:=by
 rw [outF_of (k:=d.size) ⟨Zr _,fun _ _ _=>rfl,fun h=>absurd h (by omega)⟩];exact take_whole d _ (Zr _)
theorem outF_nil (cmp:Bool) (s:ByteArray):outF cmp ⟨#[]⟩ s=⟨#[]⟩:=by
 rw [outF_of (k:=0) ⟨Nat.zero_le _,fun _ j hj=>absurd hj (by omega),fun h=>absurd h (Nat.not_lt_zero _)⟩];rfl
theorem atB_range (d:ByteArray) (k:Nat) (hd:Strm d) (h:k < d.size):atB d k≠46:=by
 have:=hd.2 k h
 unfold atB;rw [dif_pos h]
 rcases this with h | h | h <;> omega
theorem strm_take {d:ByteArray} (h:Strm d) (k:Nat):Strm ⟨(d.data.toList.take k).toArray⟩:=by
 obtain⟨h1,h2⟩:=h
 have hsz:(⟨(d.data.toList.take k).toArray⟩:ByteArray).size=min k d.size:=by show(d.data.toList.take k).toArray.size=min k d.data.size;simp
 refine⟨by rw [hsz];omega,fun i hi=>?_⟩
 have hi':i < min k d.size:=by rw [hsz]at hi;exact hi
 have he:(⟨(d.data.toList.take k).toArray⟩:ByteArray)[i]'hi=d[i]'(by omega):=by
  show(d.data.toList.take k).toArray[i]'_=d.data[i]'_
  simp
 rw [he]
 rcases h2 i (by omega)with h | h | ⟨h,h'⟩
 ·exact .inl h
 ·exact .inr (.inl h)
 ·refine .inr (.inr ⟨h,?_⟩)
  rw [hsz];omega
theorem strm_out (cmp:Bool) {d:ByteArray} (s:ByteArray) (h:Strm d):Strm (outF cmp d s):=strm_take h _
structure But (S:Nat→Prop) (w w':Zw):Prop where
 os:w'.os=w.os
 tape:w'.tape=w.tape
 output:w'.output=w.output
 size:w.heap.size≤w'.heap.size
 block:∀ k,k < w.heap.size→¬ S k→w'.heap[k]?=w.heap[k]?
theorem But.refl (S:Nat→Prop) (w:Zw):But S w w:=⟨rfl,rfl,rfl,Zr _,fun _ _ _=>rfl⟩
theorem But.trans {S:Nat→Prop} {a b c:Zw} (h:But S a b) (k:But S b c):But S a c :=
 ⟨k.os.trans h.os,k.tape.trans h.tape,k.output.trans h.output,Nat.le_trans h.size k.size,fun i hi hs=>(k.block i (Nat.lt_of_lt_of_le hi h.size) hs).trans (h.block i hi hs)⟩
theorem But.more {S T:Nat→Prop} {a b:Zw} (h:But S a b) (hs:∀ k,k < a.heap.size→S k→T k):But T a b:=⟨h.os,h.tape,h.output,h.size,fun k hk hn=>h.block k hk (fun e=>hn (hs k hk e))⟩
theorem But.of_below {S:Nat→Prop} {a b:Zw} {B:Nat} (h:Zb B a b) (hB:a.heap.size≤B):But S a b:=⟨h.os,h.tape,h.output,h.size,fun k hk _=>h.block k (Nat.lt_of_lt_of_le hk hB)⟩
theorem But.drew {S:Nat→Prop} {a b:Zw} (h:But S a b):But S a b.drew:=⟨h.os,h.tape,h.output,h.size,h.block⟩
theorem But.drewN {S:Nat→Prop} {a b:Zw} (h:But S a b) (n:Nat):But S a (b.drewN n):=⟨h.os,h.tape,h.output,h.size,h.block⟩
theorem But.alloc {S:Nat→Prop} {a b:Zw} (h:But S a b) (o:Obj):But S a (b.alloc o):=h.trans (But.of_below ((Zf _ _).alloc (Zr _) _) (Zr _))
theorem But.setCell {S:Nat→Prop} {a b:Zw} (h:But S a b) {p:Addr} (hp:S p.block∨a.heap.size≤p.block) (u:Value):But S a (b.setCell p u) :=
 ⟨h.os,h.tape,h.output,by simpa [World.setCell]using h.size,fun i hi hn=>(Below.heap_setCell b p u i (by
  rintro rfl
  rcases hp with hp | hp
  ·exact hn hp
  ·omega)).trans (h.block i hi hn)⟩
theorem But.below {S:Nat→Prop} {a b c:Zw} (h:But S a b) (k:Zb b.heap.size b c):But S a c:=h.trans (But.of_below k (Zr _))
theorem But.grown {S:Nat→Prop} {a b c:Zw} {row:Option Nat} (h:But S a b) (hg:b.grownBy c row) (hr:∀ k,row=some k→S k∨a.heap.size≤k):But S a c :=
 ⟨hg.os.trans h.os,hg.tape.trans h.tape,hg.output.trans h.output,Nat.le_trans h.size hg.size,fun k hk hn=>(hg.block k (Nat.lt_of_lt_of_le hk h.size) (fun e=>by
  rcases hr k e.symm with h1 | h1
  ·exact hn h1
  ·omega)).trans (h.block k hk hn)⟩
theorem But.to_below {S:Nat→Prop} {a b:Zw} {B:Nat} (h:But S a b) (hB:B≤a.heap.size) (hs:∀ k,S k→B≤k):Zb B a b :=
 ⟨h.os,h.tape,h.output,h.size,fun k hk=>h.block k (by omega) (fun e=>by have:=hs k e;omega)⟩
theorem But.cell {S:Nat→Prop} {a b:Zw} (h:But S a b) {p:Addr} (hp:p.block < a.heap.size) (hn:¬ S p.block):b.cell? p=a.cell? p:=World.cell?_of_block (w:=a) (h.block p.block hp hn)
theorem But.frozen {S:Nat→Prop} {a b:Zw} (h:But S a b) {p:Addr} (hp:p.block < a.heap.size) (hn:¬ S p.block):b.frozen? p=a.frozen? p:=World.frozen?_of_block (w:=a) (h.block p.block hp hn)
end A14
namespace AT
open Go
section
variable {P:Program} {ops:Array Oper} {Q:Exit→Act→Zw→Prop} {md:Region.Mode} {S:Zw→Prop} {last:List Nat}
def wpT (P:Program) (md:Region.Mode) (ops:Array Oper) (Q:Exit→Act→Zw→Prop) (S:Zw→Prop) (last:List Nat):Nat→Array Bool→Act→Zw→Prop
 | 0,listed,a,w=>Region.ready md ops listed=[]∧Q .normal a w
 | n+1,listed,a,w=>(Region.ready md ops listed=[]→Q .normal a w) ∧
  ∀ j ∈ Region.ready md ops listed,wpOp P ops Q j (fun a2 w2=>(last.contains j=false→S w2)∧wpT P md ops Q S last n (listed.setIfInBounds j true) a2 w2) a w
theorem wpT.any:∀(n:Nat) (listed:Array Bool) (a:Act) (w:Zw),wpT P md ops Q S last n listed a w→wpAny P md ops Q n listed a w
 | 0,_,_,_,h=>h
 | n+1,_,_,_,h=>⟨h.1,fun j hj=>wpOp_mono (fun a2 w2 k=>wpT.any n _ a2 w2 k.2) (h.2 j hj)⟩
def tailB (md:Region.Mode) (ops:Array Oper) (last:List Nat) (i:Nat):Bool:=last.all fun j=>match ops[j]? with
 | some oj=>oj.after.any fun e=>Region.binds md e && e.on == i
 | none=>true
theorem wpT.first {i:Nat} {oi:Oper} {v:Value} (hi:ops[i]?=some oi) (hsel:∀(j:Nat) (o:Oper) cs b,ops[j]?=some o→o.op ≠ .select cs b)
 (hQ:∀ c a w,Q (.panic c) (a.put oi.dst v) w→Q (.panic c) a w) (hT:tailB md ops last i=true) :
 ∀(n:Nat) (listed:Array Bool) (a:Act) (w:Zw),
  (∀ j oj,ops[j]?=some oj→j≠i→listed.getD j true=false→(∀ e ∈ oj.after,Region.binds md e=true→e.on≠i)→oi.apart ops oj=true) →
  i ∈ Region.ready md ops listed→YieldsIf P ops S oi v a→S w →
  wpT P md ops Q S last n (listed.setIfInBounds i true) (a.put oi.dst v) w→wpT P md ops Q S last (n+1) listed a w:=by
 intro n
 induction n with
 | zero =>
  intro listed a w _ hr hy hS H
  refine⟨fun h=>(by rw [h]at hr;cases hr),fun j hj=>?_⟩
  by_cases hji:j=i
  ·subst hji;exact hy.wpOp hi hS ⟨fun _=>hS,H⟩
  ·have:=ready_mono hj hji
   rw [H.1]at this
   cases this
 | succ n ih =>
  intro listed a w hfree hr hy hS H
  refine⟨fun h=>(by rw [h]at hr;cases hr),fun j hj=>?_⟩
  by_cases hji:j=i
  ·subst hji;exact hy.wpOp hi hS ⟨fun _=>hS,H⟩
  ·have h1:=H.2 j (ready_mono hj hji)
   obtain⟨hjun,oj,hoj,hall⟩:=mem_ready.1 hj
   have hnot:∀ e ∈ oj.after,Region.binds md e=true→e.on≠i:=fun e he hb heq=>by
    have h1:=hall e he hb
    have h0:=(mem_ready.1 hr).1
    rw [heq]at h1
    rcases Nat.lt_or_ge i listed.size with h' | h'
    ·simp [h']at h0 h1;rw [h0]at h1;cases h1
    ·simp [Array.getElem?_eq_none h']at h1
   have hl:last.contains j=false:=by
    cases hc:last.contains j
    ·rfl
    ·have hj2:=List.all_eq_true.1 hT j (by simpa using hc)
     simp only [hoj]at hj2
     rw [Array.any_eq_true']at hj2
     obtain⟨e,he,hb⟩:=hj2
     simp only [Bool.and_eq_true,beq_iff_eq]at hb
     exact absurd hb.2 (hnot e he hb.1)
   have h2:=wpOp_putIf hoj (hfree j oj hoj hji hjun hnot) (fun cs b=>hsel i oi cs b hi) (fun cs b=>hsel j oj cs b hoj) hQ hy h1
   have hfree':∀ k ok,ops[k]?=some ok→k≠i→(listed.setIfInBounds j true).getD k true=false →
    (∀ e ∈ ok.after,Region.binds md e=true→e.on≠i)→oi.apart ops ok=true:=fun k ok hk hki hun hno=>by
    refine hfree k ok hk hki ?_ hno
    by_cases hjk:j=k
    ·subst hjk;exact hjun
    ·rw [getD_set_ne true hjk]at hun;exact hun
   refine wpOp_mono (fun a2 w2 h3=>⟨h3.2.1,ih (listed.setIfInBounds j true) a2 w2 hfree' (ready_mono hr (Ne.symm hji)) h3.1 (h3.2.1 hl) ?_⟩) h2
   rw [Array.setIfInBounds_comm _ _ hji]
   exact h3.2.2
theorem wpT_take {i:Nat} {oi:Oper} {v:Value} {n:Nat} {listed:Array Bool} {a:Act} {w:Zw} (hi:ops[i]?=some oi)
 (hs:Region.noSelect ops=true) (hf:Region.free md ops listed i=true) (hr:(Region.ready md ops listed).contains i=true) (hT:tailB md ops last i=true)
 (hQ:∀ c a w,Q (.panic c) (a.put oi.dst v) w→Q (.panic c) a w) (hy:YieldsIf P ops S oi v a) (hS:S w)
 (h:wpT P md ops Q S last n (listed.setIfInBounds i true) (a.put oi.dst v) w):wpT P md ops Q S last (n+1) listed a w :=
 wpT.first hi (Region.noSelect_spec hs) hQ hT n listed a w (Region.free_spec hi hf) (by simpa using hr) hy hS h
theorem wpT.first0 {i:Nat} {oi:Oper} {v:Value} (hi:ops[i]?=some oi) (hsel:∀(j:Nat) (o:Oper) cs b,ops[j]?=some o→o.op ≠ .select cs b)
 (hQ:∀ c a w,Q (.panic c) (a.put oi.dst v) w→Q (.panic c) a w) (hl:last.contains i=true) :
 ∀(n:Nat) (listed:Array Bool) (a:Act) (w:Zw),
  (∀ j oj,ops[j]?=some oj→j≠i→listed.getD j true=false→(∀ e ∈ oj.after,Region.binds md e=true→e.on≠i)→oi.apart ops oj=true) →
  i ∈ Region.ready md ops listed→YieldsIf P ops (fun _=>True) oi v a →
  wpT P md ops Q S last n (listed.setIfInBounds i true) (a.put oi.dst v) w→wpT P md ops Q S last (n+1) listed a w:=by
 intro n
 induction n with
 | zero =>
  intro listed a w _ hr hy H
  refine⟨fun h=>(by rw [h]at hr;cases hr),fun j hj=>?_⟩
  by_cases hji:j=i
  ·subst hji;exact hy.wpOp hi trivial ⟨fun e=>(by rw [hl]at e;cases e),H⟩
  ·have:=ready_mono hj hji
   rw [H.1]at this
   cases this
 | succ n ih =>
  intro listed a w hfree hr hy H
  refine⟨fun h=>(by rw [h]at hr;cases hr),fun j hj=>?_⟩
  by_cases hji:j=i
  ·subst hji;exact hy.wpOp hi trivial ⟨fun e=>(by rw [hl]at e;cases e),H⟩
  ·have h1:=H.2 j (ready_mono hj hji)
   obtain⟨hjun,oj,hoj,hall⟩:=mem_ready.1 hj
   have hnot:∀ e ∈ oj.after,Region.binds md e=true→e.on≠i:=fun e he hb heq=>by
    have h1:=hall e he hb
    have h0:=(mem_ready.1 hr).1
    rw [heq]at h1
    rcases Nat.lt_or_ge i listed.size with h' | h'
    ·simp [h']at h0 h1;rw [h0]at h1;cases h1
    ·simp [Array.getElem?_eq_none h']at h1
   have h2:=wpOp_putIf hoj (hfree j oj hoj hji hjun hnot) (fun cs b=>hsel i oi cs b hi) (fun cs b=>hsel j oj cs b hoj) hQ hy h1
   have hfree':∀ k ok,ops[k]?=some ok→k≠i→(listed.setIfInBounds j true).getD k true=false →
    (∀ e ∈ ok.after,Region.binds md e=true→e.on≠i)→oi.apart ops ok=true:=fun k ok hk hki hun hno=>by
    refine hfree k ok hk hki ?_ hno
    by_cases hjk:j=k
    ·subst hjk;exact hjun
    ·rw [getD_set_ne true hjk]at hun;exact hun
   refine wpOp_mono (fun a2 w2 h3=>⟨h3.2.1,ih (listed.setIfInBounds j true) a2 w2 hfree' (ready_mono hr (Ne.symm hji)) h3.1 ?_⟩) h2
   rw [Array.setIfInBounds_comm _ _ hji]
   exact h3.2.2
theorem wpT_take0 {i:Nat} {oi:Oper} {v:Value} {n:Nat} {listed:Array Bool} {a:Act} {w:Zw} (hi:ops[i]?=some oi)
 (hs:Region.noSelect ops=true) (hf:Region.free md ops listed i=true) (hr:(Region.ready md ops listed).contains i=true) (hl:last.contains i=true)
 (hQ:∀ c a w,Q (.panic c) (a.put oi.dst v) w→Q (.panic c) a w) (hy:YieldsIf P ops (fun _=>True) oi v a)
 (h:wpT P md ops Q S last n (listed.setIfInBounds i true) (a.put oi.dst v) w):wpT P md ops Q S last (n+1) listed a w :=
 wpT.first0 hi (Region.noSelect_spec hs) hQ hl n listed a w (Region.free_spec hi hf) (by simpa using hr) hy h
theorem wpT_done {listed:Array Bool} {a:Act} {w:Zw} (hr:Region.ready md ops listed=[]) (h:Q .normal a w):∀ n,wpT P md ops Q S last n listed a w
 | 0=>⟨hr,h⟩
 | _+1=>⟨fun _=>h,by rw [hr];simp⟩
def AllT (P:Program) (md:Region.Mode) (ops:Array Oper) (Q:Exit→Act→Zw→Prop) (S:Zw→Prop) (last:List Nat) (n:Nat) (listed:Array Bool) (a:Act) (w:Zw) (rs:List Nat):Prop :=
 ∀ j ∈ rs,wpOp P ops Q j (fun a2 w2=>(last.contains j=false→S w2)∧wpT P md ops Q S last n (listed.setIfInBounds j true) a2 w2) a w
theorem AllT.nil {n:Nat} {listed:Array Bool} {a:Act} {w:Zw}:AllT P md ops Q S last n listed a w []:=fun _ h=>by cases h
theorem AllT.cons {n:Nat} {listed:Array Bool} {a:Act} {w:Zw} {i:Nat} {o:Oper} {rs:List Nat} (ho:ops[i]?=some o)
 (h:∀ K':Act→Zw→Prop,Shut (∀ a w,S w→(S w→wpT P md ops Q S last n (listed.setIfInBounds i true) a w)→K' a w)→if Region.wanted o (yielded ops a.tmps)=true then Oper.wp P o a w K' Q else K' (a.put o.dst undef) w)
 (hs:AllT P md ops Q S last n listed a w rs):AllT P md ops Q S last n listed a w (i :: rs):=fun j hj=>by
 rcases List.mem_cons.1 hj with rfl | hj
 ·exact wpOp_step ho (fun K' hK=>h K' (fun a w hS hW=>hK a w ⟨fun _=>hS,hW hS⟩))
 ·exact hs j hj
theorem AllT.end {n:Nat} {listed:Array Bool} {a:Act} {w:Zw} {i:Nat} {o:Oper} {rs:List Nat} (ho:ops[i]?=some o) (hl:last.contains i=true)
 (h:∀ K':Act→Zw→Prop,Shut (∀ a w,wpT P md ops Q S last n (listed.setIfInBounds i true) a w→K' a w)→if Region.wanted o (yielded ops a.tmps)=true then Oper.wp P o a w K' Q else K' (a.put o.dst undef) w)
 (hs:AllT P md ops Q S last n listed a w rs):AllT P md ops Q S last n listed a w (i :: rs):=fun j hj=>by
 rcases List.mem_cons.1 hj with rfl | hj
 ·exact wpOp_step ho (fun K' hK=>h K' (fun a w hW=>hK a w ⟨fun e=>(by rw [hl]at e;cases e),hW⟩))
 ·exact hs j hj
theorem wpT_ready {rs:List Nat} {n:Nat} {listed:Array Bool} {a:Act} {w:Zw} (hr:Region.ready md ops listed=rs) (hne:rs≠[])
 (h:AllT P md ops Q S last n listed a w rs):wpT P md ops Q S last (n+1) listed a w:=⟨fun h0=>absurd (hr ▸ h0) hne,hr ▸ h⟩
theorem wp_region_tail (last:List Nat) {id:Nat} {a:Act} {w:Zw} (hm:P.follows .mixedOrders=true) (hS:S w.drew)
 (h:S w.drew→wpT P .any ops Q S last ops.size (Array.replicate ops.size false) a w.drew):(Code.region id ops true).wp P Q a w :=
 wp_region_any hm (wpT.any _ _ _ _ (h hS))
end
end AT
end Go.Proofs.YtdbempiompiioaaGreat
namespace Go.Proofs.YtdbempiompiioaaGreat
open Go.RowKit
theorem rgA {α:Type} {l:List α} {i:Nat} (h:i < l.toArray.size):l.toArray[i]=l[i]'(by simpa using h):=List.getElem_toArray h
theorem rgB {α:Type} {a:α} {l:List α} {i:Nat} (h:i+1 < (a :: l).length):(a :: l)[i+1]=l[i]'(by simpa using h):=List.getElem_cons_succ ..
theorem rgC {α:Type} {a:α} {l:List α} (h:0 < (a :: l).length):(a :: l)[0]=a:=List.getElem_cons_zero ..
theorem rgD {α:Type} (l:List α) (i:Nat) (a:α):l.toArray.setIfInBounds i a=(l.set i a).toArray:=List.setIfInBounds_toArray ..
theorem rgE {α:Type} (x a:α) (l:List α):(x :: l).set 0 a=a :: l:=List.set_cons_zero ..
theorem rgF {α:Type} (x a:α) (l:List α) (n:Nat):(x :: l).set (n+1) a=x :: l.set n a:=List.set_cons_succ ..
section
variable {P:Program} {md:Region.Mode} {ops:Array Oper} {Q:Exit→Act→Zw→Prop} {S:Zw→Prop} {last:List Nat} {n:Nat} {li:Array Bool} {a:Act} {w:Zw}
theorem rgT (i:Nat) {oi:Oper} {v:Value} {a':Act} (h:wpAnyH P md ops Q S n (li.setIfInBounds i true) a' w) (hi:ops[i]?=some oi:=by rfl)
 (hy:YieldsIf P ops S oi v a:=by(refine Or.inl ⟨by rfl,?_⟩;intro w_ h_;(try dsimp only at h_);go_simp;(try with_reducible rfl)))
 (ha:a.put oi.dst v=a':=by(simp only [Act.put,rgA,rgB,rgC,rgD,rgE,rgF];rfl)) (hS:S w:=by assumption) (hs:Region.noSelect ops=true:=by kernel_rfl) (hf:Region.free md ops li i=true:=by kernel_rfl)
 (hr:(Region.ready md ops li).contains i=true:=by kernel_rfl) (hQ:∀ c a w,Q (.panic c) (a.put oi.dst v) w→Q (.panic c) a w:=by exact fun _ _ _ h=>h):wpAnyH P md ops Q S (n+1) li a w :=
 wpAnyH_take hi hs hf hr hQ hy hS (ha ▸ h)
theorem rgU (i:Nat) {oi:Oper} {v:Value} {a':Act} (h:AT.wpT P md ops Q S last n (li.setIfInBounds i true) a' w) (hi:ops[i]?=some oi:=by rfl)
 (hy:YieldsIf P ops S oi v a:=by(refine Or.inl ⟨by rfl,?_⟩;intro w_ h_;(try dsimp only at h_);go_simp;(try with_reducible rfl)))
 (ha:a.put oi.dst v=a':=by(simp only [Act.put,rgA,rgB,rgC,rgD,rgE,rgF];rfl)) (hS:S w:=by assumption) (hs:Region.noSelect ops=true:=by kernel_rfl) (hf:Region.free md ops li i=true:=by kernel_rfl)
 (hr:(Region.ready md ops li).contains i=true:=by kernel_rfl) (hT:AT.tailB md ops last i=true:=by kernel_rfl) (hQ:∀ c a w,Q (.panic c) (a.put oi.dst v) w→Q (.panic c) a w:=by exact fun _ _ _ h=>h):AT.wpT P md ops Q S last (n+1) li a w :=
 AT.wpT_take hi hs hf hr hT hQ hy hS (ha ▸ h)
theorem rgS (i:Nat) {oi:Oper} {a':Act} (h:wpAnyH P md ops Q S n (li.setIfInBounds i true) a' w) (hi:ops[i]?=some oi:=by rfl) (hy:Region.wanted oi (yielded ops a.tmps)=false:=by rfl)
 (ha:a.put oi.dst undef=a':=by(simp only [Act.put,rgA,rgB,rgC,rgD,rgE,rgF];rfl)) (hS:S w:=by assumption) (hs:Region.noSelect ops=true:=by kernel_rfl) (hf:Region.free md ops li i=true:=by kernel_rfl)
 (hr:(Region.ready md ops li).contains i=true:=by kernel_rfl) (hQ:∀ c a w,Q (.panic c) (a.put oi.dst undef) w→Q (.panic c) a w:=by exact fun _ _ _ h=>h):wpAnyH P md ops Q S (n+1) li a w :=
 wpAnyH_take hi hs hf hr hQ (Or.inr ⟨hy,rfl⟩) hS (ha ▸ h)
theorem rgR (i:Nat) {o:Oper} (h:∀ K':Act→Zw→Prop,Shut (∀ a w,S w→(S w→wpAnyH P md ops Q S n (li.setIfInBounds i true) a w)→K' a w)→if Region.wanted o (yielded ops a.tmps)=true then Oper.wp P o a w K' Q else K' (a.put o.dst undef) w) (ho:ops[i]?=some o:=by rfl) (hr:Region.ready md ops li=[i]:=by kernel_rfl):wpAnyH P md ops Q S (n+1) li a w :=
 wpAnyH_ready hr (by simp) (AllReadyH.cons ho h AllReadyH.nil)
theorem rgV (i:Nat) {o:Oper} (h:∀ K':Act→Zw→Prop,Shut (∀ a w,S w→(S w→AT.wpT P md ops Q S last n (li.setIfInBounds i true) a w)→K' a w)→if Region.wanted o (yielded ops a.tmps)=true then Oper.wp P o a w K' Q else K' (a.put o.dst undef) w) (ho:ops[i]?=some o:=by rfl) (hr:Region.ready md ops li=[i]:=by kernel_rfl):AT.wpT P md ops Q S last (n+1) li a w :=
 AT.wpT_ready hr (by simp) (AT.AllT.cons ho h AT.AllT.nil)
theorem rgW (i:Nat) {o:Oper} (h:∀ K':Act→Zw→Prop,Shut (∀ a w,AT.wpT P md ops Q S last n (li.setIfInBounds i true) a w→K' a w)→if Region.wanted o (yielded ops a.tmps)=true then Oper.wp P o a w K' Q else K' (a.put o.dst undef) w) (ho:ops[i]?=some o:=by rfl) (hr:Region.ready md ops li=[i]:=by kernel_rfl) (hl:last.contains i=true:=by kernel_rfl):AT.wpT P md ops Q S last (n+1) li a w :=
 AT.wpT_ready hr (by simp) (AT.AllT.end ho hl h AT.AllT.nil)
end
end Go.Proofs.YtdbempiompiioaaGreat
namespace Go.Proofs.YtdbempiompiioaaGreat
namespace A15
open Go.RowKit A1 A6 A13 A14
def strF (Pi st dv:Int) (s:ByteArray):ByteArray:=if st≠4 ∨ -(2*Pi)≤dv∧dv≤2*Pi then s else⟨#[]⟩
noncomputable def sdF (E:Int→Int→ByteArray→ByteArray) (N Pi slot dir:Int) (f:Nat→Sd) (g:Nat→Bool) (st dv node far:Int):Sd :=
 ⟨if far=1 then strF Pi st dv (comeF E N dir f g node 1)else comeF E N dir f g node 1,comeF E N dir f g node 2,
  if st=0 then⟨#[]⟩else outF (decide (far > 1∨N≤slot)) (if far=1 then strF Pi st dv (comeF E N dir f g node 1)else comeF E N dir f g node 1) (comeF E N dir f g node 2),far⟩
theorem come_strm {E:Int→Int→ByteArray→ByteArray} {N dir:Int} {f:Nat→Sd} {g:Nat→Bool} {node back:Int} (hE:∀ a b s,0≤a→a < N→0≤b→b < N→Strm s→Strm (E a b s)) (hN:6≤N) (h0:0≤node) (h1:node < N)
 (hf:∀ i:Nat,(i:Int) < N→Strm (f i).o):Strm (comeF E N dir f g node back):=by
 have q0:0≤(node + -dir*back)%N:=Int.emod_nonneg _ (by omega)
 have q1:(node + -dir*back)%N < N:=Int.emod_lt_of_pos _ (by omega)
 unfold comeF
 split
 ·exact hE _ _ _ q0 q1 h0 h1 (hf _ (by omega))
 ·exact Strm.empty
theorem str_strm {Pi st dv:Int} {s:ByteArray} (h:Strm s):Strm (strF Pi st dv s):=by unfold strF;split;exact h;exact Strm.empty
structure Laid (w w':Zw) (SB DB m:Nat) (d s o:ByteArray) (far:Int):Prop where
 but:But (fun k=>k=SB∨k=DB) w w'
 cd:w'.cell? ⟨SB,m*4,none⟩=some (.string d)
 cs:w'.cell? ⟨SB,m*4+1,none⟩=some (.string s)
 co:w'.cell? ⟨SB,m*4+2,none⟩=some (.string o)
 cf:w'.cell? ⟨SB,m*4+3,none⟩=some (Z Y far)
 cg:w'.cell? ⟨DB,m,none⟩=some (.bool true)
 rs:∀ q,q < m*4∨m*4+3 < q→w'.cell? ⟨SB,q,none⟩=w.cell? ⟨SB,q,none⟩
 rg:∀ q,q≠m→w'.cell? ⟨DB,q,none⟩=w.cell? ⟨DB,q,none⟩
 fs:∀ q,w'.frozen? ⟨SB,q,none⟩=w.frozen? ⟨SB,q,none⟩
 fd:∀ q,w'.frozen? ⟨DB,q,none⟩=w.frozen? ⟨DB,q,none⟩
theorem laid_of {w w4:Zw} {SB DB m:Nat} {d s o:ByteArray} {far:Int} {v0 v1 v2 v3 v4:Value} (hb:Zb w.heap.size w w4) (hSl:SB < w.heap.size) (hDl:DB < w.heap.size) (hSD:SB≠DB)
 (k0:w4.cell? ⟨SB,m*4,none⟩=some v0) (k1:w4.cell? ⟨SB,m*4+1,none⟩=some v1) (k2:w4.cell? ⟨SB,m*4+2,none⟩=some v2) (k3:w4.cell? ⟨SB,m*4+3,none⟩=some v3) (k4:w4.cell? ⟨DB,m,none⟩=some v4) :
 Laid w (((((w4.setCell ⟨SB,m*4,none⟩ (.string d)).setCell ⟨SB,m*4+1,none⟩ (.string s)).setCell ⟨SB,m*4+2,none⟩ (.string o)).setCell ⟨SB,m*4+3,none⟩ (Z Y far)).setCell ⟨DB,m,none⟩ (.bool true)) SB DB m d s o far:=by
 have ne:∀ {a b:Addr},a.block≠b.block∨a.off≠b.off→a≠b:=fun h e=>by subst e;rcases h with h | h <;> exact h rfl
 have os:∀ {w:Zw} {a b:Addr} {v:Value},(a.block≠b.block∨a.off≠b.off)→(w.setCell a v).cell? b=w.cell? b:=fun h=>Zo _ _ _ _ (ne h)
 refine⟨?_,?_,?_,?_,?_,?_,?_,?_,?_,?_⟩
 ·refine(But.setCell (But.setCell (But.setCell (But.setCell (But.setCell (But.of_below hb (Zr _)) ?_ _) ?_ _) ?_ _) ?_ _) ?_ _) <;> simp
 ·rw [os (.inl (by simpa using hSD.symm)),os (.inr (by simp)),os (.inr (by simp)),os (.inr (by simp)),World.cell?_setCell_same _ _ _ k0]
 ·rw [os (.inl (by simpa using hSD.symm)),os (.inr (by simp)),os (.inr (by simp)),World.cell?_setCell_same _ _ _ (u:=v1)]
  rw [os (.inr (by simp)),k1]
 ·rw [os (.inl (by simpa using hSD.symm)),os (.inr (by simp)),World.cell?_setCell_same _ _ _ (u:=v2)]
  rw [os (.inr (by simp)),os (.inr (by simp)),k2]
 ·rw [os (.inl (by simpa using hSD.symm)),World.cell?_setCell_same _ _ _ (u:=v3)]
  rw [os (.inr (by simp)),os (.inr (by simp)),os (.inr (by simp)),k3]
 ·rw [World.cell?_setCell_same _ _ _ (u:=v4)]
  rw [os (.inl (by simpa using hSD)),os (.inl (by simpa using hSD)),os (.inl (by simpa using hSD)),os (.inl (by simpa using hSD)),k4]
 ·intro q hq
  rw [os (.inl (by simpa using hSD.symm)),os (.inr (by simp;omega)),os (.inr (by simp;omega)),os (.inr (by simp;omega)),os (.inr (by simp;omega))]
  exact hb.cell (p:=⟨SB,q,none⟩) hSl
 ·intro q hq
  rw [os (.inr (by simpa using fun e=>hq e.symm)),os (.inl (by simpa using hSD)),os (.inl (by simpa using hSD)),os (.inl (by simpa using hSD)),os (.inl (by simpa using hSD))]
  exact hb.cell (p:=⟨DB,q,none⟩) hDl
 ·intro q
  simp only [World.frozen?_setCell]
  exact hb.frozen (p:=⟨SB,q,none⟩) hSl
 ·intro q
  simp only [World.frozen?_setCell]
  exact hb.frozen (p:=⟨DB,q,none⟩) hDl
theorem Laid.drew {w w':Zw} {SB DB m:Nat} {d s o:ByteArray} {far:Int} (h:Laid w w' SB DB m d s o far):Laid w w'.drew SB DB m d s o far:=⟨h.but.drew,h.cd,h.cs,h.co,h.cf,h.cg,h.rs,h.rg,h.fs,h.fd⟩
theorem reach_far (N Pi Er G Fi:Int) (PA:Option Addr) (PL PC:Nat) (slot:Int) (TB SB DB n W m:Nat) (d0 s0:ByteArray) (far st:Int) (w:Zw)
 (hc1:∀ w',Zb w.heap.size w w'→Zc Zp 150 #[.pointer (some ⟨W,0,none⟩),Z Y m,Z Y 1] w' fun e w2=>e=.returned (.string d0)∧Zb w'.heap.size w' w2)
 (hc2:∀ w',Zb w.heap.size w w'→Zc Zp 150 #[.pointer (some ⟨W,0,none⟩),Z Y m,Z Y 2] w' fun e w2=>e=.returned (.string s0)∧Zb w'.heap.size w' w2)
 (hd0:Strm d0) (hs0:s0.size≤4000) (hm:m < n) (hn:n≤12)
 (c0:w.cell? ⟨W,0,none⟩=some (Z Y N)) (c13:w.cell? ⟨W,13,none⟩=some (Z Y slot))
 (c15:w.cell? ⟨W,15,none⟩=some (.slice (some ⟨TB,0,none⟩) n n)) (c17:w.cell? ⟨W,17,none⟩=some (.slice (some ⟨SB,0,none⟩) n n)) (c18:w.cell? ⟨W,18,none⟩=some (.slice (some ⟨DB,0,none⟩) n n))
 (k0:∃ v,w.cell? ⟨SB,m*4,none⟩=some v) (k1:∃ v,w.cell? ⟨SB,m*4+1,none⟩=some v) (k2:∃ v,w.cell? ⟨SB,m*4+2,none⟩=some v) (k3:∃ v,w.cell? ⟨SB,m*4+3,none⟩=some v) (k4:∃ v,w.cell? ⟨DB,m,none⟩=some v)
 (fS:∀ o,w.frozen? ⟨SB,o,none⟩=false) (fD:∀ o,w.frozen? ⟨DB,o,none⟩=false) (hSD:SB≠DB) (hWS:W≠SB) (hWD:W≠DB) (hWl:W < w.heap.size) (hSl:SB < w.heap.size) (hDl:DB < w.heap.size)
 (hT:w.cell? ⟨TB,m,none⟩=some (Z Y st)) (hTl:TB < w.heap.size) (hfar:2≤far) (hfar2:far≤20) (hst:st≠0) :
 Zc Zp 106 #[.pointer (some ⟨W,0,none⟩),Z Y m,Z Y far] w fun e w'=>e=.returned (.tuple #[])∧Laid w w' SB DB m d0 s0 (outF true d0 s0) far:=by
 have hm0:(0:Int)≤(m:Int):=by omega
 have hm1:(m:Int) < (n:Int):=by omega
 have b1:(far == 1)=false:=beq_eq_false_iff_ne.mpr (by omega)
 have b2:decide (far > 1)=true:=by simp;omega
 have b3:(st != 0)=true:=bne_iff_ne.mpr hst
 obtain⟨v0,k0⟩:=k0
 obtain⟨v1,k1⟩:=k1
 obtain⟨v2,k2⟩:=k2
 obtain⟨v3,k3⟩:=k3
 obtain⟨v4,k4⟩:=k4
 have HC1:=O hc1
 have HC2:=O hc2
 have HD0:=O hd0
 clear hc1 hc2 hst hd0
 go_enter Tryz.func106,Tryz.ntmps106
 go_wp2_with fail
 refine(HC1.out _ (by repeat(first | exact Zf _ _ | refine Below.drew ?_ | refine below_drewN ?_ _ | refine Below.alloc ?_ (by simp) _))).mono ?_
 rintro e w1 ⟨rfl,hb1⟩
 have hz1:=hb1.size
 go_wp2_with fail
 refine(HC2.out _ ((show Zb w.heap.size w _ by repeat(first | exact Zf _ _ | refine Below.drew ?_ | refine below_drewN ?_ _ | refine Below.alloc ?_ (by simp) _)).trans hb1)).mono ?_
 rintro e w2 ⟨rfl,hb2⟩
 have hz2:=hb2.size
 have hb:=hb1.trans (hb2.mono hz1)
 have kc:∀ {b o v},b < w.heap.size→w.cell? ⟨b,o,none⟩=some v→w2.cell? ⟨b,o,none⟩=some v:=fun {b o v} h hv=>(hb.cell (p:=⟨b,o,none⟩) h).trans hv
 have kf:∀ {b o},b < w.heap.size→w.frozen? ⟨b,o,none⟩=false→w2.frozen? ⟨b,o,none⟩=false:=fun {b o} h hv=>(hb.frozen (p:=⟨b,o,none⟩) h).trans hv
 replace c0:=kc hWl c0
 replace c13:=kc hWl c13
 replace c15:=kc hWl c15
 replace c17:=kc hWl c17
 replace c18:=kc hWl c18
 replace k0:=kc hSl k0
 replace k1:=kc hSl k1
 replace k2:=kc hSl k2
 replace k3:=kc hSl k3
 replace k4:=kc hDl k4
 replace hT:=kc hTl hT
 replace fS:=fun o=>kf hSl (fS o)
 replace fD:=fun o=>kf hDl (fD o)
 have lW:W < w2.heap.size:=by omega
 have lS:SB < w2.heap.size:=by omega
 have lD:DB < w2.heap.size:=by omega
 have lT:TB < w2.heap.size:=by omega
 have nW:=World.new_ne w2 _ c0
 have nT:=World.new_ne w2 _ hT
 have nS:=World.new_ne w2 _ k0
 have nD:=World.new_ne w2 _ k4
 clear kc kf
 go_wp2_with fail
 refine wp_region_held_drew (S:=fun w'=>w'.cell? ⟨w2.heap.size,0,none⟩=some (.string d0)∧w'.cell? ⟨w2.heap.size,1,none⟩=some (.string s0)) (by kernel_rfl) (by go_keep) (fun hHeld=>?_)
 refine rgT 0 ?_
 refine rgT 1 ?_
 refine rgT 2 ?_
 refine rgS 3 ?_
 refine rgS 4 ?_
 refine rgS 5 ?_
 refine rgS 6 ?_
 refine rgS 7 ?_
 refine rgS 8 ?_
 refine rgS 9 ?_
 refine rgS 10 ?_
 refine rgS 11 ?_
 refine rgS 12 ?_
 refine rgT 13 ?_
 refine rgT 14 ?_
 refine rgT 15 ?_
 refine rgT 16 ?_
 refine rgT 17 ?_
 refine rgR 18 fun K hK=>?_
 go_simp
 refine(lane_Out' _ _ _ _ HD0.out hs0).mono ?_
 rintro e w3 ⟨rfl,hb3⟩
 have hz3:w2.heap.size+1≤w3.heap.size:=by have:=hb3.size;simpa using this
 have hb23:Zb w2.heap.size w2 w3:=((Zf w2.heap.size w2).alloc (Zr _) (.cells #[.string d0,.string s0,.string ⟨#[]⟩,Z Y far] 129)).trans (Below.mono (show Zb (w2.heap.size+1) _ w3 from⟨hb3.os,hb3.tape,hb3.output,hb3.size,fun k hk=>hb3.block k (by simpa using hk)⟩) (by omega))
 have hsb:w3.heap[w2.heap.size]?=some (.cells #[.string d0,.string s0,.string ⟨#[]⟩,Z Y far] 129 (0,0)):=(hb3.block _ (by simp)).trans (Zh w2 _)
 go_simp
 refine hK.out _ _ ⟨by simp [World.cell?,hsb],by simp [World.cell?,hsb]⟩ (fun hHeld=>?_)
 clear hK K
 try simp only [Act.put,List.setIfInBounds_toArray,List.set_cons_zero,List.set_cons_succ]
 have x2:w3.cell? ⟨w2.heap.size,2,none⟩=some (.string ⟨#[]⟩):=by simp [World.cell?,hsb]
 have y2:w3.frozen? ⟨w2.heap.size,2,none⟩=false:=by simp [World.frozen?,hsb]
 refine rgT 19 ?_
 refine rgR 20 fun K hK=>?_
 go_simp
 refine hK.out _ _ ⟨by simp [World.cell?,World.setCell,Array.getElem?_modify,hsb],by simp [World.cell?,World.setCell,Array.getElem?_modify,hsb]⟩ (fun hHeld=>?_)
 clear hK K
 refine wpAnyH_done (by kernel_rfl) ?_ _
 have hsb4:(w3.setCell ⟨w2.heap.size,2,none⟩ (.string (outF true d0 s0))).heap[w2.heap.size]?=some (.cells #[.string d0,.string s0,.string (outF true d0 s0),Z Y far] 129 (0,0)):=by
  simp [World.setCell,Array.getElem?_modify,hsb]
 have hb24:Zb w2.heap.size w2 (w3.setCell ⟨w2.heap.size,2,none⟩ (.string (outF true d0 s0))):=hb23.setCell (by simp) _
 obtain⟨w4,hw4⟩:∃ w4,w4=w3.setCell ⟨w2.heap.size,2,none⟩ (.string (outF true d0 s0)):=⟨_,rfl⟩
 rw [← hw4]at hsb4 hb24 ⊢
 have q:∀ {b o v},b < w2.heap.size→w2.cell? ⟨b,o,none⟩=some v→w4.cell? ⟨b,o,none⟩=some v:=fun {b o v} h hv=>(hb24.cell (p:=⟨b,o,none⟩) h).trans hv
 have qf:∀ {b o},b < w2.heap.size→w2.frozen? ⟨b,o,none⟩=false→w4.frozen? ⟨b,o,none⟩=false:=fun {b o} h hv=>(hb24.frozen (p:=⟨b,o,none⟩) h).trans hv
 replace c17:=q lW c17
 replace c18:=q lW c18
 replace k0:=q lS k0
 replace k1:=q lS k1
 replace k2:=q lS k2
 replace k3:=q lS k3
 replace k4:=q lD k4
 replace fS:=fun o=>qf lS (fS o)
 replace fD:=fun o=>qf lD (fD o)
 have z0:w4.cell? ⟨w2.heap.size,0,none⟩=some (.string d0):=by simp [World.cell?,hsb4]
 have z1:w4.cell? ⟨w2.heap.size,1,none⟩=some (.string s0):=by simp [World.cell?,hsb4]
 have z2:w4.cell? ⟨w2.heap.size,2,none⟩=some (.string (outF true d0 s0)):=by simp [World.cell?,hsb4]
 have z3:w4.cell? ⟨w2.heap.size,3,none⟩=some (Z Y far):=by simp [World.cell?,hsb4]
 have hDS:DB≠SB:=fun e=>hSD e.symm
 have hSW:SB≠W:=fun e=>hWS e.symm
 have hDW:DB≠W:=fun e=>hWD e.symm
 have sS:SB≠w2.heap.size:=by omega
 have sD:DB≠w2.heap.size:=by omega
 have HSB4:=O hsb4
 have hfin:=hb.trans (hb24.mono (by omega))
 clear q qf hsb4 hsb hw4 hb23 hb24 hb3 x2 y2 hz3 hHeld c0 c13 c15 hT
 go_wp2
 go_region_held3 (fun w'=>w'.cell? ⟨W,17,none⟩=some (.slice (some ⟨SB,0,none⟩) n n)∧w'.cell? ⟨W,18,none⟩=some (.slice (some ⟨DB,0,none⟩) n n)∧w'.cell? ⟨w2.heap.size,0,none⟩=some (.string d0)∧w'.cell? ⟨w2.heap.size,1,none⟩=some (.string s0)∧w'.cell? ⟨w2.heap.size,2,none⟩=some (.string (outF true d0 s0))∧w'.cell? ⟨w2.heap.size,3,none⟩=some (Z Y far)) (go_keep) (fail)
 go_wp2
 go_end0
 exact⟨rfl,(laid_of hfin hSl hDl hSD k0 k1 k2 k3 k4).drew⟩
end A15
namespace A16
open Go.RowKit A1 A2 A6 A11 A14 A15
theorem reach_far0 (N Pi Er G Fi:Int) (PA:Option Addr) (PL PC:Nat) (slot:Int) (TB UB SB DB n W m:Nat) (d0 s0:ByteArray) (far st dv:Int) (w:Zw)
 (hc1:∀ w',Zb w.heap.size w w'→Zc Zp 150 #[.pointer (some ⟨W,0,none⟩),Z Y m,Z Y 1] w' fun e w2=>e=.returned (.string d0)∧Zb w'.heap.size w' w2)
 (hc2:∀ w',Zb w.heap.size w w'→Zc Zp 150 #[.pointer (some ⟨W,0,none⟩),Z Y m,Z Y 2] w' fun e w2=>e=.returned (.string s0)∧Zb w'.heap.size w' w2)
 (hd0:Strm d0) (hs0:s0.size≤4000) (hm:m < n) (hn:n≤12)
 (c0:w.cell? ⟨W,0,none⟩=some (Z Y N)) (c1:w.cell? ⟨W,1,none⟩=some (Z Y Pi)) (c2:w.cell? ⟨W,2,none⟩=some (Z Y Er)) (c3:w.cell? ⟨W,3,none⟩=some (Z Y G)) (c4:w.cell? ⟨W,4,none⟩=some (Z Y Fi)) (c5:w.cell? ⟨W,5,none⟩=some (.slice PA PL PC))
 (c13:w.cell? ⟨W,13,none⟩=some (Z Y slot))
 (c15:w.cell? ⟨W,15,none⟩=some (.slice (some ⟨TB,0,none⟩) n n)) (c16:w.cell? ⟨W,16,none⟩=some (.slice (some ⟨UB,0,none⟩) n n)) (c17:w.cell? ⟨W,17,none⟩=some (.slice (some ⟨SB,0,none⟩) n n)) (c18:w.cell? ⟨W,18,none⟩=some (.slice (some ⟨DB,0,none⟩) n n))
 (k0:∃ v,w.cell? ⟨SB,m*4,none⟩=some v) (k1:∃ v,w.cell? ⟨SB,m*4+1,none⟩=some v) (k2:∃ v,w.cell? ⟨SB,m*4+2,none⟩=some v) (k3:∃ v,w.cell? ⟨SB,m*4+3,none⟩=some v) (k4:∃ v,w.cell? ⟨DB,m,none⟩=some v)
 (fS:∀ o,w.frozen? ⟨SB,o,none⟩=false) (fD:∀ o,w.frozen? ⟨DB,o,none⟩=false) (hSD:SB≠DB) (hWS:W≠SB) (hWD:W≠DB) (hWl:W < w.heap.size) (hSl:SB < w.heap.size) (hDl:DB < w.heap.size)
 (hT:w.cell? ⟨TB,m,none⟩=some (Z Y st)) (hTl:TB < w.heap.size) (hU:w.cell? ⟨UB,m,none⟩=some (Z Y dv)) (hUl:UB < w.heap.size) (hPi:0≤Pi) (hPi2:Pi≤10000)
 (hfar:2≤far∧far≤20) (hst:st=0) :
 Zc Zp 106 #[.pointer (some ⟨W,0,none⟩),Z Y m,Z Y far] w fun e w'=>e=.returned (.tuple #[])∧Laid w w' SB DB m d0 s0 ⟨#[]⟩ far:=by
 have hm0:(0:Int)≤(m:Int):=by omega
 have hm1:(m:Int) < (n:Int):=by omega
 have b1:(far == 1)=false:=beq_eq_false_iff_ne.mpr (by omega)
 have b2:decide (far > 1)=true:=by simp;omega
 obtain⟨hfar,hfar2⟩:=hfar
 subst hst
 obtain⟨v0,k0⟩:=k0
 obtain⟨v1,k1⟩:=k1
 obtain⟨v2,k2⟩:=k2
 obtain⟨v3,k3⟩:=k3
 obtain⟨v4,k4⟩:=k4
 have HDS:=O hd0
 have HC1:=O hc1
 have HC2:=O hc2
 clear hc1 hc2 hd0
 go_enter Tryz.func106,Tryz.ntmps106
 go_wp2_with fail
 refine(HC1.out _ (by repeat(first | exact Zf _ _ | refine Below.drew ?_ | refine below_drewN ?_ _ | refine Below.alloc ?_ (by simp) _))).mono ?_
 rintro e w1 ⟨rfl,hb1⟩
 have hz1:=hb1.size
 go_wp2_with fail
 refine(HC2.out _ ((show Zb w.heap.size w _ by repeat(first | exact Zf _ _ | refine Below.drew ?_ | refine below_drewN ?_ _ | refine Below.alloc ?_ (by simp) _)).trans hb1)).mono ?_
 rintro e w2 ⟨rfl,hb2⟩
 have hz2:=hb2.size
 have hq:=hb1.trans (hb2.mono hz1)
 have hfin:=hq
 have lW:=hWl
 have lS:=hSl
 have lD:=hDl
 have lT:=hTl
 have lU:=hUl
 have q:∀ {b o v},b < w.heap.size→w.cell? ⟨b,o,none⟩=some v→(w2).cell? ⟨b,o,none⟩=some v:=fun {b o v} h hv=>(hq.cell (p:=⟨b,o,none⟩) h).trans hv
 have qf:∀ {b o},b < w.heap.size→w.frozen? ⟨b,o,none⟩=false→(w2).frozen? ⟨b,o,none⟩=false:=fun {b o} h hv=>(hq.frozen (p:=⟨b,o,none⟩) h).trans hv
 replace c0:=q lW c0
 replace c1:=q lW c1
 replace c2:=q lW c2
 replace c3:=q lW c3
 replace c4:=q lW c4
 replace c5:=q lW c5
 replace c13:=q lW c13
 replace c15:=q lW c15
 replace c16:=q lW c16
 replace c17:=q lW c17
 replace c18:=q lW c18
 replace k0:=q lS k0
 replace k1:=q lS k1
 replace k2:=q lS k2
 replace k3:=q lS k3
 replace k4:=q lD k4
 replace hT:=q lT hT
 replace fS:=fun o=>qf lS (fS o)
 replace fD:=fun o=>qf lD (fD o)
 replace hU:=q lU hU
 clear q qf
 replace lW:W < w2.heap.size:=by omega
 replace lS:SB < w2.heap.size:=by omega
 replace lD:DB < w2.heap.size:=by omega
 replace lT:TB < w2.heap.size:=by omega
 replace lU:UB < w2.heap.size:=by omega
 have nW:=World.new_ne w2 _ c0
 have nT:=World.new_ne w2 _ hT
 have nU:=World.new_ne w2 _ hU
 have nS:=World.new_ne w2 _ k0
 have nD:=World.new_ne w2 _ k4
 clear hb1 hb2 hq
 have hq:Zb w2.heap.size w2 (w2.alloc (.cells #[.string d0,.string s0,.string ⟨#[]⟩,Z Y far] 129)):=(Zf _ _).alloc (Zr _) _
 have hsb:(w2.alloc (.cells #[.string d0,.string s0,.string ⟨#[]⟩,Z Y far] 129)).heap[w2.heap.size]?=some (.cells #[.string d0,.string s0,.string ⟨#[]⟩,Z Y far] 129 (0,0)):=Zh w2 _
 have HQ:=O hq
 have HS:=O hsb
 clear hq hsb
 go_wp2_with fail
 have hq:=HQ.out
 have hsb:=HS.out
 clear HQ HS
 generalize w2.alloc (.cells #[.string d0,.string s0,.string ⟨#[]⟩,Z Y far] 129)=wA at *
 have q:∀ {b o v},b < w2.heap.size→w2.cell? ⟨b,o,none⟩=some v→(wA).cell? ⟨b,o,none⟩=some v:=fun {b o v} h hv=>(hq.cell (p:=⟨b,o,none⟩) h).trans hv
 have qf:∀ {b o},b < w2.heap.size→w2.frozen? ⟨b,o,none⟩=false→(wA).frozen? ⟨b,o,none⟩=false:=fun {b o} h hv=>(hq.frozen (p:=⟨b,o,none⟩) h).trans hv
 replace c0:=q lW c0
 replace c1:=q lW c1
 replace c2:=q lW c2
 replace c3:=q lW c3
 replace c4:=q lW c4
 replace c5:=q lW c5
 replace c13:=q lW c13
 replace c15:=q lW c15
 replace c16:=q lW c16
 replace c17:=q lW c17
 replace c18:=q lW c18
 replace k0:=q lS k0
 replace k1:=q lS k1
 replace k2:=q lS k2
 replace k3:=q lS k3
 replace k4:=q lD k4
 replace hT:=q lT hT
 replace fS:=fun o=>qf lS (fS o)
 replace fD:=fun o=>qf lD (fD o)
 clear q qf
 have z0:(wA).cell? ⟨w2.heap.size,0,none⟩=some (.string d0):=by simp [World.cell?,hsb]
 have z1:(wA).cell? ⟨w2.heap.size,1,none⟩=some (.string s0):=by simp [World.cell?,hsb]
 have z2:(wA).cell? ⟨w2.heap.size,2,none⟩=some (.string ⟨#[]⟩):=by simp [World.cell?,hsb]
 have z3:(wA).cell? ⟨w2.heap.size,3,none⟩=some (Z Y far):=by simp [World.cell?,hsb]
 have zf:(wA).frozen? ⟨w2.heap.size,2,none⟩=false:=by simp [World.frozen?,hsb]
 have lX:w2.heap.size < wA.heap.size:=heap_lt hsb
 replace hfin:=hfin.trans (hq.mono (by omega))
 replace lW:W < wA.heap.size:=by omega
 replace lS:SB < wA.heap.size:=by omega
 replace lD:DB < wA.heap.size:=by omega
 replace lT:TB < wA.heap.size:=by omega
 replace lU:UB < wA.heap.size:=by omega
 have xS:SB≠w2.heap.size:=by omega
 have xD:DB≠w2.heap.size:=by omega
 have xW:W≠w2.heap.size:=by omega
 have hge:w.heap.size≤w2.heap.size:=by omega
 have HSB:=O hsb
 clear nW nT nU nS nD hsb hU hq hz1 hz2
 generalize w2.heap.size=Sb at *
 clear c0 c1 c2 c3 c4 c5 c13 c15 c16 hT zf
 have hDS:DB≠SB:=fun e=>hSD e.symm
 have hSW:SB≠W:=fun e=>hWS e.symm
 have hDW:DB≠W:=fun e=>hWD e.symm
 go_region_held3 (fun w'=>w'.cell? ⟨W,17,none⟩=some (.slice (some ⟨SB,0,none⟩) n n)∧w'.cell? ⟨W,18,none⟩=some (.slice (some ⟨DB,0,none⟩) n n)∧w'.cell? ⟨Sb,0,none⟩=some (.string d0)∧w'.cell? ⟨Sb,1,none⟩=some (.string s0)∧w'.cell? ⟨Sb,2,none⟩=some (.string ⟨#[]⟩)∧w'.cell? ⟨Sb,3,none⟩=some (Z Y far)) (go_keep) (fail)
 go_wp2
 go_end0
 exact⟨rfl,(laid_of hfin hSl hDl hSD k0 k1 k2 k3 k4).drew⟩
theorem reach_near (N Pi Er G Fi:Int) (PA:Option Addr) (PL PC:Nat) (slot:Int) (TB UB SB DB n W m:Nat) (d0 s0:ByteArray) (far st dv:Int) (w:Zw)
 (hc1:∀ w',Zb w.heap.size w w'→Zc Zp 150 #[.pointer (some ⟨W,0,none⟩),Z Y m,Z Y 1] w' fun e w2=>e=.returned (.string d0)∧Zb w'.heap.size w' w2)
 (hc2:∀ w',Zb w.heap.size w w'→Zc Zp 150 #[.pointer (some ⟨W,0,none⟩),Z Y m,Z Y 2] w' fun e w2=>e=.returned (.string s0)∧Zb w'.heap.size w' w2)
 (hd0:Strm d0) (hs0:s0.size≤4000) (hm:m < n) (hn:n≤12)
 (c0:w.cell? ⟨W,0,none⟩=some (Z Y N)) (c1:w.cell? ⟨W,1,none⟩=some (Z Y Pi)) (c2:w.cell? ⟨W,2,none⟩=some (Z Y Er)) (c3:w.cell? ⟨W,3,none⟩=some (Z Y G)) (c4:w.cell? ⟨W,4,none⟩=some (Z Y Fi)) (c5:w.cell? ⟨W,5,none⟩=some (.slice PA PL PC))
 (c13:w.cell? ⟨W,13,none⟩=some (Z Y slot))
 (c15:w.cell? ⟨W,15,none⟩=some (.slice (some ⟨TB,0,none⟩) n n)) (c16:w.cell? ⟨W,16,none⟩=some (.slice (some ⟨UB,0,none⟩) n n)) (c17:w.cell? ⟨W,17,none⟩=some (.slice (some ⟨SB,0,none⟩) n n)) (c18:w.cell? ⟨W,18,none⟩=some (.slice (some ⟨DB,0,none⟩) n n))
 (k0:∃ v,w.cell? ⟨SB,m*4,none⟩=some v) (k1:∃ v,w.cell? ⟨SB,m*4+1,none⟩=some v) (k2:∃ v,w.cell? ⟨SB,m*4+2,none⟩=some v) (k3:∃ v,w.cell? ⟨SB,m*4+3,none⟩=some v) (k4:∃ v,w.cell? ⟨DB,m,none⟩=some v)
 (fS:∀ o,w.frozen? ⟨SB,o,none⟩=false) (fD:∀ o,w.frozen? ⟨DB,o,none⟩=false) (hSD:SB≠DB) (hWS:W≠SB) (hWD:W≠DB) (hWl:W < w.heap.size) (hSl:SB < w.heap.size) (hDl:DB < w.heap.size)
 (hT:w.cell? ⟨TB,m,none⟩=some (Z Y st)) (hTl:TB < w.heap.size) (hU:w.cell? ⟨UB,m,none⟩=some (Z Y dv)) (hUl:UB < w.heap.size) (hPi:0≤Pi) (hPi2:Pi≤10000)
 (hfar:far=1) (hst:st≠0) (hslot:slot < N) :
 Zc Zp 106 #[.pointer (some ⟨W,0,none⟩),Z Y m,Z Y far] w fun e w'=>e=.returned (.tuple #[])∧Laid w w' SB DB m (strF Pi st dv d0) s0 (outF false (strF Pi st dv d0) s0) far:=by
 have hm0:(0:Int)≤(m:Int):=by omega
 have hm1:(m:Int) < (n:Int):=by omega
 subst hfar
 have b3:(st != 0)=true:=bne_iff_ne.mpr hst
 have b4:decide (slot≥N)=false:=by simp;omega
 obtain⟨v0,k0⟩:=k0
 obtain⟨v1,k1⟩:=k1
 obtain⟨v2,k2⟩:=k2
 obtain⟨v3,k3⟩:=k3
 obtain⟨v4,k4⟩:=k4
 obtain⟨dd,hdd⟩:∃ dd,dd=strF Pi st dv d0:=⟨_,rfl⟩
 rw [← hdd]
 have HDD:=O hdd
 have HDS:Hid (Strm dd):=by rw [hdd];exact str_strm hd0
 clear hdd
 have HC1:=O hc1
 have HC2:=O hc2
 clear hc1 hc2 hst hd0
 go_enter Tryz.func106,Tryz.ntmps106
 go_wp2_with fail
 refine(HC1.out _ (by repeat(first | exact Zf _ _ | refine Below.drew ?_ | refine below_drewN ?_ _ | refine Below.alloc ?_ (by simp) _))).mono ?_
 rintro e w1 ⟨rfl,hb1⟩
 have hz1:=hb1.size
 go_wp2_with fail
 refine(HC2.out _ ((show Zb w.heap.size w _ by repeat(first | exact Zf _ _ | refine Below.drew ?_ | refine below_drewN ?_ _ | refine Below.alloc ?_ (by simp) _)).trans hb1)).mono ?_
 rintro e w2 ⟨rfl,hb2⟩
 have hz2:=hb2.size
 have hq:=hb1.trans (hb2.mono hz1)
 have hfin:=hq
 have lW:=hWl
 have lS:=hSl
 have lD:=hDl
 have lT:=hTl
 have lU:=hUl
 have q:∀ {b o v},b < w.heap.size→w.cell? ⟨b,o,none⟩=some v→(w2).cell? ⟨b,o,none⟩=some v:=fun {b o v} h hv=>(hq.cell (p:=⟨b,o,none⟩) h).trans hv
 have qf:∀ {b o},b < w.heap.size→w.frozen? ⟨b,o,none⟩=false→(w2).frozen? ⟨b,o,none⟩=false:=fun {b o} h hv=>(hq.frozen (p:=⟨b,o,none⟩) h).trans hv
 replace c0:=q lW c0
 replace c1:=q lW c1
 replace c2:=q lW c2
 replace c3:=q lW c3
 replace c4:=q lW c4
 replace c5:=q lW c5
 replace c13:=q lW c13
 replace c15:=q lW c15
 replace c16:=q lW c16
 replace c17:=q lW c17
 replace c18:=q lW c18
 replace k0:=q lS k0
 replace k1:=q lS k1
 replace k2:=q lS k2
 replace k3:=q lS k3
 replace k4:=q lD k4
 replace hT:=q lT hT
 replace fS:=fun o=>qf lS (fS o)
 replace fD:=fun o=>qf lD (fD o)
 replace hU:=q lU hU
 clear q qf
 replace lW:W < w2.heap.size:=by omega
 replace lS:SB < w2.heap.size:=by omega
 replace lD:DB < w2.heap.size:=by omega
 replace lT:TB < w2.heap.size:=by omega
 replace lU:UB < w2.heap.size:=by omega
 have nW:=World.new_ne w2 _ c0
 have nT:=World.new_ne w2 _ hT
 have nU:=World.new_ne w2 _ hU
 have nS:=World.new_ne w2 _ k0
 have nD:=World.new_ne w2 _ k4
 clear hb1 hb2 hq
 go_wp2_with fail
 refine wp_region_held_drew (S:=fun w'=>w'.cell? ⟨W,0,none⟩=some (Z Y N)∧w'.cell? ⟨W,1,none⟩=some (Z Y Pi)∧w'.cell? ⟨W,2,none⟩=some (Z Y Er)∧w'.cell? ⟨W,3,none⟩=some (Z Y G)∧w'.cell? ⟨W,4,none⟩=some (Z Y Fi)∧w'.cell? ⟨W,5,none⟩=some (.slice PA PL PC)∧w'.cell? ⟨W,15,none⟩=some (.slice (some ⟨TB,0,none⟩) n n)∧w'.cell? ⟨W,16,none⟩=some (.slice (some ⟨UB,0,none⟩) n n)∧w'.cell? ⟨TB,m,none⟩=some (Z Y st)∧w'.cell? ⟨UB,m,none⟩=some (Z Y dv)) (by kernel_rfl) (by go_keep) (fun hHeld=>?_)
 refine rgT 0 ?_
 refine rgT 1 ?_
 refine rgT 2 ?_
 refine rgT 3 ?_
 refine rgT 4 ?_
 refine rgT 5 ?_
 refine rgT 6 ?_
 refine rgT 7 ?_
 refine rgT 8 ?_
 refine rgT 9 ?_
 refine rgT 10 ?_
 refine rgT 11 ?_
 refine rgT 12 ?_
 refine rgT 13 ?_
 refine rgT 14 ?_
 refine rgT 15 ?_
 refine rgT 16 ?_
 refine rgT 17 ?_
 refine rgT 18 ?_
 refine rgR 19 fun K hK=>?_
 go_simp
 refine hK.out _ _ (by assumption) (fun hHeld=>?_)
 clear hK K
 refine rgR 20 fun K hK=>?_
 go_simp
 refine(guard_Stream N Pi Er G Fi PA PL PC st dv d0 _ hPi hPi2).mono ?_
 rw [show(if(st:Int)≠4 ∨ -(2*Pi)≤dv∧dv≤2*Pi then d0 else(⟨#[]⟩:ByteArray))=dd from HDD.out.symm]
 rintro e w3 ⟨rfl,hb3⟩
 have hq:Zb w2.heap.size w2 w3:=((Zf w2.heap.size w2).alloc (Zr _) (.cells #[.string d0,.string s0,.string ⟨#[]⟩,Z Y 1] 129)).trans (Below.mono (show Zb (w2.heap.size+1) _ w3 from⟨hb3.os,hb3.tape,hb3.output,by have:=hb3.size;simpa using this,fun k hk=>hb3.block k (by simpa using hk)⟩) (by omega))
 have hsb:w3.heap[w2.heap.size]?=some (.cells #[.string d0,.string s0,.string ⟨#[]⟩,Z Y 1] 129 (0,0)):=(hb3.block _ (by simp)).trans (Zh w2 _)
 go_simp
 have hx:∀ {b o v},b < w2.heap.size→w2.cell? ⟨b,o,none⟩=some v→w3.cell? ⟨b,o,none⟩=some v:=fun {b o v} h hv=>(hq.cell (p:=⟨b,o,none⟩) h).trans hv
 refine hK.out _ _ ⟨hx lW c0,hx lW c1,hx lW c2,hx lW c3,hx lW c4,hx lW c5,hx lW c15,hx lW c16,hx lT hT,hx lU hU⟩ (fun hHeld=>?_)
 clear hK K hx
 have x2:w3.cell? ⟨w2.heap.size,0,none⟩=some (.string d0):=by simp [World.cell?,hsb]
 have y2:w3.frozen? ⟨w2.heap.size,0,none⟩=false:=by simp [World.frozen?,hsb]
 refine rgT 21 ?_
 refine rgR 22 fun K hK=>?_
 go_simp
 replace hq:Zb w2.heap.size w2 (w3.setCell ⟨w2.heap.size,0,none⟩ (.string dd)):=hq.setCell (by simp) _
 have hx:∀ {b o v},b < w2.heap.size→w2.cell? ⟨b,o,none⟩=some v→(w3.setCell ⟨w2.heap.size,0,none⟩ (.string dd)).cell? ⟨b,o,none⟩=some v:=fun {b o v} h hv=>(hq.cell (p:=⟨b,o,none⟩) h).trans hv
 refine hK.out _ _ ⟨hx lW c0,hx lW c1,hx lW c2,hx lW c3,hx lW c4,hx lW c5,hx lW c15,hx lW c16,hx lT hT,hx lU hU⟩ (fun hHeld=>?_)
 clear hK K hx x2 y2
 refine wpAnyH_done (by kernel_rfl) ?_ _
 replace hsb:(w3.setCell ⟨w2.heap.size,0,none⟩ (.string dd)).heap[w2.heap.size]?=some (.cells #[.string dd,.string s0,.string ⟨#[]⟩,Z Y 1] 129 (0,0)):=by
  simp [World.setCell,Array.getElem?_modify,hsb]
 clear hHeld hb3
 generalize w3.setCell ⟨w2.heap.size,0,none⟩ (.string dd)=wA at *
 have q:∀ {b o v},b < w2.heap.size→w2.cell? ⟨b,o,none⟩=some v→(wA).cell? ⟨b,o,none⟩=some v:=fun {b o v} h hv=>(hq.cell (p:=⟨b,o,none⟩) h).trans hv
 have qf:∀ {b o},b < w2.heap.size→w2.frozen? ⟨b,o,none⟩=false→(wA).frozen? ⟨b,o,none⟩=false:=fun {b o} h hv=>(hq.frozen (p:=⟨b,o,none⟩) h).trans hv
 replace c0:=q lW c0
 replace c1:=q lW c1
 replace c2:=q lW c2
 replace c3:=q lW c3
 replace c4:=q lW c4
 replace c5:=q lW c5
 replace c13:=q lW c13
 replace c15:=q lW c15
 replace c16:=q lW c16
 replace c17:=q lW c17
 replace c18:=q lW c18
 replace k0:=q lS k0
 replace k1:=q lS k1
 replace k2:=q lS k2
 replace k3:=q lS k3
 replace k4:=q lD k4
 replace hT:=q lT hT
 replace fS:=fun o=>qf lS (fS o)
 replace fD:=fun o=>qf lD (fD o)
 clear q qf
 have z0:(wA).cell? ⟨w2.heap.size,0,none⟩=some (.string dd):=by simp [World.cell?,hsb]
 have z1:(wA).cell? ⟨w2.heap.size,1,none⟩=some (.string s0):=by simp [World.cell?,hsb]
 have z2:(wA).cell? ⟨w2.heap.size,2,none⟩=some (.string ⟨#[]⟩):=by simp [World.cell?,hsb]
 have z3:(wA).cell? ⟨w2.heap.size,3,none⟩=some (Z Y 1):=by simp [World.cell?,hsb]
 have zf:(wA).frozen? ⟨w2.heap.size,2,none⟩=false:=by simp [World.frozen?,hsb]
 have lX:w2.heap.size < wA.heap.size:=heap_lt hsb
 replace hfin:=hfin.trans (hq.mono (by omega))
 replace lW:W < wA.heap.size:=by omega
 replace lS:SB < wA.heap.size:=by omega
 replace lD:DB < wA.heap.size:=by omega
 replace lT:TB < wA.heap.size:=by omega
 replace lU:UB < wA.heap.size:=by omega
 have xS:SB≠w2.heap.size:=by omega
 have xD:DB≠w2.heap.size:=by omega
 have xW:W≠w2.heap.size:=by omega
 have hge:w.heap.size≤w2.heap.size:=by omega
 have HSB:=O hsb
 clear nW nT nU nS nD hsb hU hq hz1 hz2
 generalize w2.heap.size=Sb at *
 go_wp2_with fail
 refine wp_region_held_drew (S:=fun w'=>w'.cell? ⟨Sb,0,none⟩=some (.string dd)∧w'.cell? ⟨Sb,1,none⟩=some (.string s0)∧w'.cell? ⟨W,13,none⟩=some (Z Y slot)∧w'.cell? ⟨W,0,none⟩=some (Z Y N)) (by kernel_rfl) (by go_keep) (fun hHeld=>?_)
 refine rgT 0 ?_
 refine rgT 1 ?_
 refine rgT 2 ?_
 refine rgT 3 ?_
 refine rgT 4 ?_
 refine rgT 5 ?_
 refine rgT 6 ?_
 refine rgT 7 ?_
 refine rgT 8 ?_
 refine rgT 9 ?_
 refine rgT 10 ?_
 refine rgT 11 ?_
 refine rgT 12 ?_
 refine rgT 13 ?_
 refine rgT 14 ?_
 refine rgT 15 ?_
 refine rgT 16 ?_
 refine rgT 17 ?_
 refine rgR 18 fun K hK=>?_
 go_simp
 refine(lane_Out' _ _ _ _ HDS.out hs0).mono ?_
 rintro e w6 ⟨rfl,hb6⟩
 have hq:Zb wA.heap.size wA w6:=⟨hb6.os,hb6.tape,hb6.output,by have:=hb6.size;simpa using this,fun k hk=>hb6.block k (by simpa using hk)⟩
 have hsb:=(hq.block _ lX).trans HSB.out
 go_simp
 have hx:∀ {b o v},b < wA.heap.size→wA.cell? ⟨b,o,none⟩=some v→w6.cell? ⟨b,o,none⟩=some v:=fun {b o v} h hv=>(hq.cell (p:=⟨b,o,none⟩) h).trans hv
 refine hK.out _ _ ⟨hx lX z0,hx lX z1,hx lW c13,hx lW c0⟩ (fun hHeld=>?_)
 clear hK K
 have x2:w6.cell? ⟨Sb,2,none⟩=some (.string ⟨#[]⟩):=hx lX z2
 have y2:w6.frozen? ⟨Sb,2,none⟩=false:=(hq.frozen (p:=⟨Sb,2,none⟩) lX).trans zf
 refine rgT 19 ?_
 refine rgR 20 fun K hK=>?_
 go_simp
 refine hK.out _ _ ?_ (fun hHeld=>?_)
 ·have n0:(⟨Sb,2,none⟩:Addr)≠⟨Sb,0,none⟩:=by simp
  have n1:(⟨Sb,2,none⟩:Addr)≠⟨Sb,1,none⟩:=by simp
  have n2:(⟨Sb,2,none⟩:Addr)≠⟨W,13,none⟩:=by simp
  have n3:(⟨Sb,2,none⟩:Addr)≠⟨W,0,none⟩:=by simp
  refine⟨(Zo _ _ _ _ n0).trans (hx lX z0),(Zo _ _ _ _ n1).trans (hx lX z1),(Zo _ _ _ _ n2).trans (hx lW c13),(Zo _ _ _ _ n3).trans (hx lW c0)⟩
 clear hK K
 refine wpAnyH_done (by kernel_rfl) ?_ _
 have lX6:SB < w6.heap.size∧DB < w6.heap.size∧W < w6.heap.size∧TB < w6.heap.size:=by have:=hq.size;omega
 have hr:Zb w.heap.size w (w6.setCell ⟨Sb,2,none⟩ (.string (outF false dd s0))):=(hfin.trans (hq.mono (by omega))).setCell (p:=⟨Sb,2,none⟩) hge _
 have y:∀ {b o v},b < wA.heap.size→b≠Sb→wA.cell? ⟨b,o,none⟩=some v→(w6.setCell ⟨Sb,2,none⟩ (.string (outF false dd s0))).cell? ⟨b,o,none⟩=some v:=fun {b o v} h hb hv=>(Zo _ _ _ _ (fun e=>hb (by injection e with e1;exact e1.symm))).trans (hx h hv)
 have yf:∀ {b o},b < wA.heap.size→wA.frozen? ⟨b,o,none⟩=false→(w6.setCell ⟨Sb,2,none⟩ (.string (outF false dd s0))).frozen? ⟨b,o,none⟩=false:=fun {b o} h hv=>(World.frozen?_setCell _ _ _ _).trans ((hq.frozen (p:=⟨b,o,none⟩) h).trans hv)
 replace c17:=y lW xW c17
 replace c18:=y lW xW c18
 replace k0:=y lS xS k0
 replace k1:=y lS xS k1
 replace k2:=y lS xS k2
 replace k3:=y lS xS k3
 replace k4:=y lD xD k4
 replace fS:=fun o=>yf lS (fS o)
 replace fD:=fun o=>yf lD (fD o)
 replace hsb:(w6.setCell ⟨Sb,2,none⟩ (.string (outF false dd s0))).heap[Sb]?=some (.cells #[.string dd,.string s0,.string (outF false dd s0),Z Y 1] 129 (0,0)):=by simp [World.setCell,Array.getElem?_modify,hsb]
 clear x2 y2 z0 z1 z2 z3 zf hHeld hx y yf hq hb6 hfin
 generalize w6.setCell ⟨Sb,2,none⟩ (.string (outF false dd s0))=w7 at *
 have z0:(w7).cell? ⟨Sb,0,none⟩=some (.string dd):=by simp [World.cell?,hsb]
 have z1:(w7).cell? ⟨Sb,1,none⟩=some (.string s0):=by simp [World.cell?,hsb]
 have z2:(w7).cell? ⟨Sb,2,none⟩=some (.string (outF false dd s0)):=by simp [World.cell?,hsb]
 have z3:(w7).cell? ⟨Sb,3,none⟩=some (Z Y 1):=by simp [World.cell?,hsb]
 have zf:(w7).frozen? ⟨Sb,2,none⟩=false:=by simp [World.frozen?,hsb]
 have hfin:=hr
 clear hsb hr
 clear c0 c1 c2 c3 c4 c5 c13 c15 c16 hT zf
 go_wp2
 have hDS:DB≠SB:=fun e=>hSD e.symm
 have hSW:SB≠W:=fun e=>hWS e.symm
 have hDW:DB≠W:=fun e=>hWD e.symm
 go_region_held3 (fun w'=>w'.cell? ⟨W,17,none⟩=some (.slice (some ⟨SB,0,none⟩) n n)∧w'.cell? ⟨W,18,none⟩=some (.slice (some ⟨DB,0,none⟩) n n)∧w'.cell? ⟨Sb,0,none⟩=some (.string dd)∧w'.cell? ⟨Sb,1,none⟩=some (.string s0)∧w'.cell? ⟨Sb,2,none⟩=some (.string (outF false dd s0))∧w'.cell? ⟨Sb,3,none⟩=some (Z Y 1)) (go_keep) (fail)
 go_wp2
 go_end0
 exact⟨rfl,(laid_of hfin hSl hDl hSD k0 k1 k2 k3 k4).drew⟩
theorem reach_nearPair (N Pi Er G Fi:Int) (PA:Option Addr) (PL PC:Nat) (slot:Int) (TB UB SB DB n W m:Nat) (d0 s0:ByteArray) (far st dv:Int) (w:Zw)
 (hc1:∀ w',Zb w.heap.size w w'→Zc Zp 150 #[.pointer (some ⟨W,0,none⟩),Z Y m,Z Y 1] w' fun e w2=>e=.returned (.string d0)∧Zb w'.heap.size w' w2)
 (hc2:∀ w',Zb w.heap.size w w'→Zc Zp 150 #[.pointer (some ⟨W,0,none⟩),Z Y m,Z Y 2] w' fun e w2=>e=.returned (.string s0)∧Zb w'.heap.size w' w2)
 (hd0:Strm d0) (hs0:s0.size≤4000) (hm:m < n) (hn:n≤12)
 (c0:w.cell? ⟨W,0,none⟩=some (Z Y N)) (c1:w.cell? ⟨W,1,none⟩=some (Z Y Pi)) (c2:w.cell? ⟨W,2,none⟩=some (Z Y Er)) (c3:w.cell? ⟨W,3,none⟩=some (Z Y G)) (c4:w.cell? ⟨W,4,none⟩=some (Z Y Fi)) (c5:w.cell? ⟨W,5,none⟩=some (.slice PA PL PC))
 (c13:w.cell? ⟨W,13,none⟩=some (Z Y slot))
 (c15:w.cell? ⟨W,15,none⟩=some (.slice (some ⟨TB,0,none⟩) n n)) (c16:w.cell? ⟨W,16,none⟩=some (.slice (some ⟨UB,0,none⟩) n n)) (c17:w.cell? ⟨W,17,none⟩=some (.slice (some ⟨SB,0,none⟩) n n)) (c18:w.cell? ⟨W,18,none⟩=some (.slice (some ⟨DB,0,none⟩) n n))
 (k0:∃ v,w.cell? ⟨SB,m*4,none⟩=some v) (k1:∃ v,w.cell? ⟨SB,m*4+1,none⟩=some v) (k2:∃ v,w.cell? ⟨SB,m*4+2,none⟩=some v) (k3:∃ v,w.cell? ⟨SB,m*4+3,none⟩=some v) (k4:∃ v,w.cell? ⟨DB,m,none⟩=some v)
 (fS:∀ o,w.frozen? ⟨SB,o,none⟩=false) (fD:∀ o,w.frozen? ⟨DB,o,none⟩=false) (hSD:SB≠DB) (hWS:W≠SB) (hWD:W≠DB) (hWl:W < w.heap.size) (hSl:SB < w.heap.size) (hDl:DB < w.heap.size)
 (hT:w.cell? ⟨TB,m,none⟩=some (Z Y st)) (hTl:TB < w.heap.size) (hU:w.cell? ⟨UB,m,none⟩=some (Z Y dv)) (hUl:UB < w.heap.size) (hPi:0≤Pi) (hPi2:Pi≤10000)
 (hfar:far=1) (hst:st≠0) (hslot:N≤slot) :
 Zc Zp 106 #[.pointer (some ⟨W,0,none⟩),Z Y m,Z Y far] w fun e w'=>e=.returned (.tuple #[])∧Laid w w' SB DB m (strF Pi st dv d0) s0 (outF true (strF Pi st dv d0) s0) far:=by
 have hm0:(0:Int)≤(m:Int):=by omega
 have hm1:(m:Int) < (n:Int):=by omega
 subst hfar
 have b3:(st != 0)=true:=bne_iff_ne.mpr hst
 have b4:decide (slot≥N)=true:=by simp;omega
 obtain⟨v0,k0⟩:=k0
 obtain⟨v1,k1⟩:=k1
 obtain⟨v2,k2⟩:=k2
 obtain⟨v3,k3⟩:=k3
 obtain⟨v4,k4⟩:=k4
 obtain⟨dd,hdd⟩:∃ dd,dd=strF Pi st dv d0:=⟨_,rfl⟩
 rw [← hdd]
 have HDD:=O hdd
 have HDS:Hid (Strm dd):=by rw [hdd];exact str_strm hd0
 clear hdd
 have HC1:=O hc1
 have HC2:=O hc2
 clear hc1 hc2 hst hd0
 go_enter Tryz.func106,Tryz.ntmps106
 go_wp2_with fail
 refine(HC1.out _ (by repeat(first | exact Zf _ _ | refine Below.drew ?_ | refine below_drewN ?_ _ | refine Below.alloc ?_ (by simp) _))).mono ?_
 rintro e w1 ⟨rfl,hb1⟩
 have hz1:=hb1.size
 go_wp2_with fail
 refine(HC2.out _ ((show Zb w.heap.size w _ by repeat(first | exact Zf _ _ | refine Below.drew ?_ | refine below_drewN ?_ _ | refine Below.alloc ?_ (by simp) _)).trans hb1)).mono ?_
 rintro e w2 ⟨rfl,hb2⟩
 have hz2:=hb2.size
 have hq:=hb1.trans (hb2.mono hz1)
 have hfin:=hq
 have lW:=hWl
 have lS:=hSl
 have lD:=hDl
 have lT:=hTl
 have lU:=hUl
 have q:∀ {b o v},b < w.heap.size→w.cell? ⟨b,o,none⟩=some v→(w2).cell? ⟨b,o,none⟩=some v:=fun {b o v} h hv=>(hq.cell (p:=⟨b,o,none⟩) h).trans hv
 have qf:∀ {b o},b < w.heap.size→w.frozen? ⟨b,o,none⟩=false→(w2).frozen? ⟨b,o,none⟩=false:=fun {b o} h hv=>(hq.frozen (p:=⟨b,o,none⟩) h).trans hv
 replace c0:=q lW c0
 replace c1:=q lW c1
 replace c2:=q lW c2
 replace c3:=q lW c3
 replace c4:=q lW c4
 replace c5:=q lW c5
 replace c13:=q lW c13
 replace c15:=q lW c15
 replace c16:=q lW c16
 replace c17:=q lW c17
 replace c18:=q lW c18
 replace k0:=q lS k0
 replace k1:=q lS k1
 replace k2:=q lS k2
 replace k3:=q lS k3
 replace k4:=q lD k4
 replace hT:=q lT hT
 replace fS:=fun o=>qf lS (fS o)
 replace fD:=fun o=>qf lD (fD o)
 replace hU:=q lU hU
 clear q qf
 replace lW:W < w2.heap.size:=by omega
 replace lS:SB < w2.heap.size:=by omega
 replace lD:DB < w2.heap.size:=by omega
 replace lT:TB < w2.heap.size:=by omega
 replace lU:UB < w2.heap.size:=by omega
 have nW:=World.new_ne w2 _ c0
 have nT:=World.new_ne w2 _ hT
 have nU:=World.new_ne w2 _ hU
 have nS:=World.new_ne w2 _ k0
 have nD:=World.new_ne w2 _ k4
 clear hb1 hb2 hq
 go_wp2_with fail
 refine wp_region_held_drew (S:=fun w'=>w'.cell? ⟨W,0,none⟩=some (Z Y N)∧w'.cell? ⟨W,1,none⟩=some (Z Y Pi)∧w'.cell? ⟨W,2,none⟩=some (Z Y Er)∧w'.cell? ⟨W,3,none⟩=some (Z Y G)∧w'.cell? ⟨W,4,none⟩=some (Z Y Fi)∧w'.cell? ⟨W,5,none⟩=some (.slice PA PL PC)∧w'.cell? ⟨W,15,none⟩=some (.slice (some ⟨TB,0,none⟩) n n)∧w'.cell? ⟨W,16,none⟩=some (.slice (some ⟨UB,0,none⟩) n n)∧w'.cell? ⟨TB,m,none⟩=some (Z Y st)∧w'.cell? ⟨UB,m,none⟩=some (Z Y dv)) (by kernel_rfl) (by go_keep) (fun hHeld=>?_)
 refine rgT 0 ?_
 refine rgT 1 ?_
 refine rgT 2 ?_
 refine rgT 3 ?_
 refine rgT 4 ?_
 refine rgT 5 ?_
 refine rgT 6 ?_
 refine rgT 7 ?_
 refine rgT 8 ?_
 refine rgT 9 ?_
 refine rgT 10 ?_
 refine rgT 11 ?_
 refine rgT 12 ?_
 refine rgT 13 ?_
 refine rgT 14 ?_
 refine rgT 15 ?_
 refine rgT 16 ?_
 refine rgT 17 ?_
 refine rgT 18 ?_
 refine rgR 19 fun K hK=>?_
 go_simp
 refine hK.out _ _ (by assumption) (fun hHeld=>?_)
 clear hK K
 refine rgR 20 fun K hK=>?_
 go_simp
 refine(guard_Stream N Pi Er G Fi PA PL PC st dv d0 _ hPi hPi2).mono ?_
 rw [show(if(st:Int)≠4 ∨ -(2*Pi)≤dv∧dv≤2*Pi then d0 else(⟨#[]⟩:ByteArray))=dd from HDD.out.symm]
 rintro e w3 ⟨rfl,hb3⟩
 have hq:Zb w2.heap.size w2 w3:=((Zf w2.heap.size w2).alloc (Zr _) (.cells #[.string d0,.string s0,.string ⟨#[]⟩,Z Y 1] 129)).trans (Below.mono (show Zb (w2.heap.size+1) _ w3 from⟨hb3.os,hb3.tape,hb3.output,by have:=hb3.size;simpa using this,fun k hk=>hb3.block k (by simpa using hk)⟩) (by omega))
 have hsb:w3.heap[w2.heap.size]?=some (.cells #[.string d0,.string s0,.string ⟨#[]⟩,Z Y 1] 129 (0,0)):=(hb3.block _ (by simp)).trans (Zh w2 _)
 go_simp
 have hx:∀ {b o v},b < w2.heap.size→w2.cell? ⟨b,o,none⟩=some v→w3.cell? ⟨b,o,none⟩=some v:=fun {b o v} h hv=>(hq.cell (p:=⟨b,o,none⟩) h).trans hv
 refine hK.out _ _ ⟨hx lW c0,hx lW c1,hx lW c2,hx lW c3,hx lW c4,hx lW c5,hx lW c15,hx lW c16,hx lT hT,hx lU hU⟩ (fun hHeld=>?_)
 clear hK K hx
 have x2:w3.cell? ⟨w2.heap.size,0,none⟩=some (.string d0):=by simp [World.cell?,hsb]
 have y2:w3.frozen? ⟨w2.heap.size,0,none⟩=false:=by simp [World.frozen?,hsb]
 refine rgT 21 ?_
 refine rgR 22 fun K hK=>?_
 go_simp
 replace hq:Zb w2.heap.size w2 (w3.setCell ⟨w2.heap.size,0,none⟩ (.string dd)):=hq.setCell (by simp) _
 have hx:∀ {b o v},b < w2.heap.size→w2.cell? ⟨b,o,none⟩=some v→(w3.setCell ⟨w2.heap.size,0,none⟩ (.string dd)).cell? ⟨b,o,none⟩=some v:=fun {b o v} h hv=>(hq.cell (p:=⟨b,o,none⟩) h).trans hv
 refine hK.out _ _ ⟨hx lW c0,hx lW c1,hx lW c2,hx lW c3,hx lW c4,hx lW c5,hx lW c15,hx lW c16,hx lT hT,hx lU hU⟩ (fun hHeld=>?_)
 clear hK K hx x2 y2
 refine wpAnyH_done (by kernel_rfl) ?_ _
 replace hsb:(w3.setCell ⟨w2.heap.size,0,none⟩ (.string dd)).heap[w2.heap.size]?=some (.cells #[.string dd,.string s0,.string ⟨#[]⟩,Z Y 1] 129 (0,0)):=by
  simp [World.setCell,Array.getElem?_modify,hsb]
 clear hHeld hb3
 generalize w3.setCell ⟨w2.heap.size,0,none⟩ (.string dd)=wA at *
 have q:∀ {b o v},b < w2.heap.size→w2.cell? ⟨b,o,none⟩=some v→(wA).cell? ⟨b,o,none⟩=some v:=fun {b o v} h hv=>(hq.cell (p:=⟨b,o,none⟩) h).trans hv
 have qf:∀ {b o},b < w2.heap.size→w2.frozen? ⟨b,o,none⟩=false→(wA).frozen? ⟨b,o,none⟩=false:=fun {b o} h hv=>(hq.frozen (p:=⟨b,o,none⟩) h).trans hv
 replace c0:=q lW c0
 replace c1:=q lW c1
 replace c2:=q lW c2
 replace c3:=q lW c3
 replace c4:=q lW c4
 replace c5:=q lW c5
 replace c13:=q lW c13
 replace c15:=q lW c15
 replace c16:=q lW c16
 replace c17:=q lW c17
 replace c18:=q lW c18
 replace k0:=q lS k0
 replace k1:=q lS k1
 replace k2:=q lS k2
 replace k3:=q lS k3
 replace k4:=q lD k4
 replace hT:=q lT hT
 replace fS:=fun o=>qf lS (fS o)
 replace fD:=fun o=>qf lD (fD o)
 clear q qf
 have z0:(wA).cell? ⟨w2.heap.size,0,none⟩=some (.string dd):=by simp [World.cell?,hsb]
 have z1:(wA).cell? ⟨w2.heap.size,1,none⟩=some (.string s0):=by simp [World.cell?,hsb]
 have z2:(wA).cell? ⟨w2.heap.size,2,none⟩=some (.string ⟨#[]⟩):=by simp [World.cell?,hsb]
 have z3:(wA).cell? ⟨w2.heap.size,3,none⟩=some (Z Y 1):=by simp [World.cell?,hsb]
 have zf:(wA).frozen? ⟨w2.heap.size,2,none⟩=false:=by simp [World.frozen?,hsb]
 have lX:w2.heap.size < wA.heap.size:=heap_lt hsb
 replace hfin:=hfin.trans (hq.mono (by omega))
 replace lW:W < wA.heap.size:=by omega
 replace lS:SB < wA.heap.size:=by omega
 replace lD:DB < wA.heap.size:=by omega
 replace lT:TB < wA.heap.size:=by omega
 replace lU:UB < wA.heap.size:=by omega
 have xS:SB≠w2.heap.size:=by omega
 have xD:DB≠w2.heap.size:=by omega
 have xW:W≠w2.heap.size:=by omega
 have hge:w.heap.size≤w2.heap.size:=by omega
 have HSB:=O hsb
 clear nW nT nU nS nD hsb hU hq hz1 hz2
 generalize w2.heap.size=Sb at *
 go_wp2_with fail
 refine wp_region_held_drew (S:=fun w'=>w'.cell? ⟨Sb,0,none⟩=some (.string dd)∧w'.cell? ⟨Sb,1,none⟩=some (.string s0)∧w'.cell? ⟨W,13,none⟩=some (Z Y slot)∧w'.cell? ⟨W,0,none⟩=some (Z Y N)) (by kernel_rfl) (by go_keep) (fun hHeld=>?_)
 refine rgT 0 ?_
 refine rgT 1 ?_
 refine rgT 2 ?_
 refine rgT 3 ?_
 refine rgT 4 ?_
 refine rgT 5 ?_
 refine rgT 6 ?_
 refine rgT 7 ?_
 refine rgT 8 ?_
 refine rgT 9 ?_
 refine rgT 10 ?_
 refine rgT 11 ?_
 refine rgT 12 ?_
 refine rgT 13 ?_
 refine rgT 14 ?_
 refine rgT 15 ?_
 refine rgT 16 ?_
 refine rgT 17 ?_
 refine rgR 18 fun K hK=>?_
 go_simp
 refine(lane_Out' _ _ _ _ HDS.out hs0).mono ?_
 rintro e w6 ⟨rfl,hb6⟩
 have hq:Zb wA.heap.size wA w6:=⟨hb6.os,hb6.tape,hb6.output,by have:=hb6.size;simpa using this,fun k hk=>hb6.block k (by simpa using hk)⟩
 have hsb:=(hq.block _ lX).trans HSB.out
 go_simp
 have hx:∀ {b o v},b < wA.heap.size→wA.cell? ⟨b,o,none⟩=some v→w6.cell? ⟨b,o,none⟩=some v:=fun {b o v} h hv=>(hq.cell (p:=⟨b,o,none⟩) h).trans hv
 refine hK.out _ _ ⟨hx lX z0,hx lX z1,hx lW c13,hx lW c0⟩ (fun hHeld=>?_)
 clear hK K
 have x2:w6.cell? ⟨Sb,2,none⟩=some (.string ⟨#[]⟩):=hx lX z2
 have y2:w6.frozen? ⟨Sb,2,none⟩=false:=(hq.frozen (p:=⟨Sb,2,none⟩) lX).trans zf
 refine rgT 19 ?_
 refine rgR 20 fun K hK=>?_
 go_simp
 refine hK.out _ _ ?_ (fun hHeld=>?_)
 ·have n0:(⟨Sb,2,none⟩:Addr)≠⟨Sb,0,none⟩:=by simp
  have n1:(⟨Sb,2,none⟩:Addr)≠⟨Sb,1,none⟩:=by simp
  have n2:(⟨Sb,2,none⟩:Addr)≠⟨W,13,none⟩:=by simp
  have n3:(⟨Sb,2,none⟩:Addr)≠⟨W,0,none⟩:=by simp
  refine⟨(Zo _ _ _ _ n0).trans (hx lX z0),(Zo _ _ _ _ n1).trans (hx lX z1),(Zo _ _ _ _ n2).trans (hx lW c13),(Zo _ _ _ _ n3).trans (hx lW c0)⟩
 clear hK K
 refine wpAnyH_done (by kernel_rfl) ?_ _
 have lX6:SB < w6.heap.size∧DB < w6.heap.size∧W < w6.heap.size∧TB < w6.heap.size:=by have:=hq.size;omega
 have hr:Zb w.heap.size w (w6.setCell ⟨Sb,2,none⟩ (.string (outF true dd s0))):=(hfin.trans (hq.mono (by omega))).setCell (p:=⟨Sb,2,none⟩) hge _
 have y:∀ {b o v},b < wA.heap.size→b≠Sb→wA.cell? ⟨b,o,none⟩=some v→(w6.setCell ⟨Sb,2,none⟩ (.string (outF true dd s0))).cell? ⟨b,o,none⟩=some v:=fun {b o v} h hb hv=>(Zo _ _ _ _ (fun e=>hb (by injection e with e1;exact e1.symm))).trans (hx h hv)
 have yf:∀ {b o},b < wA.heap.size→wA.frozen? ⟨b,o,none⟩=false→(w6.setCell ⟨Sb,2,none⟩ (.string (outF true dd s0))).frozen? ⟨b,o,none⟩=false:=fun {b o} h hv=>(World.frozen?_setCell _ _ _ _).trans ((hq.frozen (p:=⟨b,o,none⟩) h).trans hv)
 replace c17:=y lW xW c17
 replace c18:=y lW xW c18
 replace k0:=y lS xS k0
 replace k1:=y lS xS k1
 replace k2:=y lS xS k2
 replace k3:=y lS xS k3
 replace k4:=y lD xD k4
 replace fS:=fun o=>yf lS (fS o)
 replace fD:=fun o=>yf lD (fD o)
 replace hsb:(w6.setCell ⟨Sb,2,none⟩ (.string (outF true dd s0))).heap[Sb]?=some (.cells #[.string dd,.string s0,.string (outF true dd s0),Z Y 1] 129 (0,0)):=by simp [World.setCell,Array.getElem?_modify,hsb]
 clear x2 y2 z0 z1 z2 z3 zf hHeld hx y yf hq hb6 hfin
 generalize w6.setCell ⟨Sb,2,none⟩ (.string (outF true dd s0))=w7 at *
 have z0:(w7).cell? ⟨Sb,0,none⟩=some (.string dd):=by simp [World.cell?,hsb]
 have z1:(w7).cell? ⟨Sb,1,none⟩=some (.string s0):=by simp [World.cell?,hsb]
 have z2:(w7).cell? ⟨Sb,2,none⟩=some (.string (outF true dd s0)):=by simp [World.cell?,hsb]
 have z3:(w7).cell? ⟨Sb,3,none⟩=some (Z Y 1):=by simp [World.cell?,hsb]
 have zf:(w7).frozen? ⟨Sb,2,none⟩=false:=by simp [World.frozen?,hsb]
 have hfin:=hr
 clear hsb hr
 clear c0 c1 c2 c3 c4 c5 c13 c15 c16 hT zf
 go_wp2
 have hDS:DB≠SB:=fun e=>hSD e.symm
 have hSW:SB≠W:=fun e=>hWS e.symm
 have hDW:DB≠W:=fun e=>hWD e.symm
 go_region_held3 (fun w'=>w'.cell? ⟨W,17,none⟩=some (.slice (some ⟨SB,0,none⟩) n n)∧w'.cell? ⟨W,18,none⟩=some (.slice (some ⟨DB,0,none⟩) n n)∧w'.cell? ⟨Sb,0,none⟩=some (.string dd)∧w'.cell? ⟨Sb,1,none⟩=some (.string s0)∧w'.cell? ⟨Sb,2,none⟩=some (.string (outF true dd s0))∧w'.cell? ⟨Sb,3,none⟩=some (Z Y 1)) (go_keep) (fail)
 go_wp2
 go_end0
 exact⟨rfl,(laid_of hfin hSl hDl hSD k0 k1 k2 k3 k4).drew⟩
theorem reach_near0 (N Pi Er G Fi:Int) (PA:Option Addr) (PL PC:Nat) (slot:Int) (TB UB SB DB n W m:Nat) (d0 s0:ByteArray) (far st dv:Int) (w:Zw)
 (hc1:∀ w',Zb w.heap.size w w'→Zc Zp 150 #[.pointer (some ⟨W,0,none⟩),Z Y m,Z Y 1] w' fun e w2=>e=.returned (.string d0)∧Zb w'.heap.size w' w2)
 (hc2:∀ w',Zb w.heap.size w w'→Zc Zp 150 #[.pointer (some ⟨W,0,none⟩),Z Y m,Z Y 2] w' fun e w2=>e=.returned (.string s0)∧Zb w'.heap.size w' w2)
 (hd0:Strm d0) (hs0:s0.size≤4000) (hm:m < n) (hn:n≤12)
 (c0:w.cell? ⟨W,0,none⟩=some (Z Y N)) (c1:w.cell? ⟨W,1,none⟩=some (Z Y Pi)) (c2:w.cell? ⟨W,2,none⟩=some (Z Y Er)) (c3:w.cell? ⟨W,3,none⟩=some (Z Y G)) (c4:w.cell? ⟨W,4,none⟩=some (Z Y Fi)) (c5:w.cell? ⟨W,5,none⟩=some (.slice PA PL PC))
 (c13:w.cell? ⟨W,13,none⟩=some (Z Y slot))
 (c15:w.cell? ⟨W,15,none⟩=some (.slice (some ⟨TB,0,none⟩) n n)) (c16:w.cell? ⟨W,16,none⟩=some (.slice (some ⟨UB,0,none⟩) n n)) (c17:w.cell? ⟨W,17,none⟩=some (.slice (some ⟨SB,0,none⟩) n n)) (c18:w.cell? ⟨W,18,none⟩=some (.slice (some ⟨DB,0,none⟩) n n))
 (k0:∃ v,w.cell? ⟨SB,m*4,none⟩=some v) (k1:∃ v,w.cell? ⟨SB,m*4+1,none⟩=some v) (k2:∃ v,w.cell? ⟨SB,m*4+2,none⟩=some v) (k3:∃ v,w.cell? ⟨SB,m*4+3,none⟩=some v) (k4:∃ v,w.cell? ⟨DB,m,none⟩=some v)
 (fS:∀ o,w.frozen? ⟨SB,o,none⟩=false) (fD:∀ o,w.frozen? ⟨DB,o,none⟩=false) (hSD:SB≠DB) (hWS:W≠SB) (hWD:W≠DB) (hWl:W < w.heap.size) (hSl:SB < w.heap.size) (hDl:DB < w.heap.size)
 (hT:w.cell? ⟨TB,m,none⟩=some (Z Y st)) (hTl:TB < w.heap.size) (hU:w.cell? ⟨UB,m,none⟩=some (Z Y dv)) (hUl:UB < w.heap.size) (hPi:0≤Pi) (hPi2:Pi≤10000)
 (hfar:far=1) (hst:st=0) :
 Zc Zp 106 #[.pointer (some ⟨W,0,none⟩),Z Y m,Z Y far] w fun e w'=>e=.returned (.tuple #[])∧Laid w w' SB DB m (strF Pi st dv d0) s0 ⟨#[]⟩ far:=by
 have hm0:(0:Int)≤(m:Int):=by omega
 have hm1:(m:Int) < (n:Int):=by omega
 subst hfar
 subst hst
 obtain⟨v0,k0⟩:=k0
 obtain⟨v1,k1⟩:=k1
 obtain⟨v2,k2⟩:=k2
 obtain⟨v3,k3⟩:=k3
 obtain⟨v4,k4⟩:=k4
 obtain⟨dd,hdd⟩:∃ dd,dd=strF Pi 0 dv d0:=⟨_,rfl⟩
 rw [← hdd]
 have HDD:=O hdd
 have HDS:Hid (Strm dd):=by rw [hdd];exact str_strm hd0
 clear hdd
 have HC1:=O hc1
 have HC2:=O hc2
 clear hc1 hc2 hd0
 go_enter Tryz.func106,Tryz.ntmps106
 go_wp2_with fail
 refine(HC1.out _ (by repeat(first | exact Zf _ _ | refine Below.drew ?_ | refine below_drewN ?_ _ | refine Below.alloc ?_ (by simp) _))).mono ?_
 rintro e w1 ⟨rfl,hb1⟩
 have hz1:=hb1.size
 go_wp2_with fail
 refine(HC2.out _ ((show Zb w.heap.size w _ by repeat(first | exact Zf _ _ | refine Below.drew ?_ | refine below_drewN ?_ _ | refine Below.alloc ?_ (by simp) _)).trans hb1)).mono ?_
 rintro e w2 ⟨rfl,hb2⟩
 have hz2:=hb2.size
 have hq:=hb1.trans (hb2.mono hz1)
 have hfin:=hq
 have lW:=hWl
 have lS:=hSl
 have lD:=hDl
 have lT:=hTl
 have lU:=hUl
 have q:∀ {b o v},b < w.heap.size→w.cell? ⟨b,o,none⟩=some v→(w2).cell? ⟨b,o,none⟩=some v:=fun {b o v} h hv=>(hq.cell (p:=⟨b,o,none⟩) h).trans hv
 have qf:∀ {b o},b < w.heap.size→w.frozen? ⟨b,o,none⟩=false→(w2).frozen? ⟨b,o,none⟩=false:=fun {b o} h hv=>(hq.frozen (p:=⟨b,o,none⟩) h).trans hv
 replace c0:=q lW c0
 replace c1:=q lW c1
 replace c2:=q lW c2
 replace c3:=q lW c3
 replace c4:=q lW c4
 replace c5:=q lW c5
 replace c13:=q lW c13
 replace c15:=q lW c15
 replace c16:=q lW c16
 replace c17:=q lW c17
 replace c18:=q lW c18
 replace k0:=q lS k0
 replace k1:=q lS k1
 replace k2:=q lS k2
 replace k3:=q lS k3
 replace k4:=q lD k4
 replace hT:=q lT hT
 replace fS:=fun o=>qf lS (fS o)
 replace fD:=fun o=>qf lD (fD o)
 replace hU:=q lU hU
 clear q qf
 replace lW:W < w2.heap.size:=by omega
 replace lS:SB < w2.heap.size:=by omega
 replace lD:DB < w2.heap.size:=by omega
 replace lT:TB < w2.heap.size:=by omega
 replace lU:UB < w2.heap.size:=by omega
 have nW:=World.new_ne w2 _ c0
 have nT:=World.new_ne w2 _ hT
 have nU:=World.new_ne w2 _ hU
 have nS:=World.new_ne w2 _ k0
 have nD:=World.new_ne w2 _ k4
 clear hb1 hb2 hq
 go_wp2_with fail
 refine wp_region_held_drew (S:=fun w'=>w'.cell? ⟨W,0,none⟩=some (Z Y N)∧w'.cell? ⟨W,1,none⟩=some (Z Y Pi)∧w'.cell? ⟨W,2,none⟩=some (Z Y Er)∧w'.cell? ⟨W,3,none⟩=some (Z Y G)∧w'.cell? ⟨W,4,none⟩=some (Z Y Fi)∧w'.cell? ⟨W,5,none⟩=some (.slice PA PL PC)∧w'.cell? ⟨W,15,none⟩=some (.slice (some ⟨TB,0,none⟩) n n)∧w'.cell? ⟨W,16,none⟩=some (.slice (some ⟨UB,0,none⟩) n n)∧w'.cell? ⟨TB,m,none⟩=some (Z Y 0)∧w'.cell? ⟨UB,m,none⟩=some (Z Y dv)) (by kernel_rfl) (by go_keep) (fun hHeld=>?_)
 refine rgT 0 ?_
 refine rgT 1 ?_
 refine rgT 2 ?_
 refine rgT 3 ?_
 refine rgT 4 ?_
 refine rgT 5 ?_
 refine rgT 6 ?_
 refine rgT 7 ?_
 refine rgT 8 ?_
 refine rgT 9 ?_
 refine rgT 10 ?_
 refine rgT 11 ?_
 refine rgT 12 ?_
 refine rgT 13 ?_
 refine rgT 14 ?_
 refine rgT 15 ?_
 refine rgT 16 ?_
 refine rgT 17 ?_
 refine rgT 18 ?_
 refine rgR 19 fun K hK=>?_
 go_simp
 refine hK.out _ _ (by assumption) (fun hHeld=>?_)
 clear hK K
 refine rgR 20 fun K hK=>?_
 go_simp
 refine(guard_Stream N Pi Er G Fi PA PL PC 0 dv d0 _ hPi hPi2).mono ?_
 rw [show(if(0:Int)≠4 ∨ -(2*Pi)≤dv∧dv≤2*Pi then d0 else(⟨#[]⟩:ByteArray))=dd from HDD.out.symm]
 rintro e w3 ⟨rfl,hb3⟩
 have hq:Zb w2.heap.size w2 w3:=((Zf w2.heap.size w2).alloc (Zr _) (.cells #[.string d0,.string s0,.string ⟨#[]⟩,Z Y 1] 129)).trans (Below.mono (show Zb (w2.heap.size+1) _ w3 from⟨hb3.os,hb3.tape,hb3.output,by have:=hb3.size;simpa using this,fun k hk=>hb3.block k (by simpa using hk)⟩) (by omega))
 have hsb:w3.heap[w2.heap.size]?=some (.cells #[.string d0,.string s0,.string ⟨#[]⟩,Z Y 1] 129 (0,0)):=(hb3.block _ (by simp)).trans (Zh w2 _)
 go_simp
 have hx:∀ {b o v},b < w2.heap.size→w2.cell? ⟨b,o,none⟩=some v→w3.cell? ⟨b,o,none⟩=some v:=fun {b o v} h hv=>(hq.cell (p:=⟨b,o,none⟩) h).trans hv
 refine hK.out _ _ ⟨hx lW c0,hx lW c1,hx lW c2,hx lW c3,hx lW c4,hx lW c5,hx lW c15,hx lW c16,hx lT hT,hx lU hU⟩ (fun hHeld=>?_)
 clear hK K hx
 have x2:w3.cell? ⟨w2.heap.size,0,none⟩=some (.string d0):=by simp [World.cell?,hsb]
 have y2:w3.frozen? ⟨w2.heap.size,0,none⟩=false:=by simp [World.frozen?,hsb]
 refine rgT 21 ?_
 refine rgR 22 fun K hK=>?_
 go_simp
 replace hq:Zb w2.heap.size w2 (w3.setCell ⟨w2.heap.size,0,none⟩ (.string dd)):=hq.setCell (by simp) _
 have hx:∀ {b o v},b < w2.heap.size→w2.cell? ⟨b,o,none⟩=some v→(w3.setCell ⟨w2.heap.size,0,none⟩ (.string dd)).cell? ⟨b,o,none⟩=some v:=fun {b o v} h hv=>(hq.cell (p:=⟨b,o,none⟩) h).trans hv
 refine hK.out _ _ ⟨hx lW c0,hx lW c1,hx lW c2,hx lW c3,hx lW c4,hx lW c5,hx lW c15,hx lW c16,hx lT hT,hx lU hU⟩ (fun hHeld=>?_)
 clear hK K hx x2 y2
 refine wpAnyH_done (by kernel_rfl) ?_ _
 replace hsb:(w3.setCell ⟨w2.heap.size,0,none⟩ (.string dd)).heap[w2.heap.size]?=some (.cells #[.string dd,.string s0,.string ⟨#[]⟩,Z Y 1] 129 (0,0)):=by
  simp [World.setCell,Array.getElem?_modify,hsb]
 clear hHeld hb3
 generalize w3.setCell ⟨w2.heap.size,0,none⟩ (.string dd)=wA at *
 have q:∀ {b o v},b < w2.heap.size→w2.cell? ⟨b,o,none⟩=some v→(wA).cell? ⟨b,o,none⟩=some v:=fun {b o v} h hv=>(hq.cell (p:=⟨b,o,none⟩) h).trans hv
 have qf:∀ {b o},b < w2.heap.size→w2.frozen? ⟨b,o,none⟩=false→(wA).frozen? ⟨b,o,none⟩=false:=fun {b o} h hv=>(hq.frozen (p:=⟨b,o,none⟩) h).trans hv
 replace c0:=q lW c0
 replace c1:=q lW c1
 replace c2:=q lW c2
 replace c3:=q lW c3
 replace c4:=q lW c4
 replace c5:=q lW c5
 replace c13:=q lW c13
 replace c15:=q lW c15
 replace c16:=q lW c16
 replace c17:=q lW c17
 replace c18:=q lW c18
 replace k0:=q lS k0
 replace k1:=q lS k1
 replace k2:=q lS k2
 replace k3:=q lS k3
 replace k4:=q lD k4
 replace hT:=q lT hT
 replace fS:=fun o=>qf lS (fS o)
 replace fD:=fun o=>qf lD (fD o)
 clear q qf
 have z0:(wA).cell? ⟨w2.heap.size,0,none⟩=some (.string dd):=by simp [World.cell?,hsb]
 have z1:(wA).cell? ⟨w2.heap.size,1,none⟩=some (.string s0):=by simp [World.cell?,hsb]
 have z2:(wA).cell? ⟨w2.heap.size,2,none⟩=some (.string ⟨#[]⟩):=by simp [World.cell?,hsb]
 have z3:(wA).cell? ⟨w2.heap.size,3,none⟩=some (Z Y 1):=by simp [World.cell?,hsb]
 have zf:(wA).frozen? ⟨w2.heap.size,2,none⟩=false:=by simp [World.frozen?,hsb]
 have lX:w2.heap.size < wA.heap.size:=heap_lt hsb
 replace hfin:=hfin.trans (hq.mono (by omega))
 replace lW:W < wA.heap.size:=by omega
 replace lS:SB < wA.heap.size:=by omega
 replace lD:DB < wA.heap.size:=by omega
 replace lT:TB < wA.heap.size:=by omega
 replace lU:UB < wA.heap.size:=by omega
 have xS:SB≠w2.heap.size:=by omega
 have xD:DB≠w2.heap.size:=by omega
 have xW:W≠w2.heap.size:=by omega
 have hge:w.heap.size≤w2.heap.size:=by omega
 have HSB:=O hsb
 clear nW nT nU nS nD hsb hU hq hz1 hz2
 generalize w2.heap.size=Sb at *
 go_wp2_with fail
 clear c0 c1 c2 c3 c4 c5 c13 c15 c16 hT zf
 have hDS:DB≠SB:=fun e=>hSD e.symm
 have hSW:SB≠W:=fun e=>hWS e.symm
 have hDW:DB≠W:=fun e=>hWD e.symm
 go_region_held3 (fun w'=>w'.cell? ⟨W,17,none⟩=some (.slice (some ⟨SB,0,none⟩) n n)∧w'.cell? ⟨W,18,none⟩=some (.slice (some ⟨DB,0,none⟩) n n)∧w'.cell? ⟨Sb,0,none⟩=some (.string dd)∧w'.cell? ⟨Sb,1,none⟩=some (.string s0)∧w'.cell? ⟨Sb,2,none⟩=some (.string ⟨#[]⟩)∧w'.cell? ⟨Sb,3,none⟩=some (Z Y 1)) (go_keep) (fail)
 go_wp2
 go_end0
 exact⟨rfl,(laid_of hfin hSl hDl hSD k0 k1 k2 k3 k4).drew⟩
end A16
namespace A17
open Go.RowKit A4 A6 A10 A13 A14 A15 A16
def wayF (N dir:Int) (ow:List Int):List Int:=wayTo N (lastOf ow dir) dir ow (N-1).toNat
theorem ring_Way (N dir:Int) (A:Option Addr) (ow:List Int) (C:Nat) (w:Zw) (hn:6≤N) (hn2:N≤7) (hI:Ints w A ow) (ho:(∃ x,ow=[x]∧0≤x∧x < N)∨∃ x y,ow=[x,y]∧0≤x∧x < N∧0≤y∧y < N) (hdir:dir=1∨dir = -1) :
 Zc Zp 105 #[Z Y N,.slice A ow.length C,Z Y dir] w fun e w'=>∃ v,e=.returned v∧w'.ownsRow w.heap.size 3 1 v (wayF N dir ow).length ((wayF N dir ow).map (Z Y))∧Zb w.heap.size w w':=by
 rcases ho with⟨x,rfl,h0,h1⟩ | ⟨x,y,rfl,h0,h1,h2,h3⟩
 ·rcases hI.cases with h | ⟨b,off,rfl,hb,hc⟩
  ·cases h
  ·have c0:=hc 0 (by simp)
   rcases hdir with rfl | rfl
   ·exact ring_Way1u N x b off C w hn hn2 hb c0 h0 h1
   ·exact ring_Way1d N x b off C w hn hn2 hb c0 h0 h1
 ·rcases hI.cases with h | ⟨b,off,rfl,hb,hc⟩
  ·cases h
  ·have c0:=hc 0 (by simp)
   have c1:=hc 1 (by simp)
   rcases hdir with rfl | rfl
   ·exact ring_Way2u N x y b off C w hn hn2 hb c0 c1 h2 h3
   ·exact ring_Way2d N x y b off C w hn hn2 hb c0 c1 h0 h1
theorem wayF_mem {N dir:Int} {ow:List Int} {x:Int} (hn:0 < N) (h:x ∈ wayF N dir ow):0≤x∧x < N:=by
 unfold wayF wayTo at h
 rw [List.mem_filter]at h
 obtain⟨h1,_⟩:=h
 rw [List.mem_map]at h1
 obtain⟨j,_,rfl⟩:=h1
 exact⟨Int.emod_nonneg _ (by omega),Int.emod_lt_of_pos _ hn⟩
theorem wayF_len (N dir:Int) (ow:List Int):(wayF N dir ow).length≤(N-1).toNat:=wayTo_le _ _ _ _ _
structure Wv where
 f:Nat→Sd
 g:Nat→Bool
def Wv.zero:Wv:=⟨fun _=>⟨⟨#[]⟩,⟨#[]⟩,⟨#[]⟩,0⟩,fun _=>false⟩
def Wv.own (v:Wv) (i:Nat) (s:ByteArray):Wv:=⟨fun j=>if j=i then⟨(v.f i).d,(v.f i).s,s,(v.f i).far⟩else v.f j,fun j=>if j=i then true else v.g j⟩
noncomputable def Wv.reach (E:Int→Int→ByteArray→ByteArray) (N Pi slot dir:Int) (st dv:Nat→Int) (v:Wv) (i:Nat) (far:Int):Wv :=
 ⟨fun j=>if j=i then sdF E N Pi slot dir v.f v.g (st i) (dv i) i far else v.f j,fun j=>if j=i then true else v.g j⟩
def ownK (ow:List Int) (sends:List ByteArray):Nat→Wv
 | 0=>Wv.zero
 | k+1=>(ownK ow sends k).own (ow.getD k 0).toNat (sends.getD k ⟨#[]⟩)
noncomputable def wayK (E:Int→Int→ByteArray→ByteArray) (N Pi slot dir:Int) (st dv:Nat→Int) (v:Wv) (l:List Int):Nat→Wv
 | 0=>v
 | k+1=>(wayK E N Pi slot dir st dv v l k).reach E N Pi slot dir st dv (l.getD k 0).toNat ((k:Int)+1)
noncomputable def runF (E:Int→Int→ByteArray→ByteArray) (N Pi slot dir:Int) (st dv:Nat→Int) (ow:List Int) (sends:List ByteArray):Wv :=
 wayK E N Pi slot dir st dv (ownK ow sends ow.length) (wayF N dir ow) (wayF N dir ow).length
structure WvAt (w:Zw) (SB DB n:Nat) (v:Wv):Prop where
 at_:SidesAt w SB DB n v.f v.g
 fS:∀ o,w.frozen? ⟨SB,o,none⟩=false
 fD:∀ o,w.frozen? ⟨DB,o,none⟩=false
theorem WvAt.laid {w w':Zw} {SB DB n m:Nat} {v:Wv} {d s o:ByteArray} {far:Int} (h:WvAt w SB DB n v) (hl:Laid w w' SB DB m d s o far) (hm:m < n) :
 WvAt w' SB DB n ⟨fun j=>if j=m then⟨d,s,o,far⟩else v.f j,fun j=>if j=m then true else v.g j⟩:=by
 refine⟨⟨fun i hi=>?_,fun i hi=>?_,fun i hi=>?_,fun i hi=>?_,fun i hi=>?_⟩,fun q=>(hl.fs q).trans (h.fS q),fun q=>(hl.fd q).trans (h.fD q)⟩
 ·by_cases e:i=m
  ·subst e;simpa using hl.cd
  ·simp only [if_neg e];exact(hl.rs _ (by omega)).trans (h.at_.d i hi)
 ·by_cases e:i=m
  ·subst e;simpa using hl.cs
  ·simp only [if_neg e];exact(hl.rs _ (by omega)).trans (h.at_.s i hi)
 ·by_cases e:i=m
  ·subst e;simpa using hl.co
  ·simp only [if_neg e];exact(hl.rs _ (by omega)).trans (h.at_.o i hi)
 ·by_cases e:i=m
  ·subst e;simpa using hl.cf
  ·simp only [if_neg e];exact(hl.rs _ (by omega)).trans (h.at_.far i hi)
 ·by_cases e:i=m
  ·subst e;simpa using hl.cg
  ·simp only [if_neg e];exact(hl.rg _ e).trans (h.at_.g i hi)
theorem sidesAt_below {w w':Zw} {SB DB n:Nat} {f:Nat→Sd} {g:Nat→Bool} (h:SidesAt w SB DB n f g) (hb:Zb w.heap.size w w') (hS:SB < w.heap.size) (hD:DB < w.heap.size):SidesAt w' SB DB n f g :=
 ⟨fun i hi=>(hb.cell (p:=⟨SB,_,none⟩) hS).trans (h.d i hi),fun i hi=>(hb.cell (p:=⟨SB,_,none⟩) hS).trans (h.s i hi),fun i hi=>(hb.cell (p:=⟨SB,_,none⟩) hS).trans (h.o i hi),fun i hi=>(hb.cell (p:=⟨SB,_,none⟩) hS).trans (h.far i hi),fun i hi=>(hb.cell (p:=⟨DB,_,none⟩) hD).trans (h.g i hi)⟩
theorem WvAt.below {w w':Zw} {SB DB n:Nat} {v:Wv} (h:WvAt w SB DB n v) (hb:Zb w.heap.size w w') (hS:SB < w.heap.size) (hD:DB < w.heap.size):WvAt w' SB DB n v :=
 ⟨sidesAt_below h.at_ hb hS hD,fun o=>(hb.frozen (p:=⟨SB,o,none⟩) hS).trans (h.fS o),fun o=>(hb.frozen (p:=⟨DB,o,none⟩) hD).trans (h.fD o)⟩
theorem waveAt_below {w w':Zw} {W:Nat} (N Pi Er G Fi:Int) (PA:Option Addr) (PL PC:Nat) (Kind At From To:Int) (CA:Option Addr) (CL CC:Nat) (VA:Option Addr) (VL VC:Nat) {round slot dir:Int} {TA:Option Addr} {TL TC:Nat} {UA:Option Addr} {UL UC SB DB n:Nat}
 (h:WaveAt w W N Pi Er G Fi PA PL PC Kind At From To CA CL CC VA VL VC round slot dir TA TL TC UA UL UC SB DB n) (hb:Zb w.heap.size w w'):WaveAt w' W N Pi Er G Fi PA PL PC Kind At From To CA CL CC VA VL VC round slot dir TA TL TC UA UL UC SB DB n:=by
 have k:∀ {o v},w.cell? ⟨W,o,none⟩=some v→w'.cell? ⟨W,o,none⟩=some v:=fun {o v} hv=>(hb.cell (p:=⟨W,o,none⟩) h.lt).trans hv
 have hz:=hb.size
 exact⟨k h.c0,k h.c1,k h.c2,k h.c3,k h.c4,k h.c5,k h.c6,k h.c7,k h.c8,k h.c9,k h.c10,k h.c11,k h.c12,k h.c13,k h.c14,k h.c15,k h.c16,k h.c17,k h.c18,Nat.lt_of_lt_of_le h.lt hz,Nat.lt_of_lt_of_le h.sl hz,Nat.lt_of_lt_of_le h.dl hz⟩
theorem waveAt_but {w w':Zw} {W:Nat} (N Pi Er G Fi:Int) (PA:Option Addr) (PL PC:Nat) (Kind At From To:Int) (CA:Option Addr) (CL CC:Nat) (VA:Option Addr) (VL VC:Nat) {round slot dir:Int} {TA:Option Addr} {TL TC:Nat} {UA:Option Addr} {UL UC SB DB n:Nat} {S:Nat→Prop}
 (h:WaveAt w W N Pi Er G Fi PA PL PC Kind At From To CA CL CC VA VL VC round slot dir TA TL TC UA UL UC SB DB n) (hb:But S w w') (hW:¬ S W):WaveAt w' W N Pi Er G Fi PA PL PC Kind At From To CA CL CC VA VL VC round slot dir TA TL TC UA UL UC SB DB n:=by
 have k:∀ {o v},w.cell? ⟨W,o,none⟩=some v→w'.cell? ⟨W,o,none⟩=some v:=fun {o v} hv=>(hb.cell (p:=⟨W,o,none⟩) h.lt hW).trans hv
 have hz:=hb.size
 exact⟨k h.c0,k h.c1,k h.c2,k h.c3,k h.c4,k h.c5,k h.c6,k h.c7,k h.c8,k h.c9,k h.c10,k h.c11,k h.c12,k h.c13,k h.c14,k h.c15,k h.c16,k h.c17,k h.c18,Nat.lt_of_lt_of_le h.lt hz,Nat.lt_of_lt_of_le h.sl hz,Nat.lt_of_lt_of_le h.dl hz⟩
theorem reach (FW:Zw→Prop) (N Pi Er G Fi:Int) (PA:Option Addr) (PL PC:Nat) (Kind At From To:Int) (CA:Option Addr) (CL CC:Nat) (VA:Option Addr) (VL VC:Nat) (round slot dir:Int) (TB UB SB DB n W:Nat) (E:Int→Int→ByteArray→ByteArray) (v:Wv) (st dv:Nat→Int) (m:Nat) (far:Int) (w:Zw)
 (hE:EmitIs FW N Pi Er G Fi PA PL PC Kind At From To CA CL CC VA VL VC round slot E) (hFW:FW w) (hn:(n:Int)=N) (hN:6≤N) (hN2:N≤7) (hPi:0≤Pi) (hPi2:Pi≤10000)
 (hW:WaveAt w W N Pi Er G Fi PA PL PC Kind At From To CA CL CC VA VL VC round slot dir (some ⟨TB,0,none⟩) n n (some ⟨UB,0,none⟩) n n SB DB n) (hv:WvAt w SB DB n v)
 (hSD:SB≠DB) (hWS:W≠SB) (hWD:W≠DB)
 (hT:w.cell? ⟨TB,m,none⟩=some (Z Y (st m))) (hU:w.cell? ⟨UB,m,none⟩=some (Z Y (dv m))) (hTl:TB < w.heap.size) (hUl:UB < w.heap.size)
 (hdir:dir=1∨dir = -1) (hm:m < n) (hf:∀ i,i < n→Strm (v.f i).o) (hfar:1≤far) (hfar2:far≤20) :
 Zc Zp 106 #[.pointer (some ⟨W,0,none⟩),Z Y m,Z Y far] w fun e w'=>e=.returned (.tuple #[])∧But (fun k=>k=SB∨k=DB) w w'∧WvAt w' SB DB n (v.reach E N Pi slot dir st dv m far):=by
 have hc:∀ back,(back=1∨back=2)→∀ w',Zb w.heap.size w w'→Zc Zp 150 #[.pointer (some ⟨W,0,none⟩),Z Y m,Z Y back] w' fun e w2=>e=.returned (.string (comeF E N dir v.f v.g m back))∧Zb w'.heap.size w' w2:=fun back hb w' hw' =>
  come FW N Pi Er G Fi PA PL PC Kind At From To CA CL CC VA VL VC round slot dir (some ⟨TB,0,none⟩) n n (some ⟨UB,0,none⟩) n n SB DB n W E v.f v.g m back w' hE (hE.stays w w' hFW hw') hn hN hN2 (waveAt_below _ _ _ _ _ _ _ _ _ _ _ _ _ _ _ _ _ _ hW hw') (sidesAt_below hv.at_ hw' hW.sl hW.dl) hdir hb (by omega) (by omega) hf
 have hs:∀ back,Strm (comeF E N dir v.f v.g m back):=fun back=>come_strm hE.strm hN (by omega) (by omega) (fun i hi=>hf i (by omega))
 have fin:∀ {e:Ending} {w':Zw} {d s o:ByteArray},sdF E N Pi slot dir v.f v.g (st m) (dv m) m far=⟨d,s,o,far⟩→(e=.returned (.tuple #[])∧Laid w w' SB DB m d s o far)→e=.returned (.tuple #[])∧But (fun k=>k=SB∨k=DB) w w'∧WvAt w' SB DB n (v.reach E N Pi slot dir st dv m far):=by
  intro e w' d s o he h
  refine⟨h.1,h.2.but,?_⟩
  have:=hv.laid h.2 hm
  unfold Wv.reach
  rw [he]
  exact this
 by_cases h1:far=1
 ·by_cases h0:st m=0
  ·refine(reach_near0 N Pi Er G Fi PA PL PC slot TB UB SB DB n W m _ _ far (st m) (dv m) w (hc 1 (.inl rfl)) (hc 2 (.inr rfl)) (hs 1) (hs 2).1 hm (by omega) hW.c0 hW.c1 hW.c2 hW.c3 hW.c4 hW.c5 hW.c13 hW.c15 hW.c16 hW.c17 hW.c18 ⟨_,hv.at_.d m hm⟩ ⟨_,hv.at_.s m hm⟩ ⟨_,hv.at_.o m hm⟩ ⟨_,hv.at_.far m hm⟩ ⟨_,hv.at_.g m hm⟩ hv.fS hv.fD hSD hWS hWD hW.lt hW.sl hW.dl hT hTl hU hUl hPi hPi2 h1 h0).mono (fun e w' h=>fin ?_ h)
   unfold sdF
   rw [if_pos h0,if_pos h1]
  ·by_cases h2:slot < N
   ·refine(reach_near N Pi Er G Fi PA PL PC slot TB UB SB DB n W m _ _ far (st m) (dv m) w (hc 1 (.inl rfl)) (hc 2 (.inr rfl)) (hs 1) (hs 2).1 hm (by omega) hW.c0 hW.c1 hW.c2 hW.c3 hW.c4 hW.c5 hW.c13 hW.c15 hW.c16 hW.c17 hW.c18 ⟨_,hv.at_.d m hm⟩ ⟨_,hv.at_.s m hm⟩ ⟨_,hv.at_.o m hm⟩ ⟨_,hv.at_.far m hm⟩ ⟨_,hv.at_.g m hm⟩ hv.fS hv.fD hSD hWS hWD hW.lt hW.sl hW.dl hT hTl hU hUl hPi hPi2 h1 h0 h2).mono (fun e w' h=>fin ?_ h)
    unfold sdF
    rw [if_neg h0,if_pos h1,decide_eq_false (show ¬(far > 1∨N≤slot)by omega)]
   ·refine(reach_nearPair N Pi Er G Fi PA PL PC slot TB UB SB DB n W m _ _ far (st m) (dv m) w (hc 1 (.inl rfl)) (hc 2 (.inr rfl)) (hs 1) (hs 2).1 hm (by omega) hW.c0 hW.c1 hW.c2 hW.c3 hW.c4 hW.c5 hW.c13 hW.c15 hW.c16 hW.c17 hW.c18 ⟨_,hv.at_.d m hm⟩ ⟨_,hv.at_.s m hm⟩ ⟨_,hv.at_.o m hm⟩ ⟨_,hv.at_.far m hm⟩ ⟨_,hv.at_.g m hm⟩ hv.fS hv.fD hSD hWS hWD hW.lt hW.sl hW.dl hT hTl hU hUl hPi hPi2 h1 h0 (by omega)).mono (fun e w' h=>fin ?_ h)
    unfold sdF
    rw [if_neg h0,if_pos h1,decide_eq_true (show(far > 1∨N≤slot)by omega)]
 ·by_cases h0:st m=0
  ·refine(reach_far0 N Pi Er G Fi PA PL PC slot TB UB SB DB n W m _ _ far (st m) (dv m) w (hc 1 (.inl rfl)) (hc 2 (.inr rfl)) (hs 1) (hs 2).1 hm (by omega) hW.c0 hW.c1 hW.c2 hW.c3 hW.c4 hW.c5 hW.c13 hW.c15 hW.c16 hW.c17 hW.c18 ⟨_,hv.at_.d m hm⟩ ⟨_,hv.at_.s m hm⟩ ⟨_,hv.at_.o m hm⟩ ⟨_,hv.at_.far m hm⟩ ⟨_,hv.at_.g m hm⟩ hv.fS hv.fD hSD hWS hWD hW.lt hW.sl hW.dl hT hTl hU hUl hPi hPi2 ⟨by omega,hfar2⟩ h0).mono (fun e w' h=>fin ?_ h)
   unfold sdF
   rw [if_pos h0,if_neg h1]
  ·refine(reach_far N Pi Er G Fi PA PL PC slot TB SB DB n W m _ _ far (st m) w (hc 1 (.inl rfl)) (hc 2 (.inr rfl)) (hs 1) (hs 2).1 hm (by omega) hW.c0 hW.c13 hW.c15 hW.c17 hW.c18 ⟨_,hv.at_.d m hm⟩ ⟨_,hv.at_.s m hm⟩ ⟨_,hv.at_.o m hm⟩ ⟨_,hv.at_.far m hm⟩ ⟨_,hv.at_.g m hm⟩ hv.fS hv.fD hSD hWS hWD hW.lt hW.sl hW.dl hT hTl (by omega) hfar2 h0).mono (fun e w' h=>fin ?_ h)
   unfold sdF
   rw [if_neg h0,if_neg h1,decide_eq_true (show(far > 1∨N≤slot)by omega)]
end A17
end Go.Proofs.YtdbempiompiioaaGreat
