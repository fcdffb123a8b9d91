/- slices.Clone at this program's element types, by the shelf's law. A slot going round, six: makes, li Conditions: the bounds stated in each theorem. -/
import Derived.Test.YtdbempiompiioaaGreatT02
import Derived.Laws.MakeOwn
import Derived.Deep.DeepCutAuto
import Derived.Laws.IdiomStrings
import Derived.Laws.BitsAllLaws
set_option linter.unusedVariables false
set_option linter.unusedSimpArgs false
set_option maxRecDepth 100000
set_option maxHeartbeats 80000000
open Go.Value renaming int → Z
open Go.IntKind renaming i64 → Y
open Go renaming World → Zw, Calls → Zc, heap_alloc_new → Zh
open Go.RowKit renaming Below → Zb
open Go.Proofs.Tryz renaming prog → Zp
open Go.Lib renaming hid → O
open Go.World renaming block_lt_of_cell? → Zl, cell?_setCell_other → Zo
open Nat renaming le_refl → Zr
open Go.RowKit.Below renaming refl → Zf
namespace Go.Proofs.YtdbempiompiioaaGreat
namespace CL
open Go.Shelf Go.RowKit Go.Lib
def ren29:Go.Shelf.Ren:=⟨fun | 41=>29 | n=>n,fun | 22=>32 | 23=>52 | 4=>4 | n=>n,fun | n=>n⟩
theorem lays29:Go.Proofs.SlLaysE0.n41 Zp ren29:={
 mixed:=by kernel_rfl
 f41:=⟨Tryz.f29.name,by decide,Tryz.func29.trans (congrArg some (by kernel_rfl))⟩
 t4:=Tryz.underlying4
 a4:=Tryz.isAgg4
 z4:=Tryz.sizeOf4
 v4:=Tryz.zeroValue4
 t22:=Tryz.underlying32
 a22:=Tryz.isAgg32
 z22:=Tryz.sizeOf32
 v22:=Tryz.zeroValue32 }
theorem size52 (w:Zw):(Go.sizeOf 52).run Zp w=.ok 4 w:=Tryz.sizeOf52 w
theorem info52:(Tryz.prog.info? 52).map (fun i=>(i.zero,i.size,i.bytes))=some (some (.agg #[Z Y 0,Z Y 0,Z Y 0,Z Y 0]),4,32):=by kernel_rfl
theorem Clone29 (b off n c:Nat) (news:List Value) (w:Zw) (hl:news.length=n*4) (hn:n≤10000) (hc:∀ j u,news[j]?=some u→w.cell? ⟨b,off+j,none⟩=some u) (h1:∀ u ∈ news,u.oneCell'=true) :
 Zc Zp 29 #[.slice (some ⟨b,off,none⟩) n c] w fun e w'=>∃ v',e=.returned v'∧w'.ownsRow w.heap.size 52 4 v' n news∧v' ≠ .slice none 0 0∧Zb w.heap.size w w':=by
 obtain⟨i,hi,hz,hs,hb⟩:=info_parts info52
 exact AnyE.slices_Clone lays29 i (.agg #[Z Y 0,Z Y 0,Z Y 0,Z Y 0]) 4 32 hi hz hs hb rfl (by decide) size52 b off n c news w hl (by unfold maxLen;omega) (by omega) hc h1
theorem Clone29_nil (n c:Nat) (w:Zw):Zc Zp 29 #[.slice none n c] w fun e w'=>e=.returned (.slice none 0 0)∧w'=w:=AnyE.slices_Clone_nil lays29 n c w
def ren30:Go.Shelf.Ren:=⟨fun | 41=>30 | n=>n,fun | 22=>25 | 23=>38 | 4=>4 | n=>n,fun | n=>n⟩
theorem lays30:Go.Proofs.SlLaysE0.n41 Zp ren30:={
 mixed:=by kernel_rfl
 f41:=⟨Tryz.f30.name,by decide,Tryz.func30.trans (congrArg some (by kernel_rfl))⟩
 t4:=Tryz.underlying4
 a4:=Tryz.isAgg4
 z4:=Tryz.sizeOf4
 v4:=Tryz.zeroValue4
 t22:=Tryz.underlying25
 a22:=Tryz.isAgg25
 z22:=Tryz.sizeOf25
 v22:=Tryz.zeroValue25 }
theorem size38 (w:Zw):(Go.sizeOf 38).run Zp w=.ok 3 w:=Tryz.sizeOf38 w
theorem info38:(Tryz.prog.info? 38).map (fun i=>(i.zero,i.size,i.bytes))=some (some (.agg #[Z Y 0,Z Y 0,.string ⟨#[]⟩]),3,32):=by kernel_rfl
theorem Clone30 (b off n c:Nat) (news:List Value) (w:Zw) (hl:news.length=n*3) (hn:n≤10000) (hc:∀ j u,news[j]?=some u→w.cell? ⟨b,off+j,none⟩=some u) (h1:∀ u ∈ news,u.oneCell'=true) :
 Zc Zp 30 #[.slice (some ⟨b,off,none⟩) n c] w fun e w'=>∃ v',e=.returned v'∧w'.ownsRow w.heap.size 38 3 v' n news∧v' ≠ .slice none 0 0∧Zb w.heap.size w w':=by
 obtain⟨i,hi,hz,hs,hb⟩:=info_parts info38
 exact AnyE.slices_Clone lays30 i (.agg #[Z Y 0,Z Y 0,.string ⟨#[]⟩]) 3 32 hi hz hs hb rfl (by decide) size38 b off n c news w hl (by unfold maxLen;omega) (by omega) hc h1
theorem Clone30_nil (n c:Nat) (w:Zw):Zc Zp 30 #[.slice none n c] w fun e w'=>e=.returned (.slice none 0 0)∧w'=w:=AnyE.slices_Clone_nil lays30 n c w
def ren38:Go.Shelf.Ren:=⟨fun | 41=>38 | n=>n,fun | 22=>45 | 23=>48 | 4=>4 | n=>n,fun | n=>n⟩
theorem lays38:Go.Proofs.SlLaysE0.n41 Zp ren38:={
 mixed:=by kernel_rfl
 f41:=⟨Tryz.f38.name,by decide,Tryz.func38.trans (congrArg some (by kernel_rfl))⟩
 t4:=Tryz.underlying4
 a4:=Tryz.isAgg4
 z4:=Tryz.sizeOf4
 v4:=Tryz.zeroValue4
 t22:=Tryz.underlying45
 a22:=Tryz.isAgg45
 z22:=Tryz.sizeOf45
 v22:=Tryz.zeroValue45 }
theorem size48 (w:Zw):(Go.sizeOf 48).run Zp w=.ok 4 w:=Tryz.sizeOf48 w
theorem info48:(Tryz.prog.info? 48).map (fun i=>(i.zero,i.size,i.bytes))=some (some (.agg #[Z Y 0,Z Y 0,Z Y 0,Z Y 0]),4,32):=by kernel_rfl
theorem Clone38 (b off n c:Nat) (news:List Value) (w:Zw) (hl:news.length=n*4) (hn:n≤10000) (hc:∀ j u,news[j]?=some u→w.cell? ⟨b,off+j,none⟩=some u) (h1:∀ u ∈ news,u.oneCell'=true) :
 Zc Zp 38 #[.slice (some ⟨b,off,none⟩) n c] w fun e w'=>∃ v',e=.returned v'∧w'.ownsRow w.heap.size 48 4 v' n news∧v' ≠ .slice none 0 0∧Zb w.heap.size w w':=by
 obtain⟨i,hi,hz,hs,hb⟩:=info_parts info48
 exact AnyE.slices_Clone lays38 i (.agg #[Z Y 0,Z Y 0,Z Y 0,Z Y 0]) 4 32 hi hz hs hb rfl (by decide) size48 b off n c news w hl (by unfold maxLen;omega) (by omega) hc h1
def ren107:Go.Shelf.Ren:=⟨fun | 41=>107 | n=>n,fun | 22=>81 | 23=>129 | 4=>4 | n=>n,fun | n=>n⟩
theorem lays107:Go.Proofs.SlLaysE0.n41 Zp ren107:={
 mixed:=by kernel_rfl
 f41:=⟨Tryz.f107.name,by decide,Tryz.func107.trans (congrArg some (by kernel_rfl))⟩
 t4:=Tryz.underlying4
 a4:=Tryz.isAgg4
 z4:=Tryz.sizeOf4
 v4:=Tryz.zeroValue4
 t22:=Tryz.underlying81
 a22:=Tryz.isAgg81
 z22:=Tryz.sizeOf81
 v22:=Tryz.zeroValue81 }
theorem size129 (w:Zw):(Go.sizeOf 129).run Zp w=.ok 4 w:=Tryz.sizeOf129 w
theorem info129:(Tryz.prog.info? 129).map (fun i=>(i.zero,i.size,i.bytes))=some (some (.agg #[.string ⟨#[]⟩,.string ⟨#[]⟩,.string ⟨#[]⟩,Z Y 0]),4,56):=by kernel_rfl
theorem Clone107 (b off n c:Nat) (news:List Value) (w:Zw) (hl:news.length=n*4) (hn:n≤10000) (hc:∀ j u,news[j]?=some u→w.cell? ⟨b,off+j,none⟩=some u) (h1:∀ u ∈ news,u.oneCell'=true) :
 Zc Zp 107 #[.slice (some ⟨b,off,none⟩) n c] w fun e w'=>∃ v',e=.returned v'∧w'.ownsRow w.heap.size 129 4 v' n news∧v' ≠ .slice none 0 0∧Zb w.heap.size w w':=by
 obtain⟨i,hi,hz,hs,hb⟩:=info_parts info129
 exact AnyE.slices_Clone lays107 i (.agg #[.string ⟨#[]⟩,.string ⟨#[]⟩,.string ⟨#[]⟩,Z Y 0]) 4 56 hi hz hs hb rfl (by decide) size129 b off n c news w hl (by unfold maxLen;omega) (by omega) hc h1
def ren199:Go.Shelf.Ren:=⟨fun | 41=>199 | n=>n,fun | 22=>59 | 23=>44 | 4=>4 | n=>n,fun | n=>n⟩
theorem lays199:Go.Proofs.SlLaysE0.n41 Zp ren199:={
 mixed:=by kernel_rfl
 f41:=⟨Tryz.f199.name,by decide,Tryz.func199.trans (congrArg some (by kernel_rfl))⟩
 t4:=Tryz.underlying4
 a4:=Tryz.isAgg4
 z4:=Tryz.sizeOf4
 v4:=Tryz.zeroValue4
 t22:=Tryz.underlying59
 a22:=Tryz.isAgg59
 z22:=Tryz.sizeOf59
 v22:=Tryz.zeroValue59 }
theorem size44 (w:Zw):(Go.sizeOf 44).run Zp w=.ok 2 w:=Tryz.sizeOf44 w
theorem info44:(Tryz.prog.info? 44).map (fun i=>(i.zero,i.size,i.bytes))=some (some (.agg #[Z Y 0,Z Y 0]),2,16):=by kernel_rfl
theorem Clone199 (b off n c:Nat) (news:List Value) (w:Zw) (hl:news.length=n*2) (hn:n≤10000) (hc:∀ j u,news[j]?=some u→w.cell? ⟨b,off+j,none⟩=some u) (h1:∀ u ∈ news,u.oneCell'=true) :
 Zc Zp 199 #[.slice (some ⟨b,off,none⟩) n c] w fun e w'=>∃ v',e=.returned v'∧w'.ownsRow w.heap.size 44 2 v' n news∧v' ≠ .slice none 0 0∧Zb w.heap.size w w':=by
 obtain⟨i,hi,hz,hs,hb⟩:=info_parts info44
 exact AnyE.slices_Clone lays199 i (.agg #[Z Y 0,Z Y 0]) 2 16 hi hz hs hb rfl (by decide) size44 b off n c news w hl (by unfold maxLen;omega) (by omega) hc h1
theorem Clone199_nil (n c:Nat) (w:Zw):Zc Zp 199 #[.slice none n c] w fun e w'=>e=.returned (.slice none 0 0)∧w'=w:=AnyE.slices_Clone_nil lays199 n c w
end CL
namespace A18
open Go.RowKit A4 A6 A9 A13 A14 A15 A17
theorem run_make_n {P:Program} (t e:TypeId) (i:TypeInfo) (z:Value) (ht:P.underlying t=some (.slice e)) (hi:P.info? e=some i) (hz:i.zero=some z)
 (n:Nat) (hn:n≤100) (hbytes:i.bytes≤1000) (w:Zw) :
 (Instr.makeSlice t (Z Y (n:Int)) (Z Y (n:Int))).run P w=.ok (.slice (some ⟨w.heap.size,0,none⟩) n n) (w.alloc (.cells (madeCells z.cells (n*i.size)) e)):=by
 have hb:(i.bytes:Int)*(n:Int)≤281474976710656:=by
  have h:i.bytes*n≤1000*100:=Nat.mul_le_mul hbytes hn
  have h2:((i.bytes*n:Nat):Int)≤100000:=by omega
  rw [Int.natCast_mul]at h2
  omega
 have hr:=run_make (P:=P) w t e i z ht hi hz .i64 .i64 n n (by omega) (by omega) hb (by omega)
 simp only [Int.toNat_natCast]at hr
 exact hr
theorem info129:(Tryz.prog.info? 129).map (fun i=>(i.zero,i.size,i.bytes))=some (some (.agg #[.string ⟨#[]⟩,.string ⟨#[]⟩,.string ⟨#[]⟩,Z Y 0]),4,56):=by kernel_rfl
theorem info4:(Tryz.prog.info? 4).map (fun i=>(i.zero,i.size,i.bytes))=some (some (.bool false),1,1):=by kernel_rfl
theorem mk81 (n:Nat) (hn:n≤100) (w:Zw):(Instr.makeSlice 81 (Z Y (n:Int)) (Z Y (n:Int))).run Zp w=.ok (.slice (some ⟨w.heap.size,0,none⟩) n n) (w.alloc (.cells (madeCells #[.string ⟨#[]⟩,.string ⟨#[]⟩,.string ⟨#[]⟩,Z Y 0] (n*4)) 129)):=by
 obtain⟨i,hi,hz,hs,hb⟩:=info_parts info129
 have:=run_make_n (P:=Zp) 81 129 i _ Tryz.underlying81 hi hz n hn (by omega) w
 rw [hs]at this
 exact this
theorem mk173 (n:Nat) (hn:n≤100) (w:Zw):(Instr.makeSlice 173 (Z Y (n:Int)) (Z Y (n:Int))).run Zp w=.ok (.slice (some ⟨w.heap.size,0,none⟩) n n) (w.alloc (.cells (madeCells #[.bool false] (n*1)) 4)):=by
 obtain⟨i,hi,hz,hs,hb⟩:=info_parts info4
 have:=run_make_n (P:=Zp) 173 4 i _ Tryz.underlying173 hi hz n hn (by omega) w
 rw [hs]at this
 exact this
theorem made_at (z:Array Value) (n j:Nat) (h:j < n):(madeCells z n)[j]?=some (z[j%z.size]!):=by
 unfold madeCells
 rw [Array.getElem?_map,Array.getElem?_range]
 simp [h]
theorem zero_at {w:Zw} {SB DB n:Nat} (hS:w.heap[SB]?=some (.cells (madeCells #[.string ⟨#[]⟩,.string ⟨#[]⟩,.string ⟨#[]⟩,Z Y 0] (n*4)) 129 (0,0))) (hD:w.heap[DB]?=some (.cells (madeCells #[.bool false] (n*1)) 4 (0,0))):WvAt w SB DB n Wv.zero:=by
 have c:∀ o,w.cell? ⟨SB,o,none⟩=(madeCells #[.string ⟨#[]⟩,.string ⟨#[]⟩,.string ⟨#[]⟩,Z Y 0] (n*4))[o]?:=fun o=>Lib.cell_of_heap hS o
 have d:∀ o,w.cell? ⟨DB,o,none⟩=(madeCells #[.bool false] (n*1))[o]?:=fun o=>Lib.cell_of_heap hD o
 refine⟨⟨fun i hi=>?_,fun i hi=>?_,fun i hi=>?_,fun i hi=>?_,fun i hi=>?_⟩,fun o=>Lib.frozen_of_heap hS o,fun o=>Lib.frozen_of_heap hD o⟩
 ·rw [c,made_at _ _ _ (by omega)]
  have:(i*4)%4=0:=by omega
  simp [this,Wv.zero]
 ·rw [c,made_at _ _ _ (by omega)]
  have:(i*4+1)%4=1:=by omega
  simp [this,Wv.zero]
 ·rw [c,made_at _ _ _ (by omega)]
  have:(i*4+2)%4=2:=by omega
  simp [this,Wv.zero]
 ·rw [c,made_at _ _ _ (by omega)]
  have:(i*4+3)%4=3:=by omega
  simp [this,Wv.zero]
 ·rw [d,made_at _ _ _ (by omega)]
  simp [Wv.zero,Nat.mod_one]
def sideCells (f:Nat→Sd):Nat→List Value
 | 0=>[]
 | n+1=>sideCells f n ++ [.string (f n).d,.string (f n).s,.string (f n).o,Z Y (f n).far]
theorem sideCells_length (f:Nat→Sd) (n:Nat):(sideCells f n).length=n*4:=by
 induction n with
 | zero=>rfl
 | succ n ih=>simp [sideCells,ih];omega
theorem sideCells_at (f:Nat→Sd) (n i:Nat) (h:i < n):(sideCells f n)[i*4]?=some (.string (f i).d)∧(sideCells f n)[i*4+1]?=some (.string (f i).s)∧(sideCells f n)[i*4+2]?=some (.string (f i).o)∧(sideCells f n)[i*4+3]?=some (Z Y (f i).far):=by
 induction n with
 | zero=>omega
 | succ n ih =>
  by_cases e:i=n
  ·subst e
   have hl:=sideCells_length f i
   have a:∀ r,(sideCells f (i+1))[i*4+r]?=[Value.string (f i).d,.string (f i).s,.string (f i).o,Z Y (f i).far][r]?:=fun r=>by
    show(sideCells f i ++ _)[i*4+r]?=_
    rw [List.getElem?_append_right (by omega)]
    congr 1
    omega
   exact⟨a 0,a 1,a 2,a 3⟩
  ·have hl:=sideCells_length f n
   have h':i < n:=by omega
   obtain⟨h1,h2,h3,h4⟩:=ih h'
   have a:∀ r,r < 4→(sideCells f (n+1))[i*4+r]?=(sideCells f n)[i*4+r]?:=fun r hr=>by
    show(sideCells f n ++ _)[i*4+r]?=_
    rw [List.getElem?_append_left (by omega)]
   exact⟨(a 0 (by omega)).trans h1,(a 1 (by omega)).trans h2,(a 2 (by omega)).trans h3,(a 3 (by omega)).trans h4⟩
theorem sideCells_read {w:Zw} {SB DB n:Nat} {f:Nat→Sd} {g:Nat→Bool} (h:SidesAt w SB DB n f g):∀ j u,(sideCells f n)[j]?=some u→w.cell? ⟨SB,0+j,none⟩=some u:=by
 intro j u hj
 have hl:=sideCells_length f n
 have hlt:j < n*4:=by
  have:=(List.getElem?_eq_some_iff.1 hj).1
  omega
 have hi:j / 4 < n:=by omega
 obtain⟨h1,h2,h3,h4⟩:=sideCells_at f n (j / 4) hi
 rw [Nat.zero_add]
 have hr:j%4=0∨j%4=1∨j%4=2∨j%4=3:=by omega
 rcases hr with hr | hr | hr | hr
 ·have e:j=j / 4*4:=by omega
  rw [e]at hj ⊢;rw [h1]at hj;injection hj with hj;rw [← hj];exact h.d _ hi
 ·have e:j=j / 4*4+1:=by omega
  rw [e]at hj ⊢;rw [h2]at hj;injection hj with hj;rw [← hj];exact h.s _ hi
 ·have e:j=j / 4*4+2:=by omega
  rw [e]at hj ⊢;rw [h3]at hj;injection hj with hj;rw [← hj];exact h.o _ hi
 ·have e:j=j / 4*4+3:=by omega
  rw [e]at hj ⊢;rw [h4]at hj;injection hj with hj;rw [← hj];exact h.far _ hi
theorem sideCells_one (f:Nat→Sd) (n:Nat):∀ u ∈ sideCells f n,u.oneCell'=true:=by
 induction n with
 | zero=>intro u hu;cases hu
 | succ n ih =>
  intro u hu
  unfold sideCells at hu
  rw [List.mem_append]at hu
  rcases hu with hu | hu
  ·exact ih u hu
  ·simp at hu
   rcases hu with rfl | rfl | rfl | rfl <;> rfl
theorem keep_of {w w':Zw} {b o:Nat} {v:Value} (hv:w.cell? ⟨b,o,none⟩=some v) (h:b < w.heap.size) (hb:Zb w.heap.size w w'):w'.cell? ⟨b,o,none⟩=some v:=(hb.cell (p:=⟨b,o,none⟩) h).trans hv
def Strs (w:Zw) (A:Option Addr) (l:List ByteArray):Prop:=∀ k,k < l.length→∃ b off,A=some ⟨b,off,none⟩∧b < w.heap.size∧w.cell? ⟨b,off+k,none⟩=some (.string (l.getD k ⟨#[]⟩))
theorem Strs.below {w w1:Zw} {A:Option Addr} {l:List ByteArray} (h:Strs w A l) (hb:Zb w.heap.size w w1):Strs w1 A l:=fun k hk=>by
 obtain⟨b,off,e,h1,h2⟩:=h k hk
 exact⟨b,off,e,Nat.lt_of_lt_of_le h1 hb.size,(hb.cell (p:=⟨b,off+k,none⟩) h1).trans h2⟩
theorem ints_but {w w1:Zw} {A:Option Addr} {l:List Int} {S:Nat→Prop} (h:Ints w A l) (hb:But S w w1) (hA:∀ b off,A=some ⟨b,off,none⟩→¬ S b):Ints w1 A l:=fun k hk=>by
 obtain⟨b,off,e,h1,h2⟩:=h k hk
 exact⟨b,off,e,Nat.lt_of_lt_of_le h1 hb.size,(hb.cell (p:=⟨b,off+k,none⟩) h1 (hA b off e)).trans h2⟩
theorem ints_of_own2 {w:Zw} {base:Nat} {v:Value} {l:List Int} (h:w.ownsRow base 3 1 v l.length (l.map (Z Y))):∃ A C,v=.slice A l.length C∧Ints w A l∧l.length≤C∧∀ b off,A=some ⟨b,off,none⟩→base≤b:=by
 obtain⟨A,C,rfl,hI,hC⟩:=ints_of_own h
 refine⟨A,C,rfl,hI,hC,fun b off e=>?_⟩
 subst e
 rcases h.2 with⟨h1,_⟩ | ⟨g,cap,cur,h1,hb,_⟩
 ·cases h1
 ·injection h1 with h1
  injection h1 with h1
  injection h1 with h1
  omega
theorem own_wv {w:Zw} {SB DB n:Nat} {v:Wv} {i:Nat} {s:ByteArray} {w':Zw} (h:WvAt w SB DB n v) (hi:i < n) (hSD:SB≠DB)
 (hw:w'=(w.setCell ⟨SB,i*4+2,none⟩ (.string s)).setCell ⟨DB,i,none⟩ (.bool true)):WvAt w' SB DB n (v.own i s):=by
 subst hw
 have ne:∀ {a b:Addr},a.block≠b.block∨a.off≠b.off→a≠b:=fun h e=>by subst e;rcases h with h | h <;> exact h rfl
 have os:∀ {w:Zw} {a b:Addr} {v:Value},(a.block≠b.block∨a.off≠b.off)→(w.setCell a v).cell? b=w.cell? b:=fun h=>Zo _ _ _ _ (ne h)
 refine⟨⟨fun j hj=>?_,fun j hj=>?_,fun j hj=>?_,fun j hj=>?_,fun j hj=>?_⟩,fun o=>?_,fun o=>?_⟩
 ·rw [os (.inl (by simpa using hSD.symm)),os (.inr (by simp;omega)),h.at_.d j hj]
  by_cases e:j=i
  ·subst e;simp [Wv.own]
  ·simp [Wv.own,e]
 ·rw [os (.inl (by simpa using hSD.symm)),os (.inr (by simp;omega)),h.at_.s j hj]
  by_cases e:j=i
  ·subst e;simp [Wv.own]
  ·simp [Wv.own,e]
 ·rw [os (.inl (by simpa using hSD.symm))]
  by_cases e:j=i
  ·subst e
   rw [World.cell?_setCell_same _ _ _ (h.at_.o j hj)];simp [Wv.own]
  ·rw [os (.inr (by simp;omega)),h.at_.o j hj];simp [Wv.own,e]
 ·rw [os (.inl (by simpa using hSD.symm)),os (.inr (by simp;omega)),h.at_.far j hj]
  by_cases e:j=i
  ·subst e;simp [Wv.own]
  ·simp [Wv.own,e]
 ·by_cases e:j=i
  ·subst e
   rw [World.cell?_setCell_same _ _ _ (u :=.bool (v.g j))]
   ·simp [Wv.own]
   ·rw [os (.inl (by simpa using hSD)),h.at_.g j hj]
  ·rw [os (.inr (by simpa using fun e'=>e e'.symm)),os (.inl (by simpa using hSD)),h.at_.g j hj];simp [Wv.own,e]
 ·simp only [World.frozen?_setCell];exact h.fS o
 ·simp only [World.frozen?_setCell];exact h.fD o
theorem getD_mem {l:List Int} {k:Nat} (h:k < l.length):l.getD k 0 ∈ l:=by
 rw [List.getD_eq_getElem?_getD,List.getElem?_eq_getElem h]
 exact List.getElem_mem _
theorem ownK_strm {ow:List Int} {sends:List ByteArray} (h:∀ k,Strm (sends.getD k ⟨#[]⟩)):∀ k i,Strm ((ownK ow sends k).f i).o
 | 0,i=>Strm.empty
 | k+1,i=>by
  unfold ownK Wv.own
  simp only
  split
  ·exact h k
  ·exact ownK_strm h k i
theorem sdF_strm {E:Int→Int→ByteArray→ByteArray} {n:Nat} {Pi slot dir:Int} {f:Nat→Sd} {g:Nat→Bool} {st dv:Int} {m:Nat} {far:Int} (hE:∀ a b s,0≤a→a < (n:Int)→0≤b→b < (n:Int)→Strm s→Strm (E a b s)) (hn:6≤n) (hm:m < n)
 (hf:∀ i,i < n→Strm (f i).o):Strm (sdF E n Pi slot dir f g st dv m far).o:=by
 unfold sdF
 simp only
 split
 ·exact Strm.empty
 ·refine strm_out _ _ ?_
  have hs:Strm (comeF E n dir f g m 1):=come_strm hE (by omega) (by omega) (by omega) (fun i hi=>hf i (by omega))
  split
  ·exact str_strm hs
  ·exact hs
theorem wayK_strm {E:Int→Int→ByteArray→ByteArray} {n:Nat} {Pi slot dir:Int} {st dv:Nat→Int} {v:Wv} {l:List Int} (hE:∀ a b s,0≤a→a < (n:Int)→0≤b→b < (n:Int)→Strm s→Strm (E a b s)) (hn:6≤n) (hl:∀ x ∈ l,0≤x∧x < (n:Int))
 (hf:∀ i,i < n→Strm (v.f i).o):∀ k,k≤l.length→∀ i,i < n→Strm ((wayK E n Pi slot dir st dv v l k).f i).o
 | 0,_,i,hi=>hf i hi
 | k+1,hk,i,hi=>by
  have hm:=hl (l.getD k 0) (getD_mem (by omega))
  have ih:=wayK_strm (Pi:=Pi) (slot:=slot) (dir:=dir) (st:=st) (dv:=dv) hE hn hl hf k (by omega)
  unfold wayK Wv.reach
  simp only
  split
  ·exact sdF_strm hE hn (by omega) ih
  ·exact ih i hi
end A18
namespace A19
open Go.RowKit A4 A5 A6 A8 A9 A11 A13 A14 A17 A18
def RunPost (n:Nat) (v:Wv) (w:Zw) (e:Ending) (w':Zw):Prop:=∃ u,e=.returned u∧w'.ownsRow w.heap.size 129 4 u n (sideCells v.f n)∧u ≠ .slice none 0 0∧Zb w.heap.size w w'
def MadeWave (w:Zw) (n:Nat) (Pi Er G Fi:Int) (PA:Option Addr) (PL PC:Nat) (Kind At From To:Int) (CA:Option Addr) (CL CC:Nat) (VA:Option Addr) (VL VC:Nat) (round slot dir:Int) (TB UB:Nat) (s18:Value) (wx:Zw):Prop :=
 ∃ W SB DB,s18=.pointer (some ⟨W,0,none⟩)∧WaveAt wx W n Pi Er G Fi PA PL PC Kind At From To CA CL CC VA VL VC round slot dir (some ⟨TB,0,none⟩) n n (some ⟨UB,0,none⟩) n n SB DB n∧WvAt wx SB DB n Wv.zero∧SB≠DB∧W≠SB∧W≠DB∧w.heap.size≤W∧w.heap.size≤SB∧w.heap.size≤DB∧Zb w.heap.size w wx
theorem wv_drew {w:Zw} {SB DB n:Nat} {v:Wv} (h:WvAt w SB DB n v):WvAt w.drew SB DB n v:=⟨⟨h.at_.d,h.at_.s,h.at_.o,h.at_.far,h.at_.g⟩,h.fS,h.fD⟩
theorem three_allocs (w:Zw) (a b c:Obj):(((w.alloc a).alloc b).alloc c).drew.heap[w.heap.size]?=some a∧(((w.alloc a).alloc b).alloc c).drew.heap[w.heap.size+1]?=some b∧(((w.alloc a).alloc b).alloc c).drew.heap[w.heap.size+1+1]?=some c:=by
 refine⟨?_,?_,?_⟩
 ·exact(Below.heap_alloc _ _ _ (by simp;omega)).trans ((Below.heap_alloc _ _ _ (by simp)).trans (Zh w a))
 ·have:=Zh (w.alloc a) b
  exact(Below.heap_alloc _ _ _ (by simp)).trans (by simpa using this)
 ·have:=Zh ((w.alloc a).alloc b) c
  show((((w.alloc a).alloc b).alloc c)).heap[w.heap.size+1+1]?=some c
  simpa using this
theorem made_wave {w wx:Zw} {W SB DB n:Nat} {Pi Er G Fi:Int} {PA:Option Addr} {PL PC:Nat} {Kind At From To:Int} {CA:Option Addr} {CL CC:Nat} {VA:Option Addr} {VL VC:Nat} {round slot dir:Int} {TB UB:Nat}
 (hW:wx.heap[W]?=some (.cells #[Z Y n,Z Y Pi,Z Y Er,Z Y G,Z Y Fi,.slice PA PL PC,Z Y Kind,Z Y At,Z Y From,Z Y To,.slice CA CL CC,.slice VA VL VC,Z Y round,Z Y slot,Z Y dir,.slice (some ⟨TB,0,none⟩) n n,.slice (some ⟨UB,0,none⟩) n n,.slice (some ⟨SB,0,none⟩) n n,.slice (some ⟨DB,0,none⟩) n n] 175 (0,0)))
 (hS:wx.heap[SB]?=some (.cells (madeCells #[.string ⟨#[]⟩,.string ⟨#[]⟩,.string ⟨#[]⟩,Z Y 0] (n*4)) 129 (0,0))) (hD:wx.heap[DB]?=some (.cells (madeCells #[.bool false] n) 4 (0,0)))
 (h1:SB≠DB) (h2:W≠SB) (h3:W≠DB) (h4:w.heap.size≤W) (h5:w.heap.size≤SB) (h6:w.heap.size≤DB) (hB:Zb w.heap.size w wx) :
 MadeWave w n Pi Er G Fi PA PL PC Kind At From To CA CL CC VA VL VC round slot dir TB UB (.pointer (some ⟨W,0,none⟩)) wx:=by
 have c:=fun o=>Lib.cell_of_heap hW o
 exact⟨W,SB,DB,rfl,⟨c 0,c 1,c 2,c 3,c 4,c 5,c 6,c 7,c 8,c 9,c 10,c 11,c 12,c 13,c 14,c 15,c 16,c 17,c 18,heap_lt hW,heap_lt hS,heap_lt hD⟩,zero_at hS (by rw [Nat.mul_one];exact hD),h1,h2,h3,h4,h5,h6,hB⟩
theorem spread_Run (FW:Zw→Prop) (n:Nat) (Pi Er G Fi:Int) (PA:Option Addr) (ps:List Int) (PC:Nat) (Kind At From To:Int) (CA:Option Addr) (CL CC:Nat) (VA:Option Addr) (VL VC:Nat) (round slot dir:Int) (TB UB:Nat) (E:Int→Int→ByteArray→ByteArray) (SA:Option Addr) (SC:Nat) (sends:List ByteArray) (st dv:Nat→Int) (w:Zw)
 (hc:CfOk n Pi Er G Fi ps) (hl:Ints w PA ps) (hE:EmitIs FW n Pi Er G Fi PA ps.length PC Kind At From To CA CL CC VA VL VC round slot E) (hFW:FW w) (h0:0≤slot) (h1:slot < n+ps.length)
 (hdir:dir=1∨dir = -1) (ho:(∃ x,owners n ps slot=[x]∧0≤x∧x < n)∨∃ x y,owners n ps slot=[x,y]∧0≤x∧x < n∧0≤y∧y < n) (hlen:sends.length=(owners n ps slot).length) (hS:Strs w SA sends) (hstr:∀ k,Strm (sends.getD k ⟨#[]⟩))
 (hT:∀ i,i < n→w.cell? ⟨TB,i,none⟩=some (Z Y (st i))) (hU:∀ i,i < n→w.cell? ⟨UB,i,none⟩=some (Z Y (dv i))) (hTl:TB < w.heap.size) (hUl:UB < w.heap.size) :
 Zc Zp 66 #[.agg #[Z Y n,Z Y Pi,Z Y Er,Z Y G,Z Y Fi,.slice PA ps.length PC],.agg #[Z Y Kind,Z Y At,Z Y From,Z Y To,.slice CA CL CC,.slice VA VL VC],Z Y round,Z Y slot,Z Y dir,.slice SA (owners n ps slot).length SC,.slice (some ⟨TB,0,none⟩) n n,.slice (some ⟨UB,0,none⟩) n n] w (RunPost n (runF E n Pi slot dir st dv (owners n ps slot) sends) w):=by
 have hn6:6≤n:=by have:=hc.n0;omega
 have hn7:n≤7:=by have:=hc.n1;omega
 have HOwn:=O (fun w' (h:Ints w' PA ps)=>Owners n Pi Er G Fi PA ps PC slot w' hc h h0 h1)
 have HCheck:=O (fun w' (h:Ints w' PA ps)=>conf_Check n Pi Er G Fi PA ps PC w' hc h)
 have HL:=O hl
 have HC:=O hc
 have m1:=mk81 n (by omega)
 have m2:=mk173 n (by omega)
 have M1:=O m1
 have M2:=O m2
 have HO:=O ho
 have HT:=O hT
 have HU:=O hU
 have HST:=O hS
 have HSTR:=O hstr
 have HE:=O hE
 have HFW:=O hFW
 have HLEN:=O hlen
 clear m1 m2 ho hT hU hS hstr hE hFW hlen hl hc
 generalize how:owners (n:Int) ps slot=ow at *
 have HOW:=O how
 clear how
 go_enter Tryz.func66,Tryz.ntmps66
 go_wp2_with fail
 refine(HOwn.out _ (by repeat(first | exact HL.out | refine Ints.drewN ?_ _ | refine Ints.drew ?_ | refine Ints.alloc ?_ _))).mono ?_
 rintro e w1 ⟨OA,OC,rfl,hOI,_,_,hb1⟩
 obtain⟨hc1,hf1⟩:=bcell hb1
 have hz1:w.heap.size+1 < w1.heap.size:=by have:=hb1.size;simp at this;omega
 have hB1:Zb w.heap.size w w1:=(((Zf _ _).alloc (Zr _) _).alloc (by simp) _).trans (hb1.mono (by simp;omega))
 have HI1:=O (HL.out.below hB1)
 have HOI:=O hOI
 clear hOI
 go_wp2_with fail
 refine(HCheck.out _ HI1.out).mono ?_
 rintro e w2 ⟨rfl,hb2⟩
 have bx:w2.heap[w.heap.size]?=some (.cells #[Z Y n,Z Y Pi,Z Y Er,Z Y G,Z Y Fi,.slice PA ps.length PC] 24 (0,0)):=(hb2.block _ (by omega)).trans ((hb1.block _ (by simp;omega)).trans ((Below.heap_alloc _ _ _ (by simp)).trans (Zh w _)))
 have bf:w2.heap[w.heap.size+1]?=some (.cells #[Z Y Kind,Z Y At,Z Y From,Z Y To,.slice CA CL CC,.slice VA VL VC] 27 (0,0)):=(hb2.block _ (by omega)).trans ((hb1.block _ (by simp)).trans (by have:=Zh (w.alloc (.cells #[Z Y n,Z Y Pi,Z Y Er,Z Y G,Z Y Fi,.slice PA ps.length PC] 24)) (.cells #[Z Y Kind,Z Y At,Z Y From,Z Y To,.slice CA CL CC,.slice VA VL VC] 27);simpa using this))
 have x0:w2.cell? ⟨w.heap.size,0,none⟩=some (Z Y n):=by simp [World.cell?,bx]
 have x1:w2.cell? ⟨w.heap.size,1,none⟩=some (Z Y Pi):=by simp [World.cell?,bx]
 have x2:w2.cell? ⟨w.heap.size,2,none⟩=some (Z Y Er):=by simp [World.cell?,bx]
 have x3:w2.cell? ⟨w.heap.size,3,none⟩=some (Z Y G):=by simp [World.cell?,bx]
 have x4:w2.cell? ⟨w.heap.size,4,none⟩=some (Z Y Fi):=by simp [World.cell?,bx]
 have x5:w2.cell? ⟨w.heap.size,5,none⟩=some (.slice PA ps.length PC):=by simp [World.cell?,bx]
 have y0:w2.cell? ⟨w.heap.size+1,0,none⟩=some (Z Y Kind):=by simp [World.cell?,bf]
 have y1:w2.cell? ⟨w.heap.size+1,1,none⟩=some (Z Y At):=by simp [World.cell?,bf]
 have y2:w2.cell? ⟨w.heap.size+1,2,none⟩=some (Z Y From):=by simp [World.cell?,bf]
 have y3:w2.cell? ⟨w.heap.size+1,3,none⟩=some (Z Y To):=by simp [World.cell?,bf]
 have y4:w2.cell? ⟨w.heap.size+1,4,none⟩=some (.slice CA CL CC):=by simp [World.cell?,bf]
 have y5:w2.cell? ⟨w.heap.size+1,5,none⟩=some (.slice VA VL VC):=by simp [World.cell?,bf]
 clear hc1 hf1
 have hz2:w.heap.size+1 < w2.heap.size:=by have:=hb2.size;omega
 have hB2:Zb w.heap.size w w2:=hB1.trans (hb2.mono hB1.size)
 have HOI2:=O (HOI.out.below hb2)
 have HOIn:=O (HOI.out.below hb2)
 have HI2:=O (HI1.out.below hb2)
 clear HOI HI1 HCheck HOwn hb1 bx bf
 go_upto_region 4 with fail
 go_cut [18] (MadeWave w2 n Pi Er G Fi PA ps.length PC Kind At From To CA CL CC VA VL VC round slot dir TB UB)
 case first =>
  have m1:=M1.out
  have m2:=M2.out
  go_region_held3 (fun w'=>w'.cell? ⟨w.heap.size,0,none⟩=some (Z Y n)∧w'.cell? ⟨w.heap.size,1,none⟩=some (Z Y Pi)∧w'.cell? ⟨w.heap.size,2,none⟩=some (Z Y Er)∧w'.cell? ⟨w.heap.size,3,none⟩=some (Z Y G)∧w'.cell? ⟨w.heap.size,4,none⟩=some (Z Y Fi)∧w'.cell? ⟨w.heap.size,5,none⟩=some (.slice PA ps.length PC)∧w'.cell? ⟨w.heap.size+1,0,none⟩=some (Z Y Kind)∧w'.cell? ⟨w.heap.size+1,1,none⟩=some (Z Y At)∧w'.cell? ⟨w.heap.size+1,2,none⟩=some (Z Y From)∧w'.cell? ⟨w.heap.size+1,3,none⟩=some (Z Y To)∧w'.cell? ⟨w.heap.size+1,4,none⟩=some (.slice CA CL CC)∧w'.cell? ⟨w.heap.size+1,5,none⟩=some (.slice VA VL VC)) (exact⟨keep_of x0 (by omega) bB,keep_of x1 (by omega) bB,keep_of x2 (by omega) bB,keep_of x3 (by omega) bB,keep_of x4 (by omega) bB,keep_of x5 (by omega) bB,keep_of y0 (by omega) bB,keep_of y1 (by omega) bB,keep_of y2 (by omega) bB,keep_of y3 (by omega) bB,keep_of y4 (by omega) bB,keep_of y5 (by omega) bB⟩) (fail)
  ·go_wp2_with fail
   go_meet
   have h3:=three_allocs w2 (.cells (madeCells #[.string ⟨#[]⟩,.string ⟨#[]⟩,.string ⟨#[]⟩,Z Y 0] (n*4)) 129) (.cells (madeCells #[.bool false] n) 4)
   exact made_wave (h3 _).2.2 (h3 _).1 (h3 _).2.1 (by omega) (by omega) (by omega) (by omega) (by omega) (by omega) bB
  ·go_wp2_with fail
   go_meet
   have h3:=three_allocs w2 (.cells (madeCells #[.bool false] n) 4) (.cells (madeCells #[.string ⟨#[]⟩,.string ⟨#[]⟩,.string ⟨#[]⟩,Z Y 0] (n*4)) 129)
   exact made_wave (h3 _).2.2 (h3 _).2.1 (h3 _).1 (by omega) (by omega) (by omega) (by omega) (by omega) (by omega) bB
 case rest =>
  obtain⟨W,SB,DB,rfl,hW,hv,hSD,hWS,hWD,gW,gS,gD,hBc⟩:=hcut
  have hIc:=HOI2.out.below hBc
  have hSl:=Nat.lt_of_lt_of_le (Nat.lt_of_lt_of_le (show w.heap.size < w2.heap.size by omega) (Zr _)) hBc.size
  have xN:=keep_of x0 (by omega) hBc
  have hBw:=hB2.trans (hBc.mono (by omega))
  have hzc:=hBc.size
  clear M1 M2 x0 x1 x2 x3 x4 x5 y0 y1 y2 y3 y4 y5 HOI2 HI2 hB1 hB2
  clear hIc
  go_wp2_with fail
  go_loopw [72] (fun t wr=>∃ k:Nat,k≤ow.length∧t=Z Y k∧WvAt wr SB DB n (ownK ow sends k)∧But (fun q=>q=SB∨q=DB) wc wr) (fun t _=>ow.length-(intOf t).toNat)
  case atStart=>exact⟨0,by omega,rfl,hv,But.refl _ _⟩
  case round =>
   obtain⟨k,hk,rfl,hvr,hbr⟩:=hrel
   have hB2r:Zb w2.heap.size w2 wr:=hBc.trans (hbr.to_below hzc (by rintro q (rfl | rfl) <;> assumption))
   have hBwr:Zb w.heap.size w wr:=hBw.trans (hbr.to_below (by omega) (by rintro q (rfl | rfl) <;> omega))
   by_cases hlt:k < ow.length
   ·obtain⟨ob,oo,rfl,hob,hoc⟩:=HOIn.out k hlt
    obtain⟨sb,so,rfl,hsb,hsc⟩:=HST.out k (by rw [HLEN.out];exact hlt)
    have hx:0≤ow.getD k 0∧ow.getD k 0 < n:=by
     rcases HO.out with⟨x,e,h0,h1⟩ | ⟨x,y,e,h0,h1,h2,h3⟩
     ·rw [e]at hlt ⊢
      have:k=0:=by simpa using hlt
      subst this;exact⟨h0,h1⟩
     ·rw [e]at hlt ⊢
      have:k=0∨k=1:=by simp at hlt;omega
      rcases this with rfl | rfl
      ·exact⟨h0,h1⟩
      ·exact⟨h2,h3⟩
    have co:=keep_of hoc hob hB2r
    have cs:=keep_of hsc hsb hBwr
    have hK:ownK ow sends (k+1)=(ownK ow sends k).own (ow.getD k 0).toNat (sends.getD k ⟨#[]⟩):=rfl
    have HK:=O hK
    clear hK
    generalize hgo:ow.getD k 0=x at *
    generalize hgs:sends.getD k ⟨#[]⟩=sx at *
    obtain⟨i,rfl⟩:∃ i:Nat,x=i:=⟨x.toNat,by omega⟩
    have hi:i < n:=by omega
    have hi0:(0:Int)≤(i:Int):=by omega
    have hi1:(i:Int) < (n:Int):=by omega
    have hWr:=waveAt_but _ _ _ _ _ _ _ _ _ _ _ _ _ _ _ _ _ _ hW hbr (by rintro (h | h) <;> omega)
    have c17:=hWr.c17
    have c18:=hWr.c18
    have k2:=hvr.at_.o i hi
    have k4:=hvr.at_.g i hi
    have fS:=hvr.fS
    have fD:=hvr.fD
    have hDS:DB≠SB:=fun e=>hSD e.symm
    have hSW:SB≠W:=fun e=>hWS e.symm
    have hDW:DB≠W:=fun e=>hWD e.symm
    have s1:SB≠sb:=by omega
    have s2:DB≠sb:=by omega
    have HV:=O hvr
    have HB:=O hbr
    have HWr:=O hW
    have lkn:(0:Int)≤(k:Int):=by omega
    have lkm:(k:Int) < (ow.length:Int):=by omega
    clear hvr hbr hW hWr hgo hgs hoc hsc
    go_wp2_with fail
    go_region_held3 (fun w'=>w'.cell? ⟨W,17,none⟩=some (.slice (some ⟨SB,0,none⟩) n n)∧w'.cell? ⟨W,18,none⟩=some (.slice (some ⟨DB,0,none⟩) n n)∧w'.cell? ⟨sb,so+k,none⟩=some (.string sx)) (go_keep) (fail)
    go_wp2
    go_roundw
    case rel=>exact⟨k+1,by omega,by go_num,by rw [HK.out];exact wv_drew (own_wv HV.out hi hSD rfl),((HB.out.setCell (.inl (.inl rfl)) _).setCell (.inl (.inr rfl)) _).drew⟩
    case measure=>simp [intOf];omega
   ·have hkl:k=ow.length:=by omega
    subst hkl
    have hWr:=waveAt_but _ _ _ _ _ _ _ _ _ _ _ _ _ _ _ _ _ _ hW hbr (by rintro (h | h) <;> omega)
    have xNr:=(hbr.cell (p:=⟨w.heap.size,0,none⟩) hSl (by rintro (h | h) <;> simp at h <;> omega)).trans xN
    have HWay:=O (ring_Way n dir OA ow OC wr (by omega) (by omega) (HOIn.out.below hB2r) HO.out hdir)
    have HWm:=O (fun x (h:x ∈ wayF n dir ow)=>wayF_mem (by omega) h)
    have HWl:=O (wayF_len n dir ow)
    have HR:Hid (runF E n Pi slot dir st dv ow sends=wayK E n Pi slot dir st dv (ownK ow sends ow.length) (wayF n dir ow) (wayF n dir ow).length):=rfl
    generalize hgw:wayF n dir ow=way at *
    have HGW:=O hgw
    generalize hgv:ownK ow sends ow.length=v0 at *
    have HGV:=O hgv
    clear hgw hgv hW hv hbr xN
    go_wp2_with fail
    refine HWay.out.mono ?_
    rintro e w3 ⟨u3,rfl,hown3,hb3⟩
    obtain⟨A3,C3,rfl,hI3,hlC3,hbase3⟩:=ints_of_own2 hown3
    have hW3:=waveAt_below _ _ _ _ _ _ _ _ _ _ _ _ _ _ _ _ _ _ hWr hb3
    have hv3:=WvAt.below hvr hb3 hWr.sl hWr.dl
    have hBw3:Zb w.heap.size w w3:=hBwr.trans (hb3.mono hBwr.size)
    have lS:=hWr.sl
    have lD:=hWr.dl
    have hA3:∀ b off,A3=some ⟨b,off,none⟩→¬(b=SB∨b=DB):=fun b off e=>by have:=hbase3 b off e;rintro (h | h) <;> omega
    have HA3:=O hA3
    have HI3:=O hI3
    have HW3:=O hW3
    have hE0:=HE.out.strm
    have hStr:=fun k hk i hi=>wayK_strm (Pi:=Pi) (slot:=slot) (dir:=dir) (st:=st) (dv:=dv) (v:=v0) (l:=way) hE0 hn6 HWm.out (fun i hi=>by rw [← HGV.out];exact ownK_strm HSTR.out _ _) k hk i hi
    have HStr:=O hStr
    have hg3:∀ q,(q=SB∨q=DB)→w.heap.size≤q:=by rintro q (rfl | rfl) <;> omega
    have HG3:=O hg3
    have hl3:w.heap.size≤w3.heap.size:=hBw3.size
    clear hA3 hI3 hbase3 hWr hvr hb3 hown3 hW3 hE0 hStr hg3 HWay xNr
    go_wp2_with fail
    go_loopw [103] (fun t wq=>∃ k:Nat,k≤way.length∧t=Z Y k∧WvAt wq SB DB n (wayK E n Pi slot dir st dv v0 way k)∧But (fun q=>q=SB∨q=DB) w3 wq) (fun t _=>way.length-(intOf t).toNat)
    case atStart=>exact⟨0,by omega,rfl,hv3,But.refl _ _⟩
    case round =>
     obtain⟨k,hk,rfl,hvq,hbq⟩:=hrel
     have hBwr:Zb w.heap.size w wr:=hBw3.trans (hbq.to_below hl3 HG3.out)
     have hWq:=waveAt_but _ _ _ _ _ _ _ _ _ _ _ _ _ _ _ _ _ _ HW3.out hbq (by rintro (h | h) <;> omega)
     have hwl:=HWl.out
     by_cases hlt:k < way.length
     ·obtain⟨ab,ao,rfl,hab,hac⟩:=ints_but HI3.out hbq HA3.out k hlt
      have hx:=HWm.out (way.getD k 0) (getD_mem hlt)
      have hK:wayK E n Pi slot dir st dv v0 way (k+1)=(wayK E n Pi slot dir st dv v0 way k).reach E n Pi slot dir st dv (way.getD k 0).toNat ((k:Int)+1):=rfl
      have HK:=O hK
      clear hK
      generalize hgx:way.getD k 0=x at *
      obtain⟨m,rfl⟩:∃ m:Nat,x=m:=⟨x.toNat,by omega⟩
      have hm:m < n:=by omega
      have HReach:=O (reach FW n Pi Er G Fi PA ps.length PC Kind At From To CA CL CC VA VL VC round slot dir TB UB SB DB n W E (wayK E n Pi slot dir st dv v0 way k) st dv m ((k:Int)+1) wr HE.out (HE.out.stays w wr HFW.out hBwr) rfl (by omega) (by omega) (by have:=HC.out.p0;have:=HC.out.e0;have:=HC.out.g0;omega) (by have:=HC.out.p1;omega) hWq hvq hSD hWS hWD
       (keep_of (HT.out m hm) hTl hBwr) (keep_of (HU.out m hm) hUl hBwr) (Nat.lt_of_lt_of_le hTl hBwr.size) (Nat.lt_of_lt_of_le hUl hBwr.size) hdir hm (fun i hi=>HStr.out k hk i hi) (by omega) (by omega))
      have HB:=O hbq
      clear hvq hbq hWq hgx
      have lkn:(0:Int)≤(k:Int):=by omega
      have lkm:(k:Int) < (way.length:Int):=by omega
      go_wp2_with fail
      refine HReach.out.mono ?_
      rintro e w4 ⟨rfl,hb4,hv4⟩
      go_wp2
      go_roundw
      case rel=>exact⟨k+1,by omega,by go_num,by rw [HK.out];exact hv4,HB.out.trans hb4⟩
      case measure=>simp [intOf];omega
     ·have hkl:k=way.length:=by omega
      subst hkl
      have c17:=hWq.c17
      have HClone:=O (_root_.Go.Proofs.YtdbempiompiioaaGreat.CL.Clone107 SB 0 n n (sideCells (wayK E n Pi slot dir st dv v0 way way.length).f n) wr (sideCells_length _ _) (by omega) (sideCells_read hvq.at_) (sideCells_one _ _))
      clear hvq hbq hWq
      go_wp2_with fail
      refine HClone.out.mono ?_
      rintro e w5 ⟨u5,rfl,hown5,hne5,hb5⟩
      go_wp2
      go_ret
      exact⟨_,rfl,by rw [HR.out];exact own_mono hown5 hBwr.size,hne5,hBwr.trans (hb5.mono hBwr.size)⟩
end A19
namespace A20
open Go.RowKit A1 A18
def sg (b:Nat):UInt8:=if b=0 then 48 else 49
def bitAt (x size i:Nat):Nat:=x / 2 ^ (size-1-i)%2
def bitsL (x size:Nat):List UInt8:=(List.range size).map (fun i=>sg (bitAt x size i))
theorem bitsL_length (x size:Nat):(bitsL x size).length=size:=by simp [bitsL]
theorem sg_toNat (b:Nat) (h:b < 2):(sg b).toNat=48+b:=by
 have:b=0∨b=1:=by omega
 rcases this with rfl | rfl <;> rfl
theorem bitAt_lt (x size i:Nat):bitAt x size i < 2:=Nat.mod_lt _ (by decide)
theorem and_one (x:Int) (h0:0≤x) (h1:x < 9223372036854775808):bits BinOp.and IntKind.i64 x 1=x%2:=by
 have h:=bits_mask .i64 63 (by decide) (fun n h0 h1=>by rw [two63]at h1;rw [IntKind.wrap_i64];omega) 1 (by decide) x h0 (by rw [two63];omega)
 have e:((2:Int) ^ 1-1)=1:=by decide
 have e2:((2:Int) ^ 1)=2:=by decide
 rw [e,e2]at h
 exact h
theorem info5':(Tryz.prog.info? 5).map (fun i=>(i.zero,i.size,i.bytes))=some (some (.int .u8 0),1,1):=by kernel_rfl
theorem mk161 (n:Nat) (hn:n≤100) (w:Zw):(Instr.makeSlice 161 (Z Y (n:Int)) (Z Y (n:Int))).run Zp w=.ok (.slice (some ⟨w.heap.size,0,none⟩) n n) (w.alloc (.cells (madeCells #[.int .u8 0] (n*1)) 5)):=by
 obtain⟨i,hi,hz,hs,hb⟩:=info_parts info5'
 have:=run_make_n (P:=Zp) 161 5 i _ Tryz.underlying161 hi hz n hn (by omega) w
 rw [hs]at this
 exact this
theorem shr_nat (x k:Nat):(x:Int) / 2 ^ k=((x / 2 ^ k:Nat):Int):=by
 rw [Int.natCast_ediv]
 simp
theorem sym_Bits (x size:Nat) (w:Zw) (hx:x≤100000) (h1:1≤size) (h2:size≤62) :
 Zc Zp 100 #[Z Y x,Z Y size] w fun e w'=>e=.returned (.string ⟨(bitsL x size).toArray⟩)∧Zb w.heap.size w w':=by
 have d1:decide ((size:Int) < 1)=false:=by simp;omega
 have d2:decide ((size:Int) > 62)=false:=by simp;omega
 have m1:=mk161 size (by omega)
 go_enter Tryz.func100,Tryz.ntmps100
 go_wp2
 have hz0:(w.alloc (.cells (madeCells #[.int .u8 0] size) 5)).heap[w.heap.size]?=some (.cells (madeCells #[.int .u8 0] size) 5 (0,0)):=Zh w _
 have hc0:∀ j,j < size→∃ v,(w.alloc (.cells (madeCells #[.int .u8 0] size) 5)).cell? ⟨w.heap.size,j,none⟩=some v:=fun j hj=>⟨_,(Lib.cell_of_heap hz0 j).trans (made_at _ _ _ hj)⟩
 have hf0:∀ j,(w.alloc (.cells (madeCells #[.int .u8 0] size) 5)).frozen? ⟨w.heap.size,j,none⟩=false:=fun j=>Lib.frozen_of_heap hz0 j
 have HC0:=O hc0
 have HF0:=O hf0
 clear m1 hz0 hc0 hf0
 go_loopw [17] (fun t wr=>∃ k:Nat,k≤size∧t=Z Y k∧Hid ((∀ j,j < size→∃ v,wr.cell? ⟨w.heap.size,j,none⟩=some v)∧(∀ j,wr.frozen? ⟨w.heap.size,j,none⟩=false)∧∀ j,j < k→wr.cell? ⟨w.heap.size,j,none⟩=some (.int .u8 (sg (bitAt x size j)).toNat))∧w.heap.size < wr.heap.size∧Zb w.heap.size w wr) (fun t _=>size-(intOf t).toNat)
 case atStart=>exact⟨0,by omega,rfl,⟨HC0.out,HF0.out,fun j hj=>absurd hj (by omega)⟩,by simp,(Zf _ _).alloc (Zr _) _⟩
 case round =>
  obtain⟨k,hk,rfl,HH,hlt,hbr⟩:=hrel
  clear HC0 HF0
  by_cases hks:k < size
  ·obtain⟨v,hv⟩:=HH.out.1 k hks
   have hf:=HH.out.2.1 k
   have hval:wrap64 (48+bits BinOp.and IntKind.i64 ((x:Int) / 2 ^ (size-1-k)) 1)%256=(((sg (bitAt x size k)).toNat:Nat):Int):=by
    have hle:x / 2 ^ (size-1-k)≤x:=Nat.div_le_self _ _
    rw [shr_nat,sg_toNat _ (bitAt_lt _ _ _)]
    unfold bitAt
    generalize x / 2 ^ (size-1-k)=q at *
    rw [and_one (q:Int) (by omega) (by omega)]
    rw [show wrap64 (48+(q:Int)%2)=48+(q:Int)%2 by unfold wrap64;omega]
    omega
   have HV:=O hval
   clear hval
   go_wp2
   rw [HV.out]
   go_roundw
   case rel =>
    refine⟨k+1,by omega,by go_num,⟨fun j hj=>?_,fun j=>?_,fun j hj=>?_⟩,by simp [World.setCell];exact hlt,hbr.setCell (p:=⟨w.heap.size,k,none⟩) (Zr _) _⟩
    ·obtain⟨u,hu⟩:=HH.out.1 j hj
     exact cell?_setCell_some hu
    ·rw [World.frozen?_setCell];exact HH.out.2.1 j
    ·by_cases e:j=k
     ·subst e;exact World.cell?_setCell_same _ _ _ hv
     ·rw [Zo _ _ _ _ (fun h=>e (by injection h with _ h2;exact h2.symm))]
      exact HH.out.2.2 j (by omega)
   case measure=>simp [intOf];omega
  ·obtain rfl:k=size:=by omega
   have hcv:∀ W':Zw,W'=wr→(convert 161 9 (.slice (some ⟨w.heap.size,0,none⟩) k k)).run Zp W'=.ok (.string ⟨(bitsL x k).toArray⟩) W':=by
    rintro W' rfl
    have:=run_convert_bytes_back (P:=Zp) W' 161 9 5 ⟨w.heap.size,0,none⟩ k (bitsL x k) Tryz.underlying161 Tryz.underlying5 Tryz.underlying9 (fun j hj=>by
     have hj':j < k:=by simpa [bitsL_length]using hj
     have e:(bitsL x k)[j]=sg (bitAt x k j):=by simp [bitsL]
     rw [e]
     have:=HH.out.2.2 j hj'
     rw [← this]
     congr 1
     unfold Addr.add
     split
     ·simp_all
     ·simp)
    rw [bitsL_length]at this
    exact this
   have hcv:=hcv wr rfl
   go_wp2
   go_ret
   exact⟨rfl,hbr⟩
end A20
namespace A21
open Go.RowKit A1 A20
theorem ofInt_i64 (a:Nat) (ha:a < 9223372036854775808):(BitVec.ofInt 64 (a:Int)).toNat=a:=by
 rw [BitVec.ofInt_natCast,BitVec.toNat_ofNat];exact Nat.mod_eq_of_lt (by omega)
theorem i64_xor_nat (a b:Nat) (ha:a < 9223372036854775808) (hb:b < 9223372036854775808):bits .xor .i64 (a:Int) (b:Int)=((a ^^^ b:Nat):Int):=by
 have hx:a ^^^ b < 2 ^ 63:=Nat.xor_lt_two_pow (by omega) (by omega)
 show IntKind.i64.wrap ((BitVec.ofInt 64 (a:Int) ^^^ BitVec.ofInt 64 (b:Int)).toNat:Int)=_
 rw [BitVec.toNat_xor,ofInt_i64 a ha,ofInt_i64 b hb,IntKind.wrap_i64]
 omega
def crcStep (n:Nat) (c:UInt8):Nat:=if n / 32768=c.toNat-48 then 2*n%65536 else(2*n%65536) ^^^ 4129
def sumL (l:List UInt8):Nat:=l.foldl crcStep 65535
theorem crcStep_lt (n:Nat) (c:UInt8):crcStep n c < 65536:=by
 unfold crcStep
 split
 ·omega
 ·exact Nat.xor_lt_two_pow (n:=16) (by omega) (by omega)
theorem sumL_snoc (l:List UInt8) (c:UInt8):sumL (l ++ [c])=crcStep (sumL l) c:=by simp [sumL]
theorem sumL_lt (l:List UInt8):sumL l < 65536:=by
 rcases List.eq_nil_or_concat l with rfl | ⟨r,c,rfl⟩
 ·decide
 ·rw [List.concat_eq_append,sumL_snoc];exact crcStep_lt _ _
def BitsOnly (s:ByteArray):Prop:=s.size≤4000∧∀ i (h:i < s.size),(s[i]'h).toNat=48∨(s[i]'h).toNat=49
theorem take_snoc (s:ByteArray) (k:Nat) (h:k < s.size):s.data.toList.take (k+1)=s.data.toList.take k ++ [s[k]]:=by
 rw [List.take_succ_eq_append_getElem (by simpa using h)];rfl
theorem ands:bits BinOp.and IntKind.i64 0 1=0∧bits BinOp.and IntKind.i64 1 1=1:=by decide
theorem crc_Sum (s:ByteArray) (w:Zw) (hs:BitsOnly s) :
 Zc Zp 143 #[.string s] w fun e w'=>e=.returned (Z Y (sumL s.data.toList:Nat))∧Zb w.heap.size w w':=by
 obtain⟨h4,hb⟩:=hs
 have HB:=O hb
 obtain⟨a0,a1⟩:=ands
 clear hb
 go_enter Tryz.func143,Tryz.ntmps143
 go_wp2
 go_loopw [3] (fun t wr=>∃ pos:Nat,pos≤s.size∧wr=w.iter s pos∧t=Z Y (sumL (s.data.toList.take pos):Nat)) (fun _ wr=>s.size-wr.iterPos w.heap.size)
 case atStart=>exact⟨0,Nat.zero_le _,rfl,rfl⟩
 case round =>
  obtain⟨pos,hp,rfl,rfl⟩:=hrel
  by_cases hlt:pos < s.size
  ·have h3:=HB.out pos hlt
   have ha:(s[pos]'hlt).toNat < 128:=by omega
   have hnx:=fun ty=>run_next_ascii (P:=Zp) w s pos ty hlt ha
   have hsn:sumL (s.data.toList.take (pos+1))=crcStep (sumL (s.data.toList.take pos)) s[pos]:=by rw [take_snoc s pos hlt,sumL_snoc]
   have hl:=sumL_lt (s.data.toList.take pos)
   have HSN:=O hsn
   clear hsn
   generalize hn:sumL (s.data.toList.take pos)=n at *
   have hand:bits BinOp.and IntKind.i64 ((n:Int)*2) 65535=((2*n%65536:Nat):Int):=by rw [and_wires _ (by omega) (by omega)];omega
   have hxor:bits BinOp.xor IntKind.i64 ((2*n%65536:Nat):Int) 4129=(((2*n%65536) ^^^ 4129:Nat):Int):=i64_xor_nat _ 4129 (by omega) (by decide)
   have HX:=O hxor
   have HA:=O hand
   clear hand hxor hn
   rcases h3 with h | h
   ·have H:=O h
    rw [h]at hnx
    clear h
    by_cases hq:n < 32768
    ·have HD:=O (show(n:Int) / 32768=0 by omega)
     have hd:=HD.out
     go_wp2
     rw [HA.out]
     go_roundw
     case rel=>exact⟨pos+1,by omega,rfl,by rw [HSN.out];unfold crcStep;rw [if_pos (show n / 32768=(s[pos]'hlt).toNat-48 by rw [H.out];omega)]⟩
     case measure=>simp;omega
    ·have HD:=O (show(n:Int) / 32768=1 by omega)
     have hd:=HD.out
     go_wp2
     rw [HA.out,HX.out]
     go_roundw
     case rel=>exact⟨pos+1,by omega,rfl,by rw [HSN.out];unfold crcStep;rw [if_neg (show ¬ n / 32768=(s[pos]'hlt).toNat-48 by rw [H.out];omega)]⟩
     case measure=>simp;omega
   ·have H:=O h
    rw [h]at hnx
    clear h
    by_cases hq:n < 32768
    ·have HD:=O (show(n:Int) / 32768=0 by omega)
     have hd:=HD.out
     go_wp2
     rw [HA.out,HX.out]
     go_roundw
     case rel=>exact⟨pos+1,by omega,rfl,by rw [HSN.out];unfold crcStep;rw [if_neg (show ¬ n / 32768=(s[pos]'hlt).toNat-48 by rw [H.out];omega)]⟩
     case measure=>simp;omega
    ·have HD:=O (show(n:Int) / 32768=1 by omega)
     have hd:=HD.out
     go_wp2
     rw [HA.out]
     go_roundw
     case rel=>exact⟨pos+1,by omega,rfl,by rw [HSN.out];unfold crcStep;rw [if_pos (show n / 32768=(s[pos]'hlt).toNat-48 by rw [H.out];omega)]⟩
     case measure=>simp;omega
  ·have hnx:=fun ty=>run_next_end (P:=Zp) w s pos ty hlt
   have hp':s.data.toList.take pos=s.data.toList:=by
    refine List.take_of_length_le ?_
    have:s.data.toList.length=s.size:=by simp
    omega
   rw [hp']
   clear hp'
   go_wp2
   go_ret
   exact⟨rfl,(Zf _ _).alloc (Zr _) _⟩
def wrapL (l:List UInt8):List UInt8:=l ++ bitsL (sumL l) 16 ++ [35]
theorem crc_Wrap (l:List UInt8) (w:Zw) (hs:BitsOnly ⟨l.toArray⟩) :
 Zc Zp 102 #[.string ⟨l.toArray⟩] w fun e w'=>e=.returned (.string ⟨(wrapL l).toArray⟩)∧Zb w.heap.size w w':=by
 have hlt:=sumL_lt l
 have HS:=O (fun w=>crc_Sum ⟨l.toArray⟩ w hs)
 have HB:=O (fun w=>sym_Bits (sumL l) 16 w (by omega) (by decide) (by decide))
 have hsz:(⟨l.toArray⟩:ByteArray).size=l.length:=rfl
 have h4:=hs.1
 rw [hsz]at h4
 have HW:Hid (wrapL l=l ++ bitsL (sumL l) 16 ++ [35]):=rfl
 clear hs hsz
 go_enter Tryz.func102,Tryz.ntmps102
 go_wp2_with fail
 refine(HS.out _).mono ?_
 rintro e w1 ⟨rfl,hb1⟩
 go_wp2_with fail
 refine(HB.out _).mono ?_
 rintro e w2 ⟨rfl,hb2⟩
 have hbl:=bitsL_length (sumL l) 16
 go_wp2
 go_ret
 refine⟨?_,hb1.trans (hb2.mono hb1.size)⟩
 rw [HW.out]
 first | rfl | (simp;done)
end A21
namespace A22
open Go.RowKit A11 A12 A18 A20 A21
structure Fr where
 kind:Nat
 round:Nat
 slot:Nat
 pk:Nat
 pv:Nat
 echo:List (Nat×Nat)
def itemL (i:Nat×Nat):List UInt8:=bitsL i.1 2 ++ bitsL i.2 8
def headL (f:Fr):List UInt8:=bitsL f.kind 2 ++ bitsL f.round 16 ++ bitsL f.slot 6 ++ itemL (f.pk,f.pv)
def echoL:List (Nat×Nat)→List UInt8
 | []=>[]
 | i :: r=>itemL i ++ echoL r
def bodyL (f:Fr):List UInt8:=headL f ++ echoL f.echo
def textB (f:Fr):ByteArray:=⟨(wrapL (bodyL f)).toArray⟩
theorem echoL_append (a b:List (Nat×Nat)):echoL (a ++ b)=echoL a ++ echoL b:=by
 induction a with
 | nil=>rfl
 | cons x r ih=>simp [echoL,ih]
theorem itemL_length (i:Nat×Nat):(itemL i).length=10:=by simp [itemL,bitsL_length]
theorem headL_length (f:Fr):(headL f).length=34:=by simp [headL,bitsL_length,itemL_length]
theorem echoL_length (l:List (Nat×Nat)):(echoL l).length=10*l.length:=by
 induction l with
 | nil=>rfl
 | cons x r ih=>simp [echoL,ih,itemL_length];omega
def AllBits (l:List UInt8):Prop:=∀ c ∈ l,c.toNat=48∨c.toNat=49
theorem bits_all (x size:Nat):AllBits (bitsL x size):=by
 intro c hc
 unfold bitsL at hc
 rw [List.mem_map]at hc
 obtain⟨i,_,rfl⟩:=hc
 have:=bitAt_lt x size i
 rw [sg_toNat _ this]
 omega
theorem AllBits.app {a b:List UInt8} (ha:AllBits a) (hb:AllBits b):AllBits (a ++ b):=fun c hc=>by
 rcases List.mem_append.1 hc with h | h
 ·exact ha c h
 ·exact hb c h
theorem item_all (i:Nat×Nat):AllBits (itemL i):=(bits_all _ _).app (bits_all _ _)
theorem echo_all (l:List (Nat×Nat)):AllBits (echoL l):=by
 induction l with
 | nil=>intro c hc;cases hc
 | cons x r ih=>exact(item_all x).app ih
theorem head_all (f:Fr):AllBits (headL f):=(((bits_all _ _).app (bits_all _ _)).app (bits_all _ _)).app (item_all _)
theorem body_all (f:Fr):AllBits (bodyL f):=(head_all f).app (echo_all _)
theorem bitsOnly_of {l:List UInt8} (h:AllBits l) (hl:l.length≤4000):BitsOnly ⟨l.toArray⟩:=by
 refine⟨hl,fun i hi=>?_⟩
 have he:(⟨l.toArray⟩:ByteArray)[i]'hi=l[i]'hi:=rfl
 rw [he]
 exact h _ (List.getElem_mem _)
theorem cat (a b:List UInt8):(⟨a.toArray⟩:ByteArray) ++ ⟨b.toArray⟩=⟨(a ++ b).toArray⟩:=by
 first | rfl | simp
theorem strCells_of (l:List UInt8):Lib.strCells ⟨l.toArray⟩=Lib.byteCells l:=rfl
theorem Bd_below {b:Nat} {bs:List Value} {w w':Zw} (h:Bd b bs w) (hb:Zb w.heap.size w w'):Bd b bs w':=by
 have key:∀ q,Lib.BuilderAtF 163 5 b b q bs w→Lib.BuilderAtF 163 5 b b q bs w':=fun q hh=>by
  have hlt:=hh.lt
  obtain⟨hB,v,hbk,hown,hne⟩:=hh
  refine⟨hB,v,(hb.block b hlt).trans hbk,?_,hne⟩
  refine hown.kept (row:=none) ⟨hb.os,hb.tape,hb.output,hb.size,fun k hk _=>hb.block k hk⟩ ?_
  rcases hv:v.ownBlock with _ | q
  ·exact .inl rfl
  ·exact .inr (by simp)
 exact h.elim (fun x =>.inl (key _ x)) (fun x =>.inr (key _ x))
theorem Bits2 (x:Nat) (w:Zw) (hx:x≤100000):Zc Zp 100 #[Z Y x,Z Y 2] w fun e w'=>e=.returned (.string ⟨(bitsL x 2).toArray⟩)∧Zb w.heap.size w w':=sym_Bits x 2 w hx (by decide) (by decide)
theorem Bits6 (x:Nat) (w:Zw) (hx:x≤100000):Zc Zp 100 #[Z Y x,Z Y 6] w fun e w'=>e=.returned (.string ⟨(bitsL x 6).toArray⟩)∧Zb w.heap.size w w':=sym_Bits x 6 w hx (by decide) (by decide)
theorem Bits8 (x:Nat) (w:Zw) (hx:x≤100000):Zc Zp 100 #[Z Y x,Z Y 8] w fun e w'=>e=.returned (.string ⟨(bitsL x 8).toArray⟩)∧Zb w.heap.size w w':=sym_Bits x 8 w hx (by decide) (by decide)
theorem Bits16 (x:Nat) (w:Zw) (hx:x≤100000):Zc Zp 100 #[Z Y x,Z Y 16] w fun e w'=>e=.returned (.string ⟨(bitsL x 16).toArray⟩)∧Zb w.heap.size w w':=sym_Bits x 16 w hx (by decide) (by decide)
theorem frame_item (k v:Nat) (w:Zw) (hk:k≤100000) (hv:v≤100000) :
 Zc Zp 101 #[.agg #[Z Y k,Z Y v]] w fun e w'=>e=.returned (.string ⟨(itemL (k,v)).toArray⟩)∧Zb w.heap.size w w':=by
 have H2:=O (fun w=>Bits2 k w hk)
 have H8:=O (fun w=>Bits8 v w hv)
 have hl2:=bitsL_length k 2
 have hl8:=bitsL_length v 8
 have HI:Hid (itemL (k,v)=bitsL k 2 ++ bitsL v 8):=rfl
 go_enter Tryz.func101,Tryz.ntmps101
 go_wp2
 refine wp_region_held_drew (S:=fun w'=>w'.cell? ⟨w.heap.size,0,none⟩=some (Z Y k)∧w'.cell? ⟨w.heap.size,1,none⟩=some (Z Y v)) (by kernel_rfl) (by go_keep) (fun hHeld=>?_)
 refine rgT 0 ?_
 refine rgT 1 ?_
 refine rgT 3 ?_
 refine rgT 4 ?_
 refine rgR 2 fun K hK=>?_
 go_simp
 refine(H2.out _).mono ?_
 rintro e w1 ⟨rfl,hb1⟩
 go_simp
 have g0:w1.cell? ⟨w.heap.size,0,none⟩=some (Z Y k):=(hb1.cell (p:=⟨w.heap.size,0,none⟩) (by simp)).trans hHeld.1
 have g1:w1.cell? ⟨w.heap.size,1,none⟩=some (Z Y v):=(hb1.cell (p:=⟨w.heap.size,1,none⟩) (by simp)).trans hHeld.2
 refine hK.out _ _ ⟨g0,g1⟩ (fun hHeld2=>?_)
 clear hK K
 refine rgR 5 fun K hK=>?_
 go_simp
 refine(H8.out _).mono ?_
 rintro e w2 ⟨rfl,hb2⟩
 go_simp
 have hz1:w.heap.size < w1.heap.size:=by have:=hb1.size;simp at this;omega
 refine hK.out _ _ ⟨(hb2.cell (p:=⟨w.heap.size,0,none⟩) hz1).trans g0,(hb2.cell (p:=⟨w.heap.size,1,none⟩) hz1).trans g1⟩ (fun hHeld3=>?_)
 clear hK K
 refine rgT 6 ?_
 refine rgT 7 ?_
 refine wpAnyH_done (by kernel_rfl) ?_ _
 go_wp2
 go_ret
 refine⟨by rw [HI.out,cat];rfl,Below.trans (Below.trans ((Zf _ _).alloc (Zr _) _) (show Zb w.heap.size _ w1 from⟨hb1.os,hb1.tape,hb1.output,by have:=hb1.size;simpa using this,fun q hq=>hb1.block q (by simp;omega)⟩)) (hb2.mono (by omega))⟩
def Items (w:Zw) (A:Option Addr) (l:List (Nat×Nat)):Prop:=∀ k,k < l.length→∃ b off,A=some ⟨b,off,none⟩∧b < w.heap.size∧w.cell? ⟨b,off+k*2,none⟩=some (Z Y (l.getD k (0,0)).1)∧w.cell? ⟨b,off+k*2+1,none⟩=some (Z Y (l.getD k (0,0)).2)
theorem Items.below {w w1:Zw} {A:Option Addr} {l:List (Nat×Nat)} (h:Items w A l) (hb:Zb w.heap.size w w1):Items w1 A l:=fun k hk=>by
 obtain⟨b,off,e,h1,h2,h3⟩:=h k hk
 exact⟨b,off,e,Nat.lt_of_lt_of_le h1 hb.size,(hb.cell (p:=⟨b,off+k*2,none⟩) h1).trans h2,(hb.cell (p:=⟨b,off+k*2+1,none⟩) h1).trans h3⟩
theorem echo_snoc {l:List (Nat×Nat)} {k:Nat} (h:k < l.length):echoL (l.take (k+1))=echoL (l.take k) ++ itemL (l.getD k (0,0)):=by
 rw [List.take_succ_eq_append_getElem h,echoL_append,List.getD_eq_getElem?_getD,List.getElem?_eq_getElem h]
 simp [echoL]
structure FrLow (f:Fr):Prop where
 kind:f.kind≤100000
 round:f.round≤100000
 slot:f.slot≤100000
 pk:f.pk≤100000
 pv:f.pv≤100000
 len:f.echo.length≤100
 each:∀ k,k < f.echo.length→(f.echo.getD k (0,0)).1≤100000∧(f.echo.getD k (0,0)).2≤100000
theorem frame_Text (Cf:Array Value) (f:Fr) (EA:Option Addr) (EC:Nat) (w:Zw) (hC:Cf.size=6) (hf:FrLow f) (hE:Items w EA f.echo) (N Pi Er G Fi:Int) (PA:Option Addr) (PL PC:Nat) (hCf:Cf=#[Z Y N,Z Y Pi,Z Y Er,Z Y G,Z Y Fi,.slice PA PL PC]) :
 Zc Zp 60 #[.agg #[Z Y N,Z Y Pi,Z Y Er,Z Y G,Z Y Fi,.slice PA PL PC],.agg #[Z Y f.kind,Z Y f.round,Z Y f.slot,Z Y f.pk,Z Y f.pv,.slice EA f.echo.length EC]] w fun e w'=>e=.returned (.string (textB f))∧Zb w.heap.size w w':=by
 clear hC hCf Cf
 have HK:=O (fun w=>Bits2 f.kind w hf.kind)
 have HR:=O (fun w=>Bits16 f.round w hf.round)
 have HS:=O (fun w=>Bits6 f.slot w hf.slot)
 have HP:=O (fun w=>frame_item f.pk f.pv w hf.pk hf.pv)
 have HE:=O hE
 have HF:=O hf
 have hk2:=bitsL_length f.kind 2
 have hr16:=bitsL_length f.round 16
 have hs6:=bitsL_length f.slot 6
 have hi10:=itemL_length (f.pk,f.pv)
 have hl34:=headL_length f
 have hlen:=hf.len
 have HHead:Hid (headL f=bitsL f.kind 2 ++ bitsL f.round 16 ++ bitsL f.slot 6 ++ itemL (f.pk,f.pv)):=rfl
 clear hE hf
 go_enter Tryz.func60,Tryz.ntmps60
 go_upto_region 2 with fail
 have hBd0:=Bd_new ((w.alloc (.cells #[Z Y N,Z Y Pi,Z Y Er,Z Y G,Z Y Fi,.slice PA PL PC] 24)).alloc (.cells #[Z Y f.kind,Z Y f.round,Z Y f.slot,Z Y f.pk,Z Y f.pv,.slice EA f.echo.length EC] 118))
 have HBd0:=O hBd0
 clear hBd0
 have kp:∀ W W':Zw,w.heap.size+1 < W.heap.size→Zb W.heap.size W W'→(W.cell? ⟨w.heap.size+1,0,none⟩=some (Z Y f.kind)∧W.cell? ⟨w.heap.size+1,1,none⟩=some (Z Y f.round)∧W.cell? ⟨w.heap.size+1,2,none⟩=some (Z Y f.slot)∧W.cell? ⟨w.heap.size+1,3,none⟩=some (Z Y f.pk)∧W.cell? ⟨w.heap.size+1,4,none⟩=some (Z Y f.pv)∧W.cell? ⟨w.heap.size+1,5,none⟩=some (.slice EA f.echo.length EC))→(W'.cell? ⟨w.heap.size+1,0,none⟩=some (Z Y f.kind)∧W'.cell? ⟨w.heap.size+1,1,none⟩=some (Z Y f.round)∧W'.cell? ⟨w.heap.size+1,2,none⟩=some (Z Y f.slot)∧W'.cell? ⟨w.heap.size+1,3,none⟩=some (Z Y f.pk)∧W'.cell? ⟨w.heap.size+1,4,none⟩=some (Z Y f.pv)∧W'.cell? ⟨w.heap.size+1,5,none⟩=some (.slice EA f.echo.length EC)):=fun W W' h hb hs=>⟨keep_of hs.1 h hb,keep_of hs.2.1 h hb,keep_of hs.2.2.1 h hb,keep_of hs.2.2.2.1 h hb,keep_of hs.2.2.2.2.1 h hb,keep_of hs.2.2.2.2.2 h hb⟩
 have KP:=O kp
 clear kp
 refine wp_region_held_drew (S:=fun w'=>(w'.cell? ⟨w.heap.size+1,0,none⟩=some (Z Y f.kind)∧w'.cell? ⟨w.heap.size+1,1,none⟩=some (Z Y f.round)∧w'.cell? ⟨w.heap.size+1,2,none⟩=some (Z Y f.slot)∧w'.cell? ⟨w.heap.size+1,3,none⟩=some (Z Y f.pk)∧w'.cell? ⟨w.heap.size+1,4,none⟩=some (Z Y f.pv)∧w'.cell? ⟨w.heap.size+1,5,none⟩=some (.slice EA f.echo.length EC))) (by kernel_rfl) (by go_keep) (fun hHeld=>?_)
 refine rgT 0 ?_
 refine rgT 1 ?_
 refine rgT 3 ?_
 refine rgT 4 ?_
 refine rgT 7 ?_
 refine rgT 8 ?_
 refine rgT 11 ?_
 refine rgT 12 ?_
 refine rgR 2 fun K hK=>?_
 go_simp
 refine(HK.out _).mono ?_
 rintro e w1 ⟨rfl,hb1⟩
 go_simp
 have hz1:w.heap.size+2 < w1.heap.size:=by have:=hb1.size;simp at this;omega
 replace hHeld:=KP.out _ _ (by first | omega | (simp;done) | (simp;omega)) hb1 hHeld
 refine hK.out _ _ hHeld (fun hHeld=>?_)
 clear hK K
 refine rgR 5 fun K hK=>?_
 go_simp
 refine(HR.out _).mono ?_
 rintro e w2 ⟨rfl,hb2⟩
 go_simp
 have hz2:w.heap.size+2 < w2.heap.size:=by have:=hb2.size;omega
 replace hHeld:=KP.out _ _ (by omega) hb2 hHeld
 refine hK.out _ _ hHeld (fun hHeld=>?_)
 clear hK K
 refine rgT 6 ?_
 refine rgR 9 fun K hK=>?_
 go_simp
 refine(HS.out _).mono ?_
 rintro e w3 ⟨rfl,hb3⟩
 go_simp
 have hz3:w.heap.size+2 < w3.heap.size:=by have:=hb3.size;omega
 replace hHeld:=KP.out _ _ (by omega) hb3 hHeld
 refine hK.out _ _ hHeld (fun hHeld=>?_)
 clear hK K
 refine rgT 10 ?_
 refine rgR 13 fun K hK=>?_
 go_simp
 refine(HP.out _).mono ?_
 rintro e w4 ⟨rfl,hb4⟩
 go_simp
 have hz4:w.heap.size+2 < w4.heap.size:=by have:=hb4.size;omega
 replace hHeld:=KP.out _ _ (by omega) hb4 hHeld
 refine hK.out _ _ hHeld (fun hHeld=>?_)
 clear hK K
 refine rgT 14 ?_
 have hb34:=(hb1.trans (hb2.mono hb1.size)).trans ((hb3.trans (hb4.mono hb3.size)).mono (Nat.le_trans hb1.size hb2.size))
 have hBd4:=Bd_below HBd0.out ⟨hb34.os,hb34.tape,hb34.output,hb34.size,hb34.block⟩
 have hBw4:Zb w.heap.size w w4:=Below.trans (show Zb w.heap.size w _ from bB) (Below.mono hb34 (by simp;omega))
 have HBw4:=O hBw4
 have HBd4:=O (show Bd (w.heap.size+1+1) [] w4 by simpa using hBd4)
 clear hb34 hBd4 hb1 hb2 hb3 hb4 HBd0 hBw4
 refine rgR 15 fun K hK=>?_
 go_simp
 simp only [cat]
 refine(WriteString (w.heap.size+1+1) [] ⟨(bitsL f.kind 2 ++ bitsL f.round 16 ++ bitsL f.slot 6 ++ itemL (f.pk,f.pv)).toArray⟩ _ HBd4.out (by simp) (by show(List.toArray _).size≤_;simp [hk2,hr16,hs6,hi10])).mono ?_
 rintro e w5 ⟨rfl,hBd5,hb5⟩
 have HBd5:=O (show Bd (w.heap.size+1+1) (Lib.byteCells (headL f)) w5 by rw [HHead.out];simpa [strCells_of]using hBd5)
 have hBw5:=HBw4.out.trans (hb5.mono (by omega))
 have HBw5:=O hBw5
 have hz5:w.heap.size+2 < w5.heap.size:=by have:=hb5.size;omega
 replace hHeld:(w5.cell? ⟨w.heap.size+1,0,none⟩=some (Z Y f.kind)∧w5.cell? ⟨w.heap.size+1,1,none⟩=some (Z Y f.round)∧w5.cell? ⟨w.heap.size+1,2,none⟩=some (Z Y f.slot)∧w5.cell? ⟨w.heap.size+1,3,none⟩=some (Z Y f.pk)∧w5.cell? ⟨w.heap.size+1,4,none⟩=some (Z Y f.pv)∧w5.cell? ⟨w.heap.size+1,5,none⟩=some (.slice EA f.echo.length EC)):=⟨(hb5.cell (p:=⟨w.heap.size+1,0,none⟩) (by simp)).trans hHeld.1,(hb5.cell (p:=⟨w.heap.size+1,1,none⟩) (by simp)).trans hHeld.2.1,(hb5.cell (p:=⟨w.heap.size+1,2,none⟩) (by simp)).trans hHeld.2.2.1,(hb5.cell (p:=⟨w.heap.size+1,3,none⟩) (by simp)).trans hHeld.2.2.2.1,(hb5.cell (p:=⟨w.heap.size+1,4,none⟩) (by simp)).trans hHeld.2.2.2.2.1,(hb5.cell (p:=⟨w.heap.size+1,5,none⟩) (by simp)).trans hHeld.2.2.2.2.2⟩
 go_simp
 refine hK.out _ _ hHeld (fun hHeld=>?_)
 have x5:=hHeld.2.2.2.2.2
 clear hK K hHeld hBd5 hb5 hBw5 HBd4 HBw4 KP HK HR HS HP
 refine wpAnyH_done (by kernel_rfl) ?_ _
 go_wp2
 go_loopw [27] (fun t wr=>∃ k:Nat,k≤f.echo.length∧t=Z Y k∧Bd (w.heap.size+1+1) (Lib.byteCells (headL f ++ echoL (f.echo.take k))) wr∧w.heap.size+2 < wr.heap.size∧Zb w.heap.size w wr) (fun t _=>f.echo.length-(intOf t).toNat)
 case atStart=>exact⟨0,by omega,rfl,by simpa [echoL]using HBd5.out,hz5,HBw5.out⟩
 case round =>
  obtain⟨k,hk,rfl,hBd,hz,hbr⟩:=hrel
  clear HBd5 HBw5 x5 hz5
  have hsz:(echoL (f.echo.take k)).length=10*k:=by rw [echoL_length,List.length_take,Nat.min_eq_left hk]
  by_cases hlt:k < f.echo.length
  ·have HSN:=O (echo_snoc hlt)
   have hl2:=HF.out.each k hlt
   obtain⟨eb,eo,rfl,hel,hc0,hc1⟩:=(HE.out.below hbr) k hlt
   generalize hgi:f.echo.getD k (0,0)=it at *
   obtain⟨i1,i2⟩:=it
   have HIt:=O (fun w=>frame_item i1 i2 w hl2.1 hl2.2)
   have HBd:=O hBd
   have HBr:=O hbr
   have lk0:(0:Int)≤(k:Int):=by omega
   have lk1:(k:Int) < (f.echo.length:Int):=by omega
   have hi10':=itemL_length (i1,i2)
   have ne1:=World.new_ne wr _ hc0
   clear hBd hbr hgi hl2
   go_wp2_with fail
   refine(HIt.out _).mono ?_
   rintro e w6 ⟨rfl,hb6⟩
   have hBd6:=Bd_below (HBd.out) (show Zb wr.heap.size wr w6 from Below.trans (show Zb wr.heap.size wr _ from bB) ⟨hb6.os,hb6.tape,hb6.output,hb6.size,fun q hq=>hb6.block q (by simp;omega)⟩)
   have HBd6:=O hBd6
   have hBw6:Zb w.heap.size w w6:=HBr.out.trans (Below.mono (show Zb wr.heap.size wr w6 from Below.trans (show Zb wr.heap.size wr _ from bB) ⟨hb6.os,hb6.tape,hb6.output,hb6.size,fun q hq=>hb6.block q (by simp;omega)⟩) (by omega))
   have HBw6:=O hBw6
   have hz6:w.heap.size+2 < w6.heap.size:=by have:=hb6.size;simp at this;omega
   clear hBd6 hBw6 hb6
   go_wp2_with fail
   refine(WriteString (w.heap.size+1+1) _ ⟨(itemL (i1,i2)).toArray⟩ _ HBd6.out (by rw [Lib.byteCells_length,List.length_append,hsz,hl34];omega) (by show(List.toArray _).size≤_;simp [hi10'])).mono ?_
   rintro e w7 ⟨rfl,hBd7,hb7⟩
   have HBd7:Hid (Bd (w.heap.size+1+1) (Lib.byteCells (headL f ++ echoL (f.echo.take (k+1)))) w7):=by
    rw [HSN.out,← List.append_assoc,Lib.byteCells_append]
    exact hBd7
   have hz7:w.heap.size+2 < w7.heap.size:=by have:=hb7.size;omega
   have HBw7:=O (HBw6.out.trans (hb7.mono (by omega)))
   clear hBd7 hb7 HBw6
   go_wp2
   go_roundw
   case rel=>exact⟨k+1,by omega,by go_num,HBd7.out,hz7,HBw7.out⟩
   case measure=>simp [intOf];omega
  ·obtain rfl:k=f.echo.length:=by omega
   rw [List.take_length]at hBd hsz
   have HStr:=O (String (w.heap.size+1+1) (headL f ++ echoL f.echo) wr hBd (by omega))
   have HWr:=O (fun w=>crc_Wrap (bodyL f) w (bitsOnly_of (body_all f) (by unfold bodyL;rw [List.length_append,hsz,hl34];omega)))
   have HBody:Hid (bodyL f=headL f ++ echoL f.echo):=rfl
   have HT:Hid (textB f=⟨(wrapL (bodyL f)).toArray⟩):=rfl
   clear hBd
   go_wp2_with fail
   refine HStr.out.mono ?_
   rintro e w6 ⟨rfl,hb6⟩
   rw [← HBody.out]
   go_wp2_with fail
   refine(HWr.out _).mono ?_
   rintro e w7 ⟨rfl,hb7⟩
   go_wp2
   go_ret
   exact⟨by rw [HT.out];rfl,(hbr.trans (hb6.mono (by omega))).trans (hb7.mono (by have:=hb6.size;omega))⟩
end A22
namespace A23
open Go.RowKit A1 A11 A14 A20 A22
def numL (l:List UInt8):Nat:=l.foldl (fun n c=>2*n+(c.toNat-48)) 0
theorem numL_snoc (l:List UInt8) (c:UInt8):numL (l ++ [c])=2*numL l+(c.toNat-48):=by simp [numL]
theorem take_bits (x size k:Nat) (h:k < size):(bitsL x size).take (k+1)=(bitsL x size).take k ++ [sg (bitAt x size k)]:=by
 rw [List.take_succ_eq_append_getElem (by rw [bitsL_length];exact h)]
 simp [bitsL]
theorem numL_take (x size:Nat) (hx:x < 2 ^ size):∀ k,k≤size→numL ((bitsL x size).take k)=x / 2 ^ (size-k)
 | 0,_=>by
  show 0=_
  rw [Nat.sub_zero,Nat.div_eq_of_lt hx]
 | k+1,h=>by
  rw [take_bits x size k (by omega),numL_snoc,numL_take x size hx k (by omega),sg_toNat _ (bitAt_lt _ _ _)]
  unfold bitAt
  have e:size-k=(size-1-k)+1:=by omega
  have e2:size-(k+1)=size-1-k:=by omega
  rw [e,e2,Nat.pow_succ,← Nat.div_div_eq_div_mul]
  omega
theorem numL_bits (x size:Nat) (hx:x < 2 ^ size):numL (bitsL x size)=x:=by
 have h:=numL_take x size hx size (Zr _)
 rw [Nat.sub_self,Nat.pow_zero,Nat.div_one]at h
 rwa [List.take_of_length_le (by rw [bitsL_length];exact Zr _)]at h
theorem numL_lt {l:List UInt8} (h:AllBits l):numL l < 2 ^ l.length:=by
 have key:∀ k,k≤l.length→numL (l.take k) < 2 ^ k:=by
  intro k
  induction k with
  | zero=>intro _;exact Nat.one_pos
  | succ k ih =>
   intro hk
   have ih:=ih (by omega)
   rw [List.take_succ_eq_append_getElem (by omega),numL_snoc,Nat.pow_succ]
   have:=h _ (List.getElem_mem (show k < l.length by omega))
   omega
 have:=key l.length (Zr _)
 rwa [List.take_length]at this
theorem extract_front (a r:List UInt8):(⟨(a ++ r).toArray⟩:ByteArray).extract 0 a.length=⟨a.toArray⟩:=by
 apply ByteArray.ext
 simp [Lib.extract_data]
theorem extract_back (a r:List UInt8):(⟨(a ++ r).toArray⟩:ByteArray).extract a.length (a ++ r).length=⟨r.toArray⟩:=by
 apply ByteArray.ext
 simp [Lib.extract_data]
theorem or_bit (n b:Nat) (hn:n < 1000000) (hb:b < 2):bits BinOp.or IntKind.i64 ((n:Int)*2) (b:Int)=((2*n+b:Nat):Int):=by
 rw [bits_join .i64 63 (by decide) (fun n h0 h1=>by rw [two63]at h1;rw [IntKind.wrap_i64];omega) 1 ((n:Int)*2) b (by omega) (by omega) (by rw [two63];omega) (by omega) (by omega) (by rw [two63];omega)]
 omega
theorem iter_new (w:Zw) (s:ByteArray) (pos:Nat):Zb w.heap.size w (w.iter s pos):=(Zf _ _).alloc (Zr _) _
theorem next_raw (B:Nat) (s:ByteArray) (a:List UInt8) (size:Nat) (w:Zw) (hc:w.cell? ⟨B,0,none⟩=some (.string s)) (hf:w.frozen? ⟨B,0,none⟩=false)
 (ha:AllBits a) (hl:a.length=size) (hs:size≤16) (hle:size≤s.size) (h4:s.size≤4000) (hx:s.extract 0 size=⟨a.toArray⟩) :
 Zc Zp 195 #[.pointer (some ⟨B,0,none⟩),Z Y size] w fun e w'=>e=.returned (Z Y (numL a:Nat))∧w'=(w.iter ⟨a.toArray⟩ size).setCell ⟨B,0,none⟩ (.string (s.extract size s.size)):=by
 have hlt:=Zl w _ hc
 have HX:=O hx
 have HA:=O ha
 have HL:=O hl
 have d0:(0:Int)≤(size:Int):=by omega
 have d1:(size:Int)≤(s.size:Int):=by omega
 have hci:∀ pos,(w.iter ⟨a.toArray⟩ pos).cell? ⟨B,0,none⟩=some (.string s):=fun pos=>((iter_new w _ pos).cell (p:=⟨B,0,none⟩) hlt).trans hc
 have hfi:∀ pos,(w.iter ⟨a.toArray⟩ pos).frozen? ⟨B,0,none⟩=false:=fun pos=>((iter_new w _ pos).frozen (p:=⟨B,0,none⟩) hlt).trans hf
 have HCI:=O hci
 have HFI:=O hfi
 clear ha hl hci hfi
 go_enter Tryz.func195,Tryz.ntmps195
 go_wp2
 clear hx
 go_loopw [5] (fun t wr=>∃ pos:Nat,pos≤size∧wr=w.iter ⟨a.toArray⟩ pos∧t=Z Y (numL (a.take pos):Nat)) (fun _ wr=>size-wr.iterPos w.heap.size)
 case atStart=>exact⟨0,Nat.zero_le _,rfl,rfl⟩
 case round =>
  obtain⟨pos,hp,rfl,rfl⟩:=hrel
  by_cases hlt2:pos < size
  ·have hla:pos < a.length:=by rw [HL.out];exact hlt2
   have hlb:pos < (⟨a.toArray⟩:ByteArray).size:=hla
   have h3:((⟨a.toArray⟩:ByteArray)[pos]'hlb).toNat=48∨((⟨a.toArray⟩:ByteArray)[pos]'hlb).toNat=49:=HA.out _ (List.getElem_mem hla)
   have hlow:((⟨a.toArray⟩:ByteArray)[pos]'hlb).toNat < 128:=by omega
   have hnx:=fun ty=>run_next_ascii (P:=Zp) w ⟨a.toArray⟩ pos ty hlb hlow
   have hsn:numL (a.take (pos+1))=2*numL (a.take pos)+(((⟨a.toArray⟩:ByteArray)[pos]'hlb).toNat-48):=by rw [List.take_succ_eq_append_getElem hla,numL_snoc];rfl
   have hn:numL (a.take pos) < 65536:=by
    have h1:=numL_lt (l:=a.take pos) (fun c hc=>HA.out c (List.mem_of_mem_take hc))
    have h2:(a.take pos).length≤16:=by rw [List.length_take];omega
    have h5:2 ^ (a.take pos).length≤2 ^ 16:=Nat.pow_le_pow_right (by decide) h2
    omega
   have HSN:=O hsn
   clear hsn
   generalize numL (a.take pos)=n at *
   have HO0:=O (or_bit n 0 (by omega) (by decide))
   have HO1:=O (or_bit n 1 (by omega) (by decide))
   rcases h3 with h | h
   ·have H:=O h
    rw [h]at hnx
    clear h
    go_wp2
    rw [show((0:Int))=((0:Nat):Int)from rfl,HO0.out]
    go_roundw
    case rel=>exact⟨pos+1,by omega,rfl,by rw [HSN.out,H.out]⟩
    case measure=>simp;omega
   ·have H:=O h
    rw [h]at hnx
    clear h
    go_wp2
    rw [show((1:Int))=((1:Nat):Int)from rfl,HO1.out]
    go_roundw
    case rel=>exact⟨pos+1,by omega,rfl,by rw [HSN.out,H.out]⟩
    case measure=>simp;omega
  ·obtain rfl:pos=size:=by omega
   have hnx:=fun ty=>run_next_end (P:=Zp) w ⟨a.toArray⟩ pos ty (by show ¬ pos < a.length;rw [HL.out];omega)
   have ht:a.take pos=a:=List.take_of_length_le (by rw [HL.out];exact Zr _)
   rw [ht]
   have hc2:=HCI.out pos
   have hf2:=HFI.out pos
   clear ht
   go_wp2
   go_ret
   exact⟨rfl,rfl⟩
structure RdAt (w:Zw) (B:Nat) (l:List UInt8):Prop where
 cell:w.cell? ⟨B,0,none⟩=some (.string ⟨l.toArray⟩)
 free:w.frozen? ⟨B,0,none⟩=false
theorem RdAt.lt {w:Zw} {B:Nat} {l:List UInt8} (h:RdAt w B l):B < w.heap.size:=Zl w _ h.cell
theorem RdAt.below {w w':Zw} {B:Nat} {l:List UInt8} (h:RdAt w B l) (hb:Zb w.heap.size w w'):RdAt w' B l:=⟨(hb.cell (p:=⟨B,0,none⟩) h.lt).trans h.cell,(hb.frozen (p:=⟨B,0,none⟩) h.lt).trans h.free⟩
theorem next_list (B:Nat) (a r:List UInt8) (size:Nat) (w:Zw) (h:RdAt w B (a ++ r)) (ha:AllBits a) (hl:a.length=size) (hs:size≤16) (h4:(a ++ r).length≤4000) :
 Zc Zp 195 #[.pointer (some ⟨B,0,none⟩),Z Y size] w fun e w'=>e=.returned (Z Y (numL a:Nat))∧RdAt w' B r∧But (fun q=>q=B) w w':=by
 subst hl
 refine(next_raw B ⟨(a ++ r).toArray⟩ a a.length w h.cell h.free ha rfl hs (by show _≤(a ++ r).length;simp) h4 (extract_front a r)).mono ?_
 rintro e w' ⟨rfl,rfl⟩
 refine⟨rfl,⟨?_,?_⟩,?_⟩
 ·rw [World.cell?_setCell_same _ _ _ (((iter_new w _ _).cell (p:=⟨B,0,none⟩) h.lt).trans h.cell)]
  have:=extract_back a r
  exact congrArg (fun x=>some (Value.string x)) this
 ·rw [World.frozen?_setCell]
  exact((iter_new w _ _).frozen (p:=⟨B,0,none⟩) h.lt).trans h.free
 ·exact But.setCell (S:=fun q=>q=B) (But.of_below (iter_new w _ _) (Zr _)) (.inl rfl) _
theorem next2 (B x:Nat) (r:List UInt8) (w:Zw) (h:RdAt w B (bitsL x 2 ++ r)) (hx:x < 4) (h4:r.length≤3984) :
 Zc Zp 195 #[.pointer (some ⟨B,0,none⟩),Z Y 2] w fun e w'=>e=.returned (Z Y x)∧RdAt w' B r∧But (fun q=>q=B) w w':=by
 have:=next_list B (bitsL x 2) r 2 w h (bits_all _ _) (bitsL_length _ _) (by decide) (by rw [List.length_append,bitsL_length];omega)
 rwa [numL_bits x 2 (by omega)]at this
theorem next6 (B x:Nat) (r:List UInt8) (w:Zw) (h:RdAt w B (bitsL x 6 ++ r)) (hx:x < 64) (h4:r.length≤3984) :
 Zc Zp 195 #[.pointer (some ⟨B,0,none⟩),Z Y 6] w fun e w'=>e=.returned (Z Y x)∧RdAt w' B r∧But (fun q=>q=B) w w':=by
 have:=next_list B (bitsL x 6) r 6 w h (bits_all _ _) (bitsL_length _ _) (by decide) (by rw [List.length_append,bitsL_length];omega)
 rwa [numL_bits x 6 (by omega)]at this
theorem next8 (B x:Nat) (r:List UInt8) (w:Zw) (h:RdAt w B (bitsL x 8 ++ r)) (hx:x < 256) (h4:r.length≤3984) :
 Zc Zp 195 #[.pointer (some ⟨B,0,none⟩),Z Y 8] w fun e w'=>e=.returned (Z Y x)∧RdAt w' B r∧But (fun q=>q=B) w w':=by
 have:=next_list B (bitsL x 8) r 8 w h (bits_all _ _) (bitsL_length _ _) (by decide) (by rw [List.length_append,bitsL_length];omega)
 rwa [numL_bits x 8 (by omega)]at this
theorem next16 (B x:Nat) (r:List UInt8) (w:Zw) (h:RdAt w B (bitsL x 16 ++ r)) (hx:x < 65536) (h4:r.length≤3984) :
 Zc Zp 195 #[.pointer (some ⟨B,0,none⟩),Z Y 16] w fun e w'=>e=.returned (Z Y x)∧RdAt w' B r∧But (fun q=>q=B) w w':=by
 have:=next_list B (bitsL x 16) r 16 w h (bits_all _ _) (bitsL_length _ _) (by decide) (by rw [List.length_append,bitsL_length];omega)
 rwa [numL_bits x 16 (by omega)]at this
theorem reader_item (B k v:Nat) (r:List UInt8) (w:Zw) (h:RdAt w B (itemL (k,v) ++ r)) (hk:k < 4) (hv:v < 256) (h4:r.length≤3976) :
 Zc Zp 196 #[.pointer (some ⟨B,0,none⟩)] w fun e w'=>e=.returned (.agg #[Z Y k,Z Y v])∧RdAt w' B r∧But (fun q=>q=B) w w':=by
 have hlt:=h.lt
 have h':RdAt w B (bitsL k 2 ++ (bitsL v 8 ++ r)):=by rw [← List.append_assoc];exact h
 have HR:=O h'
 have hl8:(bitsL v 8 ++ r).length≤3984:=by rw [List.length_append,bitsL_length];omega
 clear h h'
 go_enter Tryz.func196,Tryz.ntmps196
 go_wp2_with fail
 refine(next2 B k (bitsL v 8 ++ r) _ (HR.out.below ((Zf _ _).alloc (Zr _) _)) hk hl8).mono ?_
 rintro e w1 ⟨rfl,hr1,hb1⟩
 have b1:w1.heap[w.heap.size]?=some (.cells #[Z Y 0,Z Y 0] 44 (0,0)):=(hb1.block _ (by simp) (by omega)).trans (Zh w _)
 have HB1:=O hb1
 have HR1:=O hr1
 have hz1:=heap_lt b1
 have Hb1:=O b1
 clear b1 hb1 hr1
 go_wp2_with fail
 refine(next8 B v r _ HR1.out hv (by omega)).mono ?_
 rintro e w2 ⟨rfl,hr2,hb2⟩
 have b2:w2.heap[w.heap.size]?=some (.cells #[Z Y 0,Z Y 0] 44 (0,0)):=(hb2.block _ hz1 (by omega)).trans Hb1.out
 have x0:w2.cell? ⟨w.heap.size,0,none⟩=some (Z Y 0):=by simp [World.cell?,b2]
 have x1:w2.cell? ⟨w.heap.size,1,none⟩=some (Z Y 0):=by simp [World.cell?,b2]
 have y0:w2.frozen? ⟨w.heap.size,0,none⟩=false:=by simp [World.frozen?,b2]
 have y1:w2.frozen? ⟨w.heap.size,1,none⟩=false:=by simp [World.frozen?,b2]
 have HR2:=O hr2
 have HB2:=O hb2
 clear b2 hr2 hb2
 go_wp2
 refine bodyPost_ret (v :=.agg #[Z Y k,Z Y v]) (by simp [results,Tryz.results196,go_sem,x0,x1]) rfl ⟨rfl,?_,?_⟩
 ·have hne:∀ o:Nat,(⟨w.heap.size,o,none⟩:Addr)≠⟨B,0,none⟩:=fun o e=>by injection e with e _;omega
  exact⟨(Zo _ _ _ _ (hne 1)).trans ((Zo _ _ _ _ (hne 0)).trans HR2.out.cell),by rw [World.frozen?_setCell,World.frozen?_setCell];exact HR2.out.free⟩
 ·have h1:But (fun q=>q=B) w w1:=⟨HB1.out.os,HB1.out.tape,HB1.out.output,by have:=HB1.out.size;simp at this;omega,fun q hq hn=>(HB1.out.block q (by simp;omega) hn).trans (Below.heap_alloc _ _ _ hq)⟩
  exact((h1.trans HB2.out).setCell (p:=⟨w.heap.size,0,none⟩) (.inr (Zr _)) _).setCell (p:=⟨w.heap.size,1,none⟩) (.inr (Zr _)) _
end A23
namespace A24
open Go.RowKit A6 A20 A21 A22 A23
theorem wrapL_length (l:List UInt8):(wrapL l).length=l.length+17:=by simp [wrapL,bitsL_length]
theorem wrap_strm {l:List UInt8} (h:AllBits l) (hl:l.length≤3983):Strm ⟨(wrapL l).toArray⟩:=by
 have hsz:(⟨(wrapL l).toArray⟩:ByteArray).size=l.length+17:=wrapL_length l
 refine⟨by rw [hsz];omega,fun i hi=>?_⟩
 have hi':i < l.length+17:=by rw [← hsz];exact hi
 have he:(⟨(wrapL l).toArray⟩:ByteArray)[i]'hi=(wrapL l)[i]'(by rw [wrapL_length];exact hi'):=rfl
 rw [he]
 have hb:(l ++ bitsL (sumL l) 16).length=l.length+16:=by simp [bitsL_length]
 by_cases hlt:i < l.length+16
 ·have:(wrapL l)[i]'(by rw [wrapL_length];exact hi')=(l ++ bitsL (sumL l) 16)[i]'(by rw [hb];exact hlt):=List.getElem_append_left _
  rw [this]
  rcases(h.app (bits_all _ _)) _ (List.getElem_mem (show i < (l ++ bitsL (sumL l) 16).length by rw [hb];exact hlt))with h1 | h1
  ·exact .inl h1
  ·exact .inr (.inl h1)
 ·have e:i=l.length+16:=by omega
  subst e
  have:(wrapL l)[l.length+16]'(by rw [wrapL_length];exact hi')=35:=by
   unfold wrapL
   rw [List.getElem_append_right (by rw [hb];exact Zr _)]
   simp
  rw [this]
  exact .inr (.inr ⟨rfl,by rw [hsz]⟩)
theorem wrap_tail (l:List UInt8):Lib.hasSuffix (wrapL l) [35]=true:=by
 unfold Lib.hasSuffix
 rw [List.isSuffixOf_iff_suffix]
 exact⟨l ++ bitsL (sumL l) 16,rfl⟩
theorem Whole_yes (s:ByteArray) (w:Zw) (hs:Strm s) (ht:Lib.hasSuffix s.data.toList [35]=true) :
 Zc Zp 211 #[.string s] w fun e w'=>e=.returned (.bool true)∧Zb w.heap.size w w':=by
 have h4:=hs.1
 have H1:=O (fun w=>Tryz.strings_HasSuffix s ⟨#[35]⟩ w (by omega))
 have hr:Lib.hasSuffix s.data.toList (⟨#[35]⟩:ByteArray).data.toList=true:=ht
 rw [hr]at H1
 have H2:=O (fun w=>sym_Clean s w hs)
 clear hs ht hr
 go_enter Tryz.func211,Tryz.ntmps211
 go_wp2_with fail
 refine(H1.out _).mono ?_
 rintro e w1 ⟨rfl,hw1⟩
 subst hw1
 go_wp2_with fail
 refine(H2.out _).mono ?_
 rintro e w2 ⟨rfl,hb2⟩
 go_wp2
 go_ret
 exact⟨by first | rfl | simp,hb2⟩
theorem Whole_no (s:ByteArray) (w:Zw) (h4:s.size≤4000) (ht:Lib.hasSuffix s.data.toList [35]=false) :
 Zc Zp 211 #[.string s] w fun e w'=>e=.returned (.bool false)∧Zb w.heap.size w w':=by
 have H1:=O (fun w=>Tryz.strings_HasSuffix s ⟨#[35]⟩ w (by omega))
 have hr:Lib.hasSuffix s.data.toList (⟨#[35]⟩:ByteArray).data.toList=false:=ht
 rw [hr]at H1
 clear ht hr
 go_enter Tryz.func211,Tryz.ntmps211
 go_wp2_with fail
 refine(H1.out _).mono ?_
 rintro e w1 ⟨rfl,hw1⟩
 subst hw1
 go_wp2
 go_ret
 exact⟨by first | rfl | simp,Zf _ _⟩
theorem Open_no (s:ByteArray) (w:Zw) (h4:s.size≤4000) (ht:Lib.hasSuffix s.data.toList [35]=false) :
 Zc Zp 194 #[.string s] w fun e w'=>e=.returned (.tuple #[.string ⟨#[]⟩,Z Y 4])∧Zb w.heap.size w w':=by
 have H:=O (fun w=>Whole_no s w h4 ht)
 clear ht
 go_enter Tryz.func194,Tryz.ntmps194
 go_wp2_with fail
 refine(H.out _).mono ?_
 rintro e w1 ⟨rfl,hb1⟩
 go_wp2
 go_ret2
 exact⟨rfl,hb1⟩
theorem Open_raw (s:ByteArray) (l:List UInt8) (n:Nat) (w:Zw) (hs:Strm s) (ht:Lib.hasSuffix s.data.toList [35]=true) (hn:n=l.length) (hsz:s.size=n+17) (hb:AllBits l) (hl:l.length≤3983)
 (x1:s.extract 0 n=⟨l.toArray⟩) (x2:s.extract n (n+16)=⟨(bitsL (sumL l) 16).toArray⟩) :
 Zc Zp 194 #[.string s] w fun e w'=>e=.returned (.tuple #[.string ⟨l.toArray⟩,Z Y 0])∧Zb w.heap.size w w':=by
 have HW:=O (fun w=>Whole_yes s w hs ht)
 have HS:=O (fun w=>crc_Sum ⟨l.toArray⟩ w (bitsOnly_of hb (by omega)))
 have HB:=O (fun w=>Bits16 (sumL l) w (by have:=sumL_lt l;omega))
 have hn4:n≤3983:=by omega
 have e1:(s.size:Int)-1-16=n:=by omega
 have e2:(s.size:Int)-1=((n+16:Nat):Int):=by omega
 have e3:IntKind.i64.wrap ((n:Int)+16)=(n:Int)+16:=by rw [IntKind.wrap_i64];omega
 have i5:(n:Int)≤(n:Int)+16:=by omega
 have i6:(0:Int)≤(n:Int)+16:=by omega
 have i4:(n:Int)+16≤(s.size:Int):=by omega
 have i0:(0:Int)≤(n:Int):=by omega
 have i1:(n:Int)≤(s.size:Int):=by omega
 have i2:n≤s.size:=by omega
 have i3:n+16≤s.size:=by omega
 have x3:(bitsL (sumL l) 16 == (s.extract n ((n:Int)+16).toNat).toList)=true:=by
  rw [show((n:Int)+16).toNat=n+16 by omega,x2]
  simp [go_sem]
 clear hs ht hb hl hn hsz x2
 go_enter Tryz.func194,Tryz.ntmps194
 go_wp2_with fail
 refine(HW.out _).mono ?_
 rintro e w1 ⟨rfl,hb1⟩
 go_wp2_with fail
 refine wp_region_held_drew (S:=fun w'=>True) (by kernel_rfl) trivial (fun hHeld=>?_)
 refine rgT 0 ?_
 refine rgT 1 ?_
 refine rgT 2 ?_
 refine rgT 5 ?_
 refine rgT 6 ?_
 refine rgT 7 ?_
 refine rgT 8 ?_
 refine rgT 9 ?_
 refine rgT 10 ?_
 refine rgR 3 fun K hK=>?_
 go_simp
 refine(HS.out _).mono ?_
 rintro e w2 ⟨rfl,hb2⟩
 go_simp
 refine hK.out _ _ trivial (fun hHeld=>?_)
 clear hK K
 refine rgR 4 fun K hK=>?_
 go_simp
 refine(HB.out _).mono ?_
 rintro e w3 ⟨rfl,hb3⟩
 go_simp
 refine hK.out _ _ trivial (fun hHeld=>?_)
 clear hK K
 refine rgT 11 ?_
 refine wpAnyH_done (by kernel_rfl) ?_ _
 go_wp2
 go_ret2
 exact⟨rfl,(hb1.trans (Below.mono (show Zb w1.heap.size w1 w2 from⟨hb2.os,hb2.tape,hb2.output,hb2.size,hb2.block⟩) hb1.size)).trans (hb3.mono (Nat.le_trans hb1.size hb2.size))⟩
theorem drop_wrap (l:List UInt8):(⟨(wrapL l).toArray⟩:ByteArray).extract 0 l.length=⟨l.toArray⟩∧(⟨(wrapL l).toArray⟩:ByteArray).extract l.length (l.length+16)=⟨(bitsL (sumL l) 16).toArray⟩:=by
 constructor
 ·have:=extract_front l (bitsL (sumL l) 16 ++ [35])
  rw [← List.append_assoc]at this
  exact this
 ·apply ByteArray.ext
  have hb:=bitsL_length (sumL l) 16
  simp [Lib.extract_data,wrapL,hb]
theorem crc_Open (l:List UInt8) (w:Zw) (hb:AllBits l) (hl:l.length≤3983) :
 Zc Zp 194 #[.string ⟨(wrapL l).toArray⟩] w fun e w'=>e=.returned (.tuple #[.string ⟨l.toArray⟩,Z Y 0])∧Zb w.heap.size w w' :=
 Open_raw ⟨(wrapL l).toArray⟩ l l.length w (wrap_strm hb hl) (wrap_tail l) rfl (wrapL_length l) hb hl (drop_wrap l).1 (drop_wrap l).2
end A24
namespace A25
open Go.RowKit A2 A22
def okI (i:Nat×Nat):Prop:=(i.1=0∧i.2=0)∨(i.1=1∧i.2=0)∨(i.1=2∧i.2≤255)
theorem okI.item {i:Nat×Nat} (h:okI i):okItem i.1 i.2:=by
 rcases h with h | h | h
 ·exact .inl ⟨by omega,by omega⟩
 ·exact .inr (.inl ⟨by omega,by omega⟩)
 ·exact .inr (.inr ⟨by omega,by omega,by omega⟩)
theorem Check_each (k v:Nat) (w:Zw) (h:okI (k,v)) :
 Zc Zp 215 #[.agg #[Z Y k,Z Y v]] w fun e w'=>e=.returned (.bool false)∧Zb w.heap.size w w':=by
 have h1:=O (fun w=>frame_empty k v w h.item)
 have h2:=O (fun w=>frame_value k v w h.item)
 by_cases hk:k=0
 ·have hb:((k:Int) == 0)=true:=by simp;omega
  rw [hb]at h1
  clear h hk hb
  go_enter Tryz.func215,Tryz.ntmps215
  go_wp2_with fail
  refine(h1.out _).mono ?_
  rintro e w1 ⟨rfl,hb1⟩
  go_wp2
  go_ret
  exact⟨by first | rfl | simp,Below.trans bB (hb1.mono (by simp))⟩
 ·have hb:((k:Int) == 0)=false:=by simp;omega
  have hb':((k:Int) != 0)=true:=by simp;omega
  rw [hb]at h1
  rw [hb']at h2
  clear h hk hb hb'
  go_enter Tryz.func215,Tryz.ntmps215
  go_wp2_with fail
  refine(h1.out _).mono ?_
  rintro e w1 ⟨rfl,hb1⟩
  have bx:w1.heap[w.heap.size]?=some (.cells #[Z Y k,Z Y v] 44 (0,0)):=(hb1.block _ (by simp)).trans (Zh w _)
  have x0:w1.cell? ⟨w.heap.size,0,none⟩=some (Z Y k):=by simp [World.cell?,bx]
  have x1:w1.cell? ⟨w.heap.size,1,none⟩=some (Z Y v):=by simp [World.cell?,bx]
  clear bx
  go_wp2_with fail
  refine(h2.out _).mono ?_
  rintro e w2 ⟨rfl,hb2⟩
  go_wp2
  go_ret
  exact⟨by first | rfl | simp,(Below.trans (show Zb w.heap.size w _ from bB) (hb1.mono (by simp))).trans (hb2.mono (by have:=hb1.size;simp at this;omega))⟩
theorem indexFunc_items (A:Option Addr) (l:List (Nat×Nat)) (C:Nat) (w:Zw) (hl:Items w A l) (hlen:l.length≤100) (hv:∀ k,k < l.length→okI (l.getD k (0,0))) :
 Zc Zp 222 #[.slice A l.length C,.func (Fn.func 215) #[] #[]] w fun e w'=>e=.returned (Z Y (-1))∧Zb w.heap.size w w':=by
 have HL:=O hl
 have HV:=O hv
 clear hl hv
 go_enter Tryz.func222,Tryz.ntmps222
 go_wp2
 go_loopw [8] (fun t wr=>∃ k:Nat,k≤l.length∧t=Z Y k∧Zb w.heap.size w wr) (fun t _=>l.length-(intOf t).toNat)
 case atStart=>exact⟨0,by omega,rfl,Zf _ _⟩
 case round =>
  obtain⟨k,hk,rfl,hbr⟩:=hrel
  by_cases hlt:k < l.length
  ·obtain⟨eb,eo,rfl,hel,hc0,hc1⟩:=(HL.out.below hbr) k hlt
   have ho:=HV.out k hlt
   generalize l.getD k (0,0)=it at *
   obtain⟨i1,i2⟩:=it
   have HC:=O (fun w=>Check_each i1 i2 w ho)
   have HB:=O hbr
   have lk0:(0:Int)≤(k:Int):=by omega
   have lk1:(k:Int) < (l.length:Int):=by omega
   clear hbr ho
   go_wp2_with fail
   refine(HC.out _).mono ?_
   rintro e w1 ⟨rfl,hb1⟩
   go_wp2
   go_roundw
   case rel=>exact⟨k+1,by omega,by go_num,HB.out.trans (hb1.mono HB.out.size)⟩
   case measure=>simp [intOf];omega
  ·go_wp2
   go_ret
   exact⟨rfl,hbr⟩
theorem containsFunc_items (A:Option Addr) (l:List (Nat×Nat)) (C:Nat) (w:Zw) (hl:Items w A l) (hlen:l.length≤100) (hv:∀ k,k < l.length→okI (l.getD k (0,0))) :
 Zc Zp 214 #[.slice A l.length C,.func (Fn.func 215) #[] #[]] w fun e w'=>e=.returned (.bool false)∧Zb w.heap.size w w':=by
 have H:=O (indexFunc_items A l C w hl hlen hv)
 clear hl hv
 go_enter Tryz.func214,Tryz.ntmps214
 go_wp2_with (go_at_call 222;refine(H.out).mono ?_;rintro e w' ⟨rfl,hb⟩)
 go_ret
 exact⟨rfl,hb⟩
structure FrOk (N PL:Nat) (f:Fr):Prop where
 k1:1≤f.kind
 k3:f.kind≤3
 round:f.round≤65535
 slot:f.slot < N+PL
 own:N≤f.slot→f.kind=3
 pay:okI (f.pk,f.pv)
 payd:f.kind=3→f.pk≠0
 payn:f.kind≠3→f.pk=0
 len:f.echo.length=if f.kind=3∧f.slot < N then N+PL else 0
 each:∀ k,k < f.echo.length→okI (f.echo.getD k (0,0))
theorem FrOk.echoes {N PL:Nat} {f:Fr} (h:FrOk N PL f) (hN:N≤12) (hP:PL≤3) (Pi Er G Fi:Int) (PA:Option Addr) (PC:Nat) (w:Zw) :
 Zc Zp 197 #[.agg #[Z Y N,Z Y Pi,Z Y Er,Z Y G,Z Y Fi,.slice PA PL PC],Z Y f.kind,Z Y f.slot] w fun e w'=>e=.returned (Z Y f.echo.length)∧Zb w.heap.size w w':=by
 rw [h.len]
 by_cases hk:f.kind=3
 ·by_cases hs:f.slot < N
  ·rw [if_pos ⟨hk,hs⟩,hk]
   have:=frame_echoes_data N Pi Er G Fi PA PL PC f.slot w (by omega) (by omega) hP (by omega)
   rw [show((N+PL:Nat):Int)=(N:Int)+PL by omega]
   exact this
  ·rw [if_neg (fun e=>hs e.2),hk]
   exact frame_echoes_pair N Pi Er G Fi PA PL PC f.slot w (by omega) (by omega) hP (by omega)
 ·rw [if_neg (fun e=>hk e.1)]
  exact frame_echoes_none N Pi Er G Fi PA PL PC f.kind f.slot w (by omega) (by omega) hP (by omega)
theorem FrOk.may {N PL:Nat} {f:Fr} (h:FrOk N PL f) (w:Zw) :
 (f.kind=3→Zc Zp 213 #[.agg #[Z Y f.pk,Z Y f.pv]] w fun e w'=>e=.returned (.bool true)∧Zb w.heap.size w w') ∧
 (f.kind≠3→Zc Zp 212 #[.agg #[Z Y f.pk,Z Y f.pv]] w fun e w'=>e=.returned (.bool true)∧Zb w.heap.size w w'):=by
 constructor
 ·intro hk
  have:=frame_value f.pk f.pv w h.pay.item
  rwa [show((f.pk:Int) != 0)=true by simp;have:=h.payd hk;omega]at this
 ·intro hk
  have:=frame_empty f.pk f.pv w h.pay.item
  rwa [show((f.pk:Int) == 0)=true by simp;have:=h.payn hk;omega]at this
end A25
end Go.Proofs.YtdbempiompiioaaGreat
