/- Clocks: by how much one is put on. The longest front of any text that is a stream. What a locus make Conditions: the bounds stated in each theorem. -/
import Derived.Test.YtdbempiompiioaaGreatT07
import Derived.Laws.RangeAny
import Derived.Lib.ConvBytes
import Derived.Laws.CopyRow
import Derived.Laws.CopyOwn
set_option linter.unusedVariables false
set_option linter.unusedSimpArgs false
set_option maxRecDepth 100000
set_option maxHeartbeats 80000000
open Go.Value renaming int → Z
open Go.IntKind renaming i64 → Y
open Go renaming World → Zw, Calls → Zc, heap_alloc_new → Zh
open Go.RowKit renaming Below → Zb
open Go.Proofs.Tryz renaming prog → Zp
open Go.Lib renaming hid → O
open Go.World renaming block_lt_of_cell? → Zl, cell?_setCell_other → Zo
open Nat renaming le_refl → Zr
open Go.RowKit.Below renaming refl → Zf
namespace Go.Proofs.YtdbempiompiioaaGreat
namespace A40
open Go.RowKit A4 A9 A38 A39
def dataK (l:List Hd):Nat→List Int
 | 0=>[]
 | k+1=>if(l.getD k Hd.none).kind=3 then dataK l k ++ [(l.getD k Hd.none).dev]else dataK l k
theorem dataK_le (l:List Hd) (k:Nat):(dataK l k).length≤k:=by
 induction k with
 | zero=>simp [dataK]
 | succ k ih =>
  unfold dataK
  split
  ·rw [List.length_append,List.length_singleton];omega
  ·omega
theorem sync_data (A:Option Addr) (l:List Hd) (C:Nat) (w:Zw) (hl:Hds w A l) (hlen:l.length≤100) :
 Zc Zp 116 #[.slice A l.length C] w fun e w'=>∃ v,e=.returned v∧w'.ownsRow w.heap.size 3 1 v (dataK l l.length).length ((dataK l l.length).map (Z Y))∧Zb w.heap.size w w':=by
 have HL:=O hl
 clear hl
 obtain⟨i0,hi,hz0,hz1,hz2⟩:=info_parts info3
 have HI:=O hi
 have HZ0:=O hz0
 have HZ1:=O hz1
 have HZ2:=O hz2
 clear hi hz0 hz1 hz2
 go_enter Tryz.func116,Tryz.ntmps116
 go_wp2
 go_loopw [3,8] (fun v i wr=>∃ k:Nat,k≤l.length∧i=Z Y k∧wr.ownsRow w.heap.size 3 1 v (dataK l k).length ((dataK l k).map (Z Y))∧Zb w.heap.size w wr) (fun _ i _=>l.length-(intOf i).toNat)
 case atStart=>exact⟨0,by omega,rfl,World.ownsRow_nil _ _ _ _,Zf _ _⟩
 case round =>
  obtain⟨k,hk,rfl,hown,hbr⟩:=hrel
  by_cases hlt:k < l.length
  ·obtain⟨eb,eo,rfl,hel,hc0,hc1,hc2⟩:=(HL.out.below hbr) k hlt
   have hK:=dataK_le l k
   have HS:=O (show dataK l (k+1)=if(l.getD k Hd.none).kind=3 then dataK l k ++ [(l.getD k Hd.none).dev]else dataK l k from rfl)
   generalize l.getD k Hd.none=it at *
   obtain⟨i1,i2,i3⟩:=it
   dsimp only at hc0 hc1 hc2 HS
   have lk0:(0:Int)≤(k:Int):=by omega
   have lk1:(k:Int) < (l.length:Int):=by omega
   have HB:=O hbr
   have hzr:=hbr.size
   have hi:=HI.out
   by_cases hq:i2=3
   ·have hq1:((i2:Int) == 3)=true:=by simp;omega
    have HS1:=O (HS.out.trans (if_pos hq))
    clear hbr hq HS
    go_wp2_with (at_builtin;refine wpList_append_own _ rfl _ _ 22 rfl w.heap.size 3 i0 (Z Y 0) 1 8 Tryz.underlying22 hi HZ0.out HZ1.out HZ2.out rfl (by decide) _ _ _ rfl ((hown.alloc _).alloc _) ⟨wr.heap.size+1,0,none⟩ 1 1 [Z Y i3] rfl rfl ?c1 ?c2 ?c3 ?c4 ?c5 ?_)
    case c1 =>
     intro j u hj
     match j,hj with
     | 0,hj=>simp at hj;subst hj;simp [Addr.add]
    case c2=>intro u hu;simp at hu;subst hu;rfl
    case c3=>unfold maxLen;omega
    case c4=>omega
    case c5=>simp;omega
    intro v' w2 hown' hgrow _
    have hb2:Zb w.heap.size w w2:=((HB.out.alloc hzr _).alloc (by simp;omega) _).grown hgrow (by simp;omega) (fun q hq=>ownsRow_block hown hq)
    have HB2:=O hb2
    clear hgrow hown hb2
    go_wp2
    go_roundw
    case rel=>exact⟨k+1,by omega,by go_num,by rw [HS1.out];simpa using hown',HB2.out⟩
    case measure=>simp [intOf];omega
   ·have hq1:((i2:Int) == 3)=false:=beq_eq_false_iff_ne.mpr (by omega)
    have HS1:=O (HS.out.trans (if_neg hq))
    have HO:=O hown
    clear hbr hq HS hown
    go_wp2
    go_roundw
    case rel=>exact⟨k+1,by omega,by go_num,by rw [HS1.out];exact HO.out.alloc _,HB.out.alloc hzr _⟩
    case measure=>simp [intOf];omega
  ·obtain rfl:k=l.length:=by omega
   have HO:=O hown
   clear hown
   go_wp2
   go_ret
   exact⟨_,rfl,HO.out,hbr⟩
theorem sync_of4 (node:Int) (A:Option Addr) (L C:Nat) (w:Zw):Zc Zp 114 #[Z Y 4,Z Y node,.slice A L C] w fun e w'=>e=.returned (.iface 199 (.agg #[.slice A L C]))∧w=w':=by
 go_enter Tryz.func114,Tryz.ntmps114
 go_wp2
 go_ret
 exact⟨rfl,rfl⟩
theorem sync_of3 (node:Int) (A:Option Addr) (L C:Nat) (w:Zw):Zc Zp 114 #[Z Y 3,Z Y node,.slice A L C] w fun e w'=>e=.returned (.iface 204 (.agg #[Z Y node,.slice A L C]))∧w=w':=by
 go_enter Tryz.func114,Tryz.ntmps114
 go_wp2
 go_ret
 exact⟨rfl,rfl⟩
theorem sync_of1 (node:Int) (A:Option Addr) (L C:Nat) (w:Zw):Zc Zp 114 #[Z Y 1,Z Y node,.slice A L C] w fun e w'=>e=.returned (.iface 207 (.agg #[.slice A L C]))∧w=w':=by
 go_enter Tryz.func114,Tryz.ntmps114
 go_wp2
 go_ret
 exact⟨rfl,rfl⟩
theorem sync_of2 (node:Int) (A:Option Addr) (L C:Nat) (w:Zw):Zc Zp 114 #[Z Y 2,Z Y node,.slice A L C] w fun e w'=>e=.returned (.iface 208 (.agg #[Z Y node,.slice A L C]))∧w=w':=by
 go_enter Tryz.func114,Tryz.ntmps114
 go_wp2
 go_ret
 exact⟨rfl,rfl⟩
theorem ta4 (A:Option Addr) (L C:Nat) (w:Zw):(Instr.typeAssert (.iface 199 (.agg #[.slice A L C])) 20 199 true).run Zp w=.ok (.tuple #[.agg #[.slice A L C],.bool true]) w:=by kernel_rfl
theorem ta34 (a:Int) (A:Option Addr) (L C:Nat) (w:Zw):(Instr.typeAssert (.iface 204 (.agg #[Z Y a,.slice A L C])) 20 199 true).run Zp w=.ok (.tuple #[.agg #[.slice none 0 0],.bool false]) w:=by kernel_rfl
theorem ta33 (a:Int) (A:Option Addr) (L C:Nat) (w:Zw):(Instr.typeAssert (.iface 204 (.agg #[Z Y a,.slice A L C])) 20 204 true).run Zp w=.ok (.tuple #[.agg #[Z Y a,.slice A L C],.bool true]) w:=by kernel_rfl
theorem ta14 (A:Option Addr) (L C:Nat) (w:Zw):(Instr.typeAssert (.iface 207 (.agg #[.slice A L C])) 20 199 true).run Zp w=.ok (.tuple #[.agg #[.slice none 0 0],.bool false]) w:=by kernel_rfl
theorem ta13 (A:Option Addr) (L C:Nat) (w:Zw):(Instr.typeAssert (.iface 207 (.agg #[.slice A L C])) 20 204 true).run Zp w=.ok (.tuple #[.agg #[Z Y 0,.slice none 0 0],.bool false]) w:=by kernel_rfl
theorem ta11 (A:Option Addr) (L C:Nat) (w:Zw):(Instr.typeAssert (.iface 207 (.agg #[.slice A L C])) 20 207 true).run Zp w=.ok (.tuple #[.agg #[.slice A L C],.bool true]) w:=by kernel_rfl
theorem ta24 (a:Int) (A:Option Addr) (L C:Nat) (w:Zw):(Instr.typeAssert (.iface 208 (.agg #[Z Y a,.slice A L C])) 20 199 true).run Zp w=.ok (.tuple #[.agg #[.slice none 0 0],.bool false]) w:=by kernel_rfl
theorem ta23 (a:Int) (A:Option Addr) (L C:Nat) (w:Zw):(Instr.typeAssert (.iface 208 (.agg #[Z Y a,.slice A L C])) 20 204 true).run Zp w=.ok (.tuple #[.agg #[Z Y 0,.slice none 0 0],.bool false]) w:=by kernel_rfl
theorem ta21 (a:Int) (A:Option Addr) (L C:Nat) (w:Zw):(Instr.typeAssert (.iface 208 (.agg #[Z Y a,.slice A L C])) 20 207 true).run Zp w=.ok (.tuple #[.agg #[.slice none 0 0],.bool false]) w:=by kernel_rfl
theorem ta22 (a:Int) (A:Option Addr) (L C:Nat) (w:Zw):(Instr.typeAssert (.iface 208 (.agg #[Z Y a,.slice A L C])) 20 208 true).run Zp w=.ok (.tuple #[.agg #[Z Y a,.slice A L C],.bool true]) w:=by kernel_rfl
theorem step1_of (node:Int) (A:Option Addr) (L C:Nat) (v:Int) (w:Zw) (HC:Hid (∀ w',Zb w.heap.size w w'→Zc Zp 118 #[.slice A L C,.func (.func 119) #[] #[]] w' fun e w''=>e=.returned (Z Y v)∧Zb w'.heap.size w' w'')) :
 Zc Zp 72 #[Z Y 1,Z Y node,.slice A L C] w fun e w'=>e=.returned (Z Y v)∧Zb w.heap.size w w':=by
 have HO:=O (fun w=>sync_of1 node A L C w)
 have e1:=ta14 A L C
 have e2:=ta13 A L C
 have e3:=ta11 A L C
 go_enter Tryz.func72,Tryz.ntmps72
 go_wp2_with fail
 refine(HO.out _).mono ?_
 rintro e w1 ⟨rfl,rfl⟩
 go_wp2_with fail
 refine(HC.out _ bB).mono ?_
 rintro e w2 ⟨rfl,hb⟩
 go_wp2
 go_ret
 exact⟨rfl,(show Zb w.heap.size w _ from bB).trans (hb.mono (by simp))⟩
theorem step2_of (node:Nat) (A:Option Addr) (L C:Nat) (v:Int) (w:Zw) (HC:Hid (∀ w',Zb w.heap.size w w'→Zc Zp 118 #[.slice A L C,.func (.func 120) #[.agg #[Z Y node,.slice A L C]] #[]] w' fun e w''=>e=.returned (Z Y v)∧Zb w'.heap.size w' w'')) :
 Zc Zp 72 #[Z Y 2,Z Y node,.slice A L C] w fun e w'=>e=.returned (Z Y v)∧Zb w.heap.size w w':=by
 have HO:=O (fun w=>sync_of2 node A L C w)
 have e1:=ta24 node A L C
 have e2:=ta23 node A L C
 have e3:=ta21 node A L C
 have e4:=ta22 node A L C
 go_enter Tryz.func72,Tryz.ntmps72
 go_wp2_with fail
 refine(HO.out _).mono ?_
 rintro e w1 ⟨rfl,rfl⟩
 go_wp2_with fail
 refine(HC.out _ bB).mono ?_
 rintro e w2 ⟨rfl,hb⟩
 go_wp2
 go_ret
 exact⟨rfl,(show Zb w.heap.size w _ from bB).trans (hb.mono (by simp))⟩
theorem step3_few (node:Nat) (A:Option Addr) (l:List Hd) (C:Nat) (v:Int) (w:Zw) (hl:Hds w A l) (hlen:l.length≤100) (h4:(dataK l l.length).length < 4) (HC:Hid (∀ w',Zb w.heap.size w w'→Zc Zp 118 #[.slice A l.length C,.func (.func 117) #[.agg #[Z Y node,.slice A l.length C]] #[]] w' fun e w''=>e=.returned (Z Y v)∧Zb w'.heap.size w' w'')) :
 Zc Zp 72 #[Z Y 3,Z Y node,.slice A l.length C] w fun e w'=>e=.returned (Z Y v)∧Zb w.heap.size w w':=by
 have HO:=O (fun w=>sync_of3 node A l.length C w)
 have HD:=O (fun w' (hb:Zb w.heap.size w w')=>sync_data A l C w' (hl.below hb) hlen)
 generalize dataK l l.length=D at *
 have HM:=O (fun A C w=>mid_Few A C D w h4)
 have e1:=ta34 node A l.length C
 have e2:=ta33 node A l.length C
 clear hl hlen
 go_enter Tryz.func72,Tryz.ntmps72
 go_wp2_with fail
 refine(HO.out _).mono ?_
 rintro e w1 ⟨rfl,rfl⟩
 go_wp2_with fail
 refine(HD.out _ bB).mono ?_
 rintro e w2 ⟨v',rfl,hown,hb⟩
 obtain⟨VA,VC,rfl,_,_⟩:=ints_of_own hown
 clear hown
 go_wp2_with fail
 refine(HM.out _ _ _).mono ?_
 rintro e w3 ⟨rfl,hb2⟩
 have bl:w3.heap[w.heap.size]?=some (.cells #[Z Y node,.slice A l.length C] 204 (0,0)):=(hb2.block _ (by have:=hb.size;simp at this;omega)).trans ((hb.block _ (by simp)).trans (Zh w _))
 have x0:w3.cell? ⟨w.heap.size,0,none⟩=some (Z Y node):=by simp [World.cell?,bl]
 have x1:w3.cell? ⟨w.heap.size,1,none⟩=some (.slice A l.length C):=by simp [World.cell?,bl]
 have HB:=O ((show Zb w.heap.size w _ from bB).trans ((hb.mono (by simp)).trans (hb2.mono (by have:=hb.size;simp at this;omega))))
 clear bl hb hb2
 go_wp2_with fail
 refine(HC.out _ HB.out).mono ?_
 rintro e w4 ⟨rfl,hb⟩
 go_wp2
 go_ret
 exact⟨rfl,HB.out.trans (hb.mono HB.out.size)⟩
theorem step3_mid (node:Nat) (A:Option Addr) (l:List Hd) (C:Nat) (w:Zw) (hl:Hds w A l) (hlen:l.length≤100) (h4:4≤(dataK l l.length).length) (hd:∀ z ∈ dataK l l.length,-1000000≤z∧z≤1000000) :
 Zc Zp 72 #[Z Y 3,Z Y node,.slice A l.length C] w fun e w'=>e=.returned (Z Y (midF (dataK l l.length)))∧Zb w.heap.size w w':=by
 have HO:=O (fun w=>sync_of3 node A l.length C w)
 have HD:=O (fun w' (hb:Zb w.heap.size w w')=>sync_data A l C w' (hl.below hb) hlen)
 have hdl:=dataK_le l l.length
 generalize dataK l l.length=D at *
 have HM:=O (fun A C w (hI:Ints w A D)=>mid_Mid A C D w hI h4 (by omega) hd)
 generalize midF D=mv at *
 have e1:=ta34 node A l.length C
 have e2:=ta33 node A l.length C
 clear hl hlen hd
 go_enter Tryz.func72,Tryz.ntmps72
 go_wp2_with fail
 refine(HO.out _).mono ?_
 rintro e w1 ⟨rfl,rfl⟩
 go_wp2_with fail
 refine(HD.out _ bB).mono ?_
 rintro e w2 ⟨v',rfl,hown,hb⟩
 obtain⟨VA,VC,rfl,hI,_⟩:=ints_of_own hown
 have HI:=O hI
 clear hown hI
 go_wp2_with fail
 refine(HM.out _ _ _ HI.out).mono ?_
 rintro e w3 ⟨rfl,hb2⟩
 have HB:=O ((show Zb w.heap.size w _ from bB).trans ((hb.mono (by simp)).trans (hb2.mono (by have:=hb.size;simp at this;omega))))
 clear hb hb2
 go_wp2
 go_ret
 exact⟨rfl,HB.out⟩
theorem step4_few (node:Nat) (A:Option Addr) (l:List Hd) (C:Nat) (w:Zw) (hl:Hds w A l) (hlen:l.length≤100) (h3:(dataK l l.length).length < 3) :
 Zc Zp 72 #[Z Y 4,Z Y node,.slice A l.length C] w fun e w'=>e=.returned (Z Y 0)∧Zb w.heap.size w w':=by
 have HO:=O (fun w=>sync_of4 node A l.length C w)
 have HD:=O (fun w' (hb:Zb w.heap.size w w')=>sync_data A l C w' (hl.below hb) hlen)
 have e1:=ta4 A l.length C
 obtain⟨i0,hi,hz0,hz1,hz2⟩:=info_parts info3
 have HI:=O hi
 have HZ0:=O hz0
 have HZ1:=O hz1
 have HZ2:=O hz2
 clear hi hz0 hz1 hz2
 generalize dataK l l.length=D at *
 have HM:=O (fun A C w=>mid_Few A C (D ++ [0]) w (by simp;omega))
 clear hl
 go_enter Tryz.func72,Tryz.ntmps72
 go_wp2_with fail
 refine(HO.out _).mono ?_
 rintro e w1 ⟨rfl,rfl⟩
 go_wp2_with fail
 refine(HD.out _ bB).mono ?_
 rintro e w2 ⟨v,rfl,hown,hb⟩
 have hi:=HI.out
 have HB:=O hb
 have hzb:=hb.size
 simp at hzb
 have hown1:w2.ownsRow (w.heap.size+1) 3 1 v D.length (D.map (Z Y)):=by simpa using hown
 clear hb hown
 go_wp2_with (at_builtin;refine wpList_append_own _ rfl _ _ 22 rfl (w.heap.size+1) 3 i0 (Z Y 0) 1 8 Tryz.underlying22 hi HZ0.out HZ1.out HZ2.out rfl (by decide) _ _ _ rfl (hown1.alloc _) ⟨w2.heap.size,0,none⟩ 1 1 [Z Y 0] rfl rfl ?c1 ?c2 ?c3 ?c4 ?c5 ?_)
 case c1 =>
  intro j u hj
  match j,hj with
  | 0,hj=>simp at hj;subst hj;simp [Addr.add]
 case c2=>intro u hu;simp at hu;subst hu;rfl
 case c3=>unfold maxLen;omega
 case c4=>omega
 case c5=>simp;omega
 intro v' w3 hown' hgrow _
 have hb2:Zb w.heap.size w w3:=(((show Zb w.heap.size w _ from bB).trans (HB.out.mono (by simp))).alloc (by omega) _).grown hgrow (by simp;omega) (fun q hq=>by have:=ownsRow_block hown1 hq;omega)
 have HB2:=O hb2
 have hown2:w3.ownsRow (w.heap.size+1) 3 1 v' (D ++ [0]).length ((D ++ [0]).map (Z Y)):=by simpa using hown'
 obtain⟨VA,VC,rfl,_,_⟩:=ints_of_own hown2
 clear hgrow hown1 hb2 hown' hown2
 simp only [List.length_append,List.length_singleton]
 simp only [List.length_append,List.length_singleton]at HM
 go_wp2_with fail
 refine(HM.out _ _ _).mono ?_
 rintro e w4 ⟨rfl,hb4⟩
 go_wp2
 go_ret
 exact⟨rfl,HB2.out.trans (hb4.mono HB2.out.size)⟩
theorem step_active (node:Nat) (A:Option Addr) (l:List Hd) (C:Nat) (w:Zw) (hl:Hds w A l) (hlen:l.length≤100) (h3:3≤(dataK l l.length).length) (hd:∀ z ∈ dataK l l.length,-1000000≤z∧z≤1000000) :
 Zc Zp 72 #[Z Y 4,Z Y node,.slice A l.length C] w fun e w'=>e=.returned (Z Y (midF (dataK l l.length ++ [0])))∧Zb w.heap.size w w':=by
 have HO:=O (fun w=>sync_of4 node A l.length C w)
 have HD:=O (fun w' (hb:Zb w.heap.size w w')=>sync_data A l C w' (hl.below hb) hlen)
 have hdl:=dataK_le l l.length
 have e1:=ta4 A l.length C
 obtain⟨i0,hi,hz0,hz1,hz2⟩:=info_parts info3
 have HI:=O hi
 have HZ0:=O hz0
 have HZ1:=O hz1
 have HZ2:=O hz2
 clear hi hz0 hz1 hz2
 generalize dataK l l.length=D at *
 have HM:=O (fun A C w (hI:Ints w A (D ++ [0]))=>mid_Mid A C (D ++ [0]) w hI (by simp;omega) (by simp;omega) (fun z hz=>by
  rw [List.mem_append]at hz
  rcases hz with hz | hz
  ·exact hd z hz
  ·simp at hz;omega))
 generalize midF (D ++ [0])=mv at *
 clear hl hd
 go_enter Tryz.func72,Tryz.ntmps72
 go_wp2_with fail
 refine(HO.out _).mono ?_
 rintro e w1 ⟨rfl,rfl⟩
 go_wp2_with fail
 refine(HD.out _ bB).mono ?_
 rintro e w2 ⟨v,rfl,hown,hb⟩
 have hi:=HI.out
 have HB:=O hb
 have hzb:=hb.size
 simp at hzb
 have hown1:w2.ownsRow (w.heap.size+1) 3 1 v D.length (D.map (Z Y)):=by simpa using hown
 clear hb hown
 go_wp2_with (at_builtin;refine wpList_append_own _ rfl _ _ 22 rfl (w.heap.size+1) 3 i0 (Z Y 0) 1 8 Tryz.underlying22 hi HZ0.out HZ1.out HZ2.out rfl (by decide) _ _ _ rfl (hown1.alloc _) ⟨w2.heap.size,0,none⟩ 1 1 [Z Y 0] rfl rfl ?c1 ?c2 ?c3 ?c4 ?c5 ?_)
 case c1 =>
  intro j u hj
  match j,hj with
  | 0,hj=>simp at hj;subst hj;simp [Addr.add]
 case c2=>intro u hu;simp at hu;subst hu;rfl
 case c3=>unfold maxLen;omega
 case c4=>omega
 case c5=>simp;omega
 intro v' w3 hown' hgrow _
 have hb2:Zb w.heap.size w w3:=(((show Zb w.heap.size w _ from bB).trans (HB.out.mono (by simp))).alloc (by omega) _).grown hgrow (by simp;omega) (fun q hq=>by have:=ownsRow_block hown1 hq;omega)
 have HB2:=O hb2
 have hown2:w3.ownsRow (w.heap.size+1) 3 1 v' (D ++ [0]).length ((D ++ [0]).map (Z Y)):=by simpa using hown'
 obtain⟨VA,VC,rfl,hIv,_⟩:=ints_of_own hown2
 have HIv:=O hIv
 clear hgrow hown1 hb2 hown' hown2 hIv
 simp only [List.length_append,List.length_singleton]
 simp only [List.length_append,List.length_singleton]at HM
 go_wp2_with fail
 refine(HM.out _ _ _ HIv.out).mono ?_
 rintro e w4 ⟨rfl,hb4⟩
 go_wp2
 go_ret
 exact⟨rfl,HB2.out.trans (hb4.mono HB2.out.size)⟩
theorem dataK_none {l:List Hd} (h:∀ k,k < l.length→(l.getD k Hd.none).kind≠3):∀ k,k≤l.length→dataK l k=[]
 | 0,_=>rfl
 | k+1,hk=>by
  unfold dataK
  rw [if_neg (h k (by omega))]
  exact dataK_none h k (by omega)
theorem data_first (l:List Hd):∀ n,n≤l.length→(dataK l n=[]∧∀ k,k < n→(l.getD k Hd.none).kind≠3)∨∃ m r,m < n∧dataK l n=(l.getD m Hd.none).dev :: r∧(l.getD m Hd.none).kind=3∧∀ k,k < m→(l.getD k Hd.none).kind≠3
 | 0,_ =>.inl ⟨rfl,fun k hk=>absurd hk (by omega)⟩
 | n+1,hn=>by
  unfold dataK
  rcases data_first l n (by omega)with⟨h1,h2⟩ | ⟨m,r,h1,h2,h3,h4⟩
  ·by_cases e:(l.getD n Hd.none).kind=3
   ·rw [if_pos e,h1]
    exact .inr ⟨n,[],by omega,rfl,e,h2⟩
   ·rw [if_neg e]
    exact .inl ⟨h1,fun k hk=>by
     by_cases hkn:k=n
     ·rw [hkn];exact e
     ·exact h2 k (by omega)⟩
  ·refine .inr ⟨m,if(l.getD n Hd.none).kind=3 then r ++ [(l.getD n Hd.none).dev]else r,by omega,?_,h3,h4⟩
   rw [h2]
   split <;> rfl
def chosenG (l:List Hd) (ahead:Nat→Bool):Int:=match dataK l l.length with | x :: _=>x | []=>chosenF l ahead
theorem chosen1 (A:Option Addr) (l:List Hd) (C:Nat) (w:Zw) (hl:Hds w A l) (hlen:l.length≤100) :
 Zc Zp 118 #[.slice A l.length C,.func (.func 119) #[] #[]] w fun e w'=>e=.returned (Z Y (chosenG l (fun _=>false)))∧Zb w.heap.size w w':=by
 rcases data_first l l.length (Zr _)with⟨h1,h2⟩ | ⟨m,r,h1,h2,h3,h4⟩
 ·unfold chosenG
  rw [h1]
  cases l with
  | nil=>exact chosen_nil _ A C w
  | cons h r=>exact chosen_never A h r C w hl hlen h2
 ·unfold chosenG
  rw [h2]
  exact chosen_data _ A l C m w hl hlen h1 h3 h4
theorem chosen2 (node:Nat) (x:Option Addr) (y z:Nat) (A:Option Addr) (l:List Hd) (C:Nat) (w:Zw) (hl:Hds w A l) (hlen:l.length≤100) :
 Zc Zp 118 #[.slice A l.length C,.func (.func 120) #[.agg #[Z Y node,.slice x y z]] #[]] w fun e w'=>e=.returned (Z Y (chosenG l (fun k=>decide (node < k))))∧Zb w.heap.size w w':=by
 rcases data_first l l.length (Zr _)with⟨h1,h2⟩ | ⟨m,r,h1,h2,h3,h4⟩
 ·unfold chosenG
  rw [h1]
  cases l with
  | nil=>exact chosen_nil _ A C w
  | cons h r=>exact chosen_begins node x y z A h r C w hl hlen h2
 ·unfold chosenG
  rw [h2]
  exact chosen_data _ A l C m w hl hlen h1 h3 h4
theorem chosen3 (node:Nat) (x:Option Addr) (y z:Nat) (A:Option Addr) (l:List Hd) (C:Nat) (w:Zw) (hl:Hds w A l) (hlen:l.length≤100) :
 Zc Zp 118 #[.slice A l.length C,.func (.func 117) #[.agg #[Z Y node,.slice x y z]] #[]] w fun e w'=>e=.returned (Z Y (chosenG l (fun k=>decide (node < k))))∧Zb w.heap.size w w':=by
 rcases data_first l l.length (Zr _)with⟨h1,h2⟩ | ⟨m,r,h1,h2,h3,h4⟩
 ·unfold chosenG
  rw [h1]
  cases l with
  | nil=>exact chosen_nil _ A C w
  | cons h r=>exact chosen_joins node x y z A h r C w hl hlen h2
 ·unfold chosenG
  rw [h2]
  exact chosen_data _ A l C m w hl hlen h1 h3 h4
def syncF (st i:Nat) (l:List Hd):Int :=
 if st=4 then(if 3≤(dataK l l.length).length then midF (dataK l l.length ++ [0])else 0)
 else if st=3 then(if 4≤(dataK l l.length).length then midF (dataK l l.length)else chosenG l (fun k=>decide (i < k)))
 else if st=2 then chosenG l (fun k=>decide (i < k))else chosenG l (fun _=>false)
theorem step_any (st i:Nat) (A:Option Addr) (l:List Hd) (C:Nat) (w:Zw) (hst:1≤st∧st≤4) (hl:Hds w A l) (hlen:l.length≤100) (hd:∀ z ∈ dataK l l.length,-1000000≤z∧z≤1000000) :
 Zc Zp 72 #[Z Y st,Z Y i,.slice A l.length C] w fun e w'=>e=.returned (Z Y (syncF st i l))∧Zb w.heap.size w w':=by
 have h:st=1∨st=2∨st=3∨st=4:=by omega
 rcases h with rfl | rfl | rfl | rfl
 ·exact step1_of i A _ C _ w (O (fun w' hb=>chosen1 A l C w' (hl.below hb) hlen))
 ·exact step2_of i A _ C _ w (O (fun w' hb=>chosen2 i A l.length C A l C w' (hl.below hb) hlen))
 ·unfold syncF
  rw [if_neg (by decide),if_pos rfl]
  by_cases h4:4≤(dataK l l.length).length
  ·rw [if_pos h4];exact step3_mid i A l C w hl hlen h4 hd
  ·rw [if_neg h4];exact step3_few i A l C _ w hl hlen (by omega) (O (fun w' hb=>chosen3 i A l.length C A l C w' (hl.below hb) hlen))
 ·unfold syncF
  rw [if_pos rfl]
  by_cases h3:3≤(dataK l l.length).length
  ·rw [if_pos h3];exact step_active i A l C w hl hlen h3 hd
  ·rw [if_neg h3];exact step4_few i A l C w hl hlen (by omega)
end A40
namespace D9
open Go.RowKit A2 A6
def frontN:List UInt8→Nat
 | []=>0
 | c :: r=>if c.toNat=48∨c.toNat=49 then 1+frontN r else if c.toNat=35 then 1 else 0
theorem frontN_le:∀ l,frontN l≤l.length
 | []=>Zr _
 | c :: r=>by
  have:=frontN_le r
  unfold frontN
  split
  ·rw [List.length_cons];omega
  ·split <;> simp
theorem frontN_at (s:ByteArray) (h:0 < 1):∀ k,k≤s.size→(∀ i (hi:i < s.size),i < k→(s[i]'hi).toNat=48∨(s[i]'hi).toNat=49)→frontN s.data.toList=k+frontN (s.data.toList.drop k)
 | 0,_,_=>by simp
 | k+1,hk,hb=>by
  have h1:=frontN_at s h k (by omega) (fun i hi hlt=>hb i hi (by omega))
  have hlt:k < s.data.toList.length:=by rw [Array.length_toList];exact hk
  rw [h1,List.drop_eq_getElem_cons hlt]
  have h2:=hb k (by omega) (by omega)
  have h3:(s.data.toList[k]'hlt)=s[k]'(by omega):=by simp [ByteArray.getElem_eq_getElem_data]
  rw [← h3]at h2
  conv=>lhs;rw [frontN]
  rw [if_pos h2]
  omega
def cleanF (s:ByteArray):ByteArray:=s.extract 0 (frontN s.data.toList)
theorem front_strm:∀ l:List UInt8,∀ i (h:i < frontN l),(l[i]'(Nat.lt_of_lt_of_le h (frontN_le l))).toNat=48∨(l[i]'(Nat.lt_of_lt_of_le h (frontN_le l))).toNat=49∨((l[i]'(Nat.lt_of_lt_of_le h (frontN_le l))).toNat=35∧i+1=frontN l)
 | [],i,h=>absurd h (Nat.not_lt_zero _)
 | c :: r,0,h=>by
  unfold frontN at h
  by_cases h1:c.toNat=48∨c.toNat=49
  ·rcases h1 with h1 | h1
   ·exact .inl h1
   ·exact .inr (.inl h1)
  ·rw [if_neg h1]at h
   by_cases h2:c.toNat=35
   ·refine .inr (.inr ⟨h2,?_⟩)
    rw [frontN,if_neg h1,if_pos h2]
   ·rw [if_neg h2]at h;exact absurd h (Nat.lt_irrefl _)
 | c :: r,i+1,h=>by
  have hf:frontN (c :: r)=if c.toNat=48∨c.toNat=49 then 1+frontN r else if c.toNat=35 then 1 else 0:=rfl
  by_cases h1:c.toNat=48∨c.toNat=49
  ·rw [if_pos h1]at hf
   have h2:=front_strm r i (by omega)
   rcases h2 with h2 | h2 | ⟨h2,h3⟩
   ·exact .inl h2
   ·exact .inr (.inl h2)
   ·exact .inr (.inr ⟨h2,by omega⟩)
  ·rw [if_neg h1]at hf
   split at hf <;> omega
theorem cleanF_size (s:ByteArray):(cleanF s).size=frontN s.data.toList:=by
 have:=frontN_le s.data.toList
 rw [Array.length_toList]at this
 unfold cleanF
 simp
 exact Nat.min_eq_left this
theorem cleanF_strm {s:ByteArray} (h:s.size≤4000):Strm (cleanF s):=by
 have hle:=frontN_le s.data.toList
 rw [Array.length_toList]at hle
 have hle':frontN s.data.toList≤s.size:=hle
 refine⟨by rw [cleanF_size];omega,fun i hi=>?_⟩
 have hi':i < frontN s.data.toList:=by rw [← cleanF_size];exact hi
 have he:(cleanF s)[i]'hi=s.data.toList[i]'(Nat.lt_of_lt_of_le hi' (frontN_le _)):=by
  simp [cleanF,ByteArray.getElem_eq_getElem_data]
 rw [he,cleanF_size]
 exact front_strm _ i hi'
theorem bit_any (c:Int) (w:Zw) (h0:0≤c) (h1:c≤2147483647) (hc:c≠48∧c≠49) :
 Zc Zp 189 #[.int .i32 c] w fun e w'=>e=.returned (.bool false)∧w=w':=by
 have b1:(c == 48)=false:=beq_eq_false_iff_ne.mpr hc.1
 have b2:(c == 49)=false:=beq_eq_false_iff_ne.mpr hc.2
 go_enter Tryz.func189,Tryz.ntmps189
 go_wp2
 go_ret
 exact⟨rfl,rfl⟩
theorem Clean_any (s:ByteArray) (w:Zw) (h4:s.size≤4000) :
 Zc Zp 172 #[.string s] w fun e w'=>e=.returned (.string (cleanF s))∧Zb w.heap.size w w':=by
 go_enter Tryz.func172,Tryz.ntmps172
 go_wp2
 go_loopw [] (fun wr=>∃ pos:Nat,pos≤s.size∧wr=w.iter s pos∧Hid (∀ i (hi:i < s.size),i < pos→(s[i]'hi).toNat=48∨(s[i]'hi).toNat=49)) (fun wr=>s.size-wr.iterPos w.heap.size)
 case atStart=>exact⟨0,Nat.zero_le _,rfl,O (fun i hi h=>absurd h (Nat.not_lt_zero _))⟩
 case round =>
  obtain⟨pos,hp,rfl,hb⟩:=hrel
  have hfr:=frontN_at s Nat.one_pos pos hp hb.out
  by_cases hlt:pos < s.size
  ·have hdl:s.data.toList.drop pos=(s[pos]'hlt) :: s.data.toList.drop (pos+1):=by
    have h1:pos < s.data.toList.length:=by rw [Array.length_toList];exact hlt
    rw [List.drop_eq_getElem_cons h1]
    simp [ByteArray.getElem_eq_getElem_data]
   rw [hdl]at hfr
   have hf:frontN ((s[pos]'hlt) :: s.data.toList.drop (pos+1))=if(s[pos]'hlt).toNat=48∨(s[pos]'hlt).toNat=49 then 1+frontN (s.data.toList.drop (pos+1))else if(s[pos]'hlt).toNat=35 then 1 else 0:=rfl
   by_cases ha:(s[pos]'hlt).toNat < 128
   ·have hnx:=fun ty=>run_next_ascii (P:=Zp) w s pos ty hlt ha
    by_cases hbit:(s[pos]'hlt).toNat=48∨(s[pos]'hlt).toNat=49
    ·have hb':Hid (∀ i (hi:i < s.size),i < pos+1→(s[i]'hi).toNat=48∨(s[i]'hi).toNat=49):=O (fun i hi h=>by
      rcases Nat.lt_or_ge i pos with h1 | h1
      ·exact hb.out i hi h1
      ·obtain rfl:i=pos:=by omega
       exact hbit)
     clear hb hfr hdl hf ha
     rcases hbit with h | h
     ·rw [h]at hnx
      clear h
      go_wp2_with (go_at_call 189;refine(sym_bit _ _ (by decide)).mono ?_;rintro e w' ⟨rfl,rfl⟩)
      go_roundw
      case rel=>exact⟨pos+1,by omega,rfl,hb'⟩
      case measure=>simp;omega
     ·rw [h]at hnx
      clear h
      go_wp2_with (go_at_call 189;refine(sym_bit _ _ (by decide)).mono ?_;rintro e w' ⟨rfl,rfl⟩)
      go_roundw
      case rel=>exact⟨pos+1,by omega,rfl,hb'⟩
      case measure=>simp;omega
    ·rw [if_neg hbit]at hf
     by_cases h35:(s[pos]'hlt).toNat=35
     ·rw [if_pos h35]at hf
      have hx:s.extract 0 (pos+1)=cleanF s:=by unfold cleanF;rw [hfr,hf]
      have HX:=O hx
      rw [h35]at hnx
      clear hx hfr hdl hf ha hb hbit h35
      go_wp2
      go_ret
      exact⟨by rw [← HX.out];rfl,(Zf _ _).alloc (Zr _) _⟩
     ·rw [if_neg h35]at hf
      have hx:s.extract 0 pos=cleanF s:=by unfold cleanF;rw [hfr,hf,Nat.add_zero]
      have HX:=O hx
      generalize hc:(s[pos]'hlt).toNat=c at *
      have HB:=O (fun w=>bit_any (c:Int) w (by omega) (by omega) (by omega))
      have b1:((c:Int) == 35)=false:=by simp;omega
      clear hx hfr hdl hf ha hb hbit h35 hc
      go_wp2_with (go_at_call 189;refine(HB.out _).mono ?_;rintro e w' ⟨rfl,rfl⟩)
      go_ret
      exact⟨by rw [← HX.out];rfl,(Zf _ _).alloc (Zr _) _⟩
   ·have hnx:=fun ty=>run_next_any (P:=Zp) w s pos ty hlt
    have hdh:=decode_high s pos hlt (by omega)
    have hdle:=decode_le s pos
    rw [if_neg (by omega),if_neg (by omega)]at hf
    have hx:s.extract 0 pos=cleanF s:=by unfold cleanF;rw [hfr,hf,Nat.add_zero]
    have HX:=O hx
    generalize (Utf8.decode s pos).1=c at *
    generalize (Utf8.decode s pos).2=dl at *
    have HB:=O (fun w=>bit_any (c:Int) w (by omega) (by omega) (by omega))
    have b1:((c:Int) == 35)=false:=by simp;omega
    clear hx hfr hdl hf ha hb hdh hdle
    go_wp2_with (go_at_call 189;refine(HB.out _).mono ?_;rintro e w' ⟨rfl,rfl⟩)
    go_ret
    exact⟨by rw [← HX.out];rfl,(Zf _ _).alloc (Zr _) _⟩
  ·have hnx:=fun ty=>run_next_end (P:=Zp) w s pos ty hlt
   have hx:s=cleanF s:=by
    unfold cleanF
    rw [hfr,show pos=s.data.toList.length by rw [Array.length_toList];show pos=s.size;omega,List.drop_length]
    show s=s.extract 0 s.size
    exact(extract_all s).symm
   have HX:=O hx
   clear hx hfr hb
   go_wp2
   go_ret
   exact⟨by rw [← HX.out];rfl,(Zf _ _).alloc (Zr _) _⟩
end D9
namespace D10
open Go.RowKit A1
def pickI (n many:Int):Int:=if many≤0 then -1 else n%many
theorem pickI_le {n many:Int} (h:0 < many):0≤pickI n many∧pickI n many < many:=by
 unfold pickI
 rw [if_neg (by omega)]
 exact⟨Int.emod_nonneg _ (by omega),Int.emod_lt_of_pos _ h⟩
theorem fault_pick (n many:Int) (w:Zw) (h2:many≤100000) :
 Zc Zp 146 #[Z Y n,Z Y many] w fun e w'=>e=.returned (Z Y (pickI n many))∧w=w':=by
 unfold pickI
 by_cases h:many≤0
 ·rw [if_pos h]
  have d:decide (many≤0)=true:=decide_eq_true h
  go_enter Tryz.func146,Tryz.ntmps146
  go_wp2
  go_ret
  exact⟨rfl,rfl⟩
 ·rw [if_neg h]
  have d:decide (many≤0)=false:=decide_eq_false h
  have n0:¬ many=0:=by omega
  have hr:=rem_lt n many (by omega)
  have H:=O (tmod_pos n many (by omega))
  have n1:IntKind.i64.wrap (n.tmod many+many)=n.tmod many+many:=by rw [IntKind.wrap_i64];omega
  clear hr h
  go_enter Tryz.func146,Tryz.ntmps146
  go_wp2
  go_ret
  exact⟨by rw [← H.out];rfl,rfl⟩
def turnB (c:Int):Int:=if c=49∨c=35 then 48 else if c=48 then 49 else c
theorem turned (c:Int) (w:Zw) (h:c=48∨c=49∨c=35) :
 Zc Zp 219 #[.int .u8 c] w fun e w'=>e=.returned (.int .u8 (turnB c))∧w=w':=by
 rcases h with rfl | rfl | rfl <;>
 ·go_enter Tryz.func219,Tryz.ntmps219
  go_wp2
  go_ret
  exact⟨rfl,rfl⟩
theorem node_hits (a f t:Int) (w:Zw):Zc Zp 263 #[.agg #[Z Y a],Z Y f,Z Y t] w fun e w'=>e=.returned (.bool (f == a))∧Zb w.heap.size w w':=by
 go_enter Tryz.func263,Tryz.ntmps263
 go_wp2
 go_ret
 exact⟨rfl,by repeat(first | exact Zf _ _ | refine Below.alloc ?_ (Zr _) _)⟩
theorem node_wrong (a n:Int) (w:Zw):Zc Zp 145 #[.agg #[Z Y a],Z Y n] w fun e w'=>e=.returned (.bool (n == a))∧Zb w.heap.size w w':=by
 go_enter Tryz.func145,Tryz.ntmps145
 go_wp2
 go_ret
 exact⟨rfl,by repeat(first | exact Zf _ _ | refine Below.alloc ?_ (Zr _) _)⟩
end D10
namespace D11
open Go.RowKit A1 A6 D10
def turnU (c:UInt8):UInt8:=if c.toNat=49∨c.toNat=35 then 48 else if c.toNat=48 then 49 else c
theorem turnU_int (c:UInt8):((turnU c).toNat:Int)=turnB c.toNat:=by
 unfold turnU turnB
 by_cases h1:c.toNat=49∨c.toNat=35
 ·have h2:(c.toNat:Int)=49∨(c.toNat:Int)=35:=by omega
  simp only [if_pos h1,if_pos h2];rfl
 ·have h2:¬((c.toNat:Int)=49∨(c.toNat:Int)=35):=by omega
  by_cases h3:c.toNat=48
  ·have h4:(c.toNat:Int)=48:=by omega
   simp only [if_neg h1,if_neg h2,if_pos h3,if_pos h4];rfl
  ·have h4:¬(c.toNat:Int)=48:=by omega
   simp only [if_neg h1,if_neg h2,if_neg h3,if_neg h4]
def turnF (s:ByteArray) (k:Nat):ByteArray:=⟨(s.data.toList.set k (turnU (s.data.toList.getD k 0))).toArray⟩
theorem turnF_size (s:ByteArray) (k:Nat):(turnF s k).size=s.size:=by
 show(s.data.toList.set k _).length=s.data.size
 rw [List.length_set,Array.length_toList]
theorem Turn_out (s:ByteArray) (k:Int) (w:Zw) (hk:k < 0) :
 Zc Zp 207 #[.string s,Z Y k] w fun e w'=>e=.returned (.string s)∧Zb w.heap.size w w':=by
 have d1:decide (k < 0)=true:=decide_eq_true hk
 go_enter Tryz.func207,Tryz.ntmps207
 go_wp2
 go_ret
 exact⟨rfl,by repeat(first | exact Zf _ _ | refine Below.drew ?_ | refine below_drewN ?_ _)⟩
theorem Turn_in (s:ByteArray) (k:Nat) (w:Zw) (hs:Strm s) (hk:k < s.size) :
 Zc Zp 207 #[.string s,Z Y k] w fun e w'=>e=.returned (.string (turnF s k))∧Zb w.heap.size w w':=by
 have d1:decide ((k:Int) < 0)=false:=by simp
 have d2:decide ((k:Int)≥s.size)=false:=by simp;omega
 have lk0:(0:Int)≤(k:Int):=by omega
 have lk1:(k:Int) < (s.size:Int):=by omega
 have hcv:=Lib.run_convert_string_bytes (P:=Zp) w 9 161 5 s Tryz.underlying9 Tryz.underlying161 Tryz.underlying5
 have hz:=Lib.bytesWorld_size w 5 s
 have hold:=fun j (hj:j < w.heap.size)=>Lib.bytesWorld_at_old w 5 s j hj
 have hnew:=Lib.bytesWorld_at_new w 5 s
 have hcell:=fun j (hj:j < s.size)=>Lib.bytesWorld_cell w 5 s j hj
 have hos:(Lib.bytesWorld w 5 s).os=w.os∧(Lib.bytesWorld w 5 s).output=w.output:=⟨rfl,rfl⟩
 have hB:Zb w.heap.size w (Lib.bytesWorld w 5 s):=by
  refine⟨rfl,rfl,rfl,by rw [hz];omega,fun q hq=>hold q hq⟩
 have hc:=hcell k hk
 have h3:=hs.2 k hk
 have hby:(s[k]'hk)=s.data.toList.getD k 0:=by
  rw [List.getD_eq_getElem?_getD,List.getElem?_eq_getElem (by rw [Array.length_toList];exact hk)]
  simp [ByteArray.getElem_eq_getElem_data]
 rw [hby]at h3
 have hT:=turnU_int (s.data.toList.getD k 0)
 have hcs:((Lib.bytesCells w 5 s).size)≥s.size:=by simp [Lib.bytesCells]
 have hfz:(Lib.bytesWorld w 5 s).frozen? ⟨w.heap.size,k,none⟩=false:=by
  simp [World.frozen?,hnew]
  omega
 have HF:Hid (turnF s k=⟨(s.data.toList.set k (turnU (s.data.toList.getD k 0))).toArray⟩):=rfl
 generalize hU:turnU (s.data.toList.getD k 0)=U at *
 generalize hC:s.data.toList.getD k 0=c at *
 have HTu:=O (fun w=>turned (c.toNat:Int) w (by omega))
 generalize Lib.bytesWorld w 5 s=w1 at *
 have hback:∀ cap,(convert 161 9 (.slice (some ⟨w.heap.size,0,none⟩) s.size cap)).run Zp (w1.setCell ⟨w.heap.size,k,none⟩ (.int .u8 (turnB c.toNat)))=.ok (.string (turnF s k)) (w1.setCell ⟨w.heap.size,k,none⟩ (.int .u8 (turnB c.toNat))):=by
  intro cap
  have:=run_convert_bytes_back (P:=Zp) (w1.setCell ⟨w.heap.size,k,none⟩ (.int .u8 (turnB c.toNat))) 161 9 5 ⟨w.heap.size,0,none⟩ cap (s.data.toList.set k U) Tryz.underlying161 Tryz.underlying5 Tryz.underlying9 (fun j hj=>by
   have hj':j < s.size:=by rw [List.length_set,Array.length_toList]at hj;exact hj
   have e1:(Addr.add ⟨w.heap.size,0,none⟩ j)=⟨w.heap.size,j,none⟩:=by simp [Addr.add];omega
   rw [e1]
   by_cases e:k=j
   ·subst e
    rw [World.cell?_setCell_same _ _ _ hc,List.getElem_set_self,hT]
   ·rw [Zo _ _ _ _ (fun h=>e (by injection h)),hcell j hj',List.getElem_set_ne e]
    rw [List.getD_eq_getElem?_getD,List.getElem?_eq_getElem (by rw [Array.length_toList];exact hj'),Option.getD_some])
  rw [List.length_set,Array.length_toList]at this
  rw [HF.out]
  exact this
 have hback:=hback (grownCap w s.size 0 5)
 have HB:=O hB
 clear hcell hold hnew hos hby h3 hT hB hs hcs HF
 go_enter Tryz.func207,Tryz.ntmps207
 go_wp2_with (go_at_call 219;refine(HTu.out _).mono ?_;rintro e w' ⟨rfl,rfl⟩)
 go_ret
 exact⟨rfl,HB.out.setCell (p:=⟨w.heap.size,k,none⟩) (Zr _) _⟩
end D11
namespace D12
open Go.RowKit A11 A22 A28 A30
def RetF (f:Fr) (w:Zw) (e:Ending) (w':Zw):Prop:=∃ EA EC,e=.returned (.agg #[Z Y f.kind,Z Y f.round,Z Y f.slot,Z Y f.pk,Z Y f.pv,.slice EA f.echo.length EC])∧Items w' EA f.echo∧(∀ b off,EA=some ⟨b,off,none⟩→w.heap.size≤b)∧Zb w.heap.size w w'
theorem told_yes (N:Nat) (Pi Er G Fi:Int) (PA:Option Addr) (PL PC:Nat) (round slot:Int) (s:ByteArray) (f:Fr) (w:Zw) (hk:f.kind=3)
 (H:Hid (∀ w,Zc Zp 179 #[.agg #[Z Y N,Z Y Pi,Z Y Er,Z Y G,Z Y Fi,.slice PA PL PC],.string s] w (RetFr f w))) :
 Zc Zp 208 #[.agg #[Z Y N,Z Y Pi,Z Y Er,Z Y G,Z Y Fi,.slice PA PL PC],Z Y round,Z Y slot,.string s] w (RetF f w):=by
 have k3:((f.kind:Int) == 3)=true:=by simp;omega
 clear hk
 go_enter Tryz.func208,Tryz.ntmps208
 go_wp2_with fail
 refine(H.out _).mono ?_
 rintro e w1 ⟨EA,EC,rfl,hI,hEA,hb1⟩
 have HEA:=O hEA
 clear hEA
 have bx:w1.heap[w.heap.size+1]?=some (.cells #[Z Y 0,Z Y 0,Z Y 0,Z Y 0,Z Y 0,.slice none 0 0] 118 (0,0)):=(hb1.block _ (by simp)).trans (by
  have:=Zh (w.alloc (.cells #[Z Y N,Z Y Pi,Z Y Er,Z Y G,Z Y Fi,.slice PA PL PC] 24)) (.cells #[Z Y 0,Z Y 0,Z Y 0,Z Y 0,Z Y 0,.slice none 0 0] 118)
  simpa using this)
 have hz1:=heap_lt bx
 have hB1:Zb w.heap.size w w1:=Below.trans (show Zb w.heap.size w _ from bB) (hb1.mono (by simp;omega))
 obtain⟨w2,hw2⟩:∃ w2,w2=w1.alloc (.cells #[Z Y f.kind,Z Y f.round,Z Y f.slot,Z Y f.pk,Z Y f.pv,.slice EA f.echo.length EC] 118):=⟨_,rfl⟩
 have hal:Zb w1.heap.size w1 w2:=by rw [hw2];exact(Zf _ _).alloc (Zr _) _
 have hx2:=(hal.block _ hz1).trans bx
 have hf2:w2.heap[w1.heap.size]?=some (.cells #[Z Y f.kind,Z Y f.round,Z Y f.slot,Z Y f.pk,Z Y f.pv,.slice EA f.echo.length EC] 118 (0,0)):=by rw [hw2];exact Zh w1 _
 have HI2:=O (hI.below hal)
 have HB2:=O (hB1.trans (hal.mono (by omega)))
 have HW2:=O hw2
 have x0:w2.cell? ⟨w.heap.size+1,0,none⟩=some (Z Y 0):=by simp [World.cell?,hx2]
 have x1:w2.cell? ⟨w.heap.size+1,1,none⟩=some (Z Y 0):=by simp [World.cell?,hx2]
 have x2:w2.cell? ⟨w.heap.size+1,2,none⟩=some (Z Y 0):=by simp [World.cell?,hx2]
 have x3:w2.cell? ⟨w.heap.size+1,3,none⟩=some (Z Y 0):=by simp [World.cell?,hx2]
 have x4:w2.cell? ⟨w.heap.size+1,4,none⟩=some (Z Y 0):=by simp [World.cell?,hx2]
 have x5:w2.cell? ⟨w.heap.size+1,5,none⟩=some (.slice none 0 0):=by simp [World.cell?,hx2]
 have y0:∀ o,w2.frozen? ⟨w.heap.size+1,o,none⟩=false:=fun o=>by simp [World.frozen?,hx2]
 have g0:w2.cell? ⟨w1.heap.size,0,none⟩=some (Z Y f.kind):=by simp [World.cell?,hf2]
 have g1:w2.cell? ⟨w1.heap.size,1,none⟩=some (Z Y f.round):=by simp [World.cell?,hf2]
 have g2:w2.cell? ⟨w1.heap.size,2,none⟩=some (Z Y f.slot):=by simp [World.cell?,hf2]
 have g3:w2.cell? ⟨w1.heap.size,3,none⟩=some (Z Y f.pk):=by simp [World.cell?,hf2]
 have g4:w2.cell? ⟨w1.heap.size,4,none⟩=some (Z Y f.pv):=by simp [World.cell?,hf2]
 have g5:w2.cell? ⟨w1.heap.size,5,none⟩=some (.slice EA f.echo.length EC):=by simp [World.cell?,hf2]
 have hz2:w.heap.size+1 < w2.heap.size:=heap_lt hx2
 clear bx hB1 hb1 hI hx2 hf2 hal hw2
 go_upto_region 2 with fail
 rw [← HW2.out]
 clear HW2
 go_wp2
 refine bodyPost_ret (v :=.agg #[Z Y f.kind,Z Y f.round,Z Y f.slot,Z Y f.pk,Z Y f.pv,.slice EA f.echo.length EC]) (by simp [results,Tryz.results208,go_sem,x0,x1,x2,x3,x4,x5]) rfl ⟨EA,EC,rfl,?_,?_,below6 HB2.out (by omega)⟩
 ·exact items6 HI2.out (fun b off e=>by have:=HEA.out b off e;simp at this;omega)
 ·intro b off e
  have:=HEA.out b off e
  simp at this
  omega
end D12
namespace D13
open Go.RowKit A11 A22 A28 A30 D5
def RetNo (w:Zw) (e:Ending) (w':Zw):Prop:=∃(k a0 a1 a2 a3 a4:Nat) (A:Option Addr) (L C:Nat),e=.returned (.tuple #[.agg #[Z Y a0,Z Y a1,Z Y a2,Z Y a3,Z Y a4,.slice A L C],Z Y k])∧(k≠0∨(k=0∧a0≠3))∧Zb w.heap.size w w'
theorem RetErr.no {w:Zw} {e:Ending} {w':Zw} (h:RetErr w e w'):RetNo w e w':=by
 obtain⟨k,hk,rfl,hb⟩:=h
 exact⟨k,0,0,0,0,0,none,0,0,rfl,.inl hk,hb⟩
theorem RetFr.no {f:Fr} {w:Zw} {e:Ending} {w':Zw} (hk:f.kind≠3) (h:RetFr f w e w'):RetNo w e w':=by
 obtain⟨EA,EC,rfl,_,_,hb⟩:=h
 exact⟨0,f.kind,f.round,f.slot,f.pk,f.pv,EA,f.echo.length,EC,rfl,.inr ⟨rfl,hk⟩,hb⟩
theorem told_pair (N:Nat) (Pi Er G Fi:Int) (PA:Option Addr) (PL PC:Nat) (round slot wire:Int) (s:ByteArray) (w:Zw) (hs:(N:Int)≤slot)
 (H:Hid (∀ w,Zc Zp 179 #[.agg #[Z Y N,Z Y Pi,Z Y Er,Z Y G,Z Y Fi,.slice PA PL PC],.string s] w (RetNo w)))
 (HWi:Hid (∀ w,Zc Zp 96 #[.agg #[Z Y N,Z Y Pi,Z Y Er,Z Y G,Z Y Fi,.slice PA PL PC],Z Y round] w fun e w'=>e=.returned (Z Y wire)∧Zb w.heap.size w w')) :
 Zc Zp 208 #[.agg #[Z Y N,Z Y Pi,Z Y Er,Z Y G,Z Y Fi,.slice PA PL PC],Z Y round,Z Y slot,.string s] w (fun e w'=>e=.returned (.agg #[Z Y 3,Z Y wire,Z Y slot,Z Y 1,Z Y 0,.slice none 0 0])∧Zb w.heap.size w w'):=by
 have d1:decide (slot < (N:Int))=false:=decide_eq_false (by omega)
 go_enter Tryz.func208,Tryz.ntmps208
 go_wp2_with fail
 refine(H.out _).mono ?_
 rintro e w1 ⟨k,a0,a1,a2,a3,a4,A,L,CC,rfl,hk,hb1⟩
 have bx:w1.heap[w.heap.size+1]?=some (.cells #[Z Y 0,Z Y 0,Z Y 0,Z Y 0,Z Y 0,.slice none 0 0] 118 (0,0)):=(hb1.block _ (by simp)).trans (by
  have:=Zh (w.alloc (.cells #[Z Y N,Z Y Pi,Z Y Er,Z Y G,Z Y Fi,.slice PA PL PC] 24)) (.cells #[Z Y 0,Z Y 0,Z Y 0,Z Y 0,Z Y 0,.slice none 0 0] 118)
  simpa using this)
 have bc:w1.heap[w.heap.size]?=some (.cells #[Z Y N,Z Y Pi,Z Y Er,Z Y G,Z Y Fi,.slice PA PL PC] 24 (0,0)):=(hb1.block _ (by simp;omega)).trans ((Below.heap_alloc _ _ _ (by simp)).trans (Zh w _))
 have hz1:=heap_lt bx
 have hB1:Zb w.heap.size w w1:=Below.trans (show Zb w.heap.size w _ from bB) (hb1.mono (by simp;omega))
 obtain⟨w2,hw2⟩:∃ w2,w2=w1.alloc (.cells #[Z Y a0,Z Y a1,Z Y a2,Z Y a3,Z Y a4,.slice A L CC] 118):=⟨_,rfl⟩
 have hal:Zb w1.heap.size w1 w2:=by rw [hw2];exact(Zf _ _).alloc (Zr _) _
 have hx2:=(hal.block _ hz1).trans bx
 have hc2:=(hal.block w.heap.size (by omega)).trans bc
 have hf2:w2.heap[w1.heap.size]?=some (.cells #[Z Y a0,Z Y a1,Z Y a2,Z Y a3,Z Y a4,.slice A L CC] 118 (0,0)):=by rw [hw2];exact Zh w1 _
 have HB2:=O (hB1.trans (hal.mono (by omega)))
 have HX2:=O hx2
 have HC2:=O hc2
 have HF2:=O hf2
 have HW2:=O hw2
 have hz2:=heap_lt hf2
 have g0:w2.cell? ⟨w1.heap.size,0,none⟩=some (Z Y a0):=by simp [World.cell?,hf2]
 have c0:w2.cell? ⟨w.heap.size,0,none⟩=some (Z Y N):=by simp [World.cell?,HC2.out]
 have c1:w2.cell? ⟨w.heap.size,1,none⟩=some (Z Y Pi):=by simp [World.cell?,HC2.out]
 have c2:w2.cell? ⟨w.heap.size,2,none⟩=some (Z Y Er):=by simp [World.cell?,HC2.out]
 have c3:w2.cell? ⟨w.heap.size,3,none⟩=some (Z Y G):=by simp [World.cell?,HC2.out]
 have c4:w2.cell? ⟨w.heap.size,4,none⟩=some (Z Y Fi):=by simp [World.cell?,HC2.out]
 have c5:w2.cell? ⟨w.heap.size,5,none⟩=some (.slice PA PL PC):=by simp [World.cell?,HC2.out]
 clear bx bc hB1 hb1 hx2 hc2 hf2 hal hw2
 have hq:∃ q0 q1:Bool,((k:Int) == 0)=q0∧((a0:Int) == 3)=q1∧(q0 && q1)=false:=⟨_,_,rfl,rfl,by rcases hk with h | ⟨h,h'⟩ <;> simp <;> omega⟩
 obtain⟨q0,q1,hq0,hq1,hq2⟩:=hq
 clear hk
 rcases q0 with _ | _
 all_goals (rcases q1 with _ | _)
 all_goals (first | (exfalso;revert hq2;decide) | skip)
 all_goals clear hq2
 all_goals (
  go_upto_region 2 with fail
  rw [← HW2.out]
  clear HW2
  go_wp2_with fail
  refine(HWi.out _).mono ?_
  rintro e w3 ⟨rfl,hb3'⟩
  have hb3:Zb w2.heap.size w2 w3:=⟨hb3'.os,hb3'.tape,hb3'.output,hb3'.size,hb3'.block⟩
  have HB3:=O (HB2.out.trans (hb3.mono (by omega)))
  have hx3:=(hb3.block (w.heap.size+1) (by omega)).trans HX2.out
  have hf3:=(hb3.block _ hz2).trans HF2.out
  have hc3:=(hb3.block w.heap.size (by omega)).trans HC2.out
  have hz3:=heap_lt hf3
  have x0:w3.cell? ⟨w.heap.size+1,0,none⟩=some (Z Y 0):=by simp [World.cell?,hx3]
  have x1:w3.cell? ⟨w.heap.size+1,1,none⟩=some (Z Y 0):=by simp [World.cell?,hx3]
  have x2:w3.cell? ⟨w.heap.size+1,2,none⟩=some (Z Y 0):=by simp [World.cell?,hx3]
  have x3:w3.cell? ⟨w.heap.size+1,3,none⟩=some (Z Y 0):=by simp [World.cell?,hx3]
  have x4:w3.cell? ⟨w.heap.size+1,4,none⟩=some (Z Y 0):=by simp [World.cell?,hx3]
  have x5:w3.cell? ⟨w.heap.size+1,5,none⟩=some (.slice none 0 0):=by simp [World.cell?,hx3]
  have y0:∀ o,w3.frozen? ⟨w.heap.size+1,o,none⟩=false:=fun o=>by simp [World.frozen?,hx3]
  have u0:w3.cell? ⟨w1.heap.size,0,none⟩=some (Z Y a0):=by simp [World.cell?,hf3]
  have u1:w3.cell? ⟨w1.heap.size,1,none⟩=some (Z Y a1):=by simp [World.cell?,hf3]
  have u2:w3.cell? ⟨w1.heap.size,2,none⟩=some (Z Y a2):=by simp [World.cell?,hf3]
  have u3:w3.cell? ⟨w1.heap.size,3,none⟩=some (Z Y a3):=by simp [World.cell?,hf3]
  have u4:w3.cell? ⟨w1.heap.size,4,none⟩=some (Z Y a4):=by simp [World.cell?,hf3]
  have u5:w3.cell? ⟨w1.heap.size,5,none⟩=some (.slice A L CC):=by simp [World.cell?,hf3]
  have uf:∀ o,w3.frozen? ⟨w1.heap.size,o,none⟩=false:=fun o=>by simp [World.frozen?,hf3]
  have p0:w3.cell? ⟨w.heap.size,0,none⟩=some (Z Y N):=by simp [World.cell?,hc3]
  have nFX:w1.heap.size≠w.heap.size+1:=by omega
  have nXF:w.heap.size+1≠w1.heap.size:=by omega
  have nFW:w1.heap.size≠w.heap.size:=by omega
  clear hx3 hf3 hc3 hb3 hb3' g0 c0 c1 c2 c3 c4 c5 HX2 HC2 HF2 HB2
  generalize w1.heap.size=F at *
  go_wp2
  refine bodyPost_ret (v :=.agg #[Z Y 3,Z Y wire,Z Y slot,Z Y 1,Z Y 0,.slice none 0 0]) (by simp [results,Tryz.results208,go_sem,x0,x1,x2,x3,x4,x5,nFX,nXF]) rfl ⟨rfl,?_⟩
  refine below6 (below6 HB3.out (by omega)) (by omega)
 )
end D13
namespace D14
open Go.RowKit A1 A11 A18 A30 D13
theorem mkI (n:Nat) (hn:n≤100) (w:Zw):(Instr.makeSlice 59 (Z Y (n:Int)) (Z Y (n:Int))).run Zp w=.ok (.slice (some ⟨w.heap.size,0,none⟩) n n) (w.alloc (.cells (madeCells #[Z Y 0,Z Y 0] (n*2)) 44)):=by
 obtain⟨i,hi,hz,hs,hb⟩:=info_parts CL.info44
 have:=run_make_n (P:=Zp) 59 44 i _ Tryz.underlying59 hi hz n hn (by omega) w
 rw [hs]at this
 exact this
structure NullK (w:Zw) (E n k:Nat):Prop where
 a:∀ j,j < n→w.cell? ⟨E,j*2,none⟩=some (Z Y (if j < k then 1 else 0))∧w.cell? ⟨E,j*2+1,none⟩=some (Z Y 0)
 z:∀ o,w.frozen? ⟨E,o,none⟩=false
 lt:E < w.heap.size
theorem NullK.start {w:Zw} {E n:Nat} (h:w.heap[E]?=some (.cells (madeCells #[Z Y 0,Z Y 0] (n*2)) 44 (0,0))):NullK w E n 0:=by
 refine⟨fun j hj=>?_,fun o=>by simp [World.frozen?,h],heap_lt h⟩
 constructor
 ·rw [Lib.cell_of_heap h,made_at _ _ _ (by omega)]
  have:(j*2)%2=0:=by omega
  simp [this]
 ·rw [Lib.cell_of_heap h,made_at _ _ _ (by omega)]
  have:(j*2+1)%2=1:=by omega
  simp [this]
theorem NullK.next {w:Zw} {E n k:Nat} (h:NullK w E n k) (hk:k < n):NullK (w.setCell ⟨E,k*2,none⟩ (Z Y 1)) E n (k+1):=by
 refine⟨fun j hj=>⟨?_,?_⟩,fun o=>by rw [World.frozen?_setCell];exact h.z o,by simp [World.setCell];exact h.lt⟩
 ·by_cases e:j=k
  ·subst e
   rw [World.cell?_setCell_same _ _ _ (h.a j hj).1,if_pos (by omega)]
  ·rw [Zo _ _ _ _ (fun h=>e (by injection h;omega)),(h.a j hj).1]
   by_cases e2:j < k
   ·rw [if_pos e2,if_pos (by omega)]
   ·rw [if_neg e2,if_neg (by omega)]
 ·rw [Zo _ _ _ _ (fun h=>by injection h;omega)]
  exact(h.a j hj).2
theorem told_own (N:Nat) (Pi Er G Fi:Int) (PA:Option Addr) (PL PC:Nat) (round slot wire:Int) (s:ByteArray) (w:Zw) (hs:slot < (N:Int)) (hN:N≤12) (hP:PL≤3)
 (H:Hid (∀ w,Zc Zp 179 #[.agg #[Z Y N,Z Y Pi,Z Y Er,Z Y G,Z Y Fi,.slice PA PL PC],.string s] w (RetNo w)))
 (HWi:Hid (∀ w,Zc Zp 96 #[.agg #[Z Y N,Z Y Pi,Z Y Er,Z Y G,Z Y Fi,.slice PA PL PC],Z Y round] w fun e w'=>e=.returned (Z Y wire)∧Zb w.heap.size w w')) :
 Zc Zp 208 #[.agg #[Z Y N,Z Y Pi,Z Y Er,Z Y G,Z Y Fi,.slice PA PL PC],Z Y round,Z Y slot,.string s] w (fun e w'=>∃ E,w.heap.size≤E∧e=.returned (.agg #[Z Y 3,Z Y wire,Z Y slot,Z Y 1,Z Y 0,.slice (some ⟨E,0,none⟩) (N+PL) (N+PL)])∧NullK w' E (N+PL) (N+PL)∧Zb w.heap.size w w'):=by
 have d1:decide (slot < (N:Int))=true:=decide_eq_true hs
 have HS:=O (fun w=>conf_Slots N Pi Er G Fi PA PL PC w (by omega) (by omega) hP)
 go_enter Tryz.func208,Tryz.ntmps208
 go_wp2_with fail
 refine(H.out _).mono ?_
 rintro e w1 ⟨k,a0,a1,a2,a3,a4,A,L,CC,rfl,hk,hb1⟩
 have bx:w1.heap[w.heap.size+1]?=some (.cells #[Z Y 0,Z Y 0,Z Y 0,Z Y 0,Z Y 0,.slice none 0 0] 118 (0,0)):=(hb1.block _ (by simp)).trans (by
  have:=Zh (w.alloc (.cells #[Z Y N,Z Y Pi,Z Y Er,Z Y G,Z Y Fi,.slice PA PL PC] 24)) (.cells #[Z Y 0,Z Y 0,Z Y 0,Z Y 0,Z Y 0,.slice none 0 0] 118)
  simpa using this)
 have bc:w1.heap[w.heap.size]?=some (.cells #[Z Y N,Z Y Pi,Z Y Er,Z Y G,Z Y Fi,.slice PA PL PC] 24 (0,0)):=(hb1.block _ (by simp;omega)).trans ((Below.heap_alloc _ _ _ (by simp)).trans (Zh w _))
 have hz1:=heap_lt bx
 have hB1:Zb w.heap.size w w1:=Below.trans (show Zb w.heap.size w _ from bB) (hb1.mono (by simp;omega))
 obtain⟨w2,hw2⟩:∃ w2,w2=w1.alloc (.cells #[Z Y a0,Z Y a1,Z Y a2,Z Y a3,Z Y a4,.slice A L CC] 118):=⟨_,rfl⟩
 have hal:Zb w1.heap.size w1 w2:=by rw [hw2];exact(Zf _ _).alloc (Zr _) _
 have hx2:=(hal.block _ hz1).trans bx
 have hc2:=(hal.block w.heap.size (by omega)).trans bc
 have hf2:w2.heap[w1.heap.size]?=some (.cells #[Z Y a0,Z Y a1,Z Y a2,Z Y a3,Z Y a4,.slice A L CC] 118 (0,0)):=by rw [hw2];exact Zh w1 _
 have HB2:=O (hB1.trans (hal.mono (by omega)))
 have HX2:=O hx2
 have HC2:=O hc2
 have HF2:=O hf2
 have HW2:=O hw2
 have hz2:=heap_lt hf2
 have g0:w2.cell? ⟨w1.heap.size,0,none⟩=some (Z Y a0):=by simp [World.cell?,hf2]
 have c0:w2.cell? ⟨w.heap.size,0,none⟩=some (Z Y N):=by simp [World.cell?,HC2.out]
 have c1:w2.cell? ⟨w.heap.size,1,none⟩=some (Z Y Pi):=by simp [World.cell?,HC2.out]
 have c2:w2.cell? ⟨w.heap.size,2,none⟩=some (Z Y Er):=by simp [World.cell?,HC2.out]
 have c3:w2.cell? ⟨w.heap.size,3,none⟩=some (Z Y G):=by simp [World.cell?,HC2.out]
 have c4:w2.cell? ⟨w.heap.size,4,none⟩=some (Z Y Fi):=by simp [World.cell?,HC2.out]
 have c5:w2.cell? ⟨w.heap.size,5,none⟩=some (.slice PA PL PC):=by simp [World.cell?,HC2.out]
 clear bx bc hB1 hb1 hx2 hc2 hf2 hal hw2
 have hq:∃ q0 q1:Bool,((k:Int) == 0)=q0∧((a0:Int) == 3)=q1∧(q0 && q1)=false:=⟨_,_,rfl,rfl,by rcases hk with h | ⟨h,h'⟩ <;> simp <;> omega⟩
 obtain⟨q0,q1,hq0,hq1,hq2⟩:=hq
 clear hk
 rcases q0 with _ | _
 all_goals (rcases q1 with _ | _)
 all_goals (first | (exfalso;revert hq2;decide) | skip)
 all_goals clear hq2
 all_goals (
  go_upto_region 2 with fail
  rw [← HW2.out]
  clear HW2
  go_wp2_with fail
  refine(HWi.out _).mono ?_
  rintro e w3 ⟨rfl,hb3'⟩
  have hb3:Zb w2.heap.size w2 w3:=⟨hb3'.os,hb3'.tape,hb3'.output,hb3'.size,hb3'.block⟩
  have HB3:=O (HB2.out.trans (hb3.mono (by omega)))
  have hx3:=(hb3.block (w.heap.size+1) (by omega)).trans HX2.out
  have hf3:=(hb3.block _ hz2).trans HF2.out
  have hc3:=(hb3.block w.heap.size (by omega)).trans HC2.out
  have hz3:=heap_lt hf3
  have x0:w3.cell? ⟨w.heap.size+1,0,none⟩=some (Z Y 0):=by simp [World.cell?,hx3]
  have x1:w3.cell? ⟨w.heap.size+1,1,none⟩=some (Z Y 0):=by simp [World.cell?,hx3]
  have x2:w3.cell? ⟨w.heap.size+1,2,none⟩=some (Z Y 0):=by simp [World.cell?,hx3]
  have x3:w3.cell? ⟨w.heap.size+1,3,none⟩=some (Z Y 0):=by simp [World.cell?,hx3]
  have x4:w3.cell? ⟨w.heap.size+1,4,none⟩=some (Z Y 0):=by simp [World.cell?,hx3]
  have x5:w3.cell? ⟨w.heap.size+1,5,none⟩=some (.slice none 0 0):=by simp [World.cell?,hx3]
  have y0:∀ o,w3.frozen? ⟨w.heap.size+1,o,none⟩=false:=fun o=>by simp [World.frozen?,hx3]
  have u0:w3.cell? ⟨w1.heap.size,0,none⟩=some (Z Y a0):=by simp [World.cell?,hf3]
  have u1:w3.cell? ⟨w1.heap.size,1,none⟩=some (Z Y a1):=by simp [World.cell?,hf3]
  have u2:w3.cell? ⟨w1.heap.size,2,none⟩=some (Z Y a2):=by simp [World.cell?,hf3]
  have u3:w3.cell? ⟨w1.heap.size,3,none⟩=some (Z Y a3):=by simp [World.cell?,hf3]
  have u4:w3.cell? ⟨w1.heap.size,4,none⟩=some (Z Y a4):=by simp [World.cell?,hf3]
  have u5:w3.cell? ⟨w1.heap.size,5,none⟩=some (.slice A L CC):=by simp [World.cell?,hf3]
  have uf:∀ o,w3.frozen? ⟨w1.heap.size,o,none⟩=false:=fun o=>by simp [World.frozen?,hf3]
  have p1:w3.cell? ⟨w.heap.size,1,none⟩=some (Z Y Pi):=by simp [World.cell?,hc3]
  have p2:w3.cell? ⟨w.heap.size,2,none⟩=some (Z Y Er):=by simp [World.cell?,hc3]
  have p3:w3.cell? ⟨w.heap.size,3,none⟩=some (Z Y G):=by simp [World.cell?,hc3]
  have p4:w3.cell? ⟨w.heap.size,4,none⟩=some (Z Y Fi):=by simp [World.cell?,hc3]
  have p5:w3.cell? ⟨w.heap.size,5,none⟩=some (.slice PA PL PC):=by simp [World.cell?,hc3]
  have p0:w3.cell? ⟨w.heap.size,0,none⟩=some (Z Y N):=by simp [World.cell?,hc3]
  have nFX:w1.heap.size≠w.heap.size+1:=by omega
  have nXF:w.heap.size+1≠w1.heap.size:=by omega
  have nFW:w1.heap.size≠w.heap.size:=by omega
  have HX3:=O hx3
  have HF3:=O hf3
  clear hx3 hf3 hc3 hb3 hb3' g0 c0 c1 c2 c3 c4 c5 HX2 HC2 HF2 HB2
  generalize w1.heap.size=F at *
  obtain⟨w3b,hw3b⟩:∃ x,x=(((((w3.setCell ⟨F,0,none⟩ (Z Y 3)).setCell ⟨F,1,none⟩ (Z Y wire)).setCell ⟨F,2,none⟩ (Z Y slot)).setCell ⟨F,3,none⟩ (Z Y 1)).setCell ⟨F,4,none⟩ (Z Y 0)).setCell ⟨F,5,none⟩ (.slice none 0 0):=⟨_,rfl⟩
  have hFb:w3b.heap[F]?=some (.cells #[Z Y 3,Z Y wire,Z Y slot,Z Y 1,Z Y 0,.slice none 0 0] 118 (0,0)):=by
   rw [hw3b]
   exact heap_setCell_same _ _ 5 _ _ _ (heap_setCell_same _ _ 4 _ _ _ (heap_setCell_same _ _ 3 _ _ _ (heap_setCell_same _ _ 2 _ _ _ (heap_setCell_same _ _ 1 _ _ _ (heap_setCell_same _ _ 0 _ _ _ HF3.out)))))
  have hXb:w3b.heap[w.heap.size+1]?=some (.cells #[Z Y 0,Z Y 0,Z Y 0,Z Y 0,Z Y 0,.slice none 0 0] 118 (0,0)):=by
   rw [hw3b]
   simp [World.setCell,Array.getElem?_modify,nFX]
   exact HX3.out
  have hBb:Zb w.heap.size w w3b:=by rw [hw3b];exact below6 HB3.out (by omega)
  have hzb:F < w3b.heap.size:=heap_lt hFb
  have HFb:=O hFb
  have HXb:=O hXb
  have HBb:=O hBb
  have HWb:=O hw3b
  clear hw3b hFb hXb hBb
  go_wp2_with fail
  rw [← HWb.out]
  refine(HS.out _).mono ?_
  rintro e w4 ⟨rfl,hb4⟩
  have hF4:=(hb4.block F hzb).trans HFb.out
  have hX4:=(hb4.block (w.heap.size+1) (by omega)).trans HXb.out
  have HB4:=O (HBb.out.trans (hb4.mono (by omega)))
  have hz4:=heap_lt hF4
  have v5:w4.cell? ⟨F,5,none⟩=some (.slice none 0 0):=by simp [World.cell?,hF4]
  have vf:∀ o,w4.frozen? ⟨F,o,none⟩=false:=fun o=>by simp [World.frozen?,hF4]
  have hmk:=mkI (N+PL) (by omega) w4
  rw [Int.natCast_add]at hmk
  have HF4:=O hF4
  have HX4:=O hX4
  clear hF4 hX4 hb4 x0 x1 x2 x3 x4 x5 y0 u0 u1 u2 u3 u4 u5 uf p0 p1 p2 p3 p4 p5 HWb HFb HXb HBb HF3 HX3 HB3
  go_wp2
  generalize hEe:w4.heap.size=E at *
  have hFE:F≠E:=by omega
  have hEX:w.heap.size+1≠E:=by omega
  go_loopw [43] (fun t wr=>∃ k:Nat,k≤N+PL∧t=Z Y k∧Hid (NullK wr E (N+PL) k)∧Hid (wr.heap[F]?=some (.cells #[Z Y 3,Z Y wire,Z Y slot,Z Y 1,Z Y 0,.slice (some ⟨E,0,none⟩) (N+PL) (N+PL)] 118 (0,0)))∧Hid (wr.heap[w.heap.size+1]?=some (.cells #[Z Y 0,Z Y 0,Z Y 0,Z Y 0,Z Y 0,.slice none 0 0] 118 (0,0)))∧Hid (Zb w.heap.size w wr)) (fun t _=>(N+PL)-(intOf t).toNat)
  case atStart =>
   have hsz:(w4.setCell ⟨F,5,none⟩ (.slice (some ⟨E,0,none⟩) (N+PL) (N+PL))).heap.size=E:=by simp [World.setCell];exact hEe
   have hE0:=Zh (w4.setCell ⟨F,5,none⟩ (.slice (some ⟨E,0,none⟩) (N+PL) (N+PL))) (.cells (madeCells #[Z Y 0,Z Y 0] ((N+PL)*2)) 44)
   rw [hsz]at hE0
   exact⟨0,by omega,rfl,NullK.start hE0,(Below.heap_alloc _ _ _ (by rw [hsz];exact hz4)).trans (heap_setCell_same _ _ 5 _ _ _ HF4.out),(Below.heap_alloc _ _ _ (by rw [hsz];omega)).trans ((Below.heap_setCell _ _ _ _ (by simp;omega)).trans HX4.out),(HB4.out.setCell (p:=⟨F,5,none⟩) (by simp;omega) _).alloc (by rw [hsz];omega) _⟩
  case round =>
   obtain⟨kk,hkk,rfl,hn,hf,hx,hb⟩:=hrel
   by_cases hlt:kk < N+PL
   ·have r5:wr.cell? ⟨F,5,none⟩=some (.slice (some ⟨E,0,none⟩) (N+PL) (N+PL)):=by simp [World.cell?,hf.out]
    have e0:=(hn.out.a kk hlt).1
    have ez:=hn.out.z
    have lk0:(0:Int)≤(kk:Int):=by omega
    have lk1:(kk:Int) < (N:Int)+(PL:Int):=by omega
    go_wp2
    go_roundw
    case rel =>
     refine⟨kk+1,by omega,by go_num,hn.out.next hlt,?_,?_,hb.out.setCell (p:=⟨E,kk*2,none⟩) (by simp;omega) _⟩
     ·exact(Below.heap_setCell _ _ _ _ (by simp;omega)).trans hf.out
     ·exact(Below.heap_setCell _ _ _ _ (by simp;omega)).trans hx.out
    case measure=>simp [intOf];omega
   ·obtain rfl:kk=N+PL:=by omega
    have q0:wr.cell? ⟨F,0,none⟩=some (Z Y 3):=by simp [World.cell?,hf.out]
    have q1:wr.cell? ⟨F,1,none⟩=some (Z Y wire):=by simp [World.cell?,hf.out]
    have q2:wr.cell? ⟨F,2,none⟩=some (Z Y slot):=by simp [World.cell?,hf.out]
    have q3:wr.cell? ⟨F,3,none⟩=some (Z Y 1):=by simp [World.cell?,hf.out]
    have q4:wr.cell? ⟨F,4,none⟩=some (Z Y 0):=by simp [World.cell?,hf.out]
    have q5:wr.cell? ⟨F,5,none⟩=some (.slice (some ⟨E,0,none⟩) (N+PL) (N+PL)):=by simp [World.cell?,hf.out]
    have x0:wr.cell? ⟨w.heap.size+1,0,none⟩=some (Z Y 0):=by simp [World.cell?,hx.out]
    have x1:wr.cell? ⟨w.heap.size+1,1,none⟩=some (Z Y 0):=by simp [World.cell?,hx.out]
    have x2:wr.cell? ⟨w.heap.size+1,2,none⟩=some (Z Y 0):=by simp [World.cell?,hx.out]
    have x3:wr.cell? ⟨w.heap.size+1,3,none⟩=some (Z Y 0):=by simp [World.cell?,hx.out]
    have x4:wr.cell? ⟨w.heap.size+1,4,none⟩=some (Z Y 0):=by simp [World.cell?,hx.out]
    have x5:wr.cell? ⟨w.heap.size+1,5,none⟩=some (.slice none 0 0):=by simp [World.cell?,hx.out]
    have y0:∀ o,wr.frozen? ⟨w.heap.size+1,o,none⟩=false:=fun o=>by simp [World.frozen?,hx.out]
    go_wp2
    refine bodyPost_ret (v :=.agg #[Z Y 3,Z Y wire,Z Y slot,Z Y 1,Z Y 0,.slice (some ⟨E,0,none⟩) (N+PL) (N+PL)]) (by simp [results,Tryz.results208,go_sem,x0,x1,x2,x3,x4,x5,nFX,nXF]) rfl ⟨E,by omega,rfl,?_,below6 hb.out (by omega)⟩
    have far:∀ {W:Zw} (o:Nat) (u:Value),NullK W E (N+PL) (N+PL)→NullK (W.setCell ⟨w.heap.size+1,o,none⟩ u) E (N+PL) (N+PL):=fun o u h=>⟨fun j hj=>⟨(Zo _ _ _ _ (fun e=>hEX (by injection e))).trans (h.a j hj).1,(Zo _ _ _ _ (fun e=>hEX (by injection e))).trans (h.a j hj).2⟩,fun o'=>by rw [World.frozen?_setCell];exact h.z o',by simp [World.setCell];exact h.lt⟩
    exact far _ _ (far _ _ (far _ _ (far _ _ (far _ _ (far _ _ hn.out)))))
 )
end D14
namespace D15
open Go.RowKit A18 D14
theorem run_copy2 (w:Zw) (dT sT ty elem:TypeId) (g o dLen dCap:Nat) (a:Addr) (sLen sCap:Nat) (cur:Array Value) (t:TypeId) (cs:List Value)
 (hu:Tryz.prog.underlying dT=some (.slice elem)) (hs:(Tryz.prog.info? elem).map (·.size)=some 2) (hg:w.heap[g]?=some (.cells cur t (0,0))) (hn:cs.length=Nat.min sLen dLen*2)
 (hsrc:∀ j v,cs[j]?=some v→w.cell? (a.add j)=some v) (hfit:o+cs.length≤cur.size) (h1:∀ v ∈ cs,v.oneCell'=true) :
 (Builtin.copy_ #[dT,sT] ty #[.slice (some ⟨g,o,none⟩) dLen dCap,.slice (some a) sLen sCap]).run Zp w =
  .ok (goInt (Nat.min sLen dLen)) (w.setRow g (cur.toList.take o ++ cs ++ cur.toList.drop (o+cs.length)).toArray):=by
 have hl:=run_loadCells_list (P:=Zp) w a cs hsrc
 have hst:=run_storeCells_at Zp g o t cs 0 cur w hg (by simpa using hfit) h1
 cases hq:Tryz.prog.info? elem with
 | none=>simp [hq]at hs
 | some i =>
  have hi:i.size=2:=by simpa [hq]using hs
  rw [hn]at hl
  simp [Builtin.copy_,run_underlying hu,Builtin.lenOf,Builtin.firstCells,sizeOf,typeInfo,hq,hi,hl,hst]
def repL (v:Int) (n m:Nat):List Value:=(List.range (2*n)).map fun j=>if j < 2*m then(if j%2=0 then Z Y 2 else Z Y v)else Z Y 0
theorem repL_length (v:Int) (n m:Nat):(repL v n m).length=2*n:=by simp [repL]
theorem repL_at (v:Int) (n m j:Nat):(repL v n m)[j]?=if j < 2*n then some (if j < 2*m then(if j%2=0 then Z Y 2 else Z Y v)else Z Y 0)else none:=by
 unfold repL
 rw [List.getElem?_map]
 by_cases h:j < 2*n
 ·rw [List.getElem?_range h,if_pos h];rfl
 ·rw [List.getElem?_eq_none (by simp;omega),if_neg h];rfl
theorem repL_one (v:Int) (n m:Nat):∀ u ∈ repL v n m,u.oneCell'=true:=fun u hu=>by
 unfold repL at hu
 rw [List.mem_map]at hu
 obtain⟨j,_,rfl⟩:=hu
 split
 ·split <;> rfl
 ·rfl
theorem repL_more (v:Int) {n m k:Nat} (hk:k≤m) (hn:m+k≤n):(repL v n m).take (2*m) ++ (repL v n m).take (2*k) ++ (repL v n m).drop (2*m+2*k)=repL v n (m+k):=by
 refine List.ext_getElem? fun j=>?_
 have l1:((repL v n m).take (2*m)).length=2*m:=by rw [List.length_take,repL_length];omega
 have l2:((repL v n m).take (2*k)).length=2*k:=by rw [List.length_take,repL_length];omega
 rw [List.append_assoc,List.getElem?_append,List.getElem?_append,l1,l2,List.getElem?_take,List.getElem?_take,List.getElem?_drop,repL_at,repL_at,repL_at,repL_at]
 by_cases h1:j < 2*m
 ·have a:j < 2*n:=by omega
  have b:j < 2*(m+k):=by omega
  simp only [if_pos h1,if_pos a,if_pos b]
 ·by_cases h2:j-2*m < 2*k
  ·have a:j < 2*n:=by omega
   have b:j < 2*(m+k):=by omega
   have c:j-2*m < 2*n:=by omega
   have d:j-2*m < 2*m:=by omega
   have e:(j-2*m)%2=j%2:=by omega
   simp only [if_neg h1,if_pos h2,if_pos a,if_pos b,if_pos c,if_pos d,e]
  ·have e:2*m+2*k+(j-2*m-2*k)=j:=by omega
   have b:¬ j < 2*(m+k):=by omega
   simp only [if_neg h1,if_neg h2,e,if_neg b]
theorem repL_zero (v:Int) (n:Nat):madeCells #[Z Y 0,Z Y 0] (n*2)=(repL v n 0).toArray:=by
 refine Array.ext_getElem? fun j=>?_
 have e0:(repL v n 0).toArray[j]?=(repL v n 0)[j]?:=by simp
 rw [e0,repL_at]
 by_cases h:j < 2*n
 ·rw [if_pos h,if_neg (by omega),made_at _ _ _ (by omega)]
  have:j%2=0∨j%2=1:=by omega
  rcases this with e | e <;> simp [e]
 ·rw [if_neg h,Array.getElem?_eq_none (by rw [size_madeCells];omega)]
structure RepAt (w wr:Zw) (g n m:Nat) (v:Int):Prop where
 row:wr.heap[g]?=some (.cells (repL v n m).toArray 44 (0,0))
 ge:w.heap.size≤g
 hb:Zb w.heap.size w wr
theorem info44s:(Tryz.prog.info? 44).map (·.size)=some 2:=by kernel_rfl
theorem copy_more {w:Zw} {g n m:Nat} {v:Int} (h:w.heap[g]?=some (.cells (repL v n m).toArray 44 (0,0))) (hm:m≤n) :
 (Builtin.copy_ #[59,59] 3 #[.slice (some ⟨g,m*2,none⟩) (n-m) (n-m),.slice (some ⟨g,0,none⟩) m n]).run Zp w=.ok (goInt (Nat.min m (n-m))) (w.setRow g (repL v n (m+Nat.min m (n-m))).toArray):=by
 have hk:Nat.min m (n-m)≤m:=Nat.min_le_left _ _
 have hk2:Nat.min m (n-m)≤n-m:=Nat.min_le_right _ _
 have key:=run_copy2 w 59 59 3 44 g (m*2) (n-m) (n-m) ⟨g,0,none⟩ m n (repL v n m).toArray 44 ((repL v n m).take (2*Nat.min m (n-m))) Tryz.underlying59 info44s h
  (by rw [List.length_take,repL_length];omega)
  (fun j u hj=>by
   rw [List.getElem?_take]at hj
   split at hj
   ·have e:(⟨g,0,none⟩:Addr).add j=⟨g,j,none⟩:=by simp [Addr.add];intro h;exact h.symm
    rw [e,Lib.cell_of_heap h]
    simpa using hj
   ·cases hj)
  (by rw [List.length_take,repL_length];simp [repL_length];omega)
  (fun u hu=>repL_one v n m u (List.mem_of_mem_take hu))
 rw [key]
 have e:=repL_more v (n:=n) (m:=m) hk (by omega)
 rw [← e]
 have l2:((repL v n m).take (2*Nat.min m (n-m))).length=2*Nat.min m (n-m):=by rw [List.length_take,repL_length];omega
 rw [l2,Nat.mul_comm m 2]
theorem copy_one {w:Zw} {g n XB:Nat} {v:Int} (h:w.heap[g]?=some (.cells (madeCells #[Z Y 0,Z Y 0] (n*2)) 44 (0,0))) (h0:w.cell? ⟨XB,0,none⟩=some (Z Y 2)) (h1:w.cell? ⟨XB,1,none⟩=some (Z Y v)) :
 (Builtin.copy_ #[59,59] 3 #[.slice (some ⟨g,0,none⟩) n n,.slice (some ⟨XB,0,none⟩) 1 1]).run Zp w=.ok (goInt (Nat.min 1 n)) (w.setRow g (repL v n (Nat.min 1 n)).toArray):=by
 rw [repL_zero v n]at h
 have hk:Nat.min 1 n≤1:=Nat.min_le_left _ _
 have hk2:Nat.min 1 n≤n:=Nat.min_le_right _ _
 have key:=run_copy2 w 59 59 3 44 g 0 n n ⟨XB,0,none⟩ 1 1 (repL v n 0).toArray 44 ([Z Y 2,Z Y v].take (2*Nat.min 1 n)) Tryz.underlying59 info44s h
  (by rw [List.length_take];simp;omega)
  (fun j u hj=>by
   rw [List.getElem?_take]at hj
   split at hj
   ·have hj2:j < 2:=by
     have:=(List.getElem?_eq_some_iff.mp hj).1
     simpa using this
    have:j=0∨j=1:=by omega
    rcases this with rfl | rfl
    ·injection hj with hj;subst hj;exact h0
    ·injection hj with hj;subst hj;exact h1
   ·cases hj)
  (by rw [List.length_take];simp [repL_length];omega)
  (fun u hu=>by
   have:=List.mem_of_mem_take hu
   simp at this
   rcases this with rfl | rfl <;> rfl)
 rw [key]
 have l2:(([Z Y 2,Z Y v]:List Value).take (2*Nat.min 1 n)).length=2*Nat.min 1 n:=by rw [List.length_take];simp;omega
 have e:(repL v n 0).take 0 ++ ([Z Y 2,Z Y v]:List Value).take (2*Nat.min 1 n) ++ (repL v n 0).drop (0+2*Nat.min 1 n)=repL v n (Nat.min 1 n):=by
  refine List.ext_getElem? fun j=>?_
  rw [List.take_zero,List.nil_append,List.getElem?_append,l2,List.getElem?_take,List.getElem?_drop,repL_at,repL_at]
  by_cases h1:j < 2*Nat.min 1 n
  ·have a:j < 2*n:=by omega
   simp only [if_pos h1,if_pos a]
   have:j=0∨j=1:=by omega
   rcases this with rfl | rfl <;> rfl
  ·have e:0+2*Nat.min 1 n+(j-2*Nat.min 1 n)=j:=by omega
   simp only [if_neg h1,e]
   simp
 rw [← e,l2]
theorem Repeat_one (XB n:Nat) (v:Int) (w:Zw) (hn:n≤20) (h0:w.cell? ⟨XB,0,none⟩=some (Z Y 2)) (h1:w.cell? ⟨XB,1,none⟩=some (Z Y v)) :
 Zc Zp 209 #[.slice (some ⟨XB,0,none⟩) 1 1,Z Y n] w fun e w'=>∃ g,e=.returned (.slice (some ⟨g,0,none⟩) n n)∧RepAt w w' g n n v:=by
 have hm:=Tryz.bits_Mul 1 n (by omega) (by omega)
 rw [Nat.one_mul,Nat.div_eq_of_lt (by omega),Nat.mod_eq_of_lt (by omega)]at hm
 have HM:=O hm
 clear hm
 have hk:=mkI n (by omega)
 have d1:decide ((9223372036854775807:Int) < (n:Int))=false:=by simp;omega
 have lX:=Zl w _ h0
 have d0:decide ((n:Int) < 0)=false:=by simp
 have w1:IntKind.u64.wrap (n:Int)=n:=by rw [IntKind.wrap_u64];omega
 have w2:IntKind.i64.wrap (n:Int)=n:=by rw [IntKind.wrap_i64];omega
 have hcp:=copy_one (w:=w.alloc (.cells (madeCells #[Z Y 0,Z Y 0] (n*2)) 44)) (g:=w.heap.size) (n:=n) (XB:=XB) (v:=v) (Zh w _) ((World.cell?_alloc_some _ _ _ (by rw [h0];rfl)).trans h0) ((World.cell?_alloc_some _ _ _ (by rw [h1];rfl)).trans h1)
 have HR:=O (show RepAt w ((w.alloc (.cells (madeCells #[Z Y 0,Z Y 0] (n*2)) 44)).setRow w.heap.size (repL v n (Nat.min 1 n)).toArray) w.heap.size n (Nat.min 1 n) v from
  ⟨setRow_heap _ _ _ _ 44 _ (Zh w _),Zr _,below_setRow ((Zf _ _).alloc (Zr _) _) (Zr _) _⟩)
 have hmn:Nat.min 1 n≤n∧(0 < n→0 < Nat.min 1 n):=⟨Nat.min_le_right _ _,fun h=>by show 0 < min 1 n;omega⟩
 generalize Nat.min 1 n=k0 at *
 go_enter Tryz.func209,Tryz.ntmps209
 go_wp2_with (go_at_call 220;refine(HM.out _).mono ?_;rintro e w' ⟨rfl,hw⟩;subst hw)
 clear hcp hk
 generalize (w'.alloc (.cells (madeCells #[Z Y 0,Z Y 0] (n*2)) 44)).setRow w'.heap.size (repL v n k0).toArray=wa at *
 have HK0:=O hmn.2
 have hk0:=hmn.1
 clear hmn
 go_loopw [8] (fun t wr=>∃ k:Nat,k≤n∧(0 < n→0 < k)∧t=Z Y k∧RepAt w' wr w'.heap.size n k v) (fun t _=>n-(intOf t).toNat)
 case atStart=>exact⟨k0,hk0,HK0.out,rfl,HR.out⟩
 case round =>
  obtain⟨k,hk,hkp,rfl,hr⟩:=hrel
  by_cases hlt:k < n
  ·have hk1:=hkp (by omega)
   have hc:=copy_more (w:=wr.drew) hr.row hk
   have nk:¬ n=k:=by omega
   have hm2:k+Nat.min k (n-k)≤n∧k < k+Nat.min k (n-k):=by
    have e:Nat.min k (n-k)=min k (n-k):=rfl
    rw [e]
    omega
   have HR2:=O (show RepAt w' (wr.drew.setRow w'.heap.size (repL v n (k+Nat.min k (n-k))).toArray) w'.heap.size n (k+Nat.min k (n-k)) v from⟨setRow_heap wr.drew _ _ _ 44 _ hr.row,hr.ge,below_setRow hr.hb.drew hr.ge _⟩)
   have w3:IntKind.i64.wrap ((k:Int)+(Nat.min k (n-k):Nat))=(k:Int)+(Nat.min k (n-k):Nat):=by rw [IntKind.wrap_i64];omega
   generalize Nat.min k (n-k)=d at *
   have l0:(k:Int) < (n:Int):=by omega
   have l1:(k:Int)≤(n:Int):=by omega
   have l2:(0:Int)≤(k:Int):=by omega
   clear hr hkp
   go_wp2
   refine wp_region_held_drew (S:=fun w'=>True) (by kernel_rfl) trivial (fun hHeld=>?_)
   refine rgT 0 ?_
   refine rgT 1 ?_
   refine rgT 2 ?_
   refine rgT 3 ?_
   refine rgT 4 ?_
   refine rgT 5 ?_
   refine rgT 6 ?_
   refine rgR 7 fun K hK=>?_
   go_simp
   refine hK.out _ _ trivial (fun hHeld=>?_)
   clear hK K
   refine rgT 8 ?_
   refine rgT 9 ?_
   refine wpAnyH_done (by kernel_rfl) ?_ _
   clear hc
   go_wp2
   go_roundw
   case rel=>exact⟨k+d,hm2.1,fun _=>by omega,by go_num,⟨HR2.out.row,HR2.out.ge,⟨HR2.out.hb.os,HR2.out.hb.tape,HR2.out.hb.output,HR2.out.hb.size,HR2.out.hb.block⟩⟩⟩
   case measure=>simp [intOf];omega
  ·obtain rfl:k=n:=by omega
   have HRr:=O hr
   clear hr hkp
   go_wp2
   go_ret
   exact⟨_,rfl,HRr.out⟩
end D15
namespace D16
open Go.RowKit A6 A22 A25 A28 D5 D7 D9 D10 D11 D12 D13 D14
def nullF (N PL wire slot:Nat):Fr:=⟨3,wire,slot,1,0,if slot < N then List.replicate (N+PL) (1,0)else []⟩
noncomputable def toldF (N PL wire slot:Nat) (s:ByteArray):Fr:=match readF N PL s with | some f=>if f.kind=3 then f else nullF N PL wire slot | none=>nullF N PL wire slot
theorem null_items {w:Zw} {E n:Nat} (h:NullK w E n n):Items w (some ⟨E,0,none⟩) (List.replicate n (1,0)):=fun k hk=>by
 have hk':k < n:=by simpa using hk
 obtain⟨h1,h2⟩:=h.a k hk'
 rw [if_pos hk']at h1
 refine⟨E,0,rfl,h.lt,?_,?_⟩
 ·rw [Nat.zero_add,h1,List.getD_eq_getElem?_getD,List.getElem?_replicate,if_pos hk'];rfl
 ·rw [Nat.zero_add,h2,List.getD_eq_getElem?_getD,List.getElem?_replicate,if_pos hk'];rfl
theorem told_any (N:Nat) (Pi Er G Fi:Int) (PA:Option Addr) (PL PC wire slot:Nat) (round:Int) (s:ByteArray) (w:Zw) (hs:Strm s) (hN:N≤12) (hP:PL≤3)
 (HWi:Hid (∀ w,Zc Zp 96 #[.agg #[Z Y N,Z Y Pi,Z Y Er,Z Y G,Z Y Fi,.slice PA PL PC],Z Y round] w fun e w'=>e=.returned (Z Y wire)∧Zb w.heap.size w w')) :
 Zc Zp 208 #[.agg #[Z Y N,Z Y Pi,Z Y Er,Z Y G,Z Y Fi,.slice PA PL PC],Z Y round,Z Y slot,.string s] w (RetF (toldF N PL wire slot s) w):=by
 have HR:=fun w=>Read_any N Pi Er G Fi PA PL PC s w hs hs.1 hN hP
 have no:(∀ w,Zc Zp 179 #[.agg #[Z Y N,Z Y Pi,Z Y Er,Z Y G,Z Y Fi,.slice PA PL PC],.string s] w (RetNo w))→Zc Zp 208 #[.agg #[Z Y N,Z Y Pi,Z Y Er,Z Y G,Z Y Fi,.slice PA PL PC],Z Y round,Z Y slot,.string s] w (RetF (nullF N PL wire slot) w):=fun H=>by
  by_cases h:slot < N
  ·refine(told_own N Pi Er G Fi PA PL PC round slot wire s w (by omega) hN hP (O H) HWi).mono ?_
   rintro e w' ⟨E,hE,rfl,hK,hb⟩
   have e1:(nullF N PL wire slot).echo=List.replicate (N+PL) (1,0):=if_pos h
   refine⟨some ⟨E,0,none⟩,N+PL,?_,by rw [e1];exact null_items hK,fun b off e=>by injection e with e;injection e with e _;omega,hb⟩
   rw [e1,List.length_replicate]
   simp [nullF]
  ·refine(told_pair N Pi Er G Fi PA PL PC round slot wire s w (by omega) (O H) HWi).mono ?_
   rintro e w' ⟨rfl,hb⟩
   have e1:(nullF N PL wire slot).echo=[]:=if_neg h
   refine⟨none,0,?_,by rw [e1];exact fun k hk=>absurd hk (by simp),(fun b off e=>by cases e),hb⟩
   rw [e1]
   simp [nullF]
 unfold toldF
 cases hr:readF N PL s with
 | none =>
  rw [hr]at HR
  exact no (fun w=>(HR w).mono fun e w' h=>RetErr.no h)
 | some f =>
  rw [hr]at HR
  dsimp only at HR ⊢
  by_cases h3:f.kind=3
  ·rw [if_pos h3]
   exact told_yes N Pi Er G Fi PA PL PC round slot s f w h3 (O HR)
  ·rw [if_neg h3]
   exact no (fun w=>(HR w).mono fun e w' h=>RetFr.no h3 h)
structure ToldOk (N PL:Nat) (f:Fr):Prop where
 kind:f.kind=3
 round:f.round≤65535
 slot:f.slot < N+PL
 pay:okI (f.pk,f.pv)
 payd:f.pk≠0
 len:f.echo.length=if f.slot < N then N+PL else 0
 each:∀ k,k < f.echo.length→okI (f.echo.getD k (0,0))
theorem told_ok {N PL wire slot:Nat} (s:ByteArray) (hw:wire≤65535) (hs:slot < N+PL):ToldOk N PL (toldF N PL wire slot s):=by
 have hn:ToldOk N PL (nullF N PL wire slot):=by
  refine⟨rfl,hw,hs,.inr (.inl ⟨rfl,rfl⟩),by simp [nullF],?_,fun k hk=>?_⟩
  ·show(if slot < N then List.replicate (N+PL) ((1,0):Nat×Nat)else []).length=if slot < N then N+PL else 0
   split <;> simp
  ·change k < (if slot < N then List.replicate (N+PL) ((1,0):Nat×Nat)else []).length at hk
   show okI ((if slot < N then List.replicate (N+PL) ((1,0):Nat×Nat)else []).getD k (0,0))
   split at hk
   ·next h =>
    rw [if_pos h,List.getD_eq_getElem?_getD,List.getElem?_replicate,if_pos (by simpa using hk)]
    exact .inr (.inl ⟨rfl,rfl⟩)
   ·simp at hk
 unfold toldF
 cases hr:readF N PL s with
 | none=>exact hn
 | some f =>
  dsimp only
  by_cases h3:f.kind=3
  ·rw [if_pos h3]
   obtain⟨hf,_⟩:=readF_ok hr
   exact⟨h3,hf.round,hf.slot,hf.pay,hf.payd h3,by rw [hf.len];simp [h3],hf.each⟩
  ·rw [if_neg h3];exact hn
theorem ToldOk.fr {N PL:Nat} {f:Fr} (h:ToldOk N PL f):FrOk N PL f :=
 ⟨by rw [h.kind];omega,by rw [h.kind];omega,h.round,h.slot,fun _=>h.kind,h.pay,fun _=>h.payd,fun e=>absurd h.kind e,by rw [h.len];simp [h.kind],h.each⟩
theorem ToldOk.pay5 {N PL:Nat} {f:Fr} (h:ToldOk N PL f) {v:Nat} (hv:v≤255):ToldOk N PL { f with pk:=2,pv:=v }:=⟨h.kind,h.round,h.slot,.inr (.inr ⟨rfl,hv⟩),by simp,h.len,h.each⟩
theorem ToldOk.echo6 {N PL:Nat} {f:Fr} (h:ToldOk N PL f) {v:Nat} (hv:v≤255):ToldOk N PL { f with echo:=List.replicate f.echo.length (2,v) }:=by
 refine⟨h.kind,h.round,h.slot,h.pay,h.payd,by simpa using h.len,fun k hk=>?_⟩
 have hk':k < f.echo.length:=by simpa using hk
 show okI ((List.replicate f.echo.length (2,v)).getD k (0,0))
 rw [List.getD_eq_getElem?_getD,List.getElem?_replicate,if_pos hk']
 exact .inr (.inr ⟨rfl,hv⟩)
theorem ToldOk.low {N PL:Nat} {f:Fr} (h:ToldOk N PL f) (hN:N≤12) (hP:PL≤3):FrLow f:=by
 have hp:=h.pay
 have hs:=h.slot
 have hl:=h.len
 refine⟨by rw [h.kind];omega,by have:=h.round;omega,by omega,?_,?_,?_,fun k hk=>?_⟩
 ·rcases hp with⟨h1,h2⟩ | ⟨h1,h2⟩ | ⟨h1,h2⟩ <;> (simp only at h1 h2;omega)
 ·rcases hp with⟨h1,h2⟩ | ⟨h1,h2⟩ | ⟨h1,h2⟩ <;> (simp only at h1 h2;omega)
 ·rw [hl];split <;> omega
 ·have he:=h.each k hk
  rcases he with⟨h1,h2⟩ | ⟨h1,h2⟩ | ⟨h1,h2⟩ <;> omega
noncomputable def doneF (N PL wire slot:Nat) (how n:Int) (t s:ByteArray):ByteArray :=
 if pickI how 7=1 then s
 else if pickI how 7=2 then s.extract 0 (pickI n (s.size+1)).toNat
 else if pickI how 7=3 then cleanF t
 else if pickI how 7=4 then cleanF (if s.size=0 then s else turnF s (pickI n s.size).toNat)
 else if pickI how 7=5 then textB { toldF N PL wire slot s with pk:=2,pv:=(pickI n 256).toNat }
 else if pickI how 7=6 then textB { toldF N PL wire slot s with echo:=List.replicate (toldF N PL wire slot s).echo.length (2,(pickI n 256).toNat) }
 else⟨#[]⟩
end D16
end Go.Proofs.YtdbempiompiioaaGreat
