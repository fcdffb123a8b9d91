/- Leaf functions of the network, more: clocks as they seem, states, queues, rows of numbers. A queue:  Conditions: the bounds stated in each theorem. -/
import Derived.Test.YtdbempiompiioaaGreatT06
import Derived.WalkLawsBesides
import Derived.Maps.Own
import Derived.WideKeyEntry
import Derived.Deep.LoopGhost
import Derived.RangeFuncBox
import Derived.RangeFuncLeaves
import Derived.RangeFuncBound
import Derived.RangeFuncGives
import Derived.Shelf.Abstract
import Derived.OwnWalkIn
import Derived.TacticsInMore
import Derived.LoopNIn
import Derived.LoopIn
import Derived.Maps.AppendAt
import Derived.Sort.OwnSortedInts
set_option linter.unusedVariables false
set_option linter.unusedSimpArgs false
set_option maxRecDepth 100000
set_option maxHeartbeats 80000000
open Go.Value renaming int → Z
open Go.IntKind renaming i64 → Y
open Go renaming World → Zw, Calls → Zc, heap_alloc_new → Zh
open Go.RowKit renaming Below → Zb
open Go.Proofs.Tryz renaming prog → Zp
open Go.Lib renaming hid → O
open Go.World renaming block_lt_of_cell? → Zl, cell?_setCell_other → Zo
open Nat renaming le_refl → Zr
open Go.RowKit.Below renaming refl → Zf
namespace Go.Proofs.YtdbempiompiioaaGreat
namespace A33
open Go.RowKit A1 A2 A4 A5
theorem ta_none (w:Zw):(Instr.typeAssert (.iface 267 (.agg #[])) 230 227 true).run Zp w=.ok (.tuple #[.agg #[Z Y 0],.bool false]) w:=by kernel_rfl
theorem Dev_none (N Pi Er G Fi:Int) (PA:Option Addr) (PL PC:Nat) (At From To:Int) (CA:Option Addr) (CL CC:Nat) (VA:Option Addr) (VL VC:Nat) (round owner i dev:Int) (w:Zw) :
 Zc Zp 104 #[.agg #[Z Y N,Z Y Pi,Z Y Er,Z Y G,Z Y Fi,.slice PA PL PC],.agg #[Z Y 0,Z Y At,Z Y From,Z Y To,.slice CA CL CC,.slice VA VL VC],Z Y round,Z Y owner,Z Y i,Z Y dev] w fun e w'=>e=.returned (Z Y dev)∧Zb w.heap.size w w':=by
 have t1:=ta_none
 go_enter Tryz.func104,Tryz.ntmps104
 go_wp2_with (go_at_call 144;refine(of_none _ _ _ _ _ _ _ _ _ _ _ _ _ _ _ _ _ _).mono ?_;rintro e w' ⟨rfl,hb'⟩)
 go_ret
 exact⟨rfl,Below.alloc ((((Zf _ _).alloc (Zr _) _).alloc (by simp) _).trans (hb'.mono (by simp;omega))) (by have:=hb'.size;simp at this;omega) _⟩
def sendsF (st:Nat):Nat:=if st=2 then 1 else if st=3 then 2 else if st=4 then 3 else 0
theorem state_Sends (st:Nat) (w:Zw) (h:st≤4) :
 Zc Zp 95 #[Z Y st] w fun e w'=>e=.returned (Z Y (sendsF st))∧Zb w.heap.size w w':=by
 have:st=0∨st=1∨st=2∨st=3∨st=4:=by omega
 rcases this with rfl | rfl | rfl | rfl | rfl <;>
 ·go_enter Tryz.func95,Tryz.ntmps95
  go_wp2
  go_ret
  exact⟨rfl,bB⟩
def stNext (N node:Nat) (st tm heard:Nat):Nat×Nat :=
 if st=1 then(if 0 < heard then(3,0)else if N+node≤tm+1 then(2,0)else(1,tm+1))
 else if st=2 then(3,0)
 else if st=3 then(if N / 2+1≤heard+1 then(4,0)else if 3≤tm+1 then(1,0)else(3,tm+1))
 else if st=4 then(if N / 2+1≤heard+1 then(4,0)else(1,0))
 else(0,0)
theorem nx1a (N:Nat) (Pi Er G Fi:Int) (PA:Option Addr) (PL PC:Nat) (node tm heard:Nat) (w:Zw) (hN:N≤12) (hn:node≤12) (ht:tm≤500) (hh:heard≤100) (h:0 < heard) :
 Zc Zp 73 #[.agg #[Z Y N,Z Y Pi,Z Y Er,Z Y G,Z Y Fi,.slice PA PL PC],Z Y node,Z Y 1,Z Y tm,Z Y heard] w fun e w'=>e=.returned (.tuple #[Z Y 3,Z Y 0])∧Zb w.heap.size w w':=by
 have HM:=O (fun w=>conf_Most N Pi Er G Fi PA PL PC w (by omega) (by omega))
 have d1:decide ((heard:Int) > 0)=true:=by simp;omega
 have d2:decide (0 < heard)=true:=by simp;omega
 go_enter Tryz.func73,Tryz.ntmps73
 go_wp2_with fail
 refine(HM.out _).mono ?_
 rintro e w1 ⟨rfl,hb⟩
 have b0:w1.heap[w.heap.size]?=some (.cells #[Z Y N,Z Y Pi,Z Y Er,Z Y G,Z Y Fi,.slice PA PL PC] 24 (0,0)):=(hb.block _ (by simp)).trans (Zh w _)
 have c0:w1.cell? ⟨w.heap.size,0,none⟩=some (Z Y N):=by simp [World.cell?,b0]
 have hB:Zb w.heap.size w w1:=Below.trans (show Zb w.heap.size w _ from bB) (hb.mono (by simp))
 clear b0
 go_wp2
 go_ret2
 exact⟨rfl,hB⟩
theorem nx1b (N:Nat) (Pi Er G Fi:Int) (PA:Option Addr) (PL PC:Nat) (node tm heard:Nat) (w:Zw) (hN:N≤12) (hn:node≤12) (ht:tm≤500) (hh:heard≤100) (h:heard=0) (h2:N+node≤tm+1) :
 Zc Zp 73 #[.agg #[Z Y N,Z Y Pi,Z Y Er,Z Y G,Z Y Fi,.slice PA PL PC],Z Y node,Z Y 1,Z Y tm,Z Y heard] w fun e w'=>e=.returned (.tuple #[Z Y 2,Z Y 0])∧Zb w.heap.size w w':=by
 have HM:=O (fun w=>conf_Most N Pi Er G Fi PA PL PC w (by omega) (by omega))
 subst h
 have HW:Hid (∀ w:Zw,Zc Zp 122 #[.agg #[Z Y (N+node),Z Y 2],Z Y 1,Z Y tm] w fun e w'=>e=.returned (.tuple #[Z Y 2,Z Y 0])∧Zb w.heap.size w w'):=fun w=>(state_wait (N+node) 2 1 tm w (by omega) (by omega)).mono (fun e w' h=>⟨by rw [h.1,if_pos (by omega)],h.2⟩)
 clear h2
 go_enter Tryz.func73,Tryz.ntmps73
 go_wp2_with fail
 refine(HM.out _).mono ?_
 rintro e w1 ⟨rfl,hb⟩
 have b0:w1.heap[w.heap.size]?=some (.cells #[Z Y N,Z Y Pi,Z Y Er,Z Y G,Z Y Fi,.slice PA PL PC] 24 (0,0)):=(hb.block _ (by simp)).trans (Zh w _)
 have c0:w1.cell? ⟨w.heap.size,0,none⟩=some (Z Y N):=by simp [World.cell?,b0]
 have hB:Zb w.heap.size w w1:=Below.trans (show Zb w.heap.size w _ from bB) (hb.mono (by simp))
 clear b0
 go_wp2_with fail
 refine(HW.out _).mono ?_
 rintro e w2 ⟨rfl,hb2⟩
 go_wp2
 go_ret2
 exact⟨rfl,hB.trans (hb2.mono hB.size)⟩
theorem nx1c (N:Nat) (Pi Er G Fi:Int) (PA:Option Addr) (PL PC:Nat) (node tm heard:Nat) (w:Zw) (hN:N≤12) (hn:node≤12) (ht:tm≤500) (hh:heard≤100) (h:heard=0) (h2:¬ N+node≤tm+1) :
 Zc Zp 73 #[.agg #[Z Y N,Z Y Pi,Z Y Er,Z Y G,Z Y Fi,.slice PA PL PC],Z Y node,Z Y 1,Z Y tm,Z Y heard] w fun e w'=>e=.returned (.tuple #[Z Y 1,Z Y ((tm:Int)+1)])∧Zb w.heap.size w w':=by
 have HM:=O (fun w=>conf_Most N Pi Er G Fi PA PL PC w (by omega) (by omega))
 subst h
 have HW:Hid (∀ w:Zw,Zc Zp 122 #[.agg #[Z Y (N+node),Z Y 2],Z Y 1,Z Y tm] w fun e w'=>e=.returned (.tuple #[Z Y 1,Z Y ((tm:Int)+1)])∧Zb w.heap.size w w'):=fun w=>(state_wait (N+node) 2 1 tm w (by omega) (by omega)).mono (fun e w' h=>⟨by rw [h.1,if_neg (by omega)],h.2⟩)
 clear h2
 go_enter Tryz.func73,Tryz.ntmps73
 go_wp2_with fail
 refine(HM.out _).mono ?_
 rintro e w1 ⟨rfl,hb⟩
 have b0:w1.heap[w.heap.size]?=some (.cells #[Z Y N,Z Y Pi,Z Y Er,Z Y G,Z Y Fi,.slice PA PL PC] 24 (0,0)):=(hb.block _ (by simp)).trans (Zh w _)
 have c0:w1.cell? ⟨w.heap.size,0,none⟩=some (Z Y N):=by simp [World.cell?,b0]
 have hB:Zb w.heap.size w w1:=Below.trans (show Zb w.heap.size w _ from bB) (hb.mono (by simp))
 clear b0
 go_wp2_with fail
 refine(HW.out _).mono ?_
 rintro e w2 ⟨rfl,hb2⟩
 go_wp2
 go_ret2
 exact⟨rfl,hB.trans (hb2.mono hB.size)⟩
theorem nx2 (N:Nat) (Pi Er G Fi:Int) (PA:Option Addr) (PL PC:Nat) (node tm heard:Nat) (w:Zw) (hN:N≤12) (hn:node≤12) (ht:tm≤500) (hh:heard≤100) :
 Zc Zp 73 #[.agg #[Z Y N,Z Y Pi,Z Y Er,Z Y G,Z Y Fi,.slice PA PL PC],Z Y node,Z Y 2,Z Y tm,Z Y heard] w fun e w'=>e=.returned (.tuple #[Z Y 3,Z Y 0])∧Zb w.heap.size w w':=by
 have HM:=O (fun w=>conf_Most N Pi Er G Fi PA PL PC w (by omega) (by omega))
 go_enter Tryz.func73,Tryz.ntmps73
 go_wp2_with fail
 refine(HM.out _).mono ?_
 rintro e w1 ⟨rfl,hb⟩
 have b0:w1.heap[w.heap.size]?=some (.cells #[Z Y N,Z Y Pi,Z Y Er,Z Y G,Z Y Fi,.slice PA PL PC] 24 (0,0)):=(hb.block _ (by simp)).trans (Zh w _)
 have c0:w1.cell? ⟨w.heap.size,0,none⟩=some (Z Y N):=by simp [World.cell?,b0]
 have hB:Zb w.heap.size w w1:=Below.trans (show Zb w.heap.size w _ from bB) (hb.mono (by simp))
 clear b0
 go_wp2
 go_ret2
 exact⟨rfl,hB⟩
theorem nx3a (N:Nat) (Pi Er G Fi:Int) (PA:Option Addr) (PL PC:Nat) (node tm heard:Nat) (w:Zw) (hN:N≤12) (hn:node≤12) (ht:tm≤500) (hh:heard≤100) (h:N / 2+1≤heard+1) :
 Zc Zp 73 #[.agg #[Z Y N,Z Y Pi,Z Y Er,Z Y G,Z Y Fi,.slice PA PL PC],Z Y node,Z Y 3,Z Y tm,Z Y heard] w fun e w'=>e=.returned (.tuple #[Z Y 4,Z Y 0])∧Zb w.heap.size w w':=by
 have HM:=O (fun w=>conf_Most N Pi Er G Fi PA PL PC w (by omega) (by omega))
 have d1:decide ((N:Int) / 2≤(heard:Int))=true:=by simp;omega
 have h':(N:Int) / 2≤(heard:Int):=by omega
 go_enter Tryz.func73,Tryz.ntmps73
 go_wp2_with fail
 refine(HM.out _).mono ?_
 rintro e w1 ⟨rfl,hb⟩
 have b0:w1.heap[w.heap.size]?=some (.cells #[Z Y N,Z Y Pi,Z Y Er,Z Y G,Z Y Fi,.slice PA PL PC] 24 (0,0)):=(hb.block _ (by simp)).trans (Zh w _)
 have c0:w1.cell? ⟨w.heap.size,0,none⟩=some (Z Y N):=by simp [World.cell?,b0]
 have hB:Zb w.heap.size w w1:=Below.trans (show Zb w.heap.size w _ from bB) (hb.mono (by simp))
 clear b0
 go_wp2
 go_ret2
 exact⟨rfl,hB⟩
theorem nx3b (N:Nat) (Pi Er G Fi:Int) (PA:Option Addr) (PL PC:Nat) (node tm heard:Nat) (w:Zw) (hN:N≤12) (hn:node≤12) (ht:tm≤500) (hh:heard≤100) (h:¬ N / 2+1≤heard+1) (h2:3≤tm+1) :
 Zc Zp 73 #[.agg #[Z Y N,Z Y Pi,Z Y Er,Z Y G,Z Y Fi,.slice PA PL PC],Z Y node,Z Y 3,Z Y tm,Z Y heard] w fun e w'=>e=.returned (.tuple #[Z Y 1,Z Y 0])∧Zb w.heap.size w w':=by
 have HM:=O (fun w=>conf_Most N Pi Er G Fi PA PL PC w (by omega) (by omega))
 have d1:decide ((N:Int) / 2≤(heard:Int))=false:=by simp;omega
 have h':¬(N:Int) / 2≤(heard:Int):=by omega
 have HW:Hid (∀ w:Zw,Zc Zp 122 #[.agg #[Z Y 3,Z Y 1],Z Y 3,Z Y tm] w fun e w'=>e=.returned (.tuple #[Z Y 1,Z Y 0])∧Zb w.heap.size w w'):=fun w=>(state_wait 3 1 3 tm w (by omega) (by omega)).mono (fun e w' h=>⟨by rw [h.1,if_pos (by omega)],h.2⟩)
 clear h2
 go_enter Tryz.func73,Tryz.ntmps73
 go_wp2_with fail
 refine(HM.out _).mono ?_
 rintro e w1 ⟨rfl,hb⟩
 have b0:w1.heap[w.heap.size]?=some (.cells #[Z Y N,Z Y Pi,Z Y Er,Z Y G,Z Y Fi,.slice PA PL PC] 24 (0,0)):=(hb.block _ (by simp)).trans (Zh w _)
 have c0:w1.cell? ⟨w.heap.size,0,none⟩=some (Z Y N):=by simp [World.cell?,b0]
 have hB:Zb w.heap.size w w1:=Below.trans (show Zb w.heap.size w _ from bB) (hb.mono (by simp))
 clear b0
 go_wp2_with fail
 refine(HW.out _).mono ?_
 rintro e w2 ⟨rfl,hb2⟩
 go_wp2
 go_ret2
 exact⟨rfl,hB.trans (hb2.mono hB.size)⟩
theorem nx3c (N:Nat) (Pi Er G Fi:Int) (PA:Option Addr) (PL PC:Nat) (node tm heard:Nat) (w:Zw) (hN:N≤12) (hn:node≤12) (ht:tm≤500) (hh:heard≤100) (h:¬ N / 2+1≤heard+1) (h2:¬ 3≤tm+1) :
 Zc Zp 73 #[.agg #[Z Y N,Z Y Pi,Z Y Er,Z Y G,Z Y Fi,.slice PA PL PC],Z Y node,Z Y 3,Z Y tm,Z Y heard] w fun e w'=>e=.returned (.tuple #[Z Y 3,Z Y ((tm:Int)+1)])∧Zb w.heap.size w w':=by
 have HM:=O (fun w=>conf_Most N Pi Er G Fi PA PL PC w (by omega) (by omega))
 have d1:decide ((N:Int) / 2≤(heard:Int))=false:=by simp;omega
 have h':¬(N:Int) / 2≤(heard:Int):=by omega
 have HW:Hid (∀ w:Zw,Zc Zp 122 #[.agg #[Z Y 3,Z Y 1],Z Y 3,Z Y tm] w fun e w'=>e=.returned (.tuple #[Z Y 3,Z Y ((tm:Int)+1)])∧Zb w.heap.size w w'):=fun w=>(state_wait 3 1 3 tm w (by omega) (by omega)).mono (fun e w' h=>⟨by rw [h.1,if_neg (by omega)],h.2⟩)
 clear h2
 go_enter Tryz.func73,Tryz.ntmps73
 go_wp2_with fail
 refine(HM.out _).mono ?_
 rintro e w1 ⟨rfl,hb⟩
 have b0:w1.heap[w.heap.size]?=some (.cells #[Z Y N,Z Y Pi,Z Y Er,Z Y G,Z Y Fi,.slice PA PL PC] 24 (0,0)):=(hb.block _ (by simp)).trans (Zh w _)
 have c0:w1.cell? ⟨w.heap.size,0,none⟩=some (Z Y N):=by simp [World.cell?,b0]
 have hB:Zb w.heap.size w w1:=Below.trans (show Zb w.heap.size w _ from bB) (hb.mono (by simp))
 clear b0
 go_wp2_with fail
 refine(HW.out _).mono ?_
 rintro e w2 ⟨rfl,hb2⟩
 go_wp2
 go_ret2
 exact⟨rfl,hB.trans (hb2.mono hB.size)⟩
theorem nx4a (N:Nat) (Pi Er G Fi:Int) (PA:Option Addr) (PL PC:Nat) (node tm heard:Nat) (w:Zw) (hN:N≤12) (hn:node≤12) (ht:tm≤500) (hh:heard≤100) (h:N / 2+1≤heard+1) :
 Zc Zp 73 #[.agg #[Z Y N,Z Y Pi,Z Y Er,Z Y G,Z Y Fi,.slice PA PL PC],Z Y node,Z Y 4,Z Y tm,Z Y heard] w fun e w'=>e=.returned (.tuple #[Z Y 4,Z Y 0])∧Zb w.heap.size w w':=by
 have HM:=O (fun w=>conf_Most N Pi Er G Fi PA PL PC w (by omega) (by omega))
 have d1:decide ((N:Int) / 2≤(heard:Int))=true:=by simp;omega
 have h':(N:Int) / 2≤(heard:Int):=by omega
 go_enter Tryz.func73,Tryz.ntmps73
 go_wp2_with fail
 refine(HM.out _).mono ?_
 rintro e w1 ⟨rfl,hb⟩
 have b0:w1.heap[w.heap.size]?=some (.cells #[Z Y N,Z Y Pi,Z Y Er,Z Y G,Z Y Fi,.slice PA PL PC] 24 (0,0)):=(hb.block _ (by simp)).trans (Zh w _)
 have c0:w1.cell? ⟨w.heap.size,0,none⟩=some (Z Y N):=by simp [World.cell?,b0]
 have hB:Zb w.heap.size w w1:=Below.trans (show Zb w.heap.size w _ from bB) (hb.mono (by simp))
 clear b0
 go_wp2
 go_ret2
 exact⟨rfl,hB⟩
theorem nx4b (N:Nat) (Pi Er G Fi:Int) (PA:Option Addr) (PL PC:Nat) (node tm heard:Nat) (w:Zw) (hN:N≤12) (hn:node≤12) (ht:tm≤500) (hh:heard≤100) (h:¬ N / 2+1≤heard+1) :
 Zc Zp 73 #[.agg #[Z Y N,Z Y Pi,Z Y Er,Z Y G,Z Y Fi,.slice PA PL PC],Z Y node,Z Y 4,Z Y tm,Z Y heard] w fun e w'=>e=.returned (.tuple #[Z Y 1,Z Y 0])∧Zb w.heap.size w w':=by
 have HM:=O (fun w=>conf_Most N Pi Er G Fi PA PL PC w (by omega) (by omega))
 have d1:decide ((N:Int) / 2≤(heard:Int))=false:=by simp;omega
 have h':¬(N:Int) / 2≤(heard:Int):=by omega
 go_enter Tryz.func73,Tryz.ntmps73
 go_wp2_with fail
 refine(HM.out _).mono ?_
 rintro e w1 ⟨rfl,hb⟩
 have b0:w1.heap[w.heap.size]?=some (.cells #[Z Y N,Z Y Pi,Z Y Er,Z Y G,Z Y Fi,.slice PA PL PC] 24 (0,0)):=(hb.block _ (by simp)).trans (Zh w _)
 have c0:w1.cell? ⟨w.heap.size,0,none⟩=some (Z Y N):=by simp [World.cell?,b0]
 have hB:Zb w.heap.size w w1:=Below.trans (show Zb w.heap.size w _ from bB) (hb.mono (by simp))
 clear b0
 go_wp2
 go_ret2
 exact⟨rfl,hB⟩
theorem state_Next (N:Nat) (Pi Er G Fi:Int) (PA:Option Addr) (PL PC:Nat) (node st tm heard:Nat) (w:Zw) (hN:N≤12) (hn:node≤12) (h1:1≤st) (h4:st≤4) (ht:tm≤500) (hh:heard≤100) :
 Zc Zp 73 #[.agg #[Z Y N,Z Y Pi,Z Y Er,Z Y G,Z Y Fi,.slice PA PL PC],Z Y node,Z Y st,Z Y tm,Z Y heard] w fun e w'=>e=.returned (.tuple #[Z Y (stNext N node st tm heard).1,Z Y (stNext N node st tm heard).2])∧Zb w.heap.size w w':=by
 have:st=1∨st=2∨st=3∨st=4:=by omega
 unfold stNext
 rcases this with rfl | rfl | rfl | rfl
 ·rw [if_pos rfl]
  by_cases h:0 < heard
  ·rw [if_pos h];exact nx1a N Pi Er G Fi PA PL PC node tm heard w hN hn ht hh h
  ·rw [if_neg h]
   by_cases h2:N+node≤tm+1
   ·rw [if_pos h2];exact nx1b N Pi Er G Fi PA PL PC node tm heard w hN hn ht hh (by omega) h2
   ·rw [if_neg h2];exact nx1c N Pi Er G Fi PA PL PC node tm heard w hN hn ht hh (by omega) h2
 ·rw [if_neg (by decide),if_pos rfl];exact nx2 N Pi Er G Fi PA PL PC node tm heard w hN hn ht hh
 ·rw [if_neg (by decide),if_neg (by decide),if_pos rfl]
  by_cases h:N / 2+1≤heard+1
  ·rw [if_pos h];exact nx3a N Pi Er G Fi PA PL PC node tm heard w hN hn ht hh h
  ·rw [if_neg h]
   by_cases h2:3≤tm+1
   ·rw [if_pos h2];exact nx3b N Pi Er G Fi PA PL PC node tm heard w hN hn ht hh h h2
   ·rw [if_neg h2];exact nx3c N Pi Er G Fi PA PL PC node tm heard w hN hn ht hh h h2
 ·rw [if_neg (by decide),if_neg (by decide),if_neg (by decide),if_pos rfl]
  by_cases h:N / 2+1≤heard+1
  ·rw [if_pos h];exact nx4a N Pi Er G Fi PA PL PC node tm heard w hN hn ht hh h
  ·rw [if_neg h];exact nx4b N Pi Er G Fi PA PL PC node tm heard w hN hn ht hh h
def pickN (l:List Int) (k:Nat) (most:Int):Int:=if l.length=0 then 0 else min (max (l.getD (k%l.length) 0) (-most)) most
theorem pickN_le (l:List Int) (k:Nat) (most:Int) (h:0≤most) : -most≤pickN l k most∧pickN l k most≤most:=by
 unfold pickN
 split <;> omega
theorem net_pick (A:Option Addr) (l:List Int) (C k:Nat) (most:Int) (w:Zw) (hI:Ints w A l) (hl:l.length≤1000) (hk:k≤100000) (h0:0≤most) (h1:most≤1000) :
 Zc Zp 56 #[.slice A l.length C,Z Y k,Z Y most] w fun e w'=>e=.returned (Z Y (pickN l k most))∧w=w':=by
 unfold pickN
 by_cases hz:l.length=0
 ·rw [if_pos hz]
  have b1:((l.length:Int) == 0)=true:=by simp [hz]
  have b2:(l.length == 0)=true:=by simp [hz]
  clear hz
  go_enter Tryz.func56,Tryz.ntmps56
  go_wp2
  go_ret
  exact⟨rfl,rfl⟩
 ·rw [if_neg hz]
  have b1:((l.length:Int) == 0)=false:=beq_eq_false_iff_ne.mpr (by omega)
  have b2:(l.length == 0)=false:=beq_eq_false_iff_ne.mpr hz
  have hm:k%l.length < l.length:=Nat.mod_lt _ (by omega)
  obtain⟨b,off,rfl,hb,hc⟩:=hI (k%l.length) hm
  generalize l.getD (k%l.length) 0=v at *
  have hl0:(0:Int) < (l.length:Int):=by omega
  have q0:(0:Int)≤(k:Int)%(l.length:Int):=Int.emod_nonneg _ (by omega)
  have q1:(k:Int)%(l.length:Int) < (l.length:Int):=Int.emod_lt_of_pos _ (by omega)
  have q2:(k:Int)%(l.length:Int)+(l.length:Int)≤2000:=by omega
  have q3:(0:Int)≤((k:Int)%(l.length:Int)+(l.length:Int))%(l.length:Int):=Int.emod_nonneg _ (by omega)
  have q4:((k:Int)%(l.length:Int)+(l.length:Int))%(l.length:Int) < (l.length:Int):=Int.emod_lt_of_pos _ (by omega)
  have hl1:(l.length:Int)≤1000:=by omega
  clear hI hm hz
  go_enter Tryz.func56,Tryz.ntmps56
  go_wp2
  go_ret
  exact⟨rfl,rfl⟩
end A33
namespace A34
open Go.RowKit A14
theorem queue_Send (Q o:Nat) (v:Nat) (u:Value) (w:Zw) (hv:v≤255) (c0:w.cell? ⟨Q,o,none⟩=some u) (c4:w.cell? ⟨Q,o+4,none⟩=some (Z Y 0)) (f0:w.frozen? ⟨Q,o,none⟩=false) (f4:w.frozen? ⟨Q,o+4,none⟩=false) :
 Zc Zp 94 #[.pointer (some ⟨Q,o,none⟩),Z Y v] w fun e w'=>e=.returned (Z Y 0)∧w'=((w.drew.setCell ⟨Q,o,none⟩ (Z Y v)).setCell ⟨Q,o+4,none⟩ (Z Y 1)):=by
 have d1:decide ((v:Int) < 0)=false:=by simp
 have d2:decide ((v:Int) > 255)=false:=by simp;omega
 have lt:=Zl w _ c0
 have e4:({ block:=Q,off:=o }:Addr)≠⟨Q,o+4,none⟩:=fun e=>by injection e with _ e;omega
 go_enter Tryz.func94,Tryz.ntmps94
 go_wp2
 refine wp_region_held_drew (S:=fun w'=>w'.cell? ⟨Q,o+4,none⟩=some (Z Y 0)) (by kernel_rfl) c4 (fun hHeld=>?_)
 refine rgT 0 ?_
 refine rgT 1 ?_
 refine rgT 2 ?_
 refine rgT 3 ?_
 refine rgT 4 ?_
 refine rgT 5 ?_
 refine rgT 6 ?_
 refine rgT 7 ?_
 refine rgT 8 ?_
 refine rgR 9 fun K hK=>?_
 go_simp
 refine hK.out _ _ (by go_simp) (fun hHeld=>?_)
 clear hK K
 refine wpAnyH_done (by kernel_rfl) ?_ _
 go_wp2
 go_ret
 exact⟨rfl,rfl⟩
theorem queue_Next0 (Q o:Nat) (w:Zw) (c4:w.cell? ⟨Q,o+4,none⟩=some (Z Y 0)) :
 Zc Zp 97 #[.pointer (some ⟨Q,o,none⟩)] w fun e w'=>e=.returned (.agg #[Z Y 1,Z Y 0])∧Zb w.heap.size w w':=by
 have n4:=World.new_ne w _ c4
 have c4':(w.alloc (.cells #[Z Y 0,Z Y 0] 44)).cell? ⟨Q,o+4,none⟩=some (Z Y 0):=(World.cell?_alloc_some _ _ _ (by rw [c4];rfl)).trans c4
 go_enter Tryz.func97,Tryz.ntmps97
 go_wp2
 refine bodyPost_ret (v :=.agg #[Z Y 1,Z Y 0]) (by simp [results,Tryz.results97,go_sem]) rfl ⟨rfl,?_⟩
 exact bB
theorem queue_Next1 (Q o:Nat) (v:Nat) (w:Zw) (c0:w.cell? ⟨Q,o,none⟩=some (Z Y v)) (c4:w.cell? ⟨Q,o+4,none⟩=some (Z Y 1)) (f4:w.frozen? ⟨Q,o+4,none⟩=false) :
 Zc Zp 97 #[.pointer (some ⟨Q,o,none⟩)] w fun e w'=>e=.returned (.agg #[Z Y 2,Z Y v])∧But (fun q=>q=Q) w w'∧w'.cell? ⟨Q,o+4,none⟩=some (Z Y 0)∧(∀ j,j≠o+4→w'.cell? ⟨Q,j,none⟩=w.cell? ⟨Q,j,none⟩)∧∀ j,w'.frozen? ⟨Q,j,none⟩=w.frozen? ⟨Q,j,none⟩:=by
 have HCP:=fun w=>run_copy_none (P:=Zp) w 22 22 3 3 (some ⟨Q,o,none⟩) (some ⟨Q,o+1,none⟩) 4 4 0 3 Tryz.underlying22 (by kernel_rfl) (by decide)
 have n4:=World.new_ne w _ c4
 have lt:=Zl w _ c0
 have c4':(w.alloc (.cells #[Z Y 0,Z Y 0] 44)).cell? ⟨Q,o+4,none⟩=some (Z Y 1):=(World.cell?_alloc_some _ _ _ (by rw [c4];rfl)).trans c4
 have c0':(w.alloc (.cells #[Z Y 0,Z Y 0] 44)).cell? ⟨Q,o,none⟩=some (Z Y v):=(World.cell?_alloc_some _ _ _ (by rw [c0];rfl)).trans c0
 have f4':(w.alloc (.cells #[Z Y 0,Z Y 0] 44)).frozen? ⟨Q,o+4,none⟩=false:=(World.frozen?_of_block (w:=w) (a:=⟨Q,o+4,none⟩) (Below.heap_alloc _ _ _ lt)).trans f4
 go_enter Tryz.func97,Tryz.ntmps97
 go_wp2
 refine wp_region_held_drew (S:=fun w'=>True) (by kernel_rfl) trivial (fun hHeld=>?_)
 refine rgT 0 ?_
 refine rgT 1 ?_
 refine rgT 2 ?_
 refine rgT 3 ?_
 refine rgT 4 ?_
 refine rgT 5 ?_
 refine rgT 6 ?_
 refine rgT 7 ?_
 refine rgT 8 ?_
 refine rgT 9 ?_
 refine rgT 10 ?_
 refine rgR 11 fun K hK=>?_
 go_simp
 refine hK.out _ _ trivial (fun hHeld=>?_)
 clear hK K
 refine rgT 12 ?_
 refine rgR 13 fun K hK=>?_
 go_simp
 refine hK.out _ _ trivial (fun hHeld=>?_)
 clear hK K
 refine rgT 14 ?_
 refine rgT 15 ?_
 refine rgR 16 fun K hK=>?_
 go_simp
 refine hK.out _ _ trivial (fun hHeld=>?_)
 clear hK K
 refine wpAnyH_done (by kernel_rfl) ?_ _
 go_wp2
 have hz:(w.setCell ⟨Q,o+4,none⟩ (Z Y 0)).heap.size=w.heap.size:=by simp [World.setCell]
 have x:∀ j,((w.setCell ⟨Q,o+4,none⟩ (Z Y 0)).alloc (.cells #[Z Y 2,Z Y v] 44)).drew.cell? ⟨w.heap.size,j,none⟩=#[Z Y 2,Z Y v][j]?:=fun j=>by rw [← hz];exact World.cell?_alloc_new _ _ _ j
 have x0:=x 0
 have x1:=x 1
 simp only [List.getElem?_toArray,List.getElem?_cons_zero,List.getElem?_cons_succ]at x0 x1
 have bl:((w.setCell ⟨Q,o+4,none⟩ (Z Y 0)).alloc (.cells #[Z Y 2,Z Y v] 44)).drew.heap[Q]?=(w.setCell ⟨Q,o+4,none⟩ (Z Y 0)).heap[Q]?:=Below.heap_alloc _ _ _ (by rw [hz];exact lt)
 clear x HCP c4' c0' f4'
 refine bodyPost_ret (v :=.agg #[Z Y 2,Z Y v]) (by simp [results,Tryz.results97,go_sem,x0,x1]) rfl ⟨rfl,?_,?_,?_,?_⟩
 ·exact(((But.refl (fun q=>q=Q) w).setCell (p:=⟨Q,o+4,none⟩) (.inl rfl) _).alloc _).drew
 ·exact(World.cell?_of_block (w:=w.setCell ⟨Q,o+4,none⟩ (Z Y 0)) (a:=⟨Q,o+4,none⟩) bl).trans (World.cell?_setCell_same _ _ _ c4)
 ·exact fun j hj=>(World.cell?_of_block (w:=w.setCell ⟨Q,o+4,none⟩ (Z Y 0)) (a:=⟨Q,j,none⟩) bl).trans (Zo _ _ _ _ (fun e=>hj (by injection e with _ e;exact e.symm)))
 ·exact fun j=>(World.frozen?_of_block (w:=w.setCell ⟨Q,o+4,none⟩ (Z Y 0)) (a:=⟨Q,j,none⟩) bl).trans (by simp only [World.frozen?_setCell])
end A34
namespace A35
open Go.RowKit Go.MapKept Go.ChangeMaps Go.WideElems
structure Aside0 (p:Prop):Prop where mk :: (out:p)
theorem below_alloc {w W:Zw} (h:Zb w.heap.size w W) (o:Obj):Zb w.heap.size w (W.alloc o):=h.alloc h.size o
theorem below_step {w W w2:Zw} (h:Zb w.heap.size w W) (k:Zb W.heap.size W w2):Zb w.heap.size w w2:=h.trans (k.mono h.size)
theorem below_set {w W:Zw} {g j:Nat} {v:Value} (h:Zb w.heap.size w W) (hg:w.heap.size≤g):Zb w.heap.size w (W.setCell ⟨g,j,none⟩ v):=h.setCell hg _
theorem below_drew1 {base:Nat} {w W:Zw} (h:Zb base w W):Zb base w W.drew:=h.drew
theorem blk_lt {w:Zw} {g:Nat} {o:Obj} (h:w.heap[g]?=some o):g < w.heap.size:=(Array.getElem?_eq_some_iff.1 h).1
theorem blk_cell {w:Zw} {g:Nat} {t:TypeId} {cs:Array Value} (h:w.heap[g]?=some (.cells cs t (0,0))) (i:Nat):w.cell? ⟨g,i,none⟩=cs[i]?:=by simp [World.cell?,h]
theorem blk_frozen {w:Zw} {g:Nat} {t:TypeId} {cs:Array Value} (h:w.heap[g]?=some (.cells cs t (0,0))) (i:Nat):w.frozen? ⟨g,i,none⟩=false:=by simp [World.frozen?,h]
theorem blk_alloc {w:Zw} {g:Nat} {o:Obj} (h:w.heap[g]?=some o) (o':Obj):(w.alloc o').heap[g]?=some o:=(Below.heap_alloc w o' g (blk_lt h)).trans h
theorem blk_below {w w1:Zw} {g:Nat} {o:Obj} (h:w.heap[g]?=some o) (hb:Zb w.heap.size w w1):w1.heap[g]?=some o:=(hb.block g (blk_lt h)).trans h
theorem blk_new (w:Zw) (o:Obj):(w.alloc o).heap[w.heap.size]?=some o:=Zh w o
abbrev key (x y:Int):Value :=.agg #[Z Y x,Z Y y]
theorem check (em:Bool) (x y:Int) (w:Zw):(Instr.checkKey em 10000 250 (key x y)).run Zp w=.ok () w:=by kernel_rfl
theorem part0 (x y:Int) (w:Zw):(part 3 #[Z Y x,Z Y y] 0).run Zp w=.ok (Z Y x) w:=by kernel_rfl
theorem part1 (x y:Int) (w:Zw):(part 3 #[Z Y x,Z Y y] 1).run Zp w=.ok (Z Y y) w:=by kernel_rfl
theorem eq3 (n:Nat) (x a:Int) (w:Zw):(Op.equalIn (n+1) 3 (Z Y x) (Z Y a)).run Zp w=.ok (x == a) w:=by
 unfold Op.equalIn
 simp [run_underlying Tryz.underlying3,Result.andThen]
theorem two:List.range' 0 2=[0,1]:=rfl
theorem eq250 (x y a b:Int) (w:Zw):(Op.equal 250 (key x y) (key a b)).run Zp w=.ok (x == a && y == b) w:=by
 unfold Op.equal
 rw [show Op.maxDepth=(Op.maxDepth-2)+1+1 from rfl]
 generalize Op.maxDepth-2=d
 rw [Op.equalIn]
 by_cases h1:x=a
 ·subst h1
  by_cases h2:y=b
  ·subst h2
   simp [run_underlying Tryz.underlying250,Result.andThen,two,part0,part1,eq3]
  ·simp [run_underlying Tryz.underlying250,Result.andThen,two,part0,part1,eq3,h2]
 ·simp [run_underlying Tryz.underlying250,Result.andThen,two,part0,eq3,h1]
theorem key_inj {x y a b:Int} (h:key x y=key a b):x=a∧y=b:=by
 simpa [key]using h
theorem stays (x y:Int) (w:Zw):(Instr.keyThatStays (key x y) (key x y)).run Zp w=.ok (key x y) w:=by
 have h:Instr.sameBits 10000 (key x y) (key x y)=true:=by
  rw [show(10000:Nat)=9998+1+1 from rfl]
  simp [Instr.sameBits]
 unfold Instr.keyThatStays
 simp [h]
def Pairs (l:List MapEntry):Prop:=∀ e ∈ l,∃ a b,e.key=key a b
theorem asking (x y:Int) (w:Zw):∀(l:List MapEntry) (i:Nat),Pairs l →
 ((Instr.findAsking 250 (key x y) l i).run Zp w=.ok none w∧∀ e ∈ l,e.key≠key x y) ∨
 ∃ j e,(Instr.findAsking 250 (key x y) l i).run Zp w=.ok (some (i+j,e.val)) w∧l[j]?=some e∧e.key=key x y
 | [],i,_ =>.inl ⟨by simp [Instr.findAsking],fun e he=>absurd he (by simp)⟩
 | e :: r,i,hp=>by
  obtain⟨a,b,hk⟩:=hp e List.mem_cons_self
  by_cases c:x=a∧y=b
  ·obtain⟨rfl,rfl⟩:=c
   refine .inr ⟨0,e,?_,rfl,hk⟩
   simp [Instr.findAsking,hk,eq250,Result.andThen]
  ·have hf:(x == a && y == b)=false:=by
    by_cases h1:x=a
    ·have h2:¬ y=b:=fun h=>c ⟨h1,h⟩
     simp [h2]
    ·simp [h1]
   have hne:e.key≠key x y:=fun h=>by
    rw [hk]at h
    obtain⟨h1,h2⟩:=key_inj h
    exact c ⟨h1.symm,h2.symm⟩
   rcases asking x y w r (i+1) (fun e' h=>hp e' (List.mem_cons_of_mem _ h))with⟨h1,h2⟩ | ⟨j,e',h1,h2,h3⟩
   ·refine .inl ⟨?_,fun e' he'=>?_⟩
    ·simp [Instr.findAsking,hk,eq250,hf,Result.andThen,h1]
    ·rcases List.mem_cons.1 he' with rfl | h
     ·exact hne
     ·exact h2 e' h
   ·refine .inr ⟨j+1,e',?_,by simpa using h2,h3⟩
    simp [Instr.findAsking,hk,eq250,hf,Result.andThen,h1]
    omega
theorem find (x y:Int) (w:Zw) (l:List MapEntry) (hp:Pairs l) :
 ((Instr.findKey 250 (key x y) l).run Zp w=.ok none w∧∀ e ∈ l,e.key≠key x y) ∨
 ∃ j e,(Instr.findKey 250 (key x y) l).run Zp w=.ok (some (j,e.val)) w∧l[j]?=some e∧e.key=key x y:=by
 cases l with
 | nil =>
  refine .inl ⟨?_,fun e he=>absurd he (by simp)⟩
  simp [Instr.findKey,run_underlying Tryz.underlying250,Result.andThen,Instr.findNow]
 | cons e r =>
  have hrun:(Instr.findKey 250 (key x y) (e :: r)).run Zp w=(Instr.findAsking 250 (key x y) (e :: r)).run Zp w:=by
   simp [Instr.findKey,run_underlying Tryz.underlying250,Result.andThen,Instr.findNow,Instr.sameNow]
  rw [hrun]
  rcases asking x y w (e :: r) 0 hp with h | ⟨j,e',h1,h2⟩
  ·exact .inl h
  ·exact .inr ⟨j,e',by simpa using h1,h2⟩
def Has (w:Zw) (b:Nat) (C:Int→Int→Int):Prop :=
 ∃ es clock,w.heap[b]?=some (.map es clock)∧Stamped es clock∧Pairs es.toList∧(∀ e ∈ es.toList,∀ x y,e.key=key x y→e.val=Z Y (C x y))∧∀ x y,(∀ e ∈ es.toList,e.key≠key x y)→C x y=0
theorem Has.made (w:Zw):Has (w.alloc (.map #[] 0)) w.heap.size (fun _ _=>0) :=
 ⟨#[],0,(MapKept.heap_alloc w _).1,stamped_empty 0,fun e he=>absurd he (by simp),fun e he=>absurd he (by simp),fun _ _ _=>rfl⟩
theorem Has.lt {w:Zw} {b:Nat} {C:Int→Int→Int} (h:Has w b C):b < w.heap.size:=by
 obtain⟨es,clock,hb,_⟩:=h
 exact(Array.getElem?_eq_some_iff.1 hb).1
theorem Has.below {w w1:Zw} {b:Nat} {C:Int→Int→Int} (h:Has w b C) (hb:Zb w.heap.size w w1):Has w1 b C:=by
 have hlt:=h.lt
 obtain⟨es,clock,h0,r⟩:=h
 exact⟨es,clock,(hb.block b hlt).trans h0,r⟩
theorem Has.look {w:Zw} {b:Nat} {C:Int→Int→Int} (h:Has w b C) (x y:Int):(Instr.lookup 247 (.map (some b)) (key x y) false).run Zp w=.ok (Z Y (C x y)) w:=by
 obtain⟨es,clock,hb,_,hp,hv,h0⟩:=h
 rcases find x y w es.toList hp with⟨h1,h2⟩ | ⟨j,e,h1,h2,h3⟩
 ·simp [Instr.lookup,run_underlying Tryz.underlying247,MapKept.run_getObj_map hb,check,h1,Result.andThen,h0 x y h2]
 ·simp [Instr.lookup,run_underlying Tryz.underlying247,MapKept.run_getObj_map hb,check,h1,Result.andThen,hv e (List.mem_of_getElem? h2) x y h3]
theorem Has.alloc {w:Zw} {b:Nat} {C:Int→Int→Int} (h:Has w b C) (o:Obj):Has (w.alloc o) b C:=h.below ((Zf _ _).alloc (Zr _) _)
theorem Has.drew {w:Zw} {b:Nat} {C:Int→Int→Int} (h:Has w b C):Has w.drew b C:=h
def upd (C:Int→Int→Int) (x y v:Int) (a b:Int):Int:=if a=x∧b=y then v else C a b
theorem Has.entry {w:Zw} {b:Nat} {C:Int→Int→Int} (h:Has w b C) (x y v:Int) :
 ∃(v0:Value) (st:Nat) (wA wB:Zw),(Instr.mapEntry 247 (.map (some b)) (key x y)).run Zp w=.ok (.tuple #[v0,Z Y (st:Int)]) wA ∧
  (Instr.entryStore 247 (.map (some b)) (Z Y (st:Int)) (Z Y v)).run Zp wA=.ok () wB∧Has wB b (upd C x y v)∧w.grownBy wB (some b) ∧
  (Instr.lookup 247 (.map (some b)) (key x y) false).run Zp wA=.ok (Z Y (C x y)) wA:=by
 obtain⟨es,clock,hb,hS,hp,hv,h0⟩:=h
 have hlt:b < w.heap.size:=(Array.getElem?_eq_some_iff.1 hb).1
 obtain⟨s1,s2,s3⟩:=hS
 rcases find x y w es.toList hp with⟨h1,h2⟩ | ⟨j,e0,h1,h2,h3⟩
 ·have hidx:(es.push ⟨key x y,Z Y 0,clock⟩).findIdx? (fun e=>((e.born:Nat):Int) == ((clock:Nat):Int))=some es.size:=by
   rw [findIdx_arr]
   have:=findIdx_born (l:=(es.push ⟨key x y,Z Y 0,clock⟩).toList) (j:=es.size) (e0:=⟨key x y,Z Y 0,clock⟩) (by
    simp only [Array.toList_push,List.map_append,List.map_cons,List.map_nil]
    refine List.nodup_append.2 ⟨s2,by simp,fun a ha c hc e1=>?_⟩
    simp only [List.mem_singleton]at hc
    obtain⟨z,hz,rfl⟩:=List.mem_map.1 ha
    have:=s1 z hz
    omega) (by simp)
   exact this
  have hmod:(es.push ⟨key x y,Z Y 0,clock⟩).modify es.size (fun e=>{ e with val :=Z Y v })=es.push ⟨key x y,Z Y v,clock⟩:=by
   apply Array.ext'
   rw [Array.toList_modify,Array.toList_push,Array.toList_push,← Array.length_toList,modify_last]
  refine⟨Z Y 0,clock,setBlock w b (.map (es.push ⟨key x y,Z Y 0,clock⟩) (clock+1)),setBlock (setBlock w b (.map (es.push ⟨key x y,Z Y 0,clock⟩) (clock+1))) b (.map (es.push ⟨key x y,Z Y v,clock⟩) (clock+1)),?_,?_,?_,?_,?_⟩
  ·simp [Instr.mapEntry,run_underlying Tryz.underlying247,MapKept.run_getObj_map hb,check,h1,MapKept.run_setObj_map _ hb,Result.andThen,setBlock,goInt]
  ·have hw2:(setBlock w b (.map (es.push ⟨key x y,Z Y 0,clock⟩) (clock+1))).heap[b]?=some (.map (es.push ⟨key x y,Z Y 0,clock⟩) (clock+1)):=heap_setBlock_same hb _
   simp [Instr.entryStore,MapKept.run_getObj_map hw2,asInt,asIntOf,hidx,hmod,MapKept.run_setObj_map _ hw2,Result.andThen]
   rfl
  ·refine⟨es.push ⟨key x y,Z Y v,clock⟩,clock+1,heap_setBlock_same (heap_setBlock_same hb _) _,stamped_push ⟨s1,s2,s3⟩ h2,?_,?_,?_⟩
   ·intro e he
    simp only [Array.toList_push,List.mem_append,List.mem_singleton]at he
    rcases he with he | rfl
    ·exact hp e he
    ·exact⟨x,y,rfl⟩
   ·intro e he a c hk
    simp only [Array.toList_push,List.mem_append,List.mem_singleton]at he
    rcases he with he | rfl
    ·have hne:¬(a=x∧c=y):=fun g=>h2 e he (by rw [hk,g.1,g.2])
     rw [upd,if_neg hne]
     exact hv e he a c hk
    ·obtain⟨g1,g2⟩:=key_inj hk
     rw [upd,if_pos ⟨g1.symm,g2.symm⟩]
   ·intro a c hk
    have hne:¬(a=x∧c=y):=fun g=>hk ⟨key x y,Z Y v,clock⟩ (by simp) (by show key x y=key a c;rw [g.1,g.2])
    rw [upd,if_neg hne]
    exact h0 a c fun e he=>hk e (by simp [he])
  ·refine⟨rfl,rfl,rfl,by simp [setBlock],fun i _ hi=>?_⟩
   have hne:i≠b:=fun e=>hi (by rw [e])
   have hb2:=heap_setBlock_same hb (.map (es.push ⟨key x y,Z Y 0,clock⟩) (clock+1))
   rw [heap_setBlock_other hb2 _ hne,heap_setBlock_other hb _ hne]
  ·refine Has.look ⟨es.push ⟨key x y,Z Y 0,clock⟩,clock+1,heap_setBlock_same hb _,stamped_push ⟨s1,s2,s3⟩ h2,?_,?_,?_⟩ x y
   ·intro e he
    simp only [Array.toList_push,List.mem_append,List.mem_singleton]at he
    rcases he with he | rfl
    ·exact hp e he
    ·exact⟨x,y,rfl⟩
   ·intro e he a c hk
    simp only [Array.toList_push,List.mem_append,List.mem_singleton]at he
    rcases he with he | rfl
    ·exact hv e he a c hk
    ·obtain⟨g1,g2⟩:=key_inj hk
     rw [← g1,← g2,h0 x y h2]
   ·intro a c hk
    exact h0 a c fun e he=>hk e (by simp [he])
 ·have hj:es[j]?=some e0:=by simpa using h2
  have hsame:es.modify j (fun e=>{ e with key:=key x y })=es:=by
   apply Array.ext'
   rw [Array.toList_modify,modify_eq_set _ _ _ _ h2]
   have:({ e0 with key:=key x y }:MapEntry)=e0:=by rw [← h3]
   rw [this]
   exact set_self _ _ _ h2
  have hidx:es.findIdx? (fun e=>((e.born:Nat):Int) == ((e0.born:Nat):Int))=some j:=by
   rw [findIdx_arr]
   exact findIdx_born s2 h2
  refine⟨e0.val,e0.born,setBlock w b (.map es clock),setBlock (setBlock w b (.map es clock)) b (.map (es.modify j fun e=>{ e with val :=Z Y v }) clock),?_,?_,?_,?_,?_⟩
  ·simp [Instr.mapEntry,run_underlying Tryz.underlying247,MapKept.run_getObj_map hb,check,h1,hj,h3,stays,hsame,MapKept.run_setObj_map _ hb,Result.andThen,setBlock,goInt]
  ·have hw2:(setBlock w b (.map es clock)).heap[b]?=some (.map es clock):=heap_setBlock_same hb _
   simp [Instr.entryStore,MapKept.run_getObj_map hw2,asInt,asIntOf,hidx,MapKept.run_setObj_map _ hw2,Result.andThen]
   rfl
  ·have hmem:∀ e ∈ (es.modify j fun e=>{ e with val :=Z Y v }).toList,(e.key=key x y∧e.val=Z Y v)∨(e ∈ es.toList∧e.key≠key x y):=by
    intro e he
    rw [Array.toList_modify,modify_eq_set _ _ _ _ h2]at he
    obtain⟨i,hi⟩:=List.getElem?_of_mem he
    rw [List.getElem?_set]at hi
    by_cases c:j=i
    ·rw [if_pos c]at hi
     split at hi
     ·cases hi
      exact .inl ⟨h3,rfl⟩
     ·cases hi
    ·rw [if_neg c]at hi
     refine .inr ⟨List.mem_of_getElem? hi,fun hk=>?_⟩
     have hi':(es.toList.map (·.key))[i]?=some (key x y):=by rw [List.getElem?_map,hi];simp [hk]
     have hj':(es.toList.map (·.key))[j]?=some (key x y):=by rw [List.getElem?_map,h2];simp [h3]
     obtain⟨li,gi⟩:=List.getElem?_eq_some_iff.1 hi'
     obtain⟨lj,gj⟩:=List.getElem?_eq_some_iff.1 hj'
     have hne:=List.pairwise_iff_getElem.1 s3
     rcases Nat.lt_or_gt_of_ne c with q | q
     ·exact hne j i lj li q (gj.trans gi.symm)
     ·exact hne i j li lj q (gi.trans gj.symm)
   refine⟨es.modify j fun e=>{ e with val :=Z Y v },clock,heap_setBlock_same (heap_setBlock_same hb _) _,stamped_modify ⟨s1,s2,s3⟩ j _ (fun _ _=>rfl) (fun _ _ _=>rfl),?_,?_,?_⟩
   ·intro e he
    rcases hmem e he with⟨g,_⟩ | ⟨g,_⟩
    ·exact⟨x,y,g⟩
    ·exact hp e g
   ·intro e he a c hk
    rcases hmem e he with⟨g,g'⟩ | ⟨g,g'⟩
    ·obtain⟨r1,r2⟩:=key_inj (g.symm.trans hk)
     rw [upd,if_pos ⟨r1.symm,r2.symm⟩]
     exact g'
    ·have hne:¬(a=x∧c=y):=fun q=>g' (by rw [hk,q.1,q.2])
     rw [upd,if_neg hne]
     exact hv e g a c hk
   ·intro a c hk
    have hin:({ e0 with val :=Z Y v }:MapEntry) ∈ (es.modify j fun e=>{ e with val :=Z Y v }).toList:=by
     rw [Array.toList_modify,modify_eq_set _ _ _ _ h2]
     obtain⟨lj,_⟩:=List.getElem?_eq_some_iff.1 h2
     exact List.mem_iff_getElem?.2 ⟨j,by rw [List.getElem?_set_self lj]⟩
    have hne:¬(a=x∧c=y):=fun q=>hk _ hin (by show e0.key=_;rw [h3,q.1,q.2])
    rw [upd,if_neg hne]
    refine h0 a c fun e he hke=>?_
    obtain⟨i,hi⟩:=List.getElem?_of_mem he
    by_cases q:j=i
    ·subst q
     rw [h2]at hi
     cases hi
     exact hk _ hin hke
    ·exact hk e (by
      rw [Array.toList_modify,modify_eq_set _ _ _ _ h2]
      exact List.mem_iff_getElem?.2 ⟨i,by rw [List.getElem?_set_ne q];exact hi⟩) hke
  ·refine⟨rfl,rfl,rfl,by simp [setBlock],fun i _ hi=>?_⟩
   have hne:i≠b:=fun e=>hi (by rw [e])
   have hb2:=heap_setBlock_same hb (.map es clock)
   rw [heap_setBlock_other hb2 _ hne,heap_setBlock_other hb _ hne]
  ·exact Has.look ⟨es,clock,heap_setBlock_same hb _,⟨s1,s2,s3⟩,hp,hv,h0⟩ x y
end A35
namespace A36
open Go.RowKit Go.MapKept Go.ChangeMaps Go.WideElems A35
structure Votes (w:Zw) (A:Option Addr) (n:Nat) (is:Nat→Bool) (x y:Nat→Int):Prop where
 len:n≤9223372036854775807
 cells:∀ i,i < n→∃ ad,A=some ad∧w.cell? (ad.add (i*3))=some (.bool (is i))∧w.cell? ⟨(ad.add (i*3)).block,(ad.add (i*3)).off+1,none⟩=some (Z Y (x i))∧w.cell? ⟨(ad.add (i*3)).block,(ad.add (i*3)).off+2,none⟩=some (Z Y (y i))
theorem Votes.below {w w1:Zw} {A:Option Addr} {n:Nat} {is:Nat→Bool} {x y:Nat→Int} (h:Votes w A n is x y) (hb:Zb w.heap.size w w1):Votes w1 A n is x y:=by
 refine⟨h.len,fun i hi=>?_⟩
 obtain⟨ad,h0,h1,h2,h3⟩:=h.cells i hi
 have hlt:∀ {p:Addr} {v:Value},w.cell? p=some v→w1.cell? p=some v:=fun {p v} hp=>(hb.cell (Zl _ _ hp)).trans hp
 exact⟨ad,h0,hlt h1,hlt h2,hlt h3⟩
theorem of_any (x y:Int) (w:Zw):Zc Zp 155 #[.agg #[Z Y x,Z Y y]] w fun e w'=>e=.returned (.agg #[Z Y x,Z Y y])∧Zb w.heap.size w w':=by
 have HB:=Aside0.mk (Zf w.heap.size w)
 go_enter Tryz.func155,Tryz.ntmps155
 go_wp2
 exact bodyPost_ret (v :=.agg #[Z Y x,Z Y y]) (by simp [results,Tryz.results155,go_sem]) rfl ⟨rfl,below_alloc (below_alloc HB.out _) _⟩
def cnt (is:Nat→Bool) (x y:Nat→Int):Nat→Int→Int→Int
 | 0,_,_=>0
 | n+1,a,b=>if is n=true∧a=x n∧b=y n then cnt is x y n a b+1 else cnt is x y n a b
theorem cnt_bd (is:Nat→Bool) (x y:Nat→Int) (a b:Int):∀ n,0≤cnt is x y n a b∧cnt is x y n a b≤n
 | 0=>by simp [cnt]
 | n+1=>by
  have:=cnt_bd is x y a b n
  unfold cnt
  split <;> omega
theorem cnt_yes (is:Nat→Bool) (x y:Nat→Int) (n:Nat) (h:is n=true):upd (cnt is x y n) (x n) (y n) (cnt is x y n (x n) (y n)+1)=cnt is x y (n+1):=by
 funext a b
 unfold upd
 show _=if is n=true∧a=x n∧b=y n then cnt is x y n a b+1 else cnt is x y n a b
 by_cases c:a=x n∧b=y n
 ·rw [if_pos c,if_pos ⟨h,c⟩,c.1,c.2]
 ·rw [if_neg c,if_neg (fun g=>c g.2)]
theorem cnt_no (is:Nat→Bool) (x y:Nat→Int) (n:Nat) (h:is n=false):cnt is x y n=cnt is x y (n+1):=by
 funext a b
 show _=if is n=true∧a=x n∧b=y n then cnt is x y n a b+1 else cnt is x y n a b
 rw [if_neg (fun g=>by rw [h]at g;exact absurd g.1 (by simp))]
def CountsPost (w:Zw) (is:Nat→Bool) (x y:Nat→Int) (n:Nat) (e:Ending) (w':Zw):Prop:=∃ b,e=.returned (.map (some b))∧Has w' b (cnt is x y n)∧Zb w.heap.size w w'
theorem counts_any (A:Option Addr) (n c:Nat) (is:Nat→Bool) (x y:Nat→Int) (w:Zw) (hv:Votes w A n is x y) (hc:n≤c):Zc Zp 154 #[.slice A n c] w (CountsPost w is x y n):=by
 have hmm:=@run_makeMap Zp
 have hu190:=Tryz.underlying190
 have hu44:=Tryz.underlying44
 have HV:=Aside0.mk hv
 have hlen:=hv.len
 clear hv
 go_enter Tryz.func154,Tryz.ntmps154
 go_wp2
 go_loopw [9] (fun i wr=>∃ k:Nat,k≤n∧i=Z Y k∧Aside0 (Has wr w.heap.size (cnt is x y k))∧Aside0 (Zb w.heap.size w wr)) (fun i _=>n-(intOf i).toNat)
 case atStart=>exact⟨0,Nat.zero_le _,rfl,⟨Has.made w⟩,⟨(Zf _ _).alloc (Zr _) _⟩⟩
 case round =>
  obtain⟨k,hk,rfl,HM,HB⟩:=hrel
  by_cases hlt:k < n
  ·obtain⟨ad,rfl,c0,c1,c2⟩:=(HV.out.below HB.out).cells k hlt
   cases hi:is k with
   | true =>
    rw [hi]at c0
    go_wp2_with fail
    go_region_with (go_at_call 155;refine(of_any _ _ _).mono ?_;rintro e w3 ⟨rfl,hb3⟩;have HM3:=Aside0.mk (((HM.out.alloc _).drew).below hb3);have hl3:=HM3.out.look (x k) (y k);obtain⟨v0,st,wA,wB,hE,hS,hHB,hG,hlA⟩:=HM3.out.entry (x k) (y k) (IntKind.i64.wrap (cnt is x y k (x k) (y k)+1));have HHB:=Aside0.mk hHB;have HG:=Aside0.mk hG;clear hHB hG)
    all_goals
     have HX:Aside0 (Has wB w.heap.size (cnt is x y (k+1))):=⟨by
      have h0:=HHB.out
      have hb:=cnt_bd is x y (x k) (y k) k
      have hw:IntKind.i64.wrap (cnt is x y k (x k) (y k)+1)=cnt is x y k (x k) (y k)+1:=by
       rw [IntKind.wrap_i64]
       omega
      rw [hw,cnt_yes is x y k hi]at h0
      exact h0⟩
     have HY:Aside0 (Zb w.heap.size w wB):=⟨by
      have h1:=below_step (below_drew1 (below_alloc HB.out _)) hb3
      exact h1.grown HG.out h1.size (fun j hj=>by cases hj;exact Zr _)⟩
     clear hl3 hE hS hlA HHB HG hb3 HM3 hi c0 c1 c2
     go_wp2
     go_roundw
     case rel=>exact⟨k+1,by omega,by go_num,HX,HY⟩
     case measure=>simp [intOf];omega
   | false =>
    rw [hi]at c0
    have HX:Aside0 (Has wr w.heap.size (cnt is x y (k+1))):=⟨by rw [← cnt_no is x y k hi];exact HM.out⟩
    clear hi
    go_wp2
    go_roundw
    case rel=>exact⟨k+1,by omega,by go_num,⟨HX.out.alloc _⟩,⟨below_alloc HB.out _⟩⟩
    case measure=>simp [intOf];omega
  ·obtain rfl:k=n:=by omega
   go_wp2
   go_ret
   exact⟨_,rfl,HM.out,HB.out⟩
def wins (is:Nat→Bool) (x y:Nat→Int) (n:Nat) (i:Nat):Bool:=is i && !(x i == 0 && y i == 0) && decide ((n:Int) < wrap64 (2*cnt is x y n (x i) (y i)))
def mostFrom (is:Nat→Bool) (x y:Nat→Int) (n:Nat):Nat→Nat→Int×Int
 | 0,_=>(0,0)
 | d+1,i=>if wins is x y n i=true then(x i,y i)else mostFrom is x y n d (i+1)
theorem most_any (A:Option Addr) (n c:Nat) (is:Nat→Bool) (x y:Nat→Int) (w:Zw) (hv:Votes w A n is x y) (hc:n≤c) (r1 r2:Int) (h:mostFrom is x y n n 0=(r1,r2)) :
 Zc Zp 113 #[.slice A n c] w fun e w'=>e=.returned (.agg #[Z Y r1,Z Y r2])∧Zb w.heap.size w w':=by
 have hu190:=Tryz.underlying190
 have hu44:=Tryz.underlying44
 have hu250:=Tryz.underlying250
 have HV:=Aside0.mk hv
 have HC:=Aside0.mk hc
 have H:=Aside0.mk h
 have hlen:=hv.len
 clear hv hc h
 go_enter Tryz.func113,Tryz.ntmps113
 go_wp2_with fail
 refine(counts_any A n c is x y _ (HV.out.below ((Zf _ _).alloc (Zr _) _)) HC.out).mono ?_
 rintro e w1 ⟨b,rfl,hm,hb1⟩
 have HM:=Aside0.mk hm
 have HB:=Aside0.mk (below_step (below_alloc (Zf w.heap.size w) _) hb1)
 have BK:=Aside0.mk (blk_below (g:=w.heap.size) (o :=.cells #[Z Y 0,Z Y 0] 44 (0,0)) (MapKept.heap_alloc w _).1 hb1)
 clear hm hb1
 go_wp2_with fail
 go_loopw [12] (fun i wr=>∃ k:Nat,k≤n∧i=Z Y k∧Aside0 (mostFrom is x y n (n-k) k=(r1,r2))∧Aside0 (Has wr b (cnt is x y n))∧Aside0 (wr.heap[w.heap.size]?=some (.cells #[Z Y 0,Z Y 0] 44 (0,0)))∧Aside0 (Zb w.heap.size w wr)) (fun i _=>n-(intOf i).toNat)
 case atStart=>exact⟨0,Nat.zero_le _,rfl,H,HM,BK,HB⟩
 case round =>
  clear HM HB H BK
  obtain⟨k,hk,rfl,H,HM,BK,HB⟩:=hrel
  by_cases hlt:k < n
  ·obtain⟨ad,rfl,c0,c1,c2⟩:=(HV.out.below HB.out).cells k hlt
   go_wp2_with fail
   refine(of_any _ _ _).mono ?_
   rintro e w2 ⟨rfl,hb2⟩
   go_wp2_with fail
   refine(of_any _ _ _).mono ?_
   rintro e w3 ⟨rfl,hb3⟩
   have HB2:=Aside0.mk hb2
   have HB3:=Aside0.mk hb3
   have s2:=hb2.size
   have s3:=hb3.size
   simp only [World.size_alloc]at s2 s3
   have hbx:=blk_below (g:=wr.heap.size) (o :=.cells #[.bool (is k),Z Y (x k),Z Y (y k)] 190 (0,0)) (blk_alloc (blk_below (g:=wr.heap.size) (o :=.cells #[.bool (is k),Z Y (x k),Z Y (y k)] 190 (0,0)) (blk_new wr _) hb2) (.cells #[Z Y (x k),Z Y (y k)] 250)) hb3
   have hby:=blk_below (g:=w2.heap.size) (o :=.cells #[Z Y (x k),Z Y (y k)] 250 (0,0)) (blk_new w2 _) hb3
   have d0:w3.cell? ⟨wr.heap.size,0,none⟩=some (.bool (is k)):=(blk_cell hbx 0).trans rfl
   have d1:w3.cell? ⟨wr.heap.size,1,none⟩=some (Z Y (x k)):=(blk_cell hbx 1).trans rfl
   have d2:w3.cell? ⟨wr.heap.size,2,none⟩=some (Z Y (y k)):=(blk_cell hbx 2).trans rfl
   have e0:w3.cell? ⟨w2.heap.size,0,none⟩=some (Z Y (x k)):=(blk_cell hby 0).trans rfl
   have e1:w3.cell? ⟨w2.heap.size,1,none⟩=some (Z Y (y k)):=(blk_cell hby 1).trans rfl
   have z1:wr.heap.size < w3.heap.size:=by omega
   have z2:w2.heap.size < w3.heap.size:=by omega
   have HM3:=Aside0.mk (((HM.out.alloc (.cells #[.bool (is k),Z Y (x k),Z Y (y k)] 190)).below hb2 |>.alloc (.cells #[Z Y (x k),Z Y (y k)] 250)).below hb3)
   have HB4:=Aside0.mk (below_step (below_alloc (below_step (below_alloc HB.out (.cells #[.bool (is k),Z Y (x k),Z Y (y k)] 190)) hb2) (.cells #[Z Y (x k),Z Y (y k)] 250)) hb3)
   have BK3:=Aside0.mk (blk_below (g:=w.heap.size) (o :=.cells #[Z Y 0,Z Y 0] 44 (0,0)) (blk_alloc (blk_below (g:=w.heap.size) (o :=.cells #[Z Y 0,Z Y 0] 44 (0,0)) (blk_alloc BK.out (.cells #[.bool (is k),Z Y (x k),Z Y (y k)] 190)) hb2) (.cells #[Z Y (x k),Z Y (y k)] 250)) hb3)
   clear hb2 hb3 c0 c1 c2 s2 s3 HB HM HB2 HB3 BK hbx hby
   have hd:mostFrom is x y n (n-k) k=if wins is x y n k=true then(x k,y k)else mostFrom is x y n (n-(k+1)) (k+1):=by
    rw [show n-k=(n-(k+1))+1 from by omega]
    rfl
   have HD:=Aside0.mk (hd.symm.trans H.out)
   clear hd H
   have heq:∀ w',(Op.equalIn 10000 250 (.agg #[Z Y (x k),Z Y (y k)]) (.agg #[Z Y 0,Z Y 0])).run Zp w'=.ok (x k == 0 && y k == 0) w':=fun w'=>eq250 (x k) (y k) 0 0 w'
   have hl:∀ o,(Instr.lookup 247 (.map (some b)) (.agg #[Z Y (x k),Z Y (y k)]) false).run Zp (w3.alloc o)=.ok (Z Y (cnt is x y n (x k) (y k))) (w3.alloc o):=fun o=>(HM3.out.alloc o).look (x k) (y k)
   cases hi:is k with
   | false =>
    have HN:Aside0 (mostFrom is x y n (n-(k+1)) (k+1)=(r1,r2)):=⟨by
     have h0:=HD.out
     rw [if_neg (by unfold wins;rw [hi];simp)]at h0
     exact h0⟩
    rw [hi]at d0
    clear hi heq hl HD d1 d2 e0 e1
    go_wp2
    go_roundw
    case rel=>exact⟨k+1,by omega,by go_num,HN,⟨HM3.out.alloc _⟩,⟨blk_alloc BK3.out _⟩,⟨below_alloc HB4.out _⟩⟩
    case measure=>simp [intOf];omega
   | true =>
    rw [hi]at d0
    cases hz:(x k == 0 && y k == 0)with
    | true =>
     have HN:Aside0 (mostFrom is x y n (n-(k+1)) (k+1)=(r1,r2)):=⟨by
      have h0:=HD.out
      rw [if_neg (by unfold wins;rw [hi,hz];simp)]at h0
      exact h0⟩
     rw [hz]at heq
     clear hi hz hl HD
     go_wp2
     go_roundw
     case rel=>exact⟨k+1,by omega,by go_num,HN,⟨HM3.out.alloc _⟩,⟨blk_alloc BK3.out _⟩,⟨below_alloc HB4.out _⟩⟩
     case measure=>simp [intOf];omega
    | false =>
     rw [hz]at heq
     by_cases hw:(n:Int) < wrap64 (2*cnt is x y n (x k) (y k))
     ·have HN:Aside0 ((x k,y k)=(r1,r2)):=⟨by
       have h0:=HD.out
       rw [if_pos (by unfold wins;rw [hi,hz,decide_eq_true hw];rfl)]at h0
       exact h0⟩
      clear hi hz HD
      generalize cnt is x y n (x k) (y k)=cv at *
      have f0:w3.cell? ⟨w.heap.size,0,none⟩=some (Z Y 0):=(blk_cell BK3.out 0).trans rfl
      have f1:w3.cell? ⟨w.heap.size,1,none⟩=some (Z Y 0):=(blk_cell BK3.out 1).trans rfl
      have g0:=blk_frozen BK3.out 0
      have g1:=blk_frozen BK3.out 1
      have z0:w.heap.size < w3.heap.size:=(Array.getElem?_eq_some_iff.1 BK3.out).1
      go_wp2
      obtain⟨q1,q2⟩:=Prod.mk.inj HN.out
      rw [← q1,← q2]
      exact bodyPost_ret (v :=.agg #[Z Y (x k),Z Y (y k)]) (by simp [results,Tryz.results113,go_sem,f0,f1,z0,hu44]) rfl ⟨rfl,below_alloc (below_set (below_set HB4.out (Zr _)) (Zr _)) _⟩
     ·have HN:Aside0 (mostFrom is x y n (n-(k+1)) (k+1)=(r1,r2)):=⟨by
       have h0:=HD.out
       rw [if_neg (by unfold wins;rw [hi,hz,decide_eq_false hw];simp)]at h0
       exact h0⟩
      clear hi hz HD
      generalize cnt is x y n (x k) (y k)=cv at *
      go_wp2
      go_roundw
      case rel=>exact⟨k+1,by omega,by go_num,HN,⟨HM3.out.alloc _⟩,⟨blk_alloc BK3.out _⟩,⟨below_alloc HB4.out _⟩⟩
      case measure=>simp [intOf];omega
  ·obtain rfl:k=n:=by omega
   have HN:Aside0 (((0:Int),(0:Int))=(r1,r2)):=⟨by
    have h0:=H.out
    rw [Nat.sub_self]at h0
    exact h0⟩
   clear H
   have f0:wr.cell? ⟨w.heap.size,0,none⟩=some (Z Y 0):=(blk_cell BK.out 0).trans rfl
   have f1:wr.cell? ⟨w.heap.size,1,none⟩=some (Z Y 0):=(blk_cell BK.out 1).trans rfl
   have g0:=blk_frozen BK.out 0
   have g1:=blk_frozen BK.out 1
   go_wp2
   obtain⟨q1,q2⟩:=Prod.mk.inj HN.out
   rw [← q1,← q2]
   exact bodyPost_ret (v :=.agg #[Z Y 0,Z Y 0]) (by simp [results,Tryz.results113,go_sem,f0,f1,hu44]) rfl ⟨rfl,below_set (below_set HB.out (Zr _)) (Zr _)⟩
end A36
namespace A37
open Go.RowKit Go.Shelf Go.Maps Go.Sort
attribute [local go_sem] Oper.semAt_some
abbrev encI:Int→Value:=Z Y
def upto {α:Type} (f:Nat→α) (k:Nat):List α:=(List.range k).map f
theorem upto_succ {α:Type} (f:Nat→α) (k:Nat):upto f (k+1)=upto f k ++ [f k]:=by simp [upto,List.range_succ]
theorem upto_length {α:Type} (f:Nat→α) (k:Nat):(upto f k).length=k:=by simp [upto]
theorem upto_all (zs:List Int):upto (fun j=>zs[j]?.getD 0) zs.length=zs:=by
 apply List.ext_getElem
 ·simp [upto]
 ·intro i h1 h2
  simp [upto,h2]
theorem values1_in (F:Fence) (n:Nat) (h7:F.fn 202) (hro:F.round=none) (hn:1≤n) (l Bs n₀ b off len cap:Nat) (zs:List Int) (hreach:len*8≤140737488351232) (hb:b < n₀) (J Jx:List Int→Zw→Prop)
 (hY:∀ pre x W,J pre W→pre.length < len→YieldAt F (n-1) Zp l #[Z Y x] W fun e W' =>
  (e=.returned (.bool true)∧J (pre ++ [x]) W'∧Zb n₀ W W')∨(e=.returned (.bool false)∧Jx (pre ++ [x]) W'))
 (W:Zw) (hBs:W.cell? ⟨Bs,0,none⟩=some (.slice (some ⟨b,off,none⟩) len cap)) (hc:∀ j,j < len→W.cell? ⟨b,off+j,none⟩=some (Z Y (zs[j]?.getD 0))) (h0:J [] W) :
 CallsIn F n Zp 202 #[.func (.yield l) #[] #[],.pointer (some ⟨Bs,0,none⟩)] W fun e W'=>(∃ v,e=.returned v) ∧
  ((∃ ys,ys=upto (fun j=>zs[j]?.getD 0) len∧J ys W')∨(∃ pre,(∃ k,k≤len∧pre=upto (fun j=>zs[j]?.getD 0) k)∧Jx pre W')):=by
 refine callsIn_of_wp Tryz.func202 rfl h7 ?_ hro
 simp only [Tryz.ntmps202,List.size_toArray,List.length_cons,List.length_nil,Nat.reduceAdd,Nat.reduceSub,Array.replicate_succ,Array.replicate_zero,List.push_toArray,List.append_toArray,List.nil_append,List.cons_append]
 gi_wp2
 gi_loopw [7] (fun i wr=>∃ k:Nat,k≤len∧i=Z Y k∧J (upto (fun j=>zs[j]?.getD 0) k) wr∧Zb n₀ W wr)
  (fun i _=>len-(intOf i).toNat)
 case atStart=>exact⟨0,Nat.zero_le _,rfl,h0,Zf _ _⟩
 case round =>
  obtain⟨k,hk,rfl,hJs,hnx⟩:=hrel
  have hcx:k < len→wr.cell? ⟨b,off+k,none⟩=some (Z Y (zs[k]?.getD 0)):=fun h=>(hnx.cell (p:=⟨b,off+k,none⟩) hb).trans (hc k h)
  by_cases hlt:k < len
  ·obtain⟨fn,tmps,assign,body,hy,hR⟩:=hY _ (zs[k]?.getD 0) wr hJs (by rw [upto_length];exact hlt)
   have hcx':=hcx hlt
   gi_wp2
   refine hR.mono ?_
   rintro e W3 (⟨rfl,hJ3,hk3⟩ | ⟨rfl,hJx3⟩)
   ·-- THE ROUND GOES ON
    gi_wp2
    go_roundw
    case rel=>exact⟨k+1,by omega,by simp,by rw [upto_succ];exact hJ3,hnx.trans hk3⟩
    case measure=>simp [intOf];omega
   ·gi_wp2
    refine bodyPost_ret (results_none rfl _ _ _) rfl ?_
    exact⟨⟨_,rfl⟩,.inr ⟨_,⟨k+1,by omega,(upto_succ _ _).symm⟩,hJx3⟩⟩
  ·obtain rfl:k=len:=by omega
   gi_wp2
   go_end0
   exact⟨⟨_,rfl⟩,.inl ⟨_,rfl,hJs⟩⟩
def IntsI (n₀:Nat) (W:Zw) (sv:Value) (zs:List Int):Prop :=
 (sv=.slice none 0 0∧zs=[])∨∃ b off cap,sv=.slice (some ⟨b,off,none⟩) zs.length cap∧b < n₀∧∀ j,j < zs.length→W.cell? ⟨b,off+j,none⟩=some (Z Y (zs[j]?.getD 0))
theorem IntsI.below {n₀:Nat} {A B:Zw} (h:Zb n₀ A B) {sv:Value} {zs:List Int}:IntsI n₀ A sv zs→IntsI n₀ B sv zs
 | .inl e =>.inl e
 | .inr ⟨b,off,cap,e,hb,hc⟩ =>.inr ⟨b,off,cap,e,hb,fun j hj=>(h.cell (p:=⟨b,off+j,none⟩) hb).trans (hc j hj)⟩
theorem values1_nil_in (F:Fence) (n:Nat) (h7:F.fn 202) (hro:F.round=none) (l Bs:Nat) (J:List Int→Zw→Prop) (W:Zw) (hBs:W.cell? ⟨Bs,0,none⟩=some (.slice none 0 0)) (h0:J [] W) :
 CallsIn F n Zp 202 #[.func (.yield l) #[] #[],.pointer (some ⟨Bs,0,none⟩)] W fun e W'=>(∃ v,e=.returned v)∧J [] W':=by
 refine callsIn_of_wp Tryz.func202 rfl h7 ?_ hro
 simp only [Tryz.ntmps202,List.size_toArray,List.length_cons,List.length_nil,Nat.reduceAdd,Nat.reduceSub,Array.replicate_succ,Array.replicate_zero,List.push_toArray,List.append_toArray,List.nil_append,List.cons_append]
 gi_wp2
 gi_loopw [7] (fun i wr=>i=Z Y 0∧J [] wr) (fun _ _=>0)
 case atStart=>exact⟨rfl,h0⟩
 case round =>
  obtain⟨rfl,hJs⟩:=hrel
  gi_wp2
  go_end0
  exact⟨⟨_,rfl⟩,hJs⟩
theorem values_in (F:Fence) (n:Nat) (h5:F.fn 181) (hro:F.round=none) (a:Option Addr) (len cap:Nat) (w:Zw) :
 CallsIn F n Zp 181 #[.slice a len cap] w fun e w'=>e=.returned (.func (.func 202) #[] #[.pointer (some ⟨w.heap.size,0,none⟩)])∧w'=w.alloc (.cells #[.slice a len cap] 22):=by
 refine callsIn_of_wp Tryz.func181 rfl h5 ?_ hro
 simp only [Tryz.ntmps181,List.size_toArray,List.length_cons,List.length_nil,Nat.reduceAdd,Nat.reduceSub,Array.replicate_succ,Array.replicate_zero,List.push_toArray,List.append_toArray,List.nil_append,List.cons_append]
 gi_wp2
 go_ret
 exact⟨rfl,rfl⟩
def SeqB {α:Type} (F:Fence) (n:Nat) (P:Program) (g:Nat) (lb:Array Value) (enc:α→Value) (S:List α→Prop) (N:Nat) (w:Zw):Prop :=
 ∀(l:Nat) (J:List α→Zw→Prop) (W:Zw),Zb w.heap.size w W→AbidesFrom W.heap.size J→(∀ pre W,J pre W→Zb w.heap.size w W) →
  (∀ pre x W1,J pre W1→pre.length < N→YieldAt F (n-1) P l #[enc x] W1 fun e W'=>e=.returned (.bool true)∧J (pre ++ [x]) W'∧KeepsWalks W1 W') →
  J [] W →
  CallsIn F n P g (#[.func (.yield l) #[] #[]] ++ lb) W fun e W'=>(∃ v,e=.returned v)∧∃ xs,S xs∧J xs W'
theorem below_two {b:Nat} {w W W':Zw} (h:Zb b w W) (h':Zb b w W') (hs:W.heap.size≤W'.heap.size):Zb b W W' :=
 ⟨h'.os.trans h.os.symm,h'.tape.trans h.tape.symm,h'.output.trans h.output.symm,hs,fun k hk=>(h'.block k hk).trans (h.block k hk).symm⟩
theorem values_gives (F:Fence) (n:Nat) (h7:F.fn 202) (hro:F.round=none) (hn:1≤n) (Bs:Nat) (sv:Value) (zs:List Int) (hreach:zs.length*8≤140737488351232) (w:Zw) (hBs:Bs < w.heap.size)
 (hc:w.cell? ⟨Bs,0,none⟩=some sv) (hI:IntsI w.heap.size w sv zs) :
 SeqB F n Zp 202 #[.pointer (some ⟨Bs,0,none⟩)] encI (fun ys=>ys=zs) zs.length w:=fun l J W hW _ hJB hY h0=>by
 have hc':=(hW.cell (p:=⟨Bs,0,none⟩) hBs).trans hc
 rcases hI.below hW with⟨rfl,rfl⟩ | ⟨b,off,cap,rfl,hb,hcs⟩
 ·exact(values1_nil_in F n h7 hro l Bs J W hc' h0).mono fun e W' ⟨he,hj⟩=>⟨he,_,rfl,hj⟩
 ·refine(values1_in F n h7 hro hn l Bs w.heap.size b off zs.length cap zs hreach hb J (fun _ _=>False) (fun pre x W1 hj hl=>(hY pre x W1 hj hl).mono ?_) W hc' hcs h0).mono ?_
  ·rintro e W' ⟨he,hj',hk⟩
   exact .inl ⟨he,hj',below_two (hJB _ _ hj) (hJB _ _ hj') hk.size⟩
  ·rintro e W' ⟨he,⟨ys,rfl,hj⟩ | ⟨pre,_,hj⟩⟩
   ·exact⟨he,_,upto_all zs,hj⟩
   ·exact hj.elim
def apAssign : Code := (Code.region 2 #[{ dst := some 5, op := Op.assign (Operand.tmp 7), type := 3, pos := "iter.go:51", after := #[], guard := none }] false)
def apBody : Code := (Code.block 1 (Code.region 3 #[{ dst := some 8, op := Op.load 22 (Operand.tmp 2), type := 22, pos := "iter.go:52", after := #[], guard := none }, { dst := some 9, op := Op.move (Operand.tmp 5), type := 3, pos := "iter.go:52", after := #[], guard := none }, { dst := some 10, op := Op.buildSlice 22 1 #[(0, Operand.tmp 9)], type := 22, pos := "iter.go:52", after := #[{ on := 1, ground := Ground.data }], guard := none }, { dst := some 11, op := Op.call { callee := Callee.builtin Builtin.append, args := #[Operand.tmp 8, Operand.tmp 10], argTypes := #[22, 22] }, type := 22, pos := "iter.go:52", after := #[{ on := 0, ground := Ground.data }, { on := 2, ground := Ground.data }], guard := none }, { dst := none, op := Op.store 22 (Operand.tmp 2) (Operand.tmp 11), type := 0, pos := "iter.go:52", after := #[{ on := 3, ground := Ground.data }, { on := 3, ground := Ground.chain }, { on := 0, ground := Ground.phase }, { on := 1, ground := Ground.phase }, { on := 2, ground := Ground.phase }, { on := 3, ground := Ground.phase }], guard := none }] false))
def apRec (fn:FuncId) (sv:Value) (Bs D:Nat) (st:LoopState) (pend:Option Code):Loop :=
 { state:=st,pending:=pend,fn,tmps:=#[.slice none 0 0,sv,.pointer (some ⟨Bs,0,none⟩),undef,.slice none 0 0,undef,sv,undef,undef,undef,undef,undef,undef],params:=#[7],assign:=apAssign,body:=apBody,defers:=D }
structure ApAt (w0:Zw) (fn:FuncId) (sv:Value) (Bs l D:Nat) (ss:List Int) (W:Zw):Prop where
 box:∃ v,W.heap[Bs]?=some (.cells #[v] 22 (0,0))∧W.ownsRow w0.heap.size 3 1 v ss.length (ss.map encI)∧(v=.slice none 0 0↔ss=[])
 L:W.heap[l]?=some (.loop (apRec fn sv Bs D .ready none))
 K:W.heap[D]?=some (.deferred (some []))
 below:Zb w0.heap.size w0 W
theorem ownsRow_abides {W W':Zw} {row:Option Nat} {base:Nat} {e:TypeId} {size:Nat} {v:Value} {k:Nat} {xs:List Value} (h:W.ownsRow base e size v k xs) (hg:W.grownBy W' row)
 (hrow:∀ r,row=some r→∃ o:Obj,W.heap[r]?=some o∧o.isWalk=true):W'.ownsRow base e size v k xs:=by
 refine h.kept hg ?_
 rcases h.2 with⟨rfl,_⟩ | ⟨g,cap,cur,rfl,_,hgb,_⟩
 ·exact .inl rfl
 ·refine .inr fun e'=>?_
  obtain⟨o,ho,hw⟩:=hrow g (by simpa [Value.ownBlock]using e'.symm)
  rw [hgb]at ho;cases ho;cases hw
theorem ap_abides (w0:Zw) (fn:FuncId) (sv:Value) (Bs l D B:Nat) (hB:w0.heap.size≤B):AbidesFrom B (ApAt w0 fn sv Bs l D):=fun s W W' row h hg hrow=>by
 have hrow':∀ r,row=some r→∃ o:Obj,W.heap[r]?=some o∧o.isWalk=true:=fun r e=>(hrow r e).2
 obtain⟨v,hv,hr,hn⟩:=h.box
 exact⟨⟨v,(grownBy_keeps hg hrow' hv rfl).trans hv,ownsRow_abides hr hg hrow',hn⟩,(grownBy_keeps hg hrow' h.L rfl).trans h.L,(grownBy_keeps hg hrow' h.K rfl).trans h.K,
  h.below.grown hg h.below.size (fun k e=>Nat.le_trans hB (hrow k e).1)⟩
theorem grownBy_putObj (W:Zw) (l:Nat) (o:Obj):W.grownBy (W.putObj l o) (some l) :=
 ⟨rfl,rfl,rfl,by simp,fun k _ hk=>World.putObj_heap_other (fun e=>hk (by rw [e]))⟩
theorem grownBy_setCell0 (W:Zw) (b:Nat) (v:Value):W.grownBy (W.setCell ⟨b,0,none⟩ v) (some b) :=
 ⟨rfl,rfl,rfl,(KeepsWalks.setCell W _ v).size,fun k _ hk=>Below.heap_setCell _ _ _ k (fun e=>hk (by rw [e]))⟩
theorem ownsRow_ne {W:Zw} {base:Nat} {e:TypeId} {size:Nat} {v:Value} {k:Nat} {xs:List Value} (h:W.ownsRow base e size v k xs) {j:Nat} {o:Obj} (hj:W.heap[j]?=some o) (hno:∀ cur,o ≠ .cells cur e (0,0)) :
 v.ownBlock=none∨v.ownBlock≠some j:=by
 rcases h.2 with⟨rfl,_⟩ | ⟨g,cap,cur,rfl,_,hgb,_⟩
 ·exact .inl rfl
 ·refine .inr fun e'=>?_
  have:g=j:=by simpa [Value.ownBlock]using e'
  subst this;rw [hgb]at hj;cases hj;exact hno cur rfl
theorem cell_of_box {W:Zw} {B:Nat} {v:Value} {t:TypeId} (h:W.heap[B]?=some (.cells #[v] t (0,0))):W.cell? ⟨B,0,none⟩=some v∧W.frozen? ⟨B,0,none⟩=false:=by
 constructor <;> simp [World.cell?,World.frozen?,h]
theorem heap_setCell_box {W:Zw} {B:Nat} {v:Value} {t:TypeId} (v':Value) (h:W.heap[B]?=some (.cells #[v] t (0,0))):(W.setCell ⟨B,0,none⟩ v').heap[B]?=some (.cells #[v'] t (0,0)):=by
 obtain⟨hlt,hk⟩:=Array.getElem?_eq_some_iff.1 h
 show(W.heap.modify B _)[B]?=_
 rw [Array.getElem?_eq_getElem (by rw [Array.size_modify];exact hlt),Array.getElem_modify_self,hk]
 rfl
theorem ownsRow_not_walk {W:Zw} {base:Nat} {e:TypeId} {size:Nat} {v:Value} {k:Nat} {xs:List Value} (h:W.ownsRow base e size v k xs):∀(j:Nat) (o:Obj),v.ownBlock=some j→W.heap[j]?=some o→o.isWalk=false:=by
 intro j o hj ho
 rcases h.2 with⟨rfl,_⟩ | ⟨g,cap,cur,rfl,_,hgb,_⟩
 ·simp [Value.ownBlock]at hj
 ·have:g=j:=by simpa [Value.ownBlock]using hj
  subst this;rw [hgb]at ho;cases ho;rfl
theorem info3_:(Tryz.prog.info? 3).map (fun i=>(i.zero,i.size,i.bytes))=some (some (Z Y 0),1,8):=by kernel_rfl
theorem apYield (F:Fence) (m:Nat) (w0:Zw) (fn:FuncId) (hfn:F.fn fn) (sv:Value) (Bs l D:Nat) (hBl:Bs≠l) (hDl:D≠l) (hDB:D≠Bs) (h0B:w0.heap.size≤Bs) (h0l:w0.heap.size≤l)
 (N:Nat) (hN:N≤maxLen) (hNb:N*8≤140737488355328) (ss:List Int) (x:Int) (W:Zw) (h:ApAt w0 fn sv Bs l D ss W) (hlen:ss.length < N) :
 YieldAt F m Zp l #[encI x] W fun e W'=>e=.returned (.bool true)∧ApAt w0 fn sv Bs l D (ss ++ [x]) W'∧KeepsWalks W W':=by
 obtain⟨i0,hi,hz0,hz1,hz2⟩:=info_parts info3_
 obtain⟨v,hv,hrow,_⟩:=h.box
 refine⟨fn,#[.slice none 0 0,sv,.pointer (some ⟨Bs,0,none⟩),undef,.slice none 0 0,undef,sv,encI x,undef,undef,undef,undef,undef],apAssign,apBody,by simpa [apRec]using run_yield (P:=Zp) (args:=#[encI x]) h.L rfl,roundIn_of_wpIn hfn ?_⟩
 have hl:l < W.heap.size:=(Array.getElem?_eq_some_iff.1 h.L).1
 have hbr:=run_beginRound (P:=Zp) h.L rfl
 obtain⟨W2,hW2⟩:∃ W2,W.putObj l (.loop { apRec fn sv Bs D .ready none with state :=.busy })=W2:=⟨_,rfl⟩
 rw [hW2]at hbr
 have hg2:W.grownBy W2 (some l):=by rw [← hW2];exact grownBy_putObj _ _ _
 have hk2:KeepsWalks W W2:=by rw [← hW2];exact KeepsWalks.putObj _ h.L rfl
 have hv2:W2.heap[Bs]?=some (.cells #[v] 22 (0,0)):=by rw [← hW2];exact(World.putObj_heap_other hBl).trans hv
 have hK2:W2.heap[D]?=some (.deferred (some [])):=by rw [← hW2];exact(World.putObj_heap_other hDl).trans h.K
 have hL2:W2.heap[l]?=some (.loop { apRec fn sv Bs D .ready none with state :=.busy }):=by rw [← hW2];exact World.putObj_heap_same hl
 have hrow2:W2.ownsRow w0.heap.size 3 1 v ss.length (ss.map encI):=hrow.kept hg2 (ownsRow_ne hrow h.L (fun cur e=>by cases e))
 have hb2:Zb w0.heap.size w0 W2:=h.below.grown hg2 h.below.size (fun k e=>by cases e;exact h0l)
 obtain⟨hc2,hf2⟩:=cell_of_box hv2
 have hBlt:Bs < W2.heap.size:=(Array.getElem?_eq_some_iff.1 hv2).1
 have hl2:l < W2.heap.size:=(Array.getElem?_eq_some_iff.1 hL2).1
 have hDlt:D < W2.heap.size:=(Array.getElem?_eq_some_iff.1 hK2).1
 have ne_of:∀ {j:Nat} {o:Obj},W2.heap[j]?=some o→(∀ cur,o ≠ .cells cur 3 (0,0))→some j≠v.ownBlock:=fun hj hno=>by
  rcases ownsRow_ne hrow2 hj hno with e | e
  ·rw [e];simp
  ·exact fun e'=>e e'.symm
 clear hW2
 unfold apAssign
 gi_wp2_with (rw [Oper.semAt_eq _ _ _ (fun c h=>by cases h)];go_simp;try go_bits)
 unfold apBody
 gi_wp2_with (first
  | (
   gi_at_builtin;refine wpListIn_append_own _ rfl _ _ 22 rfl w0.heap.size 3 i0 (Z Y 0) 1 8 Tryz.underlying22 hi hz0 hz1 hz2 rfl (by decide) _ _ _ rfl (hrow2.alloc _) ⟨W2.heap.size,0,none⟩ 1 1 [encI x] rfl rfl (cell_one_new _ _ _) (by simp [Value.oneCell',encI]) (by omega) (by omega) (by have:=hb2.size;simp;omega) ?_;intro v' w3 hown' hg3 hnil3
   have hv3:w3.heap[Bs]?=some (.cells #[v] 22 (0,0)):=(hg3.block Bs (by simp;omega) (ne_of hv2 (fun cur e=>by cases e))).trans ((Below.heap_alloc _ _ Bs hBlt).trans hv2)
   obtain⟨hc3,hf3⟩:=cell_of_box hv3
   obtain⟨g',cap',cur',rfl,hbase',hgb',hr1,hr2,hr3,hr4⟩:∃ g' cap' cur',v'=.slice (some ⟨g',0,none⟩) (ss.length+1) cap'∧w0.heap.size≤g'∧w3.heap[g']?=some (.cells cur' 3 (0,0))∧ss.length+1≤cap'∧cap'≤maxLen∧cur'.size=cap'*1∧cur'.toList.take ((ss.length+1)*1)=ss.map encI ++ [encI x]:=by
    rcases hown'.2 with⟨_,h0⟩ | h'
    ·exact absurd h0 (by omega)
    ·exact h'
   simp only [Act.put,List.setIfInBounds_toArray,List.set_cons_succ,List.set_cons_zero])
  | (rw [Oper.semAt_eq _ _ _ (fun c h=>by cases h)];go_simp;try go_bits))
 have hg3':(W2.alloc (.cells #[encI x] 3)).grownBy w3 v.ownBlock:=hg3
 have hL3:w3.heap[l]?=some (.loop { apRec fn sv Bs D .ready none with state :=.busy }):=(hg3'.block l (by simp;omega) (ne_of hL2 (fun cur e=>by cases e))).trans ((Below.heap_alloc _ _ l hl2).trans hL2)
 have hK3:w3.heap[D]?=some (.deferred (some [])):=(hg3'.block D (by simp;omega) (ne_of hK2 (fun cur e=>by cases e))).trans ((Below.heap_alloc _ _ D hDlt).trans hK2)
 obtain⟨w4,hw4⟩:∃ w4,w3.setCell ⟨Bs,0,none⟩ (.slice (some ⟨g',0,none⟩) (ss.length+1) cap')=w4:=⟨_,rfl⟩
 rw [hw4]
 have hg4:w3.grownBy w4 (some Bs):=by rw [← hw4];exact grownBy_setCell0 _ _ _
 have hv4:w4.heap[Bs]?=some (.cells #[.slice (some ⟨g',0,none⟩) (ss.length+1) cap'] 22 (0,0)):=by rw [← hw4];exact heap_setCell_box _ hv3
 have hL4:w4.heap[l]?=some (.loop { apRec fn sv Bs D .ready none with state :=.busy }):=(hg4.block l (Array.getElem?_eq_some_iff.1 hL3).1 (fun e=>hBl (by cases e;rfl))).trans hL3
 have hK4:w4.heap[D]?=some (.deferred (some [])):=(hg4.block D (Array.getElem?_eq_some_iff.1 hK3).1 (fun e=>hDB (by cases e;rfl))).trans hK3
 have hrow4:=hown'.kept hg4 (ownsRow_ne hown' hv3 (fun cur e=>by cases e))
 have hl4:l < w4.heap.size:=(Array.getElem?_eq_some_iff.1 hL4).1
 have hb3:Zb w0.heap.size w0 w3:=(hb2.alloc hb2.size _).grown hg3' (by have:=hb2.size;simp;omega) (fun k e=>(hrow2.lt k e).1)
 have hb4:Zb w0.heap.size w0 w4:=hb3.grown hg4 hb3.size (fun k e=>by cases e;exact h0B)
 have hk4:KeepsWalks W w4:=((hk2.trans (KeepsWalks.alloc _ _)).trans (KeepsWalks.of_grownBy hg3' (ownsRow_not_walk (hrow2.alloc _)))).trans (by rw [← hw4];exact KeepsWalks.setCell _ _ _)
 clear hw4
 refine⟨_,_,run_endRound none hL4,rfl,⟨⟨_,(World.putObj_heap_other hBl).trans hv4,?_,by simp⟩,World.putObj_heap_same hl4,(World.putObj_heap_other hDl).trans hK4,hb4.grown (grownBy_putObj _ _ _) hb4.size (fun k e=>by cases e;exact h0l)⟩,hk4.trans (KeepsWalks.putObj _ hL4 rfl)⟩
 have:=hrow4.kept (grownBy_putObj w4 l (.loop { { apRec fn sv Bs D .ready none with state :=.busy } with state:=if(none:Option Code).isNone then .ready else .done,pending:=none })) (ownsRow_ne hrow4 hL4 (fun cur e=>by cases e))
 simpa using this
theorem appendSeq_in (F:Fence) (n:Nat) (h11:F.fn 216) (hro:F.round=none) (hn:2≤n) (g:Nat) (lb:Array Value) (hFg:F.fn g) (eg:∀ args w,(callFunc g args).run Zp w=.ok (.enter g args) w)
 (S:List Int→Prop) (N:Nat) (hN:N≤maxLen) (hNb:N*8≤140737488355328) (w:Zw) (hseq:SeqB F (n-1) Zp g lb encI S N w) :
 CallsIn F n Zp 216 #[.slice none 0 0,.func (.func g) #[] lb] w fun e w'=>∃(v:Value) (ss:List Int),e=.returned v∧S ss∧w'.ownsRow w.heap.size 3 1 v ss.length (ss.map encI)∧(v=.slice none 0 0↔ss=[])∧Zb w.heap.size w w':=by
 have h1:1≤n:=by omega
 refine callsIn_of_wp_marks Tryz.func216 rfl h11 ?_ hro
 simp only [Tryz.ntmps216,List.size_toArray,List.length_cons,List.length_nil,Nat.reduceAdd,Nat.reduceSub,Array.replicate_succ,Array.replicate_zero,List.push_toArray,List.append_toArray,List.nil_append,List.cons_append]
 gi_wp2
 refine wpIn_rangeFunc ?_
 intro fn hfn
 rw [hro]
 obtain⟨W0,hW0⟩:∃ W0,w.alloc (.cells #[.slice none 0 0] 22)=W0:=⟨_,rfl⟩
 have hs0:W0.heap.size=w.heap.size+1:=by rw [← hW0];simp
 have hv0:W0.heap[w.heap.size]?=some (.cells #[.slice none 0 0] 22 (0,0)):=by rw [← hW0];exact World.alloc_heap_new w _
 have hb0:Zb w.heap.size w W0:=by rw [← hW0];exact(Zf _ w).alloc (Zr _) _
 rw [hW0]
 obtain⟨W1,hW1⟩:∃ W1,(W0.alloc (.deferred (some []))).alloc (.loop (apRec fn (.func (.func g) #[] lb) w.heap.size W0.heap.size .ready none))=W1:=⟨_,rfl⟩
 have hold:∀ k,k < W0.heap.size→W1.heap[k]?=W0.heap[k]?:=fun k hk=>by
  rw [← hW1];exact(Below.heap_alloc _ _ k (by simp;omega)).trans (Below.heap_alloc _ _ k hk)
 have hb1:Zb w.heap.size w W1:=by rw [← hW1];exact(hb0.alloc hb0.size _).alloc (by have:=hb0.size;simp;omega) _
 have hs1:W1.heap.size=W0.heap.size+2:=by rw [← hW1];simp
 have hM:ApAt w fn (.func (.func g) #[] lb) w.heap.size (W0.heap.size+1) W0.heap.size [] W1 :=
  ⟨⟨_,(hold w.heap.size (by omega)).trans hv0,⟨rfl,.inl ⟨rfl,rfl⟩⟩,by simp⟩,
   by rw [← hW1];have:=World.alloc_heap_new (W0.alloc (.deferred (some []))) (.loop (apRec fn (.func (.func g) #[] lb) w.heap.size W0.heap.size .ready none));rwa [World.size_alloc]at this,
   by rw [← hW1];exact(Below.heap_alloc _ _ _ (by simp)).trans (World.alloc_heap_new W0 _),hb1⟩
 refine⟨W0.heap.size+1,[{ target :=.collected W0.heap.size,args:=#[] }],W1,{ target :=.fn (.func g) lb,args:=#[.func (.yield (W0.heap.size+1)) #[] #[]] },W1,g,
  #[.func (.yield (W0.heap.size+1)) #[] #[]] ++ lb,W1,?_,?_,?_,?_,fun _=>h1,?_⟩
 ·rw [← hW1];exact run_enterLoop_outer _ _ _ _ _
 ·simp [resolve,go_sem]
 ·intro f' hf';simp [Target.leads]at hf';subst hf';exact hFg
 ·simp [invoke,go_sem,eg]
 ·refine(hseq (W0.heap.size+1) (ApAt w fn (.func (.func g) #[] lb) w.heap.size (W0.heap.size+1) W0.heap.size) W1 hb1 (ap_abides _ _ _ _ _ _ _ hb1.size) (fun pre W h=>h.below)
   (fun pre x W hJ hl=>apYield F (n-1-1) w fn hfn _ w.heap.size (W0.heap.size+1) W0.heap.size (by omega) (by omega) (by omega) (Zr _) (by omega) N hN hNb pre x W hJ hl) hM).mono ?_
  rintro e W2 ⟨⟨v0,rfl⟩,ss,hS,h2⟩
  obtain⟨v,hv,hrow,hnil⟩:=h2.box
  have hend:=run_endLoop (P:=Zp) h2.L (by simp [apRec])
  obtain⟨W3,hW3⟩:∃ W3,W2.putObj (W0.heap.size+1) (.loop { apRec fn (.func (.func g) #[] lb) w.heap.size W0.heap.size .ready none with state :=.exhausted })=W3:=⟨_,rfl⟩
  rw [hW3]at hend
  have hg3:W2.grownBy W3 (some (W0.heap.size+1)):=by rw [← hW3];exact grownBy_putObj _ _ _
  have hv3:W3.heap[w.heap.size]?=some (.cells #[v] 22 (0,0)):=by rw [← hW3];exact(World.putObj_heap_other (by omega)).trans hv
  have hK3:W3.heap[W0.heap.size]?=some (.deferred (some [])):=by rw [← hW3];exact(World.putObj_heap_other (by omega)).trans h2.K
  have hrow3:=hrow.kept hg3 (ownsRow_ne hrow h2.L (fun cur e=>by cases e))
  have hb3:Zb w.heap.size w W3:=h2.below.grown hg3 h2.below.size (fun k e=>by cases e;omega)
  obtain⟨hc3,hf3⟩:=cell_of_box hv3
  clear hW3
  refine⟨none,W3,hend,?_⟩
  gi_wp2
  rw [← hs0]
  refine⟨by simp,.inl ⟨_,_,rfl,run_takeDeferred hK3,?_⟩⟩
  exact⟨_,results_tmp rfl _ _ _,v,ss,rfl,hS,hrow3.kept (grownBy_putObj _ _ _) (ownsRow_ne hrow3 hK3 (fun cur e=>by cases e)),hnil,hb3.grown (grownBy_putObj _ _ _) hb3.size (fun k e=>by cases e;omega)⟩
theorem collect_in (F:Fence) (n:Nat) (h8:F.fn 200) (h11:F.fn 216) (hro:F.round=none) (hn:3≤n) (g:Nat) (lb:Array Value) (hFg:F.fn g) (eg:∀ args w,(callFunc g args).run Zp w=.ok (.enter g args) w)
 (S:List Int→Prop) (N:Nat) (hN:N≤maxLen) (hNb:N*8≤140737488355328) (w:Zw) (hseq:SeqB F (n-1-1) Zp g lb encI S N w) :
 CallsIn F n Zp 200 #[.func (.func g) #[] lb] w fun e w'=>∃(v:Value) (ss:List Int),e=.returned v∧S ss∧w'.ownsRow w.heap.size 3 1 v ss.length (ss.map encI)∧(v=.slice none 0 0↔ss=[])∧Zb w.heap.size w w':=by
 have h1:1≤n:=by omega
 refine callsIn_of_wp Tryz.func200 rfl h8 ?_ hro
 simp only [Tryz.ntmps200,List.size_toArray,List.length_cons,List.length_nil,Nat.reduceAdd,Nat.reduceSub,Array.replicate_succ,Array.replicate_zero,List.push_toArray,List.append_toArray,List.nil_append,List.cons_append]
 gi_wp2_with (gi_at_call 216;refine(appendSeq_in F (n-1) h11 hro (by omega) g lb hFg eg S N hN hNb _ hseq).mono ?_;rintro e w' ⟨v,ss,rfl,hS,hrow,hnil,hb⟩)
 go_ret
 exact⟨v,ss,rfl,hS,hrow,hnil,hb⟩
theorem sorts_wide1 (m blk off cap:Nat) (zs:List Int) (W:Zw) (hH:Holds (Z Y) W blk off zs.toArray) (hblk:blk < W.heap.size) (hsz:zs.length < 4611686018427387904) :
 CallsIn Fence.wide m Zp 201 #[.slice (some ⟨blk,off,none⟩) zs.length cap] W fun e w'=>e=.returned (.tuple #[])∧∃ n os,w'=grow (putRow (Z Y) (Sort.ahead W n) blk off (zs.mergeSort fun x y=>decide (x≤y)).toArray) os :=
 callsIn_wide.2 (Tryz.slices_Sort_int blk off cap zs W hH hblk hsz)
theorem sorts_wide2 (m:Nat) (p:Option Addr) (cap:Nat) (W:Zw):CallsIn Fence.wide m Zp 201 #[.slice p 0 cap] W fun e w'=>e=.returned (.tuple #[])∧w'=W :=
 callsIn_wide.2 (Tryz.slices_Sort_int_none p cap W)
theorem sorted_in (n:Nat) (hn:4≤n) (g:Nat) (lb:Array Value) (eg:∀ args w,(callFunc g args).run Zp w=.ok (.enter g args) w)
 (S:List Int→Prop) (N:Nat) (hN:N≤maxLen) (hNb:N*8≤140737488355328) (hlen:∀ ss,S ss→ss.length≤N) (w:Zw) (hseq:SeqB Fence.wide (n-1-1-1) Zp g lb encI S N w) :
 CallsIn Fence.wide n Zp 180 #[.func (.func g) #[] lb] w fun e w'=>∃(v:Value) (ss:List Int),e=.returned v∧S ss ∧
  w'.ownsRow w.heap.size 3 1 v ss.length ((ss.mergeSort (fun x y=>decide (x≤y))).map encI)∧(v=.slice none 0 0↔ss=[])∧Zb w.heap.size w w':=by
 have h1:1≤n:=by omega
 have h8:Fence.wide.fn 200:=trivial
 have h9:Fence.wide.fn 201:=trivial
 refine callsIn_of_wp Tryz.func180 rfl trivial ?_ rfl
 simp only [Tryz.ntmps180,List.size_toArray,List.length_cons,List.length_nil,Nat.reduceAdd,Nat.reduceSub,Array.replicate_succ,Array.replicate_zero,List.push_toArray,List.append_toArray,List.nil_append,List.cons_append]
 gi_wp2_with (gi_at_call 200;refine(collect_in Fence.wide (n-1) h8 trivial rfl (by omega) g lb trivial eg S N hN hNb _ hseq).mono ?_;rintro e W ⟨v,ss,rfl,hS,hrow,hnil,hb⟩)
 rcases hrow.2 with⟨rfl,hz⟩ | ⟨gb,cap,cur,rfl,hbase,hgb,r1,r2,r3,r4⟩
 ·have hss:ss=[]:=List.eq_nil_of_length_eq_zero hz
  subst hss
  gi_wp2_with (gi_at_call 201;refine(sorts_wide2 _ none 0 W).mono ?_;rintro e w' ⟨rfl,rfl⟩)
  go_ret
  exact⟨.slice none 0 0,[],rfl,hS,by simpa using hrow,by simp,hb⟩
 ·have hH:Holds (Z Y) W gb 0 ss.toArray:=holds_of_blockI hgb (by simpa using r4)
  have hgl:gb < W.heap.size:=(Array.getElem?_eq_some_iff.1 hgb).1
  have hsz:ss.length < 4611686018427387904:=by have:=hlen ss hS;omega
  have cS:=sorts_wide1 (n-1) gb 0 cap ss W hH hgl hsz
  gi_wp2_with (gi_at_call 201;refine cS.mono ?_;rintro e w' ⟨rfl,nn,os,rfl⟩)
  go_ret
  exact⟨_,ss,rfl,hS,ownsRow_sortedI (by simp) hbase hgb r1 r2 r3,hnil,hb.grown (grownBy_sortedI _) hb.size (fun j hj=>by cases hj;exact hbase)⟩
theorem mid_inner (A:Option Addr) (C:Nat) (zs:List Int) (w:Zw) (hI:IntsI w.heap.size w (.slice A zs.length C) zs) (hl:zs.length≤1000) (hl2:2≤zs.length) :
 Zc Zp 156 #[.slice A zs.length C] w fun e w'=>∃ g cap,e=.returned (.slice (some ⟨g,1,none⟩) (zs.length-2) cap)∧Zb w.heap.size w w'∧g < w'.heap.size ∧
  ∀ j,j+2 < zs.length→w'.cell? ⟨g,1+j,none⟩=some (Z Y ((zs.mergeSort (fun x y=>decide (x≤y))).getD (j+1) 0)):=by
 refine(callsIn_wide (n:=8)).1 ?_
 have hf1:Fence.wide.fn 181:=trivial
 have hf2:Fence.wide.fn 180:=trivial
 have hml:(1000:Nat)≤maxLen:=by decide
 have hseq:SeqB Fence.wide 4 Zp 202 #[.pointer (some ⟨w.heap.size,0,none⟩)] encI (fun ys=>ys=zs) zs.length (w.alloc (.cells #[.slice A zs.length C] 22)) :=
  values_gives Fence.wide 4 trivial rfl (by omega) w.heap.size (.slice A zs.length C) zs (by omega) _ (by simp) (cell_of_box (World.alloc_heap_new w _)).1 ((show IntsI w.heap.size (w.alloc _) _ zs from hI.below ((Zf _ w).alloc (Zr _) _)).imp id fun⟨b,off,cap,e,hb,hc⟩=>⟨b,off,cap,e,by simp;omega,hc⟩)
 have cV:=values_in Fence.wide 7 trivial rfl A zs.length C w
 have cS:=sorted_in 7 (by omega) 202 #[.pointer (some ⟨w.heap.size,0,none⟩)] (enters_of Tryz.func202 (by kernel_rfl) rfl) _ _ (by omega) (by omega) (fun ss h=>by rw [h];exact Zr _) _ hseq
 have hlz:(zs.mergeSort (fun x y=>decide (x≤y))).length=zs.length:=List.length_mergeSort _
 refine callsIn_of_wp Tryz.func156 rfl trivial ?_ rfl
 simp only [Tryz.ntmps156,List.size_toArray,List.length_cons,List.length_nil,Nat.reduceAdd,Nat.reduceSub,Array.replicate_succ,Array.replicate_zero,List.push_toArray,List.append_toArray,List.nil_append,List.cons_append]
 gi_wp2_with (first
  | (gi_at_call 181;refine cV.mono ?_;rintro e w' ⟨rfl,rfl⟩)
  | (gi_at_call 180;refine cS.mono ?_;rintro e w' ⟨v,ss,rfl,rfl,hrow,hnil,hb⟩;rcases hrow.2 with⟨rfl,hz⟩ | ⟨gb,cap,cur,rfl,hbase,hgb,r1,r2,r3,r4⟩;(· omega)))
 have hcell:∀ j,j < ss.length→w'.cell? ⟨gb,j,none⟩=some (Z Y ((ss.mergeSort (fun x y=>decide (x≤y))).getD j 0)):=fun j hj=>by
  rw [Lib.cell_of_heap hgb j]
  have h1:(cur.toList.take (ss.length*1))[j]?=((ss.mergeSort (fun x y=>decide (x≤y))).map encI)[j]?:=by rw [r4]
  rw [List.getElem?_take,if_pos (by omega),List.getElem?_map,Array.getElem?_toList]at h1
  rw [h1,List.getD_eq_getElem?_getD,List.getElem?_eq_getElem (by omega)]
  rfl
 go_ret
 refine⟨gb,cap-1,?_,?_,(Array.getElem?_eq_some_iff.1 hgb).1,fun j hj=>?_⟩
 ·rw [show ss.length-1-1=ss.length-2 from by omega];rfl
 ·exact((Zf _ w).alloc (Zr _) _).trans (hb.mono (by simp))
 ·rw [Nat.add_comm 1 j];exact hcell (j+1) (by omega)
end A37
namespace A38
open Go.RowKit A4
def nth (zs:List Int) (k:Nat):Int:=(zs.mergeSort (fun x y=>decide (x≤y))).getD k 0
def midF (zs:List Int):Int:=(nth zs 1+nth zs (zs.length-2)) / 2
theorem nth_mem {zs:List Int} {k:Nat} (h:k < zs.length):nth zs k ∈ zs:=by
 have hl:(zs.mergeSort (fun x y=>decide (x≤y))).length=zs.length:=List.length_mergeSort _
 unfold nth
 rw [List.getD_eq_getElem?_getD,List.getElem?_eq_getElem (by omega)]
 exact(List.mergeSort_perm zs _).mem_iff.1 (List.getElem_mem _)
theorem intsI_of {w:Zw} {A:Option Addr} {C:Nat} {zs:List Int} (h:Ints w A zs) (hz:zs≠[]):A37.IntsI w.heap.size w (.slice A zs.length C) zs:=by
 rcases h.cases with e | ⟨b,off,rfl,hb,hc⟩
 ·exact absurd e hz
 ·refine .inr ⟨b,off,C,rfl,hb,fun j hj=>?_⟩
  have:=hc j hj
  rwa [List.getD_eq_getElem?_getD]at this
theorem mid_Few (A:Option Addr) (C:Nat) (zs:List Int) (w:Zw) (hl:zs.length < 4) :
 Zc Zp 115 #[.slice A zs.length C] w fun e w'=>e=.returned (.tuple #[Z Y 0,.bool false])∧Zb w.heap.size w w':=by
 generalize zs.length=n at *
 have d1:decide (n < 4)=true:=by simp;omega
 have d2:decide ((n:Int) < 4)=true:=by simp;omega
 clear hl
 go_enter Tryz.func115,Tryz.ntmps115
 go_wp2
 go_ret2
 exact⟨rfl,bB⟩
theorem mid_Mid (A:Option Addr) (C:Nat) (zs:List Int) (w:Zw) (hI:Ints w A zs) (hl:4≤zs.length) (hl2:zs.length≤1000) (hz:∀ z ∈ zs,-1000000≤z∧z≤1000000) :
 Zc Zp 115 #[.slice A zs.length C] w fun e w'=>e=.returned (.tuple #[Z Y (midF zs),.bool true])∧Zb w.heap.size w w':=by
 have HM:=A37.mid_inner A C zs w (intsI_of hI (fun e=>by rw [e]at hl;simp at hl)) hl2 (by omega)
 have b1:=hz _ (nth_mem (show 1 < zs.length by omega))
 have b2:=hz _ (nth_mem (show zs.length-2 < zs.length by omega))
 replace HM:=O (HM.mono (R':=fun e w'=>∃ g cap,e=.returned (.slice (some ⟨g,1,none⟩) (zs.length-2) cap)∧Zb w.heap.size w w'∧g < w'.heap.size∧w'.cell? ⟨g,1,none⟩=some (Z Y (nth zs 1))∧w'.cell? ⟨g,1+(zs.length-3),none⟩=some (Z Y (nth zs (zs.length-2)))) (by
  rintro e w1 ⟨g,cap,rfl,hb,hg,hc⟩
  refine⟨g,cap,rfl,hb,hg,hc 0 (by omega),?_⟩
  have:=hc (zs.length-3) (by omega)
  rw [show zs.length-3+1=zs.length-2 from by omega]at this
  exact this))
 unfold midF
 obtain⟨m,hm⟩:∃ m:Nat,zs.length=m+4:=⟨zs.length-4,by omega⟩
 rw [hm]at HM b2 ⊢
 have hm2:m+4-2=m+2:=rfl
 have hm3:m+4-3=m+1:=rfl
 rw [hm3,hm2]at HM
 rw [hm2]at b2 ⊢
 generalize nth zs 1=a at *
 generalize nth zs (m+2)=b at *
 clear hI hz hm2 hm3
 have hm1:m≤1000:=by omega
 clear hl hl2 hm
 go_enter Tryz.func115,Tryz.ntmps115
 go_wp2_with fail
 refine HM.out.mono ?_
 rintro e w1 ⟨g,cap,rfl,hb,hg,c0,c1⟩
 have HB:=O hb
 clear HM hb
 go_wp2_with fail
 go_region
 all_goals
  go_wp2
  go_ret2
  exact⟨rfl,HB.out.drew⟩
end A38
namespace A39
open Go.RowKit A18
structure Hd where
 node:Nat
 kind:Nat
 dev:Int
def Hd.none:Hd:=⟨0,0,0⟩
def Hds (w:Zw) (A:Option Addr) (l:List Hd):Prop:=∀ k,k < l.length→∃ b off,A=some ⟨b,off,Option.none⟩∧b < w.heap.size∧w.cell? ⟨b,off+k*3,Option.none⟩=some (Z Y (l.getD k Hd.none).node)∧w.cell? ⟨b,off+k*3+1,Option.none⟩=some (Z Y (l.getD k Hd.none).kind)∧w.cell? ⟨b,off+k*3+2,Option.none⟩=some (Z Y (l.getD k Hd.none).dev)
theorem Hds.below {w w1:Zw} {A:Option Addr} {l:List Hd} (h:Hds w A l) (hb:Zb w.heap.size w w1):Hds w1 A l:=fun k hk=>by
 obtain⟨b,off,e,h1,h2,h3,h4⟩:=h k hk
 exact⟨b,off,e,Nat.lt_of_lt_of_le h1 hb.size,(hb.cell (p:=⟨b,_,Option.none⟩) h1).trans h2,(hb.cell (p:=⟨b,_,Option.none⟩) h1).trans h3,(hb.cell (p:=⟨b,_,Option.none⟩) h1).trans h4⟩
theorem joins_below (node:Int) (LA:Option Addr) (LL LC:Nat) (a k d:Int) (w:Zw) :
 Zc Zp 117 #[.agg #[Z Y node,.slice LA LL LC],.agg #[Z Y a,Z Y k,Z Y d]] w fun e w'=>e=.returned (.bool (decide (node < a)))∧Zb w.heap.size w w':=by
 go_enter Tryz.func117,Tryz.ntmps117
 go_wp2
 go_ret
 exact⟨rfl,bB⟩
theorem begins_below (node:Int) (LA:Option Addr) (LL LC:Nat) (a k d:Int) (w:Zw) :
 Zc Zp 120 #[.agg #[Z Y node,.slice LA LL LC],.agg #[Z Y a,Z Y k,Z Y d]] w fun e w'=>e=.returned (.bool (decide (node < a)))∧Zb w.heap.size w w':=by
 go_enter Tryz.func120,Tryz.ntmps120
 go_wp2
 go_ret
 exact⟨rfl,bB⟩
theorem sync_never (a k d:Int) (w:Zw) :
 Zc Zp 119 #[.agg #[Z Y a,Z Y k,Z Y d]] w fun e w'=>e=.returned (.bool false)∧Zb w.heap.size w w':=by
 go_enter Tryz.func119,Tryz.ntmps119
 go_wp2
 go_ret
 exact⟨rfl,bB⟩
theorem chosen_is (a k d:Int) (w:Zw) :
 Zc Zp 158 #[.agg #[Z Y a,Z Y k,Z Y d]] w fun e w'=>e=.returned (.bool (k == 3))∧Zb w.heap.size w w':=by
 go_enter Tryz.func158,Tryz.ntmps158
 go_wp2
 go_ret
 exact⟨rfl,bB⟩
theorem index_none (A:Option Addr) (l:List Hd) (C:Nat) (w:Zw) (hl:Hds w A l) (hlen:l.length≤100) (hv:∀ k,k < l.length→(l.getD k Hd.none).kind≠3) :
 Zc Zp 157 #[.slice A l.length C,.func (Fn.func 158) #[] #[]] w fun e w'=>e=.returned (Z Y (-1))∧Zb w.heap.size w w':=by
 have HL:=O hl
 have HV:=O hv
 clear hl hv
 go_enter Tryz.func157,Tryz.ntmps157
 go_wp2
 go_loopw [8] (fun t wr=>∃ k:Nat,k≤l.length∧t=Z Y k∧Zb w.heap.size w wr) (fun t _=>l.length-(intOf t).toNat)
 case atStart=>exact⟨0,by omega,rfl,Zf _ _⟩
 case round =>
  obtain⟨k,hk,rfl,hbr⟩:=hrel
  by_cases hlt:k < l.length
  ·obtain⟨eb,eo,rfl,hel,hc0,hc1,hc2⟩:=(HL.out.below hbr) k hlt
   have ho:=HV.out k hlt
   generalize l.getD k Hd.none=it at *
   obtain⟨i1,i2,i3⟩:=it
   have hq:((i2:Int) == 3)=false:=beq_eq_false_iff_ne.mpr (by simp at ho;omega)
   have HC:=O (fun w=>chosen_is i1 i2 i3 w)
   rw [hq]at HC
   have HB:=O hbr
   have lk0:(0:Int)≤(k:Int):=by omega
   have lk1:(k:Int) < (l.length:Int):=by omega
   clear hbr ho hq
   go_wp2_with fail
   refine(HC.out _).mono ?_
   rintro e w1 ⟨rfl,hb1⟩
   go_wp2
   go_roundw
   case rel=>exact⟨k+1,by omega,by go_num,HB.out.trans (hb1.mono HB.out.size)⟩
   case measure=>simp [intOf];omega
  ·go_wp2
   go_ret
   exact⟨rfl,hbr⟩
def chosenF (l:List Hd) (ahead:Nat→Bool):Int:=match l with | []=>0 | h :: _=>if ahead h.node then 0 else h.dev
theorem chosen_nil (fv:Value) (A:Option Addr) (C:Nat) (w:Zw) :
 Zc Zp 118 #[.slice A 0 C,fv] w fun e w'=>e=.returned (Z Y 0)∧Zb w.heap.size w w':=by
 have HI:=O (index_none A [] C w (fun k hk=>absurd hk (by simp)) (by simp) (fun k hk=>absurd hk (by simp)))
 simp only [List.length_nil]at HI
 go_enter Tryz.func118,Tryz.ntmps118
 go_wp2_with fail
 refine HI.out.mono ?_
 rintro e w1 ⟨rfl,hb1⟩
 go_wp2
 go_ret
 exact⟨rfl,hb1⟩
theorem chosen_joins (node:Nat) (x:Option Addr) (y z:Nat) (A:Option Addr) (h:Hd) (r:List Hd) (C:Nat) (w:Zw) (hl:Hds w A (h :: r)) (hlen:(h :: r).length≤100) (hv:∀ k,k < (h :: r).length→((h :: r).getD k Hd.none).kind≠3) :
 Zc Zp 118 #[.slice A (r.length+1) C,.func (.func 117) #[.agg #[Z Y node,.slice x y z]] #[]] w fun e w'=>e=.returned (Z Y (if decide (node < h.node)then 0 else h.dev))∧Zb w.heap.size w w':=by
 have HI:=O (index_none A (h :: r) C w hl hlen hv)
 obtain⟨eb,eo,rfl,hel,hc0,hc1,hc2⟩:=hl 0 (by simp)
 simp only [List.getD_cons_zero,Nat.zero_mul,Nat.add_zero]at hc0 hc1 hc2
 obtain⟨i1,i2,i3⟩:=h
 simp only [List.length_cons]at HI hlen
 clear hl hv
 generalize r.length=n at *
 have hz1:((n:Int)+1 == 0)=false:=beq_eq_false_iff_ne.mpr (by omega)
 have hz2:(0:Int) < (n:Int)+1:=by omega
 have HJ:=O (fun w=>joins_below node x y z i1 i2 i3 w)
 obtain⟨q,hd,hd2⟩:∃ q,decide ((node:Int) < (i1:Int))=q∧decide (node < i1)=q:=⟨decide (node < i1),by simp,rfl⟩
 rw [hd]at HJ
 dsimp only at hc0 hc1 hc2 ⊢
 rw [hd2]
 clear hd hd2
 cases q
 all_goals
  go_enter Tryz.func118,Tryz.ntmps118
  go_wp2_with fail
  refine HI.out.mono ?_
  rintro e w1 ⟨rfl,hb1⟩
  have c0:=keep_of hc0 hel hb1
  have c1:=keep_of hc1 hel hb1
  have c2:=keep_of hc2 hel hb1
  have HB:=O hb1
  have hz:=hb1.size
  have hel1:eb < w1.heap.size:=by omega
  clear hc0 hc1 hc2 hb1 HI
  go_wp2_with fail
  refine(HJ.out _).mono ?_
  rintro e w2 ⟨rfl,hb2⟩
  have d2:=keep_of c2 hel1 hb2
  have HB2:=O (HB.out.trans (hb2.mono hz))
  clear HJ hb2
  go_wp2
  go_ret
  exact⟨rfl,HB2.out⟩
theorem chosen_begins (node:Nat) (x:Option Addr) (y z:Nat) (A:Option Addr) (h:Hd) (r:List Hd) (C:Nat) (w:Zw) (hl:Hds w A (h :: r)) (hlen:(h :: r).length≤100) (hv:∀ k,k < (h :: r).length→((h :: r).getD k Hd.none).kind≠3) :
 Zc Zp 118 #[.slice A (r.length+1) C,.func (.func 120) #[.agg #[Z Y node,.slice x y z]] #[]] w fun e w'=>e=.returned (Z Y (if decide (node < h.node)then 0 else h.dev))∧Zb w.heap.size w w':=by
 have HI:=O (index_none A (h :: r) C w hl hlen hv)
 obtain⟨eb,eo,rfl,hel,hc0,hc1,hc2⟩:=hl 0 (by simp)
 simp only [List.getD_cons_zero,Nat.zero_mul,Nat.add_zero]at hc0 hc1 hc2
 obtain⟨i1,i2,i3⟩:=h
 simp only [List.length_cons]at HI hlen
 clear hl hv
 generalize r.length=n at *
 have hz1:((n:Int)+1 == 0)=false:=beq_eq_false_iff_ne.mpr (by omega)
 have hz2:(0:Int) < (n:Int)+1:=by omega
 have HJ:=O (fun w=>begins_below node x y z i1 i2 i3 w)
 obtain⟨q,hd,hd2⟩:∃ q,decide ((node:Int) < (i1:Int))=q∧decide (node < i1)=q:=⟨decide (node < i1),by simp,rfl⟩
 rw [hd]at HJ
 dsimp only at hc0 hc1 hc2 ⊢
 rw [hd2]
 clear hd hd2
 cases q
 all_goals
  go_enter Tryz.func118,Tryz.ntmps118
  go_wp2_with fail
  refine HI.out.mono ?_
  rintro e w1 ⟨rfl,hb1⟩
  have c0:=keep_of hc0 hel hb1
  have c1:=keep_of hc1 hel hb1
  have c2:=keep_of hc2 hel hb1
  have HB:=O hb1
  have hz:=hb1.size
  have hel1:eb < w1.heap.size:=by omega
  clear hc0 hc1 hc2 hb1 HI
  go_wp2_with fail
  refine(HJ.out _).mono ?_
  rintro e w2 ⟨rfl,hb2⟩
  have d2:=keep_of c2 hel1 hb2
  have HB2:=O (HB.out.trans (hb2.mono hz))
  clear HJ hb2
  go_wp2
  go_ret
  exact⟨rfl,HB2.out⟩
theorem chosen_never (A:Option Addr) (h:Hd) (r:List Hd) (C:Nat) (w:Zw) (hl:Hds w A (h :: r)) (hlen:(h :: r).length≤100) (hv:∀ k,k < (h :: r).length→((h :: r).getD k Hd.none).kind≠3) :
 Zc Zp 118 #[.slice A (r.length+1) C,.func (.func 119) #[] #[]] w fun e w'=>e=.returned (Z Y (h.dev))∧Zb w.heap.size w w':=by
 have HI:=O (index_none A (h :: r) C w hl hlen hv)
 obtain⟨eb,eo,rfl,hel,hc0,hc1,hc2⟩:=hl 0 (by simp)
 simp only [List.getD_cons_zero,Nat.zero_mul,Nat.add_zero]at hc0 hc1 hc2
 obtain⟨i1,i2,i3⟩:=h
 simp only [List.length_cons]at HI hlen
 clear hl hv
 generalize r.length=n at *
 have hz1:((n:Int)+1 == 0)=false:=beq_eq_false_iff_ne.mpr (by omega)
 have hz2:(0:Int) < (n:Int)+1:=by omega
 have HJ:=O (fun w=>sync_never i1 i2 i3 w)
 dsimp only at hc0 hc1 hc2 ⊢
 all_goals
  go_enter Tryz.func118,Tryz.ntmps118
  go_wp2_with fail
  refine HI.out.mono ?_
  rintro e w1 ⟨rfl,hb1⟩
  have c0:=keep_of hc0 hel hb1
  have c1:=keep_of hc1 hel hb1
  have c2:=keep_of hc2 hel hb1
  have HB:=O hb1
  have hz:=hb1.size
  have hel1:eb < w1.heap.size:=by omega
  clear hc0 hc1 hc2 hb1 HI
  go_wp2_with fail
  refine(HJ.out _).mono ?_
  rintro e w2 ⟨rfl,hb2⟩
  have d2:=keep_of c2 hel1 hb2
  have HB2:=O (HB.out.trans (hb2.mono hz))
  clear HJ hb2
  go_wp2
  go_ret
  exact⟨rfl,HB2.out⟩
theorem index_first (A:Option Addr) (l:List Hd) (C m:Nat) (w:Zw) (hl:Hds w A l) (hlen:l.length≤100) (hm:m < l.length) (h3:(l.getD m Hd.none).kind=3) (hv:∀ k,k < m→(l.getD k Hd.none).kind≠3) :
 Zc Zp 157 #[.slice A l.length C,.func (Fn.func 158) #[] #[]] w fun e w'=>e=.returned (Z Y (m:Int))∧Zb w.heap.size w w':=by
 have HL:=O hl
 have HV:=O hv
 have H3:=O h3
 clear hl hv h3
 go_enter Tryz.func157,Tryz.ntmps157
 go_wp2
 go_loopw [8] (fun t wr=>∃ k:Nat,k≤m∧t=Z Y k∧Zb w.heap.size w wr) (fun t _=>l.length-(intOf t).toNat)
 case atStart=>exact⟨0,by omega,rfl,Zf _ _⟩
 case round =>
  obtain⟨k,hk,rfl,hbr⟩:=hrel
  have hlt:k < l.length:=by omega
  obtain⟨eb,eo,rfl,hel,hc0,hc1,hc2⟩:=(HL.out.below hbr) k hlt
  have ho:(l.getD k Hd.none).kind=3↔k=m:=⟨fun h=>by
   rcases Nat.lt_or_ge k m with h' | h'
   ·exact absurd h (HV.out k h')
   ·omega,fun h=>by rw [h];exact H3.out⟩
  generalize l.getD k Hd.none=it at *
  obtain⟨i1,i2,i3⟩:=it
  dsimp only at ho
  have HC:=O (fun w=>chosen_is i1 i2 i3 w)
  have HB:=O hbr
  have lk0:(0:Int)≤(k:Int):=by omega
  have lk1:(k:Int) < (l.length:Int):=by omega
  by_cases e:k=m
  ·have hq:((i2:Int) == 3)=true:=by have:=ho.mpr e;simp;omega
   rw [hq]at HC
   subst e
   clear hbr ho hq
   go_wp2_with fail
   refine(HC.out _).mono ?_
   rintro e w1 ⟨rfl,hb1⟩
   go_wp2
   go_ret
   exact⟨rfl,HB.out.trans (hb1.mono HB.out.size)⟩
  ·have hq:((i2:Int) == 3)=false:=beq_eq_false_iff_ne.mpr (fun h=>e (ho.mp (by omega)))
   rw [hq]at HC
   clear hbr ho hq
   go_wp2_with fail
   refine(HC.out _).mono ?_
   rintro e w1 ⟨rfl,hb1⟩
   go_wp2
   go_roundw
   case rel=>exact⟨k+1,by omega,by go_num,HB.out.trans (hb1.mono HB.out.size)⟩
   case measure=>simp [intOf];omega
theorem chosen_data (fv:Value) (A:Option Addr) (l:List Hd) (C m:Nat) (w:Zw) (hl:Hds w A l) (hlen:l.length≤100) (hm:m < l.length) (h3:(l.getD m Hd.none).kind=3) (hv:∀ k,k < m→(l.getD k Hd.none).kind≠3) :
 Zc Zp 118 #[.slice A l.length C,fv] w fun e w'=>e=.returned (Z Y (l.getD m Hd.none).dev)∧Zb w.heap.size w w':=by
 have HI:=O (index_first A l C m w hl hlen hm h3 hv)
 obtain⟨eb,eo,rfl,hel,hc0,hc1,hc2⟩:=hl m hm
 generalize (l.getD m Hd.none).dev=v at *
 have lk0:(0:Int)≤(m:Int):=by omega
 have lk1:(m:Int) < (l.length:Int):=by omega
 clear hl hv h3 hc0 hc1
 go_enter Tryz.func118,Tryz.ntmps118
 go_wp2_with fail
 refine HI.out.mono ?_
 rintro e w1 ⟨rfl,hb1⟩
 have c2:=keep_of hc2 hel hb1
 have HB:=O hb1
 clear hc2 hb1 HI
 go_wp2
 go_ret
 exact⟨rfl,HB.out⟩
end A39
end Go.Proofs.YtdbempiompiioaaGreat
