/- Leaf functions of the network: places on a ring, numbers of a configuration, windows, states. Leaf f Conditions: the bounds stated in each theorem. -/
import Derived.Test.YtdbempiompiioaaGreatProg
import Derived.WalkKit
import Derived.KernelRfl
import Derived.Below
import Derived.LoopTactic
import Derived.Outline
import Derived.Lib.Hide
import Derived.Laws.BitsLemmas
import Derived.IntWalk
import Derived.Deep.Draws
import Derived.LoopN
import Derived.Deep.QuietTactic
import Derived.BigQuiet
import Derived.Deep.RegionHeld3
import Derived.Laws.RangeString
import Derived.RegionTactic
import Derived.Shelf.Strings.Builder1
import Derived.Shelf.Small.Bits
import Derived.Shelf.Strings.BuilderF
import Derived.Shelf.Strings.BuilderK
import Derived.Shelf.Strconv.Itoa0
import Derived.Shelf.Sort.Plain
import Derived.Shelf.Strings.Prefix
import Derived.Shelf.Bits.Mul64
import Derived.Shelf.Slices.Turned
import Derived.Ground.Names2Prog
import Derived.Shelf.Slices.Clone
import Derived.Shelf.Slices.SearchI
import Derived.Shelf.Slices.In.SortNone
import Derived.Ground.SlgnProg
import Derived.Shelf.SlicesE.Clone
import Derived.Laws.AppendOwn
import Derived.OwnWalk
import Derived.Lib.FrozenHead2
import Derived.Lib.Builder
set_option linter.unusedVariables false
set_option linter.unusedSimpArgs false
set_option maxRecDepth 100000
set_option maxHeartbeats 80000000
open Go.Value renaming int → Z
open Go.IntKind renaming i64 → Y
open Go renaming World → Zw, Calls → Zc, heap_alloc_new → Zh
open Go.RowKit renaming Below → Zb
open Go.Proofs.Tryz renaming prog → Zp
open Go.Lib renaming hid → O
open Go.World renaming block_lt_of_cell? → Zl, cell?_setCell_other → Zo
open Nat renaming le_refl → Zr
open Go.RowKit.Below renaming refl → Zf
namespace Go.Proofs.YtdbempiompiioaaGreat
section
open Go.RowKit
theorem bB{n:Nat}{w w':World}(h:Below n w w':=by repeat(first | exact Below.refl _ _ | refine Below.drew ?_ | refine below_drewN ?_ _ | refine Below.alloc ?_ (by simp;try omega) _)):Below n w w':=h
end
namespace A1
open Go.RowKit
theorem ret_int {k:IntKind} {a b:Int} (h:a=b):Ending.returned (.int k a)=.returned (.int k b):=by rw [h]
theorem ret_bool {a b:Bool} (h:a=b):Ending.returned (.bool a)=.returned (.bool b):=by rw [h]
theorem below_drewN {B:Nat} {a w:Zw} (h:Zb B a w) (n:Nat):Zb B a (w.drewN n):=⟨h.os,h.tape,h.output,h.size,h.block⟩
theorem two63:(2:Int) ^ 63=9223372036854775808:=by decide
theorem tmod_pos (a n:Int) (hn:0 < n):(a.tmod n+n).tmod n=a%n:=by
 have h0:=Int.lt_tmod_of_pos a hn
 have h1:0≤a.tmod n+n:=by omega
 rw [Int.tmod_eq_emod_of_nonneg h1,Int.add_emod_right,Int.tmod_def,Int.sub_mul_emod_self_left]
theorem and_wires (x:Int) (h0:0≤x) (h1:x < 9223372036854775808):bits BinOp.and IntKind.i64 x 65535=x%65536:=by
 have h:=bits_mask .i64 63 (by decide) (fun n h0 h1=>by rw [two63]at h1;rw [IntKind.wrap_i64];omega) 16 (by decide) x h0 (by rw [two63];omega)
 have e:((2:Int) ^ 16-1)=65535:=by decide
 have e2:((2:Int) ^ 16)=65536:=by decide
 rw [e,e2]at h
 exact h
theorem ring_At (n i d:Int) (w:Zw) (hn:6≤n) (hn2:n≤12) (hi : -1000≤i) (hi2:i≤1000) (hd : -1000≤d) (hd2:d≤1000) :
 Zc Zp 149 #[Z Y n,Z Y i,Z Y d] w fun e w'=>e=.returned (Z Y ((i+d)%n))∧w=w':=by
 have h1:=Int.lt_tmod_of_pos (i+d) (show 0 < n by omega)
 have h2:=Int.tmod_lt_of_pos (i+d) (show 0 < n by omega)
 have h3:wrap64 ((i+d).tmod n+n)=(i+d).tmod n+n:=by unfold wrap64;omega
 have H:=O h3
 clear h3 h1 h2
 go_enter Tryz.func149,Tryz.ntmps149
 go_wp2
 go_ret
 exact⟨ret_int (by rw [H.out];exact tmod_pos _ _ (by omega)),rfl⟩
theorem conf_Slots (N Pi Er G Fi:Int) (PA:Option Addr) (PL PC:Nat) (w:Zw) (hN:0≤N) (hN2:N≤12) (hp:PL≤3) :
 Zc Zp 31 #[.agg #[Z Y N,Z Y Pi,Z Y Er,Z Y G,Z Y Fi,.slice PA PL PC]] w fun e w'=>e=.returned (Z Y (N+PL))∧Zb w.heap.size w w':=by
 go_enter Tryz.func31,Tryz.ntmps31
 go_wp2
 go_ret
 exact⟨rfl,(Zf _ _).alloc (Zr _) _⟩
theorem ref_Slots (N Pi Er G Fi:Int) (PA:Option Addr) (PL PC:Nat) (w:Zw) (hN:0≤N) (hN2:N≤12) (hp:PL≤3) :
 Zc Zp 24 #[.agg #[Z Y N,Z Y Pi,Z Y Er,Z Y G,Z Y Fi,.slice PA PL PC]] w fun e w'=>e=.returned (Z Y (N+PL))∧Zb w.heap.size w w':=by
 go_enter Tryz.func24,Tryz.ntmps24
 go_wp2
 go_ret
 exact⟨rfl,(Zf _ _).alloc (Zr _) _⟩
theorem conf_Wire (N Pi Er G Fi:Int) (PA:Option Addr) (PL PC:Nat) (round:Int) (w:Zw) (hF:0≤Fi) (hF2:Fi≤65535) (hr:0≤round) (hr2:round≤1000) :
 Zc Zp 96 #[.agg #[Z Y N,Z Y Pi,Z Y Er,Z Y G,Z Y Fi,.slice PA PL PC],Z Y round] w fun e w'=>e=.returned (Z Y ((Fi+round)%65536))∧Zb w.heap.size w w':=by
 have H:=O (and_wires (Fi+round) (by omega) (by omega))
 go_enter Tryz.func96,Tryz.ntmps96
 go_wp2
 go_ret
 exact⟨ret_int H.out,(Zf _ _).alloc (Zr _) _⟩
theorem conf_Most (N Pi Er G Fi:Int) (PA:Option Addr) (PL PC:Nat) (w:Zw) (hN:0≤N) (hN2:N≤12) :
 Zc Zp 121 #[.agg #[Z Y N,Z Y Pi,Z Y Er,Z Y G,Z Y Fi,.slice PA PL PC]] w fun e w'=>e=.returned (Z Y (N / 2+1))∧Zb w.heap.size w w':=by
 go_enter Tryz.func121,Tryz.ntmps121
 go_wp2
 go_ret
 exact⟨rfl,(Zf _ _).alloc (Zr _) _⟩
theorem conf_Window (N Pi Er G Fi:Int) (PA:Option Addr) (PL PC:Nat) (w:Zw) (hN:0≤Pi) (hN2:Pi≤10000) :
 Zc Zp 147 #[.agg #[Z Y N,Z Y Pi,Z Y Er,Z Y G,Z Y Fi,.slice PA PL PC]] w fun e w'=>e=.returned (Z Y (2*Pi))∧Zb w.heap.size w w':=by
 go_enter Tryz.func147,Tryz.ntmps147
 go_wp2
 go_ret
 exact⟨rfl,(Zf _ _).alloc (Zr _) _⟩
theorem conf_within (n a b:Int) (w:Zw) :
 Zc Zp 46 #[Z Y n,Z Y a,Z Y b] w fun e w'=>e=.returned (.bool (decide (a≤n∧n≤b)))∧w=w':=by
 by_cases h1:n≥a
 ·by_cases h2:n≤b
  ·go_enter Tryz.func46,Tryz.ntmps46
   go_wp2
   go_ret
   exact⟨ret_bool (by simp [h1,h2]),rfl⟩
  ·go_enter Tryz.func46,Tryz.ntmps46
   go_wp2
   go_ret
   exact⟨ret_bool (by simp [h1,h2]),rfl⟩
 ·have h1':decide (n≥a)=false:=by simp;omega
  go_enter Tryz.func46,Tryz.ntmps46
  go_wp2
  go_ret
  exact⟨ret_bool (by simp [h1]),rfl⟩
theorem script_within (n a b:Int) (w:Zw) :
 Zc Zp 50 #[Z Y n,Z Y a,Z Y b] w fun e w'=>e=.returned (.bool (decide (a≤n∧n≤b)))∧w=w':=by
 by_cases h1:n≥a
 ·by_cases h2:n≤b
  ·go_enter Tryz.func50,Tryz.ntmps50
   go_wp2
   go_ret
   exact⟨ret_bool (by simp [h1,h2]),rfl⟩
  ·go_enter Tryz.func50,Tryz.ntmps50
   go_wp2
   go_ret
   exact⟨ret_bool (by simp [h1,h2]),rfl⟩
 ·have h1':decide (n≥a)=false:=by simp;omega
  go_enter Tryz.func50,Tryz.ntmps50
  go_wp2
  go_ret
  exact⟨ret_bool (by simp [h1]),rfl⟩
theorem rem_lt (a n:Int) (hn:0 < n):a.tmod n < n ∧ -n < a.tmod n:=⟨Int.tmod_lt_of_pos a hn,Int.lt_tmod_of_pos a hn⟩
theorem rem_pos {a n:Int} (hn:0 < n) (h:¬ a.tmod n < 0):a.tmod n=a%n:=by
 have h1:=tmod_pos a n hn
 rw [Int.tmod_eq_emod_of_nonneg (by have:=rem_lt a n hn;omega),Int.add_emod_right,Int.emod_eq_of_lt (by omega) (rem_lt a n hn).1]at h1
 exact h1
theorem rem_neg {a n:Int} (hn:0 < n) (h:a.tmod n < 0):a.tmod n+n=a%n:=by
 have h1:=tmod_pos a n hn
 have:=rem_lt a n hn
 rw [Int.tmod_eq_emod_of_nonneg (by omega),Int.emod_eq_of_lt (by omega) (by omega)]at h1
 exact h1
theorem top_within (a n:Int) (w:Zw) (hn:0 < n) (hn2:n≤1000000) :
 Zc Zp 9 #[Z Y a,Z Y n] w fun e w'=>e=.returned (Z Y (a%n))∧w=w':=by
 have hl:=rem_lt a n hn
 by_cases h:a.tmod n < 0
 ·have H:=O (rem_neg hn h)
  have H2:=O (show wrap64 (a.tmod n+n)=a.tmod n+n by unfold wrap64;omega)
  clear hl
  go_enter Tryz.func9,Tryz.ntmps9
  go_wp2
  go_ret
  exact⟨ret_int (by first | exact H.out | (rw [H2.out];exact H.out)),rfl⟩
 ·have H:=O (rem_pos hn h)
  clear hl
  go_enter Tryz.func9,Tryz.ntmps9
  go_wp2
  go_ret
  exact⟨ret_int H.out,rfl⟩
end A1
namespace A2
open Go.RowKit A1
theorem lane_symbol_yes (c:Int) (w:Zw) (h:c=48∨c=49∨c=35) :
 Zc Zp 210 #[.int .i32 c] w fun e w'=>e=.returned (.bool true)∧w=w':=by
 rcases h with rfl | rfl | rfl <;>
 ·go_enter Tryz.func210,Tryz.ntmps210
  go_wp2
  go_ret
  exact⟨rfl,rfl⟩
theorem lane_symbol_idle (w:Zw) :
 Zc Zp 210 #[.int .i32 46] w fun e w'=>e=.returned (.bool false)∧w=w':=by
 go_enter Tryz.func210,Tryz.ntmps210
 go_wp2
 go_ret
 exact⟨rfl,rfl⟩
theorem sym_bit (c:Int) (w:Zw) (h:c=48∨c=49∨c=35) :
 Zc Zp 189 #[.int .i32 c] w fun e w'=>e=.returned (.bool (c != 35))∧w=w':=by
 rcases h with rfl | rfl | rfl <;>
 ·go_enter Tryz.func189,Tryz.ntmps189
  go_wp2
  go_ret
  exact⟨rfl,rfl⟩
theorem lane_at_in (s:ByteArray) (i:Nat) (w:Zw) (hs:s.size≤4000) (h:i < s.size) :
 Zc Zp 177 #[.string s,Z Y i] w fun e w'=>e=.returned (.int .u8 s[i].toNat)∧w=w':=by
 go_enter Tryz.func177,Tryz.ntmps177
 go_wp2
 go_ret
 exact⟨rfl,rfl⟩
theorem lane_at_out (s:ByteArray) (i:Nat) (w:Zw) (hs:s.size≤4000) (hi:i≤5000) (h:s.size≤i) :
 Zc Zp 177 #[.string s,Z Y i] w fun e w'=>e=.returned (.int .u8 46)∧w=w':=by
 have h1:decide (i < s.size)=false:=by simp;omega
 go_enter Tryz.func177,Tryz.ntmps177
 go_wp2
 go_ret
 exact⟨rfl,rfl⟩
theorem frame_echoes_data (N Pi Er G Fi:Int) (PA:Option Addr) (PL PC:Nat) (slot:Int) (w:Zw) (hN:0≤N) (hN2:N≤12) (hp:PL≤3) (h2:slot < N) :
 Zc Zp 197 #[.agg #[Z Y N,Z Y Pi,Z Y Er,Z Y G,Z Y Fi,.slice PA PL PC],Z Y 3,Z Y slot] w fun e w'=>e=.returned (Z Y (N+PL))∧Zb w.heap.size w w':=by
 go_enter Tryz.func197,Tryz.ntmps197
 go_wp2_with (go_at_call 31;refine(conf_Slots _ _ _ _ _ _ _ _ _ hN hN2 hp).mono ?_;rintro e w' ⟨rfl,hb⟩)
 go_ret
 exact⟨rfl,((Zf _ _).alloc (Zr _) _).trans (hb.mono (by simp))⟩
theorem frame_echoes_pair (N Pi Er G Fi:Int) (PA:Option Addr) (PL PC:Nat) (slot:Int) (w:Zw) (hN:0≤N) (hN2:N≤12) (hp:PL≤3) (h2:N≤slot) :
 Zc Zp 197 #[.agg #[Z Y N,Z Y Pi,Z Y Er,Z Y G,Z Y Fi,.slice PA PL PC],Z Y 3,Z Y slot] w fun e w'=>e=.returned (Z Y 0)∧Zb w.heap.size w w':=by
 have h2':decide (slot < N)=false:=by simp;omega
 go_enter Tryz.func197,Tryz.ntmps197
 go_wp2
 go_ret
 exact⟨rfl,(Zf _ _).alloc (Zr _) _⟩
theorem frame_echoes_none (N Pi Er G Fi:Int) (PA:Option Addr) (PL PC:Nat) (kind slot:Int) (w:Zw) (hN:0≤N) (hN2:N≤12) (hp:PL≤3) (h1:kind≠3) :
 Zc Zp 197 #[.agg #[Z Y N,Z Y Pi,Z Y Er,Z Y G,Z Y Fi,.slice PA PL PC],Z Y kind,Z Y slot] w fun e w'=>e=.returned (Z Y 0)∧Zb w.heap.size w w':=by
 have h1':(kind == 3)=false:=beq_eq_false_iff_ne.mpr h1
 go_enter Tryz.func197,Tryz.ntmps197
 go_wp2
 go_ret
 exact⟨rfl,(Zf _ _).alloc (Zr _) _⟩
def okItem (k v:Int):Prop:=(k=0∧v=0)∨(k=1∧v=0)∨(k=2∧0≤v∧v≤255)
theorem frame_empty (k v:Int) (w:Zw) (h:okItem k v) :
 Zc Zp 212 #[.agg #[Z Y k,Z Y v]] w fun e w'=>e=.returned (.bool (k == 0))∧Zb w.heap.size w w':=by
 rcases h with⟨rfl,rfl⟩ | ⟨rfl,rfl⟩ | ⟨rfl,h1,h2⟩ <;>
 ·go_enter Tryz.func212,Tryz.ntmps212
  go_wp2
  go_ret
  exact⟨rfl,by repeat(first | exact Zf _ _ | refine Below.alloc ?_ (Zr _) _)⟩
theorem frame_value (k v:Int) (w:Zw) (h:okItem k v) :
 Zc Zp 213 #[.agg #[Z Y k,Z Y v]] w fun e w'=>e=.returned (.bool (k != 0))∧Zb w.heap.size w w':=by
 rcases h with⟨rfl,rfl⟩ | ⟨rfl,rfl⟩ | ⟨rfl,h1,h2⟩ <;>
 ·go_enter Tryz.func213,Tryz.ntmps213
  go_wp2
  go_ret
  exact⟨rfl,by repeat(first | exact Zf _ _ | refine Below.alloc ?_ (Zr _) _)⟩
theorem state_wait (most th state timer:Int) (w:Zw) (ht:0≤timer) (ht2:timer≤1000) :
 Zc Zp 122 #[.agg #[Z Y most,Z Y th],Z Y state,Z Y timer] w fun e w' =>
  e=.returned (.tuple (if most≤timer+1 then #[Z Y th,Z Y 0]else #[Z Y state,Z Y (timer+1)]))∧Zb w.heap.size w w':=by
 by_cases h:timer+1≥most
 ·go_enter Tryz.func122,Tryz.ntmps122
  go_wp2
  go_ret2
  exact⟨by simp [h],(Zf _ _).alloc (Zr _) _⟩
 ·go_enter Tryz.func122,Tryz.ntmps122
  go_wp2
  go_ret2
  exact⟨by simp [h],(Zf _ _).alloc (Zr _) _⟩
theorem guard_holds (most dev:Int) (w:Zw) (h0:0≤most) (h1:most≤1000000) :
 Zc Zp 192 #[.agg #[Z Y most],Z Y dev] w fun e w'=>e=.returned (.bool (decide (-most≤dev∧dev≤most)))∧Zb w.heap.size w w':=by
 by_cases h2:dev ≥ -most
 ·go_enter Tryz.func192,Tryz.ntmps192
  go_wp2
  all_goals
   go_ret
   exact⟨ret_bool (by first | (simp;done) | (simp;omega)),(Zf _ _).alloc (Zr _) _⟩
 ·have h2':decide (dev ≥ -most)=false:=by simp;omega
  go_enter Tryz.func192,Tryz.ntmps192
  go_wp2
  all_goals
   go_ret
   exact⟨ret_bool (by first | (simp;done) | (simp;omega)),(Zf _ _).alloc (Zr _) _⟩
theorem guard_Admits (N Pi Er G Fi:Int) (PA:Option Addr) (PL PC:Nat) (state dev:Int) (w:Zw) (h0:0≤Pi) (h1:Pi≤10000) :
 Zc Zp 174 #[.agg #[Z Y N,Z Y Pi,Z Y Er,Z Y G,Z Y Fi,.slice PA PL PC],Z Y state,Z Y dev] w fun e w'=>e=.returned (.bool (decide (state≠4 ∨ -(2*Pi)≤dev∧dev≤2*Pi)))∧Zb w.heap.size w w':=by
 have hmf:∀(fn:Fn) (first cap:Array Value) (w:Zw),(Instr.makeFunc fn first cap).run Zp w=.ok (.func fn first cap) w:=fun _ _ _ _=>rfl
 by_cases c5:state=4
 ·subst c5
  go_enter Tryz.func174,Tryz.ntmps174
  go_wp2_with (first | (go_at_call 147;refine(conf_Window _ _ _ _ _ _ _ _ _ h0 h1).mono ?_;rintro e w' ⟨rfl,hb⟩) | (go_at_call 192;refine(guard_holds _ _ _ (by omega) (by omega)).mono ?_;rintro e w2 ⟨rfl,hb2⟩))
  go_ret
  exact⟨ret_bool (by simp),(((Zf _ _).alloc (Zr _) _).trans (hb.mono (by simp))).trans (hb2.mono (by have:=hb.size;simp at this;omega))⟩
 ·have c5b1:(state != 4)=true:=bne_iff_ne.mpr c5
  go_enter Tryz.func174,Tryz.ntmps174
  go_wp2_with (first | (go_at_call 147;refine(conf_Window _ _ _ _ _ _ _ _ _ h0 h1).mono ?_;rintro e w' ⟨rfl,hb⟩))
  go_ret
  exact⟨ret_bool (by simp [c5]),((Zf _ _).alloc (Zr _) _).trans (hb.mono (by simp))⟩
theorem guard_Stream (N Pi Er G Fi:Int) (PA:Option Addr) (PL PC:Nat) (state dev:Int) (s:ByteArray) (w:Zw) (h0:0≤Pi) (h1:Pi≤10000) :
 Zc Zp 151 #[.agg #[Z Y N,Z Y Pi,Z Y Er,Z Y G,Z Y Fi,.slice PA PL PC],Z Y state,Z Y dev,.string s] w fun e w'=>e=.returned (.string (if state≠4 ∨ -(2*Pi)≤dev∧dev≤2*Pi then s else⟨#[]⟩))∧Zb w.heap.size w w':=by
 by_cases c:state≠4 ∨ -(2*Pi)≤dev∧dev≤2*Pi
 ·have H:=O (guard_Admits N Pi Er G Fi PA PL PC state dev · h0 h1)
  rw [if_pos c]
  have hd:decide (state≠4 ∨ -(2*Pi)≤dev∧dev≤2*Pi)=true:=decide_eq_true c
  rw [hd]at H
  clear hd c
  go_enter Tryz.func151,Tryz.ntmps151
  go_wp2_with (go_at_call 174;refine(H.out _).mono ?_;rintro e w' ⟨rfl,hb⟩)
  go_ret
  exact⟨rfl,((Zf _ _).alloc (Zr _) _).trans (hb.mono (by simp))⟩
 ·have H:=O (guard_Admits N Pi Er G Fi PA PL PC state dev · h0 h1)
  rw [if_neg c]
  have hd:decide (state≠4 ∨ -(2*Pi)≤dev∧dev≤2*Pi)=false:=decide_eq_false c
  rw [hd]at H
  clear hd c
  go_enter Tryz.func151,Tryz.ntmps151
  go_wp2_with (go_at_call 174;refine(H.out _).mono ?_;rintro e w' ⟨rfl,hb⟩)
  go_ret
  exact⟨rfl,((Zf _ _).alloc (Zr _) _).trans (hb.mono (by simp))⟩
end A2
namespace A3
open Go.RowKit A1
theorem quiet_add_left {P:Program} {f:FuncId} {args:Array Value} {w:Zw} {a n:Nat} {v:Value}
 (h:Zc P f args (w.drewN (a+n)) fun e w'=>e=.returned v∧w.drewN (a+n)=w') :
 Zc P f args (w.drewN (a+n)) fun e w''=>e=.returned v∧∃ m,w''=w.drewN (a+m) :=
 h.mono fun _ _ ⟨he,hm⟩=>⟨he,n,hm.symm⟩
theorem quiet_left {P:Program} {f:FuncId} {args:Array Value} {w:Zw} {n:Nat} {v:Value}
 (h:Zc P f args (w.drewN n) fun e w'=>e=.returned v∧w.drewN n=w'):Zc P f args (w.drewN n) fun e w''=>e=.returned v∧∃ m,w''=w.drewN m :=
 h.mono fun _ _ ⟨he,hm⟩=>⟨he,n,hm.symm⟩
theorem at_quiet (n i d:Int) (w:Zw) (hn:6≤n) (hn2:n≤12) (hi : -1000≤i) (hi2:i≤1000) (hd : -1000≤d) (hd2:d≤1000) :
 Zc Zp 149 #[Z Y n,Z Y i,Z Y d] w fun e w'=>e=.returned (Z Y ((i+d)%n))∧w'=w :=
 (ring_At n i d w hn hn2 hi hi2 hd hd2).mono fun _ _ h=>⟨h.1,h.2.symm⟩
end A3
namespace A4
open Go.RowKit A1 A3
def Ints (w:Zw) (A:Option Addr) (l:List Int):Prop:=∀ k,k < l.length→∃ b off,A=some ⟨b,off,none⟩∧b < w.heap.size∧w.cell? ⟨b,off+k,none⟩=some (Z Y (l.getD k 0))
theorem Ints.below {w w1:Zw} {A:Option Addr} {l:List Int} (h:Ints w A l) (hb:Zb w.heap.size w w1):Ints w1 A l:=fun k hk=>by
 obtain⟨b,off,e,h1,h2⟩:=h k hk
 exact⟨b,off,e,Nat.lt_of_lt_of_le h1 hb.size,(hb.cell (p:=⟨b,off+k,none⟩) h1).trans h2⟩
theorem Ints.drew {w:Zw} {A:Option Addr} {l:List Int} (h:Ints w A l):Ints w.drew A l:=h
theorem Ints.drewN {w:Zw} {A:Option Addr} {l:List Int} (h:Ints w A l) (n:Nat):Ints (w.drewN n) A l:=h
theorem Ints.alloc {w:Zw} {A:Option Addr} {l:List Int} (h:Ints w A l) (o:Obj):Ints (w.alloc o) A l:=h.below ((Zf _ _).alloc (Zr _) _)
theorem Ints.cases {w:Zw} {A:Option Addr} {l:List Int} (h:Ints w A l):l=[]∨∃ b off,A=some ⟨b,off,none⟩∧b < w.heap.size∧∀ k,k < l.length→w.cell? ⟨b,off+k,none⟩=some (Z Y (l.getD k 0)):=by
 cases l with
 | nil=>exact .inl rfl
 | cons x r =>
  obtain⟨b,off,e,h1,_⟩:=h 0 (by simp)
  refine .inr ⟨b,off,e,h1,fun k hk=>?_⟩
  obtain⟨b',off',e',_,h2⟩:=h k hk
  rw [e]at e'
  cases e'
  exact h2
theorem check_each (a N:Int) (B:Nat) (w:Zw) (hp:w.cell? ⟨B,0,none⟩=some (Z Y N)) (ha : -1≤a) (ha2:a≤N-1) (hN:6≤N) (hN2:N≤7) :
 Zc Zp 48 #[Z Y a,.pointer (some ⟨B,0,none⟩)] w fun e w'=>e=.returned (.bool false)∧w=w':=by
 have hd:decide (-1≤a∧a≤N-1)=true:=decide_eq_true ⟨ha,ha2⟩
 have H:=O (conf_within a (-1) (N-1) ·)
 rw [hd]at H
 clear hd
 go_enter Tryz.func48,Tryz.ntmps48
 go_wp2_with (go_at_call 46;refine(H.out _).mono ?_;rintro e w' ⟨rfl,rfl⟩)
 go_ret
 exact⟨rfl,rfl⟩
theorem indexFunc_pairs (A:Option Addr) (l:List Int) (C:Nat) (B:Nat) (N:Int) (w:Zw) (hl:Ints w A l) (hlen:l.length≤1000) (hp:w.cell? ⟨B,0,none⟩=some (Z Y N)) (hN:6≤N) (hN2:N≤7)
 (hv:∀ k,k < l.length → -1≤l.getD k 0∧l.getD k 0≤N-1) :
 Zc Zp 88 #[.slice A l.length C,.func (Fn.func 48) #[] #[.pointer (some ⟨B,0,none⟩)]] w fun e w'=>e=.returned (Z Y (-1))∧w=w':=by
 rcases hl.cases with h0 | ⟨b,off,rfl,hb,hc⟩
 ·subst h0
  go_enter Tryz.func88,Tryz.ntmps88
  go_wp2
  refine wp_loop_rounds 1 ?_
  rw [rounds_succ]
  go_wp2
  go_ret
  exact⟨rfl,rfl⟩
 ·have HV:=O hv
  have HC:=O hc
  clear hv hc hl
  go_enter Tryz.func88,Tryz.ntmps88
  go_wp2
  go_loop [8] (fun i=>∃ k:Nat,k≤l.length∧i=Z Y k) (fun i=>l.length-(intOf i).toNat)
  case atStart=>exact⟨0,Nat.zero_le _,rfl⟩
  case round =>
   obtain⟨k,hk,rfl⟩:=hrel
   by_cases hlt:k < l.length
   ·have hcell:=HC.out k hlt
    have h1:=(HV.out k hlt).1
    have h2:=(HV.out k hlt).2
    generalize l.getD k 0=x at *
    go_wp2_with (go_at_call 48;refine(check_each _ N B _ hp h1 h2 hN hN2).mono ?_;rintro e w' ⟨rfl,rfl⟩)
    go_round
    case rel=>exact⟨k+1,by omega,by go_num⟩
    case measure=>simp [intOf];omega
   ·go_wp2
    go_ret
    exact⟨rfl,rfl⟩
theorem containsFunc_pairs (A:Option Addr) (l:List Int) (C:Nat) (B:Nat) (N:Int) (w:Zw) (hl:Ints w A l) (hlen:l.length≤1000) (hp:w.cell? ⟨B,0,none⟩=some (Z Y N)) (hN:6≤N) (hN2:N≤7)
 (hv:∀ k,k < l.length → -1≤l.getD k 0∧l.getD k 0≤N-1) :
 Zc Zp 47 #[.slice A l.length C,.func (Fn.func 48) #[] #[.pointer (some ⟨B,0,none⟩)]] w fun e w'=>e=.returned (.bool false)∧w=w':=by
 have H:=O (indexFunc_pairs A l C B N w hl hlen hp hN hN2 hv)
 clear hl hp hv
 go_enter Tryz.func47,Tryz.ntmps47
 go_wp2_with (go_at_call 88;refine(H.out).mono ?_;rintro e w' ⟨rfl,rfl⟩)
 go_ret
 exact⟨rfl,rfl⟩
structure CfOk (N Pi Er G Fi:Int) (ps:List Int):Prop where
 n0:6≤N
 n1:N≤7
 e0:0≤Er
 e1:Er≤20
 g0:0≤G
 g1:G≤20
 f0:0≤Fi
 f1:Fi≤65535
 p0:4*(Er+G+1)≤Pi
 p1:Pi≤1000
 len:ps.length≤2
 each:∀ k,k < ps.length → -1≤ps.getD k 0∧ps.getD k 0≤N-1
theorem ia0 (a b c d:Int) (w:Zw):(Instr.index 107 (.agg #[Z Y a,Z Y b,Z Y c,Z Y d]) (Z Y 0)).run Zp w=.ok (Z Y a) w:=by kernel_rfl
theorem ia1 (a b c d:Int) (w:Zw):(Instr.index 107 (.agg #[Z Y a,Z Y b,Z Y c,Z Y d]) (Z Y 1)).run Zp w=.ok (Z Y b) w:=by kernel_rfl
theorem ia2 (a b c d:Int) (w:Zw):(Instr.index 107 (.agg #[Z Y a,Z Y b,Z Y c,Z Y d]) (Z Y 2)).run Zp w=.ok (Z Y c) w:=by kernel_rfl
theorem ia3 (a b c d:Int) (w:Zw):(Instr.index 107 (.agg #[Z Y a,Z Y b,Z Y c,Z Y d]) (Z Y 3)).run Zp w=.ok (Z Y d) w:=by kernel_rfl
theorem within_yes' (n a b:Int) (w:Zw) (h:a≤n) (h2:n≤b):Zc Zp 46 #[Z Y n,Z Y a,Z Y b] w fun e w'=>e=.returned (.bool true)∧w=w' :=
 (conf_within n a b w).mono fun _ _ g=>⟨by rw [g.1,decide_eq_true ⟨h,h2⟩],g.2⟩
theorem conf_Check (N Pi Er G Fi:Int) (PA:Option Addr) (ps:List Int) (PC:Nat) (w:Zw) (hc:CfOk N Pi Er G Fi ps) (hl:Ints w PA ps) :
 Zc Zp 26 #[.agg #[Z Y N,Z Y Pi,Z Y Er,Z Y G,Z Y Fi,.slice PA ps.length PC]] w fun e w'=>e=.returned (Z Y 0)∧Zb w.heap.size w w':=by
 obtain⟨n0,n1,e0,e1,g0,g1,f0,f1,p0,p1,len,each⟩:=hc
 have i0:=ia0 N Er G Fi
 have i1:=ia1 N Er G Fi
 have i2:=ia2 N Er G Fi
 have i3:=ia3 N Er G Fi
 have d1:decide ((ps.length:Int) > 3)=false:=by simp;omega
 have HE:=O each
 have HL:=O hl
 clear each hl
 go_enter Tryz.func26,Tryz.ntmps26
 go_wp2
 refine wp_loop_rounds 5 ?_
 rw [rounds_succ]
 go_wp2
 go_quiet ((go_at_call 46;first | exact quiet_left (within_yes' _ _ _ _ (by omega) (by omega)) | exact quiet_add_left (within_yes' _ _ _ _ (by omega) (by omega))))
 go_wp2
 rw [rounds_succ]
 go_wp2
 go_quiet ((go_at_call 46;first | exact quiet_left (within_yes' _ _ _ _ (by omega) (by omega)) | exact quiet_add_left (within_yes' _ _ _ _ (by omega) (by omega))))
 go_wp2
 rw [rounds_succ]
 go_wp2
 go_quiet ((go_at_call 46;first | exact quiet_left (within_yes' _ _ _ _ (by omega) (by omega)) | exact quiet_add_left (within_yes' _ _ _ _ (by omega) (by omega))))
 go_wp2
 rw [rounds_succ]
 go_wp2
 go_quiet ((go_at_call 46;first | exact quiet_left (within_yes' _ _ _ _ (by omega) (by omega)) | exact quiet_add_left (within_yes' _ _ _ _ (by omega) (by omega))))
 go_wp2
 rw [rounds_succ]
 go_wp2_with (first | (go_at_call 46;refine(within_yes' _ _ _ _ (by omega) (by omega)).mono ?_;rintro e w' ⟨rfl,rfl⟩) | fail)
 refine(containsFunc_pairs PA ps PC w.heap.size N _ (by repeat(first | exact HL.out | refine Ints.drewN ?_ _ | refine Ints.drew ?_ | refine Ints.alloc ?_ _)) (by omega) (by go_simp) n0 n1 HE.out).mono ?_
 rintro e w' ⟨rfl,rfl⟩
 go_wp2
 go_ret
 exact⟨rfl,by repeat(first | exact Zf _ _ | refine Below.drew ?_ | refine below_drewN ?_ _ | refine Below.alloc ?_ (by simp;try omega) _)⟩
end A4
namespace A5
open Go.RowKit
theorem bcell {W w1:Zw} (hb:Zb W.heap.size W w1):(∀ b o,b < W.heap.size→w1.cell? ⟨b,o,none⟩=W.cell? ⟨b,o,none⟩)∧(∀ b o,b < W.heap.size→w1.frozen? ⟨b,o,none⟩=W.frozen? ⟨b,o,none⟩) :=
 ⟨fun b o h=>hb.cell (p:=⟨b,o,none⟩) h,fun b o h=>hb.frozen (p:=⟨b,o,none⟩) h⟩
theorem of_none (N Pi Er G Fi:Int) (PA:Option Addr) (PL PC:Nat) (At From To:Int) (CA:Option Addr) (CL CC:Nat) (VA:Option Addr) (VL VC:Nat) (w:Zw) :
 Zc Zp 144 #[.agg #[Z Y N,Z Y Pi,Z Y Er,Z Y G,Z Y Fi,.slice PA PL PC],.agg #[Z Y 0,Z Y At,Z Y From,Z Y To,.slice CA CL CC,.slice VA VL VC]] w fun e w'=>e=.returned (.iface 267 (.agg #[]))∧Zb w.heap.size w w':=by
 go_enter Tryz.func144,Tryz.ntmps144
 go_wp2
 go_ret
 exact⟨rfl,by repeat(first | exact Zf _ _ | refine Below.alloc ?_ (by simp;try omega) _)⟩
theorem none_hits (a b:Int) (w:Zw) :
 Zc Zp 269 #[.agg #[],Z Y a,Z Y b] w fun e w'=>e=.returned (.bool false)∧Zb w.heap.size w w':=by
 go_enter Tryz.func269,Tryz.ntmps269
 go_wp2
 go_ret
 exact⟨rfl,by repeat(first | exact Zf _ _ | refine Below.alloc ?_ (by simp;try omega) _)⟩
theorem nil_none (w : World) : (nilAhead 454 267 (.agg #[]) "plaiting/fault.hits").run Tryz.prog w = .ok (some false) w := by kernel_rfl
theorem m_none (w : World) : (method 454 267 (.agg #[]) "plaiting/fault.hits").run Tryz.prog w = .ok (269, .agg #[]) w := by kernel_rfl
theorem Hits_none (N Pi Er G Fi:Int) (PA:Option Addr) (PL PC:Nat) (At From To:Int) (CA:Option Addr) (CL CC:Nat) (VA:Option Addr) (VL VC:Nat) (a b:Int) (w:Zw) :
 Zc Zp 190 #[.agg #[Z Y N,Z Y Pi,Z Y Er,Z Y G,Z Y Fi,.slice PA PL PC],.agg #[Z Y 0,Z Y At,Z Y From,Z Y To,.slice CA CL CC,.slice VA VL VC],Z Y a,Z Y b] w fun e w'=>e=.returned (.bool false)∧Zb w.heap.size w w':=by
 have hn1:=nil_none
 have hm1:=m_none
 go_enter Tryz.func190,Tryz.ntmps190
 go_wp2_with (first | (go_at_call 144;refine(of_none _ _ _ _ _ _ _ _ _ _ _ _ _ _ _ _ _ _).mono ?_;rintro e w' ⟨rfl,hb'⟩;obtain⟨hc',hf'⟩:=bcell hb') | (go_at_call 269;refine(none_hits _ _ _).mono ?_;rintro e w2 ⟨rfl,hb2'⟩;obtain⟨hc2',hf2'⟩:=bcell hb2'))
 go_ret
 exact⟨rfl,((((Zf _ _).alloc (Zr _) _).alloc (by simp) _).trans (hb'.mono (by simp;omega))).trans (hb2'.mono (by have:=hb'.size;simp at this;omega))⟩
end A5
namespace A6
open Go.RowKit A2
def Strm (s:ByteArray):Prop:=s.size≤4000∧∀ i (h:i < s.size),(s[i]'h).toNat=48∨(s[i]'h).toNat=49∨((s[i]'h).toNat=35∧i+1=s.size)
theorem Strm.empty:Strm ⟨#[]⟩:=⟨by decide,fun i h=>absurd h (by simp [ByteArray.size])⟩
theorem extract_all (s:ByteArray):s.extract 0 s.size=s:=by simp
theorem sym_Clean (s:ByteArray) (w:Zw) (hs:Strm s) :
 Zc Zp 172 #[.string s] w fun e w'=>e=.returned (.string s)∧Zb w.heap.size w w':=by
 obtain⟨h4,hb⟩:=hs
 have HB:=O hb
 clear hb
 go_enter Tryz.func172,Tryz.ntmps172
 go_wp2
 go_loopw [] (fun wr=>∃ pos:Nat,pos≤s.size∧wr=w.iter s pos) (fun wr=>s.size-wr.iterPos w.heap.size)
 case atStart=>exact⟨0,Nat.zero_le _,rfl⟩
 case round =>
  obtain⟨pos,hp,rfl⟩:=hrel
  by_cases hlt:pos < s.size
  ·have h3:=HB.out pos hlt
   have ha:(s[pos]'hlt).toNat < 128:=by rcases h3 with h | h | ⟨h,_⟩ <;> omega
   have hnx:=fun ty=>run_next_ascii (P:=Zp) w s pos ty hlt ha
   have hbit:=fun(c:Int) (h:c=48∨c=49) (w:Zw)=>sym_bit c w (by omega)
   rcases h3 with h | h | ⟨h,he⟩
   ·rw [h]at hnx
    go_wp2_with (go_at_call 189;refine(sym_bit _ _ (by decide)).mono ?_;rintro e w' ⟨rfl,rfl⟩)
    go_roundw
    case rel=>exact⟨pos+1,by omega,rfl⟩
    case measure=>simp;omega
   ·rw [h]at hnx
    go_wp2_with (go_at_call 189;refine(sym_bit _ _ (by decide)).mono ?_;rintro e w' ⟨rfl,rfl⟩)
    go_roundw
    case rel=>exact⟨pos+1,by omega,rfl⟩
    case measure=>simp;omega
   ·rw [h]at hnx
    have hx:s.extract 0 (pos+1)=s:=by rw [he];exact extract_all s
    have HX:=O hx
    clear hx
    go_wp2
    go_ret
    exact⟨rfl,(Zf _ _).alloc (Zr _) _⟩
  ·have hnx:=fun ty=>run_next_end (P:=Zp) w s pos ty hlt
   go_wp2
   go_ret
   exact⟨rfl,(Zf _ _).alloc (Zr _) _⟩
end A6
namespace A7
open Go.RowKit A2
theorem lane_New (c:Bool) (w:Zw) :
 Zc Zp 175 #[.bool c] w fun e w'=>e=.returned (.pointer (some ⟨w.heap.size,0,none⟩))∧w'=w.alloc (.cells #[.bool c,.bool false] 291):=by
 go_enter Tryz.func175,Tryz.ntmps175
 go_wp2
 go_ret
 exact⟨rfl,rfl⟩
theorem passes_yes (B:Nat) (cmp:Bool) (d s:Int) (w:Zw) (h0:w.cell? ⟨B,0,none⟩=some (.bool cmp)) (h1:w.cell? ⟨B,1,none⟩=some (.bool false)) (hd:d=48∨d=49∨d=35) (hs:cmp=false∨s=d) :
 Zc Zp 193 #[.pointer (some ⟨B,0,none⟩),.int .u8 d,.int .u8 s] w fun e w'=>e=.returned (.bool true)∧w=w':=by
 rcases hs with rfl | rfl
 ·rcases hd with rfl | rfl | rfl <;>
  ·go_enter Tryz.func193,Tryz.ntmps193
   go_wp2_with (go_at_call 210;refine(lane_symbol_yes _ _ (by decide)).mono ?_;rintro e w' ⟨rfl,rfl⟩)
   go_ret
   exact⟨rfl,rfl⟩
 ·cases cmp <;> rcases hd with rfl | rfl | rfl <;>
  ·go_enter Tryz.func193,Tryz.ntmps193
   go_wp2_with (go_at_call 210;refine(lane_symbol_yes _ _ (by decide)).mono ?_;rintro e w' ⟨rfl,rfl⟩)
   go_ret
   exact⟨rfl,rfl⟩
theorem passes_idle (B:Nat) (cmp sh:Bool) (s:Int) (w:Zw) (h0:w.cell? ⟨B,0,none⟩=some (.bool cmp)) (h1:w.cell? ⟨B,1,none⟩=some (.bool sh)) :
 Zc Zp 193 #[.pointer (some ⟨B,0,none⟩),.int .u8 46,.int .u8 s] w fun e w'=>e=.returned (.bool false)∧w=w':=by
 cases sh
 ·go_enter Tryz.func193,Tryz.ntmps193
  go_wp2_with (go_at_call 210;refine(lane_symbol_idle _).mono ?_;rintro e w' ⟨rfl,rfl⟩)
  go_ret
  exact⟨rfl,rfl⟩
 ·go_enter Tryz.func193,Tryz.ntmps193
  go_wp2
  go_ret
  exact⟨rfl,rfl⟩
theorem Step_yes (B:Nat) (cmp:Bool) (d s:Int) (w:Zw) (h0:w.cell? ⟨B,0,none⟩=some (.bool cmp)) (h1:w.cell? ⟨B,1,none⟩=some (.bool false)) (hf:w.frozen? ⟨B,1,none⟩=false) (hd:d=48∨d=49∨d=35) (hs:cmp=false∨s=d) :
 Zc Zp 176 #[.pointer (some ⟨B,0,none⟩),.int .u8 d,.int .u8 s] w fun e w'=>e=.returned (.int .u8 d)∧w'=w.setCell ⟨B,1,none⟩ (.bool (d == 35)):=by
 have H:=O (passes_yes B cmp d s w h0 h1 hd hs)
 clear hs
 go_enter Tryz.func176,Tryz.ntmps176
 go_wp2_with (go_at_call 193;refine(H.out).mono ?_;rintro e w' ⟨rfl,rfl⟩)
 go_ret
 exact⟨rfl,rfl⟩
theorem Step_no (B:Nat) (d s:Int) (sh:Bool) (w:Zw) (h1:w.cell? ⟨B,1,none⟩=some (.bool sh)) (hf:w.frozen? ⟨B,1,none⟩=false)
 (hp:Zc Zp 193 #[.pointer (some ⟨B,0,none⟩),.int .u8 d,.int .u8 s] w fun e w'=>e=.returned (.bool false)∧w=w') :
 Zc Zp 176 #[.pointer (some ⟨B,0,none⟩),.int .u8 d,.int .u8 s] w fun e w'=>e=.returned (.int .u8 46)∧w'=w.setCell ⟨B,1,none⟩ (.bool true):=by
 have H:=O hp
 clear hp
 go_enter Tryz.func176,Tryz.ntmps176
 go_wp2_with (go_at_call 193;refine(H.out).mono ?_;rintro e w' ⟨rfl,rfl⟩)
 go_ret
 exact⟨rfl,rfl⟩
end A7
namespace A8
open Go.RowKit A1 A4
def owners (N:Int) (ps:List Int) (slot:Int):List Int :=
 if slot < N then [slot]else if ps.getD (slot-N).toNat (-1) = -1 then []else [ps.getD (slot-N).toNat (-1),(ps.getD (slot-N).toNat (-1)+1)%N]
def RetInts (w:Zw) (l:List Int) (e:Ending) (w':Zw):Prop:=∃ A C,e=.returned (.slice A l.length C)∧Ints w' A l∧l.length≤C∧C≤1000∧Zb w.heap.size w w'
theorem RetInts.nil {w w':Zw} (h:Zb w.heap.size w w'):RetInts w [] (.returned (.slice none 0 0)) w':=⟨none,0,rfl,fun k hk=>absurd hk (by simp),Zr _,by omega,h⟩
theorem Owners_node (N Pi Er G Fi:Int) (PA:Option Addr) (ps:List Int) (PC:Nat) (slot:Int) (w:Zw) (hc:CfOk N Pi Er G Fi ps) (h0:0≤slot) (h1:slot < N) :
 Zc Zp 58 #[.agg #[Z Y N,Z Y Pi,Z Y Er,Z Y G,Z Y Fi,.slice PA ps.length PC],Z Y slot] w (RetInts w [slot]):=by
 have n0:=hc.n0
 have n1:=hc.n1
 have d1:decide (slot < 0)=false:=by simp;omega
 have d2:decide (slot-N≥ps.length)=false:=by simp;omega
 have d3:decide (slot-N < 0)=true:=by simp;omega
 go_enter Tryz.func58,Tryz.ntmps58
 go_wp2
 go_ret
 refine⟨some ⟨w.heap.size+1,0,none⟩,1,rfl,?_,by simp,by omega,by repeat(first | exact Zf _ _ | refine Below.alloc ?_ (by simp;try omega) _)⟩
 intro k hk
 obtain rfl:k=0:=by simpa using hk
 refine⟨_,_,rfl,by simp,?_⟩
 go_simp
theorem Owners_none (N Pi Er G Fi:Int) (b off:Nat) (ps:List Int) (PC:Nat) (slot:Int) (w:Zw) (hc:CfOk N Pi Er G Fi ps) (hk:N≤slot) (hk2:slot-N < ps.length) (hcell:w.cell? ⟨b,off+(slot-N).toNat,none⟩=some (Z Y (-1))) (hb:b < w.heap.size) :
 Zc Zp 58 #[.agg #[Z Y N,Z Y Pi,Z Y Er,Z Y G,Z Y Fi,.slice (some ⟨b,off,none⟩) ps.length PC],Z Y slot] w (RetInts w []):=by
 have n0:=hc.n0
 have n1:=hc.n1
 have n2:=hc.len
 have d1:decide (slot < 0)=false:=by simp;omega
 have d2:decide (slot-N≥ps.length)=false:=by simp;omega
 have d3:decide (slot-N < 0)=false:=by simp;omega
 go_enter Tryz.func58,Tryz.ntmps58
 go_wp2
 go_ret
 exact RetInts.nil (by repeat(first | exact Zf _ _ | refine Below.alloc ?_ (by simp;try omega) _))
theorem Owners_pair (N Pi Er G Fi:Int) (b off:Nat) (ps:List Int) (PC:Nat) (slot a:Int) (w:Zw) (hc:CfOk N Pi Er G Fi ps) (hk:N≤slot) (hk2:slot-N < ps.length) (hcell:w.cell? ⟨b,off+(slot-N).toNat,none⟩=some (Z Y a)) (hb:b < w.heap.size) (ha:0≤a) (ha2:a < N) :
 Zc Zp 58 #[.agg #[Z Y N,Z Y Pi,Z Y Er,Z Y G,Z Y Fi,.slice (some ⟨b,off,none⟩) ps.length PC],Z Y slot] w (RetInts w [a,(a+1)%N]):=by
 have n0:=hc.n0
 have n1:=hc.n1
 have n2:=hc.len
 have d1:decide (slot < 0)=false:=by simp;omega
 have d2:decide (slot-N≥ps.length)=false:=by simp;omega
 have d3:decide (slot-N < 0)=false:=by simp;omega
 have d4:(a == -1)=false:=beq_eq_false_iff_ne.mpr (by omega)
 have d7:¬ N=0:=by omega
 have e1:IntKind.i64.wrap (a+1)=a+1:=by rw [IntKind.wrap_i64];omega
 have e2:(a+1).tmod N=(a+1)%N:=Int.tmod_eq_emod_of_nonneg (by omega)
 have d5:decide (N≤0)=false:=by simp;omega
 go_enter Tryz.func58,Tryz.ntmps58
 go_wp2
 go_region_held3 (fun w'=>w'.cell? ⟨b,off+(slot-N).toNat,none⟩=some (Z Y a)∧w'.cell? ⟨w.heap.size,0,none⟩=some (Z Y N)∧w'.cell? ⟨w.heap.size,5,none⟩=some (.slice (some ⟨b,off,none⟩) ps.length PC)) (go_keep) (fail)
 go_wp2
 go_ret
 refine⟨some ⟨w.heap.size+1,0,none⟩,2,rfl,?_,by simp,by omega,by repeat(first | exact Zf _ _ | refine Below.drew ?_ | refine below_drewN ?_ _ | refine Below.alloc ?_ (by simp;try omega) _)⟩
 intro k hk
 rcases(by simpa using hk:k < 2)with _
 match k,hk with
 | 0,_=>exact⟨_,_,rfl,by simp,by go_simp⟩
 | 1,_=>exact⟨_,_,rfl,by simp,by go_simp⟩
theorem owners_node {N:Int} {ps:List Int} {slot:Int} (h:slot < N):owners N ps slot=[slot]:=by simp [owners,h]
theorem Owners (N Pi Er G Fi:Int) (PA:Option Addr) (ps:List Int) (PC:Nat) (slot:Int) (w:Zw) (hc:CfOk N Pi Er G Fi ps) (hl:Ints w PA ps) (h0:0≤slot) (h1:slot < N+ps.length) :
 Zc Zp 58 #[.agg #[Z Y N,Z Y Pi,Z Y Er,Z Y G,Z Y Fi,.slice PA ps.length PC],Z Y slot] w (RetInts w (owners N ps slot)):=by
 by_cases h:slot < N
 ·rw [owners_node h]
  exact Owners_node N Pi Er G Fi PA ps PC slot w hc h0 h
 ·have hk:(slot-N).toNat < ps.length:=by omega
  obtain⟨b,off,rfl,hb,hcell⟩:=hl _ hk
  have he:=hc.each _ hk
  have hg:ps.getD (slot-N).toNat (-1)=ps.getD (slot-N).toNat 0:=by
   rw [List.getD_eq_getElem?_getD,List.getD_eq_getElem?_getD,List.getElem?_eq_getElem hk]
   rfl
  unfold owners
  rw [if_neg h,hg]
  by_cases hn:ps.getD (slot-N).toNat 0 = -1
  ·rw [if_pos hn]
   rw [hn]at hcell
   exact Owners_none N Pi Er G Fi b off ps PC slot w hc (by omega) (by omega) hcell hb
  ·rw [if_neg hn]
   exact Owners_pair N Pi Er G Fi b off ps PC slot _ w hc (by omega) (by omega) hcell hb (by omega) (by omega)
end A8
end Go.Proofs.YtdbempiompiioaaGreat
namespace Go.Proofs
open Go.Shelf
def Tryz.lays169_ren:Go.Shelf.Ren:=⟨fun | 169=>103 | n=>n,fun | 70=>160 | 9=>9 | 0=>0 | 72=>163 | 37=>161 | 127=>225 | 3=>3 | 5=>5 | n=>n,fun | n=>n⟩
theorem Tryz.lays169:Go.Proofs.Lays.n169 Zp Tryz.lays169_ren:={
 mixed:=by kernel_rfl
 f169:=Tryz.func103.trans (congrArg some (by kernel_rfl))
 t0:=Tryz.underlying0
 a0:=Tryz.isAgg0
 z0:=Tryz.sizeOf0
 v0:=Tryz.zeroValue0
 t3:=Tryz.underlying3
 a3:=Tryz.isAgg3
 z3:=Tryz.sizeOf3
 v3:=Tryz.zeroValue3
 t9:=Tryz.underlying9
 a9:=Tryz.isAgg9
 z9:=Tryz.sizeOf9
 v9:=Tryz.zeroValue9
 t37:=Tryz.underlying161
 a37:=Tryz.isAgg161
 z37:=Tryz.sizeOf161
 v37:=Tryz.zeroValue161
 t70:=Tryz.underlying160
 a70:=Tryz.isAgg160
 z70:=Tryz.sizeOf160
 v70:=Tryz.zeroValue160
 t72:=Tryz.underlying163
 a72:=Tryz.isAgg163
 z72:=Tryz.sizeOf163
 v72:=Tryz.zeroValue163
 t127:=Tryz.underlying225
 a127:=Tryz.isAgg225
 z127:=Tryz.sizeOf225
 v127:=Tryz.zeroValue225 }
theorem Tryz.Builder_Extra_169:Builder.Extra Zp Tryz.lays169_ren:={
 sizeBuilder:=by kernel_rfl
 liesBuilder:=by kernel_rfl
 t5:=Tryz.underlying5
 a5:=Tryz.isAgg5
 z5:=Tryz.sizeOf5
 v5:=Tryz.zeroValue5
 infoByte:=by kernel_rfl
 cellsByte:=by kernel_rfl
 sizeByte:=by kernel_rfl
 neB5:=by decide }
open Go.RowKit in
theorem Tryz.Builder_String_any_f (B b:Nat) (l:List UInt8) (w:Zw) (h:Lib.IsBuilderF 163 5 B b (Lib.byteCells l) w) (hBw:B≤w.heap.size) :
 Zc Zp 103 #[.pointer (some ⟨b,0,none⟩)] w fun e w'=>e=.returned (.string ⟨l.toArray⟩)∧(Lib.IsBuilderF 163 5 B b (Lib.byteCells l) w'∧Zb B w w'):=Any.Builder_String_any_f Tryz.lays169 Tryz.Builder_Extra_169 B b l w h hBw
def Tryz.lays189_ren:Go.Shelf.Ren:=⟨fun | 189=>201 | 125=>218 | 257=>217 | 128=>232 | 129=>233 | 294=>223 | 295=>224 | 296=>225 | 297=>226 | 298=>227 | 299=>228 | 216=>229 | 300=>230 | 301=>231 | 328=>237 | 329=>238 | 330=>239 | 331=>240 | 332=>241 | 215=>242 | 343=>243 | n=>n,fun | 28=>22 | 3=>3 | 46=>253 | 0=>0 | 51=>325 | 53=>327 | 4=>4 | 183=>319 | 182=>318 | 131=>200 | 5=>5 | 9=>9 | 218=>332 | 222=>336 | 228=>338 | 229=>60 | n=>n,fun | n=>n⟩
theorem Tryz.lays189:Go.Proofs.Lays.n189 Zp Tryz.lays189_ren:={
 mixed:=by kernel_rfl
 f125:=Tryz.func218.trans (congrArg some (by kernel_rfl))
 f128:=Tryz.func232.trans (congrArg some (by kernel_rfl))
 f129:=Tryz.func233.trans (congrArg some (by kernel_rfl))
 f189:=Tryz.func201.trans (congrArg some (by kernel_rfl))
 f215:=Tryz.func242.trans (congrArg some (by kernel_rfl))
 f216:=Tryz.func229.trans (congrArg some (by kernel_rfl))
 f257:=Tryz.func217.trans (congrArg some (by kernel_rfl))
 f294:=Tryz.func223.trans (congrArg some (by kernel_rfl))
 f295:=Tryz.func224.trans (congrArg some (by kernel_rfl))
 f296:=Tryz.func225.trans (congrArg some (by kernel_rfl))
 f297:=Tryz.func226.trans (congrArg some (by kernel_rfl))
 f298:=Tryz.func227.trans (congrArg some (by kernel_rfl))
 f299:=Tryz.func228.trans (congrArg some (by kernel_rfl))
 f300:=Tryz.func230.trans (congrArg some (by kernel_rfl))
 f301:=Tryz.func231.trans (congrArg some (by kernel_rfl))
 f328:=Tryz.func237.trans (congrArg some (by kernel_rfl))
 f329:=Tryz.func238.trans (congrArg some (by kernel_rfl))
 f330:=Tryz.func239.trans (congrArg some (by kernel_rfl))
 f331:=Tryz.func240.trans (congrArg some (by kernel_rfl))
 f332:=Tryz.func241.trans (congrArg some (by kernel_rfl))
 f343:=Tryz.func243.trans (congrArg some (by kernel_rfl))
 t0:=Tryz.underlying0
 a0:=Tryz.isAgg0
 z0:=Tryz.sizeOf0
 v0:=Tryz.zeroValue0
 t3:=Tryz.underlying3
 a3:=Tryz.isAgg3
 z3:=Tryz.sizeOf3
 v3:=Tryz.zeroValue3
 t4:=Tryz.underlying4
 a4:=Tryz.isAgg4
 z4:=Tryz.sizeOf4
 v4:=Tryz.zeroValue4
 t5:=Tryz.underlying5
 a5:=Tryz.isAgg5
 z5:=Tryz.sizeOf5
 v5:=Tryz.zeroValue5
 t9:=Tryz.underlying9
 a9:=Tryz.isAgg9
 z9:=Tryz.sizeOf9
 v9:=Tryz.zeroValue9
 t28:=Tryz.underlying22
 a28:=Tryz.isAgg22
 z28:=Tryz.sizeOf22
 v28:=Tryz.zeroValue22
 t46:=Tryz.underlying253
 a46:=Tryz.isAgg253
 z46:=Tryz.sizeOf253
 v46:=Tryz.zeroValue253
 t51:=Tryz.underlying325
 a51:=Tryz.isAgg325
 z51:=Tryz.sizeOf325
 v51:=Tryz.zeroValue325
 t53:=Tryz.underlying327
 a53:=Tryz.isAgg327
 z53:=Tryz.sizeOf327
 v53:=Tryz.zeroValue327
 t131:=Tryz.underlying200
 a131:=Tryz.isAgg200
 z131:=Tryz.sizeOf200
 v131:=Tryz.zeroValue200
 t182:=Tryz.underlying318
 a182:=Tryz.isAgg318
 z182:=Tryz.sizeOf318
 v182:=Tryz.zeroValue318
 t183:=Tryz.underlying319
 a183:=Tryz.isAgg319
 z183:=Tryz.sizeOf319
 v183:=Tryz.zeroValue319
 t218:=Tryz.underlying332
 a218:=Tryz.isAgg332
 z218:=Tryz.sizeOf332
 v218:=Tryz.zeroValue332
 t222:=Tryz.underlying336
 a222:=Tryz.isAgg336
 z222:=Tryz.sizeOf336
 v222:=Tryz.zeroValue336
 t228:=Tryz.underlying338
 a228:=Tryz.isAgg338
 z228:=Tryz.sizeOf338
 v228:=Tryz.zeroValue338
 t229:=Tryz.underlying60
 a229:=Tryz.isAgg60
 z229:=Tryz.sizeOf60
 v229:=Tryz.zeroValue60 }
open Go.Sort Go.RowKit in
theorem Tryz.slices_Sort_int (blk off cap:Nat) (zs:List Int) (w:Zw) (hH:Holds (Z Y) w blk off zs.toArray) (hblk:blk < w.heap.size) (hsz:zs.length < 4611686018427387904) :
 Zc Zp 201 #[.slice (some ⟨blk,off,none⟩) zs.length cap] w fun e w' =>
  e=.returned (.tuple #[])∧∃ n os,w'=grow (putRow (Z Y) (Sort.ahead w n) blk off (zs.mergeSort fun x y=>decide (x≤y)).toArray) os:=Any.slices_Sort_int Tryz.lays189 blk off cap zs w hH hblk hsz
def Tryz.lays100_ren:Go.Shelf.Ren:=⟨fun | 100=>221 | 207=>236 | n=>n,fun | 9=>9 | 4=>4 | 3=>3 | n=>n,fun | n=>n⟩
theorem Tryz.lays100:Go.Proofs.Lays.n100 Zp Tryz.lays100_ren:={
 mixed:=by kernel_rfl
 f100:=Tryz.func221.trans (congrArg some (by kernel_rfl))
 f207:=Tryz.func236.trans (congrArg some (by kernel_rfl))
 t3:=Tryz.underlying3
 a3:=Tryz.isAgg3
 z3:=Tryz.sizeOf3
 v3:=Tryz.zeroValue3
 t4:=Tryz.underlying4
 a4:=Tryz.isAgg4
 z4:=Tryz.sizeOf4
 v4:=Tryz.zeroValue4
 t9:=Tryz.underlying9
 a9:=Tryz.isAgg9
 z9:=Tryz.sizeOf9
 v9:=Tryz.zeroValue9 }
open Go.RowKit Go.Lib in
theorem Tryz.strings_HasSuffix (s p:ByteArray) (w:Zw) (hs:s.size≤9223372036854775807) :
 Zc Zp 221 #[.string s,.string p] w fun e w'=>e=.returned (.bool (Lib.hasSuffix s.data.toList p.data.toList))∧w'=w:=Any.strings_HasSuffix Tryz.lays100 s p w hs
def Tryz.lays212_ren:Go.Shelf.Ren:=⟨fun | 212=>220 | 263=>234 | 264=>235 | n=>n,fun | 46=>253 | 51=>325 | 146=>328 | 53=>327 | 148=>330 | n=>n,fun | n=>n⟩
theorem Tryz.lays212:Go.Proofs.Lays.n212 Zp Tryz.lays212_ren:={
 mixed:=by kernel_rfl
 f212:=Tryz.func220.trans (congrArg some (by kernel_rfl))
 f263:=Tryz.func234.trans (congrArg some (by kernel_rfl))
 f264:=Tryz.func235.trans (congrArg some (by kernel_rfl))
 t46:=Tryz.underlying253
 a46:=Tryz.isAgg253
 z46:=Tryz.sizeOf253
 v46:=Tryz.zeroValue253
 t51:=Tryz.underlying325
 a51:=Tryz.isAgg325
 z51:=Tryz.sizeOf325
 v51:=Tryz.zeroValue325
 t53:=Tryz.underlying327
 a53:=Tryz.isAgg327
 z53:=Tryz.sizeOf327
 v53:=Tryz.zeroValue327
 t146:=Tryz.underlying328
 a146:=Tryz.isAgg328
 z146:=Tryz.sizeOf328
 v146:=Tryz.zeroValue328
 t148:=Tryz.underlying330
 a148:=Tryz.isAgg330
 z148:=Tryz.sizeOf330
 v148:=Tryz.zeroValue330 }
open Go.RowKit Go.Lib in
theorem Tryz.bits_Mul (x y:Nat) (hx:x < 18446744073709551616) (hy:y < 18446744073709551616) (w:Zw) :
 Zc Zp 220 #[.int .u64 x,.int .u64 y] w fun e w'=>e=.returned (.tuple #[.int .u64 ((x*y / 18446744073709551616:Nat):Int),.int .u64 ((x*y%18446744073709551616:Nat):Int)])∧w'=w:=Any.bits_Mul Tryz.lays212 x y hx hy w
def Tryz.lays107_ren:Go.Shelf.Ren:=⟨fun | 107=>67 | 108=>108 | n=>n,fun | 28=>22 | 3=>3 | 4=>4 | 0=>0 | n=>n,fun | n=>n⟩
theorem Tryz.lays107:Go.Proofs.Lays.n107 Zp Tryz.lays107_ren:={
 mixed:=by kernel_rfl
 f107:=Tryz.func67.trans (congrArg some (by kernel_rfl))
 f108:=Tryz.func108.trans (congrArg some (by kernel_rfl))
 t0:=Tryz.underlying0
 a0:=Tryz.isAgg0
 z0:=Tryz.sizeOf0
 v0:=Tryz.zeroValue0
 t3:=Tryz.underlying3
 a3:=Tryz.isAgg3
 z3:=Tryz.sizeOf3
 v3:=Tryz.zeroValue3
 t4:=Tryz.underlying4
 a4:=Tryz.isAgg4
 z4:=Tryz.sizeOf4
 v4:=Tryz.zeroValue4
 t28:=Tryz.underlying22
 a28:=Tryz.isAgg22
 z28:=Tryz.sizeOf22
 v28:=Tryz.zeroValue22 }
open Go.Lib in
theorem Tryz.slices_Contains_int (b off n c:Nat) (zs:List Int) (x:Int) (w:Zw) (hz:n≤zs.length) (hbig:n≤9223372036854775807) (hc:∀ j,j < zs.length→w.cell? ⟨b,off+j,none⟩=some (Z Y (zs.getD j 0))) :
 Zc Zp 67 #[.slice (some ⟨b,off,none⟩) n c,Z Y x] w fun e w'=>e=.returned (.bool ((zs.take n).contains x))∧w'=w:=Any.slices_Contains_int Tryz.lays107 b off n c zs x w hz hbig hc
open Go.Lib in
theorem Tryz.slices_Contains_int_empty (a:Option Addr) (c:Nat) (x:Int) (w:Zw) :
 Zc Zp 67 #[.slice a 0 c,Z Y x] w fun e w'=>e=.returned (.bool false)∧w'=w:=Any.slices_Contains_int_empty Tryz.lays107 a c x w
def Tryz.laysNm215_ren:Go.Shelf.Ren:=⟨fun | 15=>28 | n=>n,fun | 22=>22 | 3=>3 | 4=>4 | n=>n,fun | n=>n⟩
theorem Tryz.laysNm215:Go.Proofs.Lays2.n15 Zp Tryz.laysNm215_ren:={
 mixed:=by kernel_rfl
 f15:=Tryz.func28.trans (congrArg some (by kernel_rfl))
 t3:=Tryz.underlying3
 a3:=Tryz.isAgg3
 z3:=Tryz.sizeOf3
 v3:=Tryz.zeroValue3
 t4:=Tryz.underlying4
 a4:=Tryz.isAgg4
 z4:=Tryz.sizeOf4
 v4:=Tryz.zeroValue4
 t22:=Tryz.underlying22
 a22:=Tryz.isAgg22
 z22:=Tryz.sizeOf22
 v22:=Tryz.zeroValue22
 i3:=by kernel_rfl }
open Go.RowKit Go.Lib in
theorem Tryz.slices_Clone_int (b off n c:Nat) (zs:List Int) (w:Zw) (hz:n≤zs.length) (hbig:n*8≤140737488355328) (hc:∀ j,j < zs.length→w.cell? ⟨b,off+j,none⟩=some (Z Y (zs.getD j 0))) :
 Zc Zp 28 #[.slice (some ⟨b,off,none⟩) n c] w fun e w'=>∃ v',e=.returned v'∧w'.ownsRow w.heap.size 3 1 v' n ((zs.take n).map (Z Y))∧v' ≠ .slice none 0 0∧Zb w.heap.size w w':=Any.slices_Clone_int Tryz.laysNm215 b off n c zs w hz hbig hc
open Go.RowKit Go.Lib in
theorem Tryz.slices_Clone_int_nil (n c:Nat) (w:Zw) :
 Zc Zp 28 #[.slice none n c] w fun e w'=>e=.returned (.slice none 0 0)∧w'=w:=Any.slices_Clone_int_nil Tryz.laysNm215 n c w
open Go.RowKit Go.Lib in
theorem Tryz.slices_Clone_int_zero (a:Addr) (c:Nat) (w:Zw) :
 Zc Zp 28 #[.slice (some a) 0 c] w fun e w'=>∃ v',e=.returned v'∧w'.ownsRow w.heap.size 3 1 v' 0 []∧v' ≠ .slice none 0 0∧Zb w.heap.size w w':=Any.slices_Clone_int_zero Tryz.laysNm215 a c w
open Go.RowKit Go.Sort in
theorem Tryz.slices_Sort_int_none (p:Option Addr) (cap:Nat) (w:Zw) :
 Zc Zp 201 #[.slice p 0 cap] w fun e w'=>e=.returned (.tuple #[])∧w'=w:=Any.slices_Sort_int_none Tryz.lays189 p cap w
def Tryz.laysSlE041_f28_ren:Go.Shelf.Ren:=⟨fun | 41=>28 | n=>n,fun | 22=>22 | 23=>3 | 4=>4 | n=>n,fun | n=>n⟩
theorem Tryz.laysSlE041_f28:Go.Proofs.SlLaysE0.n41 Zp Tryz.laysSlE041_f28_ren:={
 mixed:=by kernel_rfl
 f41:=⟨Tryz.f28.name,by decide,Tryz.func28.trans (congrArg some (by kernel_rfl))⟩
 t4:=Tryz.underlying4
 a4:=Tryz.isAgg4
 z4:=Tryz.sizeOf4
 v4:=Tryz.zeroValue4
 t22:=Tryz.underlying22
 a22:=Tryz.isAgg22
 z22:=Tryz.sizeOf22
 v22:=Tryz.zeroValue22 }
open Go.RowKit Go.Lib in
theorem Tryz.slices_Clone (i0:TypeInfo) (z:Value) (size bytes:Nat) (hi:Tryz.prog.info? 3=some i0) (hz0:i0.zero=some z) (hz1:i0.size=size) (hz2:i0.bytes=bytes) (hzs:z.cells.size=size) (hsz:0 < size) (z23:∀ w,(Go.sizeOf 3).run Zp w=.ok size w) (b off n c:Nat) (news:List Value) (w:Zw) (hl:news.length=n*size) (hn:n≤maxLen) (hbig:n*bytes≤140737488355328) (hc:∀ j u,news[j]?=some u→w.cell? ⟨b,off+j,none⟩=some u) (h1:∀ u ∈ news,u.oneCell'=true) :
 Zc Zp 28 #[.slice (some ⟨b,off,none⟩) n c] w fun e w'=>∃ v',e=.returned v'∧w'.ownsRow w.heap.size 3 size v' n news∧v' ≠ .slice none 0 0∧Zb w.heap.size w w':=AnyE.slices_Clone Tryz.laysSlE041_f28 i0 z size bytes hi hz0 hz1 hz2 hzs hsz z23 b off n c news w hl hn hbig hc h1
open Go.RowKit Go.Lib in
theorem Tryz.slices_Clone_nil (n c:Nat) (w:Zw) :
 Zc Zp 28 #[.slice none n c] w fun e w'=>e=.returned (.slice none 0 0)∧w'=w:=AnyE.slices_Clone_nil Tryz.laysSlE041_f28 n c w
end Go.Proofs
namespace Go.Proofs.YtdbempiompiioaaGreat
namespace A9
open Go.RowKit A4 A5 A8
theorem Contains (A:Option Addr) (l:List Int) (C:Nat) (x:Int) (w:Zw) (hl:Ints w A l) (hn:l.length≤1000) :
 Zc Zp 67 #[.slice A l.length C,Z Y x] w fun e w'=>e=.returned (.bool (l.contains x))∧w=w':=by
 rcases hl.cases with h0 | ⟨b,off,rfl,hb,hc⟩
 ·subst h0
  exact(Tryz.slices_Contains_int_empty A C x w).mono fun _ _ h=>⟨h.1,h.2.symm⟩
 ·refine(Tryz.slices_Contains_int b off l.length C l x w (Zr _) (by omega) hc).mono fun _ _ h=>⟨?_,h.2.symm⟩
  rw [h.1,List.take_length]
def others (l:List Int) (k:Nat):List Int:=((List.range k).map (fun i:Nat=>(i:Int))).filter (fun i=>!l.contains i)
theorem others_in {l:List Int} {k:Nat} (h:l.contains (k:Int)=true):others l (k+1)=others l k:=by
 unfold others
 rw [List.range_succ,List.map_append,List.filter_append]
 simpa using h
theorem others_out {l:List Int} {k:Nat} (h:l.contains (k:Int)=false):others l (k+1)=others l k ++ [(k:Int)]:=by
 unfold others
 rw [List.range_succ,List.map_append,List.filter_append]
 have h':¬(k:Int) ∈ l:=by simpa using h
 simp [h']
theorem others_le (l:List Int) (k:Nat):(others l k).length≤k:=by
 unfold others
 refine Nat.le_trans (List.length_filter_le _ _) ?_
 simp
theorem info3:(Tryz.prog.info? 3).map (fun i=>(i.zero,i.size,i.bytes))=some (some (Z Y 0),1,8):=by kernel_rfl
theorem ints_of_own {w:Zw} {base:Nat} {v:Value} {l:List Int} (h:w.ownsRow base 3 1 v l.length (l.map (Z Y))):∃ A C,v=.slice A l.length C∧Ints w A l∧l.length≤C:=by
 obtain⟨h1,h2⟩:=h
 rcases h2 with⟨rfl,h0⟩ | ⟨g,cap,cur,rfl,hg,hh,hle,hcap,hsz,ht⟩
 ·have:l=[]:=List.length_eq_zero_iff.1 h0
  subst this
  exact⟨none,0,rfl,fun k hk=>absurd hk (by simp),Zr _⟩
 ·refine⟨some ⟨g,0,none⟩,cap,rfl,fun k hk=>⟨g,0,rfl,(Array.getElem?_eq_some_iff.1 hh).1,?_⟩,hle⟩
  have hk2:(l.map (Z Y))[k]?=some (Z Y (l.getD k 0)):=by
   rw [List.getElem?_map,List.getElem?_eq_getElem hk]
   simp [List.getD,List.getElem?_eq_getElem hk]
  rw [← ht,List.getElem?_take]at hk2
  split at hk2
  ·have h3:cur[k]?=some (Z Y (l.getD k 0)):=by simpa using hk2
   simp only [World.cell?,hh]
   simpa using h3
  ·cases hk2
theorem ownsRow_block {w:Zw} {base e size n:Nat} {v:Value} {xs:List Value} (h:w.ownsRow base e size v n xs) {q:Nat} (hq:v.ownBlock=some q):base≤q:=by
 obtain⟨_,h2⟩:=h
 rcases h2 with⟨rfl,_⟩ | ⟨g,cap,cur,rfl,hg,_⟩
 ·simp [Value.ownBlock]at hq
 ·simp [Value.ownBlock]at hq
  omega
theorem own_mono {w:Zw} {base base' e size n:Nat} {v:Value} {xs:List Value} (h:w.ownsRow base e size v n xs) (hb:base'≤base):w.ownsRow base' e size v n xs:=by
 obtain⟨h1,h2⟩:=h
 refine⟨h1,?_⟩
 rcases h2 with h2 | ⟨g,cap,cur,h3,hg,r⟩
 ·exact .inl h2
 ·exact .inr ⟨g,cap,cur,h3,by omega,r⟩
theorem Voters (N Pi Er G Fi:Int) (PA:Option Addr) (ps:List Int) (PC:Nat) (slot:Int) (w:Zw) (hc:CfOk N Pi Er G Fi ps) (hl:Ints w PA ps) (h0:0≤slot) (h1:slot < N+ps.length) :
 Zc Zp 111 #[.agg #[Z Y N,Z Y Pi,Z Y Er,Z Y G,Z Y Fi,.slice PA ps.length PC],Z Y slot] w fun e w'=>∃ v,e=.returned v∧w'.ownsRow w.heap.size 3 1 v (others (owners N ps slot) N.toNat).length ((others (owners N ps slot) N.toNat).map (Z Y))∧Zb w.heap.size w w':=by
 have n0:=hc.n0
 have n1:=hc.n1
 have HL:=O hl
 clear hl
 obtain⟨i0,hi,hz0,hz1,hz2⟩:=info_parts info3
 have HI:=O hi
 have HZ0:=O hz0
 have HZ1:=O hz1
 have HZ2:=O hz2
 clear hi hz0 hz1 hz2
 go_enter Tryz.func111,Tryz.ntmps111
 go_wp2_with fail
 refine(Owners N Pi Er G Fi PA ps PC slot _ hc (by repeat(first | exact HL.out | refine Ints.drewN ?_ _ | refine Ints.drew ?_ | refine Ints.alloc ?_ _)) h0 h1).mono ?_
 rintro e w1 ⟨A,C,rfl,hI,hle,hC,hb1⟩
 obtain⟨hc1,hf1⟩:=bcell hb1
 have hz:w.heap.size < w1.heap.size:=by have:=hb1.size;simp at this;omega
 generalize how:owners N ps slot=ow at *
 have HOW:=O how
 clear how
 have hz0:w.heap.size≤w1.heap.size:=by omega
 go_wp2
 go_loopw [6,14] (fun v i wr=>∃ k:Nat,(k:Int)≤N∧i=Z Y k∧wr.ownsRow w1.heap.size 3 1 v (others ow k).length ((others ow k).map (Z Y))∧Zb w1.heap.size w1 wr) (fun _ i _=>N.toNat-(intOf i).toNat)
 case atStart=>exact⟨0,by omega,rfl,World.ownsRow_nil _ _ _ _,Zf _ _⟩
 case round =>
  obtain⟨k,hk,rfl,hown,hbr⟩:=hrel
  have hIr:=hI.below hbr
  have hol:=others_le ow k
  by_cases hlt:(k:Int) < N
  ·have HC:=O (Contains A ow C (k:Int) wr hIr (by omega))
   cases hcon:ow.contains (k:Int)
   ·rw [hcon]at HC
    have ho:=others_out hcon
    have HO:=O ho
    clear ho hcon
    have hi:=HI.out
    go_wp2_with (first
     | (go_at_call 67;refine(HC.out).mono ?_;rintro e w' ⟨rfl,rfl⟩)
     | (at_builtin;refine wpList_append_own _ rfl _ _ 22 rfl w1.heap.size 3 i0 (Z Y 0) 1 8 Tryz.underlying22 hi HZ0.out HZ1.out HZ2.out rfl (by decide) _ _ _ rfl (hown.alloc _) ⟨wr.heap.size,0,none⟩ 1 1 [Z Y (k:Int)] rfl rfl ?c1 ?c2 ?c3 ?c4 ?c5 ?_))
    case c1 =>
     intro j u hj
     match j,hj with
     | 0,hj=>simp at hj;subst hj;simp [Addr.add]
    case c2=>intro u hu;simp at hu;subst hu;rfl
    case c3=>unfold maxLen;omega
    case c4=>omega
    case c5=>have:=hbr.size;simp;omega
    intro v' w2 hown' hgrow _
    have hb2:Zb w1.heap.size w1 w2:=(hbr.alloc hbr.size _).grown hgrow (by have:=hbr.size;simp;omega) (fun q hq=>ownsRow_block hown hq)
    clear hgrow hown
    go_wp2
    go_roundw
    case rel=>exact⟨k+1,by omega,by go_num,by rw [HO.out];simpa using hown',hb2⟩
    case measure=>simp [intOf];omega
   ·rw [hcon]at HC
    have HO:=O (others_in hcon)
    clear hcon
    go_wp2_with (go_at_call 67;refine(HC.out).mono ?_;rintro e w' ⟨rfl,rfl⟩)
    go_roundw
    case rel=>exact⟨k+1,by omega,by go_num,by rw [HO.out];exact hown,hbr⟩
    case measure=>simp [intOf];omega
  ·go_wp2
   go_ret
   have hkN:N.toNat=k:=by omega
   refine⟨_,rfl,?_,?_⟩
   ·rw [hkN,HOW.out]
    exact own_mono hown hz0
   ·exact(((Zf _ _).alloc (Zr _) _).trans (hb1.mono (by simp))).trans (hbr.mono hz0)
end A9
namespace A10
open Go.RowKit A1 A4 A9
structure RingAt (w:Zw) (B:Nat) (l:List Int) (v:Value):Prop where
 cell:w.cell? ⟨B,0,none⟩=some v
 free:w.frozen? ⟨B,0,none⟩=false
 own:w.ownsRow (B+1) 3 1 v l.length (l.map (Z Y))
 lt:B < w.heap.size
theorem ring_put (B:Nat) (l:List Int) (v:Value) (x:Int) (b:Nat) (w:Zw) (h:RingAt w B l v) (hx:w.cell? ⟨b,0,none⟩=some (Z Y x)) (hl:l.length≤100) :
 Zc Zp 148 #[.pointer (some ⟨B,0,none⟩),.slice (some ⟨b,0,none⟩) 1 1] w fun e w'=>∃ v',e=.returned (.tuple #[])∧RingAt w' B (l ++ [x]) v'∧Zb B w w':=by
 obtain⟨hcell,hfree,hown,hlt⟩:=h
 obtain⟨i0,hi,hz0,hz1,hz2⟩:=info_parts info3
 have HI:=O hi
 have HZ0:=O hz0
 have HZ1:=O hz1
 have HZ2:=O hz2
 clear hi hz0 hz1 hz2
 have hi:=HI.out
 go_enter Tryz.func148,Tryz.ntmps148
 go_wp2_with (at_builtin;refine wpList_append_own _ rfl _ _ 22 rfl (B+1) 3 i0 (Z Y 0) 1 8 Tryz.underlying22 hi HZ0.out HZ1.out HZ2.out rfl (by decide) _ _ _ rfl hown ⟨b,0,none⟩ 1 1 [Z Y x] rfl rfl ?c1 ?c2 ?c3 ?c4 ?c5 ?_)
 case c1 =>
  intro j u hj
  match j,hj with
  | 0,hj=>simp at hj;subst hj;simpa [Addr.add]using hx
 case c2=>intro u hu;simp at hu;subst hu;rfl
 case c3=>unfold maxLen;omega
 case c4=>omega
 case c5=>omega
 intro v' w2 hown' hgrow _
 have hb:Zb (B+1) w w2:=(Zf _ _).grown hgrow (by omega) (fun q hq=>ownsRow_block hown hq)
 have hc2:w2.cell? ⟨B,0,none⟩=some v:=(hb.cell (p:=⟨B,0,none⟩) (by simp)).trans hcell
 have hf2:w2.frozen? ⟨B,0,none⟩=false:=(hb.frozen (p:=⟨B,0,none⟩) (by simp)).trans hfree
 have hsz:=hb.size
 clear hgrow hown hcell hfree
 have hown2:w2.ownsRow (B+1) 3 1 v' (l ++ [x]).length ((l ++ [x]).map (Z Y)):=by simpa using hown'
 clear hown'
 obtain⟨A2,C2,rfl,hI2,_⟩:=ints_of_own hown2
 go_wp2
 go_end0
 refine⟨.slice A2 (l ++ [x]).length C2,rfl,⟨by go_simp,by go_simp,ownsRow_setCell_below hown2 (by simp) _,by simp;omega⟩,((hb.mono (by omega)).setCell (by simp) _)⟩
theorem clone_own (base:Nat) (v:Value) (l:List Int) (w:Zw) (h:w.ownsRow base 3 1 v l.length (l.map (Z Y))) (hl:l.length≤1000) :
 Zc Zp 28 #[v] w fun e w'=>∃ v',e=.returned v'∧w'.ownsRow w.heap.size 3 1 v' l.length (l.map (Z Y))∧Zb w.heap.size w w':=by
 obtain⟨A,C,rfl,hI,hC⟩:=ints_of_own h
 cases A with
 | none =>
  have h0:l=[]:=by
   cases l with
   | nil=>rfl
   | cons x r =>
    obtain⟨_,_,e,_⟩:=hI 0 (by simp)
    cases e
  subst h0
  exact(Tryz.slices_Clone_int_nil _ _ w).mono fun e w' hh=>⟨_,hh.1,World.ownsRow_nil _ _ _ _,by rw [hh.2];exact Zf _ _⟩
 | some a =>
  rcases hI.cases with h0 | ⟨b,off,e,hb,hc⟩
  ·subst h0
   exact(Tryz.slices_Clone_int_zero a C w).mono fun e w' hh=>by
    obtain⟨v',h1,h2,h3,h4⟩:=hh
    exact⟨v',h1,h2,h4⟩
  ·cases e
   exact(Tryz.slices_Clone_int b off l.length C l w (Zr _) (by omega) hc).mono fun e w' hh=>by
    obtain⟨v',h1,h2,h3,h4⟩:=hh
    exact⟨v',h1,by rw [List.take_length]at h2;exact h2,h4⟩
def wayTo (n last dir:Int) (own:List Int) (k:Nat):List Int:=((List.range k).map (fun j:Nat=>(last+dir*((j:Int)+1))%n)).filter (fun i=>!own.contains i)
theorem wayTo_in {n last dir:Int} {own:List Int} {k:Nat} (h:own.contains ((last+dir*((k:Int)+1))%n)=true):wayTo n last dir own (k+1)=wayTo n last dir own k:=by
 unfold wayTo
 rw [List.range_succ,List.map_append,List.filter_append]
 simpa using h
theorem wayTo_out {n last dir:Int} {own:List Int} {k:Nat} (h:own.contains ((last+dir*((k:Int)+1))%n)=false):wayTo n last dir own (k+1)=wayTo n last dir own k ++ [(last+dir*((k:Int)+1))%n]:=by
 unfold wayTo
 rw [List.range_succ,List.map_append,List.filter_append]
 have h':¬(last+dir*((k:Int)+1))%n ∈ own:=by simpa using h
 simp [h']
theorem wayTo_le (n last dir:Int) (own:List Int) (k:Nat):(wayTo n last dir own k).length≤k:=by
 unfold wayTo
 refine Nat.le_trans (List.length_filter_le _ _) ?_
 simp
def lastOf (own:List Int) (dir:Int):Int:=if dir=1 then own.getD (own.length-1) 0 else own.getD 0 0
theorem ring_Way1u (n x:Int) (b off C:Nat) (w:Zw) (hn:6≤n) (hn2:n≤7) (hb:b < w.heap.size) (c0:w.cell? ⟨b,off,none⟩=some (Z Y x)) (hr:0≤x) (hr2:x < n) :
 Zc Zp 105 #[Z Y n,.slice (some ⟨b,off,none⟩) 1 C,Z Y 1] w fun e w'=>∃ v,e=.returned v∧w'.ownsRow w.heap.size 3 1 v (wayTo n x 1 [x] (n-1).toNat).length ((wayTo n x 1 [x] (n-1).toNat).map (Z Y))∧Zb w.heap.size w w':=by
 have hmf:∀(fn:Fn) (first cap:Array Value) (w:Zw),(Instr.makeFunc fn first cap).run Zp w=.ok (.func fn first cap) w:=fun _ _ _ _=>rfl
 have z1:decide (n < 6)=false:=by simp;omega
 have z2:decide (n > 12)=false:=by simp;omega
 have hI:Ints w (some ⟨b,off,none⟩) [x]:=fun k hk=>⟨b,off,rfl,hb,by
  match k,hk with
  | 0,_=>exact c0⟩
 have HI0:=O hI
 clear hI
 go_enter Tryz.func105,Tryz.ntmps105
 go_wp2
 have hB0:RingAt (w.alloc (.cells #[.slice none 0 0] 234)) w.heap.size [] (.slice none 0 0):=⟨by go_simp,by go_simp,World.ownsRow_nil _ _ _ _,by simp⟩
 go_loopw [10] (fun i wr=>∃(k:Nat) (v:Value),(k:Int)≤n-1∧i=Z Y ((k:Int)+1)∧RingAt wr w.heap.size (wayTo n x 1 [x] k) v∧Zb w.heap.size w wr) (fun i _=>n.toNat-(intOf i).toNat)
 case atStart=>exact⟨0,_,by omega,rfl,hB0,(Zf _ _).alloc (Zr _) _⟩
 case round =>
  obtain⟨k,v,hk,rfl,hR,hbr⟩:=hrel
  clear hB0
  have hIr:=HI0.out.below hbr
  have hwl:=wayTo_le n x 1 [x] k
  have hcellB:=hR.cell
  by_cases hlt:(k:Int)+1 < n
  ·have q0:0≤(x+((k:Int)+1))%n:=Int.emod_nonneg _ (by omega)
   have q1:(x+((k:Int)+1))%n < n:=Int.emod_lt_of_pos _ (by omega)
   have hin:=@wayTo_in n x 1 [x] k
   have hout:=@wayTo_out n x 1 [x] k
   rw [Int.one_mul]at hin hout
   have HA:=O (ring_At n x ((k:Int)+1) wr (by omega) (by omega) (by omega) (by omega) (by omega) (by omega))
   generalize (x+((k:Int)+1))%n=q at *
   have HC:=O (Contains (some ⟨b,off,none⟩) [x] C q wr hIr (by simp))
   cases hcon:List.contains [x] q
   ·rw [hcon]at HC
    have HO:=O (hout hcon)
    clear hin hout hcon
    have hR2:RingAt (wr.alloc (.cells #[Z Y q] 3)) w.heap.size (wayTo n x 1 [x] k) v:=⟨by have:=hR.cell;have:=hR.lt;go_simp,by have:=hR.free;have:=hR.lt;go_simp,hR.own.alloc _,by have:=hR.lt;simp;omega⟩
    have HR2:=O hR2
    clear hR2
    go_wp2_with fail
    refine HA.out.mono ?_
    rintro e w' ⟨rfl,rfl⟩
    go_wp2_with fail
    refine HC.out.mono ?_
    rintro e w' ⟨rfl,rfl⟩
    go_wp2_with fail
    refine(ring_put w.heap.size (wayTo n x 1 [x] k) v q wr.heap.size _ HR2.out (by go_simp) (by omega)).mono ?_
    rintro e w2 ⟨v2,rfl,hR3,hb3⟩
    have hb4:Zb w.heap.size w w2:=(hbr.alloc hbr.size _).trans hb3
    clear hb3 hR hcellB
    go_wp2
    go_roundw
    case rel=>exact⟨k+1,v2,by omega,by go_num,by rw [HO.out];exact hR3,hb4⟩
    case measure=>simp [intOf];omega
   ·rw [hcon]at HC
    have HO:=O (hin hcon)
    clear hin hout hcon
    go_wp2_with fail
    refine HA.out.mono ?_
    rintro e w' ⟨rfl,rfl⟩
    go_wp2_with fail
    refine HC.out.mono ?_
    rintro e w' ⟨rfl,rfl⟩
    go_wp2
    go_roundw
    case rel=>exact⟨k+1,v,by omega,by go_num,by rw [HO.out];exact hR,hbr⟩
    case measure=>simp [intOf];omega
  ·go_wp2_with fail
   refine(clone_own _ v _ wr hR.own (by omega)).mono ?_
   rintro e w2 ⟨v2,rfl,ho2,hb2⟩
   have hkn:(n-1).toNat=k:=by omega
   go_wp2
   go_ret
   exact⟨_,rfl,by rw [hkn];exact own_mono ho2 hbr.size,hbr.trans (hb2.mono hbr.size)⟩
theorem ring_Way2u (n x y:Int) (b off C:Nat) (w:Zw) (hn:6≤n) (hn2:n≤7) (hb:b < w.heap.size) (c0:w.cell? ⟨b,off,none⟩=some (Z Y x)) (c1:w.cell? ⟨b,off+1,none⟩=some (Z Y y)) (hr:0≤y) (hr2:y < n) :
 Zc Zp 105 #[Z Y n,.slice (some ⟨b,off,none⟩) 2 C,Z Y 1] w fun e w'=>∃ v,e=.returned v∧w'.ownsRow w.heap.size 3 1 v (wayTo n y 1 [x,y] (n-1).toNat).length ((wayTo n y 1 [x,y] (n-1).toNat).map (Z Y))∧Zb w.heap.size w w':=by
 have hmf:∀(fn:Fn) (first cap:Array Value) (w:Zw),(Instr.makeFunc fn first cap).run Zp w=.ok (.func fn first cap) w:=fun _ _ _ _=>rfl
 have z1:decide (n < 6)=false:=by simp;omega
 have z2:decide (n > 12)=false:=by simp;omega
 have hI:Ints w (some ⟨b,off,none⟩) [x,y]:=fun k hk=>⟨b,off,rfl,hb,by
  match k,hk with
  | 0,_=>exact c0
  | 1,_=>exact c1⟩
 have HI0:=O hI
 clear hI
 go_enter Tryz.func105,Tryz.ntmps105
 go_wp2
 have hB0:RingAt (w.alloc (.cells #[.slice none 0 0] 234)) w.heap.size [] (.slice none 0 0):=⟨by go_simp,by go_simp,World.ownsRow_nil _ _ _ _,by simp⟩
 go_loopw [10] (fun i wr=>∃(k:Nat) (v:Value),(k:Int)≤n-1∧i=Z Y ((k:Int)+1)∧RingAt wr w.heap.size (wayTo n y 1 [x,y] k) v∧Zb w.heap.size w wr) (fun i _=>n.toNat-(intOf i).toNat)
 case atStart=>exact⟨0,_,by omega,rfl,hB0,(Zf _ _).alloc (Zr _) _⟩
 case round =>
  obtain⟨k,v,hk,rfl,hR,hbr⟩:=hrel
  clear hB0
  have hIr:=HI0.out.below hbr
  have hwl:=wayTo_le n y 1 [x,y] k
  have hcellB:=hR.cell
  by_cases hlt:(k:Int)+1 < n
  ·have q0:0≤(y+((k:Int)+1))%n:=Int.emod_nonneg _ (by omega)
   have q1:(y+((k:Int)+1))%n < n:=Int.emod_lt_of_pos _ (by omega)
   have hin:=@wayTo_in n y 1 [x,y] k
   have hout:=@wayTo_out n y 1 [x,y] k
   rw [Int.one_mul]at hin hout
   have HA:=O (ring_At n y ((k:Int)+1) wr (by omega) (by omega) (by omega) (by omega) (by omega) (by omega))
   generalize (y+((k:Int)+1))%n=q at *
   have HC:=O (Contains (some ⟨b,off,none⟩) [x,y] C q wr hIr (by simp))
   cases hcon:List.contains [x,y] q
   ·rw [hcon]at HC
    have HO:=O (hout hcon)
    clear hin hout hcon
    have hR2:RingAt (wr.alloc (.cells #[Z Y q] 3)) w.heap.size (wayTo n y 1 [x,y] k) v:=⟨by have:=hR.cell;have:=hR.lt;go_simp,by have:=hR.free;have:=hR.lt;go_simp,hR.own.alloc _,by have:=hR.lt;simp;omega⟩
    have HR2:=O hR2
    clear hR2
    go_wp2_with fail
    refine HA.out.mono ?_
    rintro e w' ⟨rfl,rfl⟩
    go_wp2_with fail
    refine HC.out.mono ?_
    rintro e w' ⟨rfl,rfl⟩
    go_wp2_with fail
    refine(ring_put w.heap.size (wayTo n y 1 [x,y] k) v q wr.heap.size _ HR2.out (by go_simp) (by omega)).mono ?_
    rintro e w2 ⟨v2,rfl,hR3,hb3⟩
    have hb4:Zb w.heap.size w w2:=(hbr.alloc hbr.size _).trans hb3
    clear hb3 hR hcellB
    go_wp2
    go_roundw
    case rel=>exact⟨k+1,v2,by omega,by go_num,by rw [HO.out];exact hR3,hb4⟩
    case measure=>simp [intOf];omega
   ·rw [hcon]at HC
    have HO:=O (hin hcon)
    clear hin hout hcon
    go_wp2_with fail
    refine HA.out.mono ?_
    rintro e w' ⟨rfl,rfl⟩
    go_wp2_with fail
    refine HC.out.mono ?_
    rintro e w' ⟨rfl,rfl⟩
    go_wp2
    go_roundw
    case rel=>exact⟨k+1,v,by omega,by go_num,by rw [HO.out];exact hR,hbr⟩
    case measure=>simp [intOf];omega
  ·go_wp2_with fail
   refine(clone_own _ v _ wr hR.own (by omega)).mono ?_
   rintro e w2 ⟨v2,rfl,ho2,hb2⟩
   have hkn:(n-1).toNat=k:=by omega
   go_wp2
   go_ret
   exact⟨_,rfl,by rw [hkn];exact own_mono ho2 hbr.size,hbr.trans (hb2.mono hbr.size)⟩
theorem ring_Way1d (n x:Int) (b off C:Nat) (w:Zw) (hn:6≤n) (hn2:n≤7) (hb:b < w.heap.size) (c0:w.cell? ⟨b,off,none⟩=some (Z Y x)) (hr:0≤x) (hr2:x < n) :
 Zc Zp 105 #[Z Y n,.slice (some ⟨b,off,none⟩) 1 C,Z Y (-1)] w fun e w'=>∃ v,e=.returned v∧w'.ownsRow w.heap.size 3 1 v (wayTo n x (-1) [x] (n-1).toNat).length ((wayTo n x (-1) [x] (n-1).toNat).map (Z Y))∧Zb w.heap.size w w':=by
 have hmf:∀(fn:Fn) (first cap:Array Value) (w:Zw),(Instr.makeFunc fn first cap).run Zp w=.ok (.func fn first cap) w:=fun _ _ _ _=>rfl
 have z1:decide (n < 6)=false:=by simp;omega
 have z2:decide (n > 12)=false:=by simp;omega
 have hI:Ints w (some ⟨b,off,none⟩) [x]:=fun k hk=>⟨b,off,rfl,hb,by
  match k,hk with
  | 0,_=>exact c0⟩
 have HI0:=O hI
 clear hI
 go_enter Tryz.func105,Tryz.ntmps105
 go_wp2
 have hB0:RingAt (w.alloc (.cells #[.slice none 0 0] 234)) w.heap.size [] (.slice none 0 0):=⟨by go_simp,by go_simp,World.ownsRow_nil _ _ _ _,by simp⟩
 go_loopw [10] (fun i wr=>∃(k:Nat) (v:Value),(k:Int)≤n-1∧i=Z Y ((k:Int)+1)∧RingAt wr w.heap.size (wayTo n x (-1) [x] k) v∧Zb w.heap.size w wr) (fun i _=>n.toNat-(intOf i).toNat)
 case atStart=>exact⟨0,_,by omega,rfl,hB0,(Zf _ _).alloc (Zr _) _⟩
 case round =>
  obtain⟨k,v,hk,rfl,hR,hbr⟩:=hrel
  clear hB0
  have hIr:=HI0.out.below hbr
  have hwl:=wayTo_le n x (-1) [x] k
  have hcellB:=hR.cell
  by_cases hlt:(k:Int)+1 < n
  ·have q0:0≤(x + -((k:Int)+1))%n:=Int.emod_nonneg _ (by omega)
   have q1:(x + -((k:Int)+1))%n < n:=Int.emod_lt_of_pos _ (by omega)
   have hin:=@wayTo_in n x (-1) [x] k
   have hout:=@wayTo_out n x (-1) [x] k
   rw [show(-1:Int)*((k:Int)+1) = -((k:Int)+1)from by omega]at hin hout
   have HA:=O (ring_At n x (-((k:Int)+1)) wr (by omega) (by omega) (by omega) (by omega) (by omega) (by omega))
   generalize (x + -((k:Int)+1))%n=q at *
   have HC:=O (Contains (some ⟨b,off,none⟩) [x] C q wr hIr (by simp))
   cases hcon:List.contains [x] q
   ·rw [hcon]at HC
    have HO:=O (hout hcon)
    clear hin hout hcon
    have hR2:RingAt (wr.alloc (.cells #[Z Y q] 3)) w.heap.size (wayTo n x (-1) [x] k) v:=⟨by have:=hR.cell;have:=hR.lt;go_simp,by have:=hR.free;have:=hR.lt;go_simp,hR.own.alloc _,by have:=hR.lt;simp;omega⟩
    have HR2:=O hR2
    clear hR2
    go_wp2_with fail
    refine HA.out.mono ?_
    rintro e w' ⟨rfl,rfl⟩
    go_wp2_with fail
    refine HC.out.mono ?_
    rintro e w' ⟨rfl,rfl⟩
    go_wp2_with fail
    refine(ring_put w.heap.size (wayTo n x (-1) [x] k) v q wr.heap.size _ HR2.out (by go_simp) (by omega)).mono ?_
    rintro e w2 ⟨v2,rfl,hR3,hb3⟩
    have hb4:Zb w.heap.size w w2:=(hbr.alloc hbr.size _).trans hb3
    clear hb3 hR hcellB
    go_wp2
    go_roundw
    case rel=>exact⟨k+1,v2,by omega,by go_num,by rw [HO.out];exact hR3,hb4⟩
    case measure=>simp [intOf];omega
   ·rw [hcon]at HC
    have HO:=O (hin hcon)
    clear hin hout hcon
    go_wp2_with fail
    refine HA.out.mono ?_
    rintro e w' ⟨rfl,rfl⟩
    go_wp2_with fail
    refine HC.out.mono ?_
    rintro e w' ⟨rfl,rfl⟩
    go_wp2
    go_roundw
    case rel=>exact⟨k+1,v,by omega,by go_num,by rw [HO.out];exact hR,hbr⟩
    case measure=>simp [intOf];omega
  ·go_wp2_with fail
   refine(clone_own _ v _ wr hR.own (by omega)).mono ?_
   rintro e w2 ⟨v2,rfl,ho2,hb2⟩
   have hkn:(n-1).toNat=k:=by omega
   go_wp2
   go_ret
   exact⟨_,rfl,by rw [hkn];exact own_mono ho2 hbr.size,hbr.trans (hb2.mono hbr.size)⟩
theorem ring_Way2d (n x y:Int) (b off C:Nat) (w:Zw) (hn:6≤n) (hn2:n≤7) (hb:b < w.heap.size) (c0:w.cell? ⟨b,off,none⟩=some (Z Y x)) (c1:w.cell? ⟨b,off+1,none⟩=some (Z Y y)) (hr:0≤x) (hr2:x < n) :
 Zc Zp 105 #[Z Y n,.slice (some ⟨b,off,none⟩) 2 C,Z Y (-1)] w fun e w'=>∃ v,e=.returned v∧w'.ownsRow w.heap.size 3 1 v (wayTo n x (-1) [x,y] (n-1).toNat).length ((wayTo n x (-1) [x,y] (n-1).toNat).map (Z Y))∧Zb w.heap.size w w':=by
 have hmf:∀(fn:Fn) (first cap:Array Value) (w:Zw),(Instr.makeFunc fn first cap).run Zp w=.ok (.func fn first cap) w:=fun _ _ _ _=>rfl
 have z1:decide (n < 6)=false:=by simp;omega
 have z2:decide (n > 12)=false:=by simp;omega
 have hI:Ints w (some ⟨b,off,none⟩) [x,y]:=fun k hk=>⟨b,off,rfl,hb,by
  match k,hk with
  | 0,_=>exact c0
  | 1,_=>exact c1⟩
 have HI0:=O hI
 clear hI
 go_enter Tryz.func105,Tryz.ntmps105
 go_wp2
 have hB0:RingAt (w.alloc (.cells #[.slice none 0 0] 234)) w.heap.size [] (.slice none 0 0):=⟨by go_simp,by go_simp,World.ownsRow_nil _ _ _ _,by simp⟩
 go_loopw [10] (fun i wr=>∃(k:Nat) (v:Value),(k:Int)≤n-1∧i=Z Y ((k:Int)+1)∧RingAt wr w.heap.size (wayTo n x (-1) [x,y] k) v∧Zb w.heap.size w wr) (fun i _=>n.toNat-(intOf i).toNat)
 case atStart=>exact⟨0,_,by omega,rfl,hB0,(Zf _ _).alloc (Zr _) _⟩
 case round =>
  obtain⟨k,v,hk,rfl,hR,hbr⟩:=hrel
  clear hB0
  have hIr:=HI0.out.below hbr
  have hwl:=wayTo_le n x (-1) [x,y] k
  have hcellB:=hR.cell
  by_cases hlt:(k:Int)+1 < n
  ·have q0:0≤(x + -((k:Int)+1))%n:=Int.emod_nonneg _ (by omega)
   have q1:(x + -((k:Int)+1))%n < n:=Int.emod_lt_of_pos _ (by omega)
   have hin:=@wayTo_in n x (-1) [x,y] k
   have hout:=@wayTo_out n x (-1) [x,y] k
   rw [show(-1:Int)*((k:Int)+1) = -((k:Int)+1)from by omega]at hin hout
   have HA:=O (ring_At n x (-((k:Int)+1)) wr (by omega) (by omega) (by omega) (by omega) (by omega) (by omega))
   generalize (x + -((k:Int)+1))%n=q at *
   have HC:=O (Contains (some ⟨b,off,none⟩) [x,y] C q wr hIr (by simp))
   cases hcon:List.contains [x,y] q
   ·rw [hcon]at HC
    have HO:=O (hout hcon)
    clear hin hout hcon
    have hR2:RingAt (wr.alloc (.cells #[Z Y q] 3)) w.heap.size (wayTo n x (-1) [x,y] k) v:=⟨by have:=hR.cell;have:=hR.lt;go_simp,by have:=hR.free;have:=hR.lt;go_simp,hR.own.alloc _,by have:=hR.lt;simp;omega⟩
    have HR2:=O hR2
    clear hR2
    go_wp2_with fail
    refine HA.out.mono ?_
    rintro e w' ⟨rfl,rfl⟩
    go_wp2_with fail
    refine HC.out.mono ?_
    rintro e w' ⟨rfl,rfl⟩
    go_wp2_with fail
    refine(ring_put w.heap.size (wayTo n x (-1) [x,y] k) v q wr.heap.size _ HR2.out (by go_simp) (by omega)).mono ?_
    rintro e w2 ⟨v2,rfl,hR3,hb3⟩
    have hb4:Zb w.heap.size w w2:=(hbr.alloc hbr.size _).trans hb3
    clear hb3 hR hcellB
    go_wp2
    go_roundw
    case rel=>exact⟨k+1,v2,by omega,by go_num,by rw [HO.out];exact hR3,hb4⟩
    case measure=>simp [intOf];omega
   ·rw [hcon]at HC
    have HO:=O (hin hcon)
    clear hin hout hcon
    go_wp2_with fail
    refine HA.out.mono ?_
    rintro e w' ⟨rfl,rfl⟩
    go_wp2_with fail
    refine HC.out.mono ?_
    rintro e w' ⟨rfl,rfl⟩
    go_wp2
    go_roundw
    case rel=>exact⟨k+1,v,by omega,by go_num,by rw [HO.out];exact hR,hbr⟩
    case measure=>simp [intOf];omega
  ·go_wp2_with fail
   refine(clone_own _ v _ wr hR.own (by omega)).mono ?_
   rintro e w2 ⟨v2,rfl,ho2,hb2⟩
   have hkn:(n-1).toNat=k:=by omega
   go_wp2
   go_ret
   exact⟨_,rfl,by rw [hkn];exact own_mono ho2 hbr.size,hbr.trans (hb2.mono hbr.size)⟩
end A10
namespace A11
open Go.RowKit
theorem lies163:liesAt Zp Tryz.prog.depth 163 (2 / Tryz.prog.cellsOf 163) 0 163 1=true:=by kernel_rfl
theorem size163:(Tryz.prog.info? 163).map (·.size)=some 2:=by kernel_rfl
theorem copy_first (b:Nat) (w:Zw) (h0:w.cell? ⟨b,0,none⟩=some (.pointer none)) (hsh:w.shape? b=some (163,2)) (hf:w.frozen? ⟨b,0,none⟩=false) :
 Zc Zp 142 #[.pointer (some ⟨b,0,none⟩)] w fun e w'=>e=.returned (.tuple #[])∧w'=w.setCell ⟨b,0,none⟩ (.pointer (some ⟨b,0,none⟩)):=by
 obtain⟨j,hj,hjs⟩:=Option.map_eq_some_iff.1 size163
 have HJ:=O hj
 have e1:(convert 160 262 (.pointer (some ⟨b,0,none⟩))).run Zp w=.ok (.pointer (some ⟨b,0,none⟩)) w:=Lib.run_to_unsafe w ⟨b,0,none⟩ Tryz.underlying160 Tryz.underlying262 hj (by rw [hjs];decide) hsh (Nat.zero_lt_succ 1)
 have e2:(convert 262 160 (.pointer (some ⟨b,0,none⟩))).run Zp w=.ok (.pointer (some ⟨b,0,none⟩)) w:=Lib.run_from_unsafe w ⟨b,0,none⟩ Tryz.underlying262 Tryz.underlying160 hj hsh lies163
 clear hj hjs
 go_enter Tryz.func142,Tryz.ntmps142
 go_wp2
 rw [run_callFunc_extern Tryz.func171 (by kernel_rfl) (by kernel_rfl) (by kernel_rfl) (e:=Extern.AbiNoEscape.same) (by kernel_rfl)]
 rw [Lib.run_noEscape]
 simp only [Result.andThen]
 rw [Oper.upon_value]
 go_wp2
 go_end0
 exact⟨rfl,rfl⟩
theorem copy_used (b:Nat) (w:Zw) (h0:w.cell? ⟨b,0,none⟩=some (.pointer (some ⟨b,0,none⟩))) :
 Zc Zp 142 #[.pointer (some ⟨b,0,none⟩)] w fun e w'=>e=.returned (.tuple #[])∧w'=w:=by
 obtain⟨j,hj,hjs⟩:=Option.map_eq_some_iff.1 size163
 have e1:∀ w:Zw,(binOp .neq 160 (.pointer (some ⟨b,0,none⟩)) (.pointer (some ⟨b,0,none⟩))).run Zp w=.ok (.bool false) w:=fun w=>Lib.run_neq_ptr_same w ⟨b,0,none⟩ Tryz.underlying160 hj
 clear hj hjs
 go_enter Tryz.func142,Tryz.ntmps142
 go_wp2
 go_end0
 exact⟨rfl,rfl⟩
abbrev Bd (b:Nat) (bs:List Value) (w:Zw):Prop:=Lib.IsBuilderF 163 5 b b bs w
theorem copyCheck (b:Nat) (bs:List Value) (w:Zw) (h:Bd b bs w) :
 Zc Zp 142 #[.pointer (some ⟨b,0,none⟩)] w fun e w'=>e=.returned (.tuple #[])∧Lib.BuilderAtF 163 5 b b (.pointer (some ⟨b,0,none⟩)) bs w'∧Zb b w w':=by
 rcases h with h | h
 ·refine(copy_first b w h.cell0 h.shape h.frozen0).mono ?_
  rintro e w' ⟨rfl,rfl⟩
  exact⟨rfl,h.used _,(Zf b w).setCell (p:=⟨b,0,none⟩) (Zr b) _⟩
 ·refine(copy_used b w h.cell0).mono ?_
  rintro e w' ⟨rfl,rfl⟩
  exact⟨rfl,h,Zf b _⟩
theorem info5:(Tryz.prog.info? 5).map (fun i=>(i.zero,i.size,i.bytes))=some (some (.int .u8 0),1,1):=by kernel_rfl
theorem heap_lt {w:Zw} {b:Nat} {o:Obj} (h:w.heap[b]?=some o):b < w.heap.size:=(Array.getElem?_eq_some_iff.1 h).1
theorem WriteByte (b:Nat) (bs:List Value) (c:Int) (w:Zw) (h:Bd b bs w) (hl:bs.length≤100000) :
 Zc Zp 178 #[.pointer (some ⟨b,0,none⟩),.int .u8 c] w fun e w'=>e=.returned .nilIface∧Bd b (bs ++ [.int .u8 c]) w'∧Zb b w w':=by
 obtain⟨i0,hi,hz0,hz1,hz2⟩:=info_parts info5
 have HZ:=O (And.intro hz0 (And.intro hz1 hz2))
 have HI:=O hi
 clear hi hz0 hz1 hz2
 go_enter Tryz.func178,Tryz.ntmps178
 go_wp2_with fail
 refine(copyCheck b bs _ h).mono ?_
 rintro e w1 ⟨rfl,⟨hB,v,hbk,hown,hne⟩,hb1⟩
 have c0:w1.cell? ⟨b,0,none⟩=some (.pointer (some ⟨b,0,none⟩)):=by simp [World.cell?,hbk]
 have c1:w1.cell? ⟨b,1,none⟩=some v:=by simp [World.cell?,hbk]
 have hlt:=heap_lt hbk
 have HK:=O hbk
 clear hbk
 go_wp2_with (at_builtin;refine wpList_append_ownF _ rfl _ _ 161 rfl b 5 i0 (.int .u8 0) 1 1 Tryz.underlying161 HI.out HZ.out.1 HZ.out.2.1 HZ.out.2.2 rfl (by decide) _ _ _ rfl (hown.alloc _) ⟨w1.heap.size,0,none⟩ 1 1 [.int .u8 c] rfl rfl ?c1 ?c2 ?c3 ?c4 ?c5 ?_)
 case c1 =>
  intro j u hj
  match j,hj with
  | 0,hj=>simp at hj;subst hj;simp [Addr.add]
 case c2=>intro u hu;simp at hu;subst hu;rfl
 case c3=>unfold maxLen;omega
 case c4=>omega
 case c5=>simp;omega
 intro v' w2 hown' hgrow _
 have hk2:w2.heap[b]?=some (.cells #[.pointer (some ⟨b,0,none⟩),v] 163 (0,0)):=(hgrow.block b (by simp;omega) (fun e=>hne e.symm)).trans ((Below.heap_alloc _ _ _ hlt).trans HK.out)
 have hb2:Zb b w w2:=(hb1.alloc (by omega) _).grown hgrow (by simp;omega) (fun k hk=>(hown.lt k hk).1)
 have d0:w2.cell? ⟨b,0,none⟩=some (.pointer (some ⟨b,0,none⟩)):=by simp [World.cell?,hk2]
 have d1:w2.cell? ⟨b,1,none⟩=some v:=by simp [World.cell?,hk2]
 have f1:w2.frozen? ⟨b,1,none⟩=false:=by simp [World.frozen?,hk2]
 have HK2:=O hk2
 clear hk2 hgrow
 obtain⟨ao,n',cap,rfl⟩:∃ ao n' cap,v'=.slice ao n' cap:=by
  rcases hown'.2 with⟨hv,_⟩ | ⟨g,cap,cur,fz,hv,_⟩
  ·exact⟨_,_,_,hv⟩
  ·exact⟨_,_,_,hv⟩
 go_wp2
 go_ret
 exact⟨rfl,.inr (Lib.BuilderAtF.put (T:=163) (e:=5) (Zr b) HK2.out (bs':=bs ++ [.int .u8 c]) (by simpa using hown') (by decide)),hb2.setCell (p:=⟨b,1,none⟩) (Zr b) _⟩
theorem WriteString (b:Nat) (bs:List Value) (s:ByteArray) (w:Zw) (h:Bd b bs w) (hl:bs.length≤100000) (hs:s.size≤100000) :
 Zc Zp 99 #[.pointer (some ⟨b,0,none⟩),.string s] w fun e w'=>e=.returned (.tuple #[Z Y s.size,.nilIface])∧Bd b (bs ++ Lib.strCells s) w'∧Zb b w w':=by
 obtain⟨i0,hi,hz0,hz1,hz2⟩:=info_parts info5
 have HZ:=O (And.intro hz0 (And.intro hz1 hz2))
 have HI:=O hi
 clear hi hz0 hz1 hz2
 go_enter Tryz.func99,Tryz.ntmps99
 go_wp2_with fail
 refine(copyCheck b bs _ h).mono ?_
 rintro e w1 ⟨rfl,⟨hB,v,hbk,hown,hne⟩,hb1⟩
 have c0:w1.cell? ⟨b,0,none⟩=some (.pointer (some ⟨b,0,none⟩)):=by simp [World.cell?,hbk]
 have c1:w1.cell? ⟨b,1,none⟩=some v:=by simp [World.cell?,hbk]
 have hlt:=heap_lt hbk
 have HK:=O hbk
 clear hbk
 go_wp2_with (at_builtin;refine Lib.wpList_append_own_stringF _ rfl _ _ 161 9 rfl b 5 i0 Tryz.underlying161 Tryz.underlying9 HI.out HZ.out.1 HZ.out.2.1 HZ.out.2.2 _ _ _ rfl hown s rfl ?c3 ?c4 ?c5 ?_)
 case c3=>unfold maxLen;omega
 case c4=>omega
 case c5=>omega
 intro v' w2 hown' hgrow _
 have hk2:w2.heap[b]?=some (.cells #[.pointer (some ⟨b,0,none⟩),v] 163 (0,0)):=(hgrow.block b hlt (fun e=>hne e.symm)).trans HK.out
 have hb2:Zb b w w2:=hb1.grown hgrow (by omega) (fun k hk=>(hown.lt k hk).1)
 have d0:w2.cell? ⟨b,0,none⟩=some (.pointer (some ⟨b,0,none⟩)):=by simp [World.cell?,hk2]
 have d1:w2.cell? ⟨b,1,none⟩=some v:=by simp [World.cell?,hk2]
 have f1:w2.frozen? ⟨b,1,none⟩=false:=by simp [World.frozen?,hk2]
 have HK2:=O hk2
 clear hk2 hgrow
 obtain⟨ao,n',cap,rfl⟩:∃ ao n' cap,v'=.slice ao n' cap:=by
  rcases hown'.2 with⟨hv,_⟩ | ⟨g,cap,cur,fz,hv,_⟩
  ·exact⟨_,_,_,hv⟩
  ·exact⟨_,_,_,hv⟩
 go_wp2
 go_ret2
 exact⟨rfl,.inr (Lib.BuilderAtF.put (T:=163) (e:=5) (Zr b) HK2.out (bs':=bs ++ Lib.strCells s) (by simpa [Lib.strCells_length]using hown') (by decide)),hb2.setCell (p:=⟨b,1,none⟩) (Zr b) _⟩
theorem String (b:Nat) (l:List UInt8) (w:Zw) (h:Bd b (Lib.byteCells l) w) (hb:b≤w.heap.size) :
 Zc Zp 103 #[.pointer (some ⟨b,0,none⟩)] w fun e w'=>e=.returned (.string ⟨l.toArray⟩)∧Zb b w w' :=
 (Tryz.Builder_String_any_f b b l w h hb).mono fun e w' hh=>⟨hh.1,hh.2.2⟩
end A11
namespace A12
open Go.RowKit A2 A6 A7 A11
theorem Bd_new (w:Zw):Bd w.heap.size [] (w.alloc (.cells #[.pointer none,.slice none 0 0] 163)) :=
 .inl ⟨Zr _,.slice none 0 0,Zh w _,World.ownsRowF_of (World.ownsRow_nil _ _ _ _),by simp [Value.ownBlock]⟩
def atB (s:ByteArray) (k:Nat):Int:=if h:k < s.size then(s[k]'h).toNat else 46
theorem lane_at (s:ByteArray) (k:Nat) (w:Zw) (hs:s.size≤4000) (hk:k≤5000) :
 Zc Zp 177 #[.string s,Z Y k] w fun e w'=>e=.returned (.int .u8 (atB s k))∧w=w':=by
 unfold atB
 by_cases h:k < s.size
 ·rw [dif_pos h];exact lane_at_in s k w hs h
 ·rw [dif_neg h];exact lane_at_out s k w hs hk (by omega)
theorem passes_differ (B:Nat) (d s:Int) (w:Zw) (h0:w.cell? ⟨B,0,none⟩=some (.bool true)) (h1:w.cell? ⟨B,1,none⟩=some (.bool false)) (hd:d=48∨d=49∨d=35) (hs:(s == d)=false) :
 Zc Zp 193 #[.pointer (some ⟨B,0,none⟩),.int .u8 d,.int .u8 s] w fun e w'=>e=.returned (.bool false)∧w=w':=by
 rcases hd with rfl | rfl | rfl <;>
 ·go_enter Tryz.func193,Tryz.ntmps193
  go_wp2_with (go_at_call 210;refine(lane_symbol_yes _ _ (by decide)).mono ?_;rintro e w' ⟨rfl,rfl⟩)
  go_ret
  exact⟨rfl,rfl⟩
theorem Bd_far {b:Nat} {bs:List Value} {w:Zw} (h:Bd b bs w) {p:Addr} (hp:p.block < b) (u:Value):Bd b bs (w.setCell p u):=by
 have key:∀ q,Lib.BuilderAtF 163 5 b b q bs w→Lib.BuilderAtF 163 5 b b q bs (w.setCell p u):=fun q hh=>by
  obtain⟨hB,v,hb,hown,hne⟩:=hh
  refine⟨hB,v,(Below.heap_setCell w p u b (by omega)).trans hb,?_,hne⟩
  refine hown.kept (row:=some p.block) ⟨rfl,rfl,rfl,by simp [World.setCell],fun k _ hk=>Below.heap_setCell _ _ _ _ (fun e=>hk (by simp [e]))⟩ (Or.inr ?_)
  intro e
  have:=hown.lt _ e
  omega
 exact h.elim (fun x =>.inl (key _ x)) (fun x =>.inr (key _ x))
def passed (cmp:Bool) (d s:ByteArray) (k:Nat):Prop:=k≤d.size∧(cmp=true→∀ j,j < k→atB s j=atB d j)∧(k < d.size→cmp=true∧atB s k≠atB d k)
def OutPost (cmp:Bool) (d s:ByteArray) (w:Zw) (e:Ending) (w':Zw):Prop:=∃ k,passed cmp d s k∧e=.returned (.string ⟨(d.data.toList.take k).toArray⟩)∧Zb w.heap.size w w'
theorem byte_snoc (d:ByteArray) (k:Nat) (h:k < d.size):Lib.byteCells (d.data.toList.take (k+1))=Lib.byteCells (d.data.toList.take k) ++ [.int .u8 (atB d k)]:=by
 rw [List.take_succ_eq_append_getElem (by simpa using h),Lib.byteCells_append]
 simp [Lib.byteCells,atB,h]
 rfl
theorem lane_Out (cmp:Bool) (d s:ByteArray) (w:Zw) (hd:Strm d) (hs:s.size≤4000) :
 Zc Zp 152 #[.bool cmp,.string d,.string s] w (OutPost cmp d s w):=by
 obtain⟨hd4,hdb⟩:=hd
 have HD:=O hdb
 clear hdb
 go_enter Tryz.func152,Tryz.ntmps152
 go_wp2_with (go_at_call 175;refine(lane_New _ _).mono ?_;rintro e w' ⟨rfl,rfl⟩)
 have hB0:=O (Bd_new (w.alloc (.cells #[.bool cmp,.bool false] 291)))
 go_loopw [10] (fun i wr=>∃(k:Nat) (sh:Bool),k≤d.size∧i=Z Y k∧Hid ((k < d.size→sh=false)∧(cmp=true→∀ j,j < k→atB s j=atB d j))∧wr.heap[w.heap.size]?=some (.cells #[.bool cmp,.bool sh] 291 (0,0))∧Bd (w.heap.size+1) (Lib.byteCells (d.data.toList.take k)) wr∧Zb w.heap.size w wr) (fun i _=>d.size+1-(intOf i).toNat)
 case atStart=>exact⟨0,false,by omega,rfl,⟨fun _=>rfl,fun _ j hj=>absurd hj (by omega)⟩,(Below.heap_alloc _ _ _ (by simp)).trans (Zh w _),by simpa [Lib.byteCells]using hB0.out,by repeat(first | exact Zf _ _ | refine Below.alloc ?_ (by simp;try omega) _)⟩
 case round =>
  obtain⟨k,sh,hk,rfl,HS,hbk,hBd,hbr⟩:=hrel
  clear hB0
  have c0:wr.cell? ⟨w.heap.size,0,none⟩=some (.bool cmp):=by simp [World.cell?,hbk]
  have c1:wr.cell? ⟨w.heap.size,1,none⟩=some (.bool sh):=by simp [World.cell?,hbk]
  have f1:wr.frozen? ⟨w.heap.size,1,none⟩=false:=by simp [World.frozen?,hbk]
  have hlt:=heap_lt hbk
  have HBK:=O hbk
  clear hbk
  have ha:=fun w=>lane_at d k w hd4 (by omega)
  have hs':=fun w=>lane_at s k w hs (by omega)
  have HA:=O ha
  have HSs:=O hs'
  clear ha hs'
  by_cases hkd:k < d.size
  ·obtain rfl:sh=false:=HS.out.1 hkd
   have hdb:atB d k=48∨atB d k=49∨atB d k=35:=by
    have:=HD.out k hkd
    unfold atB;rw [dif_pos hkd]
    rcases this with h | h | h
    ·left;omega
    ·right;left;omega
    ·right;right;omega
   have hsn:=byte_snoc d k hkd
   have HSN:=O hsn
   clear hsn
   have h35:k+1 < d.size→(atB d k == 35)=false:=by
    intro h
    have:=HD.out k hkd
    unfold atB;rw [dif_pos hkd]
    rcases this with h | h | h
    ·simp;omega
    ·simp;omega
    ·omega
   have H35:=O h35
   clear h35
   by_cases hp:cmp=false∨atB s k=atB d k
   ·have HP:=O hp
    have hid46:(atB d k == 46)=false:=by rcases hdb with h | h | h <;> rw [h] <;> rfl
    generalize hgd:atB d k=dk at *
    generalize hgs:atB s k=sk at *
    have HGD:=O hgd
    have HGS:=O hgs
    clear hgd hgs hp
    go_wp2_with fail
    refine(HA.out _).mono ?_
    rintro e w' ⟨rfl,rfl⟩
    go_wp2_with fail
    refine(HSs.out _).mono ?_
    rintro e w' ⟨rfl,rfl⟩
    go_wp2_with fail
    refine(Step_yes w.heap.size cmp dk sk wr c0 c1 f1 hdb HP.out).mono ?_
    rintro e w' ⟨rfl,rfl⟩
    have hBd2:Bd (w.heap.size+1) (Lib.byteCells (d.data.toList.take k)) (wr.setCell ⟨w.heap.size,1,none⟩ (.bool (dk == 35))):=Bd_far hBd (by simp) _
    have HB2:=O hBd2
    have hsl:(Lib.byteCells (d.data.toList.take k)).length≤100000:=by rw [Lib.byteCells_length];simp;omega
    have HSL:=O hsl
    have hbk2:(wr.setCell ⟨w.heap.size,1,none⟩ (.bool (dk == 35))).heap[w.heap.size]?=some (.cells #[.bool cmp,.bool (dk == 35)] 291 (0,0)):=by
     simp [World.setCell,Array.getElem?_modify,HBK.out]
    have HBK2:=O hbk2
    have hbr2:=hbr.setCell (p:=⟨w.heap.size,1,none⟩) (Zr _) (.bool (dk == 35))
    clear hBd hBd2 hbk2 hsl hbr
    go_wp2_with fail
    refine(WriteByte (w.heap.size+1) (Lib.byteCells (d.data.toList.take k)) dk _ HB2.out HSL.out).mono ?_
    rintro e w2 ⟨rfl,hBd3,hb3⟩
    have hbk3:w2.heap[w.heap.size]?=some (.cells #[.bool cmp,.bool (dk == 35)] 291 (0,0)):=(hb3.block _ (by omega)).trans HBK2.out
    have HBK3:=O hbk3
    clear hbk3
    go_wp2
    go_roundw
    case rel=>exact⟨k+1,dk == 35,by omega,by go_num,⟨fun h=>H35.out h,fun hc j hj=>by
     by_cases hjk:j=k
     ·subst hjk;rw [HGS.out,HGD.out];rcases HP.out with h | h
      ·rw [h]at hc;cases hc
      ·exact h
     ·exact HS.out.2 hc j (by omega)⟩,HBK3.out,by rw [HSN.out];exact hBd3,hbr2.trans (hb3.mono (by omega))⟩
    case measure=>simp [intOf];omega
   ·have hp1:cmp=true:=by cases cmp;exact absurd (Or.inl rfl) hp;rfl
    subst hp1
    have hp2:atB s k≠atB d k:=fun h=>hp (Or.inr h)
    have hp3:(atB s k == atB d k)=false:=beq_eq_false_iff_ne.mpr hp2
    have HP2:=O hp2
    have HSt:=O (Step_no w.heap.size (atB d k) (atB s k) false wr c1 f1 (passes_differ w.heap.size (atB d k) (atB s k) wr c0 c1 hdb hp3))
    clear hp hp2 hp3
    go_wp2_with fail
    refine(HA.out _).mono ?_
    rintro e w' ⟨rfl,rfl⟩
    go_wp2_with fail
    refine(HSs.out _).mono ?_
    rintro e w' ⟨rfl,rfl⟩
    go_wp2_with fail
    refine HSt.out.mono ?_
    rintro e w' ⟨rfl,rfl⟩
    have hBd2:Bd (w.heap.size+1) (Lib.byteCells (d.data.toList.take k)) (wr.setCell ⟨w.heap.size,1,none⟩ (.bool true)):=Bd_far hBd (by simp) _
    have HB2:=O hBd2
    have hbr2:=hbr.setCell (p:=⟨w.heap.size,1,none⟩) (Zr _) (.bool true)
    clear hBd hBd2 hbr
    go_wp2_with fail
    refine(String (w.heap.size+1) (d.data.toList.take k) _ HB2.out (by simp;omega)).mono ?_
    rintro e w2 ⟨rfl,hb3⟩
    go_wp2
    go_ret
    exact⟨k,⟨hk,fun hc=>HS.out.2 (by first | exact hc | trivial),fun _=>⟨rfl,HP2.out⟩⟩,rfl,hbr2.trans (hb3.mono (by omega))⟩
  ·have hd46:atB d k=46:=by unfold atB;rw [dif_neg hkd]
   have HD46:=O hd46
   clear hd46
   have HSt:=O (Step_no w.heap.size 46 (atB s k) sh wr c1 f1 (passes_idle w.heap.size cmp sh (atB s k) wr c0 c1))
   go_wp2_with fail
   refine(HA.out _).mono ?_
   rintro e w' ⟨rfl,rfl⟩
   go_wp2_with fail
   refine(HSs.out _).mono ?_
   rintro e w' ⟨rfl,rfl⟩
   go_wp2_with fail
   rw [HD46.out]
   refine HSt.out.mono ?_
   rintro e w' ⟨rfl,rfl⟩
   have hBd2:Bd (w.heap.size+1) (Lib.byteCells (d.data.toList.take k)) (wr.setCell ⟨w.heap.size,1,none⟩ (.bool true)):=Bd_far hBd (by simp) _
   have HB2:=O hBd2
   have hbr2:=hbr.setCell (p:=⟨w.heap.size,1,none⟩) (Zr _) (.bool true)
   clear hBd hBd2 hbr
   go_wp2_with fail
   refine(String (w.heap.size+1) (d.data.toList.take k) _ HB2.out (by simp;omega)).mono ?_
   rintro e w2 ⟨rfl,hb3⟩
   go_wp2
   go_ret
   exact⟨k,⟨hk,fun hc=>HS.out.2 hc,fun h=>absurd h hkd⟩,rfl,hbr2.trans (hb3.mono (by omega))⟩
end A12
namespace A13
open Go.RowKit A1 A3 A6
def Stays (FW:Zw→Prop):Prop:=(∀ w w',FW w→Zb w.heap.size w w'→FW w')
structure EmitIs (FW:Zw→Prop) (N Pi Er G Fi:Int) (PA:Option Addr) (PL PC:Nat) (Kind At From To:Int) (CA:Option Addr) (CL CC:Nat) (VA:Option Addr) (VL VC:Nat) (round slot:Int) (E:Int→Int→ByteArray→ByteArray):Prop where
 stays:Stays FW
 strm:∀ a b s,0≤a→a < N→0≤b→b < N→Strm s→Strm (E a b s)
 calls:∀ a b s w,0≤a→a < N→0≤b→b < N→Strm s→FW w →
  Zc Zp 173 #[.agg #[Z Y N,Z Y Pi,Z Y Er,Z Y G,Z Y Fi,.slice PA PL PC],.agg #[Z Y Kind,Z Y At,Z Y From,Z Y To,.slice CA CL CC,.slice VA VL VC],Z Y round,Z Y slot,Z Y a,Z Y b,.string s] w fun e w'=>e=.returned (.string (E a b s))∧Zb w.heap.size w w'
structure Sd where
 d:ByteArray
 s:ByteArray
 o:ByteArray
 far:Int
structure WaveAt (w:Zw) (W:Nat) (N Pi Er G Fi:Int) (PA:Option Addr) (PL PC:Nat) (Kind At From To:Int) (CA:Option Addr) (CL CC:Nat) (VA:Option Addr) (VL VC:Nat) (round slot dir:Int) (TA:Option Addr) (TL TC:Nat) (UA:Option Addr) (UL UC:Nat) (SB DB n:Nat):Prop where
 c0:w.cell? ⟨W,0,none⟩=some (Z Y N)
 c1:w.cell? ⟨W,1,none⟩=some (Z Y Pi)
 c2:w.cell? ⟨W,2,none⟩=some (Z Y Er)
 c3:w.cell? ⟨W,3,none⟩=some (Z Y G)
 c4:w.cell? ⟨W,4,none⟩=some (Z Y Fi)
 c5:w.cell? ⟨W,5,none⟩=some (.slice PA PL PC)
 c6:w.cell? ⟨W,6,none⟩=some (Z Y Kind)
 c7:w.cell? ⟨W,7,none⟩=some (Z Y At)
 c8:w.cell? ⟨W,8,none⟩=some (Z Y From)
 c9:w.cell? ⟨W,9,none⟩=some (Z Y To)
 c10:w.cell? ⟨W,10,none⟩=some (.slice CA CL CC)
 c11:w.cell? ⟨W,11,none⟩=some (.slice VA VL VC)
 c12:w.cell? ⟨W,12,none⟩=some (Z Y round)
 c13:w.cell? ⟨W,13,none⟩=some (Z Y slot)
 c14:w.cell? ⟨W,14,none⟩=some (Z Y dir)
 c15:w.cell? ⟨W,15,none⟩=some (.slice TA TL TC)
 c16:w.cell? ⟨W,16,none⟩=some (.slice UA UL UC)
 c17:w.cell? ⟨W,17,none⟩=some (.slice (some ⟨SB,0,none⟩) n n)
 c18:w.cell? ⟨W,18,none⟩=some (.slice (some ⟨DB,0,none⟩) n n)
 lt:W < w.heap.size
 sl:SB < w.heap.size
 dl:DB < w.heap.size
structure SidesAt (w:Zw) (SB DB n:Nat) (f:Nat→Sd) (g:Nat→Bool):Prop where
 d:∀ i,i < n→w.cell? ⟨SB,i*4,none⟩=some (.string (f i).d)
 s:∀ i,i < n→w.cell? ⟨SB,i*4+1,none⟩=some (.string (f i).s)
 o:∀ i,i < n→w.cell? ⟨SB,i*4+2,none⟩=some (.string (f i).o)
 far:∀ i,i < n→w.cell? ⟨SB,i*4+3,none⟩=some (Z Y (f i).far)
 g:∀ i,i < n→w.cell? ⟨DB,i,none⟩=some (.bool (g i))
def comeF (E:Int→Int→ByteArray→ByteArray) (N dir:Int) (f:Nat→Sd) (g:Nat→Bool) (node back:Int):ByteArray :=
 if g ((node + -dir*back)%N).toNat then E ((node + -dir*back)%N) node (f ((node + -dir*back)%N).toNat).o else⟨#[]⟩
theorem come (FW:Zw→Prop) (N Pi Er G Fi:Int) (PA:Option Addr) (PL PC:Nat) (Kind At From To:Int) (CA:Option Addr) (CL CC:Nat) (VA:Option Addr) (VL VC:Nat) (round slot dir:Int) (TA:Option Addr) (TL TC:Nat) (UA:Option Addr) (UL UC:Nat) (SB DB n W:Nat) (E:Int→Int→ByteArray→ByteArray) (f:Nat→Sd) (g:Nat→Bool) (node back:Int) (w:Zw)
 (hE:EmitIs FW N Pi Er G Fi PA PL PC Kind At From To CA CL CC VA VL VC round slot E) (hFW:FW w) (hn:(n:Int)=N) (hN:6≤N) (hN2:N≤7)
 (hW:WaveAt w W N Pi Er G Fi PA PL PC Kind At From To CA CL CC VA VL VC round slot dir TA TL TC UA UL UC SB DB n) (hS:SidesAt w SB DB n f g)
 (hdir:dir=1∨dir = -1) (hback:back=1∨back=2) (h0:0≤node) (h1:node < N) (hf:∀ i,i < n→Strm (f i).o) :
 Zc Zp 150 #[.pointer (some ⟨W,0,none⟩),Z Y node,Z Y back] w fun e w'=>e=.returned (.string (comeF E N dir f g node back))∧Zb w.heap.size w w':=by
 have q0:0≤(node + -dir*back)%N:=Int.emod_nonneg _ (by omega)
 have q1:(node + -dir*back)%N < N:=Int.emod_lt_of_pos _ (by omega)
 obtain⟨m,hm⟩:∃ m:Nat,(node + -dir*back)%N=m:=⟨_,(Int.toNat_of_nonneg q0).symm⟩
 have hmn:m < n:=by omega
 have HA:=O (fun w=>at_quiet N node (-dir*back) w hN (by omega) (by omega) (by omega) (by rcases hdir with rfl | rfl <;> rcases hback with rfl | rfl <;> decide) (by rcases hdir with rfl | rfl <;> rcases hback with rfl | rfl <;> decide))
 rw [hm]at HA
 have hcf:comeF E N dir f g node back=if g m then E m node (f m).o else⟨#[]⟩:=by unfold comeF;rw [hm];simp
 rw [hcf]
 have ho:=hS.o m hmn
 have hg:=hS.g m hmn
 have hst:=hf m hmn
 have hm0:(0:Int)≤(m:Int):=by omega
 have hm1:(m:Int) < (n:Int):=by omega
 have hW':=hW
 obtain⟨c0,c1,c2,c3,c4,c5,c6,c7,c8,c9,c10,c11,c12,c13,c14,c15,c16,c17,c18,l0,l1,l2⟩:=hW'
 have HN:=O hn
 have HEm:=O (hE.strm m node (f m).o (by omega) (by omega) h0 h1 hst)
 have HE:=O (fun w' (h:FW w')=>hE.calls m node (f m).o w' (by omega) (by omega) h0 h1 hst h)
 have HST:=O hE.stays
 have HFW:=O hFW
 clear hm hcf hf hst hS hn hE hFW q0 q1
 generalize hgo:(f m).o=so at *
 generalize hgm:g m=gm at *
 clear hgo hgm
 cases gm
 ·rcases hdir with rfl | rfl <;> rcases hback with rfl | rfl
  all_goals
   go_enter Tryz.func150,Tryz.ntmps150
   go_wp2
   go_quiet ((go_at_call 149;exact Calls.quiet_of_same (HA.out _)))
   go_wp2
   go_ret
   exact⟨rfl,by repeat(first | exact Zf _ _ | refine Below.drew ?_ | refine below_drewN ?_ _)⟩
 ·rcases hdir with rfl | rfl <;> rcases hback with rfl | rfl
  all_goals
   go_enter Tryz.func150,Tryz.ntmps150
   go_wp2
   go_quiet ((go_at_call 149;exact Calls.quiet_of_same (HA.out _)))
   go_wp2
   go_region_held3 (fun w'=>w'.cell? ⟨W,0,none⟩=some (Z Y N)∧w'.cell? ⟨W,1,none⟩=some (Z Y Pi)∧w'.cell? ⟨W,2,none⟩=some (Z Y Er)∧w'.cell? ⟨W,3,none⟩=some (Z Y G)∧w'.cell? ⟨W,4,none⟩=some (Z Y Fi)∧w'.cell? ⟨W,5,none⟩=some (.slice PA PL PC)∧w'.cell? ⟨W,6,none⟩=some (Z Y Kind)∧w'.cell? ⟨W,7,none⟩=some (Z Y At)∧w'.cell? ⟨W,8,none⟩=some (Z Y From)∧w'.cell? ⟨W,9,none⟩=some (Z Y To)∧w'.cell? ⟨W,10,none⟩=some (.slice CA CL CC)∧w'.cell? ⟨W,11,none⟩=some (.slice VA VL VC)∧w'.cell? ⟨W,12,none⟩=some (Z Y round)∧w'.cell? ⟨W,13,none⟩=some (Z Y slot)∧w'.cell? ⟨W,17,none⟩=some (.slice (some ⟨SB,0,none⟩) n n)∧w'.cell? ⟨SB,m*4+2,none⟩=some (.string so)) (first | go_keep | (go_split_ands;(repeat' apply And.intro) <;> (first | exact(hb3.cell (by first | omega | (simp;omega))).trans (by assumption) | exact(hb2.cell (by first | omega | (simp;omega))).trans (by assumption) | exact(hb1.cell (by first | omega | (simp;omega))).trans (by assumption))))
    (first
     | (go_at_call 173;refine(HE.out _ (HST.out _ _ HFW.out (by repeat(first | exact Zf _ _ | refine Below.drew ?_ | refine below_drewN ?_ _)))).mono ?_;rintro e w1 ⟨rfl,hb1⟩;have hz1:w.heap.size≤w1.heap.size:=hb1.size)
     | (go_at_call 172;refine(sym_Clean _ _ HEm.out).mono ?_;rintro e w2 ⟨rfl,hb2⟩))
   go_wp2
   go_ret
   exact⟨rfl,(Below.trans (by repeat(first | exact Zf _ _ | refine Below.drew ?_ | refine below_drewN ?_ _)) hb1).trans (hb2.mono hb1.size)⟩
end A13
end Go.Proofs.YtdbempiompiioaaGreat
