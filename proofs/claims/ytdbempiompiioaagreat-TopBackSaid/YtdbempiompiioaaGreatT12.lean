/- The nodes in memory, whole; what one does with them. A slot going round, as the network has it: what Conditions: the bounds stated in each theorem. -/
import Derived.Test.YtdbempiompiioaaGreatT11
set_option linter.unusedVariables false
set_option linter.unusedSimpArgs false
set_option maxRecDepth 100000
set_option maxHeartbeats 80000000
open Go.Value renaming int → Z
open Go.IntKind renaming i64 → Y
open Go renaming World → Zw, Calls → Zc, heap_alloc_new → Zh
open Go.RowKit renaming Below → Zb
open Go.Proofs.Tryz renaming prog → Zp
open Go.Lib renaming hid → O
open Go.World renaming block_lt_of_cell? → Zl, cell?_setCell_other → Zo
open Nat renaming le_refl → Zr
open Go.RowKit.Below renaming refl → Zf
namespace Go.Proofs.YtdbempiompiioaaGreat
namespace A51
open Go.RowKit A6 A8 A8b A14 A17 A18 A19 A22 A24 A25 A41 A42 A43 E2 A44 A45 A46 A47
structure Nm where
 Q:Nat→Nat
 QC:Nat→Nat
 gv:Nat→Value
structure Sep (c:NC) (NB LO ND:Nat) (m:Nm):Prop where
 nn:NB≠ND
 ln:LO≤NB
 ld:LO≤ND
 lq:∀ i,i < c.N→LO≤m.Q i
 qn:∀ i,i < c.N→m.Q i≠NB
 qd:∀ i,i < c.N→m.Q i≠ND
 qq:∀ i j,i < c.N→j < c.N→m.Q i=m.Q j→i=j
 gq:∀ i j b C,i < c.N→j < c.N→m.gv i=.slice (some ⟨b,0,none⟩) (c.N+c.ps.length) C→b≠m.Q j
structure NdOk (w:Zw) (c:NC) (NB LO ND round:Nat) (m:Nm) (st:Nat→Nat) (ck:Nat→Int) (q:Nat→Nat→Option Nat) (g:Nat→Option (List (Nat×Nat))):Prop where
 nb:NbK w NB c
 lo:LowK w LO c
 r:w.cell? ⟨NB,17,none⟩=some (Z Y round)
 n:w.cell? ⟨NB,18,none⟩=some (.slice (some ⟨ND,0,none⟩) c.N c.N)
 cs:∀ i,i < c.N→w.cell? ⟨ND,i*7,none⟩=some (Z Y (st i))
 cc:∀ i,i < c.N→w.cell? ⟨ND,i*7+3,none⟩=some (Z Y (ck i))
 cq:∀ i,i < c.N→w.cell? ⟨ND,i*7+4,none⟩=some (.slice (some ⟨m.Q i,0,none⟩) (c.N+c.ps.length) (m.QC i))
 cg:∀ i,i < c.N→w.cell? ⟨ND,i*7+5,none⟩=some (m.gv i)
 ga:∀ i,i < c.N→GotAt w (m.gv i) (c.N+c.ps.length) (g i)
 qa:∀ i,i < c.N→QAt w (m.Q i) (c.N+c.ps.length) (q i)
theorem gotAt_but {w w1:Zw} {v:Value} {S:Nat} {g:Option (List (Nat×Nat))} {T:Nat→Prop} (h:GotAt w v S g) (hb:But T w w1) (hT:∀ b C,v=.slice (some ⟨b,0,none⟩) S C→¬ T b):GotAt w1 v S g:=by
 cases g with
 | none=>exact h
 | some l =>
  obtain⟨hl,b,C,hv,hlt,hI⟩:=h
  exact⟨hl,b,C,hv,Nat.lt_of_lt_of_le hlt hb.size,items_but hI hb (fun b' off e _=>by injection e with e;injection e with e _;subst e;exact hT b C hv)⟩
theorem NdOk.but {w w1:Zw} {c:NC} {NB LO ND round:Nat} {m:Nm} {st:Nat→Nat} {ck:Nat→Int} {q q':Nat→Nat→Option Nat} {g:Nat→Option (List (Nat×Nat))} (h:NdOk w c NB LO ND round m st ck q g) (hs:Sep c NB LO ND m)
 (hb:But (fun b=>∃ i,i < c.N∧b=m.Q i) w w1) (hq:∀ i,i < c.N→QAt w1 (m.Q i) (c.N+c.ps.length) (q' i)):NdOk w1 c NB LO ND round m st ck q' g:=by
 have lNB:=Zl w _ h.r
 have nNB:¬ ∃ i,i < c.N∧NB=m.Q i:=fun⟨i,hi,e⟩=>hs.qn i hi e.symm
 have nND:¬ ∃ i,i < c.N∧ND=m.Q i:=fun⟨i,hi,e⟩=>hs.qd i hi e.symm
 have kN:∀ o,w1.cell? ⟨NB,o,none⟩=w.cell? ⟨NB,o,none⟩:=fun o=>hb.cell (p:=⟨NB,o,none⟩) lNB nNB
 have kD:∀ o v,w.cell? ⟨ND,o,none⟩=some v→w1.cell? ⟨ND,o,none⟩=some v:=fun o v hv=>(hb.cell (p:=⟨ND,o,none⟩) (Zl w _ hv) nND).trans hv
 refine⟨h.nb.keep (hb.block NB lNB nNB),h.lo.below (hb.to_below h.lo.le (fun k ⟨i,hi,e⟩=>by rw [e];exact hs.lq i hi)),(kN _).trans h.r,(kN _).trans h.n,fun i hi=>kD _ _ (h.cs i hi),fun i hi=>kD _ _ (h.cc i hi),fun i hi=>kD _ _ (h.cq i hi),fun i hi=>kD _ _ (h.cg i hi),fun i hi=>gotAt_but (h.ga i hi) hb (fun b C e ⟨j,hj,e2⟩=>hs.gq i j b C hi hj e e2),hq⟩
theorem NdOk.below {w w1:Zw} {c:NC} {NB LO ND round:Nat} {m:Nm} {st:Nat→Nat} {ck:Nat→Int} {q:Nat→Nat→Option Nat} {g:Nat→Option (List (Nat×Nat))} (h:NdOk w c NB LO ND round m st ck q g) (hs:Sep c NB LO ND m) (hb:Zb w.heap.size w w1):NdOk w1 c NB LO ND round m st ck q g :=
 h.but hs (But.of_below hb (Zr _)) (fun i hi=>(h.qa i hi).below hb)
theorem NdOk.frame {w:Zw} {c:NC} {NB LO ND round:Nat} {m:Nm} {st:Nat→Nat} {ck:Nat→Int} {q:Nat→Nat→Option Nat} {g:Nat→Option (List (Nat×Nat))} (h:NdOk w c NB LO ND round m st ck q g) (hs:Sep c NB LO ND m) (hc:NOk c) {i slot:Nat} (hi:i < c.N) (hsl:slot < c.N+c.ps.length) (h4:st i≤4) (hrb:round≤900) :
 Zc Zp 59 #[.pointer (some ⟨NB,0,none⟩),Z Y i,Z Y slot] w (FramePost (frameF c.N (c.N+c.ps.length) ((c.Fi+round)%65536).toNat slot (st i) (q i slot) (g i)) (m.Q i) (c.N+c.ps.length) (if st i=4 then took (q i) slot else q i) w) :=
 net_frame c NB ND (m.Q i) (m.QC i) round i slot (st i) (q i) (g i) (m.gv i) w hc h.nb h.r h.n (h.cs i hi) (h.cq i hi) (h.cg i hi) (h.ga i hi) (h.qa i hi) h4 hrb hi hsl (hs.qn i hi) (hs.qd i hi) (fun b C e=>hs.gq i i b C hi hi e)
theorem NdOk.own {w:Zw} {c:NC} {NB LO ND round:Nat} {m:Nm} {st:Nat→Nat} {ck:Nat→Int} {q:Nat→Nat→Option Nat} {g:Nat→Option (List (Nat×Nat))} (h:NdOk w c NB LO ND round m st ck q g) (hc:NOk c) {slot:Nat} (hsl:slot < c.N+c.ps.length) :
 Zc Zp 58 #[.agg #[Z Y c.N,Z Y c.Pi,Z Y c.Er,Z Y c.G,Z Y c.Fi,.slice c.PA c.ps.length c.PC],Z Y slot] w (RetInts2 w (owners c.N c.ps slot)) :=
 Owners2 c.N c.Pi c.Er c.G c.Fi c.PA c.ps c.PC slot w hc.cf h.lo.ps (by omega) (by omega)
theorem NdOk.states {w:Zw} {c:NC} {NB LO ND round:Nat} {m:Nm} {st:Nat→Nat} {ck:Nat→Int} {q:Nat→Nat→Option Nat} {g:Nat→Option (List (Nat×Nat))} (h:NdOk w c NB LO ND round m st ck q g) (hc:NOk c) {BX:Nat} (hb:w.cell? ⟨BX,0,none⟩=some (.pointer (some ⟨NB,0,none⟩))) :
 Zc Zp 61 #[.pointer (some ⟨NB,0,none⟩),.func (.func 62) #[] #[.pointer (some ⟨BX,0,none⟩)]] w (RetRow c.N (fun i=>(st i:Int)) w) :=
 each_state NB ND c.N BX _ w (by have:=hc.cf.n1;omega) h.n (fun i w' hi hb'=>(run_state BX NB ND c.N i st w' (keep_of hb (Zl w _ hb) hb') (keep_of h.n (Zl w _ h.n) hb') hi (fun j hj=>keep_of (h.cs j hj) (Zl w _ (h.cs j hj)) hb')).mono (fun e w2 ⟨h1,h2⟩=>⟨h1,h2 ▸ Zf _ _⟩))
theorem NdOk.side {w:Zw} {c:NC} {NB LO ND round:Nat} {m:Nm} {st:Nat→Nat} {ck:Nat→Int} {q:Nat→Nat→Option Nat} {g:Nat→Option (List (Nat×Nat))} (h:NdOk w c NB LO ND round m st ck q g) (hc:NOk c) {BX BS BN BT TB:Nat} {SA:Option Addr} {SC:Nat} {sends:List ByteArray} {slot:Nat} {dir:Int} {last:Nat}
 (hbx:w.cell? ⟨BX,0,none⟩=some (.pointer (some ⟨NB,0,none⟩))) (hbs:w.cell? ⟨BS,0,none⟩=some (Z Y slot)) (hbn:w.cell? ⟨BN,0,none⟩=some (.slice SA (owners c.N c.ps slot).length SC)) (hbt:w.cell? ⟨BT,0,none⟩=some (.slice (some ⟨TB,0,none⟩) c.N c.N))
 (hrb:round≤900) (hla:last < c.N) (hbd:∀ i,i < c.N → -1000000≤ck i∧ck i≤1000000) (h1:slot < c.N+c.ps.length) (hdir:dir=1∨dir = -1) (hne:owners c.N c.ps slot≠[])
 (hlen:sends.length=(owners c.N c.ps slot).length) (hS:Strs w SA sends) (hstr:∀ k,Strm (sends.getD k ⟨#[]⟩)) (hT:∀ i,i < c.N→w.cell? ⟨TB,i,none⟩=some (Z Y (st i))) (hTl:TB < w.heap.size) :
 Zc Zp 63 #[Z Y dir,Z Y last,.pointer (some ⟨BX,0,none⟩),.pointer (some ⟨BS,0,none⟩),.pointer (some ⟨BN,0,none⟩),.pointer (some ⟨BT,0,none⟩)] w (RunPost c.N (dirF c round st ck slot sends dir last) w) :=
 run_side c BX BS BN BT NB LO ND TB SA SC sends round slot dir last st ck w hc h.nb h.lo hbx hbs hbn hbt h.r h.n h.cc hrb hla hbd h1 hdir (by
  have n0:=hc.cf.n0
  rcases owners_cases hc h1 with⟨hs,e⟩ | ⟨_,e⟩ | ⟨_,x,hx,e⟩
  ·exact .inl ⟨_,e,by omega,by omega⟩
  ·exact absurd e hne
  ·exact .inr ⟨_,_,e,by omega,by omega,Int.emod_nonneg _ (by omega),Int.emod_lt_of_pos _ (by omega)⟩) hlen hS hstr hT hTl
def tkF (ow:List Int) (st:Nat→Nat) (fo:Nat→Option Fr) (i:Nat):Option Fr:=if ow.contains (i:Int)∨st i=0 then none else fo i
def qF (ow:List Int) (st:Nat→Nat) (q:Nat→Nat→Option Nat) (slot:Nat) (i:Nat):Nat→Option Nat:=if ow.contains (i:Int)=true∧st i=4 then took (q i) slot else q i
def RunSlot (c:NC) (m:Nm) (ow:List Int) (st:Nat→Nat) (q:Nat→Nat→Option Nat) (slot:Nat) (fo:Nat→Option Fr) (w:Zw) (e:Ending) (w':Zw):Prop :=
 ∃ A0 L0 C0 A1 L1 C1 A2 L2 C2 TB,e=.returned (.agg #[.slice A0 L0 C0,.slice A1 L1 C1,.slice A2 L2 C2,.slice (some ⟨TB,0,none⟩) c.N c.N])∧RowMem w' w.heap.size TB c.N (tkF ow st fo) ∧
  But (fun b=>∃ i,i < c.N∧b=m.Q i) w w'∧∀ i,i < c.N→QAt w' (m.Q i) (c.N+c.ps.length) (qF ow st q slot i)
def soF:Option Fr→ByteArray
 | none=>⟨#[]⟩
 | some f=>textB f
theorem FrOk.low {N PL:Nat} {f:Fr} (h:FrOk N PL f) (hN:N≤12) (hP:PL≤3):FrLow f:=by
 have hp:=h.pay
 have hs:=h.slot
 have hl:=h.len
 refine⟨by have:=h.k3;omega,by have:=h.round;omega,by omega,?_,?_,?_,fun k hk=>?_⟩
 ·rcases hp with⟨h1,h2⟩ | ⟨h1,h2⟩ | ⟨h1,h2⟩ <;> (simp only at h1 h2;omega)
 ·rcases hp with⟨h1,h2⟩ | ⟨h1,h2⟩ | ⟨h1,h2⟩ <;> (simp only at h1 h2;omega)
 ·rw [hl];split <;> omega
 ·have he:=h.each k hk
  rcases he with⟨h1,h2⟩ | ⟨h1,h2⟩ | ⟨h1,h2⟩ <;> omega
theorem text_strm {N PL:Nat} {f:Fr} (h:FrOk N PL f) (hN:N≤12) (hP:PL≤3):Strm (textB f):=by
 refine wrap_strm (body_all f) ?_
 unfold bodyL
 rw [List.length_append,headL_length,echoL_length,h.len]
 split <;> omega
theorem so_strm {N PL:Nat} {o:Option Fr} (h:∀ f,o=some f→FrOk N PL f) (hN:N≤12) (hP:PL≤3):Strm (soF o):=by
 cases o with
 | none=>exact Strm.empty
 | some f=>exact text_strm (h f rfl) hN hP
def ownF (c:NC) (round slot:Nat) (st:Nat→Nat) (q:Nat→Nat→Option Nat) (g:Nat→Option (List (Nat×Nat))) (i:Nat):Option Fr:=frameF c.N (c.N+c.ps.length) ((c.Fi+round)%65536).toNat slot (st i) (q i slot) (g i)
def sndF (c:NC) (round slot:Nat) (st:Nat→Nat) (q:Nat→Nat→Option Nat) (g:Nat→Option (List (Nat×Nat))):List ByteArray:=(owners c.N c.ps slot).map (fun x=>soF (ownF c round slot st q g x.toNat))
noncomputable def upF (c:NC) (round slot:Nat) (st:Nat→Nat) (ck:Nat→Int) (q:Nat→Nat→Option Nat) (g:Nat→Option (List (Nat×Nat))):Wv:=dirF c round st ck slot (sndF c round slot st q g) 1 ((owners c.N c.ps slot).getD ((owners c.N c.ps slot).length-1) 0).toNat
noncomputable def dnF (c:NC) (round slot:Nat) (st:Nat→Nat) (ck:Nat→Int) (q:Nat→Nat→Option Nat) (g:Nat→Option (List (Nat×Nat))):Wv:=dirF c round st ck slot (sndF c round slot st q g) (-1) ((owners c.N c.ps slot).getD 0 0).toNat
noncomputable def tkP (c:NC) (round slot:Nat) (st:Nat→Nat) (ck:Nat→Int) (q:Nat→Nat→Option Nat) (g:Nat→Option (List (Nat×Nat))) (i:Nat):Option Fr :=
 if owners c.N c.ps slot=[]then none else pickG c.N c.ps.length ((c.Fi+round)%65536) slot ((upF c round slot st ck q g).f i) ((dnF c round slot st ck q g).f i)
end A51
namespace A52
open Go.RowKit A4 A6 A8 A11 A13 A14 A18 A19 A22 A25 A35 A41 A43 A44 A45 A46 A47 A48 E5 A51
theorem info9:(Tryz.prog.info? 9).map (fun i=>(i.zero,i.size,i.bytes))=some (some (.string ⟨#[]⟩),1,16):=by kernel_rfl
theorem info130:(Tryz.prog.info? 130).map (fun i=>(i.zero,i.size,i.bytes))=some (some (.pointer none),1,8):=by kernel_rfl
theorem mk80 (n:Nat) (hn:n≤100) (w:Zw):(Instr.makeSlice 80 (Z Y (n:Int)) (Z Y (n:Int))).run Zp w=.ok (.slice (some ⟨w.heap.size,0,none⟩) n n) (w.alloc (.cells (madeCells #[.string ⟨#[]⟩] n) 9)):=by
 obtain⟨i,hi,hz,hs,hb⟩:=info_parts info9
 have:=run_make_n (P:=Zp) 80 9 i _ Tryz.underlying80 hi hz n hn (by omega) w
 rw [hs,Nat.mul_one]at this
 exact this
theorem mk82 (n:Nat) (hn:n≤100) (w:Zw):(Instr.makeSlice 82 (Z Y (n:Int)) (Z Y (n:Int))).run Zp w=.ok (.slice (some ⟨w.heap.size,0,none⟩) n n) (w.alloc (.cells (madeCells #[.pointer none] n) 130)):=by
 obtain⟨i,hi,hz,hs,hb⟩:=info_parts info130
 have:=run_make_n (P:=Zp) 82 130 i _ Tryz.underlying82 hi hz n hn (by omega) w
 rw [hs,Nat.mul_one]at this
 exact this
abbrev xCells (SB:Nat) (u1 u2:Value) (TB n:Nat):Obj :=.cells #[.slice (some ⟨SB,0,none⟩) n n,u1,u2,.slice (some ⟨TB,0,none⟩) n n] 84 (0,0)
def XMade (w:Zw) (n:Nat) (v:Value) (wx:Zw):Prop:=∃ XB SB TB,v=.pointer (some ⟨XB,0,none⟩)∧wx.heap[XB]?=some (xCells SB (.slice none 0 0) (.slice none 0 0) TB n)∧wx.heap[SB]?=some (.cells (madeCells #[.string ⟨#[]⟩] n) 9 (0,0))∧wx.heap[TB]?=some (.cells (madeCells #[.pointer none] n) 130 (0,0)) ∧
 w.heap.size≤XB∧w.heap.size≤SB∧w.heap.size≤TB∧XB≠SB∧XB≠TB∧SB≠TB∧Zb w.heap.size w wx
theorem ints_but2 {w w1:Zw} {A:Option Addr} {l:List Int} {T:Nat→Prop} (h:Ints w A l) (hb:But T w w1) (hA:∀ b off,A=some ⟨b,off,none⟩→0 < l.length→¬ T b):Ints w1 A l:=fun k hk=>by
 obtain⟨b,off,e,h1,h2⟩:=h k hk
 exact⟨b,off,e,Nat.lt_of_lt_of_le h1 hb.size,(hb.cell (p:=⟨b,_,none⟩) h1 (hA b off e (by omega))).trans h2⟩
structure RunB (w:Zw) (c:NC) (NB slot:Nat) (m:Nm) (qk:Nat→Nat→Option Nat) (fo:List Int) (ow:List Int) (OA:Option Addr) (XB SB TB BB:Nat) (sv:Value) (wr:Zw):Prop where
 but:But (fun b=>∃ i,i < c.N∧b=m.Q i) w wr
 qa:∀ i,i < c.N→QAt wr (m.Q i) (c.N+c.ps.length) (qk i)
 oi:Ints wr OA ow
 b0:wr.heap[w.heap.size]?=some (.cells #[.pointer (some ⟨NB,0,none⟩)] 39 (0,0))
 b1:wr.heap[w.heap.size+1]?=some (.cells #[Z Y slot] 3 (0,0))
 b2:wr.heap[w.heap.size+2]?=some (.cells #[.slice none 0 0,.slice none 0 0,.slice none 0 0,.slice none 0 0] 84 (0,0))
 x:wr.heap[XB]?=some (xCells SB (.slice none 0 0) (.slice none 0 0) TB c.N)
 t:wr.heap[TB]?=some (.cells (madeCells #[.pointer none] c.N) 130 (0,0))
 sl:SB < wr.heap.size
 sf:∀ o,wr.frozen? ⟨SB,o,none⟩=false
 se:∀ j,j < c.N→∃ u:ByteArray,wr.cell? ⟨SB,j,none⟩=some (.string u)∧(fo.contains (j:Int)=false→u=⟨#[]⟩)
 bb:wr.heap[BB]?=some (.cells #[sv] 80 (0,0))
structure RunAt (w:Zw) (c:NC) (m:Nm) (OA:Option Addr) (ow:List Int) (XB SB TB BB:Nat):Prop where
 q:∀ i,i < c.N→m.Q i < w.heap.size
 o:∀ b off,OA=some ⟨b,off,none⟩→0 < ow.length→w.heap.size≤b∧b < BB∧b≠SB∧b≠XB∧b≠TB
 x:w.heap.size+2 < XB
 s:w.heap.size+2 < SB
 t:w.heap.size+2 < TB
 xb:XB < BB
 sb:SB < BB
 tb:TB < BB
 xs:XB≠SB
 xt:XB≠TB
 st:SB≠TB
theorem RunB.go {w wr w2:Zw} {c:NC} {NB slot:Nat} {m:Nm} {qk qk':Nat→Nat→Option Nat} {fo:List Int} {ow:List Int} {OA:Option Addr} {XB SB TB BB:Nat} {sv:Value}
 (h:RunB w c NB slot m qk fo ow OA XB SB TB BB sv wr) (ha:RunAt w c m OA ow XB SB TB BB) (hb:But (fun b=>∃ i,i < c.N∧b=m.Q i) wr w2) (hq:∀ i,i < c.N→QAt w2 (m.Q i) (c.N+c.ps.length) (qk' i)):RunB w c NB slot m qk' fo ow OA XB SB TB BB sv w2:=by
 have hn:∀ b,w.heap.size≤b→¬ ∃ i,i < c.N∧b=m.Q i:=fun b hb ⟨i,hi,e⟩=>by have:=ha.q i hi;omega
 have k:∀ b o,w.heap.size≤b→wr.heap[b]?=some o→w2.heap[b]?=some o:=fun b o hle hh=>(hb.block b (heap_lt hh) (hn b hle)).trans hh
 have hx:=ha.x
 have hss:=ha.s
 have htt:=ha.t
 have h1:=ha.xb
 refine⟨h.but.trans hb,hq,ints_but2 h.oi hb (fun b off e hl=>hn b (ha.o b off e hl).1),k _ _ (by omega) h.b0,k _ _ (by omega) h.b1,k _ _ (by omega) h.b2,k _ _ (by omega) h.x,k _ _ (by omega) h.t,Nat.lt_of_lt_of_le h.sl hb.size,fun o=>(hb.frozen (p:=⟨SB,o,none⟩) h.sl (hn SB (by omega))).trans (h.sf o),fun j hj=>?_,k _ _ (by omega) h.bb⟩
 obtain⟨u,h1,h2⟩:=h.se j hj
 exact⟨u,(hb.cell (p:=⟨SB,j,none⟩) h.sl (hn SB (by omega))).trans h1,h2⟩
theorem RunB.more {w wr:Zw} {c:NC} {NB slot:Nat} {m:Nm} {qk:Nat→Nat→Option Nat} {fo fo':List Int} {ow:List Int} {OA:Option Addr} {XB SB TB BB:Nat} {sv:Value} (h:RunB w c NB slot m qk fo ow OA XB SB TB BB sv wr) (hf:∀ x,fo'.contains x=false→fo.contains x=false):RunB w c NB slot m qk fo' ow OA XB SB TB BB sv wr :=
 ⟨h.but,h.qa,h.oi,h.b0,h.b1,h.b2,h.x,h.t,h.sl,h.sf,fun j hj=>(h.se j hj).imp fun u hu=>⟨hu.1,fun e=>hu.2 (hf _ e)⟩,h.bb⟩
theorem RunB.below {w wr w2:Zw} {c:NC} {NB slot:Nat} {m:Nm} {qk:Nat→Nat→Option Nat} {fo:List Int} {ow:List Int} {OA:Option Addr} {XB SB TB BB:Nat} {sv:Value} (h:RunB w c NB slot m qk fo ow OA XB SB TB BB sv wr) (ha:RunAt w c m OA ow XB SB TB BB) (hb:Zb wr.heap.size wr w2):RunB w c NB slot m qk fo ow OA XB SB TB BB sv w2 :=
 h.go ha (But.of_below hb (Zr _)) (fun i hi=>(h.qa i hi).below hb)
theorem ints_set {w:Zw} {A:Option Addr} {l:List Int} {p:Addr} {v:Value} (h:Ints w A l) (hp:∀ b off,A=some ⟨b,off,none⟩→0 < l.length→b≠p.block):Ints (w.setCell p v) A l :=
 ints_but2 h ((But.refl (fun q=>q=p.block) w).setCell (.inl rfl) v) (fun b off e hl e2=>hp b off e hl e2)
theorem RunB.drew {w wr:Zw} {c:NC} {NB slot:Nat} {m:Nm} {qk:Nat→Nat→Option Nat} {fo:List Int} {ow:List Int} {OA:Option Addr} {XB SB TB BB:Nat} {sv:Value} (h:RunB w c NB slot m qk fo ow OA XB SB TB BB sv wr):RunB w c NB slot m qk fo ow OA XB SB TB BB sv wr.drew:=⟨h.but.drew,fun i hi=>(h.qa i hi).keep (Zr _) rfl,h.oi.drew,h.b0,h.b1,h.b2,h.x,h.t,h.sl,h.sf,h.se,h.bb⟩
theorem RunB.sent {w wr:Zw} {c:NC} {NB slot:Nat} {m:Nm} {qk:Nat→Nat→Option Nat} {fo:List Int} {ow:List Int} {OA:Option Addr} {XB SB TB BB:Nat} {sv:Value} (h:RunB w c NB slot m qk fo ow OA XB SB TB BB sv wr) (ha:RunAt w c m OA ow XB SB TB BB) (i:Nat) (u:ByteArray) (hi:i < c.N) (hu:fo.contains (i:Int)=true):RunB w c NB slot m qk fo ow OA XB SB TB BB sv (wr.setCell ⟨SB,i,none⟩ (.string u)):=by
 have hx:=ha.x
 have hss:=ha.s
 have htt:=ha.t
 have h1:=ha.sb
 have k:∀ b,b≠SB→(wr.setCell ⟨SB,i,none⟩ (.string u)).heap[b]?=wr.heap[b]?:=fun b hb=>Below.heap_setCell _ _ _ _ hb
 refine⟨h.but.setCell (.inr (show w.heap.size≤SB by omega)) _,fun j hj=>(h.qa j hj).keep (by simp [World.setCell]) (k _ (by have:=ha.q j hj;omega)),ints_set h.oi (fun b off e hl=>(ha.o b off e hl).2.2.1),(k _ (by omega)).trans h.b0,(k _ (by omega)).trans h.b1,(k _ (by omega)).trans h.b2,(k _ ha.xs).trans h.x,(k _ (Ne.symm ha.st)).trans h.t,by simpa [World.setCell]using h.sl,fun o=>by rw [World.frozen?_setCell];exact h.sf o,fun j hj=>?_,(k _ (by omega)).trans h.bb⟩
 by_cases e:j=i
 ·subst e
  obtain⟨u0,h1,_⟩:=h.se j hj
  exact⟨u,World.cell?_setCell_same _ _ _ h1,fun e=>by rw [hu]at e;cases e⟩
 ·obtain⟨u0,h1,h2⟩:=h.se j hj
  exact⟨u0,set_keep2 h1 e,h2⟩
theorem RunB.far {w wr w2:Zw} {c:NC} {NB slot:Nat} {m:Nm} {qk:Nat→Nat→Option Nat} {fo:List Int} {ow:List Int} {OA:Option Addr} {XB SB TB BB:Nat} {sv:Value} {T:Nat→Prop} (h:RunB w c NB slot m qk fo ow OA XB SB TB BB sv wr) (ha:RunAt w c m OA ow XB SB TB BB) (hb:But T wr w2) (hT:∀ b,T b→BB < b):RunB w c NB slot m qk fo ow OA XB SB TB BB sv w2:=by
 have hx:=ha.x
 have hss:=ha.s
 have htt:=ha.t
 have h1:=ha.sb
 have h2:=ha.xb
 have h3:=ha.tb
 have hn:∀ b,b≤BB→¬ T b:=fun b hb ht=>by have:=hT b ht;omega
 have k:∀ b o,b≤BB→wr.heap[b]?=some o→w2.heap[b]?=some o:=fun b o hle hh=>(hb.block b (heap_lt hh) (hn b hle)).trans hh
 refine⟨⟨hb.os.trans h.but.os,hb.tape.trans h.but.tape,hb.output.trans h.but.output,Nat.le_trans h.but.size hb.size,fun b hlt hnb=>(hb.block b (Nat.lt_of_lt_of_le hlt h.but.size) (hn b (by omega))).trans (h.but.block b hlt hnb)⟩,fun i hi=>(h.qa i hi).but hb (hn _ (by have:=ha.q i hi;omega)),ints_but2 h.oi hb (fun b off e hl=>hn b (by have:=(ha.o b off e hl).2.1;omega)),k _ _ (by omega) h.b0,k _ _ (by omega) h.b1,k _ _ (by omega) h.b2,k _ _ (by omega) h.x,k _ _ (by omega) h.t,Nat.lt_of_lt_of_le h.sl hb.size,fun o=>(hb.frozen (p:=⟨SB,o,none⟩) h.sl (hn SB (by omega))).trans (h.sf o),fun j hj=>?_,k _ _ (Zr _) h.bb⟩
 obtain⟨u,h1,h2⟩:=h.se j hj
 exact⟨u,(hb.cell (p:=⟨SB,j,none⟩) h.sl (hn SB (by omega))).trans h1,h2⟩
theorem RunB.row {w wr:Zw} {c:NC} {NB slot:Nat} {m:Nm} {qk:Nat→Nat→Option Nat} {fo:List Int} {ow:List Int} {OA:Option Addr} {XB SB TB BB:Nat} {sv:Value} (h:RunB w c NB slot m qk fo ow OA XB SB TB BB sv wr) (ha:RunAt w c m OA ow XB SB TB BB) (v:Value):RunB w c NB slot m qk fo ow OA XB SB TB BB v (wr.setCell ⟨BB,0,none⟩ v):=by
 have hx:=ha.x
 have hss:=ha.s
 have htt:=ha.t
 have h1:=ha.sb
 have h2:=ha.xb
 have h3:=ha.tb
 have k:∀ b,b≠BB→(wr.setCell ⟨BB,0,none⟩ v).heap[b]?=wr.heap[b]?:=fun b hb=>Below.heap_setCell _ _ _ _ hb
 refine⟨h.but.setCell (.inr (show w.heap.size≤BB by omega)) _,fun j hj=>(h.qa j hj).keep (by simp [World.setCell]) (k _ (by have:=ha.q j hj;omega)),ints_set h.oi (fun b off e hl=>by have:=(ha.o b off e hl).2.1;show b≠BB;omega),(k _ (by omega)).trans h.b0,(k _ (by omega)).trans h.b1,(k _ (by omega)).trans h.b2,(k _ (by omega)).trans h.x,(k _ (by omega)).trans h.t,by simpa [World.setCell]using h.sl,fun o=>by rw [World.frozen?_setCell];exact h.sf o,fun j hj=>?_,?_⟩
 ·obtain⟨u0,h1,h2⟩:=h.se j hj
  exact⟨u0,set_keep h1 (show SB≠BB by omega),h2⟩
 ·simp [World.setCell,Array.getElem?_modify,h.bb]
theorem own_but {w w1:Zw} {base e size n:Nat} {v:Value} {xs:List Value} {T:Nat→Prop} (h:w.ownsRow base e size v n xs) (hb:But T w w1) (hT:∀ b,base≤b→¬ T b):w1.ownsRow base e size v n xs:=by
 obtain⟨hl,hx⟩:=h
 refine⟨hl,?_⟩
 rcases hx with h0 | ⟨g,cap,cur,rfl,hg,hh,h1,h2,h3,h4⟩
 ·exact .inl h0
 ·exact .inr ⟨g,cap,cur,rfl,hg,(hb.block g (heap_lt hh) (hT g hg)).trans hh,h1,h2,h3,h4⟩
theorem qF_same {l l':List Int} {st:Nat→Nat} {q:Nat→Nat→Option Nat} {slot i j:Nat} (h:l'=l ++ [(i:Int)]) (hj:j≠i):qF l' st q slot j=qF l st q slot j:=by
 unfold qF
 have:l'.contains (j:Int)=l.contains (j:Int):=by
  rw [h,Bool.eq_iff_iff]
  simp
  intro e;omega
 rw [this]
theorem qF_this {l l':List Int} {st:Nat→Nat} {q:Nat→Nat→Option Nat} {slot i:Nat} (h:l'=l ++ [(i:Int)]):qF l' st q slot i=if st i=4 then took (q i) slot else q i:=by
 unfold qF
 have:l'.contains (i:Int)=true:=by rw [h];simp
 rw [this]
 by_cases h4:st i=4 <;> simp [h4]
theorem not_next (x n:Nat) (h:2≤n) (hx:x < n):¬((x:Int)+1)%n=x:=by
 by_cases e:x+1 < n
 ·rw [Int.emod_eq_of_lt (by omega) (by omega)];omega
 ·have:((x:Int)+1)=n:=by omega
  rw [this,Int.emod_self];omega
theorem frMem_mono {w:Zw} {base base' p:Nat} {f:Fr} (h:FrMem w base p f) (hb:base'≤base):FrMem w base' p f:=by
 obtain⟨EA,EC,e1,e2,e3⟩:=h.ex
 exact⟨⟨EA,EC,e1,e2,fun b off e hl=>Nat.le_trans hb (e3 b off e hl)⟩,Nat.le_trans hb h.ge,h.lt,h.c0,h.c1,h.c2,h.c3,h.c4⟩
theorem tkMem_mono {w:Zw} {base base':Nat} {v:Value} {o:Option Fr} (h:TkMem w base v o) (hb:base'≤base):TkMem w base' v o:=by
 cases o with
 | none=>exact h
 | some f=>obtain⟨p,e,hp⟩:=h;exact⟨p,e,frMem_mono hp hb⟩
theorem rowMem_mono {w:Zw} {base base' TB N:Nat} {tk:Nat→Option Fr} (h:RowMem w base TB N tk) (hb:base'≤base):RowMem w base' TB N tk :=
 ⟨Nat.le_trans hb h.ge,h.lt,fun i hi=>by obtain⟨v,h1,h2⟩:=h.each i hi;exact⟨v,h1,tkMem_mono h2 hb⟩⟩
theorem run_end {w W W':Zw} {c:NC} {m:Nm} {ow:List Int} {st:Nat→Nat} {q:Nat→Nat→Option Nat} {slot:Nat} {fo:Nat→Option Fr} {e:Ending} {A0 A1 A2:Option Addr} {L0 C0 L1 C1 L2 C2 TB:Nat} (he:e=.returned (.agg #[.slice A0 L0 C0,.slice A1 L1 C1,.slice A2 L2 C2,.slice (some ⟨TB,0,none⟩) c.N c.N]))
 (hb:But (fun b=>∃ i,i < c.N∧b=m.Q i) w W) (hq:∀ i,i < c.N→QAt W (m.Q i) (c.N+c.ps.length) (qF ow st q slot i)) (hr:RowMem W (w.heap.size+3) TB c.N (tkF ow st fo)) (hlt:∀ i,i < c.N→m.Q i < w.heap.size) (hW:But (fun x=>x=w.heap.size+2) W W'):RunSlot c m ow st q slot fo w e W':=by
 refine⟨A0,L0,C0,A1,L1,C1,A2,L2,C2,TB,he,rowMem_mono (hr.keep hW.size (fun b h1 h2=>hW.block b h2 (by omega))) (by omega),?_,fun i hi=>(hq i hi).but hW (by have:=hlt i hi;omega)⟩
 exact⟨hW.os.trans hb.os,hW.tape.trans hb.tape,hW.output.trans hb.output,Nat.le_trans hb.size hW.size,fun k hk hn=>(hW.block k (Nat.lt_of_lt_of_le hk hb.size) (by omega)).trans (hb.block k hk hn)⟩
def EmptyMade (n XB SB TB:Nat) (wr wx:Zw):Prop:=∃ a b,wx.heap[XB]?=some (xCells SB (.slice (some ⟨a,0,none⟩) n n) (.slice (some ⟨b,0,none⟩) n n) TB n)∧But (fun q=>q=XB) wr wx
theorem empty_made {wr:Zw} {n XB SB TB a b:Nat} {A B:Obj} (h:wr.heap[XB]?=some (xCells SB (.slice none 0 0) (.slice none 0 0) TB n)) :
 EmptyMade n XB SB TB wr ((((wr.setCell ⟨XB,1,none⟩ (.slice (some ⟨a,0,none⟩) n n)).setCell ⟨XB,2,none⟩ (.slice (some ⟨b,0,none⟩) n n)).alloc A).alloc B).drew:=by
 refine⟨a,b,blk_alloc (blk_alloc ?_ _) _,(((((But.refl (fun q=>q=XB) wr).setCell (p:=⟨XB,1,none⟩) (.inl rfl) _).setCell (p:=⟨XB,2,none⟩) (.inl rfl) _).alloc _).alloc _).drew⟩
 simp [World.setCell,Array.getElem?_modify,h]
theorem side_ow {w:Zw} {c:NC} {NB LO ND round:Nat} {m:Nm} {st:Nat→Nat} {ck:Nat→Int} {q:Nat→Nat→Option Nat} {g:Nat→Option (List (Nat×Nat))} (h:NdOk w c NB LO ND round m st ck q g) (hc:NOk c) {ow:List Int} {BX BS BN BT TB:Nat} {SA:Option Addr} {SC:Nat} {so:List ByteArray} {slot:Nat} {dir:Int} {last:Nat} (how:owners c.N c.ps slot=ow)
 (hbx:w.cell? ⟨BX,0,none⟩=some (.pointer (some ⟨NB,0,none⟩))) (hbs:w.cell? ⟨BS,0,none⟩=some (Z Y slot)) (hbn:w.cell? ⟨BN,0,none⟩=some (.slice SA ow.length SC)) (hbt:w.cell? ⟨BT,0,none⟩=some (.slice (some ⟨TB,0,none⟩) c.N c.N))
 (hrb:round≤900) (hla:last < c.N) (hbd:∀ i,i < c.N → -1000000≤ck i∧ck i≤1000000) (h1:slot < c.N+c.ps.length) (hdir:dir=1∨dir = -1) (hne:ow≠[])
 (hlen:so.length=ow.length) (hS:Strs w SA so) (hstr:∀ k,Strm (so.getD k ⟨#[]⟩)) (hT:∀ i,i < c.N→w.cell? ⟨TB,i,none⟩=some (Z Y (st i))) (hTl:TB < w.heap.size) :
 Zc Zp 63 #[Z Y dir,Z Y last,.pointer (some ⟨BX,0,none⟩),.pointer (some ⟨BS,0,none⟩),.pointer (some ⟨BN,0,none⟩),.pointer (some ⟨BT,0,none⟩)] w (RunPost c.N (dirF c round st ck slot so dir last) w):=by
 subst how
 exact h.side hc hbx hbs hbn hbt hrb hla hbd h1 hdir hne hlen hS hstr hT hTl
theorem own_some {w:Zw} {base e size n:Nat} {v:Value} {xs:List Value} (h:w.ownsRow base e size v n xs) (hn:0 < n):∃ g cap,v=.slice (some ⟨g,0,none⟩) n cap∧base≤g∧g < w.heap.size∧∀ j u,xs[j]?=some u→w.cell? ⟨g,j,none⟩=some u:=by
 rcases own_split h with⟨_,h0⟩ | ⟨g,cap,e,hg,hlt,_,_,hc,_⟩
 ·omega
 ·exact⟨g,cap,e,hg,hlt,hc⟩
theorem strs_own {w:Zw} {base n:Nat} {v:Value} {l:List ByteArray} (h:w.ownsRow base 9 1 v n (l.map Value.string)) (hn:0 < n) (hl:l.length=n):∃ g cap,v=.slice (some ⟨g,0,none⟩) n cap∧base≤g∧Strs w (some ⟨g,0,none⟩) l:=by
 rcases own_split h with⟨_,h0⟩ | ⟨g,cap,rfl,hg,hlt,_,_,hc,_⟩
 ·omega
 ·refine⟨g,cap,rfl,hg,fun k hk=>⟨g,0,rfl,hlt,?_⟩⟩
  rw [Nat.zero_add]
  refine hc k _ ?_
  rw [List.getElem?_map,List.getElem?_eq_getElem hk,List.getD_eq_getElem?_getD,List.getElem?_eq_getElem hk]
  rfl
structure RunC (w:Zw) (c:NC) (NB slot:Nat) (m:Nm) (qk:Nat→Nat→Option Nat) (ow:List Int) (OA:Option Addr) (XB SB TB U1 U2 C1 C2:Nat) (V1 V2:Nat→Sd) (wr:Zw):Prop where
 but:But (fun b=>∃ i,i < c.N∧b=m.Q i) w wr
 qa:∀ i,i < c.N→QAt wr (m.Q i) (c.N+c.ps.length) (qk i)
 oi:Ints wr OA ow
 b0:wr.heap[w.heap.size]?=some (.cells #[.pointer (some ⟨NB,0,none⟩)] 39 (0,0))
 b1:wr.heap[w.heap.size+1]?=some (.cells #[Z Y slot] 3 (0,0))
 b2:wr.heap[w.heap.size+2]?=some (.cells #[.slice none 0 0,.slice none 0 0,.slice none 0 0,.slice none 0 0] 84 (0,0))
 x:wr.heap[XB]?=some (xCells SB (.slice (some ⟨U1,0,none⟩) c.N C1) (.slice (some ⟨U2,0,none⟩) c.N C2) TB c.N)
 s1:∀ j u,(sideCells V1 c.N)[j]?=some u→wr.cell? ⟨U1,j,none⟩=some u
 s2:∀ j u,(sideCells V2 c.N)[j]?=some u→wr.cell? ⟨U2,j,none⟩=some u
 tl:TB < wr.heap.size
 tf:∀ o,wr.frozen? ⟨TB,o,none⟩=false
theorem RunC.below {w wr:Zw} {c:NC} {NB slot:Nat} {m:Nm} {qk:Nat→Nat→Option Nat} {ow:List Int} {OA:Option Addr} {XB SB TB U1 U2 C1 C2:Nat} {V1 V2:Nat→Sd} {w2:Zw} (h:RunC w c NB slot m qk ow OA XB SB TB U1 U2 C1 C2 V1 V2 wr) (hb:Zb wr.heap.size wr w2):RunC w c NB slot m qk ow OA XB SB TB U1 U2 C1 C2 V1 V2 w2:=by
 have k:∀ b o,wr.heap[b]?=some o→w2.heap[b]?=some o:=fun b o hh=>(hb.block b (heap_lt hh)).trans hh
 exact⟨h.but.trans (But.of_below hb (Zr _)),fun i hi=>(h.qa i hi).below hb,h.oi.below hb,k _ _ h.b0,k _ _ h.b1,k _ _ h.b2,k _ _ h.x,fun j u hu=>keep_of (h.s1 j u hu) (Zl _ _ (h.s1 j u hu)) hb,fun j u hu=>keep_of (h.s2 j u hu) (Zl _ _ (h.s2 j u hu)) hb,Nat.lt_of_lt_of_le h.tl hb.size,fun o=>(hb.frozen (p:=⟨TB,o,none⟩) h.tl).trans (h.tf o)⟩
theorem RunC.set {w wr:Zw} {c:NC} {NB slot:Nat} {m:Nm} {qk:Nat→Nat→Option Nat} {ow:List Int} {OA:Option Addr} {XB SB TB BB U1 U2 C1 C2:Nat} {V1 V2:Nat→Sd} (h:RunC w c NB slot m qk ow OA XB SB TB U1 U2 C1 C2 V1 V2 wr) (ha:RunAt w c m OA ow XB SB TB BB) (hu1:U1≠TB) (hu2:U2≠TB) (i:Nat) (v:Value):RunC w c NB slot m qk ow OA XB SB TB U1 U2 C1 C2 V1 V2 (wr.setCell ⟨TB,i,none⟩ v):=by
 have htt:=ha.t
 have k:∀ b,b≠TB→(wr.setCell ⟨TB,i,none⟩ v).heap[b]?=wr.heap[b]?:=fun b hb=>Below.heap_setCell _ _ _ _ hb
 exact⟨h.but.setCell (.inr (show w.heap.size≤TB by omega)) _,fun j hj=>(h.qa j hj).keep (by simp [World.setCell]) (k _ (by have:=ha.q j hj;omega)),ints_set h.oi (fun b off e hl=>(ha.o b off e hl).2.2.2.2),(k _ (by omega)).trans h.b0,(k _ (by omega)).trans h.b1,(k _ (by omega)).trans h.b2,(k _ ha.xt).trans h.x,fun j u hu=>set_keep (h.s1 j u hu) hu1,fun j u hu=>set_keep (h.s2 j u hu) hu2,by simpa [World.setCell]using h.tl,fun o=>by rw [World.frozen?_setCell];exact h.tf o⟩
theorem RunC.of {w wr:Zw} {c:NC} {NB slot:Nat} {m:Nm} {qk:Nat→Nat→Option Nat} {fo:List Int} {ow:List Int} {OA:Option Addr} {XB SB TB BB U1 U2 C1 C2:Nat} {V1 V2:Nat→Sd} {sv:Value} (h:RunB w c NB slot m qk fo ow OA XB SB TB BB sv wr) (ha:RunAt w c m OA ow XB SB TB BB) (h1:∀ j u,(sideCells V1 c.N)[j]?=some u→wr.cell? ⟨U1,j,none⟩=some u) (h2:∀ j u,(sideCells V2 c.N)[j]?=some u→wr.cell? ⟨U2,j,none⟩=some u) (n1:U1≠XB) (n2:U2≠XB) :
 RunC w c NB slot m qk ow OA XB SB TB U1 U2 C1 C2 V1 V2 ((wr.setCell ⟨XB,1,none⟩ (.slice (some ⟨U1,0,none⟩) c.N C1)).setCell ⟨XB,2,none⟩ (.slice (some ⟨U2,0,none⟩) c.N C2)) ∧
 ((wr.setCell ⟨XB,1,none⟩ (.slice (some ⟨U1,0,none⟩) c.N C1)).setCell ⟨XB,2,none⟩ (.slice (some ⟨U2,0,none⟩) c.N C2)).heap[TB]?=some (.cells (madeCells #[.pointer none] c.N) 130 (0,0)):=by
 have hx:=ha.x
 have k:∀ b,b≠XB→((wr.setCell ⟨XB,1,none⟩ (.slice (some ⟨U1,0,none⟩) c.N C1)).setCell ⟨XB,2,none⟩ (.slice (some ⟨U2,0,none⟩) c.N C2)).heap[b]?=wr.heap[b]?:=fun b hb=>(Below.heap_setCell _ _ _ _ hb).trans (Below.heap_setCell _ _ _ _ hb)
 have hT:=(k _ (Ne.symm ha.xt)).trans h.t
 refine⟨⟨(h.but.setCell (.inr (show w.heap.size≤XB by omega)) _).setCell (.inr (show w.heap.size≤XB by omega)) _,fun j hj=>(h.qa j hj).keep (by simp [World.setCell]) (k _ (by have:=ha.q j hj;omega)),ints_set (ints_set h.oi (fun b off e hl=>(ha.o b off e hl).2.2.2.1)) (fun b off e hl=>(ha.o b off e hl).2.2.2.1),(k _ (by omega)).trans h.b0,(k _ (by omega)).trans h.b1,(k _ (by omega)).trans h.b2,?_,fun j u hu=>set_keep (set_keep (h1 j u hu) n1) n1,fun j u hu=>set_keep (set_keep (h2 j u hu) n2) n2,heap_lt hT,fun o=>blk_frozen hT o⟩,hT⟩
 simp [World.setCell,Array.getElem?_modify,h.x]
def TkRow (base:Nat) (c:NC) (ow:List Int) (st:Nat→Nat) (fo:Nat→Option Fr) (TB k:Nat) (wr:Zw):Prop:=∀ j,j < c.N→∃ v,wr.cell? ⟨TB,j,none⟩=some v∧TkMem wr base v (if j < k then tkF ow st fo j else none)
theorem TkRow.keep {base:Nat} {wr w2:Zw} {c:NC} {ow:List Int} {st:Nat→Nat} {fo:Nat→Option Fr} {TB k:Nat} (h:TkRow base c ow st fo TB k wr) (hb:Zb wr.heap.size wr w2) (ht:TB < wr.heap.size):TkRow base c ow st fo TB k w2:=fun j hj=>by
 obtain⟨v,h1,h2⟩:=h j hj
 exact⟨v,keep_of h1 ht hb,h2.below hb⟩
theorem TkRow.skip {base:Nat} {wr:Zw} {c:NC} {ow:List Int} {st:Nat→Nat} {fo:Nat→Option Fr} {TB k:Nat} (h:TkRow base c ow st fo TB k wr) (hn:tkF ow st fo k=none):TkRow base c ow st fo TB (k+1) wr:=fun j hj=>by
 obtain⟨v,h1,h2⟩:=h j hj
 refine⟨v,h1,?_⟩
 by_cases e:j=k
 ·subst e
  rw [if_pos (by omega),hn]
  rwa [if_neg (by omega)]at h2
 ·by_cases hl:j < k
  ·rw [if_pos (by omega)];rwa [if_pos hl]at h2
  ·rw [if_neg (by omega)];rwa [if_neg hl]at h2
theorem tk_set {base TB k:Nat} {wr:Zw} {u v:Value} {o:Option Fr} (h:TkMem wr base u o) (ht:TB < base):TkMem (wr.setCell ⟨TB,k,none⟩ v) base u o :=
 h.keep (by simp [World.setCell]) (fun b hb _=>Below.heap_setCell _ _ _ _ (show b≠TB by omega))
theorem TkRow.set {base:Nat} {wr:Zw} {c:NC} {ow:List Int} {st:Nat→Nat} {fo:Nat→Option Fr} {TB k:Nat} {v:Value} (h:TkRow base c ow st fo TB k wr) (hk:k < c.N) (hv:TkMem wr base v (tkF ow st fo k)) (ht:TB < base):TkRow base c ow st fo TB (k+1) (wr.setCell ⟨TB,k,none⟩ v):=fun j hj=>by
 by_cases e:j=k
 ·subst e
  obtain⟨u,h1,_⟩:=h j hj
  exact⟨v,World.cell?_setCell_same _ _ _ h1,by rw [if_pos (by omega)];exact tk_set hv ht⟩
 ·obtain⟨u,h1,h2⟩:=h j hj
  refine⟨u,set_keep2 h1 e,?_⟩
  by_cases hl:j < k
  ·rw [if_pos (by omega)];rw [if_pos hl]at h2;exact tk_set h2 ht
  ·rw [if_neg (by omega)];rw [if_neg hl]at h2;exact tk_set h2 ht
theorem snd_len (c:NC) (round slot:Nat) (st:Nat→Nat) (q:Nat→Nat→Option Nat) (g:Nat→Option (List (Nat×Nat))):(sndF c round slot st q g).length=(owners c.N c.ps slot).length:=by simp [sndF]
theorem snd_at (c:NC) (round slot:Nat) (st:Nat→Nat) (q:Nat→Nat→Option Nat) (g:Nat→Option (List (Nat×Nat))) {k:Nat} (hk:k < (owners c.N c.ps slot).length):(sndF c round slot st q g).getD k ⟨#[]⟩=soF (ownF c round slot st q g ((owners c.N c.ps slot).getD k 0).toNat):=by
 unfold sndF
 rw [List.getD_eq_getElem?_getD,List.getElem?_map,List.getElem?_eq_getElem hk,List.getD_eq_getElem?_getD,List.getElem?_eq_getElem hk]
 rfl
theorem snd_strm {c:NC} (hc:NOk c) {round slot:Nat} {st:Nat→Nat} {q:Nat→Nat→Option Nat} {g:Nat→Option (List (Nat×Nat))} (hs:slot < c.N+c.ps.length) (h:∀ i,i < c.N→(owners c.N c.ps slot).contains (i:Int)=true→∀ f,ownF c round slot st q g i=some f→FrOk c.N c.ps.length f) (k:Nat):Strm ((sndF c round slot st q g).getD k ⟨#[]⟩):=by
 have n0:=hc.cf.n0
 have n1:=hc.cf.n1
 have n2:=hc.cf.len
 rcases Nat.lt_or_ge k (owners c.N c.ps slot).length with hk | hk
 ·rw [snd_at c round slot st q g hk]
  have hm:=getD_mem hk
  have hb:∀ y,y ∈ owners c.N c.ps slot→0≤y∧y < c.N:=fun y hy=>by
   rcases owners_cases hc hs with⟨h,e⟩ | ⟨_,e⟩ | ⟨_,x,hx,e⟩
   ·rw [e]at hy;simp at hy;omega
   ·rw [e]at hy;simp at hy
   ·rw [e]at hy
    simp at hy
    have q0:0≤((x:Int)+1)%c.N:=Int.emod_nonneg _ (by omega)
    have q1:((x:Int)+1)%c.N < c.N:=Int.emod_lt_of_pos _ (by omega)
    rcases hy with hy | hy <;> (rw [hy];omega)
  have hb:=hb _ hm
  refine so_strm (h _ (by omega) ?_) (by omega) (by omega)
  have:(((owners c.N c.ps slot).getD k 0).toNat:Int)=(owners c.N c.ps slot).getD k 0:=by omega
  rw [this]
  simpa using hm
 ·rw [List.getD_eq_getElem?_getD,List.getElem?_eq_none (by rw [snd_len];omega)];exact Strm.empty
theorem fr_mem {w:Zw} {base p:Nat} {f:Fr} {EA:Option Addr} {EC:Nat} (h:w.heap[p]?=some (.cells #[Z Y f.kind,Z Y f.round,Z Y f.slot,Z Y f.pk,Z Y f.pv,.slice EA f.echo.length EC] 118 (0,0))) (hI:Items w EA f.echo) (hE:∀ b off,EA=some ⟨b,off,none⟩→0 < f.echo.length→base≤b) (hp:base≤p):FrMem w base p f :=
 ⟨⟨EA,EC,by rw [blk_cell h];rfl,hI,hE⟩,hp,heap_lt h,by rw [blk_cell h];rfl,by rw [blk_cell h];rfl,by rw [blk_cell h];rfl,by rw [blk_cell h];rfl,by rw [blk_cell h];rfl⟩
end A52
namespace A54
open Go.RowKit A9 A18 A22 A39 A41 A46 A47 A48 A51
def hdK (tk:Nat→Option Fr) (dv:Nat→Int):Nat→List Hd
 | 0=>[]
 | k+1=>match tk k with
  | none=>hdK tk dv k
  | some f=>hdK tk dv k ++ [⟨k,f.kind,dv k⟩]
theorem hdK_le (tk:Nat→Option Fr) (dv:Nat→Int) (k:Nat):(hdK tk dv k).length≤k:=by
 induction k with
 | zero=>exact Zr _
 | succ k ih =>
  unfold hdK
  split
  ·omega
  ·rw [List.length_append,List.length_singleton];omega
def hdCells:List Hd→List Value
 | []=>[]
 | h :: r =>Z Y h.node :: Z Y h.kind :: Z Y h.dev :: hdCells r
theorem hdCells_append (a b:List Hd):hdCells (a ++ b)=hdCells a ++ hdCells b:=by
 induction a with
 | nil=>rfl
 | cons x r ih=>simp [hdCells,ih]
theorem hdCells_at (l:List Hd):∀ k,k < l.length→(hdCells l)[k*3]?=some (Z Y (l.getD k Hd.none).node)∧(hdCells l)[k*3+1]?=some (Z Y (l.getD k Hd.none).kind)∧(hdCells l)[k*3+2]?=some (Z Y (l.getD k Hd.none).dev):=by
 induction l with
 | nil=>intro k hk;exact absurd hk (by simp)
 | cons x r ih =>
  intro k hk
  cases k with
  | zero=>exact⟨rfl,rfl,rfl⟩
  | succ k =>
   obtain⟨h1,h2,h3⟩:=ih k (by simpa using hk)
   have e1:(k+1)*3=k*3+3:=by omega
   rw [e1]
   exact⟨h1,h2,h3⟩
theorem info196:(Tryz.prog.info? 196).map (fun i=>(i.zero,i.size,i.bytes))=some (some (.agg #[Z Y 0,Z Y 0,Z Y 0]),3,24):=by kernel_rfl
theorem hds_own {w:Zw} {base:Nat} {v:Value} {l:List Hd} (h:w.ownsRow base 196 3 v l.length (hdCells l)):∃ A C,v=.slice A l.length C∧Hds w A l:=by
 rcases own_split h with⟨rfl,h0⟩ | ⟨g,cap,rfl,_,hlt,_,_,hc,_⟩
 ·rw [h0];exact⟨none,0,rfl,fun k hk=>absurd hk (by omega)⟩
 ·refine⟨some ⟨g,0,none⟩,cap,rfl,fun k hk=>⟨g,0,rfl,hlt,?_⟩⟩
  obtain⟨h1,h2,h3⟩:=hdCells_at l k hk
  simp only [Nat.zero_add]
  exact⟨hc _ _ h1,hc _ _ h2,hc _ _ h3⟩
theorem ne130 (p:Nat) (w:Zw):(binOp BinOp.neq 130 (.pointer (some ⟨p,0,none⟩)) (.pointer none)).run Zp w=.ok (.bool true) w:=by kernel_rfl
theorem net_heard (c:NC) (NB LO ND SB SC round i base:Nat) (m:Nm) (st:Nat→Nat) (ck:Nat→Int) (q:Nat→Nat→Option Nat) (g:Nat→Option (List (Nat×Nat))) (tk:Nat→Nat→Option Fr) (w:Zw) (hc:NOk c) (hn:NdOk w c NB LO ND round m st ck q g) (hs:Sep c NB LO ND m)
 (h19:w.cell? ⟨NB,19,none⟩=some (.slice (some ⟨SB,0,none⟩) (c.N+c.ps.length) SC)) (hS:SlotsMem w base SB (c.N+c.ps.length) c.N tk) (hi:i < c.N) (hrb:round≤900) (hbd:∀ i,i < c.N → -1000000≤ck i∧ck i≤1000000) :
 Zc Zp 71 #[.pointer (some ⟨NB,0,none⟩),Z Y i] w fun e w'=>∃ v,e=.returned v∧w'.ownsRow w.heap.size 196 3 v (hdK (fun k=>tk k i) (fun k=>devF c round ck k i) c.N).length (hdCells (hdK (fun k=>tk k i) (fun k=>devF c round ck k i) c.N))∧Zb w.heap.size w w':=by
 have n0:=hc.cf.n0
 have n1:=hc.cf.n1
 have lNB:NB < w.heap.size:=Zl w _ hn.r
 have HDv:=O (fun(w':Zw) (hb:Zb w.heap.size w w') (o:Nat) (ho:o < c.N)=>net_dev c NB LO ND round o i ck w' hc (hn.below hs hb).nb (hn.below hs hb).lo (hn.below hs hb).r (hn.below hs hb).n (hn.below hs hb).cc (by omega) ho hi hbd)
 have HSl:=O hS
 have k0:=hn.nb.c0
 have K0:=O k0
 have K19:=O h19
 obtain⟨j0,hi0,hz0,hz1,hz2⟩:=info_parts info196
 have HI0:=O hi0
 have HZ0:=O (And.intro hz0 (And.intro hz1 hz2))
 have i0:(i:Int) < (c.N:Int):=by omega
 clear hi0 hz0 hz1 hz2 hc hn hs hS hbd h19
 go_enter Tryz.func71,Tryz.ntmps71
 go_wp2_with fail
 clear k0
 go_loopw [5,13] (fun v t wr=>∃ k:Nat,k≤c.N∧t=Z Y k∧wr.ownsRow w.heap.size 196 3 v (hdK (fun k=>tk k i) (fun k=>devF c round ck k i) k).length (hdCells (hdK (fun k=>tk k i) (fun k=>devF c round ck k i) k))∧Zb w.heap.size w wr) (fun _ t _=>c.N-(intOf t).toNat)
 case atStart=>exact⟨0,by omega,rfl,World.ownsRow_nil _ _ _ _,Zf _ _⟩
 case round =>
  obtain⟨k,hk,rfl,hown,hbr⟩:=hrel
  by_cases hlt:k < c.N
  ·have lk:(k:Int) < (c.N:Int):=by omega
   have lkS:(k:Int) < ((c.N+c.ps.length:Nat):Int):=by omega
   obtain⟨TB,ht0,hR⟩:=HSl.out.each k (by omega)
   obtain⟨v,hv0,hT⟩:=hR.each i hi
   have ht:=keep_of ht0 HSl.out.lt hbr
   have hv:=keep_of hv0 hR.lt hbr
   have m19:=keep_of K19.out lNB hbr
   have HB:=O hbr
   have HO:=O hown
   have hle:=hdK_le (fun k=>tk k i) (fun k=>devF c round ck k i) k
   have HKs:=O (show hdK (fun k=>tk k i) (fun k=>devF c round ck k i) (k+1)=match tk k i with | none=>hdK (fun k=>tk k i) (fun k=>devF c round ck k i) k | some f=>hdK (fun k=>tk k i) (fun k=>devF c round ck k i) k ++ [⟨k,f.kind,devF c round ck k i⟩]from rfl)
   generalize hdK (fun k=>tk k i) (fun k=>devF c round ck k i) k=l at *
   have HDk:=O (fun w' hb=>HDv.out w' hb k hlt)
   generalize devF c round ck k i=dv at *
   clear hbr hown hR ht0 hv0
   obtain hfn | ⟨f,hff⟩:tk k i=none∨∃ f,tk k i=some f:=by
    cases tk k i with
    | none=>exact .inl rfl
    | some f=>exact .inr ⟨f,rfl⟩
   ·rw [hfn]at hT
    have hT':v=.pointer none:=hT
    subst hT'
    rw [hfn]at HKs
    clear hfn hT
    go_wp2_with fail
    go_roundw
    case rel=>exact⟨k+1,by omega,by go_num,by rw [HKs.out];exact HO.out,HB.out⟩
    case measure=>simp [intOf];omega
   ·rw [hff]at hT HKs
    obtain⟨p,rfl,hp⟩:=hT
    have lp0:=hp.lt
    have hp0:=keep_of hp.c0 hp.lt HB.out
    have HP0:=O hp.c0
    have lp:p < wr.heap.size:=Nat.lt_of_lt_of_le lp0 HB.out.size
    have hne:=ne130 p
    have wz:=HB.out.size
    clear hff hp
    go_wp2_with fail
    refine wp_region_held_drew (S:=fun w'=>w'.cell? ⟨p,0,none⟩=some (Z Y f.kind)) (by kernel_rfl) hp0 (fun hHeld=>?_)
    refine rgT 0 ?_
    refine rgT 1 ?_
    refine rgT 2 ?_
    refine rgT 3 ?_
    refine rgT 4 ?_
    refine rgT 5 ?_
    refine rgT 6 ?_
    refine rgT 7 ?_
    refine rgT 8 ?_
    refine rgR 9 fun K hK=>?_
    go_simp
    refine(HDk.out _ HB.out.drew).mono ?_
    rintro e w4 ⟨rfl,hb4⟩
    have hb4':Zb wr.heap.size wr w4:=⟨hb4.os,hb4.tape,hb4.output,hb4.size,hb4.block⟩
    have HO4:=O (own_below HO.out hb4')
    have p4:=keep_of hp0 lp hb4'
    have HB4:=O (HB.out.trans (hb4'.mono wz))
    have hz4:=HB4.out.size
    have lp4:p < w4.heap.size:=Nat.lt_of_lt_of_le lp hb4'.size
    clear hb4 hb4' hne
    go_simp
    refine hK.out _ _ p4 (fun hHeld=>?_)
    clear hK K
    refine rgT 10 ?_
    refine rgR 11 fun K hK=>?_
    go_simp
    refine hK.out _ _ (alloc_keep p4) (fun hHeld=>?_)
    clear hK K
    refine rgR 12 fun K hK=>?_
    refine step_append_lies _ (by rfl) _ _ _ (by rfl) w.heap.size 196 j0 (.agg #[Z Y 0,Z Y 0,Z Y 0]) 3 24 Tryz.underlying132 HI0.out HZ0.out.1 HZ0.out.2.1 HZ0.out.2.2 rfl (by omega) _ l.length (hdCells l) (by rfl) (HO4.out.alloc _) ⟨w4.heap.size,0,none⟩ 1 1 [Z Y k,Z Y f.kind,Z Y dv] (by rfl) (by rfl) (World.news_of_block (cs:=#[Z Y k,Z Y f.kind,Z Y dv]) (t:=196) (fr:=(0,0)) (Zh w4 _)) (by simp [Value.oneCell']) (by omega) (by unfold maxLen;omega) (by omega) (by simp;omega) (w4.heap.size+1) (by simp) ?_
    intro gg cap w5 hown5 hgrow hat hlt5
    have hB5:Zb w.heap.size w w5:=(HB4.out.alloc hz4 _).grown hgrow (by simp;omega) (fun q hq=>ownsRow_block HO4.out hq)
    have p5:w5.cell? ⟨p,0,none⟩=some (Z Y f.kind):=keep_of HP0.out lp0 hB5
    have HB5:=O hB5
    have HO5:=O hown5
    clear hgrow hown5 hB5 hat
    refine hK.out _ _ p5 (fun hHeld=>?_)
    clear hK K
    try simp only [Act.put,List.getElem_toArray,List.getElem_cons_succ,List.getElem_cons_zero,List.setIfInBounds_toArray,List.set_cons_zero,List.set_cons_succ]
    refine rgT 13 ?_
    refine wpAnyH_done (by kernel_rfl) ?_ _
    go_wp2
    go_roundw
    case rel=>exact⟨k+1,by omega,by go_num,by rw [HKs.out,List.length_append,List.length_singleton,hdCells_append];exact HO5.out,HB5.out⟩
    case measure=>simp [intOf];omega
  ·obtain rfl:k=c.N:=by omega
   have HO:=O hown
   have HB:=O hbr
   clear hown hbr
   go_wp2
   go_ret
   exact⟨_,rfl,HO.out,HB.out⟩
end A54
namespace A55
open Go.RowKit A8 A9 A11 A14 A18 A34 A35 A41 A45 A46 E5 A51
def sentQ (q:Nat→Option Nat) (s v:Nat):Nat→Option Nat:=fun j=>if j=s then some v else q j
theorem QAt.send {w:Zw} {Q S s v:Nat} {q:Nat→Option Nat} (h:QAt w Q S q) (hs:s < S):QAt ((w.setCell ⟨Q,s*5,none⟩ (Z Y v)).setCell ⟨Q,s*5+4,none⟩ (Z Y 1)) Q S (sentQ q s v):=by
 have f:∀ o,((w.setCell ⟨Q,s*5,none⟩ (Z Y v)).setCell ⟨Q,s*5+4,none⟩ (Z Y 1)).frozen? ⟨Q,o,none⟩=w.frozen? ⟨Q,o,none⟩:=fun o=>by rw [World.frozen?_setCell,World.frozen?_setCell]
 have k:∀ o,o≠s*5→o≠s*5+4→((w.setCell ⟨Q,s*5,none⟩ (Z Y v)).setCell ⟨Q,s*5+4,none⟩ (Z Y 1)).cell? ⟨Q,o,none⟩=w.cell? ⟨Q,o,none⟩:=fun o h1 h2 =>
  (Zo _ _ _ _ (fun e=>by injection e with _ e;omega)).trans (Zo _ _ _ _ (fun e=>by injection e with _ e;omega))
 refine⟨by simpa [World.setCell]using h.lt,fun o=>(f o).trans (h.fr o),fun j hj=>?_,fun j hj=>?_,fun r hr j hj=>?_⟩
 ·by_cases e:j=s
  ·subst e
   obtain⟨u,h1,_⟩:=h.c0 j hj
   exact⟨Z Y v,set_keep2 (World.cell?_setCell_same _ _ _ h1) (by omega),fun v' hv=>by simp [sentQ]at hv;rw [hv]⟩
  ·obtain⟨u,h1,h2⟩:=h.c0 j hj
   exact⟨u,(k _ (by omega) (by omega)).trans h1,fun v' hv=>h2 v' (by simpa [sentQ,e]using hv)⟩
 ·by_cases e:j=s
  ·subst e
   rw [World.cell?_setCell_same _ _ _ (set_keep2 (h.c4 j hj) (by omega))]
   simp [sentQ]
  ·rw [k _ (by omega) (by omega),h.c4 j hj]
   simp [sentQ,e]
 ·by_cases e:r*5+j=s*5
  ·obtain⟨u,h1,_⟩:=h.c0 s hs
   exact⟨_,by rw [e];exact set_keep2 (World.cell?_setCell_same _ _ _ h1) (by omega)⟩
  ·by_cases e2:r*5+j=s*5+4
   ·exact⟨_,by rw [e2];exact World.cell?_setCell_same _ _ _ (set_keep2 (h.c4 s hs) (by omega))⟩
   ·rw [k _ e e2];exact h.cx r hr j hj
theorem net_call (c:NC) (NB LO ND round:Nat) (m:Nm) (st:Nat→Nat) (ck:Nat→Int) (q:Nat→Nat→Option Nat) (g:Nat→Option (List (Nat×Nat))) (r0 i v:Nat) (w:Zw) (hc:NOk c) (hn:NdOk w c NB LO ND round m st ck q g) (hs:Sep c NB LO ND m)
 (hi:i < c.N) (hst:st i≠0) (hv:v≤255) (hq:q i i=none) :
 Zc Zp 57 #[.pointer (some ⟨NB,0,none⟩),.agg #[Z Y r0,Z Y i,Z Y 0,Z Y v]] w fun e w'=>e=.returned (Z Y 0)∧But (fun b=>b=m.Q i) w w'∧QAt w' (m.Q i) (c.N+c.ps.length) (sentQ (q i) i v):=by
 have n0:=hc.cf.n0
 have n1:=hc.cf.n1
 have HN:=O hn
 have HS:=O hs
 have HC:=O hc
 have lNB:NB < w.heap.size:=Zl w _ hn.r
 have lND:ND < w.heap.size:=Zl w _ (hn.cs i hi)
 have lQ:m.Q i < w.heap.size:=(hn.qa i hi).lt
 have i0:(i:Int) < (c.N:Int):=by omega
 have i1:(i:Int) < ((c.N+c.ps.length:Nat):Int):=by omega
 have i2:(i:Int) < (c.N:Int)+(c.ps.length:Int):=by omega
 have z0:((st i:Int) == 0)=false:=by simp [hst]
 have z0':(st i == 0)=false:=by simp [hst]
 have HK:=O (show ∀ w',Zb w.heap.size w w'→(w'.cell? ⟨NB,0,none⟩=some (Z Y c.N)∧w'.cell? ⟨NB,1,none⟩=some (Z Y c.Pi)∧w'.cell? ⟨NB,2,none⟩=some (Z Y c.Er)∧w'.cell? ⟨NB,3,none⟩=some (Z Y c.G)∧w'.cell? ⟨NB,4,none⟩=some (Z Y c.Fi)∧w'.cell? ⟨NB,5,none⟩=some (.slice c.PA c.ps.length c.PC)∧w'.cell? ⟨NB,18,none⟩=some (.slice (some ⟨ND,0,none⟩) c.N c.N)∧w'.cell? ⟨ND,i*7,none⟩=some (Z Y (st i))∧w'.cell? ⟨ND,i*7+4,none⟩=some (.slice (some ⟨m.Q i,0,none⟩) (c.N+c.ps.length) (m.QC i)))from fun w' hb =>
  ⟨keep_of hn.nb.c0 lNB hb,keep_of hn.nb.c1 lNB hb,keep_of hn.nb.c2 lNB hb,keep_of hn.nb.c3 lNB hb,keep_of hn.nb.c4 lNB hb,keep_of hn.nb.c5 lNB hb,keep_of hn.n lNB hb,keep_of (hn.cs i hi) lND hb,keep_of (hn.cq i hi) lND hb⟩)
 have how:owners c.N c.ps i=[(i:Int)]:=by unfold owners;rw [if_pos (by omega)]
 clear hn hs hc hst
 go_enter Tryz.func57,Tryz.ntmps57
 go_upto_region 4 with fail
 have HBa:=O ((Zf w.heap.size w).alloc (Zr _) (.cells #[Z Y r0,Z Y i,Z Y 0,Z Y v] 52))
 have hBx:=Zh w (.cells #[Z Y r0,Z Y i,Z Y 0,Z Y v] 52)
 generalize w.alloc (.cells #[Z Y r0,Z Y i,Z Y 0,Z Y v] 52)=wa at *
 have HBx:=O hBx
 have lB:=heap_lt hBx
 clear hBx
 have HKx:=O (show ∀ w',Zb wa.heap.size wa w'→w'.cell? ⟨w.heap.size,1,none⟩=some (Z Y i)∧w'.cell? ⟨w.heap.size,3,none⟩=some (Z Y v)from fun w' hb=>⟨keep_of (by rw [blk_cell HBx.out];rfl) lB hb,keep_of (by rw [blk_cell HBx.out];rfl) lB hb⟩)
 obtain⟨a0,a1,a2,a3,a4,a5,a18,as0,aq⟩:=HK.out _ HBa.out
 obtain⟨b1,b3⟩:=HKx.out _ (Zf _ _)
 refine wp_region_held_drew (S:=fun w'=>w'.cell? ⟨NB,18,none⟩=some (.slice (some ⟨ND,0,none⟩) c.N c.N)∧w'.cell? ⟨ND,i*7,none⟩=some (Z Y (st i))∧w'.cell? ⟨w.heap.size,1,none⟩=some (Z Y i)) (by kernel_rfl) ⟨a18,as0,b1⟩ (fun hHeld=>?_)
 refine rgT 0 ?_
 refine rgT 1 ?_
 refine rgT 2 ?_
 refine rgT 3 ?_
 refine rgT 4 ?_
 refine rgT 5 ?_
 refine rgT 6 ?_
 refine rgT 7 ?_
 refine rgT 8 ?_
 refine rgT 9 ?_
 refine rgT 10 ?_
 refine wpAnyH_done (by kernel_rfl) ?_ _
 go_upto_region 6 with fail
 refine wp_region_held_drew (S:=fun w'=>w'.cell? ⟨NB,0,none⟩=some (Z Y c.N)∧w'.cell? ⟨NB,1,none⟩=some (Z Y c.Pi)∧w'.cell? ⟨NB,2,none⟩=some (Z Y c.Er)∧w'.cell? ⟨NB,3,none⟩=some (Z Y c.G)∧w'.cell? ⟨NB,4,none⟩=some (Z Y c.Fi)∧w'.cell? ⟨NB,5,none⟩=some (.slice c.PA c.ps.length c.PC)∧w'.cell? ⟨w.heap.size,1,none⟩=some (Z Y i)) (by kernel_rfl) ⟨a0,a1,a2,a3,a4,a5,b1⟩ (fun hHeld=>?_)
 refine rgT 0 ?_
 refine rgT 1 ?_
 refine rgT 2 ?_
 refine rgT 3 ?_
 refine rgT 4 ?_
 refine rgT 6 ?_
 refine rgT 7 ?_
 refine rgR 5 fun K hK=>?_
 go_simp
 refine(((HN.out.below HS.out HBa.out.drew.drew).own HC.out (slot:=i) (by omega))).mono ?_
 rw [how]
 rintro e w1 ⟨OA,OC,rfl,hOI,_,_,hb1⟩
 have hb1':Zb wa.heap.size wa w1:=⟨hb1.os,hb1.tape,hb1.output,hb1.size,hb1.block⟩
 have HB1:=O hb1'
 have HCon:=O (Contains OA [(i:Int)] OC (i:Int) w1 hOI (by simp))
 have hcc:([(i:Int)].contains (i:Int))=true:=by simp
 rw [hcc]at HCon
 obtain⟨c0,c1,c2,c3,c4,c5,c18,cs0,cq⟩:=HK.out _ (HBa.out.trans (hb1'.mono HBa.out.size))
 obtain⟨d1,d3⟩:=HKx.out _ hb1'
 clear hb1 hb1' hOI hcc
 simp only [List.length_singleton]at HCon
 go_simp
 refine hK.out _ _ ⟨c0,c1,c2,c3,c4,c5,d1⟩ (fun hHeld=>?_)
 clear hK K
 refine rgR 8 fun K hK=>?_
 go_simp
 refine HCon.out.mono ?_
 rintro e w2 ⟨rfl,rfl⟩
 go_simp
 refine hK.out _ _ ⟨c0,c1,c2,c3,c4,c5,d1⟩ (fun hHeld=>?_)
 clear hK K
 refine rgT 9 ?_
 refine rgT 10 ?_
 refine wpAnyH_done (by kernel_rfl) ?_ _
 go_upto_region 8 with fail
 refine wp_region_held_drew (S:=fun w'=>w'.cell? ⟨NB,18,none⟩=some (.slice (some ⟨ND,0,none⟩) c.N c.N)∧w'.cell? ⟨ND,i*7+4,none⟩=some (.slice (some ⟨m.Q i,0,none⟩) (c.N+c.ps.length) (m.QC i))∧w'.cell? ⟨w.heap.size,1,none⟩=some (Z Y i)∧w'.cell? ⟨w.heap.size,3,none⟩=some (Z Y v)) (by kernel_rfl) ⟨c18,cq,d1,d3⟩ (fun hHeld=>?_)
 refine rgT 0 ?_
 refine rgT 1 ?_
 refine rgT 2 ?_
 refine rgT 3 ?_
 refine rgT 4 ?_
 refine rgT 5 ?_
 refine rgT 6 ?_
 refine rgT 7 ?_
 refine rgT 8 ?_
 refine rgT 9 ?_
 refine rgT 10 ?_
 refine rgT 11 ?_
 refine rgT 12 ?_
 refine rgR 13 fun K hK=>?_
 go_simp
 have HBw:=O (HBa.out.trans (HB1.out.mono HBa.out.size))
 have hQ1:=(HN.out.qa i hi).below HBw.out
 obtain⟨u,hu,_⟩:=hQ1.c0 i (by omega)
 have h4:=hQ1.c4 i (by omega)
 rw [hq]at h4
 refine(queue_Send (m.Q i) (i*5) v u (World.drew w1) hv hu h4 (hQ1.fr _) (hQ1.fr _)).mono ?_
 rintro e w3 ⟨rfl,rfl⟩
 have hqn:m.Q i≠NB:=HS.out.qn i hi
 have hqd:m.Q i≠ND:=HS.out.qd i hi
 go_simp
 refine hK.out _ _ ⟨set_keep (q:=⟨m.Q i,i*5+4,none⟩) (set_keep (q:=⟨m.Q i,i*5,none⟩) c18 (Ne.symm hqn)) (Ne.symm hqn),set_keep (q:=⟨m.Q i,i*5+4,none⟩) (set_keep (q:=⟨m.Q i,i*5,none⟩) cq (Ne.symm hqd)) (Ne.symm hqd),set_keep (q:=⟨m.Q i,i*5+4,none⟩) (set_keep (q:=⟨m.Q i,i*5,none⟩) d1 (by show w.heap.size≠m.Q i;omega)) (by show w.heap.size≠m.Q i;omega),set_keep (q:=⟨m.Q i,i*5+4,none⟩) (set_keep (q:=⟨m.Q i,i*5,none⟩) d3 (by show w.heap.size≠m.Q i;omega)) (by show w.heap.size≠m.Q i;omega)⟩ (fun hHeld=>?_)
 clear hK K
 refine rgT 14 ?_
 refine wpAnyH_done (by kernel_rfl) ?_ _
 go_wp2
 go_ret
 refine⟨rfl,?_,?_⟩
 ·have X:=((But.of_below HBw.out (Zr _):But (fun b=>b=m.Q i) w w1)).setCell (p:=⟨m.Q i,i*5,none⟩) (.inl rfl) (Z Y v)
  have X:=X.setCell (p:=⟨m.Q i,i*5+4,none⟩) (.inl rfl) (Z Y 1)
  exact⟨X.os,X.tape,X.output,X.size,X.block⟩
 ·exact(A55.QAt.send hQ1 (by omega)).keep (Zr _) rfl
end A55
namespace A56
open Go.RowKit A9 A11 A14 A18 A35 A41 A45 A46 A48 A51 A52 A55
def qK (cl:List Cl) (r:Nat) (q:Nat→Nat→Option Nat):Nat→Nat→Nat→Option Nat
 | 0=>q
 | k+1=>if(cl.getD k ⟨0,0,0,0⟩).round=r then fun i=>if i=(cl.getD k ⟨0,0,0,0⟩).node then sentQ (qK cl r q k i) (cl.getD k ⟨0,0,0,0⟩).node (cl.getD k ⟨0,0,0,0⟩).v else qK cl r q k i
  else qK cl r q k
structure HostBut (w w':Zw) (c:NC) (NB:Nat) (m:Nm):Prop where
 but:But (fun b=>b=NB∨∃ i,i < c.N∧b=m.Q i) w w'
 nb:∀ o,o≠20→w'.cell? ⟨NB,o,none⟩=w.cell? ⟨NB,o,none⟩
 fr:∀ o,w'.frozen? ⟨NB,o,none⟩=w.frozen? ⟨NB,o,none⟩
theorem HostBut.trans {a b d:Zw} {c:NC} {NB:Nat} {m:Nm} (h:HostBut a b c NB m) (k:HostBut b d c NB m):HostBut a d c NB m:=⟨h.but.trans k.but,fun o ho=>(k.nb o ho).trans (h.nb o ho),fun o=>(k.fr o).trans (h.fr o)⟩
theorem HostBut.below {a b:Zw} {c:NC} {NB:Nat} {m:Nm} (h:Zb a.heap.size a b) (hl:NB < a.heap.size):HostBut a b c NB m:=⟨But.of_below h (Zr _),fun o _=>h.cell (p:=⟨NB,o,none⟩) hl,fun o=>h.frozen (p:=⟨NB,o,none⟩) hl⟩
theorem HostBut.far {a b:Zw} {c:NC} {NB:Nat} {m:Nm} {T:Nat→Prop} (h:But T a b) (hl:NB < a.heap.size) (hN:¬ T NB) (hT:∀ k,k < a.heap.size→T k→∃ i,i < c.N∧k=m.Q i):HostBut a b c NB m :=
 ⟨h.more (fun k hk ht =>.inr (hT k hk ht)),fun o _=>h.cell (p:=⟨NB,o,none⟩) hl hN,fun o=>h.frozen (p:=⟨NB,o,none⟩) hl hN⟩
theorem HostBut.set {w:Zw} {c:NC} {NB:Nat} {m:Nm} (v:Value):HostBut w (w.setCell ⟨NB,20,none⟩ v) c NB m :=
 ⟨(But.refl _ w).setCell (.inl (.inl rfl)) v,fun o ho=>Zo _ _ _ _ (fun e=>by injection e with _ e;omega),fun o=>World.frozen?_setCell _ _ _ _⟩
theorem NdOk.host {w w1:Zw} {c:NC} {NB LO ND round:Nat} {m:Nm} {st:Nat→Nat} {ck:Nat→Int} {q q':Nat→Nat→Option Nat} {g:Nat→Option (List (Nat×Nat))} (h:NdOk w c NB LO ND round m st ck q g) (hs:Sep c NB LO ND m) (hng:∀ i b C,i < c.N→m.gv i=.slice (some ⟨b,0,none⟩) (c.N+c.ps.length) C→b≠NB)
 (hb:HostBut w w1 c NB m) (hq:∀ i,i < c.N→QAt w1 (m.Q i) (c.N+c.ps.length) (q' i)):NdOk w1 c NB LO ND round m st ck q' g:=by
 have nND:¬(ND=NB∨∃ i,i < c.N∧ND=m.Q i):=fun e=>by
  rcases e with e | ⟨i,hi,e⟩
  ·exact hs.nn e.symm
  ·exact hs.qd i hi e.symm
 have kD:∀ o v,w.cell? ⟨ND,o,none⟩=some v→w1.cell? ⟨ND,o,none⟩=some v:=fun o v hv=>(hb.but.cell (p:=⟨ND,o,none⟩) (Zl w _ hv) nND).trans hv
 have n:=fun o (ho:o≠20)=>hb.nb o ho
 have b:=h.nb
 refine⟨⟨(n 0 (by omega)).trans b.c0,(n 1 (by omega)).trans b.c1,(n 2 (by omega)).trans b.c2,(n 3 (by omega)).trans b.c3,(n 4 (by omega)).trans b.c4,(n 5 (by omega)).trans b.c5,(n 6 (by omega)).trans b.c6,(n 7 (by omega)).trans b.c7,(n 8 (by omega)).trans b.c8,(n 9 (by omega)).trans b.c9,(n 10 (by omega)).trans b.c10,(n 11 (by omega)).trans b.c11,(n 12 (by omega)).trans b.c12,(n 13 (by omega)).trans b.c13,(n 14 (by omega)).trans b.c14,(n 15 (by omega)).trans b.c15,(n 16 (by omega)).trans b.c16⟩,
  h.lo.below (hb.but.to_below h.lo.le (fun k e=>e.elim (fun e=>by rw [e];exact hs.ln) (fun⟨i,hi,e⟩=>by rw [e];exact hs.lq i hi))),(n 17 (by omega)).trans h.r,(n 18 (by omega)).trans h.n,fun i hi=>kD _ _ (h.cs i hi),fun i hi=>kD _ _ (h.cc i hi),fun i hi=>kD _ _ (h.cq i hi),fun i hi=>kD _ _ (h.cg i hi),fun i hi=>gotAt_but (h.ga i hi) hb.but (fun b' C e e2=>?_),hq⟩
 rcases e2 with e2 | ⟨j,hj,e2⟩
 ·exact hng i b' C hi e e2
 ·exact hs.gq i j b' C hi hj e e2
theorem info53:(Tryz.prog.info? 53).map (fun i=>(i.zero,i.size,i.bytes))=some (some (Z Y 0),1,8):=by kernel_rfl
theorem net_hosts (c:NC) (NB LO ND round:Nat) (m:Nm) (st:Nat→Nat) (ck:Nat→Int) (q:Nat→Nat→Option Nat) (g:Nat→Option (List (Nat×Nat))) (u20:Value) (w:Zw) (hc:NOk c) (hn:NdOk w c NB LO ND round m st ck q g) (hs:Sep c NB LO ND m)
 (hng:∀ i b C,i < c.N→m.gv i=.slice (some ⟨b,0,none⟩) (c.N+c.ps.length) C→b≠NB) (h20:w.cell? ⟨NB,20,none⟩=some u20) (hf:∀ o,w.frozen? ⟨NB,o,none⟩=false)
 (hcl:∀ k,k < c.cl.length→(c.cl.getD k ⟨0,0,0,0⟩).round=round→(c.cl.getD k ⟨0,0,0,0⟩).node < c.N∧(c.cl.getD k ⟨0,0,0,0⟩).pair=0∧(c.cl.getD k ⟨0,0,0,0⟩).v≤255∧st (c.cl.getD k ⟨0,0,0,0⟩).node≠0∧qK c.cl round q k (c.cl.getD k ⟨0,0,0,0⟩).node (c.cl.getD k ⟨0,0,0,0⟩).node=none) :
 Zc Zp 33 #[.pointer (some ⟨NB,0,none⟩)] w fun e w'=>e=.returned (.tuple #[])∧HostBut w w' c NB m∧(∀ i,i < c.N→QAt w' (m.Q i) (c.N+c.ps.length) (qK c.cl round q c.cl.length i))∧∃ u,w'.cell? ⟨NB,20,none⟩=some u:=by
 have n0:=hc.cf.n0
 have n1:=hc.cf.n1
 have lNB:NB < w.heap.size:=Zl w _ hn.r
 have HN:=O hn
 have HC:=O hc
 have HS:=O hs
 have HNG:=O hng
 have HF:=O hf
 have HCl:=O hcl
 have hcn:=hc.cl
 obtain⟨j0,hi0,hz0,hz1,hz2⟩:=info_parts info53
 have HI0:=O hi0
 have HZ0:=O (And.intro hz0 (And.intro hz1 hz2))
 have k9:=hn.nb.c9
 have f20:=hf 20
 clear hi0 hz0 hz1 hz2 hc hn hs hng hf hcl
 go_enter Tryz.func33,Tryz.ntmps33
 go_wp2_with fail
 go_loopw [13] (fun t wr=>∃(k n:Nat) (xs:List Value) (v:Value),k≤c.cl.length∧t=Z Y k∧n≤k∧wr.cell? ⟨NB,20,none⟩=some v∧wr.ownsRow w.heap.size 53 1 v n xs∧HostBut w wr c NB m∧∀ i,i < c.N→QAt wr (m.Q i) (c.N+c.ps.length) (qK c.cl round q k i)) (fun t _=>c.cl.length-(intOf t).toNat)
 case atStart =>
  refine⟨0,0,[],.slice none 0 0,by omega,rfl,by omega,World.cell?_setCell_same _ _ _ h20,World.ownsRow_nil _ _ _ _,HostBut.set _,fun i hi=>(HN.out.qa i hi).keep (by simp [World.setCell]) (Below.heap_setCell _ _ _ _ (HS.out.qn i hi))⟩
 case round =>
  obtain⟨k,n,xs,v,hk,rfl,hnk,hv20,hown,hhb,hqa⟩:=hrel
  by_cases hlt:k < c.cl.length
  ·have lk:(k:Int) < (c.cl.length:Int):=by omega
   have HHB:=O hhb
   have HQA:=O hqa
   have HO:=O hown
   have hN:=NdOk.host HN.out HS.out HNG.out hhb hqa
   have HNr:=O hN
   obtain⟨eb,eo,ee,hel,e0,e1,e2,e3⟩:=hN.lo.cl k hlt
   have hcx:=O (HCl.out k hlt)
   have hqs:=O (show qK c.cl round q (k+1)=if(c.cl.getD k ⟨0,0,0,0⟩).round=round then fun i=>if i=(c.cl.getD k ⟨0,0,0,0⟩).node then sentQ (qK c.cl round q k i) (c.cl.getD k ⟨0,0,0,0⟩).node (c.cl.getD k ⟨0,0,0,0⟩).v else qK c.cl round q k i else qK c.cl round q k from rfl)
   generalize c.cl.getD k ⟨0,0,0,0⟩=x at *
   obtain⟨xr,xn,xp,xv⟩:=x
   dsimp only at e0 e1 e2 e3 hcx hqs
   have m17:=hN.r
   have lNr:NB < wr.heap.size:=Zl _ _ m17
   have hm9:=hN.nb.c9
   rw [ee]at *
   have HB1:=O (show Zb wr.heap.size wr (wr.alloc (.cells #[Z Y xr,Z Y xn,Z Y xp,Z Y xv] 52))from(Zf _ _).alloc (Zr _) _)
   have hX1:=Zh wr (.cells #[Z Y xr,Z Y xn,Z Y xp,Z Y xv] 52)
   clear hhb hqa hown hN
   go_upto_region 4 with fail
   generalize wr.alloc (.cells #[Z Y xr,Z Y xn,Z Y xp,Z Y xv] 52)=wa at *
   have HX1:=O hX1
   have lB:=heap_lt hX1
   have y0:wa.cell? ⟨wr.heap.size,0,none⟩=some (Z Y xr):=by rw [blk_cell hX1];rfl
   have y1:wa.cell? ⟨wr.heap.size,1,none⟩=some (Z Y xn):=by rw [blk_cell hX1];rfl
   have y2:wa.cell? ⟨wr.heap.size,2,none⟩=some (Z Y xp):=by rw [blk_cell hX1];rfl
   have y3:wa.cell? ⟨wr.heap.size,3,none⟩=some (Z Y xv):=by rw [blk_cell hX1];rfl
   have n17:=keep_of m17 lNr HB1.out
   have n20:=keep_of hv20 lNr HB1.out
   have HOa:=O (own_below HO.out HB1.out)
   have HHa:=O (HHB.out.trans (HostBut.below HB1.out lNr))
   have HQa:=O (show ∀ i,i < c.N→QAt wa (m.Q i) (c.N+c.ps.length) (qK c.cl round q k i)from fun i hi=>(HQA.out i hi).below HB1.out)
   have lNa:NB < wa.heap.size:=Nat.lt_of_lt_of_le lNr HB1.out.size
   have hwz:=HHB.out.but.size
   have hwz2:=HB1.out.size
   clear hX1 m17 hv20 hm9 e0 e1 e2 e3
   refine wp_region_held_drew (S:=fun w'=>w'.cell? ⟨wr.heap.size,0,none⟩=some (Z Y xr)∧w'.cell? ⟨NB,17,none⟩=some (Z Y round)) (by kernel_rfl) ⟨y0,n17⟩ (fun hHeld=>?_)
   refine rgT 0 ?_
   refine rgT 1 ?_
   refine rgT 2 ?_
   refine rgT 3 ?_
   refine rgT 4 ?_
   refine rgT 5 ?_
   refine rgT 6 ?_
   refine wpAnyH_done (by kernel_rfl) ?_ _
   by_cases hr:xr=round
   ·subst hr
    obtain⟨hx1,hx2,hx3,hx4,hx5⟩:=hcx.out rfl
    subst hx2
    have hqs1:=O (hqs.out.trans (if_pos rfl))
    have hqx:m.Q xn < w.heap.size:=(HN.out.qa xn hx1).lt
    have HCa:=O (fun w' (hb:Zb wa.heap.size wa w')=>net_call c NB LO ND xr m st ck (qK c.cl xr q k) g xr xn xv w' HC.out ((NdOk.host HN.out HS.out HNG.out HHa.out HQa.out).below HS.out hb) HS.out hx1 hx4 hx3 hx5)
    have hqn:=HS.out.qn xn hx1
    clear hcx hqs hx3 hx4 hx5
    go_upto_region 5 with fail
    refine AT.wp_region_tail (S:=fun w'=>w'.cell? ⟨NB,20,none⟩=some v∧w'.cell? ⟨wr.heap.size,0,none⟩=some (Z Y xr)∧w'.cell? ⟨wr.heap.size,1,none⟩=some (Z Y xn)∧w'.cell? ⟨wr.heap.size,2,none⟩=some (Z Y 0)∧w'.cell? ⟨wr.heap.size,3,none⟩=some (Z Y xv)) [12] (by kernel_rfl) ⟨n20,y0,y1,y2,y3⟩ (fun hHeld=>?_)
    refine rgU 0 ?_
    refine rgU 1 ?_
    refine rgU 2 ?_
    refine rgU 3 ?_
    refine rgU 4 ?_
    refine rgU 5 ?_
    refine rgU 6 ?_
    refine rgV 7 fun K hK=>?_
    go_simp
    refine(HCa.out _ (Zf _ _).drew.drew).mono ?_
    rintro e w2 ⟨rfl,hbq',hq2⟩
    have hbq:But (fun b=>b=m.Q xn) wa w2:=⟨hbq'.os,hbq'.tape,hbq'.output,hbq'.size,hbq'.block⟩
    have HBq:=O hbq
    have HH2:=O (HHa.out.trans (HostBut.far hbq lNa (fun e=>hqn e.symm) (fun k _ e=>⟨xn,hx1,e⟩)))
    have HQ2:=O (show ∀ i,i < c.N→QAt w2 (m.Q i) (c.N+c.ps.length) (qK c.cl xr q (k+1) i)from fun i hi=>by
     rw [hqs1.out]
     by_cases e:i=xn
     ·subst e;simp only [if_true];exact hq2
     ·simp only [if_neg e];exact(HQa.out i hi).but hbq (fun e2=>e (HS.out.qq i xn hi hx1 e2)))
    have HO2:=O (own_but HOa.out hbq (fun b hb e=>by omega))
    have k20:=(hbq.cell (p:=⟨NB,20,none⟩) lNa (fun e=>hqn e.symm)).trans n20
    have z0:=(hbq.cell (p:=⟨wr.heap.size,0,none⟩) lB (by show ¬ wr.heap.size=m.Q xn;omega)).trans y0
    have z1:=(hbq.cell (p:=⟨wr.heap.size,1,none⟩) lB (by show ¬ wr.heap.size=m.Q xn;omega)).trans y1
    have z2:=(hbq.cell (p:=⟨wr.heap.size,2,none⟩) lB (by show ¬ wr.heap.size=m.Q xn;omega)).trans y2
    have z3:=(hbq.cell (p:=⟨wr.heap.size,3,none⟩) lB (by show ¬ wr.heap.size=m.Q xn;omega)).trans y3
    have hz2:=hbq.size
    have lB2:wr.heap.size < w2.heap.size:=by omega
    clear hbq hbq' hq2 y0 y1 y2 y3 n20 n17
    go_simp
    refine hK.out _ _ ⟨k20,z0,z1,z2,z3⟩ (fun hHeld=>?_)
    clear hK K
    refine rgV 8 fun K hK=>?_
    go_simp
    refine hK.out _ _ ⟨alloc_keep k20,alloc_keep z0,alloc_keep z1,alloc_keep z2,alloc_keep z3⟩ (fun hHeld=>?_)
    clear hK K
    refine rgV 9 fun K hK=>?_
    refine step_append_lies _ (by rfl) _ _ _ (by rfl) w.heap.size 53 j0 (Z Y 0) 1 8 Tryz.underlying74 HI0.out HZ0.out.1 HZ0.out.2.1 HZ0.out.2.2 rfl (by omega) v n xs (by rfl) (HO2.out.alloc _) ⟨w2.heap.size,0,none⟩ 1 1 [Z Y 0] (by rfl) (by rfl) (World.news_of_block (cs:=#[Z Y 0]) (t:=53) (fr:=(0,0)) (Zh w2 _)) (by simp [Value.oneCell']) (by omega) (by unfold maxLen;omega) (by omega) (by simp;omega) (w2.heap.size+1) (by simp) ?_
    intro gg cap w3 hown3 hgrow hat hlt3
    have hb23:But (fun b=>w.heap.size≤b∧v.ownBlock=some b) w2 w3:=But.grown (But.alloc (But.refl _ w2) _) hgrow (fun q hq =>.inl ⟨ownsRow_block HO2.out hq,hq⟩)
    have nlt:∀ b,b < w.heap.size→¬(w.heap.size≤b∧v.ownBlock=some b):=fun b hb e=>by omega
    have HH3:=O (show HostBut w w3 c NB m from⟨⟨hb23.os.trans HH2.out.but.os,hb23.tape.trans HH2.out.but.tape,hb23.output.trans HH2.out.but.output,Nat.le_trans HH2.out.but.size hb23.size,fun b hb hn=>(hb23.block b (Nat.lt_of_lt_of_le hb HH2.out.but.size) (nlt b hb)).trans (HH2.out.but.block b hb hn)⟩,fun o ho=>(hb23.cell (p:=⟨NB,o,none⟩) (Nat.lt_of_lt_of_le lNa hz2) (nlt NB lNB)).trans (HH2.out.nb o ho),fun o=>(hb23.frozen (p:=⟨NB,o,none⟩) (Nat.lt_of_lt_of_le lNa hz2) (nlt NB lNB)).trans (HH2.out.fr o)⟩)
    have HQ3:=O (show ∀ i,i < c.N→QAt w3 (m.Q i) (c.N+c.ps.length) (qK c.cl xr q (k+1) i)from fun i hi=>(HQ2.out i hi).but hb23 (nlt _ (HN.out.qa i hi).lt))
    have nB:¬(w.heap.size≤wr.heap.size∧v.ownBlock=some wr.heap.size):=fun e=>by have:=(HO.out.lt _ e.2).2;omega
    have l20:=(hb23.cell (p:=⟨NB,20,none⟩) (Nat.lt_of_lt_of_le lNa hz2) (nlt NB lNB)).trans k20
    have t0:=(hb23.cell (p:=⟨wr.heap.size,0,none⟩) lB2 nB).trans z0
    have t1:=(hb23.cell (p:=⟨wr.heap.size,1,none⟩) lB2 nB).trans z1
    have t2:=(hb23.cell (p:=⟨wr.heap.size,2,none⟩) lB2 nB).trans z2
    have t3:=(hb23.cell (p:=⟨wr.heap.size,3,none⟩) lB2 nB).trans z3
    have yN:w3.frozen? ⟨NB,20,none⟩=false:=(HH3.out.fr 20).trans (HF.out 20)
    have HO3:=O hown3
    clear hgrow hown3 hb23 nlt nB z0 z1 z2 z3 k20 hat
    refine hK.out _ _ ⟨l20,t0,t1,t2,t3⟩ (fun hHeld=>?_)
    clear hK K
    try simp only [Act.put,List.getElem_toArray,List.getElem_cons_succ,List.getElem_cons_zero,List.setIfInBounds_toArray,List.set_cons_zero,List.set_cons_succ]
    refine rgV 10 fun K hK=>?_
    go_simp
    refine hK.out _ _ ⟨l20,t0,t1,t2,t3⟩ (fun hHeld=>?_)
    clear hK K
    refine rgV 11 fun K hK=>?_
    go_simp
    refine hK.out _ _ ⟨l20,t0,t1,t2,t3⟩ (fun hHeld=>?_)
    clear hK K
    refine rgW 12 fun K hK=>?_
    go_simp
    refine hK.out _ _ ?_
    clear hK K
    refine AT.wpT_done (by kernel_rfl) ?_ _
    have HL20:=O l20
    clear l20 t0 t1 t2 t3 yN hHeld
    go_wp2
    go_roundw
    case rel=>exact⟨k+1,n+1,xs ++ [Z Y 0],.slice (some ⟨gg,0,none⟩) (n+1) cap,by omega,by go_num,by omega,World.cell?_setCell_same _ _ _ HL20.out,ownsRow_setCell_below HO3.out (show NB < w.heap.size from lNB) _,HH3.out.trans (HostBut.set _),fun i hi=>(HQ3.out i hi).keep (by simp [World.setCell]) (Below.heap_setCell _ _ _ _ (HS.out.qn i hi))⟩
    case measure=>simp [intOf];omega
   ·have hqs1:=O (hqs.out.trans (if_neg hr))
    have hrn:((xr:Int) == (round:Int))=false:=by simp;omega
    have hrn':(xr == round)=false:=by simp;omega
    clear hcx hqs hr
    go_wp2_with fail
    go_roundw
    case rel=>exact⟨k+1,n,xs,v,by omega,by go_num,by omega,n20,HOa.out.drew,⟨HHa.out.but.drew,HHa.out.nb,HHa.out.fr⟩,fun i hi=>by rw [hqs1.out];exact(HQa.out i hi).keep (Zr _) rfl⟩
    case measure=>simp [intOf];omega
  ·obtain rfl:k=c.cl.length:=by omega
   have HHB:=O hhb
   have HQA:=O hqa
   have HV20:=O hv20
   clear hhb hqa hown hv20
   go_wp2
   go_end0
   exact⟨rfl,HHB.out,HQA.out,_,HV20.out⟩
end A56
namespace A57
open Go.RowKit A14 A22 A39 A41 A45 A47 A48 E5 A51
def SyncIs (st i:Nat) (l:List Hd) (d:Int):Prop:=∀(A:Option Addr) (C:Nat) (w:Zw),Hds w A l →
 Zc Zp 72 #[Z Y st,Z Y i,.slice A l.length C] w fun e w'=>e=.returned (Z Y d)∧Zb w.heap.size w w'
theorem gotAt_slice {w:Zw} {v:Value} {S:Nat} {g:Option (List (Nat×Nat))} (h:GotAt w v S g):∃ A L C,v=.slice A L C:=by
 cases g with
 | none=>exact⟨none,0,0,h⟩
 | some l=>obtain⟨_,b,C,e,_⟩:=h;exact⟨_,_,_,e⟩
theorem own_slice {w:Zw} {base e size n:Nat} {v:Value} {xs:List Value} (h:w.ownsRow base e size v n xs):∃ A C,v=.slice A n C:=by
 rcases own_split h with⟨h1,h2⟩ | ⟨g,cap,h1,_⟩
 ·subst h2;exact⟨none,0,h1⟩
 ·exact⟨_,_,h1⟩
def gotE (tk:Nat→Nat→Option Fr) (i S:Nat):List (Nat×Nat):=(List.range S).map fun s=>itemF (tk s i)
theorem gotE_at (tk:Nat→Nat→Option Fr) (i S s:Nat) (h:s < S):(gotE tk i S).getD s (0,0)=itemF (tk s i):=by
 unfold gotE
 rw [List.getD_eq_getElem?_getD,List.getElem?_map,List.getElem?_range h]
 rfl
theorem gotE_length (tk:Nat→Nat→Option Fr) (i S:Nat):(gotE tk i S).length=S:=by simp [gotE]
def GotRow (w:Zw) (GB S k:Nat) (f:Nat→Nat×Nat):Prop:=GB < w.heap.size∧(∀ o,w.frozen? ⟨GB,o,none⟩=false)∧∀ s,s < S→∃ a b:Nat,w.cell? ⟨GB,s*2,none⟩=some (Z Y a)∧w.cell? ⟨GB,s*2+1,none⟩=some (Z Y b)∧(s < k→a=(f s).1∧b=(f s).2)
theorem GotRow.keep {w w1:Zw} {GB S k:Nat} {f:Nat→Nat×Nat} (h:GotRow w GB S k f) (hs:w.heap.size≤w1.heap.size) (hk:w1.heap[GB]?=w.heap[GB]?):GotRow w1 GB S k f:=by
 have c:∀ o,w1.cell? ⟨GB,o,none⟩=w.cell? ⟨GB,o,none⟩:=fun o=>World.cell?_of_block (a:=⟨GB,o,none⟩) hk
 exact⟨Nat.lt_of_lt_of_le h.1 hs,fun o=>(World.frozen?_of_block (w:=w) (a:=⟨GB,o,none⟩) hk).trans (h.2.1 o),fun s hs=>by obtain⟨a,b,h1,h2,h3⟩:=h.2.2 s hs;exact⟨a,b,(c _).trans h1,(c _).trans h2,h3⟩⟩
theorem GotRow.set {w:Zw} {GB S k:Nat} {f:Nat→Nat×Nat} (h:GotRow w GB S k f) (hk:k < S) (x y:Nat) (hx:x=(f k).1) (hy:y=(f k).2):GotRow ((w.setCell ⟨GB,k*2,none⟩ (Z Y x)).setCell ⟨GB,k*2+1,none⟩ (Z Y y)) GB S (k+1) f:=by
 refine⟨by simpa [World.setCell]using h.1,fun o=>by rw [World.frozen?_setCell,World.frozen?_setCell];exact h.2.1 o,fun s hs=>?_⟩
 obtain⟨a,b,h1,h2,h3⟩:=h.2.2 s hs
 by_cases e:s=k
 ·subst e
  exact⟨x,y,set_keep2 (World.cell?_setCell_same _ _ _ h1) (by omega),World.cell?_setCell_same _ _ _ (set_keep2 h2 (by omega)),fun _=>⟨hx,hy⟩⟩
 ·exact⟨a,b,set_keep2 (set_keep2 h1 (by omega)) (by omega),set_keep2 (set_keep2 h2 (by omega)) (by omega),fun hl=>h3 (by omega)⟩
theorem GotRow.all {w:Zw} {GB S i:Nat} {tk:Nat→Nat→Option Fr} (h:GotRow w GB S S (fun s=>itemF (tk s i))):GotAt w (.slice (some ⟨GB,0,none⟩) S S) S (some (gotE tk i S)):=by
 refine⟨gotE_length _ _ _,GB,S,rfl,h.1,fun s hs=>?_⟩
 rw [gotE_length]at hs
 obtain⟨a,b,h1,h2,h3⟩:=h.2.2 s hs
 obtain⟨e1,e2⟩:=h3 hs
 refine⟨GB,0,rfl,h.1,?_,?_⟩
 ·rw [gotE_at _ _ _ _ hs,Nat.zero_add,h1,e1]
 ·rw [gotE_at _ _ _ _ hs,Nat.zero_add,h2,e2]
theorem nd7 {w:Zw} {B:Nat} {x0 x1 x2 x3 x4 x5 x6 a b c d q g l:Value} (h:w.heap[B]?=some (.cells #[x0,x1,x2,x3,x4,x5,x6] 79 (0,0))) :
 (((((((w.setCell ⟨B,0,none⟩ a).setCell ⟨B,1,none⟩ b).setCell ⟨B,2,none⟩ c).setCell ⟨B,3,none⟩ d).setCell ⟨B,4,none⟩ q).setCell ⟨B,5,none⟩ g).setCell ⟨B,6,none⟩ l).heap[B]?=some (.cells #[a,b,c,d,q,g,l] 79 (0,0)):=by
 simp [World.setCell,Array.getElem?_modify,h]
def EndPost (c:NC) (LO:Nat) (m:Nm) (i:Nat) (st' tm' was':Nat) (ck':Int) (g':Option (List (Nat×Nat))) (n':Nat) (xs':List Value) (lv:Value) (w:Zw) (e:Ending) (w':Zw):Prop :=
 ∃ GA GL GC LA LC,e=.returned (.agg #[Z Y st',Z Y tm',Z Y was',Z Y ck',.slice (some ⟨m.Q i,0,none⟩) (c.N+c.ps.length) (m.QC i),.slice GA GL GC,.slice LA n' LC]) ∧
  GotAt w' (.slice GA GL GC) (c.N+c.ps.length) g'∧(.slice GA GL GC=m.gv i∨∀ b C,Value.slice GA GL GC=.slice (some ⟨b,0,none⟩) (c.N+c.ps.length) C→w.heap.size≤b∧(Value.slice LA n' LC).ownBlock≠some b) ∧
  w'.ownsRow LO 48 4 (.slice LA n' LC) n' xs'∧(∀ q,(Value.slice LA n' LC).ownBlock=some q→lv.ownBlock=some q∨w.heap.size≤q)∧But (fun b=>lv.ownBlock=some b) w w'
end A57
namespace A58
open Go.RowKit A11 A14 A18 A35 A41 A45 A48 A51 A56 A57
theorem end_off {c:NC} {LO i n tm:Nat} {m:Nm} {ckv:Int} {g:Option (List (Nat×Nat))} {xs:List Value} {GA LA:Option Addr} {GL GC LC:Nat} {w w':Zw} (hg:GotAt w (m.gv i) (c.N+c.ps.length) g) (hgv:m.gv i=.slice GA GL GC) (ho:w.ownsRow LO 48 4 (.slice LA n LC) n xs) (hb:But (fun b=>w.heap.size≤b) w w') :
 EndPost c LO m i 0 tm 0 ckv g n xs (.slice LA n LC) w (.returned (.agg #[Z Y 0,Z Y tm,Z Y 0,Z Y ckv,.slice (some ⟨m.Q i,0,none⟩) (c.N+c.ps.length) (m.QC i),.slice GA GL GC,.slice LA n LC])) w':=by
 have hB:Zb w.heap.size w w':=hb.to_below (Zr _) (fun k h=>h)
 refine⟨GA,GL,GC,LA,LC,rfl,?_,.inl hgv.symm,own_below ho hB,fun q hq =>.inl hq,But.of_below hB (Zr _)⟩
 rw [← hgv]
 exact gotAt_but (T:=fun _=>False) hg (But.of_below hB (Zr _)) (fun _ _ _ h=>h)
theorem net_end_off (c:NC) (NB LO ND round i n tm was:Nat) (m:Nm) (st:Nat→Nat) (ck:Nat→Int) (q:Nat→Nat→Option Nat) (g:Nat→Option (List (Nat×Nat))) (lv:Value) (xs:List Value) (w:Zw) (hn:NdOk w c NB LO ND round m st ck q g)
 (hi:i < c.N) (h0:st i=0) (ht:w.cell? ⟨ND,i*7+1,none⟩=some (Z Y tm)) (hw:w.cell? ⟨ND,i*7+2,none⟩=some (Z Y was)) (hl:w.cell? ⟨ND,i*7+6,none⟩=some lv) (ho:w.ownsRow LO 48 4 lv n xs) :
 Zc Zp 36 #[.pointer (some ⟨NB,0,none⟩),Z Y i] w (EndPost c LO m i 0 tm 0 (ck i) (g i) n xs lv w):=by
 have lND:ND < w.heap.size:=Zl w _ ht
 obtain⟨GA,GL,GC,hgv⟩:=gotAt_slice (hn.ga i hi)
 obtain⟨LA,LC,rfl⟩:=own_slice ho
 have c18:=hn.n
 have c0:=hn.cs i hi
 have c3:=hn.cc i hi
 have c4:=hn.cq i hi
 have c5:=hn.cg i hi
 have HGA:=O (hn.ga i hi)
 have HO:=O ho
 have HGV:=O hgv
 rw [h0]at c0
 rw [hgv]at c5
 have i0:(i:Int) < (c.N:Int):=by omega
 generalize hck:ck i=ckv at *
 clear hn ho hgv h0 hck
 go_enter Tryz.func36,Tryz.ntmps36
 go_upto_region 1 with fail
 have HBa:=O ((Zf w.heap.size w).alloc (Zr _) (.cells #[Z Y 0,Z Y 0,Z Y 0,Z Y 0,.slice none 0 0,.slice none 0 0,.slice none 0 0] 79))
 have hRa:=Zh w (.cells #[Z Y 0,Z Y 0,Z Y 0,Z Y 0,.slice none 0 0,.slice none 0 0,.slice none 0 0] 79)
 generalize w.alloc (.cells #[Z Y 0,Z Y 0,Z Y 0,Z Y 0,.slice none 0 0,.slice none 0 0,.slice none 0 0] 79)=wa at *
 have lNB:NB < w.heap.size:=Zl w _ c18
 have lR:=heap_lt hRa
 have d18:=keep_of c18 lNB HBa.out
 have d0:=keep_of c0 lND HBa.out
 have d1:=keep_of ht lND HBa.out
 have d2:=keep_of hw lND HBa.out
 have d3:=keep_of c3 lND HBa.out
 have d4:=keep_of c4 lND HBa.out
 have d5:=keep_of c5 lND HBa.out
 have d6:=keep_of hl lND HBa.out
 have z0:wa.cell? ⟨w.heap.size,0,none⟩=some (Z Y 0):=by rw [blk_cell hRa];rfl
 have z1:wa.cell? ⟨w.heap.size,1,none⟩=some (Z Y 0):=by rw [blk_cell hRa];rfl
 have z2:wa.cell? ⟨w.heap.size,2,none⟩=some (Z Y 0):=by rw [blk_cell hRa];rfl
 have z3:wa.cell? ⟨w.heap.size,3,none⟩=some (Z Y 0):=by rw [blk_cell hRa];rfl
 have z4:wa.cell? ⟨w.heap.size,4,none⟩=some (.slice none 0 0):=by rw [blk_cell hRa];rfl
 have z5:wa.cell? ⟨w.heap.size,5,none⟩=some (.slice none 0 0):=by rw [blk_cell hRa];rfl
 have z6:wa.cell? ⟨w.heap.size,6,none⟩=some (.slice none 0 0):=by rw [blk_cell hRa];rfl
 have yR:∀ o,wa.frozen? ⟨w.heap.size,o,none⟩=false:=fun o=>blk_frozen hRa o
 have HRa:=O hRa
 clear hRa c18 c0 c3 c4 c5 ht hw hl
 go_wp2_with fail
 have hW:=blk_alloc (nd7 (a:=(Z Y 0)) (b:=(Z Y tm)) (c:=(Z Y 0)) (d:=(Z Y ckv)) (q:=(.slice (some ⟨m.Q i,0,none⟩) (c.N+c.ps.length) (m.QC i))) (g:=(.slice GA GL GC)) (l:=(.slice LA n LC)) HRa.out) (.cells #[Z Y 0,Z Y tm,Z Y 0,Z Y ckv,.slice (some ⟨m.Q i,0,none⟩) (c.N+c.ps.length) (m.QC i),.slice GA GL GC,.slice LA n LC] 79)
 have hbW:But (fun b=>w.heap.size≤b) w ((((((((wa.setCell ⟨w.heap.size,0,none⟩ (Z Y 0)).setCell ⟨w.heap.size,1,none⟩ (Z Y tm)).setCell ⟨w.heap.size,2,none⟩ (Z Y 0)).setCell ⟨w.heap.size,3,none⟩ (Z Y ckv)).setCell ⟨w.heap.size,4,none⟩ (.slice (some ⟨m.Q i,0,none⟩) (c.N+c.ps.length) (m.QC i))).setCell ⟨w.heap.size,5,none⟩ (.slice GA GL GC)).setCell ⟨w.heap.size,6,none⟩ (.slice LA n LC)).alloc (.cells #[Z Y 0,Z Y tm,Z Y 0,Z Y ckv,.slice (some ⟨m.Q i,0,none⟩) (c.N+c.ps.length) (m.QC i),.slice GA GL GC,.slice LA n LC] 79)):=by
  refine But.alloc ?_ _
  repeat refine But.setCell ?_ (by left;exact Zr _) _
  exact But.of_below HBa.out (Zr _)
 generalize ((((((((wa.setCell ⟨w.heap.size,0,none⟩ (Z Y 0)).setCell ⟨w.heap.size,1,none⟩ (Z Y tm)).setCell ⟨w.heap.size,2,none⟩ (Z Y 0)).setCell ⟨w.heap.size,3,none⟩ (Z Y ckv)).setCell ⟨w.heap.size,4,none⟩ (.slice (some ⟨m.Q i,0,none⟩) (c.N+c.ps.length) (m.QC i))).setCell ⟨w.heap.size,5,none⟩ (.slice GA GL GC)).setCell ⟨w.heap.size,6,none⟩ (.slice LA n LC)).alloc (.cells #[Z Y 0,Z Y tm,Z Y 0,Z Y ckv,.slice (some ⟨m.Q i,0,none⟩) (c.N+c.ps.length) (m.QC i),.slice GA GL GC,.slice LA n LC] 79))=W at *
 have v0:W.cell? ⟨w.heap.size,0,none⟩=some (Z Y 0):=by rw [blk_cell hW];rfl
 have v1:W.cell? ⟨w.heap.size,1,none⟩=some (Z Y tm):=by rw [blk_cell hW];rfl
 have v2:W.cell? ⟨w.heap.size,2,none⟩=some (Z Y 0):=by rw [blk_cell hW];rfl
 have v3:W.cell? ⟨w.heap.size,3,none⟩=some (Z Y ckv):=by rw [blk_cell hW];rfl
 have v4:W.cell? ⟨w.heap.size,4,none⟩=some (.slice (some ⟨m.Q i,0,none⟩) (c.N+c.ps.length) (m.QC i)):=by rw [blk_cell hW];rfl
 have v5:W.cell? ⟨w.heap.size,5,none⟩=some (.slice GA GL GC):=by rw [blk_cell hW];rfl
 have v6:W.cell? ⟨w.heap.size,6,none⟩=some (.slice LA n LC):=by rw [blk_cell hW];rfl
 refine bodyPost_ret (v :=.agg #[Z Y 0,Z Y tm,Z Y 0,Z Y ckv,.slice (some ⟨m.Q i,0,none⟩) (c.N+c.ps.length) (m.QC i),.slice GA GL GC,.slice LA n LC]) (by simp [results,Tryz.results36,go_sem,v0,v1,v2,v3,v4,v5,v6]) rfl ?_
 exact end_off HGA.out HGV.out HO.out hbW
end A58
end Go.Proofs.YtdbempiompiioaaGreat
