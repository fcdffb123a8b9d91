/- A node behind the round. All nodes behind the round. All nodes behind the round: the walk. All slots Conditions: the bounds stated in each theorem. -/
import Derived.Test.YtdbempiompiioaaGreatT12
set_option linter.unusedVariables false
set_option linter.unusedSimpArgs false
set_option maxRecDepth 100000
set_option maxHeartbeats 80000000
open Go.Value renaming int → Z
open Go.IntKind renaming i64 → Y
open Go renaming World → Zw, Calls → Zc, heap_alloc_new → Zh
open Go.RowKit renaming Below → Zb
open Go.Proofs.Tryz renaming prog → Zp
open Go.Lib renaming hid → O
open Go.World renaming block_lt_of_cell? → Zl, cell?_setCell_other → Zo
open Nat renaming le_refl → Zr
open Go.RowKit.Below renaming refl → Zf
namespace Go.Proofs.YtdbempiompiioaaGreat
namespace A59
open Go.RowKit A1 A11 A14 A18 A22 A33 A35 A41 A45 A46 A47 A48 A49 E5 A51 A52 A54 A56 A57
structure LogSep (c:NC) (NB ND base:Nat) (m:Nm) (lv:Value):Prop where
 nb:lv.ownBlock≠some NB
 nd:lv.ownBlock≠some ND
 q:∀ j,j < c.N→lv.ownBlock≠some (m.Q j)
 g:∀ j b C,j < c.N→m.gv j=.slice (some ⟨b,0,none⟩) (c.N+c.ps.length) C→lv.ownBlock≠some b
 lt:∀ b,lv.ownBlock=some b→b < base
theorem NdOk.far {w w1:Zw} {c:NC} {NB LO ND round:Nat} {m:Nm} {st:Nat→Nat} {ck:Nat→Int} {q:Nat→Nat→Option Nat} {g:Nat→Option (List (Nat×Nat))} {T:Nat→Prop} (h:NdOk w c NB LO ND round m st ck q g) (hb:But T w w1)
 (h1:¬ T NB) (h2:¬ T ND) (h3:∀ i,i < c.N→¬ T (m.Q i)) (h4:∀ i b C,i < c.N→m.gv i=.slice (some ⟨b,0,none⟩) (c.N+c.ps.length) C→¬ T b) (h5:∀ k,T k→LO≤k):NdOk w1 c NB LO ND round m st ck q g:=by
 have lNB:=Zl w _ h.r
 have kN:∀ o,w1.cell? ⟨NB,o,none⟩=w.cell? ⟨NB,o,none⟩:=fun o=>hb.cell (p:=⟨NB,o,none⟩) lNB h1
 have kD:∀ o v,w.cell? ⟨ND,o,none⟩=some v→w1.cell? ⟨ND,o,none⟩=some v:=fun o v hv=>(hb.cell (p:=⟨ND,o,none⟩) (Zl w _ hv) h2).trans hv
 exact⟨h.nb.keep (hb.block NB lNB h1),h.lo.below (hb.to_below h.lo.le h5),(kN _).trans h.r,(kN _).trans h.n,fun i hi=>kD _ _ (h.cs i hi),fun i hi=>kD _ _ (h.cc i hi),fun i hi=>kD _ _ (h.cq i hi),fun i hi=>kD _ _ (h.cg i hi),fun i hi=>gotAt_but (h.ga i hi) hb (fun b C e=>h4 i b C hi e),fun i hi=>(h.qa i hi).but hb (h3 i hi)⟩
theorem own_but2 {w w1:Zw} {base e size n:Nat} {v:Value} {xs:List Value} {T:Nat→Prop} (h:w.ownsRow base e size v n xs) (hb:But T w w1) (hT:∀ b,v.ownBlock=some b→¬ T b):w1.ownsRow base e size v n xs:=by
 obtain⟨hl,hx⟩:=h
 refine⟨hl,?_⟩
 rcases hx with h0 | ⟨g,cap,cur,rfl,hg,hh,h1,h2,h3,h4⟩
 ·exact .inl h0
 ·exact .inr ⟨g,cap,cur,rfl,hg,(hb.block g (heap_lt hh) (hT g rfl)).trans hh,h1,h2,h3,h4⟩
theorem nd5 {w:Zw} {B:Nat} {x0 x1 x2 x3 x4 x5 x6 a:Value} (h:w.heap[B]?=some (.cells #[x0,x1,x2,x3,x4,x5,x6] 79 (0,0))):(w.setCell ⟨B,5,none⟩ a).heap[B]?=some (.cells #[x0,x1,x2,x3,x4,a,x6] 79 (0,0)):=by
 simp [World.setCell,Array.getElem?_modify,h]
theorem nd3 {w:Zw} {B:Nat} {x0 x1 x2 x3 x4 x5 x6 a:Value} (h:w.heap[B]?=some (.cells #[x0,x1,x2,x3,x4,x5,x6] 79 (0,0))):(w.setCell ⟨B,3,none⟩ a).heap[B]?=some (.cells #[x0,x1,x2,a,x4,x5,x6] 79 (0,0)):=by
 simp [World.setCell,Array.getElem?_modify,h]
theorem nd01 {w:Zw} {B:Nat} {x0 x1 x2 x3 x4 x5 x6 a b:Value} (h:w.heap[B]?=some (.cells #[x0,x1,x2,x3,x4,x5,x6] 79 (0,0))):((w.setCell ⟨B,0,none⟩ a).setCell ⟨B,1,none⟩ b).heap[B]?=some (.cells #[a,b,x2,x3,x4,x5,x6] 79 (0,0)):=by
 simp [World.setCell,Array.getElem?_modify,h]
theorem gotRow_new {w:Zw} {b n:Nat} {f:Nat→Nat×Nat} (h:w.heap[b]?=some (.cells (madeCells #[Z Y 0,Z Y 0] (n*2)) 44 (0,0))):GotRow w b n 0 f:=by
 refine⟨heap_lt h,fun o=>blk_frozen h o,fun s hs=>⟨0,0,?_,?_,fun e=>by omega⟩⟩
 ·rw [blk_cell h,made_at _ _ _ (by omega)]
  have:s*2%2=0:=by omega
  simp [this]
 ·rw [blk_cell h,made_at _ _ _ (by omega)]
  have:(s*2+1)%2=1:=by omega
  simp [this]
theorem nd6 {w:Zw} {B:Nat} {x0 x1 x2 x3 x4 x5 x6 a:Value} (h:w.heap[B]?=some (.cells #[x0,x1,x2,x3,x4,x5,x6] 79 (0,0))):(w.setCell ⟨B,6,none⟩ a).heap[B]?=some (.cells #[x0,x1,x2,x3,x4,x5,a] 79 (0,0)):=by
 simp [World.setCell,Array.getElem?_modify,h]
theorem lineCells_one (r:Int) (f:Nat→Int×Int) (n:Nat):∀ u ∈ lineCells r f n,u.oneCell'=true:=by
 induction n with
 | zero=>intro u hu;simp [lineCells]at hu
 | succ n ih =>
  intro u hu
  unfold lineCells at hu
  rw [List.mem_append]at hu
  rcases hu with hu | hu
  ·exact ih u hu
  ·simp at hu
   rcases hu with rfl | rfl | rfl | rfl <;> rfl
theorem net_end_plain (c:NC) (NB LO ND SB SC round i n tm was base:Nat) (m:Nm) (st:Nat→Nat) (ck:Nat→Int) (q:Nat→Nat→Option Nat) (g:Nat→Option (List (Nat×Nat))) (lv:Value) (xs:List Value) (tk:Nat→Nat→Option Fr) (d:Int) (w:Zw) (hc:NOk c) (hn:NdOk w c NB LO ND round m st ck q g) (hs:Sep c NB LO ND m)
 (hi:i < c.N) (h1:1≤st i) (h4:st i≤4) (htm:tm≤400) (hrb:round≤900) (ht:w.cell? ⟨ND,i*7+1,none⟩=some (Z Y tm)) (hw:w.cell? ⟨ND,i*7+2,none⟩=some (Z Y was)) (hl:w.cell? ⟨ND,i*7+6,none⟩=some lv) (ho:w.ownsRow LO 48 4 lv n xs)
 (h19:w.cell? ⟨NB,19,none⟩=some (.slice (some ⟨SB,0,none⟩) (c.N+c.ps.length) SC)) (hS:SlotsMem w base SB (c.N+c.ps.length) c.N tk) (hbase:base≤w.heap.size) (hbd:∀ i,i < c.N → -1000000≤ck i∧ck i≤1000000) (hls:LogSep c NB ND base m lv)
 (hsy:SyncIs (st i) i (hdK (fun k=>tk k i) (fun k=>devF c round ck k i) c.N) d) (hd : -2000000≤d∧d≤2000000) (hnl:¬(st i=4∧was=4)) :
 Zc Zp 36 #[.pointer (some ⟨NB,0,none⟩),Z Y i] w (EndPost c LO m i (stNext c.N i (st i) tm (hdK (fun k=>tk k i) (fun k=>devF c round ck k i) c.N).length).1 (stNext c.N i (st i) tm (hdK (fun k=>tk k i) (fun k=>devF c round ck k i) c.N).length).2 (st i) (ck i+d) (some (gotE tk i (c.N+c.ps.length))) n xs lv w):=by
 have n0:=hc.cf.n0
 have n1:=hc.cf.n1
 have n2:=hc.cf.len
 have lND:ND < w.heap.size:=Zl w _ ht
 have lNB:NB < w.heap.size:=Zl w _ hn.r
 obtain⟨GA,GL,GC,hgv⟩:=gotAt_slice (hn.ga i hi)
 obtain⟨LA,LC,rfl⟩:=own_slice ho
 have HN:=O hn
 have HC:=O hc
 have HSp:=O hs
 have HS:=O hS
 have HO:=O ho
 have HLS:=O hls
 have HSY:=O hsy
 have HBD:=O hbd
 have H19:=O h19
 have hgl0:LO≤w.heap.size:=hn.lo.le
 have hll:=hdK_le (fun k=>tk k i) (fun k=>devF c round ck k i) c.N
 have HHe:=O (fun(w':Zw) (hN':NdOk w' c NB LO ND round m st ck q g) (h':w'.cell? ⟨NB,19,none⟩=some (.slice (some ⟨SB,0,none⟩) (c.N+c.ps.length) SC)) (hS':SlotsMem w' base SB (c.N+c.ps.length) c.N tk)=>net_heard c NB LO ND SB SC round i base m st ck q g tk w' hc hN' hs h' hS' hi hrb hbd)
 generalize hdK (fun k=>tk k i) (fun k=>devF c round ck k i) c.N=hl' at *
 have HNx:=O (fun(w':Zw)=>state_Next c.N c.Pi c.Er c.G c.Fi c.PA c.ps.length c.PC i (st i) tm hl'.length w' (by omega) (by omega) h1 h4 (by omega) (by omega))
 generalize (stNext c.N i (st i) tm hl'.length).1=s' at *
 generalize (stNext c.N i (st i) tm hl'.length).2=t' at *
 have HSl:=O (fun w=>conf_Slots c.N c.Pi c.Er c.G c.Fi c.PA c.ps.length c.PC w (by omega) (by omega) (by omega))
 rw [← Int.natCast_add]at HSl
 have hmk:=fun w=>mk59 (c.N+c.ps.length) (by omega) w
 have MK:=O hmk
 have HIt:=O (fun(w':Zw) (s:Nat) (h':w'.cell? ⟨NB,19,none⟩=some (.slice (some ⟨SB,0,none⟩) (c.N+c.ps.length) SC)) (hS':SlotsMem w' base SB (c.N+c.ps.length) c.N tk) (hs:s < c.N+c.ps.length)=>net_item NB SB (c.N+c.ps.length) c.N SC s i base tk w' h' hS' hs hi)
 have c18:=hn.n
 have c0:=hn.cs i hi
 have c3:=hn.cc i hi
 have c4:=hn.cq i hi
 have c5:=hn.cg i hi
 rw [hgv]at c5
 have i0:(i:Int) < (c.N:Int):=by omega
 have hbi:=hbd i hi
 have eW:IntKind.i64.wrap (ck i+d)=ck i+d:=by rw [IntKind.wrap_i64];omega
 have HE1:=O h1
 generalize hck:ck i=ckv at *
 generalize hst:st i=sv at *
 have Hck:=O hck
 have Hst:=O hst
 have HGV:=O hgv
 have z0:((sv:Int) == 0)=false:=by simp;omega
 have z0':(sv == 0)=false:=by simp;omega
 have hq4:(((sv:Int) == 4)=true∧((was:Int) == 4)=false∧(sv == 4)=true∧(was == 4)=false)∨(((sv:Int) == 4)=false∧(sv == 4)=false):=by
  by_cases h:sv=4
  ·left;simp;omega
  ·right;simp;omega
 clear hn hc hs hS ho hls hsy hbd h19 hmk hck hst hgv
 rcases hq4 with⟨p1,p2,p3,p4⟩ | ⟨p1,p2⟩
 all_goals
  go_enter Tryz.func36,Tryz.ntmps36
  go_upto_region 1 with fail
  have HBa:=O ((Zf w.heap.size w).alloc (Zr _) (.cells #[Z Y 0,Z Y 0,Z Y 0,Z Y 0,.slice none 0 0,.slice none 0 0,.slice none 0 0] 79))
  have hRa:=Zh w (.cells #[Z Y 0,Z Y 0,Z Y 0,Z Y 0,.slice none 0 0,.slice none 0 0,.slice none 0 0] 79)
  generalize w.alloc (.cells #[Z Y 0,Z Y 0,Z Y 0,Z Y 0,.slice none 0 0,.slice none 0 0,.slice none 0 0] 79)=wa at *
  have lR:=heap_lt hRa
  have d18:=keep_of c18 lNB HBa.out
  have d0:=keep_of c0 lND HBa.out
  have d1:=keep_of ht lND HBa.out
  have d2:=keep_of hw lND HBa.out
  have d3:=keep_of c3 lND HBa.out
  have d4:=keep_of c4 lND HBa.out
  have d5:=keep_of c5 lND HBa.out
  have d6:=keep_of hl lND HBa.out
  have HRa:=O hRa
  clear hRa c18 c0 c3 c4 c5 ht hw hl
  go_upto_region 6 with fail
  have HBb:=O (HBa.out.alloc HBa.out.size (.cells #[Z Y sv,Z Y tm,Z Y was,Z Y ckv,.slice (some ⟨m.Q i,0,none⟩) (c.N+c.ps.length) (m.QC i),.slice GA GL GC,.slice LA n LC] 79))
  have hX:=Zh wa (.cells #[Z Y sv,Z Y tm,Z Y was,Z Y ckv,.slice (some ⟨m.Q i,0,none⟩) (c.N+c.ps.length) (m.QC i),.slice GA GL GC,.slice LA n LC] 79)
  have hR:=blk_alloc HRa.out (.cells #[Z Y sv,Z Y tm,Z Y was,Z Y ckv,.slice (some ⟨m.Q i,0,none⟩) (c.N+c.ps.length) (m.QC i),.slice GA GL GC,.slice LA n LC] 79)
  generalize wa.alloc (.cells #[Z Y sv,Z Y tm,Z Y was,Z Y ckv,.slice (some ⟨m.Q i,0,none⟩) (c.N+c.ps.length) (m.QC i),.slice GA GL GC,.slice LA n LC] 79)=w1 at *
  generalize hXB:wa.heap.size=X at *
  have hwX:w.heap.size < X:=lR
  clear d18 d0 d1 d2 d3 d4 d5 d6 HRa HBa lR hXB
  have HLB:=O (show ∀ q,(Value.slice LA n LC).ownBlock=some q→q≠X∧q≠w.heap.size∧q < w1.heap.size from fun q e=>by have:=HLS.out.lt q e;have:=HBb.out.size;omega)
  have hND1:=HN.out.below HSp.out HBb.out
  have hS1:=HS.out.below HBb.out
  have hO1:=own_below HO.out HBb.out
  have hB1:But (fun b=>(Value.slice LA n LC).ownBlock=some b) w w1:=But.of_below HBb.out (Zr _)
  have HX1:=O hX
  have HR1:=O hR
  have HND1:=O hND1
  have HS1:=O hS1
  have HO1:=O hO1
  have HB1:=O hB1
  have lX1:=heap_lt hX
  have lB1:w.heap.size≤w1.heap.size:=hB1.size
  have e0:=hND1.nb.c0
  have e1:=hND1.nb.c1
  have e2:=hND1.nb.c2
  have e3:=hND1.nb.c3
  have e4:=hND1.nb.c4
  have e5:=hND1.nb.c5
  have x5:w1.cell? ⟨X,5,none⟩=some (.slice GA GL GC):=by rw [blk_cell hX];rfl
  have x2:w1.cell? ⟨X,2,none⟩=some (Z Y was):=by rw [blk_cell hX];rfl
  have yX:∀ o,w1.frozen? ⟨X,o,none⟩=false:=fun o=>blk_frozen hX o
  clear hX hR hND1 hS1 hO1 hB1
  go_wp2_with fail
  refine(HSl.out _).mono ?_
  rintro e w2 ⟨rfl,hb2⟩
  have HB2:=O hb2
  have hX2:=(hb2.block _ lX1).trans HX1.out
  have x5':w2.cell? ⟨X,5,none⟩=some (.slice GA GL GC):=by rw [blk_cell hX2];rfl
  have yX':∀ o,w2.frozen? ⟨X,o,none⟩=false:=fun o=>blk_frozen hX2 o
  have HX2:=O hX2
  have lX2:=heap_lt hX2
  have hz2:=hb2.size
  have hmk:=MK.out
  rw [Int.natCast_add]at hmk
  clear hb2 hX2 e0 e1 e2 e3 e4 e5 x5 yX x2
  go_upto_region 9 with fail
  clear x5' yX'
  have hW3:((w2.setCell ⟨X,5,none⟩ (.slice (some ⟨w2.heap.size,0,none⟩) (c.N+c.ps.length) (c.N+c.ps.length))).alloc (.cells (madeCells #[Z Y 0,Z Y 0] ((c.N+c.ps.length)*2)) 44)).heap[w2.heap.size]?=some (.cells (madeCells #[Z Y 0,Z Y 0] ((c.N+c.ps.length)*2)) 44 (0,0)):=by
   have:=Zh (w2.setCell ⟨X,5,none⟩ (.slice (some ⟨w2.heap.size,0,none⟩) (c.N+c.ps.length) (c.N+c.ps.length))) (.cells (madeCells #[Z Y 0,Z Y 0] ((c.N+c.ps.length)*2)) 44)
   simpa [World.setCell]using this
  have hX3:=blk_alloc (nd5 (a :=.slice (some ⟨w2.heap.size,0,none⟩) (c.N+c.ps.length) (c.N+c.ps.length)) HX2.out) (.cells (madeCells #[Z Y 0,Z Y 0] ((c.N+c.ps.length)*2)) 44)
  have hR3:((w2.setCell ⟨X,5,none⟩ (.slice (some ⟨w2.heap.size,0,none⟩) (c.N+c.ps.length) (c.N+c.ps.length))).alloc (.cells (madeCells #[Z Y 0,Z Y 0] ((c.N+c.ps.length)*2)) 44)).heap[w.heap.size]?=some (.cells #[Z Y 0,Z Y 0,Z Y 0,Z Y 0,.slice none 0 0,.slice none 0 0,.slice none 0 0] 79 (0,0)):=blk_alloc ((Below.heap_setCell _ _ _ _ (show w.heap.size≠X by omega)).trans ((HB2.out.block _ (heap_lt HR1.out)).trans HR1.out)) _
  have hF3:But (fun b=>b=w.heap.size∨b=X∨b=w2.heap.size) w1 ((w2.setCell ⟨X,5,none⟩ (.slice (some ⟨w2.heap.size,0,none⟩) (c.N+c.ps.length) (c.N+c.ps.length))).alloc (.cells (madeCells #[Z Y 0,Z Y 0] ((c.N+c.ps.length)*2)) 44)):=(((But.of_below HB2.out (Zr _)).setCell (p:=⟨X,5,none⟩) (.inl (.inr (.inl rfl))) _).alloc _)
  generalize ((w2.setCell ⟨X,5,none⟩ (.slice (some ⟨w2.heap.size,0,none⟩) (c.N+c.ps.length) (c.N+c.ps.length))).alloc (.cells (madeCells #[Z Y 0,Z Y 0] ((c.N+c.ps.length)*2)) 44))=w3 at *
  generalize hGB:w2.heap.size=GB at *
  have HG3:=O (gotRow_new (f:=fun s=>itemF (tk s i)) hW3)
  have HX3:=O hX3
  have HR3:=O hR3
  have HF3:=O hF3
  have hGX:X < GB:=by omega
  have HNr:=O (show ∀ wr,But (fun b=>b=w.heap.size∨b=X∨b=GB) w1 wr→NdOk wr c NB LO ND round m st ck q g from fun wr hF=>NdOk.far HND1.out hF (by omega) (by omega) (fun j hj e=>by have:=(HN.out.qa j hj).lt;omega) (fun j b C hj e e2=>by
   have hlt:b < w.heap.size:=by
    have hga:=HN.out.ga j hj
    cases hgj:g j with
    | none=>rw [hgj]at hga;rw [show m.gv j=.slice none 0 0 from hga]at e;cases e
    | some l =>
     rw [hgj]at hga
     obtain⟨_,b',C',e',hlt,_⟩:=hga
     rw [e']at e
     injection e with e _ _
     injection e with e
     injection e with e _
     omega
   omega) (fun k e=>by omega))
  have HSr:=O (show ∀ wr,But (fun b=>b=w.heap.size∨b=X∨b=GB) w1 wr→SlotsMem wr base SB (c.N+c.ps.length) c.N tk from fun wr hF=>HS.out.keep (Nat.le_trans HB1.out.size hF.size) (fun b hb hlt=>(hF.block b (Nat.lt_of_lt_of_le hlt HB1.out.size) (by omega)).trans (HB1.out.block b hlt (fun e=>by have:=HLS.out.lt b e;omega))))
  have H19r:=O (show ∀ wr,But (fun b=>b=w.heap.size∨b=X∨b=GB) w1 wr→wr.cell? ⟨NB,19,none⟩=some (.slice (some ⟨SB,0,none⟩) (c.N+c.ps.length) SC)from fun wr hF=>((hF.cell (p:=⟨NB,19,none⟩) (Nat.lt_of_lt_of_le lNB HB1.out.size) (by show ¬(NB=w.heap.size∨NB=X∨NB=GB);omega)).trans (HB1.out.cell (p:=⟨NB,19,none⟩) lNB HLS.out.nb)).trans H19.out)
  have x5:w3.cell? ⟨X,5,none⟩=some (.slice (some ⟨GB,0,none⟩) (c.N+c.ps.length) (c.N+c.ps.length)):=by rw [blk_cell hX3];rfl
  clear hW3 hX3 hR3 hF3 HX2 hGB HB2
  go_wp2_with fail
  clear x5
  go_loopw [47] (fun t wr=>∃ k:Nat,k≤c.N+c.ps.length∧t=Z Y k∧But (fun b=>b=w.heap.size∨b=X∨b=GB) w1 wr∧wr.heap[X]?=some (.cells #[Z Y sv,Z Y tm,Z Y was,Z Y ckv,.slice (some ⟨m.Q i,0,none⟩) (c.N+c.ps.length) (m.QC i),.slice (some ⟨GB,0,none⟩) (c.N+c.ps.length) (c.N+c.ps.length),.slice LA n LC] 79 (0,0))∧wr.heap[w.heap.size]?=some (.cells #[Z Y 0,Z Y 0,Z Y 0,Z Y 0,.slice none 0 0,.slice none 0 0,.slice none 0 0] 79 (0,0))∧GotRow wr GB (c.N+c.ps.length) k (fun s=>itemF (tk s i))) (fun t _=>c.N+c.ps.length-(intOf t).toNat)
  case atStart=>exact⟨0,by omega,rfl,HF3.out,HX3.out,HR3.out,HG3.out⟩
  case round =>
   obtain⟨k,hk,rfl,hF,hX,hR,hG⟩:=hrel
   have HFr:=O hF
   have HXr:=O hX
   have HRr:=O hR
   have HGr:=O hG
   have lXr:=heap_lt hX
   have lGr:=hG.1
   by_cases hlt:k < c.N+c.ps.length
   ·have lk:(k:Int) < ((c.N+c.ps.length:Nat):Int):=by omega
    have lk2:(k:Int) < (c.N:Int)+(c.ps.length:Int):=by omega
    have x5:wr.cell? ⟨X,5,none⟩=some (.slice (some ⟨GB,0,none⟩) (c.N+c.ps.length) (c.N+c.ps.length)):=by rw [blk_cell hX];rfl
    have HIk:=O (fun w' (hb:Zb wr.heap.size wr w')=>HIt.out w' k (H19r.out w' (HFr.out.below hb)) (HSr.out w' (HFr.out.below hb)) hlt)
    obtain⟨v1,hv1⟩:∃ v1,v1=(itemF (tk k i)).1:=⟨_,rfl⟩
    obtain⟨v2,hv2⟩:∃ v2,v2=(itemF (tk k i)).2:=⟨_,rfl⟩
    rw [← hv1,← hv2]at HIk
    have HEq:=O (And.intro hv1 hv2)
    clear hv1 hv2
    clear hF hX hR hG
    go_upto_region 12 with fail
    refine wp_region_held_drew (S:=fun w'=>w'.cell? ⟨X,5,none⟩=some (.slice (some ⟨GB,0,none⟩) (c.N+c.ps.length) (c.N+c.ps.length))) (by kernel_rfl) x5 (fun hHeld=>?_)
    refine rgT 0 ?_
    refine rgT 1 ?_
    refine rgT 2 ?_
    refine rgT 3 ?_
    refine rgT 4 ?_
    refine rgT 5 ?_
    refine rgR 6 fun K hK=>?_
    go_simp
    refine(HIk.out _ (Zf _ _).drew).mono ?_
    rintro e w5 ⟨rfl,hb5'⟩
    have hb5:Zb wr.heap.size wr w5:=⟨hb5'.os,hb5'.tape,hb5'.output,hb5'.size,hb5'.block⟩
    have HB5:=O hb5
    have x55:=keep_of x5 lXr hb5
    have HG5:=O (HGr.out.keep hb5.size (hb5.block GB lGr))
    obtain⟨g1,g2,hg1,hg2,_⟩:=HG5.out.2.2 k hlt
    have yG:∀ o,w5.frozen? ⟨GB,o,none⟩=false:=HG5.out.2.1
    clear hb5 hb5'
    go_simp
    refine hK.out _ _ x55 (fun hHeld=>?_)
    clear hK K
    refine rgR 7 fun K hK=>?_
    go_simp
    refine hK.out _ _ x55 (fun hHeld=>?_)
    clear hK K
    refine rgR 8 fun K hK=>?_
    go_simp
    refine hK.out _ _ (set_keep (q:=⟨GB,k*2+1,none⟩) (set_keep (q:=⟨GB,k*2,none⟩) x55 (by show X≠GB;omega)) (by show X≠GB;omega)) (fun hHeld=>?_)
    clear hK K
    refine wpAnyH_done (by kernel_rfl) ?_ _
    clear x5 x55 hHeld yG hg1 hg2
    go_wp2_with fail
    go_roundw
    case rel=>exact⟨k+1,by omega,by go_num,((HFr.out.below HB5.out).setCell (p:=⟨GB,k*2,none⟩) (.inl (.inr (.inr rfl))) _).setCell (p:=⟨GB,k*2+1,none⟩) (.inl (.inr (.inr rfl))) _,((Below.heap_setCell _ _ _ _ (show X≠GB by omega)).trans (Below.heap_setCell _ _ _ _ (show X≠GB by omega))).trans ((HB5.out.block X lXr).trans HXr.out),((Below.heap_setCell _ _ _ _ (show w.heap.size≠GB by omega)).trans (Below.heap_setCell _ _ _ _ (show w.heap.size≠GB by omega))).trans ((HB5.out.block _ (heap_lt HRr.out)).trans HRr.out),HG5.out.set hlt v1 v2 HEq.out.1 HEq.out.2⟩
    case measure=>simp [intOf];omega
   ·obtain rfl:k=c.N+c.ps.length:=by omega
    clear hF hX hR hG
    have HHr:=O (HHe.out wr (HNr.out wr HFr.out) (H19r.out wr HFr.out) (HSr.out wr HFr.out))
    go_wp2_with fail
    refine HHr.out.mono ?_
    rintro e w4 ⟨hv,rfl,hown4,hb4⟩
    obtain⟨HA,HCc,rfl,hds⟩:=hds_own hown4
    have HB4:=O hb4
    have HD4:=O hds
    have hX4:=(hb4.block X lXr).trans HXr.out
    have x3:w4.cell? ⟨X,3,none⟩=some (Z Y ckv):=by rw [blk_cell hX4];rfl
    have lX4:=heap_lt hX4
    have HX4:=O hX4
    clear hown4 hb4 hds hX4 HHr
    go_upto_region 15 with fail
    refine AT.wp_region_tail (S:=fun w'=>w'.cell? ⟨X,3,none⟩=some (Z Y ckv)) [8] (by kernel_rfl) x3 (fun hHeld=>?_)
    refine rgU 0 ?_
    refine rgU 1 ?_
    refine rgU 2 ?_
    refine rgU 3 ?_
    refine rgU 4 ?_
    refine rgV 5 fun K hK=>?_
    go_simp
    refine(HSY.out HA HCc (World.drew w4) (HD4.out.below (Zf _ _).drew)).mono ?_
    rintro e w5 ⟨rfl,hb5'⟩
    have hb5:Zb w4.heap.size w4 w5:=⟨hb5'.os,hb5'.tape,hb5'.output,hb5'.size,hb5'.block⟩
    have hX5:=(hb5.block X lX4).trans HX4.out
    have x35:w5.cell? ⟨X,3,none⟩=some (Z Y ckv):=by rw [blk_cell hX5];rfl
    have yX5:w5.frozen? ⟨X,3,none⟩=false:=blk_frozen hX5 3
    have HX5:=O hX5
    have HB5:=O hb5
    have lX5:=heap_lt hX5
    clear hb5 hb5' hX5 x3
    go_simp
    refine hK.out _ _ x35 (fun hHeld=>?_)
    clear hK K
    refine rgU 6 ?_
    refine rgV 7 fun K hK=>?_
    go_simp
    refine hK.out _ _ x35 (fun hHeld=>?_)
    clear hK K
    refine rgW 8 fun K hK=>?_
    go_simp
    refine hK.out _ _ ?_
    clear hK K
    refine AT.wpT_done (by kernel_rfl) ?_ _
    have HF6:=O (((HFr.out.below HB4.out).below HB5.out).setCell (p:=⟨X,3,none⟩) (.inl (.inr (.inl rfl))) (Z Y (ckv+d)))
    have hX6:=nd3 (a :=Z Y (ckv+d)) HX5.out
    have HR6:=O ((Below.heap_setCell w5 ⟨X,3,none⟩ (Z Y (ckv+d)) w.heap.size (show w.heap.size≠X by omega)).trans ((HB5.out.block _ (Nat.lt_of_lt_of_le (heap_lt HRr.out) HB4.out.size)).trans ((HB4.out.block _ (heap_lt HRr.out)).trans HRr.out)))
    have HG6:=O (((HGr.out.keep HB4.out.size (HB4.out.block GB lGr)).keep HB5.out.size (HB5.out.block GB (Nat.lt_of_lt_of_le lGr HB4.out.size))).keep (w1:=w5.setCell ⟨X,3,none⟩ (Z Y (ckv+d))) (by simp [World.setCell]) (Below.heap_setCell _ _ _ _ (show GB≠X by omega)))
    generalize w5.setCell ⟨X,3,none⟩ (Z Y (ckv+d))=w6 at *
    have HX6:=O hX6
    have lX6:=heap_lt hX6
    have x1:w6.cell? ⟨X,1,none⟩=some (Z Y tm):=by rw [blk_cell hX6];rfl
    have hN6:=HNr.out w6 HF6.out
    have lN6:NB < w6.heap.size:=Zl _ _ hN6.r
    have hXN:X≠NB:=by omega
    have HK6:=O (show ∀ w',Zb w6.heap.size w6 w'→(w'.cell? ⟨X,1,none⟩=some (Z Y tm)∧w'.cell? ⟨NB,0,none⟩=some (Z Y c.N)∧w'.cell? ⟨NB,1,none⟩=some (Z Y c.Pi)∧w'.cell? ⟨NB,2,none⟩=some (Z Y c.Er)∧w'.cell? ⟨NB,3,none⟩=some (Z Y c.G)∧w'.cell? ⟨NB,4,none⟩=some (Z Y c.Fi)∧w'.cell? ⟨NB,5,none⟩=some (.slice c.PA c.ps.length c.PC))from fun w' hb=>⟨keep_of x1 lX6 hb,keep_of hN6.nb.c0 lN6 hb,keep_of hN6.nb.c1 lN6 hb,keep_of hN6.nb.c2 lN6 hb,keep_of hN6.nb.c3 lN6 hb,keep_of hN6.nb.c4 lN6 hb,keep_of hN6.nb.c5 lN6 hb⟩)
    clear hX6 x1 hN6 x35 yX5 hHeld HX5 HB5 HX4 HB4 HD4 HXr HRr HGr HFr
    go_upto_region 16 with fail
    refine AT.wp_region_tail (S:=fun w'=>w'.cell? ⟨X,1,none⟩=some (Z Y tm)∧w'.cell? ⟨NB,0,none⟩=some (Z Y c.N)∧w'.cell? ⟨NB,1,none⟩=some (Z Y c.Pi)∧w'.cell? ⟨NB,2,none⟩=some (Z Y c.Er)∧w'.cell? ⟨NB,3,none⟩=some (Z Y c.G)∧w'.cell? ⟨NB,4,none⟩=some (Z Y c.Fi)∧w'.cell? ⟨NB,5,none⟩=some (.slice c.PA c.ps.length c.PC)) [17] (by kernel_rfl) (HK6.out _ (Zf _ _).drew) (fun hHeld=>?_)
    refine rgU 0 ?_
    refine rgU 1 ?_
    refine rgU 2 ?_
    refine rgU 3 ?_
    refine rgU 4 ?_
    refine rgU 5 ?_
    refine rgU 6 ?_
    refine rgU 7 ?_
    refine rgU 8 ?_
    refine rgU 9 ?_
    refine rgV 10 fun K hK=>?_
    go_simp
    refine(HNx.out _).mono ?_
    rintro e w7 ⟨rfl,hb7'⟩
    have hb7:Zb w6.heap.size w6 w7:=⟨hb7'.os,hb7'.tape,hb7'.output,hb7'.size,hb7'.block⟩
    have HB7:=O hb7
    have hX7:=(hb7.block X lX6).trans HX6.out
    have HX7:=O hX7
    have h7:=HK6.out _ hb7
    have H7:=O h7
    have x07:w7.cell? ⟨X,0,none⟩=some (Z Y sv):=by rw [blk_cell hX7];rfl
    have yX7:∀ o,w7.frozen? ⟨X,o,none⟩=false:=fun o=>blk_frozen hX7 o
    clear hb7 hb7' hX7 h7
    go_simp
    refine hK.out _ _ H7.out (fun hHeld=>?_)
    clear hK K
    refine rgU 11 ?_
    refine rgU 12 ?_
    refine rgU 13 ?_
    refine rgV 14 fun K hK=>?_
    go_simp
    refine hK.out _ _ H7.out (fun hHeld=>?_)
    clear hK K
    refine rgV 15 fun K hK=>?_
    go_simp
    refine hK.out _ _ ⟨set_keep2 (o':=0) H7.out.1 (by omega),set_keep (q:=⟨X,0,none⟩) H7.out.2.1 (Ne.symm hXN),set_keep (q:=⟨X,0,none⟩) H7.out.2.2.1 (Ne.symm hXN),set_keep (q:=⟨X,0,none⟩) H7.out.2.2.2.1 (Ne.symm hXN),set_keep (q:=⟨X,0,none⟩) H7.out.2.2.2.2.1 (Ne.symm hXN),set_keep (q:=⟨X,0,none⟩) H7.out.2.2.2.2.2.1 (Ne.symm hXN),set_keep (q:=⟨X,0,none⟩) H7.out.2.2.2.2.2.2 (Ne.symm hXN)⟩ (fun hHeld=>?_)
    clear hK K
    refine rgV 16 fun K hK=>?_
    go_simp
    refine hK.out _ _ ⟨set_keep2 (o':=0) H7.out.1 (by omega),set_keep (q:=⟨X,0,none⟩) H7.out.2.1 (Ne.symm hXN),set_keep (q:=⟨X,0,none⟩) H7.out.2.2.1 (Ne.symm hXN),set_keep (q:=⟨X,0,none⟩) H7.out.2.2.2.1 (Ne.symm hXN),set_keep (q:=⟨X,0,none⟩) H7.out.2.2.2.2.1 (Ne.symm hXN),set_keep (q:=⟨X,0,none⟩) H7.out.2.2.2.2.2.1 (Ne.symm hXN),set_keep (q:=⟨X,0,none⟩) H7.out.2.2.2.2.2.2 (Ne.symm hXN)⟩ (fun hHeld=>?_)
    clear hK K
    refine rgW 17 fun K hK=>?_
    go_simp
    refine hK.out _ _ ?_
    clear hK K
    refine AT.wpT_done (by kernel_rfl) ?_ _
    have HF8:=O (((HF6.out.below HB7.out).setCell (p:=⟨X,0,none⟩) (.inl (.inr (.inl rfl))) (Z Y s')).setCell (p:=⟨X,1,none⟩) (.inl (.inr (.inl rfl))) (Z Y t'))
    have hX8:=nd01 (a :=Z Y s') (b :=Z Y t') HX7.out
    have hR8:=(Below.heap_setCell (w7.setCell ⟨X,0,none⟩ (Z Y s')) ⟨X,1,none⟩ (Z Y t') w.heap.size (show w.heap.size≠X by omega)).trans ((Below.heap_setCell w7 ⟨X,0,none⟩ (Z Y s') w.heap.size (show w.heap.size≠X by omega)).trans ((HB7.out.block _ (heap_lt HR6.out)).trans HR6.out))
    have HG8:=O ((HG6.out.keep HB7.out.size (HB7.out.block GB HG6.out.1)).keep (w1:=(w7.setCell ⟨X,0,none⟩ (Z Y s')).setCell ⟨X,1,none⟩ (Z Y t')) (by simp [World.setCell]) ((Below.heap_setCell _ _ _ _ (show GB≠X by omega)).trans (Below.heap_setCell _ _ _ _ (show GB≠X by omega))))
    generalize (w7.setCell ⟨X,0,none⟩ (Z Y s')).setCell ⟨X,1,none⟩ (Z Y t')=w8 at *
    have x0:w8.cell? ⟨X,0,none⟩=some (Z Y s'):=by rw [blk_cell hX8];rfl
    have z0:w8.cell? ⟨w.heap.size,0,none⟩=some (Z Y 0):=by rw [blk_cell hR8];rfl
    have x1:w8.cell? ⟨X,1,none⟩=some (Z Y t'):=by rw [blk_cell hX8];rfl
    have z1:w8.cell? ⟨w.heap.size,1,none⟩=some (Z Y 0):=by rw [blk_cell hR8];rfl
    have x2:w8.cell? ⟨X,2,none⟩=some (Z Y was):=by rw [blk_cell hX8];rfl
    have z2:w8.cell? ⟨w.heap.size,2,none⟩=some (Z Y 0):=by rw [blk_cell hR8];rfl
    have x3:w8.cell? ⟨X,3,none⟩=some (Z Y (ckv+d)):=by rw [blk_cell hX8];rfl
    have z3:w8.cell? ⟨w.heap.size,3,none⟩=some (Z Y 0):=by rw [blk_cell hR8];rfl
    have x4:w8.cell? ⟨X,4,none⟩=some (.slice (some ⟨m.Q i,0,none⟩) (c.N+c.ps.length) (m.QC i)):=by rw [blk_cell hX8];rfl
    have z4:w8.cell? ⟨w.heap.size,4,none⟩=some (.slice none 0 0):=by rw [blk_cell hR8];rfl
    have x5:w8.cell? ⟨X,5,none⟩=some (.slice (some ⟨GB,0,none⟩) (c.N+c.ps.length) (c.N+c.ps.length)):=by rw [blk_cell hX8];rfl
    have z5:w8.cell? ⟨w.heap.size,5,none⟩=some (.slice none 0 0):=by rw [blk_cell hR8];rfl
    have x6:w8.cell? ⟨X,6,none⟩=some (.slice LA n LC):=by rw [blk_cell hX8];rfl
    have z6:w8.cell? ⟨w.heap.size,6,none⟩=some (.slice none 0 0):=by rw [blk_cell hR8];rfl
    have yX:∀ o,w8.frozen? ⟨X,o,none⟩=false:=fun o=>blk_frozen hX8 o
    have yR:∀ o,w8.frozen? ⟨w.heap.size,o,none⟩=false:=fun o=>blk_frozen hR8 o
    have nRX:w.heap.size≠X:=by omega
    have nXR:X≠w.heap.size:=Ne.symm nRX
    have HR8:=O hR8
    clear hX8 hR8 hHeld x07 yX7
    go_wp2_with fail
    have hW:=nd7 (a:=(Z Y s')) (b:=(Z Y t')) (c:=(Z Y sv)) (d:=(Z Y (ckv+d))) (q:=(.slice (some ⟨m.Q i,0,none⟩) (c.N+c.ps.length) (m.QC i))) (g:=(.slice (some ⟨GB,0,none⟩) (c.N+c.ps.length) (c.N+c.ps.length))) (l:=(.slice LA n LC)) ((Below.heap_setCell w8 ⟨X,2,none⟩ (Z Y sv) w.heap.size nRX).trans HR8.out)
    have hFW:But (fun b=>b=w.heap.size∨b=X∨b=GB) w1 ((((((((w8.setCell ⟨X,2,none⟩ (Z Y sv)).setCell ⟨w.heap.size,0,none⟩ (Z Y s')).setCell ⟨w.heap.size,1,none⟩ (Z Y t')).setCell ⟨w.heap.size,2,none⟩ (Z Y sv)).setCell ⟨w.heap.size,3,none⟩ (Z Y (ckv+d))).setCell ⟨w.heap.size,4,none⟩ (.slice (some ⟨m.Q i,0,none⟩) (c.N+c.ps.length) (m.QC i))).setCell ⟨w.heap.size,5,none⟩ (.slice (some ⟨GB,0,none⟩) (c.N+c.ps.length) (c.N+c.ps.length))).setCell ⟨w.heap.size,6,none⟩ (.slice LA n LC)):=by
     repeat refine But.setCell ?_ (by left;left;rfl) _
     exact HF8.out.setCell (p:=⟨X,2,none⟩) (.inl (.inr (.inl rfl))) _
    have hGW:GotRow ((((((((w8.setCell ⟨X,2,none⟩ (Z Y sv)).setCell ⟨w.heap.size,0,none⟩ (Z Y s')).setCell ⟨w.heap.size,1,none⟩ (Z Y t')).setCell ⟨w.heap.size,2,none⟩ (Z Y sv)).setCell ⟨w.heap.size,3,none⟩ (Z Y (ckv+d))).setCell ⟨w.heap.size,4,none⟩ (.slice (some ⟨m.Q i,0,none⟩) (c.N+c.ps.length) (m.QC i))).setCell ⟨w.heap.size,5,none⟩ (.slice (some ⟨GB,0,none⟩) (c.N+c.ps.length) (c.N+c.ps.length))).setCell ⟨w.heap.size,6,none⟩ (.slice LA n LC)) GB (c.N+c.ps.length) (c.N+c.ps.length) (fun s=>itemF (tk s i)):=by
     refine HG8.out.keep (by simp [World.setCell]) ?_
     repeat rw [Below.heap_setCell _ _ _ _ (show GB≠w.heap.size by omega)]
     exact Below.heap_setCell _ _ _ _ (show GB≠X by omega)
    generalize ((((((((w8.setCell ⟨X,2,none⟩ (Z Y sv)).setCell ⟨w.heap.size,0,none⟩ (Z Y s')).setCell ⟨w.heap.size,1,none⟩ (Z Y t')).setCell ⟨w.heap.size,2,none⟩ (Z Y sv)).setCell ⟨w.heap.size,3,none⟩ (Z Y (ckv+d))).setCell ⟨w.heap.size,4,none⟩ (.slice (some ⟨m.Q i,0,none⟩) (c.N+c.ps.length) (m.QC i))).setCell ⟨w.heap.size,5,none⟩ (.slice (some ⟨GB,0,none⟩) (c.N+c.ps.length) (c.N+c.ps.length))).setCell ⟨w.heap.size,6,none⟩ (.slice LA n LC))=W at *
    have v0:W.cell? ⟨w.heap.size,0,none⟩=some (Z Y s'):=by rw [blk_cell hW];rfl
    have v1:W.cell? ⟨w.heap.size,1,none⟩=some (Z Y t'):=by rw [blk_cell hW];rfl
    have v2:W.cell? ⟨w.heap.size,2,none⟩=some (Z Y sv):=by rw [blk_cell hW];rfl
    have v3:W.cell? ⟨w.heap.size,3,none⟩=some (Z Y (ckv+d)):=by rw [blk_cell hW];rfl
    have v4:W.cell? ⟨w.heap.size,4,none⟩=some (.slice (some ⟨m.Q i,0,none⟩) (c.N+c.ps.length) (m.QC i)):=by rw [blk_cell hW];rfl
    have v5:W.cell? ⟨w.heap.size,5,none⟩=some (.slice (some ⟨GB,0,none⟩) (c.N+c.ps.length) (c.N+c.ps.length)):=by rw [blk_cell hW];rfl
    have v6:W.cell? ⟨w.heap.size,6,none⟩=some (.slice LA n LC):=by rw [blk_cell hW];rfl
    refine bodyPost_ret (v :=.agg #[Z Y s',Z Y t',Z Y sv,Z Y (ckv+d),.slice (some ⟨m.Q i,0,none⟩) (c.N+c.ps.length) (m.QC i),.slice (some ⟨GB,0,none⟩) (c.N+c.ps.length) (c.N+c.ps.length),.slice LA n LC]) (by simp [results,Tryz.results36,go_sem,v0,v1,v2,v3,v4,v5,v6]) rfl ?_
    refine⟨some ⟨GB,0,none⟩,c.N+c.ps.length,c.N+c.ps.length,LA,LC,rfl,hGW.all,.inr (fun b C e=>?_),own_but2 HO1.out hFW (fun b e=>?_),fun q e =>.inl e,?_⟩
    ·injection e with e _ _
     injection e with e
     injection e with e _
     subst e
     exact⟨by omega,fun e=>by have:=HLB.out _ e;omega⟩
    ·have:=HLB.out _ e
     show ¬(b=w.heap.size∨b=X∨b=GB)
     omega
    ·exact⟨hFW.os.trans HB1.out.os,hFW.tape.trans HB1.out.tape,hFW.output.trans HB1.out.output,Nat.le_trans HB1.out.size hFW.size,fun b hlt hnb=>(hFW.block b (Nat.lt_of_lt_of_le hlt HB1.out.size) (by show ¬(b=w.heap.size∨b=X∨b=GB);omega)).trans (HB1.out.block b hlt hnb)⟩
theorem net_end_log (c:NC) (NB LO ND SB SC round i n tm was base:Nat) (m:Nm) (st:Nat→Nat) (ck:Nat→Int) (q:Nat→Nat→Option Nat) (g:Nat→Option (List (Nat×Nat))) (lv:Value) (xs:List Value) (tk:Nat→Nat→Option Fr) (d:Int) (w:Zw) (hc:NOk c) (hn:NdOk w c NB LO ND round m st ck q g) (hs:Sep c NB LO ND m)
 (hi:i < c.N) (h1:1≤st i) (h4:st i≤4) (htm:tm≤400) (hrb:round≤900) (ht:w.cell? ⟨ND,i*7+1,none⟩=some (Z Y tm)) (hw:w.cell? ⟨ND,i*7+2,none⟩=some (Z Y was)) (hl:w.cell? ⟨ND,i*7+6,none⟩=some lv) (ho:w.ownsRow LO 48 4 lv n xs)
 (h19:w.cell? ⟨NB,19,none⟩=some (.slice (some ⟨SB,0,none⟩) (c.N+c.ps.length) SC)) (hS:SlotsMem w base SB (c.N+c.ps.length) c.N tk) (hbase:base≤w.heap.size) (hbd:∀ i,i < c.N → -1000000≤ck i∧ck i≤1000000) (hls:LogSep c NB ND base m lv)
 (hsy:SyncIs (st i) i (hdK (fun k=>tk k i) (fun k=>devF c round ck k i) c.N) d) (hd : -2000000≤d∧d≤2000000) (gl:List (Nat×Nat)) (hs4:st i=4) (hw4:was=4) (hgl:g i=some gl) (hr1:1≤round) (hn4:n≤4000) (hvk:∀ k s f,k < c.N→s < c.N+c.ps.length→k≠i→tk k i=some f→f.kind=3→s < f.echo.length) :
 Zc Zp 36 #[.pointer (some ⟨NB,0,none⟩),Z Y i] w (EndPost c LO m i (stNext c.N i (st i) tm (hdK (fun k=>tk k i) (fun k=>devF c round ck k i) c.N).length).1 (stNext c.N i (st i) tm (hdK (fun k=>tk k i) (fun k=>devF c round ck k i) c.N).length).2 (st i) (ck i+d) (some (gotE tk i (c.N+c.ps.length))) (n+(c.N+c.ps.length)) (xs ++ lineCells ((round:Int)-1) (lineF c.N c.ps tk gl i) (c.N+c.ps.length)) lv w):=by
 have n0:=hc.cf.n0
 have n1:=hc.cf.n1
 have n2:=hc.cf.len
 have lND:ND < w.heap.size:=Zl w _ ht
 have lNB:NB < w.heap.size:=Zl w _ hn.r
 obtain⟨GA,GL,GC,hgv⟩:=gotAt_slice (hn.ga i hi)
 obtain⟨LA,LC,rfl⟩:=own_slice ho
 have HN:=O hn
 have HC:=O hc
 have HSp:=O hs
 have HS:=O hS
 have HO:=O ho
 have HLS:=O hls
 have HSY:=O hsy
 have HBD:=O hbd
 have H19:=O h19
 have hgl0:LO≤w.heap.size:=hn.lo.le
 have hll:=hdK_le (fun k=>tk k i) (fun k=>devF c round ck k i) c.N
 have HHe:=O (fun(w':Zw) (hN':NdOk w' c NB LO ND round m st ck q g) (h':w'.cell? ⟨NB,19,none⟩=some (.slice (some ⟨SB,0,none⟩) (c.N+c.ps.length) SC)) (hS':SlotsMem w' base SB (c.N+c.ps.length) c.N tk)=>net_heard c NB LO ND SB SC round i base m st ck q g tk w' hc hN' hs h' hS' hi hrb hbd)
 generalize hdK (fun k=>tk k i) (fun k=>devF c round ck k i) c.N=hl' at *
 have HLn:=O (fun(w':Zw) (hN':NdOk w' c NB LO ND round m st ck q g) (h':w'.cell? ⟨NB,19,none⟩=some (.slice (some ⟨SB,0,none⟩) (c.N+c.ps.length) SC)) (hS':SlotsMem w' base SB (c.N+c.ps.length) c.N tk) (gb C:Nat) (hv:m.gv i=.slice (some ⟨gb,0,none⟩) (c.N+c.ps.length) C) (hI:Items w' (some ⟨gb,0,none⟩) gl) (hlen:gl.length=c.N+c.ps.length) =>
  net_lines c NB LO ND SB SC round i gb C base tk gl w' hc hN'.nb hN'.lo hN'.r hN'.n h' hS' (by rw [← hv];exact hN'.cg i hi) hI hlen hi hr1 hrb hvk)
 have HNx:=O (fun(w':Zw)=>state_Next c.N c.Pi c.Er c.G c.Fi c.PA c.ps.length c.PC i (st i) tm hl'.length w' (by omega) (by omega) h1 h4 (by omega) (by omega))
 generalize (stNext c.N i (st i) tm hl'.length).1=s' at *
 generalize (stNext c.N i (st i) tm hl'.length).2=t' at *
 have HSl:=O (fun w=>conf_Slots c.N c.Pi c.Er c.G c.Fi c.PA c.ps.length c.PC w (by omega) (by omega) (by omega))
 rw [← Int.natCast_add]at HSl
 have hmk:=fun w=>mk59 (c.N+c.ps.length) (by omega) w
 have MK:=O hmk
 have HIt:=O (fun(w':Zw) (s:Nat) (h':w'.cell? ⟨NB,19,none⟩=some (.slice (some ⟨SB,0,none⟩) (c.N+c.ps.length) SC)) (hS':SlotsMem w' base SB (c.N+c.ps.length) c.N tk) (hs:s < c.N+c.ps.length)=>net_item NB SB (c.N+c.ps.length) c.N SC s i base tk w' h' hS' hs hi)
 have c18:=hn.n
 have c0:=hn.cs i hi
 have c3:=hn.cc i hi
 have c4:=hn.cq i hi
 have c5:=hn.cg i hi
 rw [hgv]at c5
 have i0:(i:Int) < (c.N:Int):=by omega
 have hbi:=hbd i hi
 have eW:IntKind.i64.wrap (ck i+d)=ck i+d:=by rw [IntKind.wrap_i64];omega
 have HE1:=O h1
 generalize hck:ck i=ckv at *
 generalize hst:st i=sv at *
 have Hck:=O hck
 have Hst:=O hst
 have HGV:=O hgv
 have z0:((sv:Int) == 0)=false:=by simp;omega
 have z0':(sv == 0)=false:=by simp;omega
 have q4:((sv:Int) == 4)=true:=by simp;omega
 have q4':(sv == 4)=true:=by simp;omega
 have w4:((was:Int) == 4)=true:=by simp;omega
 have w4':(was == 4)=true:=by simp;omega
 have HGl:=O hgl
 clear hgl hs4 hw4
 clear hn hc hs hS ho hls hsy hbd h19 hmk hck hst hgv
 go_enter Tryz.func36,Tryz.ntmps36
 go_upto_region 1 with fail
 have HBa:=O ((Zf w.heap.size w).alloc (Zr _) (.cells #[Z Y 0,Z Y 0,Z Y 0,Z Y 0,.slice none 0 0,.slice none 0 0,.slice none 0 0] 79))
 have hRa:=Zh w (.cells #[Z Y 0,Z Y 0,Z Y 0,Z Y 0,.slice none 0 0,.slice none 0 0,.slice none 0 0] 79)
 generalize w.alloc (.cells #[Z Y 0,Z Y 0,Z Y 0,Z Y 0,.slice none 0 0,.slice none 0 0,.slice none 0 0] 79)=wa at *
 have lR:=heap_lt hRa
 have d18:=keep_of c18 lNB HBa.out
 have d0:=keep_of c0 lND HBa.out
 have d1:=keep_of ht lND HBa.out
 have d2:=keep_of hw lND HBa.out
 have d3:=keep_of c3 lND HBa.out
 have d4:=keep_of c4 lND HBa.out
 have d5:=keep_of c5 lND HBa.out
 have d6:=keep_of hl lND HBa.out
 have HRa:=O hRa
 clear hRa c18 c0 c3 c4 c5 ht hw hl
 go_upto_region 7 with fail
 have HBb:=O (HBa.out.alloc HBa.out.size (.cells #[Z Y sv,Z Y tm,Z Y was,Z Y ckv,.slice (some ⟨m.Q i,0,none⟩) (c.N+c.ps.length) (m.QC i),.slice GA GL GC,.slice LA n LC] 79))
 have hX:=Zh wa (.cells #[Z Y sv,Z Y tm,Z Y was,Z Y ckv,.slice (some ⟨m.Q i,0,none⟩) (c.N+c.ps.length) (m.QC i),.slice GA GL GC,.slice LA n LC] 79)
 have hR:=blk_alloc HRa.out (.cells #[Z Y sv,Z Y tm,Z Y was,Z Y ckv,.slice (some ⟨m.Q i,0,none⟩) (c.N+c.ps.length) (m.QC i),.slice GA GL GC,.slice LA n LC] 79)
 generalize wa.alloc (.cells #[Z Y sv,Z Y tm,Z Y was,Z Y ckv,.slice (some ⟨m.Q i,0,none⟩) (c.N+c.ps.length) (m.QC i),.slice GA GL GC,.slice LA n LC] 79)=w1 at *
 generalize hXB:wa.heap.size=X at *
 have hwX:w.heap.size < X:=lR
 clear d18 d0 d1 d2 d3 d4 d5 d6 HRa HBa lR hXB
 have HND0:=O (HN.out.below HSp.out HBb.out)
 have HS0:=O (HS.out.below HBb.out)
 have h19b:=keep_of H19.out lNB HBb.out
 have hga:=HN.out.ga i hi
 rw [HGl.out]at hga
 obtain⟨hlen,gb,C',hgve,hltg,hIg⟩:=hga
 have x6:w1.cell? ⟨X,6,none⟩=some (.slice LA n LC):=by rw [blk_cell hX];rfl
 have lX1':=heap_lt hX
 have HXa:=O hX
 have HRa:=O hR
 have HO0:=O (own_below HO.out HBb.out)
 have HLr:=O (HLn.out (World.drew w1) (HND0.out.below HSp.out (Zf _ _).drew) h19b (HS0.out.below (Zf _ _).drew) gb C' hgve (Items.below hIg HBb.out.drew) hlen)
 obtain⟨j1,hi1,hz0',hz1',hz2'⟩:=info_parts CL.info48
 have HI1:=O hi1
 have HZ1:=O (And.intro hz0' (And.intro hz1' hz2'))
 have hzb:=HBb.out.size
 clear hX hR hgve hltg hIg h19b HLn HND0 HS0 hi1 hz0' hz1' hz2' hlen
 refine AT.wp_region_tail (S:=fun w'=>w'.cell? ⟨X,6,none⟩=some (.slice LA n LC)) [7] (by kernel_rfl) x6 (fun hHeld=>?_)
 refine rgU 0 ?_
 refine rgU 1 ?_
 refine rgU 2 ?_
 refine rgU 3 ?_
 refine rgV 4 fun K hK=>?_
 go_simp
 refine HLr.out.mono ?_
 rintro e w5 ⟨lvv,rfl,hown5,hb5'⟩
 have hb5:Zb w1.heap.size w1 w5:=⟨hb5'.os,hb5'.tape,hb5'.output,hb5'.size,hb5'.block⟩
 obtain⟨gL,cL,rfl,hgLg,hgLl,hgLc⟩:=own_some hown5 (by omega)
 have HLc:=O hgLc
 have HB5:=O hb5
 have HO5:=O (own_below HO0.out hb5)
 have x65:=keep_of x6 lX1' hb5
 have hz5:=hb5.size
 clear hb5 hb5' hown5 hgLc x6 HLr
 go_simp
 refine hK.out _ _ x65 (fun hHeld=>?_)
 clear hK K
 refine rgV 5 fun K hK=>?_
 refine step_append_lies _ (by rfl) _ _ _ (by rfl) LO 48 j1 (.agg #[Z Y 0,Z Y 0,Z Y 0,Z Y 0]) 4 32 Tryz.underlying45 HI1.out HZ1.out.1 HZ1.out.2.1 HZ1.out.2.2 rfl (by omega) (.slice LA n LC) n xs (by rfl) HO5.out ⟨gL,0,none⟩ (c.N+c.ps.length) cL (lineCells ((round:Int)-1) (lineF c.N c.ps tk gl i) (c.N+c.ps.length)) (by rfl) (by rw [lineCells_length]) (fun j u hj=>by rw [add0];exact HLc.out j u hj) (lineCells_one _ _ _) (by omega) (by unfold maxLen;omega) (by omega) (by omega) w5.heap.size rfl ?_
 intro gg cap w6 hown6 hgrow hat hlt6
 have hb56:But (fun b=>(Value.slice LA n LC).ownBlock=some b) w5 w6:=But.grown (But.refl _ w5) hgrow (fun q hq =>.inl hq)
 have hXo:¬(Value.slice LA n LC).ownBlock=some X:=fun e=>by have:=HLS.out.lt X e;omega
 have hRo:¬(Value.slice LA n LC).ownBlock=some w.heap.size:=fun e=>by have:=HLS.out.lt _ e;omega
 have lX5:X < w5.heap.size:=Nat.lt_of_lt_of_le lX1' HB5.out.size
 have hX6:=(hb56.block X lX5 hXo).trans ((HB5.out.block X lX1').trans HXa.out)
 have hR6:=(hb56.block w.heap.size (by omega) hRo).trans ((HB5.out.block w.heap.size (heap_lt HRa.out)).trans HRa.out)
 have x66:w6.cell? ⟨X,6,none⟩=some (.slice LA n LC):=by rw [blk_cell hX6];rfl
 have yX6:w6.frozen? ⟨X,6,none⟩=false:=blk_frozen hX6 6
 have HX6:=O hX6
 have HR6':=O hR6
 have HO6:=O hown6
 have HBo:=O (show But (fun b=>(Value.slice LA n LC).ownBlock=some b) w w6 from((But.of_below HBb.out (Zr _)).below HB5.out).trans hb56)
 have HAT:=O (show gg≠X∧gg≠w.heap.size∧((Value.slice LA n LC).ownBlock=some gg∨w.heap.size≤gg)from by
  rcases hat with h | h
  ·have:=HLS.out.lt gg h;exact⟨by omega,by omega,.inl h⟩
  ·exact⟨by omega,by omega,.inr (by omega)⟩)
 clear hX6 hR6 hown6 hgrow hat hb56 x65 hXo hRo
 refine hK.out _ _ x66 (fun hHeld=>?_)
 clear hK K
 try simp only [Act.put,List.getElem_toArray,List.getElem_cons_succ,List.getElem_cons_zero,List.setIfInBounds_toArray,List.set_cons_zero,List.set_cons_succ]
 refine rgV 6 fun K hK=>?_
 go_simp
 refine hK.out _ _ x66 (fun hHeld=>?_)
 clear hK K
 refine rgW 7 fun K hK=>?_
 go_simp
 refine hK.out _ _ ?_
 clear hK K
 refine AT.wpT_done (by kernel_rfl) ?_ _
 have hX:=nd6 (a :=.slice (some ⟨gg,0,none⟩) (n+(c.N+c.ps.length)) cap) HX6.out
 have hR:=(Below.heap_setCell w6 ⟨X,6,none⟩ (.slice (some ⟨gg,0,none⟩) (n+(c.N+c.ps.length)) cap) w.heap.size (show w.heap.size≠X by omega)).trans HR6'.out
 have hB1:But (fun b=>(Value.slice LA n LC).ownBlock=some b) w (w6.setCell ⟨X,6,none⟩ (.slice (some ⟨gg,0,none⟩) (n+(c.N+c.ps.length)) cap)):=HBo.out.setCell (.inr (show w.heap.size≤X by omega)) _
 have hO1:=own_but2 HO6.out ((But.refl (fun b=>b=X) w6).setCell (p:=⟨X,6,none⟩) (.inl rfl) (.slice (some ⟨gg,0,none⟩) (n+(c.N+c.ps.length)) cap)) (fun b e=>by have e2:gg=b:=Option.some.inj e;have:=HAT.out.1;show ¬ b=X;omega)
 have HLB:=O (show ∀ q,(Value.slice (some ⟨gg,0,none⟩) (n+(c.N+c.ps.length)) cap).ownBlock=some q→q≠X∧q≠w.heap.size∧q < (w6.setCell ⟨X,6,none⟩ (.slice (some ⟨gg,0,none⟩) (n+(c.N+c.ps.length)) cap)).heap.size from fun q e=>by have e2:gg=q:=Option.some.inj e;have:=HAT.out;simp [World.setCell];omega)
 generalize w6.setCell ⟨X,6,none⟩ (.slice (some ⟨gg,0,none⟩) (n+(c.N+c.ps.length)) cap)=wl at *
 have hND1:=NdOk.far HN.out hB1 HLS.out.nb HLS.out.nd HLS.out.q HLS.out.g (fun k e=>(HO.out.lt k e).1)
 have hS1:=HS.out.keep hB1.size (fun b hb hlt=>hB1.block b hlt (fun e=>by have:=HLS.out.lt b e;omega))
 clear x66 yX6 hHeld HX6 HR6' HO6 HBo HO5 HB5 HLc HXa HRa HO0 lX5 lX1'
 have HX1:=O hX
 have HR1:=O hR
 have HND1:=O hND1
 have HS1:=O hS1
 have HO1:=O hO1
 have HB1:=O hB1
 have lX1:=heap_lt hX
 have lB1:w.heap.size≤wl.heap.size:=hB1.size
 have e0:=hND1.nb.c0
 have e1:=hND1.nb.c1
 have e2:=hND1.nb.c2
 have e3:=hND1.nb.c3
 have e4:=hND1.nb.c4
 have e5:=hND1.nb.c5
 have x5:wl.cell? ⟨X,5,none⟩=some (.slice GA GL GC):=by rw [blk_cell hX];rfl
 have x2:wl.cell? ⟨X,2,none⟩=some (Z Y was):=by rw [blk_cell hX];rfl
 have yX:∀ o,wl.frozen? ⟨X,o,none⟩=false:=fun o=>blk_frozen hX o
 clear hX hR hND1 hS1 hO1 hB1
 go_wp2_with fail
 refine(HSl.out _).mono ?_
 rintro e w2 ⟨rfl,hb2⟩
 have HB2:=O hb2
 have hX2:=(hb2.block _ lX1).trans HX1.out
 have x5':w2.cell? ⟨X,5,none⟩=some (.slice GA GL GC):=by rw [blk_cell hX2];rfl
 have yX':∀ o,w2.frozen? ⟨X,o,none⟩=false:=fun o=>blk_frozen hX2 o
 have HX2:=O hX2
 have lX2:=heap_lt hX2
 have hz2:=hb2.size
 have hmk:=MK.out
 rw [Int.natCast_add]at hmk
 clear hb2 hX2 e0 e1 e2 e3 e4 e5 x5 yX x2
 go_upto_region 9 with fail
 clear x5' yX'
 have hW3:((w2.setCell ⟨X,5,none⟩ (.slice (some ⟨w2.heap.size,0,none⟩) (c.N+c.ps.length) (c.N+c.ps.length))).alloc (.cells (madeCells #[Z Y 0,Z Y 0] ((c.N+c.ps.length)*2)) 44)).heap[w2.heap.size]?=some (.cells (madeCells #[Z Y 0,Z Y 0] ((c.N+c.ps.length)*2)) 44 (0,0)):=by
  have:=Zh (w2.setCell ⟨X,5,none⟩ (.slice (some ⟨w2.heap.size,0,none⟩) (c.N+c.ps.length) (c.N+c.ps.length))) (.cells (madeCells #[Z Y 0,Z Y 0] ((c.N+c.ps.length)*2)) 44)
  simpa [World.setCell]using this
 have hX3:=blk_alloc (nd5 (a :=.slice (some ⟨w2.heap.size,0,none⟩) (c.N+c.ps.length) (c.N+c.ps.length)) HX2.out) (.cells (madeCells #[Z Y 0,Z Y 0] ((c.N+c.ps.length)*2)) 44)
 have hR3:((w2.setCell ⟨X,5,none⟩ (.slice (some ⟨w2.heap.size,0,none⟩) (c.N+c.ps.length) (c.N+c.ps.length))).alloc (.cells (madeCells #[Z Y 0,Z Y 0] ((c.N+c.ps.length)*2)) 44)).heap[w.heap.size]?=some (.cells #[Z Y 0,Z Y 0,Z Y 0,Z Y 0,.slice none 0 0,.slice none 0 0,.slice none 0 0] 79 (0,0)):=blk_alloc ((Below.heap_setCell _ _ _ _ (show w.heap.size≠X by omega)).trans ((HB2.out.block _ (heap_lt HR1.out)).trans HR1.out)) _
 have hF3:But (fun b=>b=w.heap.size∨b=X∨b=w2.heap.size) wl ((w2.setCell ⟨X,5,none⟩ (.slice (some ⟨w2.heap.size,0,none⟩) (c.N+c.ps.length) (c.N+c.ps.length))).alloc (.cells (madeCells #[Z Y 0,Z Y 0] ((c.N+c.ps.length)*2)) 44)):=(((But.of_below HB2.out (Zr _)).setCell (p:=⟨X,5,none⟩) (.inl (.inr (.inl rfl))) _).alloc _)
 generalize ((w2.setCell ⟨X,5,none⟩ (.slice (some ⟨w2.heap.size,0,none⟩) (c.N+c.ps.length) (c.N+c.ps.length))).alloc (.cells (madeCells #[Z Y 0,Z Y 0] ((c.N+c.ps.length)*2)) 44))=w3 at *
 generalize hGB:w2.heap.size=GB at *
 have HG3:=O (gotRow_new (f:=fun s=>itemF (tk s i)) hW3)
 have HX3:=O hX3
 have HR3:=O hR3
 have HF3:=O hF3
 have hGX:X < GB:=by omega
 have HNr:=O (show ∀ wr,But (fun b=>b=w.heap.size∨b=X∨b=GB) wl wr→NdOk wr c NB LO ND round m st ck q g from fun wr hF=>NdOk.far HND1.out hF (by omega) (by omega) (fun j hj e=>by have:=(HN.out.qa j hj).lt;omega) (fun j b C hj e e2=>by
  have hlt:b < w.heap.size:=by
   have hga:=HN.out.ga j hj
   cases hgj:g j with
   | none=>rw [hgj]at hga;rw [show m.gv j=.slice none 0 0 from hga]at e;cases e
   | some l =>
    rw [hgj]at hga
    obtain⟨_,b',C',e',hlt,_⟩:=hga
    rw [e']at e
    injection e with e _ _
    injection e with e
    injection e with e _
    omega
  omega) (fun k e=>by omega))
 have HSr:=O (show ∀ wr,But (fun b=>b=w.heap.size∨b=X∨b=GB) wl wr→SlotsMem wr base SB (c.N+c.ps.length) c.N tk from fun wr hF=>HS.out.keep (Nat.le_trans HB1.out.size hF.size) (fun b hb hlt=>(hF.block b (Nat.lt_of_lt_of_le hlt HB1.out.size) (by omega)).trans (HB1.out.block b hlt (fun e=>by have:=HLS.out.lt b e;omega))))
 have H19r:=O (show ∀ wr,But (fun b=>b=w.heap.size∨b=X∨b=GB) wl wr→wr.cell? ⟨NB,19,none⟩=some (.slice (some ⟨SB,0,none⟩) (c.N+c.ps.length) SC)from fun wr hF=>((hF.cell (p:=⟨NB,19,none⟩) (Nat.lt_of_lt_of_le lNB HB1.out.size) (by show ¬(NB=w.heap.size∨NB=X∨NB=GB);omega)).trans (HB1.out.cell (p:=⟨NB,19,none⟩) lNB HLS.out.nb)).trans H19.out)
 have x5:w3.cell? ⟨X,5,none⟩=some (.slice (some ⟨GB,0,none⟩) (c.N+c.ps.length) (c.N+c.ps.length)):=by rw [blk_cell hX3];rfl
 clear hW3 hX3 hR3 hF3 HX2 hGB HB2
 go_wp2_with fail
 clear x5
 go_loopw [47] (fun t wr=>∃ k:Nat,k≤c.N+c.ps.length∧t=Z Y k∧But (fun b=>b=w.heap.size∨b=X∨b=GB) wl wr∧wr.heap[X]?=some (.cells #[Z Y sv,Z Y tm,Z Y was,Z Y ckv,.slice (some ⟨m.Q i,0,none⟩) (c.N+c.ps.length) (m.QC i),.slice (some ⟨GB,0,none⟩) (c.N+c.ps.length) (c.N+c.ps.length),.slice (some ⟨gg,0,none⟩) (n+(c.N+c.ps.length)) cap] 79 (0,0))∧wr.heap[w.heap.size]?=some (.cells #[Z Y 0,Z Y 0,Z Y 0,Z Y 0,.slice none 0 0,.slice none 0 0,.slice none 0 0] 79 (0,0))∧GotRow wr GB (c.N+c.ps.length) k (fun s=>itemF (tk s i))) (fun t _=>c.N+c.ps.length-(intOf t).toNat)
 case atStart=>exact⟨0,by omega,rfl,HF3.out,HX3.out,HR3.out,HG3.out⟩
 case round =>
  obtain⟨k,hk,rfl,hF,hX,hR,hG⟩:=hrel
  have HFr:=O hF
  have HXr:=O hX
  have HRr:=O hR
  have HGr:=O hG
  have lXr:=heap_lt hX
  have lGr:=hG.1
  by_cases hlt:k < c.N+c.ps.length
  ·have lk:(k:Int) < ((c.N+c.ps.length:Nat):Int):=by omega
   have lk2:(k:Int) < (c.N:Int)+(c.ps.length:Int):=by omega
   have x5:wr.cell? ⟨X,5,none⟩=some (.slice (some ⟨GB,0,none⟩) (c.N+c.ps.length) (c.N+c.ps.length)):=by rw [blk_cell hX];rfl
   have HIk:=O (fun w' (hb:Zb wr.heap.size wr w')=>HIt.out w' k (H19r.out w' (HFr.out.below hb)) (HSr.out w' (HFr.out.below hb)) hlt)
   obtain⟨v1,hv1⟩:∃ v1,v1=(itemF (tk k i)).1:=⟨_,rfl⟩
   obtain⟨v2,hv2⟩:∃ v2,v2=(itemF (tk k i)).2:=⟨_,rfl⟩
   rw [← hv1,← hv2]at HIk
   have HEq:=O (And.intro hv1 hv2)
   clear hv1 hv2
   clear hF hX hR hG
   go_upto_region 12 with fail
   refine wp_region_held_drew (S:=fun w'=>w'.cell? ⟨X,5,none⟩=some (.slice (some ⟨GB,0,none⟩) (c.N+c.ps.length) (c.N+c.ps.length))) (by kernel_rfl) x5 (fun hHeld=>?_)
   refine rgT 0 ?_
   refine rgT 1 ?_
   refine rgT 2 ?_
   refine rgT 3 ?_
   refine rgT 4 ?_
   refine rgT 5 ?_
   refine rgR 6 fun K hK=>?_
   go_simp
   refine(HIk.out _ (Zf _ _).drew).mono ?_
   rintro e w5 ⟨rfl,hb5'⟩
   have hb5:Zb wr.heap.size wr w5:=⟨hb5'.os,hb5'.tape,hb5'.output,hb5'.size,hb5'.block⟩
   have HB5:=O hb5
   have x55:=keep_of x5 lXr hb5
   have HG5:=O (HGr.out.keep hb5.size (hb5.block GB lGr))
   obtain⟨g1,g2,hg1,hg2,_⟩:=HG5.out.2.2 k hlt
   have yG:∀ o,w5.frozen? ⟨GB,o,none⟩=false:=HG5.out.2.1
   clear hb5 hb5'
   go_simp
   refine hK.out _ _ x55 (fun hHeld=>?_)
   clear hK K
   refine rgR 7 fun K hK=>?_
   go_simp
   refine hK.out _ _ x55 (fun hHeld=>?_)
   clear hK K
   refine rgR 8 fun K hK=>?_
   go_simp
   refine hK.out _ _ (set_keep (q:=⟨GB,k*2+1,none⟩) (set_keep (q:=⟨GB,k*2,none⟩) x55 (by show X≠GB;omega)) (by show X≠GB;omega)) (fun hHeld=>?_)
   clear hK K
   refine wpAnyH_done (by kernel_rfl) ?_ _
   clear x5 x55 hHeld yG hg1 hg2
   go_wp2_with fail
   go_roundw
   case rel=>exact⟨k+1,by omega,by go_num,((HFr.out.below HB5.out).setCell (p:=⟨GB,k*2,none⟩) (.inl (.inr (.inr rfl))) _).setCell (p:=⟨GB,k*2+1,none⟩) (.inl (.inr (.inr rfl))) _,((Below.heap_setCell _ _ _ _ (show X≠GB by omega)).trans (Below.heap_setCell _ _ _ _ (show X≠GB by omega))).trans ((HB5.out.block X lXr).trans HXr.out),((Below.heap_setCell _ _ _ _ (show w.heap.size≠GB by omega)).trans (Below.heap_setCell _ _ _ _ (show w.heap.size≠GB by omega))).trans ((HB5.out.block _ (heap_lt HRr.out)).trans HRr.out),HG5.out.set hlt v1 v2 HEq.out.1 HEq.out.2⟩
   case measure=>simp [intOf];omega
  ·obtain rfl:k=c.N+c.ps.length:=by omega
   clear hF hX hR hG
   have HHr:=O (HHe.out wr (HNr.out wr HFr.out) (H19r.out wr HFr.out) (HSr.out wr HFr.out))
   go_wp2_with fail
   refine HHr.out.mono ?_
   rintro e w4 ⟨hv,rfl,hown4,hb4⟩
   obtain⟨HA,HCc,rfl,hds⟩:=hds_own hown4
   have HB4:=O hb4
   have HD4:=O hds
   have hX4:=(hb4.block X lXr).trans HXr.out
   have x3:w4.cell? ⟨X,3,none⟩=some (Z Y ckv):=by rw [blk_cell hX4];rfl
   have lX4:=heap_lt hX4
   have HX4:=O hX4
   clear hown4 hb4 hds hX4 HHr
   go_upto_region 15 with fail
   refine AT.wp_region_tail (S:=fun w'=>w'.cell? ⟨X,3,none⟩=some (Z Y ckv)) [8] (by kernel_rfl) x3 (fun hHeld=>?_)
   refine rgU 0 ?_
   refine rgU 1 ?_
   refine rgU 2 ?_
   refine rgU 3 ?_
   refine rgU 4 ?_
   refine rgV 5 fun K hK=>?_
   go_simp
   refine(HSY.out HA HCc (World.drew w4) (HD4.out.below (Zf _ _).drew)).mono ?_
   rintro e w5 ⟨rfl,hb5'⟩
   have hb5:Zb w4.heap.size w4 w5:=⟨hb5'.os,hb5'.tape,hb5'.output,hb5'.size,hb5'.block⟩
   have hX5:=(hb5.block X lX4).trans HX4.out
   have x35:w5.cell? ⟨X,3,none⟩=some (Z Y ckv):=by rw [blk_cell hX5];rfl
   have yX5:w5.frozen? ⟨X,3,none⟩=false:=blk_frozen hX5 3
   have HX5:=O hX5
   have HB5:=O hb5
   have lX5:=heap_lt hX5
   clear hb5 hb5' hX5 x3
   go_simp
   refine hK.out _ _ x35 (fun hHeld=>?_)
   clear hK K
   refine rgU 6 ?_
   refine rgV 7 fun K hK=>?_
   go_simp
   refine hK.out _ _ x35 (fun hHeld=>?_)
   clear hK K
   refine rgW 8 fun K hK=>?_
   go_simp
   refine hK.out _ _ ?_
   clear hK K
   refine AT.wpT_done (by kernel_rfl) ?_ _
   have HF6:=O (((HFr.out.below HB4.out).below HB5.out).setCell (p:=⟨X,3,none⟩) (.inl (.inr (.inl rfl))) (Z Y (ckv+d)))
   have hX6:=nd3 (a :=Z Y (ckv+d)) HX5.out
   have HR6:=O ((Below.heap_setCell w5 ⟨X,3,none⟩ (Z Y (ckv+d)) w.heap.size (show w.heap.size≠X by omega)).trans ((HB5.out.block _ (Nat.lt_of_lt_of_le (heap_lt HRr.out) HB4.out.size)).trans ((HB4.out.block _ (heap_lt HRr.out)).trans HRr.out)))
   have HG6:=O (((HGr.out.keep HB4.out.size (HB4.out.block GB lGr)).keep HB5.out.size (HB5.out.block GB (Nat.lt_of_lt_of_le lGr HB4.out.size))).keep (w1:=w5.setCell ⟨X,3,none⟩ (Z Y (ckv+d))) (by simp [World.setCell]) (Below.heap_setCell _ _ _ _ (show GB≠X by omega)))
   generalize w5.setCell ⟨X,3,none⟩ (Z Y (ckv+d))=w6 at *
   have HX6:=O hX6
   have lX6:=heap_lt hX6
   have x1:w6.cell? ⟨X,1,none⟩=some (Z Y tm):=by rw [blk_cell hX6];rfl
   have hN6:=HNr.out w6 HF6.out
   have lN6:NB < w6.heap.size:=Zl _ _ hN6.r
   have hXN:X≠NB:=by omega
   have HK6:=O (show ∀ w',Zb w6.heap.size w6 w'→(w'.cell? ⟨X,1,none⟩=some (Z Y tm)∧w'.cell? ⟨NB,0,none⟩=some (Z Y c.N)∧w'.cell? ⟨NB,1,none⟩=some (Z Y c.Pi)∧w'.cell? ⟨NB,2,none⟩=some (Z Y c.Er)∧w'.cell? ⟨NB,3,none⟩=some (Z Y c.G)∧w'.cell? ⟨NB,4,none⟩=some (Z Y c.Fi)∧w'.cell? ⟨NB,5,none⟩=some (.slice c.PA c.ps.length c.PC))from fun w' hb=>⟨keep_of x1 lX6 hb,keep_of hN6.nb.c0 lN6 hb,keep_of hN6.nb.c1 lN6 hb,keep_of hN6.nb.c2 lN6 hb,keep_of hN6.nb.c3 lN6 hb,keep_of hN6.nb.c4 lN6 hb,keep_of hN6.nb.c5 lN6 hb⟩)
   clear hX6 x1 hN6 x35 yX5 hHeld HX5 HB5 HX4 HB4 HD4 HXr HRr HGr HFr
   go_upto_region 16 with fail
   refine AT.wp_region_tail (S:=fun w'=>w'.cell? ⟨X,1,none⟩=some (Z Y tm)∧w'.cell? ⟨NB,0,none⟩=some (Z Y c.N)∧w'.cell? ⟨NB,1,none⟩=some (Z Y c.Pi)∧w'.cell? ⟨NB,2,none⟩=some (Z Y c.Er)∧w'.cell? ⟨NB,3,none⟩=some (Z Y c.G)∧w'.cell? ⟨NB,4,none⟩=some (Z Y c.Fi)∧w'.cell? ⟨NB,5,none⟩=some (.slice c.PA c.ps.length c.PC)) [17] (by kernel_rfl) (HK6.out _ (Zf _ _).drew) (fun hHeld=>?_)
   refine rgU 0 ?_
   refine rgU 1 ?_
   refine rgU 2 ?_
   refine rgU 3 ?_
   refine rgU 4 ?_
   refine rgU 5 ?_
   refine rgU 6 ?_
   refine rgU 7 ?_
   refine rgU 8 ?_
   refine rgU 9 ?_
   refine rgV 10 fun K hK=>?_
   go_simp
   refine(HNx.out _).mono ?_
   rintro e w7 ⟨rfl,hb7'⟩
   have hb7:Zb w6.heap.size w6 w7:=⟨hb7'.os,hb7'.tape,hb7'.output,hb7'.size,hb7'.block⟩
   have HB7:=O hb7
   have hX7:=(hb7.block X lX6).trans HX6.out
   have HX7:=O hX7
   have h7:=HK6.out _ hb7
   have H7:=O h7
   have x07:w7.cell? ⟨X,0,none⟩=some (Z Y sv):=by rw [blk_cell hX7];rfl
   have yX7:∀ o,w7.frozen? ⟨X,o,none⟩=false:=fun o=>blk_frozen hX7 o
   clear hb7 hb7' hX7 h7
   go_simp
   refine hK.out _ _ H7.out (fun hHeld=>?_)
   clear hK K
   refine rgU 11 ?_
   refine rgU 12 ?_
   refine rgU 13 ?_
   refine rgV 14 fun K hK=>?_
   go_simp
   refine hK.out _ _ H7.out (fun hHeld=>?_)
   clear hK K
   refine rgV 15 fun K hK=>?_
   go_simp
   refine hK.out _ _ ⟨set_keep2 (o':=0) H7.out.1 (by omega),set_keep (q:=⟨X,0,none⟩) H7.out.2.1 (Ne.symm hXN),set_keep (q:=⟨X,0,none⟩) H7.out.2.2.1 (Ne.symm hXN),set_keep (q:=⟨X,0,none⟩) H7.out.2.2.2.1 (Ne.symm hXN),set_keep (q:=⟨X,0,none⟩) H7.out.2.2.2.2.1 (Ne.symm hXN),set_keep (q:=⟨X,0,none⟩) H7.out.2.2.2.2.2.1 (Ne.symm hXN),set_keep (q:=⟨X,0,none⟩) H7.out.2.2.2.2.2.2 (Ne.symm hXN)⟩ (fun hHeld=>?_)
   clear hK K
   refine rgV 16 fun K hK=>?_
   go_simp
   refine hK.out _ _ ⟨set_keep2 (o':=0) H7.out.1 (by omega),set_keep (q:=⟨X,0,none⟩) H7.out.2.1 (Ne.symm hXN),set_keep (q:=⟨X,0,none⟩) H7.out.2.2.1 (Ne.symm hXN),set_keep (q:=⟨X,0,none⟩) H7.out.2.2.2.1 (Ne.symm hXN),set_keep (q:=⟨X,0,none⟩) H7.out.2.2.2.2.1 (Ne.symm hXN),set_keep (q:=⟨X,0,none⟩) H7.out.2.2.2.2.2.1 (Ne.symm hXN),set_keep (q:=⟨X,0,none⟩) H7.out.2.2.2.2.2.2 (Ne.symm hXN)⟩ (fun hHeld=>?_)
   clear hK K
   refine rgW 17 fun K hK=>?_
   go_simp
   refine hK.out _ _ ?_
   clear hK K
   refine AT.wpT_done (by kernel_rfl) ?_ _
   have HF8:=O (((HF6.out.below HB7.out).setCell (p:=⟨X,0,none⟩) (.inl (.inr (.inl rfl))) (Z Y s')).setCell (p:=⟨X,1,none⟩) (.inl (.inr (.inl rfl))) (Z Y t'))
   have hX8:=nd01 (a :=Z Y s') (b :=Z Y t') HX7.out
   have hR8:=(Below.heap_setCell (w7.setCell ⟨X,0,none⟩ (Z Y s')) ⟨X,1,none⟩ (Z Y t') w.heap.size (show w.heap.size≠X by omega)).trans ((Below.heap_setCell w7 ⟨X,0,none⟩ (Z Y s') w.heap.size (show w.heap.size≠X by omega)).trans ((HB7.out.block _ (heap_lt HR6.out)).trans HR6.out))
   have HG8:=O ((HG6.out.keep HB7.out.size (HB7.out.block GB HG6.out.1)).keep (w1:=(w7.setCell ⟨X,0,none⟩ (Z Y s')).setCell ⟨X,1,none⟩ (Z Y t')) (by simp [World.setCell]) ((Below.heap_setCell _ _ _ _ (show GB≠X by omega)).trans (Below.heap_setCell _ _ _ _ (show GB≠X by omega))))
   generalize (w7.setCell ⟨X,0,none⟩ (Z Y s')).setCell ⟨X,1,none⟩ (Z Y t')=w8 at *
   have x0:w8.cell? ⟨X,0,none⟩=some (Z Y s'):=by rw [blk_cell hX8];rfl
   have z0:w8.cell? ⟨w.heap.size,0,none⟩=some (Z Y 0):=by rw [blk_cell hR8];rfl
   have x1:w8.cell? ⟨X,1,none⟩=some (Z Y t'):=by rw [blk_cell hX8];rfl
   have z1:w8.cell? ⟨w.heap.size,1,none⟩=some (Z Y 0):=by rw [blk_cell hR8];rfl
   have x2:w8.cell? ⟨X,2,none⟩=some (Z Y was):=by rw [blk_cell hX8];rfl
   have z2:w8.cell? ⟨w.heap.size,2,none⟩=some (Z Y 0):=by rw [blk_cell hR8];rfl
   have x3:w8.cell? ⟨X,3,none⟩=some (Z Y (ckv+d)):=by rw [blk_cell hX8];rfl
   have z3:w8.cell? ⟨w.heap.size,3,none⟩=some (Z Y 0):=by rw [blk_cell hR8];rfl
   have x4:w8.cell? ⟨X,4,none⟩=some (.slice (some ⟨m.Q i,0,none⟩) (c.N+c.ps.length) (m.QC i)):=by rw [blk_cell hX8];rfl
   have z4:w8.cell? ⟨w.heap.size,4,none⟩=some (.slice none 0 0):=by rw [blk_cell hR8];rfl
   have x5:w8.cell? ⟨X,5,none⟩=some (.slice (some ⟨GB,0,none⟩) (c.N+c.ps.length) (c.N+c.ps.length)):=by rw [blk_cell hX8];rfl
   have z5:w8.cell? ⟨w.heap.size,5,none⟩=some (.slice none 0 0):=by rw [blk_cell hR8];rfl
   have x6:w8.cell? ⟨X,6,none⟩=some (.slice (some ⟨gg,0,none⟩) (n+(c.N+c.ps.length)) cap):=by rw [blk_cell hX8];rfl
   have z6:w8.cell? ⟨w.heap.size,6,none⟩=some (.slice none 0 0):=by rw [blk_cell hR8];rfl
   have yX:∀ o,w8.frozen? ⟨X,o,none⟩=false:=fun o=>blk_frozen hX8 o
   have yR:∀ o,w8.frozen? ⟨w.heap.size,o,none⟩=false:=fun o=>blk_frozen hR8 o
   have nRX:w.heap.size≠X:=by omega
   have nXR:X≠w.heap.size:=Ne.symm nRX
   have HR8:=O hR8
   clear hX8 hR8 hHeld x07 yX7
   go_wp2_with fail
   have hW:=nd7 (a:=(Z Y s')) (b:=(Z Y t')) (c:=(Z Y sv)) (d:=(Z Y (ckv+d))) (q:=(.slice (some ⟨m.Q i,0,none⟩) (c.N+c.ps.length) (m.QC i))) (g:=(.slice (some ⟨GB,0,none⟩) (c.N+c.ps.length) (c.N+c.ps.length))) (l:=(.slice (some ⟨gg,0,none⟩) (n+(c.N+c.ps.length)) cap)) ((Below.heap_setCell w8 ⟨X,2,none⟩ (Z Y sv) w.heap.size nRX).trans HR8.out)
   have hFW:But (fun b=>b=w.heap.size∨b=X∨b=GB) wl ((((((((w8.setCell ⟨X,2,none⟩ (Z Y sv)).setCell ⟨w.heap.size,0,none⟩ (Z Y s')).setCell ⟨w.heap.size,1,none⟩ (Z Y t')).setCell ⟨w.heap.size,2,none⟩ (Z Y sv)).setCell ⟨w.heap.size,3,none⟩ (Z Y (ckv+d))).setCell ⟨w.heap.size,4,none⟩ (.slice (some ⟨m.Q i,0,none⟩) (c.N+c.ps.length) (m.QC i))).setCell ⟨w.heap.size,5,none⟩ (.slice (some ⟨GB,0,none⟩) (c.N+c.ps.length) (c.N+c.ps.length))).setCell ⟨w.heap.size,6,none⟩ (.slice (some ⟨gg,0,none⟩) (n+(c.N+c.ps.length)) cap)):=by
    repeat refine But.setCell ?_ (by left;left;rfl) _
    exact HF8.out.setCell (p:=⟨X,2,none⟩) (.inl (.inr (.inl rfl))) _
   have hGW:GotRow ((((((((w8.setCell ⟨X,2,none⟩ (Z Y sv)).setCell ⟨w.heap.size,0,none⟩ (Z Y s')).setCell ⟨w.heap.size,1,none⟩ (Z Y t')).setCell ⟨w.heap.size,2,none⟩ (Z Y sv)).setCell ⟨w.heap.size,3,none⟩ (Z Y (ckv+d))).setCell ⟨w.heap.size,4,none⟩ (.slice (some ⟨m.Q i,0,none⟩) (c.N+c.ps.length) (m.QC i))).setCell ⟨w.heap.size,5,none⟩ (.slice (some ⟨GB,0,none⟩) (c.N+c.ps.length) (c.N+c.ps.length))).setCell ⟨w.heap.size,6,none⟩ (.slice (some ⟨gg,0,none⟩) (n+(c.N+c.ps.length)) cap)) GB (c.N+c.ps.length) (c.N+c.ps.length) (fun s=>itemF (tk s i)):=by
    refine HG8.out.keep (by simp [World.setCell]) ?_
    repeat rw [Below.heap_setCell _ _ _ _ (show GB≠w.heap.size by omega)]
    exact Below.heap_setCell _ _ _ _ (show GB≠X by omega)
   generalize ((((((((w8.setCell ⟨X,2,none⟩ (Z Y sv)).setCell ⟨w.heap.size,0,none⟩ (Z Y s')).setCell ⟨w.heap.size,1,none⟩ (Z Y t')).setCell ⟨w.heap.size,2,none⟩ (Z Y sv)).setCell ⟨w.heap.size,3,none⟩ (Z Y (ckv+d))).setCell ⟨w.heap.size,4,none⟩ (.slice (some ⟨m.Q i,0,none⟩) (c.N+c.ps.length) (m.QC i))).setCell ⟨w.heap.size,5,none⟩ (.slice (some ⟨GB,0,none⟩) (c.N+c.ps.length) (c.N+c.ps.length))).setCell ⟨w.heap.size,6,none⟩ (.slice (some ⟨gg,0,none⟩) (n+(c.N+c.ps.length)) cap))=W at *
   have v0:W.cell? ⟨w.heap.size,0,none⟩=some (Z Y s'):=by rw [blk_cell hW];rfl
   have v1:W.cell? ⟨w.heap.size,1,none⟩=some (Z Y t'):=by rw [blk_cell hW];rfl
   have v2:W.cell? ⟨w.heap.size,2,none⟩=some (Z Y sv):=by rw [blk_cell hW];rfl
   have v3:W.cell? ⟨w.heap.size,3,none⟩=some (Z Y (ckv+d)):=by rw [blk_cell hW];rfl
   have v4:W.cell? ⟨w.heap.size,4,none⟩=some (.slice (some ⟨m.Q i,0,none⟩) (c.N+c.ps.length) (m.QC i)):=by rw [blk_cell hW];rfl
   have v5:W.cell? ⟨w.heap.size,5,none⟩=some (.slice (some ⟨GB,0,none⟩) (c.N+c.ps.length) (c.N+c.ps.length)):=by rw [blk_cell hW];rfl
   have v6:W.cell? ⟨w.heap.size,6,none⟩=some (.slice (some ⟨gg,0,none⟩) (n+(c.N+c.ps.length)) cap):=by rw [blk_cell hW];rfl
   refine bodyPost_ret (v :=.agg #[Z Y s',Z Y t',Z Y sv,Z Y (ckv+d),.slice (some ⟨m.Q i,0,none⟩) (c.N+c.ps.length) (m.QC i),.slice (some ⟨GB,0,none⟩) (c.N+c.ps.length) (c.N+c.ps.length),.slice (some ⟨gg,0,none⟩) (n+(c.N+c.ps.length)) cap]) (by simp [results,Tryz.results36,go_sem,v0,v1,v2,v3,v4,v5,v6]) rfl ?_
   refine⟨some ⟨GB,0,none⟩,c.N+c.ps.length,c.N+c.ps.length,some ⟨gg,0,none⟩,cap,rfl,hGW.all,.inr (fun b C e=>?_),own_but2 HO1.out hFW (fun b e=>?_),fun q e=>by have e2:gg=q:=Option.some.inj e;rw [← e2];exact HAT.out.2.2,?_⟩
   ·injection e with e _ _
    injection e with e
    injection e with e _
    subst e
    exact⟨by omega,fun e=>by have:=HLB.out _ e;omega⟩
   ·have:=HLB.out _ e
    show ¬(b=w.heap.size∨b=X∨b=GB)
    omega
   ·exact⟨hFW.os.trans HB1.out.os,hFW.tape.trans HB1.out.tape,hFW.output.trans HB1.out.output,Nat.le_trans HB1.out.size hFW.size,fun b hlt hnb=>(hFW.block b (Nat.lt_of_lt_of_le hlt HB1.out.size) (by show ¬(b=w.heap.size∨b=X∨b=GB);omega)).trans (HB1.out.block b hlt hnb)⟩
end A59
namespace A60
open Go.RowKit A14 A18 A41 A45 E5 A51 A59
theorem info79:(Tryz.prog.info? 79).map (fun i=>(i.zero,i.size,i.bytes))=some (some (.agg #[Z Y 0,Z Y 0,Z Y 0,Z Y 0,.slice none 0 0,.slice none 0 0,.slice none 0 0]),7,104):=by kernel_rfl
theorem mk72 (n:Nat) (hn:n≤100) (w:Zw):(Instr.makeSlice 72 (Z Y (n:Int)) (Z Y (n:Int))).run Zp w=.ok (.slice (some ⟨w.heap.size,0,none⟩) n n) (w.alloc (.cells (madeCells #[Z Y 0,Z Y 0,Z Y 0,Z Y 0,.slice none 0 0,.slice none 0 0,.slice none 0 0] (n*7)) 79)):=by
 obtain⟨i,hi,hz,hs,hb⟩:=info_parts info79
 have:=run_make_n (P:=Zp) 72 79 i _ Tryz.underlying72 hi hz n hn (by omega) w
 rw [hs]at this
 exact this
structure Nx where
 st:Nat→Nat
 tm:Nat→Nat
 was:Nat→Nat
 ck:Nat→Int
 g:Nat→Option (List (Nat×Nat))
 n:Nat→Nat
 xs:Nat→List Value
structure NewNd (base0:Nat) (c:NC) (LO EB:Nat) (m:Nm) (lv:Nat→Value) (x:Nx) (gv' lv':Nat→Value) (k:Nat) (wr:Zw):Prop where
 lt:EB < wr.heap.size
 fr:∀ o,wr.frozen? ⟨EB,o,none⟩=false
 any:∀ j o,j < c.N→o < 7→∃ u,wr.cell? ⟨EB,j*7+o,none⟩=some u
 cs:∀ j,j < k→wr.cell? ⟨EB,j*7,none⟩=some (Z Y (x.st j))
 ct:∀ j,j < k→wr.cell? ⟨EB,j*7+1,none⟩=some (Z Y (x.tm j))
 cw:∀ j,j < k→wr.cell? ⟨EB,j*7+2,none⟩=some (Z Y (x.was j))
 cc:∀ j,j < k→wr.cell? ⟨EB,j*7+3,none⟩=some (Z Y (x.ck j))
 cq:∀ j,j < k→wr.cell? ⟨EB,j*7+4,none⟩=some (.slice (some ⟨m.Q j,0,none⟩) (c.N+c.ps.length) (m.QC j))
 gc:∀ j,j < k→wr.cell? ⟨EB,j*7+5,none⟩=some (gv' j)
 lc:∀ j,j < k→wr.cell? ⟨EB,j*7+6,none⟩=some (lv' j)
 ga:∀ j,j < k→GotAt wr (gv' j) (c.N+c.ps.length) (x.g j)
 la:∀ j,j < k→wr.ownsRow LO 48 4 (lv' j) (x.n j) (x.xs j)
 lo:∀ j q,j < k→(lv' j).ownBlock=some q→(lv j).ownBlock=some q∨EB < q
 ll:∀ j j' q,j < k→j' < k→j≠j'→(lv' j).ownBlock=some q→(lv' j').ownBlock≠some q
 gg:∀ j,j < k→gv' j=m.gv j∨∀ b C,gv' j=.slice (some ⟨b,0,none⟩) (c.N+c.ps.length) C→EB < b∧∀ j',j' < k→(lv' j').ownBlock≠some b
def put7 (w:Zw) (EB k:Nat) (a b c d q g l:Value):Zw:=((((((w.setCell ⟨EB,k*7,none⟩ a).setCell ⟨EB,k*7+1,none⟩ b).setCell ⟨EB,k*7+2,none⟩ c).setCell ⟨EB,k*7+3,none⟩ d).setCell ⟨EB,k*7+4,none⟩ q).setCell ⟨EB,k*7+5,none⟩ g).setCell ⟨EB,k*7+6,none⟩ l
theorem put7_but (w:Zw) (EB k:Nat) (a b c d q g l:Value):But (fun x=>x=EB) w (put7 w EB k a b c d q g l):=by
 unfold put7
 exact((((((((But.refl (fun x=>x=EB) w).setCell (p:=⟨EB,k*7,none⟩) (.inl rfl) a).setCell (p:=⟨EB,k*7+1,none⟩) (.inl rfl) b).setCell (p:=⟨EB,k*7+2,none⟩) (.inl rfl) c).setCell (p:=⟨EB,k*7+3,none⟩) (.inl rfl) d).setCell (p:=⟨EB,k*7+4,none⟩) (.inl rfl) q).setCell (p:=⟨EB,k*7+5,none⟩) (.inl rfl) g).setCell (p:=⟨EB,k*7+6,none⟩) (.inl rfl) l)
theorem put7_far (w:Zw) (EB k:Nat) (a b c d q g l:Value) (j o:Nat) (hj:j≠k) (ho:o < 7):(put7 w EB k a b c d q g l).cell? ⟨EB,j*7+o,none⟩=w.cell? ⟨EB,j*7+o,none⟩:=by
 unfold put7
 have e:∀(w:Zw) (p:Nat) (v:Value),p≠j*7+o→(w.setCell ⟨EB,p,none⟩ v).cell? ⟨EB,j*7+o,none⟩=w.cell? ⟨EB,j*7+o,none⟩:=fun w p v hp=>Zo _ _ _ _ (fun e=>by injection e with _ e;omega)
 rw [e _ _ _ (by omega),e _ _ _ (by omega),e _ _ _ (by omega),e _ _ _ (by omega),e _ _ _ (by omega),e _ _ _ (by omega),e _ _ _ (by omega)]
theorem put7_at (w:Zw) (EB k:Nat) (a b c d q g l:Value) (h:∀ o,o < 7→∃ u,w.cell? ⟨EB,k*7+o,none⟩=some u) :
 (put7 w EB k a b c d q g l).cell? ⟨EB,k*7,none⟩=some a∧(put7 w EB k a b c d q g l).cell? ⟨EB,k*7+1,none⟩=some b∧(put7 w EB k a b c d q g l).cell? ⟨EB,k*7+2,none⟩=some c∧(put7 w EB k a b c d q g l).cell? ⟨EB,k*7+3,none⟩=some d∧(put7 w EB k a b c d q g l).cell? ⟨EB,k*7+4,none⟩=some q∧(put7 w EB k a b c d q g l).cell? ⟨EB,k*7+5,none⟩=some g∧(put7 w EB k a b c d q g l).cell? ⟨EB,k*7+6,none⟩=some l:=by
 obtain⟨u0,h0⟩:=h 0 (by omega)
 obtain⟨u1,h1⟩:=h 1 (by omega)
 obtain⟨u2,h2⟩:=h 2 (by omega)
 obtain⟨u3,h3⟩:=h 3 (by omega)
 obtain⟨u4,h4⟩:=h 4 (by omega)
 obtain⟨u5,h5⟩:=h 5 (by omega)
 obtain⟨u6,h6⟩:=h 6 (by omega)
 have e:∀ {w:Zw} {p o:Nat} {v u:Value},w.cell? ⟨EB,o,none⟩=some u→o≠p→(w.setCell ⟨EB,p,none⟩ v).cell? ⟨EB,o,none⟩=some u:=fun h hp=>set_keep2 h hp
 have s:∀ {w:Zw} {o:Nat} {v u:Value},w.cell? ⟨EB,o,none⟩=some u→(w.setCell ⟨EB,o,none⟩ v).cell? ⟨EB,o,none⟩=some v:=fun h=>World.cell?_setCell_same _ _ _ h
 unfold put7
 refine⟨?_,?_,?_,?_,?_,?_,?_⟩
 ·exact e (e (e (e (e (e (s h0) (by omega)) (by omega)) (by omega)) (by omega)) (by omega)) (by omega)
 ·exact e (e (e (e (e (s (e h1 (by omega))) (by omega)) (by omega)) (by omega)) (by omega)) (by omega)
 ·exact e (e (e (e (s (e (e h2 (by omega)) (by omega))) (by omega)) (by omega)) (by omega)) (by omega)
 ·exact e (e (e (s (e (e (e h3 (by omega)) (by omega)) (by omega))) (by omega)) (by omega)) (by omega)
 ·exact e (e (s (e (e (e (e h4 (by omega)) (by omega)) (by omega)) (by omega))) (by omega)) (by omega)
 ·exact e (s (e (e (e (e (e h5 (by omega)) (by omega)) (by omega)) (by omega)) (by omega))) (by omega)
 ·exact s (e (e (e (e (e (e h6 (by omega)) (by omega)) (by omega)) (by omega)) (by omega)) (by omega))
theorem NewNd.next {base0:Nat} {c:NC} {NB LO ND base EB:Nat} {m:Nm} {lv:Nat→Value} {x:Nx} {gv' lv':Nat→Value} {k:Nat} {wr w5:Zw} (H:NewNd base0 c LO EB m lv x gv' lv' k wr) (hk:k < c.N)
 (hsep:∀ i,i < c.N→LogSep c NB ND base m (lv i)) (hne:∀ i j q,i < c.N→j < c.N→i≠j→(lv i).ownBlock=some q→(lv j).ownBlock≠some q) (hbE:base≤EB) (hgE:∀ j b C,j < c.N→m.gv j=.slice (some ⟨b,0,none⟩) (c.N+c.ps.length) C→b < EB)
 {GA:Option Addr} {GL GC:Nat} {LA:Option Addr} {LC:Nat} (hga:GotAt w5 (.slice GA GL GC) (c.N+c.ps.length) (x.g k)) (hgo : .slice GA GL GC=m.gv k∨∀ b C,Value.slice GA GL GC=.slice (some ⟨b,0,none⟩) (c.N+c.ps.length) C→wr.heap.size≤b∧(Value.slice LA (x.n k) LC).ownBlock≠some b)
 (hown:w5.ownsRow LO 48 4 (.slice LA (x.n k) LC) (x.n k) (x.xs k)) (hlo:∀ q,(Value.slice LA (x.n k) LC).ownBlock=some q→(lv k).ownBlock=some q∨wr.heap.size≤q) (hbut:But (fun b=>(lv k).ownBlock=some b) wr w5) :
 NewNd base0 c LO EB m lv x (fun j=>if j=k then .slice GA GL GC else gv' j) (fun j=>if j=k then .slice LA (x.n k) LC else lv' j) (k+1) (put7 w5 EB k (Z Y (x.st k)) (Z Y (x.tm k)) (Z Y (x.was k)) (Z Y (x.ck k)) (.slice (some ⟨m.Q k,0,none⟩) (c.N+c.ps.length) (m.QC k)) (.slice GA GL GC) (.slice LA (x.n k) LC)):=by
 have nE:¬(lv k).ownBlock=some EB:=fun e=>by have:=(hsep k hk).lt EB e;omega
 have hE5:∀ o,w5.cell? ⟨EB,o,none⟩=wr.cell? ⟨EB,o,none⟩:=fun o=>hbut.cell (p:=⟨EB,o,none⟩) H.lt nE
 have hP:=put7_but w5 EB k (Z Y (x.st k)) (Z Y (x.tm k)) (Z Y (x.was k)) (Z Y (x.ck k)) (.slice (some ⟨m.Q k,0,none⟩) (c.N+c.ps.length) (m.QC k)) (.slice GA GL GC) (.slice LA (x.n k) LC)
 have hA:=put7_at w5 EB k (Z Y (x.st k)) (Z Y (x.tm k)) (Z Y (x.was k)) (Z Y (x.ck k)) (.slice (some ⟨m.Q k,0,none⟩) (c.N+c.ps.length) (m.QC k)) (.slice GA GL GC) (.slice LA (x.n k) LC) (fun o ho=>by obtain⟨u,hu⟩:=H.any k o hk ho;exact⟨u,(hE5 _).trans hu⟩)
 have hF:=fun j o (hj:j≠k) (ho:o < 7)=>(put7_far w5 EB k (Z Y (x.st k)) (Z Y (x.tm k)) (Z Y (x.was k)) (Z Y (x.ck k)) (.slice (some ⟨m.Q k,0,none⟩) (c.N+c.ps.length) (m.QC k)) (.slice GA GL GC) (.slice LA (x.n k) LC) j o hj ho).trans (hE5 _)
 have hfr:∀ o,(put7 w5 EB k (Z Y (x.st k)) (Z Y (x.tm k)) (Z Y (x.was k)) (Z Y (x.ck k)) (.slice (some ⟨m.Q k,0,none⟩) (c.N+c.ps.length) (m.QC k)) (.slice GA GL GC) (.slice LA (x.n k) LC)).frozen? ⟨EB,o,none⟩=false:=fun o=>by
  unfold put7
  simp only [World.frozen?_setCell]
  exact(hbut.frozen (p:=⟨EB,o,none⟩) H.lt nE).trans (H.fr o)
 generalize put7 w5 EB k (Z Y (x.st k)) (Z Y (x.tm k)) (Z Y (x.was k)) (Z Y (x.ck k)) (.slice (some ⟨m.Q k,0,none⟩) (c.N+c.ps.length) (m.QC k)) (.slice GA GL GC) (.slice LA (x.n k) LC)=W at *
 obtain⟨a0,a1,a2,a3,a4,a5,a6⟩:=hA
 have oldlt:∀ j q,j < c.N→(lv j).ownBlock=some q→q < EB:=fun j q hj e=>by have:=(hsep j hj).lt q e;omega
 have lvlt:∀ j q,j < k→(lv' j).ownBlock=some q→q < wr.heap.size:=fun j q hj e=>((H.la j hj).lt q e).2
 have nko:∀ j q,j < k→(lv' j).ownBlock=some q→¬(lv k).ownBlock=some q:=fun j q hj e e2=>by
  rcases H.lo j q hj e with h | h
  ·exact hne j k q (by omega) hk (by omega) h e2
  ·have:=oldlt k q hk e2;omega
 have cell:∀(f:Nat→Value) (o:Nat) (v:Value),o < 7→W.cell? ⟨EB,k*7+o,none⟩=some v→(∀ j,j < k→wr.cell? ⟨EB,j*7+o,none⟩=some (f j))→∀ j,j < k+1→W.cell? ⟨EB,j*7+o,none⟩=some (if j=k then v else f j):=fun f o v ho h1 h2 j hj=>by
  by_cases e:j=k
  ·subst e;rw [if_pos rfl];exact h1
  ·rw [if_neg e,hF j o e ho];exact h2 j (by omega)
 have same:∀ {α:Type} (f:Nat→α) j,(if j=k then f k else f j)=f j:=fun f j=>by
  by_cases e:j=k
  ·subst e;rw [if_pos rfl]
  ·rw [if_neg e]
 refine⟨Nat.lt_of_lt_of_le H.lt (Nat.le_trans hbut.size hP.size),hfr,fun j o hj ho=>?_,fun j hj=>?_,fun j hj=>?_,fun j hj=>?_,fun j hj=>?_,fun j hj=>?_,fun j hj=>?_,fun j hj=>?_,fun j hj=>?_,fun j hj=>?_,fun j q hj e=>?_,fun j j' q hj hj' hjj e=>?_,fun j hj=>?_⟩
 ·by_cases e:j=k
  ·subst e
   have:o=0∨o=1∨o=2∨o=3∨o=4∨o=5∨o=6:=by omega
   rcases this with rfl | rfl | rfl | rfl | rfl | rfl | rfl
   ·exact⟨_,a0⟩
   ·exact⟨_,a1⟩
   ·exact⟨_,a2⟩
   ·exact⟨_,a3⟩
   ·exact⟨_,a4⟩
   ·exact⟨_,a5⟩
   ·exact⟨_,a6⟩
  ·rw [hF j o e ho];exact H.any j o hj ho
 ·have:=cell (fun j =>Z Y (x.st j)) 0 _ (by omega) a0 H.cs j hj;rwa [same (fun j=>Z Y (x.st j))]at this
 ·have:=cell (fun j =>Z Y (x.tm j)) 1 _ (by omega) a1 H.ct j hj;rwa [same (fun j=>Z Y (x.tm j))]at this
 ·have:=cell (fun j =>Z Y (x.was j)) 2 _ (by omega) a2 H.cw j hj;rwa [same (fun j=>Z Y (x.was j))]at this
 ·have:=cell (fun j =>Z Y (x.ck j)) 3 _ (by omega) a3 H.cc j hj;rwa [same (fun j=>Z Y (x.ck j))]at this
 ·have:=cell (fun j =>.slice (some ⟨m.Q j,0,none⟩) (c.N+c.ps.length) (m.QC j)) 4 _ (by omega) a4 H.cq j hj;rwa [same (fun j=>Value.slice (some ⟨m.Q j,0,none⟩) (c.N+c.ps.length) (m.QC j))]at this
 ·exact cell gv' 5 _ (by omega) a5 H.gc j hj
 ·exact cell lv' 6 _ (by omega) a6 H.lc j hj
 ·by_cases e:j=k
  ·subst e
   simp only [if_true]
   refine gotAt_but hga hP (fun b C eb eE=>?_)
   rcases hgo with h | h
   ·have:=hgE j b C hk (h ▸ eb);omega
   ·have:=(h b C eb).1;have:=H.lt;omega
  ·simp only [if_neg e]
   have hj':j < k:=by omega
   refine gotAt_but (gotAt_but (H.ga j hj') hbut (fun b C eb=>?_)) hP (fun b C eb eE=>?_)
   ·rcases H.gg j hj' with h | h
    ·exact(hsep k hk).g j b C (by omega) (h ▸ eb)
    ·intro e2
     have h1:=(h b C eb).1
     have h2:=oldlt k b hk e2
     omega
   ·rcases H.gg j hj' with h | h
    ·have:=hgE j b C (by omega) (h ▸ eb);omega
    ·have:=(h b C eb).1;omega
 ·by_cases e:j=k
  ·subst e
   simp only [if_true]
   refine own_but2 hown hP (fun q eq eE=>?_)
   rcases hlo q eq with h | h
   ·have:=oldlt j q hk h;omega
   ·have:=H.lt;omega
  ·simp only [if_neg e]
   have hj':j < k:=by omega
   refine own_but2 (own_but2 (H.la j hj') hbut (fun q eq=>nko j q hj' eq)) hP (fun q eq eE=>?_)
   rcases H.lo j q hj' eq with h | h
   ·have:=oldlt j q (by omega) h;omega
   ·omega
 ·by_cases ej:j=k
  ·subst ej
   simp only [if_true]at e
   rcases hlo q e with h | h
   ·exact .inl h
   ·right;have:=H.lt;omega
  ·simp only [if_neg ej]at e
   exact H.lo j q (by omega) e
 ·have new:∀ q,(Value.slice LA (x.n k) LC).ownBlock=some q→∀ i,i < k→(lv' i).ownBlock≠some q:=fun q h1 i hi h2=>by
   rcases hlo q h1 with h | h
   ·exact nko i q hi h2 h
   ·have:=lvlt i q hi h2;omega
  by_cases ej:j=k
  ·subst ej
   have ej':¬ j'=j:=fun h=>hjj h.symm
   simp only [if_true]at e
   simp only [if_neg ej']
   exact new q e j' (by omega)
  ·simp only [if_neg ej]at e
   by_cases ej':j'=k
   ·subst ej'
    simp only [if_true]
    exact fun h=>new q h j (by omega) e
   ·simp only [if_neg ej']
    exact H.ll j j' q (by omega) (by omega) hjj e
 ·by_cases ej:j=k
  ·subst ej
   simp only [if_true]
   rcases hgo with h | h
   ·exact .inl h
   ·refine .inr (fun b C eb=>?_)
    obtain⟨h1,h2⟩:=h b C eb
    have h3:=H.lt
    refine⟨by omega,fun j' hj'=>?_⟩
    by_cases ej':j'=j
    ·subst ej';simp only [if_true];exact h2
    ·simp only [if_neg ej']
     intro e
     have:=lvlt j' b (by omega) e
     omega
  ·simp only [if_neg ej]
   have hj':j < k:=by omega
   rcases H.gg j hj' with h | h
   ·exact .inl h
   ·refine .inr (fun b C eb=>?_)
    obtain⟨h1,h2⟩:=h b C eb
    refine⟨h1,fun j' hj''=>?_⟩
    by_cases ej':j'=k
    ·subst ej'
     simp only [if_true]
     intro e
     rcases hlo b e with h3 | h3
     ·have:=oldlt j' b hk h3;omega
     ·have hb:=H.ga j hj'
      cases hg:x.g j with
      | none=>rw [hg]at hb;rw [eb]at hb;exact absurd hb (by simp [GotAt])
      | some l =>
       rw [hg]at hb
       obtain⟨_,b',C',hv,hlt,_⟩:=hb
       rw [eb]at hv
       injection hv with hv _ _
       injection hv with hv
       injection hv with hv _ _
       omega
    ·simp only [if_neg ej']
     exact h2 j' (by omega)
end A60
namespace A61
open Go.RowKit A11 A14 A18 A41 A51 A57 A59 A60
theorem But.join {S T U:Nat→Prop} {a b c:Zw} (h:But S a b) (k:But T b c) (hS:∀ x,x < a.heap.size→S x→U x) (hT:∀ x,x < a.heap.size→T x→U x):But U a c :=
 ⟨k.os.trans h.os,k.tape.trans h.tape,k.output.trans h.output,Nat.le_trans h.size k.size,fun i hi hn=>(k.block i (Nat.lt_of_lt_of_le hi h.size) (fun e=>hn (hT i hi e))).trans (h.block i hi (fun e=>hn (hS i hi e)))⟩
theorem NewNd.zero {base0 LO EB:Nat} {c:NC} {m:Nm} {lv:Nat→Value} {x:Nx} {gv' lv':Nat→Value} {w:Zw} (hE:w.heap[EB]?=some (.cells (madeCells #[Z Y 0,Z Y 0,Z Y 0,Z Y 0,.slice none 0 0,.slice none 0 0,.slice none 0 0] (c.N*7)) 79 (0,0))):NewNd base0 c LO EB m lv x gv' lv' 0 w:=by
 refine⟨heap_lt hE,fun o=>by simp [World.frozen?,hE],fun j o hj ho=>?_,fun j hj=>absurd hj (by omega),fun j hj=>absurd hj (by omega),fun j hj=>absurd hj (by omega),fun j hj=>absurd hj (by omega),fun j hj=>absurd hj (by omega),fun j hj=>absurd hj (by omega),fun j hj=>absurd hj (by omega),fun j hj=>absurd hj (by omega),fun j hj=>absurd hj (by omega),fun j q hj=>absurd hj (by omega),fun j j' q hj=>absurd hj (by omega),fun j hj=>absurd hj (by omega)⟩
 rw [Lib.cell_of_heap hE,made_at _ _ _ (by omega)]
 exact⟨_,rfl⟩
def Own (lv:Nat→Value) (k:Nat) (b:Nat):Prop:=∃ j,j < k∧(lv j).ownBlock=some b
theorem each_node (c:NC) (NB LO ND base:Nat) (m:Nm) (lv:Nat→Value) (x:Nx) (w:Zw) (hN1:1≤c.N) (hN2:c.N≤12) (h18:w.cell? ⟨NB,18,none⟩=some (.slice (some ⟨ND,0,none⟩) c.N c.N)) (hNB:¬ Own lv c.N NB)
 (hsep:∀ i,i < c.N→LogSep c NB ND base m (lv i)) (hne:∀ i j q,i < c.N→j < c.N→i≠j→(lv i).ownBlock=some q→(lv j).ownBlock≠some q) (hbE:base≤w.heap.size) (hgE:∀ j b C,j < c.N→m.gv j=.slice (some ⟨b,0,none⟩) (c.N+c.ps.length) C→b < w.heap.size)
 (hend:∀ k wr,k < c.N→But (Own lv k) w wr→Zc Zp 36 #[.pointer (some ⟨NB,0,none⟩),Z Y k] wr (EndPost c LO m k (x.st k) (x.tm k) (x.was k) (x.ck k) (x.g k) (x.n k) (x.xs k) (lv k) wr)) :
 Zc Zp 35 #[.pointer (some ⟨NB,0,none⟩),.func (Fn.func 36) #[.pointer (some ⟨NB,0,none⟩)] #[]] w fun e w'=>∃ gv' lv',e=.returned (.slice (some ⟨w.heap.size,0,none⟩) c.N c.N)∧But (Own lv c.N) w w'∧NewNd base c LO w.heap.size m lv x gv' lv' c.N w':=by
 have lNB:=Zl w _ h18
 have HS:=O hsep
 have HNe:=O hne
 have HE:=O hend
 have HG:=O hgE
 have mk:=mk72 c.N (by omega) w
 clear hsep hne hend hgE
 go_enter Tryz.func35,Tryz.ntmps35
 go_upto_region 2 with(rw [mk72 c.N (by omega)])
 have hE0:=Zh w (.cells (madeCells #[Z Y 0,Z Y 0,Z Y 0,Z Y 0,.slice none 0 0,.slice none 0 0,.slice none 0 0] (c.N*7)) 79)
 have hB0:=O (But.alloc (But.refl (Own lv 0) w) (.cells (madeCells #[Z Y 0,Z Y 0,Z Y 0,Z Y 0,.slice none 0 0,.slice none 0 0,.slice none 0 0] (c.N*7)) 79))
 generalize w.alloc (.cells (madeCells #[Z Y 0,Z Y 0,Z Y 0,Z Y 0,.slice none 0 0,.slice none 0 0,.slice none 0 0] (c.N*7)) 79)=wa at *
 have HE0:=O hE0
 clear hE0 mk
 go_wp2
 go_loopw [15] (fun t wr=>∃(k:Nat) (gv' lv':Nat→Value),k≤c.N∧t=Z Y k∧But (Own lv k) w wr∧NewNd base c LO w.heap.size m lv x gv' lv' k wr) (fun t _=>c.N-(intOf t).toNat)
 case atStart =>
  exact⟨0,fun _ =>.slice none 0 0,fun _ =>.slice none 0 0,by omega,rfl,hB0.out,NewNd.zero HE0.out⟩
 case round =>
  obtain⟨k,gv',lv',hk,rfl,hbut,hnd⟩:=hrel
  by_cases hlt:k < c.N
  ·have lk:(k:Int) < (c.N:Int):=by omega
   have HC:=O (HE.out k _ hlt hbut)
   have HB:=O hbut
   have HD:=O hnd
   clear hbut hnd
   go_upto_region 5 with fail
   go_wp2_with fail
   refine(HC.out).mono ?_
   rintro e w5 ⟨GA,GL,GC,LA,LC,rfl,hga,hgo,hown,hlo,hb5⟩
   have nE:¬(lv k).ownBlock=some w.heap.size:=fun e=>by have:=(HS.out k hlt).lt _ e;omega
   have fr5:∀ o,w5.frozen? ⟨w.heap.size,o,none⟩=false:=fun o=>(hb5.frozen (p:=⟨w.heap.size,o,none⟩) HD.out.lt nE).trans (HD.out.fr o)
   have an5:∀ o,o < 7→∃ u,w5.cell? ⟨w.heap.size,k*7+o,none⟩=some u:=fun o ho=>by
    obtain⟨u,hu⟩:=HD.out.any k o hlt ho
    exact⟨u,(hb5.cell (p:=⟨w.heap.size,k*7+o,none⟩) HD.out.lt nE).trans hu⟩
   obtain⟨u0,e0⟩:∃ u,w5.cell? ⟨w.heap.size,k*7,none⟩=some u:=an5 0 (by omega)
   obtain⟨u1,e1⟩:=an5 1 (by omega)
   obtain⟨u2,e2⟩:=an5 2 (by omega)
   obtain⟨u3,e3⟩:=an5 3 (by omega)
   obtain⟨u4,e4⟩:=an5 4 (by omega)
   obtain⟨u5,e5⟩:=an5 5 (by omega)
   obtain⟨u6,e6⟩:=an5 6 (by omega)
   have HNext:=O (NewNd.next HD.out hlt HS.out HNe.out hbE HG.out hga hgo hown hlo hb5)
   have HP:=O (But.join (U:=Own lv (k+1)) (But.join (U:=Own lv (k+1)) HB.out hb5 (fun b _ ⟨j,hj,e⟩=>⟨j,by omega,e⟩) (fun b _ e=>⟨k,by omega,e⟩)) (put7_but w5 w.heap.size k (Z Y (x.st k)) (Z Y (x.tm k)) (Z Y (x.was k)) (Z Y (x.ck k)) (.slice (some ⟨m.Q k,0,none⟩) (c.N+c.ps.length) (m.QC k)) (.slice GA GL GC) (.slice LA (x.n k) LC)) (fun b _ e=>e) (fun b hb e=>by omega))
   clear hga hgo hown hlo hb5 an5 nE
   go_upto_region 6 with fail
   go_wp2
   go_roundw
   case rel=>exact⟨k+1,_,_,by omega,by go_num,HP.out,HNext.out⟩
   case measure=>simp [intOf];omega
  ·obtain rfl:k=c.N:=by omega
   have HB:=O hbut
   have HD:=O hnd
   clear hbut hnd
   go_wp2
   go_ret
   exact⟨gv',lv',rfl,HB.out,HD.out⟩
end A61
namespace A62
open Go.RowKit A8 A9 A14 A22 A41 A45 A47 A48 A51 A52 A55 A56 A59 A61
def RowS (base:Nat) (wr:Zw) (v:Value) (TB N:Nat) (tk:Nat→Option Fr):Prop :=
 ∃(ws:Zw) (lo:Nat),RowMem ws lo TB N tk∧base≤lo∧ws.heap.size≤wr.heap.size∧(∀ b,lo≤b→b < ws.heap.size→wr.heap[b]?=ws.heap[b]?)∧∀ g,v.ownBlock=some g→g < lo∨ws.heap.size≤g
theorem RowS.go {base:Nat} {wr w2:Zw} {v v':Value} {TB N:Nat} {tk:Nat→Option Fr} {T:Nat→Prop} (h:RowS base wr v TB N tk) (hb:But T wr w2) (hT:∀ b,base≤b→b < wr.heap.size→T b→v.ownBlock=some b) (hv:∀ g,v'.ownBlock=some g→v.ownBlock=some g∨wr.heap.size≤g):RowS base w2 v' TB N tk:=by
 obtain⟨ws,lo,h1,h2,h3,h4,h5⟩:=h
 refine⟨ws,lo,h1,h2,Nat.le_trans h3 hb.size,fun b hl hh=>?_,fun g hg=>?_⟩
 ·refine(hb.block b (by omega) (fun e=>?_)).trans (h4 b hl hh)
  rcases h5 b (hT b (by omega) (by omega) e)with h | h <;> omega
 ·rcases hv g hg with h | h
  ·exact h5 g h
  ·right;omega
theorem RowS.mem {base:Nat} {wr:Zw} {v:Value} {TB N:Nat} {tk:Nat→Option Fr} (h:RowS base wr v TB N tk):RowMem wr base TB N tk:=by
 obtain⟨ws,lo,h1,h2,h3,h4,h5⟩:=h
 exact rowMem_mono (h1.keep h3 (fun b hl hh=>h4 b hl hh)) h2
structure SlBut (w w':Zw) (c:NC) (NB:Nat) (m:Nm):Prop where
 but:But (fun b=>b=NB∨∃ i,i < c.N∧b=m.Q i) w w'
 nb:∀ o,o≠19→w'.cell? ⟨NB,o,none⟩=w.cell? ⟨NB,o,none⟩
 fr:∀ o,w'.frozen? ⟨NB,o,none⟩=w.frozen? ⟨NB,o,none⟩
theorem SlBut.trans {a b d:Zw} {c:NC} {NB:Nat} {m:Nm} (h:SlBut a b c NB m) (k:SlBut b d c NB m):SlBut a d c NB m:=⟨h.but.trans k.but,fun o ho=>(k.nb o ho).trans (h.nb o ho),fun o=>(k.fr o).trans (h.fr o)⟩
theorem SlBut.far {a b:Zw} {c:NC} {NB:Nat} {m:Nm} {T:Nat→Prop} (h:But T a b) (hl:NB < a.heap.size) (hN:¬ T NB) (hT:∀ k,k < a.heap.size→T k→∃ i,i < c.N∧k=m.Q i):SlBut a b c NB m :=
 ⟨h.more (fun k hk ht =>.inr (hT k hk ht)),fun o _=>h.cell (p:=⟨NB,o,none⟩) hl hN,fun o=>h.frozen (p:=⟨NB,o,none⟩) hl hN⟩
theorem SlBut.set {w:Zw} {c:NC} {NB:Nat} {m:Nm} (v:Value):SlBut w (w.setCell ⟨NB,19,none⟩ v) c NB m :=
 ⟨(But.refl _ w).setCell (.inl (.inl rfl)) v,fun o ho=>Zo _ _ _ _ (fun e=>by injection e with _ e;omega),fun o=>World.frozen?_setCell _ _ _ _⟩
theorem SlBut.drew {a b:Zw} {c:NC} {NB:Nat} {m:Nm} (h:SlBut a b c NB m):SlBut a b.drew c NB m:=⟨h.but.drew,h.nb,h.fr⟩
theorem NdOk.slots {w w1:Zw} {c:NC} {NB LO ND round:Nat} {m:Nm} {st:Nat→Nat} {ck:Nat→Int} {q q':Nat→Nat→Option Nat} {g:Nat→Option (List (Nat×Nat))} (h:NdOk w c NB LO ND round m st ck q g) (hs:Sep c NB LO ND m) (hng:∀ i b C,i < c.N→m.gv i=.slice (some ⟨b,0,none⟩) (c.N+c.ps.length) C→b≠NB)
 (hb:SlBut w w1 c NB m) (hq:∀ i,i < c.N→QAt w1 (m.Q i) (c.N+c.ps.length) (q' i)):NdOk w1 c NB LO ND round m st ck q' g:=by
 have nND:¬(ND=NB∨∃ i,i < c.N∧ND=m.Q i):=fun e=>by
  rcases e with e | ⟨i,hi,e⟩
  ·exact hs.nn e.symm
  ·exact hs.qd i hi e.symm
 have kD:∀ o v,w.cell? ⟨ND,o,none⟩=some v→w1.cell? ⟨ND,o,none⟩=some v:=fun o v hv=>(hb.but.cell (p:=⟨ND,o,none⟩) (Zl w _ hv) nND).trans hv
 have n:=fun o (ho:o≠19)=>hb.nb o ho
 have b:=h.nb
 refine⟨⟨(n 0 (by omega)).trans b.c0,(n 1 (by omega)).trans b.c1,(n 2 (by omega)).trans b.c2,(n 3 (by omega)).trans b.c3,(n 4 (by omega)).trans b.c4,(n 5 (by omega)).trans b.c5,(n 6 (by omega)).trans b.c6,(n 7 (by omega)).trans b.c7,(n 8 (by omega)).trans b.c8,(n 9 (by omega)).trans b.c9,(n 10 (by omega)).trans b.c10,(n 11 (by omega)).trans b.c11,(n 12 (by omega)).trans b.c12,(n 13 (by omega)).trans b.c13,(n 14 (by omega)).trans b.c14,(n 15 (by omega)).trans b.c15,(n 16 (by omega)).trans b.c16⟩,
  h.lo.below (hb.but.to_below h.lo.le (fun k e=>e.elim (fun e=>by rw [e];exact hs.ln) (fun⟨i,hi,e⟩=>by rw [e];exact hs.lq i hi))),(n 17 (by omega)).trans h.r,(n 18 (by omega)).trans h.n,fun i hi=>kD _ _ (h.cs i hi),fun i hi=>kD _ _ (h.cc i hi),fun i hi=>kD _ _ (h.cq i hi),fun i hi=>kD _ _ (h.cg i hi),fun i hi=>gotAt_but (h.ga i hi) hb.but (fun b' C e e2=>?_),hq⟩
 rcases e2 with e2 | ⟨j,hj,e2⟩
 ·exact hng i b' C hi e e2
 ·exact hs.gq i j b' C hi hj e e2
def qS (c:NC) (st:Nat→Nat) (q:Nat→Nat→Option Nat):Nat→Nat→Nat→Option Nat
 | 0=>q
 | k+1=>fun i=>qF (owners c.N c.ps k) st (qS c st q k) k i
def tkS (c:NC) (st:Nat→Nat) (fo:Nat→Nat→Option Fr) (s i:Nat):Option Fr:=tkF (owners c.N c.ps s) st (fo s) i
structure SlB (w:Zw) (c:NC) (NB:Nat) (m:Nm) (st:Nat→Nat) (fo:Nat→Nat→Option Fr) (q:Nat→Nat→Option Nat) (k:Nat) (v:Value) (xs:List Value) (wr:Zw):Prop where
 but:SlBut w wr c NB m
 qa:∀ i,i < c.N→QAt wr (m.Q i) (c.N+c.ps.length) (qS c st q k i)
 c19:wr.cell? ⟨NB,19,none⟩=some v
 own:wr.ownsRow w.heap.size 84 4 v k xs
 rows:∀ s,s < k→∃ TB,xs[s*4+3]?=some (.slice (some ⟨TB,0,none⟩) c.N c.N)∧RowS w.heap.size wr v TB c.N (tkS c st fo s)
theorem SlB.mem {w wr:Zw} {c:NC} {NB:Nat} {m:Nm} {st:Nat→Nat} {fo:Nat→Nat→Option Fr} {q:Nat→Nat→Option Nat} {k:Nat} {v:Value} {xs:List Value} (h:SlB w c NB m st fo q k v xs wr) (hk:0 < k):∃ SB SC,v=.slice (some ⟨SB,0,none⟩) k SC∧SlotsMem wr w.heap.size SB k c.N (tkS c st fo):=by
 obtain⟨g,cap,rfl,h1,h2,h3⟩:=own_some h.own hk
 refine⟨g,cap,rfl,h1,h2,fun s hs=>?_⟩
 obtain⟨TB,e,hr⟩:=h.rows s hs
 exact⟨TB,h3 _ _ e,hr.mem⟩
theorem SlB.drew {w wr:Zw} {c:NC} {NB:Nat} {m:Nm} {st:Nat→Nat} {fo:Nat→Nat→Option Fr} {q:Nat→Nat→Option Nat} {k:Nat} {v:Value} {xs:List Value} (h:SlB w c NB m st fo q k v xs wr):SlB w c NB m st fo q k v xs wr.drew :=
 ⟨h.but.drew,fun i hi=>(h.qa i hi).keep (Zr _) rfl,h.c19,h.own.drew,fun s hs=>by
  obtain⟨TB,e,hr⟩:=h.rows s hs
  exact⟨TB,e,hr.go (But.drew (But.refl (fun _=>False) wr)) (fun _ _ _ e=>e.elim) (fun g hg =>.inl hg)⟩⟩
theorem SlB.zero {w:Zw} {c:NC} {NB:Nat} {m:Nm} {st:Nat→Nat} {fo:Nat→Nat→Option Fr} {q:Nat→Nat→Option Nat} {u:Value} (h:w.cell? ⟨NB,19,none⟩=some u) (hq:∀ i,i < c.N→QAt w (m.Q i) (c.N+c.ps.length) (q i)) (hn:∀ i,i < c.N→m.Q i≠NB):SlB w c NB m st fo q 0 (.slice none 0 0) [] (w.setCell ⟨NB,19,none⟩ (.slice none 0 0)) :=
 ⟨SlBut.set _,fun i hi=>(hq i hi).keep (by simp [World.setCell]) (Below.heap_setCell _ _ _ _ (hn i hi)),World.cell?_setCell_same _ _ _ h,World.ownsRow_nil _ _ _ _,fun s hs=>absurd hs (by omega)⟩
theorem SlB.below {w wr w2:Zw} {c:NC} {NB:Nat} {m:Nm} {st:Nat→Nat} {fo:Nat→Nat→Option Fr} {q:Nat→Nat→Option Nat} {k:Nat} {v:Value} {xs:List Value} (h:SlB w c NB m st fo q k v xs wr) (hb:Zb wr.heap.size wr w2):SlB w c NB m st fo q k v xs w2:=by
 have lNB:=Zl wr _ h.c19
 have hB:But (fun _=>False) wr w2:=But.of_below hb (Zr _)
 exact⟨h.but.trans (SlBut.far hB lNB (fun e=>e) (fun _ _ e=>e.elim)),fun i hi=>(h.qa i hi).below hb,(hb.cell (p:=⟨NB,19,none⟩) lNB).trans h.c19,own_below h.own hb,fun s hs=>by
  obtain⟨TB,e,hr⟩:=h.rows s hs
  exact⟨TB,e,hr.go hB (fun _ _ _ e=>e.elim) (fun g hg =>.inl hg)⟩⟩
theorem SlB.next {w wr w2 wa w3:Zw} {c:NC} {NB:Nat} {m:Nm} {st:Nat→Nat} {fo:Nat→Nat→Option Fr} {q:Nat→Nat→Option Nat} {k:Nat} {v:Value} {xs:List Value} {TB g cap:Nat} {a0 a1 a2:Value} (h:SlB w c NB m st fo q k v xs wr) (hNBw:NB < w.heap.size) (hqw:∀ i,i < c.N→m.Q i < w.heap.size) (hqn:∀ i,i < c.N→m.Q i≠NB)
 (hr:RowMem w2 wr.heap.size TB c.N (tkF (owners c.N c.ps k) st (fo k))) (hb:But (fun b=>∃ i,i < c.N∧b=m.Q i) wr w2) (hq:∀ i,i < c.N→QAt w2 (m.Q i) (c.N+c.ps.length) (qF (owners c.N c.ps k) st (qS c st q k) k i))
 (ha:But (fun _=>False) w2 wa) (hown:w3.ownsRow w.heap.size 84 4 (.slice (some ⟨g,0,none⟩) (k+1) cap) (k+1) (xs ++ [a0,a1,a2,.slice (some ⟨TB,0,none⟩) c.N c.N])) (hgrow:wa.grownBy w3 v.ownBlock) (hat:v.ownBlock=some g∨w2.heap.size≤g) :
 SlB w c NB m st fo q (k+1) (.slice (some ⟨g,0,none⟩) (k+1) cap) (xs ++ [a0,a1,a2,.slice (some ⟨TB,0,none⟩) c.N c.N]) (w3.setCell ⟨NB,19,none⟩ (.slice (some ⟨g,0,none⟩) (k+1) cap)):=by
 have hwr:=h.but.but.size
 have hw2:=hb.size
 have vge:∀ b,v.ownBlock=some b→w.heap.size≤b:=fun b e=>ownsRow_block h.own e
 have vlt:∀ b,v.ownBlock=some b→b < wr.heap.size:=fun b e=>(h.own.lt b e).2
 have hg:But (fun b=>v.ownBlock=some b) w2 w3:=But.grown (ha.more (fun _ _ e=>e.elim)) hgrow (fun q hq =>.inl hq)
 have hset:But (fun b=>v.ownBlock=some b∨b=NB) w2 (w3.setCell ⟨NB,19,none⟩ (.slice (some ⟨g,0,none⟩) (k+1) cap)):=(hg.more (fun _ _ e =>.inl e)).setCell (p:=⟨NB,19,none⟩) (.inl (.inr rfl)) _
 have lNBr:NB < wr.heap.size:=by omega
 have lNB2:NB < w2.heap.size:=by omega
 have nNB:¬ v.ownBlock=some NB:=fun e=>by have:=vge _ e;omega
 have nQ:¬ ∃ i,i < c.N∧NB=m.Q i:=fun⟨i,hi,e⟩=>hqn i hi e.symm
 have c19:∃ u,w3.cell? ⟨NB,19,none⟩=some u:=⟨_,(hg.cell (p:=⟨NB,19,none⟩) lNB2 nNB).trans ((hb.cell (p:=⟨NB,19,none⟩) lNBr nQ).trans h.c19)⟩
 obtain⟨u,hu⟩:=c19
 have hb3:SlBut w w3 c NB m:=by
  refine⟨⟨hg.os.trans (hb.os.trans h.but.but.os),hg.tape.trans (hb.tape.trans h.but.but.tape),hg.output.trans (hb.output.trans h.but.but.output),by have:=hg.size;omega,fun b hbl hn=>?_⟩,fun o ho=>?_,fun o=>?_⟩
  ·exact(hg.block b (by omega) (fun e=>by have:=vge _ e;omega)).trans ((hb.block b (by omega) (fun e=>hn (.inr e))).trans (h.but.but.block b hbl hn))
  ·exact(hg.cell (p:=⟨NB,o,none⟩) lNB2 nNB).trans ((hb.cell (p:=⟨NB,o,none⟩) lNBr nQ).trans (h.but.nb o ho))
  ·exact(hg.frozen (p:=⟨NB,o,none⟩) lNB2 nNB).trans ((hb.frozen (p:=⟨NB,o,none⟩) lNBr nQ).trans (h.but.fr o))
 refine⟨hb3.trans (SlBut.set _),fun i hi=>?_,World.cell?_setCell_same _ _ _ hu,ownsRow_setCell_below hown hNBw _,fun s hs=>?_⟩
 ·refine(hq i hi).but hset (fun e=>?_)
  rcases e with e | e
  ·have:=vge _ e;have:=hqw i hi;omega
  ·exact hqn i hi e
 ·have hT:∀ b,w.heap.size≤b→b < w2.heap.size→(v.ownBlock=some b∨b=NB)→v.ownBlock=some b:=fun b hb1 _ e=>e.elim id (fun e=>by omega)
  have hv:∀ g',(Value.slice (some ⟨g,0,none⟩) (k+1) cap).ownBlock=some g'→v.ownBlock=some g'∨w2.heap.size≤g':=fun g' e=>by
   injection e with e
   subst e
   exact hat
  have hl:=h.own.1
  by_cases e:s=k
  ·subst e
   refine⟨TB,?_,?_⟩
   ·rw [List.getElem?_append_right (by omega),show s*4+3-xs.length=3 by omega];rfl
   ·exact RowS.go (v:=v) ⟨w2,wr.heap.size,hr,hwr,Zr _,fun _ _ _=>rfl,fun g' e =>.inl (vlt g' e)⟩ hset hT hv
  ·obtain⟨TB',e',hr'⟩:=h.rows s (by omega)
   refine⟨TB',?_,?_⟩
   ·rw [List.getElem?_append_left (by omega)];exact e'
   ·exact(hr'.go (v':=v) hb (fun b hb1 _ ⟨i,hi,e⟩=>by have:=hqw i hi;omega) (fun g' e =>.inl e)).go hset hT hv
end A62
end Go.Proofs.YtdbempiompiioaaGreat
