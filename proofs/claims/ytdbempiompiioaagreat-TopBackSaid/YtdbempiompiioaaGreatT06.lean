/- Any stream read: a frame, if it is one's text, or an error. A stream that is no frame of this round  Conditions: the bounds stated in each theorem. -/
import Derived.Test.YtdbempiompiioaaGreatT05
set_option linter.unusedVariables false
set_option linter.unusedSimpArgs false
set_option maxRecDepth 100000
set_option maxHeartbeats 80000000
open Go.Value renaming int → Z
open Go.IntKind renaming i64 → Y
open Go renaming World → Zw, Calls → Zc, heap_alloc_new → Zh
open Go.RowKit renaming Below → Zb
open Go.Proofs.Tryz renaming prog → Zp
open Go.Lib renaming hid → O
open Go.World renaming block_lt_of_cell? → Zl, cell?_setCell_other → Zo
open Nat renaming le_refl → Zr
open Go.RowKit.Below renaming refl → Zf
namespace Go.Proofs.YtdbempiompiioaaGreat
namespace D7
open Go.RowKit A2 A6 A20 A21 A22 A23 A25 A28 A29 D2 D3 D4 D5 D6
theorem bitsL_inj {a b:List UInt8} (ha:AllBits a) (hb:AllBits b) (hl:a.length=b.length) (h:numL a=numL b):a=b:=by
 have key:∀ n,∀ a b:List UInt8,AllBits a→AllBits b→a.length=n→b.length=n→numL a=numL b→a=b:=by
  intro n
  induction n with
  | zero =>
   intro a b _ _ h1 h2 _
   rw [List.length_eq_zero_iff.mp h1,List.length_eq_zero_iff.mp h2]
  | succ n ih =>
   intro a b ha hb h1 h2 h
   rcases List.eq_nil_or_concat a with rfl | ⟨a',x,rfl⟩
   ·simp at h1
   rcases List.eq_nil_or_concat b with rfl | ⟨b',y,rfl⟩
   ·simp at h2
   simp only [List.concat_eq_append]at *
   rw [numL_snoc,numL_snoc]at h
   have hx:=ha x (by simp)
   have hy:=hb y (by simp)
   have e1:numL a'=numL b':=by omega
   have e2:x.toNat=y.toNat:=by omega
   rw [ih a' b' (fun c hc=>ha c (by simp [hc])) (fun c hc=>hb c (by simp [hc])) (by simpa using h1) (by simpa using h2) e1,UInt8.toNat_inj.mp e2]
 exact key a.length a b ha hb rfl hl.symm h
theorem bits_is {a:List UInt8} {n:Nat} (ha:AllBits a) (hl:a.length=n):a=bitsL (numL a) n:=by
 subst hl
 exact bitsL_inj ha (bits_all _ _) (bitsL_length _ _).symm (numL_bits _ _ (numL_lt ha)).symm
theorem cut_bits {l:List UInt8} (n:Nat) (h:AllBits l) (hn:n≤l.length):∃ x r,x < 2 ^ n∧l=bitsL x n ++ r∧AllBits r∧r.length=l.length-n:=by
 have h1:AllBits (l.take n):=fun c hc=>h c (List.mem_of_mem_take hc)
 have h2:(l.take n).length=n:=by rw [List.length_take];omega
 refine⟨numL (l.take n),l.drop n,?_,?_,fun c hc=>h c (List.mem_of_mem_drop hc),List.length_drop⟩
 ·have:=numL_lt h1
  rwa [h2]at this
 ·rw [← bits_is h1 h2,List.take_append_drop]
theorem echo_is:∀(m:Nat) (l:List UInt8),AllBits l→l.length=10*m→∃ e:List (Nat×Nat),e.length=m∧l=echoL e∧∀ x,x ∈ e→x.1≤3∧x.2≤255
 | 0,l,_,hl=>⟨[],rfl,by rw [List.length_eq_zero_iff.mp (by omega:l.length=0)];rfl,fun x hx=>by cases hx⟩
 | m+1,l,h,hl=>by
  obtain⟨k,r,hk,rfl,h1,h2⟩:=cut_bits 2 h (by omega)
  rw [List.length_append,bitsL_length]at h2 hl
  obtain⟨v,r,hv,rfl,h3,h4⟩:=cut_bits 8 h1 (by omega)
  rw [List.length_append,bitsL_length]at h4 hl
  obtain⟨e,he,rfl,hb⟩:=echo_is m r h3 (by omega)
  refine⟨(k,v) :: e,by simp [he],?_,fun x hx=>?_⟩
  ·simp [echoL,itemL,List.append_assoc]
  ·rcases List.mem_cons.mp hx with rfl | hx
   ·exact⟨by show k≤3;omega,by show v≤255;omega⟩
   ·exact hb x hx
open Classical in
noncomputable def readF (N PL:Nat) (s:ByteArray):Option Fr:=if h:∃ f,FrOk N PL f∧s=textB f then some h.choose else none
theorem readF_ok {N PL:Nat} {s:ByteArray} {f:Fr} (h:readF N PL s=some f):FrOk N PL f∧s=textB f:=by
 unfold readF at h
 split at h
 ·injection h with h
  subst h
  next h=>exact h.choose_spec
 ·cases h
theorem readF_none {N PL:Nat} {s:ByteArray} (h:readF N PL s=none) (f:Fr) (hf:FrOk N PL f):s≠textB f:=fun e=>by
 unfold readF at h
 rw [dif_pos ⟨f,hf,e⟩]at h
 cases h
theorem tail_strm {s:ByteArray} (hs:Strm s) (ht:Lib.hasSuffix s.data.toList [35]=true):∃ l,AllBits l∧s=⟨(l ++ [35]).toArray⟩∧s.size=l.length+1:=by
 unfold Lib.hasSuffix at ht
 rw [List.isSuffixOf_iff_suffix]at ht
 obtain⟨l,hl⟩:=ht
 have e:s=⟨(l ++ [35]).toArray⟩:=by
  apply ByteArray.ext
  rw [← Array.toArray_toList (xs:=s.data),← hl]
 have hz:s.size=l.length+1:=by rw [e];show(l ++ [35]).length=_;simp
 refine⟨l,fun c hc=>?_,e,hz⟩
 obtain⟨i,hi,rfl⟩:=List.getElem_of_mem hc
 have h1:=hs.2 i (by omega)
 have h2:s[i]'(by omega)=l[i]:=by
  subst e
  show(l ++ [35])[i]'_=l[i]
  exact List.getElem_append_left hi
 rw [h2]at h1
 rcases h1 with h1 | h1 | h1
 ·exact .inl h1
 ·exact .inr h1
 ·omega
theorem Read_any (N:Nat) (Pi Er G Fi:Int) (PA:Option Addr) (PL PC:Nat) (s:ByteArray) (w:Zw) (hs:Strm s) (h37:s.size≤4000) (hN:N≤12) (hP:PL≤3) :
 Zc Zp 179 #[.agg #[Z Y N,Z Y Pi,Z Y Er,Z Y G,Z Y Fi,.slice PA PL PC],.string s] w (fun e w'=>match readF N PL s with | some f=>RetFr f w e w' | none=>RetErr w e w'):=by
 cases hr:readF N PL s with
 | some f =>
  obtain⟨hf,rfl⟩:=readF_ok hr
  exact Read_yes N Pi Er G Fi PA PL PC f w hf hN hP
 | none =>
  have hno:=readF_none hr
  show Zc _ _ _ _ (RetErr w)
  cases ht:Lib.hasSuffix s.data.toList [35]with
  | false =>
   refine(Read_no N Pi Er G Fi PA PL PC s w hs.1 ht).mono ?_
   rintro e w' ⟨rfl,hb⟩
   exact⟨4,by omega,rfl,hb⟩
  | true =>
   obtain⟨l,hl,e,hz⟩:=tail_strm hs ht
   have h4:=hs.1
   by_cases h1:s.size < 17
   ·exact Read_shut N Pi Er G Fi PA PL PC s 3 w (by omega) (O (fun w=>Open_cut s w hs ht h1))
   have hsp:l=l.take (s.size-17) ++ l.drop (s.size-17):=(List.take_append_drop _ _).symm
   obtain⟨n,hn⟩:∃ n,n=s.size-17:=⟨_,rfl⟩
   rw [← hn]at hsp
   have hL:(l.take n).length=n:=by rw [List.length_take];omega
   have hS:(l.drop n).length=16:=by rw [List.length_drop];omega
   have hLb:AllBits (l.take n):=fun c hc=>hl c (List.mem_of_mem_take hc)
   generalize hLe:l.take n=L at *
   generalize hSe:l.drop n=S at *
   subst hsp
   by_cases h2:S=bitsL (sumL L) 16
   ·have e2:s=⟨(wrapL L).toArray⟩:=by rw [e,h2];rfl
    subst e2
    by_cases h3:L.length < 34
    ·exact Read_short N Pi Er G Fi PA PL PC L w hLb h3
    obtain⟨k,r,hk,rfl,b1,l1⟩:=cut_bits 2 hLb (by omega)
    rw [List.length_append,bitsL_length]at l1 h3 hL
    obtain⟨ro,r,hro,rfl,b2,l2⟩:=cut_bits 16 b1 (by omega)
    rw [List.length_append,bitsL_length]at l2 h3 hL
    obtain⟨sl,r,hsl,rfl,b3,l3⟩:=cut_bits 6 b2 (by omega)
    rw [List.length_append,bitsL_length]at l3 h3 hL
    obtain⟨pk,r,hpk,rfl,b4,l4⟩:=cut_bits 2 b3 (by omega)
    rw [List.length_append,bitsL_length]at l4 h3 hL
    obtain⟨pv,R,hpv,rfl,b5,l5⟩:=cut_bits 8 b4 (by omega)
    rw [List.length_append,bitsL_length]at l5 h3 hL
    have eb:bitsL k 2 ++ (bitsL ro 16 ++ (bitsL sl 6 ++ (bitsL pk 2 ++ (bitsL pv 8 ++ R))))=bitsL k 2 ++ (bitsL ro 16 ++ (bitsL sl 6 ++ (itemL (pk,pv) ++ R))):=by
     simp [itemL,List.append_assoc]
    by_cases h5:R.length=10*(if k=3∧sl < N then N+PL else 0)
    ·obtain⟨ec,hec,rfl,heb⟩:=echo_is _ R b5 h5
     have hbd:bodyL ⟨k,ro,sl,pk,pv,ec⟩=bitsL k 2 ++ (bitsL ro 16 ++ (bitsL sl 6 ++ (itemL (pk,pv) ++ echoL ec))):=by
      show bodyL _=_
      simp [bodyL,headL,List.append_assoc]
     have hR:FrR N PL ⟨k,ro,sl,pk,pv,ec⟩:=⟨by show k≤3;omega,by show ro≤65535;omega,by show sl≤63;omega,by show pk≤3;omega,by show pv≤255;omega,hec,fun j hj=>by
      rw [List.getD_eq_getElem?_getD,List.getElem?_eq_getElem hj,Option.getD_some]
      exact heb _ (List.getElem_mem hj)⟩
     have et:(⟨(wrapL (bitsL k 2 ++ (bitsL ro 16 ++ (bitsL sl 6 ++ (bitsL pk 2 ++ (bitsL pv 8 ++ echoL ec)))))).toArray⟩:ByteArray)=textB ⟨k,ro,sl,pk,pv,ec⟩:=by
      rw [eb,← hbd];rfl
     obtain⟨ch,hch,hcc⟩:=Check_any N PL _ hR hN hP
     have hch0:ch≠0:=fun e0=>hno _ (hch.mp e0) et
     rw [et]
     refine(Read_raw N Pi Er G Fi PA PL PC _ w hR ch (fun EA EC w h=>hcc Pi Er G Fi PA PC EA EC w h) hN hP).mono ?_
     rintro e w' (⟨h0,_⟩ | ⟨_,rfl,hb⟩)
     ·exact absurd h0 hch0
     ·exact⟨ch,hch0,rfl,hb⟩
    ·rw [eb]
     refine Read_len N Pi Er G Fi PA PL PC k ro sl pk pv (if k=3∧sl < N then N+PL else 0) R w (by omega) (by omega) (by omega) ⟨by omega,by omega⟩ b5 (by omega) (by split <;> omega) h5 (O (fun w=>?_))
     by_cases hk3:k=3
     ·subst hk3
      by_cases hs':sl < N
      ·rw [if_pos ⟨rfl,hs'⟩]
       have:=frame_echoes_data N Pi Er G Fi PA PL PC sl w (by omega) (by omega) hP (by omega)
       rw [show((N+PL:Nat):Int)=(N:Int)+PL by omega]
       exact this
      ·rw [if_neg (fun e=>hs' e.2)]
       exact frame_echoes_pair N Pi Er G Fi PA PL PC sl w (by omega) (by omega) hP (by omega)
     ·rw [if_neg (fun e=>hk3 e.1)]
      exact frame_echoes_none N Pi Er G Fi PA PL PC k sl w (by omega) (by omega) hP (by omega)
   ·refine Read_shut N Pi Er G Fi PA PL PC s 5 w (by omega) (O (fun w=>Open_sum s L n w hs ht hL.symm (by omega) hLb ?_ ?_))
    ·rw [e]
     apply ByteArray.ext
     simp [Lib.extract_data,hL]
    ·intro e3
     apply h2
     rw [← e3,e]
     simp [ByteArray.toList_eq,Lib.extract_data]
     rw [← hL,← hS]
     simp
end D7
namespace D8
open Go.RowKit A1 A6 A11 A18 A22 A25 A29 A30 D5 D7
theorem Right_err (N:Nat) (Pi Er G Fi:Int) (PA:Option Addr) (PL PC:Nat) (round slot:Int) (s:ByteArray) (w:Zw) (H:Hid (∀ w,Zc Zp 179 #[.agg #[Z Y N,Z Y Pi,Z Y Er,Z Y G,Z Y Fi,.slice PA PL PC],.string s] w (RetErr w))) :
 Zc Zp 153 #[.agg #[Z Y N,Z Y Pi,Z Y Er,Z Y G,Z Y Fi,.slice PA PL PC],Z Y round,Z Y slot,.string s] w fun e w'=>e=.returned (.tuple #[.agg #[Z Y 0,Z Y 0,Z Y 0,Z Y 0,Z Y 0,.slice none 0 0],.bool false])∧Zb w.heap.size w w':=by
 go_enter Tryz.func153,Tryz.ntmps153
 go_wp2_with fail
 refine(H.out _).mono ?_
 rintro e w1 ⟨kk,hkk,rfl,hb1⟩
 have zc:((kk:Int) != 0)=true:=by simp;omega
 have bx:w1.heap[w.heap.size+1]?=some (.cells #[Z Y 0,Z Y 0,Z Y 0,Z Y 0,Z Y 0,.slice none 0 0] 118 (0,0)):=(hb1.block _ (by simp)).trans (by
  have:=Zh (w.alloc (.cells #[Z Y N,Z Y Pi,Z Y Er,Z Y G,Z Y Fi,.slice PA PL PC] 24)) (.cells #[Z Y 0,Z Y 0,Z Y 0,Z Y 0,Z Y 0,.slice none 0 0] 118)
  simpa using this)
 have hz1:=heap_lt bx
 have hB1:Zb w.heap.size w w1:=Below.trans (show Zb w.heap.size w _ from bB) (hb1.mono (by simp;omega))
 have bx2:(w1.alloc (.cells #[Z Y 0,Z Y 0,Z Y 0,Z Y 0,Z Y 0,.slice none 0 0] 118)).heap[w.heap.size+1]?=some (.cells #[Z Y 0,Z Y 0,Z Y 0,Z Y 0,Z Y 0,.slice none 0 0] 118 (0,0)):=(Below.heap_alloc _ _ _ hz1).trans bx
 have hB2:Zb w.heap.size w (w1.alloc (.cells #[Z Y 0,Z Y 0,Z Y 0,Z Y 0,Z Y 0,.slice none 0 0] 118)):=hB1.alloc (by omega) _
 have HB2:=O hB2
 have HX2:=O bx2
 clear bx bx2 hB1 hB2 hb1
 go_wp2_with fail
 refine wp_region_held_drew (S:=fun w'=>True) (by kernel_rfl) trivial (fun hHeld=>?_)
 refine rgT 0 ?_
 refine rgT 1 ?_
 refine rgT 2 ?_
 refine rgS 3 ?_
 refine rgS 4 ?_
 refine rgS 5 ?_
 refine rgS 6 ?_
 refine rgS 7 ?_
 refine rgS 8 ?_
 refine rgT 9 ?_
 refine rgT 10 ?_
 refine rgS 11 ?_
 refine rgS 12 ?_
 refine rgS 13 ?_
 refine rgS 14 ?_
 refine rgT 15 ?_
 refine wpAnyH_done (by kernel_rfl) ?_ _
 have hx:=HX2.out
 generalize w1.alloc (.cells #[Z Y 0,Z Y 0,Z Y 0,Z Y 0,Z Y 0,.slice none 0 0] 118)=w2 at *
 have x0:w2.cell? ⟨w.heap.size+1,0,none⟩=some (Z Y 0):=by simp [World.cell?,hx]
 have x1:w2.cell? ⟨w.heap.size+1,1,none⟩=some (Z Y 0):=by simp [World.cell?,hx]
 have x2:w2.cell? ⟨w.heap.size+1,2,none⟩=some (Z Y 0):=by simp [World.cell?,hx]
 have x3:w2.cell? ⟨w.heap.size+1,3,none⟩=some (Z Y 0):=by simp [World.cell?,hx]
 have x4:w2.cell? ⟨w.heap.size+1,4,none⟩=some (Z Y 0):=by simp [World.cell?,hx]
 have x5:w2.cell? ⟨w.heap.size+1,5,none⟩=some (.slice none 0 0):=by simp [World.cell?,hx]
 have y0:∀ o,w2.frozen? ⟨w.heap.size+1,o,none⟩=false:=fun o=>by simp [World.frozen?,hx]
 clear hx hHeld HX2
 go_wp2
 refine bodyPost_ret (v :=.tuple #[.agg #[Z Y 0,Z Y 0,Z Y 0,Z Y 0,Z Y 0,.slice none 0 0],.bool false]) (by simp [results,Tryz.results153,go_sem,x0,x1,x2,x3,x4,x5]) rfl ⟨rfl,?_⟩
 exact Below.drew (below6 HB2.out (by omega))
theorem Right_rnd (N:Nat) (Pi Er G Fi:Int) (PA:Option Addr) (PL PC:Nat) (round slot:Int) (f:Fr) (w:Zw) (hf:FrOk N PL f) (hN:N≤12) (hP:PL≤3) (hFi:0≤Fi) (hFi2:Fi≤65535) (hr:0≤round) (hr2:round≤1000) (hne:¬(f.round:Int)=(Fi+round)%65536) :
 Zc Zp 153 #[.agg #[Z Y N,Z Y Pi,Z Y Er,Z Y G,Z Y Fi,.slice PA PL PC],Z Y round,Z Y slot,.string (textB f)] w fun e w'=>e=.returned (.tuple #[.agg #[Z Y 0,Z Y 0,Z Y 0,Z Y 0,Z Y 0,.slice none 0 0],.bool false])∧Zb w.heap.size w w':=by
 have H:=O (fun w=>Read_yes N Pi Er G Fi PA PL PC f w hf hN hP)
 have hW:=fun w=>conf_Wire N Pi Er G Fi PA PL PC round w hFi hFi2 hr hr2
 generalize (Fi+round)%65536=wr at *
 have q1:((f.round:Int) != wr)=true:=by simp;exact hne
 have HW:=O hW
 clear hf hW hne
 generalize textB f=tx at *
 go_enter Tryz.func153,Tryz.ntmps153
 go_wp2_with fail
 refine(H.out _).mono ?_
 rintro e w1 ⟨EA,EC,rfl,hI,hEA,hb1⟩
 have HEA:=O hEA
 clear hEA
 have bx:w1.heap[w.heap.size+1]?=some (.cells #[Z Y 0,Z Y 0,Z Y 0,Z Y 0,Z Y 0,.slice none 0 0] 118 (0,0)):=(hb1.block _ (by simp)).trans (by
  have:=Zh (w.alloc (.cells #[Z Y N,Z Y Pi,Z Y Er,Z Y G,Z Y Fi,.slice PA PL PC] 24)) (.cells #[Z Y 0,Z Y 0,Z Y 0,Z Y 0,Z Y 0,.slice none 0 0] 118)
  simpa using this)
 have bc:w1.heap[w.heap.size]?=some (.cells #[Z Y N,Z Y Pi,Z Y Er,Z Y G,Z Y Fi,.slice PA PL PC] 24 (0,0)):=(hb1.block _ (by simp;omega)).trans ((Below.heap_alloc _ _ _ (by simp)).trans (Zh w _))
 have hz1:=heap_lt bx
 have hB1:Zb w.heap.size w w1:=Below.trans (show Zb w.heap.size w _ from bB) (hb1.mono (by simp;omega))
 obtain⟨w2,hw2⟩:∃ w2,w2=w1.alloc (.cells #[Z Y f.kind,Z Y f.round,Z Y f.slot,Z Y f.pk,Z Y f.pv,.slice EA f.echo.length EC] 118):=⟨_,rfl⟩
 have hal:Zb w1.heap.size w1 w2:=by rw [hw2];exact(Zf _ _).alloc (Zr _) _
 have hx2:=(hal.block _ hz1).trans bx
 have hc2:=(hal.block w.heap.size (by omega)).trans bc
 have hf2:w2.heap[w1.heap.size]?=some (.cells #[Z Y f.kind,Z Y f.round,Z Y f.slot,Z Y f.pk,Z Y f.pv,.slice EA f.echo.length EC] 118 (0,0)):=by rw [hw2];exact Zh w1 _
 have hI2:=hI.below hal
 have hB2:=hB1.trans (hal.mono (by omega))
 have HB2:=O hB2
 have HX2:=O hx2
 have HC2:=O hc2
 have HF2:=O hf2
 have HI2:=O hI2
 have HW2:=O hw2
 have hz2:=heap_lt hf2
 clear bx bc hB1 hB2 hb1 hI hx2 hc2 hf2 hI2 hal hw2
 go_wp2_with fail
 rw [← HW2.out]
 clear HW2
 have c0:w2.cell? ⟨w.heap.size,0,none⟩=some (Z Y N):=by simp [World.cell?,HC2.out]
 have c1:w2.cell? ⟨w.heap.size,1,none⟩=some (Z Y Pi):=by simp [World.cell?,HC2.out]
 have c2:w2.cell? ⟨w.heap.size,2,none⟩=some (Z Y Er):=by simp [World.cell?,HC2.out]
 have c3:w2.cell? ⟨w.heap.size,3,none⟩=some (Z Y G):=by simp [World.cell?,HC2.out]
 have c4:w2.cell? ⟨w.heap.size,4,none⟩=some (Z Y Fi):=by simp [World.cell?,HC2.out]
 have c5:w2.cell? ⟨w.heap.size,5,none⟩=some (.slice PA PL PC):=by simp [World.cell?,HC2.out]
 have f1:w2.cell? ⟨w1.heap.size,1,none⟩=some (Z Y f.round):=by simp [World.cell?,HF2.out]
 have f2:w2.cell? ⟨w1.heap.size,2,none⟩=some (Z Y f.slot):=by simp [World.cell?,HF2.out]
 refine wp_region_held_drew (S:=fun w'=>w'.cell? ⟨w.heap.size,0,none⟩=some (Z Y N)∧w'.cell? ⟨w.heap.size,1,none⟩=some (Z Y Pi)∧w'.cell? ⟨w.heap.size,2,none⟩=some (Z Y Er)∧w'.cell? ⟨w.heap.size,3,none⟩=some (Z Y G)∧w'.cell? ⟨w.heap.size,4,none⟩=some (Z Y Fi)∧w'.cell? ⟨w.heap.size,5,none⟩=some (.slice PA PL PC)∧w'.cell? ⟨w1.heap.size,1,none⟩=some (Z Y f.round)∧w'.cell? ⟨w1.heap.size,2,none⟩=some (Z Y f.slot)) (by kernel_rfl) ⟨c0,c1,c2,c3,c4,c5,f1,f2⟩ (fun hHeld=>?_)
 refine rgT 0 ?_
 refine rgT 1 ?_
 refine rgT 2 ?_
 refine rgT 3 ?_
 refine rgT 4 ?_
 refine rgT 5 ?_
 refine rgT 6 ?_
 refine rgR 7 fun K hK=>?_
 go_simp
 refine(HW.out _).mono ?_
 rintro e w3 ⟨rfl,hb3'⟩
 have hb3:Zb w2.heap.size w2 w3:=⟨hb3'.os,hb3'.tape,hb3'.output,hb3'.size,hb3'.block⟩
 have lw:w.heap.size < w2.heap.size:=by omega
 go_simp
 refine hK.out _ _ ⟨keep_of c0 lw hb3,keep_of c1 lw hb3,keep_of c2 lw hb3,keep_of c3 lw hb3,keep_of c4 lw hb3,keep_of c5 lw hb3,keep_of f1 hz2 hb3,keep_of f2 hz2 hb3⟩ (fun hHeld=>?_)
 clear hK K
 refine rgT 8 ?_
 refine rgT 9 ?_
 refine rgT 10 ?_
 refine rgS 11 ?_
 refine rgS 12 ?_
 refine rgS 13 ?_
 refine rgS 14 ?_
 refine rgT 15 ?_
 refine wpAnyH_done (by kernel_rfl) ?_ _
 have hx:=(hb3.block (w.heap.size+1) (by omega)).trans HX2.out
 have hff:=(hb3.block _ hz2).trans HF2.out
 have HI3:=O (HI2.out.below hb3)
 have HB3:=O (HB2.out.trans (hb3.mono (by omega)))
 have hz3:w.heap.size+1 < w3.heap.size:=heap_lt hx
 have x0:w3.cell? ⟨w.heap.size+1,0,none⟩=some (Z Y 0):=by simp [World.cell?,hx]
 have x1:w3.cell? ⟨w.heap.size+1,1,none⟩=some (Z Y 0):=by simp [World.cell?,hx]
 have x2:w3.cell? ⟨w.heap.size+1,2,none⟩=some (Z Y 0):=by simp [World.cell?,hx]
 have x3:w3.cell? ⟨w.heap.size+1,3,none⟩=some (Z Y 0):=by simp [World.cell?,hx]
 have x4:w3.cell? ⟨w.heap.size+1,4,none⟩=some (Z Y 0):=by simp [World.cell?,hx]
 have x5:w3.cell? ⟨w.heap.size+1,5,none⟩=some (.slice none 0 0):=by simp [World.cell?,hx]
 have y0:∀ o,w3.frozen? ⟨w.heap.size+1,o,none⟩=false:=fun o=>by simp [World.frozen?,hx]
 have g0:w3.cell? ⟨w1.heap.size,0,none⟩=some (Z Y f.kind):=by simp [World.cell?,hff]
 have g1:w3.cell? ⟨w1.heap.size,1,none⟩=some (Z Y f.round):=by simp [World.cell?,hff]
 have g2:w3.cell? ⟨w1.heap.size,2,none⟩=some (Z Y f.slot):=by simp [World.cell?,hff]
 have g3:w3.cell? ⟨w1.heap.size,3,none⟩=some (Z Y f.pk):=by simp [World.cell?,hff]
 have g4:w3.cell? ⟨w1.heap.size,4,none⟩=some (Z Y f.pv):=by simp [World.cell?,hff]
 have g5:w3.cell? ⟨w1.heap.size,5,none⟩=some (.slice EA f.echo.length EC):=by simp [World.cell?,hff]
 clear hx hff hHeld HX2 HC2 HF2 HI2 c0 c1 c2 c3 c4 c5 f1 f2 hb3 hb3' HB2
 go_wp2
 refine bodyPost_ret (v :=.tuple #[.agg #[Z Y 0,Z Y 0,Z Y 0,Z Y 0,Z Y 0,.slice none 0 0],.bool false]) (by simp [results,Tryz.results153,go_sem,x0,x1,x2,x3,x4,x5]) rfl ⟨rfl,below6 HB3.out (by omega)⟩
theorem Right_slot (N:Nat) (Pi Er G Fi:Int) (PA:Option Addr) (PL PC:Nat) (round slot:Int) (f:Fr) (w:Zw) (hf:FrOk N PL f) (hN:N≤12) (hP:PL≤3) (hFi:0≤Fi) (hFi2:Fi≤65535) (hr:0≤round) (hr2:round≤1000) (hw:(f.round:Int)=(Fi+round)%65536) (hne:¬(f.slot:Int)=slot) :
 Zc Zp 153 #[.agg #[Z Y N,Z Y Pi,Z Y Er,Z Y G,Z Y Fi,.slice PA PL PC],Z Y round,Z Y slot,.string (textB f)] w fun e w'=>e=.returned (.tuple #[.agg #[Z Y 0,Z Y 0,Z Y 0,Z Y 0,Z Y 0,.slice none 0 0],.bool false])∧Zb w.heap.size w w':=by
 have H:=O (fun w=>Read_yes N Pi Er G Fi PA PL PC f w hf hN hP)
 have hW:=fun w=>conf_Wire N Pi Er G Fi PA PL PC round w hFi hFi2 hr hr2
 rw [← hw]at hW
 have q1:((f.slot:Int) != slot)=true:=by simp;exact hne
 have HW:=O hW
 clear hf hw hW hne
 generalize textB f=tx at *
 go_enter Tryz.func153,Tryz.ntmps153
 go_wp2_with fail
 refine(H.out _).mono ?_
 rintro e w1 ⟨EA,EC,rfl,hI,hEA,hb1⟩
 have HEA:=O hEA
 clear hEA
 have bx:w1.heap[w.heap.size+1]?=some (.cells #[Z Y 0,Z Y 0,Z Y 0,Z Y 0,Z Y 0,.slice none 0 0] 118 (0,0)):=(hb1.block _ (by simp)).trans (by
  have:=Zh (w.alloc (.cells #[Z Y N,Z Y Pi,Z Y Er,Z Y G,Z Y Fi,.slice PA PL PC] 24)) (.cells #[Z Y 0,Z Y 0,Z Y 0,Z Y 0,Z Y 0,.slice none 0 0] 118)
  simpa using this)
 have bc:w1.heap[w.heap.size]?=some (.cells #[Z Y N,Z Y Pi,Z Y Er,Z Y G,Z Y Fi,.slice PA PL PC] 24 (0,0)):=(hb1.block _ (by simp;omega)).trans ((Below.heap_alloc _ _ _ (by simp)).trans (Zh w _))
 have hz1:=heap_lt bx
 have hB1:Zb w.heap.size w w1:=Below.trans (show Zb w.heap.size w _ from bB) (hb1.mono (by simp;omega))
 obtain⟨w2,hw2⟩:∃ w2,w2=w1.alloc (.cells #[Z Y f.kind,Z Y f.round,Z Y f.slot,Z Y f.pk,Z Y f.pv,.slice EA f.echo.length EC] 118):=⟨_,rfl⟩
 have hal:Zb w1.heap.size w1 w2:=by rw [hw2];exact(Zf _ _).alloc (Zr _) _
 have hx2:=(hal.block _ hz1).trans bx
 have hc2:=(hal.block w.heap.size (by omega)).trans bc
 have hf2:w2.heap[w1.heap.size]?=some (.cells #[Z Y f.kind,Z Y f.round,Z Y f.slot,Z Y f.pk,Z Y f.pv,.slice EA f.echo.length EC] 118 (0,0)):=by rw [hw2];exact Zh w1 _
 have hI2:=hI.below hal
 have hB2:=hB1.trans (hal.mono (by omega))
 have HB2:=O hB2
 have HX2:=O hx2
 have HC2:=O hc2
 have HF2:=O hf2
 have HI2:=O hI2
 have HW2:=O hw2
 have hz2:=heap_lt hf2
 clear bx bc hB1 hB2 hb1 hI hx2 hc2 hf2 hI2 hal hw2
 go_wp2_with fail
 rw [← HW2.out]
 clear HW2
 have c0:w2.cell? ⟨w.heap.size,0,none⟩=some (Z Y N):=by simp [World.cell?,HC2.out]
 have c1:w2.cell? ⟨w.heap.size,1,none⟩=some (Z Y Pi):=by simp [World.cell?,HC2.out]
 have c2:w2.cell? ⟨w.heap.size,2,none⟩=some (Z Y Er):=by simp [World.cell?,HC2.out]
 have c3:w2.cell? ⟨w.heap.size,3,none⟩=some (Z Y G):=by simp [World.cell?,HC2.out]
 have c4:w2.cell? ⟨w.heap.size,4,none⟩=some (Z Y Fi):=by simp [World.cell?,HC2.out]
 have c5:w2.cell? ⟨w.heap.size,5,none⟩=some (.slice PA PL PC):=by simp [World.cell?,HC2.out]
 have f1:w2.cell? ⟨w1.heap.size,1,none⟩=some (Z Y f.round):=by simp [World.cell?,HF2.out]
 have f2:w2.cell? ⟨w1.heap.size,2,none⟩=some (Z Y f.slot):=by simp [World.cell?,HF2.out]
 refine wp_region_held_drew (S:=fun w'=>w'.cell? ⟨w.heap.size,0,none⟩=some (Z Y N)∧w'.cell? ⟨w.heap.size,1,none⟩=some (Z Y Pi)∧w'.cell? ⟨w.heap.size,2,none⟩=some (Z Y Er)∧w'.cell? ⟨w.heap.size,3,none⟩=some (Z Y G)∧w'.cell? ⟨w.heap.size,4,none⟩=some (Z Y Fi)∧w'.cell? ⟨w.heap.size,5,none⟩=some (.slice PA PL PC)∧w'.cell? ⟨w1.heap.size,1,none⟩=some (Z Y f.round)∧w'.cell? ⟨w1.heap.size,2,none⟩=some (Z Y f.slot)) (by kernel_rfl) ⟨c0,c1,c2,c3,c4,c5,f1,f2⟩ (fun hHeld=>?_)
 refine rgT 0 ?_
 refine rgT 1 ?_
 refine rgT 2 ?_
 refine rgT 3 ?_
 refine rgT 4 ?_
 refine rgT 5 ?_
 refine rgT 6 ?_
 refine rgR 7 fun K hK=>?_
 go_simp
 refine(HW.out _).mono ?_
 rintro e w3 ⟨rfl,hb3'⟩
 have hb3:Zb w2.heap.size w2 w3:=⟨hb3'.os,hb3'.tape,hb3'.output,hb3'.size,hb3'.block⟩
 have lw:w.heap.size < w2.heap.size:=by omega
 go_simp
 refine hK.out _ _ ⟨keep_of c0 lw hb3,keep_of c1 lw hb3,keep_of c2 lw hb3,keep_of c3 lw hb3,keep_of c4 lw hb3,keep_of c5 lw hb3,keep_of f1 hz2 hb3,keep_of f2 hz2 hb3⟩ (fun hHeld=>?_)
 clear hK K
 refine rgT 8 ?_
 refine rgT 9 ?_
 refine rgT 10 ?_
 refine rgT 11 ?_
 refine rgT 12 ?_
 refine rgT 13 ?_
 refine rgT 14 ?_
 refine rgT 15 ?_
 refine wpAnyH_done (by kernel_rfl) ?_ _
 have hx:=(hb3.block (w.heap.size+1) (by omega)).trans HX2.out
 have hff:=(hb3.block _ hz2).trans HF2.out
 have HI3:=O (HI2.out.below hb3)
 have HB3:=O (HB2.out.trans (hb3.mono (by omega)))
 have hz3:w.heap.size+1 < w3.heap.size:=heap_lt hx
 have x0:w3.cell? ⟨w.heap.size+1,0,none⟩=some (Z Y 0):=by simp [World.cell?,hx]
 have x1:w3.cell? ⟨w.heap.size+1,1,none⟩=some (Z Y 0):=by simp [World.cell?,hx]
 have x2:w3.cell? ⟨w.heap.size+1,2,none⟩=some (Z Y 0):=by simp [World.cell?,hx]
 have x3:w3.cell? ⟨w.heap.size+1,3,none⟩=some (Z Y 0):=by simp [World.cell?,hx]
 have x4:w3.cell? ⟨w.heap.size+1,4,none⟩=some (Z Y 0):=by simp [World.cell?,hx]
 have x5:w3.cell? ⟨w.heap.size+1,5,none⟩=some (.slice none 0 0):=by simp [World.cell?,hx]
 have y0:∀ o,w3.frozen? ⟨w.heap.size+1,o,none⟩=false:=fun o=>by simp [World.frozen?,hx]
 have g0:w3.cell? ⟨w1.heap.size,0,none⟩=some (Z Y f.kind):=by simp [World.cell?,hff]
 have g1:w3.cell? ⟨w1.heap.size,1,none⟩=some (Z Y f.round):=by simp [World.cell?,hff]
 have g2:w3.cell? ⟨w1.heap.size,2,none⟩=some (Z Y f.slot):=by simp [World.cell?,hff]
 have g3:w3.cell? ⟨w1.heap.size,3,none⟩=some (Z Y f.pk):=by simp [World.cell?,hff]
 have g4:w3.cell? ⟨w1.heap.size,4,none⟩=some (Z Y f.pv):=by simp [World.cell?,hff]
 have g5:w3.cell? ⟨w1.heap.size,5,none⟩=some (.slice EA f.echo.length EC):=by simp [World.cell?,hff]
 clear hx hff hHeld HX2 HC2 HF2 HI2 c0 c1 c2 c3 c4 c5 f1 f2 hb3 hb3' HB2
 go_wp2
 refine bodyPost_ret (v :=.tuple #[.agg #[Z Y 0,Z Y 0,Z Y 0,Z Y 0,Z Y 0,.slice none 0 0],.bool false]) (by simp [results,Tryz.results153,go_sem,x0,x1,x2,x3,x4,x5]) rfl ⟨rfl,below6 HB3.out (by omega)⟩
noncomputable def rightF (N PL:Nat) (wire slot:Int) (s:ByteArray):Option Fr:=(readF N PL s).bind (fun f=>if(f.round:Int)=wire∧(f.slot:Int)=slot then some f else none)
theorem rightF_ok {N PL:Nat} {wire slot:Int} {s:ByteArray} {f:Fr} (h:rightF N PL wire slot s=some f):s=textB f∧FrOk N PL f∧(f.round:Int)=wire∧(f.slot:Int)=slot:=by
 unfold rightF at h
 cases hr:readF N PL s with
 | none=>rw [hr]at h;cases h
 | some g =>
  rw [hr]at h
  simp only [Option.bind_some]at h
  split at h
  ·injection h with h
   subst h
   next h2=>exact⟨(readF_ok hr).2,(readF_ok hr).1,h2.1,h2.2⟩
  ·cases h
theorem Right_none (N:Nat) (Pi Er G Fi:Int) (PA:Option Addr) (PL PC:Nat) (round slot:Int) (s:ByteArray) (w:Zw) (hs:Strm s) (h37:s.size≤4000) (hN:N≤12) (hP:PL≤3) (hFi:0≤Fi) (hFi2:Fi≤65535) (hr:0≤round) (hr2:round≤1000) (h:rightF N PL ((Fi+round)%65536) slot s=none) :
 Zc Zp 153 #[.agg #[Z Y N,Z Y Pi,Z Y Er,Z Y G,Z Y Fi,.slice PA PL PC],Z Y round,Z Y slot,.string s] w fun e w'=>e=.returned (.tuple #[.agg #[Z Y 0,Z Y 0,Z Y 0,Z Y 0,Z Y 0,.slice none 0 0],.bool false])∧Zb w.heap.size w w':=by
 unfold rightF at h
 cases hrd:readF N PL s with
 | none =>
  refine Right_err N Pi Er G Fi PA PL PC round slot s w (O (fun w=>?_))
  have:=Read_any N Pi Er G Fi PA PL PC s w hs h37 hN hP
  rw [hrd]at this
  exact this
 | some g =>
  rw [hrd]at h
  simp only [Option.bind_some]at h
  obtain⟨hg,rfl⟩:=readF_ok hrd
  by_cases hw:(g.round:Int)=(Fi+round)%65536
  ·exact Right_slot N Pi Er G Fi PA PL PC round slot g w hg hN hP hFi hFi2 hr hr2 hw (fun e=>by rw [if_pos ⟨hw,e⟩]at h;cases h)
  ·exact Right_rnd N Pi Er G Fi PA PL PC round slot g w hg hN hP hFi hFi2 hr hr2 hw
end D8
namespace A31
open Go.RowKit A6 A9 A18 A22 A25 A30 D8
def SortIs (N PL:Nat) (wire slot:Int) (s:ByteArray):Option Fr→Prop
 | some f=>s=textB f∧FrOk N PL f∧(f.round:Int)=wire∧(f.slot:Int)=slot
 | none=>Strm s∧s.size≤4000∧rightF N PL wire slot s=none
structure Tk where
 s:ByteArray
 f:Fr
 A:Option Addr
 C:Nat
def tkCells:List Tk→List Value
 | []=>[]
 | t :: r =>.string t.s :: Z Y t.f.kind :: Z Y t.f.round :: Z Y t.f.slot :: Z Y t.f.pk :: Z Y t.f.pv :: .slice t.A t.f.echo.length t.C :: tkCells r
theorem tkCells_append (a b:List Tk):tkCells (a ++ b)=tkCells a ++ tkCells b:=by
 induction a with
 | nil=>rfl
 | cons x r ih=>simp [tkCells,ih]
def addF (t:ByteArray) (b:Bool) (o:Option Fr):List (ByteArray×Fr):=if b then(match o with | some f=>[(t,f)] | none=>[])else []
def TkAt (w:Zw) (base:Nat) (v:Value) (l:List (ByteArray×Fr)):Prop :=
 ∃ T:List Tk,T.map (fun t=>(t.s,t.f))=l∧w.ownsRow base 185 7 v T.length (tkCells T)∧∀ t ∈ T,Items w t.A t.f.echo∧∀ b off,t.A=some ⟨b,off,none⟩→0 < t.f.echo.length→v.ownBlock≠some b∧b < w.heap.size∧base≤b
theorem TkAt.below {w w':Zw} {base:Nat} {v:Value} {l:List (ByteArray×Fr)} (h:TkAt w base v l) (hb:Zb w.heap.size w w'):TkAt w' base v l:=by
 obtain⟨T,h1,h2,h3⟩:=h
 refine⟨T,h1,World.ownsRow.kept h2 (row:=none) ⟨hb.os,hb.tape,hb.output,hb.size,fun k hk _=>hb.block k hk⟩ ?_,fun t ht=>⟨(h3 t ht).1.below hb,fun b off e hl=>⟨((h3 t ht).2 b off e hl).1,Nat.lt_of_lt_of_le ((h3 t ht).2 b off e hl).2.1 hb.size,((h3 t ht).2 b off e hl).2.2⟩⟩⟩
 rcases hv:v.ownBlock with _ | q
 ·exact .inl rfl
 ·exact .inr (by simp)
theorem info185:(Tryz.prog.info? 185).map (fun i=>(i.zero,i.size,i.bytes))=some (some (.agg #[.string ⟨#[]⟩,Z Y 0,Z Y 0,Z Y 0,Z Y 0,Z Y 0,.slice none 0 0]),7,80):=by kernel_rfl
def RetTk (l:List (ByteArray×Fr)) (w:Zw) (e:Ending) (w':Zw):Prop:=∃ v,e=.returned v∧TkAt w' w.heap.size v l∧Zb w.heap.size w w'
theorem TkAt.mono {w:Zw} {base base':Nat} {v:Value} {l:List (ByteArray×Fr)} (h:TkAt w base v l) (hb:base'≤base):TkAt w base' v l:=by
 obtain⟨T,h1,h2,h3⟩:=h
 exact⟨T,h1,own_mono h2 hb,fun t ht=>⟨(h3 t ht).1,fun b off e hl=>⟨((h3 t ht).2 b off e hl).1,((h3 t ht).2 b off e hl).2.1,Nat.le_trans hb ((h3 t ht).2 b off e hl).2.2⟩⟩⟩
theorem nil_compared (d s o : ByteArray) (far : Int) (pair : Bool) (w : World) : (nilAhead 454 183 (.agg #[.string d, .string s, .string o, .int .i64 far, .bool pair]) "plaiting/arb.text").run Tryz.prog w = .ok (some false) w := by kernel_rfl
theorem m_compared (d s o : ByteArray) (far : Int) (pair : Bool) (w : World) : (method 454 183 (.agg #[.string d, .string s, .string o, .int .i64 far, .bool pair]) "plaiting/arb.text").run Tryz.prog w = .ok (261, .agg #[.string d, .string s, .string o, .int .i64 far, .bool pair]) w := by kernel_rfl
theorem rights_compared (N:Nat) (Pi Er G Fi:Int) (PA:Option Addr) (PL PC:Nat) (round slot:Int) (cb:Nat) (d1 s1 o1 d2 s2 o2:ByteArray) (far1 far2:Int) (pair:Bool) (r1 r2:Option Fr) (w:Zw)
 (hN:N≤12) (hP:PL≤3) (hFi:0≤Fi) (hFi2:Fi≤65535) (hr:0≤round) (hr2:round≤1000) (hf1:1≤far1) (hf2:1≤far2)
 (h1:SortIs N PL ((Fi+round)%65536) slot o1 r1) (h2:SortIs N PL ((Fi+round)%65536) slot o2 r2)
 (hc1:w.cell? ⟨cb,0,none⟩=some (.iface 183 (.agg #[.string d1,.string s1,.string o1,Z Y far1,.bool pair]))) (hc2:w.cell? ⟨cb,1,none⟩=some (.iface 183 (.agg #[.string d2,.string s2,.string o2,Z Y far2,.bool pair]))) :
 Zc Zp 109 #[.agg #[Z Y N,Z Y Pi,Z Y Er,Z Y G,Z Y Fi,.slice PA PL PC],Z Y round,Z Y slot,.slice (some ⟨cb,0,none⟩) 2 2] w (RetTk (addF o1 (decide (2≤far1) || pair) r1 ++ addF o2 (decide (2≤far2) || pair) r2) w):=by
 have hlt:=Zl w _ hc1
 have HC1:=O hc1
 have HC2:=O hc2
 have HT1:=O (fun w=>compared_text d1 s1 o1 far1 pair w hf1)
 have HT2:=O (fun w=>compared_text d2 s2 o2 far2 pair w hf2)
 have HN1:=nil_compared d1 s1 o1 far1 pair
 have HM1:=m_compared d1 s1 o1 far1 pair
 have HN2:=nil_compared d2 s2 o2 far2 pair
 have HM2:=m_compared d2 s2 o2 far2 pair
 have hR:∀(t:ByteArray) (r:Option Fr),SortIs N PL ((Fi+round)%65536) slot t r→(∃ f,r=some f∧∀ w,Zc Zp 153 #[.agg #[Z Y N,Z Y Pi,Z Y Er,Z Y G,Z Y Fi,.slice PA PL PC],Z Y round,Z Y slot,.string t] w (RetOk f w))∨(r=none∧∀ w,Zc Zp 153 #[.agg #[Z Y N,Z Y Pi,Z Y Er,Z Y G,Z Y Fi,.slice PA PL PC],Z Y round,Z Y slot,.string t] w fun e w'=>e=.returned (.tuple #[.agg #[Z Y 0,Z Y 0,Z Y 0,Z Y 0,Z Y 0,.slice none 0 0],.bool false])∧Zb w.heap.size w w'):=by
  intro t r h
  cases r with
  | none=>exact .inr ⟨rfl,fun w=>Right_none N Pi Er G Fi PA PL PC round slot t w h.1 h.2.1 hN hP hFi hFi2 hr hr2 h.2.2⟩
  | some f =>
   obtain⟨rfl,hf,hw,hs⟩:=h
   refine .inl ⟨f,rfl,fun w=>?_⟩
   rw [← hs]
   exact Right_yes N Pi Er G Fi PA PL PC round f w hf hN hP hFi hFi2 hr hr2 hw
 have HR1:=O (hR _ _ h1)
 have HR2:=O (hR _ _ h2)
 have hX1:∀ r,SortIs N PL ((Fi+round)%65536) slot o1 r→True:=fun _ _=>trivial
 obtain⟨i0,hi0,hz0,hz1,hz2⟩:=info_parts info185
 have HI:=O hi0
 have HZ:=O (And.intro hz0 (And.intro hz1 hz2))
 clear h1 h2 hR hX1 hc1 hc2 hi0 hz0 hz1 hz2
 go_enter Tryz.func109,Tryz.ntmps109
 have hbx:(w.alloc (.cells #[Z Y N,Z Y Pi,Z Y Er,Z Y G,Z Y Fi,.slice PA PL PC] 24)).heap[w.heap.size]?=some (.cells #[Z Y N,Z Y Pi,Z Y Er,Z Y G,Z Y Fi,.slice PA PL PC] 24 (0,0)):=Zh w _
 have HBX:=O hbx
 clear hbx
 go_wp2
 go_loopw [9,18] (fun v t wr=>∃ k:Nat,k≤2∧t=Z Y k∧TkAt wr (w.heap.size+1) v (match k with | 0=>[] | 1=>addF o1 (decide (2≤far1) || pair) r1 | _=>addF o1 (decide (2≤far1) || pair) r1 ++ addF o2 (decide (2≤far2) || pair) r2)∧Hid (wr.heap[w.heap.size]?=some (.cells #[Z Y N,Z Y Pi,Z Y Er,Z Y G,Z Y Fi,.slice PA PL PC] 24 (0,0)))∧Zb w.heap.size w wr) (fun _ t _=>2-(intOf t).toNat)
 case atStart=>exact⟨0,by omega,rfl,⟨[],rfl,World.ownsRow_nil _ _ _ _,fun t ht=>by cases ht⟩,HBX.out,(Zf _ _).alloc (Zr _) _⟩
 case round =>
  obtain⟨k,hk,rfl,htk,hbx,hbr⟩:=hrel
  clear HBX
  have c0:wr.cell? ⟨w.heap.size,0,none⟩=some (Z Y N):=by simp [World.cell?,hbx.out]
  have c1:wr.cell? ⟨w.heap.size,1,none⟩=some (Z Y Pi):=by simp [World.cell?,hbx.out]
  have c2:wr.cell? ⟨w.heap.size,2,none⟩=some (Z Y Er):=by simp [World.cell?,hbx.out]
  have c3:wr.cell? ⟨w.heap.size,3,none⟩=some (Z Y G):=by simp [World.cell?,hbx.out]
  have c4:wr.cell? ⟨w.heap.size,4,none⟩=some (Z Y Fi):=by simp [World.cell?,hbx.out]
  have c5:wr.cell? ⟨w.heap.size,5,none⟩=some (.slice PA PL PC):=by simp [World.cell?,hbx.out]
  have lw:w.heap.size < wr.heap.size:=Zl wr _ c0
  have HBr:=O hbr
  have k01:k=0∨k=1∨k=2:=by omega
  rcases k01 with rfl | rfl | rfl
  ·have hcc:wr.cell? ⟨cb,0,none⟩=some (.iface 183 (.agg #[.string d1,.string s1,.string o1,Z Y far1,.bool pair])):=keep_of HC1.out hlt hbr
   have HTk:=O (show TkAt wr (w.heap.size+1) u9 []from htk)
   clear htk hbr
   go_wp2_with fail
   refine(HT1.out _).mono ?_
   rintro e w1 ⟨rfl,hb1⟩
   have HTk1:=O (TkAt.below HTk.out hb1)
   have HBr1:=O (HBr.out.trans (hb1.mono HBr.out.size))
   have HBx1:=O ((hb1.block _ lw).trans hbx.out)
   have d0:=keep_of c0 lw hb1
   have d1':=keep_of c1 lw hb1
   have d2':=keep_of c2 lw hb1
   have d3:=keep_of c3 lw hb1
   have d4:=keep_of c4 lw hb1
   have d5:=keep_of c5 lw hb1
   have lw1:w.heap.size < w1.heap.size:=Nat.lt_of_lt_of_le lw hb1.size
   clear c0 c1 c2 c3 c4 c5 hcc hb1 HTk
   cases hbb:(decide (2≤far1) || pair)
   ·have hadd:addF o1 (decide (2≤far1) || pair) r1=[]:=by unfold addF;rw [hbb];rfl
    have HA:=O hadd
    clear hadd hbb
    go_wp2
    go_roundw
    case rel=>exact⟨1,by omega,by go_num,by first | (show TkAt _ _ _ (addF o1 (decide (2≤far1) || pair) r1);rw [HA.out];first | exact HTk1.out | (rw [List.append_nil];exact HTk1.out)),HBx1.out,HBr1.out⟩
    case measure=>first | decide | (simp [intOf];done) | (simp [intOf];omega)
   ·have HBB:=O hbb
    clear hbb
    rcases HR1.out with⟨f,rfl,hcall⟩ | ⟨rfl,hcall⟩
    ·have hadd:addF o1 (decide (2≤far1) || pair) (some f)=[(o1,f)]:=by unfold addF;rw [HBB.out];rfl
     have HA:=O hadd
     have HCl:=O hcall
     clear hadd hcall
     go_wp2_with fail
     refine(HCl.out _).mono ?_
     rintro e w2 ⟨EA,EC,rfl,hI2,hEA,hb2⟩
     have htk2:=TkAt.below HTk1.out hb2
     obtain⟨Tl,hT1,hT2,hT3⟩:=htk2
     have hTl:Tl.length≤1:=by
      have:=congrArg List.length hT1
      simp only [List.length_map]at this
      rw [this]
      simp
     have HT2':=O hT2
     have HT3:=O hT3
     have HT1':=O hT1
     have HI2:=O hI2
     have HEA:=O hEA
     have HB2:=O hb2
     have hz12:=hb2.size
     clear hT1 hT2 hT3 hI2 hEA hb2 d0 d1' d2' d3 d4 d5
     go_wp2_with (at_builtin;refine wpList_append_lies _ rfl _ _ _ rfl (w.heap.size+1) 185 i0 (.agg #[.string ⟨#[]⟩,Z Y 0,Z Y 0,Z Y 0,Z Y 0,Z Y 0,.slice none 0 0]) 7 80 Tryz.underlying180 HI.out HZ.out.1 HZ.out.2.1 HZ.out.2.2 rfl (by omega) _ Tl.length (tkCells Tl) rfl ((HT2'.out.alloc _).alloc _) ⟨w2.heap.size+1,0,none⟩ 1 1 [.string o1,Z Y f.kind,Z Y f.round,Z Y f.slot,Z Y f.pk,Z Y f.pv,.slice EA f.echo.length EC] rfl rfl (World.news_of_block (cs:=#[.string o1,Z Y f.kind,Z Y f.round,Z Y f.slot,Z Y f.pk,Z Y f.pv,.slice EA f.echo.length EC]) (t:=185) (fr:=(0,0)) (by have:=Zh (w2.alloc (.cells #[Z Y f.kind,Z Y f.round,Z Y f.slot,Z Y f.pk,Z Y f.pv,.slice EA f.echo.length EC] 118)) (.cells #[.string o1,Z Y f.kind,Z Y f.round,Z Y f.slot,Z Y f.pk,Z Y f.pv,.slice EA f.echo.length EC] 185);simpa using this)) (by simp [Value.oneCell']) (by omega) (by unfold maxLen;omega) (by omega) (by simp;omega) (w2.heap.size+1+1) (by simp) ?_)
     intro gg cap w3 hown3 hgrow hat hlt3
     have hbl:Zb w2.heap.size w2 ((w2.alloc (.cells #[Z Y f.kind,Z Y f.round,Z Y f.slot,Z Y f.pk,Z Y f.pv,.slice EA f.echo.length EC] 118)).alloc (.cells #[.string o1,Z Y f.kind,Z Y f.round,Z Y f.slot,Z Y f.pk,Z Y f.pv,.slice EA f.echo.length EC] 185)):=bB
     have hkeepI:∀(A:Option Addr) (l:List (Nat×Nat)),Items w2 A l→(∀ b off,A=some ⟨b,off,none⟩→0 < l.length→u9.ownBlock≠some b)→Items w3 A l:=by
      intro A l hI hne q hq
      obtain⟨b,off,e,h1,h2,h3⟩:=(hI.below hbl) q hq
      have hn:=hne b off e (by omega)
      have hbb:w3.heap[b]?=_:=hgrow.block b h1 (fun e'=>hn e'.symm)
      exact⟨b,off,e,Nat.lt_of_lt_of_le h1 hgrow.size,(World.cell?_of_block (a:=⟨b,off+q*2,none⟩) hbb).trans h2,(World.cell?_of_block (a:=⟨b,off+q*2+1,none⟩) hbb).trans h3⟩
     have hsz3:=hgrow.size
     simp at hsz3
     have hown2:u9.ownBlock=none∨∃ q,u9.ownBlock=some q∧w.heap.size+1≤q∧q < w1.heap.size:=by
      rcases hv:u9.ownBlock with _ | q
      ·exact .inl rfl
      ·exact .inr ⟨q,rfl,ownsRow_block HT2'.out hv,by
        obtain⟨Tq,_,hq2,_⟩:=HTk1.out
        exact(World.ownsRow.lt hq2 _ hv).2⟩
     have htk3:TkAt w3 (w.heap.size+1) (.slice (some ⟨gg,0,none⟩) (Tl.length+1) cap) ([] ++ [(o1,f)]):=by
      refine⟨Tl ++ [⟨o1,f,EA,EC⟩],?_,?_,?_⟩
      ·rw [List.map_append,HT1'.out];rfl
      ·rw [List.length_append,tkCells_append];exact hown3
      ·intro t ht
       rcases List.mem_append.1 ht with ht | ht
       ·obtain⟨hi,hb⟩:=HT3.out t ht
        refine⟨hkeepI _ _ hi (fun b off e hl=>(hb b off e hl).1),fun b off e hl=>⟨?_,by have:=(hb b off e hl).2.1;omega,(hb b off e hl).2.2⟩⟩
        have h5:=(hb b off e hl).1
        have h6:=(hb b off e hl).2.1
        show some gg≠some b
        rcases hat with h7 | h7
        ·rw [← h7];exact h5
        ·intro h8;injection h8 with h8;omega
       ·rw [List.mem_singleton]at ht
        subst ht
        have hbe:∀ b off,EA=some ⟨b,off,none⟩→0 < f.echo.length→w1.heap.size≤b∧b < w2.heap.size:=fun b off e hl=>by
         have h5:=HEA.out b off e
         obtain⟨b',off',e',hb',_⟩:=HI2.out 0 hl
         rw [e]at e'
         cases e'
         exact⟨h5,hb'⟩
        have hne2:∀ b off,EA=some ⟨b,off,none⟩→0 < f.echo.length→u9.ownBlock≠some b:=fun b off e hl=>by
         have h5:=(hbe b off e hl).1
         rcases hown2 with h6 | ⟨q,h6,_,h7⟩
         ·rw [h6];simp
         ·rw [h6];intro h8;injection h8 with h8;omega
        refine⟨hkeepI _ _ HI2.out hne2,fun b off e hl=>⟨?_,by have:=(hbe b off e hl).2;omega,by have:=(hbe b off e hl).1;omega⟩⟩
        show some gg≠some b
        intro h8
        injection h8 with h8
        rcases hat with h7 | h7
        ·exact hne2 b off e hl (by rw [h7,h8])
        ·have:=(hbe b off e hl).2;omega
     have HTk3:=O htk3
     have HBx3:=O ((hgrow.block w.heap.size (by simp;omega) (fun e=>by
      rcases hown2 with h6 | ⟨q,h6,h7,_⟩
      ·rw [h6]at e;cases e
      ·rw [h6]at e;injection e with e;omega)).trans ((hbl.block w.heap.size (by omega)).trans ((HB2.out.block _ lw1).trans HBx1.out)))
     have HBr3:=O (((HBr1.out.trans (HB2.out.mono (by omega))).trans (hbl.mono (by omega))).grown hgrow (by simp;omega) (fun q hq=>by
      rcases hown2 with h6 | ⟨q',h6,h7,_⟩
      ·rw [h6]at hq;cases hq
      ·rw [h6]at hq;injection hq with hq;omega))
     clear htk3 hown2 hkeepI hbl hgrow hown3 hat hsz3 hlt3
     go_wp2
     go_roundw
     case rel=>exact⟨1,by omega,by go_num,by first | (show TkAt _ _ _ (addF o1 (decide (2≤far1) || pair) (some f));rw [HA.out];exact HTk3.out),HBx3.out,HBr3.out⟩
     case measure=>first | decide | (simp [intOf];done) | (simp [intOf];omega)
    ·have hadd:addF o1 (decide (2≤far1) || pair) none=[]:=by unfold addF;rw [HBB.out];rfl
     have HA:=O hadd
     have HCl:=O hcall
     clear hadd hcall
     go_wp2_with fail
     refine(HCl.out _).mono ?_
     rintro e w2 ⟨rfl,hb2⟩
     have HTk2:=O (TkAt.below HTk1.out hb2)
     have HTk3:=O (TkAt.below HTk2.out (show Zb w2.heap.size w2 (w2.alloc (.cells #[Z Y 0,Z Y 0,Z Y 0,Z Y 0,Z Y 0,.slice none 0 0] 118))from bB))
     have HBr2:=O (HBr1.out.trans (hb2.mono (by omega)))
     have HBx2:=O ((hb2.block _ lw1).trans HBx1.out)
     have hz2:=hb2.size
     clear hb2 d0 d1' d2' d3 d4 d5
     go_wp2
     go_roundw
     case rel=>exact⟨1,by omega,by go_num,by first | (show TkAt _ _ _ (addF o1 (decide (2≤far1) || pair) none);rw [HA.out];first | exact HTk3.out | (rw [List.append_nil];exact HTk3.out)),(Below.heap_alloc _ _ _ (by omega)).trans HBx2.out,HBr2.out.alloc (by omega) _⟩
     case measure=>first | decide | (simp [intOf];done) | (simp [intOf];omega)
  ·have hcc:wr.cell? ⟨cb,1,none⟩=some (.iface 183 (.agg #[.string d2,.string s2,.string o2,Z Y far2,.bool pair])):=keep_of HC2.out hlt hbr
   have HTk:=O (show TkAt wr (w.heap.size+1) u9 (addF o1 (decide (2≤far1) || pair) r1)from htk)
   clear htk hbr
   go_wp2_with fail
   refine(HT2.out _).mono ?_
   rintro e w1 ⟨rfl,hb1⟩
   have HTk1:=O (TkAt.below HTk.out hb1)
   have HBr1:=O (HBr.out.trans (hb1.mono HBr.out.size))
   have HBx1:=O ((hb1.block _ lw).trans hbx.out)
   have d0:=keep_of c0 lw hb1
   have d1':=keep_of c1 lw hb1
   have d2':=keep_of c2 lw hb1
   have d3:=keep_of c3 lw hb1
   have d4:=keep_of c4 lw hb1
   have d5:=keep_of c5 lw hb1
   have lw1:w.heap.size < w1.heap.size:=Nat.lt_of_lt_of_le lw hb1.size
   clear c0 c1 c2 c3 c4 c5 hcc hb1 HTk
   cases hbb:(decide (2≤far2) || pair)
   ·have hadd:addF o2 (decide (2≤far2) || pair) r2=[]:=by unfold addF;rw [hbb];rfl
    have HA:=O hadd
    clear hadd hbb
    go_wp2
    go_roundw
    case rel=>exact⟨2,by omega,by go_num,by first | (show TkAt _ _ _ (addF o1 (decide (2≤far1) || pair) r1 ++ addF o2 (decide (2≤far2) || pair) r2);rw [HA.out];first | exact HTk1.out | (rw [List.append_nil];exact HTk1.out)),HBx1.out,HBr1.out⟩
    case measure=>first | decide | (simp [intOf];done) | (simp [intOf];omega)
   ·have HBB:=O hbb
    clear hbb
    rcases HR2.out with⟨f,rfl,hcall⟩ | ⟨rfl,hcall⟩
    ·have hadd:addF o2 (decide (2≤far2) || pair) (some f)=[(o2,f)]:=by unfold addF;rw [HBB.out];rfl
     have HA:=O hadd
     have HCl:=O hcall
     clear hadd hcall
     go_wp2_with fail
     refine(HCl.out _).mono ?_
     rintro e w2 ⟨EA,EC,rfl,hI2,hEA,hb2⟩
     have htk2:=TkAt.below HTk1.out hb2
     obtain⟨Tl,hT1,hT2,hT3⟩:=htk2
     have hTl:Tl.length≤1:=by
      have:=congrArg List.length hT1
      simp only [List.length_map]at this
      rw [this]
      unfold addF;split;(split <;> simp);simp
     have HT2':=O hT2
     have HT3:=O hT3
     have HT1':=O hT1
     have HI2:=O hI2
     have HEA:=O hEA
     have HB2:=O hb2
     have hz12:=hb2.size
     clear hT1 hT2 hT3 hI2 hEA hb2 d0 d1' d2' d3 d4 d5
     go_wp2_with (at_builtin;refine wpList_append_lies _ rfl _ _ _ rfl (w.heap.size+1) 185 i0 (.agg #[.string ⟨#[]⟩,Z Y 0,Z Y 0,Z Y 0,Z Y 0,Z Y 0,.slice none 0 0]) 7 80 Tryz.underlying180 HI.out HZ.out.1 HZ.out.2.1 HZ.out.2.2 rfl (by omega) _ Tl.length (tkCells Tl) rfl ((HT2'.out.alloc _).alloc _) ⟨w2.heap.size+1,0,none⟩ 1 1 [.string o2,Z Y f.kind,Z Y f.round,Z Y f.slot,Z Y f.pk,Z Y f.pv,.slice EA f.echo.length EC] rfl rfl (World.news_of_block (cs:=#[.string o2,Z Y f.kind,Z Y f.round,Z Y f.slot,Z Y f.pk,Z Y f.pv,.slice EA f.echo.length EC]) (t:=185) (fr:=(0,0)) (by have:=Zh (w2.alloc (.cells #[Z Y f.kind,Z Y f.round,Z Y f.slot,Z Y f.pk,Z Y f.pv,.slice EA f.echo.length EC] 118)) (.cells #[.string o2,Z Y f.kind,Z Y f.round,Z Y f.slot,Z Y f.pk,Z Y f.pv,.slice EA f.echo.length EC] 185);simpa using this)) (by simp [Value.oneCell']) (by omega) (by unfold maxLen;omega) (by omega) (by simp;omega) (w2.heap.size+1+1) (by simp) ?_)
     intro gg cap w3 hown3 hgrow hat hlt3
     have hbl:Zb w2.heap.size w2 ((w2.alloc (.cells #[Z Y f.kind,Z Y f.round,Z Y f.slot,Z Y f.pk,Z Y f.pv,.slice EA f.echo.length EC] 118)).alloc (.cells #[.string o2,Z Y f.kind,Z Y f.round,Z Y f.slot,Z Y f.pk,Z Y f.pv,.slice EA f.echo.length EC] 185)):=bB
     have hkeepI:∀(A:Option Addr) (l:List (Nat×Nat)),Items w2 A l→(∀ b off,A=some ⟨b,off,none⟩→0 < l.length→u9.ownBlock≠some b)→Items w3 A l:=by
      intro A l hI hne q hq
      obtain⟨b,off,e,h1,h2,h3⟩:=(hI.below hbl) q hq
      have hn:=hne b off e (by omega)
      have hbb:w3.heap[b]?=_:=hgrow.block b h1 (fun e'=>hn e'.symm)
      exact⟨b,off,e,Nat.lt_of_lt_of_le h1 hgrow.size,(World.cell?_of_block (a:=⟨b,off+q*2,none⟩) hbb).trans h2,(World.cell?_of_block (a:=⟨b,off+q*2+1,none⟩) hbb).trans h3⟩
     have hsz3:=hgrow.size
     simp at hsz3
     have hown2:u9.ownBlock=none∨∃ q,u9.ownBlock=some q∧w.heap.size+1≤q∧q < w1.heap.size:=by
      rcases hv:u9.ownBlock with _ | q
      ·exact .inl rfl
      ·exact .inr ⟨q,rfl,ownsRow_block HT2'.out hv,by
        obtain⟨Tq,_,hq2,_⟩:=HTk1.out
        exact(World.ownsRow.lt hq2 _ hv).2⟩
     have htk3:TkAt w3 (w.heap.size+1) (.slice (some ⟨gg,0,none⟩) (Tl.length+1) cap) ((addF o1 (decide (2≤far1) || pair) r1) ++ [(o2,f)]):=by
      refine⟨Tl ++ [⟨o2,f,EA,EC⟩],?_,?_,?_⟩
      ·rw [List.map_append,HT1'.out];rfl
      ·rw [List.length_append,tkCells_append];exact hown3
      ·intro t ht
       rcases List.mem_append.1 ht with ht | ht
       ·obtain⟨hi,hb⟩:=HT3.out t ht
        refine⟨hkeepI _ _ hi (fun b off e hl=>(hb b off e hl).1),fun b off e hl=>⟨?_,by have:=(hb b off e hl).2.1;omega,(hb b off e hl).2.2⟩⟩
        have h5:=(hb b off e hl).1
        have h6:=(hb b off e hl).2.1
        show some gg≠some b
        rcases hat with h7 | h7
        ·rw [← h7];exact h5
        ·intro h8;injection h8 with h8;omega
       ·rw [List.mem_singleton]at ht
        subst ht
        have hbe:∀ b off,EA=some ⟨b,off,none⟩→0 < f.echo.length→w1.heap.size≤b∧b < w2.heap.size:=fun b off e hl=>by
         have h5:=HEA.out b off e
         obtain⟨b',off',e',hb',_⟩:=HI2.out 0 hl
         rw [e]at e'
         cases e'
         exact⟨h5,hb'⟩
        have hne2:∀ b off,EA=some ⟨b,off,none⟩→0 < f.echo.length→u9.ownBlock≠some b:=fun b off e hl=>by
         have h5:=(hbe b off e hl).1
         rcases hown2 with h6 | ⟨q,h6,_,h7⟩
         ·rw [h6];simp
         ·rw [h6];intro h8;injection h8 with h8;omega
        refine⟨hkeepI _ _ HI2.out hne2,fun b off e hl=>⟨?_,by have:=(hbe b off e hl).2;omega,by have:=(hbe b off e hl).1;omega⟩⟩
        show some gg≠some b
        intro h8
        injection h8 with h8
        rcases hat with h7 | h7
        ·exact hne2 b off e hl (by rw [h7,h8])
        ·have:=(hbe b off e hl).2;omega
     have HTk3:=O htk3
     have HBx3:=O ((hgrow.block w.heap.size (by simp;omega) (fun e=>by
      rcases hown2 with h6 | ⟨q,h6,h7,_⟩
      ·rw [h6]at e;cases e
      ·rw [h6]at e;injection e with e;omega)).trans ((hbl.block w.heap.size (by omega)).trans ((HB2.out.block _ lw1).trans HBx1.out)))
     have HBr3:=O (((HBr1.out.trans (HB2.out.mono (by omega))).trans (hbl.mono (by omega))).grown hgrow (by simp;omega) (fun q hq=>by
      rcases hown2 with h6 | ⟨q',h6,h7,_⟩
      ·rw [h6]at hq;cases hq
      ·rw [h6]at hq;injection hq with hq;omega))
     clear htk3 hown2 hkeepI hbl hgrow hown3 hat hsz3 hlt3
     go_wp2
     go_roundw
     case rel=>exact⟨2,by omega,by go_num,by first | (show TkAt _ _ _ (addF o1 (decide (2≤far1) || pair) r1 ++ addF o2 (decide (2≤far2) || pair) (some f));rw [HA.out];exact HTk3.out),HBx3.out,HBr3.out⟩
     case measure=>first | decide | (simp [intOf];done) | (simp [intOf];omega)
    ·have hadd:addF o2 (decide (2≤far2) || pair) none=[]:=by unfold addF;rw [HBB.out];rfl
     have HA:=O hadd
     have HCl:=O hcall
     clear hadd hcall
     go_wp2_with fail
     refine(HCl.out _).mono ?_
     rintro e w2 ⟨rfl,hb2⟩
     have HTk2:=O (TkAt.below HTk1.out hb2)
     have HTk3:=O (TkAt.below HTk2.out (show Zb w2.heap.size w2 (w2.alloc (.cells #[Z Y 0,Z Y 0,Z Y 0,Z Y 0,Z Y 0,.slice none 0 0] 118))from bB))
     have HBr2:=O (HBr1.out.trans (hb2.mono (by omega)))
     have HBx2:=O ((hb2.block _ lw1).trans HBx1.out)
     have hz2:=hb2.size
     clear hb2 d0 d1' d2' d3 d4 d5
     go_wp2
     go_roundw
     case rel=>exact⟨2,by omega,by go_num,by first | (show TkAt _ _ _ (addF o1 (decide (2≤far1) || pair) r1 ++ addF o2 (decide (2≤far2) || pair) none);rw [HA.out];first | exact HTk3.out | (rw [List.append_nil];exact HTk3.out)),(Below.heap_alloc _ _ _ (by omega)).trans HBx2.out,HBr2.out.alloc (by omega) _⟩
     case measure=>first | decide | (simp [intOf];done) | (simp [intOf];omega)
  ·clear hbr
   go_wp2
   go_ret
   exact⟨_,rfl,TkAt.mono htk (by omega),HBr.out⟩
theorem nil_direct (d s o : ByteArray) (far : Int) (pair : Bool) (w : World) : (nilAhead 454 187 (.agg #[.string d, .string s, .string o, .int .i64 far, .bool pair]) "plaiting/arb.text").run Tryz.prog w = .ok (some false) w := by kernel_rfl
theorem m_direct (d s o : ByteArray) (far : Int) (pair : Bool) (w : World) : (method 454 187 (.agg #[.string d, .string s, .string o, .int .i64 far, .bool pair]) "plaiting/arb.text").run Tryz.prog w = .ok (262, .agg #[.string d, .string s, .string o, .int .i64 far, .bool pair]) w := by kernel_rfl
theorem rights_direct (N:Nat) (Pi Er G Fi:Int) (PA:Option Addr) (PL PC:Nat) (round slot:Int) (cb:Nat) (d1 s1 o1 d2 s2 o2:ByteArray) (far1 far2:Int) (pair:Bool) (r1 r2:Option Fr) (w:Zw)
 (hN:N≤12) (hP:PL≤3) (hFi:0≤Fi) (hFi2:Fi≤65535) (hr:0≤round) (hr2:round≤1000) (hf1:1≤far1) (hf2:1≤far2)
 (h1:SortIs N PL ((Fi+round)%65536) slot d1 r1) (h2:SortIs N PL ((Fi+round)%65536) slot d2 r2)
 (hc1:w.cell? ⟨cb,0,none⟩=some (.iface 187 (.agg #[.string d1,.string s1,.string o1,Z Y far1,.bool pair]))) (hc2:w.cell? ⟨cb,1,none⟩=some (.iface 187 (.agg #[.string d2,.string s2,.string o2,Z Y far2,.bool pair]))) :
 Zc Zp 109 #[.agg #[Z Y N,Z Y Pi,Z Y Er,Z Y G,Z Y Fi,.slice PA PL PC],Z Y round,Z Y slot,.slice (some ⟨cb,0,none⟩) 2 2] w (RetTk (addF d1 (decide (far1=1) && !pair) r1 ++ addF d2 (decide (far2=1) && !pair) r2) w):=by
 have hlt:=Zl w _ hc1
 have HC1:=O hc1
 have HC2:=O hc2
 have HT1:=O (fun w=>direct_text d1 s1 o1 far1 pair w hf1)
 have HT2:=O (fun w=>direct_text d2 s2 o2 far2 pair w hf2)
 have HN1:=nil_direct d1 s1 o1 far1 pair
 have HM1:=m_direct d1 s1 o1 far1 pair
 have HN2:=nil_direct d2 s2 o2 far2 pair
 have HM2:=m_direct d2 s2 o2 far2 pair
 have hR:∀(t:ByteArray) (r:Option Fr),SortIs N PL ((Fi+round)%65536) slot t r→(∃ f,r=some f∧∀ w,Zc Zp 153 #[.agg #[Z Y N,Z Y Pi,Z Y Er,Z Y G,Z Y Fi,.slice PA PL PC],Z Y round,Z Y slot,.string t] w (RetOk f w))∨(r=none∧∀ w,Zc Zp 153 #[.agg #[Z Y N,Z Y Pi,Z Y Er,Z Y G,Z Y Fi,.slice PA PL PC],Z Y round,Z Y slot,.string t] w fun e w'=>e=.returned (.tuple #[.agg #[Z Y 0,Z Y 0,Z Y 0,Z Y 0,Z Y 0,.slice none 0 0],.bool false])∧Zb w.heap.size w w'):=by
  intro t r h
  cases r with
  | none=>exact .inr ⟨rfl,fun w=>Right_none N Pi Er G Fi PA PL PC round slot t w h.1 h.2.1 hN hP hFi hFi2 hr hr2 h.2.2⟩
  | some f =>
   obtain⟨rfl,hf,hw,hs⟩:=h
   refine .inl ⟨f,rfl,fun w=>?_⟩
   rw [← hs]
   exact Right_yes N Pi Er G Fi PA PL PC round f w hf hN hP hFi hFi2 hr hr2 hw
 have HR1:=O (hR _ _ h1)
 have HR2:=O (hR _ _ h2)
 have hX1:∀ r,SortIs N PL ((Fi+round)%65536) slot d1 r→True:=fun _ _=>trivial
 obtain⟨i0,hi0,hz0,hz1,hz2⟩:=info_parts info185
 have HI:=O hi0
 have HZ:=O (And.intro hz0 (And.intro hz1 hz2))
 clear h1 h2 hR hX1 hc1 hc2 hi0 hz0 hz1 hz2
 go_enter Tryz.func109,Tryz.ntmps109
 have hbx:(w.alloc (.cells #[Z Y N,Z Y Pi,Z Y Er,Z Y G,Z Y Fi,.slice PA PL PC] 24)).heap[w.heap.size]?=some (.cells #[Z Y N,Z Y Pi,Z Y Er,Z Y G,Z Y Fi,.slice PA PL PC] 24 (0,0)):=Zh w _
 have HBX:=O hbx
 clear hbx
 go_wp2
 go_loopw [9,18] (fun v t wr=>∃ k:Nat,k≤2∧t=Z Y k∧TkAt wr (w.heap.size+1) v (match k with | 0=>[] | 1=>addF d1 (decide (far1=1) && !pair) r1 | _=>addF d1 (decide (far1=1) && !pair) r1 ++ addF d2 (decide (far2=1) && !pair) r2)∧Hid (wr.heap[w.heap.size]?=some (.cells #[Z Y N,Z Y Pi,Z Y Er,Z Y G,Z Y Fi,.slice PA PL PC] 24 (0,0)))∧Zb w.heap.size w wr) (fun _ t _=>2-(intOf t).toNat)
 case atStart=>exact⟨0,by omega,rfl,⟨[],rfl,World.ownsRow_nil _ _ _ _,fun t ht=>by cases ht⟩,HBX.out,(Zf _ _).alloc (Zr _) _⟩
 case round =>
  obtain⟨k,hk,rfl,htk,hbx,hbr⟩:=hrel
  clear HBX
  have c0:wr.cell? ⟨w.heap.size,0,none⟩=some (Z Y N):=by simp [World.cell?,hbx.out]
  have c1:wr.cell? ⟨w.heap.size,1,none⟩=some (Z Y Pi):=by simp [World.cell?,hbx.out]
  have c2:wr.cell? ⟨w.heap.size,2,none⟩=some (Z Y Er):=by simp [World.cell?,hbx.out]
  have c3:wr.cell? ⟨w.heap.size,3,none⟩=some (Z Y G):=by simp [World.cell?,hbx.out]
  have c4:wr.cell? ⟨w.heap.size,4,none⟩=some (Z Y Fi):=by simp [World.cell?,hbx.out]
  have c5:wr.cell? ⟨w.heap.size,5,none⟩=some (.slice PA PL PC):=by simp [World.cell?,hbx.out]
  have lw:w.heap.size < wr.heap.size:=Zl wr _ c0
  have HBr:=O hbr
  have k01:k=0∨k=1∨k=2:=by omega
  rcases k01 with rfl | rfl | rfl
  ·have hcc:wr.cell? ⟨cb,0,none⟩=some (.iface 187 (.agg #[.string d1,.string s1,.string o1,Z Y far1,.bool pair])):=keep_of HC1.out hlt hbr
   have HTk:=O (show TkAt wr (w.heap.size+1) u9 []from htk)
   clear htk hbr
   go_wp2_with fail
   refine(HT1.out _).mono ?_
   rintro e w1 ⟨rfl,hb1⟩
   have HTk1:=O (TkAt.below HTk.out hb1)
   have HBr1:=O (HBr.out.trans (hb1.mono HBr.out.size))
   have HBx1:=O ((hb1.block _ lw).trans hbx.out)
   have d0:=keep_of c0 lw hb1
   have d1':=keep_of c1 lw hb1
   have d2':=keep_of c2 lw hb1
   have d3:=keep_of c3 lw hb1
   have d4:=keep_of c4 lw hb1
   have d5:=keep_of c5 lw hb1
   have lw1:w.heap.size < w1.heap.size:=Nat.lt_of_lt_of_le lw hb1.size
   clear c0 c1 c2 c3 c4 c5 hcc hb1 HTk
   cases hbb:(decide (far1=1) && !pair)
   ·have hadd:addF d1 (decide (far1=1) && !pair) r1=[]:=by unfold addF;rw [hbb];rfl
    have HA:=O hadd
    clear hadd hbb
    go_wp2
    go_roundw
    case rel=>exact⟨1,by omega,by go_num,by first | (show TkAt _ _ _ (addF d1 (decide (far1=1) && !pair) r1);rw [HA.out];first | exact HTk1.out | (rw [List.append_nil];exact HTk1.out)),HBx1.out,HBr1.out⟩
    case measure=>first | decide | (simp [intOf];done) | (simp [intOf];omega)
   ·have HBB:=O hbb
    clear hbb
    rcases HR1.out with⟨f,rfl,hcall⟩ | ⟨rfl,hcall⟩
    ·have hadd:addF d1 (decide (far1=1) && !pair) (some f)=[(d1,f)]:=by unfold addF;rw [HBB.out];rfl
     have HA:=O hadd
     have HCl:=O hcall
     clear hadd hcall
     go_wp2_with fail
     refine(HCl.out _).mono ?_
     rintro e w2 ⟨EA,EC,rfl,hI2,hEA,hb2⟩
     have htk2:=TkAt.below HTk1.out hb2
     obtain⟨Tl,hT1,hT2,hT3⟩:=htk2
     have hTl:Tl.length≤1:=by
      have:=congrArg List.length hT1
      simp only [List.length_map]at this
      rw [this]
      simp
     have HT2':=O hT2
     have HT3:=O hT3
     have HT1':=O hT1
     have HI2:=O hI2
     have HEA:=O hEA
     have HB2:=O hb2
     have hz12:=hb2.size
     clear hT1 hT2 hT3 hI2 hEA hb2 d0 d1' d2' d3 d4 d5
     go_wp2_with (at_builtin;refine wpList_append_lies _ rfl _ _ _ rfl (w.heap.size+1) 185 i0 (.agg #[.string ⟨#[]⟩,Z Y 0,Z Y 0,Z Y 0,Z Y 0,Z Y 0,.slice none 0 0]) 7 80 Tryz.underlying180 HI.out HZ.out.1 HZ.out.2.1 HZ.out.2.2 rfl (by omega) _ Tl.length (tkCells Tl) rfl ((HT2'.out.alloc _).alloc _) ⟨w2.heap.size+1,0,none⟩ 1 1 [.string d1,Z Y f.kind,Z Y f.round,Z Y f.slot,Z Y f.pk,Z Y f.pv,.slice EA f.echo.length EC] rfl rfl (World.news_of_block (cs:=#[.string d1,Z Y f.kind,Z Y f.round,Z Y f.slot,Z Y f.pk,Z Y f.pv,.slice EA f.echo.length EC]) (t:=185) (fr:=(0,0)) (by have:=Zh (w2.alloc (.cells #[Z Y f.kind,Z Y f.round,Z Y f.slot,Z Y f.pk,Z Y f.pv,.slice EA f.echo.length EC] 118)) (.cells #[.string d1,Z Y f.kind,Z Y f.round,Z Y f.slot,Z Y f.pk,Z Y f.pv,.slice EA f.echo.length EC] 185);simpa using this)) (by simp [Value.oneCell']) (by omega) (by unfold maxLen;omega) (by omega) (by simp;omega) (w2.heap.size+1+1) (by simp) ?_)
     intro gg cap w3 hown3 hgrow hat hlt3
     have hbl:Zb w2.heap.size w2 ((w2.alloc (.cells #[Z Y f.kind,Z Y f.round,Z Y f.slot,Z Y f.pk,Z Y f.pv,.slice EA f.echo.length EC] 118)).alloc (.cells #[.string d1,Z Y f.kind,Z Y f.round,Z Y f.slot,Z Y f.pk,Z Y f.pv,.slice EA f.echo.length EC] 185)):=bB
     have hkeepI:∀(A:Option Addr) (l:List (Nat×Nat)),Items w2 A l→(∀ b off,A=some ⟨b,off,none⟩→0 < l.length→u9.ownBlock≠some b)→Items w3 A l:=by
      intro A l hI hne q hq
      obtain⟨b,off,e,h1,h2,h3⟩:=(hI.below hbl) q hq
      have hn:=hne b off e (by omega)
      have hbb:w3.heap[b]?=_:=hgrow.block b h1 (fun e'=>hn e'.symm)
      exact⟨b,off,e,Nat.lt_of_lt_of_le h1 hgrow.size,(World.cell?_of_block (a:=⟨b,off+q*2,none⟩) hbb).trans h2,(World.cell?_of_block (a:=⟨b,off+q*2+1,none⟩) hbb).trans h3⟩
     have hsz3:=hgrow.size
     simp at hsz3
     have hown2:u9.ownBlock=none∨∃ q,u9.ownBlock=some q∧w.heap.size+1≤q∧q < w1.heap.size:=by
      rcases hv:u9.ownBlock with _ | q
      ·exact .inl rfl
      ·exact .inr ⟨q,rfl,ownsRow_block HT2'.out hv,by
        obtain⟨Tq,_,hq2,_⟩:=HTk1.out
        exact(World.ownsRow.lt hq2 _ hv).2⟩
     have htk3:TkAt w3 (w.heap.size+1) (.slice (some ⟨gg,0,none⟩) (Tl.length+1) cap) ([] ++ [(d1,f)]):=by
      refine⟨Tl ++ [⟨d1,f,EA,EC⟩],?_,?_,?_⟩
      ·rw [List.map_append,HT1'.out];rfl
      ·rw [List.length_append,tkCells_append];exact hown3
      ·intro t ht
       rcases List.mem_append.1 ht with ht | ht
       ·obtain⟨hi,hb⟩:=HT3.out t ht
        refine⟨hkeepI _ _ hi (fun b off e hl=>(hb b off e hl).1),fun b off e hl=>⟨?_,by have:=(hb b off e hl).2.1;omega,(hb b off e hl).2.2⟩⟩
        have h5:=(hb b off e hl).1
        have h6:=(hb b off e hl).2.1
        show some gg≠some b
        rcases hat with h7 | h7
        ·rw [← h7];exact h5
        ·intro h8;injection h8 with h8;omega
       ·rw [List.mem_singleton]at ht
        subst ht
        have hbe:∀ b off,EA=some ⟨b,off,none⟩→0 < f.echo.length→w1.heap.size≤b∧b < w2.heap.size:=fun b off e hl=>by
         have h5:=HEA.out b off e
         obtain⟨b',off',e',hb',_⟩:=HI2.out 0 hl
         rw [e]at e'
         cases e'
         exact⟨h5,hb'⟩
        have hne2:∀ b off,EA=some ⟨b,off,none⟩→0 < f.echo.length→u9.ownBlock≠some b:=fun b off e hl=>by
         have h5:=(hbe b off e hl).1
         rcases hown2 with h6 | ⟨q,h6,_,h7⟩
         ·rw [h6];simp
         ·rw [h6];intro h8;injection h8 with h8;omega
        refine⟨hkeepI _ _ HI2.out hne2,fun b off e hl=>⟨?_,by have:=(hbe b off e hl).2;omega,by have:=(hbe b off e hl).1;omega⟩⟩
        show some gg≠some b
        intro h8
        injection h8 with h8
        rcases hat with h7 | h7
        ·exact hne2 b off e hl (by rw [h7,h8])
        ·have:=(hbe b off e hl).2;omega
     have HTk3:=O htk3
     have HBx3:=O ((hgrow.block w.heap.size (by simp;omega) (fun e=>by
      rcases hown2 with h6 | ⟨q,h6,h7,_⟩
      ·rw [h6]at e;cases e
      ·rw [h6]at e;injection e with e;omega)).trans ((hbl.block w.heap.size (by omega)).trans ((HB2.out.block _ lw1).trans HBx1.out)))
     have HBr3:=O (((HBr1.out.trans (HB2.out.mono (by omega))).trans (hbl.mono (by omega))).grown hgrow (by simp;omega) (fun q hq=>by
      rcases hown2 with h6 | ⟨q',h6,h7,_⟩
      ·rw [h6]at hq;cases hq
      ·rw [h6]at hq;injection hq with hq;omega))
     clear htk3 hown2 hkeepI hbl hgrow hown3 hat hsz3 hlt3
     go_wp2
     go_roundw
     case rel=>exact⟨1,by omega,by go_num,by first | (show TkAt _ _ _ (addF d1 (decide (far1=1) && !pair) (some f));rw [HA.out];exact HTk3.out),HBx3.out,HBr3.out⟩
     case measure=>first | decide | (simp [intOf];done) | (simp [intOf];omega)
    ·have hadd:addF d1 (decide (far1=1) && !pair) none=[]:=by unfold addF;rw [HBB.out];rfl
     have HA:=O hadd
     have HCl:=O hcall
     clear hadd hcall
     go_wp2_with fail
     refine(HCl.out _).mono ?_
     rintro e w2 ⟨rfl,hb2⟩
     have HTk2:=O (TkAt.below HTk1.out hb2)
     have HTk3:=O (TkAt.below HTk2.out (show Zb w2.heap.size w2 (w2.alloc (.cells #[Z Y 0,Z Y 0,Z Y 0,Z Y 0,Z Y 0,.slice none 0 0] 118))from bB))
     have HBr2:=O (HBr1.out.trans (hb2.mono (by omega)))
     have HBx2:=O ((hb2.block _ lw1).trans HBx1.out)
     have hz2:=hb2.size
     clear hb2 d0 d1' d2' d3 d4 d5
     go_wp2
     go_roundw
     case rel=>exact⟨1,by omega,by go_num,by first | (show TkAt _ _ _ (addF d1 (decide (far1=1) && !pair) none);rw [HA.out];first | exact HTk3.out | (rw [List.append_nil];exact HTk3.out)),(Below.heap_alloc _ _ _ (by omega)).trans HBx2.out,HBr2.out.alloc (by omega) _⟩
     case measure=>first | decide | (simp [intOf];done) | (simp [intOf];omega)
  ·have hcc:wr.cell? ⟨cb,1,none⟩=some (.iface 187 (.agg #[.string d2,.string s2,.string o2,Z Y far2,.bool pair])):=keep_of HC2.out hlt hbr
   have HTk:=O (show TkAt wr (w.heap.size+1) u9 (addF d1 (decide (far1=1) && !pair) r1)from htk)
   clear htk hbr
   go_wp2_with fail
   refine(HT2.out _).mono ?_
   rintro e w1 ⟨rfl,hb1⟩
   have HTk1:=O (TkAt.below HTk.out hb1)
   have HBr1:=O (HBr.out.trans (hb1.mono HBr.out.size))
   have HBx1:=O ((hb1.block _ lw).trans hbx.out)
   have d0:=keep_of c0 lw hb1
   have d1':=keep_of c1 lw hb1
   have d2':=keep_of c2 lw hb1
   have d3:=keep_of c3 lw hb1
   have d4:=keep_of c4 lw hb1
   have d5:=keep_of c5 lw hb1
   have lw1:w.heap.size < w1.heap.size:=Nat.lt_of_lt_of_le lw hb1.size
   clear c0 c1 c2 c3 c4 c5 hcc hb1 HTk
   cases hbb:(decide (far2=1) && !pair)
   ·have hadd:addF d2 (decide (far2=1) && !pair) r2=[]:=by unfold addF;rw [hbb];rfl
    have HA:=O hadd
    clear hadd hbb
    go_wp2
    go_roundw
    case rel=>exact⟨2,by omega,by go_num,by first | (show TkAt _ _ _ (addF d1 (decide (far1=1) && !pair) r1 ++ addF d2 (decide (far2=1) && !pair) r2);rw [HA.out];first | exact HTk1.out | (rw [List.append_nil];exact HTk1.out)),HBx1.out,HBr1.out⟩
    case measure=>first | decide | (simp [intOf];done) | (simp [intOf];omega)
   ·have HBB:=O hbb
    clear hbb
    rcases HR2.out with⟨f,rfl,hcall⟩ | ⟨rfl,hcall⟩
    ·have hadd:addF d2 (decide (far2=1) && !pair) (some f)=[(d2,f)]:=by unfold addF;rw [HBB.out];rfl
     have HA:=O hadd
     have HCl:=O hcall
     clear hadd hcall
     go_wp2_with fail
     refine(HCl.out _).mono ?_
     rintro e w2 ⟨EA,EC,rfl,hI2,hEA,hb2⟩
     have htk2:=TkAt.below HTk1.out hb2
     obtain⟨Tl,hT1,hT2,hT3⟩:=htk2
     have hTl:Tl.length≤1:=by
      have:=congrArg List.length hT1
      simp only [List.length_map]at this
      rw [this]
      unfold addF;split;(split <;> simp);simp
     have HT2':=O hT2
     have HT3:=O hT3
     have HT1':=O hT1
     have HI2:=O hI2
     have HEA:=O hEA
     have HB2:=O hb2
     have hz12:=hb2.size
     clear hT1 hT2 hT3 hI2 hEA hb2 d0 d1' d2' d3 d4 d5
     go_wp2_with (at_builtin;refine wpList_append_lies _ rfl _ _ _ rfl (w.heap.size+1) 185 i0 (.agg #[.string ⟨#[]⟩,Z Y 0,Z Y 0,Z Y 0,Z Y 0,Z Y 0,.slice none 0 0]) 7 80 Tryz.underlying180 HI.out HZ.out.1 HZ.out.2.1 HZ.out.2.2 rfl (by omega) _ Tl.length (tkCells Tl) rfl ((HT2'.out.alloc _).alloc _) ⟨w2.heap.size+1,0,none⟩ 1 1 [.string d2,Z Y f.kind,Z Y f.round,Z Y f.slot,Z Y f.pk,Z Y f.pv,.slice EA f.echo.length EC] rfl rfl (World.news_of_block (cs:=#[.string d2,Z Y f.kind,Z Y f.round,Z Y f.slot,Z Y f.pk,Z Y f.pv,.slice EA f.echo.length EC]) (t:=185) (fr:=(0,0)) (by have:=Zh (w2.alloc (.cells #[Z Y f.kind,Z Y f.round,Z Y f.slot,Z Y f.pk,Z Y f.pv,.slice EA f.echo.length EC] 118)) (.cells #[.string d2,Z Y f.kind,Z Y f.round,Z Y f.slot,Z Y f.pk,Z Y f.pv,.slice EA f.echo.length EC] 185);simpa using this)) (by simp [Value.oneCell']) (by omega) (by unfold maxLen;omega) (by omega) (by simp;omega) (w2.heap.size+1+1) (by simp) ?_)
     intro gg cap w3 hown3 hgrow hat hlt3
     have hbl:Zb w2.heap.size w2 ((w2.alloc (.cells #[Z Y f.kind,Z Y f.round,Z Y f.slot,Z Y f.pk,Z Y f.pv,.slice EA f.echo.length EC] 118)).alloc (.cells #[.string d2,Z Y f.kind,Z Y f.round,Z Y f.slot,Z Y f.pk,Z Y f.pv,.slice EA f.echo.length EC] 185)):=bB
     have hkeepI:∀(A:Option Addr) (l:List (Nat×Nat)),Items w2 A l→(∀ b off,A=some ⟨b,off,none⟩→0 < l.length→u9.ownBlock≠some b)→Items w3 A l:=by
      intro A l hI hne q hq
      obtain⟨b,off,e,h1,h2,h3⟩:=(hI.below hbl) q hq
      have hn:=hne b off e (by omega)
      have hbb:w3.heap[b]?=_:=hgrow.block b h1 (fun e'=>hn e'.symm)
      exact⟨b,off,e,Nat.lt_of_lt_of_le h1 hgrow.size,(World.cell?_of_block (a:=⟨b,off+q*2,none⟩) hbb).trans h2,(World.cell?_of_block (a:=⟨b,off+q*2+1,none⟩) hbb).trans h3⟩
     have hsz3:=hgrow.size
     simp at hsz3
     have hown2:u9.ownBlock=none∨∃ q,u9.ownBlock=some q∧w.heap.size+1≤q∧q < w1.heap.size:=by
      rcases hv:u9.ownBlock with _ | q
      ·exact .inl rfl
      ·exact .inr ⟨q,rfl,ownsRow_block HT2'.out hv,by
        obtain⟨Tq,_,hq2,_⟩:=HTk1.out
        exact(World.ownsRow.lt hq2 _ hv).2⟩
     have htk3:TkAt w3 (w.heap.size+1) (.slice (some ⟨gg,0,none⟩) (Tl.length+1) cap) ((addF d1 (decide (far1=1) && !pair) r1) ++ [(d2,f)]):=by
      refine⟨Tl ++ [⟨d2,f,EA,EC⟩],?_,?_,?_⟩
      ·rw [List.map_append,HT1'.out];rfl
      ·rw [List.length_append,tkCells_append];exact hown3
      ·intro t ht
       rcases List.mem_append.1 ht with ht | ht
       ·obtain⟨hi,hb⟩:=HT3.out t ht
        refine⟨hkeepI _ _ hi (fun b off e hl=>(hb b off e hl).1),fun b off e hl=>⟨?_,by have:=(hb b off e hl).2.1;omega,(hb b off e hl).2.2⟩⟩
        have h5:=(hb b off e hl).1
        have h6:=(hb b off e hl).2.1
        show some gg≠some b
        rcases hat with h7 | h7
        ·rw [← h7];exact h5
        ·intro h8;injection h8 with h8;omega
       ·rw [List.mem_singleton]at ht
        subst ht
        have hbe:∀ b off,EA=some ⟨b,off,none⟩→0 < f.echo.length→w1.heap.size≤b∧b < w2.heap.size:=fun b off e hl=>by
         have h5:=HEA.out b off e
         obtain⟨b',off',e',hb',_⟩:=HI2.out 0 hl
         rw [e]at e'
         cases e'
         exact⟨h5,hb'⟩
        have hne2:∀ b off,EA=some ⟨b,off,none⟩→0 < f.echo.length→u9.ownBlock≠some b:=fun b off e hl=>by
         have h5:=(hbe b off e hl).1
         rcases hown2 with h6 | ⟨q,h6,_,h7⟩
         ·rw [h6];simp
         ·rw [h6];intro h8;injection h8 with h8;omega
        refine⟨hkeepI _ _ HI2.out hne2,fun b off e hl=>⟨?_,by have:=(hbe b off e hl).2;omega,by have:=(hbe b off e hl).1;omega⟩⟩
        show some gg≠some b
        intro h8
        injection h8 with h8
        rcases hat with h7 | h7
        ·exact hne2 b off e hl (by rw [h7,h8])
        ·have:=(hbe b off e hl).2;omega
     have HTk3:=O htk3
     have HBx3:=O ((hgrow.block w.heap.size (by simp;omega) (fun e=>by
      rcases hown2 with h6 | ⟨q,h6,h7,_⟩
      ·rw [h6]at e;cases e
      ·rw [h6]at e;injection e with e;omega)).trans ((hbl.block w.heap.size (by omega)).trans ((HB2.out.block _ lw1).trans HBx1.out)))
     have HBr3:=O (((HBr1.out.trans (HB2.out.mono (by omega))).trans (hbl.mono (by omega))).grown hgrow (by simp;omega) (fun q hq=>by
      rcases hown2 with h6 | ⟨q',h6,h7,_⟩
      ·rw [h6]at hq;cases hq
      ·rw [h6]at hq;injection hq with hq;omega))
     clear htk3 hown2 hkeepI hbl hgrow hown3 hat hsz3 hlt3
     go_wp2
     go_roundw
     case rel=>exact⟨2,by omega,by go_num,by first | (show TkAt _ _ _ (addF d1 (decide (far1=1) && !pair) r1 ++ addF d2 (decide (far2=1) && !pair) (some f));rw [HA.out];exact HTk3.out),HBx3.out,HBr3.out⟩
     case measure=>first | decide | (simp [intOf];done) | (simp [intOf];omega)
    ·have hadd:addF d2 (decide (far2=1) && !pair) none=[]:=by unfold addF;rw [HBB.out];rfl
     have HA:=O hadd
     have HCl:=O hcall
     clear hadd hcall
     go_wp2_with fail
     refine(HCl.out _).mono ?_
     rintro e w2 ⟨rfl,hb2⟩
     have HTk2:=O (TkAt.below HTk1.out hb2)
     have HTk3:=O (TkAt.below HTk2.out (show Zb w2.heap.size w2 (w2.alloc (.cells #[Z Y 0,Z Y 0,Z Y 0,Z Y 0,Z Y 0,.slice none 0 0] 118))from bB))
     have HBr2:=O (HBr1.out.trans (hb2.mono (by omega)))
     have HBx2:=O ((hb2.block _ lw1).trans HBx1.out)
     have hz2:=hb2.size
     clear hb2 d0 d1' d2' d3 d4 d5
     go_wp2
     go_roundw
     case rel=>exact⟨2,by omega,by go_num,by first | (show TkAt _ _ _ (addF d1 (decide (far1=1) && !pair) r1 ++ addF d2 (decide (far2=1) && !pair) none);rw [HA.out];first | exact HTk3.out | (rw [List.append_nil];exact HTk3.out)),(Below.heap_alloc _ _ _ (by omega)).trans HBx2.out,HBr2.out.alloc (by omega) _⟩
     case measure=>first | decide | (simp [intOf];done) | (simp [intOf];omega)
  ·clear hbr
   go_wp2
   go_ret
   exact⟨_,rfl,TkAt.mono htk (by omega),HBr.out⟩
end A31
namespace A32
open Go.RowKit A22 A30 A31
def RetPick (o:Option Fr) (w:Zw) (e:Ending) (w':Zw):Prop :=
 match o with
 | some f=>∃ EA EC,e=.returned (.tuple #[.agg #[Z Y f.kind,Z Y f.round,Z Y f.slot,Z Y f.pk,Z Y f.pv,.slice EA f.echo.length EC],.bool true])∧Items w' EA f.echo∧(∀ b off,EA=some ⟨b,off,none⟩→0 < f.echo.length→w.heap.size≤b)∧Zb w.heap.size w w'
 | none=>e=.returned (.tuple #[.agg #[Z Y 0,Z Y 0,Z Y 0,Z Y 0,Z Y 0,.slice none 0 0],.bool false])∧Zb w.heap.size w w'
def RetFirst (base:Nat) (o:Option Fr) (w:Zw) (e:Ending) (w':Zw):Prop :=
 match o with
 | some f=>∃ EA EC,e=.returned (.tuple #[.agg #[Z Y f.kind,Z Y f.round,Z Y f.slot,Z Y f.pk,Z Y f.pv,.slice EA f.echo.length EC],.bool true])∧Items w' EA f.echo∧(∀ b off,EA=some ⟨b,off,none⟩→0 < f.echo.length→base≤b)∧Zb w.heap.size w w'
 | none=>e=.returned (.tuple #[.agg #[Z Y 0,Z Y 0,Z Y 0,Z Y 0,Z Y 0,.slice none 0 0],.bool false])∧Zb w.heap.size w w'
theorem first_nil (A:Option Addr) (C:Nat) (w:Zw) :
 Zc Zp 110 #[.slice A 0 C] w fun e w'=>e=.returned (.tuple #[.agg #[Z Y 0,Z Y 0,Z Y 0,Z Y 0,Z Y 0,.slice none 0 0],.bool false])∧Zb w.heap.size w w':=by
 go_enter Tryz.func110,Tryz.ntmps110
 go_wp2
 refine bodyPost_ret (v :=.tuple #[.agg #[Z Y 0,Z Y 0,Z Y 0,Z Y 0,Z Y 0,.slice none 0 0],.bool false]) (by simp [results,Tryz.results110,go_sem]) rfl ⟨rfl,?_⟩
 first | exact bB
theorem ta185 (t:ByteArray) (k r s pk pv:Int) (EA:Option Addr) (EL EC:Nat) (w:Zw):(Instr.typeAssert (.iface 185 (.agg #[.string t,Z Y k,Z Y r,Z Y s,Z Y pk,Z Y pv,.slice EA EL EC])) 20 185 true).run Zp w=.ok (.tuple #[.agg #[.string t,Z Y k,Z Y r,Z Y s,Z Y pk,Z Y pv,.slice EA EL EC],.bool true]) w:=by kernel_rfl
theorem first_some (g n cap:Nat) (t:ByteArray) (k r s pk pv:Int) (u:Value) (w:Zw) (hn:0 < n)
 (c0:w.cell? ⟨g,0,none⟩=some (.string t)) (c1:w.cell? ⟨g,1,none⟩=some (Z Y k)) (c2:w.cell? ⟨g,2,none⟩=some (Z Y r)) (c3:w.cell? ⟨g,3,none⟩=some (Z Y s)) (c4:w.cell? ⟨g,4,none⟩=some (Z Y pk)) (c5:w.cell? ⟨g,5,none⟩=some (Z Y pv)) (EA:Option Addr) (EL EC:Nat) (c6:w.cell? ⟨g,6,none⟩=some (.slice EA EL EC)) :
 Zc Zp 110 #[.slice (some ⟨g,0,none⟩) n cap] w fun e w'=>e=.returned (.tuple #[.agg #[Z Y k,Z Y r,Z Y s,Z Y pk,Z Y pv,.slice EA EL EC],.bool true])∧Zb w.heap.size w w':=by
 have n0:=World.new_ne w _ c0
 have hg:=Zl w _ c0
 have b1:((n:Int) == 0)=false:=by simp;omega
 have b2:(n == 0)=false:=by simp;omega
 have b3:(0:Int) < (n:Int):=by omega
 go_enter Tryz.func110,Tryz.ntmps110
 have ta:=ta185 t k r s pk pv EA EL EC
 go_wp2
 refine bodyPost_ret (v :=.tuple #[.agg #[Z Y k,Z Y r,Z Y s,Z Y pk,Z Y pv,.slice EA EL EC],.bool true]) (by simp [results,Tryz.results110,go_sem]) rfl ⟨rfl,?_⟩
 first | exact bB
def pickF (la ld:List (ByteArray×Fr)):Option Fr :=
 match la with
 | x :: y :: _=>if x.1=y.1 then some x.2 else none
 | [x]=>some x.2
 | []=>match ld with
  | []=>none
  | x :: _=>some x.2
theorem addF_le (t:ByteArray) (b:Bool) (o:Option Fr):(addF t b o).length≤1:=by
 unfold addF
 split
 ·split <;> simp
 ·simp
theorem tk_nil {w:Zw} {base:Nat} {v:Value} (h:TkAt w base v []):∃ A C,v=.slice A 0 C:=by
 obtain⟨T,h1,h2,_⟩:=h
 obtain rfl:T=[]:=by simpa using h1
 rcases h2.2 with⟨h3,_⟩ | ⟨g,cap,cur,h3,_⟩
 ·exact⟨_,_,h3⟩
 ·exact⟨_,_,h3⟩
theorem tk_cons {w:Zw} {base:Nat} {v:Value} {x:ByteArray×Fr} {l:List (ByteArray×Fr)} (h:TkAt w base v (x :: l)) :
 ∃ g cap EA EC,v=.slice (some ⟨g,0,none⟩) (l.length+1) cap∧g < w.heap.size∧w.cell? ⟨g,0,none⟩=some (.string x.1)∧w.cell? ⟨g,1,none⟩=some (Z Y x.2.kind)∧w.cell? ⟨g,2,none⟩=some (Z Y x.2.round)∧w.cell? ⟨g,3,none⟩=some (Z Y x.2.slot)∧w.cell? ⟨g,4,none⟩=some (Z Y x.2.pk)∧w.cell? ⟨g,5,none⟩=some (Z Y x.2.pv)∧w.cell? ⟨g,6,none⟩=some (.slice EA x.2.echo.length EC) ∧
  Items w EA x.2.echo∧(∀ b off,EA=some ⟨b,off,none⟩→0 < x.2.echo.length→base≤b)∧(∀ y r,l=y :: r→w.cell? ⟨g,7,none⟩=some (.string y.1)):=by
 obtain⟨T,h1,h2,h3⟩:=h
 cases T with
 | nil=>simp at h1
 | cons t T =>
  simp only [List.map_cons,List.cons.injEq]at h1
  obtain⟨h1a,h1b⟩:=h1
  obtain⟨g,cap,hv,_,hlt⟩:=World.ownsRow.form h2 (by simp)
  have hc:∀ j u,(tkCells (t :: T))[j]?=some u→w.cell? ⟨g,j,none⟩=some u:=fun j u hj=>by
   have:=World.ownsRow.cells h2 (g:=g) (by rw [hv];rfl) j u hj
   simpa [Addr.add_lit]using this
  obtain⟨hi,hb⟩:=h3 t (List.mem_cons_self ..)
  have hl:T.length=l.length:=by rw [← h1b,List.length_map]
  subst h1a
  refine⟨g,cap,t.A,t.C,by rw [hv];simp [hl],hlt,hc 0 _ rfl,hc 1 _ rfl,hc 2 _ rfl,hc 3 _ rfl,hc 4 _ rfl,hc 5 _ rfl,hc 6 _ rfl,hi,fun b off e h=>(hb b off e h).2.2,fun y r e=>?_⟩
  cases T with
  | nil=>rw [e]at h1b;simp at h1b
  | cons t2 T2 =>
   rw [e]at h1b
   simp only [List.map_cons,List.cons.injEq]at h1b
   obtain⟨rfl,_⟩:=h1b
   exact hc 7 _ rfl
theorem first_of {w:Zw} {base:Nat} {v:Value} {l:List (ByteArray×Fr)} (h:TkAt w base v l):Zc Zp 110 #[v] w (RetFirst base (l.head?.map (·.2)) w):=by
 cases l with
 | nil =>
  obtain⟨A,C,rfl⟩:=tk_nil h
  exact first_nil A C w
 | cons x l =>
  obtain⟨g,cap,EA,EC,rfl,hg,c0,c1,c2,c3,c4,c5,c6,hi,hb,_⟩:=tk_cons h
  refine(first_some g (l.length+1) cap x.1 x.2.kind x.2.round x.2.slot x.2.pk x.2.pv .nilIface w (by omega) c0 c1 c2 c3 c4 c5 EA _ EC c6).mono ?_
  rintro e w' ⟨rfl,hb'⟩
  exact⟨EA,EC,rfl,hi.below hb',hb,hb'⟩
theorem five_allocs (w:Zw) (a b c d e:Obj):(((((w.alloc a).alloc b).alloc c).alloc d).alloc e).heap[w.heap.size]?=some a∧(((((w.alloc a).alloc b).alloc c).alloc d).alloc e).heap[w.heap.size+1]?=some b∧(((((w.alloc a).alloc b).alloc c).alloc d).alloc e).heap[w.heap.size+2]?=some c∧(((((w.alloc a).alloc b).alloc c).alloc d).alloc e).heap[w.heap.size+3]?=some d∧(((((w.alloc a).alloc b).alloc c).alloc d).alloc e).heap[w.heap.size+4]?=some e:=by
 have h1:(w.alloc a).heap.size=w.heap.size+1:=by simp
 have h2:((w.alloc a).alloc b).heap.size=w.heap.size+2:=by simp
 have h3:(((w.alloc a).alloc b).alloc c).heap.size=w.heap.size+3:=by simp
 have h4:((((w.alloc a).alloc b).alloc c).alloc d).heap.size=w.heap.size+4:=by simp
 refine⟨?_,?_,?_,?_,?_⟩
 ·rw [Below.heap_alloc _ _ _ (by omega),Below.heap_alloc _ _ _ (by omega),Below.heap_alloc _ _ _ (by omega),Below.heap_alloc _ _ _ (by omega)]
  exact Zh w a
 ·rw [Below.heap_alloc _ _ _ (by omega),Below.heap_alloc _ _ _ (by omega),Below.heap_alloc _ _ _ (by omega),← h1]
  exact Zh _ b
 ·rw [Below.heap_alloc _ _ _ (by omega),Below.heap_alloc _ _ _ (by omega),← h2]
  exact Zh _ c
 ·rw [Below.heap_alloc _ _ _ (by omega),← h3]
  exact Zh _ d
 ·rw [← h4]
  exact Zh _ e
theorem items6' {A:Option Addr} {l:List (Nat×Nat)} {w:Zw} {q:Nat} {u0 u1 u2 u3 u4 u5:Value} (h:Items w A l) (hq:∀ b off,A=some ⟨b,off,none⟩→0 < l.length→b≠q):Items ((((((w.setCell ⟨q,0,none⟩ u0).setCell ⟨q,1,none⟩ u1).setCell ⟨q,2,none⟩ u2).setCell ⟨q,3,none⟩ u3).setCell ⟨q,4,none⟩ u4).setCell ⟨q,5,none⟩ u5) A l:=by
 by_cases hl:0 < l.length
 ·exact items6 h (fun b off e=>hq b off e hl)
 ·exact fun k hk=>absurd hk (by omega)
theorem Pick (N:Nat) (Pi Er G Fi:Int) (PA:Option Addr) (PL PC:Nat) (round slot:Int) (d1 s1 o1 d2 s2 o2:ByteArray) (far1 far2:Int) (r1 r2 q1 q2:Option Fr) (w:Zw)
 (hN:N≤12) (hP:PL≤3) (hFi:0≤Fi) (hFi2:Fi≤65535) (hr:0≤round) (hr2:round≤1000) (hf1:1≤far1) (hf2:1≤far2)
 (h1:SortIs N PL ((Fi+round)%65536) slot o1 r1) (h2:SortIs N PL ((Fi+round)%65536) slot o2 r2) (h3:SortIs N PL ((Fi+round)%65536) slot d1 q1) (h4:SortIs N PL ((Fi+round)%65536) slot d2 q2) :
 Zc Zp 68 #[.agg #[Z Y N,Z Y Pi,Z Y Er,Z Y G,Z Y Fi,.slice PA PL PC],Z Y round,Z Y slot,.agg #[.string d1,.string s1,.string o1,Z Y far1],.agg #[.string d2,.string s2,.string o2,Z Y far2]] w
  (RetPick (pickF (addF o1 (decide (2≤far1) || decide (slot≥N)) r1 ++ addF o2 (decide (2≤far2) || decide (slot≥N)) r2) (addF d1 (decide (far1=1) && !decide (slot≥N)) q1 ++ addF d2 (decide (far2=1) && !decide (slot≥N)) q2)) w):=by
 generalize hpair:decide (slot≥(N:Int))=pair
 have HA:=O (fun cb w' a b=>rights_compared N Pi Er G Fi PA PL PC round slot cb d1 s1 o1 d2 s2 o2 far1 far2 pair r1 r2 w' hN hP hFi hFi2 hr hr2 hf1 hf2 h1 h2 a b)
 have HD:=O (fun cb w' a b=>rights_direct N Pi Er G Fi PA PL PC round slot cb d1 s1 o1 d2 s2 o2 far1 far2 pair q1 q2 w' hN hP hFi hFi2 hr hr2 hf1 hf2 h3 h4 a b)
 have hla:(addF o1 (decide (2≤far1) || pair) r1 ++ addF o2 (decide (2≤far2) || pair) r2).length≤2:=by
  rw [List.length_append]
  have:=addF_le o1 (decide (2≤far1) || pair) r1
  have:=addF_le o2 (decide (2≤far2) || pair) r2
  omega
 generalize addF o1 (decide (2≤far1) || pair) r1 ++ addF o2 (decide (2≤far2) || pair) r2=la at *
 generalize addF d1 (decide (far1=1) && !pair) q1 ++ addF d2 (decide (far2=1) && !pair) q2=ld at *
 clear h1 h2 h3 h4
 go_enter Tryz.func68,Tryz.ntmps68
 go_wp2_with fail
 refine(HA.out _ _ (by go_simp) (by go_simp)).mono ?_
 rintro e w1 ⟨v,rfl,htk,hb1⟩
 have h5:=five_allocs w (.cells #[Z Y N,Z Y Pi,Z Y Er,Z Y G,Z Y Fi,.slice PA PL PC] 24) (.cells #[.string d1,.string s1,.string o1,Z Y far1] 129) (.cells #[.string d2,.string s2,.string o2,Z Y far2] 129) (.cells #[Z Y 0,Z Y 0,Z Y 0,Z Y 0,Z Y 0,.slice none 0 0] 118) (.cells #[.iface 183 (.agg #[.string d1,.string s1,.string o1,Z Y far1,.bool pair]),.iface 183 (.agg #[.string d2,.string s2,.string o2,Z Y far2,.bool pair])] 239)
 have hsz:((((((w.alloc (.cells #[Z Y N,Z Y Pi,Z Y Er,Z Y G,Z Y Fi,.slice PA PL PC] 24)).alloc (.cells #[.string d1,.string s1,.string o1,Z Y far1] 129)).alloc (.cells #[.string d2,.string s2,.string o2,Z Y far2] 129)).alloc (.cells #[Z Y 0,Z Y 0,Z Y 0,Z Y 0,Z Y 0,.slice none 0 0] 118)).alloc (.cells #[.iface 183 (.agg #[.string d1,.string s1,.string o1,Z Y far1,.bool pair]),.iface 183 (.agg #[.string d2,.string s2,.string o2,Z Y far2,.bool pair])] 239))).heap.size=w.heap.size+5:=by simp
 have HC:=O ((hb1.block w.heap.size (by rw [hsz];omega)).trans h5.1)
 have HSa:=O ((hb1.block (w.heap.size+1) (by rw [hsz];omega)).trans h5.2.1)
 have HSb:=O ((hb1.block (w.heap.size+2) (by rw [hsz];omega)).trans h5.2.2.1)
 have HR:=O ((hb1.block (w.heap.size+3) (by rw [hsz];omega)).trans h5.2.2.2.1)
 have hz1:w.heap.size+5≤w1.heap.size:=by have:=hb1.size;rw [hsz]at this;exact this
 have hB1:Zb w.heap.size w w1:=Below.trans (show Zb w.heap.size w _ from bB) (hb1.mono (by rw [hsz];omega))
 have htk':=TkAt.mono htk (show w.heap.size+5≤_ by rw [hsz];omega)
 have HTk:=O htk'
 have HB1:=O hB1
 clear h5 hsz hb1 hB1 htk htk' HA
 match la,hla with
 | [],_ =>
  obtain⟨A0,C0,rfl⟩:=tk_nil HTk.out
  have c0:w1.cell? ⟨w.heap.size,0,none⟩=some (Z Y N):=by simp [World.cell?,HC.out]
  have c1:w1.cell? ⟨w.heap.size,1,none⟩=some (Z Y Pi):=by simp [World.cell?,HC.out]
  have c2:w1.cell? ⟨w.heap.size,2,none⟩=some (Z Y Er):=by simp [World.cell?,HC.out]
  have c3:w1.cell? ⟨w.heap.size,3,none⟩=some (Z Y G):=by simp [World.cell?,HC.out]
  have c4:w1.cell? ⟨w.heap.size,4,none⟩=some (Z Y Fi):=by simp [World.cell?,HC.out]
  have c5:w1.cell? ⟨w.heap.size,5,none⟩=some (.slice PA PL PC):=by simp [World.cell?,HC.out]
  have a0:w1.cell? ⟨w.heap.size+1,0,none⟩=some (.string d1):=by simp [World.cell?,HSa.out]
  have a1:w1.cell? ⟨w.heap.size+1,1,none⟩=some (.string s1):=by simp [World.cell?,HSa.out]
  have a2:w1.cell? ⟨w.heap.size+1,2,none⟩=some (.string o1):=by simp [World.cell?,HSa.out]
  have a3:w1.cell? ⟨w.heap.size+1,3,none⟩=some (Z Y far1):=by simp [World.cell?,HSa.out]
  have b0:w1.cell? ⟨w.heap.size+2,0,none⟩=some (.string d2):=by simp [World.cell?,HSb.out]
  have b1:w1.cell? ⟨w.heap.size+2,1,none⟩=some (.string s2):=by simp [World.cell?,HSb.out]
  have b2:w1.cell? ⟨w.heap.size+2,2,none⟩=some (.string o2):=by simp [World.cell?,HSb.out]
  have b3:w1.cell? ⟨w.heap.size+2,3,none⟩=some (Z Y far2):=by simp [World.cell?,HSb.out]
  go_wp2_with fail
  refine wp_region_held_drew (S:=fun w'=>True) (by kernel_rfl) trivial (fun hHeld=>?_)
  refine rgT 0 ?_
  refine rgT 1 ?_
  refine rgT 2 ?_
  refine rgT 3 ?_
  refine rgS 4 ?_
  refine rgS 5 ?_
  refine rgS 6 ?_
  refine rgS 7 ?_
  refine rgS 8 ?_
  refine rgS 9 ?_
  refine rgS 10 ?_
  refine rgS 11 ?_
  refine rgS 12 ?_
  refine rgT 13 ?_
  refine rgT 14 ?_
  refine wpAnyH_done (by kernel_rfl) ?_ _
  go_wp2_with fail
  refine(HD.out _ _ (by go_simp) (by go_simp)).mono ?_
  rintro e w2 ⟨v2,rfl,htk2,hb2'⟩
  have hb2:Zb w1.heap.size w1 w2:=Below.trans (show Zb w1.heap.size w1 _ from bB) (Below.mono hb2' (by simp))
  have HR2:=O ((hb2.block (w.heap.size+3) (by omega)).trans HR.out)
  have HB2:=O (HB1.out.trans (hb2.mono (by omega)))
  have hz2:w.heap.size+5≤w2.heap.size:=by have:=hb2.size;omega
  have htk3:=TkAt.mono htk2 (show w.heap.size+5≤_ by simp;omega)
  have HF:=O (first_of htk3)
  clear hb2 hb2' htk2 htk3 c0 c1 c2 c3 c4 c5 a0 a1 a2 a3 b0 b1 b2 b3 hHeld HD HTk
  go_wp2_with fail
  refine HF.out.mono ?_
  intro e w3 hfst
  match ld,hfst with
  | [],hfst =>
   obtain⟨rfl,hb3⟩:=hfst
   have hr3:=(hb3.block (w.heap.size+3) (by omega)).trans HR2.out
   have hB3:=HB2.out.trans (hb3.mono (by omega))
   have x0:w3.cell? ⟨w.heap.size+3,0,none⟩=some (Z Y 0):=by simp [World.cell?,hr3]
   have x1:w3.cell? ⟨w.heap.size+3,1,none⟩=some (Z Y 0):=by simp [World.cell?,hr3]
   have x2:w3.cell? ⟨w.heap.size+3,2,none⟩=some (Z Y 0):=by simp [World.cell?,hr3]
   have x3:w3.cell? ⟨w.heap.size+3,3,none⟩=some (Z Y 0):=by simp [World.cell?,hr3]
   have x4:w3.cell? ⟨w.heap.size+3,4,none⟩=some (Z Y 0):=by simp [World.cell?,hr3]
   have x5:w3.cell? ⟨w.heap.size+3,5,none⟩=some (.slice none 0 0):=by simp [World.cell?,hr3]
   have y0:∀ o,w3.frozen? ⟨w.heap.size+3,o,none⟩=false:=fun o=>by simp [World.frozen?,hr3]
   have HB3:=O hB3
   clear hr3 hB3 hb3
   go_wp2
   refine bodyPost_ret (v :=.tuple #[.agg #[Z Y 0,Z Y 0,Z Y 0,Z Y 0,Z Y 0,.slice none 0 0],.bool false]) (by simp [results,Tryz.results68,go_sem,x0,x1,x2,x3,x4,x5]) rfl ⟨rfl,below6 HB3.out (by omega)⟩
  | x :: l,hfst =>
   obtain⟨EA,EC,rfl,hI3,hbs,hb3⟩:=hfst
   have hr3:=(hb3.block (w.heap.size+3) (by omega)).trans HR2.out
   have hB3:=HB2.out.trans (hb3.mono (by omega))
   have x0:w3.cell? ⟨w.heap.size+3,0,none⟩=some (Z Y 0):=by simp [World.cell?,hr3]
   have x1:w3.cell? ⟨w.heap.size+3,1,none⟩=some (Z Y 0):=by simp [World.cell?,hr3]
   have x2:w3.cell? ⟨w.heap.size+3,2,none⟩=some (Z Y 0):=by simp [World.cell?,hr3]
   have x3:w3.cell? ⟨w.heap.size+3,3,none⟩=some (Z Y 0):=by simp [World.cell?,hr3]
   have x4:w3.cell? ⟨w.heap.size+3,4,none⟩=some (Z Y 0):=by simp [World.cell?,hr3]
   have x5:w3.cell? ⟨w.heap.size+3,5,none⟩=some (.slice none 0 0):=by simp [World.cell?,hr3]
   have y0:∀ o,w3.frozen? ⟨w.heap.size+3,o,none⟩=false:=fun o=>by simp [World.frozen?,hr3]
   have HB3:=O hB3
   have HI3:=O hI3
   have HBS:=O hbs
   clear hI3 hbs
   clear hr3 hB3 hb3
   go_wp2
   refine bodyPost_ret (v :=.tuple #[.agg #[Z Y x.2.kind,Z Y x.2.round,Z Y x.2.slot,Z Y x.2.pk,Z Y x.2.pv,.slice EA x.2.echo.length EC],.bool true]) (by simp [results,Tryz.results68,go_sem,x0,x1,x2,x3,x4,x5]) rfl ⟨EA,EC,rfl,?_,?_,below6 HB3.out (by omega)⟩
   ·exact items6' HI3.out (fun b off e h=>by have:=HBS.out b off e h;omega)
   ·exact fun b off e h=>by have:=HBS.out b off e h;omega
 | [x],_ =>
  have hF0:=first_of (TkAt.below HTk.out (show Zb w1.heap.size w1 w1.drew from(Zf _ _).drew))
  obtain⟨g,cap,EA0,EC0,hv,_⟩:=tk_cons HTk.out
  simp only [List.length_cons,List.length_nil,Nat.zero_add,Nat.reduceAdd]at hv
  subst hv
  have HF:=O hF0
  have HR2:=HR
  have HB2:=HB1
  have hz2:=hz1
  clear hF0 HTk HD
  go_wp2_with fail
  refine wp_region_held_drew (S:=fun w'=>True) (by kernel_rfl) trivial (fun hHeld=>?_)
  refine rgT 0 ?_
  refine rgT 1 ?_
  refine rgT 2 ?_
  refine rgT 3 ?_
  refine rgS 4 ?_
  refine rgS 5 ?_
  refine rgS 6 ?_
  refine rgS 7 ?_
  refine rgS 8 ?_
  refine rgS 9 ?_
  refine rgS 10 ?_
  refine rgS 11 ?_
  refine rgS 12 ?_
  refine rgT 13 ?_
  refine rgT 14 ?_
  refine wpAnyH_done (by kernel_rfl) ?_ _
  go_wp2_with fail
  refine HF.out.mono ?_
  intro e w3 hfst
  obtain⟨EA,EC,rfl,hI3,hbs,hb3⟩:=hfst
  replace hb3:Zb w1.heap.size w1 w3:=⟨hb3.os,hb3.tape,hb3.output,hb3.size,hb3.block⟩
  have hr3:=(hb3.block (w.heap.size+3) (by omega)).trans HR2.out
  have hB3:=HB2.out.trans (hb3.mono (by omega))
  have x0:w3.cell? ⟨w.heap.size+3,0,none⟩=some (Z Y 0):=by simp [World.cell?,hr3]
  have x1:w3.cell? ⟨w.heap.size+3,1,none⟩=some (Z Y 0):=by simp [World.cell?,hr3]
  have x2:w3.cell? ⟨w.heap.size+3,2,none⟩=some (Z Y 0):=by simp [World.cell?,hr3]
  have x3:w3.cell? ⟨w.heap.size+3,3,none⟩=some (Z Y 0):=by simp [World.cell?,hr3]
  have x4:w3.cell? ⟨w.heap.size+3,4,none⟩=some (Z Y 0):=by simp [World.cell?,hr3]
  have x5:w3.cell? ⟨w.heap.size+3,5,none⟩=some (.slice none 0 0):=by simp [World.cell?,hr3]
  have y0:∀ o,w3.frozen? ⟨w.heap.size+3,o,none⟩=false:=fun o=>by simp [World.frozen?,hr3]
  have HB3:=O hB3
  have HI3:=O hI3
  have HBS:=O hbs
  clear hI3 hbs
  clear hr3 hB3 hb3
  go_wp2
  refine bodyPost_ret (v :=.tuple #[.agg #[Z Y x.2.kind,Z Y x.2.round,Z Y x.2.slot,Z Y x.2.pk,Z Y x.2.pv,.slice EA x.2.echo.length EC],.bool true]) (by simp [results,Tryz.results68,go_sem,x0,x1,x2,x3,x4,x5]) rfl ⟨EA,EC,rfl,?_,?_,below6 HB3.out (by omega)⟩
  ·exact items6' HI3.out (fun b off e h=>by have:=HBS.out b off e h;omega)
  ·exact fun b off e h=>by have:=HBS.out b off e h;omega
 | [x,y],_ =>
  have hF0:=first_of (TkAt.below HTk.out (show Zb w1.heap.size w1 w1.drew from(Zf _ _).drew))
  obtain⟨g,cap,EA0,EC0,hv,hg,k0,_,_,_,_,_,_,_,_,hk7⟩:=tk_cons HTk.out
  have k7:=hk7 y [] rfl
  simp only [List.length_cons,List.length_nil,Nat.zero_add,Nat.reduceAdd]at hv
  subst hv
  have HF:=O hF0
  have HR2:=HR
  have HB2:=HB1
  have hz2:=hz1
  clear hF0 HTk HD hk7
  obtain⟨tx,fx⟩:=x
  obtain⟨ty,fy⟩:=y
  by_cases hxy:tx=ty
  ·subst hxy
   have HP:Hid (pickF [(tx,fx),(tx,fy)] ld=some fx):=by unfold pickF;exact if_pos rfl
   go_wp2_with fail
   refine wp_region_held_drew (S:=fun w'=>w'.cell? ⟨g,0,none⟩=some (.string tx)∧w'.cell? ⟨g,7,none⟩=some (.string tx)) (by kernel_rfl) ⟨k0,k7⟩ (fun hHeld=>?_)
   refine rgT 0 ?_
   refine rgT 1 ?_
   refine rgT 2 ?_
   refine rgT 3 ?_
   refine rgT 4 ?_
   refine rgT 5 ?_
   refine rgT 6 ?_
   refine rgT 7 ?_
   refine rgT 8 ?_
   refine rgT 9 ?_
   refine rgT 10 ?_
   refine rgT 11 ?_
   refine rgT 12 ?_
   refine rgT 13 ?_
   refine rgT 14 ?_
   refine wpAnyH_done (by kernel_rfl) ?_ _
   go_wp2_with fail
   refine HF.out.mono ?_
   intro e w3 hfst
   obtain⟨EA,EC,rfl,hI3,hbs,hb3⟩:=hfst
   replace hb3:Zb w1.heap.size w1 w3:=⟨hb3.os,hb3.tape,hb3.output,hb3.size,hb3.block⟩
   have hr3:=(hb3.block (w.heap.size+3) (by omega)).trans HR2.out
   have hB3:=HB2.out.trans (hb3.mono (by omega))
   have x0:w3.cell? ⟨w.heap.size+3,0,none⟩=some (Z Y 0):=by simp [World.cell?,hr3]
   have x1:w3.cell? ⟨w.heap.size+3,1,none⟩=some (Z Y 0):=by simp [World.cell?,hr3]
   have x2:w3.cell? ⟨w.heap.size+3,2,none⟩=some (Z Y 0):=by simp [World.cell?,hr3]
   have x3:w3.cell? ⟨w.heap.size+3,3,none⟩=some (Z Y 0):=by simp [World.cell?,hr3]
   have x4:w3.cell? ⟨w.heap.size+3,4,none⟩=some (Z Y 0):=by simp [World.cell?,hr3]
   have x5:w3.cell? ⟨w.heap.size+3,5,none⟩=some (.slice none 0 0):=by simp [World.cell?,hr3]
   have y0:∀ o,w3.frozen? ⟨w.heap.size+3,o,none⟩=false:=fun o=>by simp [World.frozen?,hr3]
   have HB3:=O hB3
   have HI3:=O hI3
   have HBS:=O hbs
   clear hI3 hbs
   clear hr3 hB3 hb3
   go_wp2
   refine bodyPost_ret (v :=.tuple #[.agg #[Z Y fx.kind,Z Y fx.round,Z Y fx.slot,Z Y fx.pk,Z Y fx.pv,.slice EA fx.echo.length EC],.bool true]) (by simp [results,Tryz.results68,go_sem,x0,x1,x2,x3,x4,x5]) rfl ?_
   rw [HP.out]
   refine⟨EA,EC,rfl,?_,?_,below6 HB3.out (by omega)⟩
   ·exact items6' HI3.out (fun b off e h=>by have:=HBS.out b off e h;omega)
   ·exact fun b off e h=>by have:=HBS.out b off e h;omega
  ·have q1:(tx.toList == ty.toList)=false:=by
    refine beq_eq_false_iff_ne.mpr (fun e=>hxy ?_)
    rw [ByteArray.toList_eq,ByteArray.toList_eq]at e
    exact ByteArray.ext (Array.toList_inj.mp e)
   go_wp2_with fail
   refine wp_region_held_drew (S:=fun w'=>w'.cell? ⟨g,0,none⟩=some (.string tx)∧w'.cell? ⟨g,7,none⟩=some (.string ty)) (by kernel_rfl) ⟨k0,k7⟩ (fun hHeld=>?_)
   refine rgT 0 ?_
   refine rgT 1 ?_
   refine rgT 2 ?_
   refine rgT 3 ?_
   refine rgT 4 ?_
   refine rgT 5 ?_
   refine rgT 6 ?_
   refine rgT 7 ?_
   refine rgT 8 ?_
   refine rgT 9 ?_
   refine rgT 10 ?_
   refine rgT 11 ?_
   refine rgT 12 ?_
   refine rgT 13 ?_
   refine rgT 14 ?_
   refine wpAnyH_done (by kernel_rfl) ?_ _
   have hB1:=HB1.out
   have x0:w1.cell? ⟨w.heap.size+3,0,none⟩=some (Z Y 0):=by simp [World.cell?,HR.out]
   have x1:w1.cell? ⟨w.heap.size+3,1,none⟩=some (Z Y 0):=by simp [World.cell?,HR.out]
   have x2:w1.cell? ⟨w.heap.size+3,2,none⟩=some (Z Y 0):=by simp [World.cell?,HR.out]
   have x3:w1.cell? ⟨w.heap.size+3,3,none⟩=some (Z Y 0):=by simp [World.cell?,HR.out]
   have x4:w1.cell? ⟨w.heap.size+3,4,none⟩=some (Z Y 0):=by simp [World.cell?,HR.out]
   have x5:w1.cell? ⟨w.heap.size+3,5,none⟩=some (.slice none 0 0):=by simp [World.cell?,HR.out]
   have y0:∀ o,w1.frozen? ⟨w.heap.size+3,o,none⟩=false:=fun o=>by simp [World.frozen?,HR.out]
   have HP:Hid (pickF [(tx,fx),(ty,fy)] ld=none):=by unfold pickF;exact if_neg hxy
   clear hB1 hHeld k0 k7 hxy
   go_wp2
   refine bodyPost_ret (v :=.tuple #[.agg #[Z Y 0,Z Y 0,Z Y 0,Z Y 0,Z Y 0,.slice none 0 0],.bool false]) (by simp [results,Tryz.results68,go_sem,x0,x1,x2,x3,x4,x5]) rfl ?_
   rw [HP.out]
   exact⟨rfl,Below.drew (below6 HB1.out (by omega))⟩
end A32
end Go.Proofs.YtdbempiompiioaaGreat
