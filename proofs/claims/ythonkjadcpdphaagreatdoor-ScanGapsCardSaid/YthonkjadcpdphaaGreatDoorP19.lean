/- P19: a part of the proof: the rules, or what functions compute. Conditions: as each theorem says. -/
import Derived.Test.YthonkjadcpdphaaGreatDoorP18
import Derived.Test.YthonkjadcpdphaaGreatDoorP17
import Derived.Test.YthonkjadcpdphaaGreatDoorCode
import Derived.Lib.LaidU8
import GoSem.PinnedTables
set_option linter.unusedSimpArgs false
set_option linter.unusedVariables false
set_option maxRecDepth 20000
namespace Go.Ai
open Go.Proofs
def gapR (k:Nat):List Int:=if k%5=1 then [9,32] else if k%5=2 then [10,10] else if k%5=3 then [32,35,32,34,32,123,32,-1,10] else if k%5=4 then [35,10] else [32]
def gapL (k:Nat):List UInt8:=if k%5=1 then [9,32] else if k%5=2 then [10,10] else if k%5=3 then [32,35,32,34,32,123,32,255,10] else if k%5=4 then [35,10] else [32]
theorem gap_text (k:Nat):textR (gapR k)=gapL k:=by
 unfold gapR gapL
 repeat' split
 all_goals rfl
theorem gap_okR (k:Nat): ∀r∈gapR k,okR r:=by
 unfold gapR okR
 repeat' split
 all_goals (intro r hr;simp at hr;omega)
theorem gap_head (k:Nat) (t:List Int): ∀x∈(gapR k++t).head?,wthn x=false:=by
 unfold gapR
 repeat' split
 all_goals (intro x hx;simp at hx;subst hx;decide)
def Reads (l:List Int) (P:List (Int×Int)) (j e:Nat) (out out':List Tk):Prop:= ∀f,l.length - j<f→ ∃f',l.length - e<f'∧refGo rV sU l P f j out=refGo rV sU l P f' e out'
theorem Reads.refl (l:List Int) (P:List (Int×Int)) (j:Nat) (out:List Tk):Reads l P j j out out:=fun f h=>⟨f,h,rfl⟩
theorem Reads.trans {l:List Int} {P:List (Int×Int)} {j e g:Nat} {o1 o2 o3:List Tk} (h1:Reads l P j e o1 o2) (h2:Reads l P e g o2 o3):Reads l P j g o1 o3:=fun f h=>by
 obtain ⟨f1,a1,b1⟩:=h1 f h
 obtain ⟨f2,a2,b2⟩:=h2 f1 a1
 exact ⟨f2,a2,b1.trans b2⟩
theorem Reads.one {l:List Int} {P:List (Int×Int)} {j e:Nat} {o1 o2:List Tk} (hj:j<l.length) (he:j<e) (h: ∀f,refGo rV sU l P (f+1) j o1=refGo rV sU l P f e o2):Reads l P j e o1 o2:=fun f hf=>by
 cases f with
 |zero=>omega
 |succ f=>exact ⟨f,by omega,h f⟩
theorem Reads.blank {l:List Int} {P:List (Int×Int)} {j:Nat} {out:List Tk} {r:Int} {t:List Int} (h:l.drop j=r::t) (hr:r=32∨r=9∨r=10):Reads l P j (j+1) out out:=
 .one (drop_cons_at h).1 (by omega) fun f=>refGo_blank rV sU l P f j out h hr
theorem Reads.remark {l:List Int} {P:List (Int×Int)} {j:Nat} {out:List Tk} {p t:List Int} (h:l.drop j=(35::p)++10::t) (hp: ∀x∈p,x≠10):Reads l P j (j+(35::p).length) out out:=
 .one (drop_cons_at (t:=p++10::t) h).1 (by rw [List.length_cons];omega) fun f=>refGo_remark rV sU l P f j out h hp
theorem Reads.gap {l:List Int} {P:List (Int×Int)} {j:Nat} {out:List Tk} {t:List Int} (k:Nat) (h:l.drop j=gapR k++t):Reads l P j (j+(gapR k).length) out out:=by
 unfold gapR at h ⊢
 by_cases c1:k%5=1
 ·rw [if_pos c1] at h ⊢
  obtain ⟨_,_,h2⟩:=drop_cons_at (t:=32::t) h
  exact (Reads.blank (t:=32::t) h (by decide)).trans (.blank h2 (by decide))
 rw [if_neg c1] at h ⊢
 by_cases c2:k%5=2
 ·rw [if_pos c2] at h ⊢
  obtain ⟨_,_,h2⟩:=drop_cons_at (t:=10::t) h
  exact (Reads.blank (t:=10::t) h (by decide)).trans (.blank h2 (by decide))
 rw [if_neg c2] at h ⊢
 by_cases c3:k%5=3
 ·rw [if_pos c3] at h ⊢
  have h2:l.drop (j+1)=(35::[32,34,32,123,32,-1])++10::t:=drop_app (p:=[32]) h
  have h3:l.drop (j+1+7)=10::t:=drop_app h2
  exact ((Reads.blank (t:=[35,32,34,32,123,32,-1,10]++t) h (by decide)).trans (.remark h2 (by decide))).trans (.blank h3 (by decide))
 rw [if_neg c3] at h ⊢
 by_cases c4:k%5=4
 ·rw [if_pos c4] at h ⊢
  have h2:l.drop j=(35::[])++10::t:=h
  have h3:l.drop (j+1)=10::t:=drop_app h2
  exact (Reads.remark h2 (by simp)).trans (.blank h3 (by decide))
 ·rw [if_neg c4] at h ⊢
  exact .blank (t:=t) h (by decide)
theorem Reads.tok {l:List Int} {P:List (Int×Int)} {j:Nat} {out:List Tk} (k:Int) (s:List UInt8) (n:Nat) (t:List Int) (hk:1≤k∧k≤9) (hn:n<18446744073709551616) (hR:tkR k s n=true)
  (h:l.drop j=runesL (tkP k s n) 0++t) (ht: ∀x∈t.head?,wthn x=false) (h0:runesL (tkP k s n) 0≠[]):
  Reads l P j (j+(runesL (tkP k s n) 0).length) out (out++[⟨k,s,n,(P.getD j (0,0)).1,(P.getD j (0,0)).2⟩]):=by
 have hp:=List.length_pos_iff.2 h0
 refine .one ?_ (by omega) fun f=>refGo_tok l P f j out k s n t hk hn hR h ht
 have:=congrArg List.length h
 rw [List.length_drop,List.length_append] at this
 omega
open Go.Proofs
def gk (gs:List UInt8) (i:Nat):Nat:=if gs=[] then 0 else (gs.getD (i%gs.length) 0).toNat
def gtx (gs:List UInt8):Nat→List Tk→List UInt8
 |_,[]=>[]
 |i,x::L=>gapL (gk gs i)++(tkP x.k x.t x.n++gtx gs (i+1) L)
def gtr (gs:List UInt8):Nat→List Tk→List Int
 |_,[]=>[]
 |i,x::L=>gapR (gk gs i)++(runesL (tkP x.k x.t x.n) 0++gtr gs (i+1) L)
theorem gtx_append (gs:List UInt8): ∀(A B:List Tk) (i:Nat),gtx gs i (A++B)=gtx gs i A++gtx gs (i+A.length) B
 |[],B,i=>rfl
 |x::A,B,i=>by
  rw [List.cons_append,gtx,gtx,gtx_append gs A B (i+1),List.append_assoc,List.append_assoc,List.length_cons]
  congr 4
  omega
structure TkOk (x:Tk):Prop where
 k:1≤x.k∧x.k≤9
 n:x.n<18446744073709551616
 r:tkR x.k x.t x.n=true
theorem one_rune (c:UInt8) (h:c.toNat<128):runesL [c] 0=[(c.toNat:Int)]:=by
 rw [runes_asc [c] (by simpa using h)]
 rfl
theorem tkP_runes {k:Int} {s:List UInt8} {n:Nat} (hk:1≤k∧k≤9) (hn:n<18446744073709551616) (h:tkR k s n=true):runesL (tkP k s n) 0≠[]∧ ∀r∈runesL (tkP k s n) 0,r≠ -1:=by
 by_cases kw:k=1∨k=3∨k=4∨k=5∨k=6
 ·obtain ⟨h1,h2,h3⟩:=tk_word k s n hn kw h
  exact ⟨h2,fun r hr=>(wthn_okR (h1 r hr)).2⟩
 have br: ∀c:UInt8,c.toNat<128→tkP k s n=[c]→runesL (tkP k s n) 0≠[]∧ ∀r∈runesL (tkP k s n) 0,r≠ -1:=fun c hc e=>by
  rw [e,one_rune c hc]
  refine ⟨by simp,fun r hr=>?_⟩
  rw [List.mem_singleton] at hr
  omega
 have kc:k=2∨k=7∨k=8∨k=9:=by omega
 rcases kc with rfl|rfl|rfl|rfl
 ·obtain ⟨e,hz,hg,hl⟩:=tkP_quote s n h
  have h0: ∀r∈runesL s 0,0≤r:=fun r hr=>of_decide_eq_true (List.all_eq_true.1 hg r hr)
  have hk: ∀r∈runesL s 0,okR r:=fun r hr=>runesL_okR s s.length 0 (by omega) r hr
  rw [e,quL_runes _ h0 hk]
  refine ⟨by simp,fun r hr=>?_⟩
  rw [List.mem_cons,List.mem_append,List.mem_singleton] at hr
  rcases hr with rfl|hr|rfl
  ·decide
  ·rcases erL_in _ r hr with h'|h'
   ·have:=h0 r h'
    omega
   ·omega
  ·decide
 ·exact br 123 (by decide) (by unfold tkP;rw [h];rfl)
 ·exact br 125 (by decide) (by unfold tkP;rw [h];rfl)
 ·exact br 59 (by decide) (by unfold tkP;rw [h];rfl)
theorem gtr_text (gs:List UInt8): ∀(L:List Tk) (i:Nat),(∀x∈L,TkOk x)→textR (gtr gs i L)=gtx gs i L
 |[],i,h=>rfl
 |x::L,i,h=>by
  have hx:=h x (by simp)
  rw [gtr,gtx,textR_append,textR_append,gap_text,textR_runes _ (tkP_runes hx.k hx.n hx.r).2,gtr_text gs L (i+1) fun y hy=>h y (by simp [hy])]
theorem gtr_okR (gs:List UInt8): ∀(L:List Tk) (i:Nat),∀r∈gtr gs i L,okR r
 |[],i,r,hr=>by cases hr
 |x::L,i,r,hr=>by
  rw [gtr,List.mem_append,List.mem_append] at hr
  rcases hr with hr|hr|hr
  ·exact gap_okR _ r hr
  ·exact runesL_okR _ _ 0 (Nat.le_refl _) r hr
  ·exact gtr_okR gs L (i+1) r hr
theorem gtr_head (gs:List UInt8) (e:Nat) (t:List Int): ∀(L:List Tk) (i:Nat),∀x∈(gtr gs i L++(gapR e++t)).head?,wthn x=false
 |[],i=>gap_head e t
 |y::L,i=>by
  rw [gtr,List.append_assoc]
  exact gap_head _ _
def Tk.says (x:Tk):Int×List UInt8×Nat:=(x.k,x.t,x.n)
theorem gtr_reads (gs:List UInt8) (e:Nat) (l:List Int) (P:List (Int×Int)) (t:List Int): ∀(L:List Tk) (i j:Nat) (out:List Tk),(∀x∈L,TkOk x)→l.drop j=gtr gs i L++(gapR e++t)→
  ∃o,o.map Tk.says=L.map Tk.says∧Reads l P j (j+(gtr gs i L).length) out (out++o)
 |[],i,j,out,h,hd=>⟨[],rfl,by rw [List.append_nil];exact .refl l P j out⟩
 |x::L,i,j,out,h,hd=>by
  have hx:=h x (by simp)
  rw [gtr,List.append_assoc,List.append_assoc] at hd
  have d2:=drop_app hd
  have d3:=drop_app d2
  obtain ⟨o,ho,hr⟩:=gtr_reads gs e l P t L (i+1) _ (out++[⟨x.k,x.t,x.n,(P.getD (j+(gapR (gk gs i)).length) (0,0)).1,(P.getD (j+(gapR (gk gs i)).length) (0,0)).2⟩]) (fun y hy=>h y (by simp [hy])) d3
  have r2:=Reads.tok (P:=P) (out:=out) x.k x.t x.n _ hx.k hx.n hx.r d2 (gtr_head gs e t L (i+1)) (tkP_runes hx.k hx.n hx.r).1
  have r3:=((Reads.gap (P:=P) (out:=out) (gk gs i) hd).trans r2).trans hr
  refine ⟨⟨x.k,x.t,x.n,(P.getD (j+(gapR (gk gs i)).length) (0,0)).1,(P.getD (j+(gapR (gk gs i)).length) (0,0)).2⟩::o,?_,?_⟩
  ·rw [List.map_cons,List.map_cons,ho]
   rfl
  ·rw [List.append_assoc] at r3
   rw [gtr,List.length_append,List.length_append,←Nat.add_assoc,←Nat.add_assoc]
   exact r3
theorem gaps_law (gs:List UInt8) (e:Nat) (L:List Tk) (h: ∀x∈L,TkOk x) (hl:(gtx gs 0 L++gapL e).length≤40000): ∃o z,(tokF (gtx gs 0 L++gapL e)).l=o++[z]∧(tokF (gtx gs 0 L++gapL e)).c=0∧o.map Tk.says=L.map Tk.says:=by
 have er:runesL (gtx gs 0 L++gapL e) 0=gtr gs 0 L++gapR e:=by
  rw [←gtr_text gs L 0 h,←gap_text,←textR_append]
  refine runesL_textR _ fun r hr=>?_
  rcases List.mem_append.1 hr with hr|hr
  ·exact gtr_okR gs L 0 r hr
  ·exact gap_okR e r hr
 unfold tokF refF
 rw [if_neg (by omega),er]
 generalize plc 1 1 (gtr gs 0 L++gapR e)=P
 have hd:(gtr gs 0 L++gapR e).drop 0=gtr gs 0 L++(gapR e++[]):=by rw [List.append_nil];rfl
 obtain ⟨o,ho,hr⟩:=gtr_reads gs e _ P [] L 0 0 [] h hd
 have d2:=drop_app hd
 obtain ⟨f',hf,e'⟩:=(hr.trans (.gap e d2)) ((gtr gs 0 L++gapR e).length+1) (by omega)
 rw [e']
 cases f' with
 |zero=>omega
 |succ f'=>
  rw [refGo_fin _ _ _ _ _ _ _ (List.getElem?_eq_none (by rw [List.length_append];omega))]
  exact ⟨o,_,rfl,rfl,ho⟩
open Go.Proofs
theorem lgap_spec (k:Nat) (hk:k<256):Sp Tryz.prog gl 19 [.int .u8 k] (.str (gapL k)):=by
 refine s19 rfl rfl ?_
 have w0:(k:Int).tmod 5=((k%5:Nat):Int):=rfl
 have hm:k%5<5:=Nat.mod_lt _ (by decide)
 unfold gapL
 generalize k%5=m at *
 have w1:IntKind.u8.wrap (m:Int)=m:=wrap_u8 (by omega) (by omega)
 have cs:m=0∨m=1∨m=2∨m=3∨m=4:=by omega
 rcases cs with rfl|rfl|rfl|rfl|rfl
 all_goals (simp -implicitDefEqProofs [c19,w0,w1])
open Go.Proofs
theorem dec_len20 (n:Nat) (h:n<18446744073709551616):(dec n).length≤20:=dec_len 19 n (by omega)
theorem frc_len (m:Nat): ∀(f x:Nat),(frc m f x).length≤f
 |0,x=>Nat.le_refl 0
 |f+1,x=>by
  rw [frc]
  split
  ·exact Nat.zero_le _
  ·rw [List.length_cons]
   have:=frc_len m f (x%m*10)
   omega
theorem tkP_len (x:Tk) (h:TkOk x) (hl:x.t.length≤500):(tkP x.k x.t x.n).length≤800:=by
 obtain ⟨k,s,n,ln,co⟩:=x
 obtain ⟨hk,hn,hr⟩:=h
 dsimp only at *
 unfold tkP
 rw [hr,if_neg (by decide)]
 by_cases c1:k=1
 ·rw [if_pos c1];omega
 rw [if_neg c1]
 by_cases c2:k=2
 ·rw [if_pos c2]
  subst c2
  obtain ⟨_,_,_,h3⟩:=tkP_quote s n hr
  have:=esL_len (runesL s 0)
  unfold quL
  rw [List.length_cons,List.length_append,List.length_singleton]
  omega
 rw [if_neg c2]
 by_cases c3:k=3
 ·rw [if_pos c3]
  have:=dec_len20 n hn
  omega
 rw [if_neg c3]
 by_cases c4:k=4
 ·rw [if_pos c4]
  unfold fcP
  have h1:=dec_len20 (n / 1000) (by omega)
  have h2:=frc_len 10 2 (n%1000%100)
  rw [List.length_append,List.length_cons,List.length_cons]
  omega
 rw [if_neg c4]
 by_cases c5:k=5
 ·rw [if_pos c5]
  unfold shP
  have h1:=dec_len20 (n / 10000) (by omega)
  have h2:=frc_len 1000 4 (n%10000)
  split
  ·simp
  ·rw [List.length_append,List.length_append,List.length_append,List.length_singleton]
   split
   ·rw [List.length_nil];omega
   ·rw [List.length_singleton];omega
 rw [if_neg c5]
 by_cases c6:k=6
 ·rw [if_pos c6]
  subst c6
  have h':((s==[])&&decide (n≤253402300799))=true:=hr
  rw [Bool.and_eq_true,decide_eq_true_iff] at h'
  unfold spP
  split
  ·simp
  ·have:=spG_len unL n h'.2
   have e:unL.length=5:=rfl
   omega
 rw [if_neg c6]
 repeat' split
 all_goals simp
theorem gapL_len (k:Nat):(gapL k).length≤9:=by
 unfold gapL
 repeat' split
 all_goals simp
theorem gtx_len (gs:List UInt8): ∀(L:List Tk) (i:Nat),(∀x∈L,TkOk x∧x.t.length≤500)→(gtx gs i L).length≤809*L.length
 |[],i,h=>Nat.zero_le _
 |x::L,i,h=>by
  have hx:=h x (by simp)
  have h1:=tkP_len x hx.1 hx.2
  have h2:=gapL_len (gk gs i)
  have h3:=gtx_len gs L (i+1) fun y hy=>h y (by simp [hy])
  rw [gtx,List.length_append,List.length_append,List.length_cons]
  omega
theorem gtx_snoc (gs:List UInt8) (L:List Tk) (i:Nat) (h:i<L.length):gtx gs 0 (L.take (i+1))=(gtx gs 0 (L.take i)++gapL (gk gs i))++tkP L[i].k L[i].t L[i].n:=by
 rw [List.take_succ_eq_append_getElem h,gtx_append,List.length_take,Nat.min_eq_left (by omega),Nat.zero_add,gtx,gtx,List.append_nil,List.append_assoc]
theorem tkR_kinds {k:Int} {s:List UInt8} {n:Nat} (h:tkR k s n=true) (h0:k≠0):1≤k∧k≤9:=by
 by_cases c:1≤k∧k≤9
 ·exact c
 ·unfold tkR at h
  rw [if_neg (by omega),if_neg (by omega),if_neg (by omega),if_neg (by omega),if_neg (by omega),if_neg (by omega)] at h
  cases h
open Go.Proofs
set_option maxHeartbeats 1000000 in
theorem sgaps_spec (L:List Tk) (gs:List UInt8) (hn: ∀x∈L,x.n<18446744073709551616) (hl:L.length≤9223372036854775807) (hg:gs.length≤9223372036854775807):Sp Tryz.prog gl 5 [.sl (L.map Tk.row),.sl (byteRows gs)] (.bool true):=by
 refine s5 rfl rfl ?_
 have AW:=awake13_spec
 obtain ⟨RR,hRR⟩: ∃RR,RR=L.map Tk.row:=⟨_,rfl⟩
 obtain ⟨GG,hGG⟩: ∃GG,GG=byteRows gs:=⟨_,rfl⟩
 have rl:RR.length=L.length:=by rw [hRR,List.length_map]
 have ra: ∀i (h:i<L.length) (h2:i<RR.length),RR[i]=[i6 L[i].k,.str L[i].t,u L[i].n,i6 L[i].ln,i6 L[i].co]:=fun i h h2=>by simp [hRR,Tk.row]
 have gl':GG.length=gs.length:=by rw [hGG];simp [byteRows]
 have ga: ∀i (h:i<gs.length) (h2:i<GG.length),GG[i]=[.int .u8 gs[i].toNat]:=fun i h h2=>by simp [hGG,byteRows]
 rw [←hRR,←hGG]
 clear hRR hGG
 by_cases c0:40<L.length
 ·have c0':(40:Int)<L.length:=by omega
  simp -implicitDefEqProofs [c5]
  refine onC_mk _ (AW) ?_
  simp -implicitDefEqProofs [rl,c0,c0']
 have c0': ¬(40:Int)<L.length:=by omega
 simp -implicitDefEqProofs [c5]
 refine onC_mk _ (AW) ?_
 simp -implicitDefEqProofs [rl,c0,c0']
 refine wp_lpk (α:=Nat) (fun i=>⟨[(0,.sl RR),(1,.sl GG),(5,.str (gtx gs 0 (L.take i))),(6,i6 i)],[],[]⟩) (fun i=>i≤L.length∧ ∀x∈L.take i,TkOk x∧x.t.length≤500) (fun i=>L.length - i) ?_ 0 ?_ ?_
 ·rintro K i hK ⟨h1,h2⟩
  have sl:=gtx_len gs (L.take i) 0 h2
  rw [List.length_take] at sl
  have t1:IntKind.i64.wrap ((i:Int)+1)=(i+1:Nat):=by rw [wrap_i64]<;>omega
  by_cases g:i<L.length
  ·have g':(i:Int)<L.length:=by omega
   have gR:i<RR.length:=by omega
   have rai:=ra i g gR
   by_cases c1:500<L[i].t.length
   ·have c1':(500:Int)<L[i].t.length:=by omega
    clear hK
    simp -implicitDefEqProofs [g,g',gR,rai,rl,c1,c1']
   have c1': ¬(500:Int)<L[i].t.length:=by omega
   have ni:=hn L[i] (List.getElem_mem g)
   have RG:=rright_spec L[i].k L[i].t L[i].n L[i].ln L[i].co (by omega)
   unfold tkA at RG
   cases hr:tkR L[i].k L[i].t L[i].n with
   |false=>
    rw [hr] at RG
    clear hK
    simp -implicitDefEqProofs [g,g',gR,rai,rl,c1,c1']
    refine onC_mk _ (RG) ?_
    simp -implicitDefEqProofs
   |true=>
    rw [hr] at RG
    by_cases c3:L[i].k=0
    ·have c3':(L[i].k==0)=true:=by rw [c3];rfl
     clear hK
     simp -implicitDefEqProofs [g,g',gR,rai,rl,c1,c1']
     refine onC_mk _ (RG) ?_
     simp -implicitDefEqProofs [g,g',gR,rai,rl,c3,c3']
    have c3':(L[i].k==0)=false:=beq_eq_false_iff_ne.2 c3
    have ok:TkOk L[i]:=⟨tkR_kinds hr c3,ni,hr⟩
    have fin: ∀σ',Weak σ' ⟨[(0,.sl RR),(1,.sl GG),(5,.str (gtx gs 0 (L.take (i+1)))),(6,i6 (i+1:Nat))],[],[]⟩→K σ':=fun σ' hσ=>hK (i+1) σ' ⟨by omega,fun x hx=>by
     rw [List.take_succ_eq_append_getElem g,List.mem_append,List.mem_singleton] at hx
     rcases hx with hx|rfl
     ·exact h2 x hx
     ·exact ⟨ok,by omega⟩⟩ (by omega) hσ
    rw [gtx_snoc gs L i g] at fin
    have PR:=rprt_spec L[i].k L[i].t L[i].n L[i].ln L[i].co (by omega) ni
    unfold tkA at PR
    have pl:=tkP_len L[i] ok (by omega)
    have gpl:=gapL_len (gk gs i)
    have GP:=lgap_spec (gk gs i) (by
     unfold gk
     split
     ·decide
     ·exact UInt8.toNat_lt _)
    clear hK hr
    by_cases c4:gs=[]
    ·have e:gk gs i=0:=by unfold gk;rw [if_pos c4]
     have c5: ¬(0:Int)<gs.length:=by rw [c4];decide
     have c6: ¬0<gs.length:=by omega
     have c7:gs.length=0:=by omega
     rw [e] at GP fin gpl
     generalize gtx gs 0 (L.take i)=S at *
     generalize tkP L[i].k L[i].t L[i].n=T at *
     generalize gapL 0=G at *
     have a1:S.length+G.length≤9223372036854775807:=by omega
     have a2:S.length+G.length+T.length≤9223372036854775807:=by omega
     simp -implicitDefEqProofs [g,g',gR,rai,rl,c1,c1']
     refine onC_mk _ (RG) ?_
     simp -implicitDefEqProofs [g,g',gR,rai,rl,c3,c3',gl',c5,c6,c7]
     refine onC_mk _ (GP) ?_
     simp -implicitDefEqProofs [g,g',gR,rai,rl,a1,a2]
     refine onC_mk _ (PR) ?_
     simp -implicitDefEqProofs [a1,a2]
     refine fin _ ?_
     refine weak_mk ?_ ?_ ?_ ?_ ?_ ?_<;>simp -implicitDefEqProofs [t1]
    ·have c6:0<gs.length:=List.length_pos_iff.2 c4
     have c5:(0:Int)<gs.length:=by omega
     have c7: ¬gs.length=0:=by omega
     have c8:i%gs.length<gs.length:=Nat.mod_lt _ c6
     have c9:i%gs.length<GG.length:=by omega
     have w0:(i:Int).tmod (gs.length:Int)=((i%gs.length:Nat):Int):=rfl
     have gi:=ga _ c8 c9
     have e:gk gs i=gs[i%gs.length].toNat:=by
      unfold gk
      rw [if_neg c4,List.getD,List.getElem?_eq_getElem c8]
      rfl
     rw [e] at GP fin gpl
     have c10:((gs.length:Nat):Int)≠0:=by omega
     generalize gtx gs 0 (L.take i)=S at *
     generalize tkP L[i].k L[i].t L[i].n=T at *
     generalize gapL gs[i%gs.length].toNat=G at *
     have a1:S.length+G.length≤9223372036854775807:=by omega
     have a2:S.length+G.length+T.length≤9223372036854775807:=by omega
     generalize i%gs.length=q at *
     have w1:IntKind.i64.wrap (q:Int)=q:=by rw [wrap_i64]<;>omega
     simp -implicitDefEqProofs [g,g',gR,rai,rl,c1,c1']
     refine onC_mk _ (RG) ?_
     simp -implicitDefEqProofs [g,g',gR,rai,rl,c3,c3',gl',c5,c6,c7,c10,w0,w1,c8,c9,gi]
     refine onC_mk _ (GP) ?_
     simp -implicitDefEqProofs [g,g',gR,rai,rl,a1,a2]
     refine onC_mk _ (PR) ?_
     simp -implicitDefEqProofs [a1,a2]
     refine fin _ ?_
     refine weak_mk ?_ ?_ ?_ ?_ ?_ ?_<;>simp -implicitDefEqProofs [t1]
  ·have ie:i=L.length:=by omega
   have g': ¬(i:Int)<L.length:=by omega
   subst ie
   rw [List.take_length] at h2 sl
   have wL:IntKind.u8.wrap (L.length:Int)=L.length:=wrap_u8 (by omega) (by omega)
   have GP:=lgap_spec L.length (by omega)
   have gpl:=gapL_len L.length
   obtain ⟨o,z,LW1,LW2,LW3⟩:=gaps_law gs L.length L (fun x hx=>(h2 x hx).1) (by rw [List.length_append];omega)
   have TK:=stok_spec (gtx gs 0 L++gapL L.length)
   clear hK
   rw [List.take_length]
   have sl':(gtx gs 0 L).length≤32360:=by omega
   have b1: ¬(39000:Int)<((gtx gs 0 L).length:Int):=by omega
   have b2: ¬39000<(gtx gs 0 L).length:=by omega
   have a1:(gtx gs 0 L).length+(gapL L.length).length≤9223372036854775807:=by omega
   generalize gtx gs 0 L=S at *
   generalize gapL L.length=G at *
   generalize tokF (S++G)=x at *
   obtain ⟨xl,xc,xa,xb⟩:=x
   dsimp only at LW1 LW2
   subst LW1 LW2
   have ol:o.length=L.length:=by
    have:=congrArg List.length LW3
    rwa [List.length_map,List.length_map] at this
   unfold TR.av at TK
   dsimp only at TK
   obtain ⟨MM,hMM⟩: ∃MM,MM=(o++[z]).map Tk.row:=⟨_,rfl⟩
   have ml:MM.length=L.length+1:=by rw [hMM,List.length_map,List.length_append,List.length_singleton,ol]
   have ma: ∀j (h:j<L.length) (h2:j<MM.length),∃a b,MM[j]=[i6 L[j].k,.str L[j].t,u L[j].n,i6 a,i6 b]:=fun j h h2=>by
    have ho:j<o.length:=by omega
    have e:MM[j]=o[j].row:=by
     simp only [hMM,List.getElem_map,List.getElem_append_left ho]
    have e2:o[j].says=L[j].says:=by
     have:=congrArg (fun q=>q[j]?) LW3
     simp only [List.getElem?_map,List.getElem?_eq_getElem ho,List.getElem?_eq_getElem h,Option.map_some,Option.some.injEq] at this
     exact this
    unfold Tk.says at e2
    injection e2 with q1 q2
    injection q2 with q2 q3
    refine ⟨o[j].ln,o[j].co,?_⟩
    rw [e,Tk.row,q1,q2,q3]
   rw [←hMM] at TK
   clear hMM LW3
   have wl1:IntKind.i64.wrap ((L.length:Int)+1)=(L.length+1:Nat):=by rw [wrap_i64]<;>omega
   have wl2:(((L.length+1:Nat):Int)!=((L.length+1:Nat):Int))=false:=by simp
   simp -implicitDefEqProofs [g',rl,wL]
   refine onC_mk _ (GP) ?_
   simp -implicitDefEqProofs [a1]
   refine onC_mk _ (TK) ?_
   simp -implicitDefEqProofs [b1,b2,rl,ml,wl1,wl2]
   refine wp_lpk (α:=Nat) (fun j=>⟨[(0,.sl RR),(8,.sl MM),(10,i6 j)],[],[]⟩) (fun j=>j≤L.length) (fun j=>L.length - j) ?_ 0 ?_ ?_
   ·rintro K j hK hj
    by_cases q:j<L.length
    ·have q':(j:Int)<L.length:=by omega
     have t2:IntKind.i64.wrap ((j:Int)+1)=(j+1:Nat):=by rw [wrap_i64]<;>omega
     have qR:j<RR.length:=by omega
     have qM:j<MM.length:=by omega
     have qM1:j<L.length+1:=by omega
     have raj:=ra j q qR
     obtain ⟨a,b,maj⟩:=ma j q qM
     have fin: ∀σ',Weak σ' ⟨[(0,.sl RR),(8,.sl MM),(10,i6 (j+1:Nat))],[],[]⟩→K σ':=fun σ' hσ=>hK (j+1) σ' (by omega) (by omega) hσ
     clear hK
     simp -implicitDefEqProofs [q,q',qR,qM,qM1,raj,maj,rl,ml]
     refine fin _ ?_
     refine weak_mk ?_ ?_ ?_ ?_ ?_ ?_<;>simp -implicitDefEqProofs [t2]
    ·have q': ¬(j:Int)<L.length:=by omega
     clear hK
     simp -implicitDefEqProofs [q,q',rl]
   ·exact Nat.zero_le _
   ·refine weak_mk ?_ ?_ ?_ ?_ ?_ ?_<;>simp -implicitDefEqProofs
 ·exact ⟨Nat.zero_le _,fun x hx=>by simp at hx⟩
 ·refine weak_mk ?_ ?_ ?_ ?_ ?_ ?_<;>simp -implicitDefEqProofs [gtx]
end Go.Ai
namespace Go.Ai
open Go.Proofs Go.Lib
set_option maxRecDepth 100000
def accCells:List Value:=(List.range 32).map fun o=>Value.int .u8 (if o%2=0 then (accLo (o / 2):Int) else (accHi (o / 2):Int))
def firstCells:List Value:=firstTab.map fun z=>Value.int .u8 z
theorem first_cell {W:World} (h:VarReads Tryz.prog W "unicode/utf8.first" firstData) (o:Nat) (u:Value) (hu:firstCells[o]?=some u):W.cell? ⟨0,o,none⟩=some u∧u.oneCell'=true:=by
 have hg0:Tryz.prog.globalNamed "unicode/utf8.first"=some 0:=by kernel_rfl
 have ht0:(Tryz.prog.globals[0]?).map (·.type)=some 239:=by kernel_rfl
 obtain ⟨g,t,cs,fuel,p,hg,hty,hvar,hd⟩:=h
 obtain rfl:=Option.some.inj (hg0.symm.trans hg)
 obtain rfl:=Option.some.inj (ht0.symm.trans hty)
 have hcs:=cells_of_tab (t:=239) (e:=5) (n:=256) (by kernel_rfl) (by kernel_rfl) (by kernel_rfl) (by kernel_rfl) hd
 refine ⟨?_,?_⟩
 ·rw [World.var?_cell hg hvar o,←Array.getElem?_toList,hcs]
  exact hu
 ·obtain ⟨z,_,rfl⟩:=List.mem_map.1 (List.mem_of_getElem? hu)
  rfl
theorem acc_cell {W:World} (h:VarReads Tryz.prog W "unicode/utf8.acceptRanges" acceptData) (o:Nat) (u:Value) (hu:accCells[o]?=some u):W.cell? ⟨1,o,none⟩=some u∧u.oneCell'=true:=by
 have hg0:Tryz.prog.globalNamed "unicode/utf8.acceptRanges"=some 1:=by kernel_rfl
 have ht0:(Tryz.prog.globals[1]?).map (·.type)=some 242:=by kernel_rfl
 have hc0:Tryz.prog.cellsOf 241=2:=by kernel_rfl
 obtain ⟨g,t,cs,fuel,p,hg,hty,hvar,hd⟩:=h
 obtain rfl:=Option.some.inj (hg0.symm.trans hg)
 obtain rfl:=Option.some.inj (ht0.symm.trans hty)
 have ho:o<32:=by have:=(List.getElem?_eq_some_iff.1 hu).1;simpa [accCells] using this
 simp only [accCells,List.getElem?_map,List.getElem?_range ho,Option.map_some,Option.some.injEq] at hu
 subst hu
 refine ⟨?_,by split<;>rfl⟩
 have hi:o / 2<16:=by omega
 obtain ⟨fuel',d,q,hdi,he⟩:=array_elem (t:=242) (e:=241) (n:=16) (by kernel_rfl) hd (o / 2) hi
 simp only [List.getElem?_map,List.getElem?_range hi,Option.map_some,Option.some.injEq] at hdi
 subst hdi
 rw [hc0] at he
 obtain ⟨fs,hfs,hsz,hf⟩: ∃fs:Array Field,Tryz.prog.underlying 241=some (.struct fs)∧fs.size=2∧ ∀(i:Nat) (f:Field),fs[i]?=some f→Tryz.prog.underlying f.type=some (.int .u8)∧f.offset=i∧Tryz.prog.cellsOf f.type=1:=by
  refine ⟨_,(by kernel_rfl:Tryz.prog.underlying 241=some (.struct #[Field.mk "lo" 5 0 false "" "unicode/utf8" 0,Field.mk "hi" 5 1 false "" "unicode/utf8" 1])),rfl,fun j f hj=>?_⟩
  match j,hj with
  |0,hj=>simp at hj;subst hj;exact ⟨by kernel_rfl,rfl,by kernel_rfl⟩
  |1,hj=>simp at hj;subst hj;exact ⟨by kernel_rfl,rfl,by kernel_rfl⟩
  |j+2,hj=>simp at hj
 have hcs:=ints_of_struct hfs hf (by rw [hc0,hsz]) he
 have e0:=congrArg (·[0]?) hcs
 have e1:=congrArg (·[1]?) hcs
 simp only [List.getElem?_take,List.getElem?_drop] at e0 e1
 rw [World.var?_cell hg hvar o,←Array.getElem?_toList]
 by_cases hp:o%2=0
 ·rw [if_pos hp]
  have eo:o / 2*2+0=o:=by omega
  rw [eo] at e0
  simpa using e0
 ·rw [if_neg hp]
  have eo:o / 2*2+1=o:=by omega
  rw [eo] at e1
  simpa using e1
end Go.Ai
