/- P16: a part of the proof: the rules, or what functions compute. Conditions: as each theorem says. -/
import Derived.Test.YtpaipepdakekbaaGreatDoorP15
set_option linter.unusedSimpArgs false
set_option linter.unusedVariables false
set_option maxRecDepth 20000
namespace Go.Ai
open Go.Proofs
theorem tokF_src {s:List UInt8} (h:(tokF s).c=0):Src (tokF s).l:=⟨tokF_out h⟩
theorem parse_no (s:List UInt8) (h:(tokF s).c=0):pL (2*(tokF s).l.length+3) 1 0 [] (tokF s).l 0≠ .no:=by
 have:=(p_fwd (2*(tokF s).l.length+3)).1 1 0 [] _ 0 (tokF_src h) (by omega) (.inl rfl)
 intro e
 rw [e] at this
 exact this
theorem tparse_spec (s:List UInt8):Sp Tryz.prog gl 8 [.str s] (parseV (parseF s)):=parse_any s (parse_no s)
structure ParsedT (s:List UInt8) (its:List It):Prop where
 c:(tokF s).c=0
 h: ∃T z,(tokF s).l=T++[z]∧endTk z∧T.map unpl=toksL its∧(∀t∈T,OkTk t)
 wf:wfL its
 dep:its=[]∨depL its≤4
 cnt:cntL its≤300
 p: ∃T z n,pL (2*(tokF s).l.length+3) 1 0 [] (tokF s).l 0= .ok its T z∧n=z
theorem parse_fwd (s:List UInt8):(parseF s).2.1≠0∧(parseF s).1=[]∨(parseF s).2=(0,0,0)∧ParsedT s (parseF s).1:=by
 unfold parseF
 by_cases h:(tokF s).c=0
 ·rw [if_neg (by simpa using h)]
  have hs:=tokF_src h
  have hf:=(p_fwd (2*(tokF s).l.length+3)).1 1 0 [] _ 0 hs (by omega) (.inl rfl)
  have hc:=(p_cnt (2*(tokF s).l.length+3)).1 1 0 [] (tokF s).l 0
  cases hp:pL (2*(tokF s).l.length+3) 1 0 [] (tokF s).l 0 with
  |no=>rw [hp] at hf;exact hf.elim
  |th c t l n=>
   rw [hp] at hf
   exact .inl ⟨hf,rfl⟩
  |ok o l' n'=>
   rw [hp] at hf
   dsimp only
   obtain ⟨its,T,t,r,e1,e2,k,nx,s2,tk,n1,dd,ww⟩:=hf
   rw [List.nil_append] at e1
   subst e1
   have hc:=hc _ _ _ hp (by decide) (Nat.le_refl _)
   rcases s2.cons with ⟨rfl,hz,_⟩|⟨ht,_,_⟩
   ·refine .inr ⟨rfl,h,⟨T,t,e2,hz,tk,?_⟩,ww,?_,by omega,⟨l',n',n',hp,rfl⟩⟩
    ·obtain ⟨o2,z2,e3,h3,_⟩:=hs.h
     rw [e2] at e3
     have:=List.append_inj_left' e3 rfl
     rw [this]
     exact h3
    ·rcases dd with h|h
     ·exact .inl h
     ·exact .inr (by omega)
   ·have:=ht.k;omega
 ·rw [if_pos h]
  exact .inl ⟨h,rfl⟩
def exT:List UInt8:=[114,117,108,101,32,97,32,112,97,103,101,32,123,32,102,111,114,32,50,109,59,32,125]
def exTL:List Int:=[114,117,108,101,32,97,32,112,97,103,101,32,123,32,102,111,114,32,50,109,59,32,125]
set_option maxRecDepth 100000 in
theorem exTL_runes:runesL exT 0=exTL:=by
 have h:textR exTL=exT:=by decide
 rw [←h]
 refine runesL_textR exTL (fun r hr=>?_)
 unfold okR
 simp [exTL] at hr
 omega
theorem refGo_sym (VR:List Int→TV) (U:List UInt8→List UInt8×Int) (l:List Int) (P:List (Int×Int)) (f k:Nat) (out:List Tk) {r kk:Int} (h:l[k]?=some r) (hr: ¬(r=32∨r=9∨r=10)∧r≠35) (ho:oneF VR U l k r=⟨kk,[],0,k+1,0⟩):
  refGo VR U l P (f+1) k out=refGo VR U l P f (k+1) (out++[⟨kk,[],0,(P.getD k (0,0)).1,(P.getD k (0,0)).2⟩]):=by
 rw [refGo,h]
 dsimp only
 rw [if_neg hr.1,if_neg hr.2,ho,if_pos rfl]
theorem rV_name (m:List Int) (s:List UInt8) (h:textR m=s) (hk:m.all (fun r=>decide (0≤r∧r<128))=true) (hd:digR (m.headD 0)=false) (hn:nameGo 0 32 m=true):rV m= .t 1 s 0:=by
 have hr:runesL s 0=m:=by
  rw [←h]
  refine runesL_textR m fun r hr=>?_
  have:=of_decide_eq_true (List.all_eq_true.1 hk r hr)
  unfold okR
  omega
 unfold rV
 rw [if_pos (Or.inr hd),h]
 unfold nameT
 rw [hr,hn]
 rfl
set_option maxRecDepth 100000 in
theorem tok_exT:tokF exT=⟨[⟨1,[114,117,108,101],0,1,1⟩,⟨1,[97],0,1,6⟩,⟨1,[112,97,103,101],0,1,8⟩,⟨7,[],0,1,13⟩,⟨1,[102,111,114],0,1,15⟩,⟨6,[],120,1,19⟩,⟨9,[],0,1,21⟩,⟨8,[],0,1,23⟩,⟨0,[],0,1,24⟩],0,0,0⟩:=by
 unfold tokF refF
 rw [if_neg (by decide),exTL_runes]
 refine (refGo_word rV sU exTL _ 23 0 [] (r:=114) (e:=4) (kk:=1) (w:=[114,117,108,101]) (n:=0) rfl (by decide) (by decide) (rV_name _ _ (by decide) (by decide) (by decide) (by decide))).trans ?_
 refine (refGo_gap rV sU exTL _ 22 4 _ rfl).trans ?_
 refine (refGo_word rV sU exTL _ 21 5 _ (r:=97) (e:=6) (kk:=1) (w:=[97]) (n:=0) rfl (by decide) (by decide) (rV_name _ _ (by decide) (by decide) (by decide) (by decide))).trans ?_
 refine (refGo_gap rV sU exTL _ 20 6 _ rfl).trans ?_
 refine (refGo_word rV sU exTL _ 19 7 _ (r:=112) (e:=11) (kk:=1) (w:=[112,97,103,101]) (n:=0) rfl (by decide) (by decide) (rV_name _ _ (by decide) (by decide) (by decide) (by decide))).trans ?_
 refine (refGo_gap rV sU exTL _ 18 11 _ rfl).trans ?_
 refine (refGo_sym rV sU exTL _ 17 12 _ (r:=123) (kk:=7) rfl (by decide) rfl).trans ?_
 refine (refGo_gap rV sU exTL _ 16 13 _ rfl).trans ?_
 refine (refGo_word rV sU exTL _ 15 14 _ (r:=102) (e:=17) (kk:=1) (w:=[102,111,114]) (n:=0) rfl (by decide) (by decide) (rV_name _ _ (by decide) (by decide) (by decide) (by decide))).trans ?_
 refine (refGo_gap rV sU exTL _ 14 17 _ rfl).trans ?_
 refine (refGo_word rV sU exTL _ 13 18 _ (r:=50) (e:=20) (kk:=6) (w:=[]) (n:=120) rfl (by decide) (by decide) (by rfl)).trans ?_
 refine (refGo_sym rV sU exTL _ 12 20 _ (r:=59) (kk:=9) rfl (by decide) rfl).trans ?_
 refine (refGo_gap rV sU exTL _ 11 21 _ rfl).trans ?_
 refine (refGo_sym rV sU exTL _ 10 22 _ (r:=125) (kk:=8) rfl (by decide) rfl).trans ?_
 refine (refGo_fin rV sU exTL _ 9 23 _ rfl).trans ?_
 rfl
set_option maxRecDepth 100000 in
theorem parse_exT:parseF exT=([.mk [114,117,108,101] [⟨1,[97],0,1,6⟩,⟨1,[112,97,103,101],0,1,8⟩] true [.mk [102,111,114] [⟨6,[],120,1,19⟩] false [] 1 15] 1 1],0,0,0):=by
 unfold parseF
 rw [tok_exT]
 rfl
set_option maxHeartbeats 1000000 in
theorem awake14_spec:Sp Tryz.prog gl 7 [] (.bool true):=by
 refine s7 rfl rfl ?_
 have T:=tparse_spec exT
 rw [parse_exT] at T
 unfold exT parseV at T
 simp only [itRows,It.row,List.map_cons,List.map_nil,Tk.row] at T
 simp -implicitDefEqProofs [c7]
 refine onC_mk _ (T) ?_
 simp -implicitDefEqProofs
open Go.Proofs
theorem itRows_at: ∀(L:List It) (i:Nat) (h:i<L.length) (h2:i<(itRows L).length),(itRows L)[i]=L[i].row
 |x::L,0,h,h2=>rfl
 |x::L,i+1,h,h2=>by
  simp only [itRows,List.getElem_cons_succ]
  exact itRows_at L i _ _
theorem cnt_mem: ∀ {L:List It} {x:It},x∈L→cntI x≤cntL L
 |y::L,x,h=>by
  rw [cntL]
  rcases List.mem_cons.1 h with rfl|h
  ·omega
  ·have:=cnt_mem h;omega
theorem wf_mem: ∀ {L:List It} {x:It},wfL L→x∈L→wfI x
 |y::L,x,hw,h=>by
  rw [wfL] at hw
  rcases List.mem_cons.1 h with rfl|h
  ·exact hw.1
  ·exact wf_mem hw.2 h
theorem cntL_take (L:List It) (i:Nat):cntL (L.take i)≤cntL L:=by
 have:=cntL_app (L.take i) (L.drop i)
 rw [List.take_append_drop] at this
 omega
theorem len_cnt: ∀L:List It,L.length≤cntL L
 |[]=>Nat.zero_le _
 | .mk n ws b ks ln co::L=>by
  have:=len_cnt L
  rw [cntL,cntI,List.length_cons]
  omega
end Go.Ai
namespace Go.Ai
theorem conts_stop {a b:List UInt8} {i j m:Nat} (h: ∀q,q<m→byt a (i+q)=byt b (j+q)) (hm:1≤m) (ha:byt a (i+m)<128) (hb:byt b (j+m)<128) (n r0 l:Nat):stepF a i n r0 l=stepF b j n r0 l:=by
 unfold stepF
 by_cases c:n<m
 ·rw [conts_ext (a:=a) (b:=b) (i:=i) (j:=j) n (fun q _ h2=>h q (by omega)),rv_ext (a:=a) (b:=b) (i:=i) (j:=j) r0 n (fun q _ h2=>h q (by omega))]
 ·have c1:cont b (j+m)=false:=by unfold cont;exact decide_eq_false (by omega)
  have c2:cont a (i+m)=false:=by unfold cont;exact decide_eq_false (by omega)
  rw [conts_false m hm c2 n (by omega),conts_false m hm c1 n (by omega)]
  rfl
theorem stepR_stop {a b:List UInt8} {i j m:Nat} (h: ∀q,q<m→byt a (i+q)=byt b (j+q)) (hm:1≤m) (ha:byt a (i+m)<128) (hb:byt b (j+m)<128):stepR a i=stepR b j:=by
 have e:=h 0 (by omega)
 rw [Nat.add_zero,Nat.add_zero] at e
 unfold stepR
 simp only [e]
 simp only [conts_stop h hm ha hb]
theorem runes_cons (c:UInt8) (Y:List UInt8) (h:c.toNat<128):runesL (c::Y) 0=(c.toNat:Int)::runesL Y 0:=by
 have h0:0<(c::Y).length:=by simp
 have b0:byt (c::Y) 0=c.toNat:=rfl
 have e:stepR (c::Y) 0=((c.toNat:Int),1):=by
  unfold stepR
  simp only [b0]
  rw [if_pos h]
 rw [runesL_in h0,e]
 have:=runesL_app [c] Y Y.length 0 (by omega)
 exact congrArg _ this
theorem runes_cat (X Y:List UInt8) (c:UInt8) (h:c.toNat<128):runesL (X++c::Y) 0=runesL X 0++((c.toNat:Int)::runesL Y 0):=by
 have key: ∀n i,X.length - i≤n→i≤X.length→runesL (X++c::Y) i=runesL X i++((c.toNat:Int)::runesL Y 0):=by
  have fin:runesL (X++c::Y) X.length=(c.toNat:Int)::runesL Y 0:=by
   have:=runesL_app X (c::Y) (c::Y).length 0 (by omega)
   rw [Nat.add_zero] at this
   rw [this,runes_cons c Y h]
  intro n
  induction n with
  |zero=>
   intro i h1 h2
   obtain rfl:i=X.length:=by omega
   rw [fin,runesL_out (s:=X) (by omega),List.nil_append]
  |succ n ih=>
   intro i h1 h2
   by_cases g:i<X.length
   ·have g2:i<(X++c::Y).length:=by rw [List.length_append];omega
    have e:stepR (X++c::Y) i=stepR X i:=by
     refine stepR_stop (m:=X.length - i) (fun q hq=>?_) (by omega) ?_ ?_
     ·unfold byt
      rw [List.getElem?_append_left (by omega)]
     ·have:byt (X++c::Y) (X.length+0)=byt (c::Y) 0:=byt_app X (c::Y) 0
      rw [show i+(X.length - i)=X.length+0 by omega,this]
      exact h
     ·rw [byt_out (by omega)]
      decide
    have p:=stepR_pos X i
    have q:=stepR_le X i g
    rw [runesL_in g,runesL_in g2,e,ih (i+(stepR X i).2) (by omega) q]
    rfl
   ·obtain rfl:i=X.length:=by omega
    rw [fin,runesL_out (s:=X) (by omega),List.nil_append]
 exact key X.length 0 (by omega) (Nat.zero_le _)
structure InL (A l:List Int) (m:Nat):Prop where
 h: ∀q,q<A.length→l[m+q]?=A[q]?
 n:l[m+A.length]?=some 10∨l[m+A.length]?=none
theorem InL.at {A l:List Int} {m:Nat} (h:InL A l m) {i:Nat} (hi:i<A.length): ∃g:m+i<l.length,l[m+i]=A[i]:=by
 have:=h.h i hi
 rw [List.getElem?_eq_getElem hi] at this
 exact List.getElem?_eq_some_iff.1 this
theorem InL.fin {A l:List Int} {m:Nat} (h:InL A l m):(∃g:m+A.length<l.length,l[m+A.length]=10)∨ ¬m+A.length<l.length:=h.n.imp (fun h=>List.getElem?_eq_some_iff.1 h) (fun h=>by have:=List.getElem?_eq_none_iff.1 h;omega)
theorem skp_inL {A l:List Int} {m:Nat} (h:InL A l m): ∀(n i:Nat),A.length - i≤n→i≤A.length→skp l (m+i)=m+skp A i:=by
 have fin:skp l (m+A.length)=m+A.length:=by
  rcases h.fin with ⟨g,e⟩|g
  ·rw [skp_in g,if_pos e]
  ·exact skp_out g
 intro n
 induction n with
 |zero=>
  intro i h1 h2
  obtain rfl:i=A.length:=by omega
  rw [fin,skp_out (l:=A) (by omega)]
 |succ n ih=>
  intro i h1 h2
  by_cases g:i<A.length
  ·obtain ⟨g2,e⟩:=h.at g
   rw [skp_in g,skp_in g2,e]
   split
   ·rfl
   ·exact ih (i+1) (by omega) (by omega)
  ·obtain rfl:i=A.length:=by omega
   rw [fin,skp_out (l:=A) (by omega)]
theorem wEnd_inL {A l:List Int} {m:Nat} (h:InL A l m): ∀(n i:Nat),A.length - i≤n→i≤A.length→wEnd l (m+i)=m+wEnd A i:=by
 have fin:wEnd l (m+A.length)=m+A.length:=by
  rcases h.fin with ⟨g,e⟩|g
  ·rw [wEnd_in g,e,if_neg (by decide)]
  ·exact wEnd_out g
 intro n
 induction n with
 |zero=>
  intro i h1 h2
  obtain rfl:i=A.length:=by omega
  rw [fin,wEnd_out (l:=A) (by omega)]
 |succ n ih=>
  intro i h1 h2
  by_cases g:i<A.length
  ·obtain ⟨g2,e⟩:=h.at g
   rw [wEnd_in g,wEnd_in g2,e]
   split
   ·exact ih (i+1) (by omega) (by omega)
   ·rfl
  ·obtain rfl:i=A.length:=by omega
   rw [fin,wEnd_out (l:=A) (by omega)]
theorem qGo_inL {A l:List Int} {m:Nat} (h:InL A l m): ∀(n i:Nat),A.length - i≤n→qGo A i≠0→qGo l (m+i)=m+qGo A i:=by
 intro n
 induction n with
 |zero=>
  intro i h1 h2
  exact absurd (qGo_out (by omega)) h2
 |succ n ih=>
  intro i h1 h2
  by_cases g:i<A.length
  ·obtain ⟨g2,e⟩:=h.at g
   rw [qGo_in g] at h2 ⊢
   rw [qGo_in g2,e]
   by_cases c1:A[i]=10
   ·rw [if_pos c1] at h2;exact absurd rfl h2
   rw [if_neg c1] at h2 ⊢
   rw [if_neg c1]
   by_cases c2:A[i]=34
   ·rw [if_pos c2,if_pos c2,Nat.add_assoc]
   rw [if_neg c2] at h2 ⊢
   rw [if_neg c2]
   by_cases c3:A[i]=92
   ·rw [if_pos c3] at h2 ⊢
    rw [if_pos c3]
    by_cases c4:A[i+1]?=some 10
    ·rw [if_pos c4] at h2;exact absurd rfl h2
    rw [if_neg c4] at h2 ⊢
    by_cases g3:i+1<A.length
    ·have e1:=h.h (i+1) g3
     rw [Nat.add_assoc,e1,if_neg c4]
     exact ih (i+2) (by omega) h2
    ·exact absurd (qGo_out (by omega)) h2
   ·rw [if_neg c3] at h2 ⊢
    rw [if_neg c3]
    exact ih (i+1) (by omega) h2
  ·exact absurd (qGo_out g) h2
theorem subR_inL {A l:List Int} {m:Nat} (h:InL A l m) (i e:Nat) (he:e≤A.length):subR l (m+i) (m+e)=subR A i e:=by
 unfold subR
 apply List.ext_getElem?
 intro q
 rw [List.getElem?_drop,List.getElem?_drop,List.getElem?_take,List.getElem?_take]
 by_cases c:i+q<e
 ·rw [if_pos (by omega),if_pos c,Nat.add_assoc]
  exact h.h (i+q) (by omega)
 ·rw [if_neg (by omega),if_neg c]
end Go.Ai
namespace Go.Ai
def tsay (x:Tk):Int×List UInt8×Nat:=(x.k,x.t,x.n)
theorem oneF_inL {A l:List Int} {m:Nat} (h:InL A l m) {i:Nat} (hi:i<A.length) (r:Int) (hr:A[i]=r) (hc:(oneF rV sU A i r).c=0):
  oneF rV sU l (m+i) r=⟨(oneF rV sU A i r).k,(oneF rV sU A i r).w,(oneF rV sU A i r).n,m+(oneF rV sU A i r).en,0⟩:=by
 unfold oneF at hc ⊢
 by_cases c1:r=123
 ·rw [if_pos c1,if_pos c1,Nat.add_assoc]
 rw [if_neg c1] at hc ⊢
 rw [if_neg c1]
 by_cases c2:r=125
 ·rw [if_pos c2,if_pos c2,Nat.add_assoc]
 rw [if_neg c2] at hc ⊢
 rw [if_neg c2]
 by_cases c3:r=59
 ·rw [if_pos c3,if_pos c3,Nat.add_assoc]
 rw [if_neg c3] at hc ⊢
 rw [if_neg c3]
 by_cases c4:r=34
 ·rw [if_pos c4] at hc ⊢
  rw [if_pos c4]
  by_cases c5:qGo A (i+1)=0
  ·rw [if_pos c5] at hc;exact absurd hc (by decide)
  ·rw [if_neg c5] at hc ⊢
   have q:=qGo_inL h A.length (i+1) (by omega) c5
   have ql:=qGo_le A A.length (i+1) (by omega)
   rw [Nat.add_assoc,q,if_neg (by omega),subR_inL h i _ (by omega)]
   dsimp only at hc ⊢
   rw [hc]
 rw [if_neg c4] at hc ⊢
 rw [if_neg c4]
 by_cases c5:wthn r=true
 ·rw [if_pos c5] at hc ⊢
  rw [if_pos c5]
  have w:=wEnd_inL h A.length i (by omega) (by omega)
  have wl:=wEnd_le A A.length i (by omega) (by omega)
  rw [w,subR_inL h i _ wl.2]
  generalize rV (subR A i (wEnd A i))=v at *
  cases v with
  |e c=>
   unfold TV.on at hc
   dsimp only at hc
   subst hc
   rfl
  |t k w n=>rfl
 ·rw [if_neg c5] at hc;exact absurd hc (by decide)
def Rds (l:List Int) (P:List (Int×Int)) (j e:Nat) (out out':List Tk):Prop:= ∀f,l.length - j<f→ ∃f',l.length - e<f'∧refGo rV sU l P f j out=refGo rV sU l P f' e out'
theorem Rds.refl (l:List Int) (P:List (Int×Int)) (j:Nat) (out:List Tk):Rds l P j j out out:=fun f h=>⟨f,h,rfl⟩
theorem Rds.trans {l:List Int} {P:List (Int×Int)} {j e g:Nat} {o1 o2 o3:List Tk} (h1:Rds l P j e o1 o2) (h2:Rds l P e g o2 o3):Rds l P j g o1 o3:=fun f h=>by
 obtain ⟨f1,a1,b1⟩:=h1 f h
 obtain ⟨f2,a2,b2⟩:=h2 f1 a1
 exact ⟨f2,a2,b1.trans b2⟩
theorem Rds.one {l:List Int} {P:List (Int×Int)} {j e:Nat} {o1 o2:List Tk} (hj:j<l.length) (he:j<e) (h: ∀f,refGo rV sU l P (f+1) j o1=refGo rV sU l P f e o2):Rds l P j e o1 o2:=fun f hf=>by
 cases f with
 |zero=>omega
 |succ f=>exact ⟨f,by omega,h f⟩
theorem Rds.blank {l:List Int} {P:List (Int×Int)} {j:Nat} {out:List Tk} {r:Int} (h:l[j]?=some r) (hr:r=32∨r=9∨r=10):Rds l P j (j+1) out out:=by
 obtain ⟨g,_⟩:=List.getElem?_eq_some_iff.1 h
 refine .one g (by omega) fun f=>?_
 rw [refGo,h]
 dsimp only
 rw [if_pos hr]
theorem Rds.remark {l:List Int} {P:List (Int×Int)} {j:Nat} {out:List Tk} (h:l[j]?=some 35):Rds l P j (skp l j) out out:=by
 obtain ⟨g,e⟩:=List.getElem?_eq_some_iff.1 h
 have hs:=skp_le l l.length (j+1) (by omega) (by omega)
 have es:skp l j=skp l (j+1):=by rw [skp_in g,if_neg (by rw [e];decide)]
 refine .one g (by omega) fun f=>?_
 rw [refGo,h]
 dsimp only
 rw [if_neg (by decide),if_pos rfl]
theorem Rds.tok {l:List Int} {P:List (Int×Int)} {j:Nat} {out:List Tk} {r:Int} {k:Int} {w:List UInt8} {n e:Nat} (h:l[j]?=some r) (hr: ¬(r=32∨r=9∨r=10)∧r≠35) (ho:oneF rV sU l j r=⟨k,w,n,e,0⟩) (he:j<e):
  Rds l P j e out (out++[⟨k,w,n,(P.getD j (0,0)).1,(P.getD j (0,0)).2⟩]):=by
 obtain ⟨g,_⟩:=List.getElem?_eq_some_iff.1 h
 refine .one g he fun f=>?_
 rw [refGo,h]
 dsimp only
 rw [if_neg hr.1,if_neg hr.2,ho,if_pos rfl]
theorem refGo_inL {A l:List Int} {m:Nat} (h:InL A l m) (P P':List (Int×Int)): ∀(f i:Nat) (out out':List Tk),A.length - i<f→i≤A.length→(refGo rV sU A P f i out).c=0→
  ∃o o' z,(refGo rV sU A P f i out).l=out++o++[z]∧endTk z∧o'.map tsay=o.map tsay∧(∀t∈o',OkTk t)∧Rds l P' (m+i) (m+A.length) out' (out'++o')
 |0,i,out,out',hf,hi,hc=>by omega
 |f+1,i,out,out',hf,hi,hc=>by
  rw [refGo] at hc ⊢
  cases hl:A[i]? with
  |none=>
   have:i=A.length:=by
    rcases Nat.lt_or_ge i A.length with g|g
    ·rw [List.getElem?_eq_getElem g] at hl;cases hl
    ·omega
   subst this
   exact ⟨[],[],_,by rw [List.append_nil],⟨rfl,rfl,rfl⟩,rfl,(fun t ht=>by cases ht),by rw [List.append_nil];exact .refl _ _ _ _⟩
  |some r=>
   obtain ⟨gi,er⟩:=List.getElem?_eq_some_iff.1 hl
   rw [hl] at hc
   dsimp only at hc ⊢
   have el:l[m+i]?=some r:=by rw [h.h i gi];exact hl
   by_cases c1:r=32∨r=9∨r=10
   ·rw [if_pos c1] at hc ⊢
    obtain ⟨o,o',z,h1,h2,h3,h4,h5⟩:=refGo_inL h P P' f (i+1) out out' (by omega) (by omega) hc
    exact ⟨o,o',z,h1,h2,h3,h4,(Rds.blank el c1).trans (by rw [Nat.add_assoc];exact h5)⟩
   rw [if_neg c1] at hc ⊢
   by_cases c2:r=35
   ·rw [if_pos c2] at hc ⊢
    subst c2
    have hs:=skp_le A A.length (i+1) (by omega) (by omega)
    have e:skp A i=skp A (i+1):=by rw [skp_in gi,if_neg (by rw [er];decide)]
    have e2:=skp_inL h A.length i (by omega) hi
    obtain ⟨o,o',z,h1,h2,h3,h4,h5⟩:=refGo_inL h P P' f (skp A i) out out' (by omega) (by omega) hc
    rw [←e2] at h5
    exact ⟨o,o',z,h1,h2,h3,h4,(Rds.remark el).trans h5⟩
   rw [if_neg c2] at hc ⊢
   by_cases c3:(oneF rV sU A i r).c=0
   ·rw [if_pos c3] at hc ⊢
    have he:=oneF_en rV sU A i gi (by rw [er];exact c3)
    rw [er] at he
    have ho:=oneF_inL h gi r er c3
    obtain ⟨o,o',z,h1,h2,h3,h4,h5⟩:=refGo_inL h P P' f _ (out++[⟨(oneF rV sU A i r).k,(oneF rV sU A i r).w,(oneF rV sU A i r).n,(P.getD i (0,0)).1,(P.getD i (0,0)).2⟩])
     (out'++[⟨(oneF rV sU A i r).k,(oneF rV sU A i r).w,(oneF rV sU A i r).n,(P'.getD (m+i) (0,0)).1,(P'.getD (m+i) (0,0)).2⟩]) (by omega) (by omega) hc
    refine ⟨⟨(oneF rV sU A i r).k,(oneF rV sU A i r).w,(oneF rV sU A i r).n,(P.getD i (0,0)).1,(P.getD i (0,0)).2⟩::o,⟨(oneF rV sU A i r).k,(oneF rV sU A i r).w,(oneF rV sU A i r).n,(P'.getD (m+i) (0,0)).1,(P'.getD (m+i) (0,0)).2⟩::o',z,?_,h2,?_,?_,?_⟩
    ·rw [h1];simp only [List.append_assoc,List.singleton_append,List.cons_append,List.nil_append]
    ·rw [List.map_cons,List.map_cons,h3];rfl
    ·intro t ht
     rcases List.mem_cons.1 ht with rfl|ht
     ·exact oneF_ok A i r c3 _ _
     ·exact h4 t ht
    ·have:=(Rds.tok (P:=P') (out:=out') el ⟨c1,c2⟩ ho (by omega)).trans h5
     simpa only [List.append_assoc,List.singleton_append] using this
   ·rw [if_neg c3] at hc
    exact absurd hc c3
end Go.Ai
namespace Go.Ai
def bareT (t:Tk):Tk:=⟨t.k,t.t,t.n,0,0⟩
mutual
def bareI:It→It
 | .mk n ws b ks _ _=> .mk n (ws.map bareT) b (bareL ks) 0 0
def bareL:List It→List It
 |[]=>[]
 |x::r=>bareI x::bareL r
end
theorem bareL_app: ∀a b:List It,bareL (a++b)=bareL a++bareL b
 |[],b=>rfl
 |x::a,b=>by rw [List.cons_append,bareL,bareL,bareL_app a b,List.cons_append]
theorem bare_says {a b:List Tk} (h:a.map tsay=b.map tsay):a.map bareT=b.map bareT:=by
 have e: ∀l:List Tk,l.map bareT=(l.map tsay).map fun q=>(⟨q.1,q.2.1,q.2.2,0,0⟩:Tk):=fun l=>by
  rw [List.map_map];rfl
 rw [e,e,h]
theorem says_len2 {a b:List Tk} (h:a.map tsay=b.map tsay):a.length=b.length:=by
 have:=congrArg List.length h
 simpa using this
theorem nxt_app (t:Tk) (T rest:List Tk) (h:rest≠[]):nxt (t::(T++rest))=T++rest:=by
 cases T with
 |nil=>
  cases rest with
  |nil=>exact absurd rfl h
  |cons a b=>rfl
 |cons a b=>rfl
def Why (c:Int) (dp cn:Nat):Prop:=c=19∧5<dp∨c=9∧300<cn
theorem Why.mono {c:Int} {d n d' n':Nat} (h:Why c d n) (h1:d≤d') (h2:n≤n'):Why c d' n':=by
 rcases h with ⟨h,g⟩|⟨h,g⟩
 ·exact .inl ⟨h,by omega⟩
 ·exact .inr ⟨h,by omega⟩
theorem map_split {a b:List Tk} {T:List Tk} (h:T.map tsay=(a++b).map tsay): ∃T1 T2,T=T1++T2∧T1.map tsay=a.map tsay∧T2.map tsay=b.map tsay:=by
 rw [List.map_append] at h
 exact List.map_eq_append_iff.1 h
theorem map_one {a:Tk} {b T:List Tk} (h:T.map tsay=(a::b).map tsay): ∃t T2,T=t::T2∧tsay t=tsay a∧T2.map tsay=b.map tsay:=by
 rw [List.map_cons] at h
 exact List.map_eq_cons_iff.1 h
theorem p_bwd: ∀f:Nat,(∀(its:List It) (T rest:List Tk) (d:Nat) (e:Int) (out:List It) (n:Nat),T.map tsay=(toksL its).map tsay→wfL its→rest≠[]→2*(T++rest).length+1≤f→(e=0∨e=8)→n≤300→
   (∃its' f',bareL its'=bareL its∧pL f d e out (T++rest) n=pL f' d e (out++its') rest (n+cntL its)∧2*rest.length+1≤f'∧(its=[]∨d+depL its≤5)∧n+cntL its≤300)∨
   (∃c t l' n',pL f d e out (T++rest) n= .th c t l' n'∧Why c (d+depL its) (n+cntL its)))∧
  (∀(ws1 ws2 wsA:List Tk) (b:Bool) (ks:List It) (T rest:List Tk) (d:Nat) (nm:List UInt8) (ln co:Int) (n:Nat),T.map tsay=(ws2++(if b=false then ([⟨9,[],0,0,0⟩]:List Tk) else (⟨7,[],0,0,0⟩:Tk)::(toksL ks++[(⟨8,[],0,0,0⟩:Tk)]))).map tsay→wsA.map tsay=ws1.map tsay→ws1.length+ws2.length≤6→(∀w∈ws2,1≤w.k∧w.k≤6)→(b=false→ks=[])→wfL ks→rest≠[]→2*(T++rest).length+1≤f→d≤4→n≤300→
   (∃wsB ks',wsB.map tsay=(ws1++ws2).map tsay∧bareL ks'=bareL ks∧pI f d nm ln co wsA (T++rest) n= .ok (.mk nm wsB b ks' ln co) rest (n+cntL ks)∧d+(1+depL ks)≤5∧n+cntL ks≤300)∨
   (∃c t l' n',pI f d nm ln co wsA (T++rest) n= .th c t l' n'∧Why c (d+(1+depL ks)) (n+cntL ks)))
 |0=>⟨fun its T rest d e out n _ _ _ hf=>by omega,fun ws1 ws2 wsA b ks T rest d nm ln co n _ _ _ _ _ _ _ hf=>by omega⟩
 |f+1=>by
  obtain ⟨ihL,ihI⟩:=p_bwd f
  refine ⟨fun its T rest d e out n hT hw hr hf he hn=>?_,fun ws1 ws2 wsA b ks T rest d nm ln co n hT hA h6 hk hb hw hr hf hd hn=>?_⟩
  ·cases its with
   |nil=>
    have:T=[]:=by simpa [toksL] using hT
    subst this
    exact .inl ⟨[],f+1,rfl,by rw [List.append_nil,cntL];rfl,by simpa using hf,.inl rfl,by rw [cntL];omega⟩
   |cons x its=>
    obtain ⟨xn,ws,b,ks,xl,xc⟩:=x
    rw [toksL,toksI] at hT
    obtain ⟨t,T0,rfl,ht,hT⟩:=map_one hT
    obtain ⟨T1,T2,rfl,hT1,hT2⟩:=map_split hT
    rw [wfL,wfI] at hw
    obtain ⟨⟨w1,w2,w3,w4⟩,w5⟩:=hw
    have tk:t.k=1:=congrArg Prod.fst ht
    have hrest:T2++rest≠[]:=by simp [hr]
    rw [List.cons_append,List.append_assoc,pL,nxt_app t T1 _ hrest]
    have hc:cntL (.mk xn ws b ks xl xc::its)=1+cntL ks+cntL its:=by rw [cntL,cntI]
    have hdp:depL (.mk xn ws b ks xl xc::its)=max (1+depL ks) (depL its):=by rw [depL,depI]
    rw [hc,hdp]
    simp only [List.length_append,List.length_cons] at hf
    rw [if_neg (by omega),if_neg (by simp [tk])]
    by_cases c3:4<d
    ·rw [if_pos c3]
     exact .inr ⟨19,_,_,_,rfl,.inl ⟨rfl,by omega⟩⟩
    rw [if_neg c3]
    by_cases c4:n=300
    ·rw [if_pos c4]
     exact .inr ⟨9,_,_,_,rfl,.inr ⟨rfl,by omega⟩⟩
    rw [if_neg c4]
    rcases ihI [] ws [] b ks T1 (T2++rest) d t.t t.ln t.co (n+1) hT1 rfl (by simpa using w1) w2 w3 w4 hrest (by simp only [List.length_append];omega) (by omega) (by omega) with ⟨wsB,ks',b1,b2,b3,b4,b5⟩|⟨c,t',l',n',b1,b2⟩
    ·rw [b3]
     dsimp only
     rcases ihL its T2 rest d e (out++[.mk t.t wsB b ks' t.ln t.co]) (n+1+cntL ks) hT2 w5 hr (by simp only [List.length_append];omega) he (by omega) with ⟨its',f',d1,d2,d3,d4,d5⟩|⟨c,t',l',n',d1,d2⟩
     ·refine .inl ⟨.mk t.t wsB b ks' t.ln t.co::its',f',?_,?_,d3,?_,by omega⟩
      ·rw [bareL,bareL,d1,bareI,bareI,b2,bare_says b1]
       have tt:t.t=xn:=congrArg (fun q=>q.2.1) ht
       rw [tt]
       rfl
      ·rw [d2,List.append_assoc,show n+1+cntL ks+cntL its=n+(1+cntL ks+cntL its) by omega]
       rfl
      ·rcases d4 with rfl|d4
       ·right;rw [depL];omega
       ·right;omega
     ·exact .inr ⟨c,t',l',n',d1,d2.mono (by omega) (by omega)⟩
    ·rw [b1]
     exact .inr ⟨c,t',l',n',rfl,b2.mono (by omega) (by omega)⟩
  ·cases ws2 with
   |nil=>
    rw [List.nil_append] at hT
    rw [List.append_nil]
    cases b with
    |false=>
     rw [if_pos rfl] at hT
     obtain ⟨t,T0,rfl,ht,hT⟩:=map_one hT
     have:T0=[]:=by simpa using hT
     subst this
     have tk:t.k=9:=congrArg Prod.fst ht
     have e0:=hb rfl
     subst e0
     have hx:=nxt_app t [] rest hr
     rw [List.nil_append] at hx
     rw [List.cons_append,List.nil_append,pI,hx,if_pos tk]
     exact .inl ⟨wsA,[],hA,rfl,by rw [cntL];rfl,by rw [depL];omega,by rw [cntL];omega⟩
    |true=>
     rw [if_neg (by decide)] at hT
     obtain ⟨t,T0,rfl,ht,hT⟩:=map_one hT
     obtain ⟨T1,T2,rfl,hT1,hT2⟩:=map_split hT
     obtain ⟨t8,T3,rfl,ht8,hT3⟩:=map_one hT2
     have:T3=[]:=by simpa using hT3
     subst this
     have tk:t.k=7:=congrArg Prod.fst ht
     have tk8:t8.k=8:=congrArg Prod.fst ht8
     simp only [List.length_append,List.length_cons,List.length_nil] at hf
     rw [List.cons_append,List.append_assoc,pI,nxt_app t T1 _ (by simp),if_neg (by omega),if_pos tk]
     rw [List.cons_append,List.nil_append]
     rcases ihL ks T1 (t8::rest) (d+1) 8 [] n hT1 hw (by simp) (by simp only [List.length_append,List.length_cons];omega) (.inr rfl) hn with ⟨its',f',d1,d2,d3,d4,d5⟩|⟨c,t',l',n',d1,d2⟩
     ·cases f' with
      |zero=>omega
      |succ f'=>
       have hx:=nxt_app t8 [] rest hr
       rw [List.nil_append] at hx
       rw [d2,List.nil_append,pL,if_pos tk8,hx]
       refine .inl ⟨wsA,its',hA,d1,rfl,?_,d5⟩
       rcases d4 with rfl|d4
       ·rw [depL];omega
       ·omega
     ·rw [d1]
      exact .inr ⟨c,t',l',n',rfl,d2.mono (by omega) (by omega)⟩
   |cons w ws2=>
    rw [List.cons_append] at hT
    obtain ⟨t,T0,rfl,ht,hT⟩:=map_one hT
    have tk:t.k=w.k:=congrArg Prod.fst ht
    have hwk:=hk w (by simp)
    have hlen:=says_len2 hA
    rw [List.length_cons] at h6
    simp only [List.length_append,List.length_cons] at hf
    rw [List.cons_append,pI,nxt_app t T0 rest hr,if_neg (by omega),if_neg (by omega),if_neg (by omega),if_neg (by omega)]
    have ih:=ihI (ws1++[w]) ws2 (wsA++[t]) b ks T0 rest d nm ln co n hT (by rw [List.map_append,List.map_append,hA,List.map_cons,List.map_cons,ht]) (by rw [List.length_append,List.length_singleton];omega) (fun x hx=>hk x (by simp [hx])) hb hw hr (by simp only [List.length_append];omega) hd hn
    rw [List.append_assoc] at ih
    exact ih
open Go.Proofs
theorem cntL_snoc (L:List It) (i:Nat) (h:i<L.length):cntL (L.take (i+1))=cntL (L.take i)+cntI L[i]:=by
 rw [List.take_succ_eq_append_getElem h,cntL_app,cntL,cntL,Nat.add_zero]
theorem rcount14_spec: ∀(N:Nat) (L:List It),cntL L≤N→cntL L≤1000→Sp Tryz.prog gl 11 [.sl (itRows L)] (i6 (cntL L)):=by
 intro N
 induction N with
 |zero=>
  intro L h hc
  have hL:L=[]:=by
   have:=len_cnt L
   exact List.eq_nil_of_length_eq_zero (by omega)
  subst hL
  refine s11 rfl rfl ?_
  simp -implicitDefEqProofs [c11,itRows,cntL]
  refine wp_lpk (α:=Unit) (fun _=>⟨[(0,.sl []),(3,i6 0),(4,i6 0)],[],[]⟩) (fun _=>True) (fun _=>0) ?_ () trivial ?_
  ·rintro K x hK _
   clear hK
   simp -implicitDefEqProofs
  ·refine weak_mk ?_ ?_ ?_ ?_ ?_ ?_<;>simp -implicitDefEqProofs
 |succ N ih=>
  intro L h hc
  refine s11 rfl rfl ?_
  obtain ⟨R,hR⟩: ∃R,R=cntL L:=⟨_,rfl⟩
  rw [←hR]
  have rl:=itRows_len L
  have rat:=itRows_at L
  have ll:=len_cnt L
  generalize itRows L=RR at *
  simp -implicitDefEqProofs [c11]
  refine wp_lpk (α:=Nat) (fun i=>⟨[(0,.sl RR),(3,i6 (cntL (L.take i))),(4,i6 i)],[],[]⟩) (fun i=>i≤L.length) (fun i=>L.length - i) ?_ 0 (Nat.zero_le _) ?_
  ·rintro K i hK h1
   have t1:IntKind.i64.wrap ((i:Int)+1)=(i+1:Nat):=by rw [wrap_i64]<;>omega
   by_cases g:i<L.length
   ·have g':(i:Int)<L.length:=by omega
    have gR:i<RR.length:=by omega
    have rai:=rat i g gR
    have hx1:=cnt_mem (List.getElem_mem g)
    have tc:=cntL_take L i
    have tc2:=cntL_take L (i+1)
    have fin:=fun σ' hσ=>hK (i+1) σ' (by omega) (by omega) hσ
    rw [cntL_snoc L i g] at fin tc2
    clear hK
    generalize L[i]=x at *
    obtain ⟨xn,ws,xb,ks,xl,xc⟩:=x
    rw [cntI] at hx1 fin tc2
    have IH:=ih ks (by omega) (by omega)
    rw [It.row] at rai
    generalize itRows ks=IR at *
    generalize cntL ks=ck at *
    generalize cntL (L.take i)=ct at *
    have w1:IntKind.i64.wrap ((ct:Int)+1)=(ct+1:Nat):=by rw [wrap_i64]<;>omega
    have w2:IntKind.i64.wrap (((ct+1:Nat):Int)+(ck:Int))=(ct+(1+ck):Nat):=by rw [wrap_i64]<;>omega
    have w3:IntKind.i64.wrap ((ct:Int)+1+(ck:Int))=(ct+(1+ck):Nat):=by rw [wrap_i64]<;>omega
    simp -implicitDefEqProofs [g,g',gR,rai,rl]
    refine onC_mk _ (IH) ?_
    simp -implicitDefEqProofs [w1,w2,w3]
    refine fin _ ?_
    refine weak_mk ?_ ?_ ?_ ?_ ?_ ?_<;>simp -implicitDefEqProofs [t1,w1,w2,w3]
   ·obtain rfl:i=L.length:=by omega
    have g': ¬(L.length:Int)<L.length:=by omega
    rw [List.take_length,←hR]
    clear hK
    simp -implicitDefEqProofs [g',rl]
  ·refine weak_mk ?_ ?_ ?_ ?_ ?_ ?_<;>simp -implicitDefEqProofs [cntL]
end Go.Ai
