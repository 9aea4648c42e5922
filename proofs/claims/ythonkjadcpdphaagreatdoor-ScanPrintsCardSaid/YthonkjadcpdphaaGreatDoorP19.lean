/- P19: a part of the proof: the rules, or what functions compute. Conditions: as each theorem says. -/
import Derived.Test.YthonkjadcpdphaaGreatDoorP18
set_option linter.unusedSimpArgs false
set_option linter.unusedVariables false
set_option maxRecDepth 20000
namespace Go.Ai
open Go.Proofs
def numB (b:UInt8):Prop:=isDig b=true∨b=46∨b=37∨b∈wdL
theorem numB_lt {b:UInt8} (h:numB b):b.toNat<128:=by
 rcases h with h|rfl|rfl|h
 ·have:=(isDig_iff b).1 h
  omega
 ·decide
 ·decide
 ·exact (wdL_not b h).2.2.2
theorem dec_numB (n:Nat): ∀b∈dec n,numB b:=fun b hb=> .inl (List.all_eq_true.1 (dec_dig n) b hb)
theorem frc_dig (m:Nat) (hm:0<m): ∀(f x:Nat),x<10*m→ ∀b∈frc m f x,isDig b=true
 |0,x,h,b,hb=>by cases hb
 |f+1,x,h,b,hb=>by
  rw [frc] at hb
  split at hb
  ·cases hb
  ·rcases List.mem_cons.1 hb with rfl|hb
   ·have:x / m≤9:=by
     have:=(Nat.div_lt_iff_lt_mul hm).2 h
     omega
    generalize x / m=y at *
    rw [isDig_iff,dg_ofNat this]
    omega
   ·have:=Nat.mod_lt x hm
    exact frc_dig m hm f (x%m*10) (by omega) b hb
structure NumP (t:List UInt8):Prop where
 b: ∀b∈t,numB b
 f: ∃q r,t=dec q++r
theorem numP_dec (n:Nat):NumP (dec n):=⟨dec_numB n,n,[],by rw [List.append_nil]⟩
theorem numP_fc (n:Nat):NumP (fcP n):=by
 refine ⟨fun b hb=>?_,_,_,rfl⟩
 unfold fcP at hb
 rcases List.mem_append.1 hb with hb|hb
 ·exact dec_numB _ b hb
 rcases List.mem_cons.1 hb with rfl|hb
 ·exact .inr (.inl rfl)
 rcases List.mem_cons.1 hb with rfl|hb
 ·have:n%1000 / 100≤9:=by omega
  left
  rw [isDig_iff,dg_ofNat this]
  omega
 ·exact .inl (frc_dig 10 (by decide) 2 _ (by omega) b hb)
theorem numP_sh (p:Nat) (h:p≤1000000):NumP (shP p):=by
 unfold shP
 rw [if_neg (by omega)]
 refine ⟨fun b hb=>?_,_,_,rfl⟩
 rcases List.mem_append.1 hb with hb|hb
 ·exact dec_numB _ b hb
 rcases List.mem_append.1 hb with hb|hb
 ·split at hb
  ·cases hb
  ·rw [List.mem_singleton] at hb
   exact .inr (.inl hb)
 rcases List.mem_append.1 hb with hb|hb
 ·exact .inl (frc_dig 1000 (by decide) 4 _ (by omega) b hb)
 ·rw [List.mem_singleton] at hb
  exact .inr (.inr (.inl hb))
theorem numP_sp (n:Nat):NumP (spP n):=by
 obtain ⟨h1,q,c,r,h2,h3⟩:=spP_shape n
 refine ⟨fun b hb=>?_,q,c::r,h2⟩
 rcases h1 b hb with h|h
 ·exact .inl h
 ·exact .inr (.inr (.inr h))
theorem NumP.lt {t:List UInt8} (h:NumP t): ∀b∈t,b.toNat<128:=fun b hb=>numB_lt (h.b b hb)
theorem NumP.runes {t:List UInt8} (h:NumP t):runesL t 0=asc t:=runes_asc t h.lt
theorem NumP.wthn {t:List UInt8} (h:NumP t): ∀r∈runesL t 0,wthn r=true:=by
 rw [h.runes]
 intro r hr
 obtain ⟨b,hb,rfl⟩:=List.mem_map.1 hr
 exact name_asc_dec b (h.b b hb)
theorem NumP.ne {t:List UInt8} (h:NumP t):runesL t 0≠[]:=by
 obtain ⟨q,r,e⟩:=h.f
 rw [h.runes,e]
 unfold asc
 intro g
 rw [List.map_eq_nil_iff,List.append_eq_nil_iff] at g
 exact dec_ne q g.1
theorem NumP.rV {t:List UInt8} (h:NumP t):rV (runesL t 0)=wdR t:=by
 obtain ⟨q,r,e⟩:=h.f
 rw [h.runes]
 exact rV_num t h.lt q r e
theorem tk_word (k:Int) (s:List UInt8) (n:Nat) (hn:n<18446744073709551616) (hk:k=1∨k=3∨k=4∨k=5∨k=6) (h:tkR k s n=true):
  (∀r∈runesL (tkP k s n) 0,wthn r=true)∧runesL (tkP k s n) 0≠[]∧rV (runesL (tkP k s n) 0)= .t k s n:=by
 have num: ∀t,NumP t→wdR t= .t k s n→tkP k s n=t→(∀r∈runesL (tkP k s n) 0,wthn r=true)∧runesL (tkP k s n) 0≠[]∧Ai.rV (runesL (tkP k s n) 0)= .t k s n:=fun t h1 h2 h3=>by
  rw [h3]
  exact ⟨h1.wthn,h1.ne,by rw [h1.rV,h2]⟩
 rcases hk with rfl|rfl|rfl|rfl|rfl
 ·have e:tkP 1 s n=s:=by
   unfold tkP
   rw [h]
   rfl
  have h':(nameT s&&decide (n=0))=true:=h
  rw [Bool.and_eq_true,decide_eq_true_iff] at h'
  obtain ⟨h1,rfl⟩:=h'
  rw [e]
  exact ⟨name_wthn s h1,name_ne s h1,name_rV s h1⟩
 ·have h':(s==[])=true:=h
  rw [beq_iff_eq] at h'
  subst h'
  exact num (dec n) (numP_dec n) (wdR_dec n hn) (by unfold tkP;rw [h];rfl)
 ·have h':(s==[])=true:=h
  rw [beq_iff_eq] at h'
  subst h'
  exact num (fcP n) (numP_fc n) (wdR_fc n hn) (by unfold tkP;rw [h];rfl)
 ·have h':((s==[])&&decide (n≤1000000))=true:=h
  rw [Bool.and_eq_true,beq_iff_eq,decide_eq_true_iff] at h'
  obtain ⟨rfl,h2⟩:=h'
  exact num (shP n) (numP_sh n h2) (wdR_sh n h2) (by unfold tkP;rw [h];rfl)
 ·have h':((s==[])&&decide (n≤253402300799))=true:=h
  rw [Bool.and_eq_true,beq_iff_eq,decide_eq_true_iff] at h'
  obtain ⟨rfl,h2⟩:=h'
  exact num (spP n) (numP_sp n) (wdR_sp n h2) (by unfold tkP;rw [h];rfl)
open Go.Proofs
def erR (r:Int):List Int:=if r=34 then [92,34] else if r=92 then [92,92] else if r=10 then [92,110] else if r=9 then [92,116] else if r<32∨r=127 then [92,117,123]++(asc (hxL r.toNat)++[125]) else [r]
def erL:List Int→List Int
 |[]=>[]
 |r::l=>erR r++erL l
theorem hxD_lt (a:Nat) (h:a<16):(hxD a).toNat<128:=by
 have: ∀q:Fin 16,(hxD q.1).toNat<128:=by decide
 exact this ⟨a,h⟩
theorem hex_hxD (a:Nat) (h:a<16):hexR ((hxD a).toNat:Int)=a:=by
 have: ∀q:Fin 16,hexR ((hxD q.1).toNat:Int)=q.1:=by decide
 exact this ⟨a,h⟩
theorem hxL_lt (a:Nat) (h:a<128): ∀b∈hxL a,b.toNat<128:=by
 intro b hb
 unfold hxL at hb
 split at hb
 ·rw [List.mem_singleton] at hb
  subst hb
  exact hxD_lt a (by omega)
 ·rw [List.mem_cons,List.mem_singleton] at hb
  rcases hb with rfl|rfl
  ·exact hxD_lt _ (by omega)
  ·exact hxD_lt _ (by omega)
theorem esR_er (r:Int) (h:0≤r):esR r.toNat=textR (erR r):=by
 unfold esR erR
 by_cases c1:r=34
 ·subst c1;rfl
 rw [if_neg c1,if_neg (by omega)]
 by_cases c2:r=92
 ·subst c2;rfl
 rw [if_neg c2,if_neg (by omega)]
 by_cases c3:r=10
 ·subst c3;rfl
 rw [if_neg c3,if_neg (by omega)]
 by_cases c4:r=9
 ·subst c4;rfl
 rw [if_neg c4,if_neg (by omega)]
 by_cases c5:r<32∨r=127
 ·rw [if_pos c5,if_pos (by omega),textR_append,textR_append,textR_asc _ (hxL_lt _ (by omega))]
  rfl
 ·rw [if_neg c5,if_neg (by omega),textR,textR,List.append_nil]
  unfold encR
  rw [if_neg (by omega)]
theorem esL_er: ∀l:List Int,(∀r∈l,0≤r)→esL l=textR (erL l)
 |[],h=>rfl
 |r::l,h=>by rw [esL,erL,textR_append,esR_er r (h r (by simp)),esL_er l fun x hx=>h x (by simp [hx])]
theorem erR_in (r:Int): ∀x∈erR r,x=r∨(0≤x∧x<128):=by
 intro x hx
 unfold erR at hx
 split at hx
 ·simp at hx;omega
 split at hx
 ·simp at hx;omega
 split at hx
 ·simp at hx;omega
 split at hx
 ·simp at hx;omega
 split at hx
 ·rename_i h
  rcases List.mem_append.1 hx with hx|hx
  ·simp at hx;omega
  rcases List.mem_append.1 hx with hx|hx
  ·obtain ⟨b,hb,rfl⟩:=List.mem_map.1 hx
   have:=hxL_lt _ (by omega) b hb
   omega
  ·simp at hx;omega
 ·simp at hx;omega
theorem erL_in: ∀(l:List Int) (x:Int),x∈erL l→x∈l∨(0≤x∧x<128)
 |[],x,h=>by cases h
 |r::l,x,h=>by
  rw [erL,List.mem_append] at h
  rcases h with h|h
  ·rcases erR_in r x h with rfl|h
   ·exact .inl (by simp)
   ·exact .inr h
  ·rcases erL_in l x h with h|h
   ·exact .inl (by simp [h])
   ·exact .inr h
theorem quL_text (l:List Int) (h: ∀r∈l,0≤r):quL l=textR (34::(erL l++[34])):=by
 rw [textR,textR_append,←esL_er l h]
 rfl
theorem quL_runes (l:List Int) (h: ∀r∈l,0≤r) (hk: ∀r∈l,okR r):runesL (quL l) 0=34::(erL l++[34]):=by
 rw [quL_text l h]
 refine runesL_textR _ fun r hr=>?_
 rw [List.mem_cons,List.mem_append,List.mem_singleton] at hr
 rcases hr with rfl|hr|rfl
 ·right;omega
 ·rcases erL_in l r hr with h|h
  ·exact hk r h
  ·right;omega
 ·right;omega
theorem unRun_ok {x y:Rd} {r:Int} (l:List Int) (h:takeU x r=(y,true)):unRun x (r::l)=unRun y l:=by
 rw [unRun,h]
 rfl
theorem tk0 (o:List Int) (n c:Nat):takeU ⟨o,0,n,c⟩ 92=(⟨o,1,n,c⟩,true):=rfl
theorem tk1 (o:List Int) (n c:Nat):takeU ⟨o,1,n,c⟩ 117=(⟨o,2,n,c⟩,true):=rfl
theorem tk2 (o:List Int) (n c:Nat):takeU ⟨o,2,n,c⟩ 123=(⟨o,3,0,0⟩,true):=rfl
theorem tk3 (o:List Int) (n c d:Nat) {r:Int} (h:hexR r=d) (hc:c<6):takeU ⟨o,3,n,c⟩ r=(⟨o,3,16*n+d,c+1⟩,true):=by
 show withinR ⟨o,3,n,c⟩ r=_
 unfold withinR
 rw [if_pos ⟨by omega,hc⟩,h]
 rfl
theorem tk4 (o:List Int) (n c:Nat) (hc:c≠0) (hn:n<128):takeU ⟨o,3,n,c⟩ 125=(⟨o++[(n:Int)],0,n,c⟩,true):=by
 show withinR ⟨o,3,n,c⟩ 125=_
 unfold withinR
 have:validR (n:Int)=true:=by
  unfold validR
  rw [Bool.or_eq_true,decide_eq_true_iff]
  left
  omega
 rw [if_neg (by rintro ⟨h,_⟩;exact absurd h (by decide)),if_neg]
 rintro (h|h|h)
 ·exact h rfl
 ·exact hc h
 ·rw [this] at h
  cases h
theorem unRun_er (o:List Int) (n c:Nat) (r:Int) (h:0≤r) (t:List Int): ∃n' c',unRun ⟨o,0,n,c⟩ (erR r++t)=unRun ⟨o++[r],0,n',c'⟩ t:=by
 unfold erR
 by_cases c1:r=34
 ·subst c1
  exact ⟨n,c,rfl⟩
 rw [if_neg c1]
 by_cases c2:r=92
 ·subst c2
  exact ⟨n,c,rfl⟩
 rw [if_neg c2]
 by_cases c3:r=10
 ·subst c3
  exact ⟨n,c,rfl⟩
 rw [if_neg c3]
 by_cases c4:r=9
 ·subst c4
  exact ⟨n,c,rfl⟩
 rw [if_neg c4]
 by_cases c5:r<32∨r=127
 ·rw [if_pos c5]
  obtain ⟨a,rfl⟩: ∃a:Nat,r=a:=⟨r.toNat,by omega⟩
  rw [Int.toNat_natCast,List.append_assoc,List.append_assoc]
  show ∃n' c',unRun ⟨o,0,n,c⟩ (92::117::123::(asc (hxL a)++(125::t)))=_
  rw [unRun_ok _ (tk0 o n c),unRun_ok _ (tk1 o n c),unRun_ok _ (tk2 o n c)]
  unfold hxL
  by_cases c6:a<16
  ·rw [if_pos c6]
   refine ⟨16*0+a,0+1,?_⟩
   show unRun ⟨o,3,0,0⟩ (((hxD a).toNat:Int)::125::t)=_
   rw [unRun_ok _ (tk3 o 0 0 a (hex_hxD a c6) (by decide)),unRun_ok _ (tk4 o _ _ (by decide) (by omega)),Nat.mul_zero,Nat.zero_add]
  ·rw [if_neg c6]
   refine ⟨16*(16*0+a / 16)+a%16,0+1+1,?_⟩
   show unRun ⟨o,3,0,0⟩ (((hxD (a / 16)).toNat:Int)::((hxD (a%16)).toNat:Int)::125::t)=_
   rw [unRun_ok _ (tk3 o 0 0 (a / 16) (hex_hxD _ (by omega)) (by decide)),unRun_ok _ (tk3 o _ _ (a%16) (hex_hxD _ (by omega)) (by decide)),unRun_ok _ (tk4 o _ _ (by decide) (by omega))]
   have e:16*(16*0+a / 16)+a%16=a:=by omega
   rw [e]
 ·rw [if_neg c5]
  refine ⟨n,c,?_⟩
  show unRun _ (r::t)=_
  refine unRun_ok _ ?_
  show (if r=34 then _ else if r=92 then _ else if r<32∨r=127 then _ else _)=_
  rw [if_neg c1,if_neg c2,if_neg c5]
theorem unRun_erL: ∀(l o:List Int) (n c:Nat) (t:List Int),(∀r∈l,0≤r)→ ∃n' c',unRun ⟨o,0,n,c⟩ (erL l++t)=unRun ⟨o++l,0,n',c'⟩ t
 |[],o,n,c,t,h=>⟨n,c,by rw [List.append_nil];rfl⟩
 |r::l,o,n,c,t,h=>by
  obtain ⟨n1,c1,e1⟩:=unRun_er o n c r (h r (by simp)) (erL l++t)
  obtain ⟨n2,c2,e2⟩:=unRun_erL l (o++[r]) n1 c1 t (fun x hx=>h x (by simp [hx]))
  refine ⟨n2,c2,?_⟩
  rw [erL,List.append_assoc,e1,e2,List.append_assoc]
  rfl
theorem unqF_quL (l:List Int) (h: ∀r∈l,0≤r) (hl:l.length≤120):unqF (34::(erL l++[34]))=(textR l,0):=by
 obtain ⟨n,c,e⟩:=unRun_erL l [] 0 0 [34] h
 have e':unRun rd0 (erL l++[34])=(⟨l,4,n,c⟩,true):=by
  show unRun ⟨[],0,0,0⟩ _=_
  rw [e]
  rfl
 have g:goodR (34::(erL l++[34]))=true:=by
  unfold goodR
  rw [List.all_eq_true]
  intro r hr
  rw [decide_eq_true_iff]
  rw [List.mem_cons,List.mem_append,List.mem_singleton] at hr
  rcases hr with rfl|hr|rfl
  ·decide
  ·rcases erL_in l r hr with h'|h'
   ·exact h r h'
   ·exact h'.1
  ·decide
 unfold unqF
 rw [if_neg,List.tail_cons,e',if_neg (show ¬(true=false) by decide),if_neg (by show ¬((4:Int)≠4);decide),if_neg (by show ¬120<l.length;omega)]
 rintro (h|h)
 ·rw [g] at h
  cases h
 ·exact h rfl
open Go.Proofs
theorem drop_cons_at {l t:List Int} {j:Nat} {r:Int} (h:l.drop j=r::t): ∃g:j<l.length,l[j]=r∧l.drop (j+1)=t:=by
 have g:j<l.length:=by
  have:=congrArg List.length h
  rw [List.length_drop,List.length_cons] at this
  omega
 rw [List.drop_eq_getElem_cons g] at h
 injection h with h1 h2
 exact ⟨g,h1,h2⟩
theorem drop_app {l p t:List Int} {j:Nat} (h:l.drop j=p++t):l.drop (j+p.length)=t:=by
 rw [←List.drop_drop,h,List.drop_left]
theorem qGo_plain: ∀(p t l:List Int) (j:Nat),l.drop j=p++t→(∀x∈p,x≠10∧x≠34∧x≠92)→qGo l j=qGo l (j+p.length)
 |[],t,l,j,h,hp=>rfl
 |x::p,t,l,j,h,hp=>by
  obtain ⟨g,e,h'⟩:=drop_cons_at h
  obtain ⟨h1,h2,h3⟩:=hp x (by simp)
  rw [qGo_in g,e,if_neg h1,if_neg h2,if_neg h3,qGo_plain p t l (j+1) h' (fun y hy=>hp y (by simp [hy])),List.length_cons]
  congr 1
  omega
theorem qGo_esc {l t:List Int} {j:Nat} {x:Int} (h:l.drop j=92::x::t) (hx:x≠10):qGo l j=qGo l (j+2):=by
 obtain ⟨g,e,h'⟩:=drop_cons_at h
 obtain ⟨g2,e2,_⟩:=drop_cons_at h'
 rw [qGo_in g,e,if_neg (by decide),if_neg (by decide),if_pos rfl,if_neg]
 rw [List.getElem?_eq_getElem g2,e2]
 intro h
 injection h with h
 exact hx h
theorem hxD_pl (a:Nat) (h:a<16):((hxD a).toNat:Int)≠10∧((hxD a).toNat:Int)≠34∧((hxD a).toNat:Int)≠92:=by
 have: ∀q:Fin 16,((hxD q.1).toNat:Int)≠10∧((hxD q.1).toNat:Int)≠34∧((hxD q.1).toNat:Int)≠92:=by decide
 exact this ⟨a,h⟩
theorem hxL_pl (a:Nat) (h:a<128): ∀x∈asc (hxL a),x≠10∧x≠34∧x≠92:=by
 intro x hx
 obtain ⟨b,hb,rfl⟩:=List.mem_map.1 hx
 unfold hxL at hb
 split at hb
 ·rw [List.mem_singleton] at hb
  subst hb
  exact hxD_pl a (by omega)
 ·rw [List.mem_cons,List.mem_singleton] at hb
  rcases hb with rfl|rfl
  ·exact hxD_pl _ (by omega)
  ·exact hxD_pl _ (by omega)
theorem qGo_er (r:Int) (h0:0≤r) (t l:List Int) (j:Nat) (h:l.drop j=erR r++t):qGo l j=qGo l (j+(erR r).length):=by
 unfold erR at h ⊢
 by_cases c1:r=34
 ·rw [if_pos c1] at h ⊢
  exact qGo_esc h (by decide)
 rw [if_neg c1] at h ⊢
 by_cases c2:r=92
 ·rw [if_pos c2] at h ⊢
  exact qGo_esc h (by decide)
 rw [if_neg c2] at h ⊢
 by_cases c3:r=10
 ·rw [if_pos c3] at h ⊢
  exact qGo_esc h (by decide)
 rw [if_neg c3] at h ⊢
 by_cases c4:r=9
 ·rw [if_pos c4] at h ⊢
  exact qGo_esc h (by decide)
 rw [if_neg c4] at h ⊢
 by_cases c5:r<32∨r=127
 ·rw [if_pos c5] at h ⊢
  rw [List.append_assoc] at h
  have h':l.drop j=92::117::(123::(asc (hxL r.toNat)++[125])++t):=h
  rw [qGo_esc h' (by decide)]
  have h2:l.drop (j+2)=(123::(asc (hxL r.toNat)++[125]))++t:=drop_app (p:=[92,117]) h'
  rw [qGo_plain _ t l (j+2) h2]
  ·congr 1
   simp only [List.length_append,List.length_cons,List.length_nil]
   omega
  ·intro x hx
   rw [List.mem_cons,List.mem_append,List.mem_singleton] at hx
   rcases hx with rfl|hx|rfl
   ·decide
   ·exact hxL_pl _ (by omega) x hx
   ·decide
 ·rw [if_neg c5] at h ⊢
  refine qGo_plain [r] t l j h fun x hx=>?_
  rw [List.mem_singleton] at hx
  subst hx
  exact ⟨c3,c1,c2⟩
theorem qGo_erL: ∀(m t l:List Int) (j:Nat),(∀r∈m,0≤r)→l.drop j=erL m++t→qGo l j=qGo l (j+(erL m).length)
 |[],t,l,j,h0,h=>rfl
 |r::m,t,l,j,h0,h=>by
  rw [erL,List.append_assoc] at h
  have h2:=drop_app h
  rw [qGo_er r (h0 r (by simp)) _ l j h,qGo_erL m t l _ (fun x hx=>h0 x (by simp [hx])) h2,erL,List.length_append]
  congr 1
  omega
theorem qGo_quote (m t l:List Int) (j:Nat) (h0: ∀r∈m,0≤r) (h:l.drop j=erL m++34::t):qGo l j=j+(erL m).length+1:=by
 rw [qGo_erL m _ l j h0 h]
 obtain ⟨g,e,_⟩:=drop_cons_at (drop_app h)
 rw [qGo_in g,e,if_neg (by decide),if_pos rfl]
theorem subR_drop {l p t:List Int} {j:Nat} (h:l.drop j=p++t):subR l j (j+p.length)=p:=by
 unfold subR
 rw [List.drop_take,Nat.add_sub_cancel_left,h,List.take_left]
theorem oneF_quote (VR:List Int→TV) (m t l:List Int) (j:Nat) (h0: ∀r∈m,0≤r) (hk: ∀r∈m,okR r) (hm:m.length≤120) (h:l.drop j=(34::(erL m++[34]))++t):
  oneF VR sU l j 34=⟨2,textR m,0,j+(34::(erL m++[34])).length,0⟩:=by
 have h1:l.drop (j+1)=erL m++34::t:=by
  have:=drop_app (p:=[34]) (t:=erL m++34::t) (by rw [h];simp)
  exact this
 have q:=qGo_quote m t l (j+1) h0 h1
 have hs:=subR_drop h
 have en:j+(34::(erL m++[34])).length=qGo l (j+1):=by
  rw [q]
  simp only [List.length_append,List.length_cons,List.length_nil]
  omega
 rw [en] at hs
 have hr:=quL_runes m h0 hk
 rw [quL_text m h0] at hr
 unfold oneF
 rw [if_neg (by decide),if_neg (by decide),if_neg (by decide),if_pos rfl,if_neg (by rw [q];omega),hs]
 unfold sU
 rw [hr,unqF_quL m h0 hm,en]
open Go.Proofs
theorem drop_at {l t:List Int} {j:Nat} {r:Int} (h:l.drop j=r::t):l[j]?=some r:=by
 obtain ⟨g,e,_⟩:=drop_cons_at h
 rw [List.getElem?_eq_getElem g,e]
theorem wEnd_plain: ∀(p t l:List Int) (j:Nat),l.drop j=p++t→(∀x∈p,wthn x=true)→(∀x∈t.head?,wthn x=false)→wEnd l j=j+p.length
 |[],t,l,j,h,hp,ht=>by
  cases t with
  |nil=>
   rw [List.append_nil,List.drop_eq_nil_iff] at h
   rw [wEnd_out (by omega)]
   rfl
  |cons x t=>
   obtain ⟨g,e,_⟩:=drop_cons_at h
   rw [wEnd_in g,e,if_neg (by rw [ht x rfl];decide)]
   rfl
 |x::p,t,l,j,h,hp,ht=>by
  obtain ⟨g,e,h'⟩:=drop_cons_at h
  rw [wEnd_in g,e,if_pos (hp x (by simp)),wEnd_plain p t l (j+1) h' (fun y hy=>hp y (by simp [hy])) ht,List.length_cons]
  omega
theorem refGo_one (VR:List Int→TV) (U:List UInt8→List UInt8×Int) (l:List Int) (P:List (Int×Int)) (f j:Nat) (out:List Tk) {r:Int} {t:List Int} {k:Int} {w:List UInt8} {n e:Nat} (h:l.drop j=r::t) (hr:r≠32∧r≠9∧r≠10∧r≠35) (ho:oneF VR U l j r=⟨k,w,n,e,0⟩):
  refGo VR U l P (f+1) j out=refGo VR U l P f e (out++[⟨k,w,n,(P.getD j (0,0)).1,(P.getD j (0,0)).2⟩]):=by
 rw [refGo,drop_at h]
 dsimp only
 rw [if_neg (by rintro (h|h|h);exact hr.1 h;exact hr.2.1 h;exact hr.2.2.1 h),if_neg hr.2.2.2,ho,if_pos rfl]
theorem oneF_word (VR:List Int→TV) (U:List UInt8→List UInt8×Int) (l:List Int) (j:Nat) {r:Int} {p t:List Int} {k:Int} {w:List UInt8} {n:Nat} (h:l.drop j=(r::p)++t) (hp: ∀x∈r::p,wthn x=true) (ht: ∀x∈t.head?,wthn x=false) (hv:VR (r::p)= .t k w n):
  oneF VR U l j r=⟨k,w,n,j+(r::p).length,0⟩:=by
 have hw:=hp r (by simp)
 have hne: ∀z:Int,wthn z=false→r≠z:=fun z hz e=>by rw [←e,hw] at hz;cases hz
 unfold oneF
 rw [if_neg (hne 123 rfl),if_neg (hne 125 rfl),if_neg (hne 59 rfl),if_neg (hne 34 rfl),if_pos hw,wEnd_plain (r::p) t l j h hp ht,subR_drop h,hv]
 rfl
theorem tkP_quote (s:List UInt8) (n:Nat) (h:tkR 2 s n=true):tkP 2 s n=quL (runesL s 0)∧n=0∧goodR (runesL s 0)=true∧(runesL s 0).length≤120:=by
 have h':(goodR (runesL s 0)&&(decide ((runesL s 0).length≤120)&&decide (n=0)))=true:=h
 rw [Bool.and_eq_true,Bool.and_eq_true,decide_eq_true_iff,decide_eq_true_iff] at h'
 refine ⟨?_,h'.2.2,h'.1,h'.2.1⟩
 unfold tkP
 rw [h]
 rfl
theorem refGo_tok (l:List Int) (P:List (Int×Int)) (f j:Nat) (out:List Tk) (k:Int) (s:List UInt8) (n:Nat) (t:List Int) (hk:1≤k∧k≤9) (hn:n<18446744073709551616) (hR:tkR k s n=true)
  (h:l.drop j=runesL (tkP k s n) 0++t) (ht: ∀x∈t.head?,wthn x=false):
  refGo rV sU l P (f+1) j out=refGo rV sU l P f (j+(runesL (tkP k s n) 0).length) (out++[⟨k,s,n,(P.getD j (0,0)).1,(P.getD j (0,0)).2⟩]):=by
 have brace: ∀(c:UInt8),tkP k s n=[c]→s=[]→n=0→((c.toNat:Int)≠32∧(c.toNat:Int)≠9∧(c.toNat:Int)≠10∧(c.toNat:Int)≠35)→c.toNat<128→oneF rV sU l j (c.toNat:Int)=⟨k,[],0,j+1,0⟩→
   refGo rV sU l P (f+1) j out=refGo rV sU l P f (j+(runesL (tkP k s n) 0).length) (out++[⟨k,s,n,(P.getD j (0,0)).1,(P.getD j (0,0)).2⟩]):=by
  intro c e hs hn hc hlt ho
  have er:runesL (tkP k s n) 0=[(c.toNat:Int)]:=by
   rw [e,runes_asc [c] (by simpa using hlt)]
   rfl
  rw [er] at h ⊢
  rw [hs,hn]
  exact refGo_one rV sU l P f j out h hc ho
 by_cases kw:k=1∨k=3∨k=4∨k=5∨k=6
 ·obtain ⟨h1,h2,h3⟩:=tk_word k s n hn kw hR
  generalize runesL (tkP k s n) 0=p at *
  cases p with
  |nil=>exact absurd rfl h2
  |cons r p=>
   have hw:=h1 r (by simp)
   have hne: ∀z:Int,wthn z=false→r≠z:=fun z hz e=>by rw [←e,hw] at hz;cases hz
   exact refGo_one rV sU l P f j out h ⟨hne 32 rfl,hne 9 rfl,hne 10 rfl,hne 35 rfl⟩ (oneF_word rV sU l j h h1 ht h3)
 have kc:k=2∨k=7∨k=8∨k=9:=by omega
 rcases kc with rfl|rfl|rfl|rfl
 ·obtain ⟨e,hz,hg,hl⟩:=tkP_quote s n hR
  subst hz
  have h0: ∀r∈runesL s 0,0≤r:=fun r hr=>of_decide_eq_true (List.all_eq_true.1 hg r hr)
  have hk: ∀r∈runesL s 0,okR r:=fun r hr=>runesL_okR s s.length 0 (by omega) r hr
  have tx:=textR_runes s (fun r hr=>by have:=h0 r hr;omega)
  rw [e,quL_runes _ h0 hk] at h ⊢
  have o:=oneF_quote rV (runesL s 0) t l j h0 hk hl h
  rw [tx] at o
  exact refGo_one rV sU l P f j out h (by decide) o
 ·have h':((s==[])&&decide (n=0))=true:=hR
  rw [Bool.and_eq_true,beq_iff_eq,decide_eq_true_iff] at h'
  exact brace 123 (by unfold tkP;rw [hR];rfl) h'.1 h'.2 (by decide) (by decide) rfl
 ·have h':((s==[])&&decide (n=0))=true:=hR
  rw [Bool.and_eq_true,beq_iff_eq,decide_eq_true_iff] at h'
  exact brace 125 (by unfold tkP;rw [hR];rfl) h'.1 h'.2 (by decide) (by decide) rfl
 ·have h':((s==[])&&decide (n=0))=true:=hR
  rw [Bool.and_eq_true,beq_iff_eq,decide_eq_true_iff] at h'
  exact brace 59 (by unfold tkP;rw [hR];rfl) h'.1 h'.2 (by decide) (by decide) rfl
open Go.Proofs
def Reads (l:List Int) (P:List (Int×Int)) (j e:Nat) (out out':List Tk):Prop:= ∀f,l.length - j<f→ ∃f',l.length - e<f'∧refGo rV sU l P f j out=refGo rV sU l P f' e out'
theorem Reads.refl (l:List Int) (P:List (Int×Int)) (j:Nat) (out:List Tk):Reads l P j j out out:=fun f h=>⟨f,h,rfl⟩
theorem Reads.trans {l:List Int} {P:List (Int×Int)} {j e g:Nat} {o1 o2 o3:List Tk} (h1:Reads l P j e o1 o2) (h2:Reads l P e g o2 o3):Reads l P j g o1 o3:=fun f h=>by
 obtain ⟨f1,a1,b1⟩:=h1 f h
 obtain ⟨f2,a2,b2⟩:=h2 f1 a1
 exact ⟨f2,a2,b1.trans b2⟩
theorem Reads.one {l:List Int} {P:List (Int×Int)} {j e:Nat} {o1 o2:List Tk} (hj:j<l.length) (he:j<e) (h: ∀f,refGo rV sU l P (f+1) j o1=refGo rV sU l P f e o2):Reads l P j e o1 o2:=fun f hf=>by
 cases f with
 |zero=>omega
 |succ f=>exact ⟨f,by omega,h f⟩
open Go.Proofs
structure TkOk (x:Tk):Prop where
 k:1≤x.k∧x.k≤9
 n:x.n<18446744073709551616
 r:tkR x.k x.t x.n=true
theorem one_rune (c:UInt8) (h:c.toNat<128):runesL [c] 0=[(c.toNat:Int)]:=by
 rw [runes_asc [c] (by simpa using h)]
 rfl
theorem tkP_runes {k:Int} {s:List UInt8} {n:Nat} (hk:1≤k∧k≤9) (hn:n<18446744073709551616) (h:tkR k s n=true):runesL (tkP k s n) 0≠[]∧ ∀r∈runesL (tkP k s n) 0,r≠ -1:=by
 by_cases kw:k=1∨k=3∨k=4∨k=5∨k=6
 ·obtain ⟨h1,h2,h3⟩:=tk_word k s n hn kw h
  exact ⟨h2,fun r hr=>(wthn_okR (h1 r hr)).2⟩
 have br: ∀c:UInt8,c.toNat<128→tkP k s n=[c]→runesL (tkP k s n) 0≠[]∧ ∀r∈runesL (tkP k s n) 0,r≠ -1:=fun c hc e=>by
  rw [e,one_rune c hc]
  refine ⟨by simp,fun r hr=>?_⟩
  rw [List.mem_singleton] at hr
  omega
 have kc:k=2∨k=7∨k=8∨k=9:=by omega
 rcases kc with rfl|rfl|rfl|rfl
 ·obtain ⟨e,hz,hg,hl⟩:=tkP_quote s n h
  have h0: ∀r∈runesL s 0,0≤r:=fun r hr=>of_decide_eq_true (List.all_eq_true.1 hg r hr)
  have hk: ∀r∈runesL s 0,okR r:=fun r hr=>runesL_okR s s.length 0 (by omega) r hr
  rw [e,quL_runes _ h0 hk]
  refine ⟨by simp,fun r hr=>?_⟩
  rw [List.mem_cons,List.mem_append,List.mem_singleton] at hr
  rcases hr with rfl|hr|rfl
  ·decide
  ·rcases erL_in _ r hr with h'|h'
   ·have:=h0 r h'
    omega
   ·omega
  ·decide
 ·exact br 123 (by decide) (by unfold tkP;rw [h];rfl)
 ·exact br 125 (by decide) (by unfold tkP;rw [h];rfl)
 ·exact br 59 (by decide) (by unfold tkP;rw [h];rfl)
def Tk.says (x:Tk):Int×List UInt8×Nat:=(x.k,x.t,x.n)
end Go.Ai
