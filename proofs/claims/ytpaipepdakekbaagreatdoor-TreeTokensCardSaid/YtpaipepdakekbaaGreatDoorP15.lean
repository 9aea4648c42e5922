/- P15: a part of the proof: the rules, or what functions compute. Conditions: as each theorem says. -/
import Derived.Test.YtpaipepdakekbaaGreatDoorP14
import Derived.Test.YtpaipepdakekbaaGreatDoorP12
import Derived.Test.YtpaipepdakekbaaGreatDoorP5
import Derived.Test.YtpaipepdakekbaaGreatDoorP2
set_option linter.unusedSimpArgs false
set_option linter.unusedVariables false
set_option maxRecDepth 20000
namespace Go.Ai
open Go.Proofs Go.Shelf
structure Hx where
 k:Nat
 v:Nat
 t:List Int
def hexGo (k v:Nat):List Int→Hx
 |[]=>⟨k,v,[]⟩
 |r::t=>if 0≤hexR r∧k<6 then hexGo (k+1) (16*v+(hexR r).toNat) t else ⟨k,v,r::t⟩
theorem hexGo_len: ∀(m:List Int) (k v:Nat),(hexGo k v m).t.length≤m.length
 |[],k,v=>Nat.le_refl _
 |r::t,k,v=>by
  rw [hexGo]
  split
  ·have:=hexGo_len t (k+1) (16*v+(hexR r).toNat)
   rw [List.length_cons];omega
  ·exact Nat.le_refl _
def uqGo:Nat→List Int→List Int→Option (List Int×List Int)
 |0,_,_=>none
 |f+1,out,[]=>some (out,[])
 |f+1,out,r::t=>
  if r=34 then some (out,r::t)
  else if r<32∨r=127 then none
  else if r≠92 then uqGo f (out++[r]) t
  else match t with
   |[]=>none
   |c::t2=>
    if c=34∨c=92 then uqGo f (out++[c]) t2
    else if c=110 then uqGo f (out++[10]) t2
    else if c=116 then uqGo f (out++[9]) t2
    else if c=117 then (match t2 with
     |[]=>none
     |x::t3=>if x=123 then (match (hexGo 0 0 t3).t with
       |[]=>none
       |y::t5=>if y≠125∨(hexGo 0 0 t3).k=0∨validR (hexGo 0 0 t3).v=false then none else uqGo f (out++[((hexGo 0 0 t3).v:Int)]) t5) else none)
    else none
theorem uqGo_cons (f:Nat) (out:List Int) (r:Int) (t:List Int):uqGo (f+1) out (r::t)=
  if r=34 then some (out,r::t)
  else if r<32∨r=127 then none
  else if r≠92 then uqGo f (out++[r]) t
  else match t with
   |[]=>none
   |c::t2=>
    if c=34∨c=92 then uqGo f (out++[c]) t2
    else if c=110 then uqGo f (out++[10]) t2
    else if c=116 then uqGo f (out++[9]) t2
    else if c=117 then (match t2 with
     |[]=>none
     |x::t3=>if x=123 then (match (hexGo 0 0 t3).t with
       |[]=>none
       |y::t5=>if y≠125∨(hexGo 0 0 t3).k=0∨validR (hexGo 0 0 t3).v=false then none else uqGo f (out++[((hexGo 0 0 t3).v:Int)]) t5) else none)
    else none:=by
 rw [uqGo.eq_def]
def finU (p:Rd×Bool):Option (List Int):=if p.2=false then none else if p.1.st≠4 then none else some p.1.out
def finR:Option (List Int×List Int)→Option (List Int)
 |some (o,[_])=>some o
 |_=>none
def uqEnd (R:Option (List Int×List Int)):List UInt8×Int:=match finR R with
 |none=>([],5)
 |some o=>if 120<o.length then ([],9) else (textR o,0)
def uqR (l:List Int):List UInt8×Int:=
 if goodR l=false∨l.head?≠some 34 then ([],5)
 else uqEnd (uqGo (l.length+1) [] l.tail)
theorem takeU_0 (x:Rd) (r:Int) (h:x.st=0):takeU x r=if r=34 then ({x with st:=4},true) else if r=92 then ({x with st:=1},true) else if r<32∨r=127 then (x,false) else ({x with out:=x.out++[r]},true):=by
 unfold takeU
 rw [if_neg (by omega),if_neg (by omega),if_neg (by omega),if_neg (by omega)]
theorem takeU_1 (x:Rd) (r:Int) (h:x.st=1):takeU x r=afterR x r:=by unfold takeU;rw [if_pos h]
theorem takeU_2 (x:Rd) (r:Int) (h:x.st=2):takeU x r=({x with st:=3,n:=0,c:=0},decide (r=123)):=by
 unfold takeU
 rw [if_neg (by omega),if_pos h]
theorem takeU_3 (x:Rd) (r:Int) (h:x.st=3):takeU x r=withinR x r:=by
 unfold takeU
 rw [if_neg (by omega),if_neg (by omega),if_pos h]
theorem takeU_4 (x:Rd) (r:Int) (h:x.st=4):takeU x r=(x,false):=by
 unfold takeU
 rw [if_neg (by omega),if_neg (by omega),if_neg (by omega),if_pos h]
theorem finU_no (x:Rd) (h:x.st≠4):finU (x,true)=none:=by
 unfold finU
 rw [if_neg (by simp),if_pos h]
theorem finU_bad (x:Rd):finU (x,false)=none:=by unfold finU;rw [if_pos rfl]
theorem unRun_cons (x:Rd) (r:Int) (l:List Int):unRun x (r::l)=if (takeU x r).2=true then unRun (takeU x r).1 l else ((takeU x r).1,false):=rfl
theorem unRun_hex: ∀(m:List Int) (x:Rd),x.st=3→finU (unRun x m)=match (hexGo x.c x.n m).t with
  |[]=>none
  |y::t5=>if y≠125∨(hexGo x.c x.n m).k=0∨validR (hexGo x.c x.n m).v=false then none else finU (unRun ⟨x.out++[((hexGo x.c x.n m).v:Int)],0,(hexGo x.c x.n m).v,(hexGo x.c x.n m).k⟩ t5)
 |[],x,h=>finU_no x (by omega)
 |r::t,x,h=>by
  rw [unRun_cons,takeU_3 x r h]
  unfold withinR
  rw [hexGo]
  by_cases c1:0≤hexR r∧x.c<6
  ·rw [if_pos c1,if_pos c1,if_pos rfl]
   exact unRun_hex t _ h
  ·rw [if_neg c1,if_neg c1]
   dsimp only
   by_cases c2:r≠125∨x.c=0∨validR x.n=false
   ·rw [if_pos c2,if_pos c2,if_neg (show ¬(x,false).2=true from by intro h;cases h),finU_bad]
   ·rw [if_neg c2,if_neg c2,if_pos rfl]
theorem unRun_ref: ∀(n:Nat) (m:List Int) (f:Nat) (x:Rd),m.length≤n→m.length<f→x.st=0→finU (unRun x m)=finR (uqGo f x.out m):=by
 intro n
 induction n using Nat.strongRecOn with
 |ind n ih=>
 intro m f x hn hf hst
 obtain ⟨f,rfl⟩: ∃g,f=g+1:=⟨f - 1,by omega⟩
 cases m with
 |nil=>
  rw [uqGo]
  exact finU_no x (by omega)
 |cons r t=>
  simp only [List.length_cons] at hn hf
  rw [unRun_cons,takeU_0 x r hst,uqGo_cons]
  by_cases c1:r=34
  ·rw [if_pos c1,if_pos c1,if_pos rfl]
   dsimp only
   cases t with
   |nil=>rfl
   |cons a t2=>
    rw [unRun_cons,takeU_4 _ _ rfl,if_neg (show ¬(({x with st:=4}:Rd),false).2=true from by intro h;cases h),finU_bad]
    rfl
  rw [if_neg c1,if_neg c1]
  by_cases c2:r=92
  ·rw [if_pos c2,if_neg (show ¬(r<32∨r=127) by omega),if_neg (show ¬(r≠92) from fun h=>h c2),if_pos rfl]
   dsimp only
   cases t with
   |nil=>exact finU_no _ (by dsimp only;omega)
   |cons c t2=>
    simp only [List.length_cons] at hn hf
    rw [unRun_cons,takeU_1 _ _ rfl]
    unfold afterR
    dsimp only
    by_cases d1:c=34∨c=92
    ·rw [if_pos d1,if_pos d1,if_pos rfl]
     exact ih t2.length (by omega) t2 f _ (Nat.le_refl _) (by omega) rfl
    rw [if_neg d1,if_neg d1]
    by_cases d2:c=110
    ·rw [if_pos d2,if_pos d2,if_pos rfl]
     exact ih t2.length (by omega) t2 f _ (Nat.le_refl _) (by omega) rfl
    rw [if_neg d2,if_neg d2]
    by_cases d3:c=116
    ·rw [if_pos d3,if_pos d3,if_pos rfl]
     exact ih t2.length (by omega) t2 f _ (Nat.le_refl _) (by omega) rfl
    rw [if_neg d3,if_neg d3]
    by_cases d4:c=117
    ·rw [if_pos d4,if_pos d4,if_pos rfl]
     dsimp only
     cases t2 with
     |nil=>exact finU_no _ (by dsimp only;omega)
     |cons y t3=>
      simp only [List.length_cons] at hn hf
      rw [unRun_cons,takeU_2 _ _ rfl]
      dsimp only
      by_cases e1:y=123
      ·rw [if_pos (decide_eq_true e1),if_pos e1,unRun_hex t3 _ rfl]
       dsimp only
       have hl:=hexGo_len t3 0 0
       generalize hexGo 0 0 t3=H at *
       obtain ⟨hk,hv,ht⟩:=H
       dsimp only at hl ⊢
       cases ht with
       |nil=>rfl
       |cons z t5=>
        dsimp only
        simp only [List.length_cons] at hl
        by_cases e2:z≠125∨hk=0∨validR hv=false
        ·rw [if_pos e2,if_pos e2]
         rfl
        ·rw [if_neg e2,if_neg e2]
         exact ih t5.length (by omega) t5 f _ (Nat.le_refl _) (by omega) rfl
      ·rw [if_neg (by rw [decide_eq_false e1];decide),if_neg e1,finU_bad]
       rfl
    ·rw [if_neg d4,if_neg d4,if_neg (show ¬(({x with st:=0}:Rd),false).2=true from by intro h;cases h),finU_bad]
     rfl
  rw [if_neg c2,if_pos c2]
  by_cases c3:r<32∨r=127
  ·rw [if_pos c3,if_pos c3,if_neg (show ¬(x,false).2=true from by intro h;cases h),finU_bad]
   rfl
  ·rw [if_neg c3,if_neg c3,if_pos rfl]
   exact ih t.length (by omega) t f _ (Nat.le_refl _) (by omega) hst
theorem uq_eq (l:List Int):unqF l=uqR l:=by
 unfold unqF uqR
 by_cases c:goodR l=false∨l.head?≠some 34
 ·rw [if_pos c,if_pos c]
 ·rw [if_neg c,if_neg c]
  have h:=unRun_ref l.tail.length l.tail (l.length+1) rd0 (Nat.le_refl _) (by rw [List.length_tail];omega) rfl
  rw [show rd0.out=[] from rfl] at h
  unfold uqEnd
  rw [←h]
  generalize unRun rd0 l.tail=p at *
  unfold finU
  by_cases c1:p.2=false
  ·rw [if_pos c1,if_pos c1]
  ·rw [if_neg c1,if_neg c1]
   by_cases c2:p.1.st≠4
   ·rw [if_pos c2,if_pos c2]
   ·rw [if_neg c2,if_neg c2]
end Go.Ai
namespace Go.Ai
open Go.Proofs Go.Shelf
theorem textR_snoc (l:List Int) (q:Nat):textR (l++[(q:Int)])=textR l++encN q:=by
 rw [textR_append]
 have:encR (q:Int)=encN q:=by unfold encR;rw [if_neg (by omega),Int.toNat_natCast]
 rw [textR,textR,List.append_nil,this]
theorem uqEnd_none:uqEnd none=([],5):=rfl
theorem hex_tail (S:Nat→Nat→In→Out→Prop) (K2:St→Prop) (E E2:AE→St→Prop) (e:List (Nat×AV)) (bx:List (Id×List AV)) (a b j k:Int) (h1:lk e 103= .int .i32 a) (h2:lk e 108= .int .i32 b) (h3:lk e 7= .int .i64 j) (h4:lk e 10= .int .i64 k)
  (hK:K2 ⟨(10,.int .i64 (IntKind.i64.wrap (k+1)))::(113,.int .i64 (IntKind.i64.wrap (k+1)))::(112,.int .i64 k)::(7,.int .i64 (IntKind.i64.wrap (j+1)))::(111,.int .i64 (IntKind.i64.wrap (j+1)))::(110,.int .i64 j)::(8,.int .i32 (IntKind.i32.wrap (a+b)))::(109,.int .i32 (IntKind.i32.wrap (a+b)))::e,bx,[]⟩):
  wpL S [.bi 109 .add (.s 103) (.s 108),.mv 8 (.s 109)] (AE.sq (wpA S ((AC.rg [.mv 110 (.s 7),.bi 111 .add (.s 110) (.c (.int .i64 1)),.mv 7 (.s 111)]).sq (.rg [.mv 112 (.s 10),.bi 113 .add (.s 112) (.c (.int .i64 1)),.mv 10 (.s 113)])) (AE.bl 4 (AE.sq K2 E))) E2 .n) ⟨e,bx,[]⟩:=by
 simp -implicitDefEqProofs [h1,h2,h3,h4]
 exact hK
set_option maxHeartbeats 2000000 in
theorem runquote_spec (s:List UInt8) (hl:s.length≤200000):Sp Tryz.prog gl 31 [.str s] (.tup [.str (uqR (runesL s 0)).1,i6 (uqR (runesL s 0)).2]):=by
 refine s31 rfl rfl ?_
 have RS:=runes_spec s (by omega)
 have GO:=rgood_spec s (by omega)
 have hlen:=runesL_len s s.length 0 (by omega)
 have hok:=runesL_okR s s.length 0 (by omega)
 generalize runesL s 0=l at *
 have rl:=runeRows_len l
 have rat:=runeRows_at l
 generalize runeRows l=RR at *
 unfold uqR
 cases hg:goodR l
 ·rw [hg] at GO
  rw [if_pos (.inl rfl)]
  simp -implicitDefEqProofs [c31]
  refine onC_mk _ (RS) ?_
  simp -implicitDefEqProofs
  refine onC_mk _ (GO) ?_
  simp -implicitDefEqProofs
 rw [hg] at GO
 have hnn: ∀r∈l,0≤r∧r≤1114111:=fun r hr=>by
  have h1:=good_all hg r hr
  rcases hok r hr with h|h
  ·exact absurd h h1
  ·omega
 by_cases c1:l.head?=some 34
 rotate_left
 ·rw [if_pos (.inr c1)]
  by_cases g2:l.length<2
  ·have g2':(l.length:Int)<2:=by omega
   simp -implicitDefEqProofs [c31]
   refine onC_mk _ (RS) ?_
   simp -implicitDefEqProofs
   refine onC_mk _ (GO) ?_
   simp -implicitDefEqProofs [rl,g2,g2']
  ·have g2': ¬(l.length:Int)<2:=by omega
   have g0:0<l.length:=by omega
   have gR:0<RR.length:=by omega
   have ra:=rat 0 g0 gR
   have h34:(l[0]!=34)=true:=by
    rw [bne_iff_ne]
    intro h
    apply c1
    rw [List.head?_eq_getElem?,List.getElem?_eq_getElem g0,h]
   simp -implicitDefEqProofs [c31]
   refine onC_mk _ (RS) ?_
   simp -implicitDefEqProofs
   refine onC_mk _ (GO) ?_
   simp -implicitDefEqProofs [rl,g2,g2',g0,gR,ra,h34]
 rw [if_neg (by rintro (h|h);cases h;exact h c1)]
 have g0:0<l.length:=by
  cases l with
  |nil=>cases c1
  |cons a t=>simp
 have l0:l[0]=34:=by
  rw [List.head?_eq_getElem?,List.getElem?_eq_getElem g0] at c1
  exact Option.some.inj c1
 have et:l.tail=l.drop 1:=by cases l<;>rfl
 rw [et]
 by_cases g2:l.length<2
 ·have g2':(l.length:Int)<2:=by omega
  have e1:l.drop 1=[]:=List.drop_eq_nil_of_le (by omega)
  rw [e1]
  have e2:uqGo (l.length+1) [] []=some ([],[]):=rfl
  rw [e2]
  simp -implicitDefEqProofs [c31]
  refine onC_mk _ (RS) ?_
  simp -implicitDefEqProofs
  refine onC_mk _ (GO) ?_
  simp -implicitDefEqProofs [rl,g2,g2',finR,uqEnd]
 have g2': ¬(l.length:Int)<2:=by omega
 have gR0:0<RR.length:=by omega
 have ra0:=rat 0 g0 gR0
 rw [l0] at ra0
 obtain ⟨R,hR⟩: ∃R,R=uqGo (l.length+1) [] (l.drop 1):=⟨_,rfl⟩
 rw [←hR]
 simp -implicitDefEqProofs [c31]
 refine onC_mk _ (RS) ?_
 simp -implicitDefEqProofs
 refine onC_mk _ (GO) ?_
 simp -implicitDefEqProofs [rl,g2,g2',g0,gR0,ra0]
 clear RS GO ra0
 refine wp_lpk (α:=Nat×Nat×List Int) (fun y=>⟨[(4,.sl RR),(5,.str (textR y.2.2)),(6,i6 y.2.2.length),(7,i6 y.2.1)],[],[]⟩)
  (fun y=>1≤y.2.1∧y.2.1≤l.length∧l.length - y.2.1<y.1∧y.2.2.length≤y.2.1∧uqGo y.1 y.2.2 (l.drop y.2.1)=R) (fun y=>l.length - y.2.1) ?_ (l.length+1,1,[]) ?_ ?_
 ·rintro K ⟨f,i,out⟩ hK ⟨h0,h1,h2,h3,h4⟩
  simp only at h0 h1 h2 h3 h4
  obtain ⟨f,rfl⟩: ∃g,f=g+1:=⟨f - 1,by omega⟩
  have tl:=textR_len out
  have t1:IntKind.i64.wrap ((i:Int)+1)=(i+1:Nat):=by rw [wrap_i64]<;>omega
  have tn:IntKind.i64.wrap ((out.length:Int)+1)=(out.length+1:Nat):=by rw [wrap_i64]<;>omega
  have tm:IntKind.i64.wrap ((l.length:Int) - 1)=(l.length:Int) - 1:=by rw [wrap_i64]<;>omega
  have fin: ∀j (q:Nat),i<j→j≤l.length→uqGo f (out++[(q:Int)]) (l.drop j)=R→ ∀σ',Weak σ' ⟨[(4,.sl RR),(5,.str (textR out++encN q)),(6,i6 (out.length+1:Nat)),(7,i6 j)],[],[]⟩→K σ':=
   fun j q a1 a2 a3 σ' hσ=>hK (f,j,out++[(q:Int)]) σ' ⟨by simp only;omega,a2,by simp only;omega,by simp only [List.length_append,List.length_cons,List.length_nil];omega,a3⟩ (by simp only;omega) (by
    simp only
    rw [textR_snoc,List.length_append]
    exact hσ)
  clear hK hR
  by_cases g:i<l.length
  rotate_left
  ·obtain rfl:i=l.length:=by omega
   rw [List.drop_length,uqGo] at h4
   subst h4
   have e:uqEnd (some (out,[]))=([],5):=rfl
   rw [e]
   have c5:((l.length:Int)!=(l.length:Int) - 1)=true:=by rw [bne_iff_ne];omega
   have c5': ¬(l.length:Int)=(l.length:Int) - 1:=by omega
   simp -implicitDefEqProofs [rl,tm,c5,c5']
  have g':(i:Int)<l.length:=by omega
  have gR:i<RR.length:=by omega
  have ra:=rat i g gR
  have hn:=hnn l[i] (List.getElem_mem g)
  rw [List.drop_eq_getElem_cons g,uqGo_cons] at h4
  by_cases d1:l[i]=34
  ·rw [if_pos d1] at h4
   have d1':(l[i]!=34)=false:=by rw [d1];rfl
   subst h4
   by_cases c5:i+1=l.length
   ·have e1:l.drop (i+1)=[]:=List.drop_eq_nil_of_le (by omega)
    have c5':((i:Int)!=(l.length:Int) - 1)=false:=by rw [bne_eq_false_iff_eq];omega
    have c5'':(i:Int)=(l.length:Int) - 1:=by omega
    rw [e1]
    by_cases c6:120<out.length
    ·have e:uqEnd (some (out,[l[i]]))=([],9):=by unfold uqEnd finR;simp only [if_pos c6]
     rw [e]
     have c6':(120:Int)<out.length:=by omega
     simp -implicitDefEqProofs [g,g',gR,ra,rl,d1,d1',tm,c5',c6,c6']
    ·have e:uqEnd (some (out,[l[i]]))=(textR out,0):=by unfold uqEnd finR;simp only [if_neg c6]
     rw [e]
     have c6': ¬(120:Int)<out.length:=by omega
     simp -implicitDefEqProofs [g,g',gR,ra,rl,d1,d1',tm,c5',c6,c6']
   ·have c5':((i:Int)!=(l.length:Int) - 1)=true:=by rw [bne_iff_ne];omega
    have c5'': ¬(i:Int)=(l.length:Int) - 1:=by omega
    rw [List.drop_eq_getElem_cons (show i+1<l.length by omega)]
    have e:uqEnd (some (out,l[i]::l[i+1]::l.drop (i+1+1)))=([],5):=rfl
    rw [e]
    simp -implicitDefEqProofs [g,g',gR,ra,rl,d1,d1',tm,c5',c5'']
  rw [if_neg d1] at h4
  have d1':(l[i]!=34)=true:=bne_iff_ne.2 d1
  have d1'':(l[i]==34)=false:=beq_eq_false_iff_ne.2 d1
  by_cases d2:l[i]<32∨l[i]=127
  ·rw [if_pos d2] at h4
   subst h4
   rw [uqEnd_none]
   have d3:l[i]<32∨(¬l[i]<32∧(l[i]==127)=true):=by
    by_cases h:l[i]<32
    ·exact .inl h
    ·exact .inr ⟨h,by rw [beq_iff_eq];omega⟩
   rcases d3 with d3|⟨d3,d4⟩
   ·simp [g,g',gR,ra,rl,d1,d1',d1'',d3]
   ·simp [g,g',gR,ra,rl,d1,d1',d1'',d3,d4]
  rw [if_neg d2] at h4
  have d3: ¬l[i]<32:=fun h=>d2 (.inl h)
  have d4:(l[i]==127)=false:=beq_eq_false_iff_ne.2 (fun h=>d2 (.inr h))
  by_cases d5:l[i]=92
  rotate_left
  ·rw [if_pos d5] at h4
   obtain ⟨q,hq⟩: ∃q:Nat,l[i]=q:=⟨l[i].toNat,by omega⟩
   rw [hq] at h4 hn d1' d1'' d3 d4 ra d5
   have d5':((q:Int)==92)=false:=beq_eq_false_iff_ne.2 d5
   have BS:=rbytes_spec q (by omega)
   have fin:=fin (i+1) q (by omega) (by omega) h4
   have el:=encN_len q
   generalize encN q=E at *
   generalize textR out=T at *
   have hl2:T.length+E.length≤9223372036854775807:=by omega
   simp -implicitDefEqProofs [g,g',gR,ra,rl,d1',d1'',d3,d4,d5',t1]
   refine onC_mk _ (BS) ?_
   simp -implicitDefEqProofs [hl2]
   refine fin _ ?_
   refine weak_mk ?_ ?_ ?_ ?_ ?_ ?_<;>simp -implicitDefEqProofs [t1,tn]
  rw [if_neg (fun h=>h d5)] at h4
  obtain ⟨m,hm⟩: ∃m,m=i+1:=⟨_,rfl⟩
  rw [←hm] at h4 t1
  rw [d5] at ra d1' d1'' d3 d4
  by_cases gm:m<l.length
  rotate_left
  ·rw [List.drop_eq_nil_of_le (by omega)] at h4
   dsimp only at h4
   subst h4
   rw [uqEnd_none]
   have gm':(l.length:Int)≤m:=by omega
   simp -implicitDefEqProofs [g,g',gR,ra,rl,t1,gm,gm']
  have gm': ¬(l.length:Int)≤m:=by omega
  have gmR:m<RR.length:=by omega
  have rm:=rat m gm gmR
  have hnm:=hnn l[m] (List.getElem_mem gm)
  rw [List.drop_eq_getElem_cons gm] at h4
  dsimp only at h4
  have t2:IntKind.i64.wrap ((m:Int)+1)=(m+1:Nat):=by rw [wrap_i64]<;>omega
  have ne: ∀z:Int,¬l[m]=z→(l[m]==z)=false:=fun z h=>beq_eq_false_iff_ne.2 h
  by_cases e1:l[m]=34∨l[m]=92
  ·rw [if_pos e1] at h4
   obtain ⟨q,hq⟩: ∃q:Nat,l[m]=q:=⟨l[m].toNat,by omega⟩
   rw [hq] at h4 rm e1 hnm
   have BS:=rbytes_spec q (by omega)
   have fin:=fin (m+1) q (by omega) (by omega) h4
   have el:=encN_len q
   have e1':((q:Int)==34)=true∨(((q:Int)==34)=false∧((q:Int)==92)=true):=by
    by_cases h:(q:Int)=34
    ·left;rw [h];rfl
    ·right;exact ⟨beq_eq_false_iff_ne.2 h,by rw [beq_iff_eq];omega⟩
   generalize encN q=E at *
   generalize textR out=T at *
   have hl2:T.length+E.length≤9223372036854775807:=by omega
   rcases e1' with e1'|⟨e1',e2'⟩
   ·simp [g,g',gR,ra,rl,t1,gm,gm',gmR,rm,t2,e1']
    refine onC_mk _ (BS) ?_
    simp -implicitDefEqProofs [hl2]
    refine fin _ ?_
    refine weak_mk ?_ ?_ ?_ ?_ ?_ ?_<;>simp -implicitDefEqProofs [t2,tn]
   ·simp [g,g',gR,ra,rl,t1,gm,gm',gmR,rm,t2,e1',e2']
    refine onC_mk _ (BS) ?_
    simp -implicitDefEqProofs [hl2]
    refine fin _ ?_
    refine weak_mk ?_ ?_ ?_ ?_ ?_ ?_<;>simp -implicitDefEqProofs [t2,tn]
  rw [if_neg e1] at h4
  have n1:=ne 34 (fun h=>e1 (.inl h))
  have n2:=ne 92 (fun h=>e1 (.inr h))
  by_cases e2:l[m]=110
  ·rw [if_pos e2] at h4
   rw [e2] at rm
   have BS:=rbytes_spec 10 (by omega)
   have fin:=fin (m+1) 10 (by omega) (by omega) h4
   have el:=encN_len 10
   generalize encN 10=E at *
   generalize textR out=T at *
   have hl2:T.length+E.length≤9223372036854775807:=by omega
   simp -implicitDefEqProofs [g,g',gR,ra,rl,t1,gm,gm',gmR,rm,t2]
   refine onC_mk _ (BS) ?_
   simp -implicitDefEqProofs [hl2]
   refine fin _ ?_
   refine weak_mk ?_ ?_ ?_ ?_ ?_ ?_<;>simp -implicitDefEqProofs [t2,tn]
  rw [if_neg e2] at h4
  have n3:=ne 110 e2
  by_cases e3:l[m]=116
  ·rw [if_pos e3] at h4
   rw [e3] at rm
   have BS:=rbytes_spec 9 (by omega)
   have fin:=fin (m+1) 9 (by omega) (by omega) h4
   have el:=encN_len 9
   generalize encN 9=E at *
   generalize textR out=T at *
   have hl2:T.length+E.length≤9223372036854775807:=by omega
   simp -implicitDefEqProofs [g,g',gR,ra,rl,t1,gm,gm',gmR,rm,t2]
   refine onC_mk _ (BS) ?_
   simp -implicitDefEqProofs [hl2]
   refine fin _ ?_
   refine weak_mk ?_ ?_ ?_ ?_ ?_ ?_<;>simp -implicitDefEqProofs [t2,tn]
  rw [if_neg e3] at h4
  have n4:=ne 116 e3
  by_cases e4:l[m]=117
  rotate_left
  ·rw [if_neg e4] at h4
   subst h4
   rw [uqEnd_none]
   have n5:=ne 117 e4
   simp -implicitDefEqProofs [g,g',gR,ra,rl,t1,gm,gm',gmR,rm,t2,n1,n2,n3,n4,n5]
  rw [if_pos e4] at h4
  rw [e4] at rm
  obtain ⟨p,hp⟩: ∃p,p=m+1:=⟨_,rfl⟩
  rw [←hp] at h4 t2
  by_cases gp:p<l.length
  rotate_left
  ·rw [List.drop_eq_nil_of_le (by omega)] at h4
   dsimp only at h4
   subst h4
   rw [uqEnd_none]
   have gp':(l.length:Int)≤p:=by omega
   simp -implicitDefEqProofs [g,g',gR,ra,rl,t1,gm,gm',gmR,rm,t2,gp,gp']
  have gp': ¬(l.length:Int)≤p:=by omega
  have gpR:p<RR.length:=by omega
  have rp:=rat p gp gpR
  rw [List.drop_eq_getElem_cons gp] at h4
  dsimp only at h4
  have t3:IntKind.i64.wrap ((p:Int)+1)=(p+1:Nat):=by rw [wrap_i64]<;>omega
  by_cases e5:l[p]=123
  rotate_left
  ·rw [if_neg e5] at h4
   subst h4
   rw [uqEnd_none]
   have e5':(l[p]!=123)=true:=bne_iff_ne.2 e5
   have e5'':(l[p]==123)=false:=beq_eq_false_iff_ne.2 e5
   simp -implicitDefEqProofs [g,g',gR,ra,rl,t1,gm,gm',gmR,rm,t2,gp,gp',gpR,rp,e5',e5'']
  rw [if_pos e5] at h4
  rw [e5] at rp
  obtain ⟨H,hH⟩: ∃H,H=hexGo 0 0 (l.drop (p+1)):=⟨_,rfl⟩
  rw [←hH] at h4
  have fin: ∀j (v:Nat),p<j→j<l.length→v≤1114111→uqGo f (out++[(v:Int)]) (l.drop (j+1))=R→ ∀σ',Weak σ' ⟨[(4,.sl RR),(5,.str (textR out++encN v)),(6,i6 (out.length+1:Nat)),(7,i6 (j+1:Nat))],[],[]⟩→K σ':=
   fun j v a1 a2 a3 a4=>fin (j+1) v (by omega) (by omega) a4
  have hT:(textR out).length≤1000000:=by omega
  generalize textR out=T at *
  simp -implicitDefEqProofs [g,g',gR,ra,rl,t1,gm,gm',gmR,rm,t2,gp,gp',gpR,rp,t3]
  clear ra rm rp
  refine wp_lpk (α:=Nat×Nat×Nat) (fun y=>⟨[(4,.sl RR),(5,.str T),(6,i6 out.length),(7,i6 y.2.2),(8,i3 y.2.1),(10,i6 y.1)],[],[]⟩)
   (fun y=>p<y.2.2∧y.2.2≤l.length∧y.1≤6∧y.2.1<16^y.1∧hexGo y.1 y.2.1 (l.drop y.2.2)=H) (fun y=>l.length - y.2.2) ?_ (0,0,p+1) ?_ ?_
  ·rintro K2 ⟨k,v,j⟩ hK2 ⟨k1,k2,k3,k4,k5⟩
   simp only at k1 k2 k3 k4 k5
   have u1:IntKind.i64.wrap ((j:Int)+1)=(j+1:Nat):=by rw [wrap_i64]<;>omega
   have u2:IntKind.i64.wrap ((k:Int)+1)=(k+1:Nat):=by rw [wrap_i64]<;>omega
   by_cases gj:j<l.length
   rotate_left
   ·obtain rfl:j=l.length:=by omega
    rw [List.drop_length,hexGo] at k5
    subst k5
    dsimp only at h4
    subst h4
    rw [uqEnd_none]
    clear hK2
    by_cases c7:k=0
    ·subst c7
     simp -implicitDefEqProofs [rl]
    ·have c7':((k:Int)==0)=false:=beq_eq_false_iff_ne.2 (by omega)
     simp -implicitDefEqProofs [rl,c7']
   have gj':(j:Int)<l.length:=by omega
   have gj'': ¬(l.length:Int)≤j:=by omega
   have gjR:j<RR.length:=by omega
   have rj:=rat j gj gjR
   have D:=rdig06_spec l[j]
   have hx:=hexR_lt l[j]
   rw [List.drop_eq_getElem_cons gj,hexGo] at k5
   by_cases c8:0≤hexR l[j]∧k<6
   ·rw [if_pos c8] at k5
    have nlt:v<1048576:=Nat.lt_of_lt_of_le k4 (Nat.le_trans (Nat.pow_le_pow_right (by omega) (show k≤5 by omega)) (by decide))
    have hz:((hexR l[j]).toNat:Int)=hexR l[j]:=by omega
    have w1:IntKind.i32.wrap (16*(v:Int))=16*(v:Int):=by rw [wrap_i32']<;>omega
    have w2:IntKind.i32.wrap (16*(v:Int)+hexR l[j])=((16*v+(hexR l[j]).toNat:Nat):Int):=by rw [wrap_i32']<;>omega
    have kf:(k:Int)<6:=by omega
    have kf2:=c8.2
    have hx0:=c8.1
    have fin2: ∀σ',Weak σ' ⟨[(4,.sl RR),(5,.str T),(6,i6 out.length),(7,i6 (j+1:Nat)),(8,i3 (16*v+(hexR l[j]).toNat:Nat)),(10,i6 (k+1:Nat))],[],[]⟩→K2 σ':=
     fun σ' hσ=>hK2 (k+1,16*v+(hexR l[j]).toNat,j+1) σ' ⟨by simp only;omega,by simp only;omega,by simp only;omega,by simp only;rw [Nat.pow_succ];omega,k5⟩ (by simp only;omega) hσ
    clear hK2 fin k5 c8
    generalize ((16*v+(hexR l[j]).toNat:Nat):Int)=NV at *
    generalize hexR l[j]=hh at *
    simp -implicitDefEqProofs [gj,gj',gjR,rj,rl]
    refine onC_mk _ (D) ?_
    simp -implicitDefEqProofs [hx0,kf,kf2,gj,gjR,rj,rl]
    simp only [w1]
    have w3:IntKind.i32.wrap (16*(v:Int))=16*(v:Int):=w1
    generalize hV16:16*(v:Int)=V16 at *
    refine onC_mk _ (D) ?_
    refine hex_tail _ _ _ _ _ _ V16 hh j k rfl rfl rfl rfl ?_
    rw [w2]
    refine fin2 _ ?_
    refine weak_mk ?_ ?_ ?_ ?_ ?_ ?_<;>simp -implicitDefEqProofs [u1,u2]
   ·rw [if_neg c8] at k5
    subst k5
    dsimp only at h4
    clear hK2
    have vlt:v<16777216:=Nat.lt_of_lt_of_le k4 (Nat.le_trans (Nat.pow_le_pow_right (by omega) k3) (by decide))
    by_cases c9:l[j]=125
    rotate_left
    ·rw [if_pos (.inl c9)] at h4
     subst h4
     rw [uqEnd_none]
     have c9':(l[j]!=125)=true:=bne_iff_ne.2 c9
     have c9'':(l[j]==125)=false:=beq_eq_false_iff_ne.2 c9
     have c7:k=0∨(¬k=0∧((k:Int)==0)=false):=by
      by_cases h:k=0
      ·exact .inl h
      ·exact .inr ⟨h,beq_eq_false_iff_ne.2 (by omega)⟩
     by_cases ch:0≤hexR l[j]
     ·have kn: ¬k<6:=fun h=>c8 ⟨ch,h⟩
      have kn': ¬(k:Int)<6:=by omega
      rcases c7 with c7|⟨c7,c7'⟩
      ·omega
      ·simp [gj,gj',gjR,rj,rl]
       refine onC_mk _ (D) ?_
       simp -implicitDefEqProofs [ch,kn,kn',gj,gj',gj'',gjR,rj,rl,c7,c7',c9',c9'']
     ·rcases c7 with c7|⟨c7,c7'⟩
      ·subst c7
       simp -implicitDefEqProofs [gj,gj',gjR,rj,rl]
       refine onC_mk _ (D) ?_
       simp -implicitDefEqProofs [ch,gj,gj',gj'',gjR,rj,rl,c9',c9'']
      ·simp [gj,gj',gjR,rj,rl]
       refine onC_mk _ (D) ?_
       simp -implicitDefEqProofs [ch,gj,gj',gj'',gjR,rj,rl,c7,c7',c9',c9'']
    rw [c9] at rj D c8
    have e125:hexR 125= -1:=by decide
    rw [e125] at D
    by_cases c7:k=0
    ·rw [if_pos (.inr (.inl c7))] at h4
     subst h4
     subst c7
     rw [uqEnd_none]
     simp -implicitDefEqProofs [gj,gj',gjR,rj,rl]
     refine onC_mk _ (D) ?_
     simp -implicitDefEqProofs [gj,gj',gj'',gjR,rj,rl]
    have c7':((k:Int)==0)=false:=beq_eq_false_iff_ne.2 (by omega)
    by_cases d6:1114111<v
    ·have hv:validR (v:Int)=false:=by unfold validR;simp;omega
     rw [if_pos (.inr (.inr hv))] at h4
     subst h4
     rw [uqEnd_none]
     have d6':(1114111:Int)<v:=by omega
     simp -implicitDefEqProofs [gj,gj',gjR,rj,rl]
     refine onC_mk _ (D) ?_
     simp -implicitDefEqProofs [gj,gj',gj'',gjR,rj,rl,c7,c7',d6,d6']
    have d6': ¬(1114111:Int)<v:=by omega
    by_cases d7:55296≤v
    ·have d7':(55296:Int)≤v:=by omega
     by_cases d8:v<57344
     ·have d8':(v:Int)<57344:=by omega
      have hv:validR (v:Int)=false:=by unfold validR;simp;omega
      rw [if_pos (.inr (.inr hv))] at h4
      subst h4
      rw [uqEnd_none]
      simp -implicitDefEqProofs [gj,gj',gjR,rj,rl]
      refine onC_mk _ (D) ?_
      simp -implicitDefEqProofs [gj,gj',gj'',gjR,rj,rl,c7,c7',d6,d6',d7,d7',d8,d8']
     ·have d8': ¬(v:Int)<57344:=by omega
      have hv:validR (v:Int)=true:=by unfold validR;simp;omega
      rw [if_neg (by rintro (h|h|h);exact h c9;exact c7 h;rw [hv] at h;cases h)] at h4
      have BS:=rbytes_spec v (by omega)
      have fin:=fin j v (by omega) gj (by omega) h4
      have el:=encN_len v
      generalize encN v=E at *
      have hl2:T.length+E.length≤9223372036854775807:=by omega
      simp -implicitDefEqProofs [gj,gj',gjR,rj,rl]
      refine onC_mk _ (D) ?_
      simp -implicitDefEqProofs [gj,gj',gj'',gjR,rj,rl,c7,c7',d6,d6',d7,d7',d8,d8',u1]
      refine onC_mk _ (BS) ?_
      simp -implicitDefEqProofs [hl2]
      refine fin _ ?_
      refine weak_mk ?_ ?_ ?_ ?_ ?_ ?_<;>simp -implicitDefEqProofs [tn,u1]
    ·have d7': ¬(55296:Int)≤v:=by omega
     have hv:validR (v:Int)=true:=by unfold validR;simp;omega
     rw [if_neg (by rintro (h|h|h);exact h c9;exact c7 h;rw [hv] at h;cases h)] at h4
     have BS:=rbytes_spec v (by omega)
     have fin:=fin j v (by omega) gj (by omega) h4
     have el:=encN_len v
     generalize encN v=E at *
     have hl2:T.length+E.length≤9223372036854775807:=by omega
     simp -implicitDefEqProofs [gj,gj',gjR,rj,rl]
     refine onC_mk _ (D) ?_
     simp -implicitDefEqProofs [gj,gj',gj'',gjR,rj,rl,c7,c7',d6,d6',d7,d7',u1]
     refine onC_mk _ (BS) ?_
     simp -implicitDefEqProofs [hl2]
     refine fin _ ?_
     refine weak_mk ?_ ?_ ?_ ?_ ?_ ?_<;>simp -implicitDefEqProofs [tn,u1]
  ·exact ⟨Nat.lt_succ_self _,by simp only;omega,Nat.zero_le _,by simp,hH.symm⟩
  ·refine weak_mk ?_ ?_ ?_ ?_ ?_ ?_<;>simp -implicitDefEqProofs [t3]
 ·exact ⟨Nat.le_refl _,by simp only;omega,by simp only;omega,Nat.zero_le _,hR.symm⟩
 ·refine weak_mk ?_ ?_ ?_ ?_ ?_ ?_<;>simp -implicitDefEqProofs [textR]
open Go.Proofs
def sU (w:List UInt8):List UInt8×Int:=unqF (runesL w 0)
theorem wthn_okR {r:Int} (h:wthn r=true):okR r∧r≠ -1:=by
 unfold wthn letter digR at h
 simp only [Bool.or_eq_true,decide_eq_true_iff] at h
 unfold okR
 omega
theorem toldV_e {k:Int} {q:Nat×Int} {c:Int} (h:toldV k q= .e c):c≠0:=by
 unfold toldV at h
 split at h
 ·cases h
 ·cases h;assumption
theorem sV_e (w:List UInt8) (c:Int) (h:sV w= .e c):c≠0:=by
 unfold sV at h
 split at h
 ·split at h
  ·cases h
  ·cases h;decide
 ·split at h
  ·exact toldV_e h
  ·split at h
   ·exact toldV_e h
   ·split at h
    ·exact toldV_e h
    ·exact toldV_e h
theorem rV_sV (m:List Int) (h0:m≠[]) (hw: ∀r∈m,wthn r=true):rV m=sV (textR m):=by
 have hr:=runesL_textR m (fun r hr=>(wthn_okR (hw r hr)).1)
 have hpos:0<(textR m).length:=by
  by_cases g:0<(textR m).length
  ·exact g
  ·rw [runesL_out g] at hr
   exact absurd hr.symm h0
 have hv:vR (textR m)=m.headD 0:=by
  unfold vR
  rw [if_neg (fun e=>by rw [e] at hpos;cases hpos)]
  rw [runesL_in hpos] at hr
  cases m with
  |nil=>exact absurd rfl h0
  |cons r t=>
   injection hr with h1 h2
   rw [h1,List.headD_cons]
   unfold r65
   rw [if_neg (wthn_okR (hw r (by simp))).2]
 unfold rV sV
 rw [hv]
 cases hd:digR (m.headD 0)
 ·rw [if_pos (Or.inr rfl),if_pos rfl]
 ·rw [if_neg (by rintro (h|h);exact h0 h;cases h),if_neg (by decide)]
  unfold wdR
  generalize textR m=w at *
  have e1:dgsF w=w.all isDig:=by
   unfold dgsF
   rw [decide_eq_true hpos,Bool.and_true]
  have e2:sufB w [37]=true↔byt w (w.length - 1)=37:=by
   rw [sufB_one]
   constructor
   ·exact fun h=>h.2
   ·exact fun h=>⟨hpos,h⟩
  rw [e1,ppF_eq,spanU_eq]
  by_cases c1:w.all isDig=true
  ·rw [if_pos c1,if_pos c1]
  ·rw [if_neg c1,if_neg c1]
   by_cases c2:byt w (w.length - 1)=37
   ·rw [if_pos c2,if_pos (e2.2 c2)]
   ·rw [if_neg c2,if_neg (fun h=>c2 (e2.1 h))]
theorem sHyp:SHyp sV sU rV unqF:=⟨fun _=>rfl,rV_sV,sV_e⟩
def tokF (s:List UInt8):TR:=refF rV sU s
theorem tokF_long {s:List UInt8} (h:40000<s.length):tokF s=⟨[],9,1,1⟩:=by
 unfold tokF refF
 rw [if_pos h]
theorem stokL_spec (s:List UInt8) (h:40000<s.length):Sp Tryz.prog gl 16 [.str s] (tokF s).av:=by
 refine s16 rfl rfl ?_
 have B:=fun (e:Nat) (he:(Id.n 10).isNw e=false)=>sbegin_spec s ⟨[],0,0,0,0,1,1,0,0,0⟩ 0 0 e (.n 10) rfl he
 have hB:Sc.begin ⟨[],0,0,0,0,1,1,0,0,0⟩ 0 0=sc0:=rfl
 rw [hB] at B
 rw [tokF_long h]
 have hl':(40000:Int)<s.length:=by omega
 have W:=fun (e:Nat) (he:(Id.n 10).isNw e=false)=>swrong_spec s sc0 9 e (.n 10) rfl he
 unfold scB Sc.wrong sc0 at *
 simp only [List.map_nil] at B W
 unfold TR.av
 simp -implicitDefEqProofs [c16]
 refine onH_mk _ _ (B _ rfl) ⟨?_,?_,?_,?_,?_,?_,?_⟩ ?_
 iterate 7 (· simp)
 simp -implicitDefEqProofs [h,hl']
 refine onH_mk _ _ (W _ rfl) ⟨?_,?_,?_,?_,?_,?_,?_⟩ ?_
 iterate 7 (· simp)
 simp -implicitDefEqProofs
theorem rtokL_spec (s:List UInt8) (h:40000<s.length):Sp Tryz.prog gl 14 [.str s] (tokF s).av:=by
 refine s14 rfl rfl ?_
 rw [tokF_long h]
 have hl':(40000:Int)<s.length:=by omega
 unfold TR.av
 simp -implicitDefEqProofs [c14,h,hl']
theorem stok_spec (s:List UInt8):Sp Tryz.prog gl 16 [.str s] (tokF s).av:=by
 by_cases h:40000<s.length
 ·exact stokL_spec s h
 ·have:=stokens_spec sV sU s (fun w hw=>tunquote_spec w (by omega)) (fun w hw=>svalue_spec w (by omega))
  rw [scan_ref sHyp s] at this
  exact this
theorem rtok_spec (s:List UInt8):Sp Tryz.prog gl 14 [.str s] (tokF s).av:=by
 by_cases h:40000<s.length
 ·exact rtokL_spec s h
 ·refine rtokens_spec rV sU s (fun w hw=>?_) (fun m hm hr=>rvalue_spec m (by omega) hr)
  have:=runquote_spec w (by omega)
  unfold sU
  rw [uq_eq]
  exact this
def wEf:Nat→List Int→Nat→Nat
 |0,_,i=>i
 |f+1,l,i=>match l[i]? with
  |some r=>if wthn r=true then wEf f l (i+1) else i
  |none=>i
theorem wEnd_f (l:List Int): ∀(f i:Nat),l.length - i≤f→wEnd l i=wEf f l i
 |0,i,h=>by rw [wEnd_out (by omega)];rfl
 |f+1,i,h=>by
  rw [wEf]
  by_cases g:i<l.length
  ·rw [wEnd_in g,List.getElem?_eq_getElem g]
   dsimp only
   rw [wEnd_f l f (i+1) (by omega)]
  ·rw [wEnd_out g,List.getElem?_eq_none (by omega)]
theorem refGo_word (VR:List Int→TV) (U:List UInt8→List UInt8×Int) (l:List Int) (P:List (Int×Int)) (f k:Nat) (out:List Tk) {r:Int} {e:Nat} {kk:Int} {w:List UInt8} {n:Nat} (h:l[k]?=some r) (hw:wthn r=true) (he:wEf l.length l k=e) (hv:VR (subR l k e)= .t kk w n):
  refGo VR U l P (f+1) k out=refGo VR U l P f e (out++[⟨kk,w,n,(P.getD k (0,0)).1,(P.getD k (0,0)).2⟩]):=by
 have hne: ∀z:Int,wthn z=false→r≠z:=fun z hz e=>by rw [←e,hw] at hz;cases hz
 have o:oneF VR U l k r=⟨kk,w,n,e,0⟩:=by
  unfold oneF
  rw [if_neg (hne 123 rfl),if_neg (hne 125 rfl),if_neg (hne 59 rfl),if_neg (hne 34 rfl),if_pos hw,wEnd_f l l.length k (by omega),he,hv]
  rfl
 rw [refGo,h]
 dsimp only
 rw [if_neg (by rintro (h|h|h);exact hne 32 rfl h;exact hne 9 rfl h;exact hne 10 rfl h),if_neg (hne 35 rfl),o,if_pos rfl]
theorem refGo_gap (VR:List Int→TV) (U:List UInt8→List UInt8×Int) (l:List Int) (P:List (Int×Int)) (f k:Nat) (out:List Tk) (h:l[k]?=some 32):refGo VR U l P (f+1) k out=refGo VR U l P f (k+1) out:=by
 rw [refGo,h]
 dsimp only
 rw [if_pos (Or.inl rfl)]
theorem refGo_fin (VR:List Int→TV) (U:List UInt8→List UInt8×Int) (l:List Int) (P:List (Int×Int)) (f k:Nat) (out:List Tk) (h:l[k]?=none):refGo VR U l P (f+1) k out=⟨out++[⟨0,[],0,(P.getD l.length (0,0)).1,(P.getD l.length (0,0)).2⟩],0,0,0⟩:=by
 rw [refGo,h]
open Go.Proofs
theorem item_ok (f:Nat) (hL: ∀g,g<f→LOk g):IOk f:=by
 intro d x l n D b hb hbd hd hn
 refine ⟨fun o l' n' h=>?_,fun c t l' n' h=>?_⟩
 ·refine h29 rfl ?_
  refine item_wp f d x l n D b hb hbd hd hn hL _ _ (by rw [h];simp) (fun o2 l2 n2 h2 σ hp=>?_) (fun c t l' n' h2=>by rw [h] at h2;cases h2)
  rw [h] at h2
  cases h2
  exact hp
 ·refine t29 rfl ?_
  refine item_wp f d x l n D b hb hbd hd hn hL _ _ (by rw [h];simp) (fun o2 l2 n2 h2=>by rw [h] at h2;cases h2) (fun c2 t2 l2 n2 h2 v σ hp=>?_)
  rw [h] at h2
  cases h2
  exact hp
theorem p_ok: ∀f,LOk f∧IOk f:=by
 intro f
 induction f using Nat.strongRecOn with
 |ind f ih=>exact ⟨list_ok f fun g hg=>(ih g hg).2,item_ok f fun g hg=>(ih g hg).1⟩
theorem rec_nil (V:List (List AV)) (a b c:Int) (dm:Nat):SpD Tryz.prog gl 17 dm ⟨[.ptr (.up (.n 2)) 0,.ptr (.up (.n 3)) 0],[(.up (.n 2),[.sl V]),(.up (.n 3),[i6 a,i6 b,i6 c])],[]⟩ .nili ⟨.tup [],[(.up (.n 2),[.sl V]),(.up (.n 3),[i6 a,i6 b,i6 c])],[]⟩:=by
 refine d17 rfl rfl ?_
 simp only [inSt,mpB,mpL,AV.mp,mpP,Pl.mp]
 simp -implicitDefEqProofs [l17,c17]
 refine postH_n ⟨?_,?_,?_,?_,?_,?_⟩<;>simp -implicitDefEqProofs
theorem rec_flt (a b c:Int) (e:Int) (t:Tk) (dm:Nat):SpD Tryz.prog gl 17 dm ⟨[.ptr (.up (.n 2)) 0,.ptr (.up (.n 3)) 0],[(.up (.n 2),[.nils]),(.up (.n 3),[i6 a,i6 b,i6 c])],[]⟩ (fltV e t) ⟨.tup [],[(.up (.n 2),[.nils]),(.up (.n 3),[i6 e,i6 t.ln,i6 t.co])],[]⟩:=by
 refine d17 rfl rfl ?_
 unfold fltV
 simp only [inSt,mpB,mpL,AV.mp,mpP,Pl.mp]
 simp -implicitDefEqProofs [l17,c17]
 refine postH_n ⟨?_,?_,?_,?_,?_,?_⟩<;>simp -implicitDefEqProofs
section
variable {S SP:Nat→Nat→In→Out→Prop} {SD:Nat→Nat→In→AV→Out→Prop} {N sl dm d:Nat} {rs:List AR} {O:Out} {σ:St}
theorem wpDf_sq {a:AC} {r:ACD}:wpDf S SP SD N sl dm d rs O (.sq a r) σ=wpA S a (fun e σ'=>match e with | .n=>wpDf S SP SD N sl dm d rs O r σ'| .r=>postH d rs O .r σ'| .x _=>False) σ:=rfl
theorem wpDf_df {l:List AOp} {x:X} {c2:AC2}:wpDf S SP SD N sl dm d rs O (.df l x c2) σ=wpL S l (fun σ'=>match σ'.v x with
  | .fn g caps=> ∃I M,I.vs.length=N∧CallOk sl σ' ((List.range N).map X.s) I M∧postH d [.t sl] O .r (callSt sl σ' ((List.range N).map X.s) I M)∧
    wpA2 S SP (fun v τ=>(∃T y,v= .ifc T y)∧leftD SD sl dm rs M g caps v τ) c2 (fun e τ=>match e with | .x _=>False|_=>leftD SD sl dm rs M g caps .nili τ) (inSt I)
  |_=>False) σ:=rfl
end
theorem xs22:(List.range 22).map X.s=[.s 0,.s 1,.s 2,.s 3,.s 4,.s 5,.s 6,.s 7,.s 8,.s 9,.s 10,.s 11,.s 12,.s 13,.s 14,.s 15,.s 16,.s 17,.s 18,.s 19,.s 20,.s 21]:=rfl
def parseF (s:List UInt8):List It×Int×Int×Int:=
 if (tokF s).c≠0 then ([],(tokF s).c,(tokF s).a,(tokF s).b)
 else match pL (2*(tokF s).l.length+3) 1 0 [] (tokF s).l 0 with
  | .ok o _ _=>(o,0,0,0)
  | .th c t _ _=>([],c,t.ln,t.co)
  | .no=>([],0,0,0)
def parseV (x:List It×Int×Int×Int):AV:= .tup [.sl (itRows x.1),.agg [i6 x.2.1,i6 x.2.2.1,i6 x.2.2.2]]
set_option maxHeartbeats 2000000 in
theorem parse_any (s:List UInt8) (hno:(tokF s).c=0→pL (2*(tokF s).l.length+3) 1 0 [] (tokF s).l 0≠ .no):Sp Tryz.prog gl 8 [.str s] (parseV (parseF s)):=by
 refine Sp.of_h fun D=>?_
 refine x8 1 1 (by decide) (by decide) rfl ?_
 have TK:=stok_spec s
 unfold parseF parseV
 generalize tokF s=x at *
 obtain ⟨xl,xc,xa,xb⟩:=x
 unfold TR.av at TK
 simp only at *
 simp only [inSt,mpB,mpL,AV.mp,mpP,Pl.mp,c8,wpDf_sq]
 by_cases h0:xc=0
 ·subst h0
  have hno:=hno rfl
  simp -implicitDefEqProofs
  refine onC_mk _ (TK) ?_
  simp -implicitDefEqProofs
  have hL:=fun D h=>(p_ok (2*xl.length+3)).1 1 0 xl 0 D (.n 18) rfl h (by decide) (by decide)
  unfold paB at hL
  cases hP:pL (2*xl.length+3) 1 0 [] xl 0 with
  |no=>exact absurd hP hno
  |ok o l' n'=>
   have LO:=fun D h=>(hL D h).1 _ _ _ hP
   clear hL hno hP
   dsimp only
   generalize itRows o=OR at *
   generalize List.map Tk.row xl=XL at *
   generalize List.map Tk.row l'=L1 at *
   rw [wpDf_df,xs22]
   simp -implicitDefEqProofs
   refine ⟨⟨[.str s,.undef,.ptr (.n 2) 0,.ptr (.n 3) 0,.sl XL,.undef,.tup [.sl XL,.agg [i6 0,i6 xa,i6 xb]],.str s,.tup [.sl XL,.agg [i6 0,i6 xa,i6 xb]],.sl XL,.agg [i6 0,i6 xa,i6 xb],.ptr (.n 3) 0,i6 0,.bool false,.undef,.fn 17 [.ptr (.n 2) 0,.ptr (.n 3) 0],.undef,.undef,.undef,.undef,.undef,.undef],[(.n 2,[.nils]),(.n 3,[i6 0,i6 xa,i6 xb])],[]⟩,rfl,⟨.tup [.sl OR,.agg [i6 0,i6 0,i6 0]],[(.n 2,[.sl OR]),(.n 3,[i6 0,i6 0,i6 0])],[]⟩,⟨?_,?_,?_,?_,?_,?_,?_⟩,?_,?_⟩
   iterate 7 (· simp)
   ·refine postH_r ⟨?_,?_,?_,?_,?_,?_⟩<;>simp -implicitDefEqProofs
   ·simp
    refine onP_h _ _ (LO _ rfl) ⟨?_,?_,?_,?_,?_,?_,?_⟩ ?_
    iterate 7 (· simp)
    simp -implicitDefEqProofs
    refine ⟨_,_,rec_nil OR 0 0 0 1,⟨?_,?_,?_,?_,?_,?_,?_⟩,?_⟩
    iterate 7 (· simp)
    refine postH_r ⟨?_,?_,?_,?_,?_,?_⟩<;>simp -implicitDefEqProofs
  |th c t l' n'=>
   have LT:=fun D h=>(hL D h).2 _ _ _ _ hP
   clear hL hno hP
   dsimp only
   have RF:=rec_flt 0 xa xb c t 1
   generalize List.map Tk.row xl=XL at *
   generalize List.map Tk.row l'=L1 at *
   obtain ⟨tk,tt,tn,tl,tc⟩:=t
   unfold fltV at *
   dsimp only at *
   rw [wpDf_df,xs22]
   simp -implicitDefEqProofs
   refine ⟨⟨[.str s,.undef,.ptr (.n 2) 0,.ptr (.n 3) 0,.sl XL,.undef,.tup [.sl XL,.agg [i6 0,i6 xa,i6 xb]],.str s,.tup [.sl XL,.agg [i6 0,i6 xa,i6 xb]],.sl XL,.agg [i6 0,i6 xa,i6 xb],.ptr (.n 3) 0,i6 0,.bool false,.undef,.fn 17 [.ptr (.n 2) 0,.ptr (.n 3) 0],.undef,.undef,.undef,.undef,.undef,.undef],[(.n 2,[.nils]),(.n 3,[i6 0,i6 xa,i6 xb])],[]⟩,rfl,⟨.tup [.sl [],.agg [i6 c,i6 tl,i6 tc]],[(.n 2,[.nils]),(.n 3,[i6 c,i6 tl,i6 tc])],[]⟩,⟨?_,?_,?_,?_,?_,?_,?_⟩,?_,?_⟩
   iterate 7 (· simp)
   ·refine postH_r ⟨?_,?_,?_,?_,?_,?_⟩<;>simp -implicitDefEqProofs [itRows]
   ·simp
    refine onP_t _ _ (LT _ rfl) ⟨?_,?_,?_,?_,?_,?_,?_⟩ rfl ?_
    iterate 7 (· simp)
    refine ⟨⟨_,_,rfl⟩,_,_,RF,⟨?_,?_,?_,?_,?_,?_,?_⟩,?_⟩
    iterate 7 (· simp)
    refine postH_r ⟨?_,?_,?_,?_,?_,?_⟩<;>simp -implicitDefEqProofs
 ·have h0':(xc !=0)=true:=by simpa using h0
  rw [if_pos h0]
  generalize List.map Tk.row xl=XL at *
  simp -implicitDefEqProofs
  refine onC_mk _ (TK) ?_
  simp -implicitDefEqProofs [h0,h0']
  refine postH_r ⟨?_,?_,?_,?_,?_,?_⟩<;>simp -implicitDefEqProofs [itRows]
open Go.Proofs
structure OkTk (t:Tk):Prop where
 k:1≤t.k∧t.k≤9
 nm:t.k=1→t.n=0
 br:7≤t.k→t.t=[]∧t.n=0
theorem mkOk {k:Int} {w:List UInt8} {n:Nat} {a b:Int} (h1:1≤k∧k≤9) (h2:k=1→n=0) (h3:7≤k→w=[]∧n=0):OkTk ⟨k,w,n,a,b⟩:=⟨h1,h2,h3⟩
def endTk (t:Tk):Prop:=t.k=0∧t.t=[]∧t.n=0
theorem rV_kind {m:List Int} {k:Int} {w:List UInt8} {n:Nat} (h:rV m= .t k w n):(k=1∧n=0)∨(3≤k∧k≤6):=by
 have td: ∀ {j:Int} {q:Nat×Int},toldV j q= .t k w n→k=j:=by
  intro j q h
  unfold toldV at h
  split at h
  ·cases h;rfl
  ·cases h
 unfold rV at h
 split at h
 ·split at h
  ·cases h;exact .inl ⟨rfl,rfl⟩
  ·cases h
 ·unfold wdR at h
  right
  split at h
  ·rw [td h];decide
  split at h
  ·rw [td h];decide
  split at h
  ·rw [td h];decide
  ·rw [td h];decide
theorem rV_e {m:List Int} {c:Int} (h:rV m= .e c):c≠0:=by
 unfold rV at h
 split at h
 ·split at h
  ·cases h
  ·cases h;decide
 ·unfold wdR at h
  repeat' split at h
  all_goals exact toldV_e h
theorem oneF_ok (l:List Int) (i:Nat) (r:Int) (hc:(oneF rV sU l i r).c=0) (a b:Int):OkTk ⟨(oneF rV sU l i r).k,(oneF rV sU l i r).w,(oneF rV sU l i r).n,a,b⟩:=by
 unfold oneF at hc ⊢
 by_cases c1:r=123
 ·rw [if_pos c1];exact mkOk (k:=7) (w:=[]) (n:=0) (by decide) (fun h=>absurd h (by decide)) (fun _=>⟨rfl,rfl⟩)
 rw [if_neg c1] at hc ⊢
 by_cases c2:r=125
 ·rw [if_pos c2];exact mkOk (k:=8) (w:=[]) (n:=0) (by decide) (fun h=>absurd h (by decide)) (fun _=>⟨rfl,rfl⟩)
 rw [if_neg c2] at hc ⊢
 by_cases c3:r=59
 ·rw [if_pos c3];exact mkOk (k:=9) (w:=[]) (n:=0) (by decide) (fun h=>absurd h (by decide)) (fun _=>⟨rfl,rfl⟩)
 rw [if_neg c3] at hc ⊢
 by_cases c4:r=34
 ·rw [if_pos c4] at hc ⊢
  by_cases c5:qGo l (i+1)=0
  ·rw [if_pos c5] at hc;exact absurd hc (by decide)
  ·rw [if_neg c5]
   exact mkOk (k:=2) (n:=0) (by decide) (fun h=>absurd h (by decide)) (fun h=>absurd h (by decide))
 rw [if_neg c4] at hc ⊢
 by_cases c5:wthn r=true
 ·rw [if_pos c5] at hc ⊢
  cases hv:rV (subR l i (wEnd l i)) with
  |e c=>
   rw [hv] at hc
   exact absurd hc (rV_e hv)
  |t k w n=>
   have:=rV_kind hv
   unfold TV.on
   dsimp only
   exact mkOk (by omega) (by omega) (by omega)
 ·rw [if_neg c5] at hc;exact absurd hc (by decide)
theorem refGo_out2 (l:List Int) (P:List (Int×Int)): ∀(f i:Nat) (out:List Tk),l.length - i<f→i≤l.length→(refGo rV sU l P f i out).c=0→ ∃o z,(refGo rV sU l P f i out).l=out++o++[z]∧(∀t∈o,OkTk t)∧endTk z
 |0,i,out,hf,hi,hc=>by omega
 |f+1,i,out,hf,hi,hc=>by
  rw [refGo] at hc ⊢
  cases hl:l[i]? with
  |none=>
   rw [hl] at hc
   refine ⟨[],_,by rw [List.append_nil],(fun t ht=>by cases ht),rfl,rfl,rfl⟩
  |some r=>
   obtain ⟨gi,er⟩:=List.getElem?_eq_some_iff.1 hl
   rw [hl] at hc
   dsimp only at hc ⊢
   by_cases c1:r=32∨r=9∨r=10
   ·rw [if_pos c1] at hc ⊢
    exact refGo_out2 l P f (i+1) out (by omega) (by omega) hc
   rw [if_neg c1] at hc ⊢
   by_cases c2:r=35
   ·rw [if_pos c2] at hc ⊢
    have hs:=skp_le l l.length (i+1) (by omega) (by omega)
    have e:skp l i=skp l (i+1):=by rw [skp_in gi,if_neg (by rw [er,c2];decide)]
    rw [e] at hc ⊢
    exact refGo_out2 l P f _ out (by omega) (by omega) hc
   rw [if_neg c2] at hc ⊢
   by_cases c3:(oneF rV sU l i r).c=0
   ·rw [if_pos c3] at hc ⊢
    have he:=oneF_en rV sU l i gi (by rw [er];exact c3)
    rw [er] at he
    obtain ⟨o,z,h1,h2,h3⟩:=refGo_out2 l P f _ _ (by omega) (by omega) hc
    refine ⟨⟨(oneF rV sU l i r).k,(oneF rV sU l i r).w,(oneF rV sU l i r).n,(P.getD i (0,0)).1,(P.getD i (0,0)).2⟩::o,z,?_,?_,h3⟩
    ·rw [h1];simp only [List.append_assoc,List.singleton_append,List.cons_append,List.nil_append]
    ·intro t ht
     rcases List.mem_cons.1 ht with rfl|ht
     ·exact oneF_ok l i r c3 _ _
     ·exact h2 t ht
   ·rw [if_neg c3] at hc
    exact absurd hc c3
theorem tokF_out {s:List UInt8} (h:(tokF s).c=0): ∃o z,(tokF s).l=o++[z]∧(∀t∈o,OkTk t)∧endTk z:=by
 unfold tokF refF at h ⊢
 split at h
 ·exact absurd h (by decide)
 ·rename_i hl
  rw [if_neg hl]
  obtain ⟨o,z,h1,h2⟩:=refGo_out2 _ _ _ 0 [] (by omega) (Nat.zero_le _) h
  exact ⟨o,z,by rw [h1,List.nil_append],h2⟩
end Go.Ai
namespace Go.Ai
structure Src (l:List Tk):Prop where
 h: ∃o z,l=o++[z]∧(∀t∈o,OkTk t)∧endTk z
theorem Src.ne {l:List Tk} (h:Src l):l≠[]:=by
 obtain ⟨o,z,rfl,_⟩:=h
 simp
theorem Src.cons {t:Tk} {r:List Tk} (h:Src (t::r)):(r=[]∧endTk t∧nxt (t::r)=[t])∨(OkTk t∧Src r∧nxt (t::r)=r):=by
 obtain ⟨o,z,e,ho,hz⟩:=h
 cases o with
 |nil=>
  rw [List.nil_append] at e
  injection e with e1 e2
  subst e1;subst e2
  exact .inl ⟨rfl,hz,rfl⟩
 |cons a o=>
  rw [List.cons_append] at e
  injection e with e1 e2
  subst e1;subst e2
  refine .inr ⟨ho _ (by simp),⟨o,z,rfl,fun t ht=>ho t (by simp [ht]),hz⟩,?_⟩
  cases o with
  |nil=>rfl
  |cons b o=>rfl
mutual
def cntI:It→Nat
 | .mk _ _ _ ks _ _=>1+cntL ks
def cntL:List It→Nat
 |[]=>0
 |x::r=>cntI x+cntL r
end
mutual
def depI:It→Nat
 | .mk _ _ _ ks _ _=>1+depL ks
def depL:List It→Nat
 |[]=>0
 |x::r=>max (depI x) (depL r)
end
mutual
def wfI:It→Prop
 | .mk _ ws b ks _ _=>ws.length≤6∧(∀w∈ws,1≤w.k∧w.k≤6)∧(b=false→ks=[])∧wfL ks
def wfL:List It→Prop
 |[]=>True
 |x::r=>wfI x∧wfL r
end
mutual
def toksI:It→List Tk
 | .mk n ws b ks ln co=>⟨1,n,0,ln,co⟩::(ws++(if b=false then [⟨9,[],0,0,0⟩] else ⟨7,[],0,0,0⟩::(toksL ks++[⟨8,[],0,0,0⟩])))
def toksL:List It→List Tk
 |[]=>[]
 |x::r=>toksI x++toksL r
end
theorem toksL_app: ∀a b:List It,toksL (a++b)=toksL a++toksL b
 |[],b=>rfl
 |x::a,b=>by rw [List.cons_append,toksL,toksL,toksL_app a b,List.append_assoc]
theorem cntL_app: ∀a b:List It,cntL (a++b)=cntL a+cntL b
 |[],b=>by rw [cntL,List.nil_append,Nat.zero_add]
 |x::a,b=>by rw [List.cons_append,cntL,cntL,cntL_app a b,Nat.add_assoc]
theorem wfL_app: ∀a b:List It,wfL (a++b)↔wfL a∧wfL b
 |[],b=>by rw [wfL,List.nil_append];simp
 |x::a,b=>by rw [List.cons_append,wfL,wfL,wfL_app a b,and_assoc]
def unpl (t:Tk):Tk:=⟨t.k,t.t,t.n,if t.k<7 then t.ln else 0,if t.k<7 then t.co else 0⟩
theorem unpl_lo {t:Tk} (h:t.k<7):unpl t=t:=by
 obtain ⟨k,s,n,a,b⟩:=t
 unfold unpl
 dsimp only at *
 rw [if_pos h,if_pos h]
theorem unpl_br {t:Tk} (h:OkTk t) (h7:7≤t.k):unpl t=⟨t.k,[],0,0,0⟩:=by
 obtain ⟨e1,e2⟩:=h.br h7
 unfold unpl
 rw [if_neg (by omega),if_neg (by omega),e1,e2]
def FwL (d:Nat) (e:Int) (out:List It) (l:List Tk) (n:Nat):Pr (List It)→Prop
 | .no=>False
 | .ok o l' n'=> ∃its T t r,o=out++its∧l=T++t::r∧t.k=e∧l'=nxt (t::r)∧Src (t::r)∧T.map unpl=toksL its∧n'=n+cntL its∧(its=[]∨d+depL its≤5)∧wfL its
 | .th c _ _ _=>c≠0
def FwI (d:Nat) (nm:List UInt8) (ln co:Int) (ws l:List Tk) (n:Nat):Pr It→Prop
 | .no=>False
 | .ok y l' n'=> ∃T,l=T++l'∧Src l'∧(⟨1,nm,0,ln,co⟩::(ws++T.map unpl):List Tk)=toksI y∧n'+1=n+cntI y∧d+depI y≤5∧wfI y
 | .th c _ _ _=>c≠0
theorem p_fwd: ∀f:Nat,(∀d e out l n,Src l→2*l.length+1≤f→(e=0∨e=8)→FwL d e out l n (pL f d e out l n))∧
  (∀d nm ln co ws l n,Src l→2*l.length+1≤f→d≤4→ws.length≤6→(∀w∈ws,1≤w.k∧w.k≤6)→FwI d nm ln co ws l n (pI f d nm ln co ws l n))
 |0=>⟨fun d e out l n hs hf=>by omega,fun d nm ln co ws l n hs hf=>by omega⟩
 |f+1=>by
  obtain ⟨ihL,ihI⟩:=p_fwd f
  refine ⟨fun d e out l n hs hf he=>?_,fun d nm ln co ws l n hs hf hd hw hk=>?_⟩
  ·cases l with
   |nil=>exact absurd rfl hs.ne
   |cons t r=>
    rw [pL]
    rw [List.length_cons] at hf
    by_cases c1:t.k=e
    ·rw [if_pos c1]
     exact ⟨[],[],t,r,(List.append_nil _).symm,rfl,c1,rfl,hs,rfl,rfl,.inl rfl,trivial⟩
    rw [if_neg c1]
    by_cases c2:t.k≠1
    ·rw [if_pos c2];show (6:Int)≠0;decide
    rw [if_neg c2]
    by_cases c3:4<d
    ·rw [if_pos c3];show (19:Int)≠0;decide
    rw [if_neg c3]
    by_cases c4:n=300
    ·rw [if_pos c4];show (9:Int)≠0;decide
    rw [if_neg c4]
    rcases hs.cons with ⟨_,hz,_⟩|⟨ht,hr,hn⟩
    ·exact absurd hz.1 (by omega)
    rw [hn]
    have hi:=ihI d t.t t.ln t.co [] r (n+1) hr (by omega) (by omega) (by decide) (fun w hw=>by cases hw)
    split
    ·rename_i x l2 n2 hx
     rw [hx] at hi
     obtain ⟨T1,e1,s1,k1,n1,d1,w1⟩:=hi
     have hl:=ihL d e (out++[x]) l2 n2 s1 (by rw [e1,List.length_append] at hf;omega) he
     generalize pL f d e (out++[x]) l2 n2=R at *
     cases R with
     |no=>exact hl
     |th c t l n=>exact hl
     |ok o l' n'=>
      obtain ⟨its,T2,t2,r2,e2,e3,k2,nx,s2,tk,n2',dd,ww⟩:=hl
      refine ⟨x::its,t::(T1++T2),t2,r2,by rw [e2,List.append_assoc];rfl,by rw [e1,e3];simp,k2,nx,s2,?_,?_,.inr ?_,w1,ww⟩
      ·have eu:unpl t=⟨1,t.t,0,t.ln,t.co⟩:=by
        rw [unpl_lo (by omega)]
        obtain ⟨k,s,m,a,b⟩:=t
        have h1:k=1:=by simpa using c2
        have h2:=ht.nm h1
        dsimp only at h2 ⊢
        rw [h1,h2]
       rw [List.map_cons,List.map_append,tk,eu,toksL,←k1]
       simp
      ·rw [cntL];omega
      ·rw [depL]
       rcases dd with rfl|dd
       ·rw [depL];omega
       ·omega
    ·rename_i c2' t2 l2 n2 hx
     rw [hx] at hi
     exact hi
    ·rename_i hx
     rw [hx] at hi
     exact hi
  ·cases l with
   |nil=>exact absurd rfl hs.ne
   |cons t r=>
    rw [pI]
    rw [List.length_cons] at hf
    rcases hs.cons with ⟨rfl,hz,hn⟩|⟨ht,hr,hn⟩
    ·rw [if_neg (by rw [hz.1];decide),if_neg (by rw [hz.1];decide),if_pos (by rw [hz.1];decide)]
     show (6:Int)≠0
     decide
    rw [hn]
    by_cases c1:t.k=9
    ·rw [if_pos c1]
     refine ⟨[t],rfl,hr,?_,by rw [cntI,cntL],by rw [depI,depL];omega,hw,hk,fun _=>rfl,trivial⟩
     rw [List.map_cons,List.map_nil,unpl_br ht (by omega),c1,toksI,if_pos rfl]
    rw [if_neg c1]
    by_cases c2:t.k=7
    ·rw [if_pos c2]
     have hl:=ihL (d+1) 8 [] r n hr (by omega) (.inr rfl)
     split
     ·rename_i ks l2 n2 hx
      rw [hx] at hl
      obtain ⟨its,T2,t2,r2,e2,e3,k2,nx,s2,tk,n2',dd,ww⟩:=hl
      rw [List.nil_append] at e2
      subst e2
      rcases s2.cons with ⟨_,hz,_⟩|⟨ht2,hr2,hn2⟩
      ·exact absurd hz.1 (by omega)
      rw [hn2] at nx
      subst nx
      refine ⟨t::(T2++[t2]),by rw [e3];simp,hr2,?_,?_,?_,hw,hk,(fun h=>by cases h),ww⟩
      ·rw [List.map_cons,List.map_append,List.map_cons,List.map_nil,unpl_br ht (by omega),unpl_br ht2 (by omega),tk,c2,k2,toksI,if_neg (by decide)]
      ·rw [cntI];omega
      ·rw [depI]
       rcases dd with rfl|dd
       ·rw [depL];omega
       ·omega
     ·rename_i c2' t2 l2 n2 hx
      rw [hx] at hl
      exact hl
     ·rename_i hx
      rw [hx] at hl
      exact hl
    rw [if_neg c2]
    by_cases c3:t.k<1∨6<t.k
    ·rw [if_pos c3];show (6:Int)≠0;decide
    rw [if_neg c3]
    by_cases c4:ws.length=6
    ·rw [if_pos c4];show (9:Int)≠0;decide
    rw [if_neg c4]
    have hi:=ihI d nm ln co (ws++[t]) r n hr (by omega) hd (by rw [List.length_append,List.length_singleton];omega) (fun w hw=>by
     rw [List.mem_append,List.mem_singleton] at hw
     rcases hw with hw|rfl
     ·exact hk w hw
     ·omega)
    generalize pI f d nm ln co (ws++[t]) r n=R at *
    cases R with
    |no=>exact hi
    |th c t l n=>exact hi
    |ok y l' n'=>
     obtain ⟨T,e1,s1,k1,rest⟩:=hi
     refine ⟨t::T,by rw [e1];rfl,s1,?_,rest⟩
     rw [←k1,List.map_cons,unpl_lo (by omega)]
     simp
end Go.Ai
