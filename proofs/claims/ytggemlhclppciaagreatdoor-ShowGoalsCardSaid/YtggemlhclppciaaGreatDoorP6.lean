/- P6: a part of the proof: the rules, or what functions compute. Conditions: as each theorem says. -/
import Derived.Test.YtggemlhclppciaaGreatDoorP5
import Derived.Test.YtggemlhclppciaaGreatDoorP2
import Derived.Test.YtggemlhclppciaaGreatDoorP1
set_option linter.unusedSimpArgs false
set_option linter.unusedVariables false
set_option maxRecDepth 20000
namespace Go.Ai
open Go.Proofs
def qGo (l:List Int) (i:Nat):Nat:=
 if h:i<l.length then
  if l[i]=10 then 0 else if l[i]=34 then i+1
  else if l[i]=92 then (if l[i+1]?=some 10 then 0 else qGo l (i+2))
  else qGo l (i+1)
 else 0
termination_by l.length - i
def plc (a b:Int):List Int→List (Int×Int)
 |[]=>[(a,b)]
 |r::l=>(a,b)::(if r=10 then plc (a+1) 1 l else plc a (b+1) l)
open Go.Proofs
end Go.Ai
namespace Go.Ai
open Go.Proofs
def wthn (r:Int):Bool:=letter r||(digR r||(decide (r=95)||(decide (r=45)||(decide (r=46)||decide (r=37)))))
open Go.Proofs
structure Sc where
 out:List Tk
 st:Int
 sa:Nat
 fl:Int
 fc:Int
 al:Int
 ac:Int
 cd:Int
 xl:Int
 xc:Int
def Sc.begin (x:Sc) (i:Nat) (st:Int):Sc:={x with sa:=i,st:=st,fl:=x.al,fc:=x.ac}
def Sc.wrong (x:Sc) (e:Int):Sc:={x with cd:=e,xl:=x.fl,xc:=x.fc}
inductive TV where
 |e (c:Int)
 |t (k:Int) (w:List UInt8) (n:Nat)
def TV.ok:TV→Bool
 | .e _=>false
 | .t _ _ _=>true
def Sc.add (x:Sc):TV→Sc
 | .e c=>x.wrong c
 | .t k w n=>{x with out:=x.out++[⟨k,w,n,x.fl,x.fc⟩],st:=0}
open Go.Proofs
def subR (l:List Int) (a b:Nat):List Int:=(l.take b).drop a
def wEnd (l:List Int) (i:Nat):Nat:=if h:i<l.length then (if wthn l[i]=true then wEnd l (i+1) else i) else i
termination_by l.length - i
structure On where
 k:Int
 w:List UInt8
 n:Nat
 en:Nat
 c:Int
def TV.on (en:Nat):TV→On
 | .e c=>⟨0,[],0,en,c⟩
 | .t k w n=>⟨k,w,n,en,0⟩
def TV.rs:TV→AV
 | .e c=> .tup [.agg [i6 0,.str [],u 0,i6 0,i6 0],i6 c]
 | .t k w n=> .tup [.agg [i6 k,.str w,u n,i6 0,i6 0],i6 0]
def oneF (VR:List Int→TV) (U:List UInt8→List UInt8×Int) (l:List Int) (i:Nat) (r:Int):On:=
 if r=123 then ⟨7,[],0,i+1,0⟩ else if r=125 then ⟨8,[],0,i+1,0⟩ else if r=59 then ⟨9,[],0,i+1,0⟩
 else if r=34 then (if qGo l (i+1)=0 then ⟨0,[],0,0,5⟩ else ⟨2,(U (textR (subR l i (qGo l (i+1))))).1,0,qGo l (i+1),(U (textR (subR l i (qGo l (i+1))))).2⟩)
 else if wthn r=true then (VR (subR l i (wEnd l i))).on (wEnd l i)
 else ⟨0,[],0,0,5⟩
open Go.Proofs
def quoTV (q:List UInt8×Int):TV:=if q.2=0 then .t 2 q.1 0 else .e q.2
def freshF (x:Sc) (i:Nat) (r:Int):Sc×Bool:=
 let y:=x.begin i 0
 if r=32∨r=9∨r=10 then (y,true)
 else if r=35 then ({y with st:=4},true)
 else if r=34 then ({y with st:=2},true)
 else if r=123 then (y.add (.t 7 [] 0),true)
 else if r=125 then (y.add (.t 8 [] 0),true)
 else if r=59 then (y.add (.t 9 [] 0),true)
 else if wthn r=true then ({y with st:=1},true)
 else (y.wrong 5,false)
def subS (s:List UInt8) (a b:Nat):List UInt8:=(s.take b).drop a
def quotedF (U:List UInt8→List UInt8×Int) (s:List UInt8) (x:Sc) (e:Nat):Sc×Bool:=(x.add (quoTV (U (subS s x.sa e))),(quoTV (U (subS s x.sa e))).ok)
def insideF (U:List UInt8→List UInt8×Int) (s:List UInt8) (x:Sc) (i:Nat) (r:Int):Sc×Bool:=
 if r=10 then (x.wrong 5,false)
 else if x.st=3 then ({x with st:=2},true)
 else if r=92 then ({x with st:=3},true)
 else if r=34 then quotedF U s x (i+1)
 else (x,true)
def takeF (V:List UInt8→TV) (U:List UInt8→List UInt8×Int) (s:List UInt8) (x:Sc) (i:Nat) (r:Int):Sc×Bool:=
 if x.st=1 then (if wthn r=true then (x,true) else if (V (subS s x.sa i)).ok=true then freshF (x.add (V (subS s x.sa i))) i r else (x.add (V (subS s x.sa i)),false))
 else if x.st=4 then ((if r=10 then {x with st:=0} else x),true)
 else if x.st=2∨x.st=3 then insideF U s x i r
 else freshF x i r
theorem Sc.wrong_out (x:Sc) (e:Int):(x.wrong e).out=x.out:=rfl
theorem Sc.add_out (x:Sc) (v:TV):(x.add v).out.length≤x.out.length+1:=by
 cases v with
 |e c=>simp [Sc.add,Sc.wrong_out]
 |t k w n=>simp [Sc.add]
theorem freshF_out (x:Sc) (i:Nat) (r:Int):(freshF x i r).1.out.length≤x.out.length+1:=by
 unfold freshF
 simp only
 repeat' split
 all_goals first|exact Nat.le_succ _|exact Sc.add_out (x.begin i 0) _|skip
theorem insideF_out (U:List UInt8→List UInt8×Int) (s:List UInt8) (x:Sc) (i:Nat) (r:Int):(insideF U s x i r).1.out.length≤x.out.length+1:=by
 unfold insideF quotedF
 repeat' split
 all_goals first|exact Nat.le_succ _|exact Sc.add_out x _|skip
theorem takeF_out (V:List UInt8→TV) (U:List UInt8→List UInt8×Int) (s:List UInt8) (x:Sc) (i:Nat) (r:Int):(takeF V U s x i r).1.out.length≤x.out.length+2:=by
 unfold takeF
 by_cases c1:x.st=1
 ·rw [if_pos c1]
  by_cases c2:wthn r=true
  ·rw [if_pos c2];simp
  ·rw [if_neg c2]
   by_cases c3:(V (subS s x.sa i)).ok=true
   ·rw [if_pos c3]
    have h1:=freshF_out (x.add (V (subS s x.sa i))) i r
    have h2:=Sc.add_out x (V (subS s x.sa i))
    omega
   ·rw [if_neg c3]
    have h2:=Sc.add_out x (V (subS s x.sa i))
    simp only
    omega
 ·rw [if_neg c1]
  by_cases c2:x.st=4
  ·rw [if_pos c2]
   simp only
   split<;>simp
  ·rw [if_neg c2]
   by_cases c3:x.st=2∨x.st=3
   ·rw [if_pos c3]
    have:=insideF_out U s x i r
    omega
   ·rw [if_neg c3]
    have:=freshF_out x i r
    omega
open Go.Proofs
end Go.Ai
namespace Go.Ai
open Go.Proofs
open Go.Proofs
theorem Sc.add_keep (x:Sc) (v:TV):(x.add v).al=x.al∧(x.add v).ac=x.ac∧(x.add v).sa=x.sa:=by
 cases v<;>exact ⟨rfl,rfl,rfl⟩
theorem freshF_keep (x:Sc) (i:Nat) (r:Int):(freshF x i r).1.al=x.al∧(freshF x i r).1.ac=x.ac∧(freshF x i r).1.sa=i:=by
 unfold freshF
 dsimp only
 repeat' split
 all_goals first|exact ⟨rfl,rfl,rfl⟩|exact Sc.add_keep (x.begin i 0) _
theorem takeF_keep (V:List UInt8→TV) (U:List UInt8→List UInt8×Int) (s:List UInt8) (x:Sc) (i:Nat) (r:Int) (h:x.sa≤i):(takeF V U s x i r).1.al=x.al∧(takeF V U s x i r).1.ac=x.ac∧(takeF V U s x i r).1.sa≤i:=by
 unfold takeF
 by_cases c1:x.st=1
 ·rw [if_pos c1]
  by_cases c2:wthn r=true
  ·rw [if_pos c2];exact ⟨rfl,rfl,h⟩
  ·rw [if_neg c2]
   have a:=Sc.add_keep x (V (subS s x.sa i))
   by_cases c3:(V (subS s x.sa i)).ok=true
   ·rw [if_pos c3]
    have f:=freshF_keep (x.add (V (subS s x.sa i))) i r
    exact ⟨f.1.trans a.1,f.2.1.trans a.2.1,by omega⟩
   ·rw [if_neg c3]
    exact ⟨a.1,a.2.1,by dsimp only;omega⟩
 ·rw [if_neg c1]
  by_cases c2:x.st=4
  ·rw [if_pos c2]
   dsimp only
   split
   ·exact ⟨rfl,rfl,h⟩
   ·exact ⟨rfl,rfl,h⟩
  ·rw [if_neg c2]
   by_cases c3:x.st=2∨x.st=3
   ·rw [if_pos c3]
    unfold insideF quotedF
    repeat' split
    all_goals first|exact ⟨rfl,rfl,h⟩|exact ⟨(Sc.add_keep x _).1,(Sc.add_keep x _).2.1,by have:=(Sc.add_keep x (quoTV (U (subS s x.sa (i+1))))).2.2;dsimp only;omega⟩
   ·rw [if_neg c3]
    have f:=freshF_keep x i r
    exact ⟨f.1,f.2.1,by omega⟩
def Sc.adv (x:Sc) (r:Int):Sc:=if r=10 then {x with al:=x.al+1,ac:=1} else {x with ac:=x.ac+1}
structure TR where
 l:List Tk
 c:Int
 a:Int
 b:Int
def TR.bad (x:Sc):TR:=⟨[],x.cd,x.xl,x.xc⟩
open Go.Proofs
def skp (l:List Int) (i:Nat):Nat:=if h:i<l.length then (if l[i]=10 then i else skp l (i+1)) else i
termination_by l.length - i
def refGo (VR:List Int→TV) (U:List UInt8→List UInt8×Int) (l:List Int) (P:List (Int×Int)):Nat→Nat→List Tk→TR
 |0,_,_=>⟨[],0,0,0⟩
 |f+1,i,out=>match l[i]? with
  |none=>⟨out++[⟨0,[],0,(P.getD l.length (0,0)).1,(P.getD l.length (0,0)).2⟩],0,0,0⟩
  |some r=>if r=32∨r=9∨r=10 then refGo VR U l P f (i+1) out
   else if r=35 then refGo VR U l P f (skp l i) out
   else if (oneF VR U l i r).c=0 then refGo VR U l P f (oneF VR U l i r).en (out++[⟨(oneF VR U l i r).k,(oneF VR U l i r).w,(oneF VR U l i r).n,(P.getD i (0,0)).1,(P.getD i (0,0)).2⟩])
   else ⟨[],(oneF VR U l i r).c,(P.getD i (0,0)).1,(P.getD i (0,0)).2⟩
open Go.Proofs
theorem conts_in (s:List UInt8) (i:Nat): ∀n,conts s i n=true→n=0∨i+n<s.length
 |0,_=> .inl rfl
 |k+1,h=>by
  rw [conts,Bool.and_eq_true] at h
  exact .inr (cont_in h.2)
theorem stepF_le (s:List UInt8) (i n r0 l:Nat) (h:i<s.length):i+(stepF s i n r0 l).2≤s.length:=by
 unfold stepF
 split
 ·rename_i c
  rw [Bool.and_eq_true] at c
  have:=conts_in s i n c.1
  simp only
  omega
 ·exact h
theorem stepR_le (s:List UInt8) (i:Nat) (h:i<s.length):i+(stepR s i).2≤s.length:=by
 unfold stepR
 simp only
 split
 ·exact h
 ·split
  ·exact stepF_le _ _ _ _ _ h
  ·split
   ·exact stepF_le _ _ _ _ _ h
   ·split
    ·exact stepF_le _ _ _ _ _ h
    ·exact h
theorem Sc.adv_out (x:Sc) (r:Int):(x.adv r).out=x.out:=by unfold Sc.adv;split<;>rfl
theorem Sc.adv_sa (x:Sc) (r:Int):(x.adv r).sa=x.sa:=by unfold Sc.adv;split<;>rfl
structure ScOk (x:Sc) (i:Nat):Prop where
 sa:x.sa≤i
 ou:x.out.length≤2*i
 a0:0≤x.al
 a1:x.al≤i+1
 c0:0≤x.ac
 c1:x.ac≤i+1
theorem ScOk.step {x:Sc} {i:Nat} (h:ScOk x i) (V:List UInt8→TV) (U:List UInt8→List UInt8×Int) (s:List UInt8) (r:Int) (w:Nat) (hw:1≤w):ScOk ((takeF V U s x i r).1.adv r) (i+w):=by
 have k:=takeF_keep V U s x i r h.sa
 have o:=takeF_out V U s x i r
 have h2:=h.ou
 have h3:=h.a0
 have h4:=h.a1
 have h5:=h.c0
 have h6:=h.c1
 refine ⟨by rw [Sc.adv_sa];omega,by rw [Sc.adv_out];omega,?_,?_,?_,?_⟩<;>unfold Sc.adv<;>split<;>simp only<;>omega
open Go.Proofs
theorem plc_head (l:List Int) (a b:Int):(plc a b l).getD 0 (0,0)=(a,b):=by cases l<;>rfl
theorem plc_next: ∀(l:List Int) (a b:Int) (k:Nat) (h:k<l.length),(plc a b l).getD (k+1) (0,0)=if l[k]=10 then (((plc a b l).getD k (0,0)).1+1,1) else (((plc a b l).getD k (0,0)).1,((plc a b l).getD k (0,0)).2+1)
 |[],a,b,k,h=>absurd h (by simp)
 |r::l,a,b,0,h=>by
  rw [plc_head]
  simp only [List.getElem_cons_zero]
  rw [plc,List.getD_cons_succ]
  split
  ·rw [plc_head]
  ·rw [plc_head]
 |r::l,a,b,k+1,h=>by
  simp only [List.getElem_cons_succ]
  rw [plc,List.getD_cons_succ,List.getD_cons_succ]
  split
  ·exact plc_next l _ _ k (by simpa using h)
  ·exact plc_next l _ _ k (by simpa using h)
structure At (s:List UInt8) (l:List Int) (i k:Nat):Prop where
 r:runesL s i=l.drop k
 i:i≤s.length
 k:k≤l.length
theorem At.next {s:List UInt8} {l:List Int} {i k:Nat} (h:At s l i k) (g:k<l.length):i<s.length∧(stepR s i).1=l[k]∧At s l (i+(stepR s i).2) (k+1):=by
 have e:=h.r
 rw [List.drop_eq_getElem_cons g] at e
 by_cases c:i<s.length
 ·rw [runesL_in c] at e
  injection e with e1 e2
  exact ⟨c,e1,e2,stepR_le s i c,g⟩
 ·rw [runesL_out c] at e;cases e
theorem At.end {s:List UInt8} {l:List Int} {i:Nat} (h:At s l i l.length):i=s.length:=by
 have e:=h.r
 rw [List.drop_length] at e
 by_cases c:i<s.length
 ·rw [runesL_in c] at e;cases e
 ·have:=h.i;omega
def PosAt (l:List Int) (x:Sc) (k:Nat):Prop:=(x.al,x.ac)=(plc 1 1 l).getD k (0,0)
theorem PosAt.adv {l:List Int} {x:Sc} {k:Nat} (h:PosAt l x k) (g:k<l.length) {y:Sc} (h1:y.al=x.al) (h2:y.ac=x.ac):PosAt l (y.adv l[k]) (k+1):=by
 unfold PosAt at h ⊢
 rw [plc_next l 1 1 k g,←h]
 unfold Sc.adv
 split
 ·rw [←h1]
 ·rw [←h1,←h2]
theorem PosAt.one {l:List Int} {x:Sc} {k:Nat} (h:PosAt l x k):((plc 1 1 l).getD k (0,0)).1=x.al∧((plc 1 1 l).getD k (0,0)).2=x.ac:=by
 unfold PosAt at h
 rw [←h]
 exact ⟨rfl,rfl⟩
end Go.Ai
