/- P3: a part of the proof: the rules, or what functions compute. Conditions: as each theorem says. -/
import Derived.Test.YtpaipepdakekbaaGreatDoorP2
import Derived.Test.YtpaipepdakekbaaGreatDoorP1
set_option linter.unusedSimpArgs false
set_option linter.unusedVariables false
set_option maxRecDepth 20000
namespace Go.Ai
open Go.Proofs
theorem cont_ext {a b:List UInt8} {i j:Nat} (h:byt a i=byt b j):cont a i=cont b j:=by unfold cont;rw [h]
theorem rv_ext {a b:List UInt8} {i j:Nat} (r0:Nat): ∀n,(∀q,1≤q→q≤n→byt a (i+q)=byt b (j+q))→rv a i r0 n=rv b j r0 n
 |0,_=>rfl
 |n+1,h=>by
  have e:=rv_ext r0 n (fun q h1 h2=>h q h1 (by omega))
  have f:=h (n+1) (by omega) (Nat.le_refl _)
  show 64*rv a i r0 n+(byt a (i+(n+1)) - 128)=64*rv b j r0 n+(byt b (j+(n+1)) - 128)
  rw [e,f]
theorem conts_ext {a b:List UInt8} {i j:Nat}: ∀n,(∀q,1≤q→q≤n→byt a (i+q)=byt b (j+q))→conts a i n=conts b j n
 |0,_=>rfl
 |n+1,h=>by
  have e:=conts_ext n (fun q h1 h2=>h q h1 (by omega))
  have f:=cont_ext (h (n+1) (by omega) (Nat.le_refl _))
  show (conts a i n&&cont a (i+(n+1)))=(conts b j n&&cont b (j+(n+1)))
  rw [e,f]
theorem conts_false {a:List UInt8} {i:Nat} (q:Nat) (h1:1≤q) (h2:cont a (i+q)=false): ∀n,q≤n→conts a i n=false
 |0,h=>by omega
 |n+1,h=>by
  rw [conts]
  by_cases c:q=n+1
  ·rw [←c,h2,Bool.and_false]
  ·rw [conts_false q h1 h2 n (by omega),Bool.false_and]
theorem stepF_to {a b:List UInt8} {i j m:Nat} (h: ∀q,q≤m→byt a (i+q)=byt b (j+q)) (hm:1≤m) (h0:byt b (j+m)<128) (n r0 l:Nat):stepF a i n r0 l=stepF b j n r0 l:=by
 unfold stepF
 by_cases c:n<m
 ·rw [conts_ext (a:=a) (b:=b) (i:=i) (j:=j) n (fun q _ h2=>h q (by omega)),rv_ext (a:=a) (b:=b) (i:=i) (j:=j) r0 n (fun q _ h2=>h q (by omega))]
 ·have c1:cont b (j+m)=false:=by unfold cont;exact decide_eq_false (by omega)
  have c2:cont a (i+m)=false:=by rw [cont_ext (h m (Nat.le_refl _))];exact c1
  rw [conts_false m hm c2 n (by omega),conts_false m hm c1 n (by omega)]
  rfl
theorem stepR_to {a b:List UInt8} {i j m:Nat} (h: ∀q,q≤m→byt a (i+q)=byt b (j+q)) (h0:byt b (j+m)<128):stepR a i=stepR b j:=by
 have e:=h 0 (Nat.zero_le _)
 rw [Nat.add_zero,Nat.add_zero] at e
 unfold stepR
 simp only [e]
 by_cases c:m=0
 ·subst c
  rw [Nat.add_zero] at h0
  rw [if_pos h0,if_pos h0]
 ·simp only [stepF_to h (by omega) h0]
theorem stepR_ext {a b:List UInt8} {i j:Nat} (h: ∀q,byt a (i+q)=byt b (j+q)):stepR a i=stepR b j:=by
 have e:=h 0
 rw [Nat.add_zero,Nat.add_zero] at e
 have f: ∀n r0 l,stepF a i n r0 l=stepF b j n r0 l:=fun n r0 l=>by
  unfold stepF
  rw [conts_ext (a:=a) (b:=b) (i:=i) (j:=j) n (fun q _ _=>h q),rv_ext (a:=a) (b:=b) (i:=i) (j:=j) r0 n (fun q _ _=>h q)]
 unfold stepR
 simp only [e,f]
theorem byt_app (a b:List UInt8) (q:Nat):byt (a++b) (a.length+q)=byt b q:=by
 unfold byt
 rw [List.getElem?_append_right (by omega),show a.length+q - a.length=q by omega]
theorem runesL_app (a b:List UInt8): ∀(n q:Nat),b.length - q≤n→runesL (a++b) (a.length+q)=runesL b q
 |n,q,h=>by
  by_cases g:q<b.length
  ·have g2:a.length+q<(a++b).length:=by rw [List.length_append];omega
   have e:stepR (a++b) (a.length+q)=stepR b q:=stepR_ext (fun z=>by rw [Nat.add_assoc];exact byt_app a b (q+z))
   have p:=stepR_pos b q
   rw [runesL_in g,runesL_in g2,e,Nat.add_assoc]
   cases n with
   |zero=>omega
   |succ n=>rw [runesL_app a b n (q+(stepR b q).2) (by omega)]
  ·rw [runesL_out g,runesL_out (by rw [List.length_append];omega)]
theorem encR_step {r:Int} (h:okR r) (t:List UInt8):stepR (encR r++t) 0=(r,(encR r).length):=by
 rcases h with rfl|⟨h1,h2,h3⟩
 ·have e:encR (-1)=[255]:=rfl
  rw [e]
  simp only [List.cons_append,List.nil_append]
  unfold stepR
  simp only [show byt (255::t) 0=255 from rfl]
  rw [if_neg (by omega),if_neg (by omega),if_neg (by omega),if_neg (by omega)]
  rfl
 ·have e:encR r=encN r.toNat:=if_neg (by omega)
  have hz:((r.toNat:Nat):Int)=r:=by omega
  rw [e,dec_enc r.toNat (by omega) (by omega) t,hz]
theorem encR_pos (r:Int):1≤(encR r).length:=by
 unfold encR
 split
 ·simp
 ·exact (encN_len _).2
theorem runesL_textR: ∀l:List Int,(∀r∈l,okR r)→runesL (textR l) 0=l
 |[],_=>by rw [textR,runesL_out (by simp)]
 |r::l,h=>by
  have p:=encR_pos r
  rw [textR,runesL_in (by rw [List.length_append];omega),encR_step (h r (by simp))]
  simp only
  rw [Nat.zero_add,show (encR r).length=(encR r).length+0 from rfl,runesL_app (encR r) (textR l) (textR l).length 0 (by omega),runesL_textR l (fun x hx=>h x (by simp [hx]))]
def Wk (s:List UInt8):Nat→List Int→Nat→Prop
 |i,[],j=>i=j
 |i,r::m,j=>i<s.length∧(stepR s i).1=r∧Wk s (i+(stepR s i).2) m j
theorem Wk_snoc (s:List UInt8): ∀(m:List Int) (i j:Nat),Wk s i m j→j<s.length→Wk s i (m++[(stepR s j).1]) (j+(stepR s j).2)
 |[],i,j,h,hj=>by
  cases h
  exact ⟨hj,rfl,rfl⟩
 |r::m,i,j,h,hj=>⟨h.1,h.2.1,Wk_snoc s m _ j h.2.2 hj⟩
theorem Wk_le (s:List UInt8): ∀(m:List Int) (i j:Nat),Wk s i m j→i≤j
 |[],i,j,h=>Nat.le_of_eq h
 |r::m,i,j,h=>by
  have:=Wk_le s m _ j h.2.2
  omega
theorem byt_take {s:List UInt8} {j q:Nat} (h:q<j):byt (s.take j) q=byt s q:=by
 unfold byt
 rw [List.getElem?_take,if_pos h]
theorem byt_drop (s:List UInt8) (i q:Nat):byt (s.drop i) q=byt s (i+q):=by
 unfold byt
 rw [List.getElem?_drop]
theorem Wk_sub (s:List UInt8) (i0 e:Nat) (he:e<s.length) (h0:byt s e<128): ∀(m:List Int) (i:Nat),i0≤i→Wk s i m (e+1)→runesL ((s.take (e+1)).drop i0) (i - i0)=m
 |[],i,hi,h=>by
  rw [runesL_out]
  have:i=e+1:=h
  rw [List.length_drop,List.length_take]
  omega
 |r::m,i,hi,h=>by
  have hle:=Wk_le s m _ _ h.2.2
  have hp:=stepR_pos s i
  have g:i - i0<((s.take (e+1)).drop i0).length:=by rw [List.length_drop,List.length_take];omega
  have es:stepR ((s.take (e+1)).drop i0) (i - i0)=stepR s i:=by
   refine stepR_to (m:=e - i) (fun q hq=>?_) ?_
   ·rw [byt_drop,byt_take (by omega),show i0+(i - i0+q)=i+q by omega]
   ·rw [show i+(e - i)=e by omega];exact h0
  rw [runesL_in g,es,h.2.1,show i - i0+(stepR s i).2=(i+(stepR s i).2) - i0 by omega,Wk_sub s i0 e he h0 m _ (by omega) h.2.2]
theorem Wk_text (s:List UInt8): ∀(m:List Int) (i j:Nat),j≤s.length→Wk s i m j→(∀r∈m,r≠ -1)→(s.take j).drop i=textR m
 |[],i,j,hj,h,_=>by
  have:i=j:=h
  subst this
  rw [textR,List.drop_eq_nil_of_le (by rw [List.length_take];omega)]
 |r::m,i,j,hj,h,hr=>by
  have hle:=Wk_le s m _ _ h.2.2
  have ih:=Wk_text s m _ j hj h.2.2 (fun x hx=>hr x (by simp [hx]))
  have h1:=h.2.1
  have hne:(stepR s i).1≠ -1:=by rw [h1];exact hr r (by simp)
  have en:=enc_step s i h.1 hne
  have ok:=stepR_okR s i
  have er:encR r=encN (stepR s i).1.toNat:=by
   rw [←h1]
   unfold encR
   rw [if_neg]
   rcases ok with h|h
   ·exact absurd h hne
   ·omega
  rw [textR,er,en,←ih]
  have:(s.take j).drop i=((s.drop i).take (stepR s i).2)++(s.take j).drop (i+(stepR s i).2):=by
   rw [←List.drop_drop,List.drop_take,show List.take (stepR s i).2 (List.drop i s)=List.take (stepR s i).2 (List.take (j - i) (List.drop i s)) by rw [List.take_take,Nat.min_eq_left (by omega)],List.take_append_drop]
  exact this
open Go.Proofs
def qGo (l:List Int) (i:Nat):Nat:=
 if h:i<l.length then
  if l[i]=10 then 0 else if l[i]=34 then i+1
  else if l[i]=92 then (if l[i+1]?=some 10 then 0 else qGo l (i+2))
  else qGo l (i+1)
 else 0
termination_by l.length - i
theorem qGo_in {l:List Int} {i:Nat} (h:i<l.length):qGo l i=if l[i]=10 then 0 else if l[i]=34 then i+1 else if l[i]=92 then (if l[i+1]?=some 10 then 0 else qGo l (i+2)) else qGo l (i+1):=by
 rw [qGo,dif_pos h]
theorem qGo_out {l:List Int} {i:Nat} (h: ¬i<l.length):qGo l i=0:=by rw [qGo,dif_neg h]
def plc (a b:Int):List Int→List (Int×Int)
 |[]=>[(a,b)]
 |r::l=>(a,b)::(if r=10 then plc (a+1) 1 l else plc a (b+1) l)
open Go.Proofs
end Go.Ai
namespace Go.Ai
open Go.Proofs
def wthn (r:Int):Bool:=letter r||(digR r||(decide (r=95)||(decide (r=45)||(decide (r=46)||decide (r=37)))))
theorem sdigit_spec (r:Int):Sp Tryz.prog gl 52 [i3 r] (.bool (digR r)):=by
 refine s52 rfl rfl ?_
 unfold digR
 by_cases h:48≤r
 ·simp [c52,h]
 ·simp [c52,h]
theorem int_beq_decI (a b:Int):(a==b)=decide (a=b):=by
 by_cases h:a=b<;>simp [h]
theorem swithin_spec (r:Int):Sp Tryz.prog gl 35 [i3 r] (.bool (wthn r)):=by
 refine s35 rfl rfl ?_
 have L:=tletter_spec r
 have D:=sdigit_spec r
 unfold wthn
 generalize letter r=a at *
 generalize digR r=b at *
 cases a
 ·cases b
  ·have ne: ∀z:Int,¬r=z→(r==z)=false:=fun z h=>beq_eq_false_iff_ne.2 h
   by_cases h1:r=95
   ·simp [c35]
    refine onC_mk _ (L) ?_
    simp -implicitDefEqProofs
    refine onC_mk _ (D) ?_
    simp -implicitDefEqProofs [h1]
   ·by_cases h2:r=45
    ·simp [c35]
     refine onC_mk _ (L) ?_
     simp -implicitDefEqProofs
     refine onC_mk _ (D) ?_
     simp -implicitDefEqProofs [h1,h2,ne 95 h1]
    ·by_cases h3:r=46
     ·simp [c35]
      refine onC_mk _ (L) ?_
      simp -implicitDefEqProofs
      refine onC_mk _ (D) ?_
      simp -implicitDefEqProofs [h1,h2,h3,ne 95 h1,ne 45 h2]
     ·simp [c35]
      refine onC_mk _ (L) ?_
      simp -implicitDefEqProofs
      refine onC_mk _ (D) ?_
      simp -implicitDefEqProofs [h1,h2,h3,ne 95 h1,ne 45 h2,ne 46 h3]
      exact int_beq_decI r 37
  ·simp [c35]
   refine onC_mk _ (L) ?_
   simp -implicitDefEqProofs
   refine onC_mk _ (D) ?_
   simp -implicitDefEqProofs
 ·simp [c35]
  refine onC_mk _ (L) ?_
  simp -implicitDefEqProofs
open Go.Proofs
def subR (l:List Int) (a b:Nat):List Int:=(l.take b).drop a
theorem subR_mem {l:List Int} {a b:Nat} {r:Int} (h:r∈subR l a b):r∈l:=List.mem_of_mem_take (List.mem_of_mem_drop h)
def wEnd (l:List Int) (i:Nat):Nat:=if h:i<l.length then (if wthn l[i]=true then wEnd l (i+1) else i) else i
termination_by l.length - i
theorem wEnd_in {l:List Int} {i:Nat} (h:i<l.length):wEnd l i=if wthn l[i]=true then wEnd l (i+1) else i:=by rw [wEnd,dif_pos h]
theorem wEnd_out {l:List Int} {i:Nat} (h: ¬i<l.length):wEnd l i=i:=by rw [wEnd,dif_neg h]
theorem wEnd_le (l:List Int): ∀(n i:Nat),l.length - i≤n→i≤l.length→i≤wEnd l i∧wEnd l i≤l.length
 |0,i,h,hi=>by rw [wEnd_out (by omega)];omega
 |n+1,i,h,hi=>by
  by_cases g:i<l.length
  ·rw [wEnd_in g]
   split
   ·have:=wEnd_le l n (i+1) (by omega) (by omega)
    omega
   ·omega
  ·rw [wEnd_out g];omega
theorem qGo_le (l:List Int): ∀(n i:Nat),l.length - i≤n→qGo l i=0∨(i<qGo l i∧qGo l i≤l.length)
 |n,i,h=>by
  by_cases g:i<l.length
  ·rw [qGo_in g]
   split
   ·exact .inl rfl
   ·split
    ·right;omega
    ·split
     ·split
      ·exact .inl rfl
      ·cases n with
       |zero=>omega
       |succ n=>
        rcases qGo_le l n (i+2) (by omega) with h|h
        ·exact .inl h
        ·right;omega
     ·cases n with
      |zero=>omega
      |succ n=>
       rcases qGo_le l n (i+1) (by omega) with h|h
       ·exact .inl h
       ·right;omega
  ·rw [qGo_out g];exact .inl rfl
structure On where
 k:Int
 w:List UInt8
 n:Nat
 en:Nat
 c:Int
def TV.on (en:Nat):TV→On
 | .e c=>⟨0,[],0,en,c⟩
 | .t k w n=>⟨k,w,n,en,0⟩
def TV.rs:TV→AV
 | .e c=> .tup [.agg [i6 0,.str [],u 0,i6 0,i6 0],i6 c]
 | .t k w n=> .tup [.agg [i6 k,.str w,u n,i6 0,i6 0],i6 0]
def On.av (x:On):AV:= .tup [.agg [i6 x.k,.str x.w,u x.n,i6 0,i6 0],i6 x.en,i6 x.c]
def oneF (VR:List Int→TV) (U:List UInt8→List UInt8×Int) (l:List Int) (i:Nat) (r:Int):On:=
 if r=123 then ⟨7,[],0,i+1,0⟩ else if r=125 then ⟨8,[],0,i+1,0⟩ else if r=59 then ⟨9,[],0,i+1,0⟩
 else if r=34 then (if qGo l (i+1)=0 then ⟨0,[],0,0,5⟩ else ⟨2,(U (textR (subR l i (qGo l (i+1))))).1,0,qGo l (i+1),(U (textR (subR l i (qGo l (i+1))))).2⟩)
 else if wthn r=true then (VR (subR l i (wEnd l i))).on (wEnd l i)
 else ⟨0,[],0,0,5⟩
open Go.Proofs
def quoTV (q:List UInt8×Int):TV:=if q.2=0 then .t 2 q.1 0 else .e q.2
def freshF (x:Sc) (i:Nat) (r:Int):Sc×Bool:=
 let y:=x.begin i 0
 if r=32∨r=9∨r=10 then (y,true)
 else if r=35 then ({y with st:=4},true)
 else if r=34 then ({y with st:=2},true)
 else if r=123 then (y.add (.t 7 [] 0),true)
 else if r=125 then (y.add (.t 8 [] 0),true)
 else if r=59 then (y.add (.t 9 [] 0),true)
 else if wthn r=true then ({y with st:=1},true)
 else (y.wrong 5,false)
def subS (s:List UInt8) (a b:Nat):List UInt8:=(s.take b).drop a
def quotedF (U:List UInt8→List UInt8×Int) (s:List UInt8) (x:Sc) (e:Nat):Sc×Bool:=(x.add (quoTV (U (subS s x.sa e))),(quoTV (U (subS s x.sa e))).ok)
def insideF (U:List UInt8→List UInt8×Int) (s:List UInt8) (x:Sc) (i:Nat) (r:Int):Sc×Bool:=
 if r=10 then (x.wrong 5,false)
 else if x.st=3 then ({x with st:=2},true)
 else if r=92 then ({x with st:=3},true)
 else if r=34 then quotedF U s x (i+1)
 else (x,true)
def takeF (V:List UInt8→TV) (U:List UInt8→List UInt8×Int) (s:List UInt8) (x:Sc) (i:Nat) (r:Int):Sc×Bool:=
 if x.st=1 then (if wthn r=true then (x,true) else if (V (subS s x.sa i)).ok=true then freshF (x.add (V (subS s x.sa i))) i r else (x.add (V (subS s x.sa i)),false))
 else if x.st=4 then ((if r=10 then {x with st:=0} else x),true)
 else if x.st=2∨x.st=3 then insideF U s x i r
 else freshF x i r
def endF (V:List UInt8→TV) (s:List UInt8) (x:Sc):Sc×Bool:=
 if x.st=1 then (if (V (subS s x.sa s.length)).ok=true then (((x.add (V (subS s x.sa s.length))).begin s.length 0).add (.t 0 [] 0),true) else (x.add (V (subS s x.sa s.length)),false))
 else if x.st=2∨x.st=3 then (x.wrong 5,false)
 else ((x.begin s.length 0).add (.t 0 [] 0),true)
theorem Sc.begin_out (x:Sc) (i:Nat) (st:Int):(x.begin i st).out=x.out:=rfl
theorem Sc.wrong_out (x:Sc) (e:Int):(x.wrong e).out=x.out:=rfl
theorem Sc.add_out (x:Sc) (v:TV):(x.add v).out.length≤x.out.length+1:=by
 cases v with
 |e c=>simp [Sc.add,Sc.wrong_out]
 |t k w n=>simp [Sc.add]
theorem freshF_out (x:Sc) (i:Nat) (r:Int):(freshF x i r).1.out.length≤x.out.length+1:=by
 unfold freshF
 simp only
 repeat' split
 all_goals first|exact Nat.le_succ _|exact Sc.add_out (x.begin i 0) _|skip
theorem insideF_out (U:List UInt8→List UInt8×Int) (s:List UInt8) (x:Sc) (i:Nat) (r:Int):(insideF U s x i r).1.out.length≤x.out.length+1:=by
 unfold insideF quotedF
 repeat' split
 all_goals first|exact Nat.le_succ _|exact Sc.add_out x _|skip
theorem takeF_out (V:List UInt8→TV) (U:List UInt8→List UInt8×Int) (s:List UInt8) (x:Sc) (i:Nat) (r:Int):(takeF V U s x i r).1.out.length≤x.out.length+2:=by
 unfold takeF
 by_cases c1:x.st=1
 ·rw [if_pos c1]
  by_cases c2:wthn r=true
  ·rw [if_pos c2];simp
  ·rw [if_neg c2]
   by_cases c3:(V (subS s x.sa i)).ok=true
   ·rw [if_pos c3]
    have h1:=freshF_out (x.add (V (subS s x.sa i))) i r
    have h2:=Sc.add_out x (V (subS s x.sa i))
    omega
   ·rw [if_neg c3]
    have h2:=Sc.add_out x (V (subS s x.sa i))
    simp only
    omega
 ·rw [if_neg c1]
  by_cases c2:x.st=4
  ·rw [if_pos c2]
   simp only
   split<;>simp
  ·rw [if_neg c2]
   by_cases c3:x.st=2∨x.st=3
   ·rw [if_pos c3]
    have:=insideF_out U s x i r
    omega
   ·rw [if_neg c3]
    have:=freshF_out x i r
    omega
theorem sfresh_spec (s:List UInt8) (x:Sc) (hl:x.out.length≤900000) (i:Nat) (r:Int) (d:Nat) (b:Id) (hb:b.isIt=false) (hbd:b.isNw d=false):
  SpH Tryz.prog gl 38 d ⟨[.ptr b 0,i6 i,i3 r],[(b,scB s x)],[(.b b 1,5)]⟩ ⟨.bool (freshF x i r).2,[(b,scB s (freshF x i r).1)],[(.b b 1,5)]⟩:=by
 refine h38 rfl ?_
 have hib:=inn_notNw hbd
 have ne: ∀z:Int,¬r=z→(r==z)=false:=fun z h=>beq_eq_false_iff_ne.2 h
 have B:=fun e=>sbegin_spec s x i 0 e (.up b) hb
 have A:=fun v e=>sadd_spec s (x.begin i 0) (by rw [Sc.begin_out];omega) v e (.up b) hb
 have W:=fun e=>swrong_spec s (x.begin i 0) 5 e (.up b) hb
 have WI:=swithin_spec r
 have hz: ∀k:Int,(TV.t k [] 0).av= .ifc 44 (.agg [.int .i64 k,.str [],.int .u64 0,.int .i64 0,.int .i64 0]):=fun _=>rfl
 have ho: ∀k:Int,(TV.t k [] 0).ok=true:=fun _=>rfl
 unfold freshF
 simp only
 obtain ⟨y,hy⟩: ∃y,y=x.begin i 0:=⟨_,rfl⟩
 rw [←hy] at B A W ⊢
 clear hy
 by_cases c1:r=32
 ·subst c1
  rw [if_pos (by omega)]
  dsimp only
  unfold scB at *
  generalize y.out.map Tk.row=L at *
  generalize x.out.map Tk.row=L0 at *
  simp only [inSt,mpB,mpL,AV.mp,mpP,Pl.mp]
  simp -implicitDefEqProofs [c38]
  refine onH_mk _ _ (B _ rfl) ⟨?_,?_,?_,?_,?_,?_,?_⟩ ?_
  iterate 7 (· simp [hb])
  simp -implicitDefEqProofs
  refine postH_r ⟨?_,?_,?_,?_,?_,?_⟩<;>simp -implicitDefEqProofs [hib,hb]
 by_cases c2:r=9
 ·subst c2
  rw [if_pos (by omega)]
  dsimp only
  unfold scB at *
  generalize y.out.map Tk.row=L at *
  generalize x.out.map Tk.row=L0 at *
  simp only [inSt,mpB,mpL,AV.mp,mpP,Pl.mp]
  simp -implicitDefEqProofs [c38]
  refine onH_mk _ _ (B _ rfl) ⟨?_,?_,?_,?_,?_,?_,?_⟩ ?_
  iterate 7 (· simp [hb])
  simp -implicitDefEqProofs
  refine postH_r ⟨?_,?_,?_,?_,?_,?_⟩<;>simp -implicitDefEqProofs [hib,hb]
 by_cases c3:r=10
 ·subst c3
  rw [if_pos (by omega)]
  dsimp only
  unfold scB at *
  generalize y.out.map Tk.row=L at *
  generalize x.out.map Tk.row=L0 at *
  simp only [inSt,mpB,mpL,AV.mp,mpP,Pl.mp]
  simp -implicitDefEqProofs [c38]
  refine onH_mk _ _ (B _ rfl) ⟨?_,?_,?_,?_,?_,?_,?_⟩ ?_
  iterate 7 (· simp [hb])
  simp -implicitDefEqProofs
  refine postH_r ⟨?_,?_,?_,?_,?_,?_⟩<;>simp -implicitDefEqProofs [hib,hb]
 rw [if_neg (by omega)]
 have n1:=ne 32 c1
 have n2:=ne 9 c2
 have n3:=ne 10 c3
 by_cases c4:r=35
 ·subst c4
  rw [if_pos rfl]
  dsimp only
  unfold scB at *
  generalize y.out.map Tk.row=L at *
  generalize x.out.map Tk.row=L0 at *
  simp only [inSt,mpB,mpL,AV.mp,mpP,Pl.mp]
  simp -implicitDefEqProofs [c38]
  refine onH_mk _ _ (B _ rfl) ⟨?_,?_,?_,?_,?_,?_,?_⟩ ?_
  iterate 7 (· simp [hb])
  simp -implicitDefEqProofs
  refine postH_r ⟨?_,?_,?_,?_,?_,?_⟩<;>simp -implicitDefEqProofs [hib,hb]
 rw [if_neg c4]
 have n4:=ne 35 c4
 by_cases c5:r=34
 ·subst c5
  rw [if_pos rfl]
  dsimp only
  unfold scB at *
  generalize y.out.map Tk.row=L at *
  generalize x.out.map Tk.row=L0 at *
  simp only [inSt,mpB,mpL,AV.mp,mpP,Pl.mp]
  simp -implicitDefEqProofs [c38]
  refine onH_mk _ _ (B _ rfl) ⟨?_,?_,?_,?_,?_,?_,?_⟩ ?_
  iterate 7 (· simp [hb])
  simp -implicitDefEqProofs
  refine postH_r ⟨?_,?_,?_,?_,?_,?_⟩<;>simp -implicitDefEqProofs [hib,hb]
 rw [if_neg c5]
 have n5:=ne 34 c5
 by_cases c6:r=123
 ·subst c6
  have A:=A (.t 7 [] 0)
  rw [hz,ho] at A
  rw [if_pos rfl]
  dsimp only
  generalize y.add (.t 7 [] 0)=z at *
  unfold scB at *
  generalize y.out.map Tk.row=L at *
  generalize x.out.map Tk.row=L0 at *
  generalize z.out.map Tk.row=L1 at *
  simp only [inSt,mpB,mpL,AV.mp,mpP,Pl.mp]
  simp -implicitDefEqProofs [c38]
  refine onH_mk _ _ (B _ rfl) ⟨?_,?_,?_,?_,?_,?_,?_⟩ ?_
  iterate 7 (· simp [hb])
  simp -implicitDefEqProofs
  refine onH_mk _ _ (A _ rfl) ⟨?_,?_,?_,?_,?_,?_,?_⟩ ?_
  iterate 7 (· simp [hb])
  simp -implicitDefEqProofs
  refine postH_r ⟨?_,?_,?_,?_,?_,?_⟩<;>simp -implicitDefEqProofs [hib,hb]
 rw [if_neg c6]
 have n6:=ne 123 c6
 by_cases c7:r=125
 ·subst c7
  have A:=A (.t 8 [] 0)
  rw [hz,ho] at A
  rw [if_pos rfl]
  dsimp only
  generalize y.add (.t 8 [] 0)=z at *
  unfold scB at *
  generalize y.out.map Tk.row=L at *
  generalize x.out.map Tk.row=L0 at *
  generalize z.out.map Tk.row=L1 at *
  simp only [inSt,mpB,mpL,AV.mp,mpP,Pl.mp]
  simp -implicitDefEqProofs [c38]
  refine onH_mk _ _ (B _ rfl) ⟨?_,?_,?_,?_,?_,?_,?_⟩ ?_
  iterate 7 (· simp [hb])
  simp -implicitDefEqProofs
  refine onH_mk _ _ (A _ rfl) ⟨?_,?_,?_,?_,?_,?_,?_⟩ ?_
  iterate 7 (· simp [hb])
  simp -implicitDefEqProofs
  refine postH_r ⟨?_,?_,?_,?_,?_,?_⟩<;>simp -implicitDefEqProofs [hib,hb]
 rw [if_neg c7]
 have n7:=ne 125 c7
 by_cases c8:r=59
 ·subst c8
  have A:=A (.t 9 [] 0)
  rw [hz,ho] at A
  rw [if_pos rfl]
  dsimp only
  generalize y.add (.t 9 [] 0)=z at *
  unfold scB at *
  generalize y.out.map Tk.row=L at *
  generalize x.out.map Tk.row=L0 at *
  generalize z.out.map Tk.row=L1 at *
  simp only [inSt,mpB,mpL,AV.mp,mpP,Pl.mp]
  simp -implicitDefEqProofs [c38]
  refine onH_mk _ _ (B _ rfl) ⟨?_,?_,?_,?_,?_,?_,?_⟩ ?_
  iterate 7 (· simp [hb])
  simp -implicitDefEqProofs
  refine onH_mk _ _ (A _ rfl) ⟨?_,?_,?_,?_,?_,?_,?_⟩ ?_
  iterate 7 (· simp [hb])
  simp -implicitDefEqProofs
  refine postH_r ⟨?_,?_,?_,?_,?_,?_⟩<;>simp -implicitDefEqProofs [hib,hb]
 rw [if_neg c8]
 have n8:=ne 59 c8
 generalize wthn r=q at *
 cases q
 ·rw [if_neg (by decide)]
  dsimp only
  generalize y.wrong 5=z at *
  unfold scB at *
  generalize y.out.map Tk.row=L at *
  generalize x.out.map Tk.row=L0 at *
  generalize z.out.map Tk.row=L1 at *
  simp only [inSt,mpB,mpL,AV.mp,mpP,Pl.mp]
  simp -implicitDefEqProofs [c38]
  refine onH_mk _ _ (B _ rfl) ⟨?_,?_,?_,?_,?_,?_,?_⟩ ?_
  iterate 7 (· simp [hb])
  simp -implicitDefEqProofs [n1,n2,n3,n4,n5,n6,n7,n8]
  refine onC_mk _ (WI) ?_
  simp -implicitDefEqProofs
  refine onH_mk _ _ (W _ rfl) ⟨?_,?_,?_,?_,?_,?_,?_⟩ ?_
  iterate 7 (· simp [hb])
  simp -implicitDefEqProofs
  refine postH_r ⟨?_,?_,?_,?_,?_,?_⟩<;>simp -implicitDefEqProofs [hib,hb]
 ·rw [if_pos rfl]
  dsimp only
  unfold scB at *
  generalize y.out.map Tk.row=L at *
  generalize x.out.map Tk.row=L0 at *
  simp only [inSt,mpB,mpL,AV.mp,mpP,Pl.mp]
  simp -implicitDefEqProofs [c38]
  refine onH_mk _ _ (B _ rfl) ⟨?_,?_,?_,?_,?_,?_,?_⟩ ?_
  iterate 7 (· simp [hb])
  simp -implicitDefEqProofs [n1,n2,n3,n4,n5,n6,n7,n8]
  refine onC_mk _ (WI) ?_
  simp -implicitDefEqProofs
  refine postH_r ⟨?_,?_,?_,?_,?_,?_⟩<;>simp -implicitDefEqProofs [hib,hb]
end Go.Ai
