/- P2: a part of the proof: the rules, or what functions compute. Conditions: as each theorem says. -/
import Derived.Test.YtggemlhclppciaaGreatDoorP1
set_option linter.unusedSimpArgs false
set_option linter.unusedVariables false
set_option maxRecDepth 20000
namespace Go.Ai
open Go.Proofs
theorem cont_in {s:List UInt8} {i:Nat} (h:cont s i=true):i<s.length:=(cont_iff.1 h).1
theorem isRune_le {l r:Nat} (h:isRune l r=true):l≤r∧r≤1114111∧ ¬(55296≤r∧r<57344):=by
 unfold isRune at h
 exact of_decide_eq_true h
def okR (r:Int):Prop:=r= -1∨(0≤r∧r≤1114111∧ ¬(55296≤r∧r<57344))
theorem stepF_okR (s:List UInt8) (i n r0 l:Nat):okR (stepF s i n r0 l).1:=by
 unfold stepF okR
 split
 ·rename_i h
  rw [Bool.and_eq_true] at h
  have:=isRune_le h.2
  right
  simp only
  omega
 ·left;rfl
theorem stepR_okR (s:List UInt8) (i:Nat):okR (stepR s i).1:=by
 unfold stepR
 simp only
 split
 ·right;simp only;omega
 ·split
  ·exact stepF_okR ..
  ·split
   ·exact stepF_okR ..
   ·split
    ·exact stepF_okR ..
    ·left;rfl
theorem runesL_okR (s:List UInt8): ∀(n i:Nat),s.length - i≤n→ ∀r∈runesL s i,okR r
 |0,i,h,r,hr=>by rw [runesL_out (by omega)] at hr;cases hr
 |n+1,i,h,r,hr=>by
  by_cases hi:i<s.length
  ·rw [runesL_in hi] at hr
   rcases List.mem_cons.1 hr with rfl|hr
   ·exact stepR_okR s i
   ·have:=stepR_pos s i
    exact runesL_okR s n _ (by omega) r hr
  ·rw [runesL_out hi] at hr;cases hr
theorem byt_zero (b:UInt8) (t:List UInt8):byt (b::t) 0=b.toNat:=rfl
theorem byt_of (n:Nat) (h:n<256) (t:List UInt8):byt (UInt8.ofNat n::t) 0=n:=by
 rw [byt_zero,UInt8.toNat_ofNat_of_lt' (by simpa using h)]
theorem dec_enc (r:Nat) (h1:r≤1114111) (h2: ¬(55296≤r∧r<57344)) (t:List UInt8):stepR (encN r++t) 0=((r:Int),(encN r).length):=by
 unfold encN
 by_cases c1:r<128
 ·rw [if_pos c1]
  simp only [List.cons_append,List.nil_append]
  unfold stepR
  simp only [byt_of r (by omega) t]
  rw [if_pos c1]
  rfl
 ·rw [if_neg c1]
  by_cases c2:r<2048
  ·rw [if_pos c2]
   simp only [List.cons_append,List.nil_append]
   unfold stepR
   simp only [byt_of (192+r / 64) (by omega) _]
   rw [if_neg (by omega),if_pos (by omega),stepF1]
   simp only [Nat.zero_add,cont,show ∀(b:UInt8) (t:List UInt8),byt (b::t) 1=byt t 0 from fun b t=>rfl,byt_of (128+r%64) (by omega) t]
   rw [if_pos (by simp [isRune];omega)]
   simp only [List.length_cons,List.length_nil,Prod.mk.injEq]
   exact ⟨by omega,trivial⟩
  ·rw [if_neg c2]
   by_cases c3:r<65536
   ·rw [if_pos c3]
    simp only [List.cons_append,List.nil_append]
    unfold stepR
    simp only [byt_of (224+r / 4096) (by omega) _]
    rw [if_neg (by omega),if_neg (by omega),if_pos (by omega),stepF2]
    simp only [Nat.zero_add,cont,show ∀(b:UInt8) (t:List UInt8),byt (b::t) 1=byt t 0 from fun b t=>rfl,show ∀(b c:UInt8) (t:List UInt8),byt (b::c::t) 2=byt t 0 from fun b c t=>rfl,byt_of (128+r / 64%64) (by omega) _,byt_of (128+r%64) (by omega) t]
    rw [if_pos (by simp [isRune];omega)]
    simp only [List.length_cons,List.length_nil,Prod.mk.injEq]
    exact ⟨by omega,trivial⟩
   ·rw [if_neg c3]
    simp only [List.cons_append,List.nil_append]
    unfold stepR
    simp only [byt_of (240+r / 262144) (by omega) _]
    rw [if_neg (by omega),if_neg (by omega),if_neg (by omega),if_pos (by omega),stepF3]
    simp only [Nat.zero_add,cont,show ∀(b:UInt8) (t:List UInt8),byt (b::t) 1=byt t 0 from fun b t=>rfl,show ∀(b c:UInt8) (t:List UInt8),byt (b::c::t) 2=byt t 0 from fun b c t=>rfl,show ∀(b c e:UInt8) (t:List UInt8),byt (b::c::e::t) 3=byt t 0 from fun b c e t=>rfl,byt_of (128+r / 4096%64) (by omega) _,byt_of (128+r / 64%64) (by omega) _,byt_of (128+r%64) (by omega) t]
    rw [if_pos (by simp [isRune];omega)]
    simp only [List.length_cons,List.length_nil,Prod.mk.injEq]
    exact ⟨by omega,trivial⟩
open Go.Proofs
theorem cont_ext {a b:List UInt8} {i j:Nat} (h:byt a i=byt b j):cont a i=cont b j:=by unfold cont;rw [h]
theorem rv_ext {a b:List UInt8} {i j:Nat} (r0:Nat): ∀n,(∀q,1≤q→q≤n→byt a (i+q)=byt b (j+q))→rv a i r0 n=rv b j r0 n
 |0,_=>rfl
 |n+1,h=>by
  have e:=rv_ext r0 n (fun q h1 h2=>h q h1 (by omega))
  have f:=h (n+1) (by omega) (Nat.le_refl _)
  show 64*rv a i r0 n+(byt a (i+(n+1)) - 128)=64*rv b j r0 n+(byt b (j+(n+1)) - 128)
  rw [e,f]
theorem conts_ext {a b:List UInt8} {i j:Nat}: ∀n,(∀q,1≤q→q≤n→byt a (i+q)=byt b (j+q))→conts a i n=conts b j n
 |0,_=>rfl
 |n+1,h=>by
  have e:=conts_ext n (fun q h1 h2=>h q h1 (by omega))
  have f:=cont_ext (h (n+1) (by omega) (Nat.le_refl _))
  show (conts a i n&&cont a (i+(n+1)))=(conts b j n&&cont b (j+(n+1)))
  rw [e,f]
theorem stepR_ext {a b:List UInt8} {i j:Nat} (h: ∀q,byt a (i+q)=byt b (j+q)):stepR a i=stepR b j:=by
 have e:=h 0
 rw [Nat.add_zero,Nat.add_zero] at e
 have f: ∀n r0 l,stepF a i n r0 l=stepF b j n r0 l:=fun n r0 l=>by
  unfold stepF
  rw [conts_ext (a:=a) (b:=b) (i:=i) (j:=j) n (fun q _ _=>h q),rv_ext (a:=a) (b:=b) (i:=i) (j:=j) r0 n (fun q _ _=>h q)]
 unfold stepR
 simp only [e,f]
theorem byt_app (a b:List UInt8) (q:Nat):byt (a++b) (a.length+q)=byt b q:=by
 unfold byt
 rw [List.getElem?_append_right (by omega),show a.length+q - a.length=q by omega]
theorem runesL_app (a b:List UInt8): ∀(n q:Nat),b.length - q≤n→runesL (a++b) (a.length+q)=runesL b q
 |n,q,h=>by
  by_cases g:q<b.length
  ·have g2:a.length+q<(a++b).length:=by rw [List.length_append];omega
   have e:stepR (a++b) (a.length+q)=stepR b q:=stepR_ext (fun z=>by rw [Nat.add_assoc];exact byt_app a b (q+z))
   have p:=stepR_pos b q
   rw [runesL_in g,runesL_in g2,e,Nat.add_assoc]
   cases n with
   |zero=>omega
   |succ n=>rw [runesL_app a b n (q+(stepR b q).2) (by omega)]
  ·rw [runesL_out g,runesL_out (by rw [List.length_append];omega)]
theorem encR_step {r:Int} (h:okR r) (t:List UInt8):stepR (encR r++t) 0=(r,(encR r).length):=by
 rcases h with rfl|⟨h1,h2,h3⟩
 ·have e:encR (-1)=[255]:=rfl
  rw [e]
  simp only [List.cons_append,List.nil_append]
  unfold stepR
  simp only [show byt (255::t) 0=255 from rfl]
  rw [if_neg (by omega),if_neg (by omega),if_neg (by omega),if_neg (by omega)]
  rfl
 ·have e:encR r=encN r.toNat:=if_neg (by omega)
  have hz:((r.toNat:Nat):Int)=r:=by omega
  rw [e,dec_enc r.toNat (by omega) (by omega) t,hz]
theorem encR_pos (r:Int):1≤(encR r).length:=by
 unfold encR
 split
 ·simp
 ·exact (encN_len _).2
theorem runesL_textR: ∀l:List Int,(∀r∈l,okR r)→runesL (textR l) 0=l
 |[],_=>by rw [textR,runesL_out (by simp)]
 |r::l,h=>by
  have p:=encR_pos r
  rw [textR,runesL_in (by rw [List.length_append];omega),encR_step (h r (by simp))]
  simp only
  rw [Nat.zero_add,show (encR r).length=(encR r).length+0 from rfl,runesL_app (encR r) (textR l) (textR l).length 0 (by omega),runesL_textR l (fun x hx=>h x (by simp [hx]))]
open Go.Proofs
def qGo (l:List Int) (i:Nat):Nat:=
 if h:i<l.length then
  if l[i]=10 then 0 else if l[i]=34 then i+1
  else if l[i]=92 then (if l[i+1]?=some 10 then 0 else qGo l (i+2))
  else qGo l (i+1)
 else 0
termination_by l.length - i
def plc (a b:Int):List Int→List (Int×Int)
 |[]=>[(a,b)]
 |r::l=>(a,b)::(if r=10 then plc (a+1) 1 l else plc a (b+1) l)
open Go.Proofs
end Go.Ai
namespace Go.Ai
open Go.Proofs
def wthn (r:Int):Bool:=letter r||(digR r||(decide (r=95)||(decide (r=45)||(decide (r=46)||decide (r=37)))))
theorem sdigit_spec (r:Int):Sp Tryz.prog gl 141 [i3 r] (.bool (digR r)):=by
 refine s141 rfl rfl ?_
 unfold digR
 by_cases h:48≤r
 ·simp [c141,h]
 ·simp [c141,h]
theorem int_beq_decI (a b:Int):(a==b)=decide (a=b):=by
 by_cases h:a=b<;>simp [h]
theorem swithin_spec (r:Int):Sp Tryz.prog gl 107 [i3 r] (.bool (wthn r)):=by
 refine s107 rfl rfl ?_
 have L:=tletter_spec r
 have D:=sdigit_spec r
 unfold wthn
 generalize letter r=a at *
 generalize digR r=b at *
 cases a
 ·cases b
  ·have ne: ∀z:Int,¬r=z→(r==z)=false:=fun z h=>beq_eq_false_iff_ne.2 h
   by_cases h1:r=95
   ·simp [c107]
    refine onC_mk _ (L) ?_
    simp -implicitDefEqProofs
    refine onC_mk _ (D) ?_
    simp -implicitDefEqProofs [h1]
   ·by_cases h2:r=45
    ·simp [c107]
     refine onC_mk _ (L) ?_
     simp -implicitDefEqProofs
     refine onC_mk _ (D) ?_
     simp -implicitDefEqProofs [h1,h2,ne 95 h1]
    ·by_cases h3:r=46
     ·simp [c107]
      refine onC_mk _ (L) ?_
      simp -implicitDefEqProofs
      refine onC_mk _ (D) ?_
      simp -implicitDefEqProofs [h1,h2,h3,ne 95 h1,ne 45 h2]
     ·simp [c107]
      refine onC_mk _ (L) ?_
      simp -implicitDefEqProofs
      refine onC_mk _ (D) ?_
      simp -implicitDefEqProofs [h1,h2,h3,ne 95 h1,ne 45 h2,ne 46 h3]
      exact int_beq_decI r 37
  ·simp [c107]
   refine onC_mk _ (L) ?_
   simp -implicitDefEqProofs
   refine onC_mk _ (D) ?_
   simp -implicitDefEqProofs
 ·simp [c107]
  refine onC_mk _ (L) ?_
  simp -implicitDefEqProofs
open Go.Proofs
def subR (l:List Int) (a b:Nat):List Int:=(l.take b).drop a
def wEnd (l:List Int) (i:Nat):Nat:=if h:i<l.length then (if wthn l[i]=true then wEnd l (i+1) else i) else i
termination_by l.length - i
structure On where
 k:Int
 w:List UInt8
 n:Nat
 en:Nat
 c:Int
def TV.on (en:Nat):TV→On
 | .e c=>⟨0,[],0,en,c⟩
 | .t k w n=>⟨k,w,n,en,0⟩
def TV.rs:TV→AV
 | .e c=> .tup [.agg [i6 0,.str [],u 0,i6 0,i6 0],i6 c]
 | .t k w n=> .tup [.agg [i6 k,.str w,u n,i6 0,i6 0],i6 0]
def On.av (x:On):AV:= .tup [.agg [i6 x.k,.str x.w,u x.n,i6 0,i6 0],i6 x.en,i6 x.c]
def oneF (VR:List Int→TV) (U:List UInt8→List UInt8×Int) (l:List Int) (i:Nat) (r:Int):On:=
 if r=123 then ⟨7,[],0,i+1,0⟩ else if r=125 then ⟨8,[],0,i+1,0⟩ else if r=59 then ⟨9,[],0,i+1,0⟩
 else if r=34 then (if qGo l (i+1)=0 then ⟨0,[],0,0,5⟩ else ⟨2,(U (textR (subR l i (qGo l (i+1))))).1,0,qGo l (i+1),(U (textR (subR l i (qGo l (i+1))))).2⟩)
 else if wthn r=true then (VR (subR l i (wEnd l i))).on (wEnd l i)
 else ⟨0,[],0,0,5⟩
open Go.Proofs
def quoTV (q:List UInt8×Int):TV:=if q.2=0 then .t 2 q.1 0 else .e q.2
def freshF (x:Sc) (i:Nat) (r:Int):Sc×Bool:=
 let y:=x.begin i 0
 if r=32∨r=9∨r=10 then (y,true)
 else if r=35 then ({y with st:=4},true)
 else if r=34 then ({y with st:=2},true)
 else if r=123 then (y.add (.t 7 [] 0),true)
 else if r=125 then (y.add (.t 8 [] 0),true)
 else if r=59 then (y.add (.t 9 [] 0),true)
 else if wthn r=true then ({y with st:=1},true)
 else (y.wrong 5,false)
def subS (s:List UInt8) (a b:Nat):List UInt8:=(s.take b).drop a
def quotedF (U:List UInt8→List UInt8×Int) (s:List UInt8) (x:Sc) (e:Nat):Sc×Bool:=(x.add (quoTV (U (subS s x.sa e))),(quoTV (U (subS s x.sa e))).ok)
def insideF (U:List UInt8→List UInt8×Int) (s:List UInt8) (x:Sc) (i:Nat) (r:Int):Sc×Bool:=
 if r=10 then (x.wrong 5,false)
 else if x.st=3 then ({x with st:=2},true)
 else if r=92 then ({x with st:=3},true)
 else if r=34 then quotedF U s x (i+1)
 else (x,true)
def takeF (V:List UInt8→TV) (U:List UInt8→List UInt8×Int) (s:List UInt8) (x:Sc) (i:Nat) (r:Int):Sc×Bool:=
 if x.st=1 then (if wthn r=true then (x,true) else if (V (subS s x.sa i)).ok=true then freshF (x.add (V (subS s x.sa i))) i r else (x.add (V (subS s x.sa i)),false))
 else if x.st=4 then ((if r=10 then {x with st:=0} else x),true)
 else if x.st=2∨x.st=3 then insideF U s x i r
 else freshF x i r
def endF (V:List UInt8→TV) (s:List UInt8) (x:Sc):Sc×Bool:=
 if x.st=1 then (if (V (subS s x.sa s.length)).ok=true then (((x.add (V (subS s x.sa s.length))).begin s.length 0).add (.t 0 [] 0),true) else (x.add (V (subS s x.sa s.length)),false))
 else if x.st=2∨x.st=3 then (x.wrong 5,false)
 else ((x.begin s.length 0).add (.t 0 [] 0),true)
theorem Sc.begin_out (x:Sc) (i:Nat) (st:Int):(x.begin i st).out=x.out:=rfl
theorem Sc.wrong_out (x:Sc) (e:Int):(x.wrong e).out=x.out:=rfl
theorem Sc.add_out (x:Sc) (v:TV):(x.add v).out.length≤x.out.length+1:=by
 cases v with
 |e c=>simp [Sc.add,Sc.wrong_out]
 |t k w n=>simp [Sc.add]
theorem freshF_out (x:Sc) (i:Nat) (r:Int):(freshF x i r).1.out.length≤x.out.length+1:=by
 unfold freshF
 simp only
 repeat' split
 all_goals first|exact Nat.le_succ _|exact Sc.add_out (x.begin i 0) _|skip
theorem insideF_out (U:List UInt8→List UInt8×Int) (s:List UInt8) (x:Sc) (i:Nat) (r:Int):(insideF U s x i r).1.out.length≤x.out.length+1:=by
 unfold insideF quotedF
 repeat' split
 all_goals first|exact Nat.le_succ _|exact Sc.add_out x _|skip
theorem takeF_out (V:List UInt8→TV) (U:List UInt8→List UInt8×Int) (s:List UInt8) (x:Sc) (i:Nat) (r:Int):(takeF V U s x i r).1.out.length≤x.out.length+2:=by
 unfold takeF
 by_cases c1:x.st=1
 ·rw [if_pos c1]
  by_cases c2:wthn r=true
  ·rw [if_pos c2];simp
  ·rw [if_neg c2]
   by_cases c3:(V (subS s x.sa i)).ok=true
   ·rw [if_pos c3]
    have h1:=freshF_out (x.add (V (subS s x.sa i))) i r
    have h2:=Sc.add_out x (V (subS s x.sa i))
    omega
   ·rw [if_neg c3]
    have h2:=Sc.add_out x (V (subS s x.sa i))
    simp only
    omega
 ·rw [if_neg c1]
  by_cases c2:x.st=4
  ·rw [if_pos c2]
   simp only
   split<;>simp
  ·rw [if_neg c2]
   by_cases c3:x.st=2∨x.st=3
   ·rw [if_pos c3]
    have:=insideF_out U s x i r
    omega
   ·rw [if_neg c3]
    have:=freshF_out x i r
    omega
theorem sfresh_spec (s:List UInt8) (x:Sc) (hl:x.out.length≤900000) (i:Nat) (r:Int) (d:Nat) (b:Id) (hb:b.isIt=false) (hbd:b.isNw d=false):
  SpH Tryz.prog gl 110 d ⟨[.ptr b 0,i6 i,i3 r],[(b,scB s x)],[(.b b 1,5)]⟩ ⟨.bool (freshF x i r).2,[(b,scB s (freshF x i r).1)],[(.b b 1,5)]⟩:=by
 refine h110 rfl ?_
 have hib:=inn_notNw hbd
 have ne: ∀z:Int,¬r=z→(r==z)=false:=fun z h=>beq_eq_false_iff_ne.2 h
 have B:=fun e=>sbegin_spec s x i 0 e (.up b) hb
 have A:=fun v e=>sadd_spec s (x.begin i 0) (by rw [Sc.begin_out];omega) v e (.up b) hb
 have W:=fun e=>swrong_spec s (x.begin i 0) 5 e (.up b) hb
 have WI:=swithin_spec r
 have hz: ∀k:Int,(TV.t k [] 0).av= .ifc 55 (.agg [.int .i64 k,.str [],.int .u64 0,.int .i64 0,.int .i64 0]):=fun _=>rfl
 have ho: ∀k:Int,(TV.t k [] 0).ok=true:=fun _=>rfl
 unfold freshF
 simp only
 obtain ⟨y,hy⟩: ∃y,y=x.begin i 0:=⟨_,rfl⟩
 rw [←hy] at B A W ⊢
 clear hy
 by_cases c1:r=32
 ·subst c1
  rw [if_pos (by omega)]
  dsimp only
  unfold scB at *
  generalize y.out.map Tk.row=L at *
  generalize x.out.map Tk.row=L0 at *
  simp only [inSt,mpB,mpL,AV.mp,mpP,Pl.mp]
  simp -implicitDefEqProofs [c110]
  refine onH_mk _ _ (B _ rfl) ⟨?_,?_,?_,?_,?_,?_,?_⟩ ?_
  iterate 7 (· simp [hb])
  simp -implicitDefEqProofs
  refine postH_r ⟨?_,?_,?_,?_,?_,?_⟩<;>simp -implicitDefEqProofs [hib,hb]
 by_cases c2:r=9
 ·subst c2
  rw [if_pos (by omega)]
  dsimp only
  unfold scB at *
  generalize y.out.map Tk.row=L at *
  generalize x.out.map Tk.row=L0 at *
  simp only [inSt,mpB,mpL,AV.mp,mpP,Pl.mp]
  simp -implicitDefEqProofs [c110]
  refine onH_mk _ _ (B _ rfl) ⟨?_,?_,?_,?_,?_,?_,?_⟩ ?_
  iterate 7 (· simp [hb])
  simp -implicitDefEqProofs
  refine postH_r ⟨?_,?_,?_,?_,?_,?_⟩<;>simp -implicitDefEqProofs [hib,hb]
 by_cases c3:r=10
 ·subst c3
  rw [if_pos (by omega)]
  dsimp only
  unfold scB at *
  generalize y.out.map Tk.row=L at *
  generalize x.out.map Tk.row=L0 at *
  simp only [inSt,mpB,mpL,AV.mp,mpP,Pl.mp]
  simp -implicitDefEqProofs [c110]
  refine onH_mk _ _ (B _ rfl) ⟨?_,?_,?_,?_,?_,?_,?_⟩ ?_
  iterate 7 (· simp [hb])
  simp -implicitDefEqProofs
  refine postH_r ⟨?_,?_,?_,?_,?_,?_⟩<;>simp -implicitDefEqProofs [hib,hb]
 rw [if_neg (by omega)]
 have n1:=ne 32 c1
 have n2:=ne 9 c2
 have n3:=ne 10 c3
 by_cases c4:r=35
 ·subst c4
  rw [if_pos rfl]
  dsimp only
  unfold scB at *
  generalize y.out.map Tk.row=L at *
  generalize x.out.map Tk.row=L0 at *
  simp only [inSt,mpB,mpL,AV.mp,mpP,Pl.mp]
  simp -implicitDefEqProofs [c110]
  refine onH_mk _ _ (B _ rfl) ⟨?_,?_,?_,?_,?_,?_,?_⟩ ?_
  iterate 7 (· simp [hb])
  simp -implicitDefEqProofs
  refine postH_r ⟨?_,?_,?_,?_,?_,?_⟩<;>simp -implicitDefEqProofs [hib,hb]
 rw [if_neg c4]
 have n4:=ne 35 c4
 by_cases c5:r=34
 ·subst c5
  rw [if_pos rfl]
  dsimp only
  unfold scB at *
  generalize y.out.map Tk.row=L at *
  generalize x.out.map Tk.row=L0 at *
  simp only [inSt,mpB,mpL,AV.mp,mpP,Pl.mp]
  simp -implicitDefEqProofs [c110]
  refine onH_mk _ _ (B _ rfl) ⟨?_,?_,?_,?_,?_,?_,?_⟩ ?_
  iterate 7 (· simp [hb])
  simp -implicitDefEqProofs
  refine postH_r ⟨?_,?_,?_,?_,?_,?_⟩<;>simp -implicitDefEqProofs [hib,hb]
 rw [if_neg c5]
 have n5:=ne 34 c5
 by_cases c6:r=123
 ·subst c6
  have A:=A (.t 7 [] 0)
  rw [hz,ho] at A
  rw [if_pos rfl]
  dsimp only
  generalize y.add (.t 7 [] 0)=z at *
  unfold scB at *
  generalize y.out.map Tk.row=L at *
  generalize x.out.map Tk.row=L0 at *
  generalize z.out.map Tk.row=L1 at *
  simp only [inSt,mpB,mpL,AV.mp,mpP,Pl.mp]
  simp -implicitDefEqProofs [c110]
  refine onH_mk _ _ (B _ rfl) ⟨?_,?_,?_,?_,?_,?_,?_⟩ ?_
  iterate 7 (· simp [hb])
  simp -implicitDefEqProofs
  refine onH_mk _ _ (A _ rfl) ⟨?_,?_,?_,?_,?_,?_,?_⟩ ?_
  iterate 7 (· simp [hb])
  simp -implicitDefEqProofs
  refine postH_r ⟨?_,?_,?_,?_,?_,?_⟩<;>simp -implicitDefEqProofs [hib,hb]
 rw [if_neg c6]
 have n6:=ne 123 c6
 by_cases c7:r=125
 ·subst c7
  have A:=A (.t 8 [] 0)
  rw [hz,ho] at A
  rw [if_pos rfl]
  dsimp only
  generalize y.add (.t 8 [] 0)=z at *
  unfold scB at *
  generalize y.out.map Tk.row=L at *
  generalize x.out.map Tk.row=L0 at *
  generalize z.out.map Tk.row=L1 at *
  simp only [inSt,mpB,mpL,AV.mp,mpP,Pl.mp]
  simp -implicitDefEqProofs [c110]
  refine onH_mk _ _ (B _ rfl) ⟨?_,?_,?_,?_,?_,?_,?_⟩ ?_
  iterate 7 (· simp [hb])
  simp -implicitDefEqProofs
  refine onH_mk _ _ (A _ rfl) ⟨?_,?_,?_,?_,?_,?_,?_⟩ ?_
  iterate 7 (· simp [hb])
  simp -implicitDefEqProofs
  refine postH_r ⟨?_,?_,?_,?_,?_,?_⟩<;>simp -implicitDefEqProofs [hib,hb]
 rw [if_neg c7]
 have n7:=ne 125 c7
 by_cases c8:r=59
 ·subst c8
  have A:=A (.t 9 [] 0)
  rw [hz,ho] at A
  rw [if_pos rfl]
  dsimp only
  generalize y.add (.t 9 [] 0)=z at *
  unfold scB at *
  generalize y.out.map Tk.row=L at *
  generalize x.out.map Tk.row=L0 at *
  generalize z.out.map Tk.row=L1 at *
  simp only [inSt,mpB,mpL,AV.mp,mpP,Pl.mp]
  simp -implicitDefEqProofs [c110]
  refine onH_mk _ _ (B _ rfl) ⟨?_,?_,?_,?_,?_,?_,?_⟩ ?_
  iterate 7 (· simp [hb])
  simp -implicitDefEqProofs
  refine onH_mk _ _ (A _ rfl) ⟨?_,?_,?_,?_,?_,?_,?_⟩ ?_
  iterate 7 (· simp [hb])
  simp -implicitDefEqProofs
  refine postH_r ⟨?_,?_,?_,?_,?_,?_⟩<;>simp -implicitDefEqProofs [hib,hb]
 rw [if_neg c8]
 have n8:=ne 59 c8
 generalize wthn r=q at *
 cases q
 ·rw [if_neg (by decide)]
  dsimp only
  generalize y.wrong 5=z at *
  unfold scB at *
  generalize y.out.map Tk.row=L at *
  generalize x.out.map Tk.row=L0 at *
  generalize z.out.map Tk.row=L1 at *
  simp only [inSt,mpB,mpL,AV.mp,mpP,Pl.mp]
  simp -implicitDefEqProofs [c110]
  refine onH_mk _ _ (B _ rfl) ⟨?_,?_,?_,?_,?_,?_,?_⟩ ?_
  iterate 7 (· simp [hb])
  simp -implicitDefEqProofs [n1,n2,n3,n4,n5,n6,n7,n8]
  refine onC_mk _ (WI) ?_
  simp -implicitDefEqProofs
  refine onH_mk _ _ (W _ rfl) ⟨?_,?_,?_,?_,?_,?_,?_⟩ ?_
  iterate 7 (· simp [hb])
  simp -implicitDefEqProofs
  refine postH_r ⟨?_,?_,?_,?_,?_,?_⟩<;>simp -implicitDefEqProofs [hib,hb]
 ·rw [if_pos rfl]
  dsimp only
  unfold scB at *
  generalize y.out.map Tk.row=L at *
  generalize x.out.map Tk.row=L0 at *
  simp only [inSt,mpB,mpL,AV.mp,mpP,Pl.mp]
  simp -implicitDefEqProofs [c110]
  refine onH_mk _ _ (B _ rfl) ⟨?_,?_,?_,?_,?_,?_,?_⟩ ?_
  iterate 7 (· simp [hb])
  simp -implicitDefEqProofs [n1,n2,n3,n4,n5,n6,n7,n8]
  refine onC_mk _ (WI) ?_
  simp -implicitDefEqProofs
  refine postH_r ⟨?_,?_,?_,?_,?_,?_⟩<;>simp -implicitDefEqProofs [hib,hb]
open Go.Proofs
theorem subS_len (s:List UInt8) (a b:Nat):(subS s a b).length≤s.length:=by
 unfold subS
 rw [List.length_drop,List.length_take]
 omega
theorem quoTV_e {q:List UInt8×Int} (h:q.2≠0):quoTV q= .e q.2:=if_neg h
theorem quoTV_t {q:List UInt8×Int} (h:q.2=0):quoTV q= .t 2 q.1 0:=if_pos h
theorem squoted_spec (U:List UInt8→List UInt8×Int) (s:List UInt8) (hU: ∀w,w.length≤s.length→Sp Tryz.prog gl 196 [.str w] (.tup [.str (U w).1,i6 (U w).2])) (x:Sc) (hl:x.out.length≤900000) (e:Nat) (h1:x.sa≤e) (h2:e≤s.length)
  (d:Nat) (b:Id) (hb:b.isIt=false) (hbd:b.isNw d=false):
  SpH Tryz.prog gl 150 d ⟨[.ptr b 0,i6 e],[(b,scB s x)],[(.b b 1,5)]⟩ ⟨.bool (quotedF U s x e).2,[(b,scB s (quotedF U s x e).1)],[(.b b 1,5)]⟩:=by
 refine h150 rfl ?_
 have hib:=inn_notNw hbd
 have HU:=hU (subS s x.sa e) (subS_len s x.sa e)
 unfold quotedF
 dsimp only
 have hs:List.drop x.sa (List.take e s)=subS s x.sa e:=rfl
 generalize subS s x.sa e=W at *
 generalize U W=q at *
 obtain ⟨qt,qc⟩:=q
 dsimp only at HU
 have h1':(x.sa:Int)≤e:=by omega
 have h2':(e:Int)≤s.length:=by omega
 by_cases c:qc=0
 ·subst c
  rw [quoTV_t rfl]
  dsimp only
  have A:=fun e=>sadd_spec s x (by omega) (.t 2 qt 0) e (.up b) hb
  have hz:(TV.t 2 qt 0).av= .ifc 55 (.agg [.int .i64 2,.str qt,.int .u64 0,.int .i64 0,.int .i64 0]):=rfl
  have ho:(TV.t 2 qt 0).ok=true:=rfl
  rw [hz,ho] at A
  rw [ho]
  generalize x.add (.t 2 qt 0)=y at *
  unfold scB at *
  generalize x.out.map Tk.row=L at *
  generalize y.out.map Tk.row=L1 at *
  simp only [inSt,mpB,mpL,AV.mp,mpP,Pl.mp]
  simp -implicitDefEqProofs [c150,h1,h2,h1',h2',hs]
  refine onC_mk _ (HU) ?_
  simp -implicitDefEqProofs
  refine onH_mk _ _ (A _ rfl) ⟨?_,?_,?_,?_,?_,?_,?_⟩ ?_
  iterate 7 (· simp [hb])
  simp -implicitDefEqProofs
  refine postH_r ⟨?_,?_,?_,?_,?_,?_⟩<;>simp -implicitDefEqProofs [hib,hb]
 ·rw [quoTV_e c]
  have W1:=fun e=>swrong_spec s x qc e (.up b) hb
  have hc:(qc==0)=false:=beq_eq_false_iff_ne.2 c
  have hc2:(qc !=0)=true:=by rw [bne,hc];rfl
  dsimp only [TV.ok,Sc.add]
  generalize x.wrong qc=y at *
  unfold scB at *
  generalize x.out.map Tk.row=L at *
  generalize y.out.map Tk.row=L1 at *
  simp only [inSt,mpB,mpL,AV.mp,mpP,Pl.mp]
  simp -implicitDefEqProofs [c150,h1,h2,h1',h2',hs]
  refine onC_mk _ (HU) ?_
  simp -implicitDefEqProofs [hc,hc2,c]
  refine onH_mk _ _ (W1 _ rfl) ⟨?_,?_,?_,?_,?_,?_,?_⟩ ?_
  iterate 7 (· simp [hb])
  simp -implicitDefEqProofs
  refine postH_r ⟨?_,?_,?_,?_,?_,?_⟩<;>simp -implicitDefEqProofs [hib,hb]
theorem sinside_spec (U:List UInt8→List UInt8×Int) (s:List UInt8) (hU: ∀w,w.length≤s.length→Sp Tryz.prog gl 196 [.str w] (.tup [.str (U w).1,i6 (U w).2])) (x:Sc) (hl:x.out.length≤900000) (hs:s.length≤1000000) (i:Nat) (h1:x.sa≤i) (h2:i<s.length) (r:Int)
  (d:Nat) (b:Id) (hb:b.isIt=false) (hbd:b.isNw d=false):
  SpH Tryz.prog gl 111 d ⟨[.ptr b 0,i6 i,i3 r],[(b,scB s x)],[(.b b 1,5)]⟩ ⟨.bool (insideF U s x i r).2,[(b,scB s (insideF U s x i r).1)],[(.b b 1,5)]⟩:=by
 refine h111 rfl ?_
 have hib:=inn_notNw hbd
 have ne: ∀z:Int,¬r=z→(r==z)=false:=fun z h=>beq_eq_false_iff_ne.2 h
 have Q:=fun e=>squoted_spec U s hU x hl (i+1) (by omega) (by omega) e (.up b) hb
 have t1:IntKind.i64.wrap ((i:Int)+1)=(i+1:Nat):=by rw [wrap_i64]<;>omega
 have W:=fun e=>swrong_spec s x 5 e (.up b) hb
 unfold insideF
 by_cases c1:r=10
 ·subst c1
  rw [if_pos rfl]
  dsimp only
  generalize x.wrong 5=y at *
  unfold scB at *
  generalize x.out.map Tk.row=L at *
  generalize y.out.map Tk.row=L1 at *
  simp only [inSt,mpB,mpL,AV.mp,mpP,Pl.mp]
  simp -implicitDefEqProofs [c111]
  refine onH_mk _ _ (W _ rfl) ⟨?_,?_,?_,?_,?_,?_,?_⟩ ?_
  iterate 7 (· simp [hb])
  simp -implicitDefEqProofs
  refine postH_r ⟨?_,?_,?_,?_,?_,?_⟩<;>simp -implicitDefEqProofs [hib,hb]
 rw [if_neg c1]
 have n1:=ne 10 c1
 by_cases c2:x.st=3
 ·rw [if_pos c2]
  dsimp only
  unfold scB at *
  generalize x.out.map Tk.row=L at *
  simp only [inSt,mpB,mpL,AV.mp,mpP,Pl.mp]
  simp -implicitDefEqProofs [c111,n1,c2]
  refine postH_r ⟨?_,?_,?_,?_,?_,?_⟩<;>simp -implicitDefEqProofs [hib,hb]
 rw [if_neg c2]
 have n2:(x.st==3)=false:=beq_eq_false_iff_ne.2 c2
 by_cases c3:r=92
 ·subst c3
  rw [if_pos rfl]
  dsimp only
  unfold scB at *
  generalize x.out.map Tk.row=L at *
  simp only [inSt,mpB,mpL,AV.mp,mpP,Pl.mp]
  simp -implicitDefEqProofs [c111,n1,n2]
  refine postH_r ⟨?_,?_,?_,?_,?_,?_⟩<;>simp -implicitDefEqProofs [hib,hb]
 rw [if_neg c3]
 have n3:=ne 92 c3
 by_cases c4:r=34
 ·subst c4
  rw [if_pos rfl]
  generalize (quotedF U s x (i+1)).2=ok at *
  generalize (quotedF U s x (i+1)).1=y at *
  unfold scB at *
  generalize x.out.map Tk.row=L at *
  generalize y.out.map Tk.row=L1 at *
  simp only [inSt,mpB,mpL,AV.mp,mpP,Pl.mp]
  simp -implicitDefEqProofs [c111,n1,n2,n3,t1]
  refine onH_mk _ _ (Q _ rfl) ⟨?_,?_,?_,?_,?_,?_,?_⟩ ?_
  iterate 7 (· simp [hb])
  simp -implicitDefEqProofs
  refine postH_r ⟨?_,?_,?_,?_,?_,?_⟩<;>simp -implicitDefEqProofs [hib,hb]
 rw [if_neg c4]
 have n4:=ne 34 c4
 dsimp only
 unfold scB at *
 generalize x.out.map Tk.row=L at *
 simp only [inSt,mpB,mpL,AV.mp,mpP,Pl.mp]
 simp -implicitDefEqProofs [c111,n1,n2,n3,n4]
 refine postH_r ⟨?_,?_,?_,?_,?_,?_⟩<;>simp -implicitDefEqProofs [hib,hb]
open Go.Proofs
theorem stake_spec (V:List UInt8→TV) (U:List UInt8→List UInt8×Int) (s:List UInt8) (hU: ∀w,w.length≤s.length→Sp Tryz.prog gl 196 [.str w] (.tup [.str (U w).1,i6 (U w).2])) (hV: ∀w,w.length≤s.length→Sp Tryz.prog gl 109 [.str w] (V w).av)
  (x:Sc) (hl:x.out.length≤800000) (hs:s.length≤1000000) (i:Nat) (h1:x.sa≤i) (h2:i<s.length) (r:Int) (d:Nat) (b:Id) (hb:b.isIt=false) (hbd:b.isNw d=false):
  SpH Tryz.prog gl 77 d ⟨[.ptr b 0,i6 i,i3 r],[(b,scB s x)],[(.b b 1,5)]⟩ ⟨.bool (takeF V U s x i r).2,[(b,scB s (takeF V U s x i r).1)],[(.b b 1,5)]⟩:=by
 refine h77 rfl ?_
 have hib:=inn_notNw hbd
 have ne: ∀z:Int,¬r=z→(r==z)=false:=fun z h=>beq_eq_false_iff_ne.2 h
 have I:=fun e=>sinside_spec U s hU x (by omega) hs i h1 h2 r e (.up b) hb
 have F:=fun e=>sfresh_spec s x (by omega) i r e (.up b) hb
 have WI:=swithin_spec r
 have HV:=hV (subS s x.sa i) (subS_len s x.sa i)
 have h1':(x.sa:Int)≤i:=by omega
 have h2':(i:Int)≤s.length:=by omega
 have h3:i≤s.length:=by omega
 have hss:List.drop x.sa (List.take i s)=subS s x.sa i:=rfl
 unfold takeF
 by_cases c1:x.st=1
 ·rw [if_pos c1]
  cases hw:wthn r
  ·rw [if_neg (by decide)]
   rw [hw] at WI
   have A:=fun e=>sadd_spec s x (by omega) (V (subS s x.sa i)) e (.up b) hb
   have ao:=Sc.add_out x (V (subS s x.sa i))
   have F2:=fun e=>sfresh_spec s (x.add (V (subS s x.sa i))) (by omega) i r e (.up b) hb
   generalize subS s x.sa i=W at *
   cases hk:(V W).ok
   ·rw [if_neg (by decide)]
    dsimp only
    rw [hk] at A
    have hsh:shut (V W).av=some (V W).av:=by cases V W<;>rfl
    have hid:(V W).av.ids=[]:=by cases V W<;>rfl
    have hmp: ∀f,(V W).av.mp f=(V W).av:=fun f=>by cases V W<;>rfl
    generalize (V W).av=vv at *
    generalize x.add (V W)=y at *
    unfold scB at *
    generalize x.out.map Tk.row=L at *
    generalize y.out.map Tk.row=L1 at *
    simp only [inSt,mpB,mpL,AV.mp,mpP,Pl.mp]
    simp -implicitDefEqProofs [c77,c1]
    refine onC_mk _ (WI) ?_
    simp -implicitDefEqProofs [h1,h3,h1',h2',hss]
    refine onC_mk _ (HV) ?_
    simp -implicitDefEqProofs [hsh,hid,hmp]
    refine onQ_mk _ _ (A _ rfl) ⟨?_,?_,?_,?_,?_,?_,?_⟩ ⟨?_,?_,?_⟩ ?_
    iterate 10 (· simp [Pl.isB,Pl.isF,hb,hid,hmp,c1])
    simp -implicitDefEqProofs [hid,hmp]
    refine postH_r ⟨?_,?_,?_,?_,?_,?_⟩<;>simp -implicitDefEqProofs [hib,hb,hid,hmp]
   ·rw [if_pos rfl]
    rw [hk] at A
    have hsh:shut (V W).av=some (V W).av:=by cases V W<;>rfl
    have hid:(V W).av.ids=[]:=by cases V W<;>rfl
    have hmp: ∀f,(V W).av.mp f=(V W).av:=fun f=>by cases V W<;>rfl
    generalize (V W).av=vv at *
    generalize x.add (V W)=y at *
    generalize (freshF y i r).2=ok2 at *
    generalize (freshF y i r).1=y2 at *
    unfold scB at *
    generalize x.out.map Tk.row=L at *
    generalize y.out.map Tk.row=L1 at *
    generalize y2.out.map Tk.row=L2 at *
    simp only [inSt,mpB,mpL,AV.mp,mpP,Pl.mp]
    simp -implicitDefEqProofs [c77,c1]
    refine onC_mk _ (WI) ?_
    simp -implicitDefEqProofs [h1,h3,h1',h2',hss]
    refine onC_mk _ (HV) ?_
    simp -implicitDefEqProofs [hsh,hid,hmp]
    refine onQ_mk _ _ (A _ rfl) ⟨?_,?_,?_,?_,?_,?_,?_⟩ ⟨?_,?_,?_⟩ ?_
    iterate 10 (· simp [Pl.isB,Pl.isF,hb,hid,hmp,c1])
    simp -implicitDefEqProofs [hid,hmp]
    refine onQ_mk _ _ (F2 _ rfl) ⟨?_,?_,?_,?_,?_,?_,?_⟩ ⟨?_,?_,?_⟩ ?_
    iterate 10 (· simp [Pl.isB,Pl.isF,hb,hid,hmp])
    simp -implicitDefEqProofs [hid,hmp]
    refine postH_r ⟨?_,?_,?_,?_,?_,?_⟩<;>simp -implicitDefEqProofs [hib,hb,hid,hmp]
  ·rw [if_pos rfl]
   rw [hw] at WI
   dsimp only
   unfold scB at *
   generalize x.out.map Tk.row=L at *
   simp only [inSt,mpB,mpL,AV.mp,mpP,Pl.mp]
   simp -implicitDefEqProofs [c77,c1]
   refine onC_mk _ (WI) ?_
   simp -implicitDefEqProofs
   refine postH_r ⟨?_,?_,?_,?_,?_,?_⟩<;>simp -implicitDefEqProofs [hib,hb]
 rw [if_neg c1]
 have n1:(x.st==1)=false:=beq_eq_false_iff_ne.2 c1
 by_cases c2:x.st=4
 ·rw [if_pos c2]
  by_cases c3:r=10
  ·subst c3
   rw [if_pos rfl]
   dsimp only
   unfold scB at *
   generalize x.out.map Tk.row=L at *
   simp only [inSt,mpB,mpL,AV.mp,mpP,Pl.mp]
   simp -implicitDefEqProofs [c77,c2]
   refine postH_r ⟨?_,?_,?_,?_,?_,?_⟩<;>simp -implicitDefEqProofs [hib,hb]
  ·rw [if_neg c3]
   have n3:=ne 10 c3
   dsimp only
   unfold scB at *
   generalize x.out.map Tk.row=L at *
   simp only [inSt,mpB,mpL,AV.mp,mpP,Pl.mp]
   simp -implicitDefEqProofs [c77,c2,n3,c3]
   refine postH_r ⟨?_,?_,?_,?_,?_,?_⟩<;>simp -implicitDefEqProofs [hib,hb,c2]
 rw [if_neg c2]
 have n2:(x.st==4)=false:=beq_eq_false_iff_ne.2 c2
 by_cases c3:x.st=2
 ·rw [if_pos (.inl c3)]
  generalize (insideF U s x i r).2=ok at *
  generalize (insideF U s x i r).1=y at *
  unfold scB at *
  generalize x.out.map Tk.row=L at *
  generalize y.out.map Tk.row=L1 at *
  simp only [inSt,mpB,mpL,AV.mp,mpP,Pl.mp]
  simp -implicitDefEqProofs [c77,c3]
  refine onH_mk _ _ (I _ rfl) ⟨?_,?_,?_,?_,?_,?_,?_⟩ ?_
  iterate 7 (· simp [hb,c3])
  simp -implicitDefEqProofs
  refine postH_r ⟨?_,?_,?_,?_,?_,?_⟩<;>simp -implicitDefEqProofs [hib,hb]
 have n3:(x.st==2)=false:=beq_eq_false_iff_ne.2 c3
 by_cases c4:x.st=3
 ·rw [if_pos (.inr c4)]
  generalize (insideF U s x i r).2=ok at *
  generalize (insideF U s x i r).1=y at *
  unfold scB at *
  generalize x.out.map Tk.row=L at *
  generalize y.out.map Tk.row=L1 at *
  simp only [inSt,mpB,mpL,AV.mp,mpP,Pl.mp]
  simp -implicitDefEqProofs [c77,c4]
  refine onH_mk _ _ (I _ rfl) ⟨?_,?_,?_,?_,?_,?_,?_⟩ ?_
  iterate 7 (· simp [hb,c4])
  simp -implicitDefEqProofs
  refine postH_r ⟨?_,?_,?_,?_,?_,?_⟩<;>simp -implicitDefEqProofs [hib,hb]
 have n4:(x.st==3)=false:=beq_eq_false_iff_ne.2 c4
 rw [if_neg (by omega)]
 generalize (freshF x i r).2=ok at *
 generalize (freshF x i r).1=y at *
 unfold scB at *
 generalize x.out.map Tk.row=L at *
 generalize y.out.map Tk.row=L1 at *
 simp only [inSt,mpB,mpL,AV.mp,mpP,Pl.mp]
 simp -implicitDefEqProofs [c77,n1,n2,n3,n4]
 refine onH_mk _ _ (F _ rfl) ⟨?_,?_,?_,?_,?_,?_,?_⟩ ?_
 iterate 7 (· simp [hb])
 simp -implicitDefEqProofs
 refine postH_r ⟨?_,?_,?_,?_,?_,?_⟩<;>simp -implicitDefEqProofs [hib,hb]
open Go.Proofs
theorem Sc.add_keep (x:Sc) (v:TV):(x.add v).al=x.al∧(x.add v).ac=x.ac∧(x.add v).sa=x.sa:=by
 cases v<;>exact ⟨rfl,rfl,rfl⟩
theorem freshF_keep (x:Sc) (i:Nat) (r:Int):(freshF x i r).1.al=x.al∧(freshF x i r).1.ac=x.ac∧(freshF x i r).1.sa=i:=by
 unfold freshF
 dsimp only
 repeat' split
 all_goals first|exact ⟨rfl,rfl,rfl⟩|exact Sc.add_keep (x.begin i 0) _
theorem takeF_keep (V:List UInt8→TV) (U:List UInt8→List UInt8×Int) (s:List UInt8) (x:Sc) (i:Nat) (r:Int) (h:x.sa≤i):(takeF V U s x i r).1.al=x.al∧(takeF V U s x i r).1.ac=x.ac∧(takeF V U s x i r).1.sa≤i:=by
 unfold takeF
 by_cases c1:x.st=1
 ·rw [if_pos c1]
  by_cases c2:wthn r=true
  ·rw [if_pos c2];exact ⟨rfl,rfl,h⟩
  ·rw [if_neg c2]
   have a:=Sc.add_keep x (V (subS s x.sa i))
   by_cases c3:(V (subS s x.sa i)).ok=true
   ·rw [if_pos c3]
    have f:=freshF_keep (x.add (V (subS s x.sa i))) i r
    exact ⟨f.1.trans a.1,f.2.1.trans a.2.1,by omega⟩
   ·rw [if_neg c3]
    exact ⟨a.1,a.2.1,by dsimp only;omega⟩
 ·rw [if_neg c1]
  by_cases c2:x.st=4
  ·rw [if_pos c2]
   dsimp only
   split
   ·exact ⟨rfl,rfl,h⟩
   ·exact ⟨rfl,rfl,h⟩
  ·rw [if_neg c2]
   by_cases c3:x.st=2∨x.st=3
   ·rw [if_pos c3]
    unfold insideF quotedF
    repeat' split
    all_goals first|exact ⟨rfl,rfl,h⟩|exact ⟨(Sc.add_keep x _).1,(Sc.add_keep x _).2.1,by have:=(Sc.add_keep x (quoTV (U (subS s x.sa (i+1))))).2.2;dsimp only;omega⟩
   ·rw [if_neg c3]
    have f:=freshF_keep x i r
    exact ⟨f.1,f.2.1,by omega⟩
def r65 (r:Int):Int:=if r= -1 then 65533 else r
def Sc.adv (x:Sc) (r:Int):Sc:=if r=10 then {x with al:=x.al+1,ac:=1} else {x with ac:=x.ac+1}
def runF (V:List UInt8→TV) (U:List UInt8→List UInt8×Int) (s:List UInt8) (x:Sc) (i:Nat):Sc×Bool:=
 if h:i<s.length then
  if (takeF V U s x i (r65 (stepR s i).1)).2=true then runF V U s ((takeF V U s x i (r65 (stepR s i).1)).1.adv (r65 (stepR s i).1)) (i+(stepR s i).2)
  else ((takeF V U s x i (r65 (stepR s i).1)).1,false)
 else (x,true)
termination_by s.length - i
decreasing_by have:=stepR_pos s i;omega
def sc0:Sc:=⟨[],0,0,1,1,1,1,0,0,0⟩
structure TR where
 l:List Tk
 c:Int
 a:Int
 b:Int
def TR.bad (x:Sc):TR:=⟨[],x.cd,x.xl,x.xc⟩
def scanF (V:List UInt8→TV) (U:List UInt8→List UInt8×Int) (s:List UInt8):TR:=
 if 40000<s.length then ⟨[],9,1,1⟩
 else if (runF V U s sc0 0).2=true then (if (endF V s (runF V U s sc0 0).1).2=true then ⟨(endF V s (runF V U s sc0 0).1).1.out,0,0,0⟩ else .bad (endF V s (runF V U s sc0 0).1).1)
 else .bad (runF V U s sc0 0).1
def TR.av (x:TR):AV:= .tup [.sl (x.l.map Tk.row),.agg [i6 x.c,i6 x.a,i6 x.b]]
theorem send_spec (V:List UInt8→TV) (s:List UInt8) (hV: ∀w,w.length≤s.length→Sp Tryz.prog gl 109 [.str w] (V w).av)
  (x:Sc) (hl:x.out.length≤800000) (hs:s.length≤1000000) (h1:x.sa≤s.length) (d:Nat) (b:Id) (hb:b.isIt=false) (hbd:b.isNw d=false):
  SpH Tryz.prog gl 78 d ⟨[.ptr b 0],[(b,scB s x)],[(.b b 1,5)]⟩ ⟨.bool (endF V s x).2,[(b,scB s (endF V s x).1)],[(.b b 1,5)]⟩:=by
 refine h78 rfl ?_
 have hib:=inn_notNw hbd
 have HV:=hV (subS s x.sa s.length) (subS_len s x.sa s.length)
 have h1':(x.sa:Int)≤s.length:=by omega
 have hss:List.drop x.sa s=subS s x.sa s.length:=by unfold subS;rw [List.take_length]
 have hz:(TV.t 0 [] 0).av= .ifc 55 (.agg [.int .i64 0,.str [],.int .u64 0,.int .i64 0,.int .i64 0]):=rfl
 have ho:(TV.t 0 [] 0).ok=true:=rfl
 have W:=fun e=>swrong_spec s x 5 e (.up b) hb
 unfold endF
 by_cases c1:x.st=1
 ·rw [if_pos c1]
  have A:=fun e=>sadd_spec s x (by omega) (V (subS s x.sa s.length)) e (.up b) hb
  have ao:=Sc.add_out x (V (subS s x.sa s.length))
  have B:=fun e=>sbegin_spec s (x.add (V (subS s x.sa s.length))) s.length 0 e (.up b) hb
  have A2:=fun e=>sadd_spec s ((x.add (V (subS s x.sa s.length))).begin s.length 0) (by rw [Sc.begin_out];omega) (.t 0 [] 0) e (.up b) hb
  rw [hz,ho] at A2
  generalize subS s x.sa s.length=W0 at *
  cases hk:(V W0).ok
  ·rw [if_neg (by decide)]
   dsimp only
   rw [hk] at A
   have hsh:shut (V W0).av=some (V W0).av:=by cases V W0<;>rfl
   have hid:(V W0).av.ids=[]:=by cases V W0<;>rfl
   have hmp: ∀f,(V W0).av.mp f=(V W0).av:=fun f=>by cases V W0<;>rfl
   generalize (V W0).av=vv at *
   generalize x.add (V W0)=y at *
   clear B A2
   unfold scB at *
   generalize x.out.map Tk.row=L at *
   generalize y.out.map Tk.row=L1 at *
   simp only [inSt,mpB,mpL,AV.mp,mpP,Pl.mp]
   simp -implicitDefEqProofs [c78,c1,h1,h1',hss]
   refine onC_mk _ (HV) ?_
   simp -implicitDefEqProofs [hsh,hid,hmp]
   refine onQ_mk _ _ (A _ rfl) ⟨?_,?_,?_,?_,?_,?_,?_⟩ ⟨?_,?_,?_⟩ ?_
   iterate 10 (· simp [Pl.isB,Pl.isF,hb,hid,hmp,c1])
   simp -implicitDefEqProofs [hid,hmp]
   refine postH_r ⟨?_,?_,?_,?_,?_,?_⟩<;>simp -implicitDefEqProofs [hib,hb,hid,hmp]
  ·rw [if_pos rfl]
   rw [hk] at A
   have hsh:shut (V W0).av=some (V W0).av:=by cases V W0<;>rfl
   have hid:(V W0).av.ids=[]:=by cases V W0<;>rfl
   have hmp: ∀f,(V W0).av.mp f=(V W0).av:=fun f=>by cases V W0<;>rfl
   generalize (V W0).av=vv at *
   generalize x.add (V W0)=y at *
   generalize y.begin s.length 0=y1 at *
   generalize y1.add (.t 0 [] 0)=y2 at *
   unfold scB at *
   generalize x.out.map Tk.row=L at *
   generalize y.out.map Tk.row=L1 at *
   generalize y1.out.map Tk.row=L2 at *
   generalize y2.out.map Tk.row=L3 at *
   simp only [inSt,mpB,mpL,AV.mp,mpP,Pl.mp]
   simp -implicitDefEqProofs [c78,c1,h1,h1',hss]
   refine onC_mk _ (HV) ?_
   simp -implicitDefEqProofs [hsh,hid,hmp]
   refine onQ_mk _ _ (A _ rfl) ⟨?_,?_,?_,?_,?_,?_,?_⟩ ⟨?_,?_,?_⟩ ?_
   iterate 10 (· simp [Pl.isB,Pl.isF,hb,hid,hmp,c1])
   simp -implicitDefEqProofs [hid,hmp]
   refine onH_mk _ _ (B _ rfl) ⟨?_,?_,?_,?_,?_,?_,?_⟩ ?_
   iterate 7 (· simp [hb,hid,hmp])
   simp -implicitDefEqProofs [hid,hmp]
   refine onH_mk _ _ (A2 _ rfl) ⟨?_,?_,?_,?_,?_,?_,?_⟩ ?_
   iterate 7 (· simp [hb,hid,hmp])
   simp -implicitDefEqProofs [hid,hmp]
   refine postH_r ⟨?_,?_,?_,?_,?_,?_⟩<;>simp -implicitDefEqProofs [hib,hb,hid,hmp]
 rw [if_neg c1]
 have n1:(x.st==1)=false:=beq_eq_false_iff_ne.2 c1
 by_cases c3:x.st=2
 ·rw [if_pos (.inl c3)]
  dsimp only
  generalize x.wrong 5=y at *
  unfold scB at *
  generalize x.out.map Tk.row=L at *
  generalize y.out.map Tk.row=L1 at *
  simp only [inSt,mpB,mpL,AV.mp,mpP,Pl.mp]
  simp -implicitDefEqProofs [c78,c3]
  refine onH_mk _ _ (W _ rfl) ⟨?_,?_,?_,?_,?_,?_,?_⟩ ?_
  iterate 7 (· simp [hb,c3])
  simp -implicitDefEqProofs
  refine postH_r ⟨?_,?_,?_,?_,?_,?_⟩<;>simp -implicitDefEqProofs [hib,hb]
 have n3:(x.st==2)=false:=beq_eq_false_iff_ne.2 c3
 by_cases c4:x.st=3
 ·rw [if_pos (.inr c4)]
  dsimp only
  generalize x.wrong 5=y at *
  unfold scB at *
  generalize x.out.map Tk.row=L at *
  generalize y.out.map Tk.row=L1 at *
  simp only [inSt,mpB,mpL,AV.mp,mpP,Pl.mp]
  simp -implicitDefEqProofs [c78,c4]
  refine onH_mk _ _ (W _ rfl) ⟨?_,?_,?_,?_,?_,?_,?_⟩ ?_
  iterate 7 (· simp [hb,c4])
  simp -implicitDefEqProofs
  refine postH_r ⟨?_,?_,?_,?_,?_,?_⟩<;>simp -implicitDefEqProofs [hib,hb]
 have n4:(x.st==3)=false:=beq_eq_false_iff_ne.2 c4
 rw [if_neg (by omega)]
 have B:=fun e=>sbegin_spec s x s.length 0 e (.up b) hb
 have A2:=fun e=>sadd_spec s (x.begin s.length 0) (by rw [Sc.begin_out];omega) (.t 0 [] 0) e (.up b) hb
 rw [hz,ho] at A2
 dsimp only
 generalize x.begin s.length 0=y1 at *
 generalize y1.add (.t 0 [] 0)=y2 at *
 clear W
 unfold scB at *
 generalize x.out.map Tk.row=L at *
 generalize y1.out.map Tk.row=L2 at *
 generalize y2.out.map Tk.row=L3 at *
 simp only [inSt,mpB,mpL,AV.mp,mpP,Pl.mp]
 simp -implicitDefEqProofs [c78,n1,n3,n4]
 refine onH_mk _ _ (B _ rfl) ⟨?_,?_,?_,?_,?_,?_,?_⟩ ?_
 iterate 7 (· simp [hb])
 simp -implicitDefEqProofs
 refine onH_mk _ _ (A2 _ rfl) ⟨?_,?_,?_,?_,?_,?_,?_⟩ ?_
 iterate 7 (· simp [hb])
 simp -implicitDefEqProofs
 refine postH_r ⟨?_,?_,?_,?_,?_,?_⟩<;>simp -implicitDefEqProofs [hib,hb]
open Go.Proofs
end Go.Ai
namespace Go.Ai
open Go.Proofs
def skp (l:List Int) (i:Nat):Nat:=if h:i<l.length then (if l[i]=10 then i else skp l (i+1)) else i
termination_by l.length - i
def refGo (VR:List Int→TV) (U:List UInt8→List UInt8×Int) (l:List Int) (P:List (Int×Int)):Nat→Nat→List Tk→TR
 |0,_,_=>⟨[],0,0,0⟩
 |f+1,i,out=>match l[i]? with
  |none=>⟨out++[⟨0,[],0,(P.getD l.length (0,0)).1,(P.getD l.length (0,0)).2⟩],0,0,0⟩
  |some r=>if r=32∨r=9∨r=10 then refGo VR U l P f (i+1) out
   else if r=35 then refGo VR U l P f (skp l i) out
   else if (oneF VR U l i r).c=0 then refGo VR U l P f (oneF VR U l i r).en (out++[⟨(oneF VR U l i r).k,(oneF VR U l i r).w,(oneF VR U l i r).n,(P.getD i (0,0)).1,(P.getD i (0,0)).2⟩])
   else ⟨[],(oneF VR U l i r).c,(P.getD i (0,0)).1,(P.getD i (0,0)).2⟩
end Go.Ai
