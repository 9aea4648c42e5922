/- P16: a part of the proof: the rules, or what functions compute. Conditions: as each theorem says. -/
import Derived.Test.YtidcomakahbepaaGreatDoorP12
import Derived.Test.YtidcomakahbepaaGreatDoorP15
import Derived.Test.YtidcomakahbepaaGreatDoorP14
import Derived.Test.YtidcomakahbepaaGreatDoorP11
set_option linter.unusedSimpArgs false
set_option linter.unusedVariables false
set_option maxRecDepth 20000
namespace Go.Ai
open Go.Proofs
theorem xmove_ok (X:Id) (hX:X.isIt=false) (x:Gl) (t t':Nat) (htt:t≤t') (ht:t'≤253402300799) (sd:Bool) (L:List Ev) (d:Nat) (hd:X.isNw d=false):
  SpH Tryz.prog gl 57 d ⟨[.ptr X 0,i6 t'],[(X,xC x t sd L)],[(.b X 10,3)]⟩ ⟨i6 0,[(X,xC x t' sd L)],[(.b X 10,3)]⟩:=by
 refine h57 rfl ?_
 have hi:=inn_notNw hd
 have TK:=rtick19_spec t'
 have tk:(decide ((0:Int)≤t')&&decide ((t':Int)≤253402300799))=true:=by simp;omega
 rw [tk] at TK
 have a1: ¬((t':Int)<t):=by omega
 have a1': ¬(t'<t):=by omega
 simp only [xC]
 generalize evRows L=rows
 simp only [inSt,mpL,mpB,mpP,AV.mp,Pl.mp]
 simp -implicitDefEqProofs [c57]
 refine onC_mk _ TK ?_
 simp -implicitDefEqProofs [a1,a1']
 refine postH_r ⟨?_,?_,?_,?_,?_,?_⟩<;>simp -implicitDefEqProofs [hi,hX,hd]
theorem xmove_bad (X:Id) (hX:X.isIt=false) (x:Gl) (t:Nat) (now:Int) (hb: ¬(0≤now∧now≤253402300799)∨now<t) (sd:Bool) (L:List Ev) (d:Nat) (hd:X.isNw d=false):
  SpH Tryz.prog gl 57 d ⟨[.ptr X 0,i6 now],[(X,xC x t sd L)],[(.b X 10,3)]⟩ ⟨i6 (if 0≤now∧now≤253402300799 then 13 else 8),[(X,xC x t sd L)],[(.b X 10,3)]⟩:=by
 refine h57 rfl ?_
 have hi:=inn_notNw hd
 have TK:=rtick19_spec now
 simp only [xC]
 generalize evRows L=rows
 simp only [inSt,mpL,mpB,mpP,AV.mp,Pl.mp]
 by_cases g:0≤now∧now≤253402300799
 ·rw [if_pos g]
  have g1:now<t:=by rcases hb with h|h;exact absurd g h;exact h
  have tk:(decide (0≤now)&&decide (now≤253402300799))=true:=by simp [g]
  rw [tk] at TK
  simp -implicitDefEqProofs [c57]
  refine onC_mk _ TK ?_
  simp -implicitDefEqProofs [g1]
  refine postH_r ⟨?_,?_,?_,?_,?_,?_⟩<;>simp -implicitDefEqProofs [hi,hX,hd]
 ·rw [if_neg g]
  have tk:(decide (0≤now)&&decide (now≤253402300799))=false:=by
   rw [Bool.and_eq_false_iff,decide_eq_false_iff_not,decide_eq_false_iff_not]
   by_cases h:0≤now
   ·exact .inr fun e=>g ⟨h,e⟩
   ·exact .inl h
  rw [tk] at TK
  simp -implicitDefEqProofs [c57]
  refine onC_mk _ TK ?_
  simp -implicitDefEqProofs
  refine postH_r ⟨?_,?_,?_,?_,?_,?_⟩<;>simp -implicitDefEqProofs [hi,hX,hd]
structure WdOk (x:Gl) (n g:Nat) (wd:Nat→Nat):Prop where
 gg:x.g=(g:Nat)
 n1:n≤1000000
 len:(winP x).length=n
 wd: ∀i,i<n→(winP x)[i]?=some ((wd i:Nat):Int)∧Wd (wd i) g
theorem WdOk.at {x:Gl} {n g:Nat} {wd:Nat→Nat} (h:WdOk x n g wd) (k:Nat) (hk:k<n):(intRows (winP x))[k]?=some [i6 ((wd k:Nat):Int)]:=by
 have:=(h.wd k hk).1
 simp only [intRows,List.getElem?_map,this,Option.map_some]
theorem WdOk.rows {x:Gl} {n g:Nat} {wd:Nat→Nat} (h:WdOk x n g wd):(intRows (winP x)).length=n∧ ∀r∈intRows (winP x),r.length=1:=⟨by rw [intRows_len];exact h.len,intRows_one _⟩
theorem WdOk.getD {x:Gl} {n g:Nat} {wd:Nat→Nat} (h:WdOk x n g wd) (k:Nat) (hk:k<n):(winP x).getD k 0=((wd k:Nat):Int):=by
 rw [List.getD_eq_getElem?_getD,(h.wd k hk).1];rfl
theorem WdOk.kw {x:Gl} {n g:Nat} {wd:Nat→Nat} (h:WdOk x n g wd):KwOk n (fun i=>wK (wd i) g) (fun i=>wW (wd i) g):=
 ⟨fun i hi=>(wK_ok (h.wd i hi).2).1,fun i hi=>(wK_ok (h.wd i hi).2).2.1,fun i hi=>(wK_ok (h.wd i hi).2).2.2.2.1⟩
theorem xwindows_spec (X:Id) (hX:X.isIt=false) (x:Gl) (hl:x.ru.length≤10) (n g:Nat) (wd:Nat→Nat) (hw:WdOk x n g wd) (t:Nat) (ht:t≤253402300799) (sd:Bool) (L:List Ev) (hL:LOk n (fun i=>wK (wd i) g) (fun i=>wW (wd i) g) t L) (hll:L.length≤1000000) (d:Nat) (hd:X.isNw d=false):
  SpH Tryz.prog gl 70 d ⟨[.ptr X 0],[(X,xC x t sd L)],[(.b X 10,3)]⟩ ⟨.sl (winR (winP x) (fun i=>wK (wd i) g) (fun i=>wW (wd i) g) t L n),[(X,xC x t sd L)],[(.b X 10,3)]⟩:=by
 refine h70 rfl ?_
 have hi:=inn_notNw hd
 have WS:=rwin_spec x hl
 obtain ⟨hWl,hW1⟩:=hw.rows
 have hWa:=hw.at
 have hgd:=hw.getD
 have RS:=fun v e he=>xring_spec (.up X) hX x g hw.gg t sd L v e he
 have SS:=fun k hk e=>ysum_spec (.nw 28 (.n 20)) rfl (wd k) g (hw.wd k hk).2 t ht L hL.le hL.ok hll (hL.sm k hk) e
 have hrs:=winR_succ (winP x) (fun i=>wK (wd i) g) (fun i=>wW (wd i) g) t L
 have hrl:=winR_len (winP x) (fun i=>wK (wd i) g) (fun i=>wW (wd i) g) t L
 have hr3:=winR_3 (winP x) (fun i=>wK (wd i) g) (fun i=>wW (wd i) g) t L
 have hr0:winR (winP x) (fun i=>wK (wd i) g) (fun i=>wW (wd i) g) t L 0=[]:=rfl
 have hlim:lim=140737488355328:=rfl
 have hn1:=hw.n1
 generalize intRows (winP x)=W at *
 simp only [Gl.row] at WS
 simp only [xC,yC] at RS SS ⊢
 generalize evRows L=rows at *
 simp only [inSt,mpL,mpB,mpP,AV.mp,Pl.mp]
 simp -implicitDefEqProofs [c70]
 refine onC_mk _ WS ?_
 simp -implicitDefEqProofs
 refine wp_lpk (α:=Nat) (fun k=>⟨[(0,.ptr (.up X) 0),(3,.sl W),(4,.sl (winR (winP x) (fun i=>wK (wd i) g) (fun i=>wW (wd i) g) t L k)),(5,i6 k)],[(.up X,[.str x.n,.int .u32 x.t,i6 x.g,i6 x.a,i6 x.o,i6 x.c,.sl (x.lb.map Lb.row),.sl (x.ru.map Ru.row),i6 t,.bool sd,.sl rows])],[(.b (.up X) 10,3),(.s 4,3)]⟩) (fun k=>k≤n) (fun k=>n - k) ?_ 0 ?_ ?_
 ·intro K k hK k1
  by_cases c:k<n
  ·have c':(k:Int)<n:=by omega
   have w1:IntKind.i64.wrap ((k:Int)+1)=(k+1:Nat):=by rw [wr]<;>omega
   have kl:k<W.length:=by omega
   have ew0:=hWa k c
   have ew:W[k]'kl=[i6 ((wd k:Nat):Int)]:=by rw [List.getElem?_eq_getElem kl] at ew0;exact Option.some.inj ew0
   have RSk:=RS (wd k)
   have SSk:=SS k c
   have fin:=fun σ' hσ=>hK (k+1) σ' (by omega) (by omega) hσ
   rw [hrs,hgd k c] at fin
   have rl:=hrl k
   have r3:=hr3 k
   have l1:(k+1)*24≤140737488355328:=by omega
   clear hK RS SS hrs hrl hr3 hWa hgd hr0
   generalize winR (winP x) (fun i=>wK (wd i) g) (fun i=>wW (wd i) g) t L k=out at *
   generalize sumG (wK (wd k) g) (wW (wd k) g) (t / wW (wd k) g) L=sg at *
   generalize sumT (wK (wd k) g) (wW (wd k) g) (t / wW (wd k) g) L=st at *
   simp -implicitDefEqProofs [c,c',kl,ew,ew0,hWl,hW1]
   refine onQ_mk _ _ (RSk _ rfl) ⟨?_,?_,?_,?_,?_,?_,?_⟩ ⟨?_,?_,?_⟩ ?_
   iterate 10 (· simp [Pl.isB,Pl.isF])
   simp -implicitDefEqProofs
   refine onQ_mk _ _ (SSk _ (by simp)) ⟨?_,?_,?_,?_,?_,?_,?_⟩ ⟨?_,?_,?_⟩ ?_
   iterate 10 (· simp [Pl.isB,Pl.isF])
   simp -implicitDefEqProofs [hlim,rl,l1,r3,w1]
   refine ⟨r3,fin _ ?_⟩
   refine weak_mk ?_ ?_ ?_ ?_ ?_ ?_<;>simp -implicitDefEqProofs [w1]
  ·obtain rfl:k=n:=by omega
   clear hK RS SS hrs hrl hr3 hWa hgd hr0
   have c': ¬((k:Int)<k):=by omega
   generalize winR (winP x) (fun i=>wK (wd i) g) (fun i=>wW (wd i) g) t L k=out at *
   simp -implicitDefEqProofs [c',hWl]
   refine postH_r ⟨?_,?_,?_,?_,?_,?_⟩<;>simp -implicitDefEqProofs [hi,hX,hd]
 ·exact Nat.zero_le _
 ·refine weak_mk ?_ ?_ ?_ ?_ ?_ ?_<;>simp -implicitDefEqProofs [hr0]
open Go.Proofs
end Go.Ai
namespace Go.Ai
open Go.Proofs
def Gl.zero:Gl:=⟨[],0,0,0,0,0,[],[]⟩
open Go.Proofs
theorem cu_len (a:Array Int): ∀m,(Lib.compactUpTo a m).length≤m
 |0=>by simp [Lib.compactUpTo]
 |m+1=>by
  rw [Lib.compactUpTo_succ]
  have:=cu_len a m
  split<;>simp<;>omega
theorem winP_len (x:Gl):(winP x).length≤2*x.ru.length+1:=by
 have e:winP x=Lib.compactUpTo (sortI (allW x)).toArray (sortI (allW x)).length:=rfl
 have h1:=cu_len (sortI (allW x)).toArray (sortI (allW x)).length
 have h2:(sortI (allW x)).length=(allW x).length:=(List.mergeSort_perm _ _).length_eq
 have h3:=allW_len x
 rw [e];omega
open Go.Proofs
structure Ac where
 k:Int
 a:Int
 g:Nat
 t:Nat
def Ac.row (x:Ac):List AV:=[i6 x.k,i6 x.a,u x.g,u x.t]
structure Mt where
 t:Nat
 L:List Ev
 sd:Bool
structure MtOk (x:Gl) (n:Nat) (K w:Nat→Nat) (s:Mt) (k:Nat):Prop where
 t:s.t≤253402300799
 L:LOk n K w s.t s.L
 P:pcT x.c s.t s.L≤9223372036854775807
 l:s.L.length≤k
def mvT (s:Mt) (a:Int):Mt:=if 0≤a∧a≤253402300799∧(s.t:Int)≤a then ⟨a.toNat,s.L,s.sd⟩ else s
def adS (x:Gl) (n:Nat) (K w:Nat→Nat) (s:Mt) (a:Int) (g t:Nat):Mt:=
 if addE x.a s.t a g t≠0 then s else if s.sd=true∨roomB x.c n K w s.t s.L a.toNat t=false then ⟨s.t,s.L,true⟩ else ⟨s.t,s.L++[(a.toNat,g,t)],false⟩
def stS (x:Gl) (n:Nat) (K w:Nat→Nat) (s:Mt) (a:Ac):Mt:=
 if a.k=1 then mvT s a.a else if a.k=2 then adS x n K w s a.a a.g a.t else if a.k=3 then ⟨s.t,[],false⟩ else s
theorem inW_down {K w t t' a:Nat} (h:t≤t') (hp:inW K (t' / w) (a / w)=true):inW K (t / w) (a / w)=true:=by
 have:=Nat.div_le_div_right (c:=w) h
 unfold inW at *
 rw [decide_eq_true_eq] at *
 omega
theorem LOk.move {n:Nat} {K w:Nat→Nat} {t t':Nat} {L:List Ev} (h:LOk n K w t L) (ht:t≤t'):LOk n K w t' L:=
 ⟨h.ok,fun e he=>Nat.le_trans (h.le e he) ht,fun i hi=>Nat.le_trans (sm_le fun e _ hp=>inW_down ht hp) (h.sm i hi)⟩
theorem pcT_move (c:Int) {t t':Nat} {L:List Ev} (h:t≤t') (ht:t'≤253402300799) (hL:EvLe L t) (hP:pcT c t L≤9223372036854775807):pcT c t' L≤9223372036854775807:=by
 by_cases e:pF c t'=pF c t
 ·rw [(pc_same e).2];exact hP
 ·rw [(pc_move h ht hL e).2];omega
theorem MtOk.mono {x:Gl} {n:Nat} {K w:Nat→Nat} {s:Mt} {k k':Nat} (h:MtOk x n K w s k) (hk:k≤k'):MtOk x n K w s k':=⟨h.t,h.L,h.P,Nat.le_trans h.l hk⟩
theorem mvT_ok {x:Gl} {n:Nat} {K w:Nat→Nat} {s:Mt} {k:Nat} (h:MtOk x n K w s k) (a:Int):MtOk x n K w (mvT s a) k:=by
 unfold mvT
 split
 ·rename_i g
  obtain ⟨g1,g2,g3⟩:=g
  have e:(a.toNat:Int)=a:=Int.toNat_of_nonneg g1
  have q1:s.t≤a.toNat:=by omega
  have q2:a.toNat≤253402300799:=by omega
  exact ⟨q2,h.L.move q1,pcT_move x.c q1 q2 h.L.le h.P,h.l⟩
 ·exact h
theorem addE_zero {late:Int} {t:Nat} {a:Int} {g c:Nat} (h:addE late t a g c=0):g≤c∧0≤a∧a≤253402300799∧a≤t∧t - late≤a:=by
 unfold addE at h
 split at h
 ·cases h
 ·split at h
  ·cases h
  ·split at h
   ·cases h
   ·split at h
    ·cases h
    ·rename_i h1 h2 h3 h4
     rw [Classical.not_not] at h2
     exact ⟨by omega,h2.1,h2.2,by omega,by omega⟩
theorem LOk.add {c:Int} {n:Nat} {K w:Nat→Nat} {t:Nat} {L:List Ev} (h:LOk n K w t L) {a g m:Nat} (ha:a≤t) (hg:g≤m) (hr:roomB c n K w t L a m=true):LOk n K w t (L++[(a,g,m)]):=by
 obtain ⟨h1,h2⟩:=roomB_all hr
 refine ⟨fun e he=>?_,fun e he=>?_,fun i hi=>?_⟩
 ·rcases List.mem_append.1 he with q|q
  ·exact h.ok e q
  ·rw [List.mem_singleton] at q;subst q;exact hg
 ·rcases List.mem_append.1 he with q|q
  ·exact h.le e q
  ·rw [List.mem_singleton] at q;subst q;exact ha
 ·have q:=h1 i hi
  have s:=h.sm i hi
  unfold okW fitB sumT at *
  rw [sm_app]
  have e1:Go.Ai.sm eT (w i) (inW (K i) (t / w i)) [(a,g,m)]=if inW (K i) (t / w i) (a / w i)=true then m else 0:=rfl
  rw [e1]
  cases hp:inW (K i) (t / w i) (a / w i) with
  |false=>simpa using s
  |true=>
   rw [hp] at q
   simp only [Bool.not_true,Bool.false_or,decide_eq_true_eq] at q
   simp only [if_true]
   omega
theorem adS_ok {x:Gl} {n:Nat} {K w:Nat→Nat} {s:Mt} {k:Nat} (h:MtOk x n K w s k) (a:Int) (g t:Nat):MtOk x n K w (adS x n K w s a g t) (k+1):=by
 unfold adS
 split
 ·exact h.mono (Nat.le_succ k)
 ·rename_i he
  rw [Classical.not_not] at he
  obtain ⟨e1,e2,e3,e4,e5⟩:=addE_zero he
  have e:(a.toNat:Int)=a:=Int.toNat_of_nonneg e2
  split
  ·exact ⟨h.t,h.L,h.P,Nat.le_succ_of_le h.l⟩
  ·rename_i hr
   rw [not_or] at hr
   have hr2:roomB x.c n K w s.t s.L a.toNat t=true:=by simpa using hr.2
   refine ⟨h.t,h.L.add (by omega) e1 hr2,?_,?_⟩
   ·obtain ⟨-,h2⟩:=roomB_all hr2
    have hP:=h.P
    by_cases c0:x.c=0
    ·show pcT _ _ _≤_
     unfold pcT;rw [if_pos c0];omega
    ·show pcT _ _ _≤_
     rw [(pc_add c0).2]
     unfold okP fitB at h2
     have c0':(x.c==0)=false:=by rw [beq_eq_false_iff_ne];exact c0
     rw [c0'] at h2
     by_cases c2:pF x.c s.t≤a.toNat
     ·rw [if_pos c2]
      rw [decide_eq_false (show ¬a.toNat<pF x.c s.t by omega)] at h2
      simp only [Bool.false_or,decide_eq_true_eq] at h2
      exact h2.2
     ·rw [if_neg c2];exact hP
   ·have:=h.l
    simp;omega
theorem stS_ok {x:Gl} {n:Nat} {K w:Nat→Nat} {s:Mt} {k:Nat} (h:MtOk x n K w s k) (a:Ac):MtOk x n K w (stS x n K w s a) (k+1):=by
 unfold stS
 split
 ·exact (mvT_ok h _).mono (Nat.le_succ k)
 ·split
  ·exact adS_ok h _ _ _
  ·split
   ·refine ⟨h.t,⟨fun e he=>(by simp at he),fun e he=>(by simp at he),fun i hi=>?_⟩,?_,Nat.zero_le _⟩
    ·show sm _ _ _ []≤_
     simp [sm]
    ·show pcT _ _ []≤_
     unfold pcT;split<;>simp [sm]
   ·exact h.mono (Nat.le_succ k)
def mt0:Mt:=⟨0,[],false⟩
theorem mt0_ok (x:Gl) (n:Nat) (K w:Nat→Nat):MtOk x n K w mt0 0:=by
 refine ⟨by show (0:Nat)≤_;omega,⟨fun e he=>(by simp [mt0] at he),fun e he=>(by simp [mt0] at he),fun i hi=>?_⟩,?_,Nat.le_refl _⟩
 ·show sm _ _ _ []≤_
  simp [sm]
 ·show pcT _ _ []≤_
  unfold pcT;split<;>simp [sm]
def gN (x:Gl):Nat:=x.g.toNat
def wdN (x:Gl) (i:Nat):Nat:=((winP x).getD i 0).toNat
def kN (x:Gl) (i:Nat):Nat:=wK (wdN x i) (gN x)
def wN (x:Gl) (i:Nat):Nat:=wW (wdN x i) (gN x)
theorem goal_parts {x:Gl} (h:goalP x=true):(1≤x.g∧x.g≤86400)∧(0≤x.a∧x.a≤86400)∧(0≤x.o∧x.o≤34560000)∧x.o.tmod x.g=0∧(0≤x.c∧x.c≤2)∧1≤x.ru.length∧ ∀r∈x.ru,(1≤r.s∧r.s≤r.l)∧(1≤r.l∧r.l≤34560000)∧r.l.tmod x.g=0∧r.s.tmod x.g=0:=by
 unfold goalP rulesP btw ruP btw at h
 simp only [Bool.and_eq_true,decide_eq_true_eq,beq_iff_eq,List.all_eq_true] at h
 obtain ⟨-,-,h1,h2,h3,h4,h5,-,h6,h7,-⟩:=h
 refine ⟨h1,h2,h3,h4,h5,by omega,fun r hr=>?_⟩
 obtain ⟨q1,q2,q3,q4,q5,q6,-⟩:=h6 r hr
 exact ⟨q2,q3,q5,q6⟩
theorem goal_wd {x:Gl} (h:goalP x=true) (hl:x.ru.length≤10):WdOk x (winP x).length (gN x) (wdN x):=by
 obtain ⟨g1,-,g3,g4,-,-,g7⟩:=goal_parts h
 have eg:((gN x:Nat):Int)=x.g:=Int.toNat_of_nonneg (by omega)
 have md: ∀z:Int,0≤z→z.tmod x.g=0→z.toNat%gN x=0:=by
  intro z hz hm
  have e:((z.toNat:Nat):Int)=z:=Int.toNat_of_nonneg hz
  rw [←eg,←e] at hm
  have:((z.toNat%gN x:Nat):Int)=0:=by
   rw [Int.natCast_emod,←Int.tmod_eq_emod_of_nonneg (by omega)];exact hm
  omega
 refine ⟨eg.symm,?_,rfl,fun i hi=>?_⟩
 ·have:=winP_len x
  omega
 ·have e1:(winP x)[i]?=some (winP x)[i]:=List.getElem?_eq_getElem hi
  have e2:(winP x).getD i 0=(winP x)[i]:=by rw [List.getD_eq_getElem?_getD,e1];rfl
  have hm:=(winP_mem x _).1 (List.getElem_mem hi)
  have hz:1≤(winP x)[i]∧(winP x)[i]≤34560000∧((winP x)[i]).tmod x.g=0:=by
   generalize (winP x)[i]=z at hm ⊢
   unfold allW ruW at hm
   rcases List.mem_append.1 hm with q|q
   ·rw [List.mem_flatMap] at q
    obtain ⟨r,hr,q⟩:=q
    obtain ⟨q1,q2,q3,q4⟩:=g7 r hr
    simp only [List.mem_cons,List.not_mem_nil,or_false] at q
    rcases q with rfl|rfl
    ·exact ⟨by omega,by omega,q3⟩
    ·exact ⟨by omega,by omega,q4⟩
   ·split at q
    ·simp at q
    ·rw [List.mem_singleton] at q
     subst q
     exact ⟨by omega,by omega,g4⟩
  have e3:((wdN x i:Nat):Int)=(winP x)[i]:=by unfold wdN;rw [e2];exact Int.toNat_of_nonneg (by omega)
  refine ⟨by rw [e3,e1],by omega,by omega,?_,?_,?_⟩
  ·omega
  ·omega
  ·have:=md _ (by omega) hz.2.2
   rw [←e3,Int.toNat_natCast] at this
   exact this
theorem goal_n1 {x:Gl} (h:goalP x=true):1≤(winP x).length:=by
 obtain ⟨-,-,-,-,-,g6,-⟩:=goal_parts h
 cases hr:x.ru with
 |nil=>rw [hr] at g6;simp at g6
 |cons r l=>
  have hm:r.l∈winP x:=by rw [winP_mem];unfold allW ruW;rw [hr];simp
  exact List.length_pos_of_mem hm
open Go.Proofs
structure NmX (M A:Id) (R B:Nat→Id) (X:Id) (Zp:Nat→Prop:=fun _=>True):Prop where
 h:Nms M A R B
 xi:X.isIt=false
 xm:X≠M
 xa:X≠A
 xr: ∀i,X≠R i
 xb: ∀i,X≠B i
 nx: ∀e,Zp e→M.isNw e=false→X.isNw e=false
theorem NmX.up {M A:Id} {R B:Nat→Id} {X:Id} {Zp:Nat→Prop} (h:NmX M A R B X Zp):NmX (.up M) (.up A) (fun i=> .up (R i)) (fun i=> .up (B i)) (.up X) Zp:=
 ⟨h.h.up,h.xi,fun e=>h.xm (Id.up.inj e),fun e=>h.xa (Id.up.inj e),fun i e=>h.xr i (Id.up.inj e),fun i e=>h.xb i (Id.up.inj e),fun _ _ _=>rfl⟩
theorem Nms.nwd {M A:Id} {R B:Nat→Id} (h:Nms M A R B) (hm:M.isUp=false) (ha:A.isUp=false) (hr: ∀i,(R i).isUp=false) (hb: ∀i,(B i).isUp=false) (d:Nat):Nms (.nw d M) (.nw d A) (fun i=> .nw d (R i)) (fun i=> .nw d (B i)):=
 have j: ∀ {a b:Id},Id.nw d a= .nw d b→a=b:=fun e=>by injection e
 ⟨h.mi,h.ai,h.ri,h.bi,fun i k e=>h.rr i k (j e),fun i k e=>h.bb i k (j e),fun i k e=>h.rb i k (j e),fun i e=>h.mr i (j e),fun i e=>h.mb i (j e),
  fun i e=>h.ar i (j e),fun i e=>h.ab i (j e),fun e=>h.ma (j e),fun e=>by simp only [Id.isNw,hm,ha],fun i e=>by simp only [Id.isNw,hm,hr],fun i e=>by simp only [Id.isNw,hm,hb]⟩
theorem dlB_noids {d:Id}: ∀ {q:List (Pl×Nat)},(∀p∈q,p.1.ids=[])→dlB q d=q
 |[],_=>rfl
 |(p,k)::r,h=>by
  have h1:=h _ (List.mem_cons_self ..)
  have ih:=dlB_noids (d:=d) fun p hp=>h p (List.mem_cons_of_mem _ hp)
  cases p with
  |s t=>simp only [dlB,ih]
  |t t i=>simp only [dlB,ih]
  |b e o=>simp [Pl.ids] at h1
theorem dlBs_x {X:Id} {o k:Nat} {q:List (Pl×Nat)} (hq: ∀p∈q,p.1.ids=[]): ∀ {l:List (Id×List AV)},(lkB l X).isSome→dlBs ((.b X o,k)::q) l=q
 |[],h=>by simp [lkB] at h
 |(d,c)::l,h=>by
  simp only [dlBs,dlB]
  by_cases e:X=d
  ·subst e
   rw [if_pos rfl,dlB_noids hq,dlBs_off fun p hp e he=>by rw [hq p hp] at he;simp at he]
  ·rw [if_neg e,dlB_noids hq]
   refine dlBs_x hq ?_
   simp only [lkB] at h
   rw [if_neg fun q=>e q.symm] at h
   exact h
section
variable {P:Program} {GL:List (Nat×List Value)} {K:St→Prop} {σ:St} {f d:Nat} {xs:List X} {pre l l':List (Id×List AV)} {vs:List AV} {r:AV} {X:Id} {q:List (Pl×Nat)}
theorem callOk_x (hσ:σ.bx=pre++l) (hp:σ.pm=(.b X 10,3)::q) (hX:(lkB l X).isSome) (hpre: ∀p∈pre,lkB l p.1=none) (hu: ∀p∈l,lkB l p.1=some p.2) (hkeep: ∀i,(lkB l' i).isSome=(lkB l i).isSome)
  (hf: ∀p∈σ.bx,p.1.isNw d=false) (hv:wkL (xs.map σ.v) vs):CallOk d σ xs ⟨vs,l,[(.b X 10,3)]⟩ ⟨r,l',[(.b X 10,3)]⟩:=by
 refine ⟨hv,fun p hp=>?_,fun p hp'=>?_,trivial,fun p hp=>?_,fun p hp=>?_,hf⟩
 ·have h2:=hu p hp
  have h3:lkB σ.bx p.1=some p.2:=by
   rw [hσ,lkB_app]
   cases h4:lkB pre p.1 with
   |none=>exact h2
   |some c=>
    have:=hpre _ (lkB_mem _ _ _ h4)
    simp only at this
    rw [h2] at this;cases this
  simp only [wkB,h3];exact wkL_rfl' _
 ·rw [List.mem_singleton] at hp'
  subst hp'
  refine ⟨hX,.inl ?_⟩
  rw [hp];simp [lkP]
 ·simp only [hkeep,hu p hp];rfl
 ·left;simp only [←hkeep];exact lkB_isSome hp
theorem callSt_x (hσ:σ.bx=pre++l) (hp:σ.pm=(.b X 10,3)::q) (hX:(lkB l X).isSome) (hpre: ∀p∈pre,lkB l p.1=none) (hq: ∀p∈q,p.1.ids=[]):
  callSt d σ xs ⟨vs,l,[(.b X 10,3)]⟩ ⟨r,l',[(.b X 10,3)]⟩=⟨(d,r)::σ.e,l'++pre,(.b X 10,3)::dlS q d⟩:=by
 simp only [callSt,retP,dlXs,List.nil_append,List.cons_append]
 rw [hσ,rmBs_pre hpre,hp,dlBs_x hq hX]
theorem onH_x (S:SpH P GL f d ⟨vs,l,[(.b X 10,3)]⟩ ⟨r,l',[(.b X 10,3)]⟩) (hσ:σ.bx=pre++l) (hp:σ.pm=(.b X 10,3)::q) (hX:(lkB l X).isSome) (hpre: ∀p∈pre,lkB l p.1=none) (hu: ∀p∈l,lkB l p.1=some p.2)
  (hkeep: ∀i,(lkB l' i).isSome=(lkB l i).isSome) (hf: ∀p∈σ.bx,p.1.isNw d=false) (hq: ∀p∈q,p.1.ids=[]) (hv:wkL (xs.map σ.v) vs) (hk:K ⟨(d,r)::σ.e,l'++pre,(.b X 10,3)::dlS q d⟩):onH (SpH P GL) f d xs K σ:=by
 refine onH_mk _ _ S (callOk_x hσ hp hX hpre hu hkeep hf hv) ?_
 rw [callSt_x hσ hp hX hpre hq];exact hk
end
def mxB (M A:Id) (R B:Nat→Id) (X:Id) (x:Gl) (n:Nat) (Wl:List Int) (K w:Nat→Nat) (s:Mt):List (Id×List AV):=(X,xC x s.t s.sd s.L)::mtB M A R B x n (intRows Wl) K w s.t s.L s.sd
theorem mx_uniq {M A:Id} {R B:Nat→Id} {X:Id} {Zp:Nat→Prop} (h:NmX M A R B X Zp) (x:Gl) (n:Nat) (Wl:List Int) (K w:Nat→Nat) (s:Mt): ∀p∈mxB M A R B X x n Wl K w s,lkB (mxB M A R B X x n Wl K w s) p.1=some p.2:=by
 intro p hp
 unfold mxB at hp ⊢
 rcases List.mem_cons.1 hp with rfl|hp
 ·simp [lkB]
 ·have hne:X≠p.1:=by
   unfold mtB at hp
   rcases List.mem_cons.1 hp with rfl|hp
   ·exact h.xm
   ·rcases List.mem_cons.1 hp with rfl|hp
    ·exact h.xa
    ·obtain ⟨i,hi,e|e⟩:=mem_rgsB.1 hp
     ·subst e;exact h.xr i
     ·subst e;exact h.xb i
  have:=mt_uniq h.h _ _ _ _ n p hp
  simp only [lkB]
  rw [if_neg hne]
  exact this
theorem mx_keys {M A:Id} {R B:Nat→Id} {X:Id} (x y:Gl) (n:Nat) (Wl:List Int) (K w:Nat→Nat) (s s':Mt) (j:Id):(lkB (mxB M A R B X y n Wl K w s') j).isSome=(lkB (mxB M A R B X x n Wl K w s) j).isSome:=by
 unfold mxB
 simp only [lkB]
 split
 ·rfl
 ·exact mt_keys _ _ _ _ _ _ _ _ n j
theorem mx_x {M A:Id} {R B:Nat→Id} {X:Id} (x:Gl) (n:Nat) (Wl:List Int) (K w:Nat→Nat) (s:Mt):(lkB (mxB M A R B X x n Wl K w s) X).isSome:=by
 unfold mxB;simp [lkB]
end Go.Ai
