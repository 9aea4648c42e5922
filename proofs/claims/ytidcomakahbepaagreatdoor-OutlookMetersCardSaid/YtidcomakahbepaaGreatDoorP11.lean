/- P11: a part of the proof: the rules, or what functions compute. Conditions: as each theorem says. -/
import Derived.Test.YtidcomakahbepaaGreatDoorP10
import Derived.Test.YtidcomakahbepaaGreatDoorP6
set_option linter.unusedSimpArgs false
set_option linter.unusedVariables false
set_option maxRecDepth 20000
namespace Go.Ai
open Go.Proofs
theorem cu_len (a:Array Int): ∀m,(Lib.compactUpTo a m).length≤m
 |0=>by simp [Lib.compactUpTo]
 |m+1=>by
  rw [Lib.compactUpTo_succ]
  have:=cu_len a m
  split<;>simp<;>omega
theorem winP_len (x:Gl):(winP x).length≤2*x.ru.length+1:=by
 have e:winP x=Lib.compactUpTo (sortI (allW x)).toArray (sortI (allW x)).length:=rfl
 have h1:=cu_len (sortI (allW x)).toArray (sortI (allW x)).length
 have h2:(sortI (allW x)).length=(allW x).length:=(List.mergeSort_perm _ _).length_eq
 have h3:=allW_len x
 rw [e];omega
open Go.Proofs
structure Ac where
 k:Int
 a:Int
 g:Nat
 t:Nat
def Ac.row (x:Ac):List AV:=[i6 x.k,i6 x.a,u x.g,u x.t]
structure Mt where
 t:Nat
 L:List Ev
 sd:Bool
structure MtOk (x:Gl) (n:Nat) (K w:Nat→Nat) (s:Mt) (k:Nat):Prop where
 t:s.t≤253402300799
 L:LOk n K w s.t s.L
 P:pcT x.c s.t s.L≤9223372036854775807
 l:s.L.length≤k
def mvT (s:Mt) (a:Int):Mt:=if 0≤a∧a≤253402300799∧(s.t:Int)≤a then ⟨a.toNat,s.L,s.sd⟩ else s
def adS (x:Gl) (n:Nat) (K w:Nat→Nat) (s:Mt) (a:Int) (g t:Nat):Mt:=
 if addE x.a s.t a g t≠0 then s else if s.sd=true∨roomB x.c n K w s.t s.L a.toNat t=false then ⟨s.t,s.L,true⟩ else ⟨s.t,s.L++[(a.toNat,g,t)],false⟩
def stS (x:Gl) (n:Nat) (K w:Nat→Nat) (s:Mt) (a:Ac):Mt:=
 if a.k=1 then mvT s a.a else if a.k=2 then adS x n K w s a.a a.g a.t else if a.k=3 then ⟨s.t,[],false⟩ else s
theorem inW_down {K w t t' a:Nat} (h:t≤t') (hp:inW K (t' / w) (a / w)=true):inW K (t / w) (a / w)=true:=by
 have:=Nat.div_le_div_right (c:=w) h
 unfold inW at *
 rw [decide_eq_true_eq] at *
 omega
theorem LOk.move {n:Nat} {K w:Nat→Nat} {t t':Nat} {L:List Ev} (h:LOk n K w t L) (ht:t≤t'):LOk n K w t' L:=
 ⟨h.ok,fun e he=>Nat.le_trans (h.le e he) ht,fun i hi=>Nat.le_trans (sm_le fun e _ hp=>inW_down ht hp) (h.sm i hi)⟩
theorem pcT_move (c:Int) {t t':Nat} {L:List Ev} (h:t≤t') (ht:t'≤253402300799) (hL:EvLe L t) (hP:pcT c t L≤9223372036854775807):pcT c t' L≤9223372036854775807:=by
 by_cases e:pF c t'=pF c t
 ·rw [(pc_same e).2];exact hP
 ·rw [(pc_move h ht hL e).2];omega
theorem MtOk.mono {x:Gl} {n:Nat} {K w:Nat→Nat} {s:Mt} {k k':Nat} (h:MtOk x n K w s k) (hk:k≤k'):MtOk x n K w s k':=⟨h.t,h.L,h.P,Nat.le_trans h.l hk⟩
theorem mvT_ok {x:Gl} {n:Nat} {K w:Nat→Nat} {s:Mt} {k:Nat} (h:MtOk x n K w s k) (a:Int):MtOk x n K w (mvT s a) k:=by
 unfold mvT
 split
 ·rename_i g
  obtain ⟨g1,g2,g3⟩:=g
  have e:(a.toNat:Int)=a:=Int.toNat_of_nonneg g1
  have q1:s.t≤a.toNat:=by omega
  have q2:a.toNat≤253402300799:=by omega
  exact ⟨q2,h.L.move q1,pcT_move x.c q1 q2 h.L.le h.P,h.l⟩
 ·exact h
theorem addE_zero {late:Int} {t:Nat} {a:Int} {g c:Nat} (h:addE late t a g c=0):g≤c∧0≤a∧a≤253402300799∧a≤t∧t - late≤a:=by
 unfold addE at h
 split at h
 ·cases h
 ·split at h
  ·cases h
  ·split at h
   ·cases h
   ·split at h
    ·cases h
    ·rename_i h1 h2 h3 h4
     rw [Classical.not_not] at h2
     exact ⟨by omega,h2.1,h2.2,by omega,by omega⟩
theorem LOk.add {c:Int} {n:Nat} {K w:Nat→Nat} {t:Nat} {L:List Ev} (h:LOk n K w t L) {a g m:Nat} (ha:a≤t) (hg:g≤m) (hr:roomB c n K w t L a m=true):LOk n K w t (L++[(a,g,m)]):=by
 obtain ⟨h1,h2⟩:=roomB_all hr
 refine ⟨fun e he=>?_,fun e he=>?_,fun i hi=>?_⟩
 ·rcases List.mem_append.1 he with q|q
  ·exact h.ok e q
  ·rw [List.mem_singleton] at q;subst q;exact hg
 ·rcases List.mem_append.1 he with q|q
  ·exact h.le e q
  ·rw [List.mem_singleton] at q;subst q;exact ha
 ·have q:=h1 i hi
  have s:=h.sm i hi
  unfold okW fitB sumT at *
  rw [sm_app]
  have e1:Go.Ai.sm eT (w i) (inW (K i) (t / w i)) [(a,g,m)]=if inW (K i) (t / w i) (a / w i)=true then m else 0:=rfl
  rw [e1]
  cases hp:inW (K i) (t / w i) (a / w i) with
  |false=>simpa using s
  |true=>
   rw [hp] at q
   simp only [Bool.not_true,Bool.false_or,decide_eq_true_eq] at q
   simp only [if_true]
   omega
theorem adS_ok {x:Gl} {n:Nat} {K w:Nat→Nat} {s:Mt} {k:Nat} (h:MtOk x n K w s k) (a:Int) (g t:Nat):MtOk x n K w (adS x n K w s a g t) (k+1):=by
 unfold adS
 split
 ·exact h.mono (Nat.le_succ k)
 ·rename_i he
  rw [Classical.not_not] at he
  obtain ⟨e1,e2,e3,e4,e5⟩:=addE_zero he
  have e:(a.toNat:Int)=a:=Int.toNat_of_nonneg e2
  split
  ·exact ⟨h.t,h.L,h.P,Nat.le_succ_of_le h.l⟩
  ·rename_i hr
   rw [not_or] at hr
   have hr2:roomB x.c n K w s.t s.L a.toNat t=true:=by simpa using hr.2
   refine ⟨h.t,h.L.add (by omega) e1 hr2,?_,?_⟩
   ·obtain ⟨-,h2⟩:=roomB_all hr2
    have hP:=h.P
    by_cases c0:x.c=0
    ·show pcT _ _ _≤_
     unfold pcT;rw [if_pos c0];omega
    ·show pcT _ _ _≤_
     rw [(pc_add c0).2]
     unfold okP fitB at h2
     have c0':(x.c==0)=false:=by rw [beq_eq_false_iff_ne];exact c0
     rw [c0'] at h2
     by_cases c2:pF x.c s.t≤a.toNat
     ·rw [if_pos c2]
      rw [decide_eq_false (show ¬a.toNat<pF x.c s.t by omega)] at h2
      simp only [Bool.false_or,decide_eq_true_eq] at h2
      exact h2.2
     ·rw [if_neg c2];exact hP
   ·have:=h.l
    simp;omega
theorem stS_ok {x:Gl} {n:Nat} {K w:Nat→Nat} {s:Mt} {k:Nat} (h:MtOk x n K w s k) (a:Ac):MtOk x n K w (stS x n K w s a) (k+1):=by
 unfold stS
 split
 ·exact (mvT_ok h _).mono (Nat.le_succ k)
 ·split
  ·exact adS_ok h _ _ _
  ·split
   ·refine ⟨h.t,⟨fun e he=>(by simp at he),fun e he=>(by simp at he),fun i hi=>?_⟩,?_,Nat.zero_le _⟩
    ·show sm _ _ _ []≤_
     simp [sm]
    ·show pcT _ _ []≤_
     unfold pcT;split<;>simp [sm]
   ·exact h.mono (Nat.le_succ k)
def mt0:Mt:=⟨0,[],false⟩
theorem mt0_ok (x:Gl) (n:Nat) (K w:Nat→Nat):MtOk x n K w mt0 0:=by
 refine ⟨by show (0:Nat)≤_;omega,⟨fun e he=>(by simp [mt0] at he),fun e he=>(by simp [mt0] at he),fun i hi=>?_⟩,?_,Nat.le_refl _⟩
 ·show sm _ _ _ []≤_
  simp [sm]
 ·show pcT _ _ []≤_
  unfold pcT;split<;>simp [sm]
def gN (x:Gl):Nat:=x.g.toNat
def wdN (x:Gl) (i:Nat):Nat:=((winP x).getD i 0).toNat
def kN (x:Gl) (i:Nat):Nat:=wK (wdN x i) (gN x)
def wN (x:Gl) (i:Nat):Nat:=wW (wdN x i) (gN x)
theorem goal_parts {x:Gl} (h:goalP x=true):(1≤x.g∧x.g≤86400)∧(0≤x.a∧x.a≤86400)∧(0≤x.o∧x.o≤34560000)∧x.o.tmod x.g=0∧(0≤x.c∧x.c≤2)∧1≤x.ru.length∧ ∀r∈x.ru,(1≤r.s∧r.s≤r.l)∧(1≤r.l∧r.l≤34560000)∧r.l.tmod x.g=0∧r.s.tmod x.g=0:=by
 unfold goalP rulesP btw ruP btw at h
 simp only [Bool.and_eq_true,decide_eq_true_eq,beq_iff_eq,List.all_eq_true] at h
 obtain ⟨-,-,h1,h2,h3,h4,h5,-,h6,h7,-⟩:=h
 refine ⟨h1,h2,h3,h4,h5,by omega,fun r hr=>?_⟩
 obtain ⟨q1,q2,q3,q4,q5,q6,-⟩:=h6 r hr
 exact ⟨q2,q3,q5,q6⟩
theorem goal_wd {x:Gl} (h:goalP x=true) (hl:x.ru.length≤10):WdOk x (winP x).length (gN x) (wdN x):=by
 obtain ⟨g1,-,g3,g4,-,-,g7⟩:=goal_parts h
 have eg:((gN x:Nat):Int)=x.g:=Int.toNat_of_nonneg (by omega)
 have md: ∀z:Int,0≤z→z.tmod x.g=0→z.toNat%gN x=0:=by
  intro z hz hm
  have e:((z.toNat:Nat):Int)=z:=Int.toNat_of_nonneg hz
  rw [←eg,←e] at hm
  have:((z.toNat%gN x:Nat):Int)=0:=by
   rw [Int.natCast_emod,←Int.tmod_eq_emod_of_nonneg (by omega)];exact hm
  omega
 refine ⟨eg.symm,?_,rfl,fun i hi=>?_⟩
 ·have:=winP_len x
  omega
 ·have e1:(winP x)[i]?=some (winP x)[i]:=List.getElem?_eq_getElem hi
  have e2:(winP x).getD i 0=(winP x)[i]:=by rw [List.getD_eq_getElem?_getD,e1];rfl
  have hm:=(winP_mem x _).1 (List.getElem_mem hi)
  have hz:1≤(winP x)[i]∧(winP x)[i]≤34560000∧((winP x)[i]).tmod x.g=0:=by
   generalize (winP x)[i]=z at hm ⊢
   unfold allW ruW at hm
   rcases List.mem_append.1 hm with q|q
   ·rw [List.mem_flatMap] at q
    obtain ⟨r,hr,q⟩:=q
    obtain ⟨q1,q2,q3,q4⟩:=g7 r hr
    simp only [List.mem_cons,List.not_mem_nil,or_false] at q
    rcases q with rfl|rfl
    ·exact ⟨by omega,by omega,q3⟩
    ·exact ⟨by omega,by omega,q4⟩
   ·split at q
    ·simp at q
    ·rw [List.mem_singleton] at q
     subst q
     exact ⟨by omega,by omega,g4⟩
  have e3:((wdN x i:Nat):Int)=(winP x)[i]:=by unfold wdN;rw [e2];exact Int.toNat_of_nonneg (by omega)
  refine ⟨by rw [e3,e1],by omega,by omega,?_,?_,?_⟩
  ·omega
  ·omega
  ·have:=md _ (by omega) hz.2.2
   rw [←e3,Int.toNat_natCast] at this
   exact this
theorem goal_n1 {x:Gl} (h:goalP x=true):1≤(winP x).length:=by
 obtain ⟨-,-,-,-,-,g6,-⟩:=goal_parts h
 cases hr:x.ru with
 |nil=>rw [hr] at g6;simp at g6
 |cons r l=>
  have hm:r.l∈winP x:=by rw [winP_mem];unfold allW ruW;rw [hr];simp
  exact List.length_pos_of_mem hm
open Go.Proofs
structure NmX (M A:Id) (R B:Nat→Id) (X:Id):Prop where
 h:Nms M A R B
 xi:X.isIt=false
 xm:X≠M
 xa:X≠A
 xr: ∀i,X≠R i
 xb: ∀i,X≠B i
 nx: ∀e,M.isNw e=false→X.isNw e=false
theorem NmX.up {M A:Id} {R B:Nat→Id} {X:Id} (h:NmX M A R B X):NmX (.up M) (.up A) (fun i=> .up (R i)) (fun i=> .up (B i)) (.up X):=
 ⟨h.h.up,h.xi,fun e=>h.xm (Id.up.inj e),fun e=>h.xa (Id.up.inj e),fun i e=>h.xr i (Id.up.inj e),fun i e=>h.xb i (Id.up.inj e),fun _ _=>rfl⟩
theorem dlB_noids {d:Id}: ∀ {q:List (Pl×Nat)},(∀p∈q,p.1.ids=[])→dlB q d=q
 |[],_=>rfl
 |(p,k)::r,h=>by
  have h1:=h _ (List.mem_cons_self ..)
  have ih:=dlB_noids (d:=d) fun p hp=>h p (List.mem_cons_of_mem _ hp)
  cases p with
  |s t=>simp only [dlB,ih]
  |t t i=>simp only [dlB,ih]
  |b e o=>simp [Pl.ids] at h1
theorem dlBs_x {X:Id} {o k:Nat} {q:List (Pl×Nat)} (hq: ∀p∈q,p.1.ids=[]): ∀ {l:List (Id×List AV)},(lkB l X).isSome→dlBs ((.b X o,k)::q) l=q
 |[],h=>by simp [lkB] at h
 |(d,c)::l,h=>by
  simp only [dlBs,dlB]
  by_cases e:X=d
  ·subst e
   rw [if_pos rfl,dlB_noids hq,dlBs_off fun p hp e he=>by rw [hq p hp] at he;simp at he]
  ·rw [if_neg e,dlB_noids hq]
   refine dlBs_x hq ?_
   simp only [lkB] at h
   rw [if_neg fun q=>e q.symm] at h
   exact h
section
variable {P:Program} {GL:List (Nat×List Value)} {K:St→Prop} {σ:St} {f d:Nat} {xs:List X} {pre l l':List (Id×List AV)} {vs:List AV} {r:AV} {X:Id} {q:List (Pl×Nat)}
end
def mxB (M A:Id) (R B:Nat→Id) (X:Id) (x:Gl) (n:Nat) (Wl:List Int) (K w:Nat→Nat) (s:Mt):List (Id×List AV):=(X,xC x s.t s.sd s.L)::mtB M A R B x n (intRows Wl) K w s.t s.L s.sd
theorem mx_uniq {M A:Id} {R B:Nat→Id} {X:Id} (h:NmX M A R B X) (x:Gl) (n:Nat) (Wl:List Int) (K w:Nat→Nat) (s:Mt): ∀p∈mxB M A R B X x n Wl K w s,lkB (mxB M A R B X x n Wl K w s) p.1=some p.2:=by
 intro p hp
 unfold mxB at hp ⊢
 rcases List.mem_cons.1 hp with rfl|hp
 ·simp [lkB]
 ·have hne:X≠p.1:=by
   unfold mtB at hp
   rcases List.mem_cons.1 hp with rfl|hp
   ·exact h.xm
   ·rcases List.mem_cons.1 hp with rfl|hp
    ·exact h.xa
    ·obtain ⟨i,hi,e|e⟩:=mem_rgsB.1 hp
     ·subst e;exact h.xr i
     ·subst e;exact h.xb i
  have:=mt_uniq h.h _ _ _ _ n p hp
  simp only [lkB]
  rw [if_neg hne]
  exact this
theorem mx_keys {M A:Id} {R B:Nat→Id} {X:Id} (x y:Gl) (n:Nat) (Wl:List Int) (K w:Nat→Nat) (s s':Mt) (j:Id):(lkB (mxB M A R B X y n Wl K w s') j).isSome=(lkB (mxB M A R B X x n Wl K w s) j).isSome:=by
 unfold mxB
 simp only [lkB]
 split
 ·rfl
 ·exact mt_keys _ _ _ _ _ _ _ _ n j
theorem mx_x {M A:Id} {R B:Nat→Id} {X:Id} (x:Gl) (n:Nat) (Wl:List Int) (K w:Nat→Nat) (s:Mt):(lkB (mxB M A R B X x n Wl K w s) X).isSome:=by
 unfold mxB;simp [lkB]
open Go.Proofs
theorem goal_k {x:Gl} (hx:goalP x=true) (hl:x.ru.length≤10):KwOk (winP x).length (kN x) (wN x):=(goal_wd hx hl).kw
theorem goal_n {x:Gl} (hl:x.ru.length≤10):(winP x).length≤1000000:=by have:=winP_len x;omega
theorem lk_mid {pre l suf:List (Id×List AV)} (hu: ∀p∈l,lkB l p.1=some p.2) (hp: ∀p∈pre,lkB l p.1=none): ∀p∈l,lkB (pre++l++suf) p.1=some p.2:=by
 intro p h
 rw [List.append_assoc,lkB_app,lkB_app,hu p h]
 cases h4:lkB pre p.1 with
 |none=>rfl
 |some c=>
  have:=hp _ (lkB_mem _ _ _ h4)
  simp only at this
  rw [hu p h] at this;cases this
theorem xC_mp (f:Id→Id) (x:Gl) (t:Nat) (sd:Bool) (L:List Ev):mpL f (xC x t sd L)=xC x t sd L:=rfl
theorem xC_ids (x:Gl) (t:Nat) (sd:Bool) (L:List Ev):idsL (xC x t sd L)=[]:=rfl
theorem mx_out {M A:Id} {R B:Nat→Id} {X:Id} (h:NmX M A R B X) {d:Nat} (hd:M.isNw d=false) {x:Gl} {n:Nat} {Wl:List Int} {K w:Nat→Nat} {s:Mt} {σ:St} (hx:obx d σ X (xC x s.t s.sd s.L))
  (hm: ∀p∈mtB (.up M) (.up A) (fun i=> .up (R i)) (fun i=> .up (B i)) x n (intRows Wl) K w s.t s.L s.sd,lkB σ.bx p.1=some p.2):
  ∀p∈mxB M A R B X x n Wl K w s,(p.1.inn d).isIt=false∧obx d σ p.1 p.2:=by
 intro p hp
 have hdX:X.isNw d=false:=h.nx d hd
 have hdA:A.isNw d=false:=by rw [←h.h.na];exact hd
 unfold mxB at hp
 rcases List.mem_cons.1 hp with rfl|hp
 ·exact ⟨by rw [inn_notNw hdX];exact h.xi,hx⟩
 ·unfold mtB at hp hm
  rcases List.mem_cons.1 hp with rfl|hp
  ·have q:=hm _ (List.mem_cons_self ..)
   refine ⟨by rw [inn_notNw hd];exact h.h.mi,?_⟩
   simp only at q
   simp only [obx,inn_notNw hd,q]
   exact .inl (by rw [mtC_mp,inn_notNw hdA])
  ·rcases List.mem_cons.1 hp with rfl|hp
   ·have q:=hm _ (List.mem_cons_of_mem _ (List.mem_cons_self ..))
    refine ⟨by rw [inn_notNw hdA];exact h.h.ai,?_⟩
    simp only at q
    simp only [obx,inn_notNw hdA,q]
    exact .inl (ptrC_inn h.h hd).symm
   ·refine rgs_out h.h hd (fun f i b=>rgC_mp f K w s.t s.L i b) (fun f i=>rgD_mp f K w s.t s.L i) (fun i hi=>?_) p hp
    refine ⟨hm (.up (R i),_) (List.mem_cons_of_mem _ (List.mem_cons_of_mem _ (mem_rgsB.2 ⟨i,hi,.inl rfl⟩))),hm (.up (B i),_) (List.mem_cons_of_mem _ (List.mem_cons_of_mem _ (mem_rgsB.2 ⟨i,hi,.inr rfl⟩)))⟩
theorem mx_outi {M A:Id} {R B:Nat→Id} {X:Id} (h:NmX M A R B X) {d:Nat} (hd:M.isNw d=false) (x:Gl) (n:Nat) (Wl:List Int) (K w:Nat→Nat) (s:Mt) (ob:List (Id×List AV)):
  ∀p∈mxB M A R B X x n Wl K w s,∀i∈idsL p.2,idOk d ob i:=by
 intro p hp
 have hdA:A.isNw d=false:=by rw [←h.h.na];exact hd
 unfold mxB at hp
 rcases List.mem_cons.1 hp with rfl|hp
 ·intro i hi;rw [xC_ids] at hi;simp at hi
 ·unfold mtB at hp
  rcases List.mem_cons.1 hp with rfl|hp
  ·intro i hi
   have e:idsL (mtC x A n (intRows Wl) (pF x.c s.t) (pT x.c s.t) (pcG x.c s.t s.L) (pcT x.c s.t s.L) s.t s.sd)=[A]:=rfl
   rw [e,List.mem_singleton] at hi
   subst hi
   exact ⟨h.h.ai,fun e=>by rw [hdA] at e;cases e⟩
  ·rcases List.mem_cons.1 hp with rfl|hp
   ·exact ptrC_outi h.h hd
   ·exact rgs_outi h.h hd (rgC_ids K w s.t s.L) (rgD_ids K w s.t s.L) p hp
theorem mxB_up (M A:Id) (R B:Nat→Id) (X:Id) (x:Gl) (n:Nat) (Wl:List Int) (K w:Nat→Nat) (s:Mt):
  mpB Id.up (mxB M A R B X x n Wl K w s)=(.up X,xC x s.t s.sd s.L)::mtB (.up M) (.up A) (fun i=> .up (R i)) (fun i=> .up (B i)) x n (intRows Wl) K w s.t s.L s.sd:=by
 simp only [mxB,mpB,mtB_up,xC_mp];rfl
theorem mt_nox {M A:Id} {R B:Nat→Id} {X:Id} (h:NmX M A R B X) (x:Gl) (n:Nat) (W:List (List AV)) (K w:Nat→Nat) (t:Nat) (L:List Ev) (sd:Bool):lkB (mtB M A R B x n W K w t L sd) X=none:=by
 unfold mtB
 simp only [lkB]
 rw [if_neg h.xm.symm,if_neg h.xa.symm]
 exact rgsB_none h.xr h.xb n
theorem mt_norm {M A:Id} {R B:Nat→Id} {X:Id} (h:NmX M A R B X) (x:Gl) (n:Nat) (W:List (List AV)) (K w:Nat→Nat) (t:Nat) (L:List Ev) (sd:Bool):rmB (mtB M A R B x n W K w t L sd) X=mtB M A R B x n W K w t L sd:=by
 unfold mtB
 simp only [rmB]
 rw [if_neg h.xm.symm,if_neg h.xa.symm,rgsB_rm h.xr h.xb n]
theorem mtU_fr (M A:Id) (R B:Nat→Id) (x:Gl) (n:Nat) (W:List (List AV)) (K w:Nat→Nat) (t:Nat) (L:List Ev) (sd:Bool) (s:Nat):
  ∀(a:Id) (b:List AV),(a,b)∈mtB (.up M) (.up A) (fun i=> .up (R i)) (fun i=> .up (B i)) x n W K w t L sd→a.isNw s=false:=by
 intro a b hp
 unfold mtB at hp
 rcases List.mem_cons.1 hp with e|hp
 ·cases e;rfl
 ·rcases List.mem_cons.1 hp with e|hp
  ·cases e;rfl
  ·exact rgs_free a b hp
theorem mtU_non (M A:Id) (R B:Nat→Id) (x:Gl) (n:Nat) (W:List (List AV)) (K w:Nat→Nat) (t:Nat) (L:List Ev) (sd:Bool) (s:Nat):
  lkB (mtB (.up M) (.up A) (fun i=> .up (R i)) (fun i=> .up (B i)) x n W K w t L sd) (.n s)=none:=by
 unfold mtB
 simp only [lkB]
 rw [if_neg (by simp),if_neg (by simp)]
 exact rgsB_none (fun i e=>by cases e) (fun i e=>by cases e) n
theorem mtU_inF (M A:Id) (R B:Nat→Id) (x:Gl) (n:Nat) (W:List (List AV)) (K w:Nat→Nat) (t:Nat) (L:List Ev) (sd:Bool) (fr:List Nat):
  ∀p∈mtB (.up M) (.up A) (fun i=> .up (R i)) (fun i=> .up (B i)) x n W K w t L sd,inF fr p.1=false:=by
 intro p hp
 unfold mtB at hp
 rcases List.mem_cons.1 hp with rfl|hp
 ·rfl
 ·rcases List.mem_cons.1 hp with rfl|hp
  ·rfl
  ·obtain ⟨i,_,e|e⟩:=mem_rgsB.1 hp
   ·subst e;rfl
   ·subst e;rfl
theorem mt_uq {M A:Id} {R B:Nat→Id} (h:Nms M A R B) (x:Gl) (n:Nat) (W:List (List AV)) (K w:Nat→Nat) (t:Nat) (L:List Ev) (sd:Bool): ∀p∈mtB M A R B x n W K w t L sd,lkB (mtB M A R B x n W K w t L sd) p.1=some p.2:=mt_uniq h _ _ _ _ n
theorem mt_ks {M A:Id} {R B:Nat→Id} (x x':Gl) (n:Nat) (W:List (List AV)) (K w:Nat→Nat) (t t':Nat) (L L':List Ev) (sd sd':Bool) (j:Id):(lkB (mtB M A R B x' n W K w t' L' sd') j).isSome=(lkB (mtB M A R B x n W K w t L sd) j).isSome:=mt_keys _ _ _ _ _ _ _ _ n j
open Go.Proofs
theorem less6_spec (a b:Int):Sp Tryz.prog gl 102 [i6 a,i6 b] (.bool (decide (a<b))):=by
 refine s102 rfl rfl ?_
 have N:=fun a:Int=>(show Sp Tryz.prog gl 160 [i6 a] (.bool false) from by
  refine s160 rfl rfl ?_
  simp -implicitDefEqProofs [c160])
 have N1:=N a
 have N2:=N b
 have h1:decide (a<b)=decide (a<b):=rfl
 by_cases h:a<b
 ·simp [c102,h]
  refine onC_mk _ N1 ?_
  simp -implicitDefEqProofs [h]
 ·have h2:b≤a:=by omega
  simp -implicitDefEqProofs [c102,h]
  refine onC_mk _ N1 ?_
  simp -implicitDefEqProofs [h,h2]
theorem nan6_spec (a:Int):Sp Tryz.prog gl 103 [i6 a] (.bool false):=by
 refine s103 rfl rfl ?_
 simp -implicitDefEqProofs [c103]
def bsI (W:List Int) (z:Int):Nat:=(W.filter fun y=>decide (y<z)).length
theorem bsI_le (W:List Int) (z:Int):bsI W z≤W.length:=List.length_filter_le _ _
theorem bsI_lt: ∀ {W:List Int} {z:Int} (_:Rising W) (j:Nat) (h:j<W.length),(W[j]<z↔j<bsI W z)
 |y::W,z,hr,j,h=>by
  simp only [Rising,List.pairwise_cons] at hr
  by_cases hy:y<z
  ·have e:bsI (y::W) z=bsI W z+1:=by unfold bsI;rw [List.filter_cons_of_pos (by simpa using hy)];rfl
   cases j with
   |zero=>simp only [List.getElem_cons_zero,e];constructor<;>intro _<;>omega
   |succ j=>simp only [List.getElem_cons_succ,e];rw [bsI_lt hr.2 j (by simpa using h)];omega
  ·have e:bsI (y::W) z=0:=by
    unfold bsI
    rw [List.length_eq_zero_iff,List.filter_eq_nil_iff]
    intro v hv
    rcases List.mem_cons.1 hv with rfl|hv
    ·simpa using hy
    ·have:=hr.1 v hv
     simp;omega
   rw [e]
   cases j with
   |zero=>simp only [List.getElem_cons_zero];constructor<;>intro _<;>omega
   |succ j=>
    simp only [List.getElem_cons_succ]
    have:=hr.1 _ (List.getElem_mem (by simpa using h:j<W.length))
    constructor<;>intro _<;>omega
theorem bsI_mem {W:List Int} {z:Int} (hr:Rising W):z∈W↔W[bsI W z]?=some z:=by
 constructor
 ·intro hz
  obtain ⟨j,hj,e⟩:=List.getElem_of_mem hz
  have h1: ¬j<bsI W z:=fun q=>by have:=(bsI_lt hr j hj).2 q;omega
  have h2:bsI W z≤j:=by omega
  have h3:j≤bsI W z:=by
   rcases Nat.lt_or_ge (bsI W z) j with q|q
   ·exfalso
    have hl:bsI W z<W.length:=by omega
    have:=List.pairwise_iff_getElem.1 hr (bsI W z) j hl hj q
    have h4: ¬W[bsI W z]<z:=fun w=>by have:=(bsI_lt hr _ hl).1 w;omega
    omega
   ·exact q
  have:j=bsI W z:=by omega
  subst this
  rw [List.getElem?_eq_getElem hj,e]
 ·intro h
  obtain ⟨hl,e⟩:=List.getElem?_eq_some_iff.1 h
  rw [←e];exact List.getElem_mem hl
theorem bsearch_spec (Wl:List Int) (hr:Rising Wl) (hn:Wl.length≤1000000) (z:Int):Sp Tryz.prog gl 59 [.sl (intRows Wl),i6 z] (.tup [i6 (bsI Wl z),.bool (decide (z∈Wl))]):=by
 refine s59 rfl rfl ?_
 have hm:=bsI_mem (z:=z) hr
 have hlt:=fun j h=>bsI_lt (z:=z) hr j h
 have hle:=bsI_le Wl z
 obtain ⟨n,hn2⟩: ∃n,n=Wl.length:=⟨_,rfl⟩
 have hWl:(intRows Wl).length=n:=by rw [hn2];exact intRows_len Wl
 have hW1:=intRows_one Wl
 have hWa: ∀k,(hk:k<(intRows Wl).length)→(intRows Wl)[k]=[i6 (Wl[k]'(by rw [←hn2,←hWl];exact hk))]:=fun k hk=>by simp [intRows]
 rw [←hn2] at hle hn
 generalize hI:bsI Wl z=I at *
 simp -implicitDefEqProofs [c59,hWl]
 refine wp_lpk (α:=Nat×Nat) (fun p=>⟨[(0,.sl (intRows Wl)),(1,i6 z),(6,i6 n),(7,i6 p.1),(8,i6 p.2)],[],[]⟩) (fun p=>p.1≤I∧I≤p.2∧p.2≤n) (fun p=>p.2 - p.1) ?_ (0,n) ?_ ?_
 ·rintro K ⟨lo,hh⟩ hK ⟨k1,k2,k3⟩
  simp only at k1 k2 k3
  by_cases g:lo<hh
  ·have g':(lo:Int)<hh:=by omega
   have m0:(2:Int)^min 1 IntKind.u64.bits=2:=by decide
   have m1:IntKind.i64.wrap ((lo:Int)+hh)=(lo+hh:Nat):=by rw [wr]<;>omega
   have m2:IntKind.u64.wrap ((lo+hh:Nat):Int)=(lo+hh:Nat):=by rw [wrap_u64]<;>omega
   have m3:((lo+hh:Nat):Int).fdiv 2=((lo+hh) / 2:Nat):=by
    rw [Int.fdiv_eq_ediv_of_nonneg _ (by omega)];omega
   have m4:IntKind.i64.wrap (((lo+hh) / 2:Nat):Int)=((lo+hh) / 2:Nat):=by rw [wr]<;>omega
   have ml:(lo+hh) / 2<n:=by omega
   have q1:lo≤(lo+hh) / 2:=by omega
   have q2:(lo+hh) / 2<hh:=by omega
   generalize (lo+hh) / 2=m at *
   have m5:IntKind.i64.wrap ((m:Int)+1)=(m+1:Nat):=by rw [wr]<;>omega
   have rl:m<(intRows Wl).length:=by omega
   have ew:=hWa m rl
   have rl':m<Wl.length:=by omega
   have hlm:=hlt m rl'
   have ml':(m:Int)<n:=by omega
   generalize Wl[m]'rl'=y at *
   have ew0:(intRows Wl)[m]?=some [i6 y]:=by rw [List.getElem?_eq_getElem rl,ew]
   have LS:=less6_spec y z
   by_cases c:y<z
   ·rw [decide_eq_true c] at LS
    have fin:=fun σ' hσ=>hK (m+1,hh) σ' ⟨by have:=hlm.1 c;simp only;omega,k2,k3⟩ (by simp only;omega) hσ
    clear hK hlt hWa hm hlm
    generalize ((lo+hh:Nat):Int)=s2 at *
    generalize intRows Wl=W at *
    simp -implicitDefEqProofs [g,g',m0,m1,m2,m3,m4,ew,ew0,rl,ml,ml',hWl,hW1]
    refine onC_mk _ LS ?_
    simp -implicitDefEqProofs
    refine fin _ ?_
    refine weak_mk ?_ ?_ ?_ ?_ ?_ ?_<;>simp -implicitDefEqProofs [m5]
   ·rw [decide_eq_false c] at LS
    have fin:=fun σ' hσ=>hK (lo,m) σ' ⟨k1,by
     have:=fun q=>c (hlm.2 q)
     simp only;omega,by simp only;omega⟩ (by simp only;omega) hσ
    clear hK hlt hWa hm hlm
    generalize ((lo+hh:Nat):Int)=s2 at *
    generalize intRows Wl=W at *
    simp -implicitDefEqProofs [g,g',m0,m1,m2,m3,m4,ew,ew0,rl,ml,ml',hWl,hW1]
    refine onC_mk _ LS ?_
    simp -implicitDefEqProofs
    refine fin _ ?_
    refine weak_mk ?_ ?_ ?_ ?_ ?_ ?_<;>simp -implicitDefEqProofs
  ·obtain rfl:lo=I:=by omega
   have g': ¬(lo:Int)<hh:=by omega
   have NN:=fun a=>nan6_spec a
   clear hK
   by_cases c:lo<n
   ·have c':(lo:Int)<n:=by omega
    have rl:lo<(intRows Wl).length:=by omega
    have ew:=hWa lo rl
    have rl':lo<Wl.length:=by omega
    have e0:Wl[lo]?=some (Wl[lo]'rl'):=List.getElem?_eq_getElem _
    rw [e0] at hm
    generalize Wl[lo]'rl'=y at *
    have ew0:(intRows Wl)[lo]?=some [i6 y]:=by rw [List.getElem?_eq_getElem rl,ew]
    have N1:=NN y
    by_cases d:y=z
    ·have d1:decide (z∈Wl)=true:=decide_eq_true (hm.2 (by rw [d]))
     rw [d1]
     subst d
     clear hm hWa hlt
     generalize intRows Wl=W at *
     simp -implicitDefEqProofs [g,g',c,c',ew,ew0,rl,hWl,hW1]
    ·have d1:decide (z∈Wl)=false:=decide_eq_false (fun q=>d (Option.some.inj (hm.1 q)))
     rw [d1]
     have d2:(y==z)=false:=by rw [beq_eq_false_iff_ne];exact d
     clear hm hWa hlt
     generalize intRows Wl=W at *
     simp -implicitDefEqProofs [g,g',c,c',ew,ew0,rl,hWl,hW1,d2]
     refine onC_mk _ N1 ?_
     simp -implicitDefEqProofs
   ·have c': ¬(lo:Int)<n:=by omega
    have d1:decide (z∈Wl)=false:=decide_eq_false (fun q=>by
     have:=hm.1 q
     rw [List.getElem?_eq_none (by omega)] at this;cases this)
    rw [d1]
    clear hm hWa hlt
    generalize intRows Wl=W at *
    simp -implicitDefEqProofs [g,g',c,c']
 ·exact ⟨Nat.zero_le _,hle,Nat.le_refl _⟩
 ·generalize intRows Wl=W at *
  refine weak_mk ?_ ?_ ?_ ?_ ?_ ?_<;>simp -implicitDefEqProofs [hWl]
open Go.Proofs
def wndV (Wl:List Int) (K w:Nat→Nat) (t:Nat) (L:List Ev) (sd:Bool) (z:Int):AV:=
 if z∈Wl then (if sd=true then .tup [.agg [u 0,u 0],i6 17] else .tup [.agg [u (sumG (K (bsI Wl z)) (w (bsI Wl z)) (t / w (bsI Wl z)) L),u (sumT (K (bsI Wl z)) (w (bsI Wl z)) (t / w (bsI Wl z)) L)],i6 0]) else .tup [.agg [u 0,u 0],i6 7]
theorem mwindow_spec (M A:Id) (R B:Nat→Id) (h:Nms M A R B) (x:Gl) (n:Nat) (hn:n≤1000000) (Wl:List Int) (hW:Wl.length=n) (hr:Rising Wl) (K w:Nat→Nat) (t:Nat) (L:List Ev) (sd:Bool) (z:Int) (d:Nat) (hd:M.isNw d=false):
  SpH Tryz.prog gl 18 d ⟨[.ptr M 0,i6 z],mtB M A R B x n (intRows Wl) K w t L sd,[]⟩ ⟨wndV Wl K w t L sd z,mtB M A R B x n (intRows Wl) K w t L sd,[]⟩:=by
 refine h18 rfl ?_
 obtain ⟨W,hWr⟩: ∃W,W=intRows Wl:=⟨_,rfl⟩
 have BS:=bsearch_spec Wl hr (by omega) z
 have hm:=bsI_mem (z:=z) hr
 rw [←hWr] at BS ⊢
 have hsh:shutL [AV.sl W]=some [AV.sl W]:=rfl
 have hu:=h.up
 have hi:=inn_notNw hd
 have hdA:A.isNw d=false:=by rw [←h.na];exact hd
 have hiA:=inn_notNw hdA
 have mi:=h.mi
 have ai:=h.ai
 have ma:=h.ma
 have ma':A≠M:=fun e=>h.ma e.symm
 have mr:=h.mr
 have mb:=h.mb
 have ar:=h.ar
 have ab:=h.ab
 have mr': ∀i,¬R i=M:=fun i e=>h.mr i e.symm
 have mb': ∀i,¬B i=M:=fun i e=>h.mb i e.symm
 have ar': ∀i,¬R i=A:=fun i e=>h.ar i e.symm
 have ab': ∀i,¬B i=A:=fun i e=>h.ab i e.symm
 have hpa:=fun i (hi:i<n)=>ptrC_at (R:=fun i=>Id.up (R i)) hi
 have hpl:=ptrC_len (fun i=>Id.up (R i)) n
 have hpu:=ptrC_up (R:=R) (n:=n)
 have hpo: ∀ob,∀i∈idsL (ptrC R n),idOk d ob i:=fun ob=>ptrC_outi h hd
 have hpi:=ptrC_inn h (n:=n) hd
 have hfree:=fun C D s=>rgs_free (R:=R) (B:=B) (C:=C) (D:=D) (n:=n) (s:=s)
 have hnn:=fun C D s=>rgsB_none (R:=fun i=>Id.up (R i)) (B:=fun i=>Id.up (B i)) (C:=C) (D:=D) (x:= .n s) (fun i e=>by cases e) (fun i e=>by cases e) n
 have hin:=mtB_up M A R B x n W K w t L sd
 have SM:=fun i e he=>rsum_spec (.up (R i)) (.up (B i)) (h.pr i).up (K i) (w i) (t / w i) t (sumG (K i) (w i) (t / w i) L) (sumT (K i) (w i) (t / w i) L) e he
 simp only [←ringC_eq] at SM
 have hout:=fun σ=>rgs_out h (C:=rgC K w t L) (D:=rgD K w t L) (n:=n) (d:=d) (σ:=σ) hd (fun f i b=>rgC_mp f K w t _ i b) (fun f i=>rgD_mp f K w t _ i)
 have houi:=fun ob=>rgs_outi h (C:=rgC K w t L) (D:=rgD K w t L) (n:=n) (d:=d) (ob:=ob) hd (rgC_ids K w t _) (rgD_ids K w t _)
 have hlk: ∀i,i<n→lkB (rgsB (fun i=> .up (R i)) (fun i=> .up (B i)) (rgC K w t L) (rgD K w t L) n) (.up (R i))=some (rgC K w t L i (.up (B i)))∧lkB (rgsB (fun i=> .up (R i)) (fun i=> .up (B i)) (rgC K w t L) (rgD K w t L) n) (.up (B i))=some (rgD K w t L i):=
  fun i hi=>⟨rgsB_R hu n hi,rgsB_B hu n hi⟩
 have fr:=hfree (rgC K w t L) (rgD K w t L)
 simp only [inSt,mpL,mpP,AV.mp,hin]
 clear hin
 generalize ptrC (fun i=>Id.up (R i)) n=PC at *
 unfold wndV
 generalize hk:bsI Wl z=k at *
 simp only [mtB,mtC]
 by_cases c:z∈Wl
 ·rw [decide_eq_true c] at BS
  rw [if_pos c]
  have kn:k<n:=by
   have:=hm.1 c
   obtain ⟨hl,-⟩:=List.getElem?_eq_some_iff.1 this
   omega
  cases sd with
  |true=>
   rw [if_pos rfl]
   simp -implicitDefEqProofs [c18,hnn]
   refine onC_mk _ BS ?_
   simp -implicitDefEqProofs
   refine postH_r ⟨?_,?_,?_,?_,?_,?_⟩
   ·simp
   ·simp
   ·intro p hp
    rcases List.mem_cons.1 hp with rfl|hp
    ·simp [hi,hiA,mi]
    ·rcases List.mem_cons.1 hp with rfl|hp
     ·simp [hi,hiA,ai,ma,ma',hpi]
     ·refine hout _ (fun i hi=>?_) p hp
      simp -implicitDefEqProofs [mr,mb,ar,ab,hlk i hi]
   ·intro p hp
    rcases List.mem_cons.1 hp with rfl|hp
    ·simp [ai,hdA]
    ·rcases List.mem_cons.1 hp with rfl|hp
     ·exact hpo _
     ·exact houi _ p hp
   ·simp
   ·simp
  |false=>
   rw [if_neg (by simp)]
   obtain ⟨lR,lB⟩:=hlk k kn
   have SMk:=SM k
   have e0:PC[k]?=some (.ptr (.up (R k)) 0):=hpa k kn
   have kl:k<PC.length:=by omega
   have e1:PC[k]'kl= .ptr (.up (R k)) 0:=by rw [List.getElem?_eq_getElem kl] at e0;exact Option.some.inj e0
   have kn':(k:Int)<n:=by omega
   have rb2: ∀i j,¬R i=B j:=fun i j=>h.rb i j
   have rb3: ∀i j,¬B i=R j:=fun i j e=>h.rb j i e.symm
   simp only [rgC] at lR
   simp -implicitDefEqProofs [c18,hnn]
   refine onC_mk _ BS ?_
   simp -implicitDefEqProofs [e0,e1,kl,hpl,ma,ma',kn,kn']
   refine onH_mk _ _ (SMk _ rfl) ⟨?_,?_,?_,?_,?_,?_,?_⟩ ?_
   iterate 6 (· simp [lR,lB,mr,mb,ar,ab,mr',mb',ar',ab'])
   ·simp;exact fr _
   simp -implicitDefEqProofs [mr,mb,ar,ab,mr',mb',ar',ab']
   refine postH_r ⟨?_,?_,?_,?_,?_,?_⟩
   ·simp
   ·simp
   ·intro p hp
    rcases List.mem_cons.1 hp with rfl|hp
    ·simp [hi,hiA,mi,mr',mb']
    ·rcases List.mem_cons.1 hp with rfl|hp
     ·simp [hi,hiA,ai,ma,ma',hpi,ar',ab']
     ·refine hout _ (fun i hi=>?_) p hp
      by_cases e:i=k
      ·subst e;simp -implicitDefEqProofs [rb2,rb3,rgC,rgD,mb,ab,lkB_rmB,lB]
      ·have n1: ¬R k=R i:=fun q=>e (h.rr _ _ q).symm
       have n2: ¬B k=B i:=fun q=>e (h.bb _ _ q).symm
       simp -implicitDefEqProofs [lkB_rmB,mr,mb,ar,ab,n1,n2,rb2,rb3,hlk i hi]
   ·intro p hp
    rcases List.mem_cons.1 hp with rfl|hp
    ·simp [ai,hdA]
    ·rcases List.mem_cons.1 hp with rfl|hp
     ·exact hpo _
     ·exact houi _ p hp
   ·simp
   ·simp
 ·rw [decide_eq_false c] at BS
  rw [if_neg c]
  simp -implicitDefEqProofs [c18,hnn]
  refine onC_mk _ BS ?_
  simp -implicitDefEqProofs
  refine postH_r ⟨?_,?_,?_,?_,?_,?_⟩
  ·simp
  ·simp
  ·intro p hp
   rcases List.mem_cons.1 hp with rfl|hp
   ·simp [hi,hiA,mi]
   ·rcases List.mem_cons.1 hp with rfl|hp
    ·simp [hi,hiA,ai,ma,ma',hpi]
    ·refine hout _ (fun i hi=>?_) p hp
     simp -implicitDefEqProofs [mr,mb,ar,ab,hlk i hi]
  ·intro p hp
   rcases List.mem_cons.1 hp with rfl|hp
   ·simp [ai,hdA]
   ·rcases List.mem_cons.1 hp with rfl|hp
    ·exact hpo _
    ·exact houi _ p hp
  ·simp
  ·simp
end Go.Ai
