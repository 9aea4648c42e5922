/- Lib8: a part of the proof. Conditions: as each theorem says. -/
import Derived.Test.YtojgeamhdkphaaaGreatDoorLib7
import Derived.Recover
import Derived.RangeFuncFrom
import Derived.RangeFuncLeaves
import Derived.RangeFuncCalls
import Derived.OrdersIn
set_option linter.unusedSimpArgs false
set_option linter.unusedVariables false
namespace Go.Ai
open Go.RowKit
variable {P:Program} {F:Fr} {S:aR} {gb:Gb} {σ:St} {a:Act} {w:World}

theorem aN.post {GL:List (Nat×List Value)} {N:Nat} {df:List Deferred} {d:Nat} {I:In} {O:bO} {fP:Gb} {S0:aR} {w0:World} {sv:Nat->Value} {rs:List AR}
  (hr:aN ⟨S0,w0,MS I fP sv w0,fP,N,GL,df⟩ S gb σ a w) (hok:j5 d rs O σ) {vs':List AV} (hv:gh σ rs=some vs') {us:List Value} (g2:aa S gb vs' us) (g3: ∀(i s:Nat),rs[i]?=some (AR.t s)->us[i]?=some (tv a s)):
  dL d I O S0 fP sv w0 S (dc d gb O.bx) (if h:us.toArray.size=1 then us.toArray[0] else .tuple us.toArray) w:=by
 obtain ⟨o1,o2,o3,o4⟩:=hr.out hok hv g2 g3 (by rw[<-g2.length];exact (fA (qs:=[]) hv).symm);refine ⟨hr.bw,hr.ext,hr.le,?_,?_,o1,o2,o3,o4⟩
 ·intro i hi
  have:dc d gb O.bx i=gb (i.inn d):=eC (fun e=>by rw[hi] at e;cases e)
  rw[this,ae hi];exact hr.up i
 ·intro i hi hne;simp only[dc] at hne;split at hne
  ·exact absurd rfl hne
  ·rename_i hno;cases hs:(aD O.bx i).isSome with
   |true=>rfl
   |false=>exact absurd ⟨hi,hs⟩ hno
theorem aN.ret {GL:List (Nat×List Value)} {N:Nat} {df:List Deferred} {d:Nat} {I:In} {O:bO} {fP:Gb} {S0:aR} {w0:World} {sv:Nat->Value} {rs:List AR} {fn:Func}
  (hr:aN ⟨S0,w0,MS I fP sv w0,fP,N,GL,df⟩ S gb σ a w) (hp: ∃τ,nY σ τ/\j5 d rs O τ) (h5:AI P rs fn.results.toList=true):
  ∃v S'' gb'',(results fn a.tmps).run P w= .ok v w/\dL d I O S0 fP sv w0 S'' gb'' v w:=by
 obtain ⟨τ,hfz,hok⟩:=hp;obtain ⟨S',gb',hr'⟩:=hr.frzs hfz;have hx:=hok.r;split at hx
 ·rename_i vs' hv;obtain ⟨us,hrun,g2,g3⟩:=kJ (P:=P) hr' h5 hv;exact ⟨_,S',_,hrun,hr'.post hok hv g2 g3⟩
 ·cases hx
theorem aN.init {GL:List (Nat×List Value)} {N:Nat} {df:List Deferred} {I:In} {tmps:Array Value} {sv:Nat->Value} (hN:tmps.size=N) (hsv:tv {tmps:=tmps,defers:=df}=sv) (hvs:aa S gb I.vs ((List.range I.vs.length).map sv))
  (hhr:HR S gb I.bx I.pm sv w) (hglo: ∀i us,GL.lookup i=some us-> ∀(o:Nat) (u:Value),us[o]?=some u->S i o=some u/\u.oneCell'=true):
  aN ⟨S,w,MS I gb sv w,gb,N,GL,df⟩ S (eB gb) (ar I) {tmps:=tmps,defers:=df} w:=by
 have hup:=hhr.up;refine ⟨rfl,hN,Bw.refl _ _,fun _ _ _ _=>rfl,aR.le.refl _,?_,by rw[hsv];exact hup,?_,?_,?_,fun d=>rfl,hglo⟩
 ·intro t;have h1:=(fU (dE _ _ hvs) 0 t).2 t (by omega);rw[hsv];by_cases ht:t<I.vs.length
  ·have e:((List.range I.vs.length).map sv).getD t undef=sv t:=by simp[ht]
   rw[e] at h1;exact h1
  ·have e:lk (dD 0 (aP Id.up I.vs)) t= .undef:=by
    have: ∀(l:List AV) (i:Nat),i+l.length<=t->lk (dD i l) t= .undef:=by
     intro l;induction l with
     |nil=>intro i h;rfl
     |cons c r ih=>
      intro i h;simp only[e7] at h;simp only[dD,lk];rw[if_neg (by omega)];exact ih (i+1) (by omega)
    exact this _ 0 (by rw[go];omega)
   show PR S (eB gb) (lk (dD 0 (aP Id.up I.vs)) t) _;rw[e];simp[PR]
 ·intro i g z hi hq;obtain ⟨c1,hc1⟩:=jp.1 hi;obtain ⟨j,cs,rfl,hj,_⟩:=bL cQ hc1;exact .inr (.inl ⟨j,z,by rw[hj];rfl,hq⟩)
 ·intro p k g hp hg;obtain ⟨q,rfl,hq⟩:=eL cQ hp;rw[hsv,kK] at hg;exact .inr (.inr ⟨q,k,hq,hg⟩)
 ·intro i hi;cases i<;>simp[eB,Id.isUp] at hi ⊢

def lh (P:Program) (GL:List (Nat×List Value)) (f d:Nat) (I:In) (v:AV) (O:bO):Prop:=
 ∀(S:aR) (gb:Gb) (w:World) (vs:List Value) (u:Value),aa S gb I.vs vs->HR S gb I.bx I.pm (fun t=>vs.getD t undef) w->
  (∀i us,GL.lookup i=some us-> ∀(o:Nat) (u:Value),us[o]?=some u->S i o=some u/\u.oneCell'=true)->(∀i,i.isNw d=true->gb i=none)->PR S gb v u->
  (callFunc f vs.toArray).run P w= .ok (.enter f vs.toArray) w/\
  (v= .nili->CallsD P f vs.toArray .returning w fun e u' w'=> ∃x,e= .returned x/\u'= .returning/\ ∃S' gb',dL d I O S gb (fun t=>vs.getD t undef) w S' gb' x w')/\
  ((∃T y,v= .ifc T y)->CallsD P f vs.toArray (.panicking (jI u)) w fun e u' w'=> ∃x,e= .returned x/\u'= .panicking [{v:=u,recovered:=true}]/\ ∃S' gb',dL d I O S gb (fun t=>vs.getD t undef) w S' gb' x w')
@[irreducible] def FQ (P:Program) (GL:List (Nat×List Value)) (f d:Nat) (I:In) (v:AV) (O:bO):Prop:=lh P GL f d I v O
theorem GQ (P:Program) (GL:List (Nat×List Value)):FQ P GL=lh P GL:=by funext f d I v O;unfold FQ;rfl
structure Ow where
 r:Nat
 l:List bv
 c:AC
 np:Nat
 N:Nat
def Ox (P:Program) (GL:List (Nat×List Value)) (dr:Array Oper->List (List Nat)->List bv->Bool) (fn:Func) (f:Ow):Bool:=
 fn.name != "runtime.NumGoroutine"&&fn.params.size+fn.nfree==f.np&&fn.ntmps==f.N&&Nat.ble f.np f.N&&AI P [] fn.results.toList&&Nat.blt f.r f.N&&
 (match fn.body with
  |some (.seq (.region _ ops false) c)=>(match ops.toList with
   |o::r=>o.guard.isNone&&o.dst==some f.r&&(match o.op with | .call {callee:= .builtin .recover,args:=as,argTypes:=_}=>as.toList.isEmpty|_=>false)&&lJ P GL f.N ops r f.l&&mC P GL f.N dr c f.c
   |[]=>false)
  |_=>false)
theorem rP {ops:Array Oper} {K:St->Prop} {Q:Exit->Act->List Frame->World->Prop} {cs:List Frame} (hQ: ∀S gb σ a w,aN F S gb σ a w->K σ->Q .normal a cs w):
  ∀ {l:List Oper} {al:List bv} (k:Nat),(∀j,l[j]?=ops[k+j]?)->lJ P F.GL F.N ops l al=true-> ∀ {S:aR} {gb:Gb} {σ:St} {a:Act} {w:World},aN F S gb σ a w->lu (bC P F.GL) al K σ->wpOpsS P ops Q (List.range' k l.length) a cs w
 |[],al,k,hk,hm,S,gb,σ,a,w,h,hw=>by
  cases al<;>simp[lJ] at hm;exact hQ _ _ _ _ _ h hw
 |o::r,al,k,hk,hm,S,gb,σ,a,w,h,hw=>by
  cases al with
  |nil=>simp[lJ] at hm
  |cons ao s=>
   simp only[lJ,aJ] at hm;simp only[lu] at hw;have hr:=iO h hm.1 hw (K':=fun a w=>wpOpsS P ops Q (List.range' (k+1) r.length) a cs w) (Q:=fun e a w=>Q e a cs w)
    (fun S gb σ a w h' hk'=>rP hQ (k+1) (fun j=>by have:=hk (j+1);rw[List.getElem?_cons_succ] at this;rw[this];congr 1;omega) hm.2 h' hk')
   have ho:ops[k]?=some o:=by have:=hk 0;simpa using this.symm
   rw[e7,List.range'_succ];simp only[wpOpsS,ho];split
   ·rename_i hc;rw[if_pos hc] at hr;unfold Oper.wp at hr;split
    ·rename_i w' he;rw[he] at hr;exact hr.elim
    ·exact hr
   ·rename_i hc;rw[if_neg hc] at hr;exact hr
theorem yW {o:Oper} {a:Act} {as:Array Operand} {ts:Array TypeId} (h:o.op= .call {callee:= .builtin .recover,args:=as,argTypes:=ts}) (hs:as.toList=[]):(execOp a.eval o).run P w= .ok .recover w:=by
 have:as= #[]:=by apply Array.ext';simpa using hs
 subst this;unfold execOp;simp[h,resolve,Deferred.ofValue,invoke,builtin]

theorem vZ {GL:List (Nat×List Value)} {dr:Array Oper->List (List Nat)->List bv->Bool} {f:Nat} {fn:Func} {af:Ow} (hf:P.funcs[f]?=some fn) (hm:Ox P GL dr fn af=true) (hd:b7 P GL af.N dr) {d:Nat} {I:In} {v:AV} {O:bO} (hl:I.vs.length=af.np) (hi:v.ids=[])
  (hw:lu (bC P GL) af.l (dK (bC P GL) af.c (bH d [] O)) ((ar I).put af.r v)):lh P GL f d I v O:=by
 simp only[Ox,aJ,bne_iff_ne,cI] at hm;obtain ⟨⟨⟨⟨⟨⟨h1,h2⟩,h3⟩,h4⟩,h5⟩,hrN⟩,h6⟩:=hm;have hrN:af.r<af.N:=by simpa using hrN
 split at h6<;>(try cases h6);rename_i id ops c hb;split at h6<;>(try cases h6);rename_i o r hops;simp only[aJ,cI,Option.isNone_iff_eq_none] at h6;obtain ⟨⟨⟨⟨hg,hdst⟩,hrec⟩,hmr⟩,hmc⟩:=h6;have h4:=Nat.le_of_ble_eq_true h4;intro S gb w vs u hvs hhr hglo hnw hpu;have hlen:vs.length=I.vs.length:=hvs.length.symm;have hcall:(callFunc f vs.toArray).run P w= .ok (.enter f vs.toArray) w:=by
  simp[callFunc,hf,hb,h1]
 let F:Fr:=⟨S,w,MS I gb (fun t=>vs.getD t undef) w,gb,af.N,GL,[]⟩
 have hrel:aN F S (eB gb) (ar I) {tmps:=vs.toArray++Array.replicate (fn.ntmps - vs.toArray.size) undef,defers:=[]} w:=by
  refine aN.init (by simp;omega) (by funext t;exact dP) ?_ hhr hglo;have e:(List.range I.vs.length).map (fun t=>vs.getD t undef)=vs:=by
   apply List.ext_getElem
   ·simp[hlen]
   ·intro n h1 h2;simp;rw[uk h2];rfl
  rw[e];exact hvs
 have hrel:=hrel.put (d:=af.r) (v:=v) (u:=u) hrN (PR.noids _ _ hi hpu);have hrecop:(execOp ({tmps:=vs.toArray++Array.replicate (fn.ntmps - vs.toArray.size) undef,defers:=[]}:Act).eval o).run P w= .ok .recover w:=by
  split at hrec<;>(try cases hrec);rename_i as ts hop;exact yW hop (by simpa using hrec)
 have ho:ops[0]?=some o:=by rw[<-Array.getElem?_toList,hops];rfl
 have hsz:ops.size=r.length+1:=by rw[<-qq,hops,e7]
 have rest: ∀(c₀:Frame) (cs:List Frame) (u':FrameMode) (R:Ending->FrameMode->World->Prop),(∀x w' S' gb',dL d I O S gb (fun t=>vs.getD t undef) w S' gb' x w'->R (.returned x) u' w')->
   wpOpsS P ops (Exit.thenS (c.wpS P (bodyPostS P fn c₀ cs R)) (bodyPostS P fn c₀ cs R)) (List.range' 1 r.length) (({tmps:=vs.toArray++Array.replicate (fn.ntmps - vs.toArray.size) undef,defers:=[]}:Act).put o.dst u) ({c₀ with mode:=u'}::cs) w:=by
  intro c₀ cs u' R hR;rw[hdst];refine rP (F:=F) (K:=dK (bC P GL) af.c (bH d [] O)) ?_ 1 (fun j=>by rw[<-Array.getElem?_toList,hops,N8,List.getElem?_cons_succ]) hmr hrel hw;intro S1 gb1 σ1 a1 w1 hr1 hw1;refine wpS_of_wp ?_;refine eA (F:=F) hd hmc (Q:=bH d [] O) ?_ hr1 hw1;intro e S2 gb2 σ2 a2 w2 hr2 hq;have fin:(∃τ,nY σ2 τ/\j5 d [] O τ)->a2.defers=[]/\ ∃u'',({c₀ with mode:=u'}::cs:List Frame)={c₀ with mode:=u''}::cs/\ ∃v,(results fn a2.tmps).run P w2= .ok v w2/\R (.returned v) u'' w2:=by
   intro hp;obtain ⟨x,S'',gb'',g1,g2⟩:=aN.ret (fn:=fn) hr2 hp h5;exact ⟨hr2.defers,u',rfl,x,g1,hR x w2 S'' gb'' g2⟩
  cases e
  ·exact fin hq
  ·exact hq.elim
  ·exact fin hq
 have run: ∀(c₀:Frame) (cs:List Frame) (u':FrameMode) (R:Ending->FrameMode->World->Prop),(match recoverD (c₀::cs) with |some (x,cs')=>x=u/\cs'={c₀ with mode:=u'}::cs|none=>u= .nilIface/\{c₀ with mode:=u'}=c₀)->
   (∀x w' S' gb',dL d I O S gb (fun t=>vs.getD t undef) w S' gb' x w'->R (.returned x) u' w')->
   (Code.seq (.region id ops false) c).wpS P (bodyPostS P fn c₀ cs R) {tmps:=vs.toArray++Array.replicate (fn.ntmps - vs.toArray.size) undef,defers:=[]} (c₀::cs) w:=by
  intro c₀ cs u' R hrc hR;refine wpS_seq (wpS_region ?_);have hrg:List.range ops.size=0::List.range' 1 r.length:=by rw[hsz,List.range_eq_range',List.range'_succ]
  rw[hrg];simp only[wpOpsS,ho];rw[if_pos (by simp[Region.wanted,hg]),hrecop];have hrest:=rest c₀ cs u' R hR;split at hrc
  ·rename_i x cs' he;obtain ⟨rfl,rfl⟩:=hrc;simp only[he];exact hrest
  ·rename_i he;obtain ⟨rfl,hc⟩:=hrc;simp only[he];rw[hc] at hrest;exact hrest
 refine ⟨hcall,?_,?_⟩
 ·rintro rfl;simp only[PR] at hpu;refine callsD_of_wpS hf hb fun c₀ cs hmode=>run c₀ cs .returning _ ?_ fun x w' S' gb' hp=>⟨x,rfl,rfl,S',gb',hp⟩
  simp only[recoverD,hmode];exact ⟨hpu,by cases c₀;simp at hmode;subst hmode;rfl⟩
 ·rintro ⟨T,y,rfl⟩;refine callsD_of_wpS hf hb fun c₀ cs hmode=>run c₀ cs (.panicking [{v:=u,recovered:=true}]) _ ?_ fun x w' S' gb' hp=>⟨x,rfl,rfl,S',gb',hp⟩
  simp only[recoverD,hmode,jI];exact ⟨trivial,trivial⟩

inductive LE where
 |df (l:List bv) (x:X) (c:lM)
 |sq (a:AC) (r:LE)
structure Oy where
 c:LE
 rs:List AR
 np:Nat
 N:Nat
def NA (P:Program) (GL:List (Nat×List Value)) (N:Nat) (dr:Array Oper->List (List Nat)->List bv->Bool):Code->LE->Bool
 | .seq a b,.sq a' r=>mC P GL N dr a a'&&NA P GL N dr b r
 | .seq (.region _ ops false) c,.df l x c'=>(match ops.toList.drop l.length with
  |[o]=>lJ P GL N ops (ops.toList.take l.length) l&&o.guard.isNone&&o.dst.isNone&&(match o.op with | .defer {callee:= .value y,args:=as,argTypes:=_}=>as.toList.isEmpty&&mX GL x y|_=>false)
  |_=>false)&&pe P GL N dr c c'
 |_,_=>false
def Oz (P:Program) (GL:List (Nat×List Value)) (dr:Array Oper->List (List Nat)->List bv->Bool) (fn:Func) (f:Oy):Bool:=
 fn.name != "runtime.NumGoroutine"&&fn.params.size+fn.nfree==f.np&&fn.ntmps==f.N&&Nat.ble f.np f.N&&AI P f.rs fn.results.toList&&(match fn.body with |some c=>NA P GL f.N dr c f.c|none=>false)
section
variable (S SP:Nat->Nat->In->bO->Prop) (SD:Nat->Nat->In->AV->bO->Prop) (N sl dm d:Nat) (rs:List AR) (O:bO)
def mM (M:bO) (g:Nat) (caps:List AV) (v:AV) (τ:St):Prop:=
 ∃I2 O2,SD g dm I2 v O2/\cO dm τ ((aP Id.up caps).map X.c) I2 O2/\bH sl rs M .r (lg dm τ ((aP Id.up caps).map X.c) I2 O2)
def tV:LE->St->Prop
 | .sq a r,σ=>dK S a (fun e σ'=>match e with | .n=>tV r σ'| .r=>bH d rs O .r σ'| .x _=>False) σ
 | .df l x c2,σ=>lu S l (fun σ'=>match σ'.v x with
  | .fn g caps=>if BM<=g then False else ∃I M,I.vs.length=N/\cO sl σ' ((List.range N).map X.s) I M/\bH d [.t sl] O .r (bB sl σ' ((List.range N).map X.s) I M)/\
   bu S SP (fun v τ=>(∃T y,v= .ifc T y)/\mM SD sl dm rs M g caps v τ) c2 (fun e τ=>match e with | .x _=>False|_=>mM SD sl dm rs M g caps .nili τ) (ar I)
  |_=>False) σ
end
theorem p6 (a:Act):(List.range a.tmps.size).map (tv a)=a.tmps.toList:=by
 apply List.ext_getElem
 ·simp
 ·intro n h1 h2;have h3:n<a.tmps.size:=by simpa using h2
  simp[tv,h3]
theorem uM (h:aN F S gb σ a w): ∀(l:List Nat),aa S gb ((l.map X.s).map σ.v) (l.map (tv a))
 |[]=>by simp[aa]
 |t::l=>by
  simp only[fZ,aa];exact ⟨_,_,rfl,h.env t,uM h l⟩
theorem Bk {GL:List (Nat×List Value)} {dr:Array Oper->List (List Nat)->List bv->Bool} {f:Nat} {fn:Func} {af:Oy} (hf:P.funcs[f]?=some fn) (hm:Oz P GL dr fn af=true) (hd:b7 P GL af.N dr) {sl dm d:Nat} (hsl:sl<af.N) (hdm:dm<af.N) {I0:In} {O:bO} (hl:I0.vs.length=af.np)
  (hw:tV (bC P GL) (fJ P GL) (lh P GL) af.N sl dm d af.rs O af.c (ar I0)):bC P GL f d I0 O:=by
 simp only[Oz,aJ,bne_iff_ne,cI] at hm;obtain ⟨⟨⟨⟨⟨h1,h2⟩,h3⟩,h4⟩,h5⟩,h6⟩:=hm;split at h6<;>(try cases h6);rename_i c hb;have h4:=Nat.le_of_ble_eq_true h4;intro S0 fP w0 vs hvs hhr hglo hnw;have hlen:vs.length=I0.vs.length:=hvs.length.symm;unfold lH;have hcall:(callFunc f vs.toArray).run P w0= .ok (.enter f vs.toArray) w0:=by
  simp[callFunc,hf,hb,h1]
 rw[hcall];refine calls_of_wp_defers hf hb ?_
 let F:Fr:=⟨S0,w0,MS I0 fP (fun t=>vs.getD t undef) w0,fP,af.N,GL,[]⟩
 have hrel:aN F S0 (eB fP) (ar I0) {tmps:=vs.toArray++Array.replicate (fn.ntmps - vs.toArray.size) undef,defers:=[]} w0:=by
  refine aN.init (by simp;omega) (by funext t;exact dP) ?_ hhr hglo;have e:(List.range I0.vs.length).map (fun t=>vs.getD t undef)=vs:=by
   apply List.ext_getElem
   ·simp[hlen]
   ·intro n h1 h2;simp;rw[uk h2];rfl
  rw[e];exact hvs
 generalize ({tmps:=vs.toArray++Array.replicate (fn.ntmps - vs.toArray.size) undef,defers:=[]}:Act)=a0 at hrel ⊢;generalize ar I0=σ0 at hrel hw;obtain ⟨R,hR⟩: ∃R:Ending->World->Prop,R=fun e w'=> ∃v,e= .returned v/\ ∃S' gb',dL d I0 O S0 fP (fun t=>vs.getD t undef) w0 S' gb' v w':=⟨_,rfl⟩
 rw[<-hR];have leave: ∀ {S gb σ a w},aN F S gb σ a w->bH d af.rs O .r σ->Leaves P fn a.tmps R a.defers .returning w:=by
  intro S gb σ a w hr hp;obtain ⟨x,S'',gb'',g1,g2⟩:=aN.ret (fn:=fn) hr hp h5;rw[hr.defers];exact ⟨x,g1,by rw[hR];exact ⟨x,rfl,S'',gb'',g2⟩⟩
 have mid: ∀ {c2:Code} {c2':lM} {g:Nat} {caps:List AV} {us:Array Value} {S gb σ a w},pe P GL af.N dr c2 c2'=true->aN F S gb σ a w->aa S gb caps us.toList->
   (∃I M,I.vs.length=af.N/\cO sl σ ((List.range af.N).map X.s) I M/\bH d [.t sl] O .r (bB sl σ ((List.range af.N).map X.s) I M)/\
    bu (bC P GL) (fJ P GL) (fun v τ=>(∃T y,v= .ifc T y)/\mM (lh P GL) sl dm af.rs M g caps v τ) c2' (fun e τ=>match e with | .x _=>False|_=>mM (lh P GL) sl dm af.rs M g caps .nili τ) (ar I))->
   c2.wp P (bodyPostD P fn R) {a with defers:={target:= .fn (.func g) us,args:= #[]}::a.defers} w:=by
  intro c2 c2' g caps us S gb σ a w hm2 hr hcaps hmid;obtain ⟨I,M,hIl,hc,hpost,hw2⟩:=hmid;have hsz:a.tmps.size=af.N:=hr.size;have hl2:aa S gb (((List.range af.N).map X.s).map σ.v) a.tmps.toList:=by
   rw[<-p6 a,hsz];exact uM hr _
  have hslot: ∀(i t:Nat),((List.range af.N).map X.s)[i]?=some (X.s t)->a.tmps.toList[i]?=some (tv a t):=by
   intro i t hi;rw[xK] at hi;cases hq:(List.range af.N)[i]? with
   |none=>rw[hq] at hi;cases hi
   |some j=>
    rw[hq] at hi;simp only[Option.map_some,cW,X.s.injEq] at hi;subst hi;have hj:=qZ.1 hq;obtain ⟨hj1,hj2⟩:=hj;simp only[List.length_range] at hj1;simp only[List.getElem_range] at hj2;subst hj2
    have:i<a.tmps.size:=by omega
    simp[tv,this]
  have hent:=gc hr hc hl2 hslot;have hvs2:aa S gb I.vs a.tmps.toList:=oZ hc.vs hl2;have hglo2: ∀i us,GL.lookup i=some us-> ∀(o:Nat) (u:Value),us[o]?=some u->S i o=some u/\u.oneCell'=true:=fun i us hi o u hu=>⟨hr.le _ _ _ (hr.glo i us hi o u hu).1,(hr.glo i us hi o u hu).2⟩
  have hsv:(fun t=>a.tmps.toList.getD t undef)=tv a:=by
   funext t
   simp[tv,kC,Cq]
  have hdf:a.defers=[]:=hr.defers;rw[hdf]
  let F2:Fr:=⟨S,w,MS I gb (fun t=>a.tmps.toList.getD t undef) w,gb,af.N,GL,[{target:= .fn (.func g) us,args:= #[]}]⟩
  have hrel2:aN F2 S (eB gb) (ar I) {a with defers:=[{target:= .fn (.func g) us,args:= #[]}]} w:=by
   refine aN.init hsz (by rw[hsv];rfl) ?_ hent hglo2;rw[hIl,hsv,<-hsz,p6 a];exact hvs2
  have fin: ∀ {v:AV} {u:Value} {S' gb' τ a' w'},aN F2 S' gb' τ a' w'->mM (lh P GL) sl dm af.rs M g caps v τ->PR S' gb' v u->
    ∃args,(invoke (.fn (.func g) us) #[]).run P w'= .ok (.enter g args) w'/\
     (v= .nili->CallsD P g args .returning w' fun e u' w''=> ∃x,e= .returned x/\u'= .returning/\ ∃y,(results fn a'.tmps).run P w''= .ok y w''/\R (.returned y) w'')/\
     ((∃T y,v= .ifc T y)->CallsD P g args (.panicking (jI u)) w' fun e u' w''=> ∃x,e= .returned x/\u'= .panicking [{v:=u,recovered:=true}]/\ ∃y,(results fn a'.tmps).run P w''= .ok y w''/\R (.returned y) w''):=by
   intro v u S' gb' τ a' w' hr' hleft hpu;obtain ⟨I2,O2,hspec,hc2,hp2⟩:=hleft;have hle:(eB gb).le gb':=by
    intro i x hi;cases i with
    |up j=>rw[hr'.up j];exact hi
    |_=>cases hi
   have hl3:aa S' gb' (((aP Id.up caps).map X.c).map τ.v) us.toList:=by
    have e:((aP Id.up caps).map X.c).map τ.v=aP Id.up caps:=by
     rw[List.map_map];exact (List.map_congr_left (fun c _=>rfl)).trans (List.map_id _)
    rw[e];exact aa.mono hr'.le hle _ _ (dE _ _ hcaps)
   have hslot3: ∀(i t:Nat),((aP Id.up caps).map X.c)[i]?=some (X.s t)->us.toList[i]?=some (tv a' t):=by
    intro i t hi;rw[xK] at hi;cases hq:(aP Id.up caps)[i]? with
    |none=>rw[hq] at hi;cases hi
    |some j=>rw[hq] at hi;cases hi
   have hent3:=gc hr' hc2 hl3 hslot3;have hvs3:aa S' gb' I2.vs us.toList:=oZ hc2.vs hl3;have hglo3: ∀i us,GL.lookup i=some us-> ∀(o:Nat) (u:Value),us[o]?=some u->S' i o=some u/\u.oneCell'=true:=fun i us hi o u hu=>⟨hr'.le _ _ _ (hr'.glo i us hi o u hu).1,(hr'.glo i us hi o u hu).2⟩
   have hgn: ∀i,i.isNw dm=true->gb' i=none:=by
    intro i hi;cases hg:gb' i with
    |none=>rfl
    |some x=>
     rcases hr'.dom i (by rw[hg];simp) with h1|h1
     ·obtain ⟨cs,hcs⟩:=jp.1 h1
      have:=hc2.free _ (cF _ _ _ hcs)
      simp only at this;rw[this] at hi;cases hi
     ·cases i<;>simp[Id.isUp,Id.isNw] at h1 hi
   obtain ⟨hrun,hn,hy⟩:=hspec S' gb' w' us.toList u hvs3 hent3 hglo3 hgn hpu;have done: ∀ {x S'' gb'' w''},dL dm I2 O2 S' gb' (fun t=>us.toList.getD t undef) w' S'' gb'' x w''-> ∃y,(results fn a'.tmps).run P w''= .ok y w''/\R (.returned y) w'':=by
    intro x S'' gb'' w'' hp;have hr3:=(hr'.call hdm hc2 hl3 hslot3 hp).unput hdm;obtain ⟨y,S3,gb3,g1,g2⟩:=aN.ret (fn:=fn) hr3 hp2 h5;refine ⟨y,g1,?_⟩;have hr4:=hr.call hsl hc hl2 hslot g2;obtain ⟨τ4,hfz,hok⟩:=hpost;obtain ⟨S5,gb5,hr5⟩:=hr4.frzs hfz;have hv:gh τ4 [.t sl]=some [lk τ4.e sl]:=rfl;have hpo:=hr5.post (us:=[tv (a.put (some sl) y) sl]) hok hv (by simp only[aa];exact ⟨_,_,rfl,hr5.env sl,rfl⟩) (fun i s hi=>by
     cases i with
     |zero=>simp at hi;subst hi;rfl
     |succ i=>simp at hi)
    have ey:tv (a.put (some sl) y) sl=y:=by rw[iZ (by rw[hsz];exact hsl),if_pos rfl]
    rw[hR];rw[ey] at hpo;exact ⟨y,rfl,S5,_,hpo⟩
   refine ⟨us.toList.toArray,?_,fun e=>(hn e).mono fun e u' w'' ⟨x,h1,h2,S'',gb'',hp⟩=>⟨x,h1,h2,done hp⟩,fun e=>(hy e).mono fun e u' w'' ⟨x,h1,h2,S'',gb'',hp⟩=>⟨x,h1,h2,done hp⟩⟩;rw[show us.toList.toArray=us from rfl] at hrun ⊢;simp only[invoke];simpa using hrun
  refine lN (F:=F2) hd hm2 (Q:=fun e τ=>match e with | .x _=>False|_=>mM (lh P GL) sl dm af.rs M g caps .nili τ) (R:=fun v τ=>(∃T y,v= .ifc T y)/\mM (lh P GL) sl dm af.rs M g caps v τ) ?_ ?_ hrel2 hw2
  ·intro e S' gb' τ a' w' hr' hq;have key:mM (lh P GL) sl dm af.rs M g caps .nili τ->Leaves P fn a'.tmps R a'.defers .returning w':=by
    intro hq;obtain ⟨args,hi,hn,_⟩:=fin (u:= .nilIface) hr' hq (by simp[PR]);rw[hr'.defers];refine leaves_cons (by simp) hi ((hn rfl).mono ?_);rintro e u' w'' ⟨x,rfl,rfl,y,h1,h2⟩;exact ⟨y,h1,h2⟩
   cases e
   ·exact key hq
   ·exact hq.elim
   ·exact key hq
  ·intro v u S' gb' τ a' w' hr' hq hpu hi;show Leaves P fn a'.tmps R a'.defers (.panicking (jI u)) w';obtain ⟨hv,hq⟩:=hq;obtain ⟨args,hinv,hn,hy⟩:=fin hr' hq hpu;rw[hr'.defers];refine leaves_cons (by simp) hinv ((hy hv).mono ?_);rintro e u' w'' ⟨x,rfl,rfl,y,h1,h2⟩;exact ⟨y,h1,h2⟩
 have main: ∀ {acd:LE} {c:Code},NA P GL af.N dr c acd=true-> ∀ {S gb σ a w},aN F S gb σ a w->tV (bC P GL) (fJ P GL) (lh P GL) af.N sl dm d af.rs O acd σ->c.wp P (bodyPostD P fn R) a w:=by
  intro acd;induction acd with
  |sq a' r ih=>
   intro c hm S gb σ a w hr hw;cases c
   case seq ca cb=>
    simp only[NA,aJ] at hm;obtain ⟨hma,hmb⟩:=hm;refine wp_seq (eA (F:=F) hd hma (Q:=fun e σ'=>match e with | .n=>tV (bC P GL) (fJ P GL) (lh P GL) af.N sl dm d af.rs O r σ'| .r=>bH d af.rs O .r σ'| .x _=>False) ?_ hr hw);intro e S1 gb1 σ1 a1 w1 hr1 hq;cases e
    ·exact ih hmb hr1 hq
    ·exact hq.elim
    ·exact leave hr1 hq
   all_goals simp[NA] at hm
  |df l x c2'=>
   intro c hm S gb σ a w hr hw;unfold NA at hm;split at hm
   ·rename_i e;cases e
   ·rename_i id ops c2 l' x' c2'' e;cases e;simp only[aJ] at hm;obtain ⟨hm1,hm2⟩:=hm;split at hm1
    ·rename_i o hdrop;simp only[aJ,Option.isNone_iff_eq_none] at hm1;obtain ⟨⟨⟨hml,hg⟩,hdst⟩,hop⟩:=hm1;refine wp_seq (wp_region_list ?_);have e:ops.toList=ops.toList.take l.length++[o]:=by rw[<-hdrop,F9]
     rw[e];refine jf (F:=F) ?_ hml hr hw;intro S1 gb1 σ1 a1 w1 hr1 hk;split at hop<;>(try cases hop);rename_i y as ts hop';simp only[aJ] at hop;obtain ⟨has,hx⟩:=hop;have hx:=az hr1 hx;have has:as= #[]:=by apply Array.ext';simpa using has
     subst has;split at hk
     ·rename_i g caps hv;rw[hv] at hx;simp only[PR] at hx;obtain ⟨us,hx,hcaps⟩:=hx;split at hk
      ·exact hk.elim
      rename_i hb;rw[Jp,if_neg hb] at hx;simp only[wpList];rw[if_pos (by simp[Region.wanted,hg])];refine .inl ?_;have hrun:(execOp a1.eval o).run P w1= .ok (.defer {target:= .fn (.func g) us,args:= #[]}) w1:=by
       unfold execOp;simp[hop',resolve,hx,Deferred.ofValue]
      unfold Oper.wp;rw[hrun,Oper.upon_defer,hdst];exact mid hm2 hr1 hcaps hk
     ·cases hk
    ·cases hm1
   ·cases hm
 exact main h6 hrel hw
theorem CX {P:Program} {GL:List (Nat×List Value)} {dr:Array Oper->List (List Nat)->List bv->Bool} {f:Nat} {fn:Func} {af:Oy} (hf:P.funcs[f]?=some fn) (hm:Oz P GL dr fn af=true) (hd:b7 P GL af.N dr) {sl dm d:Nat} (hsl:sl<af.N) (hdm:dm<af.N) {I:In} {O:bO} (hl:I.vs.length=af.np)
  (hw:tV (ba P GL) (di P GL) (FQ P GL) af.N sl dm d af.rs O af.c (ar I)):ba P GL f d I O:=by
 rw[fy,vY,GQ] at hw;rw[fy];exact Bk hf hm hd hsl hdm hl hw
theorem CY {P:Program} {GL:List (Nat×List Value)} {dr:Array Oper->List (List Nat)->List bv->Bool} {f:Nat} {fn:Func} {af:Ow} (hf:P.funcs[f]?=some fn) (hm:Ox P GL dr fn af=true) (hd:b7 P GL af.N dr) {d:Nat} {I:In} {v:AV} {O:bO} (hl:I.vs.length=af.np) (hi:v.ids=[])
  (hw:lu (ba P GL) af.l (dK (ba P GL) af.c (bH d [] O)) ((ar I).put af.r v)):FQ P GL f d I v O:=by
 rw[fy] at hw;rw[GQ];exact vZ hf hm hd hl hi hw
end Go.Ai
namespace Go.Ai
open Go.RowKit
variable {P:Program} {F:Fr} {S:aR} {gb:Gb} {σ:St} {a:Act} {w:World}
abbrev LF (l:Nat):Fence:=Fence.wide.inRound l
def uN (o:Oper):Bool:=match o.op with | .defer _=>false|_=>true
theorem Bl {l n:Nat} {row:String} {args:Array Value} {R:Value->World->Prop} (h:Rows P row args w R):RowsIn (LF l) n P row args w R:=by
 intro c cs _;obtain ⟨v,w',r,s⟩:=h c cs;exact ⟨v,w',r,stepsIn_wide.2 s⟩
theorem Mu {l n:Nat} {o:Oper} {K:Act->World->Prop} {Q:Exit->Act->World->Prop} (hd:uN o=true) (h:o.wp P a w K Q):o.wpIn (LF l) n P a w K Q:=by
 refine ⟨fun _ _=>trivial,?_⟩;have he:o.semAt (LF l).round a.eval=execOp a.eval o:=Oper.semAt_eq _ _ _ (fun c hc=>by unfold uN at hd;rw[hc] at hd;cases hd);rw[he];unfold Oper.wp Oper.upon at h;unfold Oper.uponIn;have hdep:((LF l).depth.isSome=true->1<=n):=fun h=>by cases h
 generalize (execOp a.eval o).run P w=r at h ⊢;split at h
 ·exact h
 ·exact h
 ·exact h
 ·exact ⟨hdep,callsIn_wide.2 h⟩
 ·exact ⟨hdep,Bl h⟩
 ·exact h
 ·exact h.elim
theorem me {l n:Nat} {ops:Array Oper} {Q:Exit->Act->World->Prop} (hd: ∀(i:Nat) (o:Oper),ops[i]?=some o->uN o=true) (hQ: ∀a w,¬Q .outgrown a w): ∀(is:List Nat) (a:Act) (w:World),wpOps P ops Q is a w->wpOpsIn (LF l) n P ops Q is a w
 |[],a,w,h=>by simpa[wpOps,wpOpsIn] using h
 |i::r,a,w,h=>by
  simp only[wpOps] at h;simp only[wpOpsIn];cases ho:ops[i]? with
  |none=>
   rw[ho] at h;exact me hd hQ r a w h
  |some o=>
   rw[ho] at h;dsimp only at h ⊢;split
   ·rename_i hw;rw[if_pos hw] at h;rcases h with h|⟨_,a₀,w₀,hq⟩
    ·have:=Mu (l:=l) (n:=n) (hd i o ho) h
     exact Oper.wpIn_mono (fun a w hh=>me hd hQ r a w hh) this
    ·exact absurd hq (hQ _ _)
   ·rename_i hw;rw[if_neg hw] at h;exact ⟨fun _ _=>trivial,me hd hQ r _ _ h⟩
def m8:Code->Bool
 | .skip=>true
 | .region _ ops _=>ops.toList.all uN
 | .seq x y=>m8 x&&m8 y
 | .cond _ x y=>m8 x&&m8 y
 | .block _ x=>m8 x
 | .loop x=>m8 x
 | .exit _=>true
 | .ret=>true
 |_=>false
theorem rQ {ops:Array Oper} (h:ops.toList.all uN=true) (i:Nat) (o:Oper) (ho:ops[i]?=some o):uN o=true:=
 ik.1 h o (by rw[<-Array.getElem?_toList] at ho;exact List.mem_of_getElem? ho)
theorem yX {l n:Nat} {dr:Array Oper->List (List Nat)->List bv->Bool} (hmix:P.follows .mixedOrders=true) (hd:jb P F.GL F.N dr): ∀ {c:Code} {ac:AC},m8 c=true->mC P F.GL F.N dr c ac=true-> ∀ {Q:AE->St->Prop} {Q':Exit->Act->World->Prop},(∀a w,¬Q' .outgrown a w)->(∀e S gb σ a w,aN F S gb σ a w->Q e σ->Q' (yL e) a w)->
  ∀ {S:aR} {gb:Gb} {σ:St} {a:Act} {w:World},aN F S gb σ a w->dK (bC P F.GL) ac Q σ->c.wpIn (LF l) n P Q' a w:=by
 intro c;induction c with
 |skip=>
  intro ac hk hm Q Q' hO hQ S gb σ a w h hw;cases ac<;>simp[mC] at hm;exact wpIn_skip (hQ .n _ _ _ _ _ h hw)
 |region id ops draw=>
  intro ac hk hm Q Q' hO hQ S gb σ a w h hw;cases ac
  case rg l=>
   cases draw<;>simp[mC] at hm;refine wpIn_region (me (rQ hk) hO _ _ _ ?_);rw[List.range_eq_range',<-qq,wpOps_eq_wpList ops.toList 0 (by simp)];exact gg (fun S gb σ a w h' hk=>hQ .n _ _ _ _ _ h' hk) hm h hw
  case rd us l=>
   cases draw<;>simp[mC] at hm;refine wpIn_region_draw fun t=>me (rQ hk) hO _ _ _ ?_
   simp only[Region.schedule,hmix,Bool.true_or,if_true];exact wpAny_sound ops.size t _ a _ (hd.rd F rfl rfl ops us l hm.1 hm.2 (Q .n) Q' (fun S gb σ a w h' hk=>hQ .n _ _ _ _ _ h' hk) h hw)
  case fz s l=>
   cases draw<;>simp[mC] at hm;simp only[dK] at hw;obtain ⟨τ,hτ,b,n,sz,rows,tl,hf,hz,hw⟩:=hw;obtain ⟨S0,fP,h⟩:=h.kids hτ;obtain ⟨S',gb',h'⟩:=h.freezeP hf hz;refine wpIn_region (me (rQ hk) hO _ _ _ ?_);rw[List.range_eq_range',<-qq,wpOps_eq_wpList ops.toList 0 (by simp)];exact gg (fun S gb σ a w h' hk=>hQ .n _ _ _ _ _ h' hk) hm h' hw
  all_goals (cases draw<;>simp[mC] at hm)
 |seq x y ihx ihy=>
  intro ac hk hm Q Q' hO hQ S gb σ a w h hw;simp only[m8,aJ] at hk;cases ac
  case sq x' y'=>
   simp[mC] at hm;refine wpIn_seq (ihx hk.1 hm.1 (Q:=AE.sq (dK (bC P F.GL) y' Q) Q) (Q':=Exit.then (y.wpIn (LF l) n P Q') Q') hO ?_ h hw);intro e S gb σ a w h' hq;cases e
   ·exact ihy hk.2 hm.2 hO hQ h' hq
   ·exact hQ (.x _) _ _ _ _ _ h' hq
   ·exact hQ .r _ _ _ _ _ h' hq
  all_goals simp[mC] at hm
 |cond c x y ihx ihy=>
  intro ac hk hm Q Q' hO hQ S gb σ a w h hw;cases ac<;>simp[mC] at hm;simp only[m8,aJ] at hk;rename_i c' x' y';obtain ⟨⟨hc,hx⟩,hy⟩:=hm;have hv:=az h hc;simp only[dK] at hw;split at hw
  ·rename_i t ht;rw[ht] at hv;simp only[PR] at hv;refine wpIn_cond hv ?_;cases t
   ·exact ihy hk.2 hy hO hQ h (by simpa using hw)
   ·exact ihx hk.1 hx hO hQ h (by simpa using hw)
  ·cases hw
 |block i x ih=>
  intro ac hk hm Q Q' hO hQ S gb σ a w h hw;cases ac<;>simp[mC] at hm;rename_i j x';obtain ⟨rfl,hx⟩:=hm;refine wpIn_block (ih hk hx (Q:=AE.bl i Q) (Q':=Exit.inBlock i Q') hO ?_ h hw);intro e S gb σ a w h' hq;cases e
  ·exact hQ .n _ _ _ _ _ h' hq
  ·rename_i j;simp only[yL,Exit.inBlock];simp only[AE.bl] at hq;split at hq
   ·rename_i e;rw[if_pos e];exact hQ .n _ _ _ _ _ h' hq
   ·rename_i e;rw[if_neg e];exact hQ (.x _) _ _ _ _ _ h' hq
  ·exact hQ .r _ _ _ _ _ h' hq
 |loop x ih=>
  intro ac hk hm Q Q' hO hQ S gb σ a w h hw;cases ac<;>simp[mC] at hm;rename_i x';simp only[dK] at hw;obtain ⟨n',hn⟩:=hw;intro b k cs hro hb hr;have key: ∀n' S gb σ a w,aN F S gb σ a w->Cu (dK (bC P F.GL) x') Q n' σ-> ∃e a' w',Q' e a' w'/\ArrivesIn (Machine.fenced P (LF l)) P (lone (b.atR a (.code x:: .inLoop x::k)) cs w) b k cs e a' w':=by
   intro n';induction n' with
   |zero=>intro S gb σ a w h hn;exact hn.elim
   |succ n' ihn=>
    intro S gb σ a w h hn;obtain ⟨τ,hτ,hbb⟩:=hn;obtain ⟨gb',h'⟩:=h.weakR hτ;obtain ⟨e,a₁,w₁,hq,harr⟩:=ih hk hm (Q:=AE.sq (Cu (dK (bC P F.GL) x') Q n') Q) (Q':=Exit.then (fun a w=> ∃S gb σ,aN F S gb σ a w/\Cu (dK (bC P F.GL) x') Q n' σ) Q') hO (by
     intro e S gb σ a w h'' hq;cases e
     ·exact ⟨_,_,_,h'',hq⟩
     ·exact hQ (.x _) _ _ _ _ _ h'' hq
     ·exact hQ .r _ _ _ _ _ h'' hq) h' hbb b (.inLoop x::k) cs hro hb hr
    cases e with
    |normal=>
     obtain ⟨S1,gb1,σ1,h1,hi1⟩:=hq;obtain ⟨e₂,a₂,w₂,hq₂,harr₂⟩:=ihn _ _ _ _ _ h1 hi1;exact ⟨e₂,a₂,w₂,hq₂,.of_steps (StepsIn.trans harr (.one (fenced_calm hb hr rfl) stepR_inLoop)) harr₂⟩
    |exit id=>exact ⟨_,a₁,w₁,hq,.pass (x:= .inLoop x) rfl (fun _ _=> .inl (by simp)) harr⟩
    |goto l=>exact ⟨_,a₁,w₁,hq,.pass (x:= .inLoop x) rfl (fun _ _=> .inl (by simp)) harr⟩
    |ret=>exact ⟨_,a₁,w₁,hq,.pass (x:= .inLoop x) rfl (fun _ _=> .inl (by simp)) harr⟩
    |panic ch=>exact ⟨_,a₁,w₁,hq,.pass (x:= .inLoop x) rfl (fun _ _=> .inl (by simp)) harr⟩
    |outgrown=>exact ⟨_,a₁,w₁,hq,.pass (x:= .inLoop x) rfl (fun _ _=> .inl (by simp)) harr⟩
  obtain ⟨e,a',w',hq,harr⟩:=key n' _ _ _ _ _ h hn;exact ⟨e,a',w',hq,.of_steps (.one (fenced_calm hb hr rfl) stepR_loop) harr⟩
 |exit i=>
  intro ac hk hm Q Q' hO hQ S gb σ a w h hw;cases ac<;>simp[mC] at hm;subst hm;exact wpIn_exit (hQ (.x _) _ _ _ _ _ h hw)
 |ret=>
  intro ac hk hm Q Q' hO hQ S gb σ a w h hw;cases ac<;>simp[mC] at hm;exact wpIn_ret (hQ .r _ _ _ _ _ h hw)
 |_=>intro ac hk;cases hk
end Go.Ai
namespace Go.Ai
open Go.RowKit
variable {P:Program} {F:Fr} {S:aR} {gb:Gb} {σ:St} {a:Act} {w:World}
theorem pf {bx:List (Id×List AV)} {pm:List (Pl×Nat)} {sv:Nat->Value} (h:HR S gb bx pm sv w) (hit: ∀d,(aD bx d).isSome->d.isIt=false) {w':World} {row:Option Nat} (hg:w.grownBy w' row)
  (hr: ∀r,row=some r-> ∃o:Obj,w.heap[r]?=some o/\o.isCells=false) {p:Pl} {k:Nat} (hp:aH pm p=some k):ct gb sv w' p=ct gb sv w p:=by
 cases p with
 |s t=>rfl
 |t t i=>rfl
 |b d off=>
  obtain ⟨h1,h2⟩:=h.pmb d off k hp;obtain ⟨cs,hcs⟩:=jp.1 h1;obtain ⟨g,us,T,e1,e3,_⟩:=h.box d cs hcs h2;simp only[ct,e1];rw[World.cell?_of_block (a:=⟨g,off,none⟩) (grownBy_keeps_cells hg hr e3 rfl)]
theorem HR.abide {bx:List (Id×List AV)} {pm:List (Pl×Nat)} {sv:Nat->Value} (h:HR S gb bx pm sv w) (hit: ∀d,(aD bx d).isSome->d.isIt=false) {w':World} {row:Option Nat} (hg:w.grownBy w' row)
  (hr: ∀r,row=some r-> ∃o:Obj,w.heap[r]?=some o/\o.isCells=false):HR S gb bx pm sv w':=by
 have hpl:=fun {p k}=>pf h hit hg hr (p:=p) (k:=k)
 refine ⟨fun g o v e=>cell_kept (h.agree g o v e) hg hr,?_,?_,h.inj,?_,?_,?_,h.pmb⟩
 ·intro d cs hcs hi;obtain ⟨g,us,T,e1,e3,e4,e5⟩:=h.box d cs hcs hi;exact ⟨g,us,T,e1,(grownBy_keeps_cells hg hr e3 rfl).trans e3,e4,e5⟩
 ·intro d cs hcs hi
  have:=hit d (by rw[hcs];rfl)
  rw[hi] at this;cases this
 ·intro p k hp;rw[hpl hp];have ho:=h.own p k hp;refine ho.mono (fun g hgb=>?_) (fun _ _ _ e=>e);rcases ho with e|⟨_,g',n,cap,cur,T,e,h3,_⟩|⟨_,g',n,cap,cur,e,h3,_⟩
  ·rw[e] at hgb;simp[Value.ownBlock] at hgb
  ·rw[e] at hgb;simp[Value.ownBlock] at hgb;subst hgb;exact grownBy_keeps_cells hg hr h3 rfl
  ·rw[e] at hgb;simp[Value.ownBlock] at hgb;subst hgb;exact grownBy_keeps_cells hg hr h3 rfl
 ·intro p q k l b hp hq h1 h2;rw[hpl hp] at h1;rw[hpl hq] at h2;exact h.ownd p q k l b hp hq h1 h2
 ·intro p k b d z hp h1;rw[hpl hp] at h1;exact h.ownb p k b d z hp h1
def nZ (bx:List (Id×List AV)):Prop:= ∀d,(aD bx d).isSome->d.isIt=false
theorem aN.abide (h:aN F S gb σ a w) (hit:nZ σ.bx) {w':World} {row:Option Nat} (hg:w.grownBy w' row)
  (hr: ∀r,row=some r->(F.w0.heap.size<=r\/F.M r)/\ ∃o:Obj,w.heap[r]?=some o/\o.isCells=false):aN F S gb σ a w':=by
 have hr2:=fun r e=>(hr r e).2
 refine ⟨h.defers,h.size,⟨hg.os.trans h.bw.os,hg.tape.trans h.bw.tape,hg.output.trans h.bw.output,mu h.bw.size hg.size,fun k hk hn=>?_⟩,h.ext,h.le,h.env,h.hr.abide hit hg hr2,h.newb,?_,h.dom,h.up,h.glo⟩
 ·refine (hg.block k (AD hk h.bw.size) (fun e=>?_)).trans (h.bw.block k hk hn);rcases (hr k e.symm).1 with h1|h1
  ·omega
  ·exact hn h1
 ·intro p k g hp hq;rw[pf h.hr hit hg hr2 hp] at hq;exact h.newo p k g hp hq
theorem J3 {d:Nat} (hd:d<a.tmps.size) (v:Value):(a.put (some d) v).put (some d) (tv a d)=a:=by
 obtain ⟨tm,df⟩:=a;have e:(tm.setIfInBounds d v).setIfInBounds d (tm.getD d undef)=tm:=by
  apply Array.ext
  ·simp
  ·intro i h1 h2;by_cases e:d=i
   ·subst e;simp[kC,h2]
   ·rw[Array.getElem_setIfInBounds_ne (h:=e),Array.getElem_setIfInBounds_ne (h:=e)];simpa using h2
 show Act.mk ((tm.setIfInBounds d v).setIfInBounds d (tm.getD d undef)) df=Act.mk tm df;rw[e]
theorem aN.unputR {d:Nat} {v:Value} (hd:d<F.N) (h:aN F S gb σ (a.put (some d) v) w):aN F S gb (σ.put d .undef) a w:=by
 have hs:d<a.tmps.size:=by
  have:=h.size
  simp[Act.put] at this;omega
 have:=h.put hd (v:= .undef) (u:=tv a d) (by simp[PR])
 rwa [J3 hs] at this
theorem aN.widen (h:aN F S gb σ a w) {M':Nat->Prop} (hM: ∀g,F.M g->M' g):aN {F with M:=M'} S gb σ a w:=
 ⟨h.defers,h.size,⟨h.bw.os,h.bw.tape,h.bw.output,h.bw.size,fun k hk hn=>h.bw.block k hk (fun e=>hn (hM k e))⟩,fun g o hg hn=>h.ext g o hg (fun e=>hn (hM g e)),h.le,h.env,h.hr,
  fun d g z hd hg=>(h.newb d g z hd hg).imp id (hM g),fun p k g hp hg=>(h.newo p k g hp hg).imp id (hM g),h.dom,h.up,h.glo⟩
def MO (gb:Gb) (σ:St) (a:Act) (w:World) (g:Nat):Prop:=(∃d z,(aD σ.bx d).isSome/\gb d=some (g,z))\/ ∃p k,aH σ.pm p=some k/\(ct gb (tv a) w p).ownBlock=some g
def Fr.at (F:Fr) (S:aR) (gb:Gb) (σ:St) (a:Act) (w:World) (df:List Deferred):Fr:={F with S0:=S,w0:=w,M:=MO gb σ a w,df:=df}
theorem aN.rebase (h:aN F S gb σ a w) (df:List Deferred):aN (F.at S gb σ a w df) S gb σ {a with defers:=df} w:=
 ⟨rfl,h.size,Bw.refl _ _,fun _ _ _ _=>rfl,aR.le.refl _,h.env,h.hr,fun d g z hd hg=> .inr (.inl ⟨d,z,hd,hg⟩),fun p k g hp hg=> .inr (.inr ⟨p,k,hp,hg⟩),h.dom,h.up,
  fun i us hi o u hu=>⟨h.le _ _ _ (h.glo i us hi o u hu).1,(h.glo i us hi o u hu).2⟩⟩
theorem MO.of (h:aN F S gb σ a w) {g:Nat} (hg:MO gb σ a w g):F.w0.heap.size<=g\/F.M g:=by
 rcases hg with ⟨d,z,hd,he⟩|⟨p,k,hp,he⟩
 ·exact h.newb d g z hd he
 ·exact h.newo p k g hp he
theorem aN.unrebase (h:aN F S gb σ a w) {df:List Deferred} {S':aR} {gb':Gb} {σ':St} {a':Act} {w':World} (h':aN (F.at S gb σ a w df) S' gb' σ' a' w'):aN {F with df:=df} S' gb' σ' a' w':=by
 have hm: ∀ {g:Nat},(F.at S gb σ a w df).w0.heap.size<=g\/(F.at S gb σ a w df).M g->F.w0.heap.size<=g\/F.M g:=by
  intro g hg;rcases hg with hg|hg
  ·exact .inl (mu h.bw.size hg)
  ·exact MO.of h hg
 refine ⟨h'.defers,h'.size,h.bw.trans h'.bw (fun g hlt hg=>?_),fun g o hlt hn=>?_,aR.le.trans h.le h'.le,h'.env,h'.hr,fun d g z hd he=>hm (h'.newb d g z hd he),fun p k g hp he=>hm (h'.newo p k g hp he),h'.dom,h'.up,h.glo⟩
 ·rcases MO.of h hg with h1|h1
  ·exact absurd h1 (Nat.not_le_of_lt hlt)
  ·exact h1
 ·have h1:=h'.ext g o (AD hlt h.bw.size) (fun hg=>by
   rcases MO.of h hg with h1|h1
   ·exact absurd h1 (Nat.not_le_of_lt hlt)
   ·exact hn h1)
  exact h1.trans (h.ext g o hlt hn)
theorem rR {w:World} {l g:Nat} {us:Array Value} {T:Nat} {p:Nat×Nat} (hl: ∃o:Obj,w.heap[l]?=some o/\o.isCells=false) (h:w.heap[g]?=some (.cells us T p)):g≠l:=by
 rintro rfl;obtain ⟨o,h1,h2⟩:=hl;rw[h] at h1;cases h1;cases h2
theorem Bm {w:World} {l g k:Nat} {v:Value} {S:aR} (hl: ∃o:Obj,w.heap[l]?=some o/\o.isCells=false) (h:rk S w k v) (hg:v.ownBlock=some g):g≠l:=by
 rcases h with e|⟨_,g',n,cap,cur,T,e,h3,_⟩|⟨_,g',n,cap,cur,e,h3,_⟩
 ·rw[e] at hg;simp[Value.ownBlock] at hg
 ·rw[e] at hg;simp[Value.ownBlock] at hg;subst hg;exact rR hl h3
 ·rw[e] at hg;simp[Value.ownBlock] at hg;subst hg;exact rR hl h3
theorem HR.box_ne {bx:List (Id×List AV)} {pm:List (Pl×Nat)} {sv:Nat->Value} (h:HR S gb bx pm sv w) (hit:nZ bx) {l:Nat} (hl: ∃o:Obj,w.heap[l]?=some o/\o.isCells=false) {d:Id} {g:Nat} {z:BZ} (hd:(aD bx d).isSome) (hg:gb d=some (g,z)):g≠l:=by
 obtain ⟨cs,hcs⟩:=jp.1 hd;obtain ⟨g',us,T,e1,e3,_⟩:=h.box d cs hcs (hit d hd);rw[hg] at e1;cases e1;exact rR hl e3
theorem MO.ne (h:HR S gb σ.bx σ.pm (tv a) w) (hit:nZ σ.bx) {l:Nat} (hl: ∃o:Obj,w.heap[l]?=some o/\o.isCells=false): ¬MO gb σ a w l:=by
 rintro (⟨d,z,hd,he⟩|⟨p,k,hp,he⟩)
 ·exact h.box_ne hit hl hd he rfl
 ·exact Bm hl (h.own p k hp) he rfl
theorem rS {bx:List (Id×List AV)} {pm:List (Pl×Nat)} {sv:Nat->Value} (h:HR S gb bx pm sv w) {l:Nat} (hl: ∃o:Obj,w.heap[l]?=some o/\o.isCells=false) (o:Nat):S l o=none:=by
 cases hs:S l o with
 |none=>rfl
 |some v=>
  obtain ⟨ob,h1,h2⟩:=cells_of_cell (h.agree l o v hs);obtain ⟨ob',h3,h4⟩:=hl;rw[h3] at h1;cases h1;rw[h4] at h2;cases h2
theorem aN.narrow {l:Nat} (h:aN {F with M:=fun g=>F.M g\/g=l} S gb σ a w) (hit:nZ σ.bx) (hs:w.heap[l]?=F.w0.heap[l]?) (hl: ∃o:Obj,w.heap[l]?=some o/\o.isCells=false) (hS: ∀o,F.S0 l o=none):aN F S gb σ a w:=by
 refine ⟨h.defers,h.size,⟨h.bw.os,h.bw.tape,h.bw.output,h.bw.size,fun k hk hn=>?_⟩,fun g o hg hn=>?_,h.le,h.env,h.hr,fun d g z hd he=>?_,fun p k g hp he=>?_,h.dom,h.up,h.glo⟩
 ·by_cases e:k=l
  ·rw[e];exact hs
  ·exact h.bw.block k hk (fun h1=>h1.elim hn e)
 ·by_cases e:g=l
  ·rw[e,hS];exact rS h.hr hl o
  ·exact h.ext g o hg (fun h1=>h1.elim hn e)
 ·rcases h.newb d g z hd he with h1|h1|h1
  ·exact .inl h1
  ·exact .inr h1
  ·exact absurd h1 (h.hr.box_ne hit hl hd he)
 ·rcases h.newo p k g hp he with h1|h1|h1
  ·exact .inl h1
  ·exact .inr h1
  ·exact absurd h1 (Bm hl (h.hr.own p k hp) he)
end Go.Ai
namespace Go.Ai
open Go.RowKit
variable {P:Program} {F:Fr} {S:aR} {gb:Gb} {σ:St} {a:Act} {w:World}
def my:List Nat->List AV->List (Nat×AV)
 |t::r,v::s=>(t,v)::my r s
 |_,_=>[]
theorem GR {p:Nat} {v:AV} {B:List (Nat×AV)}: ∀ {r:List Nat} {s:List AV},p∉r-> ∀t,lk (my r s++(p,v)::B) t=if p=t then v else lk (my r s++B) t
 |[],s,_,t=>by simp[my,lk]
 |q::r,[],_,t=>by simp[my,lk]
 |q::r,u::s,h,t=>by
  simp only[nH,not_or] at h;simp only[my,cB,lk,GR h.2];by_cases e1:q=t
  ·rw[if_pos e1,if_pos e1,if_neg (fun e=>h.1 (e.trans e1.symm))]
  ·rw[if_neg e1,if_neg e1]
theorem CZ {g:Gb} {B:List (Nat×AV)}: ∀ {ps:List Nat} {x:List AV} {us:List Value} {tm:Array Value},(∀t,PR S g (lk B t) (tm.getD t undef))->ps.Nodup->(∀t∈ps,t<tm.size)->aa S g x us->ps.length=x.length->
  ∀t,PR S g (lk (my ps x++B) t) (((ps.zip us).foldl (fun t (q:Nat×Value)=>t.setIfInBounds q.1 q.2) tm).getD t undef)
 |[],x,us,tm,h,_,_,_,_=>by simpa[my] using h
 |p::r,[],us,tm,h,_,_,_,hl=>by simp at hl
 |p::r,v::s,us,tm,h,hn,hs,hx,hl=>by
  simp only[aa] at hx;obtain ⟨u,us',rfl,hu,hx⟩:=hx;simp only[Np] at hn;have ih:=CZ (B:=(p,v)::B) (ps:=r) (x:=s) (us:=us') (tm:=tm.setIfInBounds p u) (fun t=>by
   rw[xM (hs p (by simp))];simp only[lk];split
   ·exact hu
   ·exact h t) hn.2 (fun t ht=>by rw[Array.size_setIfInBounds];exact hs t (by simp[ht])) hx (by simpa using hl)
  intro t
  have:=ih t
  rw[GR hn.1] at this;simpa only[my,cB,lk,List.zip_cons_cons,List.foldl_cons] using this
theorem uO: ∀(l:List (Nat×Value)) (tm:Array Value),(l.foldl (fun t (q:Nat×Value)=>t.setIfInBounds q.1 q.2) tm).size=tm.size
 |[],_=>rfl
 |q::l,tm=>by rw[List.foldl_cons,uO l,Array.size_setIfInBounds]
theorem GS {f:Nat->AV}: ∀ {rd:List Nat} {vs:List AV},qD (rd.map f) vs->(∀t,PR S gb (f t) (tv a t))-> ∀t,PR S (eB gb) (lk (my rd (aP Id.up vs)) t) (tv a t)
 |[],vs,_,_,t=>by simp[my,lk,PR]
 |p::r,[],h,_,t=>by simp[qD] at h
 |p::r,v::s,h,he,t=>by
  simp only[fZ,qD] at h;simp only[aP,my,lk];split
  ·rename_i e;subst e;exact CK _ _ (Gh h.1 (he p))
  ·exact GS h.2 he t
structure OA (d:Nat) (σ:St) (rd:List Nat) (I:In):Prop where
 ok:cO d σ (rd.map X.s) I ⟨.tup [],I.bx,[]⟩
 pm: ∀p∈I.pm,p.1.isB=true
 it:nZ I.bx
def Mw (ps rd:List Nat) (x:List AV) (I:In):St:=⟨my ps x++my rd (aP Id.up I.vs),aW Id.up I.bx,aY Id.up I.pm⟩
def C0 (d:Nat):List (Nat×AV)->List (Nat×AV)
 |(t,.undef)::r=>if t=d then (t,.undef)::r else (d,.undef)::(t,.undef)::r
 |e=>(d,.undef)::e
theorem yY (d:Nat) (e:List (Nat×AV)) (t:Nat):lk (C0 d e) t=if d=t then .undef else lk e t:=by
 unfold C0;split
 ·rename_i t' r;split
  ·rename_i h;subst h;simp only[lk];split<;>rfl
  ·simp only[lk]
 ·simp only[lk]
def GT (d:Nat) (σ:St):St:=⟨C0 d σ.e,σ.bx,gV σ.pm d⟩
def yZ (d:Nat) (σ:St) (rd:List Nat) (I:In) (O:bO):St:=⟨C0 d σ.e,O.bx++jR σ.bx I.bx,gV (lr d O.pm++gV (jF (rd.map X.s) (lq σ.pm I.bx) I.pm) d) d⟩
theorem aN.congrE (h:aN F S gb σ a w) {e:List (Nat×AV)} (he: ∀t,lk e t=lk σ.e t):aN F S gb ⟨e,σ.bx,σ.pm⟩ a w:=
 ⟨h.defers,h.size,h.bw,h.ext,h.le,fun t=>by rw[he];exact h.env t,h.hr,h.newb,h.newo,h.dom,h.up,h.glo⟩
theorem GU {d:Nat} (hd:d<a.tmps.size):a.put (some d) (tv a d)=a:=by
 obtain ⟨tm,df⟩:=a;have e:tm.setIfInBounds d (tm.getD d undef)=tm:=by
  apply Array.ext
  ·simp
  ·intro i h1 h2;by_cases e:d=i
   ·subst e;simp[kC,h2]
   ·rw[Array.getElem_setIfInBounds_ne (h:=e)]
 show Act.mk (tm.setIfInBounds d (tm.getD d undef)) df=Act.mk tm df;rw[e]
theorem aN.norm {d:Nat} (hd:d<F.N) (h:aN F S gb σ a w):aN F S gb (GT d σ) a w:=by
 have hs:d<a.tmps.size:=by rw[h.size];exact hd
 have:=h.put hd (v:= .undef) (u:=tv a d) (by simp[PR])
 have ha:=GU hs;rw[ha] at this;exact this.congrE (fun t=>by rw[yY];simp only[St.put,lk])
theorem n9 {sv sv':Nat->Value} {p:Pl} (h:p.isB=true):ct gb sv w p=ct gb sv' w p:=by
 cases p<;>simp[Pl.isB] at h<;>rfl
theorem HR.anySv {bx:List (Id×List AV)} {pm:List (Pl×Nat)} {sv sv':Nat->Value} (h:HR S gb bx pm sv w) (hb: ∀p k,aH pm p=some k->p.isB=true):HR S gb bx pm sv' w:=by
 refine ⟨h.agree,h.box,h.its,h.inj,fun p k hp=>?_,fun p q k l b hp hq h1 h2=>?_,fun p k b d z hp h1=>?_,h.pmb⟩
 ·rw[n9 (hb p k hp) (sv':=sv)];exact h.own p k hp
 ·rw[n9 (hb p k hp) (sv':=sv)] at h1;rw[n9 (hb q l hq) (sv':=sv)] at h2;exact h.ownd p q k l b hp hq h1 h2
 ·rw[n9 (hb p k hp) (sv':=sv)] at h1;exact h.ownb p k b d z hp h1
abbrev Mx (rd:List Nat) (a:Act):Nat->Value:=fun t=>(rd.map (tv a)).getD t undef
theorem C1 (h:aN F S gb σ a w): ∀rd:List Nat,aa S gb ((rd.map X.s).map σ.v) (rd.map (tv a))
 |[]=>by simp[aa]
 |t::r=>by
  simp only[fZ,aa];exact ⟨_,_,rfl,h.env t,C1 h r⟩
theorem GV {rd:List Nat} (i t:Nat) (h:(rd.map X.s)[i]?=some (X.s t)):(rd.map (tv a))[i]?=some (tv a t):=by
 simp only[xK,AB] at h ⊢;obtain ⟨x,h1,h2⟩:=h;cases h2;exact ⟨_,h1,rfl⟩
abbrev GW (F:Fr) (S:aR) (gb:Gb) (a:Act) (w:World) (rd:List Nat) (I:In):Fr:=⟨S,w,MS I gb (Mx rd a) w,gb,F.N,F.GL,[]⟩
theorem y6 (h:aN F S gb σ a w) {d:Nat} {rd:List Nat} {I:In} (hi:OA d σ rd I) {ps:List Nat} {x:List AV} {us:List Value} (hx:aa S fP x us) (hps:ps.Nodup) (hl:ps.length=x.length) (hN: ∀t∈ps,t<F.N):
  aN (GW F S gb a w rd I) S (eB gb) (Mw ps rd x I) {tmps:=(ps.zip us).foldl (fun t (q:Nat×Value)=>t.setIfInBounds q.1 q.2) a.tmps,defers:=[]} w:=by
 have hhr:=gc h hi.ok (C1 h rd) (GV (a:=a));have hup:=hhr.up;have hpmB: ∀p k,aH (aY Id.up I.pm) p=some k->p.isB=true:=by
  intro p k hp;obtain ⟨q,rfl,hq⟩:=eL cQ hp
  have:=hi.pm _ (eI _ _ _ hq)
  cases q<;>simp[Pl.isB,Pl.mp] at this ⊢
 refine ⟨rfl,?_,Bw.refl _ _,fun _ _ _ _=>rfl,aR.le.refl _,?_,hup.anySv hpmB,?_,?_,?_,fun d=>rfl,fun i us hi o u hu=>⟨h.le _ _ _ (h.glo i us hi o u hu).1,(h.glo i us hi o u hu).2⟩⟩
 ·show (Array.size _)=F.N;rw[uO];exact h.size
 ·have he:qD (rd.map fun t=>lk σ.e t) I.vs:=by
   have:=hi.ok.vs
   rwa [List.map_map] at this
  refine CZ (B:=my rd (aP Id.up I.vs)) (GS he h.env) hps (fun t ht=>by rw[h.size];exact hN t ht) (aa.mono (aR.le.refl S) (AY _) _ _ hx) hl
 ·intro i g z hi hq;obtain ⟨c1,hc1⟩:=jp.1 hi;obtain ⟨j,cs,rfl,hj,_⟩:=bL cQ hc1;exact .inr (.inl ⟨j,z,by rw[hj];rfl,hq⟩)
 ·intro p k g hp hg;have hB:=hpmB p k hp;obtain ⟨q,rfl,hq⟩:=eL cQ hp;rw[n9 hB (sv':=Mx rd a),kK] at hg;exact .inr (.inr ⟨q,k,hq,hg⟩)
 ·intro i hi;cases i<;>simp[eB,Id.isUp] at hi ⊢
theorem Bn (h:aN F S gb σ a w) {d:Nat} (hd:d<F.N) {rd:List Nat} {I:In} {O:bO} (hc:cO d σ (rd.map X.s) I O) {S':aR} {gb':Gb} {σ':St} {a':Act} {w':World} (hr0:aN (GW F S gb a w rd I) S' gb' σ' a' w') (hq: ∃τ,nY σ' τ/\j5 d [] O τ):
  ∃S'' gb'',S.le S''/\aN F S'' gb'' (yZ d σ rd I O) a w':=by
 obtain ⟨τ,hfz,hok⟩:=hq;obtain ⟨S',gb',hr⟩:=hr0.frzs hfz;have hv:gh τ []=some []:=rfl;obtain ⟨o1,o2,o3,o4⟩:=hr.out hok hv (us:=[]) (by simp[aa]) (by simp) rfl;have hp:dL d I O S gb (fun t=>(rd.map (tv a)).getD t undef) w S' (dc d gb' O.bx) (.tuple #[]) w':=by
  refine ⟨hr.bw,hr.ext,hr.le,?_,?_,o1,o2,o3,o4⟩
  ·intro i hi
   have:dc d gb' O.bx i=gb' (i.inn d):=eC (fun e=>by rw[hi] at e;cases e)
   rw[this,ae hi];exact hr.up i
  ·intro i hi hne;simp only[dc] at hne;split at hne
   ·exact absurd rfl hne
   ·rename_i hno;cases hs:(aD O.bx i).isSome with
    |true=>rfl
    |false=>exact absurd ⟨hi,hs⟩ hno
 have hu:=(h.call hd hc (C1 h rd) (GV (a:=a)) hp).unputR hd;exact ⟨S',_,hp.le,hu.congrE (fun t=>by
  rw[yY];simp only[St.put,bB,lk];split<;>rfl)⟩
end Go.Ai
namespace Go.Ai
open Go.RowKit
variable {P:Program} {F:Fr} {S:aR} {gb:Gb} {σ:St} {a:Act} {w:World}
def J4:AE->Option Code
 | .n=>none
 | .r=>some .ret
 | .x i=>some (.exit i)
def wg (d:Nat) (σ:St) (rd:List Nat) (I:In) (K:AE->St->Prop):AE->St->Prop:=fun e σ'=>
 ∃O,(∃τ,nY σ' τ/\j5 d [] O τ)/\cO d σ (rd.map X.s) I O/\(∀p∈σ'.bx,p.1.isIt=false)/\K e (yZ d σ rd I O)
def Ei (Sp:Nat->Nat->In->bO->Prop) (d:Nat) (ps rd:List Nat) (asg bd:AC) (x:List AV) (K:AE->St->Prop) (σ:St):Prop:=
 ∃I,OA d σ rd I/\dK Sp asg (fun e τ=>e= .n/\(∀p∈τ.bx,p.1.isIt=false)/\dK Sp bd (wg d σ rd I K) τ) (Mw ps rd x I)
theorem oa {bx:List (Id×List AV)} (h: ∀p∈bx,p.1.isIt=false):nZ bx:=fun d hd=>by
 obtain ⟨cs,hcs⟩:=jp.1 hd;exact h _ (cF _ _ _ hcs)
theorem GX (hit:nZ σ.bx) {d:Nat} {rd:List Nat} {I:In} {O:bO} {xs:List X} (hc:cO d σ xs I O):nZ (yZ d σ rd I O).bx:=by
 intro i hi;simp only[yZ,iF] at hi;split at hi
 ·rename_i c hc2;rcases hc.new _ (cF _ _ _ hc2) with h1|h1
  ·obtain ⟨cs,hcs⟩:=jp.1 h1;obtain ⟨cs',hcs',_⟩:=i5 (hc.bx _ (cF _ _ _ hcs));exact hit i (by rw[hcs'];rfl)
  ·exact h1.2
 ·rw[jW] at hi;split at hi
  ·cases hi
  ·exact hit i hi
theorem tW (W:World) (l:Nat) (o o':Obj):(W.putObj l o).grownBy (W.putObj l o') (some l):=
 ⟨rfl,rfl,rfl,by simp,fun k _ hk=>by rw[World.putObj_heap_other (fun e=>hk (by rw[e])),World.putObj_heap_other (fun e=>hk (by rw[e]))]⟩
theorem GY {n l:Nat} {dr:Array Oper->List (List Nat)->List bv->Bool} (hmix:P.follows .mixedOrders=true) (hda:jb P F.GL F.N dr) {asg bd:Code} {aasg abd:AC} (ok1:m8 asg=true) (ok2:m8 bd=true) (m1:mC P F.GL F.N dr asg aasg=true) (m2:mC P F.GL F.N dr bd abd=true)
  (h₀:aN F S gb σ a w) (hit:nZ σ.bx) {d:Nat} (hd:d<F.N) {rd ps:List Nat} {x:List AV} {us:List Value} (hx:aa S fP x us) (hps:ps.Nodup) (hl:ps.length=x.length) (hN: ∀t∈ps,t<F.N)
  {rec:Loop} (hst:rec.state= .ready) (hrec:w.heap[l]?=some (.loop rec)) (hlF:F.w0.heap.size<=l) (hpe:rec.pending=none) {K:AE->St->Prop} (hw:Ei (bC P F.GL) d ps rd aasg abd x K σ) {fn:FuncId} {R:Ending->World->Prop}
  (hK: ∀(e:AE) (S':aR) (gb':Gb) (σ':St) (W:World),S.le S'->aN F S' gb' σ' a W->nZ σ'.bx->K e σ'->W.heap[l]?=some (.loop {rec with state:=if (J4 e).isNone then .ready else .done,pending:=J4 e})->
   (∀(k:Nat) (o:Obj),k≠l->w.heap[k]?=some o->o.isCells=false->W.heap[k]?=some o)->w.heap.size<=W.heap.size->(∀g,MO gb' σ' a W g->w.heap.size<=g\/MO gb σ a w g)->
   (∀g o,g<w.heap.size-> ¬MO gb σ a w g->S' g o=S g o)->(∀g,g<w.heap.size-> ¬MO gb σ a w g->g≠l->W.heap[g]?=w.heap[g]?)->R (.returned (.bool (J4 e).isNone)) W):
  RoundIn Fence.wide n P l fn ((ps.zip us).foldl (fun t (q:Nat×Value)=>t.setIfInBounds q.1 q.2) a.tmps) asg bd w R:=by
 obtain ⟨I,hI,hw⟩:=hw;have h:=h₀.rebase a.defers;have ha:({a with defers:=a.defers}:Act)=a:=rfl;rw[ha] at h;have hlt:l<w.heap.size:=(qC.1 hrec).1;have hnc: ∃o:Obj,w.heap[l]?=some o/\o.isCells=false:=⟨_,hrec,rfl⟩;have hE:=y6 h hI hx hps hl hN;have hhr:=gc h hI.ok (C1 h rd) (GV (a:=a));have hms: ∀k o,w.heap[k]?=some o->o.isCells=false-> ¬MS I gb (Mx rd a) w k:=by
  rintro k o ho hc (⟨d',z,hd',he⟩|⟨p,q,hp,he⟩)
  ·exact hhr.box_ne hI.it ⟨o,ho,hc⟩ hd' he rfl
  ·exact Bm ⟨o,ho,hc⟩ (hhr.own p q hp) he rfl
 refine roundIn_of_wpIn trivial ?_;refine yX (l:=l) (n:=n) (F:=GW F S gb a w rd I) hmix hda ok1 m1 (Q:=fun e τ=>e= .n/\(∀p∈τ.bx,p.1.isIt=false)/\dK (bC P F.GL) abd (wg d σ rd I K) τ) (fun _ _ hf=>hf) ?_ hE hw;rintro e S2 gb2 σ2 a2 w2 hr2 ⟨rfl,hit2,hw2⟩;have hit2:=oa hit2;have hrec2:w2.heap[l]?=some (.loop rec):=(hr2.bw.block l hlt (hms l _ hrec rfl)).trans hrec;refine ⟨_,run_beginRound hrec2 hst,?_⟩;have hlt2:l<w2.heap.size:=(qC.1 hrec2).1;obtain ⟨F',hF'⟩: ∃F':Fr,F'={GW F S gb a w rd I with M:=fun g=>(GW F S gb a w rd I).M g\/g=l}:=⟨_,rfl⟩;have hr2':aN F' S2 gb2 σ2 a2 w2:=by rw[hF'];exact hr2.widen (fun g hg=> .inl hg)
 obtain ⟨w3,hw3⟩: ∃w3,w3=w2.putObj l (.loop {rec with state:= .busy}):=⟨_,rfl⟩;have hg3:w2.grownBy w3 (some l):=by rw[hw3];exact grownBy_putObj' w2 l _
 have hr3:aN F' S2 gb2 σ2 a2 w3:=hr2'.abide hit2 hg3 (fun r e=>by cases e;exact ⟨.inr (by rw[hF'];exact .inr rfl),_,hrec2,rfl⟩);have hb3:w3.heap[l]?=some (.loop {rec with state:= .busy}):=by rw[hw3];exact World.putObj_heap_same hlt2
 have hrb:=hr3.rebase [];have ha2:({a2 with defers:=[]}:Act)=a2:=by
  have:=hr2.defers
  obtain ⟨t,df⟩:=a2;simp only at this;subst this;rfl
 rw[ha2] at hrb;rw[<-hw3];have hGL:(F'.at S2 gb2 σ2 a2 w3 []).GL=F.GL:=by rw[hF'];rfl
 have hNN:(F'.at S2 gb2 σ2 a2 w3 []).N=F.N:=by rw[hF'];rfl
 refine yX (l:=l) (n:=n) (F:=F'.at S2 gb2 σ2 a2 w3 []) hmix (by rw[hGL,hNN];exact hda) ok2 (by rw[hGL,hNN];exact m2) (Q:=wg d σ rd I K) (fun _ _ hf=>hf) ?_ hrb (by rw[hGL];exact hw2);rintro e S4 gb4 σ4 a4 w4 hr4 ⟨O,hq,hc,hit4,hk⟩;have hit4:=oa hit4;have hb4:w4.heap[l]?=some (.loop {rec with state:= .busy}):=by
  refine (hr4.bw.block l (qC.1 hb3).1 ?_).trans hb3;exact MO.ne hr3.hr hit2 ⟨_,hb3,rfl⟩
 have hlt4:l<w4.heap.size:=(qC.1 hb4).1;have hr4':=hr3.unrebase hr4;have hdf:{F' with df:=([]:List Deferred)}=F':=by rw[hF']
 rw[hdf] at hr4';have hr5:aN F' S4 gb4 σ4 a4 (w4.putObj l (.loop rec)):=hr4'.abide hit4 (grownBy_putObj' w4 l _) (fun r e=>by cases e;exact ⟨.inr (by rw[hF'];exact .inr rfl),_,hb4,rfl⟩);have h5:(w4.putObj l (.loop rec)).heap[l]?=some (.loop rec):=World.putObj_heap_same hlt4;rw[hF'] at hr5;have hr6:=hr5.narrow hit4 (h5.trans hrec.symm) ⟨_,h5,rfl⟩ (fun o=>rS h₀.hr hnc o);obtain ⟨S7,gb7,hS7,hr7⟩:=Bn h hd hc hr6 hq;obtain ⟨τ,_,hok⟩:=hq;have hit7:=GX hit (rd:=rd) (I:=I) hc;have fin: ∀jump:Option Code,jump=J4 e-> ∃v w',(Instr.endRound l jump).run P w4= .ok v w'/\R (.returned v) w':=by
  rintro jump rfl;have hu:=h₀.unrebase hr7;have hdf':{F with df:=a.defers}=F:=by rw[h₀.defers]
  rw[hdf'] at hu;have hg7:=tW w4 l (.loop rec) (.loop {rec with state:=if (J4 e).isNone then .ready else .done,pending:=J4 e});have hab:=hu.abide hit7 hg7 (fun r e=>by cases e;exact ⟨.inl hlF,_,h5,rfl⟩);refine ⟨_,_,run_endRound _ hb4,hK e S7 gb7 _ _ hS7 hab hit7 hk (World.putObj_heap_same hlt4) (fun k o hkl ho hoc=>?_) ?_ (fun g hg=>?_) (fun g o hg hn=>hr7.ext g o hg hn) (fun g hg hn hgl=>?_)⟩
  ·rw[World.putObj_heap_other hkl];have hk5:(w4.putObj l (.loop rec)).heap[k]?=some o:=(hr6.bw.block k (qC.1 ho).1 (hms k o ho hoc)).trans ho;rwa [World.putObj_heap_other hkl] at hk5
  ·refine mu (show w.heap.size<=_ from hr7.bw.size) ?_;simp[World.putObj]
  ·have hg2:MO gb7 (yZ d σ rd I O) a (w4.putObj l (.loop rec)) g:=by
    rcases hg with hg|⟨p,k,hp,he⟩
    ·exact .inl hg
    ·refine .inr ⟨p,k,hp,?_⟩;rwa [pf hu.hr hit7 hg7 (fun r e=>by cases e;exact ⟨_,h5,rfl⟩) hp] at he
   exact MO.of hr7 hg2
  ·rw[World.putObj_heap_other hgl]
   have:=hr7.bw.block g hg hn
   rwa [World.putObj_heap_other hgl] at this
 cases e with
 |n=>exact fin none rfl
 |r=>exact fin (some .ret) rfl
 |x i=>exact fin (some (.exit i)) rfl
end Go.Ai
namespace Go.Ai
open Go.RowKit
variable {P:Program} {F:Fr} {S:aR} {gb:Gb} {σ:St} {a:Act} {w:World}
def ph (S:aR) (W:World):Prop:= ∀g o v,S g o=some v->W.cell? ⟨g,o,none⟩=some v
structure Mv (T T':Nat->Prop) (S S':aR) (W W':World):Prop where
 bw:Bw T W W'
 le:S.le S'
 agr:ph S' W'
 new: ∀g o,g<W.heap.size-> ¬T g->S' g o=S g o
 sub: ∀g,T' g->T g\/(W.heap.size<=g/\g<W'.heap.size)
 no: ∀g,T' g-> ∀o,S' g o=none
structure y7 (P:Program) (l:Nat) (xs:List (List AV)) (J:Nat->(Nat->Prop)->aR->World->Prop) (Jx:(Nat->Prop)->aR->World->Prop):Prop where
 move: ∀k T T' S S' W W',J k T S W->Mv T T' S S' W W'->J k T' S' W'
 moveX: ∀T T' S S' W W',Jx T S W->Mv T T' S S' W W'->Jx T' S' W'
 round: ∀k T S W x (u:Array Value),xs[k]?=some x->aa S fP x u.toList->J k T S W->YieldAt Fence.wide 0 P l u W fun e W'=>W.heap.size<=W'.heap.size/\W'.os=W.os/\W'.tape=W.tape/\W'.output=W.output/\(∀g,T g->W'.heap[g]?=W.heap[g]?)/\
  ∃S':aR,S.le S'/\ph S' W'/\(∀g,T g-> ∀o,S' g o=none)/\((e= .returned (.bool true)/\J (k+1) T S' W')\/(e= .returned (.bool false)/\Jx T S' W'))
def GZ (P:Program) (gf:Nat) (lb:Array Value) (xs:List (List AV)) (S:aR) (gb:Gb) (bxs:List (Id×List AV)):Prop:=
 ∀(l:Nat) (J:Nat->(Nat->Prop)->aR->World->Prop) (Jx:(Nat->Prop)->aR->World->Prop),y7 P l xs J Jx->
  ∀W,J 0 (fun _=>False) S W->HR S gb bxs [] (fun _=>undef) W->
   CallsIn Fence.wide 0 P gf (#[.func (.yield l) #[] #[]]++lb) W fun e W'=>(∃v,e= .returned v)/\((∃T S',J xs.length T S' W')\/ ∃T S',Jx T S' W')
def Bo (Sp:Nat->Nat->In->bO->Prop) (d:Nat) (ps rd:List Nat) (asg bd:AC):List (List AV)->(AE->St->Prop)->St->Prop
 |[],K,σ=>K .n σ
 |x::r,K,σ=>Ei Sp d ps rd asg bd x (fun e τ=>match e with | .n=>Bo Sp d ps rd asg bd r K τ|e=>K e τ) σ
structure RJ (F:Fr) (S0:aR) (a:Act) (n0:Nat) (Q:St->Prop) (rec:Loop) (l D:Nat) (T:Nat->Prop) (W:World) (S:aR) (gb:Gb) (σ:St):Prop where
 rel:aN F S gb σ a W
 le:S0.le S
 it:nZ σ.bx
 q:Q σ
 rc:W.heap[l]?=some (.loop rec)
 df:W.heap[D]?=some (.deferred (some []))
 t: ∀g,T g->n0<=g/\g<W.heap.size/\ ¬MO gb σ a W g/\(∀o,S g o=none)
theorem RJ.move {S0 S':aR} {n0:Nat} {Q:St->Prop} {rec:Loop} {l D:Nat} {T T':Nat->Prop} {W:World} (h:RJ F S0 a n0 Q rec l D T W S gb σ) (hF:F.w0.heap.size<=n0) (hl:l<n0) (hD:D<n0) (hn:n0<=W.heap.size) {W':World} (hm:Mv T T' S S' W W'):
  RJ F S0 a n0 Q rec l D T' W' S' gb σ:=by
 have hb:=hm.bw;have hT: ∀g,g<n0-> ¬T g:=fun g hg ht=>by have:=(h.t g ht).1;omega
 have hB: ∀d g z,(aD σ.bx d).isSome->gb d=some (g,z)->g<W.heap.size/\ ¬T g:=fun d g z hd hg=>
  ⟨HR.gblt h.rel.hr hd hg,fun ht=>(h.t g ht).2.2.1 (.inl ⟨d,z,hd,hg⟩)⟩
 have hO: ∀p k g,aH σ.pm p=some k->(ct gb (tv a) W p).ownBlock=some g->g<W.heap.size/\ ¬T g:=fun p k g hp hg=>
  ⟨(h.rel.hr.own p k hp).lt hg,fun ht=>(h.t g ht).2.2.1 (.inr ⟨p,k,hp,hg⟩)⟩
 have hpl: ∀p k,aH σ.pm p=some k->ct gb (tv a) W' p=ct gb (tv a) W p:=by
  intro p k hp;cases p with
  |s t=>rfl
  |t t i=>rfl
  |b d off=>
   obtain ⟨h1,h2⟩:=h.rel.hr.pmb d off k hp;simp only[ct];cases hg:gb d with
   |none=>rfl
   |some q=>
    obtain ⟨g,z⟩:=q;dsimp only;rw[World.cell?_of_block (a:=⟨g,off,none⟩) (hb.block g (hB d g z h1 hg).1 (hB d g z h1 hg).2)]
 have hr:HR S' gb σ.bx σ.pm (tv a) W':=by
  refine ⟨hm.agr,?_,?_,h.rel.hr.inj,?_,?_,?_,h.rel.hr.pmb⟩
  ·intro d cs hcs hi;obtain ⟨g,us,T',e1,e3,e0,e4,e5,e6⟩:=h.rel.hr.box d cs hcs hi;obtain ⟨q1,q2⟩:=hB d g _ (by rw[hcs];rfl) e1;exact ⟨g,us,T',e1,(hb.block g q1 q2).trans e3,e0,aa.mono hm.le (Gb.le.refl _) _ _ e4,e5,fun o=>(hm.new g o q1 q2).trans (e6 o)⟩
  ·intro d cs hcs hi
   have:=h.it d (by rw[hcs];rfl)
   rw[hi] at this;cases this
  ·intro p k hp;rw[hpl p k hp];exact (h.rel.hr.own p k hp).mono (fun g hg=>hb.block g (hO p k g hp hg).1 (hO p k g hp hg).2) (fun g o hg e=>(hm.new g o (hO p k g hp hg).1 (hO p k g hp hg).2).trans e)
  ·intro p q k l b hp hq h1 h2;rw[hpl p k hp] at h1;rw[hpl q l hq] at h2;exact h.rel.hr.ownd p q k l b hp hq h1 h2
  ·intro p k b d z hp h1;rw[hpl p k hp] at h1;exact h.rel.hr.ownb p k b d z hp h1
 have hmo: ∀g,MO gb σ a W' g->MO gb σ a W g:=by
  rintro g (hg|⟨p,k,hp,he⟩)
  ·exact .inl hg
  ·exact .inr ⟨p,k,hp,by rwa [hpl p k hp] at he⟩
 have hlt: ∀ {k:Nat},k<F.w0.heap.size->k<W.heap.size/\ ¬T k:=fun {k} hk=>⟨AD hk h.rel.bw.size,hT k (by omega)⟩
 refine ⟨⟨h.rel.defers,h.rel.size,⟨hb.os.trans h.rel.bw.os,hb.tape.trans h.rel.bw.tape,hb.output.trans h.rel.bw.output,mu h.rel.bw.size hb.size,fun k hk hnM=>?_⟩,fun g o hg hnM=>?_,aR.le.trans h.rel.le hm.le,fun t=>PR.mono hm.le (Gb.le.refl _) _ _ (h.rel.env t),hr,h.rel.newb,?_,h.rel.dom,h.rel.up,h.rel.glo⟩,aR.le.trans h.le hm.le,h.it,h.q,?_,?_,?_⟩
 ·exact (hb.block k (hlt hk).1 (hlt hk).2).trans (h.rel.bw.block k hk hnM)
 ·exact (hm.new g o (hlt hg).1 (hlt hg).2).trans (h.rel.ext g o hg hnM)
 ·intro p k g hp hg;rw[hpl p k hp] at hg;exact h.rel.newo p k g hp hg
 ·exact (hb.block l (by omega) (hT l hl)).trans h.rc
 ·exact (hb.block D (by omega) (hT D hD)).trans h.df
 ·intro g hg;rcases hm.sub g hg with ht|⟨h1,h2⟩
  ·obtain ⟨t1,t2,t3,t4⟩:=h.t g ht;exact ⟨t1,AD t2 hb.size,fun hm=>t3 (hmo g hm),hm.no g hg⟩
  ·refine ⟨by omega,h2,fun hq=>?_,hm.no g hg⟩;rcases hmo g hq with ⟨d,z,hd,hg⟩|⟨p,k,hp,hg⟩
   ·have:=HR.gblt h.rel.hr hd hg
    omega
   ·have:=(h.rel.hr.own p k hp).lt hg
    omega
theorem HR.boxes {bx:List (Id×List AV)} {pm:List (Pl×Nat)} {sv sv':Nat->Value} (h:HR S gb bx pm sv w) {bxs:List (Id×List AV)} (hbx: ∀d cs,aD bxs d=some cs->FN bx d cs):HR S gb bxs [] sv' w:=by
 obtain ⟨w1,w2,w3⟩:=h.weaker (bx':=bxs) hbx;exact ⟨h.agree,w1,w2,fun e e' g z z' i1 i2=>h.inj e e' g z z' (w3 e i1) (w3 e' i2),(fun p k hp=>by cases hp),(fun p q k l b hp=>by cases hp),(fun p k b d z hp=>by cases hp),(fun d off k hp=>by cases hp)⟩
theorem G1 (pa:Array Nat) (us:Array Value) (tm:Array Value):(pa.zip us).foldl (fun t (q:Nat×Value)=>t.setIfInBounds q.1 q.2) tm=(pa.toList.zip us.toList).foldl (fun t (q:Nat×Value)=>t.setIfInBounds q.1 q.2) tm:=by
 rw[<-Array.toList_zip,Array.foldl_toList]
theorem G3 {dr:Array Oper->List (List Nat)->List bv->Bool} (hmix:P.follows .mixedOrders=true) (hda:jb P F.GL F.N dr) {asg bd:Code} {aasg abd:AC} (ok1:m8 asg=true) (ok2:m8 bd=true) (m1:mC P F.GL F.N dr asg aasg=true) (m2:mC P F.GL F.N dr bd abd=true)
  (h:aN F S gb σ a w) (hit:nZ σ.bx) {d:Nat} (hd:d<F.N) {rd:List Nat} {pa:Array Nat} (hps:pa.toList.Nodup) (hN: ∀t∈pa.toList,t<F.N)
  {g:Operand} {gf:Nat} {lb:Array Value} (hg:a.eval g= .func (.func gf) #[] lb) (eg: ∀args w,(callFunc gf args).run P w= .ok (.enter gf args) w)
  {xs:List (List AV)} (hlen: ∀x∈xs,pa.toList.length=x.length) {bxs:List (Id×List AV)} (hbx: ∀d cs,aD bxs d=some cs->FN σ.bx d cs) (hI:GZ P gf lb xs S gb bxs)
  {K:AE->St->Prop} (hw:Bo (bC P F.GL) d pa.toList rd aasg abd xs K σ) {Q':Exit->Act->World->Prop}
  (hQ: ∀(e:AE) (D:Nat) (S':aR) (gb':Gb) (σ':St) (W:World),aN F S' gb' σ' a W->nZ σ'.bx->K e σ'->W.heap[D]?=some (.deferred (some []))->F.w0.heap.size<=D->Q' (yL e) {a with defers:={target:= .collected D,args:= #[]}::a.defers} W):
  (Code.rangeFunc g pa asg bd).wpIn Fence.wide 0 P Q' a w:=by
 refine wpIn_rangeFunc ?_;intro fn hfn;obtain ⟨rec,hrec⟩: ∃rec:Loop,rec={state:= .ready,pending:=none,fn,tmps:=a.tmps,params:=pa,assign:=asg,body:=bd,defers:=w.heap.size}:=⟨_,rfl⟩;obtain ⟨W1,hW1⟩: ∃W1,(w.alloc (.deferred (some []))).alloc (.loop rec)=W1:=⟨_,rfl⟩;obtain ⟨l,hl⟩: ∃l,l=w.heap.size+1:=⟨_,rfl⟩;obtain ⟨D,hD⟩: ∃D,D=w.heap.size:=⟨_,rfl⟩;obtain ⟨n0,hn0⟩: ∃n0,n0=w.heap.size+2:=⟨_,rfl⟩;have hsz1:W1.heap.size=n0:=by rw[<-hW1,hn0];simp[World.size_alloc]
 have hL1:W1.heap[l]?=some (.loop rec):=by
  rw[<-hW1,hl];have:=World.alloc_heap_new (w.alloc (.deferred (some []))) (.loop rec);rwa [World.size_alloc] at this
 have hK1:W1.heap[D]?=some (.deferred (some [])):=by
  rw[<-hW1,hD];exact (Below.heap_alloc _ _ _ (by simp)).trans (World.alloc_heap_new w _)
 have hR1:aN F S gb σ a W1:=by
  rw[<-hW1];exact (h.abide hit (World.grownBy_alloc w _ none) (fun r e=>by cases e)).abide hit (World.grownBy_alloc _ _ none) (fun r e=>by cases e)
 have hFn:F.w0.heap.size<=w.heap.size:=h.bw.size;refine ⟨l,[{target:= .collected D,args:= #[]}],W1,{target:= .fn (.func gf) lb,args:= #[.func (.yield l) #[] #[]]},W1,gf,#[.func (.yield l) #[] #[]]++lb,W1,?_,?_,fun _ _=>trivial,?_,(fun h=>by cases h),?_⟩
 ·rw[<-hW1,hrec,hl,hD];exact run_enterLoop_outer _ _ _ _ _
 ·simp only[resolve,hg];simp[go_sem]
 ·simp[invoke,go_sem,eg]
 refine (hI l (fun k T S' W=>n0<=W.heap.size/\ ∃gb' σ',RJ F S a n0 (fun τ=>Bo (bC P F.GL) d pa.toList rd aasg abd (xs.drop k) K τ) rec l D T W S' gb' σ')
  (fun T S' W=>n0<=W.heap.size/\ ∃e gb' σ',e≠ .n/\RJ F S a n0 (K e) {rec with state:= .done,pending:=J4 e} l D T W S' gb' σ') ⟨?_,?_,?_⟩ W1 ⟨by omega,gb,σ,hR1,aR.le.refl _,hit,hw,hL1,hK1,fun g hg=>hg.elim⟩ (HR.boxes hR1.hr hbx)).mono ?_
 ·rintro k T T' S1 S2 W W' ⟨hn,gb',σ',rj⟩ hb;exact ⟨mu hn hb.bw.size,gb',σ',rj.move (by omega) (by omega) (by omega) hn hb⟩
 ·rintro T T' S1 S2 W W' ⟨hn,e,gb',σ',he,rj⟩ hb;exact ⟨mu hn hb.bw.size,e,gb',σ',he,rj.move (by omega) (by omega) (by omega) hn hb⟩
 ·rintro k T S' W x u hx hxu ⟨hn,gb',σ',rj⟩;obtain ⟨hk,hxe⟩:=qZ.1 hx;have hxm:x∈xs:=List.mem_of_getElem? hx;have hxl:=hlen x hxm;have hq:=rj.q;rw[xI hk,hxe] at hq;simp only[Bo] at hq;have husz:u.size=rec.params.size:=by
   have:=hxu.length
   have hpp:rec.params=pa:=by rw[hrec]
   rw[hpp];simp only[qq] at this hxl;omega
  refine ⟨_,_,_,_,run_yield rj.rc husz,?_⟩;have hfold:((rec.params.zip u).foldl (fun (tmps:Array Value) (q:Nat×Value)=>tmps.setIfInBounds q.1 q.2) rec.tmps)=(pa.toList.zip u.toList).foldl (fun t (q:Nat×Value)=>t.setIfInBounds q.1 q.2) a.tmps:=by
   rw[hrec];exact G1 pa u a.tmps
  have hA:rec.assign=asg:=by rw[hrec]
  have hB:rec.body=bd:=by rw[hrec]
  have:=GY (n:=0) (l:=l) (fn:=rec.fn) hmix hda ok1 ok2 m1 m2 rj.rel rj.it hd (rd:=rd) hxu hps hxl hN (rec:=rec) (by rw[hrec]) rj.rc (by omega) (by rw[hrec]) hq
   (R:=fun e W'=>W.heap.size<=W'.heap.size/\W'.os=W.os/\W'.tape=W.tape/\W'.output=W.output/\(∀g,T g->W'.heap[g]?=W.heap[g]?)/\
    ∃S2:aR,S'.le S2/\ph S2 W'/\(∀g,T g-> ∀o,S2 g o=none)/\
    ((e= .returned (.bool true)/\(n0<=W'.heap.size/\ ∃gb' σ',RJ F S a n0 (fun τ=>Bo (bC P F.GL) d pa.toList rd aasg abd (xs.drop (k+1)) K τ) rec l D T W' S2 gb' σ'))\/
     (e= .returned (.bool false)/\(n0<=W'.heap.size/\ ∃e gb' σ',e≠ .n/\RJ F S a n0 (K e) {rec with state:= .done,pending:=J4 e} l D T W' S2 gb' σ')))) ?_
  ·rw[<-hfold,<-hA,<-hB] at this;exact this
  intro e S2 gb2 σ2 W2 hle hrel hit2 hk2 hrc2 hoth hsz hmo hext hblk;have ht2: ∀g,T g->n0<=g/\g<W2.heap.size/\ ¬MO gb2 σ2 a W2 g/\(∀o,S2 g o=none):=by
   intro g hg;obtain ⟨t1,t2,t3,t4⟩:=rj.t g hg;refine ⟨t1,by omega,fun hm=>?_,fun o=>(hext g o t2 t3).trans (t4 o)⟩;rcases hmo g hm with h1|h1
   ·omega
   ·exact t3 h1
  have hdf2:W2.heap[D]?=some (.deferred (some [])):=hoth D _ (by omega) rj.df rfl;refine ⟨hsz,hrel.bw.os.trans rj.rel.bw.os.symm,hrel.bw.tape.trans rj.rel.bw.tape.symm,hrel.bw.output.trans rj.rel.bw.output.symm,fun g hg=>?_,S2,hle,hrel.hr.agree,fun g hg=>(ht2 g hg).2.2.2,?_⟩
  ·obtain ⟨t1,t2,t3,t4⟩:=rj.t g hg;exact hblk g t2 t3 (by omega)
  ·have hle2:=aR.le.trans rj.le hle;cases e with
   |n=>
    have hrr:({rec with state:= .ready,pending:=none}:Loop)=rec:=by rw[hrec]
    simp only[J4,Option.isNone_none,if_true] at hrc2;rw[hrr] at hrc2;exact .inl ⟨rfl,by omega,gb2,σ2,hrel,hle2,hit2,hk2,hrc2,hdf2,ht2⟩
   |r=>exact .inr ⟨rfl,by omega,.r,gb2,σ2,by simp,hrel,hle2,hit2,hk2,hrc2,hdf2,ht2⟩
   |x i=>exact .inr ⟨rfl,by omega,.x i,gb2,σ2,by simp,hrel,hle2,hit2,hk2,hrc2,hdf2,ht2⟩
 ·rintro e W2 ⟨⟨v,rfl⟩,(⟨T,S',hn,gb',σ',rj⟩|⟨T,S',hn,e,gb',σ',he,rj⟩)⟩
  ·have hend:=run_endLoop (P:=P) rj.rc (by rw[hrec];simp);have hpn:rec.pending=none:=by rw[hrec]
   rw[hpn] at hend;refine ⟨none,_,hend,?_⟩;have hq:=rj.q;rw[N6] at hq;exact hQ .n D S' gb' σ' _ (rj.rel.abide rj.it (grownBy_putObj' W2 l _) (fun r e=>by cases e;exact ⟨.inl (by omega),_,rj.rc,rfl⟩)) rj.it hq ((World.putObj_heap_other (by omega)).trans rj.df) (by omega)
  ·have hend:=run_endLoop (P:=P) rj.rc (by simp);have fin: ∀o,Q' (yL e) {a with defers:={target:= .collected D,args:= #[]}::a.defers} (W2.putObj l (.loop o)):=fun o=>
    hQ e D S' gb' σ' _ (rj.rel.abide rj.it (grownBy_putObj' W2 l _) (fun r e=>by cases e;exact ⟨.inl (by omega),_,rj.rc,rfl⟩)) rj.it rj.q ((World.putObj_heap_other (by omega)).trans rj.df) (by omega)
   cases e with
   |n=>exact absurd rfl he
   |r=>exact ⟨some .ret,_,hend,wpIn_ret (fin _)⟩
   |x i=>exact ⟨some (.exit i),_,hend,wpIn_exit (fin _)⟩
end Go.Ai
namespace Go.Ai
open Go.RowKit
variable {P:Program} {F:Fr} {S:aR} {gb:Gb} {σ:St} {a:Act} {w:World}
inductive J5 where
 |c (a:AC)
 |rf (d:Nat) (g:X) (ps rd:List Nat) (asg bd:AC)
 |sq (x y:J5)
 |bl (i:Nat) (x:J5)
def uP (P:Program) (GL:List (Nat×List Value)) (gf:Nat) (caps:List AV) (bxs:List (Id×List AV)) (xs:List (List AV)):Prop:=
 (∀args w,(callFunc gf args).run P w= .ok (.enter gf args) w)/\
 ∀(S:aR) (gb:Gb) (us:List Value),aa S gb caps us->(∀i us,GL.lookup i=some us-> ∀(o:Nat) (u:Value),us[o]?=some u->S i o=some u/\u.oneCell'=true)->GZ P gf us.toArray xs S gb bxs
def C3 (Sp:Nat->Nat->In->bO->Prop) (It:Nat->List AV->List (Id×List AV)->List (List AV)->Prop):J5->(AE->St->Prop)->St->Prop
 | .c a,Q,σ=>dK Sp a Q σ
 | .rf d g ps rd asg bd,Q,σ=>(∀p∈σ.bx,p.1.isIt=false)/\ ∃gf caps bxs xs,(σ.v g= .fn gf caps/\Nat.blt gf BM=true)/\(∀d cs,aD bxs d=some cs->FN σ.bx d cs)/\It gf caps bxs xs/\(∀x∈xs,ps.length=x.length)/\Bo Sp d ps rd asg bd xs Q (GT d σ)
 | .sq x y,Q,σ=>C3 Sp It x (AE.sq (C3 Sp It y Q) Q) σ
 | .bl i x,Q,σ=>C3 Sp It x (AE.bl i Q) σ
def LG (P:Program) (GL:List (Nat×List Value)) (N:Nat) (dr:Array Oper->List (List Nat)->List bv->Bool):Code->J5->Bool
 |c,.c a=>mC P GL N dr c a
 | .seq x y,.sq x' y'=>LG P GL N dr x x'&&LG P GL N dr y y'
 | .block i x,.bl j x'=>i==j&&LG P GL N dr x x'
 | .rangeFunc g pa asg bd,.rf d g' ps rd aasg abd=>mX GL g' g&&pa.toList==ps&&decide ps.Nodup&&ps.all (fun t=>Nat.blt t N)&&Nat.blt d N&&m8 asg&&m8 bd&&mC P GL N dr asg aasg&&mC P GL N dr bd abd
 |_,_=>false
structure Sv (F F2:Fr):Prop where
 N:F2.N=F.N
 GL:F2.GL=F.GL
 w0:F.w0.heap.size<=F2.w0.heap.size
 back: ∀df {S gb σ a w},aN {F2 with df:=df} S gb σ a w->aN {F with df:=df} S gb σ a w
 marks: ∀m∈F2.df,∃D,m=⟨.collected D,#[]⟩/\F.w0.heap.size<=D/\D<F2.w0.heap.size/\F2.w0.heap[D]?=some (.deferred (some []))/\ ¬F2.M D
 nodup:F2.df.Nodup
theorem My {dr:Array Oper->List (List Nat)->List bv->Bool} (hmix:P.follows .mixedOrders=true) (hda:jb P F.GL F.N dr) (hdo:b7 P F.GL F.N dr): ∀ {ac:J5} {c:Code},LG P F.GL F.N dr c ac=true-> ∀ {Q:AE->St->Prop} {Q':Exit->Act->World->Prop},
  (∀e F2 S gb σ a w,Sv F F2->aN F2 S gb σ a w->Q e σ->Q' (yL e) a w)-> ∀ {F2:Fr} {S:aR} {gb:Gb} {σ:St} {a:Act} {w:World},Sv F F2->aN F2 S gb σ a w->C3 (bC P F.GL) (uP P F.GL) ac Q σ->c.wpIn Fence.wide 0 P Q' a w:=by
 intro ac;induction ac with
 |c ac=>
  intro c hm Q Q' hQ F2 S gb σ a w hE h hw;have hm:mC P F.GL F.N dr c ac=true:=by cases c<;>exact hm
  refine wpIn_wide.2 (eA (F:=F2) (dr:=dr) (by rw[hE.GL,hE.N];exact hdo) (by rw[hE.GL,hE.N];exact hm) (Q:=Q) (fun e S gb σ a w hr hq=>hQ e F2 S gb σ a w hE hr hq) h (by rw[hE.GL];exact hw))
 |rf d g ps rd aasg abd=>
  intro c hm Q Q' hQ F2 S gb σ a w hE h hw;cases c<;>simp only[LG,aJ,tK,cI,qu,ik] at hm;rename_i g' pa asg bd;obtain ⟨⟨⟨⟨⟨⟨⟨⟨h1,h2⟩,h3⟩,h4⟩,h5⟩,h6⟩,h7⟩,h8⟩,h9⟩:=hm;subst h2;obtain ⟨hit,gf,caps,bxs,xs,⟨hv,hgf⟩,hbx,⟨eg,hIt⟩,hlen,hw⟩:=hw;have hit:=oa hit;have hpr:=az h (y:=g') (by rw[hE.GL];exact h1);rw[hv] at hpr;simp only[PR] at hpr;obtain ⟨us,hev,hus⟩:=hpr;rw[Jp,if_neg (by have:=Nat.blt_eq▸hgf;omega)] at hev;have hI:=hIt S gb us.toList hus (fun i us hi o u hu=>by
   have:=h.glo i us (by rw[hE.GL];exact hi) o u hu
   exact ⟨h.le _ _ _ this.1,this.2⟩)
  refine G3 (F:=F2) (dr:=dr) hmix (by rw[hE.GL,hE.N];exact hda) h6 h7 (by rw[hE.GL,hE.N];exact h8) (by rw[hE.GL,hE.N];exact h9) (h.norm (d:=d) (by rw[hE.N];exact (Nat.blt_eq▸h5))) hit (by rw[hE.N];exact (Nat.blt_eq▸h5)) (rd:=rd) h3 (fun t ht=>by rw[hE.N];exact (Nat.blt_eq▸h4 t ht)) hev eg hlen (bxs:=bxs) hbx (by simpa using hI) (K:=Q) (by rw[hE.GL];exact hw) ?_;intro e D S' gb' σ' W hrel hit' hq hD hDF;have hDn: ∃o:Obj,W.heap[D]?=some o/\o.isCells=false:=⟨_,hD,rfl⟩;refine hQ e (F2.at S' gb' σ' a W ({target:= .collected D,args:= #[]}::a.defers)) S' gb' σ' _ W ⟨hE.N,hE.GL,mu hE.w0 hrel.bw.size,fun df {S gb σ a w} hr=>hE.back df (hrel.unrebase (df:=df) hr),?_,?_⟩ (hrel.rebase _) hq
  ·intro m hm;have hm:m∈({target:= .collected D,args:= #[]}:Deferred)::a.defers:=hm;rcases nH.1 hm with rfl|hm
   ·exact ⟨D,rfl,mu hE.w0 hDF,(qC.1 hD).1,hD,MO.ne hrel.hr hit' hDn⟩
   ·rw[h.defers] at hm;obtain ⟨D',rfl,q1,q2,q3,q4⟩:=hE.marks m hm;have q5:W.heap[D']?=some (.deferred (some [])):=(hrel.bw.block D' q2 q4).trans q3;exact ⟨D',rfl,q1,AD q2 hrel.bw.size,q5,MO.ne hrel.hr hit' ⟨_,q5,rfl⟩⟩
  ·show (({target:= .collected D,args:= #[]}:Deferred)::a.defers).Nodup;rw[h.defers,Np];refine ⟨fun hm=>?_,hE.nodup⟩;obtain ⟨D',e1,q1,q2,q3,q4⟩:=hE.marks _ hm
   have:D=D':=by cases e1;rfl
   omega
 |sq x y ihx ihy=>
  intro c hm Q Q' hQ F2 S gb σ a w hE h hw;cases c<;>simp only[LG,aJ,tK] at hm;rename_i cx cy;refine wpIn_seq (ihx hm.1 (Q:=AE.sq (C3 (bC P F.GL) (uP P F.GL) y Q) Q) (Q':=Exit.then (cy.wpIn Fence.wide 0 P Q') Q') ?_ hE h hw);intro e F3 S gb σ a w hE3 h' hq;cases e
  ·exact ihy hm.2 hQ hE3 h' hq
  ·exact hQ (.x _) _ _ _ _ _ _ hE3 h' hq
  ·exact hQ .r _ _ _ _ _ _ hE3 h' hq
 |bl i x ih=>
  intro c hm Q Q' hQ F2 S gb σ a w hE h hw;cases c<;>simp only[LG,aJ,tK,cI] at hm;obtain ⟨rfl,hx⟩:=hm;rename_i i cx;refine wpIn_block (ih hx (Q:=AE.bl i Q) (Q':=Exit.inBlock i Q') ?_ hE h hw);intro e F3 S gb σ a w hE3 h' hq;cases e
  ·exact hQ .n _ _ _ _ _ _ hE3 h' hq
  ·rename_i j;simp only[yL,Exit.inBlock];simp only[AE.bl] at hq;split at hq
   ·rename_i e;rw[if_pos e];exact hQ .n _ _ _ _ _ _ hE3 h' hq
   ·rename_i e;rw[if_neg e];exact hQ (.x _) _ _ _ _ _ _ hE3 h' hq
  ·exact hQ .r _ _ _ _ _ _ hE3 h' hq
theorem C4 {fn:Func} {tmps:Array Value} {R:Ending->World->Prop} {df:List Deferred} (hit:nZ σ.bx) (fin: ∀w,aN {F with df:=df} S gb σ a w-> ∃v,(results fn tmps).run P w= .ok v w/\R (.returned v) w):
  ∀(ds:List Deferred) (w:World),aN {F with df:=df} S gb σ a w->(∀m∈ds,∃D,m=⟨.collected D,#[]⟩/\F.w0.heap.size<=D/\w.heap[D]?=some (.deferred (some [])))->ds.Nodup->LeavesInM Fence.wide 0 P fn tmps R ds .returning w
 |[],w,h,_,_=>fin w h
 |m::ds,w,h,hm,hn=>by
  obtain ⟨D,rfl,h1,h2⟩:=hm m (by simp);rw[Np] at hn;refine ⟨by simp,.inl ⟨D,_,rfl,run_takeDeferred h2,C4 hit fin ds _ (h.abide hit (grownBy_putObj' w D _) (fun r e=>by cases e;exact ⟨.inl h1,_,h2,rfl⟩)) (fun m' hm'=>?_) hn.2⟩⟩;obtain ⟨D',rfl,q1,q2⟩:=hm m' (by simp[hm']);refine ⟨D',rfl,q1,?_⟩;rw[World.putObj_heap_other (fun e=>hn.1 (by rw[e] at hm';exact hm'))];exact q2
structure PY where
 c:J5
 rs:List AR
 np:Nat
 N:Nat
def PZ (P:Program) (GL:List (Nat×List Value)) (dr:Array Oper->List (List Nat)->List bv->Bool) (fn:Func) (f:PY):Bool:=
 fn.name != "runtime.NumGoroutine"&&fn.params.size+fn.nfree==f.np&&fn.ntmps==f.N&&Nat.ble f.np f.N&&AI P f.rs fn.results.toList&&(match fn.body with |some c=>LG P GL f.N dr c f.c|none=>false)
theorem y8 {GL:List (Nat×List Value)} {dr:Array Oper->List (List Nat)->List bv->Bool} (hmix:P.follows .mixedOrders=true) {f:Nat} {fn:Func} {af:PY} (hf:P.funcs[f]?=some fn) (hm:PZ P GL dr fn af=true) (hda:jb P GL af.N dr) (hd:b7 P GL af.N dr) {d:Nat} {I:In} {O:bO} (hl:I.vs.length=af.np)
  (hw:C3 (bC P GL) (uP P GL) af.c (fun e σ=>(∀p∈σ.bx,p.1.isIt=false)/\bH d af.rs O e σ) (ar I)):bC P GL f d I O:=by
 simp only[PZ,aJ,bne_iff_ne,cI] at hm;obtain ⟨⟨⟨⟨⟨h1,h2⟩,h3⟩,h4⟩,h5⟩,h6⟩:=hm;split at h6<;>(try cases h6);rename_i c hb;have h4:=Nat.le_of_ble_eq_true h4;intro S gb w vs hvs hhr hglo hnw;have hlen:vs.length=I.vs.length:=hvs.length.symm;unfold lH;have hcall:(callFunc f vs.toArray).run P w= .ok (.enter f vs.toArray) w:=by
  simp[callFunc,hf,hb,h1]
 rw[hcall];refine callsIn_wide.1 (callsIn_of_wp_marks (n:=0) hf hb trivial ?_)
 let F:Fr:=⟨S,w,MS I gb (fun t=>vs.getD t undef) w,gb,af.N,GL,[]⟩
 have hsv:tv {tmps:=vs.toArray++Array.replicate (fn.ntmps - vs.toArray.size) undef,defers:=[]}=fun t=>vs.getD t undef:=by
  funext t;exact dP
 have hup:=hhr.up;have hrel:aN F S (eB gb) (ar I) {tmps:=vs.toArray++Array.replicate (fn.ntmps - vs.toArray.size) undef,defers:=[]} w:=by
  refine ⟨rfl,?_,Bw.refl _ _,fun _ _ _ _=>rfl,aR.le.refl _,?_,by rw[hsv];exact hup,?_,?_,?_,fun d=>rfl,hglo⟩
  ·show (vs.toArray++Array.replicate (fn.ntmps - vs.toArray.size) undef).size=af.N;simp;omega
  ·intro t
   have:=(fU (dE _ _ hvs) 0 t).2 t (by omega)
   rw[dP];exact this
  ·intro i g z hi hq;obtain ⟨c1,hc1⟩:=jp.1 hi;obtain ⟨j,cs,rfl,hj,_⟩:=bL cQ hc1;exact .inr (.inl ⟨j,z,by rw[hj];rfl,hq⟩)
  ·intro p k g hp hg;obtain ⟨q,rfl,hq⟩:=eL cQ hp;rw[hsv,kK] at hg;exact .inr (.inr ⟨q,k,hq,hg⟩)
  ·intro i hi;cases i<;>simp[eB,Id.isUp] at hi ⊢
 have hE0:Sv F F:=⟨rfl,rfl,eR _,fun df {_ _ _ _ _} h=>h,(fun m hm=>by cases hm),List.nodup_nil⟩;refine My (F:=F) hmix hda hd h6 (Q:=fun e σ=>(∀p∈σ.bx,p.1.isIt=false)/\bH d af.rs O e σ) ?_ hE0 hrel hw;rintro e F2 S0' gb0' σ0 a' w' hE hr0 ⟨hit0,hq0⟩;have hit0:=oa hit0;have fin:(∃τ,nY σ0 τ/\j5 d af.rs O τ)->LeavesInM Fence.wide 0 P fn a'.tmps (fun e w'=> ∃u,e=Ending.returned u/\ ∃S'' gb'',dL d I O S gb (fun t=>vs.getD t undef) w S'' gb'' u w') a'.defers .returning w':=by
  rintro ⟨τ,hfz,hok⟩;have hb:aN {F with df:=F2.df} S0' gb0' σ0 a' w':=hE.back F2.df hr0;refine C4 (F:=F) (df:=F2.df) hit0 ?_ a'.defers w' hb ?_ (by rw[hr0.defers];exact hE.nodup)
  ·intro w' hb;obtain ⟨S',gb',hr⟩:=hb.frzs hfz;have hr':=hok.r;split at hr'
   ·rename_i vs' hv;obtain ⟨us,hrun,g2,g3⟩:=kJ (P:=P) hr h5 hv;obtain ⟨o1,o2,o3,o4⟩:=hr.out hok hv g2 g3 (by rw[<-g2.length];exact (fA (qs:=[]) hv).symm);refine ⟨_,hrun,_,rfl,S',dc d gb' O.bx,hr.bw,hr.ext,hr.le,?_,?_,o1,o2,o3,o4⟩
    ·intro i hi
     have:dc d gb' O.bx i=gb' (i.inn d):=eC (fun e=>by rw[hi] at e;cases e)
     rw[this,ae hi];exact hr.up i
    ·intro i hi hne;simp only[dc] at hne;split at hne
     ·exact absurd rfl hne
     ·rename_i hno;cases hs:(aD O.bx i).isSome with
      |true=>rfl
      |false=>exact absurd ⟨hi,hs⟩ hno
   ·cases hr'
  ·intro m hm;rw[hr0.defers] at hm;obtain ⟨D,rfl,q1,q2,q3,q4⟩:=hE.marks m hm;exact ⟨D,rfl,q1,(hr0.bw.block D q2 q4).trans q3⟩
 cases e
 ·exact fin hq0
 ·exact hq0.elim
 ·exact fin hq0
@[irreducible] def Mz (P:Program) (GL:List (Nat×List Value)) (gf:Nat) (caps:List AV) (bxs:List (Id×List AV)) (xs:List (List AV)):Prop:=uP P GL gf caps bxs xs
theorem G4 (P:Program) (GL:List (Nat×List Value)):Mz P GL=uP P GL:=by funext f d I xs;unfold Mz;rfl
def wj (d:Nat) (rs:List AR) (O:bO):AE->St->Prop:=fun e σ=>(∀p∈σ.bx,p.1.isIt=false)/\bH d rs O e σ
theorem G5 {P:Program} {GL:List (Nat×List Value)} {dr:Array Oper->List (List Nat)->List bv->Bool} (hmix:P.follows .mixedOrders=true) {f:Nat} {fn:Func} {af:PY} (hf:P.funcs[f]?=some fn) (hm:PZ P GL dr fn af=true) (hda:jb P GL af.N dr) (hd:b7 P GL af.N dr) {d:Nat} {I:In} {O:bO} (hl:I.vs.length=af.np)
  (hw:C3 (ba P GL) (Mz P GL) af.c (wj d af.rs O) (ar I)):ba P GL f d I O:=by
 rw[fy,G4] at hw;rw[fy];exact y8 hmix hf hm hda hd hl hw
section
variable {Sp:Nat->Nat->In->bO->Prop} {It:Nat->List AV->List (Id×List AV)->List (List AV)->Prop} {Q:AE->St->Prop} {σ:St}
theorem C5 {a:AC}:C3 Sp It (.c a) Q σ=dK Sp a Q σ:=rfl
theorem Bp {x y:J5}:C3 Sp It (.sq x y) Q σ=C3 Sp It x (AE.sq (C3 Sp It y Q) Q) σ:=rfl
theorem Bq {i:Nat} {x:J5}:C3 Sp It (.bl i x) Q σ=C3 Sp It x (AE.bl i Q) σ:=rfl
theorem Ej {d:Nat} {ps rd:List Nat} {asg bd:AC} {x:List AV} {K K':AE->St->Prop} {τ:St} (hk: ∀e τ',K e τ'->K' e τ') (h:Ei Sp d ps rd asg bd x K τ):Ei Sp d ps rd asg bd x K' τ:=by
 obtain ⟨I,hI,hw⟩:=h;refine ⟨I,hI,rN (fun e σ h=>⟨h.1,h.2.1,rN (fun e σ h=>?_) h.2.2⟩) hw⟩;obtain ⟨O,h1,h2,h3,h4⟩:=h;exact ⟨O,h1,h2,h3,hk _ _ h4⟩
theorem y9 {d:Nat} {ps rd:List Nat} {asg bd:AC} (J:Nat->St->Prop): ∀(xs:List (List AV)) (k:Nat) (σ:St),J k σ->
  (∀(j:Nat) (x:List AV) (τ:St),xs[j]?=some x->J (k+j) τ->Ei Sp d ps rd asg bd x (fun e τ'=>match e with | .n=>J (k+j+1) τ'|e=>Q e τ') τ)->(∀τ,J (k+xs.length) τ->Q .n τ)->Bo Sp d ps rd asg bd xs Q σ
 |[],k,σ,h,_,he=>he σ h
 |x::r,k,σ,h,hs,he=>by
  refine Ej ?_ (hs 0 x σ rfl h);intro e τ' hk;cases e with
  |n=>
   refine y9 J r (k+1) τ' hk (fun j y τ hj hJ=>?_) (fun τ hJ=>he τ ?_)
   ·have:=hs (j+1) y τ hj (by rw[show k+(j+1)=k+1+j from by omega];exact hJ)
    rwa [show k+(j+1)+1=k+1+j+1 from by omega] at this
   ·rw[e7,show k+(r.length+1)=k+1+r.length from by omega];exact hJ
  |r=>exact hk
  |x i=>exact hk
end
end Go.Ai
namespace Go.Ai
open Go.RowKit
variable {P:Program} {F:Fr} {S:aR} {gb:Gb} {σ:St} {a:Act} {w:World}
def rT (S:aR) (G:(Nat->Prop)->aR->World->Prop) (Gx:(Nat->Prop)->aR->World->Prop) (T:Nat->Prop) (W:World):Ending->World->Prop:=fun e W'=>
 W.heap.size<=W'.heap.size/\W'.os=W.os/\W'.tape=W.tape/\W'.output=W.output/\(∀g,T g->W'.heap[g]?=W.heap[g]?)/\
 ∃S':aR,S.le S'/\ph S' W'/\(∀g,T g-> ∀o,S' g o=none)/\((e= .returned (.bool true)/\G T S' W')\/(e= .returned (.bool false)/\Gx T S' W'))
def Sw (GL:List (Nat×List Value)) (S:aR):Prop:= ∀i us,GL.lookup i=some us-> ∀(o:Nat) (u:Value),us[o]?=some u->S i o=some u/\u.oneCell'=true
def j6 (P:Program) (GL:List (Nat×List Value)) (f:Nat) (args:List AV) (us:List (List AV)):Prop:=
 (∀args w,(callFunc f args).run P w= .ok (.enter f args) w)/\
 ∀(S:aR) (vs:List Value) (l:Nat) (xs:List (List AV)) (J:Nat->(Nat->Prop)->aR->World->Prop) (Jx:(Nat->Prop)->aR->World->Prop),y7 P l xs J Jx->aa S fP args vs->Sw GL S->
  ∀(k:Nat),(∀j,j<us.length->xs[k+j]?=us[j]?)-> ∀(T:Nat->Prop) (W:World),(∀g,T g->g<W.heap.size/\ ∀o,S g o=none)->J k T S W->ph S W->
   CallsIn Fence.wide 0 P f (vs++[Value.func (.yield l) #[] #[]]).toArray W (rT S (J (k+us.length)) Jx T W)
structure YI (T0:Nat->Prop) (Win:World) (Sin:aR) (G:(Nat->Prop)->aR->World->Prop) (F:Fr) (S:aR) (gb:Gb) (σ:St) (a:Act) (W:World):Prop where
 rel:aN F S gb σ a W
 g:G (fun x=>T0 x\/F.M x) F.S0 F.w0
 t0: ∀x,T0 x->x<F.w0.heap.size/\ ¬F.M x/\ ∀o,F.S0 x o=none
 m: ∀x,F.M x->x<F.w0.heap.size/\ ∀o,F.S0 x o=none
 le:Sin.le F.S0
 size:Win.heap.size<=F.w0.heap.size
 os:F.w0.os=Win.os
 tape:F.w0.tape=Win.tape
 output:F.w0.output=Win.output
 old: ∀x,T0 x->F.w0.heap[x]?=Win.heap[x]?
theorem MO.lt (h:aN F S gb σ a w) {g:Nat} (hg:MO gb σ a w g):g<w.heap.size:=by
 rcases hg with ⟨d,z,hd,he⟩|⟨p,k,hp,he⟩
 ·exact HR.gblt h.hr hd he
 ·exact (h.hr.own p k hp).lt he
theorem MO.none (h:aN F S gb σ a w) (hp:σ.pm=[]) {g:Nat} (hg:MO gb σ a w g) (o:Nat):S g o=none:=by
 rcases hg with ⟨d,z,hd,he⟩|⟨p,k,hp',he⟩
 ·obtain ⟨cs,hcs⟩:=jp.1 hd;cases hi:d.isIt with
  |false=>
   obtain ⟨g',us,T,e1,_,_,_,_,e6⟩:=h.hr.box d cs hcs hi;rw[he] at e1;cases e1;exact e6 o
  |true=>
   obtain ⟨g',z',ob,e1,_,_,e4⟩:=h.hr.its d cs hcs hi;rw[he] at e1;cases e1;exact e4 o
 ·rw[hp] at hp';cases hp'
def G6 (G:(Nat->Prop)->aR->World->Prop):Prop:= ∀T T' S S' W W',G T S W->Mv T T' S S' W W'->G T' S' W'
theorem YI.now {T0:Nat->Prop} {Win:World} {Sin:aR} {G:(Nat->Prop)->aR->World->Prop} {W:World} (h:YI T0 Win Sin G F S gb σ a W) (hG:G6 G) (hp:σ.pm=[]):YI T0 Win Sin G (F.at S gb σ a W a.defers) S gb σ a W:=by
 have hb:=h.rel.bw;have hS: ∀x,T0 x-> ∀o,S x o=none:=fun x hx o=>by
  obtain ⟨q1,q2,q3⟩:=h.t0 x hx;exact (h.rel.ext x o q1 q2).trans (q3 o)
 refine ⟨h.rel.rebase a.defers,hG _ _ _ _ _ _ h.g ⟨⟨hb.os,hb.tape,hb.output,hb.size,fun k hk hn=>hb.block k hk (fun hm=>hn (.inr hm))⟩,h.rel.le,h.rel.hr.agree,fun g o hg hn=>h.rel.ext g o hg (fun hm=>hn (.inr hm)),fun g hg=>?_,fun g hg o=>?_⟩,
  fun x hx=>⟨AD (h.t0 x hx).1 hb.size,fun hm=>?_,hS x hx⟩,fun x hx=>⟨MO.lt h.rel hx,MO.none h.rel hp hx⟩,aR.le.trans h.le h.rel.le,mu h.size hb.size,hb.os.trans h.os,hb.tape.trans h.tape,hb.output.trans h.output,fun x hx=>?_⟩
 ·rcases hg with hg|hg
  ·exact .inl (.inl hg)
  ·rcases MO.of h.rel hg with q|q
   ·exact .inr ⟨q,MO.lt h.rel hg⟩
   ·exact .inl (.inr q)
 ·rcases hg with hg|hg
  ·exact hS g hg o
  ·exact MO.none h.rel hp hg o
 ·rcases MO.of h.rel hm with q|q
  ·have:=(h.t0 x hx).1;omega
  ·exact (h.t0 x hx).2.1 q
 ·exact (hb.block x (h.t0 x hx).1 (h.t0 x hx).2.1).trans (h.old x hx)
theorem YI.after {T0:Nat->Prop} {Win:World} {Sin:aR} {G G':(Nat->Prop)->aR->World->Prop} {W:World} (h:YI T0 Win Sin G (F.at S gb σ a W a.defers) S gb σ a W) (hp:σ.pm=[])
  {W':World} (hsz:W.heap.size<=W'.heap.size) (hos:W'.os=W.os) (hta:W'.tape=W.tape) (hou:W'.output=W.output) (hT: ∀g,T0 g\/MO gb σ a W g->W'.heap[g]?=W.heap[g]?) {S':aR} (hle:S.le S') (hag:ph S' W') (hno: ∀g,T0 g\/MO gb σ a W g-> ∀o,S' g o=none)
  (hG:G' (fun g=>T0 g\/MO gb σ a W g) S' W'):YI T0 Win Sin G' {F.at S gb σ a W a.defers with w0:=W',S0:=S'} S' gb σ a W':=by
 have hB: ∀d g z,(aD σ.bx d).isSome->gb d=some (g,z)->MO gb σ a W g:=fun d g z hd hg=> .inl ⟨d,z,hd,hg⟩
 have hr:HR S' gb σ.bx σ.pm (tv a) W':=by
  refine ⟨hag,?_,?_,h.rel.hr.inj,?_,?_,?_,h.rel.hr.pmb⟩
  ·intro d cs hcs hi;obtain ⟨g,us,T',e1,e3,e0,e4,e5,e6⟩:=h.rel.hr.box d cs hcs hi;have hm:=hB d g _ (by rw[hcs];rfl) e1;exact ⟨g,us,T',e1,(hT g (.inr hm)).trans e3,e0,aa.mono hle (Gb.le.refl _) _ _ e4,e5,hno g (.inr hm)⟩
  ·intro d cs hcs hi;obtain ⟨g,z,ob,e1,e2,e3,e4⟩:=h.rel.hr.its d cs hcs hi;have hm:=hB d g _ (by rw[hcs];rfl) e1;exact ⟨g,z,ob,e1,e2,(hT g (.inr hm)).trans e3,hno g (.inr hm)⟩
  ·intro p k hp';rw[hp] at hp';cases hp'
  ·intro p q k l b hp';rw[hp] at hp';cases hp'
  ·intro p k b d z hp';rw[hp] at hp';cases hp'
 have hn: ∀ {g:Nat},W.heap.size<=g\/MO gb σ a W g->g<W.heap.size->MO gb σ a W g:=fun {g} hg hl=>hg.elim (fun q=>by omega) id
 refine ⟨⟨h.rel.defers,h.rel.size,Bw.refl _ _,fun g o _ _=>rfl,aR.le.refl _,fun t=>PR.mono hle (Gb.le.refl _) _ _ (h.rel.env t),hr,fun d g z hd hg=> .inr (hB d g z hd hg),fun p k g hp'=>?_,h.rel.dom,h.rel.up,fun i us hi o u hu=>⟨hle _ _ _ (h.rel.glo i us hi o u hu).1,(h.rel.glo i us hi o u hu).2⟩⟩,
  hG,fun x hx=>⟨?_,(h.t0 x hx).2.1,hno x (.inl hx)⟩,fun x hx=>⟨AD (MO.lt h.rel hx) hsz,hno x (.inr hx)⟩,aR.le.trans h.le hle,mu h.size hsz,hos.trans h.os,hta.trans h.tape,hou.trans h.output,fun x hx=>(hT x (.inl hx)).trans (h.old x hx)⟩
 ·rw[hp] at hp';cases hp'
 ·exact AD (h.t0 x hx).1 hsz
end Go.Ai
namespace Go.Ai
open Go.RowKit
variable {P:Program} {F:Fr} {S:aR} {gb:Gb} {σ:St} {a:Act} {w:World}
inductive FU where
 |o (a:bv)
 |yl (g:Option (Nat×Bool)) (d:Nat) (y:X) (xs:List X)
 |rc (g:Option (Nat×Bool)) (d f:Nat) (xs:List X) (y:X)
inductive FV where
 |c (a:AC)
 |rg (l:List FU)
 |sq (x y:FV)
 |cd (x:X) (a b:FV)
 |bl (i:Nat) (x:FV)
 |lp (x:FV)
def LH (σ:St):Option (Nat×Bool)->Option Bool
 |none=>some true
 |some (s,b)=>JB (lk σ.e s) b
section
variable (Sp:Nat->Nat->In->bO->Prop) (Tl:Nat->List AV->List (List AV)->Prop) (l:Nat) (ts:List (List AV))
def fB:List FU->(Option Nat->St->Prop)->Option Nat->St->Prop
 |[],K,k,σ=>K k σ
 | .o a::r,K,k,σ=>bU Sp a (fun τ=>fB r K k τ) σ
 | .yl g d y ys::r,K,k,σ=>match LH σ g with
  |some true=> ∃j,k=some j/\σ.pm=[]/\σ.v y= .yv l/\ts[j]?=some (ys.map σ.v)/\bm (ys.map σ.v)=[]/\fB r K (some (j+1)) (σ.put d (.bool true))/\fB r K none (σ.put d (.bool false))
  |some false=>fB r K k (σ.put d (.tup []))
  |none=>False
 | .rc g d f ys y::r,K,k,σ=>match LH σ g with
  |some true=> ∃j us,k=some j/\σ.pm=[]/\σ.v y= .yv l/\Tl f (ys.map σ.v) us/\(∀i,i<us.length->ts[j+i]?=us[i]?)/\bm (ys.map σ.v)=[]/\fB r K (some (j+us.length)) (σ.put d (.bool true))/\fB r K none (σ.put d (.bool false))
  |some false=>fB r K k (σ.put d (.tup []))
  |none=>False
def MA (F:(AE->Option Nat->St->Prop)->Option Nat->St->Prop) (Q:AE->Option Nat->St->Prop):Nat->Option Nat->St->Prop
 |0,_,_=>False
 |n+1,k,σ=> ∃τ,uu σ τ/\F (fun e k τ=>match e with | .n=>MA F Q n k τ|e=>Q e k τ) k τ
def pj:FV->(AE->Option Nat->St->Prop)->Option Nat->St->Prop
 | .c a,Q,k,σ=>dK Sp a (fun e τ=>Q e k τ) σ
 | .rg l',Q,k,σ=>fB Sp Tl l ts l' (Q .n) k σ
 | .sq x y,Q,k,σ=>pj x (fun e k τ=>match e with | .n=>pj y Q k τ|e=>Q e k τ) k σ
 | .cd c x y,Q,k,σ=>match σ.v c with
  | .bool t=>if t=true then pj x Q k σ else pj y Q k σ
  |_=>False
 | .bl i x,Q,k,σ=>pj x (fun e k τ=>match e with | .x j=>if j=i then Q .n k τ else Q (.x j) k τ|e=>Q e k τ) k σ
 | .lp x,Q,k,σ=> ∃n,MA (pj x) Q n k σ
end
def gm (ops:Array Oper) (o:Oper):Option (Nat×Bool)->Bool
 |none=>o.guard.isNone
 |some (s,b)=>match o.guard with |some (j,b')=>b==b'&&((ops[j]?).bind (·.dst))==some s|none=>false
def P0 (P:Program) (GL:List (Nat×List Value)) (N:Nat) (ops:Array Oper) (o:Oper):FU->Bool
 | .o a=>mt P GL N ops o a
 | .yl g d y ys=>gm ops o g&&aT N d o.dst&&(match o.op with | .call {callee:= .value f',args:=as,argTypes:=_}=>mX GL y f'&&kB GL ys as.toList|_=>false)
 | .rc g d f ys y=>gm ops o g&&aT N d o.dst&&(match o.op with | .call {callee:= .value (.func f'),args:=as,argTypes:=_}=>f'==f&&kB GL (ys++[y]) as.toList|_=>false)
def Br (P:Program) (GL:List (Nat×List Value)) (N:Nat) (ops:Array Oper):List Oper->List FU->Bool
 |[],[]=>true
 |o::r,y::s=>P0 P GL N ops o y&&Br P GL N ops r s
 |_,_=>false
def mY (P:Program) (GL:List (Nat×List Value)) (N:Nat) (dr:Array Oper->List (List Nat)->List bv->Bool):Code->FV->Bool
 |c,.c a=>mC P GL N dr c a
 | .region _ ops false,.rg l=>Br P GL N ops ops.toList l
 | .seq x y,.sq x' y'=>mY P GL N dr x x'&&mY P GL N dr y y'
 | .cond c x y,.cd c' x' y'=>mX GL c' c&&mY P GL N dr x x'&&mY P GL N dr y y'
 | .block i x,.bl j x'=>i==j&&mY P GL N dr x x'
 | .loop x,.lp x'=>mY P GL N dr x x'
 |_,_=>false
def qy (P:Program) (ops:Array Oper) (Q:Exit->Act->World->Prop):List Oper->Act->World->Prop
 |[],a,w=>Q .normal a w
 |o::r,a,w=>if Region.wanted o (yielded ops a.tmps) then o.wpIn Fence.wide 0 P a w (qy P ops Q r) Q else qy P ops Q r (a.put o.dst undef) w
theorem mN {ops:Array Oper} {Q:Exit->Act->World->Prop}: ∀(l:List Oper) (k:Nat),(∀j:Nat,l[j]?=ops[k+j]?)-> ∀a w,qy P ops Q l a w->wpOpsIn Fence.wide 0 P ops Q (List.range' k l.length) a w
 |[],k,_,a,w,h=>by simpa[qy,wpOpsIn] using h
 |o::l,k,hl,a,w,h=>by
  have h0:ops[k]?=some o:=by simpa using (hl 0).symm
  have ih:=mN (ops:=ops) (Q:=Q) l (k+1) (fun j=>by have:=hl (j+1);simpa[Gd,N8 1 j] using this);simp only[e7,List.range'_succ,wpOpsIn,h0];simp only[qy] at h;split
  ·rename_i hw;rw[if_pos hw] at h;exact Oper.wpIn_mono (fun a w hh=>ih a w hh) h
  ·rename_i hw;rw[if_neg hw] at h;exact ⟨fun _ _=>trivial,ih _ _ h⟩
theorem j7 {id:Nat} {ops:Array Oper} {Q:Exit->Act->World->Prop} (h:qy P ops Q ops.toList a w):(Code.region id ops false).wpIn Fence.wide 0 P Q a w:=
 wpIn_region (by rw[List.range_eq_range',<-qq];exact mN ops.toList 0 (by simp) _ _ h)
theorem C6 {o:Oper} {K:Act->World->Prop} {Q:Exit->Act->World->Prop} (h:o.wp P a w K Q):o.wpIn Fence.wide 0 P a w K Q:=by
 refine ⟨fun _ _=>trivial,?_⟩;have he:o.semAt Fence.wide.round a.eval=execOp a.eval o:=Oper.semAt_none _ _;rw[he];unfold Oper.wp Oper.upon at h;unfold Oper.uponIn;have hdep:(Fence.wide.depth.isSome=true->1<=0):=fun h=>by cases h
 generalize (execOp a.eval o).run P w=r at h ⊢;split at h
 ·exact h
 ·exact h
 ·exact h
 ·exact ⟨hdep,callsIn_wide.2 h⟩
 ·refine ⟨hdep,fun c cs _=>?_⟩;obtain ⟨v,w',r,s⟩:=h c cs;exact ⟨v,w',r,stepsIn_wide.2 s⟩
 ·exact h
 ·exact h.elim
end Go.Ai
