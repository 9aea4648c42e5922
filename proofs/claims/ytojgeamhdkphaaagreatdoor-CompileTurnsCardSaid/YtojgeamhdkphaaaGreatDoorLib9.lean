/- Lib9: a part of the proof. Conditions: as each theorem says. -/
import Derived.Test.YtojgeamhdkphaaaGreatDoorLib8
set_option linter.unusedSimpArgs false
set_option linter.unusedVariables false
namespace Go.Ai
open Go.RowKit
variable {P:Program} {F:Fr} {S:aR} {gb:Gb} {σ:St} {a:Act} {w:World}
def Gk (J:Nat->(Nat->Prop)->aR->World->Prop) (Jx:(Nat->Prop)->aR->World->Prop):Option Nat->(Nat->Prop)->aR->World->Prop
 |some j=>J j
 |none=>Jx
structure FO (GL:List (Nat×List Value)) (N:Nat) (F:Fr):Prop where
 GL:F.GL=GL
 N:F.N=N
 df:F.df=[]
theorem YI.with {T0:Nat->Prop} {Win:World} {Sin:aR} {G:(Nat->Prop)->aR->World->Prop} (h:YI T0 Win Sin G F S gb σ a w) {S':aR} {gb':Gb} {σ':St} {a':Act} {w':World} (hr:aN F S' gb' σ' a' w'):YI T0 Win Sin G F S' gb' σ' a' w':=
 ⟨hr,h.g,h.t0,h.m,h.le,h.size,h.os,h.tape,h.output,h.old⟩
theorem aa.split2: ∀ {A B:List AV} {us:List Value},aa S gb (A++B) us-> ∃u1 u2,us=u1++u2/\aa S gb A u1/\aa S gb B u2
 |[],B,us,h=>⟨[],us,rfl,by simp[aa],h⟩
 |x::A,B,us,h=>by
  simp only[cB,aa] at h;obtain ⟨u,us',rfl,h1,h2⟩:=h;obtain ⟨u1,u2,rfl,h3,h4⟩:=aa.split2 h2;exact ⟨u::u1,u2,rfl,by simp only[aa];exact ⟨u,u1,rfl,h1,h3⟩,h4⟩
theorem po (h:aN F S gb σ a w) {ops:Array Oper} {o:Oper} {g:Option (Nat×Bool)} (hm:gm ops o g=true) {t:Bool} (ht:LH σ g=some t):Region.wanted o (yielded ops a.tmps)=t:=by
 cases g with
 |none=>
  simp only[gm,Option.isNone_iff_eq_none] at hm;simp only[LH,cW] at ht;simp only[Region.wanted,hm,ht]
 |some p=>
  obtain ⟨s,b⟩:=p;simp only[gm] at hm;split at hm<;>(try cases hm);rename_i j b' hgd;simp only[aJ,cI] at hm;obtain ⟨rfl,hdst⟩:=hm;simp only[LH] at ht;have henv:=h.env s;cases t with
  |true=>
   rw[nI ht] at henv;simp only[PR] at henv;simp only[Region.wanted,hgd,kI (ops:=ops) hdst henv];simp
  |false=>
   simp only[Region.wanted,hgd];rcases ur ht with e|e
   ·rw[e] at henv;simp only[PR] at henv;rw[kI (ops:=ops) hdst henv];cases b<;>rfl
   ·rw[e] at henv;simp only[PR,aa] at henv;obtain ⟨us,hu,hn⟩:=henv
    have:yielded ops a.tmps j=none:=by
     unfold yielded;rw[hdst];simp only[Option.bind_some];cases hq:a.tmps[s]? with
     |none=>rfl
     |some v=>
      have:v= .tuple us:=by rw[<-hu];simp[tv,kC,hq]
      rw[this]
    rw[this];rfl
section
variable {l:Nat} {ts:List (List AV)} {J:Nat->(Nat->Prop)->aR->World->Prop} {Jx:(Nat->Prop)->aR->World->Prop} {T0:Nat->Prop} {Win:World} {Sin:aR} {GL:List (Nat×List Value)} {N:Nat}
theorem Gk.move (ht:y7 P l ts J Jx) (k:Option Nat):G6 (Gk J Jx k):=by
 cases k with
 |none=>exact ht.moveX
 |some j=>exact ht.move j
theorem uQ {j:Nat} {G Gx:(Nat->Prop)->aR->World->Prop} {G0:(Nat->Prop)->aR->World->Prop} (h:YI T0 Win Sin G0 (F.at S gb σ a w a.defers) S gb σ a w) (hp:σ.pm=[]) {d:Nat} (hd:d<F.N) {e:Ending} {w':World} (hpo:rT S G Gx (fun x=>T0 x\/MO gb σ a w x) w e w'):
  (e= .returned (.bool true)/\ ∃F' S',F'.GL=F.GL/\F'.N=F.N/\F'.df=a.defers/\YI T0 Win Sin G F' S' gb (σ.put d (.bool true)) (a.put (some d) (.bool true)) w')\/
  (e= .returned (.bool false)/\ ∃F' S',F'.GL=F.GL/\F'.N=F.N/\F'.df=a.defers/\YI T0 Win Sin Gx F' S' gb (σ.put d (.bool false)) (a.put (some d) (.bool false)) w'):=by
 obtain ⟨h1,h2,h3,h4,h5,S',h6,h7,h8,h9⟩:=hpo;rcases h9 with ⟨rfl,h9⟩|⟨rfl,h9⟩
 ·have hy:=h.after hp h1 h2 h3 h4 h5 h6 h7 h8 h9;exact .inl ⟨rfl,{F.at S gb σ a w a.defers with w0:=w',S0:=S'},S',rfl,rfl,rfl,hy.with (hy.rel.put (d:=d) (v:= .bool true) (u:= .bool true) hd (by simp[PR]))⟩
 ·have hy:=h.after hp h1 h2 h3 h4 h5 h6 h7 h8 h9;exact .inr ⟨rfl,{F.at S gb σ a w a.defers with w0:=w',S0:=S'},S',rfl,rfl,rfl,hy.with (hy.rel.put (d:=d) (v:= .bool false) (u:= .bool false) hd (by simp[PR]))⟩
theorem p7 (ht:y7 P l ts J Jx) {ops:Array Oper} {K:Option Nat->St->Prop} {Q':Exit->Act->World->Prop} (hQ: ∀k F S gb σ a w,FO GL N F->YI T0 Win Sin (Gk J Jx k) F S gb σ a w->K k σ->Q' .normal a w):
  ∀ {ol:List Oper} {yl:List FU},Br P GL N ops ol yl=true-> ∀ {k:Option Nat} {F:Fr} {S:aR} {gb:Gb} {σ:St} {a:Act} {w:World},FO GL N F->YI T0 Win Sin (Gk J Jx k) F S gb σ a w->fB (bC P GL) (j6 P GL) l ts yl K k σ->qy P ops Q' ol a w
 |[],yl,hm,k,F,S,gb,σ,a,w,hF,h,hw=>by
  cases yl<;>simp[Br] at hm;exact hQ _ _ _ _ _ _ _ hF h hw
 |o::r,yl,hm,k,F,S,gb,σ,a,w,hF,h,hw=>by
  cases yl with
  |nil=>simp[Br] at hm
  |cons y s=>
   simp only[Br,aJ] at hm;obtain ⟨hm1,hm2⟩:=hm;simp only[qy];have skip: ∀(g:Option (Nat×Bool)) (d:Nat),gm ops o g=true->aT N d o.dst=true->LH σ g=some false->fB (bC P GL) (j6 P GL) l ts s K k (σ.put d (.tup []))->
     (if Region.wanted o (yielded ops a.tmps)=true then o.wpIn Fence.wide 0 P a w (qy P ops Q' r) Q' else qy P ops Q' r (a.put o.dst undef) w):=by
    intro g d hg hs hgd hw;rw[po h.rel hg hgd,if_neg (by simp)];obtain ⟨h1,h2⟩:=ax.1 hs;rw[h1];exact p7 ht hQ hm2 hF (h.with (h.rel.put (by rw[hF.N];exact h2) (by simp only[PR,aa,undef];exact ⟨#[],rfl,rfl⟩))) hw
   have hdf:a.defers=[]:=by rw[h.rel.defers];exact hF.df
   have hdep:(Fence.wide.depth.isSome=true->1<=0):=fun h=>by cases h
   cases y with
   |o ao=>
    simp only[fB] at hw;simp only[P0] at hm1
    have:=iO h.rel (by rw[hF.GL,hF.N];exact hm1) (K:=fun τ=>fB (bC P GL) (j6 P GL) l ts s K k τ) (by rw[hF.GL];exact hw) (K':=qy P ops Q' r) (Q:=Q') (fun S gb σ a w hr hk=>p7 ht hQ hm2 hF (h.with hr) hk)
    split
    ·rename_i hc;rw[if_pos hc] at this;exact C6 this
    ·rename_i hc;rw[if_neg hc] at this;exact this
   |yl g d yy ys=>
    simp only[P0,aJ] at hm1;obtain ⟨⟨hg,hs⟩,hop⟩:=hm1;simp only[fB] at hw;split at hw
    ·rename_i hgd;rw[po h.rel hg hgd,if_pos rfl];obtain ⟨h1,h2⟩:=ax.1 hs;split at hop<;>(try cases hop);rename_i f' as tys hop';simp only[aJ] at hop;obtain ⟨hx,hxs⟩:=hop;obtain ⟨j,rfl,hpm,hy,hts,hids,hw1,hw2⟩:=hw;have hyv:=az h.rel (by rw[hF.GL];exact hx);rw[hy] at hyv;simp only[PR] at hyv;have hl:=dt h.rel (by rw[hF.GL];exact hxs);have hl0:aa S fP (ys.map σ.v) (as.map a.eval).toList:=by
      rw[Array.toList_map];exact aa.restr _ _ (fun d hd=>by rw[hids] at hd;cases hd) hl
     have hn:=h.now (Gk.move ht (some j)) hpm;obtain ⟨fn,tmps,asg,bdy,hyr,hround⟩:=ht.round j _ _ _ _ _ hts hl0 hn.g;refine ⟨fun _ _=>trivial,?_⟩;have he:o.semAt Fence.wide.round a.eval=execOp a.eval o:=Oper.semAt_none _ _;rw[he];have hrun:(execOp a.eval o).run P w=(Instr.yield l (as.map a.eval)).run P w:=by
      unfold execOp;simp[hop',resolve,hyv,Deferred.ofValue,invoke]
     rw[hrun];have hyr':(Instr.yield l (as.map a.eval)).run P w= .ok (.round l fn tmps asg bdy) w:=hyr;rw[hyr'];refine ⟨hdep,RoundIn.mono hround (fun e w' hpo=>?_)⟩;have hd:d<F.N:=by rw[hF.N];exact h2
     rw[h1];rcases uQ (j:=j) hn hpm hd hpo with ⟨rfl,F',S',q1,q2,q3,hy'⟩|⟨rfl,F',S',q1,q2,q3,hy'⟩
     ·exact p7 ht hQ hm2 ⟨q1.trans hF.GL,q2.trans hF.N,q3.trans hdf⟩ (k:=some (j+1)) hy' hw1
     ·exact p7 ht hQ hm2 ⟨q1.trans hF.GL,q2.trans hF.N,q3.trans hdf⟩ (k:=none) hy' hw2
    ·rename_i hgd;exact skip g d hg hs hgd hw
    ·cases hw
   |rc g d f ys yy=>
    simp only[P0,aJ] at hm1;obtain ⟨⟨hg,hs⟩,hop⟩:=hm1;simp only[fB] at hw;split at hw
    ·rename_i hgd;rw[po h.rel hg hgd,if_pos rfl];obtain ⟨h1,h2⟩:=ax.1 hs;split at hop<;>(try cases hop);rename_i f' as tys hop';simp only[aJ,cI] at hop;obtain ⟨rfl,hxs⟩:=hop;obtain ⟨j,us,rfl,hpm,hy,⟨heg,hT⟩,hseg,hids,hw1,hw2⟩:=hw;have hl:=dt h.rel (by rw[hF.GL];exact hxs);rw[List.map_append,fZ,l6,hy] at hl;obtain ⟨vs,ws,hvw,hvs,hws⟩:=aa.split2 hl;simp only[aa,PR] at hws;obtain ⟨u,us',rfl,rfl,rfl⟩:=hws;have hvs0:aa S fP (ys.map σ.v) vs:=aa.restr _ _ (fun d hd=>by rw[hids] at hd;cases hd) hvs;have hn:=h.now (Gk.move ht (some j)) hpm;have hcall:=hT S vs l ts J Jx ht hvs0 (fun i us hi o u hu=>by
      have:=h.rel.glo i us (by rw[hF.GL];exact hi) o u hu
      exact ⟨h.rel.le _ _ _ this.1,this.2⟩) j hseg _ w (fun x hx=>by
       rcases hx with hx|hx
       ·exact ⟨(hn.t0 x hx).1,(hn.t0 x hx).2.2⟩
       ·exact hn.m x hx) hn.g h.rel.hr.agree
     refine ⟨fun _ _=>trivial,?_⟩;have he:o.semAt Fence.wide.round a.eval=execOp a.eval o:=Oper.semAt_none _ _;rw[he];have harr:as.map a.eval=(vs++[Value.func (.yield l) #[] #[]]).toArray:=by
      apply Array.ext';rw[Array.toList_map,hvw]
     have hrun:(execOp a.eval o).run P w= .ok (.enter f' (vs++[Value.func (.yield l) #[] #[]]).toArray) w:=by
      rw[<-heg,<-harr];unfold execOp;simp[hop',resolve,Act.eval,Deferred.ofValue,invoke]
     rw[hrun];refine ⟨hdep,hcall.mono (fun e w' hpo=>?_)⟩;have hd:d<F.N:=by rw[hF.N];exact h2
     rw[h1];rcases uQ (j:=j) hn hpm hd hpo with ⟨rfl,F',S',q1,q2,q3,hy'⟩|⟨rfl,F',S',q1,q2,q3,hy'⟩
     ·exact p7 ht hQ hm2 ⟨q1.trans hF.GL,q2.trans hF.N,q3.trans hdf⟩ (k:=some (j+us.length)) hy' hw1
     ·exact p7 ht hQ hm2 ⟨q1.trans hF.GL,q2.trans hF.N,q3.trans hdf⟩ (k:=none) hy' hw2
    ·rename_i hgd;exact skip g d hg hs hgd hw
    ·cases hw
end
end Go.Ai
namespace Go.Ai
open Go.RowKit
variable {P:Program} {F:Fr} {S:aR} {gb:Gb} {σ:St} {a:Act} {w:World}
section
variable {l:Nat} {ts:List (List AV)} {J:Nat->(Nat->Prop)->aR->World->Prop} {Jx:(Nat->Prop)->aR->World->Prop} {T0:Nat->Prop} {Win:World} {Sin:aR} {GL:List (Nat×List Value)} {N:Nat}
theorem OB {dr:Array Oper->List (List Nat)->List bv->Bool} (hdo:b7 P GL N dr) (ht:y7 P l ts J Jx): ∀ {ac:FV} {c:Code},mY P GL N dr c ac=true-> ∀ {Q:AE->Option Nat->St->Prop} {Q':Exit->Act->World->Prop},
  (∀e k F S gb σ a w,FO GL N F->YI T0 Win Sin (Gk J Jx k) F S gb σ a w->Q e k σ->Q' (yL e) a w)-> ∀ {k:Option Nat} {F:Fr} {S:aR} {gb:Gb} {σ:St} {a:Act} {w:World},FO GL N F->YI T0 Win Sin (Gk J Jx k) F S gb σ a w->
  pj (bC P GL) (j6 P GL) l ts ac Q k σ->c.wpIn Fence.wide 0 P Q' a w:=by
 intro ac;induction ac with
 |c ac=>
  intro c hm Q Q' hQ k F S gb σ a w hF h hw;have hm:mC P GL N dr c ac=true:=by cases c<;>exact hm
  exact wpIn_wide.2 (eA (F:=F) (dr:=dr) (by rw[hF.GL,hF.N];exact hdo) (by rw[hF.GL,hF.N];exact hm) (Q:=fun e τ=>Q e k τ) (fun e S gb σ a w hr hq=>hQ e k F S gb σ a w hF (h.with hr) hq) h.rel (by rw[hF.GL];exact hw))
 |rg l'=>
  intro c hm Q Q' hQ k F S gb σ a w hF h hw;cases c<;>(try simp only[mY,tK] at hm);rename_i id ops draw;cases draw<;>simp only[mY,tK] at hm;exact j7 (p7 ht (fun k F S gb σ a w hF h hk=>hQ .n k F S gb σ a w hF h hk) hm hF h hw)
 |sq x y ihx ihy=>
  intro c hm Q Q' hQ k F S gb σ a w hF h hw;cases c<;>simp only[mY,aJ,tK] at hm;rename_i cx cy;refine wpIn_seq (ihx hm.1 (Q:=fun e k τ=>match e with | .n=>pj (bC P GL) (j6 P GL) l ts y Q k τ|e=>Q e k τ) (Q':=Exit.then (cy.wpIn Fence.wide 0 P Q') Q') ?_ hF h hw);intro e k F S gb σ a w hF h hq;cases e
  ·exact ihy hm.2 hQ hF h hq
  ·exact hQ (.x _) _ _ _ _ _ _ _ hF h hq
  ·exact hQ .r _ _ _ _ _ _ _ hF h hq
 |cd c' x y ihx ihy=>
  intro c hm Q Q' hQ k F S gb σ a w hF h hw;cases c<;>simp only[mY,aJ,tK] at hm;obtain ⟨⟨hc,hx⟩,hy⟩:=hm;have hv:=az h.rel (by rw[hF.GL];exact hc);simp only[pj] at hw;split at hw
  ·rename_i t ht';rw[ht'] at hv;simp only[PR] at hv;refine wpIn_cond hv ?_;cases t
   ·exact ihy hy hQ hF h (by simpa using hw)
   ·exact ihx hx hQ hF h (by simpa using hw)
  ·cases hw
 |bl i x ih=>
  intro c hm Q Q' hQ k F S gb σ a w hF h hw;cases c<;>simp only[mY,aJ,tK,cI] at hm;obtain ⟨rfl,hx⟩:=hm;rename_i i cx;refine wpIn_block (ih hx (Q:=fun e k τ=>match e with | .x j=>if j=i then Q .n k τ else Q (.x j) k τ|e=>Q e k τ) (Q':=Exit.inBlock i Q') ?_ hF h hw);intro e k F S gb σ a w hF h hq;cases e
  ·exact hQ .n _ _ _ _ _ _ _ hF h hq
  ·rename_i j;simp only[yL,Exit.inBlock];dsimp only at hq;split at hq
   ·rename_i e;rw[if_pos e];exact hQ .n _ _ _ _ _ _ _ hF h hq
   ·rename_i e;rw[if_neg e];exact hQ (.x _) _ _ _ _ _ _ _ hF h hq
  ·exact hQ .r _ _ _ _ _ _ _ hF h hq
 |lp x ih=>
  intro c hm Q Q' hQ k F S gb σ a w hF h hw;cases c<;>simp only[mY,tK] at hm;rename_i cx;simp only[pj] at hw;obtain ⟨n',hn⟩:=hw;intro b kk cs hro hb hr;have key: ∀n' k F S gb σ a w,FO GL N F->YI T0 Win Sin (Gk J Jx k) F S gb σ a w->MA (pj (bC P GL) (j6 P GL) l ts x) Q n' k σ-> ∃e a' w',Q' e a' w'/\ArrivesIn (Machine.fenced P Fence.wide) P (lone (b.atR a (.code cx:: .inLoop cx::kk)) cs w) b kk cs e a' w':=by
   intro n';induction n' with
   |zero=>intro k F S gb σ a w hF h hn;exact hn.elim
   |succ n' ihn=>
    intro k F S gb σ a w hF h hn;obtain ⟨τ,hτ,hbb⟩:=hn;obtain ⟨gb',h'⟩:=h.rel.weakR hτ;obtain ⟨e,a₁,w₁,hq,harr⟩:=ih hm (Q:=fun e k τ=>match e with | .n=>MA (pj (bC P GL) (j6 P GL) l ts x) Q n' k τ|e=>Q e k τ) (Q':=Exit.then (fun a w=> ∃k F S gb σ,FO GL N F/\YI T0 Win Sin (Gk J Jx k) F S gb σ a w/\MA (pj (bC P GL) (j6 P GL) l ts x) Q n' k σ) Q') (by
     intro e k F S gb σ a w hF h hq;cases e
     ·exact ⟨_,_,_,_,_,hF,h,hq⟩
     ·exact hQ (.x _) _ _ _ _ _ _ _ hF h hq
     ·exact hQ .r _ _ _ _ _ _ _ hF h hq) hF (h.with h') hbb b (.inLoop cx::kk) cs hro hb hr
    cases e with
    |normal=>
     obtain ⟨k1,F1,S1,gb1,σ1,hF1,h1,hi1⟩:=hq;obtain ⟨e₂,a₂,w₂,hq₂,harr₂⟩:=ihn _ _ _ _ _ _ _ hF1 h1 hi1;exact ⟨e₂,a₂,w₂,hq₂,.of_steps (StepsIn.trans harr (.one (fenced_calm hb hr rfl) stepR_inLoop)) harr₂⟩
    |exit id=>exact ⟨_,a₁,w₁,hq,.pass (x:= .inLoop cx) rfl (fun _ _=> .inl (by simp)) harr⟩
    |goto l=>exact ⟨_,a₁,w₁,hq,.pass (x:= .inLoop cx) rfl (fun _ _=> .inl (by simp)) harr⟩
    |ret=>exact ⟨_,a₁,w₁,hq,.pass (x:= .inLoop cx) rfl (fun _ _=> .inl (by simp)) harr⟩
    |panic ch=>exact ⟨_,a₁,w₁,hq,.pass (x:= .inLoop cx) rfl (fun _ _=> .inl (by simp)) harr⟩
    |outgrown=>exact ⟨_,a₁,w₁,hq,.pass (x:= .inLoop cx) rfl (fun _ _=> .inl (by simp)) harr⟩
  obtain ⟨e,a',w',hq,harr⟩:=key n' _ _ _ _ _ _ _ hF h hn;exact ⟨e,a',w',hq,.of_steps (.one (fenced_calm hb hr rfl) stepR_loop) harr⟩
end
structure P1 where
 c:FV
 r:Nat
 np:Nat
 N:Nat
def P2 (P:Program) (GL:List (Nat×List Value)) (dr:Array Oper->List (List Nat)->List bv->Bool) (fn:Func) (f:P1):Bool:=
 fn.name != "runtime.NumGoroutine"&&fn.params.size+fn.nfree==f.np&&fn.ntmps==f.N&&Nat.ble f.np f.N&&AI P [.t f.r] fn.results.toList&&(match fn.body with |some c=>mY P GL f.N dr c f.c|none=>false)
def p8 (r:Nat) (k:Nat):AE->Option Nat->St->Prop:=fun e q σ=>(e= .n\/e= .r)/\σ.pm=[]/\((q=some k/\lk σ.e r= .bool true)\/(q=none/\lk σ.e r= .bool false))
theorem Ek {GL:List (Nat×List Value)} {dr:Array Oper->List (List Nat)->List bv->Bool} {f:Nat} {fn:Func} {af:P1} (hf:P.funcs[f]?=some fn) (hm:P2 P GL dr fn af=true) (hd:b7 P GL af.N dr) {args:List AV} {us:List (List AV)} (hl:args.length+1=af.np) (hids:bm args=[])
  (hw: ∀(l:Nat) (ts:List (List AV)) (k:Nat),(∀j,j<us.length->ts[k+j]?=us[j]?)->pj (bC P GL) (j6 P GL) l ts af.c (p8 af.r (k+us.length)) (some k) ⟨dD 0 (args++[.yv l]),[],[]⟩):j6 P GL f args us:=by
 simp only[P2,aJ,bne_iff_ne,cI] at hm;obtain ⟨⟨⟨⟨⟨h1,h2⟩,h3⟩,h4⟩,h5⟩,h6⟩:=hm;split at h6<;>(try cases h6);rename_i c hb;have h4:=Nat.le_of_ble_eq_true h4;refine ⟨fun as w=>by simp[callFunc,hf,hb,h1],?_⟩;intro S vs l ts J Jx ht hvs hgl k hseg T W hT hJ hag;have hlen:vs.length=args.length:=hvs.length.symm;refine callsIn_of_wp (n:=0) hf hb trivial ?_;obtain ⟨ws,hws⟩: ∃ws,ws=vs++[Value.func (.yield l) #[] #[]]:=⟨_,rfl⟩;rw[<-hws];have hwl:ws.length=vs.length+1:=by rw[hws];simp
 let F:Fr:=⟨S,W,fun _=>False,fP,af.N,GL,[]⟩
 have hpl:aa S fP (args++[.yv l]) ws:=by rw[hws];exact hvs.append (by simp[aa,PR])
 have hrel:aN F S fP ⟨dD 0 (args++[.yv l]),[],[]⟩ {tmps:=ws.toArray++Array.replicate (fn.ntmps - ws.toArray.size) undef,defers:=[]} W:=by
  refine ⟨rfl,?_,Bw.refl _ _,fun _ _ _ _=>rfl,aR.le.refl _,?_,⟨hag,(fun d cs h=>by cases h),(fun d cs h=>by cases h),(fun d d' g z z' h=>by cases h),(fun p k h=>by cases h),(fun p q k l b h=>by cases h),(fun p k b d z h=>by cases h),(fun d off k h=>by cases h)⟩,(fun d g z h=>by cases h),(fun p k g h=>by cases h),(fun d h=>absurd rfl h),(fun d=>rfl),hgl⟩
  ·show (ws.toArray++Array.replicate (fn.ntmps - ws.toArray.size) undef).size=af.N;simp;omega
  ·intro t
   have:=(fU hpl 0 t).2 t (by omega)
   rw[dP];exact this
 have hfun:(fun x=>T x\/F.M x)=T:=by funext x;exact propext ⟨fun h=>h.elim id False.elim,.inl⟩
 have hy:YI T W S (Gk J Jx (some k)) F S fP ⟨dD 0 (args++[.yv l]),[],[]⟩ {tmps:=ws.toArray++Array.replicate (fn.ntmps - ws.toArray.size) undef,defers:=[]} W:=by
  refine ⟨hrel,?_,fun x hx=>⟨(hT x hx).1,fun h=>h,(hT x hx).2⟩,(fun x h=>h.elim),aR.le.refl _,eR _,rfl,rfl,rfl,fun _ _=>rfl⟩;show J k (fun x=>T x\/F.M x) S W;rw[hfun];exact hJ
 refine OB (N:=af.N) hd ht h6 (Q:=p8 af.r (k+us.length)) ?_ ⟨rfl,rfl,rfl⟩ hy (hw l ts k hseg);rintro e q F2 S2 gb2 σ2 a2 w2 hF2 h2 ⟨he,hpm,hq⟩;have hn:=h2.now (Gk.move ht q) hpm;have hres: ∀b:Bool,lk σ2.e af.r= .bool b->(results fn a2.tmps).run P w2= .ok (.bool b) w2:=by
  intro b hbv;obtain ⟨us',hrun,g2,g3⟩:=kJ (P:=P) h2.rel h5 (vs':=[.bool b]) (by simp[gh,hbv]);simp only[aa,PR] at g2;obtain ⟨u,us'',rfl,rfl,rfl⟩:=g2;simpa using hrun
 have hdf:a2.defers=[]:=by rw[h2.rel.defers];exact hF2.df
 have fin:a2.defers=[]/\ ∃v,(results fn a2.tmps).run P w2= .ok v w2/\rT S (J (k+us.length)) Jx T W (.returned v) w2:=by
  refine ⟨hdf,?_⟩;have common: ∀(G:(Nat->Prop)->aR->World->Prop),G6 G->G (fun x=>T x\/MO gb2 σ2 a2 w2 x) S2 w2->G T S2 w2:=by
   intro G hG hg;refine hG _ _ _ _ _ _ hg ⟨Bw.refl _ _,aR.le.refl _,h2.rel.hr.agree,fun _ _ _ _=>rfl,fun g hg=> .inl (.inl hg),fun g hg=>(hn.t0 g hg).2.2⟩
  rcases hq with ⟨rfl,hv⟩|⟨rfl,hv⟩
  ·exact ⟨_,hres true hv,hn.size,hn.os,hn.tape,hn.output,hn.old,S2,hn.le,h2.rel.hr.agree,fun g hg=>(hn.t0 g hg).2.2,.inl ⟨rfl,common _ (Gk.move ht (some _)) hn.g⟩⟩
  ·exact ⟨_,hres false hv,hn.size,hn.os,hn.tape,hn.output,hn.old,S2,hn.le,h2.rel.hr.agree,fun g hg=>(hn.t0 g hg).2.2,.inr ⟨rfl,common _ (Gk.move ht none) hn.g⟩⟩
 rcases he with rfl|rfl
 ·exact fin
 ·exact fin
end Go.Ai
namespace Go.Ai
open Go.RowKit
variable {P:Program} {F:Fr} {S:aR} {gb:Gb} {σ:St} {a:Act} {w:World}
structure P3 where
 d:Nat
 l:List FU
 N:Nat
def P4 (P:Program) (GL:List (Nat×List Value)) (fn:Func) (f:P3):Bool:=
 fn.name != "runtime.NumGoroutine"&&fn.params.size+fn.nfree==2&&fn.ntmps==f.N&&Nat.ble 2 f.N&&fn.results.size==0&&
 (match fn.body with
 |some (.region _ ops false)=>(match ops.toList with
  |o::r=>o.guard.isNone&&dC P GL f.N o (.lds f.d (.s 1))&&Br P GL f.N ops r f.l
  |_=>false)
 |_=>false)
theorem El {GL:List (Nat×List Value)} {gf:Nat} {fn:Func} {af:P3} (hf:P.funcs[gf]?=some fn) (hm:P4 P GL fn af=true) {b:Id} (hbi:b.isIt=false) {v0:AV} (hv0:v0.ids=[]) {xs:List (List AV)}
  (hw: ∀l:Nat,fB (bC P GL) (j6 P GL) l xs af.l (fun q σ=>σ.pm=[]/\(q=some xs.length\/q=none)) (some 0) ⟨[(af.d,v0),(0,.yv l)],[],[]⟩):uP P GL gf [.ptr b 0] [(b,[v0])] xs:=by
 simp only[P4,aJ,bne_iff_ne,cI] at hm;obtain ⟨⟨⟨⟨⟨h1,h2⟩,h3⟩,h4⟩,h5⟩,h6⟩:=hm;have h4:=Nat.le_of_ble_eq_true h4;split at h6<;>(try cases h6);rename_i id ops hb;split at h6<;>(try cases h6);rename_i o r hops;simp only[aJ,Option.isNone_iff_eq_none] at h6;obtain ⟨⟨hg,hm1⟩,hm2⟩:=h6;refine ⟨fun as w=>by simp[callFunc,hf,hb,h1],?_⟩;intro S gb us hus hgl l J Jx ht W hJ hhr;simp only[aa] at hus;obtain ⟨u1,us',rfl,hu1,rfl⟩:=hus;have hagr:=hhr.agree;obtain ⟨ws,hws⟩: ∃ws:List Value,ws=[Value.func (.yield l) #[] #[],u1]:=⟨_,rfl⟩;have hargs:(#[Value.func (.yield l) #[] #[]]++[u1].toArray)=ws.toArray:=by rw[hws];rfl
 rw[hargs];have hwl:ws.length=2:=by rw[hws];rfl
 refine callsIn_of_wp (n:=0) hf hb trivial ?_;obtain ⟨a0,ha0⟩: ∃a0:Act,a0={tmps:=ws.toArray++Array.replicate (fn.ntmps - ws.toArray.size) undef,defers:=[]}:=⟨_,rfl⟩;rw[<-ha0];have hup:=hhr.up
 let F0:Fr:=⟨S,W,fun g=> ∃d z,(aD [(b,[v0])] d).isSome/\gb d=some (g,z),gb,af.N,GL,[]⟩
 have hsz:a0.tmps.size=af.N:=by rw[ha0];simp;omega
 have hpl:aa S (eB gb) [.yv l,.ptr (.up b) 0] ws:=by
  rw[hws]
  have:=CK _ _ hu1
  simp only[AV.mp] at this;simp only[aa];exact ⟨_,_,rfl,by simp[PR],_,_,rfl,this,rfl⟩
 have hrel:aN F0 S (eB gb) ⟨dD 0 [.yv l,.ptr (.up b) 0],aW Id.up [(b,[v0])],[]⟩ a0 W:=by
  refine ⟨by rw[ha0],hsz,Bw.refl _ _,fun _ _ _ _=>rfl,aR.le.refl _,?_,hup.anySv (fun p k h=>by cases h),?_,(fun p k g h=>by cases h),?_,fun d=>rfl,hgl⟩
  ·intro t
   have:=(fU hpl 0 t).2 t (by omega)
   rw[ha0,dP];exact this
  ·intro i g z hi hq;obtain ⟨c1,hc1⟩:=jp.1 hi;obtain ⟨j,cs,rfl,hj,_⟩:=bL cQ hc1;exact .inr ⟨j,z,by rw[hj];rfl,hq⟩
  ·intro i hi;cases i<;>simp[eB,Id.isUp] at hi ⊢
 have hmp:v0.mp Id.up=v0:=jc hv0;obtain ⟨e1,e2,u,e3,e4⟩:=nO hrel hm1 (d:=af.d) (v:=v0) (by simp[ev,e8,St.v,lk,dD,aW,aP,aD,hmp]);have e4:PR S fP v0 u:=PR.restr _ _ (fun d hd=>by rw[hv0] at hd;cases hd) e4;have e2:af.d<af.N:=e2
 let F1:Fr:=⟨S,W,fun _=>False,fP,af.N,GL,[]⟩
 have hrel1:aN F1 S fP ⟨[(af.d,v0),(0,.yv l)],[],[]⟩ (a0.put (some af.d) u) W:=by
  refine ⟨by rw[ha0];rfl,by simp[Act.put,hsz];rfl,Bw.refl _ _,fun _ _ _ _=>rfl,aR.le.refl _,?_,⟨hagr,(fun d cs h=>by cases h),(fun d cs h=>by cases h),(fun d d' g z z' h=>by cases h),(fun p k h=>by cases h),(fun p q k l b h=>by cases h),(fun p k b d z h=>by cases h),(fun d off k h=>by cases h)⟩,(fun d g z h=>by cases h),(fun p k g h=>by cases h),(fun d h=>absurd rfl h),(fun d=>rfl),hgl⟩;intro t;rw[iZ (by rw[hsz];exact e2)];simp only[lk];split
  ·exact e4
  ·split
   ·rename_i h0;subst h0;rw[ha0,dP,hws];simp[PR]
   ·simp[PR]
 have hfun:(fun x=>(fun _:Nat=>False) x\/F1.M x)=(fun _:Nat=>False):=by funext x;exact propext ⟨fun h=>h.elim (fun q=>q) (fun q=>q),fun h=>h.elim⟩
 have hy:YI (fun _=>False) W S (Gk J Jx (some 0)) F1 S fP ⟨[(af.d,v0),(0,.yv l)],[],[]⟩ (a0.put (some af.d) u) W:=by
  refine ⟨hrel1,?_,(fun x h=>h.elim),(fun x h=>h.elim),aR.le.refl _,eR _,rfl,rfl,rfl,fun _ _=>rfl⟩;show J 0 (fun x=>(fun _:Nat=>False) x\/F1.M x) S W;rw[hfun];exact hJ
 refine j7 ?_;rw[hops];simp only[qy];have hwant:Region.wanted o (yielded ops a0.tmps)=true:=by simp only[Region.wanted,hg]
 rw[if_pos hwant];refine C6 (be e3 ?_);rw[e1];refine p7 (N:=af.N) (GL:=GL) ht ?_ hm2 ⟨rfl,rfl,rfl⟩ hy (hw l);rintro q F2 S2 gb2 σ2 a2 w2 hF2 h2 ⟨hpm,hq⟩;have hn:=h2.now (Gk.move ht q) hpm;have hdf:a2.defers=[]:=by rw[h2.rel.defers];exact hF2.df
 refine ⟨hdf,.tuple #[],?_,⟨_,rfl⟩,?_⟩
 ·have hr0:fn.results= #[]:=Array.eq_empty_of_size_eq_zero h5;rw[rI,hr0];simp
 ·rcases hq with rfl|rfl
  ·exact .inl ⟨_,S2,hn.g⟩
  ·exact .inr ⟨_,S2,hn.g⟩
@[irreducible] def J6 (P:Program) (GL:List (Nat×List Value)) (f:Nat) (args:List AV) (us:List (List AV)):Prop:=j6 P GL f args us
theorem Bs (P:Program) (GL:List (Nat×List Value)):J6 P GL=j6 P GL:=by funext f d I;unfold J6;rfl
theorem Bt {P:Program} {GL:List (Nat×List Value)} {dr:Array Oper->List (List Nat)->List bv->Bool} {f:Nat} {fn:Func} {af:P1} (hf:P.funcs[f]?=some fn) (hm:P2 P GL dr fn af=true) (hd:b7 P GL af.N dr) {args:List AV} {us:List (List AV)} (hl:args.length+1=af.np) (hids:bm args=[])
  (hw: ∀(l:Nat) (ts:List (List AV)) (k:Nat),(∀j,j<us.length->ts[k+j]?=us[j]?)->pj (ba P GL) (J6 P GL) l ts af.c (p8 af.r (k+us.length)) (some k) ⟨dD 0 (args++[.yv l]),[],[]⟩):J6 P GL f args us:=by
 rw[fy,Bs] at hw;rw[Bs];exact Ek hf hm hd hl hids hw
theorem Bu {P:Program} {GL:List (Nat×List Value)} {gf:Nat} {fn:Func} {af:P3} (hf:P.funcs[gf]?=some fn) (hm:P4 P GL fn af=true) {b:Id} (hbi:b.isIt=false) {v0:AV} (hv0:v0.ids=[]) {xs:List (List AV)}
  (hw: ∀l:Nat,fB (ba P GL) (J6 P GL) l xs af.l (fun q σ=>σ.pm=[]/\(q=some xs.length\/q=none)) (some 0) ⟨[(af.d,v0),(0,.yv l)],[],[]⟩):Mz P GL gf [.ptr b 0] [(b,[v0])] xs:=by
 rw[fy,Bs] at hw;rw[G4];exact El hf hm hbi hv0 hw
section
variable {Sp:Nat->Nat->In->bO->Prop} {Tl:Nat->List AV->List (List AV)->Prop} {l:Nat} {ts:List (List AV)} {Q:AE->Option Nat->St->Prop} {k:Option Nat} {σ:St}
theorem za {a:AC}:pj Sp Tl l ts (.c a) Q k σ=dK Sp a (fun e τ=>Q e k τ) σ:=rfl
theorem MB {l':List FU}:pj Sp Tl l ts (.rg l') Q k σ=fB Sp Tl l ts l' (Q .n) k σ:=rfl
theorem rU {x y:FV}:pj Sp Tl l ts (.sq x y) Q k σ=pj Sp Tl l ts x (fun e k τ=>match e with | .n=>pj Sp Tl l ts y Q k τ|e=>Q e k τ) k σ:=rfl
theorem Bv {i:Nat} {x:FV}:pj Sp Tl l ts (.bl i x) Q k σ=pj Sp Tl l ts x (fun e k τ=>match e with | .x j=>if j=i then Q .n k τ else Q (.x j) k τ|e=>Q e k τ) k σ:=rfl
theorem C7 {α:Type} {x:FV} (st:α->St) (kf:α->Nat) (I:α->Prop) (μ:α->Nat)
  (step: ∀(K:Option Nat->St->Prop) (y:α),(∀(z:α) (σ':St),I z->μ z<μ y->il σ' (st z)->K (some (kf z)) σ')->I y->pj Sp Tl l ts x (fun e k τ=>match e with | .n=>K k τ|e=>Q e k τ) (some (kf y)) (st y)) (y:α) (hy:I y) (hw:il σ (st y)):pj Sp Tl l ts (.lp x) Q (some (kf y)) σ:=by
 have key: ∀n y σ,μ y<n->I y->il σ (st y)->MA (pj Sp Tl l ts x) Q n (some (kf y)) σ:=by
  intro n;induction n with
  |zero=>intro y σ h;omega
  |succ n ih=>
   intro y σ h hy hw;exact ⟨st y,.inl hw,step (fun k τ=>MA (pj Sp Tl l ts x) Q n k τ) y (fun z σ' hz hm hw'=>ih z σ' (by omega) hz hw') hy⟩
 exact ⟨μ y+1,key _ y σ (by omega) hy hw⟩
theorem m9 {a:bv} {r:List FU} {K:Option Nat->St->Prop}:fB Sp Tl l ts (.o a::r) K k σ=bU Sp a (fun τ=>fB Sp Tl l ts r K k τ) σ:=rfl
theorem lO {K:Option Nat->St->Prop}:fB Sp Tl l ts [] K k σ=K k σ:=rfl
theorem J7 {d:Nat} {y:X} {ys:List X} {r:List FU} {K:Option Nat->St->Prop} {j:Nat} (hp:σ.pm=[]) (hy:σ.v y= .yv l) (ht:ts[j]?=some (ys.map σ.v)) (hi:bm (ys.map σ.v)=[]) (h1:fB Sp Tl l ts r K (some (j+1)) (σ.put d (.bool true))) (h2:fB Sp Tl l ts r K none (σ.put d (.bool false))):
 fB Sp Tl l ts (.yl none d y ys::r) K (some j) σ:=⟨j,rfl,hp,hy,ht,hi,h1,h2⟩
theorem C8 {g:Option (Nat×Bool)} (hg:LH σ g=some true) {d f:Nat} {y:X} {ys:List X} {r:List FU} {K:Option Nat->St->Prop} {j:Nat} {us:List (List AV)} {vs:List AV} (hT:Tl f vs us) (hv:ys.map σ.v=vs) (hp:σ.pm=[]) (hy:σ.v y= .yv l) (ht: ∀i,i<us.length->ts[j+i]?=us[i]?) (hi:bm vs=[]) (h1:fB Sp Tl l ts r K (some (j+us.length)) (σ.put d (.bool true))) (h2:fB Sp Tl l ts r K none (σ.put d (.bool false))):
  fB Sp Tl l ts (.rc g d f ys y::r) K (some j) σ:=by
 subst hv;simp only[fB,hg];exact ⟨j,us,rfl,hp,hy,hT,ht,hi,h1,h2⟩
theorem Em {s:Nat} {b:Bool} {d f:Nat} {y:X} {ys:List X} {r:List FU} {K:Option Nat->St->Prop} (hg:JB (lk σ.e s) b=some false) (h:fB Sp Tl l ts r K k (σ.put d (.tup []))):fB Sp Tl l ts (.rc (some (s,b)) d f ys y::r) K k σ:=by
 simp only[fB,LH,hg];exact h
end
end Go.Ai
