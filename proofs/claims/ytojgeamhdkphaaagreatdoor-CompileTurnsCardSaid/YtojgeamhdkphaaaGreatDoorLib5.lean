/- Lib5: a part of the proof. Conditions: as each theorem says. -/
import Derived.Test.YtojgeamhdkphaaaGreatDoorLib4
import Derived.Scope
set_option linter.unusedSimpArgs false
set_option linter.unusedVariables false
namespace Go.Ai
open Go.RowKit
variable {P:Program} {F:Fr} {S:aR} {gb:Gb} {σ:St} {a:Act} {w:World}

theorem kI {ops:Array Oper} {j s:Nat} {t:Bool} (hd:((ops[j]?).bind (·.dst))=some s) (hv:a.tmps.getD s undef= .bool t):yielded ops a.tmps j=some t:=by
 unfold yielded;rw[hd];simp only[Option.bind_some];cases hq:a.tmps[s]? with
 |none=>simp[kC,hq,undef] at hv
 |some v=>simp[kC,hq] at hv;rw[hv]

theorem iO (h:aN F S gb σ a w) {ops:Array Oper} {o:Oper} {ao:bv} (hm:mt P F.GL F.N ops o ao=true) {K:St->Prop} (hw:bU (bC P F.GL) ao K σ) {K':Act->World->Prop} {Q:Exit->Act->World->Prop}
  (hK: ∀S gb σ a w,aN F S gb σ a w->K σ->K' a w):if Region.wanted o (yielded ops a.tmps)=true then o.wp P a w K' Q else K' (a.put o.dst undef) w:=by
 by_cases hg: ∃s b d o',ao= .gd s b d o'
 ·obtain ⟨s,b,d,ao',rfl⟩:=hg;simp only[mt,aJ,ax] at hm;obtain ⟨⟨h1,h2,h3⟩,h4⟩:=hm;split at h1<;>(try cases h1);rename_i j b' hgd;simp only[aJ,cI] at h1;obtain ⟨rfl,hdst⟩:=h1;simp only[bU] at hw;split at hw
  ·rename_i ht;have henv:=h.env s;rw[nI ht] at henv;simp only[PR] at henv;have hy:=kI (ops:=ops) hdst henv;simp only[Region.wanted,hgd,hy];rw[if_pos (by simp)];exact jY h h4 hw hK
  ·rename_i ht;have hy:(yielded ops a.tmps j==some b)=false:=by
    have henv:=h.env s;rcases ur ht with e|e
    ·rw[e] at henv;simp only[PR] at henv;rw[kI (ops:=ops) hdst henv];cases b<;>rfl
    ·rw[e] at henv;simp only[PR,aa] at henv;obtain ⟨us,hu,hn⟩:=henv
     have:yielded ops a.tmps j=none:=by
      unfold yielded;rw[hdst];simp only[Option.bind_some];cases hq:a.tmps[s]? with
      |none=>rfl
      |some v=>
       have:v= .tuple us:=by rw[<-hu];simp[tv,kC,hq]
       rw[this]
     rw[this];rfl
   simp only[Region.wanted,hgd,hy];rw[if_neg (by simp)];rw[h2];exact hK _ _ _ _ _ (h.put h3 (by simp only[PR,aa,undef];exact ⟨#[],rfl,rfl⟩)) hw
  ·cases hw
 ·have hm':o.guard=none/\dC P F.GL F.N o ao=true:=by
   cases ao<;>simp only[mt,aJ,Option.isNone_iff_eq_none] at hm<;>first|exact hm|exact absurd ⟨_,_,_,_,rfl⟩ hg
  simp only[Region.wanted,hm'.1,if_true];exact jY h hm'.2 hw hK

def lJ (P:Program) (GL:List (Nat×List Value)) (N:Nat) (ops:Array Oper):List Oper->List bv->Bool
 |[],[]=>true
 |o::r,ao::s=>mt P GL N ops o ao&&lJ P GL N ops r s
 |_,_=>false

theorem gg {ops:Array Oper} {K:St->Prop} {Q:Exit->Act->World->Prop} (hQ: ∀S gb σ a w,aN F S gb σ a w->K σ->Q .normal a w):
  ∀ {l:List Oper} {al:List bv},lJ P F.GL F.N ops l al=true-> ∀ {S:aR} {gb:Gb} {σ:St} {a:Act} {w:World},aN F S gb σ a w->lu (bC P F.GL) al K σ->wpList P ops Q l a w
 |[],al,hm,S,gb,σ,a,w,h,hw=>by
  cases al<;>simp[lJ] at hm;exact hQ _ _ _ _ _ h hw
 |o::r,al,hm,S,gb,σ,a,w,h,hw=>by
  cases al with
  |nil=>simp[lJ] at hm
  |cons ao s=>
   simp only[lJ,aJ] at hm;simp only[lu] at hw
   have:=iO h hm.1 hw (K':=wpList P ops Q r) (Q:=Q) (fun S gb σ a w h' hk=>gg hQ hm.2 h' hk)
   simp only[wpList];split
   ·rename_i hc;rw[if_pos hc] at this;exact .inl this
   ·rename_i hc;rw[if_neg hc] at this;exact this

def mC (P:Program) (GL:List (Nat×List Value)) (N:Nat) (dr:Array Oper->List (List Nat)->List bv->Bool):Code->AC->Bool
 | .skip,.sk=>true
 | .region _ ops false,.rg l=>lJ P GL N ops ops.toList l
 | .region _ ops false,.fz _ l=>lJ P GL N ops ops.toList l
 | .region _ ops true,.rd us l=>lJ P GL N ops ops.toList l&&dr ops us l
 | .seq x y,.sq x' y'=>mC P GL N dr x x'&&mC P GL N dr y y'
 | .cond c x y,.cd c' x' y'=>mX GL c' c&&mC P GL N dr x x'&&mC P GL N dr y y'
 | .block i x,.bl j x'=>i==j&&mC P GL N dr x x'
 | .loop x,.lp x'=>mC P GL N dr x x'
 | .exit i,.ex j=>i==j
 | .ret,.rt=>true
 | .scope x,.sc x'=>mC P GL N dr x x'
 | .label _,.lb=>true
 | .goto _,.no=>true
 | .refuse _,.no=>true
 |_,_=>false

def yL:AE->Exit
 | .n=> .normal
 | .x i=> .exit i
 | .r=> .ret

structure b7 (P:Program) (GL:List (Nat×List Value)) (N:Nat) (dr:Array Oper->List (List Nat)->List bv->Bool):Prop where
 mix:P.follows .mixedOrders=true
 rd: ∀(F:Fr),F.GL=GL->F.N=N-> ∀(id:Nat) (ops:Array Oper) (us:List (List Nat)) (l:List bv),lJ P F.GL F.N ops ops.toList l=true->dr ops us l=true-> ∀(K:St->Prop) (Q:Exit->Act->World->Prop),(∀S gb σ a w,aN F S gb σ a w->K σ->Q .normal a w)->
  ∀ {S:aR} {gb:Gb} {σ:St} {a:Act} {w:World},aN F S gb σ a w->jG (bC P F.GL) us l 0 [] K σ->(Code.region id ops true).wp P Q a w

theorem eA {dr:Array Oper->List (List Nat)->List bv->Bool} (hd:b7 P F.GL F.N dr): ∀ {c:Code} {ac:AC},mC P F.GL F.N dr c ac=true-> ∀ {Q:AE->St->Prop} {Q':Exit->Act->World->Prop},(∀e S gb σ a w,aN F S gb σ a w->Q e σ->Q' (yL e) a w)->
  ∀ {S:aR} {gb:Gb} {σ:St} {a:Act} {w:World},aN F S gb σ a w->dK (bC P F.GL) ac Q σ->c.wp P Q' a w:=by
 intro c;induction c with
 |skip=>
  intro ac hm Q Q' hQ S gb σ a w h hw;cases ac<;>simp[mC] at hm;exact wp_skip (hQ .n _ _ _ _ _ h hw)
 |region id ops draw=>
  intro ac hm Q Q' hQ S gb σ a w h hw;cases ac
  case rg l=>
   cases draw<;>simp[mC] at hm;exact wp_region_list (gg (fun S gb σ a w h' hk=>hQ .n _ _ _ _ _ h' hk) hm h hw)
  case rd us l=>
   cases draw<;>simp[mC] at hm;exact hd.rd F rfl rfl id ops us l hm.1 hm.2 (Q .n) Q' (fun S gb σ a w h' hk=>hQ .n _ _ _ _ _ h' hk) h hw
  case fz s l=>
   cases draw<;>simp[mC] at hm;simp only[dK] at hw;obtain ⟨τ,hτ,b,n,sz,rows,tl,hf,hk,hw⟩:=hw;obtain ⟨S0,fP,h⟩:=h.kids hτ;obtain ⟨S',gb',h'⟩:=h.freezeP hf hk;exact wp_region_list (gg (fun S gb σ a w h' hk=>hQ .n _ _ _ _ _ h' hk) hm h' hw)
  all_goals (cases draw<;>simp[mC] at hm)
 |seq x y ihx ihy=>
  intro ac hm Q Q' hQ S gb σ a w h hw;cases ac
  case sq x' y'=>
   simp[mC] at hm;refine wp_seq (ihx hm.1 (Q:=AE.sq (dK (bC P F.GL) y' Q) Q) ?_ h hw);intro e S gb σ a w h' hq;cases e
   ·exact ihy hm.2 hQ h' hq
   ·exact hQ (.x _) _ _ _ _ _ h' hq
   ·exact hQ .r _ _ _ _ _ h' hq
  all_goals simp[mC] at hm
 |cond c x y ihx ihy=>
  intro ac hm Q Q' hQ S gb σ a w h hw;cases ac<;>simp[mC] at hm;rename_i c' x' y';obtain ⟨⟨hc,hx⟩,hy⟩:=hm;have hv:=az h hc;simp only[dK] at hw;split at hw
  ·rename_i t ht;rw[ht] at hv;simp only[PR] at hv;refine wp_cond hv ?_;cases t
   ·exact ihy hy hQ h (by simpa using hw)
   ·exact ihx hx hQ h (by simpa using hw)
  ·cases hw
 |block i x ih=>
  intro ac hm Q Q' hQ S gb σ a w h hw;cases ac<;>simp[mC] at hm;rename_i j x';obtain ⟨rfl,hx⟩:=hm;refine wp_block (ih hx (Q:=AE.bl i Q) ?_ h hw);intro e S gb σ a w h' hq;cases e
  ·exact hQ .n _ _ _ _ _ h' hq
  ·rename_i j;simp only[yL,Exit.inBlock];simp only[AE.bl] at hq;split at hq
   ·rename_i e;rw[if_pos e];exact hQ .n _ _ _ _ _ h' hq
   ·rename_i e;rw[if_neg e];exact hQ (.x _) _ _ _ _ _ h' hq
  ·exact hQ .r _ _ _ _ _ h' hq
 |loop x ih=>
  intro ac hm Q Q' hQ S gb σ a w h hw;cases ac<;>simp[mC] at hm;rename_i x';simp only[dK] at hw;obtain ⟨n,hn⟩:=hw;intro b k cs;have key: ∀n S gb σ a w,aN F S gb σ a w->Cu (dK (bC P F.GL) x') Q n σ-> ∃e a' w',Q' e a' w'/\Arrives P (lone (b.at a (.code x:: .inLoop x::k)) cs w) b k cs e a' w':=by
   intro n;induction n with
   |zero=>intro S gb σ a w h hn;exact hn.elim
   |succ n ihn=>
    intro S gb σ a w h hn;obtain ⟨τ,hτ,hb⟩:=hn;obtain ⟨gb',h'⟩:=h.weakR hτ;obtain ⟨e,a₁,w₁,hq,harr⟩:=ih hm (Q:=AE.sq (Cu (dK (bC P F.GL) x') Q n) Q) (Q':=Exit.then (fun a w=> ∃S gb σ,aN F S gb σ a w/\Cu (dK (bC P F.GL) x') Q n σ) Q') (by
     intro e S gb σ a w h'' hq;cases e
     ·exact ⟨_,_,_,h'',hq⟩
     ·exact hQ (.x _) _ _ _ _ _ h'' hq
     ·exact hQ .r _ _ _ _ _ h'' hq) h' hb b (.inLoop x::k) cs
    cases e with
    |normal=>
     obtain ⟨S1,gb1,σ1,h1,hi1⟩:=hq;obtain ⟨e₂,a₂,w₂,hq₂,harr₂⟩:=ihn _ _ _ _ _ h1 hi1;exact ⟨e₂,a₂,w₂,hq₂,.of_steps (Steps.trans harr (.one step_inLoop)) harr₂⟩
    |exit id=>exact ⟨_,a₁,w₁,hq,.pass (x:= .inLoop x) rfl (fun _ _=> .inl (by simp)) harr⟩
    |goto l=>exact ⟨_,a₁,w₁,hq,.pass (x:= .inLoop x) rfl (fun _ _=> .inl (by simp)) harr⟩
    |ret=>exact ⟨_,a₁,w₁,hq,.pass (x:= .inLoop x) rfl (fun _ _=> .inl (by simp)) harr⟩
    |panic ch=>exact ⟨_,a₁,w₁,hq,.pass (x:= .inLoop x) rfl (fun _ _=> .inl (by simp)) harr⟩
    |outgrown=>exact ⟨_,a₁,w₁,hq,.pass (x:= .inLoop x) rfl (fun _ _=> .inl (by simp)) harr⟩
  obtain ⟨e,a',w',hq,harr⟩:=key n _ _ _ _ _ h hn;exact ⟨e,a',w',hq,.of_steps (.one step_loop) harr⟩
 |rangeFunc=>intro ac hm;cases ac<;>simp[mC] at hm
 |exit i=>
  intro ac hm Q Q' hQ S gb σ a w h hw;cases ac<;>simp[mC] at hm;subst hm;exact wp_exit (hQ (.x _) _ _ _ _ _ h hw)
 |scope x ih=>
  intro ac hm Q Q' hQ S gb σ a w h hw;cases ac<;>simp[mC] at hm;refine wp_scope_straight (ih hm (Q:=Q) ?_ h hw);intro e S gb σ a w h' hq;cases e<;>exact hQ _ _ _ _ _ _ h' hq
 |label l=>
  intro ac hm Q Q' hQ S gb σ a w h hw;cases ac<;>simp[mC] at hm;exact wp_label (hQ .n _ _ _ _ _ h hw)
 |goto l=>
  intro ac hm Q Q' hQ S gb σ a w h hw;cases ac<;>simp[mC] at hm;exact (show False from hw).elim
 |ret=>
  intro ac hm Q Q' hQ S gb σ a w h hw;cases ac<;>simp[mC] at hm;exact wp_ret (hQ .r _ _ _ _ _ h hw)
 |refuse=>
  intro ac hm Q Q' hQ S gb σ a w h hw;cases ac<;>simp[mC] at hm;exact (show False from hw).elim
end Go.Ai
namespace Go.Ai
open Go.RowKit
variable {P:Program} {F:Fr} {S:aR} {gb:Gb} {σ:St} {a:Act} {w:World}

inductive AR where
 |t (s:Nat)
 |cs (s:Nat)
 |ca (s n:Nat)

structure AF where
 c:AC
 rs:List AR
 np:Nat
 N:Nat

def gh (σ:St):List AR->Option (List AV)
 |[]=>some []
 | .t s::r=>match gh σ r with
  |some vs=>some (lk σ.e s::vs)
  |none=>none
 | .cs s::r=>match e8 σ.bx (lk σ.e s),gh σ r with
  |some v,some vs=>some (v::vs)
  |_,_=>none
 | .ca s n::r=>match uq σ.bx n (lk σ.e s),gh σ r with
  |some v,some vs=>some (v::vs)
  |_,_=>none

def vQ:List AV->AV
 |[v]=>v
 |vs=> .tup vs

def ja (rs:List AR) (r:AV):AE->St->Prop
 | .x _,_=>False
 |_,σ=>match gh σ rs with
  |some vs=>em (vQ vs)=some r
  |none=>False

def dD:Nat->List AV->List (Nat×AV)
 |_,[]=>[]
 |i,v::r=>(i,v)::dD (i+1) r

def AI (P:Program):List AR->List ResultVar->Bool
 |[],[]=>true
 | .t s::r,.tmp t::q=>s==t&&AI P r q
 | .cs s::r,.cell t T::q=>s==t&&mW P T&&AI P r q
 | .ca s n::r,.cell t T::q=>s==t&&jV P T&&pW P T==some n&&AI P r q
 |_,_=>false

def mF (P:Program) (GL:List (Nat×List Value)) (dr:Array Oper->List (List Nat)->List bv->Bool) (fn:Func) (f:AF):Bool:=
 fn.name != "runtime.NumGoroutine"&&fn.params.size+fn.nfree==f.np&&fn.ntmps==f.N&&Nat.ble f.np f.N&&AI P f.rs fn.results.toList&&(match fn.body with |some c=>mC P GL f.N dr c f.c|none=>false)

def Gz (tmps:Array Value):ResultVar->Sem Value
 | .tmp t=>pure (tmps.getD t undef)
 | .cell a t=>do loadVar t (<-asAddr (tmps.getD a undef))
theorem rI (fn:Func) (tmps:Array Value):results fn tmps=(do let vs <-fn.results.mapM (Gz tmps);pure (if h:vs.size=1 then vs[0] else .tuple vs)):=rfl

theorem mb (h:aN F S gb σ a w): ∀ {rs:List AR} {qs:List ResultVar} {vs:List AV},AI P rs qs=true->gh σ rs=some vs-> ∀(acc:Array Value),
  ∃us,(qs.foldlM (fun (bs:Array Value) (q:ResultVar)=>(Functor.map bs.push (Gz a.tmps q):Sem (Array Value))) acc).run P w= .ok (acc++us.toArray) w/\aa S gb vs us/\ ∀(i s:Nat),rs[i]?=some (AR.t s)->us[i]?=some (tv a s)
 |[],qs,vs,hm,hr,acc=>by
  cases qs<;>simp[AI] at hm;simp[gh] at hr;subst hr;exact ⟨[],by simp,by simp[aa],by simp⟩
 | .t s::r,qs,vs,hm,hr,acc=>by
  match qs,hm with
  | .tmp t::q,hm=>
   simp only[AI,aJ,cI] at hm;obtain ⟨rfl,hm⟩:=hm;simp only[gh] at hr;split at hr
   ·rename_i vs' hvs;simp only[cW] at hr;subst hr;obtain ⟨us,g1,g2,g3⟩:=mb h hm hvs (acc.push (a.tmps.getD s undef));refine ⟨a.tmps.getD s undef::us,?_,⟨_,_,rfl,h.env s,g2⟩,by
     intro i s' hi;cases i with
     |zero=>simp at hi;subst hi;rfl
     |succ i=>simpa using g3 i s' (by simpa using hi)⟩
    have:(Gz a.tmps (.tmp s)).run P w= .ok (a.tmps.getD s undef) w:=rfl
    simp only[List.foldlM_cons,Sem.run_bind,Sem.run_map,this,Result.andThen_ok];rw[g1];simp
   ·cases hr
 | .cs s::r,qs,vs,hm,hr,acc=>by
  match qs,hm with
  | .cell t T::q,hm=>
   simp only[AI,aJ,cI] at hm;obtain ⟨⟨rfl,ht⟩,hm⟩:=hm;simp only[gh] at hr;split at hr
   ·rename_i v vs' hl hvs;simp only[cW] at hr;subst hr;obtain ⟨u,hu,hp⟩:=lG h ht hl (h.env s);obtain ⟨us,g1,g2,g3⟩:=mb h hm hvs (acc.push u);refine ⟨u::us,?_,⟨_,_,rfl,hp,g2⟩,by
     intro i s' hi;cases i with
     |zero=>simp at hi
     |succ i=>simpa using g3 i s' (by simpa using hi)⟩
    have:(Gz a.tmps (.cell s T)).run P w= .ok u w:=by
     show (do loadVar T (<-asAddr (a.tmps.getD s undef)):Sem Value).run P w= .ok u w;have hu:(Instr.loadAt T (a.tmps.getD s undef)).run P w= .ok u w:=hu;generalize a.tmps.getD s undef=pv at hu ⊢;cases pv<;>simp[Instr.loadAt,Instr.sureAddr] at hu;rename_i ad;cases ad<;>simp at hu;simpa[asAddr] using hu
    simp only[List.foldlM_cons,Sem.run_bind,Sem.run_map,this,Result.andThen_ok];rw[g1];simp
   ·cases hr
 | .ca s n::r,qs,vs,hm,hr,acc=>by
  match qs,hm with
  | .cell t T::q,hm=>
   simp only[AI,aJ,cI] at hm;obtain ⟨⟨⟨rfl,ht⟩,hn⟩,hm⟩:=hm;simp only[gh] at hr;split at hr
   ·rename_i v vs' hl hvs;simp only[cW] at hr;subst hr;obtain ⟨u,hu,hp⟩:=pY h ht hn hl (h.env s);obtain ⟨us,g1,g2,g3⟩:=mb h hm hvs (acc.push u);refine ⟨u::us,?_,⟨_,_,rfl,hp,g2⟩,by
     intro i s' hi;cases i with
     |zero=>simp at hi
     |succ i=>simpa using g3 i s' (by simpa using hi)⟩
    have:(Gz a.tmps (.cell s T)).run P w= .ok u w:=by
     show (do loadVar T (<-asAddr (a.tmps.getD s undef)):Sem Value).run P w= .ok u w;have hu:(Instr.loadAt T (a.tmps.getD s undef)).run P w= .ok u w:=hu;generalize a.tmps.getD s undef=pv at hu ⊢;cases pv<;>simp[Instr.loadAt,Instr.sureAddr] at hu;rename_i ad;cases ad<;>simp at hu;simpa[asAddr] using hu
    simp only[List.foldlM_cons,Sem.run_bind,Sem.run_map,this,Result.andThen_ok];rw[g1];simp
   ·cases hr

theorem fU {as:List AV} {us:List Value} (h:aa S gb as us): ∀(i t:Nat),(t<i->lk (dD i as) t= .undef)/\(∀j,t=i+j->PR S gb (lk (dD i as) t) (us.getD j undef)):=by
 induction as generalizing us with
 |nil=>intro i t;simp[dD,lk,PR]
 |cons c r ih=>
  simp only[aa] at h;obtain ⟨u,us',rfl,h1,h2⟩:=h;intro i t;simp only[dD,lk];constructor
  ·intro hlt;rw[if_neg (by omega)];exact (ih h2 (i+1) t).1 (by omega)
  ·intro j hj;split
   ·rename_i e
    have:j=0:=by omega
    subst this;simpa using h1
   ·rename_i e
    have:j≠0:=by omega
    obtain ⟨j',rfl⟩: ∃j',j=j'+1:=⟨j - 1,by omega⟩
    have:=(ih h2 (i+1) t).2 j' (by omega)
    simpa using this

theorem dP {vs:List Value} {n t:Nat}:tv {tmps:=vs.toArray++Array.replicate n undef,defers:=[]} t=vs.getD t undef:=by
 simp only[tv,kC,Array.getElem?_append,Cq];split
 ·simp
 ·rename_i hge;simp only[List.size_toArray,Nat.not_lt] at hge;rw[Ga hge,Array.getElem?_replicate];split<;>simp

theorem kJ {fn:Func} {rs:List AR} (h:aN F S gb σ a w) (h5:AI P rs fn.results.toList=true) {vs':List AV} (hv:gh σ rs=some vs'):
  ∃us:List Value,(results fn a.tmps).run P w= .ok (if h:us.toArray.size=1 then us.toArray[0] else .tuple us.toArray) w/\aa S gb vs' us/\ ∀(i s:Nat),rs[i]?=some (AR.t s)->us[i]?=some (tv a s):=by
 obtain ⟨us,g1,g2⟩:=mb (P:=P) h h5 hv #[];refine ⟨us,?_,g2⟩;rw[rI,Sem.run_bind,Array.mapM_eq_foldlM,<-Array.foldlM_toList];simp only[Array.empty_append] at g1;rw[g1];simp
theorem A9 {vs':List AV} {us:List Value} (g2:aa S gb vs' us):PR S gb (vQ vs') (if h:us.toArray.size=1 then us.toArray[0] else .tuple us.toArray):=by
 match vs',us,g2 with
 |[],us,g2=>
  simp only[aa] at g2;subst g2;simp only[vQ,PR];exact ⟨#[],by simp,by simp[aa]⟩
 |[v],us,g2=>
  simp only[aa] at g2;obtain ⟨u,_,rfl,hp,rfl⟩:=g2;exact hp
 |v1::v2::r',us,g2=>
  have hl2:=g2.length;simp only[vQ,PR];refine ⟨us.toArray,?_,by simpa using g2⟩;rw[dif_neg];simp only[e7] at hl2;simp;omega

theorem PR.noids {S:aR} {gb gb':Gb} (v:AV) (u:Value) (h:v.ids=[]) (hp:PR S gb v u):PR S gb' v u:=PR.restr v u (fun d hd=>by rw[h] at hd;cases hd) hp
theorem aa.noids {S:aR} {gb gb':Gb} (v:List AV) (u:List Value) (h:bm v=[]) (hp:aa S gb v u):aa S gb' v u:=aa.restr v u (fun d hd=>by rw[h] at hd;cases hd) hp

def eB (gb:Gb):Gb:=fun i=>match i with
 | .up j=>gb j
 |_=>none

theorem D8 {GL:List (Nat×List Value)} {dr:Array Oper->List (List Nat)->List bv->Bool} {f:Nat} {fn:Func} {af:AF} (hf:P.funcs[f]?=some fn) (hm:mF P GL dr fn af=true) (hd:b7 P GL af.N dr) {l:List AV} {r:AV} (hl:l.length=af.np) (hi:bm l=[])
  (hw:dK (bC P GL) af.c (ja af.rs r) ⟨dD 0 l,[],[]⟩):rh (bC P GL) f l r:=by
 intro d;simp only[mF,aJ,bne_iff_ne,cI] at hm;obtain ⟨⟨⟨⟨⟨h1,h2⟩,h3⟩,h4⟩,h5⟩,h6⟩:=hm;split at h6<;>(try cases h6);rename_i c hb;have h4:=Nat.le_of_ble_eq_true h4;intro S gb w vs hvs hhr hglo hnw;have hlen:vs.length=l.length:=hvs.length.symm;unfold lH;have hcall:(callFunc f vs.toArray).run P w= .ok (.enter f vs.toArray) w:=by
  simp[callFunc,hf,hb,h1]
 rw[hcall];refine calls_of_wp hf hb ?_
 let F:Fr:=⟨S,w,MS ⟨l,[],[]⟩ gb (fun t=>vs.getD t undef) w,gb,af.N,GL,[]⟩
 have hrel:aN F S (eB gb) ⟨dD 0 l,[],[]⟩ {tmps:=vs.toArray++Array.replicate (fn.ntmps - vs.toArray.size) undef,defers:=[]} w:=by
  refine ⟨rfl,?_,Bw.refl _ _,fun _ _ _ _=>rfl,aR.le.refl _,?_,⟨hhr.agree,?_,?_,?_,?_,?_,?_,?_⟩,?_,?_,?_,fun d=>rfl,hglo⟩
  ·show (vs.toArray++Array.replicate (fn.ntmps - vs.toArray.size) undef).size=af.N;simp;omega
  ·intro t
   have:=(fU (aa.noids (gb':=eB gb) _ _ hi hvs) 0 t).2 t (by omega)
   rw[dP];exact this
  ·intro d cs hcs;simp[aD] at hcs
  ·intro d cs hcs;simp[aD] at hcs
  ·intro d d' g z z' hg;simp[aD] at hg
  ·intro p k hk;simp[aH] at hk
  ·intro p q k l b hk;simp[aH] at hk
  ·intro p k b d z hk;simp[aH] at hk
  ·intro d off k hk;simp[aH] at hk
  ·intro d g z hg;simp[aD] at hg
  ·intro p k g hk;simp[aH] at hk
  ·intro d hd;cases d<;>simp[eB,Id.isUp] at hd ⊢
 refine eA (F:=F) hd h6 (Q:=ja af.rs r) ?_ hrel hw;intro e S' gb' σ' a' w' hr hq;have fin: ∀vs',gh σ' af.rs=some vs'->em (vQ vs')=some r->a'.defers=[]/\ ∃v,(results fn a'.tmps).run P w'= .ok v w'/\(∃u,Ending.returned v= .returned u/\ ∃S'' gb'',dL d ⟨l,[],[]⟩ ⟨r,[],[]⟩ S gb (fun t=>vs.getD t undef) w S'' gb'' u w'):=by
  intro vs' hv hs;refine ⟨hr.defers,?_⟩;obtain ⟨us,hrun,g2,_⟩:=kJ (P:=P) hr h5 hv;refine ⟨_,hrun,_,rfl,S',gb,hr.bw,hr.ext,hr.le,fun _ _=>rfl,fun i hi hne=>absurd (hnw i hi) hne,uD (cf _ _ _ hs (A9 g2)),⟨hr.hr.agree,?_,?_,?_,?_,?_,?_,?_⟩,?_,?_⟩
  ·intro d cs hcs;simp[aD] at hcs
  ·intro d cs hcs;simp[aD] at hcs
  ·intro d d' g z z' hg;simp[aD] at hg
  ·intro p k hk;simp[aH] at hk
  ·intro p q k l b hk;simp[aH] at hk
  ·intro p k b d z hk;simp[aH] at hk
  ·intro d off k hk;simp[aH] at hk
  ·intro d g z hg;simp[aD] at hg
  ·intro p k g hk;simp[aH] at hk
 cases e
 ·simp only[ja] at hq;split at hq
  ·rename_i vs' hv;exact fin vs' hv hq
  ·cases hq
 ·exact hq.elim
 ·simp only[ja] at hq;split at hq
  ·rename_i vs' hv;exact fin vs' hv hq
  ·cases hq
end Go.Ai
namespace Go.Ai
open Go.RowKit

structure LS where
 E:Nat->AV
 B:Id->Option (List AV)
 M:Pl->Option Nat
def cK (σ:St):LS:=⟨lk σ.e,aD σ.bx,aH σ.pm⟩

theorem LS.ext' {u v:LS} (h1: ∀t,u.E t=v.E t) (h2: ∀t,u.B t=v.B t) (h3: ∀t,u.M t=v.M t):u=v:=by
 cases u;cases v;simp only[LS.mk.injEq];exact ⟨funext h1,funext h2,funext h3⟩

inductive Dl where
 |put (d:Nat) (v:AV)
 |puto (d:Nat) (v:AV) (k:Nat)
 |mo (d s:Nat) (v:AV) (k:Nat)
 |box (d:Nat) (cs:List AV)
 |st (d:Id) (off n:Nat) (cs:List AV)
 |lo (d:Nat) (b:Id) (off:Nat) (v:AV) (k:Nat)
 |so (d:Id) (off s:Nat) (cs:List AV) (k:Nat)
 |rdc (d:Nat) (b:Id) (v:AV)
 |call (d:Nat) (xs:List X) (I:In) (O:bO)

def Dl.ap:Dl->St->St
 | .put d v,σ=>σ.put d v
 | .puto d v k,σ=>σ.puto d v k
 | .mo d s v k,σ=>⟨(d,v)::σ.e,σ.bx,(.s d,k)::gV (dl σ.pm (.s s)) d⟩
 | .box d cs,σ=>⟨(d,.ptr (.n d) 0)::σ.e,(.n d,cs)::σ.bx,gV σ.pm d⟩
 | .st d off n cs,σ=>⟨σ.e,Cr σ.bx d cs,xA σ.pm d off n⟩
 | .lo d b off v k,σ=>⟨(d,v)::σ.e,σ.bx,(.s d,k)::gV (dl σ.pm (.b b off)) d⟩
 | .so d off s cs k,σ=>⟨σ.e,Cr σ.bx d cs,(.b d off,k)::dl (dl σ.pm (.s s)) (.b d off)⟩
 | .rdc d b v,σ=>⟨(d,v)::σ.e,σ.bx,gV (tP σ.pm b) d⟩
 | .call d xs I O,σ=>bB d σ xs I O

def Dl.e?:Dl->Option (Nat×AV)
 | .put d v=>some (d,v)
 | .puto d v _=>some (d,v)
 | .mo d _ v _=>some (d,v)
 | .box d _=>some (d,.ptr (.n d) 0)
 | .lo d _ _ v _=>some (d,v)
 | .rdc d _ v=>some (d,v)
 | .call d _ _ O=>some (d,O.r)
 |_=>none
def Dl.b?:Dl->Id->Option (List AV)
 | .box d cs,i=>if .n d=i then some cs else none
 | .st d _ _ cs,i=>if d=i then some cs else none
 | .so d _ _ cs _,i=>if d=i then some cs else none
 | .call _ _ _ O,i=>aD O.bx i
 |_,_=>none
def eK (d:Id) (off n:Nat):Pl->Bool
 | .b e o=>e==d&&Nat.ble off o&&Nat.blt o (off+n)
 |_=>false
def Cz (b:Id):Pl->Bool
 | .b e _=>e==b
 |_=>false
theorem Ba (l:List (Pl×Nat)) (b:Id) (q:Pl):aH (tP l b) q=if Cz b q=true then none else aH l q:=by
 rw[kE];cases q<;>simp[Cz]
def Dl.m?:Dl->Pl->Option (Option Nat)
 | .put d _,p=>if p.at d=true then some none else none
 | .puto d _ k,p=>if p= .s d then some (some k) else if p.at d=true then some none else none
 | .mo d s _ k,p=>if p= .s d then some (some k) else if p.at d=true then some none else if p= .s s then some none else none
 | .box d _,p=>if p.at d=true then some none else none
 | .st d off n _,p=>if eK d off n p=true then some none else none
 | .lo d b off _ k,p=>if p= .s d then some (some k) else if p.at d=true then some none else if p= .b b off then some none else none
 | .so d off s _ k,p=>if p= .b d off then some (some k) else if p= .s s then some none else none
 | .rdc d b _,p=>if p.at d=true then some none else if Cz b p=true then some none else none
 | .call d _ I O,p=>if p.at d=true then some none else match aH O.pm p with
  |some k=>some (some k)
  |none=>match p with
   | .b e _=>if (aD I.bx e).isSome then some none else none
   |_=>none
def Dl.app (δ:Dl) (v:LS):LS:=
 ⟨fun t=>match δ.e? with |some (d,x)=>if d=t then x else v.E t|none=>v.E t,
  fun b=>match δ.b? b with |some cs=>some cs|none=>v.B b,
  fun p=>match δ.m? p with |some x=>x|none=>v.M p⟩

theorem Bb (l:List (Pl×Nat)) (d:Id) (off n:Nat) (q:Pl):aH (xA l d off n) q=if eK d off n q=true then none else aH l q:=by
 induction l with
 |nil=>simp[xA,aH]
 |cons x r ih=>
  obtain ⟨y,k'⟩:=x;cases y with
  |s t=>
   simp only[xA,aH];split
   ·rename_i h2;subst h2;simp[eK]
   ·exact ih
  |t t i=>
   simp only[xA,aH];split
   ·rename_i h2;subst h2;simp[eK]
   ·exact ih
  |b e o=>
   simp only[xA];split
   ·rename_i h2;rw[ih];simp only[aH];split
    ·rfl
    ·rename_i h3;rw[if_neg];intro e';subst e';obtain ⟨rfl,h4,h5⟩:=h2;exact h3 (by simp[eK,Nat.ble_eq,Nat.blt_eq,h4,h5])
   ·rename_i h2;simp only[aH,ih];split
    ·rename_i h3;subst h3;rw[if_neg];intro h4;simp only[eK,aJ,cI,Nat.ble_eq,Nat.blt_eq] at h4;exact h2 ⟨h4.1.1,h4.1.2,h4.2⟩
    ·rfl

def Od (d:Nat) (s:Option X) (v:AV) (k:Nat):Dl:=match s with
 |some (.s t)=> .mo d t v k
 |_=> .puto d v k
theorem GA (d:Nat) (s:Option X) (v:AV) (k:Nat) (σ:St):(Od d s v k).ap σ=AT d s v k σ:=by
 cases s with
 |none=>rfl
 |some x=>cases x<;>rfl
def Dl.fits (δ:Dl) (σ:St):Prop:=
 match δ with
 | .st d _ _ _=>(aD σ.bx d).isSome
 | .so d _ _ _ _=>(aD σ.bx d).isSome
 | .call _ _ I O=>(∀p∈I.bx,(aD O.bx p.1).isSome)/\(∀p∈I.pm,p.1.isB=true)/\(∀p∈O.pm,p.1.isB=true)
 |_=>True
theorem mc: ∀ {l:List (Id×List AV)} {i:Id},(aD l i).isSome-> ∃cs,(i,cs)∈l:=by
 intro l i h;obtain ⟨cs,hcs⟩:=jp.1 h;exact ⟨cs,cF _ _ _ hcs⟩
theorem lK: ∀(r:List (Id×List AV)) (l:List (Pl×Nat)) (p:Pl),aH (lq l r) p=match p with | .b e _=>if (aD r e).isSome then none else aH l p|_=>aH l p
 |[],l,p=>by cases p<;>simp[lq,aD]
 |(d,c)::r,l,p=>by
  simp only[lq];rw[lK r];cases p with
  |s t=>simp only[kE]
  |t t i=>simp only[kE]
  |b e o=>
   simp only[kE,aD];by_cases h:d=e
   ·subst h;simp
   ·have h': ¬e=d:=fun q=>h q.symm
    simp[h,h']
theorem rJ (xs:List X): ∀(r l:List (Pl×Nat)),(∀p∈r,p.1.isB=true)->jF xs l r=l
 |[],l,_=>rfl
 |(.b e o,k)::r,l,h=>by
  simp only[jF];exact rJ xs r l fun p hp=>h p (List.mem_cons_of_mem _ hp)
 |(.s t,k)::r,l,h=>by have:=h _ (List.mem_cons_self ..);cases this
 |(.t t i,k)::r,l,h=>by have:=h _ (List.mem_cons_self ..);cases this
theorem yM (d:Nat): ∀(l:List (Pl×Nat)),(∀p∈l,p.1.isB=true)->lr d l=l
 |[],_=>rfl
 |(.b e o,k)::r,h=>by
  simp only[lr];rw[yM d r fun p hp=>h p (List.mem_cons_of_mem _ hp)]
 |(.s t,k)::r,h=>by have:=h _ (List.mem_cons_self ..);cases this
 |(.t t i,k)::r,h=>by have:=h _ (List.mem_cons_self ..);cases this
theorem CA: ∀ {l:List (Pl×Nat)} {p:Pl} {k:Nat},(∀p∈l,p.1.isB=true)->aH l p=some k->p.isB=true
 |[],p,k,_,h=>by simp[aH] at h
 |(q,k0)::r,p,k,hb,h=>by
  simp only[aH] at h;split at h
  ·rename_i e;subst e;exact hb _ (List.mem_cons_self ..)
  ·exact CA (fun p hp=>hb p (List.mem_cons_of_mem _ hp)) h
theorem rK: ∀ {l:List (Id×List AV)} {p:Id×List AV},p∈l->(aD l p.1).isSome
 |(k,v)::r,p,h=>by
  simp only[aD];split
  ·rfl
  ·rename_i e;rcases nH.1 h with h|h
   ·exact absurd (by rw[h]) e
   ·exact rK h
theorem vS {p:Pl} {d:Nat} (h:p.isB=true):p.at d=false:=by cases p<;>simp_all[Pl.isB,Pl.at]
theorem CD {δ:Dl} {σ:St} (h:δ.fits σ):cK (δ.ap σ)=δ.app (cK σ):=by
 apply LS.ext'
 ·intro t;cases δ<;>simp[cK,Dl.ap,Dl.app,Dl.e?,St.put,St.puto,bB,lk]
 ·intro t;cases δ<;>simp only[cK,Dl.ap,Dl.app,Dl.b?,St.put,St.puto,aD]
  case box d cs=>by_cases e:Id.n d=t<;>simp[e]
  case call d xs I O=>
   simp only[Dl.fits] at h;simp only[bB,iF,jW];cases h1:aD O.bx t with
   |some c=>rfl
   |none=>
    simp only[];rw[if_neg];intro h2;obtain ⟨cs,hm⟩:=mc h2
    have:=h.1 _ hm
    rw[h1] at this;cases this
  case st d off n cs=>
   simp only[Dl.fits] at h;rw[nP t h];by_cases e:d=t
   ·subst e;simp
   ·have e': ¬t=d:=fun q=>e q.symm
    simp[e,e']
  case so d off s' cs k=>
   simp only[Dl.fits] at h;rw[nP t h];by_cases e:d=t
   ·subst e;simp
   ·have e': ¬t=d:=fun q=>e q.symm
    simp[e,e']
 ·intro p;have e1: ∀q:Pl,(q=p)=(p=q):=fun q=>propext ⟨fun e=>e.symm,fun e=>e.symm⟩
  cases δ<;>simp only[cK,Dl.ap,Dl.app,Dl.m?,St.put,St.puto,aH,jH,gJ,Bb,Ba,e1]
  case put d v=>by_cases h1:p.at d=true<;>simp[h1]
  case puto d v k=>by_cases h0:p= .s d<;>by_cases h1:p.at d=true<;>simp[h0,h1]
  case mo d s' v k=>
   by_cases h0:p= .s d
   ·simp[h0]
   ·by_cases h1:p.at d=true
    ·simp[h0,h1]
    ·by_cases h2:p= .s s'
     ·simp only[if_neg h0,if_neg h1,if_pos h2]
     ·simp only[if_neg h0,if_neg h1,if_neg h2]
  case box d cs=>by_cases h1:p.at d=true<;>simp[h1]
  case st d off n cs=>by_cases h1:eK d off n p=true<;>simp[h1]
  case lo d b off v k=>by_cases h0:p= .s d<;>by_cases h1:p.at d=true<;>by_cases h2:p= .b b off<;>simp[h0,h1,h2]
  case rdc d b v=>by_cases h1:p.at d=true<;>by_cases h2:Cz b p=true<;>simp[h1,h2]
  case call d xs I O=>
   simp only[Dl.fits] at h;obtain ⟨h1,h2,h3⟩:=h;simp only[bB,vP,rJ _ _ _ h2,yM _ _ h3,gJ,lK];cases h4:aH O.pm p with
   |some k=>
    have:=vS (d:=d) (CA h3 h4)
    simp[this]
   |none=>
    by_cases h5:p.at d=true
    ·simp[h5]
    ·simp only[if_neg h5];cases p with
     |s t=>rfl
     |t t i=>rfl
     |b e o=>by_cases h6:(aD I.bx e).isSome<;>simp[h6]
  case so d off s' cs k=>by_cases h0:p= .b d off<;>by_cases h2:p= .s s'<;>simp[h0,h2]

section
variable (S:Nat->Nat->In->bO->Prop)
def f7:bv->(Dl->Prop)->St->Prop
 | .mo d s,K,σ=>match aH σ.pm (.s s) with
  |some k=>K (.mo d s (lk σ.e s) k)
  |none=>K (.put d (lk σ.e s))
 | .al d z,K,σ=>match aD σ.bx (.n d) with
  |none=>K (.box d z)
  |some _=>False
 | .alT d T off z,K,σ=>match aD σ.bx (.n d) with
  |none=>K (.box d (z.set off (.nilT (.n d) T z.length)))
  |some _=>False
 | .bx d x,K,σ=>match aD σ.bx (.n d) with
  |none=>match (σ.v x).cs with
   |some cs=>K (.box d cs)
   |none=>False
  |some _=>False
 | .bs d sz ps,K,σ=>match jE σ sz ps with
  |some rows=>K (.puto d (.sl rows) sz)
  |none=>False
 | .st n x v,K,σ=>match σ.v x with
  | .ptr d off=>match aD σ.bx d with
   |some cs=>match (σ.v v).cs with
    |some vs=>vs.length=n/\off+n<=cs.length/\K (.st d off n (f9 cs off vs))
    |none=>False
   |none=>False
  |_=>False
 | .lo d x,K,σ=>match σ.v x with
  | .ptr b off=>match aD σ.bx b with
   |some cs=>match cs[off]? with
    |some v=>match aH σ.pm (.b b off) with
     |some k=>K (.lo d b off v k)
     |none=>K (.put d v)
    |none=>False
   |none=>False
  | .pin cs=>match cs[0]? with
   |some v=>K (.put d v)
   |none=>False
  |_=>False
 | .so x s,K,σ=>match σ.v x with
  | .ptr d off=>match aD σ.bx d with
   |some cs=>match aH σ.pm (.s s) with
    |some k=>off<cs.length/\K (.so d off s (cs.set off (lk σ.e s)) k)
    |none=>match (lk σ.e s).cs with
     |some vs=>vs.length=1/\off+1<=cs.length/\K (.st d off 1 (f9 cs off vs))
     |none=>False
   |none=>False
  |_=>False
 | .ap d sz bytes s y,K,σ=>match em (σ.v y) with
  |some (.sl news)=>(match σ.v s,s with
   | .sl rows,.s t=>aH σ.pm (.s t)=some sz/\(rows.length+news.length)*bytes<=nD/\(∀r∈rows,r.length=sz)/\(∀r∈news,r.length=sz)/\K (.mo d t (.sl (rows++news)) sz)
   | .nils,_=>news.length*bytes<=nD/\(∀r∈news,r.length=sz)/\K (.puto d (.sl news) sz)
   |_,_=>False)
  |_=>False
 | .mk _ _ _ _ _ _,_,_=>False
 | .sls d x lo hi,K,σ=>match σ.v x with
  | .str s=>match AQ σ 0 lo,AQ σ s.length hi with
   |some l,some h=>0<=l/\l<=h/\h<=s.length/\K (.put d (.str ((s.take h.toNat).drop l.toNat)))
   |_,_=>False
  |_=>False
 | .slc d sz x lo hi,K,σ=>match σ.v x with
  | .sl rows=>match AQ σ 0 lo,AQ σ rows.length hi with
   |some l,some h=>0<=l/\l<=h/\h<=rows.length/\(∀r∈rows,r.length=sz)/\K (.put d (.sl ((rows.take h.toNat).drop l.toNat)))
   |_,_=>False
  |_=>False
 | .cl d f xs,K,σ=>match k9 (xs.map σ.v) with
  |some l=> ∃r,rh S f l r/\K (.put d r)
  |none=>False
 | .cr _ _ _,_,_=>False
 | .cq d f xs fr,K,σ=> ∃I O,S f d I O/\cO d σ xs I O/\(JA (mJ σ fr) I O/\fr.contains d=false)/\K (.call d xs I O)
 | .gd s b d o,K,σ=>match JB (lk σ.e s) b with
  |some true=>f7 o K σ
  |some false=>K (.put d (.tup []))
  |none=>False
 | .ca d f s ps,K,σ=> ∃k out,JD S f σ s ps k out/\K (Od d s (.sl out) k)
 | .ce _ _ _,_,_=>False
 | .cd _ _ _,_,_=>False
 | .apm _ _ _ _ _,_,_=>False
 | .mkm _ _ _ _ _ _,_,_=>False
 | .bsm _ _ _,_,_=>False
 | .bsn _ _ _,_,_=>False
 | .rs _ _,_,_=>False
 | .nx _ _,_,_=>False
 | .s2b _ _,_,_=>False
 | .aps _ _ _,_,_=>False
 | .ex _ _ _,_,_=>False
 | .sla _ _ _ _ _,_,_=>False
 | .b2s _ _,_,_=>False
 | .i2s _ _,_,_=>False
 | .inl _ _ _,_,_=>False
 | .mkp _,_,_=>False
 | .mpl _ _,_,_=>False
 | .mpe _ _ _ _ _,_,_=>False
 | .mes _ _ _,_,_=>False
 | .mup _ _ _ _,_,_=>False
 | .clr _ _ _,_,_=>False
 | .trm _ _ _ _,_,_=>False
 |o,K,σ=>match ev σ o with
  |some (d,v)=>K (.put d v)
  |none=>False
end
variable {Sp:Nat->Nat->In->bO->Prop}
def Pf:bv->Bool
 | .ce _ _ _| .cd _ _ _| .apm _ _ _ _ _| .mkm _ _ _ _ _ _| .bsn _ _ _| .bsm _ _ _| .rs _ _| .nx _ _| .s2b _ _| .aps _ _ _| .ex _ _ _| .sla _ _ _ _ _| .b2s _ _| .i2s _ _| .inl _ _ _| .mkp _| .mpl _ _| .mpe _ _ _ _ _| .mes _ _ _| .mup _ _ _ _| .clr _ _ _| .trm _ _ _ _| .bxT _ _ _ _=>false
 | .gd _ _ _ o=>Pf o
 |_=>true

theorem JM: ∀ {o:bv} {K:St->Prop} {σ:St},f7 Sp o (fun δ=>K (δ.ap σ)) σ->bU Sp o K σ:=by
 intro o;induction o with
 |gd s b d o ih=>
  intro K σ h;simp only[f7] at h;simp only[bU];split at h
  ·rename_i e;rw[e];exact ih h
  ·rename_i e;rw[e];exact h
  ·cases h
 |ce|cd|apm|mkm|bsn|bsm|rs|nx|s2b|aps|ex|sla|b2s|i2s|inl|mkp|mpl|mpe|mes|mup|bxT|clr|trm=>intro K σ h;exact (h:False).elim
 |ca d f s ps=>intro K σ h;simp only[f7,GA] at h;exact h
 |_=>intro K σ h;exact h
theorem JN: ∀ {o:bv} {K:St->Prop} {σ:St},Pf o=true->bU Sp o K σ->f7 Sp o (fun δ=>K (δ.ap σ)) σ:=by
 intro o;induction o with
 |gd s b d o ih=>
  intro K σ hok h;simp only[bU] at h;simp only[f7];split at h
  ·rename_i e;rw[e];exact ih hok h
  ·rename_i e;rw[e];exact h
  ·cases h
 |ce|cd|apm|mkm|bsn|bsm|rs|nx|s2b|aps|ex|sla|b2s|i2s|inl|mkp|mpl|mpe|mes|mup|bxT|clr|trm=>intro K σ hok h;cases hok
 |ca d f s ps=>intro K σ hok h;simp only[f7,GA];exact h
 |_=>intro K σ hok h;exact h

theorem JO: ∀ {o:bv} {K:Dl->Prop} {σ:St},f7 Sp o K σ-> ∃δ,f7 Sp o (· =δ) σ/\K δ:=by
 intro o;induction o with
 |ce|cd|apm|mkm|bsn|bsm|rs|nx|s2b|aps|ex|sla|b2s|i2s|inl|mkp|mpl|mpe|mes|mup|bxT|clr|trm=>intro K σ h;exact (h:False).elim
 |gd s b d o ih=>
  intro K σ h;simp only[f7] at h ⊢;split at h
  ·obtain ⟨δ,h1,h2⟩:=ih h;exact ⟨δ,h1,h2⟩
  ·exact ⟨_,rfl,h⟩
  ·cases h
 |ca d f s ps=>intro K σ h;obtain ⟨k,out,h1,h2⟩:=h;exact ⟨_,⟨k,out,h1,rfl⟩,h2⟩
 |cq d f ps fr=>intro K σ h;obtain ⟨I,O,h1,h2,h3,h4⟩:=h;exact ⟨_,⟨I,O,h1,h2,h3,rfl⟩,h4⟩
 |_=>
  intro K σ h;simp only[f7] at h ⊢;repeat' (first|(split at h)|contradiction)
  all_goals first
   |exact ⟨_,rfl,h⟩
   |(obtain ⟨h1,h2⟩:=h;exact ⟨_,⟨h1,rfl⟩,h2⟩)
   |(obtain ⟨h1,h2,h3⟩:=h;exact ⟨_,⟨h1,h2,rfl⟩,h3⟩)
   |(obtain ⟨h1,h2,h3,h4⟩:=h;exact ⟨_,⟨h1,h2,h3,rfl⟩,h4⟩)
   |(obtain ⟨h1,h2,h3,h4,h5⟩:=h;exact ⟨_,⟨h1,h2,h3,h4,rfl⟩,h5⟩)
   |(obtain ⟨r,h1,h2⟩:=h;exact ⟨_,⟨r,h1,rfl⟩,h2⟩)

theorem D9 {K':Dl->Prop} {δ:Dl} (hk:K' δ): ∀ {o:bv} {σ:St},f7 Sp o (· =δ) σ->f7 Sp o K' σ:=by
 intro o;induction o with
 |ce|cd|apm|mkm|bsn|bsm|rs|nx|s2b|aps|ex|sla|b2s|i2s|inl|mkp|mpl|mpe|mes|mup|bxT|clr|trm=>intro σ h;exact (h:False).elim
 |gd s b d o ih=>
  intro σ h;simp only[f7] at h ⊢;split at h
  ·exact ih h
  ·rw[h];exact hk
  ·cases h
 |ca d f s ps=>intro σ h;obtain ⟨k,out,h1,h2⟩:=h;exact ⟨k,out,h1,by rw[h2];exact hk⟩
 |cq d f ps fr=>intro σ h;obtain ⟨I,O,h1,h2,h3,h4⟩:=h;exact ⟨I,O,h1,h2,h3,by rw[h4];exact hk⟩
 |_=>
  intro σ h;simp only[f7] at h ⊢;repeat' (first|(split at h)|contradiction)
  all_goals first
   |(rw[h];exact hk)
   |(obtain ⟨g1,g2⟩:=h;exact ⟨g1,by rw[g2];exact hk⟩)
   |(obtain ⟨g1,g2,g3⟩:=h;exact ⟨g1,g2,by rw[g3];exact hk⟩)
   |(obtain ⟨g1,g2,g3,g4⟩:=h;exact ⟨g1,g2,g3,by rw[g4];exact hk⟩)
   |(obtain ⟨g1,g2,g3,g4,g5⟩:=h;exact ⟨g1,g2,g3,g4,by rw[g5];exact hk⟩)

def uG (σ:St):bv->List Pl
 | .mo _ s=>[.s s]
 | .ap _ _ _ (.s t) _=>[.s t]
 | .ca _ _ (some (.s t)) _=>[.s t]
 | .lo _ x=>match σ.v x with | .ptr b off=>[.b b off]|_=>[]
 | .so _ s=>[.s s]
 | .gd s b _ o=>match lk σ.e s with
  | .bool t=>if t=b then uG σ o else []
  |_=>[]
 |_=>[]

def fQ:bv->Nat
 | .lds _ _| .ldf _ _| .lda _ _ _| .mlk _ _ _ _ _ _=>1
 | .st _ _ _| .lo _ _| .so _ _| .al _ _| .alT _ _ _ _| .bx _ _| .cr _ _ _| .cq _ _ _ _=>2
 | .gd _ _ _ o=>fQ o
 |_=>0

structure Pg (o:bv) (σ τ:St):Prop where
 e: ∀t∈cz o,lk σ.e t=lk τ.e t
 t: ∀b,gX (fb σ o) b->aD σ.bx b=aD τ.bx b
 p: ∀p∈uG σ o,aH σ.pm p=aH τ.pm p
 q: ∀b off,gX (fb σ o) b->fQ o=2->aH σ.pm (.b b off)=aH τ.pm (.b b off)
 c: ∀x,fb σ o=some x->x.kept τ
theorem Pg.b {o:bv} {σ τ:St} (h:Pg o σ τ): ∀b,fb σ o=some (.one b)->aD σ.bx b=aD τ.bx b:=fun b hb=>h.t b (by rw[hb];rfl)

theorem eh {σ τ:St} {x:X} (h: ∀t∈xs x,lk σ.e t=lk τ.e t):σ.v x=τ.v x:=by
 cases x with
 |s t=>exact h t (by simp[xs])
 |c v=>rfl
theorem qG {σ τ:St} {n:Nat} {x:Option X} (h: ∀t∈ox x,lk σ.e t=lk τ.e t):AQ σ n x=AQ τ n x:=by
 cases x with
 |none=>rfl
 |some x=>simp only[AQ];rw[eh h]
theorem uH {σ τ:St}: ∀ {ps:List (Nat×Nat×X)} {z:List AV},(∀t∈ps.flatMap (fun p=>xs p.2.2),lk σ.e t=lk τ.e t)->kD σ ps z=kD τ ps z
 |[],_,_=>rfl
 |(off,n,x)::r,z,h=>by
  simp only[List.flatMap_cons,jD] at h;simp only[kD];rw[eh (σ:=σ) (τ:=τ) (x:=x) (fun t ht=>h t (.inl ht))];split
  ·split
   ·exact uH (fun t ht=>h t (.inr ht))
   ·rfl
  ·rfl
theorem yN {σ τ:St} {sz:Nat}: ∀ {ps:List X},(∀t∈ps.flatMap xs,lk σ.e t=lk τ.e t)->jE σ sz ps=jE τ sz ps
 |[],_=>rfl
 |x::r,h=>by
  simp only[List.flatMap_cons,jD] at h;simp only[jE];rw[eh (σ:=σ) (τ:=τ) (x:=x) (fun t ht=>h t (.inl ht)),yN (fun t ht=>h t (.inr ht))]
theorem md {σ τ:St}: ∀ {ps:List X},(∀t∈ps.flatMap xs,lk σ.e t=lk τ.e t)->ps.map σ.v=ps.map τ.v
 |[],_=>rfl
 |x::r,h=>by
  simp only[List.flatMap_cons,jD] at h;simp only[fZ];rw[eh (σ:=σ) (τ:=τ) (x:=x) (fun t ht=>h t (.inl ht)),md (fun t ht=>h t (.inr ht))]

theorem JP {σ τ:St} {fr:List Nat} (h: ∀s∈fr,Nat.ble KF s=true->lk τ.e (s - KF)=lk σ.e (s - KF)):mJ τ fr=mJ σ fr:=by
 have: ∀(l:List Nat),(∀s∈l,Nat.ble KF s=true->lk τ.e (s - KF)=lk σ.e (s - KF))->(l.filterMap fun s=>if Nat.ble KF s=true then (lk τ.e (s - KF)).pid else none)=l.filterMap fun s=>if Nat.ble KF s=true then (lk σ.e (s - KF)).pid else none:=by
  intro l;induction l with
  |nil=>intro _;rfl
  |cons s r ih=>
   intro h;simp only[List.filterMap_cons];rw[ih fun t ht=>h t (by simp[ht])];by_cases hk:Nat.ble KF s=true
   ·rw[if_pos hk,if_pos hk,h s (by simp) hk]
   ·rw[if_neg hk,if_neg hk]
 unfold mJ;rw[this fr h]
theorem CE {K:Dl->Prop}: ∀ {o:bv} {σ τ:St},Pg o σ τ->f7 Sp o K σ->f7 Sp o K τ:=by
 intro o;induction o with
 |ce|cd|apm|mkm|bsn|bsm|rs|nx|s2b|aps|ex|sla|b2s|i2s|inl|mkp|mpl|mpe|mes|mup|bxT|clr|trm=>intro σ τ ha h;exact (h:False).elim
 |mf d f ps=>
  intro σ τ ha h;simp only[f7,ev] at h ⊢;rw[<-md ha.e];exact h
 |gd s b d o ih=>
  intro σ τ ha h;have h1:=ha.e;simp only[cz,nH,forall_eq_or_imp] at h1;simp only[f7] at h ⊢;rw[<-h1.1];split at h
  ·rename_i e;have ht:=nI e;have hbi:fb σ (.gd s b d o)=fb σ o:=by simp only[fb,ht,if_true]
   exact ih ⟨h1.2,fun b' hb=>ha.t b' (by rw[hbi];exact hb),fun p hp=>ha.p p (by simp only[uG,ht,if_true];exact hp),fun b' off hb h2=>ha.q b' off (by rw[hbi];exact hb) h2,fun x hx=>ha.c x (by rw[hbi];exact hx)⟩ h
  ·exact h
  ·cases h
 |mo d s=>
  intro σ τ ha h;have h1:=ha.e s (by simp[cz]);have h2:=ha.p (.s s) (by simp[uG]);simp only[f7] at h ⊢;rw[<-h2,<-h1];exact h
 |al d z=>
  intro σ τ ha h;have h2:=ha.b (.n d) rfl;simp only[f7] at h ⊢;rw[<-h2];exact h
 |alT d T off z=>
  intro σ τ ha h;have h2:=ha.b (.n d) rfl;simp only[f7] at h ⊢;rw[<-h2];exact h
 |bx d x=>
  intro σ τ ha h;have h2:=ha.b (.n d) rfl;have h1:=eh (σ:=σ) (τ:=τ) (x:=x) ha.e;simp only[f7] at h ⊢;rw[<-h2,<-h1];exact h
 |bs d sz ps=>
  intro σ τ ha h;simp only[f7] at h ⊢;rw[<-yN ha.e];exact h
 |st n x v=>
  intro σ τ ha h;have h0:=ha.e;simp only[cz,jD] at h0;have h1:=eh (σ:=σ) (τ:=τ) (x:=x) (fun t ht=>h0 t (.inl ht));have h2:=eh (σ:=σ) (τ:=τ) (x:=v) (fun t ht=>h0 t (.inr ht));simp only[f7] at h ⊢;rw[<-h1,<-h2];split at h
  ·rename_i d off hx;have h3:=ha.b d (by simp only[fb,hx]);rw[<-h3];exact h
  ·cases h
 |lo d x=>
  intro σ τ ha h;have h1:=eh (σ:=σ) (τ:=τ) (x:=x) ha.e;simp only[f7] at h ⊢;rw[<-h1];split at h
  ·rename_i b off hx;have h3:=ha.b b (by simp only[fb,hx]);have h4:=ha.p (.b b off) (by simp[uG,hx]);rw[<-h3,<-h4];exact h
  ·exact h
  ·cases h
 |so x s=>
  intro σ τ ha h;have h0:=ha.e;simp only[cz,jD] at h0;have h1:=eh (σ:=σ) (τ:=τ) (x:=x) (fun t ht=>h0 t (.inl ht));have h2:=h0 s (by simp);simp only[f7] at h ⊢;rw[<-h1,<-h2];split at h
  ·rename_i b off hx;have h3:=ha.b b (by simp only[fb,hx]);have h4:=ha.p (.s s) (by simp[uG]);rw[<-h3,<-h4];exact h
  ·cases h
 |ap d sz by_ s y=>
  intro σ τ ha h;have h0:=ha.e;simp only[cz,jD] at h0;have h1:=eh (σ:=σ) (τ:=τ) (x:=s) (fun t ht=>h0 t (.inl ht));have h2:=eh (σ:=σ) (τ:=τ) (x:=y) (fun t ht=>h0 t (.inr ht));simp only[f7] at h ⊢;rw[<-h1,<-h2];cases s with
  |s t=>
   have h4:=ha.p (.s t) (by simp[uG]);split at h
   ·split at h
    ·rename_i rows t' hrows he;cases he;exact ⟨h4▸h.1,h.2⟩
    ·exact h
    ·cases h
   ·cases h
  |c v=>
   split at h
   ·split at h
    ·rename_i he;cases he
    ·exact h
    ·cases h
   ·cases h
 |ca d f s ps=>
  intro σ τ ha h;obtain ⟨k,out,h1,h2⟩:=h;refine ⟨k,out,?_,h2⟩;have h0:=ha.e;simp only[cz,jD] at h0;have hm:ps.map σ.v=ps.map τ.v:=md (fun t ht=>h0 t (.inr ht));cases s with
  |none=>simp only[JD] at h1 ⊢;rw[<-hm];exact h1
  |some x=>
   cases x with
   |c v=>simp only[JD] at h1 ⊢;rw[<-hm];exact h1
   |s t=>
    have e1:=h0 t (.inl (by simp[xs]));have e2:=ha.p (.s t) (by simp[uG]);simp only[JD] at h1 ⊢;rw[<-hm,<-e1,<-e2];exact h1
 |mk d sz by_ z l c=>intro _ _ _ h;exact (show False from h).elim
 |sls d x l hh=>
  intro σ τ ha h;have h0:=ha.e;simp only[cz,jD] at h0;simp only[f7] at h ⊢;rw[<-eh (σ:=σ) (τ:=τ) (x:=x) (fun t ht=>h0 t (.inl ht))];split at h
  ·rename_i s hs;rw[<-qG (σ:=σ) (τ:=τ) (x:=l) (fun t ht=>h0 t (.inr (.inl ht))),<-qG (σ:=σ) (τ:=τ) (x:=hh) (fun t ht=>h0 t (.inr (.inr ht)))];exact h
  ·cases h
 |slc d sz x l hh=>
  intro σ τ ha h;have h0:=ha.e;simp only[cz,jD] at h0;simp only[f7] at h ⊢;rw[<-eh (σ:=σ) (τ:=τ) (x:=x) (fun t ht=>h0 t (.inl ht))];split at h
  ·rename_i s hs;rw[<-qG (σ:=σ) (τ:=τ) (x:=l) (fun t ht=>h0 t (.inr (.inl ht))),<-qG (σ:=σ) (τ:=τ) (x:=hh) (fun t ht=>h0 t (.inr (.inr ht)))];exact h
  ·cases h
 |cl d f ps=>
  intro σ τ ha h;simp only[f7] at h ⊢;rw[<-md ha.e];exact h
 |cr d f ps=>intro _ _ _ h;exact (show False from h).elim
 |cq d f ps fr=>
  intro σ τ ha h;have hm:ps.map σ.v=ps.map τ.v:=md fun t ht=>ha.e t (by simp only[cz,jD];exact .inl ht)
  have hF:mJ τ fr=mJ σ fr:=JP fun s hs hk=>(ha.e (s - KF) (by simp only[cz,jD,List.mem_filterMap];exact .inr ⟨s,hs,by rw[if_pos hk]⟩)).symm
  obtain ⟨I,O,c1,c2,⟨c3,c5⟩,c4⟩:=h;have hb: ∀i,FP (mJ σ fr) i=false->aD σ.bx i=aD τ.bx i:=fun i hi=>ha.t i hi
  have hp: ∀i off,FP (mJ σ fr) i=false->aH σ.pm (.b i off)=aH τ.pm (.b i off):=fun i off hi=>ha.q i off hi rfl
  have hI: ∀p∈I.bx,FP (mJ σ fr) p.1=false:=fun p hp=>by
   obtain ⟨cs,hcs⟩:=mc (c2.kept p hp);exact c3.fo (p.1,cs) hcs
  refine ⟨I,O,c1,⟨by rw[<-hm];exact c2.vs,fun p hp=>?_,fun p hpm=>?_,c2.one,c2.kept,c2.new,fun p hpm=>?_⟩,⟨by rw[hF];exact c3,c5⟩,c4⟩
  ·have:=c2.bx p hp
   unfold FN at this ⊢;rw[<-hb _ (hI p hp)];exact this
  ·have h1:=c2.pm p hpm;have h2:=c3.ip p hpm;obtain ⟨q,k⟩:=p;cases q with
   |s t=>cases h2
   |t t i=>cases h2
   |b e off=>
    simp only[re,iX] at h1 ⊢;obtain ⟨cs,hcs⟩:=mc h1.1;have hf:=hI _ hcs;rw[<-hb _ hf,<-hp _ _ hf];exact h1
  ·cases hn:p.1.isNw d with
   |false=>rfl
   |true=>
    exfalso;have hf:FP (mJ σ fr) p.1=false:=by
     cases h0:p.1<;>rw[h0] at hn<;>first|(simp[Id.isNw] at hn;done)|skip
     simp only[Id.isNw,aJ,cI] at hn;simp only[FP,hn.1];exact c5
    have hs:(aD τ.bx p.1).isSome:=rK hpm;rw[<-hb _ hf] at hs;obtain ⟨cs,hcs⟩:=mc hs
    have:=c2.free _ hcs
    simp only at this;rw[hn] at this;cases this
 |lds d x=>
  intro σ τ ha h;have h1:=eh (σ:=σ) (τ:=τ) (x:=x) ha.e;simp only[f7,ev] at h ⊢;rw[<-h1];cases hx:σ.v x<;>rw[hx] at h<;>simp only[e8] at h ⊢ <;>try exact h
  rename_i b off;have h3:=ha.b b (by simp only[fb,hx]);rw[<-h3];exact h
 |ldf d x=>
  intro σ τ ha h;have h1:=eh (σ:=σ) (τ:=τ) (x:=x) ha.e;simp only[f7,ev] at h ⊢;rw[<-h1];cases hx:σ.v x<;>rw[hx] at h<;>try exact h
  rename_i b off;cases hl:e8 σ.bx (.ptr b off) with
  |none=>rw[hl] at h;cases h
  |some v=>
   have h3:=ha.c (.cel b off v) (by simp only[fb,hx,hl]);simp only[Bx.kept] at h3;rw[hl] at h;rw[h3];exact h
 |lda d n x=>
  intro σ τ ha h;have h1:=eh (σ:=σ) (τ:=τ) (x:=x) ha.e;simp only[f7,ev] at h ⊢;rw[<-h1];cases hx:σ.v x<;>rw[hx] at h<;>simp only[uq] at h ⊢ <;>try exact h
  rename_i b off;have h3:=ha.b b (by simp only[fb,hx]);rw[<-h3];exact h
 |mlk d q z m k ok=>
  intro σ τ ha h;have h0:=ha.e;simp only[cz,jD] at h0;have h1:=eh (σ:=σ) (τ:=τ) (x:=m) (fun t ht=>h0 t (.inl ht));have h2:=eh (σ:=σ) (τ:=τ) (x:=k) (fun t ht=>h0 t (.inr ht));simp only[f7,ev] at h ⊢;rw[<-h1,<-h2];cases hx:σ.v m<;>rw[hx] at h<;>simp only[rb] at h ⊢ <;>try exact h
  rename_i b;have h3:=ha.b b (by simp only[fb,hx]);rw[<-h3];exact h
 |bd d z ps=>
  intro σ τ ha h;simp only[f7,ev] at h ⊢;rw[<-uH ha.e];exact h
 |pk d c x y=>
  intro σ τ ha h;have h0:=ha.e;simp only[cz,jD] at h0;simp only[f7,ev] at h ⊢;rw[<-eh (σ:=σ) (τ:=τ) (x:=c) (fun t ht=>h0 t (.inl ht)),<-eh (σ:=σ) (τ:=τ) (x:=x) (fun t ht=>h0 t (.inr (.inl ht))),<-eh (σ:=σ) (τ:=τ) (x:=y) (fun t ht=>h0 t (.inr (.inr ht)))];exact h
 |no=>intro σ τ ha h;exact h
 |mv|un|pn|bq|cv|ln|lns|fa|fls|fla|exq|nc|mi|ta=>
  intro σ τ ha h;have h1:=eh (σ:=σ) (τ:=τ) ha.e;simp only[f7,ev] at h ⊢;rw[<-h1];exact h
 |bi|bb|ea|ia|iaa|ixs|ixa|mn|mx=>
  intro σ τ ha h;have h0:=ha.e;simp only[cz,jD] at h0;have h1:=eh (σ:=σ) (τ:=τ) (fun t ht=>h0 t (.inl ht));have h2:=eh (σ:=σ) (τ:=τ) (fun t ht=>h0 t (.inr ht));simp only[f7,ev] at h ⊢;rw[<-h1,<-h2];exact h

def im:bv->Option Nat
 | .mo _ s=>some s
 | .so _ s=>some s
 | .ap _ _ _ (.s t) _=>some t
 | .ca _ _ (some (.s t)) _=>some t
 | .gd _ _ _ o=>im o
 |_=>none
theorem GB {σ:St} {o:bv} {d:Nat} {v:AV} (h:ev σ o=some (d,v)):cG o=some d:=by
 cases o<;>simp only[ev] at h<;>(try cases h)<;>(repeat' (first|(split at h)|contradiction))<;>simp_all[cG]

structure Oe (o:bv) (σ:St) (δ:Dl):Prop where
 e: ∀d v,δ.e?=some (d,v)->cG o=some d
 b: ∀d cs,δ.b? d=some cs->gX (fb σ o) d/\fQ o=2
 m: ∀p x,δ.m? p=some x->(∃d,p.at d=true/\cG o=some d)\/(∃s,p= .s s/\im o=some s)\/(∃b off,p= .b b off/\gX (fb σ o) b/\fQ o=2)
 f:δ.fits σ

def Jq:bv->Bool
 | .gd _ _ d o=>cG o==some d&&Jq o
 |o=>Pf o

theorem ju {o:bv} {σ:St} {d:Nat} {v:AV} (h:cG o=some d):Oe o σ (.put d v):=
 ⟨fun _ _ e=>by simp only[Dl.e?,cW,jM] at e;rw[h,e.1],fun _ _ e=>by simp[Dl.b?] at e,
  fun p x e=>by
   simp only[Dl.m?] at e;split at e
   ·rename_i h0;exact .inl ⟨d,h0,h⟩
   ·exact absurd e (by simp),trivial⟩
theorem rL {o:bv} {σ:St} {d k:Nat} {v:AV} (h:cG o=some d):Oe o σ (.puto d v k):=
 ⟨fun _ _ e=>by simp only[Dl.e?,cW,jM] at e;rw[h,e.1],fun _ _ e=>by simp[Dl.b?] at e,
  fun p x e=>by
   simp only[Dl.m?] at e;split at e
   ·rename_i h0;exact .inl ⟨d,by rw[h0];simp[Pl.at],h⟩
   ·split at e
    ·rename_i h0;exact .inl ⟨d,h0,h⟩
    ·exact absurd e (by simp),trivial⟩

theorem vT: ∀ {o:bv} {σ:St} {δ:Dl},Jq o=true->f7 Sp o (· =δ) σ->Oe o σ δ:=by
 intro o;induction o with
 |gd s b d o ih=>
  intro σ δ hok h;simp only[Jq,aJ,cI] at hok;simp only[f7] at h;split at h
  ·rename_i e;have ht:=nI e;obtain ⟨f1,f2,f3,f4⟩:=ih hok.2 h;refine ⟨fun d' v hd=>?_,fun d' cs hd=>?_,fun p x hp=>?_,f4⟩
   ·have:=f1 d' v hd;simp only[cG];rw[if_pos hok.1,<-hok.1];exact this
   ·simpa[fb,ht,fQ] using f2 d' cs hd
   ·rcases f3 p x hp with ⟨d',ha,h1⟩|⟨s',rfl,h1⟩|⟨b',off,rfl,h1,h2⟩
    ·left;refine ⟨d',ha,?_⟩;simp only[cG];rw[if_pos hok.1,<-hok.1];exact h1
    ·right;left;exact ⟨s',rfl,by simpa[im] using h1⟩
    ·right;right;exact ⟨b',off,rfl,by simpa[fb,ht] using h1,by simpa[fQ] using h2⟩
  ·subst h;exact ju (by simp only[cG];rw[if_pos hok.1])
  ·cases h
 |mo d s=>
  intro σ δ _ h;simp only[f7] at h;split at h
  ·subst h;exact ⟨fun _ _ e=>by simp[Dl.e?] at e;simp[cG,e.1],fun _ _ e=>by simp[Dl.b?] at e,fun p x e=>by
    simp only[Dl.m?] at e;split at e
    ·rename_i h0;left;exact ⟨d,by rw[h0];simp[Pl.at],rfl⟩
    ·split at e
     ·left;exact ⟨d,by assumption,rfl⟩
     ·split at e
      ·right;left;exact ⟨s,by assumption,rfl⟩
      ·exact absurd e (by simp),trivial⟩
  ·subst h;exact ju rfl
 |al d z=>
  intro σ δ _ h;simp only[f7] at h;split at h
  ·subst h;exact ⟨fun _ _ e=>by simp[Dl.e?] at e;simp[cG,e.1],fun _ _ e=>by simp[Dl.b?] at e;simp[fb,gX,Bx.tch,fQ,e.1],fun p x e=>by
    simp only[Dl.m?] at e;split at e
    ·left;exact ⟨d,by assumption,rfl⟩
    ·exact absurd e (by simp),trivial⟩
  ·cases h
 |alT d T off z=>
  intro σ δ _ h;simp only[f7] at h;split at h
  ·subst h;exact ⟨fun _ _ e=>by simp[Dl.e?] at e;simp[cG,e.1],fun _ _ e=>by simp[Dl.b?] at e;simp[fb,gX,Bx.tch,fQ,e.1],fun p x e=>by
    simp only[Dl.m?] at e;split at e
    ·left;exact ⟨d,by assumption,rfl⟩
    ·exact absurd e (by simp),trivial⟩
  ·cases h
 |bx d z=>
  intro σ δ _ h;simp only[f7] at h;split at h
  ·split at h
   ·subst h;exact ⟨fun _ _ e=>by simp[Dl.e?] at e;simp[cG,e.1],fun _ _ e=>by simp[Dl.b?] at e;simp[fb,gX,Bx.tch,fQ,e.1],fun p x e=>by
     simp only[Dl.m?] at e;split at e
     ·left;exact ⟨d,by assumption,rfl⟩
     ·exact absurd e (by simp),trivial⟩
   ·cases h
  ·cases h
 |bs d sz ps=>
  intro σ δ _ h;simp only[f7] at h;split at h
  ·subst h;exact rL rfl
  ·cases h
 |st n x v=>
  intro σ δ _ h;simp only[f7] at h;split at h
  ·rename_i d off hx;split at h
   ·rename_i cs hcs;split at h
    ·obtain ⟨_,_,h⟩:=h;subst h;refine ⟨fun _ _ e=>by simp[Dl.e?] at e,fun _ _ e=>by simp[Dl.b?] at e;simp[fb,gX,Bx.tch,fQ,hx,e.1],fun p x e=>?_,by simp[Dl.fits,hcs]⟩;simp only[Dl.m?] at e;split at e
     ·rename_i hr;cases p with
      |s t=>simp[eK] at hr
      |t t i=>simp[eK] at hr
      |b b' o'=>
       simp only[eK,aJ,cI] at hr;right;right;exact ⟨b',o',rfl,by simp[fb,gX,Bx.tch,hx,hr.1.1],rfl⟩
     ·cases e
    ·cases h
   ·cases h
  ·cases h
 |lo d x=>
  intro σ δ _ h;simp only[f7] at h;split at h
  ·rename_i b off hx;split at h
   ·split at h
    ·split at h
     ·subst h;exact ⟨fun _ _ e=>by simp[Dl.e?] at e;simp[cG,e.1],fun _ _ e=>by simp[Dl.b?] at e,fun p x e=>by
       simp only[Dl.m?] at e;split at e
       ·rename_i h0;left;exact ⟨d,by rw[h0];simp[Pl.at],rfl⟩
       ·split at e
        ·left;exact ⟨d,by assumption,rfl⟩
        ·split at e
         ·right;right;exact ⟨b,off,by assumption,by simp[fb,gX,Bx.tch,hx],rfl⟩
         ·exact absurd e (by simp),trivial⟩
     ·subst h;exact ju rfl
    ·cases h
   ·cases h
  ·split at h
   ·subst h;exact ju rfl
   ·cases h
  ·cases h
 |so x s=>
  intro σ δ _ h;simp only[f7] at h;split at h
  ·rename_i d off hx;split at h
   ·rename_i cs hcs;split at h
    ·rename_i k hk;obtain ⟨_,h⟩:=h;subst h;exact ⟨fun _ _ e=>by simp[Dl.e?] at e,fun _ _ e=>by simp[Dl.b?] at e;simp[fb,gX,Bx.tch,fQ,hx,e.1],fun p x e=>by
      simp only[Dl.m?] at e;split at e
      ·right;right;exact ⟨d,off,by assumption,by simp[fb,gX,Bx.tch,hx],rfl⟩
      ·split at e
       ·right;left;exact ⟨_,by assumption,rfl⟩
       ·exact absurd e (by simp),by simp[Dl.fits,hcs]⟩
    ·split at h
     ·obtain ⟨_,_,h⟩:=h;subst h;refine ⟨fun _ _ e=>by simp[Dl.e?] at e,fun _ _ e=>by simp[Dl.b?] at e;simp[fb,gX,Bx.tch,fQ,hx,e.1],fun p x e=>?_,by simp[Dl.fits,hcs]⟩;simp only[Dl.m?] at e;split at e
      ·rename_i hr;cases p with
       |s t=>simp[eK] at hr
       |t t i=>simp[eK] at hr
       |b b' o'=>
        simp only[eK,aJ,cI] at hr;right;right;exact ⟨b',o',rfl,by simp[fb,gX,Bx.tch,hx,hr.1.1],rfl⟩
      ·cases e
     ·cases h
   ·cases h
  ·cases h
 |ap d sz by_ s y=>
  intro σ δ _ h;simp only[f7] at h;split at h
  ·split at h
   ·rename_i rows t hrows;obtain ⟨_,_,_,_,h⟩:=h;subst h;exact ⟨fun _ _ e=>by simp[Dl.e?] at e;simp[cG,e.1],fun _ _ e=>by simp[Dl.b?] at e,fun p x e=>by
     simp only[Dl.m?] at e;split at e
     ·rename_i h0;left;exact ⟨d,by rw[h0];simp[Pl.at],rfl⟩
     ·split at e
      ·left;exact ⟨d,by assumption,rfl⟩
      ·split at e
       ·right;left;exact ⟨_,by assumption,rfl⟩
       ·exact absurd e (by simp),trivial⟩
   ·obtain ⟨_,_,h⟩:=h;subst h;exact rL rfl
   ·cases h
  ·cases h
 |ca d f s ps=>
  intro σ δ _ h;obtain ⟨k,out,_,h⟩:=h;have hp: ∀v,Oe (.ca d f s ps) σ (.puto d v k):=fun v=>rL rfl
  cases s with
  |none=>subst h;exact hp _
  |some x=>
   cases x with
   |c v=>subst h;exact hp _
   |s t=>
    subst h;exact ⟨fun _ _ e=>by simp[Od,Dl.e?] at e;simp[cG,e.1],fun _ _ e=>by simp[Od,Dl.b?] at e,fun p x e=>by
     simp only[Od,Dl.m?] at e;split at e
     ·rename_i h0;left;exact ⟨d,by rw[h0];simp[Pl.at],rfl⟩
     ·split at e
      ·left;exact ⟨d,by assumption,rfl⟩
      ·split at e
       ·right;left;exact ⟨_,by assumption,rfl⟩
       ·exact absurd e (by simp),trivial⟩
 |mk d sz by_ z l c=>intro _ _ _ h;exact (show False from h).elim
 |sls d x l hh=>
  intro σ δ _ h;simp only[f7] at h;split at h
  ·split at h
   ·obtain ⟨_,_,_,h⟩:=h;subst h;exact ju rfl
   ·cases h
  ·cases h
 |slc d sz x l hh=>
  intro σ δ _ h;simp only[f7] at h;split at h
  ·split at h
   ·obtain ⟨_,_,_,_,h⟩:=h;subst h;exact ju rfl
   ·cases h
  ·cases h
 |cl d f ps=>
  intro σ δ _ h;simp only[f7] at h;split at h
  ·obtain ⟨r,_,h⟩:=h;subst h;exact ju rfl
  ·cases h
 |cr d f ps=>intro _ _ _ h;exact (show False from h).elim
 |cq d f ps fr=>
  intro σ δ _ h;obtain ⟨I,O,c1,c2,⟨c3,c5⟩,h⟩:=h;subst h;have hI: ∀e,(aD I.bx e).isSome->FP (mJ σ fr) e=false:=fun e he=>by
   obtain ⟨cs,hcs⟩:=mc he;obtain ⟨cs',hcs'⟩:=mc (c2.kept _ hcs);exact c3.fo _ hcs'
  refine ⟨fun _ _ e=>by simp[Dl.e?] at e;simp[cG,e.1],fun i cs e=>?_,fun p x e=>?_,⟨c2.kept,c3.ip,fun p hp=>Pl.isF_isB (c3.op p hp)⟩⟩
  ·simp only[Dl.b?] at e;exact ⟨c3.fo _ (cF _ _ _ e),rfl⟩
  ·simp only[Dl.m?] at e;split at e
   ·left;exact ⟨d,by assumption,rfl⟩
   ·split at e
    ·rename_i k hk;have hb:=c3.op _ (eI _ _ _ hk);cases p with
     |s t=>cases hb
     |t t i=>cases hb
     |b e' off=>
      right;right;exact ⟨e',off,rfl,by simpa[Pl.isF,gX,fb,Bx.tch] using hb,rfl⟩
    ·cases p with
     |s t=>cases e
     |t t i=>cases e
     |b e' off=>
      simp only at e;split at e
      ·rename_i he;right;right;exact ⟨e',off,rfl,hI _ he,rfl⟩
      ·cases e
 |ce|cd|apm|mkm|bsn|bsm|rs|nx|s2b|aps|ex|sla|b2s|i2s|inl|mkp|mpl|mpe|mes|mup|bxT|clr|trm=>intro σ δ _ h;exact (h:False).elim
 |_=>
  intro σ δ _ h;simp only[f7] at h;split at h
  ·rename_i he;subst h;exact ju (GB he)
  ·cases h

theorem JQ: ∀ {o:bv} {σ:St},∀p∈uG σ o,(∃s,p= .s s/\im o=some s)\/(∃b off,p= .b b off/\gX (fb σ o) b/\fQ o=2):=by
 intro o;induction o with
 |gd s b d o ih=>
  intro σ p hp;simp only[uG] at hp;split at hp
  ·rename_i t ht;split at hp
   ·rename_i e;rcases ih p hp with ⟨s',rfl,h⟩|⟨b',off,rfl,h1,h2⟩
    ·left;exact ⟨s',rfl,by simpa[im] using h⟩
    ·right;exact ⟨b',off,rfl,by simpa[fb,ht,e] using h1,by simpa[fQ] using h2⟩
   ·simp at hp
  ·simp at hp
 |mo d s=>intro σ p hp;simp[uG] at hp;left;exact ⟨s,hp,rfl⟩
 |so x s=>intro σ p hp;simp[uG] at hp;left;exact ⟨s,hp,rfl⟩
 |ap d sz by_ s y=>
  intro σ p hp;cases s with
  |s t=>simp[uG] at hp;left;exact ⟨t,hp,rfl⟩
  |c v=>simp[uG] at hp
 |ca d f s ps=>
  intro σ p hp;cases s with
  |none=>simp[uG] at hp
  |some x=>
   cases x with
   |s t=>simp[uG] at hp;left;exact ⟨t,hp,rfl⟩
   |c v=>simp[uG] at hp
 |lo d x=>
  intro σ p hp;simp only[uG] at hp;split at hp
  ·rename_i b off hx;simp at hp;right;exact ⟨b,off,hp,by simp[fb,gX,Bx.tch,hx],rfl⟩
  ·simp at hp
 |_=>intro σ p hp;simp[uG] at hp
theorem nU: ∀ {o:bv} {s:Nat},im o=some s->s∈cz o:=by
 intro o;induction o with
 |gd s b d o ih=>intro s' h;simp only[im] at h;simp[cz,ih h]
 |mo d s=>intro s' h;simp[im] at h;simp[cz,h]
 |so x s=>intro s' h;simp[im] at h;simp[cz,h]
 |ap d sz by_ s y=>
  intro s' h;cases s with
  |s t=>simp[im] at h;simp[cz,xs,h]
  |c v=>simp[im] at h
 |ca d f s ps=>
  intro s' h;cases s with
  |none=>simp[im] at h
  |some x=>
   cases x with
   |s t=>simp[im] at h;simp[cz,xs,h]
   |c v=>simp[im] at h
 |_=>intro s' h;simp[im] at h
theorem CF: ∀ {o:bv} {σ:St} {b:Bx},fb σ o=some b->fQ o≠0:=by
 intro o;induction o with
 |gd s b d o ih=>
  intro σ b' h;simp only[fb] at h;split at h
  ·split at h
   ·simpa[fQ] using ih h
   ·cases h
  ·cases h
 |_=>intro σ b h;first|(simp[fQ];done)|simp[fb] at h

def gk (δs:Nat->Dl) (l:List Nat) (v:LS):LS:=l.foldl (fun v j=>(δs j).app v) v
theorem jZ (δs:Nat->Dl) (l:List Nat) (j:Nat) (v:LS):gk δs (l++[j]) v=(δs j).app (gk δs l v):=by simp[gk]

def tE (t:Nat) (δ:Dl):Bool:=match δ.e? with |some (d,_)=>d==t|none=>false
def tB (b:Id) (δ:Dl):Bool:=(δ.b? b).isSome
def tM (p:Pl) (δ:Dl):Bool:=(δ.m? p).isSome

theorem vU (δs:Nat->Dl) (t:Nat): ∀(l:List Nat) (u v:LS),u.E t=v.E t->(gk δs l u).E t=(gk δs (l.filter fun j=>tE t (δs j)) v).E t:=by
 intro l;induction l with
 |nil=>intro u v h;exact h
 |cons j r ih=>
  intro u v h;simp only[gk,List.foldl_cons,List.filter_cons] at ih ⊢;by_cases ht:tE t (δs j)=true
  ·rw[if_pos ht,List.foldl_cons];refine ih _ _ ?_;simp only[Dl.app];simp only[tE] at ht;split at ht
   ·rename_i d x he;simp only[cI] at ht;simp[ht]
   ·cases ht
  ·rw[if_neg ht];refine ih _ _ ?_;rw[<-h];simp only[Dl.app];split
   ·rename_i d x he;rw[if_neg];intro e;exact ht (by simp[tE,he,e])
   ·rfl
theorem pb (δs:Nat->Dl) (t:Id): ∀(l:List Nat) (u v:LS),u.B t=v.B t->(gk δs l u).B t=(gk δs (l.filter fun j=>tB t (δs j)) v).B t:=by
 intro l;induction l with
 |nil=>intro u v h;exact h
 |cons j r ih=>
  intro u v h;simp only[gk,List.foldl_cons,List.filter_cons] at ih ⊢;by_cases ht:tB t (δs j)=true
  ·rw[if_pos ht,List.foldl_cons];refine ih _ _ ?_;simp only[Dl.app];simp only[tB] at ht;obtain ⟨x,hx⟩:=jp.1 ht;rw[hx]
  ·rw[if_neg ht];refine ih _ _ ?_;rw[<-h];simp only[Dl.app];split
   ·rename_i x he;exact absurd (by simp[tB,he]) ht
   ·rfl
theorem pd (δs:Nat->Dl) (t:Pl): ∀(l:List Nat) (u v:LS),u.M t=v.M t->(gk δs l u).M t=(gk δs (l.filter fun j=>tM t (δs j)) v).M t:=by
 intro l;induction l with
 |nil=>intro u v h;exact h
 |cons j r ih=>
  intro u v h;simp only[gk,List.foldl_cons,List.filter_cons] at ih ⊢;by_cases ht:tM t (δs j)=true
  ·rw[if_pos ht,List.foldl_cons];refine ih _ _ ?_;simp only[Dl.app];simp only[tM] at ht;obtain ⟨x,hx⟩:=jp.1 ht;rw[hx]
  ·rw[if_neg ht];refine ih _ _ ?_;rw[<-h];simp only[Dl.app];split
   ·rename_i x he;exact absurd (by simp[tM,he]) ht
   ·rfl

theorem nV {n i:Nat} {p q:Nat->Bool} (hi:i<=n) (h: ∀j,j<n->p j=(decide (j<i)&&q j)):(List.range n).filter p=(List.range i).filter q:=by
  induction n with
  | zero => have : i = 0 := by omega
            subst this;rfl
  |succ n ih=>
    by_cases hin:i=n+1
    · subst hin
      apply List.filter_congr
      intro j hj
      have:=List.mem_range.1 hj
      rw[h j this];simp[this]
    · rw[List.range_succ,List.filter_append,ih (by omega) (fun j hj=>h j (by omega))]
      have:=h n (by omega)
      rw[show decide (n<i)=false by simp;omega] at this
      simp[this]
end Go.Ai
