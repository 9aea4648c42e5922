/- AiDef: a part of the proof: the rules, or what functions compute. Conditions: as each theorem says. -/
import Derived.Test.YtpaipepdakekbaaGreatDoorAiPan
import Derived.Recover
set_option linter.unusedSimpArgs false
set_option linter.unusedVariables false
namespace Go.Ai
open Go.RowKit
variable {P:Program} {F:Fr} {S:Mem} {gb:Gb} {σ:St} {a:Act} {w:World}

theorem Rel.post {GL:List (Nat×List Value)} {N:Nat} {df:List Deferred} {d:Nat} {I:In} {O:Out} {gb0:Gb} {S0:Mem} {w0:World} {sv:Nat→Value} {rs:List AR}
    (hr:Rel ⟨S0,w0,MS I gb0 sv w0,gb0,N,GL,df⟩ S gb σ a w) (hok:OutOk d rs O σ) {vs':List AV} (hv:resA σ rs=some vs') {us:List Value} (g2:PRlist S gb vs' us) (g3: ∀(i s:Nat),rs[i]?=some (AR.t s)→us[i]?=some (tv a s)):
    PostR d I O S0 gb0 sv w0 S (gbOut d gb O.bx) (if h:us.toArray.size=1 then us.toArray[0] else .tuple us.toArray) w:=by
  obtain ⟨o1,o2,o3,o4⟩:=hr.out hok hv g2 g3 (by rw [←g2.length];exact (mRs_length (qs:=[]) hv).symm)
  refine ⟨hr.bw,hr.ext,hr.le,?_,?_,o1,o2,o3,o4⟩
  · intro i hi
    have:gbOut d gb O.bx i=gb (i.inn d):=gbOut_ok (fun e=>by rw [hi] at e;cases e)
    rw [this,inn_notNw hi]
    exact hr.up i
  · intro i hi hne
    simp only [gbOut] at hne
    split at hne
    · exact absurd rfl hne
    · rename_i hno
      cases hs:(lkB O.bx i).isSome with
      |true=>rfl
      |false=>exact absurd ⟨hi,hs⟩ hno
theorem Rel.ret {GL:List (Nat×List Value)} {N:Nat} {df:List Deferred} {d:Nat} {I:In} {O:Out} {gb0:Gb} {S0:Mem} {w0:World} {sv:Nat→Value} {rs:List AR} {fn:Func}
    (hr:Rel ⟨S0,w0,MS I gb0 sv w0,gb0,N,GL,df⟩ S gb σ a w) (hp: ∃τ,Frzs σ τ∧OutOk d rs O τ) (h5:mRs P rs fn.results.toList=true):
    ∃v S'' gb'',(results fn a.tmps).run P w= .ok v w∧PostR d I O S0 gb0 sv w0 S'' gb'' v w:=by
  obtain ⟨τ,hfz,hok⟩:=hp
  obtain ⟨S',gb',hr'⟩:=hr.frzs hfz
  have hx:=hok.r
  split at hx
  · rename_i vs' hv
    obtain ⟨us,hrun,g2,g3⟩:=res_run (P:=P) hr' h5 hv
    exact ⟨_,S',_,hrun,hr'.post hok hv g2 g3⟩
  · cases hx
theorem Rel.init {GL:List (Nat×List Value)} {N:Nat} {df:List Deferred} {I:In} {tmps:Array Value} {sv:Nat→Value} (hN:tmps.size=N) (hsv:tv {tmps:=tmps,defers:=df}=sv) (hvs:PRlist S gb I.vs ((List.range I.vs.length).map sv))
    (hhr:HR S gb I.bx I.pm sv w) (hglo: ∀i us,GL.lookup i=some us→ ∀(o:Nat) (u:Value),us[o]?=some u→S i o=some u∧u.oneCell'=true):
    Rel ⟨S,w,MS I gb sv w,gb,N,GL,df⟩ S (gbUp gb) (inSt I) {tmps:=tmps,defers:=df} w:=by
  have hup:=hhr.up
  refine ⟨rfl,hN,Bw.refl _ _,fun _ _ _ _=>rfl,Mem.le.refl _,?_,by rw [hsv];exact hup,?_,?_,?_,fun d=>rfl,hglo⟩
  · intro t
    have h1:=(lk_initE (PRlist_up _ _ hvs) 0 t).2 t (by omega)
    rw [hsv]
    by_cases ht:t<I.vs.length
    · have e:((List.range I.vs.length).map sv).getD t undef=sv t:=by simp [ht]
      rw [e] at h1
      exact h1
    · have e:lk (initE 0 (mpL Id.up I.vs)) t= .undef:=by
        have: ∀(l:List AV) (i:Nat),i+l.length≤t→lk (initE i l) t= .undef:=by
          intro l
          induction l with
          |nil=>intro i h;rfl
          |cons c r ih=>
            intro i h
            simp only [List.length_cons] at h
            simp only [initE,lk]
            rw [if_neg (by omega)]
            exact ih (i+1) (by omega)
        exact this _ 0 (by rw [mpL_length];omega)
      show PR S (gbUp gb) (lk (initE 0 (mpL Id.up I.vs)) t) _
      rw [e]
      simp [PR]
  · intro i g z hi hq
    obtain ⟨c1,hc1⟩:=Option.isSome_iff_exists.1 hi
    obtain ⟨j,cs,rfl,hj,_⟩:=lkB_mpB_some up_inj hc1
    exact .inr (.inl ⟨j,z,by rw [hj];rfl,hq⟩)
  · intro p k g hp hg
    obtain ⟨q,rfl,hq⟩:=lkP_mpP up_inj hp
    rw [hsv,plv_up] at hg
    exact .inr (.inr ⟨q,k,hq,hg⟩)
  · intro i hi
    cases i<;>simp [gbUp,Id.isUp] at hi ⊢

def SpecD (P:Program) (GL:List (Nat×List Value)) (f d:Nat) (I:In) (v:AV) (O:Out):Prop:=
  ∀(S:Mem) (gb:Gb) (w:World) (vs:List Value) (u:Value),PRlist S gb I.vs vs→HR S gb I.bx I.pm (fun t=>vs.getD t undef) w→
    (∀i us,GL.lookup i=some us→ ∀(o:Nat) (u:Value),us[o]?=some u→S i o=some u∧u.oneCell'=true)→(∀i,i.isNw d=true→gb i=none)→PR S gb v u→
    (callFunc f vs.toArray).run P w= .ok (.enter f vs.toArray) w∧
    (v= .nili→CallsD P f vs.toArray .returning w fun e u' w'=> ∃x,e= .returned x∧u'= .returning∧ ∃S' gb',PostR d I O S gb (fun t=>vs.getD t undef) w S' gb' x w')∧
    ((∃T y,v= .ifc T y)→CallsD P f vs.toArray (.panicking (thrown u)) w fun e u' w'=> ∃x,e= .returned x∧u'= .panicking [{v:=u,recovered:=true}]∧ ∃S' gb',PostR d I O S gb (fun t=>vs.getD t undef) w S' gb' x w')
@[irreducible] def SpD (P:Program) (GL:List (Nat×List Value)) (f d:Nat) (I:In) (v:AV) (O:Out):Prop:=SpecD P GL f d I v O
theorem spd_eq (P:Program) (GL:List (Nat×List Value)):SpD P GL=SpecD P GL:=by funext f d I v O;unfold SpD;rfl
structure AFD where
  r:Nat
  l:List AOp
  c:AC
  np:Nat
  N:Nat
def mFD (P:Program) (GL:List (Nat×List Value)) (dr:Array Oper→List (List Nat)→List AOp→Bool) (fn:Func) (f:AFD):Bool:=
  fn.name != "runtime.NumGoroutine"&&fn.params.size+fn.nfree==f.np&&fn.ntmps==f.N&&Nat.ble f.np f.N&&mRs P [] fn.results.toList&&Nat.blt f.r f.N&&
  (match fn.body with
   |some (.seq (.region _ ops false) c)=>(match ops.toList with
      |o::r=>o.guard.isNone&&o.dst==some f.r&&(match o.op with | .call {callee:= .builtin .recover,args:=as,argTypes:=_}=>as.toList.isEmpty|_=>false)&&mts P GL f.N ops r f.l&&mC P GL f.N dr c f.c
      |[]=>false)
   |_=>false)
theorem opsS_sound {ops:Array Oper} {K:St→Prop} {Q:Exit→Act→List Frame→World→Prop} {cs:List Frame} (hQ: ∀S gb σ a w,Rel F S gb σ a w→K σ→Q .normal a cs w):
    ∀ {l:List Oper} {al:List AOp} (k:Nat),(∀j,l[j]?=ops[k+j]?)→mts P F.GL F.N ops l al=true→ ∀ {S:Mem} {gb:Gb} {σ:St} {a:Act} {w:World},Rel F S gb σ a w→wpL (Spec P F.GL) al K σ→wpOpsS P ops Q (List.range' k l.length) a cs w
  |[],al,k,hk,hm,S,gb,σ,a,w,h,hw=>by
    cases al<;>simp [mts] at hm
    exact hQ _ _ _ _ _ h hw
  |o::r,al,k,hk,hm,S,gb,σ,a,w,h,hw=>by
    cases al with
    |nil=>simp [mts] at hm
    |cons ao s=>
      simp only [mts,Bool.and_eq_true] at hm
      simp only [wpL] at hw
      have hr:=opg_sound h hm.1 hw (K':=fun a w=>wpOpsS P ops Q (List.range' (k+1) r.length) a cs w) (Q:=fun e a w=>Q e a cs w)
        (fun S gb σ a w h' hk'=>opsS_sound hQ (k+1) (fun j=>by have:=hk (j+1);rw [List.getElem?_cons_succ] at this;rw [this];congr 1;omega) hm.2 h' hk')
      have ho:ops[k]?=some o:=by have:=hk 0;simpa using this.symm
      rw [List.length_cons,List.range'_succ]
      simp only [wpOpsS,ho]
      split
      · rename_i hc
        rw [if_pos hc] at hr
        unfold Oper.wp at hr
        split
        · rename_i w' he
          rw [he] at hr
          exact hr.elim
        · exact hr
      · rename_i hc
        rw [if_neg hc] at hr
        exact hr
theorem recover_run {o:Oper} {a:Act} {as:Array Operand} {ts:Array TypeId} (h:o.op= .call {callee:= .builtin .recover,args:=as,argTypes:=ts}) (hs:as.toList=[]):(execOp a.eval o).run P w= .ok .recover w:=by
  have:as= #[]:=by apply Array.ext';simpa using hs
  subst this
  unfold execOp
  simp [h,resolve,Deferred.ofValue,invoke,builtin]

theorem fun_soundDef {GL:List (Nat×List Value)} {dr:Array Oper→List (List Nat)→List AOp→Bool} {f:Nat} {fn:Func} {af:AFD} (hf:P.funcs[f]?=some fn) (hm:mFD P GL dr fn af=true) (hd:DrawsOk P GL af.N dr) {d:Nat} {I:In} {v:AV} {O:Out} (hl:I.vs.length=af.np) (hi:v.ids=[])
    (hw:wpL (Spec P GL) af.l (wpA (Spec P GL) af.c (postH d [] O)) ((inSt I).put af.r v)):SpecD P GL f d I v O:=by
  simp only [mFD,Bool.and_eq_true,bne_iff_ne,beq_iff_eq] at hm
  obtain ⟨⟨⟨⟨⟨⟨h1,h2⟩,h3⟩,h4⟩,h5⟩,hrN⟩,h6⟩:=hm
  have hrN:af.r<af.N:=by simpa using hrN
  split at h6<;>(try cases h6)
  rename_i id ops c hb
  split at h6<;>(try cases h6)
  rename_i o r hops
  simp only [Bool.and_eq_true,beq_iff_eq,Option.isNone_iff_eq_none] at h6
  obtain ⟨⟨⟨⟨hg,hdst⟩,hrec⟩,hmr⟩,hmc⟩:=h6
  have h4:=Nat.le_of_ble_eq_true h4
  intro S gb w vs u hvs hhr hglo hnw hpu
  have hlen:vs.length=I.vs.length:=hvs.length.symm
  have hcall:(callFunc f vs.toArray).run P w= .ok (.enter f vs.toArray) w:=by
    simp [callFunc,hf,hb,h1]
  let F:Fr:=⟨S,w,MS I gb (fun t=>vs.getD t undef) w,gb,af.N,GL,[]⟩
  have hrel:Rel F S (gbUp gb) (inSt I) {tmps:=vs.toArray++Array.replicate (fn.ntmps - vs.toArray.size) undef,defers:=[]} w:=by
    refine Rel.init (by simp;omega) (by funext t;exact tv_init) ?_ hhr hglo
    have e:(List.range I.vs.length).map (fun t=>vs.getD t undef)=vs:=by
      apply List.ext_getElem
      · simp [hlen]
      · intro n h1 h2
        simp
        rw [List.getElem?_eq_getElem h2]
        rfl
    rw [e]
    exact hvs
  have hrel:=hrel.put (d:=af.r) (v:=v) (u:=u) hrN (PR.noids _ _ hi hpu)
  have hrecop:(execOp ({tmps:=vs.toArray++Array.replicate (fn.ntmps - vs.toArray.size) undef,defers:=[]}:Act).eval o).run P w= .ok .recover w:=by
    split at hrec<;>(try cases hrec)
    rename_i as ts hop
    exact recover_run hop (by simpa using hrec)
  have ho:ops[0]?=some o:=by rw [←Array.getElem?_toList,hops];rfl
  have hsz:ops.size=r.length+1:=by rw [←Array.length_toList,hops,List.length_cons]
  have rest: ∀(c₀:Frame) (cs:List Frame) (u':FrameMode) (R:Ending→FrameMode→World→Prop),(∀x w' S' gb',PostR d I O S gb (fun t=>vs.getD t undef) w S' gb' x w'→R (.returned x) u' w')→
      wpOpsS P ops (Exit.thenS (c.wpS P (bodyPostS P fn c₀ cs R)) (bodyPostS P fn c₀ cs R)) (List.range' 1 r.length) (({tmps:=vs.toArray++Array.replicate (fn.ntmps - vs.toArray.size) undef,defers:=[]}:Act).put o.dst u) ({c₀ with mode:=u'}::cs) w:=by
    intro c₀ cs u' R hR
    rw [hdst]
    refine opsS_sound (F:=F) (K:=wpA (Spec P GL) af.c (postH d [] O)) ?_ 1 (fun j=>by rw [←Array.getElem?_toList,hops,Nat.add_comm,List.getElem?_cons_succ]) hmr hrel hw
    intro S1 gb1 σ1 a1 w1 hr1 hw1
    refine wpS_of_wp ?_
    refine code_sound (F:=F) hd hmc (Q:=postH d [] O) ?_ hr1 hw1
    intro e S2 gb2 σ2 a2 w2 hr2 hq
    have fin:(∃τ,Frzs σ2 τ∧OutOk d [] O τ)→a2.defers=[]∧ ∃u'',({c₀ with mode:=u'}::cs:List Frame)={c₀ with mode:=u''}::cs∧ ∃v,(results fn a2.tmps).run P w2= .ok v w2∧R (.returned v) u'' w2:=by
      intro hp
      obtain ⟨x,S'',gb'',g1,g2⟩:=Rel.ret (fn:=fn) hr2 hp h5
      exact ⟨hr2.defers,u',rfl,x,g1,hR x w2 S'' gb'' g2⟩
    cases e
    · exact fin hq
    · exact hq.elim
    · exact fin hq
  have run: ∀(c₀:Frame) (cs:List Frame) (u':FrameMode) (R:Ending→FrameMode→World→Prop),(match recoverD (c₀::cs) with |some (x,cs')=>x=u∧cs'={c₀ with mode:=u'}::cs|none=>u= .nilIface∧{c₀ with mode:=u'}=c₀)→
      (∀x w' S' gb',PostR d I O S gb (fun t=>vs.getD t undef) w S' gb' x w'→R (.returned x) u' w')→
      (Code.seq (.region id ops false) c).wpS P (bodyPostS P fn c₀ cs R) {tmps:=vs.toArray++Array.replicate (fn.ntmps - vs.toArray.size) undef,defers:=[]} (c₀::cs) w:=by
    intro c₀ cs u' R hrc hR
    refine wpS_seq (wpS_region ?_)
    have hrg:List.range ops.size=0::List.range' 1 r.length:=by rw [hsz,List.range_eq_range',List.range'_succ]
    rw [hrg]
    simp only [wpOpsS,ho]
    rw [if_pos (by simp [Region.wanted,hg]),hrecop]
    have hrest:=rest c₀ cs u' R hR
    split at hrc
    · rename_i x cs' he
      obtain ⟨rfl,rfl⟩:=hrc
      simp only [he]
      exact hrest
    · rename_i he
      obtain ⟨rfl,hc⟩:=hrc
      simp only [he]
      rw [hc] at hrest
      exact hrest
  refine ⟨hcall,?_,?_⟩
  · rintro rfl
    simp only [PR] at hpu
    refine callsD_of_wpS hf hb fun c₀ cs hmode=>run c₀ cs .returning _ ?_ fun x w' S' gb' hp=>⟨x,rfl,rfl,S',gb',hp⟩
    simp only [recoverD,hmode]
    exact ⟨hpu,by cases c₀;simp at hmode;subst hmode;rfl⟩
  · rintro ⟨T,y,rfl⟩
    refine callsD_of_wpS hf hb fun c₀ cs hmode=>run c₀ cs (.panicking [{v:=u,recovered:=true}]) _ ?_ fun x w' S' gb' hp=>⟨x,rfl,rfl,S',gb',hp⟩
    simp only [recoverD,hmode,thrown]
    exact ⟨trivial,trivial⟩

inductive ACD where
  |df (l:List AOp) (x:X) (c:AC2)
  |sq (a:AC) (r:ACD)
structure AFX where
  c:ACD
  rs:List AR
  np:Nat
  N:Nat
def mCD (P:Program) (GL:List (Nat×List Value)) (N:Nat) (dr:Array Oper→List (List Nat)→List AOp→Bool):Code→ACD→Bool
  | .seq a b,.sq a' r=>mC P GL N dr a a'&&mCD P GL N dr b r
  | .seq (.region _ ops false) c,.df l x c'=>(match ops.toList.drop l.length with
      |[o]=>mts P GL N ops (ops.toList.take l.length) l&&o.guard.isNone&&o.dst.isNone&&(match o.op with | .defer {callee:= .value y,args:=as,argTypes:=_}=>as.toList.isEmpty&&mX GL x y|_=>false)
      |_=>false)&&mC2 P GL N dr c c'
  |_,_=>false
def mFX (P:Program) (GL:List (Nat×List Value)) (dr:Array Oper→List (List Nat)→List AOp→Bool) (fn:Func) (f:AFX):Bool:=
  fn.name != "runtime.NumGoroutine"&&fn.params.size+fn.nfree==f.np&&fn.ntmps==f.N&&Nat.ble f.np f.N&&mRs P f.rs fn.results.toList&&(match fn.body with |some c=>mCD P GL f.N dr c f.c|none=>false)
section
variable (S SP:Nat→Nat→In→Out→Prop) (SD:Nat→Nat→In→AV→Out→Prop) (N sl dm d:Nat) (rs:List AR) (O:Out)
def leftD (M:Out) (g:Nat) (caps:List AV) (v:AV) (τ:St):Prop:=
  ∃I2 O2,SD g dm I2 v O2∧CallOk dm τ ((mpL Id.up caps).map X.c) I2 O2∧postH sl rs M .r (callP dm τ ((mpL Id.up caps).map X.c) I2 O2)
def wpDf:ACD→St→Prop
  | .sq a r,σ=>wpA S a (fun e σ'=>match e with | .n=>wpDf r σ'| .r=>postH d rs O .r σ'| .x _=>False) σ
  | .df l x c2,σ=>wpL S l (fun σ'=>match σ'.v x with
    | .fn g caps=> ∃I M,I.vs.length=N∧CallOk sl σ' ((List.range N).map X.s) I M∧postH d [.t sl] O .r (callSt sl σ' ((List.range N).map X.s) I M)∧
        wpA2 S SP (fun v τ=>(∃T y,v= .ifc T y)∧leftD SD sl dm rs M g caps v τ) c2 (fun e τ=>match e with | .x _=>False|_=>leftD SD sl dm rs M g caps .nili τ) (inSt I)
    |_=>False) σ
end
theorem list_of_arr (a:Act):(List.range a.tmps.size).map (tv a)=a.tmps.toList:=by
  apply List.ext_getElem
  · simp
  · intro n h1 h2
    have h3:n<a.tmps.size:=by simpa using h2
    simp [tv,h3]
theorem PRlist_tv (h:Rel F S gb σ a w): ∀(l:List Nat),PRlist S gb ((l.map X.s).map σ.v) (l.map (tv a))
  |[]=>by simp [PRlist]
  |t::l=>by
    simp only [List.map_cons,PRlist]
    exact ⟨_,_,rfl,h.env t,PRlist_tv h l⟩
theorem fun_soundX {GL:List (Nat×List Value)} {dr:Array Oper→List (List Nat)→List AOp→Bool} {f:Nat} {fn:Func} {af:AFX} (hf:P.funcs[f]?=some fn) (hm:mFX P GL dr fn af=true) (hd:DrawsOk P GL af.N dr) {sl dm d:Nat} (hsl:sl<af.N) (hdm:dm<af.N) {I0:In} {O:Out} (hl:I0.vs.length=af.np)
    (hw:wpDf (Spec P GL) (SpecP P GL) (SpecD P GL) af.N sl dm d af.rs O af.c (inSt I0)):Spec P GL f d I0 O:=by
  simp only [mFX,Bool.and_eq_true,bne_iff_ne,beq_iff_eq] at hm
  obtain ⟨⟨⟨⟨⟨h1,h2⟩,h3⟩,h4⟩,h5⟩,h6⟩:=hm
  split at h6<;>(try cases h6)
  rename_i c hb
  have h4:=Nat.le_of_ble_eq_true h4
  intro S0 gb0 w0 vs hvs hhr hglo hnw
  have hlen:vs.length=I0.vs.length:=hvs.length.symm
  unfold Does
  have hcall:(callFunc f vs.toArray).run P w0= .ok (.enter f vs.toArray) w0:=by
    simp [callFunc,hf,hb,h1]
  rw [hcall]
  refine calls_of_wp_defers hf hb ?_
  let F:Fr:=⟨S0,w0,MS I0 gb0 (fun t=>vs.getD t undef) w0,gb0,af.N,GL,[]⟩
  have hrel:Rel F S0 (gbUp gb0) (inSt I0) {tmps:=vs.toArray++Array.replicate (fn.ntmps - vs.toArray.size) undef,defers:=[]} w0:=by
    refine Rel.init (by simp;omega) (by funext t;exact tv_init) ?_ hhr hglo
    have e:(List.range I0.vs.length).map (fun t=>vs.getD t undef)=vs:=by
      apply List.ext_getElem
      · simp [hlen]
      · intro n h1 h2
        simp
        rw [List.getElem?_eq_getElem h2]
        rfl
    rw [e]
    exact hvs
  generalize ({tmps:=vs.toArray++Array.replicate (fn.ntmps - vs.toArray.size) undef,defers:=[]}:Act)=a0 at hrel ⊢
  generalize inSt I0=σ0 at hrel hw
  obtain ⟨R,hR⟩: ∃R:Ending→World→Prop,R=fun e w'=> ∃v,e= .returned v∧ ∃S' gb',PostR d I0 O S0 gb0 (fun t=>vs.getD t undef) w0 S' gb' v w':=⟨_,rfl⟩
  rw [←hR]
  have leave: ∀ {S gb σ a w},Rel F S gb σ a w→postH d af.rs O .r σ→Leaves P fn a.tmps R a.defers .returning w:=by
    intro S gb σ a w hr hp
    obtain ⟨x,S'',gb'',g1,g2⟩:=Rel.ret (fn:=fn) hr hp h5
    rw [hr.defers]
    exact ⟨x,g1,by rw [hR];exact ⟨x,rfl,S'',gb'',g2⟩⟩
  have mid: ∀ {c2:Code} {c2':AC2} {g:Nat} {caps:List AV} {us:Array Value} {S gb σ a w},mC2 P GL af.N dr c2 c2'=true→Rel F S gb σ a w→PRlist S gb caps us.toList→
      (∃I M,I.vs.length=af.N∧CallOk sl σ ((List.range af.N).map X.s) I M∧postH d [.t sl] O .r (callSt sl σ ((List.range af.N).map X.s) I M)∧
        wpA2 (Spec P GL) (SpecP P GL) (fun v τ=>(∃T y,v= .ifc T y)∧leftD (SpecD P GL) sl dm af.rs M g caps v τ) c2' (fun e τ=>match e with | .x _=>False|_=>leftD (SpecD P GL) sl dm af.rs M g caps .nili τ) (inSt I))→
      c2.wp P (bodyPostD P fn R) {a with defers:={target:= .fn (.func g) us,args:= #[]}::a.defers} w:=by
    intro c2 c2' g caps us S gb σ a w hm2 hr hcaps hmid
    obtain ⟨I,M,hIl,hc,hpost,hw2⟩:=hmid
    have hsz:a.tmps.size=af.N:=hr.size
    have hl2:PRlist S gb (((List.range af.N).map X.s).map σ.v) a.tmps.toList:=by
      rw [←list_of_arr a,hsz]
      exact PRlist_tv hr _
    have hslot: ∀(i t:Nat),((List.range af.N).map X.s)[i]?=some (X.s t)→a.tmps.toList[i]?=some (tv a t):=by
      intro i t hi
      rw [List.getElem?_map] at hi
      cases hq:(List.range af.N)[i]? with
      |none=>rw [hq] at hi;cases hi
      |some j=>
        rw [hq] at hi
        simp only [Option.map_some,Option.some.injEq,X.s.injEq] at hi
        subst hi
        have hj:=List.getElem?_eq_some_iff.1 hq
        obtain ⟨hj1,hj2⟩:=hj
        simp only [List.length_range] at hj1
        simp only [List.getElem_range] at hj2
        subst hj2
        have:i<a.tmps.size:=by omega
        simp [tv,this]
    have hent:=call_entry hr hc hl2 hslot
    have hvs2:PRlist S gb I.vs a.tmps.toList:=wkL_PR hc.vs hl2
    have hglo2: ∀i us,GL.lookup i=some us→ ∀(o:Nat) (u:Value),us[o]?=some u→S i o=some u∧u.oneCell'=true:=fun i us hi o u hu=>⟨hr.le _ _ _ (hr.glo i us hi o u hu).1,(hr.glo i us hi o u hu).2⟩
    have hsv:(fun t=>a.tmps.toList.getD t undef)=tv a:=by
      funext t
      simp [tv,Array.getD_eq_getD_getElem?,List.getD_eq_getElem?_getD]
    have hdf:a.defers=[]:=hr.defers
    rw [hdf]
    let F2:Fr:=⟨S,w,MS I gb (fun t=>a.tmps.toList.getD t undef) w,gb,af.N,GL,[{target:= .fn (.func g) us,args:= #[]}]⟩
    have hrel2:Rel F2 S (gbUp gb) (inSt I) {a with defers:=[{target:= .fn (.func g) us,args:= #[]}]} w:=by
      refine Rel.init hsz (by rw [hsv];rfl) ?_ hent hglo2
      rw [hIl,hsv,←hsz,list_of_arr a]
      exact hvs2
    have fin: ∀ {v:AV} {u:Value} {S' gb' τ a' w'},Rel F2 S' gb' τ a' w'→leftD (SpecD P GL) sl dm af.rs M g caps v τ→PR S' gb' v u→
        ∃args,(invoke (.fn (.func g) us) #[]).run P w'= .ok (.enter g args) w'∧
          (v= .nili→CallsD P g args .returning w' fun e u' w''=> ∃x,e= .returned x∧u'= .returning∧ ∃y,(results fn a'.tmps).run P w''= .ok y w''∧R (.returned y) w'')∧
          ((∃T y,v= .ifc T y)→CallsD P g args (.panicking (thrown u)) w' fun e u' w''=> ∃x,e= .returned x∧u'= .panicking [{v:=u,recovered:=true}]∧ ∃y,(results fn a'.tmps).run P w''= .ok y w''∧R (.returned y) w''):=by
      intro v u S' gb' τ a' w' hr' hleft hpu
      obtain ⟨I2,O2,hspec,hc2,hp2⟩:=hleft
      have hle:(gbUp gb).le gb':=by
        intro i x hi
        cases i with
        |up j=>rw [hr'.up j];exact hi
        |_=>cases hi
      have hl3:PRlist S' gb' (((mpL Id.up caps).map X.c).map τ.v) us.toList:=by
        have e:((mpL Id.up caps).map X.c).map τ.v=mpL Id.up caps:=by
          rw [List.map_map]
          exact (List.map_congr_left (fun c _=>rfl)).trans (List.map_id _)
        rw [e]
        exact PRlist.mono hr'.le hle _ _ (PRlist_up _ _ hcaps)
      have hslot3: ∀(i t:Nat),((mpL Id.up caps).map X.c)[i]?=some (X.s t)→us.toList[i]?=some (tv a' t):=by
        intro i t hi
        rw [List.getElem?_map] at hi
        cases hq:(mpL Id.up caps)[i]? with
        |none=>rw [hq] at hi;cases hi
        |some j=>rw [hq] at hi;cases hi
      have hent3:=call_entry hr' hc2 hl3 hslot3
      have hvs3:PRlist S' gb' I2.vs us.toList:=wkL_PR hc2.vs hl3
      have hglo3: ∀i us,GL.lookup i=some us→ ∀(o:Nat) (u:Value),us[o]?=some u→S' i o=some u∧u.oneCell'=true:=fun i us hi o u hu=>⟨hr'.le _ _ _ (hr'.glo i us hi o u hu).1,(hr'.glo i us hi o u hu).2⟩
      have hgn: ∀i,i.isNw dm=true→gb' i=none:=by
        intro i hi
        cases hg:gb' i with
        |none=>rfl
        |some x=>
          rcases hr'.dom i (by rw [hg];simp) with h1|h1
          · obtain ⟨cs,hcs⟩:=Option.isSome_iff_exists.1 h1
            have:=hc2.free _ (lkB_mem _ _ _ hcs)
            simp only at this
            rw [this] at hi;cases hi
          · cases i<;>simp [Id.isUp,Id.isNw] at h1 hi
      obtain ⟨hrun,hn,hy⟩:=hspec S' gb' w' us.toList u hvs3 hent3 hglo3 hgn hpu
      have done: ∀ {x S'' gb'' w''},PostR dm I2 O2 S' gb' (fun t=>us.toList.getD t undef) w' S'' gb'' x w''→ ∃y,(results fn a'.tmps).run P w''= .ok y w''∧R (.returned y) w'':=by
        intro x S'' gb'' w'' hp
        have hr3:=(hr'.call hdm hc2 hl3 hslot3 hp).unput hdm
        obtain ⟨y,S3,gb3,g1,g2⟩:=Rel.ret (fn:=fn) hr3 hp2 h5
        refine ⟨y,g1,?_⟩
        have hr4:=hr.call hsl hc hl2 hslot g2
        obtain ⟨τ4,hfz,hok⟩:=hpost
        obtain ⟨S5,gb5,hr5⟩:=hr4.frzs hfz
        have hv:resA τ4 [.t sl]=some [lk τ4.e sl]:=rfl
        have hpo:=hr5.post (us:=[tv (a.put (some sl) y) sl]) hok hv (by simp only [PRlist];exact ⟨_,_,rfl,hr5.env sl,rfl⟩) (fun i s hi=>by
          cases i with
          |zero=>simp at hi;subst hi;rfl
          |succ i=>simp at hi)
        have ey:tv (a.put (some sl) y) sl=y:=by rw [tv_put (by rw [hsz];exact hsl),if_pos rfl]
        rw [hR]
        rw [ey] at hpo
        exact ⟨y,rfl,S5,_,hpo⟩
      refine ⟨us.toList.toArray,?_,fun e=>(hn e).mono fun e u' w'' ⟨x,h1,h2,S'',gb'',hp⟩=>⟨x,h1,h2,done hp⟩,fun e=>(hy e).mono fun e u' w'' ⟨x,h1,h2,S'',gb'',hp⟩=>⟨x,h1,h2,done hp⟩⟩
      rw [show us.toList.toArray=us from rfl] at hrun ⊢
      simp only [invoke]
      simpa using hrun
    refine code2_sound (F:=F2) hd hm2 (Q:=fun e τ=>match e with | .x _=>False|_=>leftD (SpecD P GL) sl dm af.rs M g caps .nili τ) (R:=fun v τ=>(∃T y,v= .ifc T y)∧leftD (SpecD P GL) sl dm af.rs M g caps v τ) ?_ ?_ hrel2 hw2
    · intro e S' gb' τ a' w' hr' hq
      have key:leftD (SpecD P GL) sl dm af.rs M g caps .nili τ→Leaves P fn a'.tmps R a'.defers .returning w':=by
        intro hq
        obtain ⟨args,hi,hn,_⟩:=fin (u:= .nilIface) hr' hq (by simp [PR])
        rw [hr'.defers]
        refine leaves_cons (by simp) hi ((hn rfl).mono ?_)
        rintro e u' w'' ⟨x,rfl,rfl,y,h1,h2⟩
        exact ⟨y,h1,h2⟩
      cases e
      · exact key hq
      · exact hq.elim
      · exact key hq
    · intro v u S' gb' τ a' w' hr' hq hpu hi
      show Leaves P fn a'.tmps R a'.defers (.panicking (thrown u)) w'
      obtain ⟨hv,hq⟩:=hq
      obtain ⟨args,hinv,hn,hy⟩:=fin hr' hq hpu
      rw [hr'.defers]
      refine leaves_cons (by simp) hinv ((hy hv).mono ?_)
      rintro e u' w'' ⟨x,rfl,rfl,y,h1,h2⟩
      exact ⟨y,h1,h2⟩
  have main: ∀ {acd:ACD} {c:Code},mCD P GL af.N dr c acd=true→ ∀ {S gb σ a w},Rel F S gb σ a w→wpDf (Spec P GL) (SpecP P GL) (SpecD P GL) af.N sl dm d af.rs O acd σ→c.wp P (bodyPostD P fn R) a w:=by
    intro acd
    induction acd with
    |sq a' r ih=>
      intro c hm S gb σ a w hr hw
      cases c
      case seq ca cb=>
        simp only [mCD,Bool.and_eq_true] at hm
        obtain ⟨hma,hmb⟩:=hm
        refine wp_seq (code_sound (F:=F) hd hma (Q:=fun e σ'=>match e with | .n=>wpDf (Spec P GL) (SpecP P GL) (SpecD P GL) af.N sl dm d af.rs O r σ'| .r=>postH d af.rs O .r σ'| .x _=>False) ?_ hr hw)
        intro e S1 gb1 σ1 a1 w1 hr1 hq
        cases e
        · exact ih hmb hr1 hq
        · exact hq.elim
        · exact leave hr1 hq
      all_goals simp [mCD] at hm
    |df l x c2'=>
      intro c hm S gb σ a w hr hw
      unfold mCD at hm
      split at hm
      · rename_i e;cases e
      · rename_i id ops c2 l' x' c2'' e
        cases e
        simp only [Bool.and_eq_true] at hm
        obtain ⟨hm1,hm2⟩:=hm
        split at hm1
        · rename_i o hdrop
          simp only [Bool.and_eq_true,Option.isNone_iff_eq_none] at hm1
          obtain ⟨⟨⟨hml,hg⟩,hdst⟩,hop⟩:=hm1
          refine wp_seq (wp_region_list ?_)
          have e:ops.toList=ops.toList.take l.length++[o]:=by rw [←hdrop,List.take_append_drop]
          rw [e]
          refine list_sound_app (F:=F) ?_ hml hr hw
          intro S1 gb1 σ1 a1 w1 hr1 hk
          split at hop<;>(try cases hop)
          rename_i y as ts hop'
          simp only [Bool.and_eq_true] at hop
          obtain ⟨has,hx⟩:=hop
          have hx:=mX_sound hr1 hx
          have has:as= #[]:=by apply Array.ext';simpa using has
          subst has
          split at hk
          · rename_i g caps hv
            rw [hv] at hx
            simp only [PR] at hx
            obtain ⟨us,hx,hcaps⟩:=hx
            simp only [wpList]
            rw [if_pos (by simp [Region.wanted,hg])]
            refine .inl ?_
            have hrun:(execOp a1.eval o).run P w1= .ok (.defer {target:= .fn (.func g) us,args:= #[]}) w1:=by
              unfold execOp
              simp [hop',resolve,hx,Deferred.ofValue]
            unfold Oper.wp
            rw [hrun,Oper.upon_defer,hdst]
            exact mid hm2 hr1 hcaps hk
          · cases hk
        · cases hm1
      · cases hm
  exact main h6 hrel hw
theorem fun_spX {P:Program} {GL:List (Nat×List Value)} {dr:Array Oper→List (List Nat)→List AOp→Bool} {f:Nat} {fn:Func} {af:AFX} (hf:P.funcs[f]?=some fn) (hm:mFX P GL dr fn af=true) (hd:DrawsOk P GL af.N dr) {sl dm d:Nat} (hsl:sl<af.N) (hdm:dm<af.N) {I:In} {O:Out} (hl:I.vs.length=af.np)
    (hw:wpDf (SpH P GL) (SpT P GL) (SpD P GL) af.N sl dm d af.rs O af.c (inSt I)):SpH P GL f d I O:=by
  rw [sph_eq,spt_eq,spd_eq] at hw;rw [sph_eq];exact fun_soundX hf hm hd hsl hdm hl hw
theorem fun_spD {P:Program} {GL:List (Nat×List Value)} {dr:Array Oper→List (List Nat)→List AOp→Bool} {f:Nat} {fn:Func} {af:AFD} (hf:P.funcs[f]?=some fn) (hm:mFD P GL dr fn af=true) (hd:DrawsOk P GL af.N dr) {d:Nat} {I:In} {v:AV} {O:Out} (hl:I.vs.length=af.np) (hi:v.ids=[])
    (hw:wpL (SpH P GL) af.l (wpA (SpH P GL) af.c (postH d [] O)) ((inSt I).put af.r v)):SpD P GL f d I v O:=by
  rw [sph_eq] at hw;rw [spd_eq];exact fun_soundDef hf hm hd hl hi hw
end Go.Ai
