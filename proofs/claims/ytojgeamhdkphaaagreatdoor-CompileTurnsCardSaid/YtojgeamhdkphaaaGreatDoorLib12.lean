/- Lib12: a part of the proof. Conditions: as each theorem says. -/
import Derived.Test.YtojgeamhdkphaaaGreatDoorLib6
import Derived.ChangeArms
import Derived.ChangeOld
import Derived.OpenShut
import Derived.WideKeyArgs
import Derived.RowKit
import Derived.ChangeSame
import Derived.Below
set_option linter.unusedSimpArgs false
set_option linter.unusedVariables false
namespace Go.Ai
open Go.ChangeShapes Go.WideShapes Go.RowKit

def xV (P:Program):List Field->Nat->Nat->Bool
 |[],off,tot=>off==tot
 |f::r,off,tot=>f.offset==off&&xV P r (off+P.cellsOf f.type) tot
def mw {H:Type} (P:Program):Nat->TypeId->DataW H->List AV
 |0,_,_=>[]
 |n+1,t,d=>match P.underlying t,d with
  |some .bool,.lit (.bool b)=>[.bool b]
  |some (.int _),.lit (.int k m)=>[.int k m]
  |some .string,.lit (.string s)=>[.str s]
  |some (.slice _),.nil=>[.sl []]
  |some (.slice e),.slice elems _=>[.sl (elems.map fun d=>mw P n e d)]
  |some (.struct fs),.agg cJ=>(fs.toList.zip cJ).flatMap fun p=>mw P n p.1.type p.2
  |some (.array _ e),.agg cJ=>cJ.flatMap fun d=>mw P n e d
  |some (.pointer _),.nil=>[.nilp]
  |some (.pointer e),.ptr d=>[.pin (mw P n e d)]
  |_,_=>[]

theorem aa.app {S:aR} {gb:Gb}: ∀ {l l':List AV} {cs cs':List Value},aa S gb l cs->aa S gb l' cs'->aa S gb (l++l') (cs++cs')
 |[],l',cs,cs',h,h'=>by simp only[aa] at h;subst h;exact h'
 |c::r,l',cs,cs',h,h'=>by
  simp only[aa] at h;obtain ⟨u,us,rfl,h1,h2⟩:=h;simp only[cB,aa];exact ⟨u,us++cs',rfl,h1,aa.app h2 h'⟩

section
variable {H:Type} {enc:TypeId×Value->H} {P:Program} {w:World} {base:Nat} {spare:Nat->Bool} {held:Bool} {S:aR}

def tS (P:Program) (S:aR) (t:TypeId) (l:List AV) (cs:List Value):Prop:=l.length=P.cellsOf t/\cs.length=P.cellsOf t/\aa S fP l cs/\ ∀u∈cs,u.oneCell'=true

theorem pU {n:Nat}: ∀(fs:List Field) (cJ:List (DataW H)) (off tot:Nat) (cs:List Value),xV P fs off tot=true->cs.length=tot->fs.length=cJ.length->
  (∀(i:Nat) (f:Field) (d:DataW H),fs[i]?=some f->cJ[i]?=some d->tS P S f.type (mw P n f.type d) ((cs.drop f.offset).take (P.cellsOf f.type)))->
  off<=tot/\((fs.zip cJ).flatMap fun p=>mw P n p.1.type p.2).length=tot - off/\aa S fP ((fs.zip cJ).flatMap fun p=>mw P n p.1.type p.2) (cs.drop off)/\ ∀u∈cs.drop off,u.oneCell'=true
 |[],[],off,tot,cs,ht,hc,_,_=>by
  simp only[xV,cI] at ht;subst ht
  have:cs.drop off=[]:=Co (by omega)
  simp[this,aa]
 |[],_::_,_,_,_,_,_,hl,_=>by simp at hl
 |_::_,[],_,_,_,_,_,hl,_=>by simp at hl
 |f::fs,d::cJ,off,tot,cs,ht,hc,hl,hg=>by
  simp only[xV,aJ,cI] at ht;obtain ⟨h1,h2⟩:=ht;obtain ⟨a1,a2,a3,a4⟩:=hg 0 f d rfl rfl;obtain ⟨b0,b1,b2,b3⟩:=pU fs cJ (off+P.cellsOf f.type) tot cs h2 hc (by simpa using hl) (fun i f d hf hd=>hg (i+1) f d hf hd);rw[h1] at a2 a3 a4;have e:cs.drop off=(cs.drop off).take (P.cellsOf f.type)++cs.drop (off+P.cellsOf f.type):=by
   rw[<-List.drop_drop,F9]
  refine ⟨by omega,?_,?_,?_⟩
  ·simp only[List.zip_cons_cons,List.flatMap_cons,fT,a1];omega
  ·simp only[List.zip_cons_cons,List.flatMap_cons];rw[e];exact aa.app a3 b2
  ·intro u hu;rw[e] at hu;rcases jD.1 hu with hu|hu
   ·exact a4 u hu
   ·exact b3 u hu

theorem ry {n:Nat} {e:TypeId}: ∀(cJ:List (DataW H)) (off:Nat) (cs:List Value),cs.length=(off+cJ.length)*P.cellsOf e->
  (∀(i:Nat) (d:DataW H),cJ[i]?=some d->tS P S e (mw P n e d) ((cs.drop ((off+i)*P.cellsOf e)).take (P.cellsOf e)))->
  (cJ.flatMap fun d=>mw P n e d).length=cJ.length*P.cellsOf e/\aa S fP (cJ.flatMap fun d=>mw P n e d) (cs.drop (off*P.cellsOf e))/\ ∀u∈cs.drop (off*P.cellsOf e),u.oneCell'=true
 |[],off,cs,hc,_=>by
  have:cs.drop (off*P.cellsOf e)=[]:=Co (by simp at hc;omega)
  simp[this,aa]
 |d::cJ,off,cs,hc,hg=>by
  obtain ⟨a1,a2,a3,a4⟩:=hg 0 d rfl;obtain ⟨b1,b2,b3⟩:=ry cJ (off+1) cs (by rw[hc];congr 1;simp;omega) (fun i d hd=>by have:=hg (i+1) d hd;rwa [show off+(i+1)=off+1+i by omega] at this);have q:cs.drop (off*P.cellsOf e)=(cs.drop (off*P.cellsOf e)).take (P.cellsOf e)++cs.drop ((off+1)*P.cellsOf e):=by
   rw[Nat.succ_mul,<-List.drop_drop,F9]
  simp only[tF] at a2 a3 a4;refine ⟨?_,?_,?_⟩
  ·simp only[List.flatMap_cons,fT,a1,b1,e7,Nat.succ_mul];omega
  ·simp only[List.flatMap_cons];rw[q];exact aa.app a3 b2
  ·intro u hu;rw[q] at hu;rcases jD.1 hu with hu|hu
   ·exact a4 u hu
   ·exact b3 u hu

theorem ux {a:Addr} {n:Nat} {cs:List Value} (h:w.cells? base a n=some cs):cs.length=n/\ ∀(j:Nat) (u:Value),cs[j]?=some u->w.cell? (a.add j)=some u:=by
 unfold World.cells? at h;split at h
 ·have hl:=mapM_some_length h;simp only[List.length_range] at hl;refine ⟨hl,fun j u hu=>?_⟩;have hj:j<n:=by
   have:=(qZ.1 hu).1
   omega
  rw[mapM_some_get h j j (by simp[hj])];exact hu
 ·cases h

theorem Gt (a:Addr) (i j:Nat):(a.add i).add j=a.add (i+j):=by
 unfold Addr.add;by_cases hi:i=0<;>by_cases hj:j=0<;>simp[hi,hj,Gd]
theorem uy {a:Addr} {u:Value} (h:w.cell? a=some u):a.spot=none:=by
 unfold World.cell? at h;split at h
 ·split at h
  ·cases h
  ·rename_i hs;simpa using hs
 ·cases h

theorem uz {n:Nat} {e:TypeId} (hS: ∀g o,S g o=w.cell? ⟨g,o,none⟩) {g:Nat}: ∀(elems:List (DataW H)) (o:Nat),
  (∀(i:Nat) (d:DataW H),elems[i]?=some d-> ∃cs,tS P S e (mw P n e d) cs/\ ∀(j:Nat) (u:Value),cs[j]?=some u->w.cell? ⟨g,o+i*P.cellsOf e+j,none⟩=some u)->
  a6 S (P.cellsOf e) (elems.map fun d=>mw P n e d) g o
 |[],_,_=>by simp[a6]
 |d::r,o,h=>by
  obtain ⟨cs,⟨a1,a2,a3,a4⟩,h2⟩:=h 0 d rfl;simp only[fZ,a6];refine ⟨a1,aK.of_list a3 a4 (fun j u hu=>by rw[hS];simpa using h2 j u hu),uz hS r (o+P.cellsOf e) (fun i d hd=>?_)⟩;obtain ⟨cs',h3,h4⟩:=h (i+1) d hd;refine ⟨cs',h3,fun j u hu=>?_⟩
  have:=h4 j u hu
  rwa [show o+(i+1)*P.cellsOf e+j=o+P.cellsOf e+i*P.cellsOf e+j by rw[Nat.succ_mul];omega] at this

def Cw (P:Program) (t:TypeId) (cs:List AV):AV:=match P.underlying t with
 |some (.struct _)=>AV.agg cs
 |some (.array _ _)=>AV.agg cs
 |_=>cs.headD .undef
def nL (P:Program) (n:Nat):List TypeId->List (DataW H)->List AV
 |t::ts,d::ds=>Cw P t (mw P n t d)::nL P n ts ds
 |_,_=>[]

def Gu (F:TypeId->List AV->Prop):List Field->List AV->Prop
 |[],l=>l=[]
 |f::r,l=> ∃a b,l=a++b/\F f.type a/\Gu F r b
def D2 (P:Program):Nat->TypeId->List AV->Prop
 |0,_,_=>False
 |n+1,t,l=>match P.underlying t with
  |some .bool=> ∃b,l=[.bool b]
  |some (.int k)=> ∃m,l=[.int k m]/\(Lit.int k m).wf=true
  |some .string=> ∃s,l=[.str s]/\s.length<=maxLen
  |some (.slice e)=> ∃rows,l=[.sl rows]/\rows.length<=maxLen/\ ∀r∈rows,D2 P n e r
  |some (.pointer e)=>l=[.nilp]\/ ∃cs,l=[.pin cs]/\D2 P n e cs
  |some (.struct fs)=>Gu (D2 P n) fs.toList l
  |some (.array k e)=> ∃cJ:List (List AV),l=cJ.flatten/\cJ.length=k/\ ∀p∈cJ,D2 P n e p
  |_=>False

theorem rz {n:Nat}: ∀(fs:List Field) (cJ:List (DataW H)),fs.length=cJ.length->
  (∀(i:Nat) (f:Field) (d:DataW H),fs[i]?=some f->cJ[i]?=some d->D2 P n f.type (mw P n f.type d))->
  Gu (D2 P n) fs ((fs.zip cJ).flatMap fun p=>mw P n p.1.type p.2)
 |[],_,_,_=>by simp[Gu]
 |f::fs,[],hl,_=>by simp at hl
 |f::fs,d::cJ,hl,h=>by
  simp only[List.zip_cons_cons,List.flatMap_cons,Gu];exact ⟨_,_,rfl,h 0 f d rfl rfl,rz fs cJ (by simpa using hl) fun i f d hf hd=>h (i+1) f d hf hd⟩

def mV (P:Program) (n:Nat):List TypeId->List AV->Prop
 |[],l=>l=[]
 |t::ts,l=> ∃cs r,l=Cw P t cs::r/\D2 P n t cs/\mV P n ts r
theorem uA (hl:laidOutB P=true) {W W':World} {sp:Nat->Bool} (hB:Below W.heap.size W W'): ∀ {ts:List TypeId} {vs:List Value} {ds:List (DataW H)} {ps:List MemPlace},
  (ts.all fun t=>P.readableRec t&&decide (t<P.types.size))=true->DataW.TrodAll enc P W 0 (fun _=>true) true ts vs ds ps->(∀p∈ps,p.block<W.heap.size)->(∀p∈ps,sp p.block=true)->
  DataW.TrodAll enc P W' 0 sp true ts vs ds ps
 |[],[],[],_,_,h,_,_=>h
 |t::ts,v::vs,d::ds,ps,ha,⟨p,q,h1,h2,e⟩,hb,hs=>by
  simp only[List.all_cons,aJ,qu] at ha;subst e;exact ⟨p,q,Go.WideElems.Trod_stays hl ha.1.1 ha.1.2 h1 (fun x hx=>hB.same (hb x (List.mem_append_left _ hx))) (fun x hx=>hs x (List.mem_append_left _ hx)),
   uA hl hB (by simpa using ha.2) h2 (fun x hx=>hb x (List.mem_append_right _ hx)) (fun x hx=>hs x (List.mem_append_right _ hx)),rfl⟩

theorem Gv {f:Func} {s:ChangeSpec} {apart fresh handsOn again:Bool} {W W':World} {args:Array Value} {ds gs:List (DataW H)} {before:List MemPlace} {tb:TypeId}
  (hl:laidOutB P=true) (hrd:(f.params.toList.all fun t=>P.readableRec t&&decide (t<P.types.size))=true) (hr:f.resultTypes= #[tb]) (hb:P.underlying tb=some .bool) (hvars:s.vars=[])
  (hW:DataW.Whole enc P f.params.toList s.vars apart W args.toList ds gs before) (hB:Below W.heap.size W W')
  (hfn1:(s.fn H (ds++gs)).results=[.lit (.bool true)]) (hfn2:(s.fn H (ds++gs)).args=ds) (hfn3:(s.fn H (ds++gs)).vars=[]):
  s.post enc P f apart fresh handsOn again W args (.bool true) W':=by
 have hlt:=hW.lt;have hW':=hW;obtain ⟨pa,pv,hA,hV,rfl,hz,hn⟩:=hW';rw[hvars] at hV;cases gs with
 |cons=>exact hV.elim
 |nil=>
 obtain rfl:pv=[]:=hV;have hargs: ∀sp:Nat->Bool,(∀p∈pa++[],sp p.block=true)->DataW.TrodAll enc P W' 0 sp true f.params.toList args.toList (s.fn H (ds++[])).args pa:=fun sp hs=>by
  rw[hfn2];exact uA hl hB hrd hA (fun p hp=>hlt p (by simpa using hp)) (fun p hp=>hs p (by simpa using hp))
 have hvs: ∀sp:Nat->Bool,DataW.TrodVars enc P W' sp s.vars (s.fn H (ds++[])).vars []:=fun sp=>by rw[hvars,hfn3];rfl
 have hres: ∀(b:Nat) (sp:Nat->Bool) (hd:Bool),DataW.TrodAll enc P W' b sp hd f.resultTypes.toList ((Value.bool true).resultList f.resultTypes.size) (s.fn H (ds++[])).results []:=fun b sp hd=>by
  rw[hfn1,hr];exact ⟨[],[],shut_bool hb true,rfl,rfl⟩
 have hold: ∀p∈pa++[],(fun b=>decide (b<W.heap.size)) p.block=true:=fun p hp=>by simpa using hlt p hp
 refine ⟨ds,[],pa++[],[],pa,[],hW,hres _ _ _,hargs _ hold,hvs _,hB.frame _,fun _=>?_⟩;refine ⟨ok_one hr rfl (okWide_bool_mk hb _),_,_,([]++pa)++[],⟨[]++pa,[],trodAll_append (hargs _ (fun _ _=>rfl)) (hres _ _ _),hvs _,rfl,?_,?_⟩,?_⟩
 ·intro b off hp;have hp':MemPlace.cell b off∈pa++[]:=by simpa using hp
  rw[hB.frozen (p:=⟨b,off,none⟩) (hlt _ hp')];exact hz b off hp'
 ·intro ha;simpa using hn ha
 ·intro p hp _;simpa using hp

theorem pV: ∀ {ts:List TypeId} {vs:List Value} {ds:List (DataW H)} {ps:List MemPlace},DataW.TrodAll enc P w base spare held ts vs ds ps->ds.length=ts.length
 |[],[],[],_,_=>rfl
 |t::ts,v::vs,d::ds,ps,⟨p,q,_,h2,_⟩=>by simp[pV h2]
theorem D3 {GL:List (Nat×List Value)} {dr:Array Oper->List (List Nat)->List bv->Bool} {f:Nat} {fn:Func} {af:AF} (hf:P.funcs[f]?=some fn) (hm:mF P GL dr fn af=true) {l:List AV} (hs:Sp P GL f l (.bool true)) {W:World} {args:Array Value}
  (hglo: ∀i us,GL.lookup i=some us-> ∀(o:Nat) (u:Value),us[o]?=some u->W.cell? ⟨i,o,none⟩=some u/\u.oneCell'=true)
  (hp:aa (fun g o=>W.cell? ⟨g,o,none⟩) fP l args.toList):Calls P f args W fun e W'=>e= .returned (.bool true)/\Below W.heap.size W W':=by
 simp only[mF,aJ,bne_iff_ne,cI] at hm;obtain ⟨⟨⟨⟨⟨h1,h2⟩,h3⟩,h4⟩,h5⟩,h6⟩:=hm;split at h6<;>(try cases h6);rename_i c hb;have hhr:HR (fun g o=>W.cell? ⟨g,o,none⟩) fP [] [] (fun t=>args.toList.getD t undef) W:=⟨fun _ _ _ h=>h,fun d cs hcs=>by simp[aD] at hcs,fun d cs hcs=>by simp[aD] at hcs,fun d d' g z z' hd=>by simp[aD] at hd,fun p k hp=>by simp[aH] at hp,fun p q k l b hp=>by simp[aH] at hp,fun p k b d z hp=>by simp[aH] at hp,fun d off k hp=>by simp[aH] at hp⟩
 have:=(uL P GL).1 hs 0 _ fP W args.toList hp hhr hglo (fun _ _=>rfl)
 unfold lH at this;have hcall:(callFunc f args).run P W= .ok (.enter f args) W:=by
  simp[callFunc,hf,hb,h1]
 simp only[Array.toArray_toList,hcall] at this;refine this.mono fun e W' ⟨v,he,S',gb',hq⟩=>?_
 have hv:=hq.r;simp only[PR] at hv;subst hv;refine ⟨he,⟨hq.bw.os,hq.bw.tape,hq.bw.output,hq.bw.size,fun k hk=>hq.bw.block k hk ?_⟩⟩;rintro (⟨e,z,h1,_⟩|⟨p,k,h1,_⟩)
 ·simp[aD] at h1
 ·simp[aH] at h1

end
end Go.Ai
namespace Go.Ai
open Go.ChangeShapes Go.WideShapes Go.RowKit
def Oa (P:Program) (T:List TypeId) (t:TypeId):Bool:=match P.underlying t with
 |some .bool=>P.cellsOf t==1
 |some (.int _)=>P.cellsOf t==1
 |some .string=>P.cellsOf t==1
 |some (.slice e)=>P.cellsOf t==1&&P.cellsOf e !=0&&T.contains e
 |some (.pointer e)=>P.cellsOf t==1&&P.cellsOf e !=0&&T.contains e
 |some (.struct fs)=>xV P fs.toList 0 (P.cellsOf t)&&fs.toList.all fun f=>T.contains f.type
 |some (.array k e)=>P.cellsOf t==k*P.cellsOf e&&T.contains e
 |_=>false
def Mg (P:Program) (T:List TypeId):Bool:=T.all fun t=>Oa P T t
section
variable {H:Type} {enc:TypeId×Value->H} {P:Program} {w:World} {base:Nat} {spare:Nat->Bool} {held:Bool} {S:aR}
theorem A6 {T:List TypeId} (h:Mg P T=true) {t:TypeId} (ht:t∈T):Oa P T t=true:=ik.1 h t ht
theorem i8 {T:List TypeId} (hT:Mg P T=true) (hS: ∀g o,S g o=w.cell? ⟨g,o,none⟩): ∀(n:Nat) (t:TypeId) (fuel:Nat) (cs:List Value) (x:DataW H×List MemPlace),fuel<=n->t∈T->
  DataW.trod enc P w base spare held fuel t cs=some x->tS P S t (mw P n t x.1) cs
 |0,t,fuel,cs,x,hf0,_,hx=>by
  obtain rfl:fuel=0:=by omega
  simp[DataW.trod] at hx
 |n+1,t,fuel,cs,x,hf0,hmem,hx=>by
  have h:=A6 hT hmem;unfold Oa at h;split at h
  ·rename_i hu;obtain ⟨b,rfl,rfl⟩:=DataW.trod_bool hu hx;have h:=FJ h;simp[tS,mw,hu,aa,PR,h,Value.oneCell']
  ·rename_i k hu;obtain ⟨b,rfl,rfl,_⟩:=DataW.trod_int hu hx;have h:=FJ h;simp[tS,mw,hu,aa,PR,h,Value.oneCell']
  ·rename_i hu;obtain ⟨b,rfl,rfl,_⟩:=DataW.trod_string hu hx;have h:=FJ h;simp[tS,mw,hu,aa,PR,h,Value.oneCell']
  ·rename_i e hu;simp only[aJ,cI,bne_iff_ne] at h;obtain ⟨⟨h1,h2⟩,h3⟩:=h;rcases DataW.trod_slice hu hx with ⟨rfl,rfl⟩|⟨a,len,cap,elems,rest,m,rfl,rfl,rfl,hb,hl,hm,hlen,hel,_,_⟩
   ·simp[tS,mw,hu,aa,PR,h1,Value.oneCell']
   ·subst hlen;have key: ∀(i:Nat) (d:DataW H),(elems.map (·.1))[i]?=some d-> ∃cs,tS P S e (mw P n e d) cs/\ ∀(j:Nat) (u:Value),cs[j]?=some u->w.cell? ((a.add (i*P.cellsOf e)).add j)=some u:=by
     intro i d hd;simp only[xK,AB] at hd;obtain ⟨y,hy,rfl⟩:=hd;have hi:i<elems.length:=(qZ.1 hy).1
     have:=hel i hi
     rw[hy] at this;obtain ⟨cs,hc,ht⟩:=Option.bind_eq_some_iff.1 this;exact ⟨cs,i8 hT hS n e m cs y (by omega) (by simpa using h3) ht,(ux hc).2⟩
    refine ⟨by simp[mw,hu,h1],by simp[h1],?_,by simp[Value.oneCell']⟩;simp only[mw,hu,aa,PR];refine ⟨_,[],rfl,.inr ⟨a,cap,P.cellsOf e,by simp,by simpa using hl,?_⟩,rfl⟩;by_cases he:elems=[]
    ·left;simp[he]
    ·right;have hs:a.spot=none:=by
      obtain ⟨y,r,hyr⟩:=List.exists_cons_of_ne_nil he;obtain ⟨cs,⟨_,g2,_⟩,hc⟩:=key 0 y.1 (by simp[hyr]);obtain ⟨u,us,hus⟩:=List.exists_cons_of_length_pos (l:=cs) (by omega)
      have:=hc 0 u (by simp[hus])
      simp only[Nat.zero_mul,Addr.add,if_true] at this;exact uy this
     refine ⟨hs,uz hS _ _ fun i d hd=>?_⟩;obtain ⟨cs,h5,h6⟩:=key i d hd;refine ⟨cs,h5,fun j u hu=>?_⟩
     have:=h6 j u hu
     rw[Gt] at this;have e2:a.add (i*P.cellsOf e+j)=⟨a.block,a.off+i*P.cellsOf e+j,none⟩:=by
      unfold Addr.add;split
      ·rename_i h0;cases a;simp at hs ⊢;exact ⟨by omega,hs⟩
      ·simp[Gd]
     rwa [e2] at this
  ·rename_i e hu;simp only[aJ,cI,bne_iff_ne] at h;obtain ⟨⟨h1,h2⟩,h3⟩:=h;rcases DataW.trod_pointer hu hx with ⟨rfl,rfl⟩|⟨a,cs',y,m,rfl,rfl,rfl,hc,hy⟩
   ·simp[tS,mw,hu,aa,PR,h1,Value.oneCell']
   ·obtain ⟨g1,g2,g3,g4⟩:=i8 hT hS n e m cs' y (by omega) (by simpa using h3) hy;have hc:=(ux hc).2;have hs:a.spot=none:=by
     obtain ⟨u,us,hus⟩:=List.exists_cons_of_length_pos (l:=cs') (by omega)
     have:=hc 0 u (by simp[hus])
     simp only[Addr.add,if_true] at this;exact uy this
    refine ⟨by simp[mw,hu,h1],by simp[h1],?_,by simp[Value.oneCell']⟩;simp only[mw,hu,aa,PR];refine ⟨_,[],rfl,⟨a.block,a.off,by cases a;simp at hs ⊢;exact hs,aK.of_list g3 g4 fun j u hu=>?_⟩,rfl⟩
    have:=hc j u hu
    have e2:a.add j=⟨a.block,a.off+j,none⟩:=by
     unfold Addr.add;split
     ·rename_i h0;cases a;simp at hs ⊢;exact ⟨by omega,hs⟩
     ·rfl
    rwa [hS,<-e2]
  ·rename_i fs hu;simp only[aJ,ik] at h;obtain ⟨xs,m,rfl,rfl,hc,hl,hf⟩:=DataW.trod_struct hu hx;obtain ⟨b0,b1,b2,b3⟩:=pU (P:=P) (S:=S) (n:=n) fs.toList (xs.map (·.1)) 0 (P.cellsOf t) cs h.1 hc (by simp[hl]) (by
    intro i f d h4 h5;simp only[xK,AB] at h5;obtain ⟨y,hy,rfl⟩:=h5;have h6:=hf i f (by simpa using h4);rw[hy] at h6;exact i8 hT hS n f.type m _ y (by omega) (by simpa using h.2 f (List.mem_of_getElem? h4)) h6)
   simp only[Gc] at b2 b3;refine ⟨by simpa[mw,hu] using b1,hc,by simpa[mw,hu] using b2,b3⟩
  ·rename_i k e hu;simp only[aJ,cI] at h;obtain ⟨xs,m,rfl,rfl,hc,hl,hf⟩:=DataW.trod_array hu hx;obtain ⟨b1,b2,b3⟩:=ry (P:=P) (S:=S) (n:=n) (e:=e) (xs.map (·.1)) 0 cs (by simp[hc,h.1,hl]) (by
    intro i d h5;simp only[xK,AB] at h5;obtain ⟨y,hy,rfl⟩:=h5;have hi:=(qZ.1 hy).1;have h6:=hf i (by omega);rw[hy] at h6;rw[l5];exact i8 hT hS n e m _ y (by omega) (by simpa using h.2) h6)
   simp only[Nat.zero_mul,Gc] at b2 b3;refine ⟨by simpa[mw,hu,hl,h.1] using b1,hc,by simpa[mw,hu] using b2,b3⟩
  ·cases h

theorem rA {T:List TypeId} (hT:Mg P T=true) (hS: ∀g o,S g o=w.cell? ⟨g,o,none⟩) {b:Nat} {r:Reach}: ∀ {ts:List TypeId} {vs:List Value} {ds:List (DataW H)} {ps:List MemPlace},
  (ts.all fun t=>T.contains t)=true->DataW.TrodAll enc P w base spare held ts vs ds ps->(∀(j:Nat) t v,ts[j]?=some t->vs[j]?=some v->Value.okWide P w r b t v)->
  ∃n0,∀n,n0<=n->aa S fP (nL P n ts ds) vs
 |[],[],[],_,_,_,_=>⟨0,fun n _=>by simp[nL,aa]⟩
 |t::ts,v::vs,d::ds,ps,ha,⟨p,q,⟨fuel,h1⟩,h2,_⟩,hv=>by
  simp only[List.all_cons,aJ] at ha;obtain ⟨n1,ih⟩:=rA hT hS ha.2 h2 (fun j t v hj hw=>hv (j+1) t v hj hw);refine ⟨max fuel n1,fun n hn=>?_⟩;have ih:=ih n (by omega);obtain ⟨g1,g2,g3,g4⟩:=i8 hT hS n t fuel _ _ (by omega) (by simpa using ha.1) h1;have h0:=hv 0 t v rfl rfl;simp only[nL,aa];refine ⟨v,vs,rfl,?_,ih⟩;unfold Value.okWide at h0;unfold Cw;split
  ·rename_i fs hu;rw[hu] at h0;obtain ⟨cs,rfl,_,_⟩:=h0;simp only[PR];exact ⟨cs,rfl,by simpa[Value.cells] using g4,by simpa[Value.cells] using g3⟩
  ·rename_i k e hu;rw[hu] at h0;obtain ⟨cs,rfl,_,_⟩:=h0;simp only[PR];exact ⟨cs,rfl,by simpa[Value.cells] using g4,by simpa[Value.cells] using g3⟩
  ·rename_i hu1 hu2;have hna: ∀cs,v≠ .agg cs:=by
    rintro cs rfl;split at h0
    ·rename_i e;exact hu1 _ e
    ·rename_i e;exact hu2 _ _ e
    ·unfold Cell.okWide at h0;split at h0<;>first|contradiction|skip
     unfold Cell.ok at h0;split at h0<;>first|contradiction|exact h0
   have h0:=A6 hT (t:=t) (by simpa using ha.1);cases n with
   |zero=>(obtain rfl:fuel=0:=by omega);simp[DataW.trod] at h1
   |succ n=>
    have one:P.cellsOf t=1:=by
     unfold Oa at h0;split at h0<;>simp_all
    rw[one] at g1 g2;obtain ⟨x,hx⟩:=List.length_eq_one_iff.1 g1;obtain ⟨y,hy⟩:=List.length_eq_one_iff.1 g2;rw[hx,hy] at g3;rw[hx];simp only[aa] at g3;obtain ⟨u,us,e,g3,rfl⟩:=g3;obtain ⟨rfl,-⟩:=List.cons.inj e;have ho:=g4 y (by rw[hy];simp)
    have:v=y:=by
     cases v<;>simp[Value.cells] at hy<;>first|exact hy|exact absurd rfl (hna _)
    subst this;exact g3

theorem jU {T:List TypeId} (hT:Mg P T=true): ∀(n:Nat) (t:TypeId) (fuel:Nat) (cs:List Value) (x:DataW H×List MemPlace),fuel<=n->t∈T->
  DataW.trod enc P w base spare held fuel t cs=some x->D2 P n t (mw P n t x.1)
 |0,t,fuel,cs,x,hf0,_,hx=>by
  obtain rfl:fuel=0:=by omega
  simp[DataW.trod] at hx
 |n+1,t,fuel,cs,x,hf0,hmem,hx=>by
  have h:=A6 hT hmem;unfold Oa at h;unfold D2 mw;split at h
  ·rename_i hu;obtain ⟨b,rfl,rfl⟩:=DataW.trod_bool hu hx;simp[hu]
  ·rename_i k hu;obtain ⟨b,rfl,rfl,hw⟩:=DataW.trod_int hu hx;simp[hu,hw]
  ·rename_i hu;obtain ⟨b,rfl,rfl,hw⟩:=DataW.trod_string hu hx;simp only[hu];exact ⟨_,rfl,by rw[qq];exact hw⟩
  ·rename_i e hu;simp only[aJ,cI,bne_iff_ne] at h;obtain ⟨⟨h1,h2⟩,h3⟩:=h;rcases DataW.trod_slice hu hx with ⟨rfl,rfl⟩|⟨a,len,cap,elems,rest,m,rfl,rfl,rfl,hb,hl,hm,hlen,hel,_,_⟩
   ·simp[hu]
   ·simp only[hu];refine ⟨_,rfl,by simp;omega,?_⟩;intro r hr;simp only[List.map_map,oY,Function.comp] at hr;obtain ⟨y,hy,rfl⟩:=hr;obtain ⟨i,hi,hiy⟩:=List.getElem_of_mem hy
    have:=hel i (by omega)
    rw[uk hi,hiy] at this;obtain ⟨cs,hc,ht⟩:=Option.bind_eq_some_iff.1 this;exact jU hT n e m cs y (by omega) (by simpa using h3) ht
  ·rename_i e hu;simp only[aJ,cI,bne_iff_ne] at h;obtain ⟨⟨h1,h2⟩,h3⟩:=h;rcases DataW.trod_pointer hu hx with ⟨rfl,rfl⟩|⟨a,cs',y,m,rfl,rfl,rfl,hc,hy⟩
   ·simp[hu]
   ·simp only[hu];exact .inr ⟨_,rfl,jU hT n e m cs' y (by omega) (by simpa using h3) hy⟩
  ·rename_i fs hu;simp only[aJ,ik] at h;obtain ⟨xs,m,rfl,rfl,hc,hl,hf⟩:=DataW.trod_struct hu hx;simp only[hu];refine rz _ _ (by simp[hl]) ?_;intro i f d h4 h5;simp only[xK,AB] at h5;obtain ⟨y,hy,rfl⟩:=h5;have h6:=hf i f (by simpa using h4);rw[hy] at h6;exact jU hT n f.type m _ y (by omega) (by simpa using h.2 f (List.mem_of_getElem? h4)) h6
  ·rename_i k e hu;simp only[aJ,cI] at h;obtain ⟨xs,m,rfl,rfl,hc,hl,hf⟩:=DataW.trod_array hu hx;simp only[hu];refine ⟨(xs.map (·.1)).map fun d=>mw P n e d,by simp[List.flatMap_def],by simp[hl],?_⟩;intro r hr;simp only[List.map_map,oY,Function.comp] at hr;obtain ⟨y,hy,rfl⟩:=hr;obtain ⟨i,hi,hiy⟩:=List.getElem_of_mem hy
   have:=hf i (by omega)
   rw[uk hi,hiy] at this;exact jU hT n e m _ y (by omega) (by simpa using h.2) this
  ·cases h

theorem uB {T:List TypeId} (hT:Mg P T=true): ∀ {ts:List TypeId} {vs:List Value} {ds:List (DataW H)} {ps:List MemPlace},
  (ts.all fun t=>T.contains t)=true->DataW.TrodAll enc P w base spare held ts vs ds ps-> ∃n0,∀n,n0<=n->mV P n ts (nL P n ts ds)
 |[],[],[],_,_,_=>⟨0,fun n _=>by simp[nL,mV]⟩
 |t::ts,v::vs,d::ds,ps,ha,⟨p,q,⟨fuel,h1⟩,h2,_⟩=>by
  simp only[List.all_cons,aJ] at ha;obtain ⟨n1,ih⟩:=uB hT ha.2 h2;refine ⟨max fuel n1,fun n hn=>?_⟩;simp only[nL,mV];exact ⟨_,_,rfl,jU hT n t fuel _ _ (by omega) (by simpa using ha.1) h1,ih n (by omega)⟩
theorem tT {GL:List (Nat×List Value)} {dr:Array Oper->List (List Nat)->List bv->Bool} {f:Nat} {T:List TypeId} {fn:Func} {af:AF} {tb:TypeId} {s:ChangeSpec} (hf:P.funcs[f]?=some fn) (hm:mF P GL dr fn af=true)
  (hl:laidOutB P=true) (hrd:(fn.params.toList.all fun t=>P.readableRec t&&decide (t<P.types.size))=true) (hT:Mg P T=true) (hok:(fn.params.toList.all fun t=>T.contains t)=true)
  (hr:fn.resultTypes= #[tb]) (hb:P.underlying tb=some .bool) (hvars:s.vars=[]) {W:World} {b:Nat} {args:Array Value} {ds gs:List (DataW H)} {before:List MemPlace}
  (hval: ∀(j:Nat) t v,fn.params[j]?=some t->args[j]?=some v->Value.okWide P W .any b t v)
  (hW:DataW.Whole enc P fn.params.toList s.vars false W args.toList ds gs before)
  (hfn: ∀ds:List (DataW H),ds.length=fn.params.size->(s.fn H ds).results=[.lit (.bool true)]/\(s.fn H ds).args=ds/\(s.fn H ds).vars=[])
  (hglo: ∀i us,GL.lookup i=some us-> ∀(o:Nat) (u:Value),us[o]?=some u->W.cell? ⟨i,o,none⟩=some u/\u.oneCell'=true)
  (hs: ∀n,mV P n fn.params.toList (nL P n fn.params.toList ds)->Sp P GL f (nL P n fn.params.toList ds) (.bool true)):
  Calls P f args W fun e W'=> ∃v,e= .returned v/\s.post enc P fn false true false false W args v W':=by
 have hW':=hW;obtain ⟨pa,pv,hA,hV,rfl,hz,hn⟩:=hW';have hgs:gs=[]:=by
  rw[hvars] at hV;cases gs with
  |nil=>rfl
  |cons=>exact hV.elim
 subst hgs;obtain ⟨n0,hp⟩:=rA (S:=fun g o=>W.cell? ⟨g,o,none⟩) hT (fun _ _=>rfl) hok hA (fun j t v h1 h2=>hval j t v (by simpa using h1) (by simpa using h2));obtain ⟨n1,hsh⟩:=uB hT hok hA;refine (D3 hf hm (hs (max n0 n1) (hsh _ (by omega))) hglo (hp (max n0 n1) (by omega))).mono fun e W' ⟨he,hB⟩=>⟨_,he,?_⟩
 have hlen:ds.length=fn.params.size:=by simpa using pV hA
 obtain ⟨g1,g2,g3⟩:=hfn (ds++[]) (by simpa using hlen);exact Gv hl hrd hr hb hvars hW hB g1 (by simpa using g2) g3
end
end Go.Ai
