/- Lib4: a part of the proof. Conditions: as each theorem says. -/
import Derived.Test.YtojgeamhdkphaaaGreatDoorLib3
set_option linter.unusedSimpArgs false
set_option linter.unusedVariables false
namespace Go.Ai
open Go.RowKit

variable {P:Program} {F:Fr} {S:aR} {gb:Gb} {σ:St} {a:Act} {w:World}

theorem be {o:Oper} {K:Act->World->Prop} {Q:Exit->Act->World->Prop} {u:Value} {w':World} (h:(execOp a.eval o).run P w= .ok (.value u) w') (hk:K (a.put o.dst u) w'):o.wp P a w K Q:=by
 unfold Oper.wp;rw[h];exact hk
theorem nS {o:Oper} {K:Act->World->Prop} {Q:Exit->Act->World->Prop} {w':World} (h:(execOp a.eval o).run P w= .ok .skip w') (hk:K (a.put o.dst undef) w'):o.wp P a w K Q:=by
 unfold Oper.wp;rw[h];exact hk

theorem rF {l:List (Nat×Operand)} {i:Nat} {ys:List Operand} (h:cJ l i=some ys):l=(ys.zipIdx i).map fun x=>(x.2,x.1):=by
 induction l generalizing i ys with
 |nil=>simp[cJ] at h;subst h;rfl
 |cons x r ih=>
  obtain ⟨j,y⟩:=x;simp only[cJ] at h;split at h
  ·rename_i e;simp only[cI] at e;simp only[AB] at h;obtain ⟨ys',h1,rfl⟩:=h;subst e;simp[List.zipIdx_cons,ih h1]
  ·cases h

theorem nT (h:aN F S gb σ a w) {sz:Nat}: ∀ {ps:List X} {ys:List Operand} {rows:List (List AV)},kB F.GL ps ys=true->jE σ sz ps=some rows->
  aa S fP rows.flatten (ys.flatMap fun y=>(a.eval y).cells.toList)/\(∀u∈(ys.flatMap fun y=>(a.eval y).cells.toList),u.oneCell'=true)/\(∀r∈rows,r.length=sz)/\(∀y∈ys,(a.eval y).cells.size=sz)/\rows.length=ys.length
 |[],ys,rows,hm,hr=>by
  cases ys<;>simp[kB] at hm;simp[jE] at hr;subst hr;simp[aa]
 |x::r,ys,rows,hm,hr=>by
  cases ys with
  |nil=>simp[kB] at hm
  |cons y ys=>
   simp only[kB,aJ] at hm;simp only[jE] at hr;split at hr
   ·rename_i cs hcs;split at hr
    ·rename_i cs' rs e1 e2;split at hr
     ·rename_i hl;simp only[cW] at hr;subst hr;obtain ⟨c1,c2⟩:=rE hcs (az h hm.1);obtain ⟨g1,g2,g3,g4,g5⟩:=nT h hm.2 e2;have c3:=jS _ _ _ e1 c1;have hsz:(a.eval y).cells.size=sz:=by rw[<-qq,<-c3.length];exact hl
      refine ⟨by simpa using c3.append g1,?_,?_,?_,by simp[g5]⟩
      ·intro u hu;simp only[List.flatMap_cons,jD] at hu;rcases hu with hu|hu
       ·exact c2 u hu
       ·exact g2 u hu
      ·simpa[hl] using g3
      ·simpa[hsz] using g4
     ·cases hr
    ·cases hr
   ·cases hr

theorem rG (sz:Nat): ∀(vs:List Value) (i:Nat) (cells:Array Value),(∀v∈vs,v.cells.size=sz)->(i+vs.length)*sz=cells.size->
  ∃us,Instr.fill (fun i=>some (i*sz,sz)) cells ((vs.zipIdx i).map fun x=>(x.2,x.1))=some us/\us.toList=cells.toList.take (i*sz)++vs.flatMap (·.cells.toList)
 |[],i,cells,_,hs=>⟨cells,by simp[Instr.fill],by simp only[tO,tF] at hs;rw[hs,<-qq,tJ];simp⟩
 |v::r,i,cells,hv,hs=>by
  simp only[Q6] at hv;simp only[List.zipIdx_cons,fZ,Instr.fill,hv.1];have hle:i*sz+sz<=cells.size:=by
   rw[<-hs];simp only[e7];rw[show (i+(r.length+1))*sz=i*sz+sz+r.length*sz by rw[Nat.add_mul,Nat.add_mul];omega];omega
  rw[if_neg (by simp;omega)];have hlen:v.cells.toList.length=sz:=by simpa using hv.1
  have hfold:=yG v.cells.toList (i*sz) 0 cells (by simp[hlen];omega);simp only[tF] at hfold;generalize hc:(v.cells.toList.zipIdx.foldl (fun cs (x:Value×Nat)=>cs.setIfInBounds (i*sz+x.2) x.1) cells)=cells' at hfold;have hsz':cells'.size=cells.size:=by
   rw[<-qq,hfold];simp[hlen];omega
  obtain ⟨us,h1,h2⟩:=rG sz r (i+1) cells' hv.2 (by rw[hsz',<-hs];simp only[e7];congr 1;omega);refine ⟨us,?_,?_⟩
  ·rw[<-Array.foldl_toList,Array.toList_zipIdx,hc];exact h1
  ·rw[h2,hfold]
   have:(List.take (i*sz) cells.toList++v.cells.toList++List.drop (i*sz+v.cells.toList.length) cells.toList).take ((i+1)*sz)=List.take (i*sz) cells.toList++v.cells.toList:=by
    have hl2:(List.take (i*sz) cells.toList++v.cells.toList).length=(i+1)*sz:=by
     simp only[fT,tD,hlen,qq,Nat.add_mul];omega
    rw[<-hl2];exact List.take_left
   rw[this];simp

theorem rH {α:Type} (l:List α) (n m:Nat) (h:n<=m) (h2:m<=l.length):((l.take m).drop n).length=m - n:=by simp;omega

theorem kH (s:List UInt8) (l h:Nat):(ByteArray.mk s.toArray).extract l h=ByteArray.mk ((s.take h).drop l).toArray:=by
 apply ByteArray.ext;rw[ByteArray.data_extract];apply Array.ext';simp[List.extract_eq_take_drop,List.drop_take]

theorem ma (h:aN F S gb σ a w) {dflt:Nat} {x:Option X} {y:Option Operand} {n:Int} (hm:xW F.GL x y=true) (hb:AQ σ dflt x=some n):
  (y=none/\n=dflt)\/ ∃y' k,y=some y'/\a.eval y'= .int k n:=by
 cases x with
 |none=>cases y<;>simp[xW] at hm;simp[AQ] at hb;exact .inl ⟨rfl,hb.symm⟩
 |some x=>
  cases y with
  |none=>simp[xW] at hm
  |some y=>
   simp only[xW] at hm;have hx:=az h hm;simp only[AQ] at hb;split at hb
   ·rename_i k m hv;simp only[cW] at hb;subst hb;rw[hv] at hx;simp only[PR] at hx;exact .inr ⟨y,k,rfl,hx⟩
   ·cases hb

theorem yI (h:aN F S gb σ a w) {o:Oper} {n:Nat} {x v:X} (hm:dC P F.GL F.N o (.st n x v)=true) {K:St->Prop} (hw:bU (bC P F.GL) (.st n x v) K σ) {K':Act->World->Prop} {Q:Exit->Act->World->Prop}
  (hK: ∀S gb σ a w,aN F S gb σ a w->K σ->K' a w):o.wp P a w K' Q:=by
 simp only[bU] at hw;simp only[dC,aJ,cI] at hm;obtain ⟨h1,hm⟩:=hm;split at hm<;>(try cases hm);rename_i t x' v' hop;simp only[aJ,cI] at hm;obtain ⟨⟨hsz,hx⟩,hv⟩:=hm;have hx:=az h hx;have hv:=az h hv;split at hw
 ·rename_i d off hxe;rw[hxe] at hx;simp only[PR] at hx;obtain ⟨g,z,hg,hit,hxp⟩:=hx;split at hw
  ·rename_i cs hcs;split at hw
   ·rename_i vs hvs;obtain ⟨hl,hle,hk⟩:=hw;obtain ⟨c1,c2⟩:=rE hvs hv;obtain ⟨g',us,T,e1,e3,e0,e4,e5,e6⟩:=h.hr.box d cs hcs hit;rw[hg] at e1;cases e1;have hcl:(a.eval v').cells.toList.length=n:=by rw[<-c1.length];exact hl
    have hst:=run_storeCells_at P g off T (a.eval v').cells.toList 0 us w e3 (by rw[hcl];omega) c2;simp only[tF] at hst;refine nS (w':=w.setRow g (us.toList.take off++(a.eval v').cells.toList++us.toList.drop (off+(a.eval v').cells.toList.length)).toArray) ?_ ?_
    ·unfold execOp;have hs2:(a.eval v').cells.size=n:=by simpa using hcl
     simp[hop,hxp,Instr.storeAt,Instr.sureAddr,storeVar,bP hsz,hs2,hst]
    ·rw[h1];have hheap:=setRow_heap w g us (us.toList.take off++(a.eval v').cells.toList++us.toList.drop (off+(a.eval v').cells.toList.length)).toArray T _ e3;have htl:(us.toList.take off).length=off:=by simp;omega
     have hcell: ∀o',¬(off<=o'/\o'<off+n)->(us.toList.take off++(a.eval v').cells.toList++us.toList.drop (off+n)).toArray[o']?=us[o']?:=by
      intro o' hno;simp only[List.getElem?_toArray];rw[xv,List.getElem?_append,htl];by_cases ho:o'<off
      ·rw[if_pos ho,qr,if_pos ho];simp
      ·rw[if_neg ho,List.getElem?_append,hcl,if_neg (by omega),List.getElem?_drop];rw[show off+n+(o' - off - n)=o' by omega];simp
     refine hK S gb _ _ _ (h.setObj (by simp[hcs]) hg e6 (fun k hk=>setRow_other w g k _ hk) (by simp) rfl rfl rfl (cs':=f9 cs off vs) (fun _=>⟨_,T,?_,hheap,?_,?_,?_⟩) (fun hi=>by rw[hit] at hi;cases hi) (fun p k hk=>(Cv _ _ _ _ _ hk).1) ?_) hk
     ·congr 1;simp only[List.size_toArray,fT,htl,hcl,xy,qq];omega
     ·simp only[f9,fT,tD,xy,List.size_toArray,hl,hcl,qq];omega
     ·have hlen:(f9 cs off vs).length=cs.length:=by simp[f9,hl];omega
      rw[hlen];have hf:=e4.fill (off:=off) c1
      have:(us.toList.take off++(a.eval v').cells.toList++us.toList.drop (off+(a.eval v').cells.toList.length)).take cs.length=(us.toList.take cs.length).take off++(a.eval v').cells.toList++(us.toList.take cs.length).drop (off+(a.eval v').cells.toList.length):=by
       rw[List.take_append,List.take_take,Nat.min_eq_left (by omega:off<=cs.length),List.drop_take];rw[List.take_of_length_le (l:=us.toList.take off++(a.eval v').cells.toList) (by simp[hcl];omega)];congr 1
       rw[fT,htl,hcl]
      simp only[List.toList_toArray];rw[this];exact hf
     ·intro u hu;simp only[jD] at hu;rcases hu with (hu|hu)|hu
      ·exact e5 u (DT hu)
      ·exact c2 u hu
      ·exact e5 u (List.mem_of_mem_drop hu)
     ·intro o' k hk;have hno:=(Cv _ _ _ _ _ hk).2 o' rfl;rw[cell_of_row _ g o' _ T _ hheap,cell_of_row w g o' us T _ e3,hcl];exact hcell o' hno
   ·cases hw
  ·cases hw
 ·cases hw

theorem pZ (h:aN F S gb σ a w) {sz:Nat}: ∀ {ps:List X} {ys:List Operand} {rows:List (List AV)},kB F.GL ps ys=true->uo σ sz ps=some rows->
  aa S fP rows.flatten (ys.flatMap fun y=>(a.eval y).cells.toList)/\(∀u∈(ys.flatMap fun y=>(a.eval y).cells.toList),u.oneCell'=true)/\(∀r∈rows,r.length=sz)/\(∀y∈ys,(a.eval y).cells.size=sz)/\rows.length=ys.length
 |[],ys,rows,hm,hr=>by
  cases ys<;>simp[kB] at hm;simp[uo] at hr;subst hr;simp[aa]
 |x::r,ys,rows,hm,hr=>by
  cases ys with
  |nil=>simp[kB] at hm
  |cons y ys=>
   simp only[kB,aJ] at hm;simp only[uo] at hr;split at hr
   ·rename_i cs hcs;split at hr
    ·rename_i cs' rs e1 e2;split at hr
     ·rename_i hl;simp only[cW] at hr;subst hr;obtain ⟨c1,c2⟩:=rE hcs (az h hm.1);obtain ⟨g1,g2,g3,g4,g5⟩:=pZ h hm.2 e2;have c3:=l7 _ _ _ e1 c1;have hsz:(a.eval y).cells.size=sz:=by rw[<-qq,<-c3.length];exact hl
      refine ⟨by simpa using c3.append g1,?_,?_,?_,by simp[g5]⟩
      ·intro u hu;simp only[List.flatMap_cons,jD] at hu;rcases hu with hu|hu
       ·exact c2 u hu
       ·exact g2 u hu
      ·simpa[hl] using g3
      ·simpa[hsz] using g4
     ·cases hr
    ·cases hr
   ·cases hr

theorem p0 (h:aN F S gb σ a w) {sz:Nat}: ∀ {ps:List X} {ys:List Operand} {rows:List (List AV)},kB F.GL ps ys=true->um σ sz ps=some rows->
  aa S gb rows.flatten (ys.flatMap fun y=>(a.eval y).cells.toList)/\(∀u∈(ys.flatMap fun y=>(a.eval y).cells.toList),u.oneCell'=true)/\(∀r∈rows,r.length=sz)/\(∀y∈ys,(a.eval y).cells.size=sz)/\rows.length=ys.length
 |[],ys,rows,hm,hr=>by
  cases ys<;>simp[kB] at hm;simp[um] at hr;subst hr;simp[aa]
 |x::r,ys,rows,hm,hr=>by
  cases ys with
  |nil=>simp[kB] at hm
  |cons y ys=>
   simp only[kB,aJ] at hm;simp only[um] at hr;split at hr
   ·rename_i cs rs hcs e2;split at hr
    ·rename_i hl;simp only[cW] at hr;subst hr;obtain ⟨c1,c2⟩:=rE hcs (az h hm.1);obtain ⟨g1,g2,g3,g4,g5⟩:=p0 h hm.2 e2;have hsz:(a.eval y).cells.size=sz:=by rw[<-qq,<-c1.length];exact hl
     refine ⟨by simpa using c1.append g1,?_,?_,?_,by simp[g5]⟩
     ·intro u hu;simp only[List.flatMap_cons,jD] at hu;rcases hu with hu|hu
      ·exact c2 u hu
      ·exact g2 u hu
     ·simpa[hl] using g3
     ·simpa[hsz] using g4
    ·cases hr
   ·cases hr
theorem p4 (S:aR): ∀(l:List UInt8),aa S fP (aj l).flatten (l.map fun b=>Value.int .u8 (b.toNat:Int))
 |[]=>by simp[aj,aa]
 |b::r=>by
  have:=p4 S r
  simp only[aj,fZ,List.flatten_cons,List.singleton_append] at this ⊢;exact ⟨_,_,rfl,by simp[PR],this⟩
theorem mK {z:Array Value} {n:Nat} (hz:0<z.size) (h1: ∀u∈z.toList,u.oneCell'=true): ∀u∈(Builtin.zeroCells z n).toList,u.oneCell'=true:=by
 intro u hu;simp only[Builtin.zeroCells,Array.toList_map,oY] at hu;obtain ⟨i,_,rfl⟩:=hu;have hlt:i%z.size<z.size:=Nat.mod_lt _ hz;rw[getElem!_pos z _ hlt];exact h1 _ (by simp)
theorem gZ {GL:List (Nat×List Value)}: ∀ {xs:List X} {ys:List Operand},kB GL xs ys=true-> ∀ {i t:Nat},xs[i]?=some (X.s t)->(ys.map a.eval)[i]?=some (tv a t)
 |[],ys,hm,i,t,hi=>by simp at hi
 |x::r,ys,hm,i,t,hi=>by
  cases ys with
  |nil=>simp[kB] at hm
  |cons y s=>
   simp only[kB,aJ] at hm;cases i with
   |zero=>
    simp at hi;subst hi;cases y<;>simp[mX] at hm;rw[hm.1];rfl
   |succ i=>simp at hi ⊢;have:=gZ hm.2 hi;simpa using this
theorem p5 (h:aN F S gb σ a w) {o:Oper} {d dn f:Nat} {I:In} {O:bO} (h2:d<F.N) (h1:o.dst=some d) {xs:List X} {vs:List Value} (hl:aa S gb (xs.map σ.v) vs) (hsl: ∀(i t:Nat),xs[i]?=some (X.s t)->vs[i]?=some (tv a t))
  (hrun:(execOp a.eval o).run P w=(callFunc f vs.toArray).run P w) {K:St->Prop} (hspec:bC P F.GL f dn I O) (hc:cO dn σ xs I O) (hk:K (bB d σ xs I O)) {K':Act->World->Prop} {Q:Exit->Act->World->Prop}
  (hK: ∀S gb σ a w,aN F S gb σ a w->K σ->K' a w):o.wp P a w K' Q:=by
 have hent:=gc h hc hl hsl;have hvs:aa S gb I.vs vs:=oZ hc.vs hl;have hglo: ∀i us,F.GL.lookup i=some us-> ∀(o:Nat) (u:Value),us[o]?=some u->S i o=some u/\u.oneCell'=true:=fun i us hi o u hu=>⟨h.le _ _ _ (h.glo i us hi o u hu).1,(h.glo i us hi o u hu).2⟩
 have hgn: ∀i,i.isNw dn=true->gb i=none:=by
  intro i hi;cases hg:gb i with
  |none=>rfl
  |some x=>
   rcases h.dom i (by rw[hg];simp) with h1|h1
   ·obtain ⟨cs,hcs⟩:=jp.1 h1
    have:=hc.free _ (cF _ _ _ hcs)
    simp only at this;rw[this] at hi;cases hi
   ·cases i<;>simp[Id.isUp,Id.isNw] at h1 hi
 have hd:=hspec S gb w vs hvs hent hglo hgn;have next: ∀u w',(∃S' gb',dL dn I O S gb (fun t=>vs.getD t undef) w S' gb' u w')->K' (a.put o.dst u) w':=by
  rintro u w' ⟨S',gb',hp⟩;rw[h1];exact hK _ _ _ _ _ (h.call h2 hc hl hsl hp) hk
 unfold Oper.wp;rw[hrun];unfold lH at hd;split at hd
 ·rename_i u w' he;rw[he];exact next u w' hd
 ·rename_i f' as' w' he;rw[he];simp only[Oper.upon_enter];refine hd.mono ?_;rintro e w'' ⟨u,rfl,hu⟩;exact next u w'' hu
 ·exact hd.elim

theorem jt (h:aN F S gb σ a w) {o:Oper} {d f:Nat} (h2:d<F.N) (h1:o.dst=some d) {xs:List X} {vs:List Value} (hl:aa S gb (xs.map σ.v) vs) (hsl: ∀(i t:Nat),xs[i]?=some (X.s t)->vs[i]?=some (tv a t))
  (hrun:(execOp a.eval o).run P w=(callFunc f vs.toArray).run P w) {K:St->Prop} (hw:JC (bC P F.GL) f d xs K σ) {K':Act->World->Prop} {Q:Exit->Act->World->Prop}
  (hK: ∀S gb σ a w,aN F S gb σ a w->K σ->K' a w):o.wp P a w K' Q:=by
 obtain ⟨I,O,hspec,hc,hk⟩:=hw;exact p5 h h2 h1 hl hsl hrun hspec hc hk hK

theorem a7: ∀(l:List AV),qD l l
 |[]=>trivial
 |v::r=>⟨.inl rfl,a7 r⟩
def Lz:Id->Nat
 | .nw d _=>d+1
 |_=>0
theorem yJ: ∀(l:List (Id×List AV)),∃m,∀p∈l,∀e,m<=e->p.1.isNw e=false
 |[]=>⟨0,fun p hp=>by simp at hp⟩
 |(i,cs)::r=>by
  obtain ⟨m,hm⟩:=yJ r;refine ⟨max m (Lz i),fun p hp e he=>?_⟩;rcases nH.1 hp with rfl|hp
  ·cases i<;>simp[Id.isNw,Lz] at he ⊢;omega
  ·exact hm p hp e (by omega)
theorem qF (h:aN F S gb σ a w) {o:Oper} {x:X} {xs:List X} {f':Operand} {as:Array Operand} {ts:Array TypeId} (hop:o.op= .call {callee:= .value f',args:=as,argTypes:=ts}) (hx:mX F.GL x f'=true) (hxs:kB F.GL xs as.toList=true)
  {f:Nat} {caps:List AV} (hv:σ.v x= .fn f caps) {g:Nat} {ys:List X} (hg:(g,ys)=if BM<=f then (f - BM,caps.map X.c++xs) else (f,xs++caps.map X.c)):
  ∃vs:List Value,aa S gb (ys.map σ.v) vs/\(∀(i t:Nat),ys[i]?=some (X.s t)->vs[i]?=some (tv a t))/\(execOp a.eval o).run P w=(callFunc g vs.toArray).run P w:=by
 have hx:=az h hx;rw[hv] at hx;simp only[PR] at hx;obtain ⟨us,hx,hcaps⟩:=hx;have hl:=dt h hxs;have hc:List.map σ.v (caps.map X.c)=caps:=by
  rw[List.map_map];exact (List.map_congr_left (fun c _=>rfl)).trans (List.map_id _)
 have hlen:(List.map a.eval as.toList).length=xs.length:=by
  have:=hl.length
  simpa using this.symm
 have hlen2:us.toList.length=caps.length:=hcaps.length.symm;split at hg
 ·rename_i hb;have hg1:=(Prod.mk.inj hg).1;have hg2:=(Prod.mk.inj hg).2;subst hg2;rw[Jp,if_pos hb,<-hg1] at hx;refine ⟨us.toList++List.map a.eval as.toList,by rw[List.map_append,hc];exact hcaps.append hl,fun i t hi=>?_,?_⟩
  ·rw[List.getElem?_append] at hi;split at hi
   ·rw[xK] at hi;rename_i hlt;cases hq:caps[i]? with
    |none=>rw[hq] at hi;cases hi
    |some c=>rw[hq] at hi;cases hi
   ·rename_i hlt;simp only[tN] at hi hlt;rw[List.getElem?_append_right (by omega),hlen2];exact gZ hxs hi
  ·have harr:(us.toList++List.map a.eval as.toList).toArray=us++as.map a.eval:=by
    apply Array.ext';simp
   rw[harr];unfold execOp;simp[hop,resolve,hx,Deferred.ofValue,invoke]
 ·rename_i hb;have hg1:=(Prod.mk.inj hg).1;have hg2:=(Prod.mk.inj hg).2;subst hg2;rw[Jp,if_neg hb,<-hg1] at hx;refine ⟨List.map a.eval as.toList++us.toList,by rw[List.map_append,hc];exact hl.append hcaps,fun i t hi=>?_,?_⟩
  ·rw[List.getElem?_append] at hi;split at hi
   ·rename_i hlt;rw[List.getElem?_append_left (by omega)];exact gZ hxs hi
   ·rw[xK] at hi;cases hq:caps[i - xs.length]? with
    |none=>rw[hq] at hi;cases hi
    |some c=>rw[hq] at hi;cases hi
  ·have harr:(List.map a.eval as.toList++us.toList).toArray=as.map a.eval++us:=by
    apply Array.ext';simp
   rw[harr];unfold execOp;simp[hop,resolve,hx,Deferred.ofValue,invoke]

theorem jY (h:aN F S gb σ a w) {o:Oper} {ao:bv} (hm:dC P F.GL F.N o ao=true) {K:St->Prop} (hw:bU (bC P F.GL) ao K σ) {K':Act->World->Prop} {Q:Exit->Act->World->Prop}
    (hK: ∀S gb σ a w,aN F S gb σ a w->K σ->K' a w):o.wp P a w K' Q:=by
  have pure: ∀d v,ev σ ao=some (d,v)->K (σ.put d v)->o.wp P a w K' Q:=by
    intro d v he hk
    obtain ⟨h1,h2,u,h3,h4⟩:=nO h hm he
    refine be h3 ?_
    rw[h1]
    exact hK _ _ _ _ _ (h.put h2 h4) hk
  cases ao
  case mo d s=>
    simp only[bU] at hw
    simp only[dC,aJ,ax] at hm
    obtain ⟨⟨h1,h2⟩,hm⟩:=hm
    split at hw
    · rename_i k hk
      have hop:(execOp a.eval o).run P w= .ok (.value (a.tmps.getD s undef)) w:=by
        unfold execOp
        split at hm
        · rename_i t hop;simp only[cI] at hm;subst hm;simp only[hop];rfl
        · rename_i t hop;simp only[cI] at hm;subst hm;simp only[hop];rfl
        · cases hm
      refine be hop ?_
      rw[h1]
      refine hK S gb ((⟨σ.e,σ.bx,dl σ.pm (.s s)⟩:St).puto d (lk σ.e s) k) _ _ ?_ hw
      refine (h.drop (.s s)).puto h2 (h.env s) (h.hr.own _ _ hk) (fun g hg=>h.newo _ _ g hk hg) ?_ (fun b d' z hb=>h.hr.ownb _ _ b d' z hk hb)
      intro p l b hl _ hb hb2
      simp only[jH] at hl
      split at hl
      · cases hl
      · rename_i hne
        exact hne (h.hr.ownd p (.s s) l k b hl hk hb hb2)
    · have hop:(execOp a.eval o).run P w= .ok (.value (a.tmps.getD s undef)) w:=by
        unfold execOp
        split at hm
        · rename_i t hop;simp only[cI] at hm;subst hm;simp only[hop];rfl
        · rename_i t hop;simp only[cI] at hm;subst hm;simp only[hop];rfl
        · cases hm
      refine be hop ?_
      rw[h1]
      exact hK _ _ _ _ _ (h.put h2 (h.env s)) hw
  case al d z=>
    simp only[bU] at hw
    simp only[dC,aJ,ax] at hm
    obtain ⟨⟨h1,h2⟩,hm⟩:=hm
    split at hm<;>(try cases hm)
    rename_i t hop
    split at hm<;>(try cases hm)
    rename_i i hi
    split at hm<;>(try cases hm)
    rename_i z' hz
    simp only[aJ] at hm
    split at hw
    · rename_i hn
      refine be (u:= .pointer (some ⟨w.heap.size,0,none⟩)) (w':=w.alloc (.cells z'.cells t)) ?_ ?_
      · unfold execOp
        simp[hop,Instr.alloc,zeroValue,typeInfo,hi,hz,newVar,newRow]
      · rw[h1]
        have hz:=fw (S:=S) (gb:=gb) _ _ hm.2
        have hl:z.length=z'.cells.size:=by rw[hz.length];simp
        exact hK _ _ _ _ _ (h.newBox h2 rfl hn (z:=⟨z'.cells.size,t⟩) ⟨fun _=>⟨z'.cells,t,rfl,rfl,by omega,by rw[hl,<-qq,tJ];exact hz,fun u hu=>ik.1 hm.1 u hu⟩,fun hi=>by cases hi⟩ (by simp only[PR];exact ⟨w.heap.size,⟨z'.cells.size,t⟩,by simp[fe],rfl,rfl⟩)) hw
    · cases hw
  case alT d T off z=>
    simp only[bU] at hw
    simp only[dC,aJ,ax] at hm
    obtain ⟨⟨h1,h2⟩,hm⟩:=hm
    split at hm<;>(try cases hm)
    rename_i t hop
    simp only[aJ,cI,qu] at hm
    obtain ⟨⟨⟨rfl,hoff⟩,hnil⟩,hm⟩:=hm
    split at hm<;>(try cases hm)
    rename_i i hi
    split at hm<;>(try cases hm)
    rename_i z' hz
    simp only[aJ,cI] at hm
    obtain ⟨⟨hm1,hm2⟩,hm3⟩:=hm
    split at hnil<;>(try cases hnil)
    rename_i hnil
    split at hw
    · rename_i hn
      refine be (u:= .pointer (some ⟨w.heap.size,0,none⟩)) (w':=w.alloc (.cells z'.cells t)) ?_ ?_
      · unfold execOp
        simp[hop,Instr.alloc,zeroValue,typeInfo,hi,hz,newVar,newRow]
      · rw[h1]
        have hz:=fw (S:=S) (gb:=fe gb (.n d) w.heap.size ⟨z'.cells.size,t⟩) _ _ hm2
        have hl:z.length=z'.cells.size:=by rw[hz.length];simp
        refine hK _ _ _ _ _ (h.newBoxT h2 rfl hn (z:=⟨z'.cells.size,t⟩) ⟨fun _=>⟨z'.cells,t,rfl,rfl,by simp;omega,?_,fun u hu=>ik.1 hm1 u hu⟩,fun hi=>by cases hi⟩ (by simp only[PR];exact ⟨w.heap.size,⟨z'.cells.size,t⟩,by simp[fe],rfl,rfl⟩)) hw
        have htk:z'.cells.toList.take (z.set off (AV.nilT (Id.n d) t z.length)).length=z'.cells.toList:=by rw[List.length_set,hl,<-qq,tJ]
        rw[htk,hl]
        exact aa.setNil (g:=w.heap.size) (by simp[fe]) hz hnil
    · cases hw
  case bx d x=>
    simp only[bU] at hw
    simp only[dC,aJ,ax] at hm
    obtain ⟨⟨h1,h2⟩,hm⟩:=hm
    split at hm<;>(try cases hm)
    rename_i t x' hop
    have hx:=az h hm
    split at hw
    · rename_i hn
      split at hw
      · rename_i cs hcs
        obtain ⟨c1,c2⟩:=rE hcs hx
        refine be (u:= .pointer (some ⟨w.heap.size,0,none⟩)) (w':=w.alloc (.cells (a.eval x').cells t)) ?_ ?_
        · unfold execOp
          simp[hop,Instr.box,newVar,newRow]
        · rw[h1]
          have hl:cs.length=(a.eval x').cells.size:=by rw[c1.length];simp
          exact hK _ _ _ _ _ (h.newBox h2 rfl hn (z:=⟨(a.eval x').cells.size,t⟩) ⟨fun _=>⟨_,t,rfl,rfl,by omega,by rw[hl,<-qq,tJ];exact c1,c2⟩,fun hi=>by cases hi⟩ (by simp only[PR];exact ⟨w.heap.size,⟨(a.eval x').cells.size,t⟩,by simp[fe],rfl,rfl⟩)) hw
      · cases hw
    · cases hw
  case bxT d T off x=>
    simp only[bU] at hw
    simp only[dC,aJ,ax] at hm
    obtain ⟨⟨h1,h2⟩,hm⟩:=hm
    split at hm<;>(try cases hm)
    rename_i t x' hop
    simp only[aJ,cI] at hm
    obtain ⟨rfl,hm⟩:=hm
    have hx:=az h hm
    split at hw
    · rename_i hn
      split at hw
      · rename_i cs hcs
        split at hw
        · rename_i hnil
          obtain ⟨c1,c2⟩:=rE hcs hx
          refine be (u:= .pointer (some ⟨w.heap.size,0,none⟩)) (w':=w.alloc (.cells (a.eval x').cells t)) ?_ ?_
          · unfold execOp
            simp[hop,Instr.box,newVar,newRow]
          · rw[h1]
            have hl:cs.length=(a.eval x').cells.size:=by rw[c1.length];simp
            have hgd:gb (.n d)=none:=by
              cases hg:gb (.n d) with
              |none=>rfl
              | some g => rcases h.dom (.n d) (by rw[hg]; simp) with h3 | h3
                          · rw[hn] at h3;cases h3
                          · cases h3
            have hle:gb.le (fe gb (.n d) w.heap.size ⟨(a.eval x').cells.size,t⟩):=fun d' g hg=>by
              simp only[fe]
              split
              · rename_i e;subst e;rw[hgd] at hg;cases hg
              · exact hg
            refine hK _ _ _ _ _ (h.newBoxT h2 rfl hn (z:=⟨(a.eval x').cells.size,t⟩) ⟨fun _=>⟨_,t,rfl,rfl,by simp;omega,?_,c2⟩,fun hi=>by cases hi⟩ (by simp only[PR];exact ⟨w.heap.size,⟨(a.eval x').cells.size,t⟩,by simp[fe],rfl,rfl⟩)) hw
            have htk:(a.eval x').cells.toList.take (cs.set off (AV.nilT (Id.n d) t cs.length)).length=(a.eval x').cells.toList:=by rw[List.length_set,hl,<-qq,tJ]
            rw[htk,hl]
            exact aa.setNil (g:=w.heap.size) (by simp[fe]) (aa.mono (aR.le.refl _) hle _ _ c1) hnil
        · cases hw
      · cases hw
    · cases hw
  case bs d sz ps=>
    simp only[bU] at hw
    simp only[dC,aJ,ax] at hm
    obtain ⟨⟨h1,h2⟩,hm⟩:=hm
    split at hm<;>(try cases hm)
    rename_i t n ps' hop
    simp only[aJ,cI,tL,cH,ne_eq] at hm
    obtain ⟨⟨⟨⟨hu,hsz0⟩,hn⟩,hle⟩,hps⟩:=hm
    obtain ⟨hsz0,hkb⟩:=Cx.1 hsz0
    split at hu<;>(try cases hu)
    rename_i e hu'
    split at hu<;>(try cases hu)
    rename_i i hi
    simp only[aJ,cI] at hu
    obtain ⟨hsize,hz⟩:=hu
    split at hz<;>(try cases hz)
    rename_i z hz'
    simp only[cI] at hz
    split at hps<;>(try cases hps)
    rename_i ys hys
    have hpl:=rF hys
    split at hw
    · rename_i rows hrows
      obtain ⟨r1,r2,r3,r4,r5⟩:=nT h hps hrows
      have hlen:n=ys.length:=by
        rw[hn]
        have: ∀(ps:List X) (ys:List Operand),kB F.GL ps ys=true->ps.length=ys.length:=by
          intro ps;induction ps with
          |nil=>intro ys hh;cases ys<;>simp[kB] at hh ⊢
          |cons x r ih=>intro ys hh;cases ys with
            |nil=>simp[kB] at hh
            |cons y s=>simp[kB] at hh;simp[ih s hh.2]
        exact this _ _ hps
      obtain ⟨us,f1,f2⟩:=rG sz (ys.map a.eval) 0 ((Array.range (n*sz)).map (z.cells[· %z.cells.size]!)) (by simpa using r4) (by simp[hlen])
      simp only[Nat.zero_mul,N7,cL,List.flatMap_map] at f2
      have hfl:(Array.map (fun x=>(x.1,a.eval x.2)) ps').toList=((ys.map a.eval).zipIdx.map fun x=>(x.2,x.1)):=by
        rw[Array.toList_map,hpl,List.map_map,List.zipIdx_map,List.map_map]
        rfl
      have hble:n*sz<=16777216:=Nat.le_of_ble_eq_true hle
      refine be (u:= .slice (some ⟨w.heap.size,0,none⟩) n n) (w':=w.alloc (.cells us e)) ?_ ?_
      · unfold execOp
        simp only[hop,Instr.buildSlice,Sem.run_bind,run_underlying hu',Result.andThen_ok,sizeOf,typeInfo,run_program,hi,Sem.run_pure,hsize]
        rw[if_neg (by omega)]
        by_cases h0:n*sz=0
        · have hn0:n=0:=by rcases Nat.mul_eq_zero.1 h0 with h|h;exact h;exact absurd h hsz0
          have hys0:ys=[]:=Jy (by omega)
          subst hys0
          simp only[l6,List.zipIdx_nil] at hfl f1
          have hus:us= #[]:=by
            have:us.toList=[]:=by simpa using f2
            cases us;simp_all
          have hps0:ps'= #[]:=by cases ps';simpa using hfl
          simp[hn0,hps0,Array.range_zero',Instr.fill,newRow,hus]
        · simp only[h0,if_false,zeroValue,Sem.run_bind,typeInfo,run_program,Result.andThen_ok,hi,hz',Sem.run_pure]
          rw[hfl]
          rw[f1]
          simp[newRow]
      · rw[h1]
        have hus2:us.toList=ys.flatMap fun y=>(a.eval y).cells.toList:=f2
        obtain ⟨S',hS'⟩:=h.newOwn h2 us e (rows:=rows) (us:=us.toList) (k:=sz) (cap:=n) hkb r3 (by rw[hus2];exact r1) (by rw[hus2];exact r2) tJ (by
          refine Nat.le_of_eq (Eq.symm ?_)
          rw[<-qq,hus2,<-r1.length,bW r3,r5,hlen]) (by omega) (by unfold maxLen;have:n<=n*sz:=Nat.le_mul_of_pos_right _ (by omega);omega)
        refine hK S' gb _ _ _ ?_ hw
        rw[show n=rows.length by rw[r5,hlen]] at hS' ⊢
        exact hS'
    · cases hw
  case st n x v=>exact yI h hm hw hK
  case lo d x=>
    have hm0:dC P F.GL F.N o (.lds d x)=true:=hm
    simp only[bU] at hw
    simp only[dC,aJ,ax] at hm
    obtain ⟨⟨h1,h2⟩,hm⟩:=hm
    split at hm<;>(try cases hm)
    rename_i t x' hop
    simp only[aJ] at hm
    have hx:=az h hm.2
    have plain: ∀v,e8 σ.bx (σ.v x)=some v->K (σ.put d v)->o.wp P a w K' Q:=by
      intro v hv hk
      obtain ⟨h1,h2,u,h3,h4⟩:=nO h hm0 (d:=d) (v:=v) (by simp only[ev,hv])
      refine be h3 ?_
      rw[h1]
      exact hK _ _ _ _ _ (h.put h2 h4) hk
    split at hw
    · rename_i b off hxe
      rw[hxe] at hx
      split at hw
      · rename_i cs hcs
        split at hw
        · rename_i v hv
          split at hw
          · rename_i k hk
            have hx':=hx
            simp only[PR] at hx
            obtain ⟨g,z,hg,hit,hxp⟩:=hx
            obtain ⟨us,b1,b2,b3⟩:=h.boxcell hcs hit hg
            obtain ⟨u,hu,hp⟩:=b2.get hv
            have hcell:=b1 off u hu
            have hpl:ct gb (tv a) w (.b b off)=u:=by simp[ct,hg,hcell]
            refine be (u:=u) (w':=w) ?_ ?_
            · unfold execOp
              simp[hop,hxp,Instr.loadAt,Instr.sureAddr,loadVar,js hm.1,hcell]
            · rw[h1]
              refine hK S gb ((⟨σ.e,σ.bx,dl σ.pm (.b b off)⟩:St).puto d v k) _ _ ?_ hw
              have ho:=h.hr.own _ _ hk
              rw[hpl] at ho
              refine (h.drop (.b b off)).puto h2 hp ho (fun g hg=>h.newo _ _ g hk (by rw[hpl];exact hg)) ?_ (fun b' d' z hb=>h.hr.ownb _ _ b' d' z hk (by rw[hpl];exact hb))
              intro p l b' hl _ hb hb2
              simp only[jH] at hl
              split at hl
              · cases hl
              · rename_i hne
                exact hne (h.hr.ownd p (.b b off) l k b' hl hk hb (by rw[hpl];exact hb2))
          · exact plain v (by simp only[e8,hxe,hcs,hv]) hw
        · cases hw
      · cases hw
    · rename_i cs hxe
      split at hw
      · rename_i v hv
        exact plain v (by simp only[e8,hxe,hv]) hw
      · cases hw
    · cases hw
  case so x s=>
    have hm0:=hm
    simp only[bU] at hw
    simp only[dC,aJ,cI] at hm
    obtain ⟨h1,hm⟩:=hm
    split at hm<;>(try cases hm)
    rename_i t x' s' hop
    simp only[aJ,cI] at hm
    obtain ⟨⟨hsz,rfl⟩,hx⟩:=hm
    have hx:=az h hx
    split at hw
    · rename_i d off hxe
      rw[hxe] at hx
      simp only[PR] at hx
      obtain ⟨g,z,hg,hit,hxp⟩:=hx
      split at hw
      · rename_i cs hcs
        split at hw
        case h_2=>
          split at hw
          · rename_i vs hvs
            refine yI h (n:=1) (x:=x) (v:= .s s) (K:=K) ?_ ?_ hK
            · simp only[dC,aJ,cI,hop] at hm0 ⊢
              exact ⟨hm0.1,⟨hm0.2.1.1,hm0.2.2⟩,by simp[mX]⟩
            · simp only[bU,hxe,hcs]
              simp only[St.v,hvs]
              exact hw
          · cases hw
        rename_i k hk
        obtain ⟨hlt,hk2⟩:=hw
        have hown:=h.hr.own _ _ hk
        have hpv:=h.env s
        generalize huv:tv a s=u at hpv
        have hplu:ct gb (tv a) w (.s s)=u:=huv
        rw[hplu] at hown
        have hone:u.oneCell'=true:=by rcases hown with rfl|⟨_,_,_,_,_,_,rfl,_⟩|⟨_,_,_,_,_,rfl,_⟩<;>rfl
        have hcells:u.cells= #[u]:=by rcases hown with rfl|⟨_,_,_,_,_,_,rfl,_⟩|⟨_,_,_,_,_,rfl,_⟩<;>rfl
        obtain ⟨g',us,T,e1,e3,e0,e4,e5,e6⟩:=h.hr.box d cs hcs hit
        rw[hg] at e1;cases e1
        have hst:=run_storeCells_at P g off T [u] 0 us w e3 (by simp;omega) (by simpa using hone)
        simp only[tF,Cp] at hst
        have hset:us.toList.take off++[u]++us.toList.drop (off+1)=us.toList.set off u:=by
          rw[List.set_eq_take_append_cons_drop,if_pos (by simp;omega)];simp
        rw[hset] at hst
        have hheap:(w.setRow g (us.toList.set off u).toArray).heap[g]?=some (.cells (us.toList.set off u).toArray T (0,0)):=setRow_heap w g us _ T _ e3
        refine nS (w':=w.setRow g (us.toList.set off u).toArray) ?_ ?_
        · unfold execOp
          have:a.eval (.tmp s)=u:=huv
          simp[hop,hxp,this,Instr.storeAt,Instr.sureAddr,storeVar,bP hsz,hcells,hst]
        · rw[h1]
          change K' a _
          refine hK S gb _ _ _ ?_ hk2
          have base:=h.setObj (by simp[hcs]) hg e6 (w':=w.setRow g (us.toList.set off u).toArray) (fun k hk=>setRow_other w g k _ hk) (by simp) rfl rfl rfl (cs':=cs.set off (lk σ.e s)) (fun _=>⟨_,T,by simp,hheap,by simpa using e0,by
            have hul:=e4.fill (off:=off) (cs:=[lk σ.e s]) (us:=[u]) ⟨u,[],rfl,hpv,rfl⟩
            have hA:cs.set off (lk σ.e s)=f9 cs off [lk σ.e s]:=by
              rw[List.set_eq_take_append_cons_drop,if_pos hlt];simp[f9]
            rw[hA]
            have hB:(us.toList.set off u).take (f9 cs off [lk σ.e s]).length=(us.toList.take cs.length).take off++[u]++(us.toList.take cs.length).drop (off+[u].length):=by
              have hl2:(f9 cs off [lk σ.e s]).length=cs.length:=by simp[f9];omega
              rw[hl2,List.take_set,List.set_eq_take_append_cons_drop,if_pos (by simp;omega)]
              simp
            simp only[List.toList_toArray]
            rw[hB];exact hul,by
            intro x hx
            simp only[List.toList_toArray] at hx
            rcases List.mem_or_eq_of_mem_set hx with hx|rfl
            · exact e5 x hx
            · exact hone⟩) (fun hi=>by rw[hit] at hi;cases hi) (pm:=dl (dl σ.pm (.s s)) (.b d off)) (fun p l hl=>by
              simp only[jH] at hl
              split at hl
              · cases hl
              · split at hl
                · cases hl
                · exact hl) (fun o' l hl=>by
              simp only[jH] at hl
              split at hl
              · cases hl
              · rename_i hne
                have hne2:off≠o':=fun e=>hne (by rw[e])
                rw[cell_of_row _ g o' _ T _ hheap,cell_of_row w g o' us T _ e3]
                simp only[List.getElem?_toArray,List.getElem?_set_ne hne2];simp)
          have hplb:ct gb (tv a) (w.setRow g (us.toList.set off u).toArray) (.b d off)=u:=by
            simp only[ct,hg]
            rw[cell_of_row _ g off _ T _ hheap]
            simp[show off<us.size by omega]
          have hsame: ∀p l,aH (dl (dl σ.pm (.s s)) (.b d off)) p=some l->ct gb (tv a) (w.setRow g (us.toList.set off u).toArray) p=ct gb (tv a) w p/\aH σ.pm p=some l/\p≠ .s s/\p≠ .b d off:=by
            intro p l hl
            simp only[jH] at hl
            split at hl
            · cases hl
            · rename_i hne
              split at hl
              · cases hl
              · rename_i hne2
                refine ⟨?_,hl,hne2,hne⟩
                cases p with
                |s t=>rfl
                |t t i=>rfl
                |b d' o'=>
                  simp only[ct]
                  cases hq:gb d' with
                  |none=>rfl
                  |some x=>
                    obtain ⟨q,zq⟩:=x
                    simp only[]
                    by_cases e:q=g
                    · subst e
                      have:=h.hr.inj d' d q zq _ (h.hr.pmb d' o' l hl).1 (by simp[hcs]) hq hg
                      subst this
                      have hne3:off≠o':=fun e=>hne (by rw[e])
                      rw[cell_of_row _ q o' _ T _ hheap,cell_of_row w q o' us T _ e3]
                      simp only[List.getElem?_toArray,List.getElem?_set_ne hne3];simp
                    · rw[World.cell?_of_block (w:=w) (setRow_other w g q _ e)]
          have hubase: ∀b,u.ownBlock=some b->b≠g:=by
            intro b hb e;subst e
            exact h.hr.ownb _ _ b d _ hk (by rw[hplu];exact hb) (by simp[hcs]) hg
          refine ⟨base.defers,base.size,base.bw,base.ext,base.le,base.env,⟨base.hr.agree,base.hr.box,base.hr.its,base.hr.inj,?_,?_,?_,?_⟩,base.newb,?_,base.dom,base.up,base.glo⟩
          · intro p l hl
            simp only[aH] at hl
            split at hl
            · rename_i e;subst e;simp only[cW] at hl;subst hl
              rw[hplb]
              exact hown.mono (fun q hq=>setRow_other w g q _ (hubase q hq)) (fun _ _ _ hn=>hn)
            · exact base.hr.own p l hl
          · intro p q l m b hl hm2 p1 p2
            simp only[aH] at hl hm2
            split at hl
            · rename_i e;subst e
              split at hm2
              · rename_i e;exact e
              · rename_i e
                rw[hplb] at p1
                obtain ⟨s1,s2,s3,s4⟩:=hsame q m hm2
                rw[s1] at p2
                exact absurd (h.hr.ownd q (.s s) m k b s2 hk p2 (by rw[hplu];exact p1)) s3
            · rename_i e
              split at hm2
              · rename_i e2;subst e2
                rw[hplb] at p2
                obtain ⟨s1,s2,s3,s4⟩:=hsame p l hl
                rw[s1] at p1
                exact absurd (h.hr.ownd p (.s s) l k b s2 hk p1 (by rw[hplu];exact p2)) s3
              · exact base.hr.ownd p q l m b hl hm2 p1 p2
          · intro p l b d' z' hl p1 hd'
            simp only[aH] at hl
            simp only[du (by simp[hcs]:(aD σ.bx d).isSome)] at hd'
            split at hl
            · rename_i e;subst e
              rw[hplb] at p1
              exact h.hr.ownb _ _ b d' z' hk (by rw[hplu];exact p1) hd'
            · exact base.hr.ownb p l b d' z' hl p1 (by simp only[du (by simp[hcs]:(aD σ.bx d).isSome)];exact hd')
          · intro d' o' l hl
            simp only[aH] at hl
            split at hl
            · rename_i e;cases e
              simp only[du (by simp[hcs]:(aD σ.bx d).isSome)]
              exact ⟨by simp[hcs],hit⟩
            · exact base.hr.pmb d' o' l hl
          · intro p l q hl hq
            simp only[aH] at hl
            split at hl
            · rename_i e;subst e
              rw[hplb] at hq
              exact h.newo _ _ q hk (by rw[hplu];exact hq)
            · exact base.newo p l q hl hq
      · cases hw
    · cases hw
  case ap d sz by_ s y=>
    simp only[bU] at hw
    simp only[dC,aJ,ax] at hm
    obtain ⟨⟨h1,h2⟩,hm⟩:=hm
    split at hm<;>(try cases hm)
    rename_i as ts hop
    split at hm<;>(try cases hm)
    rename_i s' y' t t' has hts
    simp only[aJ,cI,tL,cH,ne_eq] at hm
    obtain ⟨⟨⟨⟨⟨rfl,hu⟩,hsz0⟩,hby0⟩,hs⟩,hy⟩:=hm
    obtain ⟨hsz0,hkb⟩:=Cx.1 hsz0
    split at hu<;>(try cases hu)
    rename_i e hu'
    split at hu<;>(try cases hu)
    rename_i i hi
    simp only[aJ,cI] at hu
    obtain ⟨⟨hsize,hbytes⟩,hz⟩:=hu
    split at hz<;>(try cases hz)
    rename_i z hz'
    simp only[cI] at hz
    have hs':=az h hs
    have hy':=az h hy
    have has':as= #[s',y']:=by cases as;simp_all
    have hts':ts= #[t,t]:=by cases ts;simp_all
    subst has';subst hts'
    have hexec: ∀ {u:Value} {w':World},(Builtin.append_ #[t,t] o.type #[a.eval s',a.eval y']).run P w= .ok u w'->(execOp a.eval o).run P w= .ok (.value u) w':=by
      intro u w' hr
      unfold execOp
      simp[hop,resolve,invoke,builtin,hr]
    split at hw
    · rename_i news hnews
      have hyn:=uD (gb:=gb) (cf _ _ _ hnews hy')
      split at hw
      · rename_i rows t0 hrows
        obtain ⟨w1,w2,w3,w4,w5⟩:=hw
        cases s' with
        |tmp t1=>
          simp only[mX,cI] at hs
          subst hs
          rw[hrows] at hs'
          obtain ⟨u,w',S',g1,g2⟩:=uF (P:=P) h h2 (ty:=o.type) hu' hi hz' hsize hkb hbytes hz (by omega) (by omega) (h.drop (.s t0)) hyn w4 w3 hs' (h.hr.own _ _ w1) (fun g hg=>h.newo _ _ g w1 hg) (by
            intro p l b hl hb hb2
            simp only[jH] at hl
            split at hl
            · cases hl
            · rename_i hne
              exact hne (h.hr.ownd p (.s t0) l sz b hl w1 hb hb2)) (fun b d' z hb=>h.hr.ownb _ _ b d' z w1 hb) w2
          refine be (hexec g1) ?_
          rw[h1]
          exact hK _ _ _ _ _ g2 w5
        |const c=>simp[mX] at hs
        |global g=>simp[mX] at hs
        |func g=>simp[mX] at hs
      · rename_i hrows
        obtain ⟨w2,w4,w5⟩:=hw
        rw[hrows] at hs'
        simp only[PR] at hs'
        obtain ⟨u,w',S',g1,g2⟩:=uF (P:=P) h h2 (ty:=o.type) (rows:=[]) hu' hi hz' hsize hkb hbytes hz (by omega) (by omega) h hyn w4 (by simp) (sv:=a.eval s') (by simp only[PR];exact .inl ⟨hs',trivial⟩) (.inl hs') (by
          intro b hb;rw[hs'] at hb;simp[Value.ownBlock] at hb) (by
          intro p l b _ _ hb;rw[hs'] at hb;simp[Value.ownBlock] at hb) (by
          intro b d' z hb;rw[hs'] at hb;simp[Value.ownBlock] at hb) (by simpa using w2)
        refine be (hexec g1) ?_
        rw[h1]
        exact hK _ _ _ _ _ g2 (by simpa using w5)
      · cases hw
    · cases hw
  case mk d sz by_ z l c=>exact (show False from hw).elim
  case sls d x lo hi=>
    simp only[bU] at hw
    simp only[dC,aJ,ax] at hm
    obtain ⟨⟨h1,h2⟩,hm⟩:=hm
    split at hm<;>(try cases hm)
    rename_i t x' lo' hi' hop
    simp only[aJ] at hm
    obtain ⟨⟨⟨hu,hx⟩,hlo⟩,hhi⟩:=hm
    have hu':P.underlying t=some .string:=by split at hu<;>simp_all
    have hx':=az h hx
    split at hw
    · rename_i s hs
      split at hw
      · rename_i l hh hl2 hh2
        obtain ⟨w1,w2,w3,w4⟩:=hw
        rw[hs] at hx'
        simp only[PR] at hx'
        have b1:=ma h hlo hl2
        have b2:=ma h hhi hh2
        have e2:(ByteArray.mk s.toArray).size=s.length:=rfl
        refine be (u:= .string ⟨((s.take hh.toNat).drop l.toNat).toArray⟩) (w':=w) ?_ ?_
        · unfold execOp
          simp only[hop,hx',Instr.sliceAt,Instr.slice,Sem.run_bind,run_underlying hu',Result.andThen_ok,Option.map_none,Option.isSome_none,tK,if_false,Instr.sliceBounds,e2]
          rcases b1 with ⟨rfl,rfl⟩|⟨yl,kl,rfl,hyl⟩<;>rcases b2 with ⟨rfl,rfl⟩|⟨yh,kh,rfl,hyh⟩
          · simp[kH]
          · simp[hyh,Instr.sliceBound,asIntOf,w3,show 0<=hh by omega,kH]
          · simp[hyl,Instr.sliceBound,asIntOf,w1,w2,kH]
          · have:l<=(hh.toNat:Int):=by omega
            simp[hyl,hyh,Instr.sliceBound,asIntOf,w1,w3,show 0<=hh by omega,this,kH]
            intro hc;omega
        · rw[h1]
          exact hK _ _ _ _ _ (h.put h2 (by simp[PR])) w4
      · cases hw
    · cases hw
  case slc d sz x lo hi=>
    simp only[bU] at hw
    simp only[dC,aJ,ax] at hm
    obtain ⟨⟨h1,h2⟩,hm⟩:=hm
    split at hm<;>(try cases hm)
    rename_i t x' lo' hi' hop
    simp only[aJ] at hm
    obtain ⟨⟨⟨hu,hx⟩,hlo⟩,hhi⟩:=hm
    obtain ⟨e,hu',hsz⟩: ∃e,P.underlying t=some (.slice e)/\pW P e=some sz:=by
      split at hu<;>simp_all
    have hx':=az h hx
    split at hw
    · rename_i rows hs
      split at hw
      · rename_i l hh hl2 hh2
        obtain ⟨w1,w2,w3,wr,w4⟩:=hw
        rw[hs] at hx'
        simp only[PR] at hx'
        have b1:=ma h hlo hl2
        have b2:=ma h hhi hh2
        have run: ∀(ad:Option Addr) (cap:Nat),rows.length<=cap->a.eval x'= .slice ad rows.length cap->(execOp a.eval o).run P w= .ok (.value (.slice (if cap=l.toNat then ad else ad.map (·.add (l.toNat*sz))) (hh.toNat - l.toNat) (cap - l.toNat))) w:=by
          intro ad cap hcap hev
          unfold execOp
          simp only[hop,hev,Instr.sliceAt,Instr.slice,Sem.run_bind,run_underlying hu',Result.andThen_ok,Option.map_none,Instr.sliceBounds,bP hsz]
          rcases b1 with ⟨rfl,rfl⟩|⟨yl,kl,rfl,hyl⟩<;>rcases b2 with ⟨rfl,rfl⟩|⟨yh,kh,rfl,hyh⟩
          · simp[bP hsz]
          · simp[hyh,Instr.sliceBound,asIntOf,show hh<=(cap:Int) by omega,show 0<=hh by omega,bP hsz]
          · simp[hyl,Instr.sliceBound,asIntOf,w1,w2,bP hsz]
          · have:l<=(hh.toNat:Int):=by omega
            simp[hyl,hyh,Instr.sliceBound,asIntOf,w1,show hh<=(cap:Int) by omega,show 0<=hh by omega,this,bP hsz]
            intro hc;omega
        have hlen:((rows.take hh.toNat).drop l.toNat).length=hh.toNat - l.toNat:=rH _ _ _ (by omega) (by omega)
        rcases hx' with ⟨hx',hr⟩|⟨ad,cap,k,hx',hcap,hr⟩
        · subst hr
          simp only[tO] at w3
          have hl0:l.toNat=0:=by omega
          have hh0:hh.toNat=0:=by omega
          refine be (run none 0 (by simp) hx') ?_
          rw[h1]
          refine hK _ _ _ _ _ (h.put h2 ?_) w4
          simp only[PR]
          exact .inl ⟨by simp[hl0,hh0],by simp⟩
        · refine be (run (some ad) cap hcap hx') ?_
          rw[h1]
          refine hK _ _ _ _ _ (h.put h2 ?_) w4
          simp only[PR]
          right
          by_cases hcl:cap=l.toNat
          · refine ⟨ad,cap - l.toNat,k,by rw[if_pos hcl,hlen],by rw[hlen];omega,.inl ?_⟩
            apply Jy
            rw[hlen];omega
          · refine ⟨ad.add (l.toNat*sz),cap - l.toNat,k,by rw[if_neg hcl,hlen];rfl,by rw[hlen];omega,?_⟩
            by_cases hne:(rows.take hh.toNat).drop l.toNat=[]
            · exact .inl hne
            · right
              rcases hr with hr|⟨hsp,hr⟩
              · subst hr;simp at hne
              · obtain ⟨bk,of,sp⟩:=ad
                simp only at hsp hr
                subst hsp
                rw[Addr.add_lit]
                refine ⟨rfl,?_⟩
                have hk:k=sz:=by
                  cases rows with
                  |nil=>simp at hne
                  |cons r rs=>
                    simp only[a6] at hr
                    rw[<-hr.1];exact wr r (by simp)
                subst hk
                exact (hr.take _).drop _
      · cases hw
    · cases hw
  case cl d f xs=>
    simp only[bU] at hw
    simp only[dC,aJ,ax] at hm
    obtain ⟨⟨h1,h2⟩,hm⟩:=hm
    split at hm<;>(try cases hm)
    rename_i f' as ts hop
    simp only[aJ,cI] at hm
    obtain ⟨rfl,hxs⟩:=hm
    split at hw
    · rename_i as' has
      obtain ⟨r,hspec,hk⟩:=hw
      have hl:=dt h hxs
      have hl0:=jS _ _ _ has hl
      have hent:HR S fP [] [] (fun t=>(List.map a.eval as.toList).getD t undef) w:=⟨h.hr.agree,fun d cs hcs=>by simp[aD] at hcs,fun d cs hcs=>by simp[aD] at hcs,fun d d' g z z' hd=>by simp[aD] at hd,fun p k hp=>by simp[aH] at hp,fun p q k l b hp=>by simp[aH] at hp,fun p k b d z hp=>by simp[aH] at hp,fun d off k hp=>by simp[aH] at hp⟩
      have hglo: ∀i us,F.GL.lookup i=some us-> ∀(o:Nat) (u:Value),us[o]?=some u->S i o=some u/\u.oneCell'=true:=fun i us hi o u hu=>⟨h.le _ _ _ (h.glo i us hi o u hu).1,(h.glo i us hi o u hu).2⟩
      have hd:=hspec d S fP w _ hl0 hent hglo (fun _ _=>rfl)
      have harr:(List.map a.eval as.toList).toArray=as.map a.eval:=by
        apply Array.ext';simp
      rw[harr] at hd
      have hrun:(execOp a.eval o).run P w=(callFunc f (as.map a.eval)).run P w:=by
        unfold execOp
        simp[hop,resolve,Act.eval,Deferred.ofValue,invoke]
      have next: ∀u w',(∃S' gb',dL d ⟨as',[],[]⟩ ⟨r,[],[]⟩ S fP (fun t=>(List.map a.eval as.toList).getD t undef) w S' gb' u w')->K' (a.put o.dst u) w':=by
        rintro u w' ⟨S',gb',hp⟩
        have hM: ∀g,¬MS ⟨as',[],[]⟩ fP (fun t=>(List.map a.eval as.toList).getD t undef) w g:=by
          rintro g (⟨e,z,h1,_⟩|⟨p,k,h1,_⟩)
          · simp[aD] at h1
          · simp[aH] at h1
        have hgb:gb'=fP:=by
          funext i
          cases hi:i.isNw d with
          |false=>exact hp.same i hi
          |true=>
            cases hq:gb' i with
            |none=>rfl
            |some x=>have:=hp.nw i hi (by rw[hq];simp);simp[aD] at this
        subst hgb
        rw[h1]
        exact hK _ _ _ _ _ ((h.step (S':=S') ⟨hp.bw.os,hp.bw.tape,hp.bw.output,hp.bw.size,fun k hk=>hp.bw.block k hk (hM k)⟩ (fun g o hg=>hp.ext g o hg (hM g)) hp.le hp.hr.agree).put h2 (uD hp.r)) hk
      unfold Oper.wp
      rw[hrun]
      unfold lH at hd
      split at hd
      · rename_i u w' he
        rw[he]
        exact next u w' hd
      · rename_i f' as' w' he
        rw[he]
        simp only[Oper.upon_enter]
        refine hd.mono ?_
        rintro e w'' ⟨u,rfl,hu⟩
        exact next u w'' hu
      · exact hd.elim
    · cases hw
  case ce d f xs=>
    simp only[bU] at hw
    simp only[dC,aJ,ax] at hm
    obtain ⟨⟨h1,h2⟩,hm⟩:=hm
    split at hm<;>(try cases hm)
    rename_i f' as ts hop
    simp only[aJ,cI] at hm
    obtain ⟨rfl,hxs⟩:=hm
    refine jt h h2 h1 (dt h hxs) (fun i t hi=>gZ hxs hi) ?_ hw hK
    have harr:(List.map a.eval as.toList).toArray=as.map a.eval:=by
      apply Array.ext';simp
    rw[harr]
    unfold execOp
    simp[hop,resolve,Act.eval,Deferred.ofValue,invoke]
  case cq d f xs fr=>
    simp only[bU] at hw
    obtain ⟨I,O,q1,q2,-,q4⟩:=hw
    simp only[dC,aJ,ax] at hm
    obtain ⟨⟨h1,h2⟩,hm⟩:=hm
    split at hm<;>(try cases hm)
    rename_i f' as ts hop
    simp only[aJ,cI] at hm
    obtain ⟨rfl,hxs⟩:=hm
    refine jt h h2 h1 (dt h hxs) (fun i t hi=>gZ hxs hi) ?_ ⟨I,O,q1,q2,q4⟩ hK
    have harr:(List.map a.eval as.toList).toArray=as.map a.eval:=by
      apply Array.ext';simp
    rw[harr]
    unfold execOp
    simp[hop,resolve,Act.eval,Deferred.ofValue,invoke]
  case ca d f s ps=>
    simp only[bU] at hw
    simp only[dC,aJ,ax] at hm
    obtain ⟨⟨h1,h2⟩,hm⟩:=hm
    split at hm<;>(try cases hm)
    rename_i f' as ts hop
    simp only[aJ,cI] at hm
    obtain ⟨rfl,hxs⟩:=hm
    obtain ⟨k,out,hc,hk⟩:=hw
    obtain ⟨m,hfree⟩:=yJ σ.bx
    have hrun:(execOp a.eval o).run P w=(callFunc f (List.map a.eval as.toList).toArray).run P w:=by
      have harr:(List.map a.eval as.toList).toArray=as.map a.eval:=by
        apply Array.ext';simp
      rw[harr]
      unfold execOp
      simp[hop,resolve,Act.eval,Deferred.ofValue,invoke]
    have fin: ∀(I:In) (O:bO),bC P F.GL f m I O->qD ((s.toList++ps).map σ.v) I.vs->I.bx=[]->O.bx=[]->(∀p∈I.pm,re σ (s.toList++ps) I p)->lc (s.toList++ps) I.pm->K (bB d σ (s.toList++ps) I O)->o.wp P a w K' Q:=by
      intro I O hs hv hb1 hb2 hp ho hk
      refine p5 h h2 h1 (dt h hxs) (fun i t hi=>gZ hxs hi) hrun hs ⟨hv,?_,hp,ho,?_,?_,?_⟩ hk hK
      · rw[hb1];intro p hp;simp at hp
      · rw[hb1];intro p hp;simp at hp
      · rw[hb2];intro p hp;simp at hp
      · intro p hp;exact hfree p hp m (eR _)
    cases s with
    |none=>
      simp only[JD,AS] at hc
      exact fin _ _ (hc m) (a7 _) rfl rfl (by simp) trivial (by simpa[bB,AT,lr,jF,lq,jR,St.puto] using hk)
    |some x=>
      cases x with
      |c v=>
        simp only[JD,AS] at hc
        obtain ⟨rfl,hc⟩:=hc
        exact fin _ _ (hc m) ⟨.inr ⟨rfl,rfl⟩,a7 _⟩ rfl rfl (by simp[re]) (by simp[lc]) (by simpa[bB,AT,lr,jF,lq,jR,St.puto] using hk)
      |s t=>
        simp only[JD,AS] at hc
        rcases hc with ⟨rows,e1,e2,hc⟩|⟨e1,hc⟩
        · exact fin _ _ (hc m) ⟨.inl e1,a7 _⟩ rfl rfl (by simp[re,e2]) (by simp[lc]) (by simpa[bB,AT,lr,jF,lq,jR,St.puto] using hk)
        · exact fin _ _ (hc m) ⟨.inr ⟨e1,rfl⟩,a7 _⟩ rfl rfl (by simp[re,e1]) (by simp[lc]) (by simpa[bB,AT,lr,jF,lq,jR,St.puto] using hk)
  case cd d x xs=>
    simp only[bU] at hw
    simp only[dC,aJ,ax] at hm
    obtain ⟨⟨h1,h2⟩,hm⟩:=hm
    split at hm<;>(try cases hm)
    rename_i f' as ts hop
    simp only[aJ] at hm
    obtain ⟨hx,hxs⟩:=hm
    split at hw
    · rename_i f caps hv
      split at hw
      · rename_i hb
        obtain ⟨vs,g1,g2,g3⟩:=qF (P:=P) h hop hx hxs hv (g:=f - BM) (ys:=caps.map X.c++xs) (by rw[if_pos hb])
        exact jt h h2 h1 g1 g2 g3 hw hK
      · rename_i hb
        obtain ⟨vs,g1,g2,g3⟩:=qF (P:=P) h hop hx hxs hv (g:=f) (ys:=xs++caps.map X.c) (by rw[if_neg hb])
        exact jt h h2 h1 g1 g2 g3 hw hK
    · cases hw
  case bsn d sz ps=>exact (show False from hw).elim
  case bsm d sz ps=>
    simp only[bU] at hw
    simp only[dC,aJ,ax] at hm
    obtain ⟨⟨h1,h2⟩,hm⟩:=hm
    split at hm<;>(try cases hm)
    rename_i t n ps' hop
    simp only[aJ,cI,tL,cH,ne_eq] at hm
    obtain ⟨⟨⟨⟨hu,hsz0⟩,hn⟩,hle⟩,hps⟩:=hm
    split at hu<;>(try cases hu)
    rename_i e hu'
    split at hu<;>(try cases hu)
    rename_i i hi
    simp only[aJ,cI] at hu
    obtain ⟨hsize,hz⟩:=hu
    split at hz<;>(try cases hz)
    rename_i z hz'
    simp only[cI] at hz
    split at hps<;>(try cases hps)
    rename_i ys hys
    have hpl:=rF hys
    suffices hall: ∀(rows:List (List AV)),aD σ.bx (.n d)=none->(aa S gb rows.flatten (ys.flatMap fun y=>(a.eval y).cells.toList)/\(∀u∈(ys.flatMap fun y=>(a.eval y).cells.toList),u.oneCell'=true)/\(∀r∈rows,r.length=sz)/\(∀y∈ys,(a.eval y).cells.size=sz)/\rows.length=ys.length)->
        K ⟨(d,.ms (.n d) 0 rows.length sz)::σ.e,(.n d,rows.flatten)::σ.bx,gV σ.pm d⟩->o.wp P a w K' Q by
      split at hw
      · rename_i rows hn0' hrows
        obtain ⟨r1,r2,r3,r4,r5⟩:=pZ h hps hrows
        exact hall rows hn0' ⟨rD r1,r2,r3,r4,r5⟩ hw
      · rename_i hn0' hrows
        split at hw
        · rename_i rows hrows
          exact hall rows hn0' (p0 h hps hrows) hw
        · cases hw
      · cases hw
    intro rows hn0' hfacts hw
    obtain ⟨r1,r2,r3,r4,r5⟩:=hfacts
    · skip
      have hlen:n=ys.length:=by
        rw[hn]
        have: ∀(ps:List X) (ys:List Operand),kB F.GL ps ys=true->ps.length=ys.length:=by
          intro ps;induction ps with
          |nil=>intro ys hh;cases ys<;>simp[kB] at hh ⊢
          |cons x r ih=>intro ys hh;cases ys with
            |nil=>simp[kB] at hh
            |cons y s=>simp[kB] at hh;simp[ih s hh.2]
        exact this _ _ hps
      obtain ⟨us,f1,f2⟩:=rG sz (ys.map a.eval) 0 ((Array.range (n*sz)).map (z.cells[· %z.cells.size]!)) (by simpa using r4) (by simp[hlen])
      simp only[Nat.zero_mul,N7,cL,List.flatMap_map] at f2
      have hfl:(Array.map (fun x=>(x.1,a.eval x.2)) ps').toList=((ys.map a.eval).zipIdx.map fun x=>(x.2,x.1)):=by
        rw[Array.toList_map,hpl,List.map_map,List.zipIdx_map,List.map_map]
        rfl
      have hble:n*sz<=16777216:=Nat.le_of_ble_eq_true hle
      refine be (u:= .slice (some ⟨w.heap.size,0,none⟩) n n) (w':=w.alloc (.cells us e)) ?_ ?_
      · unfold execOp
        simp only[hop,Instr.buildSlice,Sem.run_bind,run_underlying hu',Result.andThen_ok,sizeOf,typeInfo,run_program,hi,Sem.run_pure,hsize]
        rw[if_neg (by omega)]
        by_cases h0:n*sz=0
        · have hn0:n=0:=by rcases Nat.mul_eq_zero.1 h0 with h|h;exact h;exact absurd h hsz0
          have hys0:ys=[]:=Jy (by omega)
          subst hys0
          simp only[l6,List.zipIdx_nil] at hfl f1
          have hus:us= #[]:=by
            have:us.toList=[]:=by simpa using f2
            cases us;simp_all
          have hps0:ps'= #[]:=by cases ps';simpa using hfl
          simp[hn0,hps0,Array.range_zero',Instr.fill,newRow,hus]
        · simp only[h0,if_false,zeroValue,Sem.run_bind,typeInfo,run_program,Result.andThen_ok,hi,hz',Sem.run_pure]
          rw[hfl]
          rw[f1]
          simp[newRow]
      · rw[h1]
        have hus2:us.toList=ys.flatMap fun y=>(a.eval y).cells.toList:=f2
        have hfl2:us.size=rows.flatten.length:=by rw[<-qq,hus2,<-r1.length]
        have hrn:rows.length=n:=by rw[r5,hlen]
        have hfl3:rows.flatten.length=n*sz:=by rw[bW r3,hrn]
        rw[hrn] at hw
        refine hK _ _ _ _ _ (h.newBox h2 rfl hn0' (cs:=rows.flatten) (z:=⟨us.size,e⟩) ⟨fun _=>⟨_,e,rfl,rfl,?_,?_,?_⟩,fun hi=>by cases hi⟩ (by simp only[PR];exact ⟨w.heap.size,⟨us.size,e⟩,n,by simp[fe],rfl,rfl,eR _,by unfold maxLen;have:n<=n*sz:=Nat.le_mul_of_pos_right _ (by omega);omega,by simp only;omega⟩)) hw
        · omega
        · rw[<-hfl2,<-qq,tJ,hus2];exact r1
        · intro u hu;rw[hus2] at hu;exact r2 u hu
  case cr d f xs=>exact (show False from hw).elim
  case trm d sz x hi=>exact (show False from hw).elim
  case clr sz z x=>exact (show False from hw).elim
  case mkm d sz by_ z l c=>exact (show False from hw).elim
  case apm d sz by_ s y=>
    simp only[bU] at hw
    simp only[dC,aJ,ax] at hm
    obtain ⟨⟨h1,h2⟩,hm⟩:=hm
    split at hm<;>(try cases hm)
    rename_i as ts hop
    split at hm<;>(try cases hm)
    rename_i s' y' t t' has hts
    simp only[aJ,cI,tL,cH,ne_eq] at hm
    obtain ⟨⟨⟨⟨⟨rfl,hu⟩,hsz0⟩,hby0⟩,hs⟩,hy⟩:=hm
    split at hu<;>(try cases hu)
    rename_i e hu'
    split at hu<;>(try cases hu)
    rename_i i hi
    simp only[aJ,cI] at hu
    obtain ⟨⟨hsize,hbytes⟩,hz⟩:=hu
    split at hz<;>(try cases hz)
    rename_i z hz'
    simp only[aJ,cI] at hz
    have hs':=az h hs
    have hy':=az h hy
    have has':as= #[s',y']:=by cases as;simp_all
    have hts':ts= #[t,t]:=by cases ts;simp_all
    subst has';subst hts'
    have hexec: ∀ {u:Value} {w':World},(Builtin.append_ #[t,t] o.type #[a.eval s',a.eval y']).run P w= .ok u w'->(execOp a.eval o).run P w= .ok (.value u) w':=by
      intro u w' hr
      unfold execOp
      simp[hop,resolve,invoke,builtin,hr]
    split at hw
    · rename_i news hnews
      have hyn:=uD (gb:=gb) (xL _ _ _ hnews hy')
      split at hw
      · rename_i hsv
        split at hw
        · rename_i hn
          obtain ⟨w2,w3,w4,w5⟩:=hw
          rw[hsv] at hs'
          simp only[PR] at hs'
          obtain ⟨us,u1,u2,u3,u4,u5,u6⟩:=m6 (P:=P) h hyn w4
          subst hsize;subst hbytes
          have hsmall:0+news.length<=9223372036854775807:=by
            have:news.length<=news.length*i.bytes:=Nat.le_mul_of_pos_right _ (by omega)
            unfold nD at w2;omega
          have hfit:=growslice_fits (need:=0+news.length) (old:=0) (bytes:=i.bytes) (by omega) (by unfold nD at w2;rw[l5];exact w2)
          have hrun:=iE (P:=P) (w:=w) (base:=none) (n:=0) (cap:=0) (olds:=[]) (us:=us) (ty:=o.type) hu' (.inl hu') hi hz' u4 u6 (by simp[Builtin.firstCells]) (by omega) hfit hsmall
          rw[<-hs'] at hrun
          refine be (hexec hrun) ?_
          rw[h1]
          have hge:=grownCap_ge w (0+news.length) 0 e
          have hgm:=grownCap_le_maxLen w (0+news.length) 0 e (by unfold maxLen;omega)
          simp only[l5,cL] at hge hgm ⊢
          have hflen:news.flatten.length=news.length*i.size:=bW w4
          have hsz2:(us.toArray++Builtin.zeroCells z.cells (grownCap w news.length 0 e - news.length)).size=grownCap w news.length 0 e*i.size:=by
            rw[Array.size_append,size_zeroCells,hz.1,List.size_toArray,u1,<-Nat.add_mul];congr 1;omega
          refine hK _ _ _ _ _ ((h.drew).newBox h2 rfl hn (z:=⟨grownCap w news.length 0 e*i.size,e⟩) ⟨fun _=>⟨us.toArray++Builtin.zeroCells z.cells (grownCap w news.length 0 e - news.length),e,by rw[hsz2],rfl,?_,?_,?_⟩,fun hi=>by cases hi⟩ (by simp only[PR];exact ⟨w.drew.heap.size,⟨grownCap w news.length 0 e*i.size,e⟩,grownCap w news.length 0 e,by simp only[fe,if_true],rfl,rfl,hge,hgm,by simp only;omega⟩)) w5
          · rw[hflen,hsz2];exact Nat.mul_le_mul_right _ hge
          · rw[hflen,<-u1,Array.toList_append,List.take_left' (by simp)];exact rD u2
          · intro u hu
            rw[Array.toList_append] at hu
            rcases jD.1 hu with hu|hu
            · exact u3 u (by simpa using hu)
            · exact mK (by omega) (fun u hu=>ik.1 hz.2 u hu) u hu
        · cases hw
      · rename_i b n k hsv
        split at hw
        · rename_i cs hcs
          obtain ⟨w0,wl,wu,wn,wo1,wo2,wp,wi,wlim,w4,w5⟩:=hw
          subst w0
          rw[hsv] at hs'
          simp only[PR] at hs'
          obtain ⟨g,zz,cap,hg,_,hs',hncap,hcapm,hfitz⟩:=hs'
          obtain ⟨g',olds0,T,e1,e3,e0,e4,e5,e6⟩:=h.hr.box b cs hcs wi
          rw[hg] at e1;cases e1
          simp only at hfitz
          obtain ⟨us,u1,u2,u3,u4,u5,u6⟩:=m6 (P:=P) h hyn w4
          have hol:(olds0.toList.take cs.length).length=n*k:=by simp;omega
          have hflen:news.flatten.length=news.length*k:=bW w4
          subst hsize;subst hbytes
          have hpo: ∀o' l,aH σ.pm (.b b o')=some l->o'<cs.length:=fun o' l hl=>by
            have:=wp _ (eI _ _ _ hl)
            simp only[Pl.lt] at this
            exact this trivial
          have hsmall:n+news.length<=9223372036854775807:=by
            have:n+news.length<=(n+news.length)*i.bytes:=Nat.le_mul_of_pos_right _ (by omega)
            unfold nD at wlim;omega
          by_cases hroom:n+news.length<=cap
          ·
            have hfitc:n*i.size+us.length<=olds0.size:=by
              rw[u1,<-Nat.add_mul]
              exact mu (Nat.mul_le_mul_right _ hroom) (by omega)
            have hst:=run_storeCells_at P g (n*i.size) T us 0 olds0 w e3 (by simpa using hfitc) u3
            simp only[tF] at hst
            have hrun:=iD (P:=P) (w:=w) (ty:=o.type) hu' (.inl hu') hi (base:=some ⟨g,0,none⟩) (n:=n) (cap:=cap) (us:=us) u4 u5 hroom (fun b' hb'=>by
              cases hb';rw[Addr.add_lit,l5];exact hst) (fun hb=>by cases hb)
            rw[<-hs'] at hrun
            refine be (hexec hrun) ?_
            rw[h1]
            have hheap:=setRow_heap w g olds0 (olds0.toList.take (n*i.size)++us++olds0.toList.drop (n*i.size+us.length)).toArray T _ e3
            obtain ⟨gb',hr⟩:=h.swap h2 hcs wu wi hg e3 e6 wo1 wo2 wn e4 e0 hheap (fun k hk hne=>setRow_other w g k _ hne) (.inl rfl) (by simp) rfl rfl rfl (ns:=news.flatten) (nus:=us) (fun _ _=>rD u2) (by
              simp only[fT,hflen,wl,<-u1]
              rw[List.take_append_of_le_length (by simp;omega),List.take_of_length_le (by simp;omega)]) (by
              simp only[fT,hflen,wl,List.size_toArray,tD,xy,qq];omega) (by
              intro u hu
              simp only[jD] at hu
              rcases hu with (hu|hu)|hu
              · exact e5 u (DT hu)
              · exact u3 u hu
              · exact e5 u (List.mem_of_mem_drop hu)) hpo (n':=n+news.length) (cap':=cap) (sz:=i.size) hroom hcapm (by
              simp only[List.size_toArray,fT,tD,xy,qq];omega)
            exact hK _ _ _ _ _ hr w5
          ·
            have hfo:(Builtin.firstCells i.size n (.slice (some ⟨g,0,none⟩) n cap)).run P w.drew= .ok (olds0.toList.take cs.length).toArray w.drew:=by
              have:=eJ (P:=P) (w:=w.drew) (b:=g) (o:=0) (us:=olds0.toList.take cs.length) (fun j u hu=>by
                rw[l5,cell_of_row w.drew g j olds0 T _ e3]
                rw[qr] at hu
                split at hu
                · simpa using hu
                · cases hu)
              rw[hol] at this
              simp[Builtin.firstCells,this]
            have hfit:=growslice_fits (need:=n+news.length) (old:=cap) (bytes:=i.bytes) (by omega) (by unfold nD at wlim;exact wlim)
            have hrun:=iE (P:=P) (w:=w) (ty:=o.type) hu' (.inl hu') hi hz' u4 u6 hfo (by omega) hfit hsmall
            rw[<-hs'] at hrun
            refine be (hexec hrun) ?_
            rw[h1]
            have hge:=grownCap_ge w (n+news.length) cap e
            have hgm:=grownCap_le_maxLen w (n+news.length) cap e (by unfold maxLen;omega)
            have hsz2:((olds0.toList.take cs.length++us).toArray++Builtin.zeroCells z.cells (grownCap w (n+news.length) cap e - (n+news.length))).size=grownCap w (n+news.length) cap e*i.size:=by
              rw[Array.size_append,size_zeroCells,hz.1,List.size_toArray,fT,hol,u1,<-Nat.add_mul,<-Nat.add_mul];congr 1;omega
            obtain ⟨gb',hr⟩:=(h.drew).swap h2 hcs wu wi hg (w:=w.drew) e3 e6 wo1 wo2 wn e4 e0 (w':=w.drew.alloc (.cells ((olds0.toList.take cs.length++us).toArray++Builtin.zeroCells z.cells (grownCap w (n+news.length) cap e - (n+news.length))) e)) (heap_alloc_new w.drew _) (fun k hk _=>Below.heap_alloc _ _ _ hk) (.inr (eR _)) (by simp) rfl rfl rfl (ns:=news.flatten) (nus:=us) (fun _ _=>rD u2) (by
              simp only[fT,hflen,wl,<-u1]
              rw[Array.toList_append,List.take_append_of_le_length (by simp;omega),List.take_of_length_le (by simp;omega)]) (by
              rw[hsz2];simp only[fT,hflen,wl,<-Nat.add_mul];exact Nat.mul_le_mul_right _ hge) (by
              intro u hu
              rw[Array.toList_append] at hu
              rcases jD.1 hu with hu|hu
              · simp only[jD] at hu
                rcases hu with hu|hu
                · exact e5 u (DT hu)
                · exact u3 u hu
              · exact mK (by omega) (fun u hu=>ik.1 hz.2 u hu) u hu) hpo (n':=n+news.length) (cap':=grownCap w (n+news.length) cap e) (sz:=i.size) hge hgm (by rw[hsz2];omega)
            exact hK _ _ _ _ _ hr w5
        · cases hw
      · cases hw
    · exact hw.elim
  case s2b d x=>
    simp only[bU] at hw
    simp only[dC,aJ,ax] at hm
    obtain ⟨⟨h1,h2⟩,hm⟩:=hm
    split at hm<;>(try cases hm)
    rename_i ts t x' hop
    simp only[aJ] at hm
    obtain ⟨⟨ht,hs⟩,hx⟩:=hm
    have hx:=az h hx
    have hs':P.underlying ts=some .string:=by split at hs<;>simp_all
    obtain ⟨e,ht',he'⟩: ∃e,P.underlying t=some (.slice e)/\P.underlying e=some (.int .u8):=by
      split at ht<;>(try cases ht)
      rename_i e hte
      split at ht<;>(try cases ht)
      rename_i hue
      exact ⟨e,hte,hue⟩
    split at hw
    · rename_i l hl
      rw[hl] at hx
      simp only[PR] at hx
      have hrun:=run_bytes_of_string (P:=P) w ts t e ⟨l.toArray⟩ hs' ht' he'
      refine be (u:= .slice (some ⟨w.heap.size,0,none⟩) l.length (grownCap w l.length 0 e)) (w':=w.drew.alloc (.cells (bytesRow ⟨l.toArray⟩ (grownCap w l.length 0 e)) e ((bytesRow ⟨l.toArray⟩ (grownCap w l.length 0 e)).size,(bytesRow ⟨l.toArray⟩ (grownCap w l.length 0 e)).size+1))) ?_ ?_
      · unfold execOp
        simp only[hop,hx,hrun,Sem.run_bind,Result.andThen_ok,Sem.run_pure]
        rfl
      · rw[h1]
        have hge:=grownCap_ge w l.length 0 e
        have hfr: ∀o,S w.heap.size o=none:=fun o=>h.fresh (eR _)
        have hcell: ∀(j:Nat) (u:Value),(l.map fun b=>Value.int .u8 (b.toNat:Int))[j]?=some u->(bytesRow ⟨l.toArray⟩ (grownCap w l.length 0 e))[j]?=some u:=by
          intro j u hj
          have hjl:j<l.length:=by have:=(qZ.1 hj).1;simpa using this
          rw[bytesRow,Array.getElem?_append_left (by simpa using hjl)]
          simpa using hj
        have h3:aN F (o8 S w.heap.size (l.map fun b=>Value.int .u8 (b.toNat:Int))) gb σ a (w.drew.alloc (.cells (bytesRow ⟨l.toArray⟩ (grownCap w l.length 0 e)) e ((bytesRow ⟨l.toArray⟩ (grownCap w l.length 0 e)).size,(bytesRow ⟨l.toArray⟩ (grownCap w l.length 0 e)).size+1))):=by
          refine (h.drew).step ((Below.refl _ _).alloc (eR _) _) (fun g o hg=>by simp only[o8];exact if_neg (Nat.ne_of_lt hg)) (fun g o v hs=>?_) (fun g o v hs=>?_)
          · have:g≠w.heap.size:=by intro e;subst e;rw[hfr] at hs;cases hs
            simp[o8,this,hs]
          · simp only[o8] at hs
            split at hs
            · rename_i e;subst e
              have:=heap_alloc_new w.drew (.cells (bytesRow ⟨l.toArray⟩ (grownCap w l.length 0 e)) e ((bytesRow ⟨l.toArray⟩ (grownCap w l.length 0 e)).size,(bytesRow ⟨l.toArray⟩ (grownCap w l.length 0 e)).size+1))
              rw[cell_of_row _ w.heap.size o _ e _ this]
              exact hcell o v hs
            · rename_i e
              have hlt:g<w.heap.size:=by have:=World.block_lt_of_cell? w _ (h.hr.agree _ _ _ hs);simpa using this
              rw[World.cell?_alloc_lt]
              · exact h.hr.agree _ _ _ hs
              · exact hlt
        refine hK _ _ _ _ _ (h3.put h2 ?_) hw
        simp only[PR]
        refine .inr ⟨⟨w.heap.size,0,none⟩,grownCap w l.length 0 e,1,by simp[aj],by simpa[aj] using hge,.inr ⟨rfl,?_⟩⟩
        rw[a6.flat]
        refine ⟨fun r hr=>by simp only[aj,oY] at hr;obtain ⟨b,_,rfl⟩:=hr;rfl,?_⟩
        refine aK.of_list (us:=l.map fun b=>Value.int .u8 (b.toNat:Int)) ?_ (fun u hu=>by simp only[oY] at hu;obtain ⟨b,_,rfl⟩:=hu;rfl) (fun j u hu=>by simpa[o8] using hu)
        exact p4 _ l
    · cases hw
  case rs d x=>
    simp only[bU] at hw
    simp only[dC,aJ,ax] at hm
    obtain ⟨⟨h1,h2⟩,hm⟩:=hm
    split at hm<;>(try cases hm)
    rename_i t x' hop
    simp only[aJ] at hm
    have ht':P.underlying t=some .string:=by have:=hm.1;split at this<;>simp_all
    have hx:=az h hm.2
    split at hw
    · rename_i hn
      split at hw
      · rename_i s hs
        rw[hs] at hx
        simp only[PR] at hx
        refine be (u:= .pointer (some ⟨w.heap.size,0,none⟩)) (w':=w.iter ⟨s.toArray⟩ 0) ?_ ?_
        · unfold execOp
          simp[hop,hx,run_range_string w t _ ht']
        · rw[h1]
          exact hK _ _ _ _ _ (h.newBox h2 rfl hn (z:=⟨0,0⟩) ⟨fun hi=>(by cases hi),fun _=>rfl⟩ (by simp only[PR];exact ⟨w.heap.size,⟨0,0⟩,by simp[fe],rfl⟩)) hw
      · cases hw
    · cases hw
  case nx d x=>
    simp only[bU] at hw
    simp only[dC,aJ,ax] at hm
    obtain ⟨⟨h1,h2⟩,hm⟩:=hm
    split at hm<;>(try cases hm)
    rename_i x' hop
    have hx:=az h hm
    split at hw
    · rename_i it hit
      rw[hit] at hx
      simp only[PR] at hx
      obtain ⟨g,z,hg,hx⟩:=hx
      split at hw
      · rename_i s pos hbx
        obtain ⟨g',z',ob,e1,e2,e3,e6⟩:=h.hr.its _ _ hbx rfl
        rw[hg] at e1;cases e1
        simp only[tG,cW] at e2;subst e2
        have hsz:(ByteArray.mk s.toArray).size=s.length:=rfl
        split at hw
        · rename_i hlt
          refine be (u:= .tuple #[.bool true,.int .i64 pos,.int .i32 (dW s pos).1]) (w':={w with heap:=w.heap.setIfInBounds g (.stringIter ⟨s.toArray⟩ (pos+(dW s pos).2))}) ?_ ?_
          · unfold execOp
            simp only[hop,hx,Instr.next,getObj,setObj,Sem.run_bind,Sem.run,e3,Result.andThen,hsz,hlt,if_true,dW]
            simp[goInt,Sem.run,e3]
          · rw[h1]
            have hglt:g<w.heap.size:=(qC.1 e3).1
            have hset:=h.setObj (d:= .it it) (w':={w with heap:=w.heap.setIfInBounds g (.stringIter ⟨s.toArray⟩ (pos+(dW s pos).2))}) (by simp[hbx]) hg e6 (fun k hk=>by simp[Array.getElem?_setIfInBounds_ne (Ne.symm hk)]) (by simp) rfl rfl rfl (cs':=[.itr s (pos+(dW s pos).2)]) (fun hi=>by cases hi) (fun _=>⟨_,rfl,by simp[hglt]⟩) (pm:=σ.pm) (fun _ _ h=>h) (fun off k hk=>by have:=(h.hr.pmb _ _ _ hk).2;cases this)
            refine hK _ _ _ _ _ (hset.put h2 (v:= .tup [.bool true,.int .i64 pos,.int .i32 (dW s pos).1]) ?_) hw
            simp only[PR,aa]
            exact ⟨_,rfl,_,_,rfl,rfl,_,_,rfl,rfl,_,_,rfl,rfl,rfl⟩
        · rename_i hlt
          refine be (u:= .tuple #[.bool false]) (w':=w) ?_ ?_
          · unfold execOp
            simp[hop,hx,Instr.next,getObj,Sem.run,e3,hsz,hlt]
          · rw[h1]
            exact hK _ _ _ _ _ (h.put h2 (by simp only[PR,aa];exact ⟨_,rfl,_,_,rfl,rfl,rfl⟩)) hw
      · cases hw
    · cases hw
  case ex d x i=>
    simp only[bU] at hw
    simp only[dC,aJ,ax] at hm
    obtain ⟨⟨h1,h2⟩,hm⟩:=hm
    split at hm<;>(try cases hm)
    rename_i x' i' hop
    simp only[aJ,cI] at hm
    obtain ⟨rfl,hx0⟩:=hm
    have hx:=az h hx0
    split at hw
    · rename_i vs hvs
      rw[hvs] at hx
      simp only[PR] at hx
      obtain ⟨us,hxe,hp⟩:=hx
      split at hw
      · rename_i v hv
        obtain ⟨u,hu,hpu⟩:=hp.get hv
        have hu':us[i]?=some u:=by simpa using hu
        have hop2:(execOp a.eval o).run P w= .ok (.value u) w:=by
          unfold execOp
          simp[hop,hxe,Instr.extract,hu']
        have plain:K (σ.put d v)->o.wp P a w K' Q:=fun hk=>by
          refine be hop2 ?_
          rw[h1]
          exact hK _ _ _ _ _ (h.put h2 hpu) hk
        split at hw
        · rename_i t
          split at hw
          · rename_i k hk
            have ht:tv a t= .tuple us:=by
              cases x'<;>simp[mX] at hx0
              subst hx0;exact hxe
            have hpl:ct gb (tv a) w (.t t i)=u:=by
              simp only[ct,ht,kC,hu'];rfl
            have ho:=h.hr.own _ _ hk
            rw[hpl] at ho
            refine be hop2 ?_
            rw[h1]
            refine hK S gb ((⟨σ.e,σ.bx,dl σ.pm (.t t i)⟩:St).puto d v k) _ _ ?_ hw
            refine (h.drop (.t t i)).puto h2 hpu ho (fun g hg=>h.newo _ _ g hk (by rw[hpl];exact hg)) ?_ (fun b' d' z hb=>h.hr.ownb _ _ b' d' z hk (by rw[hpl];exact hb))
            intro p l b' hl _ hb hb2
            simp only[jH] at hl
            split at hl
            · cases hl
            · rename_i hne
              exact hne (h.hr.ownd p (.t t i) l k b' hl hk hb (by rw[hpl];exact hb2))
          · exact plain hw
        · exact plain hw
      · cases hw
    · cases hw
  case aps d s y=>exact (show False from hw).elim
  case sla d n x lo hi=>exact (show False from hw).elim
  case mkp d=>
    simp only[bU] at hw
    simp only[dC,aJ,ax] at hm
    obtain ⟨⟨h1,h2⟩,hm⟩:=hm
    split at hm<;>(try cases hm)
    rename_i t hop
    split at hw
    · rename_i hn
      refine be (u:= .map (some w.heap.size)) (w':=w.alloc (.map #[] 0)) ?_ ?_
      · unfold execOp
        simp[hop,run_makeMap]
      · rw[h1]
        exact hK _ _ _ _ _ (h.newBox h2 rfl hn (cs:=[.mpv []]) (z:=⟨0,0⟩) ⟨fun hi=>(by cases hi),fun _=>rfl⟩ (by simp only[PR];exact ⟨w.heap.size,⟨0,0⟩,by simp[fe],rfl,rfl⟩)) hw
    · cases hw
  case mpe d q z m k=>exact (show False from hw).elim
  case mes m s v=>exact (show False from hw).elim
  case mup q m k v=>
    simp only[bU] at hw
    simp only[dC,aJ,cI] at hm
    obtain ⟨h1,hm⟩:=hm
    split at hm<;>(try cases hm)
    rename_i t m' k' v' hop
    simp only[aJ] at hm
    obtain ⟨⟨⟨ht,hmm⟩,hkk⟩,hvv⟩:=hm
    split at ht<;>(try cases ht)
    rename_i kt et ht'
    obtain ⟨d0,hd,hq⟩:=uC ht
    have hx:=az h hmm
    have hy:=az h hkk
    have hv:=az h hvv
    split at hw
    · rename_i b es key val hb hk hk2
      obtain ⟨g,z',hg,hx,hbx,hit,e3,e6⟩:=pX h hb hx
      have hy:=Gy hk hy
      have hv:=Ob hk2 hv
      have hglt:g<w.heap.size:=(qC.1 e3).1
      have hent:(eH es).toList=xX es 0:=by rw[fx]
      split at hw
      · rename_i i v0 hf
        obtain ⟨h3,h4⟩:=i9 hq hk es 0 hf
        obtain ⟨e,q1,q2,q3,_⟩:=h4 _ rfl
        simp only[Nat.sub_zero] at q1
        have hi:(eH es)[i]?=some ⟨key.val,v0.val,i⟩:=by
          rw[<-Array.getElem?_toList,hent,xY,q1];simp[xZ q2,q3]
        have h5:=MapKept.run_findKey (P:=P) (w:=w) (kt:=kt) hd h3
        have hmod:=rC es i key val (fun e' he'=>by rw[q1] at he';cases he';exact xZ q2)
        refine nS (w':={w with heap:=w.heap.setIfInBounds g (.map (eH (tQ es i val)) es.length)}) ?_ ?_
        · unfold execOp
          simp only[hop,Instr.mapUpdate,Sem.run_bind,run_underlying ht',hx,hy,hv,MapKept.run_getObj_map e3,gL hd hq,hent,h5,Result.andThen_ok,Option.map_some,hi,Option.getD_some,nM,hmod,MapKept.run_setObj_map _ e3,Sem.run_pure]
        · rw[h1]
          have hset:=h.setObj (d:=b) (w':={w with heap:=w.heap.setIfInBounds g (.map (eH (tQ es i val)) es.length)}) (by simp[hbx]) hg e6 (fun k hk=>by simp[Array.getElem?_setIfInBounds_ne (Ne.symm hk)]) (by simp) rfl rfl rfl (cs':=[.mpv (tQ es i val)]) (fun hi=>by rw[hit] at hi;cases hi) (fun _=>⟨_,rfl,by simp[hglt,tQ]⟩) (pm:=σ.pm) (fun _ _ h=>h) (fun off k hk=>by have:=(h.hr.pmb _ _ _ hk).2;rw[hit] at this;cases this)
          exact hK _ _ _ _ _ hset hw
      · rename_i hf
        obtain ⟨h3,_⟩:=i9 hq hk es 0 hf
        have h5:=MapKept.run_findKey (P:=P) (w:=w) (kt:=kt) hd h3
        refine nS (w':={w with heap:=w.heap.setIfInBounds g (.map (eH (es++[(key,val)])) (es.length+1))}) ?_ ?_
        · unfold execOp
          simp only[hop,Instr.mapUpdate,Sem.run_bind,run_underlying ht',hx,hy,hv,MapKept.run_getObj_map e3,gL hd hq,hent,h5,Result.andThen_ok,Option.map_none,D6,MapKept.run_setObj_map _ e3,Sem.run_pure]
        · rw[h1]
          have hset:=h.setObj (d:=b) (w':={w with heap:=w.heap.setIfInBounds g (.map (eH (es++[(key,val)])) (es.length+1))}) (by simp[hbx]) hg e6 (fun k hk=>by simp[Array.getElem?_setIfInBounds_ne (Ne.symm hk)]) (by simp) rfl rfl rfl (cs':=[.mpv (es++[(key,val)])]) (fun hi=>by rw[hit] at hi;cases hi) (fun _=>⟨_,rfl,by simp[hglt]⟩) (pm:=σ.pm) (fun _ _ h=>h) (fun off k hk=>by have:=(h.hr.pmb _ _ _ hk).2;rw[hit] at this;cases this)
          exact hK _ _ _ _ _ hset hw
      · cases hw
    · cases hw
  case gd=>simp[dC] at hm
  case no=>simp[bU,ev] at hw
  all_goals
    simp only[bU] at hw
    split at hw
    · rename_i d' v' he
      exact pure _ _ he hw
    · cases hw
end Go.Ai
namespace Go.Ai
open Go.RowKit
variable {P:Program} {F:Fr} {S:aR} {gb:Gb} {σ:St} {a:Act} {w:World}
theorem Ct.two {σ:St} {s:Nat} {b:Id} {n sz:Nat} {rows:List (List AV)} (h:Ct σ s b n sz rows):lA σ s b n sz rows []:=
 ⟨h.hv,by rw[h.hb,xJ],h.hup,h.hn,h.hsz,h.hids,h.hoff⟩
def Rb (F:Fr) (S':aR) (gb':Gb) (σ:St) (s:Nat) (b:Id) (n sz:Nat) (a:Act) (w:World):Prop:=
 ∃g cap us T,tv a s= .slice (some ⟨g,0,none⟩) n cap/\w.heap[g]?=some (.cells us T (0,0))/\n<=cap/\cap<=maxLen/\cap*sz<=us.size/\(∀o,n*sz<=o->S' g o=none)/\(F.w0.heap.size<=g\/F.M g)/\
  (∀p k,aH (tP σ.pm b) p=some k->(ct gb' (tv a) w p).ownBlock≠some g)/\(∀d z,(aD (kA σ.bx b) d).isSome->gb' d≠some (g,z))
theorem aN.freeze (h:aN F S gb σ a w) {s:Nat} {b:Id} {n sz:Nat} {rows:List (List AV)} {tl:List AV} (hf:lA σ s b n sz rows tl): ∃S' gb',aN F S' gb' (iY σ s b rows) a w/\Rb F S' gb' σ s b n sz a w:=by
 have hs:=h.env s;rw[hf.hv] at hs;simp only[PR] at hs;obtain ⟨g,z,cap,hg,hit,hv,hncap,hcapm,hfit⟩:=hs;obtain ⟨g',us,T,e1,e3,e0,e4,e5,e6⟩:=h.hr.box b _ hf.hb hit;rw[hg] at e1;cases e1;simp only at hfit;have e4:aa S gb rows.flatten (us.toList.take rows.flatten.length):=by
  have h1:=e4.take rows.flatten.length;rw[List.take_left',List.take_take,Nat.min_eq_left (by simp)] at h1
  ·exact h1
  ·rfl
 have hbS:(aD σ.bx b).isSome:=by rw[hf.hb];rfl
 let S':aR:=fun g' o=>if g'=g then (us.toList.take rows.flatten.length)[o]? else S g' o
 let gb':Gb:=fun i=>if i=b then none else gb i
 have hle:S.le S':=fun g1 o v hs=>by
  have:g1≠g:=fun e=>by subst e;rw[e6] at hs;cases hs
  simp only[S',if_neg this];exact hs
 have hof: ∀g1 o,g1≠g->S' g1 o=S g1 o:=fun g1 o hne=>by simp only[S',if_neg hne]
 have hoth: ∀i,i≠b->gb' i=gb i:=fun i h1=>by simp only[gb',if_neg h1]
 have hrm: ∀i,(aD (kA σ.bx b) i).isSome->i≠b/\aD (kA σ.bx b) i=aD σ.bx i:=by
  intro i hi;rw[gM] at hi ⊢;by_cases e:b=i
  ·rw[if_pos e] at hi;cases hi
  ·rw[if_neg e] at hi ⊢;exact ⟨fun e'=>e e'.symm,rfl⟩
 have hpr: ∀(v:AV) (u:Value),b∉v.ids->PR S gb v u->PR S' gb' v u:=fun v u hv hp=>
  PR.mono hle (Gb.le.refl _) v u (PR.restr v u (fun i hi=>by
   have:i≠b:=fun e=>hv (e▸hi)
   rw[hoth i this]) hp)
 have hprL: ∀(v:List AV) (u:List Value),b∉bm v->aa S gb v u->aa S' gb' v u:=fun v u hv hp=>
  aa.mono hle (Gb.le.refl _) v u (aa.restr v u (fun i hi=>by
   have:i≠b:=fun e=>hv (e▸hi)
   rw[hoth i this]) hp)
 have hblk: ∀i g1 z1,(aD (kA σ.bx b) i).isSome->gb i=some (g1,z1)->g1≠g:=by
  intro i g1 z1 hi hq e;obtain ⟨h1,h3⟩:=hrm i hi;rw[h3] at hi;exact h1 (h.hr.inj i b g z1 _ hi hbS (by rw[hq,e]) hg)
 have hkeep: ∀p k,aH (tP σ.pm b) p=some k->aH σ.pm p=some k/\ ∀e o,p= .b e o->e≠b:=by
  intro p k hk;rw[kE] at hk;cases p with
  |s t=>exact ⟨hk,fun e o he=>by cases he⟩
  |t t i=>exact ⟨hk,fun e o he=>by cases he⟩
  |b e o=>
   simp only at hk;split at hk
   ·cases hk
   ·rename_i hne;exact ⟨hk,fun e' o' he=>by cases he;exact hne⟩
 have hpl: ∀p k,aH (tP σ.pm b) p=some k->ct gb' (tv a) w p=ct gb (tv a) w p:=by
  intro p k hk;obtain ⟨h1,h2⟩:=hkeep p k hk;cases p with
  |s t=>rfl
  |t t i=>rfl
  |b e o=>simp only[ct,hoth e (h2 e o rfl)]
 have hob: ∀p k g1,aH σ.pm p=some k->(ct gb (tv a) w p).ownBlock=some g1->g1≠g:=by
  intro p k g1 hk hg1 e;subst e;exact h.hr.ownb p k _ b _ hk hg1 hbS hg
 have hnew:=h.newb b g _ hbS hg;refine ⟨S',gb',?_,?_⟩
 rotate_left
 ·refine ⟨g,cap,us,T,hv,e3,hncap,hcapm,by omega,?_,hnew,?_,?_⟩
  ·intro o ho;simp only[S',if_true];rw[Ga];rw[tD,bW hf.hsz,hf.hn];omega
  ·intro p k hk he;rw[hpl p k hk] at he;exact hob p k g (hkeep p k hk).1 he rfl
  ·intro d z hd he;obtain ⟨r1,r3⟩:=hrm d hd;rw[hoth d r1] at he;exact hblk d g z hd he rfl
 refine ⟨h.defers,h.size,h.bw,?_,h.le.trans hle,?_,⟨?_,?_,?_,?_,?_,?_,?_,?_⟩,?_,?_,?_,?_,h.glo⟩
 ·intro g1 o hg1 hm;rw[hof g1 o (fun e=>by subst e;rcases hnew with h1|h1;omega;exact hm h1)];exact h.ext g1 o hg1 hm
 ·intro t;simp only[iY,lk];split
  ·rename_i e;subst e;rw[hv];simp only[PR];refine .inr ⟨⟨g,0,none⟩,cap,sz,by rw[hf.hn],by rw[hf.hn];exact hncap,.inr ⟨rfl,?_⟩⟩;rw[a6.flat];refine ⟨hf.hsz,aK.of_list (us:=us.toList.take rows.flatten.length) ?_ (fun u hu=>e5 u (DT hu)) (fun j u hu=>by rw[l5];simp only[S',if_true];exact hu)⟩;exact aa.restr _ _ (fun d hd=>by rw[hf.hids] at hd;cases hd) (aa.mono hle (Gb.le.refl _) _ _ e4)
  ·rw[l9];split
   ·simp[PR]
   ·rename_i hne;exact hpr _ _ hne (h.env t)
 ·intro g1 o v hs;simp only[S'] at hs;split at hs
  ·rename_i e;subst e;rw[cell_of_row w g1 o us T _ e3];rw[qr] at hs;split at hs
   ·simpa using hs
   ·cases hs
  ·exact h.hr.agree _ _ _ hs
 ·intro d cs hcs hi;simp only[iY] at hcs;have hr:(aD (kA σ.bx b) d).isSome:=by rw[hcs];rfl
  obtain ⟨r1,r3⟩:=hrm d hr;have hm:=cF _ _ _ hcs;rw[r3] at hcs;obtain ⟨g1,us1,T1,q1,q3,q0,q4,q5,q6⟩:=h.hr.box d cs hcs hi;have hne:=hblk d g1 _ hr q1;exact ⟨g1,us1,T1,by rw[hoth d r1];exact q1,q3,q0,hprL _ _ (hf.hoff _ hm) q4,q5,fun o=>by rw[hof g1 o hne];exact q6 o⟩
 ·intro d cs hcs hi;simp only[iY] at hcs;have hr:(aD (kA σ.bx b) d).isSome:=by rw[hcs];rfl
  obtain ⟨r1,r3⟩:=hrm d hr;rw[r3] at hcs;obtain ⟨g1,z1,ob1,q1,q2,q3,q6⟩:=h.hr.its d cs hcs hi;have hne:=hblk d g1 z1 hr q1;exact ⟨g1,z1,ob1,by rw[hoth d r1];exact q1,q2,q3,fun o=>by rw[hof g1 o hne];exact q6 o⟩
 ·intro d d' g1 z1 z2 i1 i2 q1 q2;simp only[iY] at i1 i2;obtain ⟨r1,r3⟩:=hrm d i1;obtain ⟨s1,s3⟩:=hrm d' i2;rw[hoth d r1] at q1;rw[hoth d' s1] at q2;rw[r3] at i1;rw[s3] at i2;exact h.hr.inj d d' g1 z1 z2 i1 i2 q1 q2
 ·intro p k hk;rw[hpl p k hk];obtain ⟨h1,_⟩:=hkeep p k hk;exact (h.hr.own p k h1).mono (fun _ _=>rfl) (fun g1 o hg1 hn=>by rw[hof g1 o (hob p k g1 h1 hg1)];exact hn)
 ·intro p q k l c hk hl c1 c2;rw[hpl p k hk] at c1;rw[hpl q l hl] at c2;exact h.hr.ownd p q k l c (hkeep p k hk).1 (hkeep q l hl).1 c1 c2
 ·intro p k c d z1 hk c1 hd;simp only[iY] at hd;obtain ⟨r1,r3⟩:=hrm d hd;rw[hpl p k hk] at c1;rw[hoth d r1];rw[r3] at hd;exact h.hr.ownb p k c d z1 (hkeep p k hk).1 c1 hd
 ·intro d o k hk;obtain ⟨h1,h2⟩:=hkeep _ k hk;obtain ⟨p1,p2⟩:=h.hr.pmb d o k h1;refine ⟨?_,p2⟩;simp only[iY];rw[gM,if_neg (fun e=>h2 d o rfl e.symm)];exact p1
 ·intro d g1 z1 hd hq;simp only[iY] at hd;obtain ⟨r1,r3⟩:=hrm d hd;rw[hoth d r1] at hq;rw[r3] at hd;exact h.newb d g1 z1 hd hq
 ·intro p k g1 hk hg1;rw[hpl p k hk] at hg1;exact h.newo p k g1 (hkeep p k hk).1 hg1
 ·intro d hd;simp only[iY];by_cases e:d=b
  ·exfalso;apply hd;simp only[gb',if_pos e]
  ·rw[hoth d e] at hd;rcases h.dom d hd with h1|h1
   ·left;rw[gM,if_neg (fun q=>e q.symm)];exact h1
   ·exact .inr h1
 ·intro d
  have:Id.up d≠b:=fun q=>by have:=hf.hup;rw[<-q] at this;cases this
  rw[hoth _ this];exact h.up d

theorem aN.freezeP (h:aN F S gb σ a w) {s:Nat} {b:Id} {n sz:Nat} {rows:List (List AV)} {tl:List AV} (hf:lA σ s b n sz rows tl) (hk:sz<KB): ∃S' gb',aN F S' gb' (lC σ s b sz rows) a w:=by
 obtain ⟨S',gb',h1,g,cap,us,T,x1,x2,x3,x4,x5,x6,x7,x8,x9⟩:=h.freeze hf;have hs:s<F.N:=by
  rw[<-h.size];apply Classical.byContradiction;intro hn
  have:tv a s=undef:=by simp only[tv,kC];rw[Array.getElem?_eq_none (by omega)];rfl
  rw[this] at x1;simp[undef] at x1
 have ha:a.put (some s) (tv a s)=a:=by
  have h2:s<a.tmps.size:=by rw[h.size];exact hs
  simp only[Act.put]
  have:a.tmps.setIfInBounds s (tv a s)=a.tmps:=by
   apply Array.ext_getElem?;intro i;rw[Array.getElem?_setIfInBounds];split
   ·rename_i e;subst e;simp[tv,kC,h2]
   ·rfl
  rw[this]
 have hp:=h1.env s;refine ⟨S',gb',?_⟩;have h3:=h1.puto hs (v:= .sl rows) (u:=tv a s) (k:=sz) (by simpa[iY,lk] using hp) (.inr (.inl ⟨hk,g,n,cap,us,T,x1,x2,x3,x4,x5,x6⟩)) (fun g1 hg1=>by rw[x1] at hg1;simp only[Value.ownBlock,cW] at hg1;subst hg1;exact x7)
  (fun p l b1 hl _ hb1 he=>by rw[x1] at he;simp only[Value.ownBlock,cW] at he;subst he;exact x8 p l hl hb1)
  (fun b1 d' z he hd hz=>by rw[x1] at he;simp only[Value.ownBlock,cW] at he;subst he;exact x9 d' z hd hz)
 rw[ha] at h3;exact h3
theorem yK (l:List (Id×List AV)) (b d:Id) (rows:List (List AV)):aD (tR l b rows) d=(aD l d).map (fun cs=>cs.map (ri b rows)):=by
 induction l with
 |nil=>rfl
 |cons x r ih=>
  obtain ⟨k,v⟩:=x;simp only[tR,fZ,aD] at ih ⊢;split
  ·rfl
  ·exact ih
theorem JL {cs:List AV} {ob:Obj} {b:Id} {rows:List (List AV)} (h:tG cs=some ob):tG (cs.map (ri b rows))=some ob:=by
 unfold tG at h;split at h
 ·exact h
 ·exact h
 ·cases h
theorem aN.kid (h:aN F S gb σ a w) {b:Id} {sz:Nat} {rows:List (List AV)} {tl:List AV} (hf:Gf σ b sz rows tl): ∃S' gb',aN F S' gb' (lB σ b rows) a w:=by
 obtain ⟨g,us,T,hg,e3,e0,e4,e5,e6⟩:=h.hr.box b _ hf.hb hf.hit;have e4:aa S gb rows.flatten (us.toList.take rows.flatten.length):=by
  have h1:=e4.take rows.flatten.length;rw[List.take_left',List.take_take,Nat.min_eq_left (by simp)] at h1
  ·exact h1
  ·rfl
 have hbS:(aD σ.bx b).isSome:=by rw[hf.hb];rfl
 let S':aR:=fun g' o=>if g'=g then (us.toList.take rows.flatten.length)[o]? else S g' o
 let gb':Gb:=fun i=>if i=b then none else gb i
 have hle:S.le S':=fun g1 o v hs=>by
  have:g1≠g:=fun e=>by subst e;rw[e6] at hs;cases hs
  simp only[S',if_neg this];exact hs
 have hof: ∀g1 o,g1≠g->S' g1 o=S g1 o:=fun g1 o hne=>by simp only[S',if_neg hne]
 have hoth: ∀i,i≠b->gb' i=gb i:=fun i h1=>by simp only[gb',if_neg h1]
 have hrm: ∀i cs,aD (tR (kA σ.bx b) b rows) i=some cs->i≠b/\ ∃c0,aD σ.bx i=some c0/\cs=c0.map (ri b rows):=by
  intro i cs hi;rw[yK,gM] at hi;by_cases e:b=i
  ·rw[if_pos e] at hi;cases hi
  ·rw[if_neg e] at hi;cases h1:aD σ.bx i with
   |none=>rw[h1] at hi;cases hi
   |some c0=>rw[h1] at hi;cases hi;exact ⟨fun q=>e q.symm,c0,rfl,rfl⟩
 have hrS: ∀i,(aD (tR (kA σ.bx b) b rows) i).isSome->i≠b/\(aD σ.bx i).isSome:=by
  intro i hi;obtain ⟨cs,hc⟩:=jp.mp hi;obtain ⟨h1,c0,h2,_⟩:=hrm i cs hc;exact ⟨h1,by rw[h2];rfl⟩
 have hrB: ∀i,i≠b->(aD σ.bx i).isSome->(aD (tR (kA σ.bx b) b rows) i).isSome:=by
  intro i h1 h2;rw[yK,gM,if_neg (fun e=>h1 e.symm),Option.isSome_map];exact h2
 have hpr: ∀(v:AV) (u:Value),b∉v.ids->PR S gb v u->PR S' gb' v u:=fun v u hv hp=>
  PR.mono hle (Gb.le.refl _) v u (PR.restr v u (fun i hi=>by
   have:i≠b:=fun e=>hv (e▸hi)
   rw[hoth i this]) hp)
 have hkc: ∀(v:AV) (u:Value),b∉(ri b rows v).ids->PR S gb v u->PR S' gb' (ri b rows v) u:=by
  intro v u hv hp;cases v with
  |ms d o n z=>
   simp only[ri] at hv ⊢;split
   ·rename_i e;obtain ⟨rfl,rfl,rfl⟩:=e;simp only[PR] at hp ⊢;obtain ⟨g',z',cap,q1,q2,q3,q4,q5,q6⟩:=hp;rw[hg] at q1;cases q1;refine .inr ⟨⟨g,0,none⟩,cap,sz,q3,q4,.inr ⟨rfl,?_⟩⟩;rw[a6.flat];refine ⟨hf.hsz,aK.of_list (us:=us.toList.take rows.flatten.length) ?_ (fun u hu=>e5 u (DT hu)) (fun j u hu=>by rw[l5];simp only[S',if_true];exact hu)⟩;exact aa.restr _ _ (fun d hd=>by rw[hf.hids] at hd;cases hd) (aa.mono hle (Gb.le.refl _) _ _ e4)
   ·rename_i e;rw[if_neg e] at hv;exact hpr _ _ hv hp
  |_=>exact hpr _ _ hv hp
 have hkL: ∀(v:List AV) (u:List Value),b∉bm (v.map (ri b rows))->aa S gb v u->aa S' gb' (v.map (ri b rows)) u:=by
  intro v;induction v with
  |nil=>intro u _ hp;exact hp
  |cons x r ih=>
   intro u hv hp;simp only[fZ,aa,bm,jD,not_or] at hv hp ⊢;obtain ⟨u0,u1,q1,q2,q3⟩:=hp;exact ⟨u0,u1,q1,hkc _ _ hv.1 q2,ih _ hv.2 q3⟩
 have hblk: ∀i g1 z1,(aD (tR (kA σ.bx b) b rows) i).isSome->gb i=some (g1,z1)->g1≠g:=by
  intro i g1 z1 hi hq e;obtain ⟨h1,h3⟩:=hrS i hi;exact h1 (h.hr.inj i b g z1 _ h3 hbS (by rw[hq,e]) hg)
 have hkeep: ∀p k,aH (tP σ.pm b) p=some k->aH σ.pm p=some k/\ ∀e o,p= .b e o->e≠b:=by
  intro p k hk;rw[kE] at hk;cases p with
  |s t=>exact ⟨hk,fun e o he=>by cases he⟩
  |t t i=>exact ⟨hk,fun e o he=>by cases he⟩
  |b e o=>
   simp only at hk;split at hk
   ·cases hk
   ·rename_i hne;exact ⟨hk,fun e' o' he=>by cases he;exact hne⟩
 have hpl: ∀p k,aH (tP σ.pm b) p=some k->ct gb' (tv a) w p=ct gb (tv a) w p:=by
  intro p k hk;obtain ⟨h1,h2⟩:=hkeep p k hk;cases p with
  |s t=>rfl
  |t t i=>rfl
  |b e o=>simp only[ct,hoth e (h2 e o rfl)]
 have hob: ∀p k g1,aH σ.pm p=some k->(ct gb (tv a) w p).ownBlock=some g1->g1≠g:=by
  intro p k g1 hk hg1 e;subst e;exact h.hr.ownb p k _ b _ hk hg1 hbS hg
 have hnew:=h.newb b g _ hbS hg;refine ⟨S',gb',h.defers,h.size,h.bw,?_,h.le.trans hle,?_,⟨?_,?_,?_,?_,?_,?_,?_,?_⟩,?_,?_,?_,?_,h.glo⟩
 ·intro g1 o hg1 hm;rw[hof g1 o (fun e=>by subst e;rcases hnew with h1|h1;omega;exact hm h1)];exact h.ext g1 o hg1 hm
 ·intro t;simp only[lB];rw[l9];split
  ·simp[PR]
  ·rename_i hne;exact hpr _ _ hne (h.env t)
 ·intro g1 o v hs;simp only[S'] at hs;split at hs
  ·rename_i e;subst e;rw[cell_of_row w g1 o us T _ e3];rw[qr] at hs;split at hs
   ·simpa using hs
   ·cases hs
  ·exact h.hr.agree _ _ _ hs
 ·intro d cs hcs hi;simp only[lB] at hcs;obtain ⟨r1,c0,r3,rfl⟩:=hrm d cs hcs;have hm:=cF _ _ _ hcs;obtain ⟨g1,us1,T1,q1,q3,q0,q4,q5,q6⟩:=h.hr.box d c0 r3 hi;have hne:=hblk d g1 _ (by rw[hcs];rfl) q1;exact ⟨g1,us1,T1,by rw[hoth d r1];exact q1,q3,by rw[tN];exact q0,by rw[tN];exact hkL _ _ (hf.hoff _ hm) q4,q5,fun o=>by rw[hof g1 o hne];exact q6 o⟩
 ·intro d cs hcs hi;simp only[lB] at hcs;obtain ⟨r1,c0,r3,rfl⟩:=hrm d cs hcs;obtain ⟨g1,z1,ob1,q1,q2,q3,q6⟩:=h.hr.its d c0 r3 hi;have hne:=hblk d g1 z1 (by rw[hcs];rfl) q1;exact ⟨g1,z1,ob1,by rw[hoth d r1];exact q1,JL q2,q3,fun o=>by rw[hof g1 o hne];exact q6 o⟩
 ·intro d d' g1 z1 z2 i1 i2 q1 q2;simp only[lB] at i1 i2;obtain ⟨r1,r3⟩:=hrS d i1;obtain ⟨s1,s3⟩:=hrS d' i2;rw[hoth d r1] at q1;rw[hoth d' s1] at q2;exact h.hr.inj d d' g1 z1 z2 r3 s3 q1 q2
 ·intro p k hk;rw[hpl p k hk];obtain ⟨h1,_⟩:=hkeep p k hk;exact (h.hr.own p k h1).mono (fun _ _=>rfl) (fun g1 o hg1 hn=>by rw[hof g1 o (hob p k g1 h1 hg1)];exact hn)
 ·intro p q k l c hk hl c1 c2;rw[hpl p k hk] at c1;rw[hpl q l hl] at c2;exact h.hr.ownd p q k l c (hkeep p k hk).1 (hkeep q l hl).1 c1 c2
 ·intro p k c d z1 hk c1 hd;simp only[lB] at hd;obtain ⟨r1,r3⟩:=hrS d hd;rw[hpl p k hk] at c1;rw[hoth d r1];exact h.hr.ownb p k c d z1 (hkeep p k hk).1 c1 r3
 ·intro d o k hk;obtain ⟨h1,h2⟩:=hkeep _ k hk;obtain ⟨p1,p2⟩:=h.hr.pmb d o k h1;exact ⟨hrB d (h2 d o rfl) p1,p2⟩
 ·intro d g1 z1 hd hq;simp only[lB] at hd;obtain ⟨r1,r3⟩:=hrS d hd;rw[hoth d r1] at hq;exact h.newb d g1 z1 r3 hq
 ·intro p k g1 hk hg1;rw[hpl p k hk] at hg1;exact h.newo p k g1 (hkeep p k hk).1 hg1
 ·intro d hd;simp only[lB];by_cases e:d=b
  ·exfalso;apply hd;simp only[gb',if_pos e]
  ·rw[hoth d e] at hd;rcases h.dom d hd with h1|h1
   ·exact .inl (hrB d e h1)
   ·exact .inr h1
 ·intro d
  have:Id.up d≠b:=fun q=>by have:=hf.hup;rw[<-q] at this;cases this
  rw[hoth _ this];exact h.up d
theorem aN.kids {σ τ:St} (hk:DU σ τ): ∀ {S:aR} {gb:Gb},aN F S gb σ a w-> ∃S' gb',aN F S' gb' τ a w:=by
 induction hk with
 |z σ=>intro S gb h;exact ⟨S,gb,h⟩
 |s b sz rows tl h1 h2 ih=>
  intro S gb h;obtain ⟨S',gb',h3⟩:=h.kid h1;exact ih h3
end Go.Ai
