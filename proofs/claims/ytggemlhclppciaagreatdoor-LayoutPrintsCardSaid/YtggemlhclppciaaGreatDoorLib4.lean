/- Lib4: a part of the proof. Conditions: as each theorem says. -/
import Derived.Test.YtggemlhclppciaaGreatDoorLib3
import Derived.Scope
set_option linter.unusedSimpArgs false
set_option linter.unusedVariables false
namespace Go.Ai
open Go.RowKit

variable {P:Program} {F:Fr} {S:aM} {gb:Gb} {σ:St} {a:Act} {w:World}

theorem aZ {o:Oper} {K:Act→World→Prop} {Q:Exit→Act→World→Prop} {u:Value} {w':World} (h:(execOp a.eval o).run P w= .ok (.value u) w') (hk:K (a.put o.dst u) w'):o.wp P a w K Q:=by
 unfold Oper.wp;rw [h];exact hk
theorem yT {o:Oper} {K:Act→World→Prop} {Q:Exit→Act→World→Prop} {w':World} (h:(execOp a.eval o).run P w= .ok .skip w') (hk:K (a.put o.dst undef) w'):o.wp P a w K Q:=by
 unfold Oper.wp;rw [h];exact hk

theorem mR {l:List (Nat×Operand)} {i:Nat} {ys:List Operand} (h:cp l i=some ys):l=(ys.zipIdx i).map fun x=>(x.2,x.1):=by
 induction l generalizing i ys with
 |nil=>simp [cp] at h;subst h;rfl
 |cons x r ih=>
  obtain ⟨j,y⟩:=x;simp only [cp] at h;split at h
  ·rename_i e;simp only [bP] at e;simp only [xZ] at h;obtain ⟨ys',h1,rfl⟩:=h;subst e;simp [List.zipIdx_cons,ih h1]
  ·cases h

theorem nO (h:aI F S gb σ a w) {sz:Nat}: ∀ {ps:List X} {ys:List Operand} {rows:List (List AV)},jh F.GL ps ys=true→je σ sz ps=some rows→
  aa S fK rows.flatten (ys.flatMap fun y=>(a.eval y).cells.toList)∧(∀u∈(ys.flatMap fun y=>(a.eval y).cells.toList),u.oneCell'=true)∧(∀r∈rows,r.length=sz)∧(∀y∈ys,(a.eval y).cells.size=sz)∧rows.length=ys.length
 |[],ys,rows,hm,hr=>by
  cases ys<;>simp [jh] at hm;simp [je] at hr;subst hr;simp [aa]
 |x::r,ys,rows,hm,hr=>by
  cases ys with
  |nil=>simp [jh] at hm
  |cons y ys=>
   simp only [jh,aE] at hm;simp only [je] at hr;split at hr
   ·rename_i cs hcs;split at hr
    ·rename_i cs' rs e1 e2;split at hr
     ·rename_i hl;simp only [cC] at hr;subst hr;obtain ⟨c1,c2⟩:=rY hcs (aq h hm.1);obtain ⟨g1,g2,g3,g4,g5⟩:=nO h hm.2 e2;have c3:=jx _ _ _ e1 c1;have hsz:(a.eval y).cells.size=sz:=by rw [←oY,←c3.length];exact hl
      refine ⟨by simpa using c3.append g1,?_,?_,?_,by simp [g5]⟩
      ·intro u hu;simp only [List.flatMap_cons,iB] at hu;rcases hu with hu|hu
       ·exact c2 u hu
       ·exact g2 u hu
      ·simpa [hl] using g3
      ·simpa [hsz] using g4
     ·cases hr
    ·cases hr
   ·cases hr

theorem nP (sz:Nat): ∀(vs:List Value) (i:Nat) (cells:Array Value),(∀v∈vs,v.cells.size=sz)→(i+vs.length)*sz=cells.size→
  ∃us,Instr.fill (fun i=>some (i*sz,sz)) cells ((vs.zipIdx i).map fun x=>(x.2,x.1))=some us∧us.toList=cells.toList.take (i*sz)++vs.flatMap (·.cells.toList)
 |[],i,cells,_,hs=>⟨cells,by simp [Instr.fill],by simp only [vZ,rI] at hs;rw [hs,←oY,qJ];simp⟩
 |v::r,i,cells,hv,hs=>by
  simp only [SC] at hv;simp only [List.zipIdx_cons,iP,Instr.fill,hv.1];have hle:i*sz+sz≤cells.size:=by
   rw [←hs];simp only [em];rw [show (i+(r.length+1))*sz=i*sz+sz+r.length*sz by rw [Nat.add_mul,Nat.add_mul];omega];omega
  rw [if_neg (by simp;omega)];have hlen:v.cells.toList.length=sz:=by simpa using hv.1
  have hfold:=yR v.cells.toList (i*sz) 0 cells (by simp [hlen];omega);simp only [rI] at hfold;generalize hc:(v.cells.toList.zipIdx.foldl (fun cs (x:Value×Nat)=>cs.setIfInBounds (i*sz+x.2) x.1) cells)=cells' at hfold;have hsz':cells'.size=cells.size:=by
   rw [←oY,hfold];simp [hlen];omega
  obtain ⟨us,h1,h2⟩:=nP sz r (i+1) cells' hv.2 (by rw [hsz',←hs];simp only [em];congr 1;omega);refine ⟨us,?_,?_⟩
  ·rw [←Array.foldl_toList,Array.toList_zipIdx,hc];exact h1
  ·rw [h2,hfold]
   have:(List.take (i*sz) cells.toList++v.cells.toList++List.drop (i*sz+v.cells.toList.length) cells.toList).take ((i+1)*sz)=List.take (i*sz) cells.toList++v.cells.toList:=by
    have hl2:(List.take (i*sz) cells.toList++v.cells.toList).length=(i+1)*sz:=by
     simp only [cG,rH,hlen,oY,Nat.add_mul];omega
    rw [←hl2];exact List.take_left
   rw [this];simp

theorem r6 {α:Type} (l:List α) (n m:Nat) (h:n≤m) (h2:m≤l.length):((l.take m).drop n).length=m - n:=by simp;omega

theorem j6 (s:List UInt8) (l h:Nat):(ByteArray.mk s.toArray).extract l h=ByteArray.mk ((s.take h).drop l).toArray:=by
 apply ByteArray.ext;rw [ByteArray.data_extract];apply Array.ext';simp [List.extract_eq_take_drop,List.drop_take]

theorem iq (h:aI F S gb σ a w) {dflt:Nat} {x:Option X} {y:Option Operand} {n:Int} (hm:uu F.GL x y=true) (hb:yH σ dflt x=some n):
  (y=none∧n=dflt)∨ ∃y' k,y=some y'∧a.eval y'= .int k n:=by
 cases x with
 |none=>cases y<;>simp [uu] at hm;simp [yH] at hb;exact .inl ⟨rfl,hb.symm⟩
 |some x=>
  cases y with
  |none=>simp [uu] at hm
  |some y=>
   simp only [uu] at hm;have hx:=aq h hm;simp only [yH] at hb;split at hb
   ·rename_i k m hv;simp only [cC] at hb;subst hb;rw [hv] at hx;simp only [PR] at hx;exact .inr ⟨y,k,rfl,hx⟩
   ·cases hb

theorem yU (h:aI F S gb σ a w) {o:Oper} {n:Nat} {x v:X} (hm:dM P F.GL F.N o (.st n x v)=true) {K:St→Prop} (hw:bD (bc P F.GL) (.st n x v) K σ) {K':Act→World→Prop} {Q:Exit→Act→World→Prop}
  (hK: ∀S gb σ a w,aI F S gb σ a w→K σ→K' a w):o.wp P a w K' Q:=by
 simp only [bD] at hw;simp only [dM,aE,bP] at hm;obtain ⟨h1,hm⟩:=hm;split at hm<;>(try cases hm);rename_i t x' v' hop;simp only [aE,bP] at hm;obtain ⟨⟨hsz,hx⟩,hv⟩:=hm;have hx:=aq h hx;have hv:=aq h hv;split at hw
 ·rename_i d off hxe;rw [hxe] at hx;simp only [PR] at hx;obtain ⟨g,z,hg,hit,hxp⟩:=hx;split at hw
  ·rename_i cs hcs;split at hw
   ·rename_i vs hvs;obtain ⟨hl,hle,hk⟩:=hw;obtain ⟨c1,c2⟩:=rY hvs hv;obtain ⟨g',us,T,e1,e3,e0,e4,e5,e6⟩:=h.hr.box d cs hcs hit;rw [hg] at e1;cases e1;have hcl:(a.eval v').cells.toList.length=n:=by rw [←c1.length];exact hl
    have hst:=run_storeCells_at P g off T (a.eval v').cells.toList 0 us w e3 (by rw [hcl];omega) c2;simp only [rI] at hst;refine yT (w':=w.setRow g (us.toList.take off++(a.eval v').cells.toList++us.toList.drop (off+(a.eval v').cells.toList.length)).toArray) ?_ ?_
    ·unfold execOp;have hs2:(a.eval v').cells.size=n:=by simpa using hcl
     simp [hop,hxp,Instr.storeAt,Instr.sureAddr,storeVar,aS hsz,hs2,hst]
    ·rw [h1];have hheap:=setRow_heap w g us (us.toList.take off++(a.eval v').cells.toList++us.toList.drop (off+(a.eval v').cells.toList.length)).toArray T _ e3;have htl:(us.toList.take off).length=off:=by simp;omega
     have hcell: ∀o',¬(off≤o'∧o'<off+n)→(us.toList.take off++(a.eval v').cells.toList++us.toList.drop (off+n)).toArray[o']?=us[o']?:=by
      intro o' hno;simp only [List.getElem?_toArray];rw [jq,List.getElem?_append,htl];by_cases ho:o'<off
      ·rw [if_pos ho,pY,if_pos ho];simp
      ·rw [if_neg ho,List.getElem?_append,hcl,if_neg (by omega),List.getElem?_drop];rw [show off+n+(o' - off - n)=o' by omega];simp
     refine hK S gb _ _ _ (h.setObj (by simp [hcs]) hg e6 (fun k hk=>setRow_other w g k _ hk) (by simp) rfl rfl rfl (cs':=gh cs off vs) (fun _=>⟨_,T,?_,hheap,?_,?_,?_⟩) (fun hi=>by rw [hit] at hi;cases hi) (fun p k hk=>(Dm _ _ _ _ _ hk).1) ?_) hk
     ·congr 1;simp only [List.size_toArray,cG,htl,hcl,uk,oY];omega
     ·simp only [gh,cG,rH,uk,List.size_toArray,hl,hcl,oY];omega
     ·have hlen:(gh cs off vs).length=cs.length:=by simp [gh,hl];omega
      rw [hlen];have hf:=e4.fill (off:=off) c1
      have:(us.toList.take off++(a.eval v').cells.toList++us.toList.drop (off+(a.eval v').cells.toList.length)).take cs.length=(us.toList.take cs.length).take off++(a.eval v').cells.toList++(us.toList.take cs.length).drop (off+(a.eval v').cells.toList.length):=by
       rw [List.take_append,List.take_take,Nat.min_eq_left (by omega:off≤cs.length),List.drop_take];rw [List.take_of_length_le (l:=us.toList.take off++(a.eval v').cells.toList) (by simp [hcl];omega)];congr 1
       rw [cG,htl,hcl]
      simp only [List.toList_toArray];rw [this];exact hf
     ·intro u hu;simp only [iB] at hu;rcases hu with (hu|hu)|hu
      ·exact e5 u (A5 hu)
      ·exact c2 u hu
      ·exact e5 u (List.mem_of_mem_drop hu)
     ·intro o' k hk;have hno:=(Dm _ _ _ _ _ hk).2 o' rfl;rw [cell_of_row _ g o' _ T _ hheap,cell_of_row w g o' us T _ e3,hcl];exact hcell o' hno
   ·cases hw
  ·cases hw
 ·cases hw

theorem ld (h:aI F S gb σ a w) {sz:Nat}: ∀ {ps:List X} {ys:List Operand} {rows:List (List AV)},jh F.GL ps ys=true→rK σ sz ps=some rows→
  aa S fK rows.flatten (ys.flatMap fun y=>(a.eval y).cells.toList)∧(∀u∈(ys.flatMap fun y=>(a.eval y).cells.toList),u.oneCell'=true)∧(∀r∈rows,r.length=sz)∧(∀y∈ys,(a.eval y).cells.size=sz)∧rows.length=ys.length
 |[],ys,rows,hm,hr=>by
  cases ys<;>simp [jh] at hm;simp [rK] at hr;subst hr;simp [aa]
 |x::r,ys,rows,hm,hr=>by
  cases ys with
  |nil=>simp [jh] at hm
  |cons y ys=>
   simp only [jh,aE] at hm;simp only [rK] at hr;split at hr
   ·rename_i cs hcs;split at hr
    ·rename_i cs' rs e1 e2;split at hr
     ·rename_i hl;simp only [cC] at hr;subst hr;obtain ⟨c1,c2⟩:=rY hcs (aq h hm.1);obtain ⟨g1,g2,g3,g4,g5⟩:=ld h hm.2 e2;have c3:=lJ _ _ _ e1 c1;have hsz:(a.eval y).cells.size=sz:=by rw [←oY,←c3.length];exact hl
      refine ⟨by simpa using c3.append g1,?_,?_,?_,by simp [g5]⟩
      ·intro u hu;simp only [List.flatMap_cons,iB] at hu;rcases hu with hu|hu
       ·exact c2 u hu
       ·exact g2 u hu
      ·simpa [hl] using g3
      ·simpa [hsz] using g4
     ·cases hr
    ·cases hr
   ·cases hr

theorem p6 (h:aI F S gb σ a w) {sz:Nat}: ∀ {ps:List X} {ys:List Operand} {rows:List (List AV)},jh F.GL ps ys=true→uO σ sz ps=some rows→
  aa S gb rows.flatten (ys.flatMap fun y=>(a.eval y).cells.toList)∧(∀u∈(ys.flatMap fun y=>(a.eval y).cells.toList),u.oneCell'=true)∧(∀r∈rows,r.length=sz)∧(∀y∈ys,(a.eval y).cells.size=sz)∧rows.length=ys.length
 |[],ys,rows,hm,hr=>by
  cases ys<;>simp [jh] at hm;simp [uO] at hr;subst hr;simp [aa]
 |x::r,ys,rows,hm,hr=>by
  cases ys with
  |nil=>simp [jh] at hm
  |cons y ys=>
   simp only [jh,aE] at hm;simp only [uO] at hr;split at hr
   ·rename_i cs rs hcs e2;split at hr
    ·rename_i hl;simp only [cC] at hr;subst hr;obtain ⟨c1,c2⟩:=rY hcs (aq h hm.1);obtain ⟨g1,g2,g3,g4,g5⟩:=p6 h hm.2 e2;have hsz:(a.eval y).cells.size=sz:=by rw [←oY,←c1.length];exact hl
     refine ⟨by simpa using c1.append g1,?_,?_,?_,by simp [g5]⟩
     ·intro u hu;simp only [List.flatMap_cons,iB] at hu;rcases hu with hu|hu
      ·exact c2 u hu
      ·exact g2 u hu
     ·simpa [hl] using g3
     ·simpa [hsz] using g4
    ·cases hr
   ·cases hr
theorem p7 (S:aM): ∀(l:List UInt8),aa S fK (ag l).flatten (l.map fun b=>Value.int .u8 (b.toNat:Int))
 |[]=>by simp [ag,aa]
 |b::r=>by
  have:=p7 S r
  simp only [ag,iP,List.flatten_cons,List.singleton_append] at this ⊢;exact ⟨_,_,rfl,by simp [PR],this⟩
theorem Bp {S:aM} {i:TypeInfo} {z':Value} {z:List AV} {sz:Nat} (hsize:i.size=sz) (hzs:z'.cells.size=sz) (hone:(z'.cells.toList.all (·.oneCell'))=true) (hcz:qM z z'.cells.toList=true) {ln cn:Nat} (hlc:ln≤cn) (hsz0:0<sz):
 ((List.replicate ln z).flatten).length=ln*sz∧aa S fK (List.replicate ln z).flatten ((madeCells z'.cells (cn*i.size)).toList.take (ln*sz))∧(∀u∈(madeCells z'.cells (cn*i.size)).toList,u.oneCell'=true)∧(madeCells z'.cells (cn*i.size)).size=cn*sz:=by
  have zrel:=ep (S:=S) (gb:=fK) _ _ hcz;have hzl:z.length=sz:=by rw [zrel.length];simpa using hzs
  have hflat: ∀n,aa S fK (List.replicate n z).flatten (List.replicate n z'.cells.toList).flatten:=by
   intro n;induction n with
   |zero=>simp [aa]
   |succ n ih=>simp only [List.replicate_succ,List.flatten_cons];exact zrel.append ih
  have hmade: ∀n m,n≤m→(madeCells z'.cells (m*sz)).toList.take (n*sz)=(List.replicate n z'.cells.toList).flatten:=by
   intro n m hnm;apply List.ext_getElem?;intro j;rw [pY];have hfl:((List.replicate n z'.cells.toList).flatten).length=n*sz:=by simp [hzs]
   split
   ·rename_i hj;have hjm:j<m*sz:=vX hj (Nat.mul_le_mul_right _ hnm);have hpos:0<sz:=by omega
    have e1:(madeCells z'.cells (m*sz)).toList[j]?=some (z'.cells[j%sz]!):=by
     simp [madeCells,hjm,hzs]
    rw [e1]
    have: ∀n j,j<n*sz→((List.replicate n z'.cells.toList).flatten)[j]?=some (z'.cells[j%sz]!):=by
     intro n;induction n with
     |zero=>intro j hj;simp at hj
     |succ n ih=>
      intro j hj;simp only [List.replicate_succ,List.flatten_cons];rw [List.getElem?_append];have hll:z'.cells.toList.length=sz:=by simpa using hzs
      rw [hll];by_cases hjs:j<sz
      ·rw [if_pos hjs,nE hjs]
       have:j<z'.cells.size:=by omega
       simp [this]
      ·rw [if_neg hjs,ih (j - sz) (by rw [Nat.add_mul] at hj;omega)];congr 2
       rw [Nat.mod_eq_sub_mod (by omega:sz≤j)]
    rw [this n j hj]
   ·rename_i hj;rw [EG (by omega)]
  refine ⟨by simp [hzl],?_,?_,by rw [size_madeCells,hsize]⟩
  ·rw [hsize,hmade ln cn hlc];exact hflat ln
  ·intro u hu;have hall:=hmade cn cn (eI _);rw [hsize] at hu;rw [List.take_of_length_le (by rw [oY,size_madeCells];omega)] at hall;rw [hall] at hu;simp only [List.mem_flatten,List.mem_replicate] at hu;obtain ⟨l,⟨_,rfl⟩,hu⟩:=hu;exact gE.1 hone u hu
theorem mq {z:Array Value} {n:Nat} (hz:0<z.size) (h1: ∀u∈z.toList,u.oneCell'=true): ∀u∈(Builtin.zeroCells z n).toList,u.oneCell'=true:=by
 intro u hu;simp only [Builtin.zeroCells,Array.toList_map,vY] at hu;obtain ⟨i,_,rfl⟩:=hu;have hlt:i%z.size<z.size:=Nat.mod_lt _ hz;rw [getElem!_pos z _ hlt];exact h1 _ (by simp)
theorem iG {GL:List (Nat×List Value)}: ∀ {xs:List X} {ys:List Operand},jh GL xs ys=true→ ∀ {i t:Nat},xs[i]?=some (X.s t)→(ys.map a.eval)[i]?=some (tv a t)
 |[],ys,hm,i,t,hi=>by simp at hi
 |x::r,ys,hm,i,t,hi=>by
  cases ys with
  |nil=>simp [jh] at hm
  |cons y s=>
   simp only [jh,aE] at hm;cases i with
   |zero=>
    simp at hi;subst hi;cases y<;>simp [mX] at hm;rw [hm.1];rfl
   |succ i=>simp at hi ⊢;have:=iG hm.2 hi;simpa using this
theorem p8 (h:aI F S gb σ a w) {o:Oper} {d dn f:Nat} {I:In} {O:cK} (h2:d<F.N) (h1:o.dst=some d) {xs:List X} {vs:List Value} (hl:aa S gb (xs.map σ.v) vs) (hsl: ∀(i t:Nat),xs[i]?=some (X.s t)→vs[i]?=some (tv a t))
  (hrun:(execOp a.eval o).run P w=(callFunc f vs.toArray).run P w) {K:St→Prop} (hspec:bc P F.GL f dn I O) (hc:dt dn σ xs I O) (hk:K (bm d σ xs I O)) {K':Act→World→Prop} {Q:Exit→Act→World→Prop}
  (hK: ∀S gb σ a w,aI F S gb σ a w→K σ→K' a w):o.wp P a w K' Q:=by
 have hent:=gn h hc hl hsl;have hvs:aa S gb I.vs vs:=o6 hc.vs hl;have hglo: ∀i us,F.GL.lookup i=some us→ ∀(o:Nat) (u:Value),us[o]?=some u→S i o=some u∧u.oneCell'=true:=fun i us hi o u hu=>⟨h.le _ _ _ (h.glo i us hi o u hu).1,(h.glo i us hi o u hu).2⟩
 have hgn: ∀i,i.isNw dn=true→gb i=none:=by
  intro i hi;cases hg:gb i with
  |none=>rfl
  |some x=>
   rcases h.dom i (by rw [hg];simp) with h1|h1
   ·obtain ⟨cs,hcs⟩:=iT.1 h1
    have:=hc.free _ (cM _ _ _ hcs)
    simp only at this;rw [this] at hi;cases hi
   ·cases i<;>simp [Id.isUp,Id.isNw] at h1 hi
 have hd:=hspec S gb w vs hvs hent hglo hgn;have next: ∀u w',(∃S' gb',dH dn I O S gb (fun t=>vs.getD t undef) w S' gb' u w')→K' (a.put o.dst u) w':=by
  rintro u w' ⟨S',gb',hp⟩;rw [h1];exact hK _ _ _ _ _ (h.call h2 hc hl hsl hp) hk
 unfold Oper.wp;rw [hrun];unfold k9 at hd;split at hd
 ·rename_i u w' he;rw [he];exact next u w' hd
 ·rename_i f' as' w' he;rw [he];simp only [Oper.upon_enter];refine hd.mono ?_;rintro e w'' ⟨u,rfl,hu⟩;exact next u w'' hu
 ·exact hd.elim

theorem lf (h:aI F S gb σ a w) {o:Oper} {d f:Nat} (h2:d<F.N) (h1:o.dst=some d) {xs:List X} {vs:List Value} (hl:aa S gb (xs.map σ.v) vs) (hsl: ∀(i t:Nat),xs[i]?=some (X.s t)→vs[i]?=some (tv a t))
  (hrun:(execOp a.eval o).run P w=(callFunc f vs.toArray).run P w) {K:St→Prop} (hw:MC (bc P F.GL) f d xs K σ) {K':Act→World→Prop} {Q:Exit→Act→World→Prop}
  (hK: ∀S gb σ a w,aI F S gb σ a w→K σ→K' a w):o.wp P a w K' Q:=by
 obtain ⟨I,O,hspec,hc,hk⟩:=hw;exact p8 h h2 h1 hl hsl hrun hspec hc hk hK

theorem lg: ∀(l:List AV),qU l l
 |[]=>trivial
 |v::r=>⟨.inl rfl,lg r⟩
def LM:Id→Nat
 | .nw d _=>d+1
 |_=>0
theorem yV: ∀(l:List (Id×List AV)),∃m,∀p∈l,∀e,m≤e→p.1.isNw e=false
 |[]=>⟨0,fun p hp=>by simp at hp⟩
 |(i,cs)::r=>by
  obtain ⟨m,hm⟩:=yV r;refine ⟨max m (LM i),fun p hp e he=>?_⟩;rcases jU.1 hp with rfl|hp
  ·cases i<;>simp [Id.isNw,LM] at he ⊢;omega
  ·exact hm p hp e (by omega)
theorem lL (h:aI F S gb σ a w) {o:Oper} {ao:bz} (hm:dM P F.GL F.N o ao=true) {K:St→Prop} (hw:bD (bc P F.GL) ao K σ) {K':Act→World→Prop} {Q:Exit→Act→World→Prop}
    (hK: ∀S gb σ a w,aI F S gb σ a w→K σ→K' a w):o.wp P a w K' Q:=by
  have pure: ∀d v,ev σ ao=some (d,v)→K (σ.put d v)→o.wp P a w K' Q:=by
    intro d v he hk
    obtain ⟨h1,h2,u,h3,h4⟩:=rZ h hm he
    refine aZ h3 ?_
    rw [h1]
    exact hK _ _ _ _ _ (h.put h2 h4) hk
  cases ao
  case mo d s=>
    simp only [bD] at hw
    simp only [dM,aE,an] at hm
    obtain ⟨⟨h1,h2⟩,hm⟩:=hm
    split at hw
    · rename_i k hk
      have hop:(execOp a.eval o).run P w= .ok (.value (a.tmps.getD s undef)) w:=by
        unfold execOp
        split at hm
        · rename_i t hop;simp only [bP] at hm;subst hm;simp only [hop];rfl
        · rename_i t hop;simp only [bP] at hm;subst hm;simp only [hop];rfl
        · cases hm
      refine aZ hop ?_
      rw [h1]
      refine hK S gb ((⟨σ.e,σ.bx,dl σ.pm (.s s)⟩:St).puto d (lk σ.e s) k) _ _ ?_ hw
      refine (h.drop (.s s)).puto h2 (h.env s) (h.hr.own _ _ hk) (fun g hg=>h.newo _ _ g hk hg) ?_ (fun b d' z hb=>h.hr.ownb _ _ b d' z hk hb)
      intro p l b hl _ hb hb2
      simp only [jg] at hl
      split at hl
      · cases hl
      · rename_i hne
        exact hne (h.hr.ownd p (.s s) l k b hl hk hb hb2)
    · have hop:(execOp a.eval o).run P w= .ok (.value (a.tmps.getD s undef)) w:=by
        unfold execOp
        split at hm
        · rename_i t hop;simp only [bP] at hm;subst hm;simp only [hop];rfl
        · rename_i t hop;simp only [bP] at hm;subst hm;simp only [hop];rfl
        · cases hm
      refine aZ hop ?_
      rw [h1]
      exact hK _ _ _ _ _ (h.put h2 (h.env s)) hw
  case al d z=>
    simp only [bD] at hw
    simp only [dM,aE,an] at hm
    obtain ⟨⟨h1,h2⟩,hm⟩:=hm
    split at hm<;>(try cases hm)
    rename_i t hop
    split at hm<;>(try cases hm)
    rename_i i hi
    split at hm<;>(try cases hm)
    rename_i z' hz
    simp only [aE] at hm
    split at hw
    · rename_i hn
      refine aZ (u:= .pointer (some ⟨w.heap.size,0,none⟩)) (w':=w.alloc (.cells z'.cells t)) ?_ ?_
      · unfold execOp
        simp [hop,Instr.alloc,zeroValue,typeInfo,hi,hz,newVar,newRow]
      · rw [h1]
        have hz:=ep (S:=S) (gb:=gb) _ _ hm.2
        have hl:z.length=z'.cells.size:=by rw [hz.length];simp
        exact hK _ _ _ _ _ (h.newBox h2 rfl hn (z:=⟨z'.cells.size,t⟩) ⟨fun _=>⟨z'.cells,t,rfl,rfl,by omega,by rw [hl,←oY,qJ];exact hz,fun u hu=>gE.1 hm.1 u hu⟩,fun hi=>by cases hi⟩ (by simp only [PR];exact ⟨w.heap.size,⟨z'.cells.size,t⟩,by simp [fh],rfl,rfl⟩)) hw
    · cases hw
  case alT d T off z=>
    simp only [bD] at hw
    simp only [dM,aE,an] at hm
    obtain ⟨⟨h1,h2⟩,hm⟩:=hm
    split at hm<;>(try cases hm)
    rename_i t hop
    simp only [aE,bP,o5] at hm
    obtain ⟨⟨⟨rfl,hoff⟩,hnil⟩,hm⟩:=hm
    split at hm<;>(try cases hm)
    rename_i i hi
    split at hm<;>(try cases hm)
    rename_i z' hz
    simp only [aE,bP] at hm
    obtain ⟨⟨hm1,hm2⟩,hm3⟩:=hm
    split at hnil<;>(try cases hnil)
    rename_i hnil
    split at hw
    · rename_i hn
      refine aZ (u:= .pointer (some ⟨w.heap.size,0,none⟩)) (w':=w.alloc (.cells z'.cells t)) ?_ ?_
      · unfold execOp
        simp [hop,Instr.alloc,zeroValue,typeInfo,hi,hz,newVar,newRow]
      · rw [h1]
        have hz:=ep (S:=S) (gb:=fh gb (.n d) w.heap.size ⟨z'.cells.size,t⟩) _ _ hm2
        have hl:z.length=z'.cells.size:=by rw [hz.length];simp
        refine hK _ _ _ _ _ (h.newBoxT h2 rfl hn (z:=⟨z'.cells.size,t⟩) ⟨fun _=>⟨z'.cells,t,rfl,rfl,by simp;omega,?_,fun u hu=>gE.1 hm1 u hu⟩,fun hi=>by cases hi⟩ (by simp only [PR];exact ⟨w.heap.size,⟨z'.cells.size,t⟩,by simp [fh],rfl,rfl⟩)) hw
        have htk:z'.cells.toList.take (z.set off (AV.nilT (Id.n d) t z.length)).length=z'.cells.toList:=by rw [List.length_set,hl,←oY,qJ]
        rw [htk,hl]
        exact aa.setNil (g:=w.heap.size) (by simp [fh]) hz hnil
    · cases hw
  case bx d x=>
    simp only [bD] at hw
    simp only [dM,aE,an] at hm
    obtain ⟨⟨h1,h2⟩,hm⟩:=hm
    split at hm<;>(try cases hm)
    rename_i t x' hop
    have hx:=aq h hm
    split at hw
    · rename_i hn
      split at hw
      · rename_i cs hcs
        obtain ⟨c1,c2⟩:=rY hcs hx
        refine aZ (u:= .pointer (some ⟨w.heap.size,0,none⟩)) (w':=w.alloc (.cells (a.eval x').cells t)) ?_ ?_
        · unfold execOp
          simp [hop,Instr.box,newVar,newRow]
        · rw [h1]
          have hl:cs.length=(a.eval x').cells.size:=by rw [c1.length];simp
          exact hK _ _ _ _ _ (h.newBox h2 rfl hn (z:=⟨(a.eval x').cells.size,t⟩) ⟨fun _=>⟨_,t,rfl,rfl,by omega,by rw [hl,←oY,qJ];exact c1,c2⟩,fun hi=>by cases hi⟩ (by simp only [PR];exact ⟨w.heap.size,⟨(a.eval x').cells.size,t⟩,by simp [fh],rfl,rfl⟩)) hw
      · cases hw
    · cases hw
  case bxT d T off x=>
    simp only [bD] at hw
    simp only [dM,aE,an] at hm
    obtain ⟨⟨h1,h2⟩,hm⟩:=hm
    split at hm<;>(try cases hm)
    rename_i t x' hop
    simp only [aE,bP] at hm
    obtain ⟨rfl,hm⟩:=hm
    have hx:=aq h hm
    split at hw
    · rename_i hn
      split at hw
      · rename_i cs hcs
        split at hw
        · rename_i hnil
          obtain ⟨c1,c2⟩:=rY hcs hx
          refine aZ (u:= .pointer (some ⟨w.heap.size,0,none⟩)) (w':=w.alloc (.cells (a.eval x').cells t)) ?_ ?_
          · unfold execOp
            simp [hop,Instr.box,newVar,newRow]
          · rw [h1]
            have hl:cs.length=(a.eval x').cells.size:=by rw [c1.length];simp
            have hgd:gb (.n d)=none:=by
              cases hg:gb (.n d) with
              |none=>rfl
              | some g => rcases h.dom (.n d) (by rw [hg]; simp) with h3 | h3
                          · rw [hn] at h3;cases h3
                          · cases h3
            have hle:gb.le (fh gb (.n d) w.heap.size ⟨(a.eval x').cells.size,t⟩):=fun d' g hg=>by
              simp only [fh]
              split
              · rename_i e;subst e;rw [hgd] at hg;cases hg
              · exact hg
            refine hK _ _ _ _ _ (h.newBoxT h2 rfl hn (z:=⟨(a.eval x').cells.size,t⟩) ⟨fun _=>⟨_,t,rfl,rfl,by simp;omega,?_,c2⟩,fun hi=>by cases hi⟩ (by simp only [PR];exact ⟨w.heap.size,⟨(a.eval x').cells.size,t⟩,by simp [fh],rfl,rfl⟩)) hw
            have htk:(a.eval x').cells.toList.take (cs.set off (AV.nilT (Id.n d) t cs.length)).length=(a.eval x').cells.toList:=by rw [List.length_set,hl,←oY,qJ]
            rw [htk,hl]
            exact aa.setNil (g:=w.heap.size) (by simp [fh]) (aa.mono (aM.le.refl _) hle _ _ c1) hnil
        · cases hw
      · cases hw
    · cases hw
  case bs d sz ps=>
    simp only [bD] at hw
    simp only [dM,aE,an] at hm
    obtain ⟨⟨h1,h2⟩,hm⟩:=hm
    split at hm<;>(try cases hm)
    rename_i t n ps' hop
    simp only [aE,bP,yG,cI,ne_eq] at hm
    obtain ⟨⟨⟨⟨hu,hsz0⟩,hn⟩,hle⟩,hps⟩:=hm
    obtain ⟨hsz0,hkb⟩:=wA.1 hsz0
    split at hu<;>(try cases hu)
    rename_i e hu'
    split at hu<;>(try cases hu)
    rename_i i hi
    simp only [aE,bP] at hu
    obtain ⟨hsize,hz⟩:=hu
    split at hz<;>(try cases hz)
    rename_i z hz'
    simp only [bP] at hz
    split at hps<;>(try cases hps)
    rename_i ys hys
    have hpl:=mR hys
    split at hw
    · rename_i rows hrows
      obtain ⟨r1,r2,r3,r4,r5⟩:=nO h hps hrows
      have hlen:n=ys.length:=by
        rw [hn]
        have: ∀(ps:List X) (ys:List Operand),jh F.GL ps ys=true→ps.length=ys.length:=by
          intro ps;induction ps with
          |nil=>intro ys hh;cases ys<;>simp [jh] at hh ⊢
          |cons x r ih=>intro ys hh;cases ys with
            |nil=>simp [jh] at hh
            |cons y s=>simp [jh] at hh;simp [ih s hh.2]
        exact this _ _ hps
      obtain ⟨us,f1,f2⟩:=nP sz (ys.map a.eval) 0 ((Array.range (n*sz)).map (z.cells[· %z.cells.size]!)) (by simpa using r4) (by simp [hlen])
      simp only [Nat.zero_mul,JG,bR,List.flatMap_map] at f2
      have hfl:(Array.map (fun x=>(x.1,a.eval x.2)) ps').toList=((ys.map a.eval).zipIdx.map fun x=>(x.2,x.1)):=by
        rw [Array.toList_map,hpl,List.map_map,List.zipIdx_map,List.map_map]
        rfl
      have hble:n*sz≤16777216:=Nat.le_of_ble_eq_true hle
      refine aZ (u:= .slice (some ⟨w.heap.size,0,none⟩) n n) (w':=w.alloc (.cells us e)) ?_ ?_
      · unfold execOp
        simp only [hop,Instr.buildSlice,Sem.run_bind,run_underlying hu',Result.andThen_ok,sizeOf,typeInfo,run_program,hi,Sem.run_pure,hsize]
        rw [if_neg (by omega)]
        by_cases h0:n*sz=0
        · have hn0:n=0:=by rcases Nat.mul_eq_zero.1 h0 with h|h;exact h;exact absurd h hsz0
          have hys0:ys=[]:=AN (by omega)
          subst hys0
          simp only [xQ,List.zipIdx_nil] at hfl f1
          have hus:us= #[]:=by
            have:us.toList=[]:=by simpa using f2
            cases us;simp_all
          have hps0:ps'= #[]:=by cases ps';simpa using hfl
          simp [hn0,hps0,Array.range_zero',Instr.fill,newRow,hus]
        · simp only [h0,if_false,zeroValue,Sem.run_bind,typeInfo,run_program,Result.andThen_ok,hi,hz',Sem.run_pure]
          rw [hfl]
          rw [f1]
          simp [newRow]
      · rw [h1]
        have hus2:us.toList=ys.flatMap fun y=>(a.eval y).cells.toList:=f2
        obtain ⟨S',hS'⟩:=h.newOwn h2 us e (rows:=rows) (us:=us.toList) (k:=sz) (cap:=n) hkb r3 (by rw [hus2];exact r1) (by rw [hus2];exact r2) qJ (by
          refine Nat.le_of_eq (Eq.symm ?_)
          rw [←oY,hus2,←r1.length,a8 r3,r5,hlen]) (by omega) (by unfold maxLen;have:n≤n*sz:=Nat.le_mul_of_pos_right _ (by omega);omega)
        refine hK S' gb _ _ _ ?_ hw
        rw [show n=rows.length by rw [r5,hlen]] at hS' ⊢
        exact hS'
    · cases hw
  case st n x v=>exact yU h hm hw hK
  case lo d x=>
    have hm0:dM P F.GL F.N o (.lds d x)=true:=hm
    simp only [bD] at hw
    simp only [dM,aE,an] at hm
    obtain ⟨⟨h1,h2⟩,hm⟩:=hm
    split at hm<;>(try cases hm)
    rename_i t x' hop
    simp only [aE] at hm
    have hx:=aq h hm.2
    have plain: ∀v,fb σ.bx (σ.v x)=some v→K (σ.put d v)→o.wp P a w K' Q:=by
      intro v hv hk
      obtain ⟨h1,h2,u,h3,h4⟩:=rZ h hm0 (d:=d) (v:=v) (by simp only [ev,hv])
      refine aZ h3 ?_
      rw [h1]
      exact hK _ _ _ _ _ (h.put h2 h4) hk
    split at hw
    · rename_i b off hxe
      rw [hxe] at hx
      split at hw
      · rename_i cs hcs
        split at hw
        · rename_i v hv
          split at hw
          · rename_i k hk
            have hx':=hx
            simp only [PR] at hx
            obtain ⟨g,z,hg,hit,hxp⟩:=hx
            obtain ⟨us,b1,b2,b3⟩:=h.boxcell hcs hit hg
            obtain ⟨u,hu,hp⟩:=b2.get hv
            have hcell:=b1 off u hu
            have hpl:cf gb (tv a) w (.b b off)=u:=by simp [cf,hg,hcell]
            refine aZ (u:=u) (w':=w) ?_ ?_
            · unfold execOp
              simp [hop,hxp,Instr.loadAt,Instr.sureAddr,loadVar,iU hm.1,hcell]
            · rw [h1]
              refine hK S gb ((⟨σ.e,σ.bx,dl σ.pm (.b b off)⟩:St).puto d v k) _ _ ?_ hw
              have ho:=h.hr.own _ _ hk
              rw [hpl] at ho
              refine (h.drop (.b b off)).puto h2 hp ho (fun g hg=>h.newo _ _ g hk (by rw [hpl];exact hg)) ?_ (fun b' d' z hb=>h.hr.ownb _ _ b' d' z hk (by rw [hpl];exact hb))
              intro p l b' hl _ hb hb2
              simp only [jg] at hl
              split at hl
              · cases hl
              · rename_i hne
                exact hne (h.hr.ownd p (.b b off) l k b' hl hk hb (by rw [hpl];exact hb2))
          · exact plain v (by simp only [fb,hxe,hcs,hv]) hw
        · cases hw
      · cases hw
    · rename_i cs hxe
      split at hw
      · rename_i v hv
        exact plain v (by simp only [fb,hxe,hv]) hw
      · cases hw
    · cases hw
  case so x s=>
    have hm0:=hm
    simp only [bD] at hw
    simp only [dM,aE,bP] at hm
    obtain ⟨h1,hm⟩:=hm
    split at hm<;>(try cases hm)
    rename_i t x' s' hop
    simp only [aE,bP] at hm
    obtain ⟨⟨hsz,rfl⟩,hx⟩:=hm
    have hx:=aq h hx
    split at hw
    · rename_i d off hxe
      rw [hxe] at hx
      simp only [PR] at hx
      obtain ⟨g,z,hg,hit,hxp⟩:=hx
      split at hw
      · rename_i cs hcs
        split at hw
        case h_2=>
          split at hw
          · rename_i vs hvs
            refine yU h (n:=1) (x:=x) (v:= .s s) (K:=K) ?_ ?_ hK
            · simp only [dM,aE,bP,hop] at hm0 ⊢
              exact ⟨hm0.1,⟨hm0.2.1.1,hm0.2.2⟩,by simp [mX]⟩
            · simp only [bD,hxe,hcs]
              simp only [St.v,hvs]
              exact hw
          · cases hw
        rename_i k hk
        obtain ⟨hlt,hk2⟩:=hw
        have hown:=h.hr.own _ _ hk
        have hpv:=h.env s
        generalize huv:tv a s=u at hpv
        have hplu:cf gb (tv a) w (.s s)=u:=huv
        rw [hplu] at hown
        have hone:u.oneCell'=true:=by rcases hown with rfl|⟨_,_,_,_,_,_,rfl,_⟩|⟨_,_,_,_,_,rfl,_⟩<;>rfl
        have hcells:u.cells= #[u]:=by rcases hown with rfl|⟨_,_,_,_,_,_,rfl,_⟩|⟨_,_,_,_,_,rfl,_⟩<;>rfl
        obtain ⟨g',us,T,e1,e3,e0,e4,e5,e6⟩:=h.hr.box d cs hcs hit
        rw [hg] at e1;cases e1
        have hst:=run_storeCells_at P g off T [u] 0 us w e3 (by simp;omega) (by simpa using hone)
        simp only [rI,uc] at hst
        have hset:us.toList.take off++[u]++us.toList.drop (off+1)=us.toList.set off u:=by
          rw [List.set_eq_take_append_cons_drop,if_pos (by simp;omega)];simp
        rw [hset] at hst
        have hheap:(w.setRow g (us.toList.set off u).toArray).heap[g]?=some (.cells (us.toList.set off u).toArray T (0,0)):=setRow_heap w g us _ T _ e3
        refine yT (w':=w.setRow g (us.toList.set off u).toArray) ?_ ?_
        · unfold execOp
          have:a.eval (.tmp s)=u:=huv
          simp [hop,hxp,this,Instr.storeAt,Instr.sureAddr,storeVar,aS hsz,hcells,hst]
        · rw [h1]
          change K' a _
          refine hK S gb _ _ _ ?_ hk2
          have base:=h.setObj (by simp [hcs]) hg e6 (w':=w.setRow g (us.toList.set off u).toArray) (fun k hk=>setRow_other w g k _ hk) (by simp) rfl rfl rfl (cs':=cs.set off (lk σ.e s)) (fun _=>⟨_,T,by simp,hheap,by simpa using e0,by
            have hul:=e4.fill (off:=off) (cs:=[lk σ.e s]) (us:=[u]) ⟨u,[],rfl,hpv,rfl⟩
            have hA:cs.set off (lk σ.e s)=gh cs off [lk σ.e s]:=by
              rw [List.set_eq_take_append_cons_drop,if_pos hlt];simp [gh]
            rw [hA]
            have hB:(us.toList.set off u).take (gh cs off [lk σ.e s]).length=(us.toList.take cs.length).take off++[u]++(us.toList.take cs.length).drop (off+[u].length):=by
              have hl2:(gh cs off [lk σ.e s]).length=cs.length:=by simp [gh];omega
              rw [hl2,List.take_set,List.set_eq_take_append_cons_drop,if_pos (by simp;omega)]
              simp
            simp only [List.toList_toArray]
            rw [hB];exact hul,by
            intro x hx
            simp only [List.toList_toArray] at hx
            rcases List.mem_or_eq_of_mem_set hx with hx|rfl
            · exact e5 x hx
            · exact hone⟩) (fun hi=>by rw [hit] at hi;cases hi) (pm:=dl (dl σ.pm (.s s)) (.b d off)) (fun p l hl=>by
              simp only [jg] at hl
              split at hl
              · cases hl
              · split at hl
                · cases hl
                · exact hl) (fun o' l hl=>by
              simp only [jg] at hl
              split at hl
              · cases hl
              · rename_i hne
                have hne2:off≠o':=fun e=>hne (by rw [e])
                rw [cell_of_row _ g o' _ T _ hheap,cell_of_row w g o' us T _ e3]
                simp only [List.getElem?_toArray,List.getElem?_set_ne hne2];simp)
          have hplb:cf gb (tv a) (w.setRow g (us.toList.set off u).toArray) (.b d off)=u:=by
            simp only [cf,hg]
            rw [cell_of_row _ g off _ T _ hheap]
            simp [show off<us.size by omega]
          have hsame: ∀p l,aD (dl (dl σ.pm (.s s)) (.b d off)) p=some l→cf gb (tv a) (w.setRow g (us.toList.set off u).toArray) p=cf gb (tv a) w p∧aD σ.pm p=some l∧p≠ .s s∧p≠ .b d off:=by
            intro p l hl
            simp only [jg] at hl
            split at hl
            · cases hl
            · rename_i hne
              split at hl
              · cases hl
              · rename_i hne2
                refine ⟨?_,hl,hne2,hne⟩
                cases p with
                |s t=>rfl
                |t t i=>rfl
                |b d' o'=>
                  simp only [cf]
                  cases hq:gb d' with
                  |none=>rfl
                  |some x=>
                    obtain ⟨q,zq⟩:=x
                    simp only []
                    by_cases e:q=g
                    · subst e
                      have:=h.hr.inj d' d q zq _ (h.hr.pmb d' o' l hl).1 (by simp [hcs]) hq hg
                      subst this
                      have hne3:off≠o':=fun e=>hne (by rw [e])
                      rw [cell_of_row _ q o' _ T _ hheap,cell_of_row w q o' us T _ e3]
                      simp only [List.getElem?_toArray,List.getElem?_set_ne hne3];simp
                    · rw [World.cell?_of_block (w:=w) (setRow_other w g q _ e)]
          have hubase: ∀b,u.ownBlock=some b→b≠g:=by
            intro b hb e;subst e
            exact h.hr.ownb _ _ b d _ hk (by rw [hplu];exact hb) (by simp [hcs]) hg
          refine ⟨base.defers,base.size,base.bw,base.ext,base.le,base.env,⟨base.hr.agree,base.hr.box,base.hr.its,base.hr.inj,?_,?_,?_,?_⟩,base.newb,?_,base.dom,base.up,base.glo⟩
          · intro p l hl
            simp only [aD] at hl
            split at hl
            · rename_i e;subst e;simp only [cC] at hl;subst hl
              rw [hplb]
              exact hown.mono (fun q hq=>setRow_other w g q _ (hubase q hq)) (fun _ _ _ hn=>hn)
            · exact base.hr.own p l hl
          · intro p q l m b hl hm2 p1 p2
            simp only [aD] at hl hm2
            split at hl
            · rename_i e;subst e
              split at hm2
              · rename_i e;exact e
              · rename_i e
                rw [hplb] at p1
                obtain ⟨s1,s2,s3,s4⟩:=hsame q m hm2
                rw [s1] at p2
                exact absurd (h.hr.ownd q (.s s) m k b s2 hk p2 (by rw [hplu];exact p1)) s3
            · rename_i e
              split at hm2
              · rename_i e2;subst e2
                rw [hplb] at p2
                obtain ⟨s1,s2,s3,s4⟩:=hsame p l hl
                rw [s1] at p1
                exact absurd (h.hr.ownd p (.s s) l k b s2 hk p1 (by rw [hplu];exact p2)) s3
              · exact base.hr.ownd p q l m b hl hm2 p1 p2
          · intro p l b d' z' hl p1 hd'
            simp only [aD] at hl
            simp only [de (by simp [hcs]:(aw σ.bx d).isSome)] at hd'
            split at hl
            · rename_i e;subst e
              rw [hplb] at p1
              exact h.hr.ownb _ _ b d' z' hk (by rw [hplu];exact p1) hd'
            · exact base.hr.ownb p l b d' z' hl p1 (by simp only [de (by simp [hcs]:(aw σ.bx d).isSome)];exact hd')
          · intro d' o' l hl
            simp only [aD] at hl
            split at hl
            · rename_i e;cases e
              simp only [de (by simp [hcs]:(aw σ.bx d).isSome)]
              exact ⟨by simp [hcs],hit⟩
            · exact base.hr.pmb d' o' l hl
          · intro p l q hl hq
            simp only [aD] at hl
            split at hl
            · rename_i e;subst e
              rw [hplb] at hq
              exact h.newo _ _ q hk (by rw [hplu];exact hq)
            · exact base.newo p l q hl hq
      · cases hw
    · cases hw
  case ap d sz by_ s y=>
    simp only [bD] at hw
    simp only [dM,aE,an] at hm
    obtain ⟨⟨h1,h2⟩,hm⟩:=hm
    split at hm<;>(try cases hm)
    rename_i as ts hop
    split at hm<;>(try cases hm)
    rename_i s' y' t t' has hts
    simp only [aE,bP,yG,cI,ne_eq] at hm
    obtain ⟨⟨⟨⟨⟨rfl,hu⟩,hsz0⟩,hby0⟩,hs⟩,hy⟩:=hm
    obtain ⟨hsz0,hkb⟩:=wA.1 hsz0
    split at hu<;>(try cases hu)
    rename_i e hu'
    split at hu<;>(try cases hu)
    rename_i i hi
    simp only [aE,bP] at hu
    obtain ⟨⟨hsize,hbytes⟩,hz⟩:=hu
    split at hz<;>(try cases hz)
    rename_i z hz'
    simp only [bP] at hz
    have hs':=aq h hs
    have hy':=aq h hy
    have has':as= #[s',y']:=by cases as;simp_all
    have hts':ts= #[t,t]:=by cases ts;simp_all
    subst has';subst hts'
    have hexec: ∀ {u:Value} {w':World},(Builtin.append_ #[t,t] o.type #[a.eval s',a.eval y']).run P w= .ok u w'→(execOp a.eval o).run P w= .ok (.value u) w':=by
      intro u w' hr
      unfold execOp
      simp [hop,resolve,invoke,builtin,hr]
    split at hw
    · rename_i news hnews
      have hyn:=uZ (gb:=gb) (bM _ _ _ hnews hy')
      split at hw
      · rename_i rows t0 hrows
        obtain ⟨w1,w2,w3,w4,w5⟩:=hw
        cases s' with
        |tmp t1=>
          simp only [mX,bP] at hs
          subst hs
          rw [hrows] at hs'
          obtain ⟨u,w',S',g1,g2⟩:=ve (P:=P) h h2 (ty:=o.type) hu' hi hz' hsize hkb hbytes hz (by omega) (by omega) (h.drop (.s t0)) hyn w4 w3 hs' (h.hr.own _ _ w1) (fun g hg=>h.newo _ _ g w1 hg) (by
            intro p l b hl hb hb2
            simp only [jg] at hl
            split at hl
            · cases hl
            · rename_i hne
              exact hne (h.hr.ownd p (.s t0) l sz b hl w1 hb hb2)) (fun b d' z hb=>h.hr.ownb _ _ b d' z w1 hb) w2
          refine aZ (hexec g1) ?_
          rw [h1]
          exact hK _ _ _ _ _ g2 w5
        |const c=>simp [mX] at hs
        |global g=>simp [mX] at hs
        |func g=>simp [mX] at hs
      · rename_i hrows
        obtain ⟨w2,w4,w5⟩:=hw
        rw [hrows] at hs'
        simp only [PR] at hs'
        obtain ⟨u,w',S',g1,g2⟩:=ve (P:=P) h h2 (ty:=o.type) (rows:=[]) hu' hi hz' hsize hkb hbytes hz (by omega) (by omega) h hyn w4 (by simp) (sv:=a.eval s') (by simp only [PR];exact .inl ⟨hs',trivial⟩) (.inl hs') (by
          intro b hb;rw [hs'] at hb;simp [Value.ownBlock] at hb) (by
          intro p l b _ _ hb;rw [hs'] at hb;simp [Value.ownBlock] at hb) (by
          intro b d' z hb;rw [hs'] at hb;simp [Value.ownBlock] at hb) (by simpa using w2)
        refine aZ (hexec g1) ?_
        rw [h1]
        exact hK _ _ _ _ _ g2 (by simpa using w5)
      · cases hw
    · cases hw
  case mk d sz by_ z l c=>exact (show False from hw).elim
  case sls d x lo hi=>
    simp only [bD] at hw
    simp only [dM,aE,an] at hm
    obtain ⟨⟨h1,h2⟩,hm⟩:=hm
    split at hm<;>(try cases hm)
    rename_i t x' lo' hi' hop
    simp only [aE] at hm
    obtain ⟨⟨⟨hu,hx⟩,hlo⟩,hhi⟩:=hm
    have hu':P.underlying t=some .string:=by split at hu<;>simp_all
    have hx':=aq h hx
    split at hw
    · rename_i s hs
      split at hw
      · rename_i l hh hl2 hh2
        obtain ⟨w1,w2,w3,w4⟩:=hw
        rw [hs] at hx'
        simp only [PR] at hx'
        have b1:=iq h hlo hl2
        have b2:=iq h hhi hh2
        have e2:(ByteArray.mk s.toArray).size=s.length:=rfl
        refine aZ (u:= .string ⟨((s.take hh.toNat).drop l.toNat).toArray⟩) (w':=w) ?_ ?_
        · unfold execOp
          simp only [hop,hx',Instr.sliceAt,Instr.slice,Sem.run_bind,run_underlying hu',Result.andThen_ok,Option.map_none,Option.isSome_none,uj,if_false,Instr.sliceBounds,e2]
          rcases b1 with ⟨rfl,rfl⟩|⟨yl,kl,rfl,hyl⟩<;>rcases b2 with ⟨rfl,rfl⟩|⟨yh,kh,rfl,hyh⟩
          · simp [j6]
          · simp [hyh,Instr.sliceBound,asIntOf,w3,show 0≤hh by omega,j6]
          · simp [hyl,Instr.sliceBound,asIntOf,w1,w2,j6]
          · have:l≤(hh.toNat:Int):=by omega
            simp [hyl,hyh,Instr.sliceBound,asIntOf,w1,w3,show 0≤hh by omega,this,j6]
            intro hc;omega
        · rw [h1]
          exact hK _ _ _ _ _ (h.put h2 (by simp [PR])) w4
      · cases hw
    · cases hw
  case slc d sz x lo hi=>
    simp only [bD] at hw
    simp only [dM,aE,an] at hm
    obtain ⟨⟨h1,h2⟩,hm⟩:=hm
    split at hm<;>(try cases hm)
    rename_i t x' lo' hi' hop
    simp only [aE] at hm
    obtain ⟨⟨⟨hu,hx⟩,hlo⟩,hhi⟩:=hm
    obtain ⟨e,hu',hsz⟩: ∃e,P.underlying t=some (.slice e)∧kW P e=some sz:=by
      split at hu<;>simp_all
    have hx':=aq h hx
    split at hw
    · rename_i rows hs
      split at hw
      · rename_i l hh hl2 hh2
        obtain ⟨w1,w2,w3,wr,w4⟩:=hw
        rw [hs] at hx'
        simp only [PR] at hx'
        have b1:=iq h hlo hl2
        have b2:=iq h hhi hh2
        have run: ∀(ad:Option Addr) (cap:Nat),rows.length≤cap→a.eval x'= .slice ad rows.length cap→(execOp a.eval o).run P w= .ok (.value (.slice (if cap=l.toNat then ad else ad.map (·.add (l.toNat*sz))) (hh.toNat - l.toNat) (cap - l.toNat))) w:=by
          intro ad cap hcap hev
          unfold execOp
          simp only [hop,hev,Instr.sliceAt,Instr.slice,Sem.run_bind,run_underlying hu',Result.andThen_ok,Option.map_none,Instr.sliceBounds,aS hsz]
          rcases b1 with ⟨rfl,rfl⟩|⟨yl,kl,rfl,hyl⟩<;>rcases b2 with ⟨rfl,rfl⟩|⟨yh,kh,rfl,hyh⟩
          · simp [aS hsz]
          · simp [hyh,Instr.sliceBound,asIntOf,show hh≤(cap:Int) by omega,show 0≤hh by omega,aS hsz]
          · simp [hyl,Instr.sliceBound,asIntOf,w1,w2,aS hsz]
          · have:l≤(hh.toNat:Int):=by omega
            simp [hyl,hyh,Instr.sliceBound,asIntOf,w1,show hh≤(cap:Int) by omega,show 0≤hh by omega,this,aS hsz]
            intro hc;omega
        have hlen:((rows.take hh.toNat).drop l.toNat).length=hh.toNat - l.toNat:=r6 _ _ _ (by omega) (by omega)
        rcases hx' with ⟨hx',hr⟩|⟨ad,cap,k,hx',hcap,hr⟩
        · subst hr
          simp only [vZ] at w3
          have hl0:l.toNat=0:=by omega
          have hh0:hh.toNat=0:=by omega
          refine aZ (run none 0 (by simp) hx') ?_
          rw [h1]
          refine hK _ _ _ _ _ (h.put h2 ?_) w4
          simp only [PR]
          exact .inl ⟨by simp [hl0,hh0],by simp⟩
        · refine aZ (run (some ad) cap hcap hx') ?_
          rw [h1]
          refine hK _ _ _ _ _ (h.put h2 ?_) w4
          simp only [PR]
          right
          by_cases hcl:cap=l.toNat
          · refine ⟨ad,cap - l.toNat,k,by rw [if_pos hcl,hlen],by rw [hlen];omega,.inl ?_⟩
            apply AN
            rw [hlen];omega
          · refine ⟨ad.add (l.toNat*sz),cap - l.toNat,k,by rw [if_neg hcl,hlen];rfl,by rw [hlen];omega,?_⟩
            by_cases hne:(rows.take hh.toNat).drop l.toNat=[]
            · exact .inl hne
            · right
              rcases hr with hr|⟨hsp,hr⟩
              · subst hr;simp at hne
              · obtain ⟨bk,of,sp⟩:=ad
                simp only at hsp hr
                subst hsp
                rw [Addr.add_lit]
                refine ⟨rfl,?_⟩
                have hk:k=sz:=by
                  cases rows with
                  |nil=>simp at hne
                  |cons r rs=>
                    simp only [aU] at hr
                    rw [←hr.1];exact wr r (by simp)
                subst hk
                exact (hr.take _).drop _
      · cases hw
    · cases hw
  case cl d f xs=>
    simp only [bD] at hw
    simp only [dM,aE,an] at hm
    obtain ⟨⟨h1,h2⟩,hm⟩:=hm
    split at hm<;>(try cases hm)
    rename_i f' as ts hop
    simp only [aE,bP] at hm
    obtain ⟨rfl,hxs⟩:=hm
    split at hw
    · rename_i as' has
      obtain ⟨r,hspec,hk⟩:=hw
      have hl:=dy h hxs
      have hl0:=jx _ _ _ has hl
      have hent:HR S fK [] [] (fun t=>(List.map a.eval as.toList).getD t undef) w:=⟨h.hr.agree,fun d cs hcs=>by simp [aw] at hcs,fun d cs hcs=>by simp [aw] at hcs,fun d d' g z z' hd=>by simp [aw] at hd,fun p k hp=>by simp [aD] at hp,fun p q k l b hp=>by simp [aD] at hp,fun p k b d z hp=>by simp [aD] at hp,fun d off k hp=>by simp [aD] at hp⟩
      have hglo: ∀i us,F.GL.lookup i=some us→ ∀(o:Nat) (u:Value),us[o]?=some u→S i o=some u∧u.oneCell'=true:=fun i us hi o u hu=>⟨h.le _ _ _ (h.glo i us hi o u hu).1,(h.glo i us hi o u hu).2⟩
      have hd:=hspec d S fK w _ hl0 hent hglo (fun _ _=>rfl)
      have harr:(List.map a.eval as.toList).toArray=as.map a.eval:=by
        apply Array.ext';simp
      rw [harr] at hd
      have hrun:(execOp a.eval o).run P w=(callFunc f (as.map a.eval)).run P w:=by
        unfold execOp
        simp [hop,resolve,Act.eval,Deferred.ofValue,invoke]
      have next: ∀u w',(∃S' gb',dH d ⟨as',[],[]⟩ ⟨r,[],[]⟩ S fK (fun t=>(List.map a.eval as.toList).getD t undef) w S' gb' u w')→K' (a.put o.dst u) w':=by
        rintro u w' ⟨S',gb',hp⟩
        have hM: ∀g,¬MS ⟨as',[],[]⟩ fK (fun t=>(List.map a.eval as.toList).getD t undef) w g:=by
          rintro g (⟨e,z,h1,_⟩|⟨p,k,h1,_⟩)
          · simp [aw] at h1
          · simp [aD] at h1
        have hgb:gb'=fK:=by
          funext i
          cases hi:i.isNw d with
          |false=>exact hp.same i hi
          |true=>
            cases hq:gb' i with
            |none=>rfl
            |some x=>have:=hp.nw i hi (by rw [hq];simp);simp [aw] at this
        subst hgb
        rw [h1]
        exact hK _ _ _ _ _ ((h.step (S':=S') ⟨hp.bw.os,hp.bw.tape,hp.bw.output,hp.bw.size,fun k hk=>hp.bw.block k hk (hM k)⟩ (fun g o hg=>hp.ext g o hg (hM g)) hp.le hp.hr.agree).put h2 (uZ hp.r)) hk
      unfold Oper.wp
      rw [hrun]
      unfold k9 at hd
      split at hd
      · rename_i u w' he
        rw [he]
        exact next u w' hd
      · rename_i f' as' w' he
        rw [he]
        simp only [Oper.upon_enter]
        refine hd.mono ?_
        rintro e w'' ⟨u,rfl,hu⟩
        exact next u w'' hu
      · exact hd.elim
    · cases hw
  case ce d f xs=>
    simp only [bD] at hw
    simp only [dM,aE,an] at hm
    obtain ⟨⟨h1,h2⟩,hm⟩:=hm
    split at hm<;>(try cases hm)
    rename_i f' as ts hop
    simp only [aE,bP] at hm
    obtain ⟨rfl,hxs⟩:=hm
    refine lf h h2 h1 (dy h hxs) (fun i t hi=>iG hxs hi) ?_ hw hK
    have harr:(List.map a.eval as.toList).toArray=as.map a.eval:=by
      apply Array.ext';simp
    rw [harr]
    unfold execOp
    simp [hop,resolve,Act.eval,Deferred.ofValue,invoke]
  case cq d f xs fr=>
    simp only [bD] at hw
    obtain ⟨I,O,q1,q2,-,q4⟩:=hw
    simp only [dM,aE,an] at hm
    obtain ⟨⟨h1,h2⟩,hm⟩:=hm
    split at hm<;>(try cases hm)
    rename_i f' as ts hop
    simp only [aE,bP] at hm
    obtain ⟨rfl,hxs⟩:=hm
    refine lf h h2 h1 (dy h hxs) (fun i t hi=>iG hxs hi) ?_ ⟨I,O,q1,q2,q4⟩ hK
    have harr:(List.map a.eval as.toList).toArray=as.map a.eval:=by
      apply Array.ext';simp
    rw [harr]
    unfold execOp
    simp [hop,resolve,Act.eval,Deferred.ofValue,invoke]
  case ca d f s ps=>
    simp only [bD] at hw
    simp only [dM,aE,an] at hm
    obtain ⟨⟨h1,h2⟩,hm⟩:=hm
    split at hm<;>(try cases hm)
    rename_i f' as ts hop
    simp only [aE,bP] at hm
    obtain ⟨rfl,hxs⟩:=hm
    obtain ⟨k,out,hc,hk⟩:=hw
    obtain ⟨m,hfree⟩:=yV σ.bx
    have hrun:(execOp a.eval o).run P w=(callFunc f (List.map a.eval as.toList).toArray).run P w:=by
      have harr:(List.map a.eval as.toList).toArray=as.map a.eval:=by
        apply Array.ext';simp
      rw [harr]
      unfold execOp
      simp [hop,resolve,Act.eval,Deferred.ofValue,invoke]
    have fin: ∀(I:In) (O:cK),bc P F.GL f m I O→qU ((s.toList++ps).map σ.v) I.vs→I.bx=[]→O.bx=[]→(∀p∈I.pm,um σ (s.toList++ps) I p)→kB (s.toList++ps) I.pm→K (bm d σ (s.toList++ps) I O)→o.wp P a w K' Q:=by
      intro I O hs hv hb1 hb2 hp ho hk
      refine p8 h h2 h1 (dy h hxs) (fun i t hi=>iG hxs hi) hrun hs ⟨hv,?_,hp,ho,?_,?_,?_⟩ hk hK
      · rw [hb1];intro p hp;simp at hp
      · rw [hb1];intro p hp;simp at hp
      · rw [hb2];intro p hp;simp at hp
      · intro p hp;exact hfree p hp m (eI _)
    cases s with
    |none=>
      simp only [JV,A8] at hc
      exact fin _ _ (hc m) (lg _) rfl rfl (by simp) trivial (by simpa [bm,A9,kK,jf,kJ,jw,St.puto] using hk)
    |some x=>
      cases x with
      |c v=>
        simp only [JV,A8] at hc
        obtain ⟨rfl,hc⟩:=hc
        exact fin _ _ (hc m) ⟨.inr ⟨rfl,rfl⟩,lg _⟩ rfl rfl (by simp [um]) (by simp [kB]) (by simpa [bm,A9,kK,jf,kJ,jw,St.puto] using hk)
      |s t=>
        simp only [JV,A8] at hc
        rcases hc with ⟨rows,e1,e2,hc⟩|⟨e1,hc⟩
        · exact fin _ _ (hc m) ⟨.inl e1,lg _⟩ rfl rfl (by simp [um,e2]) (by simp [kB]) (by simpa [bm,A9,kK,jf,kJ,jw,St.puto] using hk)
        · exact fin _ _ (hc m) ⟨.inr ⟨e1,rfl⟩,lg _⟩ rfl rfl (by simp [um,e1]) (by simp [kB]) (by simpa [bm,A9,kK,jf,kJ,jw,St.puto] using hk)
  case cd d x xs=>
    simp only [bD] at hw
    simp only [dM,aE,an] at hm
    obtain ⟨⟨h1,h2⟩,hm⟩:=hm
    split at hm<;>(try cases hm)
    rename_i f' as ts hop
    simp only [aE] at hm
    obtain ⟨hx,hxs⟩:=hm
    have hx:=aq h hx
    split at hw
    · rename_i f caps hv
      rw [hv] at hx
      simp only [PR] at hx
      obtain ⟨us,hx,hcaps⟩:=hx
      have hl:=dy h hxs
      have hall:aa S gb ((xs++caps.map X.c).map σ.v) (List.map a.eval as.toList++us.toList):=by
        rw [List.map_append]
        refine hl.append ?_
        have:(List.map σ.v (caps.map X.c))=caps:=by
          rw [List.map_map]
          exact (List.map_congr_left (fun c _=>rfl)).trans (List.map_id _)
        rw [this];exact hcaps
      have hlen:(List.map a.eval as.toList).length=xs.length:=by
        have:=hl.length
        simpa using this.symm
      refine lf h h2 h1 hall (fun i t hi=>?_) ?_ hw hK
      · rw [List.getElem?_append] at hi
        split at hi
        · rename_i hlt
          rw [List.getElem?_append_left (by omega)]
          exact iG hxs hi
        · rw [xP] at hi
          cases hq:caps[i - xs.length]? with
          |none=>rw [hq] at hi;cases hi
          |some c=>rw [hq] at hi;cases hi
      · have harr:(List.map a.eval as.toList++us.toList).toArray=as.map a.eval++us:=by
          apply Array.ext';simp
        rw [harr]
        unfold execOp
        simp [hop,resolve,hx,Deferred.ofValue,invoke]
    · cases hw
  case bsn d sz ps=>
    simp only [bD] at hw
    simp only [dM,aE,an] at hm
    obtain ⟨⟨h1,h2⟩,hm⟩:=hm
    split at hm<;>(try cases hm)
    rename_i t n ps' hop
    simp only [aE,bP,yG,cI,ne_eq] at hm
    obtain ⟨⟨⟨⟨hu,hsz0⟩,hn⟩,hle⟩,hps⟩:=hm
    obtain ⟨hsz0,hkb⟩:=wA.1 hsz0
    split at hu<;>(try cases hu)
    rename_i e hu'
    split at hu<;>(try cases hu)
    rename_i i hi
    simp only [aE,bP] at hu
    obtain ⟨hsize,hz⟩:=hu
    split at hz<;>(try cases hz)
    rename_i z hz'
    simp only [bP] at hz
    split at hps<;>(try cases hps)
    rename_i ys hys
    have hpl:=mR hys
    split at hw
    · rename_i rows hrows
      obtain ⟨r1,r2,r3,r4,r5⟩:=ld h hps hrows
      have hlen:n=ys.length:=by
        rw [hn]
        have: ∀(ps:List X) (ys:List Operand),jh F.GL ps ys=true→ps.length=ys.length:=by
          intro ps;induction ps with
          |nil=>intro ys hh;cases ys<;>simp [jh] at hh ⊢
          |cons x r ih=>intro ys hh;cases ys with
            |nil=>simp [jh] at hh
            |cons y s=>simp [jh] at hh;simp [ih s hh.2]
        exact this _ _ hps
      obtain ⟨us,f1,f2⟩:=nP sz (ys.map a.eval) 0 ((Array.range (n*sz)).map (z.cells[· %z.cells.size]!)) (by simpa using r4) (by simp [hlen])
      simp only [Nat.zero_mul,JG,bR,List.flatMap_map] at f2
      have hfl:(Array.map (fun x=>(x.1,a.eval x.2)) ps').toList=((ys.map a.eval).zipIdx.map fun x=>(x.2,x.1)):=by
        rw [Array.toList_map,hpl,List.map_map,List.zipIdx_map,List.map_map]
        rfl
      have hble:n*sz≤16777216:=Nat.le_of_ble_eq_true hle
      refine aZ (u:= .slice (some ⟨w.heap.size,0,none⟩) n n) (w':=w.alloc (.cells us e)) ?_ ?_
      · unfold execOp
        simp only [hop,Instr.buildSlice,Sem.run_bind,run_underlying hu',Result.andThen_ok,sizeOf,typeInfo,run_program,hi,Sem.run_pure,hsize]
        rw [if_neg (by omega)]
        by_cases h0:n*sz=0
        · have hn0:n=0:=by rcases Nat.mul_eq_zero.1 h0 with h|h;exact h;exact absurd h hsz0
          have hys0:ys=[]:=AN (by omega)
          subst hys0
          simp only [xQ,List.zipIdx_nil] at hfl f1
          have hus:us= #[]:=by
            have:us.toList=[]:=by simpa using f2
            cases us;simp_all
          have hps0:ps'= #[]:=by cases ps';simpa using hfl
          simp [hn0,hps0,Array.range_zero',Instr.fill,newRow,hus]
        · simp only [h0,if_false,zeroValue,Sem.run_bind,typeInfo,run_program,Result.andThen_ok,hi,hz',Sem.run_pure]
          rw [hfl]
          rw [f1]
          simp [newRow]
      · rw [h1]
        have hus2:us.toList=ys.flatMap fun y=>(a.eval y).cells.toList:=f2
        obtain ⟨S',hS'⟩:=h.newOwn h2 us e (rows:=rows) (us:=us.toList) (k:=sz) (cap:=n) hkb r3 (by rw [hus2];exact r1) (by rw [hus2];exact r2) qJ (by
          refine Nat.le_of_eq (Eq.symm ?_)
          rw [←oY,hus2,←r1.length,a8 r3,r5,hlen]) (by omega) (by unfold maxLen;have:n≤n*sz:=Nat.le_mul_of_pos_right _ (by omega);omega)
        refine hK S' gb _ _ _ ?_ hw
        rw [show n=rows.length by rw [r5,hlen]] at hS' ⊢
        exact hS'
    · cases hw
  case bsm d sz ps=>
    simp only [bD] at hw
    simp only [dM,aE,an] at hm
    obtain ⟨⟨h1,h2⟩,hm⟩:=hm
    split at hm<;>(try cases hm)
    rename_i t n ps' hop
    simp only [aE,bP,yG,cI,ne_eq] at hm
    obtain ⟨⟨⟨⟨hu,hsz0⟩,hn⟩,hle⟩,hps⟩:=hm
    split at hu<;>(try cases hu)
    rename_i e hu'
    split at hu<;>(try cases hu)
    rename_i i hi
    simp only [aE,bP] at hu
    obtain ⟨hsize,hz⟩:=hu
    split at hz<;>(try cases hz)
    rename_i z hz'
    simp only [bP] at hz
    split at hps<;>(try cases hps)
    rename_i ys hys
    have hpl:=mR hys
    suffices hall: ∀(rows:List (List AV)),aw σ.bx (.n d)=none→(aa S gb rows.flatten (ys.flatMap fun y=>(a.eval y).cells.toList)∧(∀u∈(ys.flatMap fun y=>(a.eval y).cells.toList),u.oneCell'=true)∧(∀r∈rows,r.length=sz)∧(∀y∈ys,(a.eval y).cells.size=sz)∧rows.length=ys.length)→
        K ⟨(d,.ms (.n d) 0 rows.length sz)::σ.e,(.n d,rows.flatten)::σ.bx,gU σ.pm d⟩→o.wp P a w K' Q by
      split at hw
      · rename_i rows hn0' hrows
        obtain ⟨r1,r2,r3,r4,r5⟩:=ld h hps hrows
        exact hall rows hn0' ⟨mP r1,r2,r3,r4,r5⟩ hw
      · rename_i hn0' hrows
        split at hw
        · rename_i rows hrows
          exact hall rows hn0' (p6 h hps hrows) hw
        · cases hw
      · cases hw
    intro rows hn0' hfacts hw
    obtain ⟨r1,r2,r3,r4,r5⟩:=hfacts
    · skip
      have hlen:n=ys.length:=by
        rw [hn]
        have: ∀(ps:List X) (ys:List Operand),jh F.GL ps ys=true→ps.length=ys.length:=by
          intro ps;induction ps with
          |nil=>intro ys hh;cases ys<;>simp [jh] at hh ⊢
          |cons x r ih=>intro ys hh;cases ys with
            |nil=>simp [jh] at hh
            |cons y s=>simp [jh] at hh;simp [ih s hh.2]
        exact this _ _ hps
      obtain ⟨us,f1,f2⟩:=nP sz (ys.map a.eval) 0 ((Array.range (n*sz)).map (z.cells[· %z.cells.size]!)) (by simpa using r4) (by simp [hlen])
      simp only [Nat.zero_mul,JG,bR,List.flatMap_map] at f2
      have hfl:(Array.map (fun x=>(x.1,a.eval x.2)) ps').toList=((ys.map a.eval).zipIdx.map fun x=>(x.2,x.1)):=by
        rw [Array.toList_map,hpl,List.map_map,List.zipIdx_map,List.map_map]
        rfl
      have hble:n*sz≤16777216:=Nat.le_of_ble_eq_true hle
      refine aZ (u:= .slice (some ⟨w.heap.size,0,none⟩) n n) (w':=w.alloc (.cells us e)) ?_ ?_
      · unfold execOp
        simp only [hop,Instr.buildSlice,Sem.run_bind,run_underlying hu',Result.andThen_ok,sizeOf,typeInfo,run_program,hi,Sem.run_pure,hsize]
        rw [if_neg (by omega)]
        by_cases h0:n*sz=0
        · have hn0:n=0:=by rcases Nat.mul_eq_zero.1 h0 with h|h;exact h;exact absurd h hsz0
          have hys0:ys=[]:=AN (by omega)
          subst hys0
          simp only [xQ,List.zipIdx_nil] at hfl f1
          have hus:us= #[]:=by
            have:us.toList=[]:=by simpa using f2
            cases us;simp_all
          have hps0:ps'= #[]:=by cases ps';simpa using hfl
          simp [hn0,hps0,Array.range_zero',Instr.fill,newRow,hus]
        · simp only [h0,if_false,zeroValue,Sem.run_bind,typeInfo,run_program,Result.andThen_ok,hi,hz',Sem.run_pure]
          rw [hfl]
          rw [f1]
          simp [newRow]
      · rw [h1]
        have hus2:us.toList=ys.flatMap fun y=>(a.eval y).cells.toList:=f2
        have hfl2:us.size=rows.flatten.length:=by rw [←oY,hus2,←r1.length]
        have hrn:rows.length=n:=by rw [r5,hlen]
        have hfl3:rows.flatten.length=n*sz:=by rw [a8 r3,hrn]
        rw [hrn] at hw
        refine hK _ _ _ _ _ (h.newBox h2 rfl hn0' (cs:=rows.flatten) (z:=⟨us.size,e⟩) ⟨fun _=>⟨_,e,rfl,rfl,?_,?_,?_⟩,fun hi=>by cases hi⟩ (by simp only [PR];exact ⟨w.heap.size,⟨us.size,e⟩,n,by simp [fh],rfl,rfl,eI _,by unfold maxLen;have:n≤n*sz:=Nat.le_mul_of_pos_right _ (by omega);omega,by simp only;omega⟩)) hw
        · omega
        · rw [←hfl2,←oY,qJ,hus2];exact r1
        · intro u hu;rw [hus2] at hu;exact r2 u hu
  case cr d f xs=>exact (show False from hw).elim
  case trm d sz x hi=>exact (show False from hw).elim
  case clr sz z x=>exact (show False from hw).elim
  case mkm d sz by_ z l c=>
    simp only [bD] at hw
    have hm0:=hm
    simp only [dM,aE,an] at hm
    obtain ⟨⟨h1,h2⟩,hm⟩:=hm
    split at hm<;>(try cases hm)
    rename_i t l' c' hop
    simp only [aE,bP,yG,cI,ne_eq] at hm
    obtain ⟨⟨⟨⟨hu,hsz0⟩,hby0⟩,hl⟩,hc⟩:=hm
    split at hu<;>(try cases hu)
    rename_i e hu'
    split at hu<;>(try cases hu)
    rename_i i hi
    simp only [aE,bP] at hu
    obtain ⟨⟨hsize,hbytes⟩,hz⟩:=hu
    split at hz<;>(try cases hz)
    rename_i z' hz'
    simp only [aE,bP] at hz
    obtain ⟨⟨hzs,hone⟩,hcz⟩:=hz
    have hl':=aq h hl
    have hc':=aq h hc
    split at hw
    · rename_i kl ln kc cn hn hlv hcv
      obtain ⟨w1,w2,w3,w4⟩:=hw
      rw [hlv] at hl';rw [hcv] at hc'
      simp only [PR] at hl' hc'
      have hb:(i.bytes:Int)*cn≤140737488355328:=by rw [hbytes,Int.mul_comm];unfold l8 at w3;simpa using w3
      have hcn:cn≤(i.bytes:Int)*cn:=by
        have h0:0≤cn:=by omega
        have h1':(1:Int)≤i.bytes:=by omega
        calc cn=1*cn:=by simp
          _≤(i.bytes:Int)*cn:=Int.mul_le_mul_of_nonneg_right h1' h0
      have hrun:=run_make (P:=P) w t e i z' hu' hi hz' kl kc ln cn w1 w2 (by omega) (by omega)
      refine aZ (u:= .slice (some ⟨w.heap.size,0,none⟩) ln.toNat cn.toNat) (w':=w.alloc (.cells (madeCells z'.cells (cn.toNat*i.size)) e)) ?_ ?_
      · unfold execOp
        simp [hop,hl',hc',hrun]
      · rw [h1]
        have hlc:ln.toNat≤cn.toNat:=by omega
        obtain ⟨m1,m2,m3,m4⟩:=Bp (S:=S) hsize hzs hone hcz hlc (by omega)
        refine hK _ _ _ _ _ (h.newBox h2 rfl hn (z:=⟨(madeCells z'.cells (cn.toNat*i.size)).size,e⟩) ⟨fun _=>⟨_,e,rfl,rfl,?_,?_,?_⟩,fun hi=>by cases hi⟩ (by simp only [PR];exact ⟨w.heap.size,⟨(madeCells z'.cells (cn.toNat*i.size)).size,e⟩,cn.toNat,by simp [fh],rfl,rfl,hlc,by unfold maxLen;omega,by simp only [m4];omega⟩)) w4
        · rw [m1,m4];exact Nat.mul_le_mul_right _ hlc
        · rw [m1];exact mP m2
        · exact m3
    · cases hw
  case apm d sz by_ s y=>
    simp only [bD] at hw
    simp only [dM,aE,an] at hm
    obtain ⟨⟨h1,h2⟩,hm⟩:=hm
    split at hm<;>(try cases hm)
    rename_i as ts hop
    split at hm<;>(try cases hm)
    rename_i s' y' t t' has hts
    simp only [aE,bP,yG,cI,ne_eq] at hm
    obtain ⟨⟨⟨⟨⟨rfl,hu⟩,hsz0⟩,hby0⟩,hs⟩,hy⟩:=hm
    split at hu<;>(try cases hu)
    rename_i e hu'
    split at hu<;>(try cases hu)
    rename_i i hi
    simp only [aE,bP] at hu
    obtain ⟨⟨hsize,hbytes⟩,hz⟩:=hu
    split at hz<;>(try cases hz)
    rename_i z hz'
    simp only [aE,bP] at hz
    have hs':=aq h hs
    have hy':=aq h hy
    have has':as= #[s',y']:=by cases as;simp_all
    have hts':ts= #[t,t]:=by cases ts;simp_all
    subst has';subst hts'
    have hexec: ∀ {u:Value} {w':World},(Builtin.append_ #[t,t] o.type #[a.eval s',a.eval y']).run P w= .ok u w'→(execOp a.eval o).run P w= .ok (.value u) w':=by
      intro u w' hr
      unfold execOp
      simp [hop,resolve,invoke,builtin,hr]
    split at hw
    · rename_i news hnews
      have hyn:=uZ (gb:=gb) (yI _ _ _ hnews hy')
      split at hw
      · rename_i hsv
        split at hw
        · rename_i hn
          obtain ⟨w2,w3,w4,w5⟩:=hw
          rw [hsv] at hs'
          simp only [PR] at hs'
          obtain ⟨us,u1,u2,u3,u4,u5,u6⟩:=mQ (P:=P) h hyn w4
          subst hsize;subst hbytes
          have hsmall:0+news.length≤9223372036854775807:=by
            have:news.length≤news.length*i.bytes:=Nat.le_mul_of_pos_right _ (by omega)
            unfold l8 at w2;omega
          have hfit:=growslice_fits (need:=0+news.length) (old:=0) (bytes:=i.bytes) (by omega) (by unfold l8 at w2;rw [mM];exact w2)
          have hrun:=ig (P:=P) (w:=w) (base:=none) (n:=0) (cap:=0) (olds:=[]) (us:=us) (ty:=o.type) hu' (.inl hu') hi hz' u4 u6 (by simp [Builtin.firstCells]) (by omega) hfit hsmall
          rw [←hs'] at hrun
          refine aZ (hexec hrun) ?_
          rw [h1]
          have hge:=grownCap_ge w (0+news.length) 0 e
          have hgm:=grownCap_le_maxLen w (0+news.length) 0 e (by unfold maxLen;omega)
          simp only [mM,bR] at hge hgm ⊢
          have hflen:news.flatten.length=news.length*i.size:=a8 w4
          have hsz2:(us.toArray++Builtin.zeroCells z.cells (grownCap w news.length 0 e - news.length)).size=grownCap w news.length 0 e*i.size:=by
            rw [Array.size_append,size_zeroCells,hz.1,List.size_toArray,u1,←Nat.add_mul];congr 1;omega
          refine hK _ _ _ _ _ ((h.drew).newBox h2 rfl hn (z:=⟨grownCap w news.length 0 e*i.size,e⟩) ⟨fun _=>⟨us.toArray++Builtin.zeroCells z.cells (grownCap w news.length 0 e - news.length),e,by rw [hsz2],rfl,?_,?_,?_⟩,fun hi=>by cases hi⟩ (by simp only [PR];exact ⟨w.drew.heap.size,⟨grownCap w news.length 0 e*i.size,e⟩,grownCap w news.length 0 e,by simp only [fh,if_true],rfl,rfl,hge,hgm,by simp only;omega⟩)) w5
          · rw [hflen,hsz2];exact Nat.mul_le_mul_right _ hge
          · rw [hflen,←u1,Array.toList_append,List.take_left' (by simp)];exact mP u2
          · intro u hu
            rw [Array.toList_append] at hu
            rcases iB.1 hu with hu|hu
            · exact u3 u (by simpa using hu)
            · exact mq (by omega) (fun u hu=>gE.1 hz.2 u hu) u hu
        · cases hw
      · rename_i b n k hsv
        split at hw
        · rename_i cs hcs
          obtain ⟨w0,wl,wu,wn,wo1,wo2,wp,wi,wlim,w4,w5⟩:=hw
          subst w0
          rw [hsv] at hs'
          simp only [PR] at hs'
          obtain ⟨g,zz,cap,hg,_,hs',hncap,hcapm,hfitz⟩:=hs'
          obtain ⟨g',olds0,T,e1,e3,e0,e4,e5,e6⟩:=h.hr.box b cs hcs wi
          rw [hg] at e1;cases e1
          simp only at hfitz
          obtain ⟨us,u1,u2,u3,u4,u5,u6⟩:=mQ (P:=P) h hyn w4
          have hol:(olds0.toList.take cs.length).length=n*k:=by simp;omega
          have hflen:news.flatten.length=news.length*k:=a8 w4
          subst hsize;subst hbytes
          have hpo: ∀o' l,aD σ.pm (.b b o')=some l→o'<cs.length:=fun o' l hl=>by
            have:=wp _ (eJ _ _ _ hl)
            simp only [Pl.lt] at this
            exact this trivial
          have hsmall:n+news.length≤9223372036854775807:=by
            have:n+news.length≤(n+news.length)*i.bytes:=Nat.le_mul_of_pos_right _ (by omega)
            unfold l8 at wlim;omega
          by_cases hroom:n+news.length≤cap
          ·
            have hfitc:n*i.size+us.length≤olds0.size:=by
              rw [u1,←Nat.add_mul]
              exact qT (Nat.mul_le_mul_right _ hroom) (by omega)
            have hst:=run_storeCells_at P g (n*i.size) T us 0 olds0 w e3 (by simpa using hfitc) u3
            simp only [rI] at hst
            have hrun:=ic (P:=P) (w:=w) (ty:=o.type) hu' (.inl hu') hi (base:=some ⟨g,0,none⟩) (n:=n) (cap:=cap) (us:=us) u4 u5 hroom (fun b' hb'=>by
              cases hb';rw [Addr.add_lit,mM];exact hst) (fun hb=>by cases hb)
            rw [←hs'] at hrun
            refine aZ (hexec hrun) ?_
            rw [h1]
            have hheap:=setRow_heap w g olds0 (olds0.toList.take (n*i.size)++us++olds0.toList.drop (n*i.size+us.length)).toArray T _ e3
            obtain ⟨gb',hr⟩:=h.swap h2 hcs wu wi hg e3 e6 wo1 wo2 wn e4 e0 hheap (fun k hk hne=>setRow_other w g k _ hne) (.inl rfl) (by simp) rfl rfl rfl (ns:=news.flatten) (nus:=us) (fun _ _=>mP u2) (by
              simp only [cG,hflen,wl,←u1]
              rw [List.take_append_of_le_length (by simp;omega),List.take_of_length_le (by simp;omega)]) (by
              simp only [cG,hflen,wl,List.size_toArray,rH,uk,oY];omega) (by
              intro u hu
              simp only [iB] at hu
              rcases hu with (hu|hu)|hu
              · exact e5 u (A5 hu)
              · exact u3 u hu
              · exact e5 u (List.mem_of_mem_drop hu)) hpo (n':=n+news.length) (cap':=cap) (sz:=i.size) hroom hcapm (by
              simp only [List.size_toArray,cG,rH,uk,oY];omega)
            exact hK _ _ _ _ _ hr w5
          ·
            have hfo:(Builtin.firstCells i.size n (.slice (some ⟨g,0,none⟩) n cap)).run P w.drew= .ok (olds0.toList.take cs.length).toArray w.drew:=by
              have:=dP (P:=P) (w:=w.drew) (b:=g) (o:=0) (us:=olds0.toList.take cs.length) (fun j u hu=>by
                rw [mM,cell_of_row w.drew g j olds0 T _ e3]
                rw [pY] at hu
                split at hu
                · simpa using hu
                · cases hu)
              rw [hol] at this
              simp [Builtin.firstCells,this]
            have hfit:=growslice_fits (need:=n+news.length) (old:=cap) (bytes:=i.bytes) (by omega) (by unfold l8 at wlim;exact wlim)
            have hrun:=ig (P:=P) (w:=w) (ty:=o.type) hu' (.inl hu') hi hz' u4 u6 hfo (by omega) hfit hsmall
            rw [←hs'] at hrun
            refine aZ (hexec hrun) ?_
            rw [h1]
            have hge:=grownCap_ge w (n+news.length) cap e
            have hgm:=grownCap_le_maxLen w (n+news.length) cap e (by unfold maxLen;omega)
            have hsz2:((olds0.toList.take cs.length++us).toArray++Builtin.zeroCells z.cells (grownCap w (n+news.length) cap e - (n+news.length))).size=grownCap w (n+news.length) cap e*i.size:=by
              rw [Array.size_append,size_zeroCells,hz.1,List.size_toArray,cG,hol,u1,←Nat.add_mul,←Nat.add_mul];congr 1;omega
            obtain ⟨gb',hr⟩:=(h.drew).swap h2 hcs wu wi hg (w:=w.drew) e3 e6 wo1 wo2 wn e4 e0 (w':=w.drew.alloc (.cells ((olds0.toList.take cs.length++us).toArray++Builtin.zeroCells z.cells (grownCap w (n+news.length) cap e - (n+news.length))) e)) (heap_alloc_new w.drew _) (fun k hk _=>Below.heap_alloc _ _ _ hk) (.inr (eI _)) (by simp) rfl rfl rfl (ns:=news.flatten) (nus:=us) (fun _ _=>mP u2) (by
              simp only [cG,hflen,wl,←u1]
              rw [Array.toList_append,List.take_append_of_le_length (by simp;omega),List.take_of_length_le (by simp;omega)]) (by
              rw [hsz2];simp only [cG,hflen,wl,←Nat.add_mul];exact Nat.mul_le_mul_right _ hge) (by
              intro u hu
              rw [Array.toList_append] at hu
              rcases iB.1 hu with hu|hu
              · simp only [iB] at hu
                rcases hu with hu|hu
                · exact e5 u (A5 hu)
                · exact u3 u hu
              · exact mq (by omega) (fun u hu=>gE.1 hz.2 u hu) u hu) hpo (n':=n+news.length) (cap':=grownCap w (n+news.length) cap e) (sz:=i.size) hge hgm (by rw [hsz2];omega)
            exact hK _ _ _ _ _ hr w5
        · cases hw
      · cases hw
    · exact hw.elim
  case s2b d x=>
    simp only [bD] at hw
    simp only [dM,aE,an] at hm
    obtain ⟨⟨h1,h2⟩,hm⟩:=hm
    split at hm<;>(try cases hm)
    rename_i ts t x' hop
    simp only [aE] at hm
    obtain ⟨⟨ht,hs⟩,hx⟩:=hm
    have hx:=aq h hx
    have hs':P.underlying ts=some .string:=by split at hs<;>simp_all
    obtain ⟨e,ht',he'⟩: ∃e,P.underlying t=some (.slice e)∧P.underlying e=some (.int .u8):=by
      split at ht<;>(try cases ht)
      rename_i e hte
      split at ht<;>(try cases ht)
      rename_i hue
      exact ⟨e,hte,hue⟩
    split at hw
    · rename_i l hl
      rw [hl] at hx
      simp only [PR] at hx
      have hrun:=run_bytes_of_string (P:=P) w ts t e ⟨l.toArray⟩ hs' ht' he'
      refine aZ (u:= .slice (some ⟨w.heap.size,0,none⟩) l.length (grownCap w l.length 0 e)) (w':=w.drew.alloc (.cells (bytesRow ⟨l.toArray⟩ (grownCap w l.length 0 e)) e ((bytesRow ⟨l.toArray⟩ (grownCap w l.length 0 e)).size,(bytesRow ⟨l.toArray⟩ (grownCap w l.length 0 e)).size+1))) ?_ ?_
      · unfold execOp
        simp only [hop,hx,hrun,Sem.run_bind,Result.andThen_ok,Sem.run_pure]
        rfl
      · rw [h1]
        have hge:=grownCap_ge w l.length 0 e
        have hfr: ∀o,S w.heap.size o=none:=fun o=>h.fresh (eI _)
        have hcell: ∀(j:Nat) (u:Value),(l.map fun b=>Value.int .u8 (b.toNat:Int))[j]?=some u→(bytesRow ⟨l.toArray⟩ (grownCap w l.length 0 e))[j]?=some u:=by
          intro j u hj
          have hjl:j<l.length:=by have:=(qI.1 hj).1;simpa using this
          rw [bytesRow,Array.getElem?_append_left (by simpa using hjl)]
          simpa using hj
        have h3:aI F (pg S w.heap.size (l.map fun b=>Value.int .u8 (b.toNat:Int))) gb σ a (w.drew.alloc (.cells (bytesRow ⟨l.toArray⟩ (grownCap w l.length 0 e)) e ((bytesRow ⟨l.toArray⟩ (grownCap w l.length 0 e)).size,(bytesRow ⟨l.toArray⟩ (grownCap w l.length 0 e)).size+1))):=by
          refine (h.drew).step ((Below.refl _ _).alloc (eI _) _) (fun g o hg=>by simp only [pg];exact if_neg (Nat.ne_of_lt hg)) (fun g o v hs=>?_) (fun g o v hs=>?_)
          · have:g≠w.heap.size:=by intro e;subst e;rw [hfr] at hs;cases hs
            simp [pg,this,hs]
          · simp only [pg] at hs
            split at hs
            · rename_i e;subst e
              have:=heap_alloc_new w.drew (.cells (bytesRow ⟨l.toArray⟩ (grownCap w l.length 0 e)) e ((bytesRow ⟨l.toArray⟩ (grownCap w l.length 0 e)).size,(bytesRow ⟨l.toArray⟩ (grownCap w l.length 0 e)).size+1))
              rw [cell_of_row _ w.heap.size o _ e _ this]
              exact hcell o v hs
            · rename_i e
              have hlt:g<w.heap.size:=by have:=World.block_lt_of_cell? w _ (h.hr.agree _ _ _ hs);simpa using this
              rw [World.cell?_alloc_lt]
              · exact h.hr.agree _ _ _ hs
              · exact hlt
        refine hK _ _ _ _ _ (h3.put h2 ?_) hw
        simp only [PR]
        refine .inr ⟨⟨w.heap.size,0,none⟩,grownCap w l.length 0 e,1,by simp [ag],by simpa [ag] using hge,.inr ⟨rfl,?_⟩⟩
        rw [aU.flat]
        refine ⟨fun r hr=>by simp only [ag,vY] at hr;obtain ⟨b,_,rfl⟩:=hr;rfl,?_⟩
        refine aG.of_list (us:=l.map fun b=>Value.int .u8 (b.toNat:Int)) ?_ (fun u hu=>by simp only [vY] at hu;obtain ⟨b,_,rfl⟩:=hu;rfl) (fun j u hu=>by simpa [pg] using hu)
        exact p7 _ l
    · cases hw
  case rs d x=>
    simp only [bD] at hw
    simp only [dM,aE,an] at hm
    obtain ⟨⟨h1,h2⟩,hm⟩:=hm
    split at hm<;>(try cases hm)
    rename_i t x' hop
    simp only [aE] at hm
    have ht':P.underlying t=some .string:=by have:=hm.1;split at this<;>simp_all
    have hx:=aq h hm.2
    split at hw
    · rename_i hn
      split at hw
      · rename_i s hs
        rw [hs] at hx
        simp only [PR] at hx
        refine aZ (u:= .pointer (some ⟨w.heap.size,0,none⟩)) (w':=w.iter ⟨s.toArray⟩ 0) ?_ ?_
        · unfold execOp
          simp [hop,hx,run_range_string w t _ ht']
        · rw [h1]
          exact hK _ _ _ _ _ (h.newBox h2 rfl hn (z:=⟨0,0⟩) ⟨fun hi=>(by cases hi),fun _=>rfl⟩ (by simp only [PR];exact ⟨w.heap.size,⟨0,0⟩,by simp [fh],rfl⟩)) hw
      · cases hw
    · cases hw
  case nx d x=>
    simp only [bD] at hw
    simp only [dM,aE,an] at hm
    obtain ⟨⟨h1,h2⟩,hm⟩:=hm
    split at hm<;>(try cases hm)
    rename_i x' hop
    have hx:=aq h hm
    split at hw
    · rename_i it hit
      rw [hit] at hx
      simp only [PR] at hx
      obtain ⟨g,z,hg,hx⟩:=hx
      split at hw
      · rename_i s pos hbx
        obtain ⟨g',z',ob,e1,e2,e3,e6⟩:=h.hr.its _ _ hbx rfl
        rw [hg] at e1;cases e1
        simp only [GI,cC] at e2;subst e2
        have hsz:(ByteArray.mk s.toArray).size=s.length:=rfl
        split at hw
        · rename_i hlt
          refine aZ (u:= .tuple #[.bool true,.int .i64 pos,.int .i32 (bU s pos).1]) (w':={w with heap:=w.heap.setIfInBounds g (.stringIter ⟨s.toArray⟩ (pos+(bU s pos).2))}) ?_ ?_
          · unfold execOp
            simp only [hop,hx,Instr.next,getObj,setObj,Sem.run_bind,Sem.run,e3,Result.andThen,hsz,hlt,if_true,bU]
            simp [goInt,Sem.run,e3]
          · rw [h1]
            have hglt:g<w.heap.size:=(rF.1 e3).1
            have hset:=h.setObj (d:= .it it) (w':={w with heap:=w.heap.setIfInBounds g (.stringIter ⟨s.toArray⟩ (pos+(bU s pos).2))}) (by simp [hbx]) hg e6 (fun k hk=>by simp [Array.getElem?_setIfInBounds_ne (Ne.symm hk)]) (by simp) rfl rfl rfl (cs':=[.itr s (pos+(bU s pos).2)]) (fun hi=>by cases hi) (fun _=>⟨_,rfl,by simp [hglt]⟩) (pm:=σ.pm) (fun _ _ h=>h) (fun off k hk=>by have:=(h.hr.pmb _ _ _ hk).2;cases this)
            refine hK _ _ _ _ _ (hset.put h2 (v:= .tup [.bool true,.int .i64 pos,.int .i32 (bU s pos).1]) ?_) hw
            simp only [PR,aa]
            exact ⟨_,rfl,_,_,rfl,rfl,_,_,rfl,rfl,_,_,rfl,rfl,rfl⟩
        · rename_i hlt
          refine aZ (u:= .tuple #[.bool false]) (w':=w) ?_ ?_
          · unfold execOp
            simp [hop,hx,Instr.next,getObj,Sem.run,e3,hsz,hlt]
          · rw [h1]
            exact hK _ _ _ _ _ (h.put h2 (by simp only [PR,aa];exact ⟨_,rfl,_,_,rfl,rfl,rfl⟩)) hw
      · cases hw
    · cases hw
  case ex d x i=>
    simp only [bD] at hw
    simp only [dM,aE,an] at hm
    obtain ⟨⟨h1,h2⟩,hm⟩:=hm
    split at hm<;>(try cases hm)
    rename_i x' i' hop
    simp only [aE,bP] at hm
    obtain ⟨rfl,hx0⟩:=hm
    have hx:=aq h hx0
    split at hw
    · rename_i vs hvs
      rw [hvs] at hx
      simp only [PR] at hx
      obtain ⟨us,hxe,hp⟩:=hx
      split at hw
      · rename_i v hv
        obtain ⟨u,hu,hpu⟩:=hp.get hv
        have hu':us[i]?=some u:=by simpa using hu
        have hop2:(execOp a.eval o).run P w= .ok (.value u) w:=by
          unfold execOp
          simp [hop,hxe,Instr.extract,hu']
        have plain:K (σ.put d v)→o.wp P a w K' Q:=fun hk=>by
          refine aZ hop2 ?_
          rw [h1]
          exact hK _ _ _ _ _ (h.put h2 hpu) hk
        split at hw
        · rename_i t
          split at hw
          · rename_i k hk
            have ht:tv a t= .tuple us:=by
              cases x'<;>simp [mX] at hx0
              subst hx0;exact hxe
            have hpl:cf gb (tv a) w (.t t i)=u:=by
              simp only [cf,ht,mK,hu'];rfl
            have ho:=h.hr.own _ _ hk
            rw [hpl] at ho
            refine aZ hop2 ?_
            rw [h1]
            refine hK S gb ((⟨σ.e,σ.bx,dl σ.pm (.t t i)⟩:St).puto d v k) _ _ ?_ hw
            refine (h.drop (.t t i)).puto h2 hpu ho (fun g hg=>h.newo _ _ g hk (by rw [hpl];exact hg)) ?_ (fun b' d' z hb=>h.hr.ownb _ _ b' d' z hk (by rw [hpl];exact hb))
            intro p l b' hl _ hb hb2
            simp only [jg] at hl
            split at hl
            · cases hl
            · rename_i hne
              exact hne (h.hr.ownd p (.t t i) l k b' hl hk hb (by rw [hpl];exact hb2))
          · exact plain hw
        · exact plain hw
      · cases hw
    · cases hw
  case aps d s y=>exact (show False from hw).elim
  case sla d n x lo hi=>
    simp only [bD] at hw
    simp only [dM,aE,an] at hm
    obtain ⟨⟨h1,h2⟩,hm⟩:=hm
    split at hm<;>(try cases hm)
    rename_i t x' lo' hi' hop
    simp only [aE] at hm
    obtain ⟨⟨⟨hu,hx⟩,hlo⟩,hhi⟩:=hm
    obtain ⟨e,hu',hsz⟩: ∃e,P.underlying t=some (.array n e)∧kW P e=some 1:=by
      split at hu<;>simp_all
    have hx':=aq h hx
    split at hw
    · rename_i b o' hs
      split at hw
      · rename_i cs l hh hcs hl2 hh2
        obtain ⟨w1,w2,w3,w5,w6,w7,w8,w4⟩:=hw
        rw [hs] at hx'
        simp only [PR] at hx'
        obtain ⟨g,z,hg,hit,hx'⟩:=hx'
        have b1:=iq h hlo hl2
        have b2:=iq h hhi hh2
        have hne: ¬n=l.toNat:=by omega
        obtain ⟨g2,us,T,q1,_,q3,_⟩:=h.hr.box b cs hcs w8
        rw [hg] at q1;cases q1
        refine aZ (u:= .slice (some ⟨g,o'+l.toNat,none⟩) (hh.toNat - l.toNat) (n - l.toNat)) (w':=w) ?_ ?_
        · unfold execOp
          simp only [hop,hx',Instr.sliceAt,Sem.run_bind,run_underlying hu',Result.andThen_ok,Instr.sureAddr,Instr.sliceBounds,aS hsz]
          rcases b1 with ⟨rfl,rfl⟩|⟨yl,kl,rfl,hyl⟩<;>rcases b2 with ⟨rfl,rfl⟩|⟨yh,kh,rfl,hyh⟩
          · have: ¬n=0:=by simpa using hne
            simp [aS hsz,this,Addr.add_lit]
          · have: ¬n=0:=by simpa using hne
            simp [hyh,Instr.sliceBound,asIntOf,w3,show 0≤hh by omega,aS hsz,this,Addr.add_lit]
          · simp [hyl,Instr.sliceBound,asIntOf,w1,w2,aS hsz,hne,Addr.add_lit]
          · have:l≤(hh.toNat:Int):=by omega
            simp [hyl,hyh,Instr.sliceBound,asIntOf,w1,w3,show 0≤hh by omega,this,aS hsz,hne,Addr.add_lit]
            intro hc;omega
        · rw [h1]
          refine hK _ _ _ _ _ (h.put h2 ?_) w4
          simp only [PR]
          refine ⟨g,_,n - l.toNat,hg,w8,?_,by omega,by unfold maxLen;omega,by simp only;omega⟩
          congr 1;omega
      · cases hw
    · cases hw
  case mkp d=>exact (show False from hw).elim
  case mpe d q z m k=>exact (show False from hw).elim
  case mes m s v=>exact (show False from hw).elim
  case mup q m k v=>exact (show False from hw).elim
  case gd=>simp [dM] at hm
  case no=>simp [bD,ev] at hw
  all_goals
    simp only [bD] at hw
    split at hw
    · rename_i d' v' he
      exact pure _ _ he hw
    · cases hw
end Go.Ai
namespace Go.Ai
open Go.RowKit
variable {P:Program} {F:Fr} {S:aM} {gb:Gb} {σ:St} {a:Act} {w:World}
theorem Dj.two {σ:St} {s:Nat} {b:Id} {n sz:Nat} {rows:List (List AV)} (h:Dj σ s b n sz rows):kS σ s b n sz rows []:=
 ⟨h.hv,by rw [h.hb,nA],h.hup,h.hn,h.hsz,h.hids,h.hoff⟩
def SF (F:Fr) (S':aM) (gb':Gb) (σ:St) (s:Nat) (b:Id) (n sz:Nat) (a:Act) (w:World):Prop:=
 ∃g cap us T,tv a s= .slice (some ⟨g,0,none⟩) n cap∧w.heap[g]?=some (.cells us T (0,0))∧n≤cap∧cap≤maxLen∧cap*sz≤us.size∧(∀o,n*sz≤o→S' g o=none)∧(F.w0.heap.size≤g∨F.M g)∧
  (∀p k,aD (ud σ.pm b) p=some k→(cf gb' (tv a) w p).ownBlock≠some g)∧(∀d z,(aw (ju σ.bx b) d).isSome→gb' d≠some (g,z))
theorem aI.freeze (h:aI F S gb σ a w) {s:Nat} {b:Id} {n sz:Nat} {rows:List (List AV)} {tl:List AV} (hf:kS σ s b n sz rows tl): ∃S' gb',aI F S' gb' (fT σ s b rows) a w∧SF F S' gb' σ s b n sz a w:=by
 have hs:=h.env s;rw [hf.hv] at hs;simp only [PR] at hs;obtain ⟨g,z,cap,hg,hit,hv,hncap,hcapm,hfit⟩:=hs;obtain ⟨g',us,T,e1,e3,e0,e4,e5,e6⟩:=h.hr.box b _ hf.hb hit;rw [hg] at e1;cases e1;simp only at hfit;have e4:aa S gb rows.flatten (us.toList.take rows.flatten.length):=by
  have h1:=e4.take rows.flatten.length;rw [List.take_left',List.take_take,Nat.min_eq_left (by simp)] at h1
  ·exact h1
  ·rfl
 have hbS:(aw σ.bx b).isSome:=by rw [hf.hb];rfl
 let S':aM:=fun g' o=>if g'=g then (us.toList.take rows.flatten.length)[o]? else S g' o
 let gb':Gb:=fun i=>if i=b then none else gb i
 have hle:S.le S':=fun g1 o v hs=>by
  have:g1≠g:=fun e=>by subst e;rw [e6] at hs;cases hs
  simp only [S',if_neg this];exact hs
 have hof: ∀g1 o,g1≠g→S' g1 o=S g1 o:=fun g1 o hne=>by simp only [S',if_neg hne]
 have hoth: ∀i,i≠b→gb' i=gb i:=fun i h1=>by simp only [gb',if_neg h1]
 have hrm: ∀i,(aw (ju σ.bx b) i).isSome→i≠b∧aw (ju σ.bx b) i=aw σ.bx i:=by
  intro i hi;rw [iV] at hi ⊢;by_cases e:b=i
  ·rw [if_pos e] at hi;cases hi
  ·rw [if_neg e] at hi ⊢;exact ⟨fun e'=>e e'.symm,rfl⟩
 have hpr: ∀(v:AV) (u:Value),b∉v.ids→PR S gb v u→PR S' gb' v u:=fun v u hv hp=>
  PR.mono hle (Gb.le.refl _) v u (PR.restr v u (fun i hi=>by
   have:i≠b:=fun e=>hv (e▸hi)
   rw [hoth i this]) hp)
 have hprL: ∀(v:List AV) (u:List Value),b∉ba v→aa S gb v u→aa S' gb' v u:=fun v u hv hp=>
  aa.mono hle (Gb.le.refl _) v u (aa.restr v u (fun i hi=>by
   have:i≠b:=fun e=>hv (e▸hi)
   rw [hoth i this]) hp)
 have hblk: ∀i g1 z1,(aw (ju σ.bx b) i).isSome→gb i=some (g1,z1)→g1≠g:=by
  intro i g1 z1 hi hq e;obtain ⟨h1,h3⟩:=hrm i hi;rw [h3] at hi;exact h1 (h.hr.inj i b g z1 _ hi hbS (by rw [hq,e]) hg)
 have hkeep: ∀p k,aD (ud σ.pm b) p=some k→aD σ.pm p=some k∧ ∀e o,p= .b e o→e≠b:=by
  intro p k hk;rw [lK] at hk;cases p with
  |s t=>exact ⟨hk,fun e o he=>by cases he⟩
  |t t i=>exact ⟨hk,fun e o he=>by cases he⟩
  |b e o=>
   simp only at hk;split at hk
   ·cases hk
   ·rename_i hne;exact ⟨hk,fun e' o' he=>by cases he;exact hne⟩
 have hpl: ∀p k,aD (ud σ.pm b) p=some k→cf gb' (tv a) w p=cf gb (tv a) w p:=by
  intro p k hk;obtain ⟨h1,h2⟩:=hkeep p k hk;cases p with
  |s t=>rfl
  |t t i=>rfl
  |b e o=>simp only [cf,hoth e (h2 e o rfl)]
 have hob: ∀p k g1,aD σ.pm p=some k→(cf gb (tv a) w p).ownBlock=some g1→g1≠g:=by
  intro p k g1 hk hg1 e;subst e;exact h.hr.ownb p k _ b _ hk hg1 hbS hg
 have hnew:=h.newb b g _ hbS hg;refine ⟨S',gb',?_,?_⟩
 rotate_left
 ·refine ⟨g,cap,us,T,hv,e3,hncap,hcapm,by omega,?_,hnew,?_,?_⟩
  ·intro o ho;simp only [S',if_true];rw [EG];rw [rH,a8 hf.hsz,hf.hn];omega
  ·intro p k hk he;rw [hpl p k hk] at he;exact hob p k g (hkeep p k hk).1 he rfl
  ·intro d z hd he;obtain ⟨r1,r3⟩:=hrm d hd;rw [hoth d r1] at he;exact hblk d g z hd he rfl
 refine ⟨h.defers,h.size,h.bw,?_,h.le.trans hle,?_,⟨?_,?_,?_,?_,?_,?_,?_,?_⟩,?_,?_,?_,?_,h.glo⟩
 ·intro g1 o hg1 hm;rw [hof g1 o (fun e=>by subst e;rcases hnew with h1|h1;omega;exact hm h1)];exact h.ext g1 o hg1 hm
 ·intro t;simp only [fT,lk];split
  ·rename_i e;subst e;rw [hv];simp only [PR];refine .inr ⟨⟨g,0,none⟩,cap,sz,by rw [hf.hn],by rw [hf.hn];exact hncap,.inr ⟨rfl,?_⟩⟩;rw [aU.flat];refine ⟨hf.hsz,aG.of_list (us:=us.toList.take rows.flatten.length) ?_ (fun u hu=>e5 u (A5 hu)) (fun j u hu=>by rw [mM];simp only [S',if_true];exact hu)⟩;exact aa.restr _ _ (fun d hd=>by rw [hf.hids] at hd;cases hd) (aa.mono hle (Gb.le.refl _) _ _ e4)
  ·rw [Dp];split
   ·simp [PR]
   ·rename_i hne;exact hpr _ _ hne (h.env t)
 ·intro g1 o v hs;simp only [S'] at hs;split at hs
  ·rename_i e;subst e;rw [cell_of_row w g1 o us T _ e3];rw [pY] at hs;split at hs
   ·simpa using hs
   ·cases hs
  ·exact h.hr.agree _ _ _ hs
 ·intro d cs hcs hi;simp only [fT] at hcs;have hr:(aw (ju σ.bx b) d).isSome:=by rw [hcs];rfl
  obtain ⟨r1,r3⟩:=hrm d hr;have hm:=cM _ _ _ hcs;rw [r3] at hcs;obtain ⟨g1,us1,T1,q1,q3,q0,q4,q5,q6⟩:=h.hr.box d cs hcs hi;have hne:=hblk d g1 _ hr q1;exact ⟨g1,us1,T1,by rw [hoth d r1];exact q1,q3,q0,hprL _ _ (hf.hoff _ hm) q4,q5,fun o=>by rw [hof g1 o hne];exact q6 o⟩
 ·intro d cs hcs hi;simp only [fT] at hcs;have hr:(aw (ju σ.bx b) d).isSome:=by rw [hcs];rfl
  obtain ⟨r1,r3⟩:=hrm d hr;rw [r3] at hcs;obtain ⟨g1,z1,ob1,q1,q2,q3,q6⟩:=h.hr.its d cs hcs hi;have hne:=hblk d g1 z1 hr q1;exact ⟨g1,z1,ob1,by rw [hoth d r1];exact q1,q2,q3,fun o=>by rw [hof g1 o hne];exact q6 o⟩
 ·intro d d' g1 z1 z2 i1 i2 q1 q2;simp only [fT] at i1 i2;obtain ⟨r1,r3⟩:=hrm d i1;obtain ⟨s1,s3⟩:=hrm d' i2;rw [hoth d r1] at q1;rw [hoth d' s1] at q2;rw [r3] at i1;rw [s3] at i2;exact h.hr.inj d d' g1 z1 z2 i1 i2 q1 q2
 ·intro p k hk;rw [hpl p k hk];obtain ⟨h1,_⟩:=hkeep p k hk;exact (h.hr.own p k h1).mono (fun _ _=>rfl) (fun g1 o hg1 hn=>by rw [hof g1 o (hob p k g1 h1 hg1)];exact hn)
 ·intro p q k l c hk hl c1 c2;rw [hpl p k hk] at c1;rw [hpl q l hl] at c2;exact h.hr.ownd p q k l c (hkeep p k hk).1 (hkeep q l hl).1 c1 c2
 ·intro p k c d z1 hk c1 hd;simp only [fT] at hd;obtain ⟨r1,r3⟩:=hrm d hd;rw [hpl p k hk] at c1;rw [hoth d r1];rw [r3] at hd;exact h.hr.ownb p k c d z1 (hkeep p k hk).1 c1 hd
 ·intro d o k hk;obtain ⟨h1,h2⟩:=hkeep _ k hk;obtain ⟨p1,p2⟩:=h.hr.pmb d o k h1;refine ⟨?_,p2⟩;simp only [fT];rw [iV,if_neg (fun e=>h2 d o rfl e.symm)];exact p1
 ·intro d g1 z1 hd hq;simp only [fT] at hd;obtain ⟨r1,r3⟩:=hrm d hd;rw [hoth d r1] at hq;rw [r3] at hd;exact h.newb d g1 z1 hd hq
 ·intro p k g1 hk hg1;rw [hpl p k hk] at hg1;exact h.newo p k g1 (hkeep p k hk).1 hg1
 ·intro d hd;simp only [fT];by_cases e:d=b
  ·exfalso;apply hd;simp only [gb',if_pos e]
  ·rw [hoth d e] at hd;rcases h.dom d hd with h1|h1
   ·left;rw [iV,if_neg (fun q=>e q.symm)];exact h1
   ·exact .inr h1
 ·intro d
  have:Id.up d≠b:=fun q=>by have:=hf.hup;rw [←q] at this;cases this
  rw [hoth _ this];exact h.up d

theorem aI.freezeP (h:aI F S gb σ a w) {s:Nat} {b:Id} {n sz:Nat} {rows:List (List AV)} {tl:List AV} (hf:kS σ s b n sz rows tl) (hk:sz<KB): ∃S' gb',aI F S' gb' (iC σ s b sz rows) a w:=by
 obtain ⟨S',gb',h1,g,cap,us,T,x1,x2,x3,x4,x5,x6,x7,x8,x9⟩:=h.freeze hf;have hs:s<F.N:=by
  rw [←h.size];apply Classical.byContradiction;intro hn
  have:tv a s=undef:=by simp only [tv,mK];rw [Array.getElem?_eq_none (by omega)];rfl
  rw [this] at x1;simp [undef] at x1
 have ha:a.put (some s) (tv a s)=a:=by
  have h2:s<a.tmps.size:=by rw [h.size];exact hs
  simp only [Act.put]
  have:a.tmps.setIfInBounds s (tv a s)=a.tmps:=by
   apply Array.ext_getElem?;intro i;rw [Array.getElem?_setIfInBounds];split
   ·rename_i e;subst e;simp [tv,mK,h2]
   ·rfl
  rw [this]
 have hp:=h1.env s;refine ⟨S',gb',?_⟩;have h3:=h1.puto hs (v:= .sl rows) (u:=tv a s) (k:=sz) (by simpa [fT,lk] using hp) (.inr (.inl ⟨hk,g,n,cap,us,T,x1,x2,x3,x4,x5,x6⟩)) (fun g1 hg1=>by rw [x1] at hg1;simp only [Value.ownBlock,cC] at hg1;subst hg1;exact x7)
  (fun p l b1 hl _ hb1 he=>by rw [x1] at he;simp only [Value.ownBlock,cC] at he;subst he;exact x8 p l hl hb1)
  (fun b1 d' z he hd hz=>by rw [x1] at he;simp only [Value.ownBlock,cC] at he;subst he;exact x9 d' z hd hz)
 rw [ha] at h3;exact h3
end Go.Ai
namespace Go.Ai
open Go.RowKit
variable {P:Program} {F:Fr} {S:aM} {gb:Gb} {σ:St} {a:Act} {w:World}

theorem j7 {ops:Array Oper} {j s:Nat} {t:Bool} (hd:((ops[j]?).bind (·.dst))=some s) (hv:a.tmps.getD s undef= .bool t):yielded ops a.tmps j=some t:=by
 unfold yielded;rw [hd];simp only [Option.bind_some];cases hq:a.tmps[s]? with
 |none=>simp [mK,hq,undef] at hv
 |some v=>simp [mK,hq] at hv;rw [hv]

theorem ir (h:aI F S gb σ a w) {ops:Array Oper} {o:Oper} {ao:bz} (hm:mt P F.GL F.N ops o ao=true) {K:St→Prop} (hw:bD (bc P F.GL) ao K σ) {K':Act→World→Prop} {Q:Exit→Act→World→Prop}
  (hK: ∀S gb σ a w,aI F S gb σ a w→K σ→K' a w):if Region.wanted o (yielded ops a.tmps)=true then o.wp P a w K' Q else K' (a.put o.dst undef) w:=by
 by_cases hg: ∃s b d o',ao= .gd s b d o'
 ·obtain ⟨s,b,d,ao',rfl⟩:=hg;simp only [mt,aE,an] at hm;obtain ⟨⟨h1,h2,h3⟩,h4⟩:=hm;split at h1<;>(try cases h1);rename_i j b' hgd;simp only [aE,bP] at h1;obtain ⟨rfl,hdst⟩:=h1;simp only [bD] at hw;split at hw
  ·rename_i ht;have henv:=h.env s;rw [nG ht] at henv;simp only [PR] at henv;have hy:=j7 (ops:=ops) hdst henv;simp only [Region.wanted,hgd,hy];rw [if_pos (by simp)];exact lL h h4 hw hK
  ·rename_i ht;have hy:(yielded ops a.tmps j==some b)=false:=by
    have henv:=h.env s;rcases uQ ht with e|e
    ·rw [e] at henv;simp only [PR] at henv;rw [j7 (ops:=ops) hdst henv];cases b<;>rfl
    ·rw [e] at henv;simp only [PR,aa] at henv;obtain ⟨us,hu,hn⟩:=henv
     have:yielded ops a.tmps j=none:=by
      unfold yielded;rw [hdst];simp only [Option.bind_some];cases hq:a.tmps[s]? with
      |none=>rfl
      |some v=>
       have:v= .tuple us:=by rw [←hu];simp [tv,mK,hq]
       rw [this]
     rw [this];rfl
   simp only [Region.wanted,hgd,hy];rw [if_neg (by simp)];rw [h2];exact hK _ _ _ _ _ (h.put h3 (by simp only [PR,aa,undef];exact ⟨#[],rfl,rfl⟩)) hw
  ·cases hw
 ·have hm':o.guard=none∧dM P F.GL F.N o ao=true:=by
   cases ao<;>simp only [mt,aE,Option.isNone_iff_eq_none] at hm<;>first|exact hm|exact absurd ⟨_,_,_,_,rfl⟩ hg
  simp only [Region.wanted,hm'.1,if_true];exact lL h hm'.2 hw hK

def lM (P:Program) (GL:List (Nat×List Value)) (N:Nat) (ops:Array Oper):List Oper→List bz→Bool
 |[],[]=>true
 |o::r,ao::s=>mt P GL N ops o ao&&lM P GL N ops r s
 |_,_=>false

theorem gp {ops:Array Oper} {K:St→Prop} {Q:Exit→Act→World→Prop} (hQ: ∀S gb σ a w,aI F S gb σ a w→K σ→Q .normal a w):
  ∀ {l:List Oper} {al:List bz},lM P F.GL F.N ops l al=true→ ∀ {S:aM} {gb:Gb} {σ:St} {a:Act} {w:World},aI F S gb σ a w→mm (bc P F.GL) al K σ→wpList P ops Q l a w
 |[],al,hm,S,gb,σ,a,w,h,hw=>by
  cases al<;>simp [lM] at hm;exact hQ _ _ _ _ _ h hw
 |o::r,al,hm,S,gb,σ,a,w,h,hw=>by
  cases al with
  |nil=>simp [lM] at hm
  |cons ao s=>
   simp only [lM,aE] at hm;simp only [mm] at hw
   have:=ir h hm.1 hw (K':=wpList P ops Q r) (Q:=Q) (fun S gb σ a w h' hk=>gp hQ hm.2 h' hk)
   simp only [wpList];split
   ·rename_i hc;rw [if_pos hc] at this;exact .inl this
   ·rename_i hc;rw [if_neg hc] at this;exact this

def mC (P:Program) (GL:List (Nat×List Value)) (N:Nat) (dr:Array Oper→List (List Nat)→List bz→Bool):Code→AC→Bool
 | .skip,.sk=>true
 | .region _ ops false,.rg l=>lM P GL N ops ops.toList l
 | .region _ ops false,.fz _ l=>lM P GL N ops ops.toList l
 | .region _ ops true,.rd us l=>lM P GL N ops ops.toList l&&dr ops us l
 | .seq x y,.sq x' y'=>mC P GL N dr x x'&&mC P GL N dr y y'
 | .cond c x y,.cd c' x' y'=>mX GL c' c&&mC P GL N dr x x'&&mC P GL N dr y y'
 | .block i x,.bl j x'=>i==j&&mC P GL N dr x x'
 | .loop x,.lp x'=>mC P GL N dr x x'
 | .exit i,.ex j=>i==j
 | .ret,.rt=>true
 | .scope x,.sc x'=>mC P GL N dr x x'
 | .label _,.lb=>true
 | .goto _,.no=>true
 | .refuse _,.no=>true
 |_,_=>false

def yW:AE→Exit
 | .n=> .normal
 | .x i=> .exit i
 | .r=> .ret

structure bK (P:Program) (GL:List (Nat×List Value)) (N:Nat) (dr:Array Oper→List (List Nat)→List bz→Bool):Prop where
 rd: ∀(F:Fr),F.GL=GL→F.N=N→ ∀(id:Nat) (ops:Array Oper) (us:List (List Nat)) (l:List bz),lM P F.GL F.N ops ops.toList l=true→dr ops us l=true→ ∀(K:St→Prop) (Q:Exit→Act→World→Prop),(∀S gb σ a w,aI F S gb σ a w→K σ→Q .normal a w)→
  ∀ {S:aM} {gb:Gb} {σ:St} {a:Act} {w:World},aI F S gb σ a w→kR (bc P F.GL) us l 0 [] K σ→(Code.region id ops true).wp P Q a w

theorem eA {dr:Array Oper→List (List Nat)→List bz→Bool} (hd:bK P F.GL F.N dr): ∀ {c:Code} {ac:AC},mC P F.GL F.N dr c ac=true→ ∀ {Q:AE→St→Prop} {Q':Exit→Act→World→Prop},(∀e S gb σ a w,aI F S gb σ a w→Q e σ→Q' (yW e) a w)→
  ∀ {S:aM} {gb:Gb} {σ:St} {a:Act} {w:World},aI F S gb σ a w→dG (bc P F.GL) ac Q σ→c.wp P Q' a w:=by
 intro c;induction c with
 |skip=>
  intro ac hm Q Q' hQ S gb σ a w h hw;cases ac<;>simp [mC] at hm;exact wp_skip (hQ .n _ _ _ _ _ h hw)
 |region id ops draw=>
  intro ac hm Q Q' hQ S gb σ a w h hw;cases ac
  case rg l=>
   cases draw<;>simp [mC] at hm;exact wp_region_list (gp (fun S gb σ a w h' hk=>hQ .n _ _ _ _ _ h' hk) hm h hw)
  case rd us l=>
   cases draw<;>simp [mC] at hm;exact hd.rd F rfl rfl id ops us l hm.1 hm.2 (Q .n) Q' (fun S gb σ a w h' hk=>hQ .n _ _ _ _ _ h' hk) h hw
  case fz s l=>
   cases draw<;>simp [mC] at hm;simp only [dG] at hw;obtain ⟨b,n,sz,rows,tl,hf,hk,hw⟩:=hw;obtain ⟨S',gb',h'⟩:=h.freezeP hf hk;exact wp_region_list (gp (fun S gb σ a w h' hk=>hQ .n _ _ _ _ _ h' hk) hm h' hw)
  all_goals (cases draw<;>simp [mC] at hm)
 |seq x y ihx ihy=>
  intro ac hm Q Q' hQ S gb σ a w h hw;cases ac
  case sq x' y'=>
   simp [mC] at hm;refine wp_seq (ihx hm.1 (Q:=AE.sq (dG (bc P F.GL) y' Q) Q) ?_ h hw);intro e S gb σ a w h' hq;cases e
   ·exact ihy hm.2 hQ h' hq
   ·exact hQ (.x _) _ _ _ _ _ h' hq
   ·exact hQ .r _ _ _ _ _ h' hq
  all_goals simp [mC] at hm
 |cond c x y ihx ihy=>
  intro ac hm Q Q' hQ S gb σ a w h hw;cases ac<;>simp [mC] at hm;rename_i c' x' y';obtain ⟨⟨hc,hx⟩,hy⟩:=hm;have hv:=aq h hc;simp only [dG] at hw;split at hw
  ·rename_i t ht;rw [ht] at hv;simp only [PR] at hv;refine wp_cond hv ?_;cases t
   ·exact ihy hy hQ h (by simpa using hw)
   ·exact ihx hx hQ h (by simpa using hw)
  ·cases hw
 |block i x ih=>
  intro ac hm Q Q' hQ S gb σ a w h hw;cases ac<;>simp [mC] at hm;rename_i j x';obtain ⟨rfl,hx⟩:=hm;refine wp_block (ih hx (Q:=AE.bl i Q) ?_ h hw);intro e S gb σ a w h' hq;cases e
  ·exact hQ .n _ _ _ _ _ h' hq
  ·rename_i j;simp only [yW,Exit.inBlock];simp only [AE.bl] at hq;split at hq
   ·rename_i e;rw [if_pos e];exact hQ .n _ _ _ _ _ h' hq
   ·rename_i e;rw [if_neg e];exact hQ (.x _) _ _ _ _ _ h' hq
  ·exact hQ .r _ _ _ _ _ h' hq
 |loop x ih=>
  intro ac hm Q Q' hQ S gb σ a w h hw;cases ac<;>simp [mC] at hm;rename_i x';simp only [dG] at hw;obtain ⟨n,hn⟩:=hw;intro b k cs;have key: ∀n S gb σ a w,aI F S gb σ a w→Dk (dG (bc P F.GL) x') Q n σ→ ∃e a' w',Q' e a' w'∧Arrives P (lone (b.at a (.code x:: .inLoop x::k)) cs w) b k cs e a' w':=by
   intro n;induction n with
   |zero=>intro S gb σ a w h hn;exact hn.elim
   |succ n ihn=>
    intro S gb σ a w h hn;obtain ⟨τ,hτ,hb⟩:=hn;obtain ⟨gb',h'⟩:=h.weakR hτ;obtain ⟨e,a₁,w₁,hq,harr⟩:=ih hm (Q:=AE.sq (Dk (dG (bc P F.GL) x') Q n) Q) (Q':=Exit.then (fun a w=> ∃S gb σ,aI F S gb σ a w∧Dk (dG (bc P F.GL) x') Q n σ) Q') (by
     intro e S gb σ a w h'' hq;cases e
     ·exact ⟨_,_,_,h'',hq⟩
     ·exact hQ (.x _) _ _ _ _ _ h'' hq
     ·exact hQ .r _ _ _ _ _ h'' hq) h' hb b (.inLoop x::k) cs
    cases e with
    |normal=>
     obtain ⟨S1,gb1,σ1,h1,hi1⟩:=hq;obtain ⟨e₂,a₂,w₂,hq₂,harr₂⟩:=ihn _ _ _ _ _ h1 hi1;exact ⟨e₂,a₂,w₂,hq₂,.of_steps (Steps.trans harr (.one step_inLoop)) harr₂⟩
    |exit id=>exact ⟨_,a₁,w₁,hq,.pass (x:= .inLoop x) rfl (fun _ _=> .inl (by simp)) harr⟩
    |goto l=>exact ⟨_,a₁,w₁,hq,.pass (x:= .inLoop x) rfl (fun _ _=> .inl (by simp)) harr⟩
    |ret=>exact ⟨_,a₁,w₁,hq,.pass (x:= .inLoop x) rfl (fun _ _=> .inl (by simp)) harr⟩
    |panic ch=>exact ⟨_,a₁,w₁,hq,.pass (x:= .inLoop x) rfl (fun _ _=> .inl (by simp)) harr⟩
    |outgrown=>exact ⟨_,a₁,w₁,hq,.pass (x:= .inLoop x) rfl (fun _ _=> .inl (by simp)) harr⟩
  obtain ⟨e,a',w',hq,harr⟩:=key n _ _ _ _ _ h hn;exact ⟨e,a',w',hq,.of_steps (.one step_loop) harr⟩
 |rangeFunc=>intro ac hm;cases ac<;>simp [mC] at hm
 |exit i=>
  intro ac hm Q Q' hQ S gb σ a w h hw;cases ac<;>simp [mC] at hm;subst hm;exact wp_exit (hQ (.x _) _ _ _ _ _ h hw)
 |scope x ih=>
  intro ac hm Q Q' hQ S gb σ a w h hw;cases ac<;>simp [mC] at hm;refine wp_scope_straight (ih hm (Q:=Q) ?_ h hw);intro e S gb σ a w h' hq;cases e<;>exact hQ _ _ _ _ _ _ h' hq
 |label l=>
  intro ac hm Q Q' hQ S gb σ a w h hw;cases ac<;>simp [mC] at hm;exact wp_label (hQ .n _ _ _ _ _ h hw)
 |goto l=>
  intro ac hm Q Q' hQ S gb σ a w h hw;cases ac<;>simp [mC] at hm;exact (show False from hw).elim
 |ret=>
  intro ac hm Q Q' hQ S gb σ a w h hw;cases ac<;>simp [mC] at hm;exact wp_ret (hQ .r _ _ _ _ _ h hw)
 |refuse=>
  intro ac hm Q Q' hQ S gb σ a w h hw;cases ac<;>simp [mC] at hm;exact (show False from hw).elim
end Go.Ai
