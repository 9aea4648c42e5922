/- Lib6: a part of the proof. Conditions: as each theorem says. -/
import Derived.Test.YtojgeamhdkphaaaGreatDoorLib5
set_option linter.unusedSimpArgs false
set_option linter.unusedVariables false
namespace Go.Ai
open Go.RowKit

def io (o:Oper):List Nat:=(o.after.toList.filter fun e=>Region.binds .any e).map (·.on)
def Ea:List Oper->List Nat->List Nat
 |[],acc=>acc
 |o::r,acc=>Ea r (acc++[(io o).foldl (fun s m=>s|||2^m|||acc.getD m 0) 0])
def CG (ops:List Oper) (A:List Nat):Bool:=
 (List.range ops.length).all fun j=>match ops[j]? with
  |some o=>(io o).all (fun m=>Nat.blt m j)&&(List.range j).all fun k=>!(A.getD j 0).testBit k||(io o).contains k||(io o).any fun m=>Nat.blt k m&&(A.getD m 0).testBit k
  |none=>false
def m7 (us:List (List Nat)) (l:List bv) (A:List Nat) (i j:Nat):Bool:=
 (A.getD j 0).testBit i||
 (let x:=l.getD i .no;let y:=l.getD j .no
  ((cG x).isNone||cG x !=cG y)&&(match cG x with |some d=>!(cz y).contains d|none=>true)&&(match cG y with |some d=>!(cz x).contains d|none=>true)&&
  ((im x).isNone||im x !=im y)&&(fQ x==0||fQ y==0||(fQ x==1&&fQ y==1)||(us.getD j []).contains i))
def cX (l:List bv):Nat:=if l.all Jq then l.length else l.length - 1
def JR (ops:Array Oper) (us:List (List Nat)) (l:List bv):Bool:=
 let A:=Ea ops.toList []
 let m:=cX l
 CG ops.toList A&&ops.size==l.length&&us.length==l.length&&(l.take m).all Jq&&((List.range m).all fun j=>(List.range j).all fun i=>m7 us l A i j)&&
  (m==l.length||(List.range m).all fun k=>(A.getD m 0).testBit k)

variable {Sp:Nat->Nat->In->bO->Prop}
theorem JS: ∀ {o:bv},Jq o=true->Pf o=true:=by
 intro o;induction o with
 |gd s b d o ih=>intro h;simp only[Jq,aJ] at h;exact ih h.2
 |_=>intro h;exact h

theorem yO: ∀ {h:List (Nat×Bx)} {u:List Nat} {b:Bx},Ge h u b-> ∀p∈h,p.1∈u->Lx p.2 b
 |[],_,_,_,p,hp,_=>by simp at hp
 |(i,b')::h,u,b,ho,p,hp,hu=>by
  simp only[Ge] at ho;cases hp with
  |head=>exact ho.1 hu
  |tail _ hp=>exact yO ho.2 p hp hu

theorem LA: ∀ {l:List bv} {us:List (List Nat)} {j0:Nat} {h:List (Nat×Bx)} {K:St->Prop} {σ:St} {ut:List (List Nat)} {lt:List bv},us.length=l.length->l.all Jq=true->jG Sp (us++ut) (l++lt) j0 h K σ->
  ∃(δs:Nat->Dl) (σs:Nat->St),σs 0=σ/\(∀(k:Nat) (o:bv),l[k]?=some o->f7 Sp o (· =δs k) (σs k)/\cK (σs (k+1))=(δs k).app (cK (σs k)))/\(∃j' h',jG Sp ut lt j' h' K (σs l.length))/\
   (∀(k:Nat) (o:bv) (u:List Nat) (b:Bx),l[k]?=some o->us[k]?=some u->fb (σs k) o=some b->(∀p∈h,p.1∈u->Lx p.2 b)/\(∀i o',i<k->l[i]?=some o'->i+j0∈u-> ∀b',fb (σs i) o'=some b'->Lx b' b))/\
   (∀(k:Nat) (o:bv) (u:List Nat),l[k]?=some o->us[k]?=some u->(∀p∈h,p.1∈u->p.2.kept (σs (k+1)))/\(∀i o',i<k->l[i]?=some o'->i+j0∈u-> ∀b',fb (σs i) o'=some b'->b'.kept (σs (k+1))))
 |[],us,j0,h,K,σ,ut,lt,hlen,hok,hw=>by
  cases us with
  |nil=>exact ⟨fun _=> .put 0 .undef,fun _=>σ,rfl,by simp,⟨j0,h,hw⟩,by simp,by simp⟩
  |cons=>simp at hlen
 |o::r,us,j0,h,K,σ,ut,lt,hlen,hok,hw=>by
  cases us with
  |nil=>simp at hlen
  |cons u us=>
   simp only[List.all_cons,aJ] at hok;obtain ⟨hoff,hw⟩:=hw;obtain ⟨δ,hd,hk⟩:=JO (JN (JS hok.1) hw);obtain ⟨hkp,hk⟩:=ef.1 hk;have hfit:=vT hok.1 hd;obtain ⟨δs,σs,t0,t1,t2,t3,t4⟩:=LA (by simpa using hlen) hok.2 hk;refine ⟨fun|0=>δ|k+1=>δs k,fun|0=>σ|k+1=>σs k,rfl,?_,t2,?_,?_⟩
   ·intro k o' ho;cases k with
    |zero=>
     simp at ho;subst ho;refine ⟨hd,?_⟩;simp only[t0];exact CD hfit.f
    |succ k=>simp at ho;exact t1 k o' ho
   ·intro k o' u' b ho hu hb;cases k with
    |zero=>
     simp at ho hu;subst ho;subst hu;refine ⟨?_,by intro i o' hi;omega⟩;simp only at hb;rw[hb] at hoff;simp only[JE] at hoff;exact yO hoff
    |succ k=>
     simp at ho hu;obtain ⟨s1,s2⟩:=t3 k o' u' b ho hu hb;refine ⟨fun p hp hpu=>s1 p ?_ hpu,fun i o2 hi ho2 hiu=>?_⟩
     ·cases hbb:fb σ o with
      |none=>exact hp
      |some b'=>simp only[AU];exact List.mem_cons_of_mem _ hp
     ·cases i with
      |zero=>
       simp at ho2;subst ho2;intro b' hbi;simp only at hbi;rw[hbi] at s1;exact s1 (j0,b') (by simp[AU]) (by simpa using hiu)
      |succ i=>
       simp at ho2;exact s2 i o2 (by omega) ho2 (by rw[show i+(j0+1)=i+1+j0 by omega];exact hiu)
   ·intro k o' u' ho hu;cases k with
    |zero=>
     simp at ho hu;subst ho;subst hu;refine ⟨?_,by intro i o' hi;omega⟩;simp only[t0];exact hkp
    |succ k=>
     simp at ho hu;obtain ⟨s1,s2⟩:=t4 k o' u' ho hu;refine ⟨fun p hp hpu=>s1 p ?_ hpu,fun i o2 hi ho2 hiu=>?_⟩
     ·cases hbb:fb σ o with
      |none=>exact hp
      |some b'=>simp only[AU];exact List.mem_cons_of_mem _ hp
     ·cases i with
      |zero=>
       simp at ho2;subst ho2;intro b' hbi;simp only at hbi;rw[hbi] at s1;exact s1 (j0,b') (by simp[AU]) (by simpa using hiu)
      |succ i=>
       simp at ho2;exact s2 i o2 (by omega) ho2 (by rw[show i+(j0+1)=i+1+j0 by omega];exact hiu)
theorem uI {x y:List (Id×List AV)} {b:Id} {off:Nat} (h:aD x b=aD y b):e8 x (.ptr b off)=e8 y (.ptr b off):=by
 simp only[e8,h]
theorem JT: ∀ {o:bv} {σ:St} {b:Id} {off:Nat} {v:AV},fb σ o=some (.cel b off v)->e8 σ.bx (.ptr b off)=some v/\fQ o=1:=by
 intro o;induction o with
 |gd s b d o ih=>
  intro σ b' off v h;simp only[fb] at h;split at h
  ·split at h
   ·simpa[fQ] using ih h
   ·cases h
  ·cases h
 |ldf d x=>
  intro σ b off v h;simp only[fb] at h;split at h
  ·split at h
   ·rename_i hl;cases h;exact ⟨hl,rfl⟩
   ·cases h
  ·cases h
 |_=>
  intro σ b off v h;simp only[fb] at h;repeat' (first|(split at h)|contradiction)
  all_goals cases h

theorem uJ {n i:Nat} {listed:Array Bool} (hs:n<=listed.size) (hi:i<n) (hf:listed.getD i false=false):
  ((List.range n).filter fun j=>(listed.setIfInBounds i true).getD j false).length=((List.range n).filter fun j=>listed.getD j false).length+1:=by
 have key: ∀m,m<=n->((List.range m).filter fun j=>(listed.setIfInBounds i true).getD j false).length=((List.range m).filter fun j=>listed.getD j false).length+if i<m then 1 else 0:=by
  intro m;induction m with
  |zero=>intro _;simp
  |succ m ih=>
   intro hm;rw[List.range_succ,List.filter_append,List.filter_append,fT,fT,ih (by omega)];by_cases him:i=m
   ·subst him;have e1:(listed.setIfInBounds i true).getD i false=true:=by simp[kC,show i<listed.size by omega]
    have e2:([i].filter fun j=>(listed.setIfInBounds i true).getD j false)=[i]:=by simp only[List.filter_cons,e1,if_true,List.filter_nil]
    have e3:([i].filter fun j=>listed.getD j false)=[]:=by simp only[List.filter_cons,hf,List.filter_nil];rfl
    rw[e2,e3,if_neg (Nat.lt_irrefl _),if_pos (Pb _)];rfl
   ·have e1:(listed.setIfInBounds i true).getD m false=listed.getD m false:=by
     simp[kC,Array.getElem?_setIfInBounds_ne him]
    have e2:([m].filter fun j=>(listed.setIfInBounds i true).getD j false)=[m].filter fun j=>listed.getD j false:=by simp only[List.filter_cons,e1,List.filter_nil]
    rw[e2];by_cases h1:i<m
    ·rw[if_pos h1,if_pos (by omega)];omega
    ·rw[if_neg h1,if_neg (by omega)];omega
 have:=key n (eR _)
 rw[if_pos hi] at this;exact this

variable {P:Program} {GL:List (Nat×List Value)} {N:Nat}

theorem Eb {F:Fr} {ops:Array Oper} {us:List (List Nat)} {l:List bv} {ut:List (List Nat)} {lt:List bv} {A:List Nat}
  (hn:l.length<=ops.size) (hanc:CG ops.toList A=true) (hus:us.length=l.length) (hokG:l.all Jq=true)
  (hpair:((List.range l.length).all fun j=>(List.range j).all fun i=>m7 us l A i j)=true)
  (hop: ∀(i:Nat) (o:Oper),ops[i]?=some o->i<l.length-> ∃ao,l[i]?=some ao/\mt P F.GL F.N ops o ao=true)
  (htail: ∀i,l.length<=i->i<ops.size-> ∀k,k<l.length->(A.getD i 0).testBit k=true)
  {K:St->Prop} {Q:Exit->Act->World->Prop}
  (hfin: ∀(listed:Array Bool) (a:Act) (w:World),listed.size=ops.size->(∀j,j<l.length->listed.getD j false=true)->(∀j,l.length<=j->listed.getD j false=false)->
    ∀(S:aR) (gb:Gb) (τ:St) (j':Nat) (h':List (Nat×Bx)),aN F S gb τ a w->jG (bC P F.GL) ut lt j' h' K τ->wpAny P .any ops Q (ops.size - l.length) listed a w)
  {S:aR} {gb:Gb} {σ:St} {a:Act} {w:World} (hrel:aN F S gb σ a w) (hw:jG (bC P F.GL) (us++ut) (l++lt) 0 [] K σ):wpAny P .any ops Q ops.size (Array.replicate ops.size false) a {w with drawn:=w.drawn+1}:=by
 obtain ⟨δs,σs,t0,t1,⟨j',h',t2⟩,t3,t4⟩:=LA hus hokG hw;have hdir: ∀(j:Nat) (o:Oper),ops[j]?=some o->(∀m∈io o,m<j)/\ ∀k,k<j->(A.getD j 0).testBit k=true->k∈io o\/ ∃m∈io o,k<m/\(A.getD m 0).testBit k=true:=by
  intro j o ho;have hj:j<ops.size:=(qC.1 ho).1
  have:=ik.1 hanc j (List.mem_range.2 (by simpa using hj))
  simp only[Array.getElem?_toList,ho,aJ,ik,AG,tL,List.contains_eq_mem,qu,List.any_eq_true,List.mem_range] at this;refine ⟨fun m hm=>by have:=this.1 m hm;simpa using this,fun k hk hb=>?_⟩;rcases this.2 k hk with (h|h)|⟨m,h1,h2,h3⟩
  · rw[h] at hb;cases hb
  · exact .inl h
  · exact .inr ⟨m,h1,by simpa using h2,h3⟩
 let cl (listed:Array Bool):Prop:= ∀(j:Nat) (o:Oper),ops[j]?=some o->listed.getD j false=true-> ∀m∈io o,listed.getD m false=true
 have hclos: ∀listed,cl listed-> ∀(j:Nat) (o:Oper),ops[j]?=some o->(∀m∈io o,listed.getD m false=true)-> ∀k,k<j->(A.getD j 0).testBit k=true->listed.getD k false=true:=by
  intro listed hcl j;induction j using Nat.strongRecOn with
  |_ j ih=>
    intro o ho hd k hk hb;obtain ⟨d1,d2⟩:=hdir j o ho;rcases d2 k hk hb with h|⟨m,hm,hkm,hbm⟩
    ·exact hd k h
    ·have hmj:=d1 m hm;have hms:m<ops.size:=by have:=(qC.1 ho).1;omega
     obtain ⟨om,hom⟩: ∃om,ops[m]?=some om:=⟨ops[m],by simp[hms]⟩;exact ih m hmj om hom (hcl m om hom (hd m hm)) k hkm hbm
 have hview: ∀k,k<=l.length->cK (σs k)=gk δs (List.range k) (cK σ):=by
  intro k;induction k with
  |zero=>intro _;rw[t0];rfl
  |succ k ih=>
    intro hk;obtain ⟨o,ho⟩: ∃o,l[k]?=some o:=⟨l[k],by simp⟩;rw[List.range_succ,jZ,(t1 k o ho).2,ih (by omega)]
 have hord: ∀(i j:Nat) (ao bo:bv),i<j->l[i]?=some ao->l[j]?=some bo->(A.getD j 0).testBit i=false->
    (∀d,cG ao=some d->cG bo≠some d)/\(∀d,cG ao=some d->d∉cz bo)/\(∀d,cG bo=some d->d∉cz ao)/\(∀s,im ao=some s->im bo≠some s)/\
    (∀b,gX (fb (σs i) ao) b->gX (fb (σs j) bo) b->fQ ao=1/\fQ bo=1):=by
  intro i j ao bo hij hi hj hb;have hjl:j<l.length:=(qZ.1 hj).1;have hp:=ik.1 (ik.1 hpair j (List.mem_range.2 hjl)) i (List.mem_range.2 hij);have ei:l.getD i .no=ao:=by simp[Cq,hi]
  have ej:l.getD j .no=bo:=by simp[Cq,hj]
  simp only[m7,hb,Bool.false_or,ei,ej,aJ] at hp;obtain ⟨⟨⟨⟨h1,h2⟩,h3⟩,h4⟩,h5⟩:=hp;refine ⟨fun d hd=>?_,fun d hd=>?_,fun d hd=>?_,fun s hs=>?_,fun b hb1 hb2=>?_⟩
  · rw[hd] at h1;simp at h1;exact fun e=>h1 e.symm
  · rw[hd] at h2;simpa using h2
  · rw[hd] at h3;simpa using h3
  · rw[hs] at h4;simp at h4;exact fun e=>h4 e.symm
  · obtain ⟨x1,y1⟩: ∃x,fb (σs i) ao=some x:=by
     cases h:fb (σs i) ao with
     |none=>rw[h] at hb1;cases hb1
     |some x=>exact ⟨x,rfl⟩
    obtain ⟨x2,y2⟩: ∃x,fb (σs j) bo=some x:=by
     cases h:fb (σs j) bo with
     |none=>rw[h] at hb2;cases hb2
     |some x=>exact ⟨x,rfl⟩
    rw[y1] at hb1;rw[y2] at hb2;have z1:=CF y1;have z2:=CF y2;simp only[AG,cI,z1,z2,false_or,aJ] at h5;rcases h5 with h5|h5
    ·exact h5
    ·exfalso;have hul:j<us.length:=by omega
     obtain ⟨u,hu⟩: ∃u,us[j]?=some u:=⟨us[j],by simp[hul]⟩;have hiu:i∈u:=by simpa[Cq,hu] using h5
     exact Md ((t3 j bo u x2 hj hu y2).2 i ao hij hi (by simpa using hiu) x1 y1) hb1 hb2
 have hconf: ∀(i j:Nat) (ao bo:bv),i≠j->l[i]?=some ao->l[j]?=some bo->
    ((∃t,cG bo=some t/\(t∈cz ao\/cG ao=some t))\/(∃s,im bo=some s/\(cG ao=some s\/im ao=some s))\/(∃b,gX (fb (σs j) bo) b/\fQ bo=2/\gX (fb (σs i) ao) b))->
    (i<j->(A.getD j 0).testBit i=true)/\(j<i->(A.getD i 0).testBit j=true):=by
  intro i j ao bo hne hi hj hc;constructor
  · intro hij;cases hb:(A.getD j 0).testBit i with
    |true=>rfl
    |false=>
     exfalso;obtain ⟨g1,g2,g3,g4,g5⟩:=hord i j ao bo hij hi hj hb;rcases hc with ⟨t,h1,h2⟩|⟨s,h1,h2⟩|⟨b,h1,h2,h3⟩
     ·rcases h2 with h2|h2
      ·exact g3 t h1 h2
      ·exact g1 t h2 h1
     ·rcases h2 with h2|h2
      ·exact g2 s h2 (nU h1)
      ·exact g4 s h2 h1
     ·have:=g5 b h3 h1;omega
  · intro hji;cases hb:(A.getD i 0).testBit j with
    |true=>rfl
    |false=>
     exfalso;obtain ⟨g1,g2,g3,g4,g5⟩:=hord j i bo ao hji hj hi hb;rcases hc with ⟨t,h1,h2⟩|⟨s,h1,h2⟩|⟨b,h1,h2,h3⟩
     ·rcases h2 with h2|h2
      ·exact g2 t h1 h2
      ·exact g1 t h1 h2
     ·rcases h2 with h2|h2
      ·exact g3 s h2 (nU h1)
      ·exact g4 s h1 h2
     ·have:=g5 b h1 h3;omega
 have hfit: ∀(k:Nat) (o:bv),l[k]?=some o->Oe o (σs k) (δs k):=fun k o ho=>vT (ik.1 hokG o (List.mem_of_getElem? ho)) (t1 k o ho).1
 let D (listed:Array Bool):List Nat:=(List.range l.length).filter fun j=>listed.getD j false
 have hstep: ∀(listed:Array Bool) (i:Nat) (ao:bv) (o:Oper) (τ:St),listed.size=ops.size->cl listed->ops[i]?=some o->l[i]?=some ao->listed.getD i false=false->(∀m∈io o,listed.getD m false=true)->
    cK τ=gk δs (D listed) (cK σ)->Pg ao (σs i) τ/\(δs i).app (cK τ)=gk δs (D (listed.setIfInBounds i true)) (cK σ):=by
  intro listed i ao o τ hls hcl ho hi hf hd hτ;have hil:i<l.length:=(qZ.1 hi).1;have hpast: ∀(j:Nat) (bo:bv),l[j]?=some bo->i≠j->((∃t,cG bo=some t/\(t∈cz ao\/cG ao=some t))\/(∃s,im bo=some s/\(cG ao=some s\/im ao=some s))\/(∃b,gX (fb (σs j) bo) b/\fQ bo=2/\gX (fb (σs i) ao) b))->(listed.getD j false=true↔j<i):=by
    intro j bo hj hne hc;obtain ⟨c1,c2⟩:=hconf i j ao bo hne hi hj hc;constructor
    ·intro hl;rcases Nat.lt_or_ge j i with h|h
     ·exact h
     ·exfalso;have hij:i<j:=by omega
      have hjs:j<ops.size:=by have:=(qZ.1 hj).1;omega
      have:=hclos listed hcl j ops[j] (by simp[hjs]) (hcl j ops[j] (by simp[hjs]) hl) i hij (c1 hij)
      rw[hf] at this;cases this
    ·intro hji;exact hclos listed hcl i o ho hd j hji (c2 hji)
  have same: ∀(q:Nat->Bool),(∀(j:Nat) (bo:bv),j<l.length->l[j]?=some bo->q j=true->j≠i->(listed.getD j false=true↔j<i))->
     ((D listed).filter q)=((List.range i).filter q):=by
    intro q hq;simp only[D,List.filter_filter];refine nV (Nat.le_of_lt hil) (fun j hj=>?_);obtain ⟨bo,hbo⟩: ∃bo,l[j]?=some bo:=⟨l[j],by simp[hj]⟩;cases hqj:q j with
    |false=>simp
    |true=>
     by_cases hji:j=i
     ·subst hji;simp[hf]
     ·have:=hq j bo hj hbo hqj hji
      simp only[nC,Bool.and_true];by_cases h1:j<i
      ·rw[this.2 h1];simp[h1]
      ·have h2:listed.getD j false=false:=by
        cases h3:listed.getD j false with
        |false=>rfl
        |true=>exact absurd (this.1 h3) h1
       rw[h2];simp;omega
  have hvi:=hview i (Nat.le_of_lt hil);have tEc: ∀(t j:Nat) (bo:bv),l[j]?=some bo->tE t (δs j)=true->cG bo=some t:=by
    intro t j bo hj ht;simp only[tE] at ht;split at ht
    ·rename_i d x he;simp only[cI] at ht;subst ht;exact (hfit j bo hj).e _ _ he
    ·cases ht
  have tBc: ∀(b:Id) (j:Nat) (bo:bv),l[j]?=some bo->tB b (δs j)=true->gX (fb (σs j) bo) b/\fQ bo=2:=by
    intro b j bo hj ht;simp only[tB] at ht;obtain ⟨x,hx⟩:=jp.1 ht;exact (hfit j bo hj).b _ _ hx
  have tMc: ∀(p:Pl) (j:Nat) (bo:bv),l[j]?=some bo->tM p (δs j)=true->(∃d,p.at d=true/\cG bo=some d)\/(∃s,p= .s s/\im bo=some s)\/(∃b off,p= .b b off/\gX (fb (σs j) bo) b/\fQ bo=2):=by
    intro p j bo hj ht;obtain ⟨x,hx⟩:=jp.1 ht;exact (hfit j bo hj).m p x hx
  refine ⟨⟨fun t ht=>?_,fun b hb=>?_,fun p hp=>?_,fun b off hb h2=>?_,fun x hx=>?_⟩,?_⟩
  · have e1:lk (σs i).e t=(gk δs (List.range i) (cK σ)).E t:=by rw[<-hvi];rfl
    have e2:lk τ.e t=(gk δs (D listed) (cK σ)).E t:=by rw[<-hτ];rfl
    rw[e1,e2,vU δs t _ _ (cK σ) rfl,vU δs t (D listed) _ (cK σ) rfl,same _ (fun j bo _ hj hq hne=>hpast j bo hj (Ne.symm hne) (.inl ⟨t,tEc t j bo hj hq,.inl ht⟩))]
  · have e1:aD (σs i).bx b=(gk δs (List.range i) (cK σ)).B b:=by rw[<-hvi];rfl
    have e2:aD τ.bx b=(gk δs (D listed) (cK σ)).B b:=by rw[<-hτ];rfl
    rw[e1,e2,pb δs b _ _ (cK σ) rfl,pb δs b (D listed) _ (cK σ) rfl,same _ (fun j bo _ hj hq hne=>by
     obtain ⟨q1,q2⟩:=tBc b j bo hj hq;exact hpast j bo hj (Ne.symm hne) (.inr (.inr ⟨b,q1,q2,hb⟩)))]
  · have e1:aH (σs i).pm p=(gk δs (List.range i) (cK σ)).M p:=by rw[<-hvi];rfl
    have e2:aH τ.pm p=(gk δs (D listed) (cK σ)).M p:=by rw[<-hτ];rfl
    rw[e1,e2,pd δs p _ _ (cK σ) rfl,pd δs p (D listed) _ (cK σ) rfl,same _ (fun j bo _ hj hq hne=>by
     refine hpast j bo hj (Ne.symm hne) ?_;rcases JQ p hp with ⟨s,rfl,hs⟩|⟨b,off,rfl,hb1,hb2⟩
     ·rcases tMc _ j bo hj hq with ⟨d,e,hd'⟩|⟨s',e,hs'⟩|⟨_,_,e,_⟩
      ·simp[Pl.at] at e;subst e;exact .inl ⟨_,hd',.inl (nU hs)⟩
      ·cases e;exact .inr (.inl ⟨s,hs',.inr hs⟩)
      ·cases e
     ·rcases tMc _ j bo hj hq with ⟨d,e,hd'⟩|⟨s',e,hs'⟩|⟨b',off',e,h1,h2⟩
      ·simp[Pl.at] at e
      ·cases e
      ·cases e;exact .inr (.inr ⟨b,h1,h2,hb1⟩))]
  · have e1:aH (σs i).pm (.b b off)=(gk δs (List.range i) (cK σ)).M (.b b off):=by rw[<-hvi];rfl
    have e2:aH τ.pm (.b b off)=(gk δs (D listed) (cK σ)).M (.b b off):=by rw[<-hτ];rfl
    rw[e1,e2,pd δs (.b b off) _ _ (cK σ) rfl,pd δs (.b b off) (D listed) _ (cK σ) rfl,same _ (fun j bo _ hj hq hne=>by
     refine hpast j bo hj (Ne.symm hne) ?_;rcases tMc _ j bo hj hq with ⟨d,e,hd'⟩|⟨s',e,hs'⟩|⟨b',off',e,h1,h2⟩
     ·simp[Pl.at] at e
     ·cases e
     ·cases e;exact .inr (.inr ⟨b,h1,h2,hb⟩))]
  ·
    cases x with
    |one b=>trivial
    |fr l=>trivial
    |cel b off v=>
     obtain ⟨c1,c2⟩:=JT hx;have ei:l.getD i .no=ao:=by simp[Cq,hi]
     have early: ∀(j:Nat) (bo:bv),l[j]?=some bo->tB b (δs j)=true->j<i->listed.getD j false=true:=by
      intro j bo hj hq hji;obtain ⟨q1,q2⟩:=tBc b j bo hj hq;refine hclos listed hcl i o ho hd j hji ?_;cases hb:(A.getD i 0).testBit j with
      |true=>rfl
      |false=>
       exfalso;have hp:=ik.1 (ik.1 hpair i (List.mem_range.2 hil)) j (List.mem_range.2 hji);have ej:l.getD j .no=bo:=by simp[Cq,hj]
       simp only[m7,hb,Bool.false_or,ei,ej,aJ,q2,c2] at hp;have h5:=hp.2;simp at h5;obtain ⟨x1,y1⟩: ∃x,fb (σs j) bo=some x:=by
        cases h:fb (σs j) bo with
        |none=>rw[h] at q1;cases q1
        |some x=>exact ⟨x,rfl⟩
       obtain ⟨u,hu⟩: ∃u,us[i]?=some u:=⟨us[i],by simp[show i<us.length by omega]⟩;have hju:j∈u:=by simpa[Cq,hu] using h5
       have:=(t3 i ao u _ hi hu hx).2 j bo hji hj (by simpa using hju) x1 y1
       rw[y1] at q1;cases x1<;>simp only[Lx,gX,Bx.tch] at this q1
     have late: ∀(m:Nat) (bo:bv),l[m]?=some bo->tB b (δs m)=true->i<m->listed.getD m false=true->e8 (σs (m+1)).bx (.ptr b off)=some v:=by
      intro m bo hm hq him hlm;obtain ⟨q1,q2⟩:=tBc b m bo hm hq;have hml:m<l.length:=(qZ.1 hm).1;have hms:m<ops.size:=by omega
      have hb:(A.getD m 0).testBit i=false:=by
       cases hb:(A.getD m 0).testBit i with
       |false=>rfl
       |true=>
        have:=hclos listed hcl m ops[m] (by simp[hms]) (hcl m ops[m] (by simp[hms]) hlm) i him hb
        rw[hf] at this;cases this
      have hp:=ik.1 (ik.1 hpair m (List.mem_range.2 hml)) i (List.mem_range.2 him);have ej:l.getD m .no=bo:=by simp[Cq,hm]
      simp only[m7,hb,Bool.false_or,ei,ej,aJ,q2,c2] at hp;have h5:=hp.2;simp at h5;obtain ⟨u,hu⟩: ∃u,us[m]?=some u:=⟨us[m],by simp[show m<us.length by omega]⟩;have hju:i∈u:=by simpa[Cq,hu] using h5
      exact (t4 m bo u hm hu).2 i ao him hi (by simpa using hju) _ hx
     have e2:aD τ.bx b=(gk δs (D listed) (cK σ)).B b:=by rw[<-hτ];rfl
     rw[pb δs b (D listed) _ (cK σ) rfl] at e2;simp only[Bx.kept];by_cases hm: ∃m,m∈(D listed).filter (fun j=>tB b (δs j))/\i<m
     ·obtain ⟨m,hmL,him⟩:=hm;have hsort:((D listed).filter (fun j=>tB b (δs j))).Pairwise (· < ·):=(List.pairwise_lt_range (n:=l.length)).sublist (List.filter_sublist.trans List.filter_sublist);rcases List.eq_nil_or_concat ((D listed).filter (fun j=>tB b (δs j))) with hL|⟨L,m',hL⟩
      ·rw[hL] at hmL;cases hmL
      ·rw[hL] at hmL hsort e2;have hle:i<m':=by
        rw[List.concat_eq_append] at hmL hsort;rcases jD.1 hmL with h|h
        ·have:=(List.pairwise_append.1 hsort).2.2 m h m' (by simp)
         omega
        ·simp at h;omega
       have hm':m'∈(D listed).filter (fun j=>tB b (δs j)):=by rw[hL];simp
       obtain ⟨hm1,hm2⟩:=List.mem_filter.1 hm';obtain ⟨hm3,hm4⟩:=List.mem_filter.1 hm1;have hml:=List.mem_range.1 hm3;obtain ⟨bo,hbo⟩: ∃bo,l[m']?=some bo:=⟨l[m'],by simp[hml]⟩;have k1:=late m' bo hbo hm2 hle hm4;rw[List.concat_eq_append,jZ] at e2;have e3:aD (σs (m'+1)).bx b=((δs m').app (cK (σs m'))).B b:=by rw[<-(t1 m' bo hbo).2];rfl
       simp only[tB] at hm2;obtain ⟨cs,hcs⟩:=jp.1 hm2;simp only[Dl.app,hcs] at e2 e3;rw[uI (e2.trans e3.symm)];exact k1
     ·have sm:=same (fun j=>tB b (δs j)) (fun j bo hjl hj hq hne=>by
       constructor
       ·intro hl;rcases Nat.lt_or_ge j i with h|h
        ·exact h
        ·exact absurd ⟨j,List.mem_filter.2 ⟨List.mem_filter.2 ⟨List.mem_range.2 hjl,hl⟩,hq⟩,by omega⟩ hm
       ·intro hji;exact early j bo hj hq hji)
      rw[sm] at e2;have e1:aD (σs i).bx b=(gk δs (List.range i) (cK σ)).B b:=by rw[<-hvi];rfl
      rw[pb δs b _ _ (cK σ) rfl] at e1;rw[uI (e2.trans e1.symm)];exact c1
  ·
    rw[hτ];have hfi:=hfit i ao hi;have hD': ∀(q:Nat->Bool),(q i=true-> ∀(j:Nat) (bo:bv),j<l.length->l[j]?=some bo->q j=true->j≠i->(listed.getD j false=true↔j<i))->
      (D (listed.setIfInBounds i true)).filter q=if q i=true then (D listed).filter q++[i] else (D listed).filter q:=by
     intro q hq;have gs: ∀j,(listed.setIfInBounds i true).getD j false=if j=i then true else listed.getD j false:=by
      intro j;by_cases h1:j=i
      ·subst h1;simp[kC,show j<listed.size by omega]
      ·rw[if_neg h1];simp[kC,Array.getElem?_setIfInBounds_ne (Ne.symm h1)]
     by_cases hqi:q i=true
     ·rw[if_pos hqi,same q (hq hqi)]
      have:(List.range i).filter q++[i]=(List.range (i+1)).filter q:=by rw[List.range_succ,List.filter_append];simp[hqi]
      rw[this];simp only[D,List.filter_filter];refine nV (by omega) (fun j hj=>?_);obtain ⟨bo,hbo⟩: ∃bo,l[j]?=some bo:=⟨l[j],by simp[hj]⟩;rw[gs j];cases hqj:q j with
      |false=>simp
      |true=>
       by_cases hji:j=i
       ·subst hji;simp
       ·have:=hq hqi j bo hj hbo hqj hji
        rw[if_neg hji];simp only[nC,Bool.and_true];by_cases h1:j<i
        ·rw[this.2 h1];simp;omega
        ·have h2:listed.getD j false=false:=by
          cases h3:listed.getD j false with
          |false=>rfl
          |true=>exact absurd (this.1 h3) h1
         rw[h2];simp;omega
     ·rw[if_neg hqi];simp only[D,List.filter_filter];apply List.filter_congr;intro j hj;rw[gs j];by_cases hji:j=i
      ·subst hji;simp[hqi]
      ·rw[if_neg hji]
    apply LS.ext'
    ·intro t;rw[vU δs t (D (listed.setIfInBounds i true)) _ (cK σ) rfl,hD' _ (fun hqi j bo _ hj hq hne=>hpast j bo hj (Ne.symm hne) (.inl ⟨t,tEc t j bo hj hq,.inr (tEc t i ao hi hqi)⟩))];split
     ·rename_i hqi;rw[jZ];simp only[tE] at hqi;simp only[Dl.app];split at hqi
      ·rename_i d x he;simp only[cI] at hqi;simp[hqi]
      ·cases hqi
     ·rename_i hqi;rw[<-vU δs t (D listed) (cK σ) (cK σ) rfl];simp only[Dl.app];split
      ·rename_i d x he;rw[if_neg];intro e;exact hqi (by simp[tE,he,e])
      ·rfl
    ·intro t;rw[pb δs t (D (listed.setIfInBounds i true)) _ (cK σ) rfl,hD' _ (fun hqi j bo _ hj hq hne=>by
      obtain ⟨q1,q2⟩:=tBc t j bo hj hq;exact hpast j bo hj (Ne.symm hne) (.inr (.inr ⟨t,q1,q2,(tBc t i ao hi hqi).1⟩)))]
     split
     ·rename_i hqi;rw[jZ];simp only[tB] at hqi;obtain ⟨x,hx⟩:=jp.1 hqi;simp only[Dl.app,hx]
     ·rename_i hqi;rw[<-pb δs t (D listed) (cK σ) (cK σ) rfl];simp only[Dl.app];split
      ·rename_i x he;exact absurd (by simp[tB,he]) hqi
      ·rfl
    ·intro t;rw[pd δs t (D (listed.setIfInBounds i true)) _ (cK σ) rfl,hD' _ (fun hqi j bo _ hj hq hne=>by
      refine hpast j bo hj (Ne.symm hne) ?_;rcases tMc t i ao hi hqi with ⟨d,hat,hd1⟩|⟨s,rfl,hs1⟩|⟨b,off,rfl,hb1,hb2⟩
      ·rcases tMc _ j bo hj hq with ⟨d',e,hd'⟩|⟨s',e,hs'⟩|⟨_,_,e,_⟩
       ·have:d'=d:=by cases t<;>simp[Pl.at] at e hat<;>omega
        subst this;exact .inl ⟨d',hd',.inr hd1⟩
       ·subst e;simp[Pl.at] at hat;subst hat;exact .inr (.inl ⟨_,hs',.inl hd1⟩)
       ·subst e;simp[Pl.at] at hat
      ·rcases tMc _ j bo hj hq with ⟨d',e,hd'⟩|⟨s',e,hs'⟩|⟨_,_,e,_⟩
       ·simp[Pl.at] at e;subst e;exact .inl ⟨_,hd',.inl (nU hs1)⟩
       ·cases e;exact .inr (.inl ⟨s,hs',.inr hs1⟩)
       ·cases e
      ·rcases tMc _ j bo hj hq with ⟨d',e,hd'⟩|⟨s',e,hs'⟩|⟨b',off',e,h1,h2⟩
       ·simp[Pl.at] at e
       ·cases e
       ·cases e;exact .inr (.inr ⟨b,h1,h2,hb1⟩))]
     split
     ·rename_i hqi;rw[jZ];simp only[tM] at hqi;obtain ⟨x,hx⟩:=jp.1 hqi;simp only[Dl.app,hx]
     ·rename_i hqi;rw[<-pd δs t (D listed) (cK σ) (cK σ) rfl];simp only[Dl.app];split
      ·rename_i x he;exact absurd (by simp[tM,he]) hqi
      ·rfl
 have congr: ∀ {S gb τ τ' a w},cK τ=cK τ'->aN F S gb τ a w->aN F S gb τ' a w:=by
  intro S gb τ τ' a w hv h;have he:lk τ'.e=lk τ.e:=by have:=congrArg LS.E hv;exact this.symm
  have hb:aD τ'.bx=aD τ.bx:=by have:=congrArg LS.B hv;exact this.symm
  have hp:aH τ'.pm=aH τ.pm:=by have:=congrArg LS.M hv;exact this.symm
  refine ⟨h.defers,h.size,h.bw,h.ext,h.le,?_,⟨h.hr.agree,?_,?_,?_,?_,?_,?_,?_⟩,?_,?_,?_,h.up,h.glo⟩
  · intro t;rw[he];exact h.env t
  · intro d cs;rw[hb];exact h.hr.box d cs
  · intro d cs;rw[hb];exact h.hr.its d cs
  · intro d d';rw[hb];exact h.hr.inj d d'
  · intro p k;rw[hp];exact h.hr.own p k
  · intro p q k l' b;rw[hp];exact h.hr.ownd p q k l' b
  · intro p k b d;rw[hp,hb];exact h.hr.ownb p k b d
  · intro d off k;rw[hp,hb];exact h.hr.pmb d off k
  · intro d g z;rw[hb];exact h.newb d g z
  · intro p k g;rw[hp];exact h.newo p k g
  · intro d;rw[hb];exact h.dom d
 have main: ∀fuel listed a w,listed.size=ops.size->fuel+(D listed).length=l.length->(∀j,l.length<=j->listed.getD j false=false)->cl listed->(∃S gb τ,aN F S gb τ a w/\cK τ=gk δs (D listed) (cK σ))->wpAny P .any ops Q (fuel+(ops.size - l.length)) listed a w:=by
  have allDone: ∀listed a w,listed.size=ops.size->(∀j,j<l.length->listed.getD j false=true)->(∀j,l.length<=j->listed.getD j false=false)->(∃S gb τ,aN F S gb τ a w/\cK τ=gk δs (D listed) (cK σ))->wpAny P .any ops Q (ops.size - l.length) listed a w:=by
    rintro listed a w hls hall hopen ⟨S,gb,τ,h,hτ⟩;refine hfin listed a w hls hall hopen S gb (σs l.length) j' h' (congr ?_ h) t2;rw[hτ,hview _ (eR _)];congr 1
    simp only[D];exact List.filter_eq_self.2 (fun j hj=>hall j (List.mem_range.1 hj))
  have notReady: ∀listed,listed.size=ops.size->Region.ready .any ops listed=[]-> ∀j,j<ops.size->listed.getD j false=true:=by
    intro listed hls hr j;induction j using Nat.strongRecOn with
    |_ j ih=>
     intro hj;cases hl:listed.getD j false with
     |true=>rfl
     |false=>
      exfalso;have hjs:j<ops.size:=hj;have hmem:j∈Region.ready .any ops listed:=by
       simp only[Region.ready,List.mem_filter,List.mem_range,aJ,tL];refine ⟨hjs,?_,?_⟩
       ·have:listed.getD j true=listed.getD j false:=by simp[kC,show j<listed.size by omega]
        rw[this,hl]
       ·have ho:ops[j]?=some ops[j]:=by simp[hjs]
        simp only[ho,Option.map_some,Option.getD_some];rw[Array.all_eq_true_iff_forall_mem];intro e he;simp only[AG,tL];cases hbi:Region.binds .any e with
        |false=>left;rfl
        |true=>
         right;have hm:e.on∈io ops[j]:=by
          simp only[io,oY,List.mem_filter];exact ⟨e,⟨by simpa using he,hbi⟩,rfl⟩
         have:=(hdir j _ ho).1 e.on hm
         exact ih e.on this (by omega)
      rw[hr] at hmem;simp at hmem
  intro fuel;induction fuel with
  |zero=>
    intro listed a w hls hcnt hopen hcl hrel';have hall: ∀j,j<l.length->listed.getD j false=true:=by
     intro j hj;have hlen:(D listed).length=(List.range l.length).length:=by simpa using hcnt
     have:=List.length_filter_eq_length_iff.1 hlen j (List.mem_range.2 hj)
     exact this
    rw[l5];exact allDone listed a w hls hall hopen hrel'
  |succ fuel ih=>
    intro listed a w hls hcnt hopen hcl hrel';have hex: ∃j,j<l.length/\listed.getD j false=false:=by
     refine Classical.byContradiction fun hno=>?_
     have hall: ∀j,j<l.length->listed.getD j false=true:=by
      intro j hj;cases hl:listed.getD j false with
      |true=>rfl
      |false=>exact absurd ⟨j,hj,hl⟩ hno
     have:(D listed).length=(List.range l.length).length:=List.length_filter_eq_length_iff.2 fun j hj=>hall j (List.mem_range.1 hj)
     simp only[List.length_range] at this;omega
    rw[show fuel+1+(ops.size - l.length)=(fuel+(ops.size - l.length))+1 by omega];refine ⟨fun hr=>?_,fun i hi=>?_⟩
    ·obtain ⟨j,hj,hjf⟩:=hex;rw[notReady listed hls hr j (by omega)] at hjf;cases hjf
    simp only[Region.ready,List.mem_filter,List.mem_range,aJ,tL] at hi;obtain ⟨his,hif,hib⟩:=hi;have hf:listed.getD i false=false:=by
     have:listed.getD i true=listed.getD i false:=by simp[kC,show i<listed.size by omega]
     rw[<-this];exact hif
    have ho:ops[i]?=some ops[i]:=by simp[his]
    have hd: ∀m∈io ops[i],listed.getD m false=true:=by
     intro m hm;simp only[ho,Option.map_some,Option.getD_some] at hib;rw[Array.all_eq_true_iff_forall_mem] at hib;simp only[io,oY,List.mem_filter] at hm;obtain ⟨e,⟨he,hbi⟩,rfl⟩:=hm
     have:=hib e (by simpa using he)
     simpa[hbi] using this
    have hil:i<l.length:=by
     rcases Nat.lt_or_ge i l.length with h|h
     ·exact h
     ·exfalso;obtain ⟨j,hj,hjf⟩:=hex;rw[hclos listed hcl i _ ho hd j (by omega) (htail i h his j hj)] at hjf;cases hjf
    obtain ⟨ao,hi2,hmt⟩:=hop i _ ho hil;obtain ⟨S,gb,τ,h,hτ⟩:=hrel';obtain ⟨hagr,hnext⟩:=hstep listed i ao ops[i] τ hls hcl ho hi2 hf hd hτ;have hwp:=CE hagr (t1 i ao hi2).1;have hfit':=vT (ik.1 hokG ao (List.mem_of_getElem? hi2)) hwp;have hw1:bU (bC P F.GL) ao (fun τ'=>cK τ'=(δs i).app (cK τ)) τ:=JM (D9 (K':=fun δ=>cK (δ.ap τ)=(δs i).app (cK τ)) (CD hfit'.f) hwp);have hcl':cl (listed.setIfInBounds i true):=by
     intro j oj hoj hlj m hm;have keep: ∀m,listed.getD m false=true->(listed.setIfInBounds i true).getD m false=true:=by
      intro m hm;by_cases h1:m=i
      ·subst h1;simp[kC,hls,his]
      ·simp only[kC,Array.getElem?_setIfInBounds_ne (Ne.symm h1)] at hm ⊢;exact hm
     by_cases hji:j=i
     ·subst hji;rw[ho] at hoj;cases hoj;exact keep m (hd m hm)
     ·have:listed.getD j false=true:=by
       simp only[kC,Array.getElem?_setIfInBounds_ne (Ne.symm hji)] at hlj ⊢;exact hlj
      exact keep m (hcl j oj hoj this m hm)
    have hcnt':fuel+(D (listed.setIfInBounds i true)).length=l.length:=by
     have:=uJ (show l.length<=listed.size by omega) hil hf
     simp only[D] at hcnt ⊢;omega
    have:=iO h hmt hw1 (K':=wpAny P .any ops Q (fuel+(ops.size - l.length)) (listed.setIfInBounds i true)) (Q:=Q) (fun S' gb' τ' a' w' h' hv'=>
     ih _ a' w' (by simpa using hls) hcnt' (fun j hj=>by have:=hopen j hj;simp only[kC,Array.getElem?_setIfInBounds_ne (show i≠j by omega)] at this ⊢;exact this) hcl' ⟨S',gb',τ',h',by rw[hv'];exact hnext⟩)
    unfold wpOp;rw[ho];simp only[];split
    ·rename_i hc;rw[if_pos hc] at this;exact .inl this
    ·rename_i hc;rw[if_neg hc] at this;exact this
 have rep: ∀j,(Array.replicate ops.size false).getD j false=false:=by
  intro j;simp only[kC,Array.getElem?_replicate];split<;>rfl
 have none:D (Array.replicate ops.size false)=[]:=by
  simp only[D,List.filter_eq_nil_iff,List.mem_range];intro j hj;rw[rep j];simp
 have:=main l.length (Array.replicate ops.size false) a {w with drawn:=w.drawn+1} (by simp) (by rw[none];simp) (fun j _=>rep j) (fun j o ho hl=>by rw[rep j] at hl;cases hl) ⟨S,gb,σ,hrel.drew,by rw[none];rfl⟩
 rw[show l.length+(ops.size - l.length)=ops.size by omega] at this;exact this

theorem Bc {P:Program} {GL:List (Nat×List Value)} {N:Nat}:
 ∀(F:Fr),F.GL=GL->F.N=N-> ∀(ops:Array Oper) (us:List (List Nat)) (l:List bv),lJ P F.GL F.N ops ops.toList l=true->JR ops us l=true-> ∀(K:St->Prop) (Q:Exit->Act->World->Prop),(∀S gb σ a w,aN F S gb σ a w->K σ->Q .normal a w)->
  ∀ {S:aR} {gb:Gb} {σ:St} {a:Act} {w:World},aN F S gb σ a w->jG (bC P F.GL) us l 0 [] K σ->wpAny P .any ops Q ops.size (Array.replicate ops.size false) a {w with drawn:=w.drawn+1}:=by
 intro F hGL hN ops us l hmts hdr K Q hQ S gb σ a w hrel hw;simp only[JR,aJ,cI] at hdr;obtain ⟨⟨⟨⟨⟨hanc,hsz⟩,hus⟩,hokG⟩,hpair⟩,htl⟩:=hdr;have hop: ∀(i:Nat) (o:Oper),ops[i]?=some o-> ∃ao,l[i]?=some ao/\mt P F.GL F.N ops o ao=true:=by
  have: ∀(ol:List Oper) (al:List bv),lJ P F.GL F.N ops ol al=true-> ∀(i:Nat) (o:Oper),ol[i]?=some o-> ∃ao,al[i]?=some ao/\mt P F.GL F.N ops o ao=true:=by
   intro ol;induction ol with
   |nil=>intro al _ i o h;simp at h
   |cons x r ih=>
    intro al hm i o h;cases al with
    |nil=>simp[lJ] at hm
    |cons y s=>
     simp only[lJ,aJ] at hm;cases i with
     |zero=>simp at h;subst h;exact ⟨y,by simp,hm.1⟩
     |succ i=>simp at h ⊢;exact ih s hm.2 i o h
  intro i o h;exact this _ _ hmts i o (by simpa using h)
 generalize hA:Ea ops.toList []=A at hanc hpair htl;have hm:cX l<=l.length:=by unfold cX;split<;>omega
 have hlt:(l.take (cX l)).length=cX l:=by simp;omega
 have hut:(us.take (cX l)).length=cX l:=by simp;omega
 have hgl: ∀j,j<cX l->(l.take (cX l)).getD j .no=l.getD j .no:=by
  intro j hj;simp only[Cq,qr,if_pos hj]
 have hgu: ∀j,j<cX l->(us.take (cX l)).getD j []=us.getD j []:=by
  intro j hj;simp only[Cq,qr,if_pos hj]
 refine Eb (us:=us.take (cX l)) (l:=l.take (cX l)) (ut:=us.drop (cX l)) (lt:=l.drop (cX l)) (A:=A) (K:=K) (by rw[hlt];omega) hanc (by rw[hlt,hut]) hokG ?_ ?_ ?_ ?_ hrel (by
  rw[F9,F9];exact hw)
 ·rw[hlt];refine ik.2 fun j hj=>ik.2 fun i hi=>?_
  have hj':=List.mem_range.1 hj;have hi':=List.mem_range.1 hi
  have:=ik.1 (ik.1 hpair j hj) i hi
  unfold m7 at this ⊢;rw[hgl i (by omega),hgl j hj',hgu j hj'];exact this
 ·intro i o ho hi;rw[hlt] at hi;obtain ⟨ao,h1,h2⟩:=hop i o ho;exact ⟨ao,by rw[qr,if_pos hi];exact h1,h2⟩
 ·intro i hi his k hk;rw[hlt] at hi hk;have hi2:i=cX l:=by
   have:cX l=l.length\/cX l=l.length - 1:=by unfold cX;split<;>simp
   omega
  subst hi2;simp only[AG,cI,ik,List.mem_range] at htl;rcases htl with h|h
  ·omega
  ·exact h k hk
 ·intro listed a w hls hall hopen S gb τ j' h' hr hwl;rw[hlt] at hall hopen ⊢;have hcase:cX l=l.length\/(cX l+1=l.length):=by
   have:cX l=l.length\/cX l=l.length - 1:=by unfold cX;split<;>simp
   rcases this with h|h
   ·exact .inl h
   ·rcases Nat.eq_zero_or_pos l.length with h0|h0
    ·left;omega
    ·right;omega
  rcases hcase with hc|hc
  ·have e1:l.drop (cX l)=[]:=by rw[hc];simp
   have e2:us.drop (cX l)=[]:=by rw[hc,<-hus];simp
   rw[e1,e2] at hwl;rw[show ops.size - cX l=0 by omega];refine ⟨?_,hQ S gb τ a w hr hwl⟩;simp only[Region.ready,List.filter_eq_nil_iff,List.mem_range,aJ,tL,not_and];intro j hj hf
   have:listed.getD j true=listed.getD j false:=by simp[kC,show j<listed.size by omega]
   rw[this,hall j (by omega)] at hf;cases hf
  ·obtain ⟨o,ho⟩: ∃o,l[cX l]?=some o:=⟨l[cX l],by simp⟩;obtain ⟨u,hu⟩: ∃u,us[cX l]?=some u:=⟨us[cX l],by simp⟩;have e1:l.drop (cX l)=[o]:=by
    rw[xI (by omega),Co (by omega)]
    have:=(qZ.1 ho).2
    rw[this]
   have e2:us.drop (cX l)=[u]:=by
    rw[xI (by omega),Co (by omega)]
    have:=(qZ.1 hu).2
    rw[this]
   rw[e1,e2] at hwl;obtain ⟨-,hw1⟩:=hwl;have hpl:cX l<ops.size:=by omega
   have hops:ops[cX l]?=some ops[cX l]:=by simp[hpl]
   obtain ⟨ao,h1,hmt⟩:=hop _ _ hops;rw[ho] at h1;cases h1;rw[show ops.size - cX l=0+1 by omega];have hready: ∀lst:Array Bool,lst.size=ops.size->(∀j,j<l.length->lst.getD j false=true)->Region.ready .any ops lst=[]:=by
    intro lst hl hal;simp only[Region.ready,List.filter_eq_nil_iff,List.mem_range,aJ,tL,not_and];intro j hj hf
    have:lst.getD j true=lst.getD j false:=by simp[kC,show j<lst.size by omega]
    rw[this,hal j (by omega)] at hf;cases hf
   have hdirs: ∀m∈io ops[cX l],m<cX l:=by
    intro m hm'
    have:=ik.1 hanc (cX l) (List.mem_range.2 (by simpa using hpl))
    simp only[Array.getElem?_toList,hops,aJ,ik] at this;simpa using this.1 m hm'
   have hrd:cX l∈Region.ready .any ops listed:=by
    simp only[Region.ready,List.mem_filter,List.mem_range,aJ,tL];refine ⟨hpl,?_,?_⟩
    ·have:listed.getD (cX l) true=listed.getD (cX l) false:=by simp[kC,show cX l<listed.size by omega]
     rw[this,hopen _ (eR _)]
    ·simp only[hops,Option.map_some,Option.getD_some];rw[Array.all_eq_true_iff_forall_mem];intro e he;simp only[AG,tL];cases hbi:Region.binds .any e with
     |false=>left;rfl
     |true=>
      right;refine hall _ (hdirs e.on ?_);simp only[io,oY,List.mem_filter];exact ⟨e,⟨by simpa using he,hbi⟩,rfl⟩
   refine ⟨fun hr0=>(by rw[hr0] at hrd;cases hrd),fun i hi=>?_⟩;simp only[Region.ready,List.mem_filter,List.mem_range,aJ,tL] at hi;have hi2:i=cX l:=by
    rcases Nat.lt_or_ge i (cX l) with h|h
    ·have hh:=hi.2.1
     have:listed.getD i true=listed.getD i false:=by simp[kC,show i<listed.size by omega]
     rw[this,hall i h] at hh;cases hh
    ·omega
   subst hi2;have hlast:=iO hr hmt hw1 (K':=wpAny P .any ops Q 0 (listed.setIfInBounds (cX l) true)) (Q:=Q) (fun S' gb' τ' a' w' hr' hk'=>by
    refine ⟨hready _ (by simpa using hls) fun j hj=>?_,hQ S' gb' τ' a' w' hr' (ef.1 hk').2⟩;by_cases hjp:j=cX l
    ·subst hjp;simp[kC,hls,hpl]
    ·simp only[kC,Array.getElem?_setIfInBounds_ne (Ne.symm hjp)]
     have:=hall j (by omega)
     simpa only[kC] using this)
   unfold wpOp;rw[hops];simp only[];split
   ·rename_i hc;rw[if_pos hc] at hlast;exact .inl hlast
   ·rename_i hc;rw[if_neg hc] at hlast;exact hlast
end Go.Ai
namespace Go.Ai
open Go.RowKit
variable {P:Program} {F:Fr} {S:aR} {gb:Gb} {σ:St} {a:Act} {w:World} {ops:Array Oper}
inductive Bd (P:Program) (w:World) (e:TypeId) (z:Value) (sz:Nat) (us:List Value) (m:Nat):Value->Value->World->Prop
 |grow {base:Option Addr} {n cap:Nat} {olds:List Value}:cap<n+m->olds.length=n*sz->(Builtin.firstCells sz n (.slice base n cap)).run P w.drew= .ok olds.toArray w.drew->
  Bd P w e z sz us m (.slice base n cap) (.slice (some ⟨w.heap.size,0,none⟩) (n+m) (grownCap w (n+m) cap e)) (w.drew.alloc (.cells ((olds++us).toArray++Builtin.zeroCells z.cells (grownCap w (n+m) cap e - (n+m))) e))
 |room {g n cap:Nat} {cur:Array Value} {T:TypeId}:n+m<=cap->w.heap[g]?=some (.cells cur T (0,0))->n*sz+us.length<=cur.size->
  Bd P w e z sz us m (.slice (some ⟨g,0,none⟩) n cap) (.slice (some ⟨g,0,none⟩) (n+m) cap) (w.setRow g (cur.toList.take (n*sz)++us++cur.toList.drop (n*sz+us.length)).toArray)
theorem Bd.run {e:TypeId} {i:TypeInfo} {z:Value} {us:List Value} {m:Nat} {sv u yv:Value} {w':World} (h:Bd P w e z i.size us m sv u w') {t ty:TypeId} (ht:P.underlying t=some (.slice e)) (hi:P.info? e=some i) (hz:i.zero=some z)
  (h3: ∀v∈us,v.oneCell'=true) (hy:(Builtin.lenOf yv).run P w= .ok m w) (hf:(Builtin.firstCells i.size m yv).run P w= .ok us.toArray w) (hf':(Builtin.firstCells i.size m yv).run P w.drew= .ok us.toArray w.drew)
  (hlim: ∀b n c,sv= .slice b n c->(n+m)*i.bytes<=nD/\n+m<=9223372036854775807):(Builtin.append_ #[t,t] ty #[sv,yv]).run P w= .ok u w':=by
 cases h with
 | @grow base n cap olds hcap hl hfo=>
  obtain ⟨l1,l2⟩:=hlim _ _ _ rfl;have hfit:=growslice_fits (need:=n+m) (old:=cap) (bytes:=i.bytes) hcap (by unfold nD at l1;exact l1);exact iE (P:=P) (w:=w) (ty:=ty) ht (.inl ht) hi hz hy hf' hfo hcap hfit l2
 | @room g n cap cur T hr hg hs=>
  have hst:=run_storeCells_at P g (n*i.size) T us 0 cur w hg (by simpa using hs) h3;simp only[tF] at hst;exact iD (P:=P) (w:=w) (ty:=ty) ht (.inl ht) hi (base:=some ⟨g,0,none⟩) (n:=n) (cap:=cap) (us:=us) hy hf hr (fun b hb=>by
   cases hb;rw[Addr.add_lit,l5];exact hst) (fun hb=>by cases hb)
theorem vV (w:World) (A B:Array Value) (e:TypeId):(w.alloc (.cells A e)).setRow w.heap.size B=w.alloc (.cells B e):=by
 unfold World.setRow World.alloc;simp only;congr 1
 apply Array.ext_getElem?;intro k;simp only[Array.getElem?_modify,Array.getElem?_push];by_cases hk:k=w.heap.size
 ·subst hk;simp
 ·simp[hk,Ne.symm hk]
theorem CH {α:Type} (A B C D:List α) (n:Nat) (hn:A.length=n) (h:B.length=C.length):(A++B++D).take n++C++(A++B++D).drop (n+C.length)=A++C++D:=by
 subst hn;have h1:(A++B++D).take A.length=A:=by rw[xv,List.take_left]
 have h2:(A++B++D).drop (A.length+C.length)=D:=by
  rw[<-h,show A.length+B.length=(A++B).length by simp,List.drop_left]
 rw[h1,h2]
theorem Bd.split {e:TypeId} {z:Value} {sz:Nat} {us zs:List Value} {m:Nat} {sv u:Value} {w2:World} (h:Bd P w e z sz us m sv u w2) (hl:zs.length=us.length):
  ∃g n cap c1 T w1,(∃b c,sv= .slice b n c)/\u= .slice (some ⟨g,0,none⟩) (n+m) cap/\Bd P w e z sz zs m sv u w1/\w1.heap[g]?=some (.cells c1 T (0,0))/\n*sz+us.length<=c1.size/\
   w2=w1.setRow g (c1.toList.take (n*sz)++us++c1.toList.drop (n*sz+us.length)).toArray/\w1.heap.size=w2.heap.size:=by
 cases h with
 | @grow base n cap olds hcap ho hfo=>
  refine ⟨w.heap.size,n,_,(olds++zs).toArray++Builtin.zeroCells z.cells (grownCap w (n+m) cap e - (n+m)),e,_,⟨_,_,rfl⟩,rfl,.grow (us:=zs) hcap ho hfo,?_,by simp[ho,hl],?_,(by show (w.drew.heap.push _).size=(w.drew.heap.push _).size;rw[Array.size_push,Array.size_push])⟩
  ·show (w.drew.heap.push _)[w.drew.heap.size]?=_;rw[Array.getElem?_push_size]
  have:=vV w.drew ((olds++zs).toArray++Builtin.zeroCells z.cells (grownCap w (n+m) cap e - (n+m))) (((olds++zs).toArray++Builtin.zeroCells z.cells (grownCap w (n+m) cap e - (n+m))).toList.take (n*sz)++us++((olds++zs).toArray++Builtin.zeroCells z.cells (grownCap w (n+m) cap e - (n+m))).toList.drop (n*sz+us.length)).toArray e
  rw[show w.drew.heap.size=w.heap.size from rfl] at this;rw[this];congr 2
  apply Array.ext';simp only[Array.toList_append,List.toList_toArray];exact (CH olds zs us _ (n*sz) ho hl).symm
 | @room g n cap cur T hr hg hs=>
  refine ⟨g,n,cap,_,T,_,⟨_,_,rfl⟩,rfl,.room (us:=zs) hr hg (by omega),setRow_heap w g cur _ T _ hg,by simp;omega,?_,by simp⟩;rw[setRow_setRow];congr 1
  apply Array.ext';simp only[List.toList_toArray];have h1:(cur.toList.take (n*sz)).length=n*sz:=by simp;omega
  rw[<-hl]
  have:=(CH (cur.toList.take (n*sz)) zs us (cur.toList.drop (n*sz+zs.length)) (n*sz) h1 hl).symm
  rw[<-hl] at this;exact this

inductive Ph (P:Program) (ops:Array Oper):List Nat->Act->Act->Prop
 |nil {a:Act}:Ph P ops [] a a
 |cons {i:Nat} {is:List Nat} {o:Oper} {v:Value} {a a':Act}:ops[i]?=some o->Yields P ops o v a->Ph P ops is (a.put o.dst v) a'->Ph P ops (i::is) a a'
def yP (ops:Array Oper) (B:Array Bool->Bool):List Nat->Array Bool->Bool
 |[],l=>B l
 |i::r,l=>Region.free .any ops l i&&(Region.ready .any ops l).contains i&&yP ops B r (l.setIfInBounds i true)
theorem Of {Q:Exit->Act->World->Prop} (hs:Region.noSelect ops=true) (hQ: ∀c a w,¬Q (.panic c) a w) {B:Array Bool->Bool} {fuel:Nat} {w:World}: ∀ {is:List Nat} {listed:Array Bool} {a a':Act},yP ops B is listed=true->Ph P ops is a a'->
  (∀l',B l'=true->wpAny P .any ops Q fuel l' a' w)->wpAny P .any ops Q (fuel+is.length) listed a w
 |[],listed,a,a',hb,hc,h=>by
  cases hc;exact h _ hb
 |i::is,listed,a,a',hb,hc,h=>by
  simp only[yP,aJ] at hb;cases hc with
  |cons ho hy hc=>
   exact wpAny_take ho hs hb.1.1 hb.1.2 (fun c a w q=>absurd q (hQ _ _ _)) hy (Of hs hQ hb.2 hc h)
def Rc (ops:Array Oper) (i j:Nat) (l:Array Bool):Bool:=
 Region.ready .any ops l==[i,j]&&Region.ready .any ops (l.setIfInBounds i true)==[j]&&Region.ready .any ops (l.setIfInBounds j true)==[i]&&Region.ready .any ops ((l.setIfInBounds i true).setIfInBounds j true)==[]&&Region.ready .any ops ((l.setIfInBounds j true).setIfInBounds i true)==[]
def Og (ops:Array Oper) (j:Nat) (l:Array Bool):Bool:=Region.ready .any ops l==[j]&&Region.ready .any ops (l.setIfInBounds j true)==[]
def vW (m n:Nat):Array Bool:=(List.replicate m true++List.replicate (n - m) false).toArray
def Re (ops:Array Oper) (m q:Nat):Bool:=
 Region.noSelect ops&&ops.size==m+(4+q)&&Region.ready .any ops (vW m ops.size)==[m]&&yP ops (Rc ops (m+2) (m+3+q)) ((m+1)::List.range' (m+3) q) ((vW m ops.size).setIfInBounds m true)
def Rf (ops:Array Oper) (m q:Nat):Bool:=
 Region.noSelect ops&&ops.size==m+(2+q)&&Region.ready .any ops (vW m ops.size)==[m]&&yP ops (Og ops (m+1+q)) (List.range' (m+1) q) ((vW m ops.size).setIfInBounds m true)
structure Vq (P:Program) (F:Fr) (ops:Array Oper) (A E T H:Oper) (Ads:List Oper) (p:PA):Prop where
 m:Vp P F.GL F.N A E T p=true
 ads:lJ P F.GL F.N ops Ads p.ad=true
 h:H.guard=none/\dC P F.GL F.N H (.so p.ta p.d)=true
def TX (ops:Array Oper) (us:List (List Nat)) (l:List bv) (two:Bool):Bool:=
 let A:=Ea ops.toList []
 CG ops.toList A&&us.length==l.length&&l.all Jq&&((List.range l.length).all fun j=>(List.range j).all fun i=>m7 us l A i j)&&((List.range ops.size).all fun i=>Nat.blt i l.length||(List.range l.length).all fun k=>(A.getD i 0).testBit k)&&
  (if two then Rf ops l.length (ops.size - l.length - 2) else Re ops l.length (ops.size - l.length - 4))
def dT (ops:Array Oper) (us:List (List Nat)) (l:List bv):Bool:=match l.reverse with
 | .gd _ _ _ (.gd _ _ _ _):: .gd _ _ _ (.gd _ _ _ _)::r=>TX ops us r.reverse true
 | .gd _ _ _ (.gd _ _ _ _)::r=>TX ops us r.reverse false
 |_=>JR ops us l
theorem Mk: ∀ {ol:List Oper} {al:List bv},lJ P F.GL F.N ops ol al=true-> ∀(i:Nat) (o:Oper),ol[i]?=some o-> ∃ao,al[i]?=some ao/\mt P F.GL F.N ops o ao=true:=by
 intro ol;induction ol with
 |nil=>intro al _ i o h;simp at h
 |cons x r ih=>
  intro al hm i o h;cases al with
  |nil=>simp[lJ] at hm
  |cons y s=>
   simp only[lJ,aJ] at hm;cases i with
   |zero=>simp at h;subst h;exact ⟨y,by simp,hm.1⟩
   |succ i=>simp at h ⊢;exact ih hm.2 i o h
theorem JU: ∀ {ol:List Oper} {al:List bv},lJ P F.GL F.N ops ol al=true->ol.length=al.length:=by
 intro ol;induction ol with
 |nil=>intro al h;cases al with
  |nil=>rfl
  |cons=>simp[lJ] at h
 |cons x r ih=>intro al h;cases al with
  |nil=>simp[lJ] at h
  |cons y s=>simp only[lJ,aJ] at h;simp[ih h.2]
structure jb (P:Program) (GL:List (Nat×List Value)) (N:Nat) (dr:Array Oper->List (List Nat)->List bv->Bool):Prop where
 rd: ∀(F:Fr),F.GL=GL->F.N=N-> ∀(ops:Array Oper) (us:List (List Nat)) (l:List bv),lJ P F.GL F.N ops ops.toList l=true->dr ops us l=true-> ∀(K:St->Prop) (Q:Exit->Act->World->Prop),(∀S gb σ a w,aN F S gb σ a w->K σ->Q .normal a w)->
  ∀ {S:aR} {gb:Gb} {σ:St} {a:Act} {w:World},aN F S gb σ a w->jG (bC P F.GL) us l 0 [] K σ->wpAny P .any ops Q ops.size (Array.replicate ops.size false) a {w with drawn:=w.drawn+1}
theorem uK {GL:List (Nat×List Value)} {N:Nat}:jb P GL N dT where
 rd:=by
  intro F hGL hN ops us l hmts hdr K Q hQ S gb σ a w hrel hw;have no: ∀ {r:List bv} {x1 x2 x3 y1 y2 y3 z},l.reverse= .gd x1 x2 x3 (.gd y1 y2 y3 z)::r->False:=by
   intro r x1 x2 x3 y1 y2 y3 z e;have e2:l=r.reverse++[.gd x1 x2 x3 (.gd y1 y2 y3 z)]:=by rw[<-List.reverse_reverse l,e];simp
   have hl:=JU hmts;have hlen:l.length=r.length+1:=by rw[e2];simp
   obtain ⟨o,ho⟩: ∃o,ops.toList[r.length]?=some o:=⟨ops.toList[r.length]'(by omega),by rw[uk]⟩;obtain ⟨ao,h1,h2⟩:=Mk hmts _ _ ho;rw[e2,List.getElem?_append_right (by simp)] at h1;simp at h1;subst h1;simp[mt,dC] at h2
  have:JR ops us l=true:=by
   unfold dT at hdr;split at hdr
   ·rename_i e;exact (no e).elim
   ·rename_i e;exact (no e).elim
   ·exact hdr
  exact Bc F hGL hN ops us l hmts this K Q hQ hrel hw
theorem GC {GL:List (Nat×List Value)} {N:Nat} (hmix:P.follows .mixedOrders=true):b7 P GL N dT where
 mix:=hmix
 rd:=fun F hGL hN id ops us l hmts hdr K Q hQ {S gb σ a w} hrel hw=>wp_region_any hmix (uK.rd F hGL hN ops us l hmts hdr K Q hQ hrel hw)
end Go.Ai
namespace Go.Ai

attribute [simp] ev lk aD Cr aH dl xA gV St.v St.put St.puto Pc vF cw e8 uq AV.cs em k9 q8 lz jE uo um kD AQ fb Ge JE AU Lx FP AE.sq AE.bl gh vQ ja dD AV.ids bm Pl.ids qD FN iX AO q9 byteCells kA tP qv FM Pl.lt Id.isUp Id.isIt rb AV.mk AV.mkk MK.av BM KF mJ AV.pid
def ld (K:St->Prop) (σ:St):Option (Nat×AV)->Prop
 |some (d,v)=>K (σ.put d v)
 |none=>False
def Nu (A B:St->Prop) (σ:St):AV->Prop
 | .bool t=>if t=true then A σ else B σ
 |_=>False
def Rg (S:Nat->Nat->In->bO->Prop) (f d:Nat) (K:St->Prop) (σ:St):Option (List AV)->Prop
 |some l=> ∃r,rh S f l r/\K (σ.put d r)
 |none=>False
def TY (K:St->Prop) (d:Nat) (σ:St):Prop:=K (σ.put d (.tup []))
def Rh (b:Bool) (A U:St->Prop) (σ:St) (v:AV):Prop:=match JB v b with
 |some true=>A σ
 |some false=>U σ
 |none=>False
attribute [simp] bU.eq_1 bU.eq_2 bU.eq_3 bU.eq_4 bU.eq_5 bU.eq_6 bU.eq_7 bU.eq_8 bU.eq_9 bU.eq_10 bU.eq_11 bU.eq_12 bU.eq_13 bU.eq_14 bU.eq_15 bU.eq_16 bU.eq_17 bU.eq_18 bU.eq_19 bU.eq_20 bU.eq_21 bU.eq_22 bU.eq_23 bU.eq_24 bU.eq_25 bU.eq_26 bU.eq_27
def Vr (S:Nat->Nat->In->bO->Prop) (f d:Nat) (s:Option X) (ps:List X) (K:St->Prop) (σ:St):Prop:= ∃k out,JD S f σ s ps k out/\K (AT d s (.sl out) k σ)
@[simp] theorem Ri {K:St->Prop} {d:Nat} {σ:St}:TY K d σ=K (σ.put d (.tup [])):=rfl
section
variable {S:Nat->Nat->In->bO->Prop} {Q:AE->St->Prop} {σ:St} {B:St->Prop}
@[simp] theorem Rj:dK S .sk Q σ=Q .n σ:=rfl
@[simp] theorem Rk {l}:dK S (.rg l) Q σ=lu S l (Q .n) σ:=rfl
@[simp] theorem Rl {us l}:dK S (.rd us l) Q σ=jG S us l 0 [] (Q .n) σ:=rfl
@[simp] theorem GE {a b}:dK S (.sq a b) Q σ=dK S a (AE.sq (dK S b Q) Q) σ:=rfl
@[simp] theorem Rm {i a}:dK S (.bl i a) Q σ=dK S a (AE.bl i Q) σ:=rfl
@[simp] theorem Rn {i}:dK S (.ex i) Q σ=Q (.x i) σ:=rfl
@[simp] theorem Ro:dK S .rt Q σ=Q .r σ:=rfl
@[simp] theorem Rq {a}:dK S (.sc a) Q σ=dK S a Q σ:=rfl
@[simp] theorem Rr:dK S .lb Q σ=Q .n σ:=rfl
@[simp] theorem Rs:dK S .no Q σ=False:=rfl
def Pi (K:St->Prop) (s:Nat) (σ:St):Prop:= ∃τ,DU σ τ/\ ∃b n sz rows tl,lA τ s b n sz rows tl/\sz<4294967296/\K (lC τ s b sz rows)
theorem Ml {K:St->Prop} {s:Nat} {σ:St} (b:Id) (n sz:Nat) (rows:List (List AV)) (tl:List AV) (h:lA σ s b n sz rows tl) (hz:sz<4294967296) (hk:K (lC σ s b sz rows)):Pi K s σ:=⟨σ,.z _,b,n,sz,rows,tl,h,hz,hk⟩
theorem JV {K:St->Prop} {s:Nat} {σ:St} (b:Id) (sz:Nat) (rows:List (List AV)) (tl:List AV) (h:Gf σ b sz rows tl) (hk:Pi K s (lB σ b rows)):Pi K s σ:=by
 obtain ⟨τ,h1,h2⟩:=hk;exact ⟨τ,.s b sz rows tl h h1,h2⟩
@[simp] theorem GF {s l}:dK S (.fz s l) Q σ=Pi (lu S l (Q .n)) s σ:=rfl
@[simp] theorem Rt {x a b}:dK S (.cd x a b) Q σ=Nu (dK S a Q) (dK S b Q) σ (σ.v x):=rfl
variable {K A:St->Prop}
@[simp] theorem Oh {d v}:ld K σ (some (d,v))=K (σ.put d v):=rfl
@[simp] theorem Oi:ld K σ none=False:=rfl
@[simp] theorem Oj:Nu A B σ (.bool true)=A σ:=rfl
@[simp] theorem Nv:Nu A B σ (.bool false)=B σ:=rfl
theorem vX {t:Bool} (h1:t=true->A σ) (h2:t=false->B σ):Nu A B σ (.bool t):=by cases t;exact h2 rfl;exact h1 rfl
@[simp] theorem Pj:lu S [] K σ=K σ:=rfl
@[simp] theorem Ok {o r}:lu S (o::r) K σ=bU S o (lu S r K) σ:=rfl
@[simp] theorem Ol {j h}:jG S [] [] j h K σ=K σ:=rfl
@[simp] theorem Nw {u us o r j h}:jG S (u::us) (o::r) j h K σ=(JE h u (fb σ o)/\bU S o (AH h u (jG S us r (j+1) (AU h j (fb σ o)) K)) σ):=rfl
@[simp] theorem Pk {u}:AH [] u K=K:=rfl
@[simp] theorem Pm {i b h u}:AH ((i,.one b)::h) u K=AH h u K:=rfl
@[simp] theorem Rv {i l h u}:AH ((i,.fr l)::h) u K=AH h u K:=rfl
@[simp] theorem Pn {i b off v h u}:AH ((i,.cel b off v)::h) u K σ=((i∈u->e8 σ.bx (.ptr b off)=some v)/\AH h u K σ):=rfl
@[simp] theorem Rw {d f xs}:bU S (.cl d f xs) K σ=Rg S f d K σ (k9 (xs.map σ.v)):=rfl
@[simp] theorem Rx {d f s ps}:bU S (.ca d f s ps) K σ=Vr S f d s ps K σ:=rfl
attribute [simp] bU.eq_32 bU.eq_33
def Vw (S:Nat->Nat->In->bO->Prop) (f d:Nat) (K:St->Prop) (σ:St):List AV->Prop
 | .ptr b o::r=>match aD σ.bx b with
  |some cs=> ∃v,(∀e,b.isNw e=false->S f e ⟨.ptr b o::r,[(b,cs)],[]⟩ ⟨v,[(b,cs)],[]⟩)/\K ⟨(d,v)::σ.e,σ.bx,gV (tP σ.pm b) d⟩
  |none=>False
 |_=>False
def TZ (S:Nat->Nat->In->bO->Prop) (f d:Nat) (xs:List X) (fr:List Nat) (K:St->Prop) (σ:St):Prop:= ∃I O,S f d I O/\cO d σ xs I O/\(JA (mJ σ fr) I O/\fr.contains d=false)/\K (bB d σ xs I O)
@[simp] theorem Ry {d f xs fr}:bU S (.cq d f xs fr) K σ=TZ S f d xs fr K σ:=by rw[bU];rfl
@[simp] theorem Rz {s b d o}:bU S (.gd s b d o) K σ=Rh b (bU S o K) (TY K d) σ (lk σ.e s):=by
 rw[bU];rfl
@[simp] theorem Om {b t:Bool} {A U:St->Prop}:Rh b A U σ (.bool t)=Nu (if true=b then A else U) (if false=b then A else U) σ (.bool t):=by
 cases t<;>cases b<;>rfl
@[simp] theorem Po {b:Bool} {A U:St->Prop}:Rh b A U σ (.tup [])=U σ:=rfl
@[simp] theorem RA {d x}:bU S (.mv d x) K σ=ld K σ (ev σ (.mv d x)):=rfl
@[simp] theorem RB {d c a b}:bU S (.pk d c a b) K σ=ld K σ (ev σ (.pk d c a b)):=rfl
@[simp] theorem RD {d op x y}:bU S (.bi d op x y) K σ=ld K σ (ev σ (.bi d op x y)):=rfl
@[simp] theorem RE {d n x y}:bU S (.bb d n x y) K σ=ld K σ (ev σ (.bb d n x y)):=rfl
@[simp] theorem RG {d n ks x y}:bU S (.ea d n ks x y) K σ=ld K σ (ev σ (.ea d n ks x y)):=rfl
@[simp] theorem RH {d x}:bU S (.bq d x) K σ=ld K σ (ev σ (.bq d x)):=rfl
@[simp] theorem RK {d n x}:bU S (.pn d n x) K σ=ld K σ (ev σ (.pn d n x)):=rfl
@[simp] theorem RL {d op x}:bU S (.un d op x) K σ=ld K σ (ev σ (.un d op x)):=rfl
@[simp] theorem RM {d k x}:bU S (.cv d k x) K σ=ld K σ (ev σ (.cv d k x)):=rfl
@[simp] theorem Pp {d x}:bU S (.lns d x) K σ=ld K σ (ev σ (.lns d x)):=rfl
@[simp] theorem RO {d x}:bU S (.ln d x) K σ=ld K σ (ev σ (.ln d x)):=rfl
@[simp] theorem RP {d x o}:bU S (.fa d x o) K σ=ld K σ (ev σ (.fa d x o)):=rfl
@[simp] theorem RQ {d s x i}:bU S (.ia d s x i) K σ=ld K σ (ev σ (.ia d s x i)):=rfl
@[simp] theorem Pq {d s n x i}:bU S (.iaa d s n x i) K σ=ld K σ (ev σ (.iaa d s n x i)):=rfl
@[simp] theorem Ps {d x}:bU S (.lds d x) K σ=ld K σ (ev σ (.lds d x)):=rfl
@[simp] theorem Pt {d x}:bU S (.ldf d x) K σ=ld K σ (ev σ (.ldf d x)):=rfl
@[simp] theorem Pu {d n x}:bU S (.lda d n x) K σ=ld K σ (ev σ (.lda d n x)):=rfl
@[simp] theorem RT {d z ps}:bU S (.bd d z ps) K σ=ld K σ (ev σ (.bd d z ps)):=rfl
@[simp] theorem Pv {d o x}:bU S (.fls d o x) K σ=ld K σ (ev σ (.fls d o x)):=rfl
@[simp] theorem Pw {d o n x}:bU S (.fla d o n x) K σ=ld K σ (ev σ (.fla d o n x)):=rfl
@[simp] theorem Px {d x i}:bU S (.ixs d x i) K σ=ld K σ (ev σ (.ixs d x i)):=rfl
@[simp] theorem Py {d x i}:bU S (.exq d x i) K σ=ld K σ (ev σ (.exq d x i)):=rfl
@[simp] theorem RV {d f xs}:bU S (.mf d f xs) K σ=ld K σ (ev σ (.mf d f xs)):=rfl
@[simp] theorem Pz {d x}:bU S (.b2s d x) K σ=ld K σ (ev σ (.b2s d x)):=rfl
@[simp] theorem PC {d x}:bU S (.i2s d x) K σ=ld K σ (ev σ (.i2s d x)):=rfl
@[simp] theorem PD {d n x}:bU S (.inl d n x) K σ=ld K σ (ev σ (.inl d n x)):=rfl
@[simp] theorem PE {d s n g x i}:bU S (.ixa d s n g x i) K σ=ld K σ (ev σ (.ixa d s n g x i)):=rfl
@[simp] theorem PF {d x}:bU S (.mpl d x) K σ=ld K σ (ev σ (.mpl d x)):=rfl
@[simp] theorem PG {d q z m k ok}:bU S (.mlk d q z m k ok) K σ=ld K σ (ev σ (.mlk d q z m k ok)):=rfl
@[simp] theorem RW {d x y}:bU S (.mn d x y) K σ=ld K σ (ev σ (.mn d x y)):=rfl
@[simp] theorem RY {d x y}:bU S (.mx d x y) K σ=ld K σ (ev σ (.mx d x y)):=rfl
@[simp] theorem RZ {d T x}:bU S (.mi d T x) K σ=ld K σ (ev σ (.mi d T x)):=rfl
@[simp] theorem R0 {d T z x ok}:bU S (.ta d T z x ok) K σ=ld K σ (ev σ (.ta d T z x ok)):=rfl
@[simp] theorem R1 {d x}:bU S (.nc d x) K σ=ld K σ (ev σ (.nc d x)):=rfl
end
@[simp] theorem PH (v:AV):wk v v:= .inl rfl
@[simp] theorem R3:wk .nils (.sl []):= .inr ⟨rfl,rfl⟩
@[simp] theorem Nx (z:List AV) (off:Nat) (vs:List AV):f9 z off vs=z.take off++vs++z.drop (off+vs.length):=rfl

@[simp] theorem T7 {a u}:wk (.sl a) u=(AV.sl a=u):=by simp[wk]
@[simp] theorem R4 {k a u}:wk (.int k a) u=(AV.int k a=u):=by simp[wk]
@[simp] theorem PI {a u}:wk (.bool a) u=(AV.bool a=u):=by simp[wk]
@[simp] theorem R5 {a u}:wk (.str a) u=(AV.str a=u):=by simp[wk]
@[simp] theorem R6 {a u}:wk (.agg a) u=(AV.agg a=u):=by simp[wk]
@[simp] theorem R7 {a u}:wk (.pin a) u=(AV.pin a=u):=by simp[wk]
@[simp] theorem R8 {a b u}:wk (.ptr a b) u=(AV.ptr a b=u):=by simp[wk]
@[simp] theorem Oo {a}:wk .nils (.sl a)=(a=[]):=by simp[wk]
theorem aC {σ τ:St} (e: ∀p∈τ.e,wk (lk σ.e p.1) p.2) (b: ∀p∈τ.bx,FN σ.bx p.1 p.2) (p: ∀p∈τ.pm,aH σ.pm p.1=some p.2\/iX σ p.1)
 (ei: ∀p∈τ.e,∀d∈p.2.ids,(aD τ.bx d).isSome\/d.isUp=true) (bi: ∀p∈τ.bx,∀d∈bm p.2,(aD τ.bx d).isSome\/d.isUp=true) (pi: ∀p∈τ.pm,∀d∈p.1.ids,(aD τ.bx d).isSome):il σ τ:=⟨e,b,p,ei,bi,pi⟩

def Oq {α:Type} (st:α->St) (I:α->Prop) (μ:α->Nat) (x:α) (σ:St):Prop:= ∃y,I y/\μ y<μ x/\uu σ (st y)
theorem GG {α:Type} {st:α->St} {I:α->Prop} {μ:α->Nat} {x:α} {σ:St} (y:α) (h1:I y) (h2:μ y<μ x) (h3:il σ (st y)):Oq st I μ x σ:=⟨y,h1,h2,.inl h3⟩
theorem aL {n:Int} (h1: -9223372036854775808<=n) (h2:n<9223372036854775808):IntKind.i64.wrap n=n:=by
 have e1:(2:Int)^64=18446744073709551616:=by decide
 have e2:(2:Int)^(64 - 1)=9223372036854775808:=by decide
 have:IntKind.i64.wrap n=if (true&&decide (n%2^64>=2^(64 - 1)))=true then n%2^64 - 2^64 else n%2^64:=rfl
 rw[this];simp only[e1,e2,nC,qu];split<;>omega
theorem fh {n:Int} (h1:0<=n) (h2:n<18446744073709551616):IntKind.u64.wrap n=n:=by
 have e1:(2:Int)^64=18446744073709551616:=by decide
 have e2:(2:Int)^(64 - 1)=9223372036854775808:=by decide
 have:IntKind.u64.wrap n=if (false&&decide (n%2^64>=2^(64 - 1)))=true then n%2^64 - 2^64 else n%2^64:=rfl
 rw[this];simp only[e1,e2,qp];simp;omega
theorem yQ {n:Int} (h1:0<=n) (h2:n<4294967296):IntKind.u32.wrap n=n:=by
 have e1:(2:Int)^32=4294967296:=by decide
 have:IntKind.u32.wrap n=if (false&&decide (n%2^32>=2^(32 - 1)))=true then n%2^32 - 2^32 else n%2^32:=rfl
 rw[this];simp only[e1,qp];simp;omega
theorem gn {n:Int}:IntKind.u32.wrap n=n%4294967296:=by
 have e1:(2:Int)^32=4294967296:=by decide
 have:IntKind.u32.wrap n=if (false&&decide (n%2^32>=2^(32 - 1)))=true then n%2^32 - 2^32 else n%2^32:=rfl
 rw[this];simp only[e1,qp];simp
theorem CI {n:Int} (h1:0<=n) (h2:n<256):IntKind.u8.wrap n=n:=by
 have e1:(2:Int)^8=256:=by decide
 have:IntKind.u8.wrap n=if (false&&decide (n%2^8>=2^(8 - 1)))=true then n%2^8 - 2^8 else n%2^8:=rfl
 rw[this];simp only[e1,qp];simp;omega
theorem Ec {n:Int}:IntKind.u64.wrap n=n%18446744073709551616:=by
 have e1:(2:Int)^64=18446744073709551616:=by decide
 have:IntKind.u64.wrap n=if (false&&decide (n%2^64>=2^(64 - 1)))=true then n%2^64 - 2^64 else n%2^64:=rfl
 rw[this];simp only[e1,qp];simp
theorem nW {S:Nat->Nat->In->bO->Prop} {K K':St->Prop} (hk: ∀σ,K σ->K' σ): ∀ {o:bv} {σ:St},bU S o K σ->bU S o K' σ:=by
 intro o;induction o with
 |gd s b d o ih=>
  intro σ h;simp only[bU] at h ⊢;split at h
  ·exact ih h
  ·exact hk _ h
  ·cases h
 |ce d f xs=>intro σ h;obtain ⟨I,O,h1,h2,h3⟩:=h;exact ⟨I,O,h1,h2,hk _ h3⟩
 |cq d f xs fr=>intro σ h;obtain ⟨I,O,h1,h2,h3,h4⟩:=h;exact ⟨I,O,h1,h2,h3,hk _ h4⟩
 |cd d x xs=>
  intro σ h;simp only[bU] at h ⊢;split at h
  ·split at h
   ·rename_i hb;rw[if_pos hb];obtain ⟨I,O,h1,h2,h3⟩:=h;exact ⟨I,O,h1,h2,hk _ h3⟩
   ·rename_i hb;rw[if_neg hb];obtain ⟨I,O,h1,h2,h3⟩:=h;exact ⟨I,O,h1,h2,hk _ h3⟩
  ·cases h
 |nx d x=>
  intro σ h;simp only[bU] at h ⊢;split at h
  ·split at h
   ·split at h
    ·rename_i e;rw[if_pos e];exact hk _ h
    ·rename_i e;rw[if_neg e];exact hk _ h
   ·cases h
  ·cases h
 |_=>
  intro σ h;simp only[bU] at h ⊢;repeat' (first|(split at h)|contradiction)
  all_goals first
   |exact hk _ h
   |(obtain ⟨g1,g2⟩:=h;exact ⟨g1,hk _ g2⟩)
   |(obtain ⟨g1,g2,g3⟩:=h;exact ⟨g1,g2,hk _ g3⟩)
   |(obtain ⟨g1,g2,g3,g4⟩:=h;exact ⟨g1,g2,g3,hk _ g4⟩)
   |(obtain ⟨g1,g2,g3,g4,g5⟩:=h;exact ⟨g1,g2,g3,g4,hk _ g5⟩)
   |(obtain ⟨g1,g2,g3,g4,g5,g6⟩:=h;exact ⟨g1,g2,g3,g4,g5,hk _ g6⟩)
   |(obtain ⟨g1,g2,g3,g4,g5,g6,g7,g8⟩:=h;exact ⟨g1,g2,g3,g4,g5,g6,g7,hk _ g8⟩)
   |(obtain ⟨g1,g2,g3,g4,g5,g6,g7,g8,g9,g10,g11⟩:=h;exact ⟨g1,g2,g3,g4,g5,g6,g7,g8,g9,g10,hk _ g11⟩)
   |(obtain ⟨g1,g2,g3,g4,g5,g6,g7,g8,g9,g10,g11,g12,g13,g14⟩:=h;exact ⟨g1,g2,g3,g4,g5,g6,g7,g8,g9,g10,g11,g12,g13,hk _ g14⟩)
theorem Ot {S:Nat->Nat->In->bO->Prop} {α:Type} {c:AC} {Q:AE->St->Prop} (st:α->St) (I:α->Prop) (μ:α->Nat)
  (step: ∀x,I x->dK S c (AE.sq (Oq st I μ x) Q) (st x)) {σ:St} (x:α) (hx:I x) (hw:il σ (st x)):dK S (.lp c) Q σ:=by
 have mono: ∀ {c:AC} {Q Q':AE->St->Prop} {σ:St},(∀e σ,Q e σ->Q' e σ)->dK S c Q σ->dK S c Q' σ:=by
  intro c;have m1: ∀ {o:bv} {K K':St->Prop} {σ:St},(∀σ,K σ->K' σ)->bU S o K σ->bU S o K' σ:=fun hk h=>nW hk h
  have mL: ∀ {l:List bv} {K K':St->Prop} {σ:St},(∀σ,K σ->K' σ)->lu S l K σ->lu S l K' σ:=by
   intro l;induction l with
   |nil=>intro K K' σ hk h;exact hk _ h
   |cons o r ih=>intro K K' σ hk h;exact m1 (fun σ h=>ih hk h) h
  have mD: ∀ {us:List (List Nat)} {l:List bv} {j:Nat} {h:List (Nat×Bx)} {K K':St->Prop} {σ:St},(∀σ,K σ->K' σ)->jG S us l j h K σ->jG S us l j h K' σ:=by
   intro us;induction us with
   |nil=>intro l j h K K' σ hk hw;cases l with
    |nil=>exact hk _ hw
    |cons=>exact hw.elim
   |cons u us ih=>intro l j h K K' σ hk hw;cases l with
    |nil=>exact hw.elim
    |cons o r=>exact ⟨hw.1,m1 (fun σ h=>ef.2 ⟨(ef.1 h).1,ih hk (ef.1 h).2⟩) hw.2⟩
  have sqm: ∀ {B B':St->Prop} {Q Q':AE->St->Prop},(∀σ,B σ->B' σ)->(∀e σ,Q e σ->Q' e σ)-> ∀e σ,AE.sq B Q e σ->AE.sq B' Q' e σ:=by
   intro B B' Q Q' hb hq e σ h;cases e
   ·exact hb _ h
   ·exact hq _ _ h
   ·exact hq _ _ h
  induction c with
  |sk=>intro Q Q' σ hq h;exact hq _ _ h
  |rg l=>intro Q Q' σ hq h;exact mL (fun σ h=>hq _ _ h) h
  |rd us l=>intro Q Q' σ hq h;exact mD (fun σ h=>hq _ _ h) h
  |sq a b iha ihb=>intro Q Q' σ hq h;exact iha (sqm (fun σ h=>ihb hq h) hq) h
  |cd x a b iha ihb=>
   intro Q Q' σ hq h;unfold dK at h ⊢;split at h
   ·rename_i t ht;split at h
    ·rename_i e;rw[if_pos e];exact iha hq h
    ·rename_i e;rw[if_neg e];exact ihb hq h
   ·cases h
  |bl i a ih=>
   intro Q Q' σ hq h;refine ih (fun e σ h=>?_) h;cases e
   ·exact hq _ _ h
   ·rename_i j;unfold AE.bl at h ⊢;by_cases e:j=i
    ·simp only[if_pos e] at h ⊢;exact hq _ _ h
    ·simp only[if_neg e] at h ⊢;exact hq _ _ h
   ·exact hq _ _ h
  |lp a ih=>
   intro Q Q' σ hq h;obtain ⟨n,hn⟩:=h;refine ⟨n,?_⟩;induction n generalizing σ with
   |zero=>exact hn
   |succ n ihn=>
    obtain ⟨τ,hτ,hb⟩:=hn;exact ⟨τ,hτ,ih (sqm (fun σ h=>ihn h) hq) hb⟩
  |ex i=>intro Q Q' σ hq h;exact hq _ _ h
  |rt=>intro Q Q' σ hq h;exact hq _ _ h
  |sc a ih=>intro Q Q' σ hq h;exact ih hq h
  |lb=>intro Q Q' σ hq h;exact hq _ _ h
  |no=>intro Q Q' σ hq h;exact h
  |fz s l=>intro Q Q' σ hq h;obtain ⟨τ,q0,b,n,sz,rows,tl,q1,q2,q3⟩:=h;exact ⟨τ,q0,b,n,sz,rows,tl,q1,q2,mL (fun σ h=>hq _ _ h) q3⟩
 have key: ∀n x,μ x<n->I x-> ∀σ,uu σ (st x)->Cu (dK S c) Q n σ:=by
  intro n;induction n with
  |zero=>intro x h;omega
  |succ n ih=>
   intro x hn hx σ hw;refine ⟨st x,hw,mono ?_ (step x hx)⟩;intro e σ' h;cases e
   ·obtain ⟨y,hy,hlt,hwy⟩:=h;exact ih y (by omega) hy σ' hwy
   ·exact h
   ·exact h
 exact ⟨μ x+1,key _ x (by omega) hx σ (.inl hw)⟩

theorem cP {S:Nat->Nat->In->bO->Prop} {α:Type} {c:AC} {Q:AE->St->Prop} (st:α->St) (I:α->Prop) (μ:α->Nat)
  (step: ∀(K:St->Prop) (x:α),(∀(y:α) (σ':St),I y->μ y<μ x->il σ' (st y)->K σ')->I x->dK S c (AE.sq K Q) (st x)) {σ:St} (x:α) (hx:I x) (hw:il σ (st x)):dK S (.lp c) Q σ:=
 Ot st I μ (fun x hx=>step (Oq st I μ x) x (fun y σ' h1 h2 h3=>GG y h1 h2 h3) hx) x hx hw
def AC.tl:Nat->AC->AC
 |0,c=>c
 |n+1,.sq _ b=>b.tl n
 |_,c=>c
@[irreducible] def ba (P:Program) (GL:List (Nat×List Value)) (f d:Nat) (I:In) (O:bO):Prop:=bC P GL f d I O
theorem fy (P:Program) (GL:List (Nat×List Value)):ba P GL=bC P GL:=by funext f d I O;unfold ba;rfl
@[irreducible] def Sp (P:Program) (GL:List (Nat×List Value)) (f:Nat) (l:List AV) (r:AV):Prop:=rh (ba P GL) f l r
theorem uL (P:Program) (GL:List (Nat×List Value)) {f:Nat} {l:List AV} {r:AV}:Sp P GL f l r↔rh (bC P GL) f l r:=by unfold Sp;rw[fy]
theorem bK {P:Program} {GL:List (Nat×List Value)} {K:St->Prop} {σ:St} {f d:Nat} {l:List AV} (r:AV) (h:Sp P GL f l r) (hk:K (σ.put d r)):Rg (ba P GL) f d K σ (some l):=by
 unfold Sp at h;exact ⟨r,h,hk⟩
theorem ag {P:Program} {GL:List (Nat×List Value)} {K:St->Prop} {σ:St} {f d:Nat} {l:List AV} {r:AV} (h:Sp P GL f l r) (hk:K (σ.put d r)):Rg (ba P GL) f d K σ (some l):=bK r h hk
theorem Mm {P:Program} {GL:List (Nat×List Value)} {dr:Array Oper->List (List Nat)->List bv->Bool} {f:Nat} {fn:Func} {af:AF} (hf:P.funcs[f]?=some fn) (hm:mF P GL dr fn af=true) (hd:b7 P GL af.N dr) {l:List AV} {r:AV} (hl:l.length=af.np) (hi:bm l=[])
  (hw:dK (ba P GL) af.c (ja af.rs r) ⟨dD 0 l,[],[]⟩):Sp P GL f l r:=by
 rw[fy] at hw;exact (uL P GL).2 (D8 hf hm hd hl hi hw)
end Go.Ai
namespace Go.Ai
open Go.RowKit
variable {P:Program} {F:Fr} {S:aR} {gb:Gb} {σ:St} {a:Act} {w:World}

def CJ (rs:List AR) (r:AV) (e:AE) (σ:St):Prop:=ja rs r e σ\/(∃s b n sz rows,Ct σ s b n sz rows/\ja rs r e (iY σ s b rows))\/ ∃s b n sz rows tl,lA σ s b n sz rows tl/\ja rs r e (iY σ s b rows)

theorem Be {GL:List (Nat×List Value)} {dr:Array Oper->List (List Nat)->List bv->Bool} {f:Nat} {fn:Func} {af:AF} (hf:P.funcs[f]?=some fn) (hm:mF P GL dr fn af=true) (hd:b7 P GL af.N dr) {l:List AV} {r:AV} (hl:l.length=af.np) (hi:bm l=[])
  (hw:dK (bC P GL) af.c (CJ af.rs r) ⟨dD 0 l,[],[]⟩):rh (bC P GL) f l r:=by
 intro d;simp only[mF,aJ,bne_iff_ne,cI] at hm;obtain ⟨⟨⟨⟨⟨h1,h2⟩,h3⟩,h4⟩,h5⟩,h6⟩:=hm;split at h6<;>(try cases h6);rename_i c hb;have h4:=Nat.le_of_ble_eq_true h4;intro S gb w vs hvs hhr hglo hnw;have hlen:vs.length=l.length:=hvs.length.symm;unfold lH;have hcall:(callFunc f vs.toArray).run P w= .ok (.enter f vs.toArray) w:=by
  simp[callFunc,hf,hb,h1]
 rw[hcall];refine calls_of_wp hf hb ?_
 let F:Fr:=⟨S,w,MS ⟨l,[],[]⟩ gb (fun t=>vs.getD t undef) w,gb,af.N,GL,[]⟩
 have hrel:aN F S (eB gb) ⟨dD 0 l,[],[]⟩ {tmps:=vs.toArray++Array.replicate (fn.ntmps - vs.toArray.size) undef,defers:=[]} w:=by
  refine ⟨rfl,?_,Bw.refl _ _,fun _ _ _ _=>rfl,aR.le.refl _,?_,⟨hhr.agree,?_,?_,?_,?_,?_,?_,?_⟩,?_,?_,?_,fun d=>rfl,hglo⟩
  ·show (vs.toArray++Array.replicate (fn.ntmps - vs.toArray.size) undef).size=af.N;simp;omega
  ·intro t
   have:=(fU (aa.noids (gb':=eB gb) _ _ hi hvs) 0 t).2 t (by omega)
   rw[dP];exact this
  ·intro d cs hcs;simp[aD] at hcs
  ·intro d cs hcs;simp[aD] at hcs
  ·intro d d' g z z' hg;simp[aD] at hg
  ·intro p k hk;simp[aH] at hk
  ·intro p q k l b hk;simp[aH] at hk
  ·intro p k b d z hk;simp[aH] at hk
  ·intro d off k hk;simp[aH] at hk
  ·intro d g z hg;simp[aD] at hg
  ·intro p k g hk;simp[aH] at hk
  ·intro d hd;cases d<;>simp[eB,Id.isUp] at hd ⊢
 refine eA (F:=F) hd h6 (Q:=CJ af.rs r) ?_ hrel hw;intro e S0' gb0' σ0 a' w' hr0 hq0;have fin: ∀S' gb' σ',aN F S' gb' σ' a' w'-> ∀vs',gh σ' af.rs=some vs'->em (vQ vs')=some r->a'.defers=[]/\ ∃v,(results fn a'.tmps).run P w'= .ok v w'/\(∃u,Ending.returned v= .returned u/\ ∃S'' gb'',dL d ⟨l,[],[]⟩ ⟨r,[],[]⟩ S gb (fun t=>vs.getD t undef) w S'' gb'' u w'):=by
  intro S' gb' σ' hr vs' hv hs;refine ⟨hr.defers,?_⟩;obtain ⟨us,hrun,g2,_⟩:=kJ (P:=P) hr h5 hv;refine ⟨_,hrun,_,rfl,S',gb,hr.bw,hr.ext,hr.le,fun _ _=>rfl,fun i hi hne=>absurd (hnw i hi) hne,uD (cf _ _ _ hs (A9 g2)),⟨hr.hr.agree,?_,?_,?_,?_,?_,?_,?_⟩,?_,?_⟩
  ·intro d cs hcs;simp[aD] at hcs
  ·intro d cs hcs;simp[aD] at hcs
  ·intro d d' g z z' hg;simp[aD] at hg
  ·intro p k hk;simp[aH] at hk
  ·intro p q k l b hk;simp[aH] at hk
  ·intro p k b d z hk;simp[aH] at hk
  ·intro d off k hk;simp[aH] at hk
  ·intro d g z hg;simp[aD] at hg
  ·intro p k g hk;simp[aH] at hk
 have fin2: ∀S' gb' σ',aN F S' gb' σ' a' w'->ja af.rs r e σ'->(yL e= .normal\/yL e= .ret)/\a'.defers=[]/\ ∃v,(results fn a'.tmps).run P w'= .ok v w'/\(∃u,Ending.returned v= .returned u/\ ∃S'' gb'',dL d ⟨l,[],[]⟩ ⟨r,[],[]⟩ S gb (fun t=>vs.getD t undef) w S'' gb'' u w'):=by
  intro S' gb' σ' hr hq;cases e
  ·simp only[ja] at hq;split at hq
   ·rename_i vs' hv;exact ⟨.inl rfl,fin S' gb' σ' hr vs' hv hq⟩
   ·cases hq
  ·exact hq.elim
  ·simp only[ja] at hq;split at hq
   ·rename_i vs' hv;exact ⟨.inr rfl,fin S' gb' σ' hr vs' hv hq⟩
   ·cases hq
 have hall:=(show (yL e= .normal\/yL e= .ret)/\a'.defers=[]/\ ∃v,(results fn a'.tmps).run P w'= .ok v w'/\(∃u,Ending.returned v= .returned u/\ ∃S'' gb'',dL d ⟨l,[],[]⟩ ⟨r,[],[]⟩ S gb (fun t=>vs.getD t undef) w S'' gb'' u w') from by
  rcases hq0 with hq|⟨s,b,n,sz,rows,hfz,hq⟩|⟨s,b,n,sz,rows,tl,hfz,hq⟩
  ·exact fin2 _ _ _ hr0 hq
  ·obtain ⟨S1,gb1,hr1,_⟩:=hr0.freeze hfz.two;exact fin2 _ _ _ hr1 hq
  ·obtain ⟨S1,gb1,hr1,_⟩:=hr0.freeze hfz;exact fin2 _ _ _ hr1 hq)
 obtain ⟨hE,hall⟩:=hall;rcases hE with hE|hE
 ·rw[hE];exact hall
 ·rw[hE];exact hall
theorem JW {P:Program} {GL:List (Nat×List Value)} {dr:Array Oper->List (List Nat)->List bv->Bool} {f:Nat} {fn:Func} {af:AF} (hf:P.funcs[f]?=some fn) (hm:mF P GL dr fn af=true) (hd:b7 P GL af.N dr) {l:List AV} {r:AV} (hl:l.length=af.np) (hi:bm l=[])
  (hw:dK (ba P GL) af.c (CJ af.rs r) ⟨dD 0 l,[],[]⟩):Sp P GL f l r:=by
 rw[fy] at hw;exact (uL P GL).2 (Be hf hm hd hl hi hw)
end Go.Ai
