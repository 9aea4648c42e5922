/- Lib6: a part of the proof: the rules, or what functions compute. Conditions: as each theorem says. -/
import Derived.Test.YtggemlhclppciaaGreatDoorLib5
set_option linter.unusedSimpArgs false
set_option linter.unusedVariables false
namespace Go.Ai
open Go.RowKit

def dirs (o:Oper):List Nat:=(o.after.toList.filter fun e=>Region.binds .any e).map (·.on)
def ancs:List Oper→List Nat→List Nat
  |[],acc=>acc
  |o::r,acc=>ancs r (acc++[(dirs o).foldl (fun s m=>s|||2^m|||acc.getD m 0) 0])
def okAnc (ops:List Oper) (A:List Nat):Bool:=
  (List.range ops.length).all fun j=>match ops[j]? with
    |some o=>(dirs o).all (fun m=>Nat.blt m j)&&(List.range j).all fun k=>!(A.getD j 0).testBit k||(dirs o).contains k||(dirs o).any fun m=>Nat.blt k m&&(A.getD m 0).testBit k
    |none=>false
def okPair (us:List (List Nat)) (l:List AOp) (A:List Nat) (i j:Nat):Bool:=
  (A.getD j 0).testBit i||
  (let x:=l.getD i .no;let y:=l.getD j .no
   ((dstA x).isNone||dstA x !=dstA y)&&(match dstA x with |some d=>!(usesA y).contains d|none=>true)&&(match dstA y with |some d=>!(usesA x).contains d|none=>true)&&
   ((srcA x).isNone||srcA x !=srcA y)&&(boxA x==0||boxA y==0||(boxA x==1&&boxA y==1)||(us.getD j []).contains i))
def preL (l:List AOp):Nat:=if l.all okG then l.length else l.length - 1
def drD0 (ops:Array Oper) (us:List (List Nat)) (l:List AOp):Bool:=
  let A:=ancs ops.toList []
  let m:=preL l
  okAnc ops.toList A&&ops.size==l.length&&us.length==l.length&&(l.take m).all okG&&((List.range m).all fun j=>(List.range j).all fun i=>okPair us l A i j)&&
    (m==l.length||(List.range m).all fun k=>(A.getD m 0).testBit k)

variable {Sp:Nat→Nat→In→Out→Prop}
theorem okG_okD: ∀ {o:AOp},okG o=true→okD o=true:=by
  intro o
  induction o with
  |gd s b d o ih=>intro h;simp only [okG,Bool.and_eq_true] at h;exact ih h.2
  |_=>intro h;exact h

theorem offH_all: ∀ {h:List (Nat×Bx)} {u:List Nat} {b:Bx},offH h u b→ ∀p∈h,p.1∈u→djB p.2 b
  |[],_,_,_,p,hp,_=>by simp at hp
  |(i,b')::h,u,b,ho,p,hp,hu=>by
    simp only [offH] at ho
    cases hp with
    |head=>exact ho.1 hu
    |tail _ hp=>exact offH_all ho.2 p hp hu

theorem trace: ∀ {l:List AOp} {us:List (List Nat)} {j0:Nat} {h:List (Nat×Bx)} {K:St→Prop} {σ:St} {ut:List (List Nat)} {lt:List AOp},us.length=l.length→l.all okG=true→wpLd Sp (us++ut) (l++lt) j0 h K σ→
    ∃(δs:Nat→Dl) (σs:Nat→St),σs 0=σ∧(∀(k:Nat) (o:AOp),l[k]?=some o→wpD Sp o (· =δs k) (σs k)∧view (σs (k+1))=(δs k).app (view (σs k)))∧(∃j' h',wpLd Sp ut lt j' h' K (σs l.length))∧
      (∀(k:Nat) (o:AOp) (u:List Nat) (b:Bx),l[k]?=some o→us[k]?=some u→bid (σs k) o=some b→(∀p∈h,p.1∈u→djB p.2 b)∧(∀i o',i<k→l[i]?=some o'→i+j0∈u→ ∀b',bid (σs i) o'=some b'→djB b' b))∧
      (∀(k:Nat) (o:AOp) (u:List Nat),l[k]?=some o→us[k]?=some u→(∀p∈h,p.1∈u→p.2.kept (σs (k+1)))∧(∀i o',i<k→l[i]?=some o'→i+j0∈u→ ∀b',bid (σs i) o'=some b'→b'.kept (σs (k+1))))
  |[],us,j0,h,K,σ,ut,lt,hlen,hok,hw=>by
    cases us with
    |nil=>exact ⟨fun _=> .put 0 .undef,fun _=>σ,rfl,by simp,⟨j0,h,hw⟩,by simp,by simp⟩
    |cons=>simp at hlen
  |o::r,us,j0,h,K,σ,ut,lt,hlen,hok,hw=>by
    cases us with
    |nil=>simp at hlen
    |cons u us=>
      simp only [List.all_cons,Bool.and_eq_true] at hok
      obtain ⟨hoff,hw⟩:=hw
      obtain ⟨δ,hd,hk⟩:=wpD_one (wp1_wpD (okG_okD hok.1) hw)
      obtain ⟨hkp,hk⟩:=kpK_iff.1 hk
      have hfit:=wpD_fit hok.1 hd
      obtain ⟨δs,σs,t0,t1,t2,t3,t4⟩:=trace (by simpa using hlen) hok.2 hk
      refine ⟨fun|0=>δ|k+1=>δs k,fun|0=>σ|k+1=>σs k,rfl,?_,t2,?_,?_⟩
      · intro k o' ho
        cases k with
        |zero=>
          simp at ho;subst ho
          refine ⟨hd,?_⟩
          simp only [t0]
          exact view_ap hfit.f
        |succ k=>simp at ho;exact t1 k o' ho
      · intro k o' u' b ho hu hb
        cases k with
        |zero=>
          simp at ho hu;subst ho;subst hu
          refine ⟨?_,by intro i o' hi;omega⟩
          simp only at hb
          rw [hb] at hoff
          simp only [offO] at hoff
          exact offH_all hoff
        |succ k=>
          simp at ho hu
          obtain ⟨s1,s2⟩:=t3 k o' u' b ho hu hb
          refine ⟨fun p hp hpu=>s1 p ?_ hpu,fun i o2 hi ho2 hiu=>?_⟩
          · cases hbb:bid σ o with
            |none=>exact hp
            |some b'=>simp only [addH];exact List.mem_cons_of_mem _ hp
          · cases i with
            |zero=>
              simp at ho2;subst ho2
              intro b' hbi
              simp only at hbi
              rw [hbi] at s1
              exact s1 (j0,b') (by simp [addH]) (by simpa using hiu)
            |succ i=>
              simp at ho2
              exact s2 i o2 (by omega) ho2 (by rw [show i+(j0+1)=i+1+j0 by omega];exact hiu)
      · intro k o' u' ho hu
        cases k with
        |zero=>
          simp at ho hu;subst ho;subst hu
          refine ⟨?_,by intro i o' hi;omega⟩
          simp only [t0]
          exact hkp
        |succ k=>
          simp at ho hu
          obtain ⟨s1,s2⟩:=t4 k o' u' ho hu
          refine ⟨fun p hp hpu=>s1 p ?_ hpu,fun i o2 hi ho2 hiu=>?_⟩
          · cases hbb:bid σ o with
            |none=>exact hp
            |some b'=>simp only [addH];exact List.mem_cons_of_mem _ hp
          · cases i with
            |zero=>
              simp at ho2;subst ho2
              intro b' hbi
              simp only at hbi
              rw [hbi] at s1
              exact s1 (j0,b') (by simp [addH]) (by simpa using hiu)
            |succ i=>
              simp at ho2
              exact s2 i o2 (by omega) ho2 (by rw [show i+(j0+1)=i+1+j0 by omega];exact hiu)
theorem loadS_ext {x y:List (Id×List AV)} {b:Id} {off:Nat} (h:lkB x b=lkB y b):loadS x (.ptr b off)=loadS y (.ptr b off):=by
  simp only [loadS,h]
theorem bid_cel: ∀ {o:AOp} {σ:St} {b:Id} {off:Nat} {v:AV},bid σ o=some (.cel b off v)→loadS σ.bx (.ptr b off)=some v∧boxA o=1:=by
  intro o
  induction o with
  |gd s b d o ih=>
    intro σ b' off v h
    simp only [bid] at h
    split at h
    · split at h
      · simpa [boxA] using ih h
      · cases h
    · cases h
  |ldf d x=>
    intro σ b off v h
    simp only [bid] at h
    split at h
    · split at h
      · rename_i hl
        cases h
        exact ⟨hl,rfl⟩
      · cases h
    · cases h
  |_=>
    intro σ b off v h
    simp only [bid] at h
    repeat' (first|(split at h)|contradiction)
    all_goals cases h

theorem count_set {n i:Nat} {listed:Array Bool} (hs:n≤listed.size) (hi:i<n) (hf:listed.getD i false=false):
    ((List.range n).filter fun j=>(listed.setIfInBounds i true).getD j false).length=((List.range n).filter fun j=>listed.getD j false).length+1:=by
  have key: ∀m,m≤n→((List.range m).filter fun j=>(listed.setIfInBounds i true).getD j false).length=((List.range m).filter fun j=>listed.getD j false).length+if i<m then 1 else 0:=by
    intro m
    induction m with
    |zero=>intro _;simp
    |succ m ih=>
      intro hm
      rw [List.range_succ,List.filter_append,List.filter_append,List.length_append,List.length_append,ih (by omega)]
      by_cases him:i=m
      · subst him
        have e1:(listed.setIfInBounds i true).getD i false=true:=by simp [Array.getD_eq_getD_getElem?,show i<listed.size by omega]
        have e2:([i].filter fun j=>(listed.setIfInBounds i true).getD j false)=[i]:=by simp only [List.filter_cons,e1,if_true,List.filter_nil]
        have e3:([i].filter fun j=>listed.getD j false)=[]:=by simp only [List.filter_cons,hf,List.filter_nil];rfl
        rw [e2,e3,if_neg (Nat.lt_irrefl _),if_pos (Nat.lt_succ_self _)];rfl
      · have e1:(listed.setIfInBounds i true).getD m false=listed.getD m false:=by
          simp [Array.getD_eq_getD_getElem?,Array.getElem?_setIfInBounds_ne him]
        have e2:([m].filter fun j=>(listed.setIfInBounds i true).getD j false)=[m].filter fun j=>listed.getD j false:=by simp only [List.filter_cons,e1,List.filter_nil]
        rw [e2]
        by_cases h1:i<m
        · rw [if_pos h1,if_pos (by omega)];omega
        · rw [if_neg h1,if_neg (by omega)];omega
  have:=key n (Nat.le_refl _)
  rw [if_pos hi] at this
  exact this

variable {P:Program} {GL:List (Nat×List Value)} {N:Nat}

theorem draws_pre {F:Fr} {ops:Array Oper} {us:List (List Nat)} {l:List AOp} {ut:List (List Nat)} {lt:List AOp} {A:List Nat}
    (hn:l.length≤ops.size) (hanc:okAnc ops.toList A=true) (hus:us.length=l.length) (hokG:l.all okG=true)
    (hpair:((List.range l.length).all fun j=>(List.range j).all fun i=>okPair us l A i j)=true)
    (hop: ∀(i:Nat) (o:Oper),ops[i]?=some o→i<l.length→ ∃ao,l[i]?=some ao∧mt P F.GL F.N ops o ao=true)
    (htail: ∀i,l.length≤i→i<ops.size→ ∀k,k<l.length→(A.getD i 0).testBit k=true)
    {K:St→Prop} {Q:Exit→Act→World→Prop}
    (hfin: ∀(listed:Array Bool) (a:Act) (w:World),listed.size=ops.size→(∀j,j<l.length→listed.getD j false=true)→(∀j,l.length≤j→listed.getD j false=false)→
      ∀(S:Mem) (gb:Gb) (τ:St) (j':Nat) (h':List (Nat×Bx)),Rel F S gb τ a w→wpLd (Spec P F.GL) ut lt j' h' K τ→wpAny P .any ops Q (ops.size - l.length) listed a w)
    {S:Mem} {gb:Gb} {σ:St} {a:Act} {w:World} (hrel:Rel F S gb σ a w) (hw:wpLd (Spec P F.GL) (us++ut) (l++lt) 0 [] K σ):wpAny P .any ops Q ops.size (Array.replicate ops.size false) a {w with drawn:=w.drawn+1}:=by
  obtain ⟨δs,σs,t0,t1,⟨j',h',t2⟩,t3,t4⟩:=trace hus hokG hw
  have hdir: ∀(j:Nat) (o:Oper),ops[j]?=some o→(∀m∈dirs o,m<j)∧ ∀k,k<j→(A.getD j 0).testBit k=true→k∈dirs o∨ ∃m∈dirs o,k<m∧(A.getD m 0).testBit k=true:=by
    intro j o ho
    have hj:j<ops.size:=(Array.getElem?_eq_some_iff.1 ho).1
    have:=List.all_eq_true.1 hanc j (List.mem_range.2 (by simpa using hj))
    simp only [Array.getElem?_toList,ho,Bool.and_eq_true,List.all_eq_true,Bool.or_eq_true,Bool.not_eq_true',List.contains_eq_mem,decide_eq_true_eq,List.any_eq_true,List.mem_range] at this
    refine ⟨fun m hm=>by have:=this.1 m hm;simpa using this,fun k hk hb=>?_⟩
    rcases this.2 k hk with (h|h)|⟨m,h1,h2,h3⟩
    · rw [h] at hb;cases hb
    · exact .inl h
    · exact .inr ⟨m,h1,by simpa using h2,h3⟩
  let cl (listed:Array Bool):Prop:= ∀(j:Nat) (o:Oper),ops[j]?=some o→listed.getD j false=true→ ∀m∈dirs o,listed.getD m false=true
  have hclos: ∀listed,cl listed→ ∀(j:Nat) (o:Oper),ops[j]?=some o→(∀m∈dirs o,listed.getD m false=true)→ ∀k,k<j→(A.getD j 0).testBit k=true→listed.getD k false=true:=by
    intro listed hcl j
    induction j using Nat.strongRecOn with
    |_ j ih=>
      intro o ho hd k hk hb
      obtain ⟨d1,d2⟩:=hdir j o ho
      rcases d2 k hk hb with h|⟨m,hm,hkm,hbm⟩
      · exact hd k h
      · have hmj:=d1 m hm
        have hms:m<ops.size:=by have:=(Array.getElem?_eq_some_iff.1 ho).1;omega
        obtain ⟨om,hom⟩: ∃om,ops[m]?=some om:=⟨ops[m],by simp [hms]⟩
        exact ih m hmj om hom (hcl m om hom (hd m hm)) k hkm hbm
  have hview: ∀k,k≤l.length→view (σs k)=runD δs (List.range k) (view σ):=by
    intro k
    induction k with
    |zero=>intro _;rw [t0];rfl
    |succ k ih=>
      intro hk
      obtain ⟨o,ho⟩: ∃o,l[k]?=some o:=⟨l[k],by simp⟩
      rw [List.range_succ,runD_snoc,(t1 k o ho).2,ih (by omega)]
  have hord: ∀(i j:Nat) (ao bo:AOp),i<j→l[i]?=some ao→l[j]?=some bo→(A.getD j 0).testBit i=false→
      (∀d,dstA ao=some d→dstA bo≠some d)∧(∀d,dstA ao=some d→d∉usesA bo)∧(∀d,dstA bo=some d→d∉usesA ao)∧(∀s,srcA ao=some s→srcA bo≠some s)∧
      (∀b,tchO (bid (σs i) ao) b→tchO (bid (σs j) bo) b→boxA ao=1∧boxA bo=1):=by
    intro i j ao bo hij hi hj hb
    have hjl:j<l.length:=(List.getElem?_eq_some_iff.1 hj).1
    have hp:=List.all_eq_true.1 (List.all_eq_true.1 hpair j (List.mem_range.2 hjl)) i (List.mem_range.2 hij)
    have ei:l.getD i .no=ao:=by simp [List.getD_eq_getElem?_getD,hi]
    have ej:l.getD j .no=bo:=by simp [List.getD_eq_getElem?_getD,hj]
    simp only [okPair,hb,Bool.false_or,ei,ej,Bool.and_eq_true] at hp
    obtain ⟨⟨⟨⟨h1,h2⟩,h3⟩,h4⟩,h5⟩:=hp
    refine ⟨fun d hd=>?_,fun d hd=>?_,fun d hd=>?_,fun s hs=>?_,fun b hb1 hb2=>?_⟩
    · rw [hd] at h1;simp at h1;exact fun e=>h1 e.symm
    · rw [hd] at h2;simpa using h2
    · rw [hd] at h3;simpa using h3
    · rw [hs] at h4;simp at h4;exact fun e=>h4 e.symm
    · obtain ⟨x1,y1⟩: ∃x,bid (σs i) ao=some x:=by
        cases h:bid (σs i) ao with
        |none=>rw [h] at hb1;cases hb1
        |some x=>exact ⟨x,rfl⟩
      obtain ⟨x2,y2⟩: ∃x,bid (σs j) bo=some x:=by
        cases h:bid (σs j) bo with
        |none=>rw [h] at hb2;cases hb2
        |some x=>exact ⟨x,rfl⟩
      rw [y1] at hb1
      rw [y2] at hb2
      have z1:=bid_box y1
      have z2:=bid_box y2
      simp only [Bool.or_eq_true,beq_iff_eq,z1,z2,false_or,Bool.and_eq_true] at h5
      rcases h5 with h5|h5
      · exact h5
      · exfalso
        have hul:j<us.length:=by omega
        obtain ⟨u,hu⟩: ∃u,us[j]?=some u:=⟨us[j],by simp [hul]⟩
        have hiu:i∈u:=by simpa [List.getD_eq_getElem?_getD,hu] using h5
        exact djB_no ((t3 j bo u x2 hj hu y2).2 i ao hij hi (by simpa using hiu) x1 y1) hb1 hb2
  have hconf: ∀(i j:Nat) (ao bo:AOp),i≠j→l[i]?=some ao→l[j]?=some bo→
      ((∃t,dstA bo=some t∧(t∈usesA ao∨dstA ao=some t))∨(∃s,srcA bo=some s∧(dstA ao=some s∨srcA ao=some s))∨(∃b,tchO (bid (σs j) bo) b∧boxA bo=2∧tchO (bid (σs i) ao) b))→
      (i<j→(A.getD j 0).testBit i=true)∧(j<i→(A.getD i 0).testBit j=true):=by
    intro i j ao bo hne hi hj hc
    constructor
    · intro hij
      cases hb:(A.getD j 0).testBit i with
      |true=>rfl
      |false=>
        exfalso
        obtain ⟨g1,g2,g3,g4,g5⟩:=hord i j ao bo hij hi hj hb
        rcases hc with ⟨t,h1,h2⟩|⟨s,h1,h2⟩|⟨b,h1,h2,h3⟩
        · rcases h2 with h2|h2
          · exact g3 t h1 h2
          · exact g1 t h2 h1
        · rcases h2 with h2|h2
          · exact g2 s h2 (src_uses h1)
          · exact g4 s h2 h1
        · have:=g5 b h3 h1;omega
    · intro hji
      cases hb:(A.getD i 0).testBit j with
      |true=>rfl
      |false=>
        exfalso
        obtain ⟨g1,g2,g3,g4,g5⟩:=hord j i bo ao hji hj hi hb
        rcases hc with ⟨t,h1,h2⟩|⟨s,h1,h2⟩|⟨b,h1,h2,h3⟩
        · rcases h2 with h2|h2
          · exact g2 t h1 h2
          · exact g1 t h1 h2
        · rcases h2 with h2|h2
          · exact g3 s h2 (src_uses h1)
          · exact g4 s h1 h2
        · have:=g5 b h1 h3;omega
  have hfit: ∀(k:Nat) (o:AOp),l[k]?=some o→Fit o (σs k) (δs k):=fun k o ho=>wpD_fit (List.all_eq_true.1 hokG o (List.mem_of_getElem? ho)) (t1 k o ho).1
  let D (listed:Array Bool):List Nat:=(List.range l.length).filter fun j=>listed.getD j false
  have hstep: ∀(listed:Array Bool) (i:Nat) (ao:AOp) (o:Oper) (τ:St),listed.size=ops.size→cl listed→ops[i]?=some o→l[i]?=some ao→listed.getD i false=false→(∀m∈dirs o,listed.getD m false=true)→
      view τ=runD δs (D listed) (view σ)→Agr ao (σs i) τ∧(δs i).app (view τ)=runD δs (D (listed.setIfInBounds i true)) (view σ):=by
    intro listed i ao o τ hls hcl ho hi hf hd hτ
    have hil:i<l.length:=(List.getElem?_eq_some_iff.1 hi).1
    have hpast: ∀(j:Nat) (bo:AOp),l[j]?=some bo→i≠j→((∃t,dstA bo=some t∧(t∈usesA ao∨dstA ao=some t))∨(∃s,srcA bo=some s∧(dstA ao=some s∨srcA ao=some s))∨(∃b,tchO (bid (σs j) bo) b∧boxA bo=2∧tchO (bid (σs i) ao) b))→(listed.getD j false=true↔j<i):=by
      intro j bo hj hne hc
      obtain ⟨c1,c2⟩:=hconf i j ao bo hne hi hj hc
      constructor
      · intro hl
        rcases Nat.lt_or_ge j i with h|h
        · exact h
        · exfalso
          have hij:i<j:=by omega
          have hjs:j<ops.size:=by have:=(List.getElem?_eq_some_iff.1 hj).1;omega
          have:=hclos listed hcl j ops[j] (by simp [hjs]) (hcl j ops[j] (by simp [hjs]) hl) i hij (c1 hij)
          rw [hf] at this;cases this
      · intro hji
        exact hclos listed hcl i o ho hd j hji (c2 hji)
    have same: ∀(q:Nat→Bool),(∀(j:Nat) (bo:AOp),j<l.length→l[j]?=some bo→q j=true→j≠i→(listed.getD j false=true↔j<i))→
        ((D listed).filter q)=((List.range i).filter q):=by
      intro q hq
      simp only [D,List.filter_filter]
      refine filter_range (Nat.le_of_lt hil) (fun j hj=>?_)
      obtain ⟨bo,hbo⟩: ∃bo,l[j]?=some bo:=⟨l[j],by simp [hj]⟩
      cases hqj:q j with
      |false=>simp
      |true=>
        by_cases hji:j=i
        · subst hji;simp [hf]
        · have:=hq j bo hj hbo hqj hji
          simp only [Bool.true_and,Bool.and_true]
          by_cases h1:j<i
          · rw [this.2 h1];simp [h1]
          · have h2:listed.getD j false=false:=by
              cases h3:listed.getD j false with
              |false=>rfl
              |true=>exact absurd (this.1 h3) h1
            rw [h2];simp;omega
    have hvi:=hview i (Nat.le_of_lt hil)
    have tEc: ∀(t j:Nat) (bo:AOp),l[j]?=some bo→tE t (δs j)=true→dstA bo=some t:=by
      intro t j bo hj ht
      simp only [tE] at ht
      split at ht
      · rename_i d x he;simp only [beq_iff_eq] at ht;subst ht;exact (hfit j bo hj).e _ _ he
      · cases ht
    have tBc: ∀(b:Id) (j:Nat) (bo:AOp),l[j]?=some bo→tB b (δs j)=true→tchO (bid (σs j) bo) b∧boxA bo=2:=by
      intro b j bo hj ht
      simp only [tB] at ht
      obtain ⟨x,hx⟩:=Option.isSome_iff_exists.1 ht
      exact (hfit j bo hj).b _ _ hx
    have tMc: ∀(p:Pl) (j:Nat) (bo:AOp),l[j]?=some bo→tM p (δs j)=true→(∃d,p.at d=true∧dstA bo=some d)∨(∃s,p= .s s∧srcA bo=some s)∨(∃b off,p= .b b off∧tchO (bid (σs j) bo) b∧boxA bo=2):=by
      intro p j bo hj ht
      obtain ⟨x,hx⟩:=Option.isSome_iff_exists.1 ht
      exact (hfit j bo hj).m p x hx
    refine ⟨⟨fun t ht=>?_,fun b hb=>?_,fun p hp=>?_,fun b off hb h2=>?_,fun x hx=>?_⟩,?_⟩
    · have e1:lk (σs i).e t=(runD δs (List.range i) (view σ)).E t:=by rw [←hvi];rfl
      have e2:lk τ.e t=(runD δs (D listed) (view σ)).E t:=by rw [←hτ];rfl
      rw [e1,e2,runD_E δs t _ _ (view σ) rfl,runD_E δs t (D listed) _ (view σ) rfl,same _ (fun j bo _ hj hq hne=>hpast j bo hj (Ne.symm hne) (.inl ⟨t,tEc t j bo hj hq,.inl ht⟩))]
    · have e1:lkB (σs i).bx b=(runD δs (List.range i) (view σ)).B b:=by rw [←hvi];rfl
      have e2:lkB τ.bx b=(runD δs (D listed) (view σ)).B b:=by rw [←hτ];rfl
      rw [e1,e2,runD_B δs b _ _ (view σ) rfl,runD_B δs b (D listed) _ (view σ) rfl,same _ (fun j bo _ hj hq hne=>by
        obtain ⟨q1,q2⟩:=tBc b j bo hj hq
        exact hpast j bo hj (Ne.symm hne) (.inr (.inr ⟨b,q1,q2,hb⟩)))]
    · have e1:lkP (σs i).pm p=(runD δs (List.range i) (view σ)).M p:=by rw [←hvi];rfl
      have e2:lkP τ.pm p=(runD δs (D listed) (view σ)).M p:=by rw [←hτ];rfl
      rw [e1,e2,runD_M δs p _ _ (view σ) rfl,runD_M δs p (D listed) _ (view σ) rfl,same _ (fun j bo _ hj hq hne=>by
        refine hpast j bo hj (Ne.symm hne) ?_
        rcases rdP_fit p hp with ⟨s,rfl,hs⟩|⟨b,off,rfl,hb1,hb2⟩
        · rcases tMc _ j bo hj hq with ⟨d,e,hd'⟩|⟨s',e,hs'⟩|⟨_,_,e,_⟩
          · simp [Pl.at] at e;subst e;exact .inl ⟨_,hd',.inl (src_uses hs)⟩
          · cases e;exact .inr (.inl ⟨s,hs',.inr hs⟩)
          · cases e
        · rcases tMc _ j bo hj hq with ⟨d,e,hd'⟩|⟨s',e,hs'⟩|⟨b',off',e,h1,h2⟩
          · simp [Pl.at] at e
          · cases e
          · cases e;exact .inr (.inr ⟨b,h1,h2,hb1⟩))]
    · have e1:lkP (σs i).pm (.b b off)=(runD δs (List.range i) (view σ)).M (.b b off):=by rw [←hvi];rfl
      have e2:lkP τ.pm (.b b off)=(runD δs (D listed) (view σ)).M (.b b off):=by rw [←hτ];rfl
      rw [e1,e2,runD_M δs (.b b off) _ _ (view σ) rfl,runD_M δs (.b b off) (D listed) _ (view σ) rfl,same _ (fun j bo _ hj hq hne=>by
        refine hpast j bo hj (Ne.symm hne) ?_
        rcases tMc _ j bo hj hq with ⟨d,e,hd'⟩|⟨s',e,hs'⟩|⟨b',off',e,h1,h2⟩
        · simp [Pl.at] at e
        · cases e
        · cases e;exact .inr (.inr ⟨b,h1,h2,hb⟩))]
    ·
      cases x with
      |one b=>trivial
      |fr l=>trivial
      |cel b off v=>
        obtain ⟨c1,c2⟩:=bid_cel hx
        have ei:l.getD i .no=ao:=by simp [List.getD_eq_getElem?_getD,hi]
        have early: ∀(j:Nat) (bo:AOp),l[j]?=some bo→tB b (δs j)=true→j<i→listed.getD j false=true:=by
          intro j bo hj hq hji
          obtain ⟨q1,q2⟩:=tBc b j bo hj hq
          refine hclos listed hcl i o ho hd j hji ?_
          cases hb:(A.getD i 0).testBit j with
          |true=>rfl
          |false=>
            exfalso
            have hp:=List.all_eq_true.1 (List.all_eq_true.1 hpair i (List.mem_range.2 hil)) j (List.mem_range.2 hji)
            have ej:l.getD j .no=bo:=by simp [List.getD_eq_getElem?_getD,hj]
            simp only [okPair,hb,Bool.false_or,ei,ej,Bool.and_eq_true,q2,c2] at hp
            have h5:=hp.2
            simp at h5
            obtain ⟨x1,y1⟩: ∃x,bid (σs j) bo=some x:=by
              cases h:bid (σs j) bo with
              |none=>rw [h] at q1;cases q1
              |some x=>exact ⟨x,rfl⟩
            obtain ⟨u,hu⟩: ∃u,us[i]?=some u:=⟨us[i],by simp [show i<us.length by omega]⟩
            have hju:j∈u:=by simpa [List.getD_eq_getElem?_getD,hu] using h5
            have:=(t3 i ao u _ hi hu hx).2 j bo hji hj (by simpa using hju) x1 y1
            rw [y1] at q1
            cases x1<;>simp only [djB,tchO,Bx.tch] at this q1
        have late: ∀(m:Nat) (bo:AOp),l[m]?=some bo→tB b (δs m)=true→i<m→listed.getD m false=true→loadS (σs (m+1)).bx (.ptr b off)=some v:=by
          intro m bo hm hq him hlm
          obtain ⟨q1,q2⟩:=tBc b m bo hm hq
          have hml:m<l.length:=(List.getElem?_eq_some_iff.1 hm).1
          have hms:m<ops.size:=by omega
          have hb:(A.getD m 0).testBit i=false:=by
            cases hb:(A.getD m 0).testBit i with
            |false=>rfl
            |true=>
              have:=hclos listed hcl m ops[m] (by simp [hms]) (hcl m ops[m] (by simp [hms]) hlm) i him hb
              rw [hf] at this;cases this
          have hp:=List.all_eq_true.1 (List.all_eq_true.1 hpair m (List.mem_range.2 hml)) i (List.mem_range.2 him)
          have ej:l.getD m .no=bo:=by simp [List.getD_eq_getElem?_getD,hm]
          simp only [okPair,hb,Bool.false_or,ei,ej,Bool.and_eq_true,q2,c2] at hp
          have h5:=hp.2
          simp at h5
          obtain ⟨u,hu⟩: ∃u,us[m]?=some u:=⟨us[m],by simp [show m<us.length by omega]⟩
          have hju:i∈u:=by simpa [List.getD_eq_getElem?_getD,hu] using h5
          exact (t4 m bo u hm hu).2 i ao him hi (by simpa using hju) _ hx
        have e2:lkB τ.bx b=(runD δs (D listed) (view σ)).B b:=by rw [←hτ];rfl
        rw [runD_B δs b (D listed) _ (view σ) rfl] at e2
        simp only [Bx.kept]
        by_cases hm: ∃m,m∈(D listed).filter (fun j=>tB b (δs j))∧i<m
        · obtain ⟨m,hmL,him⟩:=hm
          have hsort:((D listed).filter (fun j=>tB b (δs j))).Pairwise (· < ·):=(List.pairwise_lt_range (n:=l.length)).sublist (List.filter_sublist.trans List.filter_sublist)
          rcases List.eq_nil_or_concat ((D listed).filter (fun j=>tB b (δs j))) with hL|⟨L,m',hL⟩
          · rw [hL] at hmL;cases hmL
          · rw [hL] at hmL hsort e2
            have hle:i<m':=by
              rw [List.concat_eq_append] at hmL hsort
              rcases List.mem_append.1 hmL with h|h
              · have:=(List.pairwise_append.1 hsort).2.2 m h m' (by simp)
                omega
              · simp at h;omega
            have hm':m'∈(D listed).filter (fun j=>tB b (δs j)):=by rw [hL];simp
            obtain ⟨hm1,hm2⟩:=List.mem_filter.1 hm'
            obtain ⟨hm3,hm4⟩:=List.mem_filter.1 hm1
            have hml:=List.mem_range.1 hm3
            obtain ⟨bo,hbo⟩: ∃bo,l[m']?=some bo:=⟨l[m'],by simp [hml]⟩
            have k1:=late m' bo hbo hm2 hle hm4
            rw [List.concat_eq_append,runD_snoc] at e2
            have e3:lkB (σs (m'+1)).bx b=((δs m').app (view (σs m'))).B b:=by rw [←(t1 m' bo hbo).2];rfl
            simp only [tB] at hm2
            obtain ⟨cs,hcs⟩:=Option.isSome_iff_exists.1 hm2
            simp only [Dl.app,hcs] at e2 e3
            rw [loadS_ext (e2.trans e3.symm)]
            exact k1
        · have sm:=same (fun j=>tB b (δs j)) (fun j bo hjl hj hq hne=>by
            constructor
            · intro hl
              rcases Nat.lt_or_ge j i with h|h
              · exact h
              · exact absurd ⟨j,List.mem_filter.2 ⟨List.mem_filter.2 ⟨List.mem_range.2 hjl,hl⟩,hq⟩,by omega⟩ hm
            · intro hji
              exact early j bo hj hq hji)
          rw [sm] at e2
          have e1:lkB (σs i).bx b=(runD δs (List.range i) (view σ)).B b:=by rw [←hvi];rfl
          rw [runD_B δs b _ _ (view σ) rfl] at e1
          rw [loadS_ext (e2.trans e1.symm)]
          exact c1
    ·
      rw [hτ]
      have hfi:=hfit i ao hi
      have hD': ∀(q:Nat→Bool),(q i=true→ ∀(j:Nat) (bo:AOp),j<l.length→l[j]?=some bo→q j=true→j≠i→(listed.getD j false=true↔j<i))→
          (D (listed.setIfInBounds i true)).filter q=if q i=true then (D listed).filter q++[i] else (D listed).filter q:=by
        intro q hq
        have gs: ∀j,(listed.setIfInBounds i true).getD j false=if j=i then true else listed.getD j false:=by
          intro j
          by_cases h1:j=i
          · subst h1;simp [Array.getD_eq_getD_getElem?,show j<listed.size by omega]
          · rw [if_neg h1];simp [Array.getD_eq_getD_getElem?,Array.getElem?_setIfInBounds_ne (Ne.symm h1)]
        by_cases hqi:q i=true
        · rw [if_pos hqi,same q (hq hqi)]
          have:(List.range i).filter q++[i]=(List.range (i+1)).filter q:=by rw [List.range_succ,List.filter_append];simp [hqi]
          rw [this]
          simp only [D,List.filter_filter]
          refine filter_range (by omega) (fun j hj=>?_)
          obtain ⟨bo,hbo⟩: ∃bo,l[j]?=some bo:=⟨l[j],by simp [hj]⟩
          rw [gs j]
          cases hqj:q j with
          |false=>simp
          |true=>
            by_cases hji:j=i
            · subst hji;simp
            · have:=hq hqi j bo hj hbo hqj hji
              rw [if_neg hji]
              simp only [Bool.true_and,Bool.and_true]
              by_cases h1:j<i
              · rw [this.2 h1];simp;omega
              · have h2:listed.getD j false=false:=by
                  cases h3:listed.getD j false with
                  |false=>rfl
                  |true=>exact absurd (this.1 h3) h1
                rw [h2];simp;omega
        · rw [if_neg hqi]
          simp only [D,List.filter_filter]
          apply List.filter_congr
          intro j hj
          rw [gs j]
          by_cases hji:j=i
          · subst hji;simp [hqi]
          · rw [if_neg hji]
      apply LS.ext'
      · intro t
        rw [runD_E δs t (D (listed.setIfInBounds i true)) _ (view σ) rfl,hD' _ (fun hqi j bo _ hj hq hne=>hpast j bo hj (Ne.symm hne) (.inl ⟨t,tEc t j bo hj hq,.inr (tEc t i ao hi hqi)⟩))]
        split
        · rename_i hqi
          rw [runD_snoc]
          simp only [tE] at hqi
          simp only [Dl.app]
          split at hqi
          · rename_i d x he;simp only [beq_iff_eq] at hqi;simp [hqi]
          · cases hqi
        · rename_i hqi
          rw [←runD_E δs t (D listed) (view σ) (view σ) rfl]
          simp only [Dl.app]
          split
          · rename_i d x he;rw [if_neg];intro e;exact hqi (by simp [tE,he,e])
          · rfl
      · intro t
        rw [runD_B δs t (D (listed.setIfInBounds i true)) _ (view σ) rfl,hD' _ (fun hqi j bo _ hj hq hne=>by
          obtain ⟨q1,q2⟩:=tBc t j bo hj hq
          exact hpast j bo hj (Ne.symm hne) (.inr (.inr ⟨t,q1,q2,(tBc t i ao hi hqi).1⟩)))]
        split
        · rename_i hqi
          rw [runD_snoc]
          simp only [tB] at hqi
          obtain ⟨x,hx⟩:=Option.isSome_iff_exists.1 hqi
          simp only [Dl.app,hx]
        · rename_i hqi
          rw [←runD_B δs t (D listed) (view σ) (view σ) rfl]
          simp only [Dl.app]
          split
          · rename_i x he;exact absurd (by simp [tB,he]) hqi
          · rfl
      · intro t
        rw [runD_M δs t (D (listed.setIfInBounds i true)) _ (view σ) rfl,hD' _ (fun hqi j bo _ hj hq hne=>by
          refine hpast j bo hj (Ne.symm hne) ?_
          rcases tMc t i ao hi hqi with ⟨d,hat,hd1⟩|⟨s,rfl,hs1⟩|⟨b,off,rfl,hb1,hb2⟩
          · rcases tMc _ j bo hj hq with ⟨d',e,hd'⟩|⟨s',e,hs'⟩|⟨_,_,e,_⟩
            · have:d'=d:=by cases t<;>simp [Pl.at] at e hat<;>omega
              subst this;exact .inl ⟨d',hd',.inr hd1⟩
            · subst e;simp [Pl.at] at hat;subst hat;exact .inr (.inl ⟨_,hs',.inl hd1⟩)
            · subst e;simp [Pl.at] at hat
          · rcases tMc _ j bo hj hq with ⟨d',e,hd'⟩|⟨s',e,hs'⟩|⟨_,_,e,_⟩
            · simp [Pl.at] at e;subst e;exact .inl ⟨_,hd',.inl (src_uses hs1)⟩
            · cases e;exact .inr (.inl ⟨s,hs',.inr hs1⟩)
            · cases e
          · rcases tMc _ j bo hj hq with ⟨d',e,hd'⟩|⟨s',e,hs'⟩|⟨b',off',e,h1,h2⟩
            · simp [Pl.at] at e
            · cases e
            · cases e;exact .inr (.inr ⟨b,h1,h2,hb1⟩))]
        split
        · rename_i hqi
          rw [runD_snoc]
          simp only [tM] at hqi
          obtain ⟨x,hx⟩:=Option.isSome_iff_exists.1 hqi
          simp only [Dl.app,hx]
        · rename_i hqi
          rw [←runD_M δs t (D listed) (view σ) (view σ) rfl]
          simp only [Dl.app]
          split
          · rename_i x he;exact absurd (by simp [tM,he]) hqi
          · rfl
  have congr: ∀ {S gb τ τ' a w},view τ=view τ'→Rel F S gb τ a w→Rel F S gb τ' a w:=by
    intro S gb τ τ' a w hv h
    have he:lk τ'.e=lk τ.e:=by have:=congrArg LS.E hv;exact this.symm
    have hb:lkB τ'.bx=lkB τ.bx:=by have:=congrArg LS.B hv;exact this.symm
    have hp:lkP τ'.pm=lkP τ.pm:=by have:=congrArg LS.M hv;exact this.symm
    refine ⟨h.defers,h.size,h.bw,h.ext,h.le,?_,⟨h.hr.agree,?_,?_,?_,?_,?_,?_,?_⟩,?_,?_,?_,h.up,h.glo⟩
    · intro t;rw [he];exact h.env t
    · intro d cs;rw [hb];exact h.hr.box d cs
    · intro d cs;rw [hb];exact h.hr.its d cs
    · intro d d';rw [hb];exact h.hr.inj d d'
    · intro p k;rw [hp];exact h.hr.own p k
    · intro p q k l' b;rw [hp];exact h.hr.ownd p q k l' b
    · intro p k b d;rw [hp,hb];exact h.hr.ownb p k b d
    · intro d off k;rw [hp,hb];exact h.hr.pmb d off k
    · intro d g z;rw [hb];exact h.newb d g z
    · intro p k g;rw [hp];exact h.newo p k g
    · intro d;rw [hb];exact h.dom d
  have main: ∀fuel listed a w,listed.size=ops.size→fuel+(D listed).length=l.length→(∀j,l.length≤j→listed.getD j false=false)→cl listed→(∃S gb τ,Rel F S gb τ a w∧view τ=runD δs (D listed) (view σ))→wpAny P .any ops Q (fuel+(ops.size - l.length)) listed a w:=by
    have allDone: ∀listed a w,listed.size=ops.size→(∀j,j<l.length→listed.getD j false=true)→(∀j,l.length≤j→listed.getD j false=false)→(∃S gb τ,Rel F S gb τ a w∧view τ=runD δs (D listed) (view σ))→wpAny P .any ops Q (ops.size - l.length) listed a w:=by
      rintro listed a w hls hall hopen ⟨S,gb,τ,h,hτ⟩
      refine hfin listed a w hls hall hopen S gb (σs l.length) j' h' (congr ?_ h) t2
      rw [hτ,hview _ (Nat.le_refl _)]
      congr 1
      simp only [D]
      exact List.filter_eq_self.2 (fun j hj=>hall j (List.mem_range.1 hj))
    have notReady: ∀listed,listed.size=ops.size→Region.ready .any ops listed=[]→ ∀j,j<ops.size→listed.getD j false=true:=by
      intro listed hls hr j
      induction j using Nat.strongRecOn with
      |_ j ih=>
        intro hj
        cases hl:listed.getD j false with
        |true=>rfl
        |false=>
          exfalso
          have hjs:j<ops.size:=hj
          have hmem:j∈Region.ready .any ops listed:=by
            simp only [Region.ready,List.mem_filter,List.mem_range,Bool.and_eq_true,Bool.not_eq_true']
            refine ⟨hjs,?_,?_⟩
            · have:listed.getD j true=listed.getD j false:=by simp [Array.getD_eq_getD_getElem?,show j<listed.size by omega]
              rw [this,hl]
            · have ho:ops[j]?=some ops[j]:=by simp [hjs]
              simp only [ho,Option.map_some,Option.getD_some]
              rw [Array.all_eq_true_iff_forall_mem]
              intro e he
              simp only [Bool.or_eq_true,Bool.not_eq_true']
              cases hbi:Region.binds .any e with
              |false=>left;rfl
              |true=>
                right
                have hm:e.on∈dirs ops[j]:=by
                  simp only [dirs,List.mem_map,List.mem_filter]
                  exact ⟨e,⟨by simpa using he,hbi⟩,rfl⟩
                have:=(hdir j _ ho).1 e.on hm
                exact ih e.on this (by omega)
          rw [hr] at hmem;simp at hmem
    intro fuel
    induction fuel with
    |zero=>
      intro listed a w hls hcnt hopen hcl hrel'
      have hall: ∀j,j<l.length→listed.getD j false=true:=by
        intro j hj
        have hlen:(D listed).length=(List.range l.length).length:=by simpa using hcnt
        have:=List.length_filter_eq_length_iff.1 hlen j (List.mem_range.2 hj)
        exact this
      rw [Nat.zero_add]
      exact allDone listed a w hls hall hopen hrel'
    |succ fuel ih=>
      intro listed a w hls hcnt hopen hcl hrel'
      have hex: ∃j,j<l.length∧listed.getD j false=false:=by
        refine Classical.byContradiction fun hno=>?_
        have hall: ∀j,j<l.length→listed.getD j false=true:=by
          intro j hj
          cases hl:listed.getD j false with
          |true=>rfl
          |false=>exact absurd ⟨j,hj,hl⟩ hno
        have:(D listed).length=(List.range l.length).length:=List.length_filter_eq_length_iff.2 fun j hj=>hall j (List.mem_range.1 hj)
        simp only [List.length_range] at this
        omega
      rw [show fuel+1+(ops.size - l.length)=(fuel+(ops.size - l.length))+1 by omega]
      refine ⟨fun hr=>?_,fun i hi=>?_⟩
      · obtain ⟨j,hj,hjf⟩:=hex
        rw [notReady listed hls hr j (by omega)] at hjf
        cases hjf
      simp only [Region.ready,List.mem_filter,List.mem_range,Bool.and_eq_true,Bool.not_eq_true'] at hi
      obtain ⟨his,hif,hib⟩:=hi
      have hf:listed.getD i false=false:=by
        have:listed.getD i true=listed.getD i false:=by simp [Array.getD_eq_getD_getElem?,show i<listed.size by omega]
        rw [←this];exact hif
      have ho:ops[i]?=some ops[i]:=by simp [his]
      have hd: ∀m∈dirs ops[i],listed.getD m false=true:=by
        intro m hm
        simp only [ho,Option.map_some,Option.getD_some] at hib
        rw [Array.all_eq_true_iff_forall_mem] at hib
        simp only [dirs,List.mem_map,List.mem_filter] at hm
        obtain ⟨e,⟨he,hbi⟩,rfl⟩:=hm
        have:=hib e (by simpa using he)
        simpa [hbi] using this
      have hil:i<l.length:=by
        rcases Nat.lt_or_ge i l.length with h|h
        · exact h
        · exfalso
          obtain ⟨j,hj,hjf⟩:=hex
          rw [hclos listed hcl i _ ho hd j (by omega) (htail i h his j hj)] at hjf
          cases hjf
      obtain ⟨ao,hi2,hmt⟩:=hop i _ ho hil
      obtain ⟨S,gb,τ,h,hτ⟩:=hrel'
      obtain ⟨hagr,hnext⟩:=hstep listed i ao ops[i] τ hls hcl ho hi2 hf hd hτ
      have hwp:=wpD_agr hagr (t1 i ao hi2).1
      have hfit':=wpD_fit (List.all_eq_true.1 hokG ao (List.mem_of_getElem? hi2)) hwp
      have hw1:wp1 (Spec P F.GL) ao (fun τ'=>view τ'=(δs i).app (view τ)) τ:=wpD_wp1 (wpD_of_eq (K':=fun δ=>view (δ.ap τ)=(δs i).app (view τ)) (view_ap hfit'.f) hwp)
      have hcl':cl (listed.setIfInBounds i true):=by
        intro j oj hoj hlj m hm
        have keep: ∀m,listed.getD m false=true→(listed.setIfInBounds i true).getD m false=true:=by
          intro m hm
          by_cases h1:m=i
          · subst h1;simp [Array.getD_eq_getD_getElem?,hls,his]
          · simp only [Array.getD_eq_getD_getElem?,Array.getElem?_setIfInBounds_ne (Ne.symm h1)] at hm ⊢;exact hm
        by_cases hji:j=i
        · subst hji
          rw [ho] at hoj;cases hoj
          exact keep m (hd m hm)
        · have:listed.getD j false=true:=by
            simp only [Array.getD_eq_getD_getElem?,Array.getElem?_setIfInBounds_ne (Ne.symm hji)] at hlj ⊢;exact hlj
          exact keep m (hcl j oj hoj this m hm)
      have hcnt':fuel+(D (listed.setIfInBounds i true)).length=l.length:=by
        have:=count_set (show l.length≤listed.size by omega) hil hf
        simp only [D] at hcnt ⊢
        omega
      have:=opg_sound h hmt hw1 (K':=wpAny P .any ops Q (fuel+(ops.size - l.length)) (listed.setIfInBounds i true)) (Q:=Q) (fun S' gb' τ' a' w' h' hv'=>
        ih _ a' w' (by simpa using hls) hcnt' (fun j hj=>by have:=hopen j hj;simp only [Array.getD_eq_getD_getElem?,Array.getElem?_setIfInBounds_ne (show i≠j by omega)] at this ⊢;exact this) hcl' ⟨S',gb',τ',h',by rw [hv'];exact hnext⟩)
      unfold wpOp
      rw [ho]
      simp only []
      split
      · rename_i hc;rw [if_pos hc] at this;exact .inl this
      · rename_i hc;rw [if_neg hc] at this;exact this
  have rep: ∀j,(Array.replicate ops.size false).getD j false=false:=by
    intro j
    simp only [Array.getD_eq_getD_getElem?,Array.getElem?_replicate]
    split<;>rfl
  have none:D (Array.replicate ops.size false)=[]:=by
    simp only [D,List.filter_eq_nil_iff,List.mem_range]
    intro j hj
    rw [rep j];simp
  have:=main l.length (Array.replicate ops.size false) a {w with drawn:=w.drawn+1} (by simp) (by rw [none];simp) (fun j _=>rep j) (fun j o ho hl=>by rw [rep j] at hl;cases hl) ⟨S,gb,σ,hrel.drew,by rw [none];rfl⟩
  rw [show l.length+(ops.size - l.length)=ops.size by omega] at this
  exact this

theorem draws_any0 {P:Program} {GL:List (Nat×List Value)} {N:Nat}:
  ∀(F:Fr),F.GL=GL→F.N=N→ ∀(ops:Array Oper) (us:List (List Nat)) (l:List AOp),mts P F.GL F.N ops ops.toList l=true→drD0 ops us l=true→ ∀(K:St→Prop) (Q:Exit→Act→World→Prop),(∀S gb σ a w,Rel F S gb σ a w→K σ→Q .normal a w)→
    ∀ {S:Mem} {gb:Gb} {σ:St} {a:Act} {w:World},Rel F S gb σ a w→wpLd (Spec P F.GL) us l 0 [] K σ→wpAny P .any ops Q ops.size (Array.replicate ops.size false) a {w with drawn:=w.drawn+1}:=by
  intro F hGL hN ops us l hmts hdr K Q hQ S gb σ a w hrel hw
  simp only [drD0,Bool.and_eq_true,beq_iff_eq] at hdr
  obtain ⟨⟨⟨⟨⟨hanc,hsz⟩,hus⟩,hokG⟩,hpair⟩,htl⟩:=hdr
  have hop: ∀(i:Nat) (o:Oper),ops[i]?=some o→ ∃ao,l[i]?=some ao∧mt P F.GL F.N ops o ao=true:=by
    have: ∀(ol:List Oper) (al:List AOp),mts P F.GL F.N ops ol al=true→ ∀(i:Nat) (o:Oper),ol[i]?=some o→ ∃ao,al[i]?=some ao∧mt P F.GL F.N ops o ao=true:=by
      intro ol
      induction ol with
      |nil=>intro al _ i o h;simp at h
      |cons x r ih=>
        intro al hm i o h
        cases al with
        |nil=>simp [mts] at hm
        |cons y s=>
          simp only [mts,Bool.and_eq_true] at hm
          cases i with
          |zero=>simp at h;subst h;exact ⟨y,by simp,hm.1⟩
          |succ i=>simp at h ⊢;exact ih s hm.2 i o h
    intro i o h
    exact this _ _ hmts i o (by simpa using h)
  generalize hA:ancs ops.toList []=A at hanc hpair htl
  have hm:preL l≤l.length:=by unfold preL;split<;>omega
  have hlt:(l.take (preL l)).length=preL l:=by simp;omega
  have hut:(us.take (preL l)).length=preL l:=by simp;omega
  have hgl: ∀j,j<preL l→(l.take (preL l)).getD j .no=l.getD j .no:=by
    intro j hj
    simp only [List.getD_eq_getElem?_getD,List.getElem?_take,if_pos hj]
  have hgu: ∀j,j<preL l→(us.take (preL l)).getD j []=us.getD j []:=by
    intro j hj
    simp only [List.getD_eq_getElem?_getD,List.getElem?_take,if_pos hj]
  refine draws_pre (us:=us.take (preL l)) (l:=l.take (preL l)) (ut:=us.drop (preL l)) (lt:=l.drop (preL l)) (A:=A) (K:=K) (by rw [hlt];omega) hanc (by rw [hlt,hut]) hokG ?_ ?_ ?_ ?_ hrel (by
    rw [List.take_append_drop,List.take_append_drop];exact hw)
  · rw [hlt]
    refine List.all_eq_true.2 fun j hj=>List.all_eq_true.2 fun i hi=>?_
    have hj':=List.mem_range.1 hj
    have hi':=List.mem_range.1 hi
    have:=List.all_eq_true.1 (List.all_eq_true.1 hpair j hj) i hi
    unfold okPair at this ⊢
    rw [hgl i (by omega),hgl j hj',hgu j hj']
    exact this
  · intro i o ho hi
    rw [hlt] at hi
    obtain ⟨ao,h1,h2⟩:=hop i o ho
    exact ⟨ao,by rw [List.getElem?_take,if_pos hi];exact h1,h2⟩
  · intro i hi his k hk
    rw [hlt] at hi hk
    have hi2:i=preL l:=by
      have:preL l=l.length∨preL l=l.length - 1:=by unfold preL;split<;>simp
      omega
    subst hi2
    simp only [Bool.or_eq_true,beq_iff_eq,List.all_eq_true,List.mem_range] at htl
    rcases htl with h|h
    · omega
    · exact h k hk
  · intro listed a w hls hall hopen S gb τ j' h' hr hwl
    rw [hlt] at hall hopen ⊢
    have hcase:preL l=l.length∨(preL l+1=l.length):=by
      have:preL l=l.length∨preL l=l.length - 1:=by unfold preL;split<;>simp
      rcases this with h|h
      · exact .inl h
      · rcases Nat.eq_zero_or_pos l.length with h0|h0
        · left;omega
        · right;omega
    rcases hcase with hc|hc
    · have e1:l.drop (preL l)=[]:=by rw [hc];simp
      have e2:us.drop (preL l)=[]:=by rw [hc,←hus];simp
      rw [e1,e2] at hwl
      rw [show ops.size - preL l=0 by omega]
      refine ⟨?_,hQ S gb τ a w hr hwl⟩
      simp only [Region.ready,List.filter_eq_nil_iff,List.mem_range,Bool.and_eq_true,Bool.not_eq_true',not_and]
      intro j hj hf
      have:listed.getD j true=listed.getD j false:=by simp [Array.getD_eq_getD_getElem?,show j<listed.size by omega]
      rw [this,hall j (by omega)] at hf
      cases hf
    · obtain ⟨o,ho⟩: ∃o,l[preL l]?=some o:=⟨l[preL l],by simp⟩
      obtain ⟨u,hu⟩: ∃u,us[preL l]?=some u:=⟨us[preL l],by simp⟩
      have e1:l.drop (preL l)=[o]:=by
        rw [List.drop_eq_getElem_cons (by omega),List.drop_eq_nil_of_le (by omega)]
        have:=(List.getElem?_eq_some_iff.1 ho).2
        rw [this]
      have e2:us.drop (preL l)=[u]:=by
        rw [List.drop_eq_getElem_cons (by omega),List.drop_eq_nil_of_le (by omega)]
        have:=(List.getElem?_eq_some_iff.1 hu).2
        rw [this]
      rw [e1,e2] at hwl
      obtain ⟨-,hw1⟩:=hwl
      have hpl:preL l<ops.size:=by omega
      have hops:ops[preL l]?=some ops[preL l]:=by simp [hpl]
      obtain ⟨ao,h1,hmt⟩:=hop _ _ hops
      rw [ho] at h1;cases h1
      rw [show ops.size - preL l=0+1 by omega]
      have hready: ∀lst:Array Bool,lst.size=ops.size→(∀j,j<l.length→lst.getD j false=true)→Region.ready .any ops lst=[]:=by
        intro lst hl hal
        simp only [Region.ready,List.filter_eq_nil_iff,List.mem_range,Bool.and_eq_true,Bool.not_eq_true',not_and]
        intro j hj hf
        have:lst.getD j true=lst.getD j false:=by simp [Array.getD_eq_getD_getElem?,show j<lst.size by omega]
        rw [this,hal j (by omega)] at hf
        cases hf
      have hdirs: ∀m∈dirs ops[preL l],m<preL l:=by
        intro m hm'
        have:=List.all_eq_true.1 hanc (preL l) (List.mem_range.2 (by simpa using hpl))
        simp only [Array.getElem?_toList,hops,Bool.and_eq_true,List.all_eq_true] at this
        simpa using this.1 m hm'
      have hrd:preL l∈Region.ready .any ops listed:=by
        simp only [Region.ready,List.mem_filter,List.mem_range,Bool.and_eq_true,Bool.not_eq_true']
        refine ⟨hpl,?_,?_⟩
        · have:listed.getD (preL l) true=listed.getD (preL l) false:=by simp [Array.getD_eq_getD_getElem?,show preL l<listed.size by omega]
          rw [this,hopen _ (Nat.le_refl _)]
        · simp only [hops,Option.map_some,Option.getD_some]
          rw [Array.all_eq_true_iff_forall_mem]
          intro e he
          simp only [Bool.or_eq_true,Bool.not_eq_true']
          cases hbi:Region.binds .any e with
          |false=>left;rfl
          |true=>
            right
            refine hall _ (hdirs e.on ?_)
            simp only [dirs,List.mem_map,List.mem_filter]
            exact ⟨e,⟨by simpa using he,hbi⟩,rfl⟩
      refine ⟨fun hr0=>(by rw [hr0] at hrd;cases hrd),fun i hi=>?_⟩
      simp only [Region.ready,List.mem_filter,List.mem_range,Bool.and_eq_true,Bool.not_eq_true'] at hi
      have hi2:i=preL l:=by
        rcases Nat.lt_or_ge i (preL l) with h|h
        · have hh:=hi.2.1
          have:listed.getD i true=listed.getD i false:=by simp [Array.getD_eq_getD_getElem?,show i<listed.size by omega]
          rw [this,hall i h] at hh
          cases hh
        · omega
      subst hi2
      have hlast:=opg_sound hr hmt hw1 (K':=wpAny P .any ops Q 0 (listed.setIfInBounds (preL l) true)) (Q:=Q) (fun S' gb' τ' a' w' hr' hk'=>by
        refine ⟨hready _ (by simpa using hls) fun j hj=>?_,hQ S' gb' τ' a' w' hr' (kpK_iff.1 hk').2⟩
        by_cases hjp:j=preL l
        · subst hjp;simp [Array.getD_eq_getD_getElem?,hls,hpl]
        · simp only [Array.getD_eq_getD_getElem?,Array.getElem?_setIfInBounds_ne (Ne.symm hjp)]
          have:=hall j (by omega)
          simpa only [Array.getD_eq_getD_getElem?] using this)
      unfold wpOp
      rw [hops]
      simp only []
      split
      · rename_i hc;rw [if_pos hc] at hlast;exact .inl hlast
      · rename_i hc;rw [if_neg hc] at hlast;exact hlast
end Go.Ai
