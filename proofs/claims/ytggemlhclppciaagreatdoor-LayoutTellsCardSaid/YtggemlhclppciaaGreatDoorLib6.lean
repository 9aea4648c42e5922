/- Lib6: a part of the proof: the rules, or what functions compute. Conditions: as each theorem says. -/
import Derived.Test.YtggemlhclppciaaGreatDoorLib5
set_option linter.unusedSimpArgs false
set_option linter.unusedVariables false
namespace Go.Ai
open Go.RowKit

def dirs (o:Oper):List Nat:=(o.after.toList.filter fun e=>Region.binds .any e).map (·.on)
def ancs:List Oper→List Nat→List Nat
  |[],acc=>acc
  |o::r,acc=>ancs r (acc++[(dirs o).foldl (fun s m=>s|||2^m|||acc.getD m 0) 0])
def okAnc (ops:List Oper) (A:List Nat):Bool:=
  (List.range ops.length).all fun j=>match ops[j]? with
    |some o=>(dirs o).all (fun m=>Nat.blt m j)&&(List.range j).all fun k=>!(A.getD j 0).testBit k||(dirs o).contains k||(dirs o).any fun m=>Nat.blt k m&&(A.getD m 0).testBit k
    |none=>false
def okPair (us:List (List Nat)) (l:List AOp) (A:List Nat) (i j:Nat):Bool:=
  (A.getD j 0).testBit i||
  (let x:=l.getD i .no;let y:=l.getD j .no
   ((dstA x).isNone||dstA x !=dstA y)&&(match dstA x with |some d=>!(usesA y).contains d|none=>true)&&(match dstA y with |some d=>!(usesA x).contains d|none=>true)&&
   ((srcA x).isNone||srcA x !=srcA y)&&(boxA x==0||boxA y==0||(boxA x==1&&boxA y==1)||(us.getD j []).contains i))
def preL (l:List AOp):Nat:=if l.all okG then l.length else l.length - 1
def drD (ops:Array Oper) (us:List (List Nat)) (l:List AOp):Bool:=
  let A:=ancs ops.toList []
  let m:=preL l
  okAnc ops.toList A&&ops.size==l.length&&us.length==l.length&&(l.take m).all okG&&((List.range m).all fun j=>(List.range j).all fun i=>okPair us l A i j)&&
    (m==l.length||(List.range m).all fun k=>(A.getD m 0).testBit k)

variable {Sp:Nat→Nat→In→Out→Prop}
theorem okG_okD: ∀ {o:AOp},okG o=true→okD o=true:=by
  intro o
  induction o with
  |gd s b d o ih=>intro h;simp only [okG,Bool.and_eq_true] at h;exact ih h.2
  |_=>intro h;exact h

theorem offH_all: ∀ {h:List (Nat×Bx)} {u:List Nat} {b:Bx},offH h u b→ ∀p∈h,p.1∈u→djB p.2 b
  |[],_,_,_,p,hp,_=>by simp at hp
  |(i,b')::h,u,b,ho,p,hp,hu=>by
    simp only [offH] at ho
    cases hp with
    |head=>exact ho.1 hu
    |tail _ hp=>exact offH_all ho.2 p hp hu

theorem trace: ∀ {l:List AOp} {us:List (List Nat)} {j0:Nat} {h:List (Nat×Bx)} {K:St→Prop} {σ:St} {ut:List (List Nat)} {lt:List AOp},us.length=l.length→l.all okG=true→wpLd Sp (us++ut) (l++lt) j0 h K σ→
    ∃(δs:Nat→Dl) (σs:Nat→St),σs 0=σ∧(∀(k:Nat) (o:AOp),l[k]?=some o→wpD Sp o (· =δs k) (σs k)∧view (σs (k+1))=(δs k).app (view (σs k)))∧(∃j' h',wpLd Sp ut lt j' h' K (σs l.length))∧
      (∀(k:Nat) (o:AOp) (u:List Nat) (b:Bx),l[k]?=some o→us[k]?=some u→bid (σs k) o=some b→(∀p∈h,p.1∈u→djB p.2 b)∧(∀i o',i<k→l[i]?=some o'→i+j0∈u→ ∀b',bid (σs i) o'=some b'→djB b' b))∧
      (∀(k:Nat) (o:AOp) (u:List Nat),l[k]?=some o→us[k]?=some u→(∀p∈h,p.1∈u→p.2.kept (σs (k+1)))∧(∀i o',i<k→l[i]?=some o'→i+j0∈u→ ∀b',bid (σs i) o'=some b'→b'.kept (σs (k+1))))
  |[],us,j0,h,K,σ,ut,lt,hlen,hok,hw=>by
    cases us with
    |nil=>exact ⟨fun _=> .put 0 .undef,fun _=>σ,rfl,by simp,⟨j0,h,hw⟩,by simp,by simp⟩
    |cons=>simp at hlen
  |o::r,us,j0,h,K,σ,ut,lt,hlen,hok,hw=>by
    cases us with
    |nil=>simp at hlen
    |cons u us=>
      simp only [List.all_cons,Bool.and_eq_true] at hok
      obtain ⟨hoff,hw⟩:=hw
      obtain ⟨δ,hd,hk⟩:=wpD_one (wp1_wpD (okG_okD hok.1) hw)
      obtain ⟨hkp,hk⟩:=kpK_iff.1 hk
      have hfit:=wpD_fit hok.1 hd
      obtain ⟨δs,σs,t0,t1,t2,t3,t4⟩:=trace (by simpa using hlen) hok.2 hk
      refine ⟨fun|0=>δ|k+1=>δs k,fun|0=>σ|k+1=>σs k,rfl,?_,t2,?_,?_⟩
      · intro k o' ho
        cases k with
        |zero=>
          simp at ho;subst ho
          refine ⟨hd,?_⟩
          simp only [t0]
          exact view_ap hfit.f
        |succ k=>simp at ho;exact t1 k o' ho
      · intro k o' u' b ho hu hb
        cases k with
        |zero=>
          simp at ho hu;subst ho;subst hu
          refine ⟨?_,by intro i o' hi;omega⟩
          simp only at hb
          rw [hb] at hoff
          simp only [offO] at hoff
          exact offH_all hoff
        |succ k=>
          simp at ho hu
          obtain ⟨s1,s2⟩:=t3 k o' u' b ho hu hb
          refine ⟨fun p hp hpu=>s1 p ?_ hpu,fun i o2 hi ho2 hiu=>?_⟩
          · cases hbb:bid σ o with
            |none=>exact hp
            |some b'=>simp only [addH];exact List.mem_cons_of_mem _ hp
          · cases i with
            |zero=>
              simp at ho2;subst ho2
              intro b' hbi
              simp only at hbi
              rw [hbi] at s1
              exact s1 (j0,b') (by simp [addH]) (by simpa using hiu)
            |succ i=>
              simp at ho2
              exact s2 i o2 (by omega) ho2 (by rw [show i+(j0+1)=i+1+j0 by omega];exact hiu)
      · intro k o' u' ho hu
        cases k with
        |zero=>
          simp at ho hu;subst ho;subst hu
          refine ⟨?_,by intro i o' hi;omega⟩
          simp only [t0]
          exact hkp
        |succ k=>
          simp at ho hu
          obtain ⟨s1,s2⟩:=t4 k o' u' ho hu
          refine ⟨fun p hp hpu=>s1 p ?_ hpu,fun i o2 hi ho2 hiu=>?_⟩
          · cases hbb:bid σ o with
            |none=>exact hp
            |some b'=>simp only [addH];exact List.mem_cons_of_mem _ hp
          · cases i with
            |zero=>
              simp at ho2;subst ho2
              intro b' hbi
              simp only at hbi
              rw [hbi] at s1
              exact s1 (j0,b') (by simp [addH]) (by simpa using hiu)
            |succ i=>
              simp at ho2
              exact s2 i o2 (by omega) ho2 (by rw [show i+(j0+1)=i+1+j0 by omega];exact hiu)
theorem loadS_ext {x y:List (Id×List AV)} {b:Id} {off:Nat} (h:lkB x b=lkB y b):loadS x (.ptr b off)=loadS y (.ptr b off):=by
  simp only [loadS,h]
theorem bid_cel: ∀ {o:AOp} {σ:St} {b:Id} {off:Nat} {v:AV},bid σ o=some (.cel b off v)→loadS σ.bx (.ptr b off)=some v∧boxA o=1:=by
  intro o
  induction o with
  |gd s b d o ih=>
    intro σ b' off v h
    simp only [bid] at h
    split at h
    · split at h
      · simpa [boxA] using ih h
      · cases h
    · cases h
  |ldf d x=>
    intro σ b off v h
    simp only [bid] at h
    split at h
    · split at h
      · rename_i hl
        cases h
        exact ⟨hl,rfl⟩
      · cases h
    · cases h
  |_=>
    intro σ b off v h
    simp only [bid] at h
    repeat' (first|(split at h)|contradiction)
    all_goals cases h

theorem count_set {n i:Nat} {listed:Array Bool} (hs:n≤listed.size) (hi:i<n) (hf:listed.getD i false=false):
    ((List.range n).filter fun j=>(listed.setIfInBounds i true).getD j false).length=((List.range n).filter fun j=>listed.getD j false).length+1:=by
  have key: ∀m,m≤n→((List.range m).filter fun j=>(listed.setIfInBounds i true).getD j false).length=((List.range m).filter fun j=>listed.getD j false).length+if i<m then 1 else 0:=by
    intro m
    induction m with
    |zero=>intro _;simp
    |succ m ih=>
      intro hm
      rw [List.range_succ,List.filter_append,List.filter_append,List.length_append,List.length_append,ih (by omega)]
      by_cases him:i=m
      · subst him
        have e1:(listed.setIfInBounds i true).getD i false=true:=by simp [Array.getD_eq_getD_getElem?,show i<listed.size by omega]
        have e2:([i].filter fun j=>(listed.setIfInBounds i true).getD j false)=[i]:=by simp only [List.filter_cons,e1,if_true,List.filter_nil]
        have e3:([i].filter fun j=>listed.getD j false)=[]:=by simp only [List.filter_cons,hf,List.filter_nil];rfl
        rw [e2,e3,if_neg (Nat.lt_irrefl _),if_pos (Nat.lt_succ_self _)];rfl
      · have e1:(listed.setIfInBounds i true).getD m false=listed.getD m false:=by
          simp [Array.getD_eq_getD_getElem?,Array.getElem?_setIfInBounds_ne him]
        have e2:([m].filter fun j=>(listed.setIfInBounds i true).getD j false)=[m].filter fun j=>listed.getD j false:=by simp only [List.filter_cons,e1,List.filter_nil]
        rw [e2]
        by_cases h1:i<m
        · rw [if_pos h1,if_pos (by omega)];omega
        · rw [if_neg h1,if_neg (by omega)];omega
  have:=key n (Nat.le_refl _)
  rw [if_pos hi] at this
  exact this

variable {P:Program} {GL:List (Nat×List Value)} {N:Nat}

theorem draws_pre {F:Fr} {ops:Array Oper} {us:List (List Nat)} {l:List AOp} {ut:List (List Nat)} {lt:List AOp} {A:List Nat}
    (hn:l.length≤ops.size) (hanc:okAnc ops.toList A=true) (hus:us.length=l.length) (hokG:l.all okG=true)
    (hpair:((List.range l.length).all fun j=>(List.range j).all fun i=>okPair us l A i j)=true)
    (hop: ∀(i:Nat) (o:Oper),ops[i]?=some o→i<l.length→ ∃ao,l[i]?=some ao∧mt P F.GL F.N ops o ao=true)
    (htail: ∀i,l.length≤i→i<ops.size→ ∀k,k<l.length→(A.getD i 0).testBit k=true)
    {K:St→Prop} {Q:Exit→Act→World→Prop}
    (hfin: ∀(listed:Array Bool) (a:Act) (w:World),listed.size=ops.size→(∀j,j<l.length→listed.getD j false=true)→(∀j,l.length≤j→listed.getD j false=false)→
      ∀(S:Mem) (gb:Gb) (τ:St) (j':Nat) (h':List (Nat×Bx)),Rel F S gb τ a w→wpLd (Spec P F.GL) ut lt j' h' K τ→wpAny P .any ops Q (ops.size - l.length) listed a w)
    {S:Mem} {gb:Gb} {σ:St} {a:Act} {w:World} (hrel:Rel F S gb σ a w) (hw:wpLd (Spec P F.GL) (us++ut) (l++lt) 0 [] K σ):wpAny P .any ops Q ops.size (Array.replicate ops.size false) a {w with drawn:=w.drawn+1}:=by
  obtain ⟨δs,σs,t0,t1,⟨j',h',t2⟩,t3,t4⟩:=trace hus hokG hw
  have hdir: ∀(j:Nat) (o:Oper),ops[j]?=some o→(∀m∈dirs o,m<j)∧ ∀k,k<j→(A.getD j 0).testBit k=true→k∈dirs o∨ ∃m∈dirs o,k<m∧(A.getD m 0).testBit k=true:=by
    intro j o ho
    have hj:j<ops.size:=(Array.getElem?_eq_some_iff.1 ho).1
    have:=List.all_eq_true.1 hanc j (List.mem_range.2 (by simpa using hj))
    simp only [Array.getElem?_toList,ho,Bool.and_eq_true,List.all_eq_true,Bool.or_eq_true,Bool.not_eq_true',List.contains_eq_mem,decide_eq_true_eq,List.any_eq_true,List.mem_range] at this
    refine ⟨fun m hm=>by have:=this.1 m hm;simpa using this,fun k hk hb=>?_⟩
    rcases this.2 k hk with (h|h)|⟨m,h1,h2,h3⟩
    · rw [h] at hb;cases hb
    · exact .inl h
    · exact .inr ⟨m,h1,by simpa using h2,h3⟩
  let cl (listed:Array Bool):Prop:= ∀(j:Nat) (o:Oper),ops[j]?=some o→listed.getD j false=true→ ∀m∈dirs o,listed.getD m false=true
  have hclos: ∀listed,cl listed→ ∀(j:Nat) (o:Oper),ops[j]?=some o→(∀m∈dirs o,listed.getD m false=true)→ ∀k,k<j→(A.getD j 0).testBit k=true→listed.getD k false=true:=by
    intro listed hcl j
    induction j using Nat.strongRecOn with
    |_ j ih=>
      intro o ho hd k hk hb
      obtain ⟨d1,d2⟩:=hdir j o ho
      rcases d2 k hk hb with h|⟨m,hm,hkm,hbm⟩
      · exact hd k h
      · have hmj:=d1 m hm
        have hms:m<ops.size:=by have:=(Array.getElem?_eq_some_iff.1 ho).1;omega
        obtain ⟨om,hom⟩: ∃om,ops[m]?=some om:=⟨ops[m],by simp [hms]⟩
        exact ih m hmj om hom (hcl m om hom (hd m hm)) k hkm hbm
  have hview: ∀k,k≤l.length→view (σs k)=runD δs (List.range k) (view σ):=by
    intro k
    induction k with
    |zero=>intro _;rw [t0];rfl
    |succ k ih=>
      intro hk
      obtain ⟨o,ho⟩: ∃o,l[k]?=some o:=⟨l[k],by simp⟩
      rw [List.range_succ,runD_snoc,(t1 k o ho).2,ih (by omega)]
  have hord: ∀(i j:Nat) (ao bo:AOp),i<j→l[i]?=some ao→l[j]?=some bo→(A.getD j 0).testBit i=false→
      (∀d,dstA ao=some d→dstA bo≠some d)∧(∀d,dstA ao=some d→d∉usesA bo)∧(∀d,dstA bo=some d→d∉usesA ao)∧(∀s,srcA ao=some s→srcA bo≠some s)∧
      (∀b,tchO (bid (σs i) ao) b→tchO (bid (σs j) bo) b→boxA ao=1∧boxA bo=1):=by
    intro i j ao bo hij hi hj hb
    have hjl:j<l.length:=(List.getElem?_eq_some_iff.1 hj).1
    have hp:=List.all_eq_true.1 (List.all_eq_true.1 hpair j (List.mem_range.2 hjl)) i (List.mem_range.2 hij)
    have ei:l.getD i .no=ao:=by simp [List.getD_eq_getElem?_getD,hi]
    have ej:l.getD j .no=bo:=by simp [List.getD_eq_getElem?_getD,hj]
    simp only [okPair,hb,Bool.false_or,ei,ej,Bool.and_eq_true] at hp
    obtain ⟨⟨⟨⟨h1,h2⟩,h3⟩,h4⟩,h5⟩:=hp
    refine ⟨fun d hd=>?_,fun d hd=>?_,fun d hd=>?_,fun s hs=>?_,fun b hb1 hb2=>?_⟩
    · rw [hd] at h1;simp at h1;exact fun e=>h1 e.symm
    · rw [hd] at h2;simpa using h2
    · rw [hd] at h3;simpa using h3
    · rw [hs] at h4;simp at h4;exact fun e=>h4 e.symm
    · obtain ⟨x1,y1⟩: ∃x,bid (σs i) ao=some x:=by
        cases h:bid (σs i) ao with
        |none=>rw [h] at hb1;cases hb1
        |some x=>exact ⟨x,rfl⟩
      obtain ⟨x2,y2⟩: ∃x,bid (σs j) bo=some x:=by
        cases h:bid (σs j) bo with
        |none=>rw [h] at hb2;cases hb2
        |some x=>exact ⟨x,rfl⟩
      rw [y1] at hb1
      rw [y2] at hb2
      have z1:=bid_box y1
      have z2:=bid_box y2
      simp only [Bool.or_eq_true,beq_iff_eq,z1,z2,false_or,Bool.and_eq_true] at h5
      rcases h5 with h5|h5
      · exact h5
      · exfalso
        have hul:j<us.length:=by omega
        obtain ⟨u,hu⟩: ∃u,us[j]?=some u:=⟨us[j],by simp [hul]⟩
        have hiu:i∈u:=by simpa [List.getD_eq_getElem?_getD,hu] using h5
        exact djB_no ((t3 j bo u x2 hj hu y2).2 i ao hij hi (by simpa using hiu) x1 y1) hb1 hb2
  have hconf: ∀(i j:Nat) (ao bo:AOp),i≠j→l[i]?=some ao→l[j]?=some bo→
      ((∃t,dstA bo=some t∧(t∈usesA ao∨dstA ao=some t))∨(∃s,srcA bo=some s∧(dstA ao=some s∨srcA ao=some s))∨(∃b,tchO (bid (σs j) bo) b∧boxA bo=2∧tchO (bid (σs i) ao) b))→
      (i<j→(A.getD j 0).testBit i=true)∧(j<i→(A.getD i 0).testBit j=true):=by
    intro i j ao bo hne hi hj hc
    constructor
    · intro hij
      cases hb:(A.getD j 0).testBit i with
      |true=>rfl
      |false=>
        exfalso
        obtain ⟨g1,g2,g3,g4,g5⟩:=hord i j ao bo hij hi hj hb
        rcases hc with ⟨t,h1,h2⟩|⟨s,h1,h2⟩|⟨b,h1,h2,h3⟩
        · rcases h2 with h2|h2
          · exact g3 t h1 h2
          · exact g1 t h2 h1
        · rcases h2 with h2|h2
          · exact g2 s h2 (src_uses h1)
          · exact g4 s h2 h1
        · have:=g5 b h3 h1;omega
    · intro hji
      cases hb:(A.getD i 0).testBit j with
      |true=>rfl
      |false=>
        exfalso
        obtain ⟨g1,g2,g3,g4,g5⟩:=hord j i bo ao hji hj hi hb
        rcases hc with ⟨t,h1,h2⟩|⟨s,h1,h2⟩|⟨b,h1,h2,h3⟩
        · rcases h2 with h2|h2
          · exact g2 t h1 h2
          · exact g1 t h1 h2
        · rcases h2 with h2|h2
          · exact g3 s h2 (src_uses h1)
          · exact g4 s h1 h2
        · have:=g5 b h1 h3;omega
  have hfit: ∀(k:Nat) (o:AOp),l[k]?=some o→Fit o (σs k) (δs k):=fun k o ho=>wpD_fit (List.all_eq_true.1 hokG o (List.mem_of_getElem? ho)) (t1 k o ho).1
  let D (listed:Array Bool):List Nat:=(List.range l.length).filter fun j=>listed.getD j false
  have hstep: ∀(listed:Array Bool) (i:Nat) (ao:AOp) (o:Oper) (τ:St),listed.size=ops.size→cl listed→ops[i]?=some o→l[i]?=some ao→listed.getD i false=false→(∀m∈dirs o,listed.getD m false=true)→
      view τ=runD δs (D listed) (view σ)→Agr ao (σs i) τ∧(δs i).app (view τ)=runD δs (D (listed.setIfInBounds i true)) (view σ):=by
    intro listed i ao o τ hls hcl ho hi hf hd hτ
    have hil:i<l.length:=(List.getElem?_eq_some_iff.1 hi).1
    have hpast: ∀(j:Nat) (bo:AOp),l[j]?=some bo→i≠j→((∃t,dstA bo=some t∧(t∈usesA ao∨dstA ao=some t))∨(∃s,srcA bo=some s∧(dstA ao=some s∨srcA ao=some s))∨(∃b,tchO (bid (σs j) bo) b∧boxA bo=2∧tchO (bid (σs i) ao) b))→(listed.getD j false=true↔j<i):=by
      intro j bo hj hne hc
      obtain ⟨c1,c2⟩:=hconf i j ao bo hne hi hj hc
      constructor
      · intro hl
        rcases Nat.lt_or_ge j i with h|h
        · exact h
        · exfalso
          have hij:i<j:=by omega
          have hjs:j<ops.size:=by have:=(List.getElem?_eq_some_iff.1 hj).1;omega
          have:=hclos listed hcl j ops[j] (by simp [hjs]) (hcl j ops[j] (by simp [hjs]) hl) i hij (c1 hij)
          rw [hf] at this;cases this
      · intro hji
        exact hclos listed hcl i o ho hd j hji (c2 hji)
    have same: ∀(q:Nat→Bool),(∀(j:Nat) (bo:AOp),j<l.length→l[j]?=some bo→q j=true→j≠i→(listed.getD j false=true↔j<i))→
        ((D listed).filter q)=((List.range i).filter q):=by
      intro q hq
      simp only [D,List.filter_filter]
      refine filter_range (Nat.le_of_lt hil) (fun j hj=>?_)
      obtain ⟨bo,hbo⟩: ∃bo,l[j]?=some bo:=⟨l[j],by simp [hj]⟩
      cases hqj:q j with
      |false=>simp
      |true=>
        by_cases hji:j=i
        · subst hji;simp [hf]
        · have:=hq j bo hj hbo hqj hji
          simp only [Bool.true_and,Bool.and_true]
          by_cases h1:j<i
          · rw [this.2 h1];simp [h1]
          · have h2:listed.getD j false=false:=by
              cases h3:listed.getD j false with
              |false=>rfl
              |true=>exact absurd (this.1 h3) h1
            rw [h2];simp;omega
    have hvi:=hview i (Nat.le_of_lt hil)
    have tEc: ∀(t j:Nat) (bo:AOp),l[j]?=some bo→tE t (δs j)=true→dstA bo=some t:=by
      intro t j bo hj ht
      simp only [tE] at ht
      split at ht
      · rename_i d x he;simp only [beq_iff_eq] at ht;subst ht;exact (hfit j bo hj).e _ _ he
      · cases ht
    have tBc: ∀(b:Id) (j:Nat) (bo:AOp),l[j]?=some bo→tB b (δs j)=true→tchO (bid (σs j) bo) b∧boxA bo=2:=by
      intro b j bo hj ht
      simp only [tB] at ht
      obtain ⟨x,hx⟩:=Option.isSome_iff_exists.1 ht
      exact (hfit j bo hj).b _ _ hx
    have tMc: ∀(p:Pl) (j:Nat) (bo:AOp),l[j]?=some bo→tM p (δs j)=true→(∃d,p.at d=true∧dstA bo=some d)∨(∃s,p= .s s∧srcA bo=some s)∨(∃b off,p= .b b off∧tchO (bid (σs j) bo) b∧boxA bo=2):=by
      intro p j bo hj ht
      obtain ⟨x,hx⟩:=Option.isSome_iff_exists.1 ht
      exact (hfit j bo hj).m p x hx
    refine ⟨⟨fun t ht=>?_,fun b hb=>?_,fun p hp=>?_,fun b off hb h2=>?_,fun x hx=>?_⟩,?_⟩
    · have e1:lk (σs i).e t=(runD δs (List.range i) (view σ)).E t:=by rw [←hvi];rfl
      have e2:lk τ.e t=(runD δs (D listed) (view σ)).E t:=by rw [←hτ];rfl
      rw [e1,e2,runD_E δs t _ _ (view σ) rfl,runD_E δs t (D listed) _ (view σ) rfl,same _ (fun j bo _ hj hq hne=>hpast j bo hj (Ne.symm hne) (.inl ⟨t,tEc t j bo hj hq,.inl ht⟩))]
    · have e1:lkB (σs i).bx b=(runD δs (List.range i) (view σ)).B b:=by rw [←hvi];rfl
      have e2:lkB τ.bx b=(runD δs (D listed) (view σ)).B b:=by rw [←hτ];rfl
      rw [e1,e2,runD_B δs b _ _ (view σ) rfl,runD_B δs b (D listed) _ (view σ) rfl,same _ (fun j bo _ hj hq hne=>by
        obtain ⟨q1,q2⟩:=tBc b j bo hj hq
        exact hpast j bo hj (Ne.symm hne) (.inr (.inr ⟨b,q1,q2,hb⟩)))]
    · have e1:lkP (σs i).pm p=(runD δs (List.range i) (view σ)).M p:=by rw [←hvi];rfl
      have e2:lkP τ.pm p=(runD δs (D listed) (view σ)).M p:=by rw [←hτ];rfl
      rw [e1,e2,runD_M δs p _ _ (view σ) rfl,runD_M δs p (D listed) _ (view σ) rfl,same _ (fun j bo _ hj hq hne=>by
        refine hpast j bo hj (Ne.symm hne) ?_
        rcases rdP_fit p hp with ⟨s,rfl,hs⟩|⟨b,off,rfl,hb1,hb2⟩
        · rcases tMc _ j bo hj hq with ⟨d,e,hd'⟩|⟨s',e,hs'⟩|⟨_,_,e,_⟩
          · simp [Pl.at] at e;subst e;exact .inl ⟨_,hd',.inl (src_uses hs)⟩
          · cases e;exact .inr (.inl ⟨s,hs',.inr hs⟩)
          · cases e
        · rcases tMc _ j bo hj hq with ⟨d,e,hd'⟩|⟨s',e,hs'⟩|⟨b',off',e,h1,h2⟩
          · simp [Pl.at] at e
          · cases e
          · cases e;exact .inr (.inr ⟨b,h1,h2,hb1⟩))]
    · have e1:lkP (σs i).pm (.b b off)=(runD δs (List.range i) (view σ)).M (.b b off):=by rw [←hvi];rfl
      have e2:lkP τ.pm (.b b off)=(runD δs (D listed) (view σ)).M (.b b off):=by rw [←hτ];rfl
      rw [e1,e2,runD_M δs (.b b off) _ _ (view σ) rfl,runD_M δs (.b b off) (D listed) _ (view σ) rfl,same _ (fun j bo _ hj hq hne=>by
        refine hpast j bo hj (Ne.symm hne) ?_
        rcases tMc _ j bo hj hq with ⟨d,e,hd'⟩|⟨s',e,hs'⟩|⟨b',off',e,h1,h2⟩
        · simp [Pl.at] at e
        · cases e
        · cases e;exact .inr (.inr ⟨b,h1,h2,hb⟩))]
    ·
      cases x with
      |one b=>trivial
      |fr l=>trivial
      |cel b off v=>
        obtain ⟨c1,c2⟩:=bid_cel hx
        have ei:l.getD i .no=ao:=by simp [List.getD_eq_getElem?_getD,hi]
        have early: ∀(j:Nat) (bo:AOp),l[j]?=some bo→tB b (δs j)=true→j<i→listed.getD j false=true:=by
          intro j bo hj hq hji
          obtain ⟨q1,q2⟩:=tBc b j bo hj hq
          refine hclos listed hcl i o ho hd j hji ?_
          cases hb:(A.getD i 0).testBit j with
          |true=>rfl
          |false=>
            exfalso
            have hp:=List.all_eq_true.1 (List.all_eq_true.1 hpair i (List.mem_range.2 hil)) j (List.mem_range.2 hji)
            have ej:l.getD j .no=bo:=by simp [List.getD_eq_getElem?_getD,hj]
            simp only [okPair,hb,Bool.false_or,ei,ej,Bool.and_eq_true,q2,c2] at hp
            have h5:=hp.2
            simp at h5
            obtain ⟨x1,y1⟩: ∃x,bid (σs j) bo=some x:=by
              cases h:bid (σs j) bo with
              |none=>rw [h] at q1;cases q1
              |some x=>exact ⟨x,rfl⟩
            obtain ⟨u,hu⟩: ∃u,us[i]?=some u:=⟨us[i],by simp [show i<us.length by omega]⟩
            have hju:j∈u:=by simpa [List.getD_eq_getElem?_getD,hu] using h5
            have:=(t3 i ao u _ hi hu hx).2 j bo hji hj (by simpa using hju) x1 y1
            rw [y1] at q1
            cases x1<;>simp only [djB,tchO,Bx.tch] at this q1
        have late: ∀(m:Nat) (bo:AOp),l[m]?=some bo→tB b (δs m)=true→i<m→listed.getD m false=true→loadS (σs (m+1)).bx (.ptr b off)=some v:=by
          intro m bo hm hq him hlm
          obtain ⟨q1,q2⟩:=tBc b m bo hm hq
          have hml:m<l.length:=(List.getElem?_eq_some_iff.1 hm).1
          have hms:m<ops.size:=by omega
          have hb:(A.getD m 0).testBit i=false:=by
            cases hb:(A.getD m 0).testBit i with
            |false=>rfl
            |true=>
              have:=hclos listed hcl m ops[m] (by simp [hms]) (hcl m ops[m] (by simp [hms]) hlm) i him hb
              rw [hf] at this;cases this
          have hp:=List.all_eq_true.1 (List.all_eq_true.1 hpair m (List.mem_range.2 hml)) i (List.mem_range.2 him)
          have ej:l.getD m .no=bo:=by simp [List.getD_eq_getElem?_getD,hm]
          simp only [okPair,hb,Bool.false_or,ei,ej,Bool.and_eq_true,q2,c2] at hp
          have h5:=hp.2
          simp at h5
          obtain ⟨u,hu⟩: ∃u,us[m]?=some u:=⟨us[m],by simp [show m<us.length by omega]⟩
          have hju:i∈u:=by simpa [List.getD_eq_getElem?_getD,hu] using h5
          exact (t4 m bo u hm hu).2 i ao him hi (by simpa using hju) _ hx
        have e2:lkB τ.bx b=(runD δs (D listed) (view σ)).B b:=by rw [←hτ];rfl
        rw [runD_B δs b (D listed) _ (view σ) rfl] at e2
        simp only [Bx.kept]
        by_cases hm: ∃m,m∈(D listed).filter (fun j=>tB b (δs j))∧i<m
        · obtain ⟨m,hmL,him⟩:=hm
          have hsort:((D listed).filter (fun j=>tB b (δs j))).Pairwise (· < ·):=(List.pairwise_lt_range (n:=l.length)).sublist (List.filter_sublist.trans List.filter_sublist)
          rcases List.eq_nil_or_concat ((D listed).filter (fun j=>tB b (δs j))) with hL|⟨L,m',hL⟩
          · rw [hL] at hmL;cases hmL
          · rw [hL] at hmL hsort e2
            have hle:i<m':=by
              rw [List.concat_eq_append] at hmL hsort
              rcases List.mem_append.1 hmL with h|h
              · have:=(List.pairwise_append.1 hsort).2.2 m h m' (by simp)
                omega
              · simp at h;omega
            have hm':m'∈(D listed).filter (fun j=>tB b (δs j)):=by rw [hL];simp
            obtain ⟨hm1,hm2⟩:=List.mem_filter.1 hm'
            obtain ⟨hm3,hm4⟩:=List.mem_filter.1 hm1
            have hml:=List.mem_range.1 hm3
            obtain ⟨bo,hbo⟩: ∃bo,l[m']?=some bo:=⟨l[m'],by simp [hml]⟩
            have k1:=late m' bo hbo hm2 hle hm4
            rw [List.concat_eq_append,runD_snoc] at e2
            have e3:lkB (σs (m'+1)).bx b=((δs m').app (view (σs m'))).B b:=by rw [←(t1 m' bo hbo).2];rfl
            simp only [tB] at hm2
            obtain ⟨cs,hcs⟩:=Option.isSome_iff_exists.1 hm2
            simp only [Dl.app,hcs] at e2 e3
            rw [loadS_ext (e2.trans e3.symm)]
            exact k1
        · have sm:=same (fun j=>tB b (δs j)) (fun j bo hjl hj hq hne=>by
            constructor
            · intro hl
              rcases Nat.lt_or_ge j i with h|h
              · exact h
              · exact absurd ⟨j,List.mem_filter.2 ⟨List.mem_filter.2 ⟨List.mem_range.2 hjl,hl⟩,hq⟩,by omega⟩ hm
            · intro hji
              exact early j bo hj hq hji)
          rw [sm] at e2
          have e1:lkB (σs i).bx b=(runD δs (List.range i) (view σ)).B b:=by rw [←hvi];rfl
          rw [runD_B δs b _ _ (view σ) rfl] at e1
          rw [loadS_ext (e2.trans e1.symm)]
          exact c1
    ·
      rw [hτ]
      have hfi:=hfit i ao hi
      have hD': ∀(q:Nat→Bool),(q i=true→ ∀(j:Nat) (bo:AOp),j<l.length→l[j]?=some bo→q j=true→j≠i→(listed.getD j false=true↔j<i))→
          (D (listed.setIfInBounds i true)).filter q=if q i=true then (D listed).filter q++[i] else (D listed).filter q:=by
        intro q hq
        have gs: ∀j,(listed.setIfInBounds i true).getD j false=if j=i then true else listed.getD j false:=by
          intro j
          by_cases h1:j=i
          · subst h1;simp [Array.getD_eq_getD_getElem?,show j<listed.size by omega]
          · rw [if_neg h1];simp [Array.getD_eq_getD_getElem?,Array.getElem?_setIfInBounds_ne (Ne.symm h1)]
        by_cases hqi:q i=true
        · rw [if_pos hqi,same q (hq hqi)]
          have:(List.range i).filter q++[i]=(List.range (i+1)).filter q:=by rw [List.range_succ,List.filter_append];simp [hqi]
          rw [this]
          simp only [D,List.filter_filter]
          refine filter_range (by omega) (fun j hj=>?_)
          obtain ⟨bo,hbo⟩: ∃bo,l[j]?=some bo:=⟨l[j],by simp [hj]⟩
          rw [gs j]
          cases hqj:q j with
          |false=>simp
          |true=>
            by_cases hji:j=i
            · subst hji;simp
            · have:=hq hqi j bo hj hbo hqj hji
              rw [if_neg hji]
              simp only [Bool.true_and,Bool.and_true]
              by_cases h1:j<i
              · rw [this.2 h1];simp;omega
              · have h2:listed.getD j false=false:=by
                  cases h3:listed.getD j false with
                  |false=>rfl
                  |true=>exact absurd (this.1 h3) h1
                rw [h2];simp;omega
        · rw [if_neg hqi]
          simp only [D,List.filter_filter]
          apply List.filter_congr
          intro j hj
          rw [gs j]
          by_cases hji:j=i
          · subst hji;simp [hqi]
          · rw [if_neg hji]
      apply LS.ext'
      · intro t
        rw [runD_E δs t (D (listed.setIfInBounds i true)) _ (view σ) rfl,hD' _ (fun hqi j bo _ hj hq hne=>hpast j bo hj (Ne.symm hne) (.inl ⟨t,tEc t j bo hj hq,.inr (tEc t i ao hi hqi)⟩))]
        split
        · rename_i hqi
          rw [runD_snoc]
          simp only [tE] at hqi
          simp only [Dl.app]
          split at hqi
          · rename_i d x he;simp only [beq_iff_eq] at hqi;simp [hqi]
          · cases hqi
        · rename_i hqi
          rw [←runD_E δs t (D listed) (view σ) (view σ) rfl]
          simp only [Dl.app]
          split
          · rename_i d x he;rw [if_neg];intro e;exact hqi (by simp [tE,he,e])
          · rfl
      · intro t
        rw [runD_B δs t (D (listed.setIfInBounds i true)) _ (view σ) rfl,hD' _ (fun hqi j bo _ hj hq hne=>by
          obtain ⟨q1,q2⟩:=tBc t j bo hj hq
          exact hpast j bo hj (Ne.symm hne) (.inr (.inr ⟨t,q1,q2,(tBc t i ao hi hqi).1⟩)))]
        split
        · rename_i hqi
          rw [runD_snoc]
          simp only [tB] at hqi
          obtain ⟨x,hx⟩:=Option.isSome_iff_exists.1 hqi
          simp only [Dl.app,hx]
        · rename_i hqi
          rw [←runD_B δs t (D listed) (view σ) (view σ) rfl]
          simp only [Dl.app]
          split
          · rename_i x he;exact absurd (by simp [tB,he]) hqi
          · rfl
      · intro t
        rw [runD_M δs t (D (listed.setIfInBounds i true)) _ (view σ) rfl,hD' _ (fun hqi j bo _ hj hq hne=>by
          refine hpast j bo hj (Ne.symm hne) ?_
          rcases tMc t i ao hi hqi with ⟨d,hat,hd1⟩|⟨s,rfl,hs1⟩|⟨b,off,rfl,hb1,hb2⟩
          · rcases tMc _ j bo hj hq with ⟨d',e,hd'⟩|⟨s',e,hs'⟩|⟨_,_,e,_⟩
            · have:d'=d:=by cases t<;>simp [Pl.at] at e hat<;>omega
              subst this;exact .inl ⟨d',hd',.inr hd1⟩
            · subst e;simp [Pl.at] at hat;subst hat;exact .inr (.inl ⟨_,hs',.inl hd1⟩)
            · subst e;simp [Pl.at] at hat
          · rcases tMc _ j bo hj hq with ⟨d',e,hd'⟩|⟨s',e,hs'⟩|⟨_,_,e,_⟩
            · simp [Pl.at] at e;subst e;exact .inl ⟨_,hd',.inl (src_uses hs1)⟩
            · cases e;exact .inr (.inl ⟨s,hs',.inr hs1⟩)
            · cases e
          · rcases tMc _ j bo hj hq with ⟨d',e,hd'⟩|⟨s',e,hs'⟩|⟨b',off',e,h1,h2⟩
            · simp [Pl.at] at e
            · cases e
            · cases e;exact .inr (.inr ⟨b,h1,h2,hb1⟩))]
        split
        · rename_i hqi
          rw [runD_snoc]
          simp only [tM] at hqi
          obtain ⟨x,hx⟩:=Option.isSome_iff_exists.1 hqi
          simp only [Dl.app,hx]
        · rename_i hqi
          rw [←runD_M δs t (D listed) (view σ) (view σ) rfl]
          simp only [Dl.app]
          split
          · rename_i x he;exact absurd (by simp [tM,he]) hqi
          · rfl
  have congr: ∀ {S gb τ τ' a w},view τ=view τ'→Rel F S gb τ a w→Rel F S gb τ' a w:=by
    intro S gb τ τ' a w hv h
    have he:lk τ'.e=lk τ.e:=by have:=congrArg LS.E hv;exact this.symm
    have hb:lkB τ'.bx=lkB τ.bx:=by have:=congrArg LS.B hv;exact this.symm
    have hp:lkP τ'.pm=lkP τ.pm:=by have:=congrArg LS.M hv;exact this.symm
    refine ⟨h.defers,h.size,h.bw,h.ext,h.le,?_,⟨h.hr.agree,?_,?_,?_,?_,?_,?_,?_⟩,?_,?_,?_,h.up,h.glo⟩
    · intro t;rw [he];exact h.env t
    · intro d cs;rw [hb];exact h.hr.box d cs
    · intro d cs;rw [hb];exact h.hr.its d cs
    · intro d d';rw [hb];exact h.hr.inj d d'
    · intro p k;rw [hp];exact h.hr.own p k
    · intro p q k l' b;rw [hp];exact h.hr.ownd p q k l' b
    · intro p k b d;rw [hp,hb];exact h.hr.ownb p k b d
    · intro d off k;rw [hp,hb];exact h.hr.pmb d off k
    · intro d g z;rw [hb];exact h.newb d g z
    · intro p k g;rw [hp];exact h.newo p k g
    · intro d;rw [hb];exact h.dom d
  have main: ∀fuel listed a w,listed.size=ops.size→fuel+(D listed).length=l.length→(∀j,l.length≤j→listed.getD j false=false)→cl listed→(∃S gb τ,Rel F S gb τ a w∧view τ=runD δs (D listed) (view σ))→wpAny P .any ops Q (fuel+(ops.size - l.length)) listed a w:=by
    have allDone: ∀listed a w,listed.size=ops.size→(∀j,j<l.length→listed.getD j false=true)→(∀j,l.length≤j→listed.getD j false=false)→(∃S gb τ,Rel F S gb τ a w∧view τ=runD δs (D listed) (view σ))→wpAny P .any ops Q (ops.size - l.length) listed a w:=by
      rintro listed a w hls hall hopen ⟨S,gb,τ,h,hτ⟩
      refine hfin listed a w hls hall hopen S gb (σs l.length) j' h' (congr ?_ h) t2
      rw [hτ,hview _ (Nat.le_refl _)]
      congr 1
      simp only [D]
      exact List.filter_eq_self.2 (fun j hj=>hall j (List.mem_range.1 hj))
    have notReady: ∀listed,listed.size=ops.size→Region.ready .any ops listed=[]→ ∀j,j<ops.size→listed.getD j false=true:=by
      intro listed hls hr j
      induction j using Nat.strongRecOn with
      |_ j ih=>
        intro hj
        cases hl:listed.getD j false with
        |true=>rfl
        |false=>
          exfalso
          have hjs:j<ops.size:=hj
          have hmem:j∈Region.ready .any ops listed:=by
            simp only [Region.ready,List.mem_filter,List.mem_range,Bool.and_eq_true,Bool.not_eq_true']
            refine ⟨hjs,?_,?_⟩
            · have:listed.getD j true=listed.getD j false:=by simp [Array.getD_eq_getD_getElem?,show j<listed.size by omega]
              rw [this,hl]
            · have ho:ops[j]?=some ops[j]:=by simp [hjs]
              simp only [ho,Option.map_some,Option.getD_some]
              rw [Array.all_eq_true_iff_forall_mem]
              intro e he
              simp only [Bool.or_eq_true,Bool.not_eq_true']
              cases hbi:Region.binds .any e with
              |false=>left;rfl
              |true=>
                right
                have hm:e.on∈dirs ops[j]:=by
                  simp only [dirs,List.mem_map,List.mem_filter]
                  exact ⟨e,⟨by simpa using he,hbi⟩,rfl⟩
                have:=(hdir j _ ho).1 e.on hm
                exact ih e.on this (by omega)
          rw [hr] at hmem;simp at hmem
    intro fuel
    induction fuel with
    |zero=>
      intro listed a w hls hcnt hopen hcl hrel'
      have hall: ∀j,j<l.length→listed.getD j false=true:=by
        intro j hj
        have hlen:(D listed).length=(List.range l.length).length:=by simpa using hcnt
        have:=List.length_filter_eq_length_iff.1 hlen j (List.mem_range.2 hj)
        exact this
      rw [Nat.zero_add]
      exact allDone listed a w hls hall hopen hrel'
    |succ fuel ih=>
      intro listed a w hls hcnt hopen hcl hrel'
      have hex: ∃j,j<l.length∧listed.getD j false=false:=by
        refine Classical.byContradiction fun hno=>?_
        have hall: ∀j,j<l.length→listed.getD j false=true:=by
          intro j hj
          cases hl:listed.getD j false with
          |true=>rfl
          |false=>exact absurd ⟨j,hj,hl⟩ hno
        have:(D listed).length=(List.range l.length).length:=List.length_filter_eq_length_iff.2 fun j hj=>hall j (List.mem_range.1 hj)
        simp only [List.length_range] at this
        omega
      rw [show fuel+1+(ops.size - l.length)=(fuel+(ops.size - l.length))+1 by omega]
      refine ⟨fun hr=>?_,fun i hi=>?_⟩
      · obtain ⟨j,hj,hjf⟩:=hex
        rw [notReady listed hls hr j (by omega)] at hjf
        cases hjf
      simp only [Region.ready,List.mem_filter,List.mem_range,Bool.and_eq_true,Bool.not_eq_true'] at hi
      obtain ⟨his,hif,hib⟩:=hi
      have hf:listed.getD i false=false:=by
        have:listed.getD i true=listed.getD i false:=by simp [Array.getD_eq_getD_getElem?,show i<listed.size by omega]
        rw [←this];exact hif
      have ho:ops[i]?=some ops[i]:=by simp [his]
      have hd: ∀m∈dirs ops[i],listed.getD m false=true:=by
        intro m hm
        simp only [ho,Option.map_some,Option.getD_some] at hib
        rw [Array.all_eq_true_iff_forall_mem] at hib
        simp only [dirs,List.mem_map,List.mem_filter] at hm
        obtain ⟨e,⟨he,hbi⟩,rfl⟩:=hm
        have:=hib e (by simpa using he)
        simpa [hbi] using this
      have hil:i<l.length:=by
        rcases Nat.lt_or_ge i l.length with h|h
        · exact h
        · exfalso
          obtain ⟨j,hj,hjf⟩:=hex
          rw [hclos listed hcl i _ ho hd j (by omega) (htail i h his j hj)] at hjf
          cases hjf
      obtain ⟨ao,hi2,hmt⟩:=hop i _ ho hil
      obtain ⟨S,gb,τ,h,hτ⟩:=hrel'
      obtain ⟨hagr,hnext⟩:=hstep listed i ao ops[i] τ hls hcl ho hi2 hf hd hτ
      have hwp:=wpD_agr hagr (t1 i ao hi2).1
      have hfit':=wpD_fit (List.all_eq_true.1 hokG ao (List.mem_of_getElem? hi2)) hwp
      have hw1:wp1 (Spec P F.GL) ao (fun τ'=>view τ'=(δs i).app (view τ)) τ:=wpD_wp1 (wpD_of_eq (K':=fun δ=>view (δ.ap τ)=(δs i).app (view τ)) (view_ap hfit'.f) hwp)
      have hcl':cl (listed.setIfInBounds i true):=by
        intro j oj hoj hlj m hm
        have keep: ∀m,listed.getD m false=true→(listed.setIfInBounds i true).getD m false=true:=by
          intro m hm
          by_cases h1:m=i
          · subst h1;simp [Array.getD_eq_getD_getElem?,hls,his]
          · simp only [Array.getD_eq_getD_getElem?,Array.getElem?_setIfInBounds_ne (Ne.symm h1)] at hm ⊢;exact hm
        by_cases hji:j=i
        · subst hji
          rw [ho] at hoj;cases hoj
          exact keep m (hd m hm)
        · have:listed.getD j false=true:=by
            simp only [Array.getD_eq_getD_getElem?,Array.getElem?_setIfInBounds_ne (Ne.symm hji)] at hlj ⊢;exact hlj
          exact keep m (hcl j oj hoj this m hm)
      have hcnt':fuel+(D (listed.setIfInBounds i true)).length=l.length:=by
        have:=count_set (show l.length≤listed.size by omega) hil hf
        simp only [D] at hcnt ⊢
        omega
      have:=opg_sound h hmt hw1 (K':=wpAny P .any ops Q (fuel+(ops.size - l.length)) (listed.setIfInBounds i true)) (Q:=Q) (fun S' gb' τ' a' w' h' hv'=>
        ih _ a' w' (by simpa using hls) hcnt' (fun j hj=>by have:=hopen j hj;simp only [Array.getD_eq_getD_getElem?,Array.getElem?_setIfInBounds_ne (show i≠j by omega)] at this ⊢;exact this) hcl' ⟨S',gb',τ',h',by rw [hv'];exact hnext⟩)
      unfold wpOp
      rw [ho]
      simp only []
      split
      · rename_i hc;rw [if_pos hc] at this;exact .inl this
      · rename_i hc;rw [if_neg hc] at this;exact this
  have rep: ∀j,(Array.replicate ops.size false).getD j false=false:=by
    intro j
    simp only [Array.getD_eq_getD_getElem?,Array.getElem?_replicate]
    split<;>rfl
  have none:D (Array.replicate ops.size false)=[]:=by
    simp only [D,List.filter_eq_nil_iff,List.mem_range]
    intro j hj
    rw [rep j];simp
  have:=main l.length (Array.replicate ops.size false) a {w with drawn:=w.drawn+1} (by simp) (by rw [none];simp) (fun j _=>rep j) (fun j o ho hl=>by rw [rep j] at hl;cases hl) ⟨S,gb,σ,hrel.drew,by rw [none];rfl⟩
  rw [show l.length+(ops.size - l.length)=ops.size by omega] at this
  exact this

def DrawsAny (P:Program) (GL:List (Nat×List Value)) (N:Nat) (dr:Array Oper→List (List Nat)→List AOp→Bool):Prop:=
  ∀(F:Fr),F.GL=GL→F.N=N→ ∀(ops:Array Oper) (us:List (List Nat)) (l:List AOp),mts P F.GL F.N ops ops.toList l=true→dr ops us l=true→ ∀(K:St→Prop) (Q:Exit→Act→World→Prop),(∀S gb σ a w,Rel F S gb σ a w→K σ→Q .normal a w)→
    ∀ {S:Mem} {gb:Gb} {σ:St} {a:Act} {w:World},Rel F S gb σ a w→wpLd (Spec P F.GL) us l 0 [] K σ→wpAny P .any ops Q ops.size (Array.replicate ops.size false) a {w with drawn:=w.drawn+1}
theorem draws_any:DrawsAny P GL N drD:=by
  intro F hGL hN ops us l hmts hdr K Q hQ S gb σ a w hrel hw
  simp only [drD,Bool.and_eq_true,beq_iff_eq] at hdr
  obtain ⟨⟨⟨⟨⟨hanc,hsz⟩,hus⟩,hokG⟩,hpair⟩,htl⟩:=hdr
  have hop: ∀(i:Nat) (o:Oper),ops[i]?=some o→ ∃ao,l[i]?=some ao∧mt P F.GL F.N ops o ao=true:=by
    have: ∀(ol:List Oper) (al:List AOp),mts P F.GL F.N ops ol al=true→ ∀(i:Nat) (o:Oper),ol[i]?=some o→ ∃ao,al[i]?=some ao∧mt P F.GL F.N ops o ao=true:=by
      intro ol
      induction ol with
      |nil=>intro al _ i o h;simp at h
      |cons x r ih=>
        intro al hm i o h
        cases al with
        |nil=>simp [mts] at hm
        |cons y s=>
          simp only [mts,Bool.and_eq_true] at hm
          cases i with
          |zero=>simp at h;subst h;exact ⟨y,by simp,hm.1⟩
          |succ i=>simp at h ⊢;exact ih s hm.2 i o h
    intro i o h
    exact this _ _ hmts i o (by simpa using h)
  generalize hA:ancs ops.toList []=A at hanc hpair htl
  have hm:preL l≤l.length:=by unfold preL;split<;>omega
  have hlt:(l.take (preL l)).length=preL l:=by simp;omega
  have hut:(us.take (preL l)).length=preL l:=by simp;omega
  have hgl: ∀j,j<preL l→(l.take (preL l)).getD j .no=l.getD j .no:=by
    intro j hj
    simp only [List.getD_eq_getElem?_getD,List.getElem?_take,if_pos hj]
  have hgu: ∀j,j<preL l→(us.take (preL l)).getD j []=us.getD j []:=by
    intro j hj
    simp only [List.getD_eq_getElem?_getD,List.getElem?_take,if_pos hj]
  refine draws_pre (us:=us.take (preL l)) (l:=l.take (preL l)) (ut:=us.drop (preL l)) (lt:=l.drop (preL l)) (A:=A) (K:=K) (by rw [hlt];omega) hanc (by rw [hlt,hut]) hokG ?_ ?_ ?_ ?_ hrel (by
    rw [List.take_append_drop,List.take_append_drop];exact hw)
  · rw [hlt]
    refine List.all_eq_true.2 fun j hj=>List.all_eq_true.2 fun i hi=>?_
    have hj':=List.mem_range.1 hj
    have hi':=List.mem_range.1 hi
    have:=List.all_eq_true.1 (List.all_eq_true.1 hpair j hj) i hi
    unfold okPair at this ⊢
    rw [hgl i (by omega),hgl j hj',hgu j hj']
    exact this
  · intro i o ho hi
    rw [hlt] at hi
    obtain ⟨ao,h1,h2⟩:=hop i o ho
    exact ⟨ao,by rw [List.getElem?_take,if_pos hi];exact h1,h2⟩
  · intro i hi his k hk
    rw [hlt] at hi hk
    have hi2:i=preL l:=by
      have:preL l=l.length∨preL l=l.length - 1:=by unfold preL;split<;>simp
      omega
    subst hi2
    simp only [Bool.or_eq_true,beq_iff_eq,List.all_eq_true,List.mem_range] at htl
    rcases htl with h|h
    · omega
    · exact h k hk
  · intro listed a w hls hall hopen S gb τ j' h' hr hwl
    rw [hlt] at hall hopen ⊢
    have hcase:preL l=l.length∨(preL l+1=l.length):=by
      have:preL l=l.length∨preL l=l.length - 1:=by unfold preL;split<;>simp
      rcases this with h|h
      · exact .inl h
      · rcases Nat.eq_zero_or_pos l.length with h0|h0
        · left;omega
        · right;omega
    rcases hcase with hc|hc
    · have e1:l.drop (preL l)=[]:=by rw [hc];simp
      have e2:us.drop (preL l)=[]:=by rw [hc,←hus];simp
      rw [e1,e2] at hwl
      rw [show ops.size - preL l=0 by omega]
      refine ⟨?_,hQ S gb τ a w hr hwl⟩
      simp only [Region.ready,List.filter_eq_nil_iff,List.mem_range,Bool.and_eq_true,Bool.not_eq_true',not_and]
      intro j hj hf
      have:listed.getD j true=listed.getD j false:=by simp [Array.getD_eq_getD_getElem?,show j<listed.size by omega]
      rw [this,hall j (by omega)] at hf
      cases hf
    · obtain ⟨o,ho⟩: ∃o,l[preL l]?=some o:=⟨l[preL l],by simp⟩
      obtain ⟨u,hu⟩: ∃u,us[preL l]?=some u:=⟨us[preL l],by simp⟩
      have e1:l.drop (preL l)=[o]:=by
        rw [List.drop_eq_getElem_cons (by omega),List.drop_eq_nil_of_le (by omega)]
        have:=(List.getElem?_eq_some_iff.1 ho).2
        rw [this]
      have e2:us.drop (preL l)=[u]:=by
        rw [List.drop_eq_getElem_cons (by omega),List.drop_eq_nil_of_le (by omega)]
        have:=(List.getElem?_eq_some_iff.1 hu).2
        rw [this]
      rw [e1,e2] at hwl
      obtain ⟨-,hw1⟩:=hwl
      have hpl:preL l<ops.size:=by omega
      have hops:ops[preL l]?=some ops[preL l]:=by simp [hpl]
      obtain ⟨ao,h1,hmt⟩:=hop _ _ hops
      rw [ho] at h1;cases h1
      rw [show ops.size - preL l=0+1 by omega]
      have hready: ∀lst:Array Bool,lst.size=ops.size→(∀j,j<l.length→lst.getD j false=true)→Region.ready .any ops lst=[]:=by
        intro lst hl hal
        simp only [Region.ready,List.filter_eq_nil_iff,List.mem_range,Bool.and_eq_true,Bool.not_eq_true',not_and]
        intro j hj hf
        have:lst.getD j true=lst.getD j false:=by simp [Array.getD_eq_getD_getElem?,show j<lst.size by omega]
        rw [this,hal j (by omega)] at hf
        cases hf
      have hdirs: ∀m∈dirs ops[preL l],m<preL l:=by
        intro m hm'
        have:=List.all_eq_true.1 hanc (preL l) (List.mem_range.2 (by simpa using hpl))
        simp only [Array.getElem?_toList,hops,Bool.and_eq_true,List.all_eq_true] at this
        simpa using this.1 m hm'
      have hrd:preL l∈Region.ready .any ops listed:=by
        simp only [Region.ready,List.mem_filter,List.mem_range,Bool.and_eq_true,Bool.not_eq_true']
        refine ⟨hpl,?_,?_⟩
        · have:listed.getD (preL l) true=listed.getD (preL l) false:=by simp [Array.getD_eq_getD_getElem?,show preL l<listed.size by omega]
          rw [this,hopen _ (Nat.le_refl _)]
        · simp only [hops,Option.map_some,Option.getD_some]
          rw [Array.all_eq_true_iff_forall_mem]
          intro e he
          simp only [Bool.or_eq_true,Bool.not_eq_true']
          cases hbi:Region.binds .any e with
          |false=>left;rfl
          |true=>
            right
            refine hall _ (hdirs e.on ?_)
            simp only [dirs,List.mem_map,List.mem_filter]
            exact ⟨e,⟨by simpa using he,hbi⟩,rfl⟩
      refine ⟨fun hr0=>(by rw [hr0] at hrd;cases hrd),fun i hi=>?_⟩
      simp only [Region.ready,List.mem_filter,List.mem_range,Bool.and_eq_true,Bool.not_eq_true'] at hi
      have hi2:i=preL l:=by
        rcases Nat.lt_or_ge i (preL l) with h|h
        · have hh:=hi.2.1
          have:listed.getD i true=listed.getD i false:=by simp [Array.getD_eq_getD_getElem?,show i<listed.size by omega]
          rw [this,hall i h] at hh
          cases hh
        · omega
      subst hi2
      have hlast:=opg_sound hr hmt hw1 (K':=wpAny P .any ops Q 0 (listed.setIfInBounds (preL l) true)) (Q:=Q) (fun S' gb' τ' a' w' hr' hk'=>by
        refine ⟨hready _ (by simpa using hls) fun j hj=>?_,hQ S' gb' τ' a' w' hr' (kpK_iff.1 hk').2⟩
        by_cases hjp:j=preL l
        · subst hjp;simp [Array.getD_eq_getD_getElem?,hls,hpl]
        · simp only [Array.getD_eq_getD_getElem?,Array.getElem?_setIfInBounds_ne (Ne.symm hjp)]
          have:=hall j (by omega)
          simpa only [Array.getD_eq_getD_getElem?] using this)
      unfold wpOp
      rw [hops]
      simp only []
      split
      · rename_i hc;rw [if_pos hc] at hlast;exact .inl hlast
      · rename_i hc;rw [if_neg hc] at hlast;exact hlast
theorem draws_ok (hmix:P.follows .mixedOrders=true):DrawsOk P GL N drD:=by
  intro F hGL hN id ops us l hmts hdr K Q hQ S gb σ a w hrel hw
  exact wp_region_any hmix (draws_any F hGL hN ops us l hmts hdr K Q hQ hrel hw)
end Go.Ai
namespace Go.Ai

attribute [simp] ev lk lkB stB lkP dl dlr dlS St.v St.put St.puto bin cellEq cellsEq loadS loadN AV.cs shut shutL shutN shutNL rowsOf rowsN rowsI buildA bnd bid offH offO addH djB inF AE.sq AE.bl resA oneA postA initE AV.ids idsL Pl.ids wkL wkB nilAt bytesA rowBytes byteCells rmB dlB purE rnP Pl.lt Id.isUp Id.isIt mapOf AV.mk AV.mkk MK.av
def onS (K:St→Prop) (σ:St):Option (Nat×AV)→Prop
 |some (d,v)=>K (σ.put d v)
 |none=>False
def onB (A B:St→Prop) (σ:St):AV→Prop
 | .bool t=>if t=true then A σ else B σ
 |_=>False
def onC (S:Nat→Nat→In→Out→Prop) (f d:Nat) (K:St→Prop) (σ:St):Option (List AV)→Prop
 |some l=> ∃r,pureS S f l r∧K (σ.put d r)
 |none=>False
def onU (K:St→Prop) (d:Nat) (σ:St):Prop:=K (σ.put d (.tup []))
def onG (b:Bool) (A U:St→Prop) (σ:St) (v:AV):Prop:=match gdv v b with
 |some true=>A σ
 |some false=>U σ
 |none=>False
attribute [simp] wp1.eq_1 wp1.eq_2 wp1.eq_3 wp1.eq_4 wp1.eq_5 wp1.eq_6 wp1.eq_7 wp1.eq_8 wp1.eq_9 wp1.eq_10 wp1.eq_11 wp1.eq_12 wp1.eq_13 wp1.eq_14 wp1.eq_15 wp1.eq_16 wp1.eq_17 wp1.eq_18 wp1.eq_19 wp1.eq_20 wp1.eq_21 wp1.eq_22 wp1.eq_23 wp1.eq_24 wp1.eq_25 wp1.eq_26 wp1.eq_27
def onA (S:Nat→Nat→In→Out→Prop) (f d:Nat) (s:Option X) (ps:List X) (K:St→Prop) (σ:St):Prop:= ∃k out,caS S f σ s ps k out∧K (caSt d s (.sl out) k σ)
@[simp] theorem onU_eq {K:St→Prop} {d:Nat} {σ:St}:onU K d σ=K (σ.put d (.tup [])):=rfl
section
variable {S:Nat→Nat→In→Out→Prop} {Q:AE→St→Prop} {σ:St} {B:St→Prop}
@[simp] theorem wpA_sk:wpA S .sk Q σ=Q .n σ:=rfl
@[simp] theorem wpA_rg {l}:wpA S (.rg l) Q σ=wpL S l (Q .n) σ:=rfl
@[simp] theorem wpA_rd {us l}:wpA S (.rd us l) Q σ=wpLd S us l 0 [] (Q .n) σ:=rfl
@[simp] theorem wpA_sq {a b}:wpA S (.sq a b) Q σ=wpA S a (AE.sq (wpA S b Q) Q) σ:=rfl
@[simp] theorem wpA_bl {i a}:wpA S (.bl i a) Q σ=wpA S a (AE.bl i Q) σ:=rfl
@[simp] theorem wpA_ex {i}:wpA S (.ex i) Q σ=Q (.x i) σ:=rfl
@[simp] theorem wpA_rt:wpA S .rt Q σ=Q .r σ:=rfl
@[simp] theorem wpA_sc {a}:wpA S (.sc a) Q σ=wpA S a Q σ:=rfl
@[simp] theorem wpA_lb:wpA S .lb Q σ=Q .n σ:=rfl
@[simp] theorem wpA_no:wpA S .no Q σ=False:=rfl
def onZ (K:St→Prop) (s:Nat) (σ:St):Prop:= ∃b n sz rows tl,FrzOk2 σ s b n sz rows tl∧sz<4294967296∧K (frzStP σ s b sz rows)
theorem onZ_mk {K:St→Prop} {s:Nat} {σ:St} (b:Id) (n sz:Nat) (rows:List (List AV)) (tl:List AV) (h:FrzOk2 σ s b n sz rows tl) (hz:sz<4294967296) (hk:K (frzStP σ s b sz rows)):onZ K s σ:=⟨b,n,sz,rows,tl,h,hz,hk⟩
@[simp] theorem wpA_fz {s l}:wpA S (.fz s l) Q σ=onZ (wpL S l (Q .n)) s σ:=rfl
@[simp] theorem wpA_cd {x a b}:wpA S (.cd x a b) Q σ=onB (wpA S a Q) (wpA S b Q) σ (σ.v x):=rfl
variable {K A:St→Prop}
@[simp] theorem onS_some {d v}:onS K σ (some (d,v))=K (σ.put d v):=rfl
@[simp] theorem onS_none:onS K σ none=False:=rfl
@[simp] theorem onB_true:onB A B σ (.bool true)=A σ:=rfl
@[simp] theorem onB_false:onB A B σ (.bool false)=B σ:=rfl
theorem onB_mk {t:Bool} (h1:t=true→A σ) (h2:t=false→B σ):onB A B σ (.bool t):=by cases t;exact h2 rfl;exact h1 rfl
@[simp] theorem wpL_nil:wpL S [] K σ=K σ:=rfl
@[simp] theorem wpL_cons {o r}:wpL S (o::r) K σ=wp1 S o (wpL S r K) σ:=rfl
@[simp] theorem wpLd_nil {j h}:wpLd S [] [] j h K σ=K σ:=rfl
@[simp] theorem wpLd_cons {u us o r j h}:wpLd S (u::us) (o::r) j h K σ=(offO h u (bid σ o)∧wp1 S o (kpK h u (wpLd S us r (j+1) (addH h j (bid σ o)) K)) σ):=rfl
@[simp] theorem kpK_nil {u}:kpK [] u K=K:=rfl
@[simp] theorem kpK_one {i b h u}:kpK ((i,.one b)::h) u K=kpK h u K:=rfl
@[simp] theorem kpK_fr {i l h u}:kpK ((i,.fr l)::h) u K=kpK h u K:=rfl
@[simp] theorem kpK_cel {i b off v h u}:kpK ((i,.cel b off v)::h) u K σ=((i∈u→loadS σ.bx (.ptr b off)=some v)∧kpK h u K σ):=rfl
@[simp] theorem wp1_cl {d f xs}:wp1 S (.cl d f xs) K σ=onC S f d K σ (shutL (xs.map σ.v)):=rfl
@[simp] theorem wp1_ca {d f s ps}:wp1 S (.ca d f s ps) K σ=onA S f d s ps K σ:=rfl
attribute [simp] wp1.eq_32
def onR (S:Nat→Nat→In→Out→Prop) (f d:Nat) (K:St→Prop) (σ:St):List AV→Prop
 | .ptr b o::r=>match lkB σ.bx b with
  |some cs=> ∃v,(∀e,b.isNw e=false→S f e ⟨.ptr b o::r,[(b,cs)],[]⟩ ⟨v,[(b,cs)],[]⟩)∧K ⟨(d,v)::σ.e,σ.bx,dlS (dlB σ.pm b) d⟩
  |none=>False
 |_=>False
@[simp] theorem wp1_cr {d f xs}:wp1 S (.cr d f xs) K σ=onR S f d K σ (xs.map σ.v):=by rw [wp1];rfl
theorem onR_mk {b:Id} {o:Nat} {r cs:List AV} {f d:Nat} (v:AV) (hb:lkB σ.bx b=some cs) (h: ∀e,b.isNw e=false→S f e ⟨.ptr b o::r,[(b,cs)],[]⟩ ⟨v,[(b,cs)],[]⟩) (hk:K ⟨(d,v)::σ.e,σ.bx,dlS (dlB σ.pm b) d⟩):onR S f d K σ (.ptr b o::r):=by
 simp only [onR,hb];exact ⟨v,h,hk⟩
def onQ (S:Nat→Nat→In→Out→Prop) (f d:Nat) (xs:List X) (fr:List Nat) (K:St→Prop) (σ:St):Prop:= ∃I O,S f d I O∧CallOk d σ xs I O∧(CqOk fr I O∧fr.contains d=false)∧K (callSt d σ xs I O)
@[simp] theorem wp1_cq {d f xs fr}:wp1 S (.cq d f xs fr) K σ=onQ S f d xs fr K σ:=by rw [wp1];rfl
@[simp] theorem wp1_gd {s b d o}:wp1 S (.gd s b d o) K σ=onG b (wp1 S o K) (onU K d) σ (lk σ.e s):=by
 rw [wp1];rfl
@[simp] theorem onG_bool {b t:Bool} {A U:St→Prop}:onG b A U σ (.bool t)=onB (if true=b then A else U) (if false=b then A else U) σ (.bool t):=by
 cases t<;>cases b<;>rfl
@[simp] theorem onG_tup {b:Bool} {A U:St→Prop}:onG b A U σ (.tup [])=U σ:=rfl
@[simp] theorem wp1_mv {d x}:wp1 S (.mv d x) K σ=onS K σ (ev σ (.mv d x)):=rfl
@[simp] theorem wp1_pk {d c a b}:wp1 S (.pk d c a b) K σ=onS K σ (ev σ (.pk d c a b)):=rfl
@[simp] theorem wp1_bi {d op x y}:wp1 S (.bi d op x y) K σ=onS K σ (ev σ (.bi d op x y)):=rfl
@[simp] theorem wp1_bb {d n x y}:wp1 S (.bb d n x y) K σ=onS K σ (ev σ (.bb d n x y)):=rfl
@[simp] theorem wp1_ea {d n ks x y}:wp1 S (.ea d n ks x y) K σ=onS K σ (ev σ (.ea d n ks x y)):=rfl
@[simp] theorem wp1_bq {d x}:wp1 S (.bq d x) K σ=onS K σ (ev σ (.bq d x)):=rfl
@[simp] theorem wp1_pn {d n x}:wp1 S (.pn d n x) K σ=onS K σ (ev σ (.pn d n x)):=rfl
@[simp] theorem wp1_un {d op x}:wp1 S (.un d op x) K σ=onS K σ (ev σ (.un d op x)):=rfl
@[simp] theorem wp1_cv {d k x}:wp1 S (.cv d k x) K σ=onS K σ (ev σ (.cv d k x)):=rfl
@[simp] theorem wp1_lns {d x}:wp1 S (.lns d x) K σ=onS K σ (ev σ (.lns d x)):=rfl
@[simp] theorem wp1_ln {d x}:wp1 S (.ln d x) K σ=onS K σ (ev σ (.ln d x)):=rfl
@[simp] theorem wp1_fa {d x o}:wp1 S (.fa d x o) K σ=onS K σ (ev σ (.fa d x o)):=rfl
@[simp] theorem wp1_ia {d s x i}:wp1 S (.ia d s x i) K σ=onS K σ (ev σ (.ia d s x i)):=rfl
@[simp] theorem wp1_iaa {d s n x i}:wp1 S (.iaa d s n x i) K σ=onS K σ (ev σ (.iaa d s n x i)):=rfl
@[simp] theorem wp1_lds {d x}:wp1 S (.lds d x) K σ=onS K σ (ev σ (.lds d x)):=rfl
@[simp] theorem wp1_ldf {d x}:wp1 S (.ldf d x) K σ=onS K σ (ev σ (.ldf d x)):=rfl
@[simp] theorem wp1_lda {d n x}:wp1 S (.lda d n x) K σ=onS K σ (ev σ (.lda d n x)):=rfl
@[simp] theorem wp1_bd {d z ps}:wp1 S (.bd d z ps) K σ=onS K σ (ev σ (.bd d z ps)):=rfl
@[simp] theorem wp1_fls {d o x}:wp1 S (.fls d o x) K σ=onS K σ (ev σ (.fls d o x)):=rfl
@[simp] theorem wp1_fla {d o n x}:wp1 S (.fla d o n x) K σ=onS K σ (ev σ (.fla d o n x)):=rfl
@[simp] theorem wp1_ixs {d x i}:wp1 S (.ixs d x i) K σ=onS K σ (ev σ (.ixs d x i)):=rfl
@[simp] theorem wp1_exq {d x i}:wp1 S (.exq d x i) K σ=onS K σ (ev σ (.exq d x i)):=rfl
@[simp] theorem wp1_mf {d f xs}:wp1 S (.mf d f xs) K σ=onS K σ (ev σ (.mf d f xs)):=rfl
@[simp] theorem wp1_b2s {d x}:wp1 S (.b2s d x) K σ=onS K σ (ev σ (.b2s d x)):=rfl
@[simp] theorem wp1_i2s {d x}:wp1 S (.i2s d x) K σ=onS K σ (ev σ (.i2s d x)):=rfl
@[simp] theorem wp1_inl {d n x}:wp1 S (.inl d n x) K σ=onS K σ (ev σ (.inl d n x)):=rfl
@[simp] theorem wp1_ixa {d s n g x i}:wp1 S (.ixa d s n g x i) K σ=onS K σ (ev σ (.ixa d s n g x i)):=rfl
@[simp] theorem wp1_mpl {d x}:wp1 S (.mpl d x) K σ=onS K σ (ev σ (.mpl d x)):=rfl
@[simp] theorem wp1_mlk {d q z m k ok}:wp1 S (.mlk d q z m k ok) K σ=onS K σ (ev σ (.mlk d q z m k ok)):=rfl
@[simp] theorem wp1_mn {d x y}:wp1 S (.mn d x y) K σ=onS K σ (ev σ (.mn d x y)):=rfl
@[simp] theorem wp1_mx {d x y}:wp1 S (.mx d x y) K σ=onS K σ (ev σ (.mx d x y)):=rfl
@[simp] theorem wp1_mi {d T x}:wp1 S (.mi d T x) K σ=onS K σ (ev σ (.mi d T x)):=rfl
@[simp] theorem wp1_ta {d T z x ok}:wp1 S (.ta d T z x ok) K σ=onS K σ (ev σ (.ta d T z x ok)):=rfl
@[simp] theorem wp1_nc {d x}:wp1 S (.nc d x) K σ=onS K σ (ev σ (.nc d x)):=rfl
end
@[simp] theorem wk_refl (v:AV):wk v v:= .inl rfl
@[simp] theorem wk_nil:wk .nils (.sl []):= .inr ⟨rfl,rfl⟩
@[simp] theorem fillA_nil (z:List AV) (off:Nat) (vs:List AV):fillA z off vs=z.take off++vs++z.drop (off+vs.length):=rfl

@[simp] theorem wk_sl {a u}:wk (.sl a) u=(AV.sl a=u):=by simp [wk]
@[simp] theorem wk_int {k a u}:wk (.int k a) u=(AV.int k a=u):=by simp [wk]
@[simp] theorem wk_bool {a u}:wk (.bool a) u=(AV.bool a=u):=by simp [wk]
@[simp] theorem wk_str {a u}:wk (.str a) u=(AV.str a=u):=by simp [wk]
@[simp] theorem wk_agg {a u}:wk (.agg a) u=(AV.agg a=u):=by simp [wk]
@[simp] theorem wk_pin {a u}:wk (.pin a) u=(AV.pin a=u):=by simp [wk]
@[simp] theorem wk_ptr {a b u}:wk (.ptr a b) u=(AV.ptr a b=u):=by simp [wk]
@[simp] theorem wk_nilsl {a}:wk .nils (.sl a)=(a=[]):=by simp [wk]
theorem weak_mk {σ τ:St} (e: ∀p∈τ.e,wk (lk σ.e p.1) p.2) (b: ∀p∈τ.bx,wkB σ.bx p.1 p.2) (p: ∀p∈τ.pm,lkP σ.pm p.1=some p.2∨nilAt σ p.1)
  (ei: ∀p∈τ.e,∀d∈p.2.ids,(lkB τ.bx d).isSome∨d.isUp=true) (bi: ∀p∈τ.bx,∀d∈idsL p.2,(lkB τ.bx d).isSome∨d.isUp=true) (pi: ∀p∈τ.pm,∀d∈p.1.ids,(lkB τ.bx d).isSome):Weak σ τ:=⟨e,b,p,ei,bi,pi⟩

def lpQ {α:Type} (st:α→St) (I:α→Prop) (μ:α→Nat) (x:α) (σ:St):Prop:= ∃y,I y∧μ y<μ x∧WeakR σ (st y)
theorem lpQ_mk {α:Type} {st:α→St} {I:α→Prop} {μ:α→Nat} {x:α} {σ:St} (y:α) (h1:I y) (h2:μ y<μ x) (h3:Weak σ (st y)):lpQ st I μ x σ:=⟨y,h1,h2,.inl h3⟩
theorem wrap_i64 {n:Int} (h1: -9223372036854775808≤n) (h2:n<9223372036854775808):IntKind.i64.wrap n=n:=by
 have e1:(2:Int)^64=18446744073709551616:=by decide
 have e2:(2:Int)^(64 - 1)=9223372036854775808:=by decide
 have:IntKind.i64.wrap n=if (true&&decide (n%2^64≥2^(64 - 1)))=true then n%2^64 - 2^64 else n%2^64:=rfl
 rw [this]
 simp only [e1,e2,Bool.true_and,decide_eq_true_eq]
 split<;>omega
theorem wrap_u64 {n:Int} (h1:0≤n) (h2:n<18446744073709551616):IntKind.u64.wrap n=n:=by
 have e1:(2:Int)^64=18446744073709551616:=by decide
 have e2:(2:Int)^(64 - 1)=9223372036854775808:=by decide
 have:IntKind.u64.wrap n=if (false&&decide (n%2^64≥2^(64 - 1)))=true then n%2^64 - 2^64 else n%2^64:=rfl
 rw [this]
 simp only [e1,e2,Bool.false_and]
 simp;omega
theorem wrap_u32 {n:Int} (h1:0≤n) (h2:n<4294967296):IntKind.u32.wrap n=n:=by
 have e1:(2:Int)^32=4294967296:=by decide
 have:IntKind.u32.wrap n=if (false&&decide (n%2^32≥2^(32 - 1)))=true then n%2^32 - 2^32 else n%2^32:=rfl
 rw [this]
 simp only [e1,Bool.false_and]
 simp;omega
theorem wrap_u32m {n:Int}:IntKind.u32.wrap n=n%4294967296:=by
 have e1:(2:Int)^32=4294967296:=by decide
 have:IntKind.u32.wrap n=if (false&&decide (n%2^32≥2^(32 - 1)))=true then n%2^32 - 2^32 else n%2^32:=rfl
 rw [this]
 simp only [e1,Bool.false_and]
 simp
theorem wrap_u8 {n:Int} (h1:0≤n) (h2:n<256):IntKind.u8.wrap n=n:=by
 have e1:(2:Int)^8=256:=by decide
 have:IntKind.u8.wrap n=if (false&&decide (n%2^8≥2^(8 - 1)))=true then n%2^8 - 2^8 else n%2^8:=rfl
 rw [this]
 simp only [e1,Bool.false_and]
 simp;omega
theorem wrap_u64m {n:Int}:IntKind.u64.wrap n=n%18446744073709551616:=by
 have e1:(2:Int)^64=18446744073709551616:=by decide
 have:IntKind.u64.wrap n=if (false&&decide (n%2^64≥2^(64 - 1)))=true then n%2^64 - 2^64 else n%2^64:=rfl
 rw [this]
 simp only [e1,Bool.false_and]
 simp
theorem wp1_mono {S:Nat→Nat→In→Out→Prop} {K K':St→Prop} (hk: ∀σ,K σ→K' σ): ∀ {o:AOp} {σ:St},wp1 S o K σ→wp1 S o K' σ:=by
 intro o
 induction o with
 |gd s b d o ih=>
  intro σ h
  simp only [wp1] at h ⊢
  split at h
  ·exact ih h
  ·exact hk _ h
  ·cases h
 |ce d f xs=>intro σ h;obtain ⟨I,O,h1,h2,h3⟩:=h;exact ⟨I,O,h1,h2,hk _ h3⟩
 |cq d f xs fr=>intro σ h;obtain ⟨I,O,h1,h2,h3,h4⟩:=h;exact ⟨I,O,h1,h2,h3,hk _ h4⟩
 |cd d x xs=>
  intro σ h
  simp only [wp1] at h ⊢
  split at h
  ·obtain ⟨I,O,h1,h2,h3⟩:=h;exact ⟨I,O,h1,h2,hk _ h3⟩
  ·cases h
 |nx d x=>
  intro σ h
  simp only [wp1] at h ⊢
  split at h
  ·split at h
   ·split at h
    ·rename_i e;rw [if_pos e];exact hk _ h
    ·rename_i e;rw [if_neg e];exact hk _ h
   ·cases h
  ·cases h
 |_=>
  intro σ h
  simp only [wp1] at h ⊢
  repeat' (first|(split at h)|contradiction)
  all_goals first
   |exact hk _ h
   |(obtain ⟨g1,g2⟩:=h;exact ⟨g1,hk _ g2⟩)
   |(obtain ⟨g1,g2,g3⟩:=h;exact ⟨g1,g2,hk _ g3⟩)
   |(obtain ⟨g1,g2,g3,g4⟩:=h;exact ⟨g1,g2,g3,hk _ g4⟩)
   |(obtain ⟨g1,g2,g3,g4,g5⟩:=h;exact ⟨g1,g2,g3,g4,hk _ g5⟩)
   |(obtain ⟨g1,g2,g3,g4,g5,g6⟩:=h;exact ⟨g1,g2,g3,g4,g5,hk _ g6⟩)
   |(obtain ⟨g1,g2,g3,g4,g5,g6,g7,g8⟩:=h;exact ⟨g1,g2,g3,g4,g5,g6,g7,hk _ g8⟩)
   |(obtain ⟨g1,g2,g3,g4,g5,g6,g7,g8,g9,g10,g11⟩:=h;exact ⟨g1,g2,g3,g4,g5,g6,g7,g8,g9,g10,hk _ g11⟩)
   |(obtain ⟨g1,g2,g3,g4,g5,g6,g7,g8,g9,g10,g11,g12,g13,g14⟩:=h;exact ⟨g1,g2,g3,g4,g5,g6,g7,g8,g9,g10,g11,g12,g13,hk _ g14⟩)
theorem wp_lp {S:Nat→Nat→In→Out→Prop} {α:Type} {c:AC} {Q:AE→St→Prop} (st:α→St) (I:α→Prop) (μ:α→Nat)
  (step: ∀x,I x→wpA S c (AE.sq (lpQ st I μ x) Q) (st x)) {σ:St} (x:α) (hx:I x) (hw:Weak σ (st x)):wpA S (.lp c) Q σ:=by
 have mono: ∀ {c:AC} {Q Q':AE→St→Prop} {σ:St},(∀e σ,Q e σ→Q' e σ)→wpA S c Q σ→wpA S c Q' σ:=by
  intro c
  have m1: ∀ {o:AOp} {K K':St→Prop} {σ:St},(∀σ,K σ→K' σ)→wp1 S o K σ→wp1 S o K' σ:=fun hk h=>wp1_mono hk h
  have mL: ∀ {l:List AOp} {K K':St→Prop} {σ:St},(∀σ,K σ→K' σ)→wpL S l K σ→wpL S l K' σ:=by
   intro l
   induction l with
   |nil=>intro K K' σ hk h;exact hk _ h
   |cons o r ih=>intro K K' σ hk h;exact m1 (fun σ h=>ih hk h) h
  have mD: ∀ {us:List (List Nat)} {l:List AOp} {j:Nat} {h:List (Nat×Bx)} {K K':St→Prop} {σ:St},(∀σ,K σ→K' σ)→wpLd S us l j h K σ→wpLd S us l j h K' σ:=by
   intro us
   induction us with
   |nil=>intro l j h K K' σ hk hw;cases l with
    |nil=>exact hk _ hw
    |cons=>exact hw.elim
   |cons u us ih=>intro l j h K K' σ hk hw;cases l with
    |nil=>exact hw.elim
    |cons o r=>exact ⟨hw.1,m1 (fun σ h=>kpK_iff.2 ⟨(kpK_iff.1 h).1,ih hk (kpK_iff.1 h).2⟩) hw.2⟩
  have sqm: ∀ {B B':St→Prop} {Q Q':AE→St→Prop},(∀σ,B σ→B' σ)→(∀e σ,Q e σ→Q' e σ)→ ∀e σ,AE.sq B Q e σ→AE.sq B' Q' e σ:=by
   intro B B' Q Q' hb hq e σ h
   cases e
   ·exact hb _ h
   ·exact hq _ _ h
   ·exact hq _ _ h
  induction c with
  |sk=>intro Q Q' σ hq h;exact hq _ _ h
  |rg l=>intro Q Q' σ hq h;exact mL (fun σ h=>hq _ _ h) h
  |rd us l=>intro Q Q' σ hq h;exact mD (fun σ h=>hq _ _ h) h
  |sq a b iha ihb=>intro Q Q' σ hq h;exact iha (sqm (fun σ h=>ihb hq h) hq) h
  |cd x a b iha ihb=>
   intro Q Q' σ hq h
   unfold wpA at h ⊢
   split at h
   ·rename_i t ht
    split at h
    ·rename_i e;rw [if_pos e];exact iha hq h
    ·rename_i e;rw [if_neg e];exact ihb hq h
   ·cases h
  |bl i a ih=>
   intro Q Q' σ hq h
   refine ih (fun e σ h=>?_) h
   cases e
   ·exact hq _ _ h
   ·rename_i j
    unfold AE.bl at h ⊢
    by_cases e:j=i
    ·simp only [if_pos e] at h ⊢;exact hq _ _ h
    ·simp only [if_neg e] at h ⊢;exact hq _ _ h
   ·exact hq _ _ h
  |lp a ih=>
   intro Q Q' σ hq h
   obtain ⟨n,hn⟩:=h
   refine ⟨n,?_⟩
   induction n generalizing σ with
   |zero=>exact hn
   |succ n ihn=>
    obtain ⟨τ,hτ,hb⟩:=hn
    exact ⟨τ,hτ,ih (sqm (fun σ h=>ihn h) hq) hb⟩
  |ex i=>intro Q Q' σ hq h;exact hq _ _ h
  |rt=>intro Q Q' σ hq h;exact hq _ _ h
  |sc a ih=>intro Q Q' σ hq h;exact ih hq h
  |lb=>intro Q Q' σ hq h;exact hq _ _ h
  |no=>intro Q Q' σ hq h;exact h
  |fz s l=>intro Q Q' σ hq h;obtain ⟨b,n,sz,rows,tl,q1,q2,q3⟩:=h;exact ⟨b,n,sz,rows,tl,q1,q2,mL (fun σ h=>hq _ _ h) q3⟩
 have key: ∀n x,μ x<n→I x→ ∀σ,WeakR σ (st x)→itA (wpA S c) Q n σ:=by
  intro n
  induction n with
  |zero=>intro x h;omega
  |succ n ih=>
   intro x hn hx σ hw
   refine ⟨st x,hw,mono ?_ (step x hx)⟩
   intro e σ' h
   cases e
   ·obtain ⟨y,hy,hlt,hwy⟩:=h
    exact ih y (by omega) hy σ' hwy
   ·exact h
   ·exact h
 exact ⟨μ x+1,key _ x (by omega) hx σ (.inl hw)⟩

theorem wp_lpk {S:Nat→Nat→In→Out→Prop} {α:Type} {c:AC} {Q:AE→St→Prop} (st:α→St) (I:α→Prop) (μ:α→Nat)
  (step: ∀(K:St→Prop) (x:α),(∀(y:α) (σ':St),I y→μ y<μ x→Weak σ' (st y)→K σ')→I x→wpA S c (AE.sq K Q) (st x)) {σ:St} (x:α) (hx:I x) (hw:Weak σ (st x)):wpA S (.lp c) Q σ:=
 wp_lp st I μ (fun x hx=>step (lpQ st I μ x) x (fun y σ' h1 h2 h3=>lpQ_mk y h1 h2 h3) hx) x hx hw
def AC.tl:Nat→AC→AC
 |0,c=>c
 |n+1,.sq _ b=>b.tl n
 |_,c=>c
def AC.cutAt:Nat→AC→AC→AC
 |0,T,_=>T
 |n+1,T,.sq a b=> .sq a (AC.cutAt n T b)
 |_,_,c=>c

@[irreducible] def SpH (P:Program) (GL:List (Nat×List Value)) (f d:Nat) (I:In) (O:Out):Prop:=Spec P GL f d I O
theorem sph_eq (P:Program) (GL:List (Nat×List Value)):SpH P GL=Spec P GL:=by funext f d I O;unfold SpH;rfl
@[irreducible] def Sp (P:Program) (GL:List (Nat×List Value)) (f:Nat) (l:List AV) (r:AV):Prop:=pureS (SpH P GL) f l r
theorem sp_eq (P:Program) (GL:List (Nat×List Value)) {f:Nat} {l:List AV} {r:AV}:Sp P GL f l r↔pureS (Spec P GL) f l r:=by unfold Sp;rw [sph_eq]
theorem onC_mk {P:Program} {GL:List (Nat×List Value)} {K:St→Prop} {σ:St} {f d:Nat} {l:List AV} (r:AV) (h:Sp P GL f l r) (hk:K (σ.put d r)):onC (SpH P GL) f d K σ (some l):=by
 unfold Sp at h;exact ⟨r,h,hk⟩
theorem fun_sp {P:Program} {GL:List (Nat×List Value)} {dr:Array Oper→List (List Nat)→List AOp→Bool} {f:Nat} {fn:Func} {af:AF} (hf:P.funcs[f]?=some fn) (hm:mF P GL dr fn af=true) (hd:DrawsOk P GL af.N dr) {l:List AV} {r:AV} (hl:l.length=af.np) (hi:idsL l=[])
  (hw:wpA (SpH P GL) af.c (postA af.rs r) ⟨initE 0 l,[],[]⟩):Sp P GL f l r:=by
 rw [sph_eq] at hw;exact (sp_eq P GL).2 (fun_sound hf hm hd hl hi hw)
end Go.Ai
namespace Go.Ai
open Go.RowKit
variable {P:Program} {F:Fr} {S:Mem} {gb:Gb} {σ:St} {a:Act} {w:World}

def postF (rs:List AR) (r:AV) (e:AE) (σ:St):Prop:=postA rs r e σ∨(∃s b n sz rows,FrzOk σ s b n sz rows∧postA rs r e (frzSt σ s b rows))∨ ∃s b n sz rows tl,FrzOk2 σ s b n sz rows tl∧postA rs r e (frzSt σ s b rows)

end Go.Ai
namespace Go.Ai
open Go.RowKit
variable {P:Program} {F:Fr} {S:Mem} {gb:Gb} {σ:St} {a:Act} {w:World}

mutual
def nz:AV→AV
 | .nils=> .sl []
 | .fn g cs=> .fn g (nzL cs)
 | .agg cs=> .agg (nzL cs)
 | .tup cs=> .tup (nzL cs)
 |v=>v
def nzL:List AV→List AV
 |[]=>[]
 |v::r=>nz v::nzL r
end
def inSt (I:In):St:=⟨initE 0 (mpL Id.up I.vs),mpB Id.up I.bx,mpP Id.up I.pm⟩

mutual
theorem mp_noids {f:Id→Id}: ∀ {v:AV},v.ids=[]→v.mp f=v
 | .ptr _ _,h=>by simp [AV.ids] at h
 | .ms _ _ _ _,h=>by simp [AV.ids] at h
 | .itp _,h=>by simp [AV.ids] at h
 | .mref _,h=>by simp [AV.ids] at h
 | .nilT _ _ _,h=>by simp [AV.ids] at h
 | .mpv _,_=>rfl
 | .fn g cs,h=>by simp only [AV.mp];rw [mpL_noids (by simpa [AV.ids] using h)]
 | .agg cs,h=>by simp only [AV.mp];rw [mpL_noids (by simpa [AV.ids] using h)]
 | .tup cs,h=>by simp only [AV.mp];rw [mpL_noids (by simpa [AV.ids] using h)]
 | .undef,_=>rfl
 | .int _ _,_=>rfl
 | .bool _,_=>rfl
 | .str _,_=>rfl
 | .nils,_=>rfl
 | .sl _,_=>rfl
 | .pin _,_=>rfl
 | .itr _ _,_=>rfl
 | .nilp,_=>rfl
 | .ifc _ v,h=>by simp only [AV.mp];rw [mp_noids (v:=v) (by simpa [AV.ids] using h)]
 | .nili,_=>rfl
 | .yv _,_=>rfl
theorem mpL_noids {f:Id→Id}: ∀ {l:List AV},idsL l=[]→mpL f l=l
 |[],_=>rfl
 |v::r,h=>by
  simp only [idsL,List.append_eq_nil_iff] at h
  simp only [mpL]
  rw [mp_noids h.1,mpL_noids h.2]
end
mutual
theorem PR_up {S:Mem} {gb:Gb}: ∀(v:AV) (u:Value),PR S gb v u→PR S (gbUp gb) (v.mp Id.up) u
 | .ptr d o,u,h=>by simpa only [AV.mp,PR,gbUp,Id.isIt] using h
 | .ms d o n sz,u,h=>by simpa only [AV.mp,PR,gbUp,Id.isIt] using h
 | .itp _,u,_=>by simp [AV.mp,PR]
 | .mref d,u,h=>by simpa only [AV.mp,PR,gbUp,Id.isIt] using h
 | .nilT d _ _,u,h=>by simpa only [AV.mp,PR,gbUp] using h
 | .mpv _,_,h=>by simp only [PR] at h
 | .fn g cs,u,h=>by
  simp only [AV.mp,PR] at h ⊢
  obtain ⟨us,h1,h2⟩:=h
  exact ⟨us,h1,PRlist_up _ _ h2⟩
 | .agg cs,u,h=>by
  simp only [AV.mp,PR] at h ⊢
  obtain ⟨us,h1,h0,h2⟩:=h
  exact ⟨us,h1,h0,PRlist_up _ _ h2⟩
 | .tup cs,u,h=>by
  simp only [AV.mp,PR] at h ⊢
  obtain ⟨us,h1,h2⟩:=h
  exact ⟨us,h1,PRlist_up _ _ h2⟩
 | .undef,_,_=>by simp only [AV.mp,PR]
 | .int _ _,_,h=>by simpa only [AV.mp,PR] using h
 | .bool _,_,h=>by simpa only [AV.mp,PR] using h
 | .str _,_,h=>by simpa only [AV.mp,PR] using h
 | .nils,_,h=>by simpa only [AV.mp,PR] using h
 | .sl _,_,h=>by simpa only [AV.mp,PR] using h
 | .pin _,_,h=>by simpa only [AV.mp,PR] using h
 | .itr _ _,_,h=>by simp only [PR] at h
 | .nilp,_,h=>by simpa only [AV.mp,PR] using h
 | .ifc _ v,u,h=>by
  simp only [AV.mp,PR] at h ⊢
  obtain ⟨us,h1,h2⟩:=h
  exact ⟨us,h1,PR_up v _ h2⟩
 | .nili,_,h=>by simpa only [AV.mp,PR] using h
 | .yv _,_,h=>by simpa only [AV.mp,PR] using h
theorem PRlist_up {S:Mem} {gb:Gb}: ∀(l:List AV) (us:List Value),PRlist S gb l us→PRlist S (gbUp gb) (mpL Id.up l) us
 |[],us,h=>by simpa only [mpL,PRlist] using h
 |v::r,us,h=>by
  simp only [mpL,PRlist] at h ⊢
  obtain ⟨u,us',h1,h2,h3⟩:=h
  exact ⟨u,us',h1,PR_up v u h2,PRlist_up r us' h3⟩
end
mutual
theorem PR_nz {S:Mem} {gb:Gb}: ∀(v:AV) (u:Value),PR S gb v u→PR S gb (nz v) u
 | .nils,u,h=>by simp only [nz,PR] at h ⊢;exact .inl ⟨h,trivial⟩
 | .fn g cs,u,h=>by
  simp only [nz,PR] at h ⊢
  obtain ⟨us,h1,h2⟩:=h
  exact ⟨us,h1,PRlist_nz _ _ h2⟩
 | .agg cs,u,h=>by
  simp only [nz,PR] at h ⊢
  obtain ⟨us,h1,h0,h2⟩:=h
  exact ⟨us,h1,h0,PRlist_nz _ _ h2⟩
 | .tup cs,u,h=>by
  simp only [nz,PR] at h ⊢
  obtain ⟨us,h1,h2⟩:=h
  exact ⟨us,h1,PRlist_nz _ _ h2⟩
 | .ptr _ _,_,h=>h
 | .ms _ _ _ _,_,h=>h
 | .itp _,_,h=>h
 | .mref _,_,h=>h
 | .nilT _ _ _,_,h=>h
 | .mpv _,_,h=>h
 | .undef,_,h=>h
 | .int _ _,_,h=>h
 | .bool _,_,h=>h
 | .str _,_,h=>h
 | .sl _,_,h=>h
 | .pin _,_,h=>h
 | .itr _ _,_,h=>h
 | .nilp,_,h=>h
 | .ifc _ _,_,h=>h
 | .nili,_,h=>h
 | .yv _,_,h=>h
theorem PRlist_nz {S:Mem} {gb:Gb}: ∀(l:List AV) (us:List Value),PRlist S gb l us→PRlist S gb (nzL l) us
 |[],us,h=>h
 |v::r,us,h=>by
  simp only [nzL,PRlist] at h ⊢
  obtain ⟨u,us',h1,h2,h3⟩:=h
  exact ⟨u,us',h1,PR_nz v u h2,PRlist_nz r us' h3⟩
end
theorem nzL_length: ∀(l:List AV),(nzL l).length=l.length
 |[]=>rfl
 |v::r=>by simp only [nzL,List.length_cons,nzL_length r]
theorem mpL_length {f:Id→Id}: ∀(l:List AV),(mpL f l).length=l.length
 |[]=>rfl
 |v::r=>by simp only [mpL,List.length_cons,mpL_length r]

def gbOut (d:Nat) (gbc:Gb) (ob:List (Id×List AV)):Gb:=fun i=>if i.isNw d=true∧(lkB ob i).isSome=false then none else gbc (i.inn d)
def idOk (d:Nat) (ob:List (Id×List AV)) (i:Id):Prop:=i.isIt=false∧(i.isNw d=true→(lkB ob i).isSome=true)
theorem gbOut_ok {d:Nat} {gbc:Gb} {ob:List (Id×List AV)} {i:Id} (h:i.isNw d=true→(lkB ob i).isSome=true):gbOut d gbc ob i=gbc (i.inn d):=by
 unfold gbOut
 rw [if_neg]
 rintro ⟨h1,h2⟩
 rw [h h1] at h2;cases h2
theorem isIt_inn {d:Nat} {i:Id}:(i.inn d).isIt=i.isIt:=by
 cases i<;>simp only [Id.inn]<;>(try split)<;>simp_all [Id.isIt]
mutual
theorem PR_out {S:Mem} {d:Nat} {gbc:Gb} {ob:List (Id×List AV)}: ∀(v:AV) (u:Value),(∀i∈v.ids,idOk d ob i)→PR S gbc (v.mp (Id.inn d)) u→PR S (gbOut d gbc ob) v u
 | .ptr i o,u,hi,h=>by
  obtain ⟨h1,h2⟩:=hi i (by simp [AV.ids])
  simp only [AV.mp,PR] at h ⊢
  obtain ⟨g,z,e1,e2,e3⟩:=h
  exact ⟨g,z,by rw [gbOut_ok h2];exact e1,h1,e3⟩
 | .ms i o n sz,u,hi,h=>by
  obtain ⟨h1,h2⟩:=hi i (by simp [AV.ids])
  simp only [AV.mp,PR] at h ⊢
  obtain ⟨g,z,cap,e1,e2,e3⟩:=h
  exact ⟨g,z,cap,by rw [gbOut_ok h2];exact e1,h1,e3⟩
 | .itp k,u,hi,_=>by
  have:=(hi (.it k) (by simp [AV.ids])).1
  simp [Id.isIt] at this
 | .mref i,u,hi,h=>by
  have h1:=(hi i (by simp [AV.ids])).1
  simp only [AV.mp,PR] at h
  obtain ⟨g,z,_,e2,_⟩:=h
  rw [isIt_inn,h1] at e2;cases e2
 | .mpv _,_,_,h=>by simp only [AV.mp,PR] at h
 | .nilT i _ _,u,hi,h=>by
  obtain ⟨h1,h2⟩:=hi i (by simp [AV.ids])
  simp only [AV.mp,PR] at h ⊢
  obtain ⟨e0,g,e1⟩:=h
  exact ⟨e0,g,by rw [gbOut_ok h2];exact e1⟩
 | .fn g cs,u,hi,h=>by
  simp only [AV.mp,PR] at h ⊢
  obtain ⟨us,h1,h2⟩:=h
  exact ⟨us,h1,PRlist_out _ _ (by simpa [AV.ids] using hi) h2⟩
 | .agg cs,u,hi,h=>by
  simp only [AV.mp,PR] at h ⊢
  obtain ⟨us,h1,h0,h2⟩:=h
  exact ⟨us,h1,h0,PRlist_out _ _ (by simpa [AV.ids] using hi) h2⟩
 | .tup cs,u,hi,h=>by
  simp only [AV.mp,PR] at h ⊢
  obtain ⟨us,h1,h2⟩:=h
  exact ⟨us,h1,PRlist_out _ _ (by simpa [AV.ids] using hi) h2⟩
 | .undef,_,_,_=>by simp only [AV.mp,PR]
 | .int _ _,_,_,h=>by simpa only [AV.mp,PR] using h
 | .bool _,_,_,h=>by simpa only [AV.mp,PR] using h
 | .str _,_,_,h=>by simpa only [AV.mp,PR] using h
 | .nils,_,_,h=>by simpa only [AV.mp,PR] using h
 | .sl _,_,_,h=>by simpa only [AV.mp,PR] using h
 | .pin _,_,_,h=>by simpa only [AV.mp,PR] using h
 | .itr _ _,_,_,h=>by simp only [AV.mp,PR] at h
 | .nilp,_,_,h=>by simpa only [AV.mp,PR] using h
 | .nili,_,_,h=>by simpa only [AV.mp,PR] using h
 | .yv _,_,_,h=>by simpa only [AV.mp,PR] using h
 | .ifc _ v,u,hi,h=>by
  simp only [AV.mp,PR] at h ⊢
  obtain ⟨us,h1,h2⟩:=h
  exact ⟨us,h1,PR_out v _ (by simpa [AV.ids] using hi) h2⟩
theorem PRlist_out {S:Mem} {d:Nat} {gbc:Gb} {ob:List (Id×List AV)}: ∀(l:List AV) (us:List Value),(∀i∈idsL l,idOk d ob i)→PRlist S gbc (mpL (Id.inn d) l) us→PRlist S (gbOut d gbc ob) l us
 |[],us,_,h=>by simpa only [mpL,PRlist] using h
 |v::r,us,hi,h=>by
  simp only [mpL,PRlist] at h ⊢
  obtain ⟨u,us',h1,h2,h3⟩:=h
  exact ⟨u,us',h1,PR_out v u (fun i hm=>hi i (by simp [idsL,hm])) h2,PRlist_out r us' (fun i hm=>hi i (by simp [idsL,hm])) h3⟩
end
theorem inn_inj {d:Nat} {i j:Id} (h:i.inn d=j.inn d):i=j:=by
 cases i<;>cases j<;>simp only [Id.inn] at h<;>(try split at h)<;>(try split at h)<;>simp_all [Id.isUp]
 all_goals (first|(subst h;simp_all [Id.isUp])|skip)
theorem inn_it {d:Nat} {i:Id} (h:i.isIt=true):(i.inn d).isIt=true:=by
 rw [isIt_inn];exact h
theorem inn_notNw {d:Nat} {i:Id} (h:i.isNw d=false):i.inn d= .up i:=by
 cases i with
 |nw d' j=>
  simp only [Id.inn]
  rw [if_neg]
  rintro ⟨rfl,h2⟩
  cases j<;>simp_all [Id.isNw,Id.isUp]
 |_=>rfl
theorem lkB_mpB {f:Id→Id} (hf: ∀i j,f i=f j→i=j): ∀(l:List (Id×List AV)) (i:Id),lkB (mpB f l) (f i)=(lkB l i).map (mpL f)
 |[],i=>rfl
 |(d,cs)::r,i=>by
  simp only [mpB,lkB]
  by_cases e:d=i
  ·subst e;simp
  ·rw [if_neg (fun q=>e (hf _ _ q)),if_neg e,lkB_mpB hf r i]
theorem lkB_mpB_some {f:Id→Id} (hf: ∀i j,f i=f j→i=j): ∀ {l:List (Id×List AV)} {j:Id} {cs:List AV},lkB (mpB f l) j=some cs→ ∃i cs',j=f i∧lkB l i=some cs'∧cs=mpL f cs'
 |[],j,cs,h=>by simp [mpB,lkB] at h
 |(d,c)::r,j,cs,h=>by
  simp only [mpB,lkB] at h
  split at h
  ·rename_i e;simp only [Option.some.injEq] at h
   exact ⟨d,c,e.symm,by simp [lkB],h.symm⟩
  ·rename_i e
   obtain ⟨i,cs',h1,h2,h3⟩:=lkB_mpB_some hf h
   exact ⟨i,cs',h1,by simp only [lkB];rw [if_neg (fun q=>e (by rw [q,h1]))];exact h2,h3⟩
theorem lkP_mpP {f:Id→Id} (hf: ∀i j,f i=f j→i=j): ∀ {l:List (Pl×Nat)} {q:Pl} {k:Nat},lkP (mpP f l) q=some k→ ∃p,q=p.mp f∧lkP l p=some k
 |[],q,k,h=>by simp [mpP,lkP] at h
 |(p,k')::r,q,k,h=>by
  simp only [mpP,lkP] at h
  split at h
  ·rename_i e;simp only [Option.some.injEq] at h;exact ⟨p,e.symm,by simp [lkP,h]⟩
  ·rename_i e
   obtain ⟨p',h1,h2⟩:=lkP_mpP hf h
   exact ⟨p',h1,by simp only [lkP];rw [if_neg (fun q=>e (by rw [q,h1]))];exact h2⟩
theorem plv_up {gb:Gb} {sv:Nat→Value} {w:World} (p:Pl):plv (gbUp gb) sv w (p.mp Id.up)=plv gb sv w p:=by
 cases p<;>rfl
theorem up_inj (i j:Id) (h:Id.up i=Id.up j):i=j:=by cases h;rfl

theorem HR.up {bx:List (Id×List AV)} {pm:List (Pl×Nat)} {sv:Nat→Value} (h:HR S gb bx pm sv w):HR S (gbUp gb) (mpB Id.up bx) (mpP Id.up pm) sv w:=by
 refine ⟨h.agree,?_,?_,?_,?_,?_,?_,?_⟩
 ·intro d cs hcs hi
  obtain ⟨i,cs',rfl,h2,rfl⟩:=lkB_mpB_some up_inj hcs
  obtain ⟨g,us,T,e1,e3,e0,e4,e5,e6⟩:=h.box i cs' h2 hi
  exact ⟨g,us,T,e1,e3,by rw [mpL_length];exact e0,by rw [mpL_length];exact PRlist_up _ _ e4,e5,e6⟩
 ·intro d cs hcs hi
  obtain ⟨i,cs',rfl,h2,rfl⟩:=lkB_mpB_some up_inj hcs
  obtain ⟨g,z,ob,e1,e2,e3,e6⟩:=h.its i cs' h2 hi
  refine ⟨g,z,ob,e1,?_,e3,e6⟩
  unfold itO at e2
  split at e2
  ·exact e2
  ·exact e2
  ·cases e2
 ·intro d d' g z z' i1 i2 q1 q2
  obtain ⟨c1,hc1⟩:=Option.isSome_iff_exists.1 i1
  obtain ⟨c2,hc2⟩:=Option.isSome_iff_exists.1 i2
  obtain ⟨i,cs,rfl,h2,rfl⟩:=lkB_mpB_some up_inj hc1
  obtain ⟨j,cs',rfl,h3,rfl⟩:=lkB_mpB_some up_inj hc2
  rw [h.inj i j g z z' (by rw [h2];rfl) (by rw [h3];rfl) q1 q2]
 ·intro p k hp
  obtain ⟨q,rfl,h2⟩:=lkP_mpP up_inj hp
  rw [plv_up];exact h.own q k h2
 ·intro p q k l b hp hq h1 h2
  obtain ⟨p',rfl,p2⟩:=lkP_mpP up_inj hp
  obtain ⟨q',rfl,q2⟩:=lkP_mpP up_inj hq
  rw [plv_up] at h1 h2
  rw [h.ownd p' q' k l b p2 q2 h1 h2]
 ·intro p k b d z hp h1 hd
  obtain ⟨p',rfl,p2⟩:=lkP_mpP up_inj hp
  rw [plv_up] at h1
  obtain ⟨c1,hc1⟩:=Option.isSome_iff_exists.1 hd
  obtain ⟨i,cs,rfl,h2,rfl⟩:=lkB_mpB_some up_inj hc1
  exact h.ownb p' k b i z p2 h1 (by rw [h2];rfl)
 ·intro d off k hp
  obtain ⟨q,e,h2⟩:=lkP_mpP up_inj hp
  cases q with
  |b i o=>
   simp only [Pl.mp,Pl.b.injEq] at e
   obtain ⟨rfl,rfl⟩:=e
   obtain ⟨h3,h4⟩:=h.pmb i _ k h2
   refine ⟨?_,h4⟩
   rw [lkB_mpB up_inj];simpa using h3
  |s t=>cases e
  |t t i=>cases e

def wkz (v u:AV):Prop:=v=u∨nz v=u
def wkzL (v u:List AV):Prop:=v=u∨nzL v=u
def obx (d:Nat) (σ:St) (i:Id) (cs:List AV):Prop:=match lkB σ.bx (i.inn d) with
 |some c=>wkzL c (mpL (Id.inn d) cs)
 |none=>False
def pmOut (d:Nat) (rs:List AR) (ob:List (Id×List AV)) (σ:St):Pl×Nat→Prop
 |(.s t,k)=>t=0∧(match rs with |[.t s]=>lkP σ.pm (.s s)=some k∨lk σ.e s= .nils|_=>False)
 |(.t t i,k)=>t=0∧2≤rs.length∧(match rs[i]? with |some (.t s)=>lkP σ.pm (.s s)=some k∨lk σ.e s= .nils|_=>False)
 |(.b i o,k)=>(lkB ob i).isSome=true∧(lkP σ.pm (.b (i.inn d) o)=some k∨nilAt σ (.b (i.inn d) o))
def rsOne:List AR→Prop
 |[]=>True
 | .t s::r=>(∀x∈r,x≠ .t s)∧rsOne r
 |_::r=>rsOne r
structure OutOk (d:Nat) (rs:List AR) (O:Out) (σ:St):Prop where
 r:match resA σ rs with |some vs=>wkz (oneA vs) (O.r.mp (Id.inn d))|none=>False
 ids: ∀i∈O.r.ids,idOk d O.bx i
 bx: ∀p∈O.bx,(p.1.inn d).isIt=false∧obx d σ p.1 p.2
 bi: ∀p∈O.bx,∀i∈idsL p.2,idOk d O.bx i
 pm: ∀p∈O.pm,pmOut d rs O.bx σ p
 nd:O.pm=[]∨rsOne rs
inductive Frzs:St→St→Prop
 |z (σ:St):Frzs σ σ
 |s {σ τ:St} (s:Nat) (b:Id) (n sz:Nat) (rows:List (List AV)):FrzOk σ s b n sz rows→sz<KB→Frzs (frzStP σ s b sz rows) τ→Frzs σ τ
 |t {σ τ:St} (s:Nat) (b:Id) (n sz:Nat) (rows:List (List AV)) (tl:List AV):FrzOk2 σ s b n sz rows tl→sz<KB→Frzs (frzStP σ s b sz rows) τ→Frzs σ τ
def postH (d:Nat) (rs:List AR) (O:Out):AE→St→Prop
 | .x _,_=>False
 |_,σ=> ∃τ,Frzs σ τ∧OutOk d rs O τ
theorem Rel.frzs {σ τ:St} (hf:Frzs σ τ): ∀ {S:Mem} {gb:Gb},Rel F S gb σ a w→ ∃S' gb',Rel F S' gb' τ a w:=by
 induction hf with
 |z σ=>intro S gb h;exact ⟨S,gb,h⟩
 |s s b n sz rows h1 hk h2 ih=>
  intro S gb h
  obtain ⟨S',gb',h3⟩:=h.freezeP h1.two hk
  exact ih h3
 |t s b n sz rows tl h1 hk h2 ih=>
  intro S gb h
  obtain ⟨S',gb',h3⟩:=h.freezeP h1 hk
  exact ih h3
theorem rsOne_ne: ∀ {rs:List AR},rsOne rs→ ∀ {i j s:Nat},rs[i]?=some (.t s)→rs[j]?=some (.t s)→i=j
 |[],_,i,j,s,h,_=>by simp at h
 |x::r,ho,i,j,s,hi,hj=>by
  have hr:rsOne r:=by cases x<;>simp only [rsOne] at ho<;>first|exact ho.2|exact ho
  cases i with
  |zero=>
   cases j with
   |zero=>rfl
   |succ j=>
    simp at hi hj;subst hi
    simp only [rsOne] at ho
    exact absurd rfl (ho.1 _ (List.mem_of_getElem? hj))
  |succ i=>
   cases j with
   |zero=>
    simp at hi hj;subst hj
    simp only [rsOne] at ho
    exact absurd rfl (ho.1 _ (List.mem_of_getElem? hi))
   |succ j=>
    simp at hi hj
    rw [rsOne_ne hr hi hj]

theorem Rel.out (h:Rel F S gb σ a w) {d:Nat} {rs:List AR} {O:Out} (ho:OutOk d rs O σ) {vs:List AV} (hv:resA σ rs=some vs) {us:List Value} (hu:PRlist S gb vs us) (hs: ∀(i s:Nat),rs[i]?=some (AR.t s)→us[i]?=some (tv a s)) (hl:rs.length=us.length):
  let v:=if h:us.toArray.size=1 then us.toArray[0] else .tuple us.toArray
  PR S (gbOut d gb O.bx) O.r v∧HR S (gbOut d gb O.bx) O.bx O.pm (fun _=>v) w∧(∀i g z,(lkB O.bx i).isSome→gbOut d gb O.bx i=some (g,z)→F.w0.heap.size≤g∨F.M g)∧
   (∀p k g,lkP O.pm p=some k→(plv (gbOut d gb O.bx) (fun _=>v) w p).ownBlock=some g→F.w0.heap.size≤g∨F.M g):=by
 intro v
 have hval: ∀i,(lkB O.bx i).isSome=true→gbOut d gb O.bx i=gb (i.inn d):=fun i hi=>gbOut_ok (fun _=>hi)
 have hbox: ∀i cs,lkB O.bx i=some cs→ ∃c,lkB σ.bx (i.inn d)=some c∧wkzL c (mpL (Id.inn d) cs)∧(i.inn d).isIt=false∧(∀j∈idsL cs,idOk d O.bx j):=by
  intro i cs hcs
  have hm:=lkB_mem _ _ _ hcs
  obtain ⟨h1,h2⟩:=ho.bx _ hm
  simp only [obx] at h2
  split at h2
  ·rename_i c hc;exact ⟨c,hc,h2,h1,ho.bi _ hm⟩
  ·cases h2
 have hsome: ∀i,(lkB O.bx i).isSome=true→(lkB σ.bx (i.inn d)).isSome=true:=by
  intro i hi
  obtain ⟨cs,hcs⟩:=Option.isSome_iff_exists.1 hi
  obtain ⟨c,hc,_⟩:=hbox i cs hcs
  rw [hc];rfl
 have hpl: ∀p k,lkP O.pm p=some k→(∃q,lkP σ.pm q=some k∧plv (gbOut d gb O.bx) (fun _=>v) w p=plv gb (tv a) w q∧
   ((p= .s 0∧ ∃s,q= .s s∧rs=[.t s])∨(∃i s,p= .t 0 i∧q= .s s∧rs[i]?=some (.t s)∧2≤rs.length)∨(∃i o,p= .b i o∧q= .b (i.inn d) o∧(lkB O.bx i).isSome=true)))∨
   (plv (gbOut d gb O.bx) (fun _=>v) w p= .slice none 0 0∧ ∀i o,p= .b i o→(lkB O.bx i).isSome=true):=by
  intro p k hp
  have hm:=ho.pm _ (lkP_mem _ _ _ hp)
  cases p with
  |s t=>
   simp only [pmOut] at hm
   obtain ⟨rfl,hm⟩:=hm
   split at hm
   ·rename_i s
    have h1:=hs 0 s rfl
    have h2:us.length=1:=by rw [←hl];rfl
    have hvv:v=tv a s:=by
     simp only [v]
     rw [dif_pos (by simpa using h2)]
     rw [List.getElem?_eq_some_iff] at h1
     obtain ⟨_,h1⟩:=h1
     simpa using h1
    rcases hm with hm|hm
    ·exact .inl ⟨.s s,hm,by simp only [plv,hvv],.inl ⟨rfl,s,rfl,rfl⟩⟩
    ·right
     refine ⟨?_,fun i o he=>by cases he⟩
     have:=h.env s
     rw [hm] at this
     simp only [plv,hvv]
     simpa [PR] using this
   ·cases hm
  |t t i=>
   simp only [pmOut] at hm
   obtain ⟨rfl,h2,hm⟩:=hm
   split at hm
   ·rename_i s hi
    have h1:=hs i s hi
    have hvv:v= .tuple us.toArray:=by
     simp only [v]
     rw [dif_neg]
     simp;omega
    have hg:us.toArray.getD i undef=tv a s:=by
     rw [Array.getD_eq_getD_getElem?]
     simp [h1]
    rcases hm with hm|hm
    ·exact .inl ⟨.s s,hm,by simp only [plv,hvv];exact hg,.inr (.inl ⟨i,s,rfl,rfl,hi,h2⟩)⟩
    ·right
     refine ⟨?_,fun i o he=>by cases he⟩
     have:=h.env s
     rw [hm] at this
     simp only [plv,hvv]
     rw [hg]
     simpa [PR] using this
   ·cases hm
  |b i o=>
   simp only [pmOut] at hm
   obtain ⟨h1,hm⟩:=hm
   have he:plv (gbOut d gb O.bx) (fun _=>v) w (.b i o)=plv gb (tv a) w (.b (i.inn d) o):=by simp only [plv,hval i h1]
   rcases hm with hm|hm
   ·exact .inl ⟨_,hm,he,.inr (.inr ⟨i,o,rfl,rfl,h1⟩)⟩
   ·right
    refine ⟨?_,fun i' o' e=>by cases e;exact h1⟩
    rw [he]
    obtain ⟨cs,hcs⟩:=Option.isSome_iff_exists.1 h1
    obtain ⟨_,_,_,h3,_⟩:=hbox i cs hcs
    exact nilAt_plv h hm (fun d' off e=>by cases e;exact h3)
 refine ⟨?_,⟨h.hr.agree,?_,?_,?_,?_,?_,?_,?_⟩,?_,?_⟩
 ·have h1:=one_PR hu
  have h2:=ho.r
  rw [hv] at h2
  refine PR_out _ _ ho.ids ?_
  rcases h2 with h2|h2
  ·rw [←h2];exact h1
  ·rw [←h2];exact PR_nz _ _ h1
 ·intro i cs hcs hi
  obtain ⟨c,hc,hw,h3,h4⟩:=hbox i cs hcs
  obtain ⟨g,us',T,e1,e3,e0,e4,e5,e6⟩:=h.hr.box _ c hc h3
  have hlen:c.length=cs.length:=by
   rcases hw with hw|hw
   ·rw [hw,mpL_length]
   ·rw [←nzL_length,hw,mpL_length]
  refine ⟨g,us',T,by rw [hval i (by rw [hcs];rfl)];exact e1,e3,by omega,PRlist_out _ _ h4 ?_,e5,e6⟩
  rw [←hlen]
  rcases hw with hw|hw
  ·rw [←hw];exact e4
  ·rw [←hw];exact PRlist_nz _ _ e4
 ·intro i cs hcs hi
  obtain ⟨c,hc,hw,h3,h4⟩:=hbox i cs hcs
  rw [inn_it hi] at h3;cases h3
 ·intro i j g z z' i1 i2 q1 q2
  rw [hval i i1] at q1
  rw [hval j i2] at q2
  exact inn_inj (h.hr.inj _ _ g z z' (hsome i i1) (hsome j i2) q1 q2)
 ·intro p k hp
  rcases hpl p k hp with ⟨q,q1,q2,_⟩|⟨q1,_⟩
  ·rw [q2];exact h.hr.own q k q1
  ·rw [q1];exact .inl rfl
 ·intro p q k l b hp hq hb1 hb2
  have hne:O.pm≠[]:=fun e=>by rw [e] at hp;simp [lkP] at hp
  have hnd:rsOne rs:=by
   rcases ho.nd with h1|h1
   ·exact absurd h1 hne
   ·exact h1
  rcases hpl p k hp with ⟨p',p1,p2,p3⟩|⟨p1,_⟩
  ·rcases hpl q l hq with ⟨q',q1,q2,q3⟩|⟨q1,_⟩
   ·rw [p2] at hb1
    rw [q2] at hb2
    have e:=h.hr.ownd p' q' k l b p1 q1 hb1 hb2
    subst e
    rcases p3 with ⟨rfl,s,rfl,hr1⟩|⟨i,s,rfl,rfl,hr1,hr2⟩|⟨i,o,rfl,rfl,_⟩
    ·rcases q3 with ⟨rfl,_⟩|⟨j,s',rfl,e2,_,hr3⟩|⟨j,o',rfl,e2,_⟩
     ·rfl
     ·rw [hr1] at hr3;simp at hr3
     ·cases e2
    ·rcases q3 with ⟨rfl,s',e2,hr3⟩|⟨j,s',rfl,e2,hr3,_⟩|⟨j,o',rfl,e2,_⟩
     ·rw [hr3] at hr2;simp at hr2
     ·cases e2;rw [rsOne_ne hnd hr1 hr3]
     ·cases e2
    ·rcases q3 with ⟨rfl,s',e2,hr3⟩|⟨j,s',rfl,e2,hr3,_⟩|⟨j,o',rfl,e2,_⟩
     ·cases e2
     ·cases e2
     ·simp only [Pl.b.injEq] at e2
      rw [inn_inj e2.1,e2.2]
   ·rw [q1] at hb2;simp [Value.ownBlock] at hb2
  ·rw [p1] at hb1;simp [Value.ownBlock] at hb1
 ·intro p k b i z hp hb hi
  rcases hpl p k hp with ⟨q,q1,q2,_⟩|⟨q1,_⟩
  ·rw [q2] at hb
   rw [hval i hi]
   exact h.hr.ownb q k b _ z q1 hb (hsome i hi)
  ·rw [q1] at hb;simp [Value.ownBlock] at hb
 ·intro i o k hp
  have hi:(lkB O.bx i).isSome=true:=by
   rcases hpl _ k hp with ⟨q,q1,q2,q3⟩|⟨_,q1⟩
   ·rcases q3 with ⟨e,_⟩|⟨_,_,e,_⟩|⟨i',o',e,_,h1⟩
    ·cases e
    ·cases e
    ·cases e;exact h1
   ·exact q1 i o rfl
  refine ⟨hi,?_⟩
  obtain ⟨cs,hcs⟩:=Option.isSome_iff_exists.1 hi
  obtain ⟨_,_,_,h3,_⟩:=hbox i cs hcs
  cases hit:i.isIt with
  |false=>rfl
  |true=>rw [inn_it hit] at h3;cases h3
 ·intro i g z hi hq
  rw [hval i hi] at hq
  exact h.newb _ g z (hsome i hi) hq
 ·intro p k g hp hg
  rcases hpl p k hp with ⟨q,q1,q2,_⟩|⟨q1,_⟩
  ·rw [q2] at hg;exact h.newo q k g q1 hg
  ·rw [q1] at hg;simp [Value.ownBlock] at hg

theorem mRs_length: ∀ {rs:List AR} {qs:List ResultVar} {σ:St} {vs:List AV},resA σ rs=some vs→vs.length=rs.length
 |[],qs,σ,vs,h=>by simp only [resA,Option.some.injEq] at h;subst h;rfl
 | .t s::r,qs,σ,vs,h=>by
  simp only [resA] at h
  split at h
  ·rename_i vs' hv
   simp only [Option.some.injEq] at h;subst h
   simp only [List.length_cons,mRs_length (qs:=qs) hv]
  ·cases h
 | .cs s::r,qs,σ,vs,h=>by
  simp only [resA] at h
  split at h
  ·rename_i v vs' _ hv
   simp only [Option.some.injEq] at h;subst h
   simp only [List.length_cons,mRs_length (qs:=qs) hv]
  ·cases h
 | .ca s n::r,qs,σ,vs,h=>by
  simp only [resA] at h
  split at h
  ·rename_i v vs' _ hv
   simp only [Option.some.injEq] at h;subst h
   simp only [List.length_cons,mRs_length (qs:=qs) hv]
  ·cases h

theorem fun_soundH {GL:List (Nat×List Value)} {dr:Array Oper→List (List Nat)→List AOp→Bool} {f:Nat} {fn:Func} {af:AF} (hf:P.funcs[f]?=some fn) (hm:mF P GL dr fn af=true) (hd:DrawsOk P GL af.N dr) {d:Nat} {I:In} {O:Out} (hl:I.vs.length=af.np)
  (hw:wpA (Spec P GL) af.c (postH d af.rs O) (inSt I)):Spec P GL f d I O:=by
 simp only [mF,Bool.and_eq_true,bne_iff_ne,beq_iff_eq] at hm
 obtain ⟨⟨⟨⟨⟨h1,h2⟩,h3⟩,h4⟩,h5⟩,h6⟩:=hm
 split at h6<;>(try cases h6)
 rename_i c hb
 have h4:=Nat.le_of_ble_eq_true h4
 intro S gb w vs hvs hhr hglo hnw
 have hlen:vs.length=I.vs.length:=hvs.length.symm
 unfold Does
 have hcall:(callFunc f vs.toArray).run P w= .ok (.enter f vs.toArray) w:=by
  simp [callFunc,hf,hb,h1]
 rw [hcall]
 refine calls_of_wp hf hb ?_
 let F:Fr:=⟨S,w,MS I gb (fun t=>vs.getD t undef) w,gb,af.N,GL,[]⟩
 have hsv:tv {tmps:=vs.toArray++Array.replicate (fn.ntmps - vs.toArray.size) undef,defers:=[]}=fun t=>vs.getD t undef:=by
  funext t;exact tv_init
 have hup:=hhr.up
 have hrel:Rel F S (gbUp gb) (inSt I) {tmps:=vs.toArray++Array.replicate (fn.ntmps - vs.toArray.size) undef,defers:=[]} w:=by
  refine ⟨rfl,?_,Bw.refl _ _,fun _ _ _ _=>rfl,Mem.le.refl _,?_,by rw [hsv];exact hup,?_,?_,?_,fun d=>rfl,hglo⟩
  ·show (vs.toArray++Array.replicate (fn.ntmps - vs.toArray.size) undef).size=af.N
   simp;omega
  ·intro t
   have:=(lk_initE (PRlist_up _ _ hvs) 0 t).2 t (by omega)
   rw [tv_init]
   exact this
  ·intro i g z hi hq
   obtain ⟨c1,hc1⟩:=Option.isSome_iff_exists.1 hi
   obtain ⟨j,cs,rfl,hj,_⟩:=lkB_mpB_some up_inj hc1
   exact .inr (.inl ⟨j,z,by rw [hj];rfl,hq⟩)
  ·intro p k g hp hg
   obtain ⟨q,rfl,hq⟩:=lkP_mpP up_inj hp
   rw [hsv,plv_up] at hg
   exact .inr (.inr ⟨q,k,hq,hg⟩)
  ·intro i hi
   cases i<;>simp [gbUp,Id.isUp] at hi ⊢
 refine code_sound (F:=F) hd h6 (Q:=postH d af.rs O) ?_ hrel hw
 intro e S0' gb0' σ0 a' w' hr0 hq0
 have fin: ∀σ0,Rel F S0' gb0' σ0 a' w'→(∃τ,Frzs σ0 τ∧OutOk d af.rs O τ)→a'.defers=[]∧ ∃v,(results fn a'.tmps).run P w'= .ok v w'∧(∃u,Ending.returned v= .returned u∧ ∃S'' gb'',PostR d I O S gb (fun t=>vs.getD t undef) w S'' gb'' u w'):=by
  rintro σ0 hr0 ⟨τ,hfz,hok⟩
  obtain ⟨S',gb',hr⟩:=hr0.frzs hfz
  refine ⟨hr.defers,?_⟩
  have hr':=hok.r
  split at hr'
  ·rename_i vs' hv
   obtain ⟨us,hrun,g2,g3⟩:=res_run (P:=P) hr h5 hv
   obtain ⟨o1,o2,o3,o4⟩:=hr.out hok hv g2 g3 (by rw [←g2.length];exact (mRs_length (qs:=[]) hv).symm)
   refine ⟨_,hrun,_,rfl,S',gbOut d gb' O.bx,hr.bw,hr.ext,hr.le,?_,?_,o1,o2,o3,o4⟩
   ·intro i hi
    have:gbOut d gb' O.bx i=gb' (i.inn d):=gbOut_ok (fun e=>by rw [hi] at e;cases e)
    rw [this,inn_notNw hi]
    exact hr.up i
   ·intro i hi hne
    simp only [gbOut] at hne
    split at hne
    ·exact absurd rfl hne
    ·rename_i hno
     cases hs:(lkB O.bx i).isSome with
     |true=>rfl
     |false=>exact absurd ⟨hi,hs⟩ hno
  ·cases hr'
 cases e
 ·exact fin _ hr0 hq0
 ·exact hq0.elim
 ·exact fin _ hr0 hq0
theorem fun_spH {P:Program} {GL:List (Nat×List Value)} {dr:Array Oper→List (List Nat)→List AOp→Bool} {f:Nat} {fn:Func} {af:AF} (hf:P.funcs[f]?=some fn) (hm:mF P GL dr fn af=true) (hd:DrawsOk P GL af.N dr) {d:Nat} {I:In} {O:Out} (hl:I.vs.length=af.np)
  (hw:wpA (SpH P GL) af.c (postH d af.rs O) (inSt I)):SpH P GL f d I O:=by
 rw [sph_eq] at hw ⊢;exact fun_soundH hf hm hd hl hw

def onH (S:Nat→Nat→In→Out→Prop) (f d:Nat) (xs:List X) (K:St→Prop) (σ:St):Prop:=wpC S f d xs K σ
@[simp] theorem wp1_ce {S:Nat→Nat→In→Out→Prop} {d f xs} {K:St→Prop} {σ:St}:wp1 S (.ce d f xs) K σ=onH S f d xs K σ:=by rw [wp1];rfl
def onD (S:Nat→Nat→In→Out→Prop) (d:Nat) (xs:List X) (K:St→Prop) (σ:St):AV→Prop
 | .fn f caps=>onH S f d (xs++caps.map X.c) K σ
 |_=>False
@[simp] theorem wp1_cd {S:Nat→Nat→In→Out→Prop} {d x xs} {K:St→Prop} {σ:St}:wp1 S (.cd d x xs) K σ=onD S d xs K σ (σ.v x):=by
 rw [wp1];unfold onD onH;cases σ.v x<;>rfl
@[simp] theorem onD_fn {S:Nat→Nat→In→Out→Prop} {d xs f caps} {K:St→Prop} {σ:St}:onD S d xs K σ (.fn f caps)=onH S f d (xs++caps.map X.c) K σ:=rfl
theorem onH_mk {P:Program} {GL:List (Nat×List Value)} {K:St→Prop} {σ:St} {f d:Nat} {xs:List X} (I:In) (O:Out) (h:SpH P GL f d I O) (hc:CallOk d σ xs I O) (hk:K (callSt d σ xs I O)):onH (SpH P GL) f d xs K σ:=⟨I,O,h,hc,hk⟩
theorem onQ_mk {P:Program} {GL:List (Nat×List Value)} {K:St→Prop} {σ:St} {f d:Nat} {xs:List X} {fr:List Nat} (I:In) (O:Out) (h:SpH P GL f d I O) (hc:CallOk d σ xs I O) (hq:CqOk fr I O) (hk:K (callSt d σ xs I O)) (hn:fr.contains d=false:=by decide):onQ (SpH P GL) f d xs fr K σ:=⟨I,O,h,hc,⟨hq,hn⟩,hk⟩
theorem postH_n {d:Nat} {rs:List AR} {O:Out} {σ:St} (h:OutOk d rs O σ):postH d rs O .n σ:=⟨σ,.z σ,h⟩
theorem postH_r {d:Nat} {rs:List AR} {O:Out} {σ:St} (h:OutOk d rs O σ):postH d rs O .r σ:=⟨σ,.z σ,h⟩
@[simp] theorem inn_up {d i}:(Id.up i).inn d= .up (.up i):=rfl
@[simp] theorem inn_n {d k}:(Id.n k).inn d= .up (.n k):=rfl
@[simp] theorem inn_ix {d i k}:(Id.ix i k).inn d= .up (.ix i k):=rfl
@[simp] theorem inn_itr {d k}:(Id.it k).inn d= .up (.it k):=rfl
@[simp] theorem inn_nw {d d' i}:(Id.nw d' i).inn d=if d'=d∧i.isUp=false then i else .up (.nw d' i):=rfl
@[simp] theorem nw_up {d i}:(Id.up i).isNw d=false:=rfl
@[simp] theorem nw_n {d k}:(Id.n k).isNw d=false:=rfl
@[simp] theorem nw_ix {d i k}:(Id.ix i k).isNw d=false:=rfl
@[simp] theorem nw_itr {d k}:(Id.it k).isNw d=false:=rfl
@[simp] theorem nw_nw {d d' i}:(Id.nw d' i).isNw d=(d'==d&&!i.isUp):=rfl
attribute [simp] AV.mp mpL mpB mpP Pl.mp inSt nz nzL rmBs dlBs dlXs retP callSt pmIn pmOne pmOut obx wkz wkzL idOk rsOne frzSt frzStP St.puto
theorem SpH.noPm {P:Program} {GL:List (Nat×List Value)} {f d:Nat} {I:In} {r:AV} {bx:List (Id×List AV)} {pm:List (Pl×Nat)} (h:SpH P GL f d I ⟨r,bx,pm⟩):SpH P GL f d I ⟨r,bx,[]⟩:=by
 rw [sph_eq] at h ⊢
 intro S gb w vs hvs hhr hglo hnw
 have:=h S gb w vs hvs hhr hglo hnw
 have hm: ∀v w',(∃S' gb',PostR d I ⟨r,bx,pm⟩ S gb (fun t=>vs.getD t undef) w S' gb' v w')→ ∃S' gb',PostR d I ⟨r,bx,[]⟩ S gb (fun t=>vs.getD t undef) w S' gb' v w':=by
  rintro v w' ⟨S',gb',q⟩
  refine ⟨S',gb',q.bw,q.ext,q.le,q.same,q.nw,q.r,⟨q.hr.agree,q.hr.box,q.hr.its,q.hr.inj,?_,?_,?_,?_⟩,q.newb,?_⟩
  ·intro p k hk;simp [lkP] at hk
  ·intro p q k l b hk;simp [lkP] at hk
  ·intro p k b d z hk;simp [lkP] at hk
  ·intro d off k hk;simp [lkP] at hk
  ·intro p k g hk;simp [lkP] at hk
 unfold Does at this ⊢
 split at this
 ·exact hm _ _ this
 ·exact this.mono (fun e w' ⟨v,h1,h2⟩=>⟨v,h1,hm _ _ h2⟩)
 ·exact this
theorem Sp.of_h {P:Program} {GL:List (Nat×List Value)} {f:Nat} {l:List AV} {r:AV} (h: ∀d,SpH P GL f d ⟨l,[],[]⟩ ⟨r,[],[]⟩):Sp P GL f l r:=by unfold Sp;exact h
theorem Sp.h {P:Program} {GL:List (Nat×List Value)} {f d:Nat} {l:List AV} {r:AV} (h:Sp P GL f l r):SpH P GL f d ⟨l,[],[]⟩ ⟨r,[],[]⟩:=by unfold Sp at h;exact h d
end Go.Ai
