/- P15: a part of the proof: the rules, or what functions compute. Conditions: as each theorem says. -/
import Derived.Test.YthonkjadcpdphaaGreatDoorP14
import Derived.Test.YthonkjadcpdphaaGreatDoorP10
set_option linter.unusedSimpArgs false
set_option linter.unusedVariables false
set_option maxRecDepth 20000
namespace Go.Ai
open Go.Proofs
theorem rright22_spec (a:Al):Sp Tryz.prog gl 101 [.agg a.row] (.bool (alRight a)):=by
 refine s101 rfl rfl ?_
 obtain ⟨R,hR⟩: ∃R,R=alRight a:=⟨_,rfl⟩
 rw [←hR]
 obtain ⟨ph,si,cl,e⟩:=a
 unfold alRight at hR
 simp only at hR
 simp only [Al.row]
 have T1:=rtick19_spec si
 have T2:=rtick19_spec cl
 have k1:(decide (0≤si)&&decide (si≤253402300799))=tkB si:=rfl
 have k2:(decide (0≤cl)&&decide (cl≤253402300799))=tkB cl:=rfl
 have k3:si=0→tkB si=true:=by rintro rfl;rfl
 have k4:cl=0→tkB cl=true:=by rintro rfl;rfl
 rw [k1] at T1
 rw [k2] at T2
 have ne:=nb_ep e
 generalize epB e=eb at *
 generalize tkB si=t1 at *
 generalize tkB cl=t2 at *
 clear k1 k2
 rcases ph_cases ph with rfl|rfl|rfl|rfl|⟨p0,p1,p2,p3⟩
 ·rw [if_pos rfl] at hR
  cases t1
  ·have: ¬si=0:=fun h=>by simpa using k3 h
   simp [this] at hR
   subst hR
   simp -implicitDefEqProofs [c101]
   refine onC_mk _ (T1) ?_
   simp -implicitDefEqProofs
  ·cases t2
   ·have: ¬cl=0:=fun h=>by simpa using k4 h
    simp [this] at hR
    subst hR
    simp -implicitDefEqProofs [c101]
    refine onC_mk _ (T1) ?_
    simp -implicitDefEqProofs
    refine onC_mk _ (T2) ?_
    simp -implicitDefEqProofs
   ·by_cases s0:si=0
    ·subst s0
     by_cases c0:cl=0
     ·subst c0
      by_cases e0:e=0
      ·subst e0
       simp at hR
       subst hR
       simp -implicitDefEqProofs [c101]
       refine onC_mk _ (T1) ?_
       simp -implicitDefEqProofs
       refine onC_mk _ (T2) ?_
       simp -implicitDefEqProofs
      ·have e0':((e:Int)!=0)=true:=by rw [bne_iff_ne];omega
       simp [e0] at hR
       subst hR
       simp -implicitDefEqProofs [c101]
       refine onC_mk _ (T1) ?_
       simp -implicitDefEqProofs
       refine onC_mk _ (T2) ?_
       simp -implicitDefEqProofs [e0,e0']
     ·have c0':(cl !=0)=true:=by rw [bne_iff_ne];exact c0
      simp [c0] at hR
      subst hR
      simp -implicitDefEqProofs [c101]
      refine onC_mk _ (T1) ?_
      simp -implicitDefEqProofs
      refine onC_mk _ (T2) ?_
      simp -implicitDefEqProofs [c0,c0']
    ·have s0':(si !=0)=true:=by rw [bne_iff_ne];exact s0
     simp [s0] at hR
     subst hR
     simp -implicitDefEqProofs [c101]
     refine onC_mk _ (T1) ?_
     simp -implicitDefEqProofs
     refine onC_mk _ (T2) ?_
     simp -implicitDefEqProofs [s0,s0']
 ·rw [if_neg (by decide),if_pos rfl] at hR
  cases t1
  ·simp at hR
   subst hR
   simp -implicitDefEqProofs [c101]
   refine onC_mk _ (T1) ?_
   simp -implicitDefEqProofs
  ·cases t2
   ·have: ¬cl=0:=fun h=>by simpa using k4 h
    simp [this] at hR
    subst hR
    simp -implicitDefEqProofs [c101]
    refine onC_mk _ (T1) ?_
    simp -implicitDefEqProofs
    refine onC_mk _ (T2) ?_
    simp -implicitDefEqProofs
   ·by_cases c0:cl=0
    ·subst c0
     by_cases e0:e=0
     ·subst e0
      simp at hR
      subst hR
      simp -implicitDefEqProofs [c101]
      refine onC_mk _ (T1) ?_
      simp -implicitDefEqProofs
      refine onC_mk _ (T2) ?_
      simp -implicitDefEqProofs
     ·have e0':((e:Int)!=0)=true:=by rw [bne_iff_ne];omega
      simp [e0] at hR
      subst hR
      simp -implicitDefEqProofs [c101]
      refine onC_mk _ (T1) ?_
      simp -implicitDefEqProofs
      refine onC_mk _ (T2) ?_
      simp -implicitDefEqProofs [e0,e0']
    ·have c0':(cl !=0)=true:=by rw [bne_iff_ne];exact c0
     simp [c0] at hR
     subst hR
     simp -implicitDefEqProofs [c101]
     refine onC_mk _ (T1) ?_
     simp -implicitDefEqProofs
     refine onC_mk _ (T2) ?_
     simp -implicitDefEqProofs [c0,c0']
 ·rw [if_neg (by decide),if_neg (by decide),if_pos rfl] at hR
  cases t1
  ·simp at hR
   subst hR
   simp -implicitDefEqProofs [c101]
   refine onC_mk _ (T1) ?_
   simp -implicitDefEqProofs
  ·cases t2
   ·have: ¬cl=0:=fun h=>by simpa using k4 h
    simp [this] at hR
    subst hR
    simp -implicitDefEqProofs [c101]
    refine onC_mk _ (T1) ?_
    simp -implicitDefEqProofs
    refine onC_mk _ (T2) ?_
    simp -implicitDefEqProofs
   ·by_cases c0:cl=0
    ·subst c0
     by_cases h1:(1:Int)≤e
     ·have h1': ¬((e:Int)<1):=by omega
      by_cases h2:(e:Int)≤4611686018427387904
      ·have h2': ¬((4611686018427387904:Int)<e):=by omega
       simp only [decide_eq_true h1,decide_eq_true h2] at ne
       subst ne
       simp at hR
       subst hR
       simp -implicitDefEqProofs [c101]
       refine onC_mk _ (T1) ?_
       simp -implicitDefEqProofs
       refine onC_mk _ (T2) ?_
       simp -implicitDefEqProofs [h1,h2,h1',h2']
      ·have h2':((4611686018427387904:Int)<e):=by omega
       simp only [decide_eq_true h1,decide_eq_false h2] at ne
       subst ne
       simp at hR
       subst hR
       simp -implicitDefEqProofs [c101]
       refine onC_mk _ (T1) ?_
       simp -implicitDefEqProofs
       refine onC_mk _ (T2) ?_
       simp -implicitDefEqProofs [h1,h2,h1',h2']
     ·have h1':((e:Int)<1):=by omega
      simp only [decide_eq_false h1,Bool.false_and] at ne
      subst ne
      simp at hR
      subst hR
      simp -implicitDefEqProofs [c101]
      refine onC_mk _ (T1) ?_
      simp -implicitDefEqProofs
      refine onC_mk _ (T2) ?_
      simp -implicitDefEqProofs [h1,h1']
    ·have c0':(cl !=0)=true:=by rw [bne_iff_ne];exact c0
     simp [c0] at hR
     subst hR
     simp -implicitDefEqProofs [c101]
     refine onC_mk _ (T1) ?_
     simp -implicitDefEqProofs
     refine onC_mk _ (T2) ?_
     simp -implicitDefEqProofs [c0,c0']
 ·rw [if_neg (by decide),if_neg (by decide),if_neg (by decide),if_pos rfl] at hR
  cases t1
  ·simp at hR
   subst hR
   simp -implicitDefEqProofs [c101]
   refine onC_mk _ (T1) ?_
   simp -implicitDefEqProofs
  ·cases t2
   ·simp at hR
    subst hR
    simp -implicitDefEqProofs [c101]
    refine onC_mk _ (T1) ?_
    simp -implicitDefEqProofs
    refine onC_mk _ (T2) ?_
    simp -implicitDefEqProofs
   ·by_cases h1:(1:Int)≤e
    ·have h1': ¬((e:Int)<1):=by omega
     by_cases h2:(e:Int)≤4611686018427387904
     ·have h2': ¬((4611686018427387904:Int)<e):=by omega
      simp only [decide_eq_true h1,decide_eq_true h2] at ne
      subst ne
      simp only [Bool.true_and] at hR
      subst hR
      simp -implicitDefEqProofs [c101]
      refine onC_mk _ (T1) ?_
      simp -implicitDefEqProofs
      refine onC_mk _ (T2) ?_
      simp -implicitDefEqProofs [h1,h2,h1',h2']
     ·have h2':((4611686018427387904:Int)<e):=by omega
      simp only [decide_eq_true h1,decide_eq_false h2] at ne
      subst ne
      simp at hR
      subst hR
      simp -implicitDefEqProofs [c101]
      refine onC_mk _ (T1) ?_
      simp -implicitDefEqProofs
      refine onC_mk _ (T2) ?_
      simp -implicitDefEqProofs [h1,h2,h1',h2']
    ·have h1':((e:Int)<1):=by omega
     simp only [decide_eq_false h1,Bool.false_and] at ne
     subst ne
     simp at hR
     subst hR
     simp -implicitDefEqProofs [c101]
     refine onC_mk _ (T1) ?_
     simp -implicitDefEqProofs
     refine onC_mk _ (T2) ?_
     simp -implicitDefEqProofs [h1,h1']
 ·rw [if_neg p0,if_neg p1,if_neg p2,if_neg p3] at hR
  subst hR
  by_cases n0:ph<0
  ·simp [c101,n0]
  ·have n3:3<ph:=by omega
   simp -implicitDefEqProofs [c101,n0,n3]
theorem rfires35_spec (a:Al):Sp Tryz.prog gl 44 [.agg a.row] (.bool (alFires a)):=by
 refine s44 rfl rfl ?_
 have A:=rright22_spec a
 unfold alFires
 generalize alRight a=r at *
 obtain ⟨ph,si,cl,e⟩:=a
 simp only [Al.row] at A ⊢
 have e2:decide (2≤ph)=decide (1<ph):=decide_eq_decide.2 (by omega)
 simp only [e2]
 cases r
 ·simp [c44]
  refine onC_mk _ (A) ?_
  simp -implicitDefEqProofs
 ·simp [c44]
  refine onC_mk _ (A) ?_
  simp -implicitDefEqProofs
open Go.Proofs
theorem al_atr (l:List Al) (i:Nat) (h:i<l.length) (h2:i<(l.map Al.row).length):(l.map Al.row)[i]=l[i].row:=by simp
def eRows (l:List Nat):List (List AV):=l.map fun e=>[u e]
theorem eRows_one (l:List Nat): ∀r∈eRows l,r.length=1:=by
 intro r hr
 obtain ⟨_,_,rfl⟩:=List.mem_map.1 hr
 rfl
theorem epsF_take (l:List Al) (i:Nat) (h:i<l.length):eRows (epsF (l.take (i+1)))=if alFires l[i]=true then eRows (epsF (l.take i))++[[u l[i].e]] else eRows (epsF (l.take i)):=by
 rw [List.take_succ_eq_append_getElem h]
 unfold epsF eRows
 rw [List.filter_append,List.map_append,List.map_append]
 by_cases c:alFires l[i]=true
 ·rw [if_pos c];simp [c]
 ·rw [if_neg c];simp [c]
theorem epsF_le (l:List Al):(epsF l).length≤l.length:=by
 unfold epsF
 rw [List.length_map]
 exact List.length_filter_le _ _
theorem episodes_spec (l:List Al) (hl:l.length≤100000):Sp Tryz.prog gl 90 [.sl (l.map Al.row)] (.sl (eRows (epsF l))):=by
 refine s90 rfl rfl ?_
 have hlim:lim=140737488355328:=rfl
 have rl:(l.map Al.row).length=l.length:=by simp
 have rat:=al_at l
 generalize l.map Al.row=RR at *
 simp -implicitDefEqProofs [c90,rl]
 refine wp_lpk (α:=Nat) (fun i=>⟨[(3,.sl (eRows (epsF (l.take i)))),(6,.sl RR),(7,i6 l.length),(8,i6 i)],[],[(.s 3,1)]⟩)
  (fun i=>i≤l.length) (fun i=>l.length - i) ?_ 0 ?_ ?_
 ·rintro K i hK h1
  by_cases g:i<l.length
  ·have t1:IntKind.i64.wrap ((i:Int)+1)=(i+1:Nat):=by rw [wrap_i64]<;>omega
   have gR:i<RR.length:=by omega
   have ra:=rat i g gR
   have FR:=alfires_spec l[i]
   have tk:=epsF_take l i g
   have fin: ∀σ',Weak σ' ⟨[(3,.sl (eRows (epsF (l.take (i+1))))),(6,.sl RR),(7,i6 l.length),(8,i6 (i+1:Nat))],[],[(.s 3,1)]⟩→K σ':=
    fun σ' hσ=>hK (i+1) σ' (by omega) (by omega) hσ
   rw [tk] at fin
   have r1:=eRows_one (epsF (l.take i))
   have hlen:(eRows (epsF (l.take i))).length≤i:=by
    have:=epsF_le (l.take i)
    simp only [eRows,List.length_map] at this ⊢
    simp at this
    omega
   have hww:((eRows (epsF (l.take i))).length+1)*8≤140737488355328:=by omega
   clear hK rat tk
   unfold Al.row at FR
   generalize eRows (epsF (l.take i))=IR at *
   generalize alFires l[i]=fr at *
   generalize l[i]=v at *
   cases fr
   ·simp only [Bool.false_eq_true,if_false] at fin
    simp -implicitDefEqProofs [g,gR,ra,rl]
    refine onC_mk _ (FR) ?_
    simp -implicitDefEqProofs
    refine fin _ ?_
    refine weak_mk ?_ ?_ ?_ ?_ ?_ ?_<;>simp -implicitDefEqProofs [t1]
   ·simp only [if_true] at fin
    simp -implicitDefEqProofs [g,gR,ra,rl]
    refine onC_mk _ (FR) ?_
    simp -implicitDefEqProofs [hlim]
    refine ⟨hww,r1,?_⟩
    refine fin _ ?_
    refine weak_mk ?_ ?_ ?_ ?_ ?_ ?_<;>simp -implicitDefEqProofs [t1]
  ·obtain rfl:i=l.length:=by omega
   rw [List.take_length]
   clear hK
   simp -implicitDefEqProofs
 ·simp
 ·refine weak_mk ?_ ?_ ?_ ?_ ?_ ?_<;>simp -implicitDefEqProofs [eRows,epsF,rl]
theorem ralerts35_spec (x:GV) (v:Vw) (hl:x.al.length≤1000000):Sp Tryz.prog gl 43 [.agg x.row,.agg v.row] (.bool (alertsF v.now v.ep x)):=by
 refine s43 rfl rfl ?_
 obtain ⟨R,hR⟩: ∃R,R=alertsF v.now v.ep x:=⟨_,rfl⟩
 rw [←hR]
 unfold alertsF at hR
 have rl:(x.al.map Al.row).length=x.al.length:=by simp
 have ul:(x.g.ru.map Ru.row).length=x.g.ru.length:=by simp
 have rat:=al_at x.al
 have e14: ∀h:14<x.row.length,x.row[14]= .sl (x.al.map Al.row):=fun _=>rfl
 have e7: ∀h:7<x.row.length,x.row[7]= .sl (x.g.ru.map Ru.row):=fun _=>rfl
 have el:x.row.length=15:=rfl
 have ei:idsL x.row=[]:=rfl
 have es:shutL x.row=some x.row:=rfl
 have v0: ∀h:0<v.row.length,v.row[0]=i6 v.now:=fun _=>rfl
 have v1: ∀h:1<v.row.length,v.row[1]=u v.ep:=fun _=>rfl
 have vl:v.row.length=11:=rfl
 have vi:idsL v.row=[]:=rfl
 have vs:shutL v.row=some v.row:=rfl
 generalize x.row=M at *
 generalize v.row=N at *
 generalize x.al.map Al.row=AR0 at *
 generalize x.g.ru.map Ru.row=UR at *
 by_cases hn:x.al.length=x.g.ru.length
 ·have hn':((x.al.length:Int)!=(x.g.ru.length:Int))=false:=by rw [hn];simp
  rw [decide_eq_true hn,Bool.true_and] at hR
  simp -implicitDefEqProofs [c43,e14,e7,el,ei,es,vl,vi,vs,rl,ul,hn']
  refine wp_lpk (α:=Nat) (fun i=>⟨[(2,.ptr (.n 2) 0),(3,.ptr (.n 3) 0),(5,i6 i)],[(.n 2,M),(.n 3,N)],[]⟩)
   (fun i=>i≤x.al.length∧(x.al.drop i).all (alOk v.now v.ep)=R) (fun i=>x.al.length - i) ?_ 0 ?_ ?_
  ·rintro K i hK ⟨h1,h2⟩
   by_cases g:i<x.al.length
   ·have t1:IntKind.i64.wrap ((i:Int)+1)=(i+1:Nat):=by rw [wrap_i64]<;>omega
    have gR:i<AR0.length:=by omega
    have ra:=rat i g gR
    rw [List.drop_eq_getElem_cons g,List.all_cons] at h2
    have RI:=rright22_spec x.al[i]
    have fin:(x.al.drop (i+1)).all (alOk v.now v.ep)=R→ ∀σ',Weak σ' ⟨[(2,.ptr (.n 2) 0),(3,.ptr (.n 3) 0),(5,i6 (i+1:Nat))],[(.n 2,M),(.n 3,N)],[]⟩→K σ':=
     fun hh σ' hσ=>hK (i+1) σ' ⟨by omega,hh⟩ (by omega) hσ
    clear hK hR rat
    unfold Al.row at RI
    generalize (x.al.drop (i+1)).all (alOk v.now v.ep)=r at *
    unfold alOk at h2
    generalize x.al[i]=a at *
    generalize alRight a=p at *
    cases p
    ·simp at h2
     subst h2
     simp -implicitDefEqProofs [g,gR,ra,rl,e14,el,ei,vl,vi]
     refine onC_mk _ (RI) ?_
     simp -implicitDefEqProofs
    ·by_cases c1:a.si≤v.now
     ·have c1': ¬v.now<a.si:=by omega
      by_cases c2:a.cl≤v.now
      ·have c2': ¬v.now<a.cl:=by omega
       by_cases c3:a.e≤v.ep
       ·have c3': ¬(v.ep:Int)<a.e:=by omega
        simp only [decide_eq_true c1,decide_eq_true c2,decide_eq_true c3,Bool.true_and] at h2
        have fin:=fin h2
        simp -implicitDefEqProofs [g,gR,ra,rl,e14,el,ei,vl,vi]
        refine onC_mk _ (RI) ?_
        simp -implicitDefEqProofs [v0,v1,vl,c1',c2',c3',t1]
        refine fin _ ?_
        refine weak_mk ?_ ?_ ?_ ?_ ?_ ?_<;>simp -implicitDefEqProofs [t1,ei,vi]
       ·have c3':(v.ep:Int)<a.e:=by omega
        simp [c3] at h2
        subst h2
        simp -implicitDefEqProofs [g,gR,ra,rl,e14,el,ei,vl,vi]
        refine onC_mk _ (RI) ?_
        simp -implicitDefEqProofs [v0,v1,vl,c1',c2',c3']
      ·have c2':v.now<a.cl:=by omega
       simp [c2] at h2
       subst h2
       simp -implicitDefEqProofs [g,gR,ra,rl,e14,el,ei,vl,vi]
       refine onC_mk _ (RI) ?_
       simp -implicitDefEqProofs [v0,v1,vl,c1',c2']
     ·have c1':v.now<a.si:=by omega
      simp [c1] at h2
      subst h2
      simp -implicitDefEqProofs [g,gR,ra,rl,e14,el,ei,vl,vi]
      refine onC_mk _ (RI) ?_
      simp -implicitDefEqProofs [v0,v1,vl,c1']
   ·obtain rfl:i=x.al.length:=by omega
    rw [List.drop_length] at h2
    simp only [List.all_nil] at h2
    subst h2
    clear hK
    simp -implicitDefEqProofs [e14,el,rl]
  ·exact ⟨Nat.zero_le _,hR.symm⟩
  ·refine weak_mk ?_ ?_ ?_ ?_ ?_ ?_<;>simp -implicitDefEqProofs [ei,vi]
 ·have hn':((x.al.length:Int)!=(x.g.ru.length:Int))=true:=by rw [bne_iff_ne];omega
  rw [decide_eq_false hn,Bool.false_and] at hR
  subst hR
  simp -implicitDefEqProofs [c43,e14,e7,el,ei,es,vl,vi,vs,rl,ul,hn']
open Go.Proofs
structure Lk (N:List AV) (now:Int) (ep:Nat):Prop where
 l:N.length=12
 i:idsL N=[]
 a: ∀h:0<N.length,N[0]=i6 now
 b: ∀h:1<N.length,N[1]=u ep
theorem alC_spec (N:List AV) (now:Int) (ep:Nat) (k:Lk N now ep) (a:Al) (d:Nat) (c b:Id) (hcb: ¬c=b) (hc:c.isIt=false) (hcd:c.isNw d=false) (hb:b.isIt=false) (hbd:b.isNw d=false):
  SpH Tryz.prog gl 149 d ⟨[.agg a.row,.ptr c 0],[(c,[.ptr b 0]),(b,N)],[(.b b 11,2)]⟩ ⟨.bool (!alOk now ep a),[(c,[.ptr b 0]),(b,N)],[(.b b 11,2)]⟩:=by
 refine h149 rfl ?_
 have hic:=inn_notNw hcd
 have hib:=inn_notNw hbd
 have hbc: ¬b=c:=fun e=>hcb e.symm
 obtain ⟨nl,ni,n0,n1⟩:=k
 have hNm: ∀f,mpL f N=N:=fun f=>mpL_noids ni
 have RI:=alright_spec a
 unfold Al.row at RI ⊢
 unfold alOk
 generalize alRight a=p at *
 simp only [inSt,mpB,mpL,AV.mp,mpP,hNm]
 cases p
 ·simp [c149]
  refine onC_mk _ (RI) ?_
  simp -implicitDefEqProofs
  refine postH_r ⟨?_,?_,?_,?_,?_,?_⟩<;>simp -implicitDefEqProofs [hic,hib,hc,hb,hcb,hbc,ni,hNm]
 ·by_cases c1:a.si≤now
  ·have c1': ¬now<a.si:=by omega
   by_cases c2:a.cl≤now
   ·have c2': ¬now<a.cl:=by omega
    by_cases c3:a.e≤ep
    ·have c3': ¬(ep:Int)<a.e:=by omega
     simp -implicitDefEqProofs [c149]
     refine onC_mk _ (RI) ?_
     simp -implicitDefEqProofs [hcb,hbc,n0,n1,nl,c1',c2',c3']
     refine postH_r ⟨?_,?_,?_,?_,?_,?_⟩<;>simp -implicitDefEqProofs [hic,hib,hc,hb,hcb,hbc,ni,hNm,c1,c2,c3]
    ·have c3':(ep:Int)<a.e:=by omega
     simp -implicitDefEqProofs [c149]
     refine onC_mk _ (RI) ?_
     simp -implicitDefEqProofs [hcb,hbc,n0,n1,nl,c1',c2',c3']
     refine postH_r ⟨?_,?_,?_,?_,?_,?_⟩<;>simp -implicitDefEqProofs [hic,hib,hc,hb,hcb,hbc,ni,hNm,c1,c2,c3]
   ·have c2':now<a.cl:=by omega
    simp -implicitDefEqProofs [c149]
    refine onC_mk _ (RI) ?_
    simp -implicitDefEqProofs [hcb,hbc,n0,n1,nl,c1',c2']
    refine postH_r ⟨?_,?_,?_,?_,?_,?_⟩<;>simp -implicitDefEqProofs [hic,hib,hc,hb,hcb,hbc,ni,hNm,c1,c2]
  ·have c1':now<a.si:=by omega
   simp -implicitDefEqProofs [c149]
   refine onC_mk _ (RI) ?_
   simp -implicitDefEqProofs [hcb,hbc,n0,n1,nl,c1']
   refine postH_r ⟨?_,?_,?_,?_,?_,?_⟩<;>simp -implicitDefEqProofs [hic,hib,hc,hb,hcb,hbc,ni,hNm,c1]
open Go.Proofs
def ixA (now:Int) (ep:Nat):List Al→Nat→Int
 |[],_=> -1
 |a::r,i=>if (!alOk now ep a)=true then (i:Int) else ixA now ep r (i+1)
theorem ixA_ge (now:Int) (ep:Nat): ∀(l:List Al) (i:Nat),decide (0≤ixA now ep l i)=!l.all (alOk now ep)
 |[],i=>rfl
 |a::r,i=>by
  rw [List.all_cons]
  by_cases h:alOk now ep a=true
  ·have e:ixA now ep (a::r) i=ixA now ep r (i+1):=if_neg (by simp [h])
   rw [e,ixA_ge now ep r (i+1),h,Bool.true_and]
  ·have e:ixA now ep (a::r) i=i:=if_pos (by simpa using h)
   have h0:alOk now ep a=false:=by simpa using h
   rw [e,h0,Bool.false_and,decide_eq_true (by omega)]
   rfl
theorem alIx_spec (N:List AV) (now:Int) (ep:Nat) (k:Lk N now ep) (l:List Al) (hl:l.length≤1000000) (d:Nat) (c b:Id) (hcb: ¬c=b) (hc:c.isIt=false) (hcd:c.isNw d=false) (hb:b.isIt=false) (hbd:b.isNw d=false):
  SpH Tryz.prog gl 202 d ⟨[.sl (l.map Al.row),.fn 149 [.ptr c 0]],[(c,[.ptr b 0]),(b,N)],[(.b b 11,2)]⟩ ⟨i6 (ixA now ep l 0),[(c,[.ptr b 0]),(b,N)],[(.b b 11,2)]⟩:=by
 refine h202 rfl ?_
 have hic:=inn_notNw hcd
 have hib:=inn_notNw hbd
 have hbc: ¬b=c:=fun e=>hcb e.symm
 have C:=fun x:Al=>alC_spec N now ep k x 16 (.up c) (.up b) (fun e=>hcb (by cases e;rfl)) hc rfl hb rfl
 obtain ⟨nl,ni,n0,n1⟩:=k
 have hNm: ∀f,mpL f N=N:=fun f=>mpL_noids ni
 have rl:(l.map Al.row).length=l.length:=by simp
 have rat:=al_atr l
 obtain ⟨R,hR⟩: ∃R,R=ixA now ep l 0:=⟨_,rfl⟩
 rw [←hR]
 generalize l.map Al.row=RR at *
 simp only [inSt,mpB,mpL,AV.mp,mpP,hNm,Pl.mp]
 simp -implicitDefEqProofs [c202,rl]
 refine wp_lpk (α:=Nat) (fun i=>⟨[(0,.sl RR),(1,.fn 149 [.ptr (.up c) 0]),(7,i6 l.length),(8,i6 i)],[(.up c,[.ptr (.up b) 0]),(.up b,N)],[(.b (.up b) 11,2)]⟩) (fun i=>i≤l.length∧ixA now ep (l.drop i) i=R) (fun i=>l.length - i) ?_ 0 ?_ ?_
 ·rintro K i hK ⟨h1,h2⟩
  by_cases g:i<l.length
  ·have t1:IntKind.i64.wrap ((i:Int)+1)=(i+1:Nat):=by rw [wrap_i64]<;>omega
   have ra:=rat i g
   have gR:i<RR.length:=by omega
   rw [List.drop_eq_getElem_cons g] at h2
   simp only [ixA] at h2
   have hrl:(l[i].row).length=4:=rfl
   have C:=C l[i]
   have fin:(!alOk now ep l[i])=false→ ∀σ',Weak σ' ⟨[(0,.sl RR),(1,.fn 149 [.ptr (.up c) 0]),(7,i6 l.length),(8,i6 (i+1:Nat))],[(.up c,[.ptr (.up b) 0]),(.up b,N)],[(.b (.up b) 11,2)]⟩→K σ':=
    fun hg σ' hσ=>hK (i+1) σ' ⟨by omega,by rw [hg] at h2;simpa using h2⟩ (by omega) hσ
   have hids:idsL l[i].row=[]:=rfl
   have hmp: ∀f,mpL f l[i].row=l[i].row:=fun f=>mpL_noids hids
   have hpos:(!alOk now ep l[i])=true→R=i:=fun hg=>by rw [if_pos hg] at h2;exact h2.symm
   clear hK hR rat h2
   generalize l[i].row=x at *
   generalize (!alOk now ep l[i])=q at *
   have e8:List.take 4 x=x:=List.take_of_length_le (by omega)
   simp -implicitDefEqProofs [g,gR,ra,hrl,e8,rl]
   refine onH_mk _ _ (C) ⟨?_,?_,?_,?_,?_,?_,?_⟩ ?_
   iterate 7 (· simp [hids,hmp,ni,hNm,hcb,hbc,hc,hb])
   cases q
   ·have fin:=fin rfl
    simp -implicitDefEqProofs [t1,hcb,hbc,hNm]
    refine fin _ ?_
    refine weak_mk ?_ ?_ ?_ ?_ ?_ ?_<;>simp -implicitDefEqProofs [t1,ni,hcb,hbc,hNm]
   ·have h2:=hpos rfl
    subst h2
    simp -implicitDefEqProofs [hcb,hbc,hNm]
    refine postH_r ⟨?_,?_,?_,?_,?_,?_⟩<;>simp -implicitDefEqProofs [hic,hib,hc,hb,hcb,hbc,ni,hNm]
  ·obtain rfl:i=l.length:=by omega
   rw [List.drop_length] at h2
   simp only [ixA] at h2
   subst h2
   clear hK
   simp -implicitDefEqProofs
   refine postH_r ⟨?_,?_,?_,?_,?_,?_⟩<;>simp -implicitDefEqProofs [hic,hib,hc,hb,hcb,hbc,ni,hNm]
 ·exact ⟨Nat.zero_le _,hR.symm⟩
 ·refine weak_mk ?_ ?_ ?_ ?_ ?_ ?_<;>simp -implicitDefEqProofs [ni,hcb,hbc,hNm]
theorem alHas_spec (N:List AV) (now:Int) (ep:Nat) (k:Lk N now ep) (l:List Al) (hl:l.length≤1000000) (d:Nat) (c b:Id) (hcb: ¬c=b) (hc:c.isIt=false) (hcd:c.isNw d=false) (hb:b.isIt=false) (hbd:b.isNw d=false):
  SpH Tryz.prog gl 148 d ⟨[.sl (l.map Al.row),.fn 149 [.ptr c 0]],[(c,[.ptr b 0]),(b,N)],[(.b b 11,2)]⟩ ⟨.bool (!l.all (alOk now ep)),[(c,[.ptr b 0]),(b,N)],[(.b b 11,2)]⟩:=by
 refine h148 rfl ?_
 have hic:=inn_notNw hcd
 have hib:=inn_notNw hbd
 have hbc: ¬b=c:=fun e=>hcb e.symm
 have Q:=alIx_spec N now ep k l hl 7 (.up c) (.up b) (fun e=>hcb (by cases e;rfl)) hc rfl hb rfl
 obtain ⟨nl,ni,n0,n1⟩:=k
 have hNm: ∀f,mpL f N=N:=fun f=>mpL_noids ni
 rw [←ixA_ge now ep l 0]
 generalize l.map Al.row=RR at *
 generalize ixA now ep l 0=R at *
 simp only [inSt,mpB,mpL,AV.mp,mpP,hNm,Pl.mp]
 simp -implicitDefEqProofs [c148]
 refine onH_mk _ _ (Q) ⟨?_,?_,?_,?_,?_,?_,?_⟩ ?_
 iterate 7 (· simp [ni,hNm,hcb,hbc,hc,hb])
 simp -implicitDefEqProofs [hcb,hbc,hNm]
 refine postH_r ⟨?_,?_,?_,?_,?_,?_⟩<;>simp -implicitDefEqProofs [hic,hib,hc,hb,hcb,hbc,ni,hNm]
open Go.Proofs
theorem alertsOf_spec (N:List AV) (now:Int) (ep:Nat) (k:Lk N now ep) (x:GV) (hl:x.al.length≤1000000) (d:Nat) (b:Id) (hb:b.isIt=false) (hbd:b.isNw d=false):
  SpH Tryz.prog gl 89 d ⟨[.ptr b 0,.agg x.row],[(b,N)],[(.b b 11,2)]⟩ ⟨.bool (alertsF now ep x),[(b,N)],[(.b b 11,2)]⟩:=by
 refine h89 rfl ?_
 have hib:=inn_notNw hbd
 have Q:=fun e (he:(Id.n 2).isNw e=false) (he2:(Id.up b).isNw e=false)=>alHas_spec N now ep k x.al hl e (.n 2) (.up b) (by simp) rfl he hb he2
 obtain ⟨nl,ni,n0,n1⟩:=k
 have hNm: ∀f,mpL f N=N:=fun f=>mpL_noids ni
 unfold alertsF
 have rl:(x.al.map Al.row).length=x.al.length:=by simp
 have ul:(x.g.ru.map Ru.row).length=x.g.ru.length:=by simp
 have e14: ∀h:14<x.row.length,x.row[14]= .sl (x.al.map Al.row):=fun _=>rfl
 have e7: ∀h:7<x.row.length,x.row[7]= .sl (x.g.ru.map Ru.row):=fun _=>rfl
 have el:x.row.length=15:=rfl
 have ei:idsL x.row=[]:=rfl
 have eM: ∀f,mpL f x.row=x.row:=fun f=>mpL_noids ei
 have es:shutL x.row=some x.row:=rfl
 generalize x.row=M at *
 generalize x.al.map Al.row=AR0 at *
 generalize x.g.ru.map Ru.row=UR at *
 generalize x.al.all (alOk now ep)=r at *
 simp only [inSt,mpB,mpL,AV.mp,mpP,hNm,Pl.mp,eM]
 by_cases hn:x.al.length=x.g.ru.length
 ·have hn':((x.al.length:Int)==(x.g.ru.length:Int))=true:=by rw [hn];simp
  rw [decide_eq_true hn,Bool.true_and]
  clear hn
  simp -implicitDefEqProofs [c89,e14,e7,el,ei,es,eM,rl,ul,hn']
  refine onH_mk _ _ (Q _ rfl rfl) ⟨?_,?_,?_,?_,?_,?_,?_⟩ ?_
  iterate 7 (· simp [ni,hNm,ei,eM])
  simp -implicitDefEqProofs [hNm,ni,ei,eM]
  refine postH_r ⟨?_,?_,?_,?_,?_,?_⟩<;>simp -implicitDefEqProofs [hib,hb,ni,hNm,ei,eM]
 ·have hn':((x.al.length:Int)==(x.g.ru.length:Int))=false:=by rw [beq_eq_false_iff_ne];omega
  rw [decide_eq_false hn,Bool.false_and]
  clear hn
  simp -implicitDefEqProofs [c89,e14,e7,el,ei,es,eM,rl,ul,hn']
  refine postH_r ⟨?_,?_,?_,?_,?_,?_⟩<;>simp -implicitDefEqProofs [hib,hb,ni,hNm,ei,eM]
open Go.Proofs
theorem rfind27_spec (l:List Si) (n:List UInt8) (hl:l.length≤1000000):Sp Tryz.prog gl 50 [.sl (l.map Si.row),.str n] (i6 (ixN n (l.map Si.n) 0)):=by
 refine s50 rfl rfl ?_
 have rl:(l.map Si.row).length=l.length:=by simp
 have rat: ∀i (h:i<l.length),∀h2,(l.map Si.row)[i]'h2=[.str l[i].n,.str l[i].g,i6 l[i].wh,i6 l[i].fr,i6 l[i].tl]:=fun i h h2=>by simp [Si.row]
 obtain ⟨R,hR⟩: ∃R,R=ixN n (l.map Si.n) 0:=⟨_,rfl⟩
 rw [←hR]
 generalize l.map Si.row=RR at *
 simp -implicitDefEqProofs [c50]
 refine wp_lpk (α:=Nat) (fun i=>⟨[(0,.sl RR),(1,.str n),(5,i6 i)],[],[]⟩)
  (fun i=>i≤l.length∧ixN n ((l.drop i).map Si.n) i=R) (fun i=>l.length - i) ?_ 0 ?_ ?_
 ·rintro K i hK ⟨h1,h2⟩
  by_cases g:i<l.length
  ·have t1:IntKind.i64.wrap ((i:Int)+1)=(i+1:Nat):=by rw [wrap_i64]<;>omega
   have gR:i<RR.length:=by omega
   have ra:=rat i g gR
   rw [List.drop_eq_getElem_cons g,List.map_cons] at h2
   simp only [ixN] at h2
   have fin:(l[i].n==n)=false→ ∀σ',Weak σ' ⟨[(0,.sl RR),(1,.str n),(5,i6 (i+1:Nat))],[],[]⟩→K σ':=
    fun hg σ' hσ=>hK (i+1) σ' ⟨by omega,by rw [hg] at h2;simpa using h2⟩ (by omega) hσ
   have hpos:(l[i].n==n)=true→R=i:=fun hg=>by rw [if_pos hg] at h2;exact h2.symm
   clear hK hR rat h2
   generalize hx:l[i]=x at *
   obtain ⟨q,hq⟩: ∃q,q=(x.n==n):=⟨_,rfl⟩
   rw [←hq] at fin hpos
   simp -implicitDefEqProofs [g,gR,ra,rl]
   rw [←hq]
   cases q
   ·have fin:=fin rfl
    simp -implicitDefEqProofs [t1]
    refine fin _ ?_
    refine weak_mk ?_ ?_ ?_ ?_ ?_ ?_<;>simp -implicitDefEqProofs [t1]
   ·have h2:=hpos rfl
    subst h2
    simp -implicitDefEqProofs
  ·obtain rfl:i=l.length:=by omega
   rw [List.drop_length] at h2
   simp only [List.map_nil,ixN] at h2
   subst h2
   clear hK
   simp -implicitDefEqProofs [rl]
 ·exact ⟨Nat.zero_le _,hR.symm⟩
 ·refine weak_mk ?_ ?_ ?_ ?_ ?_ ?_<;>simp -implicitDefEqProofs
end Go.Ai
