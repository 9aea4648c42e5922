/- P15: a part of the proof: the rules, or what functions compute. Conditions: as each theorem says. -/
import Derived.Test.YtidcomakahbepaaGreatDoorP14
import Derived.Test.YtidcomakahbepaaGreatDoorP11
set_option linter.unusedSimpArgs false
set_option linter.unusedVariables false
set_option maxRecDepth 20000
namespace Go.Ai
open Go.Proofs
theorem rwin_tail (all:List Int) (hl:all.length≤100) (W:List Int) (hW:Rising W) (hWm: ∀z,z∈W↔z∈all) (e:List (Nat×AV)) (pm:List (Pl×Nat)) (l3:lk e 3= .sl (intRows all)) (bx:List (Id×List AV)):
  wpA (SpH Tryz.prog gl) (AC.tl 4 c16) (postA [.t 2] (.sl (intRows W))) ⟨e,bx,pm⟩:=by
 have hlim:lim=140737488355328:=rfl
 have aat:=intRows_at all
 have al:=intRows_len all
 simp only [c16,AC.tl]
 simp -implicitDefEqProofs [l3]
 refine wp_lpk (α:=List Int) (fun out=>⟨[(3,.sl (intRows all)),(5,.sl (intRows out))],[],[(.s 5,1)]⟩) (fun out=>OInv all out∧out.length+all.countP (candB out.getLast?)≤all.length) (fun out=>all.countP (candB out.getLast?)) ?_ [] ?_ ?_
 ·rintro K out hK ⟨ho,hc⟩
  have ol:=intRows_len out
  have oat:=intRows_at out
  have oone:=intRows_one out
  have fin: ∀(n:Nat) (m:Int),all[n]?=some m→candP out.getLast? m→(∀(k:Nat) z,all[k]?=some z→candP out.getLast? z→m≤z)→ ∀σ',Weak σ' ⟨[(3,.sl (intRows all)),(5,.sl (intRows (out++[m])))],[],[(.s 5,1)]⟩→K σ':=
   fun n m hn hcm hmin σ' hσ=>hK (out++[m]) σ' ⟨ho.next hn hcm hmin,by
    have:=next_lt hn hcm
    rw [List.length_append,List.length_singleton];omega⟩ (next_lt hn hcm) hσ
  have done:(∀(k:Nat) z,all[k]?=some z→ ¬candP out.getLast? z)→out=W:=fun hno=>rising_ext ho.r hW (fun z=>(ho.done hno z).trans (hWm z).symm)
  clear hK ho
  have hol:out.length≤100:=by omega
  simp -implicitDefEqProofs
  refine wp_lpk (α:=Nat×Int) (fun x=>⟨[(3,.sl (intRows all)),(5,.sl (intRows out)),(6,i6 x.2),(7,i6 x.1)],[],[(.s 5,1)]⟩) (fun x=>x.1≤all.length∧BInv all out.getLast? x.1 x.2) (fun x=>all.length - x.1) ?_ (0,-1) ?_ ?_
  ·rintro K2 ⟨j,b⟩ hK2 ⟨h1,h2⟩
   simp only at h1 h2
   by_cases g:j<all.length
   ·have t1:IntKind.i64.wrap ((j:Int)+1)=(j+1:Nat):=by rw [wrap_i64]<;>omega
    have gR:j<(intRows all).length:=by omega
    have ra:=aat j g
    have hz:all[j]?=some all[j]:=List.getElem?_eq_getElem g
    have fs:(∀z,all[j]?=some z→candP out.getLast? z→ ∃n:Nat,b=n∧ ∃m,all[n]?=some m∧m≤z)→ ∀σ',Weak σ' ⟨[(3,.sl (intRows all)),(5,.sl (intRows out)),(6,i6 b),(7,i6 (j+1:Nat))],[],[(.s 5,1)]⟩→K2 σ':=
     fun hj σ' hσ=>hK2 (j+1,b) σ' ⟨by simp only;omega,h2.skip hj⟩ (by simp only;omega) hσ
    have ft:candP out.getLast? all[j]→(b<0∨ ∃n:Nat,b=n∧ ∃m,all[n]?=some m∧all[j]<m)→ ∀σ',Weak σ' ⟨[(3,.sl (intRows all)),(5,.sl (intRows out)),(6,i6 j),(7,i6 (j+1:Nat))],[],[(.s 5,1)]⟩→K2 σ':=
     fun hcd hb σ' hσ=>hK2 (j+1,j) σ' ⟨by simp only;omega,h2.take hz hcd hb⟩ (by simp only;omega) hσ
    have hb:b= -1∨ ∃n:Nat,b=n∧ ∃h:n<all.length,True:=by
     rcases h2 with ⟨q,_⟩|⟨n,q,q2,_⟩
     ·exact .inl q
     ·exact .inr ⟨n,q,by omega,trivial⟩
    clear hK2 h2 fin done
    generalize hzj:all[j]=zj at *
    have hcases:out=[]∨ ∃pre y,out=pre++[y]:=by
     rcases List.eq_nil_or_concat out with h|⟨p,y,h⟩
     ·exact .inl h
     ·exact .inr ⟨p,y,by rw [h,List.concat_eq_append]⟩
    rcases hcases with rfl|⟨pre,y,rfl⟩
    ·have hcd:candP ([]:List Int).getLast? zj:=fun y hy=>by simp at hy
     have o0:intRows []=[]:=rfl
     rw [o0] at fs ft ⊢
     generalize intRows all=AR at *
     rcases hb with rfl|⟨n,rfl,hn,_⟩
     ·have ft:=ft hcd (.inl (by omega))
      simp -implicitDefEqProofs [g,gR,ra,al]
      refine ft _ ?_
      refine weak_mk ?_ ?_ ?_ ?_ ?_ ?_<;>simp -implicitDefEqProofs [t1]
     ·have ran:=aat n hn
      have gRn:n<AR.length:=by omega
      have hzn:all[n]?=some all[n]:=List.getElem?_eq_getElem hn
      have n0: ¬(n:Int)<0:=by omega
      by_cases hlt:zj<all[n]
      ·have ft:=ft hcd (.inr ⟨n,rfl,all[n],hzn,hlt⟩)
       simp -implicitDefEqProofs [g,gR,gRn,hn,ra,ran,al,n0,hlt]
       refine ft _ ?_
       refine weak_mk ?_ ?_ ?_ ?_ ?_ ?_<;>simp -implicitDefEqProofs [t1]
      ·have fs:=fs (fun z hz2 _=>by rw [hz] at hz2;cases hz2;exact ⟨n,rfl,all[n],hzn,by omega⟩)
       simp -implicitDefEqProofs [g,gR,gRn,hn,ra,ran,al,n0,hlt]
       refine fs _ ?_
       refine weak_mk ?_ ?_ ?_ ?_ ?_ ?_<;>simp -implicitDefEqProofs [t1]
    ·have el:(pre++[y]).getLast?=some y:=by simp
     have ll:(pre++[y]).length=pre.length+1:=by simp
     have oy: ∀h,(intRows (pre++[y]))[pre.length]'h=[i6 y]:=fun h=>by rw [oat pre.length (by simp) h];simp
     rw [el] at fs ft
     rw [ll] at ol
     have t2:IntKind.i64.wrap (((pre.length+1:Nat):Int) - 1)=pre.length:=by rw [wrap_i64]<;>omega
     have gO:pre.length<(intRows (pre++[y])).length:=by omega
     have nz: ¬((pre.length+1:Nat):Int)=0:=by omega
     have nz2:(((pre.length+1:Nat):Int)==0)=false:=by simpa using nz
     clear oat
     obtain ⟨N,hN⟩: ∃N,N=pre.length+1:=⟨_,rfl⟩
     rw [←hN] at ol t2 nz2
     generalize intRows (pre++[y])=OR at *
     clear ll nz el hc hol
     generalize pre.length=p at *
     have gO':p<N:=by omega
     generalize intRows all=AR at *
     by_cases hyz:y<zj
     ·have hcd:candP (some y) zj:=fun y' hy=>by cases hy;exact hyz
      rcases hb with rfl|⟨n,rfl,hn,_⟩
      ·have ft:=ft hcd (.inl (by omega))
       simp -implicitDefEqProofs [g,gR,ra,al,ol,nz2,t2,gO,gO',oy,hyz]
       refine ft _ ?_
       refine weak_mk ?_ ?_ ?_ ?_ ?_ ?_<;>simp -implicitDefEqProofs [t1]
      ·have ran:=aat n hn
       have gRn:n<AR.length:=by omega
       have hzn:all[n]?=some all[n]:=List.getElem?_eq_getElem hn
       have n0: ¬(n:Int)<0:=by omega
       by_cases hlt:zj<all[n]
       ·have ft:=ft hcd (.inr ⟨n,rfl,all[n],hzn,hlt⟩)
        simp -implicitDefEqProofs [g,gR,gRn,hn,ra,ran,al,n0,hlt,ol,nz2,t2,gO,gO',oy,hyz]
        refine ft _ ?_
        refine weak_mk ?_ ?_ ?_ ?_ ?_ ?_<;>simp -implicitDefEqProofs [t1]
       ·have fs:=fs (fun z hz2 _=>by rw [hz] at hz2;cases hz2;exact ⟨n,rfl,all[n],hzn,by omega⟩)
        simp -implicitDefEqProofs [g,gR,gRn,hn,ra,ran,al,n0,hlt,ol,nz2,t2,gO,gO',oy,hyz]
        refine fs _ ?_
        refine weak_mk ?_ ?_ ?_ ?_ ?_ ?_<;>simp -implicitDefEqProofs [t1]
     ·have fs:=fs (fun z hz2 hcz=>by rw [hz] at hz2;cases hz2;exact absurd (hcz y rfl) hyz)
      simp -implicitDefEqProofs [g,gR,ra,al,ol,nz2,t2,gO,gO',oy,hyz]
      refine fs _ ?_
      refine weak_mk ?_ ?_ ?_ ?_ ?_ ?_<;>simp -implicitDefEqProofs [t1]
   ·obtain rfl:j=all.length:=by omega
    clear hK2
    rcases h2 with ⟨rfl,hno⟩|⟨n,rfl,hn,m,hm,hcm,hmin⟩
    ·have e:=done (fun k z hz=>hno k (List.getElem?_eq_some_iff.1 hz).1 z hz)
     subst e
     clear fin done
     generalize intRows all=AR at *
     simp -implicitDefEqProofs [al]
    ·have fin:=fin n m hm hcm (fun k z hz hcz=>hmin k (List.getElem?_eq_some_iff.1 hz).1 z hz hcz)
     rw [intRows_snoc] at fin
     have ran: ∀h2,(intRows all)[n]'h2=[i6 m]:=fun h2=>by rw [aat n hn h2];rw [List.getElem?_eq_getElem hn] at hm;rw [Option.some.inj hm]
     have n0: ¬(n:Int)<0:=by omega
     have gRn:n<(intRows all).length:=by omega
     have q1:(out.length+1)*8≤140737488355328:=by omega
     clear done hmin
     generalize intRows out=OR at *
     generalize intRows all=AR at *
     simp -implicitDefEqProofs [al,n0,gRn,hn,ran,ol,hlim,q1]
     refine ⟨oone,fin _ ?_⟩
     refine weak_mk ?_ ?_ ?_ ?_ ?_ ?_<;>simp -implicitDefEqProofs
  ·exact ⟨Nat.zero_le _,.inl ⟨rfl,fun k hk=>by simp only at hk;omega⟩⟩
  ·refine weak_mk ?_ ?_ ?_ ?_ ?_ ?_<;>simp -implicitDefEqProofs
 ·refine ⟨⟨by simp [Rising],by simp,fun z hz ⟨y,hy,_⟩=>by simp at hy⟩,?_⟩
  simp only [List.length_nil,Nat.zero_add]
  exact List.countP_le_length
 ·refine weak_mk ?_ ?_ ?_ ?_ ?_ ?_<;>simp -implicitDefEqProofs [l3,intRows]
open Go.Proofs
theorem rwin_spec (x:Gl) (hl:x.ru.length≤10):Sp Tryz.prog gl 16 [.agg x.row] (.sl (intRows (winP x))):=by
 refine s16 rfl rfl ?_
 have hlim:lim=140737488355328:=rfl
 have ec:c16=AC.cutAt 4 (AC.tl 4 c16) c16:=rfl
 rw [ec]
 have T:=rwin_tail (allW x) (by have:=allW_len x;omega) (winP x) (winP_rising x) (winP_mem x)
 generalize AC.tl 4 c16=TT at T ⊢
 have hw:allW x=ruW x.ru++(if x.o=0 then [] else [x.o]):=rfl
 have hx:x.row=[.str x.n,.int .u32 x.t,i6 x.g,i6 x.a,i6 x.o,i6 x.c,.sl (x.lb.map Lb.row),.sl (x.ru.map Ru.row)]:=rfl
 have rat: ∀i (h:i<x.ru.length),∀h2,(x.ru.map Ru.row)[i]'h2=[.str x.ru[i].n,.bool x.ru[i].p,i6 x.ru[i].l,i6 x.ru[i].s,u x.ru[i].f,i6 x.ru[i].w,i6 x.ru[i].k]:=fun i h h2=>by simp [Ru.row]
 have rl:(x.ru.map Ru.row).length=x.ru.length:=by simp
 rw [hx]
 clear hx ec
 generalize winP x=W at *
 generalize allW x=AL at *
 generalize x.lb.map Lb.row=LB at *
 generalize x.ru.map Ru.row=RU at *
 generalize x.ru=ru at *
 simp only [c16,AC.cutAt]
 simp -implicitDefEqProofs
 refine wp_lpk (α:=Nat×List Int) (fun z=>⟨[(1,.ptr (.n 1) 0),(3,.sl (intRows z.2)),(4,i6 z.1)],[(.n 1,[.str x.n,.int .u32 x.t,i6 x.g,i6 x.a,i6 x.o,i6 x.c,.sl LB,.sl RU])],[(.s 3,1)]⟩) (fun z=>z.1≤ru.length∧z.2=ruW (ru.take z.1)) (fun z=>ru.length - z.1) ?_ (0,[]) ?_ ?_
 ·rintro K ⟨i,acc⟩ hK ⟨h1,h2⟩
  simp only at h1 h2
  have al:acc.length≤2*i:=by
   rw [h2,ruW_len,List.length_take];omega
  have acl:=intRows_len acc
  have aone:=intRows_one acc
  by_cases g:i<ru.length
  ·have t1:IntKind.i64.wrap ((i:Int)+1)=(i+1:Nat):=by rw [wrap_i64]<;>omega
   have ra:=rat i g
   have gR:i<RU.length:=by omega
   have es:ruW (ru.take (i+1))=acc++[ru[i].l]++[ru[i].s]:=by
    rw [List.take_succ_eq_append_getElem g,h2]
    simp only [ruW,List.flatMap_append,List.flatMap_cons,List.flatMap_nil,List.append_nil,List.append_assoc]
    rfl
   have fin: ∀σ',Weak σ' ⟨[(1,.ptr (.n 1) 0),(3,.sl (intRows (acc++[ru[i].l]++[ru[i].s]))),(4,i6 (i+1:Nat))],[(.n 1,[.str x.n,.int .u32 x.t,i6 x.g,i6 x.a,i6 x.o,i6 x.c,.sl LB,.sl RU])],[(.s 3,1)]⟩→K σ':=
    fun σ' hσ=>hK (i+1,acc++[ru[i].l]++[ru[i].s]) σ' ⟨by simp only;omega,es.symm⟩ (by simp only;omega) hσ
   rw [intRows_snoc,intRows_snoc] at fin
   clear hK T rat h2 es
   have q1:(acc.length+1)*8≤140737488355328:=by omega
   have q2:(acc.length+1+1)*8≤140737488355328:=by omega
   have aone2: ∀r,r∈intRows acc∨r=[i6 ru[i].l]→r.length=1:=by
    rintro r (h|rfl)
    ·exact aone r h
    ·rfl
   generalize intRows acc=A at *
   simp -implicitDefEqProofs [g,gR,ra,rl,hlim,acl,q1,q2]
   refine ⟨aone,aone2,fin _ ?_⟩
   refine weak_mk ?_ ?_ ?_ ?_ ?_ ?_<;>simp -implicitDefEqProofs [t1]
  ·obtain rfl:i=ru.length:=by omega
   rw [List.take_length] at h2
   subst h2
   clear hK rat
   have q1:((ruW ru).length+1)*8≤140737488355328:=by omega
   by_cases h0:x.o=0
   ·rw [if_pos h0,List.append_nil] at hw
    subst hw
    rw [h0]
    generalize intRows (ruW ru)=A at *
    simp -implicitDefEqProofs [rl]
    refine T _ _ ?_ _
    simp -implicitDefEqProofs
   ·rw [if_neg h0] at hw
    subst hw
    rw [intRows_snoc] at T
    have hne:(x.o !=0)=true:=by simpa using h0
    generalize intRows (ruW ru)=A at *
    simp -implicitDefEqProofs [rl,hne,hlim,acl,q1]
    refine ⟨aone,T _ _ ?_ _⟩
    simp -implicitDefEqProofs
 ·exact ⟨Nat.zero_le _,by simp [ruW]⟩
 ·refine weak_mk ?_ ?_ ?_ ?_ ?_ ?_<;>simp -implicitDefEqProofs [intRows]
open Go.Proofs
theorem roomB_all {c:Int} {n:Nat} {K w:Nat→Nat} {t:Nat} {L:List Ev} {a ct:Nat} (h:roomB c n K w t L a ct=true):(∀i,i<n→okW K w t L a ct i=true)∧okP c t L a ct=true:=by
 unfold roomB at h
 rw [Bool.and_eq_true,List.all_eq_true] at h
 exact ⟨fun i hi=>h.1 i (List.mem_range.2 hi),h.2⟩
theorem madd_spec (M A:Id) (R B:Nat→Id) (h:Nms M A R B) (x:Gl) (hx:0≤x.a∧x.a≤86400) (n:Nat) (hn:n≤1000000) (W:List (List AV)) (K w:Nat→Nat) (hk:KwOk n K w) (t:Nat) (L:List Ev) (hL:LOk n K w t L)
  (hP:pcT x.c t L≤9223372036854775807) (ht:t≤253402300799) (a cg ct:Nat) (hct:ct<18446744073709551616) (hE:addE x.a t a cg ct=0) (hs:roomB x.c n K w t L a ct=true) (d:Nat) (hd:M.isNw d=false):
  SpH Tryz.prog gl 23 d ⟨[.ptr M 0,i6 a,.agg [u cg,u ct]],mtB M A R B x n W K w t L false,[]⟩ ⟨i6 0,mtB M A R B x n W K w t (L++[(a,cg,ct)]) false,[]⟩:=by
 refine h23 rfl ?_
 obtain ⟨sd,hsd⟩: ∃sd,sd=false:=⟨_,rfl⟩
 rw [←hsd]
 have hu:=h.up
 have hi:=inn_notNw hd
 have hdA:A.isNw d=false:=by rw [←h.na];exact hd
 have hiA:=inn_notNw hdA
 have mi:=h.mi
 have ai:=h.ai
 have ma:=h.ma
 have ma':A≠M:=fun e=>h.ma e.symm
 have mr:=h.mr
 have mb:=h.mb
 have ar:=h.ar
 have ab:=h.ab
 have mr': ∀i,¬R i=M:=fun i e=>h.mr i e.symm
 have mb': ∀i,¬B i=M:=fun i e=>h.mb i e.symm
 have ar': ∀i,¬R i=A:=fun i e=>h.ar i e.symm
 have ab': ∀i,¬B i=A:=fun i e=>h.ab i e.symm
 have hpa:=fun i (hi:i<n)=>ptrC_at (R:=fun i=>Id.up (R i)) hi
 have hpl:=ptrC_len (fun i=>Id.up (R i)) n
 have hpu:=ptrC_up (R:=R) (n:=n)
 have hpo: ∀ob,∀i∈idsL (ptrC R n),idOk d ob i:=fun ob=>ptrC_outi h hd
 have hpi:=ptrC_inn h (n:=n) hd
 have hfree:=fun C D s=>rgs_free (R:=R) (B:=B) (C:=C) (D:=D) (n:=n) (s:=s)
 have hnn:=fun C D s=>rgsB_none (R:=fun i=>Id.up (R i)) (B:=fun i=>Id.up (B i)) (C:=C) (D:=D) (x:= .n s) (fun i e=>by cases e) (fun i e=>by cases e) n
 have hin:=mtB_up M A R B x n W K w t L sd
 subst hsd
 unfold addE at hE
 by_cases g1:ct<cg
 ·rw [if_pos g1] at hE;cases hE
 rw [if_neg g1] at hE
 by_cases g: ¬(0≤(a:Int)∧(a:Int)≤253402300799)
 ·rw [if_pos g] at hE;cases hE
 rw [if_neg g] at hE
 by_cases g2:(t:Int)<a
 ·rw [if_pos g2] at hE;cases hE
 rw [if_neg g2] at hE
 by_cases g3:(a:Int)<t - x.a
 ·rw [if_pos g3] at hE;cases hE
 clear hE
 have g1': ¬(ct:Int)<cg:=by omega
 have g2': ¬t<a:=by omega
 have TK:=mtick_spec a
 have tk:(decide ((0:Int)≤a)&&decide ((a:Int)≤253402300799))=true:=by simp;omega
 rw [tk] at TK
 have w1:IntKind.i64.wrap ((t:Int) - x.a)=(t:Int) - x.a:=wr (by omega) (by omega)
 have RM:=fun e he=>mroom_spec (.up M) (.up A) _ _ hu x n hn W K w hk t L hL false ht a cg ct (by omega) hct e he
 rw [hs] at RM
 obtain ⟨hok,hop⟩:=roomB_all hs
 have MC:=fun cg ct e he=>mcal_spec (.up M) (.up A) h.pa.up x n W (pF x.c t) (pT x.c t) cg ct t false e he
 have RA: ∀i,i<n→ ∀e,(Id.up (R i)).isNw e=false→SpH Tryz.prog gl 67 e ⟨[.ptr (.up (R i)) 0,i6 a,.agg [u cg,u ct]],[(.up (R i),ringC (.up (B i)) (K i) (w i) t L),(.up (B i),bkC (K i) (w i) (t / w i) L)],[]⟩
   ⟨i6 (addC (K i) (w i) t L a ct),[(.up (R i),ringC (.up (B i)) (K i) (w i) t (L++[(a,cg,ct)])),(.up (B i),bkC (K i) (w i) (t / w i) (L++[(a,cg,ct)]))],[]⟩:=by
  intro i hi e he
  have S:=radd_spec (.up (R i)) (.up (B i)) (h.pr i).up (K i) (w i) t L (hk.k1 i hi) (hk.k2 i hi) (hk.w1 i hi) ht hL.ok (hL.sm i hi) a cg ct (by omega) (by omega) hct e he
  obtain ⟨e1,e2⟩:=add_ok (cg:=cg) (hok i hi) (.up (B i))
  rw [e1,e2] at S
  exact S
 have hGT:=pc_GT (c:=x.c) (t:=t) hL.ok
 have hpz:=pc_zero (t:=t) (L:=L++[(a,cg,ct)])
 have hpz0:=pc_zero (t:=t) (L:=L)
 have hpa2:=fun e=>pc_add (c:=x.c) (t:=t) (L:=L) (a:=a) (cg:=cg) (ct:=ct) e
 have hout:=fun σ=>rgs_out h (C:=rgC K w t (L++[(a,cg,ct)])) (D:=rgD K w t (L++[(a,cg,ct)])) (n:=n) (d:=d) (σ:=σ) hd (fun f i b=>rgC_mp f K w t _ i b) (fun f i=>rgD_mp f K w t _ i)
 have houi:=fun ob=>rgs_outi h (C:=rgC K w t (L++[(a,cg,ct)])) (D:=rgD K w t (L++[(a,cg,ct)])) (n:=n) (d:=d) (ob:=ob) hd (rgC_ids K w t _) (rgD_ids K w t _)
 have hups:=fun k=>rgs_up (R:=R) (B:=B) (n:=n) (C:=upto k (rgC K w t (L++[(a,cg,ct)])) (rgC K w t L)) (D:=upto k (rgD K w t (L++[(a,cg,ct)])) (rgD K w t L)) (upto_ids (rgC_ids K w t L) (rgC_ids K w t _)) (upto_ids0 (rgD_ids K w t L) (rgD_ids K w t _))
 have hlk: ∀i,i<n→lkB (rgsB (fun i=> .up (R i)) (fun i=> .up (B i)) (rgC K w t L) (rgD K w t L) n) (.up (R i))=some (rgC K w t L i (.up (B i)))∧lkB (rgsB (fun i=> .up (R i)) (fun i=> .up (B i)) (rgC K w t L) (rgD K w t L) n) (.up (B i))=some (rgD K w t L i):=
  fun i hi=>⟨rgsB_R hu n hi,rgsB_B hu n hi⟩
 have hlk2: ∀i,i<n→lkB (rgsB (fun i=> .up (R i)) (fun i=> .up (B i)) (rgC K w t (L++[(a,cg,ct)])) (rgD K w t (L++[(a,cg,ct)])) n) (.up (R i))=some (rgC K w t (L++[(a,cg,ct)]) i (.up (B i)))∧lkB (rgsB (fun i=> .up (R i)) (fun i=> .up (B i)) (rgC K w t (L++[(a,cg,ct)])) (rgD K w t (L++[(a,cg,ct)])) n) (.up (B i))=some (rgD K w t (L++[(a,cg,ct)]) i):=
  fun i hi=>⟨rgsB_R hu n hi,rgsB_B hu n hi⟩
 clear hs g tk
 generalize (L++[(a,cg,ct)])=L2 at *
 simp only [inSt,mpL,mpP,AV.mp,hin]
 clear hin
 simp only [mtB,mtC] at RM MC ⊢
 simp -implicitDefEqProofs [c23,hnn,g1,g1']
 refine onC_mk _ TK ?_
 simp -implicitDefEqProofs [g2,g2',w1,g3]
 refine onH_pre (pre:=[(.n 5,[u cg,u ct])]) (RM _ rfl) rfl ?_ (mt_uniq hu _ _ _ _ n) (mt_keys _ _ _ _ _ _ _ _ n) ?_ ?_ ?_ ?_
 ·intro p hp
  simp only [List.mem_singleton] at hp
  subst hp;exact mt_none
 ·intro p hp
  rcases List.mem_cons.1 hp with rfl|hp
  ·rfl
  ·exact mt_free p hp
 ·simp
 ·simp
 generalize ptrC (fun i=>Id.up (R i)) n=PC at *
 clear RM TK
 simp -implicitDefEqProofs [ma,ma']
 refine wp_lpk (α:=Nat) (fun k=>⟨[(0,.ptr (.up M) 0),(1,i6 a),(5,.ptr (.n 5) 0),(60,.ms (.up A) 0 n 1),(61,i6 n),(62,i6 k)],(.n 5,[u cg,u ct])::(.up M,[.str x.n,.int .u32 x.t,i6 x.g,i6 x.a,i6 x.o,i6 x.c,.sl (x.lb.map Lb.row),.sl (x.ru.map Ru.row),.sl W,.ms (.up A) 0 n 1,i6 (pF x.c t),i6 (pT x.c t),u (pcG x.c t L),u (pcT x.c t L),i6 t,.bool false])::(.up A,PC)::rgsB (fun i=> .up (R i)) (fun i=> .up (B i)) (upto k (rgC K w t L2) (rgC K w t L)) (upto k (rgD K w t L2) (rgD K w t L)) n,[]⟩) (fun k=>k≤n) (fun k=>n - k) ?_ 0 ?_ ?_
 ·intro K' k hK' k1
  by_cases g:k<n
  ·have g':(k:Int)<n:=by omega
   have w1:IntKind.i64.wrap ((k:Int)+1)=(k+1:Nat):=by rw [wr]<;>omega
   have lR:lkB (rgsB (fun i=> .up (R i)) (fun i=> .up (B i)) (upto k (rgC K w t L2) (rgC K w t L)) (upto k (rgD K w t L2) (rgD K w t L)) n) (.up (R k))=some (ringC (.up (B k)) (K k) (w k) t L):=by
    rw [rgsB_R hu n g,upto_ge (Nat.le_refl k)];rfl
   have lB:lkB (rgsB (fun i=> .up (R i)) (fun i=> .up (B i)) (upto k (rgC K w t L2) (rgC K w t L)) (upto k (rgD K w t L2) (rgD K w t L)) n) (.up (B k))=some (bkC (K k) (w k) (t / w k) L):=by
    rw [rgsB_B hu n g,upto_ge (Nat.le_refl k)];rfl
   have fr:=hfree (upto k (rgC K w t L2) (rgC K w t L)) (upto k (rgD K w t L2) (rgD K w t L))
   have RAk:=RA k g
   have e0:PC[k]?=some (.ptr (.up (R k)) 0):=hpa k g
   have kl:k<PC.length:=by omega
   have e1:PC[k]'kl= .ptr (.up (R k)) 0:=by rw [List.getElem?_eq_getElem kl] at e0;exact Option.some.inj e0
   have hup:=hups (k+1)
   have st:=fun bx=>rgs_step hu (C:=rgC K w t L) (C':=rgC K w t L2) (D:=rgD K w t L) (D':=rgD K w t L2) g (bx:=bx)
   have lo: ∀i,i<n→lkB (rgsB (fun i=> .up (R i)) (fun i=> .up (B i)) (upto k (rgC K w t L2) (rgC K w t L)) (upto k (rgD K w t L2) (rgD K w t L)) n) (.up (R i))=some (upto k (rgC K w t L2) (rgC K w t L) i (.up (B i)))∧
    lkB (rgsB (fun i=> .up (R i)) (fun i=> .up (B i)) (upto k (rgC K w t L2) (rgC K w t L)) (upto k (rgD K w t L2) (rgD K w t L)) n) (.up (B i))=some (upto k (rgD K w t L2) (rgD K w t L) i):=fun i hi=>⟨rgsB_R hu n hi,rgsB_B hu n hi⟩
   have fin:=fun σ' hσ=>hK' (k+1) σ' (by omega) (by omega) hσ
   have rb: ¬R k=B k:=h.rb k k
   have rb': ¬B k=R k:=fun e=>h.rb k k e.symm
   have rb2: ∀i j,¬R i=B j:=fun i j=>h.rb i j
   have rb3: ∀i j,¬B i=R j:=fun i j e=>h.rb j i e.symm
   clear hK' RA hpa hfree hups hout houi hpo hpi MC
   generalize addC (K k) (w k) t L a ct=z at *
   simp -implicitDefEqProofs [g,g',e0,e1,kl,hpl,ma,ma',w1]
   refine onH_mk _ _ (RAk _ rfl) ⟨?_,?_,?_,?_,?_,?_,?_⟩ ?_
   iterate 6 (· simp [lR,lB,mr,mb,ar,ab,mr',mb',ar',ab',rb,rb'])
   ·simp;exact fr _
   simp -implicitDefEqProofs [mr,mb,ar,ab,mr',mb',ar',ab',rb,rb',w1]
   refine fin _ (weak_mk ?_ ?_ ?_ ?_ ?_ ?_)
   ·simp [w1]
   ·intro p hp
    rcases List.mem_cons.1 hp with rfl|hp
    ·simp
    ·rcases List.mem_cons.1 hp with rfl|hp
     ·simp [mr',mb']
     ·rcases List.mem_cons.1 hp with rfl|hp
      ·simp [mr',mb',ar',ab',ma,ma']
      ·refine st _ ?_ ?_ (fun i hi hne=>?_) p hp
       ·simp [rgC]
       ·simp [rgD,rb]
       ·have n1: ¬R k=R i:=fun q=>hne (h.rr _ _ q).symm
        have n2: ¬B k=B i:=fun q=>hne (h.bb _ _ q).symm
        constructor
        ·simp [lkB_rmB,mr,ar,n1,n2,rb2,rb3,lo i hi]
        ·simp [lkB_rmB,mb,ab,n1,n2,rb2,rb3,lo i hi]
   ·simp
   ·simp
   ·simp
    exact ⟨fun d hd=> .inr (hpu d hd),fun a b hm d hd=> .inr (hup a b hm d hd)⟩
   ·simp
  ·obtain rfl:k=n:=by omega
   have g': ¬((k:Int)<k):=by omega
   have g2: ¬k<k:=Nat.lt_irrefl _
   have hrm:=rgsB_rm (R:=fun i=>Id.up (R i)) (B:=fun i=>Id.up (B i)) (C:=rgC K w t L2) (D:=rgD K w t L2) (x:= .up M) hu.mr hu.mb k
   have fr:=hfree (rgC K w t L2) (rgD K w t L2)
   simp only [rgsB_upto]
   have P1:=MC (pcG x.c t L) (pcT x.c t L)
   clear hK' MC RA hpa hfree hups
   by_cases c0:x.c=0
   ·have c1':(x.c !=0)=false:=by rw [c0];rfl
    rw [c1'] at P1
    simp only [c0] at P1 ⊢
    simp only [hpz,hpz0] at P1 ⊢
    simp -implicitDefEqProofs [g',g2]
    refine onH_mk _ _ (P1 _ rfl) ⟨?_,?_,?_,?_,?_,?_,?_⟩ ?_
    iterate 6 (· simp)
    ·simp;exact fr _
    simp -implicitDefEqProofs [ma,ma',hrm]
    refine postH_r ⟨?_,?_,?_,?_,?_,?_⟩
    ·simp
    ·simp
    ·intro p hp
     rcases List.mem_cons.1 hp with rfl|hp
     ·simp [hi,hiA,mi]
     ·rcases List.mem_cons.1 hp with rfl|hp
      ·simp [hi,hiA,ai,ma,ma',hpi]
      ·refine hout _ (fun i hi=>?_) p hp
       simp -implicitDefEqProofs [mr,mb,ar,ab,hlk2 i hi]
    ·intro p hp
     rcases List.mem_cons.1 hp with rfl|hp
     ·simp [ai,hdA]
     ·rcases List.mem_cons.1 hp with rfl|hp
      ·exact hpo _
      ·exact houi _ p hp
    ·simp
    ·simp
   ·have c1':(x.c !=0)=true:=by rw [bne_iff_ne];exact c0
    rw [c1'] at P1
    obtain ⟨s1,s2⟩:=hpa2 c0
    by_cases c2:pF x.c t≤a
    ·have c2':(pF x.c t:Int)≤a:=by omega
     rw [if_pos c2] at s1 s2
     have hfit:pcT x.c t L+ct≤9223372036854775807:=by
      unfold okP fitB at hop
      have c0':(x.c==0)=false:=by rw [beq_eq_false_iff_ne];exact c0
      rw [c0',decide_eq_false (show ¬a<pF x.c t by omega)] at hop
      simp only [Bool.false_or,decide_eq_true_eq] at hop
      exact hop.2
     have v1:IntKind.u64.wrap ((pcG x.c t L:Int)+cg)=(pcG x.c t L2:Nat):=by rw [wrap_u64]<;>omega
     have v2:IntKind.u64.wrap ((pcT x.c t L:Int)+ct)=(pcT x.c t L2:Nat):=by rw [wrap_u64]<;>omega
     clear s1 s2
     simp -implicitDefEqProofs [g',g2]
     refine onH_mk _ _ (P1 _ rfl) ⟨?_,?_,?_,?_,?_,?_,?_⟩ ?_
     iterate 6 (· simp)
     ·simp;exact fr _
     simp -implicitDefEqProofs [ma,ma',hrm,c2,c2']
     try simp only [v1,v2]
     try simp -implicitDefEqProofs [ma,ma',v1,v2]
     refine postH_r ⟨?_,?_,?_,?_,?_,?_⟩
     ·simp
     ·simp
     ·intro p hp
      rcases List.mem_cons.1 hp with rfl|hp
      ·simp [hi,hiA,mi,v1,v2]
      ·rcases List.mem_cons.1 hp with rfl|hp
       ·simp [hi,hiA,ai,ma,ma',hpi]
       ·refine hout _ (fun i hi=>?_) p hp
        simp -implicitDefEqProofs [mr,mb,ar,ab,hlk2 i hi]
     ·intro p hp
      rcases List.mem_cons.1 hp with rfl|hp
      ·simp [ai,hdA]
      ·rcases List.mem_cons.1 hp with rfl|hp
       ·exact hpo _
       ·exact houi _ p hp
     ·simp
     ·simp
    ·have c2': ¬(pF x.c t:Int)≤a:=by omega
     rw [if_neg c2] at s1 s2
     rw [s1,s2]
     simp only [Nat.add_zero]
     generalize pF x.c t=f at *
     simp -implicitDefEqProofs [g',g2]
     refine onH_mk _ _ (P1 _ rfl) ⟨?_,?_,?_,?_,?_,?_,?_⟩ ?_
     iterate 6 (· simp)
     ·simp;exact fr _
     simp -implicitDefEqProofs [ma,ma',hrm,c2,c2']
     refine postH_r ⟨?_,?_,?_,?_,?_,?_⟩
     ·simp
     ·simp
     ·intro p hp
      rcases List.mem_cons.1 hp with rfl|hp
      ·simp [hi,hiA,mi]
      ·rcases List.mem_cons.1 hp with rfl|hp
       ·simp [hi,hiA,ai,ma,ma',hpi]
       ·refine hout _ (fun i hi=>?_) p hp
        simp -implicitDefEqProofs [mr,mb,ar,ab,hlk2 i hi]
     ·intro p hp
      rcases List.mem_cons.1 hp with rfl|hp
      ·simp [ai,hdA]
      ·rcases List.mem_cons.1 hp with rfl|hp
       ·exact hpo _
       ·exact houi _ p hp
     ·simp
     ·simp
 ·exact Nat.zero_le _
 ·have hup:=hups 0
  refine weak_mk ?_ ?_ ?_ ?_ ?_ ?_
  ·simp
  ·intro p hp
   rcases List.mem_cons.1 hp with rfl|hp
   ·simp [lkB_app,hnn]
   ·rcases List.mem_cons.1 hp with rfl|hp
    ·simp [mr',mb',ma,ma']
    ·rcases List.mem_cons.1 hp with rfl|hp
     ·simp [mr',mb',ar',ab',ma,ma']
     ·rw [upto_zero,upto_zero] at hp
      obtain ⟨i,hi,e|e⟩:=mem_rgsB.1 hp
      ·subst e;simp -implicitDefEqProofs [mr,mb,ar,ab,lkB_app,hlk i hi]
      ·subst e;simp -implicitDefEqProofs [mr,mb,ar,ab,lkB_app,hlk i hi]
  ·simp
  ·simp
  ·simp
   exact ⟨fun d hd=> .inr (hpu d hd),fun a b hm d hd=> .inr (hup a b hm d hd)⟩
  ·simp
open Go.Proofs
theorem ringC_nil (B:Id) (K w t:Nat):ringC B K w t []=rgL B K w (t / w) t 0 0:=rfl
open Go.Proofs
end Go.Ai
namespace Go.Ai
open Go.Proofs
structure WdOk (x:Gl) (n g:Nat) (wd:Nat→Nat):Prop where
 gg:x.g=(g:Nat)
 n1:n≤1000000
 len:(winP x).length=n
 wd: ∀i,i<n→(winP x)[i]?=some ((wd i:Nat):Int)∧Wd (wd i) g
theorem WdOk.at {x:Gl} {n g:Nat} {wd:Nat→Nat} (h:WdOk x n g wd) (k:Nat) (hk:k<n):(intRows (winP x))[k]?=some [i6 ((wd k:Nat):Int)]:=by
 have:=(h.wd k hk).1
 simp only [intRows,List.getElem?_map,this,Option.map_some]
theorem WdOk.rows {x:Gl} {n g:Nat} {wd:Nat→Nat} (h:WdOk x n g wd):(intRows (winP x)).length=n∧ ∀r∈intRows (winP x),r.length=1:=⟨by rw [intRows_len];exact h.len,intRows_one _⟩
theorem WdOk.getD {x:Gl} {n g:Nat} {wd:Nat→Nat} (h:WdOk x n g wd) (k:Nat) (hk:k<n):(winP x).getD k 0=((wd k:Nat):Int):=by
 rw [List.getD_eq_getElem?_getD,(h.wd k hk).1];rfl
theorem WdOk.kw {x:Gl} {n g:Nat} {wd:Nat→Nat} (h:WdOk x n g wd):KwOk n (fun i=>wK (wd i) g) (fun i=>wW (wd i) g):=
 ⟨fun i hi=>(wK_ok (h.wd i hi).2).1,fun i hi=>(wK_ok (h.wd i hi).2).2.1,fun i hi=>(wK_ok (h.wd i hi).2).2.2.2.1⟩
end Go.Ai
