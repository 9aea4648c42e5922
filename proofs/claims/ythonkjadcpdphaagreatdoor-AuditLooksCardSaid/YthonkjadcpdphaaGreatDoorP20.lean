/- P20: a part of the proof: the rules, or what functions compute. Conditions: as each theorem says. -/
import Derived.Test.YthonkjadcpdphaaGreatDoorP19
import Derived.Test.YthonkjadcpdphaaGreatDoorP11
import Derived.Test.YthonkjadcpdphaaGreatDoorP7
import Derived.Test.YthonkjadcpdphaaGreatDoorP18
import Derived.Test.YthonkjadcpdphaaGreatDoorP16
import Derived.Test.YthonkjadcpdphaaGreatDoorP8
import Derived.Test.YthonkjadcpdphaaGreatDoorP14
set_option linter.unusedSimpArgs false
set_option linter.unusedVariables false
set_option maxRecDepth 20000
namespace Go.Ai
open Go.Proofs
structure VwFit (v:Vw):Prop where
 ng:v.gs.length≤1000
 gl: ∀g∈v.gs,g.g.Fit
 ws: ∀g∈v.gs,g.ws.length≤100000
 al: ∀g∈v.gs,g.al.length≤10000
 wp: ∀g∈v.gs,(winP g.g).length≤1000000
theorem kS_eq (s:List UInt8):kS s= .s s:=rfl
theorem kU_eq (n:Nat):kU n= .i .u64 n:=rfl
theorem eRows_at (l:List Nat) (k:Nat) (h:k<l.length): ∀h2,(eRows l)[k]'h2=[u l[k]]:=fun _=>by simp [eRows]
theorem eRows_len (l:List Nat):(eRows l).length=l.length:=by simp [eRows]
set_option maxHeartbeats 4000000 in
theorem lkgoals_spec (v:Vw) (fit:VwFit v) (fs0:List Fd) (hl0:fs0.length≤1000) (d:Nat) (b:Id) (hb:b.isIt=false) (hbd:b.isNw d=false):
  SpH Tryz.prog gl 34 d ⟨[.ptr b 0],[(b,lkN v fs0)],[(.b b 11,2)]⟩ ⟨.tup [],[(b,lkN v (goalsF v.now v.ep [] [] v.gs fs0))],[(.b b 11,2)]⟩:=by
 refine h34 rfl ?_
 have hib:=inn_notNw hbd
 obtain ⟨R,hR⟩: ∃R,R=goalsF v.now v.ep [] [] v.gs fs0:=⟨_,rfl⟩
 rw [←hR]
 have rl:(v.gs.map GV.row).length=v.gs.length:=by simp
 have rat: ∀i (h:i<v.gs.length),∀h2,(v.gs.map GV.row)[i]'h2=v.gs[i].row:=fun i h h2=>by simp
 have nl:=lkN_len v
 have ni:=lkN_ids v
 have nm:=lkN_mp v
 have n2:=lkN_2 v
 simp only [inSt,mpB,mpL,AV.mp,mpP,nm,Pl.mp]
 generalize v.gs.map GV.row=RR at *
 simp -implicitDefEqProofs [c34,nl,n2,ni,rl]
 refine wp_lpk (α:=Nat×List (List UInt8×Nat)×List (Nat×Nat)×List Fd) (fun y=>⟨[(0,.ptr (.up b) 0),(2,.mref (.it 10)),(3,.mref (.it 11)),(16,.sl RR),(17,i6 v.gs.length),(18,i6 y.1)],[(.up b,lkN v y.2.2.2),(.it 10,[.mpv (cntG kS y.2.1)]),(.it 11,[.mpv (cntG kU y.2.2.1)])],[(.b (.up b) 11,2)]⟩)
  (fun y=>y.1≤v.gs.length∧Seen y.2.1 (nmAt v.gs y.1)∧Seen y.2.2.1 (nbAt v.gs y.1)∧(nbAt v.gs y.1).length≤10000*y.1∧y.2.2.2.length≤1000+5*y.1∧goalsF v.now v.ep (nmAt v.gs y.1) (nbAt v.gs y.1) (v.gs.drop y.1) y.2.2.2=R)
  (fun y=>v.gs.length - y.1) ?_ (0,[],[],fs0) ?_ ?_
 ·rintro K ⟨i,l1,l2,fs⟩ hK ⟨h1,h2,h3,h4,h5,h6⟩
  simp only at h1 h2 h3 h4 h5 h6
  by_cases g:i<v.gs.length
  ·have hmem:=List.getElem_mem g
   have f1:=fit.ng
   have f2:=fit.gl _ hmem
   have f3:=fit.ws _ hmem
   have f4:=fit.al _ hmem
   have f5:=fit.wp _ hmem
   have t1:IntKind.i64.wrap ((i:Int)+1)=(i+1:Nat):=by rw [wrap_i64]<;>omega
   have gR:i<RR.length:=by omega
   have ra:=rat i g gR
   rw [List.drop_eq_getElem_cons g,goalsF,←nmAt_succ v.gs i g,←nbAt_succ v.gs i g] at h6
   have hnml:(nmAt v.gs i).length≤100000000:=by unfold nmAt;simp;omega
   have hnm2:=nmAt_succ v.gs i g
   have hnb2:=nbAt_succ v.gs i g
   have hel:=epsF_le v.gs[i].al
   have fin: ∀l1' l2' fs',Seen l1' (nmAt v.gs (i+1))→Seen l2' (nbAt v.gs (i+1))→fs'=goalF v.now v.ep (nmAt v.gs i) (nbAt v.gs i) v.gs[i] fs→
     ∀σ',Weak σ' ⟨[(0,.ptr (.up b) 0),(2,.mref (.it 10)),(3,.mref (.it 11)),(16,.sl RR),(17,i6 v.gs.length),(18,i6 (i+1:Nat))],[(.up b,lkN v fs'),(.it 10,[.mpv (cntG kS l1')]),(.it 11,[.mpv (cntG kU l2')])],[(.b (.up b) 11,2)]⟩→K σ':=
    fun l1' l2' fs' a1 a2 a3 σ' hσ=>hK (i+1,l1',l2',fs') σ' ⟨by simp only;omega,a1,a2,by
     simp only
     rw [hnb2,List.length_append]
     omega,by
     simp only
     have:=goalF_len v.now v.ep (nmAt v.gs i) (nbAt v.gs i) v.gs[i] fs
     rw [a3]
     omega,by simp only;rw [a3];exact h6⟩ (by simp only;omega) hσ
   have GS:=goal_spec v.gs[i].g f2
   have WS:=windowsOf_spec v.gs[i] f2.ru f3 f5
   have PS:=lkperiod_spec v
   have LS:=lkalerts_spec v
   have ES:=episodes_spec v.gs[i].al (by omega)
   have SS:=lksay_spec v
   rw [hnm2,hnb2] at fin
   have S1:=h2.bump v.gs[i].g.n
   obtain ⟨MB,jj,cc,eMB,qf,qc,qs⟩:=cnt_step kS kS_same l1 (nmAt v.gs i) h2 hnml v.gs[i].g.n
   have qc:((cc:Int)==1)=decide (v.gs[i].g.n∉nmAt v.gs i):=qc.trans (by congr)
   have fin:=fun l2' fs' a2 a3=>fin _ l2' fs' S1 a2 a3
   rw [←eMB] at fin
   clear hK hR rat h2 h6 S1 eMB hnm2 hnb2 hnml
   unfold goalF at fin
   generalize nmAt v.gs i=N1 at *
   generalize nbAt v.gs i=N2 at *
   have e0: ∀h:0<v.gs[i].row.length,v.gs[i].row[0]= .str v.gs[i].g.n:=fun _=>rfl
   have e14: ∀h:14<v.gs[i].row.length,v.gs[i].row[14]= .sl (v.gs[i].al.map Al.row):=fun _=>rfl
   have el:v.gs[i].row.length=15:=rfl
   have ei:idsL v.gs[i].row=[]:=rfl
   have es:shutL v.gs[i].row=some v.gs[i].row:=rfl
   have em: ∀f,mpL f v.gs[i].row=v.gs[i].row:=fun f=>mpL_noids ei
   have et:List.take 15 v.gs[i].row=v.gs[i].row:=rfl
   have eg:List.take 8 v.gs[i].row=v.gs[i].g.row:=rfl
   have esg:shutL v.gs[i].g.row=some v.gs[i].g.row:=rfl
   have alS:shutL [AV.sl (v.gs[i].al.map Al.row)]=some [.sl (v.gs[i].al.map Al.row)]:=rfl
   have PS:=fun fs=>PS fs v.gs[i]
   have LS:=fun fs=>LS fs v.gs[i] (by omega)
   generalize hw:windowsF v.gs[i]=bw at *
   generalize hp:periodF v.now v.gs[i]=bp at *
   generalize ha:alertsF v.now v.ep v.gs[i]=ba at *
   generalize hgp:goalP v.gs[i].g=bg at *
   generalize v.gs[i].row=X at *
   generalize v.gs[i].g.row=XG at *
   generalize v.gs[i].g.n=nme at *
   have hepl:(epsF v.gs[i].al).length≤10000:=by omega
   generalize epsF v.gs[i].al=eps at *
   generalize v.gs[i].al.map Al.row=AR at *
   rw [kS_eq] at qf
   simp only [kS_eq] at qs
   have ern:=eRows_len eps
   have era:=eRows_at eps
   generalize eRows eps=EW at *
   have q1:(fadd fs (bg&&decide (nme∉N1)) 3 nme).length≤fs.length+1:=fadd_len _ _ _ _
   generalize hF1:fadd fs (bg&&decide (nme∉N1)) 3 nme=F1 at *
   have q2:(fadd F1 bw 4 nme).length≤F1.length+1:=fadd_len _ _ _ _
   generalize hF2:fadd F1 bw 4 nme=F2 at *
   have q3:(fadd F2 bp 5 nme).length≤F2.length+1:=fadd_len _ _ _ _
   generalize hF3:fadd F2 bp 5 nme=F3 at *
   have q4:(fadd F3 ba 6 nme).length≤F3.length+1:=fadd_len _ _ _ _
   generalize hF4:fadd F3 ba 6 nme=F4 at *
   rw [←qc] at hF1
   have A1:=fun e=>SS fs (by omega) (bg&&((cc:Int)==1)) 3 nme e (.up b) hb
   have A2:=fun e=>SS F1 (by omega) bw 4 nme e (.up b) hb
   have A3:=fun e=>SS F2 (by omega) bp 5 nme e (.up b) hb
   have A4:=fun e=>SS F3 (by omega) ba 6 nme e (.up b) hb
   rw [hF1] at A1
   rw [hF2] at A2
   rw [hF3] at A3
   rw [hF4] at A4
   have B1:=fun e=>PS F2 e (.up b) hb
   have B2:=fun e=>LS F3 e (.up b) hb
   have A5:=fun bf e=>SS F4 (by omega) bf 7 nme e (.up b) hb
   clear PS LS SS
   rcases qs with ⟨u1,u2,u3⟩|⟨j,c,u1,u2,u3⟩
   all_goals
    simp -implicitDefEqProofs [g,gR,ra,nl,n2,el,ei,em,e0,et,eg,es,esg,u1,u2,u3]
    refine onC_mk _ (GS) ?_
    cases bg
    all_goals
     simp only [Bool.false_and,Bool.true_and] at A1
     simp -implicitDefEqProofs [qf]
     refine onH_mk _ _ (A1 _ rfl) ⟨?_,?_,?_,?_,?_,?_,?_⟩ ?_
     iterate 7 (· simp [ni,nm,ei,em,hb])
     simp -implicitDefEqProofs [el,et,es,ei,em,nl,ni,nm]
     refine onC_mk _ (WS) ?_
     simp -implicitDefEqProofs
     refine onH_mk _ _ (A2 _ rfl) ⟨?_,?_,?_,?_,?_,?_,?_⟩ ?_
     iterate 7 (· simp [ni,nm,ei,em,hb])
     simp -implicitDefEqProofs [el,et,es,ei,em,nl,ni,nm]
     refine onH_mk _ _ (B1 _ rfl) ⟨?_,?_,?_,?_,?_,?_,?_⟩ ?_
     iterate 7 (· simp [ni,nm,ei,em,hb])
     simp -implicitDefEqProofs [el,et,es,ei,em,nl,ni,nm]
     refine onH_mk _ _ (A3 _ rfl) ⟨?_,?_,?_,?_,?_,?_,?_⟩ ?_
     iterate 7 (· simp [ni,nm,ei,em,hb])
     simp -implicitDefEqProofs [el,et,es,ei,em,nl,ni,nm]
     refine onH_mk _ _ (B2 _ rfl) ⟨?_,?_,?_,?_,?_,?_,?_⟩ ?_
     iterate 7 (· simp [ni,nm,ei,em,hb])
     simp -implicitDefEqProofs [el,et,es,ei,em,nl,ni,nm]
     refine onH_mk _ _ (A4 _ rfl) ⟨?_,?_,?_,?_,?_,?_,?_⟩ ?_
     iterate 7 (· simp [ni,nm,ei,em,hb])
     simp -implicitDefEqProofs [el,et,es,ei,em,nl,ni,nm,e14]
     refine onC_mk _ (ES) ?_
     simp -implicitDefEqProofs [ern]
     refine wp_lpk (α:=Nat×List (Nat×Nat)×Bool) (fun z=>⟨[(0,.ptr (.up b) 0),(2,.mref (.it 10)),(3,.mref (.it 11)),(5,.ptr (.n 5) 0),(6,.str nme),(7,.bool z.2.2),(16,.sl RR),(17,i6 v.gs.length),(18,i6 i),(60,.sl EW),(61,i6 eps.length),(62,i6 z.1)],[(.up b,lkN v F4),(.n 5,X),(.it 10,[.mpv MB]),(.it 11,[.mpv (cntG kU z.2.1)])],[(.b (.up b) 11,2)]⟩)
      (fun z=>z.1≤eps.length∧Seen z.2.1 (N2++eps.take z.1)∧(z.2.2&&freshF (N2++eps.take z.1) (eps.drop z.1))=freshF N2 eps)
      (fun z=>eps.length - z.1) ?_ (0,l2,true) ?_ ?_
     ·rintro K2 ⟨k,l3,fr⟩ hK2 ⟨w1,w2,w3⟩
      simp only at w1 w2 w3
      by_cases gk:k<eps.length
      ·have kR:k<EW.length:=by omega
       have eK:=era k gk kR
       have v1:IntKind.i64.wrap ((k:Int)+1)=(k+1:Nat):=by rw [wrap_i64]<;>omega
       have tk:eps.take (k+1)=eps.take k++[eps[k]]:=List.take_succ_eq_append_getElem gk
       have S2:=w2.bump eps[k]
       rw [List.append_assoc,←tk] at S2
       obtain ⟨ML,j3,c3,eML,y1,y2,y3⟩:=cnt_step kU kU_same l3 (N2++eps.take k) w2 (by simp;omega) eps[k]
       have y2:((c3:Int)==1)=decide (eps[k]∉N2++eps.take k):=y2.trans (by congr)
       rw [List.drop_eq_getElem_cons gk,freshF,List.append_assoc,←tk,←y2] at w3
       have fin2: ∀fr',(fr'&&freshF (N2++eps.take (k+1)) (eps.drop (k+1)))=freshF N2 eps→ ∀σ',Weak σ' ⟨[(0,.ptr (.up b) 0),(2,.mref (.it 10)),(3,.mref (.it 11)),(5,.ptr (.n 5) 0),(6,.str nme),(7,.bool fr'),(16,.sl RR),(17,i6 v.gs.length),(18,i6 i),(60,.sl EW),(61,i6 eps.length),(62,i6 (k+1:Nat))],[(.up b,lkN v F4),(.n 5,X),(.it 10,[.mpv MB]),(.it 11,[.mpv ML])],[(.b (.up b) 11,2)]⟩→K2 σ':=
        fun fr' hh σ' hσ=>hK2 (k+1,bumpG l3 eps[k],fr') σ' ⟨by simp only;omega,S2,hh⟩ (by simp only;omega) (by simp only;rw [←eML];exact hσ)
       clear hK2 w2 S2 tk fin eML
       generalize freshF (N2++eps.take (k+1)) (eps.drop (k+1))=r1 at *
       generalize freshF N2 eps=r0 at *
       rw [kU_eq] at y1
       simp only [kU_eq] at y3
       generalize eps[k]=e1 at *
       rcases y3 with ⟨z1,z2,z3⟩|⟨j4,c4,z1,z2,z3⟩
       all_goals
        cases fr
        ·simp [gk,kR,eK,z1,z2,z3,nl,ni,nm]
         refine fin2 false (by simpa using w3) _ ?_
         refine weak_mk ?_ ?_ ?_ ?_ ?_ ?_<;>simp -implicitDefEqProofs [v1,nl,ni,nm,ei,em]
        ·simp [gk,kR,eK,z1,z2,z3,y1,nl,ni,nm]
         refine fin2 ((c3:Int)==1) (by simpa [Bool.and_assoc] using w3) _ ?_
         refine weak_mk ?_ ?_ ?_ ?_ ?_ ?_<;>simp -implicitDefEqProofs [v1,nl,ni,nm,ei,em]
      ·obtain rfl:k=eps.length:=by omega
       rw [List.take_length] at w2 w3
       rw [List.drop_length,freshF,Bool.and_true] at w3
       subst w3
       have fin:=fin l3 _ w2 rfl
       generalize freshF N2 eps=fr at *
       clear hK2
       have A5:=A5 fr
       generalize hF5:fadd F4 fr 7 nme=F5 at *
       simp -implicitDefEqProofs [nl,ni,nm]
       refine onH_mk _ _ (A5 _ rfl) ⟨?_,?_,?_,?_,?_,?_,?_⟩ ?_
       iterate 7 (· simp [ni,nm,ei,em,hb])
       simp -implicitDefEqProofs [nl,ni,nm,ei,em]
       refine fin _ ?_
       refine weak_mk ?_ ?_ ?_ ?_ ?_ ?_<;>simp -implicitDefEqProofs [t1,nl,ni,nm,ei,em]
     ·exact ⟨Nat.zero_le _,by simpa using h3,by simp⟩
     ·refine weak_mk ?_ ?_ ?_ ?_ ?_ ?_<;>simp -implicitDefEqProofs [nl,ni,nm,ei,em]
  ·obtain rfl:i=v.gs.length:=by omega
   rw [List.drop_length] at h6
   simp only [goalsF] at h6
   subst h6
   clear hK
   simp -implicitDefEqProofs [nl,ni,nm]
   refine postH_r ⟨?_,?_,?_,?_,?_,?_⟩<;>simp -implicitDefEqProofs [hib,hb,ni,nm]
 ·exact ⟨Nat.zero_le _,Seen.nil,Seen.nil,by simp [nbAt_zero],by simp only;omega,hR.symm⟩
 ·refine weak_mk ?_ ?_ ?_ ?_ ?_ ?_<;>simp -implicitDefEqProofs [nl,ni,nm,cntG]
open Go.Proofs
structure VwFit2 (v:Vw):Prop where
 ng:v.gs.length≤1000
 al: ∀g∈v.gs,g.al.length≤1000000∧g.g.ru.length≤1000000
 ne:v.es.length≤1000
 ek: ∀e∈v.es,e.k.g.length≤4000∧e.k.r.length≤4000
 ns:v.ss.length≤1000
 sn: ∀s∈v.ss,s.n.length≤900000∧s.g.length≤900000
set_option maxHeartbeats 4000000 in
theorem lkboxes_spec (v:Vw) (fit:VwFit2 v) (fs0:List Fd) (hl0:fs0.length≤100000) (d:Nat) (b:Id) (hb:b.isIt=false) (hbd:b.isNw d=false):
  SpH Tryz.prog gl 35 d ⟨[.ptr b 0],[(b,lkN v fs0)],[(.b b 11,2)]⟩ ⟨.tup [],[(b,lkN v (boxesF v fs0))],[(.b b 11,2)]⟩:=by
 refine h35 rfl ?_
 have hib:=inn_notNw hbd
 obtain ⟨R,hR⟩: ∃R,R=boxesF v fs0:=⟨_,rfl⟩
 rw [←hR]
 unfold boxesF at hR
 have OR:=obRight_spec v.es v.dr (fun e he=>by have:=fit.ek e he;omega)
 have rl:(v.es.map En.row).length=v.es.length:=by simp
 have rat:=en_atr v.es
 have nl:=lkN_len v
 have ni:=lkN_ids v
 have nm:=lkN_mp v
 have n0:=lkN_0 v
 have n1:=lkN_1 v
 have n8:=lkN_8 v
 have nd: ∀fs,List.take 2 (List.drop 8 (lkN v fs))=[.sl (v.es.map En.row),u v.dr]:=fun _=>rfl
 have FR:=lkfires_spec v
 have SS:=lksay_spec v
 have q1:(fadd fs0 (boxP v.es v.dr) 8 []).length≤fs0.length+1:=fadd_len _ _ _ _
 have A1:=fun e=>SS fs0 (by omega) (boxP v.es v.dr) 8 [] e (.up b) hb
 generalize fadd fs0 (boxP v.es v.dr) 8 []=F1 at *
 simp only [inSt,mpB,mpL,AV.mp,mpP,nm,Pl.mp]
 generalize v.es.map En.row=RR at *
 simp -implicitDefEqProofs [c35,nl,n8,nd,ni,rl]
 refine onC_mk _ (OR) ?_
 simp -implicitDefEqProofs
 refine onH_mk _ _ (A1 _ rfl) ⟨?_,?_,?_,?_,?_,?_,?_⟩ ?_
 iterate 7 (· simp [ni,nm,hb])
 simp -implicitDefEqProofs [nl,n8,nd,ni,nm,rl]
 refine wp_lpk (α:=Nat×List Fd) (fun y=>⟨[(0,.ptr (.up b) 0),(18,.sl RR),(19,i6 v.es.length),(20,i6 y.1)],[(.up b,lkN v y.2)],[(.b (.up b) 11,2)]⟩)
  (fun y=>y.1≤v.es.length∧y.2.length≤200000+2*y.1∧entsF v.now v.ep v.gs (v.es.drop y.1) y.2=R)
  (fun y=>v.es.length - y.1) ?_ (0,F1) ?_ ?_
 ·rintro K ⟨i,fs⟩ hK ⟨h1,h2,h3⟩
  simp only at h1 h2 h3
  by_cases g:i<v.es.length
  ·have hmem:=List.getElem_mem g
   have f1:=fit.ne
   have f2:=fit.ek _ hmem
   have t1:IntKind.i64.wrap ((i:Int)+1)=(i+1:Nat):=by rw [wrap_i64]<;>omega
   have gR:i<RR.length:=by omega
   have ra:=rat i g gR
   unfold En.row at ra
   rw [List.drop_eq_getElem_cons g,entsF] at h3
   have fin: ∀fs',fs'=entF v.now v.ep v.gs v.es[i] fs→
     ∀σ',Weak σ' ⟨[(0,.ptr (.up b) 0),(18,.sl RR),(19,i6 v.es.length),(20,i6 (i+1:Nat))],[(.up b,lkN v fs')],[(.b (.up b) 11,2)]⟩→K σ':=
    fun fs' a3 σ' hσ=>hK (i+1,fs') σ' ⟨by simp only;omega,by
     simp only
     have:=entF_len v.now v.ep v.gs v.es[i] fs
     rw [a3]
     omega,by simp only;rw [a3];exact h3⟩ (by simp only;omega) hσ
   have PK:=kprint_spec v.es[i].k f2.1 f2.2
   unfold entF at fin
   have q2:(fadd fs (decide (v.es[i].b≤v.now)&&decide (v.es[i].k.e≤v.ep)) 9 (printK v.es[i].k)).length≤fs.length+1:=fadd_len _ _ _ _
   have A2:=fun e=>SS fs (by omega) (decide (v.es[i].b≤v.now)&&decide (v.es[i].k.e≤v.ep)) 9 (printK v.es[i].k) e (.up b) hb
   generalize hF2:fadd fs (decide (v.es[i].b≤v.now)&&decide (v.es[i].k.e≤v.ep)) 9 (printK v.es[i].k)=F2 at *
   have A3:=fun e=>SS F2 (by omega) (!v.es[i].ak||firesF v.gs v.es[i].k) 10 (printK v.es[i].k) e (.up b) hb
   have B3:=fun e=>FR F2 v.es[i].k fit.ng fit.al e (.up b) hb
   have fin:=fin _ rfl
   generalize fadd F2 (!v.es[i].ak||firesF v.gs v.es[i].k) 10 (printK v.es[i].k)=F3 at *
   clear hK hR rat h3 hF2 FR SS A1 OR
   generalize firesF v.gs v.es[i].k=ff at *
   generalize printK v.es[i].k=pk at *
   unfold Ky.row at PK B3
   generalize v.es[i].k.g=kg at *
   generalize v.es[i].k.r=kr at *
   generalize v.es[i].k.p=kp at *
   generalize v.es[i].k.e=ke at *
   generalize v.es[i].k.f=kf at *
   generalize v.es[i].ak=ak at *
   by_cases c1:v.es[i].b≤v.now
   all_goals
    simp only [c1,decide_true,decide_false,Bool.true_and,Bool.false_and] at A2
    simp -implicitDefEqProofs [g,gR,ra,nl,ni,nm,n0,n1,c1]
    refine onC_mk _ (PK) ?_
    simp -implicitDefEqProofs [nl,ni,nm,n0,n1,c1]
    refine onH_mk _ _ (A2 _ rfl) ⟨?_,?_,?_,?_,?_,?_,?_⟩ ?_
    iterate 7 (· simp [ni,nm,hb])
    cases ak
    ·simp only [Bool.not_false,Bool.true_or] at A3
     simp -implicitDefEqProofs [nl,ni,nm]
     refine onH_mk _ _ (A3 _ rfl) ⟨?_,?_,?_,?_,?_,?_,?_⟩ ?_
     iterate 7 (· simp [ni,nm,hb])
     simp -implicitDefEqProofs [nl,ni,nm]
     refine fin _ ?_
     refine weak_mk ?_ ?_ ?_ ?_ ?_ ?_<;>simp -implicitDefEqProofs [t1,nl,ni,nm]
    ·simp only [Bool.not_true,Bool.false_or] at A3
     simp -implicitDefEqProofs [nl,ni,nm]
     refine onH_mk _ _ (B3 _ rfl) ⟨?_,?_,?_,?_,?_,?_,?_⟩ ?_
     iterate 7 (· simp [ni,nm,hb])
     simp -implicitDefEqProofs [nl,ni,nm]
     refine onH_mk _ _ (A3 _ rfl) ⟨?_,?_,?_,?_,?_,?_,?_⟩ ?_
     iterate 7 (· simp [ni,nm,hb])
     simp -implicitDefEqProofs [nl,ni,nm]
     refine fin _ ?_
     refine weak_mk ?_ ?_ ?_ ?_ ?_ ?_<;>simp -implicitDefEqProofs [t1,nl,ni,nm]
  ·obtain rfl:i=v.es.length:=by omega
   rw [List.drop_length] at h3
   simp only [entsF] at h3
   subst h3
   clear hK
   simp -implicitDefEqProofs [nl,ni,nm]
   refine postH_r ⟨?_,?_,?_,?_,?_,?_⟩<;>simp -implicitDefEqProofs [hib,hb,ni,nm]
 ·exact ⟨Nat.zero_le _,by simp only;omega,hR.symm⟩
 ·refine weak_mk ?_ ?_ ?_ ?_ ?_ ?_<;>simp -implicitDefEqProofs [nl,ni,nm]
open Go.Proofs
def snAt (ss:List Si) (i:Nat):List (List UInt8):=(ss.take i).map Si.n
theorem snAt_succ (ss:List Si) (i:Nat) (h:i<ss.length):snAt ss (i+1)=snAt ss i++[ss[i].n]:=by
 unfold snAt
 rw [List.take_succ_eq_append_getElem h,List.map_append]
 rfl
theorem si_atr (l:List Si) (i:Nat) (h:i<l.length): ∀h2,(l.map Si.row)[i]'h2=[.str l[i].n,.str l[i].g,i6 l[i].wh,i6 l[i].fr,i6 l[i].tl]:=fun _=>by simp [Si.row]
theorem headF_le (v:Vw):(goalsF v.now v.ep [] [] v.gs (headF v)).length≤2+5*v.gs.length:=by
 have h1:=goalsF_len v.now v.ep v.gs [] [] (headF v)
 have h2:=headF_len v
 omega
theorem boxesF_le (v:Vw) (fs:List Fd):(boxesF v fs).length≤fs.length+1+2*v.es.length:=by
 have h1:=entsF_len v.now v.ep v.gs v.es (fadd fs (boxP v.es v.dr) 8 [])
 have h2:=fadd_len fs (boxP v.es v.dr) 8 []
 unfold boxesF
 omega
theorem lookF_le (v:Vw):(lookF v).length≤3+5*v.gs.length+2*v.es.length+v.ss.length:=by
 have h1:=silsF_len v.now v.ss [] 0 (boxesF v (goalsF v.now v.ep [] [] v.gs (headF v)))
 have h2:=boxesF_le v (goalsF v.now v.ep [] [] v.gs (headF v))
 have h3:=headF_le v
 unfold lookF
 omega
set_option maxHeartbeats 4000000 in
theorem look35_spec (v:Vw) (fit:VwFit v) (fit2:VwFit2 v):Sp Tryz.prog gl 10 [.agg v.row] (.sl ((lookF v).map Fd.row)):=by
 refine s10 rfl rfl ?_
 have T1:=tick_spec v.now
 have hf:(decide ((0:Int)≤v.now)&&decide (v.now≤253402300799))=tkB v.now:=rfl
 rw [hf] at T1
 have SR:=right_spec ⟨[],v.r,v.v,v.i,v.x,v.y⟩ ⟨by simp,by simp⟩
 have hc:(Cf.row ⟨[],v.r,v.v,v.i,v.x,v.y⟩)=[.sl [],i6 v.r,i6 v.v,i6 v.i,i6 v.x,i6 v.y]:=rfl
 rw [hc] at SR
 have f1:=fit2.ng
 have f2:=fit2.ne
 have f3:=fit2.ns
 have g1:=headF_len v
 have g2:=headF_le v
 have g3:=boxesF_le v (goalsF v.now v.ep [] [] v.gs (headF v))
 have S1:=fun (e:Nat) (he:(Id.n 9).isNw e=false)=>lksay_spec v [] (by simp) (tkB v.now) 1 [] e (.n 9) rfl he
 have S2:=fun (e:Nat) (he:(Id.n 9).isNw e=false)=>lksay_spec v (fadd [] (tkB v.now) 1 []) (Nat.le_trans (fadd_len _ _ _ _) (by simp)) (rightP ⟨[],v.r,v.v,v.i,v.x,v.y⟩) 2 [] e (.n 9) rfl he
 have GO:=fun (e:Nat) (he:(Id.n 9).isNw e=false)=>lkgoals_spec v fit (headF v) (by omega) e (.n 9) rfl he
 have BO:=fun (e:Nat) (he:(Id.n 9).isNw e=false)=>lkboxes_spec v fit2 (goalsF v.now v.ep [] [] v.gs (headF v)) (by omega) e (.n 9) rfl he
 have SS:=fun fs (hl:fs.length≤1000000) ok n (e:Nat) (he:(Id.n 9).isNw e=false)=>lksay_spec v fs hl ok 11 n e (.n 9) rfl he
 have hh:fadd (fadd [] (tkB v.now) 1 []) (rightP ⟨[],v.r,v.v,v.i,v.x,v.y⟩) 2 []=headF v:=rfl
 rw [hh] at S2
 obtain ⟨R,hR⟩: ∃R,R=lookF v:=⟨_,rfl⟩
 rw [←hR]
 unfold lookF at hR
 generalize fadd [] (tkB v.now) 1 []=F1 at *
 generalize headF v=F2 at *
 generalize goalsF v.now v.ep [] [] v.gs F2=F3 at *
 generalize boxesF v F3=F4 at *
 generalize rightP ⟨[],v.r,v.v,v.i,v.x,v.y⟩=br at *
 generalize tkB v.now=bt at *
 have rl:(v.ss.map Si.row).length=v.ss.length:=by simp
 have rat:=si_atr v.ss
 unfold lkN Vw.row at *
 simp only [List.cons_append,List.nil_append,List.map_nil] at S1 S2 GO BO SS
 generalize v.ss.map Si.row=SI at *
 generalize v.gs.map GV.row=GI at *
 generalize v.es.map En.row=EI at *
 simp -implicitDefEqProofs [c10]
 refine onC_mk _ (T1) ?_
 simp -implicitDefEqProofs
 refine onH_mk _ _ (S1 _ rfl) ⟨?_,?_,?_,?_,?_,?_,?_⟩ ?_
 iterate 7 (· simp)
 simp -implicitDefEqProofs
 refine onC_mk _ (SR) ?_
 simp -implicitDefEqProofs
 refine onH_mk _ _ (S2 _ rfl) ⟨?_,?_,?_,?_,?_,?_,?_⟩ ?_
 iterate 7 (· simp)
 simp -implicitDefEqProofs
 refine onH_mk _ _ (GO _ rfl) ⟨?_,?_,?_,?_,?_,?_,?_⟩ ?_
 iterate 7 (· simp)
 simp -implicitDefEqProofs
 refine onH_mk _ _ (BO _ rfl) ⟨?_,?_,?_,?_,?_,?_,?_⟩ ?_
 iterate 7 (· simp)
 simp -implicitDefEqProofs [rl]
 refine wp_lpk (α:=Nat×List (List UInt8×Nat)×List Fd) (fun y=>⟨[(1,.ptr (.n 1) 0),(3,.ptr (.n 9) 0),(4,.mref (.it 25)),(27,.sl SI),(28,i6 v.ss.length),(29,i6 y.1)],[(.n 1,[i6 v.now,u v.ep,.sl GI,i6 v.r,i6 v.v,i6 v.i,i6 v.x,i6 v.y,.sl EI,u v.dr,.sl SI]),(.n 9,[i6 v.now,u v.ep,.sl GI,i6 v.r,i6 v.v,i6 v.i,i6 v.x,i6 v.y,.sl EI,u v.dr,.sl SI,.sl (y.2.2.map Fd.row)]),(.it 25,[.mpv (cntG kS y.2.1)])],[(.b (.n 9) 11,2)]⟩)
  (fun y=>y.1≤v.ss.length∧Seen y.2.1 (snAt v.ss y.1)∧y.2.2.length≤100000+y.1∧silsF v.now (snAt v.ss y.1) y.1 (v.ss.drop y.1) y.2.2=R)
  (fun y=>v.ss.length - y.1) ?_ (0,[],F4) ?_ ?_
 ·rintro K ⟨i,l1,fs⟩ hK ⟨h1,h2,h3,h4⟩
  simp only at h1 h2 h3 h4
  by_cases g:i<v.ss.length
  ·have hmem:=List.getElem_mem g
   have f4:=fit2.sn _ hmem
   have t1:IntKind.i64.wrap ((i:Int)+1)=(i+1:Nat):=by rw [wrap_i64]<;>omega
   have gR:i<SI.length:=by omega
   have ra:=rat i g gR
   rw [List.drop_eq_getElem_cons g,silsF,←snAt_succ v.ss i g] at h4
   have hnml:(snAt v.ss i).length≤100000000:=by unfold snAt;simp;omega
   have hnm2:=snAt_succ v.ss i g
   have fin: ∀l1' ok,Seen l1' (snAt v.ss (i+1))→ok=silOk v.now (snAt v.ss i) i v.ss[i]→
     ∀σ',Weak σ' ⟨[(1,.ptr (.n 1) 0),(3,.ptr (.n 9) 0),(4,.mref (.it 25)),(27,.sl SI),(28,i6 v.ss.length),(29,i6 (i+1:Nat))],[(.n 1,[i6 v.now,u v.ep,.sl GI,i6 v.r,i6 v.v,i6 v.i,i6 v.x,i6 v.y,.sl EI,u v.dr,.sl SI]),(.n 9,[i6 v.now,u v.ep,.sl GI,i6 v.r,i6 v.v,i6 v.i,i6 v.x,i6 v.y,.sl EI,u v.dr,.sl SI,.sl ((fadd fs ok 11 v.ss[i].n).map Fd.row)]),(.it 25,[.mpv (cntG kS l1')])],[(.b (.n 9) 11,2)]⟩→K σ':=
    fun l1' ok a1 a2 σ' hσ=>hK (i+1,l1',fadd fs ok 11 v.ss[i].n) σ' ⟨by simp only;omega,a1,by
     simp only
     have:=fadd_len fs ok 11 v.ss[i].n
     omega,by simp only;rw [a2];exact h4⟩ (by simp only;omega) hσ
   have HR:=hright_spec v.ss[i] f4.1 f4.2
   rw [hnm2] at fin
   have Sn:=h2.bump v.ss[i].n
   obtain ⟨MB,jj,cc,eMB,qf,qc,qs⟩:=cnt_step kS kS_same l1 (snAt v.ss i) h2 hnml v.ss[i].n
   have qc:((cc:Int)==1)=decide (v.ss[i].n∉snAt v.ss i):=qc.trans (by congr)
   have fin:=fun ok a=>fin _ ok Sn a
   rw [←eMB] at fin
   have A1:=fun ok=>SS fs (by omega) ok v.ss[i].n
   unfold silOk at fin
   rw [←qc] at fin
   rw [kS_eq] at qf
   simp only [kS_eq] at qs
   clear hK rat h2 h4 Sn eMB hnm2 hnml S1 S2 GO BO SS T1 SR qc
   unfold Si.row at HR
   generalize siP v.ss[i]=p at *
   generalize snAt v.ss i=N1 at *
   generalize v.ss[i].n=nme at *
   generalize hq:((cc:Int)==1)=q at *
   rcases qs with ⟨u1,u2,u3⟩|⟨j,c,u1,u2,u3⟩
   all_goals
    simp -implicitDefEqProofs [g,gR,ra,u1,u2,u3]
    refine onC_mk _ (HR) ?_
    cases p
    ·have fin:=fin false (by simp)
     simp -implicitDefEqProofs
     refine onH_mk _ _ (A1 false _ rfl) ⟨?_,?_,?_,?_,?_,?_,?_⟩ ?_
     iterate 7 (· simp)
     simp -implicitDefEqProofs
     refine fin _ ?_
     refine weak_mk ?_ ?_ ?_ ?_ ?_ ?_<;>simp -implicitDefEqProofs [t1]
    ·by_cases c1:v.now<v.ss[i].tl
     ·cases q
      ·have fin:=fin false (by simp)
       simp -implicitDefEqProofs [c1,qf,hq]
       refine onH_mk _ _ (A1 false _ rfl) ⟨?_,?_,?_,?_,?_,?_,?_⟩ ?_
       iterate 7 (· simp)
       simp -implicitDefEqProofs
       refine fin _ ?_
       refine weak_mk ?_ ?_ ?_ ?_ ?_ ?_<;>simp -implicitDefEqProofs [t1]
      ·by_cases c3:i<12
       ·have c3':(i:Int)<12:=by omega
        have fin:=fin true (by simp [c1,c3])
        simp -implicitDefEqProofs [c1,qf,hq,c3,c3']
        refine onH_mk _ _ (A1 true _ rfl) ⟨?_,?_,?_,?_,?_,?_,?_⟩ ?_
        iterate 7 (· simp)
        simp -implicitDefEqProofs
        refine fin _ ?_
        refine weak_mk ?_ ?_ ?_ ?_ ?_ ?_<;>simp -implicitDefEqProofs [t1]
       ·have c3': ¬(i:Int)<12:=by omega
        have fin:=fin false (by simp [c3])
        simp -implicitDefEqProofs [c1,qf,hq,c3,c3']
        refine onH_mk _ _ (A1 false _ rfl) ⟨?_,?_,?_,?_,?_,?_,?_⟩ ?_
        iterate 7 (· simp)
        simp -implicitDefEqProofs
        refine fin _ ?_
        refine weak_mk ?_ ?_ ?_ ?_ ?_ ?_<;>simp -implicitDefEqProofs [t1]
     ·have fin:=fin false (by simp [c1])
      simp -implicitDefEqProofs [c1]
      refine onH_mk _ _ (A1 false _ rfl) ⟨?_,?_,?_,?_,?_,?_,?_⟩ ?_
      iterate 7 (· simp)
      simp -implicitDefEqProofs
      refine fin _ ?_
      refine weak_mk ?_ ?_ ?_ ?_ ?_ ?_<;>simp -implicitDefEqProofs [t1]
  ·obtain rfl:i=v.ss.length:=by omega
   rw [List.drop_length] at h4
   simp only [silsF] at h4
   subst h4
   clear hK
   simp -implicitDefEqProofs
 ·exact ⟨Nat.zero_le _,Seen.nil,by simp only;omega,hR.symm⟩
 ·refine weak_mk ?_ ?_ ?_ ?_ ?_ ?_<;>simp -implicitDefEqProofs [cntG]
theorem sound35_spec (v:Vw) (fit:VwFit v) (fit2:VwFit2 v):Sp Tryz.prog gl 13 [.agg v.row] (.bool (decide ((lookF v).length=0))):=by
 refine s13 rfl rfl ?_
 have L:=look35_spec v fit fit2
 have rl:((lookF v).map Fd.row).length=(lookF v).length:=by simp
 have P1:v.row.length=11:=rfl
 have P2:idsL v.row=[]:=rfl
 have P3:shutL v.row=some v.row:=rfl
 have P4:List.take 11 v.row=v.row:=List.take_of_length_le (by omega)
 have e:(((lookF v).length:Int)==0)=decide ((lookF v).length=0):=int_beq_dec _ 0
 rw [←e]
 generalize (lookF v).map Fd.row=FR at *
 generalize (lookF v).length=n at *
 generalize v.row=V at *
 simp -implicitDefEqProofs [c13,P1,P2,P3,P4]
 refine onC_mk _ (L) ?_
 simp -implicitDefEqProofs [rl]
open Go.Proofs
theorem rfind29_spec (l:List En) (dr:Nat) (k:Ky) (hl:l.length≤1000000):Sp Tryz.prog gl 103 [.agg [.sl (l.map En.row),u dr],.agg k.row] (i6 (ixK k (l.map En.k) 0)):=by
 refine s103 rfl rfl ?_
 have rl:(l.map En.row).length=l.length:=by simp
 have rat:=en_atr l
 obtain ⟨R,hR⟩: ∃R,R=ixK k (l.map En.k) 0:=⟨_,rfl⟩
 rw [←hR]
 generalize l.map En.row=RR at *
 unfold Ky.row
 simp -implicitDefEqProofs [c103]
 refine wp_lpk (α:=Nat) (fun i=>⟨[(2,.ptr (.n 2) 0),(3,.ptr (.n 3) 0),(5,i6 i)],[(.n 2,[.sl RR,u dr]),(.n 3,[.str k.g,.str k.r,.bool k.p,u k.e,.bool k.f])],[]⟩)
  (fun i=>i≤l.length∧ixK k ((l.drop i).map En.k) i=R) (fun i=>l.length - i) ?_ 0 ?_ ?_
 ·rintro K i hK ⟨h1,h2⟩
  by_cases g:i<l.length
  ·have t1:IntKind.i64.wrap ((i:Int)+1)=(i+1:Nat):=by rw [wrap_i64]<;>omega
   have ra:=rat i g
   have gR:i<RR.length:=by omega
   rw [List.drop_eq_getElem_cons g,List.map_cons] at h2
   simp only [ixK] at h2
   have fin:decide (l[i].k=k)=false→ ∀σ',Weak σ' ⟨[(2,.ptr (.n 2) 0),(3,.ptr (.n 3) 0),(5,i6 (i+1:Nat))],[(.n 2,[.sl RR,u dr]),(.n 3,[.str k.g,.str k.r,.bool k.p,u k.e,.bool k.f])],[]⟩→K σ':=
    fun hg σ' hσ=>hK (i+1) σ' ⟨by omega,by rw [if_neg (of_decide_eq_false hg)] at h2;exact h2⟩ (by omega) hσ
   have hpos:decide (l[i].k=k)=true→R=i:=fun hg=>by rw [if_pos (of_decide_eq_true hg)] at h2;exact h2.symm
   have kb:=ky_beq l[i].k k
   clear hK hR rat h2
   generalize hx:l[i]=x at *
   unfold En.row at ra
   simp -implicitDefEqProofs [g,gR,ra,rl]
   rw [kb]
   generalize decide (x.k=k)=b at *
   cases b
   ·have fin:=fin rfl
    simp -implicitDefEqProofs [t1]
    refine fin _ ?_
    refine weak_mk ?_ ?_ ?_ ?_ ?_ ?_<;>simp -implicitDefEqProofs [t1]
   ·have h2:=hpos rfl
    subst h2
    simp -implicitDefEqProofs
  ·obtain rfl:i=l.length:=by omega
   rw [List.drop_length] at h2
   simp only [List.map_nil,ixK] at h2
   subst h2
   clear hK
   simp -implicitDefEqProofs [rl]
 ·exact ⟨Nat.zero_le _,hR.symm⟩
 ·refine weak_mk ?_ ?_ ?_ ?_ ?_ ?_<;>simp -implicitDefEqProofs
open Go.Proofs
theorem rRight29_spec (es:List En) (dr:Nat) (hk: ∀e∈es,e.k.g.length≤900000∧e.k.r.length≤900000):Sp Tryz.prog gl 46 [.agg [.sl (es.map En.row),u dr]] (.bool (boxP es dr)):=by
 refine s46 rfl rfl ?_
 obtain ⟨R,hR⟩: ∃R,R=boxP es dr:=⟨_,rfl⟩
 rw [←hR]
 unfold boxP at hR
 have rl:(es.map En.row).length=es.length:=by simp
 have rat:=en_atr es
 by_cases h64:es.length≤64
 ·have h64': ¬(64:Int)<es.length:=by omega
  rw [decide_eq_true h64] at hR
  by_cases hdr:dr≤9223372036854775807
  ·have hdr': ¬(9223372036854775807:Int)<dr:=by omega
   rw [decide_eq_true hdr] at hR
   simp only [Bool.true_and] at hR
   have FD:=fun k=>rfind29_spec es dr k (by omega)
   have RI:=fun (e:En) (h:e∈es)=>rkright_spec e.k (hk e h).1 (hk e h).2
   generalize es.map En.k=ks at *
   generalize es.map En.row=RR at *
   simp -implicitDefEqProofs [c46,rl,h64',hdr']
   refine wp_lpk (α:=Nat) (fun i=>⟨[(1,.ptr (.n 1) 0),(3,i6 i)],[(.n 1,[.sl RR,u dr])],[]⟩)
    (fun i=>i≤es.length∧boxGo ks (es.drop i) i=R) (fun i=>es.length - i) ?_ 0 ?_ ?_
   ·rintro K i hK ⟨h1,h2⟩
    by_cases g:i<es.length
    ·have t1:IntKind.i64.wrap ((i:Int)+1)=(i+1:Nat):=by rw [wrap_i64]<;>omega
     have ra:=rat i g
     have gR:i<RR.length:=by omega
     rw [List.drop_eq_getElem_cons g] at h2
     simp only [boxGo] at h2
     have RI:=RI es[i] (List.getElem_mem _)
     have FD:=FD es[i].k
     have T:=rtick19_spec es[i].b
     have k1:(decide (0≤es[i].b)&&decide (es[i].b≤253402300799))=tkB es[i].b:=rfl
     rw [k1] at T
     clear k1
     have fin:boxGo ks (es.drop (i+1)) (i+1)=R→ ∀σ',Weak σ' ⟨[(1,.ptr (.n 1) 0),(3,i6 (i+1:Nat))],[(.n 1,[.sl RR,u dr])],[]⟩→K σ':=
      fun hh σ' hσ=>hK (i+1) σ' ⟨by omega,hh⟩ (by omega) hσ
     clear hK hR rat hk
     unfold enP at h2
     unfold Ky.row at RI FD
     unfold En.row at ra
     generalize ixK es[i].k ks 0=q at *
     generalize boxGo ks (es.drop (i+1)) (i+1)=r at *
     generalize rightK es[i].k=p at *
     generalize tkB es[i].b=tb at *
     generalize es[i]=x at *
     cases p
     ·simp at h2
      subst h2
      simp -implicitDefEqProofs [g,gR,ra,rl]
      refine onC_mk _ (RI) ?_
      simp -implicitDefEqProofs
     ·cases tb
      ·simp at h2
       subst h2
       simp -implicitDefEqProofs [g,gR,ra,rl]
       refine onC_mk _ (RI) ?_
       simp -implicitDefEqProofs
       refine onC_mk _ (T) ?_
       simp -implicitDefEqProofs
      ·simp only [Bool.true_and] at h2
       by_cases c1:x.b≤x.nx
       ·have c1': ¬x.nx<x.b:=by omega
        by_cases c2:x.nx≤253404892799
        ·have c2': ¬253404892799<x.nx:=by omega
         by_cases c3:0≤x.tr
         ·have c3': ¬x.tr<0:=by omega
          by_cases c4:x.tr≤1000000
          ·have c4': ¬1000000<x.tr:=by omega
           simp only [decide_eq_true c1,decide_eq_true c2,decide_eq_true c3,decide_eq_true c4,Bool.true_and] at h2
           by_cases hq:q=(i:Int)
           ·have hq':(q !=(i:Int))=false:=by rw [hq];simp
            simp only [decide_eq_true hq,Bool.true_and] at h2
            have fin:=fin h2
            clear hq h2
            simp -implicitDefEqProofs [g,gR,ra,rl]
            refine onC_mk _ (RI) ?_
            simp -implicitDefEqProofs
            refine onC_mk _ (T) ?_
            simp -implicitDefEqProofs [c1',c2',c3',c4']
            refine onC_mk _ (FD) ?_
            simp -implicitDefEqProofs [hq',t1]
            refine fin _ ?_
            refine weak_mk ?_ ?_ ?_ ?_ ?_ ?_<;>simp -implicitDefEqProofs [t1]
           ·have hq':(q !=(i:Int))=true:=by rw [bne_iff_ne];exact hq
            simp only [decide_eq_false hq,Bool.false_and] at h2
            subst h2
            clear hq
            simp -implicitDefEqProofs [g,gR,ra,rl]
            refine onC_mk _ (RI) ?_
            simp -implicitDefEqProofs
            refine onC_mk _ (T) ?_
            simp -implicitDefEqProofs [c1',c2',c3',c4']
            refine onC_mk _ (FD) ?_
            simp -implicitDefEqProofs [hq']
          ·have c4':1000000<x.tr:=by omega
           simp [c4] at h2
           subst h2
           simp -implicitDefEqProofs [g,gR,ra,rl]
           refine onC_mk _ (RI) ?_
           simp -implicitDefEqProofs
           refine onC_mk _ (T) ?_
           simp -implicitDefEqProofs [c1',c2',c3',c4']
         ·have c3':x.tr<0:=by omega
          simp [c3] at h2
          subst h2
          simp -implicitDefEqProofs [g,gR,ra,rl]
          refine onC_mk _ (RI) ?_
          simp -implicitDefEqProofs
          refine onC_mk _ (T) ?_
          simp -implicitDefEqProofs [c1',c2',c3']
        ·have c2':253404892799<x.nx:=by omega
         simp [c2] at h2
         subst h2
         simp -implicitDefEqProofs [g,gR,ra,rl]
         refine onC_mk _ (RI) ?_
         simp -implicitDefEqProofs
         refine onC_mk _ (T) ?_
         simp -implicitDefEqProofs [c1',c2']
       ·have c1':x.nx<x.b:=by omega
        simp [c1] at h2
        subst h2
        simp -implicitDefEqProofs [g,gR,ra,rl]
        refine onC_mk _ (RI) ?_
        simp -implicitDefEqProofs
        refine onC_mk _ (T) ?_
        simp -implicitDefEqProofs [c1']
    ·obtain rfl:i=es.length:=by omega
     rw [List.drop_length] at h2
     simp only [boxGo] at h2
     subst h2
     clear hK
     simp -implicitDefEqProofs [rl]
   ·exact ⟨Nat.zero_le _,hR.symm⟩
   ·refine weak_mk ?_ ?_ ?_ ?_ ?_ ?_<;>simp -implicitDefEqProofs
  ·have hdr':(9223372036854775807:Int)<dr:=by omega
   rw [decide_eq_false hdr] at hR
   simp at hR
   subst hR
   generalize es.map En.row=RR at *
   simp -implicitDefEqProofs [c46,rl,h64',hdr']
 ·have h64':(64:Int)<es.length:=by omega
  rw [decide_eq_false h64] at hR
  simp at hR
  subst hR
  generalize es.map En.row=RR at *
  simp -implicitDefEqProofs [c46,rl,h64']
open Go.Proofs
theorem onAk {P:Program} {GL:List (Nat×List Value)} {K:St→Prop} {σ:St} {f d:Nat} {s:Option X} {ps:List X} (k:Nat) (out:List (List AV)) (h:caS (SpH P GL) f σ s ps k out) (hk:K (caSt d s (.sl out) k σ)):onA (SpH P GL) f d s ps K σ:=⟨k,out,h,hk⟩
theorem add_app (fs:List Fd) (hl:fs.length≤1000000) (ok:Bool) (k:Int) (n:List UInt8):appS (SpH Tryz.prog gl) 37 (some (fs.map Fd.row)) 2 [.bool ok,i6 k,.str n] ((fadd fs ok k n).map Fd.row):=fun e=>add35_spec fs hl ok k n e
theorem rnotify29_spec (r v i x y:Int):Sp Tryz.prog gl 39 [.agg [i6 r,i6 v,i6 i,i6 x,i6 y]] (.bool (rightP ⟨[],r,v,i,x,y⟩)):=by
 refine s39 rfl rfl ?_
 have Q:=qright_spec ⟨[],r,v,i,x,y⟩ ⟨by simp,by simp⟩
 have hc:(Cf.row ⟨[],r,v,i,x,y⟩)=[.sl [],i6 r,i6 v,i6 i,i6 x,i6 y]:=rfl
 rw [hc] at Q
 generalize rightP ⟨[],r,v,i,x,y⟩=b at *
 simp -implicitDefEqProofs [c39]
 refine onC_mk _ (Q) ?_
 simp -implicitDefEqProofs
theorem nmAt_step (gs:List GV) (k:Nat) (h:k<gs.length) (n:List UInt8) (bg:Bool):(bg&&decide (n∉nmAt gs (k+1)))=((bg&&decide (n∉nmAt gs k))&&(gs[k].g.n !=n)):=by
 rw [nmAt_succ gs k h,Bool.and_assoc]
 congr 1
 rw [Bool.eq_iff_iff]
 simp only [decide_eq_true_eq,Bool.and_eq_true,bne_iff_ne,ne_eq,List.mem_append,List.mem_singleton,not_or]
 exact and_congr Iff.rfl ⟨fun a b=>a b.symm,fun a b=>a b.symm⟩
def tailF (v:Vw) (fs:List Fd):List Fd:=silsF v.now [] 0 v.ss (boxesF v fs)
set_option maxHeartbeats 8000000 in
theorem rlook35_spec (v:Vw) (fit:VwFit v) (fit2:VwFit2 v):Sp Tryz.prog gl 12 [.agg v.row] (.sl ((lookF v).map Fd.row)):=by
 refine s12 rfl rfl ?_
 have T1:=rtick19_spec v.now
 have hf:(decide ((0:Int)≤v.now)&&decide (v.now≤253402300799))=tkB v.now:=rfl
 rw [hf] at T1
 have SR:=rnotify29_spec v.r v.v v.i v.x v.y
 have f1:=fit2.ng
 have f2:=fit2.ne
 have f3:=fit2.ns
 have g1:=headF_len v
 have g2:=headF_le v
 have S1:=add_app [] (by simp) (tkB v.now) 1 []
 have S2:=add_app (fadd [] (tkB v.now) 1 []) (Nat.le_trans (fadd_len _ _ _ _) (by simp)) (rightP ⟨[],v.r,v.v,v.i,v.x,v.y⟩) 2 []
 have hh:fadd (fadd [] (tkB v.now) 1 []) (rightP ⟨[],v.r,v.v,v.i,v.x,v.y⟩) 2 []=headF v:=rfl
 rw [hh] at S2
 have hlook:lookF v=tailF v (goalsF v.now v.ep [] [] v.gs (headF v)):=rfl
 obtain ⟨R,hR⟩: ∃R,R=goalsF v.now v.ep [] [] v.gs (headF v):=⟨_,rfl⟩
 rw [hlook,←hR]
 rw [←hR] at g2
 generalize fadd [] (tkB v.now) 1 []=F1 at *
 have hF2:(headF v).length≤2:=g1
 generalize headF v=F2 at *
 generalize rightP ⟨[],v.r,v.v,v.i,v.x,v.y⟩=br at *
 generalize tkB v.now=bt at *
 have rl:(v.gs.map GV.row).length=v.gs.length:=by simp
 have rat: ∀i (h:i<v.gs.length),∀h2,(v.gs.map GV.row)[i]'h2=v.gs[i].row:=fun i h h2=>by simp
 have v0: ∀h:0<v.row.length,v.row[0]=i6 v.now:=fun _=>rfl
 have v1: ∀h:1<v.row.length,v.row[1]=u v.ep:=fun _=>rfl
 have v2: ∀h:2<v.row.length,v.row[2]= .sl (v.gs.map GV.row):=fun _=>rfl
 have v8: ∀h:8<v.row.length,v.row[8]= .sl (v.es.map En.row):=fun _=>rfl
 have v10: ∀h:10<v.row.length,v.row[10]= .sl (v.ss.map Si.row):=fun _=>rfl
 have vt3:List.take 5 (List.drop 3 v.row)=[i6 v.r,i6 v.v,i6 v.i,i6 v.x,i6 v.y]:=rfl
 have vt8:List.take 2 (List.drop 8 v.row)=[.sl (v.es.map En.row),u v.dr]:=rfl
 have vt:List.take 11 v.row=v.row:=rfl
 have vl:v.row.length=11:=rfl
 have vi:idsL v.row=[]:=rfl
 have vs:shutL v.row=some v.row:=rfl
 have FU:=fun goal place e (hg:goal<v.gs.length) (hp:place≤1000000)=>rused35_spec v goal place e hg f1 hp (fun g hg=>(fit2.al g hg).1)
 have FA:=fun x hx=>ralerts35_spec x v hx
 have FF:=fun k=>rFires35_spec v k f1 (fun g hg=>(fit2.al g hg).1)
 have el:(v.es.map En.row).length=v.es.length:=by simp
 have sl':(v.ss.map Si.row).length=v.ss.length:=by simp
 have eat:=en_atr v.es
 have sat:=si_atr v.ss
 have FI:=fun n=>rfind27_spec v.ss n (by omega)
 have BR:=rRight29_spec v.es v.dr (fun e he=>by have:=fit2.ek e he;omega)
 generalize v.row=V at *
 generalize v.gs.map GV.row=RR at *
 generalize v.es.map En.row=ER at *
 generalize v.ss.map Si.row=SI at *
 have S1:appS (SpH Tryz.prog gl) 37 (some []) 2 [.bool bt,i6 1,.str []] (F1.map Fd.row):=S1
 simp -implicitDefEqProofs [c12,v0,vl,vi,vs]
 refine onC_mk _ (T1) ?_
 simp -implicitDefEqProofs
 refine onAk 2 (F1.map Fd.row) ?_ ?_
 ·simp [caS]
  exact S1
 simp -implicitDefEqProofs [caSt,v0,vl,vi,vs,vt3]
 refine onC_mk _ (SR) ?_
 simp -implicitDefEqProofs
 refine onAk 2 (F2.map Fd.row) ?_ ?_
 ·simp [caS]
  exact S2
 simp -implicitDefEqProofs [caSt]
 clear S1 S2 T1 SR
 refine wp_lpk (α:=Nat×List Fd) (fun y=>⟨[(1,.ptr (.n 1) 0),(3,.sl (y.2.map Fd.row)),(4,i6 y.1)],[(.n 1,V)],[(.s 3,2)]⟩)
  (fun y=>y.1≤v.gs.length∧y.2.length≤1000+5*y.1∧goalsF v.now v.ep (nmAt v.gs y.1) (nbAt v.gs y.1) (v.gs.drop y.1) y.2=R)
  (fun y=>v.gs.length - y.1) ?_ (0,F2) ?_ ?_
 ·rintro K ⟨i,fs⟩ hK ⟨h1,h2,h3⟩
  simp only at h1 h2 h3
  by_cases g:i<v.gs.length
  ·have hmem:=List.getElem_mem g
   have a2:=fit.gl _ hmem
   have a3:=fit.ws _ hmem
   have a4:=fit.al _ hmem
   have t1:IntKind.i64.wrap ((i:Int)+1)=(i+1:Nat):=by rw [wrap_i64]<;>omega
   have gR:i<RR.length:=by omega
   have ra:=rat i g gR
   rw [List.drop_eq_getElem_cons g,goalsF,←nmAt_succ v.gs i g,←nbAt_succ v.gs i g] at h3
   have fin: ∀fs',fs'=goalF v.now v.ep (nmAt v.gs i) (nbAt v.gs i) v.gs[i] fs→ ∀σ',Weak σ' ⟨[(1,.ptr (.n 1) 0),(3,.sl (fs'.map Fd.row)),(4,i6 (i+1:Nat))],[(.n 1,V)],[(.s 3,2)]⟩→K σ':=
    fun fs' a3 σ' hσ=>hK (i+1,fs') σ' ⟨by simp only;omega,by
     simp only
     have:=goalF_len v.now v.ep (nmAt v.gs i) (nbAt v.gs i) v.gs[i] fs
     rw [a3]
     omega,by simp only;rw [a3];exact h3⟩ (by simp only;omega) hσ
   have GS:=qgoal_spec v.gs[i].g a2
   have WS:=rwindows35_spec v.gs[i] a2.ru (by omega)
   have PS:=rperiod35_spec v.gs[i] v.now
   have LS:=FA v.gs[i] (by omega)
   have frE:=frU_fresh v.gs i g
   clear hK h3 FA BR FI FF
   unfold goalF at fin
   rw [←frE] at fin
   have e0: ∀h:0<v.gs[i].row.length,v.gs[i].row[0]= .str v.gs[i].g.n:=fun _=>rfl
   have e14: ∀h:14<v.gs[i].row.length,v.gs[i].row[14]= .sl (v.gs[i].al.map Al.row):=fun _=>rfl
   have xl:v.gs[i].row.length=15:=rfl
   have ei:idsL v.gs[i].row=[]:=rfl
   have es:shutL v.gs[i].row=some v.gs[i].row:=rfl
   have et:List.take 15 v.gs[i].row=v.gs[i].row:=rfl
   have eg:List.take 8 v.gs[i].row=v.gs[i].g.row:=rfl
   have esg:shutL v.gs[i].g.row=some v.gs[i].g.row:=rfl
   have al':(v.gs[i].al.map Al.row).length=v.gs[i].al.length:=by simp
   have AR:=al_at v.gs[i].al
   have hal:v.gs[i].al.length≤10000:=a4
   generalize hnme:v.gs[i].g.n=nme at *
   have q1:(fadd fs (goalP v.gs[i].g&&decide (nme∉nmAt v.gs i)) 3 nme).length≤fs.length+1:=fadd_len _ _ _ _
   have A1:=add_app fs (by omega) (goalP v.gs[i].g&&decide (nme∉nmAt v.gs i)) 3 nme
   generalize fadd fs (goalP v.gs[i].g&&decide (nme∉nmAt v.gs i)) 3 nme=F3 at *
   have q2:(fadd F3 (windowsF v.gs[i]) 4 nme).length≤F3.length+1:=fadd_len _ _ _ _
   have A2:=add_app F3 (by omega) (windowsF v.gs[i]) 4 nme
   generalize fadd F3 (windowsF v.gs[i]) 4 nme=F4 at *
   have q3:(fadd F4 (periodF v.now v.gs[i]) 5 nme).length≤F4.length+1:=fadd_len _ _ _ _
   have A3:=add_app F4 (by omega) (periodF v.now v.gs[i]) 5 nme
   generalize fadd F4 (periodF v.now v.gs[i]) 5 nme=F5 at *
   have q4:(fadd F5 (alertsF v.now v.ep v.gs[i]) 6 nme).length≤F5.length+1:=fadd_len _ _ _ _
   have A4:=add_app F5 (by omega) (alertsF v.now v.ep v.gs[i]) 6 nme
   generalize fadd F5 (alertsF v.now v.ep v.gs[i]) 6 nme=F6 at *
   have A5:=add_app F6 (by omega) (frU v.gs i v.gs[i].al v.gs[i].al.length) 7 nme
   have fin:=fin _ rfl
   generalize fadd F6 (frU v.gs i v.gs[i].al v.gs[i].al.length) 7 nme=F7 at *
   generalize windowsF v.gs[i]=bw at *
   generalize periodF v.now v.gs[i]=bp at *
   generalize alertsF v.now v.ep v.gs[i]=ba at *
   generalize hbg:goalP v.gs[i].g=bg at *
   generalize v.gs[i].row=X at *
   generalize v.gs[i].g.row=XG at *
   have frS:=fun k (h:k<v.gs[i].al.length)=>frU_succ v.gs i v.gs[i].al k h
   have fr0:frU v.gs i v.gs[i].al 0=true:=rfl
   generalize v.gs[i].al=l at *
   generalize l.map Al.row=LR at *
   simp -implicitDefEqProofs [g,gR,ra,v2,vl,xl,rl,eg,esg,et,e0]
   refine onC_mk _ (GS) ?_
   simp -implicitDefEqProofs
   refine wp_lpk (α:=Nat) (fun k=>⟨[(1,.ptr (.n 1) 0),(3,.sl (fs.map Fd.row)),(4,i6 i),(5,.ptr (.n 5) 0),(6,.bool (bg&&decide (nme∉nmAt v.gs k))),(7,i6 k)],[(.n 1,V),(.n 5,X)],[(.s 3,2)]⟩)
    (fun k=>k≤i) (fun k=>i - k) ?_ 0 (Nat.zero_le _) ?_
   ·rintro K2 k hK2 k1
    by_cases gk:k<i
    ·have u1:IntKind.i64.wrap ((k:Int)+1)=(k+1:Nat):=by rw [wrap_i64]<;>omega
     have gk':(k:Int)<i:=by omega
     have kg:k<v.gs.length:=by omega
     have kR:k<RR.length:=by omega
     have rk:=rat k kg kR
     have st:=nmAt_step v.gs k kg nme bg
     have fin2: ∀σ',Weak σ' ⟨[(1,.ptr (.n 1) 0),(3,.sl (fs.map Fd.row)),(4,i6 i),(5,.ptr (.n 5) 0),(6,.bool (bg&&decide (nme∉nmAt v.gs (k+1)))),(7,i6 (k+1:Nat))],[(.n 1,V),(.n 5,X)],[(.s 3,2)]⟩→K2 σ':=
      fun σ' hσ=>hK2 (k+1) σ' (by omega) (by omega) hσ
     have kl:v.gs[k].row.length=15:=rfl
     have k0: ∀h:0<v.gs[k].row.length,v.gs[k].row[0]= .str v.gs[k].g.n:=fun _=>rfl
     rw [st] at fin2
     clear hK2 fin st
     generalize (bg&&decide (nme∉nmAt v.gs k))=r at *
     generalize v.gs[k].g.n=nk at *
     generalize v.gs[k].row=XK at *
     cases r
     ·simp only [Bool.false_and] at fin2
      simp -implicitDefEqProofs [gk,gk',kg,kR,rk,v2,vl,xl,rl,e0,kl,k0]
      refine fin2 _ ?_
      refine weak_mk ?_ ?_ ?_ ?_ ?_ ?_<;>simp -implicitDefEqProofs [u1,vi,ei]
     ·simp only [Bool.true_and] at fin2
      generalize hb:(nk !=nme)=bb at *
      have hb':(nk==nme)=!bb:=by rw [←hb,bne,Bool.not_not]
      simp -implicitDefEqProofs [gk,gk',kg,kR,rk,v2,vl,xl,rl,e0,kl,k0,hb,hb']
      refine fin2 _ ?_
      refine weak_mk ?_ ?_ ?_ ?_ ?_ ?_<;>simp -implicitDefEqProofs [u1,vi,ei,hb',hb]
    ·obtain rfl:k=i:=by omega
     clear hK2
     generalize hbb:(bg&&decide (nme∉nmAt v.gs k))=bb at *
     simp -implicitDefEqProofs [e0,xl]
     refine onAk 2 (F3.map Fd.row) ?_ ?_
     ·simp [caS]
      exact A1
     simp -implicitDefEqProofs [caSt,e0,xl,es,et]
     refine onC_mk _ (WS) ?_
     simp -implicitDefEqProofs [e0,xl]
     refine onAk 2 (F4.map Fd.row) ?_ ?_
     ·simp [caS]
      exact A2
     simp -implicitDefEqProofs [caSt,e0,xl,es,et,v0,vl]
     refine onC_mk _ (PS) ?_
     simp -implicitDefEqProofs [e0,xl]
     refine onAk 2 (F5.map Fd.row) ?_ ?_
     ·simp [caS]
      exact A3
     simp -implicitDefEqProofs [caSt,e0,xl,es,et,vl,vt,vs]
     refine onC_mk _ (LS) ?_
     simp -implicitDefEqProofs [e0,xl]
     refine onAk 2 (F6.map Fd.row) ?_ ?_
     ·simp [caS]
      exact A4
     simp -implicitDefEqProofs [caSt]
     refine wp_lpk (α:=Nat) (fun j=>⟨[(1,.ptr (.n 1) 0),(3,.sl (F6.map Fd.row)),(4,i6 k),(5,.ptr (.n 5) 0),(8,.bool (frU v.gs k l j)),(9,i6 j)],[(.n 1,V),(.n 5,X)],[(.s 3,2)]⟩)
      (fun j=>j≤l.length) (fun j=>l.length - j) ?_ 0 (Nat.zero_le _) ?_
     ·rintro K2 j hK2 j1
      by_cases gj:j<l.length
      ·have u1:IntKind.i64.wrap ((j:Int)+1)=(j+1:Nat):=by rw [wrap_i64]<;>omega
       have jR:j<LR.length:=by omega
       have aj:=AR j gj jR
       have FR:=rfires35_spec l[j]
       unfold Al.row at FR
       have FU:=FU k j l[j].e g (by omega)
       have st:=frS j gj
       have fin2: ∀σ',Weak σ' ⟨[(1,.ptr (.n 1) 0),(3,.sl (F6.map Fd.row)),(4,i6 k),(5,.ptr (.n 5) 0),(8,.bool (frU v.gs k l (j+1))),(9,i6 (j+1:Nat))],[(.n 1,V),(.n 5,X)],[(.s 3,2)]⟩→K2 σ':=
        fun σ' hσ=>hK2 (j+1) σ' (by omega) (by omega) hσ
       rw [st] at fin2
       clear hK2 fin st
       generalize frU v.gs k l j=fr at *
       generalize usedGo v.gs k j l[j].e 0 (k+1)=us at *
       generalize alFires l[j]=ff at *
       cases fr
       ·simp only [Bool.false_and] at fin2
        simp -implicitDefEqProofs [gj,jR,aj,al',e14,xl]
        refine fin2 _ ?_
        refine weak_mk ?_ ?_ ?_ ?_ ?_ ?_<;>simp -implicitDefEqProofs [u1,vi,ei]
       ·cases ff
        ·simp only [Bool.false_and,Bool.not_false,Bool.and_true] at fin2
         simp -implicitDefEqProofs [gj,jR,aj,al',e14,xl]
         refine onC_mk _ (FR) ?_
         simp -implicitDefEqProofs
         refine fin2 _ ?_
         refine weak_mk ?_ ?_ ?_ ?_ ?_ ?_<;>simp -implicitDefEqProofs [u1,vi,ei]
        ·simp only [Bool.true_and] at fin2
         simp -implicitDefEqProofs [gj,jR,aj,al',e14,xl]
         refine onC_mk _ (FR) ?_
         simp -implicitDefEqProofs [gj,jR,aj,al',e14,xl,vl,vt,vs]
         refine onC_mk _ (FU) ?_
         simp -implicitDefEqProofs
         refine fin2 _ ?_
         refine weak_mk ?_ ?_ ?_ ?_ ?_ ?_<;>simp -implicitDefEqProofs [u1,vi,ei]
      ·obtain rfl:j=l.length:=by omega
       clear hK2
       generalize frU v.gs k l l.length=fr at *
       simp -implicitDefEqProofs [e14,xl,al',e0]
       refine onAk 2 (F7.map Fd.row) ?_ ?_
       ·simp [caS]
        exact A5
       simp -implicitDefEqProofs [caSt]
       refine fin _ ?_
       refine weak_mk ?_ ?_ ?_ ?_ ?_ ?_<;>simp -implicitDefEqProofs [t1,vi]
     ·refine weak_mk ?_ ?_ ?_ ?_ ?_ ?_<;>simp -implicitDefEqProofs [vi,ei,fr0]
   ·refine weak_mk ?_ ?_ ?_ ?_ ?_ ?_<;>simp -implicitDefEqProofs [vi,ei,nmAt_zero,et]
  ·obtain rfl:i=v.gs.length:=by omega
   rw [List.drop_length] at h3
   simp only [goalsF] at h3
   subst h3
   clear hK rat FU FA
   have A1:=add_app fs (by omega) (boxP v.es v.dr) 8 []
   have q1:(fadd fs (boxP v.es v.dr) 8 []).length≤fs.length+1:=fadd_len _ _ _ _
   unfold tailF boxesF
   generalize fadd fs (boxP v.es v.dr) 8 []=F3 at *
   generalize boxP v.es v.dr=bb at *
   have g3:=entsF_len v.now v.ep v.gs v.es F3
   obtain ⟨R2,hR2⟩: ∃R,R=entsF v.now v.ep v.gs v.es F3:=⟨_,rfl⟩
   rw [←hR2] at g3 ⊢
   obtain ⟨R3,hR3⟩: ∃R,R=silsF v.now [] 0 v.ss R2:=⟨_,rfl⟩
   rw [←hR3]
   simp -implicitDefEqProofs [v2,vl,rl,v8,vt8]
   refine onC_mk _ (BR) ?_
   simp -implicitDefEqProofs
   refine onAk 2 (F3.map Fd.row) ?_ ?_
   ·simp [caS]
    exact A1
   simp -implicitDefEqProofs [caSt]
   refine wp_lpk (α:=Nat×List Fd) (fun y=>⟨[(1,.ptr (.n 1) 0),(3,.sl (y.2.map Fd.row)),(10,i6 y.1)],[(.n 1,V)],[(.s 3,2)]⟩)
    (fun y=>y.1≤v.es.length∧y.2.length≤200000+2*y.1∧entsF v.now v.ep v.gs (v.es.drop y.1) y.2=R2)
    (fun y=>v.es.length - y.1) ?_ (0,F3) ?_ ?_
   ·rintro K ⟨i,fs⟩ hK ⟨h1,h2,h3⟩
    simp only at h1 h2 h3
    by_cases g:i<v.es.length
    ·have hmem:=List.getElem_mem g
     have f4:=fit2.ek _ hmem
     have t1:IntKind.i64.wrap ((i:Int)+1)=(i+1:Nat):=by rw [wrap_i64]<;>omega
     have gR:i<ER.length:=by omega
     have ra:=eat i g gR
     unfold En.row at ra
     rw [List.drop_eq_getElem_cons g,entsF] at h3
     have fin: ∀fs',fs'=entF v.now v.ep v.gs v.es[i] fs→
       ∀σ',Weak σ' ⟨[(1,.ptr (.n 1) 0),(3,.sl (fs'.map Fd.row)),(10,i6 (i+1:Nat))],[(.n 1,V)],[(.s 3,2)]⟩→K σ':=
      fun fs' a3 σ' hσ=>hK (i+1,fs') σ' ⟨by simp only;omega,by
       simp only
       have:=entF_len v.now v.ep v.gs v.es[i] fs
       rw [a3]
       omega,by simp only;rw [a3];exact h3⟩ (by simp only;omega) hσ
     have PK:=rprint_spec v.es[i].k f4.1 f4.2
     have FF:=FF v.es[i].k
     unfold entF at fin
     have q2:(fadd fs (decide (v.es[i].b≤v.now)&&decide (v.es[i].k.e≤v.ep)) 9 (printK v.es[i].k)).length≤fs.length+1:=fadd_len _ _ _ _
     have A2:=add_app fs (by omega) (decide (v.es[i].b≤v.now)&&decide (v.es[i].k.e≤v.ep)) 9 (printK v.es[i].k)
     generalize fadd fs (decide (v.es[i].b≤v.now)&&decide (v.es[i].k.e≤v.ep)) 9 (printK v.es[i].k)=F4 at *
     have A3:=add_app F4 (by omega) (!v.es[i].ak||firesF v.gs v.es[i].k) 10 (printK v.es[i].k)
     have fin:=fin _ rfl
     generalize fadd F4 (!v.es[i].ak||firesF v.gs v.es[i].k) 10 (printK v.es[i].k)=F5 at *
     clear hK h3 BR A1 eat
     generalize firesF v.gs v.es[i].k=ff at *
     generalize printK v.es[i].k=pk at *
     unfold Ky.row at PK FF
     generalize v.es[i].k.g=kg at *
     generalize v.es[i].k.r=kr at *
     generalize v.es[i].k.p=kp at *
     generalize v.es[i].k.e=ke at *
     generalize v.es[i].k.f=kf at *
     generalize v.es[i].ak=ak at *
     by_cases c1:v.es[i].b≤v.now
     all_goals
      simp only [c1,decide_true,decide_false,Bool.true_and,Bool.false_and] at A2
      simp -implicitDefEqProofs [g,gR,ra,v8,v0,v1,vl,el,c1]
      refine onC_mk _ (PK) ?_
      simp -implicitDefEqProofs [v0,v1,vl,c1]
      refine onAk 2 (F4.map Fd.row) ?_ ?_
      ·simp [caS]
       exact A2
      simp -implicitDefEqProofs [caSt]
      cases ak
      ·simp only [Bool.not_false,Bool.true_or] at A3
       simp -implicitDefEqProofs
       refine onAk 2 (F5.map Fd.row) ?_ ?_
       ·simp [caS]
        exact A3
       simp -implicitDefEqProofs [caSt]
       refine fin _ ?_
       refine weak_mk ?_ ?_ ?_ ?_ ?_ ?_<;>simp -implicitDefEqProofs [t1,vi]
      ·simp only [Bool.not_true,Bool.false_or] at A3
       simp -implicitDefEqProofs [vl,vt,vs]
       refine onC_mk _ (FF) ?_
       simp -implicitDefEqProofs
       refine onAk 2 (F5.map Fd.row) ?_ ?_
       ·simp [caS]
        exact A3
       simp -implicitDefEqProofs [caSt]
       refine fin _ ?_
       refine weak_mk ?_ ?_ ?_ ?_ ?_ ?_<;>simp -implicitDefEqProofs [t1,vi]
    ·obtain rfl:i=v.es.length:=by omega
     rw [List.drop_length] at h3
     simp only [entsF] at h3
     subst h3
     clear hK eat A1 BR FF
     simp -implicitDefEqProofs [v8,vl,el]
     refine wp_lpk (α:=Nat×List Fd) (fun y=>⟨[(1,.ptr (.n 1) 0),(3,.sl (y.2.map Fd.row)),(13,i6 y.1)],[(.n 1,V)],[(.s 3,2)]⟩)
      (fun y=>y.1≤v.ss.length∧y.2.length≤300000+y.1∧silsF v.now (snAt v.ss y.1) y.1 (v.ss.drop y.1) y.2=R3)
      (fun y=>v.ss.length - y.1) ?_ (0,fs) ?_ ?_
     ·rintro K ⟨i,fs⟩ hK ⟨h1,h2,h3⟩
      simp only at h1 h2 h3
      by_cases g:i<v.ss.length
      ·have hmem:=List.getElem_mem g
       have f4:=fit2.sn _ hmem
       have t1:IntKind.i64.wrap ((i:Int)+1)=(i+1:Nat):=by rw [wrap_i64]<;>omega
       have gR:i<SI.length:=by omega
       have ra:=sat i g gR
       rw [List.drop_eq_getElem_cons g,silsF,←snAt_succ v.ss i g] at h3
       have fin: ∀ok,ok=silOk v.now (snAt v.ss i) i v.ss[i]→
         ∀σ',Weak σ' ⟨[(1,.ptr (.n 1) 0),(3,.sl ((fadd fs ok 11 v.ss[i].n).map Fd.row)),(13,i6 (i+1:Nat))],[(.n 1,V)],[(.s 3,2)]⟩→K σ':=
        fun ok a2 σ' hσ=>hK (i+1,fadd fs ok 11 v.ss[i].n) σ' ⟨by simp only;omega,by
         simp only
         have:=fadd_len fs ok 11 v.ss[i].n
         omega,by simp only;rw [a2];exact h3⟩ (by simp only;omega) hσ
       have HR:=rright27_spec v.ss[i] f4.1 f4.2
       have FI:=FI v.ss[i].n
       have A4:=fun ok=>add_app fs (by omega) ok 11 v.ss[i].n
       unfold silOk at fin
       have fx:=ixN_first v.ss i g
       have fx2:((ixN v.ss[i].n (v.ss.map Si.n) 0)==(i:Int))=decide (v.ss[i].n∉snAt v.ss i):=by
        unfold snAt
        rw [←fx,Bool.eq_iff_iff,beq_iff_eq,decide_eq_true_iff]
       rw [←fx2] at fin
       clear hK h3 fx2 fx sat
       unfold Si.row at HR
       generalize siP v.ss[i]=p at *
       generalize ixN v.ss[i].n (v.ss.map Si.n) 0=z at *
       generalize v.ss[i].n=nme at *
       generalize hq:(z==(i:Int))=q at *
       simp -implicitDefEqProofs [g,gR,ra,v10,vl,sl']
       refine onC_mk _ (HR) ?_
       cases p
       ·have fin:=fin false (by simp)
        simp -implicitDefEqProofs
        refine onAk 2 ((fadd fs false 11 nme).map Fd.row) ?_ ?_
        ·simp [caS]
         exact A4 false
        simp -implicitDefEqProofs [caSt]
        refine fin _ ?_
        refine weak_mk ?_ ?_ ?_ ?_ ?_ ?_<;>simp -implicitDefEqProofs [t1,vi]
       ·by_cases c1:v.now<v.ss[i].tl
        ·simp [c1,v0,v10,vl]
         refine onC_mk _ (FI) ?_
         cases q
         ·have fin:=fin false (by simp)
          simp -implicitDefEqProofs [hq]
          refine onAk 2 ((fadd fs false 11 nme).map Fd.row) ?_ ?_
          ·simp [caS]
           exact A4 false
          simp -implicitDefEqProofs [caSt]
          refine fin _ ?_
          refine weak_mk ?_ ?_ ?_ ?_ ?_ ?_<;>simp -implicitDefEqProofs [t1,vi]
         ·by_cases c3:i<12
          ·have c3':(i:Int)<12:=by omega
           have fin:=fin true (by simp [c1,c3])
           simp -implicitDefEqProofs [hq,c3,c3']
           refine onAk 2 ((fadd fs true 11 nme).map Fd.row) ?_ ?_
           ·simp [caS]
            exact A4 true
           simp -implicitDefEqProofs [caSt]
           refine fin _ ?_
           refine weak_mk ?_ ?_ ?_ ?_ ?_ ?_<;>simp -implicitDefEqProofs [t1,vi]
          ·have c3': ¬(i:Int)<12:=by omega
           have fin:=fin false (by simp [c3])
           simp -implicitDefEqProofs [hq,c3,c3']
           refine onAk 2 ((fadd fs false 11 nme).map Fd.row) ?_ ?_
           ·simp [caS]
            exact A4 false
           simp -implicitDefEqProofs [caSt]
           refine fin _ ?_
           refine weak_mk ?_ ?_ ?_ ?_ ?_ ?_<;>simp -implicitDefEqProofs [t1,vi]
        ·have fin:=fin false (by simp [c1])
         simp -implicitDefEqProofs [c1,v0,vl]
         refine onAk 2 ((fadd fs false 11 nme).map Fd.row) ?_ ?_
         ·simp [caS]
          exact A4 false
         simp -implicitDefEqProofs [caSt]
         refine fin _ ?_
         refine weak_mk ?_ ?_ ?_ ?_ ?_ ?_<;>simp -implicitDefEqProofs [t1,vi]
      ·obtain rfl:i=v.ss.length:=by omega
       rw [List.drop_length] at h3
       simp only [silsF] at h3
       subst h3
       clear hK
       simp -implicitDefEqProofs [v10,vl,sl']
     ·exact ⟨Nat.zero_le _,by simp only;omega,hR3.symm⟩
     ·refine weak_mk ?_ ?_ ?_ ?_ ?_ ?_<;>simp -implicitDefEqProofs [vi]
   ·exact ⟨Nat.zero_le _,by simp only;omega,hR2.symm⟩
   ·refine weak_mk ?_ ?_ ?_ ?_ ?_ ?_<;>simp -implicitDefEqProofs [vi]
 ·exact ⟨Nat.zero_le _,by simp only;omega,hR.symm⟩
 ·refine weak_mk ?_ ?_ ?_ ?_ ?_ ?_<;>simp -implicitDefEqProofs [vi]
end Go.Ai
