/- P17: a part of the proof: the rules, or what functions compute. Conditions: as each theorem says. -/
import Derived.Test.YtpaipepdakekbaaGreatDoorP16
import Derived.Test.YtpaipepdakekbaaGreatDoorP8
import Derived.Test.YtpaipepdakekbaaGreatDoorCode
import Derived.Lib.LaidU8
import GoSem.PinnedTables
set_option linter.unusedSimpArgs false
set_option linter.unusedVariables false
set_option maxRecDepth 20000
namespace Go.Ai
open Go.Proofs
theorem bareL_take (L:List It) (i:Nat) (h:i<L.length):itRows (bareL (L.take (i+1)))=itRows (bareL (L.take i))++[(bareI L[i]).row]:=by
 rw [List.take_succ_eq_append_getElem h,bareL_app,itRows_app]
 rfl
theorem bareL_len: ∀L:List It,(bareL L).length=L.length
 |[]=>rfl
 |x::L=>by rw [bareL,List.length_cons,List.length_cons,bareL_len L]
theorem bare_rows (ws:List Tk) (k:Nat) (h:k<ws.length):((ws.take (k+1)).map bareT).map Tk.row=((ws.take k).map bareT).map Tk.row++[(bareT ws[k]).row]:=by
 rw [List.take_succ_eq_append_getElem h,List.map_append,List.map_append]
 rfl
set_option maxHeartbeats 2000000 in
theorem rbare14_spec: ∀(N:Nat) (L:List It),cntL L≤N→cntL L≤1000→wfL L→ ∀d:Nat,SpH Tryz.prog gl 12 d ⟨[.sl (itRows L)],[],[]⟩ ⟨.sl (itRows (bareL L)),[],[(.s 0,6)]⟩:=by
 intro N
 induction N with
 |zero=>
  intro L h hc hw d
  have hL:L=[]:=by
   have:=len_cnt L
   exact List.eq_nil_of_length_eq_zero (by omega)
  subst hL
  refine h12 rfl ?_
  simp only [inSt,mpB,mpL,AV.mp,mpP,Pl.mp,itRows,bareL]
  simp -implicitDefEqProofs [c12]
  refine wp_lpk (α:=Unit) (fun _=>⟨[(0,.sl []),(3,.sl []),(4,i6 0)],[],[(.s 3,6)]⟩) (fun _=>True) (fun _=>0) ?_ () trivial ?_
  ·rintro K x hK _
   clear hK
   simp -implicitDefEqProofs
   refine postH_r ⟨?_,?_,?_,?_,?_,?_⟩<;>simp -implicitDefEqProofs
  ·refine weak_mk ?_ ?_ ?_ ?_ ?_ ?_<;>simp -implicitDefEqProofs
 |succ N ih=>
  intro L h hc hw d
  refine h12 rfl ?_
  have hlim:lim=140737488355328:=rfl
  obtain ⟨R,hR⟩: ∃R,R=itRows (bareL L):=⟨_,rfl⟩
  rw [←hR]
  have rl:=itRows_len L
  have rat:=itRows_at L
  have ll:=len_cnt L
  generalize itRows L=RR at *
  simp only [inSt,mpB,mpL,AV.mp,mpP,Pl.mp]
  simp -implicitDefEqProofs [c12]
  refine wp_lpk (α:=Nat) (fun i=>⟨[(0,.sl RR),(3,.sl (itRows (bareL (L.take i)))),(4,i6 i)],[],[(.s 3,6)]⟩) (fun i=>i≤L.length) (fun i=>L.length - i) ?_ 0 (Nat.zero_le _) ?_
  ·rintro K i hK h1
   have t1:IntKind.i64.wrap ((i:Int)+1)=(i+1:Nat):=by rw [wrap_i64]<;>omega
   by_cases g:i<L.length
   ·have g':(i:Int)<L.length:=by omega
    have gR:i<RR.length:=by omega
    have rai:=rat i g gR
    have hx1:=cnt_mem (List.getElem_mem g)
    have hx2:=wf_mem hw (List.getElem_mem g)
    have fin:=fun σ' hσ=>hK (i+1) σ' (by omega) (by omega) hσ
    rw [bareL_take L i g] at fin
    have hOl:(itRows (bareL (L.take i))).length=i:=by rw [itRows_len,bareL_len,List.length_take];omega
    have hO6:=it_six (bareL (L.take i))
    clear hK rat
    generalize L[i]=x at *
    obtain ⟨xn,ws,xb,ks,xl,xc⟩:=x
    rw [cntI] at hx1
    rw [wfI] at hx2
    rw [bareI,It.row] at fin
    have IH:=Sp.of_h fun d=>(ih ks (by omega) (by omega) hx2.2.2.2 d).noPm
    have hw6:=hx2.1
    rw [It.row] at rai
    generalize itRows (bareL (L.take i))=OR at *
    generalize itRows ks=IR at *
    generalize itRows (bareL ks)=BR at *
    clear hx2 ih
    have wl:(ws.map Tk.row).length=ws.length:=List.length_map _
    have wat: ∀k (h:k<ws.length),∀h2,(ws.map Tk.row)[k]'h2=[i6 ws[k].k,.str ws[k].t,u ws[k].n,i6 ws[k].ln,i6 ws[k].co]:=fun k h h2=>by simp [Tk.row]
    have wbe:((ws.take ws.length).map bareT).map Tk.row=(ws.map bareT).map Tk.row:=by rw [List.take_length]
    have wsn:=bare_rows ws
    have wbl: ∀k,k≤ws.length→(((ws.take k).map bareT).map Tk.row).length=k:=fun k hk=>by simp;omega
    have wb5: ∀k,∀r∈((ws.take k).map bareT).map Tk.row,r.length=5:=fun k r hr=>by
     simp only [List.mem_map] at hr
     obtain ⟨q,_,rfl⟩:=hr
     rfl
    generalize ws.map Tk.row=WR at *
    simp -implicitDefEqProofs [g,g',gR,rai,rl]
    refine onC_mk _ (IH) ?_
    simp -implicitDefEqProofs
    refine wp_lpk (α:=Nat) (fun k=>⟨[(0,.sl RR),(3,.sl OR),(4,i6 i),(5,.ptr (.n 5) 0),(6,i6 k)],[(.n 5,[.str xn,.sl (((ws.take k).map bareT).map Tk.row),.bool xb,.sl BR,i6 0,i6 0])],[(.s 3,6),(.b (.n 5) 1,5)]⟩) (fun k=>k≤ws.length) (fun k=>ws.length - k) ?_ 0 (Nat.zero_le _) ?_
    ·rintro K k hK2 h2
     have t2:IntKind.i64.wrap ((k:Int)+1)=(k+1:Nat):=by rw [wrap_i64]<;>omega
     by_cases gk:k<ws.length
     ·have gk':(k:Int)<ws.length:=by omega
      have gW:k<WR.length:=by omega
      have wak:=wat k gk gW
      have fin2:=fun σ' hσ=>hK2 (k+1) σ' (by omega) (by omega) hσ
      rw [wsn k gk] at fin2
      have hwl:=wbl k h2
      have hw5:=wb5 k
      clear hK2 wat wsn wbl wb5 fin wbe
      generalize ((ws.take k).map bareT).map Tk.row=CR at *
      generalize ws[k]=w at *
      obtain ⟨wk,wt,wn,wl1,wc⟩:=w
      simp only [bareT,Tk.row] at fin2 wak
      simp -implicitDefEqProofs [g,g',gR,rai,rl,gk,gk',gW,wak,wl,hlim]
      refine ⟨by omega,hw5,?_⟩
      refine fin2 _ ?_
      refine weak_mk ?_ ?_ ?_ ?_ ?_ ?_<;>simp -implicitDefEqProofs [t2]
     ·obtain rfl:k=ws.length:=by omega
      have gk': ¬(ws.length:Int)<ws.length:=by omega
      rw [wbe] at *
      clear hK2 wat wsn wbl wb5
      generalize (ws.map bareT).map Tk.row=CR at *
      simp -implicitDefEqProofs [g,g',gR,rai,rl,wl,gk',hlim]
      refine ⟨by omega,hO6,?_⟩
      refine fin _ ?_
      refine weak_mk ?_ ?_ ?_ ?_ ?_ ?_<;>simp -implicitDefEqProofs [t1]
    ·rw [List.take_zero]
     clear wat wsn wbl wb5 fin wbe
     refine weak_mk ?_ ?_ ?_ ?_ ?_ ?_<;>simp -implicitDefEqProofs
   ·obtain rfl:i=L.length:=by omega
    have g': ¬(L.length:Int)<L.length:=by omega
    rw [List.take_length,←hR]
    clear hK
    simp -implicitDefEqProofs [g',rl]
    refine postH_r ⟨?_,?_,?_,?_,?_,?_⟩<;>simp -implicitDefEqProofs
  ·rw [List.take_zero]
   refine weak_mk ?_ ?_ ?_ ?_ ?_ ?_<;>simp -implicitDefEqProofs [bareL,itRows]
set_option maxHeartbeats 2000000 in
theorem rsame14_spec: ∀(N:Nat) (L:List It),cntL L≤N→cntL L≤1000→wfL L→Sp Tryz.prog gl 10 [.sl (itRows L),.sl (itRows L)] (.bool true):=by
 intro N
 induction N with
 |zero=>
  intro L h hc hw
  have hL:L=[]:=by
   have:=len_cnt L
   exact List.eq_nil_of_length_eq_zero (by omega)
  subst hL
  refine s10 rfl rfl ?_
  simp -implicitDefEqProofs [c10,itRows]
  refine wp_lpk (α:=Unit) (fun _=>⟨[(0,.sl []),(1,.sl []),(5,i6 0)],[],[]⟩) (fun _=>True) (fun _=>0) ?_ () trivial ?_
  ·rintro K x hK _
   clear hK
   simp -implicitDefEqProofs
  ·refine weak_mk ?_ ?_ ?_ ?_ ?_ ?_<;>simp -implicitDefEqProofs
 |succ N ih=>
  intro L h hc hw
  refine s10 rfl rfl ?_
  have rl:=itRows_len L
  have rat:=itRows_at L
  have ll:=len_cnt L
  generalize itRows L=RR at *
  simp -implicitDefEqProofs [c10]
  refine wp_lpk (α:=Nat) (fun i=>⟨[(0,.sl RR),(1,.sl RR),(5,i6 i)],[],[]⟩) (fun i=>i≤L.length) (fun i=>L.length - i) ?_ 0 (Nat.zero_le _) ?_
  ·rintro K i hK h1
   have t1:IntKind.i64.wrap ((i:Int)+1)=(i+1:Nat):=by rw [wrap_i64]<;>omega
   by_cases g:i<L.length
   ·have g':(i:Int)<L.length:=by omega
    have gR:i<RR.length:=by omega
    have rai:=rat i g gR
    have hx1:=cnt_mem (List.getElem_mem g)
    have hx2:=wf_mem hw (List.getElem_mem g)
    have fin:=fun σ' hσ=>hK (i+1) σ' (by omega) (by omega) hσ
    clear hK rat
    generalize L[i]=x at *
    obtain ⟨xn,ws,xb,ks,xl,xc⟩:=x
    rw [cntI] at hx1
    rw [wfI] at hx2
    have IH:=ih ks (by omega) (by omega) hx2.2.2.2
    have SM:=same13_spec ws (by omega)
    rw [It.row] at rai
    generalize itRows ks=IR at *
    generalize ws.map Tk.row=WR at *
    clear hx2 ih
    simp -implicitDefEqProofs [g,g',gR,rai,rl]
    refine onC_mk _ (SM) ?_
    simp -implicitDefEqProofs [g,gR,rai,rl]
    refine onC_mk _ (IH) ?_
    simp -implicitDefEqProofs
    refine fin _ ?_
    refine weak_mk ?_ ?_ ?_ ?_ ?_ ?_<;>simp -implicitDefEqProofs [t1]
   ·obtain rfl:i=L.length:=by omega
    have g': ¬(L.length:Int)<L.length:=by omega
    clear hK
    simp -implicitDefEqProofs [g',rl]
  ·refine weak_mk ?_ ?_ ?_ ?_ ?_ ?_<;>simp -implicitDefEqProofs
end Go.Ai
namespace Go.Ai
theorem drop_inL {A t l:List Int} {m:Nat} (h:l.drop m=A++t) (ht:t.head?=some 10∨t=[]):InL A l m:=by
 have e: ∀q,l[m+q]?=(A++t)[q]?:=fun q=>by rw [←h,List.getElem?_drop]
 refine ⟨fun q hq=>by rw [e,List.getElem?_append_left hq],?_⟩
 rw [e,List.getElem?_append_right (Nat.le_refl _),Nat.sub_self]
 rcases ht with h|h
 ·left
  cases t with
  |nil=>cases h
  |cons x t=>simpa using h
 ·right;rw [h];rfl
theorem tok_join (a b:List UInt8) (ha:(tokF a).c=0) (hb:(tokF b).c=0) (hl:(a++10::b).length≤40000):
  ∃oa za ob zb oa' ob' z,(tokF a).l=oa++[za]∧(tokF b).l=ob++[zb]∧oa'.map tsay=oa.map tsay∧ob'.map tsay=ob.map tsay∧endTk z∧(∀t∈oa',OkTk t)∧(∀t∈ob',OkTk t)∧tokF (a++10::b)=⟨oa'++ob'++[z],0,0,0⟩:=by
 have la:a.length≤40000:=by rw [List.length_append] at hl;omega
 have lb:b.length≤40000:=by rw [List.length_append,List.length_cons] at hl;omega
 have er:=runes_cat a b 10 (by decide)
 unfold tokF refF at ha hb ⊢
 rw [if_neg (by omega)] at ha hb ⊢
 rw [if_neg (by omega),if_neg (by omega),er]
 generalize runesL a 0=A at *
 generalize runesL b 0=B at *
 generalize plc 1 1 A=PA at *
 generalize plc 1 1 B=PB at *
 have e10:(((10:UInt8).toNat:Nat):Int)=10:=rfl
 rw [e10]
 generalize plc 1 1 (A++10::B)=P at *
 have iA:InL A (A++10::B) 0:=drop_inL rfl (.inl rfl)
 have iB:InL B (A++10::B) (A.length+1):=drop_inL (t:=[]) (by
  rw [List.append_nil,←List.drop_drop,List.drop_left]
  rfl) (.inr rfl)
 obtain ⟨oa,oa',za,e1,z1,s1,k1,r1⟩:=refGo_inL iA PA P (A.length+1) 0 [] [] (by omega) (Nat.zero_le _) ha
 obtain ⟨ob,ob',zb,e2,z2,s2,k2,r2⟩:=refGo_inL iB PB P (B.length+1) 0 [] oa' (by omega) (Nat.zero_le _) hb
 rw [Nat.zero_add,Nat.zero_add,List.nil_append] at r1
 have at10:(A++10::B)[A.length]?=some 10:=by
  rw [List.getElem?_append_right (Nat.le_refl _),Nat.sub_self]
  rfl
 have r12:=(r1.trans (Rds.blank (P:=P) (out:=oa') at10 (by decide))).trans r2
 obtain ⟨f',hf,e'⟩:=r12 ((A++10::B).length+1) (by omega)
 cases f' with
 |zero=>omega
 |succ f'=>
  have e3:=e'.trans (refGo_fin rV sU (A++10::B) P f' (A.length+1+B.length) (oa'++ob') (List.getElem?_eq_none (by simp only [List.length_append,List.length_cons];omega)))
  exact ⟨oa,za,ob,zb,oa',ob',_,by rw [e1,List.nil_append],by rw [e2,List.nil_append],s1,s2,⟨rfl,rfl,rfl⟩,k1,k2,e3⟩
open Go.Proofs
theorem parsed_says {s:List UInt8} {its:List It} (h:ParsedT s its) {o:List Tk} {z:Tk} (e:(tokF s).l=o++[z]):o.map tsay=(toksL its).map tsay:=by
 obtain ⟨T,z',e2,_,tk,_⟩:=h.h
 rw [e] at e2
 rw [←tk,List.map_map,List.append_inj_left' e2 rfl]
 rfl
theorem pL_fin (f d:Nat) (out:List It) (z:Tk) (n:Nat) (hz:endTk z) (hf:2*([z]:List Tk).length+1≤f): ∃l',pL f d 0 out [z] n= .ok out l' n:=by
 cases f with
 |zero=>simp at hf
 |succ f=>
  rw [pL]
  rw [if_pos hz.1]
  exact ⟨_,rfl⟩
theorem join_law (a b:List UInt8) (la lb:List It) (ha:ParsedT a la) (hb:ParsedT b lb) (h1:a.length≤5000) (h2:b.length≤5000):
  (300<cntL la+cntL lb∧(parseF (a++10::b)).1=[]∧(parseF (a++10::b)).2.1=9)∨
  (cntL la+cntL lb≤300∧(parseF (a++10::b)).2=(0,0,0)∧bareL (parseF (a++10::b)).1=bareL la++bareL lb):=by
 obtain ⟨oa,za,ob,zb,oa',ob',z,e1,e2,e3,e4,hz,k1,k2,e5⟩:=tok_join a b ha.c hb.c (by rw [List.length_append,List.length_cons];omega)
 have s1:=parsed_says ha e1
 have s2:=parsed_says hb e2
 unfold parseF
 rw [if_neg (by rw [e5];simp),e5]
 dsimp only
 have hT:(oa'++ob').map tsay=(toksL (la++lb)).map tsay:=by
  rw [List.map_append,e3,e4,s1,s2,toksL_app,List.map_append]
 have hd:depL (la++lb)≤4:=by
  rw [depL_app]
  have q1:depL la≤4:=by
   rcases ha.dep with h|h
   ·subst h;rw [depL];omega
   ·exact h
  have q2:depL lb≤4:=by
   rcases hb.dep with h|h
   ·subst h;rw [depL];omega
   ·exact h
  omega
 have hc:cntL (la++lb)=cntL la+cntL lb:=cntL_app la lb
 have B:=(p_bwd (2*(oa'++ob'++[z]).length+3)).1 (la++lb) (oa'++ob') [z] 1 0 [] 0 hT ((wfL_app la lb).2 ⟨ha.wf,hb.wf⟩) (by simp) (by omega) (.inl rfl) (by omega)
 rw [Nat.zero_add,hc] at B
 rcases B with ⟨its',f',h3,h4,h5,_,h7⟩|⟨c,t,l',n',h3,h4⟩
 ·obtain ⟨l'',hp⟩:=pL_fin f' 1 ([]++its') z (cntL la+cntL lb) hz h5
  rw [hp] at h4
  rw [h4]
  refine .inr ⟨h7,rfl,?_⟩
  dsimp only
  rw [List.nil_append,h3,bareL_app]
 ·rw [h3]
  dsimp only
  rcases h4 with ⟨_,h⟩|⟨h,g⟩
  ·omega
  ·exact .inl ⟨g,rfl,h⟩
open Go.Proofs
mutual
theorem bareI_wf: ∀x:It,wfI x→wfI (bareI x)∧cntI (bareI x)=cntI x
 | .mk n ws b ks ln co,h=>by
  rw [wfI] at h
  obtain ⟨h1,h2,h3,h4⟩:=h
  obtain ⟨q1,q2⟩:=bareL_wf ks h4
  refine ⟨?_,by rw [bareI,cntI,cntI,q2]⟩
  rw [bareI,wfI]
  refine ⟨by simpa using h1,fun w hw=>?_,fun hb=>by rw [h3 hb];rfl,q1⟩
  obtain ⟨t,ht,rfl⟩:=List.mem_map.1 hw
  exact h2 t ht
theorem bareL_wf: ∀L:List It,wfL L→wfL (bareL L)∧cntL (bareL L)=cntL L
 |[],_=>⟨trivial,rfl⟩
 |x::L,h=>by
  rw [wfL] at h
  obtain ⟨q1,q2⟩:=bareI_wf x h.1
  obtain ⟨q3,q4⟩:=bareL_wf L h.2
  rw [bareL,wfL,cntL,cntL,q2,q4]
  exact ⟨⟨q1,q3⟩,rfl⟩
end
open Go.Proofs
theorem wfL_of {s:List UInt8} (h2:(parseF s).2=(0,0,0)):wfL (parseF s).1∧cntL (parseF s).1≤300:=by
 rcases parse_fwd s with ⟨q,_⟩|⟨_,q⟩
 ·rw [h2] at q;exact absurd rfl q
 ·exact ⟨q.wf,q.cnt⟩
set_option maxHeartbeats 2000000 in
theorem treeJoins_spec (s t:List UInt8):Sp Tryz.prog gl 4 [.str s,.str t] (.bool true):=by
 refine s4 rfl rfl ?_
 have hlim:lim=140737488355328:=rfl
 have AW:=awake14_spec
 by_cases c0:5000<s.length
 ·have c0':(5000:Int)<s.length:=by omega
  simp -implicitDefEqProofs [c4]
  refine onC_mk _ (AW) ?_
  simp -implicitDefEqProofs [c0,c0']
 have c0': ¬(5000:Int)<s.length:=by omega
 by_cases c1:5000<t.length
 ·have c1':(5000:Int)<t.length:=by omega
  simp -implicitDefEqProofs [c4]
  refine onC_mk _ (AW) ?_
  simp -implicitDefEqProofs [c0,c0',c1,c1']
 have c1': ¬(5000:Int)<t.length:=by omega
 have L1:s.length≤9223372036854775806:=by omega
 have L2:s.length+1+t.length≤9223372036854775807:=by omega
 have PS:=tparse_spec s
 have PT:=tparse_spec t
 have PF:=parse_fwd s
 have PG:=parse_fwd t
 have PN:=tparse_spec (s++10::t)
 have NL:=join_law s t
 have W1:= @wfL_of (s++10::t)
 generalize parseF s=x at *
 generalize parseF t=y at *
 generalize parseF (s++10::t)=z at *
 obtain ⟨its,c,a,b⟩:=x
 obtain ⟨it2,c2,a2,b2⟩:=y
 obtain ⟨it3,c3,a3,b3⟩:=z
 simp only [parseV] at PS PT PF PG PN NL W1
 rcases PF with ⟨h1,h2⟩|⟨h1,h2⟩
 ·subst h2
  have h1':(c !=0)=true:=by simpa using h1
  simp only [itRows] at PS
  clear NL W1 PN PG
  generalize itRows it2=I2 at *
  simp -implicitDefEqProofs [c4]
  refine onC_mk _ (AW) ?_
  simp -implicitDefEqProofs [c0,c0',c1,c1']
  refine onC_mk _ (PS) ?_
  simp -implicitDefEqProofs
  refine onC_mk _ (PT) ?_
  simp -implicitDefEqProofs [h1,h1']
 simp only [Prod.mk.injEq] at h1
 obtain ⟨rfl,rfl,rfl⟩:=h1
 rcases PG with ⟨k1,k2⟩|⟨k1,k2⟩
 ·subst k2
  have k1':(c2 !=0)=true:=by simpa using k1
  simp only [itRows] at PT
  clear NL W1 PN h2
  generalize itRows its=I1 at *
  simp -implicitDefEqProofs [c4]
  refine onC_mk _ (AW) ?_
  simp -implicitDefEqProofs [c0,c0',c1,c1']
  refine onC_mk _ (PS) ?_
  simp -implicitDefEqProofs
  refine onC_mk _ (PT) ?_
  simp -implicitDefEqProofs [k1,k1']
  by_cases q2:((I1.length:Int)==0)=true
  ·simp [q2]
  ·have q2:((I1.length:Int)==0)=false:=by simpa using q2
   simp -implicitDefEqProofs [q2]
 simp only [Prod.mk.injEq] at k1
 obtain ⟨rfl,rfl,rfl⟩:=k1
 have NL:=NL its it2 h2 k2 (by omega) (by omega)
 have hn:=h2.cnt
 have kn:=k2.cnt
 have CN:=rcount14_spec _ its (Nat.le_refl _) (by omega)
 have CM:=rcount14_spec _ it2 (Nat.le_refl _) (by omega)
 have w1:IntKind.i64.wrap ((cntL its:Int)+(cntL it2:Int))=(cntL its+cntL it2:Nat):=by rw [wrap_i64]<;>omega
 rcases NL with ⟨g1,g2,g3⟩|⟨g1,g2,g3⟩
 ·have g1':(300:Int)<(cntL its:Int)+(cntL it2:Int):=by omega
  subst g2
  subst g3
  simp only [itRows] at PN
  clear W1 h2 k2
  generalize cntL its=C1 at *
  generalize cntL it2=C2 at *
  generalize itRows its=I1 at *
  generalize itRows it2=I2 at *
  simp -implicitDefEqProofs [c4]
  refine onC_mk _ (AW) ?_
  simp -implicitDefEqProofs [c0,c0',c1,c1']
  refine onC_mk _ (PS) ?_
  simp -implicitDefEqProofs
  refine onC_mk _ (PT) ?_
  simp -implicitDefEqProofs [L1,L2]
  refine onC_mk _ (PN) ?_
  simp -implicitDefEqProofs
  refine onC_mk _ (CN) ?_
  simp -implicitDefEqProofs
  refine onC_mk _ (CM) ?_
  simp -implicitDefEqProofs
  simp -implicitDefEqProofs [w1,g1,g1']
 ·have g1': ¬(300:Int)<(cntL its:Int)+(cntL it2:Int):=by omega
  obtain ⟨w3,w4⟩:=W1 g2
  simp only [Prod.mk.injEq] at g2
  obtain ⟨rfl,rfl,rfl⟩:=g2
  have B1:=rbare14_spec _ its (Nat.le_refl _) (by omega) h2.wf
  have B2:=Sp.of_h fun d=>(rbare14_spec _ it2 (Nat.le_refl _) (by omega) k2.wf d).noPm
  have B3:=Sp.of_h fun d=>(rbare14_spec _ it3 (Nat.le_refl _) (by omega) w3 d).noPm
  obtain ⟨bw,bc⟩:=bareL_wf it3 w3
  have SS:=rsame14_spec _ (bareL it3) (Nat.le_refl _) (by omega) bw
  rw [g3,itRows_app] at SS B3
  have l1:=len_cnt its
  have l2:=len_cnt it2
  have r1:(itRows (bareL its)).length=its.length:=by rw [itRows_len,bareL_len]
  have r2:(itRows (bareL it2)).length=it2.length:=by rw [itRows_len,bareL_len]
  have r6:=it_six (bareL its)
  have r7:=it_six (bareL it2)
  clear g3 W1 h2 k2 bw bc w3 w4
  generalize cntL its=C1 at *
  generalize cntL it2=C2 at *
  generalize itRows (bareL its)=Q1 at *
  generalize itRows (bareL it2)=Q2 at *
  generalize itRows its=I1 at *
  generalize itRows it2=I2 at *
  generalize itRows it3=I3 at *
  simp -implicitDefEqProofs [c4]
  refine onC_mk _ (AW) ?_
  simp -implicitDefEqProofs [c0,c0',c1,c1']
  refine onC_mk _ (PS) ?_
  simp -implicitDefEqProofs
  refine onC_mk _ (PT) ?_
  simp -implicitDefEqProofs [L1,L2]
  refine onC_mk _ (PN) ?_
  simp -implicitDefEqProofs
  refine onC_mk _ (CN) ?_
  simp -implicitDefEqProofs
  refine onC_mk _ (CM) ?_
  simp -implicitDefEqProofs
  simp -implicitDefEqProofs [w1,g1,g1',hlim]
  refine ⟨6,Q1,?_,?_⟩
  ·intro d
   exact B1 d
  simp -implicitDefEqProofs
  refine onC_mk _ (B2) ?_
  simp -implicitDefEqProofs [hlim]
  refine ⟨rfl,?_,r6,r7,?_⟩
  ·rw [r1,r2];omega
  simp -implicitDefEqProofs [caSt]
  refine onC_mk _ (B3) ?_
  simp -implicitDefEqProofs
  refine onC_mk _ (SS) ?_
  simp -implicitDefEqProofs
end Go.Ai
namespace Go.Ai
open Go.Proofs Go.Lib
set_option maxRecDepth 100000
def accCells:List Value:=(List.range 32).map fun o=>Value.int .u8 (if o%2=0 then (accLo (o / 2):Int) else (accHi (o / 2):Int))
def firstCells:List Value:=firstTab.map fun z=>Value.int .u8 z
theorem first_cell {W:World} (h:VarReads Tryz.prog W "unicode/utf8.first" firstData) (o:Nat) (u:Value) (hu:firstCells[o]?=some u):W.cell? ⟨1,o,none⟩=some u∧u.oneCell'=true:=by
 have hg0:Tryz.prog.globalNamed "unicode/utf8.first"=some 1:=by kernel_rfl
 have ht0:(Tryz.prog.globals[1]?).map (·.type)=some 159:=by kernel_rfl
 obtain ⟨g,t,cs,fuel,p,hg,hty,hvar,hd⟩:=h
 obtain rfl:=Option.some.inj (hg0.symm.trans hg)
 obtain rfl:=Option.some.inj (ht0.symm.trans hty)
 have hcs:=cells_of_tab (t:=159) (e:=5) (n:=256) (by kernel_rfl) (by kernel_rfl) (by kernel_rfl) (by kernel_rfl) hd
 refine ⟨?_,?_⟩
 ·rw [World.var?_cell hg hvar o,←Array.getElem?_toList,hcs]
  exact hu
 ·obtain ⟨z,_,rfl⟩:=List.mem_map.1 (List.mem_of_getElem? hu)
  rfl
theorem acc_cell {W:World} (h:VarReads Tryz.prog W "unicode/utf8.acceptRanges" acceptData) (o:Nat) (u:Value) (hu:accCells[o]?=some u):W.cell? ⟨2,o,none⟩=some u∧u.oneCell'=true:=by
 have hg0:Tryz.prog.globalNamed "unicode/utf8.acceptRanges"=some 2:=by kernel_rfl
 have ht0:(Tryz.prog.globals[2]?).map (·.type)=some 162:=by kernel_rfl
 have hc0:Tryz.prog.cellsOf 161=2:=by kernel_rfl
 obtain ⟨g,t,cs,fuel,p,hg,hty,hvar,hd⟩:=h
 obtain rfl:=Option.some.inj (hg0.symm.trans hg)
 obtain rfl:=Option.some.inj (ht0.symm.trans hty)
 have ho:o<32:=by have:=(List.getElem?_eq_some_iff.1 hu).1;simpa [accCells] using this
 simp only [accCells,List.getElem?_map,List.getElem?_range ho,Option.map_some,Option.some.injEq] at hu
 subst hu
 refine ⟨?_,by split<;>rfl⟩
 have hi:o / 2<16:=by omega
 obtain ⟨fuel',d,q,hdi,he⟩:=array_elem (t:=162) (e:=161) (n:=16) (by kernel_rfl) hd (o / 2) hi
 simp only [List.getElem?_map,List.getElem?_range hi,Option.map_some,Option.some.injEq] at hdi
 subst hdi
 rw [hc0] at he
 obtain ⟨fs,hfs,hsz,hf⟩: ∃fs:Array Field,Tryz.prog.underlying 161=some (.struct fs)∧fs.size=2∧ ∀(i:Nat) (f:Field),fs[i]?=some f→Tryz.prog.underlying f.type=some (.int .u8)∧f.offset=i∧Tryz.prog.cellsOf f.type=1:=by
  refine ⟨_,(by kernel_rfl:Tryz.prog.underlying 161=some (.struct #[Field.mk "lo" 5 0 false "" "unicode/utf8" 0,Field.mk "hi" 5 1 false "" "unicode/utf8" 1])),rfl,fun j f hj=>?_⟩
  match j,hj with
  |0,hj=>simp at hj;subst hj;exact ⟨by kernel_rfl,rfl,by kernel_rfl⟩
  |1,hj=>simp at hj;subst hj;exact ⟨by kernel_rfl,rfl,by kernel_rfl⟩
  |j+2,hj=>simp at hj
 have hcs:=ints_of_struct hfs hf (by rw [hc0,hsz]) he
 have e0:=congrArg (·[0]?) hcs
 have e1:=congrArg (·[1]?) hcs
 simp only [List.getElem?_take,List.getElem?_drop] at e0 e1
 rw [World.var?_cell hg hvar o,←Array.getElem?_toList]
 by_cases hp:o%2=0
 ·rw [if_pos hp]
  have eo:o / 2*2+0=o:=by omega
  rw [eo] at e0
  simpa using e0
 ·rw [if_neg hp]
  have eo:o / 2*2+1=o:=by omega
  rw [eo] at e1
  simpa using e1
end Go.Ai
