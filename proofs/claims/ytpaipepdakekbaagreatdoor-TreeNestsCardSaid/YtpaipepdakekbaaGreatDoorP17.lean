/- P17: a part of the proof: the rules, or what functions compute. Conditions: as each theorem says. -/
import Derived.Test.YtpaipepdakekbaaGreatDoorP16
import Derived.Test.YtpaipepdakekbaaGreatDoorP8
import Derived.Test.YtpaipepdakekbaaGreatDoorCode
import Derived.Lib.LaidU8
import GoSem.PinnedTables
set_option linter.unusedSimpArgs false
set_option linter.unusedVariables false
set_option maxRecDepth 20000
namespace Go.Ai
open Go.Proofs
theorem bareL_take (L:List It) (i:Nat) (h:i<L.length):itRows (bareL (L.take (i+1)))=itRows (bareL (L.take i))++[(bareI L[i]).row]:=by
 rw [List.take_succ_eq_append_getElem h,bareL_app,itRows_app]
 rfl
theorem bareL_len: ∀L:List It,(bareL L).length=L.length
 |[]=>rfl
 |x::L=>by rw [bareL,List.length_cons,List.length_cons,bareL_len L]
theorem bare_rows (ws:List Tk) (k:Nat) (h:k<ws.length):((ws.take (k+1)).map bareT).map Tk.row=((ws.take k).map bareT).map Tk.row++[(bareT ws[k]).row]:=by
 rw [List.take_succ_eq_append_getElem h,List.map_append,List.map_append]
 rfl
set_option maxHeartbeats 2000000 in
theorem rbare14_spec: ∀(N:Nat) (L:List It),cntL L≤N→cntL L≤1000→wfL L→ ∀d:Nat,SpH Tryz.prog gl 12 d ⟨[.sl (itRows L)],[],[]⟩ ⟨.sl (itRows (bareL L)),[],[(.s 0,6)]⟩:=by
 intro N
 induction N with
 |zero=>
  intro L h hc hw d
  have hL:L=[]:=by
   have:=len_cnt L
   exact List.eq_nil_of_length_eq_zero (by omega)
  subst hL
  refine h12 rfl ?_
  simp only [inSt,mpB,mpL,AV.mp,mpP,Pl.mp,itRows,bareL]
  simp -implicitDefEqProofs [c12]
  refine wp_lpk (α:=Unit) (fun _=>⟨[(0,.sl []),(3,.sl []),(4,i6 0)],[],[(.s 3,6)]⟩) (fun _=>True) (fun _=>0) ?_ () trivial ?_
  ·rintro K x hK _
   clear hK
   simp -implicitDefEqProofs
   refine postH_r ⟨?_,?_,?_,?_,?_,?_⟩<;>simp -implicitDefEqProofs
  ·refine weak_mk ?_ ?_ ?_ ?_ ?_ ?_<;>simp -implicitDefEqProofs
 |succ N ih=>
  intro L h hc hw d
  refine h12 rfl ?_
  have hlim:lim=140737488355328:=rfl
  obtain ⟨R,hR⟩: ∃R,R=itRows (bareL L):=⟨_,rfl⟩
  rw [←hR]
  have rl:=itRows_len L
  have rat:=itRows_at L
  have ll:=len_cnt L
  generalize itRows L=RR at *
  simp only [inSt,mpB,mpL,AV.mp,mpP,Pl.mp]
  simp -implicitDefEqProofs [c12]
  refine wp_lpk (α:=Nat) (fun i=>⟨[(0,.sl RR),(3,.sl (itRows (bareL (L.take i)))),(4,i6 i)],[],[(.s 3,6)]⟩) (fun i=>i≤L.length) (fun i=>L.length - i) ?_ 0 (Nat.zero_le _) ?_
  ·rintro K i hK h1
   have t1:IntKind.i64.wrap ((i:Int)+1)=(i+1:Nat):=by rw [wrap_i64]<;>omega
   by_cases g:i<L.length
   ·have g':(i:Int)<L.length:=by omega
    have gR:i<RR.length:=by omega
    have rai:=rat i g gR
    have hx1:=cnt_mem (List.getElem_mem g)
    have hx2:=wf_mem hw (List.getElem_mem g)
    have fin:=fun σ' hσ=>hK (i+1) σ' (by omega) (by omega) hσ
    rw [bareL_take L i g] at fin
    have hOl:(itRows (bareL (L.take i))).length=i:=by rw [itRows_len,bareL_len,List.length_take];omega
    have hO6:=it_six (bareL (L.take i))
    clear hK rat
    generalize L[i]=x at *
    obtain ⟨xn,ws,xb,ks,xl,xc⟩:=x
    rw [cntI] at hx1
    rw [wfI] at hx2
    rw [bareI,It.row] at fin
    have IH:=Sp.of_h fun d=>(ih ks (by omega) (by omega) hx2.2.2.2 d).noPm
    have hw6:=hx2.1
    rw [It.row] at rai
    generalize itRows (bareL (L.take i))=OR at *
    generalize itRows ks=IR at *
    generalize itRows (bareL ks)=BR at *
    clear hx2 ih
    have wl:(ws.map Tk.row).length=ws.length:=List.length_map _
    have wat: ∀k (h:k<ws.length),∀h2,(ws.map Tk.row)[k]'h2=[i6 ws[k].k,.str ws[k].t,u ws[k].n,i6 ws[k].ln,i6 ws[k].co]:=fun k h h2=>by simp [Tk.row]
    have wbe:((ws.take ws.length).map bareT).map Tk.row=(ws.map bareT).map Tk.row:=by rw [List.take_length]
    have wsn:=bare_rows ws
    have wbl: ∀k,k≤ws.length→(((ws.take k).map bareT).map Tk.row).length=k:=fun k hk=>by simp;omega
    have wb5: ∀k,∀r∈((ws.take k).map bareT).map Tk.row,r.length=5:=fun k r hr=>by
     simp only [List.mem_map] at hr
     obtain ⟨q,_,rfl⟩:=hr
     rfl
    generalize ws.map Tk.row=WR at *
    simp -implicitDefEqProofs [g,g',gR,rai,rl]
    refine onC_mk _ (IH) ?_
    simp -implicitDefEqProofs
    refine wp_lpk (α:=Nat) (fun k=>⟨[(0,.sl RR),(3,.sl OR),(4,i6 i),(5,.ptr (.n 5) 0),(6,i6 k)],[(.n 5,[.str xn,.sl (((ws.take k).map bareT).map Tk.row),.bool xb,.sl BR,i6 0,i6 0])],[(.s 3,6),(.b (.n 5) 1,5)]⟩) (fun k=>k≤ws.length) (fun k=>ws.length - k) ?_ 0 (Nat.zero_le _) ?_
    ·rintro K k hK2 h2
     have t2:IntKind.i64.wrap ((k:Int)+1)=(k+1:Nat):=by rw [wrap_i64]<;>omega
     by_cases gk:k<ws.length
     ·have gk':(k:Int)<ws.length:=by omega
      have gW:k<WR.length:=by omega
      have wak:=wat k gk gW
      have fin2:=fun σ' hσ=>hK2 (k+1) σ' (by omega) (by omega) hσ
      rw [wsn k gk] at fin2
      have hwl:=wbl k h2
      have hw5:=wb5 k
      clear hK2 wat wsn wbl wb5 fin wbe
      generalize ((ws.take k).map bareT).map Tk.row=CR at *
      generalize ws[k]=w at *
      obtain ⟨wk,wt,wn,wl1,wc⟩:=w
      simp only [bareT,Tk.row] at fin2 wak
      simp -implicitDefEqProofs [g,g',gR,rai,rl,gk,gk',gW,wak,wl,hlim]
      refine ⟨by omega,hw5,?_⟩
      refine fin2 _ ?_
      refine weak_mk ?_ ?_ ?_ ?_ ?_ ?_<;>simp -implicitDefEqProofs [t2]
     ·obtain rfl:k=ws.length:=by omega
      have gk': ¬(ws.length:Int)<ws.length:=by omega
      rw [wbe] at *
      clear hK2 wat wsn wbl wb5
      generalize (ws.map bareT).map Tk.row=CR at *
      simp -implicitDefEqProofs [g,g',gR,rai,rl,wl,gk',hlim]
      refine ⟨by omega,hO6,?_⟩
      refine fin _ ?_
      refine weak_mk ?_ ?_ ?_ ?_ ?_ ?_<;>simp -implicitDefEqProofs [t1]
    ·rw [List.take_zero]
     clear wat wsn wbl wb5 fin wbe
     refine weak_mk ?_ ?_ ?_ ?_ ?_ ?_<;>simp -implicitDefEqProofs
   ·obtain rfl:i=L.length:=by omega
    have g': ¬(L.length:Int)<L.length:=by omega
    rw [List.take_length,←hR]
    clear hK
    simp -implicitDefEqProofs [g',rl]
    refine postH_r ⟨?_,?_,?_,?_,?_,?_⟩<;>simp -implicitDefEqProofs
  ·rw [List.take_zero]
   refine weak_mk ?_ ?_ ?_ ?_ ?_ ?_<;>simp -implicitDefEqProofs [bareL,itRows]
set_option maxHeartbeats 2000000 in
theorem rsame14_spec: ∀(N:Nat) (L:List It),cntL L≤N→cntL L≤1000→wfL L→Sp Tryz.prog gl 10 [.sl (itRows L),.sl (itRows L)] (.bool true):=by
 intro N
 induction N with
 |zero=>
  intro L h hc hw
  have hL:L=[]:=by
   have:=len_cnt L
   exact List.eq_nil_of_length_eq_zero (by omega)
  subst hL
  refine s10 rfl rfl ?_
  simp -implicitDefEqProofs [c10,itRows]
  refine wp_lpk (α:=Unit) (fun _=>⟨[(0,.sl []),(1,.sl []),(5,i6 0)],[],[]⟩) (fun _=>True) (fun _=>0) ?_ () trivial ?_
  ·rintro K x hK _
   clear hK
   simp -implicitDefEqProofs
  ·refine weak_mk ?_ ?_ ?_ ?_ ?_ ?_<;>simp -implicitDefEqProofs
 |succ N ih=>
  intro L h hc hw
  refine s10 rfl rfl ?_
  have rl:=itRows_len L
  have rat:=itRows_at L
  have ll:=len_cnt L
  generalize itRows L=RR at *
  simp -implicitDefEqProofs [c10]
  refine wp_lpk (α:=Nat) (fun i=>⟨[(0,.sl RR),(1,.sl RR),(5,i6 i)],[],[]⟩) (fun i=>i≤L.length) (fun i=>L.length - i) ?_ 0 (Nat.zero_le _) ?_
  ·rintro K i hK h1
   have t1:IntKind.i64.wrap ((i:Int)+1)=(i+1:Nat):=by rw [wrap_i64]<;>omega
   by_cases g:i<L.length
   ·have g':(i:Int)<L.length:=by omega
    have gR:i<RR.length:=by omega
    have rai:=rat i g gR
    have hx1:=cnt_mem (List.getElem_mem g)
    have hx2:=wf_mem hw (List.getElem_mem g)
    have fin:=fun σ' hσ=>hK (i+1) σ' (by omega) (by omega) hσ
    clear hK rat
    generalize L[i]=x at *
    obtain ⟨xn,ws,xb,ks,xl,xc⟩:=x
    rw [cntI] at hx1
    rw [wfI] at hx2
    have IH:=ih ks (by omega) (by omega) hx2.2.2.2
    have SM:=same13_spec ws (by omega)
    rw [It.row] at rai
    generalize itRows ks=IR at *
    generalize ws.map Tk.row=WR at *
    clear hx2 ih
    simp -implicitDefEqProofs [g,g',gR,rai,rl]
    refine onC_mk _ (SM) ?_
    simp -implicitDefEqProofs [g,gR,rai,rl]
    refine onC_mk _ (IH) ?_
    simp -implicitDefEqProofs
    refine fin _ ?_
    refine weak_mk ?_ ?_ ?_ ?_ ?_ ?_<;>simp -implicitDefEqProofs [t1]
   ·obtain rfl:i=L.length:=by omega
    have g': ¬(L.length:Int)<L.length:=by omega
    clear hK
    simp -implicitDefEqProofs [g',rl]
  ·refine weak_mk ?_ ?_ ?_ ?_ ?_ ?_<;>simp -implicitDefEqProofs
end Go.Ai
namespace Go.Ai
theorem drop_inL {A t l:List Int} {m:Nat} (h:l.drop m=A++t) (ht:t.head?=some 10∨t=[]):InL A l m:=by
 have e: ∀q,l[m+q]?=(A++t)[q]?:=fun q=>by rw [←h,List.getElem?_drop]
 refine ⟨fun q hq=>by rw [e,List.getElem?_append_left hq],?_⟩
 rw [e,List.getElem?_append_right (Nat.le_refl _),Nat.sub_self]
 rcases ht with h|h
 ·left
  cases t with
  |nil=>cases h
  |cons x t=>simpa using h
 ·right;rw [h];rfl
theorem tok_nest (s:List UInt8) (hs:(tokF s).c=0) (hl:s.length≤30000):
  ∃o z0 o' t1 t2 t3 z,(tokF s).l=o++[z0]∧o'.map tsay=o.map tsay∧tsay t1=(1,[97],0)∧tsay t2=(7,[],0)∧tsay t3=(8,[],0)∧endTk z∧(∀t∈o',OkTk t)∧
   tokF ([97,32,123]++s++[10,125])=⟨t1::t2::(o'++[t3,z]),0,0,0⟩:=by
 have er:runesL ([97,32,123]++s++[10,125]) 0=97::32::123::(runesL s 0++[10,125]):=by
  have e1:([97,32,123]++s++[10,125]:List UInt8)=97::32::123::(s++10::[125]):=by simp
  rw [e1,runes_cons _ _ (by decide),runes_cons _ _ (by decide),runes_cons _ _ (by decide),runes_cat s [125] 10 (by decide),runes_cons 125 [] (by decide),runesL_out (s:=[]) (i:=0) (by simp)]
  rfl
 unfold tokF refF at hs ⊢
 rw [if_neg (by omega)] at hs ⊢
 rw [if_neg (by simp;omega),er]
 generalize runesL s 0=A at *
 generalize plc 1 1 A=PA at *
 generalize hl':97::32::123::(A++[10,125])=l at *
 generalize plc 1 1 l=P at *
 have iA:InL A l 3:=drop_inL (t:=[10,125]) (by rw [←hl'];rfl) (.inl rfl)
 have ln:l.length=A.length+5:=by rw [←hl'];simp
 have g0:l[0]?=some 97:=by rw [←hl'];rfl
 have g1:l[1]?=some 32:=by rw [←hl'];rfl
 have g2:l[2]?=some 123:=by rw [←hl'];rfl
 have gA: ∀q,l[3+A.length+q]?=([10,125]:List Int)[q]?:=fun q=>by
  have:l.drop (3+A.length)=[10,125]:=by
   rw [←hl',←List.drop_drop]
   exact List.drop_left
  rw [←this,List.getElem?_drop]
 have g3:l[3+A.length]?=some 10:=gA 0
 have g4:l[3+A.length+1]?=some 125:=gA 1
 have o1:oneF rV sU l 0 97=⟨1,[97],0,1,0⟩:=by
  have w:wEnd l 0=1:=by
   obtain ⟨q0,q1⟩:=List.getElem?_eq_some_iff.1 g0
   obtain ⟨p0,p1⟩:=List.getElem?_eq_some_iff.1 g1
   rw [wEnd_in q0,q1,if_pos (by decide),wEnd_in p0,p1,if_neg (by decide)]
  have sb:subR l 0 1=[97]:=by rw [←hl'];rfl
  unfold oneF
  rw [if_neg (by decide),if_neg (by decide),if_neg (by decide),if_neg (by decide),if_pos (by decide),w,sb,rV_name [97] [97] (by decide) (by decide) (by decide) (by decide)]
  rfl
 obtain ⟨o,o',z0,e1,z1,s1,k1,r1⟩:=refGo_inL iA PA P (A.length+1) 0 [] [⟨1,[97],0,(P.getD 0 (0,0)).1,(P.getD 0 (0,0)).2⟩,⟨7,[],0,(P.getD 2 (0,0)).1,(P.getD 2 (0,0)).2⟩] (by omega) (Nat.zero_le _) hs
 have ra:=Rds.tok (P:=P) (out:=[]) g0 (by decide) o1 (by decide)
 have rb:=Rds.blank (P:=P) (out:=[]++[⟨1,[97],0,(P.getD 0 (0,0)).1,(P.getD 0 (0,0)).2⟩]) g1 (by decide)
 have rc:=Rds.tok (P:=P) (out:=[]++[⟨1,[97],0,(P.getD 0 (0,0)).1,(P.getD 0 (0,0)).2⟩]) (k:=7) (w:=[]) (n:=0) (e:=3) g2 (by decide) rfl (by decide)
 have rd:=Rds.blank (P:=P) (out:=[⟨1,[97],0,(P.getD 0 (0,0)).1,(P.getD 0 (0,0)).2⟩,⟨7,[],0,(P.getD 2 (0,0)).1,(P.getD 2 (0,0)).2⟩]++o') g3 (by decide)
 have re:=Rds.tok (P:=P) (out:=[⟨1,[97],0,(P.getD 0 (0,0)).1,(P.getD 0 (0,0)).2⟩,⟨7,[],0,(P.getD 2 (0,0)).1,(P.getD 2 (0,0)).2⟩]++o') (k:=8) (w:=[]) (n:=0) (e:=3+A.length+1+1) g4 (by decide) rfl (by omega)
 obtain ⟨f',hf,e'⟩:=(((ra.trans rb).trans rc).trans ((r1.trans rd).trans re)) (l.length+1) (by omega)
 cases f' with
 |zero=>omega
 |succ f'=>
  have e3:=e'.trans (refGo_fin rV sU l P f' (3+A.length+1+1) _ (List.getElem?_eq_none (by omega)))
  refine ⟨o,z0,o',⟨1,[97],0,(P.getD 0 (0,0)).1,(P.getD 0 (0,0)).2⟩,⟨7,[],0,(P.getD 2 (0,0)).1,(P.getD 2 (0,0)).2⟩,⟨8,[],0,(P.getD (3+A.length+1) (0,0)).1,(P.getD (3+A.length+1) (0,0)).2⟩,⟨0,[],0,(P.getD l.length (0,0)).1,(P.getD l.length (0,0)).2⟩,by rw [e1,List.nil_append],s1,rfl,rfl,rfl,⟨rfl,rfl,rfl⟩,k1,?_⟩
  rw [e3]
  simp
open Go.Proofs
theorem parsed_says {s:List UInt8} {its:List It} (h:ParsedT s its) {o:List Tk} {z:Tk} (e:(tokF s).l=o++[z]):o.map tsay=(toksL its).map tsay:=by
 obtain ⟨T,z',e2,_,tk,_⟩:=h.h
 rw [e] at e2
 rw [←tk,List.map_map,List.append_inj_left' e2 rfl]
 rfl
theorem pL_fin (f d:Nat) (out:List It) (z:Tk) (n:Nat) (hz:endTk z) (hf:2*([z]:List Tk).length+1≤f): ∃l',pL f d 0 out [z] n= .ok out l' n:=by
 cases f with
 |zero=>simp at hf
 |succ f=>
  rw [pL]
  rw [if_pos hz.1]
  exact ⟨_,rfl⟩
theorem bareL_one {its:List It} {nm:List UInt8} {L:List It} (h:bareL its=bareL [.mk nm [] true L 0 0]): ∃ks ln co,its=[.mk nm [] true ks ln co]∧bareL ks=bareL L:=by
 cases its with
 |nil=>simp only [bareL] at h;cases h
 |cons x r=>
  obtain ⟨n,ws,b,ks,ln,co⟩:=x
  simp only [bareL,bareI,List.map_nil,List.cons.injEq,It.mk.injEq,List.map_eq_nil_iff] at h
  obtain ⟨⟨rfl,rfl,rfl,h3,_⟩,h4⟩:=h
  cases r with
  |nil=>exact ⟨ks,ln,co,rfl,h3⟩
  |cons y r=>simp only [bareL] at h4;cases h4
theorem nest_law (s:List UInt8) (L:List It) (hs:ParsedT s L) (h1:s.length≤5000):
  (3<depL L∧(((parseF ([97,32,123]++s++[10,125])).2.1=19∧(parseF ([97,32,123]++s++[10,125])).1=[])∨300≤cntL L))∨
  (depL L≤3∧300≤cntL L∧(parseF ([97,32,123]++s++[10,125])).2.1=9∧(parseF ([97,32,123]++s++[10,125])).1=[])∨
  (depL L≤3∧cntL L<300∧(parseF ([97,32,123]++s++[10,125])).2=(0,0,0)∧ ∃ks ln co,(parseF ([97,32,123]++s++[10,125])).1=[.mk [97] [] true ks ln co]∧bareL ks=bareL L):=by
 obtain ⟨o,z0,o',t1,t2,t3,z,e1,e2,q1,q2,q3,hz,k1,e5⟩:=tok_nest s hs.c (by omega)
 have s1:=parsed_says hs e1
 unfold parseF
 rw [if_neg (by rw [e5];simp),e5]
 dsimp only
 have hT:(t1::t2::(o'++[t3])).map tsay=(toksL [.mk [97] [] true L 0 0]).map tsay:=by
  simp only [toksL,toksI,List.map_cons,List.map_append,e2,s1,q1,q2,q3,List.map_nil,List.nil_append,List.append_nil,Bool.true_eq_false,if_false]
  rfl
 have hw:wfL [.mk [97] [] true L 0 0]:=by
  simp only [wfL,wfI]
  exact ⟨⟨by simp,by simp,by simp,hs.wf⟩,trivial⟩
 have hd:depL [.mk [97] [] true L 0 0]=1+depL L:=by simp only [depL,depI,Nat.max_zero]
 have hc:cntL [.mk [97] [] true L 0 0]=1+cntL L:=by simp only [cntL,cntI,Nat.add_zero]
 have el:t1::t2::(o'++[t3,z])=(t1::t2::(o'++[t3]))++[z]:=by simp
 rw [el]
 have B:=(p_bwd (2*(t1::t2::(o'++[t3])++[z]).length+3)).1 [.mk [97] [] true L 0 0] (t1::t2::(o'++[t3])) [z] 1 0 [] 0 hT hw (by simp) (by omega) (.inl rfl) (by omega)
 rw [Nat.zero_add,hc,hd] at B
 rcases B with ⟨its',f',h3,h4,h5,h6,h7⟩|⟨c,t,l',n',h3,h4⟩
 ·obtain ⟨l'',hp⟩:=pL_fin f' 1 ([]++its') z (1+cntL L) hz h5
  rw [hp] at h4
  rw [h4]
  rcases h6 with h6|h6
  ·cases h6
  refine .inr (.inr ⟨by omega,by omega,rfl,?_⟩)
  dsimp only
  rw [List.nil_append]
  exact bareL_one h3
 ·rw [h3]
  dsimp only
  rcases h4 with ⟨h,g⟩|⟨h,g⟩
  ·exact .inl ⟨by omega,.inl ⟨h,rfl⟩⟩
  ·by_cases c3:3<depL L
   ·exact .inl ⟨c3,.inr (by omega)⟩
   ·exact .inr (.inl ⟨by omega,by omega,h,rfl⟩)
open Go.Proofs
theorem wfL_one {n:List UInt8} {ks:List It} {ln co:Int} {s:List UInt8} (h:(parseF s).1=[.mk n [] true ks ln co]) (h2:(parseF s).2=(0,0,0)):wfL ks∧cntL ks≤300:=by
 rcases parse_fwd s with ⟨q,_⟩|⟨_,q⟩
 ·rw [h2] at q;exact absurd rfl q
 ·have w:=q.wf
  have c:=q.cnt
  rw [h] at w c
  simp only [wfL,wfI] at w
  simp only [cntL,cntI] at c
  exact ⟨w.1.2.2.2,by omega⟩
mutual
theorem bareI_wf: ∀x:It,wfI x→wfI (bareI x)∧cntI (bareI x)=cntI x
 | .mk n ws b ks ln co,h=>by
  rw [wfI] at h
  obtain ⟨h1,h2,h3,h4⟩:=h
  obtain ⟨q1,q2⟩:=bareL_wf ks h4
  refine ⟨?_,by rw [bareI,cntI,cntI,q2]⟩
  rw [bareI,wfI]
  refine ⟨by simpa using h1,fun w hw=>?_,fun hb=>by rw [h3 hb];rfl,q1⟩
  obtain ⟨t,ht,rfl⟩:=List.mem_map.1 hw
  exact h2 t ht
theorem bareL_wf: ∀L:List It,wfL L→wfL (bareL L)∧cntL (bareL L)=cntL L
 |[],_=>⟨trivial,rfl⟩
 |x::L,h=>by
  rw [wfL] at h
  obtain ⟨q1,q2⟩:=bareI_wf x h.1
  obtain ⟨q3,q4⟩:=bareL_wf L h.2
  rw [bareL,wfL,cntL,cntL,q2,q4]
  exact ⟨⟨q1,q3⟩,rfl⟩
end
set_option maxHeartbeats 2000000 in
theorem treeNests_spec (s:List UInt8):Sp Tryz.prog gl 5 [.str s] (.bool true):=by
 refine s5 rfl rfl ?_
 have AW:=awake14_spec
 by_cases c0:5000<s.length
 ·have c0':(5000:Int)<s.length:=by omega
  simp -implicitDefEqProofs [c5]
  refine onC_mk _ (AW) ?_
  simp -implicitDefEqProofs [c0,c0']
 have c0': ¬(5000:Int)<s.length:=by omega
 have L1:3+s.length≤9223372036854775807:=by omega
 have L2:s.length+1+1+1+2≤9223372036854775807:=by omega
 have PS:=tparse_spec s
 have PF:=parse_fwd s
 have PN:=tparse_spec ([97,32,123]++s++[10,125])
 have NL:=nest_law s
 have W1:=fun n ks ln co=> @wfL_one n ks ln co ([97,32,123]++s++[10,125])
 generalize parseF s=x at *
 generalize parseF ([97,32,123]++s++[10,125])=y at *
 obtain ⟨its,c,a,b⟩:=x
 obtain ⟨it2,c2,a2,b2⟩:=y
 simp only [parseV] at PS PF PN NL W1
 have eC:([97,32,123]++s++[10,125]:List UInt8)=97::32::123::(s++[10,125]):=by simp
 rw [eC] at PN
 rcases PF with ⟨h1,h2⟩|⟨h1,h2⟩
 ·subst h2
  have h1':(c !=0)=true:=by simpa using h1
  simp only [itRows] at PS
  clear NL W1
  generalize itRows it2=I2 at *
  simp -implicitDefEqProofs [c5]
  refine onC_mk _ (AW) ?_
  simp -implicitDefEqProofs [c0,c0']
  refine onC_mk _ (PS) ?_
  simp -implicitDefEqProofs [L1,L2]
  refine onC_mk _ (PN) ?_
  simp -implicitDefEqProofs [h1,h1']
 ·simp only [Prod.mk.injEq] at h1
  obtain ⟨rfl,rfl,rfl⟩:=h1
  have NL:=NL its h2 (by omega)
  have hn:=h2.cnt
  have DP:=rdepth14_spec _ its (Nat.le_refl _) (by omega)
  have CN:=rcount14_spec _ its (Nat.le_refl _) (by omega)
  have BB:=Sp.of_h fun d=>(rbare14_spec _ its (Nat.le_refl _) (by omega) h2.wf d).noPm
  obtain ⟨bw,bc⟩:=bareL_wf its h2.wf
  have SS:=rsame14_spec _ (bareL its) (Nat.le_refl _) (by omega) bw
  clear h2
  rcases NL with ⟨g1,g2⟩|⟨g1,g2,g3,g4⟩|⟨g1,g2,g3,ks,ln,co,g4,g5⟩
  ·have g1':(3:Int)<depL its:=by omega
   by_cases cc:300≤cntL its
   ·have cc':(300:Int)≤cntL its:=by omega
    generalize cntL its=CC at *
    generalize depL its=DD at *
    generalize itRows its=II at *
    generalize itRows it2=I2 at *
    clear SS BB W1
    simp -implicitDefEqProofs [c5]
    refine onC_mk _ (AW) ?_
    simp -implicitDefEqProofs [c0,c0']
    refine onC_mk _ (PS) ?_
    simp -implicitDefEqProofs [L1,L2]
    refine onC_mk _ (PN) ?_
    simp -implicitDefEqProofs
    refine onC_mk _ (DP) ?_
    simp -implicitDefEqProofs [g1,g1']
    by_cases q1:c2=19
    ·subst q1
     by_cases q2:((I2.length:Int)==0)=true
     ·simp [q2]
     ·have q2:((I2.length:Int)==0)=false:=by simpa using q2
      simp -implicitDefEqProofs [q2]
      refine onC_mk _ (CN) ?_
      simp -implicitDefEqProofs [cc,cc']
    ·have q1':(c2==19)=false:=by simpa using q1
     simp -implicitDefEqProofs [q1,q1']
     refine onC_mk _ (CN) ?_
     simp -implicitDefEqProofs [cc,cc']
   ·obtain ⟨g2,g3⟩:c2=19∧it2=[]:=g2.resolve_right (by omega)
    subst g2
    subst g3
    simp only [itRows] at PN
    generalize depL its=DD at *
    generalize itRows its=II at *
    clear SS BB W1 CN
    simp -implicitDefEqProofs [c5]
    refine onC_mk _ (AW) ?_
    simp -implicitDefEqProofs [c0,c0']
    refine onC_mk _ (PS) ?_
    simp -implicitDefEqProofs [L1,L2]
    refine onC_mk _ (PN) ?_
    simp -implicitDefEqProofs
    refine onC_mk _ (DP) ?_
    simp -implicitDefEqProofs [g1,g1']
  ·have g1': ¬(3:Int)<depL its:=by omega
   have g2':(300:Int)≤cntL its:=by omega
   subst g3
   subst g4
   simp only [itRows] at PN
   generalize cntL its=CC at *
   generalize depL its=DD at *
   generalize itRows its=II at *
   clear SS BB W1
   simp -implicitDefEqProofs [c5]
   refine onC_mk _ (AW) ?_
   simp -implicitDefEqProofs [c0,c0']
   refine onC_mk _ (PS) ?_
   simp -implicitDefEqProofs [L1,L2]
   refine onC_mk _ (PN) ?_
   simp -implicitDefEqProofs
   refine onC_mk _ (DP) ?_
   simp -implicitDefEqProofs [g1,g1']
   refine onC_mk _ (CN) ?_
   simp -implicitDefEqProofs [g2,g2']
  ·have g1': ¬(3:Int)<depL its:=by omega
   have g2': ¬(300:Int)≤cntL its:=by omega
   obtain ⟨wk,ck⟩:=W1 _ _ _ _ g4 g3
   simp only [Prod.mk.injEq] at g3
   obtain ⟨rfl,rfl,rfl⟩:=g3
   subst g4
   simp only [itRows,It.row,List.map_nil] at PN
   have BK:=Sp.of_h fun d=>(rbare14_spec _ ks (Nat.le_refl _) (by omega) wk d).noPm
   rw [g5] at BK
   clear g5 W1
   generalize cntL its=CC at *
   generalize depL its=DD at *
   generalize itRows (bareL its)=BI at *
   generalize itRows its=II at *
   generalize itRows ks=KK at *
   simp -implicitDefEqProofs [c5]
   refine onC_mk _ (AW) ?_
   simp -implicitDefEqProofs [c0,c0']
   refine onC_mk _ (PS) ?_
   simp -implicitDefEqProofs [L1,L2]
   refine onC_mk _ (PN) ?_
   simp -implicitDefEqProofs
   refine onC_mk _ (DP) ?_
   simp -implicitDefEqProofs [g1,g1']
   refine onC_mk _ (CN) ?_
   simp -implicitDefEqProofs [g2,g2']
   refine onC_mk _ (BK) ?_
   simp -implicitDefEqProofs
   refine onC_mk _ (BB) ?_
   simp -implicitDefEqProofs
   refine onC_mk _ (SS) ?_
   simp -implicitDefEqProofs
end Go.Ai
namespace Go.Ai
open Go.Proofs Go.Lib
set_option maxRecDepth 100000
def accCells:List Value:=(List.range 32).map fun o=>Value.int .u8 (if o%2=0 then (accLo (o / 2):Int) else (accHi (o / 2):Int))
def firstCells:List Value:=firstTab.map fun z=>Value.int .u8 z
theorem first_cell {W:World} (h:VarReads Tryz.prog W "unicode/utf8.first" firstData) (o:Nat) (u:Value) (hu:firstCells[o]?=some u):W.cell? ⟨1,o,none⟩=some u∧u.oneCell'=true:=by
 have hg0:Tryz.prog.globalNamed "unicode/utf8.first"=some 1:=by kernel_rfl
 have ht0:(Tryz.prog.globals[1]?).map (·.type)=some 159:=by kernel_rfl
 obtain ⟨g,t,cs,fuel,p,hg,hty,hvar,hd⟩:=h
 obtain rfl:=Option.some.inj (hg0.symm.trans hg)
 obtain rfl:=Option.some.inj (ht0.symm.trans hty)
 have hcs:=cells_of_tab (t:=159) (e:=5) (n:=256) (by kernel_rfl) (by kernel_rfl) (by kernel_rfl) (by kernel_rfl) hd
 refine ⟨?_,?_⟩
 ·rw [World.var?_cell hg hvar o,←Array.getElem?_toList,hcs]
  exact hu
 ·obtain ⟨z,_,rfl⟩:=List.mem_map.1 (List.mem_of_getElem? hu)
  rfl
theorem acc_cell {W:World} (h:VarReads Tryz.prog W "unicode/utf8.acceptRanges" acceptData) (o:Nat) (u:Value) (hu:accCells[o]?=some u):W.cell? ⟨2,o,none⟩=some u∧u.oneCell'=true:=by
 have hg0:Tryz.prog.globalNamed "unicode/utf8.acceptRanges"=some 2:=by kernel_rfl
 have ht0:(Tryz.prog.globals[2]?).map (·.type)=some 162:=by kernel_rfl
 have hc0:Tryz.prog.cellsOf 161=2:=by kernel_rfl
 obtain ⟨g,t,cs,fuel,p,hg,hty,hvar,hd⟩:=h
 obtain rfl:=Option.some.inj (hg0.symm.trans hg)
 obtain rfl:=Option.some.inj (ht0.symm.trans hty)
 have ho:o<32:=by have:=(List.getElem?_eq_some_iff.1 hu).1;simpa [accCells] using this
 simp only [accCells,List.getElem?_map,List.getElem?_range ho,Option.map_some,Option.some.injEq] at hu
 subst hu
 refine ⟨?_,by split<;>rfl⟩
 have hi:o / 2<16:=by omega
 obtain ⟨fuel',d,q,hdi,he⟩:=array_elem (t:=162) (e:=161) (n:=16) (by kernel_rfl) hd (o / 2) hi
 simp only [List.getElem?_map,List.getElem?_range hi,Option.map_some,Option.some.injEq] at hdi
 subst hdi
 rw [hc0] at he
 obtain ⟨fs,hfs,hsz,hf⟩: ∃fs:Array Field,Tryz.prog.underlying 161=some (.struct fs)∧fs.size=2∧ ∀(i:Nat) (f:Field),fs[i]?=some f→Tryz.prog.underlying f.type=some (.int .u8)∧f.offset=i∧Tryz.prog.cellsOf f.type=1:=by
  refine ⟨_,(by kernel_rfl:Tryz.prog.underlying 161=some (.struct #[Field.mk "lo" 5 0 false "" "unicode/utf8" 0,Field.mk "hi" 5 1 false "" "unicode/utf8" 1])),rfl,fun j f hj=>?_⟩
  match j,hj with
  |0,hj=>simp at hj;subst hj;exact ⟨by kernel_rfl,rfl,by kernel_rfl⟩
  |1,hj=>simp at hj;subst hj;exact ⟨by kernel_rfl,rfl,by kernel_rfl⟩
  |j+2,hj=>simp at hj
 have hcs:=ints_of_struct hfs hf (by rw [hc0,hsz]) he
 have e0:=congrArg (·[0]?) hcs
 have e1:=congrArg (·[1]?) hcs
 simp only [List.getElem?_take,List.getElem?_drop] at e0 e1
 rw [World.var?_cell hg hvar o,←Array.getElem?_toList]
 by_cases hp:o%2=0
 ·rw [if_pos hp]
  have eo:o / 2*2+0=o:=by omega
  rw [eo] at e0
  simpa using e0
 ·rw [if_neg hp]
  have eo:o / 2*2+1=o:=by omega
  rw [eo] at e1
  simpa using e1
end Go.Ai
