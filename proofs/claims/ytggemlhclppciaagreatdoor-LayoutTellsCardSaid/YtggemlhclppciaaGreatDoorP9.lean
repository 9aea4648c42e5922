/- P9: a part of the proof: the rules, or what functions compute. Conditions: as each theorem says. -/
import Derived.Test.YtggemlhclppciaaGreatDoorP8
import Derived.Test.YtggemlhclppciaaGreatDoorP1
set_option linter.unusedSimpArgs false
set_option linter.unusedVariables false
set_option maxRecDepth 20000
namespace Go.Ai
structure InL (A l:List Int) (m:Nat):Prop where
 h: ∀q,q<A.length→l[m+q]?=A[q]?
 n:l[m+A.length]?=some 10∨l[m+A.length]?=none
theorem InL.at {A l:List Int} {m:Nat} (h:InL A l m) {i:Nat} (hi:i<A.length): ∃g:m+i<l.length,l[m+i]=A[i]:=by
 have:=h.h i hi
 rw [List.getElem?_eq_getElem hi] at this
 exact List.getElem?_eq_some_iff.1 this
theorem InL.fin {A l:List Int} {m:Nat} (h:InL A l m):(∃g:m+A.length<l.length,l[m+A.length]=10)∨ ¬m+A.length<l.length:=h.n.imp (fun h=>List.getElem?_eq_some_iff.1 h) (fun h=>by have:=List.getElem?_eq_none_iff.1 h;omega)
end Go.Ai
namespace Go.Ai
def Rds (l:List Int) (P:List (Int×Int)) (j e:Nat) (out out':List Tk):Prop:= ∀f,l.length - j<f→ ∃f',l.length - e<f'∧refGo rV sU l P f j out=refGo rV sU l P f' e out'
theorem Rds.refl (l:List Int) (P:List (Int×Int)) (j:Nat) (out:List Tk):Rds l P j j out out:=fun f h=>⟨f,h,rfl⟩
theorem Rds.trans {l:List Int} {P:List (Int×Int)} {j e g:Nat} {o1 o2 o3:List Tk} (h1:Rds l P j e o1 o2) (h2:Rds l P e g o2 o3):Rds l P j g o1 o3:=fun f h=>by
 obtain ⟨f1,a1,b1⟩:=h1 f h
 obtain ⟨f2,a2,b2⟩:=h2 f1 a1
 exact ⟨f2,a2,b1.trans b2⟩
theorem Rds.one {l:List Int} {P:List (Int×Int)} {j e:Nat} {o1 o2:List Tk} (hj:j<l.length) (he:j<e) (h: ∀f,refGo rV sU l P (f+1) j o1=refGo rV sU l P f e o2):Rds l P j e o1 o2:=fun f hf=>by
 cases f with
 |zero=>omega
 |succ f=>exact ⟨f,by omega,h f⟩
end Go.Ai
namespace Go.Ai
def bareT (t:Tk):Tk:=⟨t.k,t.t,t.n,0,0⟩
mutual
def bareI:It→It
 | .mk n ws b ks _ _=> .mk n (ws.map bareT) b (bareL ks) 0 0
def bareL:List It→List It
 |[]=>[]
 |x::r=>bareI x::bareL r
end
theorem bareL_app: ∀a b:List It,bareL (a++b)=bareL a++bareL b
 |[],b=>rfl
 |x::a,b=>by rw [List.cons_append,bareL,bareL,bareL_app a b,List.cons_append]
def Why (c:Int) (dp cn:Nat):Prop:=c=19∧5<dp∨c=9∧300<cn
theorem Why.mono {c:Int} {d n d' n':Nat} (h:Why c d n) (h1:d≤d') (h2:n≤n'):Why c d' n':=by
 rcases h with ⟨h,g⟩|⟨h,g⟩
 ·exact .inl ⟨h,by omega⟩
 ·exact .inr ⟨h,by omega⟩
open Go.Proofs
theorem cntL_snoc (L:List It) (i:Nat) (h:i<L.length):cntL (L.take (i+1))=cntL (L.take i)+cntI L[i]:=by
 rw [List.take_succ_eq_append_getElem h,cntL_app,cntL,cntL,Nat.add_zero]
theorem depL_snoc (L:List It) (i:Nat) (h:i<L.length):depL (L.take (i+1))=max (depL (L.take i)) (depI L[i]):=by
 rw [List.take_succ_eq_append_getElem h,depL_app,depL,depL,Nat.max_zero]
mutual
theorem depI_cnt: ∀x:It,depI x≤cntI x
 | .mk n ws b ks ln co=>by
  have:=depL_cnt ks
  rw [depI,cntI]
  omega
theorem depL_cnt: ∀L:List It,depL L≤cntL L
 |[]=>Nat.le_refl _
 |x::L=>by
  have h1:=depI_cnt x
  have h2:=depL_cnt L
  rw [depL,cntL]
  omega
end
theorem rcount14_spec: ∀(N:Nat) (L:List It),cntL L≤N→cntL L≤1000→Sp Tryz.prog gl 12 [.sl (itRows L)] (i6 (cntL L)):=by
 intro N
 induction N with
 |zero=>
  intro L h hc
  have hL:L=[]:=by
   have:=len_cnt L
   exact List.eq_nil_of_length_eq_zero (by omega)
  subst hL
  refine s12 rfl rfl ?_
  simp -implicitDefEqProofs [c12,itRows,cntL]
  refine wp_lpk (α:=Unit) (fun _=>⟨[(0,.sl []),(3,i6 0),(4,i6 0)],[],[]⟩) (fun _=>True) (fun _=>0) ?_ () trivial ?_
  ·rintro K x hK _
   clear hK
   simp -implicitDefEqProofs
  ·refine weak_mk ?_ ?_ ?_ ?_ ?_ ?_<;>simp -implicitDefEqProofs
 |succ N ih=>
  intro L h hc
  refine s12 rfl rfl ?_
  obtain ⟨R,hR⟩: ∃R,R=cntL L:=⟨_,rfl⟩
  rw [←hR]
  have rl:=itRows_len L
  have rat:=itRows_at L
  have ll:=len_cnt L
  generalize itRows L=RR at *
  simp -implicitDefEqProofs [c12]
  refine wp_lpk (α:=Nat) (fun i=>⟨[(0,.sl RR),(3,i6 (cntL (L.take i))),(4,i6 i)],[],[]⟩) (fun i=>i≤L.length) (fun i=>L.length - i) ?_ 0 (Nat.zero_le _) ?_
  ·rintro K i hK h1
   have t1:IntKind.i64.wrap ((i:Int)+1)=(i+1:Nat):=by rw [wrap_i64]<;>omega
   by_cases g:i<L.length
   ·have g':(i:Int)<L.length:=by omega
    have gR:i<RR.length:=by omega
    have rai:=rat i g gR
    have hx1:=cnt_mem (List.getElem_mem g)
    have tc:=cntL_take L i
    have tc2:=cntL_take L (i+1)
    have fin:=fun σ' hσ=>hK (i+1) σ' (by omega) (by omega) hσ
    rw [cntL_snoc L i g] at fin tc2
    clear hK
    generalize L[i]=x at *
    obtain ⟨xn,ws,xb,ks,xl,xc⟩:=x
    rw [cntI] at hx1 fin tc2
    have IH:=ih ks (by omega) (by omega)
    rw [It.row] at rai
    generalize itRows ks=IR at *
    generalize cntL ks=ck at *
    generalize cntL (L.take i)=ct at *
    have w1:IntKind.i64.wrap ((ct:Int)+1)=(ct+1:Nat):=by rw [wrap_i64]<;>omega
    have w2:IntKind.i64.wrap (((ct+1:Nat):Int)+(ck:Int))=(ct+(1+ck):Nat):=by rw [wrap_i64]<;>omega
    have w3:IntKind.i64.wrap ((ct:Int)+1+(ck:Int))=(ct+(1+ck):Nat):=by rw [wrap_i64]<;>omega
    simp -implicitDefEqProofs [g,g',gR,rai,rl]
    refine onC_mk _ (IH) ?_
    simp -implicitDefEqProofs [w1,w2,w3]
    refine fin _ ?_
    refine weak_mk ?_ ?_ ?_ ?_ ?_ ?_<;>simp -implicitDefEqProofs [t1,w1,w2,w3]
   ·obtain rfl:i=L.length:=by omega
    have g': ¬(L.length:Int)<L.length:=by omega
    rw [List.take_length,←hR]
    clear hK
    simp -implicitDefEqProofs [g',rl]
  ·refine weak_mk ?_ ?_ ?_ ?_ ?_ ?_<;>simp -implicitDefEqProofs [cntL]
theorem rdepth14_spec: ∀(N:Nat) (L:List It),cntL L≤N→cntL L≤1000→Sp Tryz.prog gl 14 [.sl (itRows L)] (i6 (depL L)):=by
 intro N
 induction N with
 |zero=>
  intro L h hc
  have hL:L=[]:=by
   have:=len_cnt L
   exact List.eq_nil_of_length_eq_zero (by omega)
  subst hL
  refine s14 rfl rfl ?_
  simp -implicitDefEqProofs [c14,itRows,depL]
  refine wp_lpk (α:=Unit) (fun _=>⟨[(0,.sl []),(3,i6 0),(4,i6 0)],[],[]⟩) (fun _=>True) (fun _=>0) ?_ () trivial ?_
  ·rintro K x hK _
   clear hK
   simp -implicitDefEqProofs
  ·refine weak_mk ?_ ?_ ?_ ?_ ?_ ?_<;>simp -implicitDefEqProofs
 |succ N ih=>
  intro L h hc
  refine s14 rfl rfl ?_
  obtain ⟨R,hR⟩: ∃R,R=depL L:=⟨_,rfl⟩
  rw [←hR]
  have rl:=itRows_len L
  have rat:=itRows_at L
  have ll:=len_cnt L
  generalize itRows L=RR at *
  simp -implicitDefEqProofs [c14]
  refine wp_lpk (α:=Nat) (fun i=>⟨[(0,.sl RR),(3,i6 (depL (L.take i))),(4,i6 i)],[],[]⟩) (fun i=>i≤L.length) (fun i=>L.length - i) ?_ 0 (Nat.zero_le _) ?_
  ·rintro K i hK h1
   have t1:IntKind.i64.wrap ((i:Int)+1)=(i+1:Nat):=by rw [wrap_i64]<;>omega
   by_cases g:i<L.length
   ·have g':(i:Int)<L.length:=by omega
    have gR:i<RR.length:=by omega
    have rai:=rat i g gR
    have hx1:=cnt_mem (List.getElem_mem g)
    have fin:=fun σ' hσ=>hK (i+1) σ' (by omega) (by omega) hσ
    rw [depL_snoc L i g] at fin
    clear hK
    generalize L[i]=x at *
    obtain ⟨xn,ws,xb,ks,xl,xc⟩:=x
    rw [cntI] at hx1
    have dk:=depL_cnt ks
    rw [depI] at fin
    have IH:=ih ks (by omega) (by omega)
    rw [It.row] at rai
    generalize itRows ks=IR at *
    generalize depL ks=dd at *
    generalize depL (L.take i)=ct at *
    have w1:IntKind.i64.wrap (1+(dd:Int))=(1+dd:Nat):=by rw [wrap_i64]<;>omega
    by_cases c:ct<1+dd
    ·have c':(ct:Int)<1+(dd:Int):=by omega
     rw [Nat.max_eq_right (by omega)] at fin
     simp -implicitDefEqProofs [g,g',gR,rai,rl]
     refine onC_mk _ (IH) ?_
     simp -implicitDefEqProofs [w1,c,c']
     refine fin _ ?_
     refine weak_mk ?_ ?_ ?_ ?_ ?_ ?_<;>simp -implicitDefEqProofs [t1,w1]
    ·have c': ¬(ct:Int)<1+(dd:Int):=by omega
     rw [Nat.max_eq_left (by omega)] at fin
     simp -implicitDefEqProofs [g,g',gR,rai,rl]
     refine onC_mk _ (IH) ?_
     simp -implicitDefEqProofs [w1,c,c']
     refine fin _ ?_
     refine weak_mk ?_ ?_ ?_ ?_ ?_ ?_<;>simp -implicitDefEqProofs [t1,w1]
   ·obtain rfl:i=L.length:=by omega
    have g': ¬(L.length:Int)<L.length:=by omega
    rw [List.take_length,←hR]
    clear hK
    simp -implicitDefEqProofs [g',rl]
  ·refine weak_mk ?_ ?_ ?_ ?_ ?_ ?_<;>simp -implicitDefEqProofs [depL]
open Go.Proofs
theorem bareL_take (L:List It) (i:Nat) (h:i<L.length):itRows (bareL (L.take (i+1)))=itRows (bareL (L.take i))++[(bareI L[i]).row]:=by
 rw [List.take_succ_eq_append_getElem h,bareL_app,itRows_app]
 rfl
theorem bareL_len: ∀L:List It,(bareL L).length=L.length
 |[]=>rfl
 |x::L=>by rw [bareL,List.length_cons,List.length_cons,bareL_len L]
theorem bare_rows (ws:List Tk) (k:Nat) (h:k<ws.length):((ws.take (k+1)).map bareT).map Tk.row=((ws.take k).map bareT).map Tk.row++[(bareT ws[k]).row]:=by
 rw [List.take_succ_eq_append_getElem h,List.map_append,List.map_append]
 rfl
open Go.Proofs
mutual
def bdI:It→Prop
 | .mk n ws _ ks _ _=>(ws.length≤1000∧n.length≤100000∧ ∀t∈ws,t.t.length≤100000)∧bdL ks
def bdL:List It→Prop
 |[]=>True
 |x::r=>bdI x∧bdL r
end
theorem bd_mem: ∀ {L:List It} {x:It},bdL L→x∈L→bdI x
 |y::L,x,hw,h=>by
  rw [bdL] at hw
  rcases List.mem_cons.1 h with rfl|h
  ·exact hw.1
  ·exact bd_mem hw.2 h
set_option maxHeartbeats 2000000 in
theorem rbareB_spec: ∀(N:Nat) (L:List It),cntL L≤N→cntL L≤100000→bdL L→Sp Tryz.prog gl 10 [.sl (itRows L)] (.sl (itRows (bareL L))):=by
 intro N
 induction N with
 |zero=>
  intro L h hc hw
  have hL:L=[]:=by
   have:=len_cnt L
   exact List.eq_nil_of_length_eq_zero (by omega)
  subst hL
  refine s10 rfl rfl ?_
  simp -implicitDefEqProofs [c10,itRows,bareL]
  refine wp_lpk (α:=Unit) (fun _=>⟨[(0,.sl []),(3,.sl []),(4,i6 0)],[],[(.s 3,6)]⟩) (fun _=>True) (fun _=>0) ?_ () trivial ?_
  ·rintro K x hK _
   clear hK
   simp -implicitDefEqProofs
  ·refine weak_mk ?_ ?_ ?_ ?_ ?_ ?_<;>simp -implicitDefEqProofs
 |succ N ih=>
  intro L h hc hw
  refine s10 rfl rfl ?_
  have hlim:lim=140737488355328:=rfl
  obtain ⟨R,hR⟩: ∃R,R=itRows (bareL L):=⟨_,rfl⟩
  rw [←hR]
  have rl:=itRows_len L
  have rat:=itRows_at L
  have ll:=len_cnt L
  generalize itRows L=RR at *
  simp -implicitDefEqProofs [c10]
  refine wp_lpk (α:=Nat) (fun i=>⟨[(0,.sl RR),(3,.sl (itRows (bareL (L.take i)))),(4,i6 i)],[],[(.s 3,6)]⟩) (fun i=>i≤L.length) (fun i=>L.length - i) ?_ 0 (Nat.zero_le _) ?_
  ·rintro K i hK h1
   have t1:IntKind.i64.wrap ((i:Int)+1)=(i+1:Nat):=by rw [wrap_i64]<;>omega
   by_cases g:i<L.length
   ·have g':(i:Int)<L.length:=by omega
    have gR:i<RR.length:=by omega
    have rai:=rat i g gR
    have hx1:=cnt_mem (List.getElem_mem g)
    have hx2:=bd_mem hw (List.getElem_mem g)
    have fin:=fun σ' hσ=>hK (i+1) σ' (by omega) (by omega) hσ
    rw [bareL_take L i g] at fin
    have hOl:(itRows (bareL (L.take i))).length=i:=by rw [itRows_len,bareL_len,List.length_take];omega
    have hO6:=it_six (bareL (L.take i))
    clear hK rat
    generalize L[i]=x at *
    obtain ⟨xn,ws,xb,ks,xl,xc⟩:=x
    rw [cntI] at hx1
    rw [bdI] at hx2
    rw [bareI,It.row] at fin
    have IH:=ih ks (by omega) (by omega) hx2.2
    have hw6:=hx2.1.1
    rw [It.row] at rai
    generalize itRows (bareL (L.take i))=OR at *
    generalize itRows ks=IR at *
    generalize itRows (bareL ks)=BR at *
    clear hx2 ih
    have wl:(ws.map Tk.row).length=ws.length:=List.length_map _
    have wat: ∀k (h:k<ws.length),∀h2,(ws.map Tk.row)[k]'h2=[i6 ws[k].k,.str ws[k].t,u ws[k].n,i6 ws[k].ln,i6 ws[k].co]:=fun k h h2=>by simp [Tk.row]
    have wbe:((ws.take ws.length).map bareT).map Tk.row=(ws.map bareT).map Tk.row:=by rw [List.take_length]
    have wsn:=bare_rows ws
    have wbl: ∀k,k≤ws.length→(((ws.take k).map bareT).map Tk.row).length=k:=fun k hk=>by simp;omega
    have wb5: ∀k,∀r∈((ws.take k).map bareT).map Tk.row,r.length=5:=fun k r hr=>by
     simp only [List.mem_map] at hr
     obtain ⟨q,_,rfl⟩:=hr
     rfl
    generalize ws.map Tk.row=WR at *
    simp -implicitDefEqProofs [g,g',gR,rai,rl]
    refine onC_mk _ (IH) ?_
    simp -implicitDefEqProofs
    refine wp_lpk (α:=Nat) (fun k=>⟨[(0,.sl RR),(3,.sl OR),(4,i6 i),(5,.ptr (.n 5) 0),(6,i6 k)],[(.n 5,[.str xn,.sl (((ws.take k).map bareT).map Tk.row),.bool xb,.sl BR,i6 0,i6 0])],[(.s 3,6),(.b (.n 5) 1,5)]⟩) (fun k=>k≤ws.length) (fun k=>ws.length - k) ?_ 0 (Nat.zero_le _) ?_
    ·rintro K k hK2 h2
     have t2:IntKind.i64.wrap ((k:Int)+1)=(k+1:Nat):=by rw [wrap_i64]<;>omega
     by_cases gk:k<ws.length
     ·have gk':(k:Int)<ws.length:=by omega
      have gW:k<WR.length:=by omega
      have wak:=wat k gk gW
      have fin2:=fun σ' hσ=>hK2 (k+1) σ' (by omega) (by omega) hσ
      rw [wsn k gk] at fin2
      have hwl:=wbl k h2
      have hw5:=wb5 k
      clear hK2 wat wsn wbl wb5 fin wbe
      generalize ((ws.take k).map bareT).map Tk.row=CR at *
      generalize ws[k]=w at *
      obtain ⟨wk,wt,wn,wl1,wc⟩:=w
      simp only [bareT,Tk.row] at fin2 wak
      simp -implicitDefEqProofs [g,g',gR,rai,rl,gk,gk',gW,wak,wl,hlim]
      refine ⟨by omega,hw5,?_⟩
      refine fin2 _ ?_
      refine weak_mk ?_ ?_ ?_ ?_ ?_ ?_<;>simp -implicitDefEqProofs [t2]
     ·obtain rfl:k=ws.length:=by omega
      have gk': ¬(ws.length:Int)<ws.length:=by omega
      rw [wbe] at *
      clear hK2 wat wsn wbl wb5
      generalize (ws.map bareT).map Tk.row=CR at *
      simp -implicitDefEqProofs [g,g',gR,rai,rl,wl,gk',hlim]
      refine ⟨by omega,hO6,?_⟩
      refine fin _ ?_
      refine weak_mk ?_ ?_ ?_ ?_ ?_ ?_<;>simp -implicitDefEqProofs [t1]
    ·rw [List.take_zero]
     clear wat wsn wbl wb5 fin wbe
     refine weak_mk ?_ ?_ ?_ ?_ ?_ ?_<;>simp -implicitDefEqProofs
   ·obtain rfl:i=L.length:=by omega
    have g': ¬(L.length:Int)<L.length:=by omega
    rw [List.take_length,←hR]
    clear hK
    simp -implicitDefEqProofs [g',rl]
  ·rw [List.take_zero]
   refine weak_mk ?_ ?_ ?_ ?_ ?_ ?_<;>simp -implicitDefEqProofs [bareL,itRows]
open Go.Proofs
theorem lbare_spec (t:Tk):Sp Tryz.prog gl 34 [.agg t.row] (.agg (bareT t).row):=by
 refine s34 rfl rfl ?_
 obtain ⟨k,s,n,l,c⟩:=t
 simp only [bareT,Tk.row]
 simp -implicitDefEqProofs [c34]
set_option maxHeartbeats 2000000 in
theorem lBare_spec: ∀(N:Nat) (L:List It),cntL L≤N→cntL L≤100000→bdL L→Sp Tryz.prog gl 16 [.sl (itRows L)] (.sl (itRows (bareL L))):=by
 intro N
 induction N with
 |zero=>
  intro L h hc hw
  have hL:L=[]:=by
   have:=len_cnt L
   exact List.eq_nil_of_length_eq_zero (by omega)
  subst hL
  refine s16 rfl rfl ?_
  simp -implicitDefEqProofs [c16,itRows,bareL]
  refine wp_lpk (α:=Unit) (fun _=>⟨[(3,.sl []),(9,.sl []),(10,i6 0),(11,i6 0)],[],[(.s 3,6)]⟩) (fun _=>True) (fun _=>0) ?_ () trivial ?_
  ·rintro K x hK _
   clear hK
   simp -implicitDefEqProofs
  ·refine weak_mk ?_ ?_ ?_ ?_ ?_ ?_<;>simp -implicitDefEqProofs
 |succ N ih=>
  intro L h hc hw
  refine s16 rfl rfl ?_
  have hlim:lim=140737488355328:=rfl
  obtain ⟨R,hR⟩: ∃R,R=itRows (bareL L):=⟨_,rfl⟩
  rw [←hR]
  have rl:=itRows_len L
  have rat:=itRows_at L
  have ll:=len_cnt L
  generalize itRows L=RR at *
  simp -implicitDefEqProofs [c16]
  refine wp_lpk (α:=Nat) (fun i=>⟨[(3,.sl (itRows (bareL (L.take i)))),(9,.sl RR),(10,i6 L.length),(11,i6 i)],[],[(.s 3,6)]⟩) (fun i=>i≤L.length) (fun i=>L.length - i) ?_ 0 (Nat.zero_le _) ?_
  ·rintro K i hK h1
   have t1:IntKind.i64.wrap ((i:Int)+1)=(i+1:Nat):=by rw [wrap_i64]<;>omega
   by_cases g:i<L.length
   ·have g':(i:Int)<RR.length:=by omega
    have g2:(i:Int)<L.length:=by omega
    have gR:i<RR.length:=by omega
    have rai:=rat i g gR
    have hx1:=cnt_mem (List.getElem_mem g)
    have hx2:=bd_mem hw (List.getElem_mem g)
    have fin:=fun σ' hσ=>hK (i+1) σ' (by omega) (by omega) hσ
    rw [bareL_take L i g] at fin
    have hOl:(itRows (bareL (L.take i))).length=i:=by rw [itRows_len,bareL_len,List.length_take];omega
    have hO6:=it_six (bareL (L.take i))
    clear hK rat
    generalize L[i]=x at *
    obtain ⟨xn,ws,xb,ks,xl,xc⟩:=x
    rw [cntI] at hx1
    rw [bdI] at hx2
    rw [bareI,It.row] at fin
    have IH:=ih ks (by omega) (by omega) hx2.2
    have hw6:=hx2.1.1
    rw [It.row] at rai
    generalize itRows (bareL (L.take i))=OR at *
    generalize itRows ks=IR at *
    generalize itRows (bareL ks)=BR at *
    clear hx2 ih
    have wl:(ws.map Tk.row).length=ws.length:=List.length_map _
    have wat: ∀k (h:k<ws.length),∀h2,(ws.map Tk.row)[k]'h2=ws[k].row:=fun k h h2=>by simp
    have wbe:((ws.take ws.length).map bareT).map Tk.row=(ws.map bareT).map Tk.row:=by rw [List.take_length]
    have wsn:=bare_rows ws
    have wbl: ∀k,k≤ws.length→(((ws.take k).map bareT).map Tk.row).length=k:=fun k hk=>by simp;omega
    have wb5: ∀k,∀r∈((ws.take k).map bareT).map Tk.row,r.length=5:=fun k r hr=>by
     simp only [List.mem_map] at hr
     obtain ⟨q,_,rfl⟩:=hr
     rfl
    generalize ws.map Tk.row=WR at *
    simp -implicitDefEqProofs [g,g2,g',gR,rai,rl]
    refine onC_mk _ (IH) ?_
    simp -implicitDefEqProofs
    refine wp_lpk (α:=Nat) (fun k=>⟨[(3,.sl OR),(9,.sl RR),(10,i6 L.length),(11,i6 i),(6,.ptr (.n 6) 0),(24,.sl WR),(25,i6 ws.length),(26,i6 k)],[(.n 6,[.str xn,.sl (((ws.take k).map bareT).map Tk.row),.bool xb,.sl BR,i6 0,i6 0])],[(.s 3,6),(.b (.n 6) 1,5)]⟩) (fun k=>k≤ws.length) (fun k=>ws.length - k) ?_ 0 (Nat.zero_le _) ?_
    ·rintro K k hK2 h2
     have t2:IntKind.i64.wrap ((k:Int)+1)=(k+1:Nat):=by rw [wrap_i64]<;>omega
     by_cases gk:k<ws.length
     ·have gk':(k:Int)<ws.length:=by omega
      have gW:k<WR.length:=by omega
      have wak:=wat k gk gW
      have fin2:=fun σ' hσ=>hK2 (k+1) σ' (by omega) (by omega) hσ
      rw [wsn k gk] at fin2
      have hwl:=wbl k h2
      have hw5:=wb5 k
      have LB:=lbare_spec ws[k]
      clear hK2 wat wsn wbl wb5 fin wbe
      generalize ((ws.take k).map bareT).map Tk.row=CR at *
      generalize ws[k]=w at *
      obtain ⟨wk,wt,wn,wl1,wc⟩:=w
      simp only [bareT,Tk.row] at fin2 wak LB
      simp -implicitDefEqProofs [g,g2,g',gR,rai,rl,gk,gk',gW,wak,wl,hlim]
      refine onC_mk _ (LB) ?_
      simp -implicitDefEqProofs [hlim]
      refine ⟨by omega,hw5,?_⟩
      refine fin2 _ ?_
      refine weak_mk ?_ ?_ ?_ ?_ ?_ ?_<;>simp -implicitDefEqProofs [t2]
     ·obtain rfl:k=ws.length:=by omega
      have gk': ¬(ws.length:Int)<ws.length:=by omega
      rw [wbe] at *
      clear hK2 wat wsn wbl wb5
      generalize (ws.map bareT).map Tk.row=CR at *
      simp -implicitDefEqProofs [g,g2,g',gR,rai,rl,wl,gk',hlim]
      refine ⟨by omega,hO6,?_⟩
      refine fin _ ?_
      refine weak_mk ?_ ?_ ?_ ?_ ?_ ?_<;>simp -implicitDefEqProofs [t1,rl]
    ·rw [List.take_zero]
     clear wat wsn wbl wb5 fin wbe
     refine weak_mk ?_ ?_ ?_ ?_ ?_ ?_<;>simp -implicitDefEqProofs [wl,rl]
   ·obtain rfl:i=L.length:=by omega
    have g': ¬(L.length:Int)<RR.length:=by omega
    rw [List.take_length,←hR]
    clear hK
    simp -implicitDefEqProofs [g',rl]
  ·rw [List.take_zero]
   refine weak_mk ?_ ?_ ?_ ?_ ?_ ?_<;>simp -implicitDefEqProofs [bareL,itRows,rl]
open Go.Proofs
def eqT (v w:Tk):Bool:=v.k==w.k&&(v.t==w.t&&((v.n:Int)==(w.n:Int)))
theorem eqT_iff (v w:Tk):eqT v w=true↔bareT v=bareT w:=by
 unfold eqT bareT
 simp only [Bool.and_eq_true,beq_iff_eq,Tk.mk.injEq,and_true]
 constructor
 ·rintro ⟨h1,h2,h3⟩;exact ⟨h1,h2,by omega⟩
 ·rintro ⟨h1,h2,h3⟩;exact ⟨h1,h2,by omega⟩
theorem lw_spec (v w:Tk):Sp Tryz.prog gl 37 [.agg v.row,.agg w.row] (.bool (eqT v w)):=by
 refine s37 rfl rfl ?_
 have B1:=lbare_spec v
 have B2:=lbare_spec w
 obtain ⟨k,s,n,l,c⟩:=v
 obtain ⟨k2,s2,n2,l2,c2⟩:=w
 simp only [bareT,Tk.row,eqT] at *
 simp -implicitDefEqProofs [c37]
 refine onC_mk _ (B1) ?_
 simp -implicitDefEqProofs
 refine onC_mk _ (B2) ?_
 simp -implicitDefEqProofs
def eqTs:List Tk→List Tk→Bool
 |[],[]=>true
 |v::r,w::s=>eqT v w&&eqTs r s
 |_,_=>false
theorem eqTs_len: ∀(A B:List Tk),A.length≠B.length→eqTs A B=false
 |[],[],h=>absurd rfl h
 |[],w::s,_=>rfl
 |v::r,[],_=>rfl
 |v::r,w::s,h=>by rw [eqTs,eqTs_len r s (by simpa using h),Bool.and_false]
theorem eqTs_iff: ∀(A B:List Tk),eqTs A B=true↔A.map bareT=B.map bareT
 |[],[]=>by simp [eqTs]
 |[],w::s=>by simp [eqTs]
 |v::r,w::s=>by rw [eqTs,Bool.and_eq_true,eqT_iff,eqTs_iff r s,List.map_cons,List.map_cons,List.cons.injEq]
 |v::r,[]=>by simp [eqTs]
theorem eqF_spec (A B:List Tk) (hA:A.length≤1000000) (d:Nat):
  SpH Tryz.prog gl 38 d ⟨[.sl (A.map Tk.row),.sl (B.map Tk.row),.fn 37 []],[],[]⟩ ⟨.bool (eqTs A B),[],[]⟩:=by
 refine h38 rfl ?_
 have al:(A.map Tk.row).length=A.length:=by simp
 have bl:(B.map Tk.row).length=B.length:=by simp
 have aat: ∀i (h:i<A.length),∀h2,(A.map Tk.row)[i]'h2=A[i].row:=fun i h h2=>by simp
 have bat: ∀i (h:i<B.length),∀h2,(B.map Tk.row)[i]'h2=B[i].row:=fun i h h2=>by simp
 obtain ⟨R,hR⟩: ∃R,R=eqTs A B:=⟨_,rfl⟩
 have hne:A.length≠B.length→R=false:=fun h=>by rw [hR];exact eqTs_len A B h
 rw [←hR]
 generalize A.map Tk.row=AR at *
 generalize B.map Tk.row=BR at *
 simp only [inSt,mpB,mpL,AV.mp,mpP,Pl.mp]
 by_cases c:A.length=B.length
 ·have c':((A.length:Int)!=(B.length:Int))=false:=by rw [c];simp
  simp -implicitDefEqProofs [c38,al,bl,c]
  refine wp_lpk (α:=Nat) (fun i=>⟨[(1,.sl BR),(2,.fn 37 []),(15,.sl AR),(16,i6 B.length),(17,i6 i)],[],[]⟩) (fun i=>i≤A.length∧R=eqTs (A.drop i) (B.drop i)) (fun i=>A.length - i) ?_ 0 ?_ ?_
  ·rintro K i hK ⟨h1,h2⟩
   by_cases g:i<A.length
   ·have t1:IntKind.i64.wrap ((i:Int)+1)=(i+1:Nat):=by rw [wrap_i64]<;>omega
    have gB:i<B.length:=by omega
    have gA':i<AR.length:=by omega
    have gB':i<BR.length:=by omega
    have ra:=aat i g gA'
    have rb:=bat i gB gB'
    rw [List.drop_eq_getElem_cons g,List.drop_eq_getElem_cons gB] at h2
    simp only [eqTs] at h2
    have C:=fun d=>Sp.h (d:=d) (lw_spec A[i] B[i])
    have fin:eqT A[i] B[i]=true→ ∀σ',Weak σ' ⟨[(1,.sl BR),(2,.fn 37 []),(15,.sl AR),(16,i6 B.length),(17,i6 (i+1:Nat))],[],[]⟩→K σ':=fun hg σ' hσ=>
     hK (i+1) σ' ⟨by omega,by rw [hg,Bool.true_and] at h2;exact h2⟩ (by omega) hσ
    have hneg:eqT A[i] B[i]=false→R=false:=fun hg=>by rw [hg,Bool.false_and] at h2;exact h2
    clear hK hR h2 aat bat hne
    generalize eqT A[i] B[i]=q at *
    generalize A[i]=v at *
    generalize B[i]=w at *
    obtain ⟨k,s,n,l,cc⟩:=v
    obtain ⟨k2,s2,n2,l2,c2⟩:=w
    simp only [Tk.row] at *
    simp -implicitDefEqProofs [g,gB,gA',gB',ra,rb]
    refine onH_mk _ _ (C _) ⟨?_,?_,?_,?_,?_,?_,?_⟩ ?_
    iterate 7 (· simp)
    cases q
    ·have hn:=hneg rfl
     subst hn
     simp -implicitDefEqProofs
     refine postH_r ⟨?_,?_,?_,?_,?_,?_⟩<;>simp -implicitDefEqProofs
    ·have fin:=fin rfl
     simp -implicitDefEqProofs [t1]
     refine fin _ ?_
     refine weak_mk ?_ ?_ ?_ ?_ ?_ ?_<;>simp -implicitDefEqProofs [t1]
   ·obtain rfl:i=A.length:=by omega
    rw [List.drop_length,c,List.drop_length] at h2
    have h2:R=true:=h2
    subst h2
    clear hK
    simp -implicitDefEqProofs [c]
    refine postH_r ⟨?_,?_,?_,?_,?_,?_⟩<;>simp -implicitDefEqProofs
  ·exact ⟨Nat.zero_le _,hR⟩
  ·refine weak_mk ?_ ?_ ?_ ?_ ?_ ?_<;>simp -implicitDefEqProofs [al,bl,c]
 ·have h2:=hne c
  subst h2
  have c2: ¬(A.length:Int)=(B.length:Int):=by omega
  have c3:((A.length:Int)!=(B.length:Int))=true:=bne_iff_ne.2 c2
  have c4:((A.length:Int)==(B.length:Int))=false:=beq_eq_false_iff_ne.2 c2
  simp -implicitDefEqProofs [c38,al,bl,c,c2,c3,c4]
  refine postH_r ⟨?_,?_,?_,?_,?_,?_⟩<;>simp -implicitDefEqProofs
open Go.Proofs
mutual
def toldI:It→Nat→List (List AV)
 | .mk n ws b ks ln co,d=>[i6 d,.agg [.str n,.sl (ws.map Tk.row),.bool b,.sl (itRows ks),i6 ln,i6 co]]::toldL ks (d+1)
def toldL:List It→Nat→List (List AV)
 |[],_=>[]
 |x::r,d=>toldI x d++toldL r d
end
theorem toldL_app: ∀(a b:List It) (d:Nat),toldL (a++b) d=toldL a d++toldL b d
 |[],b,d=>rfl
 |x::a,b,d=>by rw [List.cons_append,toldL,toldL,toldL_app a b,List.append_assoc]
open Go.Proofs
theorem toldL_at (L:List It) (i:Nat) (h:i<L.length) (d:Nat):toldL L d=toldL (L.take i) d++(toldI L[i] d++toldL (L.drop (i+1)) d):=by
 conv=>lhs;rw [←List.take_append_drop i L,List.drop_eq_getElem_cons h]
 rw [toldL_app,toldL]
theorem toldL_snoc (L:List It) (i:Nat) (h:i<L.length) (d:Nat):toldL (L.take (i+1)) d=toldL (L.take i) d++toldI L[i] d:=by
 rw [List.take_succ_eq_append_getElem h,toldL_app,toldL,toldL,List.append_nil]
theorem dep_mem: ∀ {L:List It} {x:It},x∈L→depI x≤depL L
 |y::L,x,h=>by
  rw [depL]
  rcases List.mem_cons.1 h with rfl|h
  ·exact Nat.le_max_left _ _
  ·exact Nat.le_trans (dep_mem h) (Nat.le_max_right _ _)
set_option maxHeartbeats 2000000 in
theorem down_tells: ∀(N:Nat) (L:List It) (d:Nat),cntL L≤N→cntL L≤100000→d+depL L≤100000→TlH Tryz.prog gl 63 [.sl (itRows L),i6 d] (toldL L d):=by
 intro N
 induction N with
 |zero=>
  intro L d h hc hd
  have hL:L=[]:=by
   have:=len_cnt L
   exact List.eq_nil_of_length_eq_zero (by omega)
  subst hL
  refine y63 rfl rfl ?_
  intro l ts k hseg
  simp only [c63,wpY_sq,wpY_c,wpY_bl,itRows,toldL,List.length_nil,Nat.add_zero,List.cons_append,List.nil_append]
  simp -implicitDefEqProofs
  refine wpY_lpk (α:=Unit) (fun _=>⟨[(0,.sl []),(1,i6 d),(2,.yv l),(9,.sl []),(10,i6 0),(11,i6 0)],[],[]⟩) (fun _=>k) (fun _=>True) (fun _=>0) ?_ () trivial ?_
  ·rintro K x hK _
   clear hK
   simp only [wpY_sq,wpY_c]
   simp -implicitDefEqProofs [postY]
  ·refine weak_mk ?_ ?_ ?_ ?_ ?_ ?_<;>simp -implicitDefEqProofs
 |succ N ih=>
  intro L d h hc hd
  refine y63 rfl rfl ?_
  intro l ts k hseg
  have rl:=itRows_len L
  have rat:=itRows_at L
  have ll:=len_cnt L
  obtain ⟨RN,hRN⟩: ∃RN,RN=(toldL L d).length:=⟨_,rfl⟩
  rw [←hRN] at hseg ⊢
  generalize itRows L=RR at *
  simp only [c63,wpY_sq,wpY_c,wpY_bl,List.cons_append,List.nil_append]
  simp -implicitDefEqProofs
  refine wpY_lpk (α:=Nat) (fun i=>⟨[(0,.sl RR),(1,i6 d),(2,.yv l),(9,.sl RR),(10,i6 RR.length),(11,i6 i)],[],[]⟩) (fun i=>k+(toldL (L.take i) d).length) (fun i=>i≤L.length) (fun i=>L.length - i) ?_ 0 (Nat.zero_le _) ?_
  ·rintro K i hK h1
   have t1:IntKind.i64.wrap ((i:Int)+1)=(i+1:Nat):=by rw [wrap_i64]<;>omega
   have t2:IntKind.i64.wrap ((d:Int)+1)=(d+1:Nat):=by rw [wrap_i64]<;>omega
   by_cases g:i<L.length
   ·have g':(i:Int)<RR.length:=by omega
    have gR:i<RR.length:=by omega
    have rai:=rat i g gR
    have hx1:=cnt_mem (List.getElem_mem g)
    have hx2:=dep_mem (List.getElem_mem g)
    have fin:=fun σ' hσ=>hK (i+1) σ' (by omega) (by omega) hσ
    have hat:=toldL_at L i g d
    rw [toldL_snoc L i g] at fin
    clear hK rat
    generalize L[i]=x at *
    obtain ⟨xn,ws,xb,ks,xl,xc⟩:=x
    rw [cntI] at hx1
    rw [depI] at hx2
    rw [It.row] at rai
    rw [toldI] at hat fin
    have IH:=ih ks (d+1) (by omega) (by omega) (by omega)
    have hlen:RN=(toldL (L.take i) d).length+(1+(toldL ks (d+1)).length+(toldL (L.drop (i+1)) d).length):=by
     rw [hRN,hat];simp [List.length_append];omega
    have s0:ts[k+(toldL (L.take i) d).length]?=some [i6 d,.agg [.str xn,.sl (ws.map Tk.row),.bool xb,.sl (itRows ks),i6 xl,i6 xc]]:=by
     rw [hseg _ (by omega),hat,List.getElem?_append_right (Nat.le_refl _),Nat.sub_self];rfl
    have s1: ∀q,q<(toldL ks (d+1)).length→ts[k+(toldL (L.take i) d).length+1+q]?=(toldL ks (d+1))[q]?:=by
     intro q hq
     rw [show k+(toldL (L.take i) d).length+1+q=k+((toldL (L.take i) d).length+1+q) from by omega,hseg _ (by omega),hat,List.getElem?_append_right (by omega),show (toldL (L.take i) d).length+1+q - (toldL (L.take i) d).length=q+1 from by omega,List.cons_append,List.getElem?_cons_succ,List.getElem?_append_left hq]
    rw [List.length_append,List.length_cons,←Nat.add_assoc,Nat.add_comm (toldL ks (d+1)).length 1,←Nat.add_assoc] at fin
    clear hat hlen hseg
    generalize itRows ks=IR at *
    generalize ws.map Tk.row=WR at *
    generalize toldL ks (d+1)=TK at *
    generalize (toldL (L.take i) d).length=m at *
    simp only [wpY_sq,wpY_c,wpY_bl]
    simp -implicitDefEqProofs [g',gR,rai]
    simp only [wpY_rg,wpYl_o]
    simp -implicitDefEqProofs
    refine wpYl_yl rfl rfl s0 rfl ?_ ?_
    ·simp only [wpYl_o]
     simp -implicitDefEqProofs [t2]
     refine wpYl_rc rfl IH rfl rfl rfl s1 rfl ?_ ?_
     ·simp only [wpYl_o,wpYl_nil]
      simp -implicitDefEqProofs
      refine fin _ ?_
      refine weak_mk ?_ ?_ ?_ ?_ ?_ ?_<;>simp -implicitDefEqProofs [t1]
     ·simp only [wpYl_o,wpYl_nil]
      simp -implicitDefEqProofs [postY]
    ·simp only [wpYl_o]
     simp -implicitDefEqProofs
     refine wpYl_skip rfl ?_
     simp only [wpYl_o,wpYl_nil]
     simp -implicitDefEqProofs [postY]
   ·obtain rfl:i=L.length:=by omega
    have g': ¬(L.length:Int)<RR.length:=by omega
    clear hK
    rw [List.take_length] at *
    rw [←hRN]
    simp only [wpY_sq,wpY_c]
    simp -implicitDefEqProofs [g',postY]
  ·refine weak_mk ?_ ?_ ?_ ?_ ?_ ?_<;>simp -implicitDefEqProofs
open Go.Proofs
theorem walk_iter (L:List It) (b:Id) (hb:b.isIt=false) (hc:cntL L≤100000) (hd:depL L≤90000):ItH Tryz.prog gl 62 [.ptr b 0] [(b,[.sl (itRows L)])] (toldL L 1):=by
 refine i62 hb rfl ?_
 intro l
 have D:=down_tells _ L 1 (Nat.le_refl _) hc (by omega)
 generalize itRows L=RR at *
 generalize toldL L 1=TT at *
 simp only [c62,wpYl_o]
 simp -implicitDefEqProofs
 refine wpYl_rc rfl D rfl rfl rfl (fun i hi=>by rw [Nat.zero_add]) rfl ?_ ?_
 ·simp only [wpYl_nil]
  simp -implicitDefEqProofs
 ·simp only [wpYl_nil]
  simp -implicitDefEqProofs
theorem walk_spec (L:List It) (d:Nat):SpH Tryz.prog gl 32 d ⟨[.sl (itRows L)],[],[]⟩ ⟨.fn 62 [.ptr (.nw d (.n 1)) 0],[(.nw d (.n 1),[.sl (itRows L)])],[]⟩:=by
 refine h32 rfl ?_
 generalize itRows L=RR at *
 simp only [inSt,mpB,mpL,AV.mp,mpP,Pl.mp]
 simp -implicitDefEqProofs [c32]
 refine postH_r ⟨?_,?_,?_,?_,?_,?_⟩<;>simp -implicitDefEqProofs
open Go.Proofs
def tkR (k:Int) (s:List UInt8) (n:Nat):Bool:=
 if k=1 then nameT s&&decide (n=0)
 else if k=2 then goodR (runesL s 0)&&(decide ((runesL s 0).length≤120)&&decide (n=0))
 else if k=3∨k=4 then s==[]
 else if k=5 then (s==[])&&decide (n≤1000000)
 else if k=6 then (s==[])&&decide (n≤253402300799)
 else if k=0∨k=7∨k=8∨k=9 then (s==[])&&decide (n=0)
 else false
def tkA (k:Int) (s:List UInt8) (n:Nat) (l c:Int):AV:= .agg [i6 k,.str s,u n,i6 l,i6 c]
theorem sright_1 (s:List UInt8) (n:Nat) (l c:Int) (hl:s.length≤900000):Sp Tryz.prog gl 66 [tkA 1 s n l c] (.bool (nameT s&&decide (n=0))):=by
 refine s66 rfl rfl ?_
 have NM:=tname_spec s hl
 unfold tkA
 cases hb:nameT s
 ·rw [hb] at NM
  rw [Bool.false_and]
  simp -implicitDefEqProofs [c66]
  refine onC_mk _ (NM) ?_
  simp -implicitDefEqProofs
 ·rw [hb] at NM
  rw [Bool.true_and]
  by_cases n0:n=0
  ·subst n0
   rw [decide_eq_true (rfl:(0:Nat)=0)]
   simp -implicitDefEqProofs [c66]
   refine onC_mk _ (NM) ?_
   simp -implicitDefEqProofs
  ·have n1:((n:Int)==0)=false:=beq_eq_false_iff_ne.2 (by omega)
   have n2: ¬(n:Int)=0:=by omega
   rw [decide_eq_false n0]
   simp -implicitDefEqProofs [c66]
   refine onC_mk _ (NM) ?_
   simp -implicitDefEqProofs [n1,n2]
theorem sright_2 (s:List UInt8) (n:Nat) (l c:Int) (hl:s.length≤900000):Sp Tryz.prog gl 66 [tkA 2 s n l c] (.bool (goodR (runesL s 0)&&(decide ((runesL s 0).length≤120)&&decide (n=0)))):=by
 refine s66 rfl rfl ?_
 have GD:=tgood_spec s hl
 have RS:=tcount_spec s hl
 unfold tkA
 generalize (runesL s 0).length=rn at *
 cases hb:goodR (runesL s 0)
 ·rw [hb] at GD
  rw [Bool.false_and]
  simp -implicitDefEqProofs [c66]
  refine onC_mk _ (GD) ?_
  simp -implicitDefEqProofs
 rw [hb] at GD
 rw [Bool.true_and]
 by_cases hr:rn≤120
 ·have hr':(rn:Int)≤120:=by omega
  rw [decide_eq_true hr,Bool.true_and]
  by_cases n0:n=0
  ·subst n0
   rw [decide_eq_true (rfl:(0:Nat)=0)]
   simp -implicitDefEqProofs [c66]
   refine onC_mk _ (GD) ?_
   simp -implicitDefEqProofs
   refine onC_mk _ (RS) ?_
   simp -implicitDefEqProofs [hr,hr']
  ·have n1:((n:Int)==0)=false:=beq_eq_false_iff_ne.2 (by omega)
   have n2: ¬(n:Int)=0:=by omega
   rw [decide_eq_false n0]
   simp -implicitDefEqProofs [c66]
   refine onC_mk _ (GD) ?_
   simp -implicitDefEqProofs
   refine onC_mk _ (RS) ?_
   simp -implicitDefEqProofs [hr,hr',n1,n2]
 ·have hr': ¬(rn:Int)≤120:=by omega
  rw [decide_eq_false hr,Bool.false_and]
  simp -implicitDefEqProofs [c66]
  refine onC_mk _ (GD) ?_
  simp -implicitDefEqProofs
  refine onC_mk _ (RS) ?_
  simp -implicitDefEqProofs [hr,hr']
theorem sright_3 (k:Int) (hk:k=3) (s:List UInt8) (n:Nat) (l c:Int):Sp Tryz.prog gl 66 [tkA k s n l c] (.bool (s==[])):=by
 refine s66 rfl rfl ?_
 unfold tkA
 have d1:(k==1)=false:=by subst hk;decide
 have d2:(k==2)=false:=by subst hk;decide
 have d3:(k==3)=true:=by subst hk;decide
 clear hk
 by_cases e:s=[]
 ·subst e
  rw [show (([]:List UInt8)==[])=true from rfl]
  simp -implicitDefEqProofs [c66,d1,d2]
  refine onB_mk (fun _=>?_) (fun h=>by rw [d3] at h;cases h)
  simp -implicitDefEqProofs
  refine onB_mk (fun _=>?_) (fun h=>by rw [d3] at h;cases h)
  simp -implicitDefEqProofs
 ·have en:(s==[])=false:=beq_eq_false_iff_ne.2 e
  rw [en]
  simp -implicitDefEqProofs [c66,d1,d2]
  refine onB_mk (fun _=>?_) (fun h=>by rw [d3] at h;cases h)
  simp -implicitDefEqProofs
  refine onB_mk (fun _=>?_) (fun h=>by rw [d3] at h;cases h)
  simp -implicitDefEqProofs [e,en]
theorem sright_4 (k:Int) (hk:k=4) (s:List UInt8) (n:Nat) (l c:Int):Sp Tryz.prog gl 66 [tkA k s n l c] (.bool (s==[])):=by
 refine s66 rfl rfl ?_
 unfold tkA
 have d1:(k==1)=false:=by subst hk;decide
 have d2:(k==2)=false:=by subst hk;decide
 have d3:(k==3)=false:=by subst hk;decide
 have d4:(k==4)=true:=by subst hk;decide
 clear hk
 by_cases e:s=[]
 ·subst e
  rw [show (([]:List UInt8)==[])=true from rfl]
  simp -implicitDefEqProofs [c66,d1,d2,d3,d4]
 ·have en:(s==[])=false:=beq_eq_false_iff_ne.2 e
  rw [en]
  simp -implicitDefEqProofs [c66,d1,d2,d3,d4,e,en]
theorem sright_5 (k:Int) (hk:k=5) (s:List UInt8) (n:Nat) (l c:Int):Sp Tryz.prog gl 66 [tkA k s n l c] (.bool ((s==[])&&decide (n≤1000000))):=by
 refine s66 rfl rfl ?_
 unfold tkA
 have d1:(k==1)=false:=by subst hk;decide
 have d2:(k==2)=false:=by subst hk;decide
 have d3:(k==3)=false:=by subst hk;decide
 have d4:(k==4)=false:=by subst hk;decide
 have d5:(k==5)=true:=by subst hk;decide
 clear hk
 by_cases e:s=[]
 ·subst e
  rw [show (([]:List UInt8)==[])=true from rfl,Bool.true_and]
  by_cases h:n≤1000000
  ·have h':(n:Int)≤1000000:=by omega
   rw [decide_eq_true h]
   simp -implicitDefEqProofs [c66,d1,d2,d3,d4,d5,h,h']
  ·have h': ¬(n:Int)≤1000000:=by omega
   rw [decide_eq_false h]
   simp -implicitDefEqProofs [c66,d1,d2,d3,d4,d5,h,h']
 ·have en:(s==[])=false:=beq_eq_false_iff_ne.2 e
  rw [en,Bool.false_and]
  simp -implicitDefEqProofs [c66,d1,d2,d3,d4,d5,e,en]
theorem sright_6 (k:Int) (hk:k=6) (s:List UInt8) (n:Nat) (l c:Int):Sp Tryz.prog gl 66 [tkA k s n l c] (.bool ((s==[])&&decide (n≤253402300799))):=by
 refine s66 rfl rfl ?_
 unfold tkA
 have d1:(k==1)=false:=by subst hk;decide
 have d2:(k==2)=false:=by subst hk;decide
 have d3:(k==3)=false:=by subst hk;decide
 have d4:(k==4)=false:=by subst hk;decide
 have d5:(k==5)=false:=by subst hk;decide
 have d6:(k==6)=true:=by subst hk;decide
 clear hk
 by_cases e:s=[]
 ·subst e
  rw [show (([]:List UInt8)==[])=true from rfl,Bool.true_and]
  by_cases h:n≤253402300799
  ·have h':(n:Int)≤253402300799:=by omega
   rw [decide_eq_true h]
   simp -implicitDefEqProofs [c66,d1,d2,d3,d4,d5,d6,h,h']
  ·have h': ¬(n:Int)≤253402300799:=by omega
   rw [decide_eq_false h]
   simp -implicitDefEqProofs [c66,d1,d2,d3,d4,d5,d6,h,h']
 ·have en:(s==[])=false:=beq_eq_false_iff_ne.2 e
  rw [en,Bool.false_and]
  simp -implicitDefEqProofs [c66,d1,d2,d3,d4,d5,d6,e,en]
theorem sright_0 (k:Int) (hk:k=0) (s:List UInt8) (n:Nat) (l c:Int):Sp Tryz.prog gl 66 [tkA k s n l c] (.bool ((s==[])&&decide (n=0))):=by
 refine s66 rfl rfl ?_
 unfold tkA
 have d1:(k==1)=false:=by subst hk;decide
 have d2:(k==2)=false:=by subst hk;decide
 have d3:(k==3)=false:=by subst hk;decide
 have d4:(k==4)=false:=by subst hk;decide
 have d5:(k==5)=false:=by subst hk;decide
 have d6:(k==6)=false:=by subst hk;decide
 have d0:(k==0)=true:=by subst hk;decide
 clear hk
 by_cases e:s=[]
 ·subst e
  rw [show (([]:List UInt8)==[])=true from rfl,Bool.true_and]
  by_cases n0:n=0
  ·subst n0
   rw [decide_eq_true (rfl:(0:Nat)=0)]
   simp -implicitDefEqProofs [c66,d1,d2,d3,d4,d5,d6,d0]
  ·have n1:((n:Int)==0)=false:=beq_eq_false_iff_ne.2 (by omega)
   have n2: ¬(n:Int)=0:=by omega
   rw [decide_eq_false n0]
   simp -implicitDefEqProofs [c66,d1,d2,d3,d4,d5,d6,d0,n1,n2]
 ·have en:(s==[])=false:=beq_eq_false_iff_ne.2 e
  rw [en,Bool.false_and]
  simp -implicitDefEqProofs [c66,d1,d2,d3,d4,d5,d6,d0,e,en]
theorem sright_7 (k:Int) (hk:k=7) (s:List UInt8) (n:Nat) (l c:Int):Sp Tryz.prog gl 66 [tkA k s n l c] (.bool ((s==[])&&decide (n=0))):=by
 refine s66 rfl rfl ?_
 unfold tkA
 have d1:(k==1)=false:=by subst hk;decide
 have d2:(k==2)=false:=by subst hk;decide
 have d3:(k==3)=false:=by subst hk;decide
 have d4:(k==4)=false:=by subst hk;decide
 have d5:(k==5)=false:=by subst hk;decide
 have d6:(k==6)=false:=by subst hk;decide
 have d0:(k==0)=false:=by subst hk;decide
 have d7:(k==7)=true:=by subst hk;decide
 clear hk
 by_cases e:s=[]
 ·subst e
  rw [show (([]:List UInt8)==[])=true from rfl,Bool.true_and]
  by_cases n0:n=0
  ·subst n0
   rw [decide_eq_true (rfl:(0:Nat)=0)]
   simp -implicitDefEqProofs [c66,d1,d2,d3,d4,d5,d6,d0,d7]
  ·have n1:((n:Int)==0)=false:=beq_eq_false_iff_ne.2 (by omega)
   have n2: ¬(n:Int)=0:=by omega
   rw [decide_eq_false n0]
   simp -implicitDefEqProofs [c66,d1,d2,d3,d4,d5,d6,d0,d7,n1,n2]
 ·have en:(s==[])=false:=beq_eq_false_iff_ne.2 e
  rw [en,Bool.false_and]
  simp -implicitDefEqProofs [c66,d1,d2,d3,d4,d5,d6,d0,d7,e,en]
theorem sright_8 (k:Int) (hk:k=8) (s:List UInt8) (n:Nat) (l c:Int):Sp Tryz.prog gl 66 [tkA k s n l c] (.bool ((s==[])&&decide (n=0))):=by
 refine s66 rfl rfl ?_
 unfold tkA
 have d1:(k==1)=false:=by subst hk;decide
 have d2:(k==2)=false:=by subst hk;decide
 have d3:(k==3)=false:=by subst hk;decide
 have d4:(k==4)=false:=by subst hk;decide
 have d5:(k==5)=false:=by subst hk;decide
 have d6:(k==6)=false:=by subst hk;decide
 have d0:(k==0)=false:=by subst hk;decide
 have d7:(k==7)=false:=by subst hk;decide
 have d8:(k==8)=true:=by subst hk;decide
 clear hk
 by_cases e:s=[]
 ·subst e
  rw [show (([]:List UInt8)==[])=true from rfl,Bool.true_and]
  by_cases n0:n=0
  ·subst n0
   rw [decide_eq_true (rfl:(0:Nat)=0)]
   simp -implicitDefEqProofs [c66,d1,d2,d3,d4,d5,d6,d0,d7,d8]
  ·have n1:((n:Int)==0)=false:=beq_eq_false_iff_ne.2 (by omega)
   have n2: ¬(n:Int)=0:=by omega
   rw [decide_eq_false n0]
   simp -implicitDefEqProofs [c66,d1,d2,d3,d4,d5,d6,d0,d7,d8,n1,n2]
 ·have en:(s==[])=false:=beq_eq_false_iff_ne.2 e
  rw [en,Bool.false_and]
  simp -implicitDefEqProofs [c66,d1,d2,d3,d4,d5,d6,d0,d7,d8,e,en]
theorem sright_9 (k:Int) (hk:k=9) (s:List UInt8) (n:Nat) (l c:Int):Sp Tryz.prog gl 66 [tkA k s n l c] (.bool ((s==[])&&decide (n=0))):=by
 refine s66 rfl rfl ?_
 unfold tkA
 have d1:(k==1)=false:=by subst hk;decide
 have d2:(k==2)=false:=by subst hk;decide
 have d3:(k==3)=false:=by subst hk;decide
 have d4:(k==4)=false:=by subst hk;decide
 have d5:(k==5)=false:=by subst hk;decide
 have d6:(k==6)=false:=by subst hk;decide
 have d0:(k==0)=false:=by subst hk;decide
 have d7:(k==7)=false:=by subst hk;decide
 have d8:(k==8)=false:=by subst hk;decide
 have d9:(k==9)=true:=by subst hk;decide
 clear hk
 by_cases e:s=[]
 ·subst e
  rw [show (([]:List UInt8)==[])=true from rfl,Bool.true_and]
  by_cases n0:n=0
  ·subst n0
   rw [decide_eq_true (rfl:(0:Nat)=0)]
   simp -implicitDefEqProofs [c66,d1,d2,d3,d4,d5,d6,d0,d7,d8,d9]
  ·have n1:((n:Int)==0)=false:=beq_eq_false_iff_ne.2 (by omega)
   have n2: ¬(n:Int)=0:=by omega
   rw [decide_eq_false n0]
   simp -implicitDefEqProofs [c66,d1,d2,d3,d4,d5,d6,d0,d7,d8,d9,n1,n2]
 ·have en:(s==[])=false:=beq_eq_false_iff_ne.2 e
  rw [en,Bool.false_and]
  simp -implicitDefEqProofs [c66,d1,d2,d3,d4,d5,d6,d0,d7,d8,d9,e,en]
theorem sright_x (k:Int) (s:List UInt8) (n:Nat) (l c:Int) (h: ¬k=0∧ ¬k=1∧ ¬k=2∧ ¬k=3∧ ¬k=4∧ ¬k=5∧ ¬k=6∧ ¬k=7∧ ¬k=8∧ ¬k=9):Sp Tryz.prog gl 66 [tkA k s n l c] (.bool false):=by
 refine s66 rfl rfl ?_
 unfold tkA
 obtain ⟨c0,c1,c2,c3,c4,c5,c6,c7,c8,c9⟩:=h
 have ne: ∀z:Int,¬k=z→(k==z)=false:=fun z h=>beq_eq_false_iff_ne.2 h
 have d0:=ne _ c0
 have d1:=ne _ c1
 have d2:=ne _ c2
 have d3:=ne _ c3
 have d4:=ne _ c4
 have d5:=ne _ c5
 have d6:=ne _ c6
 have d7:=ne _ c7
 have d8:=ne _ c8
 have d9:=ne _ c9
 simp -implicitDefEqProofs [c66,d0,d1,d2,d3,d4,d5,d6,d7,d8,d9]
theorem sright_spec (k:Int) (s:List UInt8) (n:Nat) (l c:Int) (hl:s.length≤900000):Sp Tryz.prog gl 66 [tkA k s n l c] (.bool (tkR k s n)):=by
 unfold tkR
 by_cases c1:k=1
 ·subst c1;rw [if_pos rfl];exact sright_1 s n l c hl
 rw [if_neg c1]
 by_cases c2:k=2
 ·subst c2;rw [if_pos rfl];exact sright_2 s n l c hl
 rw [if_neg c2]
 by_cases c3:k=3
 ·subst c3;rw [if_pos (.inl rfl)];exact sright_3 3 rfl s n l c
 by_cases c4:k=4
 ·subst c4;rw [if_pos (.inr rfl)];exact sright_4 4 rfl s n l c
 rw [if_neg (by rintro (h|h);exact c3 h;exact c4 h)]
 by_cases c5:k=5
 ·subst c5;rw [if_pos rfl];exact sright_5 5 rfl s n l c
 rw [if_neg c5]
 by_cases c6:k=6
 ·subst c6;rw [if_pos rfl];exact sright_6 6 rfl s n l c
 rw [if_neg c6]
 by_cases c0:k=0
 ·subst c0;rw [if_pos (.inl rfl)];exact sright_0 0 rfl s n l c
 by_cases c7:k=7
 ·subst c7;rw [if_pos (.inr (.inl rfl))];exact sright_7 7 rfl s n l c
 by_cases c8:k=8
 ·subst c8;rw [if_pos (.inr (.inr (.inl rfl)))];exact sright_8 8 rfl s n l c
 by_cases c9:k=9
 ·subst c9;rw [if_pos (.inr (.inr (.inr rfl)))];exact sright_9 9 rfl s n l c
 rw [if_neg (by rintro (h|h|h|h);exact c0 h;exact c7 h;exact c8 h;exact c9 h)]
 exact sright_x k s n l c ⟨c0,c1,c2,c3,c4,c5,c6,c7,c8,c9⟩
end Go.Ai
