/- P16: a part of the proof: the rules, or what functions compute. Conditions: as each theorem says. -/
import Derived.Test.YtpaipepdakekbaaGreatDoorP15
import Derived.Test.YtpaipepdakekbaaGreatDoorCode
import Derived.Lib.LaidU8
import GoSem.PinnedTables
set_option linter.unusedSimpArgs false
set_option linter.unusedVariables false
set_option maxRecDepth 20000
namespace Go.Ai
open Go.Proofs
theorem tokF_src {s:List UInt8} (h:(tokF s).c=0):Src (tokF s).l:=⟨tokF_out h⟩
theorem parse_no (s:List UInt8) (h:(tokF s).c=0):pL (2*(tokF s).l.length+3) 1 0 [] (tokF s).l 0≠ .no:=by
 have:=(p_fwd (2*(tokF s).l.length+3)).1 1 0 [] _ 0 (tokF_src h) (by omega) (.inl rfl)
 intro e
 rw [e] at this
 exact this
theorem tparse_spec (s:List UInt8):Sp Tryz.prog gl 8 [.str s] (parseV (parseF s)):=parse_any s (parse_no s)
structure ParsedT (s:List UInt8) (its:List It):Prop where
 c:(tokF s).c=0
 h: ∃T z,(tokF s).l=T++[z]∧endTk z∧T.map unpl=toksL its∧(∀t∈T,OkTk t)
 wf:wfL its
 dep:its=[]∨depL its≤4
 cnt:cntL its≤300
 p: ∃T z n,pL (2*(tokF s).l.length+3) 1 0 [] (tokF s).l 0= .ok its T z∧n=z
theorem parse_fwd (s:List UInt8):(parseF s).2.1≠0∧(parseF s).1=[]∨(parseF s).2=(0,0,0)∧ParsedT s (parseF s).1:=by
 unfold parseF
 by_cases h:(tokF s).c=0
 ·rw [if_neg (by simpa using h)]
  have hs:=tokF_src h
  have hf:=(p_fwd (2*(tokF s).l.length+3)).1 1 0 [] _ 0 hs (by omega) (.inl rfl)
  have hc:=(p_cnt (2*(tokF s).l.length+3)).1 1 0 [] (tokF s).l 0
  cases hp:pL (2*(tokF s).l.length+3) 1 0 [] (tokF s).l 0 with
  |no=>rw [hp] at hf;exact hf.elim
  |th c t l n=>
   rw [hp] at hf
   exact .inl ⟨hf,rfl⟩
  |ok o l' n'=>
   rw [hp] at hf
   dsimp only
   obtain ⟨its,T,t,r,e1,e2,k,nx,s2,tk,n1,dd,ww⟩:=hf
   rw [List.nil_append] at e1
   subst e1
   have hc:=hc _ _ _ hp (by decide) (Nat.le_refl _)
   rcases s2.cons with ⟨rfl,hz,_⟩|⟨ht,_,_⟩
   ·refine .inr ⟨rfl,h,⟨T,t,e2,hz,tk,?_⟩,ww,?_,by omega,⟨l',n',n',hp,rfl⟩⟩
    ·obtain ⟨o2,z2,e3,h3,_⟩:=hs.h
     rw [e2] at e3
     have:=List.append_inj_left' e3 rfl
     rw [this]
     exact h3
    ·rcases dd with h|h
     ·exact .inl h
     ·exact .inr (by omega)
   ·have:=ht.k;omega
 ·rw [if_pos h]
  exact .inl ⟨h,rfl⟩
def exT:List UInt8:=[114,117,108,101,32,97,32,112,97,103,101,32,123,32,102,111,114,32,50,109,59,32,125]
def exTL:List Int:=[114,117,108,101,32,97,32,112,97,103,101,32,123,32,102,111,114,32,50,109,59,32,125]
set_option maxRecDepth 100000 in
theorem exTL_runes:runesL exT 0=exTL:=by
 have h:textR exTL=exT:=by decide
 rw [←h]
 refine runesL_textR exTL (fun r hr=>?_)
 unfold okR
 simp [exTL] at hr
 omega
theorem refGo_sym (VR:List Int→TV) (U:List UInt8→List UInt8×Int) (l:List Int) (P:List (Int×Int)) (f k:Nat) (out:List Tk) {r kk:Int} (h:l[k]?=some r) (hr: ¬(r=32∨r=9∨r=10)∧r≠35) (ho:oneF VR U l k r=⟨kk,[],0,k+1,0⟩):
  refGo VR U l P (f+1) k out=refGo VR U l P f (k+1) (out++[⟨kk,[],0,(P.getD k (0,0)).1,(P.getD k (0,0)).2⟩]):=by
 rw [refGo,h]
 dsimp only
 rw [if_neg hr.1,if_neg hr.2,ho,if_pos rfl]
theorem rV_name (m:List Int) (s:List UInt8) (h:textR m=s) (hk:m.all (fun r=>decide (0≤r∧r<128))=true) (hd:digR (m.headD 0)=false) (hn:nameGo 0 32 m=true):rV m= .t 1 s 0:=by
 have hr:runesL s 0=m:=by
  rw [←h]
  refine runesL_textR m fun r hr=>?_
  have:=of_decide_eq_true (List.all_eq_true.1 hk r hr)
  unfold okR
  omega
 unfold rV
 rw [if_pos (Or.inr hd),h]
 unfold nameT
 rw [hr,hn]
 rfl
set_option maxRecDepth 100000 in
theorem tok_exT:tokF exT=⟨[⟨1,[114,117,108,101],0,1,1⟩,⟨1,[97],0,1,6⟩,⟨1,[112,97,103,101],0,1,8⟩,⟨7,[],0,1,13⟩,⟨1,[102,111,114],0,1,15⟩,⟨6,[],120,1,19⟩,⟨9,[],0,1,21⟩,⟨8,[],0,1,23⟩,⟨0,[],0,1,24⟩],0,0,0⟩:=by
 unfold tokF refF
 rw [if_neg (by decide),exTL_runes]
 refine (refGo_word rV sU exTL _ 23 0 [] (r:=114) (e:=4) (kk:=1) (w:=[114,117,108,101]) (n:=0) rfl (by decide) (by decide) (rV_name _ _ (by decide) (by decide) (by decide) (by decide))).trans ?_
 refine (refGo_gap rV sU exTL _ 22 4 _ rfl).trans ?_
 refine (refGo_word rV sU exTL _ 21 5 _ (r:=97) (e:=6) (kk:=1) (w:=[97]) (n:=0) rfl (by decide) (by decide) (rV_name _ _ (by decide) (by decide) (by decide) (by decide))).trans ?_
 refine (refGo_gap rV sU exTL _ 20 6 _ rfl).trans ?_
 refine (refGo_word rV sU exTL _ 19 7 _ (r:=112) (e:=11) (kk:=1) (w:=[112,97,103,101]) (n:=0) rfl (by decide) (by decide) (rV_name _ _ (by decide) (by decide) (by decide) (by decide))).trans ?_
 refine (refGo_gap rV sU exTL _ 18 11 _ rfl).trans ?_
 refine (refGo_sym rV sU exTL _ 17 12 _ (r:=123) (kk:=7) rfl (by decide) rfl).trans ?_
 refine (refGo_gap rV sU exTL _ 16 13 _ rfl).trans ?_
 refine (refGo_word rV sU exTL _ 15 14 _ (r:=102) (e:=17) (kk:=1) (w:=[102,111,114]) (n:=0) rfl (by decide) (by decide) (rV_name _ _ (by decide) (by decide) (by decide) (by decide))).trans ?_
 refine (refGo_gap rV sU exTL _ 14 17 _ rfl).trans ?_
 refine (refGo_word rV sU exTL _ 13 18 _ (r:=50) (e:=20) (kk:=6) (w:=[]) (n:=120) rfl (by decide) (by decide) (by rfl)).trans ?_
 refine (refGo_sym rV sU exTL _ 12 20 _ (r:=59) (kk:=9) rfl (by decide) rfl).trans ?_
 refine (refGo_gap rV sU exTL _ 11 21 _ rfl).trans ?_
 refine (refGo_sym rV sU exTL _ 10 22 _ (r:=125) (kk:=8) rfl (by decide) rfl).trans ?_
 refine (refGo_fin rV sU exTL _ 9 23 _ rfl).trans ?_
 rfl
set_option maxRecDepth 100000 in
theorem parse_exT:parseF exT=([.mk [114,117,108,101] [⟨1,[97],0,1,6⟩,⟨1,[112,97,103,101],0,1,8⟩] true [.mk [102,111,114] [⟨6,[],120,1,19⟩] false [] 1 15] 1 1],0,0,0):=by
 unfold parseF
 rw [tok_exT]
 rfl
set_option maxHeartbeats 1000000 in
theorem awake14_spec:Sp Tryz.prog gl 7 [] (.bool true):=by
 refine s7 rfl rfl ?_
 have T:=tparse_spec exT
 rw [parse_exT] at T
 unfold exT parseV at T
 simp only [itRows,It.row,List.map_cons,List.map_nil,Tk.row] at T
 simp -implicitDefEqProofs [c7]
 refine onC_mk _ (T) ?_
 simp -implicitDefEqProofs
open Go.Proofs
theorem itRows_at: ∀(L:List It) (i:Nat) (h:i<L.length) (h2:i<(itRows L).length),(itRows L)[i]=L[i].row
 |x::L,0,h,h2=>rfl
 |x::L,i+1,h,h2=>by
  simp only [itRows,List.getElem_cons_succ]
  exact itRows_at L i _ _
theorem cnt_mem: ∀ {L:List It} {x:It},x∈L→cntI x≤cntL L
 |y::L,x,h=>by
  rw [cntL]
  rcases List.mem_cons.1 h with rfl|h
  ·omega
  ·have:=cnt_mem h;omega
theorem wf_mem: ∀ {L:List It} {x:It},wfL L→x∈L→wfI x
 |y::L,x,hw,h=>by
  rw [wfL] at hw
  rcases List.mem_cons.1 h with rfl|h
  ·exact hw.1
  ·exact wf_mem hw.2 h
theorem cntL_take (L:List It) (i:Nat):cntL (L.take i)≤cntL L:=by
 have:=cntL_app (L.take i) (L.drop i)
 rw [List.take_append_drop] at this
 omega
theorem wfL_take (L:List It) (i:Nat) (h:wfL L):wfL (L.take i):=by
 have:=wfL_app (L.take i) (L.drop i)
 rw [List.take_append_drop] at this
 exact (this.1 h).1
theorem len_cnt: ∀L:List It,L.length≤cntL L
 |[]=>Nat.zero_le _
 | .mk n ws b ks ln co::L=>by
  have:=len_cnt L
  rw [cntL,cntI,List.length_cons]
  omega
mutual
theorem toksI_len: ∀x:It,wfI x→(toksI x).length≤9*cntI x
 | .mk n ws b ks ln co,h=>by
  rw [wfI] at h
  have:=toksL_len ks h.2.2.2
  rw [toksI,cntI]
  cases b
  ·simp;omega
  ·simp;omega
theorem toksL_len: ∀L:List It,wfL L→(toksL L).length≤9*cntL L
 |[],h=>Nat.zero_le _
 |x::L,h=>by
  rw [wfL] at h
  have h1:=toksI_len x h.1
  have h2:=toksL_len L h.2
  rw [toksL,cntL,List.length_append]
  omega
end
theorem toksL_snoc (L:List It) (i:Nat) (h:i<L.length):toksL (L.take (i+1))=toksL (L.take i)++toksI L[i]:=by
 rw [List.take_succ_eq_append_getElem h,toksL_app,toksL,toksL,List.append_nil]
set_option maxHeartbeats 1000000 in
theorem ltoks_spec: ∀(N:Nat) (L:List It),cntL L≤N→wfL L→cntL L≤300→Sp Tryz.prog gl 15 [.sl (itRows L)] (.sl ((toksL L).map Tk.row)):=by
 intro N
 induction N with
 |zero=>
  intro L h hw hc
  have hL:L=[]:=by
   have:=len_cnt L
   exact List.eq_nil_of_length_eq_zero (by omega)
  subst hL
  refine s15 rfl rfl ?_
  simp -implicitDefEqProofs [c15,itRows,toksL]
  refine wp_lpk (α:=Unit) (fun _=>⟨[(0,.sl []),(3,.sl []),(4,i6 0)],[],[]⟩) (fun _=>True) (fun _=>0) ?_ () trivial ?_
  ·rintro K x hK _
   clear hK
   simp -implicitDefEqProofs
  ·refine weak_mk ?_ ?_ ?_ ?_ ?_ ?_<;>simp -implicitDefEqProofs
 |succ N ih=>
  intro L h hw hc
  refine s15 rfl rfl ?_
  have hlim:lim=140737488355328:=rfl
  obtain ⟨R,hR⟩: ∃R,R=(toksL L).map Tk.row:=⟨_,rfl⟩
  rw [←hR]
  have rl:=itRows_len L
  have rat:=itRows_at L
  have ll:=len_cnt L
  generalize itRows L=RR at *
  simp -implicitDefEqProofs [c15]
  refine wp_lpk (α:=Nat) (fun i=>⟨[(0,.sl RR),(3,.sl ((toksL (L.take i)).map Tk.row)),(4,i6 i)],[],[(.s 3,5)]⟩) (fun i=>i≤L.length) (fun i=>L.length - i) ?_ 0 (Nat.zero_le _) ?_
  ·rintro K i hK h1
   have t1:IntKind.i64.wrap ((i:Int)+1)=(i+1:Nat):=by rw [wrap_i64]<;>omega
   by_cases g:i<L.length
   ·have g':(i:Int)<L.length:=by omega
    have gR:i<RR.length:=by omega
    have rai:=rat i g gR
    have hm:=List.getElem_mem g
    have hx1:=cnt_mem hm
    have hx2:=wf_mem hw hm
    have tl:=toksL_len (L.take i) (wfL_take L i hw)
    have tc:=cntL_take L i
    have fin:=fun σ' hσ=>hK (i+1) σ' (by omega) (by omega) hσ
    rw [toksL_snoc L i g] at fin
    have h5:=tk_five (toksL (L.take i))
    clear hK
    generalize L[i]=x at *
    obtain ⟨xn,ws,xb,ks,xl,xc⟩:=x
    rw [wfI] at hx2
    rw [cntI] at hx1
    have IH:=ih ks (by omega) hx2.2.2.2 (by omega)
    have kl:=toksL_len ks hx2.2.2.2
    have h5k:=tk_five (toksL ks)
    have h5w:=tk_five ws
    rw [It.row] at rai
    rw [toksI] at fin
    have ol:((toksL (L.take i)).map Tk.row).length≤2700:=by rw [List.length_map];omega
    have wl:(ws.map Tk.row).length≤6:=by rw [List.length_map];exact hx2.1
    have kl2:((toksL ks).map Tk.row).length≤2700:=by rw [List.length_map];omega
    cases xb
    ·rw [if_pos rfl] at fin
     simp only [List.map_append,List.map_cons,List.map_nil,Tk.row] at fin
     generalize (toksL (L.take i)).map Tk.row=OR at *
     generalize (toksL ks).map Tk.row=KR at *
     generalize ws.map Tk.row=WR at *
     generalize itRows ks=IR at *
     simp -implicitDefEqProofs [g,g',gR,rai,rl,hlim]
     refine ⟨by omega,h5,by omega,?_,h5w,by omega,?_,?_⟩
     ·rintro r (hr|rfl)
      ·exact h5 r hr
      ·rfl
     ·rintro r (hr|rfl|hr)
      ·exact h5 r hr
      ·rfl
      ·exact h5w r hr
     refine fin _ ?_
     refine weak_mk ?_ ?_ ?_ ?_ ?_ ?_<;>simp -implicitDefEqProofs [t1]
    ·rw [if_neg (by decide)] at fin
     simp only [List.map_append,List.map_cons,List.map_nil,Tk.row] at fin
     generalize (toksL (L.take i)).map Tk.row=OR at *
     generalize (toksL ks).map Tk.row=KR at *
     generalize ws.map Tk.row=WR at *
     generalize itRows ks=IR at *
     simp -implicitDefEqProofs [g,g',gR,rai,rl,hlim]
     refine ⟨by omega,h5,by omega,?_,h5w,by omega,?_,?_⟩
     ·rintro r (hr|rfl)
      ·exact h5 r hr
      ·rfl
     ·rintro r (hr|rfl|hr)
      ·exact h5 r hr
      ·rfl
      ·exact h5w r hr
     refine onC_mk _ (IH) ?_
     simp -implicitDefEqProofs [hlim]
     refine ⟨by omega,?_,h5k,by omega,?_,?_⟩
     ·rintro r (hr|rfl|hr|rfl)
      ·exact h5 r hr
      ·rfl
      ·exact h5w r hr
      ·rfl
     ·rintro r (hr|rfl|hr|rfl|hr)
      ·exact h5 r hr
      ·rfl
      ·exact h5w r hr
      ·rfl
      ·exact h5k r hr
     refine fin _ ?_
     refine weak_mk ?_ ?_ ?_ ?_ ?_ ?_<;>simp -implicitDefEqProofs [t1]
   ·obtain rfl:i=L.length:=by omega
    have g': ¬(L.length:Int)<L.length:=by omega
    rw [List.take_length,←hR]
    clear hK
    simp -implicitDefEqProofs [g',rl]
  ·refine weak_mk ?_ ?_ ?_ ?_ ?_ ?_<;>simp -implicitDefEqProofs [toksL]
open Go.Proofs
set_option maxHeartbeats 2000000 in
theorem treeTokens_spec (s:List UInt8):Sp Tryz.prog gl 6 [.str s] (.bool true):=by
 refine s6 rfl rfl ?_
 have AW:=awake14_spec
 by_cases c0:5000<s.length
 ·have c0':(5000:Int)<s.length:=by omega
  simp -implicitDefEqProofs [c6]
  refine onC_mk _ (AW) ?_
  simp -implicitDefEqProofs [c0,c0']
 have c0': ¬(5000:Int)<s.length:=by omega
 have PS:=tparse_spec s
 have PF:=parse_fwd s
 generalize parseF s=x at *
 obtain ⟨its,c,a,b⟩:=x
 simp only [parseV] at PS PF
 rcases PF with ⟨h1,h2⟩|⟨h1,h2⟩
 ·subst h2
  have h1':(c !=0)=true:=by simpa using h1
  simp only [itRows] at PS
  simp -implicitDefEqProofs [c6]
  refine onC_mk _ (AW) ?_
  simp -implicitDefEqProofs [c0,c0']
  refine onC_mk _ (PS) ?_
  simp -implicitDefEqProofs [h1,h1']
 ·simp only [Prod.mk.injEq] at h1
  obtain ⟨rfl,rfl,rfl⟩:=h1
  obtain ⟨hc,⟨T,z,e,hz,ht,hk⟩,hw,hd,hn,hp⟩:=h2
  have TK:=rtok_spec s
  have LT:=ltoks_spec _ its (Nat.le_refl _) hw hn
  generalize tokF s=y at *
  obtain ⟨yl,yc,ya,yb⟩:=y
  dsimp only at hc e
  subst hc
  unfold TR.av at TK
  dsimp only at TK
  rw [e] at TK
  rw [←ht] at LT
  have tl:T.length≤100000:=by
   have:=toksL_len its hw
   rw [←ht,List.length_map] at this
   omega
  obtain ⟨MM,hMM⟩: ∃MM,MM=(T.map unpl).map Tk.row:=⟨_,rfl⟩
  obtain ⟨TT,hTT⟩: ∃TT,TT=(T++[z]).map Tk.row:=⟨_,rfl⟩
  rw [←hMM] at LT
  rw [←hTT] at TK
  have ml:MM.length=T.length:=by rw [hMM,List.length_map,List.length_map]
  have tl2:TT.length=T.length+1:=by rw [hTT,List.length_map,List.length_append,List.length_singleton]
  have ma: ∀j (h:j<T.length) (h2:j<MM.length),MM[j]=[i6 T[j].k,.str T[j].t,u T[j].n,i6 (if T[j].k<7 then T[j].ln else 0),i6 (if T[j].k<7 then T[j].co else 0)]:=fun j h h2=>by
   simp [hMM,unpl,Tk.row]
  have ta: ∀j (h:j<T.length) (h2:j<TT.length),TT[j]=[i6 T[j].k,.str T[j].t,u T[j].n,i6 T[j].ln,i6 T[j].co]:=fun j h h2=>by
   simp only [hTT,List.getElem_map,List.getElem_append_left h]
   rfl
  clear hMM hTT ht e hp
  generalize itRows its=IR at *
  have w1:IntKind.i64.wrap (((T.length+1:Nat):Int) - 1)=(T.length:Int):=by rw [wrap_i64]<;>omega
  have w2:IntKind.i64.wrap ((T.length:Int)+1 - 1)=(T.length:Int):=by rw [wrap_i64]<;>omega
  have w3:IntKind.i64.wrap (T.length:Int)=(T.length:Int):=by rw [wrap_i64]<;>omega
  simp -implicitDefEqProofs [c6]
  refine onC_mk _ (AW) ?_
  simp -implicitDefEqProofs [c0,c0']
  refine onC_mk _ (PS) ?_
  simp -implicitDefEqProofs
  refine onC_mk _ (TK) ?_
  simp -implicitDefEqProofs
  refine onC_mk _ (LT) ?_
  simp -implicitDefEqProofs [ml,tl2,w1,w2,w3]
  refine wp_lpk (α:=Nat) (fun j=>⟨[(5,.sl TT),(7,.sl MM),(8,i6 j)],[],[]⟩) (fun j=>j≤T.length) (fun j=>T.length - j) ?_ 0 (Nat.zero_le _) ?_
  ·rintro K j hK hj
   have t2:IntKind.i64.wrap ((j:Int)+1)=(j+1:Nat):=by rw [wrap_i64]<;>omega
   by_cases q:j<T.length
   ·have q':(j:Int)<T.length:=by omega
    have qM:j<MM.length:=by omega
    have qT:j<TT.length:=by omega
    have q1:j<T.length+1:=by omega
    have maj:=ma j q qM
    have taj:=ta j q qT
    have fin:=fun σ' hσ=>hK (j+1) σ' (by omega) (by omega) hσ
    clear hK
    generalize T[j]=t at *
    obtain ⟨tk,tt,tn,tln,tco⟩:=t
    dsimp only at maj taj
    by_cases c7:tk<7
    ·rw [if_pos c7,if_pos c7] at maj
     simp -implicitDefEqProofs [q,q',qM,qT,q1,maj,taj,ml,tl2,c7]
     refine fin _ ?_
     refine weak_mk ?_ ?_ ?_ ?_ ?_ ?_<;>simp -implicitDefEqProofs [t2]
    ·rw [if_neg c7,if_neg c7] at maj
     simp -implicitDefEqProofs [q,q',qM,qT,q1,maj,taj,ml,tl2,c7]
     refine fin _ ?_
     refine weak_mk ?_ ?_ ?_ ?_ ?_ ?_<;>simp -implicitDefEqProofs [t2]
   ·have q': ¬(j:Int)<T.length:=by omega
    clear hK
    simp -implicitDefEqProofs [q,q',ml]
  ·refine weak_mk ?_ ?_ ?_ ?_ ?_ ?_<;>simp -implicitDefEqProofs
end Go.Ai
namespace Go.Ai
open Go.Proofs Go.Lib
set_option maxRecDepth 100000
def accCells:List Value:=(List.range 32).map fun o=>Value.int .u8 (if o%2=0 then (accLo (o / 2):Int) else (accHi (o / 2):Int))
def firstCells:List Value:=firstTab.map fun z=>Value.int .u8 z
theorem first_cell {W:World} (h:VarReads Tryz.prog W "unicode/utf8.first" firstData) (o:Nat) (u:Value) (hu:firstCells[o]?=some u):W.cell? ⟨1,o,none⟩=some u∧u.oneCell'=true:=by
 have hg0:Tryz.prog.globalNamed "unicode/utf8.first"=some 1:=by kernel_rfl
 have ht0:(Tryz.prog.globals[1]?).map (·.type)=some 159:=by kernel_rfl
 obtain ⟨g,t,cs,fuel,p,hg,hty,hvar,hd⟩:=h
 obtain rfl:=Option.some.inj (hg0.symm.trans hg)
 obtain rfl:=Option.some.inj (ht0.symm.trans hty)
 have hcs:=cells_of_tab (t:=159) (e:=5) (n:=256) (by kernel_rfl) (by kernel_rfl) (by kernel_rfl) (by kernel_rfl) hd
 refine ⟨?_,?_⟩
 ·rw [World.var?_cell hg hvar o,←Array.getElem?_toList,hcs]
  exact hu
 ·obtain ⟨z,_,rfl⟩:=List.mem_map.1 (List.mem_of_getElem? hu)
  rfl
theorem acc_cell {W:World} (h:VarReads Tryz.prog W "unicode/utf8.acceptRanges" acceptData) (o:Nat) (u:Value) (hu:accCells[o]?=some u):W.cell? ⟨2,o,none⟩=some u∧u.oneCell'=true:=by
 have hg0:Tryz.prog.globalNamed "unicode/utf8.acceptRanges"=some 2:=by kernel_rfl
 have ht0:(Tryz.prog.globals[2]?).map (·.type)=some 162:=by kernel_rfl
 have hc0:Tryz.prog.cellsOf 161=2:=by kernel_rfl
 obtain ⟨g,t,cs,fuel,p,hg,hty,hvar,hd⟩:=h
 obtain rfl:=Option.some.inj (hg0.symm.trans hg)
 obtain rfl:=Option.some.inj (ht0.symm.trans hty)
 have ho:o<32:=by have:=(List.getElem?_eq_some_iff.1 hu).1;simpa [accCells] using this
 simp only [accCells,List.getElem?_map,List.getElem?_range ho,Option.map_some,Option.some.injEq] at hu
 subst hu
 refine ⟨?_,by split<;>rfl⟩
 have hi:o / 2<16:=by omega
 obtain ⟨fuel',d,q,hdi,he⟩:=array_elem (t:=162) (e:=161) (n:=16) (by kernel_rfl) hd (o / 2) hi
 simp only [List.getElem?_map,List.getElem?_range hi,Option.map_some,Option.some.injEq] at hdi
 subst hdi
 rw [hc0] at he
 obtain ⟨fs,hfs,hsz,hf⟩: ∃fs:Array Field,Tryz.prog.underlying 161=some (.struct fs)∧fs.size=2∧ ∀(i:Nat) (f:Field),fs[i]?=some f→Tryz.prog.underlying f.type=some (.int .u8)∧f.offset=i∧Tryz.prog.cellsOf f.type=1:=by
  refine ⟨_,(by kernel_rfl:Tryz.prog.underlying 161=some (.struct #[Field.mk "lo" 5 0 false "" "unicode/utf8" 0,Field.mk "hi" 5 1 false "" "unicode/utf8" 1])),rfl,fun j f hj=>?_⟩
  match j,hj with
  |0,hj=>simp at hj;subst hj;exact ⟨by kernel_rfl,rfl,by kernel_rfl⟩
  |1,hj=>simp at hj;subst hj;exact ⟨by kernel_rfl,rfl,by kernel_rfl⟩
  |j+2,hj=>simp at hj
 have hcs:=ints_of_struct hfs hf (by rw [hc0,hsz]) he
 have e0:=congrArg (·[0]?) hcs
 have e1:=congrArg (·[1]?) hcs
 simp only [List.getElem?_take,List.getElem?_drop] at e0 e1
 rw [World.var?_cell hg hvar o,←Array.getElem?_toList]
 by_cases hp:o%2=0
 ·rw [if_pos hp]
  have eo:o / 2*2+0=o:=by omega
  rw [eo] at e0
  simpa using e0
 ·rw [if_neg hp]
  have eo:o / 2*2+1=o:=by omega
  rw [eo] at e1
  simpa using e1
end Go.Ai
