/- P14: a part of the proof: the rules, or what functions compute. Conditions: as each theorem says. -/
import Derived.Test.YtggemlhclppciaaGreatDoorP13
import Derived.Test.YtggemlhclppciaaGreatDoorP12
import Derived.Test.YtggemlhclppciaaGreatDoorP3
set_option linter.unusedSimpArgs false
set_option linter.unusedVariables false
set_option maxRecDepth 20000
namespace Go.Ai
open Go.Proofs
mutual
def bdI:It→Prop
 | .mk n ws _ ks _ _=>(ws.length≤1000∧n.length≤100000∧ ∀t∈ws,t.t.length≤100000)∧bdL ks
def bdL:List It→Prop
 |[]=>True
 |x::r=>bdI x∧bdL r
end
theorem bd_mem: ∀ {L:List It} {x:It},bdL L→x∈L→bdI x
 |y::L,x,hw,h=>by
  rw [bdL] at hw
  rcases List.mem_cons.1 h with rfl|h
  ·exact hw.1
  ·exact bd_mem hw.2 h
open Go.Proofs
end Go.Ai
namespace Go.Ai
open Go.Proofs Go.Shelf
mutual
def nuI:It→Prop
 | .mk _ ws _ ks _ _=>(∀w∈ws,w.n<18446744073709551616)∧nuL ks
def nuL:List It→Prop
 |[]=>True
 |x::r=>nuI x∧nuL r
end
theorem nu_mem: ∀ {L:List It} {x:It},nuL L→x∈L→nuI x
 |y::L,x,hw,h=>by
  rw [nuL] at hw
  rcases List.mem_cons.1 h with rfl|h
  ·exact hw.1
  ·exact nu_mem hw.2 h
theorem sRows_flat (V:List (List UInt8)):(strRows V).flatten=V.map AV.str:=by
 unfold strRows
 induction V with
 |nil=>rfl
 |cons a r ih=>rw [List.map_cons,List.flatten_cons,ih];rfl
theorem str_ids (V:List (List UInt8)):idsL (V.map AV.str)=[]:=by
 induction V with
 |nil=>rfl
 |cons a r ih=>rw [List.map_cons,idsL,ih];rfl
theorem strRows_one (V:List (List UInt8)): ∀r∈strRows V,r.length=1:=by
 intro r hr
 unfold strRows at hr
 rw [List.mem_map] at hr
 obtain ⟨x,_,rfl⟩:=hr
 rfl
theorem strRows_app (a b:List (List UInt8)):strRows (a++b)=strRows a++strRows b:=List.map_append
theorem join_semi: ∀(A:List (List UInt8)) (x:List UInt8),Lib.join (A++[x++[59]]) [32]=Lib.join (A++[x]) [32]++[59]
 |[],x=>by rw [List.nil_append,List.nil_append,Lib.join_one,Lib.join_one]
 |n::A,x=>by
  rw [join_last,join_last]
  simp
theorem join_last_le: ∀(A:List (List UInt8)) (x:List UInt8),x.length≤(Lib.join (A++[x]) [32]).length
 |[],x=>by rw [List.nil_append,Lib.join_one];omega
 |n::A,x=>by rw [join_last,List.length_append,List.length_cons];omega
theorem last_of (a:List UInt8) (r:List (List UInt8)): ∃A x,a::r=A++[x]∧A.length=r.length:=by
 rcases List.eq_nil_or_concat (a::r) with h|⟨A,x,h⟩
 ·cases h
 ·refine ⟨A,x,by rw [h,List.concat_eq_append],?_⟩
  have:=congrArg List.length h
  simp at this
  omega
def cE (L:List It) (c:AV) (b:Id):AV:=match L with
 |[]=>c
 |_::_=> .ptr b 0
theorem cE_ptr (L:List It) (b:Id):cE L (.ptr b 0) b= .ptr b 0:=by cases L<;>rfl
theorem prI_flat (d:Nat) (n:List UInt8) (ws:List Tk) (ks:List It) (ln co:Int):prI d (.mk n ws false ks ln co)=indS d++(Lib.join (n::ws.map tkS) [32]++[59]++[10]):=by
 rw [prI,if_pos rfl,join_wds]
 simp
theorem prI_block (d:Nat) (n:List UInt8) (ws:List Tk) (ks:List It) (ln co:Int) (T:List UInt8):T++prI d (.mk n ws true ks ln co)=
  ((T++(indS d++(Lib.join ((n::ws.map tkS)++[[123]]) [32]++[10])))++prL (d+1) ks)++(indS d++(Lib.join [[125]] [32]++[10])):=by
 rw [prI,if_neg (by decide),join_last,join_wds,Lib.join_one]
 simp
theorem prL_next (d:Nat) (L:List It) (i:Nat) (h:i<L.length):prL d (L.take (i+1))=prL d (L.take i)++prI d L[i]:=by
 rw [List.take_succ_eq_append_getElem h,prL_app,prL,prL,List.append_nil]
theorem prL_le (d:Nat) (L:List It) (i:Nat):(prL d (L.take i)).length≤(prL d L).length:=by
 have:=prL_app d (L.take i) (L.drop i)
 rw [List.take_append_drop] at this
 rw [this,List.length_append]
 omega
end Go.Ai
namespace Go.Ai
open Go.Proofs Go.Shelf
theorem fz_last {A:List (List UInt8)} {x:List UInt8} {m:Nat} (h:A.length=m):((A++[x]).map AV.str).take m++ .str (x++[59])::((A++[x]).map AV.str).drop (m+1)=(strRows (A++[x++[59]])).flatten:=by
 rw [sRows_flat,List.map_append,List.map_append,List.take_left' (by simpa using h),List.drop_of_length_le (by simp;omega)]
 simp
set_option maxHeartbeats 4000000 in
theorem llist_spec: ∀(N:Nat) (L:List It) (d:Nat) (b:Id) (c0:AV) (l:List UInt8) (dep:Nat),b.isIt=false→b.isNw d=false→(c0= .nilT b 71 3∨c0= .ptr b 0)→cntL L≤N→cntL L≤10000→bdL L→nuL L→dep+cntL L≤20000→l.length+(prL dep L).length≤10000000000000→
  SpH Tryz.prog gl 39 d ⟨[.ptr b 0,.sl (itRows L)],[(b,[c0,.sl (byteRows l),i6 dep])],[(.b b 1,bk 5)]⟩ ⟨.tup [],[(b,[cE L c0 b,.sl (byteRows (l++prL dep L)),i6 dep])],[(.b b 1,bk 5)]⟩:=by
 intro N
 induction N with
 |zero=>
  intro L d b c0 l dep hb hbd hc0 hN hc hbd2 hnu hdep hl
  have hL:L=[]:=by
   have:=len_cnt L
   exact List.eq_nil_of_length_eq_zero (by omega)
  subst hL
  refine h39 rfl ?_
  have hic:=inn_notNw hbd
  rw [prL,List.append_nil,cE,itRows]
  simp only [inSt,mpB,mpL,AV.mp,mpP,Pl.mp]
  rcases hc0 with rfl|rfl
  ·simp [c39]
   refine wp_lpk (α:=Unit) (fun _=>⟨[(0,.ptr (.up b) 0),(9,.sl []),(10,i6 0),(11,i6 0)],[(.up b,[.nilT (.up b) 71 3,.sl (byteRows l),i6 dep])],[(.b (.up b) 1,bk 5)]⟩) (fun _=>True) (fun _=>0) ?_ () trivial ?_
   ·rintro K x hK _
    clear hK
    simp -implicitDefEqProofs
    refine postH_n ⟨?_,?_,?_,?_,?_,?_⟩<;>simp -implicitDefEqProofs [hic,hb]
   ·refine weak_mk ?_ ?_ ?_ ?_ ?_ ?_<;>simp -implicitDefEqProofs
  ·simp [c39]
   refine wp_lpk (α:=Unit) (fun _=>⟨[(0,.ptr (.up b) 0),(9,.sl []),(10,i6 0),(11,i6 0)],[(.up b,[.ptr (.up b) 0,.sl (byteRows l),i6 dep])],[(.b (.up b) 1,bk 5)]⟩) (fun _=>True) (fun _=>0) ?_ () trivial ?_
   ·rintro K x hK _
    clear hK
    simp -implicitDefEqProofs
    refine postH_n ⟨?_,?_,?_,?_,?_,?_⟩<;>simp -implicitDefEqProofs [hic,hb]
   ·refine weak_mk ?_ ?_ ?_ ?_ ?_ ?_<;>simp -implicitDefEqProofs
 |succ N ih=>
  intro L d b c0 l dep hb hbd hc0 hN hc hbd2 hnu hdep hl
  refine h39 rfl ?_
  have hlim:lim=140737488355328:=rfl
  have hic:=inn_notNw hbd
  have rl:=itRows_len L
  have rat:=itRows_at L
  have ll:=len_cnt L
  obtain ⟨c1,hc1⟩: ∃c1:AV,c1=AV.mp Id.up c0:=⟨_,rfl⟩
  have hc1':c1= .nilT (.up b) 71 3∨c1= .ptr (.up b) 0:=by
   rcases hc0 with rfl|rfl
   ·exact .inl hc1
   ·exact .inr hc1
  obtain ⟨cz,hcz⟩: ∃cz:AV,cz=cE L c0 b:=⟨_,rfl⟩
  obtain ⟨RT,hRT⟩: ∃RT,RT=l++prL dep L:=⟨_,rfl⟩
  rw [←hcz,←hRT]
  obtain ⟨RR,hRR⟩: ∃RR,RR=itRows L:=⟨_,rfl⟩
  rw [←hRR] at rl rat ⊢
  simp only [inSt,mpB,mpL,AV.mp,mpP,Pl.mp,←hc1]
  simp -implicitDefEqProofs [c39]
  refine wp_lpk (α:=Nat×AV) (fun p=>⟨[(0,.ptr (.up b) 0),(9,.sl RR),(10,i6 L.length),(11,i6 p.1)],[(.up b,[p.2,.sl (byteRows (l++prL dep (L.take p.1))),i6 dep])],[(.b (.up b) 1,bk 5)]⟩)
   (fun p=>p.1≤L.length∧(p.2= .nilT (.up b) 71 3∨p.2= .ptr (.up b) 0)∧(p.1=0→p.2=c1)∧(0<p.1→p.2= .ptr (.up b) 0)) (fun p=>L.length - p.1) ?_ (0,c1) ?_ ?_
  ·rintro K ⟨i,ci⟩ hK ⟨h1,h2,h3,h4⟩
   simp only at h1 h2 h3 h4 ⊢
   have t1:IntKind.i64.wrap ((i:Int)+1)=(i+1:Nat):=by rw [wrap_i64]<;>omega
   by_cases g:i<L.length
   ·have g':(i:Int)<RR.length:=by omega
    have g2:(i:Int)<L.length:=by omega
    have gR:i<RR.length:=by omega
    have rai:=rat i g gR
    have hx1:=cnt_mem (List.getElem_mem g)
    have hx2:=bd_mem hbd2 (List.getElem_mem g)
    have hx3:=nu_mem hnu (List.getElem_mem g)
    have fin:=fun σ' hσ=>hK (i+1,.ptr (.up b) 0) σ' ⟨by simp only;omega,.inr rfl,fun h=>by simp at h,fun _=>rfl⟩ (by simp only;omega) hσ
    simp only at fin
    rw [prL_next dep L i g,←List.append_assoc] at fin
    have len1:=prL_le dep L (i+1)
    rw [prL_next dep L i g,List.length_append] at len1
    clear hK rat h3 h4 hRT hcz
    have cin: ∀j,¬Id.n j∈ci.ids:=by
     intro j
     rcases h2 with rfl|rfl<;>simp [AV.ids]
    have ciu: ∀d,d∈ci.ids→d.isUp=true:=by
     intro d hd
     rcases h2 with rfl|rfl
     ·simp only [AV.ids,List.mem_singleton] at hd;rw [hd];rfl
     ·simp only [AV.ids,List.mem_singleton] at hd;rw [hd];rfl
    generalize L[i]=x at *
    generalize hT0:l++prL dep (L.take i)=T0 at *
    have hT0l:T0.length=l.length+(prL dep (L.take i)).length:=by rw [←hT0,List.length_append]
    obtain ⟨xn,ws,xb,ks,xl,xc⟩:=x
    rw [cntI] at hx1
    rw [bdI] at hx2
    rw [nuI] at hx3
    rw [It.row] at rai
    have IH:=ih ks
    generalize itRows ks=KR at *
    have wl:(ws.map Tk.row).length=ws.length:=List.length_map _
    have wat: ∀k (h:k<ws.length),∀h2,(ws.map Tk.row)[k]'h2=ws[k].row:=fun k h h2=>by simp
    have wlen:=hx2.1.1
    generalize ws.map Tk.row=WR at *
    simp -implicitDefEqProofs [g,g2,g',gR,rai,rl]
    refine wp_lpk (α:=Nat×Id) (fun p=>⟨[(0,.ptr (.up b) 0),(9,.sl RR),(10,i6 L.length),(11,i6 i),(5,.ptr (.n 5) 0),(6,.ms p.2 0 (p.1+1) 1),(19,.sl WR),(20,i6 ws.length),(21,i6 p.1)],[(.n 5,[.str xn,.sl WR,.bool xb,.sl KR,i6 xl,i6 xc]),(p.2,(xn::(ws.take p.1).map tkS).map AV.str),(.up b,[ci,.sl (byteRows T0),i6 dep])],[(.b (.up b) 1,bk 5)]⟩)
     (fun p=>p.1≤ws.length∧(p.2= .n 17∨p.2= .n 29)) (fun p=>ws.length - p.1) ?_ (0,.n 17) ⟨Nat.zero_le _,.inl rfl⟩ ?_
    ·rintro K ⟨k,q⟩ hK2 ⟨k1,k2⟩
     simp only at k1 k2 ⊢
     have t2:IntKind.i64.wrap ((k:Int)+1)=(k+1:Nat):=by rw [wrap_i64]<;>omega
     have qit:q.isIt=false:=by rcases k2 with rfl|rfl<;>rfl
     have qup:q.isUp=false:=by rcases k2 with rfl|rfl<;>rfl
     by_cases gk:k<ws.length
     ·have gk':(k:Int)<ws.length:=by omega
      have gW:k<WR.length:=by omega
      have wak:=wat k gk gW
      have fin2:=fun σ' hσ=>hK2 (k+1,.n 29) σ' ⟨by simp only;omega,.inr rfl⟩ (by simp only;omega) hσ
      simp only at fin2
      have tk1:=hx2.1.2.2 _ (List.getElem_mem gk)
      have tk2:=hx3.1 _ (List.getElem_mem gk)
      have SP:=sprt_spec ws[k].k ws[k].t ws[k].n ws[k].ln ws[k].co tk1 tk2
      rw [←tk_agg,show tkP ws[k].k ws[k].t ws[k].n=tkS ws[k] from rfl] at SP
      have hnx:(xn::(ws.take (k+1)).map tkS).map AV.str=(xn::(ws.take k).map tkS).map AV.str++[.str (tkS ws[k])]:=by
       rw [List.take_succ_eq_append_getElem gk,List.map_append,←List.cons_append,List.map_append]
       rfl
      have hcl:((xn::(ws.take k).map tkS).map AV.str).length=k+1:=by simp;omega
      have hci:=str_ids (xn::(ws.take k).map tkS)
      have hci2:=str_ids (xn::(ws.take (k+1)).map tkS)
      rw [hnx] at fin2 hci2
      clear hK2 wat fin IH hnx
      generalize (xn::(ws.take k).map tkS).map AV.str=CC at *
      generalize tkS ws[k]=TS at *
      generalize ws[k]=w at *
      obtain ⟨wk,wt,wn,wl1,wc⟩:=w
      simp only [Tk.row] at wak SP
      rcases k2 with rfl|rfl
      ·simp [gk,gk',gW,wak,wl,hlim,hcl,hci]
       refine onC_mk _ (SP) ?_
       simp -implicitDefEqProofs [hlim,hcl,hci,idsL,AV.ids,rmB,purE]
       refine ⟨cin 17,by omega,fin2 _ ?_⟩
       refine weak_mk ?_ ?_ ?_ ?_ ?_ ?_<;>simp -implicitDefEqProofs [t2,hci2]
       intro d hd
       exact .inr (ciu d hd)
      ·simp [gk,gk',gW,wak,wl,hlim,hcl,hci]
       refine onC_mk _ (SP) ?_
       simp -implicitDefEqProofs [hlim,hcl,hci,idsL,AV.ids,rmB,purE]
       refine ⟨cin 29,by omega,fin2 _ ?_⟩
       refine weak_mk ?_ ?_ ?_ ?_ ?_ ?_<;>simp -implicitDefEqProofs [t2,hci2]
       intro d hd
       exact .inr (ciu d hd)
     ·obtain rfl:k=ws.length:=by omega
      have gk': ¬(ws.length:Int)<ws.length:=by omega
      clear hK2 wat
      rw [List.take_length]
      obtain ⟨A,z,hA,hAl⟩:=last_of xn (ws.map tkS)
      rw [List.length_map] at hAl
      cases xb with
      |false=>
       rw [prI_flat,hA,List.length_append,List.length_append,List.length_append] at len1
       rw [prI_flat,hA,←join_semi] at fin
       have zle:=join_last_le A z
       have jse:=congrArg List.length (join_semi A z)
       rw [List.length_append] at jse
       have w1:IntKind.i64.wrap ((ws.length:Int)+1 - 1)=(ws.length:Nat):=by rw [wrap_i64]<;>omega
       have w3:(ws.length:Int)<(ws.length:Int)+1:=by omega
       have w2:IntKind.i64.wrap (ws.length:Int)=(ws.length:Nat):=by rw [wrap_i64]<;>omega
       rw [hA]
       have LS:=fun c h=>lline_spec 44 (.up b) hb rfl c h T0 dep (by omega) (A++[z++[59]]) (by simp;omega) (by simp only [List.length_singleton] at *;omega)
       have zl:z.length+1≤9223372036854775807:=by simp only [List.length_singleton] at *;omega
       have fl:=fz_last (x:=z) hAl
       have cat: ∀h:ws.length<((A++[z]).map AV.str).length,((A++[z]).map AV.str)[ws.length]'h= .str z:=by intro h;simp [hAl]
       have ccl:((A++[z]).map AV.str).length=ws.length+1:=by simp [hAl]
       have rwl:(strRows (A++[z++[59]])).length=ws.length+1:=by simp [strRows,hAl]
       have rw1:=strRows_one (A++[z++[59]])
       have idf:idsL (strRows (A++[z++[59]])).flatten=[]:=by rw [sRows_flat,str_ids]
       generalize (A++[z]).map AV.str=CC at *
       generalize strRows (A++[z++[59]])=SR at *
       rcases k2 with rfl|rfl
       ·simp [gk',w1,w2,w3,cat,ccl,zl,fl]
        refine onZ_mk (.n 17) (ws.length+1) 1 SR [] ⟨by simp -implicitDefEqProofs,by simp -implicitDefEqProofs [fl],rfl,rwl,rw1,idf,?_⟩ (by decide) ?_
        ·simp [rmB,idsL,AV.ids,cin]
        simp -implicitDefEqProofs [frzStP,frzSt,rmB,purE,AV.ids,idsL,dlB]
        refine onH_mk _ _ (LS ci h2) ⟨?_,?_,?_,?_,?_,?_,?_⟩ ?_
        iterate 7 (· simp)
        simp -implicitDefEqProofs
        refine fin _ ?_
        refine weak_mk ?_ ?_ ?_ ?_ ?_ ?_<;>simp -implicitDefEqProofs [t1]
       ·simp [gk',w1,w2,w3,cat,ccl,zl,fl]
        refine onZ_mk (.n 29) (ws.length+1) 1 SR [] ⟨by simp -implicitDefEqProofs,by simp -implicitDefEqProofs [fl],rfl,rwl,rw1,idf,?_⟩ (by decide) ?_
        ·simp [rmB,idsL,AV.ids,cin]
        simp -implicitDefEqProofs [frzStP,frzSt,rmB,purE,AV.ids,idsL,dlB]
        refine onH_mk _ _ (LS ci h2) ⟨?_,?_,?_,?_,?_,?_,?_⟩ ?_
        iterate 7 (· simp)
        simp -implicitDefEqProofs
        refine fin _ ?_
        refine weak_mk ?_ ?_ ?_ ?_ ?_ ?_<;>simp -implicitDefEqProofs [t1]
      |true=>
       have pb:=prI_block dep xn ws ks xl xc T0
       rw [pb] at fin
       have pl:=congrArg List.length pb
       simp only [List.length_append] at pl
       have i0:=indS_len dep
       obtain ⟨d1,hd1⟩: ∃d1,d1=dep+1:=⟨_,rfl⟩
       rw [←hd1] at fin pl
       have wd1:IntKind.i64.wrap ((dep:Int)+1)=(d1:Nat):=by rw [wrap_i64]<;>omega
       have wd2:IntKind.i64.wrap ((d1:Int) - 1)=(dep:Nat):=by rw [wrap_i64]<;>omega
       have LS1:=fun c h=>lline_spec 49 (.up b) hb rfl c h T0 dep (by omega) ((xn::ws.map tkS)++[[123]]) (by simp;omega) (by omega)
       obtain ⟨T1,hT1⟩: ∃T1,T1=T0++(indS dep++(Lib.join ((xn::ws.map tkS)++[[123]]) [32]++[10])):=⟨_,rfl⟩
       have T1l:=congrArg List.length hT1
       simp only [List.length_append] at T1l
       rw [←hT1] at LS1 fin
       have IH1:=IH 60 (.up b) (.ptr (.up b) 0) T1 d1 hb rfl (.inr rfl) (by omega) (by omega) hx2.2 hx3.2 (by omega) (by omega)
       rw [cE_ptr] at IH1
       obtain ⟨T2,hT2⟩: ∃T2,T2=T1++prL d1 ks:=⟨_,rfl⟩
       have T2l:=congrArg List.length hT2
       simp only [List.length_append] at T2l
       rw [←hT2] at IH1 fin
       have LS3:=lline_spec 70 (.up b) hb rfl (.ptr (.up b) 0) (.inr rfl) T2 dep (by omega) [[125]] (by simp) (by omega)
       generalize T2++(indS dep++(Lib.join [[125]] [32]++[10]))=T3 at *
       rw [strRows_app,show strRows [[123]]=[[AV.str [123]]] from rfl] at LS1
       rw [show strRows [[125]]=[[AV.str [125]]] from rfl] at LS3
       have rwl:(strRows (xn::ws.map tkS)).length=ws.length+1:=by simp [strRows]
       have rw1:=strRows_one (xn::ws.map tkS)
       have rwf:=sRows_flat (xn::ws.map tkS)
       have idf:idsL (strRows (xn::ws.map tkS)).flatten=[]:=by rw [sRows_flat,str_ids]
       clear pb pl T1l T2l hT1 hT2 IH
       generalize strRows (xn::ws.map tkS)=SR at *
       rw [←rwf]
       clear rwf
       obtain ⟨CC,SRf⟩: ∃CC,SR.flatten=CC:=⟨_,rfl⟩
       rw [SRf] at idf ⊢
       rcases k2 with rfl|rfl
       ·simp [gk']
        refine onZ_mk (.n 17) (ws.length+1) 1 SR [] ⟨by simp -implicitDefEqProofs,by simp -implicitDefEqProofs [SRf],rfl,rwl,rw1,by rw [SRf];exact idf,?_⟩ (by decide) ?_
        ·simp [rmB,idsL,AV.ids,cin]
        simp -implicitDefEqProofs [frzStP,frzSt,rmB,purE,AV.ids,idsL,dlB,hlim]
        refine ⟨by omega,rw1,?_⟩
        refine onH_mk _ _ (LS1 ci h2) ⟨?_,?_,?_,?_,?_,?_,?_⟩ ?_
        iterate 7 (· simp)
        simp -implicitDefEqProofs [wd1]
        refine onH_mk _ _ (IH1) ⟨?_,?_,?_,?_,?_,?_,?_⟩ ?_
        iterate 7 (· simp)
        simp -implicitDefEqProofs [wd2]
        refine onH_mk _ _ (LS3) ⟨?_,?_,?_,?_,?_,?_,?_⟩ ?_
        iterate 7 (· simp)
        simp -implicitDefEqProofs
        refine fin _ ?_
        refine weak_mk ?_ ?_ ?_ ?_ ?_ ?_<;>simp -implicitDefEqProofs [t1]
       ·simp [gk']
        refine onZ_mk (.n 29) (ws.length+1) 1 SR [] ⟨by simp -implicitDefEqProofs,by simp -implicitDefEqProofs [SRf],rfl,rwl,rw1,by rw [SRf];exact idf,?_⟩ (by decide) ?_
        ·simp [rmB,idsL,AV.ids,cin]
        simp -implicitDefEqProofs [frzStP,frzSt,rmB,purE,AV.ids,idsL,dlB,hlim]
        refine ⟨by omega,rw1,?_⟩
        refine onH_mk _ _ (LS1 ci h2) ⟨?_,?_,?_,?_,?_,?_,?_⟩ ?_
        iterate 7 (· simp)
        simp -implicitDefEqProofs [wd1]
        refine onH_mk _ _ (IH1) ⟨?_,?_,?_,?_,?_,?_,?_⟩ ?_
        iterate 7 (· simp)
        simp -implicitDefEqProofs [wd2]
        refine onH_mk _ _ (LS3) ⟨?_,?_,?_,?_,?_,?_,?_⟩ ?_
        iterate 7 (· simp)
        simp -implicitDefEqProofs
        refine fin _ ?_
        refine weak_mk ?_ ?_ ?_ ?_ ?_ ?_<;>simp -implicitDefEqProofs [t1]
    ·rw [List.take_zero]
     refine weak_mk ?_ ?_ ?_ ?_ ?_ ?_<;>simp -implicitDefEqProofs [wl]
     intro d hd
     exact .inr (ciu d hd)
   ·obtain rfl:i=L.length:=by omega
    have g': ¬(L.length:Int)<RR.length:=by omega
    rw [List.take_length,←hRT]
    have hz:(ci= .ptr (.up b) 0∧cz= .ptr b 0)∨(ci= .nilT (.up b) 71 3∧cz= .nilT b 71 3):=by
     cases L with
     |nil=>
      have e1:=h3 rfl
      have e2:cz=c0:=hcz
      rcases hc0 with rfl|rfl
      ·exact .inr ⟨e1.trans hc1,e2⟩
      ·exact .inl ⟨e1.trans hc1,e2⟩
     |cons x r=>exact .inl ⟨h4 (by simp),hcz⟩
    clear hK h2 h3 h4 hc0 hc1 hc1' hcz
    rcases hz with ⟨rfl,rfl⟩|⟨rfl,rfl⟩
    ·simp [g',rl]
     refine postH_n ⟨?_,?_,?_,?_,?_,?_⟩<;>simp -implicitDefEqProofs [hic,hb]
    ·simp [g',rl]
     refine postH_n ⟨?_,?_,?_,?_,?_,?_⟩<;>simp -implicitDefEqProofs [hic,hb]
  ·refine ⟨Nat.zero_le _,hc1',fun _=>rfl,fun h=>by simp at h⟩
  ·rw [List.take_zero]
   simp only [prL,List.append_nil]
   refine weak_mk ?_ ?_ ?_ ?_ ?_ ?_<;>simp -implicitDefEqProofs [rl]
   intro d hd
   rcases hc1' with rfl|rfl
   ·simp only [AV.ids,List.mem_singleton] at hd
    exact .inl hd.symm
   ·simp only [AV.ids,List.mem_singleton] at hd
    exact .inl hd.symm
end Go.Ai
namespace Go.Ai
open Go.Proofs Go.Shelf
theorem tkP_lenB (k:Int) (s:List UInt8) (n:Nat) (hn:n<18446744073709551616) (hl:s.length≤100000):(tkP k s n).length≤103000:=by
 cases hr:tkR k s n with
 |false=>unfold tkP;rw [hr,if_pos rfl];decide
 |true=>
  by_cases c1:k=1
  ·unfold tkP
   rw [hr,if_neg (by decide),if_pos c1];omega
  by_cases c2:k=2
  ·unfold tkP
   rw [hr,if_neg (by decide),if_neg c1,if_pos c2]
   subst c2
   obtain ⟨_,_,_,h3⟩:=tkP_quote s n hr
   have:=esL_len (runesL s 0)
   unfold quL
   rw [List.length_cons,List.length_append,List.length_singleton]
   omega
  have hs:s=[]:=by
   unfold tkR at hr
   rw [if_neg c1,if_neg c2] at hr
   repeat' split at hr
   all_goals first|(simp at hr;done)|(simp at hr;first|exact hr|exact hr.1)
  have:=tkP_lenS k s n hn (by rw [hs];decide)
  omega
theorem wdS_len: ∀ws:List Tk,(∀w∈ws,w.n<18446744073709551616)→(∀t∈ws,t.t.length≤100000)→(wdS ws).length≤103001*ws.length
 |[],_,_=>by simp [wdS]
 |w::ws,h1,h2=>by
  have:=wdS_len ws (fun x hx=>h1 x (by simp [hx])) (fun x hx=>h2 x (by simp [hx]))
  have:=tkP_lenB w.k w.t w.n (h1 w (by simp)) (h2 w (by simp))
  rw [wdS,List.length_cons,List.length_append,List.length_cons]
  unfold tkS
  omega
mutual
theorem prI_len: ∀(x:It) (d:Nat),bdI x→nuI x→d+cntI x≤20000→(prI d x).length≤cntI x*200000000
 | .mk n ws b ks ln co,d,h1,h2,h3=>by
  rw [bdI] at h1
  rw [nuI] at h2
  rw [cntI] at h3 ⊢
  have w:=wdS_len ws h2.1 h1.1.2.2
  have k:=prL_len ks (d+1) h1.2 h2.2 (by omega)
  have i0:=indS_len d
  rw [prI]
  have h5:=h1.1.1
  have h6:=h1.1.2.1
  cases b with
  |false=>
   rw [if_pos rfl]
   simp only [List.length_append,List.length_cons,List.length_nil]
   omega
  |true=>
   rw [if_neg (by decide)]
   simp only [List.length_append,List.length_cons,List.length_nil]
   omega
theorem prL_len: ∀(L:List It) (d:Nat),bdL L→nuL L→d+cntL L≤20000→(prL d L).length≤cntL L*200000000
 |[],d,_,_,_=>by simp [prL]
 |x::r,d,h1,h2,h3=>by
  rw [bdL] at h1
  rw [nuL] at h2
  rw [cntL] at h3 ⊢
  have a:=prI_len x d h1.1 h2.1 (by omega)
  have c:=prL_len r d h1.2 h2.2 (by omega)
  rw [prL,List.length_append]
  omega
end
mutual
theorem flatI_bd: ∀(x:It) (d:Nat),bdI x→cntI x≤100000→ ∀p∈flatI x d,txIt p.2∧p.1<d+cntI x
 | .mk n ws b ks ln co,d,h1,h2,p,hp=>by
  rw [flatI,List.mem_cons] at hp
  rw [bdI] at h1
  rw [cntI] at h2 ⊢
  rcases hp with rfl|hp
  ·have:=len_cnt ks
   exact ⟨⟨by omega,by omega,fun t ht=>by have:=h1.1.2.2 t ht;omega,by omega⟩,by dsimp only;omega⟩
  ·have:=flatL_bd ks (d+1) h1.2 (by omega) p hp
   exact ⟨this.1,by omega⟩
theorem flatL_bd: ∀(L:List It) (d:Nat),bdL L→cntL L≤100000→ ∀p∈flatL L d,txIt p.2∧p.1<d+cntL L
 |[],d,_,_,p,hp=>by cases hp
 |x::r,d,h1,h2,p,hp=>by
  rw [flatL,List.mem_append] at hp
  rw [bdL] at h1
  rw [cntL] at h2 ⊢
  rcases hp with hp|hp
  ·have:=flatI_bd x d h1.1 (by omega) p hp
   exact ⟨this.1,by omega⟩
  ·have:=flatL_bd r d h1.2 (by omega) p hp
   exact ⟨this.1,by omega⟩
end
theorem lright_pure (L:List It) (hc:cntL L≤10000) (hb:bdL L):Sp Tryz.prog gl 19 [.sl (itRows L)] (.bool (okAll 0 (flatL L 1))):=by
 have:=depL_cnt L
 exact Sp.of_h fun D=>lright_spec L (by omega) (by omega) (fun p hp=>by
  have:=flatL_bd L 1 hb (by omega) p hp
  exact ⟨this.1,by omega⟩) D
theorem lst_spec {d:Nat} {b:Id} (hit:b.isIt=false) (hnwb:b.isNw d=false) {c0:AV} (l:List UInt8) (n:Nat) (h0:l≠[]):
  SpH Tryz.prog gl 40 d ⟨[.ptr b 0],[(b,[c0,.sl (byteRows l),i6 n])],[(.b b 1,bk 5)]⟩ ⟨.str l,[(b,[c0,.sl (byteRows l),i6 n])],[]⟩:=
 st_shelf (L:={laysJoin with}) extraJ (by kernel_rfl) (by kernel_rfl) hit hnwb (rest:=[i6 n]) l h0
theorem lst0_spec {d:Nat} {b:Id} (hit:b.isIt=false) (hnwb:b.isNw d=false) {c0:AV} (n:Nat):
  SpH Tryz.prog gl 40 d ⟨[.ptr b 0],[(b,[c0,.nils,i6 n])],[]⟩ ⟨.str [],[(b,[c0,.nils,i6 n])],[]⟩:=
 st0_shelf (L:={laysJoin with}) extraJ (by kernel_rfl) (by kernel_rfl) hit hnwb (rest:=[i6 n])
theorem llist_nil (d:Nat) (b:Id) (hb:b.isIt=false) (hbd:b.isNw d=false):SpH Tryz.prog gl 39 d ⟨[.ptr b 0,.sl []],[(b,[.nilT b 71 3,.nils,i6 0])],[]⟩ ⟨.tup [],[(b,[.nilT b 71 3,.nils,i6 0])],[]⟩:=by
 refine h39 rfl ?_
 have hic:=inn_notNw hbd
 simp only [inSt,mpB,mpL,AV.mp,mpP,Pl.mp]
 simp -implicitDefEqProofs [c39]
 refine wp_lpk (α:=Unit) (fun _=>⟨[(0,.ptr (.up b) 0),(9,.sl []),(10,i6 0),(11,i6 0)],[(.up b,[.nilT (.up b) 71 3,.nils,i6 0])],[]⟩) (fun _=>True) (fun _=>0) ?_ () trivial ?_
 ·rintro K x hK _
  clear hK
  simp -implicitDefEqProofs
  refine postH_n ⟨?_,?_,?_,?_,?_,?_⟩<;>simp -implicitDefEqProofs [hic,hb]
 ·refine weak_mk ?_ ?_ ?_ ?_ ?_ ?_<;>simp -implicitDefEqProofs
theorem prL_ne (d:Nat) (x:It) (r:List It):prL d (x::r)≠[]:=by
 obtain ⟨n,ws,b,ks,ln,co⟩:=x
 rw [prL,prI]
 cases b<;>simp
def lprV (L:List It):AV:=if okAll 0 (flatL L 1)=true then .tup [.str (prL 0 L),i6 0] else .tup [.str [],i6 6]
theorem lprint_spec (L:List It) (hc:cntL L≤10000) (hb:bdL L) (hn:nuL L):Sp Tryz.prog gl 18 [.sl (itRows L)] (lprV L):=by
 refine s18 rfl rfl ?_
 have RI:=lright_pure L hc hb
 unfold lprV
 cases hr:okAll 0 (flatL L 1) with
 |false=>
  rw [hr] at RI
  rw [if_neg (by decide)]
  generalize itRows L=RR at *
  simp -implicitDefEqProofs [c18]
  refine onC_mk _ (RI) ?_
  simp -implicitDefEqProofs
 |true=>
  rw [hr] at RI
  rw [if_pos rfl]
  cases L with
  |nil=>
   have LL:=llist_nil 12 (.n 9) rfl rfl
   have SS:=lst0_spec (d:=16) (b:= .n 9) rfl rfl (c0:= .nilT (.n 9) 71 3) 0
   rw [itRows] at RI
   simp -implicitDefEqProofs [c18,itRows,prL]
   refine onC_mk _ (RI) ?_
   simp -implicitDefEqProofs
   refine onH_mk _ _ (LL) ⟨?_,?_,?_,?_,?_,?_,?_⟩ ?_
   iterate 7 (· simp)
   simp -implicitDefEqProofs
   refine onH_mk _ _ (SS) ⟨?_,?_,?_,?_,?_,?_,?_⟩ ?_
   iterate 7 (· simp)
   simp -implicitDefEqProofs
  |cons x r=>
   have pl:=prL_len (x::r) 0 hb hn (by omega)
   have LL:=llist_spec _ (x::r) 12 (.n 9) (.nilT (.n 9) 71 3) [] 0 rfl rfl (.inl rfl) (Nat.le_refl _) (by omega) hb hn (by omega) (by rw [List.length_nil];omega)
   have SS:=lst_spec (d:=16) (b:= .n 9) rfl rfl (c0:= .ptr (.n 9) 0) (prL 0 (x::r)) 0 (prL_ne 0 x r)
   rw [List.nil_append,cE,show byteRows []=[] from rfl] at LL
   generalize itRows (x::r)=RR at *
   generalize prL 0 (x::r)=R at *
   simp -implicitDefEqProofs [c18]
   refine onC_mk _ (RI) ?_
   simp -implicitDefEqProofs
   refine onH_mk _ _ (LL) ⟨?_,?_,?_,?_,?_,?_,?_⟩ ?_
   iterate 7 (· simp)
   simp -implicitDefEqProofs
   refine onH_mk _ _ (SS) ⟨?_,?_,?_,?_,?_,?_,?_⟩ ?_
   iterate 7 (· simp)
   simp -implicitDefEqProofs
open Go.Proofs
theorem open_nil (s:List UInt8) (d:Nat):SpH Tryz.prog gl 119 d ⟨[.str s,.nils],[],[]⟩ ⟨.ptr (.nw d (.n 9)) 0,[(.nw d (.n 9),[.str s,.nils,.bool true,.nils,i6 0,i6 0])],[]⟩:=by
 refine h119 rfl ?_
 simp only [inSt,mpB,mpL,AV.mp,mpP,Pl.mp]
 simp -implicitDefEqProofs [c119]
 refine postH_r ⟨?_,?_,?_,?_,?_,?_⟩<;>simp -implicitDefEqProofs
theorem add_nil (s:List UInt8) (W:List (List AV)) (d:Nat) (b:Id) (hb:b.isIt=false) (hbd:b.isNw d=false) (n:List UInt8) (w bb l c:AV) (hw:w= .nils∨ ∃r,w= .sl r) (hbb: ∃q,bb= .bool q) (hl:l=i6 0) (hc:c=i6 0):
  SpH Tryz.prog gl 120 d ⟨[.ptr b 0,.str s,.sl W],[(b,[.str n,w,bb,.nils,l,c])],[]⟩ ⟨.tup [],[(b,[.str n,w,bb,.sl [[.str s,.sl W,.bool false,.sl [],i6 0,i6 0]],l,c])],[(.b b 3,6)]⟩:=by
 refine h120 rfl ?_
 have hlim:lim=140737488355328:=rfl
 have hic:=inn_notNw hbd
 subst hl hc
 obtain ⟨q,rfl⟩:=hbb
 simp only [inSt,mpB,mpL,AV.mp,mpP,Pl.mp]
 rcases hw with rfl|⟨r,rfl⟩
 all_goals
  simp -implicitDefEqProofs [c120]
  refine pendW_of ?_
  simp -implicitDefEqProofs [onP2,hlim]
  refine postH_n ⟨?_,?_,?_,?_,?_,?_⟩<;>simp -implicitDefEqProofs [hic,hb]
theorem add_more (s:List UInt8) (W K:List (List AV)) (d:Nat) (b:Id) (hb:b.isIt=false) (hbd:b.isNw d=false) (n:List UInt8) (w bb l c:AV) (hw:w= .nils∨ ∃r,w= .sl r) (hbb: ∃q,bb= .bool q) (hl:l=i6 0) (hc:c=i6 0) (hK:K.length≤1000) (h6: ∀r∈K,r.length=6):
  SpH Tryz.prog gl 120 d ⟨[.ptr b 0,.str s,.sl W],[(b,[.str n,w,bb,.sl K,l,c])],[(.b b 3,6)]⟩ ⟨.tup [],[(b,[.str n,w,bb,.sl (K++[[.str s,.sl W,.bool false,.sl [],i6 0,i6 0]]),l,c])],[(.b b 3,6)]⟩:=by
 refine h120 rfl ?_
 have hlim:lim=140737488355328:=rfl
 have hic:=inn_notNw hbd
 subst hl hc
 obtain ⟨q,rfl⟩:=hbb
 simp only [inSt,mpB,mpL,AV.mp,mpP,Pl.mp]
 rcases hw with rfl|⟨r,rfl⟩
 all_goals
  simp -implicitDefEqProofs [c120]
  refine pendW_of ?_
  simp -implicitDefEqProofs [onP2]
  refine ⟨by rw [hlim];omega,h6,?_⟩
  refine postH_n ⟨?_,?_,?_,?_,?_,?_⟩<;>simp -implicitDefEqProofs [hic,hb]
theorem ticks_spec (n:Int) (h0:0≤n) (h1:n<9223372036854775808):Sp Tryz.prog gl 122 [i6 n] (.agg [i6 6,.str [],.int .u64 n,i6 0,i6 0]):=by
 refine s122 rfl rfl ?_
 have w:IntKind.u64.wrap n=n:=by rw [wrap_u64]<;>omega
 simp -implicitDefEqProofs [c122,w]
theorem count_spec (n:Int) (h0:0≤n) (h1:n<9223372036854775808):Sp Tryz.prog gl 121 [i6 n] (.agg [i6 3,.str [],.int .u64 n,i6 0,i6 0]):=by
 refine s121 rfl rfl ?_
 have w:IntKind.u64.wrap n=n:=by rw [wrap_u64]<;>omega
 simp -implicitDefEqProofs [c121,w]
open Go.Proofs
def lbOk (x:Lb):Bool:=nameT x.n&&(goodR (runesL x.t 0)&&decide ((runesL x.t 0).length≤120))
def lbFit (x:Lb):Prop:=x.n.length≤2000∧x.t.length≤2000
def ruFit (x:Ru):Prop:=x.n.length≤2000
structure Gl.Fit (x:Gl):Prop where
 n:x.n.length≤2000
 lb:x.lb.length≤10
 ru:x.ru.length≤10
 lbs: ∀y∈x.lb,lbFit y
 rus: ∀y∈x.ru,ruFit y
structure Cf.Fit (x:Cf):Prop where
 n:x.gs.length≤10
 gs: ∀y∈x.gs,y.Fit
def labelsP (l:List Lb):Bool:=l.all lbOk&&(decide (l.length≤4)&&uniq (l.map Lb.n))
def rulesP (l:List Ru) (g:Int):Bool:=l.all (fun r=>ruP r g)&&(btw l.length 1 4&&uniq (l.map Ru.n))
def goalP (x:Gl):Bool:=nameT x.n&&(btw x.t 1 999999&&(btw x.g 1 86400&&(btw x.a 0 86400&&(btw x.o 0 34560000&&(x.o.tmod x.g==0&&(btw x.c 0 2&&(labelsP x.lb&&rulesP x.ru x.g)))))))
def rightP (c:Cf):Bool:=c.gs.all goalP&&(btw c.r 1 64&&(btw c.v 0 c.r&&(btw c.i 1 86400&&(btw c.x c.i 604800&&(btw c.y 0 2592000&&(decide (c.gs.length≤6)&&uniq (c.gs.map Gl.n)))))))
theorem rows_atF {α:Type} (f:α→List AV) (l:List α) (i:Nat) (h:i<l.length): ∀h2,(l.map f)[i]'h2=f l[i]:=fun _=>by simp
theorem labels_spec (l:List Lb) (hl:l.length≤10) (hf: ∀x∈l,lbFit x):Sp Tryz.prog gl 55 [.sl (l.map Lb.row)] (.bool (labelsP l)):=by
 refine s55 rfl rfl ?_
 obtain ⟨R,hR⟩: ∃R,R=labelsP l:=⟨_,rfl⟩
 rw [←hR]
 unfold labelsP at hR
 have U:=Sp.h (d:=33) (unlL_spec l (by omega))
 have rat:=rows_atF Lb.row l
 have rl:(l.map Lb.row).length=l.length:=by simp
 have fin0:l.all lbOk=true→ ∀e,lk e 0= .sl (l.map Lb.row)→wpA (SpH Tryz.prog gl) (AC.tl 2 c55) (postA [.t 2] (.bool R)) ⟨e,[],[]⟩:=by
  intro ha e l0
  rw [ha,Bool.true_and] at hR
  generalize uniq (l.map Lb.n)=U0 at *
  generalize l.map Lb.row=RR at *
  simp only [c55,AC.tl]
  by_cases g:l.length≤4
  ·have g':(l.length:Int)≤4:=by omega
   rw [decide_eq_true g] at hR
   simp -implicitDefEqProofs [l0,rl,g',g]
   refine onH_mk _ _ (U) ⟨?_,?_,?_,?_,?_,?_,?_⟩ ?_
   iterate 7 (· simp)
   simp -implicitDefEqProofs [hR]
  ·have g': ¬(l.length:Int)≤4:=by omega
   rw [decide_eq_false g] at hR
   simp -implicitDefEqProofs [l0,rl,g',g,hR]
 have ec:c55=AC.cutAt 2 (AC.tl 2 c55) c55:=rfl
 rw [ec]
 generalize AC.tl 2 c55=T at fin0 ⊢
 generalize uniq (l.map Lb.n)=U0 at *
 generalize l.map Lb.row=RR at *
 simp only [c55,AC.cutAt]
 simp -implicitDefEqProofs [rl]
 refine wp_lpk (α:=Nat) (fun i=>⟨[(0,.sl RR),(5,.sl RR),(6,i6 l.length),(7,i6 i)],[],[]⟩) (fun i=>i≤l.length∧(l.drop i).all lbOk=l.all lbOk) (fun i=>l.length - i) ?_ 0 ?_ ?_
 ·rintro K i hK ⟨h1,h2⟩
  by_cases g:i<l.length
  ·have t1:IntKind.i64.wrap ((i:Int)+1)=(i+1:Nat):=by rw [wrap_i64]<;>omega
   have ra:=rat i g
   have gR:i<RR.length:=by omega
   rw [List.drop_eq_getElem_cons g,List.all_cons] at h2
   have fin:lbOk l[i]=true→ ∀σ',Weak σ' ⟨[(0,.sl RR),(5,.sl RR),(6,i6 l.length),(7,i6 (i+1:Nat))],[],[]⟩→K σ':=fun hd σ' hσ=>hK (i+1) σ' ⟨by omega,by rw [hd,Bool.true_and] at h2;exact h2⟩ (by omega) hσ
   have hfi:=hf l[i] (List.getElem_mem _)
   have N:=tname_spec l[i].n (by have:=hfi.1;omega)
   have G:=tgood_spec l[i].t (by have:=hfi.2;omega)
   have C:=tcount_spec l[i].t (by have:=hfi.2;omega)
   have hno:lbOk l[i]=false→R=false:=fun h=>by rw [h,Bool.false_and] at h2;rw [hR,←h2];rfl
   unfold lbOk at fin hno
   clear hK h2 hR fin0 rat hf U
   generalize l[i]=x at *
   obtain ⟨xn,xt⟩:=x
   simp only [Lb.row] at *
   generalize nameT xn=b1 at *
   generalize goodR (runesL xt 0)=b2 at *
   generalize (runesL xt 0).length=c at *
   by_cases hc:c≤120
   ·have hc': ¬(120:Int)<c:=by omega
    have hc2: ¬120<c:=by omega
    rw [decide_eq_true hc] at fin hno
    simp -implicitDefEqProofs [g,gR,ra]
    repeat' first
     |(refine onC_mk _ (N) ?_;simp -implicitDefEqProofs [hc',hc2])
     |(refine onC_mk _ (G) ?_;simp -implicitDefEqProofs [hc',hc2])
     |(refine onC_mk _ (C) ?_;simp -implicitDefEqProofs [hc',hc2])
     |(refine onB_mk (fun h=>?_) (fun h=>?_)<;>(try simp only [Bool.not_eq_true',Bool.not_eq_false',decide_eq_true_eq,decide_eq_false_iff_not] at h)<;>simp -implicitDefEqProofs [h,hc',hc2])
    all_goals first
     |(refine fin (by simp [*]) _ (weak_mk ?_ ?_ ?_ ?_ ?_ ?_)<;>simp -implicitDefEqProofs [t1])
     |(rw [hno (by simp [*])])
   ·have hc':(120:Int)<c:=by omega
    have hc2:120<c:=by omega
    rw [decide_eq_false hc] at fin hno
    simp -implicitDefEqProofs [g,gR,ra]
    repeat' first
     |(refine onC_mk _ (N) ?_;simp -implicitDefEqProofs [hc',hc2])
     |(refine onC_mk _ (G) ?_;simp -implicitDefEqProofs [hc',hc2])
     |(refine onC_mk _ (C) ?_;simp -implicitDefEqProofs [hc',hc2])
     |(refine onB_mk (fun h=>?_) (fun h=>?_)<;>(try simp only [Bool.not_eq_true',Bool.not_eq_false',decide_eq_true_eq,decide_eq_false_iff_not] at h)<;>simp -implicitDefEqProofs [h,hc',hc2])
    all_goals (rw [hno (by simp [*])])
  ·obtain rfl:i=l.length:=by omega
   rw [List.drop_length] at h2
   have fin0:=fin0 (by rw [←h2];rfl)
   clear hK
   simp -implicitDefEqProofs
   refine fin0 _ ?_
   simp -implicitDefEqProofs
 ·exact ⟨Nat.zero_le _,rfl⟩
 ·refine weak_mk ?_ ?_ ?_ ?_ ?_ ?_<;>simp -implicitDefEqProofs [rl]
open Go.Proofs
theorem rules_spec (l:List Ru) (gr:Int) (hl:l.length≤10) (hf: ∀x∈l,ruFit x):Sp Tryz.prog gl 56 [.sl (l.map Ru.row),i6 gr] (.bool (rulesP l gr)):=by
 refine s56 rfl rfl ?_
 obtain ⟨R,hR⟩: ∃R,R=rulesP l gr:=⟨_,rfl⟩
 rw [←hR]
 unfold rulesP at hR
 have U:=Sp.h (d:=23) (unlR_spec l (by omega))
 have B:=btwI_spec l.length 1 4
 have rat:=rows_atF Ru.row l
 have rl:(l.map Ru.row).length=l.length:=by simp
 have fin0:(l.all fun r=>ruP r gr)=true→ ∀e,lk e 0= .sl (l.map Ru.row)→wpA (SpH Tryz.prog gl) (AC.tl 2 c56) (postA [.t 4] (.bool R)) ⟨e,[],[]⟩:=by
  intro ha e l0
  rw [ha,Bool.true_and] at hR
  generalize uniq (l.map Ru.n)=U0 at *
  generalize l.map Ru.row=RR at *
  generalize btw l.length 1 4=b at *
  simp only [c56,AC.tl]
  cases b
  ·simp [l0,rl]
   refine onC_mk _ (B) ?_
   simp -implicitDefEqProofs [hR]
  ·simp [l0,rl]
   refine onC_mk _ (B) ?_
   simp -implicitDefEqProofs [l0]
   refine onH_mk _ _ (U) ⟨?_,?_,?_,?_,?_,?_,?_⟩ ?_
   iterate 7 (· simp)
   simp -implicitDefEqProofs [hR]
 have ec:c56=AC.cutAt 2 (AC.tl 2 c56) c56:=rfl
 rw [ec]
 generalize AC.tl 2 c56=T at fin0 ⊢
 generalize uniq (l.map Ru.n)=U0 at *
 generalize l.map Ru.row=RR at *
 simp only [c56,AC.cutAt]
 simp -implicitDefEqProofs [rl]
 refine wp_lpk (α:=Nat) (fun i=>⟨[(0,.sl RR),(1,i6 gr),(7,.sl RR),(8,i6 l.length),(9,i6 i)],[],[]⟩) (fun i=>i≤l.length∧((l.drop i).all fun r=>ruP r gr)=l.all fun r=>ruP r gr) (fun i=>l.length - i) ?_ 0 ?_ ?_
 ·rintro K i hK ⟨h1,h2⟩
  by_cases g:i<l.length
  ·have t1:IntKind.i64.wrap ((i:Int)+1)=(i+1:Nat):=by rw [wrap_i64]<;>omega
   have ra:=rat i g
   have gR:i<RR.length:=by omega
   rw [List.drop_eq_getElem_cons g,List.all_cons] at h2
   have fin:ruP l[i] gr=true→ ∀σ',Weak σ' ⟨[(0,.sl RR),(1,i6 gr),(7,.sl RR),(8,i6 l.length),(9,i6 (i+1:Nat))],[],[]⟩→K σ':=fun hd σ' hσ=>hK (i+1) σ' ⟨by omega,by rw [hd,Bool.true_and] at h2;exact h2⟩ (by omega) hσ
   have hfi:=hf l[i] (List.getElem_mem _)
   have Q:=rru_spec l[i] gr (by have:l[i].n.length≤2000:=hfi;omega)
   have hno:ruP l[i] gr=false→R=false:=fun h=>by rw [h,Bool.false_and] at h2;rw [hR,←h2];rfl
   have hrl:(l[i].row).length=7:=rfl
   have hs:shutL l[i].row=some l[i].row:=rfl
   clear hK h2 hR fin0 rat hf U B
   generalize ruP l[i] gr=b1 at *
   generalize l[i].row=x at *
   have e7:List.take 7 x=x:=List.take_of_length_le (by omega)
   cases b1
   ·rw [hno rfl]
    simp -implicitDefEqProofs [g,gR,ra,hrl,e7,hs]
    refine onC_mk _ (Q) ?_
    simp -implicitDefEqProofs
   ·have fin:=fin rfl
    simp -implicitDefEqProofs [g,gR,ra,hrl,e7,hs]
    refine onC_mk _ (Q) ?_
    simp -implicitDefEqProofs
    refine fin _ ?_
    refine weak_mk ?_ ?_ ?_ ?_ ?_ ?_<;>simp -implicitDefEqProofs [t1]
  ·obtain rfl:i=l.length:=by omega
   rw [List.drop_length] at h2
   have fin0:=fin0 (by rw [←h2];rfl)
   clear hK
   simp -implicitDefEqProofs
   refine fin0 _ ?_
   simp -implicitDefEqProofs
 ·exact ⟨Nat.zero_le _,rfl⟩
 ·refine weak_mk ?_ ?_ ?_ ?_ ?_ ?_<;>simp -implicitDefEqProofs [rl]
theorem goal_spec (x:Gl) (hf:x.Fit):Sp Tryz.prog gl 27 [.agg x.row] (.bool (goalP x)):=by
 refine s27 rfl rfl ?_
 have N:=tname_spec x.n (by have:=hf.n;omega)
 have L:=labels_spec x.lb hf.lb hf.lbs
 have Q:=rules_spec x.ru x.g hf.ru hf.rus
 obtain ⟨nm,t,g,a,o,c,lb,ru⟩:=x
 have hR:goalP ⟨nm,t,g,a,o,c,lb,ru⟩=(nameT nm&&(btw t 1 999999&&(btw g 1 86400&&(btw a 0 86400&&(btw o 0 34560000&&(o.tmod g==0&&(btw c 0 2&&(labelsP lb&&rulesP ru g)))))))):=rfl
 simp only [Gl.row] at N L Q ⊢
 clear hf
 have B1:Sp Tryz.prog gl 52 [.int .u32 t,.int .u32 1,.int .u32 999999] (.bool (btw t 1 999999)):=between3_spec t 1 999999
 have B2:=between6_spec g 1 86400
 have B3:=between6_spec a 0 86400
 have B4:=between6_spec o 0 34560000
 have B5:=btwI_spec c 0 2
 generalize goalP ⟨nm,t,g,a,o,c,lb,ru⟩=R at *
 generalize nameT nm=b0 at *
 generalize labelsP lb=b6 at *
 generalize rulesP ru g=b7 at *
 generalize lb.map Lb.row=LB at *
 generalize ru.map Ru.row=RU at *
 generalize x1:btw (t:Int) 1 999999=b1 at *
 generalize x3:btw a 0 86400=b3 at *
 generalize x4:btw o 0 34560000=b4 at *
 generalize x5:btw c 0 2=b5 at *
 by_cases g0:1≤g∧g≤86400
 ·have e2:btw g 1 86400=true:=decide_eq_true g0
  have g1: ¬g=0:=by omega
  rw [e2] at B2 hR
  clear x1 x3 x4 x5 e2
  simp -implicitDefEqProofs [c27]
  repeat' first
   |(refine onC_mk _ (N) ?_;simp -implicitDefEqProofs [g1])
   |(refine onC_mk _ (B1) ?_;simp -implicitDefEqProofs [g1])
   |(refine onC_mk _ (B2) ?_;simp -implicitDefEqProofs [g1])
   |(refine onC_mk _ (B3) ?_;simp -implicitDefEqProofs [g1])
   |(refine onC_mk _ (B4) ?_;simp -implicitDefEqProofs [g1])
   |(refine onC_mk _ (B5) ?_;simp -implicitDefEqProofs [g1])
   |(refine onC_mk _ (L) ?_;simp -implicitDefEqProofs [g1])
   |(refine onC_mk _ (Q) ?_;simp -implicitDefEqProofs [g1])
   |(refine onB_mk (fun h=>?_) (fun h=>?_)<;>(try simp only [Bool.not_eq_true',Bool.not_eq_false',decide_eq_true_eq,decide_eq_false_iff_not] at h)<;>simp -implicitDefEqProofs [h,g1])
  all_goals first
   |(rw [hR];simp [*];done)
   |(rw [hR];simp_all)
 ·have e2:btw g 1 86400=false:=decide_eq_false g0
  rw [e2] at B2 hR
  clear x1 x3 x4 x5 e2
  simp -implicitDefEqProofs [c27]
  repeat' first
   |(refine onC_mk _ (N) ?_;simp -implicitDefEqProofs [])
   |(refine onC_mk _ (B1) ?_;simp -implicitDefEqProofs [])
   |(refine onC_mk _ (B2) ?_;simp -implicitDefEqProofs [])
   |(refine onB_mk (fun h=>?_) (fun h=>?_)<;>(try simp only [Bool.not_eq_true',Bool.not_eq_false',decide_eq_true_eq,decide_eq_false_iff_not] at h)<;>simp -implicitDefEqProofs [h])
  all_goals (rw [hR];simp [*])
theorem right_tail (c:Cf) (hl:c.gs.length≤10) (T:Bool) (hT:T=(btw c.r 1 64&&(btw c.v 0 c.r&&(btw c.i 1 86400&&(btw c.x c.i 604800&&(btw c.y 0 2592000&&(decide (c.gs.length≤6)&&uniq (c.gs.map Gl.n)))))))) (e:List (Nat×AV)) (l1:lk e 1= .ptr (.n 1) 0):
  wpA (SpH Tryz.prog gl) (AC.tl 2 c117) (postA [.t 2] (.bool T)) ⟨e,[(.n 1,c.row)],[]⟩:=by
 have U:=Sp.h (d:=57) (unlG_spec c.gs (by omega))
 have rl:(c.gs.map Gl.row).length=c.gs.length:=by simp
 obtain ⟨gs,r,v,i,x,y⟩:=c
 simp only [Cf.row] at *
 generalize uniq (gs.map Gl.n)=b0 at *
 generalize gs.map Gl.row=G at *
 have B1:=btwI_spec r 1 64
 have B2:=btwI_spec v 0 r
 have B3:=between6_spec i 1 86400
 have B4:=between6_spec x i 604800
 have B5:=between6_spec y 0 2592000
 simp only [c117,AC.tl]
 generalize btw r 1 64=b1 at *
 generalize btw v 0 r=b2 at *
 generalize btw i 1 86400=b3 at *
 generalize btw x i 604800=b4 at *
 generalize btw y 0 2592000=b5 at *
 by_cases g:gs.length≤6
 ·have g':(gs.length:Int)≤6:=by omega
  rw [decide_eq_true g] at hT
  simp -implicitDefEqProofs [l1]
  repeat' first
   |(refine onC_mk _ (B1) ?_;simp -implicitDefEqProofs [l1,rl,g,g'])
   |(refine onC_mk _ (B2) ?_;simp -implicitDefEqProofs [l1,rl,g,g'])
   |(refine onC_mk _ (B3) ?_;simp -implicitDefEqProofs [l1,rl,g,g'])
   |(refine onC_mk _ (B4) ?_;simp -implicitDefEqProofs [l1,rl,g,g'])
   |(refine onC_mk _ (B5) ?_;simp -implicitDefEqProofs [l1,rl,g,g'])
   |(refine onB_mk (fun h=>?_) (fun h=>?_)<;>(try simp only [Bool.not_eq_true',Bool.not_eq_false',decide_eq_true_eq,decide_eq_false_iff_not] at h)<;>simp -implicitDefEqProofs [h,l1,rl,g,g'])
  all_goals first
   |(rw [hT];simp [*];done)
   |skip
  refine onH_mk _ _ (U) ⟨?_,?_,?_,?_,?_,?_,?_⟩ ?_
  iterate 7 (· simp)
  simp -implicitDefEqProofs
  rw [hT];simp [*]
 ·have g': ¬(gs.length:Int)≤6:=by omega
  rw [decide_eq_false g] at hT
  simp -implicitDefEqProofs [l1]
  repeat' first
   |(refine onC_mk _ (B1) ?_;simp -implicitDefEqProofs [l1,rl,g,g'])
   |(refine onC_mk _ (B2) ?_;simp -implicitDefEqProofs [l1,rl,g,g'])
   |(refine onC_mk _ (B3) ?_;simp -implicitDefEqProofs [l1,rl,g,g'])
   |(refine onC_mk _ (B4) ?_;simp -implicitDefEqProofs [l1,rl,g,g'])
   |(refine onC_mk _ (B5) ?_;simp -implicitDefEqProofs [l1,rl,g,g'])
   |(refine onB_mk (fun h=>?_) (fun h=>?_)<;>(try simp only [Bool.not_eq_true',Bool.not_eq_false',decide_eq_true_eq,decide_eq_false_iff_not] at h)<;>simp -implicitDefEqProofs [h,l1,rl,g,g'])
  all_goals (rw [hT];simp [*])
theorem right_spec (c:Cf) (hf:c.Fit):Sp Tryz.prog gl 117 [.agg c.row] (.bool (rightP c)):=by
 refine s117 rfl rfl ?_
 obtain ⟨R,hR⟩: ∃R,R=rightP c:=⟨_,rfl⟩
 rw [←hR]
 unfold rightP at hR
 obtain ⟨T,hT⟩: ∃T,T=(btw c.r 1 64&&(btw c.v 0 c.r&&(btw c.i 1 86400&&(btw c.x c.i 604800&&(btw c.y 0 2592000&&(decide (c.gs.length≤6)&&uniq (c.gs.map Gl.n))))))):=⟨_,rfl⟩
 rw [←hT] at hR
 have tail:=right_tail c hf.n T hT
 have fin0:c.gs.all goalP=true→R=T:=fun h=>by rw [hR,h,Bool.true_and]
 have rat:=rows_atF Gl.row c.gs
 have rl:(c.gs.map Gl.row).length=c.gs.length:=by simp
 have hc:c.row= .sl (c.gs.map Gl.row)::[i6 c.r,i6 c.v,i6 c.i,i6 c.x,i6 c.y]:=rfl
 have hfg:=hf.gs
 have hln:=hf.n
 have ec:c117=AC.cutAt 2 (AC.tl 2 c117) c117:=rfl
 rw [ec]
 generalize AC.tl 2 c117=TT at tail ⊢
 rw [hc] at tail ⊢
 generalize c.gs.map Gl.row=RR at *
 generalize c.gs=l at *
 clear hT hc hf
 simp only [c117,AC.cutAt]
 simp -implicitDefEqProofs [rl]
 refine wp_lpk (α:=Nat) (fun j=>⟨[(1,.ptr (.n 1) 0),(8,.sl RR),(9,i6 l.length),(10,i6 j)],[(.n 1,.sl RR::[i6 c.r,i6 c.v,i6 c.i,i6 c.x,i6 c.y])],[]⟩) (fun j=>j≤l.length∧(l.drop j).all goalP=l.all goalP) (fun j=>l.length - j) ?_ 0 ?_ ?_
 ·rintro K j hK ⟨h1,h2⟩
  by_cases g:j<l.length
  ·have t1:IntKind.i64.wrap ((j:Int)+1)=(j+1:Nat):=by rw [wrap_i64]<;>omega
   have ra:=rat j g
   have gR:j<RR.length:=by omega
   rw [List.drop_eq_getElem_cons g,List.all_cons] at h2
   have fin:goalP l[j]=true→ ∀σ',Weak σ' ⟨[(1,.ptr (.n 1) 0),(8,.sl RR),(9,i6 l.length),(10,i6 (j+1:Nat))],[(.n 1,.sl RR::[i6 c.r,i6 c.v,i6 c.i,i6 c.x,i6 c.y])],[]⟩→K σ':=fun hd σ' hσ=>hK (j+1) σ' ⟨by omega,by rw [hd,Bool.true_and] at h2;exact h2⟩ (by omega) hσ
   have Q:=goal_spec l[j] (hfg l[j] (List.getElem_mem _))
   have hno:goalP l[j]=false→R=false:=fun h=>by rw [h,Bool.false_and] at h2;rw [hR,←h2];rfl
   have hrl:(l[j].row).length=8:=rfl
   have hs:shutL l[j].row=some l[j].row:=rfl
   clear hK h2 hR fin0 rat tail hfg
   generalize goalP l[j]=b1 at *
   generalize l[j].row=x at *
   have e7:List.take 8 x=x:=List.take_of_length_le (by omega)
   cases b1
   ·rw [hno rfl]
    simp -implicitDefEqProofs [g,gR,ra,hrl,e7,hs]
    refine onC_mk _ (Q) ?_
    simp -implicitDefEqProofs
   ·have fin:=fin rfl
    simp -implicitDefEqProofs [g,gR,ra,hrl,e7,hs]
    refine onC_mk _ (Q) ?_
    simp -implicitDefEqProofs
    refine fin _ ?_
    refine weak_mk ?_ ?_ ?_ ?_ ?_ ?_<;>simp -implicitDefEqProofs [t1]
  ·obtain rfl:j=l.length:=by omega
   rw [List.drop_length] at h2
   have e:=fin0 (by rw [←h2];rfl)
   subst e
   clear hK
   simp -implicitDefEqProofs
   refine tail _ ?_
   simp -implicitDefEqProofs
 ·exact ⟨Nat.zero_le _,rfl⟩
 ·refine weak_mk ?_ ?_ ?_ ?_ ?_ ?_<;>simp -implicitDefEqProofs [rl]
open Go.Proofs
def cfE:Cf:=⟨[],16,0,10,300,0⟩
def kidE (s:List UInt8) (k:Int) (n:Nat):It:= .mk s [⟨k,[],n,0,0⟩] false [] 0 0
def itE:List It:=[.mk [110,111,116,105,102,121] [] true [kidE [114,111,111,109] 3 16,kidE [114,101,115,101,114,118,101] 3 0,kidE [102,105,114,115,116] 6 10,kidE [99,97,112] 6 300,kidE [114,101,112,101,97,116] 6 0] 0 0]
def kidR (s:List UInt8) (k:Int) (n:Nat):List AV:=[.str s,.sl [[i6 k,.str [],.int .u64 n,i6 0,i6 0]],.bool false,.sl [],i6 0,i6 0]
theorem itE_rows:itRows itE=[[.str [110,111,116,105,102,121],.sl [],.bool true,.sl [kidR [114,111,111,109] 3 16,kidR [114,101,115,101,114,118,101] 3 0,kidR [102,105,114,115,116] 6 10,kidR [99,97,112] 6 300,kidR [114,101,112,101,97,116] 6 0],i6 0,i6 0]]:=by
 simp [itE,itRows,It.row,kidE,kidR,Tk.row]
theorem right_ex:Sp Tryz.prog gl 117 [.agg [.sl [],i6 16,i6 0,i6 10,i6 300,i6 0]] (.bool true):=by
 have:=right_spec cfE ⟨by simp [cfE],fun y hy=>by simp [cfE] at hy⟩
 exact this
set_option maxHeartbeats 2000000 in
theorem items_ex:Sp Tryz.prog gl 84 [.agg [.sl [],i6 16,i6 0,i6 10,i6 300,i6 0]] (.tup [.sl (itRows itE),i6 0]):=by
 refine s84 rfl rfl ?_
 have hlim:lim=140737488355328:=rfl
 have R:=right_ex
 have C1:=count_spec 16 (by decide) (by decide)
 have C2:=count_spec 0 (by decide) (by decide)
 have T1:=ticks_spec 10 (by decide) (by decide)
 have T2:=ticks_spec 300 (by decide) (by decide)
 have T3:=ticks_spec 0 (by decide) (by decide)
 have O:=open_nil [110,111,116,105,102,121]
 have A1:=fun s W d h=>add_nil s W d (.nw 24 (.n 9)) rfl h [110,111,116,105,102,121] .nils (.bool true) (i6 0) (i6 0) (.inl rfl) ⟨_,rfl⟩ rfl rfl
 have A2:=fun s W K d h=>add_more s W K d (.nw 24 (.n 9)) rfl h [110,111,116,105,102,121] .nils (.bool true) (i6 0) (i6 0) (.inl rfl) ⟨_,rfl⟩ rfl rfl
 rw [itE_rows]
 simp -implicitDefEqProofs [c84]
 refine onC_mk _ (R) ?_
 simp -implicitDefEqProofs
 refine wp_lpk (α:=Unit) (fun _=>⟨[(1,.ptr (.n 1) 0),(4,.nils),(13,i6 0),(14,i6 0)],[(.n 1,[.sl [],i6 16,i6 0,i6 10,i6 300,i6 0])],[]⟩) (fun _=>True) (fun _=>0) ?_ () trivial ?_
 ·rintro K x hK _
  clear hK
  simp -implicitDefEqProofs
  refine onH_mk _ _ (O _) ⟨?_,?_,?_,?_,?_,?_,?_⟩ ?_
  iterate 7 (· simp)
  simp -implicitDefEqProofs
  refine onC_mk _ (C1) ?_
  simp -implicitDefEqProofs
  refine onH_mk _ _ (A1 [114,111,111,109] [[i6 3,.str [],.int .u64 16,i6 0,i6 0]] 31 rfl) ⟨?_,?_,?_,?_,?_,?_,?_⟩ ?_
  iterate 7 (· simp)
  simp -implicitDefEqProofs
  refine onC_mk _ (C2) ?_
  simp -implicitDefEqProofs
  refine onH_mk _ _ (A2 [114,101,115,101,114,118,101] [[i6 3,.str [],.int .u64 0,i6 0,i6 0]] [kidR [114,111,111,109] 3 16] 38 rfl (by decide) (by simp [kidR])) ⟨?_,?_,?_,?_,?_,?_,?_⟩ ?_
  iterate 7 (· simp [kidR])
  simp -implicitDefEqProofs
  refine onC_mk _ (T1) ?_
  simp -implicitDefEqProofs
  refine onH_mk _ _ (A2 [102,105,114,115,116] [[i6 6,.str [],.int .u64 10,i6 0,i6 0]] [kidR [114,111,111,109] 3 16,kidR [114,101,115,101,114,118,101] 3 0] 45 rfl (by decide) (by simp [kidR])) ⟨?_,?_,?_,?_,?_,?_,?_⟩ ?_
  iterate 7 (· simp [kidR])
  simp -implicitDefEqProofs
  refine onC_mk _ (T2) ?_
  simp -implicitDefEqProofs
  refine onH_mk _ _ (A2 [99,97,112] [[i6 6,.str [],.int .u64 300,i6 0,i6 0]] [kidR [114,111,111,109] 3 16,kidR [114,101,115,101,114,118,101] 3 0,kidR [102,105,114,115,116] 6 10] 52 rfl (by decide) (by simp [kidR])) ⟨?_,?_,?_,?_,?_,?_,?_⟩ ?_
  iterate 7 (· simp [kidR])
  simp -implicitDefEqProofs
  refine onC_mk _ (T3) ?_
  simp -implicitDefEqProofs
  refine onH_mk _ _ (A2 [114,101,112,101,97,116] [[i6 6,.str [],.int .u64 0,i6 0,i6 0]] [kidR [114,111,111,109] 3 16,kidR [114,101,115,101,114,118,101] 3 0,kidR [102,105,114,115,116] 6 10,kidR [99,97,112] 6 300] 59 rfl (by decide) (by simp [kidR])) ⟨?_,?_,?_,?_,?_,?_,?_⟩ ?_
  iterate 7 (· simp [kidR])
  simp -implicitDefEqProofs [hlim,kidR]
 ·refine weak_mk ?_ ?_ ?_ ?_ ?_ ?_<;>simp -implicitDefEqProofs
open Go.Proofs
theorem nameT_asc (s:List UInt8) (h:s.all (fun b=>decide (b.toNat<128))=true) (hn:nameGo 0 32 (s.map fun b=>(b.toNat:Int))=true):nameT s=true:=by
 unfold nameT
 rw [runes_asc s (fun b hb=>of_decide_eq_true (List.all_eq_true.1 h b hb))]
 exact hn
open Go.Proofs
def ruQ (r:Ru) (g:Int):Bool:=!(decide (g<1)||(!btw r.l 1 34560000||(!btw r.s 1 34560000||(r.l.tmod g !=0||(r.s.tmod g !=0||decide (r.l<r.s))))))&&(nameT r.n&&(decide ((0:Int)<r.f)&&(decide ((r.f:Int)≤1000000)&&(btw r.w 0 604800&&btw r.k 0 604800))))
theorem ruQ_eq (r:Ru) (g:Int):ruQ r g=ruP r g:=by
 unfold ruQ ruP btw
 cases nameT r.n
 ·simp
 ·rw [Bool.eq_iff_iff]
  simp only [Bool.and_eq_true,Bool.not_eq_true',Bool.or_eq_false_iff,decide_eq_true_eq,decide_eq_false_iff_not,Bool.not_eq_false',bne_eq_false_iff_eq,beq_iff_eq,true_and]
  omega
def chk {α:Type} (ok:α→Bool) (nm:α→List UInt8):List (List UInt8)→List α→Bool
 |_,[]=>true
 |seen,x::r=>ok x&&(!seen.contains (nm x)&&chk ok nm (seen++[nm x]) r)
theorem chk_eq {α:Type} (ok:α→Bool) (nm:α→List UInt8): ∀(l:List α) (seen:List (List UInt8)),chk ok nm seen l=(l.all ok&&(decide (∀x∈l,nm x∉seen)&&uniq (l.map nm)))
 |[],seen=>by simp [chk,uniq]
 |x::r,seen=>by
  simp only [chk,chk_eq ok nm r,List.all_cons,List.map_cons]
  cases ok x
  ·simp
  ·rw [Bool.eq_iff_iff]
   unfold uniq
   simp only [Bool.true_and,Bool.and_eq_true,Bool.not_eq_true',decide_eq_true_eq,List.nodup_cons,List.mem_map,List.mem_cons,forall_eq_or_imp,List.mem_append,not_or]
   rw [←Bool.not_eq_true,List.contains_iff_mem]
   constructor
   ·rintro ⟨h1,h2,h3,h4⟩
    exact ⟨h2,⟨h1,fun y hy=>(h3 y hy).1⟩,⟨fun ⟨y,hy,e⟩=>by have:=(h3 y hy).2;simp at this;exact this e,h4⟩⟩
   ·rintro ⟨h2,⟨h1,h3⟩,⟨h5,h4⟩⟩
    exact ⟨h1,h2,fun y hy=>⟨h3 y hy,by simp;exact fun e=>h5 ⟨y,hy,e⟩⟩,h4⟩
theorem chk_uniq {α:Type} (ok:α→Bool) (nm:α→List UInt8) (l:List α):chk ok nm [] l=(l.all ok&&uniq (l.map nm)):=by
 rw [chk_eq];simp
theorem chk_at {α:Type} (ok:α→Bool) (nm:α→List UInt8) (l:List α) (i:Nat) (h:i<l.length):
  chk ok nm ((l.take i).map nm) (l.drop i)=(ok l[i]&&(!((l.take i).map nm).contains (nm l[i])&&chk ok nm ((l.take (i+1)).map nm) (l.drop (i+1)))):=by
 rw [List.drop_eq_getElem_cons h,List.take_succ_eq_append_getElem h,List.map_append]
 rfl
def goalQ (x:Gl):Bool:=!(!nameT x.n||(decide ((x.t:Int)<1)||(decide ((999999:Int)<x.t)||(!btw x.g 1 86400||(!btw x.a 0 86400||(!btw x.o 0 34560000||(x.o.tmod x.g !=0||(decide (x.c<0)||(decide (2<x.c)||(decide ((4:Int)<x.lb.length)||(decide ((x.ru.length:Int)<1)||decide ((4:Int)<x.ru.length))))))))))))&&(chk lbOk Lb.n [] x.lb&&chk (fun r=>ruP r x.g) Ru.n [] x.ru)
theorem goalQ_eq (x:Gl):goalQ x=goalP x:=by
 unfold goalQ goalP labelsP rulesP btw
 rw [chk_uniq,chk_uniq]
 cases nameT x.n
 ·simp
 ·generalize x.lb.all lbOk=p1
  generalize (x.ru.all fun r=>ruP r x.g)=p2
  generalize uniq (x.lb.map Lb.n)=p3
  generalize uniq (x.ru.map Ru.n)=p4
  rw [Bool.eq_iff_iff]
  cases p1<;>cases p2<;>cases p3<;>cases p4<;>simp only [Bool.and_eq_true,Bool.not_eq_true',Bool.or_eq_false_iff,decide_eq_true_eq,decide_eq_false_iff_not,Bool.not_eq_false',bne_eq_false_iff_eq,beq_iff_eq,true_and,and_true,Bool.not_true,Bool.true_and,Bool.false_and,Bool.and_false,Bool.and_true,Bool.false_eq_true,and_false,false_and]
  all_goals omega
theorem qru_spec (r:Ru) (g:Int) (hn:r.n.length≤900000):Sp Tryz.prog gl 30 [.agg r.row,i6 g] (.bool (ruP r g)):=by
 refine s30 rfl rfl ?_
 rw [←ruQ_eq]
 have N:=rname_spec r.n hn
 obtain ⟨nm,p,l,s,f,w,k⟩:=r
 have hR:ruQ ⟨nm,p,l,s,f,w,k⟩ g=(!(decide (g<1)||(!btw l 1 34560000||(!btw s 1 34560000||(l.tmod g !=0||(s.tmod g !=0||decide (l<s))))))&&(nameT nm&&(decide ((0:Int)<f)&&(decide ((f:Int)≤1000000)&&(btw w 0 604800&&btw k 0 604800))))):=rfl
 simp only [Ru.row] at N ⊢
 generalize ruQ ⟨nm,p,l,s,f,w,k⟩ g=R at *
 generalize nameT nm=T at *
 have B1:=rin_spec l 1 34560000
 have B2:=rin_spec s 1 34560000
 have B4:=rin_spec w 0 604800
 have B5:=rin_spec k 0 604800
 generalize x1:btw l 1 34560000=b1 at *
 generalize x2:btw s 1 34560000=b2 at *
 generalize x4:btw w 0 604800=b4 at *
 generalize x5:btw k 0 604800=b5 at *
 clear x1 x2 x4 x5
 by_cases g0:g<1
 ·rw [decide_eq_true g0] at hR
  simp -implicitDefEqProofs [c30,g0]
  rw [hR];simp
 ·have g1: ¬g=0:=by omega
  rw [decide_eq_false g0] at hR
  generalize hm1:(l.tmod g !=0)=m1 at *
  generalize hm2:(s.tmod g !=0)=m2 at *
  generalize hm3:decide (l<s)=m3 at *
  generalize hm4:decide ((0:Int)<f)=m4 at *
  generalize hm5:decide ((f:Int)≤1000000)=m5 at *
  simp -implicitDefEqProofs [c30,g0,g1]
  repeat' first
   |(refine onC_mk _ (B1) ?_;simp -implicitDefEqProofs [g1,hm1,hm2,hm3,hm4,hm5])
   |(refine onC_mk _ (B2) ?_;simp -implicitDefEqProofs [g1,hm1,hm2,hm3,hm4,hm5])
   |(refine onC_mk _ (N) ?_;simp -implicitDefEqProofs [g1,hm1,hm2,hm3,hm4,hm5])
   |(refine onC_mk _ (B4) ?_;simp -implicitDefEqProofs [g1,hm1,hm2,hm3,hm4,hm5])
   |(refine onC_mk _ (B5) ?_;simp -implicitDefEqProofs [g1,hm1,hm2,hm3,hm4,hm5])
   |(refine onB_mk (fun h=>?_) (fun h=>?_)<;>(try simp only [Bool.not_eq_true',Bool.not_eq_false',decide_eq_true_eq,decide_eq_false_iff_not] at h)<;>simp -implicitDefEqProofs [h,g1,hm1,hm2,hm3,hm4,hm5])
  all_goals first
   |(rw [hR];simp [*];done)
   |(rw [hR];simp_all;done)
end Go.Ai
