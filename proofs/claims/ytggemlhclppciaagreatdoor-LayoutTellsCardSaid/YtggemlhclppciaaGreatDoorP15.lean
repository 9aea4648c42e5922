/- P15: a part of the proof: the rules, or what functions compute. Conditions: as each theorem says. -/
import Derived.Test.YtggemlhclppciaaGreatDoorP14
import Derived.Test.YtggemlhclppciaaGreatDoorP9
import Derived.Test.YtggemlhclppciaaGreatDoorP8
import Derived.Test.YtggemlhclppciaaGreatDoorLib11
import Derived.Test.YtggemlhclppciaaGreatDoorP11
import Derived.Test.YtggemlhclppciaaGreatDoorCode
import Derived.Lib.LaidU8
import GoSem.PinnedTables
set_option linter.unusedSimpArgs false
set_option linter.unusedVariables false
set_option maxRecDepth 20000
namespace Go.Ai
open Go.Proofs Go.Shelf
mutual
def nuI:It→Prop
 | .mk _ ws _ ks _ _=>(∀w∈ws,w.n<18446744073709551616)∧nuL ks
def nuL:List It→Prop
 |[]=>True
 |x::r=>nuI x∧nuL r
end
theorem nu_mem: ∀ {L:List It} {x:It},nuL L→x∈L→nuI x
 |y::L,x,hw,h=>by
  rw [nuL] at hw
  rcases List.mem_cons.1 h with rfl|h
  ·exact hw.1
  ·exact nu_mem hw.2 h
theorem sRows_flat (V:List (List UInt8)):(strRows V).flatten=V.map AV.str:=by
 unfold strRows
 induction V with
 |nil=>rfl
 |cons a r ih=>rw [List.map_cons,List.flatten_cons,ih];rfl
theorem str_ids (V:List (List UInt8)):idsL (V.map AV.str)=[]:=by
 induction V with
 |nil=>rfl
 |cons a r ih=>rw [List.map_cons,idsL,ih];rfl
theorem strRows_one (V:List (List UInt8)): ∀r∈strRows V,r.length=1:=by
 intro r hr
 unfold strRows at hr
 rw [List.mem_map] at hr
 obtain ⟨x,_,rfl⟩:=hr
 rfl
theorem strRows_app (a b:List (List UInt8)):strRows (a++b)=strRows a++strRows b:=List.map_append
theorem join_semi: ∀(A:List (List UInt8)) (x:List UInt8),Lib.join (A++[x++[59]]) [32]=Lib.join (A++[x]) [32]++[59]
 |[],x=>by rw [List.nil_append,List.nil_append,Lib.join_one,Lib.join_one]
 |n::A,x=>by
  rw [join_last,join_last]
  simp
theorem join_last_le: ∀(A:List (List UInt8)) (x:List UInt8),x.length≤(Lib.join (A++[x]) [32]).length
 |[],x=>by rw [List.nil_append,Lib.join_one];omega
 |n::A,x=>by rw [join_last,List.length_append,List.length_cons];omega
theorem last_of (a:List UInt8) (r:List (List UInt8)): ∃A x,a::r=A++[x]∧A.length=r.length:=by
 rcases List.eq_nil_or_concat (a::r) with h|⟨A,x,h⟩
 ·cases h
 ·refine ⟨A,x,by rw [h,List.concat_eq_append],?_⟩
  have:=congrArg List.length h
  simp at this
  omega
def cE (L:List It) (c:AV) (b:Id):AV:=match L with
 |[]=>c
 |_::_=> .ptr b 0
theorem cE_ptr (L:List It) (b:Id):cE L (.ptr b 0) b= .ptr b 0:=by cases L<;>rfl
theorem prI_flat (d:Nat) (n:List UInt8) (ws:List Tk) (ks:List It) (ln co:Int):prI d (.mk n ws false ks ln co)=indS d++(Lib.join (n::ws.map tkS) [32]++[59]++[10]):=by
 rw [prI,if_pos rfl,join_wds]
 simp
theorem prI_block (d:Nat) (n:List UInt8) (ws:List Tk) (ks:List It) (ln co:Int) (T:List UInt8):T++prI d (.mk n ws true ks ln co)=
  ((T++(indS d++(Lib.join ((n::ws.map tkS)++[[123]]) [32]++[10])))++prL (d+1) ks)++(indS d++(Lib.join [[125]] [32]++[10])):=by
 rw [prI,if_neg (by decide),join_last,join_wds,Lib.join_one]
 simp
theorem prL_next (d:Nat) (L:List It) (i:Nat) (h:i<L.length):prL d (L.take (i+1))=prL d (L.take i)++prI d L[i]:=by
 rw [List.take_succ_eq_append_getElem h,prL_app,prL,prL,List.append_nil]
theorem prL_le (d:Nat) (L:List It) (i:Nat):(prL d (L.take i)).length≤(prL d L).length:=by
 have:=prL_app d (L.take i) (L.drop i)
 rw [List.take_append_drop] at this
 rw [this,List.length_append]
 omega
end Go.Ai
namespace Go.Ai
open Go.Proofs Go.Shelf
theorem fz_last {A:List (List UInt8)} {x:List UInt8} {m:Nat} (h:A.length=m):((A++[x]).map AV.str).take m++ .str (x++[59])::((A++[x]).map AV.str).drop (m+1)=(strRows (A++[x++[59]])).flatten:=by
 rw [sRows_flat,List.map_append,List.map_append,List.take_left' (by simpa using h),List.drop_of_length_le (by simp;omega)]
 simp
set_option maxHeartbeats 4000000 in
theorem llist_spec: ∀(N:Nat) (L:List It) (d:Nat) (b:Id) (c0:AV) (l:List UInt8) (dep:Nat),b.isIt=false→b.isNw d=false→(c0= .nilT b 71 3∨c0= .ptr b 0)→cntL L≤N→cntL L≤10000→bdL L→nuL L→dep+cntL L≤20000→l.length+(prL dep L).length≤10000000000000→
  SpH Tryz.prog gl 39 d ⟨[.ptr b 0,.sl (itRows L)],[(b,[c0,.sl (byteRows l),i6 dep])],[(.b b 1,bk 5)]⟩ ⟨.tup [],[(b,[cE L c0 b,.sl (byteRows (l++prL dep L)),i6 dep])],[(.b b 1,bk 5)]⟩:=by
 intro N
 induction N with
 |zero=>
  intro L d b c0 l dep hb hbd hc0 hN hc hbd2 hnu hdep hl
  have hL:L=[]:=by
   have:=len_cnt L
   exact List.eq_nil_of_length_eq_zero (by omega)
  subst hL
  refine h39 rfl ?_
  have hic:=inn_notNw hbd
  rw [prL,List.append_nil,cE,itRows]
  simp only [inSt,mpB,mpL,AV.mp,mpP,Pl.mp]
  rcases hc0 with rfl|rfl
  ·simp [c39]
   refine wp_lpk (α:=Unit) (fun _=>⟨[(0,.ptr (.up b) 0),(9,.sl []),(10,i6 0),(11,i6 0)],[(.up b,[.nilT (.up b) 71 3,.sl (byteRows l),i6 dep])],[(.b (.up b) 1,bk 5)]⟩) (fun _=>True) (fun _=>0) ?_ () trivial ?_
   ·rintro K x hK _
    clear hK
    simp -implicitDefEqProofs
    refine postH_n ⟨?_,?_,?_,?_,?_,?_⟩<;>simp -implicitDefEqProofs [hic,hb]
   ·refine weak_mk ?_ ?_ ?_ ?_ ?_ ?_<;>simp -implicitDefEqProofs
  ·simp [c39]
   refine wp_lpk (α:=Unit) (fun _=>⟨[(0,.ptr (.up b) 0),(9,.sl []),(10,i6 0),(11,i6 0)],[(.up b,[.ptr (.up b) 0,.sl (byteRows l),i6 dep])],[(.b (.up b) 1,bk 5)]⟩) (fun _=>True) (fun _=>0) ?_ () trivial ?_
   ·rintro K x hK _
    clear hK
    simp -implicitDefEqProofs
    refine postH_n ⟨?_,?_,?_,?_,?_,?_⟩<;>simp -implicitDefEqProofs [hic,hb]
   ·refine weak_mk ?_ ?_ ?_ ?_ ?_ ?_<;>simp -implicitDefEqProofs
 |succ N ih=>
  intro L d b c0 l dep hb hbd hc0 hN hc hbd2 hnu hdep hl
  refine h39 rfl ?_
  have hlim:lim=140737488355328:=rfl
  have hic:=inn_notNw hbd
  have rl:=itRows_len L
  have rat:=itRows_at L
  have ll:=len_cnt L
  obtain ⟨c1,hc1⟩: ∃c1:AV,c1=AV.mp Id.up c0:=⟨_,rfl⟩
  have hc1':c1= .nilT (.up b) 71 3∨c1= .ptr (.up b) 0:=by
   rcases hc0 with rfl|rfl
   ·exact .inl hc1
   ·exact .inr hc1
  obtain ⟨cz,hcz⟩: ∃cz:AV,cz=cE L c0 b:=⟨_,rfl⟩
  obtain ⟨RT,hRT⟩: ∃RT,RT=l++prL dep L:=⟨_,rfl⟩
  rw [←hcz,←hRT]
  obtain ⟨RR,hRR⟩: ∃RR,RR=itRows L:=⟨_,rfl⟩
  rw [←hRR] at rl rat ⊢
  simp only [inSt,mpB,mpL,AV.mp,mpP,Pl.mp,←hc1]
  simp -implicitDefEqProofs [c39]
  refine wp_lpk (α:=Nat×AV) (fun p=>⟨[(0,.ptr (.up b) 0),(9,.sl RR),(10,i6 L.length),(11,i6 p.1)],[(.up b,[p.2,.sl (byteRows (l++prL dep (L.take p.1))),i6 dep])],[(.b (.up b) 1,bk 5)]⟩)
   (fun p=>p.1≤L.length∧(p.2= .nilT (.up b) 71 3∨p.2= .ptr (.up b) 0)∧(p.1=0→p.2=c1)∧(0<p.1→p.2= .ptr (.up b) 0)) (fun p=>L.length - p.1) ?_ (0,c1) ?_ ?_
  ·rintro K ⟨i,ci⟩ hK ⟨h1,h2,h3,h4⟩
   simp only at h1 h2 h3 h4 ⊢
   have t1:IntKind.i64.wrap ((i:Int)+1)=(i+1:Nat):=by rw [wrap_i64]<;>omega
   by_cases g:i<L.length
   ·have g':(i:Int)<RR.length:=by omega
    have g2:(i:Int)<L.length:=by omega
    have gR:i<RR.length:=by omega
    have rai:=rat i g gR
    have hx1:=cnt_mem (List.getElem_mem g)
    have hx2:=bd_mem hbd2 (List.getElem_mem g)
    have hx3:=nu_mem hnu (List.getElem_mem g)
    have fin:=fun σ' hσ=>hK (i+1,.ptr (.up b) 0) σ' ⟨by simp only;omega,.inr rfl,fun h=>by simp at h,fun _=>rfl⟩ (by simp only;omega) hσ
    simp only at fin
    rw [prL_next dep L i g,←List.append_assoc] at fin
    have len1:=prL_le dep L (i+1)
    rw [prL_next dep L i g,List.length_append] at len1
    clear hK rat h3 h4 hRT hcz
    have cin: ∀j,¬Id.n j∈ci.ids:=by
     intro j
     rcases h2 with rfl|rfl<;>simp [AV.ids]
    have ciu: ∀d,d∈ci.ids→d.isUp=true:=by
     intro d hd
     rcases h2 with rfl|rfl
     ·simp only [AV.ids,List.mem_singleton] at hd;rw [hd];rfl
     ·simp only [AV.ids,List.mem_singleton] at hd;rw [hd];rfl
    generalize L[i]=x at *
    generalize hT0:l++prL dep (L.take i)=T0 at *
    have hT0l:T0.length=l.length+(prL dep (L.take i)).length:=by rw [←hT0,List.length_append]
    obtain ⟨xn,ws,xb,ks,xl,xc⟩:=x
    rw [cntI] at hx1
    rw [bdI] at hx2
    rw [nuI] at hx3
    rw [It.row] at rai
    have IH:=ih ks
    generalize itRows ks=KR at *
    have wl:(ws.map Tk.row).length=ws.length:=List.length_map _
    have wat: ∀k (h:k<ws.length),∀h2,(ws.map Tk.row)[k]'h2=ws[k].row:=fun k h h2=>by simp
    have wlen:=hx2.1.1
    generalize ws.map Tk.row=WR at *
    simp -implicitDefEqProofs [g,g2,g',gR,rai,rl]
    refine wp_lpk (α:=Nat×Id) (fun p=>⟨[(0,.ptr (.up b) 0),(9,.sl RR),(10,i6 L.length),(11,i6 i),(5,.ptr (.n 5) 0),(6,.ms p.2 0 (p.1+1) 1),(19,.sl WR),(20,i6 ws.length),(21,i6 p.1)],[(.n 5,[.str xn,.sl WR,.bool xb,.sl KR,i6 xl,i6 xc]),(p.2,(xn::(ws.take p.1).map tkS).map AV.str),(.up b,[ci,.sl (byteRows T0),i6 dep])],[(.b (.up b) 1,bk 5)]⟩)
     (fun p=>p.1≤ws.length∧(p.2= .n 17∨p.2= .n 29)) (fun p=>ws.length - p.1) ?_ (0,.n 17) ⟨Nat.zero_le _,.inl rfl⟩ ?_
    ·rintro K ⟨k,q⟩ hK2 ⟨k1,k2⟩
     simp only at k1 k2 ⊢
     have t2:IntKind.i64.wrap ((k:Int)+1)=(k+1:Nat):=by rw [wrap_i64]<;>omega
     have qit:q.isIt=false:=by rcases k2 with rfl|rfl<;>rfl
     have qup:q.isUp=false:=by rcases k2 with rfl|rfl<;>rfl
     by_cases gk:k<ws.length
     ·have gk':(k:Int)<ws.length:=by omega
      have gW:k<WR.length:=by omega
      have wak:=wat k gk gW
      have fin2:=fun σ' hσ=>hK2 (k+1,.n 29) σ' ⟨by simp only;omega,.inr rfl⟩ (by simp only;omega) hσ
      simp only at fin2
      have tk1:=hx2.1.2.2 _ (List.getElem_mem gk)
      have tk2:=hx3.1 _ (List.getElem_mem gk)
      have SP:=sprt_spec ws[k].k ws[k].t ws[k].n ws[k].ln ws[k].co tk1 tk2
      rw [←tk_agg,show tkP ws[k].k ws[k].t ws[k].n=tkS ws[k] from rfl] at SP
      have hnx:(xn::(ws.take (k+1)).map tkS).map AV.str=(xn::(ws.take k).map tkS).map AV.str++[.str (tkS ws[k])]:=by
       rw [List.take_succ_eq_append_getElem gk,List.map_append,←List.cons_append,List.map_append]
       rfl
      have hcl:((xn::(ws.take k).map tkS).map AV.str).length=k+1:=by simp;omega
      have hci:=str_ids (xn::(ws.take k).map tkS)
      have hci2:=str_ids (xn::(ws.take (k+1)).map tkS)
      rw [hnx] at fin2 hci2
      clear hK2 wat fin IH hnx
      generalize (xn::(ws.take k).map tkS).map AV.str=CC at *
      generalize tkS ws[k]=TS at *
      generalize ws[k]=w at *
      obtain ⟨wk,wt,wn,wl1,wc⟩:=w
      simp only [Tk.row] at wak SP
      rcases k2 with rfl|rfl
      ·simp [gk,gk',gW,wak,wl,hlim,hcl,hci]
       refine onC_mk _ (SP) ?_
       simp -implicitDefEqProofs [hlim,hcl,hci,idsL,AV.ids,rmB,purE]
       refine ⟨cin 17,by omega,fin2 _ ?_⟩
       refine weak_mk ?_ ?_ ?_ ?_ ?_ ?_<;>simp -implicitDefEqProofs [t2,hci2]
       intro d hd
       exact .inr (ciu d hd)
      ·simp [gk,gk',gW,wak,wl,hlim,hcl,hci]
       refine onC_mk _ (SP) ?_
       simp -implicitDefEqProofs [hlim,hcl,hci,idsL,AV.ids,rmB,purE]
       refine ⟨cin 29,by omega,fin2 _ ?_⟩
       refine weak_mk ?_ ?_ ?_ ?_ ?_ ?_<;>simp -implicitDefEqProofs [t2,hci2]
       intro d hd
       exact .inr (ciu d hd)
     ·obtain rfl:k=ws.length:=by omega
      have gk': ¬(ws.length:Int)<ws.length:=by omega
      clear hK2 wat
      rw [List.take_length]
      obtain ⟨A,z,hA,hAl⟩:=last_of xn (ws.map tkS)
      rw [List.length_map] at hAl
      cases xb with
      |false=>
       rw [prI_flat,hA,List.length_append,List.length_append,List.length_append] at len1
       rw [prI_flat,hA,←join_semi] at fin
       have zle:=join_last_le A z
       have jse:=congrArg List.length (join_semi A z)
       rw [List.length_append] at jse
       have w1:IntKind.i64.wrap ((ws.length:Int)+1 - 1)=(ws.length:Nat):=by rw [wrap_i64]<;>omega
       have w3:(ws.length:Int)<(ws.length:Int)+1:=by omega
       have w2:IntKind.i64.wrap (ws.length:Int)=(ws.length:Nat):=by rw [wrap_i64]<;>omega
       rw [hA]
       have LS:=fun c h=>lline_spec 44 (.up b) hb rfl c h T0 dep (by omega) (A++[z++[59]]) (by simp;omega) (by simp only [List.length_singleton] at *;omega)
       have zl:z.length+1≤9223372036854775807:=by simp only [List.length_singleton] at *;omega
       have fl:=fz_last (x:=z) hAl
       have cat: ∀h:ws.length<((A++[z]).map AV.str).length,((A++[z]).map AV.str)[ws.length]'h= .str z:=by intro h;simp [hAl]
       have ccl:((A++[z]).map AV.str).length=ws.length+1:=by simp [hAl]
       have rwl:(strRows (A++[z++[59]])).length=ws.length+1:=by simp [strRows,hAl]
       have rw1:=strRows_one (A++[z++[59]])
       have idf:idsL (strRows (A++[z++[59]])).flatten=[]:=by rw [sRows_flat,str_ids]
       generalize (A++[z]).map AV.str=CC at *
       generalize strRows (A++[z++[59]])=SR at *
       rcases k2 with rfl|rfl
       ·simp [gk',w1,w2,w3,cat,ccl,zl,fl]
        refine onZ_mk (.n 17) (ws.length+1) 1 SR [] ⟨by simp -implicitDefEqProofs,by simp -implicitDefEqProofs [fl],rfl,rwl,rw1,idf,?_⟩ (by decide) ?_
        ·simp [rmB,idsL,AV.ids,cin]
        simp -implicitDefEqProofs [frzStP,frzSt,rmB,purE,AV.ids,idsL,dlB]
        refine onH_mk _ _ (LS ci h2) ⟨?_,?_,?_,?_,?_,?_,?_⟩ ?_
        iterate 7 (· simp)
        simp -implicitDefEqProofs
        refine fin _ ?_
        refine weak_mk ?_ ?_ ?_ ?_ ?_ ?_<;>simp -implicitDefEqProofs [t1]
       ·simp [gk',w1,w2,w3,cat,ccl,zl,fl]
        refine onZ_mk (.n 29) (ws.length+1) 1 SR [] ⟨by simp -implicitDefEqProofs,by simp -implicitDefEqProofs [fl],rfl,rwl,rw1,idf,?_⟩ (by decide) ?_
        ·simp [rmB,idsL,AV.ids,cin]
        simp -implicitDefEqProofs [frzStP,frzSt,rmB,purE,AV.ids,idsL,dlB]
        refine onH_mk _ _ (LS ci h2) ⟨?_,?_,?_,?_,?_,?_,?_⟩ ?_
        iterate 7 (· simp)
        simp -implicitDefEqProofs
        refine fin _ ?_
        refine weak_mk ?_ ?_ ?_ ?_ ?_ ?_<;>simp -implicitDefEqProofs [t1]
      |true=>
       have pb:=prI_block dep xn ws ks xl xc T0
       rw [pb] at fin
       have pl:=congrArg List.length pb
       simp only [List.length_append] at pl
       have i0:=indS_len dep
       obtain ⟨d1,hd1⟩: ∃d1,d1=dep+1:=⟨_,rfl⟩
       rw [←hd1] at fin pl
       have wd1:IntKind.i64.wrap ((dep:Int)+1)=(d1:Nat):=by rw [wrap_i64]<;>omega
       have wd2:IntKind.i64.wrap ((d1:Int) - 1)=(dep:Nat):=by rw [wrap_i64]<;>omega
       have LS1:=fun c h=>lline_spec 49 (.up b) hb rfl c h T0 dep (by omega) ((xn::ws.map tkS)++[[123]]) (by simp;omega) (by omega)
       obtain ⟨T1,hT1⟩: ∃T1,T1=T0++(indS dep++(Lib.join ((xn::ws.map tkS)++[[123]]) [32]++[10])):=⟨_,rfl⟩
       have T1l:=congrArg List.length hT1
       simp only [List.length_append] at T1l
       rw [←hT1] at LS1 fin
       have IH1:=IH 60 (.up b) (.ptr (.up b) 0) T1 d1 hb rfl (.inr rfl) (by omega) (by omega) hx2.2 hx3.2 (by omega) (by omega)
       rw [cE_ptr] at IH1
       obtain ⟨T2,hT2⟩: ∃T2,T2=T1++prL d1 ks:=⟨_,rfl⟩
       have T2l:=congrArg List.length hT2
       simp only [List.length_append] at T2l
       rw [←hT2] at IH1 fin
       have LS3:=lline_spec 70 (.up b) hb rfl (.ptr (.up b) 0) (.inr rfl) T2 dep (by omega) [[125]] (by simp) (by omega)
       generalize T2++(indS dep++(Lib.join [[125]] [32]++[10]))=T3 at *
       rw [strRows_app,show strRows [[123]]=[[AV.str [123]]] from rfl] at LS1
       rw [show strRows [[125]]=[[AV.str [125]]] from rfl] at LS3
       have rwl:(strRows (xn::ws.map tkS)).length=ws.length+1:=by simp [strRows]
       have rw1:=strRows_one (xn::ws.map tkS)
       have rwf:=sRows_flat (xn::ws.map tkS)
       have idf:idsL (strRows (xn::ws.map tkS)).flatten=[]:=by rw [sRows_flat,str_ids]
       clear pb pl T1l T2l hT1 hT2 IH
       generalize strRows (xn::ws.map tkS)=SR at *
       rw [←rwf]
       clear rwf
       obtain ⟨CC,SRf⟩: ∃CC,SR.flatten=CC:=⟨_,rfl⟩
       rw [SRf] at idf ⊢
       rcases k2 with rfl|rfl
       ·simp [gk']
        refine onZ_mk (.n 17) (ws.length+1) 1 SR [] ⟨by simp -implicitDefEqProofs,by simp -implicitDefEqProofs [SRf],rfl,rwl,rw1,by rw [SRf];exact idf,?_⟩ (by decide) ?_
        ·simp [rmB,idsL,AV.ids,cin]
        simp -implicitDefEqProofs [frzStP,frzSt,rmB,purE,AV.ids,idsL,dlB,hlim]
        refine ⟨by omega,rw1,?_⟩
        refine onH_mk _ _ (LS1 ci h2) ⟨?_,?_,?_,?_,?_,?_,?_⟩ ?_
        iterate 7 (· simp)
        simp -implicitDefEqProofs [wd1]
        refine onH_mk _ _ (IH1) ⟨?_,?_,?_,?_,?_,?_,?_⟩ ?_
        iterate 7 (· simp)
        simp -implicitDefEqProofs [wd2]
        refine onH_mk _ _ (LS3) ⟨?_,?_,?_,?_,?_,?_,?_⟩ ?_
        iterate 7 (· simp)
        simp -implicitDefEqProofs
        refine fin _ ?_
        refine weak_mk ?_ ?_ ?_ ?_ ?_ ?_<;>simp -implicitDefEqProofs [t1]
       ·simp [gk']
        refine onZ_mk (.n 29) (ws.length+1) 1 SR [] ⟨by simp -implicitDefEqProofs,by simp -implicitDefEqProofs [SRf],rfl,rwl,rw1,by rw [SRf];exact idf,?_⟩ (by decide) ?_
        ·simp [rmB,idsL,AV.ids,cin]
        simp -implicitDefEqProofs [frzStP,frzSt,rmB,purE,AV.ids,idsL,dlB,hlim]
        refine ⟨by omega,rw1,?_⟩
        refine onH_mk _ _ (LS1 ci h2) ⟨?_,?_,?_,?_,?_,?_,?_⟩ ?_
        iterate 7 (· simp)
        simp -implicitDefEqProofs [wd1]
        refine onH_mk _ _ (IH1) ⟨?_,?_,?_,?_,?_,?_,?_⟩ ?_
        iterate 7 (· simp)
        simp -implicitDefEqProofs [wd2]
        refine onH_mk _ _ (LS3) ⟨?_,?_,?_,?_,?_,?_,?_⟩ ?_
        iterate 7 (· simp)
        simp -implicitDefEqProofs
        refine fin _ ?_
        refine weak_mk ?_ ?_ ?_ ?_ ?_ ?_<;>simp -implicitDefEqProofs [t1]
    ·rw [List.take_zero]
     refine weak_mk ?_ ?_ ?_ ?_ ?_ ?_<;>simp -implicitDefEqProofs [wl]
     intro d hd
     exact .inr (ciu d hd)
   ·obtain rfl:i=L.length:=by omega
    have g': ¬(L.length:Int)<RR.length:=by omega
    rw [List.take_length,←hRT]
    have hz:(ci= .ptr (.up b) 0∧cz= .ptr b 0)∨(ci= .nilT (.up b) 71 3∧cz= .nilT b 71 3):=by
     cases L with
     |nil=>
      have e1:=h3 rfl
      have e2:cz=c0:=hcz
      rcases hc0 with rfl|rfl
      ·exact .inr ⟨e1.trans hc1,e2⟩
      ·exact .inl ⟨e1.trans hc1,e2⟩
     |cons x r=>exact .inl ⟨h4 (by simp),hcz⟩
    clear hK h2 h3 h4 hc0 hc1 hc1' hcz
    rcases hz with ⟨rfl,rfl⟩|⟨rfl,rfl⟩
    ·simp [g',rl]
     refine postH_n ⟨?_,?_,?_,?_,?_,?_⟩<;>simp -implicitDefEqProofs [hic,hb]
    ·simp [g',rl]
     refine postH_n ⟨?_,?_,?_,?_,?_,?_⟩<;>simp -implicitDefEqProofs [hic,hb]
  ·refine ⟨Nat.zero_le _,hc1',fun _=>rfl,fun h=>by simp at h⟩
  ·rw [List.take_zero]
   simp only [prL,List.append_nil]
   refine weak_mk ?_ ?_ ?_ ?_ ?_ ?_<;>simp -implicitDefEqProofs [rl]
   intro d hd
   rcases hc1' with rfl|rfl
   ·simp only [AV.ids,List.mem_singleton] at hd
    exact .inl hd.symm
   ·simp only [AV.ids,List.mem_singleton] at hd
    exact .inl hd.symm
end Go.Ai
namespace Go.Ai
open Go.Proofs Go.Shelf
theorem tkP_lenB (k:Int) (s:List UInt8) (n:Nat) (hn:n<18446744073709551616) (hl:s.length≤100000):(tkP k s n).length≤103000:=by
 cases hr:tkR k s n with
 |false=>unfold tkP;rw [hr,if_pos rfl];decide
 |true=>
  by_cases c1:k=1
  ·unfold tkP
   rw [hr,if_neg (by decide),if_pos c1];omega
  by_cases c2:k=2
  ·unfold tkP
   rw [hr,if_neg (by decide),if_neg c1,if_pos c2]
   subst c2
   obtain ⟨_,_,_,h3⟩:=tkP_quote s n hr
   have:=esL_len (runesL s 0)
   unfold quL
   rw [List.length_cons,List.length_append,List.length_singleton]
   omega
  have hs:s=[]:=by
   unfold tkR at hr
   rw [if_neg c1,if_neg c2] at hr
   repeat' split at hr
   all_goals first|(simp at hr;done)|(simp at hr;first|exact hr|exact hr.1)
  have:=tkP_lenS k s n hn (by rw [hs];decide)
  omega
theorem wdS_len: ∀ws:List Tk,(∀w∈ws,w.n<18446744073709551616)→(∀t∈ws,t.t.length≤100000)→(wdS ws).length≤103001*ws.length
 |[],_,_=>by simp [wdS]
 |w::ws,h1,h2=>by
  have:=wdS_len ws (fun x hx=>h1 x (by simp [hx])) (fun x hx=>h2 x (by simp [hx]))
  have:=tkP_lenB w.k w.t w.n (h1 w (by simp)) (h2 w (by simp))
  rw [wdS,List.length_cons,List.length_append,List.length_cons]
  unfold tkS
  omega
mutual
theorem prI_len: ∀(x:It) (d:Nat),bdI x→nuI x→d+cntI x≤20000→(prI d x).length≤cntI x*200000000
 | .mk n ws b ks ln co,d,h1,h2,h3=>by
  rw [bdI] at h1
  rw [nuI] at h2
  rw [cntI] at h3 ⊢
  have w:=wdS_len ws h2.1 h1.1.2.2
  have k:=prL_len ks (d+1) h1.2 h2.2 (by omega)
  have i0:=indS_len d
  rw [prI]
  have h5:=h1.1.1
  have h6:=h1.1.2.1
  cases b with
  |false=>
   rw [if_pos rfl]
   simp only [List.length_append,List.length_cons,List.length_nil]
   omega
  |true=>
   rw [if_neg (by decide)]
   simp only [List.length_append,List.length_cons,List.length_nil]
   omega
theorem prL_len: ∀(L:List It) (d:Nat),bdL L→nuL L→d+cntL L≤20000→(prL d L).length≤cntL L*200000000
 |[],d,_,_,_=>by simp [prL]
 |x::r,d,h1,h2,h3=>by
  rw [bdL] at h1
  rw [nuL] at h2
  rw [cntL] at h3 ⊢
  have a:=prI_len x d h1.1 h2.1 (by omega)
  have c:=prL_len r d h1.2 h2.2 (by omega)
  rw [prL,List.length_append]
  omega
end
mutual
theorem flatI_bd: ∀(x:It) (d:Nat),bdI x→cntI x≤100000→ ∀p∈flatI x d,txIt p.2∧p.1<d+cntI x
 | .mk n ws b ks ln co,d,h1,h2,p,hp=>by
  rw [flatI,List.mem_cons] at hp
  rw [bdI] at h1
  rw [cntI] at h2 ⊢
  rcases hp with rfl|hp
  ·have:=len_cnt ks
   exact ⟨⟨by omega,by omega,fun t ht=>by have:=h1.1.2.2 t ht;omega,by omega⟩,by dsimp only;omega⟩
  ·have:=flatL_bd ks (d+1) h1.2 (by omega) p hp
   exact ⟨this.1,by omega⟩
theorem flatL_bd: ∀(L:List It) (d:Nat),bdL L→cntL L≤100000→ ∀p∈flatL L d,txIt p.2∧p.1<d+cntL L
 |[],d,_,_,p,hp=>by cases hp
 |x::r,d,h1,h2,p,hp=>by
  rw [flatL,List.mem_append] at hp
  rw [bdL] at h1
  rw [cntL] at h2 ⊢
  rcases hp with hp|hp
  ·have:=flatI_bd x d h1.1 (by omega) p hp
   exact ⟨this.1,by omega⟩
  ·have:=flatL_bd r d h1.2 (by omega) p hp
   exact ⟨this.1,by omega⟩
end
theorem lright_pure (L:List It) (hc:cntL L≤10000) (hb:bdL L):Sp Tryz.prog gl 19 [.sl (itRows L)] (.bool (okAll 0 (flatL L 1))):=by
 have:=depL_cnt L
 exact Sp.of_h fun D=>lright_spec L (by omega) (by omega) (fun p hp=>by
  have:=flatL_bd L 1 hb (by omega) p hp
  exact ⟨this.1,by omega⟩) D
theorem lst_spec {d:Nat} {b:Id} (hit:b.isIt=false) (hnwb:b.isNw d=false) {c0:AV} (l:List UInt8) (n:Nat) (h0:l≠[]):
  SpH Tryz.prog gl 40 d ⟨[.ptr b 0],[(b,[c0,.sl (byteRows l),i6 n])],[(.b b 1,bk 5)]⟩ ⟨.str l,[(b,[c0,.sl (byteRows l),i6 n])],[]⟩:=
 st_shelf (L:={laysJoin with}) extraJ (by kernel_rfl) (by kernel_rfl) hit hnwb (rest:=[i6 n]) l h0
theorem lst0_spec {d:Nat} {b:Id} (hit:b.isIt=false) (hnwb:b.isNw d=false) {c0:AV} (n:Nat):
  SpH Tryz.prog gl 40 d ⟨[.ptr b 0],[(b,[c0,.nils,i6 n])],[]⟩ ⟨.str [],[(b,[c0,.nils,i6 n])],[]⟩:=
 st0_shelf (L:={laysJoin with}) extraJ (by kernel_rfl) (by kernel_rfl) hit hnwb (rest:=[i6 n])
theorem llist_nil (d:Nat) (b:Id) (hb:b.isIt=false) (hbd:b.isNw d=false):SpH Tryz.prog gl 39 d ⟨[.ptr b 0,.sl []],[(b,[.nilT b 71 3,.nils,i6 0])],[]⟩ ⟨.tup [],[(b,[.nilT b 71 3,.nils,i6 0])],[]⟩:=by
 refine h39 rfl ?_
 have hic:=inn_notNw hbd
 simp only [inSt,mpB,mpL,AV.mp,mpP,Pl.mp]
 simp -implicitDefEqProofs [c39]
 refine wp_lpk (α:=Unit) (fun _=>⟨[(0,.ptr (.up b) 0),(9,.sl []),(10,i6 0),(11,i6 0)],[(.up b,[.nilT (.up b) 71 3,.nils,i6 0])],[]⟩) (fun _=>True) (fun _=>0) ?_ () trivial ?_
 ·rintro K x hK _
  clear hK
  simp -implicitDefEqProofs
  refine postH_n ⟨?_,?_,?_,?_,?_,?_⟩<;>simp -implicitDefEqProofs [hic,hb]
 ·refine weak_mk ?_ ?_ ?_ ?_ ?_ ?_<;>simp -implicitDefEqProofs
theorem prL_ne (d:Nat) (x:It) (r:List It):prL d (x::r)≠[]:=by
 obtain ⟨n,ws,b,ks,ln,co⟩:=x
 rw [prL,prI]
 cases b<;>simp
def lprV (L:List It):AV:=if okAll 0 (flatL L 1)=true then .tup [.str (prL 0 L),i6 0] else .tup [.str [],i6 6]
theorem lprint_spec (L:List It) (hc:cntL L≤10000) (hb:bdL L) (hn:nuL L):Sp Tryz.prog gl 18 [.sl (itRows L)] (lprV L):=by
 refine s18 rfl rfl ?_
 have RI:=lright_pure L hc hb
 unfold lprV
 cases hr:okAll 0 (flatL L 1) with
 |false=>
  rw [hr] at RI
  rw [if_neg (by decide)]
  generalize itRows L=RR at *
  simp -implicitDefEqProofs [c18]
  refine onC_mk _ (RI) ?_
  simp -implicitDefEqProofs
 |true=>
  rw [hr] at RI
  rw [if_pos rfl]
  cases L with
  |nil=>
   have LL:=llist_nil 12 (.n 9) rfl rfl
   have SS:=lst0_spec (d:=16) (b:= .n 9) rfl rfl (c0:= .nilT (.n 9) 71 3) 0
   rw [itRows] at RI
   simp -implicitDefEqProofs [c18,itRows,prL]
   refine onC_mk _ (RI) ?_
   simp -implicitDefEqProofs
   refine onH_mk _ _ (LL) ⟨?_,?_,?_,?_,?_,?_,?_⟩ ?_
   iterate 7 (· simp)
   simp -implicitDefEqProofs
   refine onH_mk _ _ (SS) ⟨?_,?_,?_,?_,?_,?_,?_⟩ ?_
   iterate 7 (· simp)
   simp -implicitDefEqProofs
  |cons x r=>
   have pl:=prL_len (x::r) 0 hb hn (by omega)
   have LL:=llist_spec _ (x::r) 12 (.n 9) (.nilT (.n 9) 71 3) [] 0 rfl rfl (.inl rfl) (Nat.le_refl _) (by omega) hb hn (by omega) (by rw [List.length_nil];omega)
   have SS:=lst_spec (d:=16) (b:= .n 9) rfl rfl (c0:= .ptr (.n 9) 0) (prL 0 (x::r)) 0 (prL_ne 0 x r)
   rw [List.nil_append,cE,show byteRows []=[] from rfl] at LL
   generalize itRows (x::r)=RR at *
   generalize prL 0 (x::r)=R at *
   simp -implicitDefEqProofs [c18]
   refine onC_mk _ (RI) ?_
   simp -implicitDefEqProofs
   refine onH_mk _ _ (LL) ⟨?_,?_,?_,?_,?_,?_,?_⟩ ?_
   iterate 7 (· simp)
   simp -implicitDefEqProofs
   refine onH_mk _ _ (SS) ⟨?_,?_,?_,?_,?_,?_,?_⟩ ?_
   iterate 7 (· simp)
   simp -implicitDefEqProofs
open Go.Proofs
def exU:List UInt8:=[114,117,108,101,32,97,123,102,111,114,32,50,109,59,125]
theorem nameT_asc (s:List UInt8) (h:s.all (fun b=>decide (b.toNat<128))=true) (hn:nameGo 0 32 (s.map fun b=>(b.toNat:Int))=true):nameT s=true:=by
 unfold nameT
 rw [runes_asc s (fun b hb=>of_decide_eq_true (List.all_eq_true.1 h b hb))]
 exact hn
theorem step_asc (s:List UInt8) (i:Nat) (h:i<s.length) (hc:s[i].toNat<128):stepR s i=((s[i].toNat:Int),1):=by
 rcases stepR_asc s i h with ⟨_,e⟩|⟨e,_⟩
 ·exact e
 ·omega
theorem takeW {V:List UInt8→TV} {U:List UInt8→List UInt8×Int} {s:List UInt8} {x:Sc} {i:Nat} {r:Int} {k:Int} {w:List UInt8} {n:Nat} (h1:x.st=1) (h2:wthn r=false) (hv:V (subS s x.sa i)= .t k w n):takeF V U s x i r=freshF (x.add (.t k w n)) i r:=by
 unfold takeF
 rw [if_pos h1,h2,if_neg (by decide),hv]
 rfl
theorem run_one (V:List UInt8→TV) (U:List UInt8→List UInt8×Int) (s:List UInt8) (x y z:Sc) (i:Nat) (c:UInt8) (h:s[i]?=some c) (hc:c.toNat<128) (ht:takeF V U s x i (c.toNat:Int)=(y,true)) (hz:y.adv (c.toNat:Int)=z):runF V U s x i=runF V U s z (i+1):=by
 subst hz
 obtain ⟨g,rfl⟩:=List.getElem?_eq_some_iff.1 h
 have e:=step_asc s i g hc
 have e2:r65 (s[i].toNat:Int)=(s[i].toNat:Int):=by unfold r65;rw [if_neg (by omega)]
 rw [runF,dif_pos g,e,e2,ht]
 rfl
theorem sv_name (w:List UInt8) (c:UInt8) (r:List UInt8) (hw:w=c::r) (h:w.all (fun b=>decide (b.toNat<128))=true) (hd:digR (c.toNat:Int)=false) (hn:nameGo 0 32 (w.map fun b=>(b.toNat:Int))=true):sV w= .t 1 w 0:=by
 have hc:c.toNat<128:=of_decide_eq_true (List.all_eq_true.1 h c (by simp [hw]))
 have hv:vR w=(c.toNat:Int):=by
  subst hw
  unfold vR
  rw [if_neg (by simp),step_asc (c::r) 0 (by simp) hc]
  unfold r65
  rw [if_neg (by show ¬(c.toNat:Int)= -1;omega)]
  rfl
 unfold sV
 rw [hv,if_pos hd,if_pos (nameT_asc w h hn)]
theorem sv_2m:sV [50,109]= .t 6 [] 120:=by
 have hv:vR [50,109]=50:=by
  unfold vR
  rw [if_neg (by simp),step_asc [50,109] 0 (by simp) (by decide)]
  rfl
 unfold sV
 have hs:spanU [50,109]=(120,0):=by
  unfold spanU
  rw [if_neg (by simp),runes_asc [50,109] (by decide)]
  rfl
 rw [hv,if_neg (by decide),if_neg (by decide),if_neg (by decide),if_neg (by decide),hs]
 rfl
def itU:List It:=[.mk [114,117,108,101] [⟨1,[97],0,1,6⟩] true [.mk [102,111,114] [⟨6,[],120,1,12⟩] false [] 1 8] 1 1]
set_option maxRecDepth 100000 in
theorem scan_exU:scanF sV sU exU=⟨[⟨1,[114,117,108,101],0,1,1⟩,⟨1,[97],0,1,6⟩,⟨7,[],0,1,7⟩,⟨1,[102,111,114],0,1,8⟩,⟨6,[],120,1,12⟩,⟨9,[],0,1,14⟩,⟨8,[],0,1,15⟩,⟨0,[],0,1,16⟩],0,0,0⟩:=by
 have v1:=sv_name [114,117,108,101] 114 _ rfl (by decide) (by decide) (by decide)
 have v2:=sv_name [97] 97 _ rfl (by decide) (by decide) (by decide)
 have v3:=sv_name [102,111,114] 102 _ rfl (by decide) (by decide) (by decide)
 have v4:=sv_2m
 have R:runF sV sU exU sc0 0=(⟨[⟨1,[114,117,108,101],0,1,1⟩,⟨1,[97],0,1,6⟩,⟨7,[],0,1,7⟩,⟨1,[102,111,114],0,1,8⟩,⟨6,[],120,1,12⟩,⟨9,[],0,1,14⟩,⟨8,[],0,1,15⟩],0,14,1,15,1,16,0,0,0⟩,true):=by
  refine (run_one sV sU exU ⟨[],0,0,1,1,1,1,0,0,0⟩ _ ⟨[],1,0,1,1,1,2,0,0,0⟩ 0 114 rfl (by decide) rfl rfl).trans ?_
  refine (run_one sV sU exU ⟨[],1,0,1,1,1,2,0,0,0⟩ _ ⟨[],1,0,1,1,1,3,0,0,0⟩ 1 117 rfl (by decide) rfl rfl).trans ?_
  refine (run_one sV sU exU ⟨[],1,0,1,1,1,3,0,0,0⟩ _ ⟨[],1,0,1,1,1,4,0,0,0⟩ 2 108 rfl (by decide) rfl rfl).trans ?_
  refine (run_one sV sU exU ⟨[],1,0,1,1,1,4,0,0,0⟩ _ ⟨[],1,0,1,1,1,5,0,0,0⟩ 3 101 rfl (by decide) rfl rfl).trans ?_
  refine (run_one sV sU exU ⟨[],1,0,1,1,1,5,0,0,0⟩ _ ⟨[⟨1,[114,117,108,101],0,1,1⟩],0,4,1,5,1,6,0,0,0⟩ 4 32 rfl (by decide) ((takeW rfl rfl v1).trans rfl) rfl).trans ?_
  refine (run_one sV sU exU ⟨[⟨1,[114,117,108,101],0,1,1⟩],0,4,1,5,1,6,0,0,0⟩ _ ⟨[⟨1,[114,117,108,101],0,1,1⟩],1,5,1,6,1,7,0,0,0⟩ 5 97 rfl (by decide) rfl rfl).trans ?_
  refine (run_one sV sU exU ⟨[⟨1,[114,117,108,101],0,1,1⟩],1,5,1,6,1,7,0,0,0⟩ _ ⟨[⟨1,[114,117,108,101],0,1,1⟩,⟨1,[97],0,1,6⟩,⟨7,[],0,1,7⟩],0,6,1,7,1,8,0,0,0⟩ 6 123 rfl (by decide) ((takeW rfl rfl v2).trans rfl) rfl).trans ?_
  refine (run_one sV sU exU ⟨[⟨1,[114,117,108,101],0,1,1⟩,⟨1,[97],0,1,6⟩,⟨7,[],0,1,7⟩],0,6,1,7,1,8,0,0,0⟩ _ ⟨[⟨1,[114,117,108,101],0,1,1⟩,⟨1,[97],0,1,6⟩,⟨7,[],0,1,7⟩],1,7,1,8,1,9,0,0,0⟩ 7 102 rfl (by decide) rfl rfl).trans ?_
  refine (run_one sV sU exU ⟨[⟨1,[114,117,108,101],0,1,1⟩,⟨1,[97],0,1,6⟩,⟨7,[],0,1,7⟩],1,7,1,8,1,9,0,0,0⟩ _ ⟨[⟨1,[114,117,108,101],0,1,1⟩,⟨1,[97],0,1,6⟩,⟨7,[],0,1,7⟩],1,7,1,8,1,10,0,0,0⟩ 8 111 rfl (by decide) rfl rfl).trans ?_
  refine (run_one sV sU exU ⟨[⟨1,[114,117,108,101],0,1,1⟩,⟨1,[97],0,1,6⟩,⟨7,[],0,1,7⟩],1,7,1,8,1,10,0,0,0⟩ _ ⟨[⟨1,[114,117,108,101],0,1,1⟩,⟨1,[97],0,1,6⟩,⟨7,[],0,1,7⟩],1,7,1,8,1,11,0,0,0⟩ 9 114 rfl (by decide) rfl rfl).trans ?_
  refine (run_one sV sU exU ⟨[⟨1,[114,117,108,101],0,1,1⟩,⟨1,[97],0,1,6⟩,⟨7,[],0,1,7⟩],1,7,1,8,1,11,0,0,0⟩ _ ⟨[⟨1,[114,117,108,101],0,1,1⟩,⟨1,[97],0,1,6⟩,⟨7,[],0,1,7⟩,⟨1,[102,111,114],0,1,8⟩],0,10,1,11,1,12,0,0,0⟩ 10 32 rfl (by decide) ((takeW rfl rfl v3).trans rfl) rfl).trans ?_
  refine (run_one sV sU exU ⟨[⟨1,[114,117,108,101],0,1,1⟩,⟨1,[97],0,1,6⟩,⟨7,[],0,1,7⟩,⟨1,[102,111,114],0,1,8⟩],0,10,1,11,1,12,0,0,0⟩ _ ⟨[⟨1,[114,117,108,101],0,1,1⟩,⟨1,[97],0,1,6⟩,⟨7,[],0,1,7⟩,⟨1,[102,111,114],0,1,8⟩],1,11,1,12,1,13,0,0,0⟩ 11 50 rfl (by decide) rfl rfl).trans ?_
  refine (run_one sV sU exU ⟨[⟨1,[114,117,108,101],0,1,1⟩,⟨1,[97],0,1,6⟩,⟨7,[],0,1,7⟩,⟨1,[102,111,114],0,1,8⟩],1,11,1,12,1,13,0,0,0⟩ _ ⟨[⟨1,[114,117,108,101],0,1,1⟩,⟨1,[97],0,1,6⟩,⟨7,[],0,1,7⟩,⟨1,[102,111,114],0,1,8⟩],1,11,1,12,1,14,0,0,0⟩ 12 109 rfl (by decide) rfl rfl).trans ?_
  refine (run_one sV sU exU ⟨[⟨1,[114,117,108,101],0,1,1⟩,⟨1,[97],0,1,6⟩,⟨7,[],0,1,7⟩,⟨1,[102,111,114],0,1,8⟩],1,11,1,12,1,14,0,0,0⟩ _ ⟨[⟨1,[114,117,108,101],0,1,1⟩,⟨1,[97],0,1,6⟩,⟨7,[],0,1,7⟩,⟨1,[102,111,114],0,1,8⟩,⟨6,[],120,1,12⟩,⟨9,[],0,1,14⟩],0,13,1,14,1,15,0,0,0⟩ 13 59 rfl (by decide) ((takeW rfl rfl v4).trans rfl) rfl).trans ?_
  refine (run_one sV sU exU ⟨[⟨1,[114,117,108,101],0,1,1⟩,⟨1,[97],0,1,6⟩,⟨7,[],0,1,7⟩,⟨1,[102,111,114],0,1,8⟩,⟨6,[],120,1,12⟩,⟨9,[],0,1,14⟩],0,13,1,14,1,15,0,0,0⟩ _ ⟨[⟨1,[114,117,108,101],0,1,1⟩,⟨1,[97],0,1,6⟩,⟨7,[],0,1,7⟩,⟨1,[102,111,114],0,1,8⟩,⟨6,[],120,1,12⟩,⟨9,[],0,1,14⟩,⟨8,[],0,1,15⟩],0,14,1,15,1,16,0,0,0⟩ 14 125 rfl (by decide) rfl rfl).trans ?_
  rw [runF,dif_neg (by decide)]
 unfold scanF
 rw [if_neg (by decide),R]
 rfl
set_option maxRecDepth 100000 in
theorem parse_exU:parseX (scanF sV sU exU)=(itU,0,0,0):=by
 rw [scan_exU]
 rfl
theorem okU:okAll 0 (flatL itU 1)=true:=by
 have n1:=nameT_asc [114,117,108,101] (by decide) (by decide)
 have n2:=nameT_asc [97] (by decide) (by decide)
 have n3:=nameT_asc [102,111,114] (by decide) (by decide)
 have w1:wordT ⟨1,[97],0,1,6⟩=true:=by
  unfold wordT tkR
  rw [if_pos rfl,n2]
  rfl
 have w2:wordT ⟨6,[],120,1,12⟩=true:=rfl
 simp only [itU,flatL,flatI,okAll,okIt,n1,n3,w1,w2,List.all_cons,List.all_nil,List.append_nil]
 rfl
theorem prU:prL 0 itU=[114,117,108,101,32,97,32,123,10,32,32,102,111,114,32,50,109,59,10,125,10]:=by
 have n2:=nameT_asc [97] (by decide) (by decide)
 have w1:tkS ⟨1,[97],0,1,6⟩=[97]:=by
  unfold tkS tkP tkR
  rw [if_pos rfl,n2]
  rfl
 have w2:tkS ⟨6,[],120,1,12⟩=[50,109]:=by
  unfold tkS tkP
  rw [show tkR 6 [] 120=true from rfl]
  simp only [if_neg (show ¬true=false by decide),if_neg (show ¬(6:Int)=1 by decide),if_neg (show ¬(6:Int)=2 by decide),if_neg (show ¬(6:Int)=3 by decide),if_neg (show ¬(6:Int)=4 by decide),if_neg (show ¬(6:Int)=5 by decide),if_true]
  unfold spP
  simp [unL,spG,dec]
 simp only [itU,prL,prI,wdS,w1,w2,if_true,if_neg (show ¬true=false by decide),indS,Lib.repeatL,List.append_nil]
 rfl
set_option maxHeartbeats 1000000 in
theorem awake15_spec:Sp Tryz.prog gl 8 [] (.bool true):=by
 refine s8 rfl rfl ?_
 have T:=parse_of exU (scanF sV sU exU) (stokens_spec sV sU exU (fun w hw=>tunquote_spec w (by have:exU.length=15:=rfl;omega)) (fun w hw=>svalue_spec w (by have:exU.length=15:=rfl;omega))) (fun _ h=>by rw [scan_exU] at h;cases h)
 have LP:=lprint_spec itU (by decide) (by simp [itU,bdL,bdI]) (by simp [itU,nuL,nuI])
 unfold lprV at LP
 rw [okU,if_pos rfl,prU] at LP
 rw [parse_exU] at T
 unfold exU parseV at T
 dsimp only at T
 generalize itRows itU=RU at *
 simp -implicitDefEqProofs [c8]
 refine onC_mk _ (T) ?_
 simp -implicitDefEqProofs
 refine onC_mk _ (LP) ?_
 simp -implicitDefEqProofs
end Go.Ai
set_option linter.constructorNameAsVariable false
namespace Go.Ai
open Go Go.ChangeShapes Go.WideShapes Go.RowKit Go.Proofs
theorem itRows_map: ∀L:List It,itRows L=L.map It.row
 |[]=>rfl
 |x::r=>by rw [itRows,itRows_map r,List.map_cons]
theorem nuL_mem: ∀L:List It,(∀x∈L,nuI x)→nuL L
 |[],_=>by rw [nuL];trivial
 |x::r,h=>by rw [nuL];exact ⟨h x (by simp),nuL_mem r fun y hy=>h y (by simp [hy])⟩
set_option maxRecDepth 100000 in
theorem tok_ofR (n:Nat) (cs:List AV) (h:Shp Tryz.prog n 55 cs): ∃x:Tk,x.n<18446744073709551616∧cs=x.row:=by
 rcases n with _|_|_|n
 ·exact h.elim
 ·simp [Shp,shpF] at h
 ·simp [Shp,shpF] at h
 ·simp [Shp,shpF,-Bool.exists_bool] at h
  obtain ⟨_,_,rfl,⟨k,rfl,_⟩,_,_,rfl,⟨s,rfl,_⟩,_,_,rfl,⟨n,rfl,hn⟩,_,_,rfl,⟨ln,rfl,_⟩,co,rfl,_⟩:=h
  have be:=bounds_u64 hn
  obtain ⟨n,rfl⟩:=Int.eq_ofNat_of_zero_le be.1
  exact ⟨⟨k,s,n,ln,co⟩,by simp only;omega,rfl⟩
set_option maxRecDepth 100000 in
theorem toks_ofR (n:Nat) (cs:List AV) (h:Shp Tryz.prog n 51 cs): ∃L:List Tk,cs=[.sl (L.map Tk.row)]∧(∀x∈L,x.n<18446744073709551616)∧L.length≤9223372036854775807:=by
 cases n with
 |zero=>exact h.elim
 |succ n=>
  simp [Shp,-Bool.exists_bool] at h
  obtain ⟨rs,rfl,hl,hrs⟩:=h
  obtain ⟨L,rfl,hL⟩:=rows_of (ok:=fun x:Tk=>x.n<18446744073709551616) (f:=Tk.row) (tok_ofR n) rs hrs
  exact ⟨L,rfl,hL,by simpa [maxLen] using hl⟩
set_option maxRecDepth 100000 in
theorem items_of (n:Nat): ∀(cs:List AV),Shp Tryz.prog n 22 cs→ ∃L:List It,cs=[.sl (itRows L)]∧nuL L∧L.length≤9223372036854775807:=by
 induction n using Nat.strongRecOn with
 |_ n ih=>
  intro cs h
  cases n with
  |zero=>exact h.elim
  |succ n=>
   simp [Shp,-Bool.exists_bool] at h
   obtain ⟨rs,rfl,hl,hrs⟩:=h
   have one: ∀r,Shp Tryz.prog n 53 r→ ∃x:It,nuI x∧r=x.row:=by
    intro r hr
    rcases n with _|_|n
    ·exact hr.elim
    ·simp [Shp,shpF] at hr
    ·have wo:=toks_ofR (n+1)
     have ki:=ih (n+1) (by omega)
     rw [Shp] at hr
     simp only [Tryz.underlying53] at hr
     simp only [shpF] at hr
     obtain ⟨a1,b1,rfl,h1,a2,b2,rfl,h2,a3,b3,rfl,h3,a4,b4,rfl,h4,a5,b5,rfl,h5,rfl⟩:=hr
     obtain ⟨ws,rfl,hw,hwl⟩:=wo _ h2
     obtain ⟨ks,rfl,hk,hkl⟩:=ki _ h4
     simp [Shp,-Bool.exists_bool] at h1 h3
     obtain ⟨s,rfl,hs⟩:=h1
     obtain ⟨q,rfl⟩:=h3
     cases n with
     |zero=>simp [Shp,shpF] at h5
     |succ n=>
      simp [Shp,shpF,-Bool.exists_bool] at h5
      obtain ⟨_,_,rfl,⟨x1,rfl,_⟩,x2,rfl,_⟩:=h5
      exact ⟨.mk s ws q ks x1 x2,by rw [nuI];exact ⟨hw,hk⟩,by rw [It.row];rfl⟩
   obtain ⟨L,rfl,hL⟩:=rows_of (ok:=nuI) (f:=It.row) one rs hrs
   exact ⟨L,by rw [itRows_map],nuL_mem L hL,by simpa [maxLen] using hl⟩
open Go.Proofs
theorem layoutTells_spec (A B:List It):Sp Tryz.prog gl 3 [.sl (itRows A),.sl (itRows B)] (.bool true):=layoutTells_of awake15_spec A B
end Go.Ai
namespace Go.Ai
open Go.Proofs Go.Lib
set_option maxRecDepth 100000
def accCells:List Value:=(List.range 32).map fun o=>Value.int .u8 (if o%2=0 then (accLo (o / 2):Int) else (accHi (o / 2):Int))
def firstCells:List Value:=firstTab.map fun z=>Value.int .u8 z
theorem first_cell {W:World} (h:VarReads Tryz.prog W "unicode/utf8.first" firstData) (o:Nat) (u:Value) (hu:firstCells[o]?=some u):W.cell? ⟨0,o,none⟩=some u∧u.oneCell'=true:=by
 have hg0:Tryz.prog.globalNamed "unicode/utf8.first"=some 0:=by kernel_rfl
 have ht0:(Tryz.prog.globals[0]?).map (·.type)=some 201:=by kernel_rfl
 obtain ⟨g,t,cs,fuel,p,hg,hty,hvar,hd⟩:=h
 obtain rfl:=Option.some.inj (hg0.symm.trans hg)
 obtain rfl:=Option.some.inj (ht0.symm.trans hty)
 have hcs:=cells_of_tab (t:=201) (e:=5) (n:=256) (by kernel_rfl) (by kernel_rfl) (by kernel_rfl) (by kernel_rfl) hd
 refine ⟨?_,?_⟩
 ·rw [World.var?_cell hg hvar o,←Array.getElem?_toList,hcs]
  exact hu
 ·obtain ⟨z,_,rfl⟩:=List.mem_map.1 (List.mem_of_getElem? hu)
  rfl
theorem acc_cell {W:World} (h:VarReads Tryz.prog W "unicode/utf8.acceptRanges" acceptData) (o:Nat) (u:Value) (hu:accCells[o]?=some u):W.cell? ⟨1,o,none⟩=some u∧u.oneCell'=true:=by
 have hg0:Tryz.prog.globalNamed "unicode/utf8.acceptRanges"=some 1:=by kernel_rfl
 have ht0:(Tryz.prog.globals[1]?).map (·.type)=some 204:=by kernel_rfl
 have hc0:Tryz.prog.cellsOf 203=2:=by kernel_rfl
 obtain ⟨g,t,cs,fuel,p,hg,hty,hvar,hd⟩:=h
 obtain rfl:=Option.some.inj (hg0.symm.trans hg)
 obtain rfl:=Option.some.inj (ht0.symm.trans hty)
 have ho:o<32:=by have:=(List.getElem?_eq_some_iff.1 hu).1;simpa [accCells] using this
 simp only [accCells,List.getElem?_map,List.getElem?_range ho,Option.map_some,Option.some.injEq] at hu
 subst hu
 refine ⟨?_,by split<;>rfl⟩
 have hi:o / 2<16:=by omega
 obtain ⟨fuel',d,q,hdi,he⟩:=array_elem (t:=204) (e:=203) (n:=16) (by kernel_rfl) hd (o / 2) hi
 simp only [List.getElem?_map,List.getElem?_range hi,Option.map_some,Option.some.injEq] at hdi
 subst hdi
 rw [hc0] at he
 obtain ⟨fs,hfs,hsz,hf⟩: ∃fs:Array Field,Tryz.prog.underlying 203=some (.struct fs)∧fs.size=2∧ ∀(i:Nat) (f:Field),fs[i]?=some f→Tryz.prog.underlying f.type=some (.int .u8)∧f.offset=i∧Tryz.prog.cellsOf f.type=1:=by
  refine ⟨_,(by kernel_rfl:Tryz.prog.underlying 203=some (.struct #[Field.mk "lo" 5 0 false "" "unicode/utf8" 0,Field.mk "hi" 5 1 false "" "unicode/utf8" 1])),rfl,fun j f hj=>?_⟩
  match j,hj with
  |0,hj=>simp at hj;subst hj;exact ⟨by kernel_rfl,rfl,by kernel_rfl⟩
  |1,hj=>simp at hj;subst hj;exact ⟨by kernel_rfl,rfl,by kernel_rfl⟩
  |j+2,hj=>simp at hj
 have hcs:=ints_of_struct hfs hf (by rw [hc0,hsz]) he
 have e0:=congrArg (·[0]?) hcs
 have e1:=congrArg (·[1]?) hcs
 simp only [List.getElem?_take,List.getElem?_drop] at e0 e1
 rw [World.var?_cell hg hvar o,←Array.getElem?_toList]
 by_cases hp:o%2=0
 ·rw [if_pos hp]
  have eo:o / 2*2+0=o:=by omega
  rw [eo] at e0
  simpa using e0
 ·rw [if_neg hp]
  have eo:o / 2*2+1=o:=by omega
  rw [eo] at e1
  simpa using e1
end Go.Ai
