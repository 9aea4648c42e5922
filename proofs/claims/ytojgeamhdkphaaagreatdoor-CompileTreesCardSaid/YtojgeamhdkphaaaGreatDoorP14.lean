/- P14: a part of the proof. Conditions: as each theorem says. -/
import Derived.Test.YtojgeamhdkphaaaGreatDoorP13
set_option maxHeartbeats 4000000
set_option linter.unusedSimpArgs false
set_option linter.unusedVariables false
set_option maxRecDepth 20000
namespace Go.Ai
open Go.Proofs
theorem D4 (C A R:Id) (L:List It) (GL:List (List AV)) (f0:List Ft) (lk:Lk) (d:Nat) (hC:C.isIt=false) (hCd:C.isNw d=false) (hA:A.isIt=false) (hAd:A.isNw d=false) (hR:R.isIt=false) (hRd:R.isNw d=false) (nCA:C≠A) (nCR:C≠R) (nAR:A≠R)
  (hx: ∀x∈L,∀t∈x.ws,1<=t.k/\t.k<=6) (hl:L.length<=100000) (hf:f0.length<=1000000):
  bh Tryz.prog gl 23 d ⟨[.ptr C 0,.sl (ae L),.fn 51 [.ptr A 0]],[(C,bY f0),(A,[.ptr R 1]),(R,nO GL [])],[(.b C 0,3),(.b R 0,8)]⟩
   ⟨.tup [],[(C,bY (f0++(L.foldl (aG lk 3) ([],[])).2)),(A,[.ptr R 1]),(R,nO GL (L.foldl (aG lk 3) ([],[])).1)],[(.b C 0,3),(.b R 0,8)]⟩:=by
 have E:=Nz C A R L (fun i=>ar (iJ lk 3 L f0 i).1) (fun i=>(iJ lk 3 L f0 i).2) (fun i=>nO GL (iJ lk 3 L f0 i).1) d hC hCd hA hAd hR hRd nCA nCR nAR (fun i=>lj _ _) rfl hl ?_
 ·have e:=CN lk 3 L f0;have e1:=congrArg Prod.fst e;have e2:=congrArg Prod.snd e;dsimp only at e1 e2;rw[e1,e2] at E;exact E
 ·intro i h h1 h2 h3;have hs:=oD lk 3 L f0 i h;have hlen:=CT (lk:=lk) (show 2<=3 by decide) L f0 i;have hxi:=hx L[i] (o9 h);rw[hs,pS (by decide)];generalize iJ lk 3 L f0 i=s at*;have u1: ∀ {a b:Id},a≠b->a.up≠b.up:=fun h e=>h (by injection e)
  by_cases c:aV 3 s.1 L[i]=0
  ·rw[if_neg (by omega)];exact JD C.up (.it 10) A.up R.up L[i] _ _ _ _ _ _ 21 hC h1 hA h2 hR h3 rfl rfl (u1 nCA) (u1 nCR) (u1 nAR) (lj _ _) (lj _ _) (fun g1 g2 g3 g4=>Gz _ _ _ _ _ _ _ _ _ hxi rfl g2 hA g3 hR g4 hC g1 (u1 (u1 (u1 nCA))) (u1 (u1 (u1 nCR))) (u1 (u1 (u1 nAR))) c)
  ·rw[if_pos c];exact JE C.up (.it 10) A.up R.up L[i] _ _ _ _ _ _ _ 21 hC h1 hA h2 hR h3 rfl rfl (u1 nCA) (u1 nCR) (u1 nAR) (lj _ _) (lj _ _) (by omega) (fun g1 g2 g3 g4=>GA _ _ _ _ _ _ _ _ _ hxi rfl g2 hA g3 hR g4 hC g1 (u1 (u1 (u1 nCA))) (u1 (u1 (u1 nCR))) (u1 (u1 (u1 nAR))) c)
def wC:jV:=⟨vb,[],true,1,0,0⟩
theorem qW {x:It}:cz wC x=(x.bk&&(x.ws.length==0)):=by
 unfold cz wC;have e2:(vb !=du)=true:=rfl;have e3:(vb !=jj)=true:=rfl
 match x.ws with
 |[]=>simp[e7,e2,e3]
 |_::_=>simp[e7]
theorem CZ {C:List It} {x:It} (hn:x.nm=vb):aV 0 C x=if cz wC x=false then 6 else jb (ar C) x.nm 0 0 0:=by
 have hp:bK 0 x.nm=some wC:=by rw[hn];rfl
 cases hf:cz wC x with
 |false=>rw[ii hp hf,if_pos rfl]
 |true=>
  rw[kT hp hf rfl,if_neg (show ¬true=false by decide)];rw[qW,aL] at hf;have hw:x.ws=[]:=by simpa using hf.2
  have hz:f7 x=0:=by unfold f7;rw[hw]
  rw[hz];rfl
theorem D5 (C M R:Id) (x:It) (Cs:List It) (GL:List (List AV)) (f:List Ft) (lk lk':Lk) (d:Nat) (hn:x.nm=vb) (hx: ∀y∈x.kd,∀t∈y.ws,1<=t.k/\t.k<=6) (hl:x.kd.length<=100000) (hf:f.length<=1000000)
  (hM:M.isIt=true) (hMd:M.isNw d=false) (hC:C.isIt=false) (hCd:C.isNw d=false) (hR:R.isIt=false) (hRd:R.isNw d=false) (nCR:C≠R) (h0:aV 0 Cs x=0):
  bh Tryz.prog gl 30 d ⟨[b9 C M,.agg x.row,.ptr R 1],[(C,bY f),(M,ba (ar Cs)),(R,nO GL [])],[(.b C 0,3),(.b R 0,8)]⟩
   ⟨.tup [],[(C,bY (f++((x.kd.foldl (aG lk 3) ([],[])).2++bu lk' 3 x (x.kd.foldl (aG lk 3) ([],[])).1))),(M,ba (ar (Cs++[x]))),(R,nO GL (x.kd.foldl (aG lk 3) ([],[])).1)],[(.b C 0,3),(.b R 0,8)]⟩:=by
 refine T9 rfl ?_;have iC:=ai hCd;have iM:=ai hMd;have iR:=ai hRd;have nMC:M≠C:=fun e=>by rw[e,hC] at hM;cases hM
 have nCM:=nMC.symm;have nMR:M≠R:=fun e=>by rw[e,hR] at hM;cases hM
 have nRM:=nMR.symm;have nRC:=nCR.symm;rw[CZ hn] at h0;have hfm:cz wC x=true:=by
  cases h:cz wC x with
  |true=>rfl
  |false=>rw[h,if_pos rfl] at h0;cases h0
 rw[hfm,if_neg (show ¬true=false by decide)] at h0;rw[qW,aL] at hfm;have hb:x.bk=true:=hfm.1;have hw:x.ws=[]:=by simpa using hfm.2
 have NU:=fun h=>mE C.up M.up x (ar Cs) 0 0 0 17 hM h h0
 have U:=fun e d=>cu e d
 have u1:C.up≠R.up:=fun e=>nCR (by injection e)
 have EN:=fun h h2 h3=>D4 C.up (.n 5) R.up x.kd GL f lk 23 hC h rfl h2 hR h3 (by simp) u1 (by simp) hx hl hf
 rw[dh (by rw[hn];rfl)];have hlen2:=oE (lk:=lk) (show 2<=3 by decide) x.kd ([],[]);have SA:=fun h=>ib C.up 8 x.pl.1 x.pl.2 (f++(x.kd.foldl (aG lk 3) ([],[])).2) 48 hC h (by simp only[gJ,vz,mm] at*;omega)
 have hft:(⟨8,x.pl.1,x.pl.2⟩:Ft)=x.ft 8:=rfl;rw[hft] at SA;have wh: ∀k,bu lk' 3 x k=if ah k iZ 16<ah k jD 0\/ah k jF 300<ah k jE 10 then [x.ft 8] else []:=fun k=>by
  unfold bu;rw[if_neg (by decide),if_neg (by decide),if_pos rfl]
 rw[wh];have e0:nO GL []=[.sl GL,i6 16,i6 0,i6 10,i6 300,i6 0]:=rfl;simp only[e0] at EN ⊢;unfold nO at*;rw[BU] at SA;generalize (x.kd.foldl (aG lk 3) ([],[]))=k at*;generalize ah k.1 iZ 16=vm,ah k.1 jD 0=vv,ah k.1 jE 10=vi,ah k.1 jF 300=vp,ah k.1 lJ 0=vr at*;have t8:(vm<vv\/vp<vi)->List.map Ft.row (f++(k.2++(if vm<vv\/vp<vi then [x.ft 8] else [])))=List.map Ft.row (f++(k.2++[x.ft 8])):=fun h=>by rw[if_pos h]
 have t0: ¬(vm<vv\/vp<vi)->List.map Ft.row (f++(k.2++(if vm<vv\/vp<vi then [x.ft 8] else [])))=List.map Ft.row (f++k.2):=fun h=>by rw[if_neg h,BV]
 unfold ba b9 bY at*;simp only[au,hb,hw,lS] at NU ⊢;generalize aI kS (aB (ar Cs++[x.nm]))=G2 at*;generalize aI kS (aB (ar Cs))=G,List.map Ft.row (f++(k.2++(if vm<vv\/vp<vi then [x.ft 8] else [])))=FE,List.map Ft.row (f++(k.2++[x.ft 8]))=F8,List.map Ft.row (f++k.2)=FK,List.map Ft.row f=FL,x.nm=nm,ae x.kd=KR,x.pl.1=pl,x.pl.2=pc at*;simp only[aw,aW,aO,AV.mp,aX,Pl.mp] at*;clear hfm h0 hlen2 hft wh hx e0;simp[K4];refine a6 _ _ (U 6 _) (by constructor<;>simp[hM,hC,hR,nMC,nCM,nMR,nRM,nCR,nRC]) ?_
 simp[hM,hC,hR,nMC,nCM,nMR,nRM,nCR,nRC];refine a6 _ _ (NU rfl) (by constructor<;>simp[hM,hC,hR,nMC,nCM,nMR,nRM,nCR,nRC]) ?_
 simp[hM,hC,hR,nMC,nCM,nMR,nRM,nCR,nRC];refine aF _ _ (EN rfl rfl rfl) (by constructor<;>simp[hM,hC,hR,nMC,nCM,nMR,nRM,nCR,nRC]) ?_
 by_cases b1:vm<vv
 ·rw[t8 (.inl b1)];simp[hM,hC,hR,nMC,nCM,nMR,nRM,nCR,nRC,b1];refine aF _ _ (SA rfl) (by constructor<;>simp[hM,hC,hR,nMC,nCM,nMR,nRM,nCR,nRC]) ?_
  simp[hM,hC,hR,nMC,nCM,nMR,nRM,nCR,nRC];refine bz ?_;constructor<;>simp[iC,iM,iR,hM,hC,hR,nMC,nCM,nMR,nRM,nCR,nRC]
 by_cases b2:vp<vi
 ·rw[t8 (.inr b2)];simp[hM,hC,hR,nMC,nCM,nMR,nRM,nCR,nRC,b1,b2];refine aF _ _ (SA rfl) (by constructor<;>simp[hM,hC,hR,nMC,nCM,nMR,nRM,nCR,nRC]) ?_
  simp[hM,hC,hR,nMC,nCM,nMR,nRM,nCR,nRC];refine bz ?_;constructor<;>simp[iC,iM,iR,hM,hC,hR,nMC,nCM,nMR,nRM,nCR,nRC]
 ·rw[t0 (fun h=>h.elim b1 b2)];simp[hM,hC,hR,nMC,nCM,nMR,nRM,nCR,nRC,b1,b2];refine bz ?_;constructor<;>simp[iC,iM,iR,hM,hC,hR,nMC,nCM,nMR,nRM,nCR,nRC]
theorem D6 (C M R:Id) (x:It) (Cs:List It) (cs:List AV) (f:List Ft) (d:Nat) (hn:x.nm=vb)
  (hM:M.isIt=true) (hMd:M.isNw d=false) (h0:aV 0 Cs x≠0):
  dK Tryz.prog gl 30 d ⟨[b9 C M,.agg x.row,.ptr R 1],[(M,ba (ar Cs))],[]⟩ ⟨bN (aV 0 Cs x),[(M,ba (ar Cs))],[]⟩:=by
 refine T8 rfl ?_;have iM:=ai hMd;have U:=fun e d=>cu e d
 have UT:=fun e d=>fp e d
 rw[CZ hn] at h0 ⊢;have hzl: ∀k:Nat,k≠0->(((k:Nat):Int)==0)=false:=fun k h=>bJ.2 (by omega)
 cases hfm:cz wC x with
 |false=>
  rw[if_pos rfl];rw[qW] at hfm;clear h0;cases hb:x.bk with
  |false=>
   rw[au,hb];unfold ba b9 bN at*;generalize aI kS (aB (ar Cs))=G,ae x.kd=KR,List.map Tk.row x.ws=WR at*;simp only[aw,aW,aO,AV.mp,aX,Pl.mp] at*;simp[K4];refine bC _ _ (UT 6 _) (by constructor<;>simp[hM]) rfl ?_
   refine ⟨rfl,by simp,?_⟩;constructor<;>simp[hM,iM]
  |true=>
   rw[hb] at hfm;have hw:x.ws.length≠0:=by simpa using hfm
   have hw':=hzl _ hw;rw[au,hb];unfold ba b9 bN at*;generalize aI kS (aB (ar Cs))=G,ae x.kd=KR at*;have hwl:(List.map Tk.row x.ws).length=x.ws.length:=kp _;generalize List.map Tk.row x.ws=WR at*;simp only[aw,aW,aO,AV.mp,aX,Pl.mp] at*;rw[<-hwl] at hw';simp[K4,hw'];refine bC _ _ (UT 6 _) (by constructor<;>simp[hM]) rfl ?_
   refine ⟨rfl,by simp,?_⟩;constructor<;>simp[hM,iM]
 |true=>
  rw[hfm] at h0;rw[if_neg (show ¬true=false by decide)] at h0 ⊢;rw[qW,aL] at hfm;have hb:x.bk=true:=hfm.1;have hw:x.ws=[]:=by simpa using hfm.2
  have NU:=fun h=>mG C.up M.up x (ar Cs) 0 0 0 17 hM h h0
  generalize jb (ar Cs) x.nm 0 0 0=e at*;unfold ba b9 bN at*;simp only[au,hb,hw,lS] at NU ⊢;generalize aI kS (aB (ar Cs))=G,ae x.kd=KR at*;simp only[aw,aW,aO,AV.mp,aX,Pl.mp] at*;clear hfm h0;simp[K4];refine a6 _ _ (U 6 _) (by constructor<;>simp[hM]) ?_
  simp[hM];refine bC _ _ (NU rfl) (by constructor<;>simp[hM]) rfl ?_
  refine ⟨rfl,by simp,?_⟩;constructor<;>simp[hM,iM]
theorem JJ (C M A R:Id) (x:It) (K K':List (List UInt8)) (f f':List Ft) (cs cs':List AV) (d:Nat) (hC:C.isIt=false) (hCd:C.isNw d=false) (hA:A.isIt=false) (hAd:A.isNw d=false) (hR:R.isIt=false) (hRd:R.isNw d=false) (hM:M.isIt=true) (hMd:M.isNw d=false) (nCA:C≠A) (nCR:C≠R) (nAR:A≠R)
  (hid:bR cs=[]) (hid':bR cs'=[])
  (S:C.up.up.isNw 10=false->M.up.up.isNw 10=false->A.up.up.isNw 10=false->R.up.up.isNw 10=false->bh Tryz.prog gl 24 10 ⟨[b9 C.up.up M.up.up,.agg x.row,.ptr A.up.up 0,.ptr R.up.up 0],[(C.up.up,bY f),(M.up.up,ba K),(A.up.up,[.ptr C.up.up 0]),(R.up.up,cs)],[(.b C.up.up 0,3),(.b R.up.up 0,8)]⟩ ⟨.tup [],[(C.up.up,bY f'),(M.up.up,ba K'),(A.up.up,[.ptr C.up.up 0]),(R.up.up,cs')],[(.b C.up.up 0,3),(.b R.up.up 0,8)]⟩):
  bh Tryz.prog gl 44 d ⟨[b9 C M,.agg x.row,.fn (24) [.ptr A 0,.ptr R 0]],[(C,bY f),(M,ba K),(A,[.ptr C 0]),(R,cs)],[(.b C 0,3),(.b R 0,8)]⟩ ⟨.tup [],[(C,bY f'),(M,ba K'),(A,[.ptr C 0]),(R,cs')],[(.b C 0,3),(.b R 0,8)]⟩:=by
 refine Ky 1 1 (by decide) (by decide) rfl ?_;have iC:=ai hCd;have iA:=ai hAd;have iR:=ai hRd;have iM:=ai hMd;have nAC:=nCA.symm;have nRC:=nCR.symm;have nRA:=nAR.symm;have nMC:M≠C:=fun e=>by rw[e,hC] at hM;cases hM
 have nCM:=nMC.symm;have nMA:M≠A:=fun e=>by rw[e,hA] at hM;cases hM
 have nAM:=nMA.symm;have nMR:M≠R:=fun e=>by rw[e,hR] at hM;cases hM
 have nRM:=nMR.symm;have hmp:=fun g=>aT (f:=g) hid
 have hmp':=fun g=>aT (f:=g) hid'
 have q0:=a7 cs;have q1:=a7 cs';have S:=S rfl rfl rfl rfl;have RN:=qU (.up (.n 3)) (.up (.n 4)) 1;unfold b9 bY ba at*;rw[au] at*;generalize aI kS (aB K)=G at*;generalize aI kS (aB K')=G',List.map Ft.row f'=FL' at*;generalize List.map Ft.row f=FL,ae x.kd=KR,List.map Tk.row x.ws=WR,x.nm=nm,x.bk=bk,x.pl.1=pl,x.pl.2=pc at*;simp only[aw,aW,aO,AV.mp,aX,Pl.mp,hmp,Iv,jd];simp;rw[iu,za];simp;refine ⟨⟨[.agg [.ptr C.up 0,.mref M.up],.agg [.str nm,.sl WR,.bool bk,.sl KR,i6 pl,i6 pc],.fn (24) [.ptr A.up 0,.ptr R.up 0],.ptr (.n 3) 0,.ptr (.n 4) 0,.undef,.fn 74 [.ptr (.n 3) 0,.ptr (.n 4) 0],.undef,.undef,.undef,.undef],[(.n 3,[.ptr C.up 0,.mref M.up]),(.n 4,[.str nm,.sl WR,.bool bk,.sl KR,i6 pl,i6 pc]),(C.up,[.sl FL]),(M.up,[.mpv G]),(A.up,[.ptr C.up 0]),(R.up,cs)],[(.b C.up 0,3),(.b R.up 0,8)]⟩,rfl,⟨.tup [],[(.n 3,[.ptr C.up 0,.mref M.up]),(.n 4,[.str nm,.sl WR,.bool bk,.sl KR,i6 pl,i6 pc]),(C.up,[.sl FL']),(M.up,[.mpv G']),(A.up,[.ptr C.up 0]),(R.up,cs')],[(.b C.up 0,3),(.b R.up 0,8)]⟩,⟨?_,?_,?_,?_,?_,?_,?_⟩,?_,?_⟩;iterate 7 (· simp[iC,hC,iA,hA,iR,hR,iM,hM,nAC,nCA,nRC,nCR,nRA,nAR,nMC,nCM,nMA,nAM,nMR,nRM,hmp,hmp',hid,hid',q0,q1])
 ·apply am<;>simp[iC,hC,iA,hA,iR,hR,iM,hM,nAC,nCA,nRC,nCR,nRA,nAR,nMC,nCM,nMA,nAM,nMR,nRM,hmp,hmp',hid,hid',q0,q1]
 ·simp[iC,hC,iA,hA,iR,hR,iM,hM,nAC,nCA,nRC,nCR,nRA,nAR,nMC,nCM,nMA,nAM,nMR,nRM,hmp,hmp',hid,hid',q0,q1];refine a6 _ _ (S) (by constructor<;>simp[iC,hC,iA,hA,iR,hR,iM,hM,nAC,nCA,nRC,nCR,nRA,nAR,nMC,nCM,nMA,nAM,nMR,nRM,hmp,hmp',hid,hid',q0,q1]) ?_
  simp[iC,hC,iA,hA,iR,hR,iM,hM,nAC,nCA,nRC,nCR,nRA,nAR,nMC,nCM,nMA,nAM,nMR,nRM,hmp,hmp',hid,hid',q0,q1];refine ⟨_,_,RN,⟨?_,?_,?_,?_,?_,?_,?_⟩,?_⟩;iterate 7 (· simp[iC,hC,iA,hA,iR,hR,iM,hM,nAC,nCA,nRC,nCR,nRA,nAR,nMC,nCM,nMA,nAM,nMR,nRM,hmp,hmp',hid,hid',q0,q1])
  apply am<;>simp[iC,hC,iA,hA,iR,hR,iM,hM,nAC,nCA,nRC,nCR,nRA,nAR,nMC,nCM,nMA,nAM,nMR,nRM,hmp,hmp',hid,hid',q0,q1]
theorem JK (C M A R:Id) (x:It) (K K':List (List UInt8)) (f f':List Ft) (cs cs':List AV) (e:Int) (d:Nat) (hC:C.isIt=false) (hCd:C.isNw d=false) (hA:A.isIt=false) (hAd:A.isNw d=false) (hR:R.isIt=false) (hRd:R.isNw d=false) (hM:M.isIt=true) (hMd:M.isNw d=false) (nCA:C≠A) (nCR:C≠R) (nAR:A≠R)
  (hid:bR cs=[]) (hid':bR cs'=[]) (hl:f'.length<=10000000)
  (S:C.up.up.isNw 10=false->M.up.up.isNw 10=false->A.up.up.isNw 10=false->R.up.up.isNw 10=false->dK Tryz.prog gl 24 10 ⟨[b9 C.up.up M.up.up,.agg x.row,.ptr A.up.up 0,.ptr R.up.up 0],[(C.up.up,bY f),(M.up.up,ba K),(A.up.up,[.ptr C.up.up 0]),(R.up.up,cs)],[(.b C.up.up 0,3),(.b R.up.up 0,8)]⟩ ⟨bN e,[(C.up.up,bY f'),(M.up.up,ba K'),(A.up.up,[.ptr C.up.up 0]),(R.up.up,cs')],[(.b C.up.up 0,3),(.b R.up.up 0,8)]⟩):
  bh Tryz.prog gl 44 d ⟨[b9 C M,.agg x.row,.fn (24) [.ptr A 0,.ptr R 0]],[(C,bY f),(M,ba K),(A,[.ptr C 0]),(R,cs)],[(.b C 0,3),(.b R 0,8)]⟩ ⟨.tup [],[(C,bY (f'++[x.ft e])),(M,ba K'),(A,[.ptr C 0]),(R,cs')],[(.b C 0,3),(.b R 0,8)]⟩:=by
 refine Ky 1 1 (by decide) (by decide) rfl ?_;have iC:=ai hCd;have iA:=ai hAd;have iR:=ai hRd;have iM:=ai hMd;have nAC:=nCA.symm;have nRC:=nCR.symm;have nRA:=nAR.symm;have nMC:M≠C:=fun e=>by rw[e,hC] at hM;cases hM
 have nCM:=nMC.symm;have nMA:M≠A:=fun e=>by rw[e,hA] at hM;cases hM
 have nAM:=nMA.symm;have nMR:M≠R:=fun e=>by rw[e,hR] at hM;cases hM
 have nRM:=nMR.symm;have hmp:=fun g=>aT (f:=g) hid
 have hmp':=fun g=>aT (f:=g) hid'
 have q0:=a7 cs;have q1:=a7 cs';have S:=S rfl rfl rfl rfl;have RF:=qV (.up (.n 3)) (.up (.n 4)) C.up.up M.up x.nm (x.ws.map Tk.row) (ae x.kd) x.bk x.pl.1 x.pl.2 e f' 1 rfl rfl rfl rfl hC rfl hM (by decide) (by simp) (by simp) hl;rw[show (⟨e,x.pl.1,x.pl.2⟩:Ft)=x.ft e from rfl] at RF;unfold b9 bY ba bN at*;rw[au] at*;generalize aI kS (aB K)=G at*;generalize aI kS (aB K')=G',List.map Ft.row (f'++[x.ft e])=FL2,List.map Ft.row f'=FL' at*;generalize List.map Ft.row f=FL,ae x.kd=KR,List.map Tk.row x.ws=WR,x.nm=nm,x.bk=bk,x.pl.1=pl,x.pl.2=pc at*;simp only[aw,aW,aO,AV.mp,aX,Pl.mp,hmp,Iv,jd];simp;rw[iu,za];simp;refine ⟨⟨[.agg [.ptr C.up 0,.mref M.up],.agg [.str nm,.sl WR,.bool bk,.sl KR,i6 pl,i6 pc],.fn (24) [.ptr A.up 0,.ptr R.up 0],.ptr (.n 3) 0,.ptr (.n 4) 0,.undef,.fn 74 [.ptr (.n 3) 0,.ptr (.n 4) 0],.undef,.undef,.undef,.undef],[(.n 3,[.ptr C.up 0,.mref M.up]),(.n 4,[.str nm,.sl WR,.bool bk,.sl KR,i6 pl,i6 pc]),(C.up,[.sl FL]),(M.up,[.mpv G]),(A.up,[.ptr C.up 0]),(R.up,cs)],[(.b C.up 0,3),(.b R.up 0,8)]⟩,rfl,⟨.tup [],[(.n 3,[.ptr C.up 0,.mref M.up]),(.n 4,[.str nm,.sl WR,.bool bk,.sl KR,i6 pl,i6 pc]),(C.up,[.sl FL2]),(M.up,[.mpv G']),(A.up,[.ptr C.up 0]),(R.up,cs')],[(.b C.up 0,3),(.b R.up 0,8)]⟩,⟨?_,?_,?_,?_,?_,?_,?_⟩,?_,?_⟩;iterate 7 (· simp[iC,hC,iA,hA,iR,hR,iM,hM,nAC,nCA,nRC,nCR,nRA,nAR,nMC,nCM,nMA,nAM,nMR,nRM,hmp,hmp',hid,hid',q0,q1])
 ·apply am<;>simp[iC,hC,iA,hA,iR,hR,iM,hM,nAC,nCA,nRC,nCR,nRA,nAR,nMC,nCM,nMA,nAM,nMR,nRM,hmp,hmp',hid,hid',q0,q1]
 ·simp[iC,hC,iA,hA,iR,hR,iM,hM,nAC,nCA,nRC,nCR,nRA,nAR,nMC,nCM,nMA,nAM,nMR,nRM,hmp,hmp',hid,hid',q0,q1];refine bC _ _ (S) (by constructor<;>simp[iC,hC,iA,hA,iR,hR,iM,hM,nAC,nCA,nRC,nCR,nRA,nAR,nMC,nCM,nMA,nAM,nMR,nRM,hmp,hmp',hid,hid',q0,q1]) rfl ?_
  refine ⟨⟨_,_,rfl⟩,_,_,RF,⟨?_,?_,?_,?_,?_,?_,?_⟩,?_⟩;iterate 7 (· simp[iC,hC,iA,hA,iR,hR,iM,hM,nAC,nCA,nRC,nCR,nRA,nAR,nMC,nCM,nMA,nAM,nMR,nRM,hmp,hmp',hid,hid',q0,q1])
  apply am<;>simp[iC,hC,iA,hA,iR,hR,iM,hM,nAC,nCA,nRC,nCR,nRA,nAR,nMC,nCM,nMA,nAM,nMR,nRM,hmp,hmp',hid,hid',q0,q1]
theorem NB (C A R:Id) (L:List It) (K:Nat->List (List UInt8)) (f:Nat->List Ft) (cs:Nat->List AV) (d:Nat) (hC:C.isIt=false) (hCd:C.isNw d=false) (hA:A.isIt=false) (hAd:A.isNw d=false) (hR:R.isIt=false) (hRd:R.isNw d=false) (nCA:C≠A) (nCR:C≠R) (nAR:A≠R)
  (hid: ∀i,bR (cs i)=[]) (hK:K 0=[]) (hlen:L.length<=100000)
  (S: ∀(i:Nat) (h:i<L.length),C.up.isNw 21=false->A.up.isNw 21=false->R.up.isNw 21=false->bh Tryz.prog gl 44 21 ⟨[b9 C.up (.it 10),.agg L[i].row,.fn (24) [.ptr A.up 0,.ptr R.up 0]],[(C.up,bY (f (i))),(.it 10,ba (K (i))),(A.up,[.ptr C.up 0]),(R.up,cs (i))],[(.b C.up 0,3),(.b R.up 0,8)]⟩ ⟨.tup [],[(C.up,bY (f (i+1))),(.it 10,ba (K (i+1))),(A.up,[.ptr C.up 0]),(R.up,cs (i+1))],[(.b C.up 0,3),(.b R.up 0,8)]⟩):
  bh Tryz.prog gl 23 d ⟨[.ptr C 0,.sl (ae L),.fn (24) [.ptr A 0,.ptr R 0]],[(C,bY (f 0)),(A,[.ptr C 0]),(R,cs 0)],[(.b C 0,3),(.b R 0,8)]⟩ ⟨.tup [],[(C,bY (f L.length)),(A,[.ptr C 0]),(R,cs L.length)],[(.b C 0,3),(.b R 0,8)]⟩:=by
 refine N0 rfl ?_;have iC:=ai hCd;have iA:=ai hAd;have iR:=ai hRd;have nAC:=nCA.symm;have nRC:=nCR.symm;have nRA:=nAR.symm;have rl:=a8 L;have rat:=cp L;have r6:=nr L;have hmp:=fun i g=>aT (f:=g) (hid i)
 have q0:=fun i=>a7 (cs i)
 have hki: ∀K,bR (ba K)=[]:=fun _=>rfl
 have k0:ba (K 0)=[.mpv []]:=by rw[hK];rfl
 simp only[aw,aW,aO,AV.mp,aX,Pl.mp,hmp];unfold bY b9 at*;simp only[aw,aW,aO,AV.mp,aX,Pl.mp,hmp];generalize ae L=RR at*;simp[MF];refine aY (α:=Nat) (fun i=>⟨[(0,.ptr C.up 0),(2,.fn (24) [.ptr A.up 0,.ptr R.up 0]),(6,.ptr (.n 6) 0),(12,.sl RR),(13,i6 L.length),(14,i6 i)],[(.n 6,[.ptr C.up 0,.mref (.it 10)]),(C.up,[.sl ((f i).map Ft.row)]),(.it 10,ba (K i)),(A.up,[.ptr C.up 0]),(R.up,cs i)],[(.b C.up 0,3),(.b R.up 0,8)]⟩) (fun i=>i<=L.length) (fun i=>L.length - i) ?_ 0 (gN _) ?_
 ·rintro k i hk h1;by_cases g:i<L.length
  ·have t1:IntKind.i64.wrap ((i:Int)+1)=(i+1:Nat):=by rw[ay]<;>omega
   have g':(i:Int)<L.length:=by omega
   have gR:i<RR.length:=by omega
   have rai:=rat i g gR;have fin:=fun σ' hσ=>hk (i+1) σ' (by omega) (by omega) hσ
   have S:=S i g rfl rfl rfl;have ra6:=r6 RR[i] (o9 gR);rw[<-rai] at S;clear hk rat rai r6;obtain ⟨row,hrow⟩: ∃row,row=RR[i]:=⟨_,rfl⟩;rw[<-hrow] at S ra6;have hat: ∀h,RR[i]'h=row:=fun _=>hrow.symm
   have ht:List.take 6 row=row:=List.take_of_length_le (by omega);simp[g,g',gR,rl,hat,ra6,ht,iC,hC,iA,hA,iR,hR,nAC,nCA,nRC,nCR,nRA,nAR,hmp,hid,q0,hki];refine aF _ _ (S) (by constructor<;>simp[iC,hC,iA,hA,iR,hR,nAC,nCA,nRC,nCR,nRA,nAR,hmp,hid,q0,hki]) ?_
   simp[iC,hC,iA,hA,iR,hR,nAC,nCA,nRC,nCR,nRA,nAR,hmp,hid,q0,hki];refine fin _ ?_;apply aj<;>simp[t1,iC,hC,iA,hA,iR,hR,nAC,nCA,nRC,nCR,nRA,nAR,hmp,hid,q0,hki]
  ·obtain rfl:i=L.length:=by omega
   clear hk;simp[rl];refine bz ?_;constructor<;>simp[iC,hC,iA,hA,iR,hR,nAC,nCA,nRC,nCR,nRA,nAR,hmp,hid,q0,hki]
 ·apply aj<;>simp[rl,k0,iC,hC,iA,hA,iR,hR,nAC,nCA,nRC,nCR,nRA,nAR,hmp,hid,q0,hki]
def Bi (lk:Lk) (g:Nat) (y:It):Prop:=ah (lk 2 y.kd).1 fX 0%g≠0\/ah (lk 2 y.kd).1 fY 0%g≠0
instance (lk:Lk) (g:Nat) (y:It):Decidable (Bi lk g y):=inferInstanceAs (Decidable (_\/_))
def kL (lk:Lk) (g:Nat) (A:List It):List Ft:=A.flatMap fun y=>if Bi lk g y then [y.ft 8] else []
theorem uN (lk:Lk) (g:Nat) (A:List It) (y:It):kL lk g (A++[y])=kL lk g A++(if Bi lk g y then [y.ft 8] else []):=by
 unfold kL;rw[List.flatMap_append,List.flatMap_cons,List.flatMap_nil,BV]
theorem GC (lk:Lk) (g:Nat) (A:List It):(kL lk g A).length<=A.length:=jh _ (fun y=>by split<;>simp) A
def MA (n:List UInt8) (t g a o:Nat) (vc:Int) (VL:List (List AV)) (lk:Lk) (A:List It):List AV:=[.str n,.int .u32 t,i6 g,i6 a,i6 o,i6 vc,.sl VL,.sl (A.map fun y=>(vd lk y).row),.sl (A.map fun y=>[i6 y.pl.1,i6 y.pl.2])]
theorem wD (C R:Id) (A:List It) (lk:Lk) (l c:Int) (f:List Ft) (n:List UInt8) (t g a o:Nat) (vc:Int) (VL:List (List AV)) (d:Nat) (hg:g≠0) (hf:f.length<=2000000) (hA:A.length<=100000)
  (hC:C.isIt=false) (hCd:C.isNw d=false) (hR:R.isIt=false) (hRd:R.isNw d=false) (nCR:C≠R):
  bh Tryz.prog gl 29 d ⟨[.ptr R 0,.ptr C 0,.agg [i6 l,i6 c]],[(C,bY f),(R,MA n t g a o vc VL lk A)],[(.b C 0,3),(.b R 6,2),(.b R 7,7),(.b R 8,2)]⟩
   ⟨.tup [],[(C,bY (f++((if t=0\/A=[] then [⟨6,l,c⟩] else [])++(kL lk g A++if o%g≠0 then [⟨8,l,c⟩] else [])))),(R,MA n t g a o vc VL lk A)],[(.b C 0,3),(.b R 6,2),(.b R 7,7),(.b R 8,2)]⟩:=by
 refine T7 rfl ?_;have iC:=ai hCd;have iR:=ai hRd;have nRC:=nCR.symm;have hg':((g:Int))≠0:=by omega
 have SY:=fun e l c f D h hl=>ib C.up e l c f D hC h hl
 have hne: ∀k:Nat,(((k:Int))==0)=decide (k=0):=fun k=>by
  by_cases h:k=0
  ·rw[h];rfl
  ·rw[ik h,bJ];omega
 have hmo: ∀k:Nat,((k:Int).tmod (g:Int)!=0)=decide (k%g≠0):=fun k=>by
  rw[iI];by_cases h:k%g=0
  ·rw[h];rfl
  ·rw[jm h,bne_iff_ne];omega
 obtain ⟨F0,hF0⟩: ∃F0,F0=f++(if t=0\/A=[] then [⟨6,l,c⟩] else []):=⟨_,rfl⟩;have hF0l:F0.length<=2000001:=by
  rw[hF0,gJ];split
  ·simp;omega
  ·simp;omega
 have hout:f++((if t=0\/A=[] then [⟨6,l,c⟩] else [])++(kL lk g A++if o%g≠0 then [⟨8,l,c⟩] else []))=(F0++kL lk g A)++(if o%g≠0 then [⟨8,l,c⟩] else []):=by rw[hF0];simp
 rw[hout];have rl:(A.map fun y=>(vd lk y).row).length=A.length:=kp _;have al:(A.map fun y=>[i6 y.pl.1,i6 y.pl.2]).length=A.length:=kp _;have rat: ∀(i:Nat) (h:i<A.length) (h2:i<(A.map fun y=>(vd lk y).row).length),(A.map fun y=>(vd lk y).row)[i]=(vd lk A[i]).row:=fun i h h2=>List.getElem_map _
 have aat: ∀(i:Nat) (h:i<A.length) (h2:i<(A.map fun y=>[i6 y.pl.1,i6 y.pl.2]).length),(A.map fun y=>[i6 y.pl.1,i6 y.pl.2])[i]=[i6 A[i].pl.1,i6 A[i].pl.2]:=fun i h h2=>List.getElem_map _
 unfold MA bY at*;generalize (A.map fun y=>(vd lk y).row)=RR,(A.map fun y=>[i6 y.pl.1,i6 y.pl.2])=AA at*;have hRl0:(RR.length:Int)=A.length:=by rw[rl]
 simp only[aw,aW,aO,AV.mp,aX,Pl.mp] at*;have zt:=hne t;have zA:=hne A.length;have S6:=SY 6 l c f 25;have hs0: ∀(_:t=0\/A=[]),List.map Ft.row (f++[⟨6,l,c⟩])=List.map Ft.row F0:=fun h=>by rw[hF0,if_pos h]
 have hs1: ∀(_: ¬(t=0\/A=[])),List.map Ft.row f=List.map Ft.row F0:=fun h=>by rw[hF0,if_neg h,BV]
 have S6:=fun h=>S6 h (by omega)
 have cases3:t=0\/(t≠0/\A.length=0)\/(t≠0/\A.length≠0):=by omega
 obtain ⟨FT,hFT⟩: ∃FT:Nat->List (List AV),∀i,FT i=List.map Ft.row (F0++kL lk g (A.take i)):=⟨fun i=>_,fun i=>rfl⟩;have h00:List.map Ft.row F0=FT 0:=by rw[hFT];simp[kL]
 obtain ⟨FE,hFE⟩: ∃FE,FE=List.map Ft.row ((F0++kL lk g A)++(if o%g≠0 then [⟨8,l,c⟩] else [])):=⟨_,rfl⟩;rw[<-hFE];have hFl: ∀i,(F0++kL lk g (A.take i)).length<=10000000:=fun i=>by
  rw[gJ]
  have:=GC lk g (A.take i)
  have:=List.length_take_le' i A
  omega
 have hE8:o%g≠0->List.map Ft.row ((F0++kL lk g A)++[⟨8,l,c⟩])=FE:=fun h=>by rw[hFE,if_pos h]
 have hE0: ¬o%g≠0->FT A.length=FE:=fun h=>by rw[hFE,if_neg h,BV,hFT,pr]
 have S8:=fun h=>SY 8 l c (F0++kL lk g A) 81 h (by have:=hFl A.length;rwa [pr] at this)
 have hFA:List.map Ft.row (F0++kL lk g A)=FT A.length:=by rw[hFT,pr]
 rw[hFA] at S8;have ST:=fun i l c h=>SY 8 l c (F0++kL lk g (A.take i)) 65 h (hFl i)
 have nx8: ∀i (h:i<A.length),Bi lk g A[i]->List.map Ft.row ((F0++kL lk g (A.take i))++[⟨8,A[i].pl.1,A[i].pl.2⟩])=FT (i+1):=fun i h hb=>by
  rw[hFT,Am h,uN,if_pos hb,<-BU];rfl
 have nx0: ∀i (h:i<A.length),¬Bi lk g A[i]->FT i=FT (i+1):=fun i h hb=>by
  rw[hFT,hFT,Am h,uN,if_neg hb,BV]
 simp only[<-hFT] at ST;rcases cases3 with z|⟨z,z2⟩|⟨z,z2⟩
 case' inl=>
  have z':((t:Int)==0)=true:=by rw[zt,z];rfl
  simp only[hs0 (.inl z),h00] at S6;simp[N1,hC,hR,nCR,nRC,z',hRl0,zA];refine aF _ _ (S6 rfl) (by constructor<;>simp[hC,hR,nCR,nRC]) ?_
  simp[hC,hR,nCR,nRC,hRl0]
 case' inr.inl=>
  have z':((t:Int)==0)=false:=by rw[zt];simpa using z
  have z2':((A.length:Int)==0)=true:=by rw[zA,z2];rfl
  simp only[hs0 (.inr (List.length_eq_zero_iff.1 z2)),h00] at S6;simp[N1,hC,hR,nCR,nRC,z',hRl0,z2'];refine aF _ _ (S6 rfl) (by constructor<;>simp[hC,hR,nCR,nRC]) ?_
  simp[hC,hR,nCR,nRC,hRl0]
 case' inr.inr=>
  have z':((t:Int)==0)=false:=by rw[zt];simpa using z
  have z2':((A.length:Int)==0)=false:=by rw[zA];simpa using z2
  rw[hs1 (by
   rintro (h|h)
   ·exact z h
   ·rw[h] at z2;exact z2 rfl),h00]
  simp[N1,hC,hR,nCR,nRC,z',hRl0,z2']
 all_goals
  clear hs0 hs1 hFT hFE z z' S6 hF0l hFl hFA SY hne hout;refine aY (α:=Nat) (fun i=>⟨[(0,.ptr R.up 0),(1,.ptr C.up 0),(5,.ptr (.n 5) 0),(30,.sl RR),(31,i6 A.length),(32,i6 i)],[(.n 5,[i6 l,i6 c]),(C.up,[.sl (FT i)]),(R.up,[.str n,.int .u32 t,i6 g,i6 a,i6 o,i6 vc,.sl VL,.sl RR,.sl AA])],[(.b C.up 0,3),(.b R.up 6,2),(.b R.up 7,7),(.b R.up 8,2)]⟩) (fun i=>i<=A.length) (fun i=>A.length - i) ?_ 0 (gN _) ?_
  ·rintro k i hk h1;by_cases gi:i<A.length
   ·have t1:IntKind.i64.wrap ((i:Int)+1)=(i+1:Nat):=by rw[ay]<;>omega
    have g':(i:Int)<A.length:=by omega
    have gR:i<RR.length:=by omega
    have gA:i<AA.length:=by omega
    have rai:=rat i gi gR;have aai:=aat i gi gA;have fin:=fun σ' hσ=>hk (i+1) σ' (by omega) (by omega) hσ
    have nx8:=nx8 i gi;have nx0:=nx0 i gi;unfold Bi at nx8 nx0;have ST:=fun h=>ST i A[i].pl.1 A[i].pl.2 h
    have e1:=hmo (ah (lk 2 A[i].kd).1 fX 0);have e2:=hmo (ah (lk 2 A[i].kd).1 fY 0);have hrow:(vd lk A[i]).row=[.str (w0 A[i].ws),.bool (w1 A[i].ws==qa),i6 (ah (lk 2 A[i].kd).1 fX 0),i6 (ah (lk 2 A[i].kd).1 fY 0),u (ah (lk 2 A[i].kd).1 eZ 0),i6 (ah (lk 2 A[i].kd).1 lH 0),i6 (ah (lk 2 A[i].kd).1 lI 0)]:=rfl;rw[hrow] at rai;clear hrow hk rat aat hmo hE8 hE0 S8;generalize ah (lk 2 A[i].kd).1 fX 0=vl,ah (lk 2 A[i].kd).1 fY 0=vs,ah (lk 2 A[i].kd).1 eZ 0=vf,ah (lk 2 A[i].kd).1 lH 0=vo,ah (lk 2 A[i].kd).1 lI 0=ve,w0 A[i].ws=wa,(w1 A[i].ws==qa)=wb,A[i].pl.1=pl,A[i].pl.2=pc at*;by_cases b1:vl%g≠0
    ·rw[nx8 (.inl b1)] at ST;rw[jm b1] at e1;simp[gi,g',gR,gA,rl,al,rai,aai,hC,hR,nCR,nRC,hg,hg',e1];refine aF _ _ (ST rfl) (by constructor<;>simp[hC,hR,nCR,nRC]) ?_
     simp[hC,hR,nCR,nRC];refine fin _ ?_;apply aj<;>simp[t1,hC,hR,nCR,nRC]
    rw[ik b1] at e1;by_cases b2:vs%g≠0
    ·rw[nx8 (.inr b2)] at ST;rw[jm b2] at e2;simp[gi,g',gR,gA,rl,al,rai,aai,hC,hR,nCR,nRC,hg,hg',e1,e2];refine aF _ _ (ST rfl) (by constructor<;>simp[hC,hR,nCR,nRC]) ?_
     simp[hC,hR,nCR,nRC];refine fin _ ?_;apply aj<;>simp[t1,hC,hR,nCR,nRC]
    rw[ik b2] at e2;have nx0:=nx0 (fun h=>h.elim b1 b2);simp[gi,g',gR,gA,rl,al,rai,aai,hC,hR,nCR,nRC,hg,hg',e1,e2];refine fin _ ?_;apply aj<;>simp[t1,hC,hR,nCR,nRC,nx0]
   ·obtain rfl:i=A.length:=by omega
    have e1:=hmo o;clear hk rat aat hmo nx8 nx0 ST;by_cases b1:o%g≠0
    ·rw[hE8 b1] at S8;rw[jm b1] at e1;simp[hC,hR,nCR,nRC,hg,hg',e1];refine aF _ _ (S8 rfl) (by constructor<;>simp[hC,hR,nCR,nRC]) ?_
     simp[hC,hR,nCR,nRC];refine bz ?_;constructor<;>simp[iC,iR,hC,hR,nCR,nRC]
    ·have hE0:=hE0 b1;rw[ik b1] at e1;simp[hC,hR,nCR,nRC,hg,hg',e1];refine bz ?_;constructor<;>simp[iC,iR,hC,hR,nCR,nRC,hE0]
  ·apply aj<;>simp[hC,hR,nCR,nRC,hRl0]
theorem zk (lk:Lk) {C:List It} {x:It} (h:x.nm≠ly):bU lk (C++[x])=bU lk C:=by
 unfold bU;rw[List.flatMap_append,List.flatMap_cons,if_neg h];simp
theorem uO (lk:Lk) {C:List It} {x:It} (h:x.nm=ly):bU lk (C++[x])=bU lk C++[mg lk x]:=by
 unfold bU;rw[List.flatMap_append,List.flatMap_cons,if_pos h];rfl
theorem C0 (lk:Lk) {C:List It} {x:It} (h:x.nm=ly):ed lk (C++[x])=ed lk C:=by
 unfold ed;rw[List.foldl_append];exact if_pos h
theorem GE (lk:Lk) {C:List It} {x:It} (h:x.nm≠ly):ed lk (C++[x])=(lk 3 x.kd).1:=by
 unfold ed;rw[List.foldl_append];exact if_neg h
theorem pU (lk:Lk) (C:List It):(bU lk C).length<=C.length:=jh _ (fun y=>by split<;>simp) C
theorem C1 (lk:Lk): ∀(C n:List It),kR 0 C->cR C vb=false->C.foldl (fun n y=>if y.nm=ly then n else (lk 3 y.kd).1) n=n
 |[],n,_,_=>rfl
 |y::C,n,hi,hh=>by
  unfold cR at hh;rw[List.any_cons,Bool.or_eq_false_iff] at hh;have hy:y.nm=ly:=by
   obtain ⟨p,hp,-⟩:=hi y (by simp);obtain ⟨hm,hn⟩:=iV hp;have h0: ∀p∈fZ 0,p.nm=ly\/p.nm=vb:=by decide
   rcases h0 p hm with e|e
   ·rw[<-hn,e]
   ·rw[<-hn,e] at hh;exact absurd hh.1 (by decide)
  rw[List.foldl_cons,if_pos hy];exact C1 lk C n (fun z hz=>hi z (by simp[hz])) hh.2
def jc (lk:Lk) (C:List It):List AV:=nO ((bU lk C).map Gl.row) (ed lk C)
theorem fH (lk:Lk) (C:List It):bR (jc lk C)=[]:=rfl
theorem LN {lk lk':Lk} (h: ∀L,lk 2 L=lk' 2 L) (k:List It):dj lk k=dj lk' k:=by
 unfold dj;congr 1
 funext y
 unfold vd;rw[h]
theorem LP (k:List It):nB k=(Ai.flt du k).map fun y=>[i6 y.pl.1,i6 y.pl.2]:=by
 unfold nB;rw[o5 du _ (fun y=>[[i6 y.pl.1,i6 y.pl.2]]) (fun y e=>if_pos e) (fun y e=>if_neg e) k];generalize Ai.flt du k=a;induction a with
 |nil=>rfl
 |cons x a ih=>rw[List.flatMap_cons,ih,gL];rfl
theorem D7 (lk:Lk) (g:Nat) (k:List It):cO lk g k=kL lk g (Ai.flt du k):=by
 unfold cO kL;refine o5 du _ _ (fun y e=>?_) (fun y e=>if_neg fun h=>e h.1) k;by_cases b:Bi lk g y
 ·rw[if_pos b,if_pos ⟨e,b⟩]
 ·rw[if_neg b,if_neg fun h=>b h.2]
theorem NC (lk:Lk) (n:List UInt8) (k:List It):pd lk n k=MA n (ah k gv 0) (ah k fC 60) (ah k jA 0) (ah k iv 0) (e9 k) ((dR k).map Lb.row) lk (Ai.flt du k):=by
 unfold pd MA;rw[qZ,LP,List.map_map];rfl
def Bj:jV:=⟨ly,[1],true,6,0,0⟩
theorem C2 (x:It):cz Bj x=(x.bk&&(x.ws.map Tk.k==[1])):=by
 unfold cz Bj;have e1:(ly==eZ)=false:=rfl;have e2:(ly !=du)=true:=rfl;have e3:(ly !=jj)=true:=rfl
 match x.ws with
 |[]=>simp[e7]
 |[a]=>simp[e7,e1,e2,e3]
 |_::_::_=>simp[e7]
theorem sD {x:It} (h:cz Bj x=true):x.bk=true/\ ∃a,x.ws=[a]/\a.k=1:=by
 rw[C2,aL] at h;refine ⟨h.1,?_⟩;have h2:=h.2
 match hw:x.ws with
 |[]=>rw[hw] at h2;simp at h2
 |[a]=>rw[hw] at h2;simp at h2;exact ⟨a,rfl,h2⟩
 |_::_::_=>rw[hw] at h2;simp at h2
theorem JL (g:Nat) (x:It) (L:List It):bu (ag (g+2)) 1 x (ag (g+2) 1 L).1=(if ah (ag (g+2) 1 L).1 gv 0=0\/Ai.flt du (ag (g+2) 1 L).1=[] then [x.ft 6] else [])++(kL (ag (g+1)) (ah (ag (g+2) 1 L).1 fC 60) (Ai.flt du (ag (g+2) 1 L).1)++(if ah (ag (g+2) 1 L).1 iv 0%ah (ag (g+2) 1 L).1 fC 60≠0 then [x.ft 8] else [])):=by
 have h:=Mh (ag (g+1)) (ag (g+1)) x L;rw[zf (lk':=ag (g+1)) (fun L=>kU (g+1) g (gp 2) L)];have e:ag (g+2) 1 L=L.foldl (aG (ag (g+1)) 1) ([],[]):=rfl;rw[e];rw[h,D7];have e2:(dj (ag (g+1)) (L.foldl (aG (ag (g+1)) 1) ([],[])).1=[])=(Ai.flt du (L.foldl (aG (ag (g+1)) 1) ([],[])).1=[]):=by
  rw[qZ,List.map_eq_nil_iff]
 simp only[e2]
theorem GF (C M A R:Id) (x:It) (Cs:List It) (f:List Ft) (g d:Nat) (hIC:kR 0 Cs) (hlc:Cs.length<=100000) (hx:zg x) (hl:bg x.kd<=1000) (hg:g<=18) (hf:f.length<=100000)
  (hM:M.isIt=true) (hMd:M.isNw d=false) (hC:C.isIt=false) (hCd:C.isNw d=false) (hA:A.isIt=false) (hAd:A.isNw d=false) (hR:R.isIt=false) (hRd:R.isNw d=false) (nCA:C≠A) (nCR:C≠R) (nAR:A≠R) (h0:aV 0 Cs x=0):
  bh Tryz.prog gl 24 d ⟨[b9 C M,.agg x.row,.ptr A 0,.ptr R 0],[(C,bY f),(M,ba (ar Cs)),(A,[.ptr C 0]),(R,jc (ag (g+2)) Cs)],[(.b C 0,3),(.b R 0,8)]⟩
   ⟨.tup [],[(C,bY (fN (ag (g+2)) x f)),(M,ba (ar (Cs++[x]))),(A,[.ptr C 0]),(R,jc (ag (g+2)) (Cs++[x]))],[(.b C 0,3),(.b R 0,8)]⟩:=by
 refine Sa rfl ?_;have iC:=ai hCd;have iM:=ai hMd;have iA:=ai hAd;have iR:=ai hRd;have nMC:M≠C:=fun e=>by rw[e,hC] at hM;cases hM
 have nCM:=nMC.symm;have nMA:M≠A:=fun e=>by rw[e,hA] at hM;cases hM
 have nAM:=nMA.symm;have nMR:M≠R:=fun e=>by rw[e,hR] at hM;cases hM
 have nRM:=nMR.symm;have nAC:=nCA.symm;have nRC:=nCR.symm;have nRA:=nAR.symm;obtain ⟨x1,x2,x3,x4,x5⟩:=pT hx;have U:=fun e d=>cu e d
 by_cases e0:x.nm=ly
 ·have hp:bK 0 x.nm=some Bj:=by rw[e0];rfl
  obtain ⟨q,hq,hfm⟩:=iw h0;rw[hp] at hq;cases hq;rw[ij hIC hp hfm (by decide)] at h0;obtain ⟨hbk,a,hws,hak⟩:=sD hfm;have ew0:w0 x.ws=a.t:=by rw[hws];rfl
  rw[ew0] at h0 x3;have NM:=fun h=>sg C.up M.up x a [] (ar Cs) 6 22 hM h hws hak h0 (by decide) (by rw[e0];show 9+_<=_;omega)
  have WO:=ic x [1] (by decide) x2;have hkk:(x.ws.map Tk.k==[1])=true:=by rw[hws];simp[hak]
  rw[hkk] at WO;have kk:ar (Cs++[x])=ar Cs++[dJ x.nm a.t]++[x.nm]:=by
   rw[lA];unfold lK;rw[e0,if_pos (show mh ly=true from rfl),ew0];simp
  have EP:=fun h h2=>D3 C.up (.n 25) x.kd a.t f g 32 hC h rfl h2 (by simp) x5 hl (by omega) (by omega)
  have ez:pd (ag (g+1)) a.t []=[.str a.t,.int .u32 0,i6 60,i6 0,i6 0,i6 0,.sl [],.sl [],.sl []]:=rfl;have hfl:=kK (g+2) 1 x.kd;have hmul:2*(g+2)*bg x.kd<=2*20*1000:=Nat.mul_le_mul (by omega) hl;have hcl:=eX (g+2) 1 x.kd;have hkl:=fL x.kd;have hfll:(Ai.flt du (ag (g+2) 1 x.kd).1).length<=100000:=by
   unfold Ai.flt;refine jH (List.length_filter_le _ _) ?_;omega
  have WH:=fun h h2=>wD C.up (.n 25) (Ai.flt du (ag (g+2) 1 x.kd).1) (ag (g+1)) x.pl.1 x.pl.2 (f++(ag (g+2) 1 x.kd).2) a.t (ah (ag (g+2) 1 x.kd).1 gv 0) (ah (ag (g+2) 1 x.kd).1 fC 60) (ah (ag (g+2) 1 x.kd).1 jA 0) (ah (ag (g+2) 1 x.kd).1 iv 0) (e9 (ag (g+2) 1 x.kd).1) ((dR (ag (g+2) 1 x.kd).1).map Lb.row) 37 (zc (g+2) x.kd) (by rw[gJ];omega) hfll hC h rfl h2 (by simp)
  have hft: ∀e,(⟨e,x.pl.1,x.pl.2⟩:Ft)=x.ft e:=fun e=>rfl
  simp only[hft] at WH;have hfn:fN (ag (g+2)) x f=f++(ag (g+2) 1 x.kd).2++bu (ag (g+2)) 1 x (ag (g+2) 1 x.kd).1:=by
   unfold fN;rw[show bQ x.nm=1 by rw[e0];rfl,if_neg (by decide),BU]
  have hgr:Gl.row (mg (ag (g+2)) x)=[.str a.t,.int .u32 (ah (ag (g+2) 1 x.kd).1 gv 0),i6 (ah (ag (g+2) 1 x.kd).1 fC 60),i6 (ah (ag (g+2) 1 x.kd).1 jA 0),i6 (ah (ag (g+2) 1 x.kd).1 iv 0),i6 (e9 (ag (g+2) 1 x.kd).1),.sl ((dR (ag (g+2) 1 x.kd).1).map Lb.row),.sl ((Ai.flt du (ag (g+2) 1 x.kd).1).map fun y=>(vd (ag (g+1)) y).row)]:=by
   unfold mg Gl.row;dsimp only;rw[ew0,LN (fun L=>(kU g (g+1) (gp 2) L).symm),qZ,List.map_map];rfl
  rw[hfn,JL,kk];unfold jc;rw[uO _ e0,C0 _ e0,List.map_append,gL,lS,hgr];unfold nO;simp only[NC] at EP;rw[<-NC,ez] at EP;unfold MA at EP WH;have g8: ∀r∈List.map Gl.row (bU (ag (g+2)) Cs),r.length=8:=fun r h=>by
   obtain ⟨y,_,rfl⟩:=nM.1 h;rfl
  have gll:(List.map Gl.row (bU (ag (g+2)) Cs)).length<=100000:=by rw[kp];exact jH (pU _ Cs) hlc
  have hlim:iQ=140737488355328:=rfl;have hbl:((List.map Gl.row (bU (ag (g+2)) Cs)).length+1)*104<=iQ:=by rw[hlim];omega
  generalize ag (g+2) 1 x.kd=k at*;generalize ah k.1 gv 0=vt,ah k.1 fC 60=vg,ah k.1 jA 0=va,ah k.1 iv 0=vo,e9 k.1=vc,List.map Lb.row (dR k.1)=VL at*;unfold ba b9 bY at*;generalize List.map Ft.row (f++k.2++((if vt=0\/Ai.flt du k.1=[] then [x.ft 6] else [])++(kL (ag (g+1)) vg (Ai.flt du k.1)++(if vo%vg≠0 then [x.ft 8] else []))))=FW,(Ai.flt du k.1).map (fun y=>(vd (ag (g+1)) y).row)=RX,(Ai.flt du k.1).map (fun y=>[i6 y.pl.1,i6 y.pl.2])=AX at*;generalize List.map Ft.row (f++k.2)=FK,List.map Ft.row f=FL,List.map Gl.row (bU (ag (g+2)) Cs)=GL,ed (ag (g+2)) Cs=nv at*;generalize ah nv iZ 16=nm1,ah nv jD 0=nm2,ah nv jE 10=nm3,ah nv jF 300=nm4,ah nv lJ 0=nm5 at*;simp only[au,hws,hbk,e0] at WO NM ⊢;generalize aI kS (aB (ar Cs++[dJ ly a.t]++[ly]))=G2 at*;generalize aI kS (aB (ar Cs))=G at*;obtain ⟨ak,at',an,al,ac⟩:=a;simp only[gL,lS,Tk.row] at*;generalize ae x.kd=KR,x.pl.1=pl,x.pl.2=pc at*;simp only[aw,aW,aO,AV.mp,aX,Pl.mp] at*;clear h0 hx hp hfm hkk kk hfl hmul hcl hkl hfll hft hfn hgr x1 x2 x3 x4 x5 hIC ez;unfold ly at*;simp[Iu];apply ab WO;simp;refine a6 _ _ (U 6 _) (by constructor<;>simp[hM,hC,hA,hR,nCA,nCR,nAR,nAC,nRC,nRA,nMC,nCM,nMA,nAM,nMR,nRM]) ?_
  simp[hM,hC,hA,hR,nCA,nCR,nAR,nAC,nRC,nRA,nMC,nCM,nMA,nAM,nMR,nRM];refine a6 _ _ (NM rfl) (by constructor<;>simp[hM,hC,hA,hR,nCA,nCR,nAR,nAC,nRC,nRA,nMC,nCM,nMA,nAM,nMR,nRM]) ?_
  simp[hM,hC,hA,hR,nCA,nCR,nAR,nAC,nRC,nRA,nMC,nCM,nMA,nAM,nMR,nRM];refine aF _ _ (EP rfl rfl) (by constructor<;>simp[hM,hC,hA,hR,nCA,nCR,nAR,nAC,nRC,nRA,nMC,nCM,nMA,nAM,nMR,nRM]) ?_
  simp[hM,hC,hA,hR,nCA,nCR,nAR,nAC,nRC,nRA,nMC,nCM,nMA,nAM,nMR,nRM];refine aF _ _ (WH rfl rfl) (by constructor<;>simp[hM,hC,hA,hR,nCA,nCR,nAR,nAC,nRC,nRA,nMC,nCM,nMA,nAM,nMR,nRM]) ?_
  simp[hM,hC,hA,hR,nCA,nCR,nAR,nAC,nRC,nRA,nMC,nCM,nMA,nAM,nMR,nRM,hbl];refine ⟨g8,?_⟩;refine bz ?_;constructor<;>simp[iC,iM,iA,iR,hM,hC,hA,hR,nCA,nCR,nAR,nAC,nRC,nRA,nMC,nCM,nMA,nAM,nMR,nRM]
 ·by_cases e1:x.nm=vb
  ·have hp:bK 0 x.nm=some wC:=by rw[e1];rfl
   have hno:=vw hp rfl h0;rw[e1] at hno;have hnn:ed (ag (g+2)) Cs=[]:=C1 _ Cs [] hIC hno;have hkl:=fL x.kd;have NO:=fun h h2 h3=>D5 C.up M.up R.up x Cs (List.map Gl.row (bU (ag (g+2)) Cs)) f (ag (g+1)) (ag (g+2)) 52 e1 (fun y hy=>(pT (mH x5 hy)).1) (by omega) (by omega) hM h hC h2 hR h3 (fun e=>nCR (by injection e)) h0
   have hfn:fN (ag (g+2)) x f=f++((x.kd.foldl (aG (ag (g+1)) 3) ([],[])).2++bu (ag (g+2)) 3 x (x.kd.foldl (aG (ag (g+1)) 3) ([],[])).1):=by
    unfold fN;rw[show bQ x.nm=3 by rw[e1];rfl,if_neg (by decide)];rfl
   rw[hfn];unfold jc;rw[zk _ e0,GE _ e0,hnn];have hl3:(ag (g+2) 3 x.kd).1=(x.kd.foldl (aG (ag (g+1)) 3) ([],[])).1:=rfl;rw[hl3];generalize (x.kd.foldl (aG (ag (g+1)) 3) ([],[]))=k at*;have q1:=lj (List.map Gl.row (bU (ag (g+2)) Cs)) [];have q2:=lj (List.map Gl.row (bU (ag (g+2)) Cs)) k.1;have q3:=fun g'=>aT (f:=g') q1
   have q4:=fun g'=>aT (f:=g') q2
   have q5:=a7 (nO (List.map Gl.row (bU (ag (g+2)) Cs)) []);generalize nO (List.map Gl.row (bU (ag (g+2)) Cs)) []=B1,nO (List.map Gl.row (bU (ag (g+2)) Cs)) k.1=B2 at*;unfold ba b9 bY at*;generalize List.map Ft.row (f++(k.2++bu (ag (g+2)) 3 x k.1))=FW,List.map Ft.row f=FL,aI kS (aB (ar (Cs++[x])))=G2,aI kS (aB (ar Cs))=G at*;simp only[au,e1] at NO ⊢;generalize ae x.kd=KR,List.map Tk.row x.ws=WR,x.pl.1=pl,x.pl.2=pc,x.bk=bk at*;simp only[aw,aW,aO,AV.mp,aX,Pl.mp,q3,q4] at NO ⊢;clear h0 hx hp hfn hkl x1 x2 x3 x4 x5 hIC hno hnn e0 e1 hl3;unfold vb at*;simp[Iu];refine a6 _ _ (NO rfl rfl rfl) (by constructor<;>simp[hM,hC,hA,hR,nCA,nCR,nAR,nAC,nRC,nRA,nMC,nCM,nMA,nAM,nMR,nRM,q1,q2,q3,q4,q5]) ?_
   simp[hM,hC,hA,hR,nCA,nCR,nAR,nAC,nRC,nRA,nMC,nCM,nMA,nAM,nMR,nRM];refine bz ?_;constructor<;>simp[iC,iM,iA,iR,hM,hC,hA,hR,nCA,nCR,nAR,nAC,nRC,nRA,nMC,nCM,nMA,nAM,nMR,nRM,q1,q2,q3,q4,q5]
  ·exfalso;rw[go (by simp[bK,fZ,Ne.symm e0,Ne.symm e1])] at h0;cases h0
theorem GG (C M A R:Id) (x:It) (Cs:List It) (f:List Ft) (g d:Nat) (hIC:kR 0 Cs) (hx:zg x)
  (hM:M.isIt=true) (hMd:M.isNw d=false) (hC:C.isIt=false) (hCd:C.isNw d=false) (hA:A.isIt=false) (hAd:A.isNw d=false) (hR:R.isIt=false) (hRd:R.isNw d=false) (nCA:C≠A) (nCR:C≠R) (nAR:A≠R) (h0:aV 0 Cs x≠0):
  dK Tryz.prog gl 24 d ⟨[b9 C M,.agg x.row,.ptr A 0,.ptr R 0],[(C,bY f),(M,ba (ar Cs)),(A,[.ptr C 0]),(R,jc (ag (g+2)) Cs)],[(.b C 0,3),(.b R 0,8)]⟩
   ⟨bN (aV 0 Cs x),[(C,bY f),(M,ba (ar Cs)),(A,[.ptr C 0]),(R,jc (ag (g+2)) Cs)],[(.b C 0,3),(.b R 0,8)]⟩:=by
 refine t24 rfl ?_;have iC:=ai hCd;have iM:=ai hMd;have iA:=ai hAd;have iR:=ai hRd;have nMC:M≠C:=fun e=>by rw[e,hC] at hM;cases hM
 have nCM:=nMC.symm;have nMA:M≠A:=fun e=>by rw[e,hA] at hM;cases hM
 have nAM:=nMA.symm;have nMR:M≠R:=fun e=>by rw[e,hR] at hM;cases hM
 have nRM:=nMR.symm;have nAC:=nCA.symm;have nRC:=nCR.symm;have nRA:=nAR.symm;obtain ⟨x1,x2,x3,x4,x5⟩:=pT hx;have U:=fun e d=>cu e d
 have UT:=fun e d=>fp e d
 have WO:=ic x [1] (by decide) x2;by_cases e0:x.nm=ly
 ·have hp:bK 0 x.nm=some Bj:=by rw[e0];rfl
  cases hfm:cz Bj x with
  |false=>
   rw[ii hp hfm];rw[C2] at hfm;clear h0;cases hb:x.bk with
   |false=>
    rw[au,hb,e0];have q1:=fH (ag (g+2)) Cs;have q3:=fun g'=>aT (f:=g') q1
    have q5:=a7 (jc (ag (g+2)) Cs);generalize jc (ag (g+2)) Cs=B at*;unfold ba b9 bY bN at*;generalize List.map Ft.row f=FL,aI kS (aB (ar Cs))=G,ae x.kd=KR,List.map Tk.row x.ws=WR at*;simp only[aw,aW,aO,AV.mp,aX,Pl.mp,q3];unfold ly;simp[Iu];refine bC _ _ (UT 6 _) (by constructor<;>simp[hM,hC,hA,hR,nCA,nCR,nAR,nAC,nRC,nRA,nMC,nCM,nMA,nAM,nMR,nRM,q1,q3,q5]) rfl ?_
    refine ⟨rfl,by simp,?_⟩;constructor<;>simp[iC,iM,iA,iR,hM,hC,hA,hR,nCA,nCR,nAR,nAC,nRC,nRA,nMC,nCM,nMA,nAM,nMR,nRM,q1,q3,q5]
   |true=>
    rw[hb] at hfm;have hk:(x.ws.map Tk.k==[1])=false:=by simpa using hfm
    rw[au,hb,hk,e0] at WO;simp only[gL,lS] at WO;rw[au,hb,e0];have q1:=fH (ag (g+2)) Cs;have q3:=fun g'=>aT (f:=g') q1
    have q5:=a7 (jc (ag (g+2)) Cs);generalize jc (ag (g+2)) Cs=B at*;unfold ba b9 bY bN at*;generalize List.map Ft.row f=FL,aI kS (aB (ar Cs))=G,ae x.kd=KR,List.map Tk.row x.ws=WR at*;simp only[aw,aW,aO,AV.mp,aX,Pl.mp,q3];unfold ly at*;simp[Iu];apply ab WO;simp;refine bC _ _ (UT 6 _) (by constructor<;>simp[hM,hC,hA,hR,nCA,nCR,nAR,nAC,nRC,nRA,nMC,nCM,nMA,nAM,nMR,nRM,q1,q3,q5]) rfl ?_
    refine ⟨rfl,by simp,?_⟩;constructor<;>simp[iC,iM,iA,iR,hM,hC,hA,hR,nCA,nCR,nAR,nAC,nRC,nRA,nMC,nCM,nMA,nAM,nMR,nRM,q1,q3,q5]
  |true=>
   have hc:=ij hIC hp hfm (by decide);obtain ⟨hbk,a,hws,hak⟩:=sD hfm;have ew0:w0 x.ws=a.t:=by rw[hws];rfl
   rw[ew0] at hc x3;have hc:aV 0 Cs x=Gn (ar Cs) x.nm a.t 6:=hc;rw[hc] at h0 ⊢;have NM:=fun h=>sj C.up M.up x a [] (ar Cs) 6 22 hM h hws hak h0 (by rw[e0];show 9+_<=_;omega)
   have hkk:(x.ws.map Tk.k==[1])=true:=by rw[hws];simp[hak]
   rw[hkk] at WO;generalize Gn (ar Cs) x.nm a.t 6=e at*;simp only[au,hws,hbk,e0] at WO NM ⊢;obtain ⟨ak,at',an,al,ac⟩:=a;simp only[gL,lS,Tk.row] at*;have q1:=fH (ag (g+2)) Cs;have q3:=fun g'=>aT (f:=g') q1
   have q5:=a7 (jc (ag (g+2)) Cs);generalize jc (ag (g+2)) Cs=B at*;unfold ba b9 bY bN at*;generalize List.map Ft.row f=FL,aI kS (aB (ar Cs))=G,ae x.kd=KR,x.pl.1=pl,x.pl.2=pc at*;simp only[aw,aW,aO,AV.mp,aX,Pl.mp,q3] at NM WO ⊢;clear hkk hfm hp hIC h0 ew0 x3 hc hws hx x4 x5;unfold ly at*;simp[Iu];apply ab WO;simp;refine a6 _ _ (U 6 _) (by constructor<;>simp[hM,hC,hA,hR,nCA,nCR,nAR,nAC,nRC,nRA,nMC,nCM,nMA,nAM,nMR,nRM,q1,q3,q5]) ?_
   simp[hM,hC,hA,hR,nCA,nCR,nAR,nAC,nRC,nRA,nMC,nCM,nMA,nAM,nMR,nRM];refine bC _ _ (NM rfl) (by constructor<;>simp[hM,hC,hA,hR,nCA,nCR,nAR,nAC,nRC,nRA,nMC,nCM,nMA,nAM,nMR,nRM,q1,q3,q5]) rfl ?_
   refine ⟨rfl,by simp,?_⟩;constructor<;>simp[iC,iM,iA,iR,hM,hC,hA,hR,nCA,nCR,nAR,nAC,nRC,nRA,nMC,nCM,nMA,nAM,nMR,nRM,q1,q3,q5]
 ·by_cases e1:x.nm=vb
  ·have NO:=fun h=>D6 C.up M.up R.up x Cs [] f 52 e1 hM h h0
   generalize aV 0 Cs x=e at*;have q1:=fH (ag (g+2)) Cs;have q3:=fun g'=>aT (f:=g') q1
   have q5:=a7 (jc (ag (g+2)) Cs);generalize jc (ag (g+2)) Cs=B at*;unfold ba b9 bY bN at*;generalize List.map Ft.row f=FL,aI kS (aB (ar Cs))=G at*;simp only[au,e1] at NO ⊢;generalize ae x.kd=KR,List.map Tk.row x.ws=WR,x.pl.1=pl,x.pl.2=pc,x.bk=bk at*;simp only[aw,aW,aO,AV.mp,aX,Pl.mp,q3] at NO ⊢;clear h0 hx WO x1 x2 x3 x4 x5 hIC e0 e1;unfold vb at*;simp[Iu];refine bC _ _ (NO rfl) (by constructor<;>simp[hM,hC,hA,hR,nCA,nCR,nAR,nAC,nRC,nRA,nMC,nCM,nMA,nAM,nMR,nRM,q1,q3,q5]) rfl ?_
   refine ⟨rfl,by simp,?_⟩;constructor<;>simp[iC,iM,iA,iR,hM,hC,hA,hR,nCA,nCR,nAR,nAC,nRC,nRA,nMC,nCM,nMA,nAM,nMR,nRM,q1,q3,q5]
  ·rw[go (by simp[bK,fZ,Ne.symm e0,Ne.symm e1])];clear h0;have b0:(x.nm==ly)=false:=bJ.2 e0;have b1:(x.nm==vb)=false:=bJ.2 e1;rw[au];have q1:=fH (ag (g+2)) Cs;have q3:=fun g'=>aT (f:=g') q1
   have q5:=a7 (jc (ag (g+2)) Cs);generalize jc (ag (g+2)) Cs=B at*;unfold ba b9 bY bN at*;generalize List.map Ft.row f=FL,aI kS (aB (ar Cs))=G,x.nm=nm,ae x.kd=KR,List.map Tk.row x.ws=WR at*;simp only[aw,aW,aO,AV.mp,aX,Pl.mp,q3];unfold ly vb at*;simp[Iu,b0,b1];refine ⟨rfl,by simp,?_⟩;constructor<;>simp[iC,iM,iA,iR,hM,hC,hA,hR,nCA,nCR,nAR,nAC,nRC,nRA,nMC,nCM,nMA,nAM,nMR,nRM,q1,q3,q5]
mutual
def uP:It->Nat->List (List AV)
 | .mk n ws b ks ln co,d=>[i6 d,.agg [.str n,.sl (ws.map Tk.row),.bool b,.sl (ae ks),i6 ln,i6 co]]::cL ks (d+1)
def cL:List It->Nat->List (List AV)
 |[],_=>[]
 |x::r,d=>uP x d++cL r d
end
theorem pV: ∀(a b:List It) (d:Nat),cL (a++b) d=cL a d++cL b d
 |[],b,d=>rfl
 |x::a,b,d=>by rw[cT,cL,cL,pV a b,BU]
end Go.Ai
