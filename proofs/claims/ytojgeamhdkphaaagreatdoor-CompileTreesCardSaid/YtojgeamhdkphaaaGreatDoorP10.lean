/- P10: a part of the proof. Conditions: as each theorem says. -/
import Derived.Test.YtojgeamhdkphaaaGreatDoorP9
set_option maxHeartbeats 4000000
set_option linter.unusedSimpArgs false
set_option linter.unusedVariables false
set_option maxRecDepth 20000
namespace Go.Ai
open Go.Proofs
def bN (e:Int):AV:= .ifc 37 (i6 e)
theorem cu (e:Int) (d:Nat):bh Tryz.prog gl 25 d ⟨[.bool true,i6 e],[],[]⟩ ⟨.tup [],[],[]⟩:=by
 refine TU rfl ?_;simp only[aw,aW,aO,AV.mp,aX,Pl.mp];simp[MG];refine bz ?_;constructor<;>simp
theorem fp (e:Int) (d:Nat):dK Tryz.prog gl 25 d ⟨[.bool false,i6 e],[],[]⟩ ⟨bN e,[],[]⟩:=by
 refine TS rfl ?_;simp only[bN,aw,aW,aO,AV.mp,aX,Pl.mp];simp[MG];refine ⟨rfl,by simp,?_⟩;constructor<;>simp
def tT (t:Tk):AV:=
 if t.k=1 then .ifc 104 (.str t.t)
 else if t.k=2 then .ifc 109 (.str t.t)
 else if t.k=3 then .ifc 134 (u t.n)
 else if t.k=4 then .ifc 135 (u t.n)
 else if t.k=5 then .ifc 136 (u t.n)
 else .ifc 137 (u t.n)
theorem lg (t:Tk):Sp Tryz.prog gl 45 [.agg t.row] (tT t):=by
 refine Um rfl rfl ?_;obtain ⟨k,s,n,l,c⟩:=t;unfold tT;simp only[Tk.row];simp[Sw];by_cases h1:k=1
 ·subst h1;simp
 have b1:(k==1)=false:=by simpa using h1
 rw[if_neg h1];simp[b1];by_cases h2:k=2
 ·subst h2;simp
 have b2:(k==2)=false:=by simpa using h2
 rw[if_neg h2];simp[b2];by_cases h3:k=3
 ·subst h3;simp
 have b3:(k==3)=false:=by simpa using h3
 rw[if_neg h3];simp[b3];by_cases h4:k=4
 ·subst h4;simp
 have b4:(k==4)=false:=by simpa using h4
 rw[if_neg h4];simp[b4];by_cases h5:k=5
 ·subst h5;simp
 have b5:(k==5)=false:=by simpa using h5
 rw[if_neg h5];simp[b5]
theorem Gm (t:Tk):(tT t).ids=[]:=by
 unfold tT;repeat' split
 all_goals simp[AV.ids]
theorem dX (x:It) (t:Tk) (d:Nat) (hb:x.bk=false) (hw:x.ws=[t]):bh Tryz.prog gl 75 d ⟨[.agg x.row],[],[]⟩ ⟨tT t,[],[]⟩:=by
 refine US rfl ?_;have V:=fun d=>(lg t).h (d:=d)
 have U:=fun d=>cu 6 d
 rw[au,hb,hw];have hid:=Gm t;have hmp:=fun f=>ju (f:=f) hid
 generalize tT t=W at*;obtain ⟨k,s,n,l,c⟩:=t;generalize ae x.kd=KR at*;simp only[gL,lS,Tk.row,aw,aW,aO,AV.mp,aX,Pl.mp] at*;simp[MJ];refine a6 _ _ (U _) (by constructor<;>simp) ?_
 simp;refine bB _ _ (V _) ?_;simp;apply am<;>simp[hid,hmp]
theorem pP (x:It) (d:Nat) (h:x.bk=true\/x.ws.length≠1):dK Tryz.prog gl 75 d ⟨[.agg x.row],[],[]⟩ ⟨bN 6,[],[]⟩:=by
 refine t75 rfl ?_;have U:=fun d=>fp 6 d
 unfold bN at*;rw[au];generalize ae x.kd=KR at*;simp only[aw,aW,aO,AV.mp,aX,Pl.mp] at*;simp[MJ];cases hb:x.bk with
 |true=>
  simp;refine bC _ _ (U _) (by constructor<;>simp) rfl ?_
  refine ⟨rfl,by simp,?_⟩;constructor<;>simp
 |false=>
  have hl:x.ws.length≠1:=by
   rcases h with h|h
   ·rw[hb] at h;cases h
   ·exact h
  have hl':((x.ws.length:Int)==1)=false:=bJ.2 (by omega);simp[hl'];refine bC _ _ (U _) (by constructor<;>simp) rfl ?_
  refine ⟨rfl,by simp,?_⟩;constructor<;>simp
theorem iI (a b:Nat):(a:Int).tmod (b:Int)=((a%b:Nat):Int):=rfl
def jR (lk:Lk) (w:Nat) (L:List It):Prop:=Sp Tryz.prog gl 32 [i6 w,.sl (ae L)] (.tup [.sl (ae (lk w L).1),.sl ((lk w L).2.map Ft.row)])
theorem eW (l:List Ft): ∀r∈l.map Ft.row,r.length=3:=fun r h=>by
 obtain ⟨x,_,rfl⟩:=nM.1 h;rfl
theorem Jv (l:List Ft) (x:Ft):l.map Ft.row++[[i6 x.e,i6 x.l,i6 x.c]]=(l++[x]).map Ft.row:=by rw[List.map_append];rfl
theorem we (lk:Lk) (x:It) (k:List It) (hl:k.length<=100000):Sp Tryz.prog gl 56 [i6 2,.agg x.row,.sl (ae k)] (.sl ((bu lk 2 x k).map Ft.row)):=by
 rw[au];refine Pp rfl rfl ?_;have hlim:(24:Nat)<=iQ:=by decide
 have H1:=kQ k fX hl;have H2:=kQ k fY hl;have H3:=kQ k eZ hl;have G1:=dA k fY 0 hl;have G2:=dA k fX 0 hl;have e:bu lk 2 x k=if cR k fX=false\/cR k fY=false\/cR k eZ=false then [x.ft 6] else if ah k fX 0<ah k fY 0 then [x.ft 8] else []:=by
  unfold bu;rw[if_neg (by decide),if_pos rfl]
 rw[e];clear e;have ef: ∀c,(x.ft c).row=[i6 c,i6 x.pl.1,i6 x.pl.2]:=fun c=>rfl
 have eR:((if cR k fX=false\/cR k fY=false\/cR k eZ=false then [x.ft 6] else if ah k fX 0<ah k fY 0 then [x.ft 8] else []).map Ft.row)=if cR k fX=false\/cR k fY=false\/cR k eZ=false then [[i6 6,i6 x.pl.1,i6 x.pl.2]] else if ah k fX 0<ah k fY 0 then [[i6 8,i6 x.pl.1,i6 x.pl.2]] else []:=by
  split
  ·rfl
  ·split<;>rfl
 rw[eR];clear eR ef;generalize ae x.kd=KR,x.ws.map Tk.row=XW,x.nm=xn,x.bk=xb,x.pl.1=p1,x.pl.2=p2,ae k=KK,ah k fY 0=g1,ah k fX 0=g2,cR k fX=b1,cR k fY=b2,cR k eZ=b3 at*;simp only[fX,fY,eZ] at H1 H2 H3 G1 G2;by_cases c:b1=false\/b2=false\/b3=false
 ·rw[if_pos c];cases b1 with
  |false=>
   simp[E2];apply ab H1;simp[hlim]
  |true=>
  cases b2 with
  |false=>
   simp[E2];apply ab H1;simp[hlim];apply ab H2;simp[hlim]
  |true=>
  cases b3 with
  |false=>
   simp[E2];apply ab H1;simp[hlim];apply ab H2;simp[hlim];apply ab H3;simp[hlim]
  |true=>simp at c
 ·rw[if_neg c];simp only[not_or,Bool.not_eq_false] at c;obtain ⟨rfl,rfl,rfl⟩:=c;by_cases d:g2<g1
  ·have d':(g2:Int)<g1:=by omega
   rw[if_pos d];simp[E2];apply ab H1;simp[hlim];apply ab H2;simp[hlim];apply ab H3;simp[hlim];apply ab G1;simp[hlim];apply ab G2;simp[d,d',hlim]
  ·have d': ¬(g2:Int)<g1:=by omega
   rw[if_neg d];simp[E2];apply ab H1;simp[hlim];apply ab H2;simp[hlim];apply ab H3;simp[hlim];apply ab G1;simp[hlim];apply ab G2;simp[d,d',hlim]
theorem wj (lk:Lk) (x:It) (k:List It) (hl:k.length<=100000):Sp Tryz.prog gl 56 [i6 3,.agg x.row,.sl (ae k)] (.sl ((bu lk 3 x k).map Ft.row)):=by
 rw[au];refine Pp rfl rfl ?_;have hlim:(24:Nat)<=iQ:=by decide
 have G1:=dA k jD 0 hl;have G2:=dA k iZ 16 hl;have G3:=dA k jF 300 hl;have G4:=dA k jE 10 hl;have e:bu lk 3 x k=if ah k iZ 16<ah k jD 0\/ah k jF 300<ah k jE 10 then [x.ft 8] else []:=by
  unfold bu;rw[if_neg (by decide),if_neg (by decide),if_pos rfl]
 rw[e];clear e;have eR:((if ah k iZ 16<ah k jD 0\/ah k jF 300<ah k jE 10 then [x.ft 8] else []).map Ft.row)=if ah k iZ 16<ah k jD 0\/ah k jF 300<ah k jE 10 then [[i6 8,i6 x.pl.1,i6 x.pl.2]] else []:=by
  split<;>rfl
 rw[eR];clear eR;generalize ae x.kd=KR,x.ws.map Tk.row=XW,x.nm=xn,x.bk=xb,x.pl.1=p1,x.pl.2=p2,ae k=KK,ah k jD 0=g1,ah k iZ 16=g2,ah k jF 300=g3,ah k jE 10=g4 at*;simp only[jD,iZ,jF,jE] at G1 G2 G3 G4;by_cases d:g2<g1
 ·have d':(g2:Int)<g1:=by omega
  rw[if_pos (.inl d)];simp[E2];apply ab G1;simp[hlim];apply ab G2;simp[d,d',hlim]
 ·have d': ¬(g2:Int)<g1:=by omega
  by_cases d2:g3<g4
  ·have d2':(g3:Int)<g4:=by omega
   rw[if_pos (.inr d2)];simp[E2];apply ab G1;simp[hlim];apply ab G2;simp[d,d',hlim];apply ab G3;simp[hlim];apply ab G4;simp[d2,d2',hlim]
  ·have d2': ¬(g3:Int)<g4:=by omega
   rw[if_neg (by omega)];simp[E2];apply ab G1;simp[hlim];apply ab G2;simp[d,d',hlim];apply ab G3;simp[hlim];apply ab G4;simp[d2,d2',hlim]
def b9 (C M:Id):AV:= .agg [.ptr C 0,.mref M]
def ba (K:List (List UInt8)):List AV:=[.mpv (aI kS (aB K))]
def bY (f:List Ft):List AV:=[.sl (f.map Ft.row)]
theorem ib (C:Id) (e l c:Int) (f:List Ft) (d:Nat) (hb:C.isIt=false) (hbd:C.isNw d=false) (hl:f.length<=10000000):bh Tryz.prog gl 22 d ⟨[.ptr C 0,i6 e,.agg [i6 l,i6 c]],[(C,bY f)],[(.b C 0,3)]⟩ ⟨.tup [],[(C,bY (f++[⟨e,l,c⟩]))],[(.b C 0,3)]⟩:=by
 refine TQ rfl ?_;have hib:=ai hbd;have hlim:iQ=140737488355328:=rfl;have h3:=eW f;have hll:((f.map Ft.row).length+1)*24<=iQ:=by rw[hlim,kp];omega
 unfold bY;rw[<-Jv f ⟨e,l,c⟩];generalize f.map Ft.row=F at*;simp only[aw,aW,aO,AV.mp,aX,Pl.mp];simp[R8];refine ⟨hll,h3,?_⟩;refine bz ?_;constructor<;>simp[hib,hb]
def jb (K:List (List UInt8)) (n:List UInt8) (v lo hi:Nat):Int:=if K.count n≠0 then 18 else if v<lo\/hi<v then 8 else 0
theorem mE (C M:Id) (x:It) (K:List (List UInt8)) (v lo hi:Nat) (d:Nat) (hm:M.isIt=true) (hmd:M.isNw d=false) (h0:jb K x.nm v lo hi=0):
  bh Tryz.prog gl 50 d ⟨[b9 C M,.agg x.row,u v,u lo,u hi],[(M,ba K)],[]⟩ ⟨u v,[(M,ba (K++[x.nm]))],[]⟩:=by
 refine Uu rfl ?_;have hib:=ai hmd;have w1:IntKind.i64.wrap 1=1:=by rw[ay]<;>omega
 have U:=fun e d=>cu e d
 have h1:K.count x.nm=0/\lo<=v/\v<=hi:=by
  unfold jb at h0;split at h0
  ·cases h0
  ·split at h0
   ·cases h0
   ·omega
 obtain ⟨k0,k1,k2⟩:=h1;have k1':(lo:Int)<=v:=by omega
 have k2':(v:Int)<=hi:=by omega
 rcases f8 K x.nm with ⟨a,q1,q2,q3⟩|⟨j,a,q1,q2⟩
 ·unfold ba b9;rw[q2];rw[au];generalize aI kS (aB K)=G,(aB K).length=j,x.nm=nm,ae x.kd=KR,List.map Tk.row x.ws=WR,x.pl.1=pl,x.pl.2=pc,x.bk=bk at*;simp only[kS] at q1 q2 q3 ⊢;simp only[aw,aW,aO,AV.mp,aX,Pl.mp] at*;simp[Mk,hm,q1];refine a6 _ _ (U 18 _) (by constructor<;>simp[hm]) ?_
  simp[k1,k2,k1',k2'];refine a6 _ _ (U 8 _) (by constructor<;>simp[hm]) ?_
  simp[hm,q1,w1];apply am<;>simp[hib,hm]
 ·omega
theorem mG (C M:Id) (x:It) (K:List (List UInt8)) (v lo hi:Nat) (d:Nat) (hm:M.isIt=true) (hmd:M.isNw d=false) (h0:jb K x.nm v lo hi≠0):
  dK Tryz.prog gl 50 d ⟨[b9 C M,.agg x.row,u v,u lo,u hi],[(M,ba K)],[]⟩ ⟨bN (jb K x.nm v lo hi),[(M,ba K)],[]⟩:=by
 refine Ut rfl ?_;have hib:=ai hmd;have U:=fun e d=>cu e d
 have UT:=fun e d=>fp e d
 have key:=f8 K x.nm;rw[au];unfold ba b9 bN at*;unfold jb at*;generalize aI kS (aB K)=G,x.nm=nm,ae x.kd=KR,List.map Tk.row x.ws=WR,x.pl.1=pl,x.pl.2=pc,x.bk=bk at*;simp only[kS] at key;simp only[aw,aW,aO,AV.mp,aX,Pl.mp] at*;rcases key with ⟨a,q1,-,-⟩|⟨j,a,q1,-⟩
 ·rw[if_neg (by omega)] at h0 ⊢;have hr:v<lo\/hi<v:=Decidable.byContradiction fun g=>h0 (if_neg g)
  rw[if_pos hr];clear h0;simp[Mk,hm,q1];refine a6 _ _ (U 18 _) (by constructor<;>simp[hm]) ?_
  by_cases g:(lo:Int)<=v
  ·have g2: ¬(v:Int)<=hi:=by omega
   simp[g,g2];refine bC _ _ (UT 8 _) (by constructor<;>simp[hm]) rfl ?_
   refine ⟨rfl,by simp,?_⟩;constructor<;>simp[hib,hm]
  ·simp[g];refine bC _ _ (UT 8 _) (by constructor<;>simp[hm]) rfl ?_
   refine ⟨rfl,by simp,?_⟩;constructor<;>simp[hib,hm]
 ·rw[if_pos (by omega)];have a':(((List.count nm K:Nat):Int)==0)=false:=bJ.2 (by omega);clear h0;simp[Mk,hm,q1,a'];refine bC _ _ (UT 18 _) (by constructor<;>simp[hm]) rfl ?_
  refine ⟨rfl,by simp,?_⟩;constructor<;>simp[hib,hm]
theorem ic (x:It) (ks:List Int) (hk:ks.length<=100000) (hw:x.ws.length<=100000):Sp Tryz.prog gl 26 [.agg x.row,.sl (ks.map fun k=>[i6 k])] (.bool (x.ws.map Tk.k==ks)):=by
 refine TW rfl (by rw[au];rfl) ?_;rw[au];generalize x.nm=nm,ae x.kd=KR,x.pl.1=pl,x.pl.2=pc,x.bk=bk,x.ws=ws at*;simp[Sd];by_cases hl:ws.length=ks.length
 ·have hl':((ws.length:Int)!=ks.length)=false:=by simp[hl]
  simp[hl'];obtain ⟨B,hB⟩: ∃B,B=(ws.map Tk.k==ks):=⟨_,rfl⟩;rw[<-hB];have rat: ∀(i:Nat) (h:i<ws.length) (h2:i<(ws.map Tk.row).length),(ws.map Tk.row)[i]=ws[i].row:=fun i h h2=>List.getElem_map _
  have kat: ∀(i:Nat) (h:i<ks.length) (h2:i<(ks.map fun k=>[i6 k]).length),(ks.map fun k=>[i6 k])[i]=[i6 ks[i]]:=fun i h h2=>List.getElem_map _
  have hWl:(ws.map Tk.row).length=ws.length:=kp _;have hKl:(ks.map fun k=>[i6 k]).length=ks.length:=kp _;generalize List.map Tk.row ws=WR,(List.map (fun k=>[i6 k]) ks)=KK at*;refine aY (α:=Nat) (fun i=>⟨[(1,.sl KK),(2,.ptr (.n 2) 0),(13,.sl KK),(14,i6 ks.length),(15,i6 i)],[(.n 2,[.str nm,.sl WR,.bool bk,.sl KR,i6 pl,i6 pc])],[]⟩) (fun i=>i<=ks.length/\B=((ws.drop i).map Tk.k==ks.drop i)) (fun i=>ks.length - i) ?_ 0 ⟨gN _,by rw[xj,xj];exact hB⟩ ?_
  ·rintro K i hK ⟨h1,h2⟩;by_cases g:i<ks.length
   ·have t1:IntKind.i64.wrap ((i:Int)+1)=(i+1:Nat):=by rw[ay]<;>omega
    have g':(i:Int)<ks.length:=by omega
    have gw:i<ws.length:=by omega
    have gR:i<WR.length:=by omega
    have gK:i<KK.length:=by omega
    have rai:=rat i gw gR;have kai:=kat i g gK;rw[rb g,rb gw,gL] at h2;have fin:=fun h4 σ' hσ=>hK (i+1) σ' ⟨by omega,h4⟩ (by omega) hσ
    clear hK rat kat hB;generalize ws[i]=w,ks[i]=k at*;obtain ⟨wk,wt,wn,wl,wc⟩:=w;simp only[Tk.row] at rai h2;by_cases e:wk=k
    ·have e':(wk !=k)=false:=by simp[e]
     subst e;have h2:B=((ws.drop (i+1)).map Tk.k==ks.drop (i+1)):=by rw[h2];simp
     simp[g,g',gw,gR,gK,rai,kai,e'];refine fin h2 _ ?_;apply aj<;>simp[t1]
    ·have e':(wk !=k)=true:=by simpa using e
     have h2:B=false:=by rw[h2];simp[e]
     subst h2;simp[g,g',gw,gR,gK,rai,kai,e',hWl]
   ·obtain rfl:i=ks.length:=by omega
    rw[xA,IP (by omega)] at h2;have h2:B=true:=h2;subst h2;clear hK;simp
  ·apply aj<;>simp[hKl]
 ·have hl':((ws.length:Int)!=ks.length)=true:=by simpa using fun h=>hl (by omega)
  have hB:(ws.map Tk.k==ks)=false:=by
   rw[bJ];intro h;exact hl (by rw[<-h,kp])
  rw[hB];generalize List.map Tk.row ws=WR at*;simp[hl']
def Gn (K:List (List UInt8)) (n w:List UInt8) (most:Nat):Int:=if K.count (dJ n w)≠0 then 18 else if most<=K.count n then 9 else 0
theorem Jw (n w:List UInt8):dJ n w≠n:=fun h=>by
 have:=congrArg List.length h
 unfold dJ at this;rw[gJ,jG] at this;omega
theorem sg (C M:Id) (x:It) (t:Tk) (r:List Tk) (K:List (List UInt8)) (most:Nat) (d:Nat) (hm:M.isIt=true) (hmd:M.isNw d=false) (hw:x.ws=t::r) (hk:t.k=1) (h0:Gn K x.nm t.t most=0) (hmo:most<=1000) (hl:x.nm.length+t.t.length<=100000000):
  bh Tryz.prog gl 27 d ⟨[b9 C M,.agg x.row,i6 most],[(M,ba K)],[]⟩ ⟨.str t.t,[(M,ba (K++[dJ x.nm t.t]++[x.nm]))],[]⟩:=by
 refine TY rfl ?_;have hib:=ai hmd;have w1:IntKind.i64.wrap 1=1:=by rw[ay]<;>omega
 have U:=fun e d=>cu e d
 have V:=fun d=>(lg t).h (d:=d)
 have hne:=Jw x.nm t.t;have L1:x.nm.length<=9223372036854775806:=by omega
 have L2:x.nm.length+1+t.t.length<=9223372036854775807:=by omega
 have h1:K.count (dJ x.nm t.t)=0/\K.count x.nm<most:=by
  unfold Gn at h0;split at h0
  ·cases h0
  ·split at h0
   ·cases h0
   ·omega
 obtain ⟨k0,k1⟩:=h1;have k1':((K.count x.nm:Nat):Int)<most:=by omega
 have kc:(K++[dJ x.nm t.t]).count x.nm=K.count x.nm:=by
  rw[List.count_append,List.count_singleton,if_neg (by simpa using hne)];rfl
 have hw2:IntKind.i64.wrap (((K.count x.nm:Nat):Int)+1)=((K.count x.nm+1:Nat):Int):=by rw[ay]<;>omega
 have ke1:=f8 K (dJ x.nm t.t);have ke2:=f8 K x.nm;have ke3:=f8 (K++[dJ x.nm t.t]) x.nm;rw[kc] at ke3;rw[au,hw];unfold tT at V;rw[if_pos hk] at V;have hf:x.nm++32::t.t=dJ x.nm t.t:=rfl;unfold ba b9 at*;generalize dJ x.nm t.t=fu at*;rcases ke1 with ⟨a,q1,q2,q3⟩|⟨j,a,q1,q2⟩
 rotate_left
 ·omega
 rw[q2] at ke3;generalize aI kS (aB (K++[fu]++[x.nm]))=G2,aI kS (aB K)=G at*;generalize x.nm=nm,ae x.kd=KR,x.pl.1=pl,x.pl.2=pc,x.bk=bk at*;obtain ⟨tk,tt,tn,tl,tc⟩:=t;simp only[kS,gL,Tk.row] at*;generalize List.map Tk.row r=WR at*;simp only[aw,aW,aO,AV.mp,aX,Pl.mp] at*;rcases ke2 with ⟨a2,p1,-,-⟩|⟨j2,a2,p1,-⟩
 ·rcases ke3 with ⟨a3,s1,s2,s3⟩|⟨j3,a3,s1,s2⟩
  rotate_left
  ·omega
  have k2:0<most:=by omega
  simp[Kx,hm];refine aF _ _ (V _) (by constructor<;>simp[hm]) ?_
  simp[hm,L1,L2,hf,q1];refine a6 _ _ (U 18 _) (by constructor<;>simp[hm]) ?_
  simp[hm,p1,k2];refine a6 _ _ (U 9 _) (by constructor<;>simp[hm]) ?_
  simp[hm,q1,w1,s1];apply am<;>simp[hib,hm,s2]
 ·rcases ke3 with ⟨a3,s1,s2,s3⟩|⟨j3,a3,s1,s2⟩
  ·omega
  push_cast at s2 hw2
  simp[Kx,hm];refine aF _ _ (V _) (by constructor<;>simp[hm]) ?_
  simp[hm,L1,L2,hf,q1];refine a6 _ _ (U 18 _) (by constructor<;>simp[hm]) ?_
  simp[hm,p1,k1'];refine a6 _ _ (U 9 _) (by constructor<;>simp[hm]) ?_
  simp[hm,q1,w1,s1,hw2];apply am<;>simp[hib,hm,s2]
theorem sj (C M:Id) (x:It) (t:Tk) (r:List Tk) (K:List (List UInt8)) (most:Nat) (d:Nat) (hm:M.isIt=true) (hmd:M.isNw d=false) (hw:x.ws=t::r) (hk:t.k=1) (h0:Gn K x.nm t.t most≠0) (hl:x.nm.length+t.t.length<=100000000):
  dK Tryz.prog gl 27 d ⟨[b9 C M,.agg x.row,i6 most],[(M,ba K)],[]⟩ ⟨bN (Gn K x.nm t.t most),[(M,ba K)],[]⟩:=by
 refine TX rfl ?_;have hib:=ai hmd;have U:=fun e d=>cu e d
 have UT:=fun e d=>fp e d
 have V:=fun d=>(lg t).h (d:=d)
 have L1:x.nm.length<=9223372036854775806:=by omega
 have L2:x.nm.length+1+t.t.length<=9223372036854775807:=by omega
 have ke1:=f8 K (dJ x.nm t.t);have ke2:=f8 K x.nm;rw[au,hw];unfold tT at V;rw[if_pos hk] at V;have hf:x.nm++32::t.t=dJ x.nm t.t:=rfl;unfold ba b9 bN at*;unfold Gn at*;generalize dJ x.nm t.t=fu,aI kS (aB K)=G at*;generalize x.nm=nm,ae x.kd=KR,x.pl.1=pl,x.pl.2=pc,x.bk=bk at*;obtain ⟨tk,tt,tn,tl,tc⟩:=t;simp only[kS,gL,Tk.row] at*;generalize List.map Tk.row r=WR at*;simp only[aw,aW,aO,AV.mp,aX,Pl.mp] at*;rcases ke1 with ⟨a,q1,-,-⟩|⟨j,a,q1,-⟩
 ·rw[if_neg (by omega)] at h0 ⊢;have hr:most<=List.count nm K:=Decidable.byContradiction fun g=>h0 (if_neg g)
  rw[if_pos hr];clear h0;rcases ke2 with ⟨a2,p1,-,-⟩|⟨j2,a2,p1,-⟩
  ·have k2: ¬0<most:=by omega
   simp[Kx,hm];refine aF _ _ (V _) (by constructor<;>simp[hm]) ?_
   simp[hm,L1,L2,hf,q1];refine a6 _ _ (U 18 _) (by constructor<;>simp[hm]) ?_
   simp[hm,p1,k2];refine bC _ _ (UT 9 _) (by constructor<;>simp[hm]) rfl ?_
   refine ⟨rfl,by simp,?_⟩;constructor<;>simp[hib,hm]
  ·have k2: ¬((List.count nm K:Nat):Int)<most:=by omega
   simp[Kx,hm];refine aF _ _ (V _) (by constructor<;>simp[hm]) ?_
   simp[hm,L1,L2,hf,q1];refine a6 _ _ (U 18 _) (by constructor<;>simp[hm]) ?_
   simp[hm,p1,k2];refine bC _ _ (UT 9 _) (by constructor<;>simp[hm]) rfl ?_
   refine ⟨rfl,by simp,?_⟩;constructor<;>simp[hib,hm]
 ·rw[if_pos (by omega)];have a':(((List.count fu K:Nat):Int)==0)=false:=bJ.2 (by omega);clear h0;simp[Kx,hm];refine aF _ _ (V _) (by constructor<;>simp[hm]) ?_
  simp[hm,L1,L2,hf,q1,a'];refine bC _ _ (UT 18 _) (by constructor<;>simp[hm]) rfl ?_
  refine ⟨rfl,by simp,?_⟩;constructor<;>simp[hib,hm]
def ss (q:Int):Nat:=if q=1 then 104 else if q=2 then 109 else if q=3 then 134 else if q=4 then 135 else if q=5 then 136 else 137
def Ae (t:Tk):AV:=if t.k=1\/t.k=2 then .str t.t else u t.n
theorem fK (t:Tk):tT t= .ifc (ss t.k) (Ae t):=by
 unfold tT ss Ae;by_cases h1:t.k=1
 ·simp[h1]
 by_cases h2:t.k=2
 ·simp[h2]
 by_cases h3:t.k=3
 ·simp[h3]
 by_cases h4:t.k=4
 ·simp[h4]
 by_cases h5:t.k=5
 ·simp[h5]
 simp[h1,h2,h3,h4,h5]
theorem wq (t:Tk):(Ae t).ids=[]:=by
 unfold Ae;split<;>simp[AV.ids]
theorem wv {a b:Int} (ha:1<=a/\a<=6) (hb:1<=b/\b<=6) (h:a≠b):ss a≠ss b:=by
 have ea:a=1\/a=2\/a=3\/a=4\/a=5\/a=6:=by omega
 have eb:b=1\/b=2\/b=3\/b=4\/b=5\/b=6:=by omega
 rcases ea with rfl|rfl|rfl|rfl|rfl|rfl<;>rcases eb with rfl|rfl|rfl|rfl|rfl|rfl<;>first|(exfalso;omega)|decide
def lf (q:Int) (x:It):Bool:=!x.bk&&(match x.ws with |[t]=>t.k==q|_=>false)
def n1 (x:It):Nat:=(x.ws.headD ⟨0,[],0,0,0⟩).n
theorem kH {q:Int} {x:It} (h:lf q x=true):x.bk=false/\ ∃t,x.ws=[t]/\t.k=q/\n1 x=t.n:=by
 unfold lf at h;rw[aL] at h;obtain ⟨h1,h2⟩:=h;refine ⟨by simpa using h1,?_⟩;unfold n1;split at h2
 ·rename_i t e;rw[e];exact ⟨t,rfl,by simpa using h2,rfl⟩
 ·cases h2
theorem Be {q:Int} {x:It} (h:lf q x=false):(x.bk=true\/x.ws.length≠1)\/(x.bk=false/\ ∃t,x.ws=[t]/\t.k≠q):=by
 unfold lf at h;cases hb:x.bk with
 |true=>exact .inl (.inl rfl)
 |false=>
  rw[hb] at h;split at h
  ·rename_i t e;refine .inr ⟨rfl,t,e,by simpa using h⟩
  ·rename_i e;refine .inl (.inr fun hl=>?_);obtain ⟨t,ht⟩:=List.length_eq_one_iff.1 hl;exact e t ht
def Mz (T:Nat) (k:IntKind):l7:=
 (.sq (.c (.rg [.bx 4 (.s 0),.bx 5 (.s 1),.mv 8 (.c (.int k 0))]))
  (.sq (.rp [.lda 12 6 (.s 5)] (.ce 13 75 [(.s 12)]) [.ta 14 T (.int .u64 0) (.s 13) true,.mv 11 (.s 14),.exq 15 (.s 11) 0,.exq 16 (.s 11) 1,.mv 9 (.s 15),.mv 10 (.s 16)])
  (.sq (.rp [.mv 17 (.s 10)] (.ce 18 25 [(.s 17),(.c (.int .i64 6))]) [])
  (.sq (.rp [.lda 19 2 (.s 4),.lda 20 6 (.s 5),.mv 21 (.s 9),.mv 22 (.s 2),.mv 23 (.s 3)] (.ce 24 50 [(.s 19),(.s 20),(.s 21),(.s 22),(.s 23)]) [.cv 25 k (.s 24),.mv 8 (.s 25)])
  (.c .rt)))))
def m5 (q:Int) (K:List (List UInt8)) (x:It) (lo hi:Nat):Int:=if lf q x=false then 6 else jb K x.nm (n1 x) lo hi
theorem Gp (q:Int) (k:IntKind) (C M:Id) (x:It) (K:List (List UInt8)) (lo hi d:Nat) (hq:3<=q) (hm:M.isIt=true) (hmd:M.isNw d=false) (h0:m5 q K x lo hi=0) (hk:k.wrap (n1 x:Nat)=(n1 x:Nat)) (R:AV->St->Prop):
  bD (bh Tryz.prog gl) (dK Tryz.prog gl) R (Mz (ss q) k) (bS d [.t 8] ⟨.int k (n1 x),[(M,ba (K++[x.nm]))],[]⟩) (aw ⟨[b9 C M,.agg x.row,u lo,u hi],[(M,ba K)],[]⟩):=by
 have hib:=ai hmd;have hlf:lf q x=true:=by
  unfold m5 at h0;split at h0
  ·cases h0
  ·rename_i h;simpa using h
 have h0:jb K x.nm (n1 x) lo hi=0:=by
  unfold m5 at h0;rwa [if_neg (by rw[hlf];decide)] at h0
 obtain ⟨hb,t,hw,htk,hn⟩:=kH hlf;have U:=fun e d=>cu e d
 have SI:=fun d=>dX x t d hb hw
 have NU:=fun h=>mE C.up M.up x K (n1 x) lo hi 24 hm h h0
 rw[fK,htk] at SI;have hp:Ae t=u t.n:=if_neg (by omega);rw[hp,<-hn] at SI;generalize n1 x=v,ss q=T at*;unfold ba b9 Mz at*;rw[au] at*;generalize aI kS (aB K)=G,aI kS (aB (K++[x.nm]))=G2,ae x.kd=KR,List.map Tk.row x.ws=WR at*;generalize x.nm=nm at*;simp only[aw,aW,aO,AV.mp,aX,Pl.mp] at*;clear h0 hlf;simp;refine a6 _ _ (SI _) (by constructor<;>simp[hm]) ?_
 simp[hm];refine a6 _ _ (U 6 _) (by constructor<;>simp[hm]) ?_
 simp[hm];refine a6 _ _ (NU rfl) (by constructor<;>simp[hm]) ?_
 simp[hm,hk];apply am<;>simp[hib,hm]
theorem Gq (q:Int) (k:IntKind) (C M:Id) (x:It) (K:List (List UInt8)) (lo hi d:Nat) (hq:3<=q/\q<=6) (hx: ∀t∈x.ws,1<=t.k/\t.k<=6) (hm:M.isIt=true) (hmd:M.isNw d=false) (h0:m5 q K x lo hi≠0) (Q:AE->St->Prop):
  bD (bh Tryz.prog gl) (dK Tryz.prog gl) (ee d ⟨bN (m5 q K x lo hi),[(M,ba K)],[]⟩) (Mz (ss q) k) Q (aw ⟨[b9 C M,.agg x.row,u lo,u hi],[(M,ba K)],[]⟩):=by
 have hib:=ai hmd;have UT:=fun e d=>fp e d
 have U:=fun e d=>cu e d
 unfold m5 at*;cases hlf:lf q x with
 |false=>
  rw[if_pos rfl];rcases Be hlf with hs|⟨hb,t,hw,htk⟩
  ·have SI:=fun d=>pP x d hs
   generalize ss q=T at*;unfold ba b9 Mz bN at*;rw[au] at*;generalize aI kS (aB K)=G,ae x.kd=KR,List.map Tk.row x.ws=WR at*;simp only[aw,aW,aO,AV.mp,aX,Pl.mp] at*;simp;refine bC _ _ (SI _) (by constructor<;>simp[hm]) rfl ?_
   refine ⟨rfl,by simp,?_⟩;constructor<;>simp[hib,hm]
  ·have SI:=fun d=>dX x t d hb hw
   rw[fK] at SI;have hT:=wv (hx t (by rw[hw];simp)) (show 1<=q/\q<=6 by omega) htk;have hid:=wq t;have hmp:=fun f=>ju (f:=f) hid
   generalize Ae t=W,ss t.k=T2,ss q=T at*;unfold ba b9 Mz bN at*;rw[au] at*;generalize aI kS (aB K)=G,ae x.kd=KR,List.map Tk.row x.ws=WR at*;simp only[aw,aW,aO,AV.mp,aX,Pl.mp] at*;simp;refine a6 _ _ (SI _) (by constructor<;>simp[hm,hid,hmp]) ?_
   simp[hm,hT,hid,hmp];refine bC _ _ (UT 6 _) (by constructor<;>simp[hm]) rfl ?_
   refine ⟨rfl,by simp,?_⟩;constructor<;>simp[hib,hm]
 |true=>
  rw[hlf] at h0;rw[if_neg (by decide)] at h0 ⊢;obtain ⟨hb,t,hw,htk,hn⟩:=kH hlf;have SI:=fun d=>dX x t d hb hw
  have NU:=fun h=>mG C.up M.up x K (n1 x) lo hi 24 hm h h0
  rw[fK,htk] at SI;have hp:Ae t=u t.n:=if_neg (by omega);rw[hp,<-hn] at SI;generalize n1 x=v at*;generalize jb K x.nm v lo hi=e,ss q=T at*;unfold ba b9 Mz bN at*;rw[au] at*;generalize aI kS (aB K)=G,ae x.kd=KR,List.map Tk.row x.ws=WR at*;simp only[aw,aW,aO,AV.mp,aX,Pl.mp] at*;clear h0 hlf;simp;refine a6 _ _ (SI _) (by constructor<;>simp[hm]) ?_
  simp[hm];refine a6 _ _ (U 6 _) (by constructor<;>simp[hm]) ?_
  simp[hm];refine bC _ _ (NU rfl) (by constructor<;>simp[hm]) rfl ?_
  refine ⟨rfl,by simp,?_⟩;constructor<;>simp[hib,hm]
theorem iq (C M:Id) (x:It) (K:List (List UInt8)) (lo hi d:Nat) (hm:M.isIt=true) (hmd:M.isNw d=false) (h0:m5 6 K x lo hi=0) (hk:n1 x<9223372036854775808):
  bh Tryz.prog gl 47 d ⟨[b9 C M,.agg x.row,u lo,u hi],[(M,ba K)],[]⟩ ⟨i6 (n1 x),[(M,ba (K++[x.nm]))],[]⟩:=by
 refine Up rfl ?_;exact Gp 6 .i64 C M x K lo hi d (by decide) hm hmd h0 (by rw[ay]<;>omega) _
theorem ir (C M:Id) (x:It) (K:List (List UInt8)) (lo hi d:Nat) (hx: ∀t∈x.ws,1<=t.k/\t.k<=6) (hm:M.isIt=true) (hmd:M.isNw d=false) (h0:m5 6 K x lo hi≠0):
  dK Tryz.prog gl 47 d ⟨[b9 C M,.agg x.row,u lo,u hi],[(M,ba K)],[]⟩ ⟨bN (m5 6 K x lo hi),[(M,ba K)],[]⟩:=by
 refine Uo rfl ?_;exact Gq 6 .i64 C M x K lo hi d (by decide) hx hm hmd h0 _
theorem y5 (C M:Id) (x:It) (K:List (List UInt8)) (lo hi d:Nat) (hm:M.isIt=true) (hmd:M.isNw d=false) (h0:m5 3 K x lo hi=0) (hk:n1 x<9223372036854775808):
  bh Tryz.prog gl 52 d ⟨[b9 C M,.agg x.row,u lo,u hi],[(M,ba K)],[]⟩ ⟨i6 (n1 x),[(M,ba (K++[x.nm]))],[]⟩:=by
 refine Ux rfl ?_;exact Gp 3 .i64 C M x K lo hi d (by decide) hm hmd h0 (by rw[ay]<;>omega) _
theorem y6 (C M:Id) (x:It) (K:List (List UInt8)) (lo hi d:Nat) (hx: ∀t∈x.ws,1<=t.k/\t.k<=6) (hm:M.isIt=true) (hmd:M.isNw d=false) (h0:m5 3 K x lo hi≠0):
  dK Tryz.prog gl 52 d ⟨[b9 C M,.agg x.row,u lo,u hi],[(M,ba K)],[]⟩ ⟨bN (m5 3 K x lo hi),[(M,ba K)],[]⟩:=by
 refine Uw rfl ?_;exact Gq 3 .i64 C M x K lo hi d (by decide) hx hm hmd h0 _
theorem Gr (C M:Id) (x:It) (K:List (List UInt8)) (lo hi d:Nat) (hm:M.isIt=true) (hmd:M.isNw d=false) (h0:m5 5 K x lo hi=0) (hk:n1 x<4294967296):
  bh Tryz.prog gl 46 d ⟨[b9 C M,.agg x.row,u lo,u hi],[(M,ba K)],[]⟩ ⟨.int .u32 (n1 x),[(M,ba (K++[x.nm]))],[]⟩:=by
 refine Un rfl ?_;exact Gp 5 .u32 C M x K lo hi d (by decide) hm hmd h0 (by rw[rN]<;>omega) _
theorem Gs (C M:Id) (x:It) (K:List (List UInt8)) (lo hi d:Nat) (hx: ∀t∈x.ws,1<=t.k/\t.k<=6) (hm:M.isIt=true) (hmd:M.isNw d=false) (h0:m5 5 K x lo hi≠0):
  dK Tryz.prog gl 46 d ⟨[b9 C M,.agg x.row,u lo,u hi],[(M,ba K)],[]⟩ ⟨bN (m5 5 K x lo hi),[(M,ba K)],[]⟩:=by
 refine t46 rfl ?_;exact Gq 5 .u32 C M x K lo hi d (by decide) hx hm hmd h0 _
def mS (x:It):Nat:=match x.ws with
 |t::_=>if t.k=3 then 1000*(if 1000000<t.n then 1000000 else t.n) else t.n
 |[]=>0
def DX (K:List (List UInt8)) (x:It):Int:=if lf 4 x=false/\lf 3 x=false then 6 else jb K x.nm (mS x) 1 1000000
theorem DY (C M:Id) (x:It) (K:List (List UInt8)) (d:Nat) (hm:M.isIt=true) (hmd:M.isNw d=false) (h0:DX K x=0):
  bh Tryz.prog gl 77 d ⟨[b9 C M,.agg x.row],[(M,ba K)],[]⟩ ⟨u (mS x),[(M,ba (K++[x.nm]))],[]⟩:=by
 refine UX rfl ?_;have hib:=ai hmd;have hl:lf 4 x=true\/lf 3 x=true:=by
  unfold DX at h0;cases h4:lf 4 x with
  |true=>exact .inl rfl
  |false=>
   cases h3:lf 3 x with
   |true=>exact .inr rfl
   |false=>rw[if_pos ⟨h4,h3⟩] at h0;cases h0
 have h0:jb K x.nm (mS x) 1 1000000=0:=by
  unfold DX at h0;rwa [if_neg (by rintro ⟨a,b⟩;rcases hl with h|h;rw[h] at a;cases a;rw[h] at b;cases b)] at h0
 have NU:=fun h=>mE C.up M.up x K (mS x) 1 1000000 25 hm h h0
 rcases hl with hlf|hlf
 ·obtain ⟨hb,t,hw,htk,hn⟩:=kH hlf;have SI:=fun d=>dX x t d hb hw
  have hv:mS x=t.n:=by unfold mS;rw[hw];exact if_neg (by omega)
  rw[fK,htk] at SI;have hp:Ae t=u t.n:=if_neg (by omega);have hT:ss 4=135:=rfl;rw[hp,<-hv,hT] at SI;clear hT;generalize mS x=v at*;unfold ba b9 at*;rw[au] at*;generalize aI kS (aB K)=G,aI kS (aB (K++[x.nm]))=G2,ae x.kd=KR,List.map Tk.row x.ws=WR at*;generalize x.nm=nm at*;simp only[aw,aW,aO,AV.mp,aX,Pl.mp] at*;clear h0 hlf;simp[E4];refine a6 _ _ (SI _) (by constructor<;>simp[hm]) ?_
  simp[hm];refine a6 _ _ (NU rfl) (by constructor<;>simp[hm]) ?_
  simp[hm];apply am<;>simp[hib,hm]
 ·obtain ⟨hb,t,hw,htk,hn⟩:=kH hlf;have SI:=fun d=>dX x t d hb hw
  have hv:mS x=1000*(if 1000000<t.n then 1000000 else t.n):=by unfold mS;rw[hw];exact if_pos htk
  rw[fK,htk] at SI;have hp:Ae t=u t.n:=if_neg (by omega);have hT:ss 3=134:=rfl;rw[hp,hT] at SI;have hw1:1000000<t.n->IntKind.u64.wrap 1000000000=((mS x:Nat):Int):=fun g=>by
   rw[hv,if_pos g,eU]<;>omega
  have hw2: ¬1000000<t.n->IntKind.u64.wrap (1000*(t.n:Int))=((mS x:Nat):Int):=fun g=>by
   rw[hv,if_neg g,eU]<;>omega
  clear hT hv;generalize mS x=v at*;unfold ba b9 at*;rw[au] at*;generalize aI kS (aB K)=G,aI kS (aB (K++[x.nm]))=G2,ae x.kd=KR,List.map Tk.row x.ws=WR at*;generalize x.nm=nm at*;simp only[aw,aW,aO,AV.mp,aX,Pl.mp] at*;clear h0 hlf;by_cases g:1000000<t.n
  ·have hw1:=hw1 g;have g':(1000000:Int)<t.n:=by omega
   simp[E4];refine a6 _ _ (SI _) (by constructor<;>simp[hm]) ?_
   simp[hm,g,g'];refine a6 _ _ (NU rfl) (by constructor<;>simp[hm,hw1,g,g']) ?_
   simp[hm,hw1];apply am<;>simp[hib,hm]
  ·have hw2:=hw2 g;have g': ¬(1000000:Int)<t.n:=by omega
   simp[E4];refine a6 _ _ (SI _) (by constructor<;>simp[hm]) ?_
   simp[hm,g,g'];refine a6 _ _ (NU rfl) (by constructor<;>simp[hm,hw2,g,g']) ?_
   simp[hm,hw2];apply am<;>simp[hib,hm]
theorem DZ (C M:Id) (x:It) (K:List (List UInt8)) (d:Nat) (hx: ∀t∈x.ws,1<=t.k/\t.k<=6) (hm:M.isIt=true) (hmd:M.isNw d=false) (h0:DX K x≠0):
  dK Tryz.prog gl 77 d ⟨[b9 C M,.agg x.row],[(M,ba K)],[]⟩ ⟨bN (DX K x),[(M,ba K)],[]⟩:=by
 refine UW rfl ?_;have hib:=ai hmd;by_cases hno:lf 4 x=false/\lf 3 x=false
 ·unfold DX;rw[if_pos hno];rcases Be hno.1 with hs|⟨hb,t,hw,htk⟩
  ·have SI:=fun d=>pP x d hs
   unfold ba b9 bN at*;rw[au] at*;generalize aI kS (aB K)=G,ae x.kd=KR,List.map Tk.row x.ws=WR at*;simp only[aw,aW,aO,AV.mp,aX,Pl.mp] at*;simp[E4];refine bC _ _ (SI _) (by constructor<;>simp[hm]) rfl ?_
   refine ⟨rfl,by simp,?_⟩;constructor<;>simp[hib,hm]
  ·have SI:=fun d=>dX x t d hb hw
   have htk3:t.k≠3:=fun e=>by
    have:=hno.2
    unfold lf at this;rw[hw,hb] at this;simp[e] at this
   rw[fK] at SI;have hT:=wv (hx t (by rw[hw];simp)) (show (1:Int)<=4/\(4:Int)<=6 by omega) htk;have hT3:=wv (hx t (by rw[hw];simp)) (show (1:Int)<=3/\(3:Int)<=6 by omega) htk3;rw[show ss 4=135 from rfl] at hT;rw[show ss 3=134 from rfl] at hT3;have hid:=wq t;have hmp:=fun f=>ju (f:=f) hid
   generalize Ae t=W,ss t.k=T2 at*;unfold ba b9 bN at*;rw[au] at*;generalize aI kS (aB K)=G,ae x.kd=KR,List.map Tk.row x.ws=WR at*;simp only[aw,aW,aO,AV.mp,aX,Pl.mp] at*;simp[E4];refine a6 _ _ (SI _) (by constructor<;>simp[hm,hid,hmp]) ?_
   simp[hm,hT,hT3,hid,hmp];refine ⟨rfl,by simp,?_⟩;constructor<;>simp[hib,hm]
 ·have h0:jb K x.nm (mS x) 1 1000000≠0:=by
   unfold DX at h0;rwa [if_neg hno] at h0
  have he:DX K x=jb K x.nm (mS x) 1 1000000:=if_neg hno;rw[he];have NU:=fun h=>mG C.up M.up x K (mS x) 1 1000000 25 hm h h0
  have hl:lf 4 x=true\/lf 3 x=true:=by
   cases h4:lf 4 x with
   |true=>exact .inl rfl
   |false=>
    cases h3:lf 3 x with
    |true=>exact .inr rfl
    |false=>exact absurd ⟨h4,h3⟩ hno
  generalize jb K x.nm (mS x) 1 1000000=e at*;rcases hl with hlf|hlf
  ·obtain ⟨hb,t,hw,htk,hn⟩:=kH hlf;have SI:=fun d=>dX x t d hb hw
   have hv:mS x=t.n:=by unfold mS;rw[hw];exact if_neg (by omega)
   rw[fK,htk] at SI;have hp:Ae t=u t.n:=if_neg (by omega);have hT:ss 4=135:=rfl;rw[hp,<-hv,hT] at SI;clear hT;generalize mS x=v at*;unfold ba b9 bN at*;rw[au] at*;generalize aI kS (aB K)=G,ae x.kd=KR,List.map Tk.row x.ws=WR at*;simp only[aw,aW,aO,AV.mp,aX,Pl.mp] at*;clear h0 hlf he;simp[E4];refine a6 _ _ (SI _) (by constructor<;>simp[hm]) ?_
   simp[hm];refine bC _ _ (NU rfl) (by constructor<;>simp[hm]) rfl ?_
   refine ⟨rfl,by simp,?_⟩;constructor<;>simp[hib,hm]
  ·obtain ⟨hb,t,hw,htk,hn⟩:=kH hlf;have SI:=fun d=>dX x t d hb hw
   have hv:mS x=1000*(if 1000000<t.n then 1000000 else t.n):=by unfold mS;rw[hw];exact if_pos htk
   rw[fK,htk] at SI;have hp:Ae t=u t.n:=if_neg (by omega);have hT:ss 3=134:=rfl;rw[hp,hT] at SI;have hw1:1000000<t.n->IntKind.u64.wrap 1000000000=((mS x:Nat):Int):=fun g=>by
    rw[hv,if_pos g,eU]<;>omega
   have hw2: ¬1000000<t.n->IntKind.u64.wrap (1000*(t.n:Int))=((mS x:Nat):Int):=fun g=>by
    rw[hv,if_neg g,eU]<;>omega
   clear hT hv he h0;generalize mS x=v at*;unfold ba b9 bN at*;rw[au] at*;generalize aI kS (aB K)=G,ae x.kd=KR,List.map Tk.row x.ws=WR at*;simp only[aw,aW,aO,AV.mp,aX,Pl.mp] at*;clear hlf;by_cases g:1000000<t.n
   ·have hw1:=hw1 g;have g':(1000000:Int)<t.n:=by omega
    simp[E4];refine a6 _ _ (SI _) (by constructor<;>simp[hm]) ?_
    simp[hm,g,g'];refine bC _ _ (NU rfl) (by constructor<;>simp[hm,hw1,g,g']) rfl ?_
    refine ⟨rfl,by simp,?_⟩;constructor<;>simp[hib,hm]
   ·have hw2:=hw2 g;have g': ¬(1000000:Int)<t.n:=by omega
    simp[E4];refine a6 _ _ (SI _) (by constructor<;>simp[hm]) ?_
    simp[hm,g,g'];refine bC _ _ (NU rfl) (by constructor<;>simp[hm,hw2,g,g']) rfl ?_
    refine ⟨rfl,by simp,?_⟩;constructor<;>simp[hib,hm]
def su (K:List (List UInt8)) (x:It):Int:=if lf 1 x=false\/(w0 x.ws≠qD/\w0 x.ws≠xr) then 6 else jb K x.nm 0 0 0
theorem y7 (C M:Id) (x:It) (K:List (List UInt8)) (d:Nat) (hm:M.isIt=true) (hmd:M.isNw d=false) (h0:su K x=0):
  bh Tryz.prog gl 48 d ⟨[b9 C M,.agg x.row],[(M,ba K)],[]⟩ ⟨i6 (if w0 x.ws=qD then 1 else 2),[(M,ba (K++[x.nm]))],[]⟩:=by
 refine N8 rfl ?_;have hib:=ai hmd;have hc: ¬(lf 1 x=false\/(w0 x.ws≠qD/\w0 x.ws≠xr)):=fun h=>by
  unfold su at h0;rw[if_pos h] at h0;cases h0
 have h0:jb K x.nm 0 0 0=0:=by
  unfold su at h0;rwa [if_neg hc] at h0
 have hlf:lf 1 x=true:=by
  cases h:lf 1 x with
  |true=>rfl
  |false=>exact absurd (.inl h) hc
 have NU:=fun h=>mE C.up M.up x K 0 0 0 25 hm h h0
 obtain ⟨hb,t,hw,htk,-⟩:=kH hlf;have SI:=fun d=>dX x t d hb hw
 have U:=fun e d=>cu e d
 rw[fK,htk] at SI;have hp:Ae t= .str t.t:=if_pos (.inl htk);rw[hp,show ss 1=104 from rfl] at SI;have hw0:w0 x.ws=t.t:=by rw[hw];rfl
 rw[hw0] at hc ⊢;have hc:t.t=qD\/t.t=xr:=Decidable.byContradiction fun g=>hc (.inr ⟨fun e=>g (.inl e),fun e=>g (.inr e)⟩)
 generalize t.t=s at*;unfold ba b9 at*;rw[au] at*;generalize aI kS (aB K)=G,aI kS (aB (K++[x.nm]))=G2,ae x.kd=KR,List.map Tk.row x.ws=WR at*;generalize x.nm=nm at*;unfold qD xr at*;simp only[aw,aW,aO,AV.mp,aX,Pl.mp] at*;clear h0 hlf;rcases hc with rfl|rfl
 ·simp[Iw];refine a6 _ _ (SI _) (by constructor<;>simp[hm]) ?_
  simp[hm];refine a6 _ _ (U 6 _) (by constructor<;>simp[hm]) ?_
  simp[hm];refine a6 _ _ (NU rfl) (by constructor<;>simp[hm]) ?_
  simp[hm];apply am<;>simp[hib,hm]
 ·simp[Iw];refine a6 _ _ (SI _) (by constructor<;>simp[hm]) ?_
  simp[hm];refine a6 _ _ (U 6 _) (by constructor<;>simp[hm]) ?_
  simp[hm];refine a6 _ _ (NU rfl) (by constructor<;>simp[hm]) ?_
  simp[hm];apply am<;>simp[hib,hm]
theorem y8 (C M:Id) (x:It) (K:List (List UInt8)) (d:Nat) (hx: ∀t∈x.ws,1<=t.k/\t.k<=6) (hm:M.isIt=true) (hmd:M.isNw d=false) (h0:su K x≠0):
  dK Tryz.prog gl 48 d ⟨[b9 C M,.agg x.row],[(M,ba K)],[]⟩ ⟨bN (su K x),[(M,ba K)],[]⟩:=by
 refine Uq rfl ?_;have hib:=ai hmd;have U:=fun e d=>cu e d
 have UT:=fun e d=>fp e d
 cases hlf:lf 1 x with
 |false=>
  have he:su K x=6:=if_pos (.inl hlf);rw[he];rcases Be hlf with hs|⟨hb,t,hw,htk⟩
  ·have SI:=fun d=>pP x d hs
   unfold ba b9 bN at*;rw[au] at*;generalize aI kS (aB K)=G,ae x.kd=KR,List.map Tk.row x.ws=WR at*;simp only[aw,aW,aO,AV.mp,aX,Pl.mp] at*;simp[Iw];refine bC _ _ (SI _) (by constructor<;>simp[hm]) rfl ?_
   refine ⟨rfl,by simp,?_⟩;constructor<;>simp[hib,hm]
  ·have SI:=fun d=>dX x t d hb hw
   rw[fK] at SI;have hT:=wv (hx t (by rw[hw];simp)) (show (1:Int)<=1/\(1:Int)<=6 by omega) htk;rw[show ss 1=104 from rfl] at hT;have hid:=wq t;have hmp:=fun f=>ju (f:=f) hid
   generalize Ae t=W,ss t.k=T2 at*;unfold ba b9 bN at*;rw[au] at*;generalize aI kS (aB K)=G,ae x.kd=KR,List.map Tk.row x.ws=WR at*;simp only[aw,aW,aO,AV.mp,aX,Pl.mp] at*;simp[Iw];refine a6 _ _ (SI _) (by constructor<;>simp[hm,hid,hmp]) ?_
   simp[hm,hT,hid,hmp];refine bC _ _ (UT 6 _) (by constructor<;>simp[hm]) rfl ?_
   refine ⟨rfl,by simp,?_⟩;constructor<;>simp[hib,hm]
 |true=>
  obtain ⟨hb,t,hw,htk,-⟩:=kH hlf;have SI:=fun d=>dX x t d hb hw
  rw[fK,htk] at SI;have hp:Ae t= .str t.t:=if_pos (.inl htk);rw[hp,show ss 1=104 from rfl] at SI;have hw0:w0 x.ws=t.t:=by rw[hw];rfl
  by_cases hc:t.t=qD\/t.t=xr
  ·have he:su K x=jb K x.nm 0 0 0:=if_neg (by
    rw[hlf,hw0];rintro (g|⟨g1,g2⟩)
    ·cases g
    ·rcases hc with e|e
     ·exact g1 e
     ·exact g2 e)
   rw[he] at h0 ⊢;have NU:=fun h=>mG C.up M.up x K 0 0 0 25 hm h h0
   generalize jb K x.nm 0 0 0=e,t.t=s at*;unfold ba b9 bN at*;rw[au] at*;generalize aI kS (aB K)=G,ae x.kd=KR,List.map Tk.row x.ws=WR at*;unfold qD xr at*;simp only[aw,aW,aO,AV.mp,aX,Pl.mp] at*;clear h0 hlf he hw0;rcases hc with rfl|rfl
   ·simp[Iw];refine a6 _ _ (SI _) (by constructor<;>simp[hm]) ?_
    simp[hm];refine a6 _ _ (U 6 _) (by constructor<;>simp[hm]) ?_
    simp[hm];refine bC _ _ (NU rfl) (by constructor<;>simp[hm]) rfl ?_
    refine ⟨rfl,by simp,?_⟩;constructor<;>simp[hib,hm]
   ·simp[Iw];refine a6 _ _ (SI _) (by constructor<;>simp[hm]) ?_
    simp[hm];refine a6 _ _ (U 6 _) (by constructor<;>simp[hm]) ?_
    simp[hm];refine bC _ _ (NU rfl) (by constructor<;>simp[hm]) rfl ?_
    refine ⟨rfl,by simp,?_⟩;constructor<;>simp[hib,hm]
  ·have he:su K x=6:=if_pos (.inr ⟨fun e=>hc (.inl (hw0▸e)),fun e=>hc (.inr (hw0▸e))⟩);rw[he];have b1:(t.t==qD)=false:=bJ.2 fun e=>hc (.inl e)
   have b2:(t.t==xr)=false:=bJ.2 fun e=>hc (.inr e)
   generalize t.t=s at*;unfold ba b9 bN at*;rw[au] at*;generalize aI kS (aB K)=G,ae x.kd=KR,List.map Tk.row x.ws=WR at*;unfold qD xr at*;simp only[aw,aW,aO,AV.mp,aX,Pl.mp] at*;clear h0 hlf he hw0 hc;simp[Iw];refine a6 _ _ (SI _) (by constructor<;>simp[hm]) ?_
   simp[hm,b1,b2];refine bC _ _ (UT 6 _) (by constructor<;>simp[hm]) rfl ?_
   refine ⟨rfl,by simp,?_⟩;constructor<;>simp[hib,hm]
theorem Jy {p:jV} {x:It} {q:Int} (hk:p.ks=[q]) (hb:p.bl=false) (h1:p.nm≠eZ) (h2:p.nm≠jj) (h3:p.nm≠du):cz p x=lf q x:=by
 unfold cz lf;have b1:(p.nm==eZ)=false:=bJ.2 h1;have b2:(p.nm !=jj)=true:=by simpa using h2
 have b3:(p.nm !=du)=true:=by simpa using h3
 rw[hk,hb,b2,b3,Bool.true_or,Bool.true_or,Bool.and_true,Bool.and_true];congr 1
 ·cases x.bk<;>rfl
 ·match x.ws with
  |[]=>rfl
  |[t]=>simp[e7,b1]
  |_::_::_=>simp[e7]
theorem fV {x:It} (h:x.nm≠eZ):f7 x=n1 x:=by
 unfold f7 n1
 match x.ws with
 |[]=>rfl
 |t::r=>exact if_neg fun g=>h g.1
theorem cf {w:Nat} {C:List It} {x:It} {p:jV} {q:Int} (h:bK w x.nm=some p) (hmo:p.mo=1) (hk:p.ks=[q]) (hb:p.bl=false) (h1:p.nm≠eZ) (h2:p.nm≠jj) (h3:p.nm≠du):aV w C x=m5 q (ar C) x p.lo p.hi:=by
 have hf:=Jy (x:=x) hk hb h1 h2 h3;have hn:x.nm≠eZ:=by rw[<-(iV h).2];exact h1
 unfold m5 jb;rw[<-fV hn];cases hl:lf q x with
 |false=>rw[ii h (by rw[hf];exact hl),if_pos rfl]
 |true=>rw[kT h (by rw[hf];exact hl) hmo,if_neg (show ¬true=false by decide)]
theorem CM {w:Nat} {C:List It} {x:It} {p:jV} (h:bK w x.nm=some p) (hmo:p.mo=1) (hk:p.ks=[4]) (hb:p.bl=false) (h1:p.nm=eZ) (hlo:p.lo=1) (hhi:p.hi=1000000):aV w C x=DX (ar C) x:=by
 have hn:x.nm=eZ:=by rw[<-(iV h).2];exact h1
 have hf:cz p x=(lf 4 x||lf 3 x):=by
  unfold cz lf;rw[hk,hb,h1,show (eZ !=jj)=true from rfl,show (eZ !=du)=true from rfl]
  match x.ws with
  |[]=>simp[e7]
  |[t]=>simp[e7,h1];cases x.bk<;>simp
  |_::_::_=>simp[e7]
 unfold DX;by_cases g:lf 4 x=false/\lf 3 x=false
 ·rw[if_pos g,ii h (by rw[hf,g.1,g.2];rfl)]
 ·rw[if_neg g];have gl:lf 4 x=true\/lf 3 x=true:=by
   cases a:lf 4 x with
   |true=>exact .inl rfl
   |false=>
    cases b:lf 3 x with
    |true=>exact .inr rfl
    |false=>exact absurd ⟨a,b⟩ g
  rw[kT h (by rw[hf];rcases gl with e|e<;>simp[e]) hmo,hlo,hhi];unfold jb;have e2:(f7 x<1\/1000000<f7 x)=(mS x<1\/1000000<mS x):=by
   rcases gl with e|e
   ·obtain ⟨-,t,hw,hk,-⟩:=kH e;unfold f7 mS;rw[hw];dsimp only;rw[if_neg (by omega),if_neg (by omega)]
   ·obtain ⟨-,t,hw,hk,-⟩:=kH e;unfold f7 mS;rw[hw];dsimp only;rw[if_pos ⟨hn,hk⟩,if_pos hk];by_cases g:1000000<t.n
    ·rw[if_pos g,if_pos g];simp;omega
    ·rw[if_neg g,if_neg g]
  simp only[e2]
theorem LF {C:List (List UInt8)} {x:It} (hn:x.nm=eZ) (h:DX C x=0):mS x=f7 x:=by
 unfold DX at h;split at h
 ·cases h
 ·rename_i g;have gl:lf 4 x=true\/lf 3 x=true:=by
   cases a:lf 4 x with
   |true=>exact .inl rfl
   |false=>
    cases b:lf 3 x with
    |true=>exact .inr rfl
    |false=>exact absurd ⟨a,b⟩ g
  unfold jb at h;split at h
  ·cases h
  ·split at h
   ·cases h
   ·rename_i g2;rcases gl with e|e
    ·obtain ⟨-,t,hw,hk,-⟩:=kH e;unfold f7 mS;rw[hw];dsimp only;rw[if_neg (by omega),if_neg (by omega)]
    ·obtain ⟨-,t,hw,hk,-⟩:=kH e;have e1:mS x=1000*(if 1000000<t.n then 1000000 else t.n):=by unfold mS;rw[hw];exact if_pos hk
     have e2:f7 x=if 1000000<t.n then t.n else 1000*t.n:=by unfold f7;rw[hw];exact if_pos ⟨hn,hk⟩
     rw[e1] at g2;rw[e1,e2];by_cases g:1000000<t.n
     ·rw[if_pos g] at g2;omega
     ·rw[if_neg g,if_neg g]
theorem y9 {w:Nat} {C:List It} {x:It} {p:jV} (h:bK w x.nm=some p) (hmo:p.mo=1) (hk:p.ks=[1]) (hb:p.bl=false) (h1:p.nm=jj) (hlo:p.lo=0) (hhi:p.hi=0) (hz:lf 1 x=true->n1 x=0):aV w C x=su (ar C) x:=by
 have hn:x.nm=jj:=by rw[<-(iV h).2];exact h1
 have hf:cz p x=(lf 1 x&&(w0 x.ws==qD||w0 x.ws==xr)):=by
  unfold cz lf;rw[hk,hb,h1,show (jj !=jj)=false from rfl,show (jj !=du)=true from rfl]
  match x.ws with
  |[]=>simp[e7]
  |[t]=>simp[e7,h1,show (jj==eZ)=false from rfl];cases x.bk<;>simp
  |_::_::_=>simp[e7]
 unfold su;by_cases g:lf 1 x=false\/(w0 x.ws≠qD/\w0 x.ws≠xr)
 ·rw[if_pos g,ii h];rw[hf];rcases g with g|⟨g1,g2⟩
  ·rw[g];rfl
  ·rw[bJ.2 g1,bJ.2 g2];simp
 ·rw[if_neg g];have g1:lf 1 x=true:=by
   cases a:lf 1 x with
   |true=>rfl
   |false=>exact absurd (.inl a) g
  have g2:w0 x.ws=qD\/w0 x.ws=xr:=Decidable.byContradiction fun e=>g (.inr ⟨fun a=>e (.inl a),fun a=>e (.inr a)⟩)
  rw[kT h (by rw[hf,g1];rcases g2 with e|e<;>simp[e]) hmo,hlo,hhi,fV (by rw[hn];decide),hz g1];unfold jb;rfl
theorem dh {C:List It} {x:It} (h:mh x.nm=false):ar (C++[x])=ar C++[x.nm]:=by
 rw[lA];unfold lK;rw[if_neg (by rw[h];decide)]
end Go.Ai
