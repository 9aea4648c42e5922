/- P12: a part of the proof. Conditions: as each theorem says. -/
import Derived.Test.YtojgeamhdkphaaaGreatDoorP11
set_option linter.unusedSimpArgs false
set_option linter.unusedVariables false
set_option maxRecDepth 20000
namespace Go.Ai
open Go.Proofs
def pu.row (p:pu):List AV:=[.str p.nm,.sl (p.ks.map fun k=>[i6 k]),.bool p.bl,i6 p.mo,u p.lo,u p.hi]
def bE (e:Int):AV:= .ifc 37 (i6 e)
theorem bZ (e:Int) (d:Nat):ba Tryz.prog gl 25 d ⟨[.bool true,i6 e],[],[]⟩ ⟨.tup [],[],[]⟩:=by
 refine Uq rfl ?_;simp only[ar,aW,aP,AV.mp,aY,Pl.mp];simp[NI];refine bh ?_;constructor<;>simp
theorem eM (e:Int) (d:Nat):di Tryz.prog gl 25 d ⟨[.bool false,i6 e],[],[]⟩ ⟨bE e,[],[]⟩:=by
 refine Up rfl ?_;simp only[bE,ar,aW,aP,AV.mp,aY,Pl.mp];simp[NI];refine ⟨rfl,by simp,?_⟩;constructor<;>simp
def t7 (t:Tk):AV:=
 if t.k=1 then .ifc 104 (.str t.t)
 else if t.k=2 then .ifc 109 (.str t.t)
 else if t.k=3 then .ifc 134 (u t.n)
 else if t.k=4 then .ifc 135 (u t.n)
 else if t.k=5 then .ifc 136 (u t.n)
 else .ifc 137 (u t.n)
theorem kR (t:Tk):Sp Tryz.prog gl 45 [.agg t.row] (t7 t):=by
 refine UH rfl rfl ?_;obtain ⟨k,s,n,l,c⟩:=t;unfold t7;simp only[Tk.row];simp[Tp];by_cases h1:k=1
 ·subst h1;simp
 have b1:(k==1)=false:=by simpa using h1
 rw[if_neg h1];simp[b1];by_cases h2:k=2
 ·subst h2;simp
 have b2:(k==2)=false:=by simpa using h2
 rw[if_neg h2];simp[b2];by_cases h3:k=3
 ·subst h3;simp
 have b3:(k==3)=false:=by simpa using h3
 rw[if_neg h3];simp[b3];by_cases h4:k=4
 ·subst h4;simp
 have b4:(k==4)=false:=by simpa using h4
 rw[if_neg h4];simp[b4];by_cases h5:k=5
 ·subst h5;simp
 have b5:(k==5)=false:=by simpa using h5
 rw[if_neg h5];simp[b5]
theorem Hm (t:Tk):(t7 t).ids=[]:=by
 unfold t7;repeat' split
 all_goals simp[AV.ids]
theorem dF (x:It) (t:Tk) (d:Nat) (hb:x.bk=false) (hw:x.ws=[t]):ba Tryz.prog gl 75 d ⟨[.agg x.row],[],[]⟩ ⟨t7 t,[],[]⟩:=by
 refine Va rfl ?_;have V:=fun d=>(kR t).h (d:=d)
 have U:=fun d=>bZ 6 d
 rw[aw,hb,hw];have hid:=Hm t;have hmp:=fun f=>jc (f:=f) hid
 generalize t7 t=W at*;obtain ⟨k,s,n,l,c⟩:=t;generalize ab x.kd=KR at*;simp only[fZ,l6,Tk.row,ar,aW,aP,AV.mp,aY,Pl.mp] at*;simp[NL];refine aZ _ _ (U _) (by constructor<;>simp) ?_
 simp;refine bg _ _ (V _) ?_;simp;apply ah<;>simp[hid,hmp]
theorem px (x:It) (d:Nat) (h:x.bk=true\/x.ws.length≠1):di Tryz.prog gl 75 d ⟨[.agg x.row],[],[]⟩ ⟨bE 6,[],[]⟩:=by
 refine t75 rfl ?_;have U:=fun d=>eM 6 d
 unfold bE at*;rw[aw];generalize ab x.kd=KR at*;simp only[ar,aW,aP,AV.mp,aY,Pl.mp] at*;simp[NL];cases hb:x.bk with
 |true=>
  simp;refine bj _ _ (U _) (by constructor<;>simp) rfl ?_
  refine ⟨rfl,by simp,?_⟩;constructor<;>simp
 |false=>
  have hl:x.ws.length≠1:=by
   rcases h with h|h
   ·rw[hb] at h;cases h
   ·exact h
  have hl':((x.ws.length:Int)==1)=false:=cH.2 (by omega);simp[hl'];refine bj _ _ (U _) (by constructor<;>simp) rfl ?_
  refine ⟨rfl,by simp,?_⟩;constructor<;>simp
theorem Hn (a b:Nat):(a:Int).tmod (b:Int)=((a%b:Nat):Int):=rfl
theorem Ho (l:List Ft): ∀r∈l.map Ft.row,r.length=3:=fun r h=>by
 obtain ⟨x,_,rfl⟩:=oY.1 h;rfl
theorem Kn (l:List Ft) (x:Ft):l.map Ft.row++[[i6 x.e,i6 x.l,i6 x.c]]=(l++[x]).map Ft.row:=by rw[List.map_append];rfl
def bS (C M:Id):AV:= .agg [.ptr C 0,.mref M]
def a8 (K:List (List UInt8)):List AV:=[.mpv (aI kS (aA K))]
def bN (f:List Ft):List AV:=[.sl (f.map Ft.row)]
theorem gD (C:Id) (e l c:Int) (f:List Ft) (d:Nat) (hb:C.isIt=false) (hbd:C.isNw d=false) (hl:f.length<=10000000):ba Tryz.prog gl 22 d ⟨[.ptr C 0,i6 e,.agg [i6 l,i6 c]],[(C,bN f)],[(.b C 0,3)]⟩ ⟨.tup [],[(C,bN (f++[⟨e,l,c⟩]))],[(.b C 0,3)]⟩:=by
 refine Un rfl ?_;have hib:=ae hbd;have hlim:nD=140737488355328:=rfl;have h3:=Ho f;have hll:((f.map Ft.row).length+1)*24<=nD:=by rw[hlim,tN];omega
 unfold bN;rw[<-Kn f ⟨e,l,c⟩];generalize f.map Ft.row=F at*;simp only[ar,aW,aP,AV.mp,aY,Pl.mp];simp[SX];refine ⟨hll,h3,?_⟩;refine bh ?_;constructor<;>simp[hib,hb]
def iI (K:List (List UInt8)) (n:List UInt8) (v lo hi:Nat):Int:=if K.count n≠0 then 18 else if v<lo\/hi<v then 8 else 0
theorem mj (C M:Id) (x:It) (K:List (List UInt8)) (v lo hi:Nat) (d:Nat) (hm:M.isIt=true) (hmd:M.isNw d=false) (h0:iI K x.nm v lo hi=0):
  ba Tryz.prog gl 50 d ⟨[bS C M,.agg x.row,u v,u lo,u hi],[(M,a8 K)],[]⟩ ⟨u v,[(M,a8 (K++[x.nm]))],[]⟩:=by
 refine UP rfl ?_;have hib:=ae hmd;have w1:IntKind.i64.wrap 1=1:=by rw[aL]<;>omega
 have U:=fun e d=>bZ e d
 have h1:K.count x.nm=0/\lo<=v/\v<=hi:=by
  unfold iI at h0;split at h0
  ·cases h0
  ·split at h0
   ·cases h0
   ·omega
 obtain ⟨k0,k1,k2⟩:=h1;have k1':(lo:Int)<=v:=by omega
 have k2':(v:Int)<=hi:=by omega
 rcases fD K x.nm with ⟨a,q1,q2,q3⟩|⟨j,a,q1,q2⟩
 ·unfold a8 bS;rw[q2];rw[aw];generalize aI kS (aA K)=G,(aA K).length=j,x.nm=nm,ab x.kd=KR,List.map Tk.row x.ws=WR,x.pl.1=pl,x.pl.2=pc,x.bk=bk at*;simp only[kS] at q1 q2 q3 ⊢;simp only[ar,aW,aP,AV.mp,aY,Pl.mp] at*;simp[Nm,hm,q1];refine aZ _ _ (U 18 _) (by constructor<;>simp[hm]) ?_
  simp[k1,k2,k1',k2'];refine aZ _ _ (U 8 _) (by constructor<;>simp[hm]) ?_
  simp[hm,q1,w1];apply ah<;>simp[hib,hm]
 ·omega
theorem ml (C M:Id) (x:It) (K:List (List UInt8)) (v lo hi:Nat) (d:Nat) (hm:M.isIt=true) (hmd:M.isNw d=false) (h0:iI K x.nm v lo hi≠0):
  di Tryz.prog gl 50 d ⟨[bS C M,.agg x.row,u v,u lo,u hi],[(M,a8 K)],[]⟩ ⟨bE (iI K x.nm v lo hi),[(M,a8 K)],[]⟩:=by
 refine UO rfl ?_;have hib:=ae hmd;have U:=fun e d=>bZ e d
 have UT:=fun e d=>eM e d
 have key:=fD K x.nm;rw[aw];unfold a8 bS bE at*;unfold iI at*;generalize aI kS (aA K)=G,x.nm=nm,ab x.kd=KR,List.map Tk.row x.ws=WR,x.pl.1=pl,x.pl.2=pc,x.bk=bk at*;simp only[kS] at key;simp only[ar,aW,aP,AV.mp,aY,Pl.mp] at*;rcases key with ⟨a,q1,-,-⟩|⟨j,a,q1,-⟩
 ·rw[if_neg (by omega)] at h0 ⊢;have hr:v<lo\/hi<v:=Decidable.byContradiction fun g=>h0 (if_neg g)
  rw[if_pos hr];clear h0;simp[Nm,hm,q1];refine aZ _ _ (U 18 _) (by constructor<;>simp[hm]) ?_
  by_cases g:(lo:Int)<=v
  ·have g2: ¬(v:Int)<=hi:=by omega
   simp[g,g2];refine bj _ _ (UT 8 _) (by constructor<;>simp[hm]) rfl ?_
   refine ⟨rfl,by simp,?_⟩;constructor<;>simp[hib,hm]
  ·simp[g];refine bj _ _ (UT 8 _) (by constructor<;>simp[hm]) rfl ?_
   refine ⟨rfl,by simp,?_⟩;constructor<;>simp[hib,hm]
 ·rw[if_pos (by omega)];have a':(((List.count nm K:Nat):Int)==0)=false:=cH.2 (by omega);clear h0;simp[Nm,hm,q1,a'];refine bj _ _ (UT 18 _) (by constructor<;>simp[hm]) rfl ?_
  refine ⟨rfl,by simp,?_⟩;constructor<;>simp[hib,hm]
theorem gE (x:It) (ks:List Int) (hk:ks.length<=100000) (hw:x.ws.length<=100000):Sp Tryz.prog gl 26 [.agg x.row,.sl (ks.map fun k=>[i6 k])] (.bool (x.ws.map Tk.k==ks)):=by
 refine Ur rfl (by rw[aw];rfl) ?_;rw[aw];generalize x.nm=nm,ab x.kd=KR,x.pl.1=pl,x.pl.2=pc,x.bk=bk,x.ws=ws at*;simp[Ta];by_cases hl:ws.length=ks.length
 ·have hl':((ws.length:Int)!=ks.length)=false:=by simp[hl]
  simp[hl'];obtain ⟨B,hB⟩: ∃B,B=(ws.map Tk.k==ks):=⟨_,rfl⟩;rw[<-hB];have rat: ∀(i:Nat) (h:i<ws.length) (h2:i<(ws.map Tk.row).length),(ws.map Tk.row)[i]=ws[i].row:=fun i h h2=>List.getElem_map _
  have kat: ∀(i:Nat) (h:i<ks.length) (h2:i<(ks.map fun k=>[i6 k]).length),(ks.map fun k=>[i6 k])[i]=[i6 ks[i]]:=fun i h h2=>List.getElem_map _
  have hWl:(ws.map Tk.row).length=ws.length:=tN _;have hKl:(ks.map fun k=>[i6 k]).length=ks.length:=tN _;generalize List.map Tk.row ws=WR,(List.map (fun k=>[i6 k]) ks)=KK at*;refine cP (α:=Nat) (fun i=>⟨[(1,.sl KK),(2,.ptr (.n 2) 0),(13,.sl KK),(14,i6 ks.length),(15,i6 i)],[(.n 2,[.str nm,.sl WR,.bool bk,.sl KR,i6 pl,i6 pc])],[]⟩) (fun i=>i<=ks.length/\B=((ws.drop i).map Tk.k==ks.drop i)) (fun i=>ks.length - i) ?_ 0 ⟨jq _,by rw[Gc,Gc];exact hB⟩ ?_
  ·rintro K i hK ⟨h1,h2⟩;by_cases g:i<ks.length
   ·have t1:IntKind.i64.wrap ((i:Int)+1)=(i+1:Nat):=by rw[aL]<;>omega
    have g':(i:Int)<ks.length:=by omega
    have gw:i<ws.length:=by omega
    have gR:i<WR.length:=by omega
    have gK:i<KK.length:=by omega
    have rai:=rat i gw gR;have kai:=kat i g gK;rw[xI g,xI gw,fZ] at h2;have fin:=fun h4 σ' hσ=>hK (i+1) σ' ⟨by omega,h4⟩ (by omega) hσ
    clear hK rat kat hB;generalize ws[i]=w,ks[i]=k at*;obtain ⟨wk,wt,wn,wl,wc⟩:=w;simp only[Tk.row] at rai h2;by_cases e:wk=k
    ·have e':(wk !=k)=false:=by simp[e]
     subst e;have h2:B=((ws.drop (i+1)).map Tk.k==ks.drop (i+1)):=by rw[h2];simp
     simp[g,g',gw,gR,gK,rai,kai,e'];refine fin h2 _ ?_;apply aC<;>simp[t1]
    ·have e':(wk !=k)=true:=by simpa using e
     have h2:B=false:=by rw[h2];simp[e]
     subst h2;simp[g,g',gw,gR,gK,rai,kai,e',hWl]
   ·obtain rfl:i=ks.length:=by omega
    rw[N6,Co (by omega)] at h2;have h2:B=true:=h2;subst h2;clear hK;simp
  ·apply aC<;>simp[hKl]
 ·have hl':((ws.length:Int)!=ks.length)=true:=by simpa using fun h=>hl (by omega)
  have hB:(ws.map Tk.k==ks)=false:=by
   rw[cH];intro h;exact hl (by rw[<-h,tN])
  rw[hB];generalize List.map Tk.row ws=WR at*;simp[hl']
def Hp (K:List (List UInt8)) (n w:List UInt8) (most:Nat):Int:=if K.count (de n w)≠0 then 18 else if most<=K.count n then 9 else 0
theorem Ko (n w:List UInt8):de n w≠n:=fun h=>by
 have:=congrArg List.length h
 unfold de at this;rw[fT,e7] at this;omega
theorem sj (C M:Id) (x:It) (t:Tk) (r:List Tk) (K:List (List UInt8)) (most:Nat) (d:Nat) (hm:M.isIt=true) (hmd:M.isNw d=false) (hw:x.ws=t::r) (hk:t.k=1) (h0:Hp K x.nm t.t most=0) (hmo:most<=1000) (hl:x.nm.length+t.t.length<=100000000):
  ba Tryz.prog gl 27 d ⟨[bS C M,.agg x.row,i6 most],[(M,a8 K)],[]⟩ ⟨.str t.t,[(M,a8 (K++[de x.nm t.t]++[x.nm]))],[]⟩:=by
 refine Ut rfl ?_;have hib:=ae hmd;have w1:IntKind.i64.wrap 1=1:=by rw[aL]<;>omega
 have U:=fun e d=>bZ e d
 have V:=fun d=>(kR t).h (d:=d)
 have hne:=Ko x.nm t.t;have L1:x.nm.length<=9223372036854775806:=by omega
 have L2:x.nm.length+1+t.t.length<=9223372036854775807:=by omega
 have h1:K.count (de x.nm t.t)=0/\K.count x.nm<most:=by
  unfold Hp at h0;split at h0
  ·cases h0
  ·split at h0
   ·cases h0
   ·omega
 obtain ⟨k0,k1⟩:=h1;have k1':((K.count x.nm:Nat):Int)<most:=by omega
 have kc:(K++[de x.nm t.t]).count x.nm=K.count x.nm:=by
  rw[List.count_append,List.count_singleton,if_neg (by simpa using hne)];rfl
 have hw2:IntKind.i64.wrap (((K.count x.nm:Nat):Int)+1)=((K.count x.nm+1:Nat):Int):=by rw[aL]<;>omega
 have ke1:=fD K (de x.nm t.t);have ke2:=fD K x.nm;have ke3:=fD (K++[de x.nm t.t]) x.nm;rw[kc] at ke3;rw[aw,hw];unfold t7 at V;rw[if_pos hk] at V;have hf:x.nm++32::t.t=de x.nm t.t:=rfl;unfold a8 bS at*;generalize de x.nm t.t=fu at*;rcases ke1 with ⟨a,q1,q2,q3⟩|⟨j,a,q1,q2⟩
 rotate_left
 ·omega
 rw[q2] at ke3;generalize aI kS (aA (K++[fu]++[x.nm]))=G2,aI kS (aA K)=G at*;generalize x.nm=nm,ab x.kd=KR,x.pl.1=pl,x.pl.2=pc,x.bk=bk at*;obtain ⟨tk,tt,tn,tl,tc⟩:=t;simp only[kS,fZ,Tk.row] at*;generalize List.map Tk.row r=WR at*;simp only[ar,aW,aP,AV.mp,aY,Pl.mp] at*;rcases ke2 with ⟨a2,p1,-,-⟩|⟨j2,a2,p1,-⟩
 ·rcases ke3 with ⟨a3,s1,s2,s3⟩|⟨j3,a3,s1,s2⟩
  rotate_left
  ·omega
  have k2:0<most:=by omega
  simp[Lt,hm];refine aE _ _ (V _) (by constructor<;>simp[hm]) ?_
  simp[hm,L1,L2,hf,q1];refine aZ _ _ (U 18 _) (by constructor<;>simp[hm]) ?_
  simp[hm,p1,k2];refine aZ _ _ (U 9 _) (by constructor<;>simp[hm]) ?_
  simp[hm,q1,w1,s1];apply ah<;>simp[hib,hm,s2]
 ·rcases ke3 with ⟨a3,s1,s2,s3⟩|⟨j3,a3,s1,s2⟩
  ·omega
  push_cast at s2 hw2
  simp[Lt,hm];refine aE _ _ (V _) (by constructor<;>simp[hm]) ?_
  simp[hm,L1,L2,hf,q1];refine aZ _ _ (U 18 _) (by constructor<;>simp[hm]) ?_
  simp[hm,p1,k1'];refine aZ _ _ (U 9 _) (by constructor<;>simp[hm]) ?_
  simp[hm,q1,w1,s1,hw2];apply ah<;>simp[hib,hm,s2]
theorem sn (C M:Id) (x:It) (t:Tk) (r:List Tk) (K:List (List UInt8)) (most:Nat) (d:Nat) (hm:M.isIt=true) (hmd:M.isNw d=false) (hw:x.ws=t::r) (hk:t.k=1) (h0:Hp K x.nm t.t most≠0) (hl:x.nm.length+t.t.length<=100000000):
  di Tryz.prog gl 27 d ⟨[bS C M,.agg x.row,i6 most],[(M,a8 K)],[]⟩ ⟨bE (Hp K x.nm t.t most),[(M,a8 K)],[]⟩:=by
 refine Us rfl ?_;have hib:=ae hmd;have U:=fun e d=>bZ e d
 have UT:=fun e d=>eM e d
 have V:=fun d=>(kR t).h (d:=d)
 have L1:x.nm.length<=9223372036854775806:=by omega
 have L2:x.nm.length+1+t.t.length<=9223372036854775807:=by omega
 have ke1:=fD K (de x.nm t.t);have ke2:=fD K x.nm;rw[aw,hw];unfold t7 at V;rw[if_pos hk] at V;have hf:x.nm++32::t.t=de x.nm t.t:=rfl;unfold a8 bS bE at*;unfold Hp at*;generalize de x.nm t.t=fu,aI kS (aA K)=G at*;generalize x.nm=nm,ab x.kd=KR,x.pl.1=pl,x.pl.2=pc,x.bk=bk at*;obtain ⟨tk,tt,tn,tl,tc⟩:=t;simp only[kS,fZ,Tk.row] at*;generalize List.map Tk.row r=WR at*;simp only[ar,aW,aP,AV.mp,aY,Pl.mp] at*;rcases ke1 with ⟨a,q1,-,-⟩|⟨j,a,q1,-⟩
 ·rw[if_neg (by omega)] at h0 ⊢;have hr:most<=List.count nm K:=Decidable.byContradiction fun g=>h0 (if_neg g)
  rw[if_pos hr];clear h0;rcases ke2 with ⟨a2,p1,-,-⟩|⟨j2,a2,p1,-⟩
  ·have k2: ¬0<most:=by omega
   simp[Lt,hm];refine aE _ _ (V _) (by constructor<;>simp[hm]) ?_
   simp[hm,L1,L2,hf,q1];refine aZ _ _ (U 18 _) (by constructor<;>simp[hm]) ?_
   simp[hm,p1,k2];refine bj _ _ (UT 9 _) (by constructor<;>simp[hm]) rfl ?_
   refine ⟨rfl,by simp,?_⟩;constructor<;>simp[hib,hm]
  ·have k2: ¬((List.count nm K:Nat):Int)<most:=by omega
   simp[Lt,hm];refine aE _ _ (V _) (by constructor<;>simp[hm]) ?_
   simp[hm,L1,L2,hf,q1];refine aZ _ _ (U 18 _) (by constructor<;>simp[hm]) ?_
   simp[hm,p1,k2];refine bj _ _ (UT 9 _) (by constructor<;>simp[hm]) rfl ?_
   refine ⟨rfl,by simp,?_⟩;constructor<;>simp[hib,hm]
 ·rw[if_pos (by omega)];have a':(((List.count fu K:Nat):Int)==0)=false:=cH.2 (by omega);clear h0;simp[Lt,hm];refine aE _ _ (V _) (by constructor<;>simp[hm]) ?_
  simp[hm,L1,L2,hf,q1,a'];refine bj _ _ (UT 18 _) (by constructor<;>simp[hm]) rfl ?_
  refine ⟨rfl,by simp,?_⟩;constructor<;>simp[hib,hm]
def ss (q:Int):Nat:=if q=1 then 104 else if q=2 then 109 else if q=3 then 134 else if q=4 then 135 else if q=5 then 136 else 137
def AJ (t:Tk):AV:=if t.k=1\/t.k=2 then .str t.t else u t.n
theorem fq (t:Tk):t7 t= .ifc (ss t.k) (AJ t):=by
 unfold t7 ss AJ;by_cases h1:t.k=1
 ·simp[h1]
 by_cases h2:t.k=2
 ·simp[h2]
 by_cases h3:t.k=3
 ·simp[h3]
 by_cases h4:t.k=4
 ·simp[h4]
 by_cases h5:t.k=5
 ·simp[h5]
 simp[h1,h2,h3,h4,h5]
theorem wH (t:Tk):(AJ t).ids=[]:=by
 unfold AJ;split<;>simp[AV.ids]
theorem wI {a b:Int} (ha:1<=a/\a<=6) (hb:1<=b/\b<=6) (h:a≠b):ss a≠ss b:=by
 have ea:a=1\/a=2\/a=3\/a=4\/a=5\/a=6:=by omega
 have eb:b=1\/b=2\/b=3\/b=4\/b=5\/b=6:=by omega
 rcases ea with rfl|rfl|rfl|rfl|rfl|rfl<;>rcases eb with rfl|rfl|rfl|rfl|rfl|rfl<;>first|(exfalso;omega)|decide
def lf (q:Int) (x:It):Bool:=!x.bk&&(match x.ws with |[t]=>t.k==q|_=>false)
def n1 (x:It):Nat:=(x.ws.headD ⟨0,[],0,0,0⟩).n
theorem kg {q:Int} {x:It} (h:lf q x=true):x.bk=false/\ ∃t,x.ws=[t]/\t.k=q/\n1 x=t.n:=by
 unfold lf at h;rw[aJ] at h;obtain ⟨h1,h2⟩:=h;refine ⟨by simpa using h1,?_⟩;unfold n1;split at h2
 ·rename_i t e;rw[e];exact ⟨t,rfl,by simpa using h2,rfl⟩
 ·cases h2
theorem BJ {q:Int} {x:It} (h:lf q x=false):(x.bk=true\/x.ws.length≠1)\/(x.bk=false/\ ∃t,x.ws=[t]/\t.k≠q):=by
 unfold lf at h;cases hb:x.bk with
 |true=>exact .inl (.inl rfl)
 |false=>
  rw[hb] at h;split at h
  ·rename_i t e;refine .inr ⟨rfl,t,e,by simpa using h⟩
  ·rename_i e;refine .inl (.inr fun hl=>?_);obtain ⟨t,ht⟩:=List.length_eq_one_iff.1 hl;exact e t ht
def ND (T:Nat) (k:IntKind):lM:=
 (.sq (.c (.rg [.bx 4 (.s 0),.bx 5 (.s 1),.mv 8 (.c (.int k 0))]))
  (.sq (.rp [.lda 12 6 (.s 5)] (.ce 13 75 [(.s 12)]) [.ta 14 T (.int .u64 0) (.s 13) true,.mv 11 (.s 14),.exq 15 (.s 11) 0,.exq 16 (.s 11) 1,.mv 9 (.s 15),.mv 10 (.s 16)])
  (.sq (.rp [.mv 17 (.s 10)] (.ce 18 25 [(.s 17),(.c (.int .i64 6))]) [])
  (.sq (.rp [.lda 19 2 (.s 4),.lda 20 6 (.s 5),.mv 21 (.s 9),.mv 22 (.s 2),.mv 23 (.s 3)] (.ce 24 50 [(.s 19),(.s 20),(.s 21),(.s 22),(.s 23)]) [.cv 25 k (.s 24),.mv 8 (.s 25)])
  (.c .rt)))))
def mQ (q:Int) (K:List (List UInt8)) (x:It) (lo hi:Nat):Int:=if lf q x=false then 6 else iI K x.nm (n1 x) lo hi
theorem Hq (q:Int) (k:IntKind) (C M:Id) (x:It) (K:List (List UInt8)) (lo hi d:Nat) (hq:3<=q) (hm:M.isIt=true) (hmd:M.isNw d=false) (h0:mQ q K x lo hi=0) (hk:k.wrap (n1 x:Nat)=(n1 x:Nat)) (R:AV->St->Prop):
  bu (ba Tryz.prog gl) (di Tryz.prog gl) R (ND (ss q) k) (bH d [.t 8] ⟨.int k (n1 x),[(M,a8 (K++[x.nm]))],[]⟩) (ar ⟨[bS C M,.agg x.row,u lo,u hi],[(M,a8 K)],[]⟩):=by
 have hib:=ae hmd;have hlf:lf q x=true:=by
  unfold mQ at h0;split at h0
  ·cases h0
  ·rename_i h;simpa using h
 have h0:iI K x.nm (n1 x) lo hi=0:=by
  unfold mQ at h0;rwa [if_neg (by rw[hlf];decide)] at h0
 obtain ⟨hb,t,hw,htk,hn⟩:=kg hlf;have U:=fun e d=>bZ e d
 have SI:=fun d=>dF x t d hb hw
 have NU:=fun h=>mj C.up M.up x K (n1 x) lo hi 24 hm h h0
 rw[fq,htk] at SI;have hp:AJ t=u t.n:=if_neg (by omega);rw[hp,<-hn] at SI;generalize n1 x=v,ss q=T at*;unfold a8 bS ND at*;rw[aw] at*;generalize aI kS (aA K)=G,aI kS (aA (K++[x.nm]))=G2,ab x.kd=KR,List.map Tk.row x.ws=WR at*;generalize x.nm=nm at*;simp only[ar,aW,aP,AV.mp,aY,Pl.mp] at*;clear h0 hlf;simp;refine aZ _ _ (SI _) (by constructor<;>simp[hm]) ?_
 simp[hm];refine aZ _ _ (U 6 _) (by constructor<;>simp[hm]) ?_
 simp[hm];refine aZ _ _ (NU rfl) (by constructor<;>simp[hm]) ?_
 simp[hm,hk];apply ah<;>simp[hib,hm]
theorem Hr (q:Int) (k:IntKind) (C M:Id) (x:It) (K:List (List UInt8)) (lo hi d:Nat) (hq:3<=q/\q<=6) (hx: ∀t∈x.ws,1<=t.k/\t.k<=6) (hm:M.isIt=true) (hmd:M.isNw d=false) (h0:mQ q K x lo hi≠0) (Q:AE->St->Prop):
  bu (ba Tryz.prog gl) (di Tryz.prog gl) (dM d ⟨bE (mQ q K x lo hi),[(M,a8 K)],[]⟩) (ND (ss q) k) Q (ar ⟨[bS C M,.agg x.row,u lo,u hi],[(M,a8 K)],[]⟩):=by
 have hib:=ae hmd;have UT:=fun e d=>eM e d
 have U:=fun e d=>bZ e d
 unfold mQ at*;cases hlf:lf q x with
 |false=>
  rw[if_pos rfl];rcases BJ hlf with hs|⟨hb,t,hw,htk⟩
  ·have SI:=fun d=>px x d hs
   generalize ss q=T at*;unfold a8 bS ND bE at*;rw[aw] at*;generalize aI kS (aA K)=G,ab x.kd=KR,List.map Tk.row x.ws=WR at*;simp only[ar,aW,aP,AV.mp,aY,Pl.mp] at*;simp;refine bj _ _ (SI _) (by constructor<;>simp[hm]) rfl ?_
   refine ⟨rfl,by simp,?_⟩;constructor<;>simp[hib,hm]
  ·have SI:=fun d=>dF x t d hb hw
   rw[fq] at SI;have hT:=wI (hx t (by rw[hw];simp)) (show 1<=q/\q<=6 by omega) htk;have hid:=wH t;have hmp:=fun f=>jc (f:=f) hid
   generalize AJ t=W,ss t.k=T2,ss q=T at*;unfold a8 bS ND bE at*;rw[aw] at*;generalize aI kS (aA K)=G,ab x.kd=KR,List.map Tk.row x.ws=WR at*;simp only[ar,aW,aP,AV.mp,aY,Pl.mp] at*;simp;refine aZ _ _ (SI _) (by constructor<;>simp[hm,hid,hmp]) ?_
   simp[hm,hT,hid,hmp];refine bj _ _ (UT 6 _) (by constructor<;>simp[hm]) rfl ?_
   refine ⟨rfl,by simp,?_⟩;constructor<;>simp[hib,hm]
 |true=>
  rw[hlf] at h0;rw[if_neg (by decide)] at h0 ⊢;obtain ⟨hb,t,hw,htk,hn⟩:=kg hlf;have SI:=fun d=>dF x t d hb hw
  have NU:=fun h=>ml C.up M.up x K (n1 x) lo hi 24 hm h h0
  rw[fq,htk] at SI;have hp:AJ t=u t.n:=if_neg (by omega);rw[hp,<-hn] at SI;generalize n1 x=v at*;generalize iI K x.nm v lo hi=e,ss q=T at*;unfold a8 bS ND bE at*;rw[aw] at*;generalize aI kS (aA K)=G,ab x.kd=KR,List.map Tk.row x.ws=WR at*;simp only[ar,aW,aP,AV.mp,aY,Pl.mp] at*;clear h0 hlf;simp;refine aZ _ _ (SI _) (by constructor<;>simp[hm]) ?_
  simp[hm];refine aZ _ _ (U 6 _) (by constructor<;>simp[hm]) ?_
  simp[hm];refine bj _ _ (NU rfl) (by constructor<;>simp[hm]) rfl ?_
  refine ⟨rfl,by simp,?_⟩;constructor<;>simp[hib,hm]
theorem gO (C M:Id) (x:It) (K:List (List UInt8)) (lo hi d:Nat) (hm:M.isIt=true) (hmd:M.isNw d=false) (h0:mQ 6 K x lo hi=0) (hk:n1 x<9223372036854775808):
  ba Tryz.prog gl 47 d ⟨[bS C M,.agg x.row,u lo,u hi],[(M,a8 K)],[]⟩ ⟨i6 (n1 x),[(M,a8 (K++[x.nm]))],[]⟩:=by
 refine UK rfl ?_;exact Hq 6 .i64 C M x K lo hi d (by decide) hm hmd h0 (by rw[aL]<;>omega) _
theorem gP (C M:Id) (x:It) (K:List (List UInt8)) (lo hi d:Nat) (hx: ∀t∈x.ws,1<=t.k/\t.k<=6) (hm:M.isIt=true) (hmd:M.isNw d=false) (h0:mQ 6 K x lo hi≠0):
  di Tryz.prog gl 47 d ⟨[bS C M,.agg x.row,u lo,u hi],[(M,a8 K)],[]⟩ ⟨bE (mQ 6 K x lo hi),[(M,a8 K)],[]⟩:=by
 refine UJ rfl ?_;exact Hr 6 .i64 C M x K lo hi d (by decide) hx hm hmd h0 _
theorem zw (C M:Id) (x:It) (K:List (List UInt8)) (lo hi d:Nat) (hm:M.isIt=true) (hmd:M.isNw d=false) (h0:mQ 3 K x lo hi=0) (hk:n1 x<9223372036854775808):
  ba Tryz.prog gl 52 d ⟨[bS C M,.agg x.row,u lo,u hi],[(M,a8 K)],[]⟩ ⟨i6 (n1 x),[(M,a8 (K++[x.nm]))],[]⟩:=by
 refine US rfl ?_;exact Hq 3 .i64 C M x K lo hi d (by decide) hm hmd h0 (by rw[aL]<;>omega) _
theorem zx (C M:Id) (x:It) (K:List (List UInt8)) (lo hi d:Nat) (hx: ∀t∈x.ws,1<=t.k/\t.k<=6) (hm:M.isIt=true) (hmd:M.isNw d=false) (h0:mQ 3 K x lo hi≠0):
  di Tryz.prog gl 52 d ⟨[bS C M,.agg x.row,u lo,u hi],[(M,a8 K)],[]⟩ ⟨bE (mQ 3 K x lo hi),[(M,a8 K)],[]⟩:=by
 refine UR rfl ?_;exact Hr 3 .i64 C M x K lo hi d (by decide) hx hm hmd h0 _
theorem Hs (C M:Id) (x:It) (K:List (List UInt8)) (lo hi d:Nat) (hm:M.isIt=true) (hmd:M.isNw d=false) (h0:mQ 5 K x lo hi=0) (hk:n1 x<4294967296):
  ba Tryz.prog gl 46 d ⟨[bS C M,.agg x.row,u lo,u hi],[(M,a8 K)],[]⟩ ⟨.int .u32 (n1 x),[(M,a8 (K++[x.nm]))],[]⟩:=by
 refine UI rfl ?_;exact Hq 5 .u32 C M x K lo hi d (by decide) hm hmd h0 (by rw[yQ]<;>omega) _
theorem Ht (C M:Id) (x:It) (K:List (List UInt8)) (lo hi d:Nat) (hx: ∀t∈x.ws,1<=t.k/\t.k<=6) (hm:M.isIt=true) (hmd:M.isNw d=false) (h0:mQ 5 K x lo hi≠0):
  di Tryz.prog gl 46 d ⟨[bS C M,.agg x.row,u lo,u hi],[(M,a8 K)],[]⟩ ⟨bE (mQ 5 K x lo hi),[(M,a8 K)],[]⟩:=by
 refine t46 rfl ?_;exact Hr 5 .u32 C M x K lo hi d (by decide) hx hm hmd h0 _
def mG (x:It):Nat:=match x.ws with
 |t::_=>if t.k=3 then 1000*(if 1000000<t.n then 1000000 else t.n) else t.n
 |[]=>0
def Eu (K:List (List UInt8)) (x:It):Int:=if lf 4 x=false/\lf 3 x=false then 6 else iI K x.nm (mG x) 1 1000000
theorem Ev (C M:Id) (x:It) (K:List (List UInt8)) (d:Nat) (hm:M.isIt=true) (hmd:M.isNw d=false) (h0:Eu K x=0):
  ba Tryz.prog gl 77 d ⟨[bS C M,.agg x.row],[(M,a8 K)],[]⟩ ⟨u (mG x),[(M,a8 (K++[x.nm]))],[]⟩:=by
 refine Ve rfl ?_;have hib:=ae hmd;have hl:lf 4 x=true\/lf 3 x=true:=by
  unfold Eu at h0;cases h4:lf 4 x with
  |true=>exact .inl rfl
  |false=>
   cases h3:lf 3 x with
   |true=>exact .inr rfl
   |false=>rw[if_pos ⟨h4,h3⟩] at h0;cases h0
 have h0:iI K x.nm (mG x) 1 1000000=0:=by
  unfold Eu at h0;rwa [if_neg (by rintro ⟨a,b⟩;rcases hl with h|h;rw[h] at a;cases a;rw[h] at b;cases b)] at h0
 have NU:=fun h=>mj C.up M.up x K (mG x) 1 1000000 25 hm h h0
 rcases hl with hlf|hlf
 ·obtain ⟨hb,t,hw,htk,hn⟩:=kg hlf;have SI:=fun d=>dF x t d hb hw
  have hv:mG x=t.n:=by unfold mG;rw[hw];exact if_neg (by omega)
  rw[fq,htk] at SI;have hp:AJ t=u t.n:=if_neg (by omega);have hT:ss 4=135:=rfl;rw[hp,<-hv,hT] at SI;clear hT;generalize mG x=v at*;unfold a8 bS at*;rw[aw] at*;generalize aI kS (aA K)=G,aI kS (aA (K++[x.nm]))=G2,ab x.kd=KR,List.map Tk.row x.ws=WR at*;generalize x.nm=nm at*;simp only[ar,aW,aP,AV.mp,aY,Pl.mp] at*;clear h0 hlf;simp[F4];refine aZ _ _ (SI _) (by constructor<;>simp[hm]) ?_
  simp[hm];refine aZ _ _ (NU rfl) (by constructor<;>simp[hm]) ?_
  simp[hm];apply ah<;>simp[hib,hm]
 ·obtain ⟨hb,t,hw,htk,hn⟩:=kg hlf;have SI:=fun d=>dF x t d hb hw
  have hv:mG x=1000*(if 1000000<t.n then 1000000 else t.n):=by unfold mG;rw[hw];exact if_pos htk
  rw[fq,htk] at SI;have hp:AJ t=u t.n:=if_neg (by omega);have hT:ss 3=134:=rfl;rw[hp,hT] at SI;have hw1:1000000<t.n->IntKind.u64.wrap 1000000000=((mG x:Nat):Int):=fun g=>by
   rw[hv,if_pos g,fh]<;>omega
  have hw2: ¬1000000<t.n->IntKind.u64.wrap (1000*(t.n:Int))=((mG x:Nat):Int):=fun g=>by
   rw[hv,if_neg g,fh]<;>omega
  clear hT hv;generalize mG x=v at*;unfold a8 bS at*;rw[aw] at*;generalize aI kS (aA K)=G,aI kS (aA (K++[x.nm]))=G2,ab x.kd=KR,List.map Tk.row x.ws=WR at*;generalize x.nm=nm at*;simp only[ar,aW,aP,AV.mp,aY,Pl.mp] at*;clear h0 hlf;by_cases g:1000000<t.n
  ·have hw1:=hw1 g;have g':(1000000:Int)<t.n:=by omega
   simp[F4];refine aZ _ _ (SI _) (by constructor<;>simp[hm]) ?_
   simp[hm,g,g'];refine aZ _ _ (NU rfl) (by constructor<;>simp[hm,hw1,g,g']) ?_
   simp[hm,hw1];apply ah<;>simp[hib,hm]
  ·have hw2:=hw2 g;have g': ¬(1000000:Int)<t.n:=by omega
   simp[F4];refine aZ _ _ (SI _) (by constructor<;>simp[hm]) ?_
   simp[hm,g,g'];refine aZ _ _ (NU rfl) (by constructor<;>simp[hm,hw2,g,g']) ?_
   simp[hm,hw2];apply ah<;>simp[hib,hm]
theorem Ew (C M:Id) (x:It) (K:List (List UInt8)) (d:Nat) (hx: ∀t∈x.ws,1<=t.k/\t.k<=6) (hm:M.isIt=true) (hmd:M.isNw d=false) (h0:Eu K x≠0):
  di Tryz.prog gl 77 d ⟨[bS C M,.agg x.row],[(M,a8 K)],[]⟩ ⟨bE (Eu K x),[(M,a8 K)],[]⟩:=by
 refine Vd rfl ?_;have hib:=ae hmd;by_cases hno:lf 4 x=false/\lf 3 x=false
 ·unfold Eu;rw[if_pos hno];rcases BJ hno.1 with hs|⟨hb,t,hw,htk⟩
  ·have SI:=fun d=>px x d hs
   unfold a8 bS bE at*;rw[aw] at*;generalize aI kS (aA K)=G,ab x.kd=KR,List.map Tk.row x.ws=WR at*;simp only[ar,aW,aP,AV.mp,aY,Pl.mp] at*;simp[F4];refine bj _ _ (SI _) (by constructor<;>simp[hm]) rfl ?_
   refine ⟨rfl,by simp,?_⟩;constructor<;>simp[hib,hm]
  ·have SI:=fun d=>dF x t d hb hw
   have htk3:t.k≠3:=fun e=>by
    have:=hno.2
    unfold lf at this;rw[hw,hb] at this;simp[e] at this
   rw[fq] at SI;have hT:=wI (hx t (by rw[hw];simp)) (show (1:Int)<=4/\(4:Int)<=6 by omega) htk;have hT3:=wI (hx t (by rw[hw];simp)) (show (1:Int)<=3/\(3:Int)<=6 by omega) htk3;rw[show ss 4=135 from rfl] at hT;rw[show ss 3=134 from rfl] at hT3;have hid:=wH t;have hmp:=fun f=>jc (f:=f) hid
   generalize AJ t=W,ss t.k=T2 at*;unfold a8 bS bE at*;rw[aw] at*;generalize aI kS (aA K)=G,ab x.kd=KR,List.map Tk.row x.ws=WR at*;simp only[ar,aW,aP,AV.mp,aY,Pl.mp] at*;simp[F4];refine aZ _ _ (SI _) (by constructor<;>simp[hm,hid,hmp]) ?_
   simp[hm,hT,hT3,hid,hmp];refine ⟨rfl,by simp,?_⟩;constructor<;>simp[hib,hm]
 ·have h0:iI K x.nm (mG x) 1 1000000≠0:=by
   unfold Eu at h0;rwa [if_neg hno] at h0
  have he:Eu K x=iI K x.nm (mG x) 1 1000000:=if_neg hno;rw[he];have NU:=fun h=>ml C.up M.up x K (mG x) 1 1000000 25 hm h h0
  have hl:lf 4 x=true\/lf 3 x=true:=by
   cases h4:lf 4 x with
   |true=>exact .inl rfl
   |false=>
    cases h3:lf 3 x with
    |true=>exact .inr rfl
    |false=>exact absurd ⟨h4,h3⟩ hno
  generalize iI K x.nm (mG x) 1 1000000=e at*;rcases hl with hlf|hlf
  ·obtain ⟨hb,t,hw,htk,hn⟩:=kg hlf;have SI:=fun d=>dF x t d hb hw
   have hv:mG x=t.n:=by unfold mG;rw[hw];exact if_neg (by omega)
   rw[fq,htk] at SI;have hp:AJ t=u t.n:=if_neg (by omega);have hT:ss 4=135:=rfl;rw[hp,<-hv,hT] at SI;clear hT;generalize mG x=v at*;unfold a8 bS bE at*;rw[aw] at*;generalize aI kS (aA K)=G,ab x.kd=KR,List.map Tk.row x.ws=WR at*;simp only[ar,aW,aP,AV.mp,aY,Pl.mp] at*;clear h0 hlf he;simp[F4];refine aZ _ _ (SI _) (by constructor<;>simp[hm]) ?_
   simp[hm];refine bj _ _ (NU rfl) (by constructor<;>simp[hm]) rfl ?_
   refine ⟨rfl,by simp,?_⟩;constructor<;>simp[hib,hm]
  ·obtain ⟨hb,t,hw,htk,hn⟩:=kg hlf;have SI:=fun d=>dF x t d hb hw
   have hv:mG x=1000*(if 1000000<t.n then 1000000 else t.n):=by unfold mG;rw[hw];exact if_pos htk
   rw[fq,htk] at SI;have hp:AJ t=u t.n:=if_neg (by omega);have hT:ss 3=134:=rfl;rw[hp,hT] at SI;have hw1:1000000<t.n->IntKind.u64.wrap 1000000000=((mG x:Nat):Int):=fun g=>by
    rw[hv,if_pos g,fh]<;>omega
   have hw2: ¬1000000<t.n->IntKind.u64.wrap (1000*(t.n:Int))=((mG x:Nat):Int):=fun g=>by
    rw[hv,if_neg g,fh]<;>omega
   clear hT hv he h0;generalize mG x=v at*;unfold a8 bS bE at*;rw[aw] at*;generalize aI kS (aA K)=G,ab x.kd=KR,List.map Tk.row x.ws=WR at*;simp only[ar,aW,aP,AV.mp,aY,Pl.mp] at*;clear hlf;by_cases g:1000000<t.n
   ·have hw1:=hw1 g;have g':(1000000:Int)<t.n:=by omega
    simp[F4];refine aZ _ _ (SI _) (by constructor<;>simp[hm]) ?_
    simp[hm,g,g'];refine bj _ _ (NU rfl) (by constructor<;>simp[hm,hw1,g,g']) rfl ?_
    refine ⟨rfl,by simp,?_⟩;constructor<;>simp[hib,hm]
   ·have hw2:=hw2 g;have g': ¬(1000000:Int)<t.n:=by omega
    simp[F4];refine aZ _ _ (SI _) (by constructor<;>simp[hm]) ?_
    simp[hm,g,g'];refine bj _ _ (NU rfl) (by constructor<;>simp[hm,hw2,g,g']) rfl ?_
    refine ⟨rfl,by simp,?_⟩;constructor<;>simp[hib,hm]
def su (K:List (List UInt8)) (x:It):Int:=if lf 1 x=false\/(w0 x.ws≠zc/\w0 x.ws≠FX) then 6 else iI K x.nm 0 0 0
theorem zy (C M:Id) (x:It) (K:List (List UInt8)) (d:Nat) (hm:M.isIt=true) (hmd:M.isNw d=false) (h0:su K x=0):
  ba Tryz.prog gl 48 d ⟨[bS C M,.agg x.row],[(M,a8 K)],[]⟩ ⟨i6 (if w0 x.ws=zc then 1 else 2),[(M,a8 (K++[x.nm]))],[]⟩:=by
 refine O7 rfl ?_;have hib:=ae hmd;have hc: ¬(lf 1 x=false\/(w0 x.ws≠zc/\w0 x.ws≠FX)):=fun h=>by
  unfold su at h0;rw[if_pos h] at h0;cases h0
 have h0:iI K x.nm 0 0 0=0:=by
  unfold su at h0;rwa [if_neg hc] at h0
 have hlf:lf 1 x=true:=by
  cases h:lf 1 x with
  |true=>rfl
  |false=>exact absurd (.inl h) hc
 have NU:=fun h=>mj C.up M.up x K 0 0 0 25 hm h h0
 obtain ⟨hb,t,hw,htk,-⟩:=kg hlf;have SI:=fun d=>dF x t d hb hw
 have U:=fun e d=>bZ e d
 rw[fq,htk] at SI;have hp:AJ t= .str t.t:=if_pos (.inl htk);rw[hp,show ss 1=104 from rfl] at SI;have hw0:w0 x.ws=t.t:=by rw[hw];rfl
 rw[hw0] at hc ⊢;have hc:t.t=zc\/t.t=FX:=Decidable.byContradiction fun g=>hc (.inr ⟨fun e=>g (.inl e),fun e=>g (.inr e)⟩)
 generalize t.t=s at*;unfold a8 bS at*;rw[aw] at*;generalize aI kS (aA K)=G,aI kS (aA (K++[x.nm]))=G2,ab x.kd=KR,List.map Tk.row x.ws=WR at*;generalize x.nm=nm at*;unfold zc FX at*;simp only[ar,aW,aP,AV.mp,aY,Pl.mp] at*;clear h0 hlf;rcases hc with rfl|rfl
 ·simp[Jn];refine aZ _ _ (SI _) (by constructor<;>simp[hm]) ?_
  simp[hm];refine aZ _ _ (U 6 _) (by constructor<;>simp[hm]) ?_
  simp[hm];refine aZ _ _ (NU rfl) (by constructor<;>simp[hm]) ?_
  simp[hm];apply ah<;>simp[hib,hm]
 ·simp[Jn];refine aZ _ _ (SI _) (by constructor<;>simp[hm]) ?_
  simp[hm];refine aZ _ _ (U 6 _) (by constructor<;>simp[hm]) ?_
  simp[hm];refine aZ _ _ (NU rfl) (by constructor<;>simp[hm]) ?_
  simp[hm];apply ah<;>simp[hib,hm]
theorem zB (C M:Id) (x:It) (K:List (List UInt8)) (d:Nat) (hx: ∀t∈x.ws,1<=t.k/\t.k<=6) (hm:M.isIt=true) (hmd:M.isNw d=false) (h0:su K x≠0):
  di Tryz.prog gl 48 d ⟨[bS C M,.agg x.row],[(M,a8 K)],[]⟩ ⟨bE (su K x),[(M,a8 K)],[]⟩:=by
 refine UL rfl ?_;have hib:=ae hmd;have U:=fun e d=>bZ e d
 have UT:=fun e d=>eM e d
 cases hlf:lf 1 x with
 |false=>
  have he:su K x=6:=if_pos (.inl hlf);rw[he];rcases BJ hlf with hs|⟨hb,t,hw,htk⟩
  ·have SI:=fun d=>px x d hs
   unfold a8 bS bE at*;rw[aw] at*;generalize aI kS (aA K)=G,ab x.kd=KR,List.map Tk.row x.ws=WR at*;simp only[ar,aW,aP,AV.mp,aY,Pl.mp] at*;simp[Jn];refine bj _ _ (SI _) (by constructor<;>simp[hm]) rfl ?_
   refine ⟨rfl,by simp,?_⟩;constructor<;>simp[hib,hm]
  ·have SI:=fun d=>dF x t d hb hw
   rw[fq] at SI;have hT:=wI (hx t (by rw[hw];simp)) (show (1:Int)<=1/\(1:Int)<=6 by omega) htk;rw[show ss 1=104 from rfl] at hT;have hid:=wH t;have hmp:=fun f=>jc (f:=f) hid
   generalize AJ t=W,ss t.k=T2 at*;unfold a8 bS bE at*;rw[aw] at*;generalize aI kS (aA K)=G,ab x.kd=KR,List.map Tk.row x.ws=WR at*;simp only[ar,aW,aP,AV.mp,aY,Pl.mp] at*;simp[Jn];refine aZ _ _ (SI _) (by constructor<;>simp[hm,hid,hmp]) ?_
   simp[hm,hT,hid,hmp];refine bj _ _ (UT 6 _) (by constructor<;>simp[hm]) rfl ?_
   refine ⟨rfl,by simp,?_⟩;constructor<;>simp[hib,hm]
 |true=>
  obtain ⟨hb,t,hw,htk,-⟩:=kg hlf;have SI:=fun d=>dF x t d hb hw
  rw[fq,htk] at SI;have hp:AJ t= .str t.t:=if_pos (.inl htk);rw[hp,show ss 1=104 from rfl] at SI;have hw0:w0 x.ws=t.t:=by rw[hw];rfl
  by_cases hc:t.t=zc\/t.t=FX
  ·have he:su K x=iI K x.nm 0 0 0:=if_neg (by
    rw[hlf,hw0];rintro (g|⟨g1,g2⟩)
    ·cases g
    ·rcases hc with e|e
     ·exact g1 e
     ·exact g2 e)
   rw[he] at h0 ⊢;have NU:=fun h=>ml C.up M.up x K 0 0 0 25 hm h h0
   generalize iI K x.nm 0 0 0=e,t.t=s at*;unfold a8 bS bE at*;rw[aw] at*;generalize aI kS (aA K)=G,ab x.kd=KR,List.map Tk.row x.ws=WR at*;unfold zc FX at*;simp only[ar,aW,aP,AV.mp,aY,Pl.mp] at*;clear h0 hlf he hw0;rcases hc with rfl|rfl
   ·simp[Jn];refine aZ _ _ (SI _) (by constructor<;>simp[hm]) ?_
    simp[hm];refine aZ _ _ (U 6 _) (by constructor<;>simp[hm]) ?_
    simp[hm];refine bj _ _ (NU rfl) (by constructor<;>simp[hm]) rfl ?_
    refine ⟨rfl,by simp,?_⟩;constructor<;>simp[hib,hm]
   ·simp[Jn];refine aZ _ _ (SI _) (by constructor<;>simp[hm]) ?_
    simp[hm];refine aZ _ _ (U 6 _) (by constructor<;>simp[hm]) ?_
    simp[hm];refine bj _ _ (NU rfl) (by constructor<;>simp[hm]) rfl ?_
    refine ⟨rfl,by simp,?_⟩;constructor<;>simp[hib,hm]
  ·have he:su K x=6:=if_pos (.inr ⟨fun e=>hc (.inl (hw0▸e)),fun e=>hc (.inr (hw0▸e))⟩);rw[he];have b1:(t.t==zc)=false:=cH.2 fun e=>hc (.inl e)
   have b2:(t.t==FX)=false:=cH.2 fun e=>hc (.inr e)
   generalize t.t=s at*;unfold a8 bS bE at*;rw[aw] at*;generalize aI kS (aA K)=G,ab x.kd=KR,List.map Tk.row x.ws=WR at*;unfold zc FX at*;simp only[ar,aW,aP,AV.mp,aY,Pl.mp] at*;clear h0 hlf he hw0 hc;simp[Jn];refine aZ _ _ (SI _) (by constructor<;>simp[hm]) ?_
   simp[hm,b1,b2];refine bj _ _ (UT 6 _) (by constructor<;>simp[hm]) rfl ?_
   refine ⟨rfl,by simp,?_⟩;constructor<;>simp[hib,hm]
theorem Kp {p:pu} {x:It} {q:Int} (hk:p.ks=[q]) (hb:p.bl=false) (h1:p.nm≠ij) (h2:p.nm≠kN) (h3:p.nm≠dU):cE p x=lf q x:=by
 unfold cE lf;have b1:(p.nm==ij)=false:=cH.2 h1;have b2:(p.nm !=kN)=true:=by simpa using h2
 have b3:(p.nm !=dU)=true:=by simpa using h3
 rw[hk,hb,b2,b3,Bool.true_or,Bool.true_or,Bool.and_true,Bool.and_true];congr 1
 ·cases x.bk<;>rfl
 ·match x.ws with
  |[]=>rfl
  |[t]=>simp[iH,b1]
  |_::_::_=>simp[iH]
theorem fE {x:It} (h:x.nm≠ij):ir x=n1 x:=by
 unfold ir n1
 match x.ws with
 |[]=>rfl
 |t::r=>exact if_neg fun g=>h g.1
theorem bT {w:Nat} {C:List It} {x:It} {p:pu} {q:Int} (h:bV w x.nm=some p) (hmo:p.mo=1) (hk:p.ks=[q]) (hb:p.bl=false) (h1:p.nm≠ij) (h2:p.nm≠kN) (h3:p.nm≠dU):aX w C x=mQ q (am C) x p.lo p.hi:=by
 have hf:=Kp (x:=x) hk hb h1 h2 h3;have hn:x.nm≠ij:=by rw[<-(iu h).2];exact h1
 unfold mQ iI;rw[<-fE hn];cases hl:lf q x with
 |false=>rw[gF h (by rw[hf];exact hl),if_pos rfl]
 |true=>rw[kp h (by rw[hf];exact hl) hmo,if_neg (show ¬true=false by decide)]
theorem Df {w:Nat} {C:List It} {x:It} {p:pu} (h:bV w x.nm=some p) (hmo:p.mo=1) (hk:p.ks=[4]) (hb:p.bl=false) (h1:p.nm=ij) (hlo:p.lo=1) (hhi:p.hi=1000000):aX w C x=Eu (am C) x:=by
 have hn:x.nm=ij:=by rw[<-(iu h).2];exact h1
 have hf:cE p x=(lf 4 x||lf 3 x):=by
  unfold cE lf;rw[hk,hb,h1,show (ij !=kN)=true from rfl,show (ij !=dU)=true from rfl]
  match x.ws with
  |[]=>simp[iH]
  |[t]=>simp[iH,h1];cases x.bk<;>simp
  |_::_::_=>simp[iH]
 unfold Eu;by_cases g:lf 4 x=false/\lf 3 x=false
 ·rw[if_pos g,gF h (by rw[hf,g.1,g.2];rfl)]
 ·rw[if_neg g];have gl:lf 4 x=true\/lf 3 x=true:=by
   cases a:lf 4 x with
   |true=>exact .inl rfl
   |false=>
    cases b:lf 3 x with
    |true=>exact .inr rfl
    |false=>exact absurd ⟨a,b⟩ g
  rw[kp h (by rw[hf];rcases gl with e|e<;>simp[e]) hmo,hlo,hhi];unfold iI;have e2:(ir x<1\/1000000<ir x)=(mG x<1\/1000000<mG x):=by
   rcases gl with e|e
   ·obtain ⟨-,t,hw,hk,-⟩:=kg e;unfold ir mG;rw[hw];dsimp only;rw[if_neg (by omega),if_neg (by omega)]
   ·obtain ⟨-,t,hw,hk,-⟩:=kg e;unfold ir mG;rw[hw];dsimp only;rw[if_pos ⟨hn,hk⟩,if_pos hk];by_cases g:1000000<t.n
    ·rw[if_pos g,if_pos g];simp;omega
    ·rw[if_neg g,if_neg g]
  simp only[e2]
theorem MG {C:List (List UInt8)} {x:It} (hn:x.nm=ij) (h:Eu C x=0):mG x=ir x:=by
 unfold Eu at h;split at h
 ·cases h
 ·rename_i g;have gl:lf 4 x=true\/lf 3 x=true:=by
   cases a:lf 4 x with
   |true=>exact .inl rfl
   |false=>
    cases b:lf 3 x with
    |true=>exact .inr rfl
    |false=>exact absurd ⟨a,b⟩ g
  unfold iI at h;split at h
  ·cases h
  ·split at h
   ·cases h
   ·rename_i g2;rcases gl with e|e
    ·obtain ⟨-,t,hw,hk,-⟩:=kg e;unfold ir mG;rw[hw];dsimp only;rw[if_neg (by omega),if_neg (by omega)]
    ·obtain ⟨-,t,hw,hk,-⟩:=kg e;have e1:mG x=1000*(if 1000000<t.n then 1000000 else t.n):=by unfold mG;rw[hw];exact if_pos hk
     have e2:ir x=if 1000000<t.n then t.n else 1000*t.n:=by unfold ir;rw[hw];exact if_pos ⟨hn,hk⟩
     rw[e1] at g2;rw[e1,e2];by_cases g:1000000<t.n
     ·rw[if_pos g] at g2;omega
     ·rw[if_neg g,if_neg g]
theorem zC {w:Nat} {C:List It} {x:It} {p:pu} (h:bV w x.nm=some p) (hmo:p.mo=1) (hk:p.ks=[1]) (hb:p.bl=false) (h1:p.nm=kN) (hlo:p.lo=0) (hhi:p.hi=0) (hz:lf 1 x=true->n1 x=0):aX w C x=su (am C) x:=by
 have hn:x.nm=kN:=by rw[<-(iu h).2];exact h1
 have hf:cE p x=(lf 1 x&&(w0 x.ws==zc||w0 x.ws==FX)):=by
  unfold cE lf;rw[hk,hb,h1,show (kN !=kN)=false from rfl,show (kN !=dU)=true from rfl]
  match x.ws with
  |[]=>simp[iH]
  |[t]=>simp[iH,h1,show (kN==ij)=false from rfl];cases x.bk<;>simp
  |_::_::_=>simp[iH]
 unfold su;by_cases g:lf 1 x=false\/(w0 x.ws≠zc/\w0 x.ws≠FX)
 ·rw[if_pos g,gF h];rw[hf];rcases g with g|⟨g1,g2⟩
  ·rw[g];rfl
  ·rw[cH.2 g1,cH.2 g2];simp
 ·rw[if_neg g];have g1:lf 1 x=true:=by
   cases a:lf 1 x with
   |true=>rfl
   |false=>exact absurd (.inl a) g
  have g2:w0 x.ws=zc\/w0 x.ws=FX:=Decidable.byContradiction fun e=>g (.inr ⟨fun a=>e (.inl a),fun a=>e (.inr a)⟩)
  rw[kp h (by rw[hf,g1];rcases g2 with e|e<;>simp[e]) hmo,hlo,hhi,fE (by rw[hn];decide),hz g1];unfold iI;rfl
theorem cS {C:List It} {x:It} (h:lR x.nm=false):am (C++[x])=am C++[x.nm]:=by
 rw[kO];unfold lj;rw[if_neg (by rw[h];decide)]
end Go.Ai
