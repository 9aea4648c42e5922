/- P15: a part of the proof. Conditions: as each theorem says. -/
import Derived.Test.YtojgeamhdkphaaaGreatDoorP14
set_option maxHeartbeats 4000000
set_option linter.unusedSimpArgs false
set_option linter.unusedVariables false
set_option maxRecDepth 20000
namespace Go.Ai
open Go.Proofs
theorem KC (C M R:Id) (x:It) (Cs:List It) (n:List UInt8) (f:List Ft) (lk lk2:Lk) (d:Nat) (hlk: ∀L,lk 2 L=L.foldl (aB lk2 2) ([],[])) (hIC:jk 1 Cs) (hlc:Cs.length<=100000) (hx: ∀t∈x.ws,1<=t.k/\t.k<=6) (hxk: ∀y∈x.kd,∀t∈y.ws,1<=t.k/\t.k<=6) (hkl:x.kd.length<=100000) (hwl:x.ws.length<=100000)
  (hw0:(w0 x.ws).length<=10000000) (hz:lf 1 x=true->n1 x=0) (hf:f.length<=1000000) (hM:M.isIt=true) (hMd:M.isNw d=false) (hC:C.isIt=false) (hCd:C.isNw d=false) (hR:R.isIt=false) (hRd:R.isNw d=false) (nCR:C≠R) (h0:aX 1 Cs x=0):
  ba Tryz.prog gl 28 d ⟨[.ptr R 0,bS C M,.agg x.row],[(C,bN f),(M,a8 (am Cs)),(R,oT lk n Cs)],[(.b C 0,3),(.b R 6,2),(.b R 7,7),(.b R 8,2)]⟩ ⟨.tup [],[(C,bN (fN lk x f)),(M,a8 (am (Cs++[x]))),(R,oT lk n (Cs++[x]))],[(.b C 0,3),(.b R 6,2),(.b R 7,7),(.b R 8,2)]⟩:=by
 refine Uv rfl ?_;have iC:=ae hCd;have iM:=ae hMd;have iR:=ae hRd;have nMC:M≠C:=fun e=>by rw[e,hC] at hM;cases hM
 have nCM:=nMC.symm;have nMR:M≠R:=fun e=>by rw[e,hR] at hM;cases hM
 have nRM:=nMR.symm;have nRC:=nCR.symm;by_cases e0:x.nm=jx
 ·have hp:bV 1 x.nm=some ⟨jx,[5],false,1,1,999999⟩:=by rw[e0];rfl
  have hc:=bT (C:=Cs) hp rfl rfl rfl (by decide) (by decide) (by decide);have gs:=cC hp rfl h0 0;have g2:=fun m (h:x.nm≠m) d=>db (C:=Cs) h d
  rw[hc] at h0;have S:=fun h=>Hs C.up M.up x (am Cs) 1 999999 15 hM h h0 (km h0 _ (by decide))
  rw[fE (by rw[e0];decide),e0] at gs;rw[cS (by rw[e0];rfl)];unfold fN;rw[if_pos (show bR x.nm=0 by rw[e0];rfl)];unfold oT;rw[gs,g2 iq (by rw[e0];decide),g2 kM (by rw[e0];decide),g2 jN (by rw[e0];decide),pz (show x.nm≠kN by rw[e0];decide),pA (show x.nm≠pt by rw[e0];decide),pB lk (show x.nm≠dU by rw[e0];decide),u7 (show x.nm≠dU by rw[e0];decide)];unfold a8 bS bN at*;rw[aw] at*;rw[e0] at*;generalize aI kS (aA (am Cs++[jx]))=G2 at*;generalize aI kS (aA (am Cs))=G,List.map Ft.row f=FL,n1 x=v,ai Cs jx 0=vsTa,ai Cs iq 60=vsGr,ai Cs kM 0=vsLa,ai Cs jN 0=vsRo,fi Cs=vc,List.map Lb.row (dY Cs)=VL,List.map Ru.row (dy lk Cs)=VR,ni Cs=VA,ab x.kd=KR,List.map Tk.row x.ws=WR at*;simp only[ar,aW,aP,AV.mp,aY,Pl.mp] at*;clear h0 hc hx hf hp hIC hz hw0 hxk hlk gs g2;unfold jx at*;simp[uj];refine aZ _ _ (S rfl) (by constructor<;>simp[hM,hC,hR,nMC,nCM,nMR,nRM,nCR,nRC]) ?_
  simp[hM,hC,hR,nMC,nCM,nMR,nRM,nCR,nRC];refine bh ?_;constructor<;>simp[iC,iM,iR,hM,hC,hR,nMC,nCM,nMR,nRM,nCR,nRC]
 by_cases e1:x.nm=iq
 ·have hp:bV 1 x.nm=some ⟨iq,[6],false,1,1,86400⟩:=by rw[e1];rfl
  have hc:=bT (C:=Cs) hp rfl rfl rfl (by decide) (by decide) (by decide);have gs:=cC hp rfl h0 60;have g2:=fun m (h:x.nm≠m) d=>db (C:=Cs) h d
  rw[hc] at h0;have S:=fun h=>gO C.up M.up x (am Cs) 1 86400 24 hM h h0 (km h0 _ (by decide))
  rw[fE (by rw[e1];decide),e1] at gs;rw[cS (by rw[e1];rfl)];unfold fN;rw[if_pos (show bR x.nm=0 by rw[e1];rfl)];unfold oT;rw[gs,g2 jx (by rw[e1];decide),g2 kM (by rw[e1];decide),g2 jN (by rw[e1];decide),pz (show x.nm≠kN by rw[e1];decide),pA (show x.nm≠pt by rw[e1];decide),pB lk (show x.nm≠dU by rw[e1];decide),u7 (show x.nm≠dU by rw[e1];decide)];unfold a8 bS bN at*;rw[aw] at*;rw[e1] at*;generalize aI kS (aA (am Cs++[iq]))=G2 at*;generalize aI kS (aA (am Cs))=G,List.map Ft.row f=FL,n1 x=v,ai Cs jx 0=vsTa,ai Cs iq 60=vsGr,ai Cs kM 0=vsLa,ai Cs jN 0=vsRo,fi Cs=vc,List.map Lb.row (dY Cs)=VL,List.map Ru.row (dy lk Cs)=VR,ni Cs=VA,ab x.kd=KR,List.map Tk.row x.ws=WR at*;simp only[ar,aW,aP,AV.mp,aY,Pl.mp] at*;clear h0 hc hx hf hp hIC hz hw0 hxk hlk gs g2;unfold iq at*;simp[uj];refine aZ _ _ (S rfl) (by constructor<;>simp[hM,hC,hR,nMC,nCM,nMR,nRM,nCR,nRC]) ?_
  simp[hM,hC,hR,nMC,nCM,nMR,nRM,nCR,nRC];refine bh ?_;constructor<;>simp[iC,iM,iR,hM,hC,hR,nMC,nCM,nMR,nRM,nCR,nRC]
 by_cases e2:x.nm=kM
 ·have hp:bV 1 x.nm=some ⟨kM,[6],false,1,0,86400⟩:=by rw[e2];rfl
  have hc:=bT (C:=Cs) hp rfl rfl rfl (by decide) (by decide) (by decide);have gs:=cC hp rfl h0 0;have g2:=fun m (h:x.nm≠m) d=>db (C:=Cs) h d
  rw[hc] at h0;have S:=fun h=>gO C.up M.up x (am Cs) 0 86400 33 hM h h0 (km h0 _ (by decide))
  rw[fE (by rw[e2];decide),e2] at gs;rw[cS (by rw[e2];rfl)];unfold fN;rw[if_pos (show bR x.nm=0 by rw[e2];rfl)];unfold oT;rw[gs,g2 jx (by rw[e2];decide),g2 iq (by rw[e2];decide),g2 jN (by rw[e2];decide),pz (show x.nm≠kN by rw[e2];decide),pA (show x.nm≠pt by rw[e2];decide),pB lk (show x.nm≠dU by rw[e2];decide),u7 (show x.nm≠dU by rw[e2];decide)];unfold a8 bS bN at*;rw[aw] at*;rw[e2] at*;generalize aI kS (aA (am Cs++[kM]))=G2 at*;generalize aI kS (aA (am Cs))=G,List.map Ft.row f=FL,n1 x=v,ai Cs jx 0=vsTa,ai Cs iq 60=vsGr,ai Cs kM 0=vsLa,ai Cs jN 0=vsRo,fi Cs=vc,List.map Lb.row (dY Cs)=VL,List.map Ru.row (dy lk Cs)=VR,ni Cs=VA,ab x.kd=KR,List.map Tk.row x.ws=WR at*;simp only[ar,aW,aP,AV.mp,aY,Pl.mp] at*;clear h0 hc hx hf hp hIC hz hw0 hxk hlk gs g2;unfold kM at*;simp[uj];refine aZ _ _ (S rfl) (by constructor<;>simp[hM,hC,hR,nMC,nCM,nMR,nRM,nCR,nRC]) ?_
  simp[hM,hC,hR,nMC,nCM,nMR,nRM,nCR,nRC];refine bh ?_;constructor<;>simp[iC,iM,iR,hM,hC,hR,nMC,nCM,nMR,nRM,nCR,nRC]
 by_cases e3:x.nm=jN
 ·have hp:bV 1 x.nm=some ⟨jN,[6],false,1,1,34560000⟩:=by rw[e3];rfl
  have hc:=bT (C:=Cs) hp rfl rfl rfl (by decide) (by decide) (by decide);have gs:=cC hp rfl h0 0;have g2:=fun m (h:x.nm≠m) d=>db (C:=Cs) h d
  rw[hc] at h0;have S:=fun h=>gO C.up M.up x (am Cs) 1 34560000 42 hM h h0 (km h0 _ (by decide))
  rw[fE (by rw[e3];decide),e3] at gs;rw[cS (by rw[e3];rfl)];unfold fN;rw[if_pos (show bR x.nm=0 by rw[e3];rfl)];unfold oT;rw[gs,g2 jx (by rw[e3];decide),g2 iq (by rw[e3];decide),g2 kM (by rw[e3];decide),pz (show x.nm≠kN by rw[e3];decide),pA (show x.nm≠pt by rw[e3];decide),pB lk (show x.nm≠dU by rw[e3];decide),u7 (show x.nm≠dU by rw[e3];decide)];unfold a8 bS bN at*;rw[aw] at*;rw[e3] at*;generalize aI kS (aA (am Cs++[jN]))=G2 at*;generalize aI kS (aA (am Cs))=G,List.map Ft.row f=FL,n1 x=v,ai Cs jx 0=vsTa,ai Cs iq 60=vsGr,ai Cs kM 0=vsLa,ai Cs jN 0=vsRo,fi Cs=vc,List.map Lb.row (dY Cs)=VL,List.map Ru.row (dy lk Cs)=VR,ni Cs=VA,ab x.kd=KR,List.map Tk.row x.ws=WR at*;simp only[ar,aW,aP,AV.mp,aY,Pl.mp] at*;clear h0 hc hx hf hp hIC hz hw0 hxk hlk gs g2;unfold jN at*;simp[uj];refine aZ _ _ (S rfl) (by constructor<;>simp[hM,hC,hR,nMC,nCM,nMR,nRM,nCR,nRC]) ?_
  simp[hM,hC,hR,nMC,nCM,nMR,nRM,nCR,nRC];refine bh ?_;constructor<;>simp[iC,iM,iR,hM,hC,hR,nMC,nCM,nMR,nRM,nCR,nRC]
 by_cases e4:x.nm=kN
 ·have hp:bV 1 x.nm=some ⟨kN,[1],false,1,0,0⟩:=by rw[e4];rfl
  have hc:=zC (C:=Cs) hp rfl rfl rfl rfl rfl rfl hz;have g2:=fun m (h:x.nm≠m) d=>db (C:=Cs) h d
  rw[hc] at h0;have S:=fun h=>zy C.up M.up x (am Cs) 51 hM h h0
  rw[cS (by rw[e4];rfl)];unfold fN;rw[if_pos (show bR x.nm=0 by rw[e4];rfl)];unfold oT;rw[g2 jx (by rw[e4];decide),g2 iq (by rw[e4];decide),g2 kM (by rw[e4];decide),g2 jN (by rw[e4];decide),Ky e4,pA (show x.nm≠pt by rw[e4];decide),pB lk (show x.nm≠dU by rw[e4];decide),u7 (show x.nm≠dU by rw[e4];decide)];unfold a8 bS bN at*;rw[aw] at*;rw[e4] at*;generalize aI kS (aA (am Cs++[kN]))=G2 at*;generalize aI kS (aA (am Cs))=G,List.map Ft.row f=FL,(if w0 x.ws=zc then (1:Int) else 2)=v,ai Cs jx 0=vsTa,ai Cs iq 60=vsGr,ai Cs kM 0=vsLa,ai Cs jN 0=vsRo,fi Cs=vc,List.map Lb.row (dY Cs)=VL,List.map Ru.row (dy lk Cs)=VR,ni Cs=VA,ab x.kd=KR,List.map Tk.row x.ws=WR at*;simp only[ar,aW,aP,AV.mp,aY,Pl.mp] at*;clear h0 hc hx hf hp hIC hz hw0 hxk hlk g2;unfold kN at*;simp[uj];refine aZ _ _ (S rfl) (by constructor<;>simp[hM,hC,hR,nMC,nCM,nMR,nRM,nCR,nRC]) ?_
  simp[hM,hC,hR,nMC,nCM,nMR,nRM,nCR,nRC];refine bh ?_;constructor<;>simp[iC,iM,iR,hM,hC,hR,nMC,nCM,nMR,nRM,nCR,nRC]
 by_cases e5:x.nm=pt
 ·have hp:bV 1 x.nm=some Ez:=by rw[e5];rfl
  obtain ⟨q,hq,hfm⟩:=gQ h0;rw[hp] at hq;cases hq;rw[gG hIC hp hfm (by decide)] at h0;obtain ⟨hbk,a,b,hws,hak,hbk1⟩:=Dn hfm;have ew0:w0 x.ws=a.t:=by rw[hws];rfl
  have ew1:w1 x.ws=b.t:=by rw[hws];rfl
  rw[ew0] at h0 hw0;have NM:=fun h=>sj C.up M.up x a [b] (am Cs) 4 68 hM h hws hak h0 (by decide) (by rw[e5];show 5+_<=_;omega)
  have WO:=gE x [1,2] (by decide) hwl;have hkk:(x.ws.map Tk.k==[1,2])=true:=by rw[hws];simp[hak,hbk1]
  rw[hkk] at WO;have U:=fun e d=>bZ e d
  have VA2:=kR b;rw[fq,hbk1,show ss 2=109 from rfl,show AJ b= .str b.t from if_pos (.inr hbk1)] at VA2;have kk:am (Cs++[x])=am Cs++[de x.nm a.t]++[x.nm]:=by
   rw[kO];unfold lj;rw[e5,if_pos (show lR pt=true from rfl),ew0];simp
  have g2:=fun m (h:x.nm≠m) d=>db (C:=Cs) h d
  rw[kk];unfold fN;rw[if_pos (show bR x.nm=0 by rw[e5];rfl)];unfold oT;rw[g2 jx (by rw[e5];decide),g2 iq (by rw[e5];decide),g2 kM (by rw[e5];decide),g2 jN (by rw[e5];decide),pz (show x.nm≠kN by rw[e5];decide),Kz e5,pB lk (show x.nm≠dU by rw[e5];decide),u7 (show x.nm≠dU by rw[e5];decide),List.map_append,ew0,ew1];have lb2: ∀r∈List.map Lb.row (dY Cs),r.length=2:=fun r h=>by
   obtain ⟨y,_,rfl⟩:=oY.1 h;rfl
  have lbl:(List.map Lb.row (dY Cs)).length<=100000:=by rw[tN];exact mu (Dk Cs) hlc
  have hlim:nD=140737488355328:=rfl;have hll:((List.map Lb.row (dY Cs)).length+1)*32<=nD:=by rw[hlim];omega
  simp only[aw,hws,hbk] at WO NM ⊢;obtain ⟨ak,at',an,al,ac⟩:=a;obtain ⟨bk',bt,bn,bl,bc⟩:=b;simp only[fZ,l6,Tk.row,Lb.row] at*;unfold a8 bS bN at*;generalize aI kS (aA (am Cs++[de x.nm at']++[x.nm]))=G2 at*;generalize aI kS (aA (am Cs))=G,List.map Ft.row f=FL,ai Cs jx 0=vsTa,ai Cs iq 60=vsGr,ai Cs kM 0=vsLa,ai Cs jN 0=vsRo,fi Cs=vc,List.map Lb.row (dY Cs)=VL,List.map Ru.row (dy lk Cs)=VR,ni Cs=VA at*;rw[e5] at*;generalize ab x.kd=KR,x.pl.1=pl,x.pl.2=pc at*;simp only[ar,aW,aP,AV.mp,aY,Pl.mp] at*;clear h0 hx hf hp hIC hz hw0 hxk hlk g2 kk hkk hfm;unfold pt at*;simp[uj];apply ag WO;simp;refine aZ _ _ (U 6 _) (by constructor<;>simp[hM,hC,hR,nMC,nCM,nMR,nRM,nCR,nRC]) ?_
  simp[hM,hC,hR,nMC,nCM,nMR,nRM,nCR,nRC];refine aZ _ _ (NM rfl) (by constructor<;>simp[hM,hC,hR,nMC,nCM,nMR,nRM,nCR,nRC]) ?_
  simp[hM,hC,hR,nMC,nCM,nMR,nRM,nCR,nRC];apply ag VA2;simp[hM,hC,hR,nMC,nCM,nMR,nRM,nCR,nRC,hll];refine ⟨lb2,?_⟩;refine bh ?_;constructor<;>simp[iC,iM,iR,hM,hC,hR,nMC,nCM,nMR,nRM,nCR,nRC]
 by_cases e6:x.nm=dU
 ·have hc0:=h0;have hp:bV 1 x.nm=some zG:=by rw[e6];rfl
  obtain ⟨q,hq,hfm⟩:=gQ h0;rw[hp] at hq;cases hq;have RU:=fun h h2=>Ks C.up M.up x Cs f lk2 lk 98 e6 hIC hxk hkl hw0 hf hM h2 hC h hc0
  have g2:=fun m (h:x.nm≠m) d=>db (C:=Cs) h d
  have hi:bR x.nm=2:=by rw[e6];rfl
  have hru:Ru.row (tY lk x)=qM (w0 x.ws) (w1 x.ws==wv) (lk 2 x.kd).1:=rfl;rw[hlk] at hru;unfold fN;rw[hi,if_neg (show ¬(2:Nat)=0 by decide),hlk];unfold oT;rw[g2 jx (by rw[e6];decide),g2 iq (by rw[e6];decide),g2 kM (by rw[e6];decide),g2 jN (by rw[e6];decide),pz (show x.nm≠kN by rw[e6];decide),pA (show x.nm≠pt by rw[e6];decide),KA lk e6,MH e6,List.map_append,fZ,l6,hru];have ru7: ∀r∈List.map Ru.row (dy lk Cs),r.length=7:=fun r h=>by
   obtain ⟨y,_,rfl⟩:=oY.1 h;rfl
  have rul:(List.map Ru.row (dy lk Cs)).length<=100000:=by rw[tN];exact mu (Dm lk Cs) hlc
  have at2:=MJ Cs;have atl:(ni Cs).length<=100000:=mu (MI Cs) hlc;have hlim:nD=140737488355328:=rfl;have hll:((List.map Ru.row (dy lk Cs)).length+1)*64<=nD:=by rw[hlim];omega
  have hll2:((ni Cs).length+1)*16<=nD:=by rw[hlim];omega
  unfold qM at*;generalize (x.kd.foldl (aB lk2 2) ([],[]))=k at*;generalize cV lk 2 x k.1=WV,ai k.1 j8 0=vl,ai k.1 j9 0=vs,ai k.1 ij 0=vf,ai k.1 nf 0=vo,ai k.1 ng 0=ve,w0 x.ws=wa,(w1 x.ws==wv)=wb at*;unfold a8 bS bN at*;rw[aw] at*;generalize aI kS (aA (am (Cs++[x])))=G2,aI kS (aA (am Cs))=G,List.map Ft.row (f++(k.2++WV))=FL2,List.map Ft.row f=FL,ai Cs jx 0=vsTa,ai Cs iq 60=vsGr,ai Cs kM 0=vsLa,ai Cs jN 0=vsRo,fi Cs=vc,List.map Lb.row (dY Cs)=VL,List.map Ru.row (dy lk Cs)=VR,ni Cs=VA at*;rw[e6] at*;generalize ab x.kd=KR,List.map Tk.row x.ws=WR,x.pl.1=pl,x.pl.2=pc at*;simp only[ar,aW,aP,AV.mp,aY,Pl.mp] at*;clear h0 hx hf hp hIC hz hw0 hxk hlk g2 hfm hc0 hru;unfold dU at*;simp[uj,hM,hC,hR,nMC,nCM,nMR,nRM,nCR,nRC];refine .inl ?_;refine eU _ _ (RU rfl rfl) ⟨?_,?_,?_,?_,?_,?_,?_⟩ ⟨?_,?_,?_⟩ ?_;iterate 10 (· simp[Pl.isB,Pl.isF,mJ,KF,AV.pid,hM,hC,hR,nMC,nCM,nMR,nRM,nCR,nRC])
  simp[hM,hC,hR,nMC,nCM,nMR,nRM,nCR,nRC,hll];refine ⟨ru7,?_⟩;simp[hM,hC,hR,nMC,nCM,nMR,nRM,nCR,nRC,hll2];refine ⟨at2,?_⟩;refine bh ?_;constructor<;>simp[iC,iM,iR,hM,hC,hR,nMC,nCM,nMR,nRM,nCR,nRC]
 ·exfalso;rw[fM (by simp[bV,gv,Ne.symm e0,Ne.symm e1,Ne.symm e2,Ne.symm e3,Ne.symm e4,Ne.symm e5,Ne.symm e6])] at h0;cases h0
theorem KD (C M R:Id) (x:It) (Cs:List It) (n:List UInt8) (f:List Ft) (lk lk2:Lk) (d:Nat) (hlk: ∀L,lk 2 L=L.foldl (aB lk2 2) ([],[])) (hIC:jk 1 Cs) (hlc:Cs.length<=100000) (hx: ∀t∈x.ws,1<=t.k/\t.k<=6) (hxk: ∀y∈x.kd,∀t∈y.ws,1<=t.k/\t.k<=6) (hkl:x.kd.length<=100000) (hwl:x.ws.length<=100000)
  (hw0:(w0 x.ws).length<=10000000) (hz:lf 1 x=true->n1 x=0) (hf:f.length<=1000000) (hM:M.isIt=true) (hMd:M.isNw d=false) (hC:C.isIt=false) (hCd:C.isNw d=false) (hR:R.isIt=false) (hRd:R.isNw d=false) (nCR:C≠R) (h0:aX 1 Cs x≠0):
  di Tryz.prog gl 28 d ⟨[.ptr R 0,bS C M,.agg x.row],[(C,bN f),(M,a8 (am Cs)),(R,oT lk n Cs)],[(.b C 0,3),(.b R 6,2),(.b R 7,7),(.b R 8,2)]⟩ ⟨bE (aX 1 Cs x),[(C,bN f),(M,a8 (am Cs)),(R,oT lk n Cs)],[(.b C 0,3),(.b R 6,2),(.b R 7,7),(.b R 8,2)]⟩:=by
 refine Uu rfl ?_;have iC:=ae hCd;have iM:=ae hMd;have iR:=ae hRd;have nMC:M≠C:=fun e=>by rw[e,hC] at hM;cases hM
 have nCM:=nMC.symm;have nMR:M≠R:=fun e=>by rw[e,hR] at hM;cases hM
 have nRM:=nMR.symm;have nRC:=nCR.symm;by_cases e0:x.nm=jx
 ·have hp:bV 1 x.nm=some ⟨jx,[5],false,1,1,999999⟩:=by rw[e0];rfl
  have hc:=bT (C:=Cs) hp rfl rfl rfl (by decide) (by decide) (by decide);rw[hc] at h0 ⊢;have S:=fun h=>Ht C.up M.up x (am Cs) 1 999999 15 hx hM h h0
  generalize mQ 5 (am Cs) x 1 999999=e at*;unfold oT a8 bS bN bE at*;rw[aw] at*;rw[e0] at*;generalize aI kS (aA (am Cs))=G,List.map Ft.row f=FL,ai Cs jx 0=vsTa,ai Cs iq 60=vsGr,ai Cs kM 0=vsLa,ai Cs jN 0=vsRo,fi Cs=vc,List.map Lb.row (dY Cs)=VL,List.map Ru.row (dy lk Cs)=VR,ni Cs=VA,ab x.kd=KR,List.map Tk.row x.ws=WR at*;simp only[ar,aW,aP,AV.mp,aY,Pl.mp] at*;clear h0 hc hx hf hp hIC hz hw0 hxk hlk;unfold jx at*;simp[uj];refine bj _ _ (S rfl) (by constructor<;>simp[hM,hC,hR,nMC,nCM,nMR,nRM,nCR,nRC]) rfl ?_
  refine ⟨rfl,by simp,?_⟩;constructor<;>simp[iC,iM,iR,hM,hC,hR,nMC,nCM,nMR,nRM,nCR,nRC]
 by_cases e1:x.nm=iq
 ·have hp:bV 1 x.nm=some ⟨iq,[6],false,1,1,86400⟩:=by rw[e1];rfl
  have hc:=bT (C:=Cs) hp rfl rfl rfl (by decide) (by decide) (by decide);rw[hc] at h0 ⊢;have S:=fun h=>gP C.up M.up x (am Cs) 1 86400 24 hx hM h h0
  generalize mQ 6 (am Cs) x 1 86400=e at*;unfold oT a8 bS bN bE at*;rw[aw] at*;rw[e1] at*;generalize aI kS (aA (am Cs))=G,List.map Ft.row f=FL,ai Cs jx 0=vsTa,ai Cs iq 60=vsGr,ai Cs kM 0=vsLa,ai Cs jN 0=vsRo,fi Cs=vc,List.map Lb.row (dY Cs)=VL,List.map Ru.row (dy lk Cs)=VR,ni Cs=VA,ab x.kd=KR,List.map Tk.row x.ws=WR at*;simp only[ar,aW,aP,AV.mp,aY,Pl.mp] at*;clear h0 hc hx hf hp hIC hz hw0 hxk hlk;unfold iq at*;simp[uj];refine bj _ _ (S rfl) (by constructor<;>simp[hM,hC,hR,nMC,nCM,nMR,nRM,nCR,nRC]) rfl ?_
  refine ⟨rfl,by simp,?_⟩;constructor<;>simp[iC,iM,iR,hM,hC,hR,nMC,nCM,nMR,nRM,nCR,nRC]
 by_cases e2:x.nm=kM
 ·have hp:bV 1 x.nm=some ⟨kM,[6],false,1,0,86400⟩:=by rw[e2];rfl
  have hc:=bT (C:=Cs) hp rfl rfl rfl (by decide) (by decide) (by decide);rw[hc] at h0 ⊢;have S:=fun h=>gP C.up M.up x (am Cs) 0 86400 33 hx hM h h0
  generalize mQ 6 (am Cs) x 0 86400=e at*;unfold oT a8 bS bN bE at*;rw[aw] at*;rw[e2] at*;generalize aI kS (aA (am Cs))=G,List.map Ft.row f=FL,ai Cs jx 0=vsTa,ai Cs iq 60=vsGr,ai Cs kM 0=vsLa,ai Cs jN 0=vsRo,fi Cs=vc,List.map Lb.row (dY Cs)=VL,List.map Ru.row (dy lk Cs)=VR,ni Cs=VA,ab x.kd=KR,List.map Tk.row x.ws=WR at*;simp only[ar,aW,aP,AV.mp,aY,Pl.mp] at*;clear h0 hc hx hf hp hIC hz hw0 hxk hlk;unfold kM at*;simp[uj];refine bj _ _ (S rfl) (by constructor<;>simp[hM,hC,hR,nMC,nCM,nMR,nRM,nCR,nRC]) rfl ?_
  refine ⟨rfl,by simp,?_⟩;constructor<;>simp[iC,iM,iR,hM,hC,hR,nMC,nCM,nMR,nRM,nCR,nRC]
 by_cases e3:x.nm=jN
 ·have hp:bV 1 x.nm=some ⟨jN,[6],false,1,1,34560000⟩:=by rw[e3];rfl
  have hc:=bT (C:=Cs) hp rfl rfl rfl (by decide) (by decide) (by decide);rw[hc] at h0 ⊢;have S:=fun h=>gP C.up M.up x (am Cs) 1 34560000 42 hx hM h h0
  generalize mQ 6 (am Cs) x 1 34560000=e at*;unfold oT a8 bS bN bE at*;rw[aw] at*;rw[e3] at*;generalize aI kS (aA (am Cs))=G,List.map Ft.row f=FL,ai Cs jx 0=vsTa,ai Cs iq 60=vsGr,ai Cs kM 0=vsLa,ai Cs jN 0=vsRo,fi Cs=vc,List.map Lb.row (dY Cs)=VL,List.map Ru.row (dy lk Cs)=VR,ni Cs=VA,ab x.kd=KR,List.map Tk.row x.ws=WR at*;simp only[ar,aW,aP,AV.mp,aY,Pl.mp] at*;clear h0 hc hx hf hp hIC hz hw0 hxk hlk;unfold jN at*;simp[uj];refine bj _ _ (S rfl) (by constructor<;>simp[hM,hC,hR,nMC,nCM,nMR,nRM,nCR,nRC]) rfl ?_
  refine ⟨rfl,by simp,?_⟩;constructor<;>simp[iC,iM,iR,hM,hC,hR,nMC,nCM,nMR,nRM,nCR,nRC]
 by_cases e4:x.nm=kN
 ·have hp:bV 1 x.nm=some ⟨kN,[1],false,1,0,0⟩:=by rw[e4];rfl
  have hc:=zC (C:=Cs) hp rfl rfl rfl rfl rfl rfl hz;rw[hc] at h0 ⊢;have S:=fun h=>zB C.up M.up x (am Cs) 51 hx hM h h0
  generalize su (am Cs) x=e at*;unfold oT a8 bS bN bE at*;rw[aw] at*;rw[e4] at*;generalize aI kS (aA (am Cs))=G,List.map Ft.row f=FL,ai Cs jx 0=vsTa,ai Cs iq 60=vsGr,ai Cs kM 0=vsLa,ai Cs jN 0=vsRo,fi Cs=vc,List.map Lb.row (dY Cs)=VL,List.map Ru.row (dy lk Cs)=VR,ni Cs=VA,ab x.kd=KR,List.map Tk.row x.ws=WR at*;simp only[ar,aW,aP,AV.mp,aY,Pl.mp] at*;clear h0 hc hx hf hp hIC hz hw0 hxk hlk;unfold kN at*;simp[uj];refine bj _ _ (S rfl) (by constructor<;>simp[hM,hC,hR,nMC,nCM,nMR,nRM,nCR,nRC]) rfl ?_
  refine ⟨rfl,by simp,?_⟩;constructor<;>simp[iC,iM,iR,hM,hC,hR,nMC,nCM,nMR,nRM,nCR,nRC]
 by_cases e5:x.nm=pt
 ·have hp:bV 1 x.nm=some Ez:=by rw[e5];rfl
  have U:=fun e d=>bZ e d
  have UT:=fun e d=>eM e d
  have WO:=gE x [1,2] (by decide) hwl;cases hfm:cE Ez x with
  |false=>
   rw[gF hp hfm];rw[sy] at hfm;clear h0;cases hb:x.bk with
   |true=>
    rw[aw,hb,e5];unfold oT a8 bS bN bE at*;generalize aI kS (aA (am Cs))=G,List.map Ft.row f=FL,ai Cs jx 0=vsTa,ai Cs iq 60=vsGr,ai Cs kM 0=vsLa,ai Cs jN 0=vsRo,fi Cs=vc,List.map Lb.row (dY Cs)=VL,List.map Ru.row (dy lk Cs)=VR,ni Cs=VA,ab x.kd=KR,List.map Tk.row x.ws=WR at*;simp only[ar,aW,aP,AV.mp,aY,Pl.mp] at*;unfold pt;simp[uj];refine bj _ _ (UT 6 _) (by constructor<;>simp[hM,hC,hR,nMC,nCM,nMR,nRM,nCR,nRC]) rfl ?_
    refine ⟨rfl,by simp,?_⟩;constructor<;>simp[iC,iM,iR,hM,hC,hR,nMC,nCM,nMR,nRM,nCR,nRC]
   |false=>
    rw[hb] at hfm;have hk:(x.ws.map Tk.k==[1,2])=false:=by simpa using hfm
    rw[aw,hb,hk,e5] at WO;simp only[fZ,l6] at WO;rw[aw,hb,e5];unfold oT a8 bS bN bE at*;generalize aI kS (aA (am Cs))=G,List.map Ft.row f=FL,ai Cs jx 0=vsTa,ai Cs iq 60=vsGr,ai Cs kM 0=vsLa,ai Cs jN 0=vsRo,fi Cs=vc,List.map Lb.row (dY Cs)=VL,List.map Ru.row (dy lk Cs)=VR,ni Cs=VA,ab x.kd=KR,List.map Tk.row x.ws=WR at*;simp only[ar,aW,aP,AV.mp,aY,Pl.mp] at*;unfold pt at*;simp[uj];apply ag WO;simp;refine bj _ _ (UT 6 _) (by constructor<;>simp[hM,hC,hR,nMC,nCM,nMR,nRM,nCR,nRC]) rfl ?_
    refine ⟨rfl,by simp,?_⟩;constructor<;>simp[iC,iM,iR,hM,hC,hR,nMC,nCM,nMR,nRM,nCR,nRC]
  |true=>
   have hc:=gG hIC hp hfm (by decide);obtain ⟨hbk,a,b,hws,hak,hbk1⟩:=Dn hfm;have ew0:w0 x.ws=a.t:=by rw[hws];rfl
   rw[ew0] at hc hw0;have hc:aX 1 Cs x=Hp (am Cs) x.nm a.t 4:=hc;rw[hc] at h0 ⊢;have NM:=fun h=>sn C.up M.up x a [b] (am Cs) 4 68 hM h hws hak h0 (by rw[e5];show 5+_<=_;omega)
   have hkk:(x.ws.map Tk.k==[1,2])=true:=by rw[hws];simp[hak,hbk1]
   rw[hkk] at WO;generalize Hp (am Cs) x.nm a.t 4=e at*;simp only[aw,hws,hbk,e5] at WO NM ⊢;obtain ⟨ak,at',an,al,ac⟩:=a;obtain ⟨bk',bt,bn,bl,bc⟩:=b;simp only[fZ,l6,Tk.row] at*;unfold oT a8 bS bN bE at*;generalize aI kS (aA (am Cs))=G,List.map Ft.row f=FL,ai Cs jx 0=vsTa,ai Cs iq 60=vsGr,ai Cs kM 0=vsLa,ai Cs jN 0=vsRo,fi Cs=vc,List.map Lb.row (dY Cs)=VL,List.map Ru.row (dy lk Cs)=VR,ni Cs=VA,ab x.kd=KR,x.pl.1=pl,x.pl.2=pc at*;simp only[ar,aW,aP,AV.mp,aY,Pl.mp] at*;clear hkk hfm hp hIC h0 ew0 hw0 hc hws hx hz hxk hlk;unfold pt at*;simp[uj];apply ag WO;simp;refine aZ _ _ (U 6 _) (by constructor<;>simp[hM,hC,hR,nMC,nCM,nMR,nRM,nCR,nRC]) ?_
   simp[hM,hC,hR,nMC,nCM,nMR,nRM,nCR,nRC];refine bj _ _ (NM rfl) (by constructor<;>simp[hM,hC,hR,nMC,nCM,nMR,nRM,nCR,nRC]) rfl ?_
   refine ⟨rfl,by simp,?_⟩;constructor<;>simp[iC,iM,iR,hM,hC,hR,nMC,nCM,nMR,nRM,nCR,nRC]
 by_cases e6:x.nm=dU
 ·have RU:=fun h h2=>Kt C.up M.up x Cs f 98 e6 hIC hwl hw0 hM h2 hC h h0
  generalize aX 1 Cs x=e at*;rw[aw] at*;rw[e6] at*;unfold oT a8 bS bN bE at*;generalize aI kS (aA (am Cs))=G,List.map Ft.row f=FL,ai Cs jx 0=vsTa,ai Cs iq 60=vsGr,ai Cs kM 0=vsLa,ai Cs jN 0=vsRo,fi Cs=vc,List.map Lb.row (dY Cs)=VL,List.map Ru.row (dy lk Cs)=VR,ni Cs=VA,ab x.kd=KR,List.map Tk.row x.ws=WR,x.pl.1=pl,x.pl.2=pc at*;simp only[ar,aW,aP,AV.mp,aY,Pl.mp] at*;clear hIC h0 hw0 hx hz hxk hlk;unfold dU at*;simp[uj,hM,hC,hR,nMC,nCM,nMR,nRM,nCR,nRC];refine .inr (kT ?_);simp[hM,hC,hR,nMC,nCM,nMR,nRM,nCR,nRC];refine ⟨_,_,RU rfl rfl,⟨?_,?_,?_,?_,?_,?_,?_⟩,by simp[Pl.isB],rfl,?_⟩;iterate 7 (· simp[hM,hC,hR,nMC,nCM,nMR,nRM,nCR,nRC])
  intro τ' hb hp;refine fF (σ:=⟨[],_,_⟩) hb hp ?_;refine ⟨rfl,by simp,?_⟩;constructor<;>simp[iC,iM,iR,hM,hC,hR,nMC,nCM,nMR,nRM,nCR,nRC]
 ·rw[fM (by simp[bV,gv,Ne.symm e0,Ne.symm e1,Ne.symm e2,Ne.symm e3,Ne.symm e4,Ne.symm e5,Ne.symm e6])];clear h0;have b0:(x.nm==jx)=false:=cH.2 e0;have b1:(x.nm==iq)=false:=cH.2 e1;have b2:(x.nm==kM)=false:=cH.2 e2;have b3:(x.nm==jN)=false:=cH.2 e3;have b4:(x.nm==kN)=false:=cH.2 e4;have b5:(x.nm==pt)=false:=cH.2 e5;have b6:(x.nm==dU)=false:=cH.2 e6;rw[aw];unfold oT a8 bS bN bE at*;generalize aI kS (aA (am Cs))=G,List.map Ft.row f=FL,ai Cs jx 0=vsTa,ai Cs iq 60=vsGr,ai Cs kM 0=vsLa,ai Cs jN 0=vsRo,fi Cs=vc,List.map Lb.row (dY Cs)=VL,List.map Ru.row (dy lk Cs)=VR,ni Cs=VA,x.nm=nm,ab x.kd=KR,List.map Tk.row x.ws=WR at*;simp only[ar,aW,aP,AV.mp,aY,Pl.mp] at*;unfold jx iq kM jN kN pt dU at*;simp[uj,b0,b1,b2,b3,b4,b5,b6];refine ⟨rfl,by simp,?_⟩;constructor<;>simp[iC,iM,iR,hM,hC,hR,nMC,nCM,nMR,nRM,nCR,nRC]
theorem HH {lk lk':Lk} (h: ∀L,lk 2 L=lk' 2 L) (g:Nat) (k:List It):gz lk g k=gz lk' g k:=by
 unfold gz;congr 1
 funext y
 rw[h]
theorem zI {lk lk':Lk} (h: ∀L,lk 2 L=lk' 2 L) (i:Nat) (x:It) (k:List It):cV lk i x k=cV lk' i x k:=by
 unfold cV;rw[HH h]
theorem ML (f g:Nat) (L:List It):au (f+2) 1 L=au (g+2) 1 L:=by
 show L.foldl _ _=L.foldl _ _;congr 1
 funext s x
 have h2: ∀L,au (f+1) 2 L=au (g+1) 2 L:=ke f g (eR _);unfold aB;by_cases hc:aX 1 s.1 x≠0
 ·rw[if_pos hc,if_pos hc]
 ·rw[if_neg hc,if_neg hc];have hc:aX 1 s.1 x=0:=Decidable.byContradiction fun g=>hc g
  obtain ⟨p,hp,_⟩:=gQ hc;obtain ⟨hm,hn⟩:=iu hp;have h1: ∀p∈gv 1,bR p.nm=0\/bR p.nm=2:=by decide
  rcases h1 p hm with e|e
  ·rw[hn] at e;rw[if_pos e,if_pos e]
  ·rw[hn] at e;rw[e,if_neg (by decide),if_neg (by decide),h2,zI h2]
theorem MM {lk lk':Lk} (h1: ∀L,lk 1 L=lk' 1 L) (h2: ∀L,lk 2 L=lk' 2 L) (h3: ∀L,lk 3 L=lk' 3 L) (C:List It):zd lk C=zd lk' C:=by
 have e1: ∀y,tY lk y=tY lk' y:=fun y=>by unfold tY;rw[h2]
 have e2: ∀k,dy lk k=dy lk' k:=fun k=>by unfold dy;congr 1;funext y;rw[e1]
 have e3: ∀y,li lk y=li lk' y:=fun y=>by unfold li;dsimp only;rw[h1,e2]
 have e4:b9 lk C=b9 lk' C:=by unfold b9;congr 1;funext y;rw[e3]
 have e5:lQ lk C=lQ lk' C:=by unfold lQ;congr 1;funext n y;rw[h3]
 unfold zd;rw[e4,e5]
mutual
def zJ:It->Prop
 | .mk _ ws _ ks _ _=>((∀t∈ws,(1<=t.k/\t.k<=6)/\(t.k=1->t.n=0)/\t.t.length<=100000)/\ws.length<=1000)/\sA ks
def sA:List It->Prop
 |[]=>True
 |x::r=>zJ x/\sA r
end
theorem mq: ∀ {L:List It} {x:It},sA L->x∈L->zJ x
 |y::L,x,hw,h=>by
  rw[sA] at hw;rcases nH.1 h with rfl|h
  ·exact hw.1
  ·exact mq hw.2 h
theorem pC {x:It} (h:zJ x):(∀t∈x.ws,1<=t.k/\t.k<=6)/\x.ws.length<=100000/\(w0 x.ws).length<=10000000/\(lf 1 x=true->n1 x=0)/\sA x.kd:=by
 obtain ⟨n,ws,b,ks,l,c⟩:=x;rw[zJ] at h;obtain ⟨⟨h1,h2⟩,h3⟩:=h;refine ⟨fun t ht=>(h1 t ht).1,by show ws.length<=_;omega,?_,fun hf=>?_,h3⟩
 ·show (w0 ws).length<=_
  match ws with
  |[]=>exact jq _
  |t::r=>have:=(h1 t (by simp)).2.2;show t.t.length<=_;omega
 ·obtain ⟨-,t,hw,hk,hn⟩:=kg hf;rw[hn];have hw:ws=[t]:=hw;exact (h1 t (by rw[hw];simp)).2.1 hk
theorem zK: ∀(i:Nat) (L:List It),bJ (L.take i)<=bJ L
 |0,L=>by rw[N7,bJ];exact jq _
 |i+1,[]=>eR _
 |i+1,x::L=>by
  rw[List.take_succ_cons,bJ,bJ]
  have:=zK i L
  omega
theorem jz: ∀L:List It,L.length<=bJ L
 |[]=>jq _
 |x::L=>by
  rw[e7,bJ,BK]
  have:=jz L
  omega
theorem zL {L:List It} {x:It} (h:x∈L):bJ x.kd<=bJ L:=by
 have:=wo h
 have:=BK x
 omega
theorem ot (g w:Nat) (L:List It) (f0:List Ft) (i:Nat):hZ (au g) w L f0 i=((au (g+1) w (L.take i)).1,f0++(au (g+1) w (L.take i)).2):=by
 have:=sx (au g) w f0 (L.take i) ([],[])
 rw[xJ] at this;exact this
theorem zM (g w:Nat) (L:List It) (f0:List Ft) (i:Nat):(hZ (au g) w L f0 i).2.length<=f0.length+2*(g+1)*bJ L:=by
 rw[ot];have h1:=mm (g+1) w (L.take i);have h2:=Nat.mul_le_mul_left (2*(g+1)) (zK i L);rw[fT];omega
theorem zN (g w:Nat) (L:List It) (f0:List Ft) (i:Nat):(hZ (au g) w L f0 i).1.length<=L.length:=by
 rw[ot];refine mu (lV _ _ _) ?_
 have:=List.length_take_le' i L
 exact this
theorem Do {lk:Lk} {w:Nat} {s:List It×List Ft} {x:It} (h:aX w s.1 x=0):aB lk w s x=(s.1++[x],fN lk x s.2):=by
 unfold aB fN;rw[if_neg (by omega)];split
 ·rfl
 ·rfl
theorem Dp {lk:Lk} {w:Nat} {s:List It×List Ft} {x:It} (h:aX w s.1 x≠0):aB lk w s x=(s.1,s.2++[x.ft (aX w s.1 x)]):=by
 unfold aB;rw[if_pos h]
theorem EA (C R:Id) (L:List It) (n:List UInt8) (f0:List Ft) (g d:Nat) (hC:C.isIt=false) (hCd:C.isNw d=false) (hR:R.isIt=false) (hRd:R.isNw d=false) (nCR:C≠R) (hx:sA L) (hl:bJ L<=1000) (hg:g<=20) (hf:f0.length<=200000):
  ba Tryz.prog gl 23 d ⟨[.ptr C 0,.sl (ab L),.fn (1000000000+28) [.ptr R 0]],[(C,bN f0),(R,oT (au (g+1)) n [])],[(.b C 0,3),(.b R 6,2),(.b R 7,7),(.b R 8,2)]⟩
   ⟨.tup [],[(C,bN (f0++(au (g+2) 1 L).2)),(R,oT (au (g+1)) n (au (g+2) 1 L).1)],[(.b C 0,3),(.b R 6,2),(.b R 7,7),(.b R 8,2)]⟩:=by
 have hll:=jz L;have E:=OJ C R L (fun i=>am (hZ (au (g+1)) 1 L f0 i).1) (fun i=>(hZ (au (g+1)) 1 L f0 i).2) (fun i=>oT (au (g+1)) n (hZ (au (g+1)) 1 L f0 i).1) d hC hCd hR hRd nCR (fun i=>oq _ _ _) rfl (by omega) ?_
 ·have e:=ot (g+1) 1 L f0 L.length;rw[tJ] at e;have e1:=congrArg Prod.fst e;have e2:=congrArg Prod.snd e;dsimp only at e1 e2;rw[e1,e2] at E;exact E
 ·intro i h h1 h2;have hs:=oh (au (g+1)) 1 L f0 i h;have hlen:=zM (g+1) 1 L f0 i;have hcl:=zN (g+1) 1 L f0 i;have hinv:=Dh (au (g+1)) 1 L f0 i;have hm:=xz h;obtain ⟨x1,x2,x3,x4,x5⟩:=pC (mq hx hm);have hkl:=zL hm;have hkl2:=jz L[i].kd;have hmul:2*(g+1+1)*bJ L<=2*22*1000:=Nat.mul_le_mul (by omega) hl;rw[hs];generalize hZ (au (g+1)) 1 L f0 i=s at*;have hn:C.up≠R.up:=fun e=>nCR (by injection e)
  have hn3:C.up.up.up≠R.up.up.up:=fun e=>nCR (by injection e with e;injection e with e;injection e)
  by_cases c:aX 1 s.1 L[i]=0
  ·rw[Do c];exact Kw C.up (.it 10) R.up L[i] _ _ _ _ _ _ 21 hC h1 hR h2 rfl rfl hn (oq _ _ _) (oq _ _ _) (fun g1 g2 g3=>KC _ _ _ _ _ _ _ _ (au g) _ (fun _=>rfl) hinv (by omega) x1 (fun y hy=>(pC (mq x5 hy)).1) (by omega) x2 x3 x4 (by omega) rfl g2 hC g1 hR g3 hn3 c)
  ·rw[Dp c];exact Kx C.up (.it 10) R.up L[i] _ _ _ _ _ _ _ 21 hC h1 hR h2 rfl rfl hn (oq _ _ _) (oq _ _ _) (by omega) (fun g1 g2 g3=>KD _ _ _ _ _ _ _ _ (au g) _ (fun _=>rfl) hinv (by omega) x1 (fun y hy=>(pC (mq x5 hy)).1) (by omega) x2 x3 x4 (by omega) rfl g2 hC g1 hR g3 hn3 c)
theorem EB (C A R:Id) (L:List It) (GL:List (List AV)) (f0:List Ft) (lk:Lk) (d:Nat) (hC:C.isIt=false) (hCd:C.isNw d=false) (hA:A.isIt=false) (hAd:A.isNw d=false) (hR:R.isIt=false) (hRd:R.isNw d=false) (nCA:C≠A) (nCR:C≠R) (nAR:A≠R)
  (hx: ∀x∈L,∀t∈x.ws,1<=t.k/\t.k<=6) (hl:L.length<=100000) (hf:f0.length<=1000000):
  ba Tryz.prog gl 23 d ⟨[.ptr C 0,.sl (ab L),.fn 51 [.ptr A 0]],[(C,bN f0),(A,[.ptr R 1]),(R,nE GL [])],[(.b C 0,3),(.b R 0,8)]⟩
   ⟨.tup [],[(C,bN (f0++(L.foldl (aB lk 3) ([],[])).2)),(A,[.ptr R 1]),(R,nE GL (L.foldl (aB lk 3) ([],[])).1)],[(.b C 0,3),(.b R 0,8)]⟩:=by
 have E:=OI C A R L (fun i=>am (hZ lk 3 L f0 i).1) (fun i=>(hZ lk 3 L f0 i).2) (fun i=>nE GL (hZ lk 3 L f0 i).1) d hC hCd hA hAd hR hRd nCA nCR nAR (fun i=>kU _ _) rfl hl ?_
 ·have e:=Dg lk 3 L f0;have e1:=congrArg Prod.fst e;have e2:=congrArg Prod.snd e;dsimp only at e1 e2;rw[e1,e2] at E;exact E
 ·intro i h h1 h2 h3;have hs:=oh lk 3 L f0 i h;have hlen:=Di (lk:=lk) (show 2<=3 by decide) L f0 i;have hxi:=hx L[i] (xz h);rw[hs,py (by decide)];generalize hZ lk 3 L f0 i=s at*;have u1: ∀ {a b:Id},a≠b->a.up≠b.up:=fun h e=>h (by injection e)
  by_cases c:aX 3 s.1 L[i]=0
  ·rw[if_neg (by omega)];exact Ku C.up (.it 10) A.up R.up L[i] _ _ _ _ _ _ 21 hC h1 hA h2 hR h3 rfl rfl (u1 nCA) (u1 nCR) (u1 nAR) (kU _ _) (kU _ _) (fun g1 g2 g3 g4=>HD _ _ _ _ _ _ _ _ _ hxi rfl g2 hA g3 hR g4 hC g1 (u1 (u1 (u1 nCA))) (u1 (u1 (u1 nCR))) (u1 (u1 (u1 nAR))) c)
  ·rw[if_pos c];exact Kv C.up (.it 10) A.up R.up L[i] _ _ _ _ _ _ _ 21 hC h1 hA h2 hR h3 rfl rfl (u1 nCA) (u1 nCR) (u1 nAR) (kU _ _) (kU _ _) (by omega) (fun g1 g2 g3 g4=>HG _ _ _ _ _ _ _ _ _ hxi rfl g2 hA g3 hR g4 hC g1 (u1 (u1 (u1 nCA))) (u1 (u1 (u1 nCR))) (u1 (u1 (u1 nAR))) c)
def wJ:pu:=⟨tX,[],true,1,0,0⟩
theorem qP {x:It}:cE wJ x=(x.bk&&(x.ws.length==0)):=by
 unfold cE wJ;have e2:(tX !=dU)=true:=rfl;have e3:(tX !=kN)=true:=rfl
 match x.ws with
 |[]=>simp[iH,e2,e3]
 |_::_=>simp[iH]
theorem Dq {C:List It} {x:It} (hn:x.nm=tX):aX 0 C x=if cE wJ x=false then 6 else iI (am C) x.nm 0 0 0:=by
 have hp:bV 0 x.nm=some wJ:=by rw[hn];rfl
 cases hf:cE wJ x with
 |false=>rw[gF hp hf,if_pos rfl]
 |true=>
  rw[kp hp hf rfl,if_neg (show ¬true=false by decide)];rw[qP,aJ] at hf;have hw:x.ws=[]:=by simpa using hf.2
  have hz:ir x=0:=by unfold ir;rw[hw]
  rw[hz];rfl
theorem EC (C M R:Id) (x:It) (Cs:List It) (GL:List (List AV)) (f:List Ft) (lk lk':Lk) (d:Nat) (hn:x.nm=tX) (hx: ∀y∈x.kd,∀t∈y.ws,1<=t.k/\t.k<=6) (hl:x.kd.length<=100000) (hf:f.length<=1000000)
  (hM:M.isIt=true) (hMd:M.isNw d=false) (hC:C.isIt=false) (hCd:C.isNw d=false) (hR:R.isIt=false) (hRd:R.isNw d=false) (nCR:C≠R) (h0:aX 0 Cs x=0):
  ba Tryz.prog gl 30 d ⟨[bS C M,.agg x.row,.ptr R 1],[(C,bN f),(M,a8 (am Cs)),(R,nE GL [])],[(.b C 0,3),(.b R 0,8)]⟩
   ⟨.tup [],[(C,bN (f++((x.kd.foldl (aB lk 3) ([],[])).2++cV lk' 3 x (x.kd.foldl (aB lk 3) ([],[])).1))),(M,a8 (am (Cs++[x]))),(R,nE GL (x.kd.foldl (aB lk 3) ([],[])).1)],[(.b C 0,3),(.b R 0,8)]⟩:=by
 refine Uy rfl ?_;have iC:=ae hCd;have iM:=ae hMd;have iR:=ae hRd;have nMC:M≠C:=fun e=>by rw[e,hC] at hM;cases hM
 have nCM:=nMC.symm;have nMR:M≠R:=fun e=>by rw[e,hR] at hM;cases hM
 have nRM:=nMR.symm;have nRC:=nCR.symm;rw[Dq hn] at h0;have hfm:cE wJ x=true:=by
  cases h:cE wJ x with
  |true=>rfl
  |false=>rw[h,if_pos rfl] at h0;cases h0
 rw[hfm,if_neg (show ¬true=false by decide)] at h0;rw[qP,aJ] at hfm;have hb:x.bk=true:=hfm.1;have hw:x.ws=[]:=by simpa using hfm.2
 have NU:=fun h=>mj C.up M.up x (am Cs) 0 0 0 17 hM h h0
 have U:=fun e d=>bZ e d
 have u1:C.up≠R.up:=fun e=>nCR (by injection e)
 have EN:=fun h h2 h3=>EB C.up (.n 5) R.up x.kd GL f lk 23 hC h rfl h2 hR h3 (by simp) u1 (by simp) hx hl hf
 rw[cS (by rw[hn];rfl)];have hlen2:=oi (lk:=lk) (show 2<=3 by decide) x.kd ([],[]);have SA:=fun h=>gD C.up 8 x.pl.1 x.pl.2 (f++(x.kd.foldl (aB lk 3) ([],[])).2) 48 hC h (by simp only[fT,tO,l5] at*;omega)
 have hft:(⟨8,x.pl.1,x.pl.2⟩:Ft)=x.ft 8:=rfl;rw[hft] at SA;have wh: ∀k,cV lk' 3 x k=if ai k mz 16<ai k mA 0\/ai k mE 300<ai k mB 10 then [x.ft 8] else []:=fun k=>by
  unfold cV;rw[if_neg (by decide),if_neg (by decide),if_pos rfl]
 rw[wh];have e0:nE GL []=[.sl GL,i6 16,i6 0,i6 10,i6 300,i6 0]:=rfl;simp only[e0] at EN ⊢;unfold nE at*;rw[xv] at SA;generalize (x.kd.foldl (aB lk 3) ([],[]))=k at*;generalize ai k.1 mz 16=vm,ai k.1 mA 0=vv,ai k.1 mB 10=vi,ai k.1 mE 300=vp,ai k.1 nh 0=vr at*;have t8:(vm<vv\/vp<vi)->List.map Ft.row (f++(k.2++(if vm<vv\/vp<vi then [x.ft 8] else [])))=List.map Ft.row (f++(k.2++[x.ft 8])):=fun h=>by rw[if_pos h]
 have t0: ¬(vm<vv\/vp<vi)->List.map Ft.row (f++(k.2++(if vm<vv\/vp<vi then [x.ft 8] else [])))=List.map Ft.row (f++k.2):=fun h=>by rw[if_neg h,xJ]
 unfold a8 bS bN at*;simp only[aw,hb,hw,l6] at NU ⊢;generalize aI kS (aA (am Cs++[x.nm]))=G2 at*;generalize aI kS (aA (am Cs))=G,List.map Ft.row (f++(k.2++(if vm<vv\/vp<vi then [x.ft 8] else [])))=FE,List.map Ft.row (f++(k.2++[x.ft 8]))=F8,List.map Ft.row (f++k.2)=FK,List.map Ft.row f=FL,x.nm=nm,ab x.kd=KR,x.pl.1=pl,x.pl.2=pc at*;simp only[ar,aW,aP,AV.mp,aY,Pl.mp] at*;clear hfm h0 hlen2 hft wh hx e0;simp[LY];refine aZ _ _ (U 6 _) (by constructor<;>simp[hM,hC,hR,nMC,nCM,nMR,nRM,nCR,nRC]) ?_
 simp[hM,hC,hR,nMC,nCM,nMR,nRM,nCR,nRC];refine aZ _ _ (NU rfl) (by constructor<;>simp[hM,hC,hR,nMC,nCM,nMR,nRM,nCR,nRC]) ?_
 simp[hM,hC,hR,nMC,nCM,nMR,nRM,nCR,nRC];refine aE _ _ (EN rfl rfl rfl) (by constructor<;>simp[hM,hC,hR,nMC,nCM,nMR,nRM,nCR,nRC]) ?_
 by_cases b1:vm<vv
 ·rw[t8 (.inl b1)];simp[hM,hC,hR,nMC,nCM,nMR,nRM,nCR,nRC,b1];refine aE _ _ (SA rfl) (by constructor<;>simp[hM,hC,hR,nMC,nCM,nMR,nRM,nCR,nRC]) ?_
  simp[hM,hC,hR,nMC,nCM,nMR,nRM,nCR,nRC];refine bh ?_;constructor<;>simp[iC,iM,iR,hM,hC,hR,nMC,nCM,nMR,nRM,nCR,nRC]
 by_cases b2:vp<vi
 ·rw[t8 (.inr b2)];simp[hM,hC,hR,nMC,nCM,nMR,nRM,nCR,nRC,b1,b2];refine aE _ _ (SA rfl) (by constructor<;>simp[hM,hC,hR,nMC,nCM,nMR,nRM,nCR,nRC]) ?_
  simp[hM,hC,hR,nMC,nCM,nMR,nRM,nCR,nRC];refine bh ?_;constructor<;>simp[iC,iM,iR,hM,hC,hR,nMC,nCM,nMR,nRM,nCR,nRC]
 ·rw[t0 (fun h=>h.elim b1 b2)];simp[hM,hC,hR,nMC,nCM,nMR,nRM,nCR,nRC,b1,b2];refine bh ?_;constructor<;>simp[iC,iM,iR,hM,hC,hR,nMC,nCM,nMR,nRM,nCR,nRC]
theorem ED (C M R:Id) (x:It) (Cs:List It) (cs:List AV) (f:List Ft) (d:Nat) (hn:x.nm=tX)
  (hM:M.isIt=true) (hMd:M.isNw d=false) (h0:aX 0 Cs x≠0):
  di Tryz.prog gl 30 d ⟨[bS C M,.agg x.row,.ptr R 1],[(M,a8 (am Cs))],[]⟩ ⟨bE (aX 0 Cs x),[(M,a8 (am Cs))],[]⟩:=by
 refine Ux rfl ?_;have iM:=ae hMd;have U:=fun e d=>bZ e d
 have UT:=fun e d=>eM e d
 rw[Dq hn] at h0 ⊢;have hzl: ∀k:Nat,k≠0->(((k:Nat):Int)==0)=false:=fun k h=>cH.2 (by omega)
 cases hfm:cE wJ x with
 |false=>
  rw[if_pos rfl];rw[qP] at hfm;clear h0;cases hb:x.bk with
  |false=>
   rw[aw,hb];unfold a8 bS bE at*;generalize aI kS (aA (am Cs))=G,ab x.kd=KR,List.map Tk.row x.ws=WR at*;simp only[ar,aW,aP,AV.mp,aY,Pl.mp] at*;simp[LY];refine bj _ _ (UT 6 _) (by constructor<;>simp[hM]) rfl ?_
   refine ⟨rfl,by simp,?_⟩;constructor<;>simp[hM,iM]
  |true=>
   rw[hb] at hfm;have hw:x.ws.length≠0:=by simpa using hfm
   have hw':=hzl _ hw;rw[aw,hb];unfold a8 bS bE at*;generalize aI kS (aA (am Cs))=G,ab x.kd=KR at*;have hwl:(List.map Tk.row x.ws).length=x.ws.length:=tN _;generalize List.map Tk.row x.ws=WR at*;simp only[ar,aW,aP,AV.mp,aY,Pl.mp] at*;rw[<-hwl] at hw';simp[LY,hw'];refine bj _ _ (UT 6 _) (by constructor<;>simp[hM]) rfl ?_
   refine ⟨rfl,by simp,?_⟩;constructor<;>simp[hM,iM]
 |true=>
  rw[hfm] at h0;rw[if_neg (show ¬true=false by decide)] at h0 ⊢;rw[qP,aJ] at hfm;have hb:x.bk=true:=hfm.1;have hw:x.ws=[]:=by simpa using hfm.2
  have NU:=fun h=>ml C.up M.up x (am Cs) 0 0 0 17 hM h h0
  generalize iI (am Cs) x.nm 0 0 0=e at*;unfold a8 bS bE at*;simp only[aw,hb,hw,l6] at NU ⊢;generalize aI kS (aA (am Cs))=G,ab x.kd=KR at*;simp only[ar,aW,aP,AV.mp,aY,Pl.mp] at*;clear hfm h0;simp[LY];refine aZ _ _ (U 6 _) (by constructor<;>simp[hM]) ?_
  simp[hM];refine bj _ _ (NU rfl) (by constructor<;>simp[hM]) rfl ?_
  refine ⟨rfl,by simp,?_⟩;constructor<;>simp[hM,iM]
end Go.Ai
