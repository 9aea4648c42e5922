/- P12: a part of the proof. Conditions: as each theorem says. -/
import Derived.Test.YtojgeamhdkphaaaGreatDoorP11
set_option maxHeartbeats 4000000
set_option linter.unusedSimpArgs false
set_option linter.unusedVariables false
set_option maxRecDepth 20000
namespace Go.Ai
open Go.Proofs
theorem Gy (lk:Lk) (w:Nat) (C:List It) (f0 g:List Ft) (x:It):aG lk w (C,f0++g) x=((aG lk w (C,g) x).1,f0++(aG lk w (C,g) x).2):=by
 unfold aG;dsimp only;split
 ·rw[BU]
 ·split
  ·rfl
  ·rw[BU]
theorem sA (lk:Lk) (w:Nat) (f0:List Ft): ∀(L:List It) (s:List It×List Ft),L.foldl (aG lk w) (s.1,f0++s.2)=((L.foldl (aG lk w) s).1,f0++(L.foldl (aG lk w) s).2)
 |[],s=>rfl
 |x::L,s=>by
  rw[List.foldl_cons,List.foldl_cons,Gy,sA lk w f0 L (aG lk w s x)]
def iJ (lk:Lk) (w:Nat) (L:List It) (f0:List Ft) (i:Nat):List It×List Ft:=(L.take i).foldl (aG lk w) ([],f0)
theorem oD (lk:Lk) (w:Nat) (L:List It) (f0:List Ft) (i:Nat) (h:i<L.length):iJ lk w L f0 (i+1)=aG lk w (iJ lk w L f0 i) L[i]:=by
 unfold iJ;rw[Am h,List.foldl_append];rfl
theorem CN (lk:Lk) (w:Nat) (L:List It) (f0:List Ft):iJ lk w L f0 L.length=((L.foldl (aG lk w) ([],[])).1,f0++(L.foldl (aG lk w) ([],[])).2):=by
 unfold iJ;rw[pr,<-sA lk w f0 L ([],[]),BV]
theorem CQ (lk:Lk) (w:Nat) (L:List It) (f0:List Ft) (i:Nat):kR w (iJ lk w L f0 i).1:=mj lk w _ _ (fun y hy=>by cases hy)
theorem Bg {w:Nat} (hw:2<=w) {n:List UInt8} {p:jV} (hp:bK w n=some p):bQ n=0:=by
 obtain ⟨hm,hn⟩:=iV hp;have h2: ∀p∈fZ 2,bQ p.nm=0:=by decide
 have h3: ∀p∈fZ 3,bQ p.nm=0:=by decide
 rw[<-hn];unfold fZ at hm h2 h3;rw[if_neg (by omega),if_neg (by omega)] at hm;by_cases e2:w=2
 ·rw[if_pos e2] at hm;exact h2 p hm
 ·rw[if_neg e2] at hm;exact h3 p hm
theorem pS {lk:Lk} {w:Nat} (hw:2<=w) (s:List It×List Ft) (x:It):aG lk w s x=if aV w s.1 x≠0 then (s.1,s.2++[x.ft (aV w s.1 x)]) else (s.1++[x],s.2):=by
 unfold aG;split
 ·rfl
 ·rename_i hc;have hc:aV w s.1 x=0:=by omega
  obtain ⟨p,hp,_⟩:=iw hc;rw[if_pos (Bg hw hp)]
theorem oE {lk:Lk} {w:Nat} (hw:2<=w): ∀(L:List It) (s:List It×List Ft),(L.foldl (aG lk w) s).2.length<=s.2.length+L.length
 |[],s=>gp _
 |x::L,s=>by
  rw[List.foldl_cons];refine jH (oE hw L _) ?_;rw[pS hw,jG];split
  ·rw[gJ,EO];omega
  ·dsimp only;omega
theorem CT {lk:Lk} {w:Nat} (hw:2<=w) (L:List It) (f0:List Ft) (i:Nat):(iJ lk w L f0 i).2.length<=f0.length+L.length:=by
 refine jH (oE hw _ _) ?_
 have:=List.length_take_le' i L
 dsimp only;omega
theorem oF (n:List UInt8) (pg:Bool) (C:List It):bR (qT n pg C)=[]:=rfl
theorem D2 (C R:Id) (L:List It) (n:List UInt8) (pg:Bool) (f0:List Ft) (lk:Lk) (d:Nat) (hC:C.isIt=false) (hCd:C.isNw d=false) (hR:R.isIt=false) (hRd:R.isNw d=false) (nCR:C≠R) (hx: ∀x∈L,∀t∈x.ws,1<=t.k/\t.k<=6) (hl:L.length<=100000) (hf:f0.length<=1000000):
  bh Tryz.prog gl 23 d ⟨[.ptr C 0,.sl (ae L),.fn 76 [.ptr R 0]],[(C,bY f0),(R,qT n pg [])],[(.b C 0,3)]⟩
   ⟨.tup [],[(C,bY (f0++(L.foldl (aG lk 2) ([],[])).2)),(R,qT n pg (L.foldl (aG lk 2) ([],[])).1)],[(.b C 0,3)]⟩:=by
 have E:=Ny C R L (fun i=>ar (iJ lk 2 L f0 i).1) (fun i=>(iJ lk 2 L f0 i).2) (fun i=>qT n pg (iJ lk 2 L f0 i).1) d hC hCd hR hRd nCR (fun i=>oF _ _ _) rfl hl ?_
 ·have e:=CN lk 2 L f0;have e1:=congrArg Prod.fst e;have e2:=congrArg Prod.snd e;dsimp only at e1 e2;rw[e1,e2] at E;exact E
 ·intro i h h1 h2;have hs:=oD lk 2 L f0 i h;have hlen:=CT (lk:=lk) (gp 2) L f0 i;have hxi:=hx L[i] (o9 h);rw[hs,pS (gp 2)];generalize iJ lk 2 L f0 i=s at*;have hn:C.up≠R.up:=fun e=>nCR (by injection e)
  by_cases c:aV 2 s.1 L[i]=0
  ·rw[if_neg (by omega)];exact Jz C.up (.it 10) R.up L[i] _ _ _ _ _ _ 21 hC h1 hR h2 rfl rfl hn (oF _ _ _) (oF _ _ _) (fun g1 g2 g3=>Gt _ _ _ _ _ _ _ _ _ hxi rfl g2 hR g3 hC g1 (fun e=>nCR (by injection e with e;injection e with e;injection e)) c)
  ·rw[if_pos c];exact JA C.up (.it 10) R.up L[i] _ _ _ _ _ _ _ 21 hC h1 hR h2 rfl rfl hn (oF _ _ _) (oF _ _ _) (by omega) (fun g1 g2 g3=>Gu _ _ _ _ _ _ _ _ _ hxi rfl g2 hR g3 hC g1 (fun e=>nCR (by injection e with e;injection e with e;injection e)) c)
def wx:jV:=⟨du,[1,1],true,4,0,0⟩
theorem wy {x:It} (h:cz wx x=true):x.bk=true/\ ∃a b,x.ws=[a,b]/\a.k=1/\b.k=1/\(b.t=qa\/b.t=IE):=by
 unfold cz wx at h;simp only[aL,show (du !=du)=false from rfl,Bool.false_or,Fa,cY] at h;obtain ⟨h1,h2,-,h4⟩:=h;refine ⟨h1,?_⟩
 match hw:x.ws with
 |[]=>rw[hw] at h2;simp[e7] at h2
 |[a]=>rw[hw] at h2;simp[e7] at h2
 |[a,b]=>
  rw[hw] at h2 h4;have e:(du==eZ)=false:=rfl;simp[e7,e] at h2;exact ⟨a,b,rfl,h2.1,h2.2,h4⟩
 |_::_::_::_=>rw[hw] at h2;simp[e7] at h2
theorem ze {x:It} (h:cz wx x=false):x.bk=false\/(x.bk=true/\(x.ws.map Tk.k==[1,1])=false)\/(x.bk=true/\ ∃a b,x.ws=[a,b]/\(x.ws.map Tk.k==[1,1])=true/\(b.t==qa)=false/\(b.t==IE)=false):=by
 cases hb:x.bk with
 |false=>exact .inl rfl
 |true=>
  refine .inr ?_;cases hk:(x.ws.map Tk.k==[1,1]) with
  |false=>exact .inl ⟨rfl,rfl⟩
  |true=>
   refine .inr ⟨rfl,?_⟩
   match hw:x.ws with
   |[]=>rw[hw] at hk;simp at hk
   |[a]=>rw[hw] at hk;simp at hk
   |[a,b]=>
    rw[hw] at hk;simp at hk;refine ⟨a,b,rfl,rfl,?_⟩;unfold cz wx at h;rw[hb,hw] at h;have e:(du==eZ)=false:=rfl;have e2:(du !=du)=false:=rfl;have e3:(du !=jj)=true:=rfl;simp[e7,e,e2,e3,hk.1,hk.2,w1] at h;simpa using h
   |_::_::_::_=>rw[hw] at hk;simp at hk
theorem JB (C M:Id) (x:It) (Cs:List It) (f:List Ft) (lk lk':Lk) (d:Nat) (hn:x.nm=du) (hIC:kR 1 Cs) (hx: ∀y∈x.kd,∀t∈y.ws,1<=t.k/\t.k<=6) (hl:x.kd.length<=100000) (hw0:(w0 x.ws).length<=10000000) (hf:f.length<=1000000)
  (hM:M.isIt=true) (hMd:M.isNw d=false) (hC:C.isIt=false) (hCd:C.isNw d=false) (h0:aV 1 Cs x=0):
  bh Tryz.prog gl 49 d ⟨[b9 C M,.agg x.row],[(C,bY f),(M,ba (ar Cs))],[(.b C 0,3)]⟩
   ⟨.agg (qT (w0 x.ws) (w1 x.ws==qa) (x.kd.foldl (aG lk 2) ([],[])).1),[(C,bY (f++((x.kd.foldl (aG lk 2) ([],[])).2++bu lk' 2 x (x.kd.foldl (aG lk 2) ([],[])).1))),(M,ba (ar (Cs++[x])))],[(.b C 0,3)]⟩:=by
 refine Us rfl ?_;have iC:=ai hCd;have iM:=ai hMd;have nMC:M≠C:=fun e=>by rw[e,hC] at hM;cases hM
 have nCM:=nMC.symm;have hp:bK 1 x.nm=some wx:=by rw[hn];rfl
 obtain ⟨q,hq,hfm⟩:=iw h0;rw[hp] at hq;cases hq;rw[ij hIC hp hfm (by decide)] at h0;obtain ⟨hbk,a,b,hws,hak,hbk1,hbt⟩:=wy hfm;have ew0:w0 x.ws=a.t:=by rw[hws];rfl
 have ew1:w1 x.ws=b.t:=by rw[hws];rfl
 rw[ew0] at h0 hw0;have NM:=fun h=>sg C.up M.up x a [b] (ar Cs) 4 32 hM h hws hak h0 (by decide) (by rw[hn];show 4+_<=_;omega)
 have WO:=ic x [1,1] (by decide) (by rw[hws];simp);have hkk:(x.ws.map Tk.k==[1,1])=true:=by rw[hws];simp[hak,hbk1]
 rw[hkk] at WO;have U:=fun e d=>cu e d
 have kk:ar (Cs++[x])=ar Cs++[dJ x.nm a.t]++[x.nm]:=by
  rw[lA];unfold lK;rw[hn,if_pos (show mh du=true from rfl),ew0];simp
 have ER:=fun h h2=>D2 C.up (.n 5) x.kd a.t (b.t==qa) f lk 45 hC h rfl h2 (by simp) hx hl hf
 have wh:=Mg lk lk' x x.kd;have hlen2:=oE (lk:=lk) (gp 2) x.kd ([],[]);have e0:qT a.t (b.t==qa) []=[.str a.t,.bool (b.t==qa),i6 0,i6 0,u 0,i6 0,i6 0]:=rfl;rw[e0] at ER;rw[kk,wh,ew0,ew1,au] at*;unfold qT at*;have hA: ∀e,f++(x.kd.foldl (aG lk 2) ([],[])).2++[x.ft e]=f++((x.kd.foldl (aG lk 2) ([],[])).2++[x.ft e]):=fun e=>BU _ _ _
 have SA:=fun e h=>ib C.up e x.pl.1 x.pl.2 (f++(x.kd.foldl (aG lk 2) ([],[])).2) 63 hC h (by simp only[gJ,vz,mm] at*;omega)
 have SB:=fun e h=>ib C.up e x.pl.1 x.pl.2 (f++(x.kd.foldl (aG lk 2) ([],[])).2) 73 hC h (by simp only[gJ,vz,mm] at*;omega)
 have hft: ∀e,(⟨e,x.pl.1,x.pl.2⟩:Ft)=x.ft e:=fun e=>rfl
 simp only[hft,hA] at SA SB;generalize x.kd.foldl (aG lk 2) ([],[])=k at*;generalize ah k.1 fX 0=vl,ah k.1 fY 0=vs,ah k.1 eZ 0=vf,ah k.1 lH 0=vo,ah k.1 lI 0=ve,k.2=k2 at*;rw[hws,hbk] at*;obtain ⟨ak,at',an,al,ac⟩:=a;obtain ⟨bk',bt,bn,bl,bc⟩:=b;simp only[gL,lS,Tk.row] at*;unfold ba b9 bY at*;have hft2: ∀e,x.ft e=⟨e,x.pl.1,x.pl.2⟩:=fun e=>rfl
 generalize aI kS (aB (ar Cs++[dJ x.nm at']++[x.nm]))=G2 at*;generalize aI kS (aB (ar Cs))=G,hFA:(fun e=>List.map Ft.row (f++(k2++[x.ft e])))=FA at*;have hFA': ∀e,List.map Ft.row (f++(k2++[x.ft e]))=FA e:=fun e=>by rw[<-hFA]
 simp only[hFA'] at SA SB;have hC1:C.up≠(Id.n 5):=by simp
 clear hA wh hlen2 kk hft hft2 hkk hfm hp hIC h0 ew0 ew1 hn hx hw0;have final: ∀(F:List (List AV)),F=List.map Ft.row (f++(k2++(if vl=0\/vs=0\/vf=0 then [x.ft 6] else if vl<vs then [x.ft 8] else [])))->F=F:=fun _ _=>rfl
 have t6:(vl=0\/vs=0\/vf=0)->List.map Ft.row (f++(k2++(if vl=0\/vs=0\/vf=0 then [x.ft 6] else if vl<vs then [x.ft 8] else [])))=FA 6:=fun h=>by rw[if_pos h,hFA']
 have t8: ¬(vl=0\/vs=0\/vf=0)->vl<vs->List.map Ft.row (f++(k2++(if vl=0\/vs=0\/vf=0 then [x.ft 6] else if vl<vs then [x.ft 8] else [])))=FA 8:=fun h h2=>by rw[if_neg h,if_pos h2,hFA']
 have t0: ¬(vl=0\/vs=0\/vf=0)-> ¬vl<vs->List.map Ft.row (f++(k2++(if vl=0\/vs=0\/vf=0 then [x.ft 6] else if vl<vs then [x.ft 8] else [])))=List.map Ft.row (f++k2):=fun h h2=>by rw[if_neg h,if_neg h2,BV]
 generalize hFR:List.map Ft.row (f++(k2++(if vl=0\/vs=0\/vf=0 then [x.ft 6] else if vl<vs then [x.ft 8] else [])))=FR,List.map Ft.row (f++k2)=FK,List.map Ft.row f=FL at*;clear final hFA hFA' hFR;generalize x.nm=nm,ae x.kd=KR,x.pl.1=pl,x.pl.2=pc at*;simp only[aw,aW,aO,AV.mp,aX,Pl.mp] at*;have hpg:(bt=qa/\(bt==qa)=true)\/(bt=IE/\(bt==qa)=false):=by
  rcases hbt with rfl|rfl
  ·exact .inl ⟨rfl,rfl⟩
  ·exact .inr ⟨rfl,rfl⟩
 clear hbt;generalize (bt==qa)=pg at*;unfold qa IE at hpg;have hvl:((vl:Int)==0)=decide (vl=0):=by
  by_cases h:vl=0
  ·rw[h];rfl
  ·rw[ik h,bJ];omega
 have hvs:((vs:Int)==0)=decide (vs=0):=by
  by_cases h:vs=0
  ·rw[h];rfl
  ·rw[ik h,bJ];omega
 have hvf:((vf:Int)==0)=decide (vf=0):=by
  by_cases h:vf=0
  ·rw[h];rfl
  ·rw[ik h,bJ];omega
 rcases hpg with ⟨rfl,rfl⟩|⟨rfl,rfl⟩
 all_goals
  simp[Kz];apply ab WO;simp;refine a6 _ _ (U 6 _) (by constructor<;>simp[hM,hC,nMC,nCM]) ?_
  simp;refine .inl ?_;refine fA _ _ (NM rfl) ⟨?_,?_,?_,?_,?_,?_,?_⟩ ⟨?_,?_,?_⟩ ?_;iterate 10 (· simp[Pl.isB,Pl.isF,mT,KF,AV.pid,hM,hC,nMC,nCM])
  simp[hM,hC,nMC,nCM];refine aF _ _ (ER rfl rfl) (by constructor<;>simp[hM,hC,nMC,nCM]) ?_
  simp[hM,hC,nMC,nCM];by_cases z1:vl=0
  ·have z1':((vl:Int)==0)=true:=by rw[hvl,z1];rfl
   have t6:=t6 (.inl z1);simp[hM,hC,nMC,nCM,z1,z1'];refine aF _ _ (SA 6 rfl) (by constructor<;>simp[hM,hC,nMC,nCM]) ?_
   simp[hM,hC,nMC,nCM];apply am<;>simp[hM,hC,nMC,nCM,iC,iM,t6]
  have z1':((vl:Int)==0)=false:=by rw[hvl,ik z1]
  by_cases z2:vs=0
  ·have z2':((vs:Int)==0)=true:=by rw[hvs,z2];rfl
   have t6:=t6 (.inr (.inl z2));simp[hM,hC,nMC,nCM,z1,z1',z2,z2'];refine aF _ _ (SA 6 rfl) (by constructor<;>simp[hM,hC,nMC,nCM]) ?_
   simp[hM,hC,nMC,nCM];apply am<;>simp[hM,hC,nMC,nCM,iC,iM,t6]
  have z2':((vs:Int)==0)=false:=by rw[hvs,ik z2]
  by_cases z3:vf=0
  ·have z3':((vf:Int)==0)=true:=by rw[hvf,z3];rfl
   have t6:=t6 (.inr (.inr z3));simp[hM,hC,nMC,nCM,z1,z1',z2,z2',z3,z3'];refine aF _ _ (SA 6 rfl) (by constructor<;>simp[hM,hC,nMC,nCM]) ?_
   simp[hM,hC,nMC,nCM];apply am<;>simp[hM,hC,nMC,nCM,iC,iM,t6]
  have z3':((vf:Int)==0)=false:=by rw[hvf,ik z3]
  have hz: ¬(vl=0\/vs=0\/vf=0):=by omega
  by_cases z4:vl<vs
  ·have t8:=t8 hz z4;simp[hM,hC,nMC,nCM,z1,z1',z2,z2',z3,z3',z4];refine aF _ _ (SB 8 rfl) (by constructor<;>simp[hM,hC,nMC,nCM]) ?_
   simp[hM,hC,nMC,nCM];apply am<;>simp[hM,hC,nMC,nCM,iC,iM,t8]
  have t0:=t0 hz z4;simp[hM,hC,nMC,nCM,z1,z1',z2,z2',z3,z3',z4];apply am<;>simp[hM,hC,nMC,nCM,iC,iM,t0]
theorem fW {d:Nat} {O:bZ} {v:AV} {σ τ:St} (hb:τ.bx=σ.bx) (hp: ∀p:Pl,p.isB=true->aH τ.pm p=aH σ.pm p) (h:ee d O v σ):ee d O v τ:=by
 obtain ⟨h1,h2,h3⟩:=h;refine ⟨h1,h2,⟨?_,h3.ids,fun p hp'=>?_,h3.bi,fun p hp'=>?_,h3.nd⟩⟩
 ·have:=h3.r
  simpa only[iF] using this
 ·have:=h3.bx p hp'
  unfold Mw at*;rw[hb];exact this
 ·have:=h3.pm p hp'
  obtain ⟨q,k⟩:=p;cases q with
  |s t=>exact absurd this (by simp[oo])
  |t t i=>exact absurd this (by simp[oo])
  |b i o=>
   unfold oo at*;refine ⟨this.1,?_⟩;rw[hp (.b _ o) rfl];refine this.2.imp id fun g=>?_
   unfold jn at*;rw[hb];exact g
theorem li {P:Program} {GL:List (Nat×List Value)} {R:AV->St->Prop} {os:List bE} {d f:Nat} {ys:List X} {σ:St}
 (h:lQ (bh P GL) os (fun τ=> ∃I O,dK P GL f d I O/\cZ d τ ys I O/\(∀p∈I.pm,p.1.isB=true)/\O.r.ids=[]/\ ∀τ',τ'.bx=(lF d τ ys I O).bx->(∀p:Pl,p.isB=true->aH τ'.pm p=aH (lF d τ ys I O).pm p)->R O.r τ') σ):Jn (bh P GL) (dK P GL) R os d f ys σ:=h
theorem JC (C M:Id) (x:It) (Cs:List It) (f:List Ft) (d:Nat) (hn:x.nm=du) (hIC:kR 1 Cs) (hwl:x.ws.length<=100000) (hw0:(w0 x.ws).length<=10000000)
  (hM:M.isIt=true) (hMd:M.isNw d=false) (hC:C.isIt=false) (hCd:C.isNw d=false) (h0:aV 1 Cs x≠0):
  dK Tryz.prog gl 49 d ⟨[b9 C M,.agg x.row],[(C,bY f),(M,ba (ar Cs))],[(.b C 0,3)]⟩ ⟨bN (aV 1 Cs x),[(C,bY f),(M,ba (ar Cs))],[(.b C 0,3)]⟩:=by
 refine Ur rfl ?_;have iC:=ai hCd;have iM:=ai hMd;have nMC:M≠C:=fun e=>by rw[e,hC] at hM;cases hM
 have nCM:=nMC.symm;have hp:bK 1 x.nm=some wx:=by rw[hn];rfl
 have U:=fun e d=>cu e d
 have UT:=fun e d=>fp e d
 have WO:=ic x [1,1] (by decide) hwl;cases hfm:cz wx x with
 |false=>
  rw[ii hp hfm];clear h0;rcases ze hfm with hb|⟨hb,hk⟩|⟨hb,a,b,hws,hk,h1,h2⟩
  ·rw[au,hb];unfold b9 bY ba bN at*;generalize aI kS (aB (ar Cs))=G,List.map Ft.row f=FL,ae x.kd=KR,List.map Tk.row x.ws=WR at*;simp only[aw,aW,aO,AV.mp,aX,Pl.mp] at*;simp[Kz];refine bC _ _ (UT 6 _) (by constructor<;>simp[hM,hC,nMC,nCM]) rfl ?_
   refine ⟨rfl,by simp,?_⟩;constructor<;>simp[hM,hC,nMC,nCM,iC,iM]
  ·rw[au,hb,hk] at WO;rw[au,hb];simp only[gL,lS] at WO;unfold b9 bY ba bN at*;generalize aI kS (aB (ar Cs))=G,List.map Ft.row f=FL,ae x.kd=KR,List.map Tk.row x.ws=WR at*;simp only[aw,aW,aO,AV.mp,aX,Pl.mp] at*;simp[Kz];apply ab WO;simp;refine bC _ _ (UT 6 _) (by constructor<;>simp[hM,hC,nMC,nCM]) rfl ?_
   refine ⟨rfl,by simp,?_⟩;constructor<;>simp[hM,hC,nMC,nCM,iC,iM]
  ·rw[hk] at WO;rw[au,hb,hws] at WO ⊢;obtain ⟨ak,at',an,al,ac⟩:=a;obtain ⟨bk',bt,bn,bl,bc⟩:=b;simp only[gL,lS,Tk.row] at WO ⊢;simp only at h1 h2;unfold qa at h1;unfold IE at h2;unfold b9 bY ba bN at*;generalize aI kS (aB (ar Cs))=G,List.map Ft.row f=FL,ae x.kd=KR at*;simp only[aw,aW,aO,AV.mp,aX,Pl.mp] at*;simp[Kz];apply ab WO;simp[h1,h2];refine bC _ _ (UT 6 _) (by constructor<;>simp[hM,hC,nMC,nCM]) rfl ?_
   refine ⟨rfl,by simp,?_⟩;constructor<;>simp[hM,hC,nMC,nCM,iC,iM]
 |true=>
  have hc:=ij hIC hp hfm (by decide);obtain ⟨hbk,a,b,hws,hak,hbk1,hbt⟩:=wy hfm;have ew0:w0 x.ws=a.t:=by rw[hws];rfl
  rw[ew0] at hc hw0;have hc:aV 1 Cs x=Gn (ar Cs) x.nm a.t 4:=hc;rw[hc] at h0 ⊢;have NM:=fun h=>sj C.up M.up x a [b] (ar Cs) 4 32 hM h hws hak h0 (by rw[hn];show 4+_<=_;omega)
  have hkk:(x.ws.map Tk.k==[1,1])=true:=by rw[hws];simp[hak,hbk1]
  rw[hkk] at WO;generalize Gn (ar Cs) x.nm a.t 4=e at*;simp only[au,hws,hbk] at WO NM ⊢;obtain ⟨ak,at',an,al,ac⟩:=a;obtain ⟨bk',bt,bn,bl,bc⟩:=b;simp only[gL,lS,Tk.row] at*;unfold ba b9 bY bN at*;generalize aI kS (aB (ar Cs))=G,List.map Ft.row f=FL,x.nm=nm,ae x.kd=KR at*;simp only[aw,aW,aO,AV.mp,aX,Pl.mp] at*;clear hkk hfm hp hIC h0 ew0 hn hw0 hc hws;unfold qa IE at hbt;rcases hbt with rfl|rfl
  all_goals
   simp[Kz];apply ab WO;simp;refine a6 _ _ (U 6 _) (by constructor<;>simp[hM,hC,nMC,nCM]) ?_
   simp;refine .inr (li ?_);simp;refine ⟨_,_,NM rfl,⟨?_,?_,?_,?_,?_,?_,?_⟩,by simp,rfl,?_⟩;iterate 7 (· simp[hM,hC,nMC,nCM])
   intro τ' hb hp;refine fW (σ:=⟨[],_,_⟩) hb hp ?_;refine ⟨rfl,by simp,?_⟩;constructor<;>simp[hM,hC,nMC,nCM,iC,iM]
theorem JD (C M A R:Id) (x:It) (K K':List (List UInt8)) (f f':List Ft) (cs cs':List AV) (d:Nat) (hC:C.isIt=false) (hCd:C.isNw d=false) (hA:A.isIt=false) (hAd:A.isNw d=false) (hR:R.isIt=false) (hRd:R.isNw d=false) (hM:M.isIt=true) (hMd:M.isNw d=false) (nCA:C≠A) (nCR:C≠R) (nAR:A≠R)
  (hid:bR cs=[]) (hid':bR cs'=[])
  (S:C.up.up.isNw 10=false->M.up.up.isNw 10=false->A.up.up.isNw 10=false->R.up.up.isNw 10=false->bh Tryz.prog gl 51 10 ⟨[b9 C.up.up M.up.up,.agg x.row,.ptr A.up.up 0],[(C.up.up,bY f),(M.up.up,ba K),(A.up.up,[.ptr R.up.up 1]),(R.up.up,cs)],[(.b C.up.up 0,3),(.b R.up.up 0,8)]⟩ ⟨.tup [],[(C.up.up,bY f'),(M.up.up,ba K'),(A.up.up,[.ptr R.up.up 1]),(R.up.up,cs')],[(.b C.up.up 0,3),(.b R.up.up 0,8)]⟩):
  bh Tryz.prog gl 44 d ⟨[b9 C M,.agg x.row,.fn (51) [.ptr A 0]],[(C,bY f),(M,ba K),(A,[.ptr R 1]),(R,cs)],[(.b C 0,3),(.b R 0,8)]⟩ ⟨.tup [],[(C,bY f'),(M,ba K'),(A,[.ptr R 1]),(R,cs')],[(.b C 0,3),(.b R 0,8)]⟩:=by
 refine Ky 1 1 (by decide) (by decide) rfl ?_;have iC:=ai hCd;have iA:=ai hAd;have iR:=ai hRd;have iM:=ai hMd;have nAC:=nCA.symm;have nRC:=nCR.symm;have nRA:=nAR.symm;have nMC:M≠C:=fun e=>by rw[e,hC] at hM;cases hM
 have nCM:=nMC.symm;have nMA:M≠A:=fun e=>by rw[e,hA] at hM;cases hM
 have nAM:=nMA.symm;have nMR:M≠R:=fun e=>by rw[e,hR] at hM;cases hM
 have nRM:=nMR.symm;have hmp:=fun g=>aT (f:=g) hid
 have hmp':=fun g=>aT (f:=g) hid'
 have q0:=a7 cs;have q1:=a7 cs';have S:=S rfl rfl rfl rfl;have RN:=qU (.up (.n 3)) (.up (.n 4)) 1;unfold b9 bY ba at*;rw[au] at*;generalize aI kS (aB K)=G at*;generalize aI kS (aB K')=G',List.map Ft.row f'=FL' at*;generalize List.map Ft.row f=FL,ae x.kd=KR,List.map Tk.row x.ws=WR,x.nm=nm,x.bk=bk,x.pl.1=pl,x.pl.2=pc at*;simp only[aw,aW,aO,AV.mp,aX,Pl.mp,hmp,Iv,jd];simp;rw[iu,za];simp;refine ⟨⟨[.agg [.ptr C.up 0,.mref M.up],.agg [.str nm,.sl WR,.bool bk,.sl KR,i6 pl,i6 pc],.fn (51) [.ptr A.up 0],.ptr (.n 3) 0,.ptr (.n 4) 0,.undef,.fn 74 [.ptr (.n 3) 0,.ptr (.n 4) 0],.undef,.undef,.undef,.undef],[(.n 3,[.ptr C.up 0,.mref M.up]),(.n 4,[.str nm,.sl WR,.bool bk,.sl KR,i6 pl,i6 pc]),(C.up,[.sl FL]),(M.up,[.mpv G]),(A.up,[.ptr R.up 1]),(R.up,cs)],[(.b C.up 0,3),(.b R.up 0,8)]⟩,rfl,⟨.tup [],[(.n 3,[.ptr C.up 0,.mref M.up]),(.n 4,[.str nm,.sl WR,.bool bk,.sl KR,i6 pl,i6 pc]),(C.up,[.sl FL']),(M.up,[.mpv G']),(A.up,[.ptr R.up 1]),(R.up,cs')],[(.b C.up 0,3),(.b R.up 0,8)]⟩,⟨?_,?_,?_,?_,?_,?_,?_⟩,?_,?_⟩;iterate 7 (· simp[iC,hC,iA,hA,iR,hR,iM,hM,nAC,nCA,nRC,nCR,nRA,nAR,nMC,nCM,nMA,nAM,nMR,nRM,hmp,hmp',hid,hid',q0,q1])
 ·apply am<;>simp[iC,hC,iA,hA,iR,hR,iM,hM,nAC,nCA,nRC,nCR,nRA,nAR,nMC,nCM,nMA,nAM,nMR,nRM,hmp,hmp',hid,hid',q0,q1]
 ·simp[iC,hC,iA,hA,iR,hR,iM,hM,nAC,nCA,nRC,nCR,nRA,nAR,nMC,nCM,nMA,nAM,nMR,nRM,hmp,hmp',hid,hid',q0,q1];refine a6 _ _ (S) (by constructor<;>simp[iC,hC,iA,hA,iR,hR,iM,hM,nAC,nCA,nRC,nCR,nRA,nAR,nMC,nCM,nMA,nAM,nMR,nRM,hmp,hmp',hid,hid',q0,q1]) ?_
  simp[iC,hC,iA,hA,iR,hR,iM,hM,nAC,nCA,nRC,nCR,nRA,nAR,nMC,nCM,nMA,nAM,nMR,nRM,hmp,hmp',hid,hid',q0,q1];refine ⟨_,_,RN,⟨?_,?_,?_,?_,?_,?_,?_⟩,?_⟩;iterate 7 (· simp[iC,hC,iA,hA,iR,hR,iM,hM,nAC,nCA,nRC,nCR,nRA,nAR,nMC,nCM,nMA,nAM,nMR,nRM,hmp,hmp',hid,hid',q0,q1])
  apply am<;>simp[iC,hC,iA,hA,iR,hR,iM,hM,nAC,nCA,nRC,nCR,nRA,nAR,nMC,nCM,nMA,nAM,nMR,nRM,hmp,hmp',hid,hid',q0,q1]
theorem JE (C M A R:Id) (x:It) (K K':List (List UInt8)) (f f':List Ft) (cs cs':List AV) (e:Int) (d:Nat) (hC:C.isIt=false) (hCd:C.isNw d=false) (hA:A.isIt=false) (hAd:A.isNw d=false) (hR:R.isIt=false) (hRd:R.isNw d=false) (hM:M.isIt=true) (hMd:M.isNw d=false) (nCA:C≠A) (nCR:C≠R) (nAR:A≠R)
  (hid:bR cs=[]) (hid':bR cs'=[]) (hl:f'.length<=10000000)
  (S:C.up.up.isNw 10=false->M.up.up.isNw 10=false->A.up.up.isNw 10=false->R.up.up.isNw 10=false->dK Tryz.prog gl 51 10 ⟨[b9 C.up.up M.up.up,.agg x.row,.ptr A.up.up 0],[(C.up.up,bY f),(M.up.up,ba K),(A.up.up,[.ptr R.up.up 1]),(R.up.up,cs)],[(.b C.up.up 0,3),(.b R.up.up 0,8)]⟩ ⟨bN e,[(C.up.up,bY f'),(M.up.up,ba K'),(A.up.up,[.ptr R.up.up 1]),(R.up.up,cs')],[(.b C.up.up 0,3),(.b R.up.up 0,8)]⟩):
  bh Tryz.prog gl 44 d ⟨[b9 C M,.agg x.row,.fn (51) [.ptr A 0]],[(C,bY f),(M,ba K),(A,[.ptr R 1]),(R,cs)],[(.b C 0,3),(.b R 0,8)]⟩ ⟨.tup [],[(C,bY (f'++[x.ft e])),(M,ba K'),(A,[.ptr R 1]),(R,cs')],[(.b C 0,3),(.b R 0,8)]⟩:=by
 refine Ky 1 1 (by decide) (by decide) rfl ?_;have iC:=ai hCd;have iA:=ai hAd;have iR:=ai hRd;have iM:=ai hMd;have nAC:=nCA.symm;have nRC:=nCR.symm;have nRA:=nAR.symm;have nMC:M≠C:=fun e=>by rw[e,hC] at hM;cases hM
 have nCM:=nMC.symm;have nMA:M≠A:=fun e=>by rw[e,hA] at hM;cases hM
 have nAM:=nMA.symm;have nMR:M≠R:=fun e=>by rw[e,hR] at hM;cases hM
 have nRM:=nMR.symm;have hmp:=fun g=>aT (f:=g) hid
 have hmp':=fun g=>aT (f:=g) hid'
 have q0:=a7 cs;have q1:=a7 cs';have S:=S rfl rfl rfl rfl;have RF:=qV (.up (.n 3)) (.up (.n 4)) C.up.up M.up x.nm (x.ws.map Tk.row) (ae x.kd) x.bk x.pl.1 x.pl.2 e f' 1 rfl rfl rfl rfl hC rfl hM (by decide) (by simp) (by simp) hl;rw[show (⟨e,x.pl.1,x.pl.2⟩:Ft)=x.ft e from rfl] at RF;unfold b9 bY ba bN at*;rw[au] at*;generalize aI kS (aB K)=G at*;generalize aI kS (aB K')=G',List.map Ft.row (f'++[x.ft e])=FL2,List.map Ft.row f'=FL' at*;generalize List.map Ft.row f=FL,ae x.kd=KR,List.map Tk.row x.ws=WR,x.nm=nm,x.bk=bk,x.pl.1=pl,x.pl.2=pc at*;simp only[aw,aW,aO,AV.mp,aX,Pl.mp,hmp,Iv,jd];simp;rw[iu,za];simp;refine ⟨⟨[.agg [.ptr C.up 0,.mref M.up],.agg [.str nm,.sl WR,.bool bk,.sl KR,i6 pl,i6 pc],.fn (51) [.ptr A.up 0],.ptr (.n 3) 0,.ptr (.n 4) 0,.undef,.fn 74 [.ptr (.n 3) 0,.ptr (.n 4) 0],.undef,.undef,.undef,.undef],[(.n 3,[.ptr C.up 0,.mref M.up]),(.n 4,[.str nm,.sl WR,.bool bk,.sl KR,i6 pl,i6 pc]),(C.up,[.sl FL]),(M.up,[.mpv G]),(A.up,[.ptr R.up 1]),(R.up,cs)],[(.b C.up 0,3),(.b R.up 0,8)]⟩,rfl,⟨.tup [],[(.n 3,[.ptr C.up 0,.mref M.up]),(.n 4,[.str nm,.sl WR,.bool bk,.sl KR,i6 pl,i6 pc]),(C.up,[.sl FL2]),(M.up,[.mpv G']),(A.up,[.ptr R.up 1]),(R.up,cs')],[(.b C.up 0,3),(.b R.up 0,8)]⟩,⟨?_,?_,?_,?_,?_,?_,?_⟩,?_,?_⟩;iterate 7 (· simp[iC,hC,iA,hA,iR,hR,iM,hM,nAC,nCA,nRC,nCR,nRA,nAR,nMC,nCM,nMA,nAM,nMR,nRM,hmp,hmp',hid,hid',q0,q1])
 ·apply am<;>simp[iC,hC,iA,hA,iR,hR,iM,hM,nAC,nCA,nRC,nCR,nRA,nAR,nMC,nCM,nMA,nAM,nMR,nRM,hmp,hmp',hid,hid',q0,q1]
 ·simp[iC,hC,iA,hA,iR,hR,iM,hM,nAC,nCA,nRC,nCR,nRA,nAR,nMC,nCM,nMA,nAM,nMR,nRM,hmp,hmp',hid,hid',q0,q1];refine bC _ _ (S) (by constructor<;>simp[iC,hC,iA,hA,iR,hR,iM,hM,nAC,nCA,nRC,nCR,nRA,nAR,nMC,nCM,nMA,nAM,nMR,nRM,hmp,hmp',hid,hid',q0,q1]) rfl ?_
  refine ⟨⟨_,_,rfl⟩,_,_,RF,⟨?_,?_,?_,?_,?_,?_,?_⟩,?_⟩;iterate 7 (· simp[iC,hC,iA,hA,iR,hR,iM,hM,nAC,nCA,nRC,nCR,nRA,nAR,nMC,nCM,nMA,nAM,nMR,nRM,hmp,hmp',hid,hid',q0,q1])
  apply am<;>simp[iC,hC,iA,hA,iR,hR,iM,hM,nAC,nCA,nRC,nCR,nRA,nAR,nMC,nCM,nMA,nAM,nMR,nRM,hmp,hmp',hid,hid',q0,q1]
theorem Nz (C A R:Id) (L:List It) (K:Nat->List (List UInt8)) (f:Nat->List Ft) (cs:Nat->List AV) (d:Nat) (hC:C.isIt=false) (hCd:C.isNw d=false) (hA:A.isIt=false) (hAd:A.isNw d=false) (hR:R.isIt=false) (hRd:R.isNw d=false) (nCA:C≠A) (nCR:C≠R) (nAR:A≠R)
  (hid: ∀i,bR (cs i)=[]) (hK:K 0=[]) (hlen:L.length<=100000)
  (S: ∀(i:Nat) (h:i<L.length),C.up.isNw 21=false->A.up.isNw 21=false->R.up.isNw 21=false->bh Tryz.prog gl 44 21 ⟨[b9 C.up (.it 10),.agg L[i].row,.fn (51) [.ptr A.up 0]],[(C.up,bY (f (i))),(.it 10,ba (K (i))),(A.up,[.ptr R.up 1]),(R.up,cs (i))],[(.b C.up 0,3),(.b R.up 0,8)]⟩ ⟨.tup [],[(C.up,bY (f (i+1))),(.it 10,ba (K (i+1))),(A.up,[.ptr R.up 1]),(R.up,cs (i+1))],[(.b C.up 0,3),(.b R.up 0,8)]⟩):
  bh Tryz.prog gl 23 d ⟨[.ptr C 0,.sl (ae L),.fn (51) [.ptr A 0]],[(C,bY (f 0)),(A,[.ptr R 1]),(R,cs 0)],[(.b C 0,3),(.b R 0,8)]⟩ ⟨.tup [],[(C,bY (f L.length)),(A,[.ptr R 1]),(R,cs L.length)],[(.b C 0,3),(.b R 0,8)]⟩:=by
 refine N0 rfl ?_;have iC:=ai hCd;have iA:=ai hAd;have iR:=ai hRd;have nAC:=nCA.symm;have nRC:=nCR.symm;have nRA:=nAR.symm;have rl:=a8 L;have rat:=cp L;have r6:=nr L;have hmp:=fun i g=>aT (f:=g) (hid i)
 have q0:=fun i=>a7 (cs i)
 have hki: ∀K,bR (ba K)=[]:=fun _=>rfl
 have k0:ba (K 0)=[.mpv []]:=by rw[hK];rfl
 simp only[aw,aW,aO,AV.mp,aX,Pl.mp,hmp];unfold bY b9 at*;simp only[aw,aW,aO,AV.mp,aX,Pl.mp,hmp];generalize ae L=RR at*;simp[MF];refine aY (α:=Nat) (fun i=>⟨[(0,.ptr C.up 0),(2,.fn (51) [.ptr A.up 0]),(6,.ptr (.n 6) 0),(12,.sl RR),(13,i6 L.length),(14,i6 i)],[(.n 6,[.ptr C.up 0,.mref (.it 10)]),(C.up,[.sl ((f i).map Ft.row)]),(.it 10,ba (K i)),(A.up,[.ptr R.up 1]),(R.up,cs i)],[(.b C.up 0,3),(.b R.up 0,8)]⟩) (fun i=>i<=L.length) (fun i=>L.length - i) ?_ 0 (gN _) ?_
 ·rintro k i hk h1;by_cases g:i<L.length
  ·have t1:IntKind.i64.wrap ((i:Int)+1)=(i+1:Nat):=by rw[ay]<;>omega
   have g':(i:Int)<L.length:=by omega
   have gR:i<RR.length:=by omega
   have rai:=rat i g gR;have fin:=fun σ' hσ=>hk (i+1) σ' (by omega) (by omega) hσ
   have S:=S i g rfl rfl rfl;have ra6:=r6 RR[i] (o9 gR);rw[<-rai] at S;clear hk rat rai r6;obtain ⟨row,hrow⟩: ∃row,row=RR[i]:=⟨_,rfl⟩;rw[<-hrow] at S ra6;have hat: ∀h,RR[i]'h=row:=fun _=>hrow.symm
   have ht:List.take 6 row=row:=List.take_of_length_le (by omega);simp[g,g',gR,rl,hat,ra6,ht,iC,hC,iA,hA,iR,hR,nAC,nCA,nRC,nCR,nRA,nAR,hmp,hid,q0,hki];refine aF _ _ (S) (by constructor<;>simp[iC,hC,iA,hA,iR,hR,nAC,nCA,nRC,nCR,nRA,nAR,hmp,hid,q0,hki]) ?_
   simp[iC,hC,iA,hA,iR,hR,nAC,nCA,nRC,nCR,nRA,nAR,hmp,hid,q0,hki];refine fin _ ?_;apply aj<;>simp[t1,iC,hC,iA,hA,iR,hR,nAC,nCA,nRC,nCR,nRA,nAR,hmp,hid,q0,hki]
  ·obtain rfl:i=L.length:=by omega
   clear hk;simp[rl];refine bz ?_;constructor<;>simp[iC,hC,iA,hA,iR,hR,nAC,nCA,nRC,nCR,nRA,nAR,hmp,hid,q0,hki]
 ·apply aj<;>simp[rl,k0,iC,hC,iA,hA,iR,hR,nAC,nCA,nRC,nCR,nRA,nAR,hmp,hid,q0,hki]
def nO (GL:List (List AV)) (C:List It):List AV:=[.sl GL,i6 (ah C iZ 16),i6 (ah C jD 0),i6 (ah C jE 10),i6 (ah C jF 300),i6 (ah C lJ 0)]
theorem lj (GL:List (List AV)) (C:List It):bR (nO GL C)=[]:=rfl
theorem Gz (C M A R:Id) (x:It) (Cs:List It) (GL:List (List AV)) (f:List Ft) (d:Nat) (hx: ∀t∈x.ws,1<=t.k/\t.k<=6) (hm:M.isIt=true) (hmd:M.isNw d=false) (ha:A.isIt=false) (had:A.isNw d=false) (hr:R.isIt=false) (hrd:R.isNw d=false) (hc0:C.isIt=false) (hcd:C.isNw d=false) (nCA:C≠A) (nCR:C≠R) (nAR:A≠R) (h0:aV 3 Cs x=0):
  bh Tryz.prog gl 51 d ⟨[b9 C M,.agg x.row,.ptr A 0],[(C,bY f),(M,ba (ar Cs)),(A,[.ptr R 1]),(R,nO GL Cs)],[(.b C 0,3),(.b R 0,8)]⟩ ⟨.tup [],[(C,bY f),(M,ba (ar (Cs++[x]))),(A,[.ptr R 1]),(R,nO GL (Cs++[x]))],[(.b C 0,3),(.b R 0,8)]⟩:=by
 refine Uv rfl ?_;have hmi:=ai hmd;have hri:=ai hrd;have hci:=ai hcd;have hai:=ai had;have ne1:M≠R:=fun e=>by rw[e,hr] at hm;cases hm
 have ne2:R≠M:=fun e=>ne1 e.symm
 have ne3:M≠C:=fun e=>by rw[e,hc0] at hm;cases hm
 have ne4:C≠M:=fun e=>ne3 e.symm
 have ne5:M≠A:=fun e=>by rw[e,ha] at hm;cases hm
 have ne6:A≠M:=fun e=>ne5 e.symm
 have nAC:=nCA.symm;have nRC:=nCR.symm;have nRA:=nAR.symm;unfold bY;generalize List.map Ft.row f=FL at*;by_cases e0:x.nm=iZ
 ·have hf:bK 3 x.nm=some ⟨iZ,[3],false,1,1,64⟩:=by rw[e0];rfl
  have hc:=cf (C:=Cs) hf rfl rfl rfl (by decide) (by decide) (by decide);have gs:=cP hf rfl h0 16;have g2:=fun m (h:x.nm≠m) d=>dF (C:=Cs) h d
  rw[hc] at h0;have S:=fun h=>y5 C.up M.up x (ar Cs) 1 64 13 hm h h0 (kI h0 _ (by decide))
  rw[fV (by rw[e0];decide),e0] at gs;rw[dh (by rw[e0];rfl)];unfold nO;rw[gs,g2 jD (by rw[e0];decide),g2 jE (by rw[e0];decide),g2 jF (by rw[e0];decide),g2 lJ (by rw[e0];decide)];unfold ba b9 at*;rw[au] at*;rw[e0] at*;generalize aI kS (aB (ar Cs++[iZ]))=G2 at*;generalize aI kS (aB (ar Cs))=G,n1 x=v,ah Cs iZ 16=vsRm,ah Cs jD 0=vsRv,ah Cs jE 10=vsFi,ah Cs jF 300=vsCp,ah Cs lJ 0=vsRp,ae x.kd=KR,List.map Tk.row x.ws=WR at*;simp only[aw,aW,aO,AV.mp,aX,Pl.mp] at*;clear h0 hc hx hf gs g2;unfold iZ at*;simp[BS,hm,hc0,ha,hr,nCA,nCR,nAR,nAC,nRC,nRA,ne1,ne2,ne3,ne4,ne5,ne6];refine .inl ?_;refine fA _ _ (S rfl) ⟨?_,?_,?_,?_,?_,?_,?_⟩ ⟨?_,?_,?_⟩ ?_;iterate 10 (· simp[Pl.isB,Pl.isF,mT,KF,AV.pid,hm,hc0,ha,hr,nCA,nCR,nAR,nAC,nRC,nRA,ne1,ne2,ne3,ne4,ne5,ne6])
  simp[hm,hc0,ha,hr,nCA,nCR,nAR,nAC,nRC,nRA,ne1,ne2,ne3,ne4,ne5,ne6];refine bz ?_;constructor<;>simp[hmi,hri,hci,hai,hm,hc0,ha,hr,nCA,nCR,nAR,nAC,nRC,nRA,ne1,ne2,ne3,ne4,ne5,ne6]
 by_cases e1:x.nm=jD
 ·have hf:bK 3 x.nm=some ⟨jD,[3],false,1,0,64⟩:=by rw[e1];rfl
  have hc:=cf (C:=Cs) hf rfl rfl rfl (by decide) (by decide) (by decide);have gs:=cP hf rfl h0 0;have g2:=fun m (h:x.nm≠m) d=>dF (C:=Cs) h d
  rw[hc] at h0;have S:=fun h=>y5 C.up M.up x (ar Cs) 0 64 21 hm h h0 (kI h0 _ (by decide))
  rw[fV (by rw[e1];decide),e1] at gs;rw[dh (by rw[e1];rfl)];unfold nO;rw[gs,g2 iZ (by rw[e1];decide),g2 jE (by rw[e1];decide),g2 jF (by rw[e1];decide),g2 lJ (by rw[e1];decide)];unfold ba b9 at*;rw[au] at*;rw[e1] at*;generalize aI kS (aB (ar Cs++[jD]))=G2 at*;generalize aI kS (aB (ar Cs))=G,n1 x=v,ah Cs iZ 16=vsRm,ah Cs jD 0=vsRv,ah Cs jE 10=vsFi,ah Cs jF 300=vsCp,ah Cs lJ 0=vsRp,ae x.kd=KR,List.map Tk.row x.ws=WR at*;simp only[aw,aW,aO,AV.mp,aX,Pl.mp] at*;clear h0 hc hx hf gs g2;unfold jD at*;simp[BS,hm,hc0,ha,hr,nCA,nCR,nAR,nAC,nRC,nRA,ne1,ne2,ne3,ne4,ne5,ne6];refine .inl ?_;refine fA _ _ (S rfl) ⟨?_,?_,?_,?_,?_,?_,?_⟩ ⟨?_,?_,?_⟩ ?_;iterate 10 (· simp[Pl.isB,Pl.isF,mT,KF,AV.pid,hm,hc0,ha,hr,nCA,nCR,nAR,nAC,nRC,nRA,ne1,ne2,ne3,ne4,ne5,ne6])
  simp[hm,hc0,ha,hr,nCA,nCR,nAR,nAC,nRC,nRA,ne1,ne2,ne3,ne4,ne5,ne6];refine bz ?_;constructor<;>simp[hmi,hri,hci,hai,hm,hc0,ha,hr,nCA,nCR,nAR,nAC,nRC,nRA,ne1,ne2,ne3,ne4,ne5,ne6]
 by_cases e2:x.nm=jE
 ·have hf:bK 3 x.nm=some ⟨jE,[6],false,1,1,86400⟩:=by rw[e2];rfl
  have hc:=cf (C:=Cs) hf rfl rfl rfl (by decide) (by decide) (by decide);have gs:=cP hf rfl h0 10;have g2:=fun m (h:x.nm≠m) d=>dF (C:=Cs) h d
  rw[hc] at h0;have S:=fun h=>iq C.up M.up x (ar Cs) 1 86400 29 hm h h0 (kI h0 _ (by decide))
  rw[fV (by rw[e2];decide),e2] at gs;rw[dh (by rw[e2];rfl)];unfold nO;rw[gs,g2 iZ (by rw[e2];decide),g2 jD (by rw[e2];decide),g2 jF (by rw[e2];decide),g2 lJ (by rw[e2];decide)];unfold ba b9 at*;rw[au] at*;rw[e2] at*;generalize aI kS (aB (ar Cs++[jE]))=G2 at*;generalize aI kS (aB (ar Cs))=G,n1 x=v,ah Cs iZ 16=vsRm,ah Cs jD 0=vsRv,ah Cs jE 10=vsFi,ah Cs jF 300=vsCp,ah Cs lJ 0=vsRp,ae x.kd=KR,List.map Tk.row x.ws=WR at*;simp only[aw,aW,aO,AV.mp,aX,Pl.mp] at*;clear h0 hc hx hf gs g2;unfold jE at*;simp[BS,hm,hc0,ha,hr,nCA,nCR,nAR,nAC,nRC,nRA,ne1,ne2,ne3,ne4,ne5,ne6];refine .inl ?_;refine fA _ _ (S rfl) ⟨?_,?_,?_,?_,?_,?_,?_⟩ ⟨?_,?_,?_⟩ ?_;iterate 10 (· simp[Pl.isB,Pl.isF,mT,KF,AV.pid,hm,hc0,ha,hr,nCA,nCR,nAR,nAC,nRC,nRA,ne1,ne2,ne3,ne4,ne5,ne6])
  simp[hm,hc0,ha,hr,nCA,nCR,nAR,nAC,nRC,nRA,ne1,ne2,ne3,ne4,ne5,ne6];refine bz ?_;constructor<;>simp[hmi,hri,hci,hai,hm,hc0,ha,hr,nCA,nCR,nAR,nAC,nRC,nRA,ne1,ne2,ne3,ne4,ne5,ne6]
 by_cases e3:x.nm=jF
 ·have hf:bK 3 x.nm=some ⟨jF,[6],false,1,1,604800⟩:=by rw[e3];rfl
  have hc:=cf (C:=Cs) hf rfl rfl rfl (by decide) (by decide) (by decide);have gs:=cP hf rfl h0 300;have g2:=fun m (h:x.nm≠m) d=>dF (C:=Cs) h d
  rw[hc] at h0;have S:=fun h=>iq C.up M.up x (ar Cs) 1 604800 37 hm h h0 (kI h0 _ (by decide))
  rw[fV (by rw[e3];decide),e3] at gs;rw[dh (by rw[e3];rfl)];unfold nO;rw[gs,g2 iZ (by rw[e3];decide),g2 jD (by rw[e3];decide),g2 jE (by rw[e3];decide),g2 lJ (by rw[e3];decide)];unfold ba b9 at*;rw[au] at*;rw[e3] at*;generalize aI kS (aB (ar Cs++[jF]))=G2 at*;generalize aI kS (aB (ar Cs))=G,n1 x=v,ah Cs iZ 16=vsRm,ah Cs jD 0=vsRv,ah Cs jE 10=vsFi,ah Cs jF 300=vsCp,ah Cs lJ 0=vsRp,ae x.kd=KR,List.map Tk.row x.ws=WR at*;simp only[aw,aW,aO,AV.mp,aX,Pl.mp] at*;clear h0 hc hx hf gs g2;unfold jF at*;simp[BS,hm,hc0,ha,hr,nCA,nCR,nAR,nAC,nRC,nRA,ne1,ne2,ne3,ne4,ne5,ne6];refine .inl ?_;refine fA _ _ (S rfl) ⟨?_,?_,?_,?_,?_,?_,?_⟩ ⟨?_,?_,?_⟩ ?_;iterate 10 (· simp[Pl.isB,Pl.isF,mT,KF,AV.pid,hm,hc0,ha,hr,nCA,nCR,nAR,nAC,nRC,nRA,ne1,ne2,ne3,ne4,ne5,ne6])
  simp[hm,hc0,ha,hr,nCA,nCR,nAR,nAC,nRC,nRA,ne1,ne2,ne3,ne4,ne5,ne6];refine bz ?_;constructor<;>simp[hmi,hri,hci,hai,hm,hc0,ha,hr,nCA,nCR,nAR,nAC,nRC,nRA,ne1,ne2,ne3,ne4,ne5,ne6]
 by_cases e4:x.nm=lJ
 ·have hf:bK 3 x.nm=some ⟨lJ,[6],false,1,0,2592000⟩:=by rw[e4];rfl
  have hc:=cf (C:=Cs) hf rfl rfl rfl (by decide) (by decide) (by decide);have gs:=cP hf rfl h0 0;have g2:=fun m (h:x.nm≠m) d=>dF (C:=Cs) h d
  rw[hc] at h0;have S:=fun h=>iq C.up M.up x (ar Cs) 0 2592000 45 hm h h0 (kI h0 _ (by decide))
  rw[fV (by rw[e4];decide),e4] at gs;rw[dh (by rw[e4];rfl)];unfold nO;rw[gs,g2 iZ (by rw[e4];decide),g2 jD (by rw[e4];decide),g2 jE (by rw[e4];decide),g2 jF (by rw[e4];decide)];unfold ba b9 at*;rw[au] at*;rw[e4] at*;generalize aI kS (aB (ar Cs++[lJ]))=G2 at*;generalize aI kS (aB (ar Cs))=G,n1 x=v,ah Cs iZ 16=vsRm,ah Cs jD 0=vsRv,ah Cs jE 10=vsFi,ah Cs jF 300=vsCp,ah Cs lJ 0=vsRp,ae x.kd=KR,List.map Tk.row x.ws=WR at*;simp only[aw,aW,aO,AV.mp,aX,Pl.mp] at*;clear h0 hc hx hf gs g2;unfold lJ at*;simp[BS,hm,hc0,ha,hr,nCA,nCR,nAR,nAC,nRC,nRA,ne1,ne2,ne3,ne4,ne5,ne6];refine .inl ?_;refine fA _ _ (S rfl) ⟨?_,?_,?_,?_,?_,?_,?_⟩ ⟨?_,?_,?_⟩ ?_;iterate 10 (· simp[Pl.isB,Pl.isF,mT,KF,AV.pid,hm,hc0,ha,hr,nCA,nCR,nAR,nAC,nRC,nRA,ne1,ne2,ne3,ne4,ne5,ne6])
  simp[hm,hc0,ha,hr,nCA,nCR,nAR,nAC,nRC,nRA,ne1,ne2,ne3,ne4,ne5,ne6];refine bz ?_;constructor<;>simp[hmi,hri,hci,hai,hm,hc0,ha,hr,nCA,nCR,nAR,nAC,nRC,nRA,ne1,ne2,ne3,ne4,ne5,ne6]
 ·exfalso;rw[go (by simp[bK,fZ,Ne.symm e0,Ne.symm e1,Ne.symm e2,Ne.symm e3,Ne.symm e4])] at h0;cases h0
theorem GA (C M A R:Id) (x:It) (Cs:List It) (GL:List (List AV)) (f:List Ft) (d:Nat) (hx: ∀t∈x.ws,1<=t.k/\t.k<=6) (hm:M.isIt=true) (hmd:M.isNw d=false) (ha:A.isIt=false) (had:A.isNw d=false) (hr:R.isIt=false) (hrd:R.isNw d=false) (hc0:C.isIt=false) (hcd:C.isNw d=false) (nCA:C≠A) (nCR:C≠R) (nAR:A≠R) (h0:aV 3 Cs x≠0):
  dK Tryz.prog gl 51 d ⟨[b9 C M,.agg x.row,.ptr A 0],[(C,bY f),(M,ba (ar Cs)),(A,[.ptr R 1]),(R,nO GL Cs)],[(.b C 0,3),(.b R 0,8)]⟩ ⟨bN (aV 3 Cs x),[(C,bY f),(M,ba (ar Cs)),(A,[.ptr R 1]),(R,nO GL Cs)],[(.b C 0,3),(.b R 0,8)]⟩:=by
 refine t51 rfl ?_;have hmi:=ai hmd;have hri:=ai hrd;have hci:=ai hcd;have hai:=ai had;have ne1:M≠R:=fun e=>by rw[e,hr] at hm;cases hm
 have ne2:R≠M:=fun e=>ne1 e.symm
 have ne3:M≠C:=fun e=>by rw[e,hc0] at hm;cases hm
 have ne4:C≠M:=fun e=>ne3 e.symm
 have ne5:M≠A:=fun e=>by rw[e,ha] at hm;cases hm
 have ne6:A≠M:=fun e=>ne5 e.symm
 have nAC:=nCA.symm;have nRC:=nCR.symm;have nRA:=nAR.symm;unfold bY;generalize List.map Ft.row f=FL at*;by_cases e0:x.nm=iZ
 ·have hf:bK 3 x.nm=some ⟨iZ,[3],false,1,1,64⟩:=by rw[e0];rfl
  have hc:=cf (C:=Cs) hf rfl rfl rfl (by decide) (by decide) (by decide);rw[hc] at h0 ⊢;have S:=fun h=>y6 C.up M.up x (ar Cs) 1 64 13 hx hm h h0
  generalize m5 3 (ar Cs) x 1 64=e at*;unfold nO ba b9 bN at*;rw[au] at*;rw[e0] at*;generalize aI kS (aB (ar Cs))=G,ah Cs iZ 16=vsRm,ah Cs jD 0=vsRv,ah Cs jE 10=vsFi,ah Cs jF 300=vsCp,ah Cs lJ 0=vsRp,ae x.kd=KR,List.map Tk.row x.ws=WR at*;simp only[aw,aW,aO,AV.mp,aX,Pl.mp] at*;clear h0 hc hx hf;unfold iZ at*;simp[BS,hm,hc0,ha,hr,nCA,nCR,nAR,nAC,nRC,nRA,ne1,ne2,ne3,ne4,ne5,ne6];refine .inr (li ?_);simp[hm,hc0,ha,hr,nCA,nCR,nAR,nAC,nRC,nRA,ne1,ne2,ne3,ne4,ne5,ne6];refine ⟨_,_,S rfl,⟨?_,?_,?_,?_,?_,?_,?_⟩,by simp,rfl,?_⟩;iterate 7 (· simp[hm,hc0,ha,hr,nCA,nCR,nAR,nAC,nRC,nRA,ne1,ne2,ne3,ne4,ne5,ne6])
  intro τ' hb hp;refine fW (σ:=⟨[],_,_⟩) hb hp ?_;refine ⟨rfl,by simp,?_⟩;constructor<;>simp[hmi,hri,hci,hai,hm,hc0,ha,hr,nCA,nCR,nAR,nAC,nRC,nRA,ne1,ne2,ne3,ne4,ne5,ne6]
 by_cases e1:x.nm=jD
 ·have hf:bK 3 x.nm=some ⟨jD,[3],false,1,0,64⟩:=by rw[e1];rfl
  have hc:=cf (C:=Cs) hf rfl rfl rfl (by decide) (by decide) (by decide);rw[hc] at h0 ⊢;have S:=fun h=>y6 C.up M.up x (ar Cs) 0 64 21 hx hm h h0
  generalize m5 3 (ar Cs) x 0 64=e at*;unfold nO ba b9 bN at*;rw[au] at*;rw[e1] at*;generalize aI kS (aB (ar Cs))=G,ah Cs iZ 16=vsRm,ah Cs jD 0=vsRv,ah Cs jE 10=vsFi,ah Cs jF 300=vsCp,ah Cs lJ 0=vsRp,ae x.kd=KR,List.map Tk.row x.ws=WR at*;simp only[aw,aW,aO,AV.mp,aX,Pl.mp] at*;clear h0 hc hx hf;unfold jD at*;simp[BS,hm,hc0,ha,hr,nCA,nCR,nAR,nAC,nRC,nRA,ne1,ne2,ne3,ne4,ne5,ne6];refine .inr (li ?_);simp[hm,hc0,ha,hr,nCA,nCR,nAR,nAC,nRC,nRA,ne1,ne2,ne3,ne4,ne5,ne6];refine ⟨_,_,S rfl,⟨?_,?_,?_,?_,?_,?_,?_⟩,by simp,rfl,?_⟩;iterate 7 (· simp[hm,hc0,ha,hr,nCA,nCR,nAR,nAC,nRC,nRA,ne1,ne2,ne3,ne4,ne5,ne6])
  intro τ' hb hp;refine fW (σ:=⟨[],_,_⟩) hb hp ?_;refine ⟨rfl,by simp,?_⟩;constructor<;>simp[hmi,hri,hci,hai,hm,hc0,ha,hr,nCA,nCR,nAR,nAC,nRC,nRA,ne1,ne2,ne3,ne4,ne5,ne6]
 by_cases e2:x.nm=jE
 ·have hf:bK 3 x.nm=some ⟨jE,[6],false,1,1,86400⟩:=by rw[e2];rfl
  have hc:=cf (C:=Cs) hf rfl rfl rfl (by decide) (by decide) (by decide);rw[hc] at h0 ⊢;have S:=fun h=>ir C.up M.up x (ar Cs) 1 86400 29 hx hm h h0
  generalize m5 6 (ar Cs) x 1 86400=e at*;unfold nO ba b9 bN at*;rw[au] at*;rw[e2] at*;generalize aI kS (aB (ar Cs))=G,ah Cs iZ 16=vsRm,ah Cs jD 0=vsRv,ah Cs jE 10=vsFi,ah Cs jF 300=vsCp,ah Cs lJ 0=vsRp,ae x.kd=KR,List.map Tk.row x.ws=WR at*;simp only[aw,aW,aO,AV.mp,aX,Pl.mp] at*;clear h0 hc hx hf;unfold jE at*;simp[BS,hm,hc0,ha,hr,nCA,nCR,nAR,nAC,nRC,nRA,ne1,ne2,ne3,ne4,ne5,ne6];refine .inr (li ?_);simp[hm,hc0,ha,hr,nCA,nCR,nAR,nAC,nRC,nRA,ne1,ne2,ne3,ne4,ne5,ne6];refine ⟨_,_,S rfl,⟨?_,?_,?_,?_,?_,?_,?_⟩,by simp,rfl,?_⟩;iterate 7 (· simp[hm,hc0,ha,hr,nCA,nCR,nAR,nAC,nRC,nRA,ne1,ne2,ne3,ne4,ne5,ne6])
  intro τ' hb hp;refine fW (σ:=⟨[],_,_⟩) hb hp ?_;refine ⟨rfl,by simp,?_⟩;constructor<;>simp[hmi,hri,hci,hai,hm,hc0,ha,hr,nCA,nCR,nAR,nAC,nRC,nRA,ne1,ne2,ne3,ne4,ne5,ne6]
 by_cases e3:x.nm=jF
 ·have hf:bK 3 x.nm=some ⟨jF,[6],false,1,1,604800⟩:=by rw[e3];rfl
  have hc:=cf (C:=Cs) hf rfl rfl rfl (by decide) (by decide) (by decide);rw[hc] at h0 ⊢;have S:=fun h=>ir C.up M.up x (ar Cs) 1 604800 37 hx hm h h0
  generalize m5 6 (ar Cs) x 1 604800=e at*;unfold nO ba b9 bN at*;rw[au] at*;rw[e3] at*;generalize aI kS (aB (ar Cs))=G,ah Cs iZ 16=vsRm,ah Cs jD 0=vsRv,ah Cs jE 10=vsFi,ah Cs jF 300=vsCp,ah Cs lJ 0=vsRp,ae x.kd=KR,List.map Tk.row x.ws=WR at*;simp only[aw,aW,aO,AV.mp,aX,Pl.mp] at*;clear h0 hc hx hf;unfold jF at*;simp[BS,hm,hc0,ha,hr,nCA,nCR,nAR,nAC,nRC,nRA,ne1,ne2,ne3,ne4,ne5,ne6];refine .inr (li ?_);simp[hm,hc0,ha,hr,nCA,nCR,nAR,nAC,nRC,nRA,ne1,ne2,ne3,ne4,ne5,ne6];refine ⟨_,_,S rfl,⟨?_,?_,?_,?_,?_,?_,?_⟩,by simp,rfl,?_⟩;iterate 7 (· simp[hm,hc0,ha,hr,nCA,nCR,nAR,nAC,nRC,nRA,ne1,ne2,ne3,ne4,ne5,ne6])
  intro τ' hb hp;refine fW (σ:=⟨[],_,_⟩) hb hp ?_;refine ⟨rfl,by simp,?_⟩;constructor<;>simp[hmi,hri,hci,hai,hm,hc0,ha,hr,nCA,nCR,nAR,nAC,nRC,nRA,ne1,ne2,ne3,ne4,ne5,ne6]
 by_cases e4:x.nm=lJ
 ·have hf:bK 3 x.nm=some ⟨lJ,[6],false,1,0,2592000⟩:=by rw[e4];rfl
  have hc:=cf (C:=Cs) hf rfl rfl rfl (by decide) (by decide) (by decide);rw[hc] at h0 ⊢;have S:=fun h=>ir C.up M.up x (ar Cs) 0 2592000 45 hx hm h h0
  generalize m5 6 (ar Cs) x 0 2592000=e at*;unfold nO ba b9 bN at*;rw[au] at*;rw[e4] at*;generalize aI kS (aB (ar Cs))=G,ah Cs iZ 16=vsRm,ah Cs jD 0=vsRv,ah Cs jE 10=vsFi,ah Cs jF 300=vsCp,ah Cs lJ 0=vsRp,ae x.kd=KR,List.map Tk.row x.ws=WR at*;simp only[aw,aW,aO,AV.mp,aX,Pl.mp] at*;clear h0 hc hx hf;unfold lJ at*;simp[BS,hm,hc0,ha,hr,nCA,nCR,nAR,nAC,nRC,nRA,ne1,ne2,ne3,ne4,ne5,ne6];refine .inr (li ?_);simp[hm,hc0,ha,hr,nCA,nCR,nAR,nAC,nRC,nRA,ne1,ne2,ne3,ne4,ne5,ne6];refine ⟨_,_,S rfl,⟨?_,?_,?_,?_,?_,?_,?_⟩,by simp,rfl,?_⟩;iterate 7 (· simp[hm,hc0,ha,hr,nCA,nCR,nAR,nAC,nRC,nRA,ne1,ne2,ne3,ne4,ne5,ne6])
  intro τ' hb hp;refine fW (σ:=⟨[],_,_⟩) hb hp ?_;refine ⟨rfl,by simp,?_⟩;constructor<;>simp[hmi,hri,hci,hai,hm,hc0,ha,hr,nCA,nCR,nAR,nAC,nRC,nRA,ne1,ne2,ne3,ne4,ne5,ne6]
 ·rw[go (by simp[bK,fZ,Ne.symm e0,Ne.symm e1,Ne.symm e2,Ne.symm e3,Ne.symm e4])];clear h0;have b0:(x.nm==iZ)=false:=bJ.2 e0;have b1:(x.nm==jD)=false:=bJ.2 e1;have b2:(x.nm==jE)=false:=bJ.2 e2;have b3:(x.nm==jF)=false:=bJ.2 e3;have b4:(x.nm==lJ)=false:=bJ.2 e4;unfold nO ba b9 bN at*;rw[au] at*;generalize aI kS (aB (ar Cs))=G,ah Cs iZ 16=vsRm,ah Cs jD 0=vsRv,ah Cs jE 10=vsFi,ah Cs jF 300=vsCp,ah Cs lJ 0=vsRp,x.nm=nm,ae x.kd=KR,List.map Tk.row x.ws=WR at*;simp only[aw,aW,aO,AV.mp,aX,Pl.mp] at*;unfold iZ jD jE jF lJ at*;simp[BS,b0,b1,b2,b3,b4];refine ⟨rfl,by simp,?_⟩;constructor<;>simp[hmi,hri,hci,hai,hm,hc0,ha,hr,nCA,nCR,nAR,nAC,nRC,nRA,ne1,ne2,ne3,ne4,ne5,ne6]
end Go.Ai
