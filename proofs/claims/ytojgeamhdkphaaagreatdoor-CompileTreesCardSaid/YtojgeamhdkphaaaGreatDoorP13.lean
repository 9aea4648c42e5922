/- P13: a part of the proof. Conditions: as each theorem says. -/
import Derived.Test.YtojgeamhdkphaaaGreatDoorP12
set_option maxHeartbeats 4000000
set_option linter.unusedSimpArgs false
set_option linter.unusedVariables false
set_option maxRecDepth 20000
namespace Go.Ai
open Go.Proofs
theorem JF (C M R:Id) (x:It) (K K':List (List UInt8)) (f f':List Ft) (cs cs':List AV) (d:Nat) (hC:C.isIt=false) (hCd:C.isNw d=false) (hR:R.isIt=false) (hRd:R.isNw d=false) (hM:M.isIt=true) (hMd:M.isNw d=false) (nCR:C≠R)
  (hid:bR cs=[]) (hid':bR cs'=[])
  (S:C.up.up.isNw 10=false->M.up.up.isNw 10=false->R.up.up.isNw 10=false->bh Tryz.prog gl 28 10 ⟨[.ptr R.up.up 0,b9 C.up.up M.up.up,.agg x.row],[(C.up.up,bY f),(M.up.up,ba K),(R.up.up,cs)],[(.b C.up.up 0,3),(.b R.up.up 6,2),(.b R.up.up 7,7),(.b R.up.up 8,2)]⟩ ⟨.tup [],[(C.up.up,bY f'),(M.up.up,ba K'),(R.up.up,cs')],[(.b C.up.up 0,3),(.b R.up.up 6,2),(.b R.up.up 7,7),(.b R.up.up 8,2)]⟩):
  bh Tryz.prog gl 44 d ⟨[b9 C M,.agg x.row,.fn (1000000000+28) [.ptr R 0]],[(C,bY f),(M,ba K),(R,cs)],[(.b C 0,3),(.b R 6,2),(.b R 7,7),(.b R 8,2)]⟩ ⟨.tup [],[(C,bY f'),(M,ba K'),(R,cs')],[(.b C 0,3),(.b R 6,2),(.b R 7,7),(.b R 8,2)]⟩:=by
 refine Ky 1 1 (by decide) (by decide) rfl ?_;have iC:=ai hCd;have iR:=ai hRd;have iM:=ai hMd;have nRC:=nCR.symm;have nMC:M≠C:=fun e=>by rw[e,hC] at hM;cases hM
 have nCM:=nMC.symm;have nMR:M≠R:=fun e=>by rw[e,hR] at hM;cases hM
 have nRM:=nMR.symm;have hmp:=fun g=>aT (f:=g) hid
 have hmp':=fun g=>aT (f:=g) hid'
 have q0:=a7 cs;have q1:=a7 cs';have S:=S rfl rfl rfl;have RN:=qU (.up (.n 3)) (.up (.n 4)) 1;unfold b9 bY ba at*;rw[au] at*;generalize aI kS (aB K)=G at*;generalize aI kS (aB K')=G',List.map Ft.row f'=FL' at*;generalize List.map Ft.row f=FL,ae x.kd=KR,List.map Tk.row x.ws=WR,x.nm=nm,x.bk=bk,x.pl.1=pl,x.pl.2=pc at*;simp only[aw,aW,aO,AV.mp,aX,Pl.mp,hmp,Iv,jd];simp;rw[iu,za];simp;refine ⟨⟨[.agg [.ptr C.up 0,.mref M.up],.agg [.str nm,.sl WR,.bool bk,.sl KR,i6 pl,i6 pc],.fn (1000000000+28) [.ptr R.up 0],.ptr (.n 3) 0,.ptr (.n 4) 0,.undef,.fn 74 [.ptr (.n 3) 0,.ptr (.n 4) 0],.undef,.undef,.undef,.undef],[(.n 3,[.ptr C.up 0,.mref M.up]),(.n 4,[.str nm,.sl WR,.bool bk,.sl KR,i6 pl,i6 pc]),(C.up,[.sl FL]),(M.up,[.mpv G]),(R.up,cs)],[(.b C.up 0,3),(.b R.up 6,2),(.b R.up 7,7),(.b R.up 8,2)]⟩,rfl,⟨.tup [],[(.n 3,[.ptr C.up 0,.mref M.up]),(.n 4,[.str nm,.sl WR,.bool bk,.sl KR,i6 pl,i6 pc]),(C.up,[.sl FL']),(M.up,[.mpv G']),(R.up,cs')],[(.b C.up 0,3),(.b R.up 6,2),(.b R.up 7,7),(.b R.up 8,2)]⟩,⟨?_,?_,?_,?_,?_,?_,?_⟩,?_,?_⟩;iterate 7 (· simp[iC,hC,iR,hR,iM,hM,nRC,nCR,nMC,nCM,nMR,nRM,hmp,hmp',hid,hid',q0,q1])
 ·apply am<;>simp[iC,hC,iR,hR,iM,hM,nRC,nCR,nMC,nCM,nMR,nRM,hmp,hmp',hid,hid',q0,q1]
 ·simp[iC,hC,iR,hR,iM,hM,nRC,nCR,nMC,nCM,nMR,nRM,hmp,hmp',hid,hid',q0,q1];refine a6 _ _ (S) (by constructor<;>simp[iC,hC,iR,hR,iM,hM,nRC,nCR,nMC,nCM,nMR,nRM,hmp,hmp',hid,hid',q0,q1]) ?_
  simp[iC,hC,iR,hR,iM,hM,nRC,nCR,nMC,nCM,nMR,nRM,hmp,hmp',hid,hid',q0,q1];refine ⟨_,_,RN,⟨?_,?_,?_,?_,?_,?_,?_⟩,?_⟩;iterate 7 (· simp[iC,hC,iR,hR,iM,hM,nRC,nCR,nMC,nCM,nMR,nRM,hmp,hmp',hid,hid',q0,q1])
  apply am<;>simp[iC,hC,iR,hR,iM,hM,nRC,nCR,nMC,nCM,nMR,nRM,hmp,hmp',hid,hid',q0,q1]
theorem JG (C M R:Id) (x:It) (K K':List (List UInt8)) (f f':List Ft) (cs cs':List AV) (e:Int) (d:Nat) (hC:C.isIt=false) (hCd:C.isNw d=false) (hR:R.isIt=false) (hRd:R.isNw d=false) (hM:M.isIt=true) (hMd:M.isNw d=false) (nCR:C≠R)
  (hid:bR cs=[]) (hid':bR cs'=[]) (hl:f'.length<=10000000)
  (S:C.up.up.isNw 10=false->M.up.up.isNw 10=false->R.up.up.isNw 10=false->dK Tryz.prog gl 28 10 ⟨[.ptr R.up.up 0,b9 C.up.up M.up.up,.agg x.row],[(C.up.up,bY f),(M.up.up,ba K),(R.up.up,cs)],[(.b C.up.up 0,3),(.b R.up.up 6,2),(.b R.up.up 7,7),(.b R.up.up 8,2)]⟩ ⟨bN e,[(C.up.up,bY f'),(M.up.up,ba K'),(R.up.up,cs')],[(.b C.up.up 0,3),(.b R.up.up 6,2),(.b R.up.up 7,7),(.b R.up.up 8,2)]⟩):
  bh Tryz.prog gl 44 d ⟨[b9 C M,.agg x.row,.fn (1000000000+28) [.ptr R 0]],[(C,bY f),(M,ba K),(R,cs)],[(.b C 0,3),(.b R 6,2),(.b R 7,7),(.b R 8,2)]⟩ ⟨.tup [],[(C,bY (f'++[x.ft e])),(M,ba K'),(R,cs')],[(.b C 0,3),(.b R 6,2),(.b R 7,7),(.b R 8,2)]⟩:=by
 refine Ky 1 1 (by decide) (by decide) rfl ?_;have iC:=ai hCd;have iR:=ai hRd;have iM:=ai hMd;have nRC:=nCR.symm;have nMC:M≠C:=fun e=>by rw[e,hC] at hM;cases hM
 have nCM:=nMC.symm;have nMR:M≠R:=fun e=>by rw[e,hR] at hM;cases hM
 have nRM:=nMR.symm;have hmp:=fun g=>aT (f:=g) hid
 have hmp':=fun g=>aT (f:=g) hid'
 have q0:=a7 cs;have q1:=a7 cs';have S:=S rfl rfl rfl;have RF:=qV (.up (.n 3)) (.up (.n 4)) C.up.up M.up x.nm (x.ws.map Tk.row) (ae x.kd) x.bk x.pl.1 x.pl.2 e f' 1 rfl rfl rfl rfl hC rfl hM (by decide) (by simp) (by simp) hl;rw[show (⟨e,x.pl.1,x.pl.2⟩:Ft)=x.ft e from rfl] at RF;unfold b9 bY ba bN at*;rw[au] at*;generalize aI kS (aB K)=G at*;generalize aI kS (aB K')=G',List.map Ft.row (f'++[x.ft e])=FL2,List.map Ft.row f'=FL' at*;generalize List.map Ft.row f=FL,ae x.kd=KR,List.map Tk.row x.ws=WR,x.nm=nm,x.bk=bk,x.pl.1=pl,x.pl.2=pc at*;simp only[aw,aW,aO,AV.mp,aX,Pl.mp,hmp,Iv,jd];simp;rw[iu,za];simp;refine ⟨⟨[.agg [.ptr C.up 0,.mref M.up],.agg [.str nm,.sl WR,.bool bk,.sl KR,i6 pl,i6 pc],.fn (1000000000+28) [.ptr R.up 0],.ptr (.n 3) 0,.ptr (.n 4) 0,.undef,.fn 74 [.ptr (.n 3) 0,.ptr (.n 4) 0],.undef,.undef,.undef,.undef],[(.n 3,[.ptr C.up 0,.mref M.up]),(.n 4,[.str nm,.sl WR,.bool bk,.sl KR,i6 pl,i6 pc]),(C.up,[.sl FL]),(M.up,[.mpv G]),(R.up,cs)],[(.b C.up 0,3),(.b R.up 6,2),(.b R.up 7,7),(.b R.up 8,2)]⟩,rfl,⟨.tup [],[(.n 3,[.ptr C.up 0,.mref M.up]),(.n 4,[.str nm,.sl WR,.bool bk,.sl KR,i6 pl,i6 pc]),(C.up,[.sl FL2]),(M.up,[.mpv G']),(R.up,cs')],[(.b C.up 0,3),(.b R.up 6,2),(.b R.up 7,7),(.b R.up 8,2)]⟩,⟨?_,?_,?_,?_,?_,?_,?_⟩,?_,?_⟩;iterate 7 (· simp[iC,hC,iR,hR,iM,hM,nRC,nCR,nMC,nCM,nMR,nRM,hmp,hmp',hid,hid',q0,q1])
 ·apply am<;>simp[iC,hC,iR,hR,iM,hM,nRC,nCR,nMC,nCM,nMR,nRM,hmp,hmp',hid,hid',q0,q1]
 ·simp[iC,hC,iR,hR,iM,hM,nRC,nCR,nMC,nCM,nMR,nRM,hmp,hmp',hid,hid',q0,q1];refine bC _ _ (S) (by constructor<;>simp[iC,hC,iR,hR,iM,hM,nRC,nCR,nMC,nCM,nMR,nRM,hmp,hmp',hid,hid',q0,q1]) rfl ?_
  refine ⟨⟨_,_,rfl⟩,_,_,RF,⟨?_,?_,?_,?_,?_,?_,?_⟩,?_⟩;iterate 7 (· simp[iC,hC,iR,hR,iM,hM,nRC,nCR,nMC,nCM,nMR,nRM,hmp,hmp',hid,hid',q0,q1])
  apply am<;>simp[iC,hC,iR,hR,iM,hM,nRC,nCR,nMC,nCM,nMR,nRM,hmp,hmp',hid,hid',q0,q1]
theorem NA (C R:Id) (L:List It) (K:Nat->List (List UInt8)) (f:Nat->List Ft) (cs:Nat->List AV) (d:Nat) (hC:C.isIt=false) (hCd:C.isNw d=false) (hR:R.isIt=false) (hRd:R.isNw d=false) (nCR:C≠R)
  (hid: ∀i,bR (cs i)=[]) (hK:K 0=[]) (hlen:L.length<=100000)
  (S: ∀(i:Nat) (h:i<L.length),C.up.isNw 21=false->R.up.isNw 21=false->bh Tryz.prog gl 44 21 ⟨[b9 C.up (.it 10),.agg L[i].row,.fn (1000000000+28) [.ptr R.up 0]],[(C.up,bY (f (i))),(.it 10,ba (K (i))),(R.up,cs (i))],[(.b C.up 0,3),(.b R.up 6,2),(.b R.up 7,7),(.b R.up 8,2)]⟩ ⟨.tup [],[(C.up,bY (f (i+1))),(.it 10,ba (K (i+1))),(R.up,cs (i+1))],[(.b C.up 0,3),(.b R.up 6,2),(.b R.up 7,7),(.b R.up 8,2)]⟩):
  bh Tryz.prog gl 23 d ⟨[.ptr C 0,.sl (ae L),.fn (1000000000+28) [.ptr R 0]],[(C,bY (f 0)),(R,cs 0)],[(.b C 0,3),(.b R 6,2),(.b R 7,7),(.b R 8,2)]⟩ ⟨.tup [],[(C,bY (f L.length)),(R,cs L.length)],[(.b C 0,3),(.b R 6,2),(.b R 7,7),(.b R 8,2)]⟩:=by
 refine N0 rfl ?_;have iC:=ai hCd;have iR:=ai hRd;have nRC:=nCR.symm;have rl:=a8 L;have rat:=cp L;have r6:=nr L;have hmp:=fun i g=>aT (f:=g) (hid i)
 have q0:=fun i=>a7 (cs i)
 have hki: ∀K,bR (ba K)=[]:=fun _=>rfl
 have k0:ba (K 0)=[.mpv []]:=by rw[hK];rfl
 simp only[aw,aW,aO,AV.mp,aX,Pl.mp,hmp];unfold bY b9 at*;simp only[aw,aW,aO,AV.mp,aX,Pl.mp,hmp];generalize ae L=RR at*;simp[MF];refine aY (α:=Nat) (fun i=>⟨[(0,.ptr C.up 0),(2,.fn (1000000000+28) [.ptr R.up 0]),(6,.ptr (.n 6) 0),(12,.sl RR),(13,i6 L.length),(14,i6 i)],[(.n 6,[.ptr C.up 0,.mref (.it 10)]),(C.up,[.sl ((f i).map Ft.row)]),(.it 10,ba (K i)),(R.up,cs i)],[(.b C.up 0,3),(.b R.up 6,2),(.b R.up 7,7),(.b R.up 8,2)]⟩) (fun i=>i<=L.length) (fun i=>L.length - i) ?_ 0 (gN _) ?_
 ·rintro k i hk h1;by_cases g:i<L.length
  ·have t1:IntKind.i64.wrap ((i:Int)+1)=(i+1:Nat):=by rw[ay]<;>omega
   have g':(i:Int)<L.length:=by omega
   have gR:i<RR.length:=by omega
   have rai:=rat i g gR;have fin:=fun σ' hσ=>hk (i+1) σ' (by omega) (by omega) hσ
   have S:=S i g rfl rfl;have ra6:=r6 RR[i] (o9 gR);rw[<-rai] at S;clear hk rat rai r6;obtain ⟨row,hrow⟩: ∃row,row=RR[i]:=⟨_,rfl⟩;rw[<-hrow] at S ra6;have hat: ∀h,RR[i]'h=row:=fun _=>hrow.symm
   have ht:List.take 6 row=row:=List.take_of_length_le (by omega);simp[g,g',gR,rl,hat,ra6,ht,iC,hC,iR,hR,nRC,nCR,hmp,hid,q0,hki];refine aF _ _ (S) (by constructor<;>simp[iC,hC,iR,hR,nRC,nCR,hmp,hid,q0,hki]) ?_
   simp[iC,hC,iR,hR,nRC,nCR,hmp,hid,q0,hki];refine fin _ ?_;apply aj<;>simp[t1,iC,hC,iR,hR,nRC,nCR,hmp,hid,q0,hki]
  ·obtain rfl:i=L.length:=by omega
   clear hk;simp[rl];refine bz ?_;constructor<;>simp[iC,hC,iR,hR,nRC,nCR,hmp,hid,q0,hki]
 ·apply aj<;>simp[rl,k0,iC,hC,iR,hR,nRC,nCR,hmp,hid,q0,hki]
def nB (C:List It):List (List AV):=C.flatMap fun y=>if y.nm=du then [[i6 y.pl.1,i6 y.pl.2]] else []
def pd (lk:Lk) (n:List UInt8) (C:List It):List AV:=[.str n,.int .u32 (ah C gv 0),i6 (ah C fC 60),i6 (ah C jA 0),i6 (ah C iv 0),i6 (e9 C),.sl ((dR C).map Lb.row),.sl ((dj lk C).map Ru.row),.sl (nB C)]
theorem oG (lk:Lk) (n:List UInt8) (C:List It):bR (pd lk n C)=[]:=rfl
def fN (lk:Lk) (x:It) (f:List Ft):List Ft:=if bQ x.nm=0 then f else f++((lk (bQ x.nm) x.kd).2++bu lk (bQ x.nm) x (lk (bQ x.nm) x.kd).1)
theorem lm {C:List It} {x:It} (h:x.nm≠jj):e9 (C++[x])=e9 C:=by
 unfold e9;rw[List.foldl_append];exact if_neg h
theorem CU {C:List It} {x:It} (h:x.nm=jj):e9 (C++[x])=if w0 x.ws=qD then 1 else 2:=by
 unfold e9;rw[List.foldl_append];exact if_pos h
theorem lq {C:List It} {x:It} (h:x.nm≠nP):dR (C++[x])=dR C:=by
 unfold dR;rw[List.flatMap_append,List.flatMap_cons,if_neg h];simp
theorem CV {C:List It} {x:It} (h:x.nm=nP):dR (C++[x])=dR C++[⟨w0 x.ws,w1 x.ws⟩]:=by
 unfold dR;rw[List.flatMap_append,List.flatMap_cons,if_pos h];rfl
theorem lr (lk:Lk) {C:List It} {x:It} (h:x.nm≠du):dj lk (C++[x])=dj lk C:=by
 unfold dj;rw[List.flatMap_append,List.flatMap_cons,if_neg h];simp
theorem CW (lk:Lk) {C:List It} {x:It} (h:x.nm=du):dj lk (C++[x])=dj lk C++[vd lk x]:=by
 unfold dj;rw[List.flatMap_append,List.flatMap_cons,if_pos h];rfl
theorem uM {C:List It} {x:It} (h:x.nm≠du):nB (C++[x])=nB C:=by
 unfold nB;rw[List.flatMap_append,List.flatMap_cons,if_neg h];simp
theorem LG {C:List It} {x:It} (h:x.nm=du):nB (C++[x])=nB C++[[i6 x.pl.1,i6 x.pl.2]]:=by
 unfold nB;rw[List.flatMap_append,List.flatMap_cons,if_pos h];rfl
theorem jh {α β:Type} (g:α->List β) (h: ∀a,(g a).length<=1): ∀C:List α,(C.flatMap g).length<=C.length
 |[]=>gp _
 |a::C=>by
  rw[List.flatMap_cons,gJ,jG]
  have:=h a
  have:=jh g h C
  omega
theorem wz (C:List It):(dR C).length<=C.length:=jh _ (fun y=>by split<;>simp) C
theorem wA (lk:Lk) (C:List It):(dj lk C).length<=C.length:=jh _ (fun y=>by split<;>simp) C
theorem LH (C:List It):(nB C).length<=C.length:=jh _ (fun y=>by split<;>simp) C
theorem LJ (C:List It): ∀r∈nB C,r.length=2:=fun r h=>by
 unfold nB at h;rw[List.mem_flatMap] at h;obtain ⟨y,_,h⟩:=h;split at h
 ·rw[KA] at h;subst h;rfl
 ·cases h
def Bh:jV:=⟨nP,[1,2],false,4,0,0⟩
theorem sB (x:It):cz Bh x=(!x.bk&&(x.ws.map Tk.k==[1,2])):=by
 unfold cz Bh;have e1:(nP==eZ)=false:=rfl;have e2:(nP !=du)=true:=rfl;have e3:(nP !=jj)=true:=rfl
 match x.ws with
 |[]=>simp[e7]
 |[a]=>simp[e7]
 |[a,b]=>simp[e7,e1,e2,e3]
 |_::_::_::_=>simp[e7]
theorem wB {x:It} (h:cz Bh x=true):x.bk=false/\ ∃a b,x.ws=[a,b]/\a.k=1/\b.k=2:=by
 rw[sB,aL] at h;refine ⟨by simpa using h.1,?_⟩;have h2:=h.2
 match hw:x.ws with
 |[]=>rw[hw] at h2;simp at h2
 |[a]=>rw[hw] at h2;simp at h2
 |[a,b]=>
  rw[hw] at h2;simp at h2;exact ⟨a,b,rfl,h2.1,h2.2⟩
 |_::_::_::_=>rw[hw] at h2;simp at h2
theorem JH (C M R:Id) (x:It) (Cs:List It) (n:List UInt8) (f:List Ft) (lk lk2:Lk) (d:Nat) (hlk: ∀L,lk 2 L=L.foldl (aG lk2 2) ([],[])) (hIC:kR 1 Cs) (hlc:Cs.length<=100000) (hx: ∀t∈x.ws,1<=t.k/\t.k<=6) (hxk: ∀y∈x.kd,∀t∈y.ws,1<=t.k/\t.k<=6) (hkl:x.kd.length<=100000) (hwl:x.ws.length<=100000)
  (hw0:(w0 x.ws).length<=10000000) (hz:lf 1 x=true->n1 x=0) (hf:f.length<=1000000) (hM:M.isIt=true) (hMd:M.isNw d=false) (hC:C.isIt=false) (hCd:C.isNw d=false) (hR:R.isIt=false) (hRd:R.isNw d=false) (nCR:C≠R) (h0:aV 1 Cs x=0):
  bh Tryz.prog gl 28 d ⟨[.ptr R 0,b9 C M,.agg x.row],[(C,bY f),(M,ba (ar Cs)),(R,pd lk n Cs)],[(.b C 0,3),(.b R 6,2),(.b R 7,7),(.b R 8,2)]⟩ ⟨.tup [],[(C,bY (fN lk x f)),(M,ba (ar (Cs++[x]))),(R,pd lk n (Cs++[x]))],[(.b C 0,3),(.b R 6,2),(.b R 7,7),(.b R 8,2)]⟩:=by
 refine T4 rfl ?_;have iC:=ai hCd;have iM:=ai hMd;have iR:=ai hRd;have nMC:M≠C:=fun e=>by rw[e,hC] at hM;cases hM
 have nCM:=nMC.symm;have nMR:M≠R:=fun e=>by rw[e,hR] at hM;cases hM
 have nRM:=nMR.symm;have nRC:=nCR.symm;by_cases e0:x.nm=gv
 ·have hp:bK 1 x.nm=some ⟨gv,[5],false,1,1,999999⟩:=by rw[e0];rfl
  have hc:=cf (C:=Cs) hp rfl rfl rfl (by decide) (by decide) (by decide);have gs:=cP hp rfl h0 0;have g2:=fun m (h:x.nm≠m) d=>dF (C:=Cs) h d
  rw[hc] at h0;have S:=fun h=>Gr C.up M.up x (ar Cs) 1 999999 15 hM h h0 (kI h0 _ (by decide))
  rw[fV (by rw[e0];decide),e0] at gs;rw[dh (by rw[e0];rfl)];unfold fN;rw[if_pos (show bQ x.nm=0 by rw[e0];rfl)];unfold pd;rw[gs,g2 fC (by rw[e0];decide),g2 jA (by rw[e0];decide),g2 iv (by rw[e0];decide),lm (show x.nm≠jj by rw[e0];decide),lq (show x.nm≠nP by rw[e0];decide),lr lk (show x.nm≠du by rw[e0];decide),uM (show x.nm≠du by rw[e0];decide)];unfold ba b9 bY at*;rw[au] at*;rw[e0] at*;generalize aI kS (aB (ar Cs++[gv]))=G2 at*;generalize aI kS (aB (ar Cs))=G,List.map Ft.row f=FL,n1 x=v,ah Cs gv 0=vsTa,ah Cs fC 60=vsGr,ah Cs jA 0=vsLa,ah Cs iv 0=vsRo,e9 Cs=vc,List.map Lb.row (dR Cs)=VL,List.map Ru.row (dj lk Cs)=VR,nB Cs=VA,ae x.kd=KR,List.map Tk.row x.ws=WR at*;simp only[aw,aW,aO,AV.mp,aX,Pl.mp] at*;clear h0 hc hx hf hp hIC hz hw0 hxk hlk gs g2;unfold gv at*;simp[ug];refine a6 _ _ (S rfl) (by constructor<;>simp[hM,hC,hR,nMC,nCM,nMR,nRM,nCR,nRC]) ?_
  simp[hM,hC,hR,nMC,nCM,nMR,nRM,nCR,nRC];refine bz ?_;constructor<;>simp[iC,iM,iR,hM,hC,hR,nMC,nCM,nMR,nRM,nCR,nRC]
 by_cases e1:x.nm=fC
 ·have hp:bK 1 x.nm=some ⟨fC,[6],false,1,1,86400⟩:=by rw[e1];rfl
  have hc:=cf (C:=Cs) hp rfl rfl rfl (by decide) (by decide) (by decide);have gs:=cP hp rfl h0 60;have g2:=fun m (h:x.nm≠m) d=>dF (C:=Cs) h d
  rw[hc] at h0;have S:=fun h=>iq C.up M.up x (ar Cs) 1 86400 24 hM h h0 (kI h0 _ (by decide))
  rw[fV (by rw[e1];decide),e1] at gs;rw[dh (by rw[e1];rfl)];unfold fN;rw[if_pos (show bQ x.nm=0 by rw[e1];rfl)];unfold pd;rw[gs,g2 gv (by rw[e1];decide),g2 jA (by rw[e1];decide),g2 iv (by rw[e1];decide),lm (show x.nm≠jj by rw[e1];decide),lq (show x.nm≠nP by rw[e1];decide),lr lk (show x.nm≠du by rw[e1];decide),uM (show x.nm≠du by rw[e1];decide)];unfold ba b9 bY at*;rw[au] at*;rw[e1] at*;generalize aI kS (aB (ar Cs++[fC]))=G2 at*;generalize aI kS (aB (ar Cs))=G,List.map Ft.row f=FL,n1 x=v,ah Cs gv 0=vsTa,ah Cs fC 60=vsGr,ah Cs jA 0=vsLa,ah Cs iv 0=vsRo,e9 Cs=vc,List.map Lb.row (dR Cs)=VL,List.map Ru.row (dj lk Cs)=VR,nB Cs=VA,ae x.kd=KR,List.map Tk.row x.ws=WR at*;simp only[aw,aW,aO,AV.mp,aX,Pl.mp] at*;clear h0 hc hx hf hp hIC hz hw0 hxk hlk gs g2;unfold fC at*;simp[ug];refine a6 _ _ (S rfl) (by constructor<;>simp[hM,hC,hR,nMC,nCM,nMR,nRM,nCR,nRC]) ?_
  simp[hM,hC,hR,nMC,nCM,nMR,nRM,nCR,nRC];refine bz ?_;constructor<;>simp[iC,iM,iR,hM,hC,hR,nMC,nCM,nMR,nRM,nCR,nRC]
 by_cases e2:x.nm=jA
 ·have hp:bK 1 x.nm=some ⟨jA,[6],false,1,0,86400⟩:=by rw[e2];rfl
  have hc:=cf (C:=Cs) hp rfl rfl rfl (by decide) (by decide) (by decide);have gs:=cP hp rfl h0 0;have g2:=fun m (h:x.nm≠m) d=>dF (C:=Cs) h d
  rw[hc] at h0;have S:=fun h=>iq C.up M.up x (ar Cs) 0 86400 33 hM h h0 (kI h0 _ (by decide))
  rw[fV (by rw[e2];decide),e2] at gs;rw[dh (by rw[e2];rfl)];unfold fN;rw[if_pos (show bQ x.nm=0 by rw[e2];rfl)];unfold pd;rw[gs,g2 gv (by rw[e2];decide),g2 fC (by rw[e2];decide),g2 iv (by rw[e2];decide),lm (show x.nm≠jj by rw[e2];decide),lq (show x.nm≠nP by rw[e2];decide),lr lk (show x.nm≠du by rw[e2];decide),uM (show x.nm≠du by rw[e2];decide)];unfold ba b9 bY at*;rw[au] at*;rw[e2] at*;generalize aI kS (aB (ar Cs++[jA]))=G2 at*;generalize aI kS (aB (ar Cs))=G,List.map Ft.row f=FL,n1 x=v,ah Cs gv 0=vsTa,ah Cs fC 60=vsGr,ah Cs jA 0=vsLa,ah Cs iv 0=vsRo,e9 Cs=vc,List.map Lb.row (dR Cs)=VL,List.map Ru.row (dj lk Cs)=VR,nB Cs=VA,ae x.kd=KR,List.map Tk.row x.ws=WR at*;simp only[aw,aW,aO,AV.mp,aX,Pl.mp] at*;clear h0 hc hx hf hp hIC hz hw0 hxk hlk gs g2;unfold jA at*;simp[ug];refine a6 _ _ (S rfl) (by constructor<;>simp[hM,hC,hR,nMC,nCM,nMR,nRM,nCR,nRC]) ?_
  simp[hM,hC,hR,nMC,nCM,nMR,nRM,nCR,nRC];refine bz ?_;constructor<;>simp[iC,iM,iR,hM,hC,hR,nMC,nCM,nMR,nRM,nCR,nRC]
 by_cases e3:x.nm=iv
 ·have hp:bK 1 x.nm=some ⟨iv,[6],false,1,1,34560000⟩:=by rw[e3];rfl
  have hc:=cf (C:=Cs) hp rfl rfl rfl (by decide) (by decide) (by decide);have gs:=cP hp rfl h0 0;have g2:=fun m (h:x.nm≠m) d=>dF (C:=Cs) h d
  rw[hc] at h0;have S:=fun h=>iq C.up M.up x (ar Cs) 1 34560000 42 hM h h0 (kI h0 _ (by decide))
  rw[fV (by rw[e3];decide),e3] at gs;rw[dh (by rw[e3];rfl)];unfold fN;rw[if_pos (show bQ x.nm=0 by rw[e3];rfl)];unfold pd;rw[gs,g2 gv (by rw[e3];decide),g2 fC (by rw[e3];decide),g2 jA (by rw[e3];decide),lm (show x.nm≠jj by rw[e3];decide),lq (show x.nm≠nP by rw[e3];decide),lr lk (show x.nm≠du by rw[e3];decide),uM (show x.nm≠du by rw[e3];decide)];unfold ba b9 bY at*;rw[au] at*;rw[e3] at*;generalize aI kS (aB (ar Cs++[iv]))=G2 at*;generalize aI kS (aB (ar Cs))=G,List.map Ft.row f=FL,n1 x=v,ah Cs gv 0=vsTa,ah Cs fC 60=vsGr,ah Cs jA 0=vsLa,ah Cs iv 0=vsRo,e9 Cs=vc,List.map Lb.row (dR Cs)=VL,List.map Ru.row (dj lk Cs)=VR,nB Cs=VA,ae x.kd=KR,List.map Tk.row x.ws=WR at*;simp only[aw,aW,aO,AV.mp,aX,Pl.mp] at*;clear h0 hc hx hf hp hIC hz hw0 hxk hlk gs g2;unfold iv at*;simp[ug];refine a6 _ _ (S rfl) (by constructor<;>simp[hM,hC,hR,nMC,nCM,nMR,nRM,nCR,nRC]) ?_
  simp[hM,hC,hR,nMC,nCM,nMR,nRM,nCR,nRC];refine bz ?_;constructor<;>simp[iC,iM,iR,hM,hC,hR,nMC,nCM,nMR,nRM,nCR,nRC]
 by_cases e4:x.nm=jj
 ·have hp:bK 1 x.nm=some ⟨jj,[1],false,1,0,0⟩:=by rw[e4];rfl
  have hc:=y9 (C:=Cs) hp rfl rfl rfl rfl rfl rfl hz;have g2:=fun m (h:x.nm≠m) d=>dF (C:=Cs) h d
  rw[hc] at h0;have S:=fun h=>y7 C.up M.up x (ar Cs) 51 hM h h0
  rw[dh (by rw[e4];rfl)];unfold fN;rw[if_pos (show bQ x.nm=0 by rw[e4];rfl)];unfold pd;rw[g2 gv (by rw[e4];decide),g2 fC (by rw[e4];decide),g2 jA (by rw[e4];decide),g2 iv (by rw[e4];decide),CU e4,lq (show x.nm≠nP by rw[e4];decide),lr lk (show x.nm≠du by rw[e4];decide),uM (show x.nm≠du by rw[e4];decide)];unfold ba b9 bY at*;rw[au] at*;rw[e4] at*;generalize aI kS (aB (ar Cs++[jj]))=G2 at*;generalize aI kS (aB (ar Cs))=G,List.map Ft.row f=FL,(if w0 x.ws=qD then (1:Int) else 2)=v,ah Cs gv 0=vsTa,ah Cs fC 60=vsGr,ah Cs jA 0=vsLa,ah Cs iv 0=vsRo,e9 Cs=vc,List.map Lb.row (dR Cs)=VL,List.map Ru.row (dj lk Cs)=VR,nB Cs=VA,ae x.kd=KR,List.map Tk.row x.ws=WR at*;simp only[aw,aW,aO,AV.mp,aX,Pl.mp] at*;clear h0 hc hx hf hp hIC hz hw0 hxk hlk g2;unfold jj at*;simp[ug];refine a6 _ _ (S rfl) (by constructor<;>simp[hM,hC,hR,nMC,nCM,nMR,nRM,nCR,nRC]) ?_
  simp[hM,hC,hR,nMC,nCM,nMR,nRM,nCR,nRC];refine bz ?_;constructor<;>simp[iC,iM,iR,hM,hC,hR,nMC,nCM,nMR,nRM,nCR,nRC]
 by_cases e5:x.nm=nP
 ·have hp:bK 1 x.nm=some Bh:=by rw[e5];rfl
  obtain ⟨q,hq,hfm⟩:=iw h0;rw[hp] at hq;cases hq;rw[ij hIC hp hfm (by decide)] at h0;obtain ⟨hbk,a,b,hws,hak,hbk1⟩:=wB hfm;have ew0:w0 x.ws=a.t:=by rw[hws];rfl
  have ew1:w1 x.ws=b.t:=by rw[hws];rfl
  rw[ew0] at h0 hw0;have NM:=fun h=>sg C.up M.up x a [b] (ar Cs) 4 68 hM h hws hak h0 (by decide) (by rw[e5];show 5+_<=_;omega)
  have WO:=ic x [1,2] (by decide) hwl;have hkk:(x.ws.map Tk.k==[1,2])=true:=by rw[hws];simp[hak,hbk1]
  rw[hkk] at WO;have U:=fun e d=>cu e d
  have VA2:=lg b;rw[fK,hbk1,show ss 2=109 from rfl,show Ae b= .str b.t from if_pos (.inr hbk1)] at VA2;have kk:ar (Cs++[x])=ar Cs++[dJ x.nm a.t]++[x.nm]:=by
   rw[lA];unfold lK;rw[e5,if_pos (show mh nP=true from rfl),ew0];simp
  have g2:=fun m (h:x.nm≠m) d=>dF (C:=Cs) h d
  rw[kk];unfold fN;rw[if_pos (show bQ x.nm=0 by rw[e5];rfl)];unfold pd;rw[g2 gv (by rw[e5];decide),g2 fC (by rw[e5];decide),g2 jA (by rw[e5];decide),g2 iv (by rw[e5];decide),lm (show x.nm≠jj by rw[e5];decide),CV e5,lr lk (show x.nm≠du by rw[e5];decide),uM (show x.nm≠du by rw[e5];decide),List.map_append,ew0,ew1];have lb2: ∀r∈List.map Lb.row (dR Cs),r.length=2:=fun r h=>by
   obtain ⟨y,_,rfl⟩:=nM.1 h;rfl
  have lbl:(List.map Lb.row (dR Cs)).length<=100000:=by rw[kp];exact jH (wz Cs) hlc
  have hlim:iQ=140737488355328:=rfl;have hll:((List.map Lb.row (dR Cs)).length+1)*32<=iQ:=by rw[hlim];omega
  simp only[au,hws,hbk] at WO NM ⊢;obtain ⟨ak,at',an,al,ac⟩:=a;obtain ⟨bk',bt,bn,bl,bc⟩:=b;simp only[gL,lS,Tk.row,Lb.row] at*;unfold ba b9 bY at*;generalize aI kS (aB (ar Cs++[dJ x.nm at']++[x.nm]))=G2 at*;generalize aI kS (aB (ar Cs))=G,List.map Ft.row f=FL,ah Cs gv 0=vsTa,ah Cs fC 60=vsGr,ah Cs jA 0=vsLa,ah Cs iv 0=vsRo,e9 Cs=vc,List.map Lb.row (dR Cs)=VL,List.map Ru.row (dj lk Cs)=VR,nB Cs=VA at*;rw[e5] at*;generalize ae x.kd=KR,x.pl.1=pl,x.pl.2=pc at*;simp only[aw,aW,aO,AV.mp,aX,Pl.mp] at*;clear h0 hx hf hp hIC hz hw0 hxk hlk g2 kk hkk hfm;unfold nP at*;simp[ug];apply ab WO;simp;refine a6 _ _ (U 6 _) (by constructor<;>simp[hM,hC,hR,nMC,nCM,nMR,nRM,nCR,nRC]) ?_
  simp[hM,hC,hR,nMC,nCM,nMR,nRM,nCR,nRC];refine a6 _ _ (NM rfl) (by constructor<;>simp[hM,hC,hR,nMC,nCM,nMR,nRM,nCR,nRC]) ?_
  simp[hM,hC,hR,nMC,nCM,nMR,nRM,nCR,nRC];apply ab VA2;simp[hM,hC,hR,nMC,nCM,nMR,nRM,nCR,nRC,hll];refine ⟨lb2,?_⟩;refine bz ?_;constructor<;>simp[iC,iM,iR,hM,hC,hR,nMC,nCM,nMR,nRM,nCR,nRC]
 by_cases e6:x.nm=du
 ·have hc0:=h0;have hp:bK 1 x.nm=some wx:=by rw[e6];rfl
  obtain ⟨q,hq,hfm⟩:=iw h0;rw[hp] at hq;cases hq;have RU:=fun h h2=>JB C.up M.up x Cs f lk2 lk 98 e6 hIC hxk hkl hw0 hf hM h2 hC h hc0
  have g2:=fun m (h:x.nm≠m) d=>dF (C:=Cs) h d
  have hi:bQ x.nm=2:=by rw[e6];rfl
  have hru:Ru.row (vd lk x)=qT (w0 x.ws) (w1 x.ws==qa) (lk 2 x.kd).1:=rfl;rw[hlk] at hru;unfold fN;rw[hi,if_neg (show ¬(2:Nat)=0 by decide),hlk];unfold pd;rw[g2 gv (by rw[e6];decide),g2 fC (by rw[e6];decide),g2 jA (by rw[e6];decide),g2 iv (by rw[e6];decide),lm (show x.nm≠jj by rw[e6];decide),lq (show x.nm≠nP by rw[e6];decide),CW lk e6,LG e6,List.map_append,gL,lS,hru];have ru7: ∀r∈List.map Ru.row (dj lk Cs),r.length=7:=fun r h=>by
   obtain ⟨y,_,rfl⟩:=nM.1 h;rfl
  have rul:(List.map Ru.row (dj lk Cs)).length<=100000:=by rw[kp];exact jH (wA lk Cs) hlc
  have at2:=LJ Cs;have atl:(nB Cs).length<=100000:=jH (LH Cs) hlc;have hlim:iQ=140737488355328:=rfl;have hll:((List.map Ru.row (dj lk Cs)).length+1)*64<=iQ:=by rw[hlim];omega
  have hll2:((nB Cs).length+1)*16<=iQ:=by rw[hlim];omega
  unfold qT at*;generalize (x.kd.foldl (aG lk2 2) ([],[]))=k at*;generalize bu lk 2 x k.1=WV,ah k.1 fX 0=vl,ah k.1 fY 0=vs,ah k.1 eZ 0=vf,ah k.1 lH 0=vo,ah k.1 lI 0=ve,w0 x.ws=wa,(w1 x.ws==qa)=wb at*;unfold ba b9 bY at*;rw[au] at*;generalize aI kS (aB (ar (Cs++[x])))=G2,aI kS (aB (ar Cs))=G,List.map Ft.row (f++(k.2++WV))=FL2,List.map Ft.row f=FL,ah Cs gv 0=vsTa,ah Cs fC 60=vsGr,ah Cs jA 0=vsLa,ah Cs iv 0=vsRo,e9 Cs=vc,List.map Lb.row (dR Cs)=VL,List.map Ru.row (dj lk Cs)=VR,nB Cs=VA at*;rw[e6] at*;generalize ae x.kd=KR,List.map Tk.row x.ws=WR,x.pl.1=pl,x.pl.2=pc at*;simp only[aw,aW,aO,AV.mp,aX,Pl.mp] at*;clear h0 hx hf hp hIC hz hw0 hxk hlk g2 hfm hc0 hru;unfold du at*;simp[ug,hM,hC,hR,nMC,nCM,nMR,nRM,nCR,nRC];refine .inl ?_;refine fA _ _ (RU rfl rfl) ⟨?_,?_,?_,?_,?_,?_,?_⟩ ⟨?_,?_,?_⟩ ?_;iterate 10 (· simp[Pl.isB,Pl.isF,mT,KF,AV.pid,hM,hC,hR,nMC,nCM,nMR,nRM,nCR,nRC])
  simp[hM,hC,hR,nMC,nCM,nMR,nRM,nCR,nRC,hll];refine ⟨ru7,?_⟩;simp[hM,hC,hR,nMC,nCM,nMR,nRM,nCR,nRC,hll2];refine ⟨at2,?_⟩;refine bz ?_;constructor<;>simp[iC,iM,iR,hM,hC,hR,nMC,nCM,nMR,nRM,nCR,nRC]
 ·exfalso;rw[go (by simp[bK,fZ,Ne.symm e0,Ne.symm e1,Ne.symm e2,Ne.symm e3,Ne.symm e4,Ne.symm e5,Ne.symm e6])] at h0;cases h0
theorem JI (C M R:Id) (x:It) (Cs:List It) (n:List UInt8) (f:List Ft) (lk lk2:Lk) (d:Nat) (hlk: ∀L,lk 2 L=L.foldl (aG lk2 2) ([],[])) (hIC:kR 1 Cs) (hlc:Cs.length<=100000) (hx: ∀t∈x.ws,1<=t.k/\t.k<=6) (hxk: ∀y∈x.kd,∀t∈y.ws,1<=t.k/\t.k<=6) (hkl:x.kd.length<=100000) (hwl:x.ws.length<=100000)
  (hw0:(w0 x.ws).length<=10000000) (hz:lf 1 x=true->n1 x=0) (hf:f.length<=1000000) (hM:M.isIt=true) (hMd:M.isNw d=false) (hC:C.isIt=false) (hCd:C.isNw d=false) (hR:R.isIt=false) (hRd:R.isNw d=false) (nCR:C≠R) (h0:aV 1 Cs x≠0):
  dK Tryz.prog gl 28 d ⟨[.ptr R 0,b9 C M,.agg x.row],[(C,bY f),(M,ba (ar Cs)),(R,pd lk n Cs)],[(.b C 0,3),(.b R 6,2),(.b R 7,7),(.b R 8,2)]⟩ ⟨bN (aV 1 Cs x),[(C,bY f),(M,ba (ar Cs)),(R,pd lk n Cs)],[(.b C 0,3),(.b R 6,2),(.b R 7,7),(.b R 8,2)]⟩:=by
 refine TZ rfl ?_;have iC:=ai hCd;have iM:=ai hMd;have iR:=ai hRd;have nMC:M≠C:=fun e=>by rw[e,hC] at hM;cases hM
 have nCM:=nMC.symm;have nMR:M≠R:=fun e=>by rw[e,hR] at hM;cases hM
 have nRM:=nMR.symm;have nRC:=nCR.symm;by_cases e0:x.nm=gv
 ·have hp:bK 1 x.nm=some ⟨gv,[5],false,1,1,999999⟩:=by rw[e0];rfl
  have hc:=cf (C:=Cs) hp rfl rfl rfl (by decide) (by decide) (by decide);rw[hc] at h0 ⊢;have S:=fun h=>Gs C.up M.up x (ar Cs) 1 999999 15 hx hM h h0
  generalize m5 5 (ar Cs) x 1 999999=e at*;unfold pd ba b9 bY bN at*;rw[au] at*;rw[e0] at*;generalize aI kS (aB (ar Cs))=G,List.map Ft.row f=FL,ah Cs gv 0=vsTa,ah Cs fC 60=vsGr,ah Cs jA 0=vsLa,ah Cs iv 0=vsRo,e9 Cs=vc,List.map Lb.row (dR Cs)=VL,List.map Ru.row (dj lk Cs)=VR,nB Cs=VA,ae x.kd=KR,List.map Tk.row x.ws=WR at*;simp only[aw,aW,aO,AV.mp,aX,Pl.mp] at*;clear h0 hc hx hf hp hIC hz hw0 hxk hlk;unfold gv at*;simp[ug];refine bC _ _ (S rfl) (by constructor<;>simp[hM,hC,hR,nMC,nCM,nMR,nRM,nCR,nRC]) rfl ?_
  refine ⟨rfl,by simp,?_⟩;constructor<;>simp[iC,iM,iR,hM,hC,hR,nMC,nCM,nMR,nRM,nCR,nRC]
 by_cases e1:x.nm=fC
 ·have hp:bK 1 x.nm=some ⟨fC,[6],false,1,1,86400⟩:=by rw[e1];rfl
  have hc:=cf (C:=Cs) hp rfl rfl rfl (by decide) (by decide) (by decide);rw[hc] at h0 ⊢;have S:=fun h=>ir C.up M.up x (ar Cs) 1 86400 24 hx hM h h0
  generalize m5 6 (ar Cs) x 1 86400=e at*;unfold pd ba b9 bY bN at*;rw[au] at*;rw[e1] at*;generalize aI kS (aB (ar Cs))=G,List.map Ft.row f=FL,ah Cs gv 0=vsTa,ah Cs fC 60=vsGr,ah Cs jA 0=vsLa,ah Cs iv 0=vsRo,e9 Cs=vc,List.map Lb.row (dR Cs)=VL,List.map Ru.row (dj lk Cs)=VR,nB Cs=VA,ae x.kd=KR,List.map Tk.row x.ws=WR at*;simp only[aw,aW,aO,AV.mp,aX,Pl.mp] at*;clear h0 hc hx hf hp hIC hz hw0 hxk hlk;unfold fC at*;simp[ug];refine bC _ _ (S rfl) (by constructor<;>simp[hM,hC,hR,nMC,nCM,nMR,nRM,nCR,nRC]) rfl ?_
  refine ⟨rfl,by simp,?_⟩;constructor<;>simp[iC,iM,iR,hM,hC,hR,nMC,nCM,nMR,nRM,nCR,nRC]
 by_cases e2:x.nm=jA
 ·have hp:bK 1 x.nm=some ⟨jA,[6],false,1,0,86400⟩:=by rw[e2];rfl
  have hc:=cf (C:=Cs) hp rfl rfl rfl (by decide) (by decide) (by decide);rw[hc] at h0 ⊢;have S:=fun h=>ir C.up M.up x (ar Cs) 0 86400 33 hx hM h h0
  generalize m5 6 (ar Cs) x 0 86400=e at*;unfold pd ba b9 bY bN at*;rw[au] at*;rw[e2] at*;generalize aI kS (aB (ar Cs))=G,List.map Ft.row f=FL,ah Cs gv 0=vsTa,ah Cs fC 60=vsGr,ah Cs jA 0=vsLa,ah Cs iv 0=vsRo,e9 Cs=vc,List.map Lb.row (dR Cs)=VL,List.map Ru.row (dj lk Cs)=VR,nB Cs=VA,ae x.kd=KR,List.map Tk.row x.ws=WR at*;simp only[aw,aW,aO,AV.mp,aX,Pl.mp] at*;clear h0 hc hx hf hp hIC hz hw0 hxk hlk;unfold jA at*;simp[ug];refine bC _ _ (S rfl) (by constructor<;>simp[hM,hC,hR,nMC,nCM,nMR,nRM,nCR,nRC]) rfl ?_
  refine ⟨rfl,by simp,?_⟩;constructor<;>simp[iC,iM,iR,hM,hC,hR,nMC,nCM,nMR,nRM,nCR,nRC]
 by_cases e3:x.nm=iv
 ·have hp:bK 1 x.nm=some ⟨iv,[6],false,1,1,34560000⟩:=by rw[e3];rfl
  have hc:=cf (C:=Cs) hp rfl rfl rfl (by decide) (by decide) (by decide);rw[hc] at h0 ⊢;have S:=fun h=>ir C.up M.up x (ar Cs) 1 34560000 42 hx hM h h0
  generalize m5 6 (ar Cs) x 1 34560000=e at*;unfold pd ba b9 bY bN at*;rw[au] at*;rw[e3] at*;generalize aI kS (aB (ar Cs))=G,List.map Ft.row f=FL,ah Cs gv 0=vsTa,ah Cs fC 60=vsGr,ah Cs jA 0=vsLa,ah Cs iv 0=vsRo,e9 Cs=vc,List.map Lb.row (dR Cs)=VL,List.map Ru.row (dj lk Cs)=VR,nB Cs=VA,ae x.kd=KR,List.map Tk.row x.ws=WR at*;simp only[aw,aW,aO,AV.mp,aX,Pl.mp] at*;clear h0 hc hx hf hp hIC hz hw0 hxk hlk;unfold iv at*;simp[ug];refine bC _ _ (S rfl) (by constructor<;>simp[hM,hC,hR,nMC,nCM,nMR,nRM,nCR,nRC]) rfl ?_
  refine ⟨rfl,by simp,?_⟩;constructor<;>simp[iC,iM,iR,hM,hC,hR,nMC,nCM,nMR,nRM,nCR,nRC]
 by_cases e4:x.nm=jj
 ·have hp:bK 1 x.nm=some ⟨jj,[1],false,1,0,0⟩:=by rw[e4];rfl
  have hc:=y9 (C:=Cs) hp rfl rfl rfl rfl rfl rfl hz;rw[hc] at h0 ⊢;have S:=fun h=>y8 C.up M.up x (ar Cs) 51 hx hM h h0
  generalize su (ar Cs) x=e at*;unfold pd ba b9 bY bN at*;rw[au] at*;rw[e4] at*;generalize aI kS (aB (ar Cs))=G,List.map Ft.row f=FL,ah Cs gv 0=vsTa,ah Cs fC 60=vsGr,ah Cs jA 0=vsLa,ah Cs iv 0=vsRo,e9 Cs=vc,List.map Lb.row (dR Cs)=VL,List.map Ru.row (dj lk Cs)=VR,nB Cs=VA,ae x.kd=KR,List.map Tk.row x.ws=WR at*;simp only[aw,aW,aO,AV.mp,aX,Pl.mp] at*;clear h0 hc hx hf hp hIC hz hw0 hxk hlk;unfold jj at*;simp[ug];refine bC _ _ (S rfl) (by constructor<;>simp[hM,hC,hR,nMC,nCM,nMR,nRM,nCR,nRC]) rfl ?_
  refine ⟨rfl,by simp,?_⟩;constructor<;>simp[iC,iM,iR,hM,hC,hR,nMC,nCM,nMR,nRM,nCR,nRC]
 by_cases e5:x.nm=nP
 ·have hp:bK 1 x.nm=some Bh:=by rw[e5];rfl
  have U:=fun e d=>cu e d
  have UT:=fun e d=>fp e d
  have WO:=ic x [1,2] (by decide) hwl;cases hfm:cz Bh x with
  |false=>
   rw[ii hp hfm];rw[sB] at hfm;clear h0;cases hb:x.bk with
   |true=>
    rw[au,hb,e5];unfold pd ba b9 bY bN at*;generalize aI kS (aB (ar Cs))=G,List.map Ft.row f=FL,ah Cs gv 0=vsTa,ah Cs fC 60=vsGr,ah Cs jA 0=vsLa,ah Cs iv 0=vsRo,e9 Cs=vc,List.map Lb.row (dR Cs)=VL,List.map Ru.row (dj lk Cs)=VR,nB Cs=VA,ae x.kd=KR,List.map Tk.row x.ws=WR at*;simp only[aw,aW,aO,AV.mp,aX,Pl.mp] at*;unfold nP;simp[ug];refine bC _ _ (UT 6 _) (by constructor<;>simp[hM,hC,hR,nMC,nCM,nMR,nRM,nCR,nRC]) rfl ?_
    refine ⟨rfl,by simp,?_⟩;constructor<;>simp[iC,iM,iR,hM,hC,hR,nMC,nCM,nMR,nRM,nCR,nRC]
   |false=>
    rw[hb] at hfm;have hk:(x.ws.map Tk.k==[1,2])=false:=by simpa using hfm
    rw[au,hb,hk,e5] at WO;simp only[gL,lS] at WO;rw[au,hb,e5];unfold pd ba b9 bY bN at*;generalize aI kS (aB (ar Cs))=G,List.map Ft.row f=FL,ah Cs gv 0=vsTa,ah Cs fC 60=vsGr,ah Cs jA 0=vsLa,ah Cs iv 0=vsRo,e9 Cs=vc,List.map Lb.row (dR Cs)=VL,List.map Ru.row (dj lk Cs)=VR,nB Cs=VA,ae x.kd=KR,List.map Tk.row x.ws=WR at*;simp only[aw,aW,aO,AV.mp,aX,Pl.mp] at*;unfold nP at*;simp[ug];apply ab WO;simp;refine bC _ _ (UT 6 _) (by constructor<;>simp[hM,hC,hR,nMC,nCM,nMR,nRM,nCR,nRC]) rfl ?_
    refine ⟨rfl,by simp,?_⟩;constructor<;>simp[iC,iM,iR,hM,hC,hR,nMC,nCM,nMR,nRM,nCR,nRC]
  |true=>
   have hc:=ij hIC hp hfm (by decide);obtain ⟨hbk,a,b,hws,hak,hbk1⟩:=wB hfm;have ew0:w0 x.ws=a.t:=by rw[hws];rfl
   rw[ew0] at hc hw0;have hc:aV 1 Cs x=Gn (ar Cs) x.nm a.t 4:=hc;rw[hc] at h0 ⊢;have NM:=fun h=>sj C.up M.up x a [b] (ar Cs) 4 68 hM h hws hak h0 (by rw[e5];show 5+_<=_;omega)
   have hkk:(x.ws.map Tk.k==[1,2])=true:=by rw[hws];simp[hak,hbk1]
   rw[hkk] at WO;generalize Gn (ar Cs) x.nm a.t 4=e at*;simp only[au,hws,hbk,e5] at WO NM ⊢;obtain ⟨ak,at',an,al,ac⟩:=a;obtain ⟨bk',bt,bn,bl,bc⟩:=b;simp only[gL,lS,Tk.row] at*;unfold pd ba b9 bY bN at*;generalize aI kS (aB (ar Cs))=G,List.map Ft.row f=FL,ah Cs gv 0=vsTa,ah Cs fC 60=vsGr,ah Cs jA 0=vsLa,ah Cs iv 0=vsRo,e9 Cs=vc,List.map Lb.row (dR Cs)=VL,List.map Ru.row (dj lk Cs)=VR,nB Cs=VA,ae x.kd=KR,x.pl.1=pl,x.pl.2=pc at*;simp only[aw,aW,aO,AV.mp,aX,Pl.mp] at*;clear hkk hfm hp hIC h0 ew0 hw0 hc hws hx hz hxk hlk;unfold nP at*;simp[ug];apply ab WO;simp;refine a6 _ _ (U 6 _) (by constructor<;>simp[hM,hC,hR,nMC,nCM,nMR,nRM,nCR,nRC]) ?_
   simp[hM,hC,hR,nMC,nCM,nMR,nRM,nCR,nRC];refine bC _ _ (NM rfl) (by constructor<;>simp[hM,hC,hR,nMC,nCM,nMR,nRM,nCR,nRC]) rfl ?_
   refine ⟨rfl,by simp,?_⟩;constructor<;>simp[iC,iM,iR,hM,hC,hR,nMC,nCM,nMR,nRM,nCR,nRC]
 by_cases e6:x.nm=du
 ·have RU:=fun h h2=>JC C.up M.up x Cs f 98 e6 hIC hwl hw0 hM h2 hC h h0
  generalize aV 1 Cs x=e at*;rw[au] at*;rw[e6] at*;unfold pd ba b9 bY bN at*;generalize aI kS (aB (ar Cs))=G,List.map Ft.row f=FL,ah Cs gv 0=vsTa,ah Cs fC 60=vsGr,ah Cs jA 0=vsLa,ah Cs iv 0=vsRo,e9 Cs=vc,List.map Lb.row (dR Cs)=VL,List.map Ru.row (dj lk Cs)=VR,nB Cs=VA,ae x.kd=KR,List.map Tk.row x.ws=WR,x.pl.1=pl,x.pl.2=pc at*;simp only[aw,aW,aO,AV.mp,aX,Pl.mp] at*;clear hIC h0 hw0 hx hz hxk hlk;unfold du at*;simp[ug,hM,hC,hR,nMC,nCM,nMR,nRM,nCR,nRC];refine .inr (li ?_);simp[hM,hC,hR,nMC,nCM,nMR,nRM,nCR,nRC];refine ⟨_,_,RU rfl rfl,⟨?_,?_,?_,?_,?_,?_,?_⟩,by simp[Pl.isB],rfl,?_⟩;iterate 7 (· simp[hM,hC,hR,nMC,nCM,nMR,nRM,nCR,nRC])
  intro τ' hb hp;refine fW (σ:=⟨[],_,_⟩) hb hp ?_;refine ⟨rfl,by simp,?_⟩;constructor<;>simp[iC,iM,iR,hM,hC,hR,nMC,nCM,nMR,nRM,nCR,nRC]
 ·rw[go (by simp[bK,fZ,Ne.symm e0,Ne.symm e1,Ne.symm e2,Ne.symm e3,Ne.symm e4,Ne.symm e5,Ne.symm e6])];clear h0;have b0:(x.nm==gv)=false:=bJ.2 e0;have b1:(x.nm==fC)=false:=bJ.2 e1;have b2:(x.nm==jA)=false:=bJ.2 e2;have b3:(x.nm==iv)=false:=bJ.2 e3;have b4:(x.nm==jj)=false:=bJ.2 e4;have b5:(x.nm==nP)=false:=bJ.2 e5;have b6:(x.nm==du)=false:=bJ.2 e6;rw[au];unfold pd ba b9 bY bN at*;generalize aI kS (aB (ar Cs))=G,List.map Ft.row f=FL,ah Cs gv 0=vsTa,ah Cs fC 60=vsGr,ah Cs jA 0=vsLa,ah Cs iv 0=vsRo,e9 Cs=vc,List.map Lb.row (dR Cs)=VL,List.map Ru.row (dj lk Cs)=VR,nB Cs=VA,x.nm=nm,ae x.kd=KR,List.map Tk.row x.ws=WR at*;simp only[aw,aW,aO,AV.mp,aX,Pl.mp] at*;unfold gv fC jA iv jj nP du at*;simp[ug,b0,b1,b2,b3,b4,b5,b6];refine ⟨rfl,by simp,?_⟩;constructor<;>simp[iC,iM,iR,hM,hC,hR,nMC,nCM,nMR,nRM,nCR,nRC]
theorem GB {lk lk':Lk} (h: ∀L,lk 2 L=lk' 2 L) (g:Nat) (k:List It):cO lk g k=cO lk' g k:=by
 unfold cO;congr 1
 funext y
 rw[h]
theorem zf {lk lk':Lk} (h: ∀L,lk 2 L=lk' 2 L) (i:Nat) (x:It) (k:List It):bu lk i x k=bu lk' i x k:=by
 unfold bu;rw[GB h]
theorem LL (f g:Nat) (L:List It):ag (f+2) 1 L=ag (g+2) 1 L:=by
 show L.foldl _ _=L.foldl _ _;congr 1
 funext s x
 have h2: ∀L,ag (f+1) 2 L=ag (g+1) 2 L:=kU f g (gp _);unfold aG;by_cases hc:aV 1 s.1 x≠0
 ·rw[if_pos hc,if_pos hc]
 ·rw[if_neg hc,if_neg hc];have hc:aV 1 s.1 x=0:=Decidable.byContradiction fun g=>hc g
  obtain ⟨p,hp,_⟩:=iw hc;obtain ⟨hm,hn⟩:=iV hp;have h1: ∀p∈fZ 1,bQ p.nm=0\/bQ p.nm=2:=by decide
  rcases h1 p hm with e|e
  ·rw[hn] at e;rw[if_pos e,if_pos e]
  ·rw[hn] at e;rw[e,if_neg (by decide),if_neg (by decide),h2,zf h2]
theorem LM {lk lk':Lk} (h1: ∀L,lk 1 L=lk' 1 L) (h2: ∀L,lk 2 L=lk' 2 L) (h3: ∀L,lk 3 L=lk' 3 L) (C:List It):EI lk C=EI lk' C:=by
 have e1: ∀y,vd lk y=vd lk' y:=fun y=>by unfold vd;rw[h2]
 have e2: ∀k,dj lk k=dj lk' k:=fun k=>by unfold dj;congr 1;funext y;rw[e1]
 have e3: ∀y,mg lk y=mg lk' y:=fun y=>by unfold mg;dsimp only;rw[h1,e2]
 have e4:bU lk C=bU lk' C:=by unfold bU;congr 1;funext y;rw[e3]
 have e5:ed lk C=ed lk' C:=by unfold ed;congr 1;funext n y;rw[h3]
 unfold EI;rw[e4,e5]
mutual
def zg:It->Prop
 | .mk _ ws _ ks _ _=>((∀t∈ws,(1<=t.k/\t.k<=6)/\(t.k=1->t.n=0)/\t.t.length<=100000)/\ws.length<=1000)/\sC ks
def sC:List It->Prop
 |[]=>True
 |x::r=>zg x/\sC r
end
theorem mH: ∀ {L:List It} {x:It},sC L->x∈L->zg x
 |y::L,x,hw,h=>by
  rw[sC] at hw;rcases o8.1 h with rfl|h
  ·exact hw.1
  ·exact mH hw.2 h
theorem pT {x:It} (h:zg x):(∀t∈x.ws,1<=t.k/\t.k<=6)/\x.ws.length<=100000/\(w0 x.ws).length<=10000000/\(lf 1 x=true->n1 x=0)/\sC x.kd:=by
 obtain ⟨n,ws,b,ks,l,c⟩:=x;rw[zg] at h;obtain ⟨⟨h1,h2⟩,h3⟩:=h;refine ⟨fun t ht=>(h1 t ht).1,by show ws.length<=_;omega,?_,fun hf=>?_,h3⟩
 ·show (w0 ws).length<=_
  match ws with
  |[]=>exact gN _
  |t::r=>have:=(h1 t (by simp)).2.2;show t.t.length<=_;omega
 ·obtain ⟨-,t,hw,hk,hn⟩:=kH hf;rw[hn];have hw:ws=[t]:=hw;exact (h1 t (by rw[hw];simp)).2.1 hk
theorem zh: ∀(i:Nat) (L:List It),bg (L.take i)<=bg L
 |0,L=>by rw[M5,bg];exact gN _
 |i+1,[]=>gp _
 |i+1,x::L=>by
  rw[List.take_succ_cons,bg,bg]
  have:=zh i L
  omega
theorem fL: ∀L:List It,L.length<=bg L
 |[]=>gN _
 |x::L=>by
  rw[jG,bg,sy]
  have:=fL L
  omega
theorem qw {L:List It} {x:It} (h:x∈L):bg x.kd<=bg L:=by
 have:=jO h
 have:=sy x
 omega
theorem oH (g w:Nat) (L:List It) (f0:List Ft) (i:Nat):iJ (ag g) w L f0 i=((ag (g+1) w (L.take i)).1,f0++(ag (g+1) w (L.take i)).2):=by
 have:=sA (ag g) w f0 (L.take i) ([],[])
 rw[BV] at this;exact this
theorem zi (g w:Nat) (L:List It) (f0:List Ft) (i:Nat):(iJ (ag g) w L f0 i).2.length<=f0.length+2*(g+1)*bg L:=by
 rw[oH];have h1:=kK (g+1) w (L.take i);have h2:=Nat.mul_le_mul_left (2*(g+1)) (zh i L);rw[gJ];omega
theorem zj (g w:Nat) (L:List It) (f0:List Ft) (i:Nat):(iJ (ag g) w L f0 i).1.length<=L.length:=by
 rw[oH];refine jH (eX _ _ _) ?_
 have:=List.length_take_le' i L
 exact this
theorem CX {lk:Lk} {w:Nat} {s:List It×List Ft} {x:It} (h:aV w s.1 x=0):aG lk w s x=(s.1++[x],fN lk x s.2):=by
 unfold aG fN;rw[if_neg (by omega)];split
 ·rfl
 ·rfl
theorem CY {lk:Lk} {w:Nat} {s:List It×List Ft} {x:It} (h:aV w s.1 x≠0):aG lk w s x=(s.1,s.2++[x.ft (aV w s.1 x)]):=by
 unfold aG;rw[if_pos h]
theorem D3 (C R:Id) (L:List It) (n:List UInt8) (f0:List Ft) (g d:Nat) (hC:C.isIt=false) (hCd:C.isNw d=false) (hR:R.isIt=false) (hRd:R.isNw d=false) (nCR:C≠R) (hx:sC L) (hl:bg L<=1000) (hg:g<=20) (hf:f0.length<=200000):
  bh Tryz.prog gl 23 d ⟨[.ptr C 0,.sl (ae L),.fn (1000000000+28) [.ptr R 0]],[(C,bY f0),(R,pd (ag (g+1)) n [])],[(.b C 0,3),(.b R 6,2),(.b R 7,7),(.b R 8,2)]⟩
   ⟨.tup [],[(C,bY (f0++(ag (g+2) 1 L).2)),(R,pd (ag (g+1)) n (ag (g+2) 1 L).1)],[(.b C 0,3),(.b R 6,2),(.b R 7,7),(.b R 8,2)]⟩:=by
 have hll:=fL L;have E:=NA C R L (fun i=>ar (iJ (ag (g+1)) 1 L f0 i).1) (fun i=>(iJ (ag (g+1)) 1 L f0 i).2) (fun i=>pd (ag (g+1)) n (iJ (ag (g+1)) 1 L f0 i).1) d hC hCd hR hRd nCR (fun i=>oG _ _ _) rfl (by omega) ?_
 ·have e:=oH (g+1) 1 L f0 L.length;rw[pr] at e;have e1:=congrArg Prod.fst e;have e2:=congrArg Prod.snd e;dsimp only at e1 e2;rw[e1,e2] at E;exact E
 ·intro i h h1 h2;have hs:=oD (ag (g+1)) 1 L f0 i h;have hlen:=zi (g+1) 1 L f0 i;have hcl:=zj (g+1) 1 L f0 i;have hinv:=CQ (ag (g+1)) 1 L f0 i;have hm:=o9 h;obtain ⟨x1,x2,x3,x4,x5⟩:=pT (mH hx hm);have hkl:=qw hm;have hkl2:=fL L[i].kd;have hmul:2*(g+1+1)*bg L<=2*22*1000:=Nat.mul_le_mul (by omega) hl;rw[hs];generalize iJ (ag (g+1)) 1 L f0 i=s at*;have hn:C.up≠R.up:=fun e=>nCR (by injection e)
  have hn3:C.up.up.up≠R.up.up.up:=fun e=>nCR (by injection e with e;injection e with e;injection e)
  by_cases c:aV 1 s.1 L[i]=0
  ·rw[CX c];exact JF C.up (.it 10) R.up L[i] _ _ _ _ _ _ 21 hC h1 hR h2 rfl rfl hn (oG _ _ _) (oG _ _ _) (fun g1 g2 g3=>JH _ _ _ _ _ _ _ _ (ag g) _ (fun _=>rfl) hinv (by omega) x1 (fun y hy=>(pT (mH x5 hy)).1) (by omega) x2 x3 x4 (by omega) rfl g2 hC g1 hR g3 hn3 c)
  ·rw[CY c];exact JG C.up (.it 10) R.up L[i] _ _ _ _ _ _ _ 21 hC h1 hR h2 rfl rfl hn (oG _ _ _) (oG _ _ _) (by omega) (fun g1 g2 g3=>JI _ _ _ _ _ _ _ _ (ag g) _ (fun _=>rfl) hinv (by omega) x1 (fun y hy=>(pT (mH x5 hy)).1) (by omega) x2 x3 x4 (by omega) rfl g2 hC g1 hR g3 hn3 c)
end Go.Ai
