/- P16: a part of the proof: the rules, or what functions compute. Conditions: as each theorem says. -/
import Derived.Test.YtidcomakahbepaaGreatDoorP8
import Derived.Test.YtidcomakahbepaaGreatDoorP15
import Derived.Test.YtidcomakahbepaaGreatDoorP6
import Derived.Test.YtidcomakahbepaaGreatDoorP2
import Derived.Test.YtidcomakahbepaaGreatDoorP7
import Derived.Test.YtidcomakahbepaaGreatDoorP11
set_option linter.unusedSimpArgs false
set_option linter.unusedVariables false
set_option maxRecDepth 20000
namespace Go.Ai
open Go.Proofs
open Go.Proofs
end Go.Ai
namespace Go.Ai
open Go.Proofs
def bkS (K N:Nat) (f:Nat→Nat) (k i:Nat):Nat:=if i<k then bkI K N f i else 0
theorem bkS_next (K N:Nat) (f:Nat→Nat) (k:Nat):bkS K N f (k+1)=upd (bkS K N f k) k (bkI K N f k):=by
 funext i
 show (if i<k+1 then bkI K N f i else 0)=if i=k then bkI K N f k else if i<k then bkI K N f i else 0
 by_cases c:i=k
 ·rw [if_pos c,if_pos (by omega),c]
 ·rw [if_neg c]
  by_cases c2:i<k
  ·rw [if_pos c2,if_pos (by omega)]
  ·rw [if_neg c2,if_neg (by omega)]
theorem bkS_no (K N:Nat) (f:Nat→Nat) (k:Nat) (h: ¬K≤N+1+k):bkS K N f (k+1)=bkS K N f k:=by
 funext i
 show (if i<k+1 then bkI K N f i else 0)=if i<k then bkI K N f i else 0
 by_cases c2:i<k
 ·rw [if_pos c2,if_pos (by omega)]
 ·rw [if_neg c2]
  by_cases c:i=k
  ·rw [if_pos (by omega),c];unfold bkI;rw [if_neg h]
  ·rw [if_neg (by omega)]
theorem rgbuckets_spec (R B:Id) (h:Pr2 R B) (K w N t g s:Nat) (f q:Nat→Nat) (hK:1≤K) (hK2:K≤60) (hN:N≤253402300799) (d:Nat) (hd:R.isNw d=false):
  SpH Tryz.prog gl 131 d ⟨[.ptr R 0],[(R,rgL B K w N t g s),(B,cellsF K f q)],[]⟩ ⟨.ms (.nw d (.n 13)) 0 K 2,[(R,rgL B K w N t g s),(B,cellsF K f q),(.nw d (.n 13),cellsF K (bkI K N f) (bkI K N q))],[]⟩:=by
 refine h131 rfl ?_
 have hi:=inn_notNw hd
 have hdB:B.isNw d=false:=by rw [←h.nw];exact hd
 have hiB:=inn_notNw hdB
 have r1:=h.ri
 have r2:=h.bi
 have ne:=h.ne
 have ne':B≠R:=fun e=>h.ne e.symm
 have nR: ¬R= .nw d (.n 13):=fun e=>by rw [e] at hd;simp [Id.isNw,Id.isUp] at hd
 have nB: ¬B= .nw d (.n 13):=fun e=>by rw [e] at hdB;simp [Id.isNw,Id.isUp] at hdB
 have AT:=fun n (hn:n<9223372036854775808) e he=>rat_spec (.up R) (.up B) h.up K w N t g s n hK hn e he
 have x0:=fun j (hj:j<K)=>cellsF_get (f:=f) (g:=q) hj
 have lx:=cellsF_len K f q
 have ix:=mpL_noids (f:=Id.up) (cellsF_ids K f q)
 have hx:=cellsF_ids K f q
 have Cl:=fun k=>cellsF_len K (bkS K N f k) (bkS K N q k)
 have Ci:=fun k=>cellsF_ids K (bkS K N f k) (bkS K N q k)
 have Cn:=fun k (hk:k<K)=>cellsF_upd (K:=K) (f:=bkS K N f k) (g:=bkS K N q k) (j:=k) (a:=bkI K N f k) (b:=bkI K N q k) hk
 have Cs: ∀k,cellsF K (upd (bkS K N f k) k (bkI K N f k)) (upd (bkS K N q k) k (bkI K N q k))=cellsF K (bkS K N f (k+1)) (bkS K N q (k+1)):=fun k=>by rw [bkS_next,bkS_next]
 have Cno: ∀k,¬K≤N+1+k→cellsF K (bkS K N f (k+1)) (bkS K N q (k+1))=cellsF K (bkS K N f k) (bkS K N q k):=fun k hk=>by rw [bkS_no _ _ _ _ hk,bkS_no _ _ _ _ hk]
 have C0:cellsF K (bkS K N f 0) (bkS K N q 0)=(List.replicate K [AV.int .u64 0,AV.int .u64 0]).flatten:=by
  rw [←bkC_zero K 1 0]
  unfold bkC
  exact cellsF_congr fun j hj=>⟨rfl,rfl⟩
 have CK:cellsF K (bkS K N f K) (bkS K N q K)=cellsF K (bkI K N f) (bkI K N q):=cellsF_congr fun j hj=>⟨by unfold bkS;rw [if_pos hj],by unfold bkS;rw [if_pos hj]⟩
 rw [←CK]
 simp only [rgL,inSt,mpL,mpB,mpP,AV.mp,ix]
 simp only [rgL] at AT
 simp only [Cs] at Cn
 obtain ⟨C,hC⟩: ∃C:Nat→List AV,C=fun k=>cellsF K (bkS K N f k) (bkS K N q k):=⟨_,rfl⟩
 have hCn: ∀k,cellsF K (bkS K N f k) (bkS K N q k)=C k:=fun k=>by rw [hC]
 simp only [hCn] at Cl Ci Cn Cno C0 ⊢
 clear hC hCn Cs CK
 generalize hX:cellsF K f q=X at *
 have hlim:lim=140737488355328:=rfl
 have q1:(0:Int)≤K:=by omega
 have q2:(K:Int)*16≤140737488355328:=by omega
 have q3:K*16≤140737488355328:=by omega
 simp -implicitDefEqProofs [c131,hlim,q1,q2,q3]
 rw [←C0]
 refine wp_lpk (α:=Nat) (fun k=>⟨[(0,.ptr (.up R) 0),(3,.ms (.n 13) 0 K 2),(15,i6 K),(16,i6 k)],[(.n 13,C k),(.up R,[i6 w,.ms (.up B) 0 K 2,i6 N,i6 t,u g,u s]),(.up B,X)],[]⟩) (fun k=>k≤K) (fun k=>K - k) ?_ 0 ?_ ?_
 ·intro K' k hK' k1
  by_cases c:k<K
  ·have c':(k:Int)<K:=by omega
   have w1:IntKind.i64.wrap ((k:Int)+1)=(k+1:Nat):=by rw [wrap_i64]<;>omega
   have t1:IntKind.i64.wrap ((K:Int) - 1)=(K:Int) - 1:=by rw [wrap_i64]<;>omega
   have t2:IntKind.i64.wrap ((K:Int) - 1 - k)=(K:Int) - 1 - k:=by rw [wrap_i64]<;>omega
   have t3:IntKind.i64.wrap ((N:Int) - ((K:Int) - 1 - k))=(N:Int) - ((K:Int) - 1 - k):=by rw [wrap_i64]<;>omega
   have fin:=fun σ' hσ=>hK' (k+1) σ' (by omega) (by omega) hσ
   clear hK' C0
   by_cases g1:K≤N+1+k
   ·have g2:0≤(N:Int) - ((K:Int) - 1 - k):=by omega
    have g4:(K:Int) - 1 - k≤N:=by omega
    have g3:(N:Int) - ((K:Int) - 1 - k)=(N+1+k - K:Nat):=by omega
    have A:=AT (N+1+k - K) (by omega)
    have hm:=Nat.mod_lt (N+1+k - K) (show 0<K by omega)
    obtain ⟨y0,y1⟩:=x0 ((N+1+k - K)%K) hm
    have e1:=Cn k c
    have l1:=Cl k
    have hid:=Ci (k+1)
    have b1:bkI K N f k=f ((N+1+k - K)%K):=by unfold bkI;rw [if_pos g1]
    have b2:bkI K N q k=q ((N+1+k - K)%K):=by unfold bkI;rw [if_pos g1]
    rw [b1,b2] at e1
    have e1:=e1.symm
    have tk2:List.take 2 (List.drop ((N+1+k - K)%K*2) X)=[u (f ((N+1+k - K)%K)),u (q ((N+1+k - K)%K))]:=by
     have h1:(N+1+k - K)%K*2<X.length:=by omega
     have h2:(N+1+k - K)%K*2+1<X.length:=by omega
     rw [List.drop_eq_getElem_cons h1,List.drop_eq_getElem_cons h2]
     rw [List.getElem?_eq_getElem h1] at y0
     rw [List.getElem?_eq_getElem h2] at y1
     rw [Option.some.inj y0,Option.some.inj y1]
     rfl
    have hl2:(N+1+k - K)%K*2+2≤X.length:=by omega
    have hl3:k*2+2≤(C k).length:=by omega
    clear AT Cn Cl Ci Cno x0 hm y0 y1 b1 b2
    generalize (N+1+k - K)%K*2=off at *
    generalize f ((N+1+k - K)%K)=v1 at *
    generalize q ((N+1+k - K)%K)=v2 at *
    generalize C (k+1)=Y at *
    generalize C k=Z at *
    rw [←g3] at A
    simp -implicitDefEqProofs [c,c',ne,ne',t1,t2,t3,g2,g4]
    refine onH_mk _ _ (A _ rfl) ⟨?_,?_,?_,?_,?_,?_,?_⟩ ?_
    iterate 7 (· simp [ne,ne'])
    simp -implicitDefEqProofs [ne,ne',tk2,hl2,hl3,c,c',e1]
    refine fin _ ?_
    refine weak_mk ?_ ?_ ?_ ?_ ?_ ?_<;>simp -implicitDefEqProofs [ne,ne',w1,hid,hx]
   ·have g2: ¬0≤(N:Int) - ((K:Int) - 1 - k):=by omega
    have g4: ¬(K:Int) - 1 - k≤N:=by omega
    have e1:=Cno k g1
    have hid:=Ci (k+1)
    clear AT Cn Cl Ci Cno x0
    rw [e1] at fin hid
    generalize C k=Z at *
    simp -implicitDefEqProofs [c,c',ne,ne',t1,t2,t3,g2,g4]
    refine fin _ ?_
    refine weak_mk ?_ ?_ ?_ ?_ ?_ ?_<;>simp -implicitDefEqProofs [ne,ne',w1,hid,hx]
  ·obtain rfl:k=K:=by omega
   have hid:=Ci k
   have iz:=fun f'=>mpL_noids (f:=f') hid
   have ix2:=fun f'=>mpL_noids (f:=f') hx
   clear hK' AT Cn Cl Ci Cno x0
   simp -implicitDefEqProofs [ne,ne']
   refine postH_r ⟨?_,?_,?_,?_,?_,?_⟩<;>simp -implicitDefEqProofs [hi,hiB,r1,r2,hd,hdB,ne,ne',hid,hx,iz,ix2,nR,nB]
 ·exact Nat.zero_le _
 ·have hid:=Ci 0
  refine weak_mk ?_ ?_ ?_ ?_ ?_ ?_<;>simp -implicitDefEqProofs [ne,ne',hid,hx]
open Go.Proofs
theorem cellsF_two {K:Nat} {f g:Nat→Nat} {j:Nat} (h:j<K):((cellsF K f g).drop (j*2)).take 2=[u (f j),u (g j)]:=by
 obtain ⟨y0,y1⟩:=cellsF_get (f:=f) (g:=g) h
 have l:=cellsF_len K f g
 have h1:j*2<(cellsF K f g).length:=by omega
 have h2:j*2+1<(cellsF K f g).length:=by omega
 rw [List.drop_eq_getElem_cons h1,List.drop_eq_getElem_cons h2]
 rw [List.getElem?_eq_getElem h1] at y0
 rw [List.getElem?_eq_getElem h2] at y1
 rw [Option.some.inj y0,Option.some.inj y1]
 rfl
theorem rgput_spec (R B:Id) (h:Pr2 R B) (K w N t g s:Nat) (f q:Nat→Nat) (hK:1≤K) (hK2:K≤60) (hN:N≤253402300799) (hf: ∀i,i<K→bkI K N f i<18446744073709551616∧bkI K N q i<18446744073709551616) (l:List UInt8) (hl:l.length≤900000) (d:Nat) (hd:R.isNw d=false):
  SpH Tryz.prog gl 84 d ⟨[.ptr R 0,.sl (byteRows l)],[(R,rgL B K w N t g s),(B,cellsF K f q)],[(.s 1,1)]⟩ ⟨.sl (byteRows (l++cntB (bkI K N f) (bkI K N q) K)),[(R,rgL B K w N t g s),(B,cellsF K f q)],[(.s 0,1)]⟩:=by
 refine h84 rfl ?_
 have hi:=inn_notNw hd
 have hdB:B.isNw d=false:=by rw [←h.nw];exact hd
 have hiB:=inn_notNw hdB
 have r1:=h.ri
 have r2:=h.bi
 have ne:=h.ne
 have ne':B≠R:=fun e=>h.ne e.symm
 have BU:=rgbuckets_spec (.up R) (.up B) h.up K w N t g s f q hK hK2 hN 8 rfl
 have hx:=cellsF_ids K f q
 have ix:=fun f'=>mpL_noids (f:=f') hx
 have cx:=cellsF_ids K (bkI K N f) (bkI K N q)
 have cl:=cellsF_len K (bkI K N f) (bkI K N q)
 have c2:=fun j (hj:j<K)=>cellsF_two (f:=bkI K N f) (g:=bkI K N q) hj
 have sl:=fun k (hk:k≤K)=>cntB_len (n:=k) (f:=bkI K N f) (g:=bkI K N q) (fun i hi=>hf i (by omega))
 have P1:=fun k (hk:k<K)=>appS_mk (fun e=>wnum_spec (l++cntB (bkI K N f) (bkI K N q) k) (bkI K N f k) (by have:=sl k (by omega);rw [List.length_append];omega) (hf k hk).1 e)
 have P2:=fun k (hk:k<K)=>appS_mk (fun e=>wnum_spec ((l++cntB (bkI K N f) (bkI K N q) k)++numB (bkI K N f k)) (bkI K N q k) (by
  have:=sl k (by omega)
  have:=numB_len _ (hf k hk).1
  rw [List.length_append,List.length_append];omega) (hf k hk).2 e)
 have e3: ∀k,byteRows (((l++cntB (bkI K N f) (bkI K N q) k)++numB (bkI K N f k))++numB (bkI K N q k))=byteRows (l++cntB (bkI K N f) (bkI K N q) (k+1)):=fun k=>by
  rw [cntB];simp only [List.append_assoc]
 simp only [e3] at P2
 have e0:byteRows l=byteRows (l++cntB (bkI K N f) (bkI K N q) 0):=by rw [cntB,List.append_nil]
 rw [e0]
 obtain ⟨Q,hQ⟩: ∃Q:Nat→List (List AV),Q=fun k=>byteRows (l++cntB (bkI K N f) (bkI K N q) k):=⟨_,rfl⟩
 have hQk: ∀k,byteRows (l++cntB (bkI K N f) (bkI K N q) k)=Q k:=fun k=>by rw [hQ]
 simp only [hQk] at P1 P2 ⊢
 clear hQ hQk e3 e0 sl
 simp only [rgL,inSt,mpL,mpB,mpP,AV.mp,ix,Pl.mp]
 simp only [rgL] at BU
 generalize cellsF K f q=X at *
 generalize cellsF K (bkI K N f) (bkI K N q)=C at *
 simp -implicitDefEqProofs [c84]
 refine onH_mk _ _ (BU) ⟨?_,?_,?_,?_,?_,?_,?_⟩ ?_
 iterate 7 (· simp [ne,ne',hx])
 simp -implicitDefEqProofs [ne,ne']
 refine wp_lpk (α:=Nat) (fun k=>⟨[(1,.sl (Q k)),(8,.ms (.nw 8 (.n 13)) 0 K 2),(9,i6 K),(10,i6 k)],[(.nw 8 (.n 13),C),(.up R,[i6 w,.ms (.up B) 0 K 2,i6 N,i6 t,u g,u s]),(.up B,X)],[(.s 1,1)]⟩) (fun k=>k≤K) (fun k=>K - k) ?_ 0 ?_ ?_
 ·intro K' k hK' k1
  by_cases c:k<K
  ·have c':(k:Int)<K:=by omega
   have w1:IntKind.i64.wrap ((k:Int)+1)=(k+1:Nat):=by rw [wrap_i64]<;>omega
   have fin:=fun σ' hσ=>hK' (k+1) σ' (by omega) (by omega) hσ
   have t2:=c2 k c
   have P1k:=P1 k c
   have P2k:=P2 k c
   have l2:k*2+2≤C.length:=by omega
   clear hK' c2 P1 P2
   generalize bkI K N f k=v1 at *
   generalize bkI K N q k=v2 at *
   generalize byteRows ((l++cntB (bkI K N f) (bkI K N q) k)++numB v1)=M1 at *
   simp -implicitDefEqProofs [c,c',ne,ne',t2,l2]
   refine onA_mk 1 M1 ?_ ?_
   ·simp [caS]
    exact P1k
   simp -implicitDefEqProofs [caSt]
   refine onA_mk 1 (Q (k+1)) ?_ ?_
   ·simp [caS]
    exact P2k
   simp -implicitDefEqProofs [caSt]
   refine fin _ ?_
   refine weak_mk ?_ ?_ ?_ ?_ ?_ ?_<;>simp -implicitDefEqProofs [ne,ne',w1,cx,hx]
  ·obtain rfl:k=K:=by omega
   clear hK' c2 P1 P2
   simp -implicitDefEqProofs [ne,ne']
   refine postH_r ⟨?_,?_,?_,?_,?_,?_⟩<;>simp -implicitDefEqProofs [hi,hiB,r1,r2,hd,hdB,ne,ne',hx,ix]
 ·exact Nat.zero_le _
 ·refine weak_mk ?_ ?_ ?_ ?_ ?_ ?_<;>simp -implicitDefEqProofs [ne,ne',cx,hx]
open Go.Proofs
def mtG (M A:Id) (R B:Nat→Id) (c:List AV) (n:Nat) (C:Nat→Id→List AV) (D:Nat→List AV):List (Id×List AV):=(M,c)::(A,ptrC R n)::rgsB R B C D n
def gC (K w N:Nat→Nat) (t:Nat) (g s:Nat→Nat) (i:Nat) (b:Id):List AV:=rgL b (K i) (w i) (N i) t (g i) (s i)
def gD (K:Nat→Nat) (f q:Nat→Nat→Nat) (i:Nat):List AV:=cellsF (K i) (f i) (q i)
theorem gC_mp (f:Id→Id) (K w N:Nat→Nat) (t:Nat) (g s:Nat→Nat) (i:Nat) (b:Id):mpL f (gC K w N t g s i b)=gC K w N t g s i (f b):=rfl
theorem gC_ids (K w N:Nat→Nat) (t:Nat) (g s:Nat→Nat) (i:Nat) (b:Id):idsL (gC K w N t g s i b)=[b]:=rfl
theorem gD_ids (K:Nat→Nat) (f q:Nat→Nat→Nat) (i:Nat):idsL (gD K f q i)=[]:=cellsF_ids _ _ _
theorem gD_mp (h:Id→Id) (K:Nat→Nat) (f q:Nat→Nat→Nat) (i:Nat):mpL h (gD K f q i)=gD K f q i:=mpL_noids (gD_ids _ _ _ _)
theorem mtG_up (M A:Id) (R B:Nat→Id) (x:Gl) (n:Nat) (W:List (List AV)) (fr tz cg ct t:Nat) (sd:Bool) {C:Nat→Id→List AV} {D:Nat→List AV} (hC: ∀f i b,mpL f (C i b)=C i (f b)) (hD: ∀f i,mpL f (D i)=D i):
  mpB Id.up (mtG M A R B (mtC x A n W fr tz cg ct t sd) n C D)=mtG (.up M) (.up A) (fun i=> .up (R i)) (fun i=> .up (B i)) (mtC x (.up A) n W fr tz cg ct t sd) n C D:=by
 unfold mtG
 rw [mpB,mpB,ptrC_mp,mtC_mp,mpB_rgs (hC Id.up) (hD Id.up)]
def ringsB (K N:Nat→Nat) (f q:Nat→Nat→Nat):Nat→List UInt8
 |0=>[]
 |k+1=>ringsB K N f q k++cntB (bkI (K k) (N k) (f k)) (bkI (K k) (N k) (q k)) (K k)
def calB (c:Int) (cg ct:Nat):List UInt8:=if c=0 then [] else numB cg++numB ct
def metB (c:Int) (sd:Bool) (cg ct:Nat) (K N:Nat→Nat) (f q:Nat→Nat→Nat) (n:Nat):List UInt8:=flagB sd++(calB c cg ct++ringsB K N f q n)
structure GkOk (n:Nat) (K N:Nat→Nat) (f q:Nat→Nat→Nat):Prop where
 k1: ∀i,i<n→1≤K i
 k2: ∀i,i<n→K i≤60
 n1: ∀i,i<n→N i≤253402300799
 fq: ∀k,k<n→ ∀i,i<K k→bkI (K k) (N k) (f k) i<18446744073709551616∧bkI (K k) (N k) (q k) i<18446744073709551616
theorem ringsB_len {n:Nat} {K N:Nat→Nat} {f q:Nat→Nat→Nat} (h:GkOk n K N f q): ∀ {k:Nat},k≤n→(ringsB K N f q k).length≤1080*k
 |0,_=>by simp [ringsB]
 |k+1,hk=>by
  have h1:=ringsB_len h (k:=k) (by omega)
  have h2:=cntB_len (n:=K k) (fun i hi=>h.fq k (by omega) i hi)
  have h3:=h.k2 k (by omega)
  rw [ringsB,List.length_append];omega
theorem mput_spec (M A:Id) (R B:Nat→Id) (h:Nms M A R B) (x:Gl) (n:Nat) (hn:n≤100) (W:List (List AV)) (fr tz cg ct:Nat) (hcg:cg<18446744073709551616) (hct:ct<18446744073709551616) (sd:Bool) (K w N:Nat→Nat) (t:Nat) (g s:Nat→Nat) (f q:Nat→Nat→Nat) (hk:GkOk n K N f q) (l:List UInt8) (hl:l.length≤500000) (d:Nat) (hd:M.isNw d=false):
  SpH Tryz.prog gl 33 d ⟨[.ptr M 0,.sl (byteRows l)],mtG M A R B (mtC x A n W fr tz cg ct t sd) n (gC K w N t g s) (gD K f q),[(.s 1,1)]⟩ ⟨.sl (byteRows (l++metB x.c sd cg ct K N f q n)),mtG M A R B (mtC x A n W fr tz cg ct t sd) n (gC K w N t g s) (gD K f q),[(.s 0,1)]⟩∧
  (l=[]→SpH Tryz.prog gl 33 d ⟨[.ptr M 0,.nils],mtG M A R B (mtC x A n W fr tz cg ct t sd) n (gC K w N t g s) (gD K f q),[]⟩ ⟨.sl (byteRows (l++metB x.c sd cg ct K N f q n)),mtG M A R B (mtC x A n W fr tz cg ct t sd) n (gC K w N t g s) (gD K f q),[(.s 0,1)]⟩):=by
 suffices key:wpA (SpH Tryz.prog gl) c33 (postH d [.t 4] ⟨.sl (byteRows (l++metB x.c sd cg ct K N f q n)),mtG M A R B (mtC x A n W fr tz cg ct t sd) n (gC K w N t g s) (gD K f q),[(.s 0,1)]⟩) (inSt ⟨[.ptr M 0,.sl (byteRows l)],mtG M A R B (mtC x A n W fr tz cg ct t sd) n (gC K w N t g s) (gD K f q),[(.s 1,1)]⟩)∧
   (l=[]→wpA (SpH Tryz.prog gl) c33 (postH d [.t 4] ⟨.sl (byteRows (l++metB x.c sd cg ct K N f q n)),mtG M A R B (mtC x A n W fr tz cg ct t sd) n (gC K w N t g s) (gD K f q),[(.s 0,1)]⟩) (inSt ⟨[.ptr M 0,.nils],mtG M A R B (mtC x A n W fr tz cg ct t sd) n (gC K w N t g s) (gD K f q),[]⟩)) from ⟨h33 rfl key.1,fun hl=>h33 rfl (key.2 hl)⟩
 have hu:=h.up
 have hi:=inn_notNw hd
 have hdA:A.isNw d=false:=by rw [←h.na];exact hd
 have hiA:=inn_notNw hdA
 have mi:=h.mi
 have ai:=h.ai
 have ma:=h.ma
 have ma':A≠M:=fun e=>h.ma e.symm
 have mr:=h.mr
 have mb:=h.mb
 have ar:=h.ar
 have ab:=h.ab
 have mr': ∀i,¬R i=M:=fun i e=>h.mr i e.symm
 have mb': ∀i,¬B i=M:=fun i e=>h.mb i e.symm
 have ar': ∀i,¬R i=A:=fun i e=>h.ar i e.symm
 have ab': ∀i,¬B i=A:=fun i e=>h.ab i e.symm
 have hpa:=fun i (hi:i<n)=>ptrC_at (R:=fun i=>Id.up (R i)) hi
 have hpl:=ptrC_len (fun i=>Id.up (R i)) n
 have hpu:=ptrC_up (R:=R) (n:=n)
 have hpo: ∀ob,∀i∈idsL (ptrC R n),idOk d ob i:=fun ob=>ptrC_outi h hd
 have hpi:=ptrC_inn h (n:=n) hd
 have hfree:=fun C D s=>rgs_free (R:=R) (B:=B) (C:=C) (D:=D) (n:=n) (s:=s)
 have hnn:=fun C D s=>rgsB_none (R:=fun i=>Id.up (R i)) (B:=fun i=>Id.up (B i)) (C:=C) (D:=D) (x:= .n s) (fun i e=>by cases e) (fun i e=>by cases e) n
 have hin:=mtG_up M A R B x n W fr tz cg ct t sd (C:=gC K w N t g s) (D:=gD K f q) (fun f i b=>gC_mp f K w N t g s i b) (fun h i=>gD_mp h K f q i)
 have MC:=fun e he=>mcal_spec (.up M) (.up A) h.pa.up x n W fr tz cg ct t sd e he
 have RP:=fun i (hi:i<n) l hl e he=>rgput_spec (.up (R i)) (.up (B i)) (h.pr i).up (K i) (w i) (N i) t (g i) (s i) (f i) (q i) (hk.k1 i hi) (hk.k2 i hi) (hk.n1 i hi) (hk.fq i hi) l hl e he
 have hout:=fun σ=>rgs_out h (C:=gC K w N t g s) (D:=gD K f q) (n:=n) (d:=d) (σ:=σ) hd (fun f i b=>gC_mp f K w N t g s i b) (fun h i=>gD_mp h K f q i)
 have houi:=fun ob=>rgs_outi h (C:=gC K w N t g s) (D:=gD K f q) (n:=n) (d:=d) (ob:=ob) hd (gC_ids K w N t g s) (gD_ids K f q)
 have hups:=rgs_up (R:=R) (B:=B) (n:=n) (C:=gC K w N t g s) (D:=gD K f q) (gC_ids K w N t g s) (gD_ids K f q)
 have hlk: ∀i,i<n→lkB (rgsB (fun i=> .up (R i)) (fun i=> .up (B i)) (gC K w N t g s) (gD K f q) n) (.up (R i))=some (gC K w N t g s i (.up (B i)))∧lkB (rgsB (fun i=> .up (R i)) (fun i=> .up (B i)) (gC K w N t g s) (gD K f q) n) (.up (B i))=some (gD K f q i):=
  fun i hi=>⟨rgsB_R hu n hi,rgsB_B hu n hi⟩
 have sl:=fun k (hk':k≤n)=>ringsB_len hk hk'
 have hc9:(calB x.c cg ct).length≤18:=by
  unfold calB
  split
  ·simp
  ·have:=numB_len _ hcg
   have:=numB_len _ hct
   rw [List.length_append];omega
 have F1:=appS_mk (fun e=>wflag_spec l sd (by omega) e)
 have F2:=appS_mk (fun e=>wnum_spec (l++flagB sd) cg (by rw [List.length_append];simp [flagB];omega) hcg e)
 have F3:=appS_mk (fun e=>wnum_spec ((l++flagB sd)++numB cg) ct (by
  have:=numB_len _ hcg
  rw [List.length_append,List.length_append];simp [flagB];omega) hct e)
 have hpre: ∀k,l++(flagB sd++(calB x.c cg ct++ringsB K N f q k))=((l++flagB sd)++calB x.c cg ct)++ringsB K N f q k:=fun k=>by simp only [List.append_assoc]
 have RP2:=fun k (hk':k<n) e he=>RP k hk' (((l++flagB sd)++calB x.c cg ct)++ringsB K N f q k) (by
  have:=sl k (by omega)
  rw [List.length_append,List.length_append,List.length_append];simp [flagB];omega) e he
 have e3: ∀k,byteRows ((((l++flagB sd)++calB x.c cg ct)++ringsB K N f q k)++cntB (bkI (K k) (N k) (f k)) (bkI (K k) (N k) (q k)) (K k))=byteRows (((l++flagB sd)++calB x.c cg ct)++ringsB K N f q (k+1)):=fun k=>by
  rw [ringsB];simp only [List.append_assoc]
 simp only [e3] at RP2
 unfold metB
 rw [hpre]
 have e0:byteRows ((l++flagB sd)++calB x.c cg ct)=byteRows (((l++flagB sd)++calB x.c cg ct)++ringsB K N f q 0):=by rw [ringsB,List.append_nil]
 have ec:x.c≠0→byteRows (((l++flagB sd)++numB cg)++numB ct)=byteRows ((l++flagB sd)++calB x.c cg ct):=fun h=>by unfold calB;rw [if_neg h];simp only [List.append_assoc]
 have ec0:x.c=0→byteRows (l++flagB sd)=byteRows ((l++flagB sd)++calB x.c cg ct):=fun h=>by unfold calB;rw [if_pos h,List.append_nil]
 obtain ⟨Q,hQ⟩: ∃Q:Nat→List (List AV),Q=fun k=>byteRows (((l++flagB sd)++calB x.c cg ct)++ringsB K N f q k):=⟨_,rfl⟩
 have hQk: ∀k,byteRows (((l++flagB sd)++calB x.c cg ct)++ringsB K N f q k)=Q k:=fun k=>by rw [hQ]
 rw [e0] at ec ec0
 simp only [hQk] at RP2 ec ec0 ⊢
 clear hQ hQk e3 e0 sl hpre RP
 simp only [inSt,mpL,mpP,AV.mp,hin,Pl.mp]
 clear hin
 simp only [mtG]
 generalize ptrC (fun i=>Id.up (R i)) n=PC at *
 simp only [mtC] at MC ⊢
 have loop: ∀e,lk e 0= .ptr (.up M) 0→lk e 1= .sl (Q 0)→wpA (SpH Tryz.prog gl) (AC.tl 4 c33) (postH d [.t 4] ⟨.sl (Q n),(M,[.str x.n,.int .u32 x.t,i6 x.g,i6 x.a,i6 x.o,i6 x.c,.sl (x.lb.map Lb.row),.sl (x.ru.map Ru.row),.sl W,.ms A 0 n 1,i6 fr,i6 tz,u cg,u ct,i6 t,.bool sd])::(A,ptrC R n)::rgsB R B (gC K w N t g s) (gD K f q) n,[(.s 0,1)]⟩) ⟨e,(.up M,[.str x.n,.int .u32 x.t,i6 x.g,i6 x.a,i6 x.o,i6 x.c,.sl (x.lb.map Lb.row),.sl (x.ru.map Ru.row),.sl W,.ms (.up A) 0 n 1,i6 fr,i6 tz,u cg,u ct,i6 t,.bool sd])::(.up A,PC)::rgsB (fun i=> .up (R i)) (fun i=> .up (B i)) (gC K w N t g s) (gD K f q) n,[(.s 1,1)]⟩:=by
  intro e l0 l1
  simp only [c33,AC.tl]
  simp -implicitDefEqProofs [l0,l1,ma,ma']
  refine wp_lpk (α:=Nat) (fun k=>⟨[(1,.sl (Q k)),(34,.ms (.up A) 0 n 1),(35,i6 n),(36,i6 k)],(.up M,[.str x.n,.int .u32 x.t,i6 x.g,i6 x.a,i6 x.o,i6 x.c,.sl (x.lb.map Lb.row),.sl (x.ru.map Ru.row),.sl W,.ms (.up A) 0 n 1,i6 fr,i6 tz,u cg,u ct,i6 t,.bool sd])::(.up A,PC)::rgsB (fun i=> .up (R i)) (fun i=> .up (B i)) (gC K w N t g s) (gD K f q) n,[(.s 1,1)]⟩) (fun k=>k≤n) (fun k=>n - k) ?_ 0 ?_ ?_
  ·intro K' k hK' k1
   by_cases g0:k<n
   ·have g':(k:Int)<n:=by omega
    have w1:IntKind.i64.wrap ((k:Int)+1)=(k+1:Nat):=by rw [wr]<;>omega
    obtain ⟨lR,lB⟩:=hlk k g0
    have fr2:=hfree (gC K w N t g s) (gD K f q)
    have RPk:=RP2 k g0
    have e0:PC[k]?=some (.ptr (.up (R k)) 0):=hpa k g0
    have kl:k<PC.length:=by omega
    have e1:PC[k]'kl= .ptr (.up (R k)) 0:=by rw [List.getElem?_eq_getElem kl] at e0;exact Option.some.inj e0
    have keep:=fun bx=>rgs_keep hu (C:=gC K w N t g s) (D:=gD K f q) g0 (bx:=bx)
    have rb: ¬R k=B k:=h.rb k k
    have rb': ¬B k=R k:=fun e=>h.rb k k e.symm
    have rb2: ∀i j,¬R i=B j:=fun i j=>h.rb i j
    have rb3: ∀i j,¬B i=R j:=fun i j e=>h.rb j i e.symm
    have fin:=fun σ' hσ=>hK' (k+1) σ' (by omega) (by omega) hσ
    clear hK' RP2 hpa MC F1 F2 F3 ec ec0
    simp only [gC] at lR
    simp only [gD] at lB
    simp -implicitDefEqProofs [g0,g',e0,e1,kl,hpl,ma,ma',w1]
    refine onH_mk _ _ (RPk _ rfl) ⟨?_,?_,?_,?_,?_,?_,?_⟩ ?_
    iterate 6 (· simp [lR,lB,mr,mb,ar,ab,mr',mb',ar',ab',rb,rb'])
    ·simp;exact fr2 _
    simp -implicitDefEqProofs [mr,mb,ar,ab,mr',mb',ar',ab',rb,rb',w1]
    refine fin _ (weak_mk ?_ ?_ ?_ ?_ ?_ ?_)
    ·simp [w1]
    ·intro p hp
     rcases List.mem_cons.1 hp with rfl|hp
     ·simp [mr',mb']
     ·rcases List.mem_cons.1 hp with rfl|hp
      ·simp [mr',mb',ar',ab',ma,ma']
      ·refine keep _ ?_ ?_ (fun i hi n1 n2=>⟨?_,?_⟩) p hp
       ·simp [gC]
       ·simp [gD,rb]
       ·simp [lkB_rmB,mr,ar,n1,n2,rb2,rb3]
       ·simp [lkB_rmB,mb,ab,n1,n2,rb2,rb3]
    ·simp
    ·simp
    ·simp
     exact ⟨fun d hd=> .inr (hpu d hd),fun a b hm d hd=> .inr (hups a b hm d hd)⟩
    ·simp
   ·obtain rfl:k=n:=by omega
    have g': ¬((k:Int)<k):=by omega
    have g2: ¬k<k:=Nat.lt_irrefl _
    clear hK' RP2 hpa MC F1 F2 F3 ec ec0
    simp -implicitDefEqProofs [g',g2]
    refine postH_r ⟨?_,?_,?_,?_,?_,?_⟩
    ·simp
    ·simp
    ·intro p hp
     rcases List.mem_cons.1 hp with rfl|hp
     ·simp [hi,hiA,mi]
     ·rcases List.mem_cons.1 hp with rfl|hp
      ·simp [hi,hiA,ai,ma,ma',hpi]
      ·refine hout _ (fun i hi=>?_) p hp
       simp -implicitDefEqProofs [lkB_rmB,mr,mb,ar,ab,hlk i hi]
    ·intro p hp
     rcases List.mem_cons.1 hp with rfl|hp
     ·simp [ai,hdA]
     ·rcases List.mem_cons.1 hp with rfl|hp
      ·exact hpo _
      ·exact houi _ p hp
    ·simp
    ·simp
  ·exact Nat.zero_le _
  ·refine weak_mk ?_ ?_ ?_ ?_ ?_ ?_
   ·simp [l1]
   ·intro p hp
    rcases List.mem_cons.1 hp with rfl|hp
    ·simp [mr',mb',ma,ma']
    ·rcases List.mem_cons.1 hp with rfl|hp
     ·simp [mr',mb',ar',ab',ma,ma']
     ·obtain ⟨i,hi,e|e⟩:=mem_rgsB.1 hp
      ·subst e;simp -implicitDefEqProofs [mr,mb,ar,ab,hlk i hi]
      ·subst e;simp -implicitDefEqProofs [mr,mb,ar,ab,hlk i hi]
   ·simp
   ·simp
   ·simp
    exact ⟨fun d hd=> .inr (hpu d hd),fun a b hm d hd=> .inr (hups a b hm d hd)⟩
   ·simp
 have ec9:c33=AC.cutAt 3 (AC.cutAt 1 (AC.tl 4 c33) (AC.tl 3 c33)) c33:=rfl
 rw [ec9]
 generalize AC.tl 4 c33=t0 at loop ⊢
 have fr1:=hfree (gC K w N t g s) (gD K f q)
 have rn1:=hnn (gC K w N t g s) (gD K f q)
 have rmM:rmB (rgsB (fun i=> .up (R i)) (fun i=> .up (B i)) (gC K w N t g s) (gD K f q) n) (.up M)=rgsB (fun i=> .up (R i)) (fun i=> .up (B i)) (gC K w N t g s) (gD K f q) n:=rgsB_rm hu.mr hu.mb n
 clear hout houi hups hlk RP2 hfree hnn hpa
 generalize rgsB (fun i=> .up (R i)) (fun i=> .up (B i)) (gC K w N t g s) (gD K f q) n=RG at *
 have T3: ∀e,lk e 0= .ptr (.up M) 0→lk e 1= .sl (byteRows (l++flagB sd))→wpA (SpH Tryz.prog gl) (AC.cutAt 1 t0 (AC.tl 3 c33)) (postH d [.t 4] ⟨.sl (Q n),(M,[.str x.n,.int .u32 x.t,i6 x.g,i6 x.a,i6 x.o,i6 x.c,.sl (x.lb.map Lb.row),.sl (x.ru.map Ru.row),.sl W,.ms A 0 n 1,i6 fr,i6 tz,u cg,u ct,i6 t,.bool sd])::(A,ptrC R n)::rgsB R B (gC K w N t g s) (gD K f q) n,[(.s 0,1)]⟩)
   ⟨e,(.up M,[.str x.n,.int .u32 x.t,i6 x.g,i6 x.a,i6 x.o,i6 x.c,.sl (x.lb.map Lb.row),.sl (x.ru.map Ru.row),.sl W,.ms (.up A) 0 n 1,i6 fr,i6 tz,u cg,u ct,i6 t,.bool sd])::(.up A,PC)::RG,[(.s 1,1)]⟩:=by
  intro e l0 l1
  clear F1
  simp only [c33,AC.tl,AC.cutAt]
  by_cases hc:x.c=0
  ·rw [ec0 hc] at l1
   have hb:(x.c !=0)=false:=by rw [hc];rfl
   rw [hb] at MC
   clear F2 F3 ec ec0 hc9
   simp -implicitDefEqProofs [l0]
   refine onH_mk _ _ (MC _ rfl) ⟨?_,?_,?_,?_,?_,?_,?_⟩ ?_
   iterate 6 (· simp [ma,ma'])
   ·simp;exact fr1 _
   simp -implicitDefEqProofs [ma,ma',rmM]
   refine loop _ ?_ ?_<;>simp -implicitDefEqProofs [l0,l1]
  ·have hb:(x.c !=0)=true:=by rw [bne_iff_ne];exact hc
   rw [hb] at MC
   rw [ec hc] at F3
   generalize byteRows (l++flagB sd++numB cg)=M2 at *
   generalize byteRows (l++flagB sd)=M1 at *
   clear ec ec0 hc9
   simp -implicitDefEqProofs [l0]
   refine onH_mk _ _ (MC _ rfl) ⟨?_,?_,?_,?_,?_,?_,?_⟩ ?_
   iterate 6 (· simp [ma,ma'])
   ·simp;exact fr1 _
   simp -implicitDefEqProofs [ma,ma',rmM,l0,l1]
   refine onA_mk 1 M2 ?_ ?_
   ·simp [caS,l1]
    exact F2
   simp -implicitDefEqProofs [caSt,l0]
   refine onA_mk 1 (Q 0) ?_ ?_
   ·simp [caS]
    exact F3
   simp -implicitDefEqProofs [caSt]
   refine loop _ ?_ ?_<;>simp -implicitDefEqProofs [l0]
 generalize AC.cutAt 1 t0 (AC.tl 3 c33)=t1 at T3 ⊢
 simp only [c33,AC.cutAt]
 clear F2 F3 ec ec0 hc9 loop MC
 refine ⟨?_,fun hl0=>?_⟩
 ·generalize byteRows (l++flagB sd)=M1 at *
  simp -implicitDefEqProofs
  refine onA_mk 1 M1 ?_ ?_
  ·simp [caS]
   exact F1
  simp -implicitDefEqProofs [caSt]
  refine T3 _ ?_ ?_<;>simp -implicitDefEqProofs
 ·have bl0:byteRows l=[]:=by rw [hl0];rfl
  rw [bl0] at F1
  generalize byteRows (l++flagB sd)=M1 at *
  simp -implicitDefEqProofs
  refine onA_mk 1 M1 ?_ ?_
  ·simp [caS]
   exact F1
  simp -implicitDefEqProofs [caSt]
  refine T3 _ ?_ ?_<;>simp -implicitDefEqProofs
end Go.Ai
namespace Go.Ai
def rdS (st:RS):Nat→RS
 |0=>st
 |i+1=>(getN (getN (rdS st i)).1).1
def rdG (st:RS) (i:Nat):Nat:=(getN (rdS st i)).2
def rdT (st:RS) (i:Nat):Nat:=(getN (getN (rdS st i)).1).2
def suT (v:Nat→Nat):Nat→Nat
 |0=>0
 |n+1=>suT v n+v n
def bkG (K N:Nat) (v:Nat→Nat):Nat→Nat→Nat
 |0=>fun _=>0
 |i+1=>if K≤N+1+i then upd (bkG K N v i) ((N+1+i - K)%K) (bkG K N v i ((N+1+i - K)%K)+v i) else bkG K N v i
theorem bkG_le (K N:Nat) (v:Nat→Nat): ∀i j,bkG K N v i j≤suT v i
 |0,j=>Nat.le_refl _
 |i+1,j=>by
  have h1:=bkG_le K N v i j
  have h2:=bkG_le K N v i ((N+1+i - K)%K)
  simp only [bkG,suT]
  split
  ·unfold upd;split<;>omega
  ·omega
theorem suT_le {a b:Nat→Nat}: ∀ {n:Nat},(∀i,i<n→a i≤b i)→suT a n≤suT b n
 |0,_=>Nat.le_refl _
 |n+1,h=>by
  have:=suT_le (n:=n) (fun i hi=>h i (by omega))
  have:=h n (by omega)
  simp only [suT];omega
structure ROk (K N:Nat) (st:RS) (i:Nat):Prop where
 sm:(rdS st (i+1)).isNone=false
 gt:rdG st i≤rdT st i
 m1:rdT st i≤9223372036854775807
 m2:suT (rdT st) i+rdT st i≤9223372036854775807
 z:K≤N+1+i∨(rdG st i=0∧rdT st i=0)
theorem numOf_lt' (r:List UInt8): ∀n,r.length≤n→numOf r<256^n:=by
 intro n h
 exact Nat.lt_of_lt_of_le (numOf_lt r) (Nat.pow_le_pow_right (by omega) h)
theorem getN_lt (st:RS):(getN st).2<18446744073709551616:=by
 unfold getN
 split
 ·split
  ·rename_i k r h
   have:=numOf_lt' (r.take k.toNat) 8 (by simp;omega)
   simpa using this
  ·simp
 ·simp
theorem rdS_le {st:RS} {n:Nat} (h:rsLe st n): ∀i,rsLe (rdS st i) n
 |0=>h
 |i+1=>getN_le (getN_le (rdS_le h i))
theorem rdS_none: ∀i,rdS none i=none
 |0=>rfl
 |i+1=>by rw [rdS,rdS_none i];rfl
theorem bkG_at {K N:Nat} {v:Nat→Nat} (hK:1≤K): ∀ {i j:Nat},i≤K→j<K→bkG K N v i j=if ∃k,k<i∧K≤N+1+k∧(N+1+k - K)%K=j then v ((j+K - (N+1)%K)%K) else 0:=by
 intro i j hi hj
 have inv: ∀k,k<K→K≤N+1+k→(N+1+k - K)%K=j→k=(j+K - (N+1)%K)%K:=by
  intro k hk h1 h2
  have e1:(N+1+k)%K=j:=by
   rw [←h2]
   have:N+1+k=(N+1+k - K)+K:=by omega
   rw [this,Nat.add_mod_right,Nat.add_sub_cancel]
  have h3:=Nat.mod_lt (N+1) (show 0<K by omega)
  have h4:(N+1+k)%K=((N+1)%K+k)%K:=by rw [Nat.add_mod,Nat.mod_eq_of_lt hk]
  rw [h4] at e1
  generalize (N+1)%K=a at *
  by_cases c:a+k<K
  ·rw [Nat.mod_eq_of_lt c] at e1
   have:j+K - a=k+K:=by omega
   rw [this,Nat.add_mod_right,Nat.mod_eq_of_lt hk]
  ·have e2:(a+k)%K=a+k - K:=by
    have:a+k=(a+k - K)+K:=by omega
    rw [this,Nat.add_mod_right,Nat.mod_eq_of_lt (by omega),Nat.add_sub_cancel]
   rw [e2] at e1
   have:j+K - a=k:=by omega
   rw [this,Nat.mod_eq_of_lt hk]
 induction i with
 |zero=>rw [if_neg (by rintro ⟨k,h,_⟩;omega)];rfl
 |succ i ih=>
  have ih:=ih (by omega)
  rw [bkG]
  by_cases c:K≤N+1+i
  ·rw [if_pos c]
   by_cases e:(N+1+i - K)%K=j
   ·have z:bkG K N v i j=0:=by
     rw [ih,if_neg]
     rintro ⟨k,h1,h2,h3⟩
     have a:=inv k (by omega) h2 h3
     have b:=inv i (by omega) c e
     omega
    unfold upd
    rw [if_pos e.symm,e,z,if_pos ⟨i,by omega,c,e⟩,←inv i (by omega) c e,Nat.zero_add]
   ·unfold upd
    rw [if_neg (fun q=>e q.symm),ih]
    by_cases q: ∃k,k<i∧K≤N+1+k∧(N+1+k - K)%K=j
    ·obtain ⟨k,h1,h2⟩:=q
     rw [if_pos ⟨k,h1,h2⟩,if_pos ⟨k,by omega,h2⟩]
    ·rw [if_neg q,if_neg]
     rintro ⟨k,h1,h2,h3⟩
     by_cases g:k=i
     ·subst g;exact e h3
     ·exact q ⟨k,by omega,h2,h3⟩
  ·rw [if_neg c,ih]
   by_cases q: ∃k,k<i∧K≤N+1+k∧(N+1+k - K)%K=j
   ·obtain ⟨k,h1,h2⟩:=q
    rw [if_pos ⟨k,h1,h2⟩,if_pos ⟨k,by omega,h2⟩]
   ·rw [if_neg q,if_neg]
    rintro ⟨k,h1,h2,h3⟩
    by_cases g:k=i
    ·subst g;exact c h2
    ·exact q ⟨k,by omega,h2,h3⟩
theorem bkI_bkG {K N:Nat} {v:Nat→Nat} (hK:1≤K) {i:Nat} (hi:i<K):bkI K N (bkG K N v K) i=if K≤N+1+i then v i else 0:=by
 unfold bkI
 by_cases c:K≤N+1+i
 ·rw [if_pos c,if_pos c]
  have hj:=Nat.mod_lt (N+1+i - K) (show 0<K by omega)
  have ex: ∃k,k<K∧K≤N+1+k∧(N+1+k - K)%K=(N+1+i - K)%K:=⟨i,hi,c,rfl⟩
  rw [bkG_at hK (Nat.le_refl _) hj,if_pos ex]
  congr 1
  have e1:(N+1+i)%K=(N+1+i - K)%K:=by
   have:N+1+i=(N+1+i - K)+K:=by omega
   rw [this,Nat.add_mod_right,Nat.add_sub_cancel]
  rw [←e1]
  have h3:=Nat.mod_lt (N+1) (show 0<K by omega)
  have h4:(N+1+i)%K=((N+1)%K+i)%K:=by rw [Nat.add_mod,Nat.mod_eq_of_lt hi]
  rw [h4]
  generalize (N+1)%K=a at *
  by_cases g:a+i<K
  ·rw [Nat.mod_eq_of_lt g]
   have:a+i+K - a=i+K:=by omega
   rw [this,Nat.add_mod_right,Nat.mod_eq_of_lt hi]
  ·have e2:(a+i)%K=a+i - K:=by
    have:a+i=(a+i - K)+K:=by omega
    rw [this,Nat.add_mod_right,Nat.mod_eq_of_lt (by omega),Nat.add_sub_cancel]
   rw [e2]
   have:a+i - K+K - a=i:=by omega
   rw [this,Nat.mod_eq_of_lt hi]
 ·rw [if_neg c,if_neg c]
theorem getN_bytes {b r:List UInt8} {v:Nat} (h:getN (some b)=(some r,v)):b=numB v++r:=by
 rcases b with _|⟨k,s⟩
 ·simp [getN] at h
 ·simp only [getN] at h
  split at h
  ·rename_i c
   obtain ⟨c1,c2,c3⟩:=c
   simp only [Prod.mk.injEq,Option.some.injEq] at h
   obtain ⟨h1,h2⟩:=h
   have key: ∀(t:List UInt8),t.length≤8→ ¬(0<t.length∧t.headD 1=0)→sz8 (numOf t)=t.length∧be t.length (numOf t)=t:=by
    intro t ht hz
    have hb: ∀t:List UInt8,be t.length (numOf t)=t:=by
     intro t
     induction t with
     |nil=>rfl
     |cons a t ih=>
      have hlt:=numOf_lt t
      have ha:=a.toNat_lt
      rw [List.length_cons,be,numOf_cons]
      have e1:(a.toNat*256^t.length+numOf t) / 256^t.length=a.toNat:=by
       rw [Nat.mul_comm,Nat.mul_add_div (by exact Nat.pow_pos (by omega)),Nat.div_eq_of_lt hlt,Nat.add_zero]
      have e2:be t.length (a.toNat*256^t.length+numOf t)=be t.length (numOf t):=by
       have bm: ∀k m n,m%256^k=n%256^k→be k m=be k n:=by
        intro k m n h
        have h1:=numOf_be k m
        have h2:=numOf_be k n
        clear h1 h2
        induction k with
        |zero=>rfl
        |succ k ih=>
         have a1:m%256^k=n%256^k:=by
          have:=congrArg (· %256^k) h
          simp only [Nat.pow_succ,Nat.mod_mul_right_mod] at this
          exact this
         have a2:m / 256^k%256=n / 256^k%256:=by
          have:=congrArg (· / 256^k) h
          simp only [Nat.pow_succ,Nat.mod_mul_right_div_self] at this
          exact this
         rw [be,be,ih a1]
         congr 1
         apply UInt8.toNat_inj.1
         simpa using a2
       refine bm _ _ _ ?_
       rw [Nat.mul_comm,Nat.mul_add_mod]
      rw [e1,e2,ih]
      simp
    refine ⟨?_,hb t⟩
    obtain ⟨b1,b2⟩:=sz8_bounds (numOf t)
    have hle:sz8 (numOf t)≤t.length:=sz8_le _ _ (numOf_lt t)
    rcases t with _|⟨a,t⟩
    ·simpa using hle
    ·have hz':a≠0:=by
      intro e;exact hz ⟨by simp,by simp [e]⟩
     have ha:1≤a.toNat:=by
      rcases Nat.eq_zero_or_pos a.toNat with q|q
      ·exact absurd (UInt8.toNat_inj.1 (by simpa using q)) hz'
      ·exact q
     have hge:256^t.length≤numOf (a::t):=by
      rw [numOf_cons]
      exact Nat.le_trans (Nat.le_mul_of_pos_left _ ha) (Nat.le_add_right _ _)
     rw [List.length_cons] at hle ⊢
     rcases Nat.lt_or_ge (sz8 (numOf (a::t))) (t.length+1) with q|q
     ·exfalso
      have:=Nat.pow_le_pow_right (show 0<256 by omega) (show sz8 (numOf (a::t))≤t.length by omega)
      omega
     ·omega
   have tl:(s.take k.toNat).length=k.toNat:=by simp;omega
   have hd:(s.take k.toNat).headD 1=if 0<k.toNat then s.headD 1 else 1:=by
    rcases s with _|⟨a,s⟩
    ·simp
    ·by_cases q:0<k.toNat
     ·rw [if_pos q]
      obtain ⟨m,hm⟩: ∃m,k.toNat=m+1:=⟨k.toNat - 1,by omega⟩
      rw [hm];rfl
     ·rw [if_neg q]
      have:k.toNat=0:=by omega
      rw [this];rfl
   have kk:=key (s.take k.toNat) (by omega) (by
    rintro ⟨q1,q2⟩
    rw [tl] at q1
    rw [hd,if_pos q1] at q2
    exact c3 ⟨q1,q2⟩)
   rw [tl,h2] at kk
   obtain ⟨k1,k2⟩:=kk
   unfold numB
   rw [k1,k2,←h1,List.cons_append,List.take_append_drop]
   congr 1
   simp
  ·simp at h
end Go.Ai
