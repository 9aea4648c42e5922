/- P4: a part of the proof: the rules, or what functions compute. Conditions: as each theorem says. -/
import Derived.Test.YtidcomakahbepaaGreatDoorP2
import Derived.Test.YtidcomakahbepaaGreatDoorP3
import Derived.Test.YtidcomakahbepaaGreatDoorP1
import Derived.Test.YtidcomakahbepaaGreatDoorAiUse
import Derived.Test.YtidcomakahbepaaGreatDoorAiExt
set_option linter.unusedSimpArgs false
set_option linter.unusedVariables false
set_option maxRecDepth 20000
namespace Go.Ai
open Go.Proofs Go.RowKit
theorem onA_mk {P:Program} {GL:List (Nat×List Value)} {K:St→Prop} {σ:St} {f d:Nat} {s:Option X} {ps:List X} (k:Nat) (out:List (List AV)) (h:caS (SpH P GL) f σ s ps k out) (hk:K (caSt d s (.sl out) k σ)):onA (SpH P GL) f d s ps K σ:=⟨k,out,h,hk⟩
theorem wnum_spec (l:List UInt8) (n:Nat) (hl:l.length≤1000000) (hn:n<18446744073709551616) (d:Nat):
  SpH Tryz.prog gl 83 d ⟨[.sl (byteRows l),u n],[],[(.s 0,1)]⟩ ⟨.sl (byteRows (l++numB n)),[],[(.s 0,1)]⟩:=by
 refine h83 rfl ?_
 have P:=appS_mk (fun d=>put_spec l n hl hn d)
 generalize byteRows (l++numB n)=R at *
 generalize byteRows l=A at *
 simp only [inSt,mpL,mpB,mpP,AV.mp]
 simp -implicitDefEqProofs [c83]
 refine onA_mk 1 R ?_ ?_
 ·simp [caS]
  exact P
 ·simp [caSt]
  refine postH_r ⟨?_,?_,?_,?_,?_,?_⟩<;>simp -implicitDefEqProofs
theorem wflag_spec (l:List UInt8) (f:Bool) (hl:l.length≤5000000) (d:Nat):
  SpH Tryz.prog gl 82 d ⟨[.sl (byteRows l),.bool f],[],[(.s 0,1)]⟩ ⟨.sl (byteRows (l++flagB f)),[],[(.s 0,1)]⟩:=by
 refine h82 rfl ?_
 have hlim:lim=140737488355328:=rfl
 have one:=byteRows_one l
 have bl:=byteRows_len l
 have q1:l.length+1≤140737488355328:=by omega
 have e:byteRows (l++flagB f)=byteRows l++[[.int .u8 (if f=true then 1 else 0)]]:=by rw [byteRows_app];cases f<;>rfl
 rw [e]
 generalize byteRows l=A at *
 simp only [inSt,mpL,mpB,mpP,AV.mp]
 cases f
 ·simp [c82,hlim,bl,q1]
  refine ⟨one,postH_r ⟨?_,?_,?_,?_,?_,?_⟩⟩<;>simp -implicitDefEqProofs
 ·simp [c82,hlim,bl,q1]
  refine ⟨one,postH_r ⟨?_,?_,?_,?_,?_,?_⟩⟩<;>simp -implicitDefEqProofs
open Go.Proofs
def bkS (K N:Nat) (f:Nat→Nat) (k i:Nat):Nat:=if i<k then bkI K N f i else 0
theorem bkS_next (K N:Nat) (f:Nat→Nat) (k:Nat):bkS K N f (k+1)=upd (bkS K N f k) k (bkI K N f k):=by
 funext i
 show (if i<k+1 then bkI K N f i else 0)=if i=k then bkI K N f k else if i<k then bkI K N f i else 0
 by_cases c:i=k
 ·rw [if_pos c,if_pos (by omega),c]
 ·rw [if_neg c]
  by_cases c2:i<k
  ·rw [if_pos c2,if_pos (by omega)]
  ·rw [if_neg c2,if_neg (by omega)]
theorem bkS_no (K N:Nat) (f:Nat→Nat) (k:Nat) (h: ¬K≤N+1+k):bkS K N f (k+1)=bkS K N f k:=by
 funext i
 show (if i<k+1 then bkI K N f i else 0)=if i<k then bkI K N f i else 0
 by_cases c2:i<k
 ·rw [if_pos c2,if_pos (by omega)]
 ·rw [if_neg c2]
  by_cases c:i=k
  ·rw [if_pos (by omega),c];unfold bkI;rw [if_neg h]
  ·rw [if_neg (by omega)]
theorem rgbuckets_spec (R B:Id) (h:Pr2 R B) (K w N t g s:Nat) (f q:Nat→Nat) (hK:1≤K) (hK2:K≤60) (hN:N≤253402300799) (d:Nat) (hd:R.isNw d=false):
  SpH Tryz.prog gl 131 d ⟨[.ptr R 0],[(R,rgL B K w N t g s),(B,cellsF K f q)],[]⟩ ⟨.ms (.nw d (.n 13)) 0 K 2,[(R,rgL B K w N t g s),(B,cellsF K f q),(.nw d (.n 13),cellsF K (bkI K N f) (bkI K N q))],[]⟩:=by
 refine h131 rfl ?_
 have hi:=inn_notNw hd
 have hdB:B.isNw d=false:=by rw [←h.nw];exact hd
 have hiB:=inn_notNw hdB
 have r1:=h.ri
 have r2:=h.bi
 have ne:=h.ne
 have ne':B≠R:=fun e=>h.ne e.symm
 have nR: ¬R= .nw d (.n 13):=fun e=>by rw [e] at hd;simp [Id.isNw,Id.isUp] at hd
 have nB: ¬B= .nw d (.n 13):=fun e=>by rw [e] at hdB;simp [Id.isNw,Id.isUp] at hdB
 have AT:=fun n (hn:n<9223372036854775808) e he=>rat_spec (.up R) (.up B) h.up K w N t g s n hK hn e he
 have x0:=fun j (hj:j<K)=>cellsF_get (f:=f) (g:=q) hj
 have lx:=cellsF_len K f q
 have ix:=mpL_noids (f:=Id.up) (cellsF_ids K f q)
 have hx:=cellsF_ids K f q
 have Cl:=fun k=>cellsF_len K (bkS K N f k) (bkS K N q k)
 have Ci:=fun k=>cellsF_ids K (bkS K N f k) (bkS K N q k)
 have Cn:=fun k (hk:k<K)=>cellsF_upd (K:=K) (f:=bkS K N f k) (g:=bkS K N q k) (j:=k) (a:=bkI K N f k) (b:=bkI K N q k) hk
 have Cs: ∀k,cellsF K (upd (bkS K N f k) k (bkI K N f k)) (upd (bkS K N q k) k (bkI K N q k))=cellsF K (bkS K N f (k+1)) (bkS K N q (k+1)):=fun k=>by rw [bkS_next,bkS_next]
 have Cno: ∀k,¬K≤N+1+k→cellsF K (bkS K N f (k+1)) (bkS K N q (k+1))=cellsF K (bkS K N f k) (bkS K N q k):=fun k hk=>by rw [bkS_no _ _ _ _ hk,bkS_no _ _ _ _ hk]
 have C0:cellsF K (bkS K N f 0) (bkS K N q 0)=(List.replicate K [AV.int .u64 0,AV.int .u64 0]).flatten:=by
  rw [←bkC_zero K 1 0]
  unfold bkC
  exact cellsF_congr fun j hj=>⟨rfl,rfl⟩
 have CK:cellsF K (bkS K N f K) (bkS K N q K)=cellsF K (bkI K N f) (bkI K N q):=cellsF_congr fun j hj=>⟨by unfold bkS;rw [if_pos hj],by unfold bkS;rw [if_pos hj]⟩
 rw [←CK]
 simp only [rgL,inSt,mpL,mpB,mpP,AV.mp,ix]
 simp only [rgL] at AT
 simp only [Cs] at Cn
 obtain ⟨C,hC⟩: ∃C:Nat→List AV,C=fun k=>cellsF K (bkS K N f k) (bkS K N q k):=⟨_,rfl⟩
 have hCn: ∀k,cellsF K (bkS K N f k) (bkS K N q k)=C k:=fun k=>by rw [hC]
 simp only [hCn] at Cl Ci Cn Cno C0 ⊢
 clear hC hCn Cs CK
 generalize hX:cellsF K f q=X at *
 have hlim:lim=140737488355328:=rfl
 have q1:(0:Int)≤K:=by omega
 have q2:(K:Int)*16≤140737488355328:=by omega
 have q3:K*16≤140737488355328:=by omega
 simp -implicitDefEqProofs [c131,hlim,q1,q2,q3]
 rw [←C0]
 refine wp_lpk (α:=Nat) (fun k=>⟨[(0,.ptr (.up R) 0),(3,.ms (.n 13) 0 K 2),(15,i6 K),(16,i6 k)],[(.n 13,C k),(.up R,[i6 w,.ms (.up B) 0 K 2,i6 N,i6 t,u g,u s]),(.up B,X)],[]⟩) (fun k=>k≤K) (fun k=>K - k) ?_ 0 ?_ ?_
 ·intro K' k hK' k1
  by_cases c:k<K
  ·have c':(k:Int)<K:=by omega
   have w1:IntKind.i64.wrap ((k:Int)+1)=(k+1:Nat):=by rw [wrap_i64]<;>omega
   have t1:IntKind.i64.wrap ((K:Int) - 1)=(K:Int) - 1:=by rw [wrap_i64]<;>omega
   have t2:IntKind.i64.wrap ((K:Int) - 1 - k)=(K:Int) - 1 - k:=by rw [wrap_i64]<;>omega
   have t3:IntKind.i64.wrap ((N:Int) - ((K:Int) - 1 - k))=(N:Int) - ((K:Int) - 1 - k):=by rw [wrap_i64]<;>omega
   have fin:=fun σ' hσ=>hK' (k+1) σ' (by omega) (by omega) hσ
   clear hK' C0
   by_cases g1:K≤N+1+k
   ·have g2:0≤(N:Int) - ((K:Int) - 1 - k):=by omega
    have g4:(K:Int) - 1 - k≤N:=by omega
    have g3:(N:Int) - ((K:Int) - 1 - k)=(N+1+k - K:Nat):=by omega
    have A:=AT (N+1+k - K) (by omega)
    have hm:=Nat.mod_lt (N+1+k - K) (show 0<K by omega)
    obtain ⟨y0,y1⟩:=x0 ((N+1+k - K)%K) hm
    have e1:=Cn k c
    have l1:=Cl k
    have hid:=Ci (k+1)
    have b1:bkI K N f k=f ((N+1+k - K)%K):=by unfold bkI;rw [if_pos g1]
    have b2:bkI K N q k=q ((N+1+k - K)%K):=by unfold bkI;rw [if_pos g1]
    rw [b1,b2] at e1
    have e1:=e1.symm
    have tk2:List.take 2 (List.drop ((N+1+k - K)%K*2) X)=[u (f ((N+1+k - K)%K)),u (q ((N+1+k - K)%K))]:=by
     have h1:(N+1+k - K)%K*2<X.length:=by omega
     have h2:(N+1+k - K)%K*2+1<X.length:=by omega
     rw [List.drop_eq_getElem_cons h1,List.drop_eq_getElem_cons h2]
     rw [List.getElem?_eq_getElem h1] at y0
     rw [List.getElem?_eq_getElem h2] at y1
     rw [Option.some.inj y0,Option.some.inj y1]
     rfl
    have hl2:(N+1+k - K)%K*2+2≤X.length:=by omega
    have hl3:k*2+2≤(C k).length:=by omega
    clear AT Cn Cl Ci Cno x0 hm y0 y1 b1 b2
    generalize (N+1+k - K)%K*2=off at *
    generalize f ((N+1+k - K)%K)=v1 at *
    generalize q ((N+1+k - K)%K)=v2 at *
    generalize C (k+1)=Y at *
    generalize C k=Z at *
    rw [←g3] at A
    simp -implicitDefEqProofs [c,c',ne,ne',t1,t2,t3,g2,g4]
    refine onH_mk _ _ (A _ rfl) ⟨?_,?_,?_,?_,?_,?_,?_⟩ ?_
    iterate 7 (· simp [ne,ne'])
    simp -implicitDefEqProofs [ne,ne',tk2,hl2,hl3,c,c',e1]
    refine fin _ ?_
    refine weak_mk ?_ ?_ ?_ ?_ ?_ ?_<;>simp -implicitDefEqProofs [ne,ne',w1,hid,hx]
   ·have g2: ¬0≤(N:Int) - ((K:Int) - 1 - k):=by omega
    have g4: ¬(K:Int) - 1 - k≤N:=by omega
    have e1:=Cno k g1
    have hid:=Ci (k+1)
    clear AT Cn Cl Ci Cno x0
    rw [e1] at fin hid
    generalize C k=Z at *
    simp -implicitDefEqProofs [c,c',ne,ne',t1,t2,t3,g2,g4]
    refine fin _ ?_
    refine weak_mk ?_ ?_ ?_ ?_ ?_ ?_<;>simp -implicitDefEqProofs [ne,ne',w1,hid,hx]
  ·obtain rfl:k=K:=by omega
   have hid:=Ci k
   have iz:=fun f'=>mpL_noids (f:=f') hid
   have ix2:=fun f'=>mpL_noids (f:=f') hx
   clear hK' AT Cn Cl Ci Cno x0
   simp -implicitDefEqProofs [ne,ne']
   refine postH_r ⟨?_,?_,?_,?_,?_,?_⟩<;>simp -implicitDefEqProofs [hi,hiB,r1,r2,hd,hdB,ne,ne',hid,hx,iz,ix2,nR,nB]
 ·exact Nat.zero_le _
 ·have hid:=Ci 0
  refine weak_mk ?_ ?_ ?_ ?_ ?_ ?_<;>simp -implicitDefEqProofs [ne,ne',hid,hx]
open Go.Proofs
theorem cellsF_two {K:Nat} {f g:Nat→Nat} {j:Nat} (h:j<K):((cellsF K f g).drop (j*2)).take 2=[u (f j),u (g j)]:=by
 obtain ⟨y0,y1⟩:=cellsF_get (f:=f) (g:=g) h
 have l:=cellsF_len K f g
 have h1:j*2<(cellsF K f g).length:=by omega
 have h2:j*2+1<(cellsF K f g).length:=by omega
 rw [List.drop_eq_getElem_cons h1,List.drop_eq_getElem_cons h2]
 rw [List.getElem?_eq_getElem h1] at y0
 rw [List.getElem?_eq_getElem h2] at y1
 rw [Option.some.inj y0,Option.some.inj y1]
 rfl
theorem rgput_spec (R B:Id) (h:Pr2 R B) (K w N t g s:Nat) (f q:Nat→Nat) (hK:1≤K) (hK2:K≤60) (hN:N≤253402300799) (hf: ∀i,i<K→bkI K N f i<18446744073709551616∧bkI K N q i<18446744073709551616) (l:List UInt8) (hl:l.length≤900000) (d:Nat) (hd:R.isNw d=false):
  SpH Tryz.prog gl 84 d ⟨[.ptr R 0,.sl (byteRows l)],[(R,rgL B K w N t g s),(B,cellsF K f q)],[(.s 1,1)]⟩ ⟨.sl (byteRows (l++cntB (bkI K N f) (bkI K N q) K)),[(R,rgL B K w N t g s),(B,cellsF K f q)],[(.s 0,1)]⟩:=by
 refine h84 rfl ?_
 have hi:=inn_notNw hd
 have hdB:B.isNw d=false:=by rw [←h.nw];exact hd
 have hiB:=inn_notNw hdB
 have r1:=h.ri
 have r2:=h.bi
 have ne:=h.ne
 have ne':B≠R:=fun e=>h.ne e.symm
 have BU:=rgbuckets_spec (.up R) (.up B) h.up K w N t g s f q hK hK2 hN 8 rfl
 have hx:=cellsF_ids K f q
 have ix:=fun f'=>mpL_noids (f:=f') hx
 have cx:=cellsF_ids K (bkI K N f) (bkI K N q)
 have cl:=cellsF_len K (bkI K N f) (bkI K N q)
 have c2:=fun j (hj:j<K)=>cellsF_two (f:=bkI K N f) (g:=bkI K N q) hj
 have sl:=fun k (hk:k≤K)=>cntB_len (n:=k) (f:=bkI K N f) (g:=bkI K N q) (fun i hi=>hf i (by omega))
 have P1:=fun k (hk:k<K)=>appS_mk (fun e=>wnum_spec (l++cntB (bkI K N f) (bkI K N q) k) (bkI K N f k) (by have:=sl k (by omega);rw [List.length_append];omega) (hf k hk).1 e)
 have P2:=fun k (hk:k<K)=>appS_mk (fun e=>wnum_spec ((l++cntB (bkI K N f) (bkI K N q) k)++numB (bkI K N f k)) (bkI K N q k) (by
  have:=sl k (by omega)
  have:=numB_len _ (hf k hk).1
  rw [List.length_append,List.length_append];omega) (hf k hk).2 e)
 have e3: ∀k,byteRows (((l++cntB (bkI K N f) (bkI K N q) k)++numB (bkI K N f k))++numB (bkI K N q k))=byteRows (l++cntB (bkI K N f) (bkI K N q) (k+1)):=fun k=>by
  rw [cntB];simp only [List.append_assoc]
 simp only [e3] at P2
 have e0:byteRows l=byteRows (l++cntB (bkI K N f) (bkI K N q) 0):=by rw [cntB,List.append_nil]
 rw [e0]
 obtain ⟨Q,hQ⟩: ∃Q:Nat→List (List AV),Q=fun k=>byteRows (l++cntB (bkI K N f) (bkI K N q) k):=⟨_,rfl⟩
 have hQk: ∀k,byteRows (l++cntB (bkI K N f) (bkI K N q) k)=Q k:=fun k=>by rw [hQ]
 simp only [hQk] at P1 P2 ⊢
 clear hQ hQk e3 e0 sl
 simp only [rgL,inSt,mpL,mpB,mpP,AV.mp,ix,Pl.mp]
 simp only [rgL] at BU
 generalize cellsF K f q=X at *
 generalize cellsF K (bkI K N f) (bkI K N q)=C at *
 simp -implicitDefEqProofs [c84]
 refine onH_mk _ _ (BU) ⟨?_,?_,?_,?_,?_,?_,?_⟩ ?_
 iterate 7 (· simp [ne,ne',hx])
 simp -implicitDefEqProofs [ne,ne']
 refine wp_lpk (α:=Nat) (fun k=>⟨[(1,.sl (Q k)),(8,.ms (.nw 8 (.n 13)) 0 K 2),(9,i6 K),(10,i6 k)],[(.nw 8 (.n 13),C),(.up R,[i6 w,.ms (.up B) 0 K 2,i6 N,i6 t,u g,u s]),(.up B,X)],[(.s 1,1)]⟩) (fun k=>k≤K) (fun k=>K - k) ?_ 0 ?_ ?_
 ·intro K' k hK' k1
  by_cases c:k<K
  ·have c':(k:Int)<K:=by omega
   have w1:IntKind.i64.wrap ((k:Int)+1)=(k+1:Nat):=by rw [wrap_i64]<;>omega
   have fin:=fun σ' hσ=>hK' (k+1) σ' (by omega) (by omega) hσ
   have t2:=c2 k c
   have P1k:=P1 k c
   have P2k:=P2 k c
   have l2:k*2+2≤C.length:=by omega
   clear hK' c2 P1 P2
   generalize bkI K N f k=v1 at *
   generalize bkI K N q k=v2 at *
   generalize byteRows ((l++cntB (bkI K N f) (bkI K N q) k)++numB v1)=M1 at *
   simp -implicitDefEqProofs [c,c',ne,ne',t2,l2]
   refine onA_mk 1 M1 ?_ ?_
   ·simp [caS]
    exact P1k
   simp -implicitDefEqProofs [caSt]
   refine onA_mk 1 (Q (k+1)) ?_ ?_
   ·simp [caS]
    exact P2k
   simp -implicitDefEqProofs [caSt]
   refine fin _ ?_
   refine weak_mk ?_ ?_ ?_ ?_ ?_ ?_<;>simp -implicitDefEqProofs [ne,ne',w1,cx,hx]
  ·obtain rfl:k=K:=by omega
   clear hK' c2 P1 P2
   simp -implicitDefEqProofs [ne,ne']
   refine postH_r ⟨?_,?_,?_,?_,?_,?_⟩<;>simp -implicitDefEqProofs [hi,hiB,r1,r2,hd,hdB,ne,ne',hx,ix]
 ·exact Nat.zero_le _
 ·refine weak_mk ?_ ?_ ?_ ?_ ?_ ?_<;>simp -implicitDefEqProofs [ne,ne',cx,hx]
end Go.Ai
namespace Go.Ai
open Go.Proofs

def bl (l:List Bool):AV:= .sl (l.map fun b=>[.bool b])
def val:List Bool→Nat
 |[]=>0
 |b::r=>b.toNat+2*val r
open Go.Proofs
end Go.Ai
