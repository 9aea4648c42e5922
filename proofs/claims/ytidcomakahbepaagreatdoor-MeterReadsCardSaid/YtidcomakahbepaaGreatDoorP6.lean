/- P6: a part of the proof: the rules, or what functions compute. Conditions: as each theorem says. -/
import Derived.Test.YtidcomakahbepaaGreatDoorP5
set_option linter.unusedSimpArgs false
set_option linter.unusedVariables false
set_option maxRecDepth 20000
namespace Go.Ai
open Go.Proofs Go.RowKit
def rsLe (st:RS) (n:Nat):Prop:= ∀b,st=some b→b.length≤n
theorem getN_le {st:RS} {n:Nat} (h:rsLe st n):rsLe (getN st).1 n:=by
 intro b hb
 rcases st with _|s
 ·cases hb
 ·rcases s with _|⟨k,r⟩
  ·cases hb
  ·have:=h _ rfl
   simp only [getN] at hb
   split at hb
   ·cases hb;simp at this ⊢;omega
   ·cases hb
theorem flagN_le {st:RS} {n:Nat} (h:rsLe st n):rsLe (flagN st).1 n:=by
 intro b hb
 rcases st with _|s
 ·cases hb
 ·rcases s with _|⟨k,r⟩
  ·cases hb
  ·have:=h _ rfl
   simp only [flagN] at hb
   split at hb
   ·cases hb;simp at this ⊢;omega
   ·cases hb
theorem rdv_ids (st:RS):idsL (rdv st)=[]:=by cases st<;>rfl
theorem rdv_mp (st:RS) (f:Id→Id):mpL f (rdv st)=rdv st:=mpL_noids (rdv_ids st)
theorem wNum_spec (st:RS) (hl:rsLe st 1000000) (d:Nat) (c:Id) (hc:c.isIt=false) (hd:c.isNw d=false):
  SpH Tryz.prog gl 77 d ⟨[.ptr c 0],[(c,rdv st)],[]⟩ ⟨u (getN st).2,[(c,rdv (getN st).1)],[]⟩:=by
 refine h77 rfl ?_
 have hi:=inn_notNw hd
 have G:=wget_spec st hl 7 (.up c) hc rfl
 have i1:=rdv_ids st
 have i2:=rdv_ids (getN st).1
 have m1:=rdv_mp st
 have m2:=rdv_mp (getN st).1
 generalize rdv (getN st).1=B2 at *
 generalize rdv st=B1 at *
 generalize (getN st).2=n at *
 simp only [inSt,mpL,mpB,mpP,AV.mp,m1]
 simp -implicitDefEqProofs [c77]
 refine onH_mk _ _ G ⟨?_,?_,?_,?_,?_,?_,?_⟩ ?_
 iterate 7 (· simp)
 simp -implicitDefEqProofs
 refine postH_r ⟨?_,?_,?_,?_,?_,?_⟩<;>simp -implicitDefEqProofs [hi,hc,i2,m2]
theorem wCountM_spec (st:RS) (hl:rsLe st 1000000) (d:Nat) (c:Id) (hc:c.isIt=false) (hd:c.isNw d=false):
  SpH Tryz.prog gl 121 d ⟨[.ptr c 0,i6 (-1)],[(c,rdv st)],[]⟩ ⟨i6 0,[(c,rdv none)],[]⟩:=by
 refine h121 rfl ?_
 have hi:=inn_notNw hd
 have G:=wNum_spec st hl 7 (.up c) hc rfl
 have F:=wfail_spec (getN st).1 17 (.up c) hc rfl
 have i1:=rdv_ids st
 have i2:=rdv_ids (getN st).1
 have m1:=rdv_mp st
 have m2:=rdv_mp (getN st).1
 simp only [show rdv none=[.sl [],.bool true] from rfl] at F ⊢
 generalize rdv (getN st).1=B2 at *
 generalize rdv st=B1 at *
 generalize (getN st).2=n at *
 simp only [inSt,mpL,mpB,mpP,AV.mp,m1]
 simp -implicitDefEqProofs [c121]
 refine onH_mk _ _ G ⟨?_,?_,?_,?_,?_,?_,?_⟩ ?_
 iterate 7 (· simp)
 simp -implicitDefEqProofs
 refine onH_mk _ _ F ⟨?_,?_,?_,?_,?_,?_,?_⟩ ?_
 iterate 7 (· simp)
 simp -implicitDefEqProofs
 refine postH_r ⟨?_,?_,?_,?_,?_,?_⟩<;>simp -implicitDefEqProofs [hi,hc]
end Go.Ai
namespace Go.Ai
open Go.Proofs Go.RowKit
theorem wFlag_spec (st:RS) (hl:rsLe st 1000000) (d:Nat) (c:Id) (hc:c.isIt=false) (hd:c.isNw d=false):
  SpH Tryz.prog gl 76 d ⟨[.ptr c 0],[(c,rdv st)],[]⟩ ⟨.bool (flagN st).2,[(c,rdv (flagN st).1)],[]⟩:=by
 refine h76 rfl ?_
 have hi:=inn_notNw hd
 have T:=wtake_spec st 1 hl (by omega) 7 (.up c) hc rfl
 rcases st with _|s
 ·have F:=wfail_spec none 19 (.up c) hc rfl
  simp only [takeN,flagN,rdv] at *
  simp -implicitDefEqProofs [c76]
  refine onH_mk _ _ T ⟨?_,?_,?_,?_,?_,?_,?_⟩ ?_
  iterate 7 (· simp)
  simp -implicitDefEqProofs
  refine onH_mk _ _ F ⟨?_,?_,?_,?_,?_,?_,?_⟩ ?_
  iterate 7 (· simp)
  simp -implicitDefEqProofs
  refine postH_r ⟨?_,?_,?_,?_,?_,?_⟩<;>simp -implicitDefEqProofs [hi,hc]
 rcases s with _|⟨k,r⟩
 ·have F:=wfail_spec none 19 (.up c) hc rfl
  simp only [takeN,flagN,rdv] at *
  simp -implicitDefEqProofs [c76]
  refine onH_mk _ _ T ⟨?_,?_,?_,?_,?_,?_,?_⟩ ?_
  iterate 7 (· simp)
  simp -implicitDefEqProofs
  refine onH_mk _ _ F ⟨?_,?_,?_,?_,?_,?_,?_⟩ ?_
  iterate 7 (· simp)
  simp -implicitDefEqProofs
  refine postH_r ⟨?_,?_,?_,?_,?_,?_⟩<;>simp -implicitDefEqProofs [hi,hc]
 ·have e1:takeN (some (k::r)) 1=(some r,[k]):=by simp [takeN]
  rw [e1] at T
  have F:=wfail_spec (some r) 19 (.up c) hc rfl
  have k1:(k==1)=((k.toNat:Int)==1):=by
   rw [Bool.eq_iff_iff]
   simp only [beq_iff_eq]
   constructor
   ·rintro rfl;rfl
   ·intro e;exact UInt8.toNat.inj (by rw [show k.toNat=1 by omega];rfl)
  simp only [rdv,Option.isSome_some] at T F
  rw [show byteRows [k]=[[.int .u8 k.toNat]] from rfl] at T
  by_cases g:k.toNat≤1
  ·have g': ¬(1:Int)<k.toNat:=by omega
   have g2: ¬1<k.toNat:=by omega
   simp only [flagN,g,if_true,rdv,k1]
   generalize k.toNat=kk at *
   generalize byteRows r=B3 at *
   generalize byteRows (k::r)=B4 at *
   simp -implicitDefEqProofs [c76]
   refine onH_mk _ _ T ⟨?_,?_,?_,?_,?_,?_,?_⟩ ?_
   iterate 7 (· simp)
   simp -implicitDefEqProofs [g',g2]
   refine postH_r ⟨?_,?_,?_,?_,?_,?_⟩<;>simp -implicitDefEqProofs [hi,hc]
  ·have g':(1:Int)<k.toNat:=by omega
   have g2:1<k.toNat:=by omega
   simp only [flagN,g,if_false,rdv]
   generalize k.toNat=kk at *
   generalize byteRows r=B3 at *
   generalize byteRows (k::r)=B4 at *
   simp -implicitDefEqProofs [c76]
   refine onH_mk _ _ T ⟨?_,?_,?_,?_,?_,?_,?_⟩ ?_
   iterate 7 (· simp)
   simp -implicitDefEqProofs [g',g2]
   refine onH_mk _ _ F ⟨?_,?_,?_,?_,?_,?_,?_⟩ ?_
   iterate 7 (· simp)
   simp -implicitDefEqProofs
   refine postH_r ⟨?_,?_,?_,?_,?_,?_⟩<;>simp -implicitDefEqProofs [hi,hc]
def leftN:RS→Nat
 |some b=>b.length
 |none=>0
theorem wLeft_spec (st:RS) (d:Nat) (c:Id) (hc:c.isIt=false) (hd:c.isNw d=false):
  SpH Tryz.prog gl 32 d ⟨[.ptr c 0],[(c,rdv st)],[]⟩ ⟨i6 (leftN st),[(c,rdv st)],[]⟩:=by
 refine h32 rfl ?_
 have hi:=inn_notNw hd
 have Bd:=wbad_spec st 4 (.up c) hc rfl
 cases st with
 |none=>
  simp only [rdv,leftN] at *
  simp -implicitDefEqProofs [c32]
  refine onH_mk _ _ Bd ⟨?_,?_,?_,?_,?_,?_,?_⟩ ?_
  iterate 7 (· simp)
  simp -implicitDefEqProofs
  refine postH_r ⟨?_,?_,?_,?_,?_,?_⟩<;>simp -implicitDefEqProofs [hi,hc]
 |some b=>
  have bl:=byteRows_len b
  simp only [rdv,leftN] at *
  generalize byteRows b=B at *
  simp -implicitDefEqProofs [c32]
  refine onH_mk _ _ Bd ⟨?_,?_,?_,?_,?_,?_,?_⟩ ?_
  iterate 7 (· simp)
  simp -implicitDefEqProofs [bl]
  refine postH_r ⟨?_,?_,?_,?_,?_,?_⟩<;>simp -implicitDefEqProofs [hi,hc]
theorem wNew_spec (b:List UInt8) (d:Nat):SpH Tryz.prog gl 28 d ⟨[.sl (byteRows b)],[],[]⟩ ⟨.ptr (.nw d (.n 5)) 0,[(.nw d (.n 5),rdv (some b))],[]⟩:=by
 refine h28 rfl ?_
 simp only [rdv]
 generalize byteRows b=B
 simp only [inSt,mpL,mpB,mpP,AV.mp]
 simp -implicitDefEqProofs [c28]
 refine postH_r ⟨?_,?_,?_,?_,?_,?_⟩<;>simp -implicitDefEqProofs
end Go.Ai
namespace Go.Ai
open Go.Proofs Go.RowKit
end Go.Ai
namespace Go.Ai
open Go.Proofs Go.RowKit
end Go.Ai
namespace Go.Ai
open Go.Proofs Go.RowKit
def gz:List AV:=[u 0,i6 0,.str [],.bool false]
def zeroR:AV:= .tup [.agg gz,i6 0,.bool false]
def numR (n nx:Nat):AV:= .tup [.agg [u n,i6 0,.str [],.bool false],i6 nx,.bool true]
def textR (B:List UInt8) (n nx:Nat):AV:=if n≤96∧n≤B.length - nx then .tup [.agg [u 0,i6 0,.str ((B.drop nx).take n),.bool false],i6 (nx+n:Nat),.bool true] else zeroR
def kindR (kd:Bool) (B:List UInt8) (n nx:Nat):AV:=if kd=true then numR n nx else textR B n nx
def knd (kd:Bool):Int:=if kd=true then 0 else 2
def mst (kd:Bool):Int:=if kd=true then 0 else 96
theorem rget_t10 (kd:Bool) (B:List UInt8) (hB:B.length≤1000000) (at_ k n nx:Nat) (ha:at_≤1000000) (hk:k≤8) (hnx:nx=at_+1+k) (hle:nx≤B.length) (hn:n<18446744073709551616) (e:List (Nat×AV)) (pm:List (Pl×Nat))
  (l0:lk e 0= .sl (byteRows B)) (l1:lk e 1=i6 at_) (l5:lk e 5= .ptr (.n 5) 0) (l6:lk e 6= .ptr (.n 6) 0) (l9:lk e 9= .ptr (.n 9) 0) (l10:lk e 10=i6 k) (l12:lk e 12=u n):
  wpA (SpH Tryz.prog gl) (AC.tl 10 c126) (postA [.ca 6 4,.t 7,.t 8] (kindR kd B n nx)) ⟨e,[(.n 9,gz),(.n 6,gz),(.n 5,[i6 (knd kd),i6 (mst kd)])],pm⟩:=by
 simp only [c126,AC.tl,gz]
 have t1:IntKind.i64.wrap ((at_:Int)+1)=(at_:Int)+1:=by rw [wrap_i64]<;>omega
 have t2:IntKind.i64.wrap ((at_:Int)+1+k)=(nx:Nat):=by rw [wrap_i64]<;>omega
 cases kd
 ·simp only [kindR,textR,knd,mst,Bool.false_eq_true,if_false]
  have t3:IntKind.u64.wrap 96=96:=by rw [wrap_u64]<;>omega
  have bl:=byteRows_len B
  have t4:IntKind.i64.wrap ((B.length:Int) - nx)=((B.length - nx:Nat):Int):=by rw [wrap_i64]<;>omega
  have t5:IntKind.u64.wrap ((B.length - nx:Nat):Int)=((B.length - nx:Nat):Int):=by rw [wrap_u64]<;>omega
  by_cases g1:n≤96
  ·have g1': ¬(96:Int)<n:=by omega
   have g1n: ¬96<n:=by omega
   by_cases g2:n≤B.length - nx
   ·rw [if_pos ⟨g1,g2⟩]
    have g2': ¬((B.length - nx:Nat):Int)<n:=by omega
    have g2n: ¬B.length - nx<n:=by omega
    have t6:IntKind.i64.wrap (n:Int)=n:=by rw [wrap_i64]<;>omega
    have t7:IntKind.i64.wrap ((nx:Int)+n)=((nx+n:Nat):Int):=by rw [wrap_i64]<;>omega
    have q1:(nx:Int)≤((nx+n:Nat):Int):=by omega
    have q2:((nx+n:Nat):Int)≤B.length:=by omega
    have sl:List.drop nx (List.take (nx+n) (byteRows B))=byteRows ((B.drop nx).take n):=by
     rw [byteRows_take,byteRows_drop,List.drop_take,Nat.add_sub_cancel_left]
    have rb:=rowBytes_of ((B.drop nx).take n)
    have one:=byteRows_one B
    generalize B.length - nx=lx at *
    generalize byteRows ((B.drop nx).take n)=R at *
    generalize (B.drop nx).take n=S at *
    generalize byteRows B=BR at *
    obtain ⟨nn,hnn⟩: ∃nn,nn=nx+n:=⟨_,rfl⟩
    rw [←hnn] at t7 q1 q2 sl ⊢
    simp -implicitDefEqProofs [l0,l1,l5,l6,l9,l10,l12,t1,t2,t3,bl,t4,t5,g1',g1n,g2',g2n,t6,t7,q1,q2,sl]
    refine ⟨one,?_⟩
    simp -implicitDefEqProofs [bytesA,rb,l6,l12,t6,t7]
   ·rw [if_neg (fun h=>g2 h.2)]
    have g2':((B.length - nx:Nat):Int)<n:=by omega
    have g2n:B.length - nx<n:=by omega
    generalize B.length - nx=lx at *
    generalize byteRows B=BR at *
    simp -implicitDefEqProofs [l0,l1,l5,l6,l9,l10,l12,t1,t2,t3,bl,t4,t5,g1',g1n,g2',g2n,zeroR,gz]
  ·rw [if_neg (fun h=>g1 h.1)]
   have g1':(96:Int)<n:=by omega
   have g1n:96<n:=by omega
   generalize byteRows B=BR at *
   simp -implicitDefEqProofs [l0,l1,l5,l6,l9,l10,l12,t1,t2,t3,g1',g1n,zeroR,gz]
 ·simp only [kindR,numR,knd,mst,if_true]
  generalize byteRows B=BR at *
  simp -implicitDefEqProofs [l0,l1,l5,l6,l9,l10,l12,t1,t2]
def gotN (B:List UInt8) (at_:Nat):Option (Nat×Nat):=match B.drop at_ with
 |[]=>none
 |k::r=>if k.toNat≤8∧k.toNat≤r.length∧ ¬(0<k.toNat∧r.headD 1=0) then some (numOf (r.take k.toNat),at_+1+k.toNat) else none
def gotR (kd:Bool) (B:List UInt8) (at_:Nat):AV:=match gotN B at_ with
 |some (n,nx)=>kindR kd B n nx
 |none=>zeroR
theorem be8 (x b:Nat) (h:x<72057594037927936) (hb:b<256):IntKind.u64.wrap (IntKind.u64.wrap (256*(x:Int))+(b:Int))=((256*x+b:Nat):Int):=by
 have e:IntKind.u64.wrap (256*(x:Int))=256*(x:Int):=by rw [wrap_u64]<;>omega
 rw [e,wrap_u64]<;>omega
theorem rget_t9 (kd:Bool) (B:List UInt8) (hB:B.length≤1000000) (at_ k:Nat) (ha:at_≤1000000) (hk:k≤8) (hle:at_+1+k≤B.length) (e:List (Nat×AV)) (pm:List (Pl×Nat))
  (l0:lk e 0= .sl (byteRows B)) (l1:lk e 1=i6 at_) (l5:lk e 5= .ptr (.n 5) 0) (l6:lk e 6= .ptr (.n 6) 0) (l9:lk e 9= .ptr (.n 9) 0) (l10:lk e 10=i6 k) (l12:lk e 12=u 0):
  wpA (SpH Tryz.prog gl) (AC.tl 9 c126) (postA [.ca 6 4,.t 7,.t 8] (kindR kd B (numOf ((B.drop (at_+1)).take k)) (at_+1+k))) ⟨e,[(.n 9,gz),(.n 6,gz),(.n 5,[i6 (knd kd),i6 (mst kd)])],pm⟩:=by
 obtain ⟨q,hq⟩: ∃q,q=(B.drop (at_+1)).take k:=⟨_,rfl⟩
 have ql:q.length=k:=by rw [hq,List.length_take,List.length_drop];omega
 have qat: ∀i (h:i<q.length),∀h2,(byteRows B)[at_+1+i]'h2=[.int .u8 q[i].toNat]:=by
  intro i h h2
  simp only [byteRows,List.getElem_map,hq,List.getElem_take,List.getElem_drop]
 rw [←hq]
 have nlt:=numOf_lt q
 have nq:numOf q<18446744073709551616:=Nat.lt_of_lt_of_le nlt (Nat.le_trans (Nat.pow_le_pow_right (by omega) (show q.length≤8 by omega)) (by decide))
 have T:=rget_t10 kd B hB at_ k (numOf q) (at_+1+k) ha hk rfl hle nq
 have bl:=byteRows_len B
 have t1:IntKind.i64.wrap ((at_:Int)+1)=(at_:Int)+1:=by rw [wrap_i64]<;>omega
 have ec:AC.tl 9 c126=AC.cutAt 1 (AC.tl 10 c126) (AC.tl 9 c126):=rfl
 rw [ec]
 generalize AC.tl 10 c126=t at T ⊢
 simp only [c126,AC.tl,AC.cutAt]
 generalize kindR kd B (numOf q) (at_+1+k)=R at *
 have i5:idsL [i6 (knd kd),i6 (mst kd)]=[]:=rfl
 have iZ:idsL gz=[]:=rfl
 generalize [i6 (knd kd),i6 (mst kd)]=B5 at *
 generalize gz=Z at *
 generalize byteRows B=BR at *
 simp -implicitDefEqProofs
 refine wp_lpk (α:=Nat) (fun i=>⟨[(0,.sl BR),(1,i6 at_),(5,.ptr (.n 5) 0),(6,.ptr (.n 6) 0),(9,.ptr (.n 9) 0),(10,i6 k),(12,u (numOf (q.take i))),(13,i6 i)],[(.n 9,Z),(.n 6,Z),(.n 5,B5)],[]⟩) (fun i=>i≤k) (fun i=>k - i) ?_ 0 ?_ ?_
 ·rintro K i hK h1
  by_cases g:i<k
  ·have nt:=numOf_take q i (by omega)
   have nl:=numOf_lt (q.take i)
   rw [List.length_take,Nat.min_eq_left (by omega)] at nl
   have nl2:numOf (q.take i)<72057594037927936:=Nat.lt_of_lt_of_le nl (Nat.le_trans (Nat.pow_le_pow_right (by omega) (show i≤7 by omega)) (by decide))
   have qi:=qat i (by omega)
   obtain ⟨y,hy⟩: ∃y,q[i]'(by omega)=y:=⟨_,rfl⟩
   rw [hy] at qi nt
   have b8:=be8 (numOf (q.take i)) y.toNat nl2 y.toNat_lt
   have w2:IntKind.u64.wrap (y.toNat:Int)=y.toNat:=by have:=y.toNat_lt;rw [wrap_u64]<;>omega
   have t2:IntKind.i64.wrap ((i:Int)+1)=(i+1:Nat):=by rw [wrap_i64]<;>omega
   have t3:IntKind.i64.wrap ((at_:Int)+1+i)=((at_+1+i:Nat):Int):=by rw [wrap_i64]<;>omega
   have fin: ∀σ',Weak σ' ⟨[(0,.sl BR),(1,i6 at_),(5,.ptr (.n 5) 0),(6,.ptr (.n 6) 0),(9,.ptr (.n 9) 0),(10,i6 k),(12,u (numOf (q.take (i+1)))),(13,i6 (i+1:Nat))],[(.n 9,Z),(.n 6,Z),(.n 5,B5)],[]⟩→K σ':=
    fun σ' hσ=>hK (i+1) σ' (by omega) (by omega) hσ
   rw [nt] at fin
   have gb:at_+1+i<BR.length:=by omega
   clear hK nt T
   obtain ⟨p,hp⟩: ∃p,p=at_+1+i:=⟨_,rfl⟩
   rw [←hp] at t3 gb
   have qi': ∀h2,BR[p]'h2=[.int .u8 y.toNat]:=by subst hp;exact qi
   generalize numOf (q.take i)=x at *
   obtain ⟨z,hz⟩: ∃z:Nat,z=256*x+y.toNat:=⟨_,rfl⟩
   rw [←hz] at b8 fin
   simp -implicitDefEqProofs [g,t1,t3,gb,qi',w2,b8]
   refine fin _ (weak_mk ?_ ?_ ?_ ?_ ?_ ?_)<;>simp -implicitDefEqProofs [t2,i5,iZ]
  ·obtain rfl:i=k:=by omega
   rw [List.take_of_length_le (by omega)]
   generalize numOf q=x at *
   clear hK
   simp -implicitDefEqProofs
   refine T _ _ ?_ ?_ ?_ ?_ ?_ ?_ ?_<;>simp -implicitDefEqProofs
 ·exact Nat.zero_le _
 ·refine weak_mk ?_ ?_ ?_ ?_ ?_ ?_<;>simp -implicitDefEqProofs [numOf,i5,iZ,l0,l1,l5,l6,l9,l10,l12]
end Go.Ai
namespace Go.Ai
open Go.Proofs Go.RowKit
theorem rget_num (kd:Bool) (B:List UInt8) (at_:Nat) (hB:B.length≤1000000) (ha:at_≤1000000):Sp Tryz.prog gl 126 [.sl (byteRows B),i6 at_,.agg [i6 (knd kd),i6 (mst kd)]] (gotR kd B at_):=by
 refine s126 rfl rfl ?_
 have bl:=byteRows_len B
 have n3:(knd kd==3)=false:=by cases kd<;>rfl
 have n1:(knd kd==1)=false:=by cases kd<;>rfl
 by_cases g:at_<B.length
 ·have g': ¬(B.length:Int)≤at_:=by omega
  have gn: ¬B.length≤at_:=by omega
  have e:B.drop at_=B[at_]::B.drop (at_+1):=List.drop_eq_getElem_cons g
  have bat:=byteRows_at B at_ g
  have gb:at_<(byteRows B).length:=by omega
  have bat': ∀h2,(byteRows B)[at_]'h2=[.int .u8 B[at_].toNat]:=fun h2=>by rw [List.getElem?_eq_getElem h2] at bat;exact Option.some.inj bat
  unfold gotR gotN
  rw [e]
  simp only [List.length_drop]
  have kk256:=B[at_].toNat_lt
  generalize B[at_].toNat=kk at *
  have t1:IntKind.i64.wrap ((B.length:Int) - at_)=((B.length - at_:Nat):Int):=by rw [wrap_i64]<;>omega
  have t2:IntKind.i64.wrap (((B.length - at_:Nat):Int) - 1)=((B.length - (at_+1):Nat):Int):=by rw [wrap_i64]<;>omega
  have t3:IntKind.i64.wrap (kk:Int)=kk:=by rw [wrap_i64]<;>omega
  have t4:IntKind.i64.wrap ((at_:Int)+1)=(at_+1:Nat):=by rw [wrap_i64]<;>omega
  by_cases g8:kk≤8
  ·have g8': ¬(8:Int)<kk:=by omega
   have g8n: ¬8<kk:=by omega
   by_cases gl_:kk≤B.length - (at_+1)
   ·have gl1: ¬((B.length - (at_+1):Nat):Int)<kk:=by omega
    have gl2: ¬B.length - (at_+1)<kk:=by omega
    have T:=rget_t9 kd B hB at_ kk ha g8 (by omega)
    by_cases k0:0<kk
    ·have k0':(0:Int)<kk:=by omega
     have g1:at_+1<B.length:=by omega
     have e1:B.drop (at_+1)=B[at_+1]::B.drop (at_+2):=List.drop_eq_getElem_cons g1
     have batA:=byteRows_at B (at_+1) g1
     have gb1:at_+1<(byteRows B).length:=by omega
     have batA': ∀h2,(byteRows B)[at_+1]'h2=[.int .u8 B[at_+1].toNat]:=fun h2=>by rw [List.getElem?_eq_getElem h2] at batA;exact Option.some.inj batA
     by_cases z0:B[at_+1]=0
     ·rw [if_neg (fun h=>h.2.2 ⟨k0,by rw [e1];exact z0⟩)]
      simp only
      have z1:((B[at_+1].toNat:Int)==0)=true:=by rw [z0];rfl
      generalize B[at_+1].toNat=zz at *
      clear T e e1 bat batA
      generalize B.length - (at_+1)=ll at *
      generalize B.length - at_=lm at *
      obtain ⟨p,hp⟩: ∃p,p=at_+1:=⟨_,rfl⟩
      rw [←hp] at t4 gb1
      have g1p:p<B.length:=by omega
      have batB: ∀h2,(byteRows B)[p]'h2=[.int .u8 zz]:=by subst hp;exact batA'
      clear batA' hp
      generalize byteRows B=BR at *
      generalize knd kd=KD at *
      generalize mst kd=MD at *
      simp only [zeroR,gz]
      simp -implicitDefEqProofs [c126,bl,g,g',gn,bat',gb,n3,n1,t1,t2,t3,g8',g8n,gl1,gl2,k0',k0,t4,gb1,g1p,batB,z1]
     ·have z1:((B[at_+1].toNat:Int)==0)=false:=by
       simp only [beq_eq_false_iff_ne,ne_eq]
       intro e
       exact z0 (UInt8.toNat.inj (by rw [show B[at_+1].toNat=0 by omega];rfl))
      rw [if_pos ⟨g8,gl_,fun h=>z0 (by have:=h.2;rw [e1] at this;exact this)⟩]
      simp only
      generalize B[at_+1].toNat=zz at *
      clear e e1 bat batA
      generalize kindR kd B (numOf ((B.drop (at_+1)).take kk)) (at_+1+kk)=R at *
      generalize B.length - (at_+1)=ll at *
      generalize B.length - at_=lm at *
      obtain ⟨p,hp⟩: ∃p,p=at_+1:=⟨_,rfl⟩
      rw [←hp] at t4 gb1
      have g1p:p<B.length:=by omega
      have batB: ∀h2,(byteRows B)[p]'h2=[.int .u8 zz]:=by subst hp;exact batA'
      clear batA' hp
      have ec:c126=AC.cutAt 9 (AC.tl 9 c126) c126:=rfl
      rw [ec]
      generalize AC.tl 9 c126=t at T ⊢
      simp only [c126,AC.cutAt]
      unfold gz at T
      generalize byteRows B=BR at *
      generalize knd kd=KD at *
      generalize mst kd=MD at *
      simp -implicitDefEqProofs [bl,g,g',gn,bat',gb,n3,n1,t1,t2,t3,g8',g8n,gl1,gl2,k0',k0,t4,gb1,g1p,batB,z1]
      refine T _ _ ?_ ?_ ?_ ?_ ?_ ?_ ?_<;>simp -implicitDefEqProofs
    ·have k0': ¬(0:Int)<kk:=by omega
     rw [if_pos ⟨g8,gl_,fun h=>k0 h.1⟩]
     simp only
     clear e bat
     generalize kindR kd B (numOf ((B.drop (at_+1)).take kk)) (at_+1+kk)=R at *
     generalize B.length - (at_+1)=ll at *
     generalize B.length - at_=lm at *
     have ec:c126=AC.cutAt 9 (AC.tl 9 c126) c126:=rfl
     rw [ec]
     generalize AC.tl 9 c126=t at T ⊢
     simp only [c126,AC.cutAt]
     unfold gz at T
     generalize byteRows B=BR at *
     generalize knd kd=KD at *
     generalize mst kd=MD at *
     simp -implicitDefEqProofs [bl,g,g',gn,bat',gb,n3,n1,t1,t2,t3,g8',g8n,gl1,gl2,k0',k0]
     refine T _ _ ?_ ?_ ?_ ?_ ?_ ?_ ?_<;>simp -implicitDefEqProofs
   ·have gl1:((B.length - (at_+1):Nat):Int)<kk:=by omega
    have gl2:B.length - (at_+1)<kk:=by omega
    rw [if_neg (fun h=>gl_ h.2.1)]
    simp only
    clear e bat
    generalize B.length - (at_+1)=ll at *
    generalize B.length - at_=lm at *
    generalize byteRows B=BR at *
    generalize knd kd=KD at *
    generalize mst kd=MD at *
    simp only [zeroR,gz]
    simp -implicitDefEqProofs [c126,bl,g,g',gn,bat',gb,n3,n1,t1,t2,t3,g8',g8n,gl1,gl2]
  ·have g8':(8:Int)<kk:=by omega
   have g8n:8<kk:=by omega
   rw [if_neg (fun h=>g8 h.1)]
   simp only
   clear e bat
   generalize byteRows B=BR at *
   generalize knd kd=KD at *
   generalize mst kd=MD at *
   simp only [zeroR,gz]
   simp -implicitDefEqProofs [c126,bl,g,g',gn,bat',gb,n3,n1,t3,g8',g8n]
 ·have g':(B.length:Int)≤at_:=by omega
  have gn:B.length≤at_:=by omega
  have e:B.drop at_=[]:=List.drop_eq_nil_of_le gn
  unfold gotR gotN
  rw [e]
  simp only [zeroR,gz]
  generalize byteRows B=BR at *
  generalize knd kd=KD at *
  generalize mst kd=MD at *
  simp -implicitDefEqProofs [c126,bl,g',gn]
end Go.Ai
