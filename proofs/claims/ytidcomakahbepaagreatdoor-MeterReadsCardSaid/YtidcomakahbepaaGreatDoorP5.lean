/- P5: a part of the proof: the rules, or what functions compute. Conditions: as each theorem says. -/
import Derived.Test.YtidcomakahbepaaGreatDoorP4
import Derived.Test.YtidcomakahbepaaGreatDoorP2
import Derived.Lib.Join
import Derived.Lib.ItoaNum
set_option linter.unusedSimpArgs false
set_option linter.unusedVariables false
set_option maxRecDepth 20000
namespace Go.Ai
open Go.Proofs
open Go.Proofs
end Go.Ai
namespace Go.Ai
open Go.Proofs
end Go.Ai
namespace Go.Ai
def kz:Ky:=⟨[],[],false,0,false⟩
end Go.Ai
namespace Go.Ai
abbrev RS:=Option (List UInt8)
def numOf (l:List UInt8):Nat:=l.foldl (fun a b=>256*a+b.toNat) 0
def getN:RS→RS×Nat
 |some (k::r)=>if k.toNat≤8∧k.toNat≤r.length∧ ¬(0<k.toNat∧r.headD 1=0) then (some (r.drop k.toNat),numOf (r.take k.toNat)) else (none,0)
 |_=>(none,0)
def takeN (s:RS) (n:Nat):RS×List UInt8:=match s with
 |some b=>if n≤b.length then (some (b.drop n),b.take n) else (none,[])
 |none=>(none,[])
def flagN:RS→RS×Bool
 |some (b::r)=>if b.toNat≤1 then (some r,b==1) else (none,false)
 |_=>(none,false)
theorem numOf_acc (l:List UInt8) (a:Nat):l.foldl (fun a b=>256*a+b.toNat) a=a*256^l.length+numOf l:=by
 unfold numOf
 induction l generalizing a with
 |nil=>simp
 |cons b r ih=>
  simp only [List.foldl_cons,List.length_cons]
  rw [ih (256*a+b.toNat),ih (256*0+b.toNat),Nat.pow_succ]
  simp only [Nat.add_mul,Nat.mul_zero,Nat.zero_add]
  rw [show 256*a*256^r.length=a*(256^r.length*256) by ac_rfl]
  omega
theorem numOf_cons (b:UInt8) (r:List UInt8):numOf (b::r)=b.toNat*256^r.length+numOf r:=by
 have:=numOf_acc r (256*0+b.toNat)
 simp only [Nat.mul_zero,Nat.zero_add] at this
 rw [←this];simp [numOf]
theorem numOf_be (k n:Nat):numOf (be k n)=n%256^k:=by
 induction k with
 |zero=>simp [be,numOf,Nat.mod_one]
 |succ k ih=>
  rw [be,numOf_cons,ih,be_len]
  have e:(UInt8.ofNat (n / 256^k)).toNat=n / 256^k%256:=by simp
  rw [e,Nat.pow_succ,Nat.mod_mul,Nat.mul_comm (n / 256^k%256),Nat.add_comm]
theorem sz8_bounds (n:Nat):n<256^sz8 n∧(n≠0→256^(sz8 n - 1)≤n):=by
 induction n using Nat.strongRecOn with
 |_ n ih=>
  by_cases h0:n=0
  ·subst h0;rw [sz8_zero];simp
  ·rw [sz8_pos h0]
   obtain ⟨h1,h2⟩:=ih (n / 256) (by omega)
   refine ⟨by rw [Nat.pow_succ];omega,fun _=>?_⟩
   rw [Nat.add_sub_cancel]
   by_cases h3:n / 256=0
   ·rw [h3,sz8_zero];simp;omega
   ·have h4:=h2 h3
    rw [sz8_pos h3] at h4 ⊢
    rw [Nat.add_sub_cancel] at h4
    rw [Nat.pow_succ];omega
end Go.Ai
namespace Go.Ai
open Go.Proofs Go.RowKit
def rdv:RS→List AV
 |some b=>[.sl (byteRows b),.bool false]
 |none=>[.sl [],.bool true]
theorem wbad_spec (st:RS) (d:Nat) (c:Id) (hc:c.isIt=false) (hd:c.isNw d=false):SpH Tryz.prog gl 31 d ⟨[.ptr c 0],[(c,rdv st)],[]⟩ ⟨.bool st.isNone,[(c,rdv st)],[]⟩:=by
 refine h31 rfl ?_
 have hi:=inn_notNw hd
 cases st with
 |none=>
  simp only [rdv]
  simp -implicitDefEqProofs [c31]
  refine postH_r ⟨?_,?_,?_,?_,?_,?_⟩<;>simp -implicitDefEqProofs [hi,hc]
 |some b=>
  simp only [rdv]
  generalize byteRows b=B
  simp -implicitDefEqProofs [c31]
  refine postH_r ⟨?_,?_,?_,?_,?_,?_⟩<;>simp -implicitDefEqProofs [hi,hc]
theorem wfail_spec (st:RS) (d:Nat) (c:Id) (hc:c.isIt=false) (hd:c.isNw d=false):SpH Tryz.prog gl 123 d ⟨[.ptr c 0],[(c,rdv st)],[]⟩ ⟨.tup [],[(c,rdv none)],[]⟩:=by
 refine h123 rfl ?_
 have hi:=inn_notNw hd
 cases st with
 |none=>
  simp only [rdv]
  simp -implicitDefEqProofs [c123]
  refine postH_n ⟨?_,?_,?_,?_,?_,?_⟩<;>simp -implicitDefEqProofs [hi,hc]
 |some b=>
  simp only [rdv]
  generalize byteRows b=B
  simp -implicitDefEqProofs [c123]
  refine postH_n ⟨?_,?_,?_,?_,?_,?_⟩<;>simp -implicitDefEqProofs [hi,hc]
theorem wtake_spec (st:RS) (n:Nat) (hl: ∀b,st=some b→b.length≤1000000) (hn:n<18446744073709551616) (d:Nat) (c:Id) (hc:c.isIt=false) (hd:c.isNw d=false):
  SpH Tryz.prog gl 122 d ⟨[.ptr c 0,u n],[(c,rdv st)],[]⟩ ⟨.tup [.sl (byteRows (takeN st n).2),.bool (takeN st n).1.isSome],[(c,rdv (takeN st n).1)],[]⟩:=by
 refine h122 rfl ?_
 have hi:=inn_notNw hd
 have Bd:=fun d' hd'=>wbad_spec st d' (.up c) hc hd'
 have Fl:=fun d' hd'=>wfail_spec st d' (.up c) hc hd'
 cases st with
 |none=>
  simp only [takeN,rdv] at *
  simp -implicitDefEqProofs [c122]
  refine onH_mk _ _ (Bd 8 rfl) ⟨?_,?_,?_,?_,?_,?_,?_⟩ ?_
  iterate 7 (· simp)
  simp -implicitDefEqProofs
  refine onH_mk _ _ (Fl 20 rfl) ⟨?_,?_,?_,?_,?_,?_,?_⟩ ?_
  iterate 7 (· simp)
  simp -implicitDefEqProofs
  refine postH_r ⟨?_,?_,?_,?_,?_,?_⟩<;>simp -implicitDefEqProofs [hi,hc,byteRows]
 |some b=>
  have hb:=hl b rfl
  have bl:=byteRows_len b
  have one:=byteRows_one b
  have t1:IntKind.u64.wrap (b.length:Int)=b.length:=by rw [wrap_u64]<;>omega
  by_cases g:n≤b.length
  ·have g': ¬(b.length:Int)<n:=by omega
   have g2:(n:Int)≤b.length:=by omega
   have g3: ¬b.length<n:=by omega
   have e1:=byteRows_take b n
   have e2:=byteRows_drop b n
   have e3:List.take b.length (byteRows b)=byteRows b:=by rw [List.take_of_length_le (by omega)]
   simp only [takeN,rdv,g,if_true] at *
   generalize byteRows (b.take n)=B1 at *
   generalize byteRows (b.drop n)=B2 at *
   generalize byteRows b=B at *
   simp -implicitDefEqProofs [c122]
   refine onH_mk _ _ (Bd 8 rfl) ⟨?_,?_,?_,?_,?_,?_,?_⟩ ?_
   iterate 7 (· simp)
   simp -implicitDefEqProofs [bl,t1,g',g2,g3,g,e1,e2,e3]
   refine ⟨one,postH_r ⟨?_,?_,?_,?_,?_,?_⟩⟩<;>simp -implicitDefEqProofs [hi,hc]
  ·have g':(b.length:Int)<n:=by omega
   have g3:b.length<n:=by omega
   simp only [takeN,rdv,g,if_false] at *
   generalize byteRows b=B at *
   simp -implicitDefEqProofs [c122]
   refine onH_mk _ _ (Bd 8 rfl) ⟨?_,?_,?_,?_,?_,?_,?_⟩ ?_
   iterate 7 (· simp)
   simp -implicitDefEqProofs [bl,t1,g',g3]
   refine onH_mk _ _ (Fl 20 rfl) ⟨?_,?_,?_,?_,?_,?_,?_⟩ ?_
   iterate 7 (· simp)
   simp -implicitDefEqProofs
   refine postH_r ⟨?_,?_,?_,?_,?_,?_⟩<;>simp -implicitDefEqProofs [hi,hc,byteRows]
theorem numOf_take (r:List UInt8) (i:Nat) (h:i<r.length):numOf (r.take (i+1))=256*numOf (r.take i)+r[i].toNat:=by
 unfold numOf
 rw [List.take_succ_eq_append_getElem h,List.foldl_append];rfl
theorem numOf_lt (r:List UInt8):numOf r<256^r.length:=by
 induction r with
 |nil=>simp [numOf]
 |cons b r ih=>
  rw [numOf_cons,List.length_cons,Nat.pow_succ]
  have:=b.toNat_lt
  have h2:b.toNat*256^r.length≤255*256^r.length:=Nat.mul_le_mul_right _ (by omega)
  omega
theorem shl8 (x:Nat) (h:x<72057594037927936):IntKind.u64.wrap ((x:Int)*2^(min 8 IntKind.u64.bits))=((x*256:Nat):Int):=by
 have e:(2:Int)^(min 8 IntKind.u64.bits)=256:=by decide
 rw [e,wrap_u64]<;>omega
theorem or8 (x b:Nat) (h:x<72057594037927936) (hb:b<256):bits BinOp.or IntKind.u64 ((x*256:Nat):Int) (b:Int)=((256*x+b:Nat):Int):=by
 rw [bits_or_u64_nat (x*256) b (by omega) (by omega)]
 congr 1
 rw [show x*256=2^8*x by omega,←Nat.two_pow_add_eq_or_of_lt (by omega)]
theorem wget_spec (st:RS) (hl: ∀b,st=some b→b.length≤1000000) (d:Nat) (c:Id) (hc:c.isIt=false) (hd:c.isNw d=false):
  SpH Tryz.prog gl 124 d ⟨[.ptr c 0,.int .u8 0],[(c,rdv st)],[]⟩ ⟨.tup [.int .u8 0,u (getN st).2],[(c,rdv (getN st).1)],[]⟩:=by
 refine h124 rfl ?_
 have hi:=inn_notNw hd
 have T1:=wtake_spec st 1 hl (by omega) 16 (.up c) hc rfl
 rcases st with _|b
 ·simp only [takeN,rdv,getN] at *
  simp -implicitDefEqProofs [c124]
  refine onH_mk _ _ T1 ⟨?_,?_,?_,?_,?_,?_,?_⟩ ?_
  iterate 7 (· simp)
  simp -implicitDefEqProofs
  refine postH_r ⟨?_,?_,?_,?_,?_,?_⟩<;>simp -implicitDefEqProofs [hi,hc]
 rcases b with _|⟨k,r⟩
 ·simp only [takeN,rdv,getN] at *
  simp -implicitDefEqProofs [c124]
  refine onH_mk _ _ T1 ⟨?_,?_,?_,?_,?_,?_,?_⟩ ?_
  iterate 7 (· simp)
  simp -implicitDefEqProofs
  refine postH_r ⟨?_,?_,?_,?_,?_,?_⟩<;>simp -implicitDefEqProofs [hi,hc]
 have hr:r.length≤1000000:=by have:=hl _ rfl;simp at this;omega
 have e1:takeN (some (k::r)) 1=(some r,[k]):=by simp [takeN]
 rw [e1] at T1
 simp only [rdv,Option.isSome_some] at T1
 rw [show byteRows [k]=[[.int .u8 k.toNat]] from rfl] at T1
 have T2:=wtake_spec (some r) k.toNat (fun b hb=>by cases hb;exact hr) (by have:=k.toNat_lt;omega) 39 (.up c) hc rfl
 have F2:=wfail_spec (some r) 34 (.up c) hc rfl
 have k256:k.toNat<256:=k.toNat_lt
 have a1:=and0_u8 k.toNat k256
 have a2:=andNot0_u8 k.toNat k256
 have w1:IntKind.u64.wrap (k.toNat:Int)=k.toNat:=by rw [wrap_u64]<;>omega
 generalize hkk:k.toNat=kk at *
 by_cases g8:kk≤8
 ·have g8': ¬(8:Int)<kk:=by omega
  have g8n: ¬8<kk:=by omega
  by_cases gln:kk≤r.length
  ·have e2:takeN (some r) kk=(some (r.drop kk),r.take kk):=by simp [takeN,gln]
   rw [e2] at T2
   have F3:=wfail_spec (some (r.drop kk)) 55 (.up c) hc rfl
   simp only [rdv,Option.isSome_some] at T2 F3
   by_cases gz:0<kk∧r.headD 1=0
   ·have eg:getN (some (k::r))=(none,0):=by simp only [getN,hkk];rw [if_neg (fun h=>h.2.2 gz)]
    rw [eg]
    obtain ⟨r0,rr,rfl⟩: ∃r0 rr,r=r0::rr:=by
     cases r with
     |nil=>simp at gln;omega
     |cons a b=>exact ⟨a,b,rfl⟩
    have r00:r0=0:=gz.2
    obtain ⟨m,hm⟩: ∃m,kk=m+1:=⟨kk - 1,by omega⟩
    have e3:byteRows (List.take kk (r0::rr))=[.int .u8 0]::byteRows (rr.take m):=by rw [hm,r00];rfl
    rw [e3] at T2
    have p1:(0:Int)<kk:=by omega
    have p2:0<kk:=gz.1
    simp only [rdv] at *
    generalize byteRows (rr.take m)=B1 at *
    generalize byteRows (List.drop kk (r0::rr))=B2 at *
    generalize byteRows (r0::rr)=B3 at *
    generalize byteRows (k::r0::rr)=B4 at *
    simp -implicitDefEqProofs [c124]
    refine onH_mk _ _ T1 ⟨?_,?_,?_,?_,?_,?_,?_⟩ ?_
    iterate 7 (· simp)
    simp -implicitDefEqProofs [a1,a2,g8',g8n,w1]
    refine onH_mk _ _ T2 ⟨?_,?_,?_,?_,?_,?_,?_⟩ ?_
    iterate 7 (· simp)
    simp -implicitDefEqProofs [p1,p2]
    refine onH_mk _ _ F3 ⟨?_,?_,?_,?_,?_,?_,?_⟩ ?_
    iterate 7 (· simp)
    simp -implicitDefEqProofs
    refine postH_r ⟨?_,?_,?_,?_,?_,?_⟩<;>simp -implicitDefEqProofs [hi,hc]
   ·have eg:getN (some (k::r))=(some (r.drop kk),numOf (r.take kk)):=by simp only [getN,hkk];rw [if_pos ⟨g8,gln,gz⟩]
    rw [eg]
    obtain ⟨q,hq⟩: ∃q,q=r.take kk:=⟨_,rfl⟩
    have ql:q.length=kk:=by rw [hq,List.length_take];omega
    rw [←hq] at T2 ⊢
    have hz:0<kk→ ∃q0 qq,q=q0::qq∧((q0.toNat:Int)==0)=false:=by
     intro h0
     cases r with
     |nil=>simp at gln;omega
     |cons r0 rr=>
      obtain ⟨m,hm⟩: ∃m,kk=m+1:=⟨kk - 1,by omega⟩
      refine ⟨r0,rr.take m,by rw [hq,hm];rfl,?_⟩
      simp only [beq_eq_false_iff_ne,ne_eq]
      intro e
      exact gz ⟨h0,UInt8.toNat.inj (by simp only [List.headD_cons];rw [show r0.toNat=0 by omega];rfl)⟩
    clear hq gz e2 F2 F3
    have loop: ∀(K:AE→St→Prop) (e:List (Nat×AV)),lk e 0= .ptr (.up c) 0→lk e 8= .int .u8 0→lk e 10= .sl (byteRows q)→
      (∀e',lk e' 0= .ptr (.up c) 0→True)→wpA (SpH Tryz.prog gl) (AC.tl 8 c124) (postH d [.t 4,.t 5] ⟨.tup [.int .u8 0,u (numOf q)],[(c,[.sl (byteRows (r.drop kk)),.bool false])],[]⟩) ⟨e,[(.up c,[.sl (byteRows (r.drop kk)),.bool false])],[]⟩:=by
     intro K e l0 l8 l10 _
     have bl:=byteRows_len q
     have bat:=byteRows_at q
     simp only [c124,AC.tl]
     generalize byteRows (r.drop kk)=B2 at *
     generalize byteRows q=B1 at *
     simp -implicitDefEqProofs [l0,l8,l10,bl]
     refine wp_lpk (α:=Nat) (fun i=>⟨[(0,.ptr (.up c) 0),(8,.int .u8 0),(11,u (numOf (q.take i))),(56,.sl B1),(57,i6 q.length),(58,i6 i)],[(.up c,[.sl B2,.bool false])],[]⟩) (fun i=>i≤q.length) (fun i=>q.length - i) ?_ 0 ?_ ?_
     ·rintro K i hK h1
      by_cases g:i<q.length
      ·have b1:=bat i g
       have nt:=numOf_take q i g
       have nl:=numOf_lt (q.take i)
       rw [List.length_take,Nat.min_eq_left (by omega)] at nl
       have nl2:numOf (q.take i)<72057594037927936:=by
        refine Nat.lt_of_lt_of_le nl ?_
        exact Nat.le_trans (Nat.pow_le_pow_right (by omega) (show i≤7 by omega)) (by decide)
       have t1:IntKind.i64.wrap ((i:Int)+1)=(i+1:Nat):=by rw [wrap_i64]<;>omega
       have fin: ∀σ',Weak σ' ⟨[(0,.ptr (.up c) 0),(8,.int .u8 0),(11,u (numOf (q.take (i+1)))),(56,.sl B1),(57,i6 q.length),(58,i6 (i+1:Nat))],[(.up c,[.sl B2,.bool false])],[]⟩→K σ':=
        fun σ' hσ=>hK (i+1) σ' (by omega) (by omega) hσ
       obtain ⟨y,hy⟩: ∃y,q[i]=y:=⟨_,rfl⟩
       rw [hy] at b1 nt
       have y256:y.toNat<256:=y.toNat_lt
       have s8:=shl8 (numOf (q.take i)) nl2
       have o8:=or8 (numOf (q.take i)) y.toNat nl2 y256
       have w2:IntKind.u64.wrap (y.toNat:Int)=y.toNat:=by rw [wrap_u64]<;>omega
       rw [nt] at fin
       clear hK nt
       generalize numOf (q.take i)=x at *
       obtain ⟨z,hz⟩: ∃z:Nat,z=256*x+y.toNat:=⟨_,rfl⟩
       rw [←hz] at o8 fin
       obtain ⟨x8,hx8⟩: ∃x8:Nat,x8=x*256:=⟨_,rfl⟩
       rw [←hx8] at o8 s8
       have b1': ∀h,B1[i]=[.int .u8 y.toNat]:=fun h=>by rw [List.getElem?_eq_getElem h] at b1;exact Option.some.inj b1
       simp -implicitDefEqProofs [g,bl,b1',s8,w2,o8]
       refine fin _ (weak_mk ?_ ?_ ?_ ?_ ?_ ?_)<;>simp -implicitDefEqProofs [t1]
      ·obtain rfl:i=q.length:=by omega
       rw [List.take_length]
       generalize numOf q=x at *
       clear hK
       simp -implicitDefEqProofs
       refine postH_r ⟨?_,?_,?_,?_,?_,?_⟩<;>simp -implicitDefEqProofs [hi,hc]
     ·exact Nat.zero_le _
     ·refine weak_mk ?_ ?_ ?_ ?_ ?_ ?_<;>simp -implicitDefEqProofs [numOf,l0,l8]
    have ec:c124=AC.cutAt 8 (AC.tl 8 c124) c124:=rfl
    rw [ec]
    generalize AC.tl 8 c124=t at loop ⊢
    have loop':=fun e l0 l8 l10=>loop (fun _ _=>True) e l0 l8 l10 (fun _ _=>trivial)
    clear loop
    simp only [c124,AC.cutAt]
    by_cases p2:0<kk
    ·have p1:(0:Int)<kk:=by omega
     obtain ⟨q0,qq,rfl,hq0⟩:=hz p2
     rw [byteRows_cons] at T2 loop'
     simp only [rdv] at *
     generalize byteRows qq=B1 at *
     generalize byteRows (r.drop kk)=B2 at *
     generalize byteRows r=B3 at *
     generalize byteRows (k::r)=B4 at *
     simp -implicitDefEqProofs
     refine onH_mk _ _ T1 ⟨?_,?_,?_,?_,?_,?_,?_⟩ ?_
     iterate 7 (· simp)
     simp -implicitDefEqProofs [a1,a2,g8',g8n,w1]
     refine onH_mk _ _ T2 ⟨?_,?_,?_,?_,?_,?_,?_⟩ ?_
     iterate 7 (· simp)
     simp -implicitDefEqProofs [p1,p2,hq0]
     refine loop' _ ?_ ?_ ?_<;>simp -implicitDefEqProofs
    ·have p1: ¬(0:Int)<kk:=by omega
     simp only [rdv] at *
     generalize byteRows q=B1 at *
     generalize byteRows (r.drop kk)=B2 at *
     generalize byteRows r=B3 at *
     generalize byteRows (k::r)=B4 at *
     simp -implicitDefEqProofs
     refine onH_mk _ _ T1 ⟨?_,?_,?_,?_,?_,?_,?_⟩ ?_
     iterate 7 (· simp)
     simp -implicitDefEqProofs [a1,a2,g8',g8n,w1]
     refine onH_mk _ _ T2 ⟨?_,?_,?_,?_,?_,?_,?_⟩ ?_
     iterate 7 (· simp)
     simp -implicitDefEqProofs [p1,p2]
     refine loop' _ ?_ ?_ ?_<;>simp -implicitDefEqProofs
  ·have eg:getN (some (k::r))=(none,0):=by simp only [getN,hkk];rw [if_neg (fun h=>gln h.2.1)]
   rw [eg]
   have e2:takeN (some r) kk=(none,[]):=by simp [takeN,gln]
   rw [e2] at T2
   have F3:=wfail_spec none 55 (.up c) hc rfl
   simp only [rdv,Option.isSome_none] at *
   generalize byteRows r=B3 at *
   generalize byteRows (k::r)=B4 at *
   simp -implicitDefEqProofs [c124]
   refine onH_mk _ _ T1 ⟨?_,?_,?_,?_,?_,?_,?_⟩ ?_
   iterate 7 (· simp)
   simp -implicitDefEqProofs [a1,a2,g8',g8n,w1]
   refine onH_mk _ _ T2 ⟨?_,?_,?_,?_,?_,?_,?_⟩ ?_
   iterate 7 (· simp)
   simp -implicitDefEqProofs
   refine onH_mk _ _ F3 ⟨?_,?_,?_,?_,?_,?_,?_⟩ ?_
   iterate 7 (· simp)
   simp -implicitDefEqProofs
   refine postH_r ⟨?_,?_,?_,?_,?_,?_⟩<;>simp -implicitDefEqProofs [hi,hc]
 ·have g8':(8:Int)<kk:=by omega
  have g8n:8<kk:=by omega
  have eg:getN (some (k::r))=(none,0):=by simp only [getN,hkk];rw [if_neg (fun h=>g8 h.1)]
  rw [eg]
  simp only [rdv] at *
  generalize byteRows r=B3 at *
  generalize byteRows (k::r)=B4 at *
  simp -implicitDefEqProofs [c124]
  refine onH_mk _ _ T1 ⟨?_,?_,?_,?_,?_,?_,?_⟩ ?_
  iterate 7 (· simp)
  simp -implicitDefEqProofs [a1,a2,g8',g8n]
  refine onH_mk _ _ F2 ⟨?_,?_,?_,?_,?_,?_,?_⟩ ?_
  iterate 7 (· simp)
  simp -implicitDefEqProofs
  refine postH_r ⟨?_,?_,?_,?_,?_,?_⟩<;>simp -implicitDefEqProofs [hi,hc]
end Go.Ai
