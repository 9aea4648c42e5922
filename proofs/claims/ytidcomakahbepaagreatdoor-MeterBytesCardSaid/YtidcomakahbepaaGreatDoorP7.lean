/- P7: a part of the proof: the rules, or what functions compute. Conditions: as each theorem says. -/
import Derived.Test.YtidcomakahbepaaGreatDoorP6
import Derived.Test.YtidcomakahbepaaGreatDoorP3
import Derived.Lib.Join
import Derived.Lib.ItoaNum
import Derived.Test.YtidcomakahbepaaGreatDoorP4
import Derived.Test.YtidcomakahbepaaGreatDoorP2
set_option linter.unusedSimpArgs false
set_option linter.unusedVariables false
set_option maxRecDepth 20000
namespace Go.Ai
def kz:Ky:=⟨[],[],false,0,false⟩
end Go.Ai
namespace Go.Ai
abbrev RS:=Option (List UInt8)
def numOf (l:List UInt8):Nat:=l.foldl (fun a b=>256*a+b.toNat) 0
def getN:RS→RS×Nat
 |some (k::r)=>if k.toNat≤8∧k.toNat≤r.length∧ ¬(0<k.toNat∧r.headD 1=0) then (some (r.drop k.toNat),numOf (r.take k.toNat)) else (none,0)
 |_=>(none,0)
def takeN (s:RS) (n:Nat):RS×List UInt8:=match s with
 |some b=>if n≤b.length then (some (b.drop n),b.take n) else (none,[])
 |none=>(none,[])
def flagN:RS→RS×Bool
 |some (b::r)=>if b.toNat≤1 then (some r,b==1) else (none,false)
 |_=>(none,false)
theorem numOf_acc (l:List UInt8) (a:Nat):l.foldl (fun a b=>256*a+b.toNat) a=a*256^l.length+numOf l:=by
 unfold numOf
 induction l generalizing a with
 |nil=>simp
 |cons b r ih=>
  simp only [List.foldl_cons,List.length_cons]
  rw [ih (256*a+b.toNat),ih (256*0+b.toNat),Nat.pow_succ]
  simp only [Nat.add_mul,Nat.mul_zero,Nat.zero_add]
  rw [show 256*a*256^r.length=a*(256^r.length*256) by ac_rfl]
  omega
theorem numOf_cons (b:UInt8) (r:List UInt8):numOf (b::r)=b.toNat*256^r.length+numOf r:=by
 have:=numOf_acc r (256*0+b.toNat)
 simp only [Nat.mul_zero,Nat.zero_add] at this
 rw [←this];simp [numOf]
theorem numOf_be (k n:Nat):numOf (be k n)=n%256^k:=by
 induction k with
 |zero=>simp [be,numOf,Nat.mod_one]
 |succ k ih=>
  rw [be,numOf_cons,ih,be_len]
  have e:(UInt8.ofNat (n / 256^k)).toNat=n / 256^k%256:=by simp
  rw [e,Nat.pow_succ,Nat.mod_mul,Nat.mul_comm (n / 256^k%256),Nat.add_comm]
theorem sz8_bounds (n:Nat):n<256^sz8 n∧(n≠0→256^(sz8 n - 1)≤n):=by
 induction n using Nat.strongRecOn with
 |_ n ih=>
  by_cases h0:n=0
  ·subst h0;rw [sz8_zero];simp
  ·rw [sz8_pos h0]
   obtain ⟨h1,h2⟩:=ih (n / 256) (by omega)
   refine ⟨by rw [Nat.pow_succ];omega,fun _=>?_⟩
   rw [Nat.add_sub_cancel]
   by_cases h3:n / 256=0
   ·rw [h3,sz8_zero];simp;omega
   ·have h4:=h2 h3
    rw [sz8_pos h3] at h4 ⊢
    rw [Nat.add_sub_cancel] at h4
    rw [Nat.pow_succ];omega
theorem getN_put (n:Nat) (r:List UInt8) (hn:n<18446744073709551616):getN (some (numB n++r))=(some r,n):=by
 have h8:=sz8_le8 n hn
 obtain ⟨h1,h2⟩:=sz8_bounds n
 have ek:(UInt8.ofNat (sz8 n)).toNat=sz8 n:=by simp;omega
 unfold numB
 rw [List.cons_append,getN,ek,if_pos]
 ·have e1:List.drop (sz8 n) (be (sz8 n) n++r)=r:=List.drop_left' (be_len _ _)
  have e2:List.take (sz8 n) (be (sz8 n) n++r)=be (sz8 n) n:=List.take_left' (be_len _ _)
  rw [e1,e2,numOf_be,Nat.mod_eq_of_lt h1]
 ·refine ⟨h8,by rw [List.length_append,be_len];omega,?_⟩
  rintro ⟨h3,h4⟩
  cases hs:sz8 n with
  |zero=>omega
  |succ k=>
   rw [hs] at h4 h1 h2
   simp only [be,List.cons_append,List.headD_cons] at h4
   have h0:n≠0:=by rintro rfl;rw [sz8_zero] at hs;cases hs
   have h5:=h2 h0
   rw [Nat.add_sub_cancel] at h5
   have h6:=congrArg UInt8.toNat h4
   simp only [UInt8.toNat_ofNat',UInt8.toNat_zero] at h6
   have h7:n / 256^k<256:=by rw [Nat.div_lt_iff_lt_mul (Nat.pow_pos (by omega))];rw [Nat.pow_succ] at h1;omega
   have h9:1≤n / 256^k:=by rw [Nat.le_div_iff_mul_le (Nat.pow_pos (by omega))];omega
   omega
theorem flagN_put (f:Bool) (r:List UInt8):flagN (some (flagB f++r))=(some r,f):=by
 cases f<;>rfl
end Go.Ai
namespace Go.Ai
open Go.Proofs Go.RowKit
def rdv:RS→List AV
 |some b=>[.sl (byteRows b),.bool false]
 |none=>[.sl [],.bool true]
theorem wbad_spec (st:RS) (d:Nat) (c:Id) (hc:c.isIt=false) (hd:c.isNw d=false):SpH Tryz.prog gl 31 d ⟨[.ptr c 0],[(c,rdv st)],[]⟩ ⟨.bool st.isNone,[(c,rdv st)],[]⟩:=by
 refine h31 rfl ?_
 have hi:=inn_notNw hd
 cases st with
 |none=>
  simp only [rdv]
  simp -implicitDefEqProofs [c31]
  refine postH_r ⟨?_,?_,?_,?_,?_,?_⟩<;>simp -implicitDefEqProofs [hi,hc]
 |some b=>
  simp only [rdv]
  generalize byteRows b=B
  simp -implicitDefEqProofs [c31]
  refine postH_r ⟨?_,?_,?_,?_,?_,?_⟩<;>simp -implicitDefEqProofs [hi,hc]
theorem wfail_spec (st:RS) (d:Nat) (c:Id) (hc:c.isIt=false) (hd:c.isNw d=false):SpH Tryz.prog gl 123 d ⟨[.ptr c 0],[(c,rdv st)],[]⟩ ⟨.tup [],[(c,rdv none)],[]⟩:=by
 refine h123 rfl ?_
 have hi:=inn_notNw hd
 cases st with
 |none=>
  simp only [rdv]
  simp -implicitDefEqProofs [c123]
  refine postH_n ⟨?_,?_,?_,?_,?_,?_⟩<;>simp -implicitDefEqProofs [hi,hc]
 |some b=>
  simp only [rdv]
  generalize byteRows b=B
  simp -implicitDefEqProofs [c123]
  refine postH_n ⟨?_,?_,?_,?_,?_,?_⟩<;>simp -implicitDefEqProofs [hi,hc]
theorem wtake_spec (st:RS) (n:Nat) (hl: ∀b,st=some b→b.length≤1000000) (hn:n<18446744073709551616) (d:Nat) (c:Id) (hc:c.isIt=false) (hd:c.isNw d=false):
  SpH Tryz.prog gl 122 d ⟨[.ptr c 0,u n],[(c,rdv st)],[]⟩ ⟨.tup [.sl (byteRows (takeN st n).2),.bool (takeN st n).1.isSome],[(c,rdv (takeN st n).1)],[]⟩:=by
 refine h122 rfl ?_
 have hi:=inn_notNw hd
 have Bd:=fun d' hd'=>wbad_spec st d' (.up c) hc hd'
 have Fl:=fun d' hd'=>wfail_spec st d' (.up c) hc hd'
 cases st with
 |none=>
  simp only [takeN,rdv] at *
  simp -implicitDefEqProofs [c122]
  refine onH_mk _ _ (Bd 8 rfl) ⟨?_,?_,?_,?_,?_,?_,?_⟩ ?_
  iterate 7 (· simp)
  simp -implicitDefEqProofs
  refine onH_mk _ _ (Fl 20 rfl) ⟨?_,?_,?_,?_,?_,?_,?_⟩ ?_
  iterate 7 (· simp)
  simp -implicitDefEqProofs
  refine postH_r ⟨?_,?_,?_,?_,?_,?_⟩<;>simp -implicitDefEqProofs [hi,hc,byteRows]
 |some b=>
  have hb:=hl b rfl
  have bl:=byteRows_len b
  have one:=byteRows_one b
  have t1:IntKind.u64.wrap (b.length:Int)=b.length:=by rw [wrap_u64]<;>omega
  by_cases g:n≤b.length
  ·have g': ¬(b.length:Int)<n:=by omega
   have g2:(n:Int)≤b.length:=by omega
   have g3: ¬b.length<n:=by omega
   have e1:=byteRows_take b n
   have e2:=byteRows_drop b n
   have e3:List.take b.length (byteRows b)=byteRows b:=by rw [List.take_of_length_le (by omega)]
   simp only [takeN,rdv,g,if_true] at *
   generalize byteRows (b.take n)=B1 at *
   generalize byteRows (b.drop n)=B2 at *
   generalize byteRows b=B at *
   simp -implicitDefEqProofs [c122]
   refine onH_mk _ _ (Bd 8 rfl) ⟨?_,?_,?_,?_,?_,?_,?_⟩ ?_
   iterate 7 (· simp)
   simp -implicitDefEqProofs [bl,t1,g',g2,g3,g,e1,e2,e3]
   refine ⟨one,postH_r ⟨?_,?_,?_,?_,?_,?_⟩⟩<;>simp -implicitDefEqProofs [hi,hc]
  ·have g':(b.length:Int)<n:=by omega
   have g3:b.length<n:=by omega
   simp only [takeN,rdv,g,if_false] at *
   generalize byteRows b=B at *
   simp -implicitDefEqProofs [c122]
   refine onH_mk _ _ (Bd 8 rfl) ⟨?_,?_,?_,?_,?_,?_,?_⟩ ?_
   iterate 7 (· simp)
   simp -implicitDefEqProofs [bl,t1,g',g3]
   refine onH_mk _ _ (Fl 20 rfl) ⟨?_,?_,?_,?_,?_,?_,?_⟩ ?_
   iterate 7 (· simp)
   simp -implicitDefEqProofs
   refine postH_r ⟨?_,?_,?_,?_,?_,?_⟩<;>simp -implicitDefEqProofs [hi,hc,byteRows]
theorem numOf_take (r:List UInt8) (i:Nat) (h:i<r.length):numOf (r.take (i+1))=256*numOf (r.take i)+r[i].toNat:=by
 unfold numOf
 rw [List.take_succ_eq_append_getElem h,List.foldl_append];rfl
theorem numOf_lt (r:List UInt8):numOf r<256^r.length:=by
 induction r with
 |nil=>simp [numOf]
 |cons b r ih=>
  rw [numOf_cons,List.length_cons,Nat.pow_succ]
  have:=b.toNat_lt
  have h2:b.toNat*256^r.length≤255*256^r.length:=Nat.mul_le_mul_right _ (by omega)
  omega
theorem shl8 (x:Nat) (h:x<72057594037927936):IntKind.u64.wrap ((x:Int)*2^(min 8 IntKind.u64.bits))=((x*256:Nat):Int):=by
 have e:(2:Int)^(min 8 IntKind.u64.bits)=256:=by decide
 rw [e,wrap_u64]<;>omega
theorem or8 (x b:Nat) (h:x<72057594037927936) (hb:b<256):bits BinOp.or IntKind.u64 ((x*256:Nat):Int) (b:Int)=((256*x+b:Nat):Int):=by
 rw [bits_or_u64_nat (x*256) b (by omega) (by omega)]
 congr 1
 rw [show x*256=2^8*x by omega,←Nat.two_pow_add_eq_or_of_lt (by omega)]
theorem wget_spec (st:RS) (hl: ∀b,st=some b→b.length≤1000000) (d:Nat) (c:Id) (hc:c.isIt=false) (hd:c.isNw d=false):
  SpH Tryz.prog gl 124 d ⟨[.ptr c 0,.int .u8 0],[(c,rdv st)],[]⟩ ⟨.tup [.int .u8 0,u (getN st).2],[(c,rdv (getN st).1)],[]⟩:=by
 refine h124 rfl ?_
 have hi:=inn_notNw hd
 have T1:=wtake_spec st 1 hl (by omega) 16 (.up c) hc rfl
 rcases st with _|b
 ·simp only [takeN,rdv,getN] at *
  simp -implicitDefEqProofs [c124]
  refine onH_mk _ _ T1 ⟨?_,?_,?_,?_,?_,?_,?_⟩ ?_
  iterate 7 (· simp)
  simp -implicitDefEqProofs
  refine postH_r ⟨?_,?_,?_,?_,?_,?_⟩<;>simp -implicitDefEqProofs [hi,hc]
 rcases b with _|⟨k,r⟩
 ·simp only [takeN,rdv,getN] at *
  simp -implicitDefEqProofs [c124]
  refine onH_mk _ _ T1 ⟨?_,?_,?_,?_,?_,?_,?_⟩ ?_
  iterate 7 (· simp)
  simp -implicitDefEqProofs
  refine postH_r ⟨?_,?_,?_,?_,?_,?_⟩<;>simp -implicitDefEqProofs [hi,hc]
 have hr:r.length≤1000000:=by have:=hl _ rfl;simp at this;omega
 have e1:takeN (some (k::r)) 1=(some r,[k]):=by simp [takeN]
 rw [e1] at T1
 simp only [rdv,Option.isSome_some] at T1
 rw [show byteRows [k]=[[.int .u8 k.toNat]] from rfl] at T1
 have T2:=wtake_spec (some r) k.toNat (fun b hb=>by cases hb;exact hr) (by have:=k.toNat_lt;omega) 39 (.up c) hc rfl
 have F2:=wfail_spec (some r) 34 (.up c) hc rfl
 have k256:k.toNat<256:=k.toNat_lt
 have a1:=and0_u8 k.toNat k256
 have a2:=andNot0_u8 k.toNat k256
 have w1:IntKind.u64.wrap (k.toNat:Int)=k.toNat:=by rw [wrap_u64]<;>omega
 generalize hkk:k.toNat=kk at *
 by_cases g8:kk≤8
 ·have g8': ¬(8:Int)<kk:=by omega
  have g8n: ¬8<kk:=by omega
  by_cases gln:kk≤r.length
  ·have e2:takeN (some r) kk=(some (r.drop kk),r.take kk):=by simp [takeN,gln]
   rw [e2] at T2
   have F3:=wfail_spec (some (r.drop kk)) 55 (.up c) hc rfl
   simp only [rdv,Option.isSome_some] at T2 F3
   by_cases gz:0<kk∧r.headD 1=0
   ·have eg:getN (some (k::r))=(none,0):=by simp only [getN,hkk];rw [if_neg (fun h=>h.2.2 gz)]
    rw [eg]
    obtain ⟨r0,rr,rfl⟩: ∃r0 rr,r=r0::rr:=by
     cases r with
     |nil=>simp at gln;omega
     |cons a b=>exact ⟨a,b,rfl⟩
    have r00:r0=0:=gz.2
    obtain ⟨m,hm⟩: ∃m,kk=m+1:=⟨kk - 1,by omega⟩
    have e3:byteRows (List.take kk (r0::rr))=[.int .u8 0]::byteRows (rr.take m):=by rw [hm,r00];rfl
    rw [e3] at T2
    have p1:(0:Int)<kk:=by omega
    have p2:0<kk:=gz.1
    simp only [rdv] at *
    generalize byteRows (rr.take m)=B1 at *
    generalize byteRows (List.drop kk (r0::rr))=B2 at *
    generalize byteRows (r0::rr)=B3 at *
    generalize byteRows (k::r0::rr)=B4 at *
    simp -implicitDefEqProofs [c124]
    refine onH_mk _ _ T1 ⟨?_,?_,?_,?_,?_,?_,?_⟩ ?_
    iterate 7 (· simp)
    simp -implicitDefEqProofs [a1,a2,g8',g8n,w1]
    refine onH_mk _ _ T2 ⟨?_,?_,?_,?_,?_,?_,?_⟩ ?_
    iterate 7 (· simp)
    simp -implicitDefEqProofs [p1,p2]
    refine onH_mk _ _ F3 ⟨?_,?_,?_,?_,?_,?_,?_⟩ ?_
    iterate 7 (· simp)
    simp -implicitDefEqProofs
    refine postH_r ⟨?_,?_,?_,?_,?_,?_⟩<;>simp -implicitDefEqProofs [hi,hc]
   ·have eg:getN (some (k::r))=(some (r.drop kk),numOf (r.take kk)):=by simp only [getN,hkk];rw [if_pos ⟨g8,gln,gz⟩]
    rw [eg]
    obtain ⟨q,hq⟩: ∃q,q=r.take kk:=⟨_,rfl⟩
    have ql:q.length=kk:=by rw [hq,List.length_take];omega
    rw [←hq] at T2 ⊢
    have hz:0<kk→ ∃q0 qq,q=q0::qq∧((q0.toNat:Int)==0)=false:=by
     intro h0
     cases r with
     |nil=>simp at gln;omega
     |cons r0 rr=>
      obtain ⟨m,hm⟩: ∃m,kk=m+1:=⟨kk - 1,by omega⟩
      refine ⟨r0,rr.take m,by rw [hq,hm];rfl,?_⟩
      simp only [beq_eq_false_iff_ne,ne_eq]
      intro e
      exact gz ⟨h0,UInt8.toNat.inj (by simp only [List.headD_cons];rw [show r0.toNat=0 by omega];rfl)⟩
    clear hq gz e2 F2 F3
    have loop: ∀(K:AE→St→Prop) (e:List (Nat×AV)),lk e 0= .ptr (.up c) 0→lk e 8= .int .u8 0→lk e 10= .sl (byteRows q)→
      (∀e',lk e' 0= .ptr (.up c) 0→True)→wpA (SpH Tryz.prog gl) (AC.tl 8 c124) (postH d [.t 4,.t 5] ⟨.tup [.int .u8 0,u (numOf q)],[(c,[.sl (byteRows (r.drop kk)),.bool false])],[]⟩) ⟨e,[(.up c,[.sl (byteRows (r.drop kk)),.bool false])],[]⟩:=by
     intro K e l0 l8 l10 _
     have bl:=byteRows_len q
     have bat:=byteRows_at q
     simp only [c124,AC.tl]
     generalize byteRows (r.drop kk)=B2 at *
     generalize byteRows q=B1 at *
     simp -implicitDefEqProofs [l0,l8,l10,bl]
     refine wp_lpk (α:=Nat) (fun i=>⟨[(0,.ptr (.up c) 0),(8,.int .u8 0),(11,u (numOf (q.take i))),(56,.sl B1),(57,i6 q.length),(58,i6 i)],[(.up c,[.sl B2,.bool false])],[]⟩) (fun i=>i≤q.length) (fun i=>q.length - i) ?_ 0 ?_ ?_
     ·rintro K i hK h1
      by_cases g:i<q.length
      ·have b1:=bat i g
       have nt:=numOf_take q i g
       have nl:=numOf_lt (q.take i)
       rw [List.length_take,Nat.min_eq_left (by omega)] at nl
       have nl2:numOf (q.take i)<72057594037927936:=by
        refine Nat.lt_of_lt_of_le nl ?_
        exact Nat.le_trans (Nat.pow_le_pow_right (by omega) (show i≤7 by omega)) (by decide)
       have t1:IntKind.i64.wrap ((i:Int)+1)=(i+1:Nat):=by rw [wrap_i64]<;>omega
       have fin: ∀σ',Weak σ' ⟨[(0,.ptr (.up c) 0),(8,.int .u8 0),(11,u (numOf (q.take (i+1)))),(56,.sl B1),(57,i6 q.length),(58,i6 (i+1:Nat))],[(.up c,[.sl B2,.bool false])],[]⟩→K σ':=
        fun σ' hσ=>hK (i+1) σ' (by omega) (by omega) hσ
       obtain ⟨y,hy⟩: ∃y,q[i]=y:=⟨_,rfl⟩
       rw [hy] at b1 nt
       have y256:y.toNat<256:=y.toNat_lt
       have s8:=shl8 (numOf (q.take i)) nl2
       have o8:=or8 (numOf (q.take i)) y.toNat nl2 y256
       have w2:IntKind.u64.wrap (y.toNat:Int)=y.toNat:=by rw [wrap_u64]<;>omega
       rw [nt] at fin
       clear hK nt
       generalize numOf (q.take i)=x at *
       obtain ⟨z,hz⟩: ∃z:Nat,z=256*x+y.toNat:=⟨_,rfl⟩
       rw [←hz] at o8 fin
       obtain ⟨x8,hx8⟩: ∃x8:Nat,x8=x*256:=⟨_,rfl⟩
       rw [←hx8] at o8 s8
       have b1': ∀h,B1[i]=[.int .u8 y.toNat]:=fun h=>by rw [List.getElem?_eq_getElem h] at b1;exact Option.some.inj b1
       simp -implicitDefEqProofs [g,bl,b1',s8,w2,o8]
       refine fin _ (weak_mk ?_ ?_ ?_ ?_ ?_ ?_)<;>simp -implicitDefEqProofs [t1]
      ·obtain rfl:i=q.length:=by omega
       rw [List.take_length]
       generalize numOf q=x at *
       clear hK
       simp -implicitDefEqProofs
       refine postH_r ⟨?_,?_,?_,?_,?_,?_⟩<;>simp -implicitDefEqProofs [hi,hc]
     ·exact Nat.zero_le _
     ·refine weak_mk ?_ ?_ ?_ ?_ ?_ ?_<;>simp -implicitDefEqProofs [numOf,l0,l8]
    have ec:c124=AC.cutAt 8 (AC.tl 8 c124) c124:=rfl
    rw [ec]
    generalize AC.tl 8 c124=t at loop ⊢
    have loop':=fun e l0 l8 l10=>loop (fun _ _=>True) e l0 l8 l10 (fun _ _=>trivial)
    clear loop
    simp only [c124,AC.cutAt]
    by_cases p2:0<kk
    ·have p1:(0:Int)<kk:=by omega
     obtain ⟨q0,qq,rfl,hq0⟩:=hz p2
     rw [byteRows_cons] at T2 loop'
     simp only [rdv] at *
     generalize byteRows qq=B1 at *
     generalize byteRows (r.drop kk)=B2 at *
     generalize byteRows r=B3 at *
     generalize byteRows (k::r)=B4 at *
     simp -implicitDefEqProofs
     refine onH_mk _ _ T1 ⟨?_,?_,?_,?_,?_,?_,?_⟩ ?_
     iterate 7 (· simp)
     simp -implicitDefEqProofs [a1,a2,g8',g8n,w1]
     refine onH_mk _ _ T2 ⟨?_,?_,?_,?_,?_,?_,?_⟩ ?_
     iterate 7 (· simp)
     simp -implicitDefEqProofs [p1,p2,hq0]
     refine loop' _ ?_ ?_ ?_<;>simp -implicitDefEqProofs
    ·have p1: ¬(0:Int)<kk:=by omega
     simp only [rdv] at *
     generalize byteRows q=B1 at *
     generalize byteRows (r.drop kk)=B2 at *
     generalize byteRows r=B3 at *
     generalize byteRows (k::r)=B4 at *
     simp -implicitDefEqProofs
     refine onH_mk _ _ T1 ⟨?_,?_,?_,?_,?_,?_,?_⟩ ?_
     iterate 7 (· simp)
     simp -implicitDefEqProofs [a1,a2,g8',g8n,w1]
     refine onH_mk _ _ T2 ⟨?_,?_,?_,?_,?_,?_,?_⟩ ?_
     iterate 7 (· simp)
     simp -implicitDefEqProofs [p1,p2]
     refine loop' _ ?_ ?_ ?_<;>simp -implicitDefEqProofs
  ·have eg:getN (some (k::r))=(none,0):=by simp only [getN,hkk];rw [if_neg (fun h=>gln h.2.1)]
   rw [eg]
   have e2:takeN (some r) kk=(none,[]):=by simp [takeN,gln]
   rw [e2] at T2
   have F3:=wfail_spec none 55 (.up c) hc rfl
   simp only [rdv,Option.isSome_none] at *
   generalize byteRows r=B3 at *
   generalize byteRows (k::r)=B4 at *
   simp -implicitDefEqProofs [c124]
   refine onH_mk _ _ T1 ⟨?_,?_,?_,?_,?_,?_,?_⟩ ?_
   iterate 7 (· simp)
   simp -implicitDefEqProofs [a1,a2,g8',g8n,w1]
   refine onH_mk _ _ T2 ⟨?_,?_,?_,?_,?_,?_,?_⟩ ?_
   iterate 7 (· simp)
   simp -implicitDefEqProofs
   refine onH_mk _ _ F3 ⟨?_,?_,?_,?_,?_,?_,?_⟩ ?_
   iterate 7 (· simp)
   simp -implicitDefEqProofs
   refine postH_r ⟨?_,?_,?_,?_,?_,?_⟩<;>simp -implicitDefEqProofs [hi,hc]
 ·have g8':(8:Int)<kk:=by omega
  have g8n:8<kk:=by omega
  have eg:getN (some (k::r))=(none,0):=by simp only [getN,hkk];rw [if_neg (fun h=>g8 h.1)]
  rw [eg]
  simp only [rdv] at *
  generalize byteRows r=B3 at *
  generalize byteRows (k::r)=B4 at *
  simp -implicitDefEqProofs [c124]
  refine onH_mk _ _ T1 ⟨?_,?_,?_,?_,?_,?_,?_⟩ ?_
  iterate 7 (· simp)
  simp -implicitDefEqProofs [a1,a2,g8',g8n]
  refine onH_mk _ _ F2 ⟨?_,?_,?_,?_,?_,?_,?_⟩ ?_
  iterate 7 (· simp)
  simp -implicitDefEqProofs
  refine postH_r ⟨?_,?_,?_,?_,?_,?_⟩<;>simp -implicitDefEqProofs [hi,hc]
end Go.Ai
namespace Go.Ai
open Go.Proofs Go.RowKit
def rsLe (st:RS) (n:Nat):Prop:= ∀b,st=some b→b.length≤n
theorem getN_le {st:RS} {n:Nat} (h:rsLe st n):rsLe (getN st).1 n:=by
 intro b hb
 rcases st with _|s
 ·cases hb
 ·rcases s with _|⟨k,r⟩
  ·cases hb
  ·have:=h _ rfl
   simp only [getN] at hb
   split at hb
   ·cases hb;simp at this ⊢;omega
   ·cases hb
theorem flagN_le {st:RS} {n:Nat} (h:rsLe st n):rsLe (flagN st).1 n:=by
 intro b hb
 rcases st with _|s
 ·cases hb
 ·rcases s with _|⟨k,r⟩
  ·cases hb
  ·have:=h _ rfl
   simp only [flagN] at hb
   split at hb
   ·cases hb;simp at this ⊢;omega
   ·cases hb
theorem rdv_ids (st:RS):idsL (rdv st)=[]:=by cases st<;>rfl
theorem rdv_mp (st:RS) (f:Id→Id):mpL f (rdv st)=rdv st:=mpL_noids (rdv_ids st)
theorem wNum_spec (st:RS) (hl:rsLe st 1000000) (d:Nat) (c:Id) (hc:c.isIt=false) (hd:c.isNw d=false):
  SpH Tryz.prog gl 77 d ⟨[.ptr c 0],[(c,rdv st)],[]⟩ ⟨u (getN st).2,[(c,rdv (getN st).1)],[]⟩:=by
 refine h77 rfl ?_
 have hi:=inn_notNw hd
 have G:=wget_spec st hl 7 (.up c) hc rfl
 have i1:=rdv_ids st
 have i2:=rdv_ids (getN st).1
 have m1:=rdv_mp st
 have m2:=rdv_mp (getN st).1
 generalize rdv (getN st).1=B2 at *
 generalize rdv st=B1 at *
 generalize (getN st).2=n at *
 simp only [inSt,mpL,mpB,mpP,AV.mp,m1]
 simp -implicitDefEqProofs [c77]
 refine onH_mk _ _ G ⟨?_,?_,?_,?_,?_,?_,?_⟩ ?_
 iterate 7 (· simp)
 simp -implicitDefEqProofs
 refine postH_r ⟨?_,?_,?_,?_,?_,?_⟩<;>simp -implicitDefEqProofs [hi,hc,i2,m2]
theorem wCountM_spec (st:RS) (hl:rsLe st 1000000) (d:Nat) (c:Id) (hc:c.isIt=false) (hd:c.isNw d=false):
  SpH Tryz.prog gl 121 d ⟨[.ptr c 0,i6 (-1)],[(c,rdv st)],[]⟩ ⟨i6 0,[(c,rdv none)],[]⟩:=by
 refine h121 rfl ?_
 have hi:=inn_notNw hd
 have G:=wNum_spec st hl 7 (.up c) hc rfl
 have F:=wfail_spec (getN st).1 17 (.up c) hc rfl
 have i1:=rdv_ids st
 have i2:=rdv_ids (getN st).1
 have m1:=rdv_mp st
 have m2:=rdv_mp (getN st).1
 simp only [show rdv none=[.sl [],.bool true] from rfl] at F ⊢
 generalize rdv (getN st).1=B2 at *
 generalize rdv st=B1 at *
 generalize (getN st).2=n at *
 simp only [inSt,mpL,mpB,mpP,AV.mp,m1]
 simp -implicitDefEqProofs [c121]
 refine onH_mk _ _ G ⟨?_,?_,?_,?_,?_,?_,?_⟩ ?_
 iterate 7 (· simp)
 simp -implicitDefEqProofs
 refine onH_mk _ _ F ⟨?_,?_,?_,?_,?_,?_,?_⟩ ?_
 iterate 7 (· simp)
 simp -implicitDefEqProofs
 refine postH_r ⟨?_,?_,?_,?_,?_,?_⟩<;>simp -implicitDefEqProofs [hi,hc]
end Go.Ai
namespace Go.Ai
def rdS (st:RS):Nat→RS
 |0=>st
 |i+1=>(getN (getN (rdS st i)).1).1
def rdG (st:RS) (i:Nat):Nat:=(getN (rdS st i)).2
def rdT (st:RS) (i:Nat):Nat:=(getN (getN (rdS st i)).1).2
def suT (v:Nat→Nat):Nat→Nat
 |0=>0
 |n+1=>suT v n+v n
def bkG (K N:Nat) (v:Nat→Nat):Nat→Nat→Nat
 |0=>fun _=>0
 |i+1=>if K≤N+1+i then upd (bkG K N v i) ((N+1+i - K)%K) (bkG K N v i ((N+1+i - K)%K)+v i) else bkG K N v i
theorem bkG_le (K N:Nat) (v:Nat→Nat): ∀i j,bkG K N v i j≤suT v i
 |0,j=>Nat.le_refl _
 |i+1,j=>by
  have h1:=bkG_le K N v i j
  have h2:=bkG_le K N v i ((N+1+i - K)%K)
  simp only [bkG,suT]
  split
  ·unfold upd;split<;>omega
  ·omega
theorem suT_le {a b:Nat→Nat}: ∀ {n:Nat},(∀i,i<n→a i≤b i)→suT a n≤suT b n
 |0,_=>Nat.le_refl _
 |n+1,h=>by
  have:=suT_le (n:=n) (fun i hi=>h i (by omega))
  have:=h n (by omega)
  simp only [suT];omega
theorem suT_congr {a b:Nat→Nat}: ∀ {n:Nat},(∀i,i<n→a i=b i)→suT a n=suT b n
 |0,_=>rfl
 |n+1,h=>by rw [suT,suT,suT_congr (fun i hi=>h i (by omega)),h n (by omega)]
structure ROk (K N:Nat) (st:RS) (i:Nat):Prop where
 sm:(rdS st (i+1)).isNone=false
 gt:rdG st i≤rdT st i
 m1:rdT st i≤9223372036854775807
 m2:suT (rdT st) i+rdT st i≤9223372036854775807
 z:K≤N+1+i∨(rdG st i=0∧rdT st i=0)
theorem numOf_lt' (r:List UInt8): ∀n,r.length≤n→numOf r<256^n:=by
 intro n h
 exact Nat.lt_of_lt_of_le (numOf_lt r) (Nat.pow_le_pow_right (by omega) h)
theorem getN_lt (st:RS):(getN st).2<18446744073709551616:=by
 unfold getN
 split
 ·split
  ·rename_i k r h
   have:=numOf_lt' (r.take k.toNat) 8 (by simp;omega)
   simpa using this
  ·simp
 ·simp
theorem rdS_le {st:RS} {n:Nat} (h:rsLe st n): ∀i,rsLe (rdS st i) n
 |0=>h
 |i+1=>getN_le (getN_le (rdS_le h i))
theorem rdS_none: ∀i,rdS none i=none
 |0=>rfl
 |i+1=>by rw [rdS,rdS_none i];rfl
theorem rdS_put {f g:Nat→Nat}: ∀ {n:Nat} {r:List UInt8},(∀i,i<n→f i<18446744073709551616∧g i<18446744073709551616)→rdS (some (cntB f g n++r)) n=some r
 |0,r,_=>rfl
 |n+1,r,h=>by
  rw [rdS,cntB,List.append_assoc,List.append_assoc,rdS_put (n:=n) (fun i hi=>h i (by omega)),getN_put _ _ (h n (by omega)).1]
  show (getN (some (numB (g n)++r))).1=_
  rw [getN_put _ _ (h n (by omega)).2]
theorem cntB_split {f g:Nat→Nat} {i:Nat}: ∀ {n:Nat},i<n→ ∃t,∀r,cntB f g n++r=cntB f g i++(numB (f i)++(numB (g i)++(t++r)))
 |n+1,h=>by
  by_cases e:i=n
  ·subst e
   exact ⟨[],fun r=>by rw [cntB];simp only [List.append_assoc,List.nil_append]⟩
  ·obtain ⟨t,ht⟩:=cntB_split (f:=f) (g:=g) (n:=n) (i:=i) (by omega)
   refine ⟨t++(numB (f n)++numB (g n)),fun r=>?_⟩
   rw [cntB,List.append_assoc,ht]
   simp only [List.append_assoc]
theorem rd_put {f g:Nat→Nat} {n:Nat} {r:List UInt8} (h: ∀i,i<n→f i<18446744073709551616∧g i<18446744073709551616) {i:Nat} (hi:i<n):rdG (some (cntB f g n++r)) i=f i∧rdT (some (cntB f g n++r)) i=g i∧(rdS (some (cntB f g n++r)) (i+1)).isNone=false:=by
 obtain ⟨t,ht⟩:=cntB_split (f:=f) (g:=g) hi
 have e:rdS (some (cntB f g n++r)) i=some (numB (f i)++(numB (g i)++(t++r))):=by rw [ht,rdS_put (fun j hj=>h j (by omega))]
 unfold rdG rdT
 rw [rdS,e,getN_put _ _ (h i hi).1]
 simp only
 rw [getN_put _ _ (h i hi).2]
 and_intros<;>first|rfl|trivial
theorem bkG_at {K N:Nat} {v:Nat→Nat} (hK:1≤K): ∀ {i j:Nat},i≤K→j<K→bkG K N v i j=if ∃k,k<i∧K≤N+1+k∧(N+1+k - K)%K=j then v ((j+K - (N+1)%K)%K) else 0:=by
 intro i j hi hj
 have inv: ∀k,k<K→K≤N+1+k→(N+1+k - K)%K=j→k=(j+K - (N+1)%K)%K:=by
  intro k hk h1 h2
  have e1:(N+1+k)%K=j:=by
   rw [←h2]
   have:N+1+k=(N+1+k - K)+K:=by omega
   rw [this,Nat.add_mod_right,Nat.add_sub_cancel]
  have h3:=Nat.mod_lt (N+1) (show 0<K by omega)
  have h4:(N+1+k)%K=((N+1)%K+k)%K:=by rw [Nat.add_mod,Nat.mod_eq_of_lt hk]
  rw [h4] at e1
  generalize (N+1)%K=a at *
  by_cases c:a+k<K
  ·rw [Nat.mod_eq_of_lt c] at e1
   have:j+K - a=k+K:=by omega
   rw [this,Nat.add_mod_right,Nat.mod_eq_of_lt hk]
  ·have e2:(a+k)%K=a+k - K:=by
    have:a+k=(a+k - K)+K:=by omega
    rw [this,Nat.add_mod_right,Nat.mod_eq_of_lt (by omega),Nat.add_sub_cancel]
   rw [e2] at e1
   have:j+K - a=k:=by omega
   rw [this,Nat.mod_eq_of_lt hk]
 induction i with
 |zero=>rw [if_neg (by rintro ⟨k,h,_⟩;omega)];rfl
 |succ i ih=>
  have ih:=ih (by omega)
  rw [bkG]
  by_cases c:K≤N+1+i
  ·rw [if_pos c]
   by_cases e:(N+1+i - K)%K=j
   ·have z:bkG K N v i j=0:=by
     rw [ih,if_neg]
     rintro ⟨k,h1,h2,h3⟩
     have a:=inv k (by omega) h2 h3
     have b:=inv i (by omega) c e
     omega
    unfold upd
    rw [if_pos e.symm,e,z,if_pos ⟨i,by omega,c,e⟩,←inv i (by omega) c e,Nat.zero_add]
   ·unfold upd
    rw [if_neg (fun q=>e q.symm),ih]
    by_cases q: ∃k,k<i∧K≤N+1+k∧(N+1+k - K)%K=j
    ·obtain ⟨k,h1,h2⟩:=q
     rw [if_pos ⟨k,h1,h2⟩,if_pos ⟨k,by omega,h2⟩]
    ·rw [if_neg q,if_neg]
     rintro ⟨k,h1,h2,h3⟩
     by_cases g:k=i
     ·subst g;exact e h3
     ·exact q ⟨k,by omega,h2,h3⟩
  ·rw [if_neg c,ih]
   by_cases q: ∃k,k<i∧K≤N+1+k∧(N+1+k - K)%K=j
   ·obtain ⟨k,h1,h2⟩:=q
    rw [if_pos ⟨k,h1,h2⟩,if_pos ⟨k,by omega,h2⟩]
   ·rw [if_neg q,if_neg]
    rintro ⟨k,h1,h2,h3⟩
    by_cases g:k=i
    ·subst g;exact c h2
    ·exact q ⟨k,by omega,h2,h3⟩
theorem bkI_bkG {K N:Nat} {v:Nat→Nat} (hK:1≤K) {i:Nat} (hi:i<K):bkI K N (bkG K N v K) i=if K≤N+1+i then v i else 0:=by
 unfold bkI
 by_cases c:K≤N+1+i
 ·rw [if_pos c,if_pos c]
  have hj:=Nat.mod_lt (N+1+i - K) (show 0<K by omega)
  have ex: ∃k,k<K∧K≤N+1+k∧(N+1+k - K)%K=(N+1+i - K)%K:=⟨i,hi,c,rfl⟩
  rw [bkG_at hK (Nat.le_refl _) hj,if_pos ex]
  congr 1
  have e1:(N+1+i)%K=(N+1+i - K)%K:=by
   have:N+1+i=(N+1+i - K)+K:=by omega
   rw [this,Nat.add_mod_right,Nat.add_sub_cancel]
  rw [←e1]
  have h3:=Nat.mod_lt (N+1) (show 0<K by omega)
  have h4:(N+1+i)%K=((N+1)%K+i)%K:=by rw [Nat.add_mod,Nat.mod_eq_of_lt hi]
  rw [h4]
  generalize (N+1)%K=a at *
  by_cases g:a+i<K
  ·rw [Nat.mod_eq_of_lt g]
   have:a+i+K - a=i+K:=by omega
   rw [this,Nat.add_mod_right,Nat.mod_eq_of_lt hi]
  ·have e2:(a+i)%K=a+i - K:=by
    have:a+i=(a+i - K)+K:=by omega
    rw [this,Nat.add_mod_right,Nat.mod_eq_of_lt (by omega),Nat.add_sub_cancel]
   rw [e2]
   have:a+i - K+K - a=i:=by omega
   rw [this,Nat.mod_eq_of_lt hi]
 ·rw [if_neg c,if_neg c]
theorem bkG_bN {v:Ev→Nat} {K w N:Nat} {L:List Ev} (hK:1≤K) (hL: ∀e∈L,e.1 / w≤N) {j:Nat} (hj:j<K):bkG K N (bN v K w N L) K j=bkv v K w (inW K N) L j:=by
 rw [bkG_at hK (Nat.le_refl _) hj]
 by_cases q: ∃k,k<K∧K≤N+1+k∧(N+1+k - K)%K=j
 ·rw [if_pos q]
  obtain ⟨k,h1,h2,h3⟩:=q
  have e:=bkI_bkG (N:=N) (v:=bN v K w N L) hK h1
  rw [if_pos h2] at e
  unfold bkI at e
  rw [if_pos h2,h3,bkG_at hK (Nat.le_refl _) hj,if_pos ⟨k,h1,h2,h3⟩] at e
  rw [e]
  have e2:=bkI_bN (v:=v) (K:=K) (w:=w) hL h1
  unfold bkI at e2
  rw [if_pos h2,h3] at e2
  rw [e2]
 ·rw [if_neg q]
  unfold bkv
  symm
  refine sm_zero fun e he=>?_
  have h1:=hL e he
  generalize e.1 / w=n at *
  rw [Bool.and_eq_false_iff]
  by_cases c:inW K N n=true
  ·right
   rw [beq_eq_false_iff_ne]
   intro h2
   simp only [inW,decide_eq_true_eq] at c
   exact q ⟨n+K - (N+1),by omega,by omega,by rw [show N+1+(n+K - (N+1)) - K=n by omega];exact h2⟩
  ·left;simpa using c
theorem suT_bN {v:Ev→Nat} {K w N:Nat}: ∀ {L:List Ev},(∀e∈L,e.1 / w≤N)→suT (bN v K w N L) K=sm v w (inW K N) L:=by
 intro L hL
 have step: ∀m,m≤K→suT (bN v K w N L) m=sm v w (fun q=>decide (K≤q+K∧N+1≤q+K∧q+K<N+1+m)) L:=by
  intro m
  induction m with
  |zero=>intro _;exact (sm_zero fun e _=>by rw [decide_eq_false_iff_not];omega).symm
  |succ m ih=>
   intro hm
   rw [suT,ih (by omega),sm_split v w (fun q=>decide (K≤q+K∧N+1≤q+K∧q+K<N+1+(m+1))) (fun q=>decide (q+K<N+1+m))]
   congr 1
   ·refine sm_congr fun e _=>?_
    rw [Bool.eq_iff_iff];simp only [Bool.and_eq_true,decide_eq_true_eq]
    constructor<;>intro h<;>omega
   ·unfold bN
    by_cases c:K≤N+1+m
    ·rw [if_pos c]
     refine sm_congr fun e _=>?_
     rw [Bool.eq_iff_iff];simp only [Bool.and_eq_true,decide_eq_true_eq,Bool.not_eq_true',decide_eq_false_iff_not,beq_iff_eq]
     constructor<;>intro h<;>omega
    ·rw [if_neg c]
     refine (sm_zero fun e _=>?_).symm
     rw [Bool.and_eq_false_iff,decide_eq_false_iff_not,Bool.not_eq_false',decide_eq_true_eq];omega
 rw [step K (Nat.le_refl _)]
 refine sm_congr fun e he=>?_
 have:=hL e he
 generalize e.1 / w=q at *
 rw [Bool.eq_iff_iff];simp only [inW,decide_eq_true_eq];omega
end Go.Ai
namespace Go.Ai
open Go.Proofs Go.RowKit
theorem wFlag_spec (st:RS) (hl:rsLe st 1000000) (d:Nat) (c:Id) (hc:c.isIt=false) (hd:c.isNw d=false):
    SpH Tryz.prog gl 76 d ⟨[.ptr c 0],[(c,rdv st)],[]⟩ ⟨.bool (flagN st).2,[(c,rdv (flagN st).1)],[]⟩:=by
  refine h76 rfl ?_
  have hi:=inn_notNw hd
  have T:=wtake_spec st 1 hl (by omega) 7 (.up c) hc rfl
  rcases st with _|s
  · have F:=wfail_spec none 19 (.up c) hc rfl
    simp only [takeN,flagN,rdv] at *
    simp -implicitDefEqProofs [c76]
    refine onH_mk _ _ T ⟨?_,?_,?_,?_,?_,?_,?_⟩ ?_
    iterate 7 (· simp)
    simp -implicitDefEqProofs
    refine onH_mk _ _ F ⟨?_,?_,?_,?_,?_,?_,?_⟩ ?_
    iterate 7 (· simp)
    simp -implicitDefEqProofs
    refine postH_r ⟨?_,?_,?_,?_,?_,?_⟩<;>simp -implicitDefEqProofs [hi,hc]
  rcases s with _|⟨k,r⟩
  · have F:=wfail_spec none 19 (.up c) hc rfl
    simp only [takeN,flagN,rdv] at *
    simp -implicitDefEqProofs [c76]
    refine onH_mk _ _ T ⟨?_,?_,?_,?_,?_,?_,?_⟩ ?_
    iterate 7 (· simp)
    simp -implicitDefEqProofs
    refine onH_mk _ _ F ⟨?_,?_,?_,?_,?_,?_,?_⟩ ?_
    iterate 7 (· simp)
    simp -implicitDefEqProofs
    refine postH_r ⟨?_,?_,?_,?_,?_,?_⟩<;>simp -implicitDefEqProofs [hi,hc]
  · have e1:takeN (some (k::r)) 1=(some r,[k]):=by simp [takeN]
    rw [e1] at T
    have F:=wfail_spec (some r) 19 (.up c) hc rfl
    have k1:(k==1)=((k.toNat:Int)==1):=by
      rw [Bool.eq_iff_iff]
      simp only [beq_iff_eq]
      constructor
      · rintro rfl;rfl
      · intro e; exact UInt8.toNat.inj (by have : k.toNat = 1 := by omega
                                           rw [this];rfl)
    simp only [rdv,Option.isSome_some] at T F
    rw [show byteRows [k]=[[.int .u8 k.toNat]] from rfl] at T
    by_cases g:k.toNat≤1
    · have g': ¬(1:Int)<k.toNat:=by omega
      have g2: ¬1<k.toNat:=by omega
      simp only [flagN,g,if_true,rdv,k1]
      generalize k.toNat=kk at *
      generalize byteRows r=B3 at *
      generalize byteRows (k::r)=B4 at *
      simp -implicitDefEqProofs [c76]
      refine onH_mk _ _ T ⟨?_,?_,?_,?_,?_,?_,?_⟩ ?_
      iterate 7 (· simp)
      simp -implicitDefEqProofs [g',g2]
      refine postH_r ⟨?_,?_,?_,?_,?_,?_⟩<;>simp -implicitDefEqProofs [hi,hc]
    · have g':(1:Int)<k.toNat:=by omega
      have g2:1<k.toNat:=by omega
      simp only [flagN,g,if_false,rdv]
      generalize k.toNat=kk at *
      generalize byteRows r=B3 at *
      generalize byteRows (k::r)=B4 at *
      simp -implicitDefEqProofs [c76]
      refine onH_mk _ _ T ⟨?_,?_,?_,?_,?_,?_,?_⟩ ?_
      iterate 7 (· simp)
      simp -implicitDefEqProofs [g',g2]
      refine onH_mk _ _ F ⟨?_,?_,?_,?_,?_,?_,?_⟩ ?_
      iterate 7 (· simp)
      simp -implicitDefEqProofs
      refine postH_r ⟨?_,?_,?_,?_,?_,?_⟩<;>simp -implicitDefEqProofs [hi,hc]
def endN:RS→Nat
  |some b=>if b.length=0 then 0 else 10
  |none=>10
theorem wEnd_spec (st:RS) (d:Nat) (c:Id) (hc:c.isIt=false) (hd:c.isNw d=false):
    SpH Tryz.prog gl 39 d ⟨[.ptr c 0],[(c,rdv st)],[]⟩ ⟨i6 (endN st),[(c,rdv st)],[]⟩:=by
  refine h39 rfl ?_
  have hi:=inn_notNw hd
  have Bd:=wbad_spec st 4 (.up c) hc rfl
  cases st with
  |none=>
    simp only [rdv,endN] at *
    simp -implicitDefEqProofs [c39]
    refine onH_mk _ _ Bd ⟨?_,?_,?_,?_,?_,?_,?_⟩ ?_
    iterate 7 (· simp)
    simp -implicitDefEqProofs
    refine postH_r ⟨?_,?_,?_,?_,?_,?_⟩<;>simp -implicitDefEqProofs [hi,hc]
  |some b=>
    have bl:=byteRows_len b
    simp only [rdv,endN] at *
    by_cases g:b.length=0
    · have g': ¬(0:Int)<b.length:=by omega
      have g2: ¬0<b.length:=by omega
      rw [if_pos g]
      generalize byteRows b=B at *
      simp -implicitDefEqProofs [c39]
      refine onH_mk _ _ Bd ⟨?_,?_,?_,?_,?_,?_,?_⟩ ?_
      iterate 7 (· simp)
      simp -implicitDefEqProofs [bl,g',g2,g]
      refine postH_r ⟨?_,?_,?_,?_,?_,?_⟩<;>simp -implicitDefEqProofs [hi,hc]
    · have g':(0:Int)<b.length:=by omega
      have g2:0<b.length:=by omega
      rw [if_neg g]
      generalize byteRows b=B at *
      simp -implicitDefEqProofs [c39]
      refine onH_mk _ _ Bd ⟨?_,?_,?_,?_,?_,?_,?_⟩ ?_
      iterate 7 (· simp)
      simp -implicitDefEqProofs [bl,g',g2]
      refine postH_r ⟨?_,?_,?_,?_,?_,?_⟩<;>simp -implicitDefEqProofs [hi,hc]
theorem wNew_spec (b:List UInt8) (d:Nat):SpH Tryz.prog gl 28 d ⟨[.sl (byteRows b)],[],[]⟩ ⟨.ptr (.nw d (.n 5)) 0,[(.nw d (.n 5),rdv (some b))],[]⟩:=by
  refine h28 rfl ?_
  simp only [rdv]
  generalize byteRows b=B
  simp only [inSt,mpL,mpB,mpP,AV.mp]
  simp -implicitDefEqProofs [c28]
  refine postH_r ⟨?_,?_,?_,?_,?_,?_⟩<;>simp -implicitDefEqProofs
end Go.Ai
