/- P1: a part of the proof: the rules, or what functions compute. Conditions: as each theorem says. -/
import Derived.Test.YtidcomakahbepaaGreatDoorCode
import Derived.Laws.Bits64b
set_option linter.unusedSimpArgs false
set_option linter.unusedVariables false
set_option maxRecDepth 20000
namespace Go.Ai
open Go.Proofs
abbrev u (n:Nat):AV:= .int .u64 n
abbrev i6 (n:Int):AV:= .int .i64 n

open Go.Proofs

open Go.Proofs

def lenN (x:Nat):Nat:=if x=0 then 0 else Nat.log2 x+1
def lenT:List UInt8:=(List.range 256).map fun x=>UInt8.ofNat (lenN x)
theorem lenT_eq:([0,1,2,2,3,3,3,3,4,4,4,4,4,4,4,4,5,5,5,5,5,5,5,5,5,5,5,5,5,5,5,5,6,6,6,6,6,6,6,6,6,6,6,6,6,6,6,6,6,6,6,6,6,6,6,6,6,6,6,6,6,6,6,6,7,7,7,7,7,7,7,7,7,7,7,7,7,7,7,7,7,7,7,7,7,7,7,7,7,7,7,7,7,7,7,7,7,7,7,7,7,7,7,7,7,7,7,7,7,7,7,7,7,7,7,7,7,7,7,7,7,7,7,7,7,7,7,7,8,8,8,8,8,8,8,8,8,8,8,8,8,8,8,8,8,8,8,8,8,8,8,8,8,8,8,8,8,8,8,8,8,8,8,8,8,8,8,8,8,8,8,8,8,8,8,8,8,8,8,8,8,8,8,8,8,8,8,8,8,8,8,8,8,8,8,8,8,8,8,8,8,8,8,8,8,8,8,8,8,8,8,8,8,8,8,8,8,8,8,8,8,8,8,8,8,8,8,8,8,8,8,8,8,8,8,8,8,8,8,8,8,8,8,8,8,8,8,8,8,8,8,8,8,8,8,8]:List UInt8)=lenT:=by kernel_rfl
theorem lenN_shr {x k:Nat} (h:2^k≤x):lenN x=lenN (x / 2^k)+k:=by
 have hx:x≠0:=by have:=Nat.two_pow_pos k;omega
 have hy:1≤x / 2^k:=(Nat.le_div_iff_mul_le (Nat.two_pow_pos k)).2 (by omega)
 have hy0:x / 2^k≠0:=by omega
 unfold lenN
 rw [if_neg hx,if_neg hy0]
 have h1:=Nat.log2_self_le hy0
 have h2:=Nat.lt_log2_self (n:=x / 2^k)
 have e:Nat.log2 x=Nat.log2 (x / 2^k)+k:=by
  apply (Nat.log2_eq_iff hx).2
  rw [Nat.pow_add,show Nat.log2 (x / 2^k)+k+1=(Nat.log2 (x / 2^k)+1)+k by omega,Nat.pow_add]
  exact ⟨(Nat.le_div_iff_mul_le (Nat.two_pow_pos k)).1 h1,(Nat.div_lt_iff_lt_mul (Nat.two_pow_pos k)).1 h2⟩
 omega
theorem lenN_le {x k:Nat} (h:x<2^k):lenN x≤k:=by
 unfold lenN
 split
 ·omega
 ·rename_i h0
  have:=(Nat.log2_lt h0).2 h
  omega
theorem lenT_get (m:Nat) (hm:m<256):lenT[m]?=some (UInt8.ofNat (lenN m)):=by simp [lenT,hm]
theorem len64_end (a:Int) (b m:Nat) (h1:a=b) (hb:b≤56) (hm:m<256):IntKind.i64.wrap (a+((UInt8.ofNat (lenN m)).toNat:Int))=(b+lenN m:Nat):=by
 have:=lenN_le (x:=m) (k:=8) (by omega)
 have e:(UInt8.ofNat (lenN m)).toNat=lenN m:=by simp;omega
 rw [e,h1,wrap_i64]<;>omega
theorem shr_lit (x:Nat) (k n:Nat) (h:(2:Int)^min k IntKind.u64.bits=(n:Int)):(x:Int).fdiv (2^min k IntKind.u64.bits)=((x / n:Nat):Int):=by
 rw [h,Int.fdiv_eq_ediv_of_nonneg _ (by omega)];simp
theorem shr32 (x:Nat):(x:Int).fdiv (2^min 32 IntKind.u64.bits)=((x / 4294967296:Nat):Int):=shr_lit x 32 _ (by decide)
theorem shr16 (x:Nat):(x:Int).fdiv (2^min 16 IntKind.u64.bits)=((x / 65536:Nat):Int):=shr_lit x 16 _ (by decide)
theorem shr8 (x:Nat):(x:Int).fdiv (2^min 8 IntKind.u64.bits)=((x / 256:Nat):Int):=shr_lit x 8 _ (by decide)
section
variable {x:Nat} (hx:x<18446744073709551616)
include hx
set_option linter.unusedSectionVars false
theorem len64_3 (e:List (Nat×AV)) (pm:List (Pl×Nat)) (m b:Nat) (h0:lk e 0=u m) (h2:lk e 2=i6 b) (hm:m<256) (hb:b≤56) (hl:lenN x=b+lenN m):
  wpA (SpH Tryz.prog gl) (AC.tl 4 c205) (postA [.t 2] (i6 (lenN x))) ⟨e,[],pm⟩:=by
 unfold c205
 rw [lenT_eq]
 have e1:IntKind.u8.wrap (m:Int)=m:=wrap_u8 (by omega) (by omega)
 have e2:=len64_end b b m rfl hb hm
 have e3:IntKind.i64.wrap ((lenN m:Int)%256)=(lenN m:Int)%256:=wrap_i64 (by omega) (by omega)
 simp at e2
 simp [AC.tl,h0,h2,e1,lenT_get m hm,hl,e3]
 exact e2
theorem len64_2 (e:List (Nat×AV)) (pm:List (Pl×Nat)) (m b:Nat) (h0:lk e 0=u m) (h2:lk e 2=i6 b) (hm:m<65536) (hb:b≤48) (hl:lenN x=b+lenN m):
  wpA (SpH Tryz.prog gl) (AC.tl 3 c205) (postA [.t 2] (i6 (lenN x))) ⟨e,[],pm⟩:=by
 have ec:AC.tl 3 c205=AC.cutAt 1 (AC.tl 4 c205) (AC.tl 3 c205):=rfl
 rw [ec]
 have T:= @len64_3 x hx
 generalize AC.tl 4 c205=t at T ⊢
 simp [c205,AC.tl,AC.cutAt,h0,h2]
 refine onB_dec (fun h=>?_) (fun h=>?_)
 ·simp [h0,h2]
  refine T _ _ (m / 256) (b+8) ?_ ?_ (by omega) (by omega) ?_
  ·simp;exact shr8 m
  ·simp;exact wrap_i64 (by omega) (by omega)
  ·rw [hl,lenN_shr (x:=m) (k:=8) (by omega),show m / 2^8=m / 256 from rfl];omega
 ·simp
  exact T _ _ m b (by simp [h0]) (by simp [h2]) (by omega) (by omega) hl
theorem len64_1 (e:List (Nat×AV)) (pm:List (Pl×Nat)) (m b:Nat) (h0:lk e 0=u m) (h2:lk e 2=i6 b) (hm:m<4294967296) (hb:b≤32) (hl:lenN x=b+lenN m):
  wpA (SpH Tryz.prog gl) (AC.tl 2 c205) (postA [.t 2] (i6 (lenN x))) ⟨e,[],pm⟩:=by
 have ec:AC.tl 2 c205=AC.cutAt 1 (AC.tl 3 c205) (AC.tl 2 c205):=rfl
 rw [ec]
 have T:= @len64_2 x hx
 generalize AC.tl 3 c205=t at T ⊢
 simp [c205,AC.tl,AC.cutAt,h0,h2]
 refine onB_dec (fun h=>?_) (fun h=>?_)
 ·simp [h0,h2]
  refine T _ _ (m / 65536) (b+16) ?_ ?_ (by omega) (by omega) ?_
  ·simp;exact shr16 m
  ·simp;exact wrap_i64 (by omega) (by omega)
  ·rw [hl,lenN_shr (x:=m) (k:=16) (by omega),show m / 2^16=m / 65536 from rfl];omega
 ·simp
  exact T _ _ m b (by simp [h0]) (by simp [h2]) (by omega) (by omega) hl
theorem len64_spec:Sp Tryz.prog gl 205 [u x] (i6 (lenN x)):=by
 refine s205 rfl rfl ?_
 have ec:c205=AC.cutAt 2 (AC.tl 2 c205) c205:=rfl
 rw [ec]
 have T:= @len64_1 x hx
 generalize AC.tl 2 c205=t at T ⊢
 simp [c205,AC.tl,AC.cutAt]
 refine onB_dec (fun h=>?_) (fun h=>?_)
 ·simp
  refine T _ _ (x / 4294967296) 32 ?_ ?_ (by omega) (by omega) ?_
  ·simp;exact shr32 x
  ·simp
  ·rw [lenN_shr (x:=x) (k:=32) (by omega),show x / 2^32=x / 4294967296 from rfl];omega
 ·simp
  exact T _ _ x 0 (by simp) (by simp) (by omega) (by omega) (by omega)
end
end Go.Ai
namespace Go.Ai
open Go.Proofs Go.RowKit
def sz8 (n:Nat):Nat:=if h:n=0 then 0 else sz8 (n / 256)+1
termination_by n
decreasing_by omega
def be:Nat→Nat→List UInt8
 |0,_=>[]
 |k+1,n=>UInt8.ofNat (n / 256^k)::be k n
def numB (n:Nat):List UInt8:=UInt8.ofNat (sz8 n)::be (sz8 n) n
def flagB (f:Bool):List UInt8:=[if f=true then 1 else 0]
theorem sz8_zero:sz8 0=0:=by rw [sz8,dif_pos rfl]
theorem sz8_pos {n:Nat} (h:n≠0):sz8 n=sz8 (n / 256)+1:=by rw [sz8,dif_neg h]
theorem be_len (k n:Nat):(be k n).length=k:=by
 induction k with
 |zero=>rfl
 |succ k ih=>simp [be,ih]
theorem sz8_le (k n:Nat) (h:n<256^k):sz8 n≤k:=by
 induction k generalizing n with
 |zero=>
  have:n=0:=by simpa using h
  subst this;rw [sz8_zero];exact Nat.le_refl _
 |succ k ih=>
  by_cases h0:n=0
  ·subst h0;rw [sz8_zero];omega
  ·rw [sz8_pos h0]
   have:=ih (n / 256) (by rw [Nat.pow_succ] at h;omega)
   omega
theorem sz8_le8 (n:Nat) (h:n<18446744073709551616):sz8 n≤8:=sz8_le 8 n (by simpa using h)
theorem sz8_len (n:Nat):(lenN n+7) / 8=sz8 n:=by
 induction n using Nat.strongRecOn with
 |_ n ih=>
  by_cases h0:n=0
  ·subst h0;rw [sz8_zero];rfl
  ·rw [sz8_pos h0]
   by_cases h1:n<256
   ·have e:n / 256=0:=by omega
    rw [e,sz8_zero]
    have hl:=lenN_le (x:=n) (k:=8) (by omega)
    have:1≤lenN n:=by unfold lenN;rw [if_neg h0];omega
    omega
   ·have:=ih (n / 256) (by omega)
    rw [lenN_shr (x:=n) (k:=8) (by omega)]
    rw [show n / 2^8=n / 256 from rfl]
    omega
theorem numB_len (n:Nat) (h:n<18446744073709551616):(numB n).length≤9:=by
 have:=sz8_le8 n h
 simp [numB,be_len];omega
theorem byteRows_app (a b:List UInt8):byteRows (a++b)=byteRows a++byteRows b:=by simp [byteRows]
theorem byteRows_len (a:List UInt8):(byteRows a).length=a.length:=by simp [byteRows]
theorem byteRows_one (a:List UInt8): ∀r∈byteRows a,r.length=1:=by
 intro r hr;simp only [byteRows,List.mem_map] at hr;obtain ⟨x,_,rfl⟩:=hr;rfl
theorem byteRows_cons (b:UInt8) (a:List UInt8):byteRows (b::a)=[.int .u8 b.toNat]::byteRows a:=rfl
theorem rowBytes_of (a:List UInt8):rowBytes (byteRows a)=some a:=by
 induction a with
 |nil=>rfl
 |cons b r ih=>
  rw [byteRows_cons]
  simp only [rowBytes,ih]
  congr 2
  simp
theorem byteRows_at (a:List UInt8) (i:Nat) (h:i<a.length):(byteRows a)[i]?=some [.int .u8 a[i].toNat]:=by simp [byteRows,h]
theorem byteRows_take (a:List UInt8) (n:Nat):(byteRows a).take n=byteRows (a.take n):=by simp [byteRows,List.map_take]
theorem byteRows_drop (a:List UInt8) (n:Nat):(byteRows a).drop n=byteRows (a.drop n):=by simp [byteRows,List.map_drop]
theorem shrB (n m:Nat) (hm:m≤7):(n:Int).fdiv (2^(min (8*(m:Int)).toNat IntKind.u64.bits))=((n / 256^m:Nat):Int):=by
 have e:(2:Int)^(min (8*(m:Int)).toNat IntKind.u64.bits)=((256^m:Nat):Int):=by
  match m,hm with
  |0,_=>rfl|1,_=>rfl|2,_=>rfl|3,_=>rfl|4,_=>rfl|5,_=>rfl|6,_=>rfl|7,_=>rfl
 rw [e,Int.fdiv_eq_ediv_of_nonneg _ (Int.natCast_nonneg _)]
 rfl
theorem wrap_u8o (n:Nat):IntKind.u8.wrap (n:Int)=((UInt8.ofNat n).toNat:Int):=by
 have:IntKind.u8.wrap (n:Int)=if (false&&decide ((n:Int)%2^8≥2^(8 - 1)))=true then (n:Int)%2^8 - 2^8 else (n:Int)%2^8:=rfl
 rw [this]
 simp
theorem or0_u8 (n:Nat) (h:n<256):bits BinOp.or IntKind.u8 0 (n:Int)=n:=by
 have: ∀x:Fin 256,bits BinOp.or IntKind.u8 0 ((x.val:Nat):Int)=(x.val:Int):=by decide+kernel
 exact this ⟨n,h⟩
theorem and0_u8 (n:Nat) (h:n<256):bits BinOp.and IntKind.u8 (n:Int) 0=0:=by
 have: ∀x:Fin 256,bits BinOp.and IntKind.u8 ((x.val:Nat):Int) 0=0:=by decide+kernel
 exact this ⟨n,h⟩
theorem andNot0_u8 (n:Nat) (h:n<256):bits BinOp.andNot IntKind.u8 (n:Int) 0=n:=by
 have: ∀x:Fin 256,bits BinOp.andNot IntKind.u8 ((x.val:Nat):Int) 0=(x.val:Int):=by decide+kernel
 exact this ⟨n,h⟩
theorem appS_mk {P:Program} {GL:List (Nat×List Value)} {f k:Nat} {rows out:List (List AV)} {l:List AV} (h: ∀d,SpH P GL f d ⟨.sl rows::l,[],[(.s 0,k)]⟩ ⟨.sl out,[],[(.s 0,k)]⟩):appS (SpH P GL) f (some rows) k l out:=h
theorem size_spec (n:Nat) (hn:n<18446744073709551616):Sp Tryz.prog gl 175 [u n] (i6 (sz8 n)):=by
 refine s175 rfl rfl ?_
 have L:=len64_spec (x:=n) hn
 have e:=sz8_len n
 have hl:lenN n≤64:=lenN_le (x:=n) (k:=64) (by omega)
 have t1:IntKind.i64.wrap ((lenN n:Int)+7)=(lenN n:Int)+7:=by rw [wrap_i64]<;>omega
 have t2:((lenN n:Int)+7).tdiv 8=(sz8 n:Nat):=by
  rw [Int.tdiv_eq_ediv_of_nonneg (by omega)];omega
 have t3:IntKind.i64.wrap ((sz8 n:Nat):Int)=(sz8 n:Nat):=by rw [wrap_i64]<;>omega
 clear e
 generalize lenN n=ln at *
 generalize sz8 n=sn at *
 simp -implicitDefEqProofs [c175]
 refine onC_mk _ L ?_
 simp -implicitDefEqProofs [t1,t2,t3]
theorem put_spec (l:List UInt8) (n:Nat) (hl:l.length≤1000000) (hn:n<18446744073709551616) (d:Nat):
  SpH Tryz.prog gl 130 d ⟨[.sl (byteRows l),.int .u8 0,u n],[],[(.s 0,1)]⟩ ⟨.sl (byteRows (l++numB n)),[],[(.s 0,1)]⟩:=by
 refine h130 rfl ?_
 have S:=size_spec n hn
 have h8:=sz8_le8 n hn
 have hlim:lim=140737488355328:=rfl
 have t0:IntKind.u8.wrap ((sz8 n:Nat):Int)=(sz8 n:Nat):=by rw [wrap_u8]<;>omega
 have t1:=or0_u8 (sz8 n) (by omega)
 have b1:((UInt8.ofNat (sz8 n)).toNat:Int)=(sz8 n:Nat):=by simp;omega
 obtain ⟨R,hR⟩: ∃R,R=l++numB n:=⟨_,rfl⟩
 rw [←hR]
 have one:=byteRows_one l
 have bl:=byteRows_len l
 have q1:l.length+1≤140737488355328:=by omega
 have first:byteRows l++[[AV.int .u8 (sz8 n:Nat)]]=byteRows (l++[UInt8.ofNat (sz8 n)]):=by
  rw [byteRows_app,byteRows_cons,b1];rfl
 unfold numB at hR
 have hst:(l++[UInt8.ofNat (sz8 n)])++be (sz8 n) n=R:=by rw [hR];simp
 generalize sz8 n=k at *
 simp only [inSt,mpL,mpB,mpP,AV.mp]
 simp -implicitDefEqProofs [c130]
 refine onC_mk _ S ?_
 simp -implicitDefEqProofs [t0,t1,hlim,bl,q1,first]
 refine ⟨one,?_⟩
 refine wp_lpk (α:=Nat×List UInt8) (fun x=>⟨[(0,.sl (byteRows x.2)),(2,u n),(7,i6 x.1)],[],[(.s 0,1)]⟩) (fun x=>x.1≤8∧x.2.length+x.1≤1000010∧x.2++be x.1 n=R) (fun x=>x.1) ?_ (k,l++[UInt8.ofNat k]) ?_ ?_
 ·rintro K ⟨j,acc⟩ hK ⟨g1,g2,g3⟩
  simp only at g1 g2 g3
  cases j with
  |zero=>
   simp only [be,List.append_nil] at g3
   subst g3
   clear hK
   generalize byteRows acc=A at *
   simp -implicitDefEqProofs
   refine postH_r ⟨?_,?_,?_,?_,?_,?_⟩<;>simp -implicitDefEqProofs
  |succ j=>
   have fin: ∀σ',Weak σ' ⟨[(0,.sl (byteRows (acc++[UInt8.ofNat (n / 256^j)]))),(2,u n),(7,i6 (j:Nat))],[],[(.s 0,1)]⟩→K σ':=
    fun σ' hσ=>hK (j,acc++[UInt8.ofNat (n / 256^j)]) σ' ⟨by simp only;omega,by simp;omega,by simp only [be] at g3;simp only [List.append_assoc,List.singleton_append];exact g3⟩ (by simp only;omega) hσ
   have w1:IntKind.i64.wrap ((j:Int)+1 - 1)=(j:Nat):=by rw [wrap_i64]<;>omega
   have w2:IntKind.i64.wrap (8*(j:Int))=8*(j:Int):=by rw [wrap_i64]<;>omega
   have w3:=shrB n j (by omega)
   have w4:=wrap_u8o (n / 256^j)
   generalize n / 256^j=x at *
   have w5:(0:Int)≤8*(j:Int):=by omega
   have w6:(0:Int)<(j:Int)+1:=by omega
   have w7:IntKind.i64.wrap (j:Int)=(j:Nat):=by rw [wrap_i64]<;>omega
   have one:=byteRows_one acc
   have bl:=byteRows_len acc
   have q1:acc.length+1≤140737488355328:=by omega
   rw [byteRows_app,byteRows_cons,show byteRows []=[] from rfl] at fin
   generalize byteRows acc=A at *
   generalize (UInt8.ofNat x).toNat=bb at *
   clear hK g3
   simp -implicitDefEqProofs [w6,w7,w2,w5,w3,w4,hlim,bl,q1]
   refine ⟨one,fin _ (weak_mk ?_ ?_ ?_ ?_ ?_ ?_)⟩<;>simp -implicitDefEqProofs
 ·exact ⟨h8,by simp;omega,hst⟩
 ·refine weak_mk ?_ ?_ ?_ ?_ ?_ ?_<;>simp -implicitDefEqProofs
open Go.Proofs
structure Ky where
 g:List UInt8
 r:List UInt8
 p:Bool
 e:Nat
 f:Bool
 deriving DecidableEq
structure Ms where
 g:List UInt8
 p:Bool
 ks:List Ky
 deriving DecidableEq
def Ky.row (k:Ky):List AV:=[.str k.g,.str k.r,.bool k.p,u k.e,.bool k.f]
def Ms.row (m:Ms):List AV:=[.str m.g,.bool m.p,.sl (m.ks.map Ky.row)]
def goes (m:Ms) (k:Ky):Bool:=m.g==k.g&&m.p==k.p&&decide (m.ks.length<8)
open Go.Proofs
theorem nget_at (s:List UInt8) (i:Nat) (h:i<s.length):(ByteArray.mk s.toArray).get! i=s[i]:=by
 simp [ByteArray.get!,getElem!_pos,h]
def byt (s:List UInt8) (j:Nat):Nat:=match s[j]? with |some b=>b.toNat|none=>0
def cont (s:List UInt8) (j:Nat):Bool:=decide (128≤byt s j∧byt s j≤191)
def rv (s:List UInt8) (i r0:Nat):Nat→Nat
 |0=>r0
 |k+1=>64*rv s i r0 k+(byt s (i+(k+1)) - 128)
def conts (s:List UInt8) (i:Nat):Nat→Bool
 |0=>true
 |k+1=>conts s i k&&cont s (i+(k+1))
def isRune (least r:Nat):Bool:=decide (least≤r∧r≤1114111∧ ¬(55296≤r∧r<57344))
def stepF (s:List UInt8) (i n r0 least:Nat):Int×Nat:=if conts s i n&&isRune least (rv s i r0 n) then ((rv s i r0 n:Nat),n+1) else (-1,1)
def stepR (s:List UInt8) (i:Nat):Int×Nat:=
 let b:=byt s i
 if b<128 then (b,1) else if 192≤b∧b<224 then stepF s i 1 (b - 192) 128 else if 224≤b∧b<240 then stepF s i 2 (b - 224) 2048 else if 240≤b∧b<248 then stepF s i 3 (b - 240) 65536 else (-1,1)
theorem byt_at {s:List UInt8} {i:Nat} (h:i<s.length):byt s i=s[i].toNat:=by unfold byt;rw [List.getElem?_eq_getElem h]
theorem byt_lt (s:List UInt8) (i:Nat):byt s i<256:=by
 unfold byt;split
 ·rename_i b _;exact b.toNat_lt
 ·omega
theorem byt_out {s:List UInt8} {i:Nat} (h: ¬i<s.length):byt s i=0:=by unfold byt;rw [List.getElem?_eq_none (by omega)]
theorem stepF1 (s:List UInt8) (i r0 least:Nat):stepF s i 1 r0 least=if cont s (i+1)&&isRune least (64*r0+(byt s (i+1) - 128)) then (((64*r0+(byt s (i+1) - 128):Nat):Int),2) else (-1,1):=rfl
theorem stepF2 (s:List UInt8) (i r0 least:Nat):stepF s i 2 r0 least=if (cont s (i+1)&&cont s (i+2))&&isRune least (64*(64*r0+(byt s (i+1) - 128))+(byt s (i+2) - 128)) then (((64*(64*r0+(byt s (i+1) - 128))+(byt s (i+2) - 128):Nat):Int),3) else (-1,1):=rfl
theorem stepF3 (s:List UInt8) (i r0 least:Nat):stepF s i 3 r0 least=if ((cont s (i+1)&&cont s (i+2))&&cont s (i+3))&&isRune least (64*(64*(64*r0+(byt s (i+1) - 128))+(byt s (i+2) - 128))+(byt s (i+3) - 128)) then (((64*(64*(64*r0+(byt s (i+1) - 128))+(byt s (i+2) - 128))+(byt s (i+3) - 128):Nat):Int),4) else (-1,1):=rfl
theorem stepF_pos (s:List UInt8) (i n r0 least:Nat):1≤(stepF s i n r0 least).2:=by unfold stepF;split<;>simp
theorem stepR_pos (s:List UInt8) (i:Nat):1≤(stepR s i).2:=by
 unfold stepR
 simp only
 split
 ·simp
 ·split
  ·exact stepF_pos ..
  ·split
   ·exact stepF_pos ..
   ·split
    ·exact stepF_pos ..
    ·simp
def runesL (s:List UInt8) (i:Nat):List Int:=if h:i<s.length then (stepR s i).1::runesL s (i+(stepR s i).2) else []
termination_by s.length - i
decreasing_by have:=stepR_pos s i;omega
theorem runesL_in {s:List UInt8} {i:Nat} (h:i<s.length):runesL s i=(stepR s i).1::runesL s (i+(stepR s i).2):=by rw [runesL,dif_pos h]
theorem runesL_out {s:List UInt8} {i:Nat} (h: ¬i<s.length):runesL s i=[]:=by rw [runesL,dif_neg h]
theorem get_byt {s:List UInt8} {j:Nat} (h:j<s.length):((ByteArray.mk s.toArray).get! j).toNat=byt s j:=by rw [nget_at s j h,byt_at h]
theorem cont_iff {s:List UInt8} {j:Nat}:cont s j=true↔j<s.length∧byt s j / 64=2:=by
 unfold cont
 rw [decide_eq_true_eq]
 constructor
 ·intro h
  rcases Nat.lt_or_ge j s.length with h1|h1
  ·exact ⟨h1,by omega⟩
  ·rw [byt_out (by omega)] at h;omega
 ·intro h;omega
theorem step_rune (s:List UInt8) (i:Nat) (h:i<s.length):runeAt s i=(if (stepR s i).1= -1 then (65533,1) else stepR s i):=by
 have hb:(ByteArray.mk s.toArray).size=s.length:=by simp [ByteArray.size]
 have c: ∀k,(decide (i+k<(ByteArray.mk s.toArray).size)&&((ByteArray.mk s.toArray).get! (i+k)).toNat / 64==2)=cont s (i+k):=by
  intro k
  rw [Bool.eq_iff_iff,cont_iff,hb]
  simp only [Bool.and_eq_true,decide_eq_true_eq,beq_iff_eq]
  constructor
  ·rintro ⟨h1,h2⟩;rw [get_byt h1] at h2;exact ⟨h1,h2⟩
  ·rintro ⟨h1,h2⟩;rw [get_byt h1];exact ⟨h1,h2⟩
 have e0:((ByteArray.mk s.toArray).get! (i+0)).toNat=byt s i:=get_byt (by omega)
 have bl:=byt_lt s i
 unfold runeAt Utf8.decode
 simp only [e0,c,Utf8.runeError]
 unfold stepR
 simp only
 by_cases h1:byt s i<128
 ·have h2: ¬((byt s i:Nat):Int)= -1:=by omega
  simp only [h1,if_true,h2,if_false]
 ·simp only [h1,if_false]
  have d1:(byt s i / 32==6)=decide (192≤byt s i∧byt s i<224):=by rw [Bool.eq_iff_iff];simp;omega
  have d2:(byt s i / 16==14)=decide (224≤byt s i∧byt s i<240):=by rw [Bool.eq_iff_iff];simp;omega
  have d3:(byt s i / 8==30)=decide (240≤byt s i∧byt s i<248):=by rw [Bool.eq_iff_iff];simp;omega
  rw [d1,d2,d3]
  by_cases r1:192≤byt s i∧byt s i<224
  ·have r2: ¬(224≤byt s i∧byt s i<240):=by omega
   have r3: ¬(240≤byt s i∧byt s i<248):=by omega
   simp only [r1,r2,r3,and_self,decide_true,decide_false,Bool.true_and,Bool.false_and,if_true,if_false,Bool.false_eq_true]
   rw [stepF1]
   cases c1:cont s (i+1)
   ·simp
   ·obtain ⟨l1,q1⟩:=cont_iff.1 c1
    simp only [if_true,Bool.true_and,get_byt l1]
    have b1:=byt_lt s (i+1)
    generalize byt s (i+1)=y at *
    generalize byt s i=x at *
    by_cases z:isRune 128 (64*(x - 192)+(y - 128))=true
    ·have zz:=z
     unfold isRune at zz
     rw [decide_eq_true_eq] at zz
     have e:x%32*64+y%64=64*(x - 192)+(y - 128):=by omega
     simp only [z,e,if_true]
     rw [if_neg (show ¬((64*(x - 192)+(y - 128):Nat):Int)= -1 by omega),if_pos (by omega)]
    ·have zz:=z
     unfold isRune at zz
     rw [decide_eq_true_eq] at zz
     have hz: ¬(x%32*64+y%64≥128):=by omega
     simp only [z,hz,Bool.false_eq_true,if_false]
     simp
  ·by_cases r2:224≤byt s i∧byt s i<240
   ·have r3: ¬(240≤byt s i∧byt s i<248):=by omega
    simp only [r1,r2,r3,and_self,decide_true,decide_false,Bool.true_and,Bool.false_and,if_true,if_false,Bool.false_eq_true]
    rw [stepF2]
    cases c1:cont s (i+1)
    ·simp
    ·cases c2:cont s (i+2)
     ·simp
     ·obtain ⟨l1,q1⟩:=cont_iff.1 c1
      obtain ⟨l2,q2⟩:=cont_iff.1 c2
      simp only [if_true,Bool.true_and,Bool.and_self,get_byt l1,get_byt l2]
      have b1:=byt_lt s (i+1)
      have b2:=byt_lt s (i+2)
      try rw [get_byt l2]
      generalize byt s (i+2)=w at *
      generalize byt s (i+1)=y at *
      generalize byt s i=x at *
      by_cases z:isRune 2048 (64*(64*(x - 224)+(y - 128))+(w - 128))=true
      ·have zz:=z
       unfold isRune at zz
       rw [decide_eq_true_eq] at zz
       have e:x%16*4096+y%64*64+w%64=64*(64*(x - 224)+(y - 128))+(w - 128):=by omega
       simp only [z,e,if_true]
       rw [if_neg (show ¬((64*(64*(x - 224)+(y - 128))+(w - 128):Nat):Int)= -1 by omega),if_pos (by simp [Utf8.valid];omega)]
      ·have zz:=z
       unfold isRune at zz
       rw [decide_eq_true_eq] at zz
       have hz:(decide (x%16*4096+y%64*64+w%64≥2048)&&Utf8.valid ((x%16*4096+y%64*64+w%64:Nat):Int))=false:=by
        rw [Bool.eq_false_iff];simp [Utf8.valid];omega
       simp only [z,hz,Bool.false_eq_true,if_false]
       simp
   ·by_cases r3:240≤byt s i∧byt s i<248
    ·simp only [r1,r2,r3,and_self,decide_true,decide_false,Bool.true_and,Bool.false_and,if_true,if_false,Bool.false_eq_true]
     rw [stepF3]
     cases c1:cont s (i+1)
     ·simp
     ·cases c2:cont s (i+2)
      ·simp
      ·cases c3:cont s (i+3)
       ·simp
       ·obtain ⟨l1,q1⟩:=cont_iff.1 c1
        obtain ⟨l2,q2⟩:=cont_iff.1 c2
        obtain ⟨l3,q3⟩:=cont_iff.1 c3
        simp only [if_true,Bool.true_and,Bool.and_self,get_byt l1]
        have b1:=byt_lt s (i+1)
        have b2:=byt_lt s (i+2)
        have b3:=byt_lt s (i+3)
        try simp only [get_byt l2,get_byt l3]
        generalize byt s (i+3)=t at *
        generalize byt s (i+2)=w at *
        generalize byt s (i+1)=y at *
        generalize byt s i=x at *
        by_cases z:isRune 65536 (64*(64*(64*(x - 240)+(y - 128))+(w - 128))+(t - 128))=true
        ·have zz:=z
         unfold isRune at zz
         rw [decide_eq_true_eq] at zz
         have e:x%8*262144+y%64*4096+w%64*64+t%64=64*(64*(64*(x - 240)+(y - 128))+(w - 128))+(t - 128):=by omega
         simp only [z,e,if_true]
         rw [if_neg (show ¬((64*(64*(64*(x - 240)+(y - 128))+(w - 128))+(t - 128):Nat):Int)= -1 by omega),if_pos (by simp [Utf8.valid];omega)]
        ·have zz:=z
         unfold isRune at zz
         rw [decide_eq_true_eq] at zz
         have hz:(decide (x%8*262144+y%64*4096+w%64*64+t%64≥65536)&&Utf8.valid ((x%8*262144+y%64*4096+w%64*64+t%64:Nat):Int))=false:=by
          rw [Bool.eq_false_iff];simp [Utf8.valid];omega
         simp only [z,hz,Bool.false_eq_true,if_false]
         simp
    ·simp [r1,r2,r3]
end Go.Ai
