/- P5: a part of the proof. Conditions: as each theorem says. -/
import Derived.Test.YtggemlhclppciaaGreatDoorP4
import Derived.Lib.Join
import Derived.Lib.ItoaNum
import Derived.Lib.Bytealg
set_option maxHeartbeats 4000000
set_option linter.unusedSimpArgs false
set_option linter.unusedVariables false
set_option maxRecDepth 20000
namespace Go.Ai
open Go.Proofs
def gO (s:List UInt8):Nat×Nat:=if bJ s then (if aL s<340282366920938463463374607431768211456 then (aL s,0) else (0,3)) else (0,5)
theorem CR (s:List UInt8) (i:Nat) (h:i<s.length):aL (s.take (i+1))=10*aL (s.take i)+((s[i]).toNat - 48):=by
 rw [Dg h,gA]
theorem I3 (s:List UInt8) (i:Nat) (h:i<s.length) (hd:aC s[i]=true) (ha:(s.take i).all aC=true):(s.take (i+1)).all aC=true:=by
 rw [Dg h,List.all_append,ha];simpa using hd
theorem FU {s:List UInt8} (h:bJ s=false):gO s=(0,5):=by unfold gO;rw [h];rfl
theorem Ll {s:List UInt8} {i:Nat} (h:i<s.length) (hd:aC s[i]=false):bJ s=false:=by
 unfold bJ
 have:s.all aC=false:=by
  rw [P4];intro h2;rw [gE] at h2
  have:=h2 s[i] (ml h)
  rw [hd] at this;cases this
 rw [this];simp
theorem I4 (s:List UInt8) (i:Nat) (h:i<s.length):(ByteArray.mk s.toArray).get! (i+0)=s[i]:=by
 show (ByteArray.mk s.toArray).get! i=_;simp [ByteArray.get!,getElem!_pos,h]
theorem Eo {s:List UInt8} {i:Nat} (h:i<s.length) (hb:s[i].toNat<128):bU s i=((s[i].toNat:Int),1):=by
 unfold bU Utf8.decode;simp only [I4 s i h,hb,if_true]
theorem Lm {s:List UInt8} {i:Nat} (h:i<s.length) (hb: ¬s[i].toNat<128):128≤(bU s i).1:=by
 unfold bU Utf8.decode;simp only [I4 s i h,hb,if_false,Utf8.runeError];generalize (ByteArray.mk s.toArray).get! (i+1)=x1;generalize (ByteArray.mk s.toArray).get! (i+2)=x2;generalize (ByteArray.mk s.toArray).get! (i+3)=x3;generalize (s[i]).toNat=b at *
 split
 ·split
  ·simp only [];omega
  ·simp only [];omega
 ·split
  ·split
   ·rename_i h2;simp only [aE,o5] at h2;simp only [];omega
   ·simp only [];omega
  ·split
   ·split
    ·rename_i h2;simp only [aE,o5] at h2;simp only [];omega
    ·simp only [];omega
   ·simp only [];omega
theorem xu (s:List UInt8) (hl:s.length≤1000000):Sp Tryz.prog gl 209 [.str s] (.bool (bJ s)):=by
 refine Si rfl rfl ?_;have bad: ∀i (h:i<s.length),aC s[i]=false→bJ s=false:=fun i h=>Ll h
 have bad0:s.headD 0=48→1<s.length→bJ s=false:=by
  intro h1 h2;unfold bJ;rw [h1]
  have:(s.length==1)=false:=by simp;omega
  rw [this];simp
 have good:s≠[]→s.all aC=true→(s.headD 0=48→s.length=1)→bJ s=true:=by
  intro h1 h2 h3;unfold bJ;rw [h2];by_cases hx:s.headD 0=48
  ·simp [h1,h3 hx]
  ·have:(s.headD 0 !=48)=true:=by simp only [bne_iff_ne,ne_eq];exact hx
   rw [this];simp [h1]
 have hnil:s=[]→bJ s=false:=by rintro rfl;rfl
 have h1000:s.headD 0=(s[0]?).getD 0:=by cases s<;>rfl
 generalize bJ s=R at *
 simp [OZ];refine aP (α:=Nat) (fun i=>⟨[(0,.str s),(6,.itp 6)],[(.it 6,[.itr s i])],[]⟩)
  (fun i=>i≤s.length∧(s.take i).all aC=true∧(1≤i→s.headD 0=48→s.length=1)) (fun i=>s.length - i) ?_ 0 ?_ ?_
 ·rintro K i hK ⟨h1,h3,h4⟩;by_cases g:i<s.length
  ·have fin:aC s[i]=true→(i=0→s[i]=48→s.length=1)→ ∀σ',dL σ' ⟨[(0,.str s),(6,.itp 6)],[(.it 6,[.itr s (i+1)])],[]⟩→K σ':=
    fun hd h5 σ' hσ=>hK (i+1) σ' ⟨by omega,I3 s i g hd h3,fun _ hh=>by
     by_cases hi:i=0
     ·subst hi;refine h5 rfl ?_;rw [h1000,rG g] at hh;simpa using hh
     ·exact h4 (by omega) hh⟩ (by omega) hσ
   have bad:=bad i g;have rlo:=Eo g;have rhi:=Lm g;have bad0':i=0→s[i]=48→1<s.length→R=false:=by
    rintro rfl h5 h6;refine bad0 ?_ h6;rw [h1000,rG g,h5];rfl
   obtain ⟨x,hsx⟩: ∃x,s[i]=x:=⟨_,rfl⟩;simp only [hsx] at fin bad rlo rhi bad0';clear hK bad0 good hnil h4 h3;by_cases hx:x.toNat<128
   ·have r:=rlo hx;by_cases x1:(x.toNat:Int)<48
    ·have:=bad (by simp only [aC,decide_eq_false_iff_not];omega)
     subst this;simp [g,r,x1]
    ·by_cases x2:(57:Int)<x.toNat
     ·have:=bad (by simp only [aC,decide_eq_false_iff_not];omega)
      subst this;simp [g,r,x1,x2]
     ·have fin:=fin (by simp only [aC,o5];omega);by_cases i0:i=0
      ·subst i0;by_cases x3:x.toNat=48
       ·have x3':x=48:=Og.1 (by rw [x3];rfl);by_cases l1:1<s.length
        ·have:=bad0' rfl x3' l1
         subst this;have l1':(1:Int)<(s.length:Int):=by omega
         have x3i:(x.toNat:Int)=48:=by omega
         simp [g,r,x1,x2,x3i,l1']
        ·have l1': ¬(1:Int)<(s.length:Int):=by omega
         have x3i:(x.toNat:Int)=48:=by omega
         have fin:=fin (fun _ _=>by omega);clear bad bad0';simp [g,r,x1,x2,x3i,l1'];refine fin _ ?_;apply ae<;>simp
       ·have x3':((x.toNat:Int)==48)=false:=by rw [cI];omega
        have fin:=fin (fun _ h=>absurd (by rw [h];rfl) x3);simp [g,r,x1,x2,x3'];refine fin _ ?_;apply ae<;>simp
      ·have i0':((i:Int)==0)=false:=by rw [cI];omega
       have fin:=fin (fun h=>absurd h i0);simp [g,r,x1,x2,i0'];refine fin _ ?_;apply ae<;>simp
   ·have h128:=rhi hx
    have:=bad (by simp only [aC,decide_eq_false_iff_not];omega)
    subst this;obtain ⟨rr,hrr⟩: ∃rr,(bU s i).1=rr:=⟨_,rfl⟩;rw [hrr] at h128;have x1: ¬rr<48:=by omega
    have x2:(57:Int)<rr:=by omega
    simp [g,hrr,x1,x2]
  ·obtain rfl:i=s.length:=by omega
   rw [qJ] at h3;clear hK bad bad0;by_cases hs:s=[]
   ·have:=hnil hs
    subst this;subst hs;simp
   ·have:=good hs h3 (h4 (xO.2 hs))
    subst this;simp [hs]
 ·simp
 ·apply ae<;>simp
theorem I5 {n:Int} (h1: -2147483648≤n) (h2:n<2147483648):IntKind.i32.wrap n=n:=by
 have e1:(2:Int)^32=4294967296:=by decide
 have e2:(2:Int)^(32 - 1)=2147483648:=by decide
 have:IntKind.i32.wrap n=if (true&&decide (n%2^32≥2^(32 - 1)))=true then n%2^32 - 2^32 else n%2^32:=rfl
 rw [this];simp only [e1,e2,ib,o5];split<;>omega
theorem xv (r:List UInt8) (a:Nat):a≤r.foldl (fun a b=>10*a+(b.toNat - 48)) a:=by
 induction r generalizing a with
 |nil=>exact eI _
 |cons x r ih=>simp only [List.foldl_cons];exact qT (by omega) (ih _)
theorem uL (s:List UInt8) (i:Nat):aL (s.take i)≤aL s:=by
 have h:=xv (s.drop i) (aL (s.take i))
 have:aL s=(s.drop i).foldl (fun a b=>10*a+(b.toNat - 48)) (aL (s.take i)):=by
  unfold aL;rw [←List.foldl_append,EF]
 omega
theorem CU (s:List UInt8) (hl:s.length≤1000000):Sp Tryz.prog gl 185 [.str s] (.tup [wide (gO s).1,i6 (gO s).2]):=by
 refine R3 rfl rfl ?_;have e0:wide 0= .agg [u 0,u 0]:=rfl;have D:=xu s hl;cases hok:bJ s with
 |false=>
  rw [hok] at D;rw [FU hok,e0];simp [Mr];refine ay _ D ?_;simp
 |true=>
  rw [hok] at D;have hall:s.all aC=true:=by
   unfold bJ at hok;simp only [aE] at hok;exact hok.1.2
  have res:gO s=if aL s<340282366920938463463374607431768211456 then (aL s,0) else (0,3):=by unfold gO;rw [if_pos hok]
  have rbad: ¬aL s<340282366920938463463374607431768211456→AV.tup [wide (gO s).1,i6 (gO s).2]= .tup [.agg [u 0,u 0],i6 3]:=fun h=>by rw [res,if_neg h,e0];rfl
  have rgood:aL s<340282366920938463463374607431768211456→AV.tup [wide (gO s).1,i6 (gO s).2]= .tup [wide (aL s),i6 0]:=fun h=>by rw [res,if_pos h];rfl
  clear res;generalize AV.tup [wide (gO s).1,i6 (gO s).2]=R at *
  simp [Mr];refine ay _ D ?_;simp;refine aP (α:=Nat) (fun i=>⟨[(0,.str s),(2,.ptr (.n 2) 0),(4,.ptr (.n 4) 0),(14,.itp 14)],[(.n 2,[u 0,u 0]),(.n 4,[u (aL (s.take i) / 18446744073709551616),u (aL (s.take i)%18446744073709551616)]),(.it 14,[.itr s i])],[]⟩)
   (fun i=>i≤s.length∧aL (s.take i)<340282366920938463463374607431768211456) (fun i=>s.length - i) ?_ 0 ?_ ?_
  ·rintro K i hK ⟨h1,h3⟩;by_cases g:i<s.length
   ·have hd:aC s[i]=true:=gE.1 hall _ (ml g);simp only [aC,o5] at hd;have ut:=CR s i g;have ul:=uL s (i+1);have r:=Eo g (by omega);have fin:aL (s.take (i+1))<340282366920938463463374607431768211456→ ∀σ',dL σ' ⟨[(0,.str s),(2,.ptr (.n 2) 0),(4,.ptr (.n 4) 0),(14,.itp 14)],[(.n 2,[u 0,u 0]),(.n 4,[u (aL (s.take (i+1)) / 18446744073709551616),u (aL (s.take (i+1))%18446744073709551616)]),(.it 14,[.itr s (i+1)])],[]⟩→K σ':=
     fun h σ' hσ=>hK (i+1) σ' ⟨by omega,h⟩ (by omega) hσ
    generalize aL (s.take (i+1))=n2 at *
    generalize aL (s.take i)=n1 at *
    obtain ⟨x,hsx⟩: ∃x,s[i]=x:=⟨_,rfl⟩;simp only [hsx] at hd ut r;obtain ⟨dg,hdg⟩: ∃dg,dg=x.toNat - 48:=⟨_,rfl⟩;rw [←hdg] at ut;have w1:IntKind.i32.wrap ((x.toNat:Int) - 48)=dg:=by rw [I5]<;>omega
    have w2:IntKind.u64.wrap (dg:Int)=dg:=by rw [a6]<;>omega
    have M:=CO n1 10 h3 (by omega);clear hK rgood;by_cases o1:n1*10<340282366920938463463374607431768211456
    ·rw [if_pos o1] at M;have A:=pQ (n1*10) dg o1 (by omega);have wd:wide dg= .agg [u 0,u dg]:=by unfold wide;rw [Nat.div_eq_of_lt (by omega),nE (by omega)]
     rw [wd] at A;have en:n1*10+dg=n2:=by omega
     rw [en] at A;by_cases o2:n2<340282366920938463463374607431768211456
     ·rw [if_pos o2] at A;have fin:=fin o2;unfold wide at M A;clear ut en ul rbad h3 o1 o2 hdg;generalize n1*10 / 18446744073709551616=a1 at *
      generalize n1*10%18446744073709551616=a2 at *
      generalize n1 / 18446744073709551616=b1 at *
      generalize n1%18446744073709551616=b2 at *
      generalize n2 / 18446744073709551616=d1 at *
      generalize n2%18446744073709551616=d2 at *
      simp [g,r];refine ay _ M ?_;simp;rw [w1,w2];refine ay _ A ?_;simp;refine fin _ ?_;apply ae<;>simp
     ·rw [if_neg o2] at A
      have:=rbad (by omega)
      subst this;unfold wide at M A;clear ut en ul rbad h3 o1 o2 hdg fin;generalize n1*10 / 18446744073709551616=a1 at *
      generalize n1*10%18446744073709551616=a2 at *
      generalize n1 / 18446744073709551616=b1 at *
      generalize n1%18446744073709551616=b2 at *
      simp [g,r];refine ay _ M ?_;simp;rw [w1,w2];refine ay _ A ?_;simp
    ·rw [if_neg o1] at M
     have:=rbad (by omega)
     subst this;unfold wide at M;clear ut ul rbad h3 o1 hdg fin;generalize n1 / 18446744073709551616=b1 at *
     generalize n1%18446744073709551616=b2 at *
     simp [g,r];refine ay _ M ?_;simp
   ·obtain rfl:i=s.length:=by omega
    rw [qJ] at h3 ⊢
    have:=rgood h3
    subst this;unfold wide;clear hK rbad rgood;generalize aL s / 18446744073709551616=a1 at *
    generalize aL s%18446744073709551616=a2 at *
    simp
  ·simp [aL]
  ·apply ae<;>simp [aL]
structure Ky where
 g:List UInt8
 r:List UInt8
 p:Bool
 e:Nat
 f:Bool
 deriving DecidableEq
structure Ms where
 g:List UInt8
 p:Bool
 ks:List Ky
 deriving DecidableEq
def Ky.row (k:Ky):List AV:=[.str k.g,.str k.r,.bool k.p,u k.e,.bool k.f]
def Ms.row (m:Ms):List AV:=[.str m.g,.bool m.p,.sl (m.ks.map Ky.row)]
def Wd (m:Ms) (k:Ky):Bool:=m.g==k.g&&m.p==k.p&&decide (m.ks.length<8)
theorem oF (n:Nat):Lib.decDigits n=bg n:=by
 induction n using Nat.strongRecOn with
 |_ n ih=>
  by_cases h:n<10
  ·rw [Lib.decDigits,dif_pos h,fZ h]
  ·rw [Lib.decDigits,dif_neg h,eY h,ih _ (by omega)]
def fl (b:Bool):Int:=if b=true then 1 else 0
open Go.RowKit
theorem mE (n:Nat) (h:n<18446744073709551616):Sp Tryz.prog gl 72 [u n] (.str (bg n)):=by
 refine VF rfl rfl ?_;have B:=pO n (by omega);have D:=qx (aO n 128) (by simp [aO]);rw [jm n (by omega)] at D;rw [show wide n= .agg [u 0,u n] by unfold wide;rw [Nat.div_eq_of_lt h,nE h]] at B;unfold bl at B D;generalize bg n=out at *
 generalize List.map (fun b=>[AV.bool b]) (aO n 128)=bs at *
 simp [UQ];refine ay _ B ?_;simp;refine ay _ D ?_;simp
open Go.Shelf Go.Sort Go.Lib
set_option maxRecDepth 100000 in
theorem xw (u:Nat) (hu1:100≤u) (hu63:u<9223372036854775808) (w:World) (htab: ∀q,q<20→w.cell? ⟨2,q,none⟩=some (.int .u64 ((10^q:Nat):Int))):
  Calls Tryz.prog 174 #[.int .i64 u,.int .i64 10] w fun e w'=>e= .returned (.string ⟨(Lib.decDigits u).toArray⟩)∧Below w.heap.size w w':=by
 have hu64:u<18446744073709551616:=by omega
 have hnd20:Lib.nDigits u≤20:=by have:=Lib.numDigits_eq u (by omega) hu64;split at this<;>omega
 have hal:Tryz.prog.arrayLen 206=24:=by kernel_rfl
 have hsl: ∀W,(Instr.sliceAt 206 (.pointer (some ⟨w.heap.size,0,none⟩)) (some (.int .i64 1)) (some (.int .i64 (1+(Lib.nDigits u:Int)))) none).run Tryz.prog W= .ok (.slice (some ⟨w.heap.size,1,none⟩) (Lib.nDigits u) 23) W:=fun W=>by
  rw [run_sliceAt_array_lh W 206 ⟨w.heap.size,0,none⟩ (by kernel_rfl) .i64 .i64 1 (1+(Lib.nDigits u:Int)) (by omega) (by omega) (by rw [hal];omega)]
  go_simp
  omega
 have hH0:=Lib.holds_zero w 206 (Lib.nDigits u) (by omega);have hfmt:=Any.internal_strconv_formatBase10 DQ w.heap.size 1 23 u (Array.replicate (Lib.nDigits u) 0) (w.alloc (.cells Lib.zeros24 206)) hH0 (by rw [Array.size_replicate];exact Lib.lt_pow_nDigits u) hu64 (by rw [Array.size_replicate];omega);rw [Array.size_replicate] at hfmt;have HH0:=Lib.hid hH0;clear hH0 hal;have hnd:Calls Tryz.prog 166 #[.int .u64 u] (w.alloc (.cells Lib.zeros24 206)) fun e w'=>e= .returned (.int .i64 (Lib.nDigits u))∧w'=(w.alloc (.cells Lib.zeros24 206)):=
  kC DP u (by omega) hu64 _ (fun q hq=>by
   have h1:=htab q hq;have h2:=World.block_lt_of_cell? w _ h1;exact (World.cell?_alloc_lt w _ _ h2).trans h1)
 go_enter Tryz.func174,Tryz.ntmps174
 go_wp2_with (first
  |(go_at_call 166;refine hnd.mono ?_;rintro e w' ⟨rfl,rfl⟩))
 go_at_call 167
 refine hfmt.mono ?_;rintro e w' ⟨rfl,k,v',dk,rfl,hF⟩;have hcv:(convert 67 9 (.slice (some ⟨w.heap.size,1,none⟩) (Lib.nDigits u) 23)).run Tryz.prog ((putRow (fun (b:UInt8)=>Value.int .u8 (b.toNat:Int)) (w.alloc (.cells Lib.zeros24 206)) w.heap.size 1 dk).drewN k)= .ok (.string ⟨(Lib.decDigits u).toArray⟩) ((putRow (fun (b:UInt8)=>Value.int .u8 (b.toNat:Int)) (w.alloc (.cells Lib.zeros24 206)) w.heap.size 1 dk).drewN k):=by
  have h:=run_convert_bytes_back (P:=Tryz.prog) ((putRow (fun (b:UInt8)=>Value.int .u8 (b.toNat:Int)) (w.alloc (.cells Lib.zeros24 206)) w.heap.size 1 dk).drewN k) 67 9 5 ⟨w.heap.size,1,none⟩ 23 (Lib.decDigits u) Tryz.underlying67 Tryz.underlying5 Tryz.underlying9 (fun j hj=>by
   rw [Lib.row_is_numeral hF j hj,Lib.add_plain,World.cell?_drewN];exact cell?_putRow (fun (b:UInt8)=>Value.int .u8 (b.toNat:Int)) _ w.heap.size 1 _ dk HH0.out (by rw [hF.size,Array.size_replicate]) j (by rw [hF.size];rw [Lib.decDigits_length] at hj;exact hj))
  rw [Lib.decDigits_length] at h;exact h
 go_wp2
 go_ret
 refine ⟨rfl,?_⟩;rw [alloc_eq_grow];obtain ⟨os',_,eg⟩:=putRow_grow_new (fun (b:UInt8)=>Value.int .u8 (b.toNat:Int)) w #[.cells Lib.zeros24 206] w.heap.size 1 dk (eI _);rw [eg];exact tu w os' k
theorem tH (n:Nat) (h:n<9223372036854775808):Sp Tryz.prog gl 174 [i6 n,i6 10] (.str (bg n)):=by
 rw [←oF];by_cases g:n<100
 ·refine ON rfl rfl ?_;have S:=tz n g;generalize Lib.decDigits n=R at *
  have t1:IntKind.i64.wrap (n:Int)=n:=by rw [aj]<;>omega
  have g':(n:Int)<100:=by omega
  have g0:(0:Int)≤n:=by omega
  simp [Mp,t1,g,g',g0];refine ay _ S ?_;simp
 ·refine kU Tryz.func174 (by kernel_rfl) (by kernel_rfl) ?_;intro S gb w vs hvs hag hgl;simp only [aa,PR] at hvs;obtain ⟨_,_,rfl,rfl,_,_,rfl,rfl,rfl⟩:=hvs;exact (xw n (by omega) h w (vI hgl)).mono fun e w' ⟨he,hw⟩=>⟨_,he,hw,by simp [PR]⟩
theorem jO (n:Nat) (h:n<9223372036854775808):Sp Tryz.prog gl 132 [i6 n,i6 10] (.str (bg n)):=by
 refine OG rfl rfl ?_;have S:=tH n h;generalize bg n=R at *
 simp [Mj];refine ay _ S ?_;simp
theorem CV (n:Nat) (h:n<9223372036854775808):Sp Tryz.prog gl 173 [i6 n] (.str (bg n)):=by
 refine RX rfl rfl ?_;have S:=tH n h;generalize bg n=R at *
 simp [OM];refine ay _ S ?_;simp
theorem vM (n:Nat) (h:n<9223372036854775808):Sp Tryz.prog gl 129 [i6 n] (.str (bg n)):=by
 refine Rr rfl rfl ?_;have S:=CV n h;generalize bg n=R at *
 simp [OF];refine ay _ S ?_;simp
def cX (r:Nat):List UInt8:=
 if r<128 then [UInt8.ofNat r]
 else if r<2048 then [UInt8.ofNat (192+r / 64),UInt8.ofNat (128+r%64)]
 else if r<65536 then [UInt8.ofNat (224+r / 4096),UInt8.ofNat (128+r / 64%64),UInt8.ofNat (128+r%64)]
 else [UInt8.ofNat (240+r / 262144),UInt8.ofNat (128+r / 4096%64),UInt8.ofNat (128+r / 64%64),UInt8.ofNat (128+r%64)]
theorem vN (z:Int) (n:Nat) (h:z=n) (hn:n<256):UInt8.ofNat (IntKind.u8.wrap z).toNat=UInt8.ofNat n:=by
 subst h;rw [dx (by omega) (by omega),Int.toNat_natCast]
theorem CW (z:Int) (h:0≤z):z.tmod 64=z%64:=Int.tmod_eq_emod_of_nonneg h
theorem Ag (r:Nat) (h:r≤1114111):Sp Tryz.prog gl 102 [i3 r] (.str (cX r)):=by
 refine Rc rfl rfl ?_;unfold cX;have w8: ∀z:Nat,z<256→IntKind.u8.wrap (z:Int)=z:=fun z hz=>by rw [dx]<;>omega
 have q1:IntKind.i32.wrap ((r:Int) / 64)=(r:Int) / 64:=by rw [aR]<;>omega
 have q2:IntKind.i32.wrap ((r:Int) / 4096)=(r:Int) / 4096:=by rw [aR]<;>omega
 have q3:IntKind.i32.wrap ((r:Int) / 262144)=(r:Int) / 262144:=by rw [aR]<;>omega
 have m0:(r:Int).tmod 64=(r:Int)%64:=CW _ (by omega);have m1:((r:Int) / 64).tmod 64=(r:Int) / 64%64:=CW _ (by omega);have m2:((r:Int) / 4096).tmod 64=(r:Int) / 4096%64:=CW _ (by omega);have e0:UInt8.ofNat (IntKind.u8.wrap (IntKind.i32.wrap (128+(r:Int)%64))).toNat=UInt8.ofNat (128+r%64):=vN _ _ (by rw [aR]<;>omega) (by omega);have e1:UInt8.ofNat (IntKind.u8.wrap (IntKind.i32.wrap (128+(r:Int) / 64%64))).toNat=UInt8.ofNat (128+r / 64%64):=vN _ _ (by rw [aR]<;>omega) (by omega);have e2:UInt8.ofNat (IntKind.u8.wrap (IntKind.i32.wrap (128+(r:Int) / 4096%64))).toNat=UInt8.ofNat (128+r / 4096%64):=vN _ _ (by rw [aR]<;>omega) (by omega);have l1:r<2048→UInt8.ofNat (IntKind.u8.wrap (IntKind.i32.wrap (192+(r:Int) / 64))).toNat=UInt8.ofNat (192+r / 64):=fun hr=>vN _ _ (by rw [aR]<;>omega) (by omega)
 have l2:r<65536→UInt8.ofNat (IntKind.u8.wrap (IntKind.i32.wrap (224+(r:Int) / 4096))).toNat=UInt8.ofNat (224+r / 4096):=fun hr=>vN _ _ (by rw [aR]<;>omega) (by omega)
 have l3:UInt8.ofNat (IntKind.u8.wrap (IntKind.i32.wrap (240+(r:Int) / 262144))).toNat=UInt8.ofNat (240+r / 262144):=vN _ _ (by rw [aR]<;>omega) (by omega);generalize UInt8.ofNat (128+r%64)=B0 at *
 generalize UInt8.ofNat (128+r / 64%64)=B1 at *
 generalize UInt8.ofNat (128+r / 4096%64)=B2 at *
 generalize UInt8.ofNat (192+r / 64)=C1 at *
 generalize UInt8.ofNat (224+r / 4096)=C2 at *
 generalize UInt8.ofNat (240+r / 262144)=C3 at *
 by_cases c1:r<128
 ·have c1':(r:Int)<128:=by omega
  simp [GE,c1,c1',w8 r (by omega)]
 ·have c1': ¬(r:Int)<128:=by omega
  by_cases c2:r<2048
  ·have c2':(r:Int)<2048:=by omega
   simp [GE,c1,c1',c2,c2',q1,m0,e0,l1 c2]
  ·have c2': ¬(r:Int)<2048:=by omega
   by_cases c3:r<65536
   ·have c3':(r:Int)<65536:=by omega
    simp [GE,c1,c1',c2,c2',c3,c3',q1,q2,m0,m1,e0,e1,l2 c3]
   ·have c3': ¬(r:Int)<65536:=by omega
    simp [GE,c1,c1',c2,c2',c3,c3',q1,q2,q3,m0,m1,m2,e0,e1,e2,l3]
def jn (r:Int):List UInt8:=if r<0 then [255] else cX r.toNat
def au:List Int→List UInt8
 |[]=>[]
 |r::l=>jn r++au l
theorem di: ∀a b:List Int,au (a++b)=au a++au b
 |[],b=>rfl
 |r::l,b=>by rw [bH,au,au,di l b,jq]
theorem tI (r:Nat):(cX r).length≤4∧1≤(cX r).length:=by
 unfold cX;split
 ·simp
 ·split
  ·simp
  ·split<;>simp
theorem I6 (r:Int):(jn r).length≤4:=by
 unfold jn;split
 ·simp
 ·exact (tI _).1
theorem jP: ∀l:List Int,(au l).length≤4*l.length
 |[]=>by simp [au]
 |r::l=>by
  have h1:=jP l;have h2:=I6 r;rw [au,cG,em];omega
theorem Ah (l:List Int) (i:Nat) (h:i<l.length): ∀h2,(a7 l)[i]'h2=[i3 l[i]]:=fun _=>by simp [a7]
theorem fp {s:List UInt8} {i:Nat} (h:i<s.length):s.drop i=UInt8.ofNat (aX s i)::s.drop (i+1):=by
 rw [oU h,jk h,UInt8.ofNat_toNat]
theorem kv {s:List UInt8} {i:Nat} (h:eE s i=true):i<s.length:=(gN.1 h).1
theorem lW {s:List UInt8} {i:Nat} (h:eE s i=true):128≤aX s i∧aX s i≤191:=by
 unfold eE at h;exact AO h
theorem iv {l r:Nat} (h:cF l r=true):l≤r∧r≤1114111∧ ¬(55296≤r∧r<57344):=by
 unfold cF at h;exact AO h
theorem I7 (s:List UInt8) (i:Nat) (h:i<s.length) (hr:(ak s i).1≠ -1):cX (ak s i).1.toNat=(s.drop i).take (ak s i).2:=by
 have b0:=gY s i;unfold ak at hr ⊢;simp only at hr ⊢;by_cases c1:aX s i<128
 ·rw [if_pos c1];simp only [Int.toNat_natCast];rw [fp h];unfold cX;rw [if_pos c1];rfl
 ·rw [if_neg c1] at hr ⊢;by_cases c2:192≤aX s i∧aX s i<224
  ·rw [if_pos c2] at hr ⊢;rw [Cx] at hr ⊢;split at hr
   ·rename_i hc;rw [if_pos hc];rw [aE] at hc;have k1:=lW hc.1;have m1:=kv hc.1;have q:=iv hc.2;simp only [Int.toNat_natCast];rw [fp h,fp m1];generalize aX s i=x at *
    generalize aX s (i+1)=y at *
    unfold cX;rw [if_neg (by omega),if_pos (by omega),show 192+(64*(x - 192)+(y - 128)) / 64=x by omega,show 128+(64*(x - 192)+(y - 128))%64=y by omega];rfl
   ·exact absurd rfl hr
  ·rw [if_neg c2] at hr ⊢;by_cases c3:224≤aX s i∧aX s i<240
   ·rw [if_pos c3] at hr ⊢;rw [Cy] at hr ⊢;split at hr
    ·rename_i hc;rw [if_pos hc];rw [aE,aE] at hc;have k1:=lW hc.1.1;have m1:=kv hc.1.1;have k2:=lW hc.1.2;have m2:=kv hc.1.2;have q:=iv hc.2;simp only [Int.toNat_natCast];rw [fp h,fp m1,fp m2];generalize aX s i=x at *
     generalize aX s (i+1)=y at *
     generalize aX s (i+2)=z at *
     unfold cX;rw [if_neg (by omega),if_neg (by omega),if_pos (by omega),show 224+(64*(64*(x - 224)+(y - 128))+(z - 128)) / 4096=x by omega,show 128+(64*(64*(x - 224)+(y - 128))+(z - 128)) / 64%64=y by omega,show 128+(64*(64*(x - 224)+(y - 128))+(z - 128))%64=z by omega];rfl
    ·exact absurd rfl hr
   ·rw [if_neg c3] at hr ⊢;by_cases c4:240≤aX s i∧aX s i<248
    ·rw [if_pos c4] at hr ⊢;rw [Cz] at hr ⊢;split at hr
     ·rename_i hc;rw [if_pos hc];rw [aE,aE,aE] at hc;have k1:=lW hc.1.1.1;have m1:=kv hc.1.1.1;have k2:=lW hc.1.1.2;have m2:=kv hc.1.1.2;have k3:=lW hc.1.2;have m3:=kv hc.1.2;have q:=iv hc.2;simp only [Int.toNat_natCast];rw [fp h,fp m1,fp m2,fp m3];generalize aX s i=x at *
      generalize aX s (i+1)=y at *
      generalize aX s (i+2)=z at *
      generalize aX s (i+3)=v at *
      unfold cX;rw [if_neg (by omega),if_neg (by omega),if_neg (by omega),show 240+(64*(64*(64*(x - 240)+(y - 128))+(z - 128))+(v - 128)) / 262144=x by omega,show 128+(64*(64*(64*(x - 240)+(y - 128))+(z - 128))+(v - 128)) / 4096%64=y by omega,show 128+(64*(64*(64*(x - 240)+(y - 128))+(z - 128))+(v - 128)) / 64%64=z by omega,show 128+(64*(64*(64*(x - 240)+(y - 128))+(z - 128))+(v - 128))%64=v by omega];rfl
     ·exact absurd rfl hr
    ·rw [if_neg c4] at hr;exact absurd rfl hr
def ug (r:Int):Prop:=r= -1∨(0≤r∧r≤1114111∧ ¬(55296≤r∧r<57344))
theorem pR (s:List UInt8) (i n r0 l:Nat):ug (bG s i n r0 l).1:=by
 unfold bG ug;split
 ·rename_i h;rw [aE] at h
  have:=iv h.2
  right;simp only;omega
 ·left;rfl
theorem lX (s:List UInt8) (i:Nat):ug (ak s i).1:=by
 unfold ak;simp only;split
 ·right;simp only;omega
 ·split
  ·exact pR ..
  ·split
   ·exact pR ..
   ·split
    ·exact pR ..
    ·left;rfl
theorem fE (s:List UInt8): ∀(n i:Nat),s.length - i≤n→ ∀r∈ai s i,ug r
 |0,i,h,r,hr=>by rw [aH (by omega)] at hr;cases hr
 |n+1,i,h,r,hr=>by
  by_cases hi:i<s.length
  ·rw [aW hi] at hr;rcases jU.1 hr with rfl|hr
   ·exact lX s i
   ·have:=bI s i
    exact fE s n _ (by omega) r hr
  ·rw [aH hi] at hr;cases hr
theorem I8 (b:UInt8) (t:List UInt8):aX (b::t) 0=b.toNat:=rfl
theorem jo (n:Nat) (h:n<256) (t:List UInt8):aX (UInt8.ofNat n::t) 0=n:=by
 rw [I8,UInt8.toNat_ofNat_of_lt' (by simpa using h)]
theorem Ln (r:Nat) (h1:r≤1114111) (h2: ¬(55296≤r∧r<57344)) (t:List UInt8):ak (cX r++t) 0=((r:Int),(cX r).length):=by
 unfold cX;by_cases c1:r<128
 ·rw [if_pos c1];simp only [bH,bR];unfold ak;simp only [jo r (by omega) t];rw [if_pos c1];rfl
 ·rw [if_neg c1];by_cases c2:r<2048
  ·rw [if_pos c2];simp only [bH,bR];unfold ak;simp only [jo (192+r / 64) (by omega) _];rw [if_neg (by omega),if_pos (by omega),Cx];simp only [mM,eE,show ∀(b:UInt8) (t:List UInt8),aX (b::t) 1=aX t 0 from fun b t=>rfl,jo (128+r%64) (by omega) t];rw [if_pos (by simp [cF];omega)];simp only [em,vZ,iQ];exact ⟨by omega,trivial⟩
  ·rw [if_neg c2];by_cases c3:r<65536
   ·rw [if_pos c3];simp only [bH,bR];unfold ak;simp only [jo (224+r / 4096) (by omega) _];rw [if_neg (by omega),if_neg (by omega),if_pos (by omega),Cy];simp only [mM,eE,show ∀(b:UInt8) (t:List UInt8),aX (b::t) 1=aX t 0 from fun b t=>rfl,show ∀(b c:UInt8) (t:List UInt8),aX (b::c::t) 2=aX t 0 from fun b c t=>rfl,jo (128+r / 64%64) (by omega) _,jo (128+r%64) (by omega) t];rw [if_pos (by simp [cF];omega)];simp only [em,vZ,iQ];exact ⟨by omega,trivial⟩
   ·rw [if_neg c3];simp only [bH,bR];unfold ak;simp only [jo (240+r / 262144) (by omega) _];rw [if_neg (by omega),if_neg (by omega),if_neg (by omega),if_pos (by omega),Cz];simp only [mM,eE,show ∀(b:UInt8) (t:List UInt8),aX (b::t) 1=aX t 0 from fun b t=>rfl,show ∀(b c:UInt8) (t:List UInt8),aX (b::c::t) 2=aX t 0 from fun b c t=>rfl,show ∀(b c e:UInt8) (t:List UInt8),aX (b::c::e::t) 3=aX t 0 from fun b c e t=>rfl,jo (128+r / 4096%64) (by omega) _,jo (128+r / 64%64) (by omega) _,jo (128+r%64) (by omega) t];rw [if_pos (by simp [cF];omega)];simp only [em,vZ,iQ];exact ⟨by omega,trivial⟩
end Go.Ai
