/- P5: a part of the proof. Conditions: as each theorem says. -/
import Derived.Test.YtggemlhclppciaaGreatDoorP4
import Derived.Lib.Bytealg
set_option maxHeartbeats 4000000
set_option linter.unusedSimpArgs false
set_option linter.unusedVariables false
set_option maxRecDepth 20000
namespace Go.Ai
open Go.Proofs
def fl (b:Bool):Int:=if b=true then 1 else 0
open Go.RowKit
open Go.Shelf Go.Sort Go.Lib
set_option maxRecDepth 100000 in
theorem uO (u:Nat) (hu1:100≤u) (hu63:u<9223372036854775808) (w:World) (htab: ∀q,q<20→w.cell? ⟨2,q,none⟩=some (.int .u64 ((10^q:Nat):Int))):
  Calls Tryz.prog 174 #[.int .i64 u,.int .i64 10] w fun e w'=>e= .returned (.string ⟨(Lib.decDigits u).toArray⟩)∧Below w.heap.size w w':=by
 have hu64:u<18446744073709551616:=by omega
 have hnd20:Lib.nDigits u≤20:=by have:=Lib.numDigits_eq u (by omega) hu64;split at this<;>omega
 have hal:Tryz.prog.arrayLen 206=24:=by kernel_rfl
 have hsl: ∀W,(Instr.sliceAt 206 (.pointer (some ⟨w.heap.size,0,none⟩)) (some (.int .i64 1)) (some (.int .i64 (1+(Lib.nDigits u:Int)))) none).run Tryz.prog W= .ok (.slice (some ⟨w.heap.size,1,none⟩) (Lib.nDigits u) 23) W:=fun W=>by
  rw [run_sliceAt_array_lh W 206 ⟨w.heap.size,0,none⟩ (by kernel_rfl) .i64 .i64 1 (1+(Lib.nDigits u:Int)) (by omega) (by omega) (by rw [hal];omega)]
  go_simp
  omega
 have hH0:=Lib.holds_zero w 206 (Lib.nDigits u) (by omega);have hfmt:=Any.internal_strconv_formatBase10 A6 w.heap.size 1 23 u (Array.replicate (Lib.nDigits u) 0) (w.alloc (.cells Lib.zeros24 206)) hH0 (by rw [Array.size_replicate];exact Lib.lt_pow_nDigits u) hu64 (by rw [Array.size_replicate];omega);rw [Array.size_replicate] at hfmt;have HH0:=Lib.hid hH0;clear hH0 hal;have hnd:Calls Tryz.prog 166 #[.int .u64 u] (w.alloc (.cells Lib.zeros24 206)) fun e w'=>e= .returned (.int .i64 (Lib.nDigits u))∧w'=(w.alloc (.cells Lib.zeros24 206)):=
  jA A5 u (by omega) hu64 _ (fun q hq=>by
   have h1:=htab q hq;have h2:=World.block_lt_of_cell? w _ h1;exact (World.cell?_alloc_lt w _ _ h2).trans h1)
 go_enter Tryz.func174,Tryz.ntmps174
 go_wp2_with (first
  |(go_at_call 166;refine hnd.mono ?_;rintro e w' ⟨rfl,rfl⟩))
 go_at_call 167
 refine hfmt.mono ?_;rintro e w' ⟨rfl,k,v',dk,rfl,hF⟩;have hcv:(convert 67 9 (.slice (some ⟨w.heap.size,1,none⟩) (Lib.nDigits u) 23)).run Tryz.prog ((putRow (fun (b:UInt8)=>Value.int .u8 (b.toNat:Int)) (w.alloc (.cells Lib.zeros24 206)) w.heap.size 1 dk).drewN k)= .ok (.string ⟨(Lib.decDigits u).toArray⟩) ((putRow (fun (b:UInt8)=>Value.int .u8 (b.toNat:Int)) (w.alloc (.cells Lib.zeros24 206)) w.heap.size 1 dk).drewN k):=by
  have h:=run_convert_bytes_back (P:=Tryz.prog) ((putRow (fun (b:UInt8)=>Value.int .u8 (b.toNat:Int)) (w.alloc (.cells Lib.zeros24 206)) w.heap.size 1 dk).drewN k) 67 9 5 ⟨w.heap.size,1,none⟩ 23 (Lib.decDigits u) Tryz.underlying67 Tryz.underlying5 Tryz.underlying9 (fun j hj=>by
   rw [Lib.row_is_numeral hF j hj,Lib.add_plain,World.cell?_drewN];exact cell?_putRow (fun (b:UInt8)=>Value.int .u8 (b.toNat:Int)) _ w.heap.size 1 _ dk HH0.out (by rw [hF.size,Array.size_replicate]) j (by rw [hF.size];rw [Lib.decDigits_length] at hj;exact hj))
  rw [Lib.decDigits_length] at h;exact h
 go_wp2
 go_ret
 refine ⟨rfl,?_⟩;rw [alloc_eq_grow];obtain ⟨os',_,eg⟩:=putRow_grow_new (fun (b:UInt8)=>Value.int .u8 (b.toNat:Int)) w #[.cells Lib.zeros24 206] w.heap.size 1 dk (eV _);rw [eg];exact qM w os' k
theorem qR (n:Nat) (h:n<9223372036854775808):Sp Tryz.prog gl 174 [i6 n,i6 10] (.str (bu n)):=by
 rw [←mM];by_cases g:n<100
 ·refine K6 rfl rfl ?_;have S:=qN n g;generalize Lib.decDigits n=R at *
  have t1:IntKind.i64.wrap (n:Int)=n:=by rw [an]<;>omega
  have g':(n:Int)<100:=by omega
  have g0:(0:Int)≤n:=by omega
  simp [Jg,t1,g,g',g0];refine aT _ S ?_;simp
 ·refine jO Tryz.func174 (by kernel_rfl) (by kernel_rfl) ?_;intro S gb w vs hvs hag hgl;simp only [aa,PR] at hvs;obtain ⟨_,_,rfl,rfl,_,_,rfl,rfl,rfl⟩:=hvs;exact (uO n (by omega) h w (tD hgl)).mono fun e w' ⟨he,hw⟩=>⟨_,he,hw,by simp [PR]⟩
theorem iU (n:Nat) (h:n<9223372036854775808):Sp Tryz.prog gl 132 [i6 n,i6 10] (.str (bu n)):=by
 refine K1 rfl rfl ?_;have S:=qR n h;generalize bu n=R at *
 simp [Jb];refine aT _ S ?_;simp
theorem z7 (n:Nat) (h:n<9223372036854775808):Sp Tryz.prog gl 173 [i6 n] (.str (bu n)):=by
 refine NP rfl rfl ?_;have S:=qR n h;generalize bu n=R at *
 simp [K5];refine aT _ S ?_;simp
theorem tH (n:Nat) (h:n<9223372036854775808):Sp Tryz.prog gl 129 [i6 n] (.str (bu n)):=by
 refine NB rfl rfl ?_;have S:=z7 n h;generalize bu n=R at *
 simp [K0];refine aT _ S ?_;simp
def cK (r:Nat):List UInt8:=
 if r<128 then [UInt8.ofNat r]
 else if r<2048 then [UInt8.ofNat (192+r / 64),UInt8.ofNat (128+r%64)]
 else if r<65536 then [UInt8.ofNat (224+r / 4096),UInt8.ofNat (128+r / 64%64),UInt8.ofNat (128+r%64)]
 else [UInt8.ofNat (240+r / 262144),UInt8.ofNat (128+r / 4096%64),UInt8.ofNat (128+r / 64%64),UInt8.ofNat (128+r%64)]
def iy (r:Int):List UInt8:=if r<0 then [255] else cK r.toNat
def aq:List Int→List UInt8
 |[]=>[]
 |r::l=>iy r++aq l
theorem cB: ∀a b:List Int,aq (a++b)=aq a++aq b
 |[],b=>rfl
 |r::l,b=>by rw [bt,aq,aq,cB l b,lJ]
theorem qS (r:Nat):(cK r).length≤4∧1≤(cK r).length:=by
 unfold cK;split
 ·simp
 ·split
  ·simp
  ·split<;>simp
theorem Fy (r:Int):(iy r).length≤4:=by
 unfold iy;split
 ·simp
 ·exact (qS _).1
theorem fq: ∀l:List Int,(aq l).length≤4*l.length
 |[]=>by simp [aq]
 |r::l=>by
  have h1:=fq l;have h2:=Fy r;rw [aq,cG,dT];omega
theorem dY {s:List UInt8} {i:Nat} (h:i<s.length):s.drop i=UInt8.ofNat (aS s i)::s.drop (i+1):=by
 rw [sf h,kb h,UInt8.ofNat_toNat]
theorem js {s:List UInt8} {i:Nat} (h:eB s i=true):i<s.length:=(fJ.1 h).1
theorem kH {s:List UInt8} {i:Nat} (h:eB s i=true):128≤aS s i∧aS s i≤191:=by
 unfold eB at h;exact xP h
theorem gw {l r:Nat} (h:dj l r=true):l≤r∧r≤1114111∧ ¬(55296≤r∧r<57344):=by
 unfold dj at h;exact xP h
theorem Fz (s:List UInt8) (i:Nat) (h:i<s.length) (hr:(ah s i).1≠ -1):cK (ah s i).1.toNat=(s.drop i).take (ah s i).2:=by
 have b0:=kd s i;unfold ah at hr ⊢;simp only at hr ⊢;by_cases c1:aS s i<128
 ·rw [if_pos c1];simp only [Int.toNat_natCast];rw [dY h];unfold cK;rw [if_pos c1];rfl
 ·rw [if_neg c1] at hr ⊢;by_cases c2:192≤aS s i∧aS s i<224
  ·rw [if_pos c2] at hr ⊢;rw [zP] at hr ⊢;split at hr
   ·rename_i hc;rw [if_pos hc];rw [aC] at hc;have k1:=kH hc.1;have m1:=js hc.1;have q:=gw hc.2;simp only [Int.toNat_natCast];rw [dY h,dY m1];generalize aS s i=x at *
    generalize aS s (i+1)=y at *
    unfold cK;rw [if_neg (by omega),if_pos (by omega),show 192+(64*(x - 192)+(y - 128)) / 64=x by omega,show 128+(64*(x - 192)+(y - 128))%64=y by omega];rfl
   ·exact absurd rfl hr
  ·rw [if_neg c2] at hr ⊢;by_cases c3:224≤aS s i∧aS s i<240
   ·rw [if_pos c3] at hr ⊢;rw [zQ] at hr ⊢;split at hr
    ·rename_i hc;rw [if_pos hc];rw [aC,aC] at hc;have k1:=kH hc.1.1;have m1:=js hc.1.1;have k2:=kH hc.1.2;have m2:=js hc.1.2;have q:=gw hc.2;simp only [Int.toNat_natCast];rw [dY h,dY m1,dY m2];generalize aS s i=x at *
     generalize aS s (i+1)=y at *
     generalize aS s (i+2)=z at *
     unfold cK;rw [if_neg (by omega),if_neg (by omega),if_pos (by omega),show 224+(64*(64*(x - 224)+(y - 128))+(z - 128)) / 4096=x by omega,show 128+(64*(64*(x - 224)+(y - 128))+(z - 128)) / 64%64=y by omega,show 128+(64*(64*(x - 224)+(y - 128))+(z - 128))%64=z by omega];rfl
    ·exact absurd rfl hr
   ·rw [if_neg c3] at hr ⊢;by_cases c4:240≤aS s i∧aS s i<248
    ·rw [if_pos c4] at hr ⊢;rw [zR] at hr ⊢;split at hr
     ·rename_i hc;rw [if_pos hc];rw [aC,aC,aC] at hc;have k1:=kH hc.1.1.1;have m1:=js hc.1.1.1;have k2:=kH hc.1.1.2;have m2:=js hc.1.1.2;have k3:=kH hc.1.2;have m3:=js hc.1.2;have q:=gw hc.2;simp only [Int.toNat_natCast];rw [dY h,dY m1,dY m2,dY m3];generalize aS s i=x at *
      generalize aS s (i+1)=y at *
      generalize aS s (i+2)=z at *
      generalize aS s (i+3)=v at *
      unfold cK;rw [if_neg (by omega),if_neg (by omega),if_neg (by omega),show 240+(64*(64*(64*(x - 240)+(y - 128))+(z - 128))+(v - 128)) / 262144=x by omega,show 128+(64*(64*(64*(x - 240)+(y - 128))+(z - 128))+(v - 128)) / 4096%64=y by omega,show 128+(64*(64*(64*(x - 240)+(y - 128))+(z - 128))+(v - 128)) / 64%64=z by omega,show 128+(64*(64*(64*(x - 240)+(y - 128))+(z - 128))+(v - 128))%64=v by omega];rfl
     ·exact absurd rfl hr
    ·rw [if_neg c4] at hr;exact absurd rfl hr
def nW (r:Int):Prop:=r= -1∨(0≤r∧r≤1114111∧ ¬(55296≤r∧r<57344))
theorem nX (s:List UInt8) (i n r0 l:Nat):nW (bR s i n r0 l).1:=by
 unfold bR nW;split
 ·rename_i h;rw [aC] at h
  have:=gw h.2
  right;simp only;omega
 ·left;rfl
theorem kI (s:List UInt8) (i:Nat):nW (ah s i).1:=by
 unfold ah;simp only;split
 ·right;simp only;omega
 ·split
  ·exact nX ..
  ·split
   ·exact nX ..
   ·split
    ·exact nX ..
    ·left;rfl
theorem eC (s:List UInt8): ∀(n i:Nat),s.length - i≤n→ ∀r∈ag s i,nW r
 |0,i,h,r,hr=>by rw [aD (by omega)] at hr;cases hr
 |n+1,i,h,r,hr=>by
  by_cases hi:i<s.length
  ·rw [aQ hi] at hr;rcases i8.1 hr with rfl|hr
   ·exact kI s i
   ·have:=bA s i
    exact eC s n _ (by omega) r hr
  ·rw [aD hi] at hr;cases hr
theorem FC (b:UInt8) (t:List UInt8):aS (b::t) 0=b.toNat:=rfl
theorem iz (n:Nat) (h:n<256) (t:List UInt8):aS (UInt8.ofNat n::t) 0=n:=by
 rw [FC,UInt8.toNat_ofNat_of_lt' (by simpa using h)]
theorem Ib (r:Nat) (h1:r≤1114111) (h2: ¬(55296≤r∧r<57344)) (t:List UInt8):ah (cK r++t) 0=((r:Int),(cK r).length):=by
 unfold cK;by_cases c1:r<128
 ·rw [if_pos c1];simp only [bt,bO];unfold ah;simp only [iz r (by omega) t];rw [if_pos c1];rfl
 ·rw [if_neg c1];by_cases c2:r<2048
  ·rw [if_pos c2];simp only [bt,bO];unfold ah;simp only [iz (192+r / 64) (by omega) _];rw [if_neg (by omega),if_pos (by omega),zP];simp only [na,eB,show ∀(b:UInt8) (t:List UInt8),aS (b::t) 1=aS t 0 from fun b t=>rfl,iz (128+r%64) (by omega) t];rw [if_pos (by simp [dj];omega)];simp only [dT,vA,gQ];exact ⟨by omega,trivial⟩
  ·rw [if_neg c2];by_cases c3:r<65536
   ·rw [if_pos c3];simp only [bt,bO];unfold ah;simp only [iz (224+r / 4096) (by omega) _];rw [if_neg (by omega),if_neg (by omega),if_pos (by omega),zQ];simp only [na,eB,show ∀(b:UInt8) (t:List UInt8),aS (b::t) 1=aS t 0 from fun b t=>rfl,show ∀(b c:UInt8) (t:List UInt8),aS (b::c::t) 2=aS t 0 from fun b c t=>rfl,iz (128+r / 64%64) (by omega) _,iz (128+r%64) (by omega) t];rw [if_pos (by simp [dj];omega)];simp only [dT,vA,gQ];exact ⟨by omega,trivial⟩
   ·rw [if_neg c3];simp only [bt,bO];unfold ah;simp only [iz (240+r / 262144) (by omega) _];rw [if_neg (by omega),if_neg (by omega),if_neg (by omega),if_pos (by omega),zR];simp only [na,eB,show ∀(b:UInt8) (t:List UInt8),aS (b::t) 1=aS t 0 from fun b t=>rfl,show ∀(b c:UInt8) (t:List UInt8),aS (b::c::t) 2=aS t 0 from fun b c t=>rfl,show ∀(b c e:UInt8) (t:List UInt8),aS (b::c::e::t) 3=aS t 0 from fun b c e t=>rfl,iz (128+r / 4096%64) (by omega) _,iz (128+r / 64%64) (by omega) _,iz (128+r%64) (by omega) t];rw [if_pos (by simp [dj];omega)];simp only [dT,vA,gQ];exact ⟨by omega,trivial⟩
theorem xo {a b:List UInt8} {i j:Nat} (h:aS a i=aS b j):eB a i=eB b j:=by unfold eB;rw [h]
theorem z8 {a b:List UInt8} {i j:Nat} (r0:Nat): ∀n,(∀q,1≤q→q≤n→aS a (i+q)=aS b (j+q))→rv a i r0 n=rv b j r0 n
 |0,_=>rfl
 |n+1,h=>by
  have e:=z8 r0 n (fun q h1 h2=>h q h1 (by omega));have f:=h (n+1) (by omega) (eV _);show 64*rv a i r0 n+(aS a (i+(n+1)) - 128)=64*rv b j r0 n+(aS b (j+(n+1)) - 128);rw [e,f]
theorem nY {a b:List UInt8} {i j:Nat}: ∀n,(∀q,1≤q→q≤n→aS a (i+q)=aS b (j+q))→kZ a i n=kZ b j n
 |0,_=>rfl
 |n+1,h=>by
  have e:=nY n (fun q h1 h2=>h q h1 (by omega));have f:=xo (h (n+1) (by omega) (eV _));show (kZ a i n&&eB a (i+(n+1)))=(kZ b j n&&eB b (j+(n+1)));rw [e,f]
theorem kn {a:List UInt8} {i:Nat} (q:Nat) (h1:1≤q) (h2:eB a (i+q)=false): ∀n,q≤n→kZ a i n=false
 |0,h=>by omega
 |n+1,h=>by
  rw [kZ];by_cases c:q=n+1
  ·rw [←c,h2,Lp]
  ·rw [kn q h1 h2 n (by omega),lQ]
theorem FD {a b:List UInt8} {i j m:Nat} (h: ∀q,q≤m→aS a (i+q)=aS b (j+q)) (hm:1≤m) (h0:aS b (j+m)<128) (n r0 l:Nat):bR a i n r0 l=bR b j n r0 l:=by
 unfold bR;by_cases c:n<m
 ·rw [nY (a:=a) (b:=b) (i:=i) (j:=j) n (fun q _ h2=>h q (by omega)),z8 (a:=a) (b:=b) (i:=i) (j:=j) r0 n (fun q _ h2=>h q (by omega))]
 ·have c1:eB b (j+m)=false:=by unfold eB;exact oV (by omega)
  have c2:eB a (i+m)=false:=by rw [xo (h m (eV _))];exact c1
  rw [kn m hm c2 n (by omega),kn m hm c1 n (by omega)];rfl
theorem FE {a b:List UInt8} {i j m:Nat} (h: ∀q,q≤m→aS a (i+q)=aS b (j+q)) (h0:aS b (j+m)<128):ah a i=ah b j:=by
 have e:=h 0 (jI _);rw [rE,rE] at e;unfold ah;simp only [e];by_cases c:m=0
 ·subst c;rw [rE] at h0;rw [if_pos h0,if_pos h0]
 ·simp only [FD h (by omega) h0]
theorem CV {a b:List UInt8} {i j:Nat} (h: ∀q,aS a (i+q)=aS b (j+q)):ah a i=ah b j:=by
 have e:=h 0;rw [rE,rE] at e;have f: ∀n r0 l,bR a i n r0 l=bR b j n r0 l:=fun n r0 l=>by
  unfold bR;rw [nY (a:=a) (b:=b) (i:=i) (j:=j) n (fun q _ _=>h q),z8 (a:=a) (b:=b) (i:=i) (j:=j) r0 n (fun q _ _=>h q)]
 unfold ah;simp only [e,f]
theorem Br (a b:List UInt8) (q:Nat):aS (a++b) (a.length+q)=aS b q:=by
 unfold aS;rw [List.getElem?_append_right (by omega),show a.length+q - a.length=q by omega]
theorem lB (a b:List UInt8): ∀(n q:Nat),b.length - q≤n→ag (a++b) (a.length+q)=ag b q
 |n,q,h=>by
  by_cases g:q<b.length
  ·have g2:a.length+q<(a++b).length:=by rw [cG];omega
   have e:ah (a++b) (a.length+q)=ah b q:=CV (fun z=>by rw [DE];exact Br a b (q+z));have p:=bA b q;rw [aQ g,aQ g2,e,DE];cases n with
   |zero=>omega
   |succ n=>rw [lB a b n (q+(ah b q).2) (by omega)]
  ·rw [aD g,aD (by rw [cG];omega)]
theorem tI {r:Int} (h:nW r) (t:List UInt8):ah (iy r++t) 0=(r,(iy r).length):=by
 rcases h with rfl|⟨h1,h2,h3⟩
 ·have e:iy (-1)=[255]:=rfl;rw [e];simp only [bt,bO];unfold ah;simp only [show aS (255::t) 0=255 from rfl];rw [if_neg (by omega),if_neg (by omega),if_neg (by omega),if_neg (by omega)];rfl
 ·have e:iy r=cK r.toNat:=if_neg (by omega);have hz:((r.toNat:Nat):Int)=r:=by omega
  rw [e,Ib r.toNat (by omega) (by omega) t,hz]
theorem xp (r:Int):1≤(iy r).length:=by
 unfold iy;split
 ·simp
 ·exact (qS _).2
theorem cC: ∀l:List Int,(∀r∈l,nW r)→ag (aq l) 0=l
 |[],_=>by rw [aq,aD (by simp)]
 |r::l,h=>by
  have p:=xp r;rw [aq,aQ (by rw [cG];omega),tI (h r (by simp))];simp only;rw [na,show (iy r).length=(iy r).length+0 from rfl,lB (iy r) (aq l) (aq l).length 0 (by omega),cC l (fun x hx=>h x (by simp [hx]))]
def Wk (s:List UInt8):Nat→List Int→Nat→Prop
 |i,[],j=>i=j
 |i,r::m,j=>i<s.length∧(ah s i).1=r∧Wk s (i+(ah s i).2) m j
theorem pw (s:List UInt8): ∀(m:List Int) (i j:Nat),Wk s i m j→j<s.length→Wk s i (m++[(ah s j).1]) (j+(ah s j).2)
 |[],i,j,h,hj=>by
  cases h;exact ⟨hj,rfl,rfl⟩
 |r::m,i,j,h,hj=>⟨h.1,h.2.1,pw s m _ j h.2.2 hj⟩
theorem FF (s:List UInt8): ∀(m:List Int) (i j:Nat),Wk s i m j→i≤j
 |[],i,j,h=>Nat.le_of_eq h
 |r::m,i,j,h=>by
  have:=FF s m _ j h.2.2
  omega
theorem mN {s:List UInt8} {j q:Nat} (h:q<j):aS (s.take j) q=aS s q:=by
 unfold aS;rw [oW,if_pos h]
theorem xq (s:List UInt8) (i q:Nat):aS (s.drop i) q=aS s (i+q):=by
 unfold aS;rw [List.getElem?_drop]
theorem FG (s:List UInt8) (i0 e:Nat) (he:e<s.length) (h0:aS s e<128): ∀(m:List Int) (i:Nat),i0≤i→Wk s i m (e+1)→ag ((s.take (e+1)).drop i0) (i - i0)=m
 |[],i,hi,h=>by
  rw [aD]
  have:i=e+1:=h
  rw [sn,sj];omega
 |r::m,i,hi,h=>by
  have hle:=FF s m _ _ h.2.2;have hp:=bA s i;have g:i - i0<((s.take (e+1)).drop i0).length:=by rw [sn,sj];omega
  have es:ah ((s.take (e+1)).drop i0) (i - i0)=ah s i:=by
   refine FE (m:=e - i) (fun q hq=>?_) ?_
   ·rw [xq,mN (by omega),show i0+(i - i0+q)=i+q by omega]
   ·rw [show i+(e - i)=e by omega];exact h0
  rw [aQ g,es,h.2.1,show i - i0+(ah s i).2=(i+(ah s i).2) - i0 by omega,FG s i0 e he h0 m _ (by omega) h.2.2]
theorem uP (s:List UInt8): ∀(m:List Int) (i j:Nat),j≤s.length→Wk s i m j→(∀r∈m,r≠ -1)→(s.take j).drop i=aq m
 |[],i,j,hj,h,_=>by
  have:i=j:=h
  subst this;rw [aq,Aq (by rw [sj];omega)]
 |r::m,i,j,hj,h,hr=>by
  have hle:=FF s m _ _ h.2.2;have ih:=uP s m _ j hj h.2.2 (fun x hx=>hr x (by simp [hx]));have h1:=h.2.1;have hne:(ah s i).1≠ -1:=by rw [h1];exact hr r (by simp)
  have en:=Fz s i h.1 hne;have ok:=kI s i;have er:iy r=cK (ah s i).1.toNat:=by
   rw [←h1];unfold iy;rw [if_neg];rcases ok with h|h
   ·exact absurd h hne
   ·omega
  rw [aq,er,en,←ih]
  have:(s.take j).drop i=((s.drop i).take (ah s i).2)++(s.take j).drop (i+(ah s i).2):=by
   rw [←List.drop_drop,List.drop_take,show List.take (ah s i).2 (List.drop i s)=List.take (ah s i).2 (List.take (j - i) (List.drop i s)) by rw [List.take_take,Nat.min_eq_left (by omega)],Gj]
  exact this
def lC (l:List Int) (i:Nat):Nat:=
 if h:i<l.length then
  if l[i]=10 then 0 else if l[i]=34 then i+1
  else if l[i]=92 then (if l[i+1]?=some 10 then 0 else lC l (i+2))
  else lC l (i+1)
 else 0
termination_by l.length - i
theorem qT {l:List Int} {i:Nat} (h:i<l.length):lC l i=if l[i]=10 then 0 else if l[i]=34 then i+1 else if l[i]=92 then (if l[i+1]?=some 10 then 0 else lC l (i+2)) else lC l (i+1):=by
 rw [lC,dif_pos h]
theorem uQ {l:List Int} {i:Nat} (h: ¬i<l.length):lC l i=0:=by rw [lC,dif_neg h]
def vp (a b:Int):List Int→List (Int×Int)
 |[]=>[(a,b)]
 |r::l=>(a,b)::(if r=10 then vp (a+1) 1 l else vp a (b+1) l)
def wthn (r:Int):Bool:=bN r||(cJ r||(decide (r=95)||(decide (r=45)||(decide (r=46)||decide (r=37)))))
theorem oM (r:Int):Sp Tryz.prog gl 141 [i3 r] (.bool (cJ r)):=by
 refine NE rfl rfl ?_;unfold cJ;by_cases h:48≤r
 ·simp [Jc,h]
 ·simp [Jc,h]
theorem uR (a b:Int):(a==b)=decide (a=b):=by
 by_cases h:a=b<;>simp [h]
theorem mO (r:Int):Sp Tryz.prog gl 107 [i3 r] (.bool (wthn r)):=by
 refine Nt rfl rfl ?_;have L:=gc r;have D:=oM r;unfold wthn;generalize bN r=a at *
 generalize cJ r=b at *
 cases a
 ·cases b
  ·have ne: ∀z:Int,¬r=z→(r==z)=false:=fun z h=>dh.2 h
   by_cases h1:r=95
   ·simp [xX];apply ab L;simp;apply ab D;simp [h1]
   ·by_cases h2:r=45
    ·simp [xX];apply ab L;simp;apply ab D;simp [h1,h2,ne 95 h1]
    ·by_cases h3:r=46
     ·simp [xX];apply ab L;simp;apply ab D;simp [h1,h2,h3,ne 95 h1,ne 45 h2]
     ·simp [xX];apply ab L;simp;apply ab D;simp [h1,h2,h3,ne 95 h1,ne 45 h2,ne 46 h3];exact uR r 37
  ·simp [xX];apply ab L;simp;apply ab D;simp
 ·simp [xX];apply ab L;simp
structure Sc where
 out:List Tk
 st:Int
 sa:Nat
 fl:Int
 fc:Int
 al:Int
 ac:Int
 cd:Int
 xl:Int
 xc:Int
def ed (s:List UInt8) (x:Sc):List AV:=[.str s,.sl (x.out.map Tk.row),i6 x.st,i6 x.sa,i6 x.fl,i6 x.fc,i6 x.al,i6 x.ac,i6 x.cd,i6 x.xl,i6 x.xc]
def Sc.begin (x:Sc) (i:Nat) (st:Int):Sc:={x with sa:=i,st:=st,fl:=x.al,fc:=x.ac}
def Sc.wrong (x:Sc) (e:Int):Sc:={x with cd:=e,xl:=x.fl,xc:=x.fc}
inductive TV where
 |e (c:Int)
 |t (k:Int) (w:List UInt8) (n:Nat)
def TV.av:TV→AV
 | .e c=> .ifc 28 (i6 c)
 | .t k w n=> .ifc 55 (.agg [i6 k,.str w,u n,i6 0,i6 0])
def TV.ok:TV→Bool
 | .e _=>false
 | .t _ _ _=>true
def Sc.add (x:Sc):TV→Sc
 | .e c=>x.wrong c
 | .t k w n=>{x with out:=x.out++[⟨k,w,n,x.fl,x.fc⟩],st:=0}
theorem uS (l:List Tk): ∀r∈l.map Tk.row,r.length=5:=by
 intro r hr;obtain ⟨_,_,rfl⟩:=tO.1 hr;rfl
theorem fL (s:List UInt8) (x:Sc) (i:Nat) (st:Int) (d:Nat) (b:Id) (hb:b.isIt=false) (hbd:b.isNw d=false):
  b7 Tryz.prog gl 75 d ⟨[.ptr b 0,i6 i,i6 st],[(b,ed s x)],[(.b b 1,5)]⟩ ⟨.tup [],[(b,ed s (x.begin i st))],[(.b b 1,5)]⟩:=by
 refine QU rfl ?_;have hib:=aP hbd;unfold ed Sc.begin;generalize x.out.map Tk.row=L at *
 simp only [az,bE,a7,AV.mp,bK,Pl.mp];simp [Qe];apply ai<;>simp [hib,hb]
theorem dG (s:List UInt8) (x:Sc) (e:Int) (d:Nat) (b:Id) (hb:b.isIt=false) (hbd:b.isNw d=false):
  b7 Tryz.prog gl 76 d ⟨[.ptr b 0,i6 e],[(b,ed s x)],[(.b b 1,5)]⟩ ⟨.bool false,[(b,ed s (x.wrong e))],[(.b b 1,5)]⟩:=by
 refine QV rfl ?_;have hib:=aP hbd;unfold ed Sc.wrong;generalize x.out.map Tk.row=L at *
 simp only [az,bE,a7,AV.mp,bK,Pl.mp];simp [Qf];apply ai<;>simp [hib,hb]
theorem gx (s:List UInt8) (x:Sc) (hl:x.out.length≤1000000) (v:TV) (d:Nat) (b:Id) (hb:b.isIt=false) (hbd:b.isNw d=false):
  b7 Tryz.prog gl 108 d ⟨[.ptr b 0,v.av],[(b,ed s x)],[(.b b 1,5)]⟩ ⟨.bool v.ok,[(b,ed s (x.add v))],[(.b b 1,5)]⟩:=by
 refine Nu rfl ?_;have hib:=aP hbd;have hlim:rM=140737488355328:=rfl;cases v with
 |e c=>
  have W:=fun e=>dG s x c e (.up b) hb
  unfold ed Sc.wrong at W;unfold ed Sc.add Sc.wrong TV.av TV.ok;generalize x.out.map Tk.row=L at *
  simp only [az,bE,a7,AV.mp,bK,Pl.mp];simp [I9];refine aK _ _ (W _ rfl) ⟨?_,?_,?_,?_,?_,?_,?_⟩ ?_;iterate 7 (· simp [hb])
  simp;apply ai<;>simp [hib,hb]
 |t k w n=>
  have h5:=uS x.out;have hll:((x.out.map Tk.row).length+1)*48≤140737488355328:=by simp;omega
  have he:(x.out++[(⟨k,w,n,x.fl,x.fc⟩:Tk)]).map Tk.row=x.out.map Tk.row++[[i6 k,.str w,u n,i6 x.fl,i6 x.fc]]:=by simp [Tk.row]
  unfold ed Sc.add TV.av TV.ok;simp only [he];clear he;generalize x.out.map Tk.row=L at *
  simp only [az,bE,a7,AV.mp,bK,Pl.mp];simp [I9,hlim];refine ⟨hll,h5,?_⟩;apply ai<;>simp [hib,hb]
def cF (l:List Int) (a b:Nat):List Int:=(l.take b).drop a
theorem FH {l:List Int} {a b:Nat} {r:Int} (h:r∈cF l a b):r∈l:=BH (List.mem_of_mem_drop h)
def fM (l:List Int) (i:Nat):Nat:=if h:i<l.length then (if wthn l[i]=true then fM l (i+1) else i) else i
termination_by l.length - i
theorem jt {l:List Int} {i:Nat} (h:i<l.length):fM l i=if wthn l[i]=true then fM l (i+1) else i:=by rw [fM,dif_pos h]
theorem gP {l:List Int} {i:Nat} (h: ¬i<l.length):fM l i=i:=by rw [fM,dif_neg h]
theorem px (l:List Int): ∀(n i:Nat),l.length - i≤n→i≤l.length→i≤fM l i∧fM l i≤l.length
 |0,i,h,hi=>by rw [gP (by omega)];omega
 |n+1,i,h,hi=>by
  by_cases g:i<l.length
  ·rw [jt g];split
   ·have:=px l n (i+1) (by omega) (by omega)
    omega
   ·omega
  ·rw [gP g];omega
theorem Aa (l:List Int): ∀(n i:Nat),l.length - i≤n→lC l i=0∨(i<lC l i∧lC l i≤l.length)
 |n,i,h=>by
  by_cases g:i<l.length
  ·rw [qT g];split
   ·exact .inl rfl
   ·split
    ·right;omega
    ·split
     ·split
      ·exact .inl rfl
      ·cases n with
       |zero=>omega
       |succ n=>
        rcases Aa l n (i+2) (by omega) with h|h
        ·exact .inl h
        ·right;omega
     ·cases n with
      |zero=>omega
      |succ n=>
       rcases Aa l n (i+1) (by omega) with h|h
       ·exact .inl h
       ·right;omega
  ·rw [uQ g];exact .inl rfl
structure On where
 k:Int
 w:List UInt8
 n:Nat
 en:Nat
 c:Int
def TV.on (en:Nat):TV→On
 | .e c=>⟨0,[],0,en,c⟩
 | .t k w n=>⟨k,w,n,en,0⟩
def TV.rs:TV→AV
 | .e c=> .tup [.agg [i6 0,.str [],u 0,i6 0,i6 0],i6 c]
 | .t k w n=> .tup [.agg [i6 k,.str w,u n,i6 0,i6 0],i6 0]
def On.av (x:On):AV:= .tup [.agg [i6 x.k,.str x.w,u x.n,i6 0,i6 0],i6 x.en,i6 x.c]
def ck (VR:List Int→TV) (U:List UInt8→List UInt8×Int) (l:List Int) (i:Nat) (r:Int):On:=
 if r=123 then ⟨7,[],0,i+1,0⟩ else if r=125 then ⟨8,[],0,i+1,0⟩ else if r=59 then ⟨9,[],0,i+1,0⟩
 else if r=34 then (if lC l (i+1)=0 then ⟨0,[],0,0,5⟩ else ⟨2,(U (aq (cF l i (lC l (i+1))))).1,0,lC l (i+1),(U (aq (cF l i (lC l (i+1))))).2⟩)
 else if wthn r=true then (VR (cF l i (fM l i))).on (fM l i)
 else ⟨0,[],0,0,5⟩
end Go.Ai
