/- P3: a part of the proof. Conditions: as each theorem says. -/
import Derived.Test.YtggemlhclppciaaGreatDoorP2
set_option maxHeartbeats 4000000
set_option linter.unusedSimpArgs false
set_option linter.unusedVariables false
set_option maxRecDepth 20000
namespace Go.Ai
open Go.Proofs
def Fm:List Tk→Nat→Int
 |[],_=> -1
 |a::r,i=>if (!eT a)=true then (i:Int) else Fm r (i+1)
theorem Fn: ∀(l:List Tk) (i:Nat),decide (0≤Fm l i)=!l.all eT
 |[],i=>rfl
 |a::r,i=>by
  rw [List.all_cons];by_cases h:eT a=true
  ·have e:Fm (a::r) i=Fm r (i+1):=if_neg (by simp [h]);rw [e,Fn r (i+1),h,kL]
  ·have e:Fm (a::r) i=i:=if_pos (by simpa using h);have h0:eT a=false:=by simpa using h
   rw [e,h0,lQ,jE (by omega)];rfl
theorem Fo (l:List Tk) (hl:l.length≤1000000) (ht: ∀t∈l,t.t.length≤900000) (d:Nat):
  b7 Tryz.prog gl 69 d ⟨[.sl (l.map Tk.row),.fn 41 []],[],[]⟩ ⟨i6 (Fm l 0),[],[]⟩:=by
 refine QT rfl ?_;have rl:(l.map Tk.row).length=l.length:=by simp
 have rat: ∀i (h:i<l.length),∀h2,(l.map Tk.row)[i]'h2=[i6 l[i].k,.str l[i].t,u l[i].n,i6 l[i].ln,i6 l[i].co]:=fun i h h2=>by simp [Tk.row]
 obtain ⟨R,hR⟩: ∃R,R=Fm l 0:=⟨_,rfl⟩;rw [←hR];generalize l.map Tk.row=RR at *
 simp only [az,bE,a7,AV.mp,bK,Pl.mp];simp [Qd,rl];refine bT (α:=Nat) (fun i=>⟨[(0,.sl RR),(1,.fn 41 []),(7,i6 l.length),(8,i6 i)],[],[]⟩) (fun i=>i≤l.length∧R=Fm (l.drop i) i) (fun i=>l.length - i) ?_ 0 ?_ ?_
 ·rintro K i hK ⟨h1,h2⟩;by_cases g:i<l.length
  ·have t1:IntKind.i64.wrap ((i:Int)+1)=(i+1:Nat):=by rw [an]<;>omega
   have gR:i<RR.length:=by omega
   have ra:=rat i g gR;rw [sf g] at h2;simp only [Fm] at h2;have C:=CM l[i] (ht _ (rL g));unfold Tk.row at C;have fin:(!eT l[i])=false→ ∀σ',e7 σ' ⟨[(0,.sl RR),(1,.fn 41 []),(7,i6 l.length),(8,i6 (i+1:Nat))],[],[]⟩→K σ':=
    fun hg σ' hσ=>hK (i+1) σ' ⟨by omega,by rw [hg] at h2;simpa using h2⟩ (by omega) hσ
   have hpos:(!eT l[i])=true→R=i:=fun hg=>by rw [if_pos hg] at h2;exact h2.symm▸rfl
   clear hK hR rat h2;generalize (!eT l[i])=q at *
   generalize l[i]=x at *
   have C:=fun d=>Sp.h (d:=d) C
   simp [g,gR,ra,rl];refine ax _ _ (C _) ?_;cases q
   ·have fin:=fin rfl;simp [t1];refine fin _ ?_;apply am<;>simp [t1]
   ·have h2:=hpos rfl;subst h2;simp;apply ai<;>simp
  ·obtain rfl:i=l.length:=by omega
   rw [Ix] at h2;simp only [Fm] at h2;subst h2;clear hK;simp;apply ai<;>simp
 ·exact ⟨jI _,hR⟩
 ·apply am<;>simp
theorem CN (l:List Tk) (hl:l.length≤1000000) (ht: ∀t∈l,t.t.length≤900000) (d:Nat):
  b7 Tryz.prog gl 44 d ⟨[.sl (l.map Tk.row),.fn 41 []],[],[]⟩ ⟨.bool (!l.all eT),[],[]⟩:=by
 refine QJ rfl ?_;have Q:=Fo l hl ht 7;rw [←Fn l 0];generalize l.map Tk.row=RR at *
 generalize Fm l 0=R at *
 simp only [az,bE,a7,AV.mp,bK,Pl.mp];simp [P5];refine ax _ _ (Q) ?_;simp;apply ai<;>simp
open Go.Proofs
mutual
def k7:It→Nat→List (Nat×It)
 | .mk n ws b ks ln co,d=>(d,.mk n ws b ks ln co)::eG ks (d+1)
def eG:List It→Nat→List (Nat×It)
 |[],_=>[]
 |x::r,d=>k7 x d++eG r d
end
def CO (p:Nat×It):List AV:=[i6 p.1,.agg p.2.row]
mutual
theorem zV: ∀(x:It) (d:Nat),sT x d=(k7 x d).map CO
 | .mk n ws b ks ln co,d=>by
  rw [sT,k7,ik,lA ks (d+1)];rfl
theorem lA: ∀(L:List It) (d:Nat),bJ L d=(eG L d).map CO
 |[],d=>rfl
 |x::r,d=>by rw [bJ,eG,List.map_append,zV x d,lA r d]
end
mutual
theorem CQ: ∀(x:It) (d:Nat),(k7 x d).length=ga x
 | .mk n ws b ks ln co,d=>by rw [k7,ga,dT,nU ks (d+1)];omega
theorem nU: ∀(L:List It) (d:Nat),(eG L d).length=bM L
 |[],d=>rfl
 |x::r,d=>by rw [eG,bM,cG,CQ x d,nU r d]
end
def zW (k:Nat) (p:Nat×It):Bool:=match p with
 |(d,.mk n ws b ks _ _)=>decide (k≤300)&&decide (d≤4)&&dy n&&decide (ws.length≤6)&&ws.all eT&&(b||ks.length==0)
def eZ:Nat→List (Nat×It)→Bool
 |_,[]=>true
 |k,p::r=>zW (k+1) p&&eZ (k+1) r
def H8 (x:It):Prop:=match x with
 | .mk n ws _ ks _ _=>n.length≤900000∧ws.length≤1000000∧(∀t∈ws,t.t.length≤900000)∧ks.length≤1000000
def I7:AC:=match Iw with
 | .sq _ (.sq _ (.sq (.sq _ (.bl _ (.rf _ _ _ _ a _))) _))=>a
 |_=> .no
def L9:AC:=match Iw with
 | .sq _ (.sq _ (.sq (.sq _ (.bl _ (.rf _ _ _ _ _ b))) _))=>b
 |_=> .no
def rZ (RR:List (List AV)) (k:Nat):St:=⟨[(9,.undef),(8,.fn 62 [.ptr (.nw 8 (.n 1)) 0]),(7,.sl RR),(3,.ptr (.n 3) 0),(2,.ptr (.n 2) 0),(0,.sl RR)],[(.nw 8 (.n 1),[.sl RR]),(.n 3,[i6 k]),(.n 2,[.bool false])],[]⟩
theorem uL (RR:List (List AV)) (j:Nat) (hj:j≤100000) (dd:Nat) (hdd:dd≤100000) (x:It) (hx:H8 x) (K:AE→St→Prop) (h1:zW (j+1) (dd,x)=true→K .n (rZ RR (j+1))) (h2:zW (j+1) (dd,x)=false→K .r (rZ RR (j+1))):
  B7 (b7 Tryz.prog gl) 9 [9,10] [2,3] I7 L9 (CO (dd,x)) K (rZ RR j):=by
 have t1:IntKind.i64.wrap ((j:Int)+1)=(j+1:Nat):=by rw [an]<;>omega
 refine ⟨⟨[.ptr (.n 2) 0,.ptr (.n 3) 0],[(.nw 8 (.n 1),[.sl RR]),(.n 3,[i6 j]),(.n 2,[.bool false])],[]⟩,⟨⟨?_,?_,?_,?_,?_,?_,?_⟩,?_,?_⟩,?_⟩;iterate 8 (· simp [rZ])
 ·refine mh ?_;simp
 obtain ⟨nm,ws,b,ks,ln,co⟩:=x;obtain ⟨x1,x2,x3,x4⟩:=hx;have NM:=ly nm x1;have HW:=CN ws x2 x3;unfold zW at h1 h2;simp only [CO,It.row,JJ,kR,a7,bE,AV.mp,bK,bt,bO,I7,Iw];have fin: ∀e:AE,K e (rZ RR (j+1))→ ∀σ':St,ar σ'.bx (.up (.nw 8 (.n 1)))=some [.sl RR]→ar σ'.bx (.up (.n 3))=some [i6 (j+1:Nat)]→ar σ'.bx (.up (.n 2))=some [.bool false]→(∀p∈σ'.bx,p.1.isIt=false)→
   ui 9 (rZ RR j) [2,3] ⟨[.ptr (.n 2) 0,.ptr (.n 3) 0],[(.nw 8 (.n 1),[.sl RR]),(.n 3,[i6 j]),(.n 2,[.bool false])],[]⟩ K e σ':=by
  intro e hk σ' b1 b2 b3 hi;refine ⟨⟨.tup [],[(.nw 8 (.n 1),[.sl RR]),(.n 3,[i6 (j+1:Nat)]),(.n 2,[.bool false])],[]⟩,⟨_,.z _,?_,?_,?_,?_,?_,?_⟩,⟨?_,?_,?_,?_,?_,?_,?_⟩,hi,hk⟩
  ·simp
  ·simp
  ·simp [LI,b1,b2,b3]
  ·simp
  ·simp
  ·simp
  iterate 7 (· simp [rZ])
 simp [Iw];simp only [L9,Iw];refine ⟨by rintro a c (⟨rfl,_⟩|⟨rfl,_⟩|⟨rfl,_⟩|⟨rfl,_⟩)<;>rfl,?_⟩;have wl:(ws.map Tk.row).length=ws.length:=Jn _;have kl:=ew ks;generalize List.map Tk.row ws=WR at *
 generalize aw ks=KR at *
 by_cases c1:j+1≤300
 ·have c1': ¬(300:Int)<((j+1:Nat):Int):=by omega
  have c1'': ¬(300:Int)<(j:Int)+1:=by omega
  by_cases c2:dd≤4
  ·have c2': ¬(4:Int)<(dd:Int):=by omega
   cases hn:dy nm with
   |false=>
    rw [hn] at NM;simp [t1,c1',c1'',c2'];apply ab NM;simp;refine fin _ (h2 (by simp [c1,c2,hn])) _ rfl rfl rfl ?_;simp
   |true=>
    rw [hn] at NM;by_cases c4:ws.length≤6
    ·have c4': ¬(6:Int)<(ws.length:Int):=by omega
     cases hw:ws.all eT with
     |false=>
      rw [hw] at HW;simp [t1,c1',c1'',c2'];apply ab NM;simp [wl,c4,c4'];refine ax _ _ (HW _) ?_;simp;refine fin _ (h2 (by simp only [c1,c2,hn,c4,hw];simp)) _ rfl rfl rfl ?_;simp
     |true=>
      rw [hw] at HW;cases b with
      |true=>
       simp [t1,c1',c1'',c2'];apply ab NM;simp [wl,c4,c4'];refine ax _ _ (HW _) ?_;simp;refine fin _ (h1 (by simp only [c1,c2,hn,c4,hw];simp)) _ rfl rfl rfl ?_;simp
      |false=>
       by_cases c6:0<ks.length
       ·have c6':(0:Int)<(ks.length:Int):=by omega
        have c6'':(ks.length==0)=false:=dh.2 (by omega);simp [t1,c1',c1'',c2'];apply ab NM;simp [wl,c4,c4'];refine ax _ _ (HW _) ?_;simp [kl,c6,c6'];refine fin _ (h2 (by simp only [c1,c2,hn,c4,hw,c6''];simp)) _ rfl rfl rfl ?_;simp
       ·have c6': ¬(0:Int)<(ks.length:Int):=by omega
        have c6'':(ks.length==0)=true:=bP.2 (by omega);simp [t1,c1',c1'',c2'];apply ab NM;simp [wl,c4,c4'];refine ax _ _ (HW _) ?_;simp [kl,c6,c6'];refine fin _ (h1 (by simp only [c1,c2,hn,c4,hw,c6''];simp)) _ rfl rfl rfl ?_;simp
    ·have c4':(6:Int)<(ws.length:Int):=by omega
     simp [t1,c1',c1'',c2'];apply ab NM;simp [wl,c4,c4'];refine fin _ (h2 (by simp [c1,c2,hn,c4])) _ rfl rfl rfl ?_;simp
  ·have c2':(4:Int)<(dd:Int):=by omega
   simp [t1,c1',c1'',c2'];refine fin _ (h2 (by simp [c1,c2])) _ rfl rfl rfl ?_;simp
 ·have c1':(300:Int)<((j+1:Nat):Int):=by omega
  have c1'':(300:Int)<(j:Int)+1:=by omega
  simp [t1,c1',c1''];refine fin _ (h2 (by simp [c1])) _ rfl rfl rfl ?_;simp
open Go.Proofs
theorem xi (L:List It) (hc:bM L≤90000) (hd:dX L≤90000) (htx: ∀p∈eG L 1,H8 p.2∧p.1≤100000) (D:Nat):b7 Tryz.prog gl 19 D ⟨[.sl (aw L)],[],[]⟩ ⟨.bool (eZ 0 (eG L 1)),[],[]⟩:=by
 refine Nc rfl ?_;have W:=fun d=>Ci L d
 have IT:=Ch L (.nw 8 (.n 1)) rfl (by omega) hd;have fl:=nU L 1;rw [lA] at IT;have hfl:(eG L 1).length≤90000:=by omega
 generalize eG L 1=FL at *
 generalize aw L=RR at *
 simp only [az,bE,a7,AV.mp,bK,Pl.mp,Iw,zf,AY,zg];simp [zf,AY,zg];refine ax _ _ (W _) ?_;simp [zf,AY,zg];refine ⟨by simp,62,[.ptr (.nw 8 (.n 1)) 0],[(.nw 8 (.n 1),[.sl RR])],FL.map CO,rfl,?_,IT,?_,?_⟩
 ·intro d cs h;simp only [ar] at h;split at h
  ·rename_i e;subst e;cases h;simp [Dm]
  ·cases h
 ·intro x hx;obtain ⟨p,_,rfl⟩:=tO.1 hx;rfl
 ·refine wy (fun k τ=>τ=rZ RR k∧eZ 0 FL=eZ k (FL.drop k)∧k≤FL.length) (FL.map CO) 0 _ ⟨rfl,by rw [Gz],jI _⟩ ?_ ?_
  ·rintro j x τ hx ⟨rfl,h2,h3⟩;rw [na] at h2 h3 ⊢;rw [vm] at hx;cases hp:FL[j]? with
   |none=>rw [hp] at hx;cases hx
   |some p=>
    rw [hp] at hx;cases hx;obtain ⟨hj,he⟩:=oU.1 hp;obtain ⟨dd,y⟩:=p;have hq:=htx _ (List.mem_of_getElem? hp);have ho:eZ 0 FL=(zW (j+1) (dd,y)&&eZ (j+1) (FL.drop (j+1))):=by
     rw [h2,sf hj,he];rfl
    refine uL RR j (by omega) dd hq.2 y hq.1 _ (fun h=>?_) (fun h=>?_)
    ·refine ⟨rfl,?_,by omega⟩;rw [ho,h,kL]
    ·rw [h,lQ] at ho;rw [ho];simp only [rZ];simp [uj];apply ai<;>simp
  ·rintro τ ⟨rfl,h2,h3⟩;rw [na,Jn,Ix] at h2;have h2:eZ 0 FL=true:=h2;rw [h2];simp only [rZ];simp [AY,uj];apply ai<;>simp
end Go.Ai
namespace Go.Ai
open Go.Proofs Go.Shelf Go.RowKit Go.Sort Go.Lib
theorem xj (w:World) (T:TypeId) (nd:Nat) (hs:nd≤24):Holds (fun (b:UInt8)=>Value.int .u8 (b.toNat:Int)) (w.alloc (.cells Lib.zeros24 T)) w.heap.size 0 (Array.replicate nd (0:UInt8)):=fun j hj=>by
 have hj':j<nd:=by simpa using hj
 refine ⟨?_,World.frozen?_alloc_new _ _ _ _⟩;rw [World.cell?_alloc_new,zeros24_at _ (by omega),getElem!_pos _ j hj];simp
theorem qM (w:World) (os:Array Obj) (k:Nat):Below w.heap.size w ((grow w os).drewN k):=by
 refine ⟨rfl,rfl,rfl,?_,fun i hi=>?_⟩
 ·show w.heap.size≤(w.heap++os).size;simp
 ·show (w.heap++os)[i]?=w.heap[i]?;exact Array.getElem?_append_left hi
set_option maxRecDepth 100000 in
theorem r6 (u:Nat) (hu1:100≤u) (hu64:u<18446744073709551616) (w:World) (htab: ∀q,q<20→w.cell? ⟨2,q,none⟩=some (.int .u64 ((10^q:Nat):Int))):
  Calls Tryz.prog 126 #[.int .u64 u,.int .i64 10] w fun e w'=>e= .returned (.string ⟨(Lib.decDigits u).toArray⟩)∧Below w.heap.size w w':=by
 have hnd20:Lib.nDigits u≤20:=by have:=Lib.numDigits_eq u (by omega) hu64;split at this<;>omega
 have hal:Tryz.prog.arrayLen 206=24:=by kernel_rfl
 have hsl: ∀W,(Instr.sliceAt 206 (.pointer (some ⟨w.heap.size,0,none⟩)) none (some (.int .i64 (Lib.nDigits u:Int))) none).run Tryz.prog W= .ok (.slice (some ⟨w.heap.size,0,none⟩) (Lib.nDigits u) 24) W:=fun W=>by
  rw [run_sliceAt_array_h W 206 ⟨w.heap.size,0,none⟩ (by kernel_rfl) .i64 (Lib.nDigits u:Int) (by omega) (by rw [hal];omega)]
  go_simp
 have hH0:=xj w 206 (Lib.nDigits u) (by omega);have hfmt:=Any.internal_strconv_formatBase10 A6 w.heap.size 0 24 u (Array.replicate (Lib.nDigits u) 0) (w.alloc (.cells Lib.zeros24 206)) hH0 (by rw [Array.size_replicate];exact Lib.lt_pow_nDigits u) hu64 (by rw [Array.size_replicate];omega);rw [Array.size_replicate] at hfmt;have HH0:=Lib.hid hH0;clear hH0 hal;have hnd:Calls Tryz.prog 166 #[.int .u64 u] (w.alloc (.cells Lib.zeros24 206)) fun e w'=>e= .returned (.int .i64 (Lib.nDigits u))∧w'=(w.alloc (.cells Lib.zeros24 206)):=
  jA A5 u (by omega) hu64 _ (fun q hq=>by
   have h1:=htab q hq;have h2:=World.block_lt_of_cell? w _ h1;exact (World.cell?_alloc_lt w _ _ h2).trans h1)
 go_enter Tryz.func126,Tryz.ntmps126
 go_wp2_with (first
  |(go_at_call 166;refine hnd.mono ?_;rintro e w' ⟨rfl,rfl⟩))
 go_at_call 167
 refine hfmt.mono ?_;rintro e w' ⟨rfl,k,v',dk,rfl,hF⟩;have hcv:(convert 67 9 (.slice (some ⟨w.heap.size,0,none⟩) (Lib.nDigits u) 24)).run Tryz.prog ((putRow (fun (b:UInt8)=>Value.int .u8 (b.toNat:Int)) (w.alloc (.cells Lib.zeros24 206)) w.heap.size 0 dk).drewN k)= .ok (.string ⟨(Lib.decDigits u).toArray⟩) ((putRow (fun (b:UInt8)=>Value.int .u8 (b.toNat:Int)) (w.alloc (.cells Lib.zeros24 206)) w.heap.size 0 dk).drewN k):=by
  have h:=run_convert_bytes_back (P:=Tryz.prog) ((putRow (fun (b:UInt8)=>Value.int .u8 (b.toNat:Int)) (w.alloc (.cells Lib.zeros24 206)) w.heap.size 0 dk).drewN k) 67 9 5 ⟨w.heap.size,0,none⟩ 24 (Lib.decDigits u) Tryz.underlying67 Tryz.underlying5 Tryz.underlying9 (fun j hj=>by
   rw [Lib.row_is_numeral hF j hj,Lib.add_plain,World.cell?_drewN];exact cell?_putRow (fun (b:UInt8)=>Value.int .u8 (b.toNat:Int)) _ w.heap.size 0 _ dk HH0.out (by rw [hF.size,Array.size_replicate]) j (by rw [hF.size];rw [Lib.decDigits_length] at hj;exact hj))
  rw [Lib.decDigits_length] at h;exact h
 go_wp2
 go_ret
 refine ⟨rfl,?_⟩;rw [alloc_eq_grow];obtain ⟨os',_,eg⟩:=putRow_grow_new (fun (b:UInt8)=>Value.int .u8 (b.toNat:Int)) w #[.cells Lib.zeros24 206] w.heap.size 0 dk (eV _);rw [eg];exact qM w os' k

theorem qN (n:Nat) (h:n<100):Sp Tryz.prog gl 165 [i6 n] (.str (Lib.decDigits n)):=by
 refine ee Tryz.func165 (by kernel_rfl) (by kernel_rfl) ?_;intro S gb w vs hvs hag;simp only [aa,PR] at hvs;obtain ⟨_,_,rfl,rfl,rfl⟩:=hvs;exact (Any.internal_strconv_small Cc n h w).mono fun e w' ⟨he,hw⟩=>⟨_,he,hw▸Below.refl _ _,by simp [PR]⟩
theorem Kq:List.lookup 2 gl=some ((List.range 20).map fun q=>Value.int .u64 ((10^q:Nat):Int)):=by kernel_rfl
theorem tD {w:World} (h: ∀i us,List.lookup i gl=some us→ ∀(o:Nat) (u:Value),us[o]?=some u→w.cell? ⟨i,o,none⟩=some u) (q:Nat) (hq:q<20):w.cell? ⟨2,q,none⟩=some (.int .u64 ((10^q:Nat):Int)):=
 h 2 _ Kq q _ (by simp [hq])
theorem CR (n:Nat) (h:n<18446744073709551616):Sp Tryz.prog gl 126 [u n,i6 10] (.str (Lib.decDigits n)):=by
 by_cases g:n<100
 ·refine Nz rfl rfl ?_;have S:=qN n g;generalize Lib.decDigits n=R at *
  have t1:IntKind.i64.wrap (n:Int)=n:=by rw [an]<;>omega
  have g':(n:Int)<100:=by omega
  simp [KZ,t1,g,g'];refine aT _ S ?_;simp
 ·refine jO Tryz.func126 (by kernel_rfl) (by kernel_rfl) ?_;intro S gb w vs hvs hag hgl;simp only [aa,PR] at hvs;obtain ⟨_,_,rfl,rfl,_,_,rfl,rfl,rfl⟩:=hvs;exact (r6 n (by omega) h w (tD hgl)).mono fun e w' ⟨he,hw⟩=>⟨_,he,hw,by simp [PR]⟩
theorem Fp (n:Nat) (h:n<18446744073709551616):Sp Tryz.prog gl 93 [u n,i6 10] (.str (Lib.decDigits n)):=by
 refine Q6 rfl rfl ?_;have S:=CR n h;generalize Lib.decDigits n=R at *
 simp [Ql];refine aT _ S ?_;simp
end Go.Ai
namespace Go.Ai
def bu (n:Nat):List UInt8:=if h:n<10 then [UInt8.ofNat (48+n)] else bu (n / 10)++[UInt8.ofNat (48+n%10)]
termination_by n
decreasing_by omega
def aH (s:List UInt8):Nat:=s.foldl (fun a b=>10*a+(b.toNat - 48)) 0
def ay (b:UInt8):Bool:=decide (48≤b.toNat∧b.toNat≤57)
def bm (s:List UInt8):Bool:=!s.isEmpty&&s.all ay&&(s.headD 0 !=48||s.length==1)
theorem gN {n:Nat} (h:n<10):bu n=[UInt8.ofNat (48+n)]:=by rw [bu,dif_pos h]
theorem fm {n:Nat} (h: ¬n<10):bu n=bu (n / 10)++[UInt8.ofNat (48+n%10)]:=by rw [bu,dif_neg h]
theorem mK {k:Nat} (h:k<10):(UInt8.ofNat (48+k)).toNat=48+k:=by simp;omega
theorem fp (s:List UInt8) (b:UInt8):aH (s++[b])=10*aH s+(b.toNat - 48):=by simp [aH]
theorem kG (n:Nat):aH (bu n)=n:=by
 induction n using Nat.strongRecOn with
 |_ n ih=>
  by_cases h:n<10
  ·rw [gN h,←bO [_],fp,mK h];simp [aH]
  ·rw [fm h,fp,ih _ (by omega),mK (by omega)];omega
theorem kg (n:Nat):bu n≠[]:=by
 by_cases h:n<10
 ·rw [gN h];simp
 ·rw [fm h];simp
theorem ic (n:Nat):(bu n).all ay=true:=by
 induction n using Nat.strongRecOn with
 |_ n ih=>
  by_cases h:n<10
  ·rw [gN h];simp [ay,mK h];omega
  ·rw [fm h,List.all_append,ih _ (by omega)];simp [ay,mK (show n%10<10 by omega)];omega
theorem Fq (n:Nat) (h:0<n):(bu n).headD 0≠48:=by
 induction n using Nat.strongRecOn with
 |_ n ih=>
  by_cases g:n<10
  ·rw [gN g];intro e
   have:=congrArg UInt8.toNat e
   simp only [List.headD_cons] at this;rw [mK g] at this;simp at this;omega
  ·rw [fm g]
   have:=ih (n / 10) (by omega) (by omega)
   have h2:=kg (n / 10);cases hd:bu (n / 10) with
   |nil=>exact absurd hd h2
   |cons x r=>rw [hd] at this;simpa using this
theorem tF (n:Nat):bm (bu n)=true:=by
 unfold bm;rw [ic];have h1:(bu n).isEmpty=false:=by simpa using kg n
 rw [h1];by_cases h:0<n
 ·have:=Fq n h
  simp only [Bool.not_false,kL,BI,bne_iff_ne];exact .inl this
 ·have:n=0:=by omega
  subst this;rw [gN (by omega)];simp
theorem fA (k n:Nat) (h:n<10^(k+1)):(bu n).length≤k+1:=by
 induction k generalizing n with
 |zero=>rw [gN (by simpa using h)];simp
 |succ k ih=>
  by_cases g:n<10
  ·rw [gN g];simp
  ·rw [fm g]
   have:=ih (n / 10) (by rw [Jr] at h;omega)
   simp;omega
theorem Fs {α:Type} {P:List α→Prop} (h0:P []) (h1: ∀s b,P s→P (s++[b])): ∀s,P s:=by
 intro s;rw [←List.reverse_reverse s];induction s.reverse with
 |nil=>simpa using h0
 |cons b r ih=>rw [List.reverse_cons];exact h1 _ _ ih
theorem qO (s:List UInt8) (h:s.all ay=true):aH s<10^s.length:=by
 revert h;refine Fs (P:=fun s=>s.all ay=true→aH s<10^s.length) ?_ ?_ s
 ·intro _;simp [aH]
 ·intro s b ih h;rw [List.all_append,aC] at h
  have:=ih h.1
  have hb:ay b=true:=by simpa using h.2
  simp only [ay,rD] at hb;rw [fp,cG,yF,Jr];omega
open Go.Proofs

def bl (l:List Bool):AV:= .sl (l.map fun b=>[.bool b])
open Go.Proofs
end Go.Ai
namespace Go.Ai
open Go.Proofs
def qc (j:Nat) (B:List Bool):List AV:=(List.replicate j false++B).map AV.bool
open Go.Proofs

open Go.Proofs

section
variable {x:Nat} (hx:x<18446744073709551616)
include hx
set_option linter.unusedSectionVars false
end
end Go.Ai
set_option linter.unusedSectionVars false
namespace Go.Ai
open Go.Proofs
section
variable {Q:AE→St→Prop} {Y s y1 y0 un v v0:Nat}
end

end Go.Ai
set_option linter.unusedSectionVars false
namespace Go.Ai
open Go.Proofs
section
variable {rq rr:Nat}
end
end Go.Ai
