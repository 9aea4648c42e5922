/- P18: a part of the proof. Conditions: as each theorem says. -/
import Derived.Test.YtggemlhclppciaaGreatDoorP17
import Derived.Test.YtggemlhclppciaaGreatDoorLib11
import Derived.Lib.LaidU8
import GoSem.PinnedTables
set_option maxHeartbeats 4000000
set_option linter.unusedSimpArgs false
set_option linter.unusedVariables false
set_option maxRecDepth 20000
namespace Go.Ai
open Go.Proofs
def ry:List UInt8:=[114,117,108,101,32,97,123,102,111,114,32,50,109,59,125]
theorem jM (s:List UInt8) (h:s.all (fun b=>decide (b.toNat<128))=true) (hn:cO 0 32 (s.map fun b=>(b.toNat:Int))=true):du s=true:=by
 unfold du;rw [jJ s (fun b hb=>AO (gE.1 h b hb))];exact hn
theorem sZ (s:List UInt8) (i:Nat) (h:i<s.length) (hc:s[i].toNat<128):ak s i=((s[i].toNat:Int),1):=by
 rcases jS s i h with ⟨_,e⟩|⟨e,_⟩
 ·exact e
 ·omega
theorem Ed {V:List UInt8→TV} {U:List UInt8→List UInt8×Int} {s:List UInt8} {x:Sc} {i:Nat} {r:Int} {k:Int} {w:List UInt8} {n:Nat} (h1:x.st=1) (h2:wthn r=false) (hv:V (dF s x.sa i)= .t k w n):bO V U s x i r=db (x.add (.t k w n)) i r:=by
 unfold bO;rw [if_pos h1,h2,if_neg (by decide),hv];rfl
theorem dR (V:List UInt8→TV) (U:List UInt8→List UInt8×Int) (s:List UInt8) (x y z:Sc) (i:Nat) (c:UInt8) (h:s[i]?=some c) (hc:c.toNat<128) (ht:bO V U s x i (c.toNat:Int)=(y,true)) (hz:y.adv (c.toNat:Int)=z):eP V U s x i=eP V U s z (i+1):=by
 subst hz;obtain ⟨g,rfl⟩:=qI.1 h;have e:=sZ s i g hc;have e2:kz (s[i].toNat:Int)=(s[i].toNat:Int):=by unfold kz;rw [if_neg (by omega)]
 rw [eP,dif_pos g,e,e2,ht];rfl
theorem xm (w:List UInt8) (c:UInt8) (r:List UInt8) (hw:w=c::r) (h:w.all (fun b=>decide (b.toNat<128))=true) (hd:cT (c.toNat:Int)=false) (hn:cO 0 32 (w.map fun b=>(b.toNat:Int))=true):sV w= .t 1 w 0:=by
 have hc:c.toNat<128:=AO (gE.1 h c (by simp [hw]));have hv:vR w=(c.toNat:Int):=by
  subst hw;unfold vR;rw [if_neg (by simp),sZ (c::r) 0 (by simp) hc];unfold kz;rw [if_neg (by show ¬(c.toNat:Int)= -1;omega)];rfl
 unfold sV;rw [hv,if_pos hd,if_pos (jM w h hn)]
theorem PK:sV [50,109]= .t 6 [] 120:=by
 have hv:vR [50,109]=50:=by
  unfold vR;rw [if_neg (by simp),sZ [50,109] 0 (by simp) (by decide)];rfl
 unfold sV;have hs:kH [50,109]=(120,0):=by
  unfold kH;rw [if_neg (by simp),jJ [50,109] (by decide)];rfl
 rw [hv,if_neg (by decide),if_neg (by decide),if_neg (by decide),if_neg (by decide),hs];rfl
def Ld:List It:=[.mk [114,117,108,101] [⟨1,[97],0,1,6⟩] true [.mk [102,111,114] [⟨6,[],120,1,12⟩] false [] 1 8] 1 1]
set_option maxRecDepth 100000 in
theorem zX:qB sV sU ry=⟨[⟨1,[114,117,108,101],0,1,1⟩,⟨1,[97],0,1,6⟩,⟨7,[],0,1,7⟩,⟨1,[102,111,114],0,1,8⟩,⟨6,[],120,1,12⟩,⟨9,[],0,1,14⟩,⟨8,[],0,1,15⟩,⟨0,[],0,1,16⟩],0,0,0⟩:=by
 have v1:=xm [114,117,108,101] 114 _ rfl (by decide) (by decide) (by decide);have v2:=xm [97] 97 _ rfl (by decide) (by decide) (by decide);have v3:=xm [102,111,114] 102 _ rfl (by decide) (by decide) (by decide);have v4:=PK;have R:eP sV sU ry xU 0=(⟨[⟨1,[114,117,108,101],0,1,1⟩,⟨1,[97],0,1,6⟩,⟨7,[],0,1,7⟩,⟨1,[102,111,114],0,1,8⟩,⟨6,[],120,1,12⟩,⟨9,[],0,1,14⟩,⟨8,[],0,1,15⟩],0,14,1,15,1,16,0,0,0⟩,true):=by
  refine (dR sV sU ry ⟨[],0,0,1,1,1,1,0,0,0⟩ _ ⟨[],1,0,1,1,1,2,0,0,0⟩ 0 114 rfl (by decide) rfl rfl).trans ?_;refine (dR sV sU ry ⟨[],1,0,1,1,1,2,0,0,0⟩ _ ⟨[],1,0,1,1,1,3,0,0,0⟩ 1 117 rfl (by decide) rfl rfl).trans ?_;refine (dR sV sU ry ⟨[],1,0,1,1,1,3,0,0,0⟩ _ ⟨[],1,0,1,1,1,4,0,0,0⟩ 2 108 rfl (by decide) rfl rfl).trans ?_;refine (dR sV sU ry ⟨[],1,0,1,1,1,4,0,0,0⟩ _ ⟨[],1,0,1,1,1,5,0,0,0⟩ 3 101 rfl (by decide) rfl rfl).trans ?_;refine (dR sV sU ry ⟨[],1,0,1,1,1,5,0,0,0⟩ _ ⟨[⟨1,[114,117,108,101],0,1,1⟩],0,4,1,5,1,6,0,0,0⟩ 4 32 rfl (by decide) ((Ed rfl rfl v1).trans rfl) rfl).trans ?_;refine (dR sV sU ry ⟨[⟨1,[114,117,108,101],0,1,1⟩],0,4,1,5,1,6,0,0,0⟩ _ ⟨[⟨1,[114,117,108,101],0,1,1⟩],1,5,1,6,1,7,0,0,0⟩ 5 97 rfl (by decide) rfl rfl).trans ?_;refine (dR sV sU ry ⟨[⟨1,[114,117,108,101],0,1,1⟩],1,5,1,6,1,7,0,0,0⟩ _ ⟨[⟨1,[114,117,108,101],0,1,1⟩,⟨1,[97],0,1,6⟩,⟨7,[],0,1,7⟩],0,6,1,7,1,8,0,0,0⟩ 6 123 rfl (by decide) ((Ed rfl rfl v2).trans rfl) rfl).trans ?_;refine (dR sV sU ry ⟨[⟨1,[114,117,108,101],0,1,1⟩,⟨1,[97],0,1,6⟩,⟨7,[],0,1,7⟩],0,6,1,7,1,8,0,0,0⟩ _ ⟨[⟨1,[114,117,108,101],0,1,1⟩,⟨1,[97],0,1,6⟩,⟨7,[],0,1,7⟩],1,7,1,8,1,9,0,0,0⟩ 7 102 rfl (by decide) rfl rfl).trans ?_;refine (dR sV sU ry ⟨[⟨1,[114,117,108,101],0,1,1⟩,⟨1,[97],0,1,6⟩,⟨7,[],0,1,7⟩],1,7,1,8,1,9,0,0,0⟩ _ ⟨[⟨1,[114,117,108,101],0,1,1⟩,⟨1,[97],0,1,6⟩,⟨7,[],0,1,7⟩],1,7,1,8,1,10,0,0,0⟩ 8 111 rfl (by decide) rfl rfl).trans ?_;refine (dR sV sU ry ⟨[⟨1,[114,117,108,101],0,1,1⟩,⟨1,[97],0,1,6⟩,⟨7,[],0,1,7⟩],1,7,1,8,1,10,0,0,0⟩ _ ⟨[⟨1,[114,117,108,101],0,1,1⟩,⟨1,[97],0,1,6⟩,⟨7,[],0,1,7⟩],1,7,1,8,1,11,0,0,0⟩ 9 114 rfl (by decide) rfl rfl).trans ?_;refine (dR sV sU ry ⟨[⟨1,[114,117,108,101],0,1,1⟩,⟨1,[97],0,1,6⟩,⟨7,[],0,1,7⟩],1,7,1,8,1,11,0,0,0⟩ _ ⟨[⟨1,[114,117,108,101],0,1,1⟩,⟨1,[97],0,1,6⟩,⟨7,[],0,1,7⟩,⟨1,[102,111,114],0,1,8⟩],0,10,1,11,1,12,0,0,0⟩ 10 32 rfl (by decide) ((Ed rfl rfl v3).trans rfl) rfl).trans ?_;refine (dR sV sU ry ⟨[⟨1,[114,117,108,101],0,1,1⟩,⟨1,[97],0,1,6⟩,⟨7,[],0,1,7⟩,⟨1,[102,111,114],0,1,8⟩],0,10,1,11,1,12,0,0,0⟩ _ ⟨[⟨1,[114,117,108,101],0,1,1⟩,⟨1,[97],0,1,6⟩,⟨7,[],0,1,7⟩,⟨1,[102,111,114],0,1,8⟩],1,11,1,12,1,13,0,0,0⟩ 11 50 rfl (by decide) rfl rfl).trans ?_;refine (dR sV sU ry ⟨[⟨1,[114,117,108,101],0,1,1⟩,⟨1,[97],0,1,6⟩,⟨7,[],0,1,7⟩,⟨1,[102,111,114],0,1,8⟩],1,11,1,12,1,13,0,0,0⟩ _ ⟨[⟨1,[114,117,108,101],0,1,1⟩,⟨1,[97],0,1,6⟩,⟨7,[],0,1,7⟩,⟨1,[102,111,114],0,1,8⟩],1,11,1,12,1,14,0,0,0⟩ 12 109 rfl (by decide) rfl rfl).trans ?_;refine (dR sV sU ry ⟨[⟨1,[114,117,108,101],0,1,1⟩,⟨1,[97],0,1,6⟩,⟨7,[],0,1,7⟩,⟨1,[102,111,114],0,1,8⟩],1,11,1,12,1,14,0,0,0⟩ _ ⟨[⟨1,[114,117,108,101],0,1,1⟩,⟨1,[97],0,1,6⟩,⟨7,[],0,1,7⟩,⟨1,[102,111,114],0,1,8⟩,⟨6,[],120,1,12⟩,⟨9,[],0,1,14⟩],0,13,1,14,1,15,0,0,0⟩ 13 59 rfl (by decide) ((Ed rfl rfl v4).trans rfl) rfl).trans ?_;refine (dR sV sU ry ⟨[⟨1,[114,117,108,101],0,1,1⟩,⟨1,[97],0,1,6⟩,⟨7,[],0,1,7⟩,⟨1,[102,111,114],0,1,8⟩,⟨6,[],120,1,12⟩,⟨9,[],0,1,14⟩],0,13,1,14,1,15,0,0,0⟩ _ ⟨[⟨1,[114,117,108,101],0,1,1⟩,⟨1,[97],0,1,6⟩,⟨7,[],0,1,7⟩,⟨1,[102,111,114],0,1,8⟩,⟨6,[],120,1,12⟩,⟨9,[],0,1,14⟩,⟨8,[],0,1,15⟩],0,14,1,15,1,16,0,0,0⟩ 14 125 rfl (by decide) rfl rfl).trans ?_;rw [eP,dif_neg (by decide)]
 unfold qB;rw [if_neg (by decide),R];rfl
set_option maxRecDepth 100000 in
theorem FF:Ch (qB sV sU ry)=(Ld,0,0,0):=by
 rw [zX];rfl
theorem Wb:fm 0 (dV Ld 1)=true:=by
 have n1:=jM [114,117,108,101] (by decide) (by decide);have n2:=jM [97] (by decide) (by decide);have n3:=jM [102,111,114] (by decide) (by decide);have w1:eS ⟨1,[97],0,1,6⟩=true:=by
  unfold eS gZ;rw [if_pos rfl,n2];rfl
 have w2:eS ⟨6,[],120,1,12⟩=true:=rfl;simp only [Ld,dV,mB,fm,CI,n1,n3,w1,w2,List.all_cons,List.all_nil,nA];rfl
theorem Wc:eZ 0 Ld=[114,117,108,101,32,97,32,123,10,32,32,102,111,114,32,50,109,59,10,125,10]:=by
 have n2:=jM [97] (by decide) (by decide);have w1:lS ⟨1,[97],0,1,6⟩=[97]:=by
  unfold lS fP gZ;rw [if_pos rfl,n2];rfl
 have w2:lS ⟨6,[],120,1,12⟩=[50,109]:=by
  unfold lS fP;rw [show gZ 6 [] 120=true from rfl];simp only [if_neg (show ¬true=false by decide),if_neg (show ¬(6:Int)=1 by decide),if_neg (show ¬(6:Int)=2 by decide),if_neg (show ¬(6:Int)=3 by decide),if_neg (show ¬(6:Int)=4 by decide),if_neg (show ¬(6:Int)=5 by decide),if_true];unfold pz;simp [kE,lu,bg]
 simp only [Ld,eZ,D6,qm,w1,w2,if_true,if_neg (show ¬true=false by decide),eX,Lib.repeatL,nA];rfl
theorem xo:Sp Tryz.prog gl 8 [] (.bool true):=by
 refine s8 rfl rfl ?_;have T:=zK ry (qB sV sU ry) (oJ sV sU ry (fun w hw=>my w (by have:ry.length=15:=rfl;omega)) (fun w hw=>qF w (by have:ry.length=15:=rfl;omega))) (fun _ h=>by rw [zX] at h;cases h);have LP:=qr Ld (by decide) (by simp [Ld,uF,Cm]) (by simp [Ld,xS,Fy]);unfold Lc at LP;rw [Wb,if_pos rfl,Wc] at LP;rw [FF] at T;unfold ry nb at T;dsimp only at T;generalize ar Ld=RU at *
 simp [c8];apply ab T;simp;apply ab LP;simp
set_option linter.constructorNameAsVariable false
open Go Go.ChangeShapes Go.WideShapes Go.RowKit
theorem s5: ∀L:List It,ar L=L.map It.row
 |[]=>rfl
 |x::r=>by rw [ar,s5 r,iP]
theorem Ee: ∀L:List It,(∀x∈L,Fy x)→xS L
 |[],_=>by rw [xS];trivial
 |x::r,h=>by rw [xS];exact ⟨h x (by simp),Ee r fun y hy=>h y (by simp [hy])⟩
set_option maxRecDepth 100000 in
theorem Le (n:Nat) (cs:List AV) (h:rT Tryz.prog n 55 cs): ∃x:Tk,x.n<18446744073709551616∧cs=x.row:=by
 rcases n with _|_|_|n
 ·exact h.elim
 ·simp [rT,qL] at h
 ·simp [rT,qL] at h
 ·simp [rT,qL,-Bool.exists_bool] at h;obtain ⟨_,_,rfl,⟨k,rfl,_⟩,_,_,rfl,⟨s,rfl,_⟩,_,_,rfl,⟨n,rfl,hn⟩,_,_,rfl,⟨ln,rfl,_⟩,co,rfl,_⟩:=h;have be:=bounds_u64 hn;obtain ⟨n,rfl⟩:=Int.eq_ofNat_of_zero_le be.1;exact ⟨⟨k,s,n,ln,co⟩,by simp only;omega,rfl⟩
set_option maxRecDepth 100000 in
theorem Io (n:Nat) (cs:List AV) (h:rT Tryz.prog n 51 cs): ∃L:List Tk,cs=[.sl (L.map Tk.row)]∧(∀x∈L,x.n<18446744073709551616)∧L.length≤9223372036854775807:=by
 cases n with
 |zero=>exact h.elim
 |succ n=>
  simp [rT,-Bool.exists_bool] at h;obtain ⟨rs,rfl,hl,hrs⟩:=h;obtain ⟨L,rfl,hL⟩:=wz (ok:=fun x:Tk=>x.n<18446744073709551616) (f:=Tk.row) (Le n) rs hrs;exact ⟨L,rfl,hL,by simpa [maxLen] using hl⟩
set_option maxRecDepth 100000 in
theorem Ip (n:Nat): ∀(cs:List AV),rT Tryz.prog n 22 cs→ ∃L:List It,cs=[.sl (ar L)]∧xS L∧L.length≤9223372036854775807:=by
 induction n using Nat.strongRecOn with
 |_ n ih=>
  intro cs h;cases n with
  |zero=>exact h.elim
  |succ n=>
   simp [rT,-Bool.exists_bool] at h;obtain ⟨rs,rfl,hl,hrs⟩:=h;have one: ∀r,rT Tryz.prog n 53 r→ ∃x:It,Fy x∧r=x.row:=by
    intro r hr;rcases n with _|_|n
    ·exact hr.elim
    ·simp [rT,qL] at hr
    ·have wo:=Io (n+1);have ki:=ih (n+1) (by omega);rw [rT] at hr;simp only [Tryz.underlying53] at hr;simp only [qL] at hr;obtain ⟨a1,b1,rfl,h1,a2,b2,rfl,h2,a3,b3,rfl,h3,a4,b4,rfl,h4,a5,b5,rfl,h5,rfl⟩:=hr;obtain ⟨ws,rfl,hw,hwl⟩:=wo _ h2;obtain ⟨ks,rfl,hk,hkl⟩:=ki _ h4;simp [rT,-Bool.exists_bool] at h1 h3;obtain ⟨s,rfl,hs⟩:=h1;obtain ⟨q,rfl⟩:=h3;cases n with
     |zero=>simp [rT,qL] at h5
     |succ n=>
      simp [rT,qL,-Bool.exists_bool] at h5;obtain ⟨_,_,rfl,⟨x1,rfl,_⟩,x2,rfl,_⟩:=h5;exact ⟨.mk s ws q ks x1 x2,by rw [Fy];exact ⟨hw,hk⟩,by rw [It.row];rfl⟩
   obtain ⟨L,rfl,hL⟩:=wz (ok:=Fy) (f:=It.row) one rs hrs;exact ⟨L,by rw [s5],Ee L hL,by simpa [maxLen] using hl⟩
theorem uH (L:List It) (hc:aT L≤1000) (hb:uF L):Sp Tryz.prog gl 20 [.sl (ar L)] (.bool (fm 0 (dV L 1))):=by
 refine Vd rfl rfl ?_;have RC:=uD _ L (eI _) (by omega);have RD:=uE _ L (eI _) (by omega);have RE:=xi _ L (Of _) (by omega) hb;rw [Ec];generalize ar L=RR at *
 generalize zU L=q at *
 by_cases c1:bN L≤4
 ·have c1':(bN L:Int)≤4:=by omega
  rw [io c1,ib];by_cases c2:aT L≤300
  ·have c2':(aT L:Int)≤300:=by omega
   rw [io c2,ib];simp [PW];apply ab RD;simp [c1,c1'];apply ab RC;simp [c2,c2'];apply ab RE;simp
  ·have c2': ¬(aT L:Int)≤300:=by omega
   rw [jd c2,iR];simp [PW];apply ab RD;simp [c1,c1'];apply ab RC;simp [c2,c2']
 ·have c1': ¬(bN L:Int)≤4:=by omega
  rw [jd c1,iR];simp [PW];apply ab RD;simp [c1,c1']
theorem oz (L:List It) (hn:xS L):Sp Tryz.prog gl 4 [.sl (ar L)] (.bool true):=by
 refine s4 rfl rfl ?_;have AW:=xo;have H:=Cs L;cases e1:wg L 40 400 with
 |none=>
  rw [e1] at H;generalize ar L=RR at *
  simp [c4];apply ab AW;simp;apply ab H;simp
 |some q=>
  rw [e1] at H;obtain ⟨a1,a2,a3⟩:=PJ e1;have PR:=qr L (by omega) a3 hn;have RI:=qq L (by omega) a3;have RR:=uH L (by omega) a3;have RP:=uG _ L 0 (Of _) (by omega) a3 hn;rw [show eX 0=[] from rfl] at RP;unfold Lc at PR;cases hr:fm 0 (dV L 1) with
  |false=>
   rw [hr] at PR RI RR;rw [if_neg (by decide)] at PR;clear RP;generalize ar L=IR at *
   simp [c4];apply ab AW;simp;apply ab H;simp;apply ab PR;simp;apply ab RI;simp;apply ab RR;simp;apply ab RR;simp
  |true=>
   rw [hr] at PR RI RR;rw [if_pos rfl] at PR;have TP:=zM (eZ 0 L);by_cases c1:40000<(eZ 0 L).length
   ·have c1':(40000:Int)<(eZ 0 L).length:=by omega
    obtain ⟨x,y,e⟩:=Cu c1;rw [e] at TP;simp only [nb,ar] at TP;clear e;generalize eZ 0 L=P at *
    generalize ar L=IR at *
    simp [c4];apply ab AW;simp;apply ab H;simp;apply ab PR;simp;apply ab RI;simp;apply ab RR;simp;apply ab RR;simp;apply ab RP;simp;apply ab TP;simp [c1,c1']
   ·have c1': ¬(40000:Int)<(eZ 0 L).length:=by omega
    obtain ⟨m,m1,m2⟩:=zV L hn hr (by omega);rw [m1] at TP;simp only [nb] at TP;have SM:=Cn _ L m (eI _) (by omega) a3;rw [m2] at SM;clear m1 m2;generalize eZ 0 L=P at *
    generalize ar L=IR at *
    generalize ar m=MM at *
    simp [c4];apply ab AW;simp;apply ab H;simp;apply ab PR;simp;apply ab RI;simp;apply ab RR;simp;apply ab RR;simp;apply ab RP;simp;apply ab TP;simp [c1,c1'];apply ab SM;simp
open Go.Lib
set_option maxRecDepth 100000
def oA:List Value:=(List.range 32).map fun o=>Value.int .u8 (if o%2=0 then (accLo (o / 2):Int) else (accHi (o / 2):Int))
def firstCells:List Value:=firstTab.map fun z=>Value.int .u8 z
theorem Cw {W:World} (h:VarReads Tryz.prog W "unicode/utf8.first" firstData) (o:Nat) (u:Value) (hu:firstCells[o]?=some u):W.cell? ⟨0,o,none⟩=some u∧u.oneCell'=true:=by
 have hg0:Tryz.prog.globalNamed "unicode/utf8.first"=some 0:=by kernel_rfl
 have ht0:(Tryz.prog.globals[0]?).map (·.type)=some 201:=by kernel_rfl
 obtain ⟨g,t,cs,fuel,p,hg,hty,hvar,hd⟩:=h;obtain rfl:=Option.some.inj (hg0.symm.trans hg);obtain rfl:=Option.some.inj (ht0.symm.trans hty);have hcs:=cells_of_tab (t:=201) (e:=5) (n:=256) (by kernel_rfl) (by kernel_rfl) (by kernel_rfl) (by kernel_rfl) hd;refine ⟨?_,?_⟩
 ·rw [World.var?_cell hg hvar o,←Array.getElem?_toList,hcs];exact hu
 ·obtain ⟨z,_,rfl⟩:=vY.1 (List.mem_of_getElem? hu);rfl
theorem Iq {W:World} (h:VarReads Tryz.prog W "unicode/utf8.acceptRanges" acceptData) (o:Nat) (u:Value) (hu:oA[o]?=some u):W.cell? ⟨1,o,none⟩=some u∧u.oneCell'=true:=by
 have hg0:Tryz.prog.globalNamed "unicode/utf8.acceptRanges"=some 1:=by kernel_rfl
 have ht0:(Tryz.prog.globals[1]?).map (·.type)=some 204:=by kernel_rfl
 have hc0:Tryz.prog.cellsOf 203=2:=by kernel_rfl
 obtain ⟨g,t,cs,fuel,p,hg,hty,hvar,hd⟩:=h;obtain rfl:=Option.some.inj (hg0.symm.trans hg);obtain rfl:=Option.some.inj (ht0.symm.trans hty);have ho:o<32:=by have:=(qI.1 hu).1;simpa [oA] using this
 simp only [oA,xP,List.getElem?_range ho,Option.map_some,cC] at hu;subst hu;refine ⟨?_,by split<;>rfl⟩;have hi:o / 2<16:=by omega
 obtain ⟨fuel',d,q,hdi,he⟩:=array_elem (t:=204) (e:=203) (n:=16) (by kernel_rfl) hd (o / 2) hi;simp only [xP,List.getElem?_range hi,Option.map_some,cC] at hdi;subst hdi;rw [hc0] at he;obtain ⟨fs,hfs,hsz,hf⟩: ∃fs:Array Field,Tryz.prog.underlying 203=some (.struct fs)∧fs.size=2∧ ∀(i:Nat) (f:Field),fs[i]?=some f→Tryz.prog.underlying f.type=some (.int .u8)∧f.offset=i∧Tryz.prog.cellsOf f.type=1:=by
  refine ⟨_,(by kernel_rfl:Tryz.prog.underlying 203=some (.struct #[Field.mk "lo" 5 0 false "" "unicode/utf8" 0,Field.mk "hi" 5 1 false "" "unicode/utf8" 1])),rfl,fun j f hj=>?_⟩
  match j,hj with
  |0,hj=>simp at hj;subst hj;exact ⟨by kernel_rfl,rfl,by kernel_rfl⟩
  |1,hj=>simp at hj;subst hj;exact ⟨by kernel_rfl,rfl,by kernel_rfl⟩
  |j+2,hj=>simp at hj
 have hcs:=ints_of_struct hfs hf (by rw [hc0,hsz]) he;have e0:=congrArg (·[0]?) hcs;have e1:=congrArg (·[1]?) hcs;simp only [pY,List.getElem?_drop] at e0 e1;rw [World.var?_cell hg hvar o,←Array.getElem?_toList];by_cases hp:o%2=0
 ·rw [if_pos hp];have eo:o / 2*2+0=o:=by omega
  rw [eo] at e0;simpa using e0
 ·rw [if_neg hp];have eo:o / 2*2+1=o:=by omega
  rw [eo] at e1;simpa using e1
end Go.Ai
