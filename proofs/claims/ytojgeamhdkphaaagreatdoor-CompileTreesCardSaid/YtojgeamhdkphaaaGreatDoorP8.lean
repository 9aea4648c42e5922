/- P8: a part of the proof. Conditions: as each theorem says. -/
import Derived.Test.YtojgeamhdkphaaaGreatDoorP7
import Derived.Lib.TrimUEq
import Derived.Lib.ValidU
import Derived.Lib.MapLaws
set_option maxHeartbeats 4000000
set_option linter.unusedSimpArgs false
set_option linter.unusedVariables false
set_option maxRecDepth 20000
namespace Go.Ai
open Go.Proofs
theorem ED (s:List UInt8) (i n r0 least:Nat) (h:(cB s i n r0 least).1= -1):(cB s i n r0 least).2=1:=by
 unfold cB at h ⊢;split
 ·rename_i hc;rw[if_pos hc] at h;simp only at h;omega
 ·rfl
theorem EE (s:List UInt8) (i:Nat) (h:(ax s i).1= -1):(ax s i).2=1:=by
 unfold ax at h ⊢;simp only at h ⊢;repeat' split
 all_goals first
  |rfl
  |(simp_all;done)
  |(simp_all;exact ED _ _ _ _ _ (by assumption))
theorem p8 (s:List UInt8) (i n r0 least:Nat) (hn:1<=n) (h:(cB s i n r0 least).1≠ -1):(cB s i n r0 least).2≠1:=by
 unfold cB at h ⊢;split
 ·simp only;omega
 ·rename_i hc;rw[if_neg hc] at h;exact absurd rfl h
theorem EF (s:List UInt8) (i:Nat) (h:(ax s i).1≠ -1) (h1:(ax s i).2=1):(ax s i).1<128:=by
 by_cases hb:cF s i<128
 ·unfold ax;simp only[hb,if_true];omega
 ·exfalso;unfold ax at h h1;simp only[hb,if_false] at h h1;split at h
  ·rename_i q;rw[if_pos q] at h1;exact p8 _ _ _ _ _ (by omega) h h1
  ·rename_i q;rw[if_neg q] at h1;split at h
   ·rename_i q;rw[if_pos q] at h1;exact p8 _ _ _ _ _ (by omega) h h1
   ·rename_i q;rw[if_neg q] at h1;split at h
    ·rename_i q;rw[if_pos q] at h1;exact p8 _ _ _ _ _ (by omega) h h1
    ·exact absurd rfl h
theorem Me (s:List UInt8) (i:Nat) (h:i<s.length):(eF s i).2=(ax s i).2:=by
 rw[hY s i h];split
 ·rename_i hb;rw[EE s i hb]
 ·rfl
def gG (l:List Int):Bool:=l.all fun r=>decide (0<=r)
theorem Ie (s:List UInt8) (i n r0 least:Nat):(cB s i n r0 least).1= -1\/0<=(cB s i n r0 least).1:=by
 unfold cB;split
 ·right;simp only;omega
 ·left;rfl
theorem If (s:List UInt8) (i:Nat):(ax s i).1= -1\/0<=(ax s i).1:=by
 unfold ax;simp only;repeat' split
 all_goals first
  |exact Ie _ _ _ _ _
  |(left;rfl)
  |(right;simp only;omega)
theorem BH (s:List UInt8) (i:Nat):eF s i=(((Lib.decodeL (s.drop i)).1:Int),(Lib.decodeL (s.drop i)).2):=by
 have:=Lib.decodeL_drop ⟨s.toArray⟩ i
 simp only at this;rw[this];rfl
theorem Dd (s:List UInt8): ∀(n i:Nat),s.length - i<=n->Lib.validGoD n (s.drop i)=gG (aC s i)
 |0,i,h=>by
  rw[bp (by omega)];rfl
 |n+1,i,h=>by
  by_cases g:i<s.length
  ·have hne:s.drop i≠[]:=by
    intro e
    have:=congrArg List.length e
    rw[BX] at this;simp at this;omega
   have sr:=hY s i g;have da:=BH s i;rw[da] at sr;simp only[Lib.validGoD,if_neg hne];rw[bW g];have pos:=cX s i;by_cases hb:(ax s i).1= -1
   ·rw[if_pos hb] at sr;simp only[jY] at sr;rw[if_pos ⟨by omega,sr.2⟩];simp[gG,hb]
   ·rw[if_neg hb] at sr;have e1:((Lib.decodeL (s.drop i)).1:Int)=(ax s i).1:=congrArg Prod.fst sr;have e2:(Lib.decodeL (s.drop i)).2=(ax s i).2:=congrArg Prod.snd sr;rw[if_neg (by
     rintro ⟨q1,q2⟩
     have:=EF s i hb (by omega)
     omega)]
    rw[List.drop_drop,e2,Dd s n (i+(ax s i).2) (by omega)];have h0:0<=(ax s i).1:=by rcases If s i with h|h;exact absurd h hb;exact h
    simp[gG,h0]
  ·have e:s.drop i=[]:=IP (by omega);simp only[Lib.validGoD,e,if_true];rw[bp g];rfl
theorem zW (s:List UInt8):Lib.validD s=gG (aC s 0):=by
 have:=Dd s s.length 0 (by omega)
 rwa [xj] at this
theorem BI (s:List UInt8) (hl:s.length<=900000):Sp Tryz.prog gl 96 [.str s] (.bool (gG (aC s 0))):=by
 refine Va rfl rfl ?_;have R:=ny s hl;have len:=nu s s.length 0 (by omega);have rl:=i9 (aC s 0);have rat: ∀i (h:i<(aC s 0).length),(bP (aC s 0))[i]?=some [.int .i32 (aC s 0)[i]]:=by intro i h;simp[bP,i3,h]
 generalize aC s 0=L at*;obtain ⟨G,hG⟩: ∃G,G=gG L:=⟨_,rfl⟩;rw[<-hG];generalize bP L=RR at*;simp[Tn];apply ab R;simp;refine aY (α:=Nat) (fun i=>⟨[(3,.sl RR),(4,i6 i)],[],[]⟩) (fun i=>i<=L.length/\gG (L.drop i)=G) (fun i=>L.length - i) ?_ 0 ?_ ?_
 ·rintro K i hK ⟨h1,h2⟩;by_cases g:i<L.length
  ·have t1:IntKind.i64.wrap ((i:Int)+1)=(i+1:Nat):=by rw[ay]<;>omega
   have ra:=rat i g;rw[rb g] at h2;simp only[gG,List.all_cons] at h2;have gR:i<RR.length:=by omega
   have ra': ∀h,RR[i]'h=[.int .i32 L[i]]:=fun h=>by rw[vy h] at ra;exact Option.some.inj ra
   have fin:decide (0<=L[i])=true-> ∀σ',fx σ' ⟨[(3,.sl RR),(4,i6 (i+1:Nat))],[],[]⟩->K σ':=fun hd σ' hσ=>hK (i+1) σ' ⟨by omega,by rw[hd,iX] at h2;exact h2⟩ (by omega) hσ
   generalize L[i]=r at*;by_cases hr:r<0
   ·rw[ik (by omega),jC] at h2;subst h2;simp[rl,g,gR,ra',hr]
   ·have fin:=fin (jm (by omega));clear hK;simp[rl,g,gR,ra',hr];refine fin _ (aj ?_ ?_ ?_ ?_ ?_ ?_)<;>simp[t1]
  ·obtain rfl:i=L.length:=by omega
   rw[xA] at h2
   have:G=true:=by rw[<-h2];rfl
   subst this;simp[rl]
 ·exact ⟨gN _,hG.symm⟩
 ·apply aj<;>simp
theorem qC (s:List UInt8) (hl:s.length<=900000):Sp Tryz.prog gl 94 [.str s] (i6 (aC s 0).length):=by
 refine U8 rfl rfl ?_;obtain ⟨R,hR⟩: ∃R,R=(aC s 0).length:=⟨_,rfl⟩;rw[<-hR];simp[Tm];refine aY (α:=Nat×Nat) (fun x=>⟨[(3,i6 x.2),(5,.itp 5)],[(.it 5,[.itr s x.1])],[]⟩)
  (fun x=>x.2<=x.1/\x.2+(aC s x.1).length=R/\x.1<=s.length+3) (fun x=>s.length+4 - x.1) ?_ (0,0) ?_ ?_
 ·rintro K ⟨i,n⟩ hK ⟨h1,h2,h3⟩;simp only at h1 h2 h3;by_cases g:i<s.length
  ·rw[bW g] at h2;simp only[jG] at h2;have sw:=Me s i g;have sl:=r9 g;have sp:=cX s i;have fin: ∀σ',fx σ' ⟨[(3,i6 (n+1:Nat)),(5,.itp 5)],[(.it 5,[.itr s (i+(ax s i).2)])],[]⟩->K σ':=
    fun σ' hσ=>hK (i+(ax s i).2,n+1) σ' ⟨by simp only;omega,by simp only;omega,by simp only;omega⟩ (by simp only;omega) hσ
   have t1:IntKind.i64.wrap ((n:Int)+1)=(n+1:Nat):=by rw[ay]<;>omega
   clear hK hR h2;simp[g,sw];refine fin _ (aj ?_ ?_ ?_ ?_ ?_ ?_)<;>simp[t1]
  ·rw[bp g] at h2
   have:n=R:=by simpa using h2
   subst this;simp[g]
 ·exact ⟨gp _,by simp[hR],by simp⟩
 ·apply aj<;>simp
theorem Ig:List.lookup 0 gl=some ((List.range 256).map fun c=>Value.int .u8 (Lib.firstT c)):=by kernel_rfl
theorem uZ:List.lookup 1 gl=some ((List.range 32).map fun c=>Value.int .u8 (if c%2=0 then Lib.accLo (c / 2) else Lib.accHi (c / 2))):=by kernel_rfl
theorem EG {w:World} (h: ∀i us,List.lookup i gl=some us-> ∀(o:Nat) (u:Value),us[o]?=some u->w.cell? ⟨i,o,none⟩=some u):Lib.Utf8Tabs 0 1 w:=by
 refine ⟨fun c hc=>?_,fun i hi=>⟨?_,?_⟩⟩
 ·exact h _ _ Ig c _ (by simp[hc])
 ·refine h _ _ uZ (2*i) _ ?_;have h1:2*i<32:=by omega
  have h2:2*i%2=0:=by omega
  have h3:2*i / 2=i:=by omega
  simp[h1,h2,h3]
 ·refine h _ _ uZ (2*i+1) _ ?_;have h1:2*i+1<32:=by omega
  have h2: ¬(2*i+1)%2=0:=by omega
  have h3:(2*i+1) / 2=i:=by omega
  simp only[xz,List.getElem?_range h1,Option.map_some,if_neg h2,h3]
theorem BJ (s:List UInt8) (hl:s.length<=900000):Sp Tryz.prog gl 116 [.str s] (.bool (Lib.validD s)):=by
 refine xD Tryz.func116 (by kernel_rfl) (by kernel_rfl) ?_;intro S gb w vs hvs hag hgl;simp only[aa,PR] at hvs;obtain ⟨_,_,rfl,rfl,rfl⟩:=hvs;have hs:(ByteArray.mk s.toArray).size<=9223372036854775807:=by
  have:(ByteArray.mk s.toArray).size=s.length:=rfl
  omega
 exact (Any.utf8_ValidString Et ⟨s.toArray⟩ w hs (EG hgl)).mono fun e w' ⟨he,hw⟩=>⟨_,he,hw,by simp[PR]⟩
theorem s9 (s:List UInt8) (hl:s.length<=900000):Sp Tryz.prog gl 93 [.str s] (.bool (gG (aC s 0))):=by
 refine U7 rfl rfl ?_;have V:=BJ s hl;rw[zW] at V;generalize gG (aC s 0)=b at*;simp[Tj];apply ab V;simp
open Go.Shelf
def m6 (x:Rd):List Int->Rd×Bool
 |[]=>(x,true)
 |r::l=>if (jz x r).2=true then m6 (jz x r).1 l else ((jz x r).1,false)
def Mf:Rd:=⟨[],0,0,0⟩
def Ke (l:List Int):List UInt8×Int:=
 if gG l=false\/l.head?≠some 34 then ([],5)
 else if (m6 Mf l.tail).2=false then ([],5)
 else if (m6 Mf l.tail).1.st≠4 then ([],5)
 else if 120<(m6 Mf l.tail).1.out.length then ([],9)
 else (aM (m6 Mf l.tail).1.out,0)
structure EH (x:Rd) (i:Nat):Prop where
 o:x.out.length<=i
 c:x.c<=6
 n:x.n<16^x.c
 k: ∀r∈x.out,Ek r
theorem td {r:Int} (h:fq r):Ek r:=by
 unfold fq at h;right;omega
theorem zX {l:List Int} {q:Int} (h: ∀r∈l,Ek r) (hq:Ek q): ∀r∈l++[q],Ek r:=by
 intro r hr;rw[lN,KA] at hr;rcases hr with hr|rfl
 ·exact h r hr
 ·exact hq
theorem EH.step {x:Rd} {i:Nat} (h:EH x i) {r:Int} (hr:fq r) (w:Nat) (hw:1<=w):EH (jz x r).1 (i+w):=by
 obtain ⟨h1,h2,h3,h4⟩:=h;have same: ∀y:Rd,y.out=x.out->y.c=x.c->y.n=x.n->EH y (i+w):=fun y a b c=>⟨by rw[a];omega,by rw[b];exact h2,by rw[c,b];exact h3,by rw[a];exact h4⟩
 have more: ∀(y:Rd) q,y.out=x.out++[q]->Ek q->y.c=x.c->y.n=x.n->EH y (i+w):=fun y q a hq b c=>⟨by rw[a,gJ];simp;omega,by rw[b];exact h2,by rw[c,b];exact h3,by rw[a];exact zX h4 hq⟩
 unfold jz;by_cases c1:x.st=1
 ·rw[if_pos c1];unfold md;by_cases d1:r=34\/r=92
  ·rw[if_pos d1];exact more _ r rfl (td hr) rfl rfl
  rw[if_neg d1];by_cases d2:r=110
  ·rw[if_pos d2];exact more _ 10 rfl (by right;omega) rfl rfl
  rw[if_neg d2];by_cases d3:r=116
  ·rw[if_pos d3];exact more _ 9 rfl (by right;omega) rfl rfl
  rw[if_neg d3];by_cases d4:r=117
  ·rw[if_pos d4];exact same _ rfl rfl rfl
  ·rw[if_neg d4];exact same _ rfl rfl rfl
 rw[if_neg c1];by_cases c2:x.st=2
 ·rw[if_pos c2];exact ⟨by dsimp only;omega,Nat.zero_le _,by simp,h4⟩
 rw[if_neg c2];by_cases c3:x.st=3
 ·rw[if_pos c3];unfold jU;by_cases d1:0<=qK r/\x.c<6
  ·rw[if_pos d1];have hx:=Dc r;refine ⟨by dsimp only;omega,by dsimp only;omega,?_,h4⟩;dsimp only;rw[Nat.pow_succ];omega
  rw[if_neg d1];by_cases d2:r≠125\/x.c=0\/mc x.n=false
  ·rw[if_pos d2];exact same _ rfl rfl rfl
  ·rw[if_neg d2];refine more _ x.n rfl (td ((s5 _).1 ?_)) rfl rfl;cases hv:mc (x.n:Int)
   ·exact absurd (.inr (.inr hv)) d2
   ·rfl
 rw[if_neg c3];by_cases c4:x.st=4
 ·rw[if_pos c4];exact same _ rfl rfl rfl
 rw[if_neg c4];by_cases d1:r=34
 ·rw[if_pos d1];exact same _ rfl rfl rfl
 rw[if_neg d1];by_cases d2:r=92
 ·rw[if_pos d2];exact same _ rfl rfl rfl
 rw[if_neg d2];by_cases d3:r<32\/r=127
 ·rw[if_pos d3];exact same _ rfl rfl rfl
 ·rw[if_neg d3];exact more _ r rfl (td hr) rfl rfl
theorem p9 (t:List UInt8):aC (34::t) 0=34::aC t 0:=by
 have h:=uS (r:=34) (by right;omega) t;have e:nD 34=[34]:=by decide
 rw[e] at h;have h2:=nE [34] t t.length 0 (by omega);rw[bW (by simp),show (34::t)=[34]++t from rfl,h];simp only[jG,vz,mm,Ab] at h2 ⊢;rw[h2]
theorem uc (s:List UInt8) (h:(ax s 0).1=34):cF s 0=34:=by
 have ff: ∀n r0 least,128<=least->(cB s 0 n r0 least).1=34->False:=by
  intro n r0 least hl e;unfold cB at e;split at e
  ·rename_i c;rw[aL] at c
   have:=pX c.2
   dsimp only at e;omega
  ·dsimp only at e;omega
 unfold ax at h;simp only at h;split at h
 ·dsimp only at h;omega
 ·split at h
  ·exact (ff _ _ _ (by omega) h).elim
  ·split at h
   ·exact (ff _ _ _ (by omega) h).elim
   ·split at h
    ·exact (ff _ _ _ (by omega) h).elim
    ·dsimp only at h;omega
theorem xd (s:List UInt8):Lib.hasPrefix s [34]=decide ((aC s 0).head?=some 34):=by
 cases s with
 |nil=>rw[bp (by simp)];rfl
 |cons b t=>
  by_cases c:b=34
  ·subst c;rw[p9];simp[Lib.hasPrefix]
  ·have h1:Lib.hasPrefix (b::t) [34]=false:=by
    unfold Lib.hasPrefix;show ((34:UInt8)==b&&([]:List UInt8).isPrefixOf t)=false;rw[bJ.2 (fun h=>c h.symm),jC]
   rw[h1,bW (by simp)];symm;rw[decide_eq_false_iff_not];intro h;have h:(ax (b::t) 0).1=34:=by simpa using h
   have:=uc (b::t) h
   apply c;have hb:cF (b::t) 0=b.toNat:=rfl;rw[hb] at this;exact Oe.1 (by rw[this];rfl)
theorem Ih {l:List Int} (h:gG l=true): ∀r∈l,r≠ -1:=by
 intro r hr e;unfold gG at h
 have:=Iy (iW.1 h r hr)
 omega
theorem ti {d:Nat} {b:Id} (hit:b.isIt=false) (hnwb:b.isNw d=false) {c0:AV} (rest:List AV) (l:List UInt8) (h0:l≠[]):
  bh Tryz.prog gl 158 d ⟨[.ptr b 0],[(b,c0:: .sl (aq l)::rest)],[(.b b 1,bk 5)]⟩ ⟨.str l,[(b,c0:: .sl (aq l)::rest)],[]⟩:=
 Fi (L:={aJ with}) p5 (by kernel_rfl) (by kernel_rfl) hit hnwb (rest:=rest) l h0
theorem u7 {d:Nat} {b:Id} (hit:b.isIt=false) (hnwb:b.isNw d=false) {c0:AV} (rest:List AV):
  bh Tryz.prog gl 158 d ⟨[.ptr b 0],[(b,c0:: .nils::rest)],[]⟩ ⟨.str [],[(b,c0:: .nils::rest)],[]⟩:=
 Dy (L:={aJ with}) p5 (by kernel_rfl) (by kernel_rfl) hit hnwb (rest:=rest)
theorem tj (r:Int) (l:List Int):aM (r::l)≠[]:=by
 intro h
 have:=zB r
 have e:(aM (r::l)).length=0:=by rw[h];rfl
 rw[aM,gJ] at e;omega
theorem ud (s:List UInt8) (hl:s.length<=200000):Sp Tryz.prog gl 135 [.str s] (.tup [.str (Ke (aC s 0)).1,i6 (Ke (aC s 0)).2]):=by
 refine P1 rfl rfl ?_;have CP:=Eu s [34];have GO:=s9 s (by omega);rw[xd] at CP;unfold Ke;by_cases c1:(aC s 0).head?=some 34
 ·rw[jm c1] at CP;cases hg:gG (aC s 0)
  ·rw[hg] at GO;rw[if_pos (.inl rfl)];generalize Lib.trimPrefix s [34]=t at*;simp[IK];apply ab CP;simp;apply ab GO;simp
  ·rw[hg] at GO;rw[if_neg (by rintro (h|h);cases h;exact h c1)];obtain ⟨t,ht⟩: ∃t,s=34::t:=by
    have:=xd s
    rw[jm c1] at this;cases s with
    |nil=>cases this
    |cons b t=>
     unfold Lib.hasPrefix at this;have h2:((34:UInt8)==b&&([]:List UInt8).isPrefixOf t)=true:=this;rw[aL,cY] at h2;exact ⟨t,by rw[h2.1]⟩
   have et:Lib.trimPrefix s [34]=t:=by
    unfold Lib.trimPrefix;rw[xd,jm c1,if_pos rfl,ht];rfl
   have er:(aC s 0).tail=aC t 0:=by rw[ht,p9];rfl
   have hok: ∀r∈aC t 0,fq r:=by
    intro r hr;have h1:=Ih hg r (by rw[ht,p9];exact List.mem_cons_of_mem _ hr);have h2:=sG t t.length 0 (by omega) r hr;unfold fq;rcases h2 with h2|h2
    ·exact absurd h2 h1
    ·omega
   have htl:t.length<=200000:=by rw[ht] at hl;simp at hl;omega
   rw[et] at CP;rw[er];clear er et ht hg c1;obtain ⟨R,hR⟩: ∃R,R=m6 Mf (aC t 0):=⟨_,rfl⟩;rw[<-hR];simp[IK];apply ab CP;simp;apply ab GO;simp;refine aY (α:=Rd×Nat) (fun y=>⟨[(6,.ptr (.n 23) 0),(25,.itp 25)],[(.n 23,gu (.n 23) y.1),(.it 25,[.itr t y.2])],cj (.n 23) y.1.out⟩)
    (fun y=>EH y.1 y.2/\y.2<=t.length/\m6 y.1 (aC t y.2)=R/\ ∀r∈aC t y.2,fq r) (fun y=>t.length - y.2) ?_ (Mf,0) ?_ ?_
   ·rintro K ⟨x,i⟩ hK ⟨h1,h2,h3,h4⟩;simp only at h1 h2 h3 h4;by_cases g:i<t.length
    ·have sr:=oQ t i g;have sp:=cX t i;have sw:=kN t i g;rw[bW g] at h3 h4;have hv:=h4 (ax t i).1 (by simp);have e65:pZ (ax t i).1=(ax t i).1:=by unfold pZ;rw[if_neg];unfold fq at hv;omega
     rw[e65] at sr;have T:=fun (e:Nat) (he:(Id.n 23).isNw e=false)=>zV x (by have:=h1.o;omega) h1.c h1.n (ax t i).1 hv e (.n 23) rfl he
     have ok:=h1.step hv (ax t i).2 sp;have fin:m6 (jz x (ax t i).1).1 (aC t (i+(ax t i).2))=R-> ∀σ',fx σ' ⟨[(6,.ptr (.n 23) 0),(25,.itp 25)],[(.n 23,gu (.n 23) (jz x (ax t i).1).1),(.it 25,[.itr t (i+(ax t i).2)])],cj (.n 23) (jz x (ax t i).1).1.out⟩->K σ':=
      fun hh σ' hσ=>hK ((jz x (ax t i).1).1,i+(ax t i).2) σ' ⟨ok,sw,hh,fun r hr=>h4 r (List.mem_cons_of_mem _ hr)⟩ (by simp only;omega) hσ
     rw[m6] at h3;clear hK hR ok h4 hv;generalize (ax t i).1=r,(ax t i).2=w at*;generalize (jz x r).2=okk,(jz x r).1=y at*;cases okk
     ·rw[if_neg (by decide)] at h3;subst h3;dsimp only;rw[if_pos rfl];clear fin;unfold gu at*;cases hx:x.out with
      |nil=>
       rw[hx] at T;cases hy:y.out with
       |nil=>
        rw[hy] at T;simp only[cE,cj,cT,dB] at T ⊢;simp[g,sr];refine bB _ _ (T _ rfl) ?_;simp
       |cons a2 l2=>
        rw[hy] at T;simp only[cE,cj,cT,dB] at T ⊢;generalize aq (aM (a2::l2))=B1 at*;simp[g,sr];refine bB _ _ (T _ rfl) ?_;simp
      |cons a l=>
       rw[hx] at T;cases hy:y.out with
       |nil=>
        rw[hy] at T;simp only[cE,cj,cT,dB] at T ⊢;generalize aq (aM (a::l))=B0 at*;simp[g,sr];refine bB _ _ (T _ rfl) ?_;simp
       |cons a2 l2=>
        rw[hy] at T;simp only[cE,cj,cT,dB] at T ⊢;generalize aq (aM (a2::l2))=B1,aq (aM (a::l))=B0 at*;simp[g,sr];refine bB _ _ (T _ rfl) ?_;simp
     ·rw[if_pos rfl] at h3;have fin:=fin h3;clear h3;generalize (if R.2=false then _ else _:List UInt8×Int)=res;unfold gu at*;cases hx:x.out with
      |nil=>
       rw[hx] at T;cases hy:y.out with
       |nil=>
        rw[hy] at T fin;simp only[cE,cj,cT,dB] at T fin ⊢;simp[g,sr];refine bB _ _ (T _ rfl) ?_;simp;refine fin _ ?_;apply aj<;>simp
       |cons a2 l2=>
        rw[hy] at T fin;simp only[cE,cj,cT,dB] at T fin ⊢;generalize aq (aM (a2::l2))=B1 at*;simp[g,sr];refine bB _ _ (T _ rfl) ?_;simp;refine fin _ ?_;apply aj<;>simp
      |cons a l=>
       rw[hx] at T;cases hy:y.out with
       |nil=>
        rw[hy] at T fin;simp only[cE,cj,cT,dB] at T fin ⊢;generalize aq (aM (a::l))=B0 at*;simp[g,sr];refine bB _ _ (T _ rfl) ?_;simp;refine fin _ ?_;apply aj<;>simp
       |cons a2 l2=>
        rw[hy] at T fin;simp only[cE,cj,cT,dB] at T fin ⊢;generalize aq (aM (a2::l2))=B1,aq (aM (a::l))=B0 at*;simp[g,sr];refine bB _ _ (T _ rfl) ?_;simp;refine fin _ ?_;apply aj<;>simp
    ·rw[bp g,m6] at h3;subst h3;dsimp only;rw[if_neg (by decide)];clear hK;have tl:=kM x.out;have ol:=h1.o;have TC:=qC (aM x.out) (by omega);rw[lu x.out h1.k] at TC;unfold gu;by_cases c4:x.st=4
     ·rw[if_pos c4];have c4':(x.st !=4)=false:=by rw[c4];rfl
      by_cases c5:120<x.out.length
      ·rw[if_pos c5];have c5':(120:Int)<x.out.length:=by omega
       cases hx:x.out with
       |nil=>rw[hx] at c5;simp at c5
       |cons a l=>
        have S:=fun (e:Nat) (he:(Id.n 23).isNw e=false)=>ti (d:=e) (b:= .n 23) rfl he (c0:= .ptr (.n 23) 0) [i6 x.st,i3 x.n,i6 x.c] (aM (a::l)) (tj a l)
        rw[hx] at TC c5 c5';simp only[cE,cj,cT,dB];generalize (a::l).length=n,aM (a::l)=T at*;generalize aq T=B0 at*;simp[g];refine bB _ _ (S _ rfl) ?_;simp[c4,c4'];apply ab TC;simp[c5,c5']
      ·rw[if_neg c5];have c5': ¬(120:Int)<x.out.length:=by omega
       cases hx:x.out with
       |nil=>
        have S:=fun (e:Nat) (he:(Id.n 23).isNw e=false)=>u7 (d:=e) (b:= .n 23) rfl he (c0:= .nilT (.n 23) 226 5) [i6 x.st,i3 x.n,i6 x.c]
        rw[hx] at TC c5';rw[show aM []=[] from rfl] at TC ⊢;simp only[cE,cj,cT,dB];simp[g];refine bB _ _ (S _ rfl) ?_;simp[c4,c4'];apply ab TC;simp
       |cons a l=>
        have S:=fun (e:Nat) (he:(Id.n 23).isNw e=false)=>ti (d:=e) (b:= .n 23) rfl he (c0:= .ptr (.n 23) 0) [i6 x.st,i3 x.n,i6 x.c] (aM (a::l)) (tj a l)
        rw[hx] at TC c5 c5';simp only[cE,cj,cT,dB];generalize (a::l).length=n,aM (a::l)=T at*;generalize aq T=B0 at*;simp[g];refine bB _ _ (S _ rfl) ?_;simp[c4,c4'];apply ab TC;simp[c5,c5']
     ·rw[if_neg c4];have c4':(x.st !=4)=true:=bne_iff_ne.2 c4;have c4'':(x.st==4)=false:=bJ.2 c4;cases hx:x.out with
      |nil=>
       have S:=fun (e:Nat) (he:(Id.n 23).isNw e=false)=>u7 (d:=e) (b:= .n 23) rfl he (c0:= .nilT (.n 23) 226 5) [i6 x.st,i3 x.n,i6 x.c]
       simp only[cE,cj,cT,dB];simp[g];refine bB _ _ (S _ rfl) ?_;simp[c4,c4',c4'']
      |cons a l=>
       have S:=fun (e:Nat) (he:(Id.n 23).isNw e=false)=>ti (d:=e) (b:= .n 23) rfl he (c0:= .ptr (.n 23) 0) [i6 x.st,i3 x.n,i6 x.c] (aM (a::l)) (tj a l)
       simp only[cE,cj,cT,dB];generalize aM (a::l)=T at*;generalize aq T=B0 at*;simp[g];refine bB _ _ (S _ rfl) ?_;simp[c4,c4',c4'']
   ·exact ⟨⟨gN _,gN _,by decide,by intro r hr;cases hr⟩,gN _,hR.symm,hok⟩
   ·apply aj<;>simp[gu,cE,cj,Mf]
 ·rw[ik c1] at CP;rw[if_pos (.inr c1)];generalize Lib.trimPrefix s [34]=t at*;simp[IK];apply ab CP;simp
def sU (w:List UInt8):List UInt8×Int:=Ke (aC w 0)
theorem Kf (f:Nat) (hL: ∀g,g<f->O6 g):KW f:=by
 intro d x l n D b hb hbd hd hn;refine ⟨fun o l' n' h=>?_,fun c t l' n' h=>?_⟩
 ·refine UJ rfl ?_;refine C7 f d x l n D b hb hbd hd hn hL _ _ (by rw[h];simp) (fun o2 l2 n2 h2 σ hp=>?_) (fun c t l' n' h2=>by rw[h] at h2;cases h2);rw[h] at h2;cases h2;exact hp
 ·refine UI rfl ?_;refine C7 f d x l n D b hb hbd hd hn hL _ _ (by rw[h];simp) (fun o2 l2 n2 h2=>by rw[h] at h2;cases h2) (fun c2 t2 l2 n2 h2 v σ hp=>?_);rw[h] at h2;cases h2;exact hp
theorem RQ: ∀f,O6 f/\KW f:=by
 intro f;induction f using Nat.strongRecOn with
 |ind f ih=>exact ⟨JT f fun g hg=>(ih g hg).2,Kf f fun g hg=>(ih g hg).1⟩
theorem Kg (V:List (List AV)) (a b c:Int) (dm:Nat):EV Tryz.prog gl 36 dm ⟨[.ptr (.up (.n 2)) 0,.ptr (.up (.n 3)) 0],[(.up (.n 2),[.sl V]),(.up (.n 3),[i6 a,i6 b,i6 c])],[]⟩ .nili ⟨.tup [],[(.up (.n 2),[.sl V]),(.up (.n 3),[i6 a,i6 b,i6 c])],[]⟩:=by
 refine Sn rfl rfl ?_;simp only[aw,aW,aO,AV.mp,aX,Pl.mp];simp[N5,N6];refine bz ?_;constructor<;>simp
theorem Kh (a b c:Int) (e:Int) (t:Tk) (dm:Nat):EV Tryz.prog gl 36 dm ⟨[.ptr (.up (.n 2)) 0,.ptr (.up (.n 3)) 0],[(.up (.n 2),[.nils]),(.up (.n 3),[i6 a,i6 b,i6 c])],[]⟩ (vZ e t) ⟨.tup [],[(.up (.n 2),[.nils]),(.up (.n 3),[i6 e,i6 t.ln,i6 t.co])],[]⟩:=by
 refine Sn rfl rfl ?_;unfold vZ;simp only[aw,aW,aO,AV.mp,aX,Pl.mp];simp[N5,N6];refine bz ?_;constructor<;>simp
theorem NT:(List.range 22).map X.s=[.s 0,.s 1,.s 2,.s 3,.s 4,.s 5,.s 6,.s 7,.s 8,.s 9,.s 10,.s 11,.s 12,.s 13,.s 14,.s 15,.s 16,.s 17,.s 18,.s 19,.s 20,.s 21]:=rfl
def tq (x:List It×Int×Int×Int):AV:= .tup [.sl (ae x.1),.agg [i6 x.2.1,i6 x.2.2.1,i6 x.2.2.2]]
def BK (x:TR):List It×Int×Int×Int:=
 if x.c≠0 then ([],x.c,x.a,x.b)
 else match pL (2*x.l.length+3) 1 0 [] x.l 0 with
  | .ok o _ _=>(o,0,0,0)
  | .th c t _ _=>([],c,t.ln,t.co)
  | .no=>([],0,0,0)
theorem Ii (s:List UInt8) (x:TR) (TK:Sp Tryz.prog gl 35 [.str s] x.av) (hno:x.c=0->pL (2*x.l.length+3) 1 0 [] x.l 0≠ .no):Sp Tryz.prog gl 15 [.str s] (tq (BK x)):=by
 refine Sp.of_h fun D=>?_
 refine TI 1 1 (by decide) (by decide) rfl ?_;unfold BK tq;obtain ⟨xl,xc,xa,xb⟩:=x;unfold TR.av at TK;simp only at*;simp only[aw,aW,aO,AV.mp,aX,Pl.mp,O7,jd];by_cases h0:xc=0
 ·subst h0;have hno:=hno rfl;simp;apply ab TK;simp;have hL:=fun D h=>(RQ (2*xl.length+3)).1 1 0 xl 0 D (.n 18) rfl h (by decide) (by decide)
  unfold qv at hL;cases hP:pL (2*xl.length+3) 1 0 [] xl 0 with
  |no=>exact absurd hP hno
  |ok o l' n'=>
   have LO:=fun D h=>(hL D h).1 _ _ _ hP
   clear hL hno hP;dsimp only;generalize ae o=OR,List.map Tk.row xl=XL,List.map Tk.row l'=L1 at*;rw[iu,NT];simp;refine ⟨⟨[.str s,.undef,.ptr (.n 2) 0,.ptr (.n 3) 0,.sl XL,.undef,.tup [.sl XL,.agg [i6 0,i6 xa,i6 xb]],.str s,.tup [.sl XL,.agg [i6 0,i6 xa,i6 xb]],.sl XL,.agg [i6 0,i6 xa,i6 xb],.ptr (.n 3) 0,i6 0,.bool false,.undef,.fn 36 [.ptr (.n 2) 0,.ptr (.n 3) 0],.undef,.undef,.undef,.undef,.undef,.undef],[(.n 2,[.nils]),(.n 3,[i6 0,i6 xa,i6 xb])],[]⟩,rfl,⟨.tup [.sl OR,.agg [i6 0,i6 0,i6 0]],[(.n 2,[.sl OR]),(.n 3,[i6 0,i6 0,i6 0])],[]⟩,⟨?_,?_,?_,?_,?_,?_,?_⟩,?_,?_⟩;iterate 7 (· simp)
   ·apply am<;>simp
   ·simp;refine a6 _ _ (LO _ rfl) (by constructor<;>simp) ?_
    simp;refine ⟨_,_,Kg OR 0 0 0 1,⟨?_,?_,?_,?_,?_,?_,?_⟩,?_⟩;iterate 7 (· simp)
    apply am<;>simp
  |th c t l' n'=>
   have LT:=fun D h=>(hL D h).2 _ _ _ _ hP
   clear hL hno hP;dsimp only;have RF:=Kh 0 xa xb c t 1;generalize List.map Tk.row xl=XL,List.map Tk.row l'=L1 at*;obtain ⟨tk,tt,tn,tl,tc⟩:=t;unfold vZ at*;dsimp only at*;rw[iu,NT];simp;refine ⟨⟨[.str s,.undef,.ptr (.n 2) 0,.ptr (.n 3) 0,.sl XL,.undef,.tup [.sl XL,.agg [i6 0,i6 xa,i6 xb]],.str s,.tup [.sl XL,.agg [i6 0,i6 xa,i6 xb]],.sl XL,.agg [i6 0,i6 xa,i6 xb],.ptr (.n 3) 0,i6 0,.bool false,.undef,.fn 36 [.ptr (.n 2) 0,.ptr (.n 3) 0],.undef,.undef,.undef,.undef,.undef,.undef],[(.n 2,[.nils]),(.n 3,[i6 0,i6 xa,i6 xb])],[]⟩,rfl,⟨.tup [.sl [],.agg [i6 c,i6 tl,i6 tc]],[(.n 2,[.nils]),(.n 3,[i6 c,i6 tl,i6 tc])],[]⟩,⟨?_,?_,?_,?_,?_,?_,?_⟩,?_,?_⟩;iterate 7 (· simp)
   ·apply am<;>simp[ae]
   ·simp;refine bC _ _ (LT _ rfl) (by constructor<;>simp) rfl ?_
    refine ⟨⟨_,_,rfl⟩,_,_,RF,⟨?_,?_,?_,?_,?_,?_,?_⟩,?_⟩;iterate 7 (· simp)
    apply am<;>simp
 ·have h0':(xc !=0)=true:=by simpa using h0
  rw[if_pos h0];generalize List.map Tk.row xl=XL at*;simp;apply ab TK;simp[h0,h0'];apply am<;>simp[ae]
theorem me (m:List Int) (s:List UInt8) (h:aM m=s) (hk:m.all (fun r=>decide (0<=r/\r<128))=true):aC s 0=m:=by
 rw[<-h];refine lu m fun r hr=>?_
 have:=Iy (iW.1 hk r hr)
 unfold Ek;omega
theorem eI (m:List Int) (s:List UInt8) (h:aM m=s) (hk:m.all (fun r=>decide (0<=r/\r<128))=true) (hn:eH 0 32 m=true):dH s=true:=by
 unfold dH;rw[me m s h hk,hn]
theorem De (s:List UInt8) (i:Nat) (h:i<s.length) (hc:s[i].toNat<128):ax s i=((s[i].toNat:Int),1):=by
 rcases p4 s i h with ⟨_,e⟩|⟨e,_⟩
 ·exact e
 ·omega
theorem ig {V:List UInt8->TV} {U:List UInt8->List UInt8×Int} {s:List UInt8} {x:Sc} {i:Nat} {r:Int} {k:Int} {w:List UInt8} {n:Nat} (h1:x.st=1) (h2:sH r=false) (hv:V (eO s x.sa i)= .t k w n):fI V U s x i r=fB (x.add (.t k w n)) i r:=by
 unfold fI;rw[if_pos h1,h2,if_neg (by decide),hv];rfl
theorem aD (V:List UInt8->TV) (U:List UInt8->List UInt8×Int) (s:List UInt8) (x y z:Sc) (i:Nat) (c:UInt8) (h:s[i]?=some c) (hc:c.toNat<128) (ht:fI V U s x i (c.toNat:Int)=(y,true)) (hz:y.adv (c.toNat:Int)=z):lv V U s x i=lv V U s z (i+1):=by
 subst hz;obtain ⟨g,rfl⟩:=tI.1 h;have e:=De s i g hc;have e2:pZ (s[i].toNat:Int)=(s[i].toNat:Int):=by unfold pZ;rw[if_neg (by omega)]
 rw[lv,dif_pos g,e,e2,ht];rfl
theorem zY (w:List UInt8) (c:UInt8) (r:List UInt8) (hw:w=c::r) (hc:c.toNat<128):vR w=(c.toNat:Int):=by
 subst hw;unfold vR;rw[if_neg (by simp),De (c::r) 0 (by simp) hc];unfold pZ;rw[if_neg (by show ¬(c.toNat:Int)= -1;omega)];rfl
theorem oX (m:List Int) (w:List UInt8) (c:UInt8) (r:List UInt8) (hw:w=c::r) (hc:c.toNat<128) (hd:eu (c.toNat:Int)=false) (hn:dH w=true):sV w= .t 1 w 0:=by
 unfold sV;rw[zY w c r hw hc,if_pos hd,if_pos hn]
def ly:List UInt8:=[111,98,106,101,99,116,105,118,101]
def vb:List UInt8:=[110,111,116,105,102,121]
def gv:List UInt8:=[116,97,114,103,101,116]
def fC:List UInt8:=[103,114,97,105,110]
def jA:List UInt8:=[108,97,116,101]
def iv:List UInt8:=[114,111,108,108,105,110,103]
def jj:List UInt8:=[99,97,108,101,110,100,97,114]
def nP:List UInt8:=[108,97,98,101,108]
def du:List UInt8:=[114,117,108,101]
def fX:List UInt8:=[108,111,110,103]
def fY:List UInt8:=[115,104,111,114,116]
def eZ:List UInt8:=[102,97,99,116,111,114]
def lH:List UInt8:=[102,111,114]
def lI:List UInt8:=[107,101,101,112]
def iZ:List UInt8:=[114,111,111,109]
def jD:List UInt8:=[114,101,115,101,114,118,101]
def jE:List UInt8:=[102,105,114,115,116]
def jF:List UInt8:=[99,97,112]
def lJ:List UInt8:=[114,101,112,101,97,116]
def qD:List UInt8:=[109,111,110,116,104]
def xr:List UInt8:=[113,117,97,114,116,101,114]
def qa:List UInt8:=[112,97,103,101]
def IE:List UInt8:=[116,105,99,107,101,116]
def It.nm:It->List UInt8
 | .mk n _ _ _ _ _=>n
def It.ws:It->List Tk
 | .mk _ ws _ _ _ _=>ws
def It.bk:It->Bool
 | .mk _ _ b _ _ _=>b
def It.kd:It->List It
 | .mk _ _ _ ks _ _=>ks
def It.pl:It->Int×Int
 | .mk _ _ _ _ l c=>(l,c)
structure jV where
 nm:List UInt8
 ks:List Int
 bl:Bool
 mo:Nat
 lo:Nat
 hi:Nat
def fZ (w:Nat):List jV:=
 if w=0 then [⟨ly,[1],true,6,0,0⟩,⟨vb,[],true,1,0,0⟩]
 else if w=1 then [⟨gv,[5],false,1,1,999999⟩,⟨fC,[6],false,1,1,86400⟩,⟨jA,[6],false,1,0,86400⟩,⟨iv,[6],false,1,1,34560000⟩,⟨jj,[1],false,1,0,0⟩,⟨nP,[1,2],false,4,0,0⟩,⟨du,[1,1],true,4,0,0⟩]
 else if w=2 then [⟨fX,[6],false,1,1,34560000⟩,⟨fY,[6],false,1,1,34560000⟩,⟨eZ,[4],false,1,1,1000000⟩,⟨lH,[6],false,1,0,604800⟩,⟨lI,[6],false,1,0,604800⟩]
 else [⟨iZ,[3],false,1,1,64⟩,⟨jD,[3],false,1,0,64⟩,⟨jE,[6],false,1,1,86400⟩,⟨jF,[6],false,1,1,604800⟩,⟨lJ,[6],false,1,0,2592000⟩]
def bK (w:Nat) (n:List UInt8):Option jV:=(fZ w).find? fun p=>p.nm==n
def e7 (p:jV):List Int->List Tk->Bool
 |[],[]=>true
 |k::r,t::s=>(t.k==k||(p.nm==eZ&&t.k==3))&&e7 p r s
 |_,_=>false
def w0 (ws:List Tk):List UInt8:=(ws.headD ⟨0,[],0,0,0⟩).t
def w1 (ws:List Tk):List UInt8:=(ws.tail.headD ⟨0,[],0,0,0⟩).t
def cz (p:jV) (x:It):Bool:=(x.bk==p.bl)&&(e7 p p.ks x.ws&&((p.nm !=jj||(w0 x.ws==qD||w0 x.ws==xr))&&(p.nm !=du||(w1 x.ws==qa||w1 x.ws==IE))))
def f7 (x:It):Nat:=match x.ws with
 |[]=>0
 |t::_=>if x.nm=eZ/\t.k=3 then (if 1000000<t.n then t.n else 1000*t.n) else t.n
def lz (C:List It) (n:List UInt8):Nat:=(C.filter fun y=>y.nm==n).length
def aV (w:Nat) (C:List It) (x:It):Int:=match bK w x.nm with
 |none=>7
 |some p=>if cz p x=false then 6 else if C.any (fun y=>y.nm==x.nm&&(p.mo==1||w0 y.ws==w0 x.ws))=true then 18 else if p.mo<=lz C x.nm then 9 else if p.mo=1/\(f7 x<p.lo\/p.hi<f7 x) then 8 else 0
def bQ (n:List UInt8):Nat:=if n=ly then 1 else if n=du then 2 else if n=vb then 3 else 0
def ah:List It->List UInt8->Nat->Nat
 |[],_,d=>d
 |y::r,n,d=>if y.nm=n then f7 y else ah r n d
def cR (C:List It) (n:List UInt8):Bool:=C.any fun y=>y.nm==n
structure Ft where
 e:Int
 l:Int
 c:Int
def Ft.row (x:Ft):List AV:=[i6 x.e,i6 x.l,i6 x.c]
def It.ft (e:Int) (x:It):Ft:=⟨e,x.pl.1,x.pl.2⟩
abbrev Lk:=Nat->List It->List It×List Ft
def cO (lk:Lk) (grain:Nat) (k:List It):List Ft:=k.flatMap fun y=>if y.nm=du/\(ah (lk 2 y.kd).1 fX 0%grain≠0\/ah (lk 2 y.kd).1 fY 0%grain≠0) then [y.ft 8] else []
def bu (lk:Lk) (i:Nat) (x:It) (k:List It):List Ft:=
 if i=1 then (if cR k gv=false\/cR k du=false then [x.ft 6] else [])++(cO lk (ah k fC 60) k++(if ah k iv 0%ah k fC 60≠0 then [x.ft 8] else []))
 else if i=2 then (if cR k fX=false\/cR k fY=false\/cR k eZ=false then [x.ft 6] else if ah k fX 0<ah k fY 0 then [x.ft 8] else [])
 else if i=3 then (if ah k iZ 16<ah k jD 0\/ah k jF 300<ah k jE 10 then [x.ft 8] else [])
 else []
def aG (lk:Lk) (w:Nat) (s:List It×List Ft) (x:It):List It×List Ft:=
 if aV w s.1 x≠0 then (s.1,s.2++[x.ft (aV w s.1 x)])
 else if bQ x.nm=0 then (s.1++[x],s.2)
 else (s.1++[x],s.2++((lk (bQ x.nm) x.kd).2++bu lk (bQ x.nm) x (lk (bQ x.nm) x.kd).1))
def ag:Nat->Lk
 |0=>fun _ _=>([],[])
 |f+1=>fun w L=>L.foldl (aG (ag f) w) ([],[])
def e9 (k:List It):Int:=k.foldl (fun c y=>if y.nm=jj then (if w0 y.ws=qD then 1 else 2) else c) 0
def dR (k:List It):List Lb:=k.flatMap fun y=>if y.nm=nP then [⟨w0 y.ws,w1 y.ws⟩] else []
def vd (lk:Lk) (y:It):Ru:=⟨w0 y.ws,w1 y.ws==qa,ah (lk 2 y.kd).1 fX 0,ah (lk 2 y.kd).1 fY 0,ah (lk 2 y.kd).1 eZ 0,ah (lk 2 y.kd).1 lH 0,ah (lk 2 y.kd).1 lI 0⟩
def dj (lk:Lk) (k:List It):List Ru:=k.flatMap fun y=>if y.nm=du then [vd lk y] else []
def mg (lk:Lk) (x:It):Gl:=let k:=(lk 1 x.kd).1
 ⟨w0 x.ws,ah k gv 0,ah k fC 60,ah k jA 0,ah k iv 0,e9 k,dR k,dj lk k⟩
def bU (lk:Lk) (C:List It):List Gl:=C.flatMap fun y=>if y.nm=ly then [mg lk y] else []
def ed (lk:Lk) (C:List It):List It:=C.foldl (fun n y=>if y.nm=ly then n else (lk 3 y.kd).1) []
def EI (lk:Lk) (C:List It):Cf:=let n:=ed lk C
 ⟨bU lk C,ah n iZ 16,ah n jD 0,ah n jE 10,ah n jF 300,ah n lJ 0⟩
def KX:Cf:=⟨[],0,0,0,0,0⟩
def jB (f:Nat) (right:Bool) (L:List It):Cf×List Ft:=
 if right=false then (KX,[⟨6,0,0⟩])
 else if (ag f 0 L).2≠[] then (KX,(ag f 0 L).2)
 else (EI (ag f) (ag f 0 L).1,[])
theorem au (x:It):x.row=[.str x.nm,.sl (x.ws.map Tk.row),.bool x.bk,.sl (ae x.kd),i6 x.pl.1,i6 x.pl.2]:=by
 obtain ⟨n,ws,b,k,l,c⟩:=x;rw[It.row];rfl
theorem qE (x:It):Sp Tryz.prog gl 57 [.agg x.row] (u (f7 x)):=by
 obtain ⟨n,ws,b,k,l,c⟩:=x;rw[It.row];refine UA rfl rfl ?_;unfold f7;show em _ _ (qp _ (u (match ws with |[]=>0|t::_=>if n=eZ/\t.k=3 then (if 1000000<t.n then t.n else 1000*t.n) else t.n))) _;generalize ae k=KR;cases ws with
 |nil=>
  simp[Ml]
 |cons t r=>
  obtain ⟨tk,tt,tn,tl,tc⟩:=t;have e:(List.map Tk.row (⟨tk,tt,tn,tl,tc⟩::r))=[i6 tk,.str tt,u tn,i6 tl,i6 tc]::r.map Tk.row:=rfl;rw[e];have hl:(List.map Tk.row r).length=r.length:=kp _;generalize r.map Tk.row=RR at*;dsimp only;have z:((r.length:Int)+1==0)=false:=bJ.2 (by omega);by_cases h1:n=eZ
  ·subst h1;by_cases h2:tk=3
   ·subst h2;rw[if_pos ⟨rfl,rfl⟩];by_cases h3:1000000<tn
    ·have h3':(1000000:Int)<tn:=by omega
     rw[if_pos h3];simp[Ml,hl,z,h3,h3',eZ]
    ·have h3': ¬(1000000:Int)<tn:=by omega
     rw[if_neg h3];have t1:IntKind.u64.wrap (1000*(tn:Int))=((1000*tn:Nat):Int):=by rw[eU]<;>omega
     simp[Ml,hl,z,h3,h3',eZ];simp only[t1];omega
   ·have h2':(tk==3)=false:=bJ.2 h2;rw[if_neg (fun g=>h2 g.2)];simp[Ml,hl,z,h2,h2',eZ]
  ·have h1':(n==[102,97,99,116,111,114])=false:=bJ.2 h1;rw[if_neg (fun g=>h1 g.1)];simp[Ml,hl,z,h1']
theorem dA (L:List It) (n:List UInt8) (d:Nat) (hlen:L.length<=100000):Sp Tryz.prog gl 34 [.sl (ae L),.str n,u d] (u (ah L n d)):=by
 refine Uc rfl rfl ?_;have rl:=a8 L;have rat:=cp L;obtain ⟨R,hR⟩: ∃R,R=ah L n d:=⟨_,rfl⟩;rw[<-hR];generalize ae L=RR at*;simp[Sk];refine aY (α:=Nat) (fun i=>⟨[(0,.sl RR),(1,.str n),(2,u d),(7,i6 i)],[],[]⟩) (fun i=>i<=L.length/\R=ah (L.drop i) n d) (fun i=>L.length - i) ?_ 0 ⟨gN _,by rw[xj];exact hR⟩ ?_
 ·rintro K i hK ⟨h1,h2⟩;by_cases g:i<L.length
  ·have t1:IntKind.i64.wrap ((i:Int)+1)=(i+1:Nat):=by rw[ay]<;>omega
   have g':(i:Int)<L.length:=by omega
   have gR:i<RR.length:=by omega
   have rai:=rat i g gR;rw[rb g,ah] at h2;have fin:=fun h4 σ' hσ=>hK (i+1) σ' ⟨by omega,h4⟩ (by omega) hσ
   clear hK rat hR;generalize L[i]=x at*;have NV:=qE x;rw[au] at rai NV;have rl6:x.row.length=6:=by rw[au];rfl
   generalize f7 x=nv,x.nm=xn,x.ws.map Tk.row=WR,ae x.kd=KR,x.bk=xb at*;obtain ⟨p1,p2⟩:=x.pl;by_cases e:xn=n
   ·subst e;rw[if_pos rfl] at h2;subst h2;simp[g,g',gR,rai,rl];apply ab NV;simp
   ·have e':(xn==n)=false:=bJ.2 e;rw[if_neg e] at h2;simp[g,g',gR,rai,rl,e,e'];refine fin h2 _ ?_;apply aj<;>simp[t1]
  ·obtain rfl:i=L.length:=by omega
   rw[xA,ah] at h2;subst h2;clear hK;simp[rl]
 ·apply aj<;>simp
theorem kQ (L:List It) (n:List UInt8) (hlen:L.length<=100000):Sp Tryz.prog gl 82 [.sl (ae L),.str n] (.bool (cR L n)):=by
 refine U1 rfl rfl ?_;have rl:=a8 L;have rat:=cp L;obtain ⟨R,hR⟩: ∃R,R=cR L n:=⟨_,rfl⟩;rw[<-hR];unfold cR at hR;generalize ae L=RR at*;simp[Th];refine aY (α:=Nat) (fun i=>⟨[(0,.sl RR),(1,.str n),(5,i6 i)],[],[]⟩) (fun i=>i<=L.length/\R=(L.drop i).any fun y=>y.nm==n) (fun i=>L.length - i) ?_ 0 ⟨gN _,by rw[xj];exact hR⟩ ?_
 ·rintro K i hK ⟨h1,h2⟩;by_cases g:i<L.length
  ·have t1:IntKind.i64.wrap ((i:Int)+1)=(i+1:Nat):=by rw[ay]<;>omega
   have g':(i:Int)<L.length:=by omega
   have gR:i<RR.length:=by omega
   have rai:=rat i g gR;rw[rb g,List.any_cons] at h2;have fin:=fun h4 σ' hσ=>hK (i+1) σ' ⟨by omega,h4⟩ (by omega) hσ
   clear hK rat hR;generalize L[i]=x at*;rw[au] at rai;generalize x.nm=xn,x.ws.map Tk.row=WR,ae x.kd=KR,x.bk=xb at*;obtain ⟨p1,p2⟩:=x.pl;by_cases e:xn=n
   ·subst e;rw[show (xn==xn)=true by simp,Bool.true_or] at h2;subst h2;simp[g,g',gR,rai,rl]
   ·have e':(xn==n)=false:=bJ.2 e;rw[e',Bool.false_or] at h2;simp[g,g',gR,rai,rl,e,e'];refine fin h2 _ ?_;apply aj<;>simp[t1]
  ·obtain rfl:i=L.length:=by omega
   rw[xA] at h2;have h2:R=false:=h2;subst h2;clear hK;simp[rl]
 ·apply aj<;>simp
end Go.Ai
