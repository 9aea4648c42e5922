/- P2: a part of the proof. Conditions: as each theorem says. -/
import Derived.Test.YtojgeamhdkphaaaGreatDoorP1
set_option maxHeartbeats 4000000
set_option linter.unusedSimpArgs false
set_option linter.unusedVariables false
set_option maxRecDepth 20000
namespace Go.Ai
open Go.Proofs
def O6 (f:Nat):Prop:= ∀(d:Nat) (e:Int) (l:List Tk) (n:Nat) (D:Nat) (b:Id),b.isIt=false->b.isNw D=false->d<=5->n<=300->
 (∀o l' n',pL f d e [] l n= .ok o l' n'->bh Tryz.prog gl 37 D ⟨[.ptr b 0,i6 d,i6 e],[(b,qv l n)],[]⟩ ⟨.sl (ae o),[(b,qv l' n')],[]⟩)/\
 (∀c t l' n',pL f d e [] l n= .th c t l' n'->dK Tryz.prog gl 37 D ⟨[.ptr b 0,i6 d,i6 e],[(b,qv l n)],[]⟩ ⟨vZ c t,[(b,qv l' n')],[]⟩)
def KW (f:Nat):Prop:= ∀(d:Nat) (x:Tk) (l:List Tk) (n:Nat) (D:Nat) (b:Id),b.isIt=false->b.isNw D=false->d<=4->n<=300->
 (∀y l' n',pI f d x.t x.ln x.co [] l n= .ok y l' n'->bh Tryz.prog gl 64 D ⟨[.ptr b 0,.agg x.row,i6 d],[(b,qv l n)],[]⟩ ⟨.agg y.row,[(b,qv l' n')],[]⟩)/\
 (∀c t l' n',pI f d x.t x.ln x.co [] l n= .th c t l' n'->dK Tryz.prog gl 64 D ⟨[.ptr b 0,.agg x.row,i6 d],[(b,qv l n)],[]⟩ ⟨vZ c t,[(b,qv l' n')],[]⟩)
theorem C6 (f d:Nat) (e:Int) (l:List Tk) (n:Nat) (D:Nat) (b:Id) (hb:b.isIt=false) (hbd:b.isNw D=false) (hd:d<=5) (hn:n<=300) (hI: ∀g,g<f->KW g) (Q:AE->St->Prop) (Rp:AV->St->Prop) (hno:pL f d e [] l n≠ .no)
  (hQ: ∀o l' n',pL f d e [] l n= .ok o l' n'-> ∀σ,bS D [.t 6] ⟨.sl (ae o),[(b,qv l' n')],[]⟩ .r σ->Q .r σ)
  (hR: ∀c t l' n',pL f d e [] l n= .th c t l' n'-> ∀v σ,ee D ⟨vZ c t,[(b,qv l' n')],[]⟩ v σ->Rp v σ):
  bD (bh Tryz.prog gl) (dK Tryz.prog gl) Rp MH Q (aw ⟨[.ptr b 0,i6 d,i6 e],[(b,qv l n)],[]⟩):=by
 have hib:=ai hbd;obtain ⟨R,hRR⟩: ∃R,R=pL f d e [] l n:=⟨_,rfl⟩;rw[<-hRR] at hno hQ hR;have hlim:iQ=140737488355328:=rfl;unfold qv at*;simp only[aw,aW,aO,AV.mp,aX,Pl.mp];simp[MH];refine Cq (α:=Nat×List It×List Tk×Nat) (fun y=>⟨[(0,.ptr (.up b) 0),(1,i6 d),(2,i6 e),(7,.sl (ae y.2.1))],[(.up b,[.sl (y.2.2.1.map Tk.row),i6 y.2.2.2])],[(.s 7,6)]⟩) (fun y=>y.1<=f/\y.2.1.length<=y.2.2.2/\y.2.2.2<=300/\pL y.1 d e y.2.1 y.2.2.1 y.2.2.2=R) (fun y=>y.1) ?_ (f,[],l,n) ?_ ?_
 ·rintro K ⟨g,out,l,n⟩ hK ⟨hg,ho,hn,he⟩;simp only at hg ho hn he;cases g with
  |zero=>exact absurd (by rw[<-he];simp[pL]) hno
  |succ g=>
   cases l with
   |nil=>exact absurd (by rw[<-he];simp[pL]) hno
   |cons t r=>
    rw[pL] at he;have NX:=fun D h=>sd t r n D (.up b) hb h
    unfold qv at NX;have hri:=nr out;have hrl:=a8 out;have hll:((ae out).length+1)*88<=iQ:=by rw[hlim,hrl];omega
    have TH:=fun (c:Int) (D:Nat)=>se c t D
    simp only[Tk.row] at NX TH;rw[gL,Tk.row] at*;have hi1:=hI g (by omega);obtain ⟨tk,tt,tn,tl,tc⟩:=t;simp only[Tk.row] at NX TH he ⊢;have e2:(tk==e)=decide (tk=e):=rfl;generalize uL (⟨tk,tt,tn,tl,tc⟩::r)=l2,List.map Tk.row r=LR at*;simp;refine bB _ _ (NX _ rfl) ?_;simp;by_cases c1:tk=e
    ·rw[if_pos c1] at he;have c1':(tk==e)=true:=by simpa using c1
     clear hK hR hI hi1;simp[c1,c1'];refine hQ _ _ _ he.symm _ ?_;apply am<;>simp[hib,hb]
    rw[if_neg c1] at he;have c1':(tk==e)=false:=by simpa using c1
    by_cases c2:tk≠1
    ·rw[if_pos c2] at he;have c2':(tk !=1)=true:=by simpa using c2
     clear hK hQ hI hi1;simp[c1,c1',c2,c2'];refine bC _ _ (TH 6 _) (by constructor<;>simp) rfl ?_
     refine hR _ _ _ _ he.symm _ _ ⟨rfl,by simp,?_⟩;refine ⟨?_,?_,?_,?_,?_,?_⟩<;>simp[hib,hb]
    rw[if_neg c2] at he;have c2:tk=1:=by omega
    by_cases c3:4<d
    ·rw[if_pos c3] at he;have c3':(4:Int)<d:=by omega
     have c2':(tk !=1)=false:=by simpa using c2
     clear hK hQ hI hi1 c2;simp[c1,c1',c2',c3,c3'];refine bC _ _ (TH 19 _) (by constructor<;>simp) rfl ?_
     refine hR _ _ _ _ he.symm _ _ ⟨rfl,by simp,?_⟩;refine ⟨?_,?_,?_,?_,?_,?_⟩<;>simp[hib,hb]
    rw[if_neg c3] at he;have c3': ¬(4:Int)<d:=by omega
    by_cases c4:n=300
    ·rw[if_pos c4] at he;have c4':((n:Int)==300)=true:=by rw[c4];rfl
     have c2':(tk !=1)=false:=by simpa using c2
     clear hK hQ hI hi1 c2;subst c4;simp[c1,c1',c2',c3,c3',c4'];refine bC _ _ (TH 9 _) (by constructor<;>simp) rfl ?_
     refine hR _ _ _ _ he.symm _ _ ⟨rfl,by simp,?_⟩;refine ⟨?_,?_,?_,?_,?_,?_⟩<;>simp[hib,hb]
    rw[if_neg c4] at he;have c4':((n:Int)==300)=false:=bJ.2 (by omega);have c2':(tk !=1)=false:=by simpa using c2
    have t1:IntKind.i64.wrap ((n:Int)+1)=(n+1:Nat):=by rw[ay]<;>omega
    have hcn:=(KT g).2 d tt tl tc [] l2 (n+1);have hiO:=fun D h=>(hi1 d ⟨tk,tt,tn,tl,tc⟩ l2 (n+1) D (.up b) hb h (by omega) (by omega)).1
    have hiT:=fun D h=>(hi1 d ⟨tk,tt,tn,tl,tc⟩ l2 (n+1) D (.up b) hb h (by omega) (by omega)).2
    simp only[Tk.row] at hiO hiT;clear hi1 hI;split at he
    ·rename_i x l3 n3 hx;have KW:=fun D h=>hiO D h _ _ _ hx
     have hc3:=hcn _ _ _ hx (by omega);have fin:=fun σ' hσ=>hK (g,out++[x],l3,n3) σ' ⟨by omega,by simp only[gJ,EO];omega,hc3.2,he⟩ (by simp only;omega) hσ
     simp only[nq,ae] at fin;obtain ⟨xn,ws,xb,ks,xl,xc⟩:=x;simp only[It.row] at KW fin;unfold qv at KW;clear hiO hiT hK hQ hR TH NX hcn hx;generalize ae out=OR,ae ks=KR,List.map Tk.row ws=WR,List.map Tk.row l3=L3,List.map Tk.row l2=L2 at*;simp[c1,c1',c2',c3,c3',c4,c4',t1];refine a6 _ _ (KW _ rfl) (by constructor<;>simp[t1]) ?_
     simp[hlim];refine ⟨by omega,hri,?_⟩;refine fin _ ?_;apply aj<;>simp[t1]
    ·rename_i c' t' l3 n3 hx;have IT:=fun D h=>hiT D h _ _ _ _ hx
     unfold qv at IT;clear hiO hiT hK hQ TH NX hcn hx;simp[c1,c1',c2',c3,c3',c4,c4',t1];refine bC _ _ (IT _ rfl) (by constructor<;>simp[t1]) rfl ?_
     refine hR _ _ _ _ he.symm _ _ ⟨rfl,by simp,?_⟩;refine ⟨?_,?_,?_,?_,?_,?_⟩<;>simp[hib,hb]
    ·exact absurd he.symm hno
 ·exact ⟨gp _,gN _,hn,hRR.symm⟩
 ·apply aj<;>simp[ae]
theorem JT (f:Nat) (hI: ∀g,g<f->KW g):O6 f:=by
 intro d e l n D b hb hbd hd hn;refine ⟨fun o l' n' h=>?_,fun c t l' n' h=>?_⟩
 ·refine Uf rfl ?_;refine C6 f d e l n D b hb hbd hd hn hI _ _ (by rw[h];simp) (fun o2 l2 n2 h2 σ hp=>?_) (fun c t l' n' h2=>by rw[h] at h2;cases h2);rw[h] at h2;cases h2;exact hp
 ·refine t37 rfl ?_;refine C6 f d e l n D b hb hbd hd hn hI _ _ (by rw[h];simp) (fun o2 l2 n2 h2=>by rw[h] at h2;cases h2) (fun c2 t2 l2 n2 h2 v σ hp=>?_);rw[h] at h2;cases h2;exact hp
open Go.Proofs
theorem C7 (f d:Nat) (x:Tk) (l:List Tk) (n:Nat) (D:Nat) (b:Id) (hb:b.isIt=false) (hbd:b.isNw D=false) (hd:d<=4) (hn:n<=300) (hL: ∀g,g<f->O6 g) (Q:AE->St->Prop) (Rp:AV->St->Prop) (hno:pI f d x.t x.ln x.co [] l n≠ .no)
  (hQ: ∀y l' n',pI f d x.t x.ln x.co [] l n= .ok y l' n'-> ∀σ,bS D [.ca 6 6] ⟨.agg y.row,[(b,qv l' n')],[]⟩ .r σ->Q .r σ)
  (hR: ∀c t l' n',pI f d x.t x.ln x.co [] l n= .th c t l' n'-> ∀v σ,ee D ⟨vZ c t,[(b,qv l' n')],[]⟩ v σ->Rp v σ):
  bD (bh Tryz.prog gl) (dK Tryz.prog gl) Rp MI Q (aw ⟨[.ptr b 0,.agg x.row,i6 d],[(b,qv l n)],[]⟩):=by
 have hib:=ai hbd;obtain ⟨R,hRR⟩: ∃R,R=pI f d x.t x.ln x.co [] l n:=⟨_,rfl⟩;rw[<-hRR] at hno hQ hR;have hlim:iQ=140737488355328:=rfl;have w1:IntKind.i64.wrap ((d:Int)+1)=(d+1:Nat):=by rw[ay]<;>omega
 obtain ⟨xk,nm,xn,ln,co⟩:=x;simp only[Tk.row] at*;unfold qv at*;simp only[aw,aW,aO,AV.mp,aX,Pl.mp];simp[MI];refine Cq (α:=Nat×List Tk×List Tk×Nat) (fun y=>⟨[(0,.ptr (.up b) 0),(2,i6 d),(6,.ptr (.n 6) 0),(7,.ptr (.n 7) 0)],[(.n 7,[.str nm,.sl (y.2.1.map Tk.row),.bool false,.sl [],i6 ln,i6 co]),(.n 6,[.str [],.nils,.bool false,.nils,i6 0,i6 0]),(.up b,[.sl (y.2.2.1.map Tk.row),i6 y.2.2.2])],[(.b (.n 7) 1,5)]⟩) (fun y=>y.1<=f/\y.2.1.length<=6/\y.2.2.2<=300/\pI y.1 d nm ln co y.2.1 y.2.2.1 y.2.2.2=R) (fun y=>y.1) ?_ (f,[],l,n) ?_ ?_
 ·rintro K ⟨g,ws,l,n⟩ hK ⟨hg,ho,hn,he⟩;simp only at hg ho hn he;cases g with
  |zero=>exact absurd (by rw[<-he];simp[pI]) hno
  |succ g=>
   cases l with
   |nil=>exact absurd (by rw[<-he];simp[pI]) hno
   |cons t r=>
    rw[pI] at he;have NX:=fun D h=>sd t r n D (.up b) hb h
    unfold qv at NX;have hwr:=vY ws;have hwl:(ws.map Tk.row).length=ws.length:=kp _;have TH:=fun (c:Int) (D:Nat)=>se c t D
    simp only[Tk.row] at NX TH;rw[gL,Tk.row] at*;have hl1:=hL g (by omega);obtain ⟨tk,tt,tn,tl,tc⟩:=t;simp only[Tk.row] at NX TH he ⊢;have fin0:pI g d nm ln co (ws++[⟨tk,tt,tn,tl,tc⟩]) (uL (⟨tk,tt,tn,tl,tc⟩::r)) n=R->ws.length≠6-> ∀σ',fx σ' ⟨[(0,.ptr (.up b) 0),(2,i6 d),(6,.ptr (.n 6) 0),(7,.ptr (.n 7) 0)],[(.n 7,[.str nm,.sl (ws.map Tk.row++[[i6 tk,.str tt,u tn,i6 tl,i6 tc]]),.bool false,.sl [],i6 ln,i6 co]),(.n 6,[.str [],.nils,.bool false,.nils,i6 0,i6 0]),(.up b,[.sl ((uL (⟨tk,tt,tn,tl,tc⟩::r)).map Tk.row),i6 n])],[(.b (.n 7) 1,5)]⟩->K σ':=fun hp h6 σ' hσ=>
     hK (g,ws++[⟨tk,tt,tn,tl,tc⟩],uL (⟨tk,tt,tn,tl,tc⟩::r),n) σ' ⟨by omega,by simp only[gJ,EO];omega,hn,hp⟩ (by simp only;omega) (by
      simp only[List.map_append,gL,lS,Tk.row];exact hσ)
    generalize uL (⟨tk,tt,tn,tl,tc⟩::r)=l2,List.map Tk.row r=LR at*;clear hK;simp;refine bB _ _ (NX _ rfl) ?_;simp;by_cases c1:tk=9
    ·rw[if_pos c1] at he;have c1':(tk==9)=true:=by simpa using c1
     have hq:=hQ _ _ _ he.symm;simp only[It.row,ae] at hq;clear hQ hR hL hl1 fin0 NX TH;generalize List.map Tk.row ws=WR,List.map Tk.row l2=L2 at*;simp[c1,c1'];refine hq _ ?_;apply am<;>simp[hib,hb]
    rw[if_neg c1] at he;have c1':(tk==9)=false:=by simpa using c1
    by_cases c7:tk=7
    ·rw[if_pos c7] at he;have c7':(tk==7)=true:=by simpa using c7
     have hlO:=fun D h=>(hl1 (d+1) 8 l2 n D (.up b) hb h (by omega) hn).1
     have hlT:=fun D h=>(hl1 (d+1) 8 l2 n D (.up b) hb h (by omega) hn).2
     unfold qv at hlO hlT;clear hl1 hL fin0 NX TH;split at he
     ·rename_i ks l3 n3 hx;have LO:=fun D h=>hlO D h _ _ _ hx
      have hq:=hQ _ _ _ he.symm;simp only[It.row] at hq;clear hlO hlT hx hQ hR;generalize ae ks=KR,List.map Tk.row ws=WR,List.map Tk.row l3=L3,List.map Tk.row l2=L2 at*;simp[c1,c1',c7,c7',w1];refine a6 _ _ (LO _ rfl) (by constructor<;>simp) ?_
      simp;refine hq _ ?_;apply am<;>simp[hib,hb]
     ·rename_i c' t' l3 n3 hx;have LT:=fun D h=>hlT D h _ _ _ _ hx
      clear hlO hlT hQ hx;generalize List.map Tk.row ws=WR at*;simp[c1,c1',c7,c7',w1];refine bC _ _ (LT _ rfl) (by constructor<;>simp) rfl ?_
      refine hR _ _ _ _ he.symm _ _ ⟨rfl,by simp,?_⟩;refine ⟨?_,?_,?_,?_,?_,?_⟩<;>simp[hib,hb]
     ·exact absurd he.symm hno
    rw[if_neg c7] at he;have c7':(tk==7)=false:=by simpa using c7
    clear hl1 hL;by_cases c2:tk<1\/6<tk
    ·rw[if_pos c2] at he;by_cases c3:tk<1
     ·clear hQ fin0 NX;generalize List.map Tk.row ws=WR at*;simp[c1,c1',c7,c7',c3];refine bC _ _ (TH 6 _) (by constructor<;>simp) rfl ?_
      refine hR _ _ _ _ he.symm _ _ ⟨rfl,by simp,?_⟩;refine ⟨?_,?_,?_,?_,?_,?_⟩<;>simp[hib,hb]
     ·have c4:6<tk:=by omega
      clear hQ fin0 NX;generalize List.map Tk.row ws=WR at*;simp[c1,c1',c7,c7',c3,c4];refine bC _ _ (TH 6 _) (by constructor<;>simp) rfl ?_
      refine hR _ _ _ _ he.symm _ _ ⟨rfl,by simp,?_⟩;refine ⟨?_,?_,?_,?_,?_,?_⟩<;>simp[hib,hb]
    rw[if_neg c2] at he;have c3: ¬tk<1:=by omega
    have c4: ¬6<tk:=by omega
    by_cases c5:ws.length=6
    ·rw[if_pos c5] at he;have c5':((ws.length:Int)==6)=true:=by rw[c5];rfl
     clear hQ fin0 NX;rw[c5] at hwl;generalize List.map Tk.row ws=WR at*;simp[c1,c1',c7,c7',c3,c4,hwl,c5,c5'];refine bC _ _ (TH 9 _) (by constructor<;>simp) rfl ?_
     refine hR _ _ _ _ he.symm _ _ ⟨rfl,by simp,?_⟩;refine ⟨?_,?_,?_,?_,?_,?_⟩<;>simp[hib,hb]
    rw[if_neg c5] at he;have c5':((ws.length:Int)==6)=false:=bJ.2 (by omega);have fin:=fin0 he c5;clear fin0 hQ hR NX TH;generalize List.map Tk.row ws=WR at*;have hll:(WR.length+1)*48<=140737488355328:=by omega
    simp[c1,c1',c7,c7',c3,c4,hwl,c5,c5',hlim];refine ⟨by omega,hwr,?_⟩;refine fin _ ?_;apply aj<;>simp
 ·exact ⟨gp _,gN _,hn,hRR.symm⟩
 ·apply aj<;>simp
open Go.Proofs
section
variable {S SP:Nat->Nat->In->bZ->Prop} {SD:Nat->Nat->In->AV->bZ->Prop} {N sl dm d:Nat} {rs:List AR} {O:bZ} {σ:St}
theorem jd {a:AC} {r:KO}:tR S SP SD N sl dm d rs O (.sq a r) σ=em S a (fun e σ'=>match e with | .n=>tR S SP SD N sl dm d rs O r σ'| .r=>bS d rs O .r σ'| .x _=>False) σ:=rfl
theorem iu {l:List bE} {x:X} {c2:l7}:tR S SP SD N sl dm d rs O (.df l x c2) σ=lQ S l (fun σ'=>match σ'.v x with
 | .fn g caps=>if BM<=g then False else ∃I M,I.vs.length=N/\cZ sl σ' ((List.range N).map X.s) I M/\bS d [.t sl] O .r (bH sl σ' ((List.range N).map X.s) I M)/\
  bD S SP (fun v τ=>(∃T y,v= .ifc T y)/\mV SD sl dm rs M g caps v τ) c2 (fun e τ=>match e with | .x _=>False|_=>mV SD sl dm rs M g caps .nili τ) (aw I)
 |_=>False) σ:=rfl
end
open Go.Proofs
def iK (r:Nat):List UInt8:=
 if r<128 then [UInt8.ofNat r]
 else if r<2048 then [UInt8.ofNat (192+r / 64),UInt8.ofNat (128+r%64)]
 else if r<65536 then [UInt8.ofNat (224+r / 4096),UInt8.ofNat (128+r / 64%64),UInt8.ofNat (128+r%64)]
 else [UInt8.ofNat (240+r / 262144),UInt8.ofNat (128+r / 4096%64),UInt8.ofNat (128+r / 64%64),UInt8.ofNat (128+r%64)]
def nD (r:Int):List UInt8:=if r<0 then [255] else iK r.toNat
def aM:List Int->List UInt8
 |[]=>[]
 |r::l=>nD r++aM l
theorem oO: ∀a b:List Int,aM (a++b)=aM a++aM b
 |[],b=>rfl
 |r::l,b=>by rw[cT,aM,aM,oO l b,BU]
theorem zy (r:Nat):(iK r).length<=4/\1<=(iK r).length:=by
 unfold iK;split
 ·simp
 ·split
  ·simp
  ·split<;>simp
theorem Hv (r:Int):(nD r).length<=4:=by
 unfold nD;split
 ·simp
 ·exact (zy _).1
theorem kM: ∀l:List Int,(aM l).length<=4*l.length
 |[]=>by simp[aM]
 |r::l=>by
  have h1:=kM l;have h2:=Hv r;rw[aM,gJ,jG];omega
open Go.Proofs
theorem JU {s:List UInt8} {i:Nat} (h:gE s i=true):i<s.length:=(iH.1 h).1
theorem pX {l r:Nat} (h:dc l r=true):l<=r/\r<=1114111/\ ¬(55296<=r/\r<57344):=by
 unfold dc at h;exact Iy h
def Ek (r:Int):Prop:=r= -1\/(0<=r/\r<=1114111/\ ¬(55296<=r/\r<57344))
theorem pY (s:List UInt8) (i n r0 l:Nat):Ek (cB s i n r0 l).1:=by
 unfold cB Ek;split
 ·rename_i h;rw[aL] at h
  have:=pX h.2
  right;simp only;omega
 ·left;rfl
theorem uQ (s:List UInt8) (i:Nat):Ek (ax s i).1:=by
 unfold ax;simp only;split
 ·right;simp only;omega
 ·split
  ·exact pY ..
  ·split
   ·exact pY ..
   ·split
    ·exact pY ..
    ·left;rfl
theorem sG (s:List UInt8): ∀(n i:Nat),s.length - i<=n-> ∀r∈aC s i,Ek r
 |0,i,h,r,hr=>by rw[bp (by omega)] at hr;cases hr
 |n+1,i,h,r,hr=>by
  by_cases hi:i<s.length
  ·rw[bW hi] at hr;rcases o8.1 hr with rfl|hr
   ·exact uQ s i
   ·have:=cX s i
    exact sG s n _ (by omega) r hr
  ·rw[bp hi] at hr;cases hr
theorem Hw (b:UInt8) (t:List UInt8):cF (b::t) 0=b.toNat:=rfl
theorem j8 (n:Nat) (h:n<256) (t:List UInt8):cF (UInt8.ofNat n::t) 0=n:=by
 rw[Hw,UInt8.toNat_ofNat_of_lt' (by simpa using h)]
theorem JV (r:Nat) (h1:r<=1114111) (h2: ¬(55296<=r/\r<57344)) (t:List UInt8):ax (iK r++t) 0=((r:Int),(iK r).length):=by
 unfold iK;by_cases c1:r<128
 ·rw[if_pos c1];simp only[cT,dB];unfold ax;simp only[j8 r (by omega) t];rw[if_pos c1];rfl
 ·rw[if_neg c1];by_cases c2:r<2048
  ·rw[if_pos c2];simp only[cT,dB];unfold ax;simp only[j8 (192+r / 64) (by omega) _];rw[if_neg (by omega),if_pos (by omega),Ge];simp only[mm,gE,show ∀(b:UInt8) (t:List UInt8),cF (b::t) 1=cF t 0 from fun b t=>rfl,j8 (128+r%64) (by omega) t];rw[if_pos (by simp[dc];omega)];simp only[jG,vz,jY];exact ⟨by omega,trivial⟩
  ·rw[if_neg c2];by_cases c3:r<65536
   ·rw[if_pos c3];simp only[cT,dB];unfold ax;simp only[j8 (224+r / 4096) (by omega) _];rw[if_neg (by omega),if_neg (by omega),if_pos (by omega),Gf];simp only[mm,gE,show ∀(b:UInt8) (t:List UInt8),cF (b::t) 1=cF t 0 from fun b t=>rfl,show ∀(b c:UInt8) (t:List UInt8),cF (b::c::t) 2=cF t 0 from fun b c t=>rfl,j8 (128+r / 64%64) (by omega) _,j8 (128+r%64) (by omega) t];rw[if_pos (by simp[dc];omega)];simp only[jG,vz,jY];exact ⟨by omega,trivial⟩
   ·rw[if_neg c3];simp only[cT,dB];unfold ax;simp only[j8 (240+r / 262144) (by omega) _];rw[if_neg (by omega),if_neg (by omega),if_neg (by omega),if_pos (by omega),Gg];simp only[mm,gE,show ∀(b:UInt8) (t:List UInt8),cF (b::t) 1=cF t 0 from fun b t=>rfl,show ∀(b c:UInt8) (t:List UInt8),cF (b::c::t) 2=cF t 0 from fun b c t=>rfl,show ∀(b c e:UInt8) (t:List UInt8),cF (b::c::e::t) 3=cF t 0 from fun b c e t=>rfl,j8 (128+r / 4096%64) (by omega) _,j8 (128+r / 64%64) (by omega) _,j8 (128+r%64) (by omega) t];rw[if_pos (by simp[dc];omega)];simp only[jG,vz,jY];exact ⟨by omega,trivial⟩
open Go.Proofs
theorem Hx {a b:List UInt8} {i j:Nat} (h:cF a i=cF b j):gE a i=gE b j:=by unfold gE;rw[h]
theorem Hy {a b:List UInt8} {i j:Nat} (r0:Nat): ∀n,(∀q,1<=q->q<=n->cF a (i+q)=cF b (j+q))->rv a i r0 n=rv b j r0 n
 |0,_=>rfl
 |n+1,h=>by
  have e:=Hy r0 n (fun q h1 h2=>h q h1 (by omega));have f:=h (n+1) (by omega) (gp _);show 64*rv a i r0 n+(cF a (i+(n+1)) - 128)=64*rv b j r0 n+(cF b (j+(n+1)) - 128);rw[e,f]
theorem uR {a b:List UInt8} {i j:Nat}: ∀n,(∀q,1<=q->q<=n->cF a (i+q)=cF b (j+q))->gQ a i n=gQ b j n
 |0,_=>rfl
 |n+1,h=>by
  have e:=uR n (fun q h1 h2=>h q h1 (by omega));have f:=Hx (h (n+1) (by omega) (gp _));show (gQ a i n&&gE a (i+(n+1)))=(gQ b j n&&gE b (j+(n+1)));rw[e,f]
theorem El {a b:List UInt8} {i j:Nat} (h: ∀q,cF a (i+q)=cF b (j+q)):ax a i=ax b j:=by
 have e:=h 0;rw[Ab,Ab] at e;have f: ∀n r0 l,cB a i n r0 l=cB b j n r0 l:=fun n r0 l=>by
  unfold cB;rw[uR (a:=a) (b:=b) (i:=i) (j:=j) n (fun q _ _=>h q),Hy (a:=a) (b:=b) (i:=i) (j:=j) r0 n (fun q _ _=>h q)]
 unfold ax;simp only[e,f]
theorem JW (a b:List UInt8) (q:Nat):cF (a++b) (a.length+q)=cF b q:=by
 unfold cF;rw[List.getElem?_append_right (by omega),show a.length+q - a.length=q by omega]
theorem nE (a b:List UInt8): ∀(n q:Nat),b.length - q<=n->aC (a++b) (a.length+q)=aC b q
 |n,q,h=>by
  by_cases g:q<b.length
  ·have g2:a.length+q<(a++b).length:=by rw[gJ];omega
   have e:ax (a++b) (a.length+q)=ax b q:=El (fun z=>by rw[Fb];exact JW a b (q+z));have p:=cX b q;rw[bW g,bW g2,e,Fb];cases n with
   |zero=>omega
   |succ n=>rw[nE a b n (q+(ax b q).2) (by omega)]
  ·rw[bp g,bp (by rw[gJ];omega)]
theorem uS {r:Int} (h:Ek r) (t:List UInt8):ax (nD r++t) 0=(r,(nD r).length):=by
 rcases h with rfl|⟨h1,h2,h3⟩
 ·have e:nD (-1)=[255]:=rfl;rw[e];simp only[cT,dB];unfold ax;simp only[show cF (255::t) 0=255 from rfl];rw[if_neg (by omega),if_neg (by omega),if_neg (by omega),if_neg (by omega)];rfl
 ·have e:nD r=iK r.toNat:=if_neg (by omega);have hz:((r.toNat:Nat):Int)=r:=by omega
  rw[e,JV r.toNat (by omega) (by omega) t,hz]
theorem zB (r:Int):1<=(nD r).length:=by
 unfold nD;split
 ·simp
 ·exact (zy _).2
theorem lu: ∀l:List Int,(∀r∈l,Ek r)->aC (aM l) 0=l
 |[],_=>by rw[aM,bp (by simp)]
 |r::l,h=>by
  have p:=zB r;rw[aM,bW (by rw[gJ];omega),uS (h r (by simp))];simp only;rw[mm,show (nD r).length=(nD r).length+0 from rfl,nE (nD r) (aM l) (aM l).length 0 (by omega),lu l (fun x hx=>h x (by simp[hx]))]
open Go.Proofs
def MD (l:List Int) (i:Nat):Nat:=
 if h:i<l.length then
  if l[i]=10 then 0 else if l[i]=34 then i+1
  else if l[i]=92 then (if l[i+1]?=some 10 then 0 else MD l (i+2))
  else MD l (i+1)
 else 0
termination_by l.length - i
def EY (a b:Int):List Int->List (Int×Int)
 |[]=>[(a,b)]
 |r::l=>(a,b)::(if r=10 then EY (a+1) 1 l else EY a (b+1) l)
open Go.Proofs
end Go.Ai
namespace Go.Ai
open Go.Proofs
def sH (r:Int):Bool:=cC r||(eu r||(decide (r=95)||(decide (r=45)||(decide (r=46)||decide (r=37)))))
theorem qx (r:Int):Sp Tryz.prog gl 98 [i3 r] (.bool (eu r)):=by
 refine Vc rfl rfl ?_;unfold eu;by_cases h:48<=r
 ·simp[PC,h]
 ·simp[PC,h]
theorem wN (a b:Int):(a==b)=decide (a=b):=by
 by_cases h:a=b<;>simp[h]
theorem oP (r:Int):Sp Tryz.prog gl 83 [i3 r] (.bool (sH r)):=by
 refine U2 rfl rfl ?_;have L:=ja r;have D:=qx r;unfold sH;generalize cC r=a,eu r=b at*;cases a
 ·cases b
  ·have ne: ∀z:Int,¬r=z->(r==z)=false:=fun z h=>bJ.2 h
   by_cases h1:r=95
   ·simp[K5];apply ab L;simp;apply ab D;simp[h1]
   ·by_cases h2:r=45
    ·simp[K5];apply ab L;simp;apply ab D;simp[h1,h2,ne 95 h1]
    ·by_cases h3:r=46
     ·simp[K5];apply ab L;simp;apply ab D;simp[h1,h2,h3,ne 95 h1,ne 45 h2]
     ·simp[K5];apply ab L;simp;apply ab D;simp[h1,h2,h3,ne 95 h1,ne 45 h2,ne 46 h3];exact wN r 37
  ·simp[K5];apply ab L;simp;apply ab D;simp
 ·simp[K5];apply ab L;simp
open Go.Proofs
def L4 (l:List Int) (a b:Nat):List Int:=(l.take b).drop a
def L5 (l:List Int) (i:Nat):Nat:=if h:i<l.length then (if sH l[i]=true then L5 l (i+1) else i) else i
termination_by l.length - i
structure On where
 k:Int
 w:List UInt8
 n:Nat
 en:Nat
 c:Int
def TV.on (en:Nat):TV->On
 | .e c=>⟨0,[],0,en,c⟩
 | .t k w n=>⟨k,w,n,en,0⟩
def TV.rs:TV->AV
 | .e c=> .tup [.agg [i6 0,.str [],u 0,i6 0,i6 0],i6 c]
 | .t k w n=> .tup [.agg [i6 k,.str w,u n,i6 0,i6 0],i6 0]
def On.av (x:On):AV:= .tup [.agg [i6 x.k,.str x.w,u x.n,i6 0,i6 0],i6 x.en,i6 x.c]
def Em (VR:List Int->TV) (U:List UInt8->List UInt8×Int) (l:List Int) (i:Nat) (r:Int):On:=
 if r=123 then ⟨7,[],0,i+1,0⟩ else if r=125 then ⟨8,[],0,i+1,0⟩ else if r=59 then ⟨9,[],0,i+1,0⟩
 else if r=34 then (if MD l (i+1)=0 then ⟨0,[],0,0,5⟩ else ⟨2,(U (aM (L4 l i (MD l (i+1))))).1,0,MD l (i+1),(U (aM (L4 l i (MD l (i+1))))).2⟩)
 else if sH r=true then (VR (L4 l i (L5 l i))).on (L5 l i)
 else ⟨0,[],0,0,5⟩
open Go.Proofs
def zC (q:List UInt8×Int):TV:=if q.2=0 then .t 2 q.1 0 else .e q.2
def fB (x:Sc) (i:Nat) (r:Int):Sc×Bool:=
 let y:=x.begin i 0
 if r=32\/r=9\/r=10 then (y,true)
 else if r=35 then ({y with st:=4},true)
 else if r=34 then ({y with st:=2},true)
 else if r=123 then (y.add (.t 7 [] 0),true)
 else if r=125 then (y.add (.t 8 [] 0),true)
 else if r=59 then (y.add (.t 9 [] 0),true)
 else if sH r=true then ({y with st:=1},true)
 else (y.wrong 5,false)
def eO (s:List UInt8) (a b:Nat):List UInt8:=(s.take b).drop a
def jS (U:List UInt8->List UInt8×Int) (s:List UInt8) (x:Sc) (e:Nat):Sc×Bool:=(x.add (zC (U (eO s x.sa e))),(zC (U (eO s x.sa e))).ok)
def gF (U:List UInt8->List UInt8×Int) (s:List UInt8) (x:Sc) (i:Nat) (r:Int):Sc×Bool:=
 if r=10 then (x.wrong 5,false)
 else if x.st=3 then ({x with st:=2},true)
 else if r=92 then ({x with st:=3},true)
 else if r=34 then jS U s x (i+1)
 else (x,true)
def fI (V:List UInt8->TV) (U:List UInt8->List UInt8×Int) (s:List UInt8) (x:Sc) (i:Nat) (r:Int):Sc×Bool:=
 if x.st=1 then (if sH r=true then (x,true) else if (V (eO s x.sa i)).ok=true then fB (x.add (V (eO s x.sa i))) i r else (x.add (V (eO s x.sa i)),false))
 else if x.st=4 then ((if r=10 then {x with st:=0} else x),true)
 else if x.st=2\/x.st=3 then gF U s x i r
 else fB x i r
def zD (V:List UInt8->TV) (s:List UInt8) (x:Sc):Sc×Bool:=
 if x.st=1 then (if (V (eO s x.sa s.length)).ok=true then (((x.add (V (eO s x.sa s.length))).begin s.length 0).add (.t 0 [] 0),true) else (x.add (V (eO s x.sa s.length)),false))
 else if x.st=2\/x.st=3 then (x.wrong 5,false)
 else ((x.begin s.length 0).add (.t 0 [] 0),true)
theorem Sc.begin_out (x:Sc) (i:Nat) (st:Int):(x.begin i st).out=x.out:=rfl
theorem Sc.wrong_out (x:Sc) (e:Int):(x.wrong e).out=x.out:=rfl
theorem Sc.add_out (x:Sc) (v:TV):(x.add v).out.length<=x.out.length+1:=by
 cases v with
 |e c=>simp[Sc.add,Sc.wrong_out]
 |t k w n=>simp[Sc.add]
theorem sI (x:Sc) (i:Nat) (r:Int):(fB x i r).1.out.length<=x.out.length+1:=by
 unfold fB;simp only;repeat' split
 all_goals first|exact Nat.le_succ _|exact Sc.add_out (x.begin i 0) _|skip
theorem zE (U:List UInt8->List UInt8×Int) (s:List UInt8) (x:Sc) (i:Nat) (r:Int):(gF U s x i r).1.out.length<=x.out.length+1:=by
 unfold gF jS;repeat' split
 all_goals first|exact Nat.le_succ _|exact Sc.add_out x _|skip
theorem En (V:List UInt8->TV) (U:List UInt8->List UInt8×Int) (s:List UInt8) (x:Sc) (i:Nat) (r:Int):(fI V U s x i r).1.out.length<=x.out.length+2:=by
 unfold fI;by_cases c1:x.st=1
 ·rw[if_pos c1];by_cases c2:sH r=true
  ·rw[if_pos c2];simp
  ·rw[if_neg c2];by_cases c3:(V (eO s x.sa i)).ok=true
   ·rw[if_pos c3];have h1:=sI (x.add (V (eO s x.sa i))) i r;have h2:=Sc.add_out x (V (eO s x.sa i));omega
   ·rw[if_neg c3];have h2:=Sc.add_out x (V (eO s x.sa i));simp only;omega
 ·rw[if_neg c1];by_cases c2:x.st=4
  ·rw[if_pos c2];simp only;split<;>simp
  ·rw[if_neg c2];by_cases c3:x.st=2\/x.st=3
   ·rw[if_pos c3]
    have:=zE U s x i r
    omega
   ·rw[if_neg c3]
    have:=sI x i r
    omega
theorem qy (s:List UInt8) (x:Sc) (hl:x.out.length<=900000) (i:Nat) (r:Int) (d:Nat) (b:Id) (hb:b.isIt=false) (hbd:b.isNw d=false):
  bh Tryz.prog gl 86 d ⟨[.ptr b 0,i6 i,i3 r],[(b,fU s x)],[(.b b 1,5)]⟩ ⟨.bool (fB x i r).2,[(b,fU s (fB x i r).1)],[(.b b 1,5)]⟩:=by
 refine U5 rfl ?_;have hib:=ai hbd;have ne: ∀z:Int,¬r=z->(r==z)=false:=fun z h=>bJ.2 h
 have B:=fun e=>jQ s x i 0 e (.up b) hb
 have A:=fun v e=>jg s (x.begin i 0) (by rw[Sc.begin_out];omega) v e (.up b) hb
 have W:=fun e=>gn s (x.begin i 0) 5 e (.up b) hb
 have WI:=oP r;have hz: ∀k:Int,(TV.t k [] 0).av= .ifc 94 (.agg [.int .i64 k,.str [],.int .u64 0,.int .i64 0,.int .i64 0]):=fun _=>rfl
 have ho: ∀k:Int,(TV.t k [] 0).ok=true:=fun _=>rfl
 unfold fB;simp only;obtain ⟨y,hy⟩: ∃y,y=x.begin i 0:=⟨_,rfl⟩;rw[<-hy] at B A W ⊢;clear hy;by_cases c1:r=32
 ·subst c1;rw[if_pos (by omega)];dsimp only;unfold fU at*;generalize y.out.map Tk.row=L,x.out.map Tk.row=L0 at*;simp only[aw,aW,aO,AV.mp,aX,Pl.mp];simp[E6];refine aF _ _ (B _ rfl) (by constructor<;>simp[hb]) ?_
  simp;apply am<;>simp[hib,hb]
 by_cases c2:r=9
 ·subst c2;rw[if_pos (by omega)];dsimp only;unfold fU at*;generalize y.out.map Tk.row=L,x.out.map Tk.row=L0 at*;simp only[aw,aW,aO,AV.mp,aX,Pl.mp];simp[E6];refine aF _ _ (B _ rfl) (by constructor<;>simp[hb]) ?_
  simp;apply am<;>simp[hib,hb]
 by_cases c3:r=10
 ·subst c3;rw[if_pos (by omega)];dsimp only;unfold fU at*;generalize y.out.map Tk.row=L,x.out.map Tk.row=L0 at*;simp only[aw,aW,aO,AV.mp,aX,Pl.mp];simp[E6];refine aF _ _ (B _ rfl) (by constructor<;>simp[hb]) ?_
  simp;apply am<;>simp[hib,hb]
 rw[if_neg (by omega)];have n1:=ne 32 c1;have n2:=ne 9 c2;have n3:=ne 10 c3;by_cases c4:r=35
 ·subst c4;rw[if_pos rfl];dsimp only;unfold fU at*;generalize y.out.map Tk.row=L,x.out.map Tk.row=L0 at*;simp only[aw,aW,aO,AV.mp,aX,Pl.mp];simp[E6];refine aF _ _ (B _ rfl) (by constructor<;>simp[hb]) ?_
  simp;apply am<;>simp[hib,hb]
 rw[if_neg c4];have n4:=ne 35 c4;by_cases c5:r=34
 ·subst c5;rw[if_pos rfl];dsimp only;unfold fU at*;generalize y.out.map Tk.row=L,x.out.map Tk.row=L0 at*;simp only[aw,aW,aO,AV.mp,aX,Pl.mp];simp[E6];refine aF _ _ (B _ rfl) (by constructor<;>simp[hb]) ?_
  simp;apply am<;>simp[hib,hb]
 rw[if_neg c5];have n5:=ne 34 c5;by_cases c6:r=123
 ·subst c6;have A:=A (.t 7 [] 0);rw[hz,ho] at A;rw[if_pos rfl];dsimp only;generalize y.add (.t 7 [] 0)=z at*;unfold fU at*;generalize y.out.map Tk.row=L,x.out.map Tk.row=L0,z.out.map Tk.row=L1 at*;simp only[aw,aW,aO,AV.mp,aX,Pl.mp];simp[E6];refine aF _ _ (B _ rfl) (by constructor<;>simp[hb]) ?_
  simp;refine aF _ _ (A _ rfl) (by constructor<;>simp[hb]) ?_
  simp;apply am<;>simp[hib,hb]
 rw[if_neg c6];have n6:=ne 123 c6;by_cases c7:r=125
 ·subst c7;have A:=A (.t 8 [] 0);rw[hz,ho] at A;rw[if_pos rfl];dsimp only;generalize y.add (.t 8 [] 0)=z at*;unfold fU at*;generalize y.out.map Tk.row=L,x.out.map Tk.row=L0,z.out.map Tk.row=L1 at*;simp only[aw,aW,aO,AV.mp,aX,Pl.mp];simp[E6];refine aF _ _ (B _ rfl) (by constructor<;>simp[hb]) ?_
  simp;refine aF _ _ (A _ rfl) (by constructor<;>simp[hb]) ?_
  simp;apply am<;>simp[hib,hb]
 rw[if_neg c7];have n7:=ne 125 c7;by_cases c8:r=59
 ·subst c8;have A:=A (.t 9 [] 0);rw[hz,ho] at A;rw[if_pos rfl];dsimp only;generalize y.add (.t 9 [] 0)=z at*;unfold fU at*;generalize y.out.map Tk.row=L,x.out.map Tk.row=L0,z.out.map Tk.row=L1 at*;simp only[aw,aW,aO,AV.mp,aX,Pl.mp];simp[E6];refine aF _ _ (B _ rfl) (by constructor<;>simp[hb]) ?_
  simp;refine aF _ _ (A _ rfl) (by constructor<;>simp[hb]) ?_
  simp;apply am<;>simp[hib,hb]
 rw[if_neg c8];have n8:=ne 59 c8;generalize sH r=q at*;cases q
 ·rw[if_neg (by decide)];dsimp only;generalize y.wrong 5=z at*;unfold fU at*;generalize y.out.map Tk.row=L,x.out.map Tk.row=L0,z.out.map Tk.row=L1 at*;simp only[aw,aW,aO,AV.mp,aX,Pl.mp];simp[E6];refine aF _ _ (B _ rfl) (by constructor<;>simp[hb]) ?_
  simp[n1,n2,n3,n4,n5,n6,n7,n8];apply ab WI;simp;refine aF _ _ (W _ rfl) (by constructor<;>simp[hb]) ?_
  simp;apply am<;>simp[hib,hb]
 ·rw[if_pos rfl];dsimp only;unfold fU at*;generalize y.out.map Tk.row=L,x.out.map Tk.row=L0 at*;simp only[aw,aW,aO,AV.mp,aX,Pl.mp];simp[E6];refine aF _ _ (B _ rfl) (by constructor<;>simp[hb]) ?_
  simp[n1,n2,n3,n4,n5,n6,n7,n8];apply ab WI;simp;apply am<;>simp[hib,hb]
open Go.Proofs
theorem sJ (s:List UInt8) (a b:Nat):(eO s a b).length<=s.length:=by
 unfold eO;rw[BX,An];omega
theorem JX {q:List UInt8×Int} (h:q.2≠0):zC q= .e q.2:=if_neg h
theorem JY {q:List UInt8×Int} (h:q.2=0):zC q= .t 2 q.1 0:=if_pos h
theorem wP (U:List UInt8->List UInt8×Int) (s:List UInt8) (hU: ∀w,w.length<=s.length->Sp Tryz.prog gl 135 [.str w] (.tup [.str (U w).1,i6 (U w).2])) (x:Sc) (hl:x.out.length<=900000) (e:Nat) (h1:x.sa<=e) (h2:e<=s.length)
  (d:Nat) (b:Id) (hb:b.isIt=false) (hbd:b.isNw d=false):
  bh Tryz.prog gl 107 d ⟨[.ptr b 0,i6 e],[(b,fU s x)],[(.b b 1,5)]⟩ ⟨.bool (jS U s x e).2,[(b,fU s (jS U s x e).1)],[(.b b 1,5)]⟩:=by
 refine PL rfl ?_;have hib:=ai hbd;have HU:=hU (eO s x.sa e) (sJ s x.sa e);unfold jS;dsimp only;have hs:List.drop x.sa (List.take e s)=eO s x.sa e:=rfl;generalize eO s x.sa e=W at*;generalize U W=q at*;obtain ⟨qt,qc⟩:=q;dsimp only at HU;have h1':(x.sa:Int)<=e:=by omega
 have h2':(e:Int)<=s.length:=by omega
 by_cases c:qc=0
 ·subst c;rw[JY rfl];dsimp only;have A:=fun e=>jg s x (by omega) (.t 2 qt 0) e (.up b) hb
  have hz:(TV.t 2 qt 0).av= .ifc 94 (.agg [.int .i64 2,.str qt,.int .u64 0,.int .i64 0,.int .i64 0]):=rfl;have ho:(TV.t 2 qt 0).ok=true:=rfl;rw[hz,ho] at A;rw[ho];generalize x.add (.t 2 qt 0)=y at*;unfold fU at*;generalize x.out.map Tk.row=L,y.out.map Tk.row=L1 at*;simp only[aw,aW,aO,AV.mp,aX,Pl.mp];simp[K8,h1,h2,h1',h2',hs];apply ab HU;simp;refine aF _ _ (A _ rfl) (by constructor<;>simp[hb]) ?_
  simp;apply am<;>simp[hib,hb]
 ·rw[JX c];have W1:=fun e=>gn s x qc e (.up b) hb
  have hc:(qc==0)=false:=bJ.2 c;have hc2:(qc !=0)=true:=by rw[bne,hc];rfl
  dsimp only[TV.ok,Sc.add];generalize x.wrong qc=y at*;unfold fU at*;generalize x.out.map Tk.row=L,y.out.map Tk.row=L1 at*;simp only[aw,aW,aO,AV.mp,aX,Pl.mp];simp[K8,h1,h2,h1',h2',hs];apply ab HU;simp[hc,hc2,c];refine aF _ _ (W1 _ rfl) (by constructor<;>simp[hb]) ?_
  simp;apply am<;>simp[hib,hb]
theorem wQ (U:List UInt8->List UInt8×Int) (s:List UInt8) (hU: ∀w,w.length<=s.length->Sp Tryz.prog gl 135 [.str w] (.tup [.str (U w).1,i6 (U w).2])) (x:Sc) (hl:x.out.length<=900000) (hs:s.length<=1000000) (i:Nat) (h1:x.sa<=i) (h2:i<s.length) (r:Int)
  (d:Nat) (b:Id) (hb:b.isIt=false) (hbd:b.isNw d=false):
  bh Tryz.prog gl 87 d ⟨[.ptr b 0,i6 i,i3 r],[(b,fU s x)],[(.b b 1,5)]⟩ ⟨.bool (gF U s x i r).2,[(b,fU s (gF U s x i r).1)],[(.b b 1,5)]⟩:=by
 refine U6 rfl ?_;have hib:=ai hbd;have ne: ∀z:Int,¬r=z->(r==z)=false:=fun z h=>bJ.2 h
 have Q:=fun e=>wP U s hU x hl (i+1) (by omega) (by omega) e (.up b) hb
 have t1:IntKind.i64.wrap ((i:Int)+1)=(i+1:Nat):=by rw[ay]<;>omega
 have W:=fun e=>gn s x 5 e (.up b) hb
 unfold gF;by_cases c1:r=10
 ·subst c1;rw[if_pos rfl];dsimp only;generalize x.wrong 5=y at*;unfold fU at*;generalize x.out.map Tk.row=L,y.out.map Tk.row=L1 at*;simp only[aw,aW,aO,AV.mp,aX,Pl.mp];simp[Mn];refine aF _ _ (W _ rfl) (by constructor<;>simp[hb]) ?_
  simp;apply am<;>simp[hib,hb]
 rw[if_neg c1];have n1:=ne 10 c1;by_cases c2:x.st=3
 ·rw[if_pos c2];dsimp only;unfold fU at*;generalize x.out.map Tk.row=L at*;simp only[aw,aW,aO,AV.mp,aX,Pl.mp];simp[Mn,n1,c2];apply am<;>simp[hib,hb]
 rw[if_neg c2];have n2:(x.st==3)=false:=bJ.2 c2;by_cases c3:r=92
 ·subst c3;rw[if_pos rfl];dsimp only;unfold fU at*;generalize x.out.map Tk.row=L at*;simp only[aw,aW,aO,AV.mp,aX,Pl.mp];simp[Mn,n1,n2];apply am<;>simp[hib,hb]
 rw[if_neg c3];have n3:=ne 92 c3;by_cases c4:r=34
 ·subst c4;rw[if_pos rfl];generalize (jS U s x (i+1)).2=ok,(jS U s x (i+1)).1=y at*;unfold fU at*;generalize x.out.map Tk.row=L,y.out.map Tk.row=L1 at*;simp only[aw,aW,aO,AV.mp,aX,Pl.mp];simp[Mn,n1,n2,n3,t1];refine aF _ _ (Q _ rfl) (by constructor<;>simp[hb]) ?_
  simp;apply am<;>simp[hib,hb]
 rw[if_neg c4];have n4:=ne 34 c4;dsimp only;unfold fU at*;generalize x.out.map Tk.row=L at*;simp only[aw,aW,aO,AV.mp,aX,Pl.mp];simp[Mn,n1,n2,n3,n4];apply am<;>simp[hib,hb]
end Go.Ai
