/- P18: a part of the proof. Conditions: as each theorem says. -/
import Derived.Test.YtojgeamhdkphaaaGreatDoorP17
import Derived.Lib.LaidU8
import GoSem.PinnedTables
set_option maxHeartbeats 4000000
set_option linter.unusedSimpArgs false
set_option linter.unusedVariables false
set_option maxRecDepth 20000
namespace Go.Ai
mutual
def SL:It->Prop
 | .mk _ ws _ ks _ _=>(∀w∈ws,w.n<18446744073709551616)/\NF ks
def NF:List It->Prop
 |[]=>True
 |x::r=>SL x/\NF r
end
open Go.Proofs
theorem KN (hd tail:List UInt8):(Ca hd tail).1<18446744073709551616:=by
 unfold Ca;split
 ·simp
 rename_i c1;split
 ·simp
 split
 ·simp
 ·rename_i c3;have g:oM tail=true:=by
   cases h:oM tail
   ·exact absurd (.inl h) c1
   ·rfl
  have d:=xi tail (xj g) 3;dsimp only;omega
theorem KO (s:List UInt8):(Je s).1<=1000000:=by
 unfold Je Lm;repeat' split
 all_goals first|(exact Nat.zero_le _)|(dsimp only;omega)
theorem H2 {s:List UInt8} (h:dx s=true):s.length<=96:=by
 have e:=zS s fun r hr=>(r9 (EK s h r hr)).2
 have l:=gH (ay s 0);rw[e] at l;by_cases g:24<0+(ay s 0).length
 ·have:=rW _ _ 32 g
  unfold dx at h;rw[this] at h;cases h
 ·omega
theorem OT {m:List Int} {k:Int} {w:List UInt8} {n:Nat} (h:rV m= .t k w n):sK k w n=true/\n<18446744073709551616/\w.length<=100000:=by
 have td: ∀ {j:Int} {q:Nat×Int},ck j q= .t k w n->sK j [] q.1=true->q.1<18446744073709551616->sK k w n=true/\n<18446744073709551616/\w.length<=100000:=by
  intro j q h h1 h2;unfold ck at h;split at h
  ·cases h;exact ⟨h1,h2,by simp⟩
  ·cases h
 unfold rV at h;split at h
 ·split at h
  ·rename_i hn;cases h;refine ⟨?_,by decide,?_⟩
   ·unfold sK;rw[if_pos rfl,hn];rfl
   ·have:=H2 hn;omega
  ·cases h
 ·unfold OY at h;have p1:=KO (aG m);have p2:=Jf (aG m);split at h
  ·exact td h rfl (DL _)
  split at h
  ·exact td h (by simp[sK,p1]) (by omega)
  split at h
  ·exact td h rfl (KN _ _)
  ·exact td h (by simp[sK,p2]) (by omega)
def vh (x:Rd):Prop:= ∀r∈x.out,uc r/\0<=r
theorem MU {x:Rd} {r:Int} (h:vh x) (hr:uc r/\0<=r):vh (fK x r).1:=by
 have same: ∀y:Rd,y.out=x.out->vh y:=fun y e q hq=>h q (by rw[<-e];exact hq)
 have more: ∀(y:Rd) q,y.out=x.out++[q]->uc q/\0<=q->vh y:=fun y q e hq p hp=>by
  rw[e,jD,FI] at hp;rcases hp with hp|rfl
  ·exact h p hp
  ·exact hq
 unfold fK k8 iN;repeat' split
 all_goals first
  |exact same _ rfl
  |exact more _ _ rfl hr
  |exact more _ 10 rfl ⟨.inr (by decide),by decide⟩
  |exact more _ 9 rfl ⟨.inr (by decide),by decide⟩
  |skip
 rename_i hv;refine more _ x.n rfl ⟨.inr ?_,by omega⟩;have v:jm x.n=true:=by
  cases g:jm x.n
  ·exact absurd (.inr (.inr g)) hv
  ·rfl
 unfold jm at v;rw[AG,Cn,Cn] at v;omega
theorem H3: ∀(l:List Int) (x:Rd),vh x->(∀r∈l,uc r/\0<=r)->vh (jy x l).1
 |[],x,h,_=>h
 |r::l,x,h,hl=>by
  rw[BD];have h1:=MU h (hl r (by simp));split
  ·exact H3 l _ h1 fun q hq=>hl q (by simp[hq])
  ·exact h1
theorem KP (l:List Int) (hl: ∀r∈l,uc r) (h:(wx l).2=0):sK 2 (wx l).1 0=true/\(wx l).1.length<=100000:=by
 unfold wx at h ⊢;split at h
 ·cases h
 rename_i c1;rw[if_neg c1];split at h
 ·cases h
 rename_i c2;rw[if_neg c2];split at h
 ·cases h
 rename_i c3;rw[if_neg c3];split at h
 ·cases h
 rename_i c4;rw[if_neg c4];dsimp only;have g:iB l=true:=by
  cases g:iB l
  ·exact absurd (.inl g) c1
  ·rfl
 have ok:=H3 l.tail Kc (fun r hr=>by cases hr) fun r hr=>⟨hl r (List.mem_of_mem_tail hr),FJ (ik.1 g r (List.mem_of_mem_tail hr))⟩
 generalize (jy Kc l.tail).1=y at*;have e:=eN y.out fun r hr=>(ok r hr).1
 have gy:iB y.out=true:=ik.2 fun r hr=>mI (ok r hr).2
 have tl:=gH y.out;refine ⟨?_,by omega⟩;unfold sK;rw[if_neg (by decide),if_pos rfl,e,gy,mI (by omega:y.out.length<=120)];rfl
def KQ (t:Tk):Prop:=OS t/\t.t.length<=100000
theorem KS (l:List Int) (i:Nat) (r:Int) (hc:(dR rV sU l i r).c=0) (a b:Int):KQ ⟨(dR rV sU l i r).k,(dR rV sU l i r).w,(dR rV sU l i r).n,a,b⟩:=by
 have hk:=(Db l i r hc a b).k;refine ⟨⟨hk,?_,?_⟩,?_⟩<;>clear hk<;>revert hc
 all_goals
  unfold dR;by_cases c1:r=123
  ·rw[if_pos c1];intro _;first|exact (by decide:(0:Nat)<18446744073709551616)|rfl|exact jq _
  rw[if_neg c1];by_cases c2:r=125
  ·rw[if_pos c2];intro _;first|exact (by decide:(0:Nat)<18446744073709551616)|rfl|exact jq _
  rw[if_neg c2];by_cases c3:r=59
  ·rw[if_pos c3];intro _;first|exact (by decide:(0:Nat)<18446744073709551616)|rfl|exact jq _
  rw[if_neg c3];by_cases c4:r=34
  ·rw[if_pos c4];split
   ·intro h;cases h
   ·intro h
    have:=KP _ (fun r hr=>kX _ _ 0 (eR _) r hr) h
    first|exact (by decide:(0:Nat)<18446744073709551616)|exact this.1|exact this.2
  rw[if_neg c4];split
  ·cases hv:rV (dG l i (iv l i)) with
   |e c=>
    intro h;exact absurd h (OF hv)
   |t k w n=>
    intro h
    have:=OT hv
    first|exact this.2.1|exact this.1|exact this.2.2
  ·intro h;cases h
theorem MV {s:List UInt8} (h:(dZ s).c=0): ∃o z,(dZ s).l=o++[z]/\(∀t∈o,KQ t)/\sd z:=uW KQ (fun i r hc a b=>KS _ i r hc a b) h
theorem KT {t:Tk} (h:KQ t):KQ (wz t):=⟨⟨h.1.k,h.1.n,h.1.r⟩,h.2⟩
mutual
theorem MW: ∀x:It,(∀t∈uX x,KQ t)->(P5 x)->SJ x/\Dd x/\SL x
 | .mk n ws b ks ln co,h,hw=>by
  rw[uX] at h;rw[P5] at hw;have h1:=h _ (List.mem_cons_self ..);have h2: ∀w∈ws,KQ w:=fun w m=>h w (by simp[m])
  have hk: ∀t∈qa ks,KQ t:=by
   cases b with
   |true=>exact fun t m=>h t (by simp[m])
   |false=>
    rw[hw.2.2.1 rfl];exact fun t m=>by cases m
  have k:=wM ks hk hw.2.2.2;have nm:dx n=true:=by
   have:=h1.1.r
   simp only[sK,if_true] at this;simpa using this
  rw[SJ,Dd,SL];exact ⟨⟨nm,fun w m=>(h2 w m).1,k.1⟩,⟨⟨by omega,h1.2,fun t m=>(h2 t m).2⟩,k.2.1⟩,fun w m=>(h2 w m).1.n,k.2.2⟩
theorem wM: ∀L:List It,(∀t∈qa L,KQ t)->NB L->EJ L/\lv L/\NF L
 |[],_,_=>by rw[EJ,lv,NF];exact ⟨trivial,trivial,trivial⟩
 |x::r,h,hw=>by
  rw[qa] at h;rw[NB] at hw;have a:=MW x (fun t m=>h t (List.mem_append_left _ m)) hw.1;have c:=wM r (fun t m=>h t (List.mem_append_right _ m)) hw.2;rw[EJ,lv,NF];exact ⟨⟨a.1,c.1⟩,⟨a.2.1,c.2.1⟩,a.2.2,c.2.2⟩
end
theorem EL {s:List UInt8} {L:List It} (h:wB s L):EJ L/\lv L/\NF L:=by
 obtain ⟨T,z,e,hz,tk,_⟩:=h.h;obtain ⟨o,z2,e2,ho,_⟩:=MV h.c;rw[e] at e2
 have:=List.append_inj_left' e2 rfl
 subst this;refine wM L (fun t m=>?_) h.wf;rw[<-tk] at m;obtain ⟨q,hq,rfl⟩:=oY.1 m;exact KT (ho q hq)
theorem EM (s:List UInt8):bJ (fV s).1<=300/\lv (fV s).1/\((fV s).2.1≠0->(fV s).1=[])/\((fV s).2.1=0->wB s (fV s).1):=by
 rcases Es s with ⟨h1,h2⟩|⟨h1,h2⟩
 ·rw[h2];refine ⟨by rw[bJ];exact jq _,by rw[lv];trivial,fun _=>rfl,fun h=>absurd h h1⟩
 ·exact ⟨h2.cnt,(EL h2).2.1,fun h=>absurd (by rw[h1]) h,fun _=>h2⟩
theorem zT (x:Gl) (h1:x.lb.length<=1000000) (h2:x.ru.length<=1000000):Sp Tryz.prog gl 19 [.agg x.row,.agg x.row] (.bool true):=by
 obtain ⟨n,t,gr,la,ro,ca,lb,ru⟩:=x;simp only at h1 h2;refine Uk rfl rfl ?_;have e:Gl.row ⟨n,t,gr,la,ro,ca,lb,ru⟩=[.str n,.int .u32 t,i6 gr,i6 la,i6 ro,i6 ca,.sl (lb.map Lb.row),.sl (ru.map Ru.row)]:=rfl;rw[e];clear e;have ll:(lb.map Lb.row).length=lb.length:=tN _;have lat: ∀i (h:i<lb.length),∀h2,(lb.map Lb.row)[i]'h2=[.str lb[i].n,.str lb[i].t]:=fun i h h2=>by simp[Lb.row]
 have rl:(ru.map Ru.row).length=ru.length:=tN _;have rat: ∀i (h:i<ru.length),∀h2,(ru.map Ru.row)[i]'h2=[.str ru[i].n,.bool ru[i].p,i6 ru[i].l,i6 ru[i].s,u ru[i].f,i6 ru[i].w,i6 ru[i].k]:=fun i h h2=>by simp[Ru.row]
 generalize lb.map Lb.row=LR,ru.map Ru.row=RR at*;simp[SU,ll,rl];refine cP (α:=Nat) (fun i=>⟨[(2,.ptr (.n 2) 0),(3,.ptr (.n 3) 0),(5,i6 i)],[(.n 2,[.str n,.int .u32 t,i6 gr,i6 la,i6 ro,i6 ca,.sl LR,.sl RR]),(.n 3,[.str n,.int .u32 t,i6 gr,i6 la,i6 ro,i6 ca,.sl LR,.sl RR])],[]⟩) (fun i=>i<=lb.length) (fun i=>lb.length - i) ?_ 0 (jq _) ?_
 ·rintro K i hK h1;by_cases g:i<lb.length
  ·have t1:IntKind.i64.wrap ((i:Int)+1)=(i+1:Nat):=by rw[aL]<;>omega
   have g':(i:Int)<lb.length:=by omega
   have gR:i<LR.length:=by omega
   have rai:=lat i g gR;have fin:=fun σ' hσ=>hK (i+1) σ' (by omega) (by omega) hσ
   clear hK rat lat;generalize lb[i]=x at*;obtain ⟨a,b⟩:=x;simp only at rai;simp[g,g',gR,rai,ll];refine fin _ ?_;apply aC<;>simp[t1]
  ·obtain rfl:i=lb.length:=by omega
   clear hK lat;simp[ll,rl];refine cP (α:=Nat) (fun i=>⟨[(2,.ptr (.n 2) 0),(3,.ptr (.n 3) 0),(6,i6 i)],[(.n 2,[.str n,.int .u32 t,i6 gr,i6 la,i6 ro,i6 ca,.sl LR,.sl RR]),(.n 3,[.str n,.int .u32 t,i6 gr,i6 la,i6 ro,i6 ca,.sl LR,.sl RR])],[]⟩) (fun i=>i<=ru.length) (fun i=>ru.length - i) ?_ 0 (jq _) ?_
   ·rintro K i hK h1;by_cases g:i<ru.length
    ·have t1:IntKind.i64.wrap ((i:Int)+1)=(i+1:Nat):=by rw[aL]<;>omega
     have g':(i:Int)<ru.length:=by omega
     have gR:i<RR.length:=by omega
     have rai:=rat i g gR;have fin:=fun σ' hσ=>hK (i+1) σ' (by omega) (by omega) hσ
     clear hK rat;generalize ru[i]=x at*;obtain ⟨a,b,c,d,e,f,k⟩:=x;simp only at rai;simp[g,g',gR,rai,rl];refine fin _ ?_;apply aC<;>simp[t1]
    ·obtain rfl:i=ru.length:=by omega
     clear hK rat;simp[rl]
   ·apply aC<;>simp
 ·apply aC<;>simp
theorem wN (x:Cf) (h:x.gs.length<=1000000) (hg: ∀g∈x.gs,g.lb.length<=1000000/\g.ru.length<=1000000):Sp Tryz.prog gl 10 [.agg x.row,.agg x.row] (.bool true):=by
 obtain ⟨gs,r,v,i0,xx,y⟩:=x;simp only at h hg;refine Ue rfl rfl ?_;have e:Cf.row ⟨gs,r,v,i0,xx,y⟩=[.sl (gs.map Gl.row),i6 r,i6 v,i6 i0,i6 xx,i6 y]:=rfl;rw[e];clear e;have rl:(gs.map Gl.row).length=gs.length:=tN _;have rat: ∀i (h:i<gs.length),∀h2,(gs.map Gl.row)[i]'h2=gs[i].row:=fun i h h2=>by simp
 have r8: ∀g:Gl,g.row.length=8:=fun g=>rfl
 generalize gs.map Gl.row=RR at*;simp[SO,rl];refine cP (α:=Nat) (fun i=>⟨[(2,.ptr (.n 2) 0),(3,.ptr (.n 3) 0),(5,i6 i)],[(.n 2,[.sl RR,i6 r,i6 v,i6 i0,i6 xx,i6 y]),(.n 3,[.sl RR,i6 r,i6 v,i6 i0,i6 xx,i6 y])],[]⟩) (fun i=>i<=gs.length) (fun i=>gs.length - i) ?_ 0 (jq _) ?_
 ·rintro K i hK h1;by_cases g:i<gs.length
  ·have t1:IntKind.i64.wrap ((i:Int)+1)=(i+1:Nat):=by rw[aL]<;>omega
   have g':(i:Int)<gs.length:=by omega
   have gR:i<RR.length:=by omega
   have rai:=rat i g gR;obtain ⟨q1,q2⟩:=hg _ (xz g);have SG:=zT gs[i] q1 q2;have fin:=fun σ' hσ=>hK (i+1) σ' (by omega) (by omega) hσ
   clear hK rat hg;generalize gs[i]=x at*;have e:x.row=[.str x.n,.int .u32 x.t,i6 x.g,i6 x.a,i6 x.o,i6 x.c,.sl (x.lb.map Lb.row),.sl (x.ru.map Ru.row)]:=rfl;rw[e] at rai SG;clear e r8;generalize x.lb.map Lb.row=LR,x.ru.map Ru.row=QR at*;simp[g,g',gR,rai,rl];apply ag SG;simp;refine fin _ ?_;apply aC<;>simp[t1]
  ·obtain rfl:i=gs.length:=by omega
   clear hK rat;simp[rl]
 ·apply aC<;>simp
theorem EO (f:Nat) (r:Bool) (L:List It) (h:(eD f r L).2≠[]):(eD f r L).1.gs=[]:=by
 unfold eD at h ⊢;split
 ·rfl
 ·rename_i h1;rw[if_neg h1] at h;split
  ·rfl
  ·rename_i h2;rw[if_neg h2] at h;exact absurd rfl h
theorem BP (f:Nat) (r:Bool) (L:List It) (h:(eD f r L).2=[]):r=true:=by
 unfold eD at h;cases r
 ·rw[if_pos rfl] at h;cases h
 ·rfl
theorem EQ (L:List It) (i j k:Nat) (h:(eD 5 (dz 0 (cT L 1)) L).2=[]):eD 5 (dz 0 (cT (ka L i j k) 1)) (ka L i j k)=eD 5 (dz 0 (cT L 1)) L:=by
 rw[BH];have hr:=BP _ _ _ h;rw[hr] at h ⊢;exact E1 4 (Hi L i j k) h
theorem Du {L:List It} {x:It} (h:x∈L):x.kd.length<=bJ L:=mu (kL x.kd) (zL h)
theorem zU (b:Id) (R:List (List AV)): ∀L:List It,(ab L).flatten.map (ri b R)=(ab L).flatten
 |[]=>rfl
 | .mk n ws bb ks l c::r=>by
  rw[ab,List.flatten_cons,List.map_append,zU b R r];rfl
theorem jj (A B:List It) (n:List UInt8) (ws:List Tk) (bb:Bool) (ks:List It) (ln co:Int):(ab (A++ .mk n ws bb ks ln co::B)).flatten=(ab A).flatten++ .str n:: .sl (ws.map Tk.row):: .bool bb:: .sl (ab ks)::i6 ln::i6 co::(ab B).flatten:=by
 rw[jg,ab,List.flatten_append,List.flatten_cons];rfl
theorem wO (P:List AV) (a:Nat) (hP:P.length=a*6) (d0 d1 d2 d3:AV) (R:List AV):(P++d0::d1::d2::d3::R)[a*6+3]?=some d3/\(P++d0::d1::d2::d3::R).take (a*6+3)=P++[d0,d1,d2]/\(P++d0::d1::d2::d3::R).drop (a*6+3+1)=R:=by
 refine ⟨?_,?_,?_⟩
 ·rw[List.getElem?_append_right (by omega),show a*6+3 - P.length=3 by omega];rfl
 ·rw[List.take_append,List.take_of_length_le (by omega),show a*6+3 - P.length=3 by omega];rfl
 ·rw[List.drop_append,List.drop_of_length_le (by omega),show a*6+3+1 - P.length=4 by omega];rfl
theorem vj (GL:List (List AV)) (r v i x y:Int) (M:List It) (n:Nat) (hn:M.length=n) (pl:List AV) (hpl:bm pl=[]) (e:List (Nat×AV)) (CM:Sp Tryz.prog gl 13 [.sl (ab M)] (.tup [.agg [.sl GL,i6 r,i6 v,i6 i,i6 x,i6 y],.sl []]))
  (SM:Sp Tryz.prog gl 10 [.agg [.sl GL,i6 r,i6 v,i6 i,i6 x,i6 y],.agg [.sl GL,i6 r,i6 v,i6 i,i6 x,i6 y]] (.bool true)) (hv:lk e 13= .ms (.nw 40 (.n 8)) 0 n 6) (h11:lk e 11= .ptr (.n 11) 0):
  dK (ba Tryz.prog gl) (AC.tl 8 c5) (ja [.t 8] (.bool true)) ⟨e,[(.nw 40 (.n 8),(ab M).flatten),(.n 11,[.sl GL,i6 r,i6 v,i6 i,i6 x,i6 y]),(.n 10,pl)],[]⟩:=by
 simp only[c5,AC.tl];have h6:=jJ M;have hd:=fW M;have hl:=bQ M;have hp:lk (qv e (.nw 40 (.n 8))) 11= .ptr (.n 11) 0:=by rw[l9,h11,if_neg (by simp[AV.ids])]
 generalize ab M=RR at*;simp only[GE,GF];refine Ml (.nw 40 (.n 8)) n 6 RR [] ⟨hv,?_,rfl,hl.trans hn,h6,hd,?_⟩ (by decide) ?_
 ·simp[aD]
 ·simp[kA,hpl,bm,AV.ids]
 rw[show ∀F:List AV,lC ⟨e,[(.nw 40 (.n 8),F),(.n 11,[.sl GL,i6 r,i6 v,i6 i,i6 x,i6 y]),(.n 10,pl)],[]⟩ 13 (.nw 40 (.n 8)) 6 RR=⟨(13,.sl RR)::(13,.sl RR)::qv e (.nw 40 (.n 8)),[(.n 11,[.sl GL,i6 r,i6 v,i6 i,i6 x,i6 y]),(.n 10,pl)],[(.s 13,6)]⟩ from fun _=>rfl];generalize qv e (.nw 40 (.n 8))=e2 at*;simp;apply ag CM;simp[hp];apply ag SM;simp
theorem vk (GL:List (List AV)) (r v i x y c a b:Int) (A B:List It) (n:List UInt8) (ws:List Tk) (bb:Bool) (K:List It) (ln co:Int) (N k:Nat) (hk:K.length=k) (hN:(A++ .mk n ws bb K ln co::B).length=N) (e:List (Nat×AV))
  (CM:Sp Tryz.prog gl 13 [.sl (ab (A++ .mk n ws bb K ln co::B))] (.tup [.agg [.sl GL,i6 r,i6 v,i6 i,i6 x,i6 y],.sl []]))
  (SM:Sp Tryz.prog gl 10 [.agg [.sl GL,i6 r,i6 v,i6 i,i6 x,i6 y],.agg [.sl GL,i6 r,i6 v,i6 i,i6 x,i6 y]] (.bool true)) (hv:lk e 13= .ms (.nw 40 (.n 8)) 0 N 6) (h11:lk e 11= .ptr (.n 11) 0):
  dK (ba Tryz.prog gl) (AC.tl 8 c5) (ja [.t 8] (.bool true)) ⟨e,[(.nw 57 (.n 8),(ab K).flatten),
   (.nw 40 (.n 8),(ab A).flatten++ .str n:: .sl (ws.map Tk.row):: .bool bb:: .ms (.nw 57 (.n 8)) 0 k 6::i6 ln::i6 co::(ab B).flatten),(.n 11,[.sl GL,i6 r,i6 v,i6 i,i6 x,i6 y]),(.n 10,[i6 c,i6 a,i6 b])],[]⟩:=by
 subst hk;have TE:=vj GL r v i x y _ N hN [i6 c,i6 a,i6 b] rfl (qv e (.nw 57 (.n 8))) CM SM (by rw[l9,hv,if_neg (by simp[AV.ids])]) (by rw[l9,h11,if_neg (by simp[AV.ids])]);rw[jj] at TE;have hd:=fW (A++ .mk n ws bb K ln co::B);rw[jj] at hd;simp only[c5,AC.tl,GE,GF] at TE ⊢;have hB:tR (kA [(.nw 57 (.n 8),(ab K).flatten),(.nw 40 (.n 8),(ab A).flatten++ .str n:: .sl (ws.map Tk.row):: .bool bb:: .ms (.nw 57 (.n 8)) 0 K.length 6::i6 ln::i6 co::(ab B).flatten),(.n 11,[.sl GL,i6 r,i6 v,i6 i,i6 x,i6 y]),(.n 10,[i6 c,i6 a,i6 b])] (.nw 57 (.n 8))) (.nw 57 (.n 8)) (ab K)=
   [(.nw 40 (.n 8),(ab A).flatten++ .str n:: .sl (ws.map Tk.row):: .bool bb:: .sl (ab K)::i6 ln::i6 co::(ab B).flatten),(.n 11,[.sl GL,i6 r,i6 v,i6 i,i6 x,i6 y]),(.n 10,[i6 c,i6 a,i6 b])]:=by
  simp[kA,tR,ri,bQ,zU,-List.map_flatten]
 refine JV (.nw 57 (.n 8)) 6 (ab K) [] ⟨by simp[aD],rfl,rfl,jJ K,fW K,?_⟩ ?_
 ·rw[hB];simp[hd,bm,AV.ids]
 ·unfold lB;dsimp only;rw[hB];exact TE
theorem ow (s:List UInt8) (i j k:Int):Sp Tryz.prog gl 5 [.str s,i6 i,i6 j,i6 k] (.bool true):=by
 refine s5 rfl rfl ?_;have AW:=wL;by_cases c0:5000<s.length
 ·have c0':(5000:Int)<s.length:=by omega
  simp[c5];apply ag AW;simp[c0,c0']
 have c0': ¬(5000:Int)<s.length:=by omega
 have PS:=zl s;obtain ⟨hc,hb,_,_⟩:=EM s;generalize fV s=x at*;obtain ⟨L,c,a,b⟩:=x;simp only[lS] at PS;dsimp only at hc hb;have CO:=kV L 2 (by decide) (by omega) hb;obtain ⟨l1,l2,_⟩:=H0 4 (dz 0 (cT L 1)) L (by decide) (by omega);have SM:=wN _ l1 l2;have hn:=EO 5 (dz 0 (cT L 1)) L;have TC:=EQ L (zn i) (zn j) (zn k);have CM:=kV (ka L (zn i) (zn j) (zn k)) 2 (by decide) (by rw[(uY L (zn i) (zn j) (zn k)).1];omega) (Kk L _ _ _ hb);unfold BO at CO CM;generalize eD (2+3) (dz 0 (cT (ka L (zn i) (zn j) (zn k)) 1)) (ka L (zn i) (zn j) (zn k))=z,eD 5 (dz 0 (cT L 1)) L=y at*;obtain ⟨y,f⟩:=y;have hy:y.row=[.sl (y.gs.map Gl.row),i6 y.r,i6 y.v,i6 y.i,i6 y.x,i6 y.y]:=rfl;dsimp only at*;rw[hy] at CO SM;have hlen:=kL L;have SW:=qe 40 L i (by omega);by_cases hf:f=[]
 ·subst hf;have TC:=TC rfl;subst TC;dsimp only at CM;rw[hy] at CM;simp only[l6] at CO CM;generalize y.gs.map Gl.row=GL at*;simp[c5];apply ag AW;simp[c0,c0'];apply ag PS;simp;apply ag CO;simp;by_cases hi:0<=i/\i<L.length
  ·obtain ⟨h0,h1⟩:=hi;have hcs:=(gB L (zn i)).1;obtain ⟨A,x,B,e1,hA⟩:=zr (bG L (zn i)) i.toNat (by rw[ji];omega);have hx:x∈bG L (zn i):=by rw[e1];simp
   have hk:=Du hx;have hlA:A.length+(B.length+1)=L.length:=by rw[<-ji L (zn i),e1,fT,e7]
   obtain ⟨n,ws,bb,ks,ln,co⟩:=x;have hk2:ks.length<=1000:=by have:(It.mk n ws bb ks ln co).kd=ks:=rfl;rw[this] at hk;omega
   have hi:i=(A.length:Int):=by omega
   have hT:ka L (zn i) (zn j) (zn k)=A++ .mk n ws bb (kQ (fun K2=>bG K2 (zn k)) (bG ks (zn j)) (zn j)) ln co::B:=by
    have hzi:zn i=A.length:=by rw[hi];unfold zn;rw[if_neg (by omega)];omega
    unfold ka;rw[e1,hzi];exact wF _ _ B A
   rw[hT] at CM;rw[e1,jj] at SW;subst hi;have SK:=qe 57 ks j hk2;have hP:=fj A;have hd1:=fW (A++ .mk n ws bb ks ln co::B);have hC:(ab (A++ .mk n ws bb ks ln co::B)).flatten.length=L.length*6:=by rw[fj,fT,e7,hlA]
   rw[jj] at hd1 hC;have hm1:=fun f=>aO (f:=f) hd1
   have hd2:=fW (bG ks (zn j));have hm2:=fun f=>aO (f:=f) hd2
   obtain ⟨g1,g2,g3⟩:=wO (ab A).flatten A.length hP (.str n) (.sl (ws.map Tk.row)) (.bool bb) (.sl (ab ks)) (i6 ln::i6 co::(ab B).flatten);obtain ⟨g4,_,_⟩:=wO (ab A).flatten A.length hP (.str n) (.sl (ws.map Tk.row)) (.bool bb) (.ms (.nw 57 (.n 8)) 0 ks.length 6) (i6 ln::i6 co::(ab B).flatten);generalize (ab A).flatten++ .str n:: .sl (ws.map Tk.row):: .bool bb:: .sl (ab ks)::i6 ln::i6 co::(ab B).flatten=C at*;have o1:A.length*6+3+1<=C.length:=by omega
   have o2:A.length*6+3<C.length:=by omega
   have o3:(A.length:Int)<L.length:=by omega
   refine aE _ _ SW (by constructor<;>simp[hm1,hd1]) ?_
   simp[h0,o3,g1];refine aE _ _ SK (by constructor<;>simp[hm1,hd1,hm2,hd2]) ?_
   simp[h0,o3,g2,g3,o1,o2];by_cases hj:0<=j/\j<(ks.length:Int)
   ·obtain ⟨j0,j1⟩:=hj;have hck:=(gB ks (zn j)).1;obtain ⟨A2,x2,B2,e2,hA2⟩:=zr (bG ks (zn j)) j.toNat (by rw[ji];omega);have hx2:x2∈bG ks (zn j):=by rw[e2];simp
    have hk3:=Du hx2;have hk4:bJ ks<=bJ (bG L (zn (A.length:Int))):=zL hx;have hl2:A2.length+(B2.length+1)=ks.length:=by rw[<-ji ks (zn j),e2,fT,e7]
    obtain ⟨n2,ws2,bb2,k2,ln2,co2⟩:=x2;have hk5:k2.length<=1000:=by have:(It.mk n2 ws2 bb2 k2 ln2 co2).kd=k2:=rfl;rw[this] at hk3;omega
    have hj:j=(A2.length:Int):=by omega
    have hT2:kQ (fun K2=>bG K2 (zn k)) (bG ks (zn j)) (zn j)=A2++ .mk n2 ws2 bb2 (bG k2 (zn k)) ln2 co2::B2:=by
     have hzj:zn j=A2.length:=by rw[hj];unfold zn;rw[if_neg (by omega)];omega
     rw[e2,hzj];exact wF _ _ B2 A2
    rw[hT2] at CM;have TK:=fun e=>vk GL y.r y.v y.i y.x y.y c a b A B n ws bb _ ln co L.length ks.length (by rw[fT,e7];exact hl2) (by rw[fT,e7];exact hlA) e CM SM
    rw[jj] at TK;rw[e2,jj];have SP:=wG k2 k hk5;have hP2:=fj A2;have hC2:(ab (A2++ .mk n2 ws2 bb2 k2 ln2 co2::B2)).flatten.length=ks.length*6:=by rw[fj,fT,e7,hl2]
    rw[jj] at hC2;subst hj;obtain ⟨u1,u2,u3⟩:=wO (ab A2).flatten A2.length hP2 (.str n2) (.sl (ws2.map Tk.row)) (.bool bb2) (.sl (ab k2)) (i6 ln2::i6 co2::(ab B2).flatten);generalize (ab A2).flatten++ .str n2:: .sl (ws2.map Tk.row):: .bool bb2:: .sl (ab k2)::i6 ln2::i6 co2::(ab B2).flatten=C2 at*;have v1:A2.length*6+3+1<=C2.length:=by omega
    have v2:A2.length*6+3<C2.length:=by omega
    have v3:(A2.length:Int)<ks.length:=by omega
    simp[j0,v3,g4,o3,u1];apply ag SP;simp[j0,v3,u2,u3,v1,v2];exact TK _ (by simp[lk]) (by simp[lk])
   ·have hzj:kQ (fun K2=>bG K2 (zn k)) (bG ks (zn j)) (zn j)=bG ks (zn j):=wE _ _ _ (by rw[ji];unfold zn;split<;>omega);rw[hzj] at CM;have TK:=fun e=>vk GL y.r y.v y.i y.x y.y c a b A B n ws bb (bG ks (zn j)) ln co L.length ks.length (ji _ _) (by rw[fT,e7];exact hlA) e CM SM
    by_cases j0:0<=j
    ·have j1: ¬j<(ks.length:Int):=fun h=>hj ⟨j0,h⟩
     simp[j0,j1,g4,o3];exact TK _ (by simp[lk]) (by simp[lk])
    ·simp[j0];exact TK _ (by simp[lk]) (by simp[lk])
  ·have hz:ka L (zn i) (zn j) (zn k)=L:=by
    have h1:L.length<=zn i:=by unfold zn;split<;>omega
    unfold ka;rw[kb L _ (by omega),wE _ L _ h1]
   have hz1:bG L (zn i)=L:=kb L _ (by unfold zn;split<;>omega);rw[hz] at CM;rw[hz1] at SW;have hd:=fW L;have hmp:=fun f=>aO (f:=f) hd
   have TE:=fun e=>vj GL y.r y.v y.i y.x y.y L L.length rfl [i6 c,i6 a,i6 b] rfl e CM SM
   generalize ab L=RR at*;refine aE _ _ SW (by constructor<;>simp) ?_
   by_cases h0:0<=i
   ·have h1: ¬i<(L.length:Int):=fun h=>hi ⟨h0,h⟩
    simp[h0,h1];exact TE _ (by simp[lk]) (by simp[lk])
   ·simp[h0];exact TE _ (by simp[lk]) (by simp[lk])
 ·have hg:=hn hf;have fl:0<(f.map Ft.row).length:=by rw[tN];exact Jz.2 hf
  rw[hg] at CO;simp only[l6] at CO;generalize ab L=RR,f.map Ft.row=FL at*;simp[c5];apply ag AW;simp[c0,c0'];apply ag PS;simp;apply ag CO;simp[fl]
open Go.Lib
set_option maxRecDepth 100000
def oy:List Value:=(List.range 32).map fun o=>Value.int .u8 (if o%2=0 then (accLo (o / 2):Int) else (accHi (o / 2):Int))
def firstCells:List Value:=firstTab.map fun z=>Value.int .u8 z
theorem BQ {W:World} (h:VarReads Tryz.prog W "unicode/utf8.first" firstData) (o:Nat) (u:Value) (hu:firstCells[o]?=some u):W.cell? ⟨0,o,none⟩=some u/\u.oneCell'=true:=by
 have hg0:Tryz.prog.globalNamed "unicode/utf8.first"=some 0:=by kernel_rfl
 have ht0:(Tryz.prog.globals[0]?).map (·.type)=some 204:=by kernel_rfl
 obtain ⟨g,t,cs,fuel,p,hg,hty,hvar,hd⟩:=h;obtain rfl:=Option.some.inj (hg0.symm.trans hg);obtain rfl:=Option.some.inj (ht0.symm.trans hty);have hcs:=cells_of_tab (t:=204) (e:=5) (n:=256) (by kernel_rfl) (by kernel_rfl) (by kernel_rfl) (by kernel_rfl) hd;refine ⟨?_,?_⟩
 ·rw[World.var?_cell hg hvar o,<-Array.getElem?_toList,hcs];exact hu
 ·obtain ⟨z,_,rfl⟩:=oY.1 (List.mem_of_getElem? hu);rfl
theorem H4 {W:World} (h:VarReads Tryz.prog W "unicode/utf8.acceptRanges" acceptData) (o:Nat) (u:Value) (hu:oy[o]?=some u):W.cell? ⟨1,o,none⟩=some u/\u.oneCell'=true:=by
 have hg0:Tryz.prog.globalNamed "unicode/utf8.acceptRanges"=some 1:=by kernel_rfl
 have ht0:(Tryz.prog.globals[1]?).map (·.type)=some 207:=by kernel_rfl
 have hc0:Tryz.prog.cellsOf 206=2:=by kernel_rfl
 obtain ⟨g,t,cs,fuel,p,hg,hty,hvar,hd⟩:=h;obtain rfl:=Option.some.inj (hg0.symm.trans hg);obtain rfl:=Option.some.inj (ht0.symm.trans hty);have ho:o<32:=by have:=(qZ.1 hu).1;simpa[oy] using this
 simp only[oy,xK,List.getElem?_range ho,Option.map_some,cW] at hu;subst hu;refine ⟨?_,by split<;>rfl⟩;have hi:o / 2<16:=by omega
 obtain ⟨fuel',d,q,hdi,he⟩:=array_elem (t:=207) (e:=206) (n:=16) (by kernel_rfl) hd (o / 2) hi;simp only[xK,List.getElem?_range hi,Option.map_some,cW] at hdi;subst hdi;rw[hc0] at he;obtain ⟨fs,hfs,hsz,hf⟩: ∃fs:Array Field,Tryz.prog.underlying 206=some (.struct fs)/\fs.size=2/\ ∀(i:Nat) (f:Field),fs[i]?=some f->Tryz.prog.underlying f.type=some (.int .u8)/\f.offset=i/\Tryz.prog.cellsOf f.type=1:=by
  refine ⟨_,(by kernel_rfl:Tryz.prog.underlying 206=some (.struct #[Field.mk "lo" 5 0 false "" "unicode/utf8" 0,Field.mk "hi" 5 1 false "" "unicode/utf8" 1])),rfl,fun j f hj=>?_⟩
  match j,hj with
  |0,hj=>simp at hj;subst hj;exact ⟨by kernel_rfl,rfl,by kernel_rfl⟩
  |1,hj=>simp at hj;subst hj;exact ⟨by kernel_rfl,rfl,by kernel_rfl⟩
  |j+2,hj=>simp at hj
 have hcs:=ints_of_struct hfs hf (by rw[hc0,hsz]) he;have e0:=congrArg (·[0]?) hcs;have e1:=congrArg (·[1]?) hcs;simp only[qr,List.getElem?_drop] at e0 e1;rw[World.var?_cell hg hvar o,<-Array.getElem?_toList];by_cases hp:o%2=0
 ·rw[if_pos hp];have eo:o / 2*2+0=o:=by omega
  rw[eo] at e0;simpa using e0
 ·rw[if_neg hp];have eo:o / 2*2+1=o:=by omega
  rw[eo] at e1;simpa using e1
end Go.Ai
