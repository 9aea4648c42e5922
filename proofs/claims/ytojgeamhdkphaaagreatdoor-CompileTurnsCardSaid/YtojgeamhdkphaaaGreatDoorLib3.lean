/- Lib3: a part of the proof. Conditions: as each theorem says. -/
import Derived.Test.YtojgeamhdkphaaaGreatDoorLib2
set_option linter.unusedSimpArgs false
set_option linter.unusedVariables false
namespace Go.Ai
open Go.RowKit
variable {P:Program} {F:Fr} {S:aR} {gb:Gb} {σ:St} {a:Act} {w:World}

theorem m6 (h:aN F S gb σ a w) {news:List (List AV)} {yv:Value} {sz:Nat} (hp:PR S gb (.sl news) yv) (hl: ∀r∈news,r.length=sz):
  ∃us:List Value,us.length=news.length*sz/\aa S fP news.flatten us/\(∀u∈us,u.oneCell'=true)/\(Builtin.lenOf yv).run P w= .ok news.length w/\
   (Builtin.firstCells sz news.length yv).run P w= .ok us.toArray w/\(Builtin.firstCells sz news.length yv).run P w.drew= .ok us.toArray w.drew:=by
 simp only[PR] at hp;rcases hp with ⟨rfl,rfl⟩|⟨ad,cap,k,rfl,_,hp⟩
 ·exact ⟨[],by simp,by simp[aa],by simp,by simp[Builtin.lenOf],by simp[Builtin.firstCells],by simp[Builtin.firstCells]⟩
 ·rcases hp with rfl|⟨hsp,hp⟩
  ·refine ⟨[],by simp,by simp[aa],by simp,by simp[Builtin.lenOf],?_,?_⟩<;>simp[Builtin.firstCells,loadCells,loadCellsFrom]
  ·by_cases hn:news=[]
   ·subst hn;refine ⟨[],by simp,by simp[aa],by simp,by simp[Builtin.lenOf],?_,?_⟩<;>simp[Builtin.firstCells,loadCells,loadCellsFrom]
   ·obtain ⟨hk,hc⟩:=a6.flat.1 hp;obtain ⟨us,l1,l2,l3,l4⟩:=hc.list;have hlen:us.length=news.length*sz:=by rw[l1,bW hl]
    obtain ⟨bk,of,sp⟩:=ad;simp only at hsp l2;subst hsp;refine ⟨us,hlen,l4,l3,by simp[Builtin.lenOf],?_,?_⟩
    ·have:=eJ (P:=P) (w:=w) (b:=bk) (o:=of) (us:=us) (fun j u hu=>h.hr.agree _ _ _ (l2 j u hu))
     rw[hlen] at this;simp[Builtin.firstCells,this]
    ·have:=eJ (P:=P) (w:=w.drew) (b:=bk) (o:=of) (us:=us) (fun j u hu=>h.hr.agree _ _ _ (l2 j u hu))
     rw[hlen] at this;simp[Builtin.firstCells,this]

section
variable {t ty e t2:TypeId} {i:TypeInfo} {z:Value} (ht:P.underlying t=some (.slice e)) (ht2:P.underlying t2=some (.slice e)\/P.underlying t2=some .string) (hi:P.info? e=some i) (hz:i.zero=some z)
include ht ht2 hi
theorem iD {base:Option Addr} {n cap m:Nat} {yv:Value} {us:List Value} (hy:(Builtin.lenOf yv).run P w= .ok m w) (hf:(Builtin.firstCells i.size m yv).run P w= .ok us.toArray w) (hr:n+m<=cap) {w':World}
  (hs: ∀b,base=some b->(storeCells (b.add (n*i.size)) us).run P w= .ok () w') (hs0:base=none->w'=w):
  (Builtin.append_ #[t,t2] ty #[.slice base n cap,yv]).run P w= .ok (.slice base (n+m) cap) w':=by
 cases base with
 |none=>rcases ht2 with ht2|ht2<;>simp[Builtin.append_,run_underlying ht,run_underlying ht2,sizeOf,typeInfo,hi,hy,hr,hf,hs0 rfl]
 |some b=>rcases ht2 with ht2|ht2<;>simp[Builtin.append_,run_underlying ht,run_underlying ht2,sizeOf,typeInfo,hi,hy,hr,hf,hs b rfl]
include hz
theorem iE {base:Option Addr} {n cap m:Nat} {yv:Value} {us olds:List Value} (hy:(Builtin.lenOf yv).run P w= .ok m w) (hf:(Builtin.firstCells i.size m yv).run P w.drew= .ok us.toArray w.drew)
  (hfo:(Builtin.firstCells i.size n (.slice base n cap)).run P w.drew= .ok olds.toArray w.drew) (hr:cap<n+m) (hfit:Builtin.nextslicecap (n+m) cap*i.bytes<=281474976710656) (h63:n+m<=9223372036854775807):
  (Builtin.append_ #[t,t2] ty #[.slice base n cap,yv]).run P w= .ok (.slice (some ⟨w.heap.size,0,none⟩) (n+m) (grownCap w (n+m) cap e))
   (w.drew.alloc (.cells ((olds++us).toArray++Builtin.zeroCells z.cells (grownCap w (n+m) cap e - (n+m))) e)):=by
 have hn: ¬(n+m<=cap):=by omega
 have h63': ¬(9223372036854775807<((n:Int)+(m:Int))):=by omega
 have h48': ¬(281474976710656<Builtin.nextslicecap (n+m) cap*i.bytes):=by omega
 rcases ht2 with ht2|ht2
 all_goals
  simp[Builtin.append_,run_underlying ht,run_underlying ht2,sizeOf,typeInfo,zeroValue,hi,hz,hy,hn,h63',h48',Question.forced,hf,hfo,newRow,grownCap];congr 2
  apply Array.ext';simp[xv]
end

theorem A8 (h:aN F S gb σ a w) {d:Nat} (hd:d<F.N) {t ty e t2:TypeId} {i:TypeInfo} {z:Value} {sz by_:Nat} (ht:P.underlying t=some (.slice e)) (ht2:P.underlying t2=some (.slice e)\/P.underlying t2=some .string) (hi:P.info? e=some i) (hz:i.zero=some z)
  (hsz:i.size=sz) (hkb:sz<KB) (hby:i.bytes=by_) (hzs:z.cells.size=sz) (h0:0<sz) (hb0:0<by_) {news rows:List (List AV)} {sv yv:Value} {τ:St} (hτ:aN F S gb τ a w)
  (hu: ∃us:List Value,us.length=news.length*sz/\aa S fP news.flatten us/\(∀u∈us,u.oneCell'=true)/\(Builtin.lenOf yv).run P w= .ok news.length w/\
   (Builtin.firstCells sz news.length yv).run P w= .ok us.toArray w/\(Builtin.firstCells sz news.length yv).run P w.drew= .ok us.toArray w.drew) (hl: ∀r∈news,r.length=sz) (hrl: ∀r∈rows,r.length=sz) (hs:PR S gb (.sl rows) sv) (ho:rk S w sz sv) (hnew: ∀g,sv.ownBlock=some g->F.w0.heap.size<=g\/F.M g)
  (hq: ∀p l b,aH τ.pm p=some l->(ct gb (tv a) w p).ownBlock=some b->sv.ownBlock≠some b) (hqb: ∀b d' z,sv.ownBlock=some b->(aD τ.bx d').isSome->gb d'≠some (b,z))
  (hlim:(rows.length+news.length)*by_<=nD):
  ∃u w' S',(Builtin.append_ #[t,t2] ty #[sv,yv]).run P w= .ok u w'/\aN F S' gb (τ.puto d (.sl (rows++news)) sz) (a.put (some d) u) w':=by
 obtain ⟨us,u1,u2,u3,u4,u5,u6⟩:=hu;have hsmall:rows.length+news.length<=9223372036854775807:=by
  have:rows.length+news.length<=(rows.length+news.length)*by_:=Nat.le_mul_of_pos_right _ hb0
  unfold nD at hlim;omega
 have hcapm: ∀c,c<=maxLen->grownCap w (rows.length+news.length) c e<=maxLen:=fun c _=>grownCap_le_maxLen w _ _ _ (by unfold maxLen;omega)
 subst hsz;subst hby;have grow: ∀(base:Option Addr) (n cap:Nat) (olds:List Value),sv= .slice base n cap->n=rows.length->cap<n+news.length->
   (Builtin.firstCells i.size n (.slice base n cap)).run P w.drew= .ok olds.toArray w.drew->aa S fP rows.flatten olds->(∀u∈olds,u.oneCell'=true)->(∀r∈rows,r.length=i.size)->
   ∃u w' S',(Builtin.append_ #[t,t2] ty #[sv,yv]).run P w= .ok u w'/\aN F S' gb (τ.puto d (.sl (rows++news)) i.size) (a.put (some d) u) w':=by
  intro base n cap olds hsv hn hcap hfo ol o1 orow;subst hsv;subst hn;have hfit:=growslice_fits (need:=rows.length+news.length) (old:=cap) (bytes:=i.bytes) hcap (by unfold nD at hlim;exact hlim);have hrun:=iE (P:=P) (w:=w) (ty:=ty) ht ht2 hi hz u4 u6 hfo hcap hfit hsmall;have hge:=grownCap_ge w (rows.length+news.length) cap e;have hrl: ∀r∈rows++news,r.length=i.size:=by
   intro r hr;rcases jD.1 hr with hr|hr
   ·exact orow r hr
   ·exact hl r hr
  have hlen:(olds++us).length=(rows.length+news.length)*i.size:=by
   rw[fT,<-ol.length,bW orow,u1,Nat.add_mul]
  obtain ⟨S',hr'⟩:=(hτ.drew).newOwn hd ((olds++us).toArray++Builtin.zeroCells z.cells (grownCap w (rows.length+news.length) cap e - (rows.length+news.length))) e (rows:=rows++news) (us:=olds++us) (k:=i.size)
   (cap:=grownCap w (rows.length+news.length) cap e) hkb hrl (by rw[List.flatten_append];exact ol.append u2) (by
    intro u hu;rcases jD.1 hu with hu|hu
    ·exact o1 u hu
    ·exact u3 u hu) (by rw[Array.toList_append];exact List.take_left) (by
    refine Nat.le_of_eq (Eq.symm ?_);rw[Array.size_append,size_zeroCells,hzs,List.size_toArray,hlen,<-Nat.add_mul];congr 1;omega) (by simpa using hge) (grownCap_le_maxLen w _ _ _ (by unfold maxLen;omega))
  refine ⟨_,_,S',hrun,?_⟩;simpa using hr'
 simp only[PR] at hs;rcases ho with rfl|⟨_,g,n,cap,cur,T,rfl,hcells,hncap,hcm,hcs,hun⟩|⟨hkb2,_⟩
 ·
  have hrows:rows=[]:=by
   rcases hs with ⟨_,hs⟩|⟨_,_,_,hs,_⟩
   ·exact hs
   ·cases hs
  subst hrows;by_cases hm:news=[]
  ·subst hm;refine ⟨.slice none 0 0,w,S,?_,?_⟩
   ·have:=iD (P:=P) (w:=w) (ty:=ty) ht ht2 hi (base:=none) (n:=0) (cap:=0) (us:=us) u4 u5 (by simp) (w':=w) (fun b hb=>by cases hb) (fun _=>rfl)
    simpa using this
   ·refine hτ.puto hd (by simp[PR]) (.inl rfl) (fun b hb=>by simp[Value.ownBlock] at hb) (fun p l b _ _ _ hb=>by simp[Value.ownBlock] at hb) (fun b d' z hb=>by simp[Value.ownBlock] at hb)
  ·have hpos:0<news.length:=Jz.2 hm;exact grow none 0 0 [] rfl rfl (by simpa using hpos) (by simp[Builtin.firstCells]) (by simp[aa]) (by simp) (by simp)
 ·have hn:n=rows.length/\a6 S i.size rows g 0:=by
   rcases hs with ⟨hs,_⟩|⟨ad,cap',k',hs,_,hr⟩
   ·cases hs
   ·cases hs;refine ⟨rfl,?_⟩;rcases hr with hr|⟨_,hr⟩
    ·subst hr;simp[a6]
    ·exact a6.flat.2 ⟨hrl,(a6.flat.1 hr).2⟩
  obtain ⟨rfl,hr⟩:=hn;obtain ⟨_,hrc⟩:=a6.flat.1 hr;obtain ⟨olds,o1,o2,o3,o4⟩:=hrc.list;simp only[l5] at o2;have olen:olds.length=rows.length*i.size:=by rw[o1,bW hrl]
  have ocell: ∀(j:Nat) (u:Value),olds[j]?=some u->cur[j]?=some u:=by
   intro j u hu
   have:=h.hr.agree _ _ _ (o2 j u hu)
   rwa [cell_of_row w g j cur T _ hcells] at this
  have otake:cur.toList.take (rows.length*i.size)=olds:=by
   apply List.ext_getElem?;intro j;rw[qr];split
   ·rename_i hj;have hj2:j<olds.length:=by omega
    rw[uk hj2]
    have:=ocell j _ (uk hj2)
    simpa using this
   ·rename_i hj;rw[Ga (by omega)]
  by_cases hroom:rows.length+news.length<=cap
  ·
   have hfitc:rows.length*i.size+us.length<=cur.size:=by rw[u1,<-Nat.add_mul];exact mu (Nat.mul_le_mul_right _ hroom) hcs
   have hst:=run_storeCells_at P g (rows.length*i.size) T us 0 cur w hcells (by simpa using hfitc) u3;simp only[tF] at hst;have hrun:=iD (P:=P) (w:=w) (ty:=ty) ht ht2 hi (base:=some ⟨g,0,none⟩) (n:=rows.length) (cap:=cap) (us:=us) u4 u5 hroom (fun b hb=>by
    cases hb;rw[Addr.add_lit,l5];exact hst) (fun hb=>by cases hb)
   generalize hcur':(cur.toList.take (rows.length*i.size)++us++cur.toList.drop (rows.length*i.size+us.length)).toArray=cur' at hrun hst;have hheap:(w.setRow g cur').heap[g]?=some (.cells cur' T (0,0)):=setRow_heap w g cur _ T _ hcells;have hnewcell: ∀(j:Nat) (u:Value),(olds++us)[j]?=some u->cur'[j]?=some u:=by
    intro j u hu;rw[<-hcur',otake];simp only[List.getElem?_toArray];rw[List.getElem?_append_left]
    ·exact hu
    ·obtain ⟨hlt,_⟩:=qZ.1 hu;exact hlt
   have hgS: ∀o v,S g o=some v->o<rows.length*i.size:=by
    intro o v hv;rcases Nat.lt_or_ge o (rows.length*i.size) with hlt|hge
    ·exact hlt
    ·rw[hun o hge] at hv;cases hv
   let S':aR:=fun g' o=>if g'=g then (olds++us)[o]? else S g' o
   have hle:S.le S':=by
    intro g' o v hv;simp only[S'];split
    ·rename_i e;subst e;have hlt:=hgS o v hv;have h2:o<olds.length:=by omega
     rw[List.getElem?_append_left h2,uk h2]
     have:=o2 o _ (uk h2)
     rw[hv] at this;simpa using this.symm
    ·exact hv
   have hτ':aN F S' gb τ a (w.setRow g cur'):=by
    refine hτ.off (hnew g rfl) (fun d' z hd'=>hqb g d' z rfl hd') (fun p l hl2 hb2=>hq p l g hl2 hb2 rfl) (fun k hk=>setRow_other w g k _ hk) (by simp) rfl rfl rfl hle (fun g' o hg'=>by simp[S',hg']) ?_;intro g' o v hv;simp only[S'] at hv;split at hv
    ·rename_i e;subst e;rw[cell_of_row _ _ o cur' T _ hheap];exact hnewcell o v hv
    ·rename_i e;rw[World.cell?_of_block (w:=w) (setRow_other w g g' _ e)];exact h.hr.agree _ _ _ hv
   refine ⟨_,_,S',hrun,hτ'.puto hd ?_ ?_ ?_ ?_ ?_⟩
   ·simp only[PR];refine .inr ⟨⟨g,0,none⟩,cap,i.size,by simp,by simpa using hroom,.inr ⟨rfl,?_⟩⟩;rw[a6.flat];refine ⟨fun r hr'=>?_,?_⟩
    ·rcases jD.1 hr' with hr'|hr'
     ·exact hrl r hr'
     ·exact hl r hr'
    ·rw[List.flatten_append];refine aK.of_list (us:=olds++us) (aa.mono hle (Gb.le.refl _) _ _ (o4.append u2)) ?_ (fun j u hu=>by simpa[S'] using hu);intro u hu;rcases jD.1 hu with hu|hu
     ·exact o3 u hu
     ·exact u3 u hu
   ·refine .inr (.inl ⟨hkb,g,rows.length+news.length,cap,cur',T,rfl,hheap,hroom,hcm,?_,fun o ho=>?_⟩)
    ·rw[<-hcur'];simp only[List.size_toArray,fT,tD,xy,qq];omega
    ·simp only[S',if_true];apply Ga;rw[fT,olen,u1,<-Nat.add_mul];exact ho
   ·intro b hb3;simp only[Value.ownBlock,cW] at hb3;subst hb3;exact hnew g rfl
   ·intro p l b hl2 _ hb2 hb3;simp only[Value.ownBlock,cW] at hb3;subst hb3;refine hq p l g hl2 ?_ rfl;rw[<-hτ.plv_same (w':=w.setRow g cur') (fun d' q z hd' hq2=>setRow_other w g q _ (fun e=>hqb g d' z rfl hd' (by rw[hq2,e]))) hl2];exact hb2
   ·intro b d' z hb3;simp only[Value.ownBlock,cW] at hb3;subst hb3;exact hqb g d' z rfl
  ·refine grow _ _ cap olds rfl rfl (by omega) ?_ o4 o3 hrl
   have:=eJ (P:=P) (w:=w.drew) (b:=g) (o:=0) (us:=olds) (fun j u hu=>by rw[l5];exact h.hr.agree _ _ _ (o2 j u hu))
   rw[olen] at this;simp[Builtin.firstCells,this]
 ·exact absurd hkb2 (Nat.not_le.2 hkb)
theorem uF (h:aN F S gb σ a w) {d:Nat} (hd:d<F.N) {t ty e:TypeId} {i:TypeInfo} {z:Value} {sz by_:Nat} (ht:P.underlying t=some (.slice e)) (hi:P.info? e=some i) (hz:i.zero=some z)
  (hsz:i.size=sz) (hkb:sz<KB) (hby:i.bytes=by_) (hzs:z.cells.size=sz) (h0:0<sz) (hb0:0<by_) {news rows:List (List AV)} {sv yv:Value} {τ:St} (hτ:aN F S gb τ a w)
  (hy:PR S gb (.sl news) yv) (hl: ∀r∈news,r.length=sz) (hrl: ∀r∈rows,r.length=sz) (hs:PR S gb (.sl rows) sv) (ho:rk S w sz sv) (hnew: ∀g,sv.ownBlock=some g->F.w0.heap.size<=g\/F.M g)
  (hq: ∀p l b,aH τ.pm p=some l->(ct gb (tv a) w p).ownBlock=some b->sv.ownBlock≠some b) (hqb: ∀b d' z,sv.ownBlock=some b->(aD τ.bx d').isSome->gb d'≠some (b,z))
  (hlim:(rows.length+news.length)*by_<=nD):
  ∃u w' S',(Builtin.append_ #[t,t] ty #[sv,yv]).run P w= .ok u w'/\aN F S' gb (τ.puto d (.sl (rows++news)) sz) (a.put (some d) u) w':=
 A8 h hd ht (.inl ht) hi hz hsz hkb hby hzs h0 hb0 hτ (m6 (P:=P) h hy hl) hl hrl hs ho hnew hq hqb hlim
end Go.Ai
namespace Go.Ai
open Go.RowKit

def lH (P:Program) (f:FuncId) (vs:Array Value) (w:World) (R:Value->World->Prop):Prop:=
 match (callFunc f vs).run P w with
 | .ok (.value v) w'=>R v w'
 | .ok (.enter f' as') w'=>Calls P f' as' w' fun e w''=> ∃v,e= .returned v/\R v w''
 |_=>False

def MS (I:In) (gb:Gb) (sv:Nat->Value) (w:World) (g:Nat):Prop:=
 (∃d z,(aD I.bx d).isSome/\gb d=some (g,z))\/(∃p k,aH I.pm p=some k/\(ct gb sv w p).ownBlock=some g)

structure dL (d:Nat) (I:In) (O:bO) (S:aR) (gb:Gb) (sv:Nat->Value) (w:World) (S':aR) (gb':Gb) (v:Value) (w':World):Prop where
 bw:Bw (MS I gb sv w) w w'
 ext: ∀g o,g<w.heap.size-> ¬MS I gb sv w g->S' g o=S g o
 le:S.le S'
 same: ∀i,i.isNw d=false->gb' i=gb i
 nw: ∀i,i.isNw d=true->gb' i≠none->(aD O.bx i).isSome
 r:PR S' gb' O.r v
 hr:HR S' gb' O.bx O.pm (fun _=>v) w'
 newb: ∀i g z,(aD O.bx i).isSome->gb' i=some (g,z)->w.heap.size<=g\/MS I gb sv w g
 newo: ∀p k g,aH O.pm p=some k->(ct gb' (fun _=>v) w' p).ownBlock=some g->w.heap.size<=g\/MS I gb sv w g

def bC (P:Program) (GL:List (Nat×List Value)) (f d:Nat) (I:In) (O:bO):Prop:=
 ∀(S:aR) (gb:Gb) (w:World) (vs:List Value),aa S gb I.vs vs->HR S gb I.bx I.pm (fun t=>vs.getD t undef) w->
  (∀i us,GL.lookup i=some us-> ∀(o:Nat) (u:Value),us[o]?=some u->S i o=some u/\u.oneCell'=true)->(∀i,i.isNw d=true->gb i=none)->
  lH P f vs.toArray w fun v w'=> ∃S' gb',dL d I O S gb (fun t=>vs.getD t undef) w S' gb' v w'

theorem iF (A B:List (Id×List AV)) (d:Id):aD (A++B) d=match aD A d with |some c=>some c|none=>aD B d:=by
 induction A with
 |nil=>simp[aD]
 |cons x r ih=>
  obtain ⟨k,v⟩:=x;simp only[cB,aD];split
  ·rfl
  ·exact ih
theorem gM (l:List (Id×List AV)) (d e:Id):aD (kA l d) e=if d=e then none else aD l e:=by
 induction l with
 |nil=>simp[kA,aD]
 |cons x r ih=>
  obtain ⟨k,v⟩:=x;simp only[kA];split
  ·rename_i h;subst h;rw[ih];simp only[aD];split
   ·rfl
   ·rfl
  ·rename_i h;simp only[aD,ih];split
   ·rename_i h2;subst h2;rw[if_neg (fun e=>h e.symm)]
   ·rfl
theorem jW: ∀(r l:List (Id×List AV)) (e:Id),aD (jR l r) e=if (aD r e).isSome then none else aD l e
 |[],l,e=>by simp[jR,aD]
 |(d,c)::r,l,e=>by
  simp only[jR,aD];rw[jW r,gM];by_cases h:d=e
  ·subst h;simp
  ·simp[h]
theorem vP (A B:List (Pl×Nat)) (p:Pl):aH (A++B) p=match aH A p with |some c=>some c|none=>aH B p:=by
 induction A with
 |nil=>simp[aH]
 |cons x r ih=>
  obtain ⟨k,v⟩:=x;simp only[cB,aH];split
  ·rfl
  ·exact ih
theorem yH: ∀(r:List (Id×List AV)) (l:List (Pl×Nat)) (p:Pl) (k:Nat),aH (lq l r) p=some k->aH l p=some k/\ ∀e o,p= .b e o->aD r e=none
 |[],l,p,k,h=>⟨h,fun e o _=>rfl⟩
 |(d,c)::r,l,p,k,h=>by
  simp only[lq] at h;obtain ⟨h1,h2⟩:=yH r _ p k h;rw[kE] at h1;cases p with
  |s t=>exact ⟨h1,fun e o he=>by cases he⟩
  |t t i=>exact ⟨h1,fun e o he=>by cases he⟩
  |b e o=>
   simp only at h1;split at h1
   ·cases h1
   ·rename_i hne;refine ⟨h1,fun e' o' he=>?_⟩;cases he;simp only[aD];rw[if_neg (fun e=>hne e.symm)];exact h2 e o rfl
theorem lI (xs:List X): ∀(r l:List (Pl×Nat)) (p:Pl) (k:Nat),aH (jF xs l r) p=some k->aH l p=some k/\ ∀i k' t,(Pl.s i,k')∈r->xs[i]?=some (.s t)->p≠ .s t
 |[],l,p,k,h=>⟨h,fun i k' t hm=>by simp at hm⟩
 |(.s i,k0)::r,l,p,k,h=>by
  simp only[jF] at h;split at h
  ·rename_i t ht;obtain ⟨h1,h2⟩:=lI xs r _ p k h;rw[jH] at h1;split at h1
   ·cases h1
   ·rename_i hne;refine ⟨h1,fun i' k' t' hm hx=>?_⟩;cases hm with
    |head=>rw[ht] at hx;cases hx;exact fun e=>hne e
    |tail _ hm=>exact h2 i' k' t' hm hx
  ·rename_i hno;obtain ⟨h1,h2⟩:=lI xs r _ p k h;refine ⟨h1,fun i' k' t' hm hx=>?_⟩;cases hm with
   |head=>exact absurd hx (hno t')
   |tail _ hm=>exact h2 i' k' t' hm hx
 |(.t a b,k0)::r,l,p,k,h=>by
  simp only[jF] at h;obtain ⟨h1,h2⟩:=lI xs r _ p k h;refine ⟨h1,fun i' k' t' hm hx=>?_⟩;cases hm with
  |tail _ hm=>exact h2 i' k' t' hm hx
 |(.b a b,k0)::r,l,p,k,h=>by
  simp only[jF] at h;obtain ⟨h1,h2⟩:=lI xs r _ p k h;refine ⟨h1,fun i' k' t' hm hx=>?_⟩;cases hm with
  |tail _ hm=>exact h2 i' k' t' hm hx
def back:Pl->Pl->Prop
 | .s _,.s _=>True
 | .t _ i,.t _ j=>i=j
 | .b e o,.b e' o'=>e=e'/\o=o'
 |_,_=>False
theorem nQ (d:Nat): ∀(l:List (Pl×Nat)) (p:Pl) (k:Nat),aH (lr d l) p=some k->(p.at d=true\/ ∃e o,p= .b e o)/\ ∃q,back p q/\aH l q=some k
 |[],p,k,h=>by simp[lr,aH] at h
 |(.s t,k0)::r,p,k,h=>by
  simp only[lr,aH] at h;split at h
  ·rename_i e;subst e;simp only[cW] at h;subst h;exact ⟨.inl (by simp[Pl.at]),.s t,trivial,by simp[aH]⟩
  ·rename_i e;obtain ⟨h1,q,h2,h3⟩:=nQ d r p k h;refine ⟨h1,q,h2,?_⟩;simp only[aH];rw[if_neg]
   ·exact h3
   ·intro e2;subst e2;cases p with
    |s j=>
     rcases h1 with h1|⟨_,_,h1⟩
     ·simp[Pl.at] at h1;exact e (by rw[h1])
     ·cases h1
    |t j i=>exact h2
    |b j i=>exact h2
 |(.t t i,k0)::r,p,k,h=>by
  simp only[lr,aH] at h;split at h
  ·rename_i e;subst e;simp only[cW] at h;subst h;exact ⟨.inl (by simp[Pl.at]),.t t i,rfl,by simp[aH]⟩
  ·rename_i e;obtain ⟨h1,q,h2,h3⟩:=nQ d r p k h;refine ⟨h1,q,h2,?_⟩;simp only[aH];rw[if_neg]
   ·exact h3
   ·intro e2;subst e2;cases p with
    |s j=>exact h2
    |t j i'=>
     rcases h1 with h1|⟨_,_,h1⟩
     ·simp[Pl.at] at h1;exact e (by rw[h1];simp only[back] at h2;rw[h2])
     ·cases h1
    |b j i=>exact h2
 |(.b e0 o0,k0)::r,p,k,h=>by
  simp only[lr,aH] at h;split at h
  ·rename_i e;subst e;simp only[cW] at h;subst h;exact ⟨.inr ⟨e0,o0,rfl⟩,.b e0 o0,⟨rfl,rfl⟩,by simp[aH]⟩
  ·rename_i e;obtain ⟨h1,q,h2,h3⟩:=nQ d r p k h;refine ⟨h1,q,h2,?_⟩;simp only[aH];rw[if_neg]
   ·exact h3
   ·intro e2;subst e2;cases p with
    |s j=>exact h2
    |t j i=>exact h2
    |b j i=>simp only[back] at h2;exact e (by rw[h2.1,h2.2])
theorem nR {xs:List X}: ∀ {r:List (Pl×Nat)},lc xs r-> ∀ {i j ki kj},(Pl.s i,ki)∈r->(Pl.s j,kj)∈r->i≠j->xs[i]?≠xs[j]?
 |[],_,i,j,ki,kj,h,_,_=>by simp at h
 |(.s a,k0)::r,ho,i,j,ki,kj,hi,hj,hne=>by
  simp only[lc] at ho;cases hi with
  |head=>
   cases hj with
   |head=>exact absurd rfl hne
   |tail _ hj=>exact fun e=>ho.1 _ hj j rfl (fun e2=>hne e2.symm) e.symm
  |tail _ hi=>
   cases hj with
   |head=>exact ho.1 _ hi i rfl hne
   |tail _ hj=>exact nR ho.2 hi hj hne
 |(.t a b,k0)::r,ho,i,j,ki,kj,hi,hj,hne=>by
  simp only[lc] at ho;cases hi with
  |tail _ hi=>cases hj with
   |tail _ hj=>exact nR ho hi hj hne
 |(.b a b,k0)::r,ho,i,j,ki,kj,hi,hj,hne=>by
  simp only[lc] at ho;cases hi with
  |tail _ hi=>cases hj with
   |tail _ hj=>exact nR ho hi hj hne

variable {P:Program} {F:Fr} {S:aR} {gb:Gb} {σ:St} {a:Act} {w:World}

theorem HR.weaker {bx bx':List (Id×List AV)} {pm:List (Pl×Nat)} {sv:Nat->Value} (h:HR S gb bx pm sv w) (hb: ∀d cs,aD bx' d=some cs->FN bx d cs):
  (∀d cs,aD bx' d=some cs->d.isIt=false-> ∃g us T,gb d=some (g,⟨us.size,T⟩)/\w.heap[g]?=some (.cells us T (0,0))/\cs.length<=us.size/\aa S gb cs (us.toList.take cs.length)/\(∀u∈us.toList,u.oneCell'=true)/\(∀o,S g o=none))/\
  (∀d cs,aD bx' d=some cs->d.isIt=true-> ∃g z ob,gb d=some (g,z)/\tG cs=some ob/\w.heap[g]?=some ob/\ ∀o,S g o=none)/\
  (∀d,(aD bx' d).isSome->(aD bx d).isSome):=by
 refine ⟨fun d cs hcs hi=>?_,fun d cs hcs hi=>?_,fun d hd=>?_⟩
 ·obtain ⟨cs',hcs',hw⟩:=i5 (hb d cs hcs);obtain ⟨g,us,T,e1,e3,e0,e4,e5,e6⟩:=h.box d cs' hcs' hi;have hl:=rm hw;exact ⟨g,us,T,e1,e3,by omega,oZ hw (by rw[<-hl];exact e4),e5,e6⟩
 ·obtain ⟨cs',hcs',hw⟩:=i5 (hb d cs hcs);obtain ⟨g,z,ob,e1,e2,e3,e6⟩:=h.its d cs' hcs' hi;exact ⟨g,z,ob,e1,Gg e2 hw,e3,e6⟩
 ·obtain ⟨cs,hcs⟩:=jp.1 hd;obtain ⟨cs',hcs',_⟩:=i5 (hb d cs hcs);rw[hcs'];rfl

theorem pass (h:aN F S gb σ a w) {d:Nat} {xs:List X} {I:In} {O:bO} (hc:cO d σ xs I O) {vs:List Value} (hvs:aa S gb (xs.map σ.v) vs) (hsl: ∀(i t:Nat),xs[i]?=some (X.s t)->vs[i]?=some (tv a t))
  {p:Pl} {k:Nat} (hp:aH I.pm p=some k):
  (∃q,aH σ.pm q=some k/\ct gb (fun t=>vs.getD t undef) w p=ct gb (tv a) w q/\((∃i t,p= .s i/\q= .s t/\xs[i]?=some (.s t))\/(∃e o,p= .b e o/\q= .b e o/\(aD I.bx e).isSome)))\/
   (ct gb (fun t=>vs.getD t undef) w p= .slice none 0 0)/\(∀e o,p= .b e o->(aD I.bx e).isSome/\e.isIt=false):=by
 have hin:=hc.pm _ (eI _ _ _ hp);cases p with
 |s i=>
  simp only[re] at hin;split at hin
  ·rename_i t ht;have hv:vs.getD i undef=tv a t:=by rw[Cq,hsl i t ht];rfl
   rcases hin with h1|h1
   ·exact .inl ⟨.s t,h1,by simp only[ct];exact hv,.inl ⟨i,t,rfl,rfl,ht⟩⟩
   ·right;refine ⟨?_,fun e o he=>by cases he⟩
    have:=h.env t
    rw[h1] at this;simp only[ct,hv];simpa[PR] using this
  ·rename_i v hv;subst hin;right;refine ⟨?_,fun e o he=>by cases he⟩;have h1:(xs.map σ.v)[i]?=some .nils:=by rw[xK,hv];rfl
   obtain ⟨u,hu,hp⟩:=hvs.get h1;simp only[PR] at hp;simp only[ct,Cq,hu,hp];rfl
  ·exact hin.elim
 |t t i=>simp[re] at hin
 |b e o=>
  simp only[re] at hin;obtain ⟨h0,h1|h1⟩:=hin
  ·exact .inl ⟨.b e o,h1,rfl,.inr ⟨e,o,rfl,rfl,h0⟩⟩
  ·have hit:e.isIt=false:=by
    simp only[iX] at h1;split at h1
    ·rename_i cs hcs;cases hi:e.isIt with
     |false=>rfl
     |true=>
      obtain ⟨_,_,ob,_,e2,_⟩:=h.hr.its e cs hcs hi;obtain ⟨v,rfl,hv⟩:=qE e2;cases o with
      |zero=>simp at h1;exact absurd h1 hv
      |succ n=>simp at h1
    ·cases h1
   exact .inr ⟨o5 h h1 (fun d off he=>by cases he;exact hit),fun e' o' he=>by cases he;exact ⟨h0,hit⟩⟩

theorem gc (h:aN F S gb σ a w) {d:Nat} {xs:List X} {I:In} {O:bO} (hc:cO d σ xs I O) {vs:List Value} (hvs:aa S gb (xs.map σ.v) vs) (hsl: ∀(i t:Nat),xs[i]?=some (X.s t)->vs[i]?=some (tv a t)):
  HR S gb I.bx I.pm (fun t=>vs.getD t undef) w:=by
 obtain ⟨w1,w2,w3⟩:=h.hr.weaker (bx':=I.bx) (fun d cs hcs=>hc.bx _ (cF _ _ _ hcs));refine ⟨h.hr.agree,w1,w2,fun e e' g z z' i1 i2=>h.hr.inj e e' g z z' (w3 e i1) (w3 e' i2),?_,?_,?_,?_⟩
 ·intro p k hp;rcases pass h hc hvs hsl hp with ⟨q,q1,q2,_⟩|⟨q1,_⟩
  ·rw[q2];exact h.hr.own q k q1
  ·rw[q1];exact .inl rfl
 ·intro p q k l b hp hq hb1 hb2;rcases pass h hc hvs hsl hp with ⟨p',p1,p2,p3⟩|⟨p1,_⟩
  ·rcases pass h hc hvs hsl hq with ⟨q',q1,q2,q3⟩|⟨q1,_⟩
   ·rw[p2] at hb1;rw[q2] at hb2;have e:=h.hr.ownd p' q' k l b p1 q1 hb1 hb2;rcases p3 with ⟨i,t,rfl,rfl,hx⟩|⟨e1,o1,rfl,rfl,_⟩
    ·rcases q3 with ⟨j,t',rfl,rfl,hy⟩|⟨e2,o2,rfl,rfl,_⟩
     ·cases e;by_cases hij:i=j
      ·rw[hij]
      ·exact absurd (hx.trans hy.symm) (nR hc.one (eI _ _ _ hp) (eI _ _ _ hq) hij)
     ·cases e
    ·rcases q3 with ⟨j,t',rfl,rfl,hy⟩|⟨e2,o2,rfl,rfl,_⟩
     ·cases e
     ·exact e
   ·rw[q1] at hb2;simp[Value.ownBlock] at hb2
  ·rw[p1] at hb1;simp[Value.ownBlock] at hb1
 ·intro p k b e z hp hb he;rcases pass h hc hvs hsl hp with ⟨q,q1,q2,_⟩|⟨q1,_⟩
  ·rw[q2] at hb;exact h.hr.ownb q k b e z q1 hb (w3 e he)
  ·rw[q1] at hb;simp[Value.ownBlock] at hb
 ·intro e o k hp;rcases pass h hc hvs hsl hp with ⟨q,q1,q2,q3⟩|⟨_,q2⟩
  ·rcases q3 with ⟨i,t,he,_⟩|⟨e',o',he,rfl,hi⟩
   ·cases he
   ·cases he;exact ⟨hi,(h.hr.pmb e o k q1).2⟩
  ·exact q2 e o rfl

theorem jX {gb:Gb} {v:Value} {w:World} {p q:Pl} (hq:back p q) {d:Nat} (hd:d<a.tmps.size) (hp:p.at d=true\/ ∃e o,p= .b e o):ct gb (tv (a.put (some d) v)) w p=ct gb (fun _=>v) w q:=by
 cases p with
 |s j=>
  cases q with
  |s j'=>
   rcases hp with hp|⟨_,_,hp⟩
   ·simp[Pl.at] at hp;subst hp;simp[ct,iZ hd]
   ·cases hp
  |t _ _=>exact hq.elim
  |b _ _=>exact hq.elim
 |t j i=>
  cases q with
  |t j' i'=>
   rcases hp with hp|⟨_,_,hp⟩
   ·simp[Pl.at] at hp;subst hp;simp only[back] at hq;subst hq;simp only[ct,iZ hd,if_true]
   ·cases hp
  |s _=>exact hq.elim
  |b _ _=>exact hq.elim
 |b e o=>
  cases q with
  |b e' o'=>simp only[back] at hq;obtain ⟨rfl,rfl⟩:=hq;rfl
  |s _=>exact hq.elim
  |t _ _=>exact hq.elim

theorem aN.call (h:aN F S gb σ a w) {d dn:Nat} (hd:d<F.N) {xs:List X} {I:In} {O:bO} (hc:cO dn σ xs I O) {vs:List Value} (hvs:aa S gb (xs.map σ.v) vs) (hsl: ∀(i t:Nat),xs[i]?=some (X.s t)->vs[i]?=some (tv a t))
  {S':aR} {gb':Gb} {v:Value} {w':World} (hp:dL dn I O S gb (fun t=>vs.getD t undef) w S' gb' v w'):aN F S' gb' (bB d σ xs I O) (a.put (some d) v) w':=by
 have hd':d<a.tmps.size:=by rw[h.size];exact hd
 obtain ⟨_,_,w3⟩:=h.hr.weaker (bx':=I.bx) (fun d cs hcs=>hc.bx _ (cF _ _ _ hcs));have hMS: ∀g,MS I gb (fun t=>vs.getD t undef) w g->(∃e z,(aD σ.bx e).isSome/\(aD I.bx e).isSome/\gb e=some (g,z))\/
   (∃q k p,aH σ.pm q=some k/\(ct gb (tv a) w q).ownBlock=some g/\aH I.pm p=some k/\((∃i t,p= .s i/\q= .s t/\xs[i]?=some (.s t))\/(∃e o,p= .b e o/\q= .b e o/\(aD I.bx e).isSome))):=by
  rintro g (⟨e,z,h1,h2⟩|⟨p,k,h1,h2⟩)
  ·exact .inl ⟨e,z,w3 e h1,h1,h2⟩
  ·rcases pass h hc hvs hsl h1 with ⟨q,q1,q2,q3⟩|⟨q1,_⟩
   ·rw[q2] at h2;exact .inr ⟨q,k,p,q1,h2,h1,q3⟩
   ·rw[q1] at h2;simp[Value.ownBlock] at h2
 have hM0: ∀g,MS I gb (fun t=>vs.getD t undef) w g->F.w0.heap.size<=g\/F.M g:=by
  intro g hg;rcases hMS g hg with ⟨e,z,h1,_,h2⟩|⟨q,k,p,h1,h2,_⟩
  ·exact h.newb e g z h1 h2
  ·exact h.newo q k g h1 h2
 have hgn: ∀i,i.isNw dn=true->gb i=none:=by
  intro i hi;cases hg:gb i with
  |none=>rfl
  |some x=>
   rcases h.dom i (by rw[hg];simp) with h1|h1
   ·obtain ⟨cs,hcs⟩:=jp.1 h1
    have:=hc.free _ (cF _ _ _ hcs)
    simp only at this;rw[this] at hi;cases hi
   ·cases i<;>simp[Id.isUp,Id.isNw] at h1 hi
 have hle:gb.le gb':=fun i x hx=>by
  have:i.isNw dn=false:=by
   cases hi:i.isNw dn with
   |false=>rfl
   |true=>rw[hgn i hi] at hx;cases hx
  rw[hp.same i this];exact hx
 have hrest: ∀e,(aD (jR σ.bx I.bx) e).isSome->(aD σ.bx e).isSome/\aD I.bx e=none/\aD (jR σ.bx I.bx) e=aD σ.bx e:=by
  intro e he;rw[jW] at he ⊢;by_cases h1:(aD I.bx e).isSome=true
  ·rw[if_pos h1] at he;cases he
  ·rw[if_neg h1] at he ⊢;exact ⟨he,by simpa using h1,rfl⟩
 have hboth: ∀e,(aD (O.bx++jR σ.bx I.bx) e).isSome->(aD O.bx e).isSome\/(aD O.bx e=none/\(aD (jR σ.bx I.bx) e).isSome):=by
  intro e he;rw[iF] at he;cases h1:aD O.bx e with
  |some c=>exact .inl rfl
  |none=>rw[h1] at he;exact .inr ⟨rfl,he⟩
 have hrg: ∀e g z,(aD (jR σ.bx I.bx) e).isSome->gb' e=some (g,z)->gb e=some (g,z):=by
  intro e g z he hg;obtain ⟨h1,_,_⟩:=hrest e he;obtain ⟨cs,hcs⟩:=jp.1 h1
  have:=hc.free _ (cF _ _ _ hcs)
  simp only at this;rw[<-hp.same e this];exact hg
 have hbfree: ∀e g z,(aD (jR σ.bx I.bx) e).isSome->gb e=some (g,z)->g<w.heap.size/\ ¬MS I gb (fun t=>vs.getD t undef) w g:=by
  intro e g z he hg;obtain ⟨h1,h2,_⟩:=hrest e he;refine ⟨h.gblt h1 hg,fun hm=>?_⟩;rcases hMS g hm with ⟨e',z',i1,i2,i3⟩|⟨q,k,p,i1,i2,_⟩
  ·have:=h.hr.inj e e' g z z' h1 i1 hg i3
   subst this;rw[h2] at i2;cases i2
  ·exact h.hr.ownb q k g e z i1 i2 h1 hg
 have hkeep: ∀p k,aH (gV (jF xs (lq σ.pm I.bx) I.pm) d) p=some k->p.at d=false/\aH σ.pm p=some k/\(∀e o,p= .b e o->aD I.bx e=none)/\ ∀i k' t,(Pl.s i,k')∈I.pm->xs[i]?=some (.s t)->p≠ .s t:=by
  intro p k hk;rw[gJ] at hk;split at hk
  ·cases hk
  ·rename_i hne;obtain ⟨h1,h2⟩:=lI xs _ _ p k hk;obtain ⟨h3,h4⟩:=yH _ _ p k h1;exact ⟨by simpa using hne,h3,h4,h2⟩
 have hkb: ∀e o k,aH (gV (jF xs (lq σ.pm I.bx) I.pm) d) (.b e o)=some k->(aD (jR σ.bx I.bx) e).isSome:=by
  intro e o k hk;obtain ⟨_,h2,h3,_⟩:=hkeep _ k hk;rw[jW,h3 e o rfl];exact (h.hr.pmb e o k h2).1
 have hkv: ∀p k,aH (gV (jF xs (lq σ.pm I.bx) I.pm) d) p=some k->ct gb' (tv (a.put (some d) v)) w' p=ct gb (tv a) w p:=by
  intro p k hk;obtain ⟨h1,h2,h3,_⟩:=hkeep p k hk;rw[cU hd' h1];cases p with
  |s t=>rfl
  |t t i=>rfl
  |b e o=>
   have hr:=hkb e o k hk;obtain ⟨r1,_,_⟩:=hrest e hr;obtain ⟨cs,hcs⟩:=jp.1 r1;have hnw:=hc.free _ (cF _ _ _ hcs);simp only at hnw;simp only[ct,hp.same e hnw];cases hg:gb e with
   |none=>rfl
   |some x=>
    obtain ⟨g,z⟩:=x;obtain ⟨f1,f2⟩:=hbfree e g z hr hg;simp only[];rw[World.cell?_of_block (w:=w) (hp.bw.block g f1 f2)]
 have hkfree: ∀p k g,aH (gV (jF xs (lq σ.pm I.bx) I.pm) d) p=some k->(ct gb (tv a) w p).ownBlock=some g->g<w.heap.size/\ ¬MS I gb (fun t=>vs.getD t undef) w g:=by
  intro p k g hk hg;obtain ⟨h1,h2,h3,h4⟩:=hkeep p k hk;refine ⟨h.plvlt h2 hg,fun hm=>?_⟩;rcases hMS g hm with ⟨e',z',i1,_,i3⟩|⟨q,l,p',i1,i2,i3,i4⟩
  ·exact h.hr.ownb p k g e' z' h2 hg i1 i3
  ·have e:=h.hr.ownd p q k l g h2 i1 hg i2;rcases i4 with ⟨i,t,rfl,rfl,hx⟩|⟨e1,o1,rfl,rfl,hi⟩
   ·exact h4 i l t (eI _ _ _ i3) hx e
   ·rw[h3 e1 o1 e] at hi;cases hi
 have hmix: ∀p k,aH (bB d σ xs I O).pm p=some k->(∃q,back p q/\(p.at d=true\/ ∃e o,p= .b e o)/\aH O.pm q=some k)\/aH (gV (jF xs (lq σ.pm I.bx) I.pm) d) p=some k:=by
  intro p k hk;simp only[bB,vP] at hk;cases h1:aH (lr d O.pm) p with
  |some c=>
   rw[h1] at hk;simp only[cW] at hk;subst hk;obtain ⟨g1,q,g2,g3⟩:=nQ d _ _ _ h1;exact .inl ⟨q,g2,g1,g3⟩
  |none=>rw[h1] at hk;exact .inr hk
 refine ⟨h.defers,by simp[Act.put,h.size],h.bw.trans hp.bw (fun g hg hm=>(hM0 g hm).resolve_left (by omega)),?_,h.le.trans hp.le,?_,⟨hp.hr.agree,?_,?_,?_,?_,?_,?_,?_⟩,?_,?_,?_,?_,h.glo⟩
 ·intro g o hg hm;rw[hp.ext g o (AD hg h.bw.size) (fun e=>hm ((hM0 g e).resolve_left (by omega)))];exact h.ext g o hg hm
 ·intro t;simp only[iZ hd',bB,lk];split
  ·exact hp.r
  ·exact PR.mono hp.le hle _ _ (h.env t)
 ·intro e cs hcs hi;simp only[bB,iF] at hcs;cases h1:aD O.bx e with
  |some c=>rw[h1] at hcs;cases hcs;exact hp.hr.box e _ h1 hi
  |none=>
   rw[h1] at hcs;have hr:(aD (jR σ.bx I.bx) e).isSome:=by simp only at hcs;rw[hcs];rfl
   obtain ⟨r1,r2,r3⟩:=hrest e hr;simp only at hcs;rw[r3] at hcs;obtain ⟨g,us,T,e1,e3,e0,e4,e5,e6⟩:=h.hr.box e cs hcs hi;obtain ⟨f1,f2⟩:=hbfree e g _ hr e1;exact ⟨g,us,T,hle _ _ e1,by rw[hp.bw.block g f1 f2];exact e3,e0,aa.mono hp.le hle _ _ e4,e5,fun o=>by rw[hp.ext g o f1 f2];exact e6 o⟩
 ·intro e cs hcs hi;simp only[bB,iF] at hcs;cases h1:aD O.bx e with
  |some c=>rw[h1] at hcs;cases hcs;exact hp.hr.its e _ h1 hi
  |none=>
   rw[h1] at hcs;have hr:(aD (jR σ.bx I.bx) e).isSome:=by simp only at hcs;rw[hcs];rfl
   obtain ⟨r1,r2,r3⟩:=hrest e hr;simp only at hcs;rw[r3] at hcs;obtain ⟨g,z,ob,e1,e2,e3,e6⟩:=h.hr.its e cs hcs hi;obtain ⟨f1,f2⟩:=hbfree e g z hr e1;exact ⟨g,z,ob,hle _ _ e1,e2,by rw[hp.bw.block g f1 f2];exact e3,fun o=>by rw[hp.ext g o f1 f2];exact e6 o⟩
 ·intro e e' g z z' i1 i2 g1 g2;rcases hboth e i1 with j1|⟨_,j1⟩
  ·rcases hboth e' i2 with j2|⟨_,j2⟩
   ·exact hp.hr.inj e e' g z z' j1 j2 g1 g2
   ·exfalso;obtain ⟨f1,f2⟩:=hbfree e' g z' j2 (hrg e' g z' j2 g2);rcases hp.newb e g z j1 g1 with h1|h1
    ·omega
    ·exact f2 h1
  ·rcases hboth e' i2 with j2|⟨_,j2⟩
   ·exfalso;obtain ⟨f1,f2⟩:=hbfree e g z j1 (hrg e g z j1 g1);rcases hp.newb e' g z' j2 g2 with h1|h1
    ·omega
    ·exact f2 h1
   ·exact h.hr.inj e e' g z z' (hrest e j1).1 (hrest e' j2).1 (hrg e g z j1 g1) (hrg e' g z' j2 g2)
 ·intro p k hk;rcases hmix p k hk with ⟨q,b1,b2,b3⟩|h1
  ·rw[jX b1 hd' b2];exact hp.hr.own q k b3
  ·rw[hkv p k h1];have h2:=(hkeep p k h1).2.1;exact (h.hr.own p k h2).mono (fun g hg=>hp.bw.block g (hkfree p k g h1 hg).1 (hkfree p k g h1 hg).2) (fun g o hg hn=>by rw[hp.ext g o (hkfree p k g h1 hg).1 (hkfree p k g h1 hg).2];exact hn)
 ·intro p q k l b hk hl g1 g2;rcases hmix p k hk with ⟨p',b1,b2,b3⟩|h1
  ·rw[jX b1 hd' b2] at g1;rcases hmix q l hl with ⟨q',c1,c2,c3⟩|h2
   ·rw[jX c1 hd' c2] at g2;have e:=hp.hr.ownd p' q' k l b b3 c3 g1 g2;subst e;cases p with
    |s j=>
     cases p' with
     |s j'=>
      cases q with
      |s j2=>
       rcases b2 with b2|⟨_,_,b2⟩
       ·rcases c2 with c2|⟨_,_,c2⟩
        ·simp[Pl.at] at b2 c2;rw[b2,c2]
        ·cases c2
       ·cases b2
      |t _ _=>exact c1.elim
      |b _ _=>exact c1.elim
     |t _ _=>exact b1.elim
     |b _ _=>exact b1.elim
    |t j i=>
     cases p' with
     |t j' i'=>
      cases q with
      |t j2 i2=>
       rcases b2 with b2|⟨_,_,b2⟩
       ·rcases c2 with c2|⟨_,_,c2⟩
        ·simp[Pl.at] at b2 c2;simp only[back] at b1 c1;rw[b2,c2,b1,c1]
        ·cases c2
       ·cases b2
      |s _=>exact c1.elim
      |b _ _=>exact c1.elim
     |s _=>exact b1.elim
     |b _ _=>exact b1.elim
    |b e o=>
     cases p' with
     |b e' o'=>
      cases q with
      |b e2 o2=>simp only[back] at b1 c1;rw[b1.1,b1.2,c1.1,c1.2]
      |s _=>exact c1.elim
      |t _ _=>exact c1.elim
     |s _=>exact b1.elim
     |t _ _=>exact b1.elim
   ·rw[hkv q l h2] at g2;exfalso;obtain ⟨f1,f2⟩:=hkfree q l b h2 g2;rcases hp.newo p' k b b3 g1 with e|e
    ·omega
    ·exact f2 e
  ·rw[hkv p k h1] at g1;rcases hmix q l hl with ⟨q',c1,c2,c3⟩|h2
   ·rw[jX c1 hd' c2] at g2;exfalso;obtain ⟨f1,f2⟩:=hkfree p k b h1 g1;rcases hp.newo q' l b c3 g2 with e|e
    ·omega
    ·exact f2 e
   ·rw[hkv q l h2] at g2;exact h.hr.ownd p q k l b (hkeep p k h1).2.1 (hkeep q l h2).2.1 g1 g2
 ·intro p k b e z hk g1 he hg;rcases hmix p k hk with ⟨p',b1,b2,b3⟩|h1
  ·rw[jX b1 hd' b2] at g1;rcases hboth e he with j1|⟨_,j1⟩
   ·exact hp.hr.ownb p' k b e z b3 g1 j1 hg
   ·obtain ⟨f1,f2⟩:=hbfree e b z j1 (hrg e b z j1 hg);rcases hp.newo p' k b b3 g1 with q|q
    ·omega
    ·exact f2 q
  ·rw[hkv p k h1] at g1;obtain ⟨f1,f2⟩:=hkfree p k b h1 g1;rcases hboth e he with j1|⟨_,j1⟩
   ·rcases hp.newb e b z j1 hg with q|q
    ·omega
    ·exact f2 q
   ·exact h.hr.ownb p k b e z (hkeep p k h1).2.1 g1 (hrest e j1).1 (hrg e b z j1 hg)
 ·intro e o k hk;rcases hmix _ k hk with ⟨p',b1,b2,b3⟩|h1
  ·cases p' with
   |b e' o'=>
    simp only[back] at b1;obtain ⟨rfl,rfl⟩:=b1;obtain ⟨q1,q2⟩:=hp.hr.pmb e o k b3;refine ⟨?_,q2⟩;simp only[bB,iF];obtain ⟨cs,hcs⟩:=jp.1 q1;rw[hcs];rfl
   |s _=>exact b1.elim
   |t _ _=>exact b1.elim
  ·have hr:=hkb e o k h1;refine ⟨?_,(h.hr.pmb e o k (hkeep _ k h1).2.1).2⟩;simp only[bB,iF];cases h2:aD O.bx e with
   |some c=>rfl
   |none=>exact hr
 ·intro e g z he hg;rcases hboth e he with j1|⟨_,j1⟩
  ·rcases hp.newb e g z j1 hg with q|q
   ·exact .inl (mu h.bw.size q)
   ·exact hM0 g q
  ·exact h.newb e g z (hrest e j1).1 (hrg e g z j1 hg)
 ·intro p k g hk hg;rcases hmix p k hk with ⟨p',b1,b2,b3⟩|h1
  ·rw[jX b1 hd' b2] at hg;rcases hp.newo p' k g b3 hg with q|q
   ·exact .inl (mu h.bw.size q)
   ·exact hM0 g q
  ·rw[hkv p k h1] at hg;exact h.newo p k g (hkeep p k h1).2.1 hg
 ·intro e he;have hin: ∀e,(aD O.bx e).isSome->(aD (bB d σ xs I O).bx e).isSome:=by
   intro e h1;simp only[bB,iF];obtain ⟨cs,hcs⟩:=jp.1 h1;rw[hcs];rfl
  cases hnw:e.isNw dn with
  |true=>exact .inl (hin e (hp.nw e hnw he))
  |false=>
   rw[hp.same e hnw] at he;rcases h.dom e he with h1|h1
   ·left;cases h2:aD I.bx e with
    |some c=>exact hin e (hc.kept _ (cF _ _ _ h2))
    |none=>
     simp only[bB,iF];cases h3:aD O.bx e with
     |some c=>rfl
     |none=>
      simp only[];rw[jW,h2];exact h1
   ·exact .inr h1
 ·intro e;rw[hp.same (.up e) rfl];exact h.up e
end Go.Ai
namespace Go.Ai
open Go.RowKit
variable {P:Program} {F:Fr} {S:aR} {gb:Gb} {σ:St} {a:Act} {w:World}

theorem l9 (l:List (Nat×AV)) (b:Id) (t:Nat):lk (qv l b) t=if b∈(lk l t).ids then .undef else lk l t:=by
 induction l with
 |nil=>simp[qv,lk,AV.ids]
 |cons x r ih=>
  obtain ⟨k,v⟩:=x;simp only[qv,fZ,lk] at ih ⊢;split
  ·rfl
  ·exact ih
def o9 (b d:Id):Pl->Pl->Prop
 | .b e o,q=>(e=d/\q= .b b o)\/(e≠b/\q= .b e o)
 |p,q=>q=p
theorem JK (l:List (Pl×Nat)) (b d:Id) (p:Pl) (k:Nat) (h:aH (FM l b d) p=some k): ∃q,aH l q=some k/\o9 b d p q:=by
 induction l with
 |nil=>simp[FM,aH] at h
 |cons x r ih=>
  obtain ⟨y,k0⟩:=x;cases y with
  |s t=>
   simp only[FM,aH] at h;split at h
   ·rename_i e;subst e;exact ⟨.s t,by simp only[aH,if_true];exact h,rfl⟩
   ·rename_i hne;obtain ⟨q,h1,h2⟩:=ih h;refine ⟨q,?_,h2⟩;simp only[aH];rw[if_neg]
    ·exact h1
    ·intro e;subst e;cases p with
     |s t'=>simp only[o9] at h2;exact hne h2
     |t _ _=>simp only[o9] at h2;cases h2
     |b _ _=>simp only[o9] at h2;rcases h2 with ⟨_,h2⟩|⟨_,h2⟩<;>cases h2
  |t t i=>
   simp only[FM,aH] at h;split at h
   ·rename_i e;subst e;exact ⟨.t t i,by simp only[aH,if_true];exact h,rfl⟩
   ·rename_i hne;obtain ⟨q,h1,h2⟩:=ih h;refine ⟨q,?_,h2⟩;simp only[aH];rw[if_neg]
    ·exact h1
    ·intro e;subst e;cases p with
     |t _ _=>simp only[o9] at h2;exact hne h2
     |s _=>simp only[o9] at h2;cases h2
     |b _ _=>simp only[o9] at h2;rcases h2 with ⟨_,h2⟩|⟨_,h2⟩<;>cases h2
  |b e o=>
   simp only[FM,aH] at h;by_cases e1:Pl.b (if e=b then d else e) o=p
   ·rw[if_pos e1] at h;subst e1;refine ⟨.b e o,by simp only[aH,if_true];exact h,?_⟩;by_cases he:e=b
    ·subst he;rw[if_pos rfl];exact .inl ⟨rfl,rfl⟩
    ·rw[if_neg he];exact .inr ⟨he,rfl⟩
   ·rw[if_neg e1] at h;obtain ⟨q,h1,h2⟩:=ih h;refine ⟨q,?_,h2⟩;simp only[aH];rw[if_neg]
    ·exact h1
    ·intro e2;subst e2;cases p with
     |s _=>simp only[o9] at h2;cases h2
     |t _ _=>simp only[o9] at h2;cases h2
     |b e' o'=>
      simp only[o9] at h2;rcases h2 with ⟨rfl,h2⟩|⟨h3,h2⟩
      ·cases h2;exact e1 (by rw[if_pos rfl])
      ·cases h2;exact e1 (by rw[if_neg h3])

theorem aN.swap (h:aN F S gb σ a w) {b:Id} {d:Nat} (hd:d<F.N) {cs:List AV} (hb:aD σ.bx b=some cs) (hbu:b.isUp=false) (hit:b.isIt=false) {g:Nat} {us:Array Value} {T:TypeId} (hg:gb b=some (g,⟨us.size,T⟩)) (hcells:w.heap[g]?=some (.cells us T (0,0))) (hSg: ∀o,S g o=none)
  (hno1: ∀p∈kA σ.bx b,b∉bm p.2) (hno2:b∉bm cs) (hnd:aD (kA σ.bx b) (.n d)=none) (hcu:aa S gb cs (us.toList.take cs.length)) (hcl:cs.length<=us.size)
  {w':World} {g':Nat} {us':Array Value} {T':TypeId} (hw':w'.heap[g']?=some (.cells us' T' (0,0))) (hbw: ∀k,k<w.heap.size->k≠g'->w'.heap[k]?=w.heap[k]?) (hg':g'=g\/w.heap.size<=g') (hsz:w.heap.size<=w'.heap.size)
  (hos:w'.os=w.os) (htp:w'.tape=w.tape) (hou:w'.output=w.output)
  {ns:List AV} {nus:List Value} (hns: ∀gb':Gb,(∀v u,b∉bm v->aa S gb v u->aa S gb' v u)->aa S gb' ns nus) (htake:us'.toList.take (cs++ns).length=us.toList.take cs.length++nus) (hlen:(cs++ns).length<=us'.size) (hone: ∀u∈us'.toList,u.oneCell'=true)
  (hpo: ∀o k,aH σ.pm (.b b o)=some k->o<cs.length) {n' cap' sz:Nat} (hn':n'<=cap') (hcap:cap'<=maxLen) (hfit:cap'*sz<=us'.size):
  ∃gb',aN F S gb' ⟨(d,.ms (.n d) 0 n' sz)::qv σ.e b,(.n d,cs++ns)::kA σ.bx b,FM (gV σ.pm d) b (.n d)⟩ (a.put (some d) (.slice (some ⟨g',0,none⟩) n' cap')) w':=by
 have hd':d<a.tmps.size:=by rw[h.size];exact hd
 let gb':Gb:=fun i=>if i= .n d then some (g',⟨us'.size,T'⟩) else if i=b then none else gb i
 have hS': ∀o,S g' o=none:=by
  intro o;rcases hg' with rfl|hg'
  ·exact hSg o
  ·exact h.fresh hg'
 have hoth: ∀i,i≠b->i≠ .n d->gb' i=gb i:=fun i h1 h2=>by simp only[gb',if_neg h1,if_neg h2]
 have hrm: ∀i,(aD (kA σ.bx b) i).isSome->i≠b/\i≠ .n d/\aD (kA σ.bx b) i=aD σ.bx i:=by
  intro i hi;have h2:i≠ .n d:=fun e=>by subst e;rw[hnd] at hi;cases hi
  rw[gM] at hi ⊢;by_cases e:b=i
  ·rw[if_pos e] at hi;cases hi
  ·rw[if_neg e] at hi ⊢;exact ⟨fun e'=>e e'.symm,h2,rfl⟩
 have hlive:gb (.n d)=none\/b= .n d:=by
  cases hq:gb (.n d) with
  |none=>exact .inl rfl
  |some x=>
   right;rcases h.dom (.n d) (by rw[hq];simp) with h1|h1
   ·have:aD (kA σ.bx b) (.n d)=if b= .n d then none else aD σ.bx (.n d):=gM _ _ _
    rw[hnd] at this;split at this
    ·assumption
    ·rw[<-this] at h1;cases h1
   ·cases h1
 have hpr: ∀(v:AV) (u:Value),b∉v.ids->PR S gb v u->PR S gb' v u:=by
  intro v u hv hp;have h1:PR S (fun i=>if i=b then none else gb i) v u:=PR.restr v u (fun i hi=>by
   have:i≠b:=fun e=>hv (e▸hi)
   simp only[if_neg this]) hp
  refine PR.mono (aR.le.refl _) (fun i x hx=>?_) v u h1;split at hx
  ·cases hx
  ·rename_i hne
   have:i≠ .n d:=by
    intro e;subst e;rcases hlive with h2|h2
    ·rw[h2] at hx;cases hx
    ·exact hne h2.symm
   rw[hoth i hne this];exact hx
 have hprL: ∀(v:List AV) (u:List Value),b∉bm v->aa S gb v u->aa S gb' v u:=by
  intro v;induction v with
  |nil=>intro u _ hp;simpa[aa] using hp
  |cons c r ih=>
   intro u hv hp;simp only[bm,jD,not_or] at hv;simp only[aa] at hp ⊢;obtain ⟨u1,us1,rfl,p1,p2⟩:=hp;exact ⟨u1,us1,rfl,hpr _ _ hv.1 p1,ih _ hv.2 p2⟩
 have hblk: ∀i g1 z1,(aD (kA σ.bx b) i).isSome->gb i=some (g1,z1)->g1<w.heap.size/\g1≠g':=by
  intro i g1 z1 hi hq;obtain ⟨h1,h2,h3⟩:=hrm i hi;rw[h3] at hi;have hlt:=h.gblt hi hq;refine ⟨hlt,fun e=>?_⟩;rcases hg' with e2|e2
  ·exact h1 (h.hr.inj i b g z1 _ hi (by simp[hb]) (by rw[hq,e,e2]) hg)
  ·omega
 have hnewg:F.w0.heap.size<=g'\/F.M g':=by
  rcases hg' with rfl|hg'
  ·exact h.newb b _ _ (by simp[hb]) hg
  ·exact .inl (mu h.bw.size hg')
 have hpl: ∀p k,aH (FM (gV σ.pm d) b (.n d)) p=some k-> ∃q,aH σ.pm q=some k/\q.at d=false/\ct gb' (tv (a.put (some d) (.slice (some ⟨g',0,none⟩) n' cap'))) w' p=ct gb (tv a) w q/\
   ((∃o,p= .b (.n d) o/\q= .b b o)\/(p=q/\ ∀e o,p= .b e o->e≠b/\(aD (kA σ.bx b) e).isSome)):=by
  intro p k hk;obtain ⟨q,h1,h2⟩:=JK _ _ _ _ _ hk;rw[gJ] at h1;split at h1
  ·cases h1
  ·rename_i hat;have hat:q.at d=false:=by simpa using hat
   cases p with
   |s t=>simp only[o9] at h2;subst h2;exact ⟨_,h1,hat,by rw[cU hd' hat];rfl,.inr ⟨rfl,fun e o he=>by cases he⟩⟩
   |t t i=>simp only[o9] at h2;subst h2;exact ⟨_,h1,hat,by rw[cU hd' hat];rfl,.inr ⟨rfl,fun e o he=>by cases he⟩⟩
   |b e o=>
    simp only[o9] at h2;rcases h2 with ⟨rfl,rfl⟩|⟨hne,rfl⟩
    ·refine ⟨_,h1,hat,?_,.inl ⟨o,rfl,rfl⟩⟩;have hown:=h.hr.own _ _ h1;simp only[ct,gb',if_true,hg];rw[cell_of_row w' g' o us' T' _ hw',cell_of_row w g o us T _ hcells];have ho:o<cs.length:=hpo o k h1;have e1:us'.toList[o]?=us.toList[o]?:=by
      have e2:(us'.toList.take (cs++ns).length)[o]?=(us.toList.take cs.length++nus)[o]?:=by rw[htake]
      rw[qr,if_pos (by simp;omega),List.getElem?_append_left (by simp;omega),qr,if_pos ho] at e2;exact e2
     simp only[Array.getElem?_toList] at e1;rw[e1]
    ·have hbo:=(h.hr.pmb e o k h1).1;have hbr:(aD (kA σ.bx b) e).isSome:=by rw[gM,if_neg (fun e'=>hne e'.symm)];exact hbo
     obtain ⟨r1,r2,_⟩:=hrm e hbr;refine ⟨_,h1,hat,?_,.inr ⟨rfl,fun e' o' he=>by cases he;exact ⟨hne,hbr⟩⟩⟩;simp only[ct,hoth e r1 r2];cases hq:gb e with
     |none=>rfl
     |some x=>
      obtain ⟨g1,z1⟩:=x;obtain ⟨f1,f2⟩:=hblk e g1 z1 hbr hq;simp only[];rw[World.cell?_of_block (w:=w) (hbw g1 f1 f2)]
 have hownb: ∀q k g1,aH σ.pm q=some k->(ct gb (tv a) w q).ownBlock=some g1->g1<w.heap.size/\g1≠g':=by
  intro q k g1 hq hg1;have hlt:=h.plvlt hq hg1;refine ⟨hlt,fun e=>?_⟩;rcases hg' with e2|e2
  ·exact h.hr.ownb q k g1 b _ hq hg1 (by simp[hb]) (by rw[hg,e,e2])
  ·omega
 refine ⟨gb',h.defers,by simp[Act.put,h.size],?_,h.ext,h.le,?_,⟨?_,?_,?_,?_,?_,?_,?_,?_⟩,?_,?_,?_,?_,h.glo⟩
 ·refine ⟨hos.trans h.bw.os,htp.trans h.bw.tape,hou.trans h.bw.output,mu h.bw.size hsz,fun k hk hm=>?_⟩;rw[hbw k (AD hk h.bw.size) (fun e=>by subst e;rcases hnewg with h1|h1;omega;exact hm h1)];exact h.bw.block k hk hm
 ·intro t;simp only[iZ hd',lk];split
  ·simp only[PR];exact ⟨g',⟨us'.size,T'⟩,cap',by simp[gb'],rfl,rfl,hn',hcap,by simpa using hfit⟩
  ·rw[l9];split
   ·simp[PR]
   ·rename_i hne;exact hpr _ _ hne (h.env t)
 ·intro g1 o v hs;have hne:g1≠g':=fun e=>by subst e;rw[hS'] at hs;cases hs
  have hlt:g1<w.heap.size:=by have:=World.block_lt_of_cell? w _ (h.hr.agree _ _ _ hs);simpa using this
  rw[World.cell?_of_block (w:=w) (hbw g1 hlt hne)];exact h.hr.agree _ _ _ hs
 ·intro e cs1 hcs1 hi;simp only[aD] at hcs1;split at hcs1
  ·rename_i e1;subst e1;cases hcs1;refine ⟨g',us',T',by simp[gb'],hw',hlen,?_,hone,hS'⟩;rw[htake];exact (hprL _ _ hno2 hcu).append (hns _ hprL)
  ·have hr:(aD (kA σ.bx b) e).isSome:=by rw[hcs1];rfl
   obtain ⟨r1,r2,r3⟩:=hrm e hr;have hm:=cF _ _ _ hcs1;rw[r3] at hcs1;obtain ⟨g1,us1,T1,e1,e3,e0,e4,e5,e6⟩:=h.hr.box e cs1 hcs1 hi;obtain ⟨f1,f2⟩:=hblk e g1 _ hr e1;exact ⟨g1,us1,T1,by rw[hoth e r1 r2];exact e1,by rw[hbw g1 f1 f2];exact e3,e0,hprL _ _ (hno1 _ hm) e4,e5,e6⟩
 ·intro e cs1 hcs1 hi;simp only[aD] at hcs1;split at hcs1
  ·rename_i e1;subst e1;cases hi
  ·have hr:(aD (kA σ.bx b) e).isSome:=by rw[hcs1];rfl
   obtain ⟨r1,r2,r3⟩:=hrm e hr;rw[r3] at hcs1;obtain ⟨g1,z1,ob,e1,e2,e3,e6⟩:=h.hr.its e cs1 hcs1 hi;obtain ⟨f1,f2⟩:=hblk e g1 z1 hr e1;exact ⟨g1,z1,ob,by rw[hoth e r1 r2];exact e1,e2,by rw[hbw g1 f1 f2];exact e3,e6⟩
 ·intro d1 d2 g1 z1 z2 i1 i2 q1 q2;simp only[aD] at i1 i2;by_cases e1:Id.n d=d1
  ·by_cases e2:Id.n d=d2
   ·rw[<-e1,<-e2]
   ·exfalso;rw[if_neg e2] at i2;obtain ⟨r1,r2,_⟩:=hrm d2 i2;rw[hoth d2 r1 r2] at q2
    have:gb' d1=some (g',⟨us'.size,T'⟩):=by simp[gb',<-e1]
    rw[this] at q1;cases q1;exact (hblk d2 g' z2 i2 q2).2 rfl
  ·rw[if_neg e1] at i1;obtain ⟨r1,r2,r3⟩:=hrm d1 i1;rw[hoth d1 r1 r2] at q1;by_cases e2:Id.n d=d2
   ·exfalso
    have:gb' d2=some (g',⟨us'.size,T'⟩):=by simp[gb',<-e2]
    rw[this] at q2;cases q2;exact (hblk d1 g' z1 i1 q1).2 rfl
   ·rw[if_neg e2] at i2;obtain ⟨s1,s2,s3⟩:=hrm d2 i2;rw[hoth d2 s1 s2] at q2;rw[r3] at i1;rw[s3] at i2;exact h.hr.inj d1 d2 g1 z1 z2 i1 i2 q1 q2
 ·intro p k hk;obtain ⟨q,q1,_,q2,_⟩:=hpl p k hk;rw[q2];exact (h.hr.own q k q1).mono (fun g1 hg1=>hbw g1 (hownb q k g1 q1 hg1).1 (hownb q k g1 q1 hg1).2) (fun _ _ _ hn=>hn)
 ·intro p1 p2 k l c hk hl c1 c2;obtain ⟨q1,r1,_,v1,s1⟩:=hpl p1 k hk;obtain ⟨q2,r2,_,v2,s2⟩:=hpl p2 l hl;rw[v1] at c1;rw[v2] at c2;have e:=h.hr.ownd q1 q2 k l c r1 r2 c1 c2;rcases s1 with ⟨o1,rfl,rfl⟩|⟨rfl,t1⟩
  ·rcases s2 with ⟨o2,rfl,rfl⟩|⟨rfl,t2⟩
   ·cases e;rfl
   ·exact absurd rfl (t2 b o1 e.symm).1
  ·rcases s2 with ⟨o2,rfl,rfl⟩|⟨rfl,t2⟩
   ·exact absurd rfl (t1 b o2 e).1
   ·exact e
 ·intro p k c e z1 hk c1 he;obtain ⟨q,r1,_,v1,_⟩:=hpl p k hk;rw[v1] at c1;simp only[aD] at he;by_cases e1:Id.n d=e
  ·have:gb' e=some (g',⟨us'.size,T'⟩):=by simp[gb',<-e1]
   rw[this];intro e2;cases e2;exact (hownb q k _ r1 c1).2 rfl
  ·rw[if_neg e1] at he;obtain ⟨s1,s2,s3⟩:=hrm e he;rw[hoth e s1 s2];rw[s3] at he;exact h.hr.ownb q k c e z1 r1 c1 he
 ·intro e o k hk;obtain ⟨q,r1,_,_,s1⟩:=hpl _ k hk;rcases s1 with ⟨o1,e1,rfl⟩|⟨rfl,t1⟩
  ·cases e1;exact ⟨by simp[aD],rfl⟩
  ·refine ⟨?_,(h.hr.pmb e o k r1).2⟩;simp only[aD];split
   ·rfl
   ·exact (t1 e o rfl).2
 ·intro e g1 z1 he hq;simp only[aD] at he;by_cases e1:Id.n d=e
  ·have:gb' e=some (g',⟨us'.size,T'⟩):=by simp[gb',<-e1]
   rw[this] at hq;cases hq;exact hnewg
  ·rw[if_neg e1] at he;obtain ⟨s1,s2,s3⟩:=hrm e he;rw[hoth e s1 s2] at hq;rw[s3] at he;exact h.newb e g1 z1 he hq
 ·intro p k g1 hk hg1;obtain ⟨q,r1,_,v1,_⟩:=hpl p k hk;rw[v1] at hg1;exact h.newo q k g1 r1 hg1
 ·intro e he;simp only[aD];by_cases e1:Id.n d=e
  ·exact .inl (by rw[if_pos e1];rfl)
  ·rw[if_neg e1];by_cases e2:e=b
   ·exfalso;apply he;simp only[gb'];rw[if_neg (fun q=>e1 q.symm),if_pos e2]
   ·rw[hoth e e2 (fun q=>e1 q.symm)] at he;rcases h.dom e he with h1|h1
    ·left;rw[gM,if_neg (fun q=>e2 q.symm)];exact h1
    ·exact .inr h1
 ·intro e;have h1:Id.up e≠b:=fun q=>by rw[<-q] at hbu;cases hbu
  rw[hoth (.up e) h1 (fun q=>by cases q)];exact h.up e
end Go.Ai
