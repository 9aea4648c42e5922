/- Lib7: a part of the proof: the rules, or what functions compute. Conditions: as each theorem says. -/
import Derived.Test.YtggemlhclppciaaGreatDoorLib6
import Derived.Test.YtggemlhclppciaaGreatDoorLib5
set_option linter.unusedSimpArgs false
set_option linter.unusedVariables false
namespace Go.Ai
open Go.RowKit
variable {P:Program} {F:Fr} {S:Mem} {gb:Gb} {σ:St} {a:Act} {w:World} {ops:Array Oper}
inductive AppR (P:Program) (w:World) (e:TypeId) (z:Value) (sz:Nat) (us:List Value) (m:Nat):Value→Value→World→Prop
 |grow {base:Option Addr} {n cap:Nat} {olds:List Value}:cap<n+m→olds.length=n*sz→(Builtin.firstCells sz n (.slice base n cap)).run P w.drew= .ok olds.toArray w.drew→
   AppR P w e z sz us m (.slice base n cap) (.slice (some ⟨w.heap.size,0,none⟩) (n+m) (grownCap w (n+m) cap e)) (w.drew.alloc (.cells ((olds++us).toArray++Builtin.zeroCells z.cells (grownCap w (n+m) cap e - (n+m))) e))
 |room {g n cap:Nat} {cur:Array Value} {T:TypeId}:n+m≤cap→w.heap[g]?=some (.cells cur T (0,0))→n*sz+us.length≤cur.size→
   AppR P w e z sz us m (.slice (some ⟨g,0,none⟩) n cap) (.slice (some ⟨g,0,none⟩) (n+m) cap) (w.setRow g (cur.toList.take (n*sz)++us++cur.toList.drop (n*sz+us.length)).toArray)
theorem app_rel (h:Rel F S gb σ a w) {d:Nat} (hd:d<F.N) {e:TypeId} {i:TypeInfo} {z:Value} {sz by_:Nat} (hi:P.info? e=some i) (hz:i.zero=some z)
  (hsz:i.size=sz) (hkb:sz<KB) (hby:i.bytes=by_) (hzs:z.cells.size=sz) (h0:0<sz) (hb0:0<by_) {news rows:List (List AV)} {sv:Value} {τ:St} (hτ:Rel F S gb τ a w) (hne:news≠[])
  {us:List Value} (u1:us.length=news.length*sz) (u2:PRlist S gb0 news.flatten us) (u3: ∀u∈us,u.oneCell'=true) (hl: ∀r∈news,r.length=sz) (hrl: ∀r∈rows,r.length=sz) (hs:PR S gb (.sl rows) sv) (ho:OwnR S w sz sv) (hnew: ∀g,sv.ownBlock=some g→F.w0.heap.size≤g∨F.M g)
  (hq: ∀p l b,lkP τ.pm p=some l→(plv gb (tv a) w p).ownBlock=some b→sv.ownBlock≠some b) (hqb: ∀b d' z,sv.ownBlock=some b→(lkB τ.bx d').isSome→gb d'≠some (b,z))
  (hlim:(rows.length+news.length)*by_≤lim):
  ∃u w' S',AppR P w e z sz us news.length sv u w'∧Rel F S' gb (τ.puto d (.sl (rows++news)) sz) (a.put (some d) u) w':=by
 have hsmall:rows.length+news.length≤9223372036854775807:=by
  have:rows.length+news.length≤(rows.length+news.length)*by_:=Nat.le_mul_of_pos_right _ hb0
  unfold lim at hlim;omega
 have hcapm: ∀c,c≤maxLen→grownCap w (rows.length+news.length) c e≤maxLen:=fun c _=>grownCap_le_maxLen w _ _ _ (by unfold maxLen;omega)
 subst hsz;subst hby
 have grow: ∀(base:Option Addr) (n cap:Nat) (olds:List Value),sv= .slice base n cap→n=rows.length→cap<n+news.length→
   (Builtin.firstCells i.size n (.slice base n cap)).run P w.drew= .ok olds.toArray w.drew→PRlist S gb0 rows.flatten olds→(∀u∈olds,u.oneCell'=true)→(∀r∈rows,r.length=i.size)→
   ∃u w' S',AppR P w e z i.size us news.length sv u w'∧Rel F S' gb (τ.puto d (.sl (rows++news)) i.size) (a.put (some d) u) w':=by
  intro base n cap olds hsv hn hcap hfo ol o1 orow
  subst hsv;subst hn
  have hrun:AppR P w e z i.size us news.length (.slice base rows.length cap) _ _:= .grow hcap (by rw [←ol.length,flatten_length orow]) hfo
  have hge:=grownCap_ge w (rows.length+news.length) cap e
  have hrl: ∀r∈rows++news,r.length=i.size:=by
   intro r hr;rcases List.mem_append.1 hr with hr|hr
   ·exact orow r hr
   ·exact hl r hr
  have hlen:(olds++us).length=(rows.length+news.length)*i.size:=by
   rw [List.length_append,←ol.length,flatten_length orow,u1,Nat.add_mul]
  obtain ⟨S',hr'⟩:=(hτ.drew).newOwn hd ((olds++us).toArray++Builtin.zeroCells z.cells (grownCap w (rows.length+news.length) cap e - (rows.length+news.length))) e (rows:=rows++news) (us:=olds++us) (k:=i.size)
   (cap:=grownCap w (rows.length+news.length) cap e) hkb hrl (by rw [List.flatten_append];exact ol.append u2) (by
    intro u hu;rcases List.mem_append.1 hu with hu|hu
    ·exact o1 u hu
    ·exact u3 u hu) (by rw [Array.toList_append];exact List.take_left) (by
    refine Nat.le_of_eq (Eq.symm ?_)
    rw [Array.size_append,size_zeroCells,hzs,List.size_toArray,hlen,←Nat.add_mul];congr 1;omega) (by simpa using hge) (grownCap_le_maxLen w _ _ _ (by unfold maxLen;omega))
  refine ⟨_,_,S',hrun,?_⟩
  simpa using hr'
 simp only [PR] at hs
 rcases ho with rfl|⟨_,g,n,cap,cur,T,rfl,hcells,hncap,hcm,hcs,hun⟩|⟨hkb2,_⟩
 ·
  have hrows:rows=[]:=by
   rcases hs with ⟨_,hs⟩|⟨_,_,_,hs,_⟩
   ·exact hs
   ·cases hs
  subst hrows
  ·have hpos:0<news.length:=List.length_pos_iff.2 hne
   exact grow none 0 0 [] rfl rfl (by simpa using hpos) (by simp [Builtin.firstCells]) (by simp [PRlist]) (by simp) (by simp)
 ·have hn:n=rows.length∧PRrows S i.size rows g 0:=by
   rcases hs with ⟨hs,_⟩|⟨ad,cap',k',hs,_,hr⟩
   ·cases hs
   ·cases hs
    refine ⟨rfl,?_⟩
    rcases hr with hr|⟨_,hr⟩
    ·subst hr;simp [PRrows]
    ·exact PRrows.flat.2 ⟨hrl,(PRrows.flat.1 hr).2⟩
  obtain ⟨rfl,hr⟩:=hn
  obtain ⟨_,hrc⟩:=PRrows.flat.1 hr
  obtain ⟨olds,o1,o2,o3,o4⟩:=hrc.list
  simp only [Nat.zero_add] at o2
  have olen:olds.length=rows.length*i.size:=by rw [o1,flatten_length hrl]
  have ocell: ∀(j:Nat) (u:Value),olds[j]?=some u→cur[j]?=some u:=by
   intro j u hu
   have:=h.hr.agree _ _ _ (o2 j u hu)
   rwa [cell_of_row w g j cur T _ hcells] at this
  have otake:cur.toList.take (rows.length*i.size)=olds:=by
   apply List.ext_getElem?
   intro j
   rw [List.getElem?_take]
   split
   ·rename_i hj
    have hj2:j<olds.length:=by omega
    rw [List.getElem?_eq_getElem hj2]
    have:=ocell j _ (List.getElem?_eq_getElem hj2)
    simpa using this
   ·rename_i hj
    rw [List.getElem?_eq_none (by omega)]
  by_cases hroom:rows.length+news.length≤cap
  ·
   have hfitc:rows.length*i.size+us.length≤cur.size:=by rw [u1,←Nat.add_mul];exact Nat.le_trans (Nat.mul_le_mul_right _ hroom) hcs
   have hrun:AppR P w e z i.size us news.length (.slice (some ⟨g,0,none⟩) rows.length cap) _ _:= .room hroom hcells hfitc
   generalize hcur':(cur.toList.take (rows.length*i.size)++us++cur.toList.drop (rows.length*i.size+us.length)).toArray=cur' at hrun
   have hheap:(w.setRow g cur').heap[g]?=some (.cells cur' T (0,0)):=setRow_heap w g cur _ T _ hcells
   have hnewcell: ∀(j:Nat) (u:Value),(olds++us)[j]?=some u→cur'[j]?=some u:=by
    intro j u hu
    rw [←hcur',otake]
    simp only [List.getElem?_toArray]
    rw [List.getElem?_append_left]
    ·exact hu
    ·obtain ⟨hlt,_⟩:=List.getElem?_eq_some_iff.1 hu;exact hlt
   have hgS: ∀o v,S g o=some v→o<rows.length*i.size:=by
    intro o v hv
    rcases Nat.lt_or_ge o (rows.length*i.size) with hlt|hge
    ·exact hlt
    ·rw [hun o hge] at hv;cases hv
   let S':Mem:=fun g' o=>if g'=g then (olds++us)[o]? else S g' o
   have hle:S.le S':=by
    intro g' o v hv
    simp only [S']
    split
    ·rename_i e;subst e
     have hlt:=hgS o v hv
     have h2:o<olds.length:=by omega
     rw [List.getElem?_append_left h2,List.getElem?_eq_getElem h2]
     have:=o2 o _ (List.getElem?_eq_getElem h2)
     rw [hv] at this
     simpa using this.symm
    ·exact hv
   have hτ':Rel F S' gb τ a (w.setRow g cur'):=by
    refine hτ.off (hnew g rfl) (fun d' z hd'=>hqb g d' z rfl hd') (fun p l hl2 hb2=>hq p l g hl2 hb2 rfl) (fun k hk=>setRow_other w g k _ hk) (by simp) rfl rfl rfl hle (fun g' o hg'=>by simp [S',hg']) ?_
    intro g' o v hv
    simp only [S'] at hv
    split at hv
    ·rename_i e;subst e
     rw [cell_of_row _ _ o cur' T _ hheap]
     exact hnewcell o v hv
    ·rename_i e
     rw [World.cell?_of_block (w:=w) (setRow_other w g g' _ e)]
     exact h.hr.agree _ _ _ hv
   refine ⟨_,_,S',hrun,hτ'.puto hd ?_ ?_ ?_ ?_ ?_⟩
   ·simp only [PR]
    refine .inr ⟨⟨g,0,none⟩,cap,i.size,by simp,by simpa using hroom,.inr ⟨rfl,?_⟩⟩
    rw [PRrows.flat]
    refine ⟨fun r hr'=>?_,?_⟩
    ·rcases List.mem_append.1 hr' with hr'|hr'
     ·exact hrl r hr'
     ·exact hl r hr'
    ·rw [List.flatten_append]
     refine PRcells.of_list (us:=olds++us) (PRlist.mono hle (Gb.le.refl _) _ _ (o4.append u2)) ?_ (fun j u hu=>by simpa [S'] using hu)
     intro u hu
     rcases List.mem_append.1 hu with hu|hu
     ·exact o3 u hu
     ·exact u3 u hu
   ·refine .inr (.inl ⟨hkb,g,rows.length+news.length,cap,cur',T,rfl,hheap,hroom,hcm,?_,fun o ho=>?_⟩)
    ·rw [←hcur']
     simp only [List.size_toArray,List.length_append,List.length_take,List.length_drop,Array.length_toList]
     omega
    ·simp only [S',if_true]
     apply List.getElem?_eq_none
     rw [List.length_append,olen,u1,←Nat.add_mul]
     exact ho
   ·intro b hb3
    simp only [Value.ownBlock,Option.some.injEq] at hb3
    subst hb3
    exact hnew g rfl
   ·intro p l b hl2 _ hb2 hb3
    simp only [Value.ownBlock,Option.some.injEq] at hb3
    subst hb3
    refine hq p l g hl2 ?_ rfl
    rw [←hτ.plv_same (w':=w.setRow g cur') (fun d' q z hd' hq2=>setRow_other w g q _ (fun e=>hqb g d' z rfl hd' (by rw [hq2,e]))) hl2];exact hb2
   ·intro b d' z hb3
    simp only [Value.ownBlock,Option.some.injEq] at hb3
    subst hb3
    exact hqb g d' z rfl
  ·refine grow _ _ cap olds rfl rfl (by omega) ?_ o4 o3 hrl
   have:=loadCells_at (P:=P) (w:=w.drew) (b:=g) (o:=0) (us:=olds) (fun j u hu=>by rw [Nat.zero_add];exact h.hr.agree _ _ _ (o2 j u hu))
   rw [olen] at this
   simp [Builtin.firstCells,this]
 ·exact absurd hkb2 (Nat.not_le.2 hkb)

theorem AppR.run {e:TypeId} {i:TypeInfo} {z:Value} {us:List Value} {m:Nat} {sv u yv:Value} {w':World} (h:AppR P w e z i.size us m sv u w') {t ty:TypeId} (ht:P.underlying t=some (.slice e)) (hi:P.info? e=some i) (hz:i.zero=some z)
  (h3: ∀v∈us,v.oneCell'=true) (hy:(Builtin.lenOf yv).run P w= .ok m w) (hf:(Builtin.firstCells i.size m yv).run P w= .ok us.toArray w) (hf':(Builtin.firstCells i.size m yv).run P w.drew= .ok us.toArray w.drew)
  (hlim: ∀b n c,sv= .slice b n c→(n+m)*i.bytes≤lim∧n+m≤9223372036854775807):(Builtin.append_ #[t,t] ty #[sv,yv]).run P w= .ok u w':=by
 cases h with
 | @grow base n cap olds hcap hl hfo=>
  obtain ⟨l1,l2⟩:=hlim _ _ _ rfl
  have hfit:=growslice_fits (need:=n+m) (old:=cap) (bytes:=i.bytes) hcap (by unfold lim at l1;exact l1)
  exact run_app_grow (P:=P) (w:=w) (ty:=ty) ht (.inl ht) hi hz hy hf' hfo hcap hfit l2
 | @room g n cap cur T hr hg hs=>
  have hst:=run_storeCells_at P g (n*i.size) T us 0 cur w hg (by simpa using hs) h3
  simp only [Nat.add_zero] at hst
  exact run_app_room (P:=P) (w:=w) (ty:=ty) ht (.inl ht) hi (base:=some ⟨g,0,none⟩) (n:=n) (cap:=cap) (us:=us) hy hf hr (fun b hb=>by
   cases hb;rw [Addr.add_lit,Nat.zero_add];exact hst) (fun hb=>by cases hb)
theorem setRow_alloc (w:World) (A B:Array Value) (e:TypeId):(w.alloc (.cells A e)).setRow w.heap.size B=w.alloc (.cells B e):=by
 unfold World.setRow World.alloc
 simp only
 congr 1
 apply Array.ext_getElem?
 intro k
 simp only [Array.getElem?_modify,Array.getElem?_push]
 by_cases hk:k=w.heap.size
 ·subst hk;simp
 ·simp [hk,Ne.symm hk]
theorem setRow_comm (w:World) (g k:Nat) (A B:Array Value) (h:g≠k):(w.setRow g A).setRow k B=(w.setRow k B).setRow g A:=by
 unfold World.setRow
 simp only
 congr 1
 apply Array.ext_getElem?
 intro j
 simp only [Array.getElem?_modify]
 by_cases h1:k=j
 ·subst h1
  simp [h]
 ·by_cases h2:g=j
  ·subst h2;simp [h1]
  ·simp [h1,h2]
theorem seg_put {α:Type} (A B C D:List α) (n:Nat) (hn:A.length=n) (h:B.length=C.length):(A++B++D).take n++C++(A++B++D).drop (n+C.length)=A++C++D:=by
 subst hn
 have h1:(A++B++D).take A.length=A:=by rw [List.append_assoc,List.take_left]
 have h2:(A++B++D).drop (A.length+C.length)=D:=by
  rw [←h,show A.length+B.length=(A++B).length by simp,List.drop_left]
 rw [h1,h2]
theorem AppR.split {e:TypeId} {z:Value} {sz:Nat} {us zs:List Value} {m:Nat} {sv u:Value} {w2:World} (h:AppR P w e z sz us m sv u w2) (hl:zs.length=us.length):
  ∃g n cap c1 T w1,(∃b c,sv= .slice b n c)∧u= .slice (some ⟨g,0,none⟩) (n+m) cap∧AppR P w e z sz zs m sv u w1∧w1.heap[g]?=some (.cells c1 T (0,0))∧n*sz+us.length≤c1.size∧
   w2=w1.setRow g (c1.toList.take (n*sz)++us++c1.toList.drop (n*sz+us.length)).toArray∧w1.heap.size=w2.heap.size:=by
 cases h with
 | @grow base n cap olds hcap ho hfo=>
  refine ⟨w.heap.size,n,_,(olds++zs).toArray++Builtin.zeroCells z.cells (grownCap w (n+m) cap e - (n+m)),e,_,⟨_,_,rfl⟩,rfl,.grow (us:=zs) hcap ho hfo,?_,by simp [ho,hl],?_,(by show (w.drew.heap.push _).size=(w.drew.heap.push _).size;rw [Array.size_push,Array.size_push])⟩
  ·show (w.drew.heap.push _)[w.drew.heap.size]?=_
   rw [Array.getElem?_push_size]
  have:=setRow_alloc w.drew ((olds++zs).toArray++Builtin.zeroCells z.cells (grownCap w (n+m) cap e - (n+m))) (((olds++zs).toArray++Builtin.zeroCells z.cells (grownCap w (n+m) cap e - (n+m))).toList.take (n*sz)++us++((olds++zs).toArray++Builtin.zeroCells z.cells (grownCap w (n+m) cap e - (n+m))).toList.drop (n*sz+us.length)).toArray e
  rw [show w.drew.heap.size=w.heap.size from rfl] at this
  rw [this]
  congr 2
  apply Array.ext'
  simp only [Array.toList_append,List.toList_toArray]
  exact (seg_put olds zs us _ (n*sz) ho hl).symm
 | @room g n cap cur T hr hg hs=>
  refine ⟨g,n,cap,_,T,_,⟨_,_,rfl⟩,rfl,.room (us:=zs) hr hg (by omega),setRow_heap w g cur _ T _ hg,by simp;omega,?_,by simp⟩
  rw [setRow_setRow]
  congr 1
  apply Array.ext'
  simp only [List.toList_toArray]
  have h1:(cur.toList.take (n*sz)).length=n*sz:=by simp;omega
  rw [←hl]
  have:=(seg_put (cur.toList.take (n*sz)) zs us (cur.toList.drop (n*sz+zs.length)) (n*sz) h1 hl).symm
  rw [←hl] at this
  exact this

theorem ad_sound (h:Rel F S gb σ a w) {o:Oper} {ao:AOp} (hm:mt1 P F.GL F.N o ao=true) (hk:adK ao=true) {d:Nat} {v:AV} (he:ev σ ao=some (d,v)):
  o.dst=some d∧d<F.N∧ ∃u,(∀w',(execOp a.eval o).run P w'= .ok (.value u) w')∧PR S gb v u:=by
 cases ao<;>simp only [adK,Bool.false_eq_true] at hk<;>simp only [ev,reduceCtorEq] at he
 case mv d' x=>
  simp only [Option.some.injEq,Prod.mk.injEq] at he
  obtain ⟨rfl,rfl⟩:=he
  simp only [mt1,Bool.and_eq_true,slotOk_iff] at hm
  obtain ⟨⟨h1,h2⟩,hm⟩:=hm
  refine ⟨h1,h2,?_⟩
  split at hm<;>(try cases hm)
  all_goals
   rename_i y hop
   exact ⟨a.eval y,fun w'=>by unfold execOp;simp only [hop];rfl,mX_sound h hm⟩
 case nc d' x=>
  simp only [mt1,Bool.and_eq_true,slotOk_iff] at hm
  obtain ⟨⟨h1,h2⟩,hm⟩:=hm
  split at hm<;>(try cases hm)
  rename_i x' hop
  have hx:=mX_sound h hm
  split at he
  ·rename_i b o hb
   simp only [Option.some.injEq,Prod.mk.injEq] at he
   obtain ⟨rfl,rfl⟩:=he
   rw [hb] at hx
   have hx':=hx
   simp only [PR] at hx
   obtain ⟨g,z,hg,hit,hx⟩:=hx
   exact ⟨h1,h2,a.eval x',fun w'=>by unfold execOp;simp [hop,hx],hx'⟩
  ·rename_i cs hb
   simp only [Option.some.injEq,Prod.mk.injEq] at he
   obtain ⟨rfl,rfl⟩:=he
   rw [hb] at hx
   have hx':=hx
   simp only [PR] at hx
   obtain ⟨g,o,hx,_⟩:=hx
   exact ⟨h1,h2,a.eval x',fun w'=>by unfold execOp;simp [hop,hx],hx'⟩
  ·cases he
 case fa d' x off=>
  simp only [mt1,Bool.and_eq_true,slotOk_iff] at hm
  obtain ⟨⟨h1,h2⟩,hm⟩:=hm
  split at hm<;>(try cases hm)
  rename_i t x' f hop
  simp only [Bool.and_eq_true] at hm
  have hx:=mX_sound h hm.2
  obtain ⟨hf,_⟩:=hm
  split at hf<;>(try cases hf)
  rename_i o' n hfa
  simp only [Bool.and_eq_true,beq_iff_eq,Bool.not_eq_true',beq_eq_false_iff_ne,ne_eq] at hf
  obtain ⟨fs,fd,hu,hfd,hp⟩:=fieldsAt_struct hfa
  simp only [Prod.mk.injEq] at hp
  obtain ⟨rfl,hn⟩:=hp
  obtain ⟨rfl,hn0⟩:=hf
  have hsz:sz? P fd.type=some n:=by
   cases hq:sz? P fd.type with
   |none=>simp [hq] at hn;exact absurd hn hn0
   |some m=>simp [hq] at hn;simp [hn]
  split at he<;>simp only [Option.some.injEq,Prod.mk.injEq,reduceCtorEq] at he<;>obtain ⟨rfl,rfl⟩:=he
  ·rename_i b o hb
   rw [hb] at hx
   simp only [PR] at hx
   obtain ⟨g,z,hg,hit,hx⟩:=hx
   refine ⟨h1,h2,.pointer (some ⟨g,o+fd.offset,none⟩),?_,by simp only [PR];exact ⟨g,z,hg,hit,rfl⟩⟩
   intro w'
   unfold execOp
   simp [hop,hx,Instr.fieldAt,run_underlying hu,hfd,Instr.sureAddr,fieldPlace,run_sizeOf hsz,hn0,Addr.add_lit]
  ·rename_i cs hb
   rw [hb] at hx
   simp only [PR] at hx
   obtain ⟨g,o,hx,hc⟩:=hx
   refine ⟨h1,h2,.pointer (some ⟨g,o+fd.offset,none⟩),?_,by simp only [PR];exact ⟨g,_,rfl,hc.drop _⟩⟩
   intro w'
   unfold execOp
   simp [hop,hx,Instr.fieldAt,run_underlying hu,hfd,Instr.sureAddr,fieldPlace,run_sizeOf hsz,hn0,Addr.add_lit]
 case ia d' sz x i=>
  simp only [mt1,Bool.and_eq_true,slotOk_iff] at hm
  obtain ⟨⟨h1,h2⟩,hm⟩:=hm
  split at hm<;>(try cases hm)
  rename_i t x' i' hop
  simp only [Bool.and_eq_true] at hm
  have hx:=mX_sound h hm.1.2
  have hi:=mX_sound h hm.2
  obtain ⟨e,hu,hsz⟩: ∃e,P.underlying t=some (.slice e)∧sz? P e=some sz:=by
   have:=hm.1.1
   split at this<;>simp_all
  split at he
  ·rename_i rows k n hb hc
   rw [hb] at hx;rw [hc] at hi
   simp only [PR] at hx hi
   split at he
   ·rename_i hn
    split at he
    ·rename_i row hrow
     split at he
     ·rename_i hl
      simp only [Option.some.injEq,Prod.mk.injEq] at he
      obtain ⟨rfl,rfl⟩:=he
      obtain ⟨hlt,_⟩:=List.getElem?_eq_some_iff.1 hrow
      rcases hx with ⟨hx,hr⟩|⟨ad,cap,k',hx,_,hr⟩
      ·subst hr;simp at hrow
      ·rcases hr with hr|⟨hsp,hr⟩
       ·subst hr;simp at hrow
       ·obtain ⟨g1,g2⟩:=hr.get hrow
        have hk:k'=sz:=by rw [←g1,hl]
        subst hk
        obtain ⟨bk,of,sp⟩:=ad
        simp only at hsp g2
        subst hsp
        refine ⟨h1,h2,.pointer (some ⟨bk,of+n.toNat*k',none⟩),?_,by simp only [PR];exact ⟨_,_,rfl,g2⟩⟩
        intro w'
        unfold execOp
        have hb2:0≤n∧n<(rows.length:Int):=by omega
        simp [hop,hx,hi,Instr.indexAt,asIntOf,run_underlying hu,run_sizeOf hsz,hb2,Addr.add_lit]
     ·cases he
    ·cases he
   ·cases he
  ·rename_i b bo n k kk i0 hb hc
   rw [hb] at hx;rw [hc] at hi
   simp only [PR] at hx hi
   split at he
   ·rename_i hn
    simp only [Option.some.injEq,Prod.mk.injEq] at he
    obtain ⟨rfl,rfl⟩:=he
    obtain ⟨g,z,cap,hg,hit,hx,_,_,_⟩:=hx
    refine ⟨h1,h2,.pointer (some ⟨g,bo+i0.toNat*sz,none⟩),?_,by simp only [PR];exact ⟨g,z,hg,hit,rfl⟩⟩
    intro w'
    unfold execOp
    have hb2:0≤i0∧i0<(n:Int):=⟨hn.1,hn.2.1⟩
    simp [hop,hx,hi,Instr.indexAt,asIntOf,run_underlying hu,run_sizeOf hsz,hb2,Addr.add_lit]
   ·cases he
  ·cases he
 case iaa d' sz n x i=>
  simp only [mt1,Bool.and_eq_true,slotOk_iff] at hm
  obtain ⟨⟨h1,h2⟩,hm⟩:=hm
  split at hm<;>(try cases hm)
  rename_i t x' i' hop
  simp only [Bool.and_eq_true] at hm
  have hx:=mX_sound h hm.1.2
  have hi:=mX_sound h hm.2
  obtain ⟨e,hu,hsz⟩: ∃e,P.underlying t=some (.array n e)∧sz? P e=some sz:=by
   have:=hm.1.1
   split at this<;>simp_all
  split at he
  ·rename_i b o kk i0 hb hc
   rw [hb] at hx;rw [hc] at hi
   simp only [PR] at hx hi
   split at he
   ·rename_i hn
    simp only [Option.some.injEq,Prod.mk.injEq] at he
    obtain ⟨rfl,rfl⟩:=he
    obtain ⟨g,z,hg,hit,hx⟩:=hx
    refine ⟨h1,h2,.pointer (some ⟨g,o+i0.toNat*sz,none⟩),?_,by simp only [PR];exact ⟨g,z,hg,hit,rfl⟩⟩
    intro w'
    unfold execOp
    simp [hop,hx,hi,Instr.indexAt,asIntOf,run_underlying hu,run_sizeOf hsz,hn,Instr.sureAddr,Addr.add_lit]
   ·cases he
  ·rename_i cs kk i0 hb hc
   rw [hb] at hx;rw [hc] at hi
   simp only [PR] at hx hi
   split at he
   ·rename_i hn
    simp only [Option.some.injEq,Prod.mk.injEq] at he
    obtain ⟨rfl,rfl⟩:=he
    obtain ⟨g,o,hx,hcs⟩:=hx
    refine ⟨h1,h2,.pointer (some ⟨g,o+i0.toNat*sz,none⟩),?_,by simp only [PR];exact ⟨g,_,rfl,hcs.drop _⟩⟩
    intro w'
    unfold execOp
    simp [hop,hx,hi,Instr.indexAt,asIntOf,run_underlying hu,run_sizeOf hsz,hn,Instr.sureAddr,Addr.add_lit]
   ·cases he
  ·cases he

theorem so_run (h:Rel F S gb σ a w) {o:Oper} {x:X} {s:Nat} (hm:mt1 P F.GL F.N o (.so x s)=true) {k:Nat} (hk:lkP σ.pm (.s s)=some k) {K:St→Prop} (hw:wp1 (Spec P F.GL) (.so x s) K σ):
  o.dst=none∧ ∃g z id off us T,gb id=some (g,z)∧(lkB σ.bx id).isSome∧w.heap[g]?=some (.cells us T (0,0))∧(∀w':World,w'.heap[g]?=w.heap[g]?→(execOp a.eval o).run P w'= .ok .skip (w'.setRow g (us.toList.set off (tv a s)).toArray))∧
   ∃τ',Rel F S gb τ' a (w.setRow g (us.toList.set off (tv a s)).toArray)∧K τ':=by
 simp only [wp1] at hw
 simp only [mt1,Bool.and_eq_true,beq_iff_eq] at hm
 obtain ⟨h1,hm⟩:=hm
 split at hm<;>(try cases hm)
 rename_i t x' s' hop
 simp only [Bool.and_eq_true,beq_iff_eq] at hm
 obtain ⟨⟨hsz,rfl⟩,hx⟩:=hm
 have hx:=mX_sound h hx
 split at hw
 case h_2=>cases hw
 rename_i d off hxe
 rw [hxe] at hx
 simp only [PR] at hx
 obtain ⟨g,z,hg,hit,hxp⟩:=hx
 split at hw
 case h_2=>cases hw
 rename_i cs hcs
 rw [hk] at hw
 simp only at hw
 obtain ⟨hlt,hk2⟩:=hw
 have hown:=h.hr.own _ _ hk
 have hpv:=h.env s
 generalize huv:tv a s=u at hpv
 have hplu:plv gb (tv a) w (.s s)=u:=huv
 rw [hplu] at hown
 have hone:u.oneCell'=true:=by rcases hown with rfl|⟨_,_,_,_,_,_,rfl,_⟩|⟨_,_,_,_,_,rfl,_⟩<;>rfl
 have hcells:u.cells= #[u]:=by rcases hown with rfl|⟨_,_,_,_,_,_,rfl,_⟩|⟨_,_,_,_,_,rfl,_⟩<;>rfl
 obtain ⟨g',us,T,e1,e3,e0,e4,e5,e6⟩:=h.hr.box d cs hcs hit
 rw [hg] at e1;cases e1
 have hst:=run_storeCells_at P g off T [u] 0 us w e3 (by simp;omega) (by simpa using hone)
 simp only [Nat.add_zero,List.length_singleton] at hst
 have hset:us.toList.take off++[u]++us.toList.drop (off+1)=us.toList.set off u:=by
  rw [List.set_eq_take_append_cons_drop,if_pos (by simp;omega)];simp
 rw [hset] at hst
 have hheap:(w.setRow g (us.toList.set off u).toArray).heap[g]?=some (.cells (us.toList.set off u).toArray T (0,0)):=setRow_heap w g us _ T _ e3
 refine ⟨h1,g,_,d,off,us,T,hg,by simp [hcs],e3,fun w' hw'=>?_,_,?_,hk2⟩
 ·have e3':w'.heap[g]?=some (.cells us T (0,0)):=by rw [hw'];exact e3
  have hst:=run_storeCells_at P g off T [u] 0 us w' e3' (by simp;omega) (by simpa using hone)
  simp only [Nat.add_zero,List.length_singleton] at hst
  rw [hset] at hst
  unfold execOp
  have:a.eval (.tmp s)=u:=huv
  simp [hop,hxp,this,Instr.storeAt,Instr.sureAddr,storeVar,run_sizeOf hsz,hcells,hst]
 ·skip
  have base:=h.setObj (by simp [hcs]) hg e6 (w':=w.setRow g (us.toList.set off u).toArray) (fun k hk=>setRow_other w g k _ hk) (by simp) rfl rfl rfl (cs':=cs.set off (lk σ.e s)) (fun _=>⟨_,T,by simp,hheap,by simpa using e0,by
   have hul:=e4.fill (off:=off) (cs:=[lk σ.e s]) (us:=[u]) ⟨u,[],rfl,hpv,rfl⟩
   have hA:cs.set off (lk σ.e s)=fillA cs off [lk σ.e s]:=by
    rw [List.set_eq_take_append_cons_drop,if_pos hlt];simp [fillA]
   rw [hA]
   have hB:(us.toList.set off u).take (fillA cs off [lk σ.e s]).length=(us.toList.take cs.length).take off++[u]++(us.toList.take cs.length).drop (off+[u].length):=by
    have hl2:(fillA cs off [lk σ.e s]).length=cs.length:=by simp [fillA];omega
    rw [hl2,List.take_set,List.set_eq_take_append_cons_drop,if_pos (by simp;omega)]
    simp
   simp only [List.toList_toArray]
   rw [hB];exact hul,by
   intro x hx
   simp only [List.toList_toArray] at hx
   rcases List.mem_or_eq_of_mem_set hx with hx|rfl
   ·exact e5 x hx
   ·exact hone⟩) (fun hi=>by rw [hit] at hi;cases hi) (pm:=dl (dl σ.pm (.s s)) (.b d off)) (fun p l hl=>by
    simp only [lkP_dl] at hl
    split at hl
    ·cases hl
    ·split at hl
     ·cases hl
     ·exact hl) (fun o' l hl=>by
    simp only [lkP_dl] at hl
    split at hl
    ·cases hl
    ·rename_i hne
     have hne2:off≠o':=fun e=>hne (by rw [e])
     rw [cell_of_row _ g o' _ T _ hheap,cell_of_row w g o' us T _ e3]
     simp only [List.getElem?_toArray,List.getElem?_set_ne hne2];simp)
  have hplb:plv gb (tv a) (w.setRow g (us.toList.set off u).toArray) (.b d off)=u:=by
   simp only [plv,hg]
   rw [cell_of_row _ g off _ T _ hheap]
   simp [show off<us.size by omega]
  have hsame: ∀p l,lkP (dl (dl σ.pm (.s s)) (.b d off)) p=some l→plv gb (tv a) (w.setRow g (us.toList.set off u).toArray) p=plv gb (tv a) w p∧lkP σ.pm p=some l∧p≠ .s s∧p≠ .b d off:=by
   intro p l hl
   simp only [lkP_dl] at hl
   split at hl
   ·cases hl
   ·rename_i hne
    split at hl
    ·cases hl
    ·rename_i hne2
     refine ⟨?_,hl,hne2,hne⟩
     cases p with
     |s t=>rfl
     |t t i=>rfl
     |b d' o'=>
      simp only [plv]
      cases hq:gb d' with
      |none=>rfl
      |some x=>
       obtain ⟨q,zq⟩:=x
       simp only []
       by_cases e:q=g
       ·subst e
        have:=h.hr.inj d' d q zq _ (h.hr.pmb d' o' l hl).1 (by simp [hcs]) hq hg
        subst this
        have hne3:off≠o':=fun e=>hne (by rw [e])
        rw [cell_of_row _ q o' _ T _ hheap,cell_of_row w q o' us T _ e3]
        simp only [List.getElem?_toArray,List.getElem?_set_ne hne3];simp
       ·rw [World.cell?_of_block (w:=w) (setRow_other w g q _ e)]
  have hubase: ∀b,u.ownBlock=some b→b≠g:=by
   intro b hb e;subst e
   exact h.hr.ownb _ _ b d _ hk (by rw [hplu];exact hb) (by simp [hcs]) hg
  refine ⟨base.defers,base.size,base.bw,base.ext,base.le,base.env,⟨base.hr.agree,base.hr.box,base.hr.its,base.hr.inj,?_,?_,?_,?_⟩,base.newb,?_,base.dom,base.up,base.glo⟩
  ·intro p l hl
   simp only [lkP] at hl
   split at hl
   ·rename_i e;subst e;simp only [Option.some.injEq] at hl;subst hl
    rw [hplb]
    exact hown.mono (fun q hq=>setRow_other w g q _ (hubase q hq)) (fun _ _ _ hn=>hn)
   ·exact base.hr.own p l hl
  ·intro p q l m b hl hm2 p1 p2
   simp only [lkP] at hl hm2
   split at hl
   ·rename_i e;subst e
    split at hm2
    ·rename_i e;exact e
    ·rename_i e
     rw [hplb] at p1
     obtain ⟨s1,s2,s3,s4⟩:=hsame q m hm2
     rw [s1] at p2
     exact absurd (h.hr.ownd q (.s s) m k b s2 hk p2 (by rw [hplu];exact p1)) s3
   ·rename_i e
    split at hm2
    ·rename_i e2;subst e2
     rw [hplb] at p2
     obtain ⟨s1,s2,s3,s4⟩:=hsame p l hl
     rw [s1] at p1
     exact absurd (h.hr.ownd p (.s s) l k b s2 hk p1 (by rw [hplu];exact p2)) s3
    ·exact base.hr.ownd p q l m b hl hm2 p1 p2
  ·intro p l b d' z' hl p1 hd'
   simp only [lkP] at hl
   simp only [lkB_stB_some (by simp [hcs]:(lkB σ.bx d).isSome)] at hd'
   split at hl
   ·rename_i e;subst e
    rw [hplb] at p1
    exact h.hr.ownb _ _ b d' z' hk (by rw [hplu];exact p1) hd'
   ·exact base.hr.ownb p l b d' z' hl p1 (by simp only [lkB_stB_some (by simp [hcs]:(lkB σ.bx d).isSome)];exact hd')
  ·intro d' o' l hl
   simp only [lkP] at hl
   split at hl
   ·rename_i e;cases e
    simp only [lkB_stB_some (by simp [hcs]:(lkB σ.bx d).isSome)]
    exact ⟨by simp [hcs],hit⟩
   ·exact base.hr.pmb d' o' l hl
  ·intro p l q hl hq
   simp only [lkP] at hl
   split at hl
   ·rename_i e;subst e
    rw [hplb] at hq
    exact h.newo _ _ q hk (by rw [hplu];exact hq)
   ·exact base.newo p l q hl hq
theorem eval_agr {GL:List (Nat×List Value)} {x:X} {y:Operand} (h:mX GL x y=true) {a a':Act} (hs: ∀t∈xs x,a'.tmps.getD t undef=a.tmps.getD t undef):a'.eval y=a.eval y:=by
 unfold mX at h
 split at h
 ·simp only [beq_iff_eq] at h;subst h;exact hs _ (by simp [xs])
 ·rfl
 ·rfl
 ·rfl
 ·cases h
theorem pend_app (h:Rel F S gb σ a w) {e:TypeId} {i:TypeInfo} {z:Value} {d sz by_:Nat} (hd:d<F.N) (hi:P.info? e=some i) (hz:i.zero=some z) (hsz:i.size=sz) (hkb:sz<KB) (hby:i.bytes=by_) (hzs:z.cells.size=sz) (h0:0<sz) (hb0:0<by_)
  {vs':List AV} {us:List Value} (u1:us.length=sz) (u2:PRlist S gb0 vs' us) (u3: ∀u∈us,u.oneCell'=true) (hv:vs'.length=sz) {sv:Value} {rows:List (List AV)} {τ:St} (hτ:Rel F S gb τ a w) (hs:PR S gb (.sl rows) sv) (ho:OwnR S w sz sv)
  (hnew: ∀g,sv.ownBlock=some g→F.w0.heap.size≤g∨F.M g) (hq: ∀p l b,lkP τ.pm p=some l→(plv gb (tv a) w p).ownBlock=some b→sv.ownBlock≠some b) (hqb: ∀b d' z,sv.ownBlock=some b→(lkB τ.bx d').isSome→gb d'≠some (b,z))
  (hrl: ∀r∈rows,r.length=sz) (hlim:(rows.length+1)*by_≤lim) {zs:List Value} (hzl:zs.length=sz):
  ∃u g c1 ty w1 w2 S',AppR P w e z sz zs 1 sv u w1∧w1.heap[g]?=some (.cells c1 ty (0,0))∧w2=w1.setRow g (c1.toList.take (rows.length*sz)++us++c1.toList.drop (rows.length*sz+us.length)).toArray∧rows.length*sz+us.length≤c1.size∧w1.heap.size=w2.heap.size∧
   (∃cap,u= .slice (some ⟨g,0,none⟩) (rows.length+1) cap)∧(∀b n c,sv= .slice b n c→n=rows.length)∧Rel F S' gb (τ.puto d (.sl (rows++[vs'])) sz) (a.put (some d) u) w2:=by
 obtain ⟨u,w2,S',g1,g2⟩:=app_rel (P:=P) h hd hi hz hsz hkb hby hzs h0 hb0 hτ (news:=[vs']) (by simp) (us:=us) (by simpa using u1) (by simpa using u2) u3 (by simpa using hv) hrl hs ho hnew hq hqb (by simpa using hlim)
 obtain ⟨g,n,cap,c1,T,w1,⟨b,c,hsv⟩,hu,k1,k2,k3,k4,k5⟩:=g1.split (zs:=zs) (by omega)
 have hn: ∀b n c,sv= .slice b n c→n=rows.length:=by
  intro b n c e
  subst e
  simp only [PR] at hs
  rcases hs with ⟨e,rfl⟩|⟨ad,cap,k,e,_⟩
  ·cases e;rfl
  ·cases e;rfl
 have hn':=hn _ _ _ hsv
 subst hn'
 simp only [List.length_singleton] at hu k1
 exact ⟨u,g,c1,T,w1,w2,S',k1,k2,k4,k3,k5,⟨cap,hu⟩,hn,g2⟩
theorem pend_core (h:Rel F S gb σ a w) {A E T:Oper} {p:PA} (hm:paM P F.GL F.N A E T p=true) {R:St→Prop} (hw:pendW p R σ):
  A.dst=some p.d∧E.dst=some p.te∧T.dst=none∧p.d<F.N∧p.te<F.N∧ ∃u e g c1 ty us off w1 w2 S' τ,
   (execOp a.eval A).run P w= .ok (.value u) w1∧
   (∀(a':Act) (w':World),(∀t,t=p.d∨t∈xs p.tl→a'.tmps.getD t undef=(a.put (some p.d) u).tmps.getD t undef)→(execOp a'.eval E).run P w'= .ok (.value e) w')∧
   w1.heap[g]?=some (.cells c1 ty (0,0))∧w2=w1.setRow g (c1.toList.take off++us++c1.toList.drop (off+us.length)).toArray∧w1.heap.size=w2.heap.size∧
   (∀(a':Act) (w':World),a'.tmps.getD p.te undef=e→(∀t∈xs p.v,a'.tmps.getD t undef=tv a t)→w'.heap[g]?=w1.heap[g]?→(execOp a'.eval T).run P w'= .ok .skip (w'.setRow g (c1.toList.take off++us++c1.toList.drop (off+us.length)).toArray))∧
   u.ownBlock=some g∧lkP τ.pm (.s p.d)=some p.sz∧
   Rel F S' gb τ (a.put (some p.d) u) w2∧R τ:=by
 simp only [paM,Bool.and_eq_true,Option.isNone_iff_eq_none,bne_iff_ne,ne_eq,Bool.not_eq_true'] at hm
 obtain ⟨⟨⟨⟨⟨⟨⟨⟨⟨⟨hgA,hgE⟩,hgT⟩,hA⟩,hE⟩,hT⟩,hne⟩,htl⟩,hvd⟩,hvt⟩,hadk⟩:=hm
 simp only [mt1,Bool.and_eq_true,slotOk_iff] at hA
 obtain ⟨⟨a1,a2⟩,hA⟩:=hA
 split at hA<;>(try cases hA)
 rename_i as ts hop
 split at hA<;>(try cases hA)
 rename_i s' y' t t' has hts
 simp only [Bool.and_eq_true,beq_iff_eq,Bool.not_eq_true',beq_eq_false_iff_ne,ne_eq] at hA
 obtain ⟨⟨⟨⟨⟨rfl,hu⟩,hsz0⟩,hby0⟩,hs⟩,hy⟩:=hA
 obtain ⟨hsz0,hkb⟩:=kOk_iff.1 hsz0
 split at hu<;>(try cases hu)
 rename_i e hu'
 split at hu<;>(try cases hu)
 rename_i i hi
 simp only [Bool.and_eq_true,beq_iff_eq] at hu
 obtain ⟨⟨hsize,hbytes⟩,hz⟩:=hu
 split at hz<;>(try cases hz)
 rename_i z hz'
 simp only [beq_iff_eq] at hz
 have hs':=mX_sound h hs
 have hy':=mX_sound h hy
 have has':as= #[s',y']:=by cases as;simp_all
 have hts':ts= #[t,t]:=by cases ts;simp_all
 subst has';subst hts'
 have hexec: ∀ {u:Value} {w':World},(Builtin.append_ #[t,t] A.type #[a.eval s',a.eval y']).run P w= .ok u w'→(execOp a.eval A).run P w= .ok (.value u) w':=by
  intro u w' hr
  unfold execOp
  simp [hop,resolve,invoke,builtin,hr]
 simp only [mt1,Bool.and_eq_true,slotOk_iff] at hE
 obtain ⟨⟨e1,e2⟩,hE⟩:=hE
 split at hE<;>(try cases hE)
 rename_i tE xE iE hopE
 simp only [Bool.and_eq_true] at hE
 obtain ⟨eE,huE,hszE⟩: ∃e,P.underlying tE=some (.slice e)∧sz? P e=some p.sz:=by
  have:=hE.1.1
  split at this<;>simp_all
 have hxE:xE= .tmp p.d:=by
  have:=hE.1.2
  cases xE<;>simp [mX] at this
  rw [this]
 subst hxE
 have hiE:=hE.2
 have hiE':=mX_sound h hiE
 simp only [mt1,Bool.and_eq_true,beq_iff_eq] at hT
 obtain ⟨t1,hT⟩:=hT
 split at hT<;>(try cases hT)
 rename_i tT xT vT hopT
 simp only [Bool.and_eq_true,beq_iff_eq] at hT
 obtain ⟨⟨hszT,hxT⟩,hvT⟩:=hT
 have hxT':xT= .tmp p.te:=by
  cases xT<;>simp [mX] at hxT
  rw [hxT]
 subst hxT'
 have hvT':=mX_sound h hvT
 unfold pendW at hw
 split at hw<;>(try exact hw.elim)
 rename_i vs kn n zr hvs hn hyv
 obtain ⟨c1',c2'⟩:=cs_PR hvs hvT'
 rw [hn] at hiE'
 simp only [PR] at hiE'
 rw [hyv] at hy'
 have fin: ∀ {rows:List (List AV)} {sv:Value} {τ0:St} {vs':List AV},shutL vs=some vs'→vs'.length=p.sz→zr.length=p.sz→n=rows.length→a.eval s'=sv→Rel F S gb τ0 a w→PR S gb (.sl rows) sv→OwnR S w p.sz sv→
   (∀g,sv.ownBlock=some g→F.w0.heap.size≤g∨F.M g)→(∀q l b,lkP τ0.pm q=some l→(plv gb (tv a) w q).ownBlock=some b→sv.ownBlock≠some b)→(∀b d' z,sv.ownBlock=some b→(lkB τ0.bx d').isSome→gb d'≠some (b,z))→
   (∀r∈rows,r.length=p.sz)→(rows.length+1)*p.by_≤lim→R (τ0.puto p.d (.sl (rows++[vs'])) p.sz)→
   A.dst=some p.d∧E.dst=some p.te∧T.dst=none∧p.d<F.N∧p.te<F.N∧ ∃u e g c1 ty us off w1 w2 S' τ,
   (execOp a.eval A).run P w= .ok (.value u) w1∧
   (∀(a':Act) (w':World),(∀t,t=p.d∨t∈xs p.tl→a'.tmps.getD t undef=(a.put (some p.d) u).tmps.getD t undef)→(execOp a'.eval E).run P w'= .ok (.value e) w')∧
   w1.heap[g]?=some (.cells c1 ty (0,0))∧w2=w1.setRow g (c1.toList.take off++us++c1.toList.drop (off+us.length)).toArray∧w1.heap.size=w2.heap.size∧
   (∀(a':Act) (w':World),a'.tmps.getD p.te undef=e→(∀t∈xs p.v,a'.tmps.getD t undef=tv a t)→w'.heap[g]?=w1.heap[g]?→(execOp a'.eval T).run P w'= .ok .skip (w'.setRow g (c1.toList.take off++us++c1.toList.drop (off+us.length)).toArray))∧
   u.ownBlock=some g∧lkP τ.pm (.s p.d)=some p.sz∧
   Rel F S' gb τ (a.put (some p.d) u) w2∧R τ:=by
  intro rows sv τ0 vs' q1 q2 q3 q4 q5 q6 q7 q8 q9 q10 q11 q12 q13 q14
  subst q4
  have cl:(a.eval vT).cells.toList.length=p.sz:=by
   rw [←(shutL_PR _ _ _ q1 c1').length,q2]
  obtain ⟨zs,z1,z2,z3,z4,z5,z6⟩:=news_cells (P:=P) h (sz:=p.sz) hy' (by simpa using q3)
  simp only [List.length_singleton,Nat.one_mul] at z1 z4 z5 z6
  obtain ⟨u,g,cc,ty,w1,w2,S',k1,k2,k3,k4,k5,⟨cap,k6⟩,k7,k8⟩:=pend_app (P:=P) h a2 hi hz' hsize hkb hbytes hz (by omega) (by omega) cl (shutL_PR _ _ _ q1 c1') c2' q2 q6 q7 q8 q9 q10 q11 q12 q13 z1
  have bpos:0<p.by_:=by omega
  have lrow:rows.length+1≤(rows.length+1)*p.by_:=Nat.le_mul_of_pos_right _ bpos
  have k1':AppR P w e z i.size zs 1 sv u w1:=by rw [hsize];exact k1
  have hrun:=k1'.run (ty:=A.type) hu' hi hz' z3 z4 (by rw [hsize];exact z5) (by rw [hsize];exact z6) (fun b n c e=>by
   rw [k7 b n c e,hbytes]
   exact ⟨q13,by unfold lim at q13;omega⟩)
  refine ⟨a1,e1,t1,a2,e2,u,.pointer (some ⟨g,rows.length*p.sz,none⟩),g,cc,ty,(a.eval vT).cells.toList,rows.length*p.sz,w1,w2,S',_,hexec (by rw [q5];exact hrun),?_,k2,k3,k5,?_,by rw [k6];rfl,?_,?_,q14⟩
  ·intro a' w' ha
   have hu1:a'.eval (.tmp p.d)=u:=by
    have:=ha p.d (.inl rfl)
    have hds:p.d<a.tmps.size:=by rw [h.size];exact a2
    have h2:=tv_put (a:=a) (u:=u) hds p.d
    rw [if_pos rfl] at h2
    exact this.trans h2
   have hi1:a'.eval iE= .int kn rows.length:=by
    rw [eval_agr (a:=a) hiE (fun t ht=>?_)]
    ·exact hiE'
    ·have hds:p.d<a.tmps.size:=by rw [h.size];exact a2
     have h2:=tv_put (a:=a) (u:=u) hds t
     have hnt: ¬p.d=t:=fun e=>by subst e;rw [List.contains_eq_mem,decide_eq_false_iff_not] at htl;exact htl ht
     rw [if_neg hnt] at h2
     exact (ha t (.inr ht)).trans h2
   unfold execOp
   simp [hopE,hu1,hi1,k6,Instr.indexAt,asIntOf,run_underlying huE,run_sizeOf hszE,Instr.sureAddr,Addr.add_lit]
  ·intro a' w' he hv hw'
   have hx1:a'.eval (.tmp p.te)= .pointer (some ⟨g,rows.length*p.sz,none⟩):=he
   have hv1:a'.eval vT=a.eval vT:=eval_agr hvT hv
   have hst:=run_storeCells_at P g (rows.length*p.sz) ty (a.eval vT).cells.toList 0 cc w' (by rw [hw'];exact k2) (by simpa using k4) c2'
   simp only [Nat.add_zero] at hst
   unfold execOp
   simp [hopT,hx1,hv1,Instr.storeAt,Instr.sureAddr,storeVar,run_sizeOf hszT,hst]
   simpa using cl
  ·simp [St.put,St.puto,lkP_dlS,lkP,Pl.at,hne]
  ·exact k8
 split at hw<;>(try exact hw.elim)
 ·rename_i vs' rows hsv hrows
  obtain ⟨w1,w2,w3,w4,w5,w6,w7⟩:=hw
  have hmx:s'= .tmp p.s:=by
   cases s'<;>simp [mX] at hs
   rw [hs]
  subst hmx
  have hsv':PR S gb (.sl rows) (tv a p.s):=by rw [←hrows];exact h.env p.s
  refine fin (sv:=tv a p.s) (τ0:=⟨σ.e,σ.bx,dl σ.pm (.s p.s)⟩) hsv w1 w2 w3 rfl (h.drop (.s p.s)) hsv' (h.hr.own _ _ w4) (fun g hg=>h.newo _ _ g w4 hg) ?_ ?_ w6 w5 ?_
  ·intro q l b hl hb he
   rw [lkP_dl] at hl
   split at hl
   ·cases hl
   ·rename_i hne2
    exact hne2 (h.hr.ownd (.s p.s) q _ _ b w4 hl he hb).symm
  ·intro b d' z hb hd'
   exact h.hr.ownb (.s p.s) _ b d' z w4 hb hd'
  ·exact w7
 ·rename_i vs' hsv hrows
  obtain ⟨w1,w2,w3,w4,w5⟩:=hw
  have hmx:s'= .tmp p.s:=by
   cases s'<;>simp [mX] at hs
   rw [hs]
  subst hmx
  have hsv':tv a p.s= .slice none 0 0:=by
   have:=h.env p.s
   rw [hrows] at this
   simpa [PR] using this
  refine fin (rows:=[]) (sv:=tv a p.s) (τ0:=σ) hsv w1 w2 w3 rfl h (by rw [hsv'];simp [PR]) (by rw [hsv'];exact .inl rfl) (fun g hg=>by rw [hsv'] at hg;cases hg) (fun q l b _ _ he=>by rw [hsv'] at he;cases he) (fun b d' z he=>by rw [hsv'] at he;cases he) (by simp) (by simpa using w4) ?_
  exact w5
theorem Oper.wp_monoQ {o:Oper} {a:Act} {w:World} {K:Act→World→Prop} {Q Q':Exit→Act→World→Prop} (h: ∀e a w,Q e a w→Q' e a w) (hh:o.wp P a w K Q):o.wp P a w K Q':=by
 unfold Oper.wp at *
 generalize (execOp a.eval o).run P w=r at *
 cases r with
 |ok n w'=>
  cases n<;>simp only [Oper.upon] at hh ⊢ <;>
   first
    |exact hh
    |exact Calls.mono hh (fun e w'' he=>by cases e<;>first|exact he|exact h _ _ _ he|(obtain ⟨a,w,q⟩:=he;exact ⟨a,w,h _ _ _ q⟩))
 |halt x w'=>cases x<;>simp only [Oper.upon] at hh ⊢ <;>first|exact h _ _ _ hh|exact hh
theorem wpAny_monoQ {Q Q':Exit→Act→World→Prop} (h: ∀e a w,Q e a w→Q' e a w): ∀(fuel:Nat) (listed:Array Bool) (a:Act) (w:World),wpAny P .any ops Q fuel listed a w→wpAny P .any ops Q' fuel listed a w
 |0,listed,a,w,hh=>⟨hh.1,h _ _ _ hh.2⟩
 |fuel+1,listed,a,w,hh=>by
  refine ⟨fun hr=>h _ _ _ (hh.1 hr),fun i hi=>?_⟩
  have:=wpOp_mono (fun a w=>wpAny_monoQ h fuel (listed.setIfInBounds i true) a w) (hh.2 i hi)
  unfold wpOp at *
  split
  ·rename_i ho;simp only [ho] at this;exact this
  ·rename_i o ho
   simp only [ho] at this
   split
   ·rename_i hw
    rw [if_pos hw] at this
    rcases this with q|⟨q1,a',w',q2⟩
    ·exact .inl (Oper.wp_monoQ h q)
    ·exact .inr ⟨q1,a',w',h _ _ _ q2⟩
   ·rename_i hw
    rw [if_neg hw] at this
    exact this
inductive Chn (P:Program) (ops:Array Oper):List Nat→Act→Act→Prop
 |nil {a:Act}:Chn P ops [] a a
 |cons {i:Nat} {is:List Nat} {o:Oper} {v:Value} {a a':Act}:ops[i]?=some o→Yields P ops o v a→Chn P ops is (a.put o.dst v) a'→Chn P ops (i::is) a a'
def takeB (ops:Array Oper) (B:Array Bool→Bool):List Nat→Array Bool→Bool
 |[],l=>B l
 |i::r,l=>Region.free .any ops l i&&(Region.ready .any ops l).contains i&&takeB ops B r (l.setIfInBounds i true)
theorem takes {Q:Exit→Act→World→Prop} (hs:Region.noSelect ops=true) (hQ: ∀c a w,¬Q (.panic c) a w) {B:Array Bool→Bool} {fuel:Nat} {w:World}: ∀ {is:List Nat} {listed:Array Bool} {a a':Act},takeB ops B is listed=true→Chn P ops is a a'→
  (∀l',B l'=true→wpAny P .any ops Q fuel l' a' w)→wpAny P .any ops Q (fuel+is.length) listed a w
 |[],listed,a,a',hb,hc,h=>by
  cases hc
  exact h _ hb
 |i::is,listed,a,a',hb,hc,h=>by
  simp only [takeB,Bool.and_eq_true] at hb
  cases hc with
  |cons ho hy hc=>
   exact wpAny_take ho hs hb.1.1 hb.1.2 (fun c a w q=>absurd q (hQ _ _ _)) hy (takes hs hQ hb.2 hc h)
theorem wp1_ad {Sp:Nat→Nat→In→Out→Prop} {o:AOp} (hk:adK o=true) {K:St→Prop} (hw:wp1 Sp o K σ): ∃d v,ev σ o=some (d,v)∧dstA o=some d∧K (σ.put d v):=by
 have key: ∀ {r:Option (Nat×AV)},(match r with |some (d,v)=>K (σ.put d v)|none=>False)→ev σ o=r→ ∃d v,ev σ o=some (d,v)∧dstA o=some d∧K (σ.put d v):=by
  intro r hr he
  cases r with
  |none=>exact hr.elim
  |some x=>exact ⟨x.1,x.2,he,ev_dst he,hr⟩
 cases o<;>simp only [adK,Bool.false_eq_true] at hk
 all_goals exact key hw rfl
theorem ads_chain: ∀ {ad:List AOp} {Ads:List Oper} {base:Nat} {rest:List AOp} {K:St→Prop} {τ:St} {a:Act} {D:Nat} {L:List Nat},mts P F.GL F.N ops Ads ad=true→(∀j o,Ads[j]?=some o→ops[base+j]?=some o)→(∀o∈ad,adK o=true∧dstA o≠some D∧ ∀t,dstA o=some t→t∉L)→
  Rel F S gb τ a w→wpL (Spec P F.GL) (ad++rest) K τ→
  ∃a' τ',Chn P ops (List.range' base Ads.length) a a'∧Rel F S gb τ' a' w∧wpL (Spec P F.GL) rest K τ'∧lkP τ'.pm (.s D)=lkP τ.pm (.s D)∧a'.tmps.getD D undef=a.tmps.getD D undef∧ ∀t∈L,a'.tmps.getD t undef=a.tmps.getD t undef
 |[],Ads,base,rest,K,τ,a,D,L,hm,hops,hk,hr,hw=>by
  cases Ads with
  |nil=>exact ⟨a,τ,.nil,hr,hw,rfl,rfl,fun _ _=>rfl⟩
  |cons=>simp [mts] at hm
 |o::ad,Ads,base,rest,K,τ,a,D,L,hm,hops,hk,hr,hw=>by
  cases Ads with
  |nil=>simp [mts] at hm
  |cons x Ads=>
   simp only [mts,Bool.and_eq_true] at hm
   obtain ⟨k1,k2,k3⟩:=hk o (by simp)
   have hm1:x.guard=none∧mt1 P F.GL F.N x o=true:=by
    have:=hm.1
    cases o<;>simp only [adK,Bool.false_eq_true] at k1<;>simp only [mt,Bool.and_eq_true,Option.isNone_iff_eq_none] at this<;>exact this
   simp only [List.cons_append,wpL] at hw
   obtain ⟨d,v,he,hd,hw⟩:=wp1_ad k1 hw
   obtain ⟨g1,g2,u,g3,g4⟩:=ad_sound hr hm1.2 k1 he
   have hne:d≠D:=fun e=>k2 (by rw [hd,e])
   have hput:=fun t=>tv_put (a:=a) (u:=u) (show d<a.tmps.size by rw [hr.size];exact g2) t
   obtain ⟨a',τ',r1,r2,r3,r4,r5,r6⟩:=ads_chain (base:=base+1) (D:=D) (L:=L) hm.2 (fun j o ho=>by
    have:=hops (j+1) o (by simpa using ho)
    rwa [show base+1+j=base+(j+1) by omega]) (fun o ho=>hk o (by simp [ho])) (hr.put g2 g4) hw
   refine ⟨a',τ',?_,r2,r3,?_,?_,?_⟩
   ·rw [List.length_cons,List.range'_succ]
    refine .cons (v:=u) (hops 0 x rfl) (.inl ⟨by simp [Region.wanted,hm1.1],g3⟩) ?_
    rw [g1];exact r1
   ·rw [r4]
    have e0:(Pl.s D).at d=false:=by
     simp only [Pl.at,beq_eq_false_iff_ne,ne_eq]
     exact fun e=>hne e.symm
    simp [St.put,lkP_dlS,e0]
   ·rw [r5]
    have:=hput D
    rw [if_neg hne] at this
    exact this
   ·intro t ht
    rw [r6 t ht]
    have:=hput t
    rw [if_neg (fun e:d=t=>k3 d hd (by rw [e];exact ht))] at this
    exact this
def endB (ops:Array Oper) (i j:Nat) (l:Array Bool):Bool:=
 Region.ready .any ops l==[i,j]&&Region.ready .any ops (l.setIfInBounds i true)==[j]&&Region.ready .any ops (l.setIfInBounds j true)==[i]&&Region.ready .any ops ((l.setIfInBounds i true).setIfInBounds j true)==[]&&Region.ready .any ops ((l.setIfInBounds j true).setIfInBounds i true)==[]
def endB1 (ops:Array Oper) (j:Nat) (l:Array Bool):Bool:=Region.ready .any ops l==[j]&&Region.ready .any ops (l.setIfInBounds j true)==[]
def firstL (m n:Nat):Array Bool:=(List.replicate m true++List.replicate (n - m) false).toArray
def paD1 (ops:Array Oper) (m q:Nat):Bool:=
 Region.noSelect ops&&ops.size==m+(4+q)&&Region.ready .any ops (firstL m ops.size)==[m]&&takeB ops (endB ops (m+2) (m+3+q)) ((m+1)::List.range' (m+3) q) ((firstL m ops.size).setIfInBounds m true)
def paD2 (ops:Array Oper) (m q:Nat):Bool:=
 Region.noSelect ops&&ops.size==m+(2+q)&&Region.ready .any ops (firstL m ops.size)==[m]&&takeB ops (endB1 ops (m+1+q)) (List.range' (m+1) q) ((firstL m ops.size).setIfInBounds m true)
theorem put_none (a:Act) (v:Value):a.put none v=a:=rfl
theorem stores_any {Q:Exit→Act→World→Prop} {i j:Nat} {oi oj:Oper} {a:Act} {w wi wj w3:World} (hi:ops[i]?=some oi) (hj:ops[j]?=some oj) (gi:oi.guard=none) (gj:oj.guard=none) (di:oi.dst=none) (dj:oj.dst=none) {l:Array Bool} (hb:endB ops i j l=true) (hij:i≠j)
  (r1:(execOp a.eval oi).run P w= .ok .skip wi) (r2:(execOp a.eval oj).run P wi= .ok .skip w3) (r3:(execOp a.eval oj).run P w= .ok .skip wj) (r4:(execOp a.eval oi).run P wj= .ok .skip w3) (hQ:Q .normal a w3):wpAny P .any ops Q 2 l a w:=by
 simp only [endB,Bool.and_eq_true,beq_iff_eq] at hb
 obtain ⟨⟨⟨⟨b1,b2⟩,b3⟩,b4⟩,b5⟩:=hb
 have one: ∀ {k:Nat} {o:Oper} {w1 w2:World} {K:Act→World→Prop},ops[k]?=some o→o.guard=none→o.dst=none→(execOp a.eval o).run P w1= .ok .skip w2→K a w2→wpOp P ops Q k K a w1:=by
  intro k o w1 w2 K ho hg hd hr hk
  unfold wpOp
  rw [ho]
  simp only [Region.wanted,hg,if_true]
  refine .inl (wp_skip' hr ?_)
  rw [hd]
  exact hk
 refine wpAny_all b1 (by simp) fun k hk=>?_
 simp only [List.mem_cons,List.not_mem_nil,or_false] at hk
 rcases hk with rfl|rfl
 ·refine one hi gi di r1 (wpAny_all b2 (by simp) fun k hk=>?_)
  simp only [List.mem_cons,List.not_mem_nil,or_false] at hk
  subst hk
  exact one hj gj dj r2 (wpAny_done b4 hQ 0)
 ·refine one hj gj dj r3 (wpAny_all b3 (by simp) fun k hk=>?_)
  simp only [List.mem_cons,List.not_mem_nil,or_false] at hk
  subst hk
  exact one hi gi di r4 (wpAny_done b5 hQ 0)
structure PaAt (P:Program) (F:Fr) (ops:Array Oper) (A E T H:Oper) (Ads:List Oper) (p:PA):Prop where
 m:paM P F.GL F.N A E T p=true
 ads:mts P F.GL F.N ops Ads p.ad=true
 h:H.guard=none∧mt1 P F.GL F.N H (.so p.ta p.d)=true
theorem PaAt.adk {A E T H:Oper} {Ads:List Oper} {p:PA} (h:PaAt P F ops A E T H Ads p): ∀o∈p.ad,adK o=true∧dstA o≠some p.d∧dstA o≠some p.te∧p.te∉usesA o∧ ∀t,dstA o=some t→t∉xs p.v++xs p.tl:=by
 have hm:=h.m
 simp only [paM,Bool.and_eq_true,List.all_eq_true,bne_iff_ne,ne_eq,Bool.not_eq_true'] at hm
 intro o ho
 obtain ⟨⟨⟨⟨⟨q1,q2⟩,q3⟩,q4⟩,q5⟩,q6⟩:=hm.2 o ho
 refine ⟨q1,q4,q5,by simpa using q3,fun t ht=>?_⟩
 rw [ht] at q6
 simp only [Option.all_some,Bool.and_eq_true,Bool.not_eq_true'] at q6
 simp only [List.mem_append,not_or]
 exact ⟨by simpa using q6.1,by simpa using q6.2⟩
theorem pa_any (h:Rel F S gb σ a w) {A E T H:Oper} {Ads:List Oper} {p:PA} {m:Nat} (hp:PaAt P F ops A E T H Ads p) (hA:ops[m]?=some A) (hE:ops[m+1]?=some E) (hT:ops[m+2]?=some T) (hAds: ∀j o,Ads[j]?=some o→ops[m+3+j]?=some o) (hH:ops[m+3+Ads.length]?=some H)
  (hd:paD1 ops m Ads.length=true) {K:St→Prop} (hw:pendW p (fun τ=>wpL (Spec P F.GL) (p.ad++[.so p.ta p.d]) K (τ.put p.te .undef)) σ) {Q:Exit→Act→World→Prop} (hQ: ∀S gb σ a w,Rel F S gb σ a w→K σ→Q .normal a w):
  wpAny P .any ops Q (ops.size - m) (firstL m ops.size) a w:=by
 simp only [paD1,Bool.and_eq_true,beq_iff_eq] at hd
 obtain ⟨⟨⟨hns,hsz⟩,hr0⟩,htk⟩:=hd
 have hm:=hp.m
 simp only [paM,Bool.and_eq_true,Option.isNone_iff_eq_none,bne_iff_ne,ne_eq] at hm
 obtain ⟨⟨⟨⟨⟨⟨⟨⟨⟨⟨hgA,hgE⟩,hgT⟩,-⟩,-⟩,-⟩,hne⟩,-⟩,hvd⟩,hvt⟩,-⟩:=hm
 obtain ⟨a1,e1,t1,a2,e2,u,e,g,c1,ty,us,off,w1,w2,S',τ,x1,x2,x3,x4,x5,x6,x7,x8,x9,x10⟩:=pend_core (P:=P) h hp.m hw
 have hadk:=hp.adk
 have hds:p.d<a.tmps.size:=by rw [h.size];exact a2
 have hput1:=fun t=>tv_put (a:=a) (u:=u) hds t
 have r9:=x9.put e2 (v:= .undef) (u:=e) (by simp [PR])
 have hput2:=fun t=>tv_put (a:=a.put (some p.d) u) (u:=e) (show p.te<(a.put (some p.d) u).tmps.size by rw [x9.size];exact e2) t
 obtain ⟨a',τ',q1,q2,q3,q4,q5,q6⟩:=ads_chain (base:=m+3) (D:=p.d) (L:=p.te::(xs p.v)) hp.ads hAds (fun o ho=>by
  obtain ⟨k1,k2,k3,k4,k5⟩:=hadk o ho
  refine ⟨k1,k2,fun t ht hm=>?_⟩
  rcases List.mem_cons.1 hm with rfl|hm
  ·exact k3 ht
  ·exact k5 t ht (by simp [hm])) r9 x10
 simp only [wpL] at q3
 have hkd:lkP τ'.pm (.s p.d)=some p.sz:=by
  rw [q4]
  have e0:(Pl.s p.d).at p.te=false:=by simp only [Pl.at,beq_eq_false_iff_ne,ne_eq];exact hne
  simp [St.put,lkP_dlS,e0,x8]
 obtain ⟨h1,gB,zB,id,offB,usB,TB,s1,s2,s3,s4,τ2,s5,s6⟩:=so_run (P:=P) q2 hp.h.2 hkd q3
 have hgg:gB≠g:=by
  intro e3
  subst e3
  have hd2:tv a' p.d=u:=by
   have z1:tv a' p.d=tv ((a.put (some p.d) u).put (some p.te) e) p.d:=q5
   rw [z1,hput2 p.d,if_neg (fun e=>hne e.symm),hput1 p.d,if_pos rfl]
  exact q2.hr.ownb (.s p.d) _ _ id zB hkd (by show (tv a' p.d).ownBlock=_;rw [hd2];exact x7) s2 s1
 have hfuel:ops.size - m=(2+((m+1)::List.range' (m+3) Ads.length).length)+1:=by
  rw [List.length_cons,List.length_range'];omega
 rw [hfuel]
 refine wpAny_monoQ (Q:=fun e a w=>e= .normal∧Q .normal a w) (fun e a w he=>by obtain ⟨rfl,q⟩:=he;exact q) _ _ _ _ ?_
 refine wpAny_all hr0 (by simp) fun k hk=>?_
 simp only [List.mem_cons,List.not_mem_nil,or_false] at hk
 subst hk
 unfold wpOp
 rw [hA]
 simp only [Region.wanted,hgA,if_true]
 refine .inl (wp_value x1 ?_)
 rw [a1]
 have hch:Chn P ops ((k+1)::List.range' (k+3) Ads.length) (a.put (some p.d) u) a':=by
  refine .cons (v:=e) hE (.inl ⟨by simp [Region.wanted,hgE],fun w=>x2 _ w (fun _ _=>rfl)⟩) ?_
  rw [e1]
  exact q1
 have w2g:w2.heap[gB]?=w1.heap[gB]?:=by rw [x4];exact setRow_other w1 g gB _ hgg
 refine takes hns (fun c a w q=>by cases q.1) htk hch fun l' hl'=>?_
 have hTr: ∀w':World,w'.heap[g]?=w1.heap[g]?→(execOp a'.eval T).run P w'= .ok .skip (w'.setRow g (c1.toList.take off++us++c1.toList.drop (off+us.length)).toArray):=by
  intro w' hw'
  refine x6 a' w' ?_ (fun t ht=>?_) hw'
  ·rw [q6 p.te (by simp)]
   have:=hput2 p.te
   rw [if_pos rfl] at this
   exact this
  ·rw [q6 t (by simp [ht])]
   have z1:=hput2 t
   have z2:=hput1 t
   have n1: ¬p.te=t:=fun e=>by subst e;simp only [Bool.not_eq_true',List.contains_eq_mem,decide_eq_false_iff_not] at hvt;exact hvt ht
   rw [if_neg n1] at z1
   have n2: ¬p.d=t:=fun e=>by subst e;simp only [Bool.not_eq_true',List.contains_eq_mem,decide_eq_false_iff_not] at hvd;exact hvd ht
   rw [if_neg n2] at z2
   exact z1.trans z2
 refine stores_any hT hH hgT hp.h.1 t1 h1 hl' (by omega) (wi:=w2) (by rw [x4];exact hTr w1 rfl) (s4 w2 rfl) (s4 w1 w2g.symm) ?_ ⟨rfl,hQ _ _ _ _ _ s5 s6⟩
 rw [hTr _ (setRow_other w1 gB g _ (fun e=>hgg e.symm)),setRow_comm _ _ _ _ _ hgg,←x4]
theorem pb_any (h:Rel F S gb σ a w) {A E T H:Oper} {Ads:List Oper} {p:PA} {m:Nat} (hp:PaAt P F ops A E T H Ads p) (hA:ops[m]?=some A) {ops2:Array Oper} (h2:ops2.toList=[E,T]) (hAds: ∀j o,Ads[j]?=some o→ops[m+1+j]?=some o) (hH:ops[m+1+Ads.length]?=some H)
  (hd:paD2 ops m Ads.length=true) {K:St→Prop} (hw:pendW p (fun τ=>wpL (Spec P F.GL) (p.ad++[.so p.ta p.d]) (fun τ=>K (τ.put p.te .undef)) τ) σ) {Q Q1:Exit→Act→World→Prop} (hQ: ∀S gb σ a w,Rel F S gb σ a w→K σ→Q .normal a w)
  (hQ1: ∀a w,wpList P ops2 Q ops2.toList a w→Q1 .normal a w):wpAny P .any ops Q1 (ops.size - m) (firstL m ops.size) a w:=by
 simp only [paD2,Bool.and_eq_true,beq_iff_eq] at hd
 obtain ⟨⟨⟨hns,hsz⟩,hr0⟩,htk⟩:=hd
 have hm:=hp.m
 simp only [paM,Bool.and_eq_true,Option.isNone_iff_eq_none,bne_iff_ne,ne_eq] at hm
 obtain ⟨⟨⟨⟨⟨⟨⟨⟨⟨⟨hgA,hgE⟩,hgT⟩,-⟩,-⟩,-⟩,hne⟩,htl⟩,hvd⟩,hvt⟩,-⟩:=hm
 obtain ⟨a1,e1,t1,a2,e2,u,e,g,c1,ty,us,off,w1,w2,S',τ,x1,x2,x3,x4,x5,x6,x7,x8,x9,x10⟩:=pend_core (P:=P) h hp.m hw
 have hadk:=hp.adk
 have hds:p.d<a.tmps.size:=by rw [h.size];exact a2
 have hput1:=fun t=>tv_put (a:=a) (u:=u) hds t
 obtain ⟨a',τ',q1,q2,q3,q4,q5,q6⟩:=ads_chain (base:=m+1) (D:=p.d) (L:=xs p.v++xs p.tl) hp.ads hAds (fun o ho=>by
  obtain ⟨k1,k2,k3,k4,k5⟩:=hadk o ho
  exact ⟨k1,k2,k5⟩) x9 x10
 simp only [wpL] at q3
 have hkd:lkP τ'.pm (.s p.d)=some p.sz:=by rw [q4,x8]
 have hd2:tv a' p.d=u:=by
  have z1:tv a' p.d=tv (a.put (some p.d) u) p.d:=q5
  rw [z1,hput1 p.d,if_pos rfl]
 obtain ⟨h1,gB,zB,id,offB,usB,TB,s1,s2,s3,s4,τ2,s5,s6⟩:=so_run (P:=P) q2 hp.h.2 hkd q3
 have hgg:gB≠g:=by
  intro e3
  subst e3
  exact q2.hr.ownb (.s p.d) _ _ id zB hkd (by show (tv a' p.d).ownBlock=_;rw [hd2];exact x7) s2 s1
 have hfuel:ops.size - m=(1+(List.range' (m+1) Ads.length).length)+1:=by
  rw [List.length_range'];omega
 rw [hfuel]
 refine wpAny_monoQ (Q:=fun e a w=>e= .normal∧Q1 .normal a w) (fun e a w he=>by obtain ⟨rfl,q⟩:=he;exact q) _ _ _ _ ?_
 refine wpAny_all hr0 (by simp) fun k hk=>?_
 simp only [List.mem_cons,List.not_mem_nil,or_false] at hk
 subst hk
 unfold wpOp
 rw [hA]
 simp only [Region.wanted,hgA,if_true]
 refine .inl (wp_value x1 ?_)
 rw [a1]
 have w2g:w2.heap[gB]?=w1.heap[gB]?:=by rw [x4];exact setRow_other w1 g gB _ hgg
 refine takes hns (fun c a w q=>by cases q.1) htk q1 fun l' hl'=>?_
 simp only [endB1,Bool.and_eq_true,beq_iff_eq] at hl'
 refine wpAny_all hl'.1 (by simp) fun j hj=>?_
 simp only [List.mem_cons,List.not_mem_nil,or_false] at hj
 subst hj
 unfold wpOp
 rw [hH]
 simp only [Region.wanted,hp.h.1,if_true]
 refine .inl (wp_skip' (s4 w1 w2g.symm) ?_)
 rw [h1,put_none]
 refine wpAny_done hl'.2 ⟨rfl,hQ1 _ _ ?_⟩ 0
 rw [h2]
 simp only [wpList,Region.wanted,hgE,hgT,if_true]
 refine .inl (wp_value (x2 a' _ (fun t ht=>?_)) ?_)
 ·rcases ht with rfl|ht
  ·exact q5
  ·exact q6 t (by simp [ht])
 rw [e1]
 have hsz':p.te<a'.tmps.size:=by rw [q2.size];exact e2
 have hput2:=fun t=>tv_put (a:=a') (u:=e) hsz' t
 refine .inl (wp_skip' (x6 (a'.put (some p.te) e) _ ?_ (fun t ht=>?_) (setRow_other w1 gB g _ (fun e=>hgg e.symm))) ?_)
 ·have:=hput2 p.te
  rw [if_pos rfl] at this
  exact this
 ·have z1:=hput2 t
  have z2:=hput1 t
  have n1: ¬p.te=t:=fun e=>by subst e;simp only [Bool.not_eq_true',List.contains_eq_mem,decide_eq_false_iff_not] at hvt;exact hvt ht
  have n2: ¬p.d=t:=fun e=>by subst e;simp only [Bool.not_eq_true',List.contains_eq_mem,decide_eq_false_iff_not] at hvd;exact hvd ht
  rw [if_neg n1] at z1
  rw [if_neg n2] at z2
  exact z1.trans ((q6 t (by simp [ht])).trans z2)
 ·rw [t1,put_none]
  rw [setRow_comm _ _ _ _ _ hgg,←x4]
  exact hQ _ _ _ _ _ (s5.put e2 (v:= .undef) (u:=e) (by simp [PR])) s6
theorem firstL_eq {m n:Nat} (hmn:m≤n) {listed:Array Bool} (h0:listed.size=n) (h1: ∀j,j<m→listed.getD j false=true) (h2: ∀j,m≤j→listed.getD j false=false):listed=firstL m n:=by
 apply Array.ext_getElem?
 intro j
 unfold firstL
 simp only [List.getElem?_toArray]
 by_cases hj:j<n
 ·have hj':j<listed.size:=by omega
  rw [Array.getElem?_eq_getElem hj']
  by_cases hm:j<m
  ·have:=h1 j hm
   simp [hj'] at this
   rw [this,List.getElem?_append_left (by simpa using hm)]
   simp [hm]
  ·have:=h2 j (by omega)
   simp [hj'] at this
   rw [this,List.getElem?_append_right (by simp;omega),List.getElem?_replicate,if_pos (by simp;omega)]
 ·rw [Array.getElem?_eq_none (by omega),List.getElem?_eq_none (by simp;omega)]
def drP (ops:Array Oper) (us:List (List Nat)) (l:List AOp) (two:Bool):Bool:=
 let A:=ancs ops.toList []
 okAnc ops.toList A&&us.length==l.length&&l.all okG&&((List.range l.length).all fun j=>(List.range j).all fun i=>okPair us l A i j)&&((List.range ops.size).all fun i=>Nat.blt i l.length||(List.range l.length).all fun k=>(A.getD i 0).testBit k)&&
  (if two then paD2 ops l.length (ops.size - l.length - 2) else paD1 ops l.length (ops.size - l.length - 4))
def drD (ops:Array Oper) (us:List (List Nat)) (l:List AOp):Bool:=match l.reverse with
 | .gd _ _ _ (.gd _ _ _ _):: .gd _ _ _ (.gd _ _ _ _)::r=>drP ops us r.reverse true
 | .gd _ _ _ (.gd _ _ _ _)::r=>drP ops us r.reverse false
 |_=>drD0 ops us l
theorem mts_at: ∀ {ol:List Oper} {al:List AOp},mts P F.GL F.N ops ol al=true→ ∀(i:Nat) (o:Oper),ol[i]?=some o→ ∃ao,al[i]?=some ao∧mt P F.GL F.N ops o ao=true:=by
 intro ol
 induction ol with
 |nil=>intro al _ i o h;simp at h
 |cons x r ih=>
  intro al hm i o h
  cases al with
  |nil=>simp [mts] at hm
  |cons y s=>
   simp only [mts,Bool.and_eq_true] at hm
   cases i with
   |zero=>simp at h;subst h;exact ⟨y,by simp,hm.1⟩
   |succ i=>simp at h ⊢;exact ih hm.2 i o h
theorem mts_len: ∀ {ol:List Oper} {al:List AOp},mts P F.GL F.N ops ol al=true→ol.length=al.length:=by
 intro ol
 induction ol with
 |nil=>intro al h;cases al with
  |nil=>rfl
  |cons=>simp [mts] at h
 |cons x r ih=>intro al h;cases al with
  |nil=>simp [mts] at h
  |cons y s=>simp only [mts,Bool.and_eq_true] at h;simp [ih h.2]
theorem pend_pre {ops:Array Oper} {us:List (List Nat)} {l:List AOp} {two:Bool} (hp:drP ops us l two=true) (hm:mts P F.GL F.N ops (ops.toList.take l.length) l=true) (hl:l.length≤ops.size) {K:St→Prop} {Q:Exit→Act→World→Prop}
  (hfin: ∀S gb τ a w,Rel F S gb τ a w→K τ→wpAny P .any ops Q (ops.size - l.length) (firstL l.length ops.size) a w)
  (h:Rel F S gb σ a w) (hw:wpLd (Spec P F.GL) us l 0 [] K σ):wpAny P .any ops Q ops.size (Array.replicate ops.size false) a {w with drawn:=w.drawn+1}:=by
 simp only [drP,Bool.and_eq_true,beq_iff_eq] at hp
 obtain ⟨⟨⟨⟨⟨p1,p2⟩,p3⟩,p4⟩,p5⟩,_⟩:=hp
 refine draws_pre (ut:=[]) (lt:=[]) (K:=K) hl p1 p2 p3 p4 (fun i o ho hi=>?_) (fun i hi1 hi2 k hk=>?_) ?_ h (by simpa using hw)
 ·exact mts_at hm i o (by rw [List.getElem?_take,if_pos hi];simpa using ho)
 ·have:=List.all_eq_true.1 p5 i (List.mem_range.2 hi2)
  simp only [Bool.or_eq_true] at this
  rcases this with q|q
  ·simp only [Nat.blt_eq] at q;omega
  ·exact List.all_eq_true.1 q k (List.mem_range.2 hk)
 ·intro listed a w h0 h1 h2 S gb τ j' h' hr hk
  rw [firstL_eq hl h0 h1 h2]
  exact hfin _ _ _ _ _ hr (by simpa [wpLd] using hk)
theorem step_op {i:Nat} {o:Oper} {ao:AOp} (ho:ops[i]?=some o) (hm:mt P F.GL F.N ops o ao=true) (h:Rel F S gb σ a w) {K:St→Prop} (hw:wp1 (Spec P F.GL) ao K σ) {K':Act→World→Prop} {Q:Exit→Act→World→Prop}
  (hK: ∀S gb σ a w,Rel F S gb σ a w→K σ→K' a w):wpOp P ops Q i K' a w:=by
 have:=opg_sound (ops:=ops) (Q:=Q) h hm hw hK
 unfold wpOp
 rw [ho]
 simp only
 split
 ·rename_i hc;rw [if_pos hc] at this;exact .inl this
 ·rename_i hc;rw [if_neg hc] at this;exact this
theorem nb_any {s d:Nat} (hc:nbC P F.GL F.N ops s d=true) {K:St→Prop} {Q:Exit→Act→World→Prop} (hQ: ∀S gb σ a w,Rel F S gb σ a w→K σ→Q .normal a w)
  (h:Rel F S gb σ a w) (h1:wpL (Spec P F.GL) (nbL s d false) K σ) (h2:wpL (Spec P F.GL) (nbL s d true) K σ):wpAny P .any ops Q ops.size (Array.replicate ops.size false) a {w with drawn:=w.drawn+1}:=by
 simp only [nbC,Bool.and_eq_true,beq_iff_eq] at hc
 obtain ⟨hm,⟨⟨⟨⟨⟨⟨⟨r0,r1⟩,r2⟩,r3⟩,r4⟩,r5⟩,r6⟩,r7⟩⟩:=hc
 have hl:ops.size=4:=by simpa [nbL] using mts_len hm
 have at': ∀i,i<4→ ∃o,ops[i]?=some o:=fun i hi=>⟨ops[i]'(by omega),by rw [Array.getElem?_eq_getElem]⟩
 obtain ⟨o0,e0⟩:=at' 0 (by decide)
 obtain ⟨o1,e1⟩:=at' 1 (by decide)
 obtain ⟨o2,e2⟩:=at' 2 (by decide)
 obtain ⟨o3,e3⟩:=at' 3 (by decide)
 have m0:mt P F.GL F.N ops o0 (.al s [.bool false])=true:=by
  obtain ⟨ao,q1,q2⟩:=mts_at hm 0 o0 (by simpa using e0);simp [nbL] at q1;subst q1;exact q2
 have m1:mt P F.GL F.N ops o1 (.st 1 (.s s) (.c (.bool true)))=true:=by
  obtain ⟨ao,q1,q2⟩:=mts_at hm 1 o1 (by simpa using e1);simp [nbL] at q1;subst q1;exact q2
 have m2:mt P F.GL F.N ops o2 (.st 1 (.s s) (.c (.bool false)))=true:=by
  obtain ⟨ao,q1,q2⟩:=mts_at hm 2 o2 (by simpa using e2);simp [nbL] at q1;subst q1;exact q2
 have m3:mt P F.GL F.N ops o3 (.lds d (.s s))=true:=by
  obtain ⟨ao,q1,q2⟩:=mts_at hm 3 o3 (by simpa using e3);simp [nbL] at q1;subst q1;exact q2
 have one: ∀ {l:List Nat} {i:Nat},i∈l→l=[i]→True:=fun _ _=>trivial
 rw [show ops.size=0+1+1+1+1 from hl]
 have hsz:Array.replicate (0+1+1+1+1) false=Array.replicate ops.size false:=by rw [hl]
 rw [hsz]
 have both:wp1 (Spec P F.GL) (.al s [.bool false]) (fun τ=>wpL (Spec P F.GL) [.st 1 (.s s) (.c (.bool true)),.st 1 (.s s) (.c (.bool false)),.lds d (.s s)] K τ∧wpL (Spec P F.GL) [.st 1 (.s s) (.c (.bool false)),.st 1 (.s s) (.c (.bool true)),.lds d (.s s)] K τ) σ:=by
  cases hq:lkB σ.bx (.n s) with
  |some x=>
   simp only [nbL,wpL,wp1,hq] at h1
  |none=>
   have f1:wp1 (Spec P F.GL) (.al s [.bool false]) (wpL (Spec P F.GL) [.st 1 (.s s) (.c (.bool true)),.st 1 (.s s) (.c (.bool false)),.lds d (.s s)] K) σ:=h1
   have f2:wp1 (Spec P F.GL) (.al s [.bool false]) (wpL (Spec P F.GL) [.st 1 (.s s) (.c (.bool false)),.st 1 (.s s) (.c (.bool true)),.lds d (.s s)] K) σ:=h2
   generalize wpL (Spec P F.GL) [.st 1 (.s s) (.c (.bool true)),.st 1 (.s s) (.c (.bool false)),.lds d (.s s)] K=K1 at *
   generalize wpL (Spec P F.GL) [.st 1 (.s s) (.c (.bool false)),.st 1 (.s s) (.c (.bool true)),.lds d (.s s)] K=K2 at *
   simp only [wp1,hq] at f1 f2 ⊢
   exact ⟨f1,f2⟩
 refine wpAny_all r0 (by simp) fun k hk=>?_
 simp only [List.mem_singleton] at hk
 subst hk
 refine step_op e0 m0 h.drew both fun S gb σ a w hr hb=>?_
 refine wpAny_all r1 (by simp) fun k hk=>?_
 simp only [List.mem_cons,List.not_mem_nil,or_false] at hk
 rcases hk with rfl|rfl
 ·refine step_op e1 m1 hr hb.1 fun S gb σ a w hr hb=>?_
  refine wpAny_all r2 (by simp) fun k hk=>?_
  simp only [List.mem_singleton] at hk
  subst hk
  refine step_op e2 m2 hr hb fun S gb σ a w hr hb=>?_
  refine wpAny_all r4 (by simp) fun k hk=>?_
  simp only [List.mem_singleton] at hk
  subst hk
  exact step_op e3 m3 hr hb fun S gb σ a w hr hb=>wpAny_done r6 (hQ _ _ _ _ _ hr hb) 0
 ·refine step_op e2 m2 hr hb.2 fun S gb σ a w hr hb=>?_
  refine wpAny_all r3 (by simp) fun k hk=>?_
  simp only [List.mem_singleton] at hk
  subst hk
  refine step_op e1 m1 hr hb fun S gb σ a w hr hb=>?_
  refine wpAny_all r5 (by simp) fun k hk=>?_
  simp only [List.mem_singleton] at hk
  subst hk
  exact step_op e3 m3 hr hb fun S gb σ a w hr hb=>wpAny_done r7 (hQ _ _ _ _ _ hr hb) 0
theorem drop_at' {α:Type} {l:List α} {m:Nat} {r:List α} (h:l.drop m=r) (j:Nat):l[m+j]?=r[j]?:=by rw [←h,List.getElem?_drop]
structure DrawsAny (P:Program) (GL:List (Nat×List Value)) (N:Nat) (dr:Array Oper→List (List Nat)→List AOp→Bool):Prop where
 rd: ∀(F:Fr),F.GL=GL→F.N=N→ ∀(ops:Array Oper) (us:List (List Nat)) (l:List AOp),mts P F.GL F.N ops ops.toList l=true→dr ops us l=true→ ∀(K:St→Prop) (Q:Exit→Act→World→Prop),(∀S gb σ a w,Rel F S gb σ a w→K σ→Q .normal a w)→
  ∀ {S:Mem} {gb:Gb} {σ:St} {a:Act} {w:World},Rel F S gb σ a w→wpLd (Spec P F.GL) us l 0 [] K σ→wpAny P .any ops Q ops.size (Array.replicate ops.size false) a {w with drawn:=w.drawn+1}
 pa: ∀(F:Fr),F.GL=GL→F.N=N→ ∀(ops:Array Oper) (us:List (List Nat)) (l:List AOp) (p:PA),paC P F.GL F.N ops l p=true→dr ops us (l++[mark])=true→ ∀(K:St→Prop) (Q:Exit→Act→World→Prop),(∀S gb σ a w,Rel F S gb σ a w→K σ→Q .normal a w)→
  ∀ {S:Mem} {gb:Gb} {σ:St} {a:Act} {w:World},Rel F S gb σ a w→wpLd (Spec P F.GL) us l 0 [] (pendW p (fun τ=>wpL (Spec P F.GL) (p.ad++[.so p.ta p.d]) K (τ.put p.te .undef))) σ→wpAny P .any ops Q ops.size (Array.replicate ops.size false) a {w with drawn:=w.drawn+1}
 pb: ∀(F:Fr),F.GL=GL→F.N=N→ ∀(ops ops2:Array Oper) (us:List (List Nat)) (l:List AOp) (p:PA),pbC P F.GL F.N ops ops2 l p=true→dr ops us (l++[mark,mark])=true→ ∀(K:St→Prop) (Q Q1:Exit→Act→World→Prop),(∀S gb σ a w,Rel F S gb σ a w→K σ→Q .normal a w)→
  (∀a w,wpList P ops2 Q ops2.toList a w→Q1 .normal a w)→
  ∀ {S:Mem} {gb:Gb} {σ:St} {a:Act} {w:World},Rel F S gb σ a w→wpLd (Spec P F.GL) us l 0 [] (pendW p (fun τ=>wpL (Spec P F.GL) (p.ad++[.so p.ta p.d]) (fun τ=>K (τ.put p.te .undef)) τ)) σ→wpAny P .any ops Q1 ops.size (Array.replicate ops.size false) a {w with drawn:=w.drawn+1}
 nb: ∀(F:Fr),F.GL=GL→F.N=N→ ∀(ops:Array Oper) (s d:Nat),nbC P F.GL F.N ops s d=true→ ∀(K:St→Prop) (Q:Exit→Act→World→Prop),(∀S gb σ a w,Rel F S gb σ a w→K σ→Q .normal a w)→
  ∀ {S:Mem} {gb:Gb} {σ:St} {a:Act} {w:World},Rel F S gb σ a w→wpL (Spec P F.GL) (nbL s d false) K σ→wpL (Spec P F.GL) (nbL s d true) K σ→wpAny P .any ops Q ops.size (Array.replicate ops.size false) a {w with drawn:=w.drawn+1}
theorem draws_any {GL:List (Nat×List Value)} {N:Nat}:DrawsAny P GL N drD where
 nb:=fun F hGL hN ops s d hc K Q hQ {S gb σ a w} hr h1 h2=>nb_any hc hQ hr h1 h2
 rd:=by
  intro F hGL hN ops us l hmts hdr K Q hQ S gb σ a w hrel hw
  have no: ∀ {r:List AOp} {x1 x2 x3 y1 y2 y3 z},l.reverse= .gd x1 x2 x3 (.gd y1 y2 y3 z)::r→False:=by
   intro r x1 x2 x3 y1 y2 y3 z e
   have e2:l=r.reverse++[.gd x1 x2 x3 (.gd y1 y2 y3 z)]:=by rw [←List.reverse_reverse l,e];simp
   have hl:=mts_len hmts
   have hlen:l.length=r.length+1:=by rw [e2];simp
   obtain ⟨o,ho⟩: ∃o,ops.toList[r.length]?=some o:=⟨ops.toList[r.length]'(by omega),by rw [List.getElem?_eq_getElem]⟩
   obtain ⟨ao,h1,h2⟩:=mts_at hmts _ _ ho
   rw [e2,List.getElem?_append_right (by simp)] at h1
   simp at h1
   subst h1
   simp [mt,mt1] at h2
  have:drD0 ops us l=true:=by
   unfold drD at hdr
   split at hdr
   ·rename_i e;exact (no e).elim
   ·rename_i e;exact (no e).elim
   ·exact hdr
  exact draws_any0 F hGL hN ops us l hmts this K Q hQ hrel hw
 pa:=by
  intro F hGL hN ops us l p hc hdr K Q hQ S gb σ a w hrel hw
  simp only [paC,Bool.and_eq_true] at hc
  obtain ⟨hm,hc⟩:=hc
  split at hc<;>(try cases hc)
  rename_i A E T r hr
  simp only [Bool.and_eq_true] at hc
  obtain ⟨⟨h1,h2⟩,h3⟩:=hc
  split at h3<;>(try cases h3)
  rename_i H hH
  simp only [Bool.and_eq_true,Option.isNone_iff_eq_none] at h3
  have hrl:r.length=p.ad.length+1:=by
   have:=congrArg List.length hH
   simp at this
   omega
  have hsz:ops.size=l.length+3+(p.ad.length+1):=by
   have:=congrArg List.length hr
   simp at this
   omega
  have hadl:(r.take p.ad.length).length=p.ad.length:=by simp;omega
  have hd:drP ops us l false=true:=by
   unfold drD at hdr
   rw [List.reverse_append] at hdr
   simp only [List.reverse_cons,List.reverse_nil,List.nil_append,List.cons_append] at hdr
   split at hdr
   ·rename_i r' e
    exfalso
    have e2:=(List.cons.inj e).2
    have e3:=(List.reverse_reverse l).symm
    rw [e2,List.reverse_cons] at e3
    have hlen:l.length=r'.length+1:=by rw [e3];simp
    obtain ⟨o,ho⟩: ∃o,(ops.toList.take l.length)[r'.length]?=some o:=⟨_,List.getElem?_eq_getElem (by simp;omega)⟩
    obtain ⟨ao,g1,g2⟩:=mts_at hm _ _ ho
    rw [e3,List.getElem?_append_right (by simp)] at g1
    simp at g1
    subst g1
    simp [mt,mt1] at g2
   ·rename_i r' _ e
    have e2:l.reverse=r':=(List.cons.inj e).2
    rw [←e2,List.reverse_reverse] at hdr
    exact hdr
   ·rename_i hx hy
    exact (hy _ _ _ _ _ _ _ _ rfl).elim
  have hd1:paD1 ops l.length (r.take p.ad.length).length=true:=by
   have:=hd
   simp only [drP,Bool.and_eq_true] at this
   have:=this.2
   rw [hadl]
   rw [show ops.size - l.length - 4=p.ad.length by omega] at this
   simpa using this
  refine pend_pre hd hm (by omega) (fun S gb τ a w hr' hk=>?_) hrel hw
  refine pa_any hr' (A:=A) (E:=E) (T:=T) (H:=H) (Ads:=r.take p.ad.length) (p:=p) ⟨h1,h2,h3⟩ ?_ ?_ ?_ (fun j o ho=>?_) ?_ hd1 hk hQ
  ·have:=drop_at' hr 0;simpa using this
  ·have:=drop_at' hr 1;simpa using this
  ·have:=drop_at' hr 2;simpa using this
  ·have:=drop_at' hr (3+j)
   rw [show l.length+3+j=l.length+(3+j) by omega]
   rw [Array.getElem?_toList] at this
   rw [this,show 3+j=j+1+1+1 by omega]
   simp only [List.getElem?_cons_succ]
   rw [List.getElem?_take] at ho
   split at ho
   ·exact ho
   ·cases ho
  ·have:=drop_at' hr (3+p.ad.length)
   rw [hadl,show l.length+3+p.ad.length=l.length+(3+p.ad.length) by omega]
   rw [Array.getElem?_toList] at this
   rw [this,show 3+p.ad.length=p.ad.length+1+1+1 by omega]
   simp only [List.getElem?_cons_succ]
   have:=drop_at' hH 0
   simpa using this
 pb:=by
  intro F hGL hN ops ops2 us l p hc hdr K Q Q1 hQ hQ1 S gb σ a w hrel hw
  simp only [pbC,Bool.and_eq_true] at hc
  obtain ⟨hm,hc⟩:=hc
  split at hc<;>(try cases hc)
  rename_i A r E T hr h2e
  simp only [Bool.and_eq_true] at hc
  obtain ⟨⟨h1,h2⟩,h3⟩:=hc
  split at h3<;>(try cases h3)
  rename_i H hH
  simp only [Bool.and_eq_true,Option.isNone_iff_eq_none] at h3
  have hrl:r.length=p.ad.length+1:=by
   have:=congrArg List.length hH
   simp at this
   omega
  have hsz:ops.size=l.length+1+(p.ad.length+1):=by
   have:=congrArg List.length hr
   simp at this
   omega
  have hadl:(r.take p.ad.length).length=p.ad.length:=by simp;omega
  have hd:drP ops us l true=true:=by
   unfold drD at hdr
   rw [List.reverse_append] at hdr
   simp only [List.reverse_cons,List.reverse_nil,List.nil_append,List.cons_append,List.reverse_reverse,mark] at hdr
   exact hdr
  have hd1:paD2 ops l.length (r.take p.ad.length).length=true:=by
   have:=hd
   simp only [drP,Bool.and_eq_true] at this
   have:=this.2
   rw [hadl]
   rw [show ops.size - l.length - 2=p.ad.length by omega] at this
   simpa using this
  refine pend_pre hd hm (by omega) (fun S gb τ a w hr' hk=>?_) hrel hw
  refine pb_any hr' (A:=A) (E:=E) (T:=T) (H:=H) (Ads:=r.take p.ad.length) (p:=p) ⟨h1,h2,h3⟩ ?_ h2e (fun j o ho=>?_) ?_ hd1 hk hQ hQ1
  ·have:=drop_at' hr 0;simpa using this
  ·have:=drop_at' hr (1+j)
   rw [show l.length+1+j=l.length+(1+j) by omega]
   rw [Array.getElem?_toList] at this
   rw [this,show 1+j=j+1 by omega]
   simp only [List.getElem?_cons_succ]
   rw [List.getElem?_take] at ho
   split at ho
   ·exact ho
   ·cases ho
  ·have:=drop_at' hr (1+p.ad.length)
   rw [hadl,show l.length+1+p.ad.length=l.length+(1+p.ad.length) by omega]
   rw [Array.getElem?_toList] at this
   rw [this,show 1+p.ad.length=p.ad.length+1 by omega]
   simp only [List.getElem?_cons_succ]
   have:=drop_at' hH 0
   simpa using this
theorem draws_ok {GL:List (Nat×List Value)} {N:Nat} (hmix:P.follows .mixedOrders=true):DrawsOk P GL N drD where
 rd:=fun F hGL hN id ops us l hmts hdr K Q hQ {S gb σ a w} hrel hw=>wp_region_any hmix (draws_any.rd F hGL hN ops us l hmts hdr K Q hQ hrel hw)
 pa:=fun F hGL hN id ops us l p hc hdr K Q hQ {S gb σ a w} hrel hw=>wp_region_any hmix (draws_any.pa F hGL hN ops us l p hc hdr K Q hQ hrel hw)
 nb:=fun F hGL hN id ops s d hc K Q hQ {S gb σ a w} hr h1 h2=>wp_region_any hmix (draws_any.nb F hGL hN ops s d hc K Q hQ hr h1 h2)
 pb:=fun F hGL hN id ops ops2 us l p hc hdr K Q Q1 hQ hQ1 {S gb σ a w} hrel hw=>wp_region_any hmix (draws_any.pb F hGL hN ops ops2 us l p hc hdr K Q Q1 hQ hQ1 hrel hw)
end Go.Ai
namespace Go.Ai

attribute [simp] ev lk lkB stB lkP dl dlr dlS St.v St.put St.puto bin cellEq cellsEq loadS loadN AV.cs shut shutL shutN shutNL rowsOf rowsN rowsI buildA bnd bid offH offO addH djB inF AE.sq AE.bl resA oneA postA initE AV.ids idsL Pl.ids wkL wkB nilAt bytesA rowBytes byteCells rmB dlB purE rnP Pl.lt Id.isUp Id.isIt mapOf AV.mk AV.mkk MK.av
def onS (K:St→Prop) (σ:St):Option (Nat×AV)→Prop
 |some (d,v)=>K (σ.put d v)
 |none=>False
def onB (A B:St→Prop) (σ:St):AV→Prop
 | .bool t=>if t=true then A σ else B σ
 |_=>False
def onC (S:Nat→Nat→In→Out→Prop) (f d:Nat) (K:St→Prop) (σ:St):Option (List AV)→Prop
 |some l=> ∃r,pureS S f l r∧K (σ.put d r)
 |none=>False
def onU (K:St→Prop) (d:Nat) (σ:St):Prop:=K (σ.put d (.tup []))
def onG (b:Bool) (A U:St→Prop) (σ:St) (v:AV):Prop:=match gdv v b with
 |some true=>A σ
 |some false=>U σ
 |none=>False
attribute [simp] wp1.eq_1 wp1.eq_2 wp1.eq_3 wp1.eq_4 wp1.eq_5 wp1.eq_6 wp1.eq_7 wp1.eq_8 wp1.eq_9 wp1.eq_10 wp1.eq_11 wp1.eq_12 wp1.eq_13 wp1.eq_14 wp1.eq_15 wp1.eq_16 wp1.eq_17 wp1.eq_18 wp1.eq_19 wp1.eq_20 wp1.eq_21 wp1.eq_22 wp1.eq_23 wp1.eq_24 wp1.eq_25 wp1.eq_26 wp1.eq_27
def onA (S:Nat→Nat→In→Out→Prop) (f d:Nat) (s:Option X) (ps:List X) (K:St→Prop) (σ:St):Prop:= ∃k out,caS S f σ s ps k out∧K (caSt d s (.sl out) k σ)
@[simp] theorem onU_eq {K:St→Prop} {d:Nat} {σ:St}:onU K d σ=K (σ.put d (.tup [])):=rfl
section
variable {S:Nat→Nat→In→Out→Prop} {Q:AE→St→Prop} {σ:St} {B:St→Prop}
@[simp] theorem wpA_sk:wpA S .sk Q σ=Q .n σ:=rfl
@[simp] theorem wpA_rg {l}:wpA S (.rg l) Q σ=wpL S l (Q .n) σ:=rfl
@[simp] theorem wpA_rd {us l}:wpA S (.rd us l) Q σ=wpLd S us l 0 [] (Q .n) σ:=rfl
@[simp] theorem wpA_sq {a b}:wpA S (.sq a b) Q σ=wpA S a (AE.sq (wpA S b Q) Q) σ:=rfl
@[simp] theorem wpA_bl {i a}:wpA S (.bl i a) Q σ=wpA S a (AE.bl i Q) σ:=rfl
@[simp] theorem wpA_ex {i}:wpA S (.ex i) Q σ=Q (.x i) σ:=rfl
@[simp] theorem wpA_rt:wpA S .rt Q σ=Q .r σ:=rfl
@[simp] theorem wpA_sc {a}:wpA S (.sc a) Q σ=wpA S a Q σ:=rfl
@[simp] theorem wpA_lb:wpA S .lb Q σ=Q .n σ:=rfl
@[simp] theorem wpA_no:wpA S .no Q σ=False:=rfl
def onZ (K:St→Prop) (s:Nat) (σ:St):Prop:= ∃b n sz rows tl,FrzOk2 σ s b n sz rows tl∧sz<4294967296∧K (frzStP σ s b sz rows)
theorem onZ_mk {K:St→Prop} {s:Nat} {σ:St} (b:Id) (n sz:Nat) (rows:List (List AV)) (tl:List AV) (h:FrzOk2 σ s b n sz rows tl) (hz:sz<4294967296) (hk:K (frzStP σ s b sz rows)):onZ K s σ:=⟨b,n,sz,rows,tl,h,hz,hk⟩
def onP2 (p:PA) (R:St→Prop) (σ:St):Option (List AV)→AV→AV→AV→Prop
 |some vs,.int _ n,.sl [z],.sl rows=> ∃vs',shutL vs=some vs'∧vs'.length=p.sz∧z.length=p.sz∧n=rows.length∧lkP σ.pm (.s p.s)=some p.sz∧(rows.length+1)*p.by_≤lim∧(∀r∈rows,r.length=p.sz)∧
   R ⟨(p.d,.sl (rows++[vs']))::σ.e,σ.bx,(.s p.d,p.sz)::dlS (dl σ.pm (.s p.s)) p.d⟩
 |some vs,.int _ n,.sl [z],.nils=> ∃vs',shutL vs=some vs'∧vs'.length=p.sz∧z.length=p.sz∧n=0∧p.by_≤lim∧R (σ.puto p.d (.sl [vs']) p.sz)
 |_,_,_,_=>False
theorem pendW_of {p:PA} {R:St→Prop} {σ:St} (h:onP2 p R σ (σ.v p.v).cs (σ.v p.tl) (σ.v p.y) (lk σ.e p.s)):pendW p R σ:=by
 unfold pendW
 revert h
 generalize (σ.v p.v).cs=a1
 generalize σ.v p.tl=a2
 generalize σ.v p.y=a3
 generalize lk σ.e p.s=a4
 intro h
 unfold onP2 at h
 split at h
 ·obtain ⟨vs',h1,h2⟩:=h
  simp only [h1]
  exact h2
 ·obtain ⟨vs',h1,h2⟩:=h
  simp only [h1]
  exact h2
 ·exact h.elim
theorem wpA_pa {us:List (List Nat)} {l:List AOp} {p:PA}:wpA S (.pa us l p) Q σ=wpLd S us l 0 [] (pendW p (fun τ=>wpL S (p.ad++[.so p.ta p.d]) (Q .n) (τ.put p.te .undef))) σ:=rfl
theorem wpA_pb {us:List (List Nat)} {l:List AOp} {p:PA}:wpA S (.pb us l p) Q σ=wpLd S us l 0 [] (pendW p (fun τ=>wpL S (p.ad++[.so p.ta p.d]) (fun τ=>Q .n (τ.put p.te .undef)) τ)) σ:=rfl
theorem wpA_nb {s d:Nat}:wpA S (.nb s d) Q σ=(wpL S (nbL s d false) (Q .n) σ∧wpL S (nbL s d true) (Q .n) σ):=rfl
attribute [simp] wpA_pa wpA_pb wpA_nb
@[simp] theorem wpA_fz {s l}:wpA S (.fz s l) Q σ=onZ (wpL S l (Q .n)) s σ:=rfl
@[simp] theorem wpA_cd {x a b}:wpA S (.cd x a b) Q σ=onB (wpA S a Q) (wpA S b Q) σ (σ.v x):=rfl
variable {K A:St→Prop}
@[simp] theorem onS_some {d v}:onS K σ (some (d,v))=K (σ.put d v):=rfl
@[simp] theorem onS_none:onS K σ none=False:=rfl
@[simp] theorem onB_true:onB A B σ (.bool true)=A σ:=rfl
@[simp] theorem onB_false:onB A B σ (.bool false)=B σ:=rfl
theorem onB_mk {t:Bool} (h1:t=true→A σ) (h2:t=false→B σ):onB A B σ (.bool t):=by cases t;exact h2 rfl;exact h1 rfl
theorem onB_dec {p:Prop} [Decidable p] (h1:p→A σ) (h2: ¬p→B σ):onB A B σ (.bool (decide p)):=by by_cases h:p<;>simp only [h,decide_true,decide_false,onB_true,onB_false];exact h1 h;exact h2 h
@[simp] theorem wpL_nil:wpL S [] K σ=K σ:=rfl
@[simp] theorem wpL_cons {o r}:wpL S (o::r) K σ=wp1 S o (wpL S r K) σ:=rfl
@[simp] theorem wpLd_nil {j h}:wpLd S [] [] j h K σ=K σ:=rfl
@[simp] theorem wpLd_cons {u us o r j h}:wpLd S (u::us) (o::r) j h K σ=(offO h u (bid σ o)∧wp1 S o (kpK h u (wpLd S us r (j+1) (addH h j (bid σ o)) K)) σ):=rfl
@[simp] theorem kpK_nil {u}:kpK [] u K=K:=rfl
@[simp] theorem kpK_one {i b h u}:kpK ((i,.one b)::h) u K=kpK h u K:=rfl
@[simp] theorem kpK_fr {i l h u}:kpK ((i,.fr l)::h) u K=kpK h u K:=rfl
@[simp] theorem kpK_cel {i b off v h u}:kpK ((i,.cel b off v)::h) u K σ=((i∈u→loadS σ.bx (.ptr b off)=some v)∧kpK h u K σ):=rfl
@[simp] theorem wp1_cl {d f xs}:wp1 S (.cl d f xs) K σ=onC S f d K σ (shutL (xs.map σ.v)):=rfl
@[simp] theorem wp1_ca {d f s ps}:wp1 S (.ca d f s ps) K σ=onA S f d s ps K σ:=rfl
attribute [simp] wp1.eq_32 wp1.eq_33
def onR (S:Nat→Nat→In→Out→Prop) (f d:Nat) (K:St→Prop) (σ:St):List AV→Prop
 | .ptr b o::r=>match lkB σ.bx b with
  |some cs=> ∃v,(∀e,b.isNw e=false→S f e ⟨.ptr b o::r,[(b,cs)],[]⟩ ⟨v,[(b,cs)],[]⟩)∧K ⟨(d,v)::σ.e,σ.bx,dlS (dlB σ.pm b) d⟩
  |none=>False
 |_=>False
@[simp] theorem wp1_cr {d f xs}:wp1 S (.cr d f xs) K σ=onR S f d K σ (xs.map σ.v):=by rw [wp1];rfl
theorem onR_mk {b:Id} {o:Nat} {r cs:List AV} {f d:Nat} (v:AV) (hb:lkB σ.bx b=some cs) (h: ∀e,b.isNw e=false→S f e ⟨.ptr b o::r,[(b,cs)],[]⟩ ⟨v,[(b,cs)],[]⟩) (hk:K ⟨(d,v)::σ.e,σ.bx,dlS (dlB σ.pm b) d⟩):onR S f d K σ (.ptr b o::r):=by
 simp only [onR,hb];exact ⟨v,h,hk⟩
def onQ (S:Nat→Nat→In→Out→Prop) (f d:Nat) (xs:List X) (fr:List Nat) (K:St→Prop) (σ:St):Prop:= ∃I O,S f d I O∧CallOk d σ xs I O∧(CqOk fr I O∧fr.contains d=false)∧K (callSt d σ xs I O)
@[simp] theorem wp1_cq {d f xs fr}:wp1 S (.cq d f xs fr) K σ=onQ S f d xs fr K σ:=by rw [wp1];rfl
@[simp] theorem wp1_gd {s b d o}:wp1 S (.gd s b d o) K σ=onG b (wp1 S o K) (onU K d) σ (lk σ.e s):=by
 rw [wp1];rfl
@[simp] theorem onG_bool {b t:Bool} {A U:St→Prop}:onG b A U σ (.bool t)=onB (if true=b then A else U) (if false=b then A else U) σ (.bool t):=by
 cases t<;>cases b<;>rfl
@[simp] theorem onG_tup {b:Bool} {A U:St→Prop}:onG b A U σ (.tup [])=U σ:=rfl
@[simp] theorem wp1_mv {d x}:wp1 S (.mv d x) K σ=onS K σ (ev σ (.mv d x)):=rfl
@[simp] theorem wp1_pk {d c a b}:wp1 S (.pk d c a b) K σ=onS K σ (ev σ (.pk d c a b)):=rfl
@[simp] theorem wp1_bi {d op x y}:wp1 S (.bi d op x y) K σ=onS K σ (ev σ (.bi d op x y)):=rfl
@[simp] theorem wp1_bb {d n x y}:wp1 S (.bb d n x y) K σ=onS K σ (ev σ (.bb d n x y)):=rfl
@[simp] theorem wp1_ea {d n ks x y}:wp1 S (.ea d n ks x y) K σ=onS K σ (ev σ (.ea d n ks x y)):=rfl
@[simp] theorem wp1_bq {d x}:wp1 S (.bq d x) K σ=onS K σ (ev σ (.bq d x)):=rfl
@[simp] theorem wp1_pn {d n x}:wp1 S (.pn d n x) K σ=onS K σ (ev σ (.pn d n x)):=rfl
@[simp] theorem wp1_un {d op x}:wp1 S (.un d op x) K σ=onS K σ (ev σ (.un d op x)):=rfl
@[simp] theorem wp1_cv {d k x}:wp1 S (.cv d k x) K σ=onS K σ (ev σ (.cv d k x)):=rfl
@[simp] theorem wp1_lns {d x}:wp1 S (.lns d x) K σ=onS K σ (ev σ (.lns d x)):=rfl
@[simp] theorem wp1_ln {d x}:wp1 S (.ln d x) K σ=onS K σ (ev σ (.ln d x)):=rfl
@[simp] theorem wp1_fa {d x o}:wp1 S (.fa d x o) K σ=onS K σ (ev σ (.fa d x o)):=rfl
@[simp] theorem wp1_ia {d s x i}:wp1 S (.ia d s x i) K σ=onS K σ (ev σ (.ia d s x i)):=rfl
@[simp] theorem wp1_iaa {d s n x i}:wp1 S (.iaa d s n x i) K σ=onS K σ (ev σ (.iaa d s n x i)):=rfl
@[simp] theorem wp1_lds {d x}:wp1 S (.lds d x) K σ=onS K σ (ev σ (.lds d x)):=rfl
@[simp] theorem wp1_ldf {d x}:wp1 S (.ldf d x) K σ=onS K σ (ev σ (.ldf d x)):=rfl
@[simp] theorem wp1_lda {d n x}:wp1 S (.lda d n x) K σ=onS K σ (ev σ (.lda d n x)):=rfl
@[simp] theorem wp1_bd {d z ps}:wp1 S (.bd d z ps) K σ=onS K σ (ev σ (.bd d z ps)):=rfl
@[simp] theorem wp1_fls {d o x}:wp1 S (.fls d o x) K σ=onS K σ (ev σ (.fls d o x)):=rfl
@[simp] theorem wp1_fla {d o n x}:wp1 S (.fla d o n x) K σ=onS K σ (ev σ (.fla d o n x)):=rfl
@[simp] theorem wp1_ixs {d x i}:wp1 S (.ixs d x i) K σ=onS K σ (ev σ (.ixs d x i)):=rfl
@[simp] theorem wp1_exq {d x i}:wp1 S (.exq d x i) K σ=onS K σ (ev σ (.exq d x i)):=rfl
@[simp] theorem wp1_mf {d f xs}:wp1 S (.mf d f xs) K σ=onS K σ (ev σ (.mf d f xs)):=rfl
@[simp] theorem wp1_b2s {d x}:wp1 S (.b2s d x) K σ=onS K σ (ev σ (.b2s d x)):=rfl
@[simp] theorem wp1_i2s {d x}:wp1 S (.i2s d x) K σ=onS K σ (ev σ (.i2s d x)):=rfl
@[simp] theorem wp1_inl {d n x}:wp1 S (.inl d n x) K σ=onS K σ (ev σ (.inl d n x)):=rfl
@[simp] theorem wp1_ixa {d s n g x i}:wp1 S (.ixa d s n g x i) K σ=onS K σ (ev σ (.ixa d s n g x i)):=rfl
@[simp] theorem wp1_mpl {d x}:wp1 S (.mpl d x) K σ=onS K σ (ev σ (.mpl d x)):=rfl
@[simp] theorem wp1_mlk {d q z m k ok}:wp1 S (.mlk d q z m k ok) K σ=onS K σ (ev σ (.mlk d q z m k ok)):=rfl
@[simp] theorem wp1_mn {d x y}:wp1 S (.mn d x y) K σ=onS K σ (ev σ (.mn d x y)):=rfl
@[simp] theorem wp1_mx {d x y}:wp1 S (.mx d x y) K σ=onS K σ (ev σ (.mx d x y)):=rfl
@[simp] theorem wp1_mi {d T x}:wp1 S (.mi d T x) K σ=onS K σ (ev σ (.mi d T x)):=rfl
@[simp] theorem wp1_ta {d T z x ok}:wp1 S (.ta d T z x ok) K σ=onS K σ (ev σ (.ta d T z x ok)):=rfl
@[simp] theorem wp1_nc {d x}:wp1 S (.nc d x) K σ=onS K σ (ev σ (.nc d x)):=rfl
end
@[simp] theorem wk_refl (v:AV):wk v v:= .inl rfl
@[simp] theorem wk_nil:wk .nils (.sl []):= .inr ⟨rfl,rfl⟩
@[simp] theorem fillA_nil (z:List AV) (off:Nat) (vs:List AV):fillA z off vs=z.take off++vs++z.drop (off+vs.length):=rfl

@[simp] theorem wk_sl {a u}:wk (.sl a) u=(AV.sl a=u):=by simp [wk]
@[simp] theorem wk_int {k a u}:wk (.int k a) u=(AV.int k a=u):=by simp [wk]
@[simp] theorem wk_bool {a u}:wk (.bool a) u=(AV.bool a=u):=by simp [wk]
@[simp] theorem wk_str {a u}:wk (.str a) u=(AV.str a=u):=by simp [wk]
@[simp] theorem wk_agg {a u}:wk (.agg a) u=(AV.agg a=u):=by simp [wk]
@[simp] theorem wk_pin {a u}:wk (.pin a) u=(AV.pin a=u):=by simp [wk]
@[simp] theorem wk_ptr {a b u}:wk (.ptr a b) u=(AV.ptr a b=u):=by simp [wk]
@[simp] theorem wk_nilsl {a}:wk .nils (.sl a)=(a=[]):=by simp [wk]
theorem weak_mk {σ τ:St} (e: ∀p∈τ.e,wk (lk σ.e p.1) p.2) (b: ∀p∈τ.bx,wkB σ.bx p.1 p.2) (p: ∀p∈τ.pm,lkP σ.pm p.1=some p.2∨nilAt σ p.1)
  (ei: ∀p∈τ.e,∀d∈p.2.ids,(lkB τ.bx d).isSome∨d.isUp=true) (bi: ∀p∈τ.bx,∀d∈idsL p.2,(lkB τ.bx d).isSome∨d.isUp=true) (pi: ∀p∈τ.pm,∀d∈p.1.ids,(lkB τ.bx d).isSome):Weak σ τ:=⟨e,b,p,ei,bi,pi⟩

def lpQ {α:Type} (st:α→St) (I:α→Prop) (μ:α→Nat) (x:α) (σ:St):Prop:= ∃y,I y∧μ y<μ x∧WeakR σ (st y)
theorem lpQ_mk {α:Type} {st:α→St} {I:α→Prop} {μ:α→Nat} {x:α} {σ:St} (y:α) (h1:I y) (h2:μ y<μ x) (h3:Weak σ (st y)):lpQ st I μ x σ:=⟨y,h1,h2,.inl h3⟩
theorem wrap_i64 {n:Int} (h1: -9223372036854775808≤n) (h2:n<9223372036854775808):IntKind.i64.wrap n=n:=by
 have e1:(2:Int)^64=18446744073709551616:=by decide
 have e2:(2:Int)^(64 - 1)=9223372036854775808:=by decide
 have:IntKind.i64.wrap n=if (true&&decide (n%2^64≥2^(64 - 1)))=true then n%2^64 - 2^64 else n%2^64:=rfl
 rw [this]
 simp only [e1,e2,Bool.true_and,decide_eq_true_eq]
 split<;>omega
theorem wrap_u64 {n:Int} (h1:0≤n) (h2:n<18446744073709551616):IntKind.u64.wrap n=n:=by
 have e1:(2:Int)^64=18446744073709551616:=by decide
 have e2:(2:Int)^(64 - 1)=9223372036854775808:=by decide
 have:IntKind.u64.wrap n=if (false&&decide (n%2^64≥2^(64 - 1)))=true then n%2^64 - 2^64 else n%2^64:=rfl
 rw [this]
 simp only [e1,e2,Bool.false_and]
 simp;omega
theorem wrap_u32 {n:Int} (h1:0≤n) (h2:n<4294967296):IntKind.u32.wrap n=n:=by
 have e1:(2:Int)^32=4294967296:=by decide
 have:IntKind.u32.wrap n=if (false&&decide (n%2^32≥2^(32 - 1)))=true then n%2^32 - 2^32 else n%2^32:=rfl
 rw [this]
 simp only [e1,Bool.false_and]
 simp;omega
theorem wp1_mono {S:Nat→Nat→In→Out→Prop} {K K':St→Prop} (hk: ∀σ,K σ→K' σ): ∀ {o:AOp} {σ:St},wp1 S o K σ→wp1 S o K' σ:=by
 intro o
 induction o with
 |gd s b d o ih=>
  intro σ h
  simp only [wp1] at h ⊢
  split at h
  ·exact ih h
  ·exact hk _ h
  ·cases h
 |ce d f xs=>intro σ h;obtain ⟨I,O,h1,h2,h3⟩:=h;exact ⟨I,O,h1,h2,hk _ h3⟩
 |cq d f xs fr=>intro σ h;obtain ⟨I,O,h1,h2,h3,h4⟩:=h;exact ⟨I,O,h1,h2,h3,hk _ h4⟩
 |cd d x xs=>
  intro σ h
  simp only [wp1] at h ⊢
  split at h
  ·obtain ⟨I,O,h1,h2,h3⟩:=h;exact ⟨I,O,h1,h2,hk _ h3⟩
  ·cases h
 |nx d x=>
  intro σ h
  simp only [wp1] at h ⊢
  split at h
  ·split at h
   ·split at h
    ·rename_i e;rw [if_pos e];exact hk _ h
    ·rename_i e;rw [if_neg e];exact hk _ h
   ·cases h
  ·cases h
 |_=>
  intro σ h
  simp only [wp1] at h ⊢
  repeat' (first|(split at h)|contradiction)
  all_goals first
   |exact hk _ h
   |(obtain ⟨g1,g2⟩:=h;exact ⟨g1,hk _ g2⟩)
   |(obtain ⟨g1,g2,g3⟩:=h;exact ⟨g1,g2,hk _ g3⟩)
   |(obtain ⟨g1,g2,g3,g4⟩:=h;exact ⟨g1,g2,g3,hk _ g4⟩)
   |(obtain ⟨g1,g2,g3,g4,g5⟩:=h;exact ⟨g1,g2,g3,g4,hk _ g5⟩)
   |(obtain ⟨g1,g2,g3,g4,g5,g6⟩:=h;exact ⟨g1,g2,g3,g4,g5,hk _ g6⟩)
   |(obtain ⟨g1,g2,g3,g4,g5,g6,g7,g8⟩:=h;exact ⟨g1,g2,g3,g4,g5,g6,g7,hk _ g8⟩)
   |(obtain ⟨g1,g2,g3,g4,g5,g6,g7,g8,g9,g10,g11⟩:=h;exact ⟨g1,g2,g3,g4,g5,g6,g7,g8,g9,g10,hk _ g11⟩)
   |(obtain ⟨g1,g2,g3,g4,g5,g6,g7,g8,g9,g10,g11,g12,g13,g14⟩:=h;exact ⟨g1,g2,g3,g4,g5,g6,g7,g8,g9,g10,g11,g12,g13,hk _ g14⟩)
theorem wp_lp {S:Nat→Nat→In→Out→Prop} {α:Type} {c:AC} {Q:AE→St→Prop} (st:α→St) (I:α→Prop) (μ:α→Nat)
  (step: ∀x,I x→wpA S c (AE.sq (lpQ st I μ x) Q) (st x)) {σ:St} (x:α) (hx:I x) (hw:Weak σ (st x)):wpA S (.lp c) Q σ:=by
 have mono: ∀ {c:AC} {Q Q':AE→St→Prop} {σ:St},(∀e σ,Q e σ→Q' e σ)→wpA S c Q σ→wpA S c Q' σ:=by
  intro c
  have m1: ∀ {o:AOp} {K K':St→Prop} {σ:St},(∀σ,K σ→K' σ)→wp1 S o K σ→wp1 S o K' σ:=fun hk h=>wp1_mono hk h
  have mL: ∀ {l:List AOp} {K K':St→Prop} {σ:St},(∀σ,K σ→K' σ)→wpL S l K σ→wpL S l K' σ:=by
   intro l
   induction l with
   |nil=>intro K K' σ hk h;exact hk _ h
   |cons o r ih=>intro K K' σ hk h;exact m1 (fun σ h=>ih hk h) h
  have mD: ∀ {us:List (List Nat)} {l:List AOp} {j:Nat} {h:List (Nat×Bx)} {K K':St→Prop} {σ:St},(∀σ,K σ→K' σ)→wpLd S us l j h K σ→wpLd S us l j h K' σ:=by
   intro us
   induction us with
   |nil=>intro l j h K K' σ hk hw;cases l with
    |nil=>exact hk _ hw
    |cons=>exact hw.elim
   |cons u us ih=>intro l j h K K' σ hk hw;cases l with
    |nil=>exact hw.elim
    |cons o r=>exact ⟨hw.1,m1 (fun σ h=>kpK_iff.2 ⟨(kpK_iff.1 h).1,ih hk (kpK_iff.1 h).2⟩) hw.2⟩
  have sqm: ∀ {B B':St→Prop} {Q Q':AE→St→Prop},(∀σ,B σ→B' σ)→(∀e σ,Q e σ→Q' e σ)→ ∀e σ,AE.sq B Q e σ→AE.sq B' Q' e σ:=by
   intro B B' Q Q' hb hq e σ h
   cases e
   ·exact hb _ h
   ·exact hq _ _ h
   ·exact hq _ _ h
  induction c with
  |sk=>intro Q Q' σ hq h;exact hq _ _ h
  |rg l=>intro Q Q' σ hq h;exact mL (fun σ h=>hq _ _ h) h
  |rd us l=>intro Q Q' σ hq h;exact mD (fun σ h=>hq _ _ h) h
  |sq a b iha ihb=>intro Q Q' σ hq h;exact iha (sqm (fun σ h=>ihb hq h) hq) h
  |cd x a b iha ihb=>
   intro Q Q' σ hq h
   unfold wpA at h ⊢
   split at h
   ·rename_i t ht
    split at h
    ·rename_i e;rw [if_pos e];exact iha hq h
    ·rename_i e;rw [if_neg e];exact ihb hq h
   ·cases h
  |bl i a ih=>
   intro Q Q' σ hq h
   refine ih (fun e σ h=>?_) h
   cases e
   ·exact hq _ _ h
   ·rename_i j
    unfold AE.bl at h ⊢
    by_cases e:j=i
    ·simp only [if_pos e] at h ⊢;exact hq _ _ h
    ·simp only [if_neg e] at h ⊢;exact hq _ _ h
   ·exact hq _ _ h
  |lp a ih=>
   intro Q Q' σ hq h
   obtain ⟨n,hn⟩:=h
   refine ⟨n,?_⟩
   induction n generalizing σ with
   |zero=>exact hn
   |succ n ihn=>
    obtain ⟨τ,hτ,hb⟩:=hn
    exact ⟨τ,hτ,ih (sqm (fun σ h=>ihn h) hq) hb⟩
  |ex i=>intro Q Q' σ hq h;exact hq _ _ h
  |rt=>intro Q Q' σ hq h;exact hq _ _ h
  |sc a ih=>intro Q Q' σ hq h;exact ih hq h
  |lb=>intro Q Q' σ hq h;exact hq _ _ h
  |no=>intro Q Q' σ hq h;exact h
  |pa us l p=>intro Q Q' σ hq h;exact mD (fun σ h=>pendW_mono (fun σ h=>mL (fun σ h=>hq _ _ h) h) h) h
  |pb us l p=>intro Q Q' σ hq h;exact mD (fun σ h=>pendW_mono (fun σ h=>mL (fun σ h=>hq _ _ h) h) h) h
  |nb s d=>intro Q Q' σ hq h;exact ⟨mL (fun σ h=>hq _ _ h) h.1,mL (fun σ h=>hq _ _ h) h.2⟩
  |fz s l=>intro Q Q' σ hq h;obtain ⟨b,n,sz,rows,tl,q1,q2,q3⟩:=h;exact ⟨b,n,sz,rows,tl,q1,q2,mL (fun σ h=>hq _ _ h) q3⟩
 have key: ∀n x,μ x<n→I x→ ∀σ,WeakR σ (st x)→itA (wpA S c) Q n σ:=by
  intro n
  induction n with
  |zero=>intro x h;omega
  |succ n ih=>
   intro x hn hx σ hw
   refine ⟨st x,hw,mono ?_ (step x hx)⟩
   intro e σ' h
   cases e
   ·obtain ⟨y,hy,hlt,hwy⟩:=h
    exact ih y (by omega) hy σ' hwy
   ·exact h
   ·exact h
 exact ⟨μ x+1,key _ x (by omega) hx σ (.inl hw)⟩

theorem wp_lpk {S:Nat→Nat→In→Out→Prop} {α:Type} {c:AC} {Q:AE→St→Prop} (st:α→St) (I:α→Prop) (μ:α→Nat)
  (step: ∀(K:St→Prop) (x:α),(∀(y:α) (σ':St),I y→μ y<μ x→Weak σ' (st y)→K σ')→I x→wpA S c (AE.sq K Q) (st x)) {σ:St} (x:α) (hx:I x) (hw:Weak σ (st x)):wpA S (.lp c) Q σ:=
 wp_lp st I μ (fun x hx=>step (lpQ st I μ x) x (fun y σ' h1 h2 h3=>lpQ_mk y h1 h2 h3) hx) x hx hw
def AC.tl:Nat→AC→AC
 |0,c=>c
 |n+1,.sq _ b=>b.tl n
 |_,c=>c
def AC.cutAt:Nat→AC→AC→AC
 |0,T,_=>T
 |n+1,T,.sq a b=> .sq a (AC.cutAt n T b)
 |_,_,c=>c

@[irreducible] def SpH (P:Program) (GL:List (Nat×List Value)) (f d:Nat) (I:In) (O:Out):Prop:=Spec P GL f d I O
theorem sph_eq (P:Program) (GL:List (Nat×List Value)):SpH P GL=Spec P GL:=by funext f d I O;unfold SpH;rfl
@[irreducible] def Sp (P:Program) (GL:List (Nat×List Value)) (f:Nat) (l:List AV) (r:AV):Prop:=pureS (SpH P GL) f l r
theorem sp_eq (P:Program) (GL:List (Nat×List Value)) {f:Nat} {l:List AV} {r:AV}:Sp P GL f l r↔pureS (Spec P GL) f l r:=by unfold Sp;rw [sph_eq]
theorem onC_mk {P:Program} {GL:List (Nat×List Value)} {K:St→Prop} {σ:St} {f d:Nat} {l:List AV} (r:AV) (h:Sp P GL f l r) (hk:K (σ.put d r)):onC (SpH P GL) f d K σ (some l):=by
 unfold Sp at h;exact ⟨r,h,hk⟩
theorem fun_sp {P:Program} {GL:List (Nat×List Value)} {dr:Array Oper→List (List Nat)→List AOp→Bool} {f:Nat} {fn:Func} {af:AF} (hf:P.funcs[f]?=some fn) (hm:mF P GL dr fn af=true) (hd:DrawsOk P GL af.N dr) {l:List AV} {r:AV} (hl:l.length=af.np) (hi:idsL l=[])
  (hw:wpA (SpH P GL) af.c (postA af.rs r) ⟨initE 0 l,[],[]⟩):Sp P GL f l r:=by
 rw [sph_eq] at hw;exact (sp_eq P GL).2 (fun_sound hf hm hd hl hi hw)
end Go.Ai
namespace Go.Ai
open Go.RowKit
variable {P:Program} {F:Fr} {S:Mem} {gb:Gb} {σ:St} {a:Act} {w:World}

end Go.Ai
