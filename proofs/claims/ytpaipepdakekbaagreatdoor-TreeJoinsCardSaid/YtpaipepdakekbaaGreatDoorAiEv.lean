/- AiEv: a part of the proof: the rules, or what functions compute. Conditions: as each theorem says. -/
import Derived.Test.YtpaipepdakekbaaGreatDoorAiMap
set_option linter.unusedSimpArgs false
set_option linter.unusedVariables false
namespace Go.Ai
open Go.RowKit
variable {P:Program} {F:Fr} {S:Mem} {gb:Gb} {σ:St} {a:Act} {w:World}

theorem slotOk_iff {N d:Nat} {dst:Option Tmp}:slotOk N d dst=true↔dst=some d∧d<N:=by
 simp [slotOk]

def Yields1 (P:Program) (S:Mem) (gb:Gb) (a:Act) (w:World) (o:Oper) (v:AV):Prop:=
 ∃u,(execOp a.eval o).run P w= .ok (.value u) w∧PR S gb v u

theorem toList_mk (l:List UInt8):(ByteArray.mk l.toArray).toList=l:=by rw [ByteArray.toList_eq]

theorem bin_sound {op:BinOp} {x y r:AV} {t:TypeId} {p q:Operand} {u v:Value} (h:bin op x y=some r) (hx:PR S gb x u) (hy:PR S gb y v):
  ∃z,(do eqGuard op t p q u v;binOp op t u v:Sem Value).run P w= .ok z w∧PR S gb r z:=by
 unfold bin at h
 split at h
 ·rename_i k a k' b
  simp only [PR] at hx hy
  subst hx;subst hy
  split at h<;>(try split at h)<;>simp only [Option.some.injEq,reduceCtorEq] at h<;>(try contradiction)<;>subst h
  ·rename_i e;subst e;exact ⟨_,by simp [binOp_add,Op.intArith];rfl,by simp [PR]⟩
  ·rename_i e;subst e;exact ⟨_,by simp [binOp_sub,Op.intArith];rfl,by simp [PR]⟩
  ·rename_i e;subst e;exact ⟨_,by simp [binOp_mul,Op.intArith];rfl,by simp [PR]⟩
  ·rename_i e;obtain ⟨rfl,e⟩:=e;exact ⟨_,by simp [eqGuard_quo,binOp_quo,Op.intDiv,e];rfl,by simp [PR]⟩
  ·rename_i e;obtain ⟨rfl,e⟩:=e;exact ⟨_,by simp [eqGuard_rem,binOp_rem,Op.intDiv,e];rfl,by simp [PR]⟩
  ·rename_i e;exact ⟨_,by simp [eqGuard_shl,binOp_shl,Op.shift,show ¬b<0 by omega];rfl,by simp [PR]⟩
  ·rename_i e;exact ⟨_,by simp [eqGuard_shr,binOp_shr,Op.shift,show ¬b<0 by omega];rfl,by simp [PR]⟩
  ·rename_i e;subst e;exact ⟨_,by simp [eqGuard_at_int,binOp_eql];rfl,by simp [PR]⟩
  ·rename_i e;subst e;exact ⟨_,by simp [eqGuard_at_int,binOp_neq];rfl,by simp [PR]⟩
  ·rename_i e;subst e;exact ⟨_,by simp [eqGuard_lss,binOp_lss];rfl,by simp [PR]⟩
  ·rename_i e;subst e;exact ⟨_,by simp [eqGuard_leq,binOp_leq];rfl,by simp [PR]⟩
  ·rename_i e;subst e;exact ⟨_,by simp [eqGuard_gtr,binOp_gtr];rfl,by simp [PR]⟩
  ·rename_i e;subst e;exact ⟨_,by simp [eqGuard_geq,binOp_geq];rfl,by simp [PR]⟩
  ·rename_i e;subst e
   cases op<;>first|contradiction|exact ⟨_,by simp [eqGuard_and,eqGuard_or,eqGuard_xor,eqGuard_andNot,binOp_and,binOp_or,binOp_xor,binOp_andNot,intBits_and,intBits_or,intBits_xor,intBits_andNot];rfl,by simp [PR]⟩
 ·rename_i a b
  simp only [PR] at hx hy
  subst hx;subst hy
  split at h<;>(try split at h)<;>simp only [Option.some.injEq,reduceCtorEq] at h<;>(try contradiction)<;>subst h
  ·rename_i e
   refine ⟨.string ⟨(a++b).toArray⟩,?_,by simp [PR]⟩
   have e1:(ByteArray.mk a.toArray++ByteArray.mk b.toArray)=ByteArray.mk (a++b).toArray:=by
    apply ByteArray.ext;simp
   have e2:(ByteArray.mk a.toArray).size=a.length:=rfl
   have e3:(ByteArray.mk b.toArray).size=b.length:=rfl
   simp [eqGuard_at_string,binOp,Op.stringOp,e1,e2,e3,show ¬(9223372036854775807<(a.length:Int)+(b.length:Int)) by omega]
  ·exact ⟨_,by simp [eqGuard_at_string,binOp,Op.stringOp,toList_mk];rfl,by simp [PR]⟩
  ·exact ⟨_,by simp [eqGuard_at_string,binOp,Op.stringOp,toList_mk];rfl,by simp [PR]⟩
  ·exact ⟨_,by simp [eqGuard_at_string,binOp,Op.stringOp,toList_mk];rfl,by simp [PR]⟩
  ·exact ⟨_,by simp [eqGuard_at_string,binOp,Op.stringOp,toList_mk];rfl,by simp [PR]⟩
  ·exact ⟨_,by simp [eqGuard_at_string,binOp,Op.stringOp,toList_mk];rfl,by simp [PR]⟩
  ·exact ⟨_,by simp [eqGuard_at_string,binOp,Op.stringOp,toList_mk];rfl,by simp [PR]⟩
 ·cases h

theorem cellEq_sound {d:Nat} {k:FK} {x y:AV} {b:Bool} {t:TypeId} {u v:Value} (h:cellEq k x y=some b) (hx:PR S gb x u) (hy:PR S gb y v)
  (hd:k= .b∧P.underlying t=some .bool∨k= .i∧(∃k,P.underlying t=some (.int k))∨k= .s∧P.underlying t=some .string):
  (Op.equalIn (d+1) t u v).run P w= .ok b w:=by
 unfold cellEq at h
 split at h
 ·split at h
  ·rename_i e;subst e
   simp only [Option.some.injEq] at h;subst h
   simp only [PR] at hx hy;subst hx;subst hy
   rcases hd with ⟨h,_⟩|⟨_,_,hd⟩|⟨h,_⟩
   ·cases h
   ·exact run_equalIn_int (h:=hd) ..
   ·cases h
  ·cases h
 ·simp only [Option.some.injEq] at h;subst h
  simp only [PR] at hx hy;subst hx;subst hy
  rcases hd with ⟨_,hd⟩|⟨h,_,hd⟩|⟨h,_⟩
  ·exact run_equalIn_bool' (h:=hd) ..
  ·cases h
  ·cases h
 ·simp only [Option.some.injEq] at h;subst h
  simp only [PR] at hx hy;subst hx;subst hy
  rcases hd with ⟨h,hd⟩|⟨h,_,hd⟩|⟨_,hd⟩
  ·cases h
  ·cases h
  ·rw [run_equalIn_string (h:=hd),toList_mk,toList_mk]
 ·cases h

theorem cellsEq_append {ks ls:List FK} {xs ys:List AV} {b:Bool} (h:cellsEq (ks++ls) xs ys=some b):
  ∃b1 b2,cellsEq ks (xs.take ks.length) (ys.take ks.length)=some b1∧cellsEq ls (xs.drop ks.length) (ys.drop ks.length)=some b2∧b=(b1&&b2):=by
 induction ks generalizing xs ys b with
 |nil=>exact ⟨true,b,by simp [cellsEq],by simpa using h,by simp⟩
 |cons k ks ih=>
  cases xs with
  |nil=>simp [cellsEq] at h
  |cons x xs=>
   cases ys with
   |nil=>simp [cellsEq] at h
   |cons y ys=>
    simp only [List.cons_append,cellsEq] at h
    split at h
    ·rename_i b0 b' e1 e2
     simp only [Option.some.injEq] at h
     obtain ⟨b1,b2,h1,h2,h3⟩:=ih e2
     refine ⟨b0&&b1,b2,?_,by simpa using h2,?_⟩
     ·simp [cellsEq,e1,h1]
     ·rw [←h,h3,Bool.and_assoc]
    ·cases h
theorem cellsEq_length {ks:List FK} {xs ys:List AV} {b:Bool} (h:cellsEq ks xs ys=some b):xs.length=ks.length∧ys.length=ks.length:=by
 induction ks generalizing xs ys b with
 |nil=>cases xs<;>cases ys<;>simp [cellsEq] at h ⊢
 |cons k ks ih=>
  cases xs with
  |nil=>simp [cellsEq] at h
  |cons x xs=>
   cases ys with
   |nil=>simp [cellsEq] at h
   |cons y ys=>
    simp only [cellsEq] at h
    split at h
    ·rename_i e1 e2;have:=ih e2;simp [this.1,this.2]
    ·cases h

theorem run_part_s {t o:Nat} {us:Array Value} {u:Value} (ht:scal P t=true) (hu:us[o]?=some u):(part t us o).run P w= .ok u w:=by
 simp [part,run_isAgg_s ht,hu]
theorem run_part_a {t o n:Nat} {us:Array Value} (ht:aggT P t=true) (hn:sz? P t=some n):(part t us o).run P w= .ok (.agg (us.extract o (o+n))) w:=by
 simp [part,run_isAgg_a ht,run_sizeOf hn]

def ofCells (P:Program) (t:TypeId) (us:List Value):Value:=if aggT P t=true then .agg us.toArray else us.headD undef

theorem run_part {t o n:Nat} {us:List Value} (hn:sz? P t=some n) (hl:o+n≤us.length) (h1:aggT P t=true∨scal P t=true∧n=1):
  (part t us.toArray o).run P w= .ok (ofCells P t ((us.drop o).take n)) w:=by
 by_cases h:aggT P t=true
 ·rw [run_part_a h hn]
  simp [ofCells,h,List.extract_eq_take_drop,Nat.add_sub_cancel_left]
 ·rcases h1 with h1|⟨h1,rfl⟩
  ·exact absurd h1 h
  ·have:o<us.length:=by omega
   rw [run_part_s h1 (u:=us[o]) (by simp [this])]
   have e2:(us.drop o).take 1=[us[o]]:=by rw [List.drop_eq_getElem_cons this];rfl
   rw [e2]
   simp [ofCells,h]

theorem eqK_sound: ∀(d:Nat) (t:TypeId) (ks:List FK) (e:Nat),eqK P d t=some ks→ ∀ {xs ys:List AV} {us vs:List Value} {b:Bool} (w:World),cellsEq ks xs ys=some b→PRlist S gb xs us→PRlist S gb ys vs→
  (Op.equalIn (d+e) t (ofCells P t us) (ofCells P t vs)).run P w= .ok b w∧(aggT P t=true∨scal P t=true∧ks.length=1)
 |0,t,ks,e,h,xs,ys,us,vs,b,w,_,_,_=>by simp [eqK] at h
 |d+1,t,ks,e,h,xs,ys,us,vs,b,w,hc,hx,hy=>by
  have one: ∀k,ks=[k]→aggT P t=false→(k= .b∧P.underlying t=some .bool∨k= .i∧(∃k,P.underlying t=some (.int k))∨k= .s∧P.underlying t=some .string)→(Op.equalIn (d+1+e) t (ofCells P t us) (ofCells P t vs)).run P w= .ok b w:=by
   rintro k rfl ha hk
   obtain ⟨l1,l2⟩:=cellsEq_length hc
   match xs,ys,l1,l2 with
   |[x],[y],_,_=>
    simp only [PRlist] at hx hy
    obtain ⟨u,_,rfl,hx,rfl⟩:=hx
    obtain ⟨v,_,rfl,hy,rfl⟩:=hy
    simp only [cellsEq] at hc
    split at hc
    ·rename_i b1 b2 e1 e2
     simp only [Option.some.injEq] at e2 hc
     subst e2
     simp at hc
     subst hc
     simp only [ofCells,ha]
     rw [show d+1+e=(d+e)+1 by omega]
     exact cellEq_sound e1 hx hy hk
    ·cases hc
  unfold eqK at h
  split at h
  ·rename_i hu
   simp only [Option.some.injEq] at h;subst h
   exact ⟨one _ rfl (by simp [aggT,hu]) (.inl ⟨rfl,hu⟩),.inr ⟨by simp [scal,hu],rfl⟩⟩
  ·rename_i k hu
   simp only [Option.some.injEq] at h;subst h
   exact ⟨one _ rfl (by simp [aggT,hu]) (.inr (.inl ⟨rfl,k,hu⟩)),.inr ⟨by simp [scal,hu],rfl⟩⟩
  ·rename_i hu
   simp only [Option.some.injEq] at h;subst h
   exact ⟨one _ rfl (by simp [aggT,hu]) (.inr (.inr ⟨rfl,hu⟩)),.inr ⟨by simp [scal,hu],rfl⟩⟩
  ·rename_i fs hu
   split at h
   ·cases h
   ·rename_i hst
    have ha:aggT P t=true:=by simp [aggT,hu]
    refine ⟨?_,.inl ha⟩
    have hf:P.underlying t=some (.struct (P.fieldsOf t)):=by simp [Program.fieldsOf,hu]
    simp only [ofCells,ha,if_true]
    rw [show d+1+e=(d+e)+1 by omega,run_equalIn_struct w (d+e) t _ _ hf (by simpa using hst)]
    have hfs:P.fieldsOf t=fs:=by simp [Program.fieldsOf,hu]
    rw [hfs]
    have key: ∀(l:List Field) (o:Nat) (ks:List FK),eqFs P (eqK P d) l o=some ks→ ∀(b:Bool),cellsEq ks (xs.drop o) (ys.drop o)=some b→
      (Op.eqFields (d+e) us.toArray vs.toArray l).run P w= .ok b w:=by
     intro l
     induction l with
     |nil=>
      intro o ks hk b hb
      simp only [eqFs,Option.some.injEq] at hk
      subst hk
      have:=cellsEq_length hb
      rw [List.length_eq_zero_iff.1 this.1,List.length_eq_zero_iff.1 this.2] at hb
      simp [cellsEq] at hb
      subst hb
      simp [Op.eqFields]
     |cons f r ih=>
      intro o ks hk b hb
      simp only [eqFs] at hk
      split at hk
      ·rename_i hn
       split at hk
       ·rename_i k1 k2 e1 e2
        split at hk
        ·rename_i hsz
         simp only [Option.some.injEq] at hk
         subst hk
         obtain ⟨b1,b2,c1,c2,rfl⟩:=cellsEq_append hb
         have hx':=(hx.drop o).take k1.length
         have hy':=(hy.drop o).take k1.length
         obtain ⟨g1,g2⟩:=eqK_sound d f.type k1 e e1 w c1 hx' hy'
         have lx:=cellsEq_length hb
         simp only [List.length_append,List.length_drop,PRlist.length hx,PRlist.length hy] at lx
         have g2':aggT P f.type=true∨scal P f.type=true∧k1.length=1:=g2
         by_cases hk0:k1.length=0
         ·
          have p1:(part f.type us.toArray o).run P w= .ok (ofCells P f.type ((us.drop o).take k1.length)) w:=by
           rcases g2' with g|⟨_,g⟩
           ·rw [run_part_a g hsz];simp [ofCells,g,List.extract_eq_take_drop,hk0]
           ·omega
          have p2:(part f.type vs.toArray o).run P w= .ok (ofCells P f.type ((vs.drop o).take k1.length)) w:=by
           rcases g2' with g|⟨_,g⟩
           ·rw [run_part_a g hsz];simp [ofCells,g,List.extract_eq_take_drop,hk0]
           ·omega
          have ih':=ih (o+k1.length) k2 (by rw [hsz] at e2;simpa using e2) b2 (by simpa [List.drop_drop] using c2)
          simp only [Op.eqFields,hn.1,ne_eq,not_false_eq_true,if_true,hn.2,Sem.run_bind,p1,p2,Result.andThen_ok,g1]
          cases b1<;>simp [ih']
         ·have p1:=run_part (P:=P) (w:=w) (t:=f.type) (o:=o) (n:=k1.length) (us:=us) hsz (by omega) g2'
          have p2:=run_part (P:=P) (w:=w) (t:=f.type) (o:=o) (n:=k1.length) (us:=vs) hsz (by omega) g2'
          have ih':=ih (o+k1.length) k2 (by rw [hsz] at e2;simpa using e2) b2 (by simpa [List.drop_drop] using c2)
          simp only [Op.eqFields,hn.1,ne_eq,not_false_eq_true,if_true,hn.2,Sem.run_bind,p1,p2,Result.andThen_ok,g1]
          cases b1<;>simp [ih']
        ·cases hk
       ·cases hk
      ·cases hk
    exact key fs.toList 0 ks h b (by simpa using hc)
  ·rename_i n el hu
   split at h
   ·rename_i k hk
    split at h
    ·rename_i hse
     obtain ⟨hsc,hsz⟩:=hse
     simp only [Option.some.injEq] at h
     have ha:aggT P t=true:=by simp [aggT,hu]
     refine ⟨?_,.inl ha⟩
     simp only [ofCells,ha,if_true]
     cases hi:P.info? el with
     |none=>simp [sz?,hi] at hsz
     |some i=>
      have hce:P.cellsOf el=1:=by
       have:i.size=1:=by simpa [sz?,hi] using hsz
       simp [Program.cellsOf,hi,this]
      rw [show d+1+e=(d+e)+1 by omega,run_equalIn_array w (d+e) us.toArray vs.toArray hu hi,hce]
      have key: ∀(m o:Nat) (b:Bool),cellsEq (List.replicate m k) (xs.drop o) (ys.drop o)=some b→
        (Op.eqItems (d+e) el 1 us.toArray vs.toArray (List.range' o m)).run P w= .ok b w:=by
       intro m
       induction m with
       |zero=>
        intro o b hb
        have:=cellsEq_length hb
        rw [List.length_eq_zero_iff.1 this.1,List.length_eq_zero_iff.1 this.2] at hb
        simp [cellsEq] at hb
        subst hb
        simp [Op.eqItems]
       |succ m ih=>
        intro o b hb
        have lx:=cellsEq_length hb
        simp only [List.length_replicate,List.length_drop,PRlist.length hx,PRlist.length hy] at lx
        rw [List.replicate_succ,←List.singleton_append] at hb
        obtain ⟨b1,b2,c1,c2,rfl⟩:=cellsEq_append hb
        have hx':=(hx.drop o).take 1
        have hy':=(hy.drop o).take 1
        obtain ⟨g1,_⟩:=eqK_sound d el [k] e hk w c1 hx' hy'
        have p1:=run_part (P:=P) (w:=w) (t:=el) (o:=o) (n:=1) (us:=us) hsz (by omega) (.inr ⟨hsc,rfl⟩)
        have p2:=run_part (P:=P) (w:=w) (t:=el) (o:=o) (n:=1) (us:=vs) hsz (by omega) (.inr ⟨hsc,rfl⟩)
        have ih':=ih (o+1) b2 (by simpa [List.drop_drop] using c2)
        simp only [List.range'_succ,Op.eqItems,Nat.mul_one,Sem.run_bind,p1,p2,Result.andThen_ok,g1]
        cases b1<;>simp [ih']
      have:=key n 0 b (by simpa [h] using hc)
      rw [List.range_eq_range'];exact this
    ·cases h
   ·cases h
  ·cases h
end Go.Ai
