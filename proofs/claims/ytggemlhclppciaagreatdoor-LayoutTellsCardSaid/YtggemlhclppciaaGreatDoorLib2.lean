/- Lib2: a part of the proof: the rules, or what functions compute. Conditions: as each theorem says. -/
import Derived.Test.YtggemlhclppciaaGreatDoorLib1
import Derived.MapKept
import Derived.WideLaws
set_option linter.unusedSimpArgs false
set_option linter.unusedVariables false
namespace Go.Ai
open Go.RowKit

mutual
def cst:AV→Value→Bool
 | .int k n,.int k' n'=>k==k'&&n==n'
 | .bool b,.bool b'=>b==b'
 | .str s,.string b=>b.data.toList==s
 | .nils,.slice none 0 0=>true
 | .nilp,.pointer none=>true
 | .nili,.nilIface=>true
 | .undef,.nilFunc=>true
 | .agg cs,.agg us=>us.toList.all (·.oneCell')&&cstL cs us.toList
 |_,_=>false
def cstL:List AV→List Value→Bool
 |[],[]=>true
 |c::r,u::s=>cst c u&&cstL r s
 |_,_=>false
end
mutual
theorem cst_sound {S:Mem} {gb:Gb}: ∀(c:AV) (u:Value),cst c u=true→PR S gb c u
 | .undef,u,_=>by simp [PR]
 | .int k n,u,h=>by
  cases u<;>simp [cst] at h
  obtain ⟨rfl,rfl⟩:=h;simp [PR]
 | .bool b,u,h=>by
  cases u<;>simp [cst] at h
  subst h;simp [PR]
 | .str s,u,h=>by
  cases u<;>simp [cst] at h
  subst h;simp [PR]
 | .nils,u,h=>by
  unfold cst at h
  split at h<;>simp_all [PR]
 | .nilp,u,h=>by
  unfold cst at h
  split at h<;>simp_all [PR]
 | .agg cs,u,h=>by
  cases u<;>simp only [cst,Bool.and_eq_true,Bool.false_eq_true] at h
  rename_i us
  simp only [PR]
  exact ⟨us,rfl,fun u hu=>List.all_eq_true.1 h.1 u hu,cstL_sound cs us.toList h.2⟩
 | .sl _,u,h=>by cases u<;>simp [cst] at h
 | .pin _,u,h=>by cases u<;>simp [cst] at h
 | .ptr _ _,u,h=>by cases u<;>simp [cst] at h
 | .ms _ _ _ _,u,h=>by cases u<;>simp [cst] at h
 | .fn _ _,u,h=>by cases u<;>simp [cst] at h
 | .itr _ _,u,h=>by cases u<;>simp [cst] at h
 | .itp _,u,h=>by cases u<;>simp [cst] at h
 | .mref _,u,h=>by cases u<;>simp [cst] at h
 | .nilT _ _ _,u,h=>by cases u<;>simp [cst] at h
 | .mpv _,u,h=>by cases u<;>simp [cst] at h
 | .tup _,u,h=>by cases u<;>simp [cst] at h
 | .ifc _ _,u,h=>by cases u<;>simp [cst] at h
 | .yv _,u,h=>by cases u<;>simp [cst] at h
 | .nili,u,h=>by
  unfold cst at h
  split at h<;>simp_all [PR]
theorem cstL_sound {S:Mem} {gb:Gb}: ∀(c:List AV) (u:List Value),cstL c u=true→PRlist S gb c u
 |[],u,h=>by cases u<;>simp [cstL] at h ⊢ <;>simp [PRlist]
 |c::r,u,h=>by
  cases u with
  |nil=>simp [cstL] at h
  |cons u s=>
   simp [cstL] at h
   exact ⟨u,s,rfl,cst_sound c u h.1,cstL_sound r s h.2⟩
end

def mX (GL:List (Nat×List Value)):X→Operand→Bool
 | .s t,.tmp t'=>t==t'
 | .c v,.const u=>cst v u
 | .c (.fn f []),.func f'=>f==f'
 | .c (.pin cs),.global i=>match GL.lookup i with
  |some us=>cstL cs us
  |none=>false
 |_,_=>false
def mXs (GL:List (Nat×List Value)):List X→List Operand→Bool
 |[],[]=>true
 |x::r,y::s=>mX GL x y&&mXs GL r s
 |_,_=>false

variable {P:Program} {F:Fr} {S:Mem} {gb:Gb} {σ:St} {a:Act} {w:World}
theorem mX_sound (h:Rel F S gb σ a w) {x:X} {y:Operand} (hm:mX F.GL x y=true):PR S gb (σ.v x) (a.eval y):=by
 unfold mX at hm
 split at hm
 ·simp at hm;subst hm;exact h.env _
 ·exact cst_sound _ _ hm
 ·simp at hm;subst hm;simp only [St.v,PR,Act.eval];exact ⟨#[],rfl,by simp [PRlist]⟩
 ·split at hm
  ·rename_i i us hl
   simp only [St.v,PR,Act.eval]
   refine ⟨_,0,rfl,PRcells.of_list (us:=us) (cstL_sound _ _ hm) (fun u hu=>?_) (fun j u hu=>?_)⟩
   ·obtain ⟨j,hj⟩:=List.getElem?_of_mem hu
    exact (h.glo _ _ hl j u hj).2
   ·rw [Nat.zero_add];exact h.le _ _ _ (h.glo _ _ hl j u hu).1
  ·cases hm
 ·cases hm
theorem mXs_sound (h:Rel F S gb σ a w): ∀ {xs:List X} {ys:List Operand},mXs F.GL xs ys=true→PRlist S gb (xs.map σ.v) (ys.map a.eval)
 |[],ys,hm=>by cases ys<;>simp [mXs] at hm ⊢ <;>simp [PRlist]
 |x::r,ys,hm=>by
  cases ys with
  |nil=>simp [mXs] at hm
  |cons y s=>
   simp [mXs] at hm
   exact ⟨_,_,rfl,mX_sound h hm.1,mXs_sound h hm.2⟩

def sz? (P:Program) (t:TypeId):Option Nat:=(P.info? t).map (·.size)
def scal (P:Program) (t:TypeId):Bool:=match P.underlying t with
 |some (.struct _)|some (.array _ _)|none=>false
 |_=>true
def aggT (P:Program) (t:TypeId):Bool:=match P.underlying t with
 |some (.struct _)|some (.array _ _)=>true
 |_=>false
theorem run_sizeOf {t n:Nat} (h:sz? P t=some n):(sizeOf t).run P w= .ok n w:=by
 unfold sz? at h
 cases hq:P.info? t with
 |none=>simp [hq] at h
 |some i=>simp [hq] at h;simp [sizeOf,typeInfo,hq,h]
theorem run_isAgg_s {t:Nat} (h:scal P t=true):(isAgg t).run P w= .ok false w:=by
 unfold scal at h
 cases hq:P.underlying t with
 |none=>simp [hq] at h
 |some d=>unfold isAgg;rw [Sem.run_bind,run_underlying hq w];cases d<;>simp_all
theorem run_isAgg_a {t:Nat} (h:aggT P t=true):(isAgg t).run P w= .ok true w:=by
 unfold aggT at h
 cases hq:P.underlying t with
 |none=>simp [hq] at h
 |some d=>unfold isAgg;rw [Sem.run_bind,run_underlying hq w];cases d<;>simp_all

def fieldsAt (P:Program) (t:TypeId):List (Nat×Nat):=
 match P.underlying t with
 |some (.struct fs)=>fs.toList.map fun f=>(f.offset,(sz? P f.type).getD 0)
 |_=>[]

def eqFs (P:Program) (f:TypeId→Option (List FK)):List Field→Nat→Option (List FK)
 |[],_=>some []
 |fd::r,o=>if fd.name≠ "_"∧fd.offset=o then match f fd.type,eqFs P f r (o+(sz? P fd.type).getD 0) with
   |some ks,some ls=>if sz? P fd.type=some ks.length then some (ks++ls) else none
   |_,_=>none
  else none
def eqK (P:Program):Nat→TypeId→Option (List FK)
 |0,_=>none
 |d+1,t=>match P.underlying t with
  |some .bool=>some [.b]
  |some (.int _)=>some [.i]
  |some .string=>some [.s]
  |some (.struct fs)=>if P.stoodInHeld t=true then none else eqFs P (eqK P d) fs.toList 0
  |some (.array n e)=>match eqK P d e with
   |some [k]=>if scal P e=true∧sz? P e=some 1 then some (List.replicate n k) else none
   |_=>none
  |_=>none

def parts (ps:List (Nat×Operand)) (i:Nat):Option (List Operand):=
 match ps with
 |[]=>some []
 |(j,x)::r=>if j==i then (parts r (i+1)).map (x:: ·) else none

def slotOk (N d:Nat) (dst:Option Tmp):Bool:=dst==some d&&Nat.blt d N

def mBuild (GL:List (Nat×List Value)) (fs:List (Nat×Nat)):List (Nat×Nat×X)→List (Nat×Operand)→Bool
 |[],[]=>true
 |(off,n,x)::r,(i,y)::s=>fs[i]?==some (off,n)&&mX GL x y&&mBuild GL fs r s
 |_,_=>false

def mOpt (GL:List (Nat×List Value)):Option X→Option Operand→Bool
 |none,none=>true
 |some x,some y=>mX GL x y
 |_,_=>false

def fkT (P:Program) (q:FK) (t:TypeId):Bool:=match q,P.underlying t with
 | .s,some .string=>true
 | .i,some (.int _)=>true
 |_,_=>false
def mkZ (P:Program) (z:MK) (t:TypeId):Bool:=match P.info? t with
 |some i=>(match i.zero with |some v=>cst z.av v|none=>false)
 |none=>false
def zOk (P:Program) (z:AV) (t:TypeId):Bool:=match P.info? t with
 |some i=>(match i.zero with |some v=>cst z v|none=>false)
 |none=>false
theorem zOk_sound {z:AV} {t:TypeId} (h:zOk P z t=true): ∃u,(zeroValue t).run P w= .ok u w∧PR S gb z u:=by
 unfold zOk at h
 split at h
 ·rename_i i hi
  split at h
  ·rename_i v hv
   exact ⟨v,by simp [zeroValue,typeInfo,hi,hv],cst_sound _ _ h⟩
  ·cases h
 ·cases h
def conc (P:Program) (t:TypeId):Bool:=match P.underlying t with
 |some (.interface _)|none=>false
 |some _=>true
def kOk (sz:Nat):Bool:=!(sz==0)&&Nat.blt sz KB
theorem kOk_iff {sz:Nat}:kOk sz=true↔ ¬sz=0∧sz<KB:=by simp [kOk,Nat.blt_eq]
def mt1 (P:Program) (GL:List (Nat×List Value)) (N:Nat) (o:Oper):AOp→Bool
 | .mv d x=>slotOk N d o.dst&&(match o.op with | .move y| .assign y=>mX GL x y|_=>false)
 | .mo d s=>slotOk N d o.dst&&(match o.op with | .move (.tmp t)| .assign (.tmp t)=>t==s|_=>false)
 | .pk d c x y=>slotOk N d o.dst&&(match o.op with | .pick c' x' y'=>mX GL c c'&&mX GL x x'&&mX GL y y'|_=>false)
 | .bi d op x y=>slotOk N d o.dst&&(match o.op with | .binOp op' _ x' y' _=>op==op'&&mX GL x x'&&mX GL y y'|_=>false)
 | .bb d neg x y=>slotOk N d o.dst&&(match o.op with | .binOp op' t x' y' _=>op'==(if neg then .neq else .eql)&&(match P.underlying t with |some .bool=>true|_=>false)&&mX GL x x'&&mX GL y y'|_=>false)
 | .ea d neg ks x y=>slotOk N d o.dst&&(match o.op with | .binOp op' t x' y' _=>op'==(if neg then .neq else .eql)&&(eqK P 4 t==some ks)&&aggT P t&&!(P.eqGuardType P.depth t)&&mX GL x x'&&mX GL y y'|_=>false)
 | .bq d x=>slotOk N d o.dst&&(match o.op with | .convert s t x'=>(match P.underlying s with |some (.slice e)=>(match P.underlying e with |some (.int .u8)=>sz? P e==some 1|_=>false)|_=>false)&&(match P.underlying t with |some .string=>true|_=>false)&&mX GL x x'|_=>false)
 | .pn d neg x=>slotOk N d o.dst&&(match o.op with | .binOp op' t x' (.const (.pointer none)) _=>op'==(if neg=true then .neq else .eql)&&(match P.underlying t with |some (.pointer _)=>true|_=>false)&&mX GL x x'|_=>false)
 | .un d op x=>slotOk N d o.dst&&(match o.op with | .unOp op' _ x'=>op==op'&&mX GL x x'|_=>false)
 | .cv d k x=>slotOk N d o.dst&&(match o.op with | .convert s t x'=>(P.underlying s).isSome&&(match P.underlying t with |some (.int k')=>k==k'|_=>false)&&mX GL x x'|_=>false)
 | .ln d x=>slotOk N d o.dst&&(match o.op with | .call {callee:= .builtin .len,args:=as,argTypes:=ts}=>(match as.toList,ts.toList with |[x'],[t]=>(match P.underlying t with |some (.slice _)=>true|_=>false)&&mX GL x x'|_,_=>false)|_=>false)
 | .lns d x=>slotOk N d o.dst&&(match o.op with | .call {callee:= .builtin .len,args:=as,argTypes:=ts}=>(match as.toList,ts.toList with |[x'],[t]=>(match P.underlying t with |some .string=>true|_=>false)&&mX GL x x'|_,_=>false)|_=>false)
 | .fa d x off=>slotOk N d o.dst&&(match o.op with | .fieldAddr t x' f=>(match (fieldsAt P t)[f]? with |some (o',n)=>o'==off&&!(n==0)|none=>false)&&mX GL x x'|_=>false)
 | .ia d sz x i=>slotOk N d o.dst&&(match o.op with | .indexAddr t x' i'=>(match P.underlying t with |some (.slice e)=>sz? P e==some sz|_=>false)&&mX GL x x'&&mX GL i i'|_=>false)
 | .iaa d sz n x i=>slotOk N d o.dst&&(match o.op with | .indexAddr t x' i'=>(match P.underlying t with |some (.array m e)=>m==n&&sz? P e==some sz|_=>false)&&mX GL x x'&&mX GL i i'|_=>false)
 | .lds d x=>slotOk N d o.dst&&(match o.op with | .load t x'=>scal P t&&mX GL x x'|_=>false)
 | .ldf d x=>slotOk N d o.dst&&(match o.op with | .load t x'=>scal P t&&mX GL x x'|_=>false)
 | .lda d n x=>slotOk N d o.dst&&(match o.op with | .load t x'=>aggT P t&&sz? P t==some n&&mX GL x x'|_=>false)
 | .st n x v=>o.dst==none&&(match o.op with | .store t x' v'=>sz? P t==some n&&mX GL x x'&&mX GL v v'|_=>false)
 | .lo d x=>slotOk N d o.dst&&(match o.op with | .load t x'=>scal P t&&mX GL x x'|_=>false)
 | .so x s=>o.dst==none&&(match o.op with | .store t x' (.tmp s')=>sz? P t==some 1&&s==s'&&mX GL x x'|_=>false)
 | .al d z=>slotOk N d o.dst&&(match o.op with | .alloc t=>(match P.info? t with |some i=>(match i.zero with |some z'=>z'.cells.toList.all (·.oneCell')&&cstL z z'.cells.toList|none=>false)|none=>false)|_=>false)
 | .alT d T off z=>slotOk N d o.dst&&(match o.op with | .alloc t=>t==T&&decide (off<z.length)&&(match z[off]? with |some .nilp=>true|_=>false)&&(match P.info? t with |some i=>(match i.zero with |some z'=>z'.cells.toList.all (·.oneCell')&&cstL z z'.cells.toList&&z.length==z'.cells.size|none=>false)|none=>false)|_=>false)
 | .bx d x=>slotOk N d o.dst&&(match o.op with | .box _ x'=>mX GL x x'|_=>false)
 | .bxT d T _ x=>slotOk N d o.dst&&(match o.op with | .box t x'=>t==T&&mX GL x x'|_=>false)
 | .bd d z ps=>slotOk N d o.dst&&(match o.op with | .build t ps'=>(match P.info? t with |some i=>(match i.zero with |some (.agg z')=>z'.toList.all (·.oneCell')&&cstL z z'.toList|_=>false)|none=>false)&&(match P.underlying t with |some (.struct fs)=>fs.toList.all (fun f=>(sz? P f.type).isSome)&&mBuild GL (fieldsAt P t) ps ps'.toList|some (.array n e)=>(match sz? P e with |some sz=>mBuild GL ((List.range n).map fun i=>(i*sz,sz)) ps ps'.toList|none=>false)|_=>false)|_=>false)
 | .bs d sz ps=>slotOk N d o.dst&&(match o.op with | .buildSlice t n ps'=>(match P.underlying t with |some (.slice e)=>(match P.info? e with |some i=>i.size==sz&&(match i.zero with |some z=>z.cells.size==sz|none=>false)|none=>false)|_=>false)&&kOk sz&&n==ps.length&&Nat.ble (n*sz) 16777216&&(match parts ps'.toList 0 with |some ys=>mXs GL ps ys|none=>false)|_=>false)
 | .fls d off x=>slotOk N d o.dst&&(match o.op with | .field t x' f=>(match P.underlying t with |some (.struct fs)=>(match fs[f]? with |some f=>scal P f.type&&f.offset==off|none=>false)|_=>false)&&mX GL x x'|_=>false)
 | .fla d off n x=>slotOk N d o.dst&&(match o.op with | .field t x' f=>(match P.underlying t with |some (.struct fs)=>(match fs[f]? with |some f=>aggT P f.type&&sz? P f.type==some n&&f.offset==off|none=>false)|_=>false)&&mX GL x x'|_=>false)
 | .ixs d x i=>slotOk N d o.dst&&(match o.op with | .index t x' i'=>(match P.underlying t with |some .string=>true|_=>false)&&mX GL x x'&&mX GL i i'|_=>false)
 | .ex d x i=>slotOk N d o.dst&&(match o.op with | .extract x' i'=>i==i'&&mX GL x x'|_=>false)
 | .exq d x i=>slotOk N d o.dst&&(match o.op with | .extract x' i'=>i==i'&&mX GL x x'|_=>false)
 | .cl d f xs=>slotOk N d o.dst&&(match o.op with | .call {callee:= .value (.func f'),args:=as,argTypes:=_}=>f==f'&&mXs GL xs as.toList|_=>false)
 | .ap d sz by_ s y=>slotOk N d o.dst&&(match o.op with | .call {callee:= .builtin .append,args:=as,argTypes:=ts}=>(match as.toList,ts.toList with |[s',y'],[t,t']=>t==t'&&(match P.underlying t with |some (.slice e)=>(match P.info? e with |some i=>i.size==sz&&i.bytes==by_&&(match i.zero with |some z=>z.cells.size==sz|none=>false)|none=>false)|_=>false)&&kOk sz&&!(by_==0)&&mX GL s s'&&mX GL y y'|_,_=>false)|_=>false)
 | .clr sz z x=>o.dst==none&&(match o.op with | .call {callee:= .builtin .clear,args:=as,argTypes:=ts}=>(match as.toList,ts.toList with |[x'],[t]=>(match P.underlying t with |some (.slice e)=>(match P.info? e with |some i=>i.size==sz&&(match i.zero with |some z'=>z'.cells.size==sz&&z'.cells.toList.all (·.oneCell')&&cstL z z'.cells.toList|none=>false)|none=>false)|_=>false)&&!(sz==0)&&mX GL x x'|_,_=>false)|_=>false)
 | .mk d sz by_ z l c=>slotOk N d o.dst&&(match o.op with | .makeSlice t l' c'=>(match P.underlying t with |some (.slice e)=>(match P.info? e with |some i=>i.size==sz&&i.bytes==by_&&(match i.zero with |some z'=>z'.cells.size==sz&&z'.cells.toList.all (·.oneCell')&&cstL z z'.cells.toList|none=>false)|none=>false)|_=>false)&&kOk sz&&!(by_==0)&&mX GL l l'&&mX GL c c'|_=>false)
 | .sls d x lo hi=>slotOk N d o.dst&&(match o.op with | .slice t x' lo' hi' none=>(match P.underlying t with |some .string=>true|_=>false)&&mX GL x x'&&mOpt GL lo lo'&&mOpt GL hi hi'|_=>false)
 | .slc d sz x lo hi=>slotOk N d o.dst&&(match o.op with | .slice t x' lo' hi' none=>(match P.underlying t with |some (.slice e)=>sz? P e==some sz|_=>false)&&mX GL x x'&&mOpt GL lo lo'&&mOpt GL hi hi'|_=>false)
 | .mn d x y=>slotOk N d o.dst&&(match o.op with | .call {callee:= .builtin .min,args:=as,argTypes:=_}=>(match as.toList with |[x',y']=>mX GL x x'&&mX GL y y'|_=>false)|_=>false)
 | .mx d x y=>slotOk N d o.dst&&(match o.op with | .call {callee:= .builtin .max,args:=as,argTypes:=_}=>(match as.toList with |[x',y']=>mX GL x x'&&mX GL y y'|_=>false)|_=>false)
 | .nc d x=>slotOk N d o.dst&&(match o.op with | .nilCheck x'=>mX GL x x'|_=>false)
 | .mi d T x=>slotOk N d o.dst&&(match o.op with | .makeInterface t x'=>t==T&&conc P t&&mX GL x x'|_=>false)
 | .ta d T z x ok=>slotOk N d o.dst&&(match o.op with | .typeAssert x' _ t ok'=>t==T&&conc P t&&zOk P z t&&ok==ok'&&mX GL x x'|_=>false)
 | .ce d f xs=>slotOk N d o.dst&&(match o.op with | .call {callee:= .value (.func f'),args:=as,argTypes:=_}=>f==f'&&mXs GL xs as.toList|_=>false)
 | .cr d f xs=>slotOk N d o.dst&&(match o.op with | .call {callee:= .value (.func f'),args:=as,argTypes:=_}=>f==f'&&mXs GL xs as.toList|_=>false)
 | .cq d f xs _=>slotOk N d o.dst&&(match o.op with | .call {callee:= .value (.func f'),args:=as,argTypes:=_}=>f==f'&&mXs GL xs as.toList|_=>false)
 | .mkm d sz by_ z l c=>slotOk N d o.dst&&(match o.op with | .makeSlice t l' c'=>(match P.underlying t with |some (.slice e)=>(match P.info? e with |some i=>i.size==sz&&i.bytes==by_&&(match i.zero with |some z'=>z'.cells.size==sz&&z'.cells.toList.all (·.oneCell')&&cstL z z'.cells.toList|none=>false)|none=>false)|_=>false)&&!(sz==0)&&!(by_==0)&&mX GL l l'&&mX GL c c'|_=>false)
 | .apm d sz by_ s y=>slotOk N d o.dst&&(match o.op with | .call {callee:= .builtin .append,args:=as,argTypes:=ts}=>(match as.toList,ts.toList with |[s',y'],[t,t']=>t==t'&&(match P.underlying t with |some (.slice e)=>(match P.info? e with |some i=>i.size==sz&&i.bytes==by_&&(match i.zero with |some z=>z.cells.size==sz&&z.cells.toList.all (·.oneCell')|none=>false)|none=>false)|_=>false)&&!(sz==0)&&!(by_==0)&&mX GL s s'&&mX GL y y'|_,_=>false)|_=>false)
 | .bsm d sz ps=>slotOk N d o.dst&&(match o.op with | .buildSlice t n ps'=>(match P.underlying t with |some (.slice e)=>(match P.info? e with |some i=>i.size==sz&&(match i.zero with |some z=>z.cells.size==sz|none=>false)|none=>false)|_=>false)&&!(sz==0)&&n==ps.length&&Nat.ble (n*sz) 16777216&&(match parts ps'.toList 0 with |some ys=>mXs GL ps ys|none=>false)|_=>false)
 | .bsn d sz ps=>slotOk N d o.dst&&(match o.op with | .buildSlice t n ps'=>(match P.underlying t with |some (.slice e)=>(match P.info? e with |some i=>i.size==sz&&(match i.zero with |some z=>z.cells.size==sz|none=>false)|none=>false)|_=>false)&&kOk sz&&n==ps.length&&Nat.ble (n*sz) 16777216&&(match parts ps'.toList 0 with |some ys=>mXs GL ps ys|none=>false)|_=>false)
 | .ca d f s ps=>slotOk N d o.dst&&(match o.op with | .call {callee:= .value (.func f'),args:=as,argTypes:=_}=>f==f'&&mXs GL (s.toList++ps) as.toList|_=>false)
 | .cd d x xs=>slotOk N d o.dst&&(match o.op with | .call {callee:= .value f',args:=as,argTypes:=_}=>mX GL x f'&&mXs GL xs as.toList|_=>false)
 | .mf d f xs=>slotOk N d o.dst&&(match o.op with | .makeFunc (.func f') first cap=>f==f'&&first.size==0&&mXs GL xs cap.toList|_=>false)
 | .b2s d x=>slotOk N d o.dst&&(match o.op with | .convert s t x'=>(match P.underlying s with |some (.slice e)=>(match P.underlying e with |some (.int .u8)=>sz? P e==some 1|_=>false)|_=>false)&&(match P.underlying t with |some .string=>true|_=>false)&&mX GL x x'|_=>false)
 | .i2s d x=>slotOk N d o.dst&&(match o.op with | .convert s t x'=>(P.underlying s).isSome&&(match P.underlying t with |some .string=>true|_=>false)&&mX GL x x'|_=>false)
 | .inl d neg x=>slotOk N d o.dst&&(match o.op with | .binOp op' t x' (.const .nilIface) _=>op'==(if neg=true then .neq else .eql)&&(match P.underlying t with |some (.interface _)=>true|_=>false)&&mX GL x x'|_=>false)
 | .s2b d x=>slotOk N d o.dst&&(match o.op with | .convert s t x'=>(match P.underlying t with |some (.slice e)=>(match P.underlying e with |some (.int .u8)=>(match P.info? e with |some i=>i.size==1&&i.bytes==1|none=>false)|_=>false)|_=>false)&&(match P.underlying s with |some .string=>true|_=>false)&&mX GL x x'|_=>false)
 | .aps d s y=>slotOk N d o.dst&&(match o.op with | .call {callee:= .builtin .append,args:=as,argTypes:=ts}=>(match as.toList,ts.toList with |[s',y'],[t,t']=>(match P.underlying t' with |some .string=>true|_=>false)&&(match P.underlying t with |some (.slice e)=>(match P.info? e with |some i=>i.size==1&&i.bytes==1&&(match i.zero with |some z=>z.cells.size==1|none=>false)|none=>false)|_=>false)&&mX GL s s'&&mX GL y y'|_,_=>false)|_=>false)
 | .rs d x=>slotOk N d o.dst&&(match o.op with | .range t x'=>(match P.underlying t with |some .string=>true|_=>false)&&mX GL x x'|_=>false)
 | .nx d x=>slotOk N d o.dst&&(match o.op with | .next x' true=>mX GL x x'|_=>false)
 | .ixa d sz n agg x i=>slotOk N d o.dst&&(match o.op with | .index t x' i'=>(match P.underlying t with |some (.array m e)=>m==n&&sz? P e==some sz&&(if agg=true then aggT P e else scal P e)|_=>false)&&mX GL x x'&&mX GL i i'|_=>false)
 | .mkp d=>slotOk N d o.dst&&(match o.op with | .makeMap _ none=>true|_=>false)
 | .mpl d x=>slotOk N d o.dst&&(match o.op with | .call {callee:= .builtin .len,args:=as,argTypes:=ts}=>(match as.toList,ts.toList with |[x'],[t]=>(match P.underlying t with |some (.map _ _)=>true|_=>false)&&mX GL x x'|_,_=>false)|_=>false)
 | .mpe d q z m k=>slotOk N d o.dst&&(match o.op with | .mapEntry t m' k'=>(match P.underlying t with |some (.map kt et)=>fkT P q kt&&mkZ P z et|_=>false)&&mX GL m m'&&mX GL k k'|_=>false)
 | .mes m s v=>o.dst==none&&(match o.op with | .entryStore _ m' s' v'=>mX GL m m'&&mX GL s s'&&mX GL v v'|_=>false)
 | .mup q m k v=>o.dst==none&&(match o.op with | .mapUpdate t m' k' v'=>(match P.underlying t with |some (.map kt _)=>fkT P q kt|_=>false)&&mX GL m m'&&mX GL k k'&&mX GL v v'|_=>false)
 | .mlk d q z m k ok=>slotOk N d o.dst&&(match o.op with | .lookup t m' k' ok'=>(match P.underlying t with |some (.map kt et)=>fkT P q kt&&mkZ P z et|_=>false)&&ok==ok'&&mX GL m m'&&mX GL k k'|_=>false)
 | .sla d n x lo hi=>slotOk N d o.dst&&(match o.op with | .slice t x' lo' hi' none=>(match P.underlying t with |some (.array m e)=>m==n&&sz? P e==some 1|_=>false)&&mX GL x x'&&mOpt GL lo lo'&&mOpt GL hi hi'|_=>false)
 | .no=>true
 | .gd _ _ _ _=>false

def mt (P:Program) (GL:List (Nat×List Value)) (N:Nat) (ops:Array Oper) (o:Oper):AOp→Bool
 | .gd s b d ao=>(match o.guard with |some (j,b')=>b==b'&&((ops[j]?).bind (·.dst))==some s|none=>false)&&slotOk N d o.dst&&mt1 P GL N o ao
 |ao=>o.guard.isNone&&mt1 P GL N o ao
end Go.Ai
namespace Go.Ai
open Go.RowKit
variable {P:Program} {F:Fr} {S:Mem} {gb:Gb} {σ:St} {a:Act} {w:World}
def ents (es:List (MK×MK)) (i:Nat):List MapEntry:=(es.zipIdx i).map fun p=>(⟨p.1.1.val,p.1.2.val,p.2⟩:MapEntry)
theorem mapEnts_eq (es:List (MK×MK)):mapEnts es=(ents es 0).toArray:=rfl
def fkD:FK→TypeDesc→Bool
 | .s,.string=>true
 | .i,.int _=>true
 |_,_=>false
theorem fkT_sound {q:FK} {t:TypeId} (h:fkT P q t=true): ∃d,P.underlying t=some d∧fkD q d=true:=by
 unfold fkT at h
 split at h
 ·rename_i e;exact ⟨_,e,rfl⟩
 ·rename_i e;exact ⟨_,e,rfl⟩
 ·cases h
theorem mkk_PR {q:FK} {v:AV} {k:MK} {u:Value} (h:v.mkk q=some k) (hp:PR S gb v u):u=k.val:=by
 unfold AV.mkk at h
 split at h
 ·cases h;simpa only [PR,MK.val] using hp
 ·cases h;simpa only [PR,MK.val] using hp
 ·cases h
theorem av_PR (k:MK):PR S gb k.av k.val:=by cases k<;>simp only [MK.av,MK.val,PR]
theorem av_PR' {k:MK} {u:Value} (h:PR S gb k.av u):u=k.val:=by cases k<;>simpa only [MK.av,MK.val,PR] using h
theorem bytes_mk_beq (a b:List UInt8):((⟨a.toArray⟩:ByteArray)==⟨b.toArray⟩)=(a==b):=by
 rw [Bool.eq_iff_iff,MapKept.bytes_beq]
 constructor
 ·intro h
  have:=congrArg (fun x:ByteArray=>x.data.toList) h
  simpa using this
 ·intro h
  have:a=b:=by simpa using h
  rw [this]
theorem same_sound {q:FK} {d:TypeDesc} {v:AV} {k k':MK} {r:Bool} (hd:fkD q d=true) (hk:v.mkk q=some k) (h:k.same k'=some r):Instr.sameNow d k.val k'.val=some r:=by
 unfold AV.mkk at hk
 split at hk
 ·cases hk
  cases d<;>simp [fkD] at hd
  cases k' with
  |s b=>simp only [MK.same,Option.some.injEq] at h;simp only [MK.val,Instr.sameNow,bytes_mk_beq,h]
  |i l n=>simp [MK.same] at h
 ·cases hk
  cases d<;>simp [fkD] at hd
  cases k' with
  |s b=>simp [MK.same] at h
  |i l n=>simpa only [MK.same,MK.val,Instr.sameNow] using h
 ·cases hk
theorem find_sound {q:FK} {d:TypeDesc} {v:AV} {k:MK} (hd:fkD q d=true) (hk:v.mkk q=some k): ∀(es:List (MK×MK)) (i:Nat) {r:Option (Nat×MK)},mfind k es i=some r→
  Instr.findNow d k.val (ents es i) i=some (r.map fun p=>(p.1,p.2.val))∧ ∀p,r=some p→ ∃e,es[p.1 - i]?=some e∧k.same e.1=some true∧e.2=p.2∧i≤p.1
 |[],i,r,h=>by
  simp only [mfind,Option.some.injEq] at h;subst h
  exact ⟨rfl,by simp⟩
 |e::es,i,r,h=>by
  obtain ⟨k',v'⟩:=e
  have he:ents ((k',v')::es) i=⟨k'.val,v'.val,i⟩::ents es (i+1):=rfl
  simp only [mfind] at h
  rw [he]
  simp only [Instr.findNow]
  split at h
  ·rename_i hs
   cases h
   rw [same_sound hd hk hs]
   exact ⟨rfl,fun p hp=>by cases hp;exact ⟨(k',v'),by simp,hs,rfl,Nat.le_refl _⟩⟩
  ·rename_i hs
   rw [same_sound hd hk hs]
   obtain ⟨h1,h2⟩:=find_sound hd hk es (i+1) h
   refine ⟨h1,fun p hp=>?_⟩
   obtain ⟨e,e1,e2,e3,e4⟩:=h2 p hp
   refine ⟨e,?_,e2,e3,by omega⟩
   rw [show p.1 - i=(p.1 - (i+1))+1 by omega]
   simpa using e1
  ·cases h
theorem run_checkKey' {q:FK} {kt:TypeId} {d:TypeDesc} (hd:P.underlying kt=some d) (hq:fkD q d=true) (v:Value) (e:Bool) (n:Nat):(Instr.checkKey e (n+1) kt v).run P w= .ok () w:=by
 unfold Instr.checkKey
 simp only [Sem.run_bind,run_underlying hd,Result.andThen]
 cases d<;>simp_all [fkD]
theorem mkZ_sound {z:MK} {t:TypeId} (h:mkZ P z t=true):(zeroValue t).run P w= .ok z.val w:=by
 unfold mkZ at h
 split at h
 ·rename_i i hi
  split at h
  ·rename_i v hv
   have:=cst_sound (S:=fun _ _=>none) (gb:=gb0) _ _ h
   have e:=av_PR' this
   simp [zeroValue,typeInfo,hi,hv,e]
  ·cases h
 ·cases h
theorem mapOf_sound (h:Rel F S gb σ a w) {v:AV} {u:Value} {b:Id} {es:List (MK×MK)} (hm:mapOf σ.bx v=some (b,es)) (hp:PR S gb v u):
  ∃g z,gb b=some (g,z)∧u= .map (some g)∧lkB σ.bx b=some [.mpv es]∧b.isIt=true∧w.heap[g]?=some (.map (mapEnts es) es.length)∧ ∀o,S g o=none:=by
 unfold mapOf at hm
 split at hm
 ·rename_i d
  split at hm
  ·rename_i es' he
   cases hm
   simp only [PR] at hp
   obtain ⟨g,z,h1,h2,h3⟩:=hp
   obtain ⟨g',z',ob,e1,e2,e3,e4⟩:=h.hr.its _ _ he h2
   rw [h1] at e1;cases e1
   simp only [itO,Option.some.injEq] at e2;subst e2
   exact ⟨g,z,h1,h3,he,h2,e3,e4⟩
  ·cases hm
 ·cases hm
end Go.Ai
namespace Go.Ai
open Go.RowKit
variable {P:Program} {F:Fr} {S:Mem} {gb:Gb} {σ:St} {a:Act} {w:World}

theorem slotOk_iff {N d:Nat} {dst:Option Tmp}:slotOk N d dst=true↔dst=some d∧d<N:=by
 simp [slotOk]

def Yields1 (P:Program) (S:Mem) (gb:Gb) (a:Act) (w:World) (o:Oper) (v:AV):Prop:=
 ∃u,(execOp a.eval o).run P w= .ok (.value u) w∧PR S gb v u

theorem toList_mk (l:List UInt8):(ByteArray.mk l.toArray).toList=l:=by rw [ByteArray.toList_eq]

theorem bin_sound {op:BinOp} {x y r:AV} {t:TypeId} {p q:Operand} {u v:Value} (h:bin op x y=some r) (hx:PR S gb x u) (hy:PR S gb y v):
  ∃z,(do eqGuard op t p q u v;binOp op t u v:Sem Value).run P w= .ok z w∧PR S gb r z:=by
 unfold bin at h
 split at h
 ·rename_i k a k' b
  simp only [PR] at hx hy
  subst hx;subst hy
  split at h<;>(try split at h)<;>simp only [Option.some.injEq,reduceCtorEq] at h<;>(try contradiction)<;>subst h
  ·rename_i e;subst e;exact ⟨_,by simp [binOp_add,Op.intArith];rfl,by simp [PR]⟩
  ·rename_i e;subst e;exact ⟨_,by simp [binOp_sub,Op.intArith];rfl,by simp [PR]⟩
  ·rename_i e;subst e;exact ⟨_,by simp [binOp_mul,Op.intArith];rfl,by simp [PR]⟩
  ·rename_i e;obtain ⟨rfl,e⟩:=e;exact ⟨_,by simp [eqGuard_quo,binOp_quo,Op.intDiv,e];rfl,by simp [PR]⟩
  ·rename_i e;obtain ⟨rfl,e⟩:=e;exact ⟨_,by simp [eqGuard_rem,binOp_rem,Op.intDiv,e];rfl,by simp [PR]⟩
  ·rename_i e;exact ⟨_,by simp [eqGuard_shl,binOp_shl,Op.shift,show ¬b<0 by omega];rfl,by simp [PR]⟩
  ·rename_i e;exact ⟨_,by simp [eqGuard_shr,binOp_shr,Op.shift,show ¬b<0 by omega];rfl,by simp [PR]⟩
  ·rename_i e;subst e;exact ⟨_,by simp [eqGuard_at_int,binOp_eql];rfl,by simp [PR]⟩
  ·rename_i e;subst e;exact ⟨_,by simp [eqGuard_at_int,binOp_neq];rfl,by simp [PR]⟩
  ·rename_i e;subst e;exact ⟨_,by simp [eqGuard_lss,binOp_lss];rfl,by simp [PR]⟩
  ·rename_i e;subst e;exact ⟨_,by simp [eqGuard_leq,binOp_leq];rfl,by simp [PR]⟩
  ·rename_i e;subst e;exact ⟨_,by simp [eqGuard_gtr,binOp_gtr];rfl,by simp [PR]⟩
  ·rename_i e;subst e;exact ⟨_,by simp [eqGuard_geq,binOp_geq];rfl,by simp [PR]⟩
  ·rename_i e;subst e
   cases op<;>first|contradiction|exact ⟨_,by simp [eqGuard_and,eqGuard_or,eqGuard_xor,eqGuard_andNot,binOp_and,binOp_or,binOp_xor,binOp_andNot,intBits_and,intBits_or,intBits_xor,intBits_andNot];rfl,by simp [PR]⟩
 ·rename_i a b
  simp only [PR] at hx hy
  subst hx;subst hy
  split at h<;>(try split at h)<;>simp only [Option.some.injEq,reduceCtorEq] at h<;>(try contradiction)<;>subst h
  ·rename_i e
   refine ⟨.string ⟨(a++b).toArray⟩,?_,by simp [PR]⟩
   have e1:(ByteArray.mk a.toArray++ByteArray.mk b.toArray)=ByteArray.mk (a++b).toArray:=by
    apply ByteArray.ext;simp
   have e2:(ByteArray.mk a.toArray).size=a.length:=rfl
   have e3:(ByteArray.mk b.toArray).size=b.length:=rfl
   simp [eqGuard_at_string,binOp,Op.stringOp,e1,e2,e3,show ¬(9223372036854775807<(a.length:Int)+(b.length:Int)) by omega]
  ·exact ⟨_,by simp [eqGuard_at_string,binOp,Op.stringOp,toList_mk];rfl,by simp [PR]⟩
  ·exact ⟨_,by simp [eqGuard_at_string,binOp,Op.stringOp,toList_mk];rfl,by simp [PR]⟩
  ·exact ⟨_,by simp [eqGuard_at_string,binOp,Op.stringOp,toList_mk];rfl,by simp [PR]⟩
  ·exact ⟨_,by simp [eqGuard_at_string,binOp,Op.stringOp,toList_mk];rfl,by simp [PR]⟩
  ·exact ⟨_,by simp [eqGuard_at_string,binOp,Op.stringOp,toList_mk];rfl,by simp [PR]⟩
  ·exact ⟨_,by simp [eqGuard_at_string,binOp,Op.stringOp,toList_mk];rfl,by simp [PR]⟩
 ·cases h

theorem cellEq_sound {d:Nat} {k:FK} {x y:AV} {b:Bool} {t:TypeId} {u v:Value} (h:cellEq k x y=some b) (hx:PR S gb x u) (hy:PR S gb y v)
  (hd:k= .b∧P.underlying t=some .bool∨k= .i∧(∃k,P.underlying t=some (.int k))∨k= .s∧P.underlying t=some .string):
  (Op.equalIn (d+1) t u v).run P w= .ok b w:=by
 unfold cellEq at h
 split at h
 ·split at h
  ·rename_i e;subst e
   simp only [Option.some.injEq] at h;subst h
   simp only [PR] at hx hy;subst hx;subst hy
   rcases hd with ⟨h,_⟩|⟨_,_,hd⟩|⟨h,_⟩
   ·cases h
   ·exact run_equalIn_int (h:=hd) ..
   ·cases h
  ·cases h
 ·simp only [Option.some.injEq] at h;subst h
  simp only [PR] at hx hy;subst hx;subst hy
  rcases hd with ⟨_,hd⟩|⟨h,_,hd⟩|⟨h,_⟩
  ·exact run_equalIn_bool' (h:=hd) ..
  ·cases h
  ·cases h
 ·simp only [Option.some.injEq] at h;subst h
  simp only [PR] at hx hy;subst hx;subst hy
  rcases hd with ⟨h,hd⟩|⟨h,_,hd⟩|⟨_,hd⟩
  ·cases h
  ·cases h
  ·rw [run_equalIn_string (h:=hd),toList_mk,toList_mk]
 ·cases h

theorem cellsEq_append {ks ls:List FK} {xs ys:List AV} {b:Bool} (h:cellsEq (ks++ls) xs ys=some b):
  ∃b1 b2,cellsEq ks (xs.take ks.length) (ys.take ks.length)=some b1∧cellsEq ls (xs.drop ks.length) (ys.drop ks.length)=some b2∧b=(b1&&b2):=by
 induction ks generalizing xs ys b with
 |nil=>exact ⟨true,b,by simp [cellsEq],by simpa using h,by simp⟩
 |cons k ks ih=>
  cases xs with
  |nil=>simp [cellsEq] at h
  |cons x xs=>
   cases ys with
   |nil=>simp [cellsEq] at h
   |cons y ys=>
    simp only [List.cons_append,cellsEq] at h
    split at h
    ·rename_i b0 b' e1 e2
     simp only [Option.some.injEq] at h
     obtain ⟨b1,b2,h1,h2,h3⟩:=ih e2
     refine ⟨b0&&b1,b2,?_,by simpa using h2,?_⟩
     ·simp [cellsEq,e1,h1]
     ·rw [←h,h3,Bool.and_assoc]
    ·cases h
theorem cellsEq_length {ks:List FK} {xs ys:List AV} {b:Bool} (h:cellsEq ks xs ys=some b):xs.length=ks.length∧ys.length=ks.length:=by
 induction ks generalizing xs ys b with
 |nil=>cases xs<;>cases ys<;>simp [cellsEq] at h ⊢
 |cons k ks ih=>
  cases xs with
  |nil=>simp [cellsEq] at h
  |cons x xs=>
   cases ys with
   |nil=>simp [cellsEq] at h
   |cons y ys=>
    simp only [cellsEq] at h
    split at h
    ·rename_i e1 e2;have:=ih e2;simp [this.1,this.2]
    ·cases h

theorem run_part_s {t o:Nat} {us:Array Value} {u:Value} (ht:scal P t=true) (hu:us[o]?=some u):(part t us o).run P w= .ok u w:=by
 simp [part,run_isAgg_s ht,hu]
theorem run_part_a {t o n:Nat} {us:Array Value} (ht:aggT P t=true) (hn:sz? P t=some n):(part t us o).run P w= .ok (.agg (us.extract o (o+n))) w:=by
 simp [part,run_isAgg_a ht,run_sizeOf hn]

def ofCells (P:Program) (t:TypeId) (us:List Value):Value:=if aggT P t=true then .agg us.toArray else us.headD undef

theorem run_part {t o n:Nat} {us:List Value} (hn:sz? P t=some n) (hl:o+n≤us.length) (h1:aggT P t=true∨scal P t=true∧n=1):
  (part t us.toArray o).run P w= .ok (ofCells P t ((us.drop o).take n)) w:=by
 by_cases h:aggT P t=true
 ·rw [run_part_a h hn]
  simp [ofCells,h,List.extract_eq_take_drop,Nat.add_sub_cancel_left]
 ·rcases h1 with h1|⟨h1,rfl⟩
  ·exact absurd h1 h
  ·have:o<us.length:=by omega
   rw [run_part_s h1 (u:=us[o]) (by simp [this])]
   have e2:(us.drop o).take 1=[us[o]]:=by rw [List.drop_eq_getElem_cons this];rfl
   rw [e2]
   simp [ofCells,h]

theorem eqK_sound: ∀(d:Nat) (t:TypeId) (ks:List FK) (e:Nat),eqK P d t=some ks→ ∀ {xs ys:List AV} {us vs:List Value} {b:Bool} (w:World),cellsEq ks xs ys=some b→PRlist S gb xs us→PRlist S gb ys vs→
  (Op.equalIn (d+e) t (ofCells P t us) (ofCells P t vs)).run P w= .ok b w∧(aggT P t=true∨scal P t=true∧ks.length=1)
 |0,t,ks,e,h,xs,ys,us,vs,b,w,_,_,_=>by simp [eqK] at h
 |d+1,t,ks,e,h,xs,ys,us,vs,b,w,hc,hx,hy=>by
  have one: ∀k,ks=[k]→aggT P t=false→(k= .b∧P.underlying t=some .bool∨k= .i∧(∃k,P.underlying t=some (.int k))∨k= .s∧P.underlying t=some .string)→(Op.equalIn (d+1+e) t (ofCells P t us) (ofCells P t vs)).run P w= .ok b w:=by
   rintro k rfl ha hk
   obtain ⟨l1,l2⟩:=cellsEq_length hc
   match xs,ys,l1,l2 with
   |[x],[y],_,_=>
    simp only [PRlist] at hx hy
    obtain ⟨u,_,rfl,hx,rfl⟩:=hx
    obtain ⟨v,_,rfl,hy,rfl⟩:=hy
    simp only [cellsEq] at hc
    split at hc
    ·rename_i b1 b2 e1 e2
     simp only [Option.some.injEq] at e2 hc
     subst e2
     simp at hc
     subst hc
     simp only [ofCells,ha]
     rw [show d+1+e=(d+e)+1 by omega]
     exact cellEq_sound e1 hx hy hk
    ·cases hc
  unfold eqK at h
  split at h
  ·rename_i hu
   simp only [Option.some.injEq] at h;subst h
   exact ⟨one _ rfl (by simp [aggT,hu]) (.inl ⟨rfl,hu⟩),.inr ⟨by simp [scal,hu],rfl⟩⟩
  ·rename_i k hu
   simp only [Option.some.injEq] at h;subst h
   exact ⟨one _ rfl (by simp [aggT,hu]) (.inr (.inl ⟨rfl,k,hu⟩)),.inr ⟨by simp [scal,hu],rfl⟩⟩
  ·rename_i hu
   simp only [Option.some.injEq] at h;subst h
   exact ⟨one _ rfl (by simp [aggT,hu]) (.inr (.inr ⟨rfl,hu⟩)),.inr ⟨by simp [scal,hu],rfl⟩⟩
  ·rename_i fs hu
   split at h
   ·cases h
   ·rename_i hst
    have ha:aggT P t=true:=by simp [aggT,hu]
    refine ⟨?_,.inl ha⟩
    have hf:P.underlying t=some (.struct (P.fieldsOf t)):=by simp [Program.fieldsOf,hu]
    simp only [ofCells,ha,if_true]
    rw [show d+1+e=(d+e)+1 by omega,run_equalIn_struct w (d+e) t _ _ hf (by simpa using hst)]
    have hfs:P.fieldsOf t=fs:=by simp [Program.fieldsOf,hu]
    rw [hfs]
    have key: ∀(l:List Field) (o:Nat) (ks:List FK),eqFs P (eqK P d) l o=some ks→ ∀(b:Bool),cellsEq ks (xs.drop o) (ys.drop o)=some b→
      (Op.eqFields (d+e) us.toArray vs.toArray l).run P w= .ok b w:=by
     intro l
     induction l with
     |nil=>
      intro o ks hk b hb
      simp only [eqFs,Option.some.injEq] at hk
      subst hk
      have:=cellsEq_length hb
      rw [List.length_eq_zero_iff.1 this.1,List.length_eq_zero_iff.1 this.2] at hb
      simp [cellsEq] at hb
      subst hb
      simp [Op.eqFields]
     |cons f r ih=>
      intro o ks hk b hb
      simp only [eqFs] at hk
      split at hk
      ·rename_i hn
       split at hk
       ·rename_i k1 k2 e1 e2
        split at hk
        ·rename_i hsz
         simp only [Option.some.injEq] at hk
         subst hk
         obtain ⟨b1,b2,c1,c2,rfl⟩:=cellsEq_append hb
         have hx':=(hx.drop o).take k1.length
         have hy':=(hy.drop o).take k1.length
         obtain ⟨g1,g2⟩:=eqK_sound d f.type k1 e e1 w c1 hx' hy'
         have lx:=cellsEq_length hb
         simp only [List.length_append,List.length_drop,PRlist.length hx,PRlist.length hy] at lx
         have g2':aggT P f.type=true∨scal P f.type=true∧k1.length=1:=g2
         by_cases hk0:k1.length=0
         ·
          have p1:(part f.type us.toArray o).run P w= .ok (ofCells P f.type ((us.drop o).take k1.length)) w:=by
           rcases g2' with g|⟨_,g⟩
           ·rw [run_part_a g hsz];simp [ofCells,g,List.extract_eq_take_drop,hk0]
           ·omega
          have p2:(part f.type vs.toArray o).run P w= .ok (ofCells P f.type ((vs.drop o).take k1.length)) w:=by
           rcases g2' with g|⟨_,g⟩
           ·rw [run_part_a g hsz];simp [ofCells,g,List.extract_eq_take_drop,hk0]
           ·omega
          have ih':=ih (o+k1.length) k2 (by rw [hsz] at e2;simpa using e2) b2 (by simpa [List.drop_drop] using c2)
          simp only [Op.eqFields,hn.1,ne_eq,not_false_eq_true,if_true,hn.2,Sem.run_bind,p1,p2,Result.andThen_ok,g1]
          cases b1<;>simp [ih']
         ·have p1:=run_part (P:=P) (w:=w) (t:=f.type) (o:=o) (n:=k1.length) (us:=us) hsz (by omega) g2'
          have p2:=run_part (P:=P) (w:=w) (t:=f.type) (o:=o) (n:=k1.length) (us:=vs) hsz (by omega) g2'
          have ih':=ih (o+k1.length) k2 (by rw [hsz] at e2;simpa using e2) b2 (by simpa [List.drop_drop] using c2)
          simp only [Op.eqFields,hn.1,ne_eq,not_false_eq_true,if_true,hn.2,Sem.run_bind,p1,p2,Result.andThen_ok,g1]
          cases b1<;>simp [ih']
        ·cases hk
       ·cases hk
      ·cases hk
    exact key fs.toList 0 ks h b (by simpa using hc)
  ·rename_i n el hu
   split at h
   ·rename_i k hk
    split at h
    ·rename_i hse
     obtain ⟨hsc,hsz⟩:=hse
     simp only [Option.some.injEq] at h
     have ha:aggT P t=true:=by simp [aggT,hu]
     refine ⟨?_,.inl ha⟩
     simp only [ofCells,ha,if_true]
     cases hi:P.info? el with
     |none=>simp [sz?,hi] at hsz
     |some i=>
      have hce:P.cellsOf el=1:=by
       have:i.size=1:=by simpa [sz?,hi] using hsz
       simp [Program.cellsOf,hi,this]
      rw [show d+1+e=(d+e)+1 by omega,run_equalIn_array w (d+e) us.toArray vs.toArray hu hi,hce]
      have key: ∀(m o:Nat) (b:Bool),cellsEq (List.replicate m k) (xs.drop o) (ys.drop o)=some b→
        (Op.eqItems (d+e) el 1 us.toArray vs.toArray (List.range' o m)).run P w= .ok b w:=by
       intro m
       induction m with
       |zero=>
        intro o b hb
        have:=cellsEq_length hb
        rw [List.length_eq_zero_iff.1 this.1,List.length_eq_zero_iff.1 this.2] at hb
        simp [cellsEq] at hb
        subst hb
        simp [Op.eqItems]
       |succ m ih=>
        intro o b hb
        have lx:=cellsEq_length hb
        simp only [List.length_replicate,List.length_drop,PRlist.length hx,PRlist.length hy] at lx
        rw [List.replicate_succ,←List.singleton_append] at hb
        obtain ⟨b1,b2,c1,c2,rfl⟩:=cellsEq_append hb
        have hx':=(hx.drop o).take 1
        have hy':=(hy.drop o).take 1
        obtain ⟨g1,_⟩:=eqK_sound d el [k] e hk w c1 hx' hy'
        have p1:=run_part (P:=P) (w:=w) (t:=el) (o:=o) (n:=1) (us:=us) hsz (by omega) (.inr ⟨hsc,rfl⟩)
        have p2:=run_part (P:=P) (w:=w) (t:=el) (o:=o) (n:=1) (us:=vs) hsz (by omega) (.inr ⟨hsc,rfl⟩)
        have ih':=ih (o+1) b2 (by simpa [List.drop_drop] using c2)
        simp only [List.range'_succ,Op.eqItems,Nat.mul_one,Sem.run_bind,p1,p2,Result.andThen_ok,g1]
        cases b1<;>simp [ih']
      have:=key n 0 b (by simpa [h] using hc)
      rw [List.range_eq_range'];exact this
    ·cases h
   ·cases h
  ·cases h
end Go.Ai
namespace Go.Ai
open Go.RowKit
variable {P:Program} {F:Fr} {S:Mem} {gb:Gb} {σ:St} {a:Act} {w:World}

theorem loadCells_at {b o:Nat} {us:List Value} (h: ∀j u,us[j]?=some u→w.cell? ⟨b,o+j,none⟩=some u):(loadCells ⟨b,o,none⟩ us.length).run P w= .ok us.toArray w:=
 run_loadCells_list (P:=P) w ⟨b,o,none⟩ us (fun j u hu=>by rw [Addr.add_lit];exact h j u hu)

theorem Rel.boxcell (h:Rel F S gb σ a w) {d:Id} {g:Nat} {z:BZ} {cs:List AV} (hd:lkB σ.bx d=some cs) (hi:d.isIt=false) (hg:gb d=some (g,z)):
  ∃us:List Value,(∀j u,us[j]?=some u→w.cell? ⟨g,j,none⟩=some u)∧PRlist S gb cs us∧(∀u∈us,u.oneCell'=true):=by
 obtain ⟨g',us,T,e1,e3,e0,e4,e5,_⟩:=h.hr.box d cs hd hi
 rw [hg] at e1;cases e1
 refine ⟨us.toList.take cs.length,fun j u hu=>?_,e4,fun u hu=>e5 u (List.mem_of_mem_take hu)⟩
 rw [cell_of_row w g j us T _ e3]
 rw [List.getElem?_take] at hu
 split at hu
 ·simpa using hu
 ·cases hu

theorem gb0to {S:Mem} {gb:Gb} {c:AV} {u:Value} (h:PR S gb0 c u):PR S gb c u:=PR.mono (Mem.le.refl _) (gb0_le _) _ _ h
theorem gb0toL {S:Mem} {gb:Gb} {c:List AV} {u:List Value} (h:PRlist S gb0 c u):PRlist S gb c u:=PRlist.mono (Mem.le.refl _) (gb0_le _) _ _ h

theorem loadS_sound (h:Rel F S gb σ a w) {x v:AV} {p:Value} {t:Nat} (ht:scal P t=true) (hl:loadS σ.bx x=some v) (hx:PR S gb x p):
  ∃u,(Instr.loadAt t p).run P w= .ok u w∧PR S gb v u:=by
 unfold loadS at hl
 split at hl
 ·rename_i d off
  split at hl
  ·rename_i cs hcs
   simp only [PR] at hx
   obtain ⟨g,z,hg,hi,rfl⟩:=hx
   obtain ⟨us,h1,h2,_⟩:=h.boxcell hcs hi hg
   obtain ⟨u,hu,hp⟩:=h2.get hl
   exact ⟨u,by simp [Instr.loadAt,Instr.sureAddr,loadVar,run_isAgg_s ht,h1 off u hu],hp⟩
  ·cases hl
 ·rename_i cs
  simp only [PR] at hx
  obtain ⟨g,o,rfl,hc⟩:=hx
  obtain ⟨u,h1,h0,h2⟩:=hc.get hl
  have h1':=h.hr.agree _ _ _ h1
  simp only [Nat.add_zero] at h1'
  exact ⟨u,by simp [Instr.loadAt,Instr.sureAddr,loadVar,run_isAgg_s ht,h1'],gb0to h2⟩
 ·cases hl

theorem loadN_sound (h:Rel F S gb σ a w) {x v:AV} {p:Value} {t n:Nat} (ht:aggT P t=true) (hn:sz? P t=some n) (hl:loadN σ.bx n x=some v) (hx:PR S gb x p):
  ∃u,(Instr.loadAt t p).run P w= .ok u w∧PR S gb v u:=by
 unfold loadN at hl
 split at hl
 ·rename_i d off
  split at hl
  ·rename_i cs hcs
   split at hl
   ·rename_i hle
    simp only [Option.some.injEq] at hl;subst hl
    simp only [PR] at hx
    obtain ⟨g,z,hg,hi,rfl⟩:=hx
    obtain ⟨us,h1,h2,h3⟩:=h.boxcell hcs hi hg
    have h4:=(h2.drop off).take n
    have hlen:((us.drop off).take n).length=n:=by have:=h2.length;simp;omega
    have hld:=loadCells_at (P:=P) (w:=w) (b:=g) (o:=off) (us:=(us.drop off).take n) (fun j u hu=>by
     rw [List.getElem?_take] at hu
     split at hu
     ·rw [List.getElem?_drop] at hu;exact h1 _ _ hu
     ·cases hu)
    rw [hlen] at hld
    refine ⟨.agg ((us.drop off).take n).toArray,by simp [Instr.loadAt,Instr.sureAddr,loadVar,run_isAgg_a ht,run_sizeOf hn,hld],?_⟩
    simp only [PR]
    exact ⟨_,rfl,fun u hu=>h3 u (List.mem_of_mem_drop (List.mem_of_mem_take (by simpa using hu))),by simpa using h4⟩
   ·cases hl
  ·cases hl
 ·rename_i cs
  split at hl
  ·rename_i hle
   simp only [Option.some.injEq] at hl;subst hl
   simp only [PR] at hx
   obtain ⟨g,o,rfl,hc⟩:=hx
   obtain ⟨us,l1,l2,l3,l4⟩:=hc.list
   have hlen:(us.take n).length=n:=by simp;omega
   have hld:=loadCells_at (P:=P) (w:=w) (b:=g) (o:=o) (us:=us.take n) (fun j u hu=>by
     rw [List.getElem?_take] at hu
     split at hu
     ·exact h.hr.agree _ _ _ (l2 _ _ hu)
     ·cases hu)
   rw [hlen] at hld
   refine ⟨.agg (us.take n).toArray,by simp [Instr.loadAt,Instr.sureAddr,loadVar,run_isAgg_a ht,run_sizeOf hn,hld],?_⟩
   simp only [PR]
   exact ⟨_,rfl,fun u hu=>l3 u (List.mem_of_mem_take (by simpa using hu)),by simpa using gb0toL (l4.take n)⟩
  ·cases hl
 ·cases hl

theorem cs_PR {v:AV} {cs:List AV} {u:Value} (h:v.cs=some cs) (hp:PR S gb v u):PRlist S gb cs u.cells.toList∧(∀c∈u.cells.toList,c.oneCell'=true):=by
 cases v<;>simp only [AV.cs,Option.some.injEq,reduceCtorEq] at h
 case agg cs'=>
  subst h
  simp only [PR] at hp
  obtain ⟨us,rfl,h1,h2⟩:=hp
  exact ⟨h2,h1⟩
 all_goals subst h
 all_goals (have hp':=hp;simp only [PR] at hp)
 case int=>subst hp;exact ⟨⟨_,[],rfl,hp',rfl⟩,by simp [Value.cells,Value.oneCell']⟩
 case nilT=>obtain ⟨rfl,_⟩:=hp;exact ⟨⟨_,[],rfl,hp',rfl⟩,by simp [Value.cells,Value.oneCell']⟩
 case bool=>subst hp;exact ⟨⟨_,[],rfl,hp',rfl⟩,by simp [Value.cells,Value.oneCell']⟩
 case str=>subst hp;exact ⟨⟨_,[],rfl,hp',rfl⟩,by simp [Value.cells,Value.oneCell']⟩
 case nils=>subst hp;exact ⟨⟨_,[],rfl,hp',rfl⟩,by simp [Value.cells,Value.oneCell']⟩
 case nilp=>subst hp;exact ⟨⟨_,[],rfl,hp',rfl⟩,by simp [Value.cells,Value.oneCell']⟩
 case sl=>
  rcases hp with ⟨rfl,_⟩|⟨_,_,_,rfl,_⟩<;>exact ⟨⟨_,[],rfl,hp',rfl⟩,by simp [Value.cells,Value.oneCell']⟩
 case pin=>obtain ⟨_,_,rfl,_⟩:=hp;exact ⟨⟨_,[],rfl,hp',rfl⟩,by simp [Value.cells,Value.oneCell']⟩
 case ptr=>obtain ⟨_,_,_,_,rfl⟩:=hp;exact ⟨⟨_,[],rfl,hp',rfl⟩,by simp [Value.cells,Value.oneCell']⟩
 case mref=>obtain ⟨_,_,_,_,rfl⟩:=hp;exact ⟨⟨_,[],rfl,hp',rfl⟩,by simp [Value.cells,Value.oneCell']⟩
 case ms=>obtain ⟨_,_,_,_,_,rfl,_⟩:=hp;exact ⟨⟨_,[],rfl,hp',rfl⟩,by simp [Value.cells,Value.oneCell']⟩
 case fn=>obtain ⟨_,rfl,_⟩:=hp;exact ⟨⟨_,[],rfl,hp',rfl⟩,by simp [Value.cells,Value.oneCell']⟩
 case ifc=>obtain ⟨_,rfl,_⟩:=hp;exact ⟨⟨_,[],rfl,hp',rfl⟩,by simp [Value.cells,Value.oneCell']⟩
 case nili=>subst hp;exact ⟨⟨_,[],rfl,hp',rfl⟩,by simp [Value.cells,Value.oneCell']⟩
 case yv=>subst hp;exact ⟨⟨_,[],rfl,hp',rfl⟩,by simp [Value.cells,Value.oneCell']⟩

theorem fold_set (vs:List Value) (off:Nat): ∀(k:Nat) (cs:Array Value),off+k+vs.length≤cs.size→
  ((vs.zipIdx k).foldl (fun cs (x:Value×Nat)=>cs.setIfInBounds (off+x.2) x.1) cs).toList=cs.toList.take (off+k)++vs++cs.toList.drop (off+k+vs.length):=by
 induction vs with
 |nil=>intro k cs h;simp
 |cons v r ih=>
  intro k cs h
  have h2:=ih (k+1) (cs.setIfInBounds (off+k) v) (by simp at h ⊢;omega)
  simp only [List.zipIdx_cons,List.foldl_cons]
  rw [h2]
  simp only [Array.toList_setIfInBounds,List.length_cons]
  have hk:off+k<cs.toList.length:=by simp at h ⊢;omega
  have e4:(cs.toList.set (off+k) v).take (off+(k+1))=cs.toList.take (off+k)++[v]:=by
   rw [show off+(k+1)=off+k+1 by omega,List.take_succ_eq_append_getElem (by simpa using hk)]
   simp [List.take_set]
   exact List.set_eq_of_length_le (by simp;omega)
  have e5:(cs.toList.set (off+k) v).drop (off+(k+1)+r.length)=cs.toList.drop (off+k+(r.length+1)):=by
   rw [List.drop_set_of_lt (by omega)]
   congr 1
   omega
  rw [e4,e5]
  simp

theorem PRlist.fill {S:Mem} {gb:Gb} {z cs:List AV} {zs us:List Value} {off:Nat} (hz:PRlist S gb z zs) (hc:PRlist S gb cs us):PRlist S gb (fillA z off cs) (zs.take off++us++zs.drop (off+us.length)):=by
 unfold fillA
 rw [hc.length]
 exact ((hz.take off).append hc).append (hz.drop _)

theorem buildA_sound (h:Rel F S gb σ a w) (fs:List (Nat×Nat)): ∀ {ps:List (Nat×Nat×X)} {qs:List (Nat×Operand)},mBuild F.GL fs ps qs=true→ ∀ {z r:List AV} {zs:Array Value},buildA σ ps z=some r→
  PRlist S gb z zs.toList→(∀u∈zs.toList,u.oneCell'=true)→
  ∃us,Instr.fill (fs[·]?) zs (qs.map fun x=>(x.1,a.eval x.2))=some us∧PRlist S gb r us.toList∧(∀u∈us.toList,u.oneCell'=true)
 |[],qs,hm,z,r,zs,hb,hz,h1=>by
  cases qs<;>simp [mBuild] at hm
  simp [buildA] at hb;subst hb
  exact ⟨zs,by simp [Instr.fill],hz,h1⟩
 |(off,n,x)::ps,qs,hm,z,r,zs,hb,hz,h1=>by
  cases qs with
  |nil=>simp [mBuild] at hm
  |cons q qs=>
   obtain ⟨i,y⟩:=q
   simp only [mBuild,Bool.and_eq_true,beq_iff_eq] at hm
   obtain ⟨⟨hi,hx⟩,hm⟩:=hm
   simp only [buildA] at hb
   split at hb
   ·rename_i cs hcs
    split at hb
    ·rename_i hl
     have hp:=mX_sound h hx
     obtain ⟨h2,h3⟩:=cs_PR hcs hp
     have hlen:(a.eval y).cells.size=n:=by rw [←Array.length_toList,←h2.length];exact hl.1
     have hzl:z.length=zs.size:=by rw [hz.length];simp
     have hfold:=fold_set (a.eval y).cells.toList off 0 zs (by simp;omega)
     simp only [Nat.add_zero] at hfold
     have hnew:PRlist S gb (fillA z off cs) ((a.eval y).cells.toList.zipIdx.foldl (fun cs (x:Value×Nat)=>cs.setIfInBounds (off+x.2) x.1) zs).toList:=by
      rw [hfold];exact hz.fill h2
     have hone: ∀u∈((a.eval y).cells.toList.zipIdx.foldl (fun cs (x:Value×Nat)=>cs.setIfInBounds (off+x.2) x.1) zs).toList,u.oneCell'=true:=by
      rw [hfold]
      intro u hu
      simp only [List.mem_append] at hu
      rcases hu with (hu|hu)|hu
      ·exact h1 u (List.mem_of_mem_take hu)
      ·exact h3 u hu
      ·exact h1 u (List.mem_of_mem_drop hu)
     obtain ⟨us,g1,g2,g3⟩:=buildA_sound h fs hm hb hnew hone
     refine ⟨us,?_,g2,g3⟩
     simp only [List.map_cons,Instr.fill,hi]
     rw [if_neg (by simp [hlen];omega),←Array.foldl_toList,Array.toList_zipIdx]
     exact g1
    ·cases hb
   ·cases hb
end Go.Ai
namespace Go.Ai
open Go.RowKit
variable {P:Program} {F:Fr} {S:Mem} {gb:Gb} {σ:St} {a:Act} {w:World}

theorem fieldsAt_struct {t f:Nat} {p:Nat×Nat} (h:(fieldsAt P t)[f]?=some p): ∃fs fd,P.underlying t=some (.struct fs)∧fs[f]?=some fd∧p=(fd.offset,(sz? P fd.type).getD 0):=by
 unfold fieldsAt at h
 split at h
 ·rename_i fs hu
  rw [List.getElem?_map] at h
  simp only [Option.map_eq_some_iff,Array.getElem?_toList] at h
  obtain ⟨fd,h1,h2⟩:=h
  exact ⟨fs,fd,hu,h1,h2.symm⟩
 ·simp at h

theorem b2s_shape {x:AV} {v:Value} {bx:List (Id×List AV)} {s:List UInt8} (hx:PR S gb x v) (hb:bytesA bx x=some s):v= .slice none 0 0∨ ∃ad n c,v= .slice (some ad) n c:=by
 unfold bytesA at hb
 split at hb
 ·simp only [PR] at hx;exact .inl hx
 ·simp only [PR] at hx
  rcases hx with ⟨hx,_⟩|⟨ad,c,k,hx,_⟩
  ·exact .inl hx
  ·exact .inr ⟨_,_,_,hx⟩
 ·simp only [PR] at hx
  obtain ⟨g,z,cap,_,_,hx,_⟩:=hx
  exact .inr ⟨_,_,_,hx⟩
 ·cases hb
theorem byteCells_ints: ∀ {cs:List AV} {s:List UInt8} {us:List Value},byteCells cs=some s→PRlist S gb cs us→ ∃ns:List Int,us=ns.map (Value.int .u8)∧s=ns.map fun n=>UInt8.ofNat n.toNat
 |[],s,us,h,hp=>by
  simp [byteCells] at h;subst h
  simp [PRlist] at hp;subst hp
  exact ⟨[],rfl,rfl⟩
 |c::r,s,us,h,hp=>by
  unfold byteCells at h
  split at h
  ·rename_i h0;cases h0
  ·rename_i n r' heq
   cases heq
   split at h
   ·rename_i s' hs'
    simp only [Option.some.injEq] at h;subst h
    simp only [PRlist,PR] at hp
    obtain ⟨u,us',rfl,rfl,hp'⟩:=hp
    obtain ⟨ns,rfl,rfl⟩:=byteCells_ints hs' hp'
    exact ⟨n::ns,rfl,rfl⟩
   ·cases h
  ·cases h
theorem fill_mono {p q:Nat→Option (Nat×Nat)} (hpq: ∀i x,p i=some x→q i=some x): ∀ {l:List (Nat×Value)} {z r:Array Value},Instr.fill p z l=some r→Instr.fill q z l=some r
 |[],z,r,h=>by simpa [Instr.fill] using h
 |(i,v)::l,z,r,h=>by
  simp only [Instr.fill] at h ⊢
  cases hp:p i with
  |none=>rw [hp] at h;cases h
  |some x=>
   rw [hp] at h
   rw [hpq i x hp]
   simp only at h ⊢
   split at h
   ·cases h
   ·rename_i hc
    rw [if_neg hc]
    exact fill_mono hpq h
theorem rowBytes_cells: ∀ {rows:List (List AV)} {s:List UInt8},rowBytes rows=some s→byteCells rows.flatten=some s∧ ∀r∈rows,r.length=1
 |[],s,h=>by simp [rowBytes] at h;subst h;simp [byteCells]
 |r::rs,s,h=>by
  unfold rowBytes at h
  split at h
  ·rename_i h0;cases h0
  ·rename_i n r' heq
   cases heq
   split at h
   ·rename_i s' hs'
    simp only [Option.some.injEq] at h;subst h
    obtain ⟨g1,g2⟩:=rowBytes_cells hs'
    refine ⟨by simp [byteCells,g1],?_⟩
    intro x hx
    cases hx with
    |head=>rfl
    |tail _ hx=>exact g2 x hx
   ·cases h
  ·cases h
theorem foldl_push (ns:List Int): ∀(r:ByteArray),ns.foldl (fun r n=>r.push (UInt8.ofNat n.toNat)) r=⟨r.data++(ns.map fun n=>UInt8.ofNat n.toNat).toArray⟩:=by
 induction ns with
 |nil=>intro r;simp
 |cons n ns ih=>
  intro r
  simp only [List.foldl_cons,ih]
  apply ByteArray.ext
  simp [ByteArray.push]
theorem bytesA_nil {bx:List (Id×List AV)} {x:AV} {s:List UInt8} (h:bytesA [] x=some s):bytesA bx x=some s:=by
 cases x<;>simp_all [bytesA,lkB]
theorem b2s_sound (h:Rel F S gb σ a w) {x:AV} {v:Value} {s:List UInt8} (hx:PR S gb x v) (hb:bytesA σ.bx x=some s):(Conv.bytesToString v).run P w= .ok (.string ⟨s.toArray⟩) w:=by
 have nil:(Conv.bytesToString (.slice none 0 0)).run P w= .ok (.string .empty) w:=by simp [Conv.bytesToString]
 have go: ∀(g o n cap:Nat) (cs:List AV) (us:List Value),PRlist S gb cs us→us.length=n→byteCells cs=some s→(∀j u,us[j]?=some u→w.cell? ⟨g,o+j,none⟩=some u)→(Conv.bytesToString (.slice (some ⟨g,o,none⟩) n cap)).run P w= .ok (.string ⟨s.toArray⟩) w:=by
  intro g o n cap cs us hp hn hc hcell
  obtain ⟨ns,rfl,rfl⟩:=byteCells_ints hc hp
  have hl:=loadCells_at (P:=P) (w:=w) (b:=g) (o:=o) (us:=ns.map (Value.int .u8)) hcell
  rw [hn] at hl
  rw [run_bytesToString w ⟨g,o,none⟩ n cap ns hl,foldl_push,show ByteArray.empty.data= #[] from rfl,Array.empty_append]
 unfold bytesA at hb
 split at hb
 ·simp only [PR] at hx;subst hx
  simp only [Option.some.injEq] at hb;subst hb
  exact nil
 ·rename_i rows
  simp only [PR] at hx
  rcases hx with ⟨rfl,rfl⟩|⟨ad,cap,k,rfl,_,hr⟩
  ·simp [rowBytes] at hb;subst hb;exact nil
  ·by_cases h0:rows=[]
   ·subst h0
    simp [rowBytes] at hb;subst hb
    obtain ⟨b,o,sp⟩:=ad
    have:(Conv.bytesToString (.slice (some ⟨b,o,sp⟩) 0 cap)).run P w= .ok (.string ⟨([]:List UInt8).toArray⟩) w:=by
     have:=run_bytesToString (P:=P) w ⟨b,o,sp⟩ 0 cap [] (by simp [loadCells,loadCellsFrom])
     rw [this];rfl
    exact this
   ·rcases hr with hr|⟨hsp,hr⟩
    ·exact absurd hr h0
    ·obtain ⟨hk,hc⟩:=PRrows.flat.1 hr
     obtain ⟨us,l1,l2,l3,l4⟩:=hc.list
     obtain ⟨b,o,sp⟩:=ad
     simp only at hsp l2
     subst hsp
     obtain ⟨r1,r2⟩:=rowBytes_cells hb
     have hone:us.length=rows.length:=by rw [l1,flatten_length r2];simp
     exact go b o rows.length cap rows.flatten us (gb0toL l4) hone r1 (fun j u hu=>h.hr.agree _ _ _ (l2 j u hu))
 ·rename_i d off n sz
  split at hb
  ·rename_i cs hcs
   split at hb
   ·rename_i hsz
    obtain ⟨rfl,hle⟩:=hsz
    simp only [PR] at hx
    obtain ⟨g,z,cap,hg,hit,rfl,_⟩:=hx
    obtain ⟨us,b1,b2,b3⟩:=h.boxcell hcs hit hg
    have hlen:=b2.length
    exact go g off n cap _ ((us.drop off).take n) ((b2.drop off).take n) (by simp;omega) hb (fun j u hu=>by
     rw [List.getElem?_take] at hu
     split at hu
     ·rw [List.getElem?_drop] at hu;exact b1 _ _ hu
     ·cases hu)
   ·cases hb
  ·cases hb
 ·cases hb
theorem ev_sound (h:Rel F S gb σ a w) {o:Oper} {ao:AOp} (hm:mt1 P F.GL F.N o ao=true) {d:Nat} {v:AV} (he:ev σ ao=some (d,v)):
  o.dst=some d∧d<F.N∧ ∃u,(execOp a.eval o).run P w= .ok (.value u) w∧PR S gb v u:=by
 cases ao<;>simp only [ev,reduceCtorEq] at he
 case mv d' x=>
  simp only [Option.some.injEq,Prod.mk.injEq] at he
  obtain ⟨rfl,rfl⟩:=he
  simp only [mt1,Bool.and_eq_true,slotOk_iff] at hm
  obtain ⟨⟨h1,h2⟩,hm⟩:=hm
  refine ⟨h1,h2,?_⟩
  split at hm<;>(try cases hm)
  all_goals
   rename_i y hop
   exact ⟨a.eval y,by unfold execOp;simp only [hop];rfl,mX_sound h hm⟩
 case pk d' c x y=>
  simp only [mt1,Bool.and_eq_true,slotOk_iff] at hm
  obtain ⟨⟨h1,h2⟩,hm⟩:=hm
  split at hm<;>(try cases hm)
  rename_i c' x' y' hop
  simp only [Bool.and_eq_true] at hm
  have hc:=mX_sound h hm.1.1
  have hx:=mX_sound h hm.1.2
  have hy:=mX_sound h hm.2
  split at he
  ·rename_i t ht
   rw [ht] at hc
   simp only [PR] at hc
   simp only [Option.some.injEq,Prod.mk.injEq] at he
   obtain ⟨rfl,rfl⟩:=he
   refine ⟨h1,h2,if t=true then a.eval x' else a.eval y',by unfold execOp;simp only [hop];simp [hc,asBool],?_⟩
   cases t
   ·exact hy
   ·exact hx
  ·cases he
 case bi d' op x y=>
  simp only [mt1,Bool.and_eq_true,slotOk_iff] at hm
  obtain ⟨⟨h1,h2⟩,hm⟩:=hm
  split at hm<;>(try cases hm)
  rename_i op' t x' y' ty hop
  simp only [Bool.and_eq_true,beq_iff_eq] at hm
  have hx:=mX_sound h hm.1.2
  have hy:=mX_sound h hm.2
  obtain rfl:=hm.1.1
  split at he
  ·rename_i r hr
   simp only [Option.some.injEq,Prod.mk.injEq] at he
   obtain ⟨rfl,rfl⟩:=he
   obtain ⟨z,hz,hp⟩:=bin_sound (P:=P) (w:=w) (t:=t) (p:=x') (q:=y') hr hx hy
   refine ⟨h1,h2,z,?_,hp⟩
   unfold execOp
   simp only [hop,Sem.run_bind] at hz ⊢
   rw [hz];rfl
  ·cases he
 case bb d' neg x y=>
  simp only [mt1,Bool.and_eq_true,slotOk_iff] at hm
  obtain ⟨⟨h1,h2⟩,hm⟩:=hm
  split at hm<;>(try cases hm)
  rename_i op' t x' y' ty hop
  simp only [Bool.and_eq_true,beq_iff_eq] at hm
  have hx:=mX_sound h hm.1.2
  have hy:=mX_sound h hm.2
  obtain ⟨⟨⟨hop',hu⟩,_⟩,_⟩:=hm
  have hu':P.underlying t=some .bool:=by split at hu<;>simp_all
  split at he
  ·rename_i b c hb hc
   simp only [Option.some.injEq,Prod.mk.injEq] at he
   obtain ⟨rfl,rfl⟩:=he
   rw [hb] at hx;rw [hc] at hy
   simp only [PR] at hx hy
   refine ⟨h1,h2,.bool (if neg=true then b !=c else b==c),?_,by simp [PR]⟩
   unfold execOp
   simp only [hop,hx,hy,eqGuard_at_bool]
   cases neg
   ·simp [hop',binOp,Op.equal,Op.maxDepth,run_equalIn_bool' (h:=hu')]
   ·simp [hop',binOp,Op.equal,Op.maxDepth,run_equalIn_bool' (h:=hu'),bne]
  ·cases he
 case ea d' neg ks x y=>
  simp only [mt1,Bool.and_eq_true,slotOk_iff] at hm
  obtain ⟨⟨h1,h2⟩,hm⟩:=hm
  split at hm<;>(try cases hm)
  rename_i op' t x' y' ty hop
  simp only [Bool.and_eq_true,beq_iff_eq,Bool.not_eq_true'] at hm
  have hx:=mX_sound h hm.1.2
  have hy:=mX_sound h hm.2
  obtain ⟨⟨⟨⟨⟨hop',hk⟩,ha⟩,hg⟩,_⟩,_⟩:=hm
  split at he
  ·rename_i xs ys hb hc
   split at he
   ·rename_i b hcs
    simp only [Option.some.injEq,Prod.mk.injEq] at he
    obtain ⟨rfl,rfl⟩:=he
    rw [hb] at hx;rw [hc] at hy
    simp only [PR] at hx hy
    obtain ⟨us,hx1,_,hx2⟩:=hx
    obtain ⟨vs,hy1,_,hy2⟩:=hy
    obtain ⟨g1,_⟩:=eqK_sound (P:=P) 4 t ks 9996 hk w hcs hx2 hy2
    simp only [ofCells,ha,if_true,Array.toArray_toList] at g1
    refine ⟨h1,h2,.bool (if neg=true then !b else b),?_,by simp [PR]⟩
    unfold execOp
    simp only [hop,hx1,hy1,Sem.run_bind,run_eqGuard_agg (hm:=hg),Result.andThen_ok]
    cases neg
    ·simp only [hop',Bool.false_eq_true,if_false,run_eql_struct,g1,Result.andThen_ok,Sem.run_pure]
    ·simp only [hop',if_true,run_neq_struct,g1,Result.andThen_ok,Sem.run_pure]
   ·cases he
  ·cases he
 case pn d' neg x=>
  simp only [mt1,Bool.and_eq_true,slotOk_iff] at hm
  obtain ⟨⟨h1,h2⟩,hm⟩:=hm
  split at hm<;>(try cases hm)
  rename_i op' t x' ty hop
  simp only [Bool.and_eq_true,beq_iff_eq] at hm
  have hx:=mX_sound h hm.2
  obtain ⟨e,hu⟩: ∃e,P.underlying t=some (.pointer e):=by
   have:=hm.1.2
   split at this<;>simp_all
  have hu':P.underlying t=some (.pointer (P.pointee t)):=by rw [hu];simp [Program.pointee,hu]
  have hop':=hm.1.1
  have run: ∀p:Option Addr,a.eval x'= .pointer p→(execOp a.eval o).run P w= .ok (.value (.bool (if neg=true then !p.isNone else p.isNone))) w:=by
   intro p hp
   have ec:a.eval (.const (.pointer none))= .pointer none:=rfl
   unfold execOp
   cases neg
   ·simp only [Bool.false_eq_true,if_false] at hop' ⊢
    subst hop'
    simp [hop,hp,ec,eqGuard_at_pointer,run_eql_pointer_nil w t p hu']
   ·simp only [if_true] at hop' ⊢
    subst hop'
    simp [hop,hp,ec,eqGuard_at_pointer,run_neq_pointer_nil w t p hu']
  split at he
  ·rename_i b bo hb
   simp only [Option.some.injEq,Prod.mk.injEq] at he
   obtain ⟨rfl,rfl⟩:=he
   rw [hb] at hx
   simp only [PR] at hx
   obtain ⟨g,z,_,_,hx⟩:=hx
   exact ⟨h1,h2,_,run _ hx,by cases neg<;>simp [PR]⟩
  ·rename_i cs hb
   simp only [Option.some.injEq,Prod.mk.injEq] at he
   obtain ⟨rfl,rfl⟩:=he
   rw [hb] at hx
   simp only [PR] at hx
   obtain ⟨g,z,hx,_⟩:=hx
   exact ⟨h1,h2,_,run _ hx,by cases neg<;>simp [PR]⟩
  ·rename_i hb
   simp only [Option.some.injEq,Prod.mk.injEq] at he
   obtain ⟨rfl,rfl⟩:=he
   rw [hb] at hx
   simp only [PR] at hx
   exact ⟨h1,h2,_,run _ hx,by cases neg<;>simp [PR]⟩
  ·cases he
 case un d' op x=>
  simp only [mt1,Bool.and_eq_true,slotOk_iff] at hm
  obtain ⟨⟨h1,h2⟩,hm⟩:=hm
  split at hm<;>(try cases hm)
  rename_i op' t x' hop
  simp only [Bool.and_eq_true,beq_iff_eq] at hm
  have hx:=mX_sound h hm.2
  obtain rfl:=hm.1
  split at he
  ·rename_i b hb
   simp only [Option.some.injEq,Prod.mk.injEq] at he
   obtain ⟨rfl,rfl⟩:=he
   rw [hb] at hx
   simp only [PR] at hx
   exact ⟨h1,h2,.bool (!b),by unfold execOp;simp [hop,hx,Op.unary],by simp [PR]⟩
  ·rename_i k n hb
   simp only [Option.some.injEq,Prod.mk.injEq] at he
   obtain ⟨rfl,rfl⟩:=he
   rw [hb] at hx
   simp only [PR] at hx
   exact ⟨h1,h2,.int k (k.wrap (0 - n)),by unfold execOp;simp [hop,hx,Op.unary,Op.intArith],by simp [PR]⟩
  ·cases he
 case cv d' k x=>
  simp only [mt1,Bool.and_eq_true,slotOk_iff] at hm
  obtain ⟨⟨h1,h2⟩,hm⟩:=hm
  split at hm<;>(try cases hm)
  rename_i s t x' hop
  simp only [Bool.and_eq_true] at hm
  have hx:=mX_sound h hm.2
  obtain ⟨⟨hs,ht⟩,_⟩:=hm
  have ht':P.underlying t=some (.int k):=by split at ht<;>simp_all
  split at he
  ·rename_i k0 n hb
   simp only [Option.some.injEq,Prod.mk.injEq] at he
   obtain ⟨rfl,rfl⟩:=he
   rw [hb] at hx
   simp only [PR] at hx
   obtain ⟨ds,hds⟩:=Option.isSome_iff_exists.1 hs
   exact ⟨h1,h2,.int k (k.wrap n),by unfold execOp;simp [hop,hx,convert,run_underlying hds,run_underlying ht',Conv.intToInt],by simp [PR]⟩
  ·cases he
 case ln d' x=>
  simp only [mt1,Bool.and_eq_true,slotOk_iff] at hm
  obtain ⟨⟨h1,h2⟩,hm⟩:=hm
  split at hm<;>(try cases hm)
  rename_i as ts hop
  split at hm<;>(try cases hm)
  rename_i x' t has hts
  simp only [Bool.and_eq_true] at hm
  have hx:=mX_sound h hm.2
  obtain ⟨e,ht'⟩: ∃e,P.underlying t=some (.slice e):=by
   have:=hm.1
   split at this<;>simp_all
  have has':as= #[x']:=by cases as;simp_all
  have hts':ts= #[t]:=by cases ts;simp_all
  subst has';subst hts'
  split at he<;>simp only [Option.some.injEq,Prod.mk.injEq,reduceCtorEq] at he<;>obtain ⟨rfl,rfl⟩:=he
  ·rename_i rows hb
   rw [hb] at hx
   simp only [PR] at hx
   refine ⟨h1,h2,.int .i64 rows.length,?_,by simp [PR]⟩
   unfold execOp
   rcases hx with ⟨hx,hr⟩|⟨_,cap,k,hx,_⟩
   ·simp [hop,resolve,invoke,builtin,hx,Builtin.len_,run_underlying ht',goInt,hr]
   ·simp [hop,resolve,invoke,builtin,hx,Builtin.len_,run_underlying ht',goInt]
  ·rename_i hb
   rw [hb] at hx
   simp only [PR] at hx
   exact ⟨h1,h2,.int .i64 0,by unfold execOp;simp [hop,resolve,invoke,builtin,hx,Builtin.len_,run_underlying ht',goInt],by simp [PR]⟩
  ·rename_i _ n _ hb
   rw [hb] at hx
   simp only [PR] at hx
   obtain ⟨g,_,_,_,_,hx,_⟩:=hx
   exact ⟨h1,h2,.int .i64 n,by unfold execOp;simp [hop,resolve,invoke,builtin,hx,Builtin.len_,run_underlying ht',goInt],by simp [PR]⟩
 case lns d' x=>
  simp only [mt1,Bool.and_eq_true,slotOk_iff] at hm
  obtain ⟨⟨h1,h2⟩,hm⟩:=hm
  split at hm<;>(try cases hm)
  rename_i as ts hop
  split at hm<;>(try cases hm)
  rename_i x' t has hts
  simp only [Bool.and_eq_true] at hm
  have hx:=mX_sound h hm.2
  have ht':P.underlying t=some .string:=by
   have:=hm.1
   split at this<;>simp_all
  have has':as= #[x']:=by cases as;simp_all
  have hts':ts= #[t]:=by cases ts;simp_all
  subst has';subst hts'
  split at he
  ·rename_i s hb
   simp only [Option.some.injEq,Prod.mk.injEq] at he
   obtain ⟨rfl,rfl⟩:=he
   rw [hb] at hx
   simp only [PR] at hx
   have e2:(ByteArray.mk s.toArray).size=s.length:=rfl
   exact ⟨h1,h2,.int .i64 s.length,by unfold execOp;simp [hop,resolve,invoke,builtin,hx,Builtin.len_,run_underlying ht',goInt,e2],by simp [PR]⟩
  ·cases he
 case fa d' x off=>
  simp only [mt1,Bool.and_eq_true,slotOk_iff] at hm
  obtain ⟨⟨h1,h2⟩,hm⟩:=hm
  split at hm<;>(try cases hm)
  rename_i t x' f hop
  simp only [Bool.and_eq_true] at hm
  have hx:=mX_sound h hm.2
  obtain ⟨hf,_⟩:=hm
  split at hf<;>(try cases hf)
  rename_i o' n hfa
  simp only [Bool.and_eq_true,beq_iff_eq,Bool.not_eq_true',beq_eq_false_iff_ne,ne_eq] at hf
  obtain ⟨fs,fd,hu,hfd,hp⟩:=fieldsAt_struct hfa
  simp only [Prod.mk.injEq] at hp
  obtain ⟨rfl,hn⟩:=hp
  obtain ⟨rfl,hn0⟩:=hf
  have hsz:sz? P fd.type=some n:=by
   cases hq:sz? P fd.type with
   |none=>simp [hq] at hn;exact absurd hn hn0
   |some m=>simp [hq] at hn;simp [hn]
  split at he<;>simp only [Option.some.injEq,Prod.mk.injEq,reduceCtorEq] at he<;>obtain ⟨rfl,rfl⟩:=he
  ·rename_i b o hb
   rw [hb] at hx
   simp only [PR] at hx
   obtain ⟨g,z,hg,hit,hx⟩:=hx
   refine ⟨h1,h2,.pointer (some ⟨g,o+fd.offset,none⟩),?_,by simp only [PR];exact ⟨g,z,hg,hit,rfl⟩⟩
   unfold execOp
   simp [hop,hx,Instr.fieldAt,run_underlying hu,hfd,Instr.sureAddr,fieldPlace,run_sizeOf hsz,hn0,Addr.add_lit]
  ·rename_i cs hb
   rw [hb] at hx
   simp only [PR] at hx
   obtain ⟨g,o,hx,hc⟩:=hx
   refine ⟨h1,h2,.pointer (some ⟨g,o+fd.offset,none⟩),?_,by simp only [PR];exact ⟨g,_,rfl,hc.drop _⟩⟩
   unfold execOp
   simp [hop,hx,Instr.fieldAt,run_underlying hu,hfd,Instr.sureAddr,fieldPlace,run_sizeOf hsz,hn0,Addr.add_lit]
 case ia d' sz x i=>
  simp only [mt1,Bool.and_eq_true,slotOk_iff] at hm
  obtain ⟨⟨h1,h2⟩,hm⟩:=hm
  split at hm<;>(try cases hm)
  rename_i t x' i' hop
  simp only [Bool.and_eq_true] at hm
  have hx:=mX_sound h hm.1.2
  have hi:=mX_sound h hm.2
  obtain ⟨e,hu,hsz⟩: ∃e,P.underlying t=some (.slice e)∧sz? P e=some sz:=by
   have:=hm.1.1
   split at this<;>simp_all
  split at he
  ·rename_i rows k n hb hc
   rw [hb] at hx;rw [hc] at hi
   simp only [PR] at hx hi
   split at he
   ·rename_i hn
    split at he
    ·rename_i row hrow
     split at he
     ·rename_i hl
      simp only [Option.some.injEq,Prod.mk.injEq] at he
      obtain ⟨rfl,rfl⟩:=he
      obtain ⟨hlt,_⟩:=List.getElem?_eq_some_iff.1 hrow
      rcases hx with ⟨hx,hr⟩|⟨ad,cap,k',hx,_,hr⟩
      ·subst hr;simp at hrow
      ·rcases hr with hr|⟨hsp,hr⟩
       ·subst hr;simp at hrow
       ·obtain ⟨g1,g2⟩:=hr.get hrow
        have hk:k'=sz:=by rw [←g1,hl]
        subst hk
        obtain ⟨bk,of,sp⟩:=ad
        simp only at hsp g2
        subst hsp
        refine ⟨h1,h2,.pointer (some ⟨bk,of+n.toNat*k',none⟩),?_,by simp only [PR];exact ⟨_,_,rfl,g2⟩⟩
        unfold execOp
        have hb2:0≤n∧n<(rows.length:Int):=by omega
        simp [hop,hx,hi,Instr.indexAt,asIntOf,run_underlying hu,run_sizeOf hsz,hb2,Addr.add_lit]
     ·cases he
    ·cases he
   ·cases he
  ·rename_i b bo n k kk i0 hb hc
   rw [hb] at hx;rw [hc] at hi
   simp only [PR] at hx hi
   split at he
   ·rename_i hn
    simp only [Option.some.injEq,Prod.mk.injEq] at he
    obtain ⟨rfl,rfl⟩:=he
    obtain ⟨g,z,cap,hg,hit,hx,_,_,_⟩:=hx
    refine ⟨h1,h2,.pointer (some ⟨g,bo+i0.toNat*sz,none⟩),?_,by simp only [PR];exact ⟨g,z,hg,hit,rfl⟩⟩
    unfold execOp
    have hb2:0≤i0∧i0<(n:Int):=⟨hn.1,hn.2.1⟩
    simp [hop,hx,hi,Instr.indexAt,asIntOf,run_underlying hu,run_sizeOf hsz,hb2,Addr.add_lit]
   ·cases he
  ·cases he
 case iaa d' sz n x i=>
  simp only [mt1,Bool.and_eq_true,slotOk_iff] at hm
  obtain ⟨⟨h1,h2⟩,hm⟩:=hm
  split at hm<;>(try cases hm)
  rename_i t x' i' hop
  simp only [Bool.and_eq_true] at hm
  have hx:=mX_sound h hm.1.2
  have hi:=mX_sound h hm.2
  obtain ⟨e,hu,hsz⟩: ∃e,P.underlying t=some (.array n e)∧sz? P e=some sz:=by
   have:=hm.1.1
   split at this<;>simp_all
  split at he
  ·rename_i b o kk i0 hb hc
   rw [hb] at hx;rw [hc] at hi
   simp only [PR] at hx hi
   split at he
   ·rename_i hn
    simp only [Option.some.injEq,Prod.mk.injEq] at he
    obtain ⟨rfl,rfl⟩:=he
    obtain ⟨g,z,hg,hit,hx⟩:=hx
    refine ⟨h1,h2,.pointer (some ⟨g,o+i0.toNat*sz,none⟩),?_,by simp only [PR];exact ⟨g,z,hg,hit,rfl⟩⟩
    unfold execOp
    simp [hop,hx,hi,Instr.indexAt,asIntOf,run_underlying hu,run_sizeOf hsz,hn,Instr.sureAddr,Addr.add_lit]
   ·cases he
  ·rename_i cs kk i0 hb hc
   rw [hb] at hx;rw [hc] at hi
   simp only [PR] at hx hi
   split at he
   ·rename_i hn
    simp only [Option.some.injEq,Prod.mk.injEq] at he
    obtain ⟨rfl,rfl⟩:=he
    obtain ⟨g,o,hx,hcs⟩:=hx
    refine ⟨h1,h2,.pointer (some ⟨g,o+i0.toNat*sz,none⟩),?_,by simp only [PR];exact ⟨g,_,rfl,hcs.drop _⟩⟩
    unfold execOp
    simp [hop,hx,hi,Instr.indexAt,asIntOf,run_underlying hu,run_sizeOf hsz,hn,Instr.sureAddr,Addr.add_lit]
   ·cases he
  ·cases he
 case lds d' x=>
  simp only [mt1,Bool.and_eq_true,slotOk_iff] at hm
  obtain ⟨⟨h1,h2⟩,hm⟩:=hm
  split at hm<;>(try cases hm)
  rename_i t x' hop
  simp only [Bool.and_eq_true] at hm
  have hx:=mX_sound h hm.2
  split at he
  ·rename_i v' hl
   simp only [Option.some.injEq,Prod.mk.injEq] at he
   obtain ⟨rfl,rfl⟩:=he
   obtain ⟨u,hu,hp⟩:=loadS_sound h hm.1 hl hx
   exact ⟨h1,h2,u,by unfold execOp;simp [hop,hu],hp⟩
  ·cases he
 case ldf d' x=>
  simp only [mt1,Bool.and_eq_true,slotOk_iff] at hm
  obtain ⟨⟨h1,h2⟩,hm⟩:=hm
  split at hm<;>(try cases hm)
  rename_i t x' hop
  simp only [Bool.and_eq_true] at hm
  have hx:=mX_sound h hm.2
  split at he
  ·rename_i v' hl
   simp only [Option.some.injEq,Prod.mk.injEq] at he
   obtain ⟨rfl,rfl⟩:=he
   obtain ⟨u,hu,hp⟩:=loadS_sound h hm.1 hl hx
   exact ⟨h1,h2,u,by unfold execOp;simp [hop,hu],hp⟩
  ·cases he
 case lda d' n x=>
  simp only [mt1,Bool.and_eq_true,slotOk_iff] at hm
  obtain ⟨⟨h1,h2⟩,hm⟩:=hm
  split at hm<;>(try cases hm)
  rename_i t x' hop
  simp only [Bool.and_eq_true,beq_iff_eq] at hm
  have hx:=mX_sound h hm.2
  split at he
  ·rename_i v' hl
   simp only [Option.some.injEq,Prod.mk.injEq] at he
   obtain ⟨rfl,rfl⟩:=he
   obtain ⟨u,hu,hp⟩:=loadN_sound h hm.1.1 hm.1.2 hl hx
   exact ⟨h1,h2,u,by unfold execOp;simp [hop,hu],hp⟩
  ·cases he
 case bd d' z ps=>
  simp only [mt1,Bool.and_eq_true,slotOk_iff] at hm
  obtain ⟨⟨h1,h2⟩,hm⟩:=hm
  split at hm<;>(try cases hm)
  rename_i t ps' hop
  simp only [Bool.and_eq_true] at hm
  obtain ⟨hz,hb⟩:=hm
  split at hz<;>(try cases hz)
  rename_i inf hinf
  split at hz<;>(try cases hz)
  rename_i z' hz'
  simp only [Bool.and_eq_true] at hz
  split at he
  ·rename_i cs hcs
   simp only [Option.some.injEq,Prod.mk.injEq] at he
   obtain ⟨rfl,rfl⟩:=he
   split at hb
   ·rename_i fs hu
    simp only [Bool.and_eq_true] at hb
    obtain ⟨hfs,hb⟩:=hb
    obtain ⟨us,g1,g2,g3⟩:=buildA_sound h (fieldsAt P t) hb hcs (zs:=z') (cstL_sound _ _ hz.2) (fun u hu=>List.all_eq_true.1 hz.1 u hu)
    refine ⟨h1,h2,.agg us,?_,by simp only [PR];exact ⟨us,rfl,g3,g2⟩⟩
    have hpl: ∀(l:List Field) (acc:Array (Nat×Nat)),(l.all fun f=>(sz? P f.type).isSome)=true→
      (l.foldlM (fun (bs:Array (Nat×Nat)) (f:Field)=>(Functor.map bs.push (do pure (f.offset,←sizeOf f.type):Sem (Nat×Nat)):Sem (Array (Nat×Nat)))) acc).run P w= .ok (acc++(l.map fun f=>(f.offset,(sz? P f.type).getD 0)).toArray) w:=by
     intro l
     induction l with
     |nil=>intro acc _;simp
     |cons f r ih=>
      intro acc hall
      simp only [List.all_cons,Bool.and_eq_true] at hall
      obtain ⟨n,hn⟩:=Option.isSome_iff_exists.1 hall.1
      simp only [List.foldlM_cons,Sem.run_bind,Sem.run_map,run_sizeOf hn,Result.andThen_ok,Sem.run_pure]
      rw [ih _ hall.2]
      simp [hn]
    have hmap:(fs.mapM fun (f:Field)=>(do pure (f.offset,←sizeOf f.type):Sem (Nat×Nat))).run P w= .ok (fieldsAt P t).toArray w:=by
     rw [Array.mapM_eq_foldlM,←Array.foldlM_toList]
     rw [hpl fs.toList #[] hfs]
     simp [fieldsAt,hu]
    have hfill:Instr.fill (fun x=>(fieldsAt P t).toArray[x]?) z' (Array.map (fun x=>(x.1,a.eval x.2)) ps').toList=some us:=by
     simpa using g1
    unfold execOp
    simp only [hop,Instr.build,Sem.run_bind,zeroValue,typeInfo,run_program,Result.andThen_ok,hinf,Sem.run_pure,hz',Value.cells,run_underlying hu]
    rw [hmap]
    simp only [Result.andThen_ok]
    simp only [hfill,Sem.run_pure,Result.andThen_ok]
   ·rename_i n e hu
    split at hb
    ·rename_i sz hsz
     obtain ⟨us,g1,g2,g3⟩:=buildA_sound h _ hb hcs (zs:=z') (cstL_sound _ _ hz.2) (fun u hu=>List.all_eq_true.1 hz.1 u hu)
     refine ⟨h1,h2,.agg us,?_,by simp only [PR];exact ⟨us,rfl,g3,g2⟩⟩
     have hfill:Instr.fill (fun i=>some (i*sz,sz)) z' (Array.map (fun x=>(x.1,a.eval x.2)) ps').toList=some us:=by
      refine fill_mono (fun i p hp=>?_) (by simpa using g1)
      simp only [List.getElem?_map,Option.map_eq_some_iff] at hp
      obtain ⟨k,hk,rfl⟩:=hp
      obtain ⟨hk1,hk2⟩:=List.getElem?_eq_some_iff.1 hk
      simp only [List.getElem_range] at hk2
      rw [hk2]
     unfold execOp
     simp only [hop,Instr.build,Sem.run_bind,zeroValue,typeInfo,run_program,Result.andThen_ok,hinf,Sem.run_pure,hz',Value.cells,run_underlying hu,run_sizeOf hsz]
     simp only [hfill,Sem.run_pure,Result.andThen_ok]
    ·cases hb
   ·cases hb
  ·cases he
 case fls d' off x=>
  simp only [mt1,Bool.and_eq_true,slotOk_iff] at hm
  obtain ⟨⟨h1,h2⟩,hm⟩:=hm
  split at hm<;>(try cases hm)
  rename_i t x' f hop
  simp only [Bool.and_eq_true] at hm
  have hx:=mX_sound h hm.2
  obtain ⟨hf,_⟩:=hm
  split at hf<;>(try cases hf)
  rename_i fs hu
  split at hf<;>(try cases hf)
  rename_i fd hfd
  simp only [Bool.and_eq_true,beq_iff_eq] at hf
  obtain ⟨hsc,rfl⟩:=hf
  split at he
  ·rename_i cs hb
   rw [hb] at hx
   simp only [PR] at hx
   obtain ⟨us,hx,h0,hl⟩:=hx
   split at he
   ·rename_i v' hv
    simp only [Option.some.injEq,Prod.mk.injEq] at he
    obtain ⟨rfl,rfl⟩:=he
    obtain ⟨u,hu1,hp⟩:=hl.get hv
    exact ⟨h1,h2,u,by unfold execOp;simp [hop,hx,Instr.field,run_underlying hu,hfd,asAgg,run_part_s hsc (us:=us) (u:=u) (by simpa using hu1)],hp⟩
   ·cases he
  ·cases he
 case fla d' off n x=>
  simp only [mt1,Bool.and_eq_true,slotOk_iff] at hm
  obtain ⟨⟨h1,h2⟩,hm⟩:=hm
  split at hm<;>(try cases hm)
  rename_i t x' f hop
  simp only [Bool.and_eq_true] at hm
  have hx:=mX_sound h hm.2
  obtain ⟨hf,_⟩:=hm
  split at hf<;>(try cases hf)
  rename_i fs hu
  split at hf<;>(try cases hf)
  rename_i fd hfd
  simp only [Bool.and_eq_true,beq_iff_eq] at hf
  obtain ⟨⟨hag,hsz⟩,rfl⟩:=hf
  split at he
  ·rename_i cs hb
   rw [hb] at hx
   simp only [PR] at hx
   obtain ⟨us,hx,h0,hl⟩:=hx
   split at he
   ·rename_i hle
    simp only [Option.some.injEq,Prod.mk.injEq] at he
    obtain ⟨rfl,rfl⟩:=he
    refine ⟨h1,h2,.agg (us.extract fd.offset (fd.offset+n)),by unfold execOp;simp [hop,hx,Instr.field,run_underlying hu,hfd,asAgg,run_part_a hag hsz],?_⟩
    simp only [PR]
    have e:(us.extract fd.offset (fd.offset+n)).toList=(us.toList.drop fd.offset).take n:=by simp [List.extract_eq_take_drop]
    refine ⟨_,rfl,?_,?_⟩
    ·rw [e];exact fun u hu=>h0 u (List.mem_of_mem_drop (List.mem_of_mem_take hu))
    ·rw [e];exact (hl.drop _).take _
   ·cases he
  ·cases he
 case ixs d' x i=>
  simp only [mt1,Bool.and_eq_true,slotOk_iff] at hm
  obtain ⟨⟨h1,h2⟩,hm⟩:=hm
  split at hm<;>(try cases hm)
  rename_i t x' i' hop
  simp only [Bool.and_eq_true] at hm
  have hx:=mX_sound h hm.1.2
  have hi:=mX_sound h hm.2
  have hu:P.underlying t=some .string:=by
   have:=hm.1.1
   split at this<;>simp_all
  split at he
  ·rename_i s k n hb hc
   rw [hb] at hx;rw [hc] at hi
   simp only [PR] at hx hi
   split at he
   ·rename_i hn
    split at he
    ·rename_i b hsb
     simp only [Option.some.injEq,Prod.mk.injEq] at he
     obtain ⟨rfl,rfl⟩:=he
     have e1:(ByteArray.mk s.toArray)[n.toNat]?=some b:=by
      obtain ⟨hlt,hb2⟩:=List.getElem?_eq_some_iff.1 hsb
      have e2:n.toNat<(ByteArray.mk s.toArray).size:=hlt
      exact (getElem?_pos (ByteArray.mk s.toArray) n.toNat e2).trans (by rw [←hb2];rfl)
     exact ⟨h1,h2,.int .u8 b.toNat,by unfold execOp;simp [hop,hx,hi,Instr.index,asIntOf,run_underlying hu,hn,e1],by simp [PR]⟩
    ·cases he
   ·cases he
  ·cases he
 case exq d' x i=>
  simp only [mt1,Bool.and_eq_true,slotOk_iff] at hm
  obtain ⟨⟨h1,h2⟩,hm⟩:=hm
  split at hm<;>(try cases hm)
  rename_i x' i' hop
  simp only [Bool.and_eq_true,beq_iff_eq] at hm
  have hx:=mX_sound h hm.2
  obtain rfl:=hm.1
  split at he
  ·rename_i vs hb
   rw [hb] at hx
   simp only [PR] at hx
   obtain ⟨us,hx,hl⟩:=hx
   split at he
   ·rename_i v' hv
    simp only [Option.some.injEq,Prod.mk.injEq] at he
    obtain ⟨rfl,rfl⟩:=he
    obtain ⟨u,hu1,hp⟩:=hl.get hv
    simp only [Array.getElem?_toList] at hu1
    exact ⟨h1,h2,u,by unfold execOp;simp [hop,hx,Instr.extract,hu1],hp⟩
   ·cases he
  ·cases he
 case ixa d' sz n agg x i=>
  simp only [mt1,Bool.and_eq_true,slotOk_iff] at hm
  obtain ⟨⟨h1,h2⟩,hm⟩:=hm
  split at hm<;>(try cases hm)
  rename_i t x' i' hop
  simp only [Bool.and_eq_true] at hm
  have hx:=mX_sound h hm.1.2
  have hi:=mX_sound h hm.2
  obtain ⟨⟨hu,_⟩,_⟩:=hm
  split at hu<;>(try cases hu)
  rename_i m e hu0
  simp only [Bool.and_eq_true,beq_iff_eq] at hu
  obtain ⟨⟨rfl,hsz⟩,hag⟩:=hu
  split at he
  ·rename_i cs k j hb hc
   rw [hb] at hx;rw [hc] at hi
   simp only [PR] at hx hi
   obtain ⟨us,hx,h0,hl⟩:=hx
   split at he
   ·rename_i hn
    obtain ⟨n0,n1,n2⟩:=hn
    split at he
    ·rename_i hagg
     rw [if_pos hagg] at hag
     simp only [Option.some.injEq,Prod.mk.injEq] at he
     obtain ⟨rfl,rfl⟩:=he
     refine ⟨h1,h2,.agg (us.extract (j.toNat*sz) (j.toNat*sz+sz)),by unfold execOp;simp [hop,hx,hi,Instr.index,asIntOf,run_underlying hu0,n0,n1,run_sizeOf hsz,run_part_a hag hsz],?_⟩
     simp only [PR]
     have e:(us.extract (j.toNat*sz) (j.toNat*sz+sz)).toList=(us.toList.drop (j.toNat*sz)).take sz:=by simp [List.extract_eq_take_drop]
     refine ⟨_,rfl,?_,?_⟩
     ·rw [e];exact fun u hu=>h0 u (List.mem_of_mem_drop (List.mem_of_mem_take hu))
     ·rw [e];exact (hl.drop _).take _
    ·rename_i hagg
     rw [if_neg hagg] at hag
     split at he
     ·rename_i v' hv
      simp only [Option.some.injEq,Prod.mk.injEq] at he
      obtain ⟨rfl,rfl⟩:=he
      obtain ⟨u,hu1,hp⟩:=hl.get hv
      exact ⟨h1,h2,u,by unfold execOp;simp [hop,hx,hi,Instr.index,asIntOf,run_underlying hu0,n0,n1,run_sizeOf hsz,run_part_s hag (us:=us) (u:=u) (by simpa using hu1)],hp⟩
     ·cases he
   ·cases he
  ·cases he
 case mf d' f xs=>
  simp only [mt1,Bool.and_eq_true,slotOk_iff] at hm
  obtain ⟨⟨h1,h2⟩,hm⟩:=hm
  split at hm<;>(try cases hm)
  rename_i f' first cap hop
  simp only [Bool.and_eq_true,beq_iff_eq] at hm
  obtain ⟨⟨rfl,hf⟩,hxs⟩:=hm
  simp only [Option.some.injEq,Prod.mk.injEq] at he
  obtain ⟨rfl,rfl⟩:=he
  have hl:=mXs_sound h hxs
  have hf0:first= #[]:=Array.eq_empty_of_size_eq_zero hf
  refine ⟨h1,h2,.func (.func f) #[] (cap.map a.eval),by unfold execOp;simp [hop,Instr.makeFunc,hf0],?_⟩
  simp only [PR]
  exact ⟨_,rfl,by simpa using hl⟩
 case bq d' x=>
  simp only [mt1,Bool.and_eq_true,slotOk_iff] at hm
  obtain ⟨⟨h1,h2⟩,hm⟩:=hm
  split at hm<;>(try cases hm)
  rename_i s t x' hop
  simp only [Bool.and_eq_true] at hm
  obtain ⟨⟨hs,ht⟩,hx⟩:=hm
  have hx:=mX_sound h hx
  have ht':P.underlying t=some .string:=by split at ht<;>simp_all
  obtain ⟨e,hs',he',hsz⟩: ∃e,P.underlying s=some (.slice e)∧P.underlying e=some (.int .u8)∧sz? P e=some 1:=by
   split at hs<;>(try cases hs)
   rename_i e hse
   split at hs<;>(try cases hs)
   rename_i hue
   exact ⟨e,hse,hue,by simpa using hs⟩
  split at he
  ·rename_i str hb
   have hb:=bytesA_nil (bx:=σ.bx) hb
   simp only [Option.some.injEq,Prod.mk.injEq] at he
   obtain ⟨rfl,rfl⟩:=he
   refine ⟨h1,h2,.string ⟨str.toArray⟩,?_,by simp [PR]⟩
   unfold execOp
   simp only [hop]
   have:=b2s_sound (P:=P) h hx hb
   have hr:(convert s t (a.eval x')).run P w=(Conv.bytesToString (a.eval x')).run P w:=by
    rcases b2s_shape hx hb with hn|⟨ad,n,c,hn⟩
    ·rw [hn];simp [convert,run_underlying hs',run_underlying ht',run_underlying he']
    ·rw [hn];simp [convert,run_underlying hs',run_underlying ht',run_underlying he']
   simp only [Sem.run_bind,hr,this,Result.andThen_ok,Sem.run_pure]
  ·cases he
 case i2s d' x=>
  simp only [mt1,Bool.and_eq_true,slotOk_iff] at hm
  obtain ⟨⟨h1,h2⟩,hm⟩:=hm
  split at hm<;>(try cases hm)
  rename_i s t x' hop
  simp only [Bool.and_eq_true] at hm
  have hx:=mX_sound h hm.2
  obtain ⟨⟨hs,ht⟩,_⟩:=hm
  have ht':P.underlying t=some .string:=by split at ht<;>simp_all
  split at he
  ·rename_i k0 n hb
   simp only [Option.some.injEq,Prod.mk.injEq] at he
   obtain ⟨rfl,rfl⟩:=he
   rw [hb] at hx
   simp only [PR] at hx
   obtain ⟨ds,hds⟩:=Option.isSome_iff_exists.1 hs
   exact ⟨h1,h2,.string (Utf8.encode n),by unfold execOp;simp [hop,hx,convert,run_underlying hds,run_underlying ht',Conv.intToString],by simp [PR]⟩
  ·cases he
 case inl d' neg x=>
  simp only [mt1,Bool.and_eq_true,slotOk_iff] at hm
  obtain ⟨⟨h1,h2⟩,hm⟩:=hm
  split at hm<;>(try cases hm)
  rename_i op' t x' ty hop
  simp only [Bool.and_eq_true,beq_iff_eq] at hm
  have hx:=mX_sound h hm.2
  obtain ⟨ms,hu⟩: ∃ms,P.underlying t=some (.interface ms):=by
   have:=hm.1.2
   split at this<;>simp_all
  have hu':P.underlying t=some (.interface (P.methodsAt t)):=by rw [hu];simp [Program.methodsAt,hu]
  have hop':=hm.1.1
  have ec:a.eval (.const .nilIface)= .nilIface:=rfl
  split at he
  ·rename_i hb
   simp only [Option.some.injEq,Prod.mk.injEq] at he
   obtain ⟨rfl,rfl⟩:=he
   rw [hb] at hx
   simp only [PR] at hx
   refine ⟨h1,h2,.bool (!neg),?_,by simp [PR]⟩
   unfold execOp
   cases neg
   ·simp only [Bool.false_eq_true,if_false] at hop'
    subst hop'
    simp [hop,hx,ec,eqGuard,run_eql_nil_nil w t hu']
   ·simp only [if_true] at hop'
    subst hop'
    simp [hop,hx,ec,eqGuard,run_neq_nil_nil w t hu']
  ·rename_i T u hb
   simp only [Option.some.injEq,Prod.mk.injEq] at he
   obtain ⟨rfl,rfl⟩:=he
   rw [hb] at hx
   simp only [PR] at hx
   obtain ⟨u',hx,_⟩:=hx
   refine ⟨h1,h2,.bool neg,?_,by simp [PR]⟩
   unfold execOp
   cases neg
   ·simp only [Bool.false_eq_true,if_false] at hop'
    subst hop'
    simp [hop,hx,ec,eqGuard,run_eql_held_nil w t _ _ hu']
   ·simp only [if_true] at hop'
    subst hop'
    simp [hop,hx,ec,eqGuard,run_neq_held_nil w t _ _ hu']
  ·cases he
 case b2s d' x=>
  simp only [mt1,Bool.and_eq_true,slotOk_iff] at hm
  obtain ⟨⟨h1,h2⟩,hm⟩:=hm
  split at hm<;>(try cases hm)
  rename_i s t x' hop
  simp only [Bool.and_eq_true] at hm
  obtain ⟨⟨hs,ht⟩,hx⟩:=hm
  have hx:=mX_sound h hx
  have ht':P.underlying t=some .string:=by split at ht<;>simp_all
  obtain ⟨e,hs',he',hsz⟩: ∃e,P.underlying s=some (.slice e)∧P.underlying e=some (.int .u8)∧sz? P e=some 1:=by
   split at hs<;>(try cases hs)
   rename_i e hse
   split at hs<;>(try cases hs)
   rename_i hue
   exact ⟨e,hse,hue,by simpa using hs⟩
  split at he
  ·rename_i str hb
   simp only [Option.some.injEq,Prod.mk.injEq] at he
   obtain ⟨rfl,rfl⟩:=he
   refine ⟨h1,h2,.string ⟨str.toArray⟩,?_,by simp [PR]⟩
   unfold execOp
   simp only [hop]
   have:=b2s_sound (P:=P) h hx hb
   have hr:(convert s t (a.eval x')).run P w=(Conv.bytesToString (a.eval x')).run P w:=by
    rcases b2s_shape hx hb with hn|⟨ad,n,c,hn⟩
    ·rw [hn];simp [convert,run_underlying hs',run_underlying ht',run_underlying he']
    ·rw [hn];simp [convert,run_underlying hs',run_underlying ht',run_underlying he']
   simp only [Sem.run_bind,hr,this,Result.andThen_ok,Sem.run_pure]
  ·cases he
 case mpl d' x=>
  simp only [mt1,Bool.and_eq_true,slotOk_iff] at hm
  obtain ⟨⟨h1,h2⟩,hm⟩:=hm
  split at hm<;>(try cases hm)
  rename_i as ts hop
  split at hm<;>(try cases hm)
  rename_i x' t has hts
  simp only [Bool.and_eq_true] at hm
  have hx:=mX_sound h hm.2
  obtain ⟨kt,et,ht'⟩: ∃kt et,P.underlying t=some (.map kt et):=by
   have:=hm.1
   split at this<;>simp_all
  have has':as= #[x']:=by cases as;simp_all
  have hts':ts= #[t]:=by cases ts;simp_all
  subst has';subst hts'
  split at he
  ·rename_i b es hb
   simp only [Option.some.injEq,Prod.mk.injEq] at he
   obtain ⟨rfl,rfl⟩:=he
   obtain ⟨g,z,_,hx,_,_,e3,_⟩:=mapOf_sound h hb hx
   refine ⟨h1,h2,.int .i64 es.length,?_,by simp [PR]⟩
   unfold execOp
   simp [hop,resolve,invoke,builtin,hx,Builtin.len_,run_underlying ht',goInt,MapKept.run_getObj_map e3,mapEnts]
  ·cases he
 case mlk d' q z m k ok=>
  simp only [mt1,Bool.and_eq_true,slotOk_iff] at hm
  obtain ⟨⟨h1,h2⟩,hm⟩:=hm
  split at hm<;>(try cases hm)
  rename_i t m' k' ok' hop
  simp only [Bool.and_eq_true,beq_iff_eq] at hm
  obtain ⟨⟨⟨ht,rfl⟩,hmm⟩,hkk⟩:=hm
  split at ht<;>(try cases ht)
  rename_i kt et ht'
  simp only [Bool.and_eq_true] at ht
  obtain ⟨d,hd,hq⟩:=fkT_sound ht.1
  have hz:=mkZ_sound (w:=w) ht.2
  have hx:=mX_sound h hmm
  have hy:=mX_sound h hkk
  split at he
  ·rename_i b es key hb hk
   obtain ⟨g,z',_,hx,_,_,e3,_⟩:=mapOf_sound h hb hx
   have hy:=mkk_PR hk hy
   split at he
   ·rename_i i v hf
    simp only [Option.some.injEq,Prod.mk.injEq] at he
    obtain ⟨rfl,rfl⟩:=he
    have h3:=(find_sound hq hk es 0 hf).1
    refine ⟨h1,h2,if ok=true then .tuple #[v.val,.bool true] else v.val,?_,?_⟩
    ·unfold execOp
     have:=MapKept.run_findKey (P:=P) (w:=w) (kt:=kt) hd h3
     cases ok<;>simp [hop,Instr.lookup,run_underlying ht',hx,hy,MapKept.run_getObj_map e3,run_checkKey' hd hq,mapEnts_eq,this,Result.andThen]
    ·cases ok
     ·exact av_PR v
     ·simp only [if_true,PR,PRlist]
      exact ⟨_,rfl,_,_,rfl,av_PR v,_,_,rfl,rfl,rfl⟩
   ·rename_i hf
    simp only [Option.some.injEq,Prod.mk.injEq] at he
    obtain ⟨rfl,rfl⟩:=he
    have h3:=(find_sound hq hk es 0 hf).1
    refine ⟨h1,h2,if ok=true then .tuple #[z.val,.bool false] else z.val,?_,?_⟩
    ·unfold execOp
     have:=MapKept.run_findKey (P:=P) (w:=w) (kt:=kt) hd h3
     cases ok<;>simp [hop,Instr.lookup,run_underlying ht',hx,hy,MapKept.run_getObj_map e3,run_checkKey' hd hq,mapEnts_eq,this,Result.andThen,hz]
    ·cases ok
     ·exact av_PR z
     ·simp only [if_true,PR,PRlist]
      exact ⟨_,rfl,_,_,rfl,av_PR z,_,_,rfl,rfl,rfl⟩
   ·cases he
  ·cases he
 case mn d' x y=>
  simp only [mt1,Bool.and_eq_true,slotOk_iff] at hm
  obtain ⟨⟨h1,h2⟩,hm⟩:=hm
  split at hm<;>(try cases hm)
  rename_i as ts hop
  split at hm<;>(try cases hm)
  rename_i x' y' has
  simp only [Bool.and_eq_true] at hm
  have hx:=mX_sound h hm.1
  have hy:=mX_sound h hm.2
  have has':as= #[x',y']:=by cases as;simp_all
  subst has'
  split at he
  ·rename_i k n k' n' hb hc
   simp only [Option.some.injEq,Prod.mk.injEq] at he
   obtain ⟨rfl,rfl⟩:=he
   rw [hb] at hx;rw [hc] at hy
   simp only [PR] at hx hy
   exact ⟨h1,h2,_,by unfold execOp;simp [hop,resolve,invoke,builtin,hx,hy,Builtin.min_,Builtin.min2];rfl,by simp [PR]⟩
  ·cases he
 case mx d' x y=>
  simp only [mt1,Bool.and_eq_true,slotOk_iff] at hm
  obtain ⟨⟨h1,h2⟩,hm⟩:=hm
  split at hm<;>(try cases hm)
  rename_i as ts hop
  split at hm<;>(try cases hm)
  rename_i x' y' has
  simp only [Bool.and_eq_true] at hm
  have hx:=mX_sound h hm.1
  have hy:=mX_sound h hm.2
  have has':as= #[x',y']:=by cases as;simp_all
  subst has'
  split at he
  ·rename_i k n k' n' hb hc
   simp only [Option.some.injEq,Prod.mk.injEq] at he
   obtain ⟨rfl,rfl⟩:=he
   rw [hb] at hx;rw [hc] at hy
   simp only [PR] at hx hy
   exact ⟨h1,h2,_,by unfold execOp;simp [hop,resolve,invoke,builtin,hx,hy,Builtin.max_,Builtin.max2];rfl,by simp [PR]⟩
  ·cases he
 case nc d' x=>
  simp only [mt1,Bool.and_eq_true,slotOk_iff] at hm
  obtain ⟨⟨h1,h2⟩,hm⟩:=hm
  split at hm<;>(try cases hm)
  rename_i x' hop
  have hx:=mX_sound h hm
  split at he
  ·rename_i b o hb
   simp only [Option.some.injEq,Prod.mk.injEq] at he
   obtain ⟨rfl,rfl⟩:=he
   rw [hb] at hx
   have hx':=hx
   simp only [PR] at hx
   obtain ⟨g,z,hg,hit,hx⟩:=hx
   exact ⟨h1,h2,a.eval x',by unfold execOp;simp [hop,hx],hx'⟩
  ·rename_i cs hb
   simp only [Option.some.injEq,Prod.mk.injEq] at he
   obtain ⟨rfl,rfl⟩:=he
   rw [hb] at hx
   have hx':=hx
   simp only [PR] at hx
   obtain ⟨g,o,hx,_⟩:=hx
   exact ⟨h1,h2,a.eval x',by unfold execOp;simp [hop,hx],hx'⟩
  ·cases he
 case mi d' T x=>
  simp only [mt1,Bool.and_eq_true,slotOk_iff] at hm
  obtain ⟨⟨h1,h2⟩,hm⟩:=hm
  split at hm<;>(try cases hm)
  rename_i t x' hop
  simp only [Bool.and_eq_true,beq_iff_eq] at hm
  obtain ⟨⟨rfl,hc⟩,hm⟩:=hm
  have hx:=mX_sound h hm
  simp only [Option.some.injEq,Prod.mk.injEq] at he
  obtain ⟨rfl,rfl⟩:=he
  refine ⟨h1,h2,.iface t (a.eval x'),?_,?_⟩
  ·unfold conc at hc
   cases hu:P.underlying t with
   |none=>rw [hu] at hc;cases hc
   |some u=>
    rw [hu] at hc
    unfold execOp
    cases u<;>first|(simp [hop,Instr.makeInterface,run_underlying hu];done)|cases hc
  ·simp only [PR];exact ⟨_,rfl,hx⟩
 case ta d' T z x ok=>
  simp only [mt1,Bool.and_eq_true,slotOk_iff] at hm
  obtain ⟨⟨h1,h2⟩,hm⟩:=hm
  split at hm<;>(try cases hm)
  rename_i x' xt t ok' hop
  simp only [Bool.and_eq_true,beq_iff_eq] at hm
  obtain ⟨⟨⟨⟨rfl,hc⟩,hz⟩,rfl⟩,hm⟩:=hm
  have hx:=mX_sound h hm
  obtain ⟨zv,hz1,hz2⟩:=zOk_sound (S:=S) (gb:=gb) (w:=w) hz
  unfold conc at hc
  cases hu:P.underlying t with
  |none=>rw [hu] at hc;cases hc
  |some u=>
   rw [hu] at hc
   split at he
   ·rename_i t' v hb
    rw [hb] at hx
    simp only [PR] at hx
    obtain ⟨uv,hx,hp⟩:=hx
    by_cases ht:t'=t
    ·subst ht
     rw [if_pos rfl] at he
     simp only [Option.some.injEq,Prod.mk.injEq] at he
     obtain ⟨rfl,rfl⟩:=he
     refine ⟨h1,h2,if ok=true then .tuple #[uv,.bool true] else uv,?_,?_⟩
     ·unfold execOp
      cases u<;>first|(cases ok<;>simp [hop,Instr.typeAssert,run_underlying hu,hx];done)|cases hc
     ·cases ok
      ·exact hp
      ·simp only [if_true,PR,PRlist]
       exact ⟨_,rfl,_,_,rfl,hp,_,_,rfl,rfl,rfl⟩
    ·rw [if_neg ht] at he
     cases ok with
     |false=>simp at he
     |true=>
      simp only [if_true,Option.some.injEq,Prod.mk.injEq] at he
      obtain ⟨rfl,rfl⟩:=he
      refine ⟨h1,h2,.tuple #[zv,.bool false],?_,?_⟩
      ·unfold execOp
       cases u<;>first|(simp [hop,Instr.typeAssert,run_underlying hu,hx,ht,hz1,Result.andThen];done)|cases hc
      ·simp only [PR,PRlist]
       exact ⟨_,rfl,_,_,rfl,hz2,_,_,rfl,rfl,rfl⟩
   ·rename_i hb
    rw [hb] at hx
    simp only [PR] at hx
    cases ok with
    |false=>simp at he
    |true=>
     simp only [if_true,Option.some.injEq,Prod.mk.injEq] at he
     obtain ⟨rfl,rfl⟩:=he
     refine ⟨h1,h2,.tuple #[zv,.bool false],?_,?_⟩
     ·unfold execOp
      cases u<;>first|(simp [hop,Instr.typeAssert,run_underlying hu,hx,hz1,Result.andThen];done)|cases hc
     ·simp only [PR,PRlist]
      exact ⟨_,rfl,_,_,rfl,hz2,_,_,rfl,rfl,rfl⟩
   ·cases he
end Go.Ai
