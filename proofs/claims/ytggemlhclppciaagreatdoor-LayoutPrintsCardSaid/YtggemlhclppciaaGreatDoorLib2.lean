/- Lib2: a part of the proof. Conditions: as each theorem says. -/
import Derived.Test.YtggemlhclppciaaGreatDoorLib1
import Derived.MapKept
import Derived.WideLaws
set_option linter.unusedSimpArgs false
set_option linter.unusedVariables false
namespace Go.Ai
open Go.RowKit

mutual
def qV:AV→Value→Bool
 | .int k n,.int k' n'=>k==k'&&n==n'
 | .bool b,.bool b'=>b==b'
 | .str s,.string b=>b.data.toList==s
 | .nils,.slice none 0 0=>true
 | .nilp,.pointer none=>true
 | .nili,.nilIface=>true
 | .undef,.nilFunc=>true
 | .agg cs,.agg us=>us.toList.all (·.oneCell')&&qM cs us.toList
 |_,_=>false
def qM:List AV→List Value→Bool
 |[],[]=>true
 |c::r,u::s=>qV c u&&qM r s
 |_,_=>false
end
mutual
theorem pc {S:aM} {gb:Gb}: ∀(c:AV) (u:Value),qV c u=true→PR S gb c u
 | .undef,u,_=>by simp [PR]
 | .int k n,u,h=>by
  cases u<;>simp [qV] at h;obtain ⟨rfl,rfl⟩:=h;simp [PR]
 | .bool b,u,h=>by
  cases u<;>simp [qV] at h;subst h;simp [PR]
 | .str s,u,h=>by
  cases u<;>simp [qV] at h;subst h;simp [PR]
 | .nils,u,h=>by
  unfold qV at h;split at h<;>simp_all [PR]
 | .nilp,u,h=>by
  unfold qV at h;split at h<;>simp_all [PR]
 | .agg cs,u,h=>by
  cases u<;>simp only [qV,aE,uj] at h;rename_i us;simp only [PR];exact ⟨us,rfl,fun u hu=>gE.1 h.1 u hu,ep cs us.toList h.2⟩
 | .sl _,u,h=>by cases u<;>simp [qV] at h
 | .pin _,u,h=>by cases u<;>simp [qV] at h
 | .ptr _ _,u,h=>by cases u<;>simp [qV] at h
 | .ms _ _ _ _,u,h=>by cases u<;>simp [qV] at h
 | .fn _ _,u,h=>by cases u<;>simp [qV] at h
 | .itr _ _,u,h=>by cases u<;>simp [qV] at h
 | .itp _,u,h=>by cases u<;>simp [qV] at h
 | .mref _,u,h=>by cases u<;>simp [qV] at h
 | .nilT _ _ _,u,h=>by cases u<;>simp [qV] at h
 | .mpv _,u,h=>by cases u<;>simp [qV] at h
 | .tup _,u,h=>by cases u<;>simp [qV] at h
 | .ifc _ _,u,h=>by cases u<;>simp [qV] at h
 | .yv _,u,h=>by cases u<;>simp [qV] at h
 | .nili,u,h=>by
  unfold qV at h;split at h<;>simp_all [PR]
theorem ep {S:aM} {gb:Gb}: ∀(c:List AV) (u:List Value),qM c u=true→aa S gb c u
 |[],u,h=>by cases u<;>simp [qM] at h ⊢ <;>simp [aa]
 |c::r,u,h=>by
  cases u with
  |nil=>simp [qM] at h
  |cons u s=>
   simp [qM] at h;exact ⟨u,s,rfl,pc c u h.1,ep r s h.2⟩
end

def mX (GL:List (Nat×List Value)):X→Operand→Bool
 | .s t,.tmp t'=>t==t'
 | .c v,.const u=>qV v u
 | .c (.fn f []),.func f'=>f==f'
 | .c (.pin cs),.global i=>match GL.lookup i with
  |some us=>qM cs us
  |none=>false
 |_,_=>false
def jh (GL:List (Nat×List Value)):List X→List Operand→Bool
 |[],[]=>true
 |x::r,y::s=>mX GL x y&&jh GL r s
 |_,_=>false

variable {P:Program} {F:Fr} {S:aM} {gb:Gb} {σ:St} {a:Act} {w:World}
theorem aq (h:aI F S gb σ a w) {x:X} {y:Operand} (hm:mX F.GL x y=true):PR S gb (σ.v x) (a.eval y):=by
 unfold mX at hm;split at hm
 ·simp at hm;subst hm;exact h.env _
 ·exact pc _ _ hm
 ·simp at hm;subst hm;simp only [St.v,PR,Act.eval];exact ⟨#[],rfl,by simp [aa]⟩
 ·split at hm
  ·rename_i i us hl;simp only [St.v,PR,Act.eval];refine ⟨_,0,rfl,aG.of_list (us:=us) (ep _ _ hm) (fun u hu=>?_) (fun j u hu=>?_)⟩
   ·obtain ⟨j,hj⟩:=List.getElem?_of_mem hu;exact (h.glo _ _ hl j u hj).2
   ·rw [mM];exact h.le _ _ _ (h.glo _ _ hl j u hu).1
  ·cases hm
 ·cases hm
theorem dy (h:aI F S gb σ a w): ∀ {xs:List X} {ys:List Operand},jh F.GL xs ys=true→aa S gb (xs.map σ.v) (ys.map a.eval)
 |[],ys,hm=>by cases ys<;>simp [jh] at hm ⊢ <;>simp [aa]
 |x::r,ys,hm=>by
  cases ys with
  |nil=>simp [jh] at hm
  |cons y s=>
   simp [jh] at hm;exact ⟨_,_,rfl,aq h hm.1,dy h hm.2⟩

def kW (P:Program) (t:TypeId):Option Nat:=(P.info? t).map (·.size)
def ma (P:Program) (t:TypeId):Bool:=match P.underlying t with
 |some (.struct _)|some (.array _ _)|none=>false
 |_=>true
def ji (P:Program) (t:TypeId):Bool:=match P.underlying t with
 |some (.struct _)|some (.array _ _)=>true
 |_=>false
theorem aS {t n:Nat} (h:kW P t=some n):(sizeOf t).run P w= .ok n w:=by
 unfold kW at h;cases hq:P.info? t with
 |none=>simp [hq] at h
 |some i=>simp [hq] at h;simp [sizeOf,typeInfo,hq,h]
theorem iU {t:Nat} (h:ma P t=true):(isAgg t).run P w= .ok false w:=by
 unfold ma at h;cases hq:P.underlying t with
 |none=>simp [hq] at h
 |some d=>unfold isAgg;rw [Sem.run_bind,run_underlying hq w];cases d<;>simp_all
theorem kX {t:Nat} (h:ji P t=true):(isAgg t).run P w= .ok true w:=by
 unfold ji at h;cases hq:P.underlying t with
 |none=>simp [hq] at h
 |some d=>unfold isAgg;rw [Sem.run_bind,run_underlying hq w];cases d<;>simp_all

def gJ (P:Program) (t:TypeId):List (Nat×Nat):=
 match P.underlying t with
 |some (.struct fs)=>fs.toList.map fun f=>(f.offset,(kW P f.type).getD 0)
 |_=>[]

def GX (P:Program) (f:TypeId→Option (List FK)):List Field→Nat→Option (List FK)
 |[],_=>some []
 |fd::r,o=>if fd.name≠ "_"∧fd.offset=o then match f fd.type,GX P f r (o+(kW P fd.type).getD 0) with
   |some ks,some ls=>if kW P fd.type=some ks.length then some (ks++ls) else none
   |_,_=>none
  else none
def MG (P:Program):Nat→TypeId→Option (List FK)
 |0,_=>none
 |d+1,t=>match P.underlying t with
  |some .bool=>some [.b]
  |some (.int _)=>some [.i]
  |some .string=>some [.s]
  |some (.struct fs)=>if P.stoodInHeld t=true then none else GX P (MG P d) fs.toList 0
  |some (.array n e)=>match MG P d e with
   |some [k]=>if ma P e=true∧kW P e=some 1 then some (List.replicate n k) else none
   |_=>none
  |_=>none

def cp (ps:List (Nat×Operand)) (i:Nat):Option (List Operand):=
 match ps with
 |[]=>some []
 |(j,x)::r=>if j==i then (cp r (i+1)).map (x:: ·) else none

def aJ (N d:Nat) (dst:Option Tmp):Bool:=dst==some d&&Nat.blt d N

def mO (GL:List (Nat×List Value)) (fs:List (Nat×Nat)):List (Nat×Nat×X)→List (Nat×Operand)→Bool
 |[],[]=>true
 |(off,n,x)::r,(i,y)::s=>fs[i]?==some (off,n)&&mX GL x y&&mO GL fs r s
 |_,_=>false

def uu (GL:List (Nat×List Value)):Option X→Option Operand→Bool
 |none,none=>true
 |some x,some y=>mX GL x y
 |_,_=>false

def SE (P:Program) (z:AV) (t:TypeId):Bool:=match P.info? t with
 |some i=>(match i.zero with |some v=>qV z v|none=>false)
 |none=>false
theorem EQ {z:AV} {t:TypeId} (h:SE P z t=true): ∃u,(zeroValue t).run P w= .ok u w∧PR S gb z u:=by
 unfold SE at h;split at h
 ·rename_i i hi;split at h
  ·rename_i v hv;exact ⟨v,by simp [zeroValue,typeInfo,hi,hv],pc _ _ h⟩
  ·cases h
 ·cases h
def J1 (P:Program) (t:TypeId):Bool:=match P.underlying t with
 |some (.interface _)|none=>false
 |some _=>true
def Pb (sz:Nat):Bool:=!(sz==0)&&Nat.blt sz KB
theorem wA {sz:Nat}:Pb sz=true↔ ¬sz=0∧sz<KB:=by simp [Pb,Nat.blt_eq]
def dM (P:Program) (GL:List (Nat×List Value)) (N:Nat) (o:Oper):bz→Bool
 | .mv d x=>aJ N d o.dst&&(match o.op with | .move y| .assign y=>mX GL x y|_=>false)
 | .mo d s=>aJ N d o.dst&&(match o.op with | .move (.tmp t)| .assign (.tmp t)=>t==s|_=>false)
 | .pk d c x y=>aJ N d o.dst&&(match o.op with | .pick c' x' y'=>mX GL c c'&&mX GL x x'&&mX GL y y'|_=>false)
 | .bi d op x y=>aJ N d o.dst&&(match o.op with | .binOp op' _ x' y' _=>op==op'&&mX GL x x'&&mX GL y y'|_=>false)
 | .bb d neg x y=>aJ N d o.dst&&(match o.op with | .binOp op' t x' y' _=>op'==(if neg then .neq else .eql)&&(match P.underlying t with |some .bool=>true|_=>false)&&mX GL x x'&&mX GL y y'|_=>false)
 | .ea d neg ks x y=>aJ N d o.dst&&(match o.op with | .binOp op' t x' y' _=>op'==(if neg then .neq else .eql)&&(MG P 4 t==some ks)&&ji P t&&!(P.eqGuardType P.depth t)&&mX GL x x'&&mX GL y y'|_=>false)
 | .bq d x=>aJ N d o.dst&&(match o.op with | .convert s t x'=>(match P.underlying s with |some (.slice e)=>(match P.underlying e with |some (.int .u8)=>kW P e==some 1|_=>false)|_=>false)&&(match P.underlying t with |some .string=>true|_=>false)&&mX GL x x'|_=>false)
 | .pn d neg x=>aJ N d o.dst&&(match o.op with | .binOp op' t x' (.const (.pointer none)) _=>op'==(if neg=true then .neq else .eql)&&(match P.underlying t with |some (.pointer _)=>true|_=>false)&&mX GL x x'|_=>false)
 | .un d op x=>aJ N d o.dst&&(match o.op with | .unOp op' _ x'=>op==op'&&mX GL x x'|_=>false)
 | .cv d k x=>aJ N d o.dst&&(match o.op with | .convert s t x'=>(P.underlying s).isSome&&(match P.underlying t with |some (.int k')=>k==k'|_=>false)&&mX GL x x'|_=>false)
 | .ln d x=>aJ N d o.dst&&(match o.op with | .call {callee:= .builtin .len,args:=as,argTypes:=ts}=>(match as.toList,ts.toList with |[x'],[t]=>(match P.underlying t with |some (.slice _)=>true|_=>false)&&mX GL x x'|_,_=>false)|_=>false)
 | .lns d x=>aJ N d o.dst&&(match o.op with | .call {callee:= .builtin .len,args:=as,argTypes:=ts}=>(match as.toList,ts.toList with |[x'],[t]=>(match P.underlying t with |some .string=>true|_=>false)&&mX GL x x'|_,_=>false)|_=>false)
 | .fa d x off=>aJ N d o.dst&&(match o.op with | .fieldAddr t x' f=>(match (gJ P t)[f]? with |some (o',n)=>o'==off&&!(n==0)|none=>false)&&mX GL x x'|_=>false)
 | .ia d sz x i=>aJ N d o.dst&&(match o.op with | .indexAddr t x' i'=>(match P.underlying t with |some (.slice e)=>kW P e==some sz|_=>false)&&mX GL x x'&&mX GL i i'|_=>false)
 | .iaa d sz n x i=>aJ N d o.dst&&(match o.op with | .indexAddr t x' i'=>(match P.underlying t with |some (.array m e)=>m==n&&kW P e==some sz|_=>false)&&mX GL x x'&&mX GL i i'|_=>false)
 | .lds d x=>aJ N d o.dst&&(match o.op with | .load t x'=>ma P t&&mX GL x x'|_=>false)
 | .ldf d x=>aJ N d o.dst&&(match o.op with | .load t x'=>ma P t&&mX GL x x'|_=>false)
 | .lda d n x=>aJ N d o.dst&&(match o.op with | .load t x'=>ji P t&&kW P t==some n&&mX GL x x'|_=>false)
 | .st n x v=>o.dst==none&&(match o.op with | .store t x' v'=>kW P t==some n&&mX GL x x'&&mX GL v v'|_=>false)
 | .lo d x=>aJ N d o.dst&&(match o.op with | .load t x'=>ma P t&&mX GL x x'|_=>false)
 | .so x s=>o.dst==none&&(match o.op with | .store t x' (.tmp s')=>kW P t==some 1&&s==s'&&mX GL x x'|_=>false)
 | .al d z=>aJ N d o.dst&&(match o.op with | .alloc t=>(match P.info? t with |some i=>(match i.zero with |some z'=>z'.cells.toList.all (·.oneCell')&&qM z z'.cells.toList|none=>false)|none=>false)|_=>false)
 | .alT d T off z=>aJ N d o.dst&&(match o.op with | .alloc t=>t==T&&decide (off<z.length)&&(match z[off]? with |some .nilp=>true|_=>false)&&(match P.info? t with |some i=>(match i.zero with |some z'=>z'.cells.toList.all (·.oneCell')&&qM z z'.cells.toList&&z.length==z'.cells.size|none=>false)|none=>false)|_=>false)
 | .bx d x=>aJ N d o.dst&&(match o.op with | .box _ x'=>mX GL x x'|_=>false)
 | .bxT d T _ x=>aJ N d o.dst&&(match o.op with | .box t x'=>t==T&&mX GL x x'|_=>false)
 | .bd d z ps=>aJ N d o.dst&&(match o.op with | .build t ps'=>(match P.info? t with |some i=>(match i.zero with |some (.agg z')=>z'.toList.all (·.oneCell')&&qM z z'.toList|_=>false)|none=>false)&&(match P.underlying t with |some (.struct fs)=>fs.toList.all (fun f=>(kW P f.type).isSome)&&mO GL (gJ P t) ps ps'.toList|some (.array n e)=>(match kW P e with |some sz=>mO GL ((List.range n).map fun i=>(i*sz,sz)) ps ps'.toList|none=>false)|_=>false)|_=>false)
 | .bs d sz ps=>aJ N d o.dst&&(match o.op with | .buildSlice t n ps'=>(match P.underlying t with |some (.slice e)=>(match P.info? e with |some i=>i.size==sz&&(match i.zero with |some z=>z.cells.size==sz|none=>false)|none=>false)|_=>false)&&Pb sz&&n==ps.length&&Nat.ble (n*sz) 16777216&&(match cp ps'.toList 0 with |some ys=>jh GL ps ys|none=>false)|_=>false)
 | .fls _ _ _=>false
 | .fla _ _ _ _=>false
 | .ixs d x i=>aJ N d o.dst&&(match o.op with | .index t x' i'=>(match P.underlying t with |some .string=>true|_=>false)&&mX GL x x'&&mX GL i i'|_=>false)
 | .ex d x i=>aJ N d o.dst&&(match o.op with | .extract x' i'=>i==i'&&mX GL x x'|_=>false)
 | .exq d x i=>aJ N d o.dst&&(match o.op with | .extract x' i'=>i==i'&&mX GL x x'|_=>false)
 | .cl d f xs=>aJ N d o.dst&&(match o.op with | .call {callee:= .value (.func f'),args:=as,argTypes:=_}=>f==f'&&jh GL xs as.toList|_=>false)
 | .ap d sz by_ s y=>aJ N d o.dst&&(match o.op with | .call {callee:= .builtin .append,args:=as,argTypes:=ts}=>(match as.toList,ts.toList with |[s',y'],[t,t']=>t==t'&&(match P.underlying t with |some (.slice e)=>(match P.info? e with |some i=>i.size==sz&&i.bytes==by_&&(match i.zero with |some z=>z.cells.size==sz|none=>false)|none=>false)|_=>false)&&Pb sz&&!(by_==0)&&mX GL s s'&&mX GL y y'|_,_=>false)|_=>false)
 | .trm _ _ _ _=>false
 | .clr _ _ _=>false
 | .mk _ _ _ _ _ _=>false
 | .sls d x lo hi=>aJ N d o.dst&&(match o.op with | .slice t x' lo' hi' none=>(match P.underlying t with |some .string=>true|_=>false)&&mX GL x x'&&uu GL lo lo'&&uu GL hi hi'|_=>false)
 | .slc d sz x lo hi=>aJ N d o.dst&&(match o.op with | .slice t x' lo' hi' none=>(match P.underlying t with |some (.slice e)=>kW P e==some sz|_=>false)&&mX GL x x'&&uu GL lo lo'&&uu GL hi hi'|_=>false)
 | .mn d x y=>aJ N d o.dst&&(match o.op with | .call {callee:= .builtin .min,args:=as,argTypes:=_}=>(match as.toList with |[x',y']=>mX GL x x'&&mX GL y y'|_=>false)|_=>false)
 | .mx _ _ _=>false
 | .nc d x=>aJ N d o.dst&&(match o.op with | .nilCheck x'=>mX GL x x'|_=>false)
 | .mi d T x=>aJ N d o.dst&&(match o.op with | .makeInterface t x'=>t==T&&J1 P t&&mX GL x x'|_=>false)
 | .ta d T z x ok=>aJ N d o.dst&&(match o.op with | .typeAssert x' _ t ok'=>t==T&&J1 P t&&SE P z t&&ok==ok'&&mX GL x x'|_=>false)
 | .ce d f xs=>aJ N d o.dst&&(match o.op with | .call {callee:= .value (.func f'),args:=as,argTypes:=_}=>f==f'&&jh GL xs as.toList|_=>false)
 | .cr _ _ _=>false
 | .cq d f xs _=>aJ N d o.dst&&(match o.op with | .call {callee:= .value (.func f'),args:=as,argTypes:=_}=>f==f'&&jh GL xs as.toList|_=>false)
 | .mkm d sz by_ z l c=>aJ N d o.dst&&(match o.op with | .makeSlice t l' c'=>(match P.underlying t with |some (.slice e)=>(match P.info? e with |some i=>i.size==sz&&i.bytes==by_&&(match i.zero with |some z'=>z'.cells.size==sz&&z'.cells.toList.all (·.oneCell')&&qM z z'.cells.toList|none=>false)|none=>false)|_=>false)&&!(sz==0)&&!(by_==0)&&mX GL l l'&&mX GL c c'|_=>false)
 | .apm d sz by_ s y=>aJ N d o.dst&&(match o.op with | .call {callee:= .builtin .append,args:=as,argTypes:=ts}=>(match as.toList,ts.toList with |[s',y'],[t,t']=>t==t'&&(match P.underlying t with |some (.slice e)=>(match P.info? e with |some i=>i.size==sz&&i.bytes==by_&&(match i.zero with |some z=>z.cells.size==sz&&z.cells.toList.all (·.oneCell')|none=>false)|none=>false)|_=>false)&&!(sz==0)&&!(by_==0)&&mX GL s s'&&mX GL y y'|_,_=>false)|_=>false)
 | .bsm d sz ps=>aJ N d o.dst&&(match o.op with | .buildSlice t n ps'=>(match P.underlying t with |some (.slice e)=>(match P.info? e with |some i=>i.size==sz&&(match i.zero with |some z=>z.cells.size==sz|none=>false)|none=>false)|_=>false)&&!(sz==0)&&n==ps.length&&Nat.ble (n*sz) 16777216&&(match cp ps'.toList 0 with |some ys=>jh GL ps ys|none=>false)|_=>false)
 | .bsn d sz ps=>aJ N d o.dst&&(match o.op with | .buildSlice t n ps'=>(match P.underlying t with |some (.slice e)=>(match P.info? e with |some i=>i.size==sz&&(match i.zero with |some z=>z.cells.size==sz|none=>false)|none=>false)|_=>false)&&Pb sz&&n==ps.length&&Nat.ble (n*sz) 16777216&&(match cp ps'.toList 0 with |some ys=>jh GL ps ys|none=>false)|_=>false)
 | .ca d f s ps=>aJ N d o.dst&&(match o.op with | .call {callee:= .value (.func f'),args:=as,argTypes:=_}=>f==f'&&jh GL (s.toList++ps) as.toList|_=>false)
 | .cd d x xs=>aJ N d o.dst&&(match o.op with | .call {callee:= .value f',args:=as,argTypes:=_}=>mX GL x f'&&jh GL xs as.toList|_=>false)
 | .mf d f xs=>aJ N d o.dst&&(match o.op with | .makeFunc (.func f') first cap=>f==f'&&first.size==0&&jh GL xs cap.toList|_=>false)
 | .b2s d x=>aJ N d o.dst&&(match o.op with | .convert s t x'=>(match P.underlying s with |some (.slice e)=>(match P.underlying e with |some (.int .u8)=>kW P e==some 1|_=>false)|_=>false)&&(match P.underlying t with |some .string=>true|_=>false)&&mX GL x x'|_=>false)
 | .i2s d x=>aJ N d o.dst&&(match o.op with | .convert s t x'=>(P.underlying s).isSome&&(match P.underlying t with |some .string=>true|_=>false)&&mX GL x x'|_=>false)
 | .inl d neg x=>aJ N d o.dst&&(match o.op with | .binOp op' t x' (.const .nilIface) _=>op'==(if neg=true then .neq else .eql)&&(match P.underlying t with |some (.interface _)=>true|_=>false)&&mX GL x x'|_=>false)
 | .s2b d x=>aJ N d o.dst&&(match o.op with | .convert s t x'=>(match P.underlying t with |some (.slice e)=>(match P.underlying e with |some (.int .u8)=>(match P.info? e with |some i=>i.size==1&&i.bytes==1|none=>false)|_=>false)|_=>false)&&(match P.underlying s with |some .string=>true|_=>false)&&mX GL x x'|_=>false)
 | .aps _ _ _=>false
 | .rs d x=>aJ N d o.dst&&(match o.op with | .range t x'=>(match P.underlying t with |some .string=>true|_=>false)&&mX GL x x'|_=>false)
 | .nx d x=>aJ N d o.dst&&(match o.op with | .next x' true=>mX GL x x'|_=>false)
 | .ixa d sz n agg x i=>aJ N d o.dst&&(match o.op with | .index t x' i'=>(match P.underlying t with |some (.array m e)=>m==n&&kW P e==some sz&&(if agg=true then ji P e else ma P e)|_=>false)&&mX GL x x'&&mX GL i i'|_=>false)
 | .mkp _=>false
 | .mpl _ _=>false
 | .mpe _ _ _ _ _=>false
 | .mes _ _ _=>false
 | .mup _ _ _ _=>false
 | .mlk _ _ _ _ _ _=>false
 | .sla d n x lo hi=>aJ N d o.dst&&(match o.op with | .slice t x' lo' hi' none=>(match P.underlying t with |some (.array m e)=>m==n&&kW P e==some 1|_=>false)&&mX GL x x'&&uu GL lo lo'&&uu GL hi hi'|_=>false)
 | .no=>true
 | .gd _ _ _ _=>false

def mt (P:Program) (GL:List (Nat×List Value)) (N:Nat) (ops:Array Oper) (o:Oper):bz→Bool
 | .gd s b d ao=>(match o.guard with |some (j,b')=>b==b'&&((ops[j]?).bind (·.dst))==some s|none=>false)&&aJ N d o.dst&&dM P GL N o ao
 |ao=>o.guard.isNone&&dM P GL N o ao
def xs:X→List Nat
 | .s t=>[t]
 | .c _=>[]
def ox:Option X→List Nat
 |some x=>xs x
 |none=>[]
def dz:bz→List Nat
 | .mv _ x=>xs x
 | .mo _ s=>[s]
 | .pk _ c x y=>xs c++(xs x++xs y)
 | .bi _ _ x y=>xs x++xs y
 | .bb _ _ x y=>xs x++xs y
 | .ea _ _ _ x y=>xs x++xs y
 | .un _ _ x=>xs x
 | .pn _ _ x=>xs x
 | .bq _ x=>xs x
 | .cv _ _ x=>xs x
 | .ln _ x=>xs x
 | .lns _ x=>xs x
 | .slc _ _ x l h=>xs x++(ox l++ox h)
 | .sls _ x l h=>xs x++(ox l++ox h)
 | .fa _ x _=>xs x
 | .ia _ _ x i=>xs x++xs i
 | .iaa _ _ _ x i=>xs x++xs i
 | .lds _ x=>xs x
 | .ldf _ x=>xs x
 | .lda _ _ x=>xs x
 | .st _ x v=>xs x++xs v
 | .lo _ x=>xs x
 | .so x s=>xs x++[s]
 | .al _ _=>[]
 | .alT _ _ _ _=>[]
 | .bxT _ _ _ x=>xs x
 | .bx _ x=>xs x
 | .bd _ _ ps=>ps.flatMap fun p=>xs p.2.2
 | .bs _ _ ps=>ps.flatMap xs
 | .fls _ _ x=>xs x
 | .fla _ _ _ x=>xs x
 | .ixs _ x i=>xs x++xs i
 | .ex _ x _=>xs x
 | .exq _ x _=>xs x
 | .ixa _ _ _ _ x i=>xs x++xs i
 | .mf _ _ ps=>ps.flatMap xs
 | .mlk _ _ _ m k _=>xs m++xs k
 | .ce _ _ _| .cd _ _ _| .apm _ _ _ _ _| .mkm _ _ _ _ _ _| .bsn _ _ _| .bsm _ _ _| .rs _ _| .nx _ _| .s2b _ _| .aps _ _ _| .sla _ _ _ _ _| .b2s _ _| .i2s _ _| .inl _ _ _| .mkp _| .mpl _ _| .mpe _ _ _ _ _| .mes _ _ _| .mup _ _ _ _| .clr _ _ _| .trm _ _ _ _=>[]
 | .cl _ _ ps=>ps.flatMap xs
 | .cr _ _ ps=>ps.flatMap xs
 | .cq _ _ ps _=>ps.flatMap xs
 | .ap _ _ _ s y=>xs s++xs y
 | .ca _ _ s ps=>(match s with |some x=>xs x|none=>[])++ps.flatMap xs
 | .mk _ _ _ _ l c=>xs l++xs c
 | .mn _ x y=>xs x++xs y
 | .mx _ x y=>xs x++xs y
 | .nc _ x=>xs x
 | .mi _ _ x=>xs x
 | .ta _ _ _ x _=>xs x
 | .no=>[]
 | .gd s _ _ o=>s::dz o
def dN:bz→Option Nat
 | .mv d _| .mo d _| .pk d _ _ _| .bi d _ _ _| .bb d _ _ _| .ea d _ _ _ _| .un d _ _| .pn d _ _| .bq d _| .cv d _ _| .ln d _| .lns d _| .slc d _ _ _ _| .sls d _ _ _| .fa d _ _| .ia d _ _ _| .iaa d _ _ _ _
 | .lds d _| .ldf d _| .lda d _ _| .lo d _| .al d _| .alT d _ _ _| .bx d _| .bd d _ _| .bs d _ _| .fls d _ _| .fla d _ _ _| .ixs d _ _| .ex d _ _| .exq d _ _| .ixa d _ _ _ _ _| .mf d _ _| .b2s d _| .i2s d _| .inl d _ _| .mpl d _| .mlk d _ _ _ _ _| .cl d _ _| .cr d _ _| .cq d _ _ _| .ap d _ _ _ _| .ca d _ _ _| .mk d _ _ _ _ _| .mn d _ _| .mx d _ _| .nc d _| .mi d _ _| .ta d _ _ _ _=>some d
 | .st _ _ _| .so _ _| .no=>none
 | .ce _ _ _| .cd _ _ _| .apm _ _ _ _ _| .mkm _ _ _ _ _ _| .bsn _ _ _| .bsm _ _ _| .rs _ _| .nx _ _| .s2b _ _| .aps _ _ _| .sla _ _ _ _ _| .bxT _ _ _ _| .mkp _| .mpe _ _ _ _ _| .mes _ _ _| .mup _ _ _ _| .clr _ _ _| .trm _ _ _ _=>none
 | .gd _ _ d o=>if dN o=some d then some d else none
def V3 (P:Program) (GL:List (Nat×List Value)) (N:Nat) (A E St':Oper) (p:PA):Bool:=
 A.guard.isNone&&E.guard.isNone&&St'.guard.isNone&&dM P GL N A (.ap p.d p.sz p.by_ (.s p.s) p.y)&&dM P GL N E (.ia p.te p.sz (.s p.d) p.tl)&&dM P GL N St' (.st p.sz (.s p.te) p.v)&&
 p.d !=p.te&&!(xs p.tl).contains p.d&&!(xs p.v).contains p.d&&!(xs p.v).contains p.te&&p.ad.all (fun o=>V2 o&&!(dz o).contains p.d&&!(dz o).contains p.te&&dN o !=some p.d&&dN o !=some p.te&&(dN o).all fun t=>!(xs p.v).contains t&&!(xs p.tl).contains t)
end Go.Ai
namespace Go.Ai
open Go.RowKit
variable {P:Program} {F:Fr} {S:aM} {gb:Gb} {σ:St} {a:Act} {w:World}
end Go.Ai
namespace Go.Ai
open Go.RowKit
variable {P:Program} {F:Fr} {S:aM} {gb:Gb} {σ:St} {a:Act} {w:World}

theorem an {N d:Nat} {dst:Option Tmp}:aJ N d dst=true↔dst=some d∧d<N:=by
 simp [aJ]

theorem fG (l:List UInt8):(ByteArray.mk l.toArray).toList=l:=by rw [ByteArray.toList_eq]

theorem ER {op:BinOp} {x y r:AV} {t:TypeId} {p q:Operand} {u v:Value} (h:P5 op x y=some r) (hx:PR S gb x u) (hy:PR S gb y v):
  ∃z,(do eqGuard op t p q u v;binOp op t u v:Sem Value).run P w= .ok z w∧PR S gb r z:=by
 unfold P5 at h;split at h
 ·rename_i k a k' b;simp only [PR] at hx hy;subst hx;subst hy;split at h<;>(try split at h)<;>simp only [cC,reduceCtorEq] at h<;>(try contradiction)<;>subst h
  ·rename_i e;subst e;exact ⟨_,by simp [binOp_add,Op.intArith];rfl,by simp [PR]⟩
  ·rename_i e;subst e;exact ⟨_,by simp [binOp_sub,Op.intArith];rfl,by simp [PR]⟩
  ·rename_i e;subst e;exact ⟨_,by simp [binOp_mul,Op.intArith];rfl,by simp [PR]⟩
  ·rename_i e;obtain ⟨rfl,e⟩:=e;exact ⟨_,by simp [eqGuard_quo,binOp_quo,Op.intDiv,e];rfl,by simp [PR]⟩
  ·rename_i e;obtain ⟨rfl,e⟩:=e;exact ⟨_,by simp [eqGuard_rem,binOp_rem,Op.intDiv,e];rfl,by simp [PR]⟩
  ·rename_i e;exact ⟨_,by simp [eqGuard_shl,binOp_shl,Op.shift,show ¬b<0 by omega];rfl,by simp [PR]⟩
  ·rename_i e;exact ⟨_,by simp [eqGuard_shr,binOp_shr,Op.shift,show ¬b<0 by omega];rfl,by simp [PR]⟩
  ·rename_i e;subst e;exact ⟨_,by simp [eqGuard_at_int,binOp_eql];rfl,by simp [PR]⟩
  ·rename_i e;subst e;exact ⟨_,by simp [eqGuard_at_int,binOp_neq];rfl,by simp [PR]⟩
  ·rename_i e;subst e;exact ⟨_,by simp [eqGuard_lss,binOp_lss];rfl,by simp [PR]⟩
  ·rename_i e;subst e;exact ⟨_,by simp [eqGuard_leq,binOp_leq];rfl,by simp [PR]⟩
  ·rename_i e;subst e;exact ⟨_,by simp [eqGuard_gtr,binOp_gtr];rfl,by simp [PR]⟩
  ·rename_i e;subst e;exact ⟨_,by simp [eqGuard_geq,binOp_geq];rfl,by simp [PR]⟩
  ·rename_i e;subst e;cases op<;>first|contradiction|exact ⟨_,by simp [eqGuard_and,eqGuard_or,eqGuard_xor,eqGuard_andNot,binOp_and,binOp_or,binOp_xor,binOp_andNot,intBits_and,intBits_or,intBits_xor,intBits_andNot];rfl,by simp [PR]⟩
 ·rename_i a b;simp only [PR] at hx hy;subst hx;subst hy;split at h<;>(try split at h)<;>simp only [cC,reduceCtorEq] at h<;>(try contradiction)<;>subst h
  ·rename_i e;refine ⟨.string ⟨(a++b).toArray⟩,?_,by simp [PR]⟩;have e1:(ByteArray.mk a.toArray++ByteArray.mk b.toArray)=ByteArray.mk (a++b).toArray:=by
    apply ByteArray.ext;simp
   have e2:(ByteArray.mk a.toArray).size=a.length:=rfl;have e3:(ByteArray.mk b.toArray).size=b.length:=rfl;simp [eqGuard_at_string,binOp,Op.stringOp,e1,e2,e3,show ¬(9223372036854775807<(a.length:Int)+(b.length:Int)) by omega]
  ·exact ⟨_,by simp [eqGuard_at_string,binOp,Op.stringOp,fG];rfl,by simp [PR]⟩
  ·exact ⟨_,by simp [eqGuard_at_string,binOp,Op.stringOp,fG];rfl,by simp [PR]⟩
  ·exact ⟨_,by simp [eqGuard_at_string,binOp,Op.stringOp,fG];rfl,by simp [PR]⟩
  ·exact ⟨_,by simp [eqGuard_at_string,binOp,Op.stringOp,fG];rfl,by simp [PR]⟩
  ·exact ⟨_,by simp [eqGuard_at_string,binOp,Op.stringOp,fG];rfl,by simp [PR]⟩
  ·exact ⟨_,by simp [eqGuard_at_string,binOp,Op.stringOp,fG];rfl,by simp [PR]⟩
 ·cases h

theorem wB {d:Nat} {k:FK} {x y:AV} {b:Bool} {t:TypeId} {u v:Value} (h:v8 k x y=some b) (hx:PR S gb x u) (hy:PR S gb y v)
  (hd:k= .b∧P.underlying t=some .bool∨k= .i∧(∃k,P.underlying t=some (.int k))∨k= .s∧P.underlying t=some .string):
  (Op.equalIn (d+1) t u v).run P w= .ok b w:=by
 unfold v8 at h;split at h
 ·split at h
  ·rename_i e;subst e;simp only [cC] at h;subst h;simp only [PR] at hx hy;subst hx;subst hy;rcases hd with ⟨h,_⟩|⟨_,_,hd⟩|⟨h,_⟩
   ·cases h
   ·exact run_equalIn_int (h:=hd) ..
   ·cases h
  ·cases h
 ·simp only [cC] at h;subst h;simp only [PR] at hx hy;subst hx;subst hy;rcases hd with ⟨_,hd⟩|⟨h,_,hd⟩|⟨h,_⟩
  ·exact run_equalIn_bool' (h:=hd) ..
  ·cases h
  ·cases h
 ·simp only [cC] at h;subst h;simp only [PR] at hx hy;subst hx;subst hy;rcases hd with ⟨h,hd⟩|⟨h,_,hd⟩|⟨_,hd⟩
  ·cases h
  ·cases h
  ·rw [run_equalIn_string (h:=hd),fG,fG]
 ·cases h

theorem kY {ks ls:List FK} {xs ys:List AV} {b:Bool} (h:bX (ks++ls) xs ys=some b):
  ∃b1 b2,bX ks (xs.take ks.length) (ys.take ks.length)=some b1∧bX ls (xs.drop ks.length) (ys.drop ks.length)=some b2∧b=(b1&&b2):=by
 induction ks generalizing xs ys b with
 |nil=>exact ⟨true,b,by simp [bX],by simpa using h,by simp⟩
 |cons k ks ih=>
  cases xs with
  |nil=>simp [bX] at h
  |cons x xs=>
   cases ys with
   |nil=>simp [bX] at h
   |cons y ys=>
    simp only [bH,bX] at h;split at h
    ·rename_i b0 b' e1 e2;simp only [cC] at h;obtain ⟨b1,b2,h1,h2,h3⟩:=ih e2;refine ⟨b0&&b1,b2,?_,by simpa using h2,?_⟩
     ·simp [bX,e1,h1]
     ·rw [←h,h3,Bool.and_assoc]
    ·cases h
theorem ew {ks:List FK} {xs ys:List AV} {b:Bool} (h:bX ks xs ys=some b):xs.length=ks.length∧ys.length=ks.length:=by
 induction ks generalizing xs ys b with
 |nil=>cases xs<;>cases ys<;>simp [bX] at h ⊢
 |cons k ks ih=>
  cases xs with
  |nil=>simp [bX] at h
  |cons x xs=>
   cases ys with
   |nil=>simp [bX] at h
   |cons y ys=>
    simp only [bX] at h;split at h
    ·rename_i e1 e2;have:=ih e2;simp [this.1,this.2]
    ·cases h

theorem rX {t o:Nat} {us:Array Value} {u:Value} (ht:ma P t=true) (hu:us[o]?=some u):(part t us o).run P w= .ok u w:=by
 simp [part,iU ht,hu]
theorem j4 {t o n:Nat} {us:Array Value} (ht:ji P t=true) (hn:kW P t=some n):(part t us o).run P w= .ok (.agg (us.extract o (o+n))) w:=by
 simp [part,kX ht,aS hn]

def dO (P:Program) (t:TypeId) (us:List Value):Value:=if ji P t=true then .agg us.toArray else us.headD undef

theorem nK {t o n:Nat} {us:List Value} (hn:kW P t=some n) (hl:o+n≤us.length) (h1:ji P t=true∨ma P t=true∧n=1):
  (part t us.toArray o).run P w= .ok (dO P t ((us.drop o).take n)) w:=by
 by_cases h:ji P t=true
 ·rw [j4 h hn];simp [dO,h,List.extract_eq_take_drop,Nat.add_sub_cancel_left]
 ·rcases h1 with h1|⟨h1,rfl⟩
  ·exact absurd h1 h
  ·have:o<us.length:=by omega
   rw [rX h1 (u:=us[o]) (by simp [this])];have e2:(us.drop o).take 1=[us[o]]:=by rw [oU this];rfl
   rw [e2];simp [dO,h]

theorem pd: ∀(d:Nat) (t:TypeId) (ks:List FK) (e:Nat),MG P d t=some ks→ ∀ {xs ys:List AV} {us vs:List Value} {b:Bool} (w:World),bX ks xs ys=some b→aa S gb xs us→aa S gb ys vs→
  (Op.equalIn (d+e) t (dO P t us) (dO P t vs)).run P w= .ok b w∧(ji P t=true∨ma P t=true∧ks.length=1)
 |0,t,ks,e,h,xs,ys,us,vs,b,w,_,_,_=>by simp [MG] at h
 |d+1,t,ks,e,h,xs,ys,us,vs,b,w,hc,hx,hy=>by
  have one: ∀k,ks=[k]→ji P t=false→(k= .b∧P.underlying t=some .bool∨k= .i∧(∃k,P.underlying t=some (.int k))∨k= .s∧P.underlying t=some .string)→(Op.equalIn (d+1+e) t (dO P t us) (dO P t vs)).run P w= .ok b w:=by
   rintro k rfl ha hk;obtain ⟨l1,l2⟩:=ew hc
   match xs,ys,l1,l2 with
   |[x],[y],_,_=>
    simp only [aa] at hx hy;obtain ⟨u,_,rfl,hx,rfl⟩:=hx;obtain ⟨v,_,rfl,hy,rfl⟩:=hy;simp only [bX] at hc;split at hc
    ·rename_i b1 b2 e1 e2;simp only [cC] at e2 hc;subst e2;simp at hc;subst hc;simp only [dO,ha];rw [show d+1+e=(d+e)+1 by omega];exact wB e1 hx hy hk
    ·cases hc
  unfold MG at h;split at h
  ·rename_i hu;simp only [cC] at h;subst h;exact ⟨one _ rfl (by simp [ji,hu]) (.inl ⟨rfl,hu⟩),.inr ⟨by simp [ma,hu],rfl⟩⟩
  ·rename_i k hu;simp only [cC] at h;subst h;exact ⟨one _ rfl (by simp [ji,hu]) (.inr (.inl ⟨rfl,k,hu⟩)),.inr ⟨by simp [ma,hu],rfl⟩⟩
  ·rename_i hu;simp only [cC] at h;subst h;exact ⟨one _ rfl (by simp [ji,hu]) (.inr (.inr ⟨rfl,hu⟩)),.inr ⟨by simp [ma,hu],rfl⟩⟩
  ·rename_i fs hu;split at h
   ·cases h
   ·rename_i hst;have ha:ji P t=true:=by simp [ji,hu]
    refine ⟨?_,.inl ha⟩;have hf:P.underlying t=some (.struct (P.fieldsOf t)):=by simp [Program.fieldsOf,hu]
    simp only [dO,ha,if_true];rw [show d+1+e=(d+e)+1 by omega,run_equalIn_struct w (d+e) t _ _ hf (by simpa using hst)];have hfs:P.fieldsOf t=fs:=by simp [Program.fieldsOf,hu]
    rw [hfs];have key: ∀(l:List Field) (o:Nat) (ks:List FK),GX P (MG P d) l o=some ks→ ∀(b:Bool),bX ks (xs.drop o) (ys.drop o)=some b→
      (Op.eqFields (d+e) us.toArray vs.toArray l).run P w= .ok b w:=by
     intro l;induction l with
     |nil=>
      intro o ks hk b hb;simp only [GX,cC] at hk;subst hk
      have:=ew hb
      rw [List.length_eq_zero_iff.1 this.1,List.length_eq_zero_iff.1 this.2] at hb;simp [bX] at hb;subst hb;simp [Op.eqFields]
     |cons f r ih=>
      intro o ks hk b hb;simp only [GX] at hk;split at hk
      ·rename_i hn;split at hk
       ·rename_i k1 k2 e1 e2;split at hk
        ·rename_i hsz;simp only [cC] at hk;subst hk;obtain ⟨b1,b2,c1,c2,rfl⟩:=kY hb;have hx':=(hx.drop o).take k1.length;have hy':=(hy.drop o).take k1.length;obtain ⟨g1,g2⟩:=pd d f.type k1 e e1 w c1 hx' hy';have lx:=ew hb;simp only [cG,uk,aa.length hx,aa.length hy] at lx;have g2':ji P f.type=true∨ma P f.type=true∧k1.length=1:=g2;by_cases hk0:k1.length=0
         ·
          have p1:(part f.type us.toArray o).run P w= .ok (dO P f.type ((us.drop o).take k1.length)) w:=by
           rcases g2' with g|⟨_,g⟩
           ·rw [j4 g hsz];simp [dO,g,List.extract_eq_take_drop,hk0]
           ·omega
          have p2:(part f.type vs.toArray o).run P w= .ok (dO P f.type ((vs.drop o).take k1.length)) w:=by
           rcases g2' with g|⟨_,g⟩
           ·rw [j4 g hsz];simp [dO,g,List.extract_eq_take_drop,hk0]
           ·omega
          have ih':=ih (o+k1.length) k2 (by rw [hsz] at e2;simpa using e2) b2 (by simpa [List.drop_drop] using c2);simp only [Op.eqFields,hn.1,ne_eq,not_false_eq_true,if_true,hn.2,Sem.run_bind,p1,p2,Result.andThen_ok,g1];cases b1<;>simp [ih']
         ·have p1:=nK (P:=P) (w:=w) (t:=f.type) (o:=o) (n:=k1.length) (us:=us) hsz (by omega) g2';have p2:=nK (P:=P) (w:=w) (t:=f.type) (o:=o) (n:=k1.length) (us:=vs) hsz (by omega) g2';have ih':=ih (o+k1.length) k2 (by rw [hsz] at e2;simpa using e2) b2 (by simpa [List.drop_drop] using c2);simp only [Op.eqFields,hn.1,ne_eq,not_false_eq_true,if_true,hn.2,Sem.run_bind,p1,p2,Result.andThen_ok,g1];cases b1<;>simp [ih']
        ·cases hk
       ·cases hk
      ·cases hk
    exact key fs.toList 0 ks h b (by simpa using hc)
  ·rename_i n el hu;split at h
   ·rename_i k hk;split at h
    ·rename_i hse;obtain ⟨hsc,hsz⟩:=hse;simp only [cC] at h;have ha:ji P t=true:=by simp [ji,hu]
     refine ⟨?_,.inl ha⟩;simp only [dO,ha,if_true];cases hi:P.info? el with
     |none=>simp [kW,hi] at hsz
     |some i=>
      have hce:P.cellsOf el=1:=by
       have:i.size=1:=by simpa [kW,hi] using hsz
       simp [Program.cellsOf,hi,this]
      rw [show d+1+e=(d+e)+1 by omega,run_equalIn_array w (d+e) us.toArray vs.toArray hu hi,hce];have key: ∀(m o:Nat) (b:Bool),bX (List.replicate m k) (xs.drop o) (ys.drop o)=some b→
        (Op.eqItems (d+e) el 1 us.toArray vs.toArray (List.range' o m)).run P w= .ok b w:=by
       intro m;induction m with
       |zero=>
        intro o b hb
        have:=ew hb
        rw [List.length_eq_zero_iff.1 this.1,List.length_eq_zero_iff.1 this.2] at hb;simp [bX] at hb;subst hb;simp [Op.eqItems]
       |succ m ih=>
        intro o b hb;have lx:=ew hb;simp only [List.length_replicate,uk,aa.length hx,aa.length hy] at lx;rw [List.replicate_succ,←List.singleton_append] at hb;obtain ⟨b1,b2,c1,c2,rfl⟩:=kY hb;have hx':=(hx.drop o).take 1;have hy':=(hy.drop o).take 1;obtain ⟨g1,_⟩:=pd d el [k] e hk w c1 hx' hy';have p1:=nK (P:=P) (w:=w) (t:=el) (o:=o) (n:=1) (us:=us) hsz (by omega) (.inr ⟨hsc,rfl⟩);have p2:=nK (P:=P) (w:=w) (t:=el) (o:=o) (n:=1) (us:=vs) hsz (by omega) (.inr ⟨hsc,rfl⟩);have ih':=ih (o+1) b2 (by simpa [List.drop_drop] using c2);simp only [List.range'_succ,Op.eqItems,Nat.mul_one,Sem.run_bind,p1,p2,Result.andThen_ok,g1];cases b1<;>simp [ih']
      have:=key n 0 b (by simpa [h] using hc)
      rw [List.range_eq_range'];exact this
    ·cases h
   ·cases h
  ·cases h
end Go.Ai
namespace Go.Ai
open Go.RowKit
variable {P:Program} {F:Fr} {S:aM} {gb:Gb} {σ:St} {a:Act} {w:World}

theorem dP {b o:Nat} {us:List Value} (h: ∀j u,us[j]?=some u→w.cell? ⟨b,o+j,none⟩=some u):(loadCells ⟨b,o,none⟩ us.length).run P w= .ok us.toArray w:=
 run_loadCells_list (P:=P) w ⟨b,o,none⟩ us (fun j u hu=>by rw [Addr.add_lit];exact h j u hu)

theorem aI.boxcell (h:aI F S gb σ a w) {d:Id} {g:Nat} {z:BZ} {cs:List AV} (hd:aw σ.bx d=some cs) (hi:d.isIt=false) (hg:gb d=some (g,z)):
  ∃us:List Value,(∀j u,us[j]?=some u→w.cell? ⟨g,j,none⟩=some u)∧aa S gb cs us∧(∀u∈us,u.oneCell'=true):=by
 obtain ⟨g',us,T,e1,e3,e0,e4,e5,_⟩:=h.hr.box d cs hd hi;rw [hg] at e1;cases e1;refine ⟨us.toList.take cs.length,fun j u hu=>?_,e4,fun u hu=>e5 u (A5 hu)⟩;rw [cell_of_row w g j us T _ e3];rw [pY] at hu;split at hu
 ·simpa using hu
 ·cases hu

theorem uZ {S:aM} {gb:Gb} {c:AV} {u:Value} (h:PR S fK c u):PR S gb c u:=PR.mono (aM.le.refl _) (Bb _) _ _ h
theorem mP {S:aM} {gb:Gb} {c:List AV} {u:List Value} (h:aa S fK c u):aa S gb c u:=aa.mono (aM.le.refl _) (Bb _) _ _ h

theorem kZ (h:aI F S gb σ a w) {x v:AV} {p:Value} {t:Nat} (ht:ma P t=true) (hl:fb σ.bx x=some v) (hx:PR S gb x p):
  ∃u,(Instr.loadAt t p).run P w= .ok u w∧PR S gb v u:=by
 unfold fb at hl;split at hl
 ·rename_i d off;split at hl
  ·rename_i cs hcs;simp only [PR] at hx;obtain ⟨g,z,hg,hi,rfl⟩:=hx;obtain ⟨us,h1,h2,_⟩:=h.boxcell hcs hi hg;obtain ⟨u,hu,hp⟩:=h2.get hl;exact ⟨u,by simp [Instr.loadAt,Instr.sureAddr,loadVar,iU ht,h1 off u hu],hp⟩
  ·cases hl
 ·rename_i cs;simp only [PR] at hx;obtain ⟨g,o,rfl,hc⟩:=hx;obtain ⟨u,h1,h0,h2⟩:=hc.get hl;have h1':=h.hr.agree _ _ _ h1;simp only [rI] at h1';exact ⟨u,by simp [Instr.loadAt,Instr.sureAddr,loadVar,iU ht,h1'],uZ h2⟩
 ·cases hl

theorem p5 (h:aI F S gb σ a w) {x v:AV} {p:Value} {t n:Nat} (ht:ji P t=true) (hn:kW P t=some n) (hl:uP σ.bx n x=some v) (hx:PR S gb x p):
  ∃u,(Instr.loadAt t p).run P w= .ok u w∧PR S gb v u:=by
 unfold uP at hl;split at hl
 ·rename_i d off;split at hl
  ·rename_i cs hcs;split at hl
   ·rename_i hle;simp only [cC] at hl;subst hl;simp only [PR] at hx;obtain ⟨g,z,hg,hi,rfl⟩:=hx;obtain ⟨us,h1,h2,h3⟩:=h.boxcell hcs hi hg;have h4:=(h2.drop off).take n;have hlen:((us.drop off).take n).length=n:=by have:=h2.length;simp;omega
    have hld:=dP (P:=P) (w:=w) (b:=g) (o:=off) (us:=(us.drop off).take n) (fun j u hu=>by
     rw [pY] at hu;split at hu
     ·rw [List.getElem?_drop] at hu;exact h1 _ _ hu
     ·cases hu)
    rw [hlen] at hld;refine ⟨.agg ((us.drop off).take n).toArray,by simp [Instr.loadAt,Instr.sureAddr,loadVar,kX ht,aS hn,hld],?_⟩;simp only [PR];exact ⟨_,rfl,fun u hu=>h3 u (List.mem_of_mem_drop (A5 (by simpa using hu))),by simpa using h4⟩
   ·cases hl
  ·cases hl
 ·rename_i cs;split at hl
  ·rename_i hle;simp only [cC] at hl;subst hl;simp only [PR] at hx;obtain ⟨g,o,rfl,hc⟩:=hx;obtain ⟨us,l1,l2,l3,l4⟩:=hc.list;have hlen:(us.take n).length=n:=by simp;omega
   have hld:=dP (P:=P) (w:=w) (b:=g) (o:=o) (us:=us.take n) (fun j u hu=>by
     rw [pY] at hu;split at hu
     ·exact h.hr.agree _ _ _ (l2 _ _ hu)
     ·cases hu)
   rw [hlen] at hld;refine ⟨.agg (us.take n).toArray,by simp [Instr.loadAt,Instr.sureAddr,loadVar,kX ht,aS hn,hld],?_⟩;simp only [PR];exact ⟨_,rfl,fun u hu=>l3 u (A5 (by simpa using hu)),by simpa using mP (l4.take n)⟩
  ·cases hl
 ·cases hl

theorem rY {v:AV} {cs:List AV} {u:Value} (h:v.cs=some cs) (hp:PR S gb v u):aa S gb cs u.cells.toList∧(∀c∈u.cells.toList,c.oneCell'=true):=by
 cases v<;>simp only [AV.cs,cC,reduceCtorEq] at h
 case agg cs'=>
  subst h;simp only [PR] at hp;obtain ⟨us,rfl,h1,h2⟩:=hp;exact ⟨h2,h1⟩
 all_goals subst h
 all_goals (have hp':=hp;simp only [PR] at hp)
 case int=>subst hp;exact ⟨⟨_,[],rfl,hp',rfl⟩,by simp [Value.cells,Value.oneCell']⟩
 case nilT=>obtain ⟨rfl,_⟩:=hp;exact ⟨⟨_,[],rfl,hp',rfl⟩,by simp [Value.cells,Value.oneCell']⟩
 case bool=>subst hp;exact ⟨⟨_,[],rfl,hp',rfl⟩,by simp [Value.cells,Value.oneCell']⟩
 case str=>subst hp;exact ⟨⟨_,[],rfl,hp',rfl⟩,by simp [Value.cells,Value.oneCell']⟩
 case nils=>subst hp;exact ⟨⟨_,[],rfl,hp',rfl⟩,by simp [Value.cells,Value.oneCell']⟩
 case nilp=>subst hp;exact ⟨⟨_,[],rfl,hp',rfl⟩,by simp [Value.cells,Value.oneCell']⟩
 case sl=>
  rcases hp with ⟨rfl,_⟩|⟨_,_,_,rfl,_⟩<;>exact ⟨⟨_,[],rfl,hp',rfl⟩,by simp [Value.cells,Value.oneCell']⟩
 case pin=>obtain ⟨_,_,rfl,_⟩:=hp;exact ⟨⟨_,[],rfl,hp',rfl⟩,by simp [Value.cells,Value.oneCell']⟩
 case ptr=>obtain ⟨_,_,_,_,rfl⟩:=hp;exact ⟨⟨_,[],rfl,hp',rfl⟩,by simp [Value.cells,Value.oneCell']⟩
 case mref=>obtain ⟨_,_,_,_,rfl⟩:=hp;exact ⟨⟨_,[],rfl,hp',rfl⟩,by simp [Value.cells,Value.oneCell']⟩
 case ms=>obtain ⟨_,_,_,_,_,rfl,_⟩:=hp;exact ⟨⟨_,[],rfl,hp',rfl⟩,by simp [Value.cells,Value.oneCell']⟩
 case fn=>obtain ⟨_,rfl,_⟩:=hp;exact ⟨⟨_,[],rfl,hp',rfl⟩,by simp [Value.cells,Value.oneCell']⟩
 case ifc=>obtain ⟨_,rfl,_⟩:=hp;exact ⟨⟨_,[],rfl,hp',rfl⟩,by simp [Value.cells,Value.oneCell']⟩
 case nili=>subst hp;exact ⟨⟨_,[],rfl,hp',rfl⟩,by simp [Value.cells,Value.oneCell']⟩
 case yv=>subst hp;exact ⟨⟨_,[],rfl,hp',rfl⟩,by simp [Value.cells,Value.oneCell']⟩

theorem yR (vs:List Value) (off:Nat): ∀(k:Nat) (cs:Array Value),off+k+vs.length≤cs.size→
  ((vs.zipIdx k).foldl (fun cs (x:Value×Nat)=>cs.setIfInBounds (off+x.2) x.1) cs).toList=cs.toList.take (off+k)++vs++cs.toList.drop (off+k+vs.length):=by
 induction vs with
 |nil=>intro k cs h;simp
 |cons v r ih=>
  intro k cs h;have h2:=ih (k+1) (cs.setIfInBounds (off+k) v) (by simp at h ⊢;omega);simp only [List.zipIdx_cons,List.foldl_cons];rw [h2];simp only [Array.toList_setIfInBounds,em];have hk:off+k<cs.toList.length:=by simp at h ⊢;omega
  have e4:(cs.toList.set (off+k) v).take (off+(k+1))=cs.toList.take (off+k)++[v]:=by
   rw [show off+(k+1)=off+k+1 by omega,Dg (by simpa using hk)];simp [List.take_set];exact List.set_eq_of_length_le (by simp;omega)
  have e5:(cs.toList.set (off+k) v).drop (off+(k+1)+r.length)=cs.toList.drop (off+k+(r.length+1)):=by
   rw [List.drop_set_of_lt (by omega)];congr 1
   omega
  rw [e4,e5];simp

theorem aa.fill {S:aM} {gb:Gb} {z cs:List AV} {zs us:List Value} {off:Nat} (hz:aa S gb z zs) (hc:aa S gb cs us):aa S gb (gh z off cs) (zs.take off++us++zs.drop (off+us.length)):=by
 unfold gh;rw [hc.length];exact ((hz.take off).append hc).append (hz.drop _)

theorem j5 (h:aI F S gb σ a w) (fs:List (Nat×Nat)): ∀ {ps:List (Nat×Nat×X)} {qs:List (Nat×Operand)},mO F.GL fs ps qs=true→ ∀ {z r:List AV} {zs:Array Value},jV σ ps z=some r→
  aa S gb z zs.toList→(∀u∈zs.toList,u.oneCell'=true)→
  ∃us,Instr.fill (fs[·]?) zs (qs.map fun x=>(x.1,a.eval x.2))=some us∧aa S gb r us.toList∧(∀u∈us.toList,u.oneCell'=true)
 |[],qs,hm,z,r,zs,hb,hz,h1=>by
  cases qs<;>simp [mO] at hm;simp [jV] at hb;subst hb;exact ⟨zs,by simp [Instr.fill],hz,h1⟩
 |(off,n,x)::ps,qs,hm,z,r,zs,hb,hz,h1=>by
  cases qs with
  |nil=>simp [mO] at hm
  |cons q qs=>
   obtain ⟨i,y⟩:=q;simp only [mO,aE,bP] at hm;obtain ⟨⟨hi,hx⟩,hm⟩:=hm;simp only [jV] at hb;split at hb
   ·rename_i cs hcs;split at hb
    ·rename_i hl;have hp:=aq h hx;obtain ⟨h2,h3⟩:=rY hcs hp;have hlen:(a.eval y).cells.size=n:=by rw [←oY,←h2.length];exact hl.1
     have hzl:z.length=zs.size:=by rw [hz.length];simp
     have hfold:=yR (a.eval y).cells.toList off 0 zs (by simp;omega);simp only [rI] at hfold;have hnew:aa S gb (gh z off cs) ((a.eval y).cells.toList.zipIdx.foldl (fun cs (x:Value×Nat)=>cs.setIfInBounds (off+x.2) x.1) zs).toList:=by
      rw [hfold];exact hz.fill h2
     have hone: ∀u∈((a.eval y).cells.toList.zipIdx.foldl (fun cs (x:Value×Nat)=>cs.setIfInBounds (off+x.2) x.1) zs).toList,u.oneCell'=true:=by
      rw [hfold];intro u hu;simp only [iB] at hu;rcases hu with (hu|hu)|hu
      ·exact h1 u (A5 hu)
      ·exact h3 u hu
      ·exact h1 u (List.mem_of_mem_drop hu)
     obtain ⟨us,g1,g2,g3⟩:=j5 h fs hm hb hnew hone;refine ⟨us,?_,g2,g3⟩;simp only [iP,Instr.fill,hi];rw [if_neg (by simp [hlen];omega),←Array.foldl_toList,Array.toList_zipIdx];exact g1
    ·cases hb
   ·cases hb
end Go.Ai
namespace Go.Ai
open Go.RowKit
variable {P:Program} {F:Fr} {S:aM} {gb:Gb} {σ:St} {a:Act} {w:World}

theorem qN {t f:Nat} {p:Nat×Nat} (h:(gJ P t)[f]?=some p): ∃fs fd,P.underlying t=some (.struct fs)∧fs[f]?=some fd∧p=(fd.offset,(kW P fd.type).getD 0):=by
 unfold gJ at h;split at h
 ·rename_i fs hu;rw [xP] at h;simp only [xZ,Array.getElem?_toList] at h;obtain ⟨fd,h1,h2⟩:=h;exact ⟨fs,fd,hu,h1,h2.symm⟩
 ·simp at h

theorem u7 {x:AV} {v:Value} {bx:List (Id×List AV)} {s:List UInt8} (hx:PR S gb x v) (hb:fR bx x=some s):v= .slice none 0 0∨ ∃ad n c,v= .slice (some ad) n c:=by
 unfold fR at hb;split at hb
 ·simp only [PR] at hx;exact .inl hx
 ·simp only [PR] at hx;rcases hx with ⟨hx,_⟩|⟨ad,c,k,hx,_⟩
  ·exact .inl hx
  ·exact .inr ⟨_,_,_,hx⟩
 ·simp only [PR] at hx;obtain ⟨g,z,cap,_,_,hx,_⟩:=hx;exact .inr ⟨_,_,_,hx⟩
 ·cases hb
theorem k7: ∀ {cs:List AV} {s:List UInt8} {us:List Value},byteCells cs=some s→aa S gb cs us→ ∃ns:List Int,us=ns.map (Value.int .u8)∧s=ns.map fun n=>UInt8.ofNat n.toNat
 |[],s,us,h,hp=>by
  simp [byteCells] at h;subst h;simp [aa] at hp;subst hp;exact ⟨[],rfl,rfl⟩
 |c::r,s,us,h,hp=>by
  unfold byteCells at h;split at h
  ·rename_i h0;cases h0
  ·rename_i n r' heq;cases heq;split at h
   ·rename_i s' hs';simp only [cC] at h;subst h;simp only [aa,PR] at hp;obtain ⟨u,us',rfl,rfl,hp'⟩:=hp;obtain ⟨ns,rfl,rfl⟩:=k7 hs' hp';exact ⟨n::ns,rfl,rfl⟩
   ·cases h
  ·cases h
theorem vc {p q:Nat→Option (Nat×Nat)} (hpq: ∀i x,p i=some x→q i=some x): ∀ {l:List (Nat×Value)} {z r:Array Value},Instr.fill p z l=some r→Instr.fill q z l=some r
 |[],z,r,h=>by simpa [Instr.fill] using h
 |(i,v)::l,z,r,h=>by
  simp only [Instr.fill] at h ⊢;cases hp:p i with
  |none=>rw [hp] at h;cases h
  |some x=>
   rw [hp] at h;rw [hpq i x hp];simp only at h ⊢;split at h
   ·cases h
   ·rename_i hc;rw [if_neg hc];exact vc hpq h
theorem k8: ∀ {rows:List (List AV)} {s:List UInt8},fe rows=some s→byteCells rows.flatten=some s∧ ∀r∈rows,r.length=1
 |[],s,h=>by simp [fe] at h;subst h;simp [byteCells]
 |r::rs,s,h=>by
  unfold fe at h;split at h
  ·rename_i h0;cases h0
  ·rename_i n r' heq;cases heq;split at h
   ·rename_i s' hs';simp only [cC] at h;subst h;obtain ⟨g1,g2⟩:=k8 hs';refine ⟨by simp [byteCells,g1],?_⟩;intro x hx;cases hx with
    |head=>rfl
    |tail _ hx=>exact g2 x hx
   ·cases h
  ·cases h
theorem Bk (ns:List Int): ∀(r:ByteArray),ns.foldl (fun r n=>r.push (UInt8.ofNat n.toNat)) r=⟨r.data++(ns.map fun n=>UInt8.ofNat n.toNat).toArray⟩:=by
 induction ns with
 |nil=>intro r;simp
 |cons n ns ih=>
  intro r;simp only [List.foldl_cons,ih];apply ByteArray.ext;simp [ByteArray.push]
theorem Bm {bx:List (Id×List AV)} {x:AV} {s:List UInt8} (h:fR [] x=some s):fR bx x=some s:=by
 cases x<;>simp_all [fR,aw]
theorem vd (h:aI F S gb σ a w) {x:AV} {v:Value} {s:List UInt8} (hx:PR S gb x v) (hb:fR σ.bx x=some s):(Conv.bytesToString v).run P w= .ok (.string ⟨s.toArray⟩) w:=by
 have nil:(Conv.bytesToString (.slice none 0 0)).run P w= .ok (.string .empty) w:=by simp [Conv.bytesToString]
 have go: ∀(g o n cap:Nat) (cs:List AV) (us:List Value),aa S gb cs us→us.length=n→byteCells cs=some s→(∀j u,us[j]?=some u→w.cell? ⟨g,o+j,none⟩=some u)→(Conv.bytesToString (.slice (some ⟨g,o,none⟩) n cap)).run P w= .ok (.string ⟨s.toArray⟩) w:=by
  intro g o n cap cs us hp hn hc hcell;obtain ⟨ns,rfl,rfl⟩:=k7 hc hp;have hl:=dP (P:=P) (w:=w) (b:=g) (o:=o) (us:=ns.map (Value.int .u8)) hcell;rw [hn] at hl;rw [run_bytesToString w ⟨g,o,none⟩ n cap ns hl,Bk,show ByteArray.empty.data= #[] from rfl,Array.empty_append]
 unfold fR at hb;split at hb
 ·simp only [PR] at hx;subst hx;simp only [cC] at hb;subst hb;exact nil
 ·rename_i rows;simp only [PR] at hx;rcases hx with ⟨rfl,rfl⟩|⟨ad,cap,k,rfl,_,hr⟩
  ·simp [fe] at hb;subst hb;exact nil
  ·by_cases h0:rows=[]
   ·subst h0;simp [fe] at hb;subst hb;obtain ⟨b,o,sp⟩:=ad
    have:(Conv.bytesToString (.slice (some ⟨b,o,sp⟩) 0 cap)).run P w= .ok (.string ⟨([]:List UInt8).toArray⟩) w:=by
     have:=run_bytesToString (P:=P) w ⟨b,o,sp⟩ 0 cap [] (by simp [loadCells,loadCellsFrom])
     rw [this];rfl
    exact this
   ·rcases hr with hr|⟨hsp,hr⟩
    ·exact absurd hr h0
    ·obtain ⟨hk,hc⟩:=aU.flat.1 hr;obtain ⟨us,l1,l2,l3,l4⟩:=hc.list;obtain ⟨b,o,sp⟩:=ad;simp only at hsp l2;subst hsp;obtain ⟨r1,r2⟩:=k8 hb;have hone:us.length=rows.length:=by rw [l1,a8 r2];simp
     exact go b o rows.length cap rows.flatten us (mP l4) hone r1 (fun j u hu=>h.hr.agree _ _ _ (l2 j u hu))
 ·rename_i d off n sz;split at hb
  ·rename_i cs hcs;split at hb
   ·rename_i hsz;obtain ⟨rfl,hle⟩:=hsz;simp only [PR] at hx;obtain ⟨g,z,cap,hg,hit,rfl,_⟩:=hx;obtain ⟨us,b1,b2,b3⟩:=h.boxcell hcs hit hg;have hlen:=b2.length;exact go g off n cap _ ((us.drop off).take n) ((b2.drop off).take n) (by simp;omega) hb (fun j u hu=>by
     rw [pY] at hu;split at hu
     ·rw [List.getElem?_drop] at hu;exact b1 _ _ hu
     ·cases hu)
   ·cases hb
  ·cases hb
 ·cases hb
theorem rZ (h:aI F S gb σ a w) {o:Oper} {ao:bz} (hm:dM P F.GL F.N o ao=true) {d:Nat} {v:AV} (he:ev σ ao=some (d,v)):
  o.dst=some d∧d<F.N∧ ∃u,(execOp a.eval o).run P w= .ok (.value u) w∧PR S gb v u:=by
 cases ao<;>simp only [ev,reduceCtorEq] at he
 case mv d' x=>
  simp only [cC,iQ] at he;obtain ⟨rfl,rfl⟩:=he;simp only [dM,aE,an] at hm;obtain ⟨⟨h1,h2⟩,hm⟩:=hm;refine ⟨h1,h2,?_⟩;split at hm<;>(try cases hm)
  all_goals
   rename_i y hop;exact ⟨a.eval y,by unfold execOp;simp only [hop];rfl,aq h hm⟩
 case pk d' c x y=>
  simp only [dM,aE,an] at hm;obtain ⟨⟨h1,h2⟩,hm⟩:=hm;split at hm<;>(try cases hm);rename_i c' x' y' hop;simp only [aE] at hm;have hc:=aq h hm.1.1;have hx:=aq h hm.1.2;have hy:=aq h hm.2;split at he
  ·rename_i t ht;rw [ht] at hc;simp only [PR] at hc;simp only [cC,iQ] at he;obtain ⟨rfl,rfl⟩:=he;refine ⟨h1,h2,if t=true then a.eval x' else a.eval y',by unfold execOp;simp only [hop];simp [hc,asBool],?_⟩;cases t
   ·exact hy
   ·exact hx
  ·cases he
 case bi d' op x y=>
  simp only [dM,aE,an] at hm;obtain ⟨⟨h1,h2⟩,hm⟩:=hm;split at hm<;>(try cases hm);rename_i op' t x' y' ty hop;simp only [aE,bP] at hm;have hx:=aq h hm.1.2;have hy:=aq h hm.2;obtain rfl:=hm.1.1;split at he
  ·rename_i r hr;simp only [cC,iQ] at he;obtain ⟨rfl,rfl⟩:=he;obtain ⟨z,hz,hp⟩:=ER (P:=P) (w:=w) (t:=t) (p:=x') (q:=y') hr hx hy;refine ⟨h1,h2,z,?_,hp⟩;unfold execOp;simp only [hop,Sem.run_bind] at hz ⊢;rw [hz];rfl
  ·cases he
 case bb d' neg x y=>
  simp only [dM,aE,an] at hm;obtain ⟨⟨h1,h2⟩,hm⟩:=hm;split at hm<;>(try cases hm);rename_i op' t x' y' ty hop;simp only [aE,bP] at hm;have hx:=aq h hm.1.2;have hy:=aq h hm.2;obtain ⟨⟨⟨hop',hu⟩,_⟩,_⟩:=hm;have hu':P.underlying t=some .bool:=by split at hu<;>simp_all
  split at he
  ·rename_i b c hb hc;simp only [cC,iQ] at he;obtain ⟨rfl,rfl⟩:=he;rw [hb] at hx;rw [hc] at hy;simp only [PR] at hx hy;refine ⟨h1,h2,.bool (if neg=true then b !=c else b==c),?_,by simp [PR]⟩;unfold execOp;simp only [hop,hx,hy,eqGuard_at_bool];cases neg
   ·simp [hop',binOp,Op.equal,Op.maxDepth,run_equalIn_bool' (h:=hu')]
   ·simp [hop',binOp,Op.equal,Op.maxDepth,run_equalIn_bool' (h:=hu'),bne]
  ·cases he
 case ea d' neg ks x y=>
  simp only [dM,aE,an] at hm;obtain ⟨⟨h1,h2⟩,hm⟩:=hm;split at hm<;>(try cases hm);rename_i op' t x' y' ty hop;simp only [aE,bP,yG] at hm;have hx:=aq h hm.1.2;have hy:=aq h hm.2;obtain ⟨⟨⟨⟨⟨hop',hk⟩,ha⟩,hg⟩,_⟩,_⟩:=hm;split at he
  ·rename_i xs ys hb hc;split at he
   ·rename_i b hcs;simp only [cC,iQ] at he;obtain ⟨rfl,rfl⟩:=he;rw [hb] at hx;rw [hc] at hy;simp only [PR] at hx hy;obtain ⟨us,hx1,_,hx2⟩:=hx;obtain ⟨vs,hy1,_,hy2⟩:=hy;obtain ⟨g1,_⟩:=pd (P:=P) 4 t ks 9996 hk w hcs hx2 hy2;simp only [dO,ha,if_true,Array.toArray_toList] at g1;refine ⟨h1,h2,.bool (if neg=true then !b else b),?_,by simp [PR]⟩;unfold execOp;simp only [hop,hx1,hy1,Sem.run_bind,run_eqGuard_agg (hm:=hg),Result.andThen_ok];cases neg
    ·simp only [hop',uj,if_false,run_eql_struct,g1,Result.andThen_ok,Sem.run_pure]
    ·simp only [hop',if_true,run_neq_struct,g1,Result.andThen_ok,Sem.run_pure]
   ·cases he
  ·cases he
 case pn d' neg x=>
  simp only [dM,aE,an] at hm;obtain ⟨⟨h1,h2⟩,hm⟩:=hm;split at hm<;>(try cases hm);rename_i op' t x' ty hop;simp only [aE,bP] at hm;have hx:=aq h hm.2;obtain ⟨e,hu⟩: ∃e,P.underlying t=some (.pointer e):=by
   have:=hm.1.2
   split at this<;>simp_all
  have hu':P.underlying t=some (.pointer (P.pointee t)):=by rw [hu];simp [Program.pointee,hu]
  have hop':=hm.1.1;have run: ∀p:Option Addr,a.eval x'= .pointer p→(execOp a.eval o).run P w= .ok (.value (.bool (if neg=true then !p.isNone else p.isNone))) w:=by
   intro p hp;have ec:a.eval (.const (.pointer none))= .pointer none:=rfl;unfold execOp;cases neg
   ·simp only [uj,if_false] at hop' ⊢;subst hop';simp [hop,hp,ec,eqGuard_at_pointer,run_eql_pointer_nil w t p hu']
   ·simp only [if_true] at hop' ⊢;subst hop';simp [hop,hp,ec,eqGuard_at_pointer,run_neq_pointer_nil w t p hu']
  split at he
  ·rename_i b bo hb;simp only [cC,iQ] at he;obtain ⟨rfl,rfl⟩:=he;rw [hb] at hx;simp only [PR] at hx;obtain ⟨g,z,_,_,hx⟩:=hx;exact ⟨h1,h2,_,run _ hx,by cases neg<;>simp [PR]⟩
  ·rename_i cs hb;simp only [cC,iQ] at he;obtain ⟨rfl,rfl⟩:=he;rw [hb] at hx;simp only [PR] at hx;obtain ⟨g,z,hx,_⟩:=hx;exact ⟨h1,h2,_,run _ hx,by cases neg<;>simp [PR]⟩
  ·rename_i hb;simp only [cC,iQ] at he;obtain ⟨rfl,rfl⟩:=he;rw [hb] at hx;simp only [PR] at hx;exact ⟨h1,h2,_,run _ hx,by cases neg<;>simp [PR]⟩
  ·cases he
 case un d' op x=>
  simp only [dM,aE,an] at hm;obtain ⟨⟨h1,h2⟩,hm⟩:=hm;split at hm<;>(try cases hm);rename_i op' t x' hop;simp only [aE,bP] at hm;have hx:=aq h hm.2;obtain rfl:=hm.1;split at he
  ·rename_i b hb;simp only [cC,iQ] at he;obtain ⟨rfl,rfl⟩:=he;rw [hb] at hx;simp only [PR] at hx;exact ⟨h1,h2,.bool (!b),by unfold execOp;simp [hop,hx,Op.unary],by simp [PR]⟩
  ·rename_i k n hb;simp only [cC,iQ] at he;obtain ⟨rfl,rfl⟩:=he;rw [hb] at hx;simp only [PR] at hx;exact ⟨h1,h2,.int k (k.wrap (0 - n)),by unfold execOp;simp [hop,hx,Op.unary,Op.intArith],by simp [PR]⟩
  ·cases he
 case cv d' k x=>
  simp only [dM,aE,an] at hm;obtain ⟨⟨h1,h2⟩,hm⟩:=hm;split at hm<;>(try cases hm);rename_i s t x' hop;simp only [aE] at hm;have hx:=aq h hm.2;obtain ⟨⟨hs,ht⟩,_⟩:=hm;have ht':P.underlying t=some (.int k):=by split at ht<;>simp_all
  split at he
  ·rename_i k0 n hb;simp only [cC,iQ] at he;obtain ⟨rfl,rfl⟩:=he;rw [hb] at hx;simp only [PR] at hx;obtain ⟨ds,hds⟩:=iT.1 hs;exact ⟨h1,h2,.int k (k.wrap n),by unfold execOp;simp [hop,hx,convert,run_underlying hds,run_underlying ht',Conv.intToInt],by simp [PR]⟩
  ·cases he
 case ln d' x=>
  simp only [dM,aE,an] at hm;obtain ⟨⟨h1,h2⟩,hm⟩:=hm;split at hm<;>(try cases hm);rename_i as ts hop;split at hm<;>(try cases hm);rename_i x' t has hts;simp only [aE] at hm;have hx:=aq h hm.2;obtain ⟨e,ht'⟩: ∃e,P.underlying t=some (.slice e):=by
   have:=hm.1
   split at this<;>simp_all
  have has':as= #[x']:=by cases as;simp_all
  have hts':ts= #[t]:=by cases ts;simp_all
  subst has';subst hts';split at he<;>simp only [cC,iQ,reduceCtorEq] at he<;>obtain ⟨rfl,rfl⟩:=he
  ·rename_i rows hb;rw [hb] at hx;simp only [PR] at hx;refine ⟨h1,h2,.int .i64 rows.length,?_,by simp [PR]⟩;unfold execOp;rcases hx with ⟨hx,hr⟩|⟨_,cap,k,hx,_⟩
   ·simp [hop,resolve,invoke,builtin,hx,Builtin.len_,run_underlying ht',goInt,hr]
   ·simp [hop,resolve,invoke,builtin,hx,Builtin.len_,run_underlying ht',goInt]
  ·rename_i hb;rw [hb] at hx;simp only [PR] at hx;exact ⟨h1,h2,.int .i64 0,by unfold execOp;simp [hop,resolve,invoke,builtin,hx,Builtin.len_,run_underlying ht',goInt],by simp [PR]⟩
  ·rename_i _ n _ hb;rw [hb] at hx;simp only [PR] at hx;obtain ⟨g,_,_,_,_,hx,_⟩:=hx;exact ⟨h1,h2,.int .i64 n,by unfold execOp;simp [hop,resolve,invoke,builtin,hx,Builtin.len_,run_underlying ht',goInt],by simp [PR]⟩
 case lns d' x=>
  simp only [dM,aE,an] at hm;obtain ⟨⟨h1,h2⟩,hm⟩:=hm;split at hm<;>(try cases hm);rename_i as ts hop;split at hm<;>(try cases hm);rename_i x' t has hts;simp only [aE] at hm;have hx:=aq h hm.2;have ht':P.underlying t=some .string:=by
   have:=hm.1
   split at this<;>simp_all
  have has':as= #[x']:=by cases as;simp_all
  have hts':ts= #[t]:=by cases ts;simp_all
  subst has';subst hts';split at he
  ·rename_i s hb;simp only [cC,iQ] at he;obtain ⟨rfl,rfl⟩:=he;rw [hb] at hx;simp only [PR] at hx;have e2:(ByteArray.mk s.toArray).size=s.length:=rfl;exact ⟨h1,h2,.int .i64 s.length,by unfold execOp;simp [hop,resolve,invoke,builtin,hx,Builtin.len_,run_underlying ht',goInt,e2],by simp [PR]⟩
  ·cases he
 case fa d' x off=>
  simp only [dM,aE,an] at hm;obtain ⟨⟨h1,h2⟩,hm⟩:=hm;split at hm<;>(try cases hm);rename_i t x' f hop;simp only [aE] at hm;have hx:=aq h hm.2;obtain ⟨hf,_⟩:=hm;split at hf<;>(try cases hf);rename_i o' n hfa;simp only [aE,bP,yG,cI,ne_eq] at hf;obtain ⟨fs,fd,hu,hfd,hp⟩:=qN hfa;simp only [iQ] at hp;obtain ⟨rfl,hn⟩:=hp;obtain ⟨rfl,hn0⟩:=hf;have hsz:kW P fd.type=some n:=by
   cases hq:kW P fd.type with
   |none=>simp [hq] at hn;exact absurd hn hn0
   |some m=>simp [hq] at hn;simp [hn]
  split at he<;>simp only [cC,iQ,reduceCtorEq] at he<;>obtain ⟨rfl,rfl⟩:=he
  ·rename_i b o hb;rw [hb] at hx;simp only [PR] at hx;obtain ⟨g,z,hg,hit,hx⟩:=hx;refine ⟨h1,h2,.pointer (some ⟨g,o+fd.offset,none⟩),?_,by simp only [PR];exact ⟨g,z,hg,hit,rfl⟩⟩;unfold execOp;simp [hop,hx,Instr.fieldAt,run_underlying hu,hfd,Instr.sureAddr,fieldPlace,aS hsz,hn0,Addr.add_lit]
  ·rename_i cs hb;rw [hb] at hx;simp only [PR] at hx;obtain ⟨g,o,hx,hc⟩:=hx;refine ⟨h1,h2,.pointer (some ⟨g,o+fd.offset,none⟩),?_,by simp only [PR];exact ⟨g,_,rfl,hc.drop _⟩⟩;unfold execOp;simp [hop,hx,Instr.fieldAt,run_underlying hu,hfd,Instr.sureAddr,fieldPlace,aS hsz,hn0,Addr.add_lit]
 case ia d' sz x i=>
  simp only [dM,aE,an] at hm;obtain ⟨⟨h1,h2⟩,hm⟩:=hm;split at hm<;>(try cases hm);rename_i t x' i' hop;simp only [aE] at hm;have hx:=aq h hm.1.2;have hi:=aq h hm.2;obtain ⟨e,hu,hsz⟩: ∃e,P.underlying t=some (.slice e)∧kW P e=some sz:=by
   have:=hm.1.1
   split at this<;>simp_all
  split at he
  ·rename_i rows k n hb hc;rw [hb] at hx;rw [hc] at hi;simp only [PR] at hx hi;split at he
   ·rename_i hn;split at he
    ·rename_i row hrow;split at he
     ·rename_i hl;simp only [cC,iQ] at he;obtain ⟨rfl,rfl⟩:=he;obtain ⟨hlt,_⟩:=qI.1 hrow;rcases hx with ⟨hx,hr⟩|⟨ad,cap,k',hx,_,hr⟩
      ·subst hr;simp at hrow
      ·rcases hr with hr|⟨hsp,hr⟩
       ·subst hr;simp at hrow
       ·obtain ⟨g1,g2⟩:=hr.get hrow;have hk:k'=sz:=by rw [←g1,hl]
        subst hk;obtain ⟨bk,of,sp⟩:=ad;simp only at hsp g2;subst hsp;refine ⟨h1,h2,.pointer (some ⟨bk,of+n.toNat*k',none⟩),?_,by simp only [PR];exact ⟨_,_,rfl,g2⟩⟩;unfold execOp;have hb2:0≤n∧n<(rows.length:Int):=by omega
        simp [hop,hx,hi,Instr.indexAt,asIntOf,run_underlying hu,aS hsz,hb2,Addr.add_lit]
     ·cases he
    ·cases he
   ·cases he
  ·rename_i b bo n k kk i0 hb hc;rw [hb] at hx;rw [hc] at hi;simp only [PR] at hx hi;split at he
   ·rename_i hn;simp only [cC,iQ] at he;obtain ⟨rfl,rfl⟩:=he;obtain ⟨g,z,cap,hg,hit,hx,_,_,_⟩:=hx;refine ⟨h1,h2,.pointer (some ⟨g,bo+i0.toNat*sz,none⟩),?_,by simp only [PR];exact ⟨g,z,hg,hit,rfl⟩⟩;unfold execOp;have hb2:0≤i0∧i0<(n:Int):=⟨hn.1,hn.2.1⟩;simp [hop,hx,hi,Instr.indexAt,asIntOf,run_underlying hu,aS hsz,hb2,Addr.add_lit]
   ·cases he
  ·cases he
 case iaa d' sz n x i=>
  simp only [dM,aE,an] at hm;obtain ⟨⟨h1,h2⟩,hm⟩:=hm;split at hm<;>(try cases hm);rename_i t x' i' hop;simp only [aE] at hm;have hx:=aq h hm.1.2;have hi:=aq h hm.2;obtain ⟨e,hu,hsz⟩: ∃e,P.underlying t=some (.array n e)∧kW P e=some sz:=by
   have:=hm.1.1
   split at this<;>simp_all
  split at he
  ·rename_i b o kk i0 hb hc;rw [hb] at hx;rw [hc] at hi;simp only [PR] at hx hi;split at he
   ·rename_i hn;simp only [cC,iQ] at he;obtain ⟨rfl,rfl⟩:=he;obtain ⟨g,z,hg,hit,hx⟩:=hx;refine ⟨h1,h2,.pointer (some ⟨g,o+i0.toNat*sz,none⟩),?_,by simp only [PR];exact ⟨g,z,hg,hit,rfl⟩⟩;unfold execOp;simp [hop,hx,hi,Instr.indexAt,asIntOf,run_underlying hu,aS hsz,hn,Instr.sureAddr,Addr.add_lit]
   ·cases he
  ·rename_i cs kk i0 hb hc;rw [hb] at hx;rw [hc] at hi;simp only [PR] at hx hi;split at he
   ·rename_i hn;simp only [cC,iQ] at he;obtain ⟨rfl,rfl⟩:=he;obtain ⟨g,o,hx,hcs⟩:=hx;refine ⟨h1,h2,.pointer (some ⟨g,o+i0.toNat*sz,none⟩),?_,by simp only [PR];exact ⟨g,_,rfl,hcs.drop _⟩⟩;unfold execOp;simp [hop,hx,hi,Instr.indexAt,asIntOf,run_underlying hu,aS hsz,hn,Instr.sureAddr,Addr.add_lit]
   ·cases he
  ·cases he
 case lds d' x=>
  simp only [dM,aE,an] at hm;obtain ⟨⟨h1,h2⟩,hm⟩:=hm;split at hm<;>(try cases hm);rename_i t x' hop;simp only [aE] at hm;have hx:=aq h hm.2;split at he
  ·rename_i v' hl;simp only [cC,iQ] at he;obtain ⟨rfl,rfl⟩:=he;obtain ⟨u,hu,hp⟩:=kZ h hm.1 hl hx;exact ⟨h1,h2,u,by unfold execOp;simp [hop,hu],hp⟩
  ·cases he
 case ldf d' x=>
  simp only [dM,aE,an] at hm;obtain ⟨⟨h1,h2⟩,hm⟩:=hm;split at hm<;>(try cases hm);rename_i t x' hop;simp only [aE] at hm;have hx:=aq h hm.2;split at he
  ·rename_i v' hl;simp only [cC,iQ] at he;obtain ⟨rfl,rfl⟩:=he;obtain ⟨u,hu,hp⟩:=kZ h hm.1 hl hx;exact ⟨h1,h2,u,by unfold execOp;simp [hop,hu],hp⟩
  ·cases he
 case lda d' n x=>
  simp only [dM,aE,an] at hm;obtain ⟨⟨h1,h2⟩,hm⟩:=hm;split at hm<;>(try cases hm);rename_i t x' hop;simp only [aE,bP] at hm;have hx:=aq h hm.2;split at he
  ·rename_i v' hl;simp only [cC,iQ] at he;obtain ⟨rfl,rfl⟩:=he;obtain ⟨u,hu,hp⟩:=p5 h hm.1.1 hm.1.2 hl hx;exact ⟨h1,h2,u,by unfold execOp;simp [hop,hu],hp⟩
  ·cases he
 case bd d' z ps=>
  simp only [dM,aE,an] at hm;obtain ⟨⟨h1,h2⟩,hm⟩:=hm;split at hm<;>(try cases hm);rename_i t ps' hop;simp only [aE] at hm;obtain ⟨hz,hb⟩:=hm;split at hz<;>(try cases hz);rename_i inf hinf;split at hz<;>(try cases hz);rename_i z' hz';simp only [aE] at hz;split at he
  ·rename_i cs hcs;simp only [cC,iQ] at he;obtain ⟨rfl,rfl⟩:=he;split at hb
   ·rename_i fs hu;simp only [aE] at hb;obtain ⟨hfs,hb⟩:=hb;obtain ⟨us,g1,g2,g3⟩:=j5 h (gJ P t) hb hcs (zs:=z') (ep _ _ hz.2) (fun u hu=>gE.1 hz.1 u hu);refine ⟨h1,h2,.agg us,?_,by simp only [PR];exact ⟨us,rfl,g3,g2⟩⟩;have hpl: ∀(l:List Field) (acc:Array (Nat×Nat)),(l.all fun f=>(kW P f.type).isSome)=true→
      (l.foldlM (fun (bs:Array (Nat×Nat)) (f:Field)=>(Functor.map bs.push (do pure (f.offset,←sizeOf f.type):Sem (Nat×Nat)):Sem (Array (Nat×Nat)))) acc).run P w= .ok (acc++(l.map fun f=>(f.offset,(kW P f.type).getD 0)).toArray) w:=by
     intro l;induction l with
     |nil=>intro acc _;simp
     |cons f r ih=>
      intro acc hall;simp only [List.all_cons,aE] at hall;obtain ⟨n,hn⟩:=iT.1 hall.1;simp only [List.foldlM_cons,Sem.run_bind,Sem.run_map,aS hn,Result.andThen_ok,Sem.run_pure];rw [ih _ hall.2];simp [hn]
    have hmap:(fs.mapM fun (f:Field)=>(do pure (f.offset,←sizeOf f.type):Sem (Nat×Nat))).run P w= .ok (gJ P t).toArray w:=by
     rw [Array.mapM_eq_foldlM,←Array.foldlM_toList];rw [hpl fs.toList #[] hfs];simp [gJ,hu]
    have hfill:Instr.fill (fun x=>(gJ P t).toArray[x]?) z' (Array.map (fun x=>(x.1,a.eval x.2)) ps').toList=some us:=by
     simpa using g1
    unfold execOp;simp only [hop,Instr.build,Sem.run_bind,zeroValue,typeInfo,run_program,Result.andThen_ok,hinf,Sem.run_pure,hz',Value.cells,run_underlying hu];rw [hmap];simp only [Result.andThen_ok];simp only [hfill,Sem.run_pure,Result.andThen_ok]
   ·rename_i n e hu;split at hb
    ·rename_i sz hsz;obtain ⟨us,g1,g2,g3⟩:=j5 h _ hb hcs (zs:=z') (ep _ _ hz.2) (fun u hu=>gE.1 hz.1 u hu);refine ⟨h1,h2,.agg us,?_,by simp only [PR];exact ⟨us,rfl,g3,g2⟩⟩;have hfill:Instr.fill (fun i=>some (i*sz,sz)) z' (Array.map (fun x=>(x.1,a.eval x.2)) ps').toList=some us:=by
      refine vc (fun i p hp=>?_) (by simpa using g1);simp only [xP,xZ] at hp;obtain ⟨k,hk,rfl⟩:=hp;obtain ⟨hk1,hk2⟩:=qI.1 hk;simp only [List.getElem_range] at hk2;rw [hk2]
     unfold execOp;simp only [hop,Instr.build,Sem.run_bind,zeroValue,typeInfo,run_program,Result.andThen_ok,hinf,Sem.run_pure,hz',Value.cells,run_underlying hu,aS hsz];simp only [hfill,Sem.run_pure,Result.andThen_ok]
    ·cases hb
   ·cases hb
  ·cases he
 case fls d' off x=>simp [dM] at hm
 case fla d' off n x=>simp [dM] at hm
 case ixs d' x i=>
  simp only [dM,aE,an] at hm;obtain ⟨⟨h1,h2⟩,hm⟩:=hm;split at hm<;>(try cases hm);rename_i t x' i' hop;simp only [aE] at hm;have hx:=aq h hm.1.2;have hi:=aq h hm.2;have hu:P.underlying t=some .string:=by
   have:=hm.1.1
   split at this<;>simp_all
  split at he
  ·rename_i s k n hb hc;rw [hb] at hx;rw [hc] at hi;simp only [PR] at hx hi;split at he
   ·rename_i hn;split at he
    ·rename_i b hsb;simp only [cC,iQ] at he;obtain ⟨rfl,rfl⟩:=he;have e1:(ByteArray.mk s.toArray)[n.toNat]?=some b:=by
      obtain ⟨hlt,hb2⟩:=qI.1 hsb;have e2:n.toNat<(ByteArray.mk s.toArray).size:=hlt;exact (getElem?_pos (ByteArray.mk s.toArray) n.toNat e2).trans (by rw [←hb2];rfl)
     exact ⟨h1,h2,.int .u8 b.toNat,by unfold execOp;simp [hop,hx,hi,Instr.index,asIntOf,run_underlying hu,hn,e1],by simp [PR]⟩
    ·cases he
   ·cases he
  ·cases he
 case exq d' x i=>
  simp only [dM,aE,an] at hm;obtain ⟨⟨h1,h2⟩,hm⟩:=hm;split at hm<;>(try cases hm);rename_i x' i' hop;simp only [aE,bP] at hm;have hx:=aq h hm.2;obtain rfl:=hm.1;split at he
  ·rename_i vs hb;rw [hb] at hx;simp only [PR] at hx;obtain ⟨us,hx,hl⟩:=hx;split at he
   ·rename_i v' hv;simp only [cC,iQ] at he;obtain ⟨rfl,rfl⟩:=he;obtain ⟨u,hu1,hp⟩:=hl.get hv;simp only [Array.getElem?_toList] at hu1;exact ⟨h1,h2,u,by unfold execOp;simp [hop,hx,Instr.extract,hu1],hp⟩
   ·cases he
  ·cases he
 case ixa d' sz n agg x i=>
  simp only [dM,aE,an] at hm;obtain ⟨⟨h1,h2⟩,hm⟩:=hm;split at hm<;>(try cases hm);rename_i t x' i' hop;simp only [aE] at hm;have hx:=aq h hm.1.2;have hi:=aq h hm.2;obtain ⟨⟨hu,_⟩,_⟩:=hm;split at hu<;>(try cases hu);rename_i m e hu0;simp only [aE,bP] at hu;obtain ⟨⟨rfl,hsz⟩,hag⟩:=hu;split at he
  ·rename_i cs k j hb hc;rw [hb] at hx;rw [hc] at hi;simp only [PR] at hx hi;obtain ⟨us,hx,h0,hl⟩:=hx;split at he
   ·rename_i hn;obtain ⟨n0,n1,n2⟩:=hn;split at he
    ·rename_i hagg;rw [if_pos hagg] at hag;simp only [cC,iQ] at he;obtain ⟨rfl,rfl⟩:=he;refine ⟨h1,h2,.agg (us.extract (j.toNat*sz) (j.toNat*sz+sz)),by unfold execOp;simp [hop,hx,hi,Instr.index,asIntOf,run_underlying hu0,n0,n1,aS hsz,j4 hag hsz],?_⟩;simp only [PR];have e:(us.extract (j.toNat*sz) (j.toNat*sz+sz)).toList=(us.toList.drop (j.toNat*sz)).take sz:=by simp [List.extract_eq_take_drop]
     refine ⟨_,rfl,?_,?_⟩
     ·rw [e];exact fun u hu=>h0 u (List.mem_of_mem_drop (A5 hu))
     ·rw [e];exact (hl.drop _).take _
    ·rename_i hagg;rw [if_neg hagg] at hag;split at he
     ·rename_i v' hv;simp only [cC,iQ] at he;obtain ⟨rfl,rfl⟩:=he;obtain ⟨u,hu1,hp⟩:=hl.get hv;exact ⟨h1,h2,u,by unfold execOp;simp [hop,hx,hi,Instr.index,asIntOf,run_underlying hu0,n0,n1,aS hsz,rX hag (us:=us) (u:=u) (by simpa using hu1)],hp⟩
     ·cases he
   ·cases he
  ·cases he
 case mf d' f xs=>
  simp only [dM,aE,an] at hm;obtain ⟨⟨h1,h2⟩,hm⟩:=hm;split at hm<;>(try cases hm);rename_i f' first cap hop
  simp only [aE,bP] at hm;obtain ⟨⟨rfl,hf⟩,hxs⟩:=hm;simp only [cC,iQ] at he;obtain ⟨rfl,rfl⟩:=he;have hl:=dy h hxs;have hf0:first= #[]:=Array.eq_empty_of_size_eq_zero hf
  refine ⟨h1,h2,.func (.func f) #[] (cap.map a.eval),by unfold execOp;simp [hop,Instr.makeFunc,hf0],?_⟩;simp only [PR];exact ⟨_,rfl,by simpa using hl⟩
 case bq d' x=>
  simp only [dM,aE,an] at hm;obtain ⟨⟨h1,h2⟩,hm⟩:=hm;split at hm<;>(try cases hm);rename_i s t x' hop;simp only [aE] at hm;obtain ⟨⟨hs,ht⟩,hx⟩:=hm;have hx:=aq h hx;have ht':P.underlying t=some .string:=by split at ht<;>simp_all
  obtain ⟨e,hs',he',hsz⟩: ∃e,P.underlying s=some (.slice e)∧P.underlying e=some (.int .u8)∧kW P e=some 1:=by
   split at hs<;>(try cases hs);rename_i e hse;split at hs<;>(try cases hs);rename_i hue;exact ⟨e,hse,hue,by simpa using hs⟩
  split at he
  ·rename_i str hb;have hb:=Bm (bx:=σ.bx) hb;simp only [cC,iQ] at he;obtain ⟨rfl,rfl⟩:=he;refine ⟨h1,h2,.string ⟨str.toArray⟩,?_,by simp [PR]⟩;unfold execOp;simp only [hop]
   have:=vd (P:=P) h hx hb
   have hr:(convert s t (a.eval x')).run P w=(Conv.bytesToString (a.eval x')).run P w:=by
    rcases u7 hx hb with hn|⟨ad,n,c,hn⟩
    ·rw [hn];simp [convert,run_underlying hs',run_underlying ht',run_underlying he']
    ·rw [hn];simp [convert,run_underlying hs',run_underlying ht',run_underlying he']
   simp only [Sem.run_bind,hr,this,Result.andThen_ok,Sem.run_pure]
  ·cases he
 case i2s d' x=>
  simp only [dM,aE,an] at hm;obtain ⟨⟨h1,h2⟩,hm⟩:=hm;split at hm<;>(try cases hm);rename_i s t x' hop;simp only [aE] at hm;have hx:=aq h hm.2;obtain ⟨⟨hs,ht⟩,_⟩:=hm;have ht':P.underlying t=some .string:=by split at ht<;>simp_all
  split at he
  ·rename_i k0 n hb;simp only [cC,iQ] at he;obtain ⟨rfl,rfl⟩:=he;rw [hb] at hx;simp only [PR] at hx;obtain ⟨ds,hds⟩:=iT.1 hs;exact ⟨h1,h2,.string (Utf8.encode n),by unfold execOp;simp [hop,hx,convert,run_underlying hds,run_underlying ht',Conv.intToString],by simp [PR]⟩
  ·cases he
 case inl d' neg x=>
  simp only [dM,aE,an] at hm;obtain ⟨⟨h1,h2⟩,hm⟩:=hm;split at hm<;>(try cases hm);rename_i op' t x' ty hop;simp only [aE,bP] at hm;have hx:=aq h hm.2;obtain ⟨ms,hu⟩: ∃ms,P.underlying t=some (.interface ms):=by
   have:=hm.1.2
   split at this<;>simp_all
  have hu':P.underlying t=some (.interface (P.methodsAt t)):=by rw [hu];simp [Program.methodsAt,hu]
  have hop':=hm.1.1;have ec:a.eval (.const .nilIface)= .nilIface:=rfl;split at he
  ·rename_i hb;simp only [cC,iQ] at he;obtain ⟨rfl,rfl⟩:=he;rw [hb] at hx;simp only [PR] at hx;refine ⟨h1,h2,.bool (!neg),?_,by simp [PR]⟩;unfold execOp;cases neg
   ·simp only [uj,if_false] at hop';subst hop';simp [hop,hx,ec,eqGuard,run_eql_nil_nil w t hu']
   ·simp only [if_true] at hop';subst hop';simp [hop,hx,ec,eqGuard,run_neq_nil_nil w t hu']
  ·rename_i T u hb;simp only [cC,iQ] at he;obtain ⟨rfl,rfl⟩:=he;rw [hb] at hx;simp only [PR] at hx;obtain ⟨u',hx,_⟩:=hx;refine ⟨h1,h2,.bool neg,?_,by simp [PR]⟩;unfold execOp;cases neg
   ·simp only [uj,if_false] at hop';subst hop';simp [hop,hx,ec,eqGuard,run_eql_held_nil w t _ _ hu']
   ·simp only [if_true] at hop';subst hop';simp [hop,hx,ec,eqGuard,run_neq_held_nil w t _ _ hu']
  ·cases he
 case b2s d' x=>
  simp only [dM,aE,an] at hm;obtain ⟨⟨h1,h2⟩,hm⟩:=hm;split at hm<;>(try cases hm);rename_i s t x' hop;simp only [aE] at hm;obtain ⟨⟨hs,ht⟩,hx⟩:=hm;have hx:=aq h hx;have ht':P.underlying t=some .string:=by split at ht<;>simp_all
  obtain ⟨e,hs',he',hsz⟩: ∃e,P.underlying s=some (.slice e)∧P.underlying e=some (.int .u8)∧kW P e=some 1:=by
   split at hs<;>(try cases hs);rename_i e hse;split at hs<;>(try cases hs);rename_i hue;exact ⟨e,hse,hue,by simpa using hs⟩
  split at he
  ·rename_i str hb;simp only [cC,iQ] at he;obtain ⟨rfl,rfl⟩:=he;refine ⟨h1,h2,.string ⟨str.toArray⟩,?_,by simp [PR]⟩;unfold execOp;simp only [hop]
   have:=vd (P:=P) h hx hb
   have hr:(convert s t (a.eval x')).run P w=(Conv.bytesToString (a.eval x')).run P w:=by
    rcases u7 hx hb with hn|⟨ad,n,c,hn⟩
    ·rw [hn];simp [convert,run_underlying hs',run_underlying ht',run_underlying he']
    ·rw [hn];simp [convert,run_underlying hs',run_underlying ht',run_underlying he']
   simp only [Sem.run_bind,hr,this,Result.andThen_ok,Sem.run_pure]
  ·cases he
 case mpl d' x=>simp [dM] at hm
 case mlk d' q z m k ok=>simp [dM] at hm
 case mn d' x y=>
  simp only [dM,aE,an] at hm;obtain ⟨⟨h1,h2⟩,hm⟩:=hm;split at hm<;>(try cases hm);rename_i as ts hop;split at hm<;>(try cases hm);rename_i x' y' has;simp only [aE] at hm;have hx:=aq h hm.1;have hy:=aq h hm.2;have has':as= #[x',y']:=by cases as;simp_all
  subst has';split at he
  ·rename_i k n k' n' hb hc;simp only [cC,iQ] at he;obtain ⟨rfl,rfl⟩:=he;rw [hb] at hx;rw [hc] at hy;simp only [PR] at hx hy;exact ⟨h1,h2,_,by unfold execOp;simp [hop,resolve,invoke,builtin,hx,hy,Builtin.min_,Builtin.min2];rfl,by simp [PR]⟩
  ·cases he
 case mx d' x y=>simp [dM] at hm
 case nc d' x=>
  simp only [dM,aE,an] at hm;obtain ⟨⟨h1,h2⟩,hm⟩:=hm;split at hm<;>(try cases hm);rename_i x' hop;have hx:=aq h hm;split at he
  ·rename_i b o hb;simp only [cC,iQ] at he;obtain ⟨rfl,rfl⟩:=he;rw [hb] at hx;have hx':=hx;simp only [PR] at hx;obtain ⟨g,z,hg,hit,hx⟩:=hx;exact ⟨h1,h2,a.eval x',by unfold execOp;simp [hop,hx],hx'⟩
  ·rename_i cs hb;simp only [cC,iQ] at he;obtain ⟨rfl,rfl⟩:=he;rw [hb] at hx;have hx':=hx;simp only [PR] at hx;obtain ⟨g,o,hx,_⟩:=hx;exact ⟨h1,h2,a.eval x',by unfold execOp;simp [hop,hx],hx'⟩
  ·cases he
 case mi d' T x=>
  simp only [dM,aE,an] at hm;obtain ⟨⟨h1,h2⟩,hm⟩:=hm;split at hm<;>(try cases hm);rename_i t x' hop;simp only [aE,bP] at hm;obtain ⟨⟨rfl,hc⟩,hm⟩:=hm;have hx:=aq h hm;simp only [cC,iQ] at he;obtain ⟨rfl,rfl⟩:=he;refine ⟨h1,h2,.iface t (a.eval x'),?_,?_⟩
  ·unfold J1 at hc;cases hu:P.underlying t with
   |none=>rw [hu] at hc;cases hc
   |some u=>
    rw [hu] at hc;unfold execOp;cases u<;>first|(simp [hop,Instr.makeInterface,run_underlying hu];done)|cases hc
  ·simp only [PR];exact ⟨_,rfl,hx⟩
 case ta d' T z x ok=>
  simp only [dM,aE,an] at hm;obtain ⟨⟨h1,h2⟩,hm⟩:=hm;split at hm<;>(try cases hm);rename_i x' xt t ok' hop;simp only [aE,bP] at hm;obtain ⟨⟨⟨⟨rfl,hc⟩,hz⟩,rfl⟩,hm⟩:=hm;have hx:=aq h hm;obtain ⟨zv,hz1,hz2⟩:=EQ (S:=S) (gb:=gb) (w:=w) hz;unfold J1 at hc;cases hu:P.underlying t with
  |none=>rw [hu] at hc;cases hc
  |some u=>
   rw [hu] at hc;split at he
   ·rename_i t' v hb;rw [hb] at hx;simp only [PR] at hx;obtain ⟨uv,hx,hp⟩:=hx;by_cases ht:t'=t
    ·subst ht;rw [if_pos rfl] at he;simp only [cC,iQ] at he;obtain ⟨rfl,rfl⟩:=he;refine ⟨h1,h2,if ok=true then .tuple #[uv,.bool true] else uv,?_,?_⟩
     ·unfold execOp;cases u<;>first|(cases ok<;>simp [hop,Instr.typeAssert,run_underlying hu,hx];done)|cases hc
     ·cases ok
      ·exact hp
      ·simp only [if_true,PR,aa];exact ⟨_,rfl,_,_,rfl,hp,_,_,rfl,rfl,rfl⟩
    ·rw [if_neg ht] at he;cases ok with
     |false=>simp at he
     |true=>
      simp only [if_true,cC,iQ] at he;obtain ⟨rfl,rfl⟩:=he;refine ⟨h1,h2,.tuple #[zv,.bool false],?_,?_⟩
      ·unfold execOp;cases u<;>first|(simp [hop,Instr.typeAssert,run_underlying hu,hx,ht,hz1,Result.andThen];done)|cases hc
      ·simp only [PR,aa];exact ⟨_,rfl,_,_,rfl,hz2,_,_,rfl,rfl,rfl⟩
   ·rename_i hb;rw [hb] at hx;simp only [PR] at hx;cases ok with
    |false=>simp at he
    |true=>
     simp only [if_true,cC,iQ] at he;obtain ⟨rfl,rfl⟩:=he;refine ⟨h1,h2,.tuple #[zv,.bool false],?_,?_⟩
     ·unfold execOp;cases u<;>first|(simp [hop,Instr.typeAssert,run_underlying hu,hx,hz1,Result.andThen];done)|cases hc
     ·simp only [PR,aa];exact ⟨_,rfl,_,_,rfl,hz2,_,_,rfl,rfl,rfl⟩
   ·cases he
end Go.Ai
namespace Go.Ai
open Go.RowKit
variable {P:Program} {F:Fr} {S:aM} {gb:Gb} {σ:St} {a:Act} {w:World}

theorem aI.fresh (h:aI F S gb σ a w) {g o:Nat} (hg:w.heap.size≤g):S g o=none:=by
 cases hs:S g o with
 |none=>rfl
 |some v=>
  have:=h.hr.agree _ _ _ hs
  have:=World.block_lt_of_cell? w _ this
  simp only at this;omega

def pg (S:aM) (g:Nat) (l:List Value):aM:=fun g' o=>if g'=g then l[o]? else S g' o

theorem aI.plvlt (h:aI F S gb σ a w) {p:Pl} {k b:Nat} (hk:aD σ.pm p=some k) (hb:(cf gb (tv a) w p).ownBlock=some b):b<w.heap.size:=(h.hr.own p k hk).lt hb
theorem aI.gblt (h:aI F S gb σ a w) {d:Id} {g:Nat} {z:BZ} (hd:(aw σ.bx d).isSome) (hg:gb d=some (g,z)):g<w.heap.size:=h.hr.gblt hd hg
theorem aI.plv_same (h:aI F S gb σ a w) {w':World} (hb: ∀d g z,(aw σ.bx d).isSome→gb d=some (g,z)→w'.heap[g]?=w.heap[g]?) {p:Pl} {k:Nat} (hk:aD σ.pm p=some k):cf gb (tv a) w' p=cf gb (tv a) w p:=by
 cases p with
 |s t=>rfl
 |t t i=>rfl
 |b d off=>
  simp only [cf];cases hg:gb d with
  |none=>rfl
  |some x=>
   obtain ⟨g,z⟩:=x;simp only [];rw [World.cell?_of_block (w:=w) (hb d g z (h.hr.pmb d off k hk).1 hg)]

theorem aI.newRow (h:aI F S gb σ a w) (cur:Array Value) (T:TypeId) (l:List Value) (hl: ∀(j:Nat) (u:Value),l[j]?=some u→cur[j]?=some u):
  aI F (pg S w.heap.size l) gb σ a (w.alloc (.cells cur T)):=by
 refine h.step ((Below.refl _ _).alloc (eI _) _) (fun g o hg=>by simp [pg,Nat.ne_of_lt hg]) (fun g o v hs=>?_) (fun g o v hs=>?_)
 ·have:g≠w.heap.size:=by intro e;subst e;rw [h.fresh (eI _)] at hs;cases hs
  simp [pg,this,hs]
 ·simp only [pg] at hs;split at hs
  ·rename_i e;subst e;rw [World.cell?_alloc_new];exact hl _ _ hs
  ·rename_i e;have hlt:g<w.heap.size:=by have:=World.block_lt_of_cell? w _ (h.hr.agree _ _ _ hs);simpa using this
   rw [World.cell?_alloc_lt]
   ·exact h.hr.agree _ _ _ hs
   ·exact hlt

theorem aI.newOwn (h:aI F S gb σ a w) {d:Nat} (hd:d<F.N) (cur:Array Value) (T:TypeId) {rows:List (List AV)} {us:List Value} {k cap:Nat} (hkb:k<KB) (hr: ∀r∈rows,r.length=k)
  (hu:aa S fK rows.flatten us) (h1: ∀u∈us,u.oneCell'=true) (hc:cur.toList.take us.length=us) (hs:cap*k≤cur.size) (hcap:rows.length≤cap) (hm:cap≤maxLen):
  ∃S',aI F S' gb (σ.puto d (.sl rows) k) (a.put (some d) (.slice (some ⟨w.heap.size,0,none⟩) rows.length cap)) (w.alloc (.cells cur T)):=by
 have hlen:us.length=rows.length*k:=by rw [←hu.length,a8 hr]
 have hl: ∀(j:Nat) (u:Value),us[j]?=some u→cur[j]?=some u:=by
  intro j u hj;rw [←hc,pY] at hj;split at hj
  ·simpa using hj
  ·cases hj
 have h2:=h.newRow cur T us hl;have hle:S.le (pg S w.heap.size us):=fun g o v hs=>by
  have:g≠w.heap.size:=by intro e;subst e;rw [h.fresh (eI _)] at hs;cases hs
  simp [pg,this,hs]
 refine ⟨_,h2.puto hd ?_ ?_ ?_ ?_ ?_⟩
 ·simp only [PR];refine .inr ⟨_,cap,k,rfl,hcap,.inr ⟨rfl,?_⟩⟩;rw [aU.flat];exact ⟨hr,aG.of_list (aa.mono hle (Gb.le.refl _) _ _ hu) h1 (fun j u hj=>by simpa [pg] using hj)⟩
 ·refine .inr (.inl ⟨hkb,w.heap.size,rows.length,cap,cur,T,rfl,heap_alloc_new w _,hcap,hm,hs,fun o ho=>?_⟩);simp only [pg,if_true];exact EG (by omega)
 ·intro g hg;simp only [Value.ownBlock,cC] at hg;subst hg;exact .inl h.bw.size
 ·intro p l b hl' hne hb hb2;simp only [Value.ownBlock,cC] at hb2;subst hb2;rw [h.plv_same (w':=w.alloc (.cells cur T)) (fun d g z hd hg=>Below.heap_alloc _ _ _ (h.gblt hd hg)) hl'] at hb
  have:=h.plvlt hl' hb
  omega
 ·intro b d' z hb hd' hg;simp only [Value.ownBlock,cC] at hb;subst hb
  have:=h.gblt hd' hg
  omega

def fh (gb:Gb) (d:Id) (g:Nat) (z:BZ):Gb:=fun d'=>if d'=d then some (g,z) else gb d'

def Pd (S:aM) (gb:Gb) (d:Id) (cs:List AV) (z:BZ) (o:Obj):Prop:=
 (d.isIt=false→ ∃us T,z=⟨us.size,T⟩∧o= .cells us T (0,0)∧cs.length≤us.size∧aa S gb cs (us.toList.take cs.length)∧ ∀u∈us.toList,u.oneCell'=true)∧
 (d.isIt=true→GI cs=some o)

theorem aI.newBoxT (h:aI F S gb σ a w) {d:Nat} (hd:d<F.N) {i:Id} (hiu:i.isUp=false) (hn:aw σ.bx i=none) {cs:List AV} {z:BZ} {o:Obj} (ho:Pd S (fh gb i w.heap.size z) i cs z o) {v:AV} {u:Value} (hv:PR S (fh gb i w.heap.size z) v u):
    aI F S (fh gb i w.heap.size z) ⟨(d,v)::σ.e,(i,cs)::σ.bx,gU σ.pm d⟩ (a.put (some d) u) (w.alloc o):=by
  have hgd:gb i=none:=by
    cases hg:gb i with
    |none=>rfl
    | some g => rcases h.dom i (by rw [hg]; simp) with h1 | h1
                · rw [hn] at h1;cases h1
                · rw [hiu] at h1;cases h1
  have hle:gb.le (fh gb i w.heap.size z):=fun d' g hg=>by
    simp only [fh]
    split
    · rename_i e;subst e;rw [hgd] at hg;cases hg
    · exact hg
  have h2:aI F S gb σ a (w.alloc o):=h.step ((Below.refl _ _).alloc (eI _) _) (fun _ _ _=>rfl) (aM.le.refl _) (fun g o' v hs=>by
    have h3:=h.hr.agree _ _ _ hs
    rw [World.cell?_alloc_lt]
    · exact h3
    · exact World.block_lt_of_cell? w _ h3)
  have hne: ∀d',(aw σ.bx d').isSome→d'≠i:=fun d' hd' e=>by subst e;rw [hn] at hd';cases hd'
  have h3:aI F S (fh gb i w.heap.size z) ⟨σ.e,(i,cs)::σ.bx,σ.pm⟩ a (w.alloc o):=by
    have hpl: ∀p k,aD σ.pm p=some k→cf (fh gb i w.heap.size z) (tv a) (w.alloc o) p=cf gb (tv a) (w.alloc o) p:=by
      intro p k hk
      cases p with
      |s t=>rfl
      |t t j=>rfl
      |b d' off=>simp only [cf,fh,if_neg (hne d' (h.hr.pmb d' off k hk).1)]
    refine ⟨h2.defers,h2.size,h2.bw,h2.ext,h2.le,fun t=>PR.mono (aM.le.refl _) hle _ _ (h2.env t),⟨h2.hr.agree,?_,?_,?_,?_,?_,?_,?_⟩,?_,?_,?_,?_,h2.glo⟩
    · intro d' cs' hcs' hit
      simp only [aw] at hcs'
      split at hcs'
      · rename_i e;subst e;cases hcs'
        obtain ⟨us,T,rfl,rfl,e0,e4,e5⟩:=ho.1 hit
        exact ⟨w.heap.size,us,T,by simp [fh],heap_alloc_new w _,e0,e4,e5,fun o=>h.fresh (eI _)⟩
      · obtain ⟨g,us',T',e1,e3,e0,e4,e5,e6⟩:=h2.hr.box d' cs' hcs' hit
        exact ⟨g,us',T',hle _ _ e1,e3,e0,aa.mono (aM.le.refl _) hle _ _ e4,e5,e6⟩
    · intro d' cs' hcs' hit
      simp only [aw] at hcs'
      split at hcs'
      · rename_i e;subst e;cases hcs'
        exact ⟨w.heap.size,z,_,by simp [fh],ho.2 hit,heap_alloc_new w _,fun o=>h.fresh (eI _)⟩
      · obtain ⟨g,z',ob,e1,e2,e3,e6⟩:=h2.hr.its d' cs' hcs' hit
        exact ⟨g,z',ob,hle _ _ e1,e2,e3,e6⟩
    · intro d1 d2 g z1 z2 i1 i2 g1 g2
      simp only [aw] at i1 i2
      simp only [fh] at g1 g2
      split at g1
      · rename_i e1;cases g1
        split at g2
        · rename_i e2;rw [e1,e2]
        · rename_i e2
          rw [if_neg (fun e=>e2 e.symm)] at i2
          have:=h.gblt i2 g2;omega
      · rename_i e1
        rw [if_neg (fun e=>e1 e.symm)] at i1
        split at g2
        · cases g2;have:=h.gblt i1 g1;omega
        · rename_i e2
          rw [if_neg (fun e=>e2 e.symm)] at i2
          exact h.hr.inj d1 d2 g z1 z2 i1 i2 g1 g2
    · intro p k hk;rw [hpl p k hk];exact h2.hr.own p k hk
    · intro p q k l b hk hl g1 g2
      rw [hpl p k hk] at g1
      rw [hpl q l hl] at g2
      exact h2.hr.ownd p q k l b hk hl g1 g2
    · intro p k b d' z' hk g1 hd'
      rw [hpl p k hk] at g1
      simp only [fh]
      simp only [aw] at hd'
      split
      · intro e;cases e
        rw [h.plv_same (w':=w.alloc o) (fun d g z hd hg=>Below.heap_alloc _ _ _ (h.gblt hd hg)) hk] at g1
        have:=h.plvlt hk g1
        omega
      · rename_i e2
        rw [if_neg (fun e=>e2 e.symm)] at hd'
        exact h2.hr.ownb p k b d' z' hk g1 hd'
    · intro d' off k hk
      obtain ⟨q1,q2⟩:=h2.hr.pmb d' off k hk
      refine ⟨?_,q2⟩
      simp only [aw]
      split
      · rfl
      · exact q1
    · intro d' g z' hd' hg
      simp only [aw] at hd'
      simp only [fh] at hg
      split at hg
      · cases hg;exact .inl h.bw.size
      · rename_i e2
        rw [if_neg (fun e=>e2 e.symm)] at hd'
        exact h2.newb d' g z' hd' hg
    · intro p k g hk hg
      rw [hpl p k hk] at hg
      exact h2.newo p k g hk hg
    · intro d' hd'
      simp only [fh] at hd'
      simp only [aw]
      split
      · exact .inl rfl
      · rename_i e2
        rw [if_neg (fun e=>e2 e.symm)] at hd'
        exact h2.dom d' hd'
    · intro d'
      have:Id.up d'≠i:=fun e=>by rw [←e] at hiu;cases hiu
      simp only [fh,if_neg this]
      exact h2.up d'
  exact h3.put hd hv

theorem aI.newBox (h:aI F S gb σ a w) {d:Nat} (hd:d<F.N) {i:Id} (hiu:i.isUp=false) (hn:aw σ.bx i=none) {cs:List AV} {z:BZ} {o:Obj} (ho:Pd S gb i cs z o) {v:AV} {u:Value} (hv:PR S (fh gb i w.heap.size z) v u):
    aI F S (fh gb i w.heap.size z) ⟨(d,v)::σ.e,(i,cs)::σ.bx,gU σ.pm d⟩ (a.put (some d) u) (w.alloc o):=by
  have hgd:gb i=none:=by
    cases hg:gb i with
    |none=>rfl
    | some g => rcases h.dom i (by rw [hg]; simp) with h1 | h1
                · rw [hn] at h1;cases h1
                · rw [hiu] at h1;cases h1
  have hle:gb.le (fh gb i w.heap.size z):=fun d' g hg=>by
    simp only [fh]
    split
    · rename_i e;subst e;rw [hgd] at hg;cases hg
    · exact hg
  refine h.newBoxT hd hiu hn ⟨fun hi=>?_,ho.2⟩ hv
  obtain ⟨us,T,e1,e2,e3,e4,e5⟩:=ho.1 hi
  exact ⟨us,T,e1,e2,e3,aa.mono (aM.le.refl _) hle _ _ e4,e5⟩
theorem aI.off (h:aI F S gb σ a w) {g:Nat} (hg:F.w0.heap.size≤g∨F.M g) (hb: ∀d z,(aw σ.bx d).isSome→gb d≠some (g,z)) (hp: ∀p k,aD σ.pm p=some k→(cf gb (tv a) w p).ownBlock≠some g)
  {w':World} {S':aM} (hw: ∀k,k≠g→w'.heap[k]?=w.heap[k]?) (hsz:w'.heap.size=w.heap.size) (hos:w'.os=w.os) (htp:w'.tape=w.tape) (hou:w'.output=w.output)
  (hle:S.le S') (hof: ∀g' o,g'≠g→S' g' o=S g' o) (hag: ∀g o v,S' g o=some v→w'.cell? ⟨g,o,none⟩=some v):aI F S' gb σ a w':=by
 have hpl: ∀p k,aD σ.pm p=some k→cf gb (tv a) w' p=cf gb (tv a) w p:=fun p k hk=>h.plv_same (fun d q z hd hq=>hw q (fun e=>hb d z hd (by rw [hq,e]))) hk
 refine ⟨h.defers,h.size,?_,?_,h.le.trans hle,fun t=>PR.mono hle (Gb.le.refl _) _ _ (h.env t),⟨hag,?_,?_,h.hr.inj,?_,?_,?_,h.hr.pmb⟩,h.newb,?_,h.dom,h.up,h.glo⟩
 ·refine ⟨hos.trans h.bw.os,htp.trans h.bw.tape,hou.trans h.bw.output,by rw [hsz];exact h.bw.size,fun k hk hm=>?_⟩;rw [hw k (fun e=>by subst e;rcases hg with hg|hg;omega;exact hm hg)];exact h.bw.block k hk hm
 ·intro g' o hg' hm;rw [hof g' o (fun e=>by subst e;rcases hg with hg|hg;omega;exact hm hg)];exact h.ext g' o hg' hm
 ·intro d cs hcs hi;obtain ⟨q,us,T,e1,e3,e0,e4,e5,e6⟩:=h.hr.box d cs hcs hi;have hne:q≠g:=fun e=>hb d _ (by simp [hcs]) (by rw [e1,e])
  exact ⟨q,us,T,e1,by rw [hw q hne];exact e3,e0,aa.mono hle (Gb.le.refl _) _ _ e4,e5,fun o=>by rw [hof q o hne];exact e6 o⟩
 ·intro d cs hcs hi;obtain ⟨q,z,ob,e1,e2,e3,e6⟩:=h.hr.its d cs hcs hi;have hne:q≠g:=fun e=>hb d z (by simp [hcs]) (by rw [e1,e])
  exact ⟨q,z,ob,e1,e2,by rw [hw q hne];exact e3,fun o=>by rw [hof q o hne];exact e6 o⟩
 ·intro p k hk;rw [hpl p k hk];refine (h.hr.own p k hk).mono (fun q hq=>hw q (fun e=>hp p k hk (by rw [hq,e]))) (fun q o hq hn=>?_);rw [hof q o (fun e=>hp p k hk (by rw [hq,e]))];exact hn
 ·intro p q k l b hk hl h1 h2;rw [hpl p k hk] at h1;rw [hpl q l hl] at h2;exact h.hr.ownd p q k l b hk hl h1 h2
 ·intro p k b d z hk h1;rw [hpl p k hk] at h1;exact h.hr.ownb p k b d z hk h1
 ·intro p k q hk hq;rw [hpl p k hk] at hq;exact h.newo p k q hk hq

theorem nL {l:List (Id×List AV)} {d:Id} {cs:List AV} (d':Id) (h:(aw l d).isSome):aw (Gn l d cs) d'=if d'=d then some cs else aw l d':=by
 induction l with
 |nil=>simp [aw] at h
 |cons x r ih=>
  obtain ⟨k,v⟩:=x;simp only [Gn,aw] at h ⊢;split
  ·rename_i e;subst e;simp only [aw];split
   ·rename_i e;rw [if_pos e.symm]
   ·rename_i e;rw [if_neg (fun e'=>e e'.symm)]
  ·rename_i e;rw [if_neg e] at h;simp only [aw];split
   ·rename_i e2;subst e2;rw [if_neg e]
   ·exact ih h
theorem de {l:List (Id×List AV)} {d:Id} {cs:List AV} {d':Id} (h:(aw l d).isSome):(aw (Gn l d cs) d').isSome=(aw l d').isSome:=by
 rw [nL d' h];split
 ·rename_i e;subst e;rw [h];rfl
 ·rfl

theorem aI.setObj (h:aI F S gb σ a w) {d:Id} {g:Nat} {z:BZ} (hd:(aw σ.bx d).isSome) (hg:gb d=some (g,z)) (hS: ∀o,S g o=none)
  {w':World} (hw: ∀k,k≠g→w'.heap[k]?=w.heap[k]?) (hsz:w'.heap.size=w.heap.size) (hos:w'.os=w.os) (htp:w'.tape=w.tape) (hou:w'.output=w.output)
  {cs':List AV} (hb:d.isIt=false→ ∃us T,z=⟨us.size,T⟩∧w'.heap[g]?=some (.cells us T (0,0))∧cs'.length≤us.size∧aa S gb cs' (us.toList.take cs'.length)∧ ∀u∈us.toList,u.oneCell'=true)
  (hi:d.isIt=true→ ∃ob,GI cs'=some ob∧w'.heap[g]?=some ob) {pm:List (Pl×Nat)} (hpm: ∀p k,aD pm p=some k→aD σ.pm p=some k)
  (hsame: ∀off k,aD pm (.b d off)=some k→w'.cell? ⟨g,off,none⟩=w.cell? ⟨g,off,none⟩):aI F S gb ⟨σ.e,Gn σ.bx d cs',pm⟩ a w':=by
 have hnew:=h.newb d g z hd hg;have hpl: ∀p k,aD pm p=some k→cf gb (tv a) w' p=cf gb (tv a) w p:=by
  intro p k hk;cases p with
  |s t=>rfl
  |t t i=>rfl
  |b d' off=>
   simp only [cf];cases hq:gb d' with
   |none=>rfl
   |some x=>
    obtain ⟨q,z'⟩:=x;simp only [];by_cases e:q=g
    ·subst e
     have:=h.hr.inj d' d q z' z (h.hr.pmb d' off k (hpm _ k hk)).1 hd hq hg
     subst this;rw [hsame off k hk]
    ·rw [World.cell?_of_block (w:=w) (hw q e)]
 refine ⟨h.defers,h.size,?_,h.ext,h.le,h.env,⟨?_,?_,?_,?_,?_,?_,?_,?_⟩,?_,?_,?_,h.up,h.glo⟩
 ·refine ⟨hos.trans h.bw.os,htp.trans h.bw.tape,hou.trans h.bw.output,by rw [hsz];exact h.bw.size,fun k hk hm=>?_⟩;rw [hw k (fun e=>by subst e;rcases hnew with h1|h1;omega;exact hm h1)];exact h.bw.block k hk hm
 ·intro g' o v hs;have hne:g'≠g:=fun e=>by subst e;rw [hS] at hs;cases hs
  rw [World.cell?_of_block (w:=w) (hw g' hne)];exact h.hr.agree _ _ _ hs
 ·intro d' cs1 hcs1 hit;rw [nL d' hd] at hcs1;split at hcs1
  ·rename_i e;subst e;cases hcs1;obtain ⟨us,T,rfl,e3,e0,e4,e5⟩:=hb hit;exact ⟨g,us,T,hg,e3,e0,e4,e5,hS⟩
  ·rename_i e;obtain ⟨q,vs,T',e1,e3,e0,e4,e5,e6⟩:=h.hr.box d' cs1 hcs1 hit;have hne:q≠g:=fun e'=>e (h.hr.inj d' d g _ z (by simp [hcs1]) hd (by rw [e1,e']) hg)
   exact ⟨q,vs,T',e1,by rw [hw q hne];exact e3,e0,e4,e5,e6⟩
 ·intro d' cs1 hcs1 hit;rw [nL d' hd] at hcs1;split at hcs1
  ·rename_i e;subst e;cases hcs1;obtain ⟨ob,e2,e3⟩:=hi hit;exact ⟨g,z,ob,hg,e2,e3,hS⟩
  ·rename_i e;obtain ⟨q,z',ob,e1,e2,e3,e6⟩:=h.hr.its d' cs1 hcs1 hit;have hne:q≠g:=fun e'=>e (h.hr.inj d' d g z' z (by simp [hcs1]) hd (by rw [e1,e']) hg)
   exact ⟨q,z',ob,e1,e2,by rw [hw q hne];exact e3,e6⟩
 ·intro d1 d2 q z1 z2 i1 i2;simp only [de hd] at i1 i2;exact h.hr.inj d1 d2 q z1 z2 i1 i2
 ·intro p k hk;rw [hpl p k hk];refine (h.hr.own p k (hpm p k hk)).mono (fun q hq=>hw q (fun e=>?_)) (fun q o hq hn=>hn);subst e;exact h.hr.ownb p k q d z (hpm p k hk) hq hd hg
 ·intro p q k l b hk hl h1 h2;rw [hpl p k hk] at h1;rw [hpl q l hl] at h2;exact h.hr.ownd p q k l b (hpm p k hk) (hpm q l hl) h1 h2
 ·intro p k b d' z' hk h1 hd';simp only [de hd] at hd';rw [hpl p k hk] at h1;exact h.hr.ownb p k b d' z' (hpm p k hk) h1 hd'
 ·intro d' off k hk;simp only [de hd];exact h.hr.pmb d' off k (hpm _ k hk)
 ·intro d' q z' hd' hq;simp only [de hd] at hd';exact h.newb d' q z' hd' hq
 ·intro p k q hk hq;rw [hpl p k hk] at hq;exact h.newo p k q (hpm p k hk) hq
 ·intro d' hd';simp only [de hd];exact h.dom d' hd'
end Go.Ai
