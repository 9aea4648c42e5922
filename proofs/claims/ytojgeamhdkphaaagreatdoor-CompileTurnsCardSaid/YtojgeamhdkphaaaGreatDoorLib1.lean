/- Lib1: a part of the proof. Conditions: as each theorem says. -/
import Derived.WalkKit
import Derived.Laws.StructEq
import Derived.ChangeKeysEq
import Derived.Orders
set_option linter.unusedSimpArgs false
set_option linter.unusedVariables false
namespace Go.Ai
abbrev aJ:=@Bool.and_eq_true
abbrev cB:=@List.cons_append
abbrev cH:=@beq_eq_false_iff_ne
abbrev cW:=@Option.some.injEq
abbrev fT:=@List.length_append
abbrev cL:=@List.nil_append
abbrev jp:=@Option.isSome_iff_exists
abbrev e7:=@List.length_cons
abbrev cI:=@beq_iff_eq
abbrev kC:=@Array.getD_eq_getD_getElem?
abbrev qZ:=@List.getElem?_eq_some_iff
abbrev xI:=@List.drop_eq_getElem_cons
abbrev eR:=@Nat.le_refl
abbrev xv:=@List.append_assoc
abbrev ik:=@List.all_eq_true
abbrev qC:=@Array.getElem?_eq_some_iff
abbrev mI:=@decide_eq_true
abbrev Cn:=@decide_eq_true_iff
abbrev lm:=@decide_eq_false
abbrev qp:=@Bool.false_and
abbrev nC:=@Bool.true_and
abbrev uk:=@List.getElem?_eq_getElem
abbrev fZ:=@List.map_cons
abbrev qq:=@Array.length_toList
abbrev jq:=@Nat.zero_le
abbrev Jy:=@List.eq_nil_of_length_eq_zero
abbrev FI:=@List.mem_singleton
abbrev Co:=@List.drop_eq_nil_of_le
abbrev Jo:=@List.take_succ_eq_append_getElem
abbrev qr:=@List.getElem?_take
abbrev DS:=@Nat.mod_eq_of_lt
abbrev qu:=@decide_eq_true_eq
abbrev jD:=@List.mem_append
abbrev Cp:=@List.length_singleton
abbrev xJ:=@List.append_nil
abbrev Cq:=@List.getD_eq_getElem?_getD
abbrev tJ:=@List.take_length
abbrev tK:=@Bool.false_eq_true
abbrev tD:=@List.length_take
abbrev AB:=@Option.map_eq_some_iff
abbrev l5:=@Nat.zero_add
abbrev AD:=@Nat.lt_of_lt_of_le
abbrev Jz:=@List.length_pos_iff
abbrev xy:=@List.length_drop
abbrev DT:=@List.mem_of_mem_take
abbrev xK:=@List.getElem?_map
abbrev FJ:=@of_decide_eq_true
abbrev tL:=@Bool.not_eq_true'
abbrev nH:=@List.mem_cons
abbrev jM:=@Prod.mk.injEq
abbrev xz:=@List.getElem_mem
abbrev AG:=@Bool.or_eq_true
abbrev N6:=@List.drop_length
abbrev oY:=@List.mem_map
abbrev F9:=@List.take_append_drop
abbrev Ga:=@List.getElem?_eq_none
abbrev Pb:=@Nat.lt_succ_self
abbrev tN:=@List.length_map
abbrev Gc:=@List.drop_zero
abbrev N7:=@List.take_zero
abbrev Lw:=@Bool.or_false
abbrev Np:=@List.nodup_cons
abbrev Q6:=@List.forall_mem_cons
abbrev Nq:=@UInt8.toNat_inj
abbrev tF:=@Nat.add_zero
abbrev Gd:=@Nat.add_assoc
abbrev N8:=@Nat.add_comm
abbrev Nr:=@Nat.mul_comm
abbrev mu:=@Nat.le_trans
abbrev Ns:=@Nat.pow_succ
abbrev Q7:=@Bool.eq_false_iff
abbrev l6:=@List.map_nil
abbrev tO:=@List.length_nil
inductive Id where
 |n (k:Nat)
 |up (i:Id)
 |nw (d:Nat) (i:Id)
 |ix (i:Id) (k:Nat)
 |it (k:Nat)
 deriving DecidableEq
def Id.isUp:Id->Bool
 | .up _=>true
 |_=>false
def Id.isIt:Id->Bool
 | .it _=>true
 | .up i=>i.isIt
 | .nw _ i=>i.isIt
 |_=>false
def Id.isNw (d:Nat):Id->Bool
 | .nw d' i=>d'==d&&!i.isUp
 |_=>false
def Id.inn (d:Nat) (i:Id):Id:=match i with
 | .nw d' j=>if d'=d/\j.isUp=false then j else .up (.nw d' j)
 |i=> .up i
inductive MK where
 |s (l:List UInt8)
 |i (k:IntKind) (n:Int)
 deriving DecidableEq
inductive AV where
 |undef
 |int (k:IntKind) (n:Int)
 |bool (b:Bool)
 |str (s:List UInt8)
 |nils
 |sl (rows:List (List AV))
 |pin (cs:List AV)
 |ptr (d:Id) (off:Nat)
 |ms (d:Id) (off n sz:Nat)
 |fn (f:Nat) (caps:List AV)
 |itr (s:List UInt8) (pos:Nat)
 |itp (d:Nat)
 |mref (d:Id)
 |mpv (es:List (MK×MK))
 |nilp
 |nilT (d:Id) (T n:Nat)
 |agg (cs:List AV)
 |tup (vs:List AV)
 |ifc (T:Nat) (v:AV)
 |nili
 |yv (l:Nat)
 deriving Inhabited

inductive FK where
 |b|i|s
 deriving DecidableEq

inductive X where
 |s (t:Nat)
 |c (v:AV)

inductive Pl where
 |s (t:Nat)
 |t (s i:Nat)
 |b (d:Id) (off:Nat)
 deriving DecidableEq

structure St where
 e:List (Nat×AV)
 bx:List (Id×List AV)
 pm:List (Pl×Nat)

def lk:List (Nat×AV)->Nat->AV
 |[],_=> .undef
 |(k,v)::r,t=>if k=t then v else lk r t
def aD:List (Id×List AV)->Id->Option (List AV)
 |[],_=>none
 |(k,v)::r,t=>if k=t then some v else aD r t
def Cr:List (Id×List AV)->Id->List AV->List (Id×List AV)
 |[],_,_=>[]
 |(k,v)::r,d,cs=>if k=d then (k,cs)::r else (k,v)::Cr r d cs
def aH:List (Pl×Nat)->Pl->Option Nat
 |[],_=>none
 |(q,k)::r,p=>if q=p then some k else aH r p
mutual
def AV.ids:AV->List Id
 | .ptr d _=>[d]
 | .ms d _ _ _=>[d]
 | .itp d=>[.it d]
 | .mref d=>[d]
 | .nilT d _ _=>[d]
 | .fn _ cs=>bm cs
 | .agg cs=>bm cs
 | .tup cs=>bm cs
 | .ifc _ v=>v.ids
 |_=>[]
def bm:List AV->List Id
 |[]=>[]
 |v::r=>v.ids++bm r
end
def Pl.ids:Pl->List Id
 | .b d _=>[d]
 |_=>[]

def dl:List (Pl×Nat)->Pl->List (Pl×Nat)
 |[],_=>[]
 |(q,k)::r,p=>if q=p then dl r p else (q,k)::dl r p

def xA:List (Pl×Nat)->Id->Nat->Nat->List (Pl×Nat)
 |[],_,_,_=>[]
 |(.b e o,k)::r,d,off,n=>if e=d/\off<=o/\o<off+n then xA r d off n else (.b e o,k)::xA r d off n
 |(.s t,k)::r,d,off,n=>(.s t,k)::xA r d off n
 |(.t t i,k)::r,d,off,n=>(.t t i,k)::xA r d off n
def gV:List (Pl×Nat)->Nat->List (Pl×Nat)
 |[],_=>[]
 |(.s t,k)::r,d=>if t=d then gV r d else (.s t,k)::gV r d
 |(.t t i,k)::r,d=>if t=d then gV r d else (.t t i,k)::gV r d
 |(.b e o,k)::r,d=>(.b e o,k)::gV r d
def Pl.lt (b:Id) (n:Nat):Pl->Prop
 | .b e o=>e=b->o<n
 |_=>True
def qv (l:List (Nat×AV)) (b:Id):List (Nat×AV):=l.map fun p=>(p.1,if b∈p.2.ids then .undef else p.2)
def FM:List (Pl×Nat)->Id->Id->List (Pl×Nat)
 |[],_,_=>[]
 |(.b e o,k)::r,d,d'=>(.b (if e=d then d' else e) o,k)::FM r d d'
 |(.s t,k)::r,d,d'=>(.s t,k)::FM r d d'
 |(.t t i,k)::r,d,d'=>(.t t i,k)::FM r d d'
def kA:List (Id×List AV)->Id->List (Id×List AV)
 |[],_=>[]
 |(k,v)::r,d=>if k=d then kA r d else (k,v)::kA r d
def tP:List (Pl×Nat)->Id->List (Pl×Nat)
 |[],_=>[]
 |(.b e o,k)::r,d=>if e=d then tP r d else (.b e o,k)::tP r d
 |(.s t,k)::r,d=>(.s t,k)::tP r d
 |(.t t i,k)::r,d=>(.t t i,k)::tP r d

def St.v (σ:St):X->AV
 | .s t=>lk σ.e t
 | .c v=>v
def St.put (σ:St) (d:Nat) (v:AV):St:=⟨(d,v)::σ.e,σ.bx,gV σ.pm d⟩
def St.puto (σ:St) (d:Nat) (v:AV) (k:Nat):St:=⟨(d,v)::σ.e,σ.bx,(.s d,k)::gV σ.pm d⟩

inductive bv where
 |mv (d:Nat) (x:X)
 |mo (d s:Nat)
 |pk (d:Nat) (c a b:X)
 |bi (d:Nat) (op:BinOp) (x y:X)
 |bb (d:Nat) (neg:Bool) (x y:X)
 |ea (d:Nat) (neg:Bool) (ks:List FK) (x y:X)
 |un (d:Nat) (op:UnOp) (x:X)
 |pn (d:Nat) (neg:Bool) (x:X)
 |bq (d:Nat) (x:X)
 |cv (d:Nat) (k:IntKind) (x:X)
 |ln (d:Nat) (x:X)
 |lns (d:Nat) (x:X)
 |slc (d:Nat) (sz:Nat) (x:X) (lo hi:Option X)
 |sls (d:Nat) (x:X) (lo hi:Option X)
 |fa (d:Nat) (x:X) (off:Nat)
 |ia (d sz:Nat) (x i:X)
 |iaa (d sz n:Nat) (x i:X)
 |lds (d:Nat) (x:X)
 |ldf (d:Nat) (x:X)
 |lda (d n:Nat) (x:X)
 |st (n:Nat) (x v:X)
 |lo (d:Nat) (x:X)
 |so (x:X) (s:Nat)
 |al (d:Nat) (z:List AV)
 |alT (d T off:Nat) (z:List AV)
 |bxT (d T off:Nat) (x:X)
 |bx (d:Nat) (x:X)
 |bd (d:Nat) (z:List AV) (ps:List (Nat×Nat×X))
 |bs (d sz:Nat) (ps:List X)
 |bsn (d sz:Nat) (ps:List X)
 |fls (d off:Nat) (x:X)
 |fla (d off n:Nat) (x:X)
 |ixs (d:Nat) (x i:X)
 |ex (d:Nat) (x:X) (i:Nat)
 |exq (d:Nat) (x:X) (i:Nat)
 |cl (d f:Nat) (xs:List X)
 |cd (d:Nat) (x:X) (xs:List X)
 |mf (d f:Nat) (xs:List X)
 |mkm (d sz bytes:Nat) (z:List AV) (l c:X)
 |bsm (d sz:Nat) (ps:List X)
 |ca (d f:Nat) (s:Option X) (ps:List X)
 |apm (d sz bytes:Nat) (s:X) (y:X)
 |ce (d f:Nat) (xs:List X)
 |b2s (d:Nat) (x:X)
 |i2s (d:Nat) (x:X)
 |inl (d:Nat) (neg:Bool) (x:X)
 |s2b (d:Nat) (x:X)
 |aps (d:Nat) (s y:X)
 |rs (d:Nat) (x:X)
 |nx (d:Nat) (x:X)
 |ixa (d sz n:Nat) (agg:Bool) (x i:X)
 |mkp (d:Nat)
 |mpl (d:Nat) (x:X)
 |mpe (d:Nat) (q:FK) (z:MK) (m k:X)
 |mes (m s v:X)
 |mup (q:FK) (m k v:X)
 |mlk (d:Nat) (q:FK) (z:MK) (m k:X) (ok:Bool)
 |sla (d:Nat) (n:Nat) (x:X) (lo hi:Option X)
 |ap (d sz bytes:Nat) (s:X) (y:X)
 |mk (d sz bytes:Nat) (z:List AV) (l c:X)
 |mn (d:Nat) (x y:X)
 |mx (d:Nat) (x y:X)
 |nc (d:Nat) (x:X)
 |mi (d T:Nat) (x:X)
 |ta (d T:Nat) (z:AV) (x:X) (ok:Bool)
 |no
 |clr (sz:Nat) (z:List AV) (x:X)
 |trm (d sz:Nat) (x hi:X)
 |cr (d f:Nat) (xs:List X)
 |cq (d f:Nat) (xs:List X) (fr:List Nat)
 |gd (s:Nat) (b:Bool) (d:Nat) (o:bv)

def AV.cs:AV->Option (List AV)
 | .undef=>none
 | .tup _=>none
 | .itr _ _=>none
 | .itp _=>none
 | .mpv _=>none
 | .agg cs=>some cs
 |v=>some [v]

mutual
def em:AV->Option AV
 | .undef=>none
 | .nils=>some (.sl [])
 | .ptr _ _=>none
 | .nilT _ _ _=>some .nilp
 | .ms _ _ _ _=>none
 | .fn f cs=>(k9 cs).map (.fn f)
 | .itr _ _=>none
 | .itp _=>none
 | .mref _=>none
 | .mpv _=>none
 | .agg cs=>(k9 cs).map .agg
 | .tup cs=>(k9 cs).map .tup
 | .ifc T v=>(em v).map (.ifc T)
 |v=>some v
def k9:List AV->Option (List AV)
 |[]=>some []
 |v::r=>match em v,k9 r with
  |some v',some r'=>some (v'::r')
  |_,_=>none
end

mutual
def q8:AV->Option AV
 | .nils=>some .nils
 | .agg cs=>(lz cs).map .agg
 | .tup cs=>(lz cs).map .tup
 |v=>em v
def lz:List AV->Option (List AV)
 |[]=>some []
 |v::r=>match q8 v,lz r with
  |some v',some r'=>some (v'::r')
  |_,_=>none
end
def Pc (op:BinOp):AV->AV->Option AV
 | .int k a,.int k' b=>
  match op with
  | .add=>if k=k' then some (.int k (k.wrap (a+b))) else none
  | .sub=>if k=k' then some (.int k (k.wrap (a - b))) else none
  | .mul=>if k=k' then some (.int k (k.wrap (a*b))) else none
  | .quo=>if k=k'/\b≠0 then some (.int k (k.wrap (a.tdiv b))) else none
  | .rem=>if k=k'/\b≠0 then some (.int k (a.tmod b)) else none
  | .shl=>if 0<=b then some (.int k (k.wrap (a*2^(min b.toNat k.bits)))) else none
  | .shr=>if 0<=b then some (.int k (a.fdiv (2^(min b.toNat k.bits)))) else none
  | .eql=>if k=k' then some (.bool (a==b)) else none
  | .neq=>if k=k' then some (.bool (a !=b)) else none
  | .lss=>if k=k' then some (.bool (decide (a<b))) else none
  | .leq=>if k=k' then some (.bool (decide (a<=b))) else none
  | .gtr=>if k=k' then some (.bool (decide (b<a))) else none
  | .geq=>if k=k' then some (.bool (decide (b<=a))) else none
  |op=>if k=k' then some (.int k (bits op k a b)) else none
 | .str a,.str b=>
  match op with
  | .add=>if a.length+b.length<=9223372036854775807 then some (.str (a++b)) else none
  | .eql=>some (.bool (a==b))
  | .neq=>some (.bool (!(a==b)))
  | .lss=>some (.bool (Op.bytesLess a b))
  | .leq=>some (.bool (Op.bytesLess a b||a==b))
  | .gtr=>some (.bool (!(Op.bytesLess a b||a==b)))
  | .geq=>some (.bool (!(Op.bytesLess a b)))
  |_=>none
 |_,_=>none

def vF:FK->AV->AV->Option Bool
 | .i,.int k a,.int k' b=>if k=k' then some (a==b) else none
 | .b,.bool a,.bool b=>some (a==b)
 | .s,.str a,.str b=>some (a==b)
 |_,_,_=>none
def cw:List FK->List AV->List AV->Option Bool
 |[],[],[]=>some true
 |k::ks,a::r,b::s=>match vF k a b,cw ks r s with
  |some x,some y=>some (x&&y)
  |_,_=>none
 |_,_,_=>none

def f9 (z:List AV) (off:Nat) (vs:List AV):List AV:=z.take off++vs++z.drop (off+vs.length)

def kD (σ:St):List (Nat×Nat×X)->List AV->Option (List AV)
 |[],z=>some z
 |(off,n,x)::r,z=>match (σ.v x).cs with
  |some cs=>if cs.length=n/\off+n<=z.length then kD σ r (f9 z off cs) else none
  |none=>none

def jE (σ:St) (sz:Nat):List X->Option (List (List AV))
 |[]=>some []
 |x::r=>match (σ.v x).cs with
  |some cs=>match k9 cs,jE σ sz r with
   |some cs,some rs=>if cs.length=sz then some (cs::rs) else none
   |_,_=>none
  |none=>none

def um (σ:St) (sz:Nat):List X->Option (List (List AV))
 |[]=>some []
 |x::r=>match (σ.v x).cs,um σ sz r with
  |some cs,some rs=>if cs.length=sz then some (cs::rs) else none
  |_,_=>none

def uo (σ:St) (sz:Nat):List X->Option (List (List AV))
 |[]=>some []
 |x::r=>match (σ.v x).cs with
  |some cs=>match lz cs,uo σ sz r with
   |some cs,some rs=>if cs.length=sz then some (cs::rs) else none
   |_,_=>none
  |none=>none

def e8 (bx:List (Id×List AV)):AV->Option AV
 | .ptr d off=>match aD bx d with
  |some cs=>cs[off]?
  |none=>none
 | .pin cs=>cs[0]?
 |_=>none
def uq (bx:List (Id×List AV)) (n:Nat):AV->Option AV
 | .ptr d off=>match aD bx d with
  |some cs=>if off+n<=cs.length then some (.agg ((cs.drop off).take n)) else none
  |none=>none
 | .pin cs=>if n<=cs.length then some (.agg (cs.take n)) else none
 |_=>none

def byteCells:List AV->Option (List UInt8)
 |[]=>some []
 | .int .u8 n::r=>match byteCells r with
  |some s=>some (UInt8.ofNat n.toNat::s)
  |none=>none
 |_::_=>none
def q9:List (List AV)->Option (List UInt8)
 |[]=>some []
 |[.int .u8 n]::r=>match q9 r with
  |some s=>some (UInt8.ofNat n.toNat::s)
  |none=>none
 |_::_=>none
def AO (bx:List (Id×List AV)):AV->Option (List UInt8)
 | .nils=>some []
 | .sl rows=>q9 rows
 | .ms d o n sz=>match aD bx d with
  |some cs=>if sz=1/\o+n<=cs.length then byteCells ((cs.drop o).take n) else none
  |none=>none
 |_=>none
def aj (s:List UInt8):List (List AV):=s.map fun b=>[.int .u8 b.toNat]
def dW (s:List UInt8) (pos:Nat):Int×Nat:=let p:=Utf8.decode ⟨s.toArray⟩ pos;((p.1:Int),p.2)

def MK.av:MK->AV
 | .s l=> .str l
 | .i k n=> .int k n
def AV.mk:AV->Option MK
 | .str l=>some (.s l)
 | .int k n=>some (.i k n)
 |_=>none
def AV.mkk:FK->AV->Option MK
 | .s,.str l=>some (.s l)
 | .i,.int k n=>some (.i k n)
 |_,_=>none
def MK.same:MK->MK->Option Bool
 | .s a,.s b=>some (a==b)
 | .i k a,.i l b=>if k=l then some (a==b) else none
 |_,_=>none
def gW (k:MK):List (MK×MK)->Nat->Option (Option (Nat×MK))
 |[],_=>some none
 |(k',v)::r,i=>match k.same k' with
  |some true=>some (some (i,v))
  |some false=>gW k r (i+1)
  |none=>none
def rb (bx:List (Id×List AV)) (v:AV):Option (Id×List (MK×MK)):=match v with
 | .mref d=>match aD bx d with
  |some [.mpv es]=>some (d,es)
  |_=>none
 |_=>none
def tQ (es:List (MK×MK)) (i:Nat) (v:MK):List (MK×MK):=es.modify i fun p=>(p.1,v)
def ev (σ:St):bv->Option (Nat×AV)
 | .mv d x=>some (d,σ.v x)
 | .pk d c a b=>match σ.v c with
  | .bool t=>some (d,if t=true then σ.v a else σ.v b)
  |_=>none
 | .bi d op x y=>match Pc op (σ.v x) (σ.v y) with
  |some v=>some (d,v)
  |none=>none
 | .bb d neg x y=>match σ.v x,σ.v y with
  | .bool a,.bool b=>some (d,.bool (if neg=true then a !=b else a==b))
  |_,_=>none
 | .ea d neg ks x y=>match σ.v x,σ.v y with
  | .agg a,.agg b=>match cw ks a b with
   |some t=>some (d,.bool (if neg=true then !t else t))
   |none=>none
  |_,_=>none
 | .pn d neg x=>match σ.v x with
  | .ptr _ _=>some (d,.bool neg)
  | .pin _=>some (d,.bool neg)
  | .nilp=>some (d,.bool (!neg))
  |_=>none
 | .bq d x=>match AO [] (σ.v x) with
  |some s=>some (d,.str s)
  |none=>none
 | .un d op x=>match op,σ.v x with
  | .not,.bool b=>some (d,.bool (!b))
  | .neg,.int k n=>some (d,.int k (k.wrap (0 - n)))
  |_,_=>none
 | .cv d k x=>match σ.v x with
  | .int _ n=>some (d,.int k (k.wrap n))
  |_=>none
 | .lns d x=>match σ.v x with
  | .str s=>some (d,.int .i64 s.length)
  |_=>none
 | .ln d x=>match σ.v x with
  | .sl rows=>some (d,.int .i64 rows.length)
  | .nils=>some (d,.int .i64 0)
  | .ms _ _ n _=>some (d,.int .i64 n)
  |_=>none
 | .fa d x off=>match σ.v x with
  | .ptr b o=>some (d,.ptr b (o+off))
  | .pin cs=>some (d,.pin (cs.drop off))
  |_=>none
 | .ia d sz x i=>match σ.v x,σ.v i with
  | .sl rows,.int _ n=>
   if 0<=n then match rows[n.toNat]? with
    |some row=>if row.length=sz then some (d,.pin row) else none
    |none=>none
   else none
  | .ms b o n k,.int _ i=>if 0<=i/\i<n/\k=sz then some (d,.ptr b (o+i.toNat*sz)) else none
  |_,_=>none
 | .iaa d sz n x i=>match σ.v x,σ.v i with
  | .ptr b o,.int _ i=>if 0<=i/\i<n then some (d,.ptr b (o+i.toNat*sz)) else none
  | .pin cs,.int _ i=>if 0<=i/\i<n then some (d,.pin (cs.drop (i.toNat*sz))) else none
  |_,_=>none
 | .ldf d x=>match e8 σ.bx (σ.v x) with
  |some v=>some (d,v)
  |none=>none
 | .lds d x=>match e8 σ.bx (σ.v x) with
  |some v=>some (d,v)
  |none=>none
 | .lda d n x=>match uq σ.bx n (σ.v x) with
  |some v=>some (d,v)
  |none=>none
 | .bd d z ps=>match kD σ ps z with
  |some cs=>some (d,.agg cs)
  |none=>none
 | .fls d off x=>match σ.v x with
  | .agg cs=>match cs[off]? with
   |some v=>some (d,v)
   |none=>none
  |_=>none
 | .fla d off n x=>match σ.v x with
  | .agg cs=>if off+n<=cs.length then some (d,.agg ((cs.drop off).take n)) else none
  |_=>none
 | .ixs d x i=>match σ.v x,σ.v i with
  | .str s,.int _ n=>if 0<=n then match s[n.toNat]? with
    |some b=>some (d,.int .u8 b.toNat)
    |none=>none
   else none
  |_,_=>none
 | .ixa d sz n agg x i=>match σ.v x,σ.v i with
  | .agg cs,.int _ i=>if 0<=i/\i<n/\n*sz<=cs.length then
    (if agg=true then some (d,.agg ((cs.drop (i.toNat*sz)).take sz)) else match cs[i.toNat*sz]? with
     |some v=>some (d,v)
     |none=>none)
   else none
  |_,_=>none
 | .exq d x i=>match σ.v x with
  | .tup vs=>match vs[i]? with
   |some v=>some (d,v)
   |none=>none
  |_=>none
 | .mf d f xs=>some (d,.fn f (xs.map σ.v))
 | .i2s d x=>match σ.v x with
  | .int _ n=>some (d,.str (Utf8.encode n).data.toList)
  |_=>none
 | .inl d neg x=>match σ.v x with
  | .nili=>some (d,.bool (!neg))
  | .ifc _ _=>some (d,.bool neg)
  |_=>none
 | .b2s d x=>match AO σ.bx (σ.v x) with
  |some s=>some (d,.str s)
  |none=>none
 | .mpl d x=>match rb σ.bx (σ.v x) with
  |some (_,es)=>some (d,.int .i64 es.length)
  |none=>none
 | .mlk d q z m k ok=>match rb σ.bx (σ.v m),(σ.v k).mkk q with
  |some (_,es),some k=>match gW k es 0 with
   |some (some (_,v))=>some (d,if ok=true then .tup [v.av,.bool true] else v.av)
   |some none=>some (d,if ok=true then .tup [z.av,.bool false] else z.av)
   |none=>none
  |_,_=>none
 | .mn d x y=>match σ.v x,σ.v y with
  | .int k a,.int _ b=>some (d,.int k (if b<a then b else a))
  |_,_=>none
 | .mx d x y=>match σ.v x,σ.v y with
  | .int k a,.int _ b=>some (d,.int k (if a<b then b else a))
  |_,_=>none
 | .nc d x=>match σ.v x with
  | .ptr b o=>some (d,.ptr b o)
  | .pin cs=>some (d,.pin cs)
  |_=>none
 | .mi d T x=>some (d,.ifc T (σ.v x))
 | .ta d T z x ok=>match σ.v x with
  | .ifc t v=>if t=T then some (d,if ok=true then .tup [v,.bool true] else v) else if ok=true then some (d,.tup [z,.bool false]) else none
  | .nili=>if ok=true then some (d,.tup [z,.bool false]) else none
  |_=>none
 |_=>none

def nD:Nat:=140737488355328

def AQ (σ:St) (dflt:Nat):Option X->Option Int
 |none=>some dflt
 |some x=>match σ.v x with
  | .int _ n=>some n
  |_=>none

def wk (v u:AV):Prop:=v=u\/(v= .nils/\u= .sl [])
def qD:List AV->List AV->Prop
 |[],[]=>True
 |v::r,u::s=>wk v u/\qD r s
 |_,_=>False
def FN (l:List (Id×List AV)) (d:Id) (cs:List AV):Prop:=
 match aD l d with
 |some cs'=>qD cs' cs
 |none=>False
def iX (σ:St):Pl->Prop
 | .s t=>lk σ.e t= .nils
 | .t _ _=>False
 | .b d off=>match aD σ.bx d with
  |some cs=>cs[off]?=some .nils
  |none=>False

structure In where
 vs:List AV
 bx:List (Id×List AV)
 pm:List (Pl×Nat)
structure bO where
 r:AV
 bx:List (Id×List AV)
 pm:List (Pl×Nat)

def jR:List (Id×List AV)->List (Id×List AV)->List (Id×List AV)
 |l,[]=>l
 |l,(d,_)::r=>jR (kA l d) r
def lq:List (Pl×Nat)->List (Id×List AV)->List (Pl×Nat)
 |l,[]=>l
 |l,(d,_)::r=>lq (tP l d) r
def jF (xs:List X):List (Pl×Nat)->List (Pl×Nat)->List (Pl×Nat)
 |l,[]=>l
 |l,(.s i,_)::r=>match xs[i]? with
  |some (.s t)=>jF xs (dl l (.s t)) r
  |_=>jF xs l r
 |l,_::r=>jF xs l r
def lr (d:Nat):List (Pl×Nat)->List (Pl×Nat)
 |[]=>[]
 |(.s _,k)::r=>(.s d,k)::lr d r
 |(.t _ i,k)::r=>(.t d i,k)::lr d r
 |(.b i o,k)::r=>(.b i o,k)::lr d r
def re (σ:St) (xs:List X) (I:In):Pl×Nat->Prop
 |(.s i,k)=>match xs[i]? with
  |some (.s t)=>aH σ.pm (.s t)=some k\/lk σ.e t= .nils
  |some (.c v)=>v= .nils
  |_=>False
 |(.t _ _,_)=>False
 |(.b d off,k)=>(aD I.bx d).isSome/\(aH σ.pm (.b d off)=some k\/iX σ (.b d off))
def lc (xs:List X):List (Pl×Nat)->Prop
 |[]=>True
 |(.s i,_)::r=>(∀p∈r,∀j,p.1= .s j->j≠i->xs[j]?≠xs[i]?)/\lc xs r
 |_::r=>lc xs r
structure cO (d:Nat) (σ:St) (xs:List X) (I:In) (O:bO):Prop where
 vs:qD (xs.map σ.v) I.vs
 bx: ∀p∈I.bx,FN σ.bx p.1 p.2
 pm: ∀p∈I.pm,re σ xs I p
 one:lc xs I.pm
 kept: ∀p∈I.bx,(aD O.bx p.1).isSome
 new: ∀p∈O.bx,(aD I.bx p.1).isSome\/(p.1.isNw d=true/\p.1.isIt=false)
 free: ∀p∈σ.bx,p.1.isNw d=false
def bB (d:Nat) (σ:St) (xs:List X) (I:In) (O:bO):St:=
 ⟨(d,O.r)::σ.e,O.bx++jR σ.bx I.bx,lr d O.pm++gV (jF xs (lq σ.pm I.bx) I.pm) d⟩

abbrev Nt:=List Nat×List Id
abbrev BM:Nat:=1000000000
abbrev KF:Nat:=100000
def AV.pid:AV->Option Id
 | .ptr b _=>some b
 |_=>none
def mJ (σ:St) (fr:List Nat):Nt:=(fr,fr.filterMap fun s=>if Nat.ble KF s=true then (lk σ.e (s - KF)).pid else none)
inductive Bx where
 |one (b:Id)
 |fr (l:Nt)
 |cel (b:Id) (off:Nat) (v:AV)
def FP (l:Nt):Id->Bool
 | .n k=>l.1.contains k
 | .nw k _=>l.1.contains k
 | .up i=>l.2.contains (.up i)
 |_=>false
def Lx:Bx->Bx->Prop
 | .cel _ _ _,_=>True
 |_,.cel _ _ _=>False
 | .one a,.one b=>a≠b
 | .one a,.fr l=>FP l a=true
 | .fr l,.one b=>FP l b=true
 | .fr _,.fr _=>False
def Bx.tch:Bx->Id->Prop
 | .one b,i=>b=i
 | .fr l,i=>FP l i=false
 | .cel _ _ _,_=>False
def gX:Option Bx->Id->Prop
 |some x,i=>x.tch i
 |none,_=>False
theorem Md {x y:Bx} {i:Id} (h:Lx x y) (h1:x.tch i) (h2:y.tch i):False:=by
 cases x<;>cases y<;>simp only[Lx,Bx.tch] at h h1 h2
 ·exact h (h1.trans h2.symm)
 ·rw[h1,h2] at h;cases h
 ·rw[h2,h1] at h;cases h
def Pl.isB:Pl->Bool
 | .b _ _=>true
 |_=>false
def Pl.isF (fr:Nt):Pl->Bool
 | .b e _=>!FP fr e
 |_=>false
theorem Pl.isF_isB {fr:Nt} {p:Pl} (h:p.isF fr=true):p.isB=true:=by cases p<;>first|rfl|cases h
structure JA (fr:Nt) (I:In) (O:bO):Prop where
 ip: ∀p∈I.pm,p.1.isB=true
 op: ∀p∈O.pm,p.1.isF fr=true
 fo: ∀p∈O.bx,FP fr p.1=false
def JB:AV->Bool->Option Bool
 | .bool t,b=>some (t==b)
 | .tup [],_=>some false
 |_,_=>none
theorem nI {v:AV} {b:Bool} (h:JB v b=some true):v= .bool b:=by
 unfold JB at h;split at h
 ·simp at h;rw[h]
 ·cases h
 ·cases h
theorem ur {v:AV} {b:Bool} (h:JB v b=some false):v= .bool (!b)\/v= .tup []:=by
 unfold JB at h;split at h
 ·rename_i t b';left;cases t<;>cases b'<;>simp_all
 ·right;rfl
 ·cases h
section
variable (S:Nat->Nat->In->bO->Prop)
def rh (f:Nat) (l:List AV) (r:AV):Prop:= ∀d,S f d ⟨l,[],[]⟩ ⟨r,[],[]⟩
def JC (f d:Nat) (xs:List X) (K:St->Prop) (σ:St):Prop:= ∃I O,S f d I O/\cO d σ xs I O/\K (bB d σ xs I O)
def AS (f:Nat) (v:Option (List (List AV))) (k:Nat) (l:List AV) (out:List (List AV)):Prop:=
 ∀e,S f e ⟨(match v with |some rows=> .sl rows::l|none=>l),[],(match v with |some _=>[(.s 0,k)]|none=>[])⟩ ⟨.sl out,[],[(.s 0,k)]⟩
def JD (f:Nat) (σ:St) (s:Option X) (ps:List X) (k:Nat) (out:List (List AV)):Prop:=match s with
 |none=>AS S f none k (ps.map σ.v) out
 |some (.c v)=>v= .nils/\AS S f (some []) k (ps.map σ.v) out
 |some (.s t)=>(∃rows,lk σ.e t= .sl rows/\aH σ.pm (.s t)=some k/\AS S f (some rows) k (ps.map σ.v) out)\/(lk σ.e t= .nils/\AS S f (some []) k (ps.map σ.v) out)
def AT (d:Nat) (s:Option X) (v:AV) (k:Nat) (σ:St):St:=match s with
 |some (.s t)=>⟨(d,v)::σ.e,σ.bx,(.s d,k)::gV (dl σ.pm (.s t)) d⟩
 |_=>σ.puto d v k
def bU:bv->(St->Prop)->St->Prop
 | .mo d s,K,σ=>match aH σ.pm (.s s) with
  |some k=>K ⟨(d,lk σ.e s)::σ.e,σ.bx,(.s d,k)::gV (dl σ.pm (.s s)) d⟩
  |none=>K (σ.put d (lk σ.e s))
 | .al d z,K,σ=>match aD σ.bx (.n d) with
  |none=>K ⟨(d,.ptr (.n d) 0)::σ.e,(.n d,z)::σ.bx,gV σ.pm d⟩
  |some _=>False
 | .alT d T off z,K,σ=>match aD σ.bx (.n d) with
  |none=>K ⟨(d,.ptr (.n d) 0)::σ.e,(.n d,z.set off (.nilT (.n d) T z.length))::σ.bx,gV σ.pm d⟩
  |some _=>False
 | .bx d x,K,σ=>match aD σ.bx (.n d) with
  |none=>match (σ.v x).cs with
   |some cs=>K ⟨(d,.ptr (.n d) 0)::σ.e,(.n d,cs)::σ.bx,gV σ.pm d⟩
   |none=>False
  |some _=>False
 | .bxT d T off x,K,σ=>match aD σ.bx (.n d) with
  |none=>match (σ.v x).cs with
   |some cs=>match cs[off]? with
    |some .nilp=>K ⟨(d,.ptr (.n d) 0)::σ.e,(.n d,cs.set off (.nilT (.n d) T cs.length))::σ.bx,gV σ.pm d⟩
    |_=>False
   |none=>False
  |some _=>False
 | .rs d x,K,σ=>match aD σ.bx (.it d) with
  |none=>match σ.v x with
   | .str s=>K ⟨(d,.itp d)::σ.e,(.it d,[.itr s 0])::σ.bx,gV σ.pm d⟩
   |_=>False
  |some _=>False
 | .nx d x,K,σ=>match σ.v x with
  | .itp i=>match aD σ.bx (.it i) with
   |some [.itr s pos]=>if pos<s.length then
     K ⟨(d,.tup [.bool true,.int .i64 pos,.int .i32 (dW s pos).1])::σ.e,Cr σ.bx (.it i) [.itr s (pos+(dW s pos).2)],gV σ.pm d⟩
    else K (σ.put d (.tup [.bool false]))
   |_=>False
  |_=>False
 | .mkp d,K,σ=>match aD σ.bx (.it d) with
  |none=>K ⟨(d,.mref (.it d))::σ.e,(.it d,[.mpv []])::σ.bx,gV σ.pm d⟩
  |some _=>False
 | .mpe _ _ _ _ _,_,_=>False
 | .mes _ _ _,_,_=>False
 | .mup q m k v,K,σ=>match rb σ.bx (σ.v m),(σ.v k).mkk q,(σ.v v).mk with
  |some (b,es),some k,some v=>match gW k es 0 with
   |some (some (i,_))=>K ⟨σ.e,Cr σ.bx b [.mpv (tQ es i v)],σ.pm⟩
   |some none=>K ⟨σ.e,Cr σ.bx b [.mpv (es++[(k,v)])],σ.pm⟩
   |none=>False
  |_,_,_=>False
 | .bs d sz ps,K,σ=>match jE σ sz ps with
  |some rows=>K (σ.puto d (.sl rows) sz)
  |none=>False
 | .bsn _ _ _,_,_=>False
 | .st n x v,K,σ=>match σ.v x with
  | .ptr d off=>match aD σ.bx d with
   |some cs=>match (σ.v v).cs with
    |some vs=>vs.length=n/\off+n<=cs.length/\K ⟨σ.e,Cr σ.bx d (f9 cs off vs),xA σ.pm d off n⟩
    |none=>False
   |none=>False
  |_=>False
 | .lo d x,K,σ=>match σ.v x with
  | .ptr b off=>match aD σ.bx b with
   |some cs=>match cs[off]? with
    |some v=>match aH σ.pm (.b b off) with
     |some k=>K ⟨(d,v)::σ.e,σ.bx,(.s d,k)::gV (dl σ.pm (.b b off)) d⟩
     |none=>K (σ.put d v)
    |none=>False
   |none=>False
  | .pin cs=>match cs[0]? with
   |some v=>K (σ.put d v)
   |none=>False
  |_=>False
 | .so x s,K,σ=>match σ.v x with
  | .ptr d off=>match aD σ.bx d with
   |some cs=>match aH σ.pm (.s s) with
    |some k=>off<cs.length/\K ⟨σ.e,Cr σ.bx d (cs.set off (lk σ.e s)),(.b d off,k)::dl (dl σ.pm (.s s)) (.b d off)⟩
    |none=>match (lk σ.e s).cs with
     |some vs=>vs.length=1/\off+1<=cs.length/\K ⟨σ.e,Cr σ.bx d (f9 cs off vs),xA σ.pm d off 1⟩
     |none=>False
   |none=>False
  |_=>False
 | .ex d x i,K,σ=>match σ.v x with
  | .tup vs=>match vs[i]? with
   |some v=>match x with
    | .s t=>match aH σ.pm (.t t i) with
     |some k=>K ⟨(d,v)::σ.e,σ.bx,(.s d,k)::gV (dl σ.pm (.t t i)) d⟩
     |none=>K (σ.put d v)
    |_=>K (σ.put d v)
   |none=>False
  |_=>False
 | .ap d sz bytes s y,K,σ=>match em (σ.v y) with
  |some (.sl news)=>(match σ.v s,s with
   | .sl rows,.s t=>aH σ.pm (.s t)=some sz/\(rows.length+news.length)*bytes<=nD/\(∀r∈rows,r.length=sz)/\(∀r∈news,r.length=sz)/\K ⟨(d,.sl (rows++news))::σ.e,σ.bx,(.s d,sz)::gV (dl σ.pm (.s t)) d⟩
   | .nils,_=>news.length*bytes<=nD/\(∀r∈news,r.length=sz)/\K (σ.puto d (.sl news) sz)
   |_,_=>False)
  |_=>False
 | .s2b d x,K,σ=>match σ.v x with
  | .str l=>K (σ.put d (.sl (aj l)))
  |_=>False
 | .aps _ _ _,_,_=>False
 | .mk _ _ _ _ _ _,_,_=>False
 | .bsm d sz ps,K,σ=>match aD σ.bx (.n d),uo σ sz ps with
  |none,some rows=>K ⟨(d,.ms (.n d) 0 rows.length sz)::σ.e,(.n d,rows.flatten)::σ.bx,gV σ.pm d⟩
  |none,none=>match um σ sz ps with
   |some rows=>K ⟨(d,.ms (.n d) 0 rows.length sz)::σ.e,(.n d,rows.flatten)::σ.bx,gV σ.pm d⟩
   |none=>False
  |_,_=>False
 | .mkm _ _ _ _ _ _,_,_=>False
 | .apm d sz bytes s y,K,σ=>match q8 (σ.v y) with
  |some (.sl news)=>(match σ.v s with
   | .nils=>match aD σ.bx (.n d) with
    |none=>news.length*bytes<=nD/\0<news.length/\(∀r∈news,r.length=sz)/\K ⟨(d,.ms (.n d) 0 news.length sz)::σ.e,(.n d,news.flatten)::σ.bx,gV σ.pm d⟩
    |some _=>False
   | .ms b 0 n k=>match aD σ.bx b with
    |some cs=>k=sz/\cs.length=n*sz/\b.isUp=false/\aD (kA σ.bx b) (.n d)=none/\(∀p∈kA σ.bx b,b∉bm p.2)/\b∉bm cs/\(∀p∈σ.pm,p.1.lt b cs.length)/\b.isIt=false/\
      (n+news.length)*bytes<=nD/\(∀r∈news,r.length=sz)/\K ⟨(d,.ms (.n d) 0 (n+news.length) sz)::qv σ.e b,(.n d,cs++news.flatten)::kA σ.bx b,FM (gV σ.pm d) b (.n d)⟩
    |none=>False
   |_=>False)
  |_=>False
 | .sls d x lo hi,K,σ=>match σ.v x with
  | .str s=>match AQ σ 0 lo,AQ σ s.length hi with
   |some l,some h=>0<=l/\l<=h/\h<=s.length/\K (σ.put d (.str ((s.take h.toNat).drop l.toNat)))
   |_,_=>False
  |_=>False
 | .slc d sz x lo hi,K,σ=>match σ.v x with
  | .sl rows=>match AQ σ 0 lo,AQ σ rows.length hi with
   |some l,some h=>0<=l/\l<=h/\h<=rows.length/\(∀r∈rows,r.length=sz)/\K (σ.put d (.sl ((rows.take h.toNat).drop l.toNat)))
   |_,_=>False
  |_=>False
 | .sla _ _ _ _ _,_,_=>False
 | .cl d f xs,K,σ=>match k9 (xs.map σ.v) with
  |some l=> ∃r,rh S f l r/\K (σ.put d r)
  |none=>False
 | .ce d f xs,K,σ=>JC S f d xs K σ
 | .cd d x xs,K,σ=>match σ.v x with
  | .fn f caps=>if BM<=f then JC S (f - BM) d (caps.map X.c++xs) K σ else JC S f d (xs++caps.map X.c) K σ
  |_=>False
 | .ca d f s ps,K,σ=> ∃k out,JD S f σ s ps k out/\K (AT d s (.sl out) k σ)
 | .clr _ _ _,_,_=>False
 | .trm _ _ _ _,_,_=>False
 | .cr _ _ _,_,_=>False
 | .cq d f xs fr,K,σ=> ∃I O,S f d I O/\cO d σ xs I O/\(JA (mJ σ fr) I O/\fr.contains d=false)/\K (bB d σ xs I O)
 | .gd s b d o,K,σ=>match JB (lk σ.e s) b with
  |some true=>bU o K σ
  |some false=>K (σ.put d (.tup []))
  |none=>False
 |o,K,σ=>match ev σ o with
  |some (d,v)=>K (σ.put d v)
  |none=>False

def lu:List bv->(St->Prop)->St->Prop
 |[],K,σ=>K σ
 |o::r,K,σ=>bU S o (lu r K) σ

def fb (σ:St):bv->Option Bx
 | .lds _ x=>match σ.v x with | .ptr b _=>some (.one b)|_=>none
 | .ldf _ x=>match σ.v x with | .ptr b off=>(match e8 σ.bx (.ptr b off) with |some v=>some (.cel b off v)|none=>none)|_=>none
 | .lda _ _ x=>match σ.v x with | .ptr b _=>some (.one b)|_=>none
 | .st _ x _=>match σ.v x with | .ptr b _=>some (.one b)|_=>none
 | .lo _ x=>match σ.v x with | .ptr b _=>some (.one b)|_=>none
 | .so x _=>match σ.v x with | .ptr b _=>some (.one b)|_=>none
 | .al d _=>some (.one (.n d))
 | .mlk _ _ _ m _ _=>match σ.v m with | .mref b=>some (.one b)|_=>none
 | .alT d _ _ _=>some (.one (.n d))
 | .bx d _=>some (.one (.n d))
 | .cr _ _ xs=>match xs.map σ.v with | .ptr b _::_=>some (.one b)|_=>none
 | .cq _ _ _ fr=>some (.fr (mJ σ fr))
 | .gd s b _ o=>match lk σ.e s with
  | .bool t=>if t=b then fb σ o else none
  |_=>none
 |_=>none
def Ge:List (Nat×Bx)->List Nat->Bx->Prop
 |[],_,_=>True
 |(i,b')::h,u,b=>(i∈u->Lx b' b)/\Ge h u b
def JE (h:List (Nat×Bx)) (u:List Nat):Option Bx->Prop
 |none=>True
 |some b=>Ge h u b
def AU (h:List (Nat×Bx)) (j:Nat):Option Bx->List (Nat×Bx)
 |none=>h
 |some b=>(j,b)::h
def Bx.kept:Bx->St->Prop
 | .cel b off v,σ=>e8 σ.bx (.ptr b off)=some v
 |_,_=>True
def AH:List (Nat×Bx)->List Nat->(St->Prop)->St->Prop
 |[],_,K=>K
 |(i,.cel b off v)::h,u,K=>fun σ=>(i∈u->e8 σ.bx (.ptr b off)=some v)/\AH h u K σ
 |_::h,u,K=>AH h u K
theorem ef {K:St->Prop} {σ:St}: ∀ {h:List (Nat×Bx)} {u:List Nat},AH h u K σ↔(∀p∈h,p.1∈u->p.2.kept σ)/\K σ
 |[],u=>by simp[AH]
 |(i,.cel b off v)::h,u=>by
  have:=ef (K:=K) (σ:=σ) (h:=h) (u:=u)
  simp only[AH,this,nH,forall_eq_or_imp,Bx.kept];exact and_assoc.symm
 |(i,.one b)::h,u=>by
  have:=ef (K:=K) (σ:=σ) (h:=h) (u:=u)
  simp only[AH,this,nH,forall_eq_or_imp,Bx.kept,implies_true,true_and]
 |(i,.fr l)::h,u=>by
  have:=ef (K:=K) (σ:=σ) (h:=h) (u:=u)
  simp only[AH,this,nH,forall_eq_or_imp,Bx.kept,implies_true,true_and]
def jG:List (List Nat)->List bv->Nat->List (Nat×Bx)->(St->Prop)->St->Prop
 |u::us,o::r,j,h,K,σ=>JE h u (fb σ o)/\bU S o (AH h u (jG us r (j+1) (AU h j (fb σ o)) K)) σ
 |[],[],_,_,K,σ=>K σ
 |_,_,_,_,_,_=>False

def iY (σ:St) (s:Nat) (b:Id) (rows:List (List AV)):St:=⟨(s,.sl rows)::qv σ.e b,kA σ.bx b,tP σ.pm b⟩
structure Ct (σ:St) (s:Nat) (b:Id) (n sz:Nat) (rows:List (List AV)):Prop where
 hv:lk σ.e s= .ms b 0 n sz
 hb:aD σ.bx b=some rows.flatten
 hup:b.isUp=false
 hn:rows.length=n
 hsz: ∀r∈rows,r.length=sz
 hids:bm rows.flatten=[]
 hoff: ∀p∈kA σ.bx b,b∉bm p.2

structure lA (σ:St) (s:Nat) (b:Id) (n sz:Nat) (rows:List (List AV)) (tl:List AV):Prop where
 hv:lk σ.e s= .ms b 0 n sz
 hb:aD σ.bx b=some (rows.flatten++tl)
 hup:b.isUp=false
 hn:rows.length=n
 hsz: ∀r∈rows,r.length=sz
 hids:bm rows.flatten=[]
 hoff: ∀p∈kA σ.bx b,b∉bm p.2
def ri (b:Id) (rows:List (List AV)):AV->AV
 | .ms d o n sz=>if d=b/\o=0/\n=rows.length then .sl rows else .ms d o n sz
 |v=>v
def tR (l:List (Id×List AV)) (b:Id) (rows:List (List AV)):List (Id×List AV):=l.map fun p=>(p.1,p.2.map (ri b rows))
def lB (σ:St) (b:Id) (rows:List (List AV)):St:=⟨qv σ.e b,tR (kA σ.bx b) b rows,tP σ.pm b⟩
structure Gf (σ:St) (b:Id) (sz:Nat) (rows:List (List AV)) (tl:List AV):Prop where
 hb:aD σ.bx b=some (rows.flatten++tl)
 hit:b.isIt=false
 hup:b.isUp=false
 hsz: ∀r∈rows,r.length=sz
 hids:bm rows.flatten=[]
 hoff: ∀p∈tR (kA σ.bx b) b rows,b∉bm p.2
inductive DU:St->St->Prop
 |z (σ:St):DU σ σ
 |s {σ τ:St} (b:Id) (sz:Nat) (rows:List (List AV)) (tl:List AV):Gf σ b sz rows tl->DU (lB σ b rows) τ->DU σ τ
def lC (σ:St) (s:Nat) (b:Id) (sz:Nat) (rows:List (List AV)):St:=(iY σ s b rows).puto s (.sl rows) sz

structure PA where
 d:Nat
 sz:Nat
 by_:Nat
 s:Nat
 y:X
 te:Nat
 tl:X
 v:X
 ad:List bv
 ta:X
def Vn:bv:= .gd 0 true 0 (.gd 0 true 0 .no)
def Vo:bv->Bool
 | .mv _ _=>true
 | .nc _ _=>true
 | .fa _ _ _=>true
 | .ia _ _ _ _=>true
 | .iaa _ _ _ _ _=>true
 |_=>false
inductive AC where
 |sk
 |rg (l:List bv)
 |rd (us:List (List Nat)) (l:List bv)
 |sq (a b:AC)
 |cd (x:X) (a b:AC)
 |bl (i:Nat) (a:AC)
 |lp (a:AC)
 |ex (i:Nat)
 |rt
 |sc (a:AC)
 |lb
 |no
 |fz (s:Nat) (l:List bv)

inductive AE where
 |n
 |x (i:Nat)
 |r

structure il (σ τ:St):Prop where
 e: ∀p∈τ.e,wk (lk σ.e p.1) p.2
 b: ∀p∈τ.bx,FN σ.bx p.1 p.2
 p: ∀p∈τ.pm,aH σ.pm p.1=some p.2\/iX σ p.1
 ei: ∀p∈τ.e,∀d∈p.2.ids,(aD τ.bx d).isSome\/d.isUp=true
 bi: ∀p∈τ.bx,∀d∈bm p.2,(aD τ.bx d).isSome\/d.isUp=true
 pi: ∀p∈τ.pm,∀d∈p.1.ids,(aD τ.bx d).isSome

mutual
def AV.mp (f:Id->Id):AV->AV
 | .ptr d o=> .ptr (f d) o
 | .ms d o n sz=> .ms (f d) o n sz
 | .itp _=> .undef
 | .mref d=> .mref (f d)
 | .nilT d T n=> .nilT (f d) T n
 | .fn g cs=> .fn g (aP f cs)
 | .agg cs=> .agg (aP f cs)
 | .tup cs=> .tup (aP f cs)
 | .ifc T v=> .ifc T (v.mp f)
 |v=>v
def aP (f:Id->Id):List AV->List AV
 |[]=>[]
 |v::r=>v.mp f::aP f r
end
def Pl.mp (f:Id->Id):Pl->Pl
 | .b d o=> .b (f d) o
 |p=>p
def aW (f:Id->Id):List (Id×List AV)->List (Id×List AV)
 |[]=>[]
 |(d,cs)::r=>(f d,aP f cs)::aW f r
def aY (f:Id->Id):List (Pl×Nat)->List (Pl×Nat)
 |[]=>[]
 |(p,k)::r=>(p.mp f,k)::aY f r
def St.rn (σ:St) (f:Id->Id):St:=⟨σ.e.map fun p=>(p.1,p.2.mp f),aW f σ.bx,aY f σ.pm⟩
structure nJ (f g:Id->Id):Prop where
 gf: ∀d,g (f d)=d
 fg: ∀d,f (g d)=d
 up: ∀d,d.isUp=true->f d=d
 it: ∀d,d.isIt=true->f d=d
def uu (σ τ:St):Prop:=il σ τ\/ ∃f g,nJ f g/\il (σ.rn f) τ
theorem nJ.comp {f g f' g':Id->Id} (h:nJ f g) (h':nJ f' g'):nJ (fun d=>f' (f d)) (fun d=>g (g' d)):=
 ⟨fun d=>by simp only[h'.gf,h.gf],fun d=>by simp only[h.fg,h'.fg],fun d hd=>by simp only[h.up d hd,h'.up d hd],fun d hd=>by simp only[h.it d hd,h'.it d hd]⟩
def AE.sq (B:St->Prop) (Q:AE->St->Prop):AE->St->Prop
 | .n,σ=>B σ
 | .x i,σ=>Q (.x i) σ
 | .r,σ=>Q .r σ
def AE.bl (i:Nat) (Q:AE->St->Prop):AE->St->Prop
 | .n,σ=>Q .n σ
 | .x j,σ=>if j=i then Q .n σ else Q (.x j) σ
 | .r,σ=>Q .r σ

def Cu (F:(AE->St->Prop)->St->Prop) (Q:AE->St->Prop):Nat->St->Prop
 |0,_=>False
 |n+1,σ=> ∃τ,uu σ τ/\F (AE.sq (Cu F Q n) Q) τ

def dK:AC->(AE->St->Prop)->St->Prop
 | .sk,Q,σ=>Q .n σ
 | .rg l,Q,σ=>lu S l (Q .n) σ
 | .rd us l,Q,σ=>jG S us l 0 [] (Q .n) σ
 | .sq a b,Q,σ=>dK a (AE.sq (dK b Q) Q) σ
 | .cd x a b,Q,σ=>match σ.v x with
  | .bool t=>if t=true then dK a Q σ else dK b Q σ
  |_=>False
 | .bl i a,Q,σ=>dK a (AE.bl i Q) σ
 | .lp a,Q,σ=> ∃n,Cu (dK a) Q n σ
 | .ex i,Q,σ=>Q (.x i) σ
 | .rt,Q,σ=>Q .r σ
 | .sc a,Q,σ=>dK a Q σ
 | .lb,Q,σ=>Q .n σ
 | .no,_,_=>False
 | .fz s l,Q,σ=> ∃τ,DU σ τ/\ ∃b n sz rows tl,lA τ s b n sz rows tl/\sz<4294967296/\lu S l (Q .n) (lC τ s b sz rows)
end
end Go.Ai
namespace Go.Ai
open Go.RowKit

abbrev aR:=Nat->Nat->Option Value
structure BZ where
 z:Nat
 T:Nat
abbrev Gb:=Id->Option (Nat×BZ)
def fP:Gb:=fun _=>none

def Jp (f:Nat) (us:Array Value):Value:=if BM<=f then .func (.func (f - BM)) us #[] else .func (.func f) #[] us
theorem Me (f:Nat) (us:Array Value): ∃x y z,Jp f us= .func x y z:=by
 unfold Jp;split
 ·exact ⟨_,_,_,rfl⟩
 ·exact ⟨_,_,_,rfl⟩
mutual
def PR (S:aR) (gb:Gb):AV->Value->Prop
 | .undef,_=>True
 | .int k n,v=>v= .int k n
 | .bool b,v=>v= .bool b
 | .str s,v=>v= .string ⟨s.toArray⟩
 | .nils,v=>v= .slice none 0 0
 | .nilp,v=>v= .pointer none
 | .nilT d T n,v=>v= .pointer none/\ ∃g,gb d=some (g,⟨n,T⟩)
 | .sl rows,v=>(v= .slice none 0 0/\rows=[])\/ ∃a cap k,v= .slice (some a) rows.length cap/\rows.length<=cap/\(rows=[]\/(a.spot=none/\a6 S k rows a.block a.off))
 | .pin cs,v=> ∃g o,v= .pointer (some ⟨g,o,none⟩)/\aK S cs g o
 | .ptr d off,v=> ∃g z,gb d=some (g,z)/\d.isIt=false/\v= .pointer (some ⟨g,off,none⟩)
 | .ms d off n sz,v=> ∃g z cap,gb d=some (g,z)/\d.isIt=false/\v= .slice (some ⟨g,off,none⟩) n cap/\n<=cap/\cap<=maxLen/\off+cap*sz<=z.z
 | .itp d,v=> ∃g z,gb (.it d)=some (g,z)/\v= .pointer (some ⟨g,0,none⟩)
 | .itr _ _,_=>False
 | .mref d,v=> ∃g z,gb d=some (g,z)/\d.isIt=true/\v= .map (some g)
 | .mpv _,_=>False
 | .fn f cs,v=> ∃us:Array Value,v=Jp f us/\aa S gb cs us.toList
 | .agg cs,v=> ∃us,v= .agg us/\(∀u∈us.toList,u.oneCell'=true)/\aa S gb cs us.toList
 | .tup cs,v=> ∃us,v= .tuple us/\aa S gb cs us.toList
 | .ifc T x,v=> ∃u,v= .iface T u/\PR S gb x u
 | .nili,v=>v= .nilIface
 | .yv l,v=>v= .func (.yield l) #[] #[]
def aK (S:aR):List AV->Nat->Nat->Prop
 |[],_,_=>True
 |c::r,g,o=>(∃u,S g o=some u/\u.oneCell'=true/\PR S fP c u)/\aK S r g (o+1)
def a6 (S:aR) (k:Nat):List (List AV)->Nat->Nat->Prop
 |[],_,_=>True
 |r::rs,g,o=>r.length=k/\aK S r g o/\a6 S k rs g (o+k)
def aa (S:aR) (gb:Gb):List AV->List Value->Prop
 |[],us=>us=[]
 |c::r,us=> ∃u us',us=u::us'/\PR S gb c u/\aa S gb r us'
end

def aR.le (S S':aR):Prop:= ∀g o v,S g o=some v->S' g o=some v
def Gb.le (b b':Gb):Prop:= ∀d g,b d=some g->b' d=some g
theorem aR.le.refl (S:aR):S.le S:=fun _ _ _ h=>h
theorem aR.le.trans {S S' S'':aR} (h:S.le S') (h':S'.le S''):S.le S'':=fun g o v e=>h' g o v (h g o v e)
theorem Gb.le.refl (S:Gb):S.le S:=fun _ _ h=>h
theorem AY (b:Gb):fP.le b:=fun _ _ h=>by simp[fP] at h

mutual
theorem PR.mono {S S':aR} {gb gb':Gb} (hs:S.le S') (hg:gb.le gb'): ∀(av:AV) (v:Value),PR S gb av v->PR S' gb' av v
 | .undef,_,_=>by simp[PR]
 | .int k n,v,h=>by simpa[PR] using h
 | .bool b,v,h=>by simpa[PR] using h
 | .str s,v,h=>by simpa[PR] using h
 | .nils,v,h=>by simpa[PR] using h
 | .nilp,v,h=>by simpa[PR] using h
 | .nilT d T n,v,h=>by
  simp only[PR] at h ⊢;obtain ⟨h1,g,h2⟩:=h;exact ⟨h1,g,hg _ _ h2⟩
 | .sl rows,v,h=>by
  simp only[PR] at h ⊢;rcases h with h|⟨a,cap,k,h1,h2,h3⟩
  ·exact .inl h
  ·refine .inr ⟨a,cap,k,h1,h2,?_⟩;rcases h3 with h3|⟨h3,h4⟩
   ·exact .inl h3
   ·exact .inr ⟨h3,a6.mono hs k rows _ _ h4⟩
 | .pin cs,v,h=>by
  simp only[PR] at h ⊢;obtain ⟨g,o,h1,h2⟩:=h;exact ⟨g,o,h1,aK.mono hs cs _ _ h2⟩
 | .ptr d off,v,h=>by
  simp only[PR] at h ⊢;obtain ⟨g,z,h1,h2⟩:=h;exact ⟨g,z,hg _ _ h1,h2⟩
 | .ms d off n k,v,h=>by
  simp only[PR] at h ⊢;obtain ⟨g,z,cap,h1,h2⟩:=h;exact ⟨g,z,cap,hg _ _ h1,h2⟩
 | .itp d,v,h=>by
  simp only[PR] at h ⊢;obtain ⟨g,z,h1,h2⟩:=h;exact ⟨g,z,hg _ _ h1,h2⟩
 | .itr _ _,v,h=>by simp[PR] at h
 | .mref d,v,h=>by
  simp only[PR] at h ⊢;obtain ⟨g,z,h1,h2⟩:=h;exact ⟨g,z,hg _ _ h1,h2⟩
 | .mpv _,v,h=>by simp[PR] at h
 | .fn f cs,v,h=>by
  simp only[PR] at h ⊢;obtain ⟨us,h1,h2⟩:=h;exact ⟨us,h1,aa.mono hs hg cs _ h2⟩
 | .agg cs,v,h=>by
  simp only[PR] at h ⊢;obtain ⟨us,h1,h0,h2⟩:=h;exact ⟨us,h1,h0,aa.mono hs hg cs _ h2⟩
 | .tup cs,v,h=>by
  simp only[PR] at h ⊢;obtain ⟨us,h1,h2⟩:=h;exact ⟨us,h1,aa.mono hs hg cs _ h2⟩
 | .ifc T x,v,h=>by
  simp only[PR] at h ⊢;obtain ⟨u,h1,h2⟩:=h;exact ⟨u,h1,PR.mono hs hg x u h2⟩
 | .nili,v,h=>by simpa[PR] using h
 | .yv _,v,h=>by simpa[PR] using h
theorem aK.mono {S S':aR} (hs:S.le S'): ∀(cs:List AV) (g o:Nat),aK S cs g o->aK S' cs g o
 |[],_,_,_=>by simp[aK]
 |c::r,g,o,h=>by
  simp only[aK] at h ⊢;obtain ⟨⟨u,h1,h0,h2⟩,h3⟩:=h;exact ⟨⟨u,hs _ _ _ h1,h0,PR.mono hs (Gb.le.refl _) c u h2⟩,aK.mono hs r g (o+1) h3⟩
theorem a6.mono {S S':aR} (hs:S.le S'): ∀(k:Nat) (rs:List (List AV)) (g o:Nat),a6 S k rs g o->a6 S' k rs g o
 |k,[],_,_,_=>by simp[a6]
 |k,r::rs,g,o,h=>by
  simp only[a6] at h ⊢;obtain ⟨h1,h2,h3⟩:=h;exact ⟨h1,aK.mono hs r g o h2,a6.mono hs k rs g (o+k) h3⟩
theorem aa.mono {S S':aR} {gb gb':Gb} (hs:S.le S') (hg:gb.le gb'): ∀(cs:List AV) (us:List Value),aa S gb cs us->aa S' gb' cs us
 |[],us,h=>by simpa[aa] using h
 |c::r,us,h=>by
  simp only[aa] at h ⊢;obtain ⟨u,us',h1,h2,h3⟩:=h;exact ⟨u,us',h1,PR.mono hs hg c u h2,aa.mono hs hg r us' h3⟩
end

mutual
theorem PR.restr {S:aR} {gb gb':Gb}: ∀(av:AV) (v:Value),(∀d∈av.ids,gb d=gb' d)->PR S gb av v->PR S gb' av v
 | .undef,_,_,_=>by simp[PR]
 | .int k n,v,_,h=>by simpa[PR] using h
 | .bool b,v,_,h=>by simpa[PR] using h
 | .str s,v,_,h=>by simpa[PR] using h
 | .nils,v,_,h=>by simpa[PR] using h
 | .nilp,v,_,h=>by simpa[PR] using h
 | .nilT d T n,v,hi,h=>by
  simp only[PR] at h ⊢
  have:=hi d (by simp[AV.ids])
  rw[<-this];exact h
 | .sl rows,v,_,h=>by simpa[PR] using h
 | .pin cs,v,_,h=>by simpa[PR] using h
 | .ptr d off,v,hi,h=>by
  simp only[PR] at h ⊢
  have:=hi d (by simp[AV.ids])
  rw[<-this];exact h
 | .ms d off n k,v,hi,h=>by
  simp only[PR] at h ⊢
  have:=hi d (by simp[AV.ids])
  rw[<-this];exact h
 | .itp d,v,hi,h=>by
  simp only[PR] at h ⊢
  have:=hi (.it d) (by simp[AV.ids])
  rw[<-this];exact h
 | .itr _ _,v,hi,h=>by simp[PR] at h
 | .mref d,v,hi,h=>by
  simp only[PR] at h ⊢
  have:=hi d (by simp[AV.ids])
  rw[<-this];exact h
 | .mpv _,v,hi,h=>by simp[PR] at h
 | .fn f cs,v,hi,h=>by
  simp only[PR] at h ⊢;obtain ⟨us,h1,h2⟩:=h;exact ⟨us,h1,aa.restr cs _ (by simpa[AV.ids] using hi) h2⟩
 | .agg cs,v,hi,h=>by
  simp only[PR] at h ⊢;obtain ⟨us,h1,h0,h2⟩:=h;exact ⟨us,h1,h0,aa.restr cs _ (by simpa[AV.ids] using hi) h2⟩
 | .tup cs,v,hi,h=>by
  simp only[PR] at h ⊢;obtain ⟨us,h1,h2⟩:=h;exact ⟨us,h1,aa.restr cs _ (by simpa[AV.ids] using hi) h2⟩
 | .ifc T x,v,hi,h=>by
  simp only[PR] at h ⊢;obtain ⟨u,h1,h2⟩:=h;exact ⟨u,h1,PR.restr x u (by simpa[AV.ids] using hi) h2⟩
 | .nili,v,_,h=>by simpa[PR] using h
 | .yv _,v,_,h=>by simpa[PR] using h
theorem aa.restr {S:aR} {gb gb':Gb}: ∀(cs:List AV) (us:List Value),(∀d∈bm cs,gb d=gb' d)->aa S gb cs us->aa S gb' cs us
 |[],us,_,h=>by simpa[aa] using h
 |c::r,us,hi,h=>by
  simp only[aa] at h ⊢;obtain ⟨u,us',h1,h2,h3⟩:=h;exact ⟨u,us',h1,PR.restr c u (fun d hd=>hi d (by simp[bm,hd])) h2,aa.restr r us' (fun d hd=>hi d (by simp[bm,hd])) h3⟩
end

mutual
theorem cf {S:aR} {gb:Gb}: ∀(av av':AV) (v:Value),em av=some av'->PR S gb av v->PR S fP av' v
 | .undef,_,_,h,_=>by simp[em] at h
 | .int k n,_,v,h,p=>by simp[em] at h;subst h;simpa[PR] using p
 | .bool b,_,v,h,p=>by simp[em] at h;subst h;simpa[PR] using p
 | .str s,_,v,h,p=>by simp[em] at h;subst h;simpa[PR] using p
 | .nils,_,v,h,p=>by simp[em] at h;subst h;simp only[PR] at p ⊢;exact .inl ⟨p,trivial⟩
 | .nilp,_,v,h,p=>by simp[em] at h;subst h;simpa[PR] using p
 | .nilT _ _ _,_,v,h,p=>by
  simp only[em,cW] at h;subst h;simp only[PR] at p ⊢;exact p.1
 | .sl rows,_,v,h,p=>by simp[em] at h;subst h;simpa[PR] using p
 | .pin cs,_,v,h,p=>by simp[em] at h;subst h;simpa[PR] using p
 | .ptr d off,_,v,h,p=>by simp[em] at h
 | .ms d off n k,_,v,h,p=>by simp[em] at h
 | .itp _,_,v,h,p=>by simp[em] at h
 | .itr _ _,_,v,h,p=>by simp[em] at h
 | .mref _,_,v,h,p=>by simp[em] at h
 | .mpv _,_,v,h,p=>by simp[em] at h
 | .fn f cs,_,v,h,p=>by
  simp only[em,AB] at h;obtain ⟨cs',h1,rfl⟩:=h;simp only[PR] at p ⊢;obtain ⟨us,h2,h3⟩:=p;exact ⟨us,h2,jS cs cs' _ h1 h3⟩
 | .agg cs,_,v,h,p=>by
  simp only[em,AB] at h;obtain ⟨cs',h1,rfl⟩:=h;simp only[PR] at p ⊢;obtain ⟨us,h2,h0,h3⟩:=p;exact ⟨us,h2,h0,jS cs cs' _ h1 h3⟩
 | .tup cs,_,v,h,p=>by
  simp only[em,AB] at h;obtain ⟨cs',h1,rfl⟩:=h;simp only[PR] at p ⊢;obtain ⟨us,h2,h3⟩:=p;exact ⟨us,h2,jS cs cs' _ h1 h3⟩
 | .ifc T x,_,v,h,p=>by
  simp only[em,AB] at h;obtain ⟨x',h1,rfl⟩:=h;simp only[PR] at p ⊢;obtain ⟨u,h2,h3⟩:=p;exact ⟨u,h2,cf x x' u h1 h3⟩
 | .nili,_,v,h,p=>by simp[em] at h;subst h;simpa[PR] using p
 | .yv _,_,v,h,p=>by simp[em] at h;subst h;simpa[PR] using p
theorem jS {S:aR} {gb:Gb}: ∀(cs cs':List AV) (us:List Value),k9 cs=some cs'->aa S gb cs us->aa S fP cs' us
 |[],_,us,h,p=>by simp[k9] at h;subst h;simpa[aa] using p
 |c::r,_,us,h,p=>by
  simp only[k9] at h;split at h
  ·rename_i c' r' hc hr;simp only[cW] at h;subst h;simp only[aa] at p ⊢;obtain ⟨u,us',h1,h2,h3⟩:=p;exact ⟨u,us',h1,cf c c' u hc h2,jS r r' us' hr h3⟩
  ·cases h
end

mutual
theorem xL {S:aR} {gb:Gb}: ∀(av av':AV) (v:Value),q8 av=some av'->PR S gb av v->PR S fP av' v
 | .nils,_,v,h,p=>by simp[q8] at h;subst h;simpa[PR] using p
 | .agg cs,_,v,h,p=>by
  simp only[q8,AB] at h;obtain ⟨cs',h1,rfl⟩:=h;simp only[PR] at p ⊢;obtain ⟨us,h2,h0,h3⟩:=p;exact ⟨us,h2,h0,l7 cs cs' _ h1 h3⟩
 | .tup cs,_,v,h,p=>by
  simp only[q8,AB] at h;obtain ⟨cs',h1,rfl⟩:=h;simp only[PR] at p ⊢;obtain ⟨us,h2,h3⟩:=p;exact ⟨us,h2,l7 cs cs' _ h1 h3⟩
 | .undef,_,v,h,p=>cf _ _ _ h p
 | .int _ _,_,v,h,p=>cf _ _ _ h p
 | .bool _,_,v,h,p=>cf _ _ _ h p
 | .str _,_,v,h,p=>cf _ _ _ h p
 | .sl _,_,v,h,p=>cf _ _ _ h p
 | .pin _,_,v,h,p=>cf _ _ _ h p
 | .ptr _ _,_,v,h,p=>cf _ _ _ h p
 | .ms _ _ _ _,_,v,h,p=>cf _ _ _ h p
 | .fn _ _,_,v,h,p=>cf _ _ _ h p
 | .itr _ _,_,v,h,p=>cf _ _ _ h p
 | .itp _,_,v,h,p=>cf _ _ _ h p
 | .mref _,_,v,h,p=>cf _ _ _ h p
 | .mpv _,_,v,h,p=>cf _ _ _ h p
 | .nilp,_,v,h,p=>cf _ _ _ h p
 | .nilT _ _ _,_,v,h,p=>cf _ _ _ h p
 | .ifc _ _,_,v,h,p=>cf _ _ _ h p
 | .nili,_,v,h,p=>cf _ _ _ h p
 | .yv _,_,v,h,p=>cf _ _ _ h p
theorem l7 {S:aR} {gb:Gb}: ∀(cs cs':List AV) (us:List Value),lz cs=some cs'->aa S gb cs us->aa S fP cs' us
 |[],_,us,h,p=>by simp[lz] at h;subst h;simpa[aa] using p
 |c::r,_,us,h,p=>by
  simp only[lz] at h;split at h
  ·rename_i c' r' hc hr;simp only[cW] at h;subst h;simp only[aa] at p ⊢;obtain ⟨u,us',h1,h2,h3⟩:=p;exact ⟨u,us',h1,xL c c' u hc h2,l7 r r' us' hr h3⟩
  ·cases h
end

theorem aa.length {S:aR} {gb:Gb}: ∀ {cs:List AV} {us:List Value},aa S gb cs us->cs.length=us.length
 |[],us,h=>by simp[aa] at h;subst h;rfl
 |c::r,us,h=>by
  simp only[aa] at h;obtain ⟨u,us',rfl,_,h3⟩:=h;simp[aa.length h3]
theorem aa.setNil {S:aR} {gb:Gb} {d:Id} {T n g:Nat} (hg:gb d=some (g,⟨n,T⟩)): ∀ {cs:List AV} {us:List Value},aa S gb cs us-> ∀ {off:Nat},cs[off]?=some .nilp->aa S gb (cs.set off (.nilT d T n)) us
 |[],us,h,off,h2=>by simp at h2
 |c::r,us,h,0,h2=>by
  simp only[List.getElem?_cons_zero,cW] at h2;subst h2;simp only[List.set_cons_zero,aa,PR] at h ⊢;obtain ⟨u,us',h1,h3,h4⟩:=h;exact ⟨u,us',h1,⟨h3,g,hg⟩,h4⟩
 |c::r,us,h,off+1,h2=>by
  simp only[List.getElem?_cons_succ] at h2;simp only[List.set_cons_succ,aa] at h ⊢;obtain ⟨u,us',h1,h3,h4⟩:=h;exact ⟨u,us',h1,h3,aa.setNil hg h4 h2⟩
theorem aa.get {S:aR} {gb:Gb}: ∀ {cs:List AV} {us:List Value},aa S gb cs us-> ∀ {i:Nat} {c:AV},cs[i]?=some c-> ∃u,us[i]?=some u/\PR S gb c u
 |[],us,h,i,c,hc=>by simp at hc
 |c0::r,us,h,i,c,hc=>by
  simp only[aa] at h;obtain ⟨u,us',rfl,h2,h3⟩:=h;cases i with
  |zero=>simp at hc;subst hc;exact ⟨u,by simp,h2⟩
  |succ i=>simp at hc;obtain ⟨u',h4,h5⟩:=aa.get h3 hc;exact ⟨u',by simpa using h4,h5⟩
theorem aa.append {S:aR} {gb:Gb}: ∀ {cs cs':List AV} {us us':List Value},aa S gb cs us->aa S gb cs' us'->aa S gb (cs++cs') (us++us')
 |[],cs',us,us',h,h'=>by simp[aa] at h;subst h;simpa using h'
 |c::r,cs',us,us',h,h'=>by
  simp only[aa] at h;obtain ⟨u,us1,rfl,h2,h3⟩:=h;exact ⟨u,us1++us',by simp,h2,aa.append h3 h'⟩
theorem aa.take {S:aR} {gb:Gb} (n:Nat): ∀ {cs:List AV} {us:List Value},aa S gb cs us->aa S gb (cs.take n) (us.take n):=by
 induction n with
 |zero=>intro cs us h;simp[aa]
 |succ n ih=>
  intro cs us h;cases cs with
  |nil=>simp[aa] at h;subst h;simp[aa]
  |cons c r=>
   simp only[aa] at h;obtain ⟨u,us',rfl,h2,h3⟩:=h;exact ⟨u,us'.take n,by simp,h2,ih h3⟩
theorem aa.drop {S:aR} {gb:Gb} (n:Nat): ∀ {cs:List AV} {us:List Value},aa S gb cs us->aa S gb (cs.drop n) (us.drop n):=by
 induction n with
 |zero=>intro cs us h;simpa using h
 |succ n ih=>
  intro cs us h;cases cs with
  |nil=>simp[aa] at h;subst h;simp[aa]
  |cons c r=>
   simp only[aa] at h;obtain ⟨u,us',rfl,h2,h3⟩:=h;simpa using ih h3

theorem aK.drop {S:aR} (n:Nat): ∀ {cs:List AV} {g o:Nat},aK S cs g o->aK S (cs.drop n) g (o+n):=by
 induction n with
 |zero=>intro cs g o h;simpa using h
 |succ n ih=>
  intro cs g o h;cases cs with
  |nil=>simp[aK]
  |cons c r=>
   simp only[aK] at h
   have:=ih h.2
   simpa[Gd,N8 1 n] using this
theorem aK.get {S:aR}: ∀ {cs:List AV} {g o:Nat},aK S cs g o-> ∀ {i:Nat} {c:AV},cs[i]?=some c-> ∃u,S g (o+i)=some u/\u.oneCell'=true/\PR S fP c u
 |[],g,o,h,i,c,hc=>by simp at hc
 |c0::r,g,o,h,i,c,hc=>by
  simp only[aK] at h;obtain ⟨⟨u,h1,h0,h2⟩,h3⟩:=h;cases i with
  |zero=>simp at hc;subst hc;exact ⟨u,by simpa using h1,h0,h2⟩
  |succ i=>simp at hc;obtain ⟨u',h4,h5⟩:=aK.get h3 hc;exact ⟨u',by rw[show o+(i+1)=o+1+i by omega];exact h4,h5⟩
theorem aK.list {S:aR}: ∀ {cs:List AV} {g o:Nat},aK S cs g o-> ∃us:List Value,us.length=cs.length/\(∀j u,us[j]?=some u->S g (o+j)=some u)/\(∀u∈us,u.oneCell'=true)/\aa S fP cs us
 |[],g,o,h=>⟨[],by simp[aa]⟩
 |c::r,g,o,h=>by
  simp only[aK] at h;obtain ⟨⟨u,h1,h0,h2⟩,h3⟩:=h;obtain ⟨us,l1,l2,l4,l3⟩:=aK.list h3;refine ⟨u::us,by simp[l1],?_,?_,⟨u,us,rfl,h2,l3⟩⟩
  ·intro j x hx;cases j with
   |zero=>simp at hx;subst hx;simpa using h1
   |succ j=>simp at hx;rw[show o+(j+1)=o+1+j by omega];exact l2 j x hx
  ·intro x hx;cases hx with
   |head=>exact h0
   |tail _ hx=>exact l4 x hx
theorem aK.of_list {S:aR}: ∀ {cs:List AV} {us:List Value} {g o:Nat},aa S fP cs us->(∀u∈us,u.oneCell'=true)->(∀j u,us[j]?=some u->S g (o+j)=some u)->aK S cs g o
 |[],us,g,o,_,_,_=>by simp[aK]
 |c::r,us,g,o,h,h1,hs=>by
  simp only[aa] at h;obtain ⟨u,us',rfl,h2,h3⟩:=h;simp only[aK];refine ⟨⟨u,by simpa using hs 0 u (by simp),h1 u (by simp),h2⟩,aK.of_list h3 (fun x hx=>h1 x (by simp[hx])) (fun j x hx=>?_)⟩;rw[show o+1+j=o+(j+1) by omega];exact hs (j+1) x (by simpa using hx)
theorem aK.append {S:aR}: ∀ {cs cs':List AV} {g o:Nat},aK S cs g o->aK S cs' g (o+cs.length)->aK S (cs++cs') g o
 |[],cs',g,o,_,h'=>by simpa using h'
 |c::r,cs',g,o,h,h'=>by
  simp only[aK,cB] at h ⊢;exact ⟨h.1,aK.append h.2 (by rw[show o+1+r.length=o+(c::r).length by simp;omega];exact h')⟩
theorem a6.flat {S:aR} {k:Nat}: ∀ {rows:List (List AV)} {g o:Nat},a6 S k rows g o↔(∀r∈rows,r.length=k)/\aK S rows.flatten g o
 |[],g,o=>by simp[a6,aK]
 |r::rs,g,o=>by
  simp only[a6,List.flatten_cons,Q6];constructor
  ·rintro ⟨h1,h2,h3⟩;obtain ⟨h4,h5⟩:=a6.flat.1 h3;exact ⟨⟨h1,h4⟩,aK.append h2 (by rw[h1];exact h5)⟩
  ·rintro ⟨⟨h1,h4⟩,h5⟩;obtain ⟨us,l1,l2,l4,l3⟩:=aK.list h5;have ht:=l3.take r.length;have hd:=l3.drop r.length;simp only[List.take_left',List.drop_left'] at ht hd;refine ⟨h1,aK.of_list ht (fun u hu=>l4 u (DT hu)) (fun j u hu=>?_),a6.flat.2 ⟨h4,aK.of_list hd (fun u hu=>l4 u (List.mem_of_mem_drop hu)) (fun j u hu=>?_)⟩⟩
   ·rw[qr] at hu;split at hu
    ·exact l2 j u hu
    ·cases hu
   ·rw[List.getElem?_drop] at hu;rw[<-h1,Gd];exact l2 _ u hu
theorem bW {k:Nat}: ∀ {rows:List (List AV)},(∀r∈rows,r.length=k)->rows.flatten.length=rows.length*k
 |[],_=>by simp
 |r::rs,h=>by
  simp only[Q6] at h;simp[bW h.2,h.1,Nat.add_mul,N8]
theorem a6.get {S:aR} {k:Nat}: ∀ {rows:List (List AV)} {g o:Nat},a6 S k rows g o-> ∀ {i:Nat} {r:List AV},rows[i]?=some r->r.length=k/\aK S r g (o+i*k)
 |[],g,o,h,i,r,hr=>by simp at hr
 |r0::rs,g,o,h,i,r,hr=>by
  simp only[a6] at h;obtain ⟨h1,h2,h3⟩:=h;cases i with
  |zero=>simp at hr;subst hr;exact ⟨h1,by simpa using h2⟩
  |succ i=>simp at hr;have:=a6.get h3 hr;rw[show o+(i+1)*k=o+k+i*k by rw[Nat.add_mul];omega];exact this
theorem a6.take {S:aR} {k:Nat} (n:Nat): ∀ {rows:List (List AV)} {g o:Nat},a6 S k rows g o->a6 S k (rows.take n) g o:=by
 induction n with
 |zero=>intro rows g o _;simp[a6]
 |succ n ih=>
  intro rows g o h;cases rows with
  |nil=>simp[a6]
  |cons r rs=>simp only[a6,List.take_succ_cons] at h ⊢;exact ⟨h.1,h.2.1,ih h.2.2⟩
theorem a6.drop {S:aR} {k:Nat} (n:Nat): ∀ {rows:List (List AV)} {g o:Nat},a6 S k rows g o->a6 S k (rows.drop n) g (o+n*k):=by
 induction n with
 |zero=>intro rows g o h;simpa using h
 |succ n ih=>
  intro rows g o h;cases rows with
  |nil=>simp[a6]
  |cons r rs=>
   simp only[a6,List.drop_succ_cons] at h ⊢
   have:=ih h.2.2
   rw[show o+(n+1)*k=o+k+n*k by rw[Nat.add_mul];omega];exact this
end Go.Ai
namespace Go.Ai
open Go.RowKit

def Pl.at (d:Nat):Pl->Bool
 | .s j=>j==d
 | .t j _=>j==d
 | .b _ _=>false
def ct (gb:Gb) (sv:Nat->Value) (w:World):Pl->Value
 | .s t=>sv t
 | .t t i=>match sv t with
  | .tuple us=>us.getD i undef
  |_=>undef
 | .b d off=>match gb d with
  |some (g,_)=>(w.cell? ⟨g,off,none⟩).getD undef
  |none=>undef

def KB:Nat:=4294967296
def rk (S:aR) (w:World) (k:Nat) (v:Value):Prop:=
 v= .slice none 0 0\/(k<KB/\ ∃g n cap cur T,v= .slice (some ⟨g,0,none⟩) n cap/\w.heap[g]?=some (.cells cur T (0,0))/\n<=cap/\cap<=maxLen/\cap*k<=cur.size/\(∀o,n*k<=o->S g o=none))\/
  (KB<=k/\ ∃g n cap cur,v= .slice (some ⟨g,0,none⟩) n cap/\w.heap[g]?=some (.cells cur (k - KB) (0,0))/\n<=cap/\cap<=maxLen/\cur.size=cap/\(∀o,n<=o->S g o=none))

structure Bw (M:Nat->Prop) (w w':World):Prop where
 os:w'.os=w.os
 tape:w'.tape=w.tape
 output:w'.output=w.output
 size:w.heap.size<=w'.heap.size
 block: ∀k,k<w.heap.size-> ¬M k->w'.heap[k]?=w.heap[k]?
theorem Bw.refl (M:Nat->Prop) (w:World):Bw M w w:=⟨rfl,rfl,rfl,eR _,fun _ _ _=>rfl⟩
theorem Bw.of_below {M:Nat->Prop} {w w':World} (h:Below w.heap.size w w'):Bw M w w':=⟨h.os,h.tape,h.output,h.size,fun k hk _=>h.block k hk⟩
theorem Bw.trans {M M':Nat->Prop} {a b c:World} (h:Bw M a b) (k:Bw M' b c) (hm: ∀g,g<a.heap.size->M' g->M g):Bw M a c:=
 ⟨k.os.trans h.os,k.tape.trans h.tape,k.output.trans h.output,mu h.size k.size,fun i hi hn=>(k.block i (AD hi h.size) (fun e=>hn (hm i hi e))).trans (h.block i hi hn)⟩

def MK.val:MK->Value
 | .s l=> .string ⟨l.toArray⟩
 | .i k n=> .int k n
def eH (es:List (MK×MK)):Array MapEntry:=(es.zipIdx.map fun p=>(⟨p.1.1.val,p.1.2.val,p.2⟩:MapEntry)).toArray
def tG:List AV->Option Obj
 |[.itr s pos]=>some (.stringIter ⟨s.toArray⟩ pos)
 |[.mpv es]=>some (.map (eH es) es.length)
 |_=>none
theorem qE {cs:List AV} {ob:Obj} (h:tG cs=some ob): ∃v,cs=[v]/\v≠ .nils:=by
 unfold tG at h;split at h
 ·exact ⟨_,rfl,by simp⟩
 ·exact ⟨_,rfl,by simp⟩
 ·cases h
theorem Gg {cs cs':List AV} {ob:Obj} (h:tG cs=some ob) (hw:qD cs cs'):tG cs'=some ob:=by
 obtain ⟨v,rfl,hv⟩:=qE h
 match cs',hw with
 |[u],hw=>
  simp only[qD] at hw;rcases hw.1 with e|⟨e,_⟩
  ·rw[<-e];exact h
  ·exact absurd e hv
 |[],hw=>simp[qD] at hw
 |_::_::_,hw=>simp[qD] at hw
structure HR (S:aR) (gb:Gb) (bx:List (Id×List AV)) (pm:List (Pl×Nat)) (sv:Nat->Value) (w:World):Prop where
 agree: ∀g o v,S g o=some v->w.cell? ⟨g,o,none⟩=some v
 box: ∀d cs,aD bx d=some cs->d.isIt=false-> ∃g us T,gb d=some (g,⟨us.size,T⟩)/\w.heap[g]?=some (.cells us T (0,0))/\cs.length<=us.size/\aa S gb cs (us.toList.take cs.length)/\(∀u∈us.toList,u.oneCell'=true)/\(∀o,S g o=none)
 its: ∀d cs,aD bx d=some cs->d.isIt=true-> ∃g z ob,gb d=some (g,z)/\tG cs=some ob/\w.heap[g]?=some ob/\ ∀o,S g o=none
 inj: ∀d d' g z z',(aD bx d).isSome->(aD bx d').isSome->gb d=some (g,z)->gb d'=some (g,z')->d=d'
 own: ∀p k,aH pm p=some k->rk S w k (ct gb sv w p)
 ownd: ∀p q k l b,aH pm p=some k->aH pm q=some l->(ct gb sv w p).ownBlock=some b->(ct gb sv w q).ownBlock=some b->p=q
 ownb: ∀p k b d z,aH pm p=some k->(ct gb sv w p).ownBlock=some b->(aD bx d).isSome->gb d≠some (b,z)
 pmb: ∀d off k,aH pm (.b d off)=some k->(aD bx d).isSome/\d.isIt=false

structure Fr where
 S0:aR
 w0:World
 M:Nat->Prop
 gb:Gb
 N:Nat
 GL:List (Nat×List Value)
 df:List Deferred

def tv (a:Act):Nat->Value:=fun t=>a.tmps.getD t undef

structure aN (F:Fr) (S:aR) (gb:Gb) (σ:St) (a:Act) (w:World):Prop where
 defers:a.defers=F.df
 size:a.tmps.size=F.N
 bw:Bw F.M F.w0 w
 ext: ∀g o,g<F.w0.heap.size-> ¬F.M g->S g o=F.S0 g o
 le:F.S0.le S
 env: ∀t,PR S gb (lk σ.e t) (tv a t)
 hr:HR S gb σ.bx σ.pm (tv a) w
 newb: ∀d g z,(aD σ.bx d).isSome->gb d=some (g,z)->F.w0.heap.size<=g\/F.M g
 newo: ∀p k g,aH σ.pm p=some k->(ct gb (tv a) w p).ownBlock=some g->F.w0.heap.size<=g\/F.M g
 dom: ∀d,gb d≠none->(aD σ.bx d).isSome\/d.isUp=true
 up: ∀d,gb (.up d)=F.gb d
 glo: ∀i us,F.GL.lookup i=some us-> ∀(o:Nat) (u:Value),us[o]?=some u->F.S0 i o=some u/\u.oneCell'=true

theorem jH (l:List (Pl×Nat)) (p q:Pl):aH (dl l p) q=if q=p then none else aH l q:=by
 induction l with
 |nil=>simp[dl,aH]
 |cons x r ih=>
  obtain ⟨y,k⟩:=x;simp only[dl];split
  ·rename_i h;subst h;rw[ih];simp only[aH];split
   ·rfl
   ·rename_i h2;rw[if_neg (fun e=>h2 e.symm)]
  ·rename_i h;simp only[aH,ih];split
   ·rename_i h2;subst h2;rw[if_neg (fun e=>h e)]
   ·rfl
theorem gJ (l:List (Pl×Nat)) (d:Nat) (q:Pl):aH (gV l d) q=if q.at d=true then none else aH l q:=by
 induction l with
 |nil=>simp[gV,aH]
 |cons x r ih=>
  obtain ⟨y,k⟩:=x;cases y with
  |s t=>
   simp only[gV];split
   ·rename_i h;subst h;rw[ih];simp only[aH];split
    ·rfl
    ·rename_i h2;rw[if_neg];intro e;subst e;simp[Pl.at] at h2
   ·rename_i h;simp only[aH,ih];split
    ·rename_i h2;subst h2;simp[Pl.at,h]
    ·rfl
  |t t i=>
   simp only[gV];split
   ·rename_i h;subst h;rw[ih];simp only[aH];split
    ·rfl
    ·rename_i h2;rw[if_neg];intro e;subst e;simp[Pl.at] at h2
   ·rename_i h;simp only[aH,ih];split
    ·rename_i h2;subst h2;simp[Pl.at,h]
    ·rfl
  |b e o=>
   simp only[gV,aH,ih];split
   ·rename_i h2;subst h2;simp[Pl.at]
   ·rfl
theorem kE (l:List (Pl×Nat)) (d:Id) (q:Pl):aH (tP l d) q=match q with | .b e _=>if e=d then none else aH l q|_=>aH l q:=by
 induction l with
 |nil=>cases q<;>simp[tP,aH]
 |cons x r ih=>
  obtain ⟨y,k⟩:=x;cases y with
  |b e o=>
   simp only[tP];split
   ·rename_i h;subst h;rw[ih];cases q with
    |b e2 o2=>
     simp only[aH];split
     ·rfl
     ·rename_i h2;rw[if_neg];intro h3;cases h3;exact h2 rfl
    |s t=>simp[aH]
    |t t i=>simp[aH]
   ·rename_i h;simp only[aH,ih];cases q with
    |b e2 o2=>
     simp only[];split
     ·rename_i h2;cases h2;rw[if_neg h]
     ·rfl
    |s t=>simp
    |t t i=>simp
  |s t=>
   simp only[tP,aH,ih];cases q with
   |b e2 o2=>simp
   |s t2=>rfl
   |t t2 i=>rfl
  |t t j=>
   simp only[tP,aH,ih];cases q with
   |b e2 o2=>simp
   |s t2=>rfl
   |t t2 i=>rfl
theorem Cv (l:List (Pl×Nat)) (d:Id) (off n:Nat) (q:Pl) {k:Nat} (h:aH (xA l d off n) q=some k):aH l q=some k/\ ∀o,q= .b d o-> ¬(off<=o/\o<off+n):=by
 induction l with
 |nil=>simp[xA,aH] at h
 |cons x r ih=>
  obtain ⟨y,k'⟩:=x;cases y with
  |s t=>
   simp only[xA,aH] at h ⊢;split
   ·rename_i h2;subst h2;rw[if_pos rfl] at h;exact ⟨h,by simp⟩
   ·rename_i h2;rw[if_neg h2] at h;exact ih h
  |t t i=>
   simp only[xA,aH] at h ⊢;split
   ·rename_i h2;subst h2;rw[if_pos rfl] at h;exact ⟨h,by simp⟩
   ·rename_i h2;rw[if_neg h2] at h;exact ih h
  |b e o=>
   simp only[xA] at h;split at h
   ·rename_i h2;obtain ⟨h3,h4⟩:=ih h;simp only[aH];refine ⟨?_,h4⟩;rw[if_neg]
    ·exact h3
    ·intro e';subst e';obtain ⟨rfl,h5⟩:=h2;exact h4 o rfl h5
   ·rename_i h2;simp only[aH] at h ⊢;split
    ·rename_i h3;subst h3;rw[if_pos rfl] at h;refine ⟨h,fun o' e'=>?_⟩;simp only[Pl.b.injEq] at e';obtain ⟨rfl,rfl⟩:=e';exact fun h5=>h2 ⟨rfl,h5⟩
    ·rename_i h3;rw[if_neg h3] at h;exact ih h

theorem rk.mono {S S':aR} {w w':World} {k:Nat} {v:Value} (h:rk S w k v) (hh: ∀g,v.ownBlock=some g->w'.heap[g]?=w.heap[g]?) (hs: ∀g o,v.ownBlock=some g->S g o=none->S' g o=none):rk S' w' k v:=by
 rcases h with h|⟨hk,g,n,cap,cur,T,rfl,h3,h4,h5,h6,h7⟩|⟨hk,g,n,cap,cur,rfl,h3,h4,h5,h6,h7⟩
 ·exact .inl h
 ·refine .inr (.inl ⟨hk,g,n,cap,cur,T,rfl,?_,h4,h5,h6,fun o ho=>hs g o rfl (h7 o ho)⟩);rw[hh g rfl];exact h3
 ·refine .inr (.inr ⟨hk,g,n,cap,cur,rfl,?_,h4,h5,h6,fun o ho=>hs g o rfl (h7 o ho)⟩);rw[hh g rfl];exact h3
theorem rk.lt {S:aR} {w:World} {k:Nat} {v:Value} (h:rk S w k v) {g:Nat} (hg:v.ownBlock=some g):g<w.heap.size:=by
 rcases h with h|⟨_,g',n,cap,cur,T,h,h3,_⟩|⟨_,g',n,cap,cur,h,h3,_⟩
 ·rw[h] at hg;simp[Value.ownBlock] at hg
 ·rw[h] at hg;simp[Value.ownBlock] at hg;subst hg;exact (qC.1 h3).1
 ·rw[h] at hg;simp[Value.ownBlock] at hg;subst hg;exact (qC.1 h3).1

theorem xM {xs:Array Value} {d t:Nat} {v:Value} (hd:d<xs.size):(xs.setIfInBounds d v).getD t undef=if d=t then v else xs.getD t undef:=by
 simp only[kC,Array.getElem?_setIfInBounds];split
 ·rename_i h;subst h;simp
 ·rfl

variable {F:Fr} {S:aR} {gb:Gb} {σ:St} {a:Act} {w:World}

theorem iZ {d:Nat} {u:Value} (hd:d<a.tmps.size) (t:Nat):tv (a.put (some d) u) t=if d=t then u else tv a t:=by
 simp only[tv,Act.put,xM hd]
theorem cU {d:Nat} {u:Value} (hd:d<a.tmps.size) {p:Pl} (hp:p.at d=false):ct gb (tv (a.put (some d) u)) w p=ct gb (tv a) w p:=by
 cases p with
 |s t=>simp only[Pl.at,cH] at hp;simp only[ct,iZ hd];rw[if_neg (fun e=>hp e.symm)]
 |t t i=>simp only[Pl.at,cH] at hp;simp only[ct,iZ hd];rw[if_neg (fun e=>hp e.symm)]
 |b d off=>rfl

theorem HR.gblt (h:HR S gb σ.bx σ.pm (tv a) w) {d:Id} {g:Nat} {z:BZ} (hd:(aD σ.bx d).isSome) (hg:gb d=some (g,z)):g<w.heap.size:=by
 obtain ⟨cs,hcs⟩:=jp.1 hd;cases hi:d.isIt with
 |false=>
  obtain ⟨g',us,T,e1,e3,_⟩:=h.box d cs hcs hi;rw[hg] at e1;cases e1;exact (qC.1 e3).1
 |true=>
  obtain ⟨g',z',ob,e1,_,e3,_⟩:=h.its d cs hcs hi;rw[hg] at e1;cases e1;exact (qC.1 e3).1

theorem aN.put (h:aN F S gb σ a w) {d:Nat} (hd:d<F.N) {v:AV} {u:Value} (hp:PR S gb v u):aN F S gb (σ.put d v) (a.put (some d) u) w:=by
 have hd':d<a.tmps.size:=by rw[h.size];exact hd
 have hat: ∀p k,aH (σ.put d v).pm p=some k->p.at d=false/\aH σ.pm p=some k:=by
  intro p k hk;simp only[St.put,gJ] at hk;split at hk
  ·cases hk
  ·rename_i hne;exact ⟨by simpa using hne,hk⟩
 refine ⟨h.defers,by simp[Act.put,h.size],h.bw,h.ext,h.le,?_,⟨h.hr.agree,h.hr.box,h.hr.its,h.hr.inj,?_,?_,?_,?_⟩,h.newb,?_,h.dom,h.up,h.glo⟩
 ·intro t;simp only[iZ hd',St.put,lk];split
  ·exact hp
  ·exact h.env t
 ·intro p k hk;obtain ⟨h1,h2⟩:=hat p k hk;rw[cU hd' h1];exact h.hr.own p k h2
 ·intro p q k l b hk hl h1 h2;obtain ⟨p1,p2⟩:=hat p k hk;obtain ⟨q1,q2⟩:=hat q l hl;rw[cU hd' p1] at h1;rw[cU hd' q1] at h2;exact h.hr.ownd p q k l b p2 q2 h1 h2
 ·intro p k b d' z hk h1;obtain ⟨p1,p2⟩:=hat p k hk;rw[cU hd' p1] at h1;exact h.hr.ownb p k b d' z p2 h1
 ·intro e off k hk;exact h.hr.pmb e off k (hat _ k hk).2
 ·intro p k g hk hg;obtain ⟨p1,p2⟩:=hat p k hk;rw[cU hd' p1] at hg;exact h.newo p k g p2 hg

theorem aN.puto (h:aN F S gb σ a w) {d:Nat} (hd:d<F.N) {v:AV} {u:Value} (hp:PR S gb v u) {k:Nat} (ho:rk S w k u) (hn: ∀g,u.ownBlock=some g->F.w0.heap.size<=g\/F.M g)
  (hq: ∀p l b,aH σ.pm p=some l->p.at d=false->(ct gb (tv a) w p).ownBlock=some b->u.ownBlock≠some b) (hb: ∀b d' z,u.ownBlock=some b->(aD σ.bx d').isSome->gb d'≠some (b,z)):
  aN F S gb (σ.puto d v k) (a.put (some d) u) w:=by
 have hd':d<a.tmps.size:=by rw[h.size];exact hd
 have h1:=h.put hd hp;have hs:ct gb (tv (a.put (some d) u)) w (.s d)=u:=by simp[ct,iZ hd']
 have hat: ∀p l,aH (σ.puto d v k).pm p=some l->(p= .s d/\l=k)\/(p.at d=false/\aH σ.pm p=some l):=by
  intro p l hl;simp only[St.puto,aH,gJ] at hl;split at hl
  ·rename_i e;subst e;simp only[cW] at hl;exact .inl ⟨rfl,hl.symm⟩
  ·split at hl
   ·cases hl
   ·rename_i hne;exact .inr ⟨by simpa using hne,hl⟩
 refine ⟨h1.defers,h1.size,h1.bw,h1.ext,h1.le,h1.env,⟨h1.hr.agree,h1.hr.box,h1.hr.its,h1.hr.inj,?_,?_,?_,?_⟩,h1.newb,?_,h1.dom,h1.up,h1.glo⟩
 ·intro p l hl;rcases hat p l hl with ⟨rfl,rfl⟩|⟨p1,p2⟩
  ·rw[hs];exact ho
  ·rw[cU hd' p1];exact h.hr.own p l p2
 ·intro p q l m b hl hm g1 g2;rcases hat p l hl with ⟨rfl,rfl⟩|⟨p1,p2⟩
  ·rcases hat q m hm with ⟨rfl,rfl⟩|⟨q1,q2⟩
   ·rfl
   ·rw[hs] at g1;rw[cU hd' q1] at g2;exact absurd g1 (hq q m b q2 q1 g2)
  ·rw[cU hd' p1] at g1;rcases hat q m hm with ⟨rfl,rfl⟩|⟨q1,q2⟩
   ·rw[hs] at g2;exact absurd g2 (hq p l b p2 p1 g1)
   ·rw[cU hd' q1] at g2;exact h.hr.ownd p q l m b p2 q2 g1 g2
 ·intro p l b d' z hl g1;rcases hat p l hl with ⟨rfl,rfl⟩|⟨p1,p2⟩
  ·rw[hs] at g1;exact hb b d' z g1
  ·rw[cU hd' p1] at g1;exact h.hr.ownb p l b d' z p2 g1
 ·intro e off l hl;rcases hat _ l hl with ⟨e,_⟩|⟨p1,p2⟩
  ·cases e
  ·exact h.hr.pmb e off l p2
 ·intro p l g hl hg;rcases hat p l hl with ⟨rfl,rfl⟩|⟨p1,p2⟩
  ·rw[hs] at hg;exact hn g hg
  ·rw[cU hd' p1] at hg;exact h.newo p l g p2 hg

theorem aN.fewer (h:aN F S gb σ a w) {pm:List (Pl×Nat)} (hpm: ∀p k,aH pm p=some k->aH σ.pm p=some k):aN F S gb ⟨σ.e,σ.bx,pm⟩ a w:=
 ⟨h.defers,h.size,h.bw,h.ext,h.le,h.env,⟨h.hr.agree,h.hr.box,h.hr.its,h.hr.inj,fun p k hk=>h.hr.own p k (hpm p k hk),fun p q k l b hk hl=>h.hr.ownd p q k l b (hpm p k hk) (hpm q l hl),
  fun p k b d z hk=>h.hr.ownb p k b d z (hpm p k hk),fun d off k hk=>h.hr.pmb d off k (hpm _ k hk)⟩,h.newb,fun p k g hk=>h.newo p k g (hpm p k hk),h.dom,h.up,h.glo⟩
theorem aN.drop (h:aN F S gb σ a w) (p:Pl):aN F S gb ⟨σ.e,σ.bx,dl σ.pm p⟩ a w:=h.fewer (fun q k hk=>by
 rw[jH] at hk;split at hk
 ·cases hk
 ·exact hk)

theorem aN.step (h:aN F S gb σ a w) {S':aR} {w':World} (hb:Below w.heap.size w w') (hext: ∀g o,g<w.heap.size->S' g o=S g o) (hle:S.le S')
  (hag: ∀g o v,S' g o=some v->w'.cell? ⟨g,o,none⟩=some v):aN F S' gb σ a w':=by
 have hpl: ∀p k,aH σ.pm p=some k->ct gb (tv a) w' p=ct gb (tv a) w p:=by
  intro p k hk;cases p with
  |s t=>rfl
  |t t i=>rfl
  |b d off=>
   simp only[ct];cases hg:gb d with
   |none=>rfl
   |some x=>
    obtain ⟨g,z⟩:=x
    have:=h.hr.gblt (h.hr.pmb d off k hk).1 hg
    simp only[];rw[hb.cell (p:=⟨g,off,none⟩) this]
 refine ⟨h.defers,h.size,h.bw.trans (Bw.of_below hb) (M':=fun _=>False) (fun _ _ e=>e.elim),?_,h.le.trans hle,fun t=>PR.mono hle (Gb.le.refl _) _ _ (h.env t),⟨hag,?_,?_,h.hr.inj,?_,?_,?_,h.hr.pmb⟩,h.newb,?_,h.dom,h.up,h.glo⟩
 ·intro g o hg hm;rw[hext g o (AD hg h.bw.size)];exact h.ext g o hg hm
 ·intro d cs hcs hi;obtain ⟨g,us,T,e1,e3,e0,e4,e5,e6⟩:=h.hr.box d cs hcs hi;have hg:g<w.heap.size:=(qC.1 e3).1;exact ⟨g,us,T,e1,by rw[hb.block g hg];exact e3,e0,aa.mono hle (Gb.le.refl _) _ _ e4,e5,fun o=>by rw[hext g o hg];exact e6 o⟩
 ·intro d cs hcs hi;obtain ⟨g,z,ob,e1,e2,e3,e6⟩:=h.hr.its d cs hcs hi;have hg:g<w.heap.size:=(qC.1 e3).1;exact ⟨g,z,ob,e1,e2,by rw[hb.block g hg];exact e3,fun o=>by rw[hext g o hg];exact e6 o⟩
 ·intro p k hk;rw[hpl p k hk];exact (h.hr.own p k hk).mono (fun g hg=>hb.block g ((h.hr.own p k hk).lt hg)) (fun g o hg hn=>by rw[hext g o ((h.hr.own p k hk).lt hg)];exact hn)
 ·intro p q k l b hk hl h1 h2;rw[hpl p k hk] at h1;rw[hpl q l hl] at h2;exact h.hr.ownd p q k l b hk hl h1 h2
 ·intro p k b d z hk h1;rw[hpl p k hk] at h1;exact h.hr.ownb p k b d z hk h1
 ·intro p k g hk hg;rw[hpl p k hk] at hg;exact h.newo p k g hk hg

theorem aN.drew (h:aN F S gb σ a w):aN F S gb σ a w.drew:=
 h.step ((Below.refl _ _).drew) (fun _ _ _=>rfl) (aR.le.refl _) h.hr.agree

theorem Mf: ∀(l:List (Nat×AV)) t,lk l t≠ .undef->(t,lk l t)∈l:=by
 intro l t;induction l with
 |nil=>intro hne;exact absurd rfl hne
 |cons x r ih=>
  obtain ⟨k,v⟩:=x;simp only[lk];split
  ·rename_i e;subst e;intro _;simp
  ·intro hne;exact List.mem_cons_of_mem _ (ih hne)
theorem cF: ∀(l:List (Id×List AV)) t cs,aD l t=some cs->(t,cs)∈l:=by
 intro l t cs;induction l with
 |nil=>intro hne;cases hne
 |cons x r ih=>
  obtain ⟨k,v⟩:=x;simp only[aD];split
  ·rename_i e;subst e;intro e2;cases e2;simp
  ·intro hne;exact List.mem_cons_of_mem _ (ih hne)
theorem eI: ∀(l:List (Pl×Nat)) t k,aH l t=some k->(t,k)∈l:=by
 intro l t k;induction l with
 |nil=>intro hne;cases hne
 |cons x r ih=>
  obtain ⟨q,v⟩:=x;simp only[aH];split
  ·rename_i e;subst e;intro e2;cases e2;simp
  ·intro hne;exact List.mem_cons_of_mem _ (ih hne)
theorem Gh {v u:AV} {x:Value} (hk:wk v u) (hp:PR S gb v x):PR S gb u x:=by
 rcases hk with rfl|⟨rfl,rfl⟩
 ·exact hp
 ·simp only[PR] at hp ⊢;exact .inl ⟨hp,trivial⟩
theorem oZ: ∀ {vs us:List AV} {xs:List Value},qD vs us->aa S gb vs xs->aa S gb us xs:=by
 intro vs;induction vs with
 |nil=>intro us xs h hp;cases us<;>simp[qD] at h;exact hp
 |cons v r ih=>
  intro us xs h hp;cases us with
  |nil=>simp[qD] at h
  |cons u s=>
   simp only[qD] at h;simp only[aa] at hp ⊢;obtain ⟨x,xs',rfl,h1,h2⟩:=hp;exact ⟨x,xs',rfl,Gh h.1 h1,ih h.2 h2⟩
theorem rm: ∀ {vs us:List AV},qD vs us->vs.length=us.length:=by
 intro vs;induction vs with
 |nil=>intro us h;cases us<;>simp[qD] at h ⊢
 |cons v r ih=>
  intro us h;cases us with
  |nil=>simp[qD] at h
  |cons u s=>simp only[qD] at h;simp[ih h.2]
theorem i5 {l:List (Id×List AV)} {d:Id} {cs:List AV} (h:FN l d cs): ∃cs',aD l d=some cs'/\qD cs' cs:=by
 simp only[FN] at h;split at h
 ·rename_i cs' e;exact ⟨cs',e,h⟩
 ·cases h
theorem o5 (h:aN F S gb σ a w) {p:Pl} (hn:iX σ p) (hb: ∀d off,p= .b d off->d.isIt=false):ct gb (tv a) w p= .slice none 0 0:=by
 cases p with
 |s t=>have:=h.env t;simp only[iX] at hn;rw[hn] at this;simpa[PR,ct] using this
 |t t i=>exact hn.elim
 |b d off=>
  simp only[iX] at hn;split at hn
  ·rename_i cs hcs;obtain ⟨g,us,T,e1,e3,e0,e4,_⟩:=h.hr.box d cs hcs (hb d off rfl);obtain ⟨u,hu,hp⟩:=e4.get hn;simp only[PR] at hp;simp only[ct,e1];have hcell:w.cell? ⟨g,off,none⟩=us[off]?:=by simp[World.cell?,e3]
   rw[hcell];rw[qr] at hu;split at hu
   ·have hu2:us[off]?=some u:=by simpa using hu
    rw[hu2,hp];rfl
   ·cases hu
  ·cases hn

theorem aN.weak (h:aN F S gb σ a w) {τ:St} (hw:il σ τ): ∃gb',aN F S gb' τ a w:=by
 let gb':Gb:=fun d=>if (aD τ.bx d).isSome\/d.isUp=true then gb d else none
 have hgb: ∀d x,gb' d=some x->gb d=some x:=by
  intro d g hg;simp only[gb'] at hg;split at hg
  ·exact hg
  ·cases hg
 have hsame: ∀d,(aD τ.bx d).isSome\/d.isUp=true->gb d=gb' d:=by
  intro d hd;simp only[gb'];rw[if_pos hd]
 have hbx: ∀d,(aD τ.bx d).isSome->(aD σ.bx d).isSome:=by
  intro d hd;obtain ⟨cs,hcs⟩:=jp.1 hd;obtain ⟨cs',h1,_⟩:=i5 (hw.b _ (cF _ _ _ hcs));simp only at h1;rw[h1];rfl
 have hpi: ∀d off k,aH τ.pm (.b d off)=some k->(aD τ.bx d).isSome:=fun d off k hk=>hw.pi _ (eI _ _ _ hk) d (by simp[Pl.ids])
 have hpl: ∀p k,aH τ.pm p=some k->ct gb' (tv a) w p=ct gb (tv a) w p:=by
  intro p k hk;cases p with
  |s t=>rfl
  |t t i=>rfl
  |b d off=>simp only[ct,hsame d (.inl (hpi d off k hk))]
 have hit: ∀d off k,aH τ.pm (.b d off)=some k->d.isIt=false:=by
  intro d off k hk;rcases hw.p _ (eI _ _ _ hk) with h1|h1
  ·exact (h.hr.pmb d off k h1).2
  ·simp only[iX] at h1;split at h1
   ·rename_i cs hcs;cases hi:d.isIt with
    |false=>rfl
    |true=>
     obtain ⟨_,_,ob,_,e2,_⟩:=h.hr.its d cs hcs hi;obtain ⟨v,rfl,hv⟩:=qE e2;cases off with
     |zero=>simp at h1;exact absurd h1 hv
     |succ n=>simp at h1
   ·cases h1
 have hpk: ∀p k,aH τ.pm p=some k->aH σ.pm p=some k\/ct gb (tv a) w p= .slice none 0 0:=by
  intro p k hk;rcases hw.p _ (eI _ _ _ hk) with h1|h1
  ·exact .inl h1
  ·exact .inr (o5 h h1 (fun d off e=>by subst e;exact hit d off k hk))
 have hblk: ∀p k b,aH τ.pm p=some k->(ct gb (tv a) w p).ownBlock=some b->aH σ.pm p=some k:=by
  intro p k b hk hb;rcases hpk p k hk with h1|h1
  ·exact h1
  ·rw[h1] at hb;simp[Value.ownBlock] at hb
 refine ⟨gb',h.defers,h.size,h.bw,h.ext,h.le,?_,⟨h.hr.agree,?_,?_,?_,?_,?_,?_,?_⟩,?_,?_,?_,?_,h.glo⟩
 ·intro t;by_cases hu:lk τ.e t= .undef
  ·rw[hu];simp[PR]
  ·have hm:=Mf _ _ hu;have he:=hw.e _ hm
   have:=h.env t
   simp only at he;exact PR.restr _ _ (fun d hd=>hsame d (hw.ei _ hm d hd)) (Gh he this)
 ·intro d cs hcs hi;have hm:=cF _ _ _ hcs;obtain ⟨cs',hcs',hb⟩:=i5 (hw.b _ hm);simp only at hcs' hb;obtain ⟨g,us,T,e1,e3,e0,e4,e5,e6⟩:=h.hr.box d cs' hcs' hi;have hl:=rm hb;exact ⟨g,us,T,by rw[<-hsame d (.inl (by simp[hcs]))];exact e1,e3,by omega,aa.restr _ _ (fun d' hd=>hsame d' (hw.bi _ hm d' hd)) (oZ hb (by rw[<-hl];exact e4)),e5,e6⟩
 ·intro d cs hcs hi;have hm:=cF _ _ _ hcs;obtain ⟨cs',hcs',hb⟩:=i5 (hw.b _ hm);simp only at hcs' hb;obtain ⟨g,z,ob,e1,e2,e3,e6⟩:=h.hr.its d cs' hcs' hi;exact ⟨g,z,ob,by rw[<-hsame d (.inl (by simp[hcs]))];exact e1,Gg e2 hb,e3,e6⟩
 ·exact fun d d' g z z' i1 i2 h1 h2=>h.hr.inj d d' g z z' (hbx d i1) (hbx d' i2) (hgb _ _ h1) (hgb _ _ h2)
 ·intro p k hk;rw[hpl p k hk];rcases hpk p k hk with h1|h1
  ·exact h.hr.own p k h1
  ·rw[h1];exact .inl rfl
 ·intro p q k l b hk hl h1 h2;rw[hpl p k hk] at h1;rw[hpl q l hl] at h2;exact h.hr.ownd p q k l b (hblk p k b hk h1) (hblk q l b hl h2) h1 h2
 ·intro p k b d z hk h1 hi hg;rw[hpl p k hk] at h1;exact h.hr.ownb p k b d z (hblk p k b hk h1) h1 (hbx d hi) (hgb _ _ hg)
 ·intro d off k hk;exact ⟨hpi d off k hk,hit d off k hk⟩
 ·intro d g z hd hg;exact h.newb d g z (hbx d hd) (hgb _ _ hg)
 ·intro p k g hk hg;rw[hpl p k hk] at hg;exact h.newo p k g (hblk p k g hk hg) hg
 ·intro d hd;simp only[gb'] at hd;split at hd
  ·assumption
  ·exact absurd rfl hd
 ·intro d
  have:gb' (.up d)=gb (.up d):=(hsame _ (.inr rfl)).symm
  rw[this];exact h.up d

section
variable {f g:Id->Id}
theorem N9 (h:nJ f g) {d:Id}:(g d).isUp=true↔d.isUp=true:=by
 constructor
 ·intro h1
  have:=h.up _ h1
  rw[h.fg] at this;rw[this];exact h1
 ·intro h1
  have:=h.gf d
  rw[h.up d h1] at this;rw[this];exact h1
theorem AZ (h:nJ f g) {d:Id} (h1:d.isIt=false):(f d).isIt=false:=by
 cases h2:(f d).isIt
 ·rfl
 ·have h3:=h.it _ h2;have h4:=congrArg g h3;rw[h.gf,h.gf] at h4;rw[h4,h1] at h2;exact h2.symm
theorem Gi (h:nJ f g) {d:Id} (h1:d.isIt=true):g d=d:=by
 have:=h.gf d
 rwa [h.it d h1] at this
theorem JF (h:nJ f g) {d:Id} (h1:d.isIt=false):(g d).isIt=false:=by
 cases h2:(g d).isIt
 ·rfl
 ·have:=h.it _ h2
  rw[h.fg] at this;rw[<-this,h1] at h2;exact h2.symm
mutual
theorem Gj (h:nJ f g): ∀(v:AV) (u:Value),PR S gb v u->PR S (fun d=>gb (g d)) (v.mp f) u
 | .ptr d o,u,hp=>by
  simp only[AV.mp,PR,h.gf] at hp ⊢;obtain ⟨x,z,h1,h2,h3⟩:=hp;exact ⟨x,z,h1,AZ h h2,h3⟩
 | .ms d o n sz,u,hp=>by
  simp only[AV.mp,PR,h.gf] at hp ⊢;obtain ⟨x,z,c,h1,h2,h3⟩:=hp;exact ⟨x,z,c,h1,AZ h h2,h3⟩
 | .itp _,u,_=>by simp only[AV.mp,PR]
 | .mref d,u,hp=>by
  simp only[AV.mp,PR,h.gf] at hp ⊢;obtain ⟨x,z,h1,h2,h3⟩:=hp;exact ⟨x,z,h1,by rw[h.it d h2];exact h2,h3⟩
 | .nilT d _ _,u,hp=>by simpa only[AV.mp,PR,h.gf] using hp
 | .mpv _,_,hp=>by simp only[PR] at hp
 | .fn q cs,u,hp=>by
  simp only[AV.mp,PR] at hp ⊢;obtain ⟨us,h1,h2⟩:=hp;exact ⟨us,h1,jT h _ _ h2⟩
 | .agg cs,u,hp=>by
  simp only[AV.mp,PR] at hp ⊢;obtain ⟨us,h1,h0,h2⟩:=hp;exact ⟨us,h1,h0,jT h _ _ h2⟩
 | .tup cs,u,hp=>by
  simp only[AV.mp,PR] at hp ⊢;obtain ⟨us,h1,h2⟩:=hp;exact ⟨us,h1,jT h _ _ h2⟩
 | .undef,_,_=>by simp only[AV.mp,PR]
 | .int _ _,_,hp=>by simpa only[AV.mp,PR] using hp
 | .bool _,_,hp=>by simpa only[AV.mp,PR] using hp
 | .str _,_,hp=>by simpa only[AV.mp,PR] using hp
 | .nils,_,hp=>by simpa only[AV.mp,PR] using hp
 | .sl _,_,hp=>by simpa only[AV.mp,PR] using hp
 | .pin _,_,hp=>by simpa only[AV.mp,PR] using hp
 | .itr _ _,_,hp=>by simp only[PR] at hp
 | .nilp,_,hp=>by simpa only[AV.mp,PR] using hp
 | .nili,_,hp=>by simpa only[AV.mp,PR] using hp
 | .yv _,_,hp=>by simpa only[AV.mp,PR] using hp
 | .ifc _ v,u,hp=>by
  simp only[AV.mp,PR] at hp ⊢;obtain ⟨us,h1,h2⟩:=hp;exact ⟨us,h1,Gj h v _ h2⟩
theorem jT (h:nJ f g): ∀(l:List AV) (us:List Value),aa S gb l us->aa S (fun d=>gb (g d)) (aP f l) us
 |[],us,hp=>by simpa only[aP,aa] using hp
 |v::r,us,hp=>by
  simp only[aP,aa] at hp ⊢;obtain ⟨u,us',h1,h2,h3⟩:=hp;exact ⟨u,us',h1,Gj h v u h2,jT h r us' h3⟩
end
theorem Ly (f:Id->Id): ∀(l:List (Nat×AV)) (t:Nat),lk (l.map fun p=>(p.1,p.2.mp f)) t=(lk l t).mp f
 |[],t=>rfl
 |(k,v)::r,t=>by
  simp only[fZ,lk];split
  ·rfl
  ·exact Ly f r t
theorem lD (h:nJ f g): ∀(l:List (Id×List AV)) (d:Id),aD (aW f l) d=(aD l (g d)).map (aP f)
 |[],d=>rfl
 |(k,v)::r,d=>by
  simp only[aW,aD];by_cases e:k=g d
  ·rw[if_pos e,if_pos (by rw[e,h.fg])];rfl
  ·rw[if_neg e,if_neg (fun e'=>e (by rw[<-e',h.gf])),lD h r d]
theorem o6 (h:nJ f g): ∀(l:List (Pl×Nat)) (p:Pl),aH (aY f l) p=aH l (p.mp g)
 |[],p=>rfl
 |(q,k)::r,p=>by
  have hq:q.mp f=p↔q=p.mp g:=by
   cases q<;>cases p<;>simp[Pl.mp];rename_i d o d' o';intro _;constructor
   ·intro e;rw[<-e,h.gf]
   ·intro e;rw[e,h.fg]
  simp only[aY,aH];by_cases e:q=p.mp g
  ·rw[if_pos e,if_pos (hq.2 e)]
  ·rw[if_neg e,if_neg (fun e'=>e (hq.1 e')),o6 h r p]
theorem vG {f:Id->Id}: ∀(l:List AV),(aP f l).length=l.length
 |[]=>rfl
 |v::r=>by simp only[aP,e7,vG r]
theorem aN.rn (h:aN F S gb σ a w) (hf:nJ f g):aN F S (fun d=>gb (g d)) (σ.rn f) a w:=by
 have hpl: ∀p,ct (fun d=>gb (g d)) (tv a) w p=ct gb (tv a) w (p.mp g):=by
  intro p;cases p<;>rfl
 refine ⟨h.defers,h.size,h.bw,h.ext,h.le,?_,⟨h.hr.agree,?_,?_,?_,?_,?_,?_,?_⟩,?_,?_,?_,?_,h.glo⟩
 ·intro t;simp only[St.rn];rw[Ly];exact Gj hf _ _ (h.env t)
 ·intro d cs hcs hi;simp only[St.rn] at hcs;rw[lD hf] at hcs;cases hl:aD σ.bx (g d) with
  |none=>rw[hl] at hcs;cases hcs
  |some cs0=>
   rw[hl] at hcs;simp only[Option.map_some,cW] at hcs;subst hcs;obtain ⟨x,us,T,e1,e3,e0,e4,e5,e6⟩:=h.hr.box (g d) cs0 hl (JF hf hi);refine ⟨x,us,T,e1,e3,by rw[vG];exact e0,?_,e5,e6⟩;rw[vG];exact jT hf _ _ e4
 ·intro d cs hcs hi;simp only[St.rn] at hcs;rw[lD hf,Gi hf hi] at hcs;cases hl:aD σ.bx d with
  |none=>rw[hl] at hcs;cases hcs
  |some cs0=>
   rw[hl] at hcs;simp only[Option.map_some,cW] at hcs;subst hcs;obtain ⟨x,z,ob,e1,e2,e3,e6⟩:=h.hr.its d cs0 hl hi;refine ⟨x,z,ob,by rw[Gi hf hi];exact e1,?_,e3,e6⟩;unfold tG at e2;split at e2
   ·exact e2
   ·exact e2
   ·cases e2
 ·intro d d' x z z' i1 i2 h1 h2;simp only[St.rn] at i1 i2;rw[lD hf,Option.isSome_map] at i1 i2
  have:=h.hr.inj _ _ x z z' i1 i2 h1 h2
  have:=congrArg f this
  rwa [hf.fg,hf.fg] at this
 ·intro p k hk;simp only[St.rn] at hk;rw[o6 hf] at hk;rw[hpl];exact h.hr.own _ k hk
 ·intro p q k l b hk hl h1 h2;simp only[St.rn] at hk hl;rw[o6 hf] at hk hl;rw[hpl] at h1 h2
  have:=h.hr.ownd _ _ k l b hk hl h1 h2
  cases p<;>cases q<;>simp[Pl.mp] at this ⊢
  ·exact this
  ·exact this
  ·obtain ⟨e1,e2⟩:=this
   have:=congrArg f e1
   rw[hf.fg,hf.fg] at this;exact ⟨this,e2⟩
 ·intro p k b d z hk h1 hi hg;simp only[St.rn] at hk hi;rw[o6 hf] at hk;rw[lD hf,Option.isSome_map] at hi;rw[hpl] at h1;exact h.hr.ownb _ k b _ z hk h1 hi hg
 ·intro d off k hk;simp only[St.rn] at hk ⊢;rw[o6 hf] at hk;obtain ⟨e1,e2⟩:=h.hr.pmb (g d) off k hk;refine ⟨by rw[lD hf,Option.isSome_map];exact e1,?_⟩
  have:=AZ hf e2
  rwa [hf.fg] at this
 ·intro d x z hd hg;simp only[St.rn] at hd;rw[lD hf,Option.isSome_map] at hd;exact h.newb _ x z hd hg
 ·intro p k x hk hg;simp only[St.rn] at hk;rw[o6 hf] at hk;rw[hpl] at hg;exact h.newo _ k x hk hg
 ·intro d hd;rcases h.dom (g d) hd with h1|h1
  ·left;simp only[St.rn];rw[lD hf,Option.isSome_map];exact h1
  ·exact .inr ((N9 hf).1 h1)
 ·intro d
  have:g (.up d)= .up d:=by
   have:=hf.gf (.up d)
   rwa [hf.up _ rfl] at this
  simp only[this];exact h.up d
end
theorem aN.weakR (h:aN F S gb σ a w) {τ:St} (hw:uu σ τ): ∃gb',aN F S gb' τ a w:=by
 rcases hw with hw|⟨f,g,hf,hw⟩
 ·exact h.weak hw
 ·exact (h.rn hf).weak hw
end Go.Ai
