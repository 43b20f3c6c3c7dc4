/-
  An interpreter of the model's code on plain values (the shadow machine): its definitions, and its operations held against the model.
-/
import Derived.ProofKit
import Derived.Orders
import Derived.Laws.IdiomCopy
set_option linter.unusedVariables false
set_option linter.unusedSimpArgs false
namespace Go.Sh
inductive VC where
 |nil
 |exact
 |loose
 deriving DecidableEq,Inhabited
inductive SV where
 |int (k:IntKind) (n:Int)
 |bool (b:Bool)
 |str (s:ByteArray)
 |nilp
 |nilf
 |nili
 |iface (t:TypeId) (v:SV)
 |agg (cs:List SV)
 |tup (vs:List SV)
 |vsl (es:List SV) (c:VC)
 |osl (id sz off len:Nat) (cap:Option Nat)
 |vptr (e:SV)
 |optr (id i off:Nat)
 |fn (f:FuncId) (first captured:List SV)
 |yld (l:Nat)
 deriving Inhabited
def SV.cells:SV→List SV
 |.agg cs=>cs
 |v=>[v]
def SV.n(v:SV):Nat:=v.cells.length
def undefS:SV:=.tup []
inductive TK where
 |scal
 |bool
 |int
 |str
 |slice (e:TypeId)
 |struct (fs:List (Nat×TypeId))
 |array (n:Nat) (e:TypeId)
 |ptr (e:TypeId)
structure TyI where
 kind:TK
 size:Nat
 bytes:Nat
 zero:SV
def TyI.isAgg(i:TyI):Bool:=match i.kind with
 |.struct _|.array _ _=>true
 |_=>false
inductive X where
 |nrm
 |ret
 |exit (id:Nat)
 deriving DecidableEq,Inhabited
inductive Row where
 |cells (es:List SV) (live:Bool)
 |loop (env:List SV) (params:List Nat) (assign body:Code) (st:LoopState) (pend:Option X)
 |dead
 deriving Inhabited
inductive Mode where
 |pure
 |fresh
 |inpl
 deriving DecidableEq,Inhabited
structure Cfg where
 ty:TypeId→Option TyI
 fns:FuncId→Option Func
 orc:FuncId→List SV→Option SV
 mode:FuncId→Mode
abbrev Zt:=List Row
structure St where
 env:List SV
 S:Zt
def wrS(k:IntKind)(n:Int):Int:=match k with
 |.i64=>if -9223372036854775808≤n∧n<9223372036854775808 then n else IntKind.wrap .i64 n
 |.u64=>if 0≤n∧n<18446744073709551616 then n else n%18446744073709551616
 |.u32=>if 0≤n∧n<4294967296 then n else n%4294967296
 |k=>IntKind.wrap k n
def oneS:SV→Bool
 |.agg _|.tup _=>false
 |_=>true
def flatS(v:SV):Bool:=v.cells.all oneS
def partS(i:TyI)(cs:List SV)(off:Nat):Option SV:=
 if i.isAgg then(let x:=(cs.drop off).take i.size;if x.length=i.size then some (.agg x)else none)
 else(cs[off]?).bind fun v=>if oneS v then some v else none
def spliceS(cs:List SV)(off:Nat)(v:List SV):Option (List SV):=
 if off+v.length≤cs.length then some (cs.take off++v++cs.drop (off+v.length))else none
def putPart(e:SV)(off:Nat)(v:SV):Option SV:=match e with
 |.agg cs=>(spliceS cs off v.cells).map .agg
 |_=>match v with
  |.agg _=>none
  |v=>if off=0 then some v else none
def fillS (place : Nat → Option (Nat × Nat)) (cs : List SV) : List (Nat × SV) → Option (List SV)
  | [] => some cs
  | (i, v) :: rest => match place i with
    | none => none
    | some (off, size) => if v.n = size then (spliceS cs off v.cells).bind fun cs => fillS place cs rest else none
def constS:Value→Option SV
 |.bool b=>some (.bool b)
 |.int k n=>some (.int k n)
 |.string s=>some (.str s)
 |.slice none 0 0=>some (.vsl [] .nil)
 |.pointer none=>some .nilp
 |.nilFunc=>some .nilf
 |.nilIface=>some .nili
 |_=>none
def evalS(env:List SV):Operand→Option SV
 |.tmp t=>env[t]?
 |.const v=>constS v
 |.func f=>some (.fn f [] [])
 |.global _=>none
def evalsS(env:List SV):List Operand→Option (List SV)
 |[]=>some []
 |x::r=>(evalS env x).bind fun v=>(evalsS env r).bind fun vs=>some (v::vs)
def cmpS(op:BinOp)(x y:Int):Option SV:=match op with
 |.eql=>some (.bool (x==y))
 |.neq=>some (.bool (x != y))
 |.lss=>some (.bool (x<y))
 |.leq=>some (.bool (x≤y))
 |.gtr=>some (.bool (x>y))
 |.geq=>some (.bool (x≥y))
 |_=>none
def shiftS(op:BinOp)(k:IntKind)(x y:Int):Option SV:=
 if y<0 then none else
  let n:=min y.toNat k.bits
  match op with
  |.shl=>some (.int k (wrS k (x*2^n)))
  |.shr=>some (.int k (x.fdiv (2^n)))
  |_=>none
def arithS(op:BinOp)(k:IntKind)(x y:Int):Option SV:=match op with
 |.add=>some (.int k (wrS k (x+y)))
 |.sub=>some (.int k (wrS k (x-y)))
 |.mul=>some (.int k (wrS k (x*y)))
 |.quo=>if y=0 then none else some (.int k (wrS k (x.tdiv y)))
 |.rem=>if y=0 then none else some (.int k (x.tmod y))
 |.and=>some (.int k (wrS k (BitVec.ofInt k.bits x &&& BitVec.ofInt k.bits y).toNat))
 |.or=>some (.int k (wrS k (BitVec.ofInt k.bits x ||| BitVec.ofInt k.bits y).toNat))
 |.xor=>some (.int k (wrS k (BitVec.ofInt k.bits x ^^^ BitVec.ofInt k.bits y).toNat))
 |.andNot=>some (.int k (wrS k (BitVec.ofInt k.bits x &&& ~~~BitVec.ofInt k.bits y).toNat))
 |op=>cmpS op x y
def isShift:BinOp→Bool
 |.shl|.shr=>true
 |_=>false
def bnS(op:BinOp)(u:Option TyI)(x y:SV):Option SV:=match x,y with
 |.int k a,.int k' b=>if isShift op then shiftS op k a b else if k=k' then arithS op k a b else none
 |.bool a,.bool b=>match u with
  |some { kind:=.bool,.. }=>(match op with
   |.eql=>some (.bool (a==b))
   |.neq=>some (.bool (!(a==b)))
   |_=>none)
  |_=>none
 |.vsl _ c,.vsl [] .nil=>match u with
  |some { kind:=.slice _,.. }=>(match op with
   |.eql=>some (.bool (c==.nil))
   |.neq=>some (.bool (!(c==.nil)))
   |_=>none)
  |_=>none
 |.osl ..,.vsl [] .nil=>match u with
  |some { kind:=.slice _,.. }=>(match op with
   |.eql=>some (.bool false)
   |.neq=>some (.bool true)
   |_=>none)
  |_=>none
 |_,_=>none
def unS(op:UnOp)(x:SV):Option SV:=match op,x with
 |.neg,.int k n=>some (.int k (wrS k (0-n)))
 |.xor,.int k n=>some (.int k (wrS k (BitVec.ofInt k.bits (if k.signed then -1 else k.max) ^^^ BitVec.ofInt k.bits n).toNat))
 |.not,.bool b=>some (.bool !b)
 |_,_=>none
def intS:SV→Option Int
 |.int _ n=>some n
 |_=>none
def natS:SV→Option Nat
 |.int _ n=>if 0≤n then some n.toNat else none
 |_=>none
def optNat:Option SV→Option (Option Nat)
 |none=>some none
 |some v=>(natS v).map some
def withinS(len:Nat)(cap:Option Nat)(n:Nat):Bool:=n≤len || (match cap with|some c=>decide (n≤c)|none=>false)
def sliceS(x:SV)(lo hi mx:Option Nat):Option SV:=match x with
 |.vsl es c=>
  let l:=lo.getD 0
  let h:=hi.getD es.length
  if l≤h∧h≤es.length then match mx with
   |none=>some (.vsl ((es.drop l).take (h-l)) (match c with|.nil=>.nil|.exact=>if h=es.length then .exact else .loose|.loose=>.loose))
   |some m=>if h≤m∧m≤es.length∧hi.isSome then some (.vsl ((es.drop l).take (h-l)) (match c with|.nil=>.nil|_=>if m=h then .exact else .loose))else none
  else none
 |.osl id sz off len cap=>
  let l:=lo.getD 0
  let h:=hi.getD len
  if l≤h∧withinS len cap h=true then match mx with
   |none=>some (.osl id sz (off+l) (h-l) (cap.map (·-l)))
   |some m=>if h≤m∧withinS len cap m=true∧hi.isSome then some (.osl id sz (off+l) (h-l) (some (m-l)))else none
  else none
 |_=>none
def sizeIs(sz:Nat):SV→Bool
 |.vsl [] _=>true
 |.vsl (e::_) _=>e.n==sz
 |.osl _ sz' _ _ _=>sz'==sz
 |_=>false
def elemsS(S:Zt):SV→Option (List SV)
 |.vsl es _=>some es
 |.osl id _ off len _=>match S[id]? with
  |some (.cells es _)=>if off+len≤es.length then some ((es.drop off).take len)else none
  |_=>none
 |_=>none
def lenS(i:TyI)(x:SV):Option SV:=match i.kind,x with
 |.slice _,.vsl es _=>some (.int .i64 es.length)
 |.slice _,.osl _ _ _ len _=>some (.int .i64 len)
 |.str,.str s=>some (.int .i64 s.size)
 |.array n _,_=>some (.int .i64 n)
 |_,_=>none
def max2S:SV→SV→Option SV
 |.int k a,.int k' b=>if k=k' then some (.int k (if b>a then b else a))else none
 |_,_=>none
def min2S:SV→SV→Option SV
 |.int k a,.int k' b=>if k=k' then some (.int k (if b<a then b else a))else none
 |_,_=>none
def foldS(f:SV→SV→Option SV):SV→List SV→Option SV
 |a,[]=>some a
 |a,b::r=>(f a b).bind fun c=>foldS f c r
def sizesOk(sz:Nat)(es:List SV):Bool:=es.all fun e=>e.n==sz&&flatS e
def roomS:Nat:=70368744177664
def appendS(sz bytes:Nat)(S:Zt)(s x:SV):Option (SV×Zt):=
 (elemsS S x).bind fun xs=>
 if xs.isEmpty then(match s with|.vsl ..|.osl ..=>some (s,S)|_=>none)else
 if sizesOk sz xs&&sz != 0 then match s with
  |.vsl es c=>if c != .loose&&sizesOk sz es&&decide ((es.length+xs.length)*bytes≤roomS)&&decide (es.length+xs.length≤roomS)then some (.osl S.length sz 0 (es.length+xs.length) none,S++[.cells (es++xs) true])else none
  |.osl id sz' off len cap=>match S[id]? with
   |some (.cells es live)=>
    if sz'==sz&&decide ((len+xs.length)*bytes≤roomS)&&decide (len+xs.length≤roomS)&&decide (off+len≤es.length)then match cap with
     |some c=>
      if len+xs.length≤c then
       (if live then(spliceS es (off+len) xs).bind fun es'=>some (.osl id sz off (len+xs.length) (some c),S.set id (.cells es' true))else none)
      else some (.osl S.length sz 0 (len+xs.length) none,S++[.cells ((es.drop off).take len++xs) true])
     |none=>if live then some (.osl S.length sz 0 (len+xs.length) none,(S.set id .dead)++[.cells ((es.drop off).take len++xs) true])else none
    else none
   |_=>none
  |_=>none
 else none
def copyS(sz:Nat)(S:Zt)(d s:SV):Option (SV×Zt):=
 (elemsS S s).bind fun xs=>match d with
  |.vsl es _=>if xs.isEmpty || es.isEmpty then some (.int .i64 0,S)else none
  |.osl id sz' off len _=>
   let ys:=xs.take len
   if ys.isEmpty then some (.int .i64 0,S)else
   match S[id]? with
   |some (.cells es true)=>if sz'==sz&&sz != 0&&sizesOk sz xs&&decide (off+len≤es.length)then(spliceS es off ys).bind fun es'=>some (.int .i64 ys.length,S.set id (.cells es' true))else none
   |_=>none
  |_=>none
def ldS(i:TyI)(S:Zt)(a:SV):Option SV:=match a with
 |.vptr e=>partS i e.cells 0
 |.optr id j off=>match S[id]? with
  |some (.cells es _)=>(es[j]?).bind fun e=>partS i e.cells off
  |_=>none
 |_=>none
def stS(i:TyI)(S:Zt)(a v:SV):Option Zt:=match a with
 |.optr id j off=>match S[id]? with
  |some (.cells es true)=>if v.n=i.size∧flatS v=true then(es[j]?).bind fun e=>(putPart e off v).bind fun e'=>some (S.set id (.cells (es.set j e') true))else none
  |_=>none
 |_=>none
def faS(cfg:Cfg)(i:TyI)(x:SV)(f:Nat):Option SV:=match i.kind with
 |.struct fs=>(fs[f]?).bind fun (off,t)=>(cfg.ty t).bind fun j=>if j.size=0 then none else match x with
  |.optr id k o=>some (.optr id k (o+off))
  |.vptr e=>(partS j e.cells off).map .vptr
  |_=>none
 |_=>none
def fieldS(cfg:Cfg)(i:TyI)(x:SV)(f:Nat):Option SV:=match i.kind,x with
 |.struct fs,.agg cs=>(fs[f]?).bind fun (off,t)=>(cfg.ty t).bind fun j=>partS j cs off
 |_,_=>none
def ixS(cfg:Cfg)(i:TyI)(x ix:SV):Option SV:=(natS ix).bind fun n=>match i.kind with
 |.slice e=>(cfg.ty e).bind fun j=>if j.size=0 then none else match x with
  |.vsl es _=>(es[n]?).bind fun e=>if e.n=j.size then some (.vptr e)else none
  |.osl id sz off len _=>if n<len∧sz=j.size then some (.optr id (off+n) 0)else none
  |_=>none
 |.array len e=>(cfg.ty e).bind fun j=>if j.size=0 then none else if n<len then match x with
  |.optr id k o=>some (.optr id k (o+n*j.size))
  |.vptr v=>(partS j v.cells (n*j.size)).map .vptr
  |_=>none
  else none
 |_=>none
def indexS(cfg:Cfg)(i:TyI)(x ix:SV):Option SV:=(natS ix).bind fun n=>match i.kind,x with
 |.array len e,.agg cs=>if n<len then(cfg.ty e).bind fun j=>partS j cs (n*j.size)else none
 |.str,.str s=>(s[n]?).map fun b=>.int .u8 b.toNat
 |_,_=>none
def partsS (env : List SV) : List (Nat × Operand) → Option (List (Nat × SV))
  | [] => some []
  | (i, x) :: r => (evalS env x).bind fun v => (partsS env r).bind fun vs => some ((i, v) :: vs)
def placesS (cfg : Cfg) : List (Nat × TypeId) → Option (List (Nat × Nat))
  | [] => some []
  | (off, t) :: r => (cfg.ty t).bind fun j => (placesS cfg r).bind fun ps => some ((off, j.size) :: ps)
def buildS(cfg:Cfg)(i:TyI)(ps:List (Nat×SV)):Option SV:=match i.kind with
 |.struct fs=>(placesS cfg fs).bind fun pl=>(fillS (pl[·]?) i.zero.cells ps).map .agg
 |.array _ e=>(cfg.ty e).bind fun j=>(fillS (fun n=>some (n*j.size,j.size)) i.zero.cells ps).map .agg
 |_=>none
def litS (sz : Nat) (es : List SV) : List (Nat × SV) → Option (List SV)
  | [] => some es
  | (i, v) :: r => if i < es.length ∧ v.n = sz then litS sz (es.set i v) r else none
def frz(S:Zt):Nat→SV→Option SV
 |0,_=>none
 |n+1,v=>match v with
  |.osl id _ off len cap=>match S[id]? with
   |some (.cells es _)=>if off+len≤es.length then(((es.drop off).take len).mapM (frz S n)).map fun xs=>.vsl xs (if cap=some len then .exact else .loose)else none
   |_=>none
  |.optr id j off=>match S[id]? with
   |some (.cells es _)=>if off=0 then(es[j]?).bind fun e=>(frz S n e).map .vptr else none
   |_=>none
  |.agg cs=>(cs.mapM (frz S n)).map .agg
  |.tup cs=>(cs.mapM (frz S n)).map .tup
  |.iface t x=>(frz S n x).map (.iface t)
  |.fn f a b=>(a.mapM (frz S n)).bind fun a=>(b.mapM (frz S n)).map fun b=>.fn f a b
  |.yld _=>none
  |v=>some v
def refs(S:Zt):Nat→SV→List Nat
 |0,_=>[]
 |n+1,v=>match v with
  |.osl id _ off len _=>id::(match S[id]? with
   |some (.cells es _)=>((es.drop off).take len).flatMap (refs S n)
   |_=>[])
  |.optr id j _=>id::(match S[id]? with
   |some (.cells es _)=>(match es[j]? with|some e=>refs S n e|none=>[])
   |_=>[])
  |.agg cs=>cs.flatMap (refs S n)
  |.tup cs=>cs.flatMap (refs S n)
  |.iface _ x=>refs S n x
  |.fn _ a b=>a.flatMap (refs S n)++b.flatMap (refs S n)
  |_=>[]
def dS:Nat:=12
def pureS(v:SV):Bool:=match v with
 |.int ..|.bool _|.str _|.nilp|.nilf|.nili|.vsl ..|.vptr _=>true
 |.agg cs=>cs.all fun c=>match c with
  |.int ..|.bool _|.str _|.nilp|.nilf|.nili|.vsl ..|.vptr _=>true
  |_=>false
 |_=>false
def sealS(S:Zt):List Nat→Zt
 |[]=>S
 |id::r=>sealS (match S[id]? with|some (.cells es _)=>S.set id (.cells es false)|_=>S) r
abbrev CallT:=FuncId→List SV→Zt→Option (SV×Zt)
def putS(env:List SV)(dst:Option Tmp)(v:SV):List SV:=match dst with
 |some d=>env.set d v
 |none=>env
def isZ(cfg:Cfg)(t:TypeId):Option TypeId:=(cfg.ty t).bind fun i=>match i.kind with|.slice e=>some e|_=>none
def opT(cfg:Cfg)(env:List SV)(op:Op):Option SV:=match op with
 |.move x|.assign x=>evalS env x
 |.pick c a b=>match evalS env c with
  |some (.bool t)=>(evalS env a).bind fun va=>(evalS env b).map fun vb=>if t then va else vb
  |_=>none
 |.build t ps=>(cfg.ty t).bind fun i=>(partsS env ps.toList).bind fun vs=>buildS cfg i vs
 |.nilCheck x=>match evalS env x with
  |some (.optr id j o)=>some (.optr id j o)
  |some (.vptr e)=>some (.vptr e)
  |some (.fn f a b)=>some (.fn f a b)
  |_=>none
 |.binOp op t x y _=>(evalS env x).bind fun a=>(evalS env y).bind fun b=>bnS op (cfg.ty t) a b
 |.unOp op _ x=>(evalS env x).bind fun a=>unS op a
 |.convert c d x=>(cfg.ty c).bind fun _=>(cfg.ty d).bind fun i=>match i.kind,i.zero,evalS env x with
  |.int,.int k _,some (.int _ n)=>some (.int k (wrS k n))
  |_,_,_=>none
 |.makeFunc (.func f) first cap=>(evalsS env first.toList).bind fun a=>(evalsS env cap.toList).map fun b=>.fn f a b
 |.slice t x lo hi mx=>(isZ cfg t).bind fun e=>(cfg.ty e).bind fun j=>if j.size=0 then none else(evalS env x).bind fun x=>
   (optNat (lo.map fun o=>(evalS env o).getD .nilp)).bind fun lo=>(optNat (hi.map fun o=>(evalS env o).getD .nilp)).bind fun hi=>
   (optNat (mx.map fun o=>(evalS env o).getD .nilp)).bind fun mx=>if sizeIs j.size x then sliceS x lo hi mx else none
 |.fieldAddr t x f=>(cfg.ty t).bind fun i=>(evalS env x).bind fun p=>faS cfg i p f
 |.field t x f=>(cfg.ty t).bind fun i=>(evalS env x).bind fun p=>fieldS cfg i p f
 |.indexAddr t x ix=>(cfg.ty t).bind fun i=>(evalS env x).bind fun p=>(evalS env ix).bind fun n=>ixS cfg i p n
 |.index t x ix=>(cfg.ty t).bind fun i=>(evalS env x).bind fun p=>(evalS env ix).bind fun n=>indexS cfg i p n
 |.extract x ix=>match evalS env x with
  |some (.tup vs)=>vs[ix]?
  |_=>none
 |.call c=>(evalsS env c.args.toList).bind fun args=>match c.callee,c.argTypes.toList,args with
  |.builtin .len,t::_,x::_=>(cfg.ty t).bind fun i=>lenS i x
  |.builtin .max,_,x::r=>foldS max2S x r
  |.builtin .min,_,x::r=>foldS min2S x r
  |_,_,_=>none
 |_=>none
def opS(cfg:Cfg)(call:CallT)(rnd:Nat→List SV→Zt→Option (SV×Zt))(env:List SV)(S:Zt)(op:Op):Option (SV×Zt):=match op with
 |.alloc t=>(cfg.ty t).bind fun i=>if i.zero.n=0 then none else some (.optr S.length 0 0,S++[.cells [i.zero] true])
 |.box t x=>(cfg.ty t).bind fun _=>(evalS env x).bind fun v=>if v.n=0 then none else some (.optr S.length 0 0,S++[.cells [v] true])
 |.buildSlice t len ps=>(isZ cfg t).bind fun e=>(cfg.ty e).bind fun j=>if j.size=0∨len*j.size>16777216∨¬j.zero.n=j.size then none else
   (partsS env ps.toList).bind fun vs=>(litS j.size (List.replicate len j.zero) vs).map fun es=>(.osl S.length j.size 0 len (some len),S++[.cells es true])
 |.load t a=>(cfg.ty t).bind fun i=>(evalS env a).bind fun p=>(ldS i S p).map fun v=>(v,S)
 |.store t a x=>(cfg.ty t).bind fun i=>(evalS env a).bind fun p=>(evalS env x).bind fun v=>(stS i S p v).map fun S'=>(undefS,S')
 |.makeSlice t l c=>(isZ cfg t).bind fun e=>(cfg.ty e).bind fun j=>((evalS env l).bind natS).bind fun l=>((evalS env c).bind natS).bind fun c=>
   if j.size=0∨l>c∨c>roomS∨c*j.bytes>roomS∨¬j.zero.n=j.size then none else some (.osl S.length j.size 0 l (some c),S++[.cells (List.replicate c j.zero) true])
 |.call c=>match c.callee with
  |.builtin .append=>(evalsS env c.args.toList).bind fun args=>match c.argTypes.toList,args with
   |[t,u],[s,x]=>(isZ cfg t).bind fun e=>(isZ cfg u).bind fun _=>(cfg.ty e).bind fun j=>if j.zero.n=j.size then appendS j.size j.bytes S s x else none
   |_,_=>none
  |.builtin .copy=>(evalsS env c.args.toList).bind fun args=>match c.argTypes.toList,args with
   |[t,_],[d,s]=>(isZ cfg t).bind fun e=>(cfg.ty e).bind fun j=>copyS j.size S d s
   |_,_=>none
  |.builtin _=>(opT cfg env op).map fun v=>(v,S)
  |.value f=>(evalsS env c.args.toList).bind fun args=>match evalS env f with
   |some (.fn g a b)=>call g (a++args++b) S
   |some (.yld l)=>rnd l args S
   |_=>none
  |.invoke ..=>none
 |op=>(opT cfg env op).map fun v=>(v,S)
def yieldedS(ops:List Oper)(env:List SV)(j:Nat):Option Bool:=
 match((ops[j]?).bind (·.dst)).bind (env[·]?)with
 |some (.bool b)=>some b
 |_=>none
def wantedS(ops:List Oper)(env:List SV)(o:Oper):Bool:=match o.guard with
 |none=>true
 |some (j,want)=>yieldedS ops env j==some want
def quietCall(cfg:Cfg)(env:List SV)(op:Op):Bool:=match op with
 |.call { callee:=.builtin _,.. }=>true
 |.call { callee:=.value f,.. }=>(match evalS env f with
  |some (.fn g _ _)=>cfg.mode g != .inpl
  |_=>false)
 |.call _=>false
 |_=>true
def sens:Op→Bool
 |.alloc _|.box ..|.buildSlice ..|.makeSlice ..|.load ..=>true
 |.call { callee:=.value _,.. }=>true
 |_=>false
def effS:Op→Bool
 |.store ..=>true
 |.call { callee:=.builtin .append,.. }|.call { callee:=.builtin .copy,.. }=>true
 |_=>false
def befores:List Oper→List Nat→List Nat
 |[],acc=>acc
 |o::r,acc=>befores r (acc++[o.after.toList.foldl (fun s e=>if Region.binds .any e then s ||| 2^e.on ||| acc.getD e.on 0 else s) 0])
def readsOf (ops : List Oper) (o : Oper) : List Tmp :=
  (o.op.operands.toList.filterMap fun | .tmp t => some t | _ => none) ++
  (match o.guard with
   | some (g, _) => ((ops[g]?).bind (·.dst)).toList
   | none => [])
def tied(ops:List Oper)(a b:Oper):Bool:=
 (match a.dst with|some d=>(readsOf ops b).contains d || b.dst==some d|none=>false) ||
 (match b.dst with|some d=>(readsOf ops a).contains d|none=>false) ||
 (effS b.op&&(sens a.op || effS a.op)) || (effS a.op&&sens b.op)
def drawOk(ops:List Oper):Bool:=
 let bs:=befores ops []
 ops.zipIdx.all fun (o,j)=>
  (o.after.toList.all fun e=>!Region.binds .any e || e.on<j) &&
  ops.zipIdx.all fun (a,i)=>!(i<j) || !(tied ops a o) || (!(effS a.op&&sens o.op)&&(bs.getD j 0).testBit i)
def lastOk(ops:List Oper)(j:Nat):Bool:=
 let b:=(befores ops []).getD j 0
 ops.zipIdx.all fun (a,i)=>i==j || !(sens a.op || effS a.op) || b.testBit i
def runOps (cfg : Cfg) (call : CallT) (rnd : Nat → List SV → Zt → Option (SV × Zt)) (all : List Oper) (draw : Bool) : Nat → List Oper → List SV → Zt → Option (List SV × Zt)
  | _, [], env, S => some (env, S)
  | i, o :: r, env, S =>
    if wantedS all env o then
      (if draw && !quietCall cfg env o.op && !lastOk all i then none else
       (opS cfg call rnd env S o.op).bind fun (v, S') => runOps cfg call rnd all draw (i + 1) r (putS env o.dst v) S')
    else runOps cfg call rnd all draw (i + 1) r (putS env o.dst undefS) S
def resultS(cfg:Cfg)(env:List SV)(S:Zt):List ResultVar→Option (List SV)
 |[]=>some []
 |.tmp t::r=>(env[t]?).bind fun v=>(resultS cfg env S r).map fun vs=>v::vs
 |.cell t ty::r=>(cfg.ty ty).bind fun i=>(env[t]?).bind fun p=>(ldS i S p).bind fun v=>(resultS cfg env S r).map fun vs=>v::vs
def packS:List SV→SV
 |[v]=>v
 |vs=>.tup vs
def hasRange:Code→Bool
 |.seq a b=>hasRange a || hasRange b
 |.cond _ a b=>hasRange a || hasRange b
 |.block _ a=>hasRange a
 |.loop a=>hasRange a
 |.scope a=>hasRange a
 |.rangeFunc ..=>true
 |_=>false
def codeOk:Code→Bool
 |.region _ ops draw=>!draw || drawOk ops.toList
 |.seq a b=>codeOk a&&codeOk b
 |.cond _ a b=>codeOk a&&codeOk b
 |.block _ a=>codeOk a
 |.loop a=>codeOk a
 |.scope a=>codeOk a
 |.rangeFunc _ _ a b=>codeOk a&&codeOk b
 |_=>true
def roundOk(c:Code):Bool:=!hasRange c&&codeOk c
def noLoops(S:Zt):Bool:=S.all fun r=>match r with
 |.loop ..=>false
 |_=>true
mutual
def den(cfg:Cfg):Nat→Code→St→Option (X×St)
 |0,_,_=>none
 |n+1,c,st=>match c with
  |.skip=>some (.nrm,st)
  |.region _ ops draw=>(runOps cfg (callS cfg n) (roundS cfg n) ops.toList draw 0 ops.toList st.env st.S).map fun (env,S)=>(.nrm,⟨env,S⟩)
  |.seq a b=>(den cfg n a st).bind fun (e,st')=>match e with
   |.nrm=>den cfg n b st'
   |e=>some (e,st')
  |.cond x a b=>match evalS st.env x with
   |some (.bool true)=>den cfg n a st
   |some (.bool false)=>den cfg n b st
   |_=>none
  |.block id a=>(den cfg n a st).map fun (e,st')=>(if e=.exit id then .nrm else e,st')
  |.loop a=>(den cfg n a st).bind fun (e,st')=>match e with
   |.nrm=>den cfg n (.loop a) st'
   |e=>some (e,st')
  |.exit id=>some (.exit id,st)
  |.ret=>some (.ret,st)
  |.rangeFunc f ps assign body=>match evalS st.env f with
   |some (.fn g a b)=>(callS cfg n g (a++[.yld st.S.length]++b) (st.S++[.loop st.env ps.toList assign body .ready none])).bind fun (_,S')=>
    match S'[st.S.length]? with
    |some (.loop env ps as bd ls pend)=>if ls=.busy then none else
     some (pend.getD .nrm,⟨st.env,S'.set st.S.length .dead⟩)
    |_=>none
   |_=>none
  |_=>none
 termination_by structural n=>n
def bodyS(cfg:Cfg):Nat→FuncId→List SV→Zt→Option (SV×Zt)
 |0,_,_,_=>none
 |n+1,f,args,S=>(cfg.fns f).bind fun fn=>match fn.body with
  |some c=>(den cfg n c ⟨args++List.replicate (fn.ntmps-args.length) undefS,S⟩).bind fun (e,st)=>match e with
   |.exit _=>none
   |_=>if hasRange c=true∧¬noLoops st.S=true then none else(resultS cfg st.env st.S fn.results.toList).map fun vs=>(packS vs,st.S)
  |none=>none
 termination_by structural n=>n
def pureCall(cfg:Cfg):Nat→FuncId→List SV→Option SV
 |0,_,_=>none
 |n+1,f,args=>match cfg.orc f args with
  |some v=>some v
  |none=>(bodyS cfg n f args []).bind fun (v,S)=>frz S dS v
 termination_by structural n=>n
def freshCall(cfg:Cfg):Nat→FuncId→List SV→Option (SV ⊕ (List SV×Nat×Nat×Nat×Option Nat))
 |0,_,_=>none
 |n+1,f,args=>(bodyS cfg n f args []).bind fun (v,S)=>match v with
  |.osl id sz off len cap=>match S[id]? with
   |some (.cells es true)=>if es.all pureS then some (.inr (es,sz,off,len,cap))else none
   |_=>none
  |v=>if pureS v then some (.inl v)else none
 termination_by structural n=>n
def callS(cfg:Cfg):Nat→FuncId→List SV→Zt→Option (SV×Zt)
 |0,_,_,_=>none
 |n+1,f,args,S=>
  match cfg.mode f with
  |.inpl=>bodyS cfg n f args S
  |.pure=>(args.mapM (frz S dS)).bind fun args'=>(pureCall cfg n f args').map fun v=>(v,sealS S (args.flatMap (refs S dS)))
  |.fresh=>(args.mapM (frz S dS)).bind fun args'=>(freshCall cfg n f args').map fun r=>match r with
   |.inl v=>(v,sealS S (args.flatMap (refs S dS)))
   |.inr (es,sz,off,len,cap)=>(.osl S.length sz off len cap,sealS S (args.flatMap (refs S dS))++[.cells es true])
 termination_by structural n=>n
def roundS(cfg:Cfg):Nat→Nat→List SV→Zt→Option (SV×Zt)
 |0,_,_,_=>none
 |n+1,l,args,S=>match S[l]? with
  |some (.loop env ps assign body .ready none)=>
   if args.length=ps.length∧roundOk assign=true∧roundOk body=true then
   (den cfg n assign ⟨(ps.zip args).foldl (fun e (t,a)=>e.set t a) env,S⟩).bind fun (e,st)=>if e=.nrm then
    (match st.S[l]? with
    |some (.loop env ps as bd .ready none)=>(den cfg n body ⟨st.env,st.S.set l (.loop env ps as bd .busy none)⟩).bind fun (e,st)=>
     (match st.S[l]? with
     |some (.loop env ps as bd .busy none)=>(match e with
      |.nrm=>some (.bool true,st.S.set l (.loop env ps as bd .ready none))
      |e=>some (.bool false,st.S.set l (.loop env ps as bd .done (some e))))
     |_=>none)
    |_=>none)else none
   else none
  |_=>none
 termination_by structural n=>n
end
def zeroS:Value→Option SV
 |.agg cs=>(cs.toList.mapM constS).map .agg
 |v=>constS v
def mkTy(P:Program)(t:TypeId):Option TyI:=(P.info? t).bind fun i=>(i.zero.bind zeroS).bind fun z=>(P.underlying t).map fun u=>
 { size:=i.size,bytes:=i.bytes,zero:=z,kind:=match u with
  |.bool=>.bool
  |.int _=>.int
  |.string=>.str
  |.slice e=>.slice e
  |.struct fs=>.struct (fs.toList.map fun f=>(f.offset,f.type))
  |.array n e=>.array n e
  |.pointer e=>.ptr e
  |_=>.scal }
structure Ix where
 b:Nat
 o:Nat
 sz:Nat
 cp:Nat
abbrev IM:=Nat→Option Ix
abbrev Fset:=Nat→Nat→Prop
def noI:IM:=fun _=>none
mutual
def VR:IM→Fset→World→SV→Value→Prop
 |_,_,_,.int k n,v=>v=.int k n
 |_,_,_,.bool b,v=>v=.bool b
 |_,_,_,.str s,v=>v=.string s
 |_,_,_,.nilp,v=>v=.pointer none
 |_,_,_,.nilf,v=>v=.nilFunc
 |_,_,_,.nili,v=>v=.nilIface
 |ι,F,w,.iface t x,v=>∃y,v=.iface t y∧VR ι F w x y
 |ι,F,w,.agg cs,v=>∃a,v=.agg a∧VRs ι F w cs a.toList
 |ι,F,w,.tup cs,v=>∃a,v=.tuple a∧VRs ι F w cs a.toList
 |_,F,w,.vsl es c,v=>∃a cap,v=.slice a es.length cap∧es.length≤cap∧(c=.nil→a=none∧cap=0∧es=[])∧
   (c≠.nil→∃b o sz,a=some ⟨b,o,none⟩∧0<sz∧VE F w es b o sz)∧(c=.exact→cap=es.length)
 |ι,_,_,.osl id sz off len cap,v=>∃ix c b o,ι id=some ix∧ix.sz=sz∧v=.slice (some ⟨b,o,none⟩) len c∧len≤c∧(∀k,cap=some k→c=k)∧
   (0<c→b=ix.b∧o=ix.o+off*sz∧off+c≤ix.cp)
 |_,F,w,.vptr e,v=>∃b o x,v=.pointer (some ⟨b,o,none⟩)∧VR noI F w e x∧0<x.cells.size∧∀j,j<x.cells.size→F b (o+j)∧w.cell? ⟨b,o+j,none⟩=x.cells[j]?
 |ι,_,_,.optr id i off,v=>∃ix,ι id=some ix∧v=.pointer (some ⟨ix.b,ix.o+i*ix.sz+off,none⟩)
 |ι,F,w,.fn f a b,v=>∃x y,v=.func (.func f) x y∧VRs ι F w a x.toList∧VRs ι F w b y.toList
 |ι,_,_,.yld l,v=>∃ix,ι l=some ix∧v=.func (.yield ix.b) #[] #[]
def VRs:IM→Fset→World→List SV→List Value→Prop
 |_,_,_,[],vs=>vs=[]
 |ι,F,w,e::r,vs=>∃x xs,vs=x::xs∧VR ι F w e x∧VRs ι F w r xs
def VE:Fset→World→List SV→Nat→Nat→Nat→Prop
 |_,_,[],_,_,_=>True
 |F,w,e::r,b,o,sz=>(∃x,VR noI F w e x∧x.cells.size=sz∧∀j,j<sz→F b (o+j)∧w.cell? ⟨b,o+j,none⟩=x.cells[j]?)∧VE F w r b (o+sz) sz
end
def At(ι:IM)(F:Fset)(w:World)(e:SV)(b o sz:Nat):Prop:=
 ∃x,VR ι F w e x∧x.cells.size=sz∧∀j,j<sz→w.cell? ⟨b,o+j,none⟩=x.cells[j]?
def AtF(F:Fset)(w:World)(e:SV)(b o sz:Nat):Prop:=
 ∃x,VR noI F w e x∧x.cells.size=sz∧∀j,j<sz→F b (o+j)∧w.cell? ⟨b,o+j,none⟩=x.cells[j]?
theorem VE_iff{F:Fset}{w:World}{b sz:Nat}:∀{es:List SV} {o:Nat},VE F w es b o sz↔∀(i:Nat) (e:SV),es[i]?=some e→AtF F w e b (o+i*sz) sz:=by
 intro es
 induction es with
 |nil=>intro o;simp[VE]
 |cons e r ih=>
  intro o
  rw[VE,ih]
  constructor
  ·rintro⟨h0,h1⟩ i x hx
   cases i with
   |zero=>simp at hx;subst hx;simpa[AtF]using h0
   |succ i=>
    have:=h1 i x (by simpa using hx)
    rwa [show o+(i+1)*sz=o+sz+i*sz by rw[Nat.succ_mul];omega]
  ·intro h
   refine⟨by simpa[AtF]using h 0 e (by simp),fun i x hx=>?_⟩
   have:=h (i+1) x (by simpa using hx)
   rwa [show o+(i+1)*sz=o+sz+i*sz by rw[Nat.succ_mul];omega]at this
theorem VRs_iff{ι:IM}{F:Fset}{w:World}:∀{es:List SV} {vs:List Value},VRs ι F w es vs↔es.length=vs.length∧∀(i:Nat) (e:SV),es[i]?=some e→∃v,vs[i]?=some v∧VR ι F w e v:=by
 intro es
 induction es with
 |nil=>intro vs;simp[VRs,eq_comm]
 |cons e r ih=>
  intro vs
  rw[VRs]
  constructor
  ·rintro⟨x,xs,rfl,h0,h1⟩
   rw[ih]at h1
   refine⟨by simp[h1.1],fun i y hy=>?_⟩
   cases i with
   |zero=>simp at hy;subst hy;exact⟨x,by simp,h0⟩
   |succ i=>simpa using h1.2 i y (by simpa using hy)
  ·rintro⟨h0,h1⟩
   cases vs with
   |nil=>simp at h0
   |cons x xs=>
    obtain⟨v,hv,hx⟩:=h1 0 e (by simp)
    simp at hv;subst hv
    exact⟨x,xs,rfl,hx,ih.2 ⟨by simpa using h0,fun i y hy=>by simpa using h1 (i+1) y (by simpa using hy)⟩⟩
theorem VRs.length{ι:IM}{F:Fset}{w:World}{es:List SV}{vs:List Value}(h:VRs ι F w es vs):es.length=vs.length:=(VRs_iff.1 h).1
theorem VRs.get{ι:IM}{F:Fset}{w:World}{es:List SV}{vs:List Value}(h:VRs ι F w es vs){i:Nat}{e:SV}(he:es[i]?=some e):∃v,vs[i]?=some v∧VR ι F w e v:=(VRs_iff.1 h).2 i e he
theorem VRs.append{ι:IM}{F:Fset}{w:World}:∀{es es':List SV} {vs vs':List Value},VRs ι F w es vs→VRs ι F w es' vs'→VRs ι F w (es++es') (vs++vs')
 |[],_,_,_,h,h'=>by simp only[VRs]at h;subst h;simpa using h'
 |e::r,_,_,_,h,h'=>by
  obtain⟨x,xs,rfl,h0,h1⟩:=h
  exact⟨x,xs++_,rfl,h0,h1.append h'⟩
theorem VRs.replicate{ι:IM}{F:Fset}{w:World}{e:SV}{v:Value}(h:VR ι F w e v):∀n,VRs ι F w (List.replicate n e) (List.replicate n v)
 |0=>by simp[VRs]
 |n+1=>⟨v,List.replicate n v,rfl,h,VRs.replicate h n⟩
theorem VRs.drop{ι:IM}{F:Fset}{w:World}{es:List SV}{vs:List Value}(h:VRs ι F w es vs)(n:Nat):VRs ι F w (es.drop n) (vs.drop n):=by
 rw[VRs_iff]at *
 refine⟨by simp[h.1],fun i e he=>?_⟩
 rw[List.getElem?_drop]at he ⊢
 exact h.2 _ _ he
theorem VRs.take{ι:IM}{F:Fset}{w:World}{es:List SV}{vs:List Value}(h:VRs ι F w es vs)(n:Nat):VRs ι F w (es.take n) (vs.take n):=by
 rw[VRs_iff]at *
 refine⟨by simp[h.1],fun i e he=>?_⟩
 rw[List.getElem?_take]at he ⊢
 split at he
 ·rename_i hlt;rw[if_pos hlt];exact h.2 _ _ he
 ·simp at he
theorem VRs.set{ι:IM}{F:Fset}{w:World}{es:List SV}{vs:List Value}{e:SV}{v:Value}(h:VRs ι F w es vs)(hv:VR ι F w e v)(n:Nat):VRs ι F w (es.set n e) (vs.set n v):=by
 rw[VRs_iff]at *
 refine⟨by simp[h.1],fun i x hx=>?_⟩
 rw[List.getElem?_set]at hx ⊢
 by_cases hn:n=i
 ·subst hn
  rw[if_pos rfl]at hx ⊢
  split at hx
  ·rename_i hlt
   simp at hx;subst hx
   rw[if_pos (h.1▸hlt)]
   exact⟨v,rfl,hv⟩
  ·simp at hx
 ·rw[if_neg hn]at hx ⊢;exact h.2 _ _ hx
structure Up(ι:IM)(F:Fset)(w:World)(ι':IM)(F':Fset)(w':World):Prop where
 im:∀id ix,ι id=some ix→ι' id=some ix
 fm:∀b o,F b o→F' b o
 cell:∀b o,F b o→w'.cell? ⟨b,o,none⟩=w.cell? ⟨b,o,none⟩
theorem Up.noI{ι ι':IM}{F F':Fset}{w w':World}(h:Up ι F w ι' F' w'):Up noI F w noI F' w':=⟨fun _ _ h=>h,h.fm,h.cell⟩
theorem Up.trans{ι ι' ι'':IM}{F F' F'':Fset}{w w' w'':World}(h:Up ι F w ι' F' w')(k:Up ι' F' w' ι'' F'' w''):Up ι F w ι'' F'' w'':=
 ⟨fun id ix e=>k.im _ _ (h.im _ _ e),fun b o e=>k.fm _ _ (h.fm _ _ e),fun b o e=>(k.cell _ _ (h.fm _ _ e)).trans (h.cell _ _ e)⟩
theorem Up.refl(ι:IM)(F:Fset)(w:World):Up ι F w ι F w:=⟨fun _ _ h=>h,fun _ _ h=>h,fun _ _ _=>rfl⟩
mutual
theorem VR.up:∀{e:SV} {ι ι':IM} {F F':Fset} {w w':World} {v:Value},Up ι F w ι' F' w'→VR ι F w e v→VR ι' F' w' e v
 |.int _ _,_,_,_,_,_,_,_,_,h=>h
 |.bool _,_,_,_,_,_,_,_,_,h=>h
 |.str _,_,_,_,_,_,_,_,_,h=>h
 |.nilp,_,_,_,_,_,_,_,_,h=>h
 |.nilf,_,_,_,_,_,_,_,_,h=>h
 |.nili,_,_,_,_,_,_,_,_,h=>h
 |.iface _ _,_,_,_,_,_,_,_,u,h=>by obtain⟨y,rfl,h⟩:=h;exact⟨y,rfl,VR.up u h⟩
 |.agg _,_,_,_,_,_,_,_,u,h=>by obtain⟨y,rfl,h⟩:=h;exact⟨y,rfl,VRs.up u h⟩
 |.tup _,_,_,_,_,_,_,_,u,h=>by obtain⟨y,rfl,h⟩:=h;exact⟨y,rfl,VRs.up u h⟩
 |.vsl _ _,_,_,_,_,_,_,_,u,h=>by
  obtain⟨a,cap,rfl,h1,h2,h3,h4⟩:=h
  exact⟨a,cap,rfl,h1,h2,fun k=>by obtain⟨b,o,sz,e,hz,h⟩:=h3 k;exact⟨b,o,sz,e,hz,VE.up u h⟩,h4⟩
 |.osl _ _ _ _ _,_,_,_,_,_,_,_,u,h=>by
  obtain⟨ix,c,b,o,h1,h2,h3,h4,h5,h6⟩:=h
  exact⟨ix,c,b,o,u.im _ _ h1,h2,h3,h4,h5,h6⟩
 |.vptr _,_,_,_,_,_,_,_,u,h=>by
  obtain⟨b,o,x,rfl,h1,h2,h3⟩:=h
  exact⟨b,o,x,rfl,VR.up u.noI h1,h2,fun j hj=>⟨u.fm _ _ (h3 j hj).1,(u.cell _ _ (h3 j hj).1).trans (h3 j hj).2⟩⟩
 |.optr _ _ _,_,_,_,_,_,_,_,u,h=>by obtain⟨ix,h1,h2⟩:=h;exact⟨ix,u.im _ _ h1,h2⟩
 |.fn _ _ _,_,_,_,_,_,_,_,u,h=>by obtain⟨x,y,rfl,h1,h2⟩:=h;exact⟨x,y,rfl,VRs.up u h1,VRs.up u h2⟩
 |.yld _,_,_,_,_,_,_,_,u,h=>by obtain⟨ix,h1,h2⟩:=h;exact⟨ix,u.im _ _ h1,h2⟩
theorem VRs.up:∀{es:List SV} {ι ι':IM} {F F':Fset} {w w':World} {vs:List Value},Up ι F w ι' F' w'→VRs ι F w es vs→VRs ι' F' w' es vs
 |[],_,_,_,_,_,_,_,_,h=>h
 |_::_,_,_,_,_,_,_,_,u,h=>by obtain⟨x,xs,rfl,h1,h2⟩:=h;exact⟨x,xs,rfl,VR.up u h1,VRs.up u h2⟩
theorem VE.up:∀{es:List SV} {ι ι':IM} {F F':Fset} {w w':World} {b o sz:Nat},Up ι F w ι' F' w'→VE F w es b o sz→VE F' w' es b o sz
 |[],_,_,_,_,_,_,_,_,_,_,h=>h
 |_::_,_,_,_,_,_,_,_,_,_,u,h=>by
  obtain⟨⟨x,h1,h2,h3⟩,h4⟩:=h
  exact⟨⟨x,VR.up u.noI h1,h2,fun j hj=>⟨u.fm _ _ (h3 j hj).1,(u.cell _ _ (h3 j hj).1).trans (h3 j hj).2⟩⟩,VE.up u h4⟩
end
theorem VR.pure{F:Fset}{w:World}{ι:IM}{e:SV}{v:Value}(h:VR noI F w e v):VR ι F w e v:=h.up ⟨(fun _ _ h=>by cases h),fun _ _ h=>h,fun _ _ _=>rfl⟩
theorem VRs.pure{F:Fset}{w:World}{ι:IM}{e:List SV}{v:List Value}(h:VRs noI F w e v):VRs ι F w e v:=h.up ⟨(fun _ _ h=>by cases h),fun _ _ h=>h,fun _ _ _=>rfl⟩
theorem VR.cells{ι:IM}{F:Fset}{w:World}{e:SV}{v:Value}(h:VR ι F w e v):VRs ι F w e.cells v.cells.toList:=by
 have one:∀x:SV,VR ι F w x v→v.cells=#[v]→VRs ι F w [x] v.cells.toList:=fun x hx hv=>by rw[hv];exact⟨v,[],rfl,hx,rfl⟩
 cases e with
 |agg cs=>obtain⟨a,rfl,h⟩:=h;exact h
 |int _ _=>exact one _ h (by cases h;rfl)
 |bool _=>exact one _ h (by cases h;rfl)
 |str _=>exact one _ h (by cases h;rfl)
 |nilp=>exact one _ h (by cases h;rfl)
 |nilf=>exact one _ h (by cases h;rfl)
 |nili=>exact one _ h (by cases h;rfl)
 |iface _ _=>exact one _ h (by obtain⟨_,rfl,_⟩:=h;rfl)
 |tup _=>exact one _ h (by obtain⟨_,rfl,_⟩:=h;rfl)
 |vsl _ _=>exact one _ h (by obtain⟨_,_,rfl,_⟩:=h;rfl)
 |osl _ _ _ _ _=>exact one _ h (by obtain⟨_,_,_,_,_,_,rfl,_⟩:=h;rfl)
 |vptr _=>exact one _ h (by obtain⟨_,_,_,rfl,_⟩:=h;rfl)
 |optr _ _ _=>exact one _ h (by obtain⟨_,_,rfl⟩:=h;rfl)
 |fn _ _ _=>exact one _ h (by obtain⟨_,_,rfl,_⟩:=h;rfl)
 |yld _=>exact one _ h (by obtain⟨_,_,rfl⟩:=h;rfl)
theorem VR.n{ι:IM}{F:Fset}{w:World}{e:SV}{v:Value}(h:VR ι F w e v):e.n=v.cells.size:=by
 have:=h.cells.length;simpa[SV.n]using this
theorem VR.one{ι:IM}{F:Fset}{w:World}{e:SV}{v:Value}(h:VR ι F w e v)(ho:oneS e=true):v.cells=#[v]∧v.oneCell'=true:=by
 cases e with
 |agg _=>cases ho
 |tup _=>cases ho
 |int _ _=>cases h;exact⟨rfl,rfl⟩
 |bool _=>cases h;exact⟨rfl,rfl⟩
 |str _=>cases h;exact⟨rfl,rfl⟩
 |nilp=>cases h;exact⟨rfl,rfl⟩
 |nilf=>cases h;exact⟨rfl,rfl⟩
 |nili=>cases h;exact⟨rfl,rfl⟩
 |iface _ _=>obtain⟨_,rfl,_⟩:=h;exact⟨rfl,rfl⟩
 |vsl _ _=>obtain⟨_,_,rfl,_⟩:=h;exact⟨rfl,rfl⟩
 |osl _ _ _ _ _=>obtain⟨_,_,_,_,_,_,rfl,_⟩:=h;exact⟨rfl,rfl⟩
 |vptr _=>obtain⟨_,_,_,rfl,_⟩:=h;exact⟨rfl,rfl⟩
 |optr _ _ _=>obtain⟨_,_,rfl⟩:=h;exact⟨rfl,rfl⟩
 |fn _ _ _=>obtain⟨_,_,rfl,_⟩:=h;exact⟨rfl,rfl⟩
 |yld _=>obtain⟨_,_,rfl⟩:=h;exact⟨rfl,rfl⟩
theorem cells_array(v:Value)(j:Nat):v.cells[j]?=v.cells.toList[j]?:=by simp
def kindOf:TypeDesc→TK
 |.bool=>.bool
 |.int _=>.int
 |.string=>.str
 |.slice e=>.slice e
 |.struct fs=>.struct (fs.toList.map fun f=>(f.offset,f.type))
 |.array n e=>.array n e
 |.pointer e=>.ptr e
 |_=>.scal
structure TyOk(P:Program)(t:TypeId)(i:TyI):Prop where
 info:∃d,P.info? t=some d∧d.size=i.size∧d.bytes=i.bytes∧∃z,d.zero=some z∧∀ι F w,VR ι F w i.zero z
 und:∃u,P.underlying t=some u∧i.kind=kindOf u∧(∀k n,i.zero=.int k n→i.kind=.int→u=.int k)
structure TyAll(P:Program)(cfg:Cfg):Prop where
 ty:∀t i,cfg.ty t=some i→TyOk P t i
theorem TyOk.size{P:Program}{t:TypeId}{i:TyI}(h:TyOk P t i)(w:World):(sizeOf t).run P w=.ok i.size w:=by
 obtain⟨d,hd,hs,_⟩:=h.info
 simp[sizeOf,typeInfo,hd,hs]
theorem TyOk.agg{P:Program}{t:TypeId}{i:TyI}(h:TyOk P t i)(w:World):(isAgg t).run P w=.ok i.isAgg w:=by
 obtain⟨u,hu,hk,_⟩:=h.und
 cases u<;>simp[isAgg,run_underlying hu,TyI.isAgg,hk,kindOf]
theorem TyOk.slice{P:Program}{t e:TypeId}{i:TyI}(h:TyOk P t i)(hk:i.kind=.slice e):P.underlying t=some (.slice e):=by
 obtain⟨u,hu,hk',_⟩:=h.und
 rw[hk]at hk'
 cases u<;>simp[kindOf]at hk'
 subst hk';exact hu
theorem TyOk.array{P:Program}{t e:TypeId}{n:Nat}{i:TyI}(h:TyOk P t i)(hk:i.kind=.array n e):P.underlying t=some (.array n e):=by
 obtain⟨u,hu,hk',_⟩:=h.und
 rw[hk]at hk'
 cases u<;>simp[kindOf]at hk'
 obtain⟨rfl,rfl⟩:=hk';exact hu
theorem TyOk.struct{P:Program}{t:TypeId}{fs:List (Nat×TypeId)}{i:TyI}(h:TyOk P t i)(hk:i.kind=.struct fs) :
  ∃gs:Array Field,P.underlying t=some (.struct gs)∧fs=gs.toList.map fun f=>(f.offset,f.type):=by
 obtain⟨u,hu,hk',_⟩:=h.und
 rw[hk]at hk'
 cases u<;>simp[kindOf]at hk'
 exact⟨_,hu,hk'⟩
theorem TyOk.str{P:Program}{t:TypeId}{i:TyI}(h:TyOk P t i)(hk:i.kind=.str):P.underlying t=some .string:=by
 obtain⟨u,hu,hk',_⟩:=h.und
 rw[hk]at hk'
 cases u<;>simp[kindOf]at hk'
 exact hu
theorem TyOk.bool{P:Program}{t:TypeId}{i:TyI}(h:TyOk P t i)(hk:i.kind=.bool):P.underlying t=some .bool:=by
 obtain⟨u,hu,hk',_⟩:=h.und
 rw[hk]at hk'
 cases u<;>simp[kindOf]at hk'
 exact hu
theorem wrapS_eq(k:IntKind)(n:Int):wrS k n=IntKind.wrap k n:=by
 cases k<;>simp only[wrS]<;>(try rfl)<;>split<;>(try rfl)<;>rename_i h<;>simp[IntKind.wrap,IntKind.bits,IntKind.signed]<;>(try split)<;>omega
theorem constS_ok{v:Value}{s:SV}(h:constS v=some s)(ι:IM)(F:Fset)(w:World):VR ι F w s v:=by
 unfold constS at h
 split at h<;>cases h<;>simp[VR]
theorem evalS_ok{ι:IM}{F:Fset}{w:World}{env:List SV}{a:Act}{x:Operand}{v:SV}(he:VRs ι F w env a.tmps.toList)(h:evalS env x=some v):VR ι F w v (a.eval x):=by
 cases x with
 |tmp t=>
  obtain⟨u,hu,hv⟩:=he.get h
  have:a.eval (.tmp t)=u:=by simp[Act.eval,Array.getD_eq_getD_getElem?]at *;simp[hu]
  rw[this];exact hv
 |const c=>exact constS_ok h ι F w
 |func f=>simp[evalS]at h;subst h;exact⟨#[],#[],rfl,rfl,rfl⟩
 |global g=>simp[evalS]at h
theorem evalsS_ok{ι:IM}{F:Fset}{w:World}{env:List SV}{a:Act}(he:VRs ι F w env a.tmps.toList):∀{xs:List Operand} {vs:List SV},evalsS env xs=some vs→VRs ι F w vs (xs.map a.eval)
 |[],vs,h=>by simp[evalsS]at h;subst h;rfl
 |x::r,vs,h=>by
  simp only[evalsS,Option.bind_eq_some_iff]at h
  obtain⟨v,h1,vs',h2,h3⟩:=h
  cases h3
  exact⟨_,_,rfl,evalS_ok he h1,evalsS_ok he h2⟩
theorem partS_ok{P:Program}{t:TypeId}{i:TyI}(ht:TyOk P t i){ι:IM}{F:Fset}{w:World}{cs:List SV}{a:Array Value}{off:Nat}{v:SV}(hc:VRs ι F w cs a.toList)(h:partS i cs off=some v) :
  ∃x,(∀w',(part t a off).run P w'=.ok x w')∧VR ι F w v x:=by
 unfold partS at h
 unfold part
 simp only[Sem.run_bind,ht.agg,Result.andThen_ok]
 split at h
 ·rename_i hg
  simp only[]at h
  split at h
  ·rename_i hl
   cases h
   rw[if_pos hg]
   simp only[Sem.run_bind,ht.size,Result.andThen_ok,Sem.run_pure]
   refine⟨_,fun _=>rfl,⟨_,rfl,?_⟩⟩
   have:=(hc.drop off).take i.size
   simpa[Array.toList_extract,List.extract_eq_take_drop]using this
  ·cases h
 ·rename_i hg
  simp only[Option.bind_eq_some_iff]at h
  obtain⟨y,hy,h⟩:=h
  split at h<;>cases h
  obtain⟨x,hx,hv⟩:=hc.get hy
  rw[if_neg hg]
  have hx':a[off]?=some x:=by simpa using hx
  simp only[hx',Sem.run_pure]
  exact⟨x,fun _=>rfl,hv⟩
theorem cmpS_ok{op:BinOp}{x y:Int}{v:SV}(h:cmpS op x y=some v)(P:Program)(ι:IM)(F:Fset)(w:World):∃u,(∀w',(Op.intCmp op x y).run P w'=.ok u w')∧VR ι F w v u:=by
 cases op<;>simp[cmpS]at h<;>subst h<;>exact⟨_,fun _=>rfl,by simp[VR]⟩
theorem arithS_ok{op:BinOp}{k:IntKind}{x y:Int}{v:SV}(ho:isShift op=false)(h:arithS op k x y=some v)(P:Program)(t:TypeId)(ι:IM)(F:Fset)(w:World):∃u,(∀w',(binOp op t (.int k x) (.int k y)).run P w'=.ok u w')∧VR ι F w v u:=by
 have hb:binOp op t (.int k x) (.int k y)=(match op with
  |.add|.sub|.mul=>Op.intArith op k x y
  |.quo|.rem=>Op.intDiv op k x y
  |.and|.or|.xor|.andNot=>Op.intBits op k x y
  |_=>Op.intCmp op x y):=by
  cases op<;>simp[isShift]at ho<;>simp[binOp]
 rw[hb]
 cases op<;>simp only[arithS]at h
 case add=>cases h;exact⟨_,fun _=>rfl,by simp[VR,wrapS_eq]⟩
 case sub=>cases h;exact⟨_,fun _=>rfl,by simp[VR,wrapS_eq]⟩
 case mul=>cases h;exact⟨_,fun _=>rfl,by simp[VR,wrapS_eq]⟩
 case quo=>
  split at h
  ·cases h
  ·rename_i hy;cases h;exact⟨_,fun _=>by simp only[Op.intDiv,if_neg hy];rfl,by simp[VR,wrapS_eq]⟩
 case rem=>
  split at h
  ·cases h
  ·rename_i hy;cases h;exact⟨_,fun _=>by simp only[Op.intDiv,if_neg hy];rfl,by simp[VR]⟩
 case and=>cases h;exact⟨_,fun _=>rfl,by simp[VR,wrapS_eq]⟩
 case or=>cases h;exact⟨_,fun _=>rfl,by simp[VR,wrapS_eq]⟩
 case xor=>cases h;exact⟨_,fun _=>rfl,by simp[VR,wrapS_eq]⟩
 case andNot=>cases h;exact⟨_,fun _=>rfl,by simp[VR,wrapS_eq]⟩
 case shl=>simp[isShift]at ho
 case shr=>simp[isShift]at ho
 all_goals exact cmpS_ok h P ι F w
theorem shiftS_ok{op:BinOp}{k k':IntKind}{x y:Int}{v:SV}(h:shiftS op k x y=some v)(P:Program)(t:TypeId)(ι:IM)(F:Fset)(w:World):∃u,(∀w',(binOp op t (.int k x) (.int k' y)).run P w'=.ok u w')∧VR ι F w v u:=by
 unfold shiftS at h
 split at h
 ·cases h
 ·rename_i hy
  cases op<;>simp only[]at h<;>cases h
  ·exact⟨_,fun _=>by simp only[binOp,Op.shift,if_neg hy];rfl,by simp[VR,wrapS_eq]⟩
  ·exact⟨_,fun _=>by simp only[binOp,Op.shift,if_neg hy];rfl,by simp[VR]⟩
theorem eqGuard_ok(P:Program)(op:BinOp)(t:TypeId)(x y:Operand){a b:Value}(h1:∀c,a≠.agg c)(h2:a≠.nilIface)(w:World):(eqGuard op t x y a b).run P w=.ok () w:=by
 cases a with
 |nilIface=>exact absurd rfl h2
 |agg c=>exact absurd rfl (h1 c)
 |_=>cases op<;>rfl
theorem run_equal_bool{P:Program}{t:TypeId}(hu:P.underlying t=some .bool)(a b:Bool)(w:World):(Op.equal t (.bool a) (.bool b)).run P w=.ok (a==b) w:=by
 show(Op.equalIn (9999+1) t (.bool a) (.bool b)).run P w=_
 rw[Op.equalIn]
 simp only[Sem.run_bind,run_underlying hu,Result.andThen_ok,Sem.run_pure]
theorem run_equal_nil{P:Program}{t e:TypeId}(hu:P.underlying t=some (.slice e))(a:Option Addr)(n c:Nat)(w:World):(Op.equal t (.slice a n c) (.slice none 0 0)).run P w=.ok a.isNone w:=by
 show(Op.equalIn (9999+1) t (.slice a n c) (.slice none 0 0)).run P w=_
 rw[Op.equalIn]
 cases a<;>simp only[Sem.run_bind,run_underlying hu,Result.andThen_ok,Sem.run_pure,Option.isNone_none,Option.isNone_some]
theorem binS_ok{P:Program}{cfg:Cfg}(hT:TyAll P cfg){op:BinOp}{t:TypeId}{x y:SV}{v:SV}{a b:Value}{ι:IM}{F:Fset}{w:World}(hx:VR ι F w x a)(hy:VR ι F w y b)(h:bnS op (cfg.ty t) x y=some v)(px py:Operand) :
  ∃u,(∀w',((do eqGuard op t px py a b;binOp op t a b:Sem Value)).run P w'=.ok u w')∧VR ι F w v u:=by
 unfold bnS at h
 split at h
 ·rename_i k m k' n
  cases hx;cases hy
  have hg:∀w',(eqGuard op t px py (.int k m) (.int k' n)).run P w'=.ok () w':=fun w'=>eqGuard_ok P op t px py (by simp) (by simp) w'
  simp only[Sem.run_bind,hg,Result.andThen_ok]
  split at h
  ·exact shiftS_ok h P t ι F w
  ·rename_i hs
   split at h
   ·rename_i hk;subst hk;exact arithS_ok (by simpa using hs) h P t ι F w
   ·cases h
 ·rename_i m n
  cases hx;cases hy
  have hg:∀w',(eqGuard op t px py (.bool m) (.bool n)).run P w'=.ok () w':=fun w'=>eqGuard_ok P op t px py (by simp) (by simp) w'
  simp only[Sem.run_bind,hg,Result.andThen_ok]
  split at h
  ·rename_i hc
   have hu:=(hT.ty _ _ hc).bool rfl
   cases op<;>simp at h<;>subst h
   ·exact⟨_,fun w'=>by simp only[binOp,Sem.run_bind,run_equal_bool hu,Result.andThen_ok,Sem.run_pure];rfl,by simp[VR]⟩
   ·exact⟨_,fun w'=>by simp only[binOp,Sem.run_bind,run_equal_bool hu,Result.andThen_ok,Sem.run_pure];rfl,by simp[VR]⟩
  ·cases h
 ·rename_i es c
  obtain⟨A,cap,rfl,-,h1,h2,-⟩:=hx
  obtain⟨A',cap',rfl,-,h1',-⟩:=hy
  obtain⟨rfl,rfl,-⟩:=h1' rfl
  have hg:∀w',(eqGuard op t px py (.slice A es.length cap) (.slice none 0 0)).run P w'=.ok () w':=fun w'=>eqGuard_ok P op t px py (by simp) (by simp) w'
  simp only[Sem.run_bind,hg,Result.andThen_ok,List.length_nil]
  split at h
  ·rename_i e hc
   have hu:=(hT.ty _ _ hc).slice rfl
   have hA:A.isNone=(c==.nil):=by
    cases c with
    |nil=>rw[(h1 rfl).1];rfl
    |exact=>obtain⟨b,o,sz,e,_⟩:=h2 (by simp);rw[e];rfl
    |loose=>obtain⟨b,o,sz,e,_⟩:=h2 (by simp);rw[e];rfl
   have he:∀w',(Op.equal t (.slice A es.length cap) (.slice none 0 0)).run P w'=.ok A.isNone w':=fun w'=>run_equal_nil hu _ _ _ w'
   cases op<;>simp at h<;>subst h
   ·exact⟨_,fun w'=>by simp only[binOp,Sem.run_bind,he,Result.andThen_ok,Sem.run_pure];rfl,by simp[VR,hA]⟩
   ·exact⟨_,fun w'=>by simp only[binOp,Sem.run_bind,he,Result.andThen_ok,Sem.run_pure];rfl,by simp[VR,hA]⟩
  ·cases h
 ·rename_i id sz off len cp
  obtain⟨ix,c,b,o,-,-,rfl,-⟩:=hx
  obtain⟨A',cap',rfl,-,h1',-⟩:=hy
  obtain⟨rfl,rfl,-⟩:=h1' rfl
  have hg:∀w',(eqGuard op t px py (.slice (some ⟨b,o,none⟩) len c) (.slice none 0 0)).run P w'=.ok () w':=fun w'=>eqGuard_ok P op t px py (by simp) (by simp) w'
  simp only[Sem.run_bind,hg,Result.andThen_ok,List.length_nil]
  split at h
  ·rename_i e hc
   have hu:=(hT.ty _ _ hc).slice rfl
   have he:∀w',(Op.equal t (.slice (some ⟨b,o,none⟩) len c) (.slice none 0 0)).run P w'=.ok false w':=fun w'=>run_equal_nil hu _ _ _ w'
   cases op<;>simp at h<;>subst h
   ·exact⟨_,fun w'=>by simp only[binOp,Sem.run_bind,he,Result.andThen_ok,Sem.run_pure];rfl,by simp[VR]⟩
   ·exact⟨_,fun w'=>by simp only[binOp,Sem.run_bind,he,Result.andThen_ok,Sem.run_pure];rfl,by simp[VR]⟩
  ·cases h
 ·cases h
theorem unS_ok{P:Program}{op:UnOp}{x v:SV}{a:Value}{ι:IM}{F:Fset}{w:World}(hx:VR ι F w x a)(h:unS op x=some v):∃u,(∀w',(Op.unary op a).run P w'=.ok u w')∧VR ι F w v u:=by
 unfold unS at h
 split at h<;>cases h<;>cases hx
 ·exact⟨_,fun _=>rfl,by simp[VR,wrapS_eq]⟩
 ·exact⟨_,fun _=>rfl,by simp[VR,wrapS_eq]⟩
 ·exact⟨_,fun _=>rfl,by simp[VR]⟩
theorem natS_ok{x:SV}{n:Nat}{a:Value}{ι:IM}{F:Fset}{w:World}(hx:VR ι F w x a)(h:natS x=some n):∃k,a=.int k (n:Int):=by
 unfold natS at h
 split at h
 ·split at h
  ·rename_i k m hm;cases h;cases hx;exact⟨k,by rw[Int.toNat_of_nonneg hm]⟩
  ·cases h
 ·cases h
theorem add_at(b o n:Nat):(⟨b,o,none⟩:Addr).add n=⟨b,o+n,none⟩:=by
 unfold Addr.add;split<;>simp_all
def OptN:Option Nat→Option Value→Prop
 |none,none=>True
 |some n,some v=>∃k,v=.int k (n:Int)
 |_,_=>False
theorem optNat_ok{ι:IM}{F:Fset}{w:World}{env:List SV}{a:Act}(he:VRs ι F w env a.tmps.toList){x:Option Operand}{r:Option Nat}(h:optNat (x.map fun o=>(evalS env o).getD .nilp)=some r):OptN r (x.map a.eval):=by
 cases x with
 |none=>simp[optNat]at h;subst h;trivial
 |some x=>
  simp only[Option.map_some,optNat,Option.map_eq_some_iff]at h
  obtain⟨n,h,rfl⟩:=h
  cases hv:evalS env x with
  |none=>simp[hv,natS]at h
  |some v=>
   rw[hv]at h
   exact natS_ok (evalS_ok he hv) h
theorem sliceBound_ok(P:Program)(k:IntKind)(n y:Nat)(c:BoundsCode)(h:n≤y)(w:World):(Instr.sliceBound (.int k (n:Int)) y c).run P w=.ok n w:=by
 unfold Instr.sliceBound
 simp only[asIntOf,Sem.run_bind,Sem.run_pure,Result.andThen_ok]
 rw[if_pos ⟨by omega,by omega⟩]
 simp
theorem sliceBounds_ok(P:Program){len cap:Nat}{lo hi mx:Option Nat}{lo' hi' mx':Option Value}(hlo:OptN lo lo')(hhi:OptN hi hi')(hmx:OptN mx mx')
  (h1:mx.getD cap≤cap) (h2:hi.getD len≤mx.getD cap) (h3:lo.getD 0≤hi.getD len) (h4:mx.isSome→hi.isSome) (w:World) :
  (Instr.sliceBounds true len cap lo' hi' mx').run P w=.ok (lo.getD 0,hi.getD len,mx.getD cap) w:=by
 unfold Instr.sliceBounds
 cases mx with
 |none=>
  cases mx' with
  |some _=>exact hmx.elim
  |none=>
   cases hi with
   |none=>
    cases hi' with
    |some _=>exact hhi.elim
    |none=>
     cases lo with
     |none=>cases lo' with
      |some _=>exact hlo.elim
      |none=>simp
     |some l=>cases lo' with
      |none=>exact hlo.elim
      |some _=>obtain⟨k,rfl⟩:=hlo;simp at h3;simp[sliceBound_ok P k l _ _ h3]
   |some h=>
    cases hi' with
    |none=>exact hhi.elim
    |some _=>
     obtain⟨k,rfl⟩:=hhi
     simp at h2
     cases lo with
     |none=>cases lo' with
      |some _=>exact hlo.elim
      |none=>simp[sliceBound_ok P k h _ _ h2]
     |some l=>cases lo' with
      |none=>exact hlo.elim
      |some _=>obtain⟨k',rfl⟩:=hlo;simp at h3;simp[sliceBound_ok P k h _ _ h2,sliceBound_ok P k' l _ _ h3]
 |some m=>
  cases mx' with
  |none=>exact hmx.elim
  |some _=>
   obtain⟨km,rfl⟩:=hmx
   simp at h1 h4
   cases hi with
   |none=>simp at h4
   |some h=>
    cases hi' with
    |none=>exact hhi.elim
    |some _=>
     obtain⟨k,rfl⟩:=hhi
     simp at h2
     cases lo with
     |none=>cases lo' with
      |some _=>exact hlo.elim
      |none=>simp[sliceBound_ok P k h _ _ h2,sliceBound_ok P km m _ _ h1]
     |some l=>cases lo' with
      |none=>exact hlo.elim
      |some _=>obtain⟨k',rfl⟩:=hlo;simp at h3;simp[sliceBound_ok P k h _ _ h2,sliceBound_ok P k' l _ _ h3,sliceBound_ok P km m _ _ h1]
theorem sizeIs_vsl{F:Fset}{w:World}{es:List SV}{b o sz s:Nat}{c:VC}(h:VE F w es b o sz)(hs:sizeIs s (.vsl es c)=true):es=[]∨s=sz:=by
 cases es with
 |nil=>exact .inl rfl
 |cons e r=>
  right
  simp[sizeIs]at hs
  obtain⟨⟨x,h1,h2,_⟩,_⟩:=h
  rw[←hs,h1.n,h2]
theorem VE_drop{F:Fset}{w:World}{es:List SV}{b o sz:Nat}(h:VE F w es b o sz)(l n:Nat):VE F w ((es.drop l).take n) b (o+l*sz) sz:=by
 rw[VE_iff]at *
 intro i e he
 rw[List.getElem?_take]at he
 split at he
 ·rw[List.getElem?_drop]at he
  have:=h _ _ he
  rwa [show o+l*sz+i*sz=o+(l+i)*sz by rw[Nat.add_mul];omega]
 ·cases he
theorem sliceS_ok{P:Program}{cfg:Cfg}(hT:TyAll P cfg){t e:TypeId}{j:TyI}(hu:P.underlying t=some (.slice e))(hj:cfg.ty e=some j){x v:SV}{lo hi mx:Option Nat}{lo' hi' mx':Option Value}{a:Value}{ι:IM}{F:Fset}{w:World}
  (hx:VR ι F w x a) (hlo:OptN lo lo') (hhi:OptN hi hi') (hmx:OptN mx mx') (hs:sizeIs j.size x=true) (h:sliceS x lo hi mx=some v) :
  ∃u,(∀w',(Instr.sliceAt t a lo' hi' mx').run P w'=.ok u w')∧VR ι F w v u:=by
 have hsz:=(hT.ty _ _ hj).size
 have key:∀(A:Option Addr) (len cap:Nat),a=.slice A len cap→mx.getD cap≤cap→hi.getD len≤mx.getD cap→lo.getD 0≤hi.getD len→(mx.isSome→hi.isSome)→
   ∀w',(Instr.sliceAt t a lo' hi' mx').run P w'=.ok (.slice (if mx.getD cap=lo.getD 0 then A else A.map (·.add (lo.getD 0*j.size))) (hi.getD len-lo.getD 0) (mx.getD cap-lo.getD 0)) w':=by
  intro A len cap ha h1 h2 h3 h4 w'
  subst ha
  unfold Instr.sliceAt
  simp only[Sem.run_bind,run_underlying hu,Result.andThen_ok]
  unfold Instr.slice
  simp only[Sem.run_bind,run_underlying hu,Result.andThen_ok,sliceBounds_ok P hlo hhi hmx h1 h2 h3 h4,hsz,Sem.run_pure]
 unfold sliceS at h
 split at h
 ·rename_i es c
  obtain⟨A,cap,rfl,hle,hnil,hnn,hex⟩:=hx
  simp only[]at h
  split at h
  ·rename_i hb
   obtain⟨hb1,hb2⟩:=hb
   have hlen:((es.drop (lo.getD 0)).take (hi.getD es.length-lo.getD 0)).length=hi.getD es.length-lo.getD 0:=by simp;omega
   have addr:c≠.nil→∀m,hi.getD es.length≤m→∃b o sz,(if m=lo.getD 0 then A else A.map (·.add (lo.getD 0*j.size)))=some ⟨b,o,none⟩∧0<sz∧VE F w ((es.drop (lo.getD 0)).take (hi.getD es.length-lo.getD 0)) b o sz:=by
    intro hc m hm
    obtain⟨b,o,sz,rfl,hz,hve⟩:=hnn hc
    by_cases hml:m=lo.getD 0
    ·rw[if_pos hml]
     refine⟨b,o,sz,rfl,hz,?_⟩
     rw[show hi.getD es.length-lo.getD 0=0 by omega];simp[VE]
    ·rw[if_neg hml]
     refine⟨b,o+lo.getD 0*j.size,sz,by simp[add_at],hz,?_⟩
     rcases sizeIs_vsl hve hs with rfl|rfl
     ·simp[VE]
     ·exact VE_drop hve _ _
   cases mx with
   |none=>
    simp only[Option.some.injEq]at h
    subst h
    refine⟨_,key _ _ _ rfl (by simp) (by simp;omega) hb1 (by simp),?_⟩
    refine⟨_,_,by rw[hlen],by rw[hlen];simp;omega,?_,?_,?_⟩
    ·intro hc
     cases c with
     |nil=>obtain⟨rfl,rfl,rfl⟩:=hnil rfl;simp
     |exact=>simp at hc;split at hc<;>cases hc
     |loose=>cases hc
    ·intro hc
     have hc':c≠.nil:=fun e=>hc (by rw[e])
     exact addr hc' _ (by simp;omega)
    ·intro hc
     cases c with
     |nil=>cases hc
     |exact=>
      simp only[]at hc
      split at hc
      ·rename_i hh;rw[hlen];simp;have:=hex rfl;omega
      ·cases hc
     |loose=>cases hc
   |some m=>
    simp only[]at h
    split at h
    ·rename_i hm
     obtain⟨hm1,hm2,hm3⟩:=hm
     cases h
     refine⟨_,key _ _ _ rfl (by simp;omega) (by simpa using hm1) hb1 (fun _=>hm3),?_⟩
     refine⟨_,_,by rw[hlen],by rw[hlen];simp;omega,?_,?_,?_⟩
     ·intro hc
      cases c with
      |nil=>obtain⟨rfl,rfl,rfl⟩:=hnil rfl;simp at hm2;simp[hm2]
      |exact=>simp at hc;split at hc<;>cases hc
      |loose=>simp at hc;split at hc<;>cases hc
     ·intro hc
      have hc':c≠.nil:=fun e=>hc (by rw[e])
      exact addr hc' _ (by simpa using hm1)
     ·intro hc
      rw[hlen]
      cases c with
      |nil=>cases hc
      |exact=>simp only[]at hc;split at hc<;>simp_all
      |loose=>simp only[]at hc;split at hc<;>simp_all
    ·cases h
  ·cases h
 ·rename_i id sz off len cp
  obtain⟨ix,cc,b,o,hix,hsz',rfl,hle,hcap,haddr⟩:=hx
  simp[sizeIs]at hs
  simp only[]at h
  have within:∀n,withinS len cp n=true→n≤cc:=by
   intro n hn
   simp only[withinS,Bool.or_eq_true,decide_eq_true_eq]at hn
   rcases hn with hn|hn
   ·omega
   ·cases cp with
    |none=>simp at hn
    |some c=>have:=hcap c rfl;simp at hn;omega
  have addr:∀m,hi.getD len≤m→∃b' o',(if m=lo.getD 0 then some (⟨b,o,none⟩:Addr)else(some (⟨b,o,none⟩:Addr)).map (·.add (lo.getD 0*j.size)))=some ⟨b',o',none⟩∧(m≤cc→0<m-lo.getD 0→b'=ix.b∧o'=ix.o+(off+lo.getD 0)*sz∧off+lo.getD 0+(m-lo.getD 0)≤ix.cp):=by
   intro m hm
   by_cases hml:m=lo.getD 0
   ·rw[if_pos hml];exact⟨b,o,rfl,fun _ h=>by omega⟩
   ·rw[if_neg hml]
    refine⟨b,o+lo.getD 0*j.size,by simp[add_at],fun hmc hp=>?_⟩
    obtain⟨rfl,rfl,hcp⟩:=haddr (by omega)
    refine⟨rfl,?_,by omega⟩
    rw[←hs,Nat.add_mul];omega
  split at h
  ·rename_i hb
   obtain⟨hb1,hb2⟩:=hb
   have hh:=within _ hb2
   cases mx with
   |none=>
    simp only[Option.some.injEq]at h
    subst h
    obtain⟨b',o',e1,e2⟩:=addr cc hh
    refine⟨_,key _ _ _ rfl (by simp) (by simpa using hh) hb1 (by simp),?_⟩
    simp only[Option.getD_none]at e1 ⊢
    rw[e1]
    refine⟨ix,_,b',o',hix,hsz',rfl,by omega,?_,fun hp=>e2 (Nat.le_refl _) hp⟩
    intro k hk
    cases cp with
    |none=>simp at hk
    |some c=>have:=hcap c rfl;simp at hk;omega
   |some m=>
    simp only[]at h
    split at h
    ·rename_i hm
     obtain⟨hm1,hm2,hm3⟩:=hm
     cases h
     have hmc:=within _ hm2
     obtain⟨b',o',e1,e2⟩:=addr m hm1
     refine⟨_,key _ _ _ rfl (by simpa using hmc) (by simpa using hm1) hb1 (fun _=>hm3),?_⟩
     simp only[Option.getD_some]at e1 ⊢
     rw[e1]
     refine⟨ix,_,b',o',hix,hsz',rfl,by omega,fun k hk=>by simpa using hk,fun hp=>e2 hmc hp⟩
    ·cases h
  ·cases h
 ·cases h
theorem lenS_ok{P:Program}{cfg:Cfg}(hT:TyAll P cfg){t:TypeId}{i:TyI}(hi:cfg.ty t=some i){x v:SV}{a:Value}{ι:IM}{F:Fset}{w:World}(hx:VR ι F w x a)(h:lenS i x=some v)(ts:Array TypeId)(ht:ts[0]?=some t)(xs:Array Value)(hxs:xs[0]?=some a)(r:TypeId) :
  ∃u,(∀w',(Builtin.len_ ts r xs).run P w'=.ok u w')∧VR ι F w v u:=by
 have hk:=hT.ty _ _ hi
 unfold lenS at h
 split at h
 ·rename_i e es c hkind
  have hu:=hk.slice hkind
  cases h
  obtain⟨A,cap,rfl,-⟩:=hx
  exact⟨_,fun w'=>by simp[Builtin.len_,ht,hxs,run_underlying hu,goInt],rfl⟩
 ·rename_i hkind
  have hu:=hk.slice hkind
  cases h
  obtain⟨ix,c,b,o,-,-,rfl,-⟩:=hx
  exact⟨_,fun w'=>by simp[Builtin.len_,ht,hxs,run_underlying hu,goInt],rfl⟩
 ·rename_i hkind
  have hu:=hk.str hkind
  cases h;cases hx
  exact⟨_,fun w'=>by simp[Builtin.len_,ht,hxs,run_underlying hu,goInt],rfl⟩
 ·rename_i n e hkind
  have hu:=hk.array hkind
  cases h
  exact⟨_,fun w'=>by simp[Builtin.len_,ht,hxs,run_underlying hu,goInt],rfl⟩
 ·cases h
theorem max2S_ok{x y v:SV}{a b:Value}{ι:IM}{F:Fset}{w:World}(hx:VR ι F w x a)(hy:VR ι F w y b)(h:max2S x y=some v):∃u,Builtin.max2 a b=pure u∧VR ι F w v u:=by
 unfold max2S at h
 split at h
 ·split at h
  ·rename_i hk;subst hk;cases h;cases hx;cases hy;exact⟨_,rfl,rfl⟩
  ·cases h
 ·cases h
theorem min2S_ok{x y v:SV}{a b:Value}{ι:IM}{F:Fset}{w:World}(hx:VR ι F w x a)(hy:VR ι F w y b)(h:min2S x y=some v):∃u,Builtin.min2 a b=pure u∧VR ι F w v u:=by
 unfold min2S at h
 split at h
 ·split at h
  ·rename_i hk;subst hk;cases h;cases hx;cases hy;exact⟨_,rfl,rfl⟩
  ·cases h
 ·cases h
theorem foldS_ok{P:Program}{f:SV→SV→Option SV}{g:Value→Value→Sem Value}{ι:IM}{F:Fset}{w:World}(hf:∀{x y v a b},VR ι F w x a→VR ι F w y b→f x y=some v→∃u,g a b=pure u∧VR ι F w v u) :
  ∀{xs:List SV} {ys:List Value} {x v:SV} {a:Value},VR ι F w x a→VRs ι F w xs ys→foldS f x xs=some v→∃u,(∀w',(ys.foldlM g a).run P w'=.ok u w')∧VR ι F w v u
 |[],ys,x,v,a,hx,h,hv=>by simp only[VRs]at h;subst h;simp only[foldS]at hv;cases hv;exact⟨a,fun _=>rfl,hx⟩
 |y::r,ys,x,v,a,hx,h,hv=>by
  obtain⟨b,bs,rfl,hb,hbs⟩:=h
  simp only[foldS,Option.bind_eq_some_iff]at hv
  obtain⟨c,hc,hv⟩:=hv
  obtain⟨u,hu,hcu⟩:=hf hx hb hc
  obtain⟨z,hz,hvz⟩:=foldS_ok (P:=P) hf hcu hbs hv
  exact⟨z,fun w'=>by rw[List.foldlM_cons,hu];simp[hz],hvz⟩
theorem offsets{fs:List (Nat×TypeId)}{gs:Array Field}(hfs:fs=gs.toList.map fun f=>(f.offset,f.type)){f off:Nat}{t:TypeId}(h:fs[f]?=some (off,t)):∃g,gs[f]?=some g∧g.offset=off∧g.type=t:=by
 subst hfs
 rw[List.getElem?_map,Option.map_eq_some_iff]at h
 obtain⟨g,hg,e⟩:=h
 cases e
 exact⟨g,by simpa using hg,rfl,rfl⟩
theorem vptr_ok{P:Program}{t:TypeId}{j:TyI}(ht:TyOk P t j){F:Fset}{w:World}{e v:SV}{b o off:Nat}{x:Value}{ι:IM}(hx:VR noI F w e x)(hc:∀k,k<x.cells.size→F b (o+k)∧w.cell? ⟨b,o+k,none⟩=x.cells[k]?)(h:partS j e.cells off=some v)(hj:j.size≠0) :
  VR ι F w (.vptr v) (.pointer (some ⟨b,o+off,none⟩)):=by
 unfold partS at h
 have hcs:=hx.cells
 split at h
 ·simp only[]at h
  split at h
  ·rename_i hl
   cases h
   have hp:=(hcs.drop off).take j.size
   have hlen:off+j.size≤x.cells.size:=by
    have:=hcs.length
    simp at hl this
    omega
   have hA:(Value.agg ((x.cells.toList.drop off).take j.size).toArray).cells=((x.cells.toList.drop off).take j.size).toArray:=rfl
   refine⟨b,o+off,.agg ((x.cells.toList.drop off).take j.size).toArray,rfl,⟨_,rfl,by simpa using hp⟩,?_,fun k hk=>?_⟩
   ·rw[hA];simp;omega
   ·rw[hA]at hk ⊢
    simp at hk
    have:=hc (off+k) (by omega)
    rw[←Nat.add_assoc]at this
    refine⟨this.1,this.2.trans ?_⟩
    simp only[List.getElem?_toArray,List.getElem?_take]
    rw[if_pos (by omega),List.getElem?_drop]
    simp
  ·cases h
 ·simp only[Option.bind_eq_some_iff]at h
  obtain⟨y',hy',h⟩:=h
  split at h
  ·rename_i h1
   cases h
   obtain⟨y,hy,hv⟩:=hcs.get hy'
   have hlt:off<x.cells.size:=by
    rcases Nat.lt_or_ge off x.cells.size with h'|h'
    ·exact h'
    ·rw[List.getElem?_eq_none (by simpa using h')]at hy;cases hy
   have h0:=hc off hlt
   obtain⟨hyc,-⟩:=hv.one h1
   refine⟨b,o+off,y,rfl,hv,by rw[hyc];simp,fun k hk=>?_⟩
   rw[hyc]at hk ⊢
   simp at hk
   subst hk
   refine⟨h0.1,h0.2.trans ?_⟩
   simpa using hy
  ·cases h
theorem fieldPlace_ok{P:Program}{g:Field}{j:TyI}(hj:TyOk P g.type j)(hz:j.size≠0)(b o:Nat)(w:World):(fieldPlace ⟨b,o,none⟩ g).run P w=.ok ⟨b,o+g.offset,none⟩ w:=by
 unfold fieldPlace
 simp only[Sem.run_bind,hj.size,Result.andThen_ok,if_neg hz,Sem.run_pure,add_at]
theorem fieldAddrS_ok{P:Program}{cfg:Cfg}(hT:TyAll P cfg){t:TypeId}{i:TyI}(hi:cfg.ty t=some i){x v:SV}{f:Nat}{a:Value}{ι:IM}{F:Fset}{w:World}(hx:VR ι F w x a)(h:faS cfg i x f=some v) :
  ∃u,(∀w',(Instr.fieldAt t a f).run P w'=.ok u w')∧VR ι F w v u:=by
 have hk:=hT.ty _ _ hi
 unfold faS at h
 split at h
 ·rename_i fs hkind
  obtain⟨gs,hu,hfs⟩:=hk.struct hkind
  simp only[Option.bind_eq_some_iff]at h
  obtain⟨⟨off,t'⟩,hf,j,hj,h⟩:=h
  obtain⟨g,hg,rfl,rfl⟩:=offsets hfs hf
  simp only[]at h
  split at h
  ·cases h
  ·rename_i hz
   have hpl:=fieldPlace_ok (hT.ty _ _ hj) hz
   split at h
   ·cases h
    obtain⟨ix,hix,rfl⟩:=hx
    exact⟨_,fun w'=>by unfold Instr.fieldAt;simp only[Sem.run_bind,run_underlying hu,Result.andThen_ok,hg,Instr.sureAddr,Sem.run_pure,hpl];rfl,ix,hix,by rw[Nat.add_assoc]⟩
   ·rw[Option.map_eq_some_iff]at h
    obtain⟨v',h,rfl⟩:=h
    obtain⟨b,o,y,rfl,hy,hpos,hc⟩:=hx
    exact⟨_,fun w'=>by unfold Instr.fieldAt;simp only[Sem.run_bind,run_underlying hu,Result.andThen_ok,hg,Instr.sureAddr,Sem.run_pure,hpl],vptr_ok (hT.ty _ _ hj) hy hc h hz⟩
   ·cases h
 ·cases h
theorem fieldS_ok{P:Program}{cfg:Cfg}(hT:TyAll P cfg){t:TypeId}{i:TyI}(hi:cfg.ty t=some i){x v:SV}{f:Nat}{a:Value}{ι:IM}{F:Fset}{w:World}(hx:VR ι F w x a)(h:fieldS cfg i x f=some v) :
  ∃u,(∀w',(Instr.field t a f).run P w'=.ok u w')∧VR ι F w v u:=by
 have hk:=hT.ty _ _ hi
 unfold fieldS at h
 split at h
 ·rename_i fs cs hkind
  obtain⟨gs,hu,hfs⟩:=hk.struct hkind
  simp only[Option.bind_eq_some_iff]at h
  obtain⟨⟨off,t'⟩,hf,j,hj,h⟩:=h
  obtain⟨g,hg,rfl,rfl⟩:=offsets hfs hf
  obtain⟨y,rfl,hy⟩:=hx
  obtain⟨u,hu',hv⟩:=partS_ok (hT.ty _ _ hj) hy h
  exact⟨u,fun w'=>by unfold Instr.field;simp only[Sem.run_bind,run_underlying hu,Result.andThen_ok,hg,asAgg,Sem.run_pure,hu'],hv⟩
 ·cases h
theorem VE_get{F:Fset}{w:World}{es:List SV}{b o sz n:Nat}{e:SV}(h:VE F w es b o sz)(he:es[n]?=some e):AtF F w e b (o+n*sz) sz:=VE_iff.1 h n e he
theorem indexAddrS_ok{P:Program}{cfg:Cfg}(hT:TyAll P cfg){t:TypeId}{i:TyI}(hi:cfg.ty t=some i){x n v:SV}{a c:Value}{ι:IM}{F:Fset}{w:World}(hx:VR ι F w x a)(hn:VR ι F w n c)(h:ixS cfg i x n=some v) :
  ∃u,(∀w',(Instr.indexAt t a c).run P w'=.ok u w')∧VR ι F w v u:=by
 have hk:=hT.ty _ _ hi
 unfold ixS at h
 simp only[Option.bind_eq_some_iff]at h
 obtain⟨m,hm,h⟩:=h
 obtain⟨k,rfl⟩:=natS_ok hn hm
 split at h
 ·rename_i e hkind
  have hu:=hk.slice hkind
  simp only[Option.bind_eq_some_iff]at h
  obtain⟨j,hj,h⟩:=h
  have hsz:=(hT.ty _ _ hj).size
  split at h
  ·cases h
  ·rename_i hz
   have run:∀(b o len cap:Nat),m<len→∀w',(Instr.indexAt t (.slice (some ⟨b,o,none⟩) len cap) (.int k (m:Int))).run P w'=.ok (.pointer (some ⟨b,o+m*j.size,none⟩)) w':=by
    intro b o len cap hlt w'
    unfold Instr.indexAt
    simp only[asIntOf,Sem.run_bind,Sem.run_pure,Result.andThen_ok,run_underlying hu]
    rw[if_pos ⟨by omega,by omega⟩]
    simp only[Sem.run_bind,hsz,Result.andThen_ok,Sem.run_pure,Int.toNat_natCast,add_at]
   split at h
   ·rename_i es vc
    rw[Option.bind_eq_some_iff]at h
    obtain⟨e',he',h⟩:=h
    split at h
    ·rename_i hne
     cases h
     obtain⟨A,cap,rfl,hle,hnil,hnn,-⟩:=hx
     have hlt:m<es.length:=by
      rcases Nat.lt_or_ge m es.length with h'|h'
      ·exact h'
      ·rw[List.getElem?_eq_none h']at he';cases he'
     have hc:vc≠.nil:=fun e=>by rw[(hnil e).2.2]at hlt;simp at hlt
     obtain⟨b,o,sz,rfl,hsz0,hve⟩:=hnn hc
     obtain⟨y,hy,hys,hyc⟩:=VE_get hve he'
     have:sz=j.size:=by rw[←hys,←hy.n,hne]
     subst this
     exact⟨_,run b o _ _ hlt,b,o+m*j.size,y,rfl,hy,by omega,fun l hl=>hyc l (by omega)⟩
    ·cases h
   ·rename_i id sz off len cp
    split at h
    ·rename_i hlt
     cases h
     obtain⟨ix,c,b,o,hix,hs,rfl,hle,-,haddr⟩:=hx
     obtain⟨rfl,rfl,-⟩:=haddr (by omega)
     refine⟨_,run _ _ _ _ hlt.1,ix,hix,?_⟩
     rw[hs,←hlt.2,Nat.add_mul]
     simp[Nat.add_assoc]
    ·cases h
   ·cases h
 ·rename_i len e hkind
  have hu:=hk.array hkind
  simp only[Option.bind_eq_some_iff]at h
  obtain⟨j,hj,h⟩:=h
  have hsz:=(hT.ty _ _ hj).size
  split at h
  ·cases h
  ·rename_i hz
   split at h
   ·rename_i hlt
    have run:∀(b o:Nat) w',(Instr.indexAt t (.pointer (some ⟨b,o,none⟩)) (.int k (m:Int))).run P w'=.ok (.pointer (some ⟨b,o+m*j.size,none⟩)) w':=by
     intro b o w'
     unfold Instr.indexAt
     simp only[asIntOf,Sem.run_bind,Sem.run_pure,Result.andThen_ok,run_underlying hu,Instr.sureAddr]
     rw[if_pos ⟨by omega,by omega⟩]
     simp only[Sem.run_bind,hsz,Result.andThen_ok,Sem.run_pure,Int.toNat_natCast,add_at]
    split at h
    ·cases h
     obtain⟨ix,hix,rfl⟩:=hx
     exact⟨_,run _ _,ix,hix,by rw[Nat.add_assoc]⟩
    ·rw[Option.map_eq_some_iff]at h
     obtain⟨v',h,rfl⟩:=h
     obtain⟨b,o,y,rfl,hy,hpos,hc⟩:=hx
     exact⟨_,run _ _,vptr_ok (hT.ty _ _ hj) hy hc h hz⟩
    ·cases h
   ·cases h
 ·cases h
theorem indexS_ok{P:Program}{cfg:Cfg}(hT:TyAll P cfg){t:TypeId}{i:TyI}(hi:cfg.ty t=some i){x n v:SV}{a c:Value}{ι:IM}{F:Fset}{w:World}(hx:VR ι F w x a)(hn:VR ι F w n c)(h:indexS cfg i x n=some v) :
  ∃u,(∀w',(Instr.index t a c).run P w'=.ok u w')∧VR ι F w v u:=by
 have hk:=hT.ty _ _ hi
 unfold indexS at h
 simp only[Option.bind_eq_some_iff]at h
 obtain⟨m,hm,h⟩:=h
 obtain⟨k,rfl⟩:=natS_ok hn hm
 split at h
 ·rename_i len e cs hkind
  have hu:=hk.array hkind
  split at h
  ·rename_i hlt
   rw[Option.bind_eq_some_iff]at h
   obtain⟨j,hj,h⟩:=h
   obtain⟨y,rfl,hy⟩:=hx
   obtain⟨u,hu',hv⟩:=partS_ok (hT.ty _ _ hj) hy h
   refine⟨u,fun w'=>?_,hv⟩
   unfold Instr.index
   simp only[asIntOf,Sem.run_bind,Sem.run_pure,Result.andThen_ok,run_underlying hu]
   rw[if_pos ⟨by omega,by omega⟩]
   simp only[Sem.run_bind,(hT.ty _ _ hj).size,Result.andThen_ok,Int.toNat_natCast,hu']
  ·cases h
 ·rename_i s hkind
  have hu:=hk.str hkind
  rw[Option.map_eq_some_iff]at h
  obtain⟨y,hy,rfl⟩:=h
  cases hx
  refine⟨.int .u8 y.toNat,fun w'=>?_,rfl⟩
  unfold Instr.index
  simp only[asIntOf,Sem.run_bind,Sem.run_pure,Result.andThen_ok,run_underlying hu]
  rw[if_pos (by omega:(0:Int)≤(m:Int))]
  simp only[Int.toNat_natCast,hy,Sem.run_pure]
 ·cases h
theorem fold_set:∀(vs:List Value) (off s:Nat) (a:Array Value),off+s+vs.length≤a.size→
  ((vs.zipIdx s).foldl (fun cs (x:Value×Nat)=>cs.setIfInBounds (off+x.2) x.1) a).toList=a.toList.take (off+s)++vs++a.toList.drop (off+s+vs.length)
 |[],off,s,a,h=>by simp
 |v::r,off,s,a,h=>by
  simp only[List.zipIdx_cons,List.foldl_cons]
  rw[fold_set r off (s+1) _ (by simp at h ⊢;omega)]
  have hlt:off+s<a.size:=by simp at h;omega
  simp only[Array.toList_setIfInBounds,List.length_cons]
  rw[show off+(s+1)=off+s+1 by omega,List.take_set,List.drop_set_of_lt (by omega),show off+s+1+r.length=off+s+(r.length+1)by omega]
  rw[List.take_add_one]
  simp[List.set_append,hlt,Nat.min_eq_left (Nat.le_of_lt hlt)]
theorem VRs.splice{ι:IM}{F:Fset}{w:World}{cs vs cs':List SV}{as bs:List Value}{off:Nat}(h:VRs ι F w cs as)(hv:VRs ι F w vs bs)(he:spliceS cs off vs=some cs') :
  VRs ι F w cs' (as.take off++bs++as.drop (off+bs.length))∧off+bs.length≤as.length:=by
 unfold spliceS at he
 split at he
 ·rename_i hl
  cases he
  rw[hv.length,h.length]at hl
  exact⟨by rw[hv.length];exact((h.take off).append hv).append (h.drop _),hl⟩
 ·cases he
theorem fillS_ok {ι : IM} {F : Fset} {w : World} {place : Nat → Option (Nat × Nat)} : ∀ {ps : List (Nat × SV)} {qs : List (Nat × Value)} {cs cs' : List SV} {a : Array Value},
    ps.map (·.1) = qs.map (·.1) → VRs ι F w (ps.map (·.2)) (qs.map (·.2)) → VRs ι F w cs a.toList → fillS place cs ps = some cs' → ∃ a', Instr.fill place a qs = some a' ∧ VRs ι F w cs' a'.toList
  | [], qs, cs, cs', a, h1, h2, h3, h => by
    cases qs with
    | nil => simp only [fillS] at h; cases h; exact ⟨a, rfl, h3⟩
    | cons q r => simp at h1
  | (i, v) :: ps, qs, cs, cs', a, h1, h2, h3, h => by
    cases qs with
    | nil => simp at h1
    | cons q qs =>
      obtain ⟨j, x⟩ := q
      simp only [List.map_cons, List.cons.injEq] at h1
      obtain ⟨rfl, h1⟩ := h1
      simp only [List.map_cons] at h2
      obtain ⟨y, ys, he, hy, hys⟩ := h2
      cases he
      simp only [fillS] at h
      unfold Instr.fill
      cases hp : place i with
      | none => simp [hp] at h
      | some os =>
        obtain ⟨off, size⟩ := os
        simp only [hp] at h ⊢
        split at h
        · rename_i hn
          rw [Option.bind_eq_some_iff] at h
          obtain ⟨cs1, hs, h⟩ := h
          obtain ⟨hv1, hle⟩ := VRs.splice h3 hy.cells hs
          have hsz : x.cells.size = size := by rw [← hy.n, hn]
          have hle' : off + x.cells.size ≤ a.size := by simpa using hle
          rw [if_neg (by simp [hsz]; omega)]
          refine fillS_ok h1 hys ?_ h
          have hf := fold_set x.cells.toList off 0 a (by simpa using hle')
          have : (x.cells.zipIdx.foldl (fun cs (x : Value × Nat) => cs.setIfInBounds (off + x.2) x.1) a) = ((x.cells.toList.zipIdx 0).foldl (fun cs (x : Value × Nat) => cs.setIfInBounds (off + x.2) x.1) a) := by
            rw [← Array.foldl_toList, Array.toList_zipIdx]
          rw [this, hf]
          simpa using hv1
        · cases h
theorem partsS_ok {ι : IM} {F : Fset} {w : World} {env : List SV} {a : Act} (he : VRs ι F w env a.tmps.toList) : ∀ {ps : List (Nat × Operand)} {vs : List (Nat × SV)}, partsS env ps = some vs →
    vs.map (·.1) = (ps.map fun p => (p.1, a.eval p.2)).map (·.1) ∧ VRs ι F w (vs.map (·.2)) ((ps.map fun p => (p.1, a.eval p.2)).map (·.2))
  | [], vs, h => by simp [partsS] at h; subst h; exact ⟨rfl, rfl⟩
  | (i, x) :: r, vs, h => by
    simp only [partsS, Option.bind_eq_some_iff] at h
    obtain ⟨v, h1, vs', h2, h3⟩ := h
    cases h3
    obtain ⟨e1, e2⟩ := partsS_ok he h2
    exact ⟨by simp only [List.map_cons, e1], _, _, rfl, evalS_ok he h1, e2⟩
theorem placesS_ok{P:Program}{cfg:Cfg}(hT:TyAll P cfg):∀{gs:List Field} {pl:List (Nat×Nat)},placesS cfg (gs.map fun f=>(f.offset,f.type))=some pl→
  gs.mapM (fun f=>(P.info? f.type).map fun i=>(f.offset,i.size))=some pl
 |[],pl,h=>by simp[placesS]at h;subst h;rfl
 |g::gs,pl,h=>by
  simp only[List.map_cons,placesS,Option.bind_eq_some_iff]at h
  obtain⟨j,hj,ps,hps,h⟩:=h
  cases h
  obtain⟨d,hd,hs,_⟩:=(hT.ty _ _ hj).info
  rw[List.mapM_cons,placesS_ok hT hps]
  simp[hd,hs]
theorem buildS_ok{P:Program}{cfg:Cfg}(hT:TyAll P cfg){t:TypeId}{i:TyI}(hi:cfg.ty t=some i){ι:IM}{F:Fset}{w:World}{vs:List (Nat×SV)}{qs:Array (Nat×Value)}{v:SV}
  (h1:vs.map (·.1)=qs.toList.map (·.1)) (h2:VRs ι F w (vs.map (·.2)) (qs.toList.map (·.2))) (h:buildS cfg i vs=some v):∃u,(∀w',(Instr.build t qs).run P w'=.ok u w')∧VR ι F w v u:=by
 have hk:=hT.ty _ _ hi
 obtain⟨d,hd,hs,hb,z,hz,hzv⟩:=hk.info
 have hzc:=(hzv ι F w).cells
 unfold buildS at h
 split at h
 ·rename_i fs hkind
  obtain⟨gs,hu,rfl⟩:=hk.struct hkind
  rw[Option.bind_eq_some_iff]at h
  obtain⟨pl,hpl,h⟩:=h
  rw[Option.map_eq_some_iff]at h
  obtain⟨cs,hf,rfl⟩:=h
  obtain⟨a',hfill,ha'⟩:=fillS_ok h1 h2 hzc hf
  refine⟨.agg a',fun w'=>run_build w' t qs a' ?_,a',rfl,ha'⟩
  unfold Program.built
  simp only[hd,hu,hz,placesS_ok hT hpl]
  simpa using hfill
 ·rename_i n e hkind
  have hu:=hk.array hkind
  rw[Option.bind_eq_some_iff]at h
  obtain⟨j,hj,h⟩:=h
  rw[Option.map_eq_some_iff]at h
  obtain⟨cs,hf,rfl⟩:=h
  obtain⟨a',hfill,ha'⟩:=fillS_ok h1 h2 hzc hf
  refine⟨.agg a',fun w'=>run_build w' t qs a' ?_,a',rfl,ha'⟩
  obtain⟨d',hd',hs',_⟩:=(hT.ty _ _ hj).info
  unfold Program.built
  simp only[hd,hu,hz,hd',hs']
  exact hfill
 ·cases h
theorem isZ_ok{P:Program}{cfg:Cfg}(hT:TyAll P cfg){t e:TypeId}(h:isZ cfg t=some e):P.underlying t=some (.slice e):=by
 unfold isZ at h
 rw[Option.bind_eq_some_iff]at h
 obtain⟨i,hi,h⟩:=h
 split at h
 ·rename_i hk;cases h;exact(hT.ty _ _ hi).slice hk
 ·cases h
theorem opT_ok{P:Program}{cfg:Cfg}(hT:TyAll P cfg){ι:IM}{F:Fset}{w:World}{env:List SV}{a:Act}(he:VRs ι F w env a.tmps.toList){o:Oper}{v:SV}(h:opT cfg env o.op=some v) :
  ∃x,(∀w',(execOp a.eval o).run P w'=.ok (.value x) w')∧VR ι F w v x:=by
 obtain⟨dst,op,type,pos,after,guard⟩:=o
 simp only[]at h
 cases op
 case move x=>exact⟨_,fun w'=>rfl,evalS_ok he h⟩
 case assign x=>exact⟨_,fun w'=>rfl,evalS_ok he h⟩
 case pick c x y=>
  simp only[opT]at h
  split at h
  ·rename_i t hc
   simp only[Option.bind_eq_some_iff,Option.map_eq_some_iff]at h
   obtain⟨va,ha,vb,hb,rfl⟩:=h
   have hce:=evalS_ok he hc
   have hce':a.eval c=.bool t:=hce
   refine⟨if t then a.eval x else a.eval y,fun w'=>?_,?_⟩
   ·simp only[execOp,hce',asBool,Sem.run_bind,Sem.run_pure,Result.andThen_ok]
   ·cases t
    ·exact evalS_ok he hb
    ·exact evalS_ok he ha
  ·cases h
 case build t ps=>
  simp only[opT,Option.bind_eq_some_iff]at h
  obtain⟨i,hi,vs,hvs,h⟩:=h
  obtain⟨e1,e2⟩:=partsS_ok he hvs
  obtain⟨u,hu,hv⟩:=buildS_ok hT hi (qs:=ps.map fun (i,x)=>(i,a.eval x)) (by simpa using e1) (by simpa using e2) h
  exact⟨u,fun w'=>by simp only[execOp,Sem.run_bind,hu,Result.andThen_ok,Sem.run_pure],hv⟩
 case nilCheck x=>
  simp only[opT]at h
  split at h
  ·rename_i hx;cases h
   have hv:=evalS_ok he hx
   obtain⟨ix,hix,e⟩:=hv
   exact⟨a.eval x,fun w'=>by simp only[execOp,e];rfl,ix,hix,e⟩
  ·rename_i hx;cases h
   have hv:=evalS_ok he hx
   have hv':=hv
   obtain⟨b,o,y,e,_⟩:=hv'
   exact⟨a.eval x,fun w'=>by simp only[execOp,e];rfl,hv⟩
  ·rename_i hx;cases h
   have hv:=evalS_ok he hx
   have hv':=hv
   obtain⟨p,q,e,_⟩:=hv'
   exact⟨a.eval x,fun w'=>by simp only[execOp,e];rfl,hv⟩
  ·cases h
 case binOp op t x y yt=>
  simp only[opT,Option.bind_eq_some_iff]at h
  obtain⟨p,hp,q,hq,h⟩:=h
  obtain⟨u,hu,hv⟩:=binS_ok hT (evalS_ok he hp) (evalS_ok he hq) h x y
  exact⟨u,fun w'=>by simp only[execOp];rw[Sem.run_bind,hu];rfl,hv⟩
 case unOp op t x=>
  simp only[opT,Option.bind_eq_some_iff]at h
  obtain⟨p,hp,h⟩:=h
  obtain⟨u,hu,hv⟩:=unS_ok (P:=P) (evalS_ok he hp) h
  exact⟨u,fun w'=>by simp only[execOp,Sem.run_bind,hu,Result.andThen_ok,Sem.run_pure],hv⟩
 case convert c d x=>
  simp only[opT,Option.bind_eq_some_iff]at h
  obtain⟨ic,hic,i,hi,h⟩:=h
  split at h
  ·rename_i k z k' n hk hz hx
   cases h
   obtain⟨u0,hu0,-,hint⟩:=(hT.ty _ _ hi).und
   have hu:=hint _ _ hz hk
   subst hu
   obtain⟨uc,huc,-⟩:=(hT.ty _ _ hic).und
   have hxe:a.eval x=.int k' n:=evalS_ok he hx
   refine⟨.int k (k.wrap n),fun w'=>?_,by simp[VR,wrapS_eq]⟩
   simp only[execOp,hxe,Sem.run_bind,convert,run_underlying huc,run_underlying hu0,Result.andThen_ok]
   rfl
  ·cases h
 case makeFunc fn first cap=>
  cases fn<;>simp only[opT]at h
  case func f=>
   simp only[Option.bind_eq_some_iff,Option.map_eq_some_iff]at h
   obtain⟨p,hp,q,hq,rfl⟩:=h
   exact⟨_,fun w'=>rfl,_,_,rfl,by simpa using evalsS_ok he hp,by simpa using evalsS_ok he hq⟩
  all_goals cases h
 case slice t x lo hi mx=>
  simp only[opT,Option.bind_eq_some_iff]at h
  obtain⟨e,het,j,hj,h⟩:=h
  split at h
  ·cases h
  ·simp only[Option.bind_eq_some_iff]at h
   obtain⟨p,hp,l,hl,hh,hhh,m,hm,h⟩:=h
   split at h
   ·rename_i hs
    obtain⟨u,hu,hv⟩:=sliceS_ok hT (isZ_ok hT het) hj (evalS_ok he hp) (optNat_ok he hl) (optNat_ok he hhh) (optNat_ok he hm) hs h
    exact⟨u,fun w'=>by simp only[execOp,Sem.run_bind,hu,Result.andThen_ok,Sem.run_pure],hv⟩
   ·cases h
 case fieldAddr t x f=>
  simp only[opT,Option.bind_eq_some_iff]at h
  obtain⟨i,hi,p,hp,h⟩:=h
  obtain⟨u,hu,hv⟩:=fieldAddrS_ok hT hi (evalS_ok he hp) h
  exact⟨u,fun w'=>by simp only[execOp,Sem.run_bind,hu,Result.andThen_ok,Sem.run_pure],hv⟩
 case field t x f=>
  simp only[opT,Option.bind_eq_some_iff]at h
  obtain⟨i,hi,p,hp,h⟩:=h
  obtain⟨u,hu,hv⟩:=fieldS_ok hT hi (evalS_ok he hp) h
  exact⟨u,fun w'=>by simp only[execOp,Sem.run_bind,hu,Result.andThen_ok,Sem.run_pure],hv⟩
 case indexAddr t x ix=>
  simp only[opT,Option.bind_eq_some_iff]at h
  obtain⟨i,hi,p,hp,n,hn,h⟩:=h
  obtain⟨u,hu,hv⟩:=indexAddrS_ok hT hi (evalS_ok he hp) (evalS_ok he hn) h
  exact⟨u,fun w'=>by simp only[execOp,Sem.run_bind,hu,Result.andThen_ok,Sem.run_pure],hv⟩
 case index t x ix=>
  simp only[opT,Option.bind_eq_some_iff]at h
  obtain⟨i,hi,p,hp,n,hn,h⟩:=h
  obtain⟨u,hu,hv⟩:=indexS_ok hT hi (evalS_ok he hp) (evalS_ok he hn) h
  exact⟨u,fun w'=>by simp only[execOp,Sem.run_bind,hu,Result.andThen_ok,Sem.run_pure],hv⟩
 case extract x ix=>
  simp only[opT]at h
  split at h
  ·rename_i vs hx
   obtain⟨y,e,hy⟩:=evalS_ok he hx
   obtain⟨u,hu,hv⟩:=hy.get h
   have hu':y[ix]?=some u:=by simpa using hu
   exact⟨u,fun w'=>by simp only[execOp,e,Instr.extract,hu',Sem.run_bind,Sem.run_pure,Result.andThen_ok],hv⟩
  ·cases h
 case call c=>
  simp only[opT,Option.bind_eq_some_iff]at h
  obtain⟨args,hargs,h⟩:=h
  have hA:=evalsS_ok he hargs
  have hA':(c.args.map a.eval).toList=c.args.toList.map a.eval:=by simp
  split at h
  ·rename_i t ts x xs hc ht
   rw[Option.bind_eq_some_iff]at h
   obtain⟨i,hi,h⟩:=h
   obtain⟨y,ys,e,hy,hys⟩:=hA
   obtain⟨u,hu,hv⟩:=lenS_ok hT hi hy h c.argTypes (by rw[←Array.getElem?_toList,ht];rfl) (c.args.map a.eval) (by rw[←Array.getElem?_toList,hA'.trans e];rfl) type
   exact⟨u,fun w'=>by simp only[execOp,resolve,hc,Sem.run_bind,Sem.run_pure,Result.andThen_ok,invoke,builtin,hu],hv⟩
  ·rename_i x xs hc
   obtain⟨y,ys,e,hy,hys⟩:=hA
   obtain⟨u,hu,hv⟩:=foldS_ok (P:=P) max2S_ok hy hys h
   exact⟨u,fun w'=>by simp only[execOp,resolve,hc,Sem.run_bind,Sem.run_pure,Result.andThen_ok,invoke,builtin,Builtin.max_,hA'.trans e,hu],hv⟩
  ·rename_i x xs hc
   obtain⟨y,ys,e,hy,hys⟩:=hA
   obtain⟨u,hu,hv⟩:=foldS_ok (P:=P) min2S_ok hy hys h
   exact⟨u,fun w'=>by simp only[execOp,resolve,hc,Sem.run_bind,Sem.run_pure,Result.andThen_ok,invoke,builtin,Builtin.min_,hA'.trans e,hu],hv⟩
  ·cases h
 all_goals (simp only[opT]at h;cases h)
def liveR:Row→Bool
 |.cells _ lv=>lv
 |.loop ..=>true
 |.dead=>false
def act(S:Zt)(id:Nat):Bool:=match S[id]? with
 |some r=>liveR r
 |none=>false
def alive(S:Zt)(id:Nat):Prop:=∃r,S[id]?=some r∧r≠.dead
def X.code:X→Code
 |.nrm=>.skip
 |.ret=>.ret
 |.exit id=>.exit id
structure RowAt(ι:IM)(F:Fset)(w:World)(ix:Ix)(es:List SV)(lv:Bool):Prop where
 pos:0<ix.sz
 at_:∀(i:Nat) (e:SV),es[i]?=some e→At ι F w e ix.b (ix.o+i*ix.sz) ix.sz
 blk:∃c t fr,w.heap[ix.b]?=some (.cells c t fr)∧ix.o+es.length*ix.sz≤c.size∧(lv=true→fr=(0,0))
 free:lv=true→∀o,¬F ix.b o
 kept:lv=false→∀j,j<es.length*ix.sz→F ix.b (ix.o+j)
 cap:∀c t fr,w.heap[ix.b]?=some (.cells c t fr)→ix.o+ix.cp*ix.sz≤c.size
def LoopAt(ι:IM)(F:Fset)(w:World)(ix:Ix)(env:List SV)(ps:List Nat)(as bd:Code)(st:LoopState)(pe:Option X):Prop:=
 ∃L D,w.heap[ix.b]?=some (.loop L)∧VRs ι F w env L.tmps.toList∧L.params.toList=ps∧L.assign=as∧L.body=bd∧L.state=st∧L.pending=pe.map X.code∧L.defers=D∧w.heap[D]?=some (.deferred (some []))
structure Rel(ι:IM)(F:Fset)(S:Zt)(w:World):Prop where
 dom:∀id ix,ι id=some ix→id<S.length
 row:∀id ix es lv,ι id=some ix→S[id]?=some (.cells es lv)→RowAt ι F w ix es lv
 loop:∀id ix env ps as bd st pe,ι id=some ix→S[id]?=some (.loop env ps as bd st pe)→LoopAt ι F w ix env ps as bd st pe
 inj:∀id id' ix ix',ι id=some ix→ι id'=some ix'→alive S id→alive S id'→ix.b=ix'.b→id=id'
 fok:∀b o,F b o→∃v,w.cell? ⟨b,o,none⟩=some v
def actBlock(ι:IM)(S:Zt)(b:Nat):Prop:=∃id ix,ι id=some ix∧act S id=true∧ix.b=b
structure Ext(ι:IM)(F:Fset)(S:Zt)(w:World)(ι':IM)(F':Fset)(S':Zt)(w':World):Prop where
 up:Up ι F w ι' F' w'
 size:w.heap.size≤w'.heap.size
 len:S.length≤S'.length
 evol:∀id,id<S.length→act S' id=true→act S id=true
 fnew:∀b o,F' b o→F b o∨w.heap.size≤b∨actBlock ι S b
 inew:∀id ix,ι' id=some ix→ι id=some ix∨(S.length≤id∧(w.heap.size≤ix.b∨actBlock ι S ix.b))
 frame:∀b,b<w.heap.size→¬actBlock ι S b→w'.heap[b]?=w.heap[b]?
 os:w'.os=w.os
 output:w'.output=w.output
 tape:w'.tape=w.tape
theorem Ext.refl(ι:IM)(F:Fset)(S:Zt)(w:World):Ext ι F S w ι F S w:=
 ⟨.refl _ _ _,Nat.le_refl _,Nat.le_refl _,fun _ _ h=>h,fun _ _ h=>.inl h,fun _ _ h=>.inl h,fun _ _ _=>rfl,rfl,rfl,rfl⟩
theorem Ext.back{ι ι':IM}{F F':Fset}{S S':Zt}{w w':World}(h:Ext ι F S w ι' F' S' w')(hd:∀id ix,ι id=some ix→id<S.length){b:Nat}(hb:actBlock ι' S' b):w.heap.size≤b∨actBlock ι S b:=by
 obtain⟨id,ix,hi,ha,rfl⟩:=hb
 rcases h.inew id ix hi with h1|⟨_,h1|h1⟩
 ·exact .inr ⟨id,ix,h1,h.evol id (hd _ _ h1) ha,rfl⟩
 ·exact .inl h1
 ·exact .inr h1
theorem Ext.trans{ι ι' ι'':IM}{F F' F'':Fset}{S S' S'':Zt}{w w' w'':World}(hd:∀id ix,ι id=some ix→id<S.length)(h:Ext ι F S w ι' F' S' w')(k:Ext ι' F' S' w' ι'' F'' S'' w''):Ext ι F S w ι'' F'' S'' w'' where
 up:=h.up.trans k.up
 size:=Nat.le_trans h.size k.size
 len:=Nat.le_trans h.len k.len
 evol id hid ha:=h.evol id hid (k.evol id (Nat.lt_of_lt_of_le hid h.len) ha)
 fnew b o hf:=by
  rcases k.fnew b o hf with h1|h1|h1
  ·exact h.fnew b o h1
  ·exact .inr (.inl (Nat.le_trans h.size h1))
  ·exact .inr (h.back hd h1)
 inew id ix hi:=by
  rcases k.inew id ix hi with h1|⟨h0,h1|h1⟩
  ·exact h.inew id ix h1
  ·exact .inr ⟨Nat.le_trans h.len h0,.inl (Nat.le_trans h.size h1)⟩
  ·exact .inr ⟨Nat.le_trans h.len h0,h.back hd h1⟩
 frame b hb hn:=by
  rw[k.frame b (Nat.lt_of_lt_of_le hb h.size) (fun h1=>(h.back hd h1).elim (fun h2=>absurd hb (Nat.not_lt.2 h2)) hn),h.frame b hb hn]
 os:=k.os.trans h.os
 output:=k.output.trans h.output
 tape:=k.tape.trans h.tape
theorem At.up{ι ι':IM}{F F':Fset}{w w':World}{e:SV}{b o sz:Nat}(u:Up ι F w ι' F' w')(hc:∀j,j<sz→w'.cell? ⟨b,o+j,none⟩=w.cell? ⟨b,o+j,none⟩)(h:At ι F w e b o sz):At ι' F' w' e b o sz:=by
 obtain⟨x,h1,h2,h3⟩:=h
 exact⟨x,h1.up u,h2,fun j hj=>(hc j hj).trans (h3 j hj)⟩
theorem act_true{S:Zt}{id:Nat}{es:List SV}(h:S[id]?=some (.cells es true)):act S id=true:=by simp[act,h,liveR]
def RowLe(r r':Row):Prop:=r=r'∨∃es lv,r=.cells es lv∧r'=.cells es false
structure Sub(S S':Zt):Prop where
 len:S.length≤S'.length
 row:∀(id:Nat) (r:Row),S[id]?=some r→∃r',S'[id]?=some r'∧RowLe r r'
theorem Sub.refl(S:Zt):Sub S S:=⟨Nat.le_refl _,fun _ r h=>⟨r,h,.inl rfl⟩⟩
theorem Sub.trans{S S' S'':Zt}(h:Sub S S')(k:Sub S' S''):Sub S S'':=⟨Nat.le_trans h.len k.len,fun id r hr=>by
 obtain⟨r',h1,h2⟩:=h.row id r hr
 obtain⟨r'',h3,h4⟩:=k.row id r' h1
 refine⟨r'',h3,?_⟩
 rcases h2 with rfl|⟨es,lv,rfl,rfl⟩
 ·exact h4
 ·rcases h4 with rfl|⟨es',lv',e,rfl⟩
  ·exact .inr ⟨_,_,rfl,rfl⟩
  ·cases e;exact .inr ⟨_,_,rfl,rfl⟩⟩
theorem Sub.append(S T:Zt):Sub S (S++T):=⟨by simp,fun id r h=>⟨r,by rw[List.getElem?_append_left];exact h;exact(List.getElem?_eq_some_iff.1 h).1,.inl rfl⟩⟩
theorem Sub.cells{S S':Zt}(h:Sub S S'){id:Nat}{es:List SV}{lv:Bool}(hr:S[id]?=some (.cells es lv)):∃lv',S'[id]?=some (.cells es lv')∧(lv'=true→lv=true):=by
 obtain⟨r,h1,rfl|⟨es',lv',e,rfl⟩⟩:=h.row id _ hr
 ·exact⟨lv,h1,fun h=>h⟩
 ·cases e;exact⟨false,h1,fun h=>by cases h⟩
theorem sealS_sub:∀(ids:List Nat) (S:Zt),Sub S (sealS S ids)
 |[],S=>.refl S
 |id::r,S=>by
  refine Sub.trans ?_ (sealS_sub r _)
  split
  ·rename_i es lv h
   refine⟨by simp,fun k rw hk=>?_⟩
   by_cases hid:id=k
   ·subst hid
    rw[h]at hk;cases hk
    exact⟨.cells es false,by rw[List.getElem?_set_self (List.getElem?_eq_some_iff.1 h).1],.inr ⟨_,_,rfl,rfl⟩⟩
   ·exact⟨rw,by rw[List.getElem?_set_ne hid];exact hk,.inl rfl⟩
  ·exact .refl S
theorem sealS_len:∀(ids:List Nat) (S:Zt),(sealS S ids).length=S.length
 |[],S=>rfl
 |id::r,S=>by rw[sealS,sealS_len];split<;>simp
theorem sealS_sealed:∀(ids:List Nat) (S:Zt) (id:Nat),id∈ids→∀es,(sealS S ids)[id]?≠some (.cells es true)
 |i::r,S,id,h,es,he=>by
  rw[sealS]at he
  by_cases hi:id∈r
  ·exact sealS_sealed r _ id hi es he
  ·have:id=i:=by simpa[hi]using h
   subst this
   have key:∀(r:List Nat) (S:Zt),(∀es,S[id]?≠some (.cells es true))→∀es,(sealS S r)[id]?≠some (.cells es true):=by
    intro r
    induction r with
    |nil=>intro S h;exact h
    |cons k r ih=>
     intro S h es
     rw[sealS]
     refine ih _ (fun es'=>?_) es
     split
     ·rename_i es0 lv0 hS
      by_cases hk:k=id
      ·subst hk
       rw[List.getElem?_set_self (List.getElem?_eq_some_iff.1 hS).1];simp
      ·rw[List.getElem?_set_ne hk];exact h es'
     ·exact h es'
   refine key r _ (fun es'=>?_) es he
   split
   ·rename_i es0 lv0 hS
    rw[List.getElem?_set_self (List.getElem?_eq_some_iff.1 hS).1];simp
   ·rename_i hS
    intro e
    exact hS _ _ e
def sealF(ι:IM)(F:Fset)(S:Zt):Fset:=fun b o=>F b o∨∃id ix es j,ι id=some ix∧S[id]?=some (.cells es false)∧ix.b=b∧o=ix.o+j∧j<es.length*ix.sz
theorem Sub.alive{S S':Zt}(h:Sub S S'){id:Nat}(hid:id<S.length)(ha:alive S' id):alive S id:=by
 obtain⟨r,hr,hn⟩:=ha
 have hs:=List.getElem?_eq_getElem hid
 refine⟨_,hs,fun e=>?_⟩
 obtain⟨r',h1,h2⟩:=h.row id _ hs
 rw[hr]at h1;cases h1
 rcases h2 with h2|⟨es,lv,e1,_⟩
 ·exact hn (h2▸e)
 ·rw[e]at e1;cases e1
theorem Sub.act{S S':Zt}(h:Sub S S'){id:Nat}(hid:id<S.length)(ha:act S' id=true):act S id=true:=by
 have hs:=List.getElem?_eq_getElem hid
 obtain⟨r',h1,h2⟩:=h.row id _ hs
 rcases h2 with h2|⟨es,lv,e1,rfl⟩
 ·unfold Sh.act at *;rw[hs,h2];rw[h1]at ha;exact ha
 ·unfold Sh.act at ha;rw[h1]at ha;simp[liveR]at ha
theorem Rel.sub{ι:IM}{F:Fset}{S S':Zt}{w:World}(h:Rel ι F S w)(hs:Sub S S'):Rel ι (sealF ι F S') S' w∧Ext ι F S w ι (sealF ι F S') S' w:=by
 have u:Up ι F w ι (sealF ι F S') w:=⟨fun _ _ h=>h,fun _ _ h=>.inl h,fun _ _ _=>rfl⟩
 have back:∀id ix r',ι id=some ix→S'[id]?=some r'→∃r,S[id]?=some r∧RowLe r r':=fun id ix r' hi hr=>by
  have hlt:=h.dom _ _ hi
  obtain⟨r1,h1,h2⟩:=hs.row id _ (List.getElem?_eq_getElem hlt)
  rw[hr]at h1;cases h1
  exact⟨_,List.getElem?_eq_getElem hlt,h2⟩
 have inS:∀id ix es lv,ι id=some ix→S'[id]?=some (.cells es lv)→∃lv0,S[id]?=some (.cells es lv0)∧(lv=true→lv0=true):=fun id ix es lv hi hr=>by
  obtain⟨r,h1,h2⟩:=back id ix _ hi hr
  rcases h2 with rfl|⟨es',lv',rfl,e⟩
  ·exact⟨lv,h1,fun h=>h⟩
  ·cases e;exact⟨lv',h1,fun h=>by cases h⟩
 refine⟨⟨fun id ix hi=>Nat.lt_of_lt_of_le (h.dom _ _ hi) hs.len,?_,?_,?_,?_⟩,?_⟩
 ·intro id ix es lv hi hr
  obtain⟨lv0,h1,hl⟩:=inS _ _ _ _ hi hr
  have hr0:=h.row _ _ _ _ hi h1
  refine⟨hr0.pos,fun i e he=>(hr0.at_ i e he).up u (fun _ _=>rfl),?_,?_,?_,hr0.cap⟩
  ·obtain⟨c,t,fr,h2,h3,h4⟩:=hr0.blk
   exact⟨c,t,fr,h2,h3,fun e=>h4 (hl e)⟩
  ·intro e o hf
   rcases hf with hf|⟨id',ix',es',j,hi',hr',hb,_⟩
   ·exact hr0.free (hl e) o hf
   ·have hal:∀k es lv,S'[k]?=some (.cells es lv)→ι k≠none→alive S k:=fun k es lv hk hn=>hs.alive (by cases e:ι k with|none=>exact absurd e hn|some x=>exact h.dom _ _ e) ⟨_,hk,by simp⟩
    have:=h.inj id id' ix ix' hi hi' (hal _ _ _ hr (by simp[hi])) (hal _ _ _ hr' (by simp[hi'])) hb.symm
    subst this
    rw[hr]at hr';cases hr';cases e
  ·intro e j hj
   subst e
   exact .inr ⟨id,ix,es,j,hi,hr,rfl,rfl,hj⟩
 ·intro id ix env ps as bd st pe hi hr
  obtain⟨r,h1,h2⟩:=back id ix _ hi hr
  rcases h2 with rfl|⟨es',lv',rfl,e⟩
  ·obtain⟨L,D,k1,k2,k3⟩:=h.loop _ _ _ _ _ _ _ _ hi h1
   exact⟨L,D,k1,k2.up u,k3⟩
  ·cases e
 ·intro id id' ix ix' hi hi' ha ha' hb
  exact h.inj id id' ix ix' hi hi' (hs.alive (h.dom _ _ hi) ha) (hs.alive (h.dom _ _ hi') ha') hb
 ·intro b o hf
  rcases hf with hf|⟨id,ix,es,j,hi,hr,rfl,rfl,hj⟩
  ·exact h.fok _ _ hf
  ·obtain⟨lv0,h1,hl⟩:=inS _ _ _ _ hi hr
   obtain⟨c,t,fr,h2,h3,h4⟩:=(h.row _ _ _ _ hi h1).blk
   refine⟨c[ix.o+j]'(by omega),?_⟩
   simp only[World.cell?,h2]
   simp
 ·refine⟨u,Nat.le_refl _,hs.len,fun id hid ha=>hs.act hid ha,?_,fun id ix hi=>.inl hi,fun _ _ _=>rfl,rfl,rfl,rfl⟩
  intro b o hf
  rcases hf with hf|⟨id,ix,es,j,hi,hr,rfl,rfl,hj⟩
  ·exact .inl hf
  ·obtain⟨lv0,h1,hl⟩:=inS _ _ _ _ hi hr
   cases lv0 with
   |true=>exact .inr (.inr ⟨id,ix,hi,act_true h1,rfl⟩)
   |false=>exact .inl ((h.row _ _ _ _ hi h1).kept rfl j hj)
theorem mapM_some_iff{α β:Type}{f:α→Option β}:∀{xs:List α} {ys:List β},xs.mapM f=some ys→xs.length=ys.length∧∀(i:Nat) (y:β),ys[i]?=some y→∃x,xs[i]?=some x∧f x=some y
 |[],ys,h=>by simp at h;subst h;simp
 |x::r,ys,h=>by
  rw[List.mapM_cons]at h
  simp only[Option.bind_eq_bind,Option.bind_eq_some_iff,Option.pure_def,Option.some.injEq]at h
  obtain⟨y,hy,zs,hz,rfl⟩:=h
  obtain⟨h1,h2⟩:=mapM_some_iff hz
  refine⟨by simp[h1],fun i y' hy'=>?_⟩
  cases i with
  |zero=>simp at hy';subst hy';exact⟨x,by simp,hy⟩
  |succ i=>simpa using h2 i y' (by simpa using hy')
theorem mapM_VRs{ι ι':IM}{F F':Fset}{w w':World}{f:SV→Option SV}{xs ys:List SV}{vs:List Value}(h:xs.mapM f=some ys)(hv:VRs ι F w xs vs)
  (hf:∀e∈xs,∀e' v,f e=some e'→VR ι F w e v→VR ι' F' w' e' v):VRs ι' F' w' ys vs:=by
 obtain⟨h1,h2⟩:=mapM_some_iff h
 rw[VRs_iff]at *
 refine⟨by omega,fun i y hy=>?_⟩
 obtain⟨x,hx,hxy⟩:=h2 i y hy
 obtain⟨v,hv1,hv2⟩:=hv.2 i x hx
 exact⟨v,hv1,hf x (List.mem_of_getElem? hx) _ _ hxy hv2⟩
theorem frz_ok{ι:IM}{F:Fset}{S0 S:Zt}{w:World}(h:Rel ι F S w)(hs:Sub S0 S):∀(n:Nat) {v v':SV} {a:Value},(∀id∈refs S0 n v,∀es,S[id]?≠some (.cells es true))→frz S0 n v=some v'→VR ι F w v a→VR noI F w v' a:=by
 intro n
 induction n with
 |zero=>intro v v' a _ hf;cases hf
 |succ n ih=>
  intro v v' a hseal hf hv
  have all:∀(cs cs':List SV) (vs:List Value),(∀id∈cs.flatMap (refs S0 n),∀es,S[id]?≠some (.cells es true))→cs.mapM (frz S0 n)=some cs'→VRs ι F w cs vs→VRs noI F w cs' vs:=by
   intro cs cs' vs hse hm hvs
   exact mapM_VRs hm hvs fun e he e' v hfe hve=>ih (fun id hid=>hse id (List.mem_flatMap.2 ⟨e,he,hid⟩)) hfe hve
  cases v with
  |osl id sz off len cap=>
   simp only[frz]at hf
   split at hf
   ·rename_i es lv hr
    split at hf
    ·rename_i hlen
     rw[Option.map_eq_some_iff]at hf
     obtain⟨xs,hm,rfl⟩:=hf
     obtain⟨lv',hr',-⟩:=hs.cells hr
     have hsl:lv'=false:=by
      cases lv' with
      |false=>rfl
      |true=>exact absurd hr' (hseal id (by simp[refs]) es)
     subst hsl
     obtain⟨ix,c,b,o,hix,hsz,rfl,hle,hcap,haddr⟩:=hv
     have hrow:=h.row _ _ _ _ hix hr'
     obtain⟨h1,h2⟩:=mapM_some_iff hm
     have hxl:xs.length=len:=by rw[←h1];simp;omega
     refine⟨_,c,by rw[hxl],by omega,?_,fun _=>?_,?_⟩
     ·intro e;split at e<;>cases e
     ·by_cases hz:len=0
      ·have:xs=[]:=by apply List.eq_nil_of_length_eq_zero;omega
       subst this
       exact⟨b,o,ix.sz,rfl,hrow.pos,trivial⟩
      ·obtain⟨rfl,rfl,-⟩:=haddr (by omega)
       refine⟨_,_,ix.sz,rfl,hrow.pos,VE_iff.2 fun i y hy=>?_⟩
       obtain⟨x,hx,hxy⟩:=h2 i y hy
       have hi:i<len:=by
        rcases Nat.lt_or_ge i xs.length with h'|h'
        ·omega
        ·rw[List.getElem?_eq_none h']at hy;cases hy
       have hx':es[off+i]?=some x:=by
        rw[List.getElem?_take,if_pos hi,List.getElem?_drop]at hx;exact hx
       obtain⟨u,hu1,hu2,hu3⟩:=hrow.at_ _ _ hx'
       refine⟨u,ih (fun k hk=>hseal k ?_) hxy hu1,hu2,fun j hj=>⟨?_,?_⟩⟩
       ·simp only[refs,hr,List.mem_cons]
        exact .inr (List.mem_flatMap.2 ⟨x,List.mem_of_getElem? hx,hk⟩)
       ·have hb:(off+i)*ix.sz+j<es.length*ix.sz:=by
         have h5:(off+i+1)*ix.sz≤es.length*ix.sz:=Nat.mul_le_mul_right _ (by omega)
         rw[Nat.add_mul,Nat.one_mul]at h5
         omega
        have:=hrow.kept rfl _ hb
        rw[Nat.add_mul]at this
        rw[←hsz]
        rwa [show ix.o+off*ix.sz+i*ix.sz+j=ix.o+(off*ix.sz+i*ix.sz+j)by omega]
       ·have:=hu3 j hj
        rw[Nat.add_mul]at this
        rw[←hsz]
        rwa [show ix.o+off*ix.sz+i*ix.sz+j=ix.o+(off*ix.sz+i*ix.sz)+j by omega]
     ·intro e
      rw[hxl]
      split at e
      ·rename_i hc;exact hcap _ hc
      ·cases e
    ·cases hf
   ·cases hf
  |optr id j off=>
   simp only[frz]at hf
   split at hf
   ·rename_i es lv hr
    split at hf
    ·rename_i h0
     rw[Option.bind_eq_some_iff]at hf
     obtain⟨e,he,hf⟩:=hf
     rw[Option.map_eq_some_iff]at hf
     obtain⟨e',hfe,rfl⟩:=hf
     obtain⟨lv',hr',-⟩:=hs.cells hr
     have hsl:lv'=false:=by
      cases lv' with
      |false=>rfl
      |true=>exact absurd hr' (hseal id (by simp[refs]) es)
     subst hsl
     obtain⟨ix,hix,rfl⟩:=hv
     have hrow:=h.row _ _ _ _ hix hr'
     obtain⟨u,hu1,hu2,hu3⟩:=hrow.at_ _ _ he
     have hj:j<es.length:=(List.getElem?_eq_some_iff.1 he).1
     refine⟨ix.b,ix.o+j*ix.sz,u,by rw[h0,Nat.add_zero],ih (fun k hk=>hseal k ?_) hfe hu1,by rw[hu2];exact hrow.pos,fun l hl=>⟨?_,hu3 l (by omega)⟩⟩
     ·simp only[refs,hr,he,List.mem_cons];exact .inr hk
     ·have h5:(j+1)*ix.sz≤es.length*ix.sz:=Nat.mul_le_mul_right _ (by omega)
      rw[Nat.add_mul,Nat.one_mul]at h5
      have:=hrow.kept rfl (j*ix.sz+l) (by omega)
      rwa [←Nat.add_assoc]at this
    ·cases hf
   ·cases hf
  |agg cs=>
   simp only[frz,Option.map_eq_some_iff]at hf
   obtain⟨cs',hm,rfl⟩:=hf
   obtain⟨y,rfl,hy⟩:=hv
   exact⟨y,rfl,all _ _ _ (fun id hid=>hseal id (by simpa[refs]using hid)) hm hy⟩
  |tup cs=>
   simp only[frz,Option.map_eq_some_iff]at hf
   obtain⟨cs',hm,rfl⟩:=hf
   obtain⟨y,rfl,hy⟩:=hv
   exact⟨y,rfl,all _ _ _ (fun id hid=>hseal id (by simpa[refs]using hid)) hm hy⟩
  |iface t x=>
   simp only[frz,Option.map_eq_some_iff]at hf
   obtain⟨x',hm,rfl⟩:=hf
   obtain⟨y,rfl,hy⟩:=hv
   exact⟨y,rfl,ih (fun id hid=>hseal id (by simpa[refs]using hid)) hm hy⟩
  |fn f p q=>
   simp only[frz,Option.map_eq_some_iff,Option.bind_eq_some_iff]at hf
   obtain⟨p',hp,q',hq,rfl⟩:=hf
   obtain⟨x,y,rfl,hx,hy⟩:=hv
   refine⟨x,y,rfl,all _ _ _ (fun id hid=>hseal id ?_) hp hx,all _ _ _ (fun id hid=>hseal id ?_) hq hy⟩
   ·simp only[refs,List.mem_append];exact .inl hid
   ·simp only[refs,List.mem_append];exact .inr hid
  |yld l=>simp only[frz]at hf;cases hf
  |int k m=>simp only[frz]at hf;cases hf;exact hv
  |bool k=>simp only[frz]at hf;cases hf;exact hv
  |str k=>simp only[frz]at hf;cases hf;exact hv
  |nilp=>simp only[frz]at hf;cases hf;exact hv
  |nilf=>simp only[frz]at hf;cases hf;exact hv
  |nili=>simp only[frz]at hf;cases hf;exact hv
  |vsl es c=>simp only[frz]at hf;cases hf;exact hv
  |vptr e=>simp only[frz]at hf;cases hf;exact hv
theorem load_part{P:Program}{t:TypeId}{i:TyI}(ht:TyOk P t i){ι:IM}{F:Fset}{w:World}{e v:SV}{x:Value}{b o off:Nat}(hx:VR ι F w e x)(hc:∀j,j<x.cells.size→w.cell? ⟨b,o+j,none⟩=x.cells[j]?)(h:partS i e.cells off=some v) :
  ∃u,(loadVar t ⟨b,o+off,none⟩).run P w=.ok u w∧VR ι F w v u:=by
 have hcs:=hx.cells
 have hlen:=hcs.length
 unfold loadVar
 simp only[Sem.run_bind,ht.agg,Result.andThen_ok]
 unfold partS at h
 split at h
 ·rename_i hg
  simp only[]at h
  split at h
  ·rename_i hl
   cases h
   rw[if_pos hg]
   simp only[Sem.run_bind,ht.size,Result.andThen_ok]
   have hoff:off+i.size≤x.cells.size∨i.size=0:=by
    simp at hl hlen;omega
   have hl2:((x.cells.toList.drop off).take i.size).length=i.size:=by simp at hl hlen ⊢;omega
   have hrun:=run_loadCells_list (P:=P) w ⟨b,o+off,none⟩ ((x.cells.toList.drop off).take i.size) (fun j v hv=>by
    have hj:j<i.size:=by
     rcases Nat.lt_or_ge j ((x.cells.toList.drop off).take i.size).length with h'|h'
     ·omega
     ·rw[List.getElem?_eq_none h']at hv;cases hv
    rw[List.getElem?_take,if_pos hj,List.getElem?_drop]at hv
    rw[add_at,Nat.add_assoc,hc (off+j) (by simp at hlen hl;omega)]
    simpa using hv)
   rw[hl2]at hrun
   refine⟨_,by rw[hrun];rfl,_,rfl,?_⟩
   simpa using(hcs.drop off).take i.size
  ·cases h
 ·rename_i hg
  rw[if_neg hg]
  simp only[Option.bind_eq_some_iff]at h
  obtain⟨y',hy',h⟩:=h
  split at h
  ·cases h
   obtain⟨y,hy,hv⟩:=hcs.get hy'
   have hlt:off<x.cells.size:=by
    rcases Nat.lt_or_ge off x.cells.size with h'|h'
    ·exact h'
    ·rw[List.getElem?_eq_none (by simpa using h')]at hy;cases hy
   have:=hc off hlt
   refine⟨y,?_,hv⟩
   rw[run_load,this]
   have:x.cells[off]?=some y:=by simpa using hy
   rw[this]
  ·cases h
theorem loadS_ok{P:Program}{cfg:Cfg}(hT:TyAll P cfg){t:TypeId}{i:TyI}(hi:cfg.ty t=some i){ι:IM}{F:Fset}{S0 S:Zt}{w:World}(hR:Rel ι F S w)(hsub:Sub S0 S){p v:SV}{a:Value}(hp:VR ι F w p a)(h:ldS i S0 p=some v) :
  ∃u,(Instr.loadAt t a).run P w=.ok u w∧VR ι F w v u:=by
 have hk:=hT.ty _ _ hi
 unfold ldS at h
 split at h
 ·rename_i e
  obtain⟨b,o,x,rfl,hx,hpos,hc⟩:=hp
  obtain⟨u,hu,hv⟩:=load_part (off:=0) hk (VR.pure (ι:=ι) hx) (fun j hj=>(hc j hj).2) h
  exact⟨u,by simpa[Instr.loadAt,Instr.sureAddr]using hu,hv⟩
 ·rename_i id j off
  split at h
  ·rename_i es lv hr
   rw[Option.bind_eq_some_iff]at h
   obtain⟨e,he,h⟩:=h
   obtain⟨ix,hix,rfl⟩:=hp
   obtain⟨lv',hr',-⟩:=hsub.cells hr
   obtain⟨x,hx,hxs,hc⟩:=(hR.row _ _ _ _ hix hr').at_ _ _ he
   obtain⟨u,hu,hv⟩:=load_part (off:=off) hk hx (fun j hj=>hc j (by omega)) h
   exact⟨u,by simpa[Instr.loadAt,Instr.sureAddr]using hu,hv⟩
  ·cases h
 ·cases h
def IM.put(ι:IM)(id:Nat)(ix:Ix):IM:=fun k=>if k=id then some ix else ι k
def newF(F:Fset)(b n:Nat)(lv:Bool):Fset:=fun b' o=>F b' o∨(lv=false∧b'=b∧o<n)
theorem cell_alloc_lt(w:World)(o:Obj)(b k:Nat)(h:b<w.heap.size):(w.alloc o).cell? ⟨b,k,none⟩=w.cell? ⟨b,k,none⟩:=World.cell?_alloc_lt w o ⟨b,k,none⟩ h
theorem cell_lt{w:World}{b o:Nat}{v:Value}(h:w.cell? ⟨b,o,none⟩=some v):b<w.heap.size:=by
 unfold World.cell? at h
 split at h
 ·rename_i hb;exact(Array.getElem?_eq_some_iff.1 hb).1
 ·cases h
theorem Rel.alloc{ι:IM}{F:Fset}{S:Zt}{w:World}(h:Rel ι F S w){id:Nat}{es:List SV}{lv:Bool}{c:Array Value}{t:TypeId}{sz cp:Nat}(hid:ι id=none)(hS:S[id]?=some (.cells es lv))(hsz:0<sz)(hc:es.length*sz≤c.size)(hcp:cp*sz≤c.size)
  (hes:∀(i:Nat) (e:SV),es[i]?=some e→∃x,VR ι F w e x∧x.cells.size=sz∧∀j,j<sz→c[i*sz+j]?=x.cells[j]?) :
  Rel (ι.put id ⟨w.heap.size,0,sz,cp⟩) (newF F w.heap.size c.size lv) S (w.alloc (.cells c t))∧Up ι F w (ι.put id ⟨w.heap.size,0,sz,cp⟩) (newF F w.heap.size c.size lv) (w.alloc (.cells c t)):=by
 have u:Up ι F w (ι.put id ⟨w.heap.size,0,sz,cp⟩) (newF F w.heap.size c.size lv) (w.alloc (.cells c t)):=by
  refine⟨fun k ix hk=>?_,fun _ _ h=>.inl h,fun b o hf=>?_⟩
  ·unfold IM.put;rw[if_neg (fun e=>by rw[e,hid]at hk;cases hk)];exact hk
  ·obtain⟨v,hv⟩:=h.fok _ _ hf
   exact cell_alloc_lt _ _ _ _ (cell_lt hv)
 have old:∀b,b<w.heap.size→(w.alloc (.cells c t)).heap[b]?=w.heap[b]?:=fun b hb=>by
  show(w.heap.push _)[b]?=_
  rw[Array.getElem?_push,if_neg (by omega)]
 have lt:∀k ix es lv,ι k=some ix→S[k]?=some (.cells es lv)→ix.b<w.heap.size:=fun k ix es lv hk hr=>by
  obtain⟨c,t,fr,hb,_⟩:=(h.row _ _ _ _ hk hr).blk
  exact(Array.getElem?_eq_some_iff.1 hb).1
 have ltl:∀k ix env ps as bd st pe,ι k=some ix→S[k]?=some (.loop env ps as bd st pe)→ix.b<w.heap.size:=fun k ix env ps as bd st pe hk hr=>by
  obtain⟨L,D,hb,_⟩:=h.loop _ _ _ _ _ _ _ _ hk hr
  exact(Array.getElem?_eq_some_iff.1 hb).1
 have lta:∀k ix,ι k=some ix→Sh.alive S k→ix.b<w.heap.size:=fun k ix hk ha=>by
  obtain⟨r,hr,hn⟩:=ha
  cases r with
  |cells es lv=>exact lt _ _ _ _ hk hr
  |loop env ps as bd st pe=>exact ltl _ _ _ _ _ _ _ _ hk hr
  |dead=>exact absurd rfl hn
 refine⟨⟨?_,?_,?_,?_,?_⟩,u⟩
 ·intro k ix hk
  unfold IM.put at hk
  split at hk
  ·rename_i e;subst e;exact(List.getElem?_eq_some_iff.1 hS).1
  ·exact h.dom _ _ hk
 ·intro k ix es' lv' hk hr
  unfold IM.put at hk
  split at hk
  ·rename_i e
   subst e
   cases hk
   rw[hS]at hr;cases hr
   refine⟨hsz,fun i e he=>?_,?_,?_,?_,fun c' t' fr' hh=>?_⟩
   ·obtain⟨x,h1,h2,h3⟩:=hes i e he
    refine⟨x,h1.up u,h2,fun j hj=>?_⟩
    have:=World.cell?_alloc_new (w:=w) c t (0+i*sz+j)
    rw[this,Nat.zero_add]
    exact h3 j hj
   ·refine⟨c,t,(0,0),?_,by simpa using hc,fun _=>rfl⟩
    show(w.heap.push _)[w.heap.size]?=_
    simp
   ·intro e o hf
    subst e
    rcases hf with hf|⟨e,_⟩
    ·obtain⟨v,hv⟩:=h.fok _ _ hf
     have:=cell_lt hv
     simp at this
    ·cases e
   ·intro e j hj
    simp at hj
    exact .inr ⟨e,rfl,by simp;omega⟩
   ·have hh':(w.heap.push (.cells c t))[w.heap.size]?=some (.cells c' t' fr'):=hh
    simp at hh'
    obtain⟨rfl,_⟩:=hh'
    simpa using hcp
  ·have hrow:=h.row _ _ _ _ hk hr
   have hb:=lt _ _ _ _ hk hr
   refine⟨hrow.pos,fun i e he=>(hrow.at_ i e he).up u (fun j _=>cell_alloc_lt _ _ _ _ hb),?_,?_,fun e j hj=>.inl (hrow.kept e j hj),fun c' t' fr' hh=>hrow.cap c' t' fr' ((old _ hb).symm.trans hh)⟩
   ·obtain⟨c',t',fr,h1,h2⟩:=hrow.blk
    exact⟨c',t',fr,(old _ hb).trans h1,h2⟩
   ·intro e o hf
    rcases hf with hf|⟨_,hb',_⟩
    ·exact hrow.free e o hf
    ·omega
 ·intro k ix env ps as bd st pe hk hr
  unfold IM.put at hk
  split at hk
  ·rename_i e;subst e;rw[hS]at hr;cases hr
  ·obtain⟨L,D,h1,h2,h3,h4,h5,h6,h7,h8,h9⟩:=h.loop _ _ _ _ _ _ _ _ hk hr
   refine⟨L,D,(old _ (Array.getElem?_eq_some_iff.1 h1).1).trans h1,h2.up u,h3,h4,h5,h6,h7,h8,(old _ (Array.getElem?_eq_some_iff.1 h9).1).trans h9⟩
 ·intro k k' ix ix' hk hk' ha ha' hb
  unfold IM.put at hk hk'
  split at hk<;>split at hk'
  ·rename_i e e';rw[e,e']
  ·rename_i e e'
   cases hk
   have:=lta _ _ hk' ha'
   simp at hb;omega
  ·rename_i e e'
   cases hk'
   have:=lta _ _ hk ha
   simp at hb;omega
  ·exact h.inj _ _ _ _ hk hk' ha ha' hb
 ·intro b o hf
  rcases hf with hf|⟨_,rfl,ho⟩
  ·obtain⟨v,hv⟩:=h.fok _ _ hf
   exact⟨v,(cell_alloc_lt _ _ _ _ (cell_lt hv)).trans hv⟩
  ·exact⟨c[o],by rw[World.cell?_alloc_new];simp[ho]⟩
theorem Rel.blkLt{ι:IM}{F:Fset}{S:Zt}{w:World}(h:Rel ι F S w){k:Nat}{ix:Ix}(hk:ι k=some ix)(ha:Sh.alive S k):ix.b<w.heap.size:=by
 obtain⟨r,hr,hn⟩:=ha
 cases r with
 |cells es lv=>obtain⟨c,t,fr,hb,_⟩:=(h.row _ _ _ _ hk hr).blk;exact(Array.getElem?_eq_some_iff.1 hb).1
 |loop env ps as bd st pe=>obtain⟨L,D,hb,_⟩:=h.loop _ _ _ _ _ _ _ _ hk hr;exact(Array.getElem?_eq_some_iff.1 hb).1
 |dead=>exact absurd rfl hn
structure Wrote(w w':World)(b:Nat):Prop where
 other:∀k,k≠b→w'.heap[k]?=w.heap[k]?
 size:w'.heap.size=w.heap.size
 os:w'.os=w.os
 output:w'.output=w.output
 tape:w'.tape=w.tape
theorem cell_of_heap{w w':World}{b o:Nat}(h:w'.heap[b]?=w.heap[b]?):w'.cell? ⟨b,o,none⟩=w.cell? ⟨b,o,none⟩:=World.cell?_of_block (w:=w) (a:=⟨b,o,none⟩) h
theorem Rel.write{ι:IM}{F:Fset}{S S':Zt}{w w':World}(h:Rel ι F S w){id id':Nat}{ix ix':Ix}{es es':List SV}(hix:ι id=some ix)(hS:S[id]?=some (.cells es true))(hw:Wrote w w' ix.b)
  (hb:ix'.b=ix.b) (hsz:ix'.sz=ix.sz)
  (hS':S'[id']?=some (.cells es' true)) (hlen:S.length≤S'.length) (hother:∀k,k≠id→k<S.length→S'[k]?=S[k]?) (hcase:(id'=id∧ix'=ix)∨(S.length≤id'∧S'[id]?=some .dead))
  (hblk:∃c t,w'.heap[ix.b]?=some (.cells c t (0,0))∧ix'.o+es'.length*ix.sz≤c.size∧ix'.o+ix'.cp*ix.sz≤c.size)
  (hes:∀(i:Nat) (e:SV),es'[i]?=some e→∃x,VR ι F w e x∧x.cells.size=ix.sz∧∀j,j<ix.sz→w'.cell? ⟨ix.b,ix'.o+i*ix.sz+j,none⟩=x.cells[j]?) :
  Rel (ι.put id' ix') F S' w'∧Ext ι F S w (ι.put id' ix') F S' w':=by
 have hrow:=h.row _ _ _ _ hix hS
 have hact:actBlock ι S ix.b:=⟨id,ix,hix,act_true hS,rfl⟩
 have hal:Sh.alive S id:=⟨_,hS,by simp⟩
 have hidlt:=h.dom _ _ hix
 have fcell:∀b o,F b o→w'.cell? ⟨b,o,none⟩=w.cell? ⟨b,o,none⟩:=fun b o hf=>cell_of_heap (hw.other b fun e=>hrow.free rfl o (e▸hf))
 have u:Up ι F w (ι.put id' ix') F w':=by
  refine⟨fun k jx hk=>?_,fun _ _ h=>h,fcell⟩
  unfold IM.put
  split
  ·rename_i e
   subst e
   rcases hcase with⟨e1,e2⟩|⟨e1,_⟩
   ·rw[e1,hix]at hk;cases hk;rw[e2]
   ·have:=h.dom _ _ hk;omega
  ·exact hk
 have oldrow:∀k jx r,k≠id'→ι k=some jx→S'[k]?=some r→r≠.dead→k≠id∧S[k]?=some r∧jx.b≠ix.b:=fun k jx r hk hj hr hd=>by
  have hklt:=h.dom _ _ hj
  have hkid:k≠id:=fun e=>by
   rcases hcase with⟨e1,_⟩|⟨_,e2⟩
   ·exact hk (e.trans e1.symm)
   ·rw[e,e2]at hr;cases hr;exact hd rfl
  rw[hother k hkid hklt]at hr
  exact⟨hkid,hr,fun e=>hkid (h.inj _ _ _ _ hj hix ⟨_,hr,hd⟩ hal e)⟩
 refine⟨⟨?_,?_,?_,?_,?_⟩,?_⟩
 ·intro k jx hk
  unfold IM.put at hk
  split at hk
  ·rename_i e;subst e;exact(List.getElem?_eq_some_iff.1 hS').1
  ·exact Nat.lt_of_lt_of_le (h.dom _ _ hk) hlen
 ·intro k jx es0 lv hk hr
  unfold IM.put at hk
  split at hk
  ·rename_i e
   subst e;cases hk
   rw[hS']at hr;cases hr
   obtain⟨c,t,h1,h2,h2'⟩:=hblk
   refine⟨by rw[hsz];exact hrow.pos,fun i e he=>?_,⟨c,t,(0,0),by rw[hb];exact h1,by rw[hsz];exact h2,fun _=>rfl⟩,(fun _ o=>by rw[hb];exact hrow.free rfl o),(fun e=>by cases e),fun c' t' fr' hh=>?_⟩
   rotate_left
   ·rw[hb,h1]at hh;cases hh;rw[hsz];exact h2'
   obtain⟨x,h3,h4,h5⟩:=hes i e he
   exact⟨x,h3.up u,by rw[hsz];exact h4,fun j hj=>by rw[hb,hsz];exact h5 j (hsz▸hj)⟩
  ·rename_i hkn
   obtain⟨hkid,hr0,hbn⟩:=oldrow k jx _ hkn hk hr (by simp)
   have hr1:=h.row _ _ _ _ hk hr0
   have heq:=hw.other jx.b hbn
   refine⟨hr1.pos,fun i e he=>(hr1.at_ i e he).up u (fun j _=>cell_of_heap heq),?_,hr1.free,hr1.kept,fun c' t' fr' hh=>hr1.cap c' t' fr' (heq.symm.trans hh)⟩
   obtain⟨c,t,fr,k1,k2⟩:=hr1.blk
   exact⟨c,t,fr,heq.trans k1,k2⟩
 ·intro k jx env ps as bd st pe hk hr
  unfold IM.put at hk
  split at hk
  ·rename_i e;subst e;rw[hS']at hr;cases hr
  ·rename_i hkn
   obtain⟨hkid,hr0,hbn⟩:=oldrow k jx _ hkn hk hr (by simp)
   obtain⟨L,D,h1,h2,h3,h4,h5,h6,h7,h8,h9⟩:=h.loop _ _ _ _ _ _ _ _ hk hr0
   obtain⟨c,t,fr,k1,_⟩:=hrow.blk
   have hD:D≠ix.b:=fun e=>by rw[e,k1]at h9;cases h9
   exact⟨L,D,(hw.other _ hbn).trans h1,h2.up u,h3,h4,h5,h6,h7,h8,(hw.other _ hD).trans h9⟩
 ·intro k k' jx jx' hk hk' ha ha' hbb
  have key:∀k jx,k≠id'→ι k=some jx→Sh.alive S' k→jx.b≠ix.b:=fun k jx hkn hj hr=>by
   obtain⟨r,hr,hd⟩:=hr
   exact(oldrow k jx r hkn hj hr hd).2.2
  unfold IM.put at hk hk'
  split at hk<;>split at hk'
  ·rename_i e e';rw[e,e']
  ·rename_i e e'
   cases hk
   exact absurd (hbb.symm.trans hb) (key _ _ e' hk' ha')
  ·rename_i e e'
   cases hk'
   exact absurd (hbb.trans hb) (key _ _ e hk ha)
  ·rename_i e e'
   obtain⟨r,hr,hd⟩:=ha
   obtain⟨r',hr',hd'⟩:=ha'
   exact h.inj _ _ _ _ hk hk' ⟨r,(oldrow _ _ _ e hk hr hd).2.1,hd⟩ ⟨r',(oldrow _ _ _ e' hk' hr' hd').2.1,hd'⟩ hbb
 ·intro b o hf
  obtain⟨v,hv⟩:=h.fok _ _ hf
  exact⟨v,(fcell b o hf).trans hv⟩
 ·refine⟨u,by rw[hw.size];exact Nat.le_refl _,hlen,?_,fun b o hf=>.inl hf,?_,?_,hw.os,hw.output,hw.tape⟩
  ·intro k hk ha
   by_cases hkid:k=id
   ·subst hkid;exact act_true hS
   ·unfold Sh.act at ha ⊢;rw[hother k hkid hk]at ha;exact ha
  ·intro k jx hk
   unfold IM.put at hk
   split at hk
   ·rename_i e
    cases hk
    rcases hcase with⟨e1,e2⟩|⟨e1,_⟩
    ·subst e;subst e1;subst e2;exact .inl hix
    ·subst e;exact .inr ⟨e1,.inr (by rw[hb];exact hact)⟩
   ·exact .inl hk
  ·intro b hlt hn
   exact hw.other b fun e=>hn (e▸hact)
theorem setCell_heap{w:World}{b o:Nat}{v:Value}{c:Array Value}{t:TypeId}{fr:Nat×Nat}(h:w.heap[b]?=some (.cells c t fr)):(w.setCell ⟨b,o,none⟩ v).heap[b]?=some (.cells (c.setIfInBounds o v) t fr):=by
 unfold World.setCell
 simp only[Array.getElem?_modify,if_pos,h,Option.map_some]
 simp
theorem setCells_heap{b:Nat}{t:TypeId}{fr:Nat×Nat}:∀(vs:List Value) (o:Nat) (w:World) (c:Array Value),w.heap[b]?=some (.cells c t fr)→∃c',(w.setCells b o vs).heap[b]?=some (.cells c' t fr)∧c'.size=c.size
 |[],o,w,c,h=>⟨c,h,rfl⟩
 |v::r,o,w,c,h=>by
  obtain⟨c',h1,h2⟩:=setCells_heap r (o+1) (w.setCell ⟨b,o,none⟩ v) _ (setCell_heap (o:=o) (v:=v) h)
  exact⟨c',h1,by simpa using h2⟩
theorem setCells_wrote{b:Nat}:∀(vs:List Value) (o:Nat) (w:World),Wrote w (w.setCells b o vs) b
 |[],o,w=>⟨fun _ _=>rfl,rfl,rfl,rfl,rfl⟩
 |v::r,o,w=>by
  have h:=setCells_wrote r (o+1) (w.setCell ⟨b,o,none⟩ v) (b:=b)
  refine⟨fun k hk=>(h.other k hk).trans ?_,h.size.trans (by simp),h.os,h.output,h.tape⟩
  simp only[World.setCell,Array.getElem?_modify]
  rw[if_neg (fun e=>hk e.symm)]
theorem flat_one{ι:IM}{F:Fset}{w:World}{v:SV}{x:Value}(h:VR ι F w v x)(hf:flatS v=true):∀u∈x.cells.toList,u.oneCell'=true:=by
 intro u hu
 obtain⟨i,hi,rfl⟩:=List.getElem_of_mem hu
 have hc:=h.cells
 have hl:=hc.length
 unfold flatS at hf
 rw[List.all_eq_true]at hf
 obtain⟨y,hy,hv⟩:=hc.get (List.getElem?_eq_getElem (show i<v.cells.length by omega))
 rw[List.getElem?_eq_getElem hi]at hy
 cases hy
 exact(hv.one (hf _ (List.getElem_mem _))).2
theorem run_storeCells_row{P:Program}{ι:IM}{F:Fset}{S:Zt}{w:World}(h:Rel ι F S w){id:Nat}{ix:Ix}{es:List SV}(hix:ι id=some ix)(hS:S[id]?=some (.cells es true)){vs:List Value}(h1:∀v∈vs,v.oneCell'=true){o:Nat}
  {c:Array Value} {t:TypeId} {fr:Nat×Nat} (hb:w.heap[ix.b]?=some (.cells c t fr)) (hle:o+vs.length≤c.size) :
  (storeCells ⟨ix.b,o,none⟩ vs).run P w=.ok () (w.setCells ix.b o vs):=by
 have hfr:fr=(0,0):=by
  obtain⟨c',t',fr',h1,_,h3⟩:=(h.row _ _ _ _ hix hS).blk
  rw[hb]at h1;cases h1;exact h3 rfl
 subst hfr
 have:=run_storeCells_cells (P:=P) ix.b o vs 0 w (fun j hj=>by simp only[World.cell?,hb];simp;omega) (fun j hj=>by simp[World.frozen?,hb]) h1
 simpa using this
theorem putPart_one {e v e' : SV} {off : Nat} (hne : ∀ cs, e ≠ .agg cs) (h : putPart e off v = some e') : e' = v ∧ off = 0 ∧ ∀ cs, v ≠ .agg cs := by
  cases e <;> first
    | exact absurd rfl (hne _)
    | (cases v <;> simp [putPart] at h ⊢ <;> exact ⟨h.2.symm, h.1⟩)
theorem storeS_ok{P:Program}{cfg:Cfg}(hT:TyAll P cfg){t:TypeId}{i:TyI}(hi:cfg.ty t=some i){ι:IM}{F:Fset}{S S':Zt}{w:World}(hR:Rel ι F S w){p v:SV}{a x:Value}(hp:VR ι F w p a)(hv:VR ι F w v x)(h:stS i S p v=some S') :
  ∃w',(Instr.storeAt t a x).run P w=.ok () w'∧Rel ι F S' w'∧Ext ι F S w ι F S' w':=by
 have hk:=hT.ty _ _ hi
 unfold stS at h
 split at h
 ·rename_i id j off
  split at h
  ·rename_i es hS
   split at h
   ·rename_i hc
    obtain⟨hn,hflat⟩:=hc
    simp only[Option.bind_eq_some_iff]at h
    obtain⟨e,he,e',hput,h⟩:=h
    cases h
    obtain⟨ix,hix,rfl⟩:=hp
    have hrow:=hR.row _ _ _ _ hix hS
    obtain⟨y,hy,hys,hyc⟩:=hrow.at_ _ _ he
    obtain⟨c,ct,fr,hb,hbl,hfr⟩:=hrow.blk
    have hj:j<es.length:=(List.getElem?_eq_some_iff.1 he).1
    have hj5:(j+1)*ix.sz≤es.length*ix.sz:=Nat.mul_le_mul_right _ hj
    rw[Nat.add_mul,Nat.one_mul]at hj5
    have hxs:x.cells.size=i.size:=by rw[←hv.n,hn]
    have hnew:∃y',VR ι F w e' y'∧off+x.cells.size≤ix.sz∧y'.cells.toList=y.cells.toList.take off++x.cells.toList++y.cells.toList.drop (off+x.cells.size):=by
     have gen:∀cs cs',VRs ι F w cs y.cells.toList→spliceS cs off v.cells=some cs'→VRs ι F w cs' (y.cells.toList.take off++x.cells.toList++y.cells.toList.drop (off+x.cells.size))∧off+x.cells.size≤ix.sz:=by
      intro cs cs' h1 h2
      obtain⟨h3,h4⟩:=VRs.splice h1 hv.cells h2
      simp only[Array.length_toList]at h3 h4
      exact⟨h3,by omega⟩
     have nonagg:(∀cs,e≠.agg cs)→∃y',VR ι F w e' y'∧off+x.cells.size≤ix.sz∧y'.cells.toList=y.cells.toList.take off++x.cells.toList++y.cells.toList.drop (off+x.cells.size):=by
      intro hne
      have hv1:=putPart_one hne hput
      obtain⟨rfl,rfl,hva⟩:=hv1
      have one:∀(z:SV),(∀cs,z≠.agg cs)→z.n=1:=fun z hz=>by cases z<;>first|rfl|exact absurd rfl (hz _)
      have hs1:ix.sz=1:=by rw[←hys,←hy.n,one e hne]
      have hx1:x.cells.size=1:=by rw[←hv.n,one _ hva]
      refine⟨x,hv,by omega,?_⟩
      rw[List.drop_eq_nil_of_le (by simp;omega)]
      simp
     cases e with
     |agg cs=>
      simp only[putPart,Option.map_eq_some_iff]at hput
      obtain⟨cs',hsp,rfl⟩:=hput
      obtain⟨h1,h2⟩:=gen cs cs' hy.cells hsp
      exact⟨.agg (y.cells.toList.take off++x.cells.toList++y.cells.toList.drop (off+x.cells.size)).toArray,⟨_,rfl,by simpa using h1⟩,h2,by simp[Value.cells]⟩
     |_=>exact nonagg (by intro cs hcs;cases hcs)
    obtain⟨y',hy',hoff,hcells⟩:=hnew
    have hrange:ix.o+j*ix.sz+off+x.cells.toList.length≤c.size:=by simp;omega
    have hrun:=run_storeCells_row (P:=P) hR hix hS (flat_one hv hflat) (o:=ix.o+j*ix.sz+off) hb hrange
    obtain⟨c',hb',hcs'⟩:=setCells_heap x.cells.toList (ix.o+j*ix.sz+off) w c hb
    refine⟨w.setCells ix.b (ix.o+j*ix.sz+off) x.cells.toList,?_,?_⟩
    ·unfold Instr.storeAt
     simp only[Instr.sureAddr,Sem.run_bind,Sem.run_pure,Result.andThen_ok,storeVar,hk.size]
     rw[if_neg (by simp[hxs])]
     exact hrun
    ·have hW:=Rel.write hR (id':=id) (ix':=ix) (es':=es.set j e') (S':=S.set id (.cells (es.set j e') true)) hix hS (setCells_wrote x.cells.toList (ix.o+j*ix.sz+off) w) rfl rfl
      (by rw[List.getElem?_set_self (List.getElem?_eq_some_iff.1 hS).1]) (by simp) (fun k hk _=>by rw[List.getElem?_set_ne (Ne.symm hk)]) (.inl ⟨rfl,rfl⟩)
      ⟨c',ct,by rw[hb',hfr rfl],by simp;omega,by rw[hcs'];exact hrow.cap _ _ _ hb⟩ ?_
     ·have hp:ι.put id ix=ι:=by
       funext k;unfold IM.put;split
       ·rename_i e;rw[e,hix]
       ·rfl
      rw[hp]at hW
      exact hW
     ·intro k z hz
      rw[List.getElem?_set]at hz
      by_cases hjk:j=k
      ·subst hjk
       rw[if_pos rfl,if_pos hj]at hz
       cases hz
       refine⟨y',hy',?_,fun l hl=>?_⟩
       ·have:=congrArg List.length hcells
        simp at this;omega
       ·have hyl:y'.cells[l]?=(y.cells.toList.take off++x.cells.toList++y.cells.toList.drop (off+x.cells.size))[l]?:=by rw[←hcells];simp
        rw[hyl]
        by_cases h1:l<off
        ·rw[World.cell?_setCells_out _ _ _ _ _ (fun _ _=>.inl (by simp;omega)),hyc l (by omega)]
         rw[List.append_assoc,List.getElem?_append_left (by simp;omega),List.getElem?_take,if_pos h1]
         simp
        ·by_cases h2:l<off+x.cells.size
         ·have:=World.cell?_setCells_in ix.b x.cells.toList (ix.o+j*ix.sz+off) w (fun q hq=>by simp only[World.cell?,hb];simp at hq ⊢;omega) (l-off) (by simp;omega)
          rw[show ix.o+j*ix.sz+off+(l-off)=ix.o+j*ix.sz+l by omega]at this
          rw[this,List.append_assoc,List.getElem?_append_right (by simp;omega),List.getElem?_append_left (by simp;omega)]
          have hm:min off y.cells.size=off:=by omega
          simp[hm]
         ·rw[World.cell?_setCells_out _ _ _ _ _ (fun _ _=>.inr (by simp;omega)),hyc l (by omega)]
          rw[List.getElem?_append_right (by simp;omega),List.getElem?_drop]
          have hm:min off y.cells.size=off:=by omega
          simp only[List.length_append,List.length_take,Array.length_toList,hm]
          rw[show off+x.cells.size+(l-(off+x.cells.size))=l by omega]
          simp
      ·rw[if_neg hjk]at hz
       obtain⟨z',h1,h2,h3⟩:=hrow.at_ _ _ hz
       refine⟨z',h1,h2,fun l hl=>?_⟩
       rw[World.cell?_setCells_out _ _ _ _ _ (fun _ _=>?_),h3 l hl]
       simp only[Array.length_toList]
       rcases Nat.lt_or_gt_of_ne hjk with h5|h5
       ·right
        have:(j+1)*ix.sz≤k*ix.sz:=Nat.mul_le_mul_right _ h5
        rw[Nat.add_mul,Nat.one_mul]at this
        omega
       ·left
        have:(k+1)*ix.sz≤j*ix.sz:=Nat.mul_le_mul_right _ h5
        rw[Nat.add_mul,Nat.one_mul]at this
        omega
   ·cases h
  ·cases h
 ·cases h
end Go.Sh
