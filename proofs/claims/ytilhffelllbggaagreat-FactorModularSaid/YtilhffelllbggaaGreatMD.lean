/-
  The shadow machine laid out for the kernel, and the machine of a program.
-/
import Derived.Test.YtilhffelllbggaaGreatMA
import Derived.Test.YtilhffelllbggaaGreatMC
set_option linter.unusedVariables false
set_option linter.unusedSimpArgs false
namespace Go.Sh
inductive D8 where
 |d0|d1|d2|d3|d4|d5|d6|d7
inductive N8(α:Type) where
 |mk (a0 a1 a2 a3 a4 a5 a6 a7:α)
inductive P8 where
 |mk (a b c:D8)
 |bad
def dig(n:Nat):D8:=match n with
 |0=>.d0|1=>.d1|2=>.d2|3=>.d3|4=>.d4|5=>.d5|6=>.d6|_=>.d7
def pathOf(t:Nat):P8:=cond (Nat.blt t 512) (.mk (dig (t/64)) (dig (t/8%8)) (dig (t%8))) .bad
abbrev Env:=N8 (N8 (N8 (Option SV)))
noncomputable def N8.get{α:Type}(n:N8 α)(d:D8):α:=N8.casesOn n (fun a0 a1 a2 a3 a4 a5 a6 a7=>D8.casesOn d a0 a1 a2 a3 a4 a5 a6 a7)
noncomputable def N8.s0{α β:Type}(n:N8 α)(v:α)(k:N8 α→β):β:=N8.casesOn n (fun a0 a1 a2 a3 a4 a5 a6 a7=>k (.mk v a1 a2 a3 a4 a5 a6 a7))
noncomputable def N8.s1{α β:Type}(n:N8 α)(v:α)(k:N8 α→β):β:=N8.casesOn n (fun a0 a1 a2 a3 a4 a5 a6 a7=>k (.mk a0 v a2 a3 a4 a5 a6 a7))
noncomputable def N8.s2{α β:Type}(n:N8 α)(v:α)(k:N8 α→β):β:=N8.casesOn n (fun a0 a1 a2 a3 a4 a5 a6 a7=>k (.mk a0 a1 v a3 a4 a5 a6 a7))
noncomputable def N8.s3{α β:Type}(n:N8 α)(v:α)(k:N8 α→β):β:=N8.casesOn n (fun a0 a1 a2 a3 a4 a5 a6 a7=>k (.mk a0 a1 a2 v a4 a5 a6 a7))
noncomputable def N8.s4{α β:Type}(n:N8 α)(v:α)(k:N8 α→β):β:=N8.casesOn n (fun a0 a1 a2 a3 a4 a5 a6 a7=>k (.mk a0 a1 a2 a3 v a5 a6 a7))
noncomputable def N8.s5{α β:Type}(n:N8 α)(v:α)(k:N8 α→β):β:=N8.casesOn n (fun a0 a1 a2 a3 a4 a5 a6 a7=>k (.mk a0 a1 a2 a3 a4 v a6 a7))
noncomputable def N8.s6{α β:Type}(n:N8 α)(v:α)(k:N8 α→β):β:=N8.casesOn n (fun a0 a1 a2 a3 a4 a5 a6 a7=>k (.mk a0 a1 a2 a3 a4 a5 v a7))
noncomputable def N8.s7{α β:Type}(n:N8 α)(v:α)(k:N8 α→β):β:=N8.casesOn n (fun a0 a1 a2 a3 a4 a5 a6 a7=>k (.mk a0 a1 a2 a3 a4 a5 a6 v))
noncomputable def N8.setK{α β:Type}(n:N8 α)(d:D8):α→(N8 α→β)→β:=D8.casesOn d (N8.s0 n) (N8.s1 n) (N8.s2 n) (N8.s3 n) (N8.s4 n) (N8.s5 n) (N8.s6 n) (N8.s7 n)
noncomputable def nthP(e:Env)(p:P8):Option SV:=P8.casesOn p (fun a b c=>((e.get a).get b).get c) none
noncomputable def nthF(e:Env)(t:Nat):Option SV:=nthP e (pathOf t)
noncomputable def setP3{α:Type}(e:Env)(a b c:D8)(v:SV)(k:Env→α)(m:N8 (N8 (Option SV)))(l:N8 (Option SV)):α:=
 Option.casesOn (l.get c) (k e) (fun _=>N8.setK l c (some v) (fun x=>N8.setK m b x (fun y=>N8.setK e a y k)))
noncomputable def setP2{α:Type}(e:Env)(a b c:D8)(v:SV)(k:Env→α)(m:N8 (N8 (Option SV))):α:=setP3 e a b c v k m (m.get b)
noncomputable def setP{α:Type}(e:Env)(p:P8)(v:SV)(k:Env→α):α:=P8.casesOn p (fun a b c=>setP2 e a b c v k (e.get a)) (k e)
noncomputable def putF{α:Type}(env:Env)(dst:Option Tmp)(v:SV)(k:Env→α):α:=
 Option.casesOn dst (k env) (fun d=>setP env (pathOf d) v k)
inductive Tape where
 |off
 |note
 |on (l:List Bool)
abbrev Q:=Tape×List (Bool×Bool)
structure TS where
 S:Zt
 q:Q
structure StF where
 env:Env
 s:TS
structure RecF where
 den:Code→StF→Option (X×StF)
 body:FuncId→List SV→TS→Option (SV×TS)
 pcall:FuncId→List SV→Q→Option (SV×Q)
 fcall:FuncId→List SV→Q→Option ((SV ⊕ (List SV×Nat×Nat×Nat×Option Nat))×Q)
 call:FuncId→List SV→TS→Option (SV×TS)
 rnd:Nat→List SV→TS→Option (SV×TS)
noncomputable def bd{α β:Type}(o:Option α)(f:α→Option β):Option β:=Option.casesOn o none f
def ltI(a b:Int):Bool:=match a,b with
 |.ofNat m,.ofNat n=>Nat.blt m n
 |.ofNat _,.negSucc _=>false
 |.negSucc _,.ofNat _=>true
 |.negSucc m,.negSucc n=>Nat.blt n m
def eqI(a b:Int):Bool:=match a,b with
 |.ofNat m,.ofNat n=>Nat.beq m n
 |.negSucc m,.negSucc n=>Nat.beq m n
 |_,_=>false
def modI(k:IntKind)(b:Nat)(n:Int):Int:=match n with
 |.ofNat m=>cond (Nat.blt m b) (.ofNat m) (.ofNat (m%b))
 |.negSucc m=>wrS k (.negSucc m)
def i64F(n:Int):Int:=match n with
 |.ofNat m=>cond (Nat.blt m 9223372036854775808) (.ofNat m) (wrS .i64 (.ofNat m))
 |.negSucc m=>cond (Nat.blt m 9223372036854775808) (.negSucc m) (wrS .i64 (.negSucc m))
def wrapF(k:IntKind)(n:Int):Int:=match k with
 |.i64=>i64F n
 |.u64=>modI .u64 18446744073709551616 n
 |.u32=>modI .u32 4294967296 n
 |k=>wrS k n
noncomputable def getL{α:Type}(l:List α):Nat→Option α:=List.rec (fun _=>none) (fun x _ ih n=>Nat.casesOn n (some x) ih) l
noncomputable def setLK{α β:Type}(l:List α):Nat→α→(List α→β)→β:=
 List.rec (fun _ _ k=>k []) (fun x r ih n v k=>Nat.casesOn n (k (v::r)) (fun m=>ih m v (fun r'=>k (x::r')))) l
noncomputable def snocK{α β:Type}(l:List α):α→(List α→β)→β:=
 List.rec (fun v k=>k [v]) (fun x _ ih v k=>ih v (fun r'=>k (x::r'))) l
def beqK(a b:IntKind):Bool:=if a=b then true else false
def askF(q:Q)(b:Bool):Option (SV×Q):=match q.1 with
 |.off=>some (.bool b,q)
 |.note=>some (.bool b,(.note,(b,b)::q.2))
 |.on []=>none
 |.on (a::r)=>some (.bool a,(.on r,(b,a)::q.2))
def nzF(q:Q)(y:Int):Option Q:=match q.1 with
 |.off=>cond (eqI y 0) none (some q)
 |t=>some (t,(false,eqI y 0)::q.2)
def someQ(q:Q)(o:Option SV):Option (SV×Q):=Option.casesOn o none (fun v=>some (v,q))
def arithF(op:BinOp)(k:IntKind)(x y:Int)(q:Q):Option (SV×Q):=match op with
 |.add=>some (.int k (wrapF k (x+y)),q)
 |.sub=>some (.int k (wrapF k (x-y)),q)
 |.mul=>some (.int k (wrapF k (x*y)),q)
 |.quo=>Option.casesOn (nzF q y) none (fun q=>some (.int k (wrapF k (x.tdiv y)),q))
 |.rem=>Option.casesOn (nzF q y) none (fun q=>some (.int k (x.tmod y),q))
 |.eql=>askF q (eqI x y)
 |.neq=>askF q (!eqI x y)
 |.lss=>askF q (ltI x y)
 |.leq=>askF q (!ltI y x)
 |.gtr=>askF q (ltI y x)
 |.geq=>askF q (!ltI x y)
 |op=>someQ q (arithS op k x y)
def int2F(op:BinOp)(k k':IntKind)(a b:Int)(q:Q):Option (SV×Q):=cond (isShift op) (someQ q (shiftS op k a b)) (cond (beqK k k') (arithF op k a b q) none)
def bin1F(op:BinOp)(cfg:Cfg)(t:TypeId)(a b:SV)(q:Q):Option (SV×Q):=match a with
 |.int k m=>(match b with
  |.int k' n=>int2F op k k' m n q
  |b=>someQ q (bnS op (cfg.ty t) (.int k m) b))
 |a=>someQ q (bnS op (cfg.ty t) a b)
def qF(S:Zt)(o:Option (SV×Q)):Option (SV×TS):=Option.casesOn o none (fun p=>Prod.casesOn p (fun v q=>some (v,⟨S,q⟩)))
abbrev Ev:=Operand→Option SV
noncomputable def e_tmp(t:Nat)(env:Env):Option SV:=nthF env t
def e_const(v:Value)(env:Env):Option SV:=constS v
def e_func(f:FuncId)(env:Env):Option SV:=some (.fn f [] [])
def e_none(env:Env):Option SV:=none
noncomputable def evalF0(x:Operand):Env→Option SV:=match x with
 |.tmp t=>e_tmp t
 |.const v=>e_const v
 |.func f=>e_func f
 |.global _=>e_none
noncomputable def evalF(env:Env)(x:Operand):Option SV:=evalF0 x env
noncomputable def evalsF(ev:Ev)(l:List Operand):Option (List SV):=
 List.rec (some []) (fun x _ ih=>Option.casesOn (ev x) none (fun v=>Option.casesOn ih none (fun vs=>some (v::vs)))) l
noncomputable def partsF(ev:Ev)(l:List (Nat×Operand)):Option (List (Nat×SV)):=
 List.rec (some []) (fun x _ ih=>Option.casesOn (ev x.2) none (fun v=>Option.casesOn ih none (fun vs=>some ((x.1,v)::vs)))) l
def withF(s:TS)(o:Option SV):Option (SV×TS):=Option.casesOn o none (fun v=>some (v,s))
def backF(q:Q)(o:Option (SV×Zt)):Option (SV×TS):=Option.casesOn o none (fun p=>Prod.casesOn p (fun v S=>some (v,⟨S,q⟩)))
def natF(v:SV):Option Nat:=match v with
 |.int _ n=>Int.casesOn n (fun m=>some m) (fun _=>none)
 |_=>none
noncomputable def vIdx(es:List SV)(n sz:Nat):Option SV:=bd (getL es n) fun e=>cond (Nat.beq e.n sz) (some (.vptr e)) none
noncomputable def sIdx(x:SV)(n sz:Nat):Option SV:=match x with
 |.vsl es _=>vIdx es n sz
 |.osl id z off len _=>cond (Nat.blt n len) (cond (Nat.beq z sz) (some (.optr id (off+n) 0)) none) none
 |_=>none
noncomputable def iAddr(cfg:Cfg)(i:TyI)(x ix:SV):Option SV:=match i.kind with
 |.slice e=>bd (natF ix) fun n=>bd (cfg.ty e) fun j=>cond (Nat.beq j.size 0) none (sIdx x n j.size)
 |_=>ixS cfg i x ix
def aggF(x:List SV)(sz:Nat):Option SV:=cond (Nat.beq x.length sz) (some (.agg x)) none
noncomputable def partF(i:TyI)(cs:List SV)(off:Nat):Option SV:=
 cond i.isAgg (aggF ((cs.drop off).take i.size) i.size) (bd (getL cs off) fun v=>cond (oneS v) (some v) none)
noncomputable def rowF(S:Zt)(id:Nat):Option (List SV):=bd (getL S id) fun r=>match r with
 |.cells es _=>some es
 |_=>none
noncomputable def loadF(i:TyI)(S:Zt)(a:SV):Option SV:=match a with
 |.vptr e=>partF i e.cells 0
 |.optr id j off=>bd (rowF S id) fun es=>bd (getL es j) fun e=>partF i e.cells off
 |_=>none
noncomputable def liveF(S:Zt)(id:Nat):Option (List SV):=bd (getL S id) fun r=>match r with
 |.cells es lv=>cond lv (some es) none
 |_=>none
noncomputable def storeF(i:TyI)(S:Zt)(a v:SV):Option (SV×Zt):=match a with
 |.optr id j off=>bd (liveF S id) fun es=>cond (Nat.beq v.n i.size) (cond (flatS v) (bd (getL es j) fun e=>bd (putPart e off v) fun e'=>
   setLK es j e' fun es'=>setLK S id (.cells es' true) fun S'=>some (undefS,S')) none) none
 |_=>none
noncomputable def sliceF(cfg:Cfg)(ev:Ev)(t:TypeId)(x:Operand)(lo hi mx:Option Operand):Option SV:=
 bd (isZ cfg t) fun e=>bd (cfg.ty e) fun j=>cond (Nat.beq j.size 0) none (bd (ev x) fun x=>
   bd (optNat (lo.map fun o=>(ev o).getD .nilp)) fun lo=>bd (optNat (hi.map fun o=>(ev o).getD .nilp)) fun hi=>
   bd (optNat (mx.map fun o=>(ev o).getD .nilp)) fun mx=>cond (sizeIs j.size x) (sliceS x lo hi mx) none)
noncomputable def pickF(ev:Ev)(c:Option SV)(a b:Operand):Option SV:=match c with
 |some (.bool t)=>bd (ev a) fun va=>bd (ev b) fun vb=>some (cond t va vb)
 |_=>none
def convF(i:TyI)(x:SV):Option SV:=match i.kind,i.zero,x with
  |.int,.int k _,.int _ n=>some (.int k (wrapF k n))
  |_,_,_=>none
def extF(x:Option SV)(ix:Nat):Option SV:=match x with
  |some (.tup vs)=>vs[ix]?
  |_=>none
def nilF(x:Option SV):Option SV:=match x with
  |some (.optr id j o)=>some (.optr id j o)
  |some (.vptr e)=>some (.vptr e)
  |some (.fn f a b)=>some (.fn f a b)
  |_=>none
noncomputable def newF1(S:Zt)(es:List SV)(v:SV):Option (SV×Zt):=snocK S (.cells es true) fun S'=>some (v,S')
def calleeF(r:RecF)(s:TS)(args:List SV)(f:SV):Option (SV×TS):=match f with
 |.fn g a b=>r.call g (a++args++b) s
 |.yld l=>r.rnd l args s
 |_=>none
noncomputable def appF(cfg:Cfg)(S:Zt)(ts:List TypeId)(args:List SV):Option (SV×Zt):=match ts,args with
 |[t,u],[s,x]=>bd (isZ cfg t) fun e=>bd (isZ cfg u) fun _=>bd (cfg.ty e) fun j=>cond (Nat.beq j.zero.n j.size) (appendS j.size j.bytes S s x) none
 |_,_=>none
noncomputable def cpyF(cfg:Cfg)(S:Zt)(ts:List TypeId)(args:List SV):Option (SV×Zt):=match ts,args with
 |[t,_],[d,s]=>bd (isZ cfg t) fun e=>bd (cfg.ty e) fun j=>copyS j.size S d s
 |_,_=>none
noncomputable def lnF(cfg:Cfg)(ts:List TypeId)(args:List SV):Option SV:=match ts,args with
 |t::_,x::_=>bd (cfg.ty t) fun i=>lenS i x
 |_,_=>none
def mxF(f:SV→SV→Option SV)(args:List SV):Option SV:=match args with
 |x::r=>foldS f x r
 |_=>none
noncomputable def builtF(cfg:Cfg)(s:TS)(b:Builtin)(ts:List TypeId)(args:List SV):Option (SV×TS):=match b with
 |.append=>backF s.q (appF cfg s.S ts args)
 |.copy=>backF s.q (cpyF cfg s.S ts args)
 |.len=>withF s (lnF cfg ts args)
 |.max=>withF s (mxF max2S args)
 |.min=>withF s (mxF min2S args)
 |_=>none
noncomputable def callF0(cfg:Cfg)(r:RecF)(ev:Ev)(s:TS)(c:Call):Option (SV×TS):=match c.callee with
 |.value f=>bd (evalsF ev c.args.toList) fun args=>bd (ev f) fun f=>calleeF r s args f
 |.builtin b=>bd (evalsF ev c.args.toList) fun args=>builtF cfg s b c.argTypes.toList args
 |.invoke ..=>none
noncomputable def allocF(S:Zt)(v:SV):Option (SV×Zt):=cond (Nat.beq v.n 0) none (newF1 S [v] (.optr S.length 0 0))
noncomputable def bsF(cfg:Cfg)(ev:Ev)(S:Zt)(t:TypeId)(len:Nat)(ps:List (Nat×Operand)):Option (SV×Zt):=
 bd (isZ cfg t) fun e=>bd (cfg.ty e) fun j=>cond (Nat.beq j.size 0) none (cond (Nat.blt 16777216 (len*j.size)) none (cond (Nat.beq j.zero.n j.size)
   (bd (partsF ev ps) fun vs=>bd (litS j.size (List.replicate len j.zero) vs) fun es=>newF1 S es (.osl S.length j.size 0 len (some len))) none))
noncomputable def msF(cfg:Cfg)(ev:Ev)(S:Zt)(t:TypeId)(l c:Operand):Option (SV×Zt):=
 bd (isZ cfg t) fun e=>bd (cfg.ty e) fun j=>bd (bd (ev l) natF) fun l=>bd (bd (ev c) natF) fun c=>
  cond (Nat.beq j.size 0) none (cond (Nat.blt c l) none (cond (Nat.blt roomS c) none (cond (Nat.blt roomS (c*j.bytes)) none (cond (Nat.beq j.zero.n j.size)
   (newF1 S (List.replicate c j.zero) (.osl S.length j.size 0 l (some c))) none))))
noncomputable def mkF(ev:Ev)(fn:Fn)(first cap:List Operand):Option SV:=match fn with
 |.func f=>bd (evalsF ev first) fun a=>bd (evalsF ev cap) fun b=>some (.fn f a b)
 |_=>none
noncomputable def o_move(x:Operand)(cfg:Cfg)(r:RecF)(ev:Ev)(s:TS):Option (SV×TS):=withF s (ev x)
noncomputable def o_assign(x:Operand)(cfg:Cfg)(r:RecF)(ev:Ev)(s:TS):Option (SV×TS):=withF s (ev x)
noncomputable def o_pick(c a b:Operand)(cfg:Cfg)(r:RecF)(ev:Ev)(s:TS):Option (SV×TS):=withF s (pickF ev (ev c) a b)
noncomputable def o_binOp(op:BinOp)(t:TypeId)(x y:Operand)(cfg:Cfg)(r:RecF)(ev:Ev)(s:TS):Option (SV×TS):=bd (ev x) fun a=>bd (ev y) fun b=>qF s.S (bin1F op cfg t a b s.q)
noncomputable def o_unOp(op:UnOp)(x:Operand)(cfg:Cfg)(r:RecF)(ev:Ev)(s:TS):Option (SV×TS):=withF s (bd (ev x) fun a=>unS op a)
noncomputable def o_convert(c d:TypeId)(x:Operand)(cfg:Cfg)(r:RecF)(ev:Ev)(s:TS):Option (SV×TS):=withF s (bd (cfg.ty c) fun _=>bd (cfg.ty d) fun i=>bd (ev x) fun a=>convF i a)
noncomputable def o_build(t:TypeId)(ps:Array (Nat×Operand))(cfg:Cfg)(r:RecF)(ev:Ev)(s:TS):Option (SV×TS):=withF s (bd (cfg.ty t) fun i=>bd (partsF ev ps.toList) fun vs=>buildS cfg i vs)
noncomputable def o_nilCheck(x:Operand)(cfg:Cfg)(r:RecF)(ev:Ev)(s:TS):Option (SV×TS):=withF s (nilF (ev x))
noncomputable def o_makeFunc(fn:Fn)(first cap:Array Operand)(cfg:Cfg)(r:RecF)(ev:Ev)(s:TS):Option (SV×TS):=withF s (mkF ev fn first.toList cap.toList)
noncomputable def o_slice(t:TypeId)(x:Operand)(lo hi mx:Option Operand)(cfg:Cfg)(r:RecF)(ev:Ev)(s:TS):Option (SV×TS):=withF s (sliceF cfg ev t x lo hi mx)
noncomputable def o_fieldAddr(t:TypeId)(x:Operand)(f:Nat)(cfg:Cfg)(r:RecF)(ev:Ev)(s:TS):Option (SV×TS):=withF s (bd (cfg.ty t) fun i=>bd (ev x) fun p=>faS cfg i p f)
noncomputable def o_field(t:TypeId)(x:Operand)(f:Nat)(cfg:Cfg)(r:RecF)(ev:Ev)(s:TS):Option (SV×TS):=withF s (bd (cfg.ty t) fun i=>bd (ev x) fun p=>fieldS cfg i p f)
noncomputable def o_indexAddr(t:TypeId)(x ix:Operand)(cfg:Cfg)(r:RecF)(ev:Ev)(s:TS):Option (SV×TS):=withF s (bd (cfg.ty t) fun i=>bd (ev x) fun p=>bd (ev ix) fun n=>iAddr cfg i p n)
noncomputable def o_index(t:TypeId)(x ix:Operand)(cfg:Cfg)(r:RecF)(ev:Ev)(s:TS):Option (SV×TS):=withF s (bd (cfg.ty t) fun i=>bd (ev x) fun p=>bd (ev ix) fun n=>indexS cfg i p n)
noncomputable def o_extract(x:Operand)(ix:Nat)(cfg:Cfg)(r:RecF)(ev:Ev)(s:TS):Option (SV×TS):=withF s (extF (ev x) ix)
noncomputable def o_load(t:TypeId)(a:Operand)(cfg:Cfg)(r:RecF)(ev:Ev)(s:TS):Option (SV×TS):=bd (cfg.ty t) fun i=>bd (ev a) fun p=>withF s (loadF i s.S p)
noncomputable def o_store(t:TypeId)(a x:Operand)(cfg:Cfg)(r:RecF)(ev:Ev)(s:TS):Option (SV×TS):=bd (cfg.ty t) fun i=>bd (ev a) fun p=>bd (ev x) fun v=>backF s.q (storeF i s.S p v)
noncomputable def o_alloc(t:TypeId)(cfg:Cfg)(r:RecF)(ev:Ev)(s:TS):Option (SV×TS):=bd (cfg.ty t) fun i=>backF s.q (allocF s.S i.zero)
noncomputable def o_box(t:TypeId)(x:Operand)(cfg:Cfg)(r:RecF)(ev:Ev)(s:TS):Option (SV×TS):=bd (cfg.ty t) fun _=>bd (ev x) fun v=>backF s.q (allocF s.S v)
noncomputable def o_buildSlice(t:TypeId)(len:Nat)(ps:Array (Nat×Operand))(cfg:Cfg)(r:RecF)(ev:Ev)(s:TS):Option (SV×TS):=backF s.q (bsF cfg ev s.S t len ps.toList)
noncomputable def o_makeSlice(t:TypeId)(l c:Operand)(cfg:Cfg)(r:RecF)(ev:Ev)(s:TS):Option (SV×TS):=backF s.q (msF cfg ev s.S t l c)
noncomputable def o_call(c:Call)(cfg:Cfg)(r:RecF)(ev:Ev)(s:TS):Option (SV×TS):=callF0 cfg r ev s c
def o_none(cfg:Cfg)(r:RecF)(ev:Ev)(s:TS):Option (SV×TS):=none
noncomputable def opF(op:Op):Cfg→RecF→Ev→TS→Option (SV×TS):=match op with
 |.move x=>o_move x
 |.assign x=>o_assign x
 |.pick c a b=>o_pick c a b
 |.binOp op t x y _=>o_binOp op t x y
 |.unOp op _ x=>o_unOp op x
 |.convert c d x=>o_convert c d x
 |.build t ps=>o_build t ps
 |.nilCheck x=>o_nilCheck x
 |.makeFunc fn first cap=>o_makeFunc fn first cap
 |.slice t x lo hi mx=>o_slice t x lo hi mx
 |.fieldAddr t x f=>o_fieldAddr t x f
 |.field t x f=>o_field t x f
 |.indexAddr t x ix=>o_indexAddr t x ix
 |.index t x ix=>o_index t x ix
 |.extract x ix=>o_extract x ix
 |.load t a=>o_load t a
 |.store t a x=>o_store t a x
 |.alloc t=>o_alloc t
 |.box t x=>o_box t x
 |.buildSlice t len ps=>o_buildSlice t len ps
 |.makeSlice t l c=>o_makeSlice t l c
 |.call c=>o_call c
 |_=>o_none
noncomputable def goF(dst:Option Tmp)(o:Option (SV×TS))(k:Env→TS→Option (Env×TS))(env:Env):Option (Env×TS):=
 Option.casesOn o none (fun p=>Prod.casesOn p (fun v s'=>putF env dst v (fun env'=>k env' s')))
def quietF(cfg:Cfg)(ev:Ev)(op:Op):Bool:=match op with
 |.call c=>(match c.callee with
  |.builtin _=>true
  |.value f=>(match ev f with
   |some (.fn g _ _)=>cfg.mode g != .inpl
   |_=>false)
  |.invoke ..=>false)
 |_=>true
noncomputable def yieldF(ops:List Oper)(env:Env)(j:Nat):Option Bool:=match bd (bd (getL ops j) (·.dst)) (nthF env)with
 |some (.bool b)=>some b
 |_=>none
noncomputable def wantF(ops:List Oper)(env:Env)(g:Nat×Bool):Bool:=match yieldF ops env g.1 with
 |some b=>cond b g.2 (!g.2)
 |none=>false
noncomputable def stepF(cfg:Cfg)(r:RecF)(all:List Oper)(draw:Bool)(i:Nat)(o:Oper)(env:Env)(s:TS)(k:Env→TS→Option (Env×TS)):Option (Env×TS):=
 cond draw (cond (!quietF cfg (evalF env) o.op&&!lastOk all i) none (goF o.dst (opF o.op cfg r (evalF env) s) k env)) (goF o.dst (opF o.op cfg r (evalF env) s) k env)
noncomputable def runF(cfg:Cfg)(r:RecF)(all:List Oper)(draw:Bool)(l:List Oper):Nat→Env→TS→Option (Env×TS):=
 List.rec (fun _ env s=>some (env,s)) (fun o _ ih i env s=>Option.casesOn o.guard (stepF cfg r all draw i o env s (ih (i+1)))
  (fun g=>cond (wantF all env g) (stepF cfg r all draw i o env s (ih (i+1))) (putF env o.dst undefS (fun env'=>ih (i+1) env' s)))) l
noncomputable def regF(cfg:Cfg)(r:RecF)(ops:List Oper)(draw:Bool)(st:StF):Option (X×StF):=
 StF.casesOn st (fun env s=>Option.casesOn (runF cfg r ops draw ops 0 env s) none (fun p=>Prod.casesOn p (fun env s=>some (.nrm,⟨env,s⟩))))
noncomputable def seqF(r:RecF)(b:Code)(o:Option (X×StF)):Option (X×StF):=
 Option.casesOn o none (fun p=>Prod.casesOn p (fun e st=>X.casesOn e (r.den b st) (some (.ret,st)) (fun id=>some (.exit id,st))))
def condF(r:RecF)(x:Option SV)(a b:Code)(st:StF):Option (X×StF):=match x with
 |some (.bool t)=>cond t (r.den a st) (r.den b st)
 |_=>none
def blockX(id:Nat)(e:X):X:=match e with
 |.exit i=>cond (Nat.beq i id) .nrm (.exit i)
 |e=>e
noncomputable def blockF(id:Nat)(o:Option (X×StF)):Option (X×StF):=
 Option.casesOn o none (fun p=>Prod.casesOn p (fun e st=>some (blockX id e,st)))
noncomputable def toL(e:Env):List SV:=(List.range 512).filterMap (nthF e)
def ch0{α:Type}(f:List SV→α)(n:Nat)(l:List SV):N8 α:=.mk (f l) (f (l.drop n)) (f (l.drop (2*n))) (f (l.drop (3*n))) (f (l.drop (4*n))) (f (l.drop (5*n))) (f (l.drop (6*n))) (f (l.drop (7*n)))
def chunk1(l:List SV):N8 (Option SV):=ch0 List.head? 1 l
def chunk2(l:List SV):N8 (N8 (Option SV)):=ch0 chunk1 8 l
def ofL(l:List SV):Env:=ch0 chunk2 64 l
noncomputable def rangeF2 (st : StF) (o : Option (SV × TS)) : Option (X × StF) := match o with
  | some (_, s') => (match s'.S[st.s.S.length]? with
        | some (.loop env ps as bd ls pend) => if ls = .busy then none else
          some (pend.getD .nrm, ⟨st.env, ⟨s'.S.set st.s.S.length .dead, s'.q⟩⟩)
        | _ => none)
  | none => none
noncomputable def rangeF(r:RecF)(f:Option SV)(ps:Array Tmp)(assign body:Code)(st:StF):Option (X×StF):=match f with
 |some (.fn g a b)=>rangeF2 st (r.call g (a++[.yld st.s.S.length]++b) ⟨st.s.S++[.loop (toL st.env) ps.toList assign body .ready none],st.s.q⟩)
 |_=>none
def d_skip(cfg:Cfg)(r:RecF)(st:StF):Option (X×StF):=some (.nrm,st)
noncomputable def d_region(ops:Array Oper)(draw:Bool)(cfg:Cfg)(r:RecF)(st:StF):Option (X×StF):=regF cfg r ops.toList draw st
noncomputable def d_seq(a b:Code)(cfg:Cfg)(r:RecF)(st:StF):Option (X×StF):=seqF r b (r.den a st)
noncomputable def d_cond(x:Operand)(a b:Code)(cfg:Cfg)(r:RecF)(st:StF):Option (X×StF):=condF r (evalF st.env x) a b st
noncomputable def d_block(id:Nat)(a:Code)(cfg:Cfg)(r:RecF)(st:StF):Option (X×StF):=blockF id (r.den a st)
noncomputable def d_loop(a:Code)(cfg:Cfg)(r:RecF)(st:StF):Option (X×StF):=seqF r (.loop a) (r.den a st)
def d_exit(id:Nat)(cfg:Cfg)(r:RecF)(st:StF):Option (X×StF):=some (.exit id,st)
def d_ret(cfg:Cfg)(r:RecF)(st:StF):Option (X×StF):=some (.ret,st)
noncomputable def d_range(f:Operand)(ps:Array Tmp)(assign body:Code)(cfg:Cfg)(r:RecF)(st:StF):Option (X×StF):=rangeF r (evalF st.env f) ps assign body st
def d_none(cfg:Cfg)(r:RecF)(st:StF):Option (X×StF):=none
noncomputable def denF(c:Code):Cfg→RecF→StF→Option (X×StF):=match c with
 |.skip=>d_skip
 |.region _ ops draw=>d_region ops draw
 |.seq a b=>d_seq a b
 |.cond x a b=>d_cond x a b
 |.block id a=>d_block id a
 |.loop a=>d_loop a
 |.exit id=>d_exit id
 |.ret=>d_ret
 |.rangeFunc f ps assign body=>d_range f ps assign body
 |_=>d_none
noncomputable def resF(cfg:Cfg)(env:Env)(S:Zt)(l:List ResultVar):Option (List SV):=
 List.rec (some []) (fun x _ ih=>ResultVar.casesOn x (fun t=>bd (nthF env t) fun v=>bd ih fun vs=>some (v::vs))
  (fun t ty=>bd (cfg.ty ty) fun i=>bd (nthF env t) fun p=>bd (loadF i S p) fun v=>bd ih fun vs=>some (v::vs))) l
def packF(vs:List SV):SV:=match vs with
 |[v]=>v
 |vs=>.tup vs
noncomputable def body3F(cfg:Cfg)(hr:Bool)(rs:List ResultVar)(st:StF):Option (SV×TS):=
 cond (hr&&!noLoops st.s.S) none (bd (resF cfg st.env st.s.S rs) fun vs=>some (packF vs,st.s))
noncomputable def body2F(cfg:Cfg)(hr:Bool)(rs:List ResultVar)(o:Option (X×StF)):Option (SV×TS):=match o with
 |some (.exit _,_)=>none
 |some (_,st)=>body3F cfg hr rs st
 |none=>none
noncomputable def body1F(cfg:Cfg)(r:RecF)(fn:Func)(args:List SV)(s:TS):Option (SV×TS):=match fn.body with
  |some c=>cond (Nat.ble fn.ntmps 512) (cond (Nat.ble args.length fn.ntmps) (body2F cfg (hasRange c) fn.results.toList (r.den c ⟨ofL (args++List.replicate (fn.ntmps-args.length) undefS),s⟩)) none) none
  |none=>none
noncomputable def bodyF(cfg:Cfg)(r:RecF)(f:FuncId)(args:List SV)(s:TS):Option (SV×TS):=match cfg.fns f with
 |some fn=>body1F cfg r fn args s
 |none=>none
def leafF(v:SV):Bool:=match v with
 |.int ..|.bool _|.str _|.nilp|.nilf|.nili|.vsl ..|.vptr _=>true
 |_=>false
noncomputable def leavesF(l:List SV):Bool:=List.rec true (fun v _ ih=>cond (leafF v) ih false) l
noncomputable def frz1(S:Zt)(v:SV):Option SV:=cond (leafF v) (some v) (frz S dS v)
noncomputable def pcallF(cfg:Cfg)(r:RecF)(f:FuncId)(args:List SV)(q:Q):Option (SV×Q):=match cfg.orc f args with
  |some v=>some (v,q)
  |none=>bd (r.body f args ⟨[],q⟩) fun p=>bd (frz1 p.2.S p.1) fun v=>some (v,p.2.q)
def freshR(v:SV)(S:Zt):Option (SV ⊕ (List SV×Nat×Nat×Nat×Option Nat)):=match v with
  |.osl id sz off len cap=>(match S[id]? with
   |some (.cells es true)=>if es.all pureS then some (.inr (es,sz,off,len,cap))else none
   |_=>none)
  |v=>if pureS v then some (.inl v)else none
noncomputable def fcallF(r:RecF)(f:FuncId)(args:List SV)(q:Q):Option ((SV ⊕ (List SV×Nat×Nat×Nat×Option Nat))×Q):=
 bd (r.body f args ⟨[],q⟩) fun p=>bd (freshR p.1 p.2.S) fun v=>some (v,p.2.q)
noncomputable def pureF(r:RecF)(f:FuncId)(args':List SV)(S':Zt)(q:Q):Option (SV×TS):=bd (r.pcall f args' q) fun p=>some (p.1,⟨S',p.2⟩)
noncomputable def freshF (r : RecF) (f : FuncId) (args' : List SV) (S' : Zt) (q : Q) : Option (SV × TS) := bd (r.fcall f args' q) fun x => match x.1 with
      | .inl v => some (v, ⟨S', x.2⟩)
      | .inr (es, sz, off, len, cap) => backF x.2 (newF1 S' es (.osl S'.length sz off len cap))
noncomputable def callF(cfg:Cfg)(r:RecF)(f:FuncId)(args:List SV)(s:TS):Option (SV×TS):=
  match cfg.mode f with
  |.inpl=>r.body f args s
  |.pure=>cond (leavesF args) (pureF r f args s.S s.q) (bd (args.mapM (frz s.S dS)) fun args'=>pureF r f args' (sealS s.S (args.flatMap (refs s.S dS))) s.q)
  |.fresh=>cond (leavesF args) (freshF r f args s.S s.q) (bd (args.mapM (frz s.S dS)) fun args'=>freshF r f args' (sealS s.S (args.flatMap (refs s.S dS))) s.q)
def round3F (o : Option (X × StF)) (l : Nat) : Option (SV × TS) := match o with
  | some (e, st) => (match st.s.S[l]? with
          | some (.loop env ps as bd .busy none) => (match e with
            | .nrm => some (.bool true, ⟨st.s.S.set l (.loop env ps as bd .ready none), st.s.q⟩)
            | e => some (.bool false, ⟨st.s.S.set l (.loop env ps as bd .done (some e)), st.s.q⟩))
          | _ => none)
  | none => none
def round2F(r:RecF)(body:Code)(o:Option (X×StF))(l:Nat):Option (SV×TS):=match o with
 |some (.nrm,st)=>(match st.s.S[l]? with
  |some (.loop env ps as bd .ready none)=>round3F (r.den body ⟨st.env,⟨st.s.S.set l (.loop env ps as bd .busy none),st.s.q⟩⟩) l
  |_=>none)
 |_=>none
def rndF(r:RecF)(l:Nat)(args:List SV)(s:TS):Option (SV×TS):=match s.S[l]? with
  |some (.loop env ps assign body .ready none)=>
   if args.length=ps.length∧roundOk assign=true∧roundOk body=true∧env.length≤512 then
    round2F r body (r.den assign ⟨ofL ((ps.zip args).foldl (fun e (t,a)=>e.set t a) env),s⟩) l
   else none
  |_=>none
def botF:RecF:=⟨fun _ _=>none,fun _ _ _=>none,fun _ _ _=>none,fun _ _ _=>none,fun _ _ _=>none,fun _ _ _=>none⟩
noncomputable def recF(cfg:Cfg)(n:Nat):RecF:=Nat.rec botF (fun _ r=>⟨fun c=>denF c cfg r,bodyF cfg r,pcallF cfg r,fcallF r,callF cfg r,rndF r⟩) n
noncomputable def pureCallF(cfg:Cfg)(n:Nat)(f:FuncId)(args:List SV)(t:Tape):Option (SV×Q):=(recF cfg n).pcall f args (t,[])
end Go.Sh
namespace Go.Sh
deriving instance DecidableEq for D8
noncomputable def N8.put{α:Type}(n:N8 α)(d:D8)(v:α):N8 α:=N8.setK n d v id
theorem N8.setK_eq{α β:Type}(n:N8 α)(d:D8)(v:α)(k:N8 α→β):N8.setK n d v k=k (n.put d v):=by cases n;cases d<;>rfl
theorem N8.get_put{α:Type}(n:N8 α)(d d':D8)(v:α):(n.put d v).get d'=if d=d' then v else n.get d':=by cases n;cases d<;>cases d'<;>rfl
def D8.val:D8→Nat
 |.d0=>0|.d1=>1|.d2=>2|.d3=>3|.d4=>4|.d5=>5|.d6=>6|.d7=>7
theorem dig_val{n:Nat}(h:n<8):(dig n).val=n:=by
 match n,h with
 |0,_=>rfl
 |1,_=>rfl
 |2,_=>rfl
 |3,_=>rfl
 |4,_=>rfl
 |5,_=>rfl
 |6,_=>rfl
 |7,_=>rfl
 |n+8,h=>omega
theorem dig_inj{m n:Nat}(hm:m<8)(hn:n<8)(h:dig m=dig n):m=n:=by rw[←dig_val hm,←dig_val hn,h]
structure EnvR(e:Env)(l:List SV):Prop where
 len:l.length≤512
 nth:∀t,nthF e t=l[t]?
theorem pathOf_lt{t:Nat}(h:t<512):pathOf t=.mk (dig (t/64)) (dig (t/8%8)) (dig (t%8)):=by
 unfold pathOf
 have:Nat.blt t 512=true:=by rw[Nat.blt_eq];exact h
 rw[this];rfl
theorem pathOf_ge{t:Nat}(h:512≤t):pathOf t=.bad:=by
 unfold pathOf
 have:Nat.blt t 512=false:=by
  cases hb:Nat.blt t 512 with
  |false=>rfl
  |true=>rw[Nat.blt_eq]at hb;omega
 rw[this];rfl
theorem put_ok{e:Env}{l:List SV}(h:EnvR e l)(dst:Option Nat)(v:SV):∃e',(∀{α:Type} (k:Env→α),putF e dst v k=k e')∧EnvR e' (putS l dst v):=by
 cases dst with
 |none=>exact⟨e,fun k=>rfl,h⟩
 |some d=>
  by_cases hd:d<512
  ·have hp:=pathOf_lt hd
   have hslot:((e.get (dig (d/64))).get (dig (d/8%8))).get (dig (d%8))=l[d]?:=by
    rw[←h.nth d];unfold nthF;rw[hp];rfl
   cases hl:l[d]? with
   |none=>
    refine⟨e,fun k=>?_,?_⟩
    ·unfold putF;simp only[];rw[hp]
     show setP3 e _ _ _ v k _ _=k e
     unfold setP3;rw[hslot,hl]
    ·rw[List.getElem?_eq_none_iff]at hl
     show EnvR e (l.set d v)
     rw[List.set_eq_of_length_le hl];exact h
   |some u=>
    have hlt:d<l.length:=(List.getElem?_eq_some_iff.1 hl).1
    refine⟨e.put (dig (d/64)) ((e.get (dig (d/64))).put (dig (d/8%8)) (((e.get (dig (d/64))).get (dig (d/8%8))).put (dig (d%8)) (some v))),fun k=>?_,?_,fun t=>?_⟩
    ·unfold putF;simp only[];rw[hp]
     show setP3 e _ _ _ v k _ _=_
     unfold setP3;rw[hslot,hl]
     simp only[N8.setK_eq]
    ·show(l.set d v).length≤512
     rw[List.length_set];exact h.len
    ·show _=(l.set d v)[t]?
     rw[List.getElem?_set]
     by_cases ht:t<512
     ·have hn:=h.nth t
      unfold nthF at hn ⊢
      rw[pathOf_lt ht]at hn ⊢
      simp only[nthP]at hn ⊢
      rw[N8.get_put]
      by_cases h1:dig (d/64)=dig (t/64)
      ·rw[if_pos h1,N8.get_put]
       by_cases h2:dig (d/8%8)=dig (t/8%8)
       ·rw[if_pos h2,N8.get_put]
        by_cases h3:dig (d%8)=dig (t%8)
        ·have e1:=dig_inj (by omega) (by omega) h1
         have e2:=dig_inj (by omega) (by omega) h2
         have e3:=dig_inj (by omega) (by omega) h3
         have:d=t:=by omega
         subst this
         rw[if_pos h3,if_pos rfl,if_pos hlt]
        ·have hne:d≠t:=fun e=>h3 (by rw[e])
         rw[if_neg h3,if_neg hne,←hn,h1,h2]
       ·have hne:d≠t:=fun e=>h2 (by rw[e])
        rw[if_neg h2,if_neg hne,←hn,h1]
      ·have hne:d≠t:=fun e=>h1 (by rw[e])
       rw[if_neg h1,if_neg hne,←hn]
     ·have hne:d≠t:=fun e=>by omega
      rw[if_neg hne]
      have:=h.len
      unfold nthF
      rw[pathOf_ge (by omega),List.getElem?_eq_none (by omega)];rfl
  ·refine⟨e,fun k=>?_,?_⟩
   ·unfold putF;simp only[];rw[pathOf_ge (by omega)];rfl
   ·show EnvR e (l.set d v)
    rw[List.set_eq_of_length_le (by have:=h.len;omega)];exact h
theorem ch0_get{α:Type}(f:List SV→α)(n:Nat)(l:List SV)(d:D8):(ch0 f n l).get d=f (l.drop (d.val*n)):=by
 cases d<;>simp[ch0,N8.get,D8.val]
theorem ofL_ok{l:List SV}(h:l.length≤512):EnvR (ofL l) l:=by
 refine⟨h,fun t=>?_⟩
 unfold nthF
 by_cases ht:t<512
 ·rw[pathOf_lt ht]
  simp only[nthP,ofL,chunk2,chunk1,ch0_get]
  rw[dig_val (by omega),dig_val (by omega),dig_val (by omega),List.drop_drop,List.drop_drop,List.head?_drop]
  congr 1
  omega
 ·rw[pathOf_ge (by omega),List.getElem?_eq_none (by omega)];rfl
theorem toL_ok{e:Env}{l:List SV}(h:EnvR e l):toL e=l:=by
 unfold toL
 have key:∀n,(List.range n).filterMap (nthF e)=l.take n:=by
  intro n
  induction n with
  |zero=>simp
  |succ n ih=>
   rw[List.range_succ,List.filterMap_append,ih,List.take_add_one]
   congr 1
   simp only[List.filterMap_cons,List.filterMap_nil,h.nth]
   cases l[n]?<;>rfl
 rw[key,List.take_of_length_le h.len]
theorem evalF_ok{e:Env}{l:List SV}(h:EnvR e l):evalF e=evalS l:=by
 funext x
 cases x with
 |tmp t=>exact h.nth t
 |const v=>rfl
 |func f=>rfl
 |global g=>rfl
theorem bd_eq{α β:Type}(o:Option α)(f:α→Option β):bd o f=o.bind f:=by cases o<;>rfl
theorem evalsF_eq(env:List SV):∀l,evalsF (evalS env) l=evalsS env l
 |[]=>rfl
 |x::r=>by
  have ih:=evalsF_eq env r
  simp only[evalsF]at ih
  simp only[evalsF,evalsS,ih]
  cases evalS env x with
  |none=>rfl
  |some v=>cases evalsS env r<;>rfl
theorem partsF_eq (env : List SV) : ∀ l, partsF (evalS env) l = partsS env l
  | [] => rfl
  | (i, x) :: r => by
    have ih := partsF_eq env r
    simp only [partsF] at ih
    simp only [partsF, partsS, ih]
    cases evalS env x with
    | none => rfl
    | some v => cases partsS env r <;> rfl
theorem eqI_eq(a b:Int):eqI a b=(a==b):=by
 cases a<;>cases b<;>simp[eqI]<;>(try rfl)
 ·rename_i m n
  cases h:Nat.beq m n with
  |true=>have:=Nat.eq_of_beq_eq_true h;subst this;simp
  |false=>
   have:=Nat.ne_of_beq_eq_false h
   simp only[Bool.false_eq]
   exact beq_eq_false_iff_ne.2 (fun e=>this (by injection e))
 ·rename_i m n
  cases h:Nat.beq m n with
  |true=>have:=Nat.eq_of_beq_eq_true h;subst this;simp
  |false=>
   have:=Nat.ne_of_beq_eq_false h
   simp only[Bool.false_eq]
   exact beq_eq_false_iff_ne.2 (fun e=>this (by injection e))
theorem ltI_eq(a b:Int):ltI a b=decide (a<b):=by
 have blt:∀m n,Nat.blt m n=decide (m<n):=fun m n=>by
  cases h:Nat.blt m n with
  |true=>rw[Nat.blt_eq]at h;simp[h]
  |false=>
   have:¬m<n:=fun h2=>by rw[←Nat.blt_eq]at h2;rw[h]at h2;cases h2
   simp[this]
 cases a with
 |ofNat m=>
  cases b with
  |ofNat n=>simp only[ltI,blt];congr 1;simp
  |negSucc n=>simp only[ltI];symm;simp;omega
 |negSucc m=>
  cases b with
  |ofNat n=>simp only[ltI];symm;simp;omega
  |negSucc n=>simp only[ltI,blt];congr 1;simp;omega
theorem wrapF_eq(k:IntKind)(n:Int):wrapF k n=wrS k n:=by
 have blt:∀m n,Nat.blt m n=decide (m<n):=fun m n=>by
  cases h:Nat.blt m n with
  |true=>rw[Nat.blt_eq]at h;simp[h]
  |false=>
   have:¬m<n:=fun h2=>by rw[←Nat.blt_eq]at h2;rw[h]at h2;cases h2
   simp[this]
 cases k<;>try rfl
 ·simp only[wrapF,i64F]
  cases n with
  |ofNat m=>
   simp only[blt,wrS]
   by_cases h:m<9223372036854775808
   ·rw[decide_eq_true h,cond_true,if_pos (by simp;omega)]
   ·rw[decide_eq_false h,cond_false]
  |negSucc m=>
   simp only[blt,wrS]
   by_cases h:m<9223372036854775808
   ·rw[decide_eq_true h,cond_true,if_pos (by omega)]
   ·rw[decide_eq_false h,cond_false]
 ·simp only[wrapF,modI]
  cases n with
  |ofNat m=>
   simp only[blt,wrS]
   by_cases h:m<4294967296
   ·rw[decide_eq_true h,cond_true,if_pos (by simp;omega)]
   ·rw[decide_eq_false h,cond_false,if_neg (by simp;omega)];rfl
  |negSucc m=>rfl
 ·simp only[wrapF,modI]
  cases n with
  |ofNat m=>
   simp only[blt,wrS]
   by_cases h:m<18446744073709551616
   ·rw[decide_eq_true h,cond_true,if_pos (by simp;omega)]
   ·rw[decide_eq_false h,cond_false,if_neg (by simp;omega)];rfl
  |negSucc m=>rfl
end Go.Sh
namespace Go.Sh
def OkQ(q:Q):Prop:=∀p∈q.2,p.1=p.2
theorem withF_ok{s s':TS}{o:Option SV}{v:SV}(h:withF s o=some (v,s')):o=some v∧s'=s:=by
 cases o with
 |none=>cases h
 |some u=>simp only[withF]at h;cases h;exact⟨rfl,rfl⟩
theorem backF_ok{q:Q}{s':TS}{o:Option (SV×Zt)}{v:SV}(h:backF q o=some (v,s')):o=some (v,s'.S)∧s'.q=q:=by
 cases o with
 |none=>cases h
 |some u=>obtain⟨a,b⟩:=u;simp only[backF]at h;cases h;exact⟨rfl,rfl⟩
theorem qF_ok{S:Zt}{s':TS}{o:Option (SV×Q)}{v:SV}(h:qF S o=some (v,s')):o=some (v,s'.q)∧s'.S=S:=by
 cases o with
 |none=>cases h
 |some u=>obtain⟨a,b⟩:=u;simp only[qF]at h;cases h;exact⟨rfl,rfl⟩
theorem someQ_ok{q q':Q}{o:Option SV}{v:SV}(h:someQ q o=some (v,q')):o=some v∧q'=q:=by
 cases o with
 |none=>cases h
 |some u=>simp only[someQ]at h;cases h;exact⟨rfl,rfl⟩
theorem askF_ok{q q':Q}{b:Bool}{v:SV}(h:askF q b=some (v,q'))(hq:OkQ q'):OkQ q∧v=.bool b:=by
 unfold askF at h
 split at h
 ·cases h;exact⟨hq,rfl⟩
 ·cases h;exact⟨fun p hp=>hq p (by simp[hp]),rfl⟩
 ·cases h
 ·rename_i a r hr
  cases h
  have:=hq (b,a) (by simp)
  simp only[]at this
  exact⟨fun p hp=>hq p (by simp[hp]),by rw[this]⟩
theorem nzF_ok{q q':Q}{y:Int}(h:nzF q y=some q')(hq:OkQ q'):OkQ q∧y≠0:=by
 unfold nzF at h
 split at h
 ·rw[eqI_eq]at h
  cases hy:(y==0)with
  |true=>rw[hy]at h;cases h
  |false=>
   rw[hy]at h;cases h
   exact⟨hq,by simpa using hy⟩
 ·cases h
  have:=hq (false,eqI y 0) (by simp)
  simp only[]at this
  rw[eqI_eq]at this
  exact⟨fun p hp=>hq p (by simp[hp]),by simpa using this.symm⟩
theorem arithF_ok{op:BinOp}{k:IntKind}{x y:Int}{q q':Q}{v:SV}(h:arithF op k x y q=some (v,q'))(hq:OkQ q'):OkQ q∧arithS op k x y=some v:=by
 cases op<;>simp only[arithF]at h
 case add=>cases h;exact⟨hq,by simp only[arithS,wrapF_eq]⟩
 case sub=>cases h;exact⟨hq,by simp only[arithS,wrapF_eq]⟩
 case mul=>cases h;exact⟨hq,by simp only[arithS,wrapF_eq]⟩
 case quo=>
  cases hn:nzF q y with
  |none=>rw[hn]at h;cases h
  |some q1=>
   rw[hn]at h;cases h
   obtain⟨h1,h2⟩:=nzF_ok hn hq
   exact⟨h1,by simp only[arithS,wrapF_eq];rw[if_neg h2]⟩
 case rem=>
  cases hn:nzF q y with
  |none=>rw[hn]at h;cases h
  |some q1=>
   rw[hn]at h;cases h
   obtain⟨h1,h2⟩:=nzF_ok hn hq
   exact⟨h1,by simp only[arithS];rw[if_neg h2]⟩
 case eql=>obtain⟨h1,rfl⟩:=askF_ok h hq;exact⟨h1,by simp only[arithS,cmpS,eqI_eq]⟩
 case neq=>obtain⟨h1,rfl⟩:=askF_ok h hq;exact⟨h1,by simp only[arithS,cmpS,eqI_eq];rfl⟩
 case lss=>obtain⟨h1,rfl⟩:=askF_ok h hq;exact⟨h1,by simp only[arithS,cmpS,ltI_eq]⟩
 case leq=>
  obtain⟨h1,rfl⟩:=askF_ok h hq
  refine⟨h1,?_⟩
  simp only[arithS,cmpS,ltI_eq]
  congr 2
  by_cases hxy:x≤y
  ·simp[hxy,Int.not_lt.2 hxy]
  ·simp[hxy,Int.not_le.1 hxy]
 case gtr=>obtain⟨h1,rfl⟩:=askF_ok h hq;exact⟨h1,by simp only[arithS,cmpS,ltI_eq,gt_iff_lt]⟩
 case geq=>
  obtain⟨h1,rfl⟩:=askF_ok h hq
  refine⟨h1,?_⟩
  simp only[arithS,cmpS,ltI_eq]
  congr 2
  by_cases hxy:y≤x
  ·simp[hxy,Int.not_lt.2 hxy]
  ·simp[hxy,Int.not_le.1 hxy]
 all_goals (obtain⟨h1,rfl⟩:=someQ_ok h;exact⟨hq,h1⟩)
theorem bin1F_ok{op:BinOp}{cfg:Cfg}{t:TypeId}{a b:SV}{q q':Q}{v:SV}(h:bin1F op cfg t a b q=some (v,q'))(hq:OkQ q'):OkQ q∧bnS op (cfg.ty t) a b=some v:=by
 unfold bin1F at h
 split at h
 ·split at h
  ·rename_i k m _ k' n
   unfold int2F at h
   simp only[bnS]
   cases hs:isShift op with
   |true=>
    rw[hs]at h
    obtain⟨h1,rfl⟩:=someQ_ok h
    exact⟨hq,by simpa using h1⟩
   |false=>
    rw[hs]at h
    simp only[cond_false]at h
    unfold beqK at h
    by_cases hk:k=k'
    ·rw[if_pos hk,cond_true]at h
     simp only[Bool.false_eq_true,if_false,if_pos hk]
     exact arithF_ok h hq
    ·rw[if_neg hk,cond_false]at h;cases h
  ·obtain⟨h1,rfl⟩:=someQ_ok h;exact⟨hq,h1⟩
 ·obtain⟨h1,rfl⟩:=someQ_ok h;exact⟨hq,h1⟩
theorem natF_eq(v:SV):natF v=natS v:=by
 cases v<;>try rfl
 rename_i k n
 cases n with
 |ofNat m=>simp only[natF,natS];rw[if_pos (by simp)];rfl
 |negSucc m=>simp only[natF,natS];rw[if_neg (by omega)]
theorem getL_eq{α:Type}:∀(l:List α) (n:Nat),getL l n=l[n]?
 |[],n=>by simp[getL]
 |x::r,0=>rfl
 |x::r,n+1=>by
  have:=getL_eq r n
  simp only[getL]at this ⊢
  simpa using this
theorem setLK_eq{α β:Type}:∀(l:List α) (n:Nat) (v:α) (k:List α→β),setLK l n v k=k (l.set n v)
 |[],n,v,k=>by simp[setLK]
 |x::r,0,v,k=>rfl
 |x::r,n+1,v,k=>by
  have:=setLK_eq r n v (fun r'=>k (x::r'))
  simp only[setLK]at this ⊢
  simpa using this
theorem snocK_eq{α β:Type}:∀(l:List α) (v:α) (k:List α→β),snocK l v k=k (l++[v])
 |[],v,k=>rfl
 |x::r,v,k=>by
  have:=snocK_eq r v (fun r'=>k (x::r'))
  simp only[snocK]at this ⊢
  simpa using this
theorem beq_ite{α:Type}(m n:Nat)(a b:α):cond (Nat.beq m n) a b=if m=n then a else b:=by
 by_cases h:m=n
 ·subst h;simp
 ·rw[if_neg h]
  have:Nat.beq m n=false:=by
   cases hb:Nat.beq m n with
   |false=>rfl
   |true=>exact absurd (Nat.eq_of_beq_eq_true hb) h
  rw[this];rfl
theorem blt_ite{α:Type}(m n:Nat)(a b:α):cond (Nat.blt m n) a b=if m<n then a else b:=by
 by_cases h:m<n
 ·rw[if_pos h]
  have:Nat.blt m n=true:=by rw[Nat.blt_eq];exact h
  rw[this];rfl
 ·rw[if_neg h]
  have:Nat.blt m n=false:=by
   cases hb:Nat.blt m n with
   |false=>rfl
   |true=>rw[Nat.blt_eq]at hb;exact absurd hb h
  rw[this];rfl
theorem cond_ite{α:Type}(b:Bool)(x y:α):cond b x y=if b=true then x else y:=by cases b<;>rfl
theorem sIdx_ok{cfg:Cfg}{i:TyI}{x ix v:SV}(h:iAddr cfg i x ix=some v):ixS cfg i x ix=some v:=by
 unfold iAddr at h
 split at h
 ·rename_i e hk
  simp only[bd_eq,natF_eq,beq_ite]at h
  unfold ixS
  simp only[hk]
  rw[Option.bind_eq_some_iff]at h ⊢
  obtain⟨n,hn,h⟩:=h
  refine⟨n,hn,?_⟩
  rw[Option.bind_eq_some_iff]at h ⊢
  obtain⟨j,hj,h⟩:=h
  refine⟨j,hj,?_⟩
  split at h
  ·cases h
  ·rename_i hz
   rw[if_neg hz]
   unfold sIdx at h
   split at h
   ·rename_i es c
    simp only[vIdx,bd_eq,getL_eq,beq_ite]at h
    exact h
   ·rename_i id z off len cp
    simp only[beq_ite,blt_ite]at h
    split at h
    ·split at h
     ·rename_i h1 h2
      show(if n<len∧z=j.size then some (SV.optr id (off+n) 0)else none)=some v
      rw[if_pos ⟨h1,h2⟩];exact h
     ·cases h
    ·cases h
   ·cases h
 ·exact h
theorem partF_eq(i:TyI)(cs:List SV)(off:Nat):partF i cs off=partS i cs off:=by
 unfold partF partS
 simp only[aggF,beq_ite,bd_eq,getL_eq]
 simp only[cond_ite]
theorem loadF_eq(i:TyI)(S:Zt)(a:SV):loadF i S a=ldS i S a:=by
 unfold loadF ldS
 cases a<;>try rfl
 ·simp only[partF_eq]
 ·rename_i id j off
  simp only[bd_eq,rowF,getL_eq,partF_eq]
  cases S[id]? with
  |none=>rfl
  |some r=>cases r<;>rfl
theorem storeF_ok{i:TyI}{S S':Zt}{a v u:SV}(h:storeF i S a v=some (u,S')):stS i S a v=some S'∧u=undefS:=by
 unfold storeF at h
 split at h
 ·rename_i id j off
  simp only[bd_eq,liveF,getL_eq]at h
  rw[Option.bind_eq_some_iff]at h
  obtain⟨es,he,h⟩:=h
  rw[Option.bind_eq_some_iff]at he
  obtain⟨r,hr,he⟩:=he
  unfold stS
  simp only[hr]
  cases r with
  |cells es0 lv=>
   simp only[cond_ite]at he
   split at he
   ·rename_i hlv
    cases he
    subst hlv
    simp only[]
    simp only[beq_ite]at h
    simp only[cond_ite]at h
    split at h
    ·rename_i h1
     split at h
     ·rename_i h2
      rw[if_pos ⟨h1,h2⟩]
      rw[Option.bind_eq_some_iff]at h
      obtain⟨e,hee,h⟩:=h
      rw[Option.bind_eq_some_iff]at h
      obtain⟨e',hp,h⟩:=h
      simp only[setLK_eq]at h
      cases h
      exact⟨by simp[hee,hp],rfl⟩
     ·cases h
    ·cases h
   ·cases he
  |loop _ _ _ _ _ _=>cases he
  |dead=>cases he
 ·cases h
theorem newF1_ok{S S':Zt}{es:List SV}{v u:SV}(h:newF1 S es v=some (u,S')):u=v∧S'=S++[.cells es true]:=by
 simp only[newF1,snocK_eq]at h
 cases h;exact⟨rfl,rfl⟩
end Go.Sh
namespace Go.Sh
section
variable {cfg:Cfg} {r:RecF} {call:CallT} {rnd:Nat→List SV→Zt→Option (SV×Zt)}
def CallR(r:RecF)(call:CallT):Prop:=∀g args s v s',r.call g args s=some (v,s')→OkQ s'.q→OkQ s.q∧call g args s.S=some (v,s'.S)
def RndR(r:RecF)(rnd:Nat→List SV→Zt→Option (SV×Zt)):Prop:=∀l args s v s',r.rnd l args s=some (v,s')→OkQ s'.q→OkQ s.q∧rnd l args s.S=some (v,s'.S)
theorem timeless_ok{env:List SV}{s s':TS}{op:Op}{o:Option SV}{v:SV}(h:withF s o=some (v,s'))(hq:OkQ s'.q)(hop:opS cfg call rnd env s.S op=(opT cfg env op).map fun v=>(v,s.S))(ho:opT cfg env op=o):OkQ s.q∧opS cfg call rnd env s.S op=some (v,s'.S):=by
 obtain⟨h1,rfl⟩:=withF_ok h
 exact⟨hq,by rw[hop,ho,h1];rfl⟩
theorem opF_ok(hc:CallR r call)(hr:RndR r rnd){env:List SV}{s s':TS}{op:Op}{v:SV}(h:opF op cfg r (evalS env) s=some (v,s'))(hq:OkQ s'.q):OkQ s.q∧opS cfg call rnd env s.S op=some (v,s'.S):=by
 cases op<;>simp only[opF]at h
 case move x=>exact timeless_ok h hq rfl rfl
 case assign x=>exact timeless_ok h hq rfl rfl
 case pick c a b=>
  refine timeless_ok h hq rfl ?_
  simp only[opT]
  unfold pickF
  split
  ·rename_i t ht
   rw[ht]
   simp only[bd_eq,cond_ite]
   cases evalS env a with
   |none=>rfl
   |some va=>cases evalS env b<;>rfl
  ·rename_i h1
   split
   ·rename_i t ht;exact absurd ht (h1 t)
   ·rfl
 case binOp op t x y u=>
  simp only[o_binOp,bd_eq,Option.bind_eq_some_iff]at h
  obtain⟨a,ha,b,hb,h⟩:=h
  obtain⟨h1,h2⟩:=qF_ok h
  obtain⟨h3,h4⟩:=bin1F_ok h1 hq
  exact⟨h3,by simp only[opS,opT,ha,hb,Option.bind_some,h4,Option.map_some,h2]⟩
 case unOp op t x=>exact timeless_ok h hq rfl (by simp only[opT,bd_eq])
 case convert c d x=>
  refine timeless_ok h hq rfl ?_
  simp only[opT,bd_eq]
  cases cfg.ty c with
  |none=>rfl
  |some ci=>
   cases cfg.ty d with
   |none=>rfl
   |some i=>
    simp only[Option.bind_some]
    cases hx:evalS env x with
    |none=>simp only[Option.bind_none];split<;>first|rfl|(rename_i h1 h2 h3;cases h3)|skip
    |some a=>
     simp only[Option.bind_some,convF]
     split
     ·rename_i h1 h2 h3
      cases h3
      simp only[h1,h2,wrapF_eq]
     ·rename_i h1
      split
      ·rename_i h2 h3
       exact(h1 _ _ _ _ h2 h3 rfl).elim
      ·rfl
 case build t ps=>exact timeless_ok h hq rfl (by simp only[opT,bd_eq,partsF_eq])
 case nilCheck x=>exact timeless_ok h hq rfl (by simp only[opT];rfl)
 case makeFunc fn first cap=>
  refine timeless_ok h hq rfl ?_
  cases fn with
  |func f=>
   simp only[opT,mkF,bd_eq,evalsF_eq]
   cases evalsS env first.toList with
   |none=>rfl
   |some a=>cases evalsS env cap.toList<;>rfl
  |_=>rfl
 case slice t x lo hi mx=>exact timeless_ok h hq rfl (by simp only[opT,sliceF,bd_eq,beq_ite];simp only[cond_ite])
 case fieldAddr t x f=>exact timeless_ok h hq rfl (by simp only[opT,bd_eq])
 case field t x f=>exact timeless_ok h hq rfl (by simp only[opT,bd_eq])
 case indexAddr t x ix=>
  simp only[o_indexAddr]at h
  obtain⟨h1,rfl⟩:=withF_ok h
  simp only[bd_eq,Option.bind_eq_some_iff]at h1
  obtain⟨i,hi,p,hp,n,hn,h1⟩:=h1
  exact⟨hq,by simp only[opS,opT,hi,hp,hn,Option.bind_some,sIdx_ok h1,Option.map_some]⟩
 case index t x ix=>exact timeless_ok h hq rfl (by simp only[opT,bd_eq])
 case extract x ix=>exact timeless_ok h hq rfl (by simp only[opT];rfl)
 case load t a=>
  simp only[o_load,bd_eq,Option.bind_eq_some_iff]at h
  obtain⟨i,hi,p,hp,h⟩:=h
  obtain⟨h1,rfl⟩:=withF_ok h
  rw[loadF_eq]at h1
  exact⟨hq,by simp only[opS,hi,hp,Option.bind_some,h1,Option.map_some]⟩
 case store t a x=>
  simp only[o_store,bd_eq,Option.bind_eq_some_iff]at h
  obtain⟨i,hi,p,hp,u,hu,h⟩:=h
  obtain⟨h1,h2⟩:=backF_ok h
  obtain⟨h3,rfl⟩:=storeF_ok h1
  rw[h2]at hq
  exact⟨hq,by simp only[opS,hi,hp,hu,Option.bind_some,h3,Option.map_some]⟩
 case alloc t=>
  simp only[o_alloc,bd_eq,Option.bind_eq_some_iff]at h
  obtain⟨i,hi,h⟩:=h
  obtain⟨h1,h2⟩:=backF_ok h
  rw[h2]at hq
  simp only[allocF,beq_ite]at h1
  split at h1
  ·cases h1
  ·rename_i hz
   obtain⟨rfl,h3⟩:=newF1_ok h1
   exact⟨hq,by simp only[opS,hi,Option.bind_some,if_neg hz,h3]⟩
 case box t x=>
  simp only[o_box,bd_eq,Option.bind_eq_some_iff]at h
  obtain⟨i,hi,u,hu,h⟩:=h
  obtain⟨h1,h2⟩:=backF_ok h
  rw[h2]at hq
  simp only[allocF,beq_ite]at h1
  split at h1
  ·cases h1
  ·rename_i hz
   obtain⟨rfl,h3⟩:=newF1_ok h1
   exact⟨hq,by simp only[opS,hi,hu,Option.bind_some,if_neg hz,h3]⟩
 case buildSlice t len ps=>
  obtain⟨h1,h2⟩:=backF_ok h
  rw[h2]at hq
  simp only[bsF,bd_eq,partsF_eq,beq_ite,blt_ite,Option.bind_eq_some_iff]at h1
  obtain⟨e,he,j,hj,h1⟩:=h1
  split at h1
  ·cases h1
  ·rename_i hz
   split at h1
   ·cases h1
   ·rename_i hl
    split at h1
    ·rename_i hn
     simp only[Option.bind_eq_some_iff]at h1
     obtain⟨vs,hvs,es,hes,h1⟩:=h1
     obtain⟨rfl,h3⟩:=newF1_ok h1
     refine⟨hq,?_⟩
     simp only[opS,he,hj,Option.bind_some]
     rw[if_neg (by simp only[not_or,Decidable.not_not];exact⟨hz,hl,hn⟩)]
     simp only[hvs,hes,Option.bind_some,Option.map_some,h3]
    ·cases h1
 case makeSlice t l c=>
  obtain⟨h1,h2⟩:=backF_ok h
  rw[h2]at hq
  have hnat:natF=natS:=funext natF_eq
  simp only[msF,bd_eq,hnat,beq_ite,blt_ite,Option.bind_eq_some_iff]at h1
  obtain⟨e,he,j,hj,l',⟨vl,hl,hl'⟩,c',⟨vc,hc0,hc'⟩,h1⟩:=h1
  split at h1
  ·cases h1
  ·rename_i k1
   split at h1
   ·cases h1
   ·rename_i k2
    split at h1
    ·cases h1
    ·rename_i k3
     split at h1
     ·cases h1
     ·rename_i k4
      split at h1
      ·rename_i k5
       obtain⟨rfl,h3⟩:=newF1_ok h1
       refine⟨hq,?_⟩
       simp only[opS,he,hj,hl,hl',hc0,hc',Option.bind_some]
       rw[if_neg (by simp only[not_or,Decidable.not_not];exact⟨k1,by omega,by omega,by omega,k5⟩),h3]
      ·cases h1
 case call c=>
  obtain⟨cl,cargs,ats⟩:=c
  cases cl with
  |invoke rv m=>simp only[o_call,callF0]at h;cases h
  |value f=>
   simp only[o_call,callF0,bd_eq,evalsF_eq,Option.bind_eq_some_iff]at h
   obtain⟨args,ha,fv,hf,h⟩:=h
   unfold calleeF at h
   split at h
   ·obtain⟨h1,h2⟩:=hc _ _ _ _ _ h hq
    exact⟨h1,by simp only[opS,ha,hf,Option.bind_some,h2]⟩
   ·obtain⟨h1,h2⟩:=hr _ _ _ _ _ h hq
    exact⟨h1,by simp only[opS,ha,hf,Option.bind_some,h2]⟩
   ·cases h
  |builtin b=>
   simp only[o_call,callF0,bd_eq,evalsF_eq,Option.bind_eq_some_iff]at h
   obtain⟨args,ha,h⟩:=h
   unfold builtF at h
   split at h
   ·obtain⟨h1,h2⟩:=backF_ok h
    rw[h2]at hq
    unfold appF at h1
    split at h1
    ·rename_i t u x y hts
     simp only[bd_eq,Option.bind_eq_some_iff]at h1
     obtain⟨e,he,e2,he2,j,hj,h1⟩:=h1
     simp only[beq_ite]at h1
     refine⟨hq,?_⟩
     simp only[opS,ha,Option.bind_some,hts,he,he2,hj]
     exact h1
    ·cases h1
   ·obtain⟨h1,h2⟩:=backF_ok h
    rw[h2]at hq
    unfold cpyF at h1
    split at h1
    ·rename_i t u x y hts
     simp only[bd_eq,Option.bind_eq_some_iff]at h1
     obtain⟨e,he,j,hj,h1⟩:=h1
     refine⟨hq,?_⟩
     simp only[opS,ha,Option.bind_some,hts,he,hj]
     exact h1
    ·cases h1
   ·refine timeless_ok h hq rfl ?_
    simp only[opT,ha,Option.bind_some]
    unfold lnF
    cases hts:ats.toList with
    |nil=>cases args<;>rfl
    |cons t ts=>
     cases args with
     |nil=>rfl
     |cons x rr=>simp only[bd_eq]
   ·refine timeless_ok h hq rfl ?_
    simp only[opT,ha,Option.bind_some]
    cases args<;>rfl
   ·refine timeless_ok h hq rfl ?_
    simp only[opT,ha,Option.bind_some]
    cases args<;>rfl
   ·cases h
 all_goals cases h
theorem quietF_eq(env:List SV)(op:Op):quietF cfg (evalS env) op=quietCall cfg env op:=by
 cases op<;>try rfl
 rename_i c
 obtain⟨cl,cargs,ats⟩:=c
 cases cl<;>rfl
theorem wantF_eq{e:Env}{l:List SV}(h:EnvR e l)(ops:List Oper){o:Oper}{g:Nat×Bool}(hg:o.guard=some g):wantF ops e g=wantedS ops l o:=by
 unfold wantF wantedS
 rw[hg]
 have hy:yieldF ops e g.1=yieldedS ops l g.1:=by
  unfold yieldF yieldedS
  simp only[bd_eq,getL_eq]
  have:nthF e=fun t=>l[t]?:=funext h.nth
  rw[this]
  rfl
 obtain⟨j,want⟩:=g
 simp only[hy]
 cases yieldedS ops l j with
 |none=>rfl
 |some b=>cases b<;>cases want<;>rfl
end
end Go.Sh
namespace Go.Sh
section
variable {cfg:Cfg} {r:RecF} {call:CallT} {rnd:Nat→List SV→Zt→Option (SV×Zt)}
theorem runF_ok(hc:CallR r call)(hr:RndR r rnd){all:List Oper}{draw:Bool}:∀(l:List Oper) (i:Nat) (e e':Env) (env:List SV) (s s':TS),runF cfg r all draw l i e s=some (e',s')→EnvR e env→
  ∃env',EnvR e' env'∧(OkQ s'.q→OkQ s.q∧runOps cfg call rnd all draw i l env s.S=some (env',s'.S)):=by
 intro l
 induction l with
 |nil=>
  intro i e e' env s s' h he
  simp only[runF]at h
  cases h
  exact⟨env,he,fun hq=>⟨hq,rfl⟩⟩
 |cons o rest ih=>
  intro i e e' env s s' h he
  have go:∀{k:Env→TS→Option (Env×TS)},k=runF cfg r all draw rest (i+1)→goF o.dst (opF o.op cfg r (evalS env) s) k e=some (e',s')→
    ∃env',EnvR e' env'∧(OkQ s'.q→OkQ s.q∧(opS cfg call rnd env s.S o.op).bind (fun (v,S')=>runOps cfg call rnd all draw (i+1) rest (putS env o.dst v) S')=some (env',s'.S)):=by
   intro k hk h
   cases hop:opF o.op cfg r (evalS env) s with
   |none=>rw[hop]at h;cases h
   |some p=>
    obtain⟨v,s1⟩:=p
    rw[hop]at h
    simp only[goF]at h
    obtain⟨e1,hput,he1⟩:=put_ok he o.dst v
    rw[hput,hk]at h
    obtain⟨env',he',hrun⟩:=ih (i+1) e1 e' _ s1 s' h he1
    refine⟨env',he',fun hq=>?_⟩
    obtain⟨hq1,hrun⟩:=hrun hq
    obtain⟨hq0,hopS⟩:=opF_ok hc hr hop hq1
    exact⟨hq0,by rw[hopS];exact hrun⟩
  have step:stepF cfg r all draw i o e s (runF cfg r all draw rest (i+1))=some (e',s')→
    ∃env',EnvR e' env'∧(OkQ s'.q→OkQ s.q∧(if(draw&&!quietCall cfg env o.op&&!lastOk all i)=true then none else(opS cfg call rnd env s.S o.op).bind (fun (v,S')=>runOps cfg call rnd all draw (i+1) rest (putS env o.dst v) S'))=some (env',s'.S)):=by
   intro h
   unfold stepF at h
   rw[evalF_ok he]at h
   cases draw with
   |false=>exact go rfl h
   |true=>
    simp only[cond_true]at h
    rw[quietF_eq]at h
    cases hb:(!quietCall cfg env o.op&&!lastOk all i)with
    |true=>rw[hb]at h;cases h
    |false=>
     rw[hb]at h
     rw[if_neg (by simp only[Bool.true_and];rw[hb];simp)]
     exact go rfl h
  have hrun:runF cfg r all draw (o::rest) i e s=Option.casesOn o.guard (stepF cfg r all draw i o e s (runF cfg r all draw rest (i+1)))
    (fun g=>cond (wantF all e g) (stepF cfg r all draw i o e s (runF cfg r all draw rest (i+1))) (putF e o.dst undefS (fun env'=>runF cfg r all draw rest (i+1) env' s))):=rfl
  rw[hrun]at h
  simp only[runOps]
  cases hg:o.guard with
  |none=>
   rw[hg]at h
   have hw:wantedS all env o=true:=by unfold wantedS;rw[hg]
   rw[if_pos hw]
   exact step h
  |some g=>
   rw[hg]at h
   simp only[]at h
   rw[wantF_eq he all hg]at h
   cases hw:wantedS all env o with
   |true=>
    rw[hw]at h
    rw[if_pos rfl]
    exact step h
   |false=>
    rw[hw,cond_false]at h
    rw[if_neg (by simp)]
    obtain⟨e1,hput,he1⟩:=put_ok he o.dst undefS
    rw[hput]at h
    exact ih (i+1) e1 e' _ s s' h he1
end
structure RecOk(cfg:Cfg)(r:RecF)(n:Nat):Prop where
 den:∀c st e st' l,r.den c st=some (e,st')→EnvR st.env l→∃l',EnvR st'.env l'∧(OkQ st'.s.q→OkQ st.s.q∧Sh.den cfg n c ⟨l,st.s.S⟩=some (e,⟨l',st'.s.S⟩))
 body:∀f args s v s',r.body f args s=some (v,s')→OkQ s'.q→OkQ s.q∧bodyS cfg n f args s.S=some (v,s'.S)
 pcall:∀f args q v q',r.pcall f args q=some (v,q')→OkQ q'→OkQ q∧pureCall cfg n f args=some v
 fcall:∀f args q v q',r.fcall f args q=some (v,q')→OkQ q'→OkQ q∧freshCall cfg n f args=some v
 call:CallR r (callS cfg n)
 rnd:RndR r (roundS cfg n)
theorem seqF_cases{r:RecF}{b:Code}{o:Option (X×StF)}{x:X×StF}(h:seqF r b o=some x):(∃st,o=some (.nrm,st)∧r.den b st=some x)∨(o=some x∧x.1≠.nrm):=by
 cases o with
 |none=>cases h
 |some p=>
  obtain⟨e,st⟩:=p
  cases e with
  |nrm=>exact .inl ⟨st,rfl,h⟩
  |ret=>cases h;exact .inr ⟨rfl,by simp⟩
  |exit id=>cases h;exact .inr ⟨rfl,by simp⟩
theorem resF_ok{cfg:Cfg}{e:Env}{env:List SV}(he:EnvR e env)(S:Zt):∀l,resF cfg e S l=resultS cfg env S l
 |[]=>rfl
 |.tmp t::rest=>by
  have h0:resF cfg e S (.tmp t::rest)=bd (nthF e t) fun v=>bd (resF cfg e S rest) fun vs=>some (v::vs):=rfl
  rw[h0,resF_ok he S rest]
  simp only[resultS,bd_eq,he.nth]
  cases env[t]? with
  |none=>rfl
  |some v=>cases resultS cfg env S rest<;>rfl
 |.cell t ty::rest=>by
  have h0:resF cfg e S (.cell t ty::rest)=bd (cfg.ty ty) fun i=>bd (nthF e t) fun p=>bd (loadF i S p) fun v=>bd (resF cfg e S rest) fun vs=>some (v::vs):=rfl
  rw[h0,resF_ok he S rest]
  simp only[resultS,bd_eq,he.nth,loadF_eq]
  cases cfg.ty ty with
  |none=>rfl
  |some i=>
   cases env[t]? with
   |none=>rfl
   |some p=>
    simp only[Option.bind_some]
    cases ldS i S p with
    |none=>rfl
    |some v=>cases resultS cfg env S rest<;>rfl
theorem leaf_frz{S:Zt}{v:SV}(h:leafF v=true):frz S dS v=some v∧refs S dS v=[]:=by
 cases v<;>first|exact⟨rfl,rfl⟩|exact Bool.noConfusion (show false=true from h)
theorem leaves_frz{S:Zt}:∀{l:List SV},leavesF l=true→l.mapM (frz S dS)=some l∧l.flatMap (refs S dS)=[]
 |[],_=>⟨rfl,rfl⟩
 |v::rest,h=>by
  simp only[leavesF]at h
  cases hv:leafF v with
  |false=>rw[hv]at h;cases h
  |true=>
   rw[hv,cond_true]at h
   obtain⟨h1,h2⟩:=leaves_frz (S:=S) (l:=rest) h
   obtain⟨h3,h4⟩:=leaf_frz (S:=S) hv
   exact⟨by rw[List.mapM_cons,h3,h1];rfl,by rw[List.flatMap_cons,h4,h2];rfl⟩
theorem frz1_eq(S:Zt)(v:SV):frz1 S v=frz S dS v:=by
 unfold frz1
 cases h:leafF v with
 |false=>rfl
 |true=>rw[(leaf_frz h).1];rfl
theorem blockX_eq(id:Nat)(e:X):blockX id e=if e=.exit id then .nrm else e:=by
 cases e with
 |exit i=>
  simp only[blockX,beq_ite]
  by_cases h:i=id
  ·subst h;simp
  ·rw[if_neg h,if_neg (by simpa using h)]
 |nrm=>simp[blockX]
 |ret=>simp[blockX]
theorem rec_den{cfg:Cfg}{r:RecF}{n:Nat}(ih:RecOk cfg r n):∀c st e st' l,denF c cfg r st=some (e,st')→EnvR st.env l→∃l',EnvR st'.env l'∧(OkQ st'.s.q→OkQ st.s.q∧Sh.den cfg (n+1) c ⟨l,st.s.S⟩=some (e,⟨l',st'.s.S⟩)):=by
 intro c st e st' l h he
 have seq:∀(a b c:Code),(∀(x:X×St),Sh.den cfg n a ⟨l,st.s.S⟩=some x→Sh.den cfg (n+1) c ⟨l,st.s.S⟩=match x.1 with|.nrm=>Sh.den cfg n b x.2|e=>some (e,x.2))→
   seqF r b (r.den a st)=some (e,st')→∃l',EnvR st'.env l'∧(OkQ st'.s.q→OkQ st.s.q∧Sh.den cfg (n+1) c ⟨l,st.s.S⟩=some (e,⟨l',st'.s.S⟩)):=by
  intro a b c hc h
  rcases seqF_cases h with⟨st1,h1,h2⟩|⟨h1,h2⟩
  ·obtain⟨l1,k1,k2⟩:=ih.den _ _ _ _ _ h1 he
   obtain⟨l2,m1,m2⟩:=ih.den _ _ _ _ l1 h2 k1
   refine⟨l2,m1,fun hq=>?_⟩
   obtain⟨q1,m3⟩:=m2 hq
   obtain⟨q0,k3⟩:=k2 q1
   exact⟨q0,by rw[hc _ k3];exact m3⟩
  ·obtain⟨l1,k1,k2⟩:=ih.den _ _ _ _ _ h1 he
   refine⟨l1,k1,fun hq=>?_⟩
   obtain⟨q0,k3⟩:=k2 hq
   refine⟨q0,?_⟩
   rw[hc _ k3]
   cases e with
   |nrm=>exact absurd rfl h2
   |ret=>rfl
   |exit id=>rfl
 cases c with
 |skip=>simp only[denF,d_skip]at h;cases h;exact⟨l,he,fun hq=>⟨hq,rfl⟩⟩
 |ret=>simp only[denF,d_ret]at h;cases h;exact⟨l,he,fun hq=>⟨hq,rfl⟩⟩
 |exit id=>simp only[denF,d_exit]at h;cases h;exact⟨l,he,fun hq=>⟨hq,rfl⟩⟩
 |region id ops draw=>
  simp only[denF,d_region,regF]at h
  cases hrun:runF cfg r ops.toList draw ops.toList 0 st.env st.s with
  |none=>rw[hrun]at h;cases h
  |some p=>
   obtain⟨e1,s1⟩:=p
   rw[hrun]at h
   cases h
   obtain⟨l',h2,h3⟩:=runF_ok ih.call ih.rnd _ _ _ _ _ _ _ hrun he
   refine⟨l',h2,fun hq=>?_⟩
   obtain⟨q0,h3⟩:=h3 hq
   exact⟨q0,by simp only[Sh.den,h3,Option.map_some]⟩
 |seq a b=>
  refine seq a b _ (fun x hx=>?_) h
  simp only[Sh.den,hx,Option.bind_some]
  obtain⟨e,s⟩:=x
  cases e<;>rfl
 |loop a=>
  refine seq a (.loop a) _ (fun x hx=>?_) h
  simp only[Sh.den,hx,Option.bind_some]
  obtain⟨e,s⟩:=x
  cases e<;>rfl
 |cond x a b=>
  simp only[denF,d_cond]at h
  rw[evalF_ok he]at h
  unfold condF at h
  split at h
  ·rename_i t hx
   cases t with
   |true=>
    obtain⟨l',k1,k2⟩:=ih.den _ _ _ _ _ h he
    exact⟨l',k1,fun hq=>⟨(k2 hq).1,by simp only[Sh.den,hx];exact(k2 hq).2⟩⟩
   |false=>
    obtain⟨l',k1,k2⟩:=ih.den _ _ _ _ _ h he
    exact⟨l',k1,fun hq=>⟨(k2 hq).1,by simp only[Sh.den,hx];exact(k2 hq).2⟩⟩
  ·cases h
 |block id a=>
  simp only[denF,d_block,blockF]at h
  cases ha:r.den a st with
  |none=>rw[ha]at h;cases h
  |some p=>
   obtain⟨e1,st1⟩:=p
   rw[ha]at h
   cases h
   obtain⟨l',k1,k2⟩:=ih.den _ _ _ _ _ ha he
   refine⟨l',k1,fun hq=>⟨(k2 hq).1,?_⟩⟩
   simp only[Sh.den,(k2 hq).2,Option.map_some,blockX_eq]
 |rangeFunc f ps as bd=>
  simp only[denF,d_range]at h
  rw[evalF_ok he]at h
  unfold rangeF at h
  split at h
  ·rename_i g x y hf
   rw[toL_ok he]at h
   unfold rangeF2 at h
   split at h
   ·rename_i v s1 hcl
    split at h
    ·rename_i env ps' as' bd' ls pe hS
     split at h
     ·cases h
     ·rename_i hls
      cases h
      refine⟨l,he,fun hq=>?_⟩
      obtain⟨q0,hcS⟩:=ih.call _ _ _ _ _ hcl hq
      refine⟨q0,?_⟩
      simp only[]at hcS
      simp only[Sh.den,hf,hcS,Option.bind_some,hS,if_neg hls]
    ·cases h
   ·cases h
  ·cases h
 |scope a=>simp only[denF,d_none]at h;cases h
 |label a=>simp only[denF,d_none]at h;cases h
 |goto a=>simp only[denF,d_none]at h;cases h
 |refuse a=>simp only[denF,d_none]at h;cases h
theorem rec_ok{cfg:Cfg}:∀n,RecOk cfg (recF cfg n) n
 |0=>⟨fun _ _ _ _ _ h=>(by cases h),fun _ _ _ _ _ h=>(by cases h),fun _ _ _ _ _ h=>(by cases h),fun _ _ _ _ _ h=>(by cases h),fun _ _ _ _ _ h=>(by cases h),fun _ _ _ _ _ h=>(by cases h)⟩
 |n+1=>by
  have ih:=rec_ok (cfg:=cfg) n
  refine⟨rec_den ih,?_,?_,?_,?_,?_⟩
  ·intro f args s v s' h hq
   change bodyF cfg (recF cfg n) f args s=some (v,s')at h
   unfold bodyF at h
   split at h
   ·rename_i fn hfn
    unfold body1F at h
    split at h
    ·rename_i c hb
     rw[cond_ite]at h
     split at h
     ·rename_i h1
      rw[cond_ite]at h
      split at h
      ·rename_i h2
       have hlen:(args++List.replicate (fn.ntmps-args.length) undefS).length≤512:=by
        have:=Nat.le_of_ble_eq_true h1
        have:=Nat.le_of_ble_eq_true h2
        simp;omega
       have fin:∀(e:X) (st:StF),(recF cfg n).den c ⟨ofL (args++List.replicate (fn.ntmps-args.length) undefS),s⟩=some (e,st)→(∀id,e≠.exit id)→body3F cfg (hasRange c) fn.results.toList st=some (v,s')→
         OkQ s.q∧bodyS cfg (n+1) f args s.S=some (v,s'.S):=by
        intro e st hd hne h
        obtain⟨l',k1,k2⟩:=ih.den _ _ _ _ _ hd (ofL_ok hlen)
        unfold body3F at h
        rw[cond_ite]at h
        split at h
        ·cases h
        ·rename_i hnl
         rw[resF_ok k1,bd_eq,Option.bind_eq_some_iff]at h
         obtain⟨vs,hvs,h⟩:=h
         cases h
         obtain⟨q0,k3⟩:=k2 hq
         refine⟨q0,?_⟩
         simp only[bodyS,hfn,hb,Option.bind_some,k3]
         have hnl':¬(hasRange c=true∧¬noLoops st.s.S=true):=fun⟨a1,a2⟩=>hnl (by simp[a1,a2])
         cases e with
         |exit id=>exact absurd rfl (hne id)
         |nrm=>rw[if_neg hnl',hvs];rfl
         |ret=>rw[if_neg hnl',hvs];rfl
       unfold body2F at h
       split at h
       ·cases h
       ·rename_i e st hne hd
        exact fin e st hd (fun id he=>hne id he) h
       ·cases h
      ·cases h
     ·cases h
    ·cases h
   ·cases h
  ·intro f args q v q' h hq
   change pcallF cfg (recF cfg n) f args q=some (v,q')at h
   unfold pcallF at h
   simp only[pureCall]
   split at h
   ·rename_i w ho
    cases h
    exact⟨hq,by rw[ho]⟩
   ·rename_i ho
    simp only[bd_eq,Option.bind_eq_some_iff]at h
    obtain⟨⟨u,s1⟩,hb,w,hf,h⟩:=h
    cases h
    obtain⟨q0,hbS⟩:=ih.body _ _ _ _ _ hb hq
    refine⟨q0,?_⟩
    rw[ho]
    simp only[]at hf hbS
    rw[frz1_eq]at hf
    simp only[hbS,Option.bind_some,hf]
  ·intro f args q v q' h hq
   change fcallF (recF cfg n) f args q=some (v,q')at h
   unfold fcallF at h
   simp only[bd_eq,Option.bind_eq_some_iff]at h
   obtain⟨⟨u,s1⟩,hb,w,hf,h⟩:=h
   cases h
   obtain⟨q0,hbS⟩:=ih.body _ _ _ _ _ hb hq
   refine⟨q0,?_⟩
   simp only[]at hf hbS
   simp only[freshCall,hbS,Option.bind_some]
   exact hf
  ·intro g args s v s' h hq
   change callF cfg (recF cfg n) g args s=some (v,s')at h
   unfold callF at h
   simp only[callS]
   have pureK:∀args' S',args.mapM (frz s.S dS)=some args'→S'=sealS s.S (args.flatMap (refs s.S dS))→pureF (recF cfg n) g args' S' s.q=some (v,s')→
     OkQ s.q∧((args.mapM (frz s.S dS)).bind fun args'=>(pureCall cfg n g args').map fun v=>(v,sealS s.S (args.flatMap (refs s.S dS))))=some (v,s'.S):=by
    intro args' S' h1 h2 h3
    unfold pureF at h3
    rw[bd_eq,Option.bind_eq_some_iff]at h3
    obtain⟨⟨u,q1⟩,h4,h5⟩:=h3
    cases h5
    obtain⟨q0,h6⟩:=ih.pcall _ _ _ _ _ h4 hq
    exact⟨q0,by rw[h1];simp only[Option.bind_some,h6,Option.map_some,h2]⟩
   have freshK:∀args' S',args.mapM (frz s.S dS)=some args'→S'=sealS s.S (args.flatMap (refs s.S dS))→S'.length=s.S.length→freshF (recF cfg n) g args' S' s.q=some (v,s')→
     OkQ s.q∧((args.mapM (frz s.S dS)).bind fun args'=>(freshCall cfg n g args').map fun r=>match r with
      |.inl v=>(v,sealS s.S (args.flatMap (refs s.S dS)))
      |.inr (es,sz,off,len,cap)=>(.osl s.S.length sz off len cap,sealS s.S (args.flatMap (refs s.S dS))++[.cells es true]))=some (v,s'.S):=by
    intro args' S' h1 h2 hl h3
    subst h2
    unfold freshF at h3
    rw[bd_eq,Option.bind_eq_some_iff]at h3
    obtain⟨⟨u,q1⟩,h4,h5⟩:=h3
    simp only[]at h5
    split at h5
    ·rename_i u2
     cases h5
     obtain⟨q0,h6⟩:=ih.fcall _ _ _ _ _ h4 hq
     exact⟨q0,by rw[h1];simp only[Option.bind_some,h6,Option.map_some]⟩
    ·rename_i es sz off len cap
     obtain⟨h7,h8⟩:=backF_ok h5
     obtain⟨h9,h10⟩:=newF1_ok h7
     rw[h8]at hq
     obtain⟨q0,h6⟩:=ih.fcall _ _ _ _ _ h4 hq
     exact⟨q0,by rw[h1];simp only[Option.bind_some,h6,Option.map_some,h9,h10,hl]⟩
   split at h
   ·rename_i hm
    rw[hm]
    exact ih.body _ _ _ _ _ h hq
   ·rename_i hm
    rw[hm]
    rw[cond_ite]at h
    split at h
    ·rename_i hlv
     obtain⟨a1,a2⟩:=leaves_frz (S:=s.S) hlv
     exact pureK args s.S a1 (by rw[a2];rfl) h
    ·rw[bd_eq,Option.bind_eq_some_iff]at h
     obtain⟨args',a1,h⟩:=h
     exact pureK args' _ a1 rfl h
   ·rename_i hm
    rw[hm]
    rw[cond_ite]at h
    split at h
    ·rename_i hlv
     obtain⟨a1,a2⟩:=leaves_frz (S:=s.S) hlv
     exact freshK args s.S a1 (by rw[a2];rfl) rfl h
    ·rw[bd_eq,Option.bind_eq_some_iff]at h
     obtain⟨args',a1,h⟩:=h
     exact freshK args' _ a1 rfl (sealS_len _ _) h
  ·intro l args s v s' h hq
   change rndF (recF cfg n) l args s=some (v,s')at h
   unfold rndF at h
   simp only[roundS]
   split at h
   ·rename_i env ps as bd hS
    split at h
    ·rename_i hc
     obtain⟨c1,c2,c3,c4⟩:=hc
     rw[hS]
     simp only[]
     rw[if_pos ⟨c1,c2,c3⟩]
     have hlen:((ps.zip args).foldl (fun e (t,a)=>e.set t a) env).length≤512:=by
      have:∀(z:List (Nat×SV)) (env:List SV),(z.foldl (fun e (t,a)=>e.set t a) env).length=env.length:=by
       intro z
       induction z with
       |nil=>intro env;rfl
       |cons p r ih=>intro env;rw[List.foldl_cons,ih];simp
      rw[this];exact c4
     unfold round2F at h
     split at h
     ·rename_i st1 hd1
      split at h
      ·rename_i env1 ps1 as1 bd1 hS1
       obtain⟨l1,k1,k2⟩:=ih.den _ _ _ _ _ hd1 (ofL_ok hlen)
       unfold round3F at h
       split at h
       ·rename_i e2 st2 hd2
        obtain⟨l2,m1,m2⟩:=ih.den _ _ _ _ l1 hd2 k1
        split at h
        ·rename_i env2 ps2 as2 bd2 hS2
         have hq2:OkQ st2.s.q:=by
          split at h<;>(cases h;exact hq)
         obtain⟨q1,m3⟩:=m2 hq2
         simp only[]at q1 m3
         obtain⟨q0,k3⟩:=k2 q1
         simp only[]at q0 k3
         refine⟨q0,?_⟩
         rw[k3]
         simp only[Option.bind_some,if_true,hS1,m3,hS2]
         cases e2 with
         |nrm=>cases h;rfl
         |ret=>cases h;rfl
         |exit id=>cases h;rfl
        ·cases h
       ·cases h
      ·cases h
     ·cases h
    ·cases h
   ·cases h
theorem pureCallF_ok{cfg:Cfg}{n:Nat}{f:FuncId}{args:List SV}{t:Tape}{v:SV}{q:Q}(h:pureCallF cfg n f args t=some (v,q))(hq:OkQ q):pureCall cfg n f args=some v:=
 ((rec_ok n).pcall _ _ _ _ _ h hq).2
end Go.Sh
namespace Go.Sh
def agreeT(P:Program)(t:TypeId)(i:TyI):Bool:=match i.kind,i.zero with
 |.int,.int k _=>(match P.underlying t with
  |some (.int k')=>beqK k k'
  |_=>false)
 |_,_=>true
def tyOf(P:Program)(t:TypeId):Option TyI:=(mkTy P t).bind fun i=>if agreeT P t i then some i else none
def fnOf(P:Program)(f:FuncId):Option Func:=(P.funcs[f]?).bind fun fn=>if fn.body.isSome then some fn else none
def okFn(fn:Func):Bool:=match fn.body with
 |none=>true
 | some c => fn.name != "runtime.NumGoroutine" && codeOk c
def cfgOf(P:Program)(mode:FuncId→Mode)(orc:FuncId→List SV→Option SV):Cfg:={ ty:=tyOf P,fns:=fnOf P,orc:=orc,mode:=mode }
theorem zeroS_ok{z:Value}{v:SV}(h:zeroS z=some v)(ι:IM)(F:Fset)(w:World):VR ι F w v z:=by
 have c:∀{z:Value} {v:SV},constS z=some v→VR ι F w v z:=fun {z v} h=>by
  have:evalS [] (.const z)=some v:=h
  exact evalS_ok (a:={ tmps:=#[],defers:=[] }) (env:=[]) rfl this
 unfold zeroS at h
 split at h
 ·rename_i cs
  rw[Option.map_eq_some_iff]at h
  obtain⟨es,hm,rfl⟩:=h
  refine⟨cs,rfl,?_⟩
  generalize cs.toList=l at hm
  induction l generalizing es with
  |nil=>rw[List.mapM_nil]at hm;cases hm;rfl
  |cons x r ih=>
   rw[List.mapM_cons]at hm
   simp only[Option.bind_eq_bind,Option.bind_eq_some_iff,Option.pure_def,Option.some.injEq]at hm
   obtain⟨y,hy,zs,hz,rfl⟩:=hm
   exact⟨x,r,rfl,c hy,ih zs hz⟩
 ·exact c h
theorem tyOf_ok{P:Program}{t:TypeId}{i:TyI}(h:tyOf P t=some i):TyOk P t i:=by
 unfold tyOf at h
 rw[Option.bind_eq_some_iff]at h
 obtain⟨i',hi,h⟩:=h
 split at h
 ·rename_i hag
  cases h
  unfold mkTy at hi
  simp only[Option.bind_eq_some_iff,Option.map_eq_some_iff]at hi
  obtain⟨d,hd,z,⟨z0,hz0,hz⟩,u,hu,rfl⟩:=hi
  refine⟨⟨d,hd,rfl,rfl,z0,hz0,fun ι F w=>zeroS_ok hz ι F w⟩,u,hu,?_,?_⟩
  ·cases u<;>rfl
  ·intro k n hzk hk
   simp only[]at hzk hk
   unfold agreeT at hag
   simp only[hzk,hk,hu]at hag
   split at hag
   ·rename_i k' hk'
    simp only[Option.some.injEq]at hk'
    unfold beqK at hag
    split at hag
    ·rename_i e;rw[e];exact hk'
    ·cases hag
   ·cases hag
 ·cases h
theorem enters_of{P : Program}{f : FuncId}{fn : Func}(hf : P.funcs[f]? = some fn)(hb : fn.body.isSome = true)(hn : fn.name ≠ "runtime.NumGoroutine") : Enters P f := by
 intro args w
 have h2:fn.body≠none:=by intro h;rw[h]at hb;cases hb
 simp[callFunc,Sem.run_bind,program,Sem.run,hf,hn,h2]
theorem cfgOf_ok{P:Program}(hm:P.follows .mixedOrders=true)(hall:P.funcs.all okFn=true){mode:FuncId→Mode}{orc:FuncId→List SV→Option SV}(ho:∀f args v,orc f args=some v→PureOk P f args v):CfgOk P (cfgOf P mode orc):=by
 refine⟨⟨fun t i h=>tyOf_ok h⟩,fun f fn h=>?_,ho,hm⟩
 change fnOf P f=some fn at h
 unfold fnOf at h
 rw[Option.bind_eq_some_iff]at h
 obtain⟨fn',hf,h⟩:=h
 split at h
 ·rename_i hb
  cases h
  have hok:=Array.all_eq_true_iff_forall_mem.1 hall fn (Array.mem_of_getElem? hf)
  unfold okFn at hok
  cases hc:fn.body with
  |none=>rw[hc]at hb;cases hb
  |some c=>
   rw[hc]at hok
   simp only[Bool.and_eq_true,bne_iff_ne,ne_eq]at hok
   exact⟨hf,enters_of hf hb hok.1,fun c' hc'=>by cases hc';exact hok.2⟩
 ·cases h
theorem pureOk_of{P:Program}{cfg:Cfg}(hC:CfgOk P cfg){n:Nat}{f:FuncId}{args:List SV}{t:Tape}{v:SV}{q:Q}(h:pureCallF cfg n f args t=some (v,q))(hq:OkQ q):PureOk P f args v:=
 (sound hC n).pure _ _ _ (pureCallF_ok h hq)
end Go.Sh
