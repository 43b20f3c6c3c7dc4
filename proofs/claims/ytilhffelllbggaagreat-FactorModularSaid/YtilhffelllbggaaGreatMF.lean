/-
  The shadow machine without fuel, as conditions.
-/
import Derived.Test.YtilhffelllbggaaGreatMA
set_option linter.unusedVariables false
set_option linter.unusedSimpArgs false
namespace Go.Sh
def LE{α:Type}(a b:Option α):Prop:=∀x,a=some x→b=some x
theorem LE.rfl{α:Type}{a:Option α}:LE a a:=fun _ h=>h
theorem LE.none{α:Type}{b:Option α}:LE none b:=fun _ h=>by cases h
theorem LE.trans{α:Type}{a b c:Option α}(h:LE a b)(k:LE b c):LE a c:=fun x e=>k x (h x e)
theorem LE.bind{α β:Type}{a b:Option α}{f g:α→Option β}(h:LE a b)(k:∀x,LE (f x) (g x)):LE (a.bind f) (b.bind g):=fun y e=>by
 rw[Option.bind_eq_some_iff]at e ⊢
 obtain⟨x,h1,h2⟩:=e
 exact⟨x,h x h1,k x y h2⟩
theorem LE.map{α β:Type}{a b:Option α}{f:α→β}(h:LE a b):LE (a.map f) (b.map f):=fun y e=>by
 rw[Option.map_eq_some_iff]at e ⊢
 obtain⟨x,h1,h2⟩:=e
 exact⟨x,h x h1,h2⟩
section
variable {cfg:Cfg}
theorem opS_le{call call':CallT}{rnd rnd':Nat→List SV→Zt→Option (SV×Zt)}(hc:∀f a S,LE (call f a S) (call' f a S))(hr:∀l a S,LE (rnd l a S) (rnd' l a S))(env:List SV)(S:Zt)(op:Op):LE (opS cfg call rnd env S op) (opS cfg call' rnd' env S op):=by
 cases op<;>try exact LE.rfl
 rename_i c
 obtain⟨cl,cargs,ats⟩:=c
 cases cl with
 |builtin b=>cases b<;>exact LE.rfl
 |invoke a b=>exact LE.rfl
 |value f=>
  simp only[opS]
  refine LE.bind LE.rfl fun args=>?_
  cases evalS env f with
  |none=>exact LE.rfl
  |some v=>cases v<;>first|exact LE.rfl|exact hc _ _ _|exact hr _ _ _
theorem runOps_le{call call':CallT}{rnd rnd':Nat→List SV→Zt→Option (SV×Zt)}(hc:∀f a S,LE (call f a S) (call' f a S))(hr:∀l a S,LE (rnd l a S) (rnd' l a S))(all:List Oper)(draw:Bool):∀(l:List Oper) (i:Nat) (env:List SV) (S:Zt),LE (runOps cfg call rnd all draw i l env S) (runOps cfg call' rnd' all draw i l env S)
 |[],i,env,S=>LE.rfl
 |o::r,i,env,S=>by
  simp only[runOps]
  split
  ·split
   ·exact LE.rfl
   ·exact LE.bind (opS_le hc hr env S o.op) fun p=>runOps_le hc hr all draw r _ _ _
  ·exact runOps_le hc hr all draw r _ _ _
structure MonoAt(cfg:Cfg)(n m:Nat):Prop where
 den:∀c st,LE (den cfg n c st) (den cfg m c st)
 body:∀f a S,LE (bodyS cfg n f a S) (bodyS cfg m f a S)
 pcall:∀f a,LE (pureCall cfg n f a) (pureCall cfg m f a)
 fcall:∀f a,LE (freshCall cfg n f a) (freshCall cfg m f a)
 call:∀f a S,LE (callS cfg n f a S) (callS cfg m f a S)
 rnd:∀l a S,LE (roundS cfg n l a S) (roundS cfg m l a S)
theorem mono_succ{n m:Nat}(h:MonoAt cfg n m):MonoAt cfg (n+1) (m+1):=by
 refine⟨fun c st=>?_,fun f a S=>?_,fun f a=>?_,fun f a=>?_,fun f a S=>?_,fun l a S=>?_⟩
 ·cases c<;>simp only[Sh.den]<;>try exact LE.rfl
  ·exact LE.map (runOps_le h.call h.rnd _ _ _ _ _ _)
  ·refine LE.bind (h.den _ _) fun p=>?_
   obtain⟨e,st'⟩:=p
   cases e<;>first|exact LE.rfl|exact h.den _ _
  ·split
   ·exact h.den _ _
   ·exact h.den _ _
   ·exact LE.rfl
  ·exact LE.map (h.den _ _)
  ·refine LE.bind (h.den _ _) fun p=>?_
   obtain⟨e,st'⟩:=p
   cases e<;>first|exact LE.rfl|exact h.den _ _
  ·split
   ·exact LE.bind (h.call _ _ _) fun p=>LE.rfl
   ·exact LE.rfl
 ·simp only[bodyS]
  refine LE.bind LE.rfl fun fn=>?_
  split
  ·exact LE.bind (h.den _ _) fun p=>LE.rfl
  ·exact LE.rfl
 ·simp only[pureCall]
  split
  ·exact LE.rfl
  ·exact LE.bind (h.body _ _ _) fun p=>LE.rfl
 ·simp only[freshCall]
  exact LE.bind (h.body _ _ _) fun p=>LE.rfl
 ·simp only[callS]
  split
  ·exact h.body _ _ _
  ·exact LE.bind LE.rfl fun p=>LE.map (h.pcall _ _)
  ·exact LE.bind LE.rfl fun p=>LE.map (h.fcall _ _)
 ·simp only[roundS]
  split
  ·split
   ·refine LE.bind (h.den _ _) fun p=>?_
    split
    ·split
     ·exact LE.bind (h.den _ _) fun p=>LE.rfl
     ·exact LE.rfl
    ·exact LE.rfl
   ·exact LE.rfl
  ·exact LE.rfl
theorem mono_zero(m:Nat):MonoAt cfg 0 m:=by
 refine⟨fun _ _=>?_,fun _ _ _=>?_,fun _ _=>?_,fun _ _=>?_,fun _ _ _=>?_,fun _ _ _=>?_⟩<;>exact LE.none
theorem mono{n m:Nat}(h:n≤m):MonoAt cfg n m:=by
 induction n generalizing m with
 |zero=>exact mono_zero m
 |succ n ih=>
  cases m with
  |zero=>omega
  |succ m=>exact mono_succ (ih (by omega))
end
open Classical in
noncomputable def sup{α:Type}(f:Nat→Option α):Option α:=if h:∃n,(f n).isSome=true then f (Classical.choose h)else none
def Mon{α:Type}(f:Nat→Option α):Prop:=∀n m,n≤m→LE (f n) (f m)
theorem sup_iff{α:Type}{f:Nat→Option α}(hm:Mon f){x:α}:sup f=some x↔∃n,f n=some x:=by
 unfold sup
 constructor
 ·intro h
  split at h
  ·rename_i hx;exact⟨_,h⟩
  ·cases h
 ·rintro⟨n,h⟩
  have hx:∃n,(f n).isSome=true:=⟨n,by rw[h];rfl⟩
  rw[dif_pos hx]
  have hs:=Classical.choose_spec hx
  generalize Classical.choose hx=k at hs
  cases hk:f k with
  |none=>rw[hk]at hs;cases hs
  |some y=>
   have h1:=hm n (max n k) (Nat.le_max_left _ _) x h
   have h2:=hm k (max n k) (Nat.le_max_right _ _) y hk
   rw[h1]at h2
   exact h2.symm
theorem opt_ext{α:Type}{a b:Option α}(h:∀x,a=some x↔b=some x):a=b:=by
 cases a with
 |none=>
  cases b with
  |none=>rfl
  |some y=>exact absurd ((h y).2 rfl) (by simp)
 |some x=>exact((h x).1 rfl).symm
theorem sup_const{α:Type}(a:Option α):sup (fun _=>a)=a:=opt_ext fun x=>by
 rw[sup_iff (fun _ _ _=>LE.rfl)]
 exact⟨fun⟨_,h⟩=>h,fun h=>⟨0,h⟩⟩
theorem sup_bind{α β:Type}{f:Nat→Option α}{g:Nat→α→Option β}(hf:Mon f)(hg:∀x,Mon fun n=>g n x):sup (fun n=>(f n).bind (g n))=(sup f).bind fun x=>sup fun n=>g n x:=opt_ext fun y=>by
 rw[sup_iff (fun n m h=>LE.bind (hf n m h) (fun x=>hg x n m h)),Option.bind_eq_some_iff]
 constructor
 ·rintro⟨n,h⟩
  rw[Option.bind_eq_some_iff]at h
  obtain⟨x,h1,h2⟩:=h
  exact⟨x,(sup_iff hf).2 ⟨n,h1⟩,(sup_iff (hg x)).2 ⟨n,h2⟩⟩
 ·rintro⟨x,h1,h2⟩
  obtain⟨n,h1⟩:=(sup_iff hf).1 h1
  obtain⟨m,h2⟩:=(sup_iff (hg x)).1 h2
  exact⟨max n m,by rw[Option.bind_eq_some_iff];exact⟨x,hf _ _ (Nat.le_max_left _ _) x h1,hg x _ _ (Nat.le_max_right _ _) y h2⟩⟩
theorem sup_bindc{α β:Type}{a:Option α}{g:Nat→α→Option β}(hg:∀x,Mon fun n=>g n x):sup (fun n=>a.bind (g n))=a.bind fun x=>sup fun n=>g n x:=by
 rw[sup_bind (f:=fun _=>a) (fun _ _ _=>LE.rfl) hg,sup_const]
theorem sup_map{α β:Type}{f:Nat→Option α}(hf:Mon f)(g:α→β):sup (fun n=>(f n).map g)=(sup f).map g:=opt_ext fun y=>by
 rw[sup_iff (fun n m h=>LE.map (hf n m h)),Option.map_eq_some_iff]
 constructor
 ·rintro⟨n,h⟩
  rw[Option.map_eq_some_iff]at h
  obtain⟨x,h1,h2⟩:=h
  exact⟨x,(sup_iff hf).2 ⟨n,h1⟩,h2⟩
 ·rintro⟨x,h1,h2⟩
  obtain⟨n,h1⟩:=(sup_iff hf).1 h1
  exact⟨n,by rw[h1,Option.map_some,h2]⟩
theorem sup_succ{α:Type}{f:Nat→Option α}(hf:Mon f):sup f=sup fun n=>f (n+1):=opt_ext fun y=>by
 rw[sup_iff hf,sup_iff (fun n m h=>hf _ _ (by omega))]
 constructor
 ·rintro⟨n,h⟩;exact⟨n,hf n (n+1) (by omega) y h⟩
 ·rintro⟨n,h⟩;exact⟨n+1,h⟩
noncomputable def denW(cfg:Cfg)(c:Code)(st:St):Option (X×St):=sup fun n=>den cfg n c st
noncomputable def bW(cfg:Cfg)(f:FuncId)(a:List SV)(S:Zt):Option (SV×Zt):=sup fun n=>bodyS cfg n f a S
noncomputable def pW(cfg:Cfg)(f:FuncId)(a:List SV):Option SV:=sup fun n=>pureCall cfg n f a
noncomputable def freshW(cfg:Cfg)(f:FuncId)(a:List SV):Option (SV ⊕ (List SV×Nat×Nat×Nat×Option Nat)):=sup fun n=>freshCall cfg n f a
noncomputable def cW(cfg:Cfg)(f:FuncId)(a:List SV)(S:Zt):Option (SV×Zt):=sup fun n=>callS cfg n f a S
noncomputable def rW(cfg:Cfg)(l:Nat)(a:List SV)(S:Zt):Option (SV×Zt):=sup fun n=>roundS cfg n l a S
section
variable {cfg:Cfg}
theorem mon_den(c:Code)(st:St):Mon fun n=>den cfg n c st:=fun _ _ h=>(mono h).den c st
theorem mon_body(f:FuncId)(a:List SV)(S:Zt):Mon fun n=>bodyS cfg n f a S:=fun _ _ h=>(mono h).body f a S
theorem mon_pcall(f:FuncId)(a:List SV):Mon fun n=>pureCall cfg n f a:=fun _ _ h=>(mono h).pcall f a
theorem mon_fcall(f:FuncId)(a:List SV):Mon fun n=>freshCall cfg n f a:=fun _ _ h=>(mono h).fcall f a
theorem mon_call(f:FuncId)(a:List SV)(S:Zt):Mon fun n=>callS cfg n f a S:=fun _ _ h=>(mono h).call f a S
theorem mon_rnd(l:Nat)(a:List SV)(S:Zt):Mon fun n=>roundS cfg n l a S:=fun _ _ h=>(mono h).rnd l a S
theorem mon_c{α:Type}(a:Option α):Mon fun _=>a:=fun _ _ _=>LE.rfl
theorem sup_opS(env:List SV)(S:Zt)(op:Op):sup (fun n=>opS cfg (callS cfg n) (roundS cfg n) env S op)=opS cfg (cW cfg) (rW cfg) env S op:=by
 cases op<;>try exact sup_const _
 rename_i c
 obtain⟨cl,cargs,ats⟩:=c
 cases cl with
 |builtin b=>cases b<;>exact sup_const _
 |invoke a b=>exact sup_const _
 |value f=>
  simp only[opS]
  cases hf:evalS env f with
  |none=>exact sup_const ((evalsS env cargs.toList).bind fun _=>none)
  |some v=>
   cases v with
   |fn g a b=>exact sup_bindc fun x=>mon_call _ _ _
   |yld l=>exact sup_bindc fun x=>mon_rnd _ _ _
   |_=>exact sup_const ((evalsS env cargs.toList).bind fun _=>none)
theorem mon_opS(env:List SV)(S:Zt)(op:Op):Mon fun n=>opS cfg (callS cfg n) (roundS cfg n) env S op:=fun _ _ h=>opS_le (mono h).call (mono h).rnd _ _ _
theorem mon_runOps(all:List Oper)(draw:Bool)(i:Nat)(l:List Oper)(env:List SV)(S:Zt):Mon fun n=>runOps cfg (callS cfg n) (roundS cfg n) all draw i l env S:=fun _ _ h=>runOps_le (mono h).call (mono h).rnd _ _ _ _ _ _
theorem sup_runOps(all:List Oper)(draw:Bool):∀(l:List Oper) (i:Nat) (env:List SV) (S:Zt),sup (fun n=>runOps cfg (callS cfg n) (roundS cfg n) all draw i l env S)=runOps cfg (cW cfg) (rW cfg) all draw i l env S
 |[],i,env,S=>sup_const _
 |o::r,i,env,S=>by
  simp only[runOps]
  split
  ·split
   ·exact sup_const _
   ·rw[sup_bind (mon_opS _ _ _) (fun p=>mon_runOps _ _ _ _ _ _),sup_opS]
    congr 1
    funext p
    exact sup_runOps all draw r _ _ _
  ·exact sup_runOps all draw r _ _ _
theorem denW_skip(st:St):denW cfg .skip st=some (.nrm,st):=by
 unfold denW;rw[sup_succ (mon_den _ _)];exact sup_const _
theorem denW_ret(st:St):denW cfg .ret st=some (.ret,st):=by
 unfold denW;rw[sup_succ (mon_den _ _)];exact sup_const _
theorem denW_exit(id:Nat)(st:St):denW cfg (.exit id) st=some (.exit id,st):=by
 unfold denW;rw[sup_succ (mon_den _ _)];exact sup_const _
theorem denW_region(i:Nat)(ops:Array Oper)(draw:Bool)(st:St):denW cfg (.region i ops draw) st=(runOps cfg (cW cfg) (rW cfg) ops.toList draw 0 ops.toList st.env st.S).map fun p=>(.nrm,⟨p.1,p.2⟩):=by
 unfold denW;rw[sup_succ (mon_den _ _)]
 simp only[den]
 rw[sup_map (mon_runOps _ _ _ _ _ _),sup_runOps]
noncomputable def nextW(cfg:Cfg)(b:Code)(p:X×St):Option (X×St):=match p.1 with
 |.nrm=>denW cfg b p.2
 |e=>some (e,p.2)
theorem denW_seq(a b:Code)(st:St):denW cfg (.seq a b) st=(denW cfg a st).bind (nextW cfg b):=by
 have e0:denW cfg (.seq a b) st=sup fun n=>den cfg n (.seq a b) st:=rfl
 rw[e0,sup_succ (mon_den _ _)]
 simp only[den]
 rw[sup_bind (mon_den _ _) (fun p=>by
  obtain⟨e,st'⟩:=p
  cases e
  ·exact mon_den _ _
  ·exact mon_c _
  ·exact mon_c _)]
 congr 1
 funext p
 obtain⟨e,st'⟩:=p
 cases e
 ·rfl
 ·exact sup_const _
 ·exact sup_const _
theorem denW_loop(a:Code)(st:St):denW cfg (.loop a) st=(denW cfg a st).bind (nextW cfg (.loop a)):=by
 have e0:denW cfg (.loop a) st=sup fun n=>den cfg n (.loop a) st:=rfl
 rw[e0,sup_succ (mon_den _ _)]
 simp only[den]
 rw[sup_bind (mon_den _ _) (fun p=>by
  obtain⟨e,st'⟩:=p
  cases e
  ·exact mon_den _ _
  ·exact mon_c _
  ·exact mon_c _)]
 congr 1
 funext p
 obtain⟨e,st'⟩:=p
 cases e
 ·rfl
 ·exact sup_const _
 ·exact sup_const _
def condS{α:Type}(v:SV)(a b:Option α):Option α:=match v with
 |.bool t=>cond t a b
 |_=>none
theorem denW_cond(x:Operand)(a b:Code)(st:St):denW cfg (.cond x a b) st=(evalS st.env x).bind fun v=>condS v (denW cfg a st) (denW cfg b st):=by
 have e0:denW cfg (.cond x a b) st=sup fun n=>den cfg n (.cond x a b) st:=rfl
 rw[e0,sup_succ (mon_den _ _)]
 simp only[den]
 cases evalS st.env x with
 |none=>exact sup_const _
 |some v=>
  cases v with
  |bool t=>cases t<;>rfl
  |_=>exact sup_const _
theorem denW_block(id:Nat)(a:Code)(st:St):denW cfg (.block id a) st=(denW cfg a st).map fun p=>(if p.1=.exit id then .nrm else p.1,p.2):=by
 have e0:denW cfg (.block id a) st=sup fun n=>den cfg n (.block id a) st:=rfl
 rw[e0,sup_succ (mon_den _ _)]
 simp only[den]
 rw[sup_map (mon_den _ _)]
 rfl
noncomputable def outW(cfg:Cfg)(fn:Func)(c:Code)(e:X)(st:St):Option (SV×Zt):=match e with
 |.exit _=>none
 |_=>if hasRange c=true∧¬noLoops st.S=true then none else(resultS cfg st.env st.S fn.results.toList).map fun vs=>(packS vs,st.S)
theorem bodyW_eq(f:FuncId)(args:List SV)(S:Zt):bW cfg f args S=(cfg.fns f).bind fun fn=>match fn.body with
  |some c=>(denW cfg c ⟨args++List.replicate (fn.ntmps-args.length) undefS,S⟩).bind fun p=>outW cfg fn c p.1 p.2
  |none=>none:=by
 unfold bW
 rw[sup_succ (mon_body _ _ _)]
 simp only[bodyS]
 rw[sup_bindc (fun fn=>by
  intro n m h
  cases fn.body with
  |none=>exact LE.rfl
  |some c=>exact LE.bind ((mono h).den _ _) fun p=>LE.rfl)]
 congr 1
 funext fn
 cases fn.body with
 |none=>exact sup_const _
 |some c=>
  refine Eq.trans (congrArg sup (funext fun n=>?_)) ((sup_bind (f:=fun n=>den cfg n c ⟨args++List.replicate (fn.ntmps-args.length) undefS,S⟩) (g:=fun _ p=>outW cfg fn c p.1 p.2) (mon_den c _) (fun p=>mon_c _)).trans ?_)
  ·show Option.bind _ _=Option.bind _ _
   congr 1
  ·show Option.bind (denW cfg _ _) _=Option.bind _ _
   congr 1
   funext p
   exact sup_const _
theorem sup_bindk{α β:Type}{f:Nat→Option α}(g:α→Option β)(hf:Mon f):sup (fun n=>(f n).bind g)=(sup f).bind g:=by
 rw[sup_bind (g:=fun _=>g) hf (fun p=>mon_c _)]
 congr 1
 funext p
 exact sup_const _
theorem pureW_eq(f:FuncId)(args:List SV):pW cfg f args=match cfg.orc f args with
  |some v=>some v
  |none=>(bW cfg f args []).bind fun p=>frz p.2 dS p.1:=by
 unfold pW
 rw[sup_succ (mon_pcall _ _)]
 simp only[pureCall]
 cases cfg.orc f args with
 |some v=>exact sup_const _
 |none=>exact sup_bindk (fun p:SV×Zt=>frz p.2 dS p.1) (mon_body f args [])
noncomputable def freshO(p:SV×Zt):Option (SV ⊕ (List SV×Nat×Nat×Nat×Option Nat)):=match p.1 with
  |.osl id sz off len cap=>match p.2[id]? with
   |some (.cells es true)=>if es.all pureS then some (.inr (es,sz,off,len,cap))else none
   |_=>none
  |v=>if pureS v then some (.inl v)else none
theorem freshW_eq(f:FuncId)(args:List SV):freshW cfg f args=(bW cfg f args []).bind freshO:=by
 unfold freshW
 rw[sup_succ (mon_fcall _ _)]
 simp only[freshCall]
 refine Eq.trans (congrArg sup (funext fun n=>?_)) (sup_bindk freshO (mon_body f args []))
 show Option.bind _ _=Option.bind _ _
 congr 1
noncomputable def freshIn (S : Zt) (args : List SV) (r : SV ⊕ (List SV × Nat × Nat × Nat × Option Nat)) : SV × Zt := match r with
      | .inl v => (v, sealS S (args.flatMap (refs S dS)))
      | .inr (es, sz, off, len, cap) => (.osl S.length sz off len cap, sealS S (args.flatMap (refs S dS)) ++ [.cells es true])
theorem callW_eq(f:FuncId)(args:List SV)(S:Zt):cW cfg f args S=match cfg.mode f with
  |.inpl=>bW cfg f args S
  |.pure=>(args.mapM (frz S dS)).bind fun args'=>(pW cfg f args').map fun v=>(v,sealS S (args.flatMap (refs S dS)))
  |.fresh=>(args.mapM (frz S dS)).bind fun args'=>(freshW cfg f args').map (freshIn S args):=by
 unfold cW
 rw[sup_succ (mon_call _ _ _)]
 simp only[callS]
 cases cfg.mode f with
 |inpl=>rfl
 |pure=>
  refine Eq.trans (sup_bindc (g:=fun n args'=>(pureCall cfg n f args').map fun v=>(v,sealS S (args.flatMap (refs S dS)))) (fun x n m h=>LE.map ((mono h).pcall _ _))) ?_
  show Option.bind _ _=Option.bind _ _
  congr 1
  funext x
  exact sup_map (mon_pcall _ _) _
 |fresh=>
  refine Eq.trans (sup_bindc (g:=fun n args'=>(freshCall cfg n f args').map (freshIn S args)) (fun x n m h=>LE.map ((mono h).fcall _ _))) ?_
  show Option.bind _ _=Option.bind _ _
  congr 1
  funext x
  exact sup_map (mon_fcall _ _) _
end
end Go.Sh
namespace Go.Sh
def alS(v:SV)(S:Zt):Option (SV×Zt):=if v.n=0 then none else some (.optr S.length 0 0,S++[.cells [v] true])
def bslS(j:TyI)(len:Nat)(vs:List (Nat×SV))(S:Zt):Option (SV×Zt):=if j.size=0∨len*j.size>16777216∨¬j.zero.n=j.size then none else
 (litS j.size (List.replicate len j.zero) vs).map fun es=>(.osl S.length j.size 0 len (some len),S++[.cells es true])
def mkslS(j:TyI)(l c:SV)(S:Zt):Option (SV×Zt):=(natS l).bind fun l=>(natS c).bind fun c=>
 if j.size=0∨l>c∨c>roomS∨c*j.bytes>roomS∨¬j.zero.n=j.size then none else some (.osl S.length j.size 0 l (some c),S++[.cells (List.replicate c j.zero) true])
def pickS(c a b:SV):Option SV:=match c with
 |.bool t=>some (if t then a else b)
 |_=>none
def nilS(x:SV):Option SV:=match x with
 |.optr id j o=>some (.optr id j o)
 |.vptr e=>some (.vptr e)
 |.fn f a b=>some (.fn f a b)
 |_=>none
def convS(i:TyI)(x:SV):Option SV:=match i.kind,i.zero,x with
 |.int,.int k _,.int _ n=>some (.int k (wrS k n))
 |_,_,_=>none
def extS(x:SV)(ix:Nat):Option SV:=match x with
 |.tup vs=>vs[ix]?
 |_=>none
def slicS(j:TyI)(x:SV)(lo hi mx:Option SV):Option SV:=if j.size=0 then none else
 (optNat lo).bind fun lo=>(optNat hi).bind fun hi=>(optNat mx).bind fun mx=>if sizeIs j.size x then sliceS x lo hi mx else none
def appS(j:TyI)(S:Zt)(s x:SV):Option (SV×Zt):=if j.zero.n=j.size then appendS j.size j.bytes S s x else none
def applyS(call:CallT)(rnd:Nat→List SV→Zt→Option (SV×Zt))(f:SV)(args:List SV)(S:Zt):Option (SV×Zt):=match f with
 |.fn g a b=>call g (a++args++b) S
 |.yld l=>rnd l args S
 |_=>none
abbrev En:=Nat→SV
def upd(e:En)(t:Nat)(v:SV):En:=fun s=>bif Nat.beq s t then v else e s
def ups:En→List (Nat×SV)→En
 |e,[]=>e
 |e,p::r=>ups (upd e p.1 p.2) r
def argE(l:List SV):En:=fun t=>match l[t]? with
 |some v=>v
 |none=>undefS
structure EnR(n:Nat)(e:En)(l:List SV):Prop where
 len:l.length=n
 nth:∀t,t<n→l[t]?=some (e t)
def evE(n:Nat)(e:En)(x:Operand):Option SV:=match x with
 |.tmp t=>bif Nat.blt t n then some (e t)else none
 |.const v=>constS v
 |.func f=>some (.fn f [] [])
 |.global _=>none
theorem evE_eq{n:Nat}{e:En}{l:List SV}(h:EnR n e l):evE n e=evalS l:=by
 funext x
 cases x with
 |tmp t=>
  simp only[evE,evalS]
  cases hb:Nat.blt t n with
  |true=>rw[cond_true,h.nth t (by rw[←Nat.blt_eq];exact hb)]
  |false=>
   rw[cond_false,List.getElem?_eq_none]
   rw[h.len]
   exact Nat.le_of_not_lt fun h2=>by rw[←Nat.blt_eq,hb]at h2;cases h2
 |const v=>rfl
 |func f=>rfl
 |global g=>rfl
def updD(e:En)(dst:Option Tmp)(v:SV):En:=match dst with
 |some d=>upd e d v
 |none=>e
theorem EnR.put{n:Nat}{e:En}{l:List SV}(h:EnR n e l)(dst:Option Tmp)(v:SV):EnR n (updD e dst v) (putS l dst v):=by
 cases dst with
 |none=>exact h
 |some d=>
  refine⟨by simp only[putS,List.length_set,h.len],fun t ht=>?_⟩
  simp only[putS,updD,upd]
  rw[List.getElem?_set]
  by_cases hd:d=t
  ·subst hd
   rw[if_pos rfl,if_pos (by rw[h.len];exact ht),Nat.beq_refl,cond_true]
  ·rw[if_neg hd,h.nth t ht]
   have:Nat.beq t d=false:=by
    cases hb:Nat.beq t d with
    |false=>rfl
    |true=>exact absurd (Nat.eq_of_beq_eq_true hb).symm hd
   rw[this,cond_false]
def evs(ev:Operand→Option SV):List Operand→Option (List SV)
 |[]=>some []
 |x::r=>(ev x).bind fun v=>(evs ev r).bind fun vs=>some (v::vs)
def prts (ev : Operand → Option SV) : List (Nat × Operand) → Option (List (Nat × SV))
  | [] => some []
  | (i, x) :: r => (ev x).bind fun v => (prts ev r).bind fun vs => some ((i, v) :: vs)
theorem evs_eq(l:List SV):∀xs,evs (evalS l) xs=evalsS l xs
 |[]=>rfl
 |x::r=>by simp only[evs,evalsS,evs_eq l r]
theorem prts_eq (l : List SV) : ∀ xs, prts (evalS l) xs = partsS l xs
  | [] => rfl
  | (i, x) :: r => by simp only [prts, partsS, prts_eq l r]
def wpO{α:Type}(o:Option α)(k:α→Prop):Prop:=match o with
 |some x=>k x
 |none=>False
theorem wpO_iff{α:Type}{o:Option α}{k:α→Prop}:wpO o k↔∃x,o=some x∧k x:=by
 cases o with
 |none=>simp[wpO]
 |some x=>simp[wpO]
theorem wpO_none{α:Type}{k:α→Prop}:wpO none k=False:=rfl
def callP(cfg:Cfg)(call:CallT)(rnd:Nat→List SV→Zt→Option (SV×Zt))(ev:Operand→Option SV)(S:Zt)(c:Call)(k:SV→Zt→Prop):Prop:=match c.callee with
 |.value f=>wpO (evs ev c.args.toList) fun args=>wpO (ev f) fun f=>wpO (applyS call rnd f args S) fun p=>k p.1 p.2
 |.builtin .append=>wpO (evs ev c.args.toList) fun args=>match c.argTypes.toList,args with
   |[t,u],[s,x]=>wpO (isZ cfg t) fun e=>wpO (isZ cfg u) fun _=>wpO (cfg.ty e) fun j=>wpO (appS j S s x) fun p=>k p.1 p.2
   |_,_=>False
 |.builtin .copy=>wpO (evs ev c.args.toList) fun args=>match c.argTypes.toList,args with
   |[t,_],[d,s]=>wpO (isZ cfg t) fun e=>wpO (cfg.ty e) fun j=>wpO (copyS j.size S d s) fun p=>k p.1 p.2
   |_,_=>False
 |.builtin .len=>wpO (evs ev c.args.toList) fun args=>match c.argTypes.toList,args with
   |t::_,x::_=>wpO (cfg.ty t) fun i=>wpO (lenS i x) fun v=>k v S
   |_,_=>False
 |.builtin .max=>wpO (evs ev c.args.toList) fun args=>match args with
   |x::r=>wpO (foldS max2S x r) fun v=>k v S
   |_=>False
 |.builtin .min=>wpO (evs ev c.args.toList) fun args=>match args with
   |x::r=>wpO (foldS min2S x r) fun v=>k v S
   |_=>False
 |_=>False
def opP(cfg:Cfg)(call:CallT)(rnd:Nat→List SV→Zt→Option (SV×Zt))(ev:Operand→Option SV)(S:Zt)(op:Op)(k:SV→Zt→Prop):Prop:=match op with
 |.move x=>wpO (ev x) fun v=>k v S
 |.assign x=>wpO (ev x) fun v=>k v S
 |.pick c a b=>wpO (ev c) fun c=>wpO (ev a) fun a=>wpO (ev b) fun b=>wpO (pickS c a b) fun v=>k v S
 |.build t ps=>wpO (cfg.ty t) fun i=>wpO (prts ev ps.toList) fun vs=>wpO (buildS cfg i vs) fun v=>k v S
 |.nilCheck x=>wpO (ev x) fun a=>wpO (nilS a) fun v=>k v S
 |.binOp op t x y _=>wpO (ev x) fun a=>wpO (ev y) fun b=>wpO (bnS op (cfg.ty t) a b) fun v=>k v S
 |.unOp op _ x=>wpO (ev x) fun a=>wpO (unS op a) fun v=>k v S
 |.convert c d x=>wpO (cfg.ty c) fun _=>wpO (cfg.ty d) fun i=>wpO (ev x) fun a=>wpO (convS i a) fun v=>k v S
 |.makeFunc (.func f) first cap=>wpO (evs ev first.toList) fun a=>wpO (evs ev cap.toList) fun b=>k (.fn f a b) S
 |.slice t x lo hi mx=>wpO (isZ cfg t) fun e=>wpO (cfg.ty e) fun j=>wpO (ev x) fun x=>
   wpO (slicS j x (lo.map fun o=>(ev o).getD .nilp) (hi.map fun o=>(ev o).getD .nilp) (mx.map fun o=>(ev o).getD .nilp)) fun v=>k v S
 |.fieldAddr t x f=>wpO (cfg.ty t) fun i=>wpO (ev x) fun p=>wpO (faS cfg i p f) fun v=>k v S
 |.field t x f=>wpO (cfg.ty t) fun i=>wpO (ev x) fun p=>wpO (fieldS cfg i p f) fun v=>k v S
 |.indexAddr t x ix=>wpO (cfg.ty t) fun i=>wpO (ev x) fun p=>wpO (ev ix) fun n=>wpO (ixS cfg i p n) fun v=>k v S
 |.index t x ix=>wpO (cfg.ty t) fun i=>wpO (ev x) fun p=>wpO (ev ix) fun n=>wpO (indexS cfg i p n) fun v=>k v S
 |.extract x ix=>wpO (ev x) fun a=>wpO (extS a ix) fun v=>k v S
 |.call c=>callP cfg call rnd ev S c k
 |.alloc t=>wpO (cfg.ty t) fun i=>wpO (alS i.zero S) fun p=>k p.1 p.2
 |.box t x=>wpO (cfg.ty t) fun _=>wpO (ev x) fun v=>wpO (alS v S) fun p=>k p.1 p.2
 |.buildSlice t len ps=>wpO (isZ cfg t) fun e=>wpO (cfg.ty e) fun j=>wpO (prts ev ps.toList) fun vs=>wpO (bslS j len vs S) fun p=>k p.1 p.2
 |.load t a=>wpO (cfg.ty t) fun i=>wpO (ev a) fun p=>wpO (ldS i S p) fun v=>k v S
 |.store t a x=>wpO (cfg.ty t) fun i=>wpO (ev a) fun p=>wpO (ev x) fun v=>wpO (stS i S p v) fun S'=>k undefS S'
 |.makeSlice t l c=>wpO (isZ cfg t) fun e=>wpO (cfg.ty e) fun j=>wpO (ev l) fun l=>wpO (ev c) fun c=>wpO (mkslS j l c S) fun p=>k p.1 p.2
 |_=>False
theorem callP_ok {cfg : Cfg} {call : CallT} {rnd : Nat → List SV → Zt → Option (SV × Zt)} {env : List SV} {S : Zt} {c : Call} {k : SV → Zt → Prop} (h : callP cfg call rnd (evalS env) S c k) : wpO (opS cfg call rnd env S (.call c)) (fun p => k p.1 p.2) := by
  obtain ⟨cl, cargs, ats⟩ := c
  cases cl with
  | invoke a b => cases h
  | value f =>
    simp only [callP, wpO_iff, evs_eq] at h
    obtain ⟨args, ha, fv, hf, p, hp, h⟩ := h
    have e0 : opS cfg call rnd env S (.call ⟨.value f, cargs, ats⟩) = applyS call rnd fv args S := by
      simp only [opS, ha, hf, Option.bind_some]
      cases fv <;> rfl
    rw [e0, hp]; exact h
  | builtin b =>
    cases b <;> (try cases h) <;> simp only [callP, wpO_iff, evs_eq] at h <;> obtain ⟨args, ha, h⟩ := h
    all_goals first
      | (split at h
         · rename_i t ts x xs hts
           obtain ⟨i, hi, v, hv, h⟩ := h
           simp only [opS, opT, ha, Option.bind_some, hts, hi, hv, Option.map_some]
           exact h
         · cases h)
      | (split at h
         · rename_i t u s x hts
           obtain ⟨e, he, e2, he2, j, hj, p, hp, h⟩ := h
           unfold appS at hp
           simp only [opS, ha, Option.bind_some, hts, he, he2, hj]
           rw [hp]; exact h
         · cases h)
      | (split at h
         · rename_i t u s x hts
           obtain ⟨e, he, j, hj, p, hp, h⟩ := h
           simp only [opS, ha, Option.bind_some, hts, he, hj]
           rw [hp]; exact h
         · cases h)
      | (split at h
         · rename_i x xs
           obtain ⟨v, hv, h⟩ := h
           simp only [opS, opT, ha, Option.bind_some, hv, Option.map_some]
           exact h
         · cases h)
theorem opP_ok {cfg : Cfg} {call : CallT} {rnd : Nat → List SV → Zt → Option (SV × Zt)} {env : List SV} {S : Zt} {op : Op} {k : SV → Zt → Prop} (h : opP cfg call rnd (evalS env) S op k) : wpO (opS cfg call rnd env S op) (fun p => k p.1 p.2) := by
  cases op
  case call c => exact callP_ok h
  case makeFunc fn first cap =>
    cases fn <;> try cases h
    simp only [opP, wpO_iff, evs_eq] at h
    obtain ⟨a, ha, b, hb, h⟩ := h
    simp only [opS, opT, ha, hb, Option.bind_some, Option.map_some]; exact h
  case pick c a b =>
    simp only [opP, wpO_iff] at h
    obtain ⟨c', hc, a', ha, b', hb, v, hv, h⟩ := h
    unfold pickS at hv
    split at hv
    · cases hv
      simp only [opS, opT, hc, ha, hb, Option.bind_some, Option.map_some]; exact h
    · cases hv
  case convert c d x =>
    simp only [opP, wpO_iff] at h
    obtain ⟨i, hi, j, hj, a, ha, v, hv, h⟩ := h
    unfold convS at hv
    split at hv
    · rename_i h1 h2
      cases hv
      simp only [opS, opT, hi, hj, ha, Option.bind_some, h1, h2, Option.map_some]; exact h
    · cases hv
  case nilCheck x =>
    simp only [opP, wpO_iff] at h
    obtain ⟨a, ha, v, hv, h⟩ := h
    unfold nilS at hv
    split at hv <;> cases hv <;> (simp only [opS, opT, ha, Option.bind_some, Option.map_some]; exact h)
  case extract x ix =>
    simp only [opP, wpO_iff] at h
    obtain ⟨a, ha, v, hv, h⟩ := h
    unfold extS at hv
    split at hv
    · simp only [opS, opT, ha, hv, Option.bind_some, Option.map_some]; exact h
    · cases hv
  case slice t x lo hi mx =>
    simp only [opP, wpO_iff] at h
    obtain ⟨e, he, j, hj, x', hx, v, hv, h⟩ := h
    unfold slicS at hv
    split at hv
    · cases hv
    · rename_i hz
      simp only [opS, opT, he, hj, hx, Option.bind_some]
      rw [if_neg hz, hv]
      exact h
  case alloc t =>
    simp only [opP, wpO_iff] at h
    obtain ⟨i, hi, p, hp, h⟩ := h
    unfold alS at hp
    simp only [opS, hi, Option.bind_some]
    rw [hp]; exact h
  case box t x =>
    simp only [opP, wpO_iff] at h
    obtain ⟨i, hi, v, hv, p, hp, h⟩ := h
    unfold alS at hp
    simp only [opS, hi, hv, Option.bind_some]
    rw [hp]; exact h
  case buildSlice t len ps =>
    simp only [opP, wpO_iff, prts_eq] at h
    obtain ⟨e, he, j, hj, vs, hvs, p, hp, h⟩ := h
    unfold bslS at hp
    simp only [opS, he, hj, hvs, Option.bind_some]
    rw [hp]; exact h
  case makeSlice t l c =>
    simp only [opP, wpO_iff] at h
    obtain ⟨e, he, j, hj, l', hl, c', hc, p, hp, h⟩ := h
    unfold mkslS at hp
    simp only [opS, he, hj, hl, hc, Option.bind_some]
    rw [hp]; exact h
  all_goals first
    | (cases h; done)
    | (simp only [opP, wpO_iff, prts_eq] at h
       obtain ⟨a, ha, h⟩ := h
       simp only [opS, opT, ha, Option.bind_some, Option.map_some]
       exact h)
    | (simp only [opP, wpO_iff, prts_eq] at h
       obtain ⟨a, ha, b, hb, h⟩ := h
       simp only [opS, opT, ha, hb, Option.bind_some, Option.map_some]
       exact h)
    | (simp only [opP, wpO_iff, prts_eq] at h
       obtain ⟨a, ha, b, hb, c, hc, h⟩ := h
       simp only [opS, opT, ha, hb, hc, Option.bind_some, Option.map_some]
       exact h)
    | (simp only [opP, wpO_iff, prts_eq] at h
       obtain ⟨a, ha, b, hb, c, hc, d, hd, h⟩ := h
       simp only [opS, opT, ha, hb, hc, hd, Option.bind_some, Option.map_some]
       exact h)
def grdP(v:Option SV)(want:Bool)(o:(SV→Zt→Prop)→Prop)(S:Zt)(k:SV→Zt→Prop):Prop:=match v with
 |some (.bool b)=>bif (bif want then b else !b)then o k else k undefS S
 |_=>k undefS S
def dstOf(ops:List Oper)(j:Nat):Option Nat:=(ops[j]?).bind (·.dst)
def quietE(cfg:Cfg)(ev:Operand→Option SV)(op:Op):Bool:=match op with
 |.call { callee:=.builtin _,.. }=>true
 |.call { callee:=.value f,.. }=>(match ev f with
  |some (.fn g _ _)=>cfg.mode g != .inpl
  |_=>false)
 |.call _=>false
 |_=>true
theorem quietE_eq{cfg:Cfg}{env:List SV}{op:Op}:quietE cfg (evalS env) op=quietCall cfg env op:=by
 cases op<;>rfl
def runP(cfg:Cfg)(call:CallT)(rnd:Nat→List SV→Zt→Option (SV×Zt))(n:Nat)(all:List Oper)(draw:Bool):Nat→List Oper→En→Zt→(En→Zt→Prop)→Prop
 |_,[],e,S,k=>k e S
 |i,o::r,e,S,k=>match o.guard with
  |none=>bif draw&&!quietE cfg (evE n e) o.op&&!lastOk all i then False else opP cfg call rnd (evE n e) S o.op fun v S'=>runP cfg call rnd n all draw (i+1) r (updD e o.dst v) S' k
  |some g=>bif draw&&!quietE cfg (evE n e) o.op&&!lastOk all i then False else
    grdP ((dstOf all g.1).bind fun t=>evE n e (.tmp t)) g.2 (opP cfg call rnd (evE n e) S o.op) S fun v S'=>runP cfg call rnd n all draw (i+1) r (updD e o.dst v) S' k
theorem runP_ok{cfg:Cfg}{call:CallT}{rnd:Nat→List SV→Zt→Option (SV×Zt)}{n:Nat}{all:List Oper}{draw:Bool}:∀(l:List Oper) (i:Nat) (e:En) (env:List SV) (S:Zt) (k:En→Zt→Prop),EnR n e env→runP cfg call rnd n all draw i l e S k→
  ∃env' e' S',runOps cfg call rnd all draw i l env S=some (env',S')∧EnR n e' env'∧k e' S'
 |[],i,e,env,S,k,he,h=>⟨env,e,S,rfl,he,h⟩
 |o::r,i,e,env,S,k,he,h=>by
  simp only[runP]at h
  rw[evE_eq he]at h
  rw[quietE_eq]at h
  split at h
  ·rename_i hg
   simp only[runOps]
   rw[if_pos (show wantedS all env o=true by unfold wantedS;rw[hg])]
   cases hb:(draw&&!quietCall cfg env o.op&&!lastOk all i)with
   |true=>rw[hb]at h;cases h
   |false=>
    rw[hb]at h
    simp only[cond_false]at h
    rw[if_neg (by simp)]
    have h2:=opP_ok h
    rw[wpO_iff]at h2
    obtain⟨p,hp,h2⟩:=h2
    rw[hp]
    exact runP_ok r _ _ _ _ _ (he.put _ _) h2
  ·rename_i g hg
   cases hb:(draw&&!quietCall cfg env o.op&&!lastOk all i)with
   |true=>rw[hb]at h;cases h
   |false=>
    rw[hb]at h
    simp only[cond_false]at h
    simp only[runOps]
    have hw:wantedS all env o=match((dstOf all g.1).bind (env[·]?))with|some (.bool b)=>(bif g.2 then b else !b)|_=>false:=by
     unfold wantedS yieldedS dstOf
     rw[hg]
     obtain⟨j,want⟩:=g
     simp only[]
     split<;>split<;>simp_all
     rename_i b _ _ _ _
     cases want<;>cases b<;>rfl
    have hd:((dstOf all g.1).bind fun t=>evalS env (.tmp t))=((dstOf all g.1).bind (env[·]?)):=rfl
    rw[hd]at h
    unfold grdP at h
    split at h
    ·rename_i b hv
     rw[hv]at hw
     simp only[]at hw
     cases hc:(bif g.2 then b else !b)with
     |true=>
      rw[hc]at h hw
      simp only[cond_true]at h
      rw[if_pos hw,if_neg (by rw[hb];simp)]
      have h2:=opP_ok h
      rw[wpO_iff]at h2
      obtain⟨q,hq,h2⟩:=h2
      rw[hq]
      exact runP_ok r _ _ _ _ _ (he.put _ _) h2
     |false=>
      rw[hc]at h hw
      simp only[cond_false]at h
      rw[if_neg (by rw[hw];simp)]
      exact runP_ok r _ _ _ _ _ (he.put _ _) h
    ·rename_i hv
     have:wantedS all env o=false:=by
      rw[hw]
      split
      ·rename_i b hb2
       exact absurd hb2 (by intro e;exact hv b e)
      ·rfl
     rw[if_neg (by rw[this];simp)]
     exact runP_ok r _ _ _ _ _ (he.put _ _) h
def condP(v:SV)(a b:Prop):Prop:=match v with
 |.bool t=>bif t then a else b
 |_=>False
def DenP(cfg:Cfg)(n:Nat)(c:Code)(e:En)(S:Zt)(k:X→En→Zt→Prop):Prop:=
 ∀l,EnR n e l→∃x l' e' S',denW cfg c ⟨l,S⟩=some (x,⟨l',S'⟩)∧EnR n e' l'∧k x e' S'
theorem DenP.mono{cfg:Cfg}{n:Nat}{c:Code}{e:En}{S:Zt}{k k':X→En→Zt→Prop}(h:DenP cfg n c e S k)(f:∀x e S,k x e S→k' x e S):DenP cfg n c e S k':=fun l he=>by
 obtain⟨x,l',e',S',h1,h2,h3⟩:=h l he
 exact⟨x,l',e',S',h1,h2,f _ _ _ h3⟩
def wpC(cfg:Cfg)(n:Nat)(c:Code)(e:En)(S:Zt)(k:X→En→Zt→Prop):Prop:=match c with
 |.skip=>k .nrm e S
 |.region _ ops draw=>runP cfg (cW cfg) (rW cfg) n ops.toList draw 0 ops.toList e S (fun e S=>k .nrm e S)
 |.seq a b=>wpC cfg n a e S (fun x e S=>match x with
  |.nrm=>wpC cfg n b e S k
  |.ret=>k .ret e S
  |.exit id=>k (.exit id) e S)
 |.cond x a b=>wpO (evE n e x) fun v=>condP v (wpC cfg n a e S k) (wpC cfg n b e S k)
 |.block id a=>wpC cfg n a e S (fun x e S=>match x with
  |.nrm=>k .nrm e S
  |.ret=>k .ret e S
  |.exit i=>bif Nat.beq i id then k .nrm e S else k (.exit i) e S)
 |.loop a=>DenP cfg n (.loop a) e S k
 |.exit id=>k (.exit id) e S
 |.ret=>k .ret e S
 |.rangeFunc f ps as bd=>DenP cfg n (.rangeFunc f ps as bd) e S k
 |_=>False
theorem wpC_ok{cfg:Cfg}{n:Nat}:∀(c:Code) (e:En) (S:Zt) (k:X→En→Zt→Prop),wpC cfg n c e S k→DenP cfg n c e S k:=by
 intro c
 induction c with
 |skip=>intro e S k h l he;exact⟨.nrm,l,e,S,denW_skip _,he,h⟩
 |ret=>intro e S k h l he;exact⟨.ret,l,e,S,denW_ret _,he,h⟩
 |exit id=>intro e S k h l he;exact⟨.exit id,l,e,S,denW_exit _ _,he,h⟩
 |region i ops draw=>
  intro e S k h l he
  obtain⟨l',e',S',h1,h2,h3⟩:=runP_ok _ _ _ _ _ _ he h
  exact⟨.nrm,l',e',S',by rw[denW_region,h1];rfl,h2,h3⟩
 |seq a b iha ihb=>
  intro e S k h l he
  obtain⟨x,l1,e1,S1,h1,h2,h3⟩:=iha _ _ _ h l he
  cases x with
  |nrm=>
   obtain⟨y,l2,e2,S2,h4,h5,h6⟩:=ihb _ _ _ h3 l1 h2
   exact⟨y,l2,e2,S2,by rw[denW_seq,h1];exact h4,h5,h6⟩
  |ret=>exact⟨.ret,l1,e1,S1,by rw[denW_seq,h1];rfl,h2,h3⟩
  |exit id=>exact⟨.exit id,l1,e1,S1,by rw[denW_seq,h1];rfl,h2,h3⟩
 |cond x a b iha ihb=>
  intro e S k h l he
  simp only[wpC,wpO_iff]at h
  obtain⟨v,hv,h⟩:=h
  rw[evE_eq he]at hv
  rw[denW_cond,hv]
  cases v<;>try cases h
  rename_i t
  cases t with
  |true=>exact iha _ _ _ h l he
  |false=>exact ihb _ _ _ h l he
 |block id a iha=>
  intro e S k h l he
  obtain⟨x,l1,e1,S1,h1,h2,h3⟩:=iha _ _ _ h l he
  rw[denW_block,h1]
  cases x with
  |nrm=>exact⟨.nrm,l1,e1,S1,rfl,h2,h3⟩
  |ret=>exact⟨.ret,l1,e1,S1,rfl,h2,h3⟩
  |exit i=>
   simp only[]at h3
   cases hb:Nat.beq i id with
   |true=>
    rw[hb]at h3
    exact⟨.nrm,l1,e1,S1,by rw[Option.map_some,if_pos (by rw[Nat.eq_of_beq_eq_true hb])],h2,h3⟩
   |false=>
    rw[hb]at h3
    exact⟨.exit i,l1,e1,S1,by rw[Option.map_some,if_neg (by intro e;cases e;rw[Nat.beq_refl]at hb;cases hb)],h2,h3⟩
 |loop a iha=>intro e S k h;exact h
 |rangeFunc f ps as bd _ _=>intro e S k h;exact h
 |scope a _=>intro e S k h;cases h
 |label a=>intro e S k h;cases h
 |goto a=>intro e S k h;cases h
 |refuse a=>intro e S k h;cases h
def cont(cfg:Cfg)(n:Nat):List Nat→Code→(X→En→Zt→Prop)→X→En→Zt→Prop
 |[],_,k=>k
 |0::p,.seq a b,k=>cont cfg n p a (fun x e S=>match x with
  |.nrm=>wpC cfg n b e S k
  |.ret=>k .ret e S
  |.exit id=>k (.exit id) e S)
 |1::p,.seq a b,k=>cont cfg n p b k
 |0::p,.cond x a b,k=>cont cfg n p a k
 |1::p,.cond x a b,k=>cont cfg n p b k
 |0::p,.block id a,k=>cont cfg n p a (fun x e S=>match x with
  |.nrm=>k .nrm e S
  |.ret=>k .ret e S
  |.exit i=>bif Nat.beq i id then k .nrm e S else k (.exit i) e S)
 |_,_,_=>fun _ _ _=>False
def cA:List Nat→Code→Code
 |[],c=>c
 |0::p,.seq a b=>cA p a
 |1::p,.seq a b=>cA p b
 |0::p,.cond x a b=>cA p a
 |1::p,.cond x a b=>cA p b
 |0::p,.block id a=>cA p a
 |0::p,.loop a=>cA p a
 |_,_=>.skip
def bodyOf(fn:Func):Code:=match fn.body with
 |some c=>c
 |none=>.skip
def resE(cfg:Cfg)(n:Nat)(e:En)(S:Zt)(k:List SV→Prop):List ResultVar→Prop
 |[]=>k []
 |.tmp t::r=>wpO (evE n e (.tmp t)) fun v=>resE cfg n e S (fun vs=>k (v::vs)) r
 |.cell t ty::r=>wpO (cfg.ty ty) fun i=>wpO (evE n e (.tmp t)) fun p=>wpO (ldS i S p) fun v=>resE cfg n e S (fun vs=>k (v::vs)) r
theorem resE_ok{cfg:Cfg}{n:Nat}{e:En}{l:List SV}(he:EnR n e l){S:Zt}:∀(rs:List ResultVar) (k:List SV→Prop),resE cfg n e S k rs→∃vs,resultS cfg l S rs=some vs∧k vs
 |[],k,h=>⟨[],rfl,h⟩
 |.tmp t::r,k,h=>by
  simp only[resE,wpO_iff]at h
  obtain⟨v,hv,h⟩:=h
  rw[evE_eq he]at hv
  obtain⟨vs,h1,h2⟩:=resE_ok he r _ h
  refine⟨v::vs,?_,h2⟩
  have hv':l[t]?=some v:=hv
  simp only[resultS,hv',h1,Option.bind_some,Option.map_some]
 |.cell t ty::r,k,h=>by
  simp only[resE,wpO_iff]at h
  obtain⟨i,hi,p,hp,v,hv,h⟩:=h
  rw[evE_eq he]at hp
  obtain⟨vs,h1,h2⟩:=resE_ok he r _ h
  refine⟨v::vs,?_,h2⟩
  have hp':l[t]?=some p:=hp
  simp only[resultS,hi,hp',hv,h1,Option.bind_some,Option.map_some]
def outP(cfg:Cfg)(fn:Func)(Q:SV→Zt→Prop)(x:X)(e:En)(S:Zt):Prop:=match x with
 |.exit _=>False
 |_=>bif hasRange (bodyOf fn)&&!noLoops S then False else resE cfg fn.ntmps e S (fun vs=>Q (packS vs) S) fn.results.toList
theorem argE_ok{l:List SV}{n:Nat}(h:l.length≤n):EnR n (argE l) (l++List.replicate (n-l.length) undefS):=by
 refine⟨by simp;omega,fun t ht=>?_⟩
 unfold argE
 by_cases hl:t<l.length
 ·rw[List.getElem?_append_left hl,List.getElem?_eq_getElem hl]
 ·rw[List.getElem?_append_right (by omega),List.getElem?_replicate,if_pos (by omega),List.getElem?_eq_none (by omega)]
theorem bo{cfg:Cfg}{f:FuncId}{fn:Func}{args:List SV}{S:Zt}{Q:SV→Zt→Prop}(hf:cfg.fns f=some fn)(hb:fn.body.isSome=true)(hn:args.length≤fn.ntmps)
  (h:wpC cfg fn.ntmps (bodyOf fn) (argE args) S (outP cfg fn Q)):wpO (bW cfg f args S) (fun p=>Q p.1 p.2):=by
 obtain⟨c,hc⟩:=Option.isSome_iff_exists.1 hb
 have hcb:bodyOf fn=c:=by unfold bodyOf;rw[hc]
 rw[hcb]at h
 obtain⟨x,l',e',S',h1,h2,h3⟩:=wpC_ok _ _ _ _ h _ (argE_ok hn)
 rw[bodyW_eq,hf]
 simp only[Option.bind_some,hc]
 rw[h1]
 simp only[Option.bind_some]
 have fin:(bif hasRange (bodyOf fn)&&!noLoops S' then False else resE cfg fn.ntmps e' S' (fun vs=>Q (packS vs) S') fn.results.toList)→
   wpO (if hasRange c=true∧¬noLoops S'=true then none else(resultS cfg l' S' fn.results.toList).map fun vs=>(packS vs,S')) (fun p=>Q p.1 p.2):=by
  intro h
  rw[hcb]at h
  cases hb2:(hasRange c&&!noLoops S')with
  |true=>rw[hb2]at h;cases h
  |false=>
   rw[hb2,cond_false]at h
   rw[if_neg (by intro ⟨a,b⟩;simp[a,b]at hb2)]
   obtain⟨vs,k1,k2⟩:=resE_ok h2 _ _ h
   rw[k1];exact k2
 cases x with
 |nrm=>exact fin h3
 |ret=>exact fin h3
 |exit id=>cases h3
def againP(cfg:Cfg)(n:Nat)(b:Code)(k:X→En→Zt→Prop)(x:X)(e:En)(S:Zt):Prop:=match x with
 |.nrm=>DenP cfg n (.loop b) e S k
 |.ret=>k .ret e S
 |.exit id=>k (.exit id) e S
theorem loopP_of{cfg:Cfg}{n:Nat}{b:Code}{e:En}{S:Zt}{k:X→En→Zt→Prop}(h:wpC cfg n b e S (againP cfg n b k)):DenP cfg n (.loop b) e S k:=by
 intro l he
 obtain⟨x,l1,e1,S1,h1,h2,h3⟩:=wpC_ok _ _ _ _ h l he
 rw[denW_loop,h1]
 cases x with
 |nrm=>exact h3 l1 h2
 |ret=>exact⟨.ret,l1,e1,S1,rfl,h2,h3⟩
 |exit id=>exact⟨.exit id,l1,e1,S1,rfl,h2,h3⟩
theorem po{cfg:Cfg}{f:FuncId}{args:List SV}{Q:SV→Prop}(ho:cfg.orc f args=none)(h:wpO (bW cfg f args []) (fun p=>wpO (frz p.2 dS p.1) Q)):wpO (pW cfg f args) Q:=by
 rw[pureW_eq,ho]
 rw[wpO_iff]at h
 obtain⟨p,hp,h⟩:=h
 simp only[hp,Option.bind_some]
 exact h
end Go.Sh
