/-
  The machine of this program, and tables of finished calls.
-/
import Derived.Test.YtilhffelllbggaaGreatMD
import Derived.KernelRfl
import Derived.Test.YtilhffelllbggaaGreatProg
set_option linter.unusedVariables false
set_option linter.unusedSimpArgs false
set_option maxRecDepth 100000
namespace Go.Proofs
open Go.Sh
theorem allFn:Tryz.prog.funcs.all okFn=true:=by kernel_rfl
theorem mixd:Tryz.prog.follows .mixedOrders=true:=by kernel_rfl
def modeT(f:FuncId):Sh.Mode:=if [61,62,65,78,134,139,151,180,202,209,220,221,222,251,265,283,293].contains f then .inpl else if [59,60,63,156,200,228,248,254,282,290,295].contains f then .fresh else .pure
end Go.Proofs
namespace Go.Sh
def beqLS(f:SV→SV→Bool):List SV→List SV→Bool
 |[],[]=>true
 |a::r,b::s=>cond (f a b) (beqLS f r s) false
 |_,_=>false
def beqC(a b:VC):Bool:=match a,b with
 |.nil,.nil=>true
 |.exact,.exact=>true
 |.loose,.loose=>true
 |_,_=>false
def beqB(a b:Bool):Bool:=cond a b (!b)
def beqSV:Nat→SV→SV→Bool
 |0,_,_=>false
 |n+1,a,b=>match a,b with
  |.int k x,.int k' y=>cond (eqI x y) (beqK k k') false
  |.bool x,.bool y=>beqB x y
  |.nilp,.nilp=>true
  |.nilf,.nilf=>true
  |.nili,.nili=>true
  |.agg l,.agg m=>beqLS (beqSV n) l m
  |.tup l,.tup m=>beqLS (beqSV n) l m
  |.vsl l c,.vsl m d=>cond (beqC c d) (beqLS (beqSV n) l m) false
  |.vptr x,.vptr y=>beqSV n x y
  |.fn f l m,.fn g l' m'=>cond (Nat.beq f g) (cond (beqLS (beqSV n) l l') (beqLS (beqSV n) m m') false) false
  |_,_=>false
theorem beqLS_ok{f:SV→SV→Bool}(h:∀a b,f a b=true→a=b):∀{l m:List SV},beqLS f l m=true→l=m
 |[],[],_=>rfl
 |a::r,b::s,e=>by
  simp only[beqLS]at e
  cases hf:f a b with
  |false=>rw[hf]at e;cases e
  |true=>rw[hf]at e;rw[h a b hf,beqLS_ok h e]
 |[],_::_,e=>by cases e
 |_::_,[],e=>by cases e
theorem beqC_ok{a b:VC}(h:beqC a b=true):a=b:=by cases a<;>cases b<;>first|rfl|cases h
theorem beqB_ok{a b:Bool}(h:beqB a b=true):a=b:=by cases a<;>cases b<;>first|rfl|cases h
theorem eqI_ok{a b:Int}(h:eqI a b=true):a=b:=by rw[eqI_eq]at h;simpa using h
theorem beqK_ok{a b:IntKind}(h:beqK a b=true):a=b:=by unfold beqK at h;split at h;assumption;cases h
theorem beqSV_ok:∀(n:Nat) (a b:SV),beqSV n a b=true→a=b
 |0,_,_,h=>by cases h
 |n+1,a,b,h=>by
  have ih:=beqSV_ok n
  unfold beqSV at h
  split at h
  ·rename_i k x k' y
   cases he:eqI x y with
   |false=>rw[he]at h;cases h
   |true=>rw[he]at h;rw[eqI_ok he,beqK_ok h]
  ·rw[beqB_ok h]
  ·rfl
  ·rfl
  ·rfl
  ·rw[beqLS_ok ih h]
  ·rw[beqLS_ok ih h]
  ·rename_i l c m d
   cases he:beqC c d with
   |false=>rw[he]at h;cases h
   |true=>rw[he]at h;rw[beqC_ok he,beqLS_ok ih h]
  ·rw[ih _ _ h]
  ·rename_i f l m g l' m'
   cases h1:Nat.beq f g with
   |false=>rw[h1]at h;cases h
   |true=>
    rw[h1,cond_true]at h
    cases h2:beqLS (beqSV n) l l' with
    |false=>rw[h2]at h;cases h
    |true=>
     rw[h2,cond_true]at h
     rw[Nat.eq_of_beq_eq_true h1,beqLS_ok ih h2,beqLS_ok ih h]
  ·cases h
structure Ent where
 f:Nat
 a:List SV
 v:SV
noncomputable def lookE(es:List Ent)(f:FuncId)(args:List SV):Option SV:=
 List.rec none (fun e _ ih=>cond (Nat.beq e.f f) (cond (beqLS (beqSV 12) e.a args) (some e.v) ih) ih) es
theorem lookE_ok{es:List Ent}{f:FuncId}{args:List SV}{v:SV}(h:lookE es f args=some v):∃e∈es,e.f=f∧e.a=args∧e.v=v:=by
 induction es with
 |nil=>cases h
 |cons e r ih=>
  have e0:lookE (e::r) f args=cond (Nat.beq e.f f) (cond (beqLS (beqSV 12) e.a args) (some e.v) (lookE r f args)) (lookE r f args):=rfl
  rw[e0]at h
  cases h1:Nat.beq e.f f with
  |false=>
   rw[h1,cond_false]at h
   obtain⟨x,hx,y⟩:=ih h
   exact⟨x,List.mem_cons_of_mem _ hx,y⟩
  |true=>
   rw[h1,cond_true]at h
   cases h2:beqLS (beqSV 12) e.a args with
   |false=>
    rw[h2,cond_false]at h
    obtain⟨x,hx,y⟩:=ih h
    exact⟨x,List.mem_cons_of_mem _ hx,y⟩
   |true=>
    rw[h2,cond_true]at h
    cases h
    exact⟨e,List.mem_cons_self,Nat.eq_of_beq_eq_true h1,beqLS_ok (beqSV_ok 12) h2,rfl⟩
def fitE(v:SV)(o:Option (SV×Q)):Bool:=match o with
 |some (u,(_,[]))=>beqSV 12 u v
 |_=>false
theorem fitE_ok{v:SV}{o:Option (SV×Q)}(h:fitE v o=true):∃t,o=some (v,(t,[])):=by
 unfold fitE at h
 split at h
 ·rename_i u t
  exact⟨t,by rw[beqSV_ok _ _ _ h]⟩
 ·cases h
end Go.Sh
namespace Go.Proofs
open Go.Sh
noncomputable def cfgE(es:List Ent):Cfg:=cfgOf Tryz.prog modeT (lookE es)
def Gd(e:Ent):Prop:=PureOk Tryz.prog e.f e.a e.v
noncomputable def chk(es:List Ent)(e:Ent):Bool:=fitE e.v (pureCallF (cfgE es) 400 e.f e.a .off)
theorem good_of{es:List Ent}{e:Ent}(hes:∀x∈es,Gd x)(h:chk es e=true):Gd e:=by
 obtain⟨t,ht⟩:=fitE_ok h
 refine pureOk_of (cfg:=cfgE es) (cfgOf_ok mixd allFn ?_) ht (fun p hp=>by cases hp)
 intro f args v hl
 obtain⟨x,hx,rfl,rfl,rfl⟩:=lookE_ok hl
 exact hes x hx
def AllG:List Ent→Prop
 |[]=>True
 |e::r=>Gd e∧AllG r
theorem allG:∀{es:List Ent},AllG es→∀x∈es,Gd x
 |_::_,⟨h,_⟩,_,.head _=>h
 |_::_,⟨_,h⟩,x,.tail _ hx=>allG h x hx
theorem gA(es:List Ent){e:Ent}(hes:AllG es)(h:chk es e=true):Gd e:=good_of (allG hes) h
end Go.Proofs
