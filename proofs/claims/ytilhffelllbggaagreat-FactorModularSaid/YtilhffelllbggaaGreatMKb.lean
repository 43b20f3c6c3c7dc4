/-
  Plain laws: rings of polynomials modulo a prime and modulo a polynomial; which powers of the variable are the variable; derivatives.
-/
import Derived.Test.YtilhffelllbggaaGreatMKa
set_option linter.unusedVariables false
set_option linter.unusedSimpArgs false
namespace Go.Proofs.Pl
theorem PF.npow{f:Int→Int}(h:PF f):∀n:Nat,PF (fun x=>f x^n)
 |0=>(PF.const 1).congr (fun x=>by simp)
 |n+1=>((PF.npow h n).mul h).congr (fun x=>by rw[Int.pow_succ])
structure Pf where
 f:Int→Int
 h:PF f
structure Idl where
 I:(Int→Int)→Prop
 zero:I (fun _=>0)
 add:∀{f g:Int→Int},I f→I g→I (fun x=>f x+g x)
 mul:∀{f g:Int→Int},I f→PF g→I (fun x=>f x*g x)
theorem Idl.cg(J:Idl){f g:Int→Int}(h:J.I f)(e:∀x,g x=f x):J.I g:=by
 have:g=f:=funext e
 rw[this];exact h
def Idl.st(J:Idl):Setoid Pf where
 r a b:=J.I (fun x=>a.f x-b.f x)
 iseqv:={
  refl:=fun a=>J.cg J.zero (fun x=>by omega)
  symm:=fun {a b} h=>J.cg (J.mul h (PF.const (-1))) (fun x=>by omega)
  trans:=fun {a b c} h g=>J.cg (J.add h g) (fun x=>by omega) }
def Rg(J:Idl):Type:=Quotient J.st
def Rg.mk(J:Idl)(a:Pf):Rg J:=Quotient.mk J.st a
theorem Rg.snd{J:Idl}{a b:Pf}(h:J.I (fun x=>a.f x-b.f x)):Rg.mk J a=Rg.mk J b:=Quotient.sound h
theorem Rg.ext{J:Idl}{a b:Pf}(h:Rg.mk J a=Rg.mk J b):J.I (fun x=>a.f x-b.f x):=Quotient.exact h
theorem Rg.eq{J:Idl}{a b:Pf}(h:∀x,a.f x=b.f x):Rg.mk J a=Rg.mk J b:=Rg.snd (J.cg J.zero (fun x=>by rw[h];omega))
theorem Rg.ind{J:Idl}{P:Rg J→Prop}(h:∀a,P (Rg.mk J a))(x:Rg J):P x:=Quotient.ind h x
@[reducible] def Pf.add(a b:Pf):Pf:=⟨fun x=>a.f x+b.f x,a.h.add b.h⟩
@[reducible] def Pf.sub(a b:Pf):Pf:=⟨fun x=>a.f x-b.f x,a.h.sub b.h⟩
@[reducible] def Pf.mul(a b:Pf):Pf:=⟨fun x=>a.f x*b.f x,a.h.mul b.h⟩
@[reducible] def Pf.neg(a:Pf):Pf:=⟨fun x=>- a.f x,a.h.neg⟩
@[reducible] def Pf.pow(a:Pf)(n:Nat):Pf:=⟨fun x=>a.f x^n,a.h.npow n⟩
@[reducible] def Pf.C(c:Int):Pf:=⟨fun _=>c,PF.const c⟩
theorem pow_sub_dvd(a b:Int→Int)(ha:PF a)(hb:PF b):∀n:Nat,∃g,PF g∧∀x,a x^n-b x^n=(a x-b x)*g x
 |0=>⟨fun _=>0,PF.const 0,fun x=>by simp⟩
 |n+1=>by
  obtain⟨g,hg,e⟩:=pow_sub_dvd a b ha hb n
  exact⟨fun x=>g x*a x+b x^n,(hg.mul ha).add (hb.npow n),fun x=>by
   have:=e x
   rw[Int.pow_succ,Int.pow_succ];grind⟩
variable {J:Idl}
instance :Add (Rg J):=⟨fun a b=>Quotient.lift₂ (fun a b=>Rg.mk J (Pf.add a b)) (fun a b c d (h:J.I _) (g:J.I _)=>Rg.snd (J.cg (J.add h g) (fun x=>by simp only[];omega))) a b⟩
instance :Sub (Rg J):=⟨fun a b=>Quotient.lift₂ (fun a b=>Rg.mk J (Pf.sub a b)) (fun a b c d (h:J.I _) (g:J.I _)=>Rg.snd (J.cg (J.add h (J.mul g (PF.const (-1)))) (fun x=>by simp only[];omega))) a b⟩
instance :Mul (Rg J):=⟨fun a b=>Quotient.lift₂ (fun a b=>Rg.mk J (Pf.mul a b)) (fun a b c d (h:J.I _) (g:J.I _)=>Rg.snd (J.cg (J.add (J.mul h b.h) (J.mul g c.h)) (fun x=>by simp only[];grind))) a b⟩
instance :Neg (Rg J):=⟨fun a=>Quotient.lift (fun a=>Rg.mk J (Pf.neg a)) (fun a b (h:J.I _)=>Rg.snd (J.cg (J.mul h (PF.const (-1))) (fun x=>by simp only[];omega))) a⟩
instance :Pow (Rg J) Nat:=⟨fun a n=>Quotient.lift (fun a=>Rg.mk J (Pf.pow a n)) (fun a b (h:J.I _)=>by
 obtain⟨g,hg,e⟩:=pow_sub_dvd a.f b.f a.h b.h n
 exact Rg.snd (J.cg (J.mul h hg) e)) a⟩
def Rg.C(J:Idl)(c:Int):Rg J:=Rg.mk J (Pf.C c)
instance (n:Nat):OfNat (Rg J) n:=⟨Rg.C J n⟩
instance :Dvd (Rg J):=⟨fun a b=>∃c,b=a*c⟩
theorem Rg.sub_z{a b:Rg J}:a-b=0↔a=b:=by
 induction a using Rg.ind with
 |h a=>
 induction b using Rg.ind with
 |h b=>
 exact⟨fun h=>Rg.snd (J.cg (Rg.ext (show Rg.mk J (Pf.sub a b)=Rg.mk J (Pf.C 0) from h)) (fun x=>by simp)),
  fun h=>Rg.snd (J.cg (Rg.ext h) (fun x=>by simp))⟩
theorem Rg.mul_c(a b:Rg J):a*b=b*a:=by
 revert a b
 exact Rg.ind fun a=>Rg.ind fun b=>Rg.eq fun x=>by grind
theorem Rg.mul_a(a b c:Rg J):a*b*c=a*(b*c):=by
 revert a b c
 exact Rg.ind fun a=>Rg.ind fun b=>Rg.ind fun c=>Rg.eq fun x=>by grind
theorem Rg.mul_1(a:Rg J):a*1=a:=by
 revert a
 exact Rg.ind fun a=>Rg.eq fun x=>by grind
theorem Rg.one_m(a:Rg J):1*a=a:=by
 revert a
 exact Rg.ind fun a=>Rg.eq fun x=>by grind
theorem Rg.mul_0(a:Rg J):a*0=0:=by
 revert a
 exact Rg.ind fun a=>Rg.eq fun x=>by grind
theorem Rg.zero_m(a:Rg J):0*a=0:=by
 revert a
 exact Rg.ind fun a=>Rg.eq fun x=>by grind
theorem Rg.add_0(a:Rg J):a+0=a:=by
 revert a
 exact Rg.ind fun a=>Rg.eq fun x=>by grind
theorem Rg.zero_a(a:Rg J):0+a=a:=by
 revert a
 exact Rg.ind fun a=>Rg.eq fun x=>by grind
theorem Rg.dist(a b c:Rg J):a*(b+c)=a*b+a*c:=by
 revert a b c
 exact Rg.ind fun a=>Rg.ind fun b=>Rg.ind fun c=>Rg.eq fun x=>by grind
theorem Rg.sub_d(a b c:Rg J):a*b-a*c=a*(b-c):=by
 revert a b c
 exact Rg.ind fun a=>Rg.ind fun b=>Rg.ind fun c=>Rg.eq fun x=>by grind
theorem Rg.pow_s(a:Rg J)(n:Nat):a^(n+1)=a^n*a:=by
 revert a
 exact Rg.ind fun a=>Rg.eq fun x=>Int.pow_succ _ _
theorem Rg.pow_0(a:Rg J):a^0=1:=by
 revert a
 exact Rg.ind fun a=>Rg.eq fun x=>Int.pow_zero _
theorem Rg.pow_1(a:Rg J):a^1=a:=by
 revert a
 exact Rg.ind fun a=>Rg.eq fun x=>by grind
theorem Rg.pow_a(a:Rg J)(n m:Nat):a^(n+m)=a^n*a^m:=by
 revert a
 exact Rg.ind fun a=>Rg.eq fun x=>Int.pow_add _ _ _
theorem Rg.pow_m(a:Rg J)(n m:Nat):a^(n*m)=(a^n)^m:=by
 revert a
 exact Rg.ind fun a=>Rg.eq fun x=>Int.pow_mul
theorem Rg.mul_pow(a b:Rg J)(n:Nat):(a*b)^n=a^n*b^n:=by
 revert a b
 exact Rg.ind fun a=>Rg.ind fun b=>Rg.eq fun x=>Int.mul_pow
theorem Rg.C_add(a b:Int):Rg.C J (a+b)=Rg.C J a+Rg.C J b:=Rg.eq fun x=>rfl
theorem Rg.C_sub(a b:Int):Rg.C J (a-b)=Rg.C J a-Rg.C J b:=Rg.eq fun x=>rfl
theorem Rg.C_mul(a b:Int):Rg.C J (a*b)=Rg.C J a*Rg.C J b:=Rg.eq fun x=>rfl
theorem Rg.C_pow(a:Int)(n:Nat):Rg.C J (a^n)=Rg.C J a^n:=Rg.eq fun x=>rfl
theorem Rg.C_0:Rg.C J 0=0:=rfl
theorem Rg.C_1:Rg.C J 1=1:=rfl
theorem Rg.by1{a b c d w:Rg J}(h:a=b)(e:c-d=(a-b)*w):c=d:=by
 rw[←Rg.sub_z,e,Rg.sub_z.2 h,Rg.zero_m]
theorem dv_refl(a:Rg J):a∣a:=⟨1,(Rg.mul_1 a).symm⟩
theorem dv_trans{a b c:Rg J}(h:a∣b)(g:b∣c):a∣c:=by
 obtain⟨u,rfl⟩:=h
 obtain⟨v,rfl⟩:=g
 exact⟨u*v,Rg.mul_a _ _ _⟩
theorem dv_mul{a b:Rg J}(c:Rg J)(h:a∣b):a∣b*c:=by
 obtain⟨u,rfl⟩:=h
 exact⟨u*c,Rg.mul_a _ _ _⟩
theorem dv_mul'{a b:Rg J}(c:Rg J)(h:a∣b):a∣c*b:=by rw[Rg.mul_c];exact dv_mul c h
theorem dv_add{a b c:Rg J}(h:a∣b)(g:a∣c):a∣b+c:=by
 obtain⟨u,rfl⟩:=h
 obtain⟨v,rfl⟩:=g
 exact⟨u+v,(Rg.dist _ _ _).symm⟩
theorem dv_sub{a b c:Rg J}(h:a∣b)(g:a∣c):a∣b-c:=by
 obtain⟨u,rfl⟩:=h
 obtain⟨v,rfl⟩:=g
 refine⟨u-v,Rg.sub_d a u v⟩
theorem dv_zero(a:Rg J):a∣0:=⟨0,(Rg.mul_0 a).symm⟩
theorem dv_l(a b:Rg J):a∣a*b:=⟨b,rfl⟩
theorem dv_r(a b:Rg J):b∣a*b:=⟨a,Rg.mul_c _ _⟩
end Go.Proofs.Pl
namespace Go.Proofs.Pl
def Jp(p:Nat):Idl where
 I f:=∃h,PF h∧∀x,f x=p*h x
 zero:=⟨fun _=>0,PF.const 0,fun x=>by simp⟩
 add:=fun {f g} ⟨h,hh,e⟩ ⟨k,hk,e2⟩=>⟨fun x=>h x+k x,hh.add hk,fun x=>by have:=e x;have:=e2 x;grind⟩
 mul:=fun {f g} ⟨h,hh,e⟩ hg=>⟨fun x=>h x*g x,hh.mul hg,fun x=>by have:=e x;grind⟩
abbrev Fx(p:Nat):=Rg (Jp p)
theorem fx_eq{p:Nat}{a b:Pf}:Rg.mk (Jp p) a=Rg.mk (Jp p) b↔Cg p a.f b.f:=by
 constructor
 ·intro h
  obtain⟨k,hk,e⟩:=Rg.ext h
  exact⟨k,hk,fun x=>by have:a.f x-b.f x=p*k x:=e x;omega⟩
 ·rintro⟨k,hk,e⟩
  exact Rg.snd ⟨k,hk,fun x=>by have:=e x;show a.f x-b.f x=p*k x;omega⟩
def el{p:Nat}(l:List Nat):Fx p:=Rg.mk _ ⟨en l,PF.en l⟩
theorem el_surj{p:Nat}(hp:0<p)(a:Fx p):∃l,Rd p l∧el l=a:=by
 induction a using Rg.ind with
 |h a=>
 obtain⟨l,h1,h2⟩:=PF.red hp a.h
 exact⟨l,h1,fx_eq.2 h2⟩
theorem el_inj{p:Nat}(hp:0<p){a b:List Nat}(ha:Rd p a)(hb:Rd p b)(h:(el a:Fx p)=el b):a=b:=Rd.ext hp ha hb (fx_eq.1 h)
open Classical in
noncomputable def sz{p:Nat}(a:Fx p):Nat:=if h:∃l,Rd p l∧el l=a then(Classical.choose h).length else 0
theorem sz_el{p:Nat}(hp:0<p){l:List Nat}(h:Rd p l):sz (el l:Fx p)=l.length:=by
 have hx:∃k,Rd p k∧(el k:Fx p)=el l:=⟨l,h,rfl⟩
 unfold sz
 rw[dif_pos hx,el_inj hp (Classical.choose_spec hx).1 h (Classical.choose_spec hx).2]
theorem sz_le{p n:Nat}(hp:0<p){f:Pf}(h:PD n f.f):sz (Rg.mk (Jp p) f)≤n:=by
 obtain⟨l,h1,h2⟩:=el_surj hp (Rg.mk (Jp p) f)
 rw[←h2,sz_el hp h1]
 obtain⟨k,hk,ek⟩:=h
 refine Rd.len_le hp h1 (fun m hm=>?_)
 have hc:Cg p (ev (nv l)) (ev k):=(fx_eq.1 h2).congr (fun _=>rfl) (fun x=>(ek x).symm)
 have:=hc.coef m
 rwa [cf_out (l:=k) (by omega),Int.sub_zero]at this
theorem el_nil{p:Nat}:(el []:Fx p)=0:=Rg.eq fun x=>rfl
theorem sz0{p:Nat}(hp:0<p){a:Fx p}:sz a=0↔a=0:=by
 obtain⟨l,h1,rfl⟩:=el_surj hp a
 rw[sz_el hp h1]
 constructor
 ·intro h
  rw[List.length_eq_zero_iff.1 h,el_nil]
 ·intro h
  rw[el_inj hp h1 (Rd.nil p) (h.trans el_nil.symm)];rfl
theorem sz_zero{p:Nat}(hp:0<p):sz (0:Fx p)=0:=(sz0 hp).2 rfl
theorem sz_mul{p:Nat}(hp:IsP p){a b:Fx p}(ha:a≠0)(hb:b≠0):sz (a*b)+1=sz a+sz b:=by
 have h0:0<p:=by have:=hp.1;omega
 obtain⟨l,h1,rfl⟩:=el_surj h0 a
 obtain⟨k,g1,rfl⟩:=el_surj h0 b
 obtain⟨m,m1,m2⟩:=el_surj h0 (el l*el k:Fx p)
 have hl:l≠[]:=fun h=>ha (by rw[h,el_nil])
 have hk:k≠[]:=fun h=>hb (by rw[h,el_nil])
 have:=List.length_pos_iff.2 hl
 have:=List.length_pos_iff.2 hk
 have c:Cg p (en m) (fun x=>en l x*en k x):=fx_eq.1 m2
 have e1:=deg_mulP hp h1 hl g1 hk (PD.en m) c
 have e2:sz (el l*el k:Fx p)≤l.length+k.length-1:=sz_le h0 ((PD.en l).mul (PD.en k))
 rw[←m2,sz_el h0 m1]at e2 ⊢
 rw[sz_el h0 h1,sz_el h0 g1]
 omega
theorem sz_add{p n:Nat}(hp:0<p){a b:Fx p}(ha:sz a≤n)(hb:sz b≤n):sz (a+b)≤n:=by
 obtain⟨l,h1,rfl⟩:=el_surj hp a
 obtain⟨k,g1,rfl⟩:=el_surj hp b
 rw[sz_el hp h1]at ha
 rw[sz_el hp g1]at hb
 exact sz_le hp (((PD.en l).add (PD.en k)).mono (by omega))
theorem sz_sub{p n:Nat}(hp:0<p){a b:Fx p}(ha:sz a≤n)(hb:sz b≤n):sz (a-b)≤n:=by
 obtain⟨l,h1,rfl⟩:=el_surj hp a
 obtain⟨k,g1,rfl⟩:=el_surj hp b
 rw[sz_el hp h1]at ha
 rw[sz_el hp g1]at hb
 exact sz_le hp (((PD.en l).sub (PD.en k)).mono (by omega))
theorem sz_C{p:Nat}(hp:0<p)(c:Int):sz (Rg.C (Jp p) c)≤1:=sz_le hp (PD.const c)
def Rg.X(J:Idl):Rg J:=Rg.mk J ⟨fun x=>x,(PF.pow 1).congr (fun x=>by grind)⟩
theorem rd_one{p:Nat}(hp:1<p):Rd p [1]:=(mo_one hp).1
theorem el_one{p:Nat}:(el [1]:Fx p)=1:=Rg.eq fun x=>en_one x
theorem sz_1{p:Nat}(hp:1<p):sz (1:Fx p)=1:=by rw[←el_one,sz_el (by omega) (rd_one hp)];rfl
theorem one_nz{p:Nat}(hp:1<p):(1:Fx p)≠0:=fun h=>by
 have:=(sz0 (by omega)).2 h
 rw[sz_1 hp]at this;omega
theorem sz_X{p:Nat}(hp:1<p):sz (Rg.X (Jp p))=2:=by
 have h:Rd p [0,1]:=⟨fun d hd=>by simp at hd;omega,fun d hd=>by simp at hd;omega⟩
 rw[show Rg.X (Jp p)=el [0,1] from Rg.eq fun x=>by simp[en,nv],sz_el (by omega) h];rfl
theorem fx_dom{p:Nat}(hp:IsP p){a b:Fx p}(h:a*b=0):a=0∨b=0:=by
 by_cases ha:a=0
 ·exact .inl ha
 by_cases hb:b=0
 ·exact .inr hb
 have h0:0<p:=by have:=hp.1;omega
 have:=sz_mul hp ha hb
 rw[h,sz_zero h0]at this
 have h1:sz a≠0:=fun h=>ha ((sz0 h0).1 h)
 have h2:sz b≠0:=fun h=>hb ((sz0 h0).1 h)
 omega
theorem fx_cancel{p:Nat}(hp:IsP p){a b c:Fx p}(ha:a≠0)(h:a*b=a*c):b=c:=by
 have:a*(b-c)=0:=by rw[←Rg.sub_d,Rg.sub_z];exact h
 rcases fx_dom hp this with h|h
 ·exact absurd h ha
 ·exact Rg.sub_z.1 h
theorem fx_div{p:Nat}(hp:IsP p){b:Fx p}(hb:b≠0):∀(n:Nat) (a:Fx p),sz a≤n→∃s r,a=s*b+r∧sz r<sz b
 |n,a,hn=>by
  have h0:0<p:=by have:=hp.1;omega
  by_cases hl:sz a<sz b
  ·exact⟨0,a,by rw[Rg.zero_m,Rg.zero_a],hl⟩
  obtain⟨l,h1,rfl⟩:=el_surj h0 a
  obtain⟨k,g1,rfl⟩:=el_surj h0 b
  have hk:k≠[]:=fun h=>hb (by rw[h,el_nil])
  rw[sz_el h0 h1]at hn hl
  rw[sz_el h0 g1]at hl
  have hk0:=List.length_pos_iff.2 hk
  obtain⟨c,hc⟩:∃c:Nat,(p:Int)∣(c:Int)*((k[k.length-1]?.getD 0:Nat):Int)-1:=by
   refine⟨(k[k.length-1]?.getD 0)^(p-2),?_⟩
   have:=fermat1 hp (g1.lead hk)
   have h2:=hp.1
   have e:(k[k.length-1]?.getD 0)^(p-2)*(k[k.length-1]?.getD 0)=(k[k.length-1]?.getD 0)^(p-1):=by rw[←Nat.pow_succ];congr 1;omega
   rw[←Int.natCast_mul,e]
   refine Int.dvd_of_emod_eq_zero ?_
   rw[Int.sub_emod,←Int.natCast_emod,this,show(1:Int)%(p:Int)=1 from Int.emod_eq_of_lt (by omega) (by omega)]
   simp
  let f:=(l[l.length-1]?.getD 0)*c%p
  obtain⟨r,r1,r2⟩:=el_surj h0 (el l-Rg.C _ (f:Int)*Rg.X _^(l.length-k.length)*el k:Fx p)
  have hr:r.length<l.length:=div_less (f:=f) (k:=l.length-k.length) h0 r1 hk (by omega) (quo_dvd hc) (fx_eq.1 r2)
  have hz:sz (el r:Fx p)≤n-1:=by rw[sz_el h0 r1];omega
  have hn0:n-1<n:=by omega
  obtain⟨s,t,e,ht⟩:=fx_div hp hb (n-1) (el r) hz
  refine⟨s+Rg.C _ (f:Int)*Rg.X _^(l.length-k.length),t,?_,ht⟩
  rw[r2]at e
  refine Rg.by1 (w:=1) e ?_
  generalize (el l:Fx p)=a,(el k:Fx p)=b,Rg.C (Jp p) (f:Int)=c1,Rg.X (Jp p)^(l.length-k.length)=c2
  clear e ht hz
  revert a b c1 c2 s t
  exact Rg.ind fun a=>Rg.ind fun b=>Rg.ind fun c=>Rg.ind fun d=>Rg.ind fun e=>Rg.ind fun f=>Rg.eq fun x=>by grind
termination_by n=>n
theorem fx_divide{p:Nat}(hp:IsP p){b:Fx p}(hb:b≠0)(a:Fx p):∃s r,a=s*b+r∧sz r<sz b:=fx_div hp hb _ a (Nat.le_refl _)
theorem sz_pos{p:Nat}(hp:IsP p){a:Fx p}(h:a≠0):0<sz a:=by
 have h0:0<p:=by have:=hp.1;omega
 have:sz a≠0:=fun e=>h ((sz0 h0).1 e)
 omega
theorem fx_unit{p:Nat}(hp:IsP p){c:Fx p}(h:sz c=1):∃d,c*d=1:=by
 have h0:0<p:=by have:=hp.1;omega
 have hc:c≠0:=fun e=>by rw[e,sz_zero h0]at h;omega
 obtain⟨s,r,e,hr⟩:=fx_divide hp hc 1
 have:r=0:=(sz0 h0).1 (by omega)
 exact⟨s,by rw[e,this,Rg.add_0,Rg.mul_c]⟩
theorem dv_sz{p:Nat}(hp:IsP p){a b:Fx p}(h:a∣b)(hb:b≠0):sz a≤sz b:=by
 obtain⟨c,rfl⟩:=h
 have ha:a≠0:=fun e=>hb (by rw[e,Rg.zero_m])
 have hc:c≠0:=fun e=>hb (by rw[e,Rg.mul_0])
 have:=sz_mul hp ha hc
 have:=sz_pos hp hc
 omega
theorem fx_bez{p:Nat}(hp:IsP p):∀(n:Nat) (a b:Fx p),sz b≤n→∃g u v,g=u*a+v*b∧g∣a∧g∣b
 |n,a,b,hn=>by
  have h0:0<p:=by have:=hp.1;omega
  by_cases hb:b=0
  ·subst hb
   exact⟨a,1,0,by rw[Rg.mul_0,Rg.add_0,Rg.one_m],dv_refl a,dv_zero a⟩
  obtain⟨s,r,e,hr⟩:=fx_divide hp hb a
  obtain⟨g,u,v,e2,d1,d2⟩:=fx_bez hp (n-1) b r (by omega)
  refine⟨g,v,u-v*s,?_,?_,d1⟩
  ·rw[e2,e]
   clear e e2 hr hb hn d1 d2
   revert b s r u v
   exact Rg.ind fun a=>Rg.ind fun b=>Rg.ind fun c=>Rg.ind fun d=>Rg.ind fun e=>Rg.eq fun x=>by grind
  ·rw[e];exact dv_add (dv_mul' _ d1) d2
termination_by n=>n
decreasing_by
 have:=sz_pos hp hb
 omega
theorem bez{p:Nat}(hp:IsP p)(a b:Fx p):∃g u v,g=u*a+v*b∧g∣a∧g∣b:=fx_bez hp _ a b (Nat.le_refl _)
def Irr{p:Nat}(q:Fx p):Prop:=2≤sz q∧∀a b,q=a*b→sz a≤1∨sz b≤1
theorem Irr.nz{p:Nat}(hp:IsP p){q:Fx p}(h:Irr q):q≠0:=fun e=>by
 have h1:=h.1
 have h0:0<p:=by have:=hp.1;omega
 rw[e,sz_zero h0]at h1;omega
theorem Irr.cop{p:Nat}(hp:IsP p){q a:Fx p}(h:Irr q)(hd:¬q∣a):∃u v,u*q+v*a=1:=by
 have h0:0<p:=by have:=hp.1;omega
 obtain⟨g,u,v,e,⟨c,d1⟩,d2⟩:=bez hp q a
 have hq:=h.nz hp
 have hg:g≠0:=fun e=>hq (by rw[d1,e,Rg.zero_m])
 have hc:c≠0:=fun e=>hq (by rw[d1,e,Rg.mul_0])
 rcases h.2 g c d1 with h1|h1
 ·have:=sz_pos hp hg
  obtain⟨d,hd⟩:=fx_unit hp (show sz g=1 by omega)
  refine⟨u*d,v*d,?_⟩
  rw[←hd,e]
  have idt:∀q a u v d:Fx p,u*d*q+v*d*a=(u*q+v*a)*d:=Rg.ind fun a=>Rg.ind fun b=>Rg.ind fun c=>Rg.ind fun d=>Rg.ind fun e=>Rg.eq fun x=>by grind
  exact idt q a u v d
 ·have:=sz_pos hp hc
  obtain⟨d,hd2⟩:=fx_unit hp (show sz c=1 by omega)
  refine absurd (dv_trans ⟨d,?_⟩ d2) hd
  rw[d1,Rg.mul_a,hd2,Rg.mul_1]
theorem Irr.prime{p:Nat}(hp:IsP p){q a b:Fx p}(h:Irr q)(hd:q∣a*b):q∣a∨q∣b:=by
 by_cases ha:q∣a
 ·exact .inl ha
 obtain⟨u,v,e⟩:=h.cop hp ha
 refine .inr ?_
 have:b=q*(u*b)+v*(a*b):=by
  have:b=(u*q+v*a)*b:=by rw[e,Rg.one_m]
  refine this.trans ?_
  have idt:∀q a b u v:Fx p,(u*q+v*a)*b=q*(u*b)+v*(a*b):=Rg.ind fun a=>Rg.ind fun b=>Rg.ind fun c=>Rg.ind fun d=>Rg.ind fun e=>Rg.eq fun x=>by grind
  exact idt q a b u v
 rw[this]
 exact dv_add (dv_l _ _) (dv_mul' _ hd)
theorem Irr.pow{p:Nat}(hp:IsP p){q a:Fx p}(h:Irr q):∀n:Nat,q∣a^n→q∣a
 |0,hd=>by
  rw[Rg.pow_0]at hd
  have h1:=dv_sz hp hd (one_nz (by have:=hp.1;omega))
  rw[sz_1 (by have:=hp.1;omega)]at h1
  have:=h.1
  omega
 |n+1,hd=>by
  rw[Rg.pow_s]at hd
  rcases h.prime hp hd with h1|h1
  ·exact Irr.pow hp h n h1
  ·exact h1
theorem irr_factor{p:Nat}(hp:IsP p):∀(n:Nat) (a:Fx p),sz a≤n→2≤sz a→∃q,Irr q∧q∣a
 |0,a,h1,h2=>by omega
 |n+1,a,h1,h2=>by
  by_cases h:Irr a
  ·exact⟨a,h,dv_refl a⟩
  have h0:0<p:=by have:=hp.1;omega
  have:∃b c,a=b*c∧2≤sz b∧2≤sz c:=by
   refine Classical.byContradiction fun hn=>h ⟨h2,fun b c e=>?_⟩
   by_cases h3:sz b≤1
   ·exact .inl h3
   ·by_cases h4:sz c≤1
    ·exact .inr h4
    ·exact absurd ⟨b,c,e,by omega,by omega⟩ hn
  obtain⟨b,c,e,h3,h4⟩:=this
  have hb:b≠0:=fun e=>by rw[e,sz_zero h0]at h3;omega
  have hc:c≠0:=fun e=>by rw[e,sz_zero h0]at h4;omega
  have:=sz_mul hp hb hc
  rw[←e]at this
  obtain⟨q,hq,hd⟩:=irr_factor hp n b (by omega) h3
  exact⟨q,hq,dv_trans hd ⟨c,e⟩⟩
theorem irr_ex{p:Nat}(hp:IsP p){a:Fx p}(h:2≤sz a):∃q,Irr q∧q∣a:=irr_factor hp _ a (Nat.le_refl _) h
end Go.Proofs.Pl
namespace Go.Proofs.Pl
def bs(n:Nat)(u v:Int):Nat→Int
 |0=>0
 |m+1=>bs n u v m+(ch n m:Int)*u^m*v^(n-m)
theorem bs_succ(n:Nat)(u v:Int):∀m,m≤n→bs (n+1) u v (m+1)=v*bs n u v (m+1)+u*bs n u v m
 |0,h=>by
  simp only[bs,ch_zero,Nat.sub_zero,Int.pow_zero,Int.pow_succ];grind
 |m+1,h=>by
  have ih:=bs_succ n u v m (by omega)
  have e:bs (n+1) u v (m+2)=bs (n+1) u v (m+1)+((ch n m+ch n (m+1):Nat):Int)*u^(m+1)*v^(n+1-(m+1)):=rfl
  rw[e,ih]
  obtain⟨k,rfl⟩:∃k,n=m+1+k:=⟨n-(m+1),by omega⟩
  simp only[bs,show m+1+k+1-(m+1)=k+1 by omega,show m+1+k-(m+1)=k by omega,show m+1+k-m=k+1 by omega,Int.pow_succ,Int.natCast_add]
  grind
theorem binomI(u v:Int):∀n,(u+v)^n=bs n u v (n+1)
 |0=>by simp[bs,ch]
 |n+1=>by
  rw[Int.pow_succ,binomI u v n]
  have e:=bs_succ n u v n (Nat.le_refl _)
  have e2:bs (n+1) u v (n+1+1)=bs (n+1) u v (n+1)+(ch (n+1) (n+1):Int)*u^(n+1)*v^(n+1-(n+1)):=rfl
  have e3:bs n u v (n+1)=bs n u v n+(ch n n:Int)*u^n*v^(n-n):=rfl
  rw[e2,e]
  rw[e3]at e ⊢
  rw[ch_self,ch_self]
  simp only[Nat.sub_self,Int.pow_zero,Int.pow_succ]
  grind
theorem bs_prime{p:Nat}(hp:IsP p){f g:Int→Int}(hf:PF f)(hg:PF g):∀m,m<p→∃H,PF H∧∀x,bs p (f x) (g x) (m+1)=g x^p+p*H x
 |0,h=>⟨fun _=>0,PF.const 0,fun x=>by simp[bs,ch_zero]⟩
 |m+1,h=>by
  obtain⟨H,hH,e⟩:=bs_prime hp hf hg m (by omega)
  obtain⟨c,hc⟩:=ch_dvd hp (show 0<m+1 by omega) h
  refine⟨fun x=>H x+c*(f x^(m+1)*g x^(p-(m+1))),hH.add (((hf.npow _).mul (hg.npow _)).smul _),fun x=>?_⟩
  have e2:bs p (f x) (g x) (m+2)=bs p (f x) (g x) (m+1)+(ch p (m+1):Int)*f x^(m+1)*g x^(p-(m+1)):=rfl
  rw[e2,e,hc,Int.natCast_mul]
  grind
theorem frob_fun{p:Nat}(hp:IsP p){f g:Int→Int}(hf:PF f)(hg:PF g):∃H,PF H∧∀x,(f x+g x)^p=f x^p+g x^p+p*H x:=by
 have h2:=hp.1
 obtain⟨H,hH,e⟩:=bs_prime hp hf hg (p-1) (by omega)
 refine⟨H,hH,fun x=>?_⟩
 have e1:=e x
 rw[show p-1+1=p by omega]at e1
 have e2:bs p (f x) (g x) (p+1)=bs p (f x) (g x) p+(ch p p:Int)*f x^p*g x^(p-p):=rfl
 rw[binomI,e2,e1,ch_self,Nat.sub_self,Int.pow_zero]
 grind
structure Fld(p:Nat)(J:Idl):Prop where
 pr:IsP p
 char:∀{h:Int→Int},PF h→J.I (fun x=>p*h x)
 dom:∀{a b:Rg J},a*b=0→a=0∨b=0
 nz:(1:Rg J)≠0
variable {p:Nat} {J:Idl}
theorem Fld.frob(F:Fld p J)(a b:Rg J):(a+b)^p=a^p+b^p:=by
 induction a using Rg.ind with
 |h a=>
 induction b using Rg.ind with
 |h b=>
 obtain⟨H,hH,e⟩:=frob_fun F.pr a.h b.h
 exact Rg.snd (J.cg (F.char hH) (fun x=>by simp only[];have:=e x;omega))
theorem Fld.frob_sub(F:Fld p J)(a b:Rg J):(a-b)^p=a^p-b^p:=by
 have h:=F.frob (a-b) b
 have e:∀a b:Rg J,a-b+b=a:=Rg.ind fun a=>Rg.ind fun b=>Rg.eq fun x=>by grind
 have e2:∀a b:Rg J,a+b-b=a:=Rg.ind fun a=>Rg.ind fun b=>Rg.eq fun x=>by grind
 rw[e]at h
 rw[h,e2]
theorem Fld.cast(F:Fld p J){a b:Int}(h:(p:Int)∣a-b):Rg.C J a=Rg.C J b:=by
 obtain⟨c,hc⟩:=h
 exact Rg.snd (J.cg (F.char (PF.const c)) (fun x=>hc))
theorem Fld.frob_C(F:Fld p J)(k:Nat):Rg.C J k^p=Rg.C J k:=by
 rw[←Rg.C_pow]
 refine F.cast ?_
 have:=fermat F.pr k
 have e:((k^p:Nat):Int)%(p:Int)=(k:Int)%(p:Int):=by rw[←Int.natCast_emod,this,Int.natCast_emod]
 rw[Int.natCast_pow]at e
 exact Int.dvd_of_emod_eq_zero (Int.emod_emod_of_dvd _ (Int.dvd_refl _)▸(Int.emod_eq_emod_iff_emod_sub_eq_zero.1 e))
theorem Fld.C_nz(F:Fld p J){k:Nat}(h:¬p∣k):Rg.C J k≠0:=fun e=>by
 have h1:=fermat1 F.pr h
 have e2:Rg.C J ((k:Int)^(p-1))=1:=by
  rw[←Rg.C_1]
  refine F.cast ?_
  have:((k^(p-1):Nat):Int)%(p:Int)=1%(p:Int):=by
   rw[←Int.natCast_emod,h1,Int.emod_eq_of_lt (by omega) (by have:=F.pr.1;omega)];rfl
  rw[Int.natCast_pow]at this
  exact Int.dvd_of_emod_eq_zero (Int.emod_eq_emod_iff_emod_sub_eq_zero.1 this)
 have h2:=F.pr.1
 rw[Rg.C_pow,e,show p-1=p-2+1 by omega,Rg.pow_s,Rg.mul_0]at e2
 exact F.nz e2.symm
theorem Fld.C_inj(F:Fld p J){i j:Nat}(hi:i<p)(hj:j<p)(h:Rg.C J i=Rg.C J j):i=j:=by
 have key:∀i j:Nat,i≤j→j<p→Rg.C J i=Rg.C J j→i=j:=fun i j h1 h2 h=>by
  have e:Rg.C J ((j-i:Nat):Int)=0:=by
   rw[Int.ofNat_sub h1,Rg.C_sub,h,Rg.sub_z]
  refine Classical.byContradiction fun hn=>F.C_nz (fun hd=>?_) e
  have:=Nat.le_of_dvd (by omega) hd
  omega
 rcases Nat.le_total i j with h1|h1
 ·exact key i j h1 hj h
 ·exact(key j i h1 hi h.symm).symm
theorem Fld.pow_z(F:Fld p J){a:Rg J}:∀{n:Nat},a^n=0→a=0
 |0,h=>by rw[Rg.pow_0]at h;exact absurd h F.nz
 |n+1,h=>by
  rw[Rg.pow_s]at h
  rcases F.dom h with h|h
  ·exact F.pow_z h
  ·exact h
theorem Fld.frob_inj(F:Fld p J){a b:Rg J}(h:a^p=b^p):a=b:=by
 have:=F.frob_sub a b
 rw[Rg.sub_z.2 h]at this
 exact Rg.sub_z.1 (F.pow_z this)
def evR:List (Rg J)→Rg J→Rg J
 |[],_=>0
 |a::l,y=>a+y*evR l y
def qs:List (Rg J)→Rg J→List (Rg J)
 |[],_=>[]
 |[_],_=>[]
 |_::b::l,r=>evR (b::l) r::qs (b::l) r
theorem qs_len:∀(l:List (Rg J)) (r:Rg J),(qs l r).length=l.length-1
 |[],_=>rfl
 |[_],_=>rfl
 |_::b::l,r=>by simp only[qs,List.length_cons];rw[qs_len (b::l) r];simp
theorem qs_ev:∀(l:List (Rg J)) (r y:Rg J),evR l y=(y-r)*evR (qs l r) y+evR l r
 |[],r,y=>by simp only[evR,qs];rw[Rg.mul_0,Rg.add_0]
 |[a],r,y=>by
  simp only[evR,qs];rw[Rg.mul_0,Rg.mul_0,Rg.mul_0,Rg.zero_a]
 |a::b::l,r,y=>by
  have ih:=qs_ev (b::l) r y
  have e:evR (a::b::l) y=a+y*evR (b::l) y:=rfl
  have e2:evR (qs (a::b::l) r) y=evR (b::l) r+y*evR (qs (b::l) r) y:=rfl
  have e3:evR (a::b::l) r=a+r*evR (b::l) r:=rfl
  rw[e,e2,e3,ih]
  have idt:∀a r y u v:Rg J,a+y*((y-r)*u+v)=(y-r)*(v+y*u)+(a+r*v):=Rg.ind fun a=>Rg.ind fun b=>Rg.ind fun c=>Rg.ind fun d=>Rg.ind fun e=>Rg.eq fun x=>by grind
  exact idt _ _ _ _ _
theorem qs_zero:∀(l:List (Rg J)) (r:Rg J),(∀c∈qs l r,c=0)→evR l r=0→∀c∈l,c=0
 |[],r,h,h2=>fun c hc=>by cases hc
 |[a],r,h,h2=>fun c hc=>by
  rw[List.mem_singleton.1 hc]
  simpa only[evR,Rg.mul_0,Rg.add_0]using h2
 |a::b::l,r,h,h2=>by
  have h3:evR (b::l) r=0:=h _ (List.mem_cons_self)
  have h4:=qs_zero (b::l) r (fun c hc=>h c (List.mem_cons_of_mem _ hc)) h3
  have e3:evR (a::b::l) r=a+r*evR (b::l) r:=rfl
  rw[e3,h3,Rg.mul_0,Rg.add_0]at h2
  intro c hc
  rcases List.mem_cons.1 hc with h5|h5
  ·rw[h5,h2]
  ·exact h4 c h5
theorem Fld.roots(F:Fld p J):∀(rs:List (Rg J)) (l:List (Rg J)),rs.Nodup→l.length≤rs.length→(∀r∈rs,evR l r=0)→∀c∈l,c=0
 |[],l,hn,hl,h=>fun c hc=>by
  rw[List.length_eq_zero_iff.1 (show l.length=0 by simpa using hl)]at hc;cases hc
 |r::rs,l,hn,hl,h=>by
  have hr:=h r (List.mem_cons_self)
  refine qs_zero l r (F.roots rs (qs l r) (List.nodup_cons.1 hn).2 (by rw[qs_len];simp at hl;omega) (fun s hs=>?_)) hr
  have e:=qs_ev l r s
  rw[h s (List.mem_cons_of_mem _ hs),hr,Rg.add_0]at e
  rcases F.dom e.symm with h1|h1
  ·exact absurd (Rg.sub_z.1 h1▸hs) (List.nodup_cons.1 hn).1
  ·exact h1
theorem evR_app:∀(l:List (Rg J)) (c y:Rg J),evR (l++[c]) y=evR l y+c*y^l.length
 |[],c,y=>by
  simp only[evR,List.nil_append,List.length_nil];rw[Rg.pow_0,Rg.mul_1,Rg.mul_0,Rg.add_0,Rg.zero_a]
 |a::l,c,y=>by
  simp only[evR,List.cons_append,List.length_cons]
  rw[evR_app l c y,Rg.pow_s]
  have idt:∀a y u c w:Rg J,a+y*(u+c*w)=a+y*u+c*(w*y):=Rg.ind fun a=>Rg.ind fun b=>Rg.ind fun c=>Rg.ind fun d=>Rg.ind fun e=>Rg.eq fun x=>by grind
  exact idt _ _ _ _ _
theorem evR_zeros(y:Rg J):∀n,evR (List.replicate n 0) y=0
 |0=>rfl
 |n+1=>by
  simp only[List.replicate_succ,evR];rw[evR_zeros y n,Rg.mul_0,Rg.add_0]
theorem Fld.fixed(F:Fld p J){c:Rg J}(h:c^p=c):∃k,k<p∧c=Rg.C J k:=by
 refine Classical.byContradiction fun hn=>?_
 have h2:=F.pr.1
 have hd:(c::(List.range p).map (fun k:Nat=>Rg.C J k)).Nodup:=by
  refine List.nodup_cons.2 ⟨fun hm=>?_,?_⟩
  ·obtain⟨k,hk,e⟩:=List.mem_map.1 hm
   exact hn ⟨k,List.mem_range.1 hk,e.symm⟩
  ·rw[List.Nodup,List.pairwise_map]
   exact List.Pairwise.imp_of_mem (fun {a b} ha hb hab e=>hab (F.C_inj (List.mem_range.1 ha) (List.mem_range.1 hb) e)) List.nodup_range
 have e:∀y:Rg J,evR ((0::Rg.C J (-1)::List.replicate (p-2) 0)++[1]) y=y^p-y:=fun y=>by
  rw[evR_app]
  simp only[evR,List.length_cons,List.length_replicate]
  rw[evR_zeros,show p-2+1+1=p by omega]
  have idt:∀y w:Rg J,0+y*(Rg.C J (-1)+y*0)+1*w=w-y:=Rg.ind fun a=>Rg.ind fun b=>Rg.eq fun x=>by grind
  exact idt _ _
 have hz:=F.roots _ ((0::Rg.C J (-1)::List.replicate (p-2) 0)++[1]) hd (by simp;omega) (fun r hr=>by
  rw[e,Rg.sub_z]
  rcases List.mem_cons.1 hr with h5|h5
  ·rw[h5];exact h
  ·obtain⟨k,hk,e⟩:=List.mem_map.1 h5
   rw[←e];exact F.frob_C k)
 exact F.nz (hz 1 (by simp))
end Go.Proofs.Pl
namespace Go.Proofs.Pl
def Jq(p:Nat)(q:Pf):Idl where
 I f:=∃u v,PF u∧PF v∧∀x,f x=p*u x+q.f x*v x
 zero:=⟨fun _=>0,fun _=>0,PF.const 0,PF.const 0,fun x=>by simp⟩
 add:=fun {f g} ⟨u,v,hu,hv,e⟩ ⟨s,t,hs,ht,e2⟩=>⟨fun x=>u x+s x,fun x=>v x+t x,hu.add hs,hv.add ht,fun x=>by have:=e x;have:=e2 x;grind⟩
 mul:=fun {f g} ⟨u,v,hu,hv,e⟩ hg=>⟨fun x=>u x*g x,fun x=>v x*g x,hu.mul hg,hv.mul hg,fun x=>by have:=e x;grind⟩
abbrev Kx(p:Nat)(q:Pf):=Rg (Jq p q)
theorem kx_eq{p:Nat}{q a b:Pf}:Rg.mk (Jq p q) a=Rg.mk (Jq p q) b↔Rg.mk (Jp p) q∣Rg.mk (Jp p) a-Rg.mk (Jp p) b:=by
 constructor
 ·intro h
  obtain⟨u,v,hu,hv,e⟩:=Rg.ext h
  refine⟨Rg.mk _ ⟨v,hv⟩,Rg.snd ⟨u,hu,fun x=>?_⟩⟩
  have:a.f x-b.f x=p*u x+q.f x*v x:=e x
  simp only[]
  omega
 ·rintro⟨c,hc⟩
  induction c using Rg.ind with
  |h c=>
  obtain⟨u,hu,e⟩:=Rg.ext (show Rg.mk (Jp p) (Pf.sub a b)=Rg.mk (Jp p) (Pf.mul q c) from hc)
  refine Rg.snd ⟨u,c.f,hu,c.h,fun x=>?_⟩
  have:a.f x-b.f x-q.f x*c.f x=p*u x:=e x
  simp only[]
  omega
theorem kx_z{p:Nat}{q a:Pf}:Rg.mk (Jq p q) a=0↔Rg.mk (Jp p) q∣Rg.mk (Jp p) a:=by
 have e:∀a:Fx p,a-0=a:=Rg.ind fun a=>Rg.eq fun x=>by grind
 have:=kx_eq (p:=p) (q:=q) (a:=a) (b:=Pf.C 0)
 rw[show Rg.mk (Jp p) (Pf.C 0)=(0:Fx p) from rfl,e]at this
 exact this
theorem kx_fld{p:Nat}(hp:IsP p){q:Pf}(h:Irr (Rg.mk (Jp p) q)):Fld p (Jq p q) where
 pr:=hp
 char:=fun {f} hf=>⟨f,fun _=>0,hf,PF.const 0,fun x=>by simp⟩
 dom:=fun {a b} e=>by
  induction a using Rg.ind with
  |h a=>
  induction b using Rg.ind with
  |h b=>
  have e2:Rg.mk (Jp p) q∣Rg.mk (Jp p) a*Rg.mk (Jp p) b:=kx_z.1 (show Rg.mk (Jq p q) (Pf.mul a b)=0 from e)
  rcases h.prime hp e2 with h1|h1
  ·exact .inl (kx_z.2 h1)
  ·exact .inr (kx_z.2 h1)
 nz:=fun e=>by
  have e2:Rg.mk (Jp p) q∣1:=kx_z.1 (show Rg.mk (Jq p q) (Pf.C 1)=0 from e)
  have h2:=hp.1
  have:=dv_sz hp e2 (one_nz h2)
  rw[sz_1 h2]at this
  have:=h.1
  omega
variable {p:Nat} {J:Idl}
def evN(l:List Nat)(y:Rg J):Rg J:=evR (l.map (fun k:Nat=>Rg.C J k)) y
theorem evN_X:∀l:List Nat,evN l (Rg.X J)=Rg.mk J ⟨en l,PF.en l⟩
 |[]=>Rg.eq fun x=>rfl
 |a::l=>by
  have ih:=evN_X l
  have e:evN (a::l) (Rg.X J)=Rg.C J a+Rg.X J*evN l (Rg.X J):=rfl
  rw[e,ih]
  exact Rg.eq fun x=>rfl
theorem evN_C:∀(l:List Nat) (z:Int),evN l (Rg.C J z)=Rg.C J (en l z)
 |[],z=>rfl
 |a::l,z=>by
  have ih:=evN_C l z
  have e:evN (a::l) (Rg.C J z)=Rg.C J a+Rg.C J z*evN l (Rg.C J z):=rfl
  rw[e,ih]
  exact Rg.eq fun x=>rfl
theorem Fld.zero_p(F:Fld p J):(0:Rg J)^p=0:=by
 have:=F.frob_C 0
 exact this
theorem Fld.one_p(F:Fld p J):(1:Rg J)^p=1:=F.frob_C 1
theorem Fld.evN_frob(F:Fld p J):∀(l:List Nat) (y:Rg J),evN l y^p=evN l (y^p)
 |[],y=>F.zero_p
 |a::l,y=>by
  have ih:=F.evN_frob l y
  have e:∀y,evN (a::l) y=Rg.C J a+y*evN l y:=fun y=>rfl
  rw[e,e,F.frob,F.frob_C,Rg.mul_pow,ih]
def ml(y:Rg J):Rg J→List (Rg J)→List (Rg J)
 |c,[]=>[c]
 |c,a::l=>(c-y*a)::ml y a l
theorem ml_ev(y z:Rg J):∀(l:List (Rg J)) (c:Rg J),evR (ml y c l) z=c+(z-y)*evR l z
 |[],c=>by simp only[ml,evR];rw[Rg.mul_0,Rg.mul_0]
 |a::l,c=>by
  simp only[ml,evR]
  rw[ml_ev y z l a]
  have idt:∀c y a z u:Rg J,c-y*a+z*(a+(z-y)*u)=c+(z-y)*(a+z*u):=Rg.ind fun a=>Rg.ind fun b=>Rg.ind fun c=>Rg.ind fun d=>Rg.ind fun e=>Rg.eq fun x=>by grind
  exact idt _ _ _ _ _
theorem Fld.ml_frob(F:Fld p J)(y:Rg J):∀(l:List (Rg J)) (c:Rg J),(ml y c l).map (fun a=>a^p)=ml (y^p) (c^p) (l.map (fun a=>a^p))
 |[],c=>rfl
 |a::l,c=>by
  simp only[ml,List.map_cons]
  rw[F.ml_frob y l a,F.frob_sub,Rg.mul_pow]
theorem ml_comm(y z:Rg J):∀(l:List (Rg J)) (c c' d:Rg J),c-y*d=c'-z*d→ml y c (ml z d l)=ml z c' (ml y d l)
 |[],c,c',d,h=>by simp only[ml];rw[h]
 |a::l,c,c',d,h=>by
  simp only[ml]
  have idt:∀d z a y:Rg J,d-z*a-y*a=d-y*a-z*a:=Rg.ind fun a=>Rg.ind fun b=>Rg.ind fun c=>Rg.ind fun d=>Rg.eq fun x=>by grind
  rw[ml_comm y z l (d-z*a) (d-y*a) a (idt _ _ _ _)]
  congr 1
  have i2:∀c y d z a:Rg J,c-y*(d-z*a)=(c-y*d)+y*z*a:=Rg.ind fun a=>Rg.ind fun b=>Rg.ind fun c=>Rg.ind fun d=>Rg.ind fun e=>Rg.eq fun x=>by grind
  rw[i2,i2,h,Rg.mul_c y z]
theorem ml_last(y:Rg J):∀(l:List (Rg J)) (c a:Rg J),∃m,ml y c (l++[a])=m++[a]∧m.length=l.length+1
 |[],c,a=>⟨[c-y*a],rfl,rfl⟩
 |b::l,c,a=>by
  obtain⟨m,e,hm⟩:=ml_last y l b a
  exact⟨(c-y*b)::m,by simp only[List.cons_append,ml];rw[e],by simp[hm]⟩
def prK:List (Rg J)→List (Rg J)
 |[]=>[1]
 |y::ys=>ml y 0 (prK ys)
def prodR:List (Rg J)→Rg J
 |[]=>1
 |y::ys=>y*prodR ys
theorem prK_last:∀ys:List (Rg J),∃m,prK ys=m++[1]∧m.length=ys.length
 |[]=>⟨[],rfl,rfl⟩
 |y::ys=>by
  obtain⟨m,e,hm⟩:=prK_last ys
  obtain⟨k,e2,hk⟩:=ml_last y m 0 1
  exact⟨k,by rw[prK,e,e2],by rw[hk,hm];rfl⟩
theorem prK_ev(z:Rg J):∀ys:List (Rg J),evR (prK ys) z=prodR (ys.map (fun y=>z-y))
 |[]=>by
  simp only[prK,evR,prodR,List.map_nil];rw[Rg.mul_0,Rg.add_0]
 |y::ys=>by
  rw[prK,ml_ev,prK_ev z ys,Rg.zero_a];rfl
theorem prK_snoc:∀(ys:List (Rg J)) (y:Rg J),prK (ys++[y])=ml y 0 (prK ys)
 |[],y=>rfl
 |z::ys,y=>by
  rw[List.cons_append,prK,prK_snoc ys y,prK]
  exact ml_comm z y _ 0 0 0 (by rw[Rg.mul_0,Rg.mul_0])
theorem Fld.prK_frob(F:Fld p J):∀ys:List (Rg J),(prK ys).map (fun a=>a^p)=prK (ys.map (fun a=>a^p))
 |[]=>by simp only[prK,List.map_cons,List.map_nil];rw[F.one_p]
 |y::ys=>by
  rw[prK,F.ml_frob,F.prK_frob ys,F.zero_p];rfl
theorem prodR_zero{ys:List (Rg J)}(h:0∈ys):prodR ys=0:=by
 induction ys with
 |nil=>cases h
 |cons y ys ih=>
  rw[prodR]
  rcases List.mem_cons.1 h with h|h
  ·rw[←h,Rg.zero_m]
  ·rw[ih h,Rg.mul_0]
theorem pow_pp(y:Rg J)(j:Nat):(y^p^j)^p=y^p^(j+1):=by rw[Nat.pow_succ,Rg.pow_m]
theorem fix_list{l:List (Rg J)}(h:∀c∈l,∃k,k<p∧c=Rg.C J ((k:Nat):Int)):∃ks:List Nat,(∀k∈ks,k<p)∧ks.map (fun k:Nat=>Rg.C J k)=l:=by
 induction l with
 |nil=>exact⟨[],(fun k hk=>by cases hk),rfl⟩
 |cons c l ih=>
  obtain⟨k,hk,e⟩:=h c (List.mem_cons_self)
  obtain⟨ks,h1,h2⟩:=ih (fun c hc=>h c (List.mem_cons_of_mem _ hc))
  exact⟨k::ks,fun m hm=>by
   rcases List.mem_cons.1 hm with h3|h3
   ·rw[h3];exact hk
   ·exact h1 m h3,by rw[List.map_cons,h2,e]⟩
theorem Fld.orbit(F:Fld p J){w:Rg J}{d:Nat}(hd:0<d)(h:w^p^d=w):∃g,Mo p d g∧∀z:Rg J,evN g z=prodR ((List.range d).map (fun j=>z-w^p^j)):=by
 obtain⟨e,rfl⟩:∃e,d=e+1:=⟨d-1,by omega⟩
 have h2:=F.pr.1
 have rot:((prK ((List.range (e+1)).map (fun j=>w^p^j))).map (fun a=>a^p))=prK ((List.range (e+1)).map (fun j=>w^p^j)):=by
  rw[F.prK_frob,List.map_map]
  have e1:(List.range (e+1)).map ((fun a=>a^p) ∘ fun j=>w^p^j)=(List.range e).map (fun j=>w^p^(j+1))++[w]:=by
   rw[List.range_succ,List.map_append]
   congr 1
   ·exact List.map_congr_left (fun j hj=>pow_pp w j)
   ·simp only[List.map_cons,List.map_nil,Function.comp]
    rw[pow_pp,h]
  have e2:(List.range (e+1)).map (fun j=>w^p^j)=w::(List.range e).map (fun j=>w^p^(j+1)):=by
   rw[List.range_succ_eq_map,List.map_cons,List.map_map]
   congr 1
   rw[Nat.pow_zero,Rg.pow_1]
  rw[e1,e2,prK_snoc];rfl
 have fx:∀c∈prK ((List.range (e+1)).map (fun j=>w^p^j)),∃k,k<p∧c=Rg.C J ((k:Nat):Int):=fun c hc=>by
  refine F.fixed ?_
  obtain⟨n,hn,en⟩:=List.getElem_of_mem hc
  have:=congrArg (fun l=>l[n]?) rot
  simp only[List.getElem?_map,List.getElem?_eq_getElem hn,Option.map_some,en]at this
  exact Option.some.inj this
 obtain⟨ks,k1,k2⟩:=fix_list fx
 obtain⟨m,em,hm⟩:=prK_last ((List.range (e+1)).map (fun j=>w^p^j))
 rw[List.length_map,List.length_range]at hm
 have hl:ks.length=e+2:=by
  have:=congrArg List.length k2
  rw[List.length_map,em,List.length_append]at this
  simp at this;omega
 have hlast:ks[e+1]?=some 1:=by
  have h3:(ks.map (fun k:Nat=>Rg.C J k))[e+1]?=some 1:=by
   rw[k2,em,←hm,List.getElem?_concat_length]
  rw[List.getElem?_map,List.getElem?_eq_getElem (by omega)]at h3
  rw[List.getElem?_eq_getElem (by omega)]
  have this:=Option.some.inj h3
  have e1:Rg.C J ((ks[e+1]:Nat):Int)=Rg.C J ((1:Nat):Int):=this
  rw[F.C_inj (k1 _ (List.getElem_mem _)) h2 e1]
 refine⟨ks,⟨⟨k1,fun d hd=>?_⟩,hl,hlast⟩,fun z=>?_⟩
 ·rw[hl,show e+2-1=e+1 by omega,hlast]at hd
  cases hd;omega
 ·rw[evN,k2,prK_ev,List.map_map];rfl
theorem orbit_dv{p:Nat}(hp:IsP p){q:Pf}(hq:Irr (Rg.mk (Jp p) q)){d:Nat}(hd:0<d)(h:Rg.X (Jq p q)^p^d=Rg.X (Jq p q)) :
  ∃g,Mo p d g∧Rg.mk (Jp p) q∣el g∧∀z:Kx p q,evN g z=prodR ((List.range d).map (fun j=>z-Rg.X (Jq p q)^p^j)):=by
 obtain⟨g,hg,e⟩:=(kx_fld hp hq).orbit hd h
 refine⟨g,hg,?_,e⟩
 have e1:=e (Rg.X _)
 rw[prodR_zero,evN_X]at e1
 ·exact kx_z.1 e1
 ·exact List.mem_map.2 ⟨0,List.mem_range.2 hd,by rw[Nat.pow_zero,Rg.pow_1,Rg.sub_z]⟩
theorem Mo.size{p n:Nat}{g:List Nat}(hp:0<p)(h:Mo p n g):sz (el g:Fx p)=n+1:=by rw[sz_el hp h.1,h.2.1]
theorem Mo.nz{p n:Nat}{g:List Nat}(hp:0<p)(h:Mo p n g):(el g:Fx p)≠0:=fun e=>by
 have:=h.size hp
 rw[e,sz_zero hp]at this;omega
theorem Mo.dv_eq{p n:Nat}{g k:List Nat}(hp:IsP p)(hg:Mo p n g)(hk:Mo p n k)(h:(el g:Fx p)∣el k):g=k:=by
 have h0:0<p:=by have:=hp.1;omega
 obtain⟨G,hG,eG⟩:=hg.lead
 obtain⟨K,hK,eK⟩:=hk.lead
 refine el_inj h0 hg.1 hk.1 ?_
 refine Classical.byContradiction fun hn=>?_
 have hd:(el g:Fx p)∣el g-el k:=dv_sub (dv_refl _) h
 have h1:=dv_sz hp hd (fun e=>hn (Rg.sub_z.1 e))
 have h2:sz (el g-el k:Fx p)≤n:=sz_le h0 (f:=Pf.sub ⟨en g,PF.en g⟩ ⟨en k,PF.en k⟩) (lead_sub hG hK eG eK)
 rw[hg.size h0]at h1
 omega
theorem claimA{p:Nat}(hp:IsP p){q:Pf}(hq:Irr (Rg.mk (Jp p) q)){d:Nat}(hd:0<d)(h:Rg.X (Jq p q)^p^d=Rg.X (Jq p q)):sz (Rg.mk (Jp p) q)≤d+1:=by
 have h0:0<p:=by have:=hp.1;omega
 obtain⟨g,hg,hdv,_⟩:=orbit_dv hp hq hd h
 have:=dv_sz hp hdv (hg.nz h0)
 rwa [hg.size h0]at this
theorem Fld.iter_inj{p:Nat}{J:Idl}(F:Fld p J){a b:Rg J}:∀j,a^p^j=b^p^j→a=b
 |0,h=>by rwa [Nat.pow_zero,Rg.pow_1,Rg.pow_1]at h
 |j+1,h=>by
  rw[←pow_pp,←pow_pp]at h
  exact F.iter_inj j (F.frob_inj h)
theorem pow_ppa{p:Nat}{J:Idl}(y:Rg J)(i j:Nat):(y^p^i)^p^j=y^p^(i+j):=by rw[Nat.pow_add,Rg.pow_m]
theorem claimB{p:Nat}(hp:IsP p){q:Pf}(hq:Irr (Rg.mk (Jp p) q)){d:Nat}(hd:sz (Rg.mk (Jp p) q)=d+1):Rg.X (Jq p q)^p^d=Rg.X (Jq p q):=by
 have h0:0<p:=by have:=hp.1;omega
 have F:=kx_fld hp hq
 obtain⟨g,g1,g2⟩:=el_surj h0 (Rg.mk (Jp p) q)
 have gl:g.length=d+1:=by rw[←hd,←g2,sz_el h0 g1]
 have hx:∀j,evN g (Rg.X (Jq p q)^p^j)=0:=fun j=>by
  induction j with
  |zero=>
   rw[Nat.pow_zero,Rg.pow_1,evN_X]
   exact kx_z.2 (by rw[←g2];exact dv_refl _)
  |succ j ih=>rw[←pow_pp,←F.evN_frob,ih,F.zero_p]
 have:¬((List.range (d+1)).map (fun j=>Rg.X (Jq p q)^p^j)).Nodup:=fun hn=>by
  have hz:=F.roots _ (g.map (fun k:Nat=>Rg.C (Jq p q) k)) hn (by simp[gl]) (fun r hr=>by
   obtain⟨j,_,e⟩:=List.mem_map.1 hr
   rw[←e];exact hx j)
  have h2:g[d]?=some g[d]:=List.getElem?_eq_getElem (by omega)
  have h3:=g1.2 g[d] (by simp only[show g.length-1=d by omega];exact h2)
  have h4:=g1.1 g[d] (List.getElem_mem _)
  exact F.C_nz (k:=g[d]) (fun hdv=>by have:=Nat.le_of_dvd (by omega) hdv;omega) (hz _ (List.mem_map.2 ⟨g[d],List.getElem_mem _,rfl⟩))
 obtain⟨i,j,hij,hj,e⟩:∃i j,i<j∧j<d+1∧Rg.X (Jq p q)^p^i=Rg.X (Jq p q)^p^j:=by
  refine Classical.byContradiction fun hn=>this ?_
  rw[List.Nodup,List.pairwise_map]
  refine(List.pairwise_lt_range).imp_of_mem (fun {i j} hi hj hij e=>hn ⟨i,j,hij,List.mem_range.1 hj,e⟩)
 obtain⟨s,rfl⟩:∃s,j=s+i:=⟨j-i,by omega⟩
 rw[←pow_ppa]at e
 have e2:=F.iter_inj i e
 have:=claimA hp hq (show 0<s by omega) e2.symm
 have:s=d:=by omega
 rw[←this];exact e2.symm
end Go.Proofs.Pl
namespace Go.Proofs.Pl
def dLk:Int→List Int→List Int
 |_,[]=>[]
 |k,c::l=>k*c::dLk (k+1) l
def dL:List Int→List Int
 |[]=>[]
 |_::l=>dLk 1 l
theorem ev_dLk(x:Int):∀(l:List Int) (k:Int),ev (dLk k l) x=k*ev l x+x*ev (dL l) x
 |[],k=>by simp[dLk,dL]
 |c::l,k=>by
  have h1:=ev_dLk x l (k+1)
  have h2:=ev_dLk x l 1
  simp only[dLk,dL,ev_cons]
  rw[h1,h2];grind
theorem cf_dLk:∀(l:List Int) (k:Int) (n:Nat),cf (dLk k l) n=(k+n)*cf l n
 |[],k,n=>by simp[dLk,cf]
 |c::l,k,0=>by simp[dLk,cf]
 |c::l,k,n+1=>by
  have:=cf_dLk l (k+1) n
  have e1:cf (dLk k (c::l)) (n+1)=cf (dLk (k+1) l) n:=rfl
  have e2:cf (c::l) (n+1)=cf l n:=rfl
  rw[e1,e2,this,Int.natCast_add];grind
theorem cf_dL(l:List Int)(n:Nat):cf (dL l) n=((n:Int)+1)*cf l (n+1):=by
 cases l with
 |nil=>simp[dL,cf]
 |cons c l=>
  have e2:cf (c::l) (n+1)=cf l n:=rfl
  rw[dL,cf_dLk,e2];grind
theorem dLk_len:∀(l:List Int) (k:Int),(dLk k l).length=l.length
 |[],k=>rfl
 |c::l,k=>by simp[dLk,dLk_len l]
theorem dL_len(l:List Int):(dL l).length=l.length-1:=by
 cases l with
 |nil=>rfl
 |cons c l=>simp[dL,dLk_len]
theorem Pf.list(a:Pf):∃l:List Int,∀x,a.f x=ev l x:=by
 obtain⟨d,l,_,h⟩:=a.h
 exact⟨l,h⟩
noncomputable def Pf.lst(a:Pf):List Int:=Classical.choose a.list
theorem Pf.lst_ev(a:Pf)(x:Int):a.f x=ev a.lst x:=Classical.choose_spec a.list x
noncomputable def Pf.der(a:Pf):Pf:=⟨ev (dL a.lst),PF.ev _⟩
variable {p:Nat}
theorem dL_cg{m:Int}{l k:List Int}(h:Cg m (ev l) (ev k)):Cg m (ev (dL l)) (ev (dL k)):=Cg.of_coef (fun n=>by
 rw[cf_dL,cf_dL,←Int.mul_sub]
 exact Int.dvd_trans (h.coef (n+1)) (Int.dvd_mul_left _ _))
noncomputable def D(a:Fx p):Fx p:=Quotient.lift (fun a=>Rg.mk (Jp p) (Pf.der a)) (fun a b (h:(Jp p).I _)=>fx_eq.2 (dL_cg (by
 obtain⟨k,hk,e⟩:=h
 exact⟨k,hk,fun x=>by have:a.f x-b.f x=p*k x:=e x;rw[←Pf.lst_ev,←Pf.lst_ev];omega⟩))) a
def ei(l:List Int):Fx p:=Rg.mk _ ⟨ev l,PF.ev l⟩
theorem ei_surj(a:Fx p):∃l,ei l=a:=by
 induction a using Rg.ind with
 |h a=>
 obtain⟨l,h⟩:=a.list
 exact⟨l,Rg.eq fun x=>(h x).symm⟩
theorem D_ei(l:List Int):D (ei l:Fx p)=ei (dL l):=fx_eq.2 (dL_cg (Cg.of_eq fun x=>(Pf.lst_ev ⟨ev l,PF.ev l⟩ x).symm))
theorem el_ei(l:List Nat):(el l:Fx p)=ei (nv l):=Rg.eq fun x=>rfl
theorem ei_nil:(ei []:Fx p)=0:=Rg.eq fun x=>rfl
theorem ei_cons(c:Int)(l:List Int):(ei (c::l):Fx p)=Rg.C _ c+Rg.X _*ei l:=Rg.eq fun x=>rfl
theorem D_nil:D (0:Fx p)=0:=by rw[←ei_nil,D_ei];rfl
theorem D_cons(c:Int)(l:List Int):D (ei (c::l):Fx p)=ei l+Rg.X _*D (ei l):=by
 rw[D_ei,D_ei]
 exact Rg.eq fun x=>by have:=ev_dLk x l 1;simp only[dL];show ev (dLk 1 l) x=ev l x+x*ev (dL l) x;rw[this];omega
theorem ei_add:∀l k:List Int,(ei l+ei k:Fx p)=ei (addL l k):=fun l k=>Rg.eq fun x=>by
 show ev l x+ev k x=ev (addL l k) x
 rw[ev_addL]
theorem D_add(a b:Fx p):D (a+b)=D a+D b:=by
 obtain⟨l,rfl⟩:=ei_surj a
 obtain⟨k,rfl⟩:=ei_surj b
 rw[ei_add,D_ei,D_ei,D_ei,ei_add]
 refine fx_eq.2 (Cg.of_coef fun n=>?_)
 rw[cf_addL,cf_dL,cf_dL,cf_dL,cf_addL]
 refine⟨0,by grind⟩
theorem D_C(c:Int):D (Rg.C (Jp p) c)=0:=by
 have h:Rg.C (Jp p) c=ei [c]:=Rg.eq fun x=>by show c=ev [c] x;simp
 rw[h,D_ei];exact Rg.eq fun x=>rfl
theorem D_X:D (Rg.X (Jp p))=1:=by
 have h:Rg.X (Jp p)=ei [0,1]:=Rg.eq fun x=>by show x=ev [0,1] x;simp
 rw[h,D_ei];exact Rg.eq fun x=>by show ev [1*1] x=1;simp
theorem D_Cm(c:Int)(a:Fx p):D (Rg.C (Jp p) c*a)=Rg.C _ c*D a:=by
 obtain⟨l,rfl⟩:=ei_surj a
 have h:Rg.C (Jp p) c*ei l=ei (scL c l):=Rg.eq fun x=>by show c*ev l x=ev (scL c l) x;rw[ev_scL]
 have h2:Rg.C (Jp p) c*ei (dL l)=ei (scL c (dL l)):=Rg.eq fun x=>by show c*ev (dL l) x=ev (scL c (dL l)) x;rw[ev_scL]
 rw[h,D_ei,D_ei,h2]
 refine fx_eq.2 (Cg.of_coef fun n=>?_)
 rw[cf_dL,cf_scL,cf_scL,cf_dL]
 exact⟨0,by grind⟩
theorem D_Xm(a:Fx p):D (Rg.X (Jp p)*a)=a+Rg.X _*D a:=by
 obtain⟨l,rfl⟩:=ei_surj a
 have h:Rg.X (Jp p)*ei l=ei (0::l):=Rg.eq fun x=>by show x*ev l x=ev (0::l) x;simp
 rw[h,D_cons]
theorem D_mul(a b:Fx p):D (a*b)=D a*b+a*D b:=by
 obtain⟨l,rfl⟩:=ei_surj a
 induction l with
 |nil=>
  rw[ei_nil,Rg.zero_m,D_nil,Rg.zero_m,Rg.zero_m,Rg.add_0]
 |cons c l ih=>
  rw[ei_cons]
  have i1:∀c x l b:Fx p,(c+x*l)*b=c*b+x*(l*b):=Rg.ind fun a=>Rg.ind fun b=>Rg.ind fun c=>Rg.ind fun d=>Rg.eq fun x=>by grind
  rw[i1,D_add,D_Cm,D_Xm,ih,D_add,D_C,D_Xm]
  have i2:∀c x l b dl db:Fx p,c*db+(l*b+x*(dl*b+l*db))=(0+(l+x*dl))*b+(c+x*l)*db:=Rg.ind fun a=>Rg.ind fun b=>Rg.ind fun c=>Rg.ind fun d=>Rg.ind fun e=>Rg.ind fun f=>Rg.eq fun x=>by grind
  exact i2 _ _ _ _ _ _
theorem D_pow(a:Fx p):∀n:Nat,D (a^(n+1))=Rg.C _ ((n:Int)+1)*a^n*D a
 |0=>by
  rw[Rg.pow_1,Rg.pow_0]
  have i1:∀a:Fx p,a=Rg.C _ ((0:Nat)+1:Int)*1*a:=Rg.ind fun a=>Rg.eq fun x=>by
   show a.f x=(((0:Nat):Int)+1)*1*a.f x
   simp
  exact i1 _
 |n+1=>by
  rw[Rg.pow_s,D_mul,D_pow a n]
  have i1:∀n a w d:Fx p,n*w*d*a+w*a*d=(n+1)*(w*a)*d:=Rg.ind fun a=>Rg.ind fun b=>Rg.ind fun c=>Rg.ind fun d=>Rg.eq fun x=>by grind
  rw[Rg.pow_s,i1,←Rg.C_1,←Rg.C_add,Int.natCast_add];rfl
theorem sz_D(hp:0<p)(a:Fx p):sz (D a)≤sz a-1:=by
 obtain⟨l,h1,rfl⟩:=el_surj hp a
 rw[sz_el hp h1,el_ei,D_ei]
 exact sz_le hp (f:=⟨ev (dL (nv l)),PF.ev _⟩) (PD.ev_le (by rw[dL_len,nv_len];omega))
theorem pow_dv{J:Idl}(q:Rg J){i j:Nat}(h:i≤j):q^i∣q^j:=⟨q^(j-i),by rw[←Rg.pow_a];congr 1;omega⟩
theorem sz_powq(hp:IsP p){q:Fx p}(h:Irr q):∀n,n+1≤sz (q^n)
 |0=>by rw[Rg.pow_0,sz_1 (by have:=hp.1;omega)];omega
 |n+1=>by
  have ih:=sz_powq hp h n
  have hz:q^n≠0:=fun e=>by rw[e,sz_zero (by have:=hp.1;omega)]at ih;omega
  have:=sz_mul hp hz (h.nz hp)
  have:=h.1
  rw[Rg.pow_s];omega
theorem mult(hp:IsP p){q g:Fx p}(h:Irr q)(hg:g≠0):∃e,q^e∣g∧¬q^(e+1)∣g:=by
 refine Classical.byContradiction fun hn=>?_
 have all:∀e:Nat,q^e∣g:=fun e=>by
  induction e with
  |zero=>rw[Rg.pow_0];exact⟨g,(Rg.one_m g).symm⟩
  |succ e ih=>exact Classical.byContradiction fun h2=>hn ⟨e,ih,h2⟩
 have h1:=dv_sz hp (all (sz g)) hg
 have h2:=sz_powq hp h (sz g)
 omega
def Sqf(f:Fx p):Prop:=∀q,Irr q→¬q*q∣f
theorem sqf_part(hp:IsP p){f g h u v:Fx p}(hf:f=g*h)(hg:g≠0)(hu:g=u*f+v*D f):Sqf h:=by
 intro q hq hd
 obtain⟨e,e1,e2⟩:=mult hp hq hg
 have h1:q^(e+2)∣f:=by
  obtain⟨c,rfl⟩:=hd
  obtain⟨d,hd⟩:=e1
  refine⟨d*c,?_⟩
  rw[hf,hd,Rg.pow_s,Rg.pow_s]
  have i1:∀w d q c:Fx p,w*d*(q*q*c)=w*q*q*(d*c):=Rg.ind fun a=>Rg.ind fun b=>Rg.ind fun c=>Rg.ind fun d=>Rg.eq fun x=>by grind
  exact i1 _ _ _ _
 have h2:q^(e+1)∣D f:=by
  obtain⟨w,hw⟩:=h1
  rw[hw,D_mul,D_pow]
  exact dv_add (dv_mul _ (dv_mul _ (dv_mul' _ (dv_refl _)))) (dv_mul _ (pow_dv q (by omega)))
 refine e2 ?_
 rw[hu]
 exact dv_add (dv_mul' _ (dv_trans (pow_dv q (by omega)) h1)) (dv_mul' _ h2)
def every(k:Nat):Nat→List Nat→List Nat
 |0,_=>[]
 |_,[]=>[]
 |n+1,a::l=>a::every k n (l.drop k)
theorem el_drop:∀(k:Nat) (l:List Nat),(∀i,i<k→l[i]?.getD 0=0)→(el l:Fx p)=Rg.X _^k*el (l.drop k)
 |0,l,h=>by rw[Rg.pow_0,Rg.one_m];rfl
 |k+1,[],h=>by rw[List.drop_nil,el_nil,Rg.mul_0]
 |k+1,a::l,h=>by
  have ha:a=0:=by simpa using h 0 (by omega)
  have ih:=el_drop k l (fun i hi=>by simpa using h (i+1) (by omega))
  have e:(el (a::l):Fx p)=Rg.C _ (a:Int)+Rg.X _*el l:=Rg.eq fun x=>rfl
  rw[e,ih,ha,List.drop_succ_cons,Rg.pow_s]
  have i1:∀x w d:Fx p,Rg.C _ ((0:Nat):Int)+x*(w*d)=w*x*d:=Rg.ind fun a=>Rg.ind fun b=>Rg.ind fun c=>Rg.eq fun x=>by
   show((0:Nat):Int)+a.f x*(b.f x*c.f x)=b.f x*a.f x*c.f x
   simp only[Int.natCast_zero];grind
  exact i1 _ _ _
theorem every_ev(hp:0<p):∀(n:Nat) (l:List Nat),l.length≤n→(∀i,¬p∣i→l[i]?.getD 0=0)→evN (every (p-1) n l) (Rg.X (Jp p)^p)=el l
 |0,l,hn,h=>by
  rw[List.length_eq_zero_iff.1 (show l.length=0 by omega),el_nil];rfl
 |n+1,[],hn,h=>by rw[el_nil];rfl
 |n+1,a::l,hn,h=>by
  have e1:evN (every (p-1) (n+1) (a::l)) (Rg.X (Jp p)^p)=Rg.C _ (a:Int)+Rg.X (Jp p)^p*evN (every (p-1) n (l.drop (p-1))) (Rg.X (Jp p)^p):=rfl
  have e2:(el (a::l):Fx p)=Rg.C _ (a:Int)+Rg.X _*el l:=Rg.eq fun x=>rfl
  rw[e1,e2,every_ev hp n (l.drop (p-1)) (by rw[List.length_drop];simp at hn;omega) (fun i hi=>by
   have:=h (i+p) (fun hd=>hi ((Nat.dvd_add_left (Nat.dvd_refl p)).1 hd))
   rw[show i+p=(p-1+i)+1 by omega,List.getElem?_cons_succ]at this
   rw[List.getElem?_drop];exact this)]
  rw[el_drop (p-1) l (fun i hi=>by
   have:=h (i+1) (fun hd=>by have:=Nat.le_of_dvd (by omega) hd;omega)
   rwa [List.getElem?_cons_succ]at this)]
  congr 1
  rw[←Rg.mul_a,show p=p-1+1 by omega,Rg.pow_s,Rg.mul_c (Rg.X _) _]
  rfl
end Go.Proofs.Pl
