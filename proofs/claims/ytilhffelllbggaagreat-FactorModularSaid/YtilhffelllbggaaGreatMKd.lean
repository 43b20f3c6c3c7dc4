/-
  Plain laws: the steps of factoring modulo a prime.
-/
import Derived.Test.YtilhffelllbggaaGreatMKc
set_option linter.unusedVariables false
set_option linter.unusedSimpArgs false
namespace Go.Proofs.Pl
variable {p:Nat}
theorem el_div{a b q r:List Nat}(h:IsDiv p (en a) b q r):(el a:Fx p)=el q*el b+el r:=(fx_eq (a:=⟨en a,PF.en a⟩) (b:=Pf.add (Pf.mul ⟨en q,PF.en q⟩ ⟨en b,PF.en b⟩) ⟨en r,PF.en r⟩)).2 h.eq
structure Gc(a b g:Fx p):Prop where
 comb:∃u v,g=u*a+v*b
 left:g∣a
 right:g∣b
theorem el_gcd{a b g:List Nat}(h:IsGcd p (en a) (en b) g):Gc (el a:Fx p) (el b) (el g) where
 comb:=by
  obtain⟨u,v,hu,hv,e⟩:=h.comb
  exact⟨Rg.mk _ ⟨u,hu⟩,Rg.mk _ ⟨v,hv⟩,(fx_eq (a:=⟨en g,PF.en g⟩) (b:=Pf.add (Pf.mul ⟨u,hu⟩ ⟨en a,PF.en a⟩) (Pf.mul ⟨v,hv⟩ ⟨en b,PF.en b⟩))).2 e⟩
 left:=by
  obtain⟨s,hs,e⟩:=h.left
  refine⟨Rg.mk _ ⟨s,hs⟩,?_⟩
  rw[Rg.mul_c]
  exact(fx_eq (a:=⟨en a,PF.en a⟩) (b:=Pf.mul ⟨s,hs⟩ ⟨en g,PF.en g⟩)).2 e
 right:=by
  obtain⟨s,hs,e⟩:=h.right
  refine⟨Rg.mk _ ⟨s,hs⟩,?_⟩
  rw[Rg.mul_c]
  exact(fx_eq (a:=⟨en b,PF.en b⟩) (b:=Pf.mul ⟨s,hs⟩ ⟨en g,PF.en g⟩)).2 e
theorem Gc.dv{a b g q:Fx p}(h:Gc a b g)(ha:q∣a)(hb:q∣b):q∣g:=by
 obtain⟨u,v,e⟩:=h.comb
 rw[e];exact dv_add (dv_mul' _ ha) (dv_mul' _ hb)
theorem dv_cong{f a b q:Fx p}(h:f∣a-b)(hq:q∣f)(hb:q∣b):q∣a:=by
 have i1:∀a b:Fx p,a=(a-b)+b:=Rg.ind fun a=>Rg.ind fun b=>Rg.eq fun x=>by grind
 rw[i1 a b];exact dv_add (dv_trans hq h) hb
theorem dv_neg{f a b:Fx p}(h:f∣a-b):f∣b-a:=by
 obtain⟨c,hc⟩:=h
 refine⟨Rg.C _ (-1)*c,?_⟩
 have i1:∀a b:Fx p,b-a=Rg.C _ (-1)*(a-b):=Rg.ind fun a=>Rg.ind fun b=>Rg.eq fun x=>by
  show b.f x-a.f x=(-1)*(a.f x-b.f x)
  omega
 rw[i1,hc,←Rg.mul_a,Rg.mul_c (Rg.C _ (-1)) f,Rg.mul_a]
theorem dv_of_size(hp:IsP p){a b:Fx p}(h:a∣b)(hb:b≠0)(hs:sz b≤sz a):b∣a:=by
 obtain⟨c,rfl⟩:=h
 have ha:a≠0:=fun e=>hb (by rw[e,Rg.zero_m])
 have hc:c≠0:=fun e=>hb (by rw[e,Rg.mul_0])
 have:=sz_mul hp ha hc
 have:=sz_pos hp hc
 obtain⟨d,hd⟩:=fx_unit hp (show sz c=1 by omega)
 exact⟨d,by rw[Rg.mul_a,hd,Rg.mul_1]⟩
def Gd(f u:Fx p):Prop:=∃q r,Irr q∧Irr r∧q∣f∧r∣f∧q∣u∧¬r∣u
theorem Gd.cong{f u v:Fx p}(h:Gd f u)(e:f∣v-u):Gd f v:=by
 obtain⟨q,r,h1,h2,h3,h4,h5,h6⟩:=h
 exact⟨q,r,h1,h2,h3,h4,dv_cong e h3 h5,fun hd=>h6 (dv_cong (dv_neg e) h4 hd)⟩
theorem Gd.gcd(hp:IsP p){f u g:Fx p}(h:Gd f u)(hg:Gc f u g)(hf:f≠0):1<sz g∧sz g<sz f:=by
 obtain⟨q,r,h1,h2,h3,h4,h5,h6⟩:=h
 have hg0:g≠0:=fun e=>by
  obtain⟨c,hc⟩:=hg.left
  rw[e,Rg.zero_m]at hc
  exact hf hc
 refine⟨?_,?_⟩
 ·have:=dv_sz hp (hg.dv h3 h5) hg0
  have:=h1.1
  omega
 ·refine Classical.byContradiction fun hn=>h6 ?_
  exact dv_trans (dv_trans h4 (dv_of_size hp hg.left hf (by omega))) hg.right
def AllD(d:Nat)(f:Fx p):Prop:=∀q,Irr q→q∣f→sz q=d+1
def NoD(d:Nat)(f:Fx p):Prop:=∀q,Irr q→q∣f→d+1≤sz q
theorem ddf_iff(hp:IsP p){q:Fx p}(hq:Irr q){d:Nat}(hd:0<d)(h:d+1≤sz q):q∣Rg.X _^p^d-Rg.X _↔sz q=d+1:=by
 induction q using Rg.ind with
 |h q=>
 have e:Rg.mk (Jp p) q∣Rg.X _^p^d-Rg.X _↔Rg.X (Jq p q)^p^d=Rg.X (Jq p q):=by
  rw[←up_z,up_sub,up_pow,Rg.sub_z];rfl
 rw[e]
 constructor
 ·intro h2
  have:=claimA hp hq hd h2
  omega
 ·exact claimB hp hq
theorem ddf_step(hp:IsP p){f h g w:Fx p}{d:Nat}(hd:0<d)(hf:f≠0)(hs:Sqf f)(hn:NoD d f)(hh:f∣h-Rg.X _^p^d)(hg:Gc f (h-Rg.X _) g)(hw:f=g*w) :
  AllD d g∧Sqf g∧Sqf w∧NoD (d+1) w:=by
 have iff:∀q,Irr q→q∣f→(q∣g↔sz q=d+1):=fun q hq hqf=>by
  rw[←ddf_iff hp hq hd (hn q hq hqf)]
  have i1:∀a b c:Fx p,a-b-(c-b)=a-c:=Rg.ind fun a=>Rg.ind fun b=>Rg.ind fun c=>Rg.eq fun x=>by grind
  have e:f∣(h-Rg.X _)-(Rg.X _^p^d-Rg.X _):=by rw[i1];exact hh
  constructor
  ·intro h1;exact dv_cong (dv_neg e) hqf (dv_trans h1 hg.right)
  ·intro h1;exact hg.dv hqf (dv_cong e hqf h1)
 have wf:w∣f:=⟨g,by rw[hw,Rg.mul_c]⟩
 refine⟨fun q hq hqg=>(iff q hq (dv_trans hqg hg.left)).1 hqg,fun q hq hqg=>hs q hq (dv_trans hqg hg.left),fun q hq hqg=>hs q hq (dv_trans hqg wf),fun q hq hqw=>?_⟩
 have h1:=hn q hq (dv_trans hqw wf)
 refine Classical.byContradiction fun h2=>?_
 have h3:=(iff q hq (dv_trans hqw wf)).2 (by omega)
 obtain⟨a,ha⟩:=h3
 obtain⟨b,hb⟩:=hqw
 refine hs q hq ⟨a*b,?_⟩
 rw[hw,ha,hb]
 have i2:∀q a b:Fx p,q*a*(q*b)=q*q*(a*b):=Rg.ind fun a=>Rg.ind fun b=>Rg.ind fun c=>Rg.eq fun x=>by grind
 exact i2 _ _ _
theorem last_irr(hp:IsP p){f:Fx p}{d:Nat}(hn:NoD d f)(h2:2≤sz f)(h:sz f≤2*d):Irr f:=⟨h2,fun a b e=>by
 have h0:0<p:=by have:=hp.1;omega
 have ha:a≠0:=fun e2=>by rw[e,e2,Rg.zero_m,sz_zero h0]at h2;omega
 have hb:b≠0:=fun e2=>by rw[e,e2,Rg.mul_0,sz_zero h0]at h2;omega
 have h3:=sz_mul hp ha hb
 refine Classical.byContradiction fun hc=>?_
 obtain⟨q,hq,hqa⟩:=irr_ex hp (a:=a) (by omega)
 obtain⟨r,hr,hrb⟩:=irr_ex hp (a:=b) (by omega)
 have:=hn q hq (dv_trans hqa ⟨b,e⟩)
 have:=hn r hr (dv_trans hrb ⟨a,by rw[e,Rg.mul_c]⟩)
 have:=dv_sz hp hqa ha
 have:=dv_sz hp hrb hb
 rw[←e]at h3
 omega⟩
theorem irr_test(hp:IsP p){f h g:Fx p}{i:Nat}(hf:Irr f)(hi:0<i)(h2:2*i<sz f)(hh:f∣h-Rg.X _^p^i)(hg:Gc f (h-Rg.X _) g):sz g=1:=by
 have hf0:=hf.nz hp
 have hg0:g≠0:=fun e=>by
  obtain⟨c,hc⟩:=hg.left
  rw[e,Rg.zero_m]at hc
  exact hf0 hc
 have h3:=sz_pos hp hg0
 refine Classical.byContradiction fun hn=>?_
 obtain⟨c,hc⟩:=hg.left
 have hfg:f∣g:=by
  rcases hf.2 g c hc with h4|h4
  ·omega
  ·have hc0:c≠0:=fun e=>hf0 (by rw[hc,e,Rg.mul_0])
   have:=sz_mul hp hg0 hc0
   rw[←hc]at this
   exact dv_of_size hp hg.left hf0 (by omega)
 have i1:∀a b c:Fx p,a-b-(c-b)=a-c:=Rg.ind fun a=>Rg.ind fun b=>Rg.ind fun c=>Rg.eq fun x=>by grind
 have e:f∣(h-Rg.X _)-(Rg.X _^p^i-Rg.X _):=by rw[i1];exact hh
 have:=(ddf_iff hp hf hi (by omega)).1 (dv_cong (dv_neg e) (dv_refl _) (dv_trans hfg hg.right))
 omega
def nm(d:Nat)(T:Fx p):Fx p:=prodR ((List.range d).map (fun j=>T^p^j))
theorem up_prodR(q:Pf):∀l:List (Fx p),up q (prodR l)=prodR (l.map (up q))
 |[]=>rfl
 |a::l=>by simp only[prodR,List.map_cons];rw[up_mul,up_prodR q l]
theorem prodR_neg{J:Idl}(f:Nat→Rg J):∀l:List Nat,prodR (l.map (fun j=>Rg.C _ (-1)*f j))=Rg.C _ ((-1)^l.length)*prodR (l.map f)
 |[]=>by simp only[List.map_nil,prodR,List.length_nil,Int.pow_zero];rw[Rg.C_1,Rg.mul_1]
 |a::l=>by
  simp only[List.map_cons,prodR,List.length_cons]
  rw[prodR_neg f l,Int.pow_succ,Rg.C_mul]
  have i1:∀m a c r:Rg J,m*a*(c*r)=c*m*(a*r):=Rg.ind fun a=>Rg.ind fun b=>Rg.ind fun c=>Rg.ind fun d=>Rg.eq fun x=>by grind
  exact i1 _ _ _ _
theorem Fld.iter_add{J:Idl}(F:Fld p J)(y:Rg J)(a:Nat):∀j,(y+Rg.C J a)^p^j=y^p^j+Rg.C J a
 |0=>by rw[Nat.pow_zero,Rg.pow_1,Rg.pow_1]
 |j+1=>by rw[←pow_pp,F.iter_add y a j,F.frob,F.frob_C,pow_pp]
theorem norm_val(hp:IsP p){q:Pf}{g:List Nat}{d a c:Nat}(hg:Mo p d g)(hd:0<d)(hq:Rg.mk (Jp p) q=el g)(hir:Irr (Rg.mk (Jp p) q))(hac:p∣a+c) :
  up q (nm d (Rg.X (Jp p)+Rg.C _ (a:Int)))=Rg.C _ ((-1)^d*en g c):=by
 have h0:0<p:=by have:=hp.1;omega
 have F:=kx_fld hp hir
 have hb:=claimB hp hir (d:=d) (by rw[hq,hg.size h0])
 obtain⟨g2,hg2,hdv,hev⟩:=orbit_dv hp hir hd hb
 rw[hq]at hdv
 have:=Mo.dv_eq hp hg hg2 hdv
 subst this
 have e1:=hev (Rg.C _ (c:Int))
 rw[evN_C]at e1
 have e2:(List.range d).map (up q ∘ fun j=>(Rg.X (Jp p)+Rg.C _ (a:Int))^p^j)=(List.range d).map (fun j=>Rg.C (Jq p q) (-1)*(Rg.C _ (c:Int)-Rg.X (Jq p q)^p^j)):=by
  refine List.map_congr_left (fun j _=>?_)
  show up q ((Rg.X (Jp p)+Rg.C _ (a:Int))^p^j)=_
  have e3:Rg.C (Jq p q) (a:Int)=Rg.C (Jq p q) (-1)*Rg.C (Jq p q) (c:Int):=by
   rw[←Rg.C_mul]
   obtain⟨k,hk⟩:=hac
   exact F.cast ⟨k,by rw[show(p:Int)*(k:Int)=((p*k:Nat):Int) from(Int.natCast_mul p k).symm,←hk];omega⟩
  rw[up_pow,up_add]
  have e4:(up q (Rg.X (Jp p))+up q (Rg.C (Jp p) (a:Int)))^p^j=Rg.X (Jq p q)^p^j+Rg.C (Jq p q) (a:Int):=F.iter_add _ a j
  rw[e4,e3]
  have i1:∀x c:Kx p q,x+Rg.C _ (-1)*c=Rg.C _ (-1)*(c-x):=Rg.ind fun a=>Rg.ind fun b=>Rg.eq fun x=>by
   show a.f x+(-1)*b.f x=(-1)*(b.f x-a.f x)
   omega
  exact i1 _ _
 rw[nm,up_prodR,List.map_map,e2,prodR_neg,List.length_range,←e1,←Rg.C_mul]
end Go.Proofs.Pl
namespace Go.Proofs.Pl
variable {p:Nat}
theorem Irr.assoc(hp:IsP p){q r:Fx p}(h:Irr q)(h1:r∣q)(h2:q∣r):Irr r:=by
 have h0:0<p:=by have:=hp.1;omega
 have hq:=h.nz hp
 have hr:r≠0:=fun e=>by
  obtain⟨c,hc⟩:=h1
  rw[e,Rg.zero_m]at hc;exact hq hc
 have e1:=dv_sz hp h1 hq
 have e2:=dv_sz hp h2 hr
 have:=h.1
 refine⟨by omega,fun a b e=>?_⟩
 obtain⟨c,hc⟩:=h1
 have hb:b≠0:=fun e2=>hr (by rw[e,e2,Rg.mul_0])
 have hc0:c≠0:=fun e2=>hq (by rw[hc,e2,Rg.mul_0])
 rcases h.2 a (b*c) (by rw[hc,e,Rg.mul_a])with h3|h3
 ·exact .inl h3
 ·have:=sz_mul hp hb hc0
  have:=sz_pos hp hc0
  exact .inr (by omega)
theorem mo_rep(hp:IsP p){q:Fx p}(h:q≠0):∃g n,Mo p n g∧n+1=sz q∧(el g:Fx p)∣q∧q∣el g:=by
 have h0:0<p:=by have:=hp.1;omega
 obtain⟨l,l1,rfl⟩:=el_surj h0 q
 have hl:l≠[]:=fun e=>h (by rw[e,el_nil])
 have hl0:=List.length_pos_iff.2 hl
 obtain⟨c,hc⟩:∃c:Nat,(p:Int)∣(c:Int)*((l[l.length-1]?.getD 0:Nat):Int)-1:=by
  refine⟨(l[l.length-1]?.getD 0)^(p-2),?_⟩
  have:=fermat1 hp (l1.lead hl)
  have h2:=hp.1
  have e:(l[l.length-1]?.getD 0)^(p-2)*(l[l.length-1]?.getD 0)=(l[l.length-1]?.getD 0)^(p-1):=by rw[←Nat.pow_succ];congr 1;omega
  rw[←Int.natCast_mul,e]
  refine Int.dvd_of_emod_eq_zero ?_
  rw[Int.sub_emod,←Int.natCast_emod,this,show(1:Int)%(p:Int)=1 from Int.emod_eq_of_lt (by omega) (by omega)]
  simp
 obtain⟨g,g1,g2⟩:=el_surj h0 (Rg.C _ (c:Int)*el l:Fx p)
 have hm:=monic_mo hp.1 l1 hl g1 hc (fx_eq.1 g2)
 refine⟨g,l.length-1,hm,by rw[sz_el h0 l1];omega,?_,?_⟩
 ·refine⟨Rg.C _ ((l[l.length-1]?.getD 0:Nat):Int),?_⟩
  obtain⟨k,hk⟩:=hc
  rw[g2]
  have e1:Rg.C (Jp p) ((c:Int)*((l[l.length-1]?.getD 0:Nat):Int))=1:=by
   rw[←Rg.C_1];exact(fx_fld hp).cast ⟨k,by omega⟩
  have i1:∀c l a:Fx p,c*l*a=c*a*l:=Rg.ind fun a=>Rg.ind fun b=>Rg.ind fun c=>Rg.eq fun x=>by grind
  rw[i1,←Rg.C_mul,e1,Rg.one_m]
 ·rw[g2];exact dv_r _ _
theorem irr_mo(hp:IsP p){f:Fx p}(h:2≤sz f):∃g n,Mo p n g∧Irr (el g:Fx p)∧(el g:Fx p)∣f:=by
 obtain⟨q,hq,hd⟩:=irr_ex hp h
 obtain⟨g,n,g1,g2,g3,g4⟩:=mo_rep hp (hq.nz hp)
 exact⟨g,n,g1,hq.assoc hp g3 g4,dv_trans g3 hd⟩
theorem Irr.eq_dv(hp:IsP p){q r:Fx p}(hq:Irr q)(hr:Irr r)(h:q∣r):r∣q:=by
 obtain⟨c,hc⟩:=h
 have h0:=hr.nz hp
 have hc0:c≠0:=fun e=>h0 (by rw[hc,e,Rg.mul_0])
 have h1:=hq.1
 rcases hr.2 q c hc with h2|h2
 ·omega
 ·have:=sz_mul hp (hq.nz hp) hc0
  rw[←hc]at this
  exact dv_of_size hp ⟨c,hc⟩ h0 (by omega)
theorem val_mo(hp:2≤p):∀(g:List Nat) (n:Nat),g.length=n+1→(∀d∈g,d<p)→g[n]?=some 1→p^n≤val p g∧val p g<2*p^n
 |[],n,h,_,_=>by simp at h
 |[a],n,h,h1,h2=>by
  have:n=0:=by simpa using h.symm
  subst this
  have:a=1:=by simpa using h2
  subst this
  simp[val]
 |a::b::l,n,h,h1,h2=>by
  obtain⟨m,rfl⟩:∃m,n=m+1:=⟨n-1,by simp at h;omega⟩
  obtain⟨i1,i2⟩:=val_mo hp (b::l) m (by simpa using h) (fun d hd=>h1 d (List.mem_cons_of_mem _ hd)) (by simpa using h2)
  have ha:=h1 a (List.mem_cons_self)
  rw[val,Nat.pow_succ,Nat.mul_comm (p^m)]
  have e1:=Nat.mul_le_mul_left p i1
  have e2:=Nat.mul_le_mul_left p (show val p (b::l)+1≤2*p^m from i2)
  rw[Nat.mul_add,Nat.mul_left_comm]at e2
  omega
theorem lin_ndv(hp:IsP p){q:Fx p}(hq:Irr q)(h:3≤sz q)(c:Nat):¬lin p c∣q:=fun hd=>by
 have:=(lin_irr hp c).eq_dv hp hq hd
 have:=dv_sz hp this ((lin_irr hp c).nz hp)
 rw[sz_lin hp]at this;omega
theorem up_lin(hp:IsP p){q:Pf}{c:Nat}(hq:Rg.mk (Jp p) q=lin p c)(g:List Nat):up q (el g:Fx p)=Rg.C _ (en g c):=by
 have g2:up q (Rg.X (Jp p))=Rg.C _ (c:Int):=by
  rw[←Rg.sub_z,show Rg.C (Jq p q) (c:Int)=up q (Rg.C _ (c:Int)) from rfl,←up_sub]
  exact up_z.2 (by rw[hq];exact dv_refl _)
 have e:(el g:Fx p)=evN g (Rg.X _):=(evN_X g).symm
 have e2:∀l:List Nat,up q (evN l (Rg.X (Jp p)))=evN l (up q (Rg.X (Jp p))):=fun l=>by
  rw[evN,up_evR,List.map_map];rfl
 rw[e,e2,g2,evN_C]
theorem C_zero_iff{J:Idl}(F:Fld p J){z:Int}:Rg.C J z=0↔(p:Int)∣z:=by
 constructor
 ·intro h
  have h2:=F.pr.1
  have e:Rg.C J z=Rg.C J ((z%(p:Int)).toNat:Int):=F.cast (by
   rw[Int.toNat_of_nonneg (Int.emod_nonneg _ (by omega))]
   exact Int.dvd_self_sub_emod)
  rw[e]at h
  refine Classical.byContradiction fun hn=>F.C_nz (k:=(z%(p:Int)).toNat) (fun hd=>hn ?_) h
  have h3:=Int.emod_lt_of_pos z (show(0:Int)<p by omega)
  have h4:=Int.emod_nonneg z (show(p:Int)≠0 by omega)
  have:=Nat.eq_zero_of_dvd_of_lt hd (by omega)
  exact Int.dvd_of_emod_eq_zero (by omega)
 ·rintro⟨k,hk⟩
  rw[←Rg.C_0]
  exact F.cast ⟨k,by omega⟩
theorem sq_one(hp:IsP p){h:Nat}(hh:p=2*h+1){v:Int}(hv:¬(p:Int)∣v):(p:Int)∣v^h-1∨(p:Int)∣v^h+1:=by
 have h2:=hp.1
 refine hp.dvd_mulI ?_
 have e:(v^h-1)*(v^h+1)=v^(p-1)-1:=by
  rw[show p-1=h+h by omega,Int.pow_add];grind
 rw[e]
 have hm:(p:Int)∣v-((v%(p:Int)).toNat:Int):=by
  rw[Int.toNat_of_nonneg (Int.emod_nonneg _ (by omega))]
  exact Int.dvd_self_sub_emod
 have F:=fx_fld hp
 have e2:Rg.C (Jp p) v=Rg.C _ ((v%(p:Int)).toNat:Int):=F.cast hm
 have h5:¬p∣(v%(p:Int)).toNat:=fun hd=>by
  have h3:=Int.emod_lt_of_pos v (show(0:Int)<p by omega)
  have h4:=Int.emod_nonneg v (show(p:Int)≠0 by omega)
  have:=Nat.eq_zero_of_dvd_of_lt hd (by omega)
  exact hv (Int.dvd_of_emod_eq_zero (by omega))
 have h6:=fermat1 hp h5
 rw[←C_zero_iff F,Rg.C_sub,Rg.C_pow,e2,←Rg.C_pow,←Rg.C_sub,C_zero_iff F]
 refine Int.dvd_of_emod_eq_zero ?_
 rw[←Int.natCast_pow,Int.sub_emod,←Int.natCast_emod,h6,show(1:Int)%(p:Int)=1 from Int.emod_eq_of_lt (by omega) (by omega)]
 simp
theorem split_ok(hp:IsP p)(hp2:p≤2147483647){f:Fx p}{d:Nat}(hd0:0<d)(hf:f≠0)(hs:Sqf f)(ha:AllD d f)(hsz:sz f≠d+1)(h2:2≤sz f)(h9:sz f≤10) :
  ∃n,p≤n∧n<18446744073709551615∧(Gd f (el (dg p n))∨∃h,p=2*h+1∧Gd f (nm d (el (dg p n))^h-1)):=by
 have hp1:=hp.1
 have h0:0<p:=by omega
 obtain⟨g1,n1,m1,i1,d1⟩:=irr_mo hp h2
 have s1:=ha _ i1 d1
 obtain⟨w,hw⟩:=d1
 have hw0:w≠0:=fun e=>hf (by rw[hw,e,Rg.mul_0])
 have e1:=sz_mul hp (i1.nz hp) hw0
 rw[←hw,s1]at e1
 have:=sz_pos hp hw0
 obtain⟨g2,n2,m2,i2,d2⟩:=irr_mo hp (f:=w) (by omega)
 have d2f:(el g2:Fx p)∣f:=dv_trans d2 ⟨el g1,by rw[hw,Rg.mul_c]⟩
 have s2:=ha _ i2 d2f
 have hsw:=sz_mul hp (i1.nz hp) (i2.nz hp)
 have z2:=dv_sz hp d2 hw0
 rw[m2.size h0]at z2
 rw[m1.size h0]at s1
 rw[m2.size h0]at s2
 obtain rfl:n1=d:=by omega
 obtain rfl:n2=n1:=by omega
 have n12:¬(el g1:Fx p)∣el g2:=fun hd=>by
  obtain⟨a,ha⟩:=dv_trans hd d2
  exact hs _ i1 ⟨a,by rw[hw,ha,Rg.mul_a]⟩
 have n21:¬(el g2:Fx p)∣el g1:=fun hd=>n12 (i2.eq_dv hp i1 hd)
 have d1f:(el g1:Fx p)∣f:=⟨w,hw⟩
 by_cases small:2*p^n2≤18446744073709551615
 ·obtain⟨v1,v2⟩:=val_mo hp1 g1 n2 m1.2.1 m1.1.1 m1.2.2
  refine⟨val p g1,?_,by omega,.inl ?_⟩
  ·have:p^1≤p^n2:=Nat.pow_le_pow_right h0 hd0
   rw[Nat.pow_one]at this;omega
  ·rw[dg_val hp1 m1.1]
   exact⟨el g1,el g2,i1,i2,d1f,d2f,dv_refl _,n21⟩
 ·have hd3:3≤n2:=Classical.byContradiction fun hn=>small (by
   have:p^n2≤p^2:=Nat.pow_le_pow_right h0 (by omega)
   have h3:p^2≤2147483647^2:=Nat.pow_le_pow_left hp2 2
   omega)
  have hd4:n2≤4:=by omega
  have hbig:1500≤p:=Classical.byContradiction fun hn=>small (by
   have h3:p^n2≤p^4:=Nat.pow_le_pow_right h0 hd4
   have h4:p^4≤1500^4:=Nat.pow_le_pow_left (by omega) 4
   omega)
  obtain⟨h,hh⟩:∃h,p=2*h+1:=by
   refine⟨p/2,?_⟩
   have:¬2∣p:=fun hd=>by
    rcases hp.2 2 hd with h5|h5<;>omega
   omega
  have nX:¬Rg.X (Jp p)∣el g1*el g2:=fun hd=>by
   have key:∀q:Fx p,Irr q→3≤sz q→¬Rg.X (Jp p)∣q:=fun q hq h3 hd=>by
    have:=dv_sz hp ((X_irr hp).eq_dv hp hq hd) ((X_irr hp).nz hp)
    rw[sz_X hp1]at this;omega
   rcases (X_irr hp).prime hp hd with h5|h5
   ·exact key _ i1 (by rw[m1.size h0];omega) h5
   ·exact key _ i2 (by rw[m2.size h0];omega) h5
  have nl:∀c,c<p→¬lin p c∣el g1*el g2:=fun c hc hd=>by
   rcases (lin_irr hp c).prime hp hd with h5|h5
   ·exact lin_ndv hp i1 (by rw[m1.size h0];omega) c h5
   ·exact lin_ndv hp i2 (by rw[m2.size h0];omega) c h5
  rw[m1.size h0,m2.size h0]at hsw
  obtain⟨c,hc,hnd⟩:=stepanov hp hh hbig i1 n12 (by omega) nX nl
  obtain⟨ql,hql⟩:=lin_pf p c
  have Fl:=kx_fld hp (q:=ql) (by rw[hql];exact lin_irr hp c)
  have v1:¬(p:Int)∣en g1 c:=fun hd=>by
   have:=(C_zero_iff Fl).2 hd
   rw[←up_lin hp hql,up_z,hql]at this
   exact lin_ndv hp i1 (by rw[m1.size h0];omega) c this
  have v2:¬(p:Int)∣en g2 c:=fun hd=>by
   have:=(C_zero_iff Fl).2 hd
   rw[←up_lin hp hql,up_z,hql]at this
   exact lin_ndv hp i2 (by rw[m2.size h0];omega) c this
  have v12:¬(p:Int)∣(en g1 c*en g2 c)^h-1:=fun hd=>hnd (by
   rw[←hql,←up_z,up_sub,up_pow,up_mul,up_lin hp hql,up_lin hp hql]
   have:=(C_zero_iff Fl).2 hd
   rw[Rg.C_sub,Rg.C_pow,Rg.C_mul]at this
   exact this)
  let a:=p-c
  have hac:p∣a+c:=⟨1,by omega⟩
  refine⟨val p [a%p,1],?_,?_,.inr ⟨h,hh,?_⟩⟩
  ·simp only[val];omega
  ·simp only[val]
   have:=Nat.mod_lt a h0
   omega
  have hrd:Rd p [a%p,1]:=⟨fun d hd=>by
   have:=Nat.mod_lt a h0
   simp at hd;omega,fun d hd=>by simp at hd;omega⟩
  rw[dg_val hp1 hrd]
  have hac2:p∣a%p+c:=by
   have e3:=Nat.mod_add_div a p
   rw[←e3]at hac
   have:p∣(a%p+c)+p*(a/p):=by rw[show a%p+c+p*(a/p)=a%p+p*(a/p)+c by omega];exact hac
   exact(Nat.dvd_add_left (Nat.dvd_mul_right p _)).1 this
  have eT:(el [a%p,1]:Fx p)=Rg.X _+Rg.C _ ((a%p:Nat):Int):=Rg.eq fun x=>by
   show en [a%p,1] x=x+((a%p:Nat):Int)
   simp[en,nv];omega
  rw[eT]
  have um:∀g:List Nat,Mo p n2 g→Irr (el g:Fx p)→∀z:Int,(p:Int)∣((-1)^n2*en g c)^h-z→((el g:Fx p)∣nm n2 (Rg.X (Jp p)+Rg.C _ ((a%p:Nat):Int))^h-1↔(p:Int)∣z-1):=fun g hg hi z hz=>by
   have F:=kx_fld hp (q:=⟨en g,PF.en g⟩) hi
   rw[show(el g:Fx p)=Rg.mk (Jp p) ⟨en g,PF.en g⟩ from rfl,←up_z,up_sub,up_pow,norm_val hp hg hd0 rfl hi hac2,←Rg.C_pow,F.cast hz,show up _ (1:Fx p)=Rg.C _ 1 from rfl,←Rg.C_sub,C_zero_iff F]
  have sg:∀n:Nat,((-1:Int))^n=1∨((-1:Int))^n=-1:=fun n=>by
   induction n with
   |zero=>exact .inl rfl
   |succ n ih=>rw[Int.pow_succ];omega
  have w1:=sq_one hp hh (v:=(-1)^n2*en g1 c) (by rcases sg n2 with h5|h5<;>rw[h5]<;>simpa using v1)
  have w2:=sq_one hp hh (v:=(-1)^n2*en g2 c) (by rcases sg n2 with h5|h5<;>rw[h5]<;>simpa using v2)
  have ww:((-1)^n2*en g1 c)^h*((-1)^n2*en g2 c)^h=(en g1 c*en g2 c)^h:=by
   rw[←Int.mul_pow]
   congr 1
   rcases sg n2 with h5|h5<;>rw[h5]<;>grind
  have p2:¬(p:Int)∣(-1)-1:=fun hd=>by
   have:(p:Int)∣2:=by
    obtain⟨k,hk⟩:=hd
    exact⟨-k,by rw[Int.mul_neg,←hk];omega⟩
   have:=Int.le_of_dvd (by omega) this
   omega
  have comb:∀x y k l z:Int,x*y=z→x-1=p*k→y-1=p*l→(p:Int)∣z-1:=fun x y k l z e1 e2 e3=>⟨k*y+l,by
   have:x=p*k+1:=by omega
   rw[←e1,this]
   have:y=p*l+1:=by omega
   grind⟩
  have comb2:∀x y k l z:Int,x*y=z→x+1=p*k→y+1=p*l→(p:Int)∣z-1:=fun x y k l z e1 e2 e3=>⟨k*y-l,by
   have:x=p*k-1:=by omega
   rw[←e1,this]
   have:y=p*l-1:=by omega
   grind⟩
  rcases w1 with w1|w1<;>rcases w2 with w2|w2
  ·obtain⟨k,hk⟩:=w1
   obtain⟨l,hl⟩:=w2
   exact absurd (comb _ _ _ _ _ ww hk hl) v12
  ·exact⟨el g1,el g2,i1,i2,d1f,d2f,(um g1 m1 i1 1 w1).2 ⟨0,by omega⟩,fun hd=>p2 ((um g2 m2 i2 (-1) (by rw[Int.sub_neg];exact w2)).1 hd)⟩
  ·exact⟨el g2,el g1,i2,i1,d2f,d1f,(um g2 m2 i2 1 w2).2 ⟨0,by omega⟩,fun hd=>p2 ((um g1 m1 i1 (-1) (by rw[Int.sub_neg];exact w1)).1 hd)⟩
  ·obtain⟨k,hk⟩:=w1
   obtain⟨l,hl⟩:=w2
   exact absurd (comb2 _ _ _ _ _ ww hk hl) v12
end Go.Proofs.Pl
namespace Go.Proofs.Pl
variable {p:Nat}
theorem cg_refl(f a:Fx p):f∣a-a:=by rw[Rg.sub_z.2 rfl];exact dv_zero f
theorem cg_trans{f a b c:Fx p}(h:f∣a-b)(g:f∣b-c):f∣a-c:=by
 have i1:∀a b c:Fx p,a-c=(a-b)+(b-c):=Rg.ind fun a=>Rg.ind fun b=>Rg.ind fun c=>Rg.eq fun x=>by grind
 rw[i1 a b c];exact dv_add h g
theorem cg_mul{f a b c d:Fx p}(h:f∣a-b)(g:f∣c-d):f∣a*c-b*d:=by
 have i1:∀a b c d:Fx p,a*c-b*d=(a-b)*c+b*(c-d):=Rg.ind fun a=>Rg.ind fun b=>Rg.ind fun c=>Rg.ind fun d=>Rg.eq fun x=>by grind
 rw[i1];exact dv_add (dv_mul _ h) (dv_mul' _ g)
theorem cg_sub{f a b c d:Fx p}(h:f∣a-b)(g:f∣c-d):f∣(a-c)-(b-d):=by
 have i1:∀a b c d:Fx p,a-c-(b-d)=(a-b)-(c-d):=Rg.ind fun a=>Rg.ind fun b=>Rg.ind fun c=>Rg.ind fun d=>Rg.eq fun x=>by grind
 rw[i1];exact dv_sub h g
theorem cg_pow{f a b:Fx p}(h:f∣a-b):∀n:Nat,f∣a^n-b^n
 |0=>by rw[Rg.pow_0,Rg.pow_0];exact cg_refl f 1
 |n+1=>by rw[Rg.pow_s,Rg.pow_s];exact cg_mul (cg_pow h n) h
theorem cg_rem{a f q r:List Nat}(h:IsDiv p (en a) f q r):(el f:Fx p)∣el r-el a:=by
 refine dv_neg ?_
 rw[el_div h]
 have i1:∀q f r:Fx p,q*f+r-r=f*q:=Rg.ind fun a=>Rg.ind fun b=>Rg.ind fun c=>Rg.eq fun x=>by grind
 rw[i1];exact dv_l _ _
theorem el_mulN{a b r:List Nat}(h:Cg p (en r) (fun x=>en a x*en b x)):(el r:Fx p)=el a*el b:=(fx_eq (a:=⟨en r,PF.en r⟩) (b:=Pf.mul ⟨en a,PF.en a⟩ ⟨en b,PF.en b⟩)).2 h
theorem el_subN{a b r:List Nat}(h:Cg p (en r) (fun x=>en a x-en b x)):(el r:Fx p)=el a-el b:=(fx_eq (a:=⟨en r,PF.en r⟩) (b:=Pf.sub ⟨en a,PF.en a⟩ ⟨en b,PF.en b⟩)).2 h
def PwI(f A:Fx p)(n:Nat)(o b:Fx p)(k:Nat):Prop:=f∣o*b^k-A^n
theorem PwI.start{f A o b:Fx p}{n:Nat}(ho:f∣o-1)(hb:f∣b-A):PwI f A n o b n:=by
 have:=cg_mul ho (cg_pow hb n)
 rwa [Rg.one_m]at this
theorem PwI.odd{f A o b o' b':Fx p}{n k:Nat}(h:PwI f A n o b k)(hk:k%2=1)(ho:f∣o'-o*b)(hb:f∣b'-b*b):PwI f A n o' b' (k/2):=by
 refine cg_trans (cg_mul ho (cg_pow hb (k/2))) ?_
 have e:o*b*(b*b)^(k/2)=o*b^k:=by
  have h2:b^k=b*(b*b)^(k/2):=by
   rw[show b*b=b^2 by rw[show(2:Nat)=1+1 from rfl,Rg.pow_s,Rg.pow_1],←Rg.pow_m,Rg.mul_c,←Rg.pow_s];congr 1;omega
  rw[h2,Rg.mul_a]
 rw[e];exact h
theorem PwI.even{f A o b b':Fx p}{n k:Nat}(h:PwI f A n o b k)(hk:k%2=0)(hb:f∣b'-b*b):PwI f A n o b' (k/2):=by
 refine cg_trans (cg_mul (cg_refl f o) (cg_pow hb (k/2))) ?_
 have e:(b*b)^(k/2)=b^k:=by
  rw[show b*b=b^2 by rw[show(2:Nat)=1+1 from rfl,Rg.pow_s,Rg.pow_1],←Rg.pow_m];congr 1;omega
 rw[e];exact h
theorem PwI.done{f A o b:Fx p}{n:Nat}(h:PwI f A n o b 0):f∣o-A^n:=by
 unfold PwI at h
 rwa [Rg.pow_0,Rg.mul_1]at h
end Go.Proofs.Pl
namespace Go.Proofs.Pl
variable {p:Nat}
theorem mo_quo(hp:IsP p){m n:Nat}{f g q:List Nat}(hf:Mo p m f)(hg:Mo p n g)(hq:Rd p q)(h:(el f:Fx p)=el q*el g):n≤m∧Mo p (m-n) q:=by
 have h0:0<p:=by have:=hp.1;omega
 have hq0:q≠[]:=fun e=>hf.nz h0 (by rw[h,e,el_nil,Rg.zero_m])
 have hz:(el q:Fx p)≠0:=fun e=>hf.nz h0 (by rw[h,e,Rg.zero_m])
 have s:=sz_mul hp hz (hg.nz h0)
 rw[←h,hf.size h0,hg.size h0,sz_el h0 hq]at s
 have hl:=List.length_pos_iff.2 hq0
 refine⟨by omega,hq,by omega,?_⟩
 obtain⟨r,c,rfl⟩:∃r c,q=r++[c]:=⟨q.dropLast,q.getLast hq0,(List.dropLast_concat_getLast hq0).symm⟩
 obtain⟨G,hG,eG⟩:=hg.lead
 rw[List.length_append,List.length_singleton]at s
 have hk:r.length=m-n:=by omega
 have hN:r.length+n=m:=by omega
 have e:Cg p (ev (nv f)) (fun x=>(en r x*G x+en r x*x^n+c*(G x*x^r.length))+(c:Int)*x^m):=by
  have e1:Cg p (en f) (fun x=>en (r++[c]) x*en g x):=(fx_eq (a:=⟨en f,PF.en f⟩) (b:=Pf.mul ⟨en (r++[c]),PF.en _⟩ ⟨en g,PF.en g⟩)).1 h
  refine e1.congr (fun _=>rfl) (fun x=>?_)
  rw[en_snoc,eG,←hN,Int.pow_add];grind
 have hPD:PD m (fun x=>en r x*G x+en r x*x^n+(c:Int)*(G x*x^r.length)):=by
  have a1:PD m (fun x=>en r x*G x):=((PD.en r).mul hG).mono (by omega)
  have a2:PD m (fun x=>en r x*x^n):=(PD.shift n (PD.en r)).mono (by omega)
  have a3:PD m (fun x=>(c:Int)*(G x*x^r.length)):=(PD.smul c (PD.shift r.length hG)).mono (by omega)
  exact((a1.add a2).add a3).mono (by omega)
 have t:=(Cg.top hPD e).1
 rw[cf_nv,hf.2.2]at t
 have hc:c<p:=hq.1 c (by simp)
 have h1:c=1:=(small_dvd hp.1 hc (by simpa using t)).symm
 rw[←hk,h1,List.getElem?_concat_length]
theorem der_zero(hp:IsP p){f:List Nat}(hf:Rd p f)(h:D (el f:Fx p)=0):∀i,¬p∣i→f[i]?.getD 0=0:=fun i hi=>by
 have h0:0<p:=by have:=hp.1;omega
 rw[el_ei,D_ei,←ei_nil]at h
 have hc:Cg p (ev (dL (nv f))) (ev []):=fx_eq.1 h
 cases i with
 |zero=>exact absurd (Nat.dvd_zero p) hi
 |succ i=>
  have:=hc.coef i
  rw[cf_dL,cf_nv,cf_out (by simp),Int.sub_zero]at this
  have h2:(p:Int)∣((i+1:Nat):Int)*((f[i+1]?.getD 0:Nat):Int):=this
  rcases hp.dvd_mulI h2 with h3|h3
  ·exact absurd (Int.natCast_dvd_natCast.1 h3) hi
  ·exact Nat.eq_zero_of_dvd_of_lt (Int.natCast_dvd_natCast.1 h3) (hf.getD_lt h0 _)
theorem every_mem(k:Nat):∀(n:Nat) (l:List Nat),∀x∈every k n l,x∈l
 |0,l,x,h=>by cases h
 |n+1,[],x,h=>by cases h
 |n+1,a::l,x,h=>by
  rcases List.mem_cons.1 h with h1|h1
  ·rw[h1];exact List.mem_cons_self
  ·exact List.mem_cons_of_mem _ (List.mem_of_mem_drop (every_mem k n _ x h1))
theorem every_last(hp:0<p):∀(n:Nat) (l:List Nat) (x:Nat),l.length≤n→l≠[]→p∣l.length-1→l[l.length-1]?=some x→∃r,every (p-1) n l=r++[x]
 |0,l,x,hn,h0,hd,hx=>by
  have:=List.length_pos_iff.2 h0;omega
 |n+1,[],x,hn,h0,hd,hx=>absurd rfl h0
 |n+1,a::l,x,hn,h0,hd,hx=>by
  simp only[List.length_cons,Nat.add_sub_cancel]at hd hx hn
  by_cases hl:l=[]
  ·subst hl
   simp at hx
   exact⟨[],by cases n<;>simp[every,hx]⟩
  ·have h1:=List.length_pos_iff.2 hl
   have h2:=Nat.le_of_dvd h1 hd
   have e1:(l.drop (p-1)).length=l.length-p+1:=by rw[List.length_drop];omega
   obtain⟨r,hr⟩:=every_last hp n (l.drop (p-1)) x (by omega) (fun e=>by rw[e]at e1;simp at e1) (by
    rw[e1,Nat.add_sub_cancel];exact Nat.dvd_sub hd (Nat.dvd_refl p)) (by
    rw[e1,List.getElem?_drop,Nat.add_sub_cancel,show p-1+(l.length-p)=l.length-1 by omega]
    rwa [show l.length=l.length-1+1 by omega,List.getElem?_cons_succ]at hx)
   exact⟨a::r,by simp only[every,hr,List.cons_append]⟩
theorem root_ok(hp:IsP p){m:Nat}{f:List Nat}(hf:Mo p m f)(hm:1≤m)(h:D (el f:Fx p)=0):∃n,Mo p n (every (p-1) f.length f)∧n<m∧1≤n∧(el f:Fx p)=el (every (p-1) f.length f)^p:=by
 have h0:0<p:=by have:=hp.1;omega
 have hz:=der_zero hp hf.1 h
 have hl:=hf.2.1
 have hd:p∣m:=Classical.byContradiction fun hn=>by
  have:=hz m hn
  rw[hf.2.2]at this
  simp at this
 obtain⟨r,hr⟩:=every_last h0 f.length f 1 (Nat.le_refl _) (fun e=>by rw[e]at hl;simp at hl) (by rw[hl,Nat.add_sub_cancel];exact hd) (by rw[hl,Nat.add_sub_cancel];exact hf.2.2)
 have hev:=every_ev h0 f.length f (Nat.le_refl _) hz
 have hp1:=hp.1
 have hmo:Mo p r.length (every (p-1) f.length f):=by
  refine⟨⟨fun d hd=>hf.1.1 d (every_mem _ _ _ d hd),fun d hd=>?_⟩,by rw[hr];simp,by rw[hr,List.getElem?_concat_length]⟩
  rw[hr]at hd
  simp at hd
  omega
 have e:(el f:Fx p)=el (every (p-1) f.length f)^p:=by
  rw[←hev,←(fx_fld hp).evN_frob,evN_X];rfl
 have sp:∀n:Nat,sz (el (every (p-1) f.length f)^n:Fx p)=n*r.length+1:=fun n=>by
  induction n with
  |zero=>rw[Rg.pow_0,sz_1 hp1];omega
  |succ n ih=>
   have hz:(el (every (p-1) f.length f)^n:Fx p)≠0:=fun e=>by rw[e,sz_zero h0]at ih;omega
   have:=sz_mul hp hz (hmo.nz h0)
   rw[hmo.size h0]at this
   rw[Rg.pow_s,Nat.succ_mul]
   omega
 have s:=sp p
 rw[←e,hf.size h0]at s
 have e2:m=p*r.length:=by omega
 refine⟨r.length,hmo,?_,?_,e⟩
 ·have h5:1≤r.length:=Nat.pos_of_ne_zero (fun h6=>by rw[h6]at e2;omega)
  have:=Nat.mul_le_mul_right r.length hp1
  omega
 ·exact Nat.pos_of_ne_zero (fun h6=>by rw[h6]at e2;omega)
def PartsOk(p m:Nat)(f:Fx p)(L:List (List Nat)):Prop:=(∀l∈L,(∃n,1≤n∧n≤m∧Mo p n l)∧Sqf (el l:Fx p))∧∀q:Fx p,Irr q→q∣f→∃l∈L,q∣el l
theorem PartsOk.nil(hp:IsP p){m:Nat}{f:List Nat}(h:f.length≤1)(hf:f≠[])(hr:Rd p f):PartsOk p m (el f) []:=⟨(fun l h=>by cases h),fun q hq hd=>by
 have h0:0<p:=by have:=hp.1;omega
 have hz:(el f:Fx p)≠0:=fun e=>hf (el_inj h0 hr (Rd.nil p) (e.trans el_nil.symm))
 have:=dv_sz hp hd hz
 rw[sz_el h0 hr]at this
 have:=hq.1
 omega⟩
theorem PartsOk.root(hp:IsP p){m n:Nat}{f g:Fx p}{L:List (List Nat)}(h:PartsOk p n g L)(hn:n≤m)(e:f=g^p):PartsOk p m f L:=
 ⟨fun l hl=>by
  obtain⟨⟨k,k1,k2,k3⟩,k4⟩:=h.1 l hl
  exact⟨⟨k,k1,by omega,k3⟩,k4⟩,fun q hq hd=>h.2 q hq (hq.pow hp p (e▸hd))⟩
theorem PartsOk.snoc(hp:IsP p){m n:Nat}{f g:Fx p}{l:List Nat}{L:List (List Nat)}(h:PartsOk p n g L)(hn:n≤m)(e:f=el l*g)(hl:∃k,1≤k∧k≤m∧Mo p k l)(hs:Sqf (el l:Fx p)):PartsOk p m f (L++[l]):=
 ⟨fun x hx=>by
  rcases List.mem_append.1 hx with h1|h1
  ·obtain⟨⟨k,k1,k2,k3⟩,k4⟩:=h.1 x h1
   exact⟨⟨k,k1,by omega,k3⟩,k4⟩
  ·rw[List.mem_singleton.1 h1];exact⟨hl,hs⟩,fun q hq hd=>by
  rw[e]at hd
  rcases hq.prime hp hd with h1|h1
  ·exact⟨l,by simp,h1⟩
  ·obtain⟨x,hx,hd⟩:=h.2 q hq h1
   exact⟨x,List.mem_append_left _ hx,hd⟩⟩
theorem part_ok(hp:IsP p){m:Nat}{f d g q r:List Nat}(hf:Mo p m f)(hm:1≤m)(hd:(el d:Fx p)=D (el f))(hdr:Rd p d)(hd0:d≠[])(hg:IsGcd p (en f) (en d) g)(hq:IsDiv p (en f) g q r) :
  (∃n,n<m∧Mo p n g)∧(el f:Fx p)=el q*el g∧(∃k,1≤k∧k≤m∧Mo p k q)∧Sqf (el q:Fx p):=by
 have h0:0<p:=by have:=hp.1;omega
 have gc:=el_gcd hg
 have hfz:=hf.nz h0
 have hDz:(el d:Fx p)≠0:=fun e=>hd0 (el_inj h0 hdr (Rd.nil p) (e.trans el_nil.symm))
 have hgz:(el g:Fx p)≠0:=fun e=>by
  obtain⟨c,hc⟩:=gc.left
  rw[e,Rg.zero_m]at hc;exact hfz hc
 obtain⟨n,hn⟩:∃n,Mo p n g:=by
  rcases hg.mo with h|h
  ·rw[h,el_nil]at hgz;exact absurd rfl hgz
  ·exact h
 have e1:=el_div hq
 have hr0:(el r:Fx p)=0:=Classical.byContradiction fun hn2=>by
  have hdv:(el g:Fx p)∣el r:=by
   have i1:∀a b c:Fx p,c=(a*b+c)-b*a:=Rg.ind fun a=>Rg.ind fun b=>Rg.ind fun c=>Rg.eq fun x=>by grind
   rw[i1 (el q) (el g) (el r),←e1]
   exact dv_sub gc.left (dv_l _ _)
  have:=dv_sz hp hdv hn2
  rw[hn.size h0,sz_el h0 hq.hr]at this
  have:=hq.less
  have:=hn.2.1
  omega
 rw[hr0,Rg.add_0]at e1
 obtain⟨h1,h2⟩:=mo_quo hp hf hn hq.hq e1
 have hs1:=dv_sz hp gc.right hDz
 have hs2:=sz_D h0 (el f:Fx p)
 rw[hd,hn.size h0]at hs1
 rw[hf.size h0]at hs2
 refine⟨⟨n,by omega,hn⟩,e1,⟨m-n,by omega,by omega,h2⟩,?_⟩
 obtain⟨u,v,e⟩:=gc.comb
 rw[hd]at e
 exact sqf_part hp (by rw[e1,Rg.mul_c]) hgz e
end Go.Proofs.Pl
namespace Go.Proofs.Pl
variable {p:Nat}
def prE(p:Nat):List (List Nat)→Fx p
 |[]=>1
 |l::L=>el l*prE p L
theorem prE_app(L M:List (List Nat)):prE p (L++M)=prE p L*prE p M:=by
 induction L with
 |nil=>simp only[List.nil_append,prE];rw[Rg.one_m]
 |cons l L ih=>simp only[List.cons_append,prE];rw[ih,Rg.mul_a]
structure Spl(p m d:Nat)(f:List Nat):Prop where
 mo:Mo p m f
 m0:1≤m
 m9:m≤9
 d0:1≤d
 all:AllD d (el f:Fx p)
 sq:Sqf (el f:Fx p)
def SplitOk(p m:Nat)(f:Fx p)(L:List (List Nat)):Prop:=(∀l∈L,(∃n,1≤n∧n≤m∧Mo p n l)∧Irr (el l:Fx p))∧prE p L=f∧L≠[]∧L.length≤m
theorem SplitOk.one{m:Nat}{f:List Nat}(hf:Mo p m f)(hm:1≤m)(h:Irr (el f:Fx p)):SplitOk p m (el f) [f]:=⟨fun l hl=>by
 rw[List.mem_singleton.1 hl];exact⟨⟨m,hm,Nat.le_refl _,hf⟩,h⟩,by simp only[prE];rw[Rg.mul_1],by simp,by simpa using hm⟩
theorem SplitOk.two{m a b:Nat}{f g h:Fx p}{L M:List (List Nat)}(h1:SplitOk p a g L)(h2:SplitOk p b h M)(e:f=h*g)(hm:a+b≤m):SplitOk p m f (L++M):=⟨fun l hl=>by
 rcases List.mem_append.1 hl with h3|h3
 ·obtain⟨⟨n,n1,n2,n3⟩,n4⟩:=h1.1 l h3
  exact⟨⟨n,n1,by omega,n3⟩,n4⟩
 ·obtain⟨⟨n,n1,n2,n3⟩,n4⟩:=h2.1 l h3
  exact⟨⟨n,n1,by omega,n3⟩,n4⟩,by rw[prE_app,h1.2.1,h2.2.1,e,Rg.mul_c],by simp[h1.2.2.1],by
 have:=h1.2.2.2
 have:=h2.2.2.2
 rw[List.length_append];omega⟩
theorem Spl.irr(hp:IsP p){m d:Nat}{f:List Nat}(h:Spl p m d f)(e:m=d):Irr (el f:Fx p):=by
 have h0:0<p:=by have:=hp.1;omega
 have hs:=h.mo.size h0
 have:=h.m0
 obtain⟨q,hq,hd⟩:=irr_ex hp (a:=(el f:Fx p)) (by omega)
 have h2:=h.all q hq hd
 have h3:=dv_of_size hp hd (h.mo.nz h0) (by omega)
 exact hq.assoc hp h3 hd
theorem Spl.parts(hp:IsP p){m d:Nat}{f g q r s:List Nat}(h:Spl p m d f)(hg:IsGcd p (en f) (en s) g)(h1:1<g.length)(h2:g.length<f.length)(hq:IsDiv p (en f) g q r) :
  ∃a b,a+b=m∧a<m∧b<m∧Spl p a d g∧Spl p b d q∧(el f:Fx p)=el q*el g:=by
 have h0:0<p:=by have:=hp.1;omega
 have gc:=el_gcd hg
 have hfz:=h.mo.nz h0
 obtain⟨a,ha⟩:∃n,Mo p n g:=by
  rcases hg.mo with h5|h5
  ·rw[h5]at h1;simp at h1
  ·exact h5
 have e1:=el_div hq
 have hr0:(el r:Fx p)=0:=Classical.byContradiction fun hn2=>by
  have hdv:(el g:Fx p)∣el r:=by
   have i1:∀a b c:Fx p,c=(a*b+c)-b*a:=Rg.ind fun a=>Rg.ind fun b=>Rg.ind fun c=>Rg.eq fun x=>by grind
   rw[i1 (el q) (el g) (el r),←e1]
   exact dv_sub gc.left (dv_l _ _)
  have:=dv_sz hp hdv hn2
  rw[ha.size h0,sz_el h0 hq.hr]at this
  have:=hq.less
  have:=ha.2.1
  omega
 rw[hr0,Rg.add_0]at e1
 obtain⟨b1,b2⟩:=mo_quo hp h.mo ha hq.hq e1
 have hgl:=ha.2.1
 have hfl:=h.mo.2.1
 have:=h.m9
 have hqf:(el q:Fx p)∣el f:=⟨el g,e1⟩
 refine⟨a,m-a,by omega,by omega,by omega,⟨ha,by omega,by omega,h.d0,fun x hx hd=>h.all x hx (dv_trans hd gc.left),fun x hx hd=>h.sq x hx (dv_trans hd gc.left)⟩,
  ⟨b2,by omega,by omega,h.d0,fun x hx hd=>h.all x hx (dv_trans hd hqf),fun x hx hd=>h.sq x hx (dv_trans hd hqf)⟩,e1⟩
theorem Spl.found(hp:IsP p){m d:Nat}{f g s:List Nat}{u:Fx p}(h:Spl p m d f)(hg:IsGcd p (en f) (en s) g)(hu:Gd (el f) u)(hs:(el f:Fx p)∣el s-u):1<g.length∧g.length<f.length:=by
 have h0:0<p:=by have:=hp.1;omega
 obtain⟨h1,h2⟩:=(hu.cong hs).gcd hp (el_gcd hg) (h.mo.nz h0)
 rw[h.mo.size h0]at h2
 have hgr:Rd p g:=by
  rcases hg.mo with h5|⟨n,h5⟩
  ·rw[h5];exact Rd.nil p
  ·exact h5.1
 rw[sz_el h0 hgr]at h1 h2
 rw[h.mo.2.1]
 exact⟨h1,h2⟩
theorem Spl.goal(hp:IsP p)(hp2:p≤2147483647){m d:Nat}{f:List Nat}(h:Spl p m d f)(hne:m≠d) :
  ∃n,p≤n∧n<18446744073709551615∧(Gd (el f:Fx p) (el (dg p n))∨∃h,p=2*h+1∧Gd (el f:Fx p) (nm d (el (dg p n))^h-1)):=by
 have h0:0<p:=by have:=hp.1;omega
 have:=h.m0
 have:=h.m9
 exact split_ok hp hp2 h.d0 (h.mo.nz h0) h.sq h.all (by rw[h.mo.size h0];omega) (by rw[h.mo.size h0];omega) (by rw[h.mo.size h0];omega)
end Go.Proofs.Pl
namespace Go.Proofs.Pl
variable {p:Nat}
def prO(p:Nat):List (List Nat×Nat)→Fx p
 |[]=>1
 |x::O=>el x.1^x.2*prO p O
theorem prO_snoc(O:List (List Nat×Nat))(x:List Nat×Nat):prO p (O++[x])=prO p O*el x.1^x.2:=by
 induction O with
 |nil=>simp only[List.nil_append,prO];rw[Rg.mul_1,Rg.one_m]
 |cons y O ih=>simp only[List.cons_append,prO];rw[ih,Rg.mul_a]
structure MInv(p:Nat)(F0:Fx p)(F:List Nat)(O:List (List Nat×Nat)):Prop where
 mo:∃n,Mo p n F
 eq:F0=el F*prO p O
 irr:∀x∈O,(∃n,1≤n∧Mo p n x.1)∧Irr (el x.1:Fx p)∧1≤x.2∧¬(el x.1:Fx p)∣el F
 nodup:(O.map (·.1)).Nodup
theorem MInv.start{n:Nat}{F:List Nat}(h:Mo p n F):MInv p (el F) F []:=⟨⟨n,h⟩,by simp only[prO];rw[Rg.mul_1],(fun x hx=>by cases hx),by simp⟩
theorem MInv.none{F0:Fx p}{F:List Nat}{O:List (List Nat×Nat)}(h:MInv p F0 F O):MInv p F0 F O:=h
theorem MInv.push(hp:IsP p){F0:Fx p}{F G q:List Nat}{O:List (List Nat×Nat)}{n k:Nat}(h:MInv p F0 F O)(hq:Mo p k q)(hk:1≤k)(hi:Irr (el q:Fx p))(hn:1≤n)(hG:∃n,Mo p n G)(e:(el F:Fx p)=el G*el q^n)(hd:¬(el q:Fx p)∣el G) :
  MInv p F0 G (O++[(q,n)]):=by
 have hGF:(el G:Fx p)∣el F:=⟨el q^n,e⟩
 refine⟨hG,?_,fun x hx=>?_,?_⟩
 ·rw[prO_snoc,h.eq,e]
  have i1:∀g w o:Fx p,g*w*o=g*(o*w):=Rg.ind fun a=>Rg.ind fun b=>Rg.ind fun c=>Rg.eq fun x=>by grind
  exact i1 _ _ _
 ·rcases List.mem_append.1 hx with h1|h1
  ·obtain⟨a,b,c,d⟩:=h.irr x h1
   exact⟨a,b,c,fun hd=>d (dv_trans hd hGF)⟩
  ·rw[List.mem_singleton.1 h1]
   exact⟨⟨k,hk,hq⟩,hi,hn,hd⟩
 ·rw[List.map_append,List.nodup_append]
  refine⟨h.nodup,by simp,fun a ha b hb e2=>?_⟩
  simp at hb
  obtain⟨x,hx,rfl⟩:=List.mem_map.1 ha
  refine(h.irr x hx).2.2.2 ?_
  rw[e2,hb,e]
  obtain⟨m,rfl⟩:∃m,n=m+1:=⟨n-1,by omega⟩
  rw[Rg.pow_s]
  exact dv_mul' _ (dv_r _ _)
theorem MInv.size(hp:IsP p){F0:Fx p}{F:List Nat}{O:List (List Nat×Nat)}(h:MInv p F0 F O):O.length+1≤sz F0∧∀x∈O,x.2+1≤sz F0∧x.1.length≤sz F0:=by
 have h0:0<p:=by have:=hp.1;omega
 obtain⟨n,hn⟩:=h.mo
 have hz:=hn.nz h0
 have key:∀O:List (List Nat×Nat),(∀x∈O,Irr (el x.1:Fx p)∧1≤x.2)→O.length+1≤sz (prO p O)∧prO p O≠0∧∀x∈O,(el x.1^x.2:Fx p)∣prO p O:=by
  intro O
  induction O with
  |nil=>intro _;exact⟨by simp only[prO];rw[sz_1 hp.1];simp,one_nz hp.1,fun x hx=>by cases hx⟩
  |cons y O ih=>
   intro hy
   obtain⟨i1,i2,i3⟩:=ih (fun x hx=>hy x (List.mem_cons_of_mem _ hx))
   obtain⟨a,b⟩:=hy y (List.mem_cons_self)
   have pz:(el y.1^y.2:Fx p)≠0:=fun e=>a.nz hp ((fx_fld hp).pow_z e)
   have:=sz_mul hp pz i2
   have:=sz_powq hp a y.2
   refine⟨by simp only[prO,List.length_cons];omega,fun e=>?_,fun x hx=>?_⟩
   ·rcases fx_dom hp e with h|h
    ·exact pz h
    ·exact i2 h
   ·rcases List.mem_cons.1 hx with h1|h1
    ·rw[h1];exact dv_l _ _
    ·exact dv_mul' _ (i3 x h1)
 obtain⟨k1,k2,k3⟩:=key O (fun x hx=>⟨(h.irr x hx).2.1,(h.irr x hx).2.2.1⟩)
 have hF0:F0≠0:=fun e=>by
  rw[h.eq]at e
  rcases fx_dom hp e with h|h
  ·exact hz h
  ·exact k2 h
 have s:=sz_mul hp hz k2
 rw[←h.eq]at s
 have:=sz_pos hp hz
 refine⟨by omega,fun x hx=>?_⟩
 obtain⟨⟨m,m1,m2⟩,a,b,_⟩:=h.irr x hx
 have d1:(el x.1^x.2:Fx p)∣F0:=by rw[h.eq];exact dv_mul' _ (k3 x hx)
 have d2:(el x.1:Fx p)∣F0:=dv_trans (by
  obtain⟨m,hm⟩:∃m,x.2=m+1:=⟨x.2-1,by omega⟩
  rw[hm,Rg.pow_s];exact dv_r _ _) d1
 have e1:=dv_sz hp d1 hF0
 have e2:=dv_sz hp d2 hF0
 have e3:=sz_powq hp a x.2
 rw[m2.size h0]at e2
 exact⟨by omega,by rw[m2.2.1];exact e2⟩
theorem div_zero(hp:IsP p){k n:Nat}{F q s r:List Nat}(hF:Mo p n F)(hq:Mo p k q)(hd:IsDiv p (en F) q s r):(r=[]→(∃m,Mo p m s)∧(el F:Fx p)=el s*el q)∧(r≠[]→¬(el q:Fx p)∣el F):=by
 have h0:0<p:=by have:=hp.1;omega
 have e:=el_div hd
 constructor
 ·intro h
  rw[h,el_nil,Rg.add_0]at e
  exact⟨⟨_,(mo_quo hp hF hq hd.hq e).2⟩,e⟩
 ·intro h hdv
  have hr:(el r:Fx p)≠0:=fun e2=>h (el_inj h0 hd.hr (Rd.nil p) (e2.trans el_nil.symm))
  have hdr:(el q:Fx p)∣el r:=by
   have i1:∀a b c:Fx p,c=(a*b+c)-b*a:=Rg.ind fun a=>Rg.ind fun b=>Rg.ind fun c=>Rg.eq fun x=>by grind
   rw[i1 (el s) (el q) (el r),←e]
   exact dv_sub hdv (dv_l _ _)
  have:=dv_sz hp hdr hr
  rw[hq.size h0,sz_el h0 hd.hr]at this
  have:=hd.less
  have:=hq.2.1
  omega
theorem less_ndv(hp:IsP p){k n:Nat}{F q:List Nat}(hF:Mo p n F)(hq:Mo p k q)(h:F.length<q.length):¬(el q:Fx p)∣el F:=fun hd=>by
 have h0:0<p:=by have:=hp.1;omega
 have:=dv_sz hp hd (hF.nz h0)
 rw[hF.size h0,hq.size h0]at this
 have:=hF.2.1
 have:=hq.2.1
 omega
theorem prE_dv(hp:IsP p){q:Fx p}(hq:Irr q):∀L:List (List Nat),(∀l∈L,Irr (el l:Fx p))→q∣prE p L→∃l∈L,(el l:Fx p)∣q
 |[],h,hd=>by
  have:=dv_sz hp hd (one_nz hp.1)
  rw[prE,sz_1 hp.1]at this
  have:=hq.1
  omega
 |l::L,h,hd=>by
  rcases hq.prime hp hd with h1|h1
  ·exact⟨l,List.mem_cons_self,hq.eq_dv hp (h l (List.mem_cons_self)) h1⟩
  ·obtain⟨m,hm,hd⟩:=prE_dv hp hq L (fun x hx=>h x (List.mem_cons_of_mem _ hx)) h1
   exact⟨m,List.mem_cons_of_mem _ hm,hd⟩
theorem MInv.done(hp:IsP p){F0:Fx p}{F:List Nat}{O:List (List Nat×Nat)}(h:MInv p F0 F O)(hall:∀q:Fx p,Irr q→q∣F0→¬q∣el F):F=[1]:=by
 have h0:0<p:=by have:=hp.1;omega
 obtain⟨n,hn⟩:=h.mo
 by_cases hz:n=0
 ·subst hz;exact hn.zero
 ·obtain⟨q,hq,hd⟩:=irr_ex hp (a:=(el F:Fx p)) (by rw[hn.size h0];omega)
  exact absurd hd (hall q hq (by rw[h.eq];exact dv_mul _ hd))
end Go.Proofs.Pl
