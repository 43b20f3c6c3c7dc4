/-
  Plain laws: the method of Stepanov.
-/
import Derived.Test.YtilhffelllbggaaGreatMKb
set_option linter.unusedVariables false
set_option linter.unusedSimpArgs false
namespace Go.Proofs.Pl
variable {p:Nat}
theorem fx_fld(hp:IsP p):Fld p (Jp p) where
 pr:=hp
 char:=fun {f} hf=>⟨f,hf,fun x=>rfl⟩
 dom:=fun h=>fx_dom hp h
 nz:=one_nz hp.1
def up(q:Pf)(a:Fx p):Kx p q:=Quotient.lift (fun a=>Rg.mk (Jq p q) a) (fun a b (h:(Jp p).I _)=>by
 obtain⟨k,hk,e⟩:=h
 exact Rg.snd ⟨k,fun _=>0,hk,PF.const 0,fun x=>by have:a.f x-b.f x=p*k x:=e x;simp only[];omega⟩) a
theorem up_z{q:Pf}{a:Fx p}:up q a=0↔Rg.mk (Jp p) q∣a:=by
 induction a using Rg.ind with
 |h a=>exact kx_z
theorem up_add(q:Pf)(a b:Fx p):up q (a+b)=up q a+up q b:=by
 revert a b
 exact Rg.ind fun a=>Rg.ind fun b=>rfl
theorem up_sub(q:Pf)(a b:Fx p):up q (a-b)=up q a-up q b:=by
 revert a b
 exact Rg.ind fun a=>Rg.ind fun b=>rfl
theorem up_mul(q:Pf)(a b:Fx p):up q (a*b)=up q a*up q b:=by
 revert a b
 exact Rg.ind fun a=>Rg.ind fun b=>rfl
theorem up_pow(q:Pf)(a:Fx p)(n:Nat):up q (a^n)=up q a^n:=by
 revert a
 exact Rg.ind fun a=>rfl
theorem up_evR(q:Pf)(y:Fx p):∀l:List (Fx p),up q (evR l y)=evR (l.map (up q)) (up q y)
 |[]=>rfl
 |a::l=>by
  simp only[evR,List.map_cons];rw[up_add,up_mul,up_evR q y l]
def val(p:Nat):List Nat→Nat
 |[]=>0
 |a::l=>a+p*val p l
def dg(p:Nat)(n:Nat):List Nat:=if h:n=0∨p<2 then[]else n%p::dg p (n/p)
termination_by n
decreasing_by exact Nat.div_lt_self (by omega) (by omega)
theorem dg_zero(p:Nat):dg p 0=[]:=by rw[dg];simp
theorem dg_pos{p n:Nat}(hp:2≤p)(hn:n≠0):dg p n=n%p::dg p (n/p):=by rw[dg,dif_neg (by omega)]
theorem val_dg{p:Nat}(hp:2≤p):∀n,val p (dg p n)=n
 |n=>by
  by_cases h:n=0
  ·subst h;rw[dg_zero];rfl
  ·rw[dg_pos hp h,val,val_dg hp (n/p)]
   have:=Nat.mod_add_div n p
   omega
termination_by n=>n
decreasing_by exact Nat.div_lt_self (by omega) (by omega)
theorem Rd.cons{a:Nat}{l:List Nat}(ha:a<p)(h:Rd p l)(h0:l=[]→a≠0):Rd p (a::l):=by
 refine⟨fun d hd=>?_,fun d hd=>?_⟩
 ·rcases List.mem_cons.1 hd with h1|h1
  ·rw[h1];exact ha
  ·exact h.1 d h1
 ·cases l with
  |nil=>
   simp at hd
   rw[←hd];exact h0 rfl
  |cons b l=>
   refine h.2 d ?_
   simpa using hd
theorem Rd.tail{a:Nat}{l:List Nat}(h:Rd p (a::l)):a<p∧Rd p l∧(l=[]→a≠0):=by
 refine⟨h.1 a (List.mem_cons_self),⟨fun d hd=>h.1 d (List.mem_cons_of_mem _ hd),fun d hd=>?_⟩,fun e=>?_⟩
 ·cases l with
  |nil=>simp at hd
  |cons b l=>exact h.2 d (by simpa using hd)
 ·subst e;exact h.2 a rfl
theorem dg_rd(hp:2≤p):∀n,Rd p (dg p n)
 |n=>by
  by_cases h:n=0
  ·subst h;rw[dg_zero];exact Rd.nil p
  ·rw[dg_pos hp h]
   refine(dg_rd hp (n/p)).cons (Nat.mod_lt _ (by omega)) (fun e=>?_)
   have h1:=val_dg hp (n/p)
   rw[e]at h1
   have h2:=Nat.mod_add_div n p
   rw[←h1]at h2
   simp only[val]at h2
   omega
termination_by n=>n
decreasing_by exact Nat.div_lt_self (by omega) (by omega)
theorem val_pos(hp:2≤p):∀{l:List Nat},Rd p l→l≠[]→0<val p l
 |[],h,h0=>absurd rfl h0
 |a::l,h,h0=>by
  obtain⟨h1,h2,h3⟩:=h.tail
  rw[val]
  by_cases e:l=[]
  ·have:=h3 e;omega
  ·have h4:=val_pos hp h2 e
   have:=Nat.mul_le_mul hp h4
   omega
theorem dg_val(hp:2≤p):∀{l:List Nat},Rd p l→dg p (val p l)=l
 |[],h=>dg_zero p
 |a::l,h=>by
  obtain⟨h1,h2,h3⟩:=h.tail
  have h4:=val_pos hp h (by simp)
  rw[dg_pos hp (by omega),val,Nat.add_mul_mod_self_left,Nat.mod_eq_of_lt h1,Nat.add_mul_div_left _ _ (by omega),Nat.div_eq_of_lt h1,Nat.zero_add,dg_val hp h2]
theorem val_lt(hp:2≤p):∀{l:List Nat},(∀d∈l,d<p)→val p l<p^l.length
 |[],h=>by simp[val]
 |a::l,h=>by
  have h1:=h a (List.mem_cons_self)
  have h2:=val_lt hp (fun d hd=>h d (List.mem_cons_of_mem _ hd))
  rw[val,List.length_cons,Nat.pow_succ]
  have h3:=Nat.mul_le_mul_left p (show val p l+1≤p^l.length from h2)
  rw[Nat.mul_comm (p^l.length)]
  rw[Nat.mul_add]at h3
  omega
theorem num_ex(hp:2≤p)(a:Fx p):∃n,el (dg p n)=a∧n<p^sz a:=by
 obtain⟨l,h1,rfl⟩:=el_surj (by omega) a
 exact⟨val p l,by rw[dg_val hp h1],by rw[sz_el (by omega) h1];exact val_lt hp h1.1⟩
theorem dg_len(hp:2≤p){n N:Nat}(h:n<p^N):(dg p n).length≤N:=by
 refine Classical.byContradiction fun hn=>?_
 have h1:=dg_rd hp n
 have key:∀(l:List Nat),Rd p l→l≠[]→p^(l.length-1)≤val p l:=by
  intro l
  induction l with
  |nil=>intro h h0;exact absurd rfl h0
  |cons a l ih=>
   intro h h0
   obtain⟨h1,h2,h3⟩:=h.tail
   rw[val]
   by_cases e:l=[]
   ·subst e
    have:=h3 rfl
    simp only[List.length_cons,List.length_nil,Nat.zero_add,Nat.sub_self,Nat.pow_zero,val];omega
   ·have h4:=ih h2 e
    have h5:=List.length_pos_iff.2 e
    rw[List.length_cons,Nat.add_sub_cancel]
    obtain⟨k,hk⟩:∃k,l.length=k+1:=⟨l.length-1,by omega⟩
    rw[hk,Nat.add_sub_cancel]at h4
    rw[hk,Nat.pow_succ,Nat.mul_comm]
    have:=Nat.mul_le_mul_left p h4
    omega
 have h2:=key _ h1 (fun e=>by rw[e]at hn;simp at hn)
 rw[val_dg hp]at h2
 have h3:p^N≤p^((dg p n).length-1):=Nat.pow_le_pow_right (by omega) (by omega)
 omega
theorem pigeon:∀(B A:Nat) (f:Nat→Nat),(∀t,t<A→f t<B)→B<A→∃s t,s<t∧t<A∧f s=f t
 |0,A,f,h,hB=>by have:=h 0 hB;omega
 |B+1,A,f,h,hB=>by
  obtain⟨A,rfl⟩:∃C,A=C+1:=⟨A-1,by omega⟩
  by_cases hc:∃s,s<A∧f s=f A
  ·obtain⟨s,h1,h2⟩:=hc
   exact⟨s,A,h1,by omega,h2⟩
  have ne:∀s,s<A→f s≠f A:=fun s hs e=>hc ⟨s,hs,e⟩
  obtain⟨s,t,h1,h2,h3⟩:=pigeon B A (fun s=>if f A<f s then f s-1 else f s) (fun t ht=>by
   have e1:=h t (by omega)
   have e2:=h A (by omega)
   have e3:=ne t ht
   show(if f A<f t then f t-1 else f t)<B
   split<;>omega) (by omega)
  refine⟨s,t,h1,by omega,?_⟩
  have e1:=ne s (by omega)
  have e2:=ne t h2
  replace h3:(if f A<f s then f s-1 else f s)=(if f A<f t then f t-1 else f t):=h3
  split at h3<;>split at h3<;>omega
end Go.Proofs.Pl
namespace Go.Proofs.Pl
variable {p:Nat}
abbrev Pr(p:Nat):=Fx p×Fx p
def subP(a b:Pr p):Pr p:=(a.1-b.1,a.2-b.2)
noncomputable def op(F:Fx p)(h i:Nat)(a:Pr p):Pr p:=(F*D a.1-Rg.C _ (i:Int)*D F*a.1,F*D a.2+Rg.C _ (h:Int)*D F*a.2-Rg.C _ (i:Int)*D F*a.2)
noncomputable def it(F:Fx p)(h:Nat):Nat→List (Pr p)→List (Pr p)
 |0,l=>l
 |i+1,l=>(it F h i l).map (op F h i)
noncomputable def Ev(F:Fx p)(h i:Nat)(l:List (Pr p)):Fx p:=evR ((it F h i l).map (fun a=>a.1+a.2)) (Rg.X _)
theorem D_neg1(a b:Fx p):D (a-b)=D a-D b:=by
 have i1:∀a b:Fx p,a-b=a+Rg.C _ (-1)*b:=Rg.ind fun a=>Rg.ind fun b=>Rg.eq fun x=>by
  show a.f x-b.f x=a.f x+(-1)*b.f x
  omega
 rw[i1,D_add,D_Cm,←i1]
theorem op_sub(F:Fx p)(h i:Nat)(a b:Pr p):op F h i (subP a b)=subP (op F h i a) (op F h i b):=by
 have i1:∀f da db c e a b:Fx p,f*(da-db)-c*e*(a-b)=(f*da-c*e*a)-(f*db-c*e*b):=Rg.ind fun a=>Rg.ind fun b=>Rg.ind fun c=>Rg.ind fun d=>Rg.ind fun e=>Rg.ind fun f=>Rg.ind fun g=>Rg.eq fun x=>by grind
 have i2:∀f da db c e a b h:Fx p,f*(da-db)+h*e*(a-b)-c*e*(a-b)=(f*da+h*e*a-c*e*a)-(f*db+h*e*b-c*e*b):=Rg.ind fun a=>Rg.ind fun b=>Rg.ind fun c=>Rg.ind fun d=>Rg.ind fun e=>Rg.ind fun f=>Rg.ind fun g=>Rg.ind fun h=>Rg.eq fun x=>by grind
 simp only[op,subP,D_neg1]
 rw[i1,i2]
theorem it_len(F:Fx p)(h:Nat)(l:List (Pr p)):∀i,(it F h i l).length=l.length
 |0=>rfl
 |i+1=>by rw[it,List.length_map,it_len F h l i]
theorem map_zip(f:Pr p→Pr p)(hf:∀a b,f (subP a b)=subP (f a) (f b)):∀l k:List (Pr p),(List.zipWith subP l k).map f=List.zipWith subP (l.map f) (k.map f)
 |[],_=>by simp
 |_::_,[]=>by simp
 |a::l,b::k=>by simp[hf,map_zip f hf l k]
theorem it_sub(F:Fx p)(h:Nat)(l k:List (Pr p)):∀i,it F h i (List.zipWith subP l k)=List.zipWith subP (it F h i l) (it F h i k)
 |0=>rfl
 |i+1=>by rw[it,it_sub F h l k i,map_zip _ (op_sub F h i)];rfl
theorem evR_sub(y:Fx p):∀l k:List (Pr p),l.length=k.length→evR ((List.zipWith subP l k).map (fun a=>a.1+a.2)) y=evR (l.map (fun a=>a.1+a.2)) y-evR (k.map (fun a=>a.1+a.2)) y
 |[],[],_=>by
  simp only[List.zipWith_nil_left,List.map_nil,evR]
  rw[Rg.sub_z.2 rfl]
 |a::l,b::k,hl=>by
  simp only[List.zipWith_cons_cons,List.map_cons,evR]
  rw[evR_sub y l k (by simpa using hl)]
  have i1:∀a b c d y u v:Fx p,a-c+(b-d)+y*(u-v)=a+b+y*u-(c+d+y*v):=Rg.ind fun a=>Rg.ind fun b=>Rg.ind fun c=>Rg.ind fun d=>Rg.ind fun e=>Rg.ind fun f=>Rg.ind fun g=>Rg.eq fun x=>by grind
  exact i1 _ _ _ _ _ _ _
 |[],_::_,hl=>by simp at hl
 |_::_,[],hl=>by simp at hl
theorem Ev_sub(F:Fx p)(h i:Nat){l k:List (Pr p)}(hl:l.length=k.length):Ev F h i (List.zipWith subP l k)=Ev F h i l-Ev F h i k:=by
 unfold Ev
 rw[it_sub,evR_sub _ _ _ (by rw[it_len,it_len,hl])]
theorem sz_mul_le(hp:IsP p){a b:Fx p}{m n:Nat}(ha:sz a≤m+1)(hb:sz b≤n):sz (a*b)≤m+n:=by
 have h0:0<p:=by have:=hp.1;omega
 by_cases h1:a=0
 ·rw[h1,Rg.zero_m,sz_zero h0];omega
 by_cases h2:b=0
 ·rw[h2,Rg.mul_0,sz_zero h0];omega
 have:=sz_mul hp h1 h2
 omega
def SzP(n:Nat)(a:Pr p):Prop:=sz a.1≤n∧sz a.2≤n
theorem op_sz(hp:IsP p){F:Fx p}{h i n:Nat}(hF:sz F≤9){a:Pr p}(ha:SzP n a):SzP (n+8) (op F h i a):=by
 have h0:0<p:=by have:=hp.1;omega
 have hD:sz (D F)≤8:=by have:=sz_D h0 F;omega
 have d:∀{b:Fx p},sz b≤n→sz (F*D b)≤n+8:=fun {b} hb=>by
  have e:=sz_D h0 b
  have:=sz_mul_le hp (m:=8) hF (show sz (D b)≤n by omega)
  omega
 have t:∀{b:Fx p} (c:Int),sz b≤n→sz (Rg.C _ c*D F*b)≤n+8:=fun {b} c hb=>by
  have e1:=sz_mul_le hp (m:=0) (sz_C h0 c) hD
  have:=sz_mul_le hp (m:=8) (show sz (Rg.C (Jp p) c*D F)≤8+1 by omega) hb
  omega
 exact⟨sz_sub h0 (d ha.1) (t _ ha.1),sz_sub h0 (sz_add h0 (d ha.2) (t _ ha.2)) (t _ ha.2)⟩
theorem it_sz(hp:IsP p){F:Fx p}{h n:Nat}(hF:sz F≤9){l:List (Pr p)}(hl:∀a∈l,SzP n a):∀i,∀a∈it F h i l,SzP (n+8*i) a
 |0=>hl
 |i+1=>fun a ha=>by
  obtain⟨b,hb,rfl⟩:=List.mem_map.1 (show a∈(it F h i l).map (op F h i) from ha)
  exact op_sz hp hF (it_sz hp hF hl i b hb)
theorem evX_sz(hp:IsP p){n:Nat}:∀l:List (Pr p),(∀a∈l,SzP n a)→sz (evR (l.map (fun a=>a.1+a.2)) (Rg.X _))≤n+l.length
 |[],h=>by
  have h0:0<p:=by have:=hp.1;omega
  simp only[List.map_nil,evR];rw[sz_zero h0];omega
 |a::l,h=>by
  have h0:0<p:=by have:=hp.1;omega
  simp only[List.map_cons,evR,List.length_cons]
  have ih:=evX_sz hp l (fun b hb=>h b (List.mem_cons_of_mem _ hb))
  have ha:=h a (List.mem_cons_self)
  have e:=sz_mul_le hp (m:=1) (show sz (Rg.X (Jp p))≤1+1 by rw[sz_X hp.1];exact Nat.le_refl 2) ih
  exact sz_add h0 (sz_add h0 (by have:=ha.1;omega) (by have:=ha.2;omega)) (by omega)
theorem Ev_sz(hp:IsP p){F:Fx p}{h n i:Nat}(hF:sz F≤9){l:List (Pr p)}(hl:∀a∈l,SzP n a):sz (Ev F h i l)≤n+8*i+l.length:=by
 have:=evX_sz hp _ (it_sz (h:=h) hp hF hl i)
 rwa [it_len]at this
def dec(p K:Nat):Nat→Nat→List (Pr p)
 |0,_=>[]
 |n+1,t=>(el (dg p (t%p^K)),el (dg p (t/p^K%p^K)))::dec p K n (t/p^K/p^K)
theorem dec_len(K:Nat):∀n t,(dec p K n t).length=n
 |0,t=>rfl
 |n+1,t=>by rw[dec,List.length_cons,dec_len K n]
theorem dg_sz(hp:2≤p){K n:Nat}(h:n<p^K):sz (el (dg p n):Fx p)≤K:=by
 rw[sz_el (by omega) (dg_rd hp n)];exact dg_len hp h
theorem dec_sz(hp:2≤p)(K:Nat):∀n t,∀a∈dec p K n t,SzP K a
 |0,t=>fun a ha=>by cases ha
 |n+1,t=>fun a ha=>by
  have hk:0<p^K:=Nat.pow_pos (by omega)
  rcases List.mem_cons.1 ha with h1|h1
  ·rw[h1];exact⟨dg_sz hp (Nat.mod_lt _ hk),dg_sz hp (Nat.mod_lt _ hk)⟩
  ·exact dec_sz hp K n _ a h1
theorem dg_inj(hp:2≤p){m n:Nat}(h:(el (dg p m):Fx p)=el (dg p n)):m=n:=by
 rw[←val_dg hp m,←val_dg hp n,el_inj (by omega) (dg_rd hp m) (dg_rd hp n) h]
theorem dec_inj(hp:2≤p)(K:Nat):∀n s t,s<p^(K*(2*n))→t<p^(K*(2*n))→dec p K n s=dec p K n t→s=t
 |0,s,t,hs,ht,h=>by simp at hs ht;omega
 |n+1,s,t,hs,ht,h=>by
  have hk:0<p^K:=Nat.pow_pos (by omega)
  simp only[dec,List.cons.injEq,Prod.mk.injEq]at h
  obtain⟨⟨h1,h2⟩,h3⟩:=h
  have e:p^(K*(2*(n+1)))=p^(K*(2*n))*p^K*p^K:=by
   rw[←Nat.pow_add,←Nat.pow_add];congr 1
  rw[e]at hs ht
  have b:∀u,u<p^(K*(2*n))*p^K*p^K→u/p^K/p^K<p^(K*(2*n)):=fun u hu=>
   Nat.div_lt_of_lt_mul (by rw[Nat.mul_comm];exact Nat.div_lt_of_lt_mul (by rw[Nat.mul_comm];exact hu))
  have h4:=dec_inj hp K n _ _ (b s hs) (b t ht) h3
  have h1:=dg_inj hp h1
  have h2:=dg_inj hp h2
  have e1:=Nat.mod_add_div (s/p^K) (p^K)
  have e2:=Nat.mod_add_div (t/p^K) (p^K)
  have e3:=Nat.mod_add_div s (p^K)
  have e4:=Nat.mod_add_div t (p^K)
  rw[h2,h4,e2]at e1
  rw[h1,←e1,e4]at e3
  exact e3.symm
noncomputable def num(hp:2≤p)(a:Fx p):Nat:=Classical.choose (num_ex hp a)
theorem num_el(hp:2≤p)(a:Fx p):el (dg p (num hp a))=a:=(Classical.choose_spec (num_ex hp a)).1
theorem num_lt(hp:2≤p){a:Fx p}{N:Nat}(h:sz a≤N):num hp a<p^N:=Nat.lt_of_lt_of_le (Classical.choose_spec (num_ex hp a)).2 (Nat.pow_le_pow_right (by omega) h)
noncomputable def enc(hp:2≤p)(N:Nat)(f:Nat→Fx p):Nat→Nat
 |0=>0
 |n+1=>num hp (f n)+p^N*enc hp N f n
theorem enc_lt(hp:2≤p){N:Nat}{f:Nat→Fx p}:∀n,(∀i,i<n→sz (f i)≤N)→enc hp N f n<p^(N*n)
 |0,h=>by simp[enc]
 |n+1,h=>by
  have h1:=enc_lt hp n (fun i hi=>h i (by omega))
  have h2:=num_lt hp (h n (by omega))
  have h3:=Nat.mul_le_mul_left (p^N) (show enc hp N f n+1≤p^(N*n) from h1)
  rw[enc,show N*(n+1)=N+N*n by grind,Nat.pow_add]
  rw[Nat.mul_add]at h3
  omega
theorem enc_inj(hp:2≤p){N:Nat}{f g:Nat→Fx p}:∀n,(∀i,i<n→sz (f i)≤N)→(∀i,i<n→sz (g i)≤N)→enc hp N f n=enc hp N g n→∀i,i<n→f i=g i
 |0,_,_,_=>fun i hi=>by omega
 |n+1,h,k,e=>fun i hi=>by
  have hk:0<p^N:=Nat.pow_pos (by omega)
  have h2:=num_lt hp (h n (by omega))
  have k2:=num_lt hp (k n (by omega))
  rw[enc,enc]at e
  have e1:num hp (f n)=num hp (g n):=by
   have:=congrArg (·%p^N) e
   simpa only[Nat.add_mul_mod_self_left,Nat.mod_eq_of_lt h2,Nat.mod_eq_of_lt k2]using this
  have e2:enc hp N f n=enc hp N g n:=by
   rw[e1]at e
   exact Nat.eq_of_mul_eq_mul_left hk (by omega)
  by_cases hi2:i=n
  ·rw[hi2,←num_el hp (f n),e1,num_el]
  ·exact enc_inj hp n (fun i hi=>h i (by omega)) (fun i hi=>k i (by omega)) e2 i (by omega)
theorem exists_pairs(hp:IsP p){F:Fx p}{h K:Nat}(hF:sz F≤9)(hK:700≤K):∃l:List (Pr p),l.length=5∧(∀a∈l,SzP K a)∧(∃a∈l,a.1≠0∨a.2≠0)∧∀i,i<9→Ev F h i l=0:=by
 have h2:=hp.1
 have h0:0<p:=by omega
 have bd:∀t i,i<9→sz (Ev F h i (dec p K 5 t))≤K+77:=fun t i hi=>by
  have:=Ev_sz (h:=h) (i:=i) hp hF (dec_sz h2 K 5 t)
  rw[dec_len]at this
  omega
 obtain⟨s,t,hst,ht,e⟩:=pigeon (p^((K+77)*9)) (p^(K*(2*5))) (fun t=>enc h2 (K+77) (fun i=>Ev F h i (dec p K 5 t)) 9)
  (fun t ht=>enc_lt h2 9 (bd t)) (Nat.pow_lt_pow_right (by omega) (by omega))
 have e2:=enc_inj h2 9 (bd s) (bd t) e
 refine⟨List.zipWith subP (dec p K 5 s) (dec p K 5 t),by rw[List.length_zipWith,dec_len,dec_len];rfl,?_,?_,fun i hi=>?_⟩
 ·intro a ha
  obtain⟨n,hn,rfl⟩:=List.getElem_of_mem ha
  rw[List.getElem_zipWith]
  rw[List.length_zipWith]at hn
  have h3:=dec_sz h2 K 5 s _ (List.getElem_mem (n:=n) (h:=by omega))
  have h4:=dec_sz h2 K 5 t _ (List.getElem_mem (n:=n) (h:=by omega))
  exact⟨sz_sub h0 h3.1 h4.1,sz_sub h0 h3.2 h4.2⟩
 ·refine Classical.byContradiction fun hn=>?_
  have:dec p K 5 s=dec p K 5 t:=by
   refine List.ext_getElem (by rw[dec_len,dec_len]) (fun n h3 h4=>?_)
   have hl:n<(List.zipWith subP (dec p K 5 s) (dec p K 5 t)).length:=by rw[List.length_zipWith];omega
   have hm:=List.getElem_mem hl
   rw[List.getElem_zipWith]at hm
   have z1:(dec p K 5 s)[n].1=(dec p K 5 t)[n].1:=Classical.byContradiction fun h5=>hn ⟨_,hm,.inl (fun h6=>h5 (Rg.sub_z.1 h6))⟩
   have z2:(dec p K 5 s)[n].2=(dec p K 5 t)[n].2:=Classical.byContradiction fun h5=>hn ⟨_,hm,.inr (fun h6=>h5 (Rg.sub_z.1 h6))⟩
   exact Prod.ext z1 z2
  have:=dec_inj h2 K 5 s t (by omega) ht this
  omega
 ·rw[Ev_sub F h i (by rw[dec_len,dec_len]),e2 i hi]
  exact Rg.sub_z.2 rfl
end Go.Proofs.Pl
namespace Go.Proofs.Pl
variable {p:Nat}
def uu(G:Fx p)(a:Pr p):Fx p:=a.1+a.2*G
noncomputable def DI:Nat→Fx p→Fx p
 |0,P=>P
 |i+1,P=>D (DI i P)
theorem FD_pow(F:Fx p):∀n:Nat,F*D (F^n)=Rg.C _ (n:Int)*D F*F^n
 |0=>by
  rw[Rg.pow_0,←Rg.C_1,D_C,Rg.mul_0,show((0:Nat):Int)=0 from rfl,Rg.C_0,Rg.zero_m,Rg.zero_m]
 |n+1=>by
  rw[D_pow,Rg.pow_s]
  have i1:∀f c w d:Fx p,f*(c*w*d)=c*d*(w*f):=Rg.ind fun a=>Rg.ind fun b=>Rg.ind fun c=>Rg.ind fun d=>Rg.eq fun x=>by grind
  rw[i1,Int.natCast_add];rfl
theorem evR_op{Y F:Fx p}(hY:D Y=0)(c:Fx p):∀us:List (Fx p),evR (us.map (fun u=>F*D u-c*D F*u)) Y=F*D (evR us Y)-c*D F*evR us Y
 |[]=>by
  simp only[evR,List.map_nil]
  rw[D_nil,Rg.mul_0,Rg.mul_0,Rg.sub_z.2 rfl]
 |u::us=>by
  simp only[evR,List.map_cons]
  rw[evR_op hY c us,D_add,D_mul,hY]
  have i1:∀f d c e u y s r:Fx p,f*d-c*e*u+y*(f*s-c*e*r)=f*(d+(0*r+y*s))-c*e*(u+y*r):=Rg.ind fun a=>Rg.ind fun b=>Rg.ind fun c=>Rg.ind fun d=>Rg.ind fun e=>Rg.ind fun f=>Rg.ind fun g=>Rg.ind fun h=>Rg.eq fun x=>by grind
  exact i1 _ _ _ _ _ _ _ _
theorem uu_op(F:Fx p)(h i:Nat)(a:Pr p):uu (F^h) (op F h i a)=F*D (uu (F^h) a)-Rg.C _ (i:Int)*D F*uu (F^h) a:=by
 obtain⟨r,s⟩:=a
 simp only[uu,op]
 rw[D_add,D_mul]
 refine(Rg.by1 (w:=s) (FD_pow F h) ?_).symm
 have i1:∀f dr ds s g dg c e r h:Fx p,f*(dr+(ds*g+s*dg))-c*e*(r+s*g)-(f*dr-c*e*r+(f*ds+h*e*s-c*e*s)*g)=(f*dg-h*e*g)*s:=Rg.ind fun a=>Rg.ind fun b=>Rg.ind fun c=>Rg.ind fun d=>Rg.ind fun e=>Rg.ind fun f=>Rg.ind fun g=>Rg.ind fun h=>Rg.ind fun i=>Rg.ind fun j=>Rg.eq fun x=>by grind
 exact i1 _ _ _ _ _ _ _ _ _ _
theorem T_eq{Y:Fx p}(F:Fx p)(hY:D Y=0)(h:Nat)(l:List (Pr p)):∀i,evR ((it F h i l).map (uu (F^h))) Y=F^i*DI i (evR (l.map (uu (F^h))) Y)
 |0=>by rw[Rg.pow_0,Rg.one_m];rfl
 |i+1=>by
  have ih:=T_eq F hY h l i
  have e1:(it F h (i+1) l).map (uu (F^h))=((it F h i l).map (uu (F^h))).map (fun u=>F*D u-Rg.C _ (i:Int)*D F*u):=by
   rw[it,List.map_map,List.map_map]
   exact List.map_congr_left (fun a _=>uu_op F h i a)
  rw[e1,evR_op hY,ih,D_mul,DI,Rg.pow_s]
  refine Rg.by1 (w:=DI i (evR (l.map (uu (F^h))) Y)) (FD_pow F i) ?_
  have i1:∀f df w d dd c e:Fx p,f*(df*d+w*dd)-c*e*(w*d)-w*f*dd=(f*df-c*e*w)*d:=Rg.ind fun a=>Rg.ind fun b=>Rg.ind fun c=>Rg.ind fun d=>Rg.ind fun e=>Rg.ind fun f=>Rg.ind fun g=>Rg.eq fun x=>by grind
  exact i1 _ _ _ _ _ _ _
theorem irr_two(hp:IsP p){q:Fx p}(h:sz q=2):Irr q:=⟨by omega,fun a b e=>by
 have h0:0<p:=by have:=hp.1;omega
 have ha:a≠0:=fun e2=>by rw[e,e2,Rg.zero_m,sz_zero h0]at h;omega
 have hb:b≠0:=fun e2=>by rw[e,e2,Rg.mul_0,sz_zero h0]at h;omega
 have h3:=sz_mul hp ha hb
 have:=sz_pos hp ha
 have:=sz_pos hp hb
 rw[←e,h]at h3
 omega⟩
def lin(p:Nat)(c:Nat):Fx p:=Rg.X _-Rg.C _ (c:Int)
theorem sz_lin(hp:IsP p)(c:Nat):sz (lin p c)=2:=by
 have h0:0<p:=by have:=hp.1;omega
 have h1:sz (lin p c)≤2:=sz_sub h0 (by rw[sz_X hp.1];exact Nat.le_refl 2) (by have:=sz_C h0 (c:Int);omega)
 have h2:sz (Rg.X (Jp p))≤max (sz (lin p c)) 1:=by
  have i1:∀a b:Fx p,a=a-b+b:=Rg.ind fun a=>Rg.ind fun b=>Rg.eq fun x=>by grind
  have:=sz_add (n:=max (sz (lin p c)) 1) h0 (a:=lin p c) (b:=Rg.C _ (c:Int)) (by omega) (by have:=sz_C h0 (c:Int);omega)
  rwa [lin,←i1]at this
 rw[sz_X hp.1]at h2
 omega
theorem lin_irr(hp:IsP p)(c:Nat):Irr (lin p c):=irr_two hp (sz_lin hp c)
theorem D_lin(c:Nat):D (lin p c)=1:=by
 rw[lin,D_neg1,D_X,D_C]
 have i1:∀a:Fx p,a-0=a:=Rg.ind fun a=>Rg.eq fun x=>by grind
 exact i1 1
theorem C_inv(hp:IsP p){e:Nat}(h:¬p∣e):∃d:Fx p,d*Rg.C _ (e:Int)=1:=by
 have h0:0<p:=by have:=hp.1;omega
 have hz:=(fx_fld hp).C_nz h
 have h1:=sz_C h0 (e:Int)
 have h2:=sz_pos hp hz
 obtain⟨d,hd⟩:=fx_unit hp (show sz (Rg.C (Jp p) (e:Int))=1 by omega)
 exact⟨d,by rw[Rg.mul_c];exact hd⟩
theorem mult_der(hp:IsP p){q P:Fx p}(hq:Irr q)(hD:D q=1){i:Nat}(hi:i<p)(h1:q∣P)(h2:q^i∣D P):q^(i+1)∣P:=by
 by_cases hP:P=0
 ·rw[hP];exact dv_zero _
 obtain⟨e,e1,e2⟩:=mult hp hq hP
 by_cases he:i+1≤e
 ·exact dv_trans (pow_dv q he) e1
 have he0:e≠0:=fun e0=>e2 (by rw[e0,Rg.pow_1];exact h1)
 obtain⟨k,rfl⟩:∃k,e=k+1:=⟨e-1,by omega⟩
 obtain⟨W,rfl⟩:=e1
 have h3:q^(k+1)∣D (q^(k+1)*W):=dv_trans (pow_dv q (by omega)) h2
 rw[D_mul,D_pow,hD,Rg.mul_1]at h3
 have i0:∀a b:Fx p,a=a+b-b:=Rg.ind fun a=>Rg.ind fun b=>Rg.eq fun x=>by grind
 have h4:q^(k+1)∣Rg.C _ ((k:Int)+1)*q^k*W:=by
  rw[i0 (Rg.C _ ((k:Int)+1)*q^k*W) (q^(k+1)*D W)]
  exact dv_sub h3 (dv_l _ _)
 have hqk:q^k≠0:=fun e=>hq.nz hp ((fx_fld hp).pow_z e)
 obtain⟨c,hc⟩:=h4
 have h5:Rg.C _ ((k:Int)+1)*W=q*c:=fx_cancel hp hqk (by
  have i1:∀w a b:Fx p,w*(a*b)=a*w*b:=Rg.ind fun a=>Rg.ind fun b=>Rg.ind fun c=>Rg.eq fun x=>by grind
  rw[i1,hc,Rg.pow_s,Rg.mul_a])
 obtain⟨d,hd⟩:=C_inv hp (e:=k+1) (fun hdv=>by have:=Nat.le_of_dvd (by omega) hdv;omega)
 rw[Int.natCast_add]at hd
 have h6:q∣W:=⟨d*c,by
  have:W=d*(Rg.C _ ((k:Int)+1)*W):=by
   rw[←Rg.mul_a,show((1:Nat):Int)=1 from rfl]at *
   rw[hd,Rg.one_m]
  rw[this,h5]
  have i1:∀w a b:Fx p,w*(a*b)=a*(w*b):=Rg.ind fun a=>Rg.ind fun b=>Rg.ind fun c=>Rg.eq fun x=>by grind
  exact i1 _ _ _⟩
 obtain⟨V,rfl⟩:=h6
 exact absurd ⟨V,by rw[Rg.pow_s q (k+1),Rg.mul_a]⟩ e2
theorem mult_all(hp:IsP p){q P:Fx p}(hq:Irr q)(hD:D q=1){n:Nat}(hn:n≤p)(h:∀i,i<n→q∣DI i P):∀k,k≤n→q^k∣DI (n-k) P
 |0,hk=>by rw[Rg.pow_0];exact⟨_,(Rg.one_m _).symm⟩
 |k+1,hk=>by
  have ih:=mult_all hp hq hD hn h k (by omega)
  rw[show n-k=n-(k+1)+1 by omega]at ih
  exact mult_der hp hq hD (by omega) (h _ (by omega)) ih
theorem pow_part(hp:IsP p){q A:Fx p}(hq:Irr q)(hA:¬q∣A):∀(n:Nat) (B:Fx p),q^n∣A*B→q^n∣B
 |0,B,h=>by rw[Rg.pow_0];exact⟨_,(Rg.one_m _).symm⟩
 |n+1,B,h=>by
  have h1:q∣A*B:=dv_trans (by rw[Rg.pow_s];exact dv_r _ _) h
  rcases hq.prime hp h1 with h2|h2
  ·exact absurd h2 hA
  obtain⟨C,rfl⟩:=h2
  obtain⟨w,hw⟩:=h
  have h3:q^n∣A*C:=⟨w,fx_cancel hp (hq.nz hp) (by
   have i1:∀q a c:Fx p,q*(a*c)=a*(q*c):=Rg.ind fun a=>Rg.ind fun b=>Rg.ind fun c=>Rg.eq fun x=>by grind
   rw[i1,hw,Rg.pow_s]
   have i2:∀w q c:Fx p,w*q*c=q*(w*c):=Rg.ind fun a=>Rg.ind fun b=>Rg.ind fun c=>Rg.eq fun x=>by grind
   exact i2 _ _ _)⟩
  obtain⟨v,hv⟩:=pow_part hp hq hA n C h3
  exact⟨v,by
   rw[hv,Rg.pow_s]
   have i2:∀w q c:Fx p,q*(w*c)=w*q*c:=Rg.ind fun a=>Rg.ind fun b=>Rg.ind fun c=>Rg.eq fun x=>by grind
   exact i2 _ _ _⟩
noncomputable def prL(p n:Nat):Nat→Fx p
 |0=>1
 |k+1=>prL p n k*lin p k^n
theorem lin_dv(hp:IsP p){i j:Nat}(hi:i<p)(hj:j<p)(h:lin p i∣lin p j):i=j:=by
 have h0:0<p:=by have:=hp.1;omega
 have h1:lin p i∣lin p j-lin p i:=dv_sub h (dv_refl _)
 have i1:∀x a b:Fx p,x-a-(x-b)=b-a:=Rg.ind fun a=>Rg.ind fun b=>Rg.ind fun c=>Rg.eq fun x=>by grind
 rw[lin,lin,i1,←Rg.C_sub]at h1
 have h2:Rg.C (Jp p) ((i:Int)-(j:Int))=0:=Classical.byContradiction fun hn=>by
  have:=dv_sz hp h1 hn
  have e:=sz_C h0 ((i:Int)-(j:Int))
  have e2:=sz_lin hp i
  rw[lin]at e2
  omega
 rw[Rg.C_sub,Rg.sub_z]at h2
 exact(fx_fld hp).C_inj hi hj h2
theorem prL_ok(hp:IsP p){n:Nat}{P:Fx p}(hP:∀c,c<p→lin p c^n∣P):∀k,k≤p→prL p n k∣P∧sz (prL p n k)=k*n+1∧∀c,k≤c→c<p→¬lin p c∣prL p n k
 |0,hk=>⟨⟨P,(Rg.one_m P).symm⟩,by rw[prL,sz_1 hp.1];omega,fun c _ _ hd=>by
   have:=dv_sz hp hd (one_nz hp.1)
   rw[prL,sz_1 hp.1,sz_lin hp]at this;omega⟩
 |k+1,hk=>by
  have h0:0<p:=by have:=hp.1;omega
  obtain⟨⟨B,hB⟩,h2,h3⟩:=prL_ok hp hP k (by omega)
  have hd:¬lin p k∣prL p n k:=h3 k (Nat.le_refl _) (by omega)
  have h4:lin p k^n∣B:=pow_part hp (lin_irr hp k) hd n B (hB▸hP k (by omega))
  obtain⟨C,hC⟩:=h4
  have sp:∀m,sz (lin p k^m)=m+1:=fun m=>by
   induction m with
   |zero=>rw[Rg.pow_0,sz_1 hp.1]
   |succ m ih=>
    have hz:lin p k^m≠0:=fun e=>by rw[e,sz_zero h0]at ih;omega
    have:=sz_mul hp hz ((lin_irr hp k).nz hp)
    rw[Rg.pow_s]
    have:=sz_lin hp k
    omega
  have n1:prL p n k≠0:=fun e=>by rw[e,sz_zero h0]at h2;omega
  have n2:lin p k^n≠0:=fun e=>by have:=sp n;rw[e,sz_zero h0]at this;omega
  refine⟨⟨C,by rw[prL,Rg.mul_a,←hC,←hB]⟩,?_,fun c hc hc2 hdv=>?_⟩
  ·have:=sz_mul hp n1 n2
   have:=sp n
   rw[prL]
   have e:(k+1)*n=k*n+n:=by grind
   omega
  ·rw[prL]at hdv
   rcases (lin_irr hp c).prime hp hdv with h5|h5
   ·exact h3 c (by omega) hc2 h5
   ·have:=lin_dv hp hc2 (by omega) ((lin_irr hp c).pow hp n h5)
    omega
end Go.Proofs.Pl
namespace Go.Proofs.Pl
variable {p:Nat}
theorem lin_pf(p c:Nat):∃q:Pf,Rg.mk (Jp p) q=lin p c:=⟨Pf.sub ⟨fun x=>x,(PF.pow 1).congr (fun x=>by grind)⟩ (Pf.C (c:Int)),rfl⟩
theorem evN_first(a:Nat)(l:List Nat)(y:Fx p):evN (a::l) y=Rg.C _ (a:Int)+y*evN l y:=rfl
theorem DY(hp:IsP p):D (Rg.X (Jp p)^p)=0:=by
 have h2:=hp.1
 have e:=D_pow (Rg.X (Jp p)) (p-1)
 rw[show p-1+1=p by omega]at e
 have z:Rg.C (Jp p) (((p-1:Nat):Int)+1)=0:=by
  rw[←Rg.C_0]
  exact(fx_fld hp).cast ⟨1,by omega⟩
 rw[e,z,Rg.zero_m,Rg.zero_m]
theorem X_irr(hp:IsP p):Irr (Rg.X (Jp p)):=irr_two hp (sz_X hp.1)
theorem sz_Xpow(hp:IsP p):∀n,sz (Rg.X (Jp p)^n)=n+1
 |0=>by rw[Rg.pow_0,sz_1 hp.1]
 |n+1=>by
  have ih:=sz_Xpow hp n
  have h0:0<p:=by have:=hp.1;omega
  have hz:Rg.X (Jp p)^n≠0:=fun e=>by rw[e,sz_zero h0]at ih;omega
  have:=sz_mul hp hz ((X_irr hp).nz hp)
  have:=sz_X (p:=p) hp.1
  rw[Rg.pow_s];omega
theorem parity(hp:IsP p){q1 q2 r s c:Fx p}(h1:Irr q1)(h2:¬q1∣q2)(hc:¬q1∣c)(hr:r≠0)(hs:s≠0)(h:r*r*(q1*q2)=c*(s*s)):False:=by
 obtain⟨e1,⟨a,ha⟩,na⟩:=mult hp h1 hr
 obtain⟨e2,⟨b,hb⟩,nb⟩:=mult hp h1 hs
 have na2:¬q1∣a:=fun⟨d,hd⟩=>na ⟨d,by rw[ha,hd,Rg.pow_s,Rg.mul_a]⟩
 have nb2:¬q1∣b:=fun⟨d,hd⟩=>nb ⟨d,by rw[hb,hd,Rg.pow_s,Rg.mul_a]⟩
 have hq:=h1.nz hp
 have pz:∀n,q1^n≠0:=fun n e=>hq ((fx_fld hp).pow_z e)
 have l:r*r*(q1*q2)=q1^(2*e1+1)*(a*a*q2):=by
  rw[ha,Rg.pow_s,show 2*e1=e1+e1 by omega,Rg.pow_a]
  have i1:∀w a q z:Fx p,w*a*(w*a)*(q*z)=w*w*q*(a*a*z):=Rg.ind fun a=>Rg.ind fun b=>Rg.ind fun c=>Rg.ind fun d=>Rg.eq fun x=>by grind
  exact i1 _ _ _ _
 have k:c*(s*s)=q1^(2*e2)*(c*(b*b)):=by
  rw[hb,show 2*e2=e2+e2 by omega,Rg.pow_a]
  have i1:∀w b c:Fx p,c*(w*b*(w*b))=w*w*(c*(b*b)):=Rg.ind fun a=>Rg.ind fun b=>Rg.ind fun c=>Rg.eq fun x=>by grind
  exact i1 _ _ _
 rw[l,k]at h
 rcases Nat.lt_or_ge (2*e1+1) (2*e2)with hl|hl
 ·obtain⟨k,hk⟩:∃k,2*e2=(2*e1+1)+(k+1):=⟨2*e2-(2*e1+1)-1,by omega⟩
  generalize 2*e1+1=n at h hk
  rw[hk,Rg.pow_a q1 n,Rg.mul_a (q1^n) (q1^(k+1))]at h
  have h5:=fx_cancel hp (pz _) h
  have hd:q1∣a*a*q2:=by rw[h5,Rg.pow_s];exact dv_mul _ (dv_r _ _)
  rcases h1.prime hp hd with h6|h6
  ·rcases h1.prime hp h6 with h7|h7<;>exact na2 h7
  ·exact h2 h6
 ·obtain⟨k,hk⟩:∃k,2*e1+1=2*e2+(k+1):=⟨2*e1-2*e2,by omega⟩
  generalize 2*e2=n at h hk
  rw[hk,Rg.pow_a q1 n,Rg.mul_a (q1^n) (q1^(k+1))]at h
  have h5:=fx_cancel hp (pz _) h
  have hd:q1∣c*(b*b):=by rw[←h5,Rg.pow_s];exact dv_mul _ (dv_r _ _)
  rcases h1.prime hp hd with h6|h6
  ·exact hc h6
  ·rcases h1.prime hp h6 with h7|h7<;>exact nb2 h7
theorem nonvan(hp:IsP p){q1 q2:Fx p}{h K:Nat}(hh:p=2*h+1)(h1:Irr q1)(h2:¬q1∣q2)(hF:sz (q1*q2)≤9)(hX:¬Rg.X (Jp p)∣q1*q2)(hK:2*K+9≤p){r s:Fx p}(hr:sz r≤K)(hs:sz s≤K)
  (hd:Rg.X (Jp p)^p∣r+s*(q1*q2)^h):r=0∧s=0:=by
 have h0:0<p:=by have:=hp.1;omega
 obtain⟨l,l1,l2⟩:=el_surj h0 (q1*q2)
 cases l with
 |nil=>rw[←l2,el_nil]at hX;exact absurd (dv_zero _) hX
 |cons a l=>
  have ha:a<p:=l1.1 a (List.mem_cons_self)
  have e1:(el (a::l):Fx p)=Rg.C _ (a:Int)+Rg.X _*el l:=Rg.eq fun x=>rfl
  have ha0:¬p∣a:=fun hdv=>hX (by
   have:a=0:=Nat.eq_zero_of_dvd_of_lt hdv ha
   rw[←l2,e1,this,show((0:Nat):Int)=0 from rfl,Rg.C_0,Rg.zero_a];exact dv_l _ _)
  have hc:=(fx_fld hp).C_nz ha0
  have hFp:(q1*q2)^p=Rg.C _ (a:Int)+Rg.X _^p*evN l (Rg.X _^p):=by
   rw[←evN_first,←(fx_fld hp).evN_frob,evN_X,←l2];rfl
  have hG:(q1*q2)^h*(q1*q2)^h*(q1*q2)=(q1*q2)^p:=by rw[←Rg.pow_a,←Rg.pow_s];congr 1;omega
  have hd2:Rg.X (Jp p)^p∣r*r*(q1*q2)-Rg.C _ (a:Int)*(s*s):=by
   have i1:∀r s f g c y:Fx p,r*r*f-c*(s*s)=(r+s*g)*((r-s*g)*f)+s*s*(g*g*f-c):=Rg.ind fun a=>Rg.ind fun b=>Rg.ind fun c=>Rg.ind fun d=>Rg.ind fun e=>Rg.ind fun f=>Rg.eq fun x=>by grind
   rw[i1 r s (q1*q2) ((q1*q2)^h) _ 0,hG,hFp]
   have i2:∀c b:Fx p,c+b-c=b:=Rg.ind fun a=>Rg.ind fun b=>Rg.eq fun x=>by grind
   rw[i2]
   exact dv_add (dv_mul _ hd) (dv_mul' _ (dv_l _ _))
  have hz:r*r*(q1*q2)=Rg.C _ (a:Int)*(s*s):=Classical.byContradiction fun hn=>by
   have e3:=dv_sz hp hd2 (fun e=>hn (Rg.sub_z.1 e))
   rw[sz_Xpow hp]at e3
   have s1:sz (r*r)≤2*K:=by
    have:=sz_mul_le hp (m:=K) (show sz r≤K+1 by omega) hr;omega
   have s2:sz (r*r*(q1*q2))≤2*K+9:=sz_mul_le hp (m:=2*K) (by omega) hF
   have s3:sz (s*s)≤2*K:=by
    have:=sz_mul_le hp (m:=K) (show sz s≤K+1 by omega) hs;omega
   have s4:sz (Rg.C (Jp p) (a:Int)*(s*s))≤2*K:=by
    have:=sz_mul_le hp (m:=0) (sz_C h0 (a:Int)) s3;omega
   have:=sz_sub (n:=2*K+9) h0 s2 (show sz (Rg.C (Jp p) (a:Int)*(s*s))≤2*K+9 by omega)
   omega
  have hq2:q2≠0:=fun e=>h2 (e▸dv_zero _)
  by_cases hr0:r=0
  ·refine⟨hr0,?_⟩
   rw[hr0,Rg.zero_m,Rg.zero_m]at hz
   rcases fx_dom hp hz.symm with h5|h5
   ·exact absurd h5 hc
   ·rcases fx_dom hp h5 with h6|h6<;>exact h6
  ·by_cases hs0:s=0
   ·rw[hs0,Rg.zero_m,Rg.mul_0]at hz
    rcases fx_dom hp hz with h5|h5
    ·rcases fx_dom hp h5 with h6|h6<;>exact absurd h6 hr0
    ·rcases fx_dom hp h5 with h6|h6
     ·exact absurd h6 (h1.nz hp)
     ·exact absurd h6 hq2
   ·refine absurd (parity hp h1 h2 (fun hdv=>?_) hr0 hs0 hz) id
    have:=dv_sz hp hdv hc
    have:=sz_C h0 (a:Int)
    have:=h1.1
    omega
theorem evR_zero_all(hp:IsP p){Y:Fx p}(hY:Y≠0){G:Fx p}:∀l:List (Pr p),(∀a∈l,Y∣uu G a→a.1=0∧a.2=0)→evR (l.map (uu G)) Y=0→∀a∈l,a.1=0∧a.2=0
 |[],h,e=>fun a ha=>by cases ha
 |b::l,h,e=>by
  simp only[List.map_cons,evR]at e
  have i1:∀u y r:Fx p,u=u+y*r-y*r:=Rg.ind fun a=>Rg.ind fun b=>Rg.ind fun c=>Rg.eq fun x=>by grind
  have hd:Y∣uu G b:=by
   rw[i1 (uu G b) Y (evR (l.map (uu G)) Y),e]
   exact dv_sub (dv_zero _) (dv_l _ _)
  have hb:=h b (List.mem_cons_self) hd
  have hu:uu G b=0:=by rw[uu,hb.1,hb.2,Rg.zero_m,Rg.zero_a]
  rw[hu,Rg.zero_a]at e
  rcases fx_dom hp e with h5|h5
  ·exact absurd h5 hY
  ·have ih:=evR_zero_all hp hY l (fun a ha=>h a (List.mem_cons_of_mem _ ha)) h5
   intro a ha
   rcases List.mem_cons.1 ha with h6|h6
   ·rw[h6];exact hb
   ·exact ih a h6
theorem sz_pow_le(hp:IsP p){F:Fx p}(hF:sz F≤9):∀n,sz (F^n)≤8*n+1
 |0=>by rw[Rg.pow_0,sz_1 hp.1];omega
 |n+1=>by
  have:=sz_mul_le hp (m:=8*n) (sz_pow_le hp hF n) hF
  rw[Rg.pow_s];omega
theorem evY_sz(hp:IsP p){G:Fx p}{M:Nat}:∀l:List (Pr p),(∀a∈l,sz (uu G a)≤M)→sz (evR (l.map (uu G)) (Rg.X _^p))≤M+p*(l.length-1)
 |[],h=>by
  have h0:0<p:=by have:=hp.1;omega
  simp only[List.map_nil,evR];rw[sz_zero h0];omega
 |[a],h=>by
  have h0:0<p:=by have:=hp.1;omega
  simp only[List.map_cons,List.map_nil,evR]
  rw[Rg.mul_0,Rg.add_0]
  have:=h a (List.mem_cons_self)
  omega
 |a::b::l,h=>by
  have h0:0<p:=by have:=hp.1;omega
  have ih:=evY_sz hp (b::l) (fun c hc=>h c (List.mem_cons_of_mem _ hc))
  have ha:=h a (List.mem_cons_self)
  have e:=sz_mul_le hp (m:=p) (show sz (Rg.X (Jp p)^p)≤p+1 by rw[sz_Xpow hp];exact Nat.le_refl _) ih
  simp only[List.length_cons,Nat.add_sub_cancel]at e ⊢
  rw[List.map_cons,evR]
  have e2:p*(l.length+1)=p+p*l.length:=by grind
  refine sz_add h0 (by omega) ?_
  rw[e2]
  omega
theorem stepanov(hp:IsP p){q1 q2:Fx p}{h:Nat}(hh:p=2*h+1)(hbig:1500≤p)(h1:Irr q1)(h2:¬q1∣q2)(hF:sz (q1*q2)≤9)(hX:¬Rg.X (Jp p)∣q1*q2)
  (hnz:∀c,c<p→¬lin p c∣q1*q2):∃c,c<p∧¬lin p c∣(q1*q2)^h-1:=by
 refine Classical.byContradiction fun hn=>?_
 have hsq:∀c,c<p→lin p c∣(q1*q2)^h-1:=fun c hc=>Classical.byContradiction fun h5=>hn ⟨c,hc,h5⟩
 have h0:0<p:=by omega
 obtain⟨l,l1,l2,⟨a,ha,ha0⟩,l3⟩:=exists_pairs (h:=h) (K:=700) hp hF (Nat.le_refl _)
 have hT:=T_eq (q1*q2) (DY hp) h l
 let P:=evR (l.map (uu ((q1*q2)^h))) (Rg.X _^p)
 have hdv:∀c,c<p→∀i,i<9→lin p c∣DI i P:=fun c hc i hi=>by
  obtain⟨q,hq⟩:=lin_pf p c
  have hir:=lin_irr hp c
  have K:=kx_fld hp (q:=q) (by rw[hq];exact hir)
  have g1:up q ((q1*q2)^h)=1:=by
   rw[←Rg.sub_z,show(1:Kx p q)=up q 1 from rfl,←up_sub]
   exact up_z.2 (by rw[hq];exact hsq c hc)
  have g2:up q (Rg.X (Jp p))=Rg.C _ (c:Int):=by
   rw[←Rg.sub_z,show Rg.C (Jq p q) (c:Int)=up q (Rg.C _ (c:Int)) from rfl,←up_sub]
   exact up_z.2 (by rw[hq];exact dv_refl _)
  have g3:up q (Rg.X (Jp p)^p)=up q (Rg.X (Jp p)):=by
   rw[up_pow,g2,K.frob_C]
  have g4:up q (evR ((it (q1*q2) h i l).map (uu ((q1*q2)^h))) (Rg.X _^p))=0:=by
   rw[up_evR,g3,List.map_map]
   have e5:(it (q1*q2) h i l).map (up q ∘ uu ((q1*q2)^h))=((it (q1*q2) h i l).map (fun a=>a.1+a.2)).map (up q):=by
    rw[List.map_map]
    refine List.map_congr_left (fun a _=>?_)
    show up q (a.1+a.2*(q1*q2)^h)=up q (a.1+a.2)
    rw[up_add,up_mul,g1,Rg.mul_1,up_add]
   rw[e5,←up_evR]
   have e6:evR ((it (q1*q2) h i l).map (fun a=>a.1+a.2)) (Rg.X _)=0:=l3 i hi
   rw[e6];rfl
  have g5:=up_z.1 g4
  rw[hq,hT i]at g5
  rcases hir.prime hp g5 with h6|h6
  ·exact absurd (hir.pow hp i h6) (hnz c hc)
  ·exact h6
 have hall:∀c,c<p→lin p c^9∣P:=fun c hc=>by
  have:=mult_all hp (lin_irr hp c) (D_lin c) (show 9≤p by omega) (hdv c hc) 9 (Nat.le_refl _)
  exact this
 obtain⟨g1,g2,_⟩:=prL_ok hp hall p (Nat.le_refl _)
 have hP:P=0:=Classical.byContradiction fun hn=>by
  have e1:=dv_sz hp g1 hn
  have e2:sz P≤(700+8*h)+p*(l.length-1):=evY_sz hp l (fun a ha=>by
   have e3:=sz_mul_le hp (m:=8*h) (sz_pow_le hp hF h) (l2 a ha).2
   have e4:=(l2 a ha).1
   rw[Rg.mul_c]at e3
   exact sz_add h0 (by omega) (by omega))
  rw[l1]at e2
  omega
 have hYz:Rg.X (Jp p)^p≠0:=fun e=>(X_irr hp).nz hp ((fx_fld hp).pow_z e)
 have:=evR_zero_all hp hYz l (fun a ha hd=>nonvan hp hh h1 h2 hF hX (show 2*700+9≤p by omega) (l2 a ha).1 (l2 a ha).2 hd) hP a ha
 rcases ha0 with h6|h6
 ·exact h6 this.1
 ·exact h6 this.2
end Go.Proofs.Pl
