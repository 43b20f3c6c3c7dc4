/-
  Plain laws: polynomials, primes, polynomials modulo a prime.
-/

set_option linter.unusedVariables false
set_option linter.unusedSimpArgs false
namespace Go.Proofs
def Bd(l:List Nat):Prop:=∀d∈l,d<4294967296
def val:List Nat→Nat
 |[]=>0
 |d::r=>d+4294967296*val r
def trimL(l:List Nat):List Nat:=(l.reverse.dropWhile (·==0)).reverse
def encF:Nat→Nat→List Nat
 |0,_=>[]
 |f+1,n=>if n=0 then[]else(n%4294967296)::encF f (n/4294967296)
def encN(n:Nat):List Nat:=encF n n
theorem encF_eq:∀(f g n:Nat),n≤f→n≤g→encF f n=encF g n
 |0,g,n,hf,hg=>by
  have:n=0:=by omega
  subst this
  cases g<;>simp[encF]
 |f+1,0,n,hf,hg=>by
  have:n=0:=by omega
  subst this
  simp[encF]
 |f+1,g+1,n,hf,hg=>by
  simp only[encF]
  split
  ·rfl
  ·rw[encF_eq f g (n/4294967296) (by omega) (by omega)]
theorem encN_pos{n:Nat}(h:0<n):encN n=(n%4294967296)::encN (n/4294967296):=by
 unfold encN
 cases n with
 |zero=>omega
 |succ m=>
  rw[show encF (m+1) (m+1)=if m+1=0 then[]else((m+1)%4294967296)::encF m ((m+1)/4294967296) from rfl,if_neg (by omega)]
  rw[encF_eq m ((m+1)/4294967296) _ (by omega) (by omega)]
theorem encN_ind{p:Nat→Prop}(h0:p 0)(h:∀n,0<n→p (n/4294967296)→p n)(n:Nat):p n:=by
 induction n using Nat.strongRecOn with
 |ind n ih=>
  by_cases hn:n=0
  ·subst hn;exact h0
  ·exact h n (by omega) (ih _ (by omega))
theorem encN_val(n:Nat):val (encN n)=n:=by
 induction n using encN_ind with
 |h0=>rfl
 |h n hn ih=>rw[encN_pos hn,val,ih];omega
theorem encN_bd(n:Nat):Bd (encN n):=by
 induction n using encN_ind with
 |h0=>intro d hd;cases hd
 |h n hn ih=>
  rw[encN_pos hn]
  intro d hd
  rcases List.mem_cons.1 hd with rfl|hd
  ·omega
  ·exact ih d hd
theorem trimL_snoc{l:List Nat}{d:Nat}:trimL (l++[d])=if d=0 then trimL l else l++[d]:=by
 unfold trimL
 rw[List.reverse_append]
 simp only[List.reverse_cons,List.reverse_nil,List.nil_append,List.singleton_append,List.dropWhile_cons]
 by_cases h:d=0
 ·simp[h]
 ·simp[h]
theorem Bd.cons{d:Nat}{l:List Nat}(h:d<4294967296)(hl:Bd l):Bd (d::l):=by
 intro x hx
 rcases List.mem_cons.1 hx with rfl|hx
 ·exact h
 ·exact hl x hx
theorem Bd.tail{d:Nat}{l:List Nat}(h:Bd (d::l)):Bd l:=fun x hx=>h x (List.mem_cons_of_mem _ hx)
theorem Bd.head{d:Nat}{l:List Nat}(h:Bd (d::l)):d<4294967296:=h d List.mem_cons_self
theorem Bd.append{l m:List Nat}(h:Bd l)(h2:Bd m):Bd (l++m):=by
 intro x hx
 rcases List.mem_append.1 hx with hx|hx
 ·exact h x hx
 ·exact h2 x hx
theorem Bd.snoc{d:Nat}{l:List Nat}(hl:Bd l)(h:d<4294967296):Bd (l++[d]):=hl.append (Bd.cons h (fun x hx=>by cases hx))
theorem Bd.nil:Bd []:=fun x hx=>by cases hx
theorem Bd.get{l:List Nat}(h:Bd l){n d:Nat}(e:l[n]?=some d):d<4294967296:=h d (List.mem_of_getElem? e)
theorem Bd.getD{l:List Nat}(h:Bd l)(n:Nat):l[n]?.getD 0<4294967296:=by
 cases e:l[n]? with
 |none=>simp
 |some d=>simpa using h.get e
theorem Bd.take{l:List Nat}(h:Bd l)(n:Nat):Bd (l.take n):=fun d hd=>h d (List.mem_of_mem_take hd)
theorem val_lt{l:List Nat}(h:Bd l):val l<4294967296^l.length:=by
 induction l with
 |nil=>simp[val]
 |cons d r ih=>
  have h1:=h.head
  have h2:=ih h.tail
  simp only[val,List.length_cons,Nat.pow_succ]
  omega
theorem snoc_ind{α:Type}{p:List α→Prop}(h0:p [])(h:∀l x,p l→p (l++[x]))(l:List α):p l:=by
 have key:∀m:List α,p m.reverse:=by
  intro m
  induction m with
  |nil=>exact h0
  |cons a r ih=>rw[List.reverse_cons];exact h _ _ ih
 have:=key l.reverse
 rwa [List.reverse_reverse]at this
theorem enc_lt{n:Nat}:n<4294967296^(encN n).length:=by
 have:=val_lt (encN_bd n)
 rwa [encN_val]at this
end Go.Proofs
namespace Go.Proofs.Pl
def ev:List Int→Int→Int
 |[],_=>0
 |c::l,x=>c+x*ev l x
@[simp] theorem ev_nil(x:Int):ev [] x=0:=rfl
@[simp] theorem ev_cons(c:Int)(l:List Int)(x:Int):ev (c::l) x=c+x*ev l x:=rfl
theorem ev_append(l m:List Int)(x:Int):ev (l++m) x=ev l x+x^l.length*ev m x:=by
 induction l with
 |nil=>simp
 |cons c l ih=>simp only[List.cons_append,ev_cons,ih,List.length_cons,Int.pow_succ];grind
theorem ev_snoc(l:List Int)(c x:Int):ev (l++[c]) x=ev l x+c*x^l.length:=by rw[ev_append];simp;grind
theorem ev_zeros(n:Nat)(x:Int):ev (List.replicate n 0) x=0:=by
 induction n with
 |zero=>rfl
 |succ n ih=>simp[List.replicate_succ,ih]
theorem ev_set:∀(l:List Int) (n:Nat) (v x:Int),n<l.length→ev (l.set n v) x=ev l x+(v-l[n]?.getD 0)*x^n
 |[],n,v,x,h=>by simp at h
 |c::l,0,v,x,h=>by simp[List.set];omega
 |c::l,n+1,v,x,h=>by
  simp only[List.set,ev_cons,List.getElem?_cons_succ]
  rw[ev_set l n v x (by simpa using h),Int.pow_succ];grind
def addL:List Int→List Int→List Int
 |[],m=>m
 |l,[]=>l
 |a::l,b::m=>(a+b)::addL l m
theorem ev_addL(l m:List Int)(x:Int):ev (addL l m) x=ev l x+ev m x:=by
 fun_induction addL l m with
 |case1 m=>simp
 |case2 l h=>simp
 |case3 a l b m ih=>simp only[ev_cons,ih];grind
theorem len_addL(l m:List Int):(addL l m).length=max l.length m.length:=by
 fun_induction addL l m with
 |case1 m=>simp
 |case2 l h=>simp
 |case3 a l b m ih=>simp[ih]
def scL(c:Int)(l:List Int):List Int:=l.map (c*·)
theorem ev_scL(c:Int)(l:List Int)(x:Int):ev (scL c l) x=c*ev l x:=by
 induction l with
 |nil=>simp[scL]
 |cons a l ih=>simp only[scL,List.map_cons,ev_cons]at ih ⊢;rw[ih];grind
theorem len_scL(c:Int)(l:List Int):(scL c l).length=l.length:=by simp[scL]
def mulL:List Int→List Int→List Int
 |[],_=>[]
 |a::l,m=>addL (scL a m) (if l=[]then[]else 0::mulL l m)
theorem ev_mulL(l m:List Int)(x:Int):ev (mulL l m) x=ev l x*ev m x:=by
 induction l with
 |nil=>simp[mulL]
 |cons a l ih=>
  simp only[mulL,ev_addL,ev_scL,ev_cons]
  split
  ·rename_i h;subst h;simp
  ·simp only[ev_cons,ih];grind
theorem len_mulL(l m:List Int)(hl:0<l.length)(hm:0<m.length):(mulL l m).length=l.length+m.length-1:=by
 induction l with
 |nil=>simp at hl
 |cons a l ih=>
  simp only[mulL,len_addL,len_scL,List.length_cons]
  split
  ·rename_i h;subst h;simp
  ·rename_i h
   have:0<l.length:=by cases l with|nil=>exact absurd rfl h|cons=>simp
   simp only[List.length_cons,ih this];omega
def PD(d:Nat)(f:Int→Int):Prop:=∃l:List Int,l.length≤d∧∀x,f x=ev l x
def PF(f:Int→Int):Prop:=∃d,PD d f
theorem PD.ev(l:List Int):PD l.length (ev l):=⟨l,Nat.le_refl _,fun _=>rfl⟩
theorem PD.mono{d e:Nat}{f:Int→Int}(h:PD d f)(hd:d≤e):PD e f:=by
 obtain⟨l,hl,hf⟩:=h
 exact⟨l,by omega,hf⟩
theorem PD.congr{d:Nat}{f g:Int→Int}(h:PD d f)(hg:∀x,g x=f x):PD d g:=by
 obtain⟨l,hl,hf⟩:=h
 exact⟨l,hl,fun x=>by rw[hg,hf]⟩
theorem PD.add{d e:Nat}{f g:Int→Int}(h:PD d f)(h2:PD e g):PD (max d e) (fun x=>f x+g x):=by
 obtain⟨l,hl,hf⟩:=h
 obtain⟨m,hm,hg⟩:=h2
 exact⟨addL l m,by rw[len_addL];omega,fun x=>by show f x+g x=_;rw[ev_addL,hf,hg]⟩
theorem PD.smul{d:Nat}{f:Int→Int}(c:Int)(h:PD d f):PD d (fun x=>c*f x):=by
 obtain⟨l,hl,hf⟩:=h
 exact⟨scL c l,by rw[len_scL];omega,fun x=>by show c*f x=_;rw[ev_scL,hf]⟩
theorem PD.neg{d:Nat}{f:Int→Int}(h:PD d f):PD d (fun x=>- f x):=(h.smul (-1)).congr (fun x=>by simp)
theorem PD.sub{d e:Nat}{f g:Int→Int}(h:PD d f)(h2:PD e g):PD (max d e) (fun x=>f x-g x):=(h.add h2.neg).congr (fun x=>by omega)
theorem PD.mul{d e:Nat}{f g:Int→Int}(h:PD d f)(h2:PD e g):PD (d+e-1) (fun x=>f x*g x):=by
 obtain⟨l,hl,hf⟩:=h
 obtain⟨m,hm,hg⟩:=h2
 by_cases h1:0<l.length
 ·by_cases h2:0<m.length
  ·exact⟨mulL l m,by rw[len_mulL l m h1 h2];omega,fun x=>by show f x*g x=_;rw[ev_mulL,hf,hg]⟩
  ·have:m=[]:=by cases m with|nil=>rfl|cons=>simp at h2
   subst this
   exact⟨[],by simp,fun x=>by simp[hg]⟩
 ·have:l=[]:=by cases l with|nil=>rfl|cons=>simp at h1
  subst this
  exact⟨[],by simp,fun x=>by simp[hf]⟩
theorem PD.const(c:Int):PD 1 (fun _=>c):=⟨[c],by simp,fun x=>by simp⟩
theorem PD.zero(d:Nat):PD d (fun _=>0):=⟨[],by simp,fun x=>by simp⟩
theorem PD.pow(n:Nat):PD (n+1) (fun x=>x^n):=⟨List.replicate n 0++[1],by simp,fun x=>by rw[ev_snoc,ev_zeros];simp⟩
theorem PD.shift{d:Nat}{f:Int→Int}(n:Nat)(h:PD d f):PD (d+n) (fun x=>f x*x^n):=(h.mul (PD.pow n)).mono (by omega)
theorem PD.ev_le{l:List Int}{d:Nat}(h:l.length≤d):PD d (Pl.ev l):=(PD.ev l).mono h
theorem PF.ev(l:List Int):PF (ev l):=⟨_,PD.ev l⟩
theorem PF.add{f g:Int→Int}(h:PF f)(h2:PF g):PF (fun x=>f x+g x):=by
 obtain⟨d,h⟩:=h;obtain⟨e,h2⟩:=h2;exact⟨_,h.add h2⟩
theorem PF.sub{f g:Int→Int}(h:PF f)(h2:PF g):PF (fun x=>f x-g x):=by
 obtain⟨d,h⟩:=h;obtain⟨e,h2⟩:=h2;exact⟨_,h.sub h2⟩
theorem PF.mul{f g:Int→Int}(h:PF f)(h2:PF g):PF (fun x=>f x*g x):=by
 obtain⟨d,h⟩:=h;obtain⟨e,h2⟩:=h2;exact⟨_,h.mul h2⟩
theorem PF.smul{f:Int→Int}(c:Int)(h:PF f):PF (fun x=>c*f x):=by
 obtain⟨d,h⟩:=h;exact⟨_,h.smul c⟩
theorem PF.neg{f:Int→Int}(h:PF f):PF (fun x=>- f x):=by
 obtain⟨d,h⟩:=h;exact⟨_,h.neg⟩
theorem PF.const(c:Int):PF (fun _=>c):=⟨_,PD.const c⟩
theorem PF.pow(n:Nat):PF (fun x=>x^n):=⟨_,PD.pow n⟩
theorem PF.congr{f g:Int→Int}(h:PF f)(hg:∀x,g x=f x):PF g:=by
 obtain⟨d,h⟩:=h;exact⟨_,h.congr hg⟩
theorem ev_zero:∀(l:List Int) (N:Int),(∀x,N≤x→ev l x=0)→∀c∈l,c=0
 |[],_,_=>fun c h=>by cases h
 |a::l,N,h=>by
  have ha:a=0:=by
   have h1:=h (max N 0+a.natAbs+1) (by omega)
   rw[ev_cons]at h1
   have hd:(max N 0+a.natAbs+1:Int)∣a:=⟨-(ev l (max N 0+a.natAbs+1)),by grind⟩
   by_cases h0:a=0
   ·exact h0
   ·have:=Int.le_of_dvd (a:=max N 0+a.natAbs+1) (b:=(a.natAbs:Int)) (by omega) (by
     rcases Int.natAbs_eq a with e|e
     ·have h3:(a.natAbs:Int)=a:=e.symm
      rw[h3]at hd ⊢;exact hd
     ·have h3:(a.natAbs:Int)=-a:=by omega
      rw[h3]at hd ⊢;exact Int.dvd_neg.2 hd)
    omega
  intro c hc
  rcases List.mem_cons.1 hc with rfl|hc
  ·exact ha
  ·refine ev_zero l (max N 1) (fun x hx=>?_) c hc
   have h1:=h x (by omega)
   rw[ev_cons,ha,Int.zero_add]at h1
   rcases Int.mul_eq_zero.1 h1 with h2|h2
   ·omega
   ·exact h2
def cf(l:List Int)(n:Nat):Int:=l[n]?.getD 0
theorem cf_addL(l m:List Int)(n:Nat):cf (addL l m) n=cf l n+cf m n:=by
 fun_induction addL l m generalizing n with
 |case1 m=>simp[cf]
 |case2 l h=>simp[cf]
 |case3 a l b m ih=>
  cases n with
  |zero=>simp[cf]
  |succ n=>simpa[cf]using ih n
theorem cf_scL(c:Int)(l:List Int)(n:Nat):cf (scL c l) n=c*cf l n:=by
 simp only[cf,scL,List.getElem?_map]
 cases l[n]?<;>simp
theorem cf_out{l:List Int}{n:Nat}(h:l.length≤n):cf l n=0:=by simp[cf,List.getElem?_eq_none h]
theorem cf_of_zero{l:List Int}(h:∀c∈l,c=0)(n:Nat):cf l n=0:=by
 unfold cf
 cases e:l[n]? with
 |none=>rfl
 |some c=>exact h c (List.mem_of_getElem? e)
theorem ev_inj{l m:List Int}(h:∀x,ev l x=ev m x)(n:Nat):cf l n=cf m n:=by
 have h1:=cf_of_zero (ev_zero (addL l (scL (-1) m)) 0 (fun x _=>by rw[ev_addL,ev_scL,h x];grind)) n
 rw[cf_addL,cf_scL]at h1
 omega
def Cg(m:Int)(f g:Int→Int):Prop:=∃h,PF h∧∀x,f x=g x+m*h x
theorem Cg.refl(m:Int)(f:Int→Int):Cg m f f:=⟨fun _=>0,PF.const 0,fun x=>by simp⟩
theorem Cg.of_eq{m:Int}{f g:Int→Int}(h:∀x,f x=g x):Cg m f g:=⟨fun _=>0,PF.const 0,fun x=>by simp[h]⟩
theorem Cg.symm{m:Int}{f g:Int→Int}(h:Cg m f g):Cg m g f:=by
 obtain⟨k,hk,e⟩:=h
 exact⟨_,hk.neg,fun x=>by rw[e];grind⟩
theorem Cg.trans{m:Int}{f g h:Int→Int}(h1:Cg m f g)(h2:Cg m g h):Cg m f h:=by
 obtain⟨k,hk,e⟩:=h1
 obtain⟨k2,hk2,e2⟩:=h2
 exact⟨_,hk.add hk2,fun x=>by rw[e,e2];grind⟩
theorem Cg.add{m:Int}{f g f2 g2:Int→Int}(h1:Cg m f g)(h2:Cg m f2 g2):Cg m (fun x=>f x+f2 x) (fun x=>g x+g2 x):=by
 obtain⟨k,hk,e⟩:=h1
 obtain⟨k2,hk2,e2⟩:=h2
 exact⟨_,hk.add hk2,fun x=>by simp only[];rw[e,e2];grind⟩
theorem Cg.sub{m:Int}{f g f2 g2:Int→Int}(h1:Cg m f g)(h2:Cg m f2 g2):Cg m (fun x=>f x-f2 x) (fun x=>g x-g2 x):=by
 obtain⟨k,hk,e⟩:=h1
 obtain⟨k2,hk2,e2⟩:=h2
 exact⟨_,hk.sub hk2,fun x=>by simp only[];rw[e,e2];grind⟩
theorem Cg.mul{m:Int}{f g f2 g2:Int→Int}(h1:Cg m f g)(h2:Cg m f2 g2)(hg:PF g)(hg2:PF g2):Cg m (fun x=>f x*f2 x) (fun x=>g x*g2 x):=by
 obtain⟨k,hk,e⟩:=h1
 obtain⟨k2,hk2,e2⟩:=h2
 exact⟨_,((hk.mul hg2).add (hg.mul hk2)).add ((hk.mul hk2).smul m),fun x=>by simp only[];rw[e,e2];grind⟩
theorem Cg.smul{m:Int}{f g:Int→Int}(c:Int)(h1:Cg m f g):Cg m (fun x=>c*f x) (fun x=>c*g x):=by
 obtain⟨k,hk,e⟩:=h1
 exact⟨_,hk.smul c,fun x=>by simp only[];rw[e];grind⟩
theorem Cg.dvd{m n:Int}{f g:Int→Int}(h:Cg m f g)(hd:n∣m):Cg n f g:=by
 obtain⟨k,hk,e⟩:=h
 obtain⟨c,rfl⟩:=hd
 exact⟨_,hk.smul c,fun x=>by rw[e];grind⟩
theorem Cg.congr{m:Int}{f g f2 g2:Int→Int}(h:Cg m f g)(h1:∀x,f2 x=f x)(h2:∀x,g2 x=g x):Cg m f2 g2:=by
 obtain⟨k,hk,e⟩:=h
 exact⟨k,hk,fun x=>by rw[h1,h2,e]⟩
theorem Cg.coef{m:Int}{l k:List Int}(h:Cg m (ev l) (ev k))(n:Nat):m∣cf l n-cf k n:=by
 obtain⟨q,⟨d,r,_,hq⟩,e⟩:=h
 have h1:=ev_inj (l:=l) (m:=addL k (scL m r)) (fun x=>by rw[ev_addL,ev_scL,e,hq]) n
 rw[cf_addL,cf_scL]at h1
 exact⟨cf r n,by omega⟩
theorem exists_div{m:Int}:∀(l:List Int),(∀c∈l,m∣c)→∃r:List Int,r.length=l.length∧∀x,ev l x=m*ev r x
 |[],_=>⟨[],rfl,fun x=>by simp⟩
 |a::l,h=>by
  obtain⟨r,hr,e⟩:=exists_div l (fun c hc=>h c (List.mem_cons_of_mem _ hc))
  obtain⟨b,rfl⟩:=h a List.mem_cons_self
  exact⟨b::r,by simp[hr],fun x=>by rw[ev_cons,ev_cons,e];grind⟩
theorem mem_cf{l:List Int}{c:Int}(h:c∈l):∃n,cf l n=c:=by
 obtain⟨n,hn⟩:=List.mem_iff_getElem?.1 h
 exact⟨n,by simp[cf,hn]⟩
theorem Cg.of_coef{m:Int}{l k:List Int}(h:∀n,m∣cf l n-cf k n):Cg m (ev l) (ev k):=by
 obtain⟨r,hr,e⟩:=exists_div (m:=m) (addL l (scL (-1) k)) (fun c hc=>by
  obtain⟨n,rfl⟩:=mem_cf hc
  rw[cf_addL,cf_scL]
  have:=h n
  rwa [show cf l n+-1*cf k n=cf l n-cf k n by omega])
 exact⟨_,PF.ev r,fun x=>by have:=e x;rw[ev_addL,ev_scL]at this;omega⟩
theorem Cg.top{m c:Int}{N:Nat}{l:List Int}{f:Int→Int}(hf:PD N f)(h:Cg m (ev l) (fun x=>f x+c*x^N)):m∣cf l N-c∧∀n,N<n→m∣cf l n:=by
 obtain⟨r,hr,e⟩:=hf
 have h1:Cg m (ev l) (ev ((r++List.replicate (N-r.length) 0)++[c])):=h.congr (fun _=>rfl) (fun x=>by
  rw[ev_snoc,ev_append,ev_zeros,e];simp
  rw[show r.length+(N-r.length)=N by omega])
 have hlen:(r++List.replicate (N-r.length) 0).length=N:=by simp;omega
 constructor
 ·have:=h1.coef N
  rwa [show cf ((r++List.replicate (N-r.length) 0)++[c]) N=c by
   unfold cf;rw[List.getElem?_append_right (by omega),hlen];simp]at this
 ·intro n hn
  have:=h1.coef n
  rwa [cf_out (l:=(r++List.replicate (N-r.length) 0)++[c]) (by simp only[List.length_append,hlen,List.length_singleton];omega),Int.sub_zero]at this
def IsP(p:Nat):Prop:=2≤p∧∀d,d∣p→d=1∨d=p
theorem IsP.coprime{p a:Nat}(hp:IsP p)(h:¬p∣a):Nat.Coprime p a:=by
 have hd:Nat.gcd p a∣p:=Nat.gcd_dvd_left p a
 rcases hp.2 _ hd with h1|h1
 ·exact h1
 ·exact absurd (h1▸Nat.gcd_dvd_right p a) h
theorem IsP.dvd_mul{p a b:Nat}(hp:IsP p)(h:p∣a*b):p∣a∨p∣b:=by
 by_cases ha:p∣a
 ·exact Or.inl ha
 ·exact Or.inr (Nat.Coprime.dvd_of_dvd_mul_left (hp.coprime ha) h)
theorem IsP.dvd_mulI{p:Nat}{a b:Int}(hp:IsP p)(h:(p:Int)∣a*b):(p:Int)∣a∨(p:Int)∣b:=by
 rw[Int.ofNat_dvd_left,Int.natAbs_mul]at h
 rcases hp.dvd_mul h with h|h
 ·exact Or.inl (Int.ofNat_dvd_left.2 h)
 ·exact Or.inr (Int.ofNat_dvd_left.2 h)
def ch:Nat→Nat→Nat
 |_,0=>1
 |0,_+1=>0
 |n+1,k+1=>ch n k+ch n (k+1)
theorem ch_out:∀(n k:Nat),n<k→ch n k=0
 |_,0,h=>by omega
 |0,k+1,_=>rfl
 |n+1,k+1,h=>by rw[ch,ch_out n k (by omega),ch_out n (k+1) (by omega)]
theorem ch_self:∀n:Nat,ch n n=1
 |0=>rfl
 |n+1=>by rw[ch,ch_self n,ch_out n (n+1) (by omega)]
theorem ch_zero(n:Nat):ch n 0=1:=by cases n<;>rfl
theorem ch_mul:∀(n k:Nat),(k+1)*ch (n+1) (k+1)=(n+1)*ch n k
 |0,0=>rfl
 |0,k+1=>by simp[ch]
 |n+1,0=>by
  have:=ch_mul n 0
  rw[ch_zero]at *
  rw[ch,ch_zero]
  omega
 |n+1,k+1=>by
  have h1:=ch_mul n k
  have h2:=ch_mul n (k+1)
  rw[ch]
  have h3:ch (n+1) (k+1)=ch n k+ch n (k+1):=rfl
  grind
theorem ch_dvd{p k:Nat}(hp:IsP p)(h0:0<k)(h1:k<p):p∣ch p k:=by
 obtain⟨j,rfl⟩:∃j,k=j+1:=⟨k-1,by omega⟩
 obtain⟨n,rfl⟩:∃n,p=n+1:=⟨p-1,by omega⟩
 have:=ch_mul n j
 have h:(n+1)∣(j+1)*ch (n+1) (j+1):=⟨_,this⟩
 rcases hp.dvd_mul h with h|h
 ·have:=Nat.le_of_dvd (by omega) h;omega
 ·exact h
def bsum(n a:Nat):Nat→Nat
 |0=>0
 |m+1=>bsum n a m+ch n m*a^m
theorem bsum_succ(n a:Nat):∀m,bsum (n+1) a (m+1)=bsum n a (m+1)+a*bsum n a m
 |0=>by simp[bsum,ch_zero]
 |m+1=>by
  have ih:=bsum_succ n a m
  rw[bsum,ih,bsum.eq_2 n a (m+1),bsum.eq_2 n a m,ch,Nat.pow_succ]
  grind
theorem binom(a:Nat):∀n,(a+1)^n=bsum n a (n+1)
 |0=>by simp[bsum,ch]
 |n+1=>by
  rw[bsum_succ,Nat.pow_succ,binom a n]
  rw[bsum.eq_2 n a (n+1),ch_out n (n+1) (by omega)]
  grind
theorem bsum_mod{p a:Nat}(hp:IsP p):∀m,m<p→bsum p a (m+1)%p=1
 |0,h=>by
  have:=hp.1
  simp[bsum,ch_zero];exact Nat.mod_eq_of_lt (by omega)
 |m+1,h=>by
  rw[bsum]
  obtain⟨c,hc⟩:=ch_dvd hp (k:=m+1) (by omega) h
  rw[hc,Nat.mul_assoc,Nat.add_mul_mod_self_left]
  exact bsum_mod hp m (by omega)
theorem fermat{p:Nat}(hp:IsP p):∀a:Nat,a^p%p=a%p
 |0=>by
  have:=hp.1
  rw[Nat.zero_pow (by omega)]
 |a+1=>by
  have h2:=hp.1
  obtain⟨q,hq⟩:∃q,p=q+1:=⟨p-1,by omega⟩
  rw[binom,bsum,ch_self,Nat.one_mul]
  have h1:bsum p a p%p=1:=by
   have:=bsum_mod (a:=a) hp q (by omega)
   rwa [←hq]at this
  rw[Nat.add_mod,h1,fermat hp a,←Nat.add_mod_mod,Nat.mod_mod,Nat.add_mod_mod,Nat.add_comm]
theorem fermat1{p a:Nat}(hp:IsP p)(h:¬p∣a):a^(p-1)%p=1:=by
 have h2:=hp.1
 have h1:=fermat hp a
 obtain⟨q,hq⟩:∃q,p=q+1:=⟨p-1,by omega⟩
 have h3:(p:Int)∣(a:Int)*((a:Int)^q-1):=by
  have:(p:Int)∣((a^p:Nat):Int)-(a:Int):=by
   apply Int.dvd_of_emod_eq_zero
   rw[Int.sub_emod,←Int.natCast_emod,h1]
   simp
  rw[hq]at this ⊢
  rw[Int.natCast_pow,Int.pow_succ]at this
  have e:(a:Int)^q*(a:Int)-(a:Int)=(a:Int)*((a:Int)^q-1):=by grind
  rwa [e]at this
 rcases hp.dvd_mulI h3 with h4|h4
 ·exact absurd (Int.natCast_dvd_natCast.1 h4) h
 ·have e:p-1=q:=by omega
  rw[e]
  have h5:((a^q:Nat):Int)%(p:Int)=1:=by
   have h6:=Int.emod_eq_emod_iff_emod_sub_eq_zero.2 (Int.emod_eq_zero_of_dvd h4)
   rw[Int.natCast_pow,h6]
   exact Int.emod_eq_of_lt (by omega) (by omega)
  exact_mod_cast h5
theorem root_one{p x:Nat}(hp:IsP p)(hx:x<p)(h:x*x%p=1):x=1∨x=p-1:=by
 have h2:=hp.1
 have h3:(p:Int)∣((x:Int)-1)*((x:Int)+1):=by
  apply Int.dvd_of_emod_eq_zero
  have e:((x:Int)-1)*((x:Int)+1)=((x*x:Nat):Int)-1:=by rw[Int.natCast_mul];grind
  rw[e,Int.sub_emod,←Int.natCast_emod,h,Int.emod_eq_of_lt (a:=1) (b:=(p:Int)) (by omega) (by omega)]
  simp
 rcases hp.dvd_mulI h3 with h4|h4
 ·obtain⟨c,hc⟩:=h4
  have h5:((x:Int)-1)%(p:Int)=0:=by rw[hc];simp
  by_cases h6:x=0
  ·subst h6;simp at h
  ·rw[Int.emod_eq_of_lt (by omega) (by omega)]at h5
   left;omega
 ·have h5:=Int.le_of_dvd (by omega) h4
  right;omega
def sq(p:Nat)(x:Nat):Nat→Nat
 |0=>x
 |s+1=>sq p x s*sq p x s%p
theorem sq_pow{p x x0 d:Nat}(hx:x=(x0^d)%p):∀s,sq p x s%p=x0^(d*2^s)%p
 |0=>by simp[sq,hx]
 |s+1=>by
  rw[sq,Nat.mod_mod,Nat.mul_mod,sq_pow hx s,←Nat.mul_mod,←Nat.pow_add]
  congr 2
  rw[Nat.pow_succ];grind
theorem sq_lt{p x:Nat}(hp:0<p)(hx:x<p):∀s,sq p x s<p
 |0=>hx
 |s+1=>Nat.mod_lt _ hp
theorem mr{p x d s w:Nat}(hp:IsP p)(hw:¬p∣w)(hd:d*2^s=p-1)(hx:x=w^d%p):x=1∨∃i,i<s∧sq p x i=p-1:=by
 have h2:=hp.1
 have hlt:x<p:=by rw[hx];exact Nat.mod_lt _ (by omega)
 have hs:sq p x s=1:=by
  have:=sq_pow (s:=s) hx
  rw[hd,fermat1 hp hw,Nat.mod_eq_of_lt (sq_lt (by omega) hlt s)]at this
  exact this
 clear hd hx hw
 induction s with
 |zero=>exact Or.inl hs
 |succ s ih=>
  rcases root_one hp (sq_lt (by omega) hlt s) hs with h|h
  ·rcases ih h with h|⟨i,hi,h⟩
   ·exact Or.inl h
   ·exact Or.inr ⟨i,by omega,h⟩
  ·exact Or.inr ⟨s,by omega,h⟩
theorem isP_of_trial{n:Nat}(h2:2≤n)(h:∀d,2≤d→d*d≤n→n%d≠0):IsP n:=by
 refine⟨h2,fun d hd=>?_⟩
 obtain⟨e,he⟩:=hd
 by_cases h1:d=1
 ·exact Or.inl h1
 ·by_cases h3:e=1
  ·subst h3;right;omega
  ·exfalso
   have d0:d≠0:=by intro h;subst h;omega
   have e0:e≠0:=by intro h;subst h;omega
   by_cases hle:d≤e
   ·exact h d (by omega) (by rw[he];exact Nat.mul_le_mul_left d hle) (by rw[he];simp)
   ·exact h e (by omega) (by rw[he];exact Nat.mul_le_mul_right e (by omega)) (by rw[he];simp)
theorem IsP.trial{n d:Nat}(hp:IsP n)(h2:2≤d)(h:d*d≤n):n%d≠0:=by
 intro h0
 rcases hp.2 d (Nat.dvd_of_mod_eq_zero h0)with h1|h1
 ·omega
 ·subst h1
  have:d*2≤d*d:=Nat.mul_le_mul_left d h2
  omega
def noDiv(n:Nat):Nat→Nat→Bool
 |0,a=>n%a != 0
 |k+1,a=>noDiv n k a&&noDiv n k (a+2^k)
theorem noDiv_ok{n:Nat}:∀(k a:Nat),noDiv n k a=true→∀d,a≤d→d<a+2^k→n%d≠0
 |0,a,h,d,h1,h2=>by
  have:d=a:=by simp at h2;omega
  subst this
  simpa[noDiv]using h
 |k+1,a,h,d,h1,h2=>by
  simp only[noDiv,Bool.and_eq_true]at h
  rw[Nat.pow_succ]at h2
  by_cases hd:d<a+2^k
  ·exact noDiv_ok k a h.1 d h1 hd
  ·exact noDiv_ok k _ h.2 d (by omega) (by omega)
theorem big_noDiv:noDiv 2147483647 16 2=true:=by decide +kernel
theorem big_prime:IsP 2147483647:=isP_of_trial (by omega) (fun d h2 h=>noDiv_ok 16 2 big_noDiv d h2 (by
 by_cases hd:d<65538
 ·simpa using hd
 ·exfalso
  have:65538*65538≤d*d:=Nat.mul_le_mul (by omega) (by omega)
  omega))
def nv(l:List Nat):List Int:=l.map (fun n:Nat=>(n:Int))
def en(l:List Nat):Int→Int:=ev (nv l)
theorem nv_len(l:List Nat):(nv l).length=l.length:=by simp[nv]
theorem nv_snoc(l:List Nat)(c:Nat):nv (l++[c])=nv l++[(c:Int)]:=by simp[nv]
theorem en_snoc(l:List Nat)(c:Nat)(x:Int):en (l++[c]) x=en l x+c*x^l.length:=by rw[en,nv_snoc,ev_snoc,nv_len];rfl
theorem cf_nv(l:List Nat)(n:Nat):cf (nv l) n=((l[n]?.getD 0:Nat):Int):=by
 unfold cf nv
 rw[List.getElem?_map]
 cases l[n]?<;>rfl
theorem en_nil(x:Int):en [] x=0:=rfl
theorem en_one(x:Int):en [1] x=1:=by simp[en,nv]
theorem PD.en(l:List Nat):PD l.length (en l):=by have:=PD.ev (nv l);rwa [nv_len]at this
theorem PF.en(l:List Nat):PF (Pl.en l):=⟨_,PD.en l⟩
theorem en_trim(l:List Nat)(x:Int):en (trimL l) x=en l x:=by
 induction l using snoc_ind with
 |h0=>rfl
 |h l d ih=>
  rw[trimL_snoc]
  split
  ·rename_i h;subst h;rw[ih,en_snoc];simp
  ·rfl
def Rd(p:Nat)(l:List Nat):Prop:=(∀d∈l,d<p)∧∀d,l[l.length-1]?=some d→d≠0
theorem trim_nz(l:List Nat):∀d,(trimL l)[(trimL l).length-1]?=some d→d≠0:=by
 induction l using snoc_ind with
 |h0=>intro d h;cases h
 |h l d ih=>
  rw[trimL_snoc]
  split
  ·exact ih
  ·rename_i h
   intro e he
   simp at he
   omega
theorem trim_mem{l:List Nat}{d:Nat}(h:d∈trimL l):d∈l:=by
 induction l using snoc_ind with
 |h0=>exact h
 |h l e ih=>
  rw[trimL_snoc]at h
  split at h
  ·exact List.mem_append_left _ (ih h)
  ·exact h
theorem Rd.trim{p:Nat}{l:List Nat}(h:∀d∈l,d<p):Rd p (trimL l):=⟨fun d hd=>h d (trim_mem hd),trim_nz l⟩
theorem Rd.nil(p:Nat):Rd p []:=⟨fun d h=>(by cases h),fun d h=>(by simp at h)⟩
theorem trim_self{l:List Nat}(h:∀d,l[l.length-1]?=some d→d≠0):trimL l=l:=by
 induction l using snoc_ind with
 |h0=>rfl
 |h l e ih=>
  rw[trimL_snoc,if_neg (h e (by simp))]
theorem Rd.getD_lt{p:Nat}{l:List Nat}(h:Rd p l)(hp:0<p)(n:Nat):l[n]?.getD 0<p:=by
 cases e:l[n]? with
 |none=>exact hp
 |some d=>exact h.1 d (List.mem_of_getElem? e)
theorem small_dvd{p:Nat}{a b:Nat}(ha:a<p)(hb:b<p)(h:(p:Int)∣(a:Int)-b):a=b:=by
 obtain⟨c,hc⟩:=h
 have h1:((a:Int)-b)%(p:Int)=0:=by rw[hc];simp
 have h2:=(Int.emod_eq_emod_iff_emod_sub_eq_zero).2 h1
 rw[Int.emod_eq_of_lt (by omega) (by omega),Int.emod_eq_of_lt (by omega) (by omega)]at h2
 omega
theorem Rd.ext{p:Nat}{a b:List Nat}(hp:0<p)(ha:Rd p a)(hb:Rd p b)(h:Cg p (en a) (en b)):a=b:=by
 have hc:∀n:Nat,a[n]?.getD 0=b[n]?.getD 0:=fun n=>by
  have:=h.coef n
  rw[cf_nv,cf_nv]at this
  exact small_dvd (ha.getD_lt hp n) (hb.getD_lt hp n) this
 have key:∀{a b:List Nat},Rd p b→(∀n:Nat,a[n]?.getD 0=b[n]?.getD 0)→¬a.length<b.length:=by
  intro a b hb hc hl
  have h1:=hc (b.length-1)
  rw[List.getElem?_eq_none (by omega),List.getElem?_eq_getElem (by omega)]at h1
  exact hb.2 _ (List.getElem?_eq_getElem (by omega)) (by simpa using h1.symm)
 have hl:a.length=b.length:=by
  have h1:=key hb hc
  have h2:=key ha (fun n=>(hc n).symm)
  omega
 refine List.ext_getElem hl (fun n h1 h2=>?_)
 have:=hc n
 rw[List.getElem?_eq_getElem h1,List.getElem?_eq_getElem h2]at this
 simpa using this
def red(p:Nat)(l:List Int):List Nat:=trimL (l.map (fun c=>(c%(p:Int)).toNat))
theorem red_rd{p:Nat}(hp:0<p)(l:List Int):Rd p (red p l):=Rd.trim (fun d hd=>by
 obtain⟨c,_,rfl⟩:=List.mem_map.1 hd
 have:=Int.emod_lt_of_pos c (b:=(p:Int)) (by omega)
 have:=Int.emod_nonneg c (b:=(p:Int)) (by omega)
 omega)
theorem red_cg{p:Nat}(hp:0<p)(l:List Int):Cg p (en (red p l)) (ev l):=by
 have h:Cg (p:Int) (en (l.map (fun c=>(c%(p:Int)).toNat))) (ev l):=by
  refine Cg.of_coef (fun n=>?_)
  rw[cf_nv,List.getElem?_map]
  unfold cf
  cases l[n]? with
  |none=>simp
  |some c=>
   have h1:=Int.emod_nonneg c (b:=(p:Int)) (by omega)
   simp only[Option.map_some,Option.getD_some]
   rw[Int.toNat_of_nonneg h1]
   have:=Int.emod_add_mul_ediv c (p:Int)
   exact⟨-(c/(p:Int)),by rw[Int.mul_neg];omega⟩
 exact h.congr (fun x=>en_trim _ x) (fun _=>rfl)
theorem PF.red{p:Nat}(hp:0<p){f:Int→Int}(h:PF f):∃l,Rd p l∧Cg p (Pl.en l) f:=by
 obtain⟨d,l,_,hf⟩:=h
 exact⟨Pl.red p l,red_rd hp l,(red_cg hp l).congr (fun _=>rfl) hf⟩
def Mo(p n:Nat)(g:List Nat):Prop:=Rd p g∧g.length=n+1∧g[n]?=some 1
theorem Mo.split{p n:Nat}{g:List Nat}(h:Mo p n g):∃r:List Nat,r.length=n∧g=r++[1]:=by
 refine⟨g.take n,by simp[h.2.1],?_⟩
 have:=List.take_append_drop n g
 rw[List.drop_eq_getElem_cons (by rw[h.2.1];omega),List.drop_of_length_le (by rw[h.2.1];omega)]at this
 have h2:=h.2.2
 rw[List.getElem?_eq_getElem (by rw[h.2.1];omega)]at h2
 simp only[Option.some.injEq]at h2
 rw[h2]at this
 exact this.symm
theorem Mo.lead{p n:Nat}{g:List Nat}(h:Mo p n g):∃G,PD n G∧∀x,en g x=G x+x^n:=by
 obtain⟨r,hr,rfl⟩:=h.split
 exact⟨en r,hr▸PD.en r,fun x=>by rw[en_snoc,hr];simp⟩
theorem mo_one{p:Nat}(hp:1<p):Mo p 0 [1]:=⟨⟨fun d h=>by simp at h;omega,fun d h=>by simp at h;omega⟩,rfl,rfl⟩
theorem Mo.zero{p:Nat}{g:List Nat}(h:Mo p 0 g):g=[1]:=by
 obtain⟨r,hr,rfl⟩:=h.split
 cases r with
 |nil=>rfl
 |cons=>simp at hr
theorem deg_mul{p n N:Nat}{s g:List Nat}{f:Int→Int}(hs:Rd p s)(hs0:s≠[])(hg:Mo p n g)(hf:PD N f)(h:Cg p f (fun x=>en s x*en g x)):s.length+n≤N:=by
 obtain⟨G,hG,eG⟩:=hg.lead
 obtain⟨l,hl,ef⟩:=hf
 obtain⟨q,c,rfl⟩:∃q c,s=q++[c]:=⟨s.dropLast,s.getLast hs0,(List.dropLast_concat_getLast hs0).symm⟩
 have hc:c≠0:=hs.2 c (by simp)
 have hcp:c<p:=hs.1 c (by simp)
 have hlow:PD (q.length+n) (fun x=>(en q x*G x+en q x*x^n)+c*(G x*x^q.length)):=by
  refine PD.mono ((((PD.en q).mul hG).add ((PD.en q).shift n)).add ((hG.shift q.length).smul c)) (by omega)
 have h1:Cg p (ev l) (fun x=>((en q x*G x+en q x*x^n)+c*(G x*x^q.length))+(c:Int)*x^(q.length+n)):=
  h.congr (fun x=>(ef x).symm) (fun x=>by rw[en_snoc,eG,Int.pow_add];grind)
 have h2:=(Cg.top hlow h1).1
 by_cases hlen:q.length+n<l.length
 ·simp;omega
 ·exfalso
  rw[cf_out (by omega)]at h2
  have h3:p∣c:=Int.natCast_dvd_natCast.1 (by
   have:=Int.dvd_neg.2 h2
   rwa [show -(0-(c:Int))=c by omega]at this)
  have:=Nat.le_of_dvd (by omega) h3
  omega
theorem zero_of_deg{p n:Nat}{g:List Nat}{f s:Int→Int}(hp:0<p)(hs:PF s)(hg:Mo p n g)(hf:PD n f)(h:Cg p f (fun x=>s x*en g x)):Cg p s (fun _=>0)∧Cg p f (fun _=>0):=by
 obtain⟨l,hl,el⟩:=hs.red hp
 have h1:Cg p f (fun x=>en l x*en g x):=h.trans (el.symm.mul (Cg.refl _ _) (PF.en l) (PF.en g))
 have h2:l=[]:=by
  by_cases h0:l=[]
  ·exact h0
  ·have:=deg_mul hl h0 hg hf h1
   have:0<l.length:=List.length_pos_iff.2 h0
   omega
 subst h2
 exact⟨el.symm.congr (fun _=>rfl) (fun x=>(en_nil x).symm),h1.congr (fun _=>rfl) (fun x=>by rw[en_nil];simp)⟩
def Bz(p:Nat)(f g:Int→Int):Prop:=∃u v,PF u∧PF v∧Cg p (fun x=>u x*f x+v x*g x) (fun _=>1)
theorem Bz.symm{p:Nat}{f g:Int→Int}(h:Bz p f g):Bz p g f:=by
 obtain⟨u,v,hu,hv,e⟩:=h
 exact⟨v,u,hv,hu,e.congr (fun x=>by omega) (fun _=>rfl)⟩
theorem Bz.one{p:Nat}{f g:Int→Int}(h:Cg p g (fun _=>1)):Bz p f g:=⟨fun _=>0,fun _=>1,PF.const 0,PF.const 1,h.congr (fun x=>by simp) (fun _=>rfl)⟩
theorem Bz.congr{p:Nat}{f g g2:Int→Int}(h:Bz p f g)(hg:PF g)(hf:PF f)(hc:Cg p g2 g):Bz p f g2:=by
 obtain⟨u,v,hu,hv,e⟩:=h
 exact⟨u,v,hu,hv,Cg.trans (Cg.add (Cg.refl _ (fun x=>u x*f x)) (Cg.mul (Cg.refl _ v) hc hv hg)) e⟩
theorem Bz.mul{p:Nat}{f g h:Int→Int}(hf:PF f)(hg:PF g)(hh:PF h)(h1:Bz p f g)(h2:Bz p f h):Bz p f (fun x=>g x*h x):=by
 obtain⟨u,v,hu,hv,e⟩:=h1
 obtain⟨u2,v2,hu2,hv2,e2⟩:=h2
 refine⟨fun x=>u x*(u2 x*f x+v2 x*h x)+v x*g x*u2 x,fun x=>v x*v2 x,?_,hv.mul hv2,?_⟩
 ·exact(hu.mul ((hu2.mul hf).add (hv2.mul hh))).add ((hv.mul hg).mul hu2)
 ·have:=e.mul e2 (PF.const 1) (PF.const 1)
  exact this.congr (fun x=>by grind) (fun x=>by simp)
theorem Bz.of_mul{p:Nat}{f g h:Int→Int}(hh:PF h)(h1:Bz p f (fun x=>g x*h x)):Bz p f g:=by
 obtain⟨u,v,hu,hv,e⟩:=h1
 exact⟨u,fun x=>v x*h x,hu,hv.mul hh,e.congr (fun x=>by grind) (fun _=>rfl)⟩
structure IsGcd(p:Nat)(a b:Int→Int)(g:List Nat):Prop where
 mo:g=[]∨∃n,Mo p n g
 comb:∃u v,PF u∧PF v∧Cg p (en g) (fun x=>u x*a x+v x*b x)
 left:∃s,PF s∧Cg p a (fun x=>s x*en g x)
 right:∃s,PF s∧Cg p b (fun x=>s x*en g x)
theorem one_not_zero{p:Nat}(hp:1<p){f:Int→Int}(h:Cg p (fun _=>1) (fun _=>0)):False:=by
 have:=Cg.coef (l:=[1]) (k:=[]) (h.congr (fun x=>by simp) (fun x=>by simp)) 0
 simp[cf]at this
 have:=Int.le_of_dvd (by omega) this
 omega
theorem IsGcd.one{p:Nat}(hp:1<p){a b:Int→Int}{g:List Nat}(ha:PF a)(hb:PF b)(h:IsGcd p a b g)(hz:Bz p a b):g.length=1:=by
 obtain⟨u,v,hu,hv,e⟩:=hz
 obtain⟨s,hs,es⟩:=h.left
 obtain⟨t,ht,et⟩:=h.right
 have h1:Cg p (fun _=>1) (fun x=>(u x*s x+v x*t x)*en g x):=by
  refine e.symm.trans ?_
  have:=(Cg.mul (Cg.refl p u) es hu (hs.mul (PF.en g))).add (Cg.mul (Cg.refl p v) et hv (ht.mul (PF.en g)))
  exact this.congr (fun _=>rfl) (fun x=>by grind)
 rcases h.mo with h0|⟨n,hn⟩
 ·subst h0
  exact absurd (h1.congr (fun _=>rfl) (fun x=>by rw[en_nil];simp)) (fun h=>one_not_zero (f:=fun _=>0) hp h)
 ·obtain⟨l,hl,el⟩:=((hu.mul hs).add (hv.mul ht)).red (p:=p) (by omega)
  have h2:Cg p (fun _=>1) (fun x=>en l x*en g x):=h1.trans (el.symm.mul (Cg.refl _ _) (PF.en l) (PF.en g))
  by_cases h0:l=[]
  ·subst h0
   exact absurd (h2.congr (fun _=>rfl) (fun x=>by rw[en_nil];simp)) (fun h=>one_not_zero (f:=fun _=>0) hp h)
  ·have:=deg_mul hl h0 hn (PD.const 1) h2
   have:0<l.length:=List.length_pos_iff.2 h0
   have:=hn.2.1
   omega
def MoI(n:Nat)(X:List Int):Prop:=X.length=n+1∧cf X n=1
theorem MoI.lead{n:Nat}{X:List Int}(h:MoI n X):∃G,PD n G∧∀x,ev X x=G x+x^n:=by
 have e:X=X.take n++[1]:=by
  have:=List.take_append_drop n X
  rw[List.drop_eq_getElem_cons (by rw[h.1];omega),List.drop_of_length_le (by rw[h.1];omega)]at this
  have h2:=h.2
  unfold cf at h2
  rw[List.getElem?_eq_getElem (by rw[h.1];omega)]at h2
  simp only[Option.getD_some]at h2
  rw[h2]at this
  exact this.symm
 refine⟨ev (X.take n),(PD.ev _).mono (by simp;omega),fun x=>?_⟩
 have hl:(X.take n).length=n:=by simp[h.1]
 rw[e,ev_snoc,List.take_left' (by rw[hl]),hl];simp
theorem MoI.add{n:Nat}{X Y:List Int}(h:MoI n X)(hY:Y.length≤n):MoI n (addL X Y):=by
 refine⟨by rw[len_addL,h.1];omega,?_⟩
 rw[cf_addL,h.2,cf_out hY];rfl
theorem lead_sub{n:Nat}{X Y:Int→Int}{G H:Int→Int}(hG:PD n G)(hH:PD n H)(eX:∀x,X x=G x+x^n)(eY:∀x,Y x=H x+x^n):PD n (fun x=>X x-Y x):=
 ((hG.sub hH).mono (by omega)).congr (fun x=>by rw[eX,eY];omega)
theorem PD.div{m:Int}(hm:m≠0){d:Nat}{f h:Int→Int}(hf:PD d f)(hh:PF h)(e:∀x,f x=m*h x):PD d h:=by
 obtain⟨l,hl,el⟩:=hf
 obtain⟨D,k,hk,ek⟩:=hh
 have h1:∀n,cf l n=m*cf k n:=fun n=>by
  have:=ev_inj (l:=l) (m:=scL m k) (fun x=>by rw[ev_scL,←el,e,ek]) n
  rwa [cf_scL]at this
 refine⟨k.take d,by simp;omega,fun x=>?_⟩
 rw[ek]
 have h2:k=k.take d++k.drop d:=(List.take_append_drop d k).symm
 have h3:∀c∈k.drop d,c=0:=by
  intro c hc
  obtain⟨j,hj⟩:=List.mem_iff_getElem?.1 hc
  rw[List.getElem?_drop]at hj
  have:=h1 (d+j)
  rw[cf_out (by omega)]at this
  unfold cf at this
  rw[hj]at this
  rcases Int.mul_eq_zero.1 this.symm with h|h
  ·exact absurd h hm
  ·exact h
 have h4:∀(r:List Int),(∀c∈r,c=0)→Pl.ev r x=0:=by
  intro r
  induction r with
  |nil=>intro _;rfl
  |cons a r ih=>intro h;rw[ev_cons,h a List.mem_cons_self,ih (fun c hc=>h c (List.mem_cons_of_mem _ hc))];simp
 rw[h2,ev_append,h4 _ h3]
 simp
theorem PD.prod_lead{n k:Nat}{X Y G H:Int→Int}(hG:PD n G)(hH:PD k H)(eX:∀x,X x=G x+x^n)(eY:∀x,Y x=H x+x^k):∃R,PD (n+k) R∧∀x,X x*Y x=R x+x^(n+k):=by
 refine⟨fun x=>(G x*H x+G x*x^k)+H x*x^n,?_,fun x=>by rw[eX,eY,Int.pow_add];grind⟩
 exact(((hG.mul hH).add (hG.shift k)).add (hH.shift n)).mono (by omega)
theorem step{p n k:Nat}{m:Int}{g h dx dy E:List Nat}{X Y f:List Int}{t s q r e0:Int→Int}
  (hp:1<p) (hm:m≠0) (hpm:(p:Int)∣m) (hg:Mo p n g) (hh:Mo p k h) (hX:MoI n X) (hY:MoI k Y) (hf:MoI (n+k) f)
  (cX:Cg p (ev X) (en g)) (cY:Cg p (ev Y) (en h))
  (hE:Rd p E) (he0:PF e0) (ee:∀x,ev f x-ev X x*ev Y x=m*e0 x) (cE:Cg p (en E) e0)
  (ht:PF t) (hs:PF s) (ct:Cg p (fun x=>t x*en h x) (fun x=>1+s x*en g x))
  (hq:PF q) (ldx:dx.length≤n) (cdx:Cg p (en dx) (fun x=>t x*en E x+q x*en g x))
  (hr:PD n r) (hdy:Rd p dy) (cdy:Cg p (fun x=>en E x-en dx x*en h x) (fun x=>en dy x*en g x+r x)) :
  MoI n (addL X (scL m (nv dx)))∧MoI k (addL Y (scL m (nv dy)))∧Cg p (ev (addL X (scL m (nv dx)))) (en g)∧Cg p (ev (addL Y (scL m (nv dy)))) (en h)∧
   Cg (p*m) (ev f) (fun x=>ev (addL X (scL m (nv dx))) x*ev (addL Y (scL m (nv dy))) x):=by
 have hr0:Cg p r (fun _=>0):=by
  refine(zero_of_deg (by omega) (((((PF.en E).mul hs).neg).sub (hq.mul (PF.en h))).sub (PF.en dy)) hg hr ?_).2
  have h1:Cg p (fun x=>en E x-en dx x*en h x) (fun x=>(-(en E x*s x)-q x*en h x)*en g x):=by
   have a1:=cdx.mul (Cg.refl p (en h)) ((ht.mul (PF.en E)).add (hq.mul (PF.en g))) (PF.en h)
   have a2:=(Cg.refl p (en E)).mul ct (PF.en E) ((PF.const 1).add (hs.mul (PF.en g)))
   have a3:=((Cg.refl p (en E)).sub a1).trans (Cg.refl p _)
   have a4:Cg p (fun x=>en E x-(t x*en E x+q x*en g x)*en h x) (fun x=>(en E x-en E x*(1+s x*en g x))-q x*en g x*en h x):=by
    have:=((Cg.refl p (en E)).sub a2).sub (Cg.refl p (fun x=>q x*en g x*en h x))
    exact this.congr (fun x=>by grind) (fun _=>rfl)
   exact(a3.trans a4).congr (fun _=>rfl) (fun x=>by grind)
  have h2:=(cdy.symm.trans h1).sub (Cg.refl p (fun x=>en dy x*en g x))
  exact h2.congr (fun x=>by grind) (fun x=>by grind)
 have cdy2:Cg p (fun x=>en E x-en dx x*en h x) (fun x=>en dy x*en g x):=by
  refine cdy.trans ?_
  exact((Cg.refl p (fun x=>en dy x*en g x)).add hr0).congr (fun _=>rfl) (fun x=>by simp)
 obtain⟨GX,hGX,eGX⟩:=hX.lead
 obtain⟨GY,hGY,eGY⟩:=hY.lead
 obtain⟨F,hF,eF⟩:=hf.lead
 obtain⟨R,hR,eR⟩:=PD.prod_lead hGX hGY eGX eGY
 have de0:PD (n+k) e0:=PD.div hm (lead_sub hF hR eF eR) he0 ee
 have ldy:dy.length≤k:=by
  by_cases h0:dy=[]
  ·subst h0;simp
  ·have h1:Cg p (fun x=>e0 x-en dx x*en h x) (fun x=>en dy x*en g x):=(cE.symm.sub (Cg.refl p _)).trans cdy2
   have hd:PD (n+k) (fun x=>e0 x-en dx x*en h x):=by
    have h2:=(PD.en dx).mul (PD.en h)
    have:=hh.2.1
    by_cases h3:dx=[]
    ·subst h3
     exact de0.congr (fun x=>by rw[en_nil];simp)
    ·have:0<dx.length:=List.length_pos_iff.2 h3
     exact(de0.sub h2).mono (by omega)
   have:=deg_mul hdy h0 hg hd h1
   omega
 refine⟨hX.add (by rw[len_scL,nv_len];exact ldx),hY.add (by rw[len_scL,nv_len];exact ldy),?_,?_,?_⟩
 ·obtain⟨c,rfl⟩:=hpm
  refine Cg.trans ⟨_,(PF.en dx).smul c,fun x=>?_⟩ cX
  rw[ev_addL,ev_scL];unfold en;grind
 ·obtain⟨c,rfl⟩:=hpm
  refine Cg.trans ⟨_,(PF.en dy).smul c,fun x=>?_⟩ cY
  rw[ev_addL,ev_scL];unfold en;grind
 ·
  have h1:Cg p e0 (fun x=>en dx x*ev Y x+en dy x*ev X x):=by
   have a1:Cg p e0 (fun x=>en dx x*en h x+en dy x*en g x):=by
    have:=(cE.symm.trans (Cg.refl p _)).trans ((cdy2.add (Cg.refl p (fun x=>en dx x*en h x))).congr (f2:=en E) (fun x=>by grind) (fun _=>rfl))
    exact this.congr (fun _=>rfl) (fun x=>by grind)
   refine a1.trans ?_
   exact((Cg.refl p (en dx)).mul cY.symm (PF.en dx) (PF.ev Y)).add ((Cg.refl p (en dy)).mul cX.symm (PF.en dy) (PF.ev X))
  obtain⟨w,hw,ew⟩:=h1
  obtain⟨c,hc⟩:=hpm
  refine⟨fun x=>w x-c*(en dx x*en dy x),hw.sub (((PF.en dx).mul (PF.en dy)).smul c),fun x=>?_⟩
  show ev f x=ev (addL X (scL m (nv dx))) x*ev (addL Y (scL m (nv dy))) x+p*m*(w x-c*(en dx x*en dy x))
  rw[ev_addL,ev_addL,ev_scL,ev_scL]
  have a:=ee x
  have b:=ew x
  have hc2:m*m=p*m*c:=by rw[hc];grind
  unfold en at b ⊢
  grind
theorem unique{p n k:Nat}{g h:List Nat}(hp:1<p)(hg:Mo p n g)(hh:Mo p k h)(hz:Bz p (en g) (en h)){X Y X2 Y2:List Int}
  (hX:MoI n X) (hY:MoI k Y) (hX2:MoI n X2) (hY2:MoI k Y2) (cX:Cg p (ev X) (en g)) (cY:Cg p (ev Y) (en h)) (cX2:Cg p (ev X2) (en g)) (cY2:Cg p (ev Y2) (en h)) :
  ∀j:Nat,Cg ((p:Int)^(j+1)) (fun x=>ev X x*ev Y x) (fun x=>ev X2 x*ev Y2 x)→Cg ((p:Int)^(j+1)) (ev X) (ev X2)∧Cg ((p:Int)^(j+1)) (ev Y) (ev Y2)
 |0,hc=>by
  simp only[Nat.zero_add,Int.pow_one]at hc ⊢
  exact⟨cX.trans cX2.symm,cY.trans cY2.symm⟩
 |j+1,hc=>by
  have hp0:((p:Int)^(j+1))≠0:=by
   intro h0
   have:=Int.pow_pos (n:=(p:Int)) (m:=j+1) (by omega)
   omega
  obtain⟨⟨A,hA,eA⟩,⟨B,hB,eB⟩⟩:=unique hp hg hh hz hX hY hX2 hY2 cX cY cX2 cY2 j (hc.dvd ⟨p,by rw[Int.pow_succ]⟩)
  obtain⟨GX,hGX,eGX⟩:=hX.lead
  obtain⟨GY,hGY,eGY⟩:=hY.lead
  obtain⟨GX2,hGX2,eGX2⟩:=hX2.lead
  obtain⟨GY2,hGY2,eGY2⟩:=hY2.lead
  have dA:PD n A:=PD.div hp0 (lead_sub hGX hGX2 eGX eGX2) hA (fun x=>by have:=eA x;omega)
  have dB:PD k B:=PD.div hp0 (lead_sub hGY hGY2 eGY eGY2) hB (fun x=>by have:=eB x;omega)
  obtain⟨C,hC,eC⟩:=hc
  have h1:Cg p (fun x=>A x*en h x) (fun x=>-(B x)*en g x):=by
   have a1:Cg p (fun x=>A x*ev Y x+B x*ev X2 x) (fun _=>0):=by
    refine⟨C,hC,fun x=>?_⟩
    have a:=eC x
    have b:=eA x
    have c:=eB x
    have:(p:Int)^(j+1)*(A x*ev Y x+B x*ev X2 x)=(p:Int)^(j+1)*(0+p*C x):=by
     rw[Int.pow_succ]at a
     simp only[]at a
     grind
    exact Int.eq_of_mul_eq_mul_left hp0 this
   have a2:=((Cg.refl p A).mul cY.symm hA (PF.ev Y)).add ((Cg.refl p B).mul cX2.symm hB (PF.ev X2))
   have a3:=(a2.trans a1).sub (Cg.refl p (fun x=>B x*en g x))
   exact a3.congr (fun x=>by grind) (fun x=>by grind)
  obtain⟨u,v,hu,hv,euv⟩:=hz
  have h2:Cg p A (fun x=>(A x*u x-v x*B x)*en g x):=by
   have a1:=(Cg.refl p A).mul euv.symm hA ((hu.mul (PF.en g)).add (hv.mul (PF.en h)))
   have a2:=(Cg.refl p (fun x=>A x*u x*en g x)).add ((Cg.refl p v).mul h1 hv (hB.neg.mul (PF.en g)))
   exact(a1.trans (a2.congr (f2:=fun x=>A x*(u x*en g x+v x*en h x)) (fun x=>by grind) (fun _=>rfl))).congr (fun x=>by grind) (fun x=>by grind)
  have hA0:=(zero_of_deg (by omega) ((hA.mul hu).sub (hv.mul hB)) hg dA h2).2
  have h3:Cg p (fun _=>0) (fun x=>-(B x)*en g x):=by
   have:=(hA0.mul (Cg.refl p (en h)) (PF.const 0) (PF.en h)).symm.trans h1
   exact this.congr (fun x=>by simp) (fun _=>rfl)
  have hB0:=(zero_of_deg (by omega) hB.neg hg (PD.zero n) h3).1
  obtain⟨a,ha,ea⟩:=hA0
  obtain⟨b,hb,eb⟩:=hB0
  constructor
  ·exact⟨a,ha,fun x=>by rw[eA,ea,Int.pow_succ];grind⟩
  ·exact⟨fun x=>- b x,hb.neg,fun x=>by have:=eb x;rw[eB,Int.pow_succ];grind⟩
def nearZ(m c:Int):Int:=if m<c%m+c%m then c%m-m else c%m
theorem near_dvd(m c:Int):m∣c-nearZ m c:=by
 have h:=Int.emod_add_mul_ediv c m
 unfold nearZ
 split
 ·exact⟨c/m+1,by grind⟩
 ·exact⟨c/m,by omega⟩
theorem near_congr{m c d:Int}(h:m∣c-d):nearZ m c=nearZ m d:=by
 have:c%m=d%m:=Int.emod_eq_emod_iff_emod_sub_eq_zero.2 (Int.emod_eq_zero_of_dvd h)
 unfold nearZ
 rw[this]
theorem near_of{m n c:Int}(h:m∣n):nearZ m (nearZ n c)=nearZ m c:=near_congr (by
 have:=Int.dvd_neg.2 (Int.dvd_trans h (near_dvd n c))
 rwa [show -(c-nearZ n c)=nearZ n c-c by omega]at this)
theorem near_one{m:Int}(h:2≤m):nearZ m 1=1:=by
 have:(1:Int)%m=1:=Int.emod_eq_of_lt (by omega) (by omega)
 unfold nearZ
 rw[this,if_neg (by omega)]
theorem near_zero{m:Int}(h:2≤m):nearZ m 0=0:=by
 unfold nearZ
 simp;omega
def nearL(m:Int)(X:List Int):List Int:=X.map (nearZ m)
theorem cf_near{m:Int}(h:2≤m)(X:List Int)(n:Nat):cf (nearL m X) n=nearZ m (cf X n):=by
 unfold cf nearL
 rw[List.getElem?_map]
 cases X[n]? with
 |none=>simp[near_zero h]
 |some c=>rfl
theorem nearL_cg{m:Int}(h:2≤m)(X:List Int):Cg m (ev (nearL m X)) (ev X):=Cg.of_coef (fun n=>by
 rw[cf_near h]
 have:=Int.dvd_neg.2 (near_dvd m (cf X n))
 rwa [show -(cf X n-nearZ m (cf X n))=nearZ m (cf X n)-cf X n by omega]at this)
theorem nearL_congr{m:Int}(h:2≤m){X Y:List Int}(hl:X.length=Y.length)(hc:Cg m (ev X) (ev Y)):nearL m X=nearL m Y:=by
 refine List.ext_getElem (by simp[nearL,hl]) (fun n h1 h2=>?_)
 have h3:n<X.length:=by simpa[nearL]using h1
 have h4:n<Y.length:=by omega
 have:=hc.coef n
 unfold cf at this
 rw[List.getElem?_eq_getElem h3,List.getElem?_eq_getElem h4]at this
 simp only[nearL,List.getElem_map]
 exact near_congr (by simpa using this)
theorem nearL_mo{m:Int}(h:2≤m){n:Nat}{X:List Int}(hX:MoI n X):MoI n (nearL m X):=⟨by rw[nearL,List.length_map];exact hX.1,by rw[cf_near h,hX.2,near_one h]⟩
theorem nearL_of{m n:Int}(h:m∣n)(X:List Int):nearL m (nearL n X)=nearL m X:=by
 simp only[nearL,List.map_map]
 exact List.map_congr_left (fun c _=>near_of h)
def prN:List (List Nat)→Int→Int
 |[],_=>1
 |l::r,x=>en l x*prN r x
def prI:List (List Int)→Int→Int
 |[],_=>1
 |l::r,x=>ev l x*prI r x
theorem PF.prN:∀L,PF (Pl.prN L)
 |[]=>PF.const 1
 |l::r=>(PF.en l).mul (PF.prN r)
theorem PF.prI:∀L,PF (Pl.prI L)
 |[]=>PF.const 1
 |l::r=>(PF.ev l).mul (PF.prI r)
def Lft(p j:Nat):List Int→List (List Nat)→List (List Int)→Prop
 |f,[],xs=>xs=[]
 |f,l::r,xs=>if r=[]then ∃n,MoI n f∧Mo p n l∧Cg p (ev f) (en l)∧xs=[nearL ((p:Int)^j) f]else
   ∃n k h X Y xs',Mo p n l∧Mo p k h∧Cg p (en h) (prN r)∧MoI n X∧MoI k Y∧Cg p (ev X) (en l)∧Cg p (ev Y) (en h)∧Bz p (en l) (en h)∧Cg ((p:Int)^j) (ev f) (fun x=>ev X x*ev Y x)∧xs=nearL ((p:Int)^j) X::xs'∧Lft p j Y r xs'
theorem two_le_pow{p j:Nat}(hp:1<p)(hj:0<j):(2:Int)≤(p:Int)^j:=by
 obtain⟨i,rfl⟩:∃i,j=i+1:=⟨j-1,by omega⟩
 rw[Int.pow_succ]
 have h1:(1:Int)≤(p:Int)^i:=by have:=Int.pow_pos (n:=(p:Int)) (m:=i) (by omega);omega
 have:=Int.mul_le_mul h1 (show(2:Int)≤p by omega) (by omega) (by omega)
 omega
theorem p_dvd_pow{p j:Nat}(hj:0<j):(p:Int)∣(p:Int)^j:=by
 obtain⟨i,rfl⟩:∃i,j=i+1:=⟨j-1,by omega⟩
 exact⟨(p:Int)^i,by rw[Int.pow_succ];grind⟩
theorem pow_dvd{p i j:Nat}(h:i≤j):((p:Int)^i)∣(p:Int)^j:=by
 obtain⟨d,rfl⟩:∃d,j=i+d:=⟨j-i,by omega⟩
 exact⟨(p:Int)^d,by rw[Int.pow_add]⟩
theorem Lft.each{p j:Nat}(hp:1<p)(hj:0<j):∀{L:List (List Nat)} {f:List Int} {xs:List (List Int)},Lft p j f L xs→xs.length=L.length∧∀(i:Nat) (l:List Nat) (x:List Int),L[i]?=some l→xs[i]?=some x→∃n,Mo p n l∧MoI n x∧Cg p (ev x) (en l)∧nearL ((p:Int)^j) x=x
 |[],f,xs,h=>by
  have:xs=[]:=h
  subst this
  exact⟨rfl,fun i l x h=>by cases h⟩
 |l::r,f,xs,h=>by
  unfold Lft at h
  split at h
  ·rename_i hr
   subst hr
   obtain⟨n,hf,hl,hc,rfl⟩:=h
   refine⟨rfl,fun i l2 x h1 h2=>?_⟩
   cases i with
   |zero=>
    cases h1;cases h2
    exact⟨n,hl,nearL_mo (two_le_pow hp hj) hf,((nearL_cg (two_le_pow hp hj) f).dvd (p_dvd_pow hj)).trans hc,nearL_of (Int.dvd_refl _) _⟩
   |succ i=>simp at h1
  ·obtain⟨n,k,h0,X,Y,xs',hl,hh,ch,hX,hY,cX,cY,hz,hf,rfl,hr⟩:=h
   obtain⟨e,he⟩:=Lft.each hp hj hr
   refine⟨by simp[e],fun i l2 x h1 h2=>?_⟩
   cases i with
   |zero=>
    cases h1;cases h2
    exact⟨n,hl,nearL_mo (two_le_pow hp hj) hX,((nearL_cg (two_le_pow hp hj) X).dvd (p_dvd_pow hj)).trans cX,nearL_of (Int.dvd_refl _) _⟩
   |succ i=>exact he i l2 x h1 h2
theorem Lft.unique{p i j:Nat}(hp:1<p)(hi:0<i)(hij:i≤j):∀{L:List (List Nat)} {f g:List Int} {xs ys:List (List Int)},Lft p j f L xs→Lft p i g L ys→f.length=g.length→Cg ((p:Int)^i) (ev f) (ev g)→∀(c:Nat) (x y:List Int),xs[c]?=some x→ys[c]?=some y→nearL ((p:Int)^i) x=y
 |[],f,g,xs,ys,h1,h2,hl,hc=>by
  have:xs=[]:=h1
  subst this
  intro c x y h;cases h
 |l::r,f,g,xs,ys,h1,h2,hl,hc=>by
  unfold Lft at h1 h2
  split at h1
  ·rename_i hr
   rw[if_pos hr]at h2
   obtain⟨n,hf,_,_,rfl⟩:=h1
   obtain⟨n2,hg,_,_,rfl⟩:=h2
   intro c x y h3 h4
   cases c with
   |zero=>
    cases h3;cases h4
    rw[nearL_of (pow_dvd hij)]
    exact nearL_congr (two_le_pow hp hi) hl hc
   |succ c=>simp at h3
  ·rename_i hr
   rw[if_neg hr]at h2
   obtain⟨n,k,h0,X,Y,xs',hl1,hh,ch,hX,hY,cX,cY,hz,hf,rfl,hr1⟩:=h1
   obtain⟨n2,k2,h02,X2,Y2,ys',hl2,hh2,ch2,hX2,hY2,cX2,cY2,hz2,hf2,rfl,hr2⟩:=h2
   have e1:n2=n:=by have:=hl1.2.1;have:=hl2.2.1;omega
   subst e1
   have e2:h02=h0:=hh2.1.ext (by omega) hh.1 (ch2.trans ch.symm)
   subst e2
   have e3:k2=k:=by have:=hh.2.1;have:=hh2.2.1;omega
   subst e3
   obtain⟨i',rfl⟩:∃i',i=i'+1:=⟨i-1,by omega⟩
   have hXY:Cg ((p:Int)^(i'+1)) (fun x=>ev X x*ev Y x) (fun x=>ev X2 x*ev Y2 x):=((hf.dvd (pow_dvd hij)).symm.trans hc).trans hf2
   obtain⟨u1,u2⟩:=Pl.unique hp hl1 hh hz hX hY hX2 hY2 cX cY cX2 cY2 i' hXY
   intro c x y h3 h4
   cases c with
   |zero=>
    cases h3;cases h4
    rw[nearL_of (pow_dvd hij)]
    exact nearL_congr (two_le_pow hp hi) (by rw[hX.1,hX2.1]) u1
   |succ c=>exact Lft.unique hp hi hij hr1 hr2 (by rw[hY.1,hY2.1]) u2 c x y h3 h4
theorem Rd.len_le{p N:Nat}{r:List Nat}(hp:0<p)(hr:Rd p r)(h:∀n,N≤n→(p:Int)∣cf (nv r) n):r.length≤N:=by
 by_cases hl:r.length≤N
 ·exact hl
 ·exfalso
  have h1:=h (r.length-1) (by omega)
  rw[cf_nv,List.getElem?_eq_getElem (by omega)]at h1
  simp only[Option.getD_some]at h1
  have h2:=hr.1 _ (List.getElem_mem (by omega:r.length-1<r.length))
  have h3:=hr.2 _ (List.getElem?_eq_getElem (by omega:r.length-1<r.length))
  have:=Nat.le_of_dvd (by omega) (Int.natCast_dvd_natCast.1 h1)
  omega
theorem div_less{p k f:Nat}{a b r:List Nat}(hp:0<p)(hr:Rd p r)(hb:b≠[])(hl:a.length=k+b.length)(hf:(p:Int)∣(a[a.length-1]?.getD 0:Nat)-(f:Int)*(b[b.length-1]?.getD 0:Nat))(h:Cg p (en r) (fun x=>en a x-f*x^k*en b x)):r.length<a.length:=by
 have hb0:0<b.length:=List.length_pos_iff.2 hb
 have e:∀x,ev (addL (nv a) (scL (-(f:Int)) (List.replicate k 0++nv b))) x=en a x-f*x^k*en b x:=fun x=>by
  rw[ev_addL,ev_scL,ev_append,ev_zeros]
  simp only[List.length_replicate]
  unfold en;grind
 have h1:Cg p (ev (nv r)) (ev (addL (nv a) (scL (-(f:Int)) (List.replicate k 0++nv b)))):=h.congr (fun _=>rfl) e
 have key:∀n,a.length-1≤n→(p:Int)∣cf (nv r) n:=by
  intro n hn
  have h2:=h1.coef n
  rw[cf_addL,cf_scL]at h2
  by_cases hn2:n=a.length-1
  ·have e1:cf (List.replicate k 0++nv b) n=(b[b.length-1]?.getD 0:Nat):=by
    unfold cf
    rw[List.getElem?_append_right (by simp;omega)]
    have:=cf_nv b (b.length-1)
    unfold cf at this
    rw[←this,List.length_replicate,show n-k=b.length-1 by omega]
   rw[e1,cf_nv a,hn2]at h2
   rw[hn2]
   have h3:=Int.dvd_add h2 hf
   have e2:∀a b c d:Int,a-(b+-c*d)+(b-c*d)=a:=fun a b c d=>by grind
   rwa [e2]at h3
  ·rw[cf_out (l:=nv a) (by rw[nv_len];omega),cf_out (l:=List.replicate k 0++nv b) (by simp[nv_len];omega)]at h2
   simpa using h2
 have:=Rd.len_le hp hr key
 omega
structure IsDiv(p:Nat)(a:Int→Int)(b q r:List Nat):Prop where
 hq:Rd p q
 hr:Rd p r
 eq:Cg p a (fun x=>en q x*en b x+en r x)
 less:r.length<b.length
structure Euc(p:Nat)(A B:Int→Int)(a b:List Nat):Prop where
 ca:∃u v,PF u∧PF v∧Cg p (en a) (fun x=>u x*A x+v x*B x)
 cb:∃u v,PF u∧PF v∧Cg p (en b) (fun x=>u x*A x+v x*B x)
 da:∃u v,PF u∧PF v∧Cg p A (fun x=>u x*en a x+v x*en b x)
 db:∃u v,PF u∧PF v∧Cg p B (fun x=>u x*en a x+v x*en b x)
theorem Euc.start(p:Nat)(a b:List Nat):Euc p (en a) (en b) a b:=
 ⟨⟨fun _=>1,fun _=>0,PF.const 1,PF.const 0,Cg.of_eq (fun x=>by simp)⟩,⟨fun _=>0,fun _=>1,PF.const 0,PF.const 1,Cg.of_eq (fun x=>by simp)⟩,⟨fun _=>1,fun _=>0,PF.const 1,PF.const 0,Cg.of_eq (fun x=>by simp)⟩,⟨fun _=>0,fun _=>1,PF.const 0,PF.const 1,Cg.of_eq (fun x=>by simp)⟩⟩
theorem Euc.step{p:Nat}{A B:Int→Int}{a b q r:List Nat}(hA:PF A)(hB:PF B)(h:Euc p A B a b)(hd:IsDiv p (en a) b q r):Euc p A B b r:=by
 obtain⟨u1,v1,hu1,hv1,e1⟩:=h.ca
 obtain⟨u2,v2,hu2,hv2,e2⟩:=h.cb
 obtain⟨u3,v3,hu3,hv3,e3⟩:=h.da
 obtain⟨u4,v4,hu4,hv4,e4⟩:=h.db
 have er:Cg p (en r) (fun x=>en a x-en q x*en b x):=by
  have:=hd.eq.symm.sub (Cg.refl p (fun x=>en q x*en b x))
  exact this.congr (fun x=>by grind) (fun _=>rfl)
 refine⟨⟨u2,v2,hu2,hv2,e2⟩,⟨fun x=>u1 x-en q x*u2 x,fun x=>v1 x-en q x*v2 x,hu1.sub ((PF.en q).mul hu2),hv1.sub ((PF.en q).mul hv2),?_⟩,⟨fun x=>u3 x*en q x+v3 x,u3,(hu3.mul (PF.en q)).add hv3,hu3,?_⟩,⟨fun x=>u4 x*en q x+v4 x,u4,(hu4.mul (PF.en q)).add hv4,hu4,?_⟩⟩
 ·have:=er.trans (e1.sub ((Cg.refl p (en q)).mul e2 (PF.en q) ((hu2.mul hA).add (hv2.mul hB))))
  exact this.congr (fun _=>rfl) (fun x=>by grind)
 ·have:=e3.trans (((Cg.refl p u3).mul hd.eq hu3 (((PF.en q).mul (PF.en b)).add (PF.en r))).add (Cg.refl p (fun x=>v3 x*en b x)))
  exact this.congr (fun _=>rfl) (fun x=>by grind)
 ·have:=e4.trans (((Cg.refl p u4).mul hd.eq hu4 (((PF.en q).mul (PF.en b)).add (PF.en r))).add (Cg.refl p (fun x=>v4 x*en b x)))
  exact this.congr (fun _=>rfl) (fun x=>by grind)
theorem Euc.done_nil{p:Nat}{A B:Int→Int}(h:Euc p A B [] []):IsGcd p A B []:=by
 obtain⟨u3,v3,hu3,hv3,e3⟩:=h.da
 obtain⟨u4,v4,hu4,hv4,e4⟩:=h.db
 refine⟨Or.inl rfl,⟨fun _=>0,fun _=>0,PF.const 0,PF.const 0,Cg.of_eq (fun x=>by rw[en_nil];simp)⟩,⟨u3,hu3,e3.congr (fun _=>rfl) (fun x=>by rw[en_nil];simp)⟩,⟨u4,hu4,e4.congr (fun _=>rfl) (fun x=>by rw[en_nil];simp)⟩⟩
theorem Euc.done{p n:Nat}{c d:Int}{A B:Int→Int}{a g:List Nat}(h:Euc p A B a [])(hg:Mo p n g)(hc:Cg p (en g) (fun x=>c*en a x))(hd:(p:Int)∣d*c-1):IsGcd p A B g:=by
 obtain⟨u1,v1,hu1,hv1,e1⟩:=h.ca
 obtain⟨u3,v3,hu3,hv3,e3⟩:=h.da
 obtain⟨u4,v4,hu4,hv4,e4⟩:=h.db
 have ea:Cg p (en a) (fun x=>d*en g x):=by
  obtain⟨t,ht⟩:=hd
  have h1:=hc.smul d
  have h2:Cg p (fun x=>d*(c*en a x)) (en a):=⟨fun x=>t*en a x,(PF.en a).smul t,fun x=>by grind⟩
  exact(h1.trans h2).symm
 refine⟨Or.inr ⟨n,hg⟩,⟨fun x=>c*u1 x,fun x=>c*v1 x,hu1.smul c,hv1.smul c,?_⟩,⟨fun x=>u3 x*d,(hu3.smul d).congr (fun x=>by grind),?_⟩,⟨fun x=>u4 x*d,(hu4.smul d).congr (fun x=>by grind),?_⟩⟩
 ·exact(hc.trans (e1.smul c)).congr (fun _=>rfl) (fun x=>by grind)
 ·have:=e3.trans (((Cg.refl p u3).mul ea hu3 ((PF.en g).smul d)).add (Cg.refl p (fun x=>v3 x*en [] x)))
  exact this.congr (fun _=>rfl) (fun x=>by rw[en_nil];grind)
 ·have:=e4.trans (((Cg.refl p u4).mul ea hu4 ((PF.en g).smul d)).add (Cg.refl p (fun x=>v4 x*en [] x)))
  exact this.congr (fun _=>rfl) (fun x=>by rw[en_nil];grind)
theorem deg_mulP{p N:Nat}{s g:List Nat}{f:Int→Int}(hp:IsP p)(hs:Rd p s)(hs0:s≠[])(hg:Rd p g)(hg0:g≠[])(hf:PD N f)(h:Cg p f (fun x=>en s x*en g x)):s.length+g.length-1≤N:=by
 obtain⟨l,hl,ef⟩:=hf
 obtain⟨q,c,rfl⟩:∃q c,s=q++[c]:=⟨s.dropLast,s.getLast hs0,(List.dropLast_concat_getLast hs0).symm⟩
 obtain⟨r,d,rfl⟩:∃r d,g=r++[d]:=⟨g.dropLast,g.getLast hg0,(List.dropLast_concat_getLast hg0).symm⟩
 have hc:c≠0:=hs.2 c (by simp)
 have hcp:c<p:=hs.1 c (by simp)
 have hd:d≠0:=hg.2 d (by simp)
 have hdp:d<p:=hg.1 d (by simp)
 have hlow:PD (q.length+r.length) (fun x=>(en q x*en r x+d*(en q x*x^r.length))+c*(en r x*x^q.length)):=by
  refine PD.mono ((((PD.en q).mul (PD.en r)).add (((PD.en q).shift r.length).smul d)).add (((PD.en r).shift q.length).smul c)) (by omega)
 have h1:Cg p (ev l) (fun x=>((en q x*en r x+d*(en q x*x^r.length))+c*(en r x*x^q.length))+((c*d:Nat):Int)*x^(q.length+r.length)):=
  h.congr (fun x=>(ef x).symm) (fun x=>by rw[en_snoc,en_snoc,Int.pow_add,Int.natCast_mul];grind)
 have h2:=(Cg.top hlow h1).1
 by_cases hlen:q.length+r.length<l.length
 ·simp;omega
 ·exfalso
  rw[cf_out (by omega)]at h2
  have h3:p∣c*d:=Int.natCast_dvd_natCast.1 (by
   have:=Int.dvd_neg.2 h2
   rwa [show -(0-((c*d:Nat):Int))=((c*d:Nat):Int)by omega]at this)
  rcases hp.dvd_mul h3 with h4|h4
  ·have:=Nat.le_of_dvd (by omega) h4;omega
  ·have:=Nat.le_of_dvd (by omega) h4;omega
theorem Euc.const{p:Nat}{A B:Int→Int}{a:List Nat}(hp:IsP p)(hA:PF A)(hB:PF B)(ha:Rd p a)(h:Euc p A B a [])(hz:Bz p A B):a.length=1:=by
 have hp1:=hp.1
 obtain⟨u,v,hu,hv,e⟩:=hz
 obtain⟨u3,v3,hu3,hv3,e3⟩:=h.da
 obtain⟨u4,v4,hu4,hv4,e4⟩:=h.db
 have e3':Cg p A (fun x=>u3 x*en a x):=e3.congr (fun _=>rfl) (fun x=>by rw[en_nil];simp)
 have e4':Cg p B (fun x=>u4 x*en a x):=e4.congr (fun _=>rfl) (fun x=>by rw[en_nil];simp)
 have h1:Cg p (fun _=>1) (fun x=>(u x*u3 x+v x*u4 x)*en a x):=by
  refine e.symm.trans ?_
  have:=(Cg.mul (Cg.refl p u) e3' hu (hu3.mul (PF.en a))).add (Cg.mul (Cg.refl p v) e4' hv (hu4.mul (PF.en a)))
  exact this.congr (fun _=>rfl) (fun x=>by grind)
 obtain⟨l,hl,el⟩:=((hu.mul hu3).add (hv.mul hu4)).red (p:=p) (by omega)
 have h2:Cg p (fun _=>1) (fun x=>en l x*en a x):=h1.trans (el.symm.mul (Cg.refl _ _) (PF.en l) (PF.en a))
 by_cases h0:l=[]
 ·subst h0
  exact absurd (h2.congr (fun _=>rfl) (fun x=>by rw[en_nil];simp)) (fun h=>one_not_zero (f:=fun _=>0) (by omega) h)
 ·by_cases h3:a=[]
  ·subst h3
   exact absurd (h2.congr (fun _=>rfl) (fun x=>by rw[en_nil];simp)) (fun h=>one_not_zero (f:=fun _=>0) (by omega) h)
  ·have:=deg_mulP hp hl h0 ha h3 (PD.const 1) h2
   have:0<l.length:=List.length_pos_iff.2 h0
   have:0<a.length:=List.length_pos_iff.2 h3
   omega
def Cop(p:Nat)(L:List (List Nat)):Prop:=∀(i:Nat) (l:List Nat),L[i]?=some l→Bz p (en l) (prN (L.take i))
theorem prN_part(L:List (List Nat)){i:Nat}{l:List Nat}(h:L[i]?=some l):∃R,PF R∧∀x,prN L x=en l x*R x:=by
 induction L generalizing i with
 |nil=>cases h
 |cons a L ih=>
  cases i with
  |zero=>cases h;exact⟨prN L,PF.prN L,fun x=>rfl⟩
  |succ i=>
   obtain⟨R,hR,e⟩:=ih h
   exact⟨fun x=>en a x*R x,(PF.en a).mul hR,fun x=>by simp only[prN,e];grind⟩
theorem Cop.pair{p:Nat}{L:List (List Nat)}(h:Cop p L){i j:Nat}{l m:List Nat}(hij:i<j)(hi:L[i]?=some l)(hj:L[j]?=some m):Bz p (en l) (en m):=by
 obtain⟨R,hR,e⟩:=prN_part (L.take j) (i:=i) (l:=l) (by rw[List.getElem?_take,if_pos hij];exact hi)
 have h1:=h j m hj
 obtain⟨u,v,hu,hv,ee⟩:=h1
 exact(Bz.of_mul hR ⟨u,v,hu,hv,ee.congr (fun x=>by simp only[];rw[e]) (fun _=>rfl)⟩).symm
theorem bz_prod{p:Nat}{f:Int→Int}(hf:PF f):∀(L:List (List Nat)),(∀m∈L,Bz p f (en m))→Bz p f (prN L)
 |[],_=>Bz.one (Cg.refl _ _)
 |l::r,h=>Bz.mul hf (PF.en l) (PF.prN r) (h l List.mem_cons_self) (bz_prod hf r (fun m hm=>h m (List.mem_cons_of_mem _ hm)))
theorem Cop.rest{p:Nat}{L:List (List Nat)}(h:Cop p L){i:Nat}{l:List Nat}(hi:L[i]?=some l):Bz p (en l) (prN (L.drop (i+1))):=
 bz_prod (PF.en l) _ (fun m hm=>by
  obtain⟨j,hj⟩:=List.mem_iff_getElem?.1 hm
  rw[List.getElem?_drop]at hj
  exact h.pair (by omega) hi hj)
theorem nv_set{l:List Nat}{n v:Nat}:nv (l.set n v)=(nv l).set n (v:Int):=by simp[nv,List.map_set]
theorem en_set{l:List Nat}{n v:Nat}(h:n<l.length)(x:Int):en (l.set n v) x=en l x+((v:Int)-((l[n]?.getD 0:Nat):Int))*x^n:=by
 unfold en
 rw[nv_set,ev_set _ _ _ _ (by rw[nv_len];exact h)]
 have:=cf_nv l n
 unfold cf at this
 rw[this]
theorem set_cg{p n v t:Nat}{o:List Nat}{f:Int→Int}(hn:n<o.length)(h:Cg p (en o) f)(hv:(p:Int)∣(v:Int)-(((o[n]?.getD 0:Nat):Int)+(t:Int))):Cg p (en (o.set n v)) (fun x=>f x+t*x^n):=by
 obtain⟨g,hg,e⟩:=h
 obtain⟨s,hs⟩:=hv
 refine⟨fun x=>g x+s*x^n,hg.add ((PF.pow n).smul s),fun x=>?_⟩
 rw[en_set hn,e]
 have:(v:Int)-((o[n]?.getD 0:Nat):Int)=t+p*s:=by omega
 rw[this]
 grind
theorem mod_dvd(p n:Nat):(p:Int)∣((n%p:Nat):Int)-(n:Int):=by
 refine⟨-((n/p:Nat):Int),?_⟩
 have hdm:=Nat.div_add_mod n p
 have:((p*(n/p)+n%p:Nat):Int)=(n:Int):=by rw[hdm]
 rw[Int.natCast_add,Int.natCast_mul]at this
 rw[Int.mul_neg];omega
def tm(p:Nat)(l:List Nat):List Nat:=trimL (l.map (·%p))
theorem tm_rd{p:Nat}(hp:0<p)(l:List Nat):Rd p (tm p l):=Rd.trim (fun d hd=>by
 simp only[List.mem_map]at hd
 obtain⟨c,_,rfl⟩:=hd
 exact Nat.mod_lt _ hp)
theorem tm_cg(p:Nat)(l:List Nat):Cg p (en (tm p l)) (en l):=by
 have e:∀x,en (tm p l) x=en (l.map (·%p)) x:=en_trim _
 refine Cg.congr ?_ e (fun _=>rfl)
 refine Cg.of_coef (fun n=>?_)
 rw[cf_nv,cf_nv,List.getElem?_map]
 cases h:l[n]? with
 |none=>simp
 |some d=>simpa using mod_dvd p d
theorem tm_len(p:Nat)(l:List Nat):(tm p l).length≤l.length:=by
 have:∀m:List Nat,(trimL m).length≤m.length:=fun m=>by
  induction m using snoc_ind with
  |h0=>exact Nat.le_refl _
  |h l x ih=>rw[trimL_snoc];split<;>simp<;>omega
 exact Nat.le_trans (this _) (by simp)
theorem tm_self{p:Nat}{l:List Nat}(h:Rd p l):tm p l=l:=by
 unfold tm
 have:l.map (·%p)=l:=by
  conv=>rhs;rw[←List.map_id l]
  exact List.map_congr_left (fun d hd=>Nat.mod_eq_of_lt (h.1 d hd))
 rw[this]
 exact trim_self h.2
def subN(p:Nat)(a b:List Nat)(i:Nat):Nat:=a[i]?.getD 0+p-b[i]?.getD 0
theorem getD_lt{p:Nat}{l:List Nat}(hp:0<p)(h:∀d∈l,d<p)(i:Nat):l[i]?.getD 0<p:=by
 cases e:l[i]? with
 |none=>exact hp
 |some d=>exact h d (List.mem_of_getElem? e)
theorem subN_cg{p:Nat}{a b:List Nat}(hp:0<p)(ha:∀d∈a,d<p)(hb:∀d∈b,d<p):Cg p (en ((List.range (max a.length b.length)).map (subN p a b))) (fun x=>en a x-en b x):=by
 have e:∀x,ev (addL (nv a) (scL (-1) (nv b))) x=en a x-en b x:=fun x=>by
  rw[ev_addL,ev_scL];unfold en;omega
 refine Cg.congr (Cg.of_coef (fun n=>?_)) (fun _=>rfl) (fun x=>(e x).symm)
 rw[cf_addL,cf_scL,cf_nv,cf_nv,cf_nv,List.getElem?_map]
 have h1:=getD_lt hp ha n
 have h2:=getD_lt hp hb n
 by_cases hn:n<max a.length b.length
 ·rw[List.getElem?_range hn]
  simp only[Option.map_some,Option.getD_some,subN]
  refine⟨1,?_⟩
  omega
 ·rw[List.getElem?_eq_none (by simp;omega),List.getElem?_eq_none (l:=a) (by omega),List.getElem?_eq_none (l:=b) (by omega)]
  simp
theorem monic_mo{p c:Nat}{a g:List Nat}(hp:1<p)(ha:Rd p a)(ha0:a≠[])(hg:Rd p g)(hc:(p:Int)∣(c:Int)*((a[a.length-1]?.getD 0:Nat):Int)-1)(h:Cg p (en g) (fun x=>c*en a x)):Mo p (a.length-1) g:=by
 have hl:0<a.length:=List.length_pos_iff.2 ha0
 have h1:Cg p (ev (nv g)) (ev (scL c (nv a))):=h.congr (fun _=>rfl) (fun x=>by rw[ev_scL];rfl)
 have h2:=fun n=>h1.coef n
 have hle:g.length≤a.length:=Rd.len_le (by omega) hg (fun n hn=>by
  have:=h2 n
  rw[cf_scL,cf_out (l:=nv a) (by rw[nv_len];omega)]at this
  simpa using this)
 have h3:=h2 (a.length-1)
 rw[cf_scL,cf_nv,cf_nv]at h3
 have h4:(p:Int)∣((g[a.length-1]?.getD 0:Nat):Int)-((1:Nat):Int):=by
  have:=Int.dvd_add h3 hc
  have e:∀u v:Int,u-v+(v-1)=u-1:=fun u v=>by omega
  rw[e]at this
  simpa using this
 have h5:=small_dvd (hg.getD_lt (by omega) _) hp h4
 have h6:g[a.length-1]?=some 1:=by
  cases e:g[a.length-1]? with
  |none=>rw[e]at h5;simp at h5
  |some d=>rw[e]at h5;simp at h5;rw[h5]
 have h7:a.length-1<g.length:=(List.getElem?_eq_some_iff.1 h6).1
 exact⟨hg,by omega,h6⟩
theorem Rd.lead{p:Nat}{b:List Nat}(h:Rd p b)(h0:b≠[]):¬p∣b[b.length-1]?.getD 0:=by
 have hl:0<b.length:=List.length_pos_iff.2 h0
 rw[List.getElem?_eq_getElem (by omega)]
 simp only[Option.getD_some]
 intro hd
 have h1:=h.1 _ (List.getElem_mem (by omega:b.length-1<b.length))
 have h2:=h.2 _ (List.getElem?_eq_getElem (by omega:b.length-1<b.length))
 have:=Nat.le_of_dvd (by omega) hd
 omega
theorem quo_dvd{p r b c:Nat}(h:(p:Int)∣(c:Int)*(b:Int)-1):(p:Int)∣(r:Int)-(((r*c%p:Nat):Int))*(b:Int):=by
 obtain⟨s,hs⟩:=h
 obtain⟨t,ht⟩:=mod_dvd p (r*c)
 refine⟨-((r:Int)*s)-t*b,?_⟩
 rw[Int.natCast_mul]at ht
 have e:((r*c%p:Nat):Int)=(r:Int)*c+p*t:=by omega
 rw[e]
 grind
theorem div_step{p k f:Nat}{A:Int→Int}{b q r r':List Nat}(hk:k<q.length)(hz:q[k]?.getD 0=0)(hr:Cg p (en r') (fun x=>en r x-f*x^k*en b x))(h:Cg p A (fun x=>en q x*en b x+en r x)) :
  Cg p A (fun x=>en (q.set k f) x*en b x+en r' x):=by
 refine h.trans ?_
 have:=(Cg.refl p (fun x=>en (q.set k f) x*en b x)).add hr
 refine Cg.symm (this.congr (fun x=>rfl) (fun x=>?_))
 rw[en_set hk,hz]
 simp only[Int.ofNat_zero,Int.sub_zero,Int.natCast_zero]
 grind
theorem en_shift(k:Nat)(m:List Nat)(x:Int):en (List.replicate k 0++m) x=x^k*en m x:=by
 unfold en
 have:nv (List.replicate k 0++m)=List.replicate k 0++nv m:=by simp[nv]
 rw[this,ev_append,ev_zeros]
 simp
theorem en_single(f:Nat)(x:Int):en [f] x=f:=by simp[en,nv]
theorem en_take_succ(b:List Nat)(k:Nat)(x:Int):en (b.take (k+1)) x=en (b.take k) x+((b[k]?.getD 0:Nat):Int)*x^k:=by
 rw[List.take_add_one]
 cases h:b[k]? with
 |none=>simp
 |some d=>
  have:k<b.length:=(List.getElem?_eq_some_iff.1 h).1
  simp only[Option.toList_some,Option.getD_some]
  rw[en_snoc,List.length_take,Nat.min_eq_left (by omega)]
theorem mul_step{p i k v x0 y0:Nat}{a b o:List Nat}(hn:i+k<o.length)(ha:a[i]?=some x0)(hb:b[k]?=some y0)(h:Cg p (en o) (fun x=>en (a.take i) x*en b x+x0*x^i*en (b.take k) x))(hv:(p:Int)∣(v:Int)-(((o[i+k]?.getD 0:Nat):Int)+((x0*y0:Nat):Int))) :
  Cg p (en (o.set (i+k) v)) (fun x=>en (a.take i) x*en b x+x0*x^i*en (b.take (k+1)) x):=by
 refine(set_cg hn h hv).congr (fun _=>rfl) (fun x=>?_)
 rw[en_take_succ,hb,Int.pow_add,Int.natCast_mul]
 simp only[Option.getD_some]
 grind
theorem mul_next{p i x0:Nat}{a b o:List Nat}(ha:a[i]?=some x0)(h:Cg p (en o) (fun x=>en (a.take i) x*en b x+x0*x^i*en (b.take b.length) x)):Cg p (en o) (fun x=>en (a.take (i+1)) x*en b x+0):=by
 refine h.congr (fun _=>rfl) (fun x=>?_)
 rw[en_take_succ,ha,List.take_length]
 simp only[Option.getD_some]
 grind
end Go.Proofs.Pl
