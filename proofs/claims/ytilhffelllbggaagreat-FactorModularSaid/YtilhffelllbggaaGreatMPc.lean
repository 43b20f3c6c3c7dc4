/-
  Powers, the test for irreducible polynomials, probes, derivatives, squarefree parts.
-/
import Derived.Test.YtilhffelllbggaaGreatMKd
import Derived.Test.YtilhffelllbggaaGreatMLa
import Derived.Test.YtilhffelllbggaaGreatMPa
import Derived.Test.YtilhffelllbggaaGreatMLb
import Derived.Test.YtilhffelllbggaaGreatMPb
set_option linter.unusedVariables false
set_option linter.unusedSimpArgs false
set_option maxRecDepth 10000
namespace Go.Proofs
open Go.Sh
open Pl (IsP Rd Cg en tm Mo PF IsDiv el Fx PwI Irr)
theorem rpw_loop{p:Nat}{f:List Nat}{cf:VC}{A:Fx p}{N:Nat}(hp:IsP p)(hp2:p≤2147483647)(hf:Rd p f)(hf0:f≠[])(hlf:f.length<1000):∀(n:Nat) (o b:List Nat) (co cb:VC) (S:Zt) (e:En) (k:X→En→Zt→Prop),
  n<18446744073709551616→Rd p o→Rd p b→o.length<f.length→b.length<f.length→PwI (el f) A N (el o) (el b) n→
  e 2=.vsl (u64s f) cf→e 3=.int .u64 (p:Int)→e 9=.vsl (u64s o) co→e 10=.vsl (u64s b) cb→e 11=.int .u64 (n:Int)→
  (∀(r:List Nat) (c':VC) (e':En),Rd p r→r.length<f.length→((el f:Fx p)∣el r-A^N)→e' 9=.vsl (u64s r) c'→k (.exit 0) e' S)→
  DenP cT 43 (.loop L69_0) e S k:=by
 intro n
 induction n using Nat.strongRecOn with
 |ind n ih=>
  intro o b co cb S e k hn ho hb hlo hlb hI h2 h3 h9 h10 h11 hk
  refine L69_0_ok ?_
  unfold TL69_0
  simp only[h2,h3,h9,h10,h11,b_gtr,ws]
  by_cases h0:n=0
  ·subst h0
   rw[decide_eq_false (by simp),cf_]
   exact hk o co _ ho hlo hI.done h9
  ·rw[decide_eq_true (by omega),condP_t]
   refine wo (b_remN (p:=2) (by omega)) ?_
   simp only[b_eql,ws]
   by_cases h1:n%2=1
   ·rw[decide_eq_true (by omega),condP_t]
    refine cpu rfl rfl (r_mul (by omega) (by have:=hp.1;omega) hp2 ho.1 hb.1 fun w cw hw hlw ew=>?_)
    refine cpu rfl rfl (r_rem (by omega) (by omega) hp hp2 hf hf0 fun q1 r1 c1 hd1=>?_)
    refine cpu rfl rfl (r_mul (by omega) (by have:=hp.1;omega) hp2 hb.1 hb.1 fun w2 cw2 hw2 hlw2 ew2=>?_)
    refine cpu rfl rfl (r_rem (by omega) (by omega) hp hp2 hf hf0 fun q2 r2 c2 hd2=>?_)
    refine wo (b_quoN (p:=2) (by omega) hn) ?_
    exact ih (n/2) (by omega) r1 r2 c1 c2 S _ k (by omega) hd1.hr hd2.hr hd1.less hd2.less
     (hI.odd h1 (by rw[←Pl.el_mulN ew];exact Pl.cg_rem hd1) (by rw[←Pl.el_mulN ew2];exact Pl.cg_rem hd2)) h2 h3 rfl rfl rfl hk
   ·rw[decide_eq_false (by omega),cf_]
    refine cpu rfl rfl (r_mul (by omega) (by have:=hp.1;omega) hp2 hb.1 hb.1 fun w2 cw2 hw2 hlw2 ew2=>?_)
    refine cpu rfl rfl (r_rem (by omega) (by omega) hp hp2 hf hf0 fun q2 r2 c2 hd2=>?_)
    refine wo (b_quoN (p:=2) (by omega) hn) ?_
    exact ih (n/2) (by omega) o r2 co c2 S _ k (by omega) ho hd2.hr hlo hd2.less
     (hI.even (by omega) (by rw[←Pl.el_mulN ew2];exact Pl.cg_rem hd2)) h2 h3 h9 rfl rfl hk
theorem r_ppow{p n:Nat}{a f:List Nat}{ca cf:VC}{Q:SV→Prop}(hp:IsP p)(hp2:p≤2147483647)(hf:Rd p f)(hf0:f≠[])(hlf:f.length<1000)(hla:a.length<1000)(hn:n<18446744073709551616)
  (h:∀(r:List Nat) (c':VC),Rd p r→r.length<f.length→((el f:Fx p)∣el r-el a^n)→Q (.vsl (u64s r) c')):wpO (pW cT 69 [.vsl (u64s a) ca,.int .u64 (n:Int),.vsl (u64s f) cf,.int .u64 (p:Int)]) Q:=by
 refine po rfl (F69_ok (k:=fun v S=>wpO (frz S dS v) Q) ?_)
 unfold F69
 refine Own.bsl1 (j:=y25) (x:=.int .u64 1) (by decide) rfl rfl (by decide) (fun v S hO hK hl=>?_)
 obtain⟨c,hc,hf1⟩:=fz_own hO.own (u64s_pure (l:=[1]))
 refine call_fz3 rfl hf1 (fz_pure rfl) (fz_pure rfl) (fun S1 hK1=>?_)
 refine r_rem (a:=[1]) (by decide) (by omega) hp hp2 hf hf0 fun q1 r1 c1 hd1=>?_
 refine cpu rfl rfl (r_rem (by omega) (by omega) hp hp2 hf hf0 fun q2 r2 c2 hd2=>?_)
 refine rpw_loop (A:=el a) (N:=n) hp hp2 hf hf0 hlf n r1 r2 c1 c2 _ _ _ hn hd1.hr hd2.hr hd1.less hd2.less (PwI.start (by rw[←Pl.el_one];exact Pl.cg_rem hd1) (Pl.cg_rem hd2)) rfl rfl rfl rfl rfl (fun r c' e' h1 h2 h3 h9=>?_)
 refine K69_0e0_ok ?_
 unfold TK69_0e0
 rw[h9]
 refine wo (frz_pure rfl).1 ?_
 exact h r c' h1 h2 h3
def topc(a b:List Nat):Nat→Int
 |0=>0
 |n+1=>if a[n]?.getD 0=b[n]?.getD 0 then topc a b n else if a[n]?.getD 0<b[n]?.getD 0 then -1 else 1
def cmpL(a b:List Nat):Int:=if a.length=b.length then topc a b a.length else(a.length:Int)-(b.length:Int)
theorem less_loop:∀(n:Nat) (a b:List Nat) (ca cb:VC) (S:Zt) (e:En) (k:X→En→Zt→Prop),n≤a.length→a.length=b.length→a.length<1000000→
  e 0=.vsl (u64s a) ca→e 1=.vsl (u64s b) cb→e 5=.int .i64 ((n:Int)-1)→
  (topc a b n=0→∀e':En,k (.exit 0) e' S)→(topc a b n≠0→∀e':En,e' 4=.bool (decide (topc a b n<0))→k .ret e' S)→DenP cT 41 (.loop L14_0) e S k:=by
 intro n
 induction n with
 |zero=>
  intro a b ca cb S e k hn hl hs h0 h1 h5 hk hk2
  refine L14_0_ok ?_
  unfold TL14_0
  simp only[h5,b_geq,ws]
  rw[decide_eq_false (by simp),cf_]
  exact hk rfl _
 |succ n ih=>
  intro a b ca cb S e k hn hl hs h0 h1 h5 hk hk2
  obtain⟨x,hx⟩:∃x,a[n]?=some x:=⟨_,List.getElem?_eq_getElem (by omega)⟩
  obtain⟨y,hy⟩:∃y,b[n]?=some y:=⟨_,List.getElem?_eq_getElem (by omega)⟩
  have e5:((n+1:Nat):Int)-1=(n:Int):=by omega
  rw[e5]at h5
  refine L14_0_ok ?_
  unfold TL14_0
  simp only[h0,h1,h5,b_geq,b_neq,b_lss,b_sub,ws,idx22 hx,idx22 hy,ld25]
  rw[decide_eq_true (by omega),condP_t]
  have et:topc a b (n+1)=if x=y then topc a b n else if x<y then -1 else 1:=by simp only[topc,hx,hy,Option.getD_some]
  by_cases hxy:x=y
  ·rw[decide_eq_false (by omega),cf_]
   rw[et,if_pos hxy]at hk hk2
   rw[wrap64 (by omega) (by omega)]
   exact ih a b ca cb S _ k (by omega) hl hs h0 h1 rfl hk hk2
  ·rw[decide_eq_true (by omega),condP_t]
   rw[et,if_neg hxy]at hk2
   refine hk2 (by split<;>omega) _ ?_
   have:decide ((x:Int)<(y:Int))=decide ((if x<y then(-1:Int)else 1)<0):=by
    by_cases h:x<y
    ·rw[if_pos h,decide_eq_true (by omega),decide_eq_true (by omega)]
    ·rw[if_neg h,decide_eq_false (by omega),decide_eq_false (by omega)]
   rw[←this];rfl
theorem r_less{a b:List Nat}{ca cb:VC}{Q:SV→Prop}(hla:a.length<1000000)(hlb:b.length<1000000)(h:Q (.bool (decide (cmpL a b<0)))):wpO (pW cT 14 [.vsl (u64s a) ca,.vsl (u64s b) cb]) Q:=by
 refine po rfl (F14_ok (k:=fun v S=>wpO (frz S dS v) Q) ?_)
 unfold F14
 simp only[len22,b_neq,b_lss,b_sub,ws]
 by_cases hl:a.length=b.length
 ·rw[decide_eq_false (by omega),cf_,wrap64 (by omega) (by omega)]
  rw[cmpL,if_pos hl]at h
  refine less_loop a.length a b ca cb _ _ _ (Nat.le_refl _) hl hla rfl rfl rfl (fun h0 e'=>?_) (fun h0 e' h4=>?_)
  ·refine K14_0e0_ok ?_
   unfold TK14_0e0
   rw[h0]at h
   exact h
  ·refine K14_0r_ok ?_
   unfold TK14_0r
   rw[h4]
   exact h
 ·rw[decide_eq_true (by omega),condP_t]
  rw[cmpL,if_neg hl]at h
  have:decide ((a.length:Int)<(b.length:Int))=decide ((a.length:Int)-(b.length:Int)<0):=by
   by_cases h:a.length<b.length
   ·rw[decide_eq_true (by omega),decide_eq_true (by omega)]
   ·rw[decide_eq_false (by omega),decide_eq_false (by omega)]
  rw[this]
  exact h
theorem cmp_loop:∀(n:Nat) (a b:List Nat) (ca cb:VC) (S:Zt) (e:En) (k:X→En→Zt→Prop),n≤a.length→a.length=b.length→a.length<1000000→
  e 0=.vsl (u64s a) ca→e 1=.vsl (u64s b) cb→e 5=.int .i64 ((n:Int)-1)→
  (topc a b n=0→∀e':En,k (.exit 0) e' S)→(topc a b n≠0→∀e':En,e' 4=.int .i64 (topc a b n)→k .ret e' S)→DenP cT 41 (.loop L67_0) e S k:=by
 intro n
 induction n with
 |zero=>
  intro a b ca cb S e k hn hl hs h0 h1 h5 hk hk2
  refine L67_0_ok ?_
  unfold TL67_0
  simp only[h5,b_geq,ws]
  rw[decide_eq_false (by simp),cf_]
  exact hk rfl _
 |succ n ih=>
  intro a b ca cb S e k hn hl hs h0 h1 h5 hk hk2
  obtain⟨x,hx⟩:∃x,a[n]?=some x:=⟨_,List.getElem?_eq_getElem (by omega)⟩
  obtain⟨y,hy⟩:∃y,b[n]?=some y:=⟨_,List.getElem?_eq_getElem (by omega)⟩
  have e5:((n+1:Nat):Int)-1=(n:Int):=by omega
  rw[e5]at h5
  refine L67_0_ok ?_
  unfold TL67_0
  simp only[h0,h1,h5,b_geq,b_neq,b_lss,b_sub,ws,idx100 hx,idx100 hy,ld25]
  rw[decide_eq_true (by omega),condP_t]
  have et:topc a b (n+1)=if x=y then topc a b n else if x<y then -1 else 1:=by simp only[topc,hx,hy,Option.getD_some]
  by_cases hxy:x=y
  ·rw[decide_eq_false (by omega),cf_]
   rw[et,if_pos hxy]at hk hk2
   rw[wrap64 (by omega) (by omega)]
   exact ih a b ca cb S _ k (by omega) hl hs h0 h1 rfl hk hk2
  ·rw[decide_eq_true (by omega),condP_t]
   rw[et,if_neg hxy]at hk2
   by_cases h:x<y
   ·rw[if_pos h]at hk2
    rw[decide_eq_true (by omega),condP_t]
    exact hk2 (by omega) _ rfl
   ·rw[if_neg h]at hk2
    rw[decide_eq_false (by omega),cf_]
    exact hk2 (by omega) _ rfl
theorem f_cmp{a b:List Nat}{ca cb:VC}{Q:SV→Prop}(hla:a.length<1000000)(hlb:b.length<1000000)(h:Q (.int .i64 (cmpL a b))):wpO (pW cT 67 [.vsl (u64s a) ca,.vsl (u64s b) cb]) Q:=by
 refine po rfl (F67_ok (k:=fun v S=>wpO (frz S dS v) Q) ?_)
 unfold F67
 simp only[len100,b_neq,b_sub,ws]
 by_cases hl:a.length=b.length
 ·rw[decide_eq_false (by omega),cf_,wrap64 (by omega) (by omega)]
  rw[cmpL,if_pos hl]at h
  refine cmp_loop a.length a b ca cb _ _ _ (Nat.le_refl _) hl hla rfl rfl rfl (fun h0 e'=>?_) (fun h0 e' h4=>?_)
  ·refine K67_0e0_ok ?_
   unfold TK67_0e0
   rw[h0]at h
   exact h
  ·refine K67_0r_ok ?_
   unfold TK67_0r
   rw[h4]
   exact h
 ·rw[decide_eq_true (by omega),condP_t]
  rw[cmpL,if_neg hl]at h
  rw[wrap64 (by omega) (by omega)]
  exact h
theorem el_X{p:Nat}:(el [0,1]:Fx p)=Pl.Rg.X _:=Pl.Rg.eq fun x=>by simp[en,Pl.nv]
theorem irr_loop{p:Nat}{f:List Nat}{cf:VC}{m:Nat}(hp:IsP p)(hp2:p≤2147483647)(hf:Mo p m f)(hm:m<500)(hir:Irr (el f:Fx p)):∀(n i:Nat) (h:List Nat) (ch:VC) (S:Zt) (x:SV) (e:En) (k:X→En→Zt→Prop),
  0<i→n+2*i=m+3→Rd p h→h.length<f.length→((el f:Fx p)∣el h-Pl.Rg.X _^p^(i-1))→Ro S x [0,1]→
  e 0=.vsl (u64s f) cf→e 1=.int .u64 (p:Int)→e 5=x→e 6=.vsl (u64s h) ch→e 7=.int .i64 (i:Int)→
  (∀(e':En) (S':Zt),k (.exit 0) e' S')→DenP cT 37 (.loop L13_0) e S k:=by
 intro n
 have h1p:=hp.1
 have hfl:=hf.2.1
 have hf0:f≠[]:=fun e=>by rw[e]at hfl;simp at hfl
 induction n using Nat.strongRecOn with
 |ind n ih=>
  intro i h ch S x e k hi hn hh hlh hc hx h0 h1 h5 h6 h7 hk
  refine L13_0_ok ?_
  unfold TL13_0
  simp only[h0,h1,h5,h6,h7,b_mul,b_lss,len22,ws]
  rw[wrap64 (by omega) (by omega)]
  by_cases hlt:2*i<f.length
  ·rw[decide_eq_true (by omega),condP_t]
   refine cpu rfl rfl (r_ppow hp hp2 hf.1 hf0 (by omega) (by omega) (by omega) fun w cw hw hlw ew=>?_)
   obtain⟨cx,hfx⟩:=hx.fz
   refine call_sn3 rfl hfx (fz_pure rfl) (fz_pure rfl) (fun S1 hK1 hS1=>?_)
   refine r_rem (a:=[0,1]) (by decide) (by omega) hp hp2 hf.1 hf0 fun q1 r1 c1 hd1=>?_
   refine cpu rfl rfl (r_sub (by omega) (by have:=hd1.less;omega) (by omega) hp2 hw.1 hd1.hr.1 fun s cs hs es=>?_)
   have hsl:s.length<400000:=by
    have h1:=Pl.sz_sub (n:=f.length) (show 0<p by omega) (a:=(el w:Fx p)) (b:=el r1) (by rw[Pl.sz_el (by omega) hw];omega) (by rw[Pl.sz_el (by omega) hd1.hr];have:=hd1.less;omega)
    rw[←Pl.el_subN es,Pl.sz_el (by omega) hs]at h1
    omega
   refine cpu rfl rfl (r_gcd (by omega) hsl hp hp2 hf.1 hs fun g cg hg=>?_)
   have gc:=Pl.el_gcd hg
   rw[Pl.el_subN es]at gc
   have e2:(el f:Fx p)∣el w-Pl.Rg.X _^p^i:=by
    have:=Pl.cg_pow hc p
    rw[Pl.pow_pp,show i-1+1=i by omega]at this
    exact Pl.cg_trans ew this
   have i1:∀w r x:Fx p,w-r=(w-r+x)-x:=Pl.Rg.ind fun a=>Pl.Rg.ind fun b=>Pl.Rg.ind fun c=>Pl.Rg.eq fun x=>by grind
   have i2:∀w r x y:Fx p,w-r+x-y=(w-y)-(r-x):=Pl.Rg.ind fun a=>Pl.Rg.ind fun b=>Pl.Rg.ind fun c=>Pl.Rg.ind fun d=>Pl.Rg.eq fun x=>by grind
   rw[i1 _ _ (Pl.Rg.X _)]at gc
   have hz:=Pl.irr_test hp hir hi (by rw[hf.size (by omega)];omega) (by
    rw[i2]
    exact Pl.dv_sub e2 (by rw[←el_X];exact Pl.cg_rem hd1)) gc
   have gl:g.length=1:=by
    rcases hg.mo with h8|⟨n2,h8⟩
    ·rw[h8,Pl.el_nil,Pl.sz_zero (by omega)]at hz;omega
    ·rw[h8.size (by omega)]at hz
     rw[h8.2.1];omega
   simp only[len22,ws,b_neq,gl,b_add]
   rw[decide_eq_false (by decide),cf_,wrap64 (by omega) (by omega)]
   exact ih (n-2) (by omega) (i+1) w cw S1 x _ k (by omega) (by omega) hw hlw e2 (hx.sn hS1) h0 h1 h5 rfl rfl hk
  ·rw[decide_eq_false (by omega),cf_]
   exact hk _ _
theorem r_irr{p m:Nat}{f:List Nat}{cf:VC}{Q:SV→Prop}(hp:IsP p)(hp2:p≤2147483647)(hf:Mo p m f)(hm:m<500)(hir:Irr (el f:Fx p))(h:Q (.bool true)):wpO (pW cT 13 [.vsl (u64s f) cf,.int .u64 (p:Int)]) Q:=by
 have hfl:=hf.2.1
 have hf0:f≠[]:=fun e=>by rw[e]at hfl;simp at hfl
 refine po rfl (F13_ok (k:=fun v S=>wpO (frz S dS v) Q) ?_)
 unfold F13
 refine wo (x:=(.osl 0 1 0 2 (some 2),[.cells (u64s [0,1]) true])) rfl ?_
 have hx:Ro [.cells (u64s [0,1]) true] (.osl 0 1 0 2 (some 2)) [0,1]:=.inr ⟨0,some 2,[],true,rfl,rfl⟩
 obtain⟨cx,hfx⟩:=hx.fz
 refine call_sn3 rfl hfx (fz_pure rfl) (fz_pure rfl) (fun S1 hK1 hS1=>?_)
 refine r_rem (a:=[0,1]) (by decide) (by omega) hp hp2 hf.1 hf0 fun q1 r1 c1 hd1=>?_
 have h2:=hir.1
 rw[hf.size (by have:=hp.1;omega)]at h2
 refine irr_loop hp hp2 hf hm hir (m+1) 1 r1 c1 _ _ _ _ (by omega) (by omega) hd1.hr hd1.less (by
  rw[Nat.sub_self,Nat.pow_zero,Pl.Rg.pow_1,←el_X];exact Pl.cg_rem hd1) (hx.sn hS1) rfl rfl rfl rfl rfl (fun e' S'=>?_)
 refine K13_0e0_ok ?_
 unfold TK13_0e0
 exact h
open Pl (nm)
theorem fpw_loop{p:Nat}{f:List Nat}{cf:VC}{A:Fx p}{N:Nat}{lv:Bool}(hp:IsP p)(hp2:p≤2147483647)(hf:Rd p f)(hf0:f≠[])(hlf:f.length<1000):∀(n:Nat) (o b:List Nat) (co cb:VC) (S:Zt) (e:En) (k:X→En→Zt→Prop),
  n<18446744073709551616→Rd p o→Rd p b→o.length<f.length→b.length<f.length→PwI (el f) A N (el o) (el b) n→
  e 3=.vsl (u64s f) cf→e 4=.optr 0 0 0→S[0]?=some (.cells [rg p] lv)→e 9=.vsl (u64s o) co→e 1=.vsl (u64s b) cb→e 2=.int .u64 (n:Int)→
  (∀(r:List Nat) (c':VC) (e':En),Rd p r→r.length<f.length→((el f:Fx p)∣el r-A^N)→e' 9=.vsl (u64s r) c'→k (.exit 0) e' S)→
  DenP cT 40 (.loop L130_0) e S k:=by
 intro n
 induction n using Nat.strongRecOn with
 |ind n ih=>
  intro o b co cb S e k hn ho hb hlo hlb hI h3 h4 hS h9 h1 h2 hk
  refine L130_0_ok ?_
  unfold TL130_0
  simp only[h3,h4,h9,h1,h2,b_gtr,ws,ld_rg hS]
  by_cases h0:n=0
  ·subst h0
   rw[decide_eq_false (by simp),cf_]
   exact hk o co _ ho hlo hI.done h9
  ·rw[decide_eq_true (by omega),condP_t]
   simp only[b_and1,b_eql,ws]
   by_cases h5:n%2=1
   ·rw[decide_eq_true (by omega),condP_t]
    refine cpu rfl rfl (f_mul (by omega) (by have:=hp.1;omega) hp2 ho.1 hb.1 fun w cw hw hlw ew=>?_)
    refine cpu rfl rfl (f_rem (by omega) (by omega) hp hp2 hf hf0 fun q1 r1 c1 hd1=>?_)
    simp only[ld_rg hS,ws]
    refine cpu rfl rfl (f_mul (by omega) (by have:=hp.1;omega) hp2 hb.1 hb.1 fun w2 cw2 hw2 hlw2 ew2=>?_)
    refine cpu rfl rfl (f_rem (by omega) (by omega) hp hp2 hf hf0 fun q2 r2 c2 hd2=>?_)
    simp only[b_shr1 hn,ws]
    exact ih (n/2) (by omega) r1 r2 c1 c2 S _ k (by omega) hd1.hr hd2.hr hd1.less hd2.less
     (hI.odd h5 (by rw[←Pl.el_mulN ew];exact Pl.cg_rem hd1) (by rw[←Pl.el_mulN ew2];exact Pl.cg_rem hd2)) h3 h4 hS rfl rfl rfl hk
   ·rw[decide_eq_false (by omega),cf_]
    refine cpu rfl rfl (f_mul (by omega) (by have:=hp.1;omega) hp2 hb.1 hb.1 fun w2 cw2 hw2 hlw2 ew2=>?_)
    refine cpu rfl rfl (f_rem (by omega) (by omega) hp hp2 hf hf0 fun q2 r2 c2 hd2=>?_)
    simp only[b_shr1 hn,ws]
    exact ih (n/2) (by omega) o r2 co c2 S _ k (by omega) ho hd2.hr hlo hd2.less
     (hI.even (by omega) (by rw[←Pl.el_mulN ew2];exact Pl.cg_rem hd2)) h3 h4 hS h9 rfl rfl hk
theorem f_pow{p n:Nat}{a f:List Nat}{ca cf:VC}{Q:SV→Prop}(hp:IsP p)(hp2:p≤2147483647)(hf:Rd p f)(hf0:f≠[])(hlf:f.length<1000)(hla:a.length<1000)(hn:n<18446744073709551616)
  (h:∀(r:List Nat) (c':VC),Rd p r→r.length<f.length→((el f:Fx p)∣el r-el a^n)→Q (.vsl (u64s r) c')):wpO (pW cT 130 [rg p,.vsl (u64s a) ca,.int .u64 (n:Int),.vsl (u64s f) cf]) Q:=by
 refine po rfl (F130_ok (k:=fun v S=>wpO (frz S dS v) Q) ?_)
 unfold F130
 refine wo rfl ?_
 refine wo (ld_rg rfl) ?_
 refine Own.bsl1 (j:=y25) (x:=.int .u64 1) (by decide) rfl rfl (by decide) (fun v S hO hK hl=>?_)
 obtain⟨c,hc,hf1⟩:=fz_own hO.own (u64s_pure (l:=[1]))
 refine call_fz3 rfl (fz_pure rfl) hf1 (fz_pure rfl) (fun S1 hK1=>?_)
 refine f_rem (a:=[1]) (by decide) (by omega) hp hp2 hf hf0 fun q1 r1 c1 hd1=>?_
 have h0:S1[0]?=some (.cells [rg p] true):=(hK.trans hK1).at (by show 0<1;omega) rfl
 refine wo (ld_rg h0) ?_
 refine cpu rfl rfl (f_rem (by omega) (by omega) hp hp2 hf hf0 fun q2 r2 c2 hd2=>?_)
 refine fpw_loop (A:=el a) (N:=n) hp hp2 hf hf0 hlf n r1 r2 c1 c2 _ _ _ hn hd1.hr hd2.hr hd1.less hd2.less (PwI.start (by rw[←Pl.el_one];exact Pl.cg_rem hd1) (Pl.cg_rem hd2)) rfl rfl h0 rfl rfl rfl (fun r c' e' h1 h2 h3 h9=>?_)
 refine K130_0e0_ok ?_
 unfold TK130_0e0
 rw[h9]
 refine wo (frz_pure rfl).1 ?_
 exact h r c' h1 h2 h3
theorem nm_succ{p:Nat}(d:Nat)(T:Fx p):nm (d+1) T=nm d T*T^p^d:=by
 have key:∀(l:List (Fx p)) (a:Fx p),Pl.prodR (l++[a])=Pl.prodR l*a:=fun l a=>by
  induction l with
  |nil=>simp only[List.nil_append,Pl.prodR];rw[Pl.Rg.mul_1,Pl.Rg.one_m]
  |cons b l ih=>simp only[List.cons_append,Pl.prodR];rw[ih,Pl.Rg.mul_a]
 unfold nm
 rw[List.range_succ,List.map_append,List.map_cons,List.map_nil,key]
theorem nm_one{p:Nat}(T:Fx p):nm 1 T=T:=by
 have e:=nm_succ 0 T
 have e0:nm 0 T=1:=rfl
 rw[e0,Pl.Rg.one_m,Nat.pow_zero,Pl.Rg.pow_1]at e
 exact e
theorem trace_loop{p:Nat}{f:List Nat}{cf:VC}{lv:Bool}(hp:IsP p)(hp2:p≤2147483647)(hf:Rd p f)(hf0:f≠[])(hlf:f.length<1000):∀(m i d:Nat) (t s:List Nat) (ct cs:VC) (S:Zt) (e:En) (k:X→En→Zt→Prop),
  i+m=d→d<1000→Rd p t→t.length<f.length→Rd p s→s.length<f.length→
  e 3=.vsl (u64s f) cf→e 4=.optr 0 0 0→S[0]?=some (.cells [rg p] lv)→e 9=.vsl (u64s s) cs→e 1=.vsl (u64s t) ct→e 20=.int .i64 (d:Int)→e 21=.int .i64 (i:Int)→
  (∀(r:List Nat) (c':VC) (e':En),Rd p r→r.length<f.length→e' 9=.vsl (u64s r) c'→k (.exit 0) e' S)→
  DenP cT 63 (.loop L133_0) e S k:=by
 intro m
 induction m with
 |zero=>
  intro i d t s ct cs S e k hi hd ht hlt hs hls h3 h4 hS h9 h1 h20 h21 hk
  refine L133_0_ok ?_
  unfold TL133_0
  simp only[h20,h21,b_lss,ws]
  rw[decide_eq_false (by omega),cf_]
  exact hk s cs _ hs hls h9
 |succ m ih=>
  intro i d t s ct cs S e k hi hd ht hlt hs hls h3 h4 hS h9 h1 h20 h21 hk
  refine L133_0_ok ?_
  unfold TL133_0
  simp only[h20,h21,h3,h4,h9,h1,b_lss,ws,ld_rg hS,b_add]
  rw[decide_eq_true (by omega),condP_t]
  refine cpu rfl rfl (f_pow (n:=2) hp hp2 hf hf0 hlf (by omega) (by decide) fun w cw hw hlw ew=>?_)
  simp only[ld_rg hS,ws]
  refine cpu rfl rfl (f_comb (cc:=1) (by omega) (by omega) (by have:=hp.1;omega) hp2 (by have:=hp.1;omega) hs.1 hw.1 fun r cr hr hlr er=>?_)
  rw[sI (by omega)]
  exact ih (i+1) d w r cw cr S _ k (by omega) hd hw hlw hr (by omega) h3 h4 hS rfl rfl h20 rfl hk
theorem norm_loop{p:Nat}{f:List Nat}{cf:VC}{lv:Bool}{T:Fx p}(hp:IsP p)(hp2:p≤2147483647)(hf:Rd p f)(hf0:f≠[])(hlf:f.length<1000):∀(m i d:Nat) (t s:List Nat) (ct cs:VC) (S:Zt) (e:En) (k:X→En→Zt→Prop),
  i+m=d→d<1000→Rd p t→t.length<f.length→Rd p s→s.length<f.length→((el f:Fx p)∣el t-T^p^i)→((el f:Fx p)∣el s-nm (i+1) T)→
  e 3=.vsl (u64s f) cf→e 4=.optr 0 0 0→S[0]?=some (.cells [rg p] lv)→e 10=.vsl (u64s s) cs→e 1=.vsl (u64s t) ct→e 35=.int .i64 (d:Int)→e 36=.int .i64 (i:Int)→
  (∀(r:List Nat) (c':VC) (e':En),Rd p r→r.length<f.length→((el f:Fx p)∣el r-nm (d+1) T)→e' 3=.vsl (u64s f) cf→e' 4=.optr 0 0 0→e' 10=.vsl (u64s r) c'→k (.exit 2) e' S)→
  DenP cT 63 (.loop L133_1) e S k:=by
 intro m
 induction m with
 |zero=>
  intro i d t s ct cs S e k hi hd ht hlt hs hls et es h3 h4 hS h10 h1 h35 h36 hk
  refine L133_1_ok ?_
  unfold TL133_1
  simp only[h35,h36,b_lss,ws]
  rw[decide_eq_false (by omega),cf_]
  have:i=d:=by omega
  rw[this]at es
  exact hk s cs _ hs hls es h3 h4 h10
 |succ m ih=>
  intro i d t s ct cs S e k hi hd ht hlt hs hls et es h3 h4 hS h10 h1 h35 h36 hk
  refine L133_1_ok ?_
  unfold TL133_1
  simp only[h35,h36,h3,h4,h10,h1,b_lss,ws,ld_rg hS,b_add,fa_rg,ld_p hS]
  rw[decide_eq_true (by omega),condP_t]
  refine cpu rfl rfl (f_pow (n:=p) hp hp2 hf hf0 hlf (by omega) (by omega) fun w cw hw hlw ew=>?_)
  simp only[ld_rg hS,ws]
  refine cpu rfl rfl (f_mul (by omega) (by have:=hp.1;omega) hp2 hs.1 hw.1 fun w2 cw2 hw2 hlw2 ew2=>?_)
  refine cpu rfl rfl (f_rem (by omega) (by omega) hp hp2 hf hf0 fun q2 r2 c2 hd2=>?_)
  rw[sI (by omega)]
  have e1:(el f:Fx p)∣el w-T^p^(i+1):=by
   have:=Pl.cg_pow et p
   rw[Pl.pow_pp]at this
   exact Pl.cg_trans ew this
  exact ih (i+1) d w r2 cw c2 S _ k (by omega) hd hw hlw hd2.hr hd2.less e1 (by
   rw[nm_succ]
   refine Pl.cg_trans (Pl.cg_rem hd2) ?_
   rw[Pl.el_mulN ew2]
   exact Pl.cg_mul es e1) h3 h4 hS rfl rfl h35 rfl hk
theorem f_probe{p d:Nat}{t f:List Nat}{ct cf:VC}{Q:SV→Prop}(hp:IsP p)(hp2:p≤2147483647)(hf:Rd p f)(hf2:2≤f.length)(hlf:f.length<1000)(hlt:t.length<1000)(hd0:0<d)(hd:d<1000)
  (h:∀(r:List Nat) (c':VC),Rd p r→r.length≤f.length→(∀m,p=2*m+1→(el f:Fx p)∣el r-(nm d (el t)^m-1))→Q (.vsl (u64s r) c')):wpO (pW cT 133 [rg p,.vsl (u64s t) ct,.int .i64 (d:Int),.vsl (u64s f) cf]) Q:=by
 have hf0:f≠[]:=fun e=>by rw[e]at hf2;simp at hf2
 have hp1:=hp.1
 refine po rfl (F133_ok (k:=fun v S=>wpO (frz S dS v) Q) ?_)
 unfold F133
 refine wo rfl ?_
 refine wo (ld_rg rfl) ?_
 refine cpu rfl rfl (f_rem (by omega) (by omega) hp hp2 hf hf0 fun q1 r1 c1 hd1=>?_)
 refine wo fa_rg ?_
 refine wo (ld_p rfl) ?_
 simp only[b_eql,b_sub,ws]
 rw[wrap64 (by omega) (by omega),show(d:Int)-1=((d-1:Nat):Int)by omega]
 by_cases h2:p=2
 ·rw[decide_eq_true (by omega),condP_t]
  refine trace_loop hp hp2 hf hf0 hlf (d-1) 0 (d-1) r1 r1 c1 c1 _ _ _ (by omega) (by omega) hd1.hr hd1.less hd1.hr hd1.less rfl rfl rfl rfl rfl rfl rfl (fun r c' e' hr hlr h9=>?_)
  refine K133_0e0_ok ?_
  unfold TK133_0e0
  rw[h9]
  refine wo (frz_pure rfl).1 ?_
  exact h r c' hr (by omega) (fun m hm=>by omega)
 ·rw[decide_eq_false (by omega),cf_]
  obtain⟨m,hm⟩:∃m,p=2*m+1:=by
   refine⟨p/2,?_⟩
   have:¬2∣p:=fun hd=>by
    rcases hp.2 2 hd with h5|h5<;>omega
   omega
  refine norm_loop (T:=el t) hp hp2 hf hf0 hlf (d-1) 0 (d-1) r1 r1 c1 c1 _ _ _ (by omega) (by omega) hd1.hr hd1.less hd1.hr hd1.less (by
   rw[Nat.pow_zero,Pl.Rg.pow_1];exact Pl.cg_rem hd1) (by rw[nm_one];exact Pl.cg_rem hd1) rfl rfl rfl rfl rfl rfl rfl (fun r c' e' hr hlr hrn h3 h4 h10=>?_)
  refine K133_1e2_ok ?_
  unfold TK133_1e2
  rw[h4,h10,h3]
  refine wo (ld_rg rfl) ?_
  refine wo (ld_rg rfl) ?_
  refine wo fa_rg ?_
  refine wo (ld_p rfl) ?_
  simp only[b_sub,ws]
  rw[wrapU64 (by omega) (by omega),show(p:Int)-1=((p-1:Nat):Int)by omega]
  refine wo (b_quoN (p:=2) (by omega) (by omega)) ?_
  refine cpu rfl rfl (f_pow (n:=(p-1)/2) hp hp2 hf hf0 hlf (by omega) (by omega) fun w cw hw hlw ew=>?_)
  refine Own.bsl1 (j:=y25) (x:=.int .u64 1) (by decide) rfl rfl (by decide) (fun v S hO hK hl=>?_)
  obtain⟨c,hc,hf1⟩:=fz_own hO.own (u64s_pure (l:=[1]))
  refine call_fz3 rfl (fz_pure rfl) (fz_pure rfl) hf1 (fun S1 hK1=>?_)
  refine f_sub (b:=[1]) (by omega) (by decide) (by omega) hp2 hw.1 (by intro x hx;simp at hx;omega) fun r' cr' hr' hlr' er'=>?_
  refine wo (frz_pure rfl).1 ?_
  refine h r' cr' hr' (by simp at hlr';omega) (fun m' hm'=>?_)
  rw[Pl.el_subN er',Pl.el_one]
  refine Pl.cg_sub ?_ (Pl.cg_refl _ 1)
  rw[show(p-1)/2=m' by omega]at ew
  rw[show d-1+1=d by omega]at hrn
  exact Pl.cg_trans ew (Pl.cg_pow hrn m')
def On(S:Zt)(v:SV)(l:List Nat)(b:Nat):Prop:=(v=.vsl [] .nil∧l=[])∨OwnA S v 1 (u64s l) b
theorem push64n{S:Zt}{v:SV}{l:List Nat}{d b:Nat}{k:SV×Zt→SV×Zt→Prop}(hO:On S v l b)(hb:b≤S.length)(hl:l.length<1000000)
  (h:∀p v' S',OwnA S' v' 1 (u64s (l++[d])) b→Kp S S' b→k p (v',S')):wpO (bslS y25 1 [(0,.int .u64 (d:Int))] S) fun p=>wpO (appS y25 p.2 v p.1) fun q=>k p q:=by
 rcases hO with⟨rfl,rfl⟩|hO
 ·refine wo (x:=(.osl S.length 1 0 1 (some 1),S++[.cells [.int .u64 (d:Int)] true])) rfl ?_
  have hel:elemsS (S++[.cells [.int .u64 (d:Int)] true]) (.osl S.length 1 0 1 (some 1))=some [.int .u64 (d:Int)]:=by
   unfold elemsS
   simp only[at_new]
   rfl
  have hl:(S++[Row.cells [.int .u64 (d:Int)] true]).length=S.length+1:=by simp
  have hap:appS y25 (S++[.cells [.int .u64 (d:Int)] true]) (.vsl [] .nil) (.osl S.length 1 0 1 (some 1))=some (.osl (S.length+1) 1 0 1 none,(S++[.cells [.int .u64 (d:Int)] true])++[.cells [.int .u64 (d:Int)] true]):=by
   unfold appS
   rw[if_pos (show y25.zero.n=y25.size from rfl)]
   unfold appendS
   rw[hel]
   simp only[Option.bind_some]
   rw[hl]
   rfl
  refine wo hap (h _ _ _ ⟨S.length+1,none,[],rfl,?_,by omega,.inl rfl⟩ ?_)
  ·have:=at_new (S:=S++[.cells [.int .u64 (d:Int)] true]) (r:=.cells [.int .u64 (d:Int)] true)
   rw[hl]at this
   exact this
  ·exact(Kp.app hb).trans (Kp.app (by rw[hl];omega))
 ·exact push64 hO hl h
def dE(p:Nat)(a:List Nat)(i:Nat):Nat:=(i+1)%p*(a[i+1]?.getD 0)%p
def dR(p:Nat)(a:List Nat)(n:Nat):List Nat:=(List.range n).map (dE p a)
theorem dR_len(p:Nat)(a:List Nat)(n:Nat):(dR p a n).length=n:=by simp[dR]
theorem dR_succ(p:Nat)(a:List Nat)(n:Nat):dR p a (n+1)=dR p a n++[dE p a n]:=by simp[dR,List.range_succ]
theorem dR_el{p:Nat}(a:List Nat):(el (tm p (dR p a (a.length-1))):Fx p)=Pl.D (el a):=by
 rw[Pl.el_ei,Pl.el_ei,Pl.D_ei]
 refine Pl.fx_eq.2 ((Pl.tm_cg p _).trans ?_)
 refine Pl.Cg.of_coef fun n=>?_
 rw[Pl.cf_dL,Pl.cf_nv,Pl.cf_nv]
 unfold dR
 rw[List.getElem?_map]
 by_cases h:n<a.length-1
 ·rw[List.getElem?_range h]
  simp only[Option.map_some,Option.getD_some,dE]
  have h1:=Pl.mod_dvd p ((n+1)%p*(a[n+1]?.getD 0))
  have h2:=Pl.mod_dvd p (n+1)
  obtain⟨u,hu⟩:=h1
  obtain⟨v,hv⟩:=h2
  refine⟨u+v*((a[n+1]?.getD 0:Nat):Int),?_⟩
  rw[Int.natCast_mul]at hu
  have e1:(((n+1)%p:Nat):Int)=p*v+((n:Int)+1):=by omega
  rw[e1]at hu
  rw[Int.mul_add,←hu]
  grind
 ·rw[List.getElem?_eq_none (by simp;omega),List.getElem?_eq_none (show a.length≤n+1 by omega)]
  simp
theorem der_loop{p:Nat}{a:List Nat}{ca:VC}{lv:Bool}(hp:0<p)(hp2:p≤2147483647)(ha:∀x∈a,x<p)(hla:a.length<1000000):∀(m i:Nat) (S:Zt) (e:En) (k:X→En→Zt→Prop),
  i+1+m=max a.length 1→e 1=.vsl (u64s a) ca→e 2=.optr 0 0 0→S[0]?=some (.cells [rg p] lv)→e 6=.int .i64 ((i+1:Nat):Int)→On S (e 5) (dR p a i) 1→
  (∀(e':En) (S':Zt),e' 2=.optr 0 0 0→S'[0]?=some (.cells [rg p] lv)→On S' (e' 5) (dR p a (a.length-1)) 1→k (.exit 0) e' S')→DenP cT 32 (.loop L128_0) e S k:=by
 intro m
 induction m with
 |zero=>
  intro i S e k hi h1 h2 hS h6 hO hk
  refine L128_0_ok ?_
  unfold TL128_0
  simp only[h1,h6,len100,b_lss,ws]
  rw[decide_eq_false (by omega),cf_]
  refine hk _ _ h2 hS ?_
  rw[show a.length-1=i by omega]
  exact hO
 |succ m ih=>
  intro i S e k hi h1 h2 hS h6 hO hk
  have hlt:i+1<a.length:=by omega
  obtain⟨x,hx⟩:∃x,a[i+1]?=some x:=⟨_,List.getElem?_eq_getElem hlt⟩
  have hxp:x<p:=ha x (List.mem_of_getElem? hx)
  refine L128_0_ok ?_
  unfold TL128_0
  simp only[h1,h2,h6,len100,b_lss,ws]
  rw[decide_eq_true (by omega),condP_t]
  rw[show convS y25 (.int .i64 ((i+1:Nat):Int))=some (.int .u64 ((i+1:Nat):Int))by rw[conv_int rfl rfl,wrapU64 (by omega) (by omega)]]
  simp only[ws,fa_rg,ld_p hS]
  refine wo (b_remN hp) ?_
  simp only[idx100 hx,ld25,ws,b_mul]
  have hm:=Nat.mod_lt (i+1) hp
  rw[mulU (by omega) (by omega)]
  refine wo (b_remN hp) ?_
  have e1:(i+1)%p*x%p=dE p a i:=by unfold dE;rw[hx];rfl
  rw[e1]
  refine push64n hO (by have:=at_lt hS;omega) (by rw[dR_len];omega) (fun p' v' S' hO' hK=>?_)
  simp only[b_add,ws]
  rw[show wrS .i64 (((i+1:Nat):Int)+1)=((i+1+1:Nat):Int) from sI (by omega)]
  rw[←dR_succ]at hO'
  exact ih (i+1) S' _ k (by omega) h1 h2 (hK.at (by omega) hS) rfl (.inr hO') hk
theorem f_derive{p:Nat}{a:List Nat}{ca:VC}{Q:SV→Prop}(hp:0<p)(hp2:p≤2147483647)(ha:Rd p a)(hla:a.length<100000)
  (h:∀(r:List Nat) (c':VC),Rd p r→r.length≤a.length-1→(el r:Fx p)=Pl.D (el a)→Q (.vsl (u64s r) c')):wpO (pW cT 128 [rg p,.vsl (u64s a) ca]) Q:=by
 refine po rfl (F128_ok (k:=fun v S=>wpO (frz S dS v) Q) ?_)
 unfold F128
 refine wo rfl ?_
 refine der_loop hp hp2 ha.1 (by omega) (max a.length 1-1) 0 _ _ _ (by omega) rfl rfl rfl rfl (.inl ⟨rfl,rfl⟩) (fun e' S' h2 hS hO=>?_)
 refine K128_0e0_ok ?_
 unfold TK128_0e0
 rw[h2]
 refine wo (ld_rg hS) ?_
 have fin:∀v' S'',Own S'' v' 1 (u64s (tm p (dR p a (a.length-1)))) S'.length→wpO (frz S'' dS v') Q:=fun v' S'' hO2=>by
  refine Own.frz hO2 u64s_pure fun c hc=>h _ c (Pl.tm_rd hp _) ?_ (dR_el a)
  have:=Pl.tm_len p (dR p a (a.length-1))
  rwa [dR_len]at this
 rcases hO with⟨h5,hl⟩|hO
 ·rw[h5]
  rw[hl]at fin
  exact f_trimV (l:=[]) (by decide) hp (fun v' S'' h1 _ _=>fin v' S'' h1)
 ·exact f_trimO hO.own (by rw[dR_len];omega) hp (fun v' S'' h1 _ _=>fin v' S'' h1)
open Pl (PartsOk)
def Ex(j:TyI)(S:Zt)(v:SV)(es:List SV)(b:Nat):Prop:=(v=.vsl [] .nil∧es=[])∨∃id cap,v=.osl id j.size 0 es.length cap∧S[id]?=some (.cells es true)∧b≤id∧(cap=none∨cap=some es.length)
theorem Ex.kp{j:TyI}{S T:Zt}{v:SV}{es:List SV}{b c:Nat}(h:Ex j S v es b)(hk:Kp S T c)(hc:S.length≤c):Ex j T v es b:=by
 rcases h with h|⟨id,cap,h1,h2,h3,h4⟩
 ·exact .inl h
 ·exact .inr ⟨id,cap,h1,hk.at (by have:=at_lt h2;omega) h2,h3,h4⟩
theorem Ex.mono{j:TyI}{S:Zt}{v:SV}{es:List SV}{b c:Nat}(h:Ex j S v es b)(hc:c≤b):Ex j S v es c:=by
 rcases h with h|⟨id,cap,h1,h2,h3,h4⟩
 ·exact .inl h
 ·exact .inr ⟨id,cap,h1,h2,by omega,h4⟩
theorem Ex.elems{j:TyI}{S:Zt}{v:SV}{es:List SV}{b:Nat}(h:Ex j S v es b):elemsS S v=some es:=by
 rcases h with⟨rfl,rfl⟩|⟨id,cap,rfl,h2,h3,h4⟩
 ·rfl
 ·unfold elemsS
  simp only[h2]
  rw[if_pos (by omega),List.drop_zero,List.take_length]
theorem Ex.len{j:TyI}{S:Zt}{v:SV}{es:List SV}{b:Nat}(hO:Ex j S v es b){i:TyI}{t:TypeId}(h:i.kind=.slice t):lenS i v=some (.int .i64 (es.length:Int)):=by
 rcases hO with⟨rfl,rfl⟩|⟨id,cap,rfl,h2,h3,h4⟩
 ·exact len_vsl h
 ·exact len_osl h
theorem Ex.fz{j:TyI}{S:Zt}{v:SV}{es:List SV}{b:Nat}(h:Ex j S v es b)(hp:∀e∈es,pureS e=true):∃c,FzO S b v (.vsl es c):=by
 rcases h with⟨rfl,rfl⟩|⟨id,cap,rfl,h2,h3,h4⟩
 ·exact⟨.nil,fz_pure rfl⟩
 ·obtain⟨c,_,hf⟩:=fz_own (b:=b) ⟨id,cap,[],rfl,by rw[List.append_nil];exact h2,h3,by
   intro c hc
   rcases h4 with h4|h4<;>rw[h4]at hc<;>cases hc
   exact Nat.le_refl _⟩ hp
  exact⟨c,hf⟩
theorem app_ex{j:TyI}{S:Zt}{v x:SV}{es xs:List SV}{b:Nat}{K:SV×Zt→Prop}(h:Ex j S v es b)(hj:j.zero.n=j.size)(hs:j.size≠0)(hx:elemsS S x=some xs)(hne:xs≠[])(hz:sizesOk j.size xs=true)
  (hb1:(es.length+xs.length)*j.bytes≤roomS) (hb2:es.length+xs.length≤roomS) (hb:b≤S.length)
  (hk:∀v' S',Ex j S' v' (es++xs) b→Kp S S' b→v'=.osl S.length j.size 0 (es.length+xs.length) none→S'.length=S.length+1→K (v',S')):wpO (appS j S v x) K:=by
 rcases h with⟨rfl,rfl⟩|⟨id,cap,rfl,h2,h3,h4⟩
 ·have hap:appS j S (.vsl [] .nil) x=some (.osl S.length j.size 0 xs.length none,S++[.cells xs true]):=by
   unfold appS
   rw[if_pos hj]
   unfold appendS
   rw[hx]
   simp only[Option.bind_some]
   rw[if_neg (by simp[hne]),if_pos (by simp[hz,hs])]
   rw[if_pos (by
    simp only[List.length_nil,Nat.zero_add]at hb1 hb2 ⊢
    simp[hb1,hb2]
    rfl)]
   simp
  refine wo hap (hk _ _ (.inr ⟨S.length,none,by simp,at_new,hb,.inl rfl⟩) (Kp.app hb) (by simp) (by simp))
 ·have hid:=at_lt h2
  have hap:=app_row (j:=j) (S:=S) (id:=id) (off:=0) (len:=es.length) (cap:=cap) (es:=es) (xs:=xs) (x:=x) hj hs hx hne hz h2 hb1 hb2 (by omega) (by
   rcases h4 with h|h
   ·exact .inl h
   ·exact .inr ⟨es.length,h,by have:=List.length_pos_iff.2 hne;omega⟩)
  rw[List.drop_zero,List.take_length]at hap
  refine wo hap ?_
  have hlen:(if cap=none then S.set id .dead else S).length=S.length:=by split<;>simp
  refine hk _ _ (.inr ⟨S.length,none,by simp,?_,hb,.inl rfl⟩) ?_ rfl (by rw[List.length_append,hlen];rfl)
  ·have:=at_new (S:=(if cap=none then S.set id .dead else S)) (r:=.cells (es++xs) true)
   rw[hlen]at this
   exact this
  ·refine Kp.trans (T:=(if cap=none then S.set id .dead else S)) ?_ (Kp.app (by rw[hlen];omega))
   split
   ·exact Kp.set h3
   ·exact Kp.refl _ _
theorem call_freshE{cfg:Cfg}{f:FuncId}{args args':List SV}{S:Zt}{k:SV×Zt→Prop}{j:TyI}(hm:cfg.mode f=.fresh)(h1:args.mapM (frz S dS)=some args')
  (h:wpO (bW cfg f args' []) fun p=>∃es b,Ex j p.2 p.1 es b∧(∀e∈es,pureS e=true)∧
   ∀v' S',Ex j S' v' es S.length→S.length≤S'.length→(∀i,i<S.length→i∉args.flatMap (refs S dS)→S'[i]?=S[i]?)→k (v',S')):wpO (cW cfg f args S) k:=by
 refine call_freshG hm h1 ?_
 rw[wpO_iff]at h ⊢
 obtain⟨p,hb,es,b,hE,hp,hk⟩:=h
 refine⟨p,hb,?_⟩
 rcases hE with⟨h2,rfl⟩|⟨id,cap,h2,h3,h4,h5⟩
 ·refine wo (x:=.inl (.vsl [] .nil)) (by unfold freshO;rw[h2];rfl) ?_
  refine hk _ _ (.inl ⟨rfl,rfl⟩) (by rw[sealS_len];exact Nat.le_refl _) (fun i hi hn=>sealS_out _ _ _ hn)
 ·refine wo (x:=.inr (es,j.size,0,es.length,cap)) (by
   unfold freshO
   rw[h2]
   simp only[h3,List.all_eq_true.2 hp,if_true]) ?_
  refine hk _ _ (.inr ⟨S.length,cap,rfl,?_,Nat.le_refl _,h5⟩) (by rw[List.length_append,sealS_len];omega) (fun i hi hn=>by rw[List.getElem?_append_left (by rw[sealS_len];exact hi)];exact sealS_out _ _ _ hn)
  have:=at_new (S:=sealS S (args.flatMap (refs S dS))) (r:=.cells es true)
  rw[sealS_len]at this
  exact this
def Qs(L:List (List Nat×VC)):List SV:=L.map fun p=>.vsl (u64s p.1) p.2
theorem Qs_len{L:List (List Nat×VC)}:(Qs L).length=L.length:=by simp[Qs]
theorem Qs_get{L:List (List Nat×VC)}{i:Nat}{p:List Nat×VC}(h:L[i]?=some p):(Qs L)[i]?=some (.vsl (u64s p.1) p.2):=by simp[Qs,h]
theorem Qs_pure{L:List (List Nat×VC)}:∀e∈Qs L,pureS e=true:=by
 intro e he
 obtain⟨q,_,rfl⟩:=List.mem_map.1 he
 rfl
theorem Qs_app{L M:List (List Nat×VC)}:Qs (L++M)=Qs L++Qs M:=by simp[Qs]
theorem Qs_sizes{L:List (List Nat×VC)}:sizesOk 1 (Qs L)=true:=by
 unfold sizesOk
 refine List.all_eq_true.2 (fun e he=>?_)
 obtain⟨q,_,rfl⟩:=List.mem_map.1 he
 rfl
theorem root_loop{p:Nat}{f:List Nat}{cf:VC}{lv:Bool}{R:List Nat}(hp:0<p)(hp2:p≤2147483647)(hlf:f.length<100000):∀(n i:Nat) (o:List Nat) (S:Zt) (e:En) (k:X→En→Zt→Prop),
  f.length-i≤n→i<3000000000→o.length≤i→o++Pl.every (p-1) n (f.drop i)=R→
  e 1=.vsl (u64s f) cf→e 2=.optr 0 0 0→S[0]?=some (.cells [rg p] lv)→e 7=.int .i64 (i:Int)→On S (e 6) o 1→
  (∀(e':En) (S':Zt),e' 2=.optr 0 0 0→S'[0]?=some (.cells [rg p] lv)→On S' (e' 6) R 1→k (.exit 0) e' S')→DenP cT 50 (.loop L60_0) e S k:=by
 intro n
 induction n with
 |zero=>
  intro i o S e k hn hi ho hR h1 h2 hS h7 hO hk
  refine L60_0_ok ?_
  unfold TL60_0
  simp only[h1,h7,len100,b_lss,ws]
  rw[decide_eq_false (by omega),cf_]
  refine hk _ _ h2 hS ?_
  rw[←hR]
  simp only[Pl.every,List.append_nil]
  exact hO
 |succ n ih=>
  intro i o S e k hn hi ho hR h1 h2 hS h7 hO hk
  refine L60_0_ok ?_
  unfold TL60_0
  simp only[h1,h2,h7,len100,b_lss,ws]
  by_cases hlt:i<f.length
  ·obtain⟨x,hx⟩:∃x,f[i]?=some x:=⟨_,List.getElem?_eq_getElem hlt⟩
   rw[decide_eq_true (by omega),condP_t]
   simp only[idx100 hx,ld25,ws]
   refine push64n hO (by have:=at_lt hS;omega) (by omega) (fun p' v' S' hO' hK=>?_)
   have hS':=hK.at (by omega) hS
   simp only[fa_rg,ld_p hS',ws]
   rw[show convS y3 (.int .u64 (p:Int))=some (.int .i64 (p:Int))by rw[conv_int rfl rfl,wrap64 (by omega) (by omega)]]
   simp only[ws,b_add]
   rw[wrap64 (by omega) (by omega),show(i:Int)+(p:Int)=((i+p:Nat):Int)by omega]
   have hdr:f.drop i=x::f.drop (i+1):=by
    rw[List.drop_eq_getElem_cons hlt]
    rw[List.getElem?_eq_getElem hlt]at hx
    cases hx;rfl
   rw[hdr]at hR
   simp only[Pl.every,List.drop_drop]at hR
   exact ih (i+p) (o++[x]) S' _ k (by omega) (by omega) (by simp;omega) (by
    rw[List.append_assoc,show i+p=i+1+(p-1)by omega]
    exact hR) h1 h2 hS' rfl (.inr hO') hk
  ·rw[decide_eq_false (by omega),cf_]
   refine hk _ _ h2 hS ?_
   rw[←hR,List.drop_eq_nil_of_le (by omega)]
   simp only[Pl.every,List.append_nil]
   exact hO
theorem On.fz{S:Zt}{v:SV}{l:List Nat}{b:Nat}(h:On S v l b):∃c,FzO S b v (.vsl (u64s l) c):=by
 rcases h with⟨rfl,rfl⟩|h
 ·exact⟨.nil,fz_pure rfl⟩
 ·obtain⟨c,_,hf⟩:=fz_own h.own u64s_pure
  exact⟨c,hf⟩
theorem f_parts{p:Nat}(hp:IsP p)(hp2:p≤2147483647):∀(m:Nat) (f:List Nat) (cf:VC) (v:SV) (S:Zt) (k:SV×Zt→Prop),m<1000→Mo p m f→frz S dS v=some (.vsl (u64s f) cf)→
  (∀(L:List (List Nat×VC)) v' S',PartsOk p m (el f) (L.map (·.1))→L.length≤m→Ex y100 S' v' (Qs L) S.length→S.length≤S'.length→(∀i,i<S.length→i∉refs S dS v→S'[i]?=S[i]?)→k (v',S'))→
  wpO (cW cT 60 [rg p,v] S) k:=by
 intro m
 induction m using Nat.strongRecOn with
 |ind m ih=>
  intro f cf v S k hm hf hv hk
  have hp1:=hp.1
  have hfl:=hf.2.1
  have hf0:f≠[]:=fun e=>by rw[e]at hfl;simp at hfl
  have hrg:=frz_pure (S:=S) (v:=rg p) rfl
  refine call_freshE (j:=y100) (args':=[rg p,.vsl (u64s f) cf]) rfl (by simp only[List.mapM_cons,hrg.1,hv,List.mapM_nil];rfl) ?_
  have fin:∀(L:List (List Nat×VC)) (w:SV) (T:Zt) (b:Nat),PartsOk p m (el f) (L.map (·.1))→L.length≤m→Ex y100 T w (Qs L) b→∃es b,Ex y100 T w es b∧(∀e∈es,pureS e=true)∧
    ∀v' S',Ex y100 S' v' es S.length→S.length≤S'.length→(∀i,i<S.length→i∉[rg p,v].flatMap (refs S dS)→S'[i]?=S[i]?)→k (v',S'):=fun L w T b h1 h2 h3=>
   ⟨Qs L,b,h3,Qs_pure,fun v' S' a1 a2 a3=>hk L v' S' h1 h2 a1 a2 (fun i hi hn=>a3 i hi (by simp only[List.flatMap_cons,hrg.2,List.nil_append,List.flatMap_nil,List.append_nil];exact hn))⟩
  refine F60_ok (k:=fun w T=>∃es b,Ex y100 T w es b∧(∀e∈es,pureS e=true)∧
    ∀v' S',Ex y100 S' v' es S.length→S.length≤S'.length→(∀i,i<S.length→i∉[rg p,v].flatMap (refs S dS)→S'[i]?=S[i]?)→k (v',S')) ?_
  unfold F60
  refine wo rfl ?_
  simp only[len100,b_lss,ws]
  by_cases h2:f.length<2
  ·rw[decide_eq_true (by omega),condP_t]
   exact fin [] _ _ 0 (PartsOk.nil hp (by omega) hf0 hf.1) (by simp) (.inl ⟨rfl,rfl⟩)
  ·rw[decide_eq_false (by omega),cf_]
   refine wo (ld_rg rfl) ?_
   refine cpu rfl rfl (f_derive (by omega) hp2 hf.1 (by omega) fun d cd hd hld ed=>?_)
   simp only[len100,b_eql,ws]
   by_cases hd0:d=[]
   ·subst hd0
    rw[decide_eq_true (by simp),condP_t]
    rw[Pl.el_nil]at ed
    obtain⟨n,hn,hnm,hn1,en⟩:=Pl.root_ok hp hf (by omega) ed.symm
    refine root_loop (R:=Pl.every (p-1) f.length f) (by omega) hp2 (by omega) f.length 0 [] _ _ _ (by omega) (by omega) (by simp) (by simp) rfl rfl rfl rfl (.inl ⟨rfl,rfl⟩) (fun e' S' g2 gS gO=>?_)
    refine K60_0e0_ok ?_
    unfold TK60_0e0
    rw[g2]
    refine wo (ld_rg gS) ?_
    obtain⟨c,hfz⟩:=gO.fz
    refine ih n hnm _ c (e' 6) S' _ (by omega) hn hfz.1 (fun L v' S2 a1 a2 a3 a4 a5=>?_)
    exact fin L v' S2 _ (a1.root hp (by omega) en) (by omega) a3
   ·rw[decide_eq_false (by have:=List.length_pos_iff.2 hd0;omega),cf_]
    refine wo (ld_rg rfl) ?_
    refine cpu rfl rfl (f_gcd (by omega) (by omega) hp hp2 hf.1 hd fun g cg hg=>?_)
    refine wo (ld_rg rfl) ?_
    have hgm:∃n,n<m∧Mo p n g:=by
     obtain⟨s,r,e,hr⟩:=Pl.fx_divide hp (b:=(el g:Fx p)) (fun e=>by
      obtain⟨c,hc⟩:=(Pl.el_gcd hg).left
      rw[e,Pl.Rg.zero_m]at hc
      exact hf.nz (by omega) hc) (el f)
     have hgz:(el g:Fx p)≠0:=fun e=>by
      obtain⟨c,hc⟩:=(Pl.el_gcd hg).left
      rw[e,Pl.Rg.zero_m]at hc
      exact hf.nz (by omega) hc
     have hdz:(el d:Fx p)≠0:=fun e=>hd0 (Pl.el_inj (by omega) hd (Rd.nil p) (e.trans Pl.el_nil.symm))
     have s1:=Pl.dv_sz hp (Pl.el_gcd hg).right hdz
     rw[Pl.sz_el (by omega) hd]at s1
     rcases hg.mo with h5|⟨n,h5⟩
     ·rw[h5,Pl.el_nil]at hgz;exact absurd rfl hgz
     ·rw[h5.size (by omega)]at s1
      exact⟨n,by omega,h5⟩
    obtain⟨n,hnm,hn⟩:=hgm
    have hgl:=hn.2.1
    have hg0:g≠[]:=fun e=>by rw[e]at hgl;simp at hgl
    refine ih n hnm g cg (.vsl (u64s g) cg) _ _ (by omega) hn (frz_pure rfl).1 (fun L v1 S1 a1 a2 a3 a4 a5=>?_)
    have hS1:S1[0]?=some (.cells [rg p] true):=a5 0 (by show 0<1;omega) (by rw[(frz_pure rfl).2];simp)
    refine wo (ld_rg hS1) ?_
    refine cpu rfl rfl (f_quo (by omega) (by omega) hp hp2 hn.1 hg0 fun q r cq hq=>?_)
    obtain⟨_,e1,b1,b2⟩:=Pl.part_ok hp hf (by omega) ed hd hd0 hg hq
    have hbs:bslS y100 1 [(0,.vsl (u64s q) cq)] S1=some (.osl S1.length 1 0 1 (some 1),S1++[.cells [.vsl (u64s q) cq] true]):=rfl
    refine wo hbs ?_
    have hel:elemsS (S1++[.cells [.vsl (u64s q) cq] true]) (.osl S1.length 1 0 1 (some 1))=some (Qs [(q,cq)]):=by
     unfold elemsS
     simp only[at_new]
     rfl
    refine app_ex (j:=y100) (a3.kp (Kp.app (Nat.le_refl _)) (Nat.le_refl _)) rfl (by decide) hel (by simp[Qs]) Qs_sizes (by rw[Qs_len];show(L.length+1)*24≤_;unfold roomS;omega) (by rw[Qs_len];show L.length+1≤_;unfold roomS;omega) (by simp) (fun v' S' c1 c2 c3 c4=>?_)
    rw[←Qs_app]at c1
    refine fin (L++[(q,cq)]) v' S' _ ?_ (by simp;omega) c1
    rw[List.map_append]
    exact a1.snoc hp (by omega) e1 b1 b2
end Go.Proofs
