/-
  Sorting; the program's factors modulo a prime; squares of primes are refused.
-/
import Derived.Test.YtilhffelllbggaaGreatMPd
import Derived.Test.YtilhffelllbggaaGreatMLb
import Derived.Test.YtilhffelllbggaaGreatMPa
set_option linter.unusedVariables false
set_option linter.unusedSimpArgs false
set_option maxRecDepth 10000
namespace Go.Proofs
open Go.Sh
open Pl (IsP Rd Cg en tm Mo PF IsDiv IsGcd el Fx PwI Irr nm MInv)
theorem f_cmp2{a b:List Nat}{ca cb:VC}{n m:Int}{Q:SV→Prop}(hla:a.length<1000000)(hlb:b.length<1000000)(h:Q (.int .i64 (cmpL a b))):wpO (pW cT 66 [.agg [.vsl (u64s a) ca,.int .i64 n],.agg [.vsl (u64s b) cb,.int .i64 m]]) Q:=by
 refine po rfl (F66_ok (k:=fun v S=>wpO (frz S dS v) Q) ?_)
 unfold F66
 refine wo rfl ?_
 refine wo rfl ?_
 refine wo (x:=.optr 0 0 0) rfl ?_
 refine wo (x:=.vsl (u64s a) ca) rfl ?_
 refine wo (x:=.optr 1 0 0) rfl ?_
 refine wo (x:=.vsl (u64s b) cb) rfl ?_
 refine cpu rfl rfl (f_cmp hla hlb ?_)
 refine wo (frz_pure rfl).1 ?_
 exact h
theorem topc_asym(a b:List Nat):∀n,topc a b n<0→¬topc b a n<0
 |0,h=>by simp[topc]at h
 |n+1,h=>by
  simp only[topc]at h ⊢
  split at h
  ·rename_i e
   rw[if_pos e.symm];exact topc_asym a b n h
  ·rename_i e
   rw[if_neg (Ne.symm e)]
   split at h
   ·rw[if_neg (by omega)];omega
   ·omega
theorem topc_trans(c b a:List Nat):∀n,topc c a n<0→topc c b n<0∨topc b a n<0
 |0,h=>by simp[topc]at h
 |n+1,h=>by
  have ih:=topc_trans c b a n
  simp only[topc]at h ⊢
  generalize c[n]?.getD 0=u at *
  generalize b[n]?.getD 0=v at *
  generalize a[n]?.getD 0=w at *
  generalize topc c a n=t1 at *
  generalize topc c b n=t2 at *
  generalize topc b a n=t3 at *
  grind
theorem cmpL_asym{a b:List Nat}(h:cmpL a b<0):¬cmpL b a<0:=by
 unfold cmpL at h ⊢
 by_cases e:a.length=b.length
 ·rw[if_pos e]at h
  rw[if_pos e.symm,←e];exact topc_asym a b _ h
 ·rw[if_neg e]at h
  rw[if_neg (Ne.symm e)];omega
theorem cmpL_trans{c b a:List Nat}(h:cmpL c a<0):cmpL c b<0∨cmpL b a<0:=by
 unfold cmpL at h ⊢
 by_cases e1:c.length=b.length
 ·by_cases e2:b.length=a.length
  ·rw[if_pos (e1.trans e2)]at h
   rw[if_pos e1,if_pos e2,←e1];exact topc_trans c b a _ h
  ·rw[if_neg (by omega)]at h
   rw[if_neg e2];exact .inr (by omega)
 ·by_cases e2:c.length=a.length
  ·rw[if_neg e1,if_neg (by omega)]
   omega
  ·rw[if_neg e2]at h
   rw[if_neg e1]
   by_cases e3:b.length=a.length
   ·exact .inl (by omega)
   ·rw[if_neg e3];omega
abbrev Fac:=(List Nat×VC)×Nat
def ky(O:List Fac)(i:Nat):List Nat:=((O[i]?).map (fun x=>x.1.1)).getD []
def le(O:List Fac)(a b:Nat):Prop:=¬cmpL (ky O b) (ky O a)<0
theorem le_trans{O:List Fac}{a b c:Nat}(h:le O a b)(g:le O b c):le O a c:=fun hn=>by
 rcases cmpL_trans (b:=ky O b) hn with h1|h1
 ·exact g h1
 ·exact h h1
def swp(O:List Fac)(j:Nat)(x y:Fac):List Fac:=(O.set j x).set (j-1) y
theorem swp_eq{O:List Fac}{j:Nat}{x y:Fac}(hj:0<j)(hx:O[j-1]?=some x)(hy:O[j]?=some y):O=O.take (j-1)++x::y::O.drop (j+1)∧swp O j x y=O.take (j-1)++y::x::O.drop (j+1):=by
 have hl:j<O.length:=(List.getElem?_eq_some_iff.1 hy).1
 have e0:O=O.take (j-1)++x::y::O.drop (j+1):=by
  have h1:O.drop (j-1)=x::O.drop j:=by
   rw[List.drop_eq_getElem_cons (show j-1<O.length by omega),show j-1+1=j by omega]
   rw[List.getElem?_eq_getElem (by omega)]at hx
   cases hx;rfl
  have h2:O.drop j=y::O.drop (j+1):=by
   rw[List.drop_eq_getElem_cons hl]
   rw[List.getElem?_eq_getElem hl]at hy
   cases hy;rfl
  rw[←h2,←h1,List.take_append_drop]
 refine⟨e0,?_⟩
 have hlen:(O.take (j-1)).length=j-1:=by rw[List.length_take];omega
 unfold swp
 conv=>lhs;rw[e0]
 rw[List.set_append_right _ _ (by omega),hlen,show j-(j-1)=1 by omega]
 simp only[List.set_cons_succ,List.set_cons_zero]
 rw[List.set_append_right _ _ (by omega),hlen,Nat.sub_self]
 rfl
theorem swp_perm{O:List Fac}{j:Nat}{x y:Fac}(hj:0<j)(hx:O[j-1]?=some x)(hy:O[j]?=some y):(swp O j x y).Perm O:=by
 obtain⟨h1,h2⟩:=swp_eq hj hx hy
 rw[h2]
 conv=>rhs;rw[h1]
 exact List.Perm.append_left _ (List.Perm.swap _ _ _)
theorem swp_ky{O:List Fac}{j:Nat}{x y:Fac}(hj:0<j)(hx:O[j-1]?=some x)(hy:O[j]?=some y)(i:Nat):ky (swp O j x y) i=if i=j then ky O (j-1)else if i=j-1 then ky O j else ky O i:=by
 have hl:j<O.length:=(List.getElem?_eq_some_iff.1 hy).1
 unfold ky swp
 rw[List.getElem?_set,List.getElem?_set,List.length_set]
 by_cases h1:i=j
 ·subst h1
  rw[if_neg (by omega),if_pos rfl,if_pos hl,if_pos rfl,hx]
 ·rw[if_neg h1]
  by_cases h2:i=j-1
  ·subst h2
   rw[if_pos rfl,if_pos (by omega),if_pos rfl,hy]
  ·rw[if_neg (by omega),if_neg (by omega),if_neg h2]
def Srt(O:List Fac)(i j:Nat):Prop:=∀a b,a<b→b≤i→b≠j→le O a b
theorem Srt.swap{O:List Fac}{i j:Nat}{x y:Fac}(h:Srt O i j)(hj:0<j)(hji:j≤i)(hx:O[j-1]?=some x)(hy:O[j]?=some y)(hc:cmpL y.1.1 x.1.1<0):Srt (swp O j x y) i (j-1):=by
 have kx:ky O (j-1)=x.1.1:=by unfold ky;rw[hx];rfl
 have kj:ky O j=y.1.1:=by unfold ky;rw[hy];rfl
 intro a b hab hb hbj
 unfold le
 rw[swp_ky hj hx hy,swp_ky hj hx hy]
 by_cases b1:b=j
 ·rw[if_pos b1,if_neg (by omega)]
  by_cases a1:a=j-1
  ·rw[if_pos a1,kx,kj];exact cmpL_asym hc
  ·rw[if_neg a1]
   exact h a (j-1) (by omega) (by omega) (by omega)
 ·rw[if_neg b1,if_neg (by omega)]
  by_cases a2:a=j
  ·rw[if_pos a2]
   exact h (j-1) b (by omega) hb b1
  ·rw[if_neg a2]
   by_cases a1:a=j-1
   ·rw[if_pos a1]
    exact h j b (by omega) hb b1
   ·rw[if_neg a1]
    exact h a b hab hb b1
theorem Srt.done{O:List Fac}{i j:Nat}(h:Srt O i j)(hj:j=0∨le O (j-1) j):∀a b,a<b→b≤i→le O a b:=fun a b hab hb=>by
 by_cases e:b=j
 ·subst e
  rcases hj with hj|hj
  ·omega
  ·by_cases ha:a=b-1
   ·rw[ha];exact hj
   ·exact le_trans (h a (b-1) (by omega) (by omega) (by omega)) hj
 ·exact h a b hab hb e
theorem Ms_get{O:List Fac}{i:Nat}{x:Fac}(h:O[i]?=some x):(Ms O)[i]?=some (.agg [.vsl (u64s x.1.1) x.1.2,.int .i64 (x.2:Int)]):=by simp[Ms,h]
theorem ld_fac{S:Zt}{id i:Nat}{O:List Fac}{x:Fac}{lv:Bool}(h:S[id]?=some (.cells (Ms O) lv))(hx:O[i]?=some x):ldS y33 S (.optr id i 0)=some (.agg [.vsl (u64s x.1.1) x.1.2,.int .i64 (x.2:Int)]):=by
 rw[load_row h (Ms_get hx)];rfl
theorem st_fac{S:Zt}{id i:Nat}{O:List Fac}{x y:Fac}(h:S[id]?=some (.cells (Ms O) true))(hx:O[i]?=some x):stS y33 S (.optr id i 0) (.agg [.vsl (u64s y.1.1) y.1.2,.int .i64 (y.2:Int)])=some (S.set id (.cells (Ms (O.set i y)) true)):=by
 rw[store_row (e:=.agg [.vsl (u64s x.1.1) x.1.2,.int .i64 (x.2:Int)]) (e':=.agg [.vsl (u64s y.1.1) y.1.2,.int .i64 (y.2:Int)]) h (Ms_get hx) rfl rfl rfl]
 simp[Ms,List.map_set]
theorem ins_inner{id n:Nat}{cap:Option Nat}{i:Nat}(hn:n≤100):∀(j:Nat) (O:List Fac) (S:Zt) (e:En) (K:X→En→Zt→Prop),O.length=n→j≤i→i<n→Srt O i j→(∀x∈O,x.1.1.length<1000000)→S[id]?=some (.cells (Ms O) true)→
  e 0=.osl id 2 0 n cap→e 1=.int .i64 0→e 2=.int .i64 (n:Int)→e 3=.fn 66 [] []→e 8=.int .i64 (i:Int)→e 9=.int .i64 (j:Int)→
  (∀(O':List Fac) (S':Zt) (e':En),O'.Perm O→(∀a b,a<b→b≤i→le O' a b)→S'[id]?=some (.cells (Ms O') true)→(∀r,r≠id→S'[r]?=S[r]?)→S'.length=S.length→e' 0=e 0→e' 1=e 1→e' 2=e 2→e' 3=e 3→e' 8=e 8→K (.exit 2) e' S')→
  DenP cT 53 (.loop L180_1) e S K:=by
 intro j
 induction j with
 |zero=>
  intro O S e K hl hj hi hs hb hS h0 h1 h2 h3 h8 h9 hK
  refine L180_1_ok ?_
  unfold TL180_1
  simp only[h0,h1,h2,h3,h8,h9,b_gtr,ws]
  iterate 10 refine grdF rfl ?_
  simp only[Bool.not_true,Bool.and_false,cond_false]
  iterate 2 refine grdF rfl ?_
  refine wo (x:=.bool false) rfl ?_
  refine cndF rfl ?_
  exact hK O S _ (List.Perm.refl _) (hs.done (.inl rfl)) hS (fun r _=>rfl) rfl rfl rfl rfl rfl rfl
 |succ j ih=>
  intro O S e K hl hj hi hs hb hS h0 h1 h2 h3 h8 h9 hK
  obtain⟨y,hy⟩:∃y,O[j+1]?=some y:=⟨_,List.getElem?_eq_getElem (by omega)⟩
  obtain⟨x,hx⟩:∃x,O[j]?=some x:=⟨_,List.getElem?_eq_getElem (by omega)⟩
  have hyl:=hb y (List.mem_of_getElem? hy)
  have hxl:=hb x (List.mem_of_getElem? hx)
  have hw:wrS .i64 (((j+1:Nat):Int)-1)=((j:Nat):Int):=by rw[wrap64 (by omega) (by omega)];omega
  refine L180_1_ok ?_
  unfold TL180_1
  simp only[h0,h1,h2,h3,h8,h9,b_gtr,ws]
  rw[decide_eq_true (by omega)]
  iterate 3 refine grdT rfl ?_
  refine grdT rfl ?_
  refine wo (idx_osl (j:=y33) rfl rfl (by decide) (show j+1<n by omega) rfl) ?_
  rw[Nat.zero_add]
  refine grdT rfl ?_
  refine wo (ld_fac hS hy) ?_
  iterate 2 refine grdT rfl ?_
  refine grdT rfl ?_
  simp only[b_sub,ws]
  rw[hw]
  refine grdT rfl ?_
  refine wo (idx_osl (j:=y33) rfl rfl (by decide) (show j<n by omega) rfl) ?_
  rw[Nat.zero_add]
  refine grdT rfl ?_
  refine wo (ld_fac hS hx) ?_
  simp only[Bool.not_true,Bool.and_false,cond_false]
  refine grdT rfl ?_
  show wpO (cW cT 66 [.agg [.vsl (u64s y.1.1) y.1.2,.int .i64 (y.2:Int)],.agg [.vsl (u64s x.1.1) x.1.2,.int .i64 (x.2:Int)]] S) _
  refine cpu rfl rfl (f_cmp2 hyl hxl ?_)
  refine grdT rfl ?_
  simp only[b_lss,ws]
  have kx:ky O j=x.1.1:=by unfold ky;rw[hx];rfl
  have kj:ky O (j+1)=y.1.1:=by unfold ky;rw[hy];rfl
  by_cases hc:cmpL y.1.1 x.1.1<0
  ·rw[decide_eq_true hc]
   refine wo (x:=.bool true) rfl ?_
   refine cndT rfl ?_
   refine wo (idx_osl (j:=y33) rfl rfl (by decide) (show j<n by omega) rfl) ?_
   rw[Nat.zero_add]
   refine wo (ld_fac hS hx) ?_
   refine wo (idx_osl (j:=y33) rfl rfl (by decide) (show j+1<n by omega) rfl) ?_
   rw[Nat.zero_add]
   refine wo (ld_fac hS hy) ?_
   refine wo (idx_osl (j:=y33) rfl rfl (by decide) (show j+1<n by omega) rfl) ?_
   rw[Nat.zero_add]
   refine wo (st_fac (y:=x) hS hy) ?_
   refine wo (idx_osl (j:=y33) rfl rfl (by decide) (show j<n by omega) rfl) ?_
   rw[Nat.zero_add]
   have hx2:(O.set (j+1) x)[j]?=some x:=by rw[List.getElem?_set,if_neg (by omega)];exact hx
   refine wo (st_fac (y:=y) (at_eq hS) hx2) ?_
   have hsw:(O.set (j+1) x).set j y=swp O (j+1) x y:=rfl
   have hpm:=swp_perm (show 0<j+1 by omega) hx hy
   refine ih (swp O (j+1) x y) _ _ K (by rw[hpm.length_eq,hl]) (by omega) hi (hs.swap (by omega) hj hx hy hc) (fun z hz=>hb z (hpm.mem_iff.1 hz)) (at_eq (at_eq hS)) h0 h1 h2 h3 h8 rfl (fun O' S' e' a1 a2 a3 a4 a5 a6 a7 a8 a9 a10=>?_)
   refine hK O' S' e' (a1.trans hpm) a2 a3 (fun r hr=>?_) (by rw[a5,List.length_set,List.length_set]) a6 a7 a8 a9 a10
   rw[a4 r hr,List.getElem?_set,if_neg (Ne.symm hr),List.getElem?_set,if_neg (Ne.symm hr)]
  ·rw[decide_eq_false hc]
   refine wo (x:=.bool false) rfl ?_
   refine cndF rfl ?_
   refine hK O S _ (List.Perm.refl _) (hs.done (.inr ?_)) hS (fun r _=>rfl) rfl rfl rfl rfl rfl rfl
   unfold le
   rw[Nat.add_sub_cancel,kx,kj];exact hc
theorem m_len64{v:Nat}{Q:SV→Prop}(hv:v≤9)(h:∀L:Int,Q (.int .i64 L)):wpO (pW cT 189 [.int .u64 (v:Int)]) Q:=by
 refine po rfl (F189_ok (k:=fun v S=>wpO (frz S dS v) Q) ?_)
 unfold F189
 have hc:v=0∨v=1∨v=2∨v=3∨v=4∨v=5∨v=6∨v=7∨v=8∨v=9:=by omega
 rcases hc with rfl|rfl|rfl|rfl|rfl|rfl|rfl|rfl|rfl|rfl
 all_goals
  refine wo rfl ?_
  refine cndF rfl ?_
  unfold TK189_0n
  refine wo rfl ?_
  refine cndF rfl ?_
  refine wo rfl ?_
  refine cndF rfl ?_
  unfold TK189_1n
  refine wo rfl ?_
  refine wo rfl ?_
  refine wo rfl ?_
  refine wo rfl ?_
  refine wo (frz_pure rfl).1 ?_
  exact h _
theorem m_blen{v:Nat}{Q:SV→Prop}(hv:v≤9)(h:∀L:Int,Q (.int .i64 L)):wpO (pW cT 135 [.int .u64 (v:Int)]) Q:=by
 refine po rfl (F135_ok (k:=fun v S=>wpO (frz S dS v) Q) ?_)
 unfold F135
 refine cndF rfl ?_
 refine cpu rfl rfl (m_len64 hv fun L=>?_)
 refine wo (frz_pure rfl).1 ?_
 exact h L
def SrtO(O:List Fac):Prop:=∀a b,a<b→b<O.length→le O a b
theorem ins_outer{id n:Nat}{cap:Option Nat}(hn:n≤100):∀(m i:Nat) (O:List Fac) (S:Zt) (e:En) (K:X→En→Zt→Prop),O.length=n→i+m=n→(∀a b,a<b→b<i→le O a b)→(∀x∈O,x.1.1.length<1000000)→S[id]?=some (.cells (Ms O) true)→
  e 0=.osl id 2 0 n cap→e 1=.int .i64 0→e 2=.int .i64 (n:Int)→e 3=.fn 66 [] []→e 8=.int .i64 (i:Int)→
  (∀(O':List Fac) (S':Zt) (e':En),O'.Perm O→SrtO O'→S'[id]?=some (.cells (Ms O') true)→(∀r,r≠id→S'[r]?=S[r]?)→S'.length=S.length→K (.exit 0) e' S')→
  DenP cT 53 (.loop L180_0) e S K:=by
 intro m
 induction m with
 |zero=>
  intro i O S e K hl hi hs hb hS h0 h1 h2 h3 h8 hK
  refine L180_0_ok ?_
  unfold TL180_0
  rw[h2,h8]
  simp only[b_lss,ws]
  rw[decide_eq_false (by omega),cf_]
  exact hK O S _ (List.Perm.refl _) (fun a b h1 h2=>hs a b h1 (by omega)) hS (fun r _=>rfl) rfl
 |succ m ih=>
  intro i O S e K hl hi hs hb hS h0 h1 h2 h3 h8 hK
  refine L180_0_ok ?_
  unfold TL180_0
  rw[h2,h8]
  simp only[b_lss,ws]
  rw[decide_eq_true (by omega),condP_t]
  refine ins_inner (id:=id) (n:=n) (cap:=cap) (i:=i) hn i O S _ _ hl (Nat.le_refl _) (by omega) (fun a b hab hbi hbj=>hs a b hab (by omega)) hb hS h0 h1 h2 h3 h8 rfl (fun O' S' e' a1 a2 a3 a4 a5 a6 a7 a8 a9 a10=>?_)
  refine K180_1e2_ok ?_
  unfold TK180_1e2
  rw[a10.trans h8]
  simp only[b_add,ws]
  rw[sI (by omega)]
  refine ih (i+1) O' S' _ K (by rw[a1.length_eq,hl]) (by omega) (fun a b h1 h2=>a2 a b h1 (by omega)) (fun x hx=>hb x (a1.mem_iff.1 hx)) a3 (a6.trans h0) (a7.trans h1) (a8.trans h2) (a9.trans h3) rfl (fun O2 S2 e2 b1 b2 b3 b4 b5=>?_)
  exact hK O2 S2 e2 (b1.trans a1) b2 b3 (fun r hr=>by rw[b4 r hr,a4 r hr]) (by rw[b5,a5])
theorem f_ins{S:Zt}{v:SV}{O:List Fac}{P:List Nat}{k:SV×Zt→Prop}(hE:ExP S v (Ms O) P)(hl:O.length≤9)(hb:∀x∈O,x.1.1.length<1000000)
  (hk:∀(O':List Fac) (S':Zt),O'.Perm O→SrtO O'→ExP S' v (Ms O') P→(∀r∈P,S'[r]?=S[r]?)→k (.tup [],S')):wpO (cW cT 180 [v,.int .i64 0,.int .i64 (O.length:Int),.fn 66 [] []] S) k:=by
 refine call_inp rfl (F180_ok (k:=fun v S=>k (v,S)) ?_)
 unfold F180
 simp only[b_add,ws]
 rw[show wrS .i64 ((0:Int)+1)=((1:Nat):Int) from rfl]
 rcases hE with⟨rfl,he⟩|⟨id,cap,rfl,h2,h3,h4⟩
 ·have hO:O=[]:=List.map_eq_nil_iff.1 he
  subst hO
  refine L180_0_ok ?_
  unfold TL180_0
  refine wo rfl ?_
  refine cndF rfl ?_
  refine K180_0e0_ok ?_
  unfold TK180_0e0
  exact hk [] S (List.Perm.refl _) (fun a b _ h=>by simp at h) (.inl ⟨rfl,rfl⟩) (fun r _=>rfl)
 ·rw[Ms_len]at h4 ⊢
  by_cases h1:O.length=0
  ·have hO:O=[]:=List.length_eq_zero_iff.1 h1
   subst hO
   refine L180_0_ok ?_
   unfold TL180_0
   refine wo rfl ?_
   refine cndF rfl ?_
   refine K180_0e0_ok ?_
   unfold TK180_0e0
   exact hk [] S (List.Perm.refl _) (fun a b _ h=>by simp at h) (.inr ⟨id,cap,rfl,h2,h3,h4⟩) (fun r _=>rfl)
  ·refine ins_outer (id:=id) (n:=O.length) (cap:=cap) (by omega) (O.length-1) 1 O S _ _ rfl (by omega) (fun a b h1 h2=>by omega) hb h2 rfl rfl rfl rfl rfl (fun O' S' e' a1 a2 a3 a4 a5=>?_)
   refine K180_0e0_ok ?_
   unfold TK180_0e0
   have hll:=a1.length_eq
   exact hk O' S' a1 a2 (.inr ⟨id,cap,by rw[Ms_len,Ms_len,hll],a3,h3,by rw[Ms_len,hll];exact h4⟩) (fun r hr=>a4 r (fun e=>h3 (e▸hr)))
theorem f_sort{S:Zt}{v:SV}{O:List Fac}{P:List Nat}{k:SV×Zt→Prop}(hE:ExP S v (Ms O) P)(hl:O.length≤9)(hb:∀x∈O,x.1.1.length<1000000)
  (hk:∀(O':List Fac) (S':Zt),O'.Perm O→SrtO O'→ExP S' v (Ms O') P→(∀r∈P,S'[r]?=S[r]?)→k (.tup [],S')):wpO (cW cT 65 [v,.fn 66 [] []] S) k:=by
 refine call_inp rfl (F65_ok (k:=fun v S=>k (v,S)) ?_)
 unfold F65
 have hlen:lenS y28 v=some (.int .i64 (O.length:Int)):=by
  rcases hE with⟨rfl,he⟩|⟨id,cap,rfl,h2,h3,h4⟩
  ·have hO:O=[]:=List.map_eq_nil_iff.1 he
   subst hO;rfl
  ·rw[←Ms_len (O:=O)];exact len_osl rfl
 refine wo hlen ?_
 refine wo (x:=.int .u64 (O.length:Int)) (by
  have:convS y157 (.int .i64 (O.length:Int))=some (.int .u64 (wrS .u64 (O.length:Int))):=conv_int rfl rfl
  rw[this,wrapU64 (by omega) (by omega)]) ?_
 refine cpu rfl rfl (m_blen hl fun L=>?_)
 refine call_inp rfl (L134_short (k:=fun _ T=>k (.tup [],T)) hl ?_)
 exact f_ins hE hl hb hk
open Pl (PartsOk Sqf)
theorem frz_Ms{S:Zt}:∀O:List Fac,(Ms O).mapM (frz S 10)=some (Ms O)
 |[]=>rfl
 |x::O=>by
  have ih:=frz_Ms (S:=S) O
  show(SV.agg [.vsl (u64s x.1.1) x.1.2,.int .i64 (x.2:Int)]::Ms O).mapM (frz S 10)=_
  rw[List.mapM_cons,ih]
  rfl
theorem frz_exP{S:Zt}{v:SV}{O:List Fac}{P:List Nat}{n:Int}(h:ExP S v (Ms O) P):∃c,frz S dS (.tup [v,.int .i64 n])=some (.tup [.vsl (Ms O) c,.int .i64 n]):=by
 have key:∃c,frz S 11 v=some (.vsl (Ms O) c):=by
  rcases h with⟨rfl,he⟩|⟨id,cap,rfl,h2,h3,h4⟩
  ·rw[he];exact⟨.nil,rfl⟩
  ·refine⟨if cap=some (Ms O).length then .exact else .loose,?_⟩
   show(match S[id]? with
    |some (.cells es _)=>if 0+(Ms O).length≤es.length then(((es.drop 0).take (Ms O).length).mapM (frz S 10)).map fun xs=>SV.vsl xs (if cap=some (Ms O).length then .exact else .loose)else none
    |_=>none)=_
   rw[h2]
   simp only[]
   rw[if_pos (by omega),List.drop_zero,List.take_length,frz_Ms]
   rfl
 obtain⟨c,hc⟩:=key
 refine⟨c,?_⟩
 show([v,.int .i64 n].mapM (frz S 11)).map SV.tup=_
 rw[List.mapM_cons,hc]
 rfl
theorem parts_loop{p:Nat}{L:List (List Nat×VC)}{F0:Fx p}{Fs:List Nat}{cf:VC}{P:List Nat}{ir jf ko m:Nat}(hp:IsP p)(hp2:p≤2147483647)(hsz:Pl.sz F0≤10)(hL:∀x∈L,(∃n,1≤n∧n≤9∧Mo p n x.1)∧Sqf (el x.1:Fx p))(hLl:L.length≤1000) :
  ∀(n i:Nat) (F:List Nat) (O:List Fac) (vo pv:SV) (S:Zt) (e:En) (K:X→En→Zt→Prop),i+n=L.length→MInv p F0 F (plO O)→(∀x∈L.take i,∀q:Fx p,Irr q→q∣el x.1→¬q∣el F)→St p S ir jf ko F vo P→ExP S vo (Ms O) P→
  (L=[]∨∃rp cap,pv=.osl rp 1 0 L.length cap∧S[rp]?=some (.cells (Qs L) true)∧rp∈P∧rp≠jf∧rp≠ko)→
  e 6=.optr ir 0 0→e 7=.optr jf 0 0→e 8=.optr ko 0 0→e 26=pv→e 27=.int .i64 (L.length:Int)→e 28=.int .i64 (i:Int)→
  (∀(F':List Nat) (O':List Fac) (vo':SV) (S':Zt) (e':En),MInv p F0 F' (plO O')→(∀x∈L,∀q:Fx p,Irr q→q∣el x.1→¬q∣el F')→St p S' ir jf ko F' vo' P→ExP S' vo' (Ms O') P→e' 8=.optr ko 0 0→K (.exit 0) e' S')→DenP cT 40 (.loop L11_0) e S K:=by
 intro n
 induction n with
 |zero=>
  intro i F O vo pv S e K hi hM hdone hSt hE hrow h6 h7 h8 h26 h27 h28 hK
  refine L11_0_ok ?_
  unfold TL11_0
  rw[h27,h28]
  simp only[b_lss,ws]
  rw[decide_eq_false (by omega),cf_]
  rw[List.take_of_length_le (by omega)]at hdone
  exact hK F O vo S _ hM hdone hSt hE h8
 |succ n ih=>
  intro i F O vo pv S e K hi hM hdone hSt hE hrow h6 h7 h8 h26 h27 h28 hK
  have hil:i<L.length:=by omega
  obtain⟨x,hx⟩:∃x,L[i]?=some x:=⟨_,List.getElem?_eq_getElem hil⟩
  obtain⟨⟨k,k1,k9,hxm⟩,hxs⟩:=hL x (List.mem_of_getElem? hx)
  rcases hrow with hrow|⟨rp,cap,rfl,hrow,hrP,hrj,hrk⟩
  ·rw[hrow]at hil;simp at hil
  obtain⟨lv,hr⟩:=hSt.r
  refine L11_0_ok ?_
  unfold TL11_0
  rw[h6,h7,h8,h26,h27,h28]
  simp only[b_lss,ws]
  rw[decide_eq_true (by omega),condP_t]
  refine wo (idx_osl (j:=y100) rfl rfl (by decide) hil rfl) ?_
  rw[Nat.zero_add]
  refine wo (ld_ext hrow (Qs_get hx) rfl rfl) ?_
  refine wo (ld_rgI hr) ?_
  refine f_each hp hp2 hxm k1 k9 hxs hsz hM hSt hE (fun F' O' vo' S' r a1 a2 a3 a4 a5 a6 a7=>?_)
  simp only[b_add,ws]
  rw[sI (by omega)]
  refine ih (i+1) F' O' vo' _ S' _ K (by omega) a1 (fun y hy q hq hqy=>?_) a4 a5 (.inr ⟨rp,cap,rfl,by rw[a6 rp hrP hrj hrk];exact hrow,hrP,hrj,hrk⟩) h6 h7 h8 h26 h27 rfl (fun F2 O2 vo2 S2 e2 b1 b2 b3 b4 b5=>hK F2 O2 vo2 S2 e2 b1 b2 b3 b4 b5)
  rw[List.take_add_one,hx]at hy
  rcases List.mem_append.1 hy with h5|h5
  ·exact fun hd=>hdone y h5 q hq hqy (Pl.dv_trans hd a2)
  ·simp at h5
   rw[h5]at hqy
   exact a3 q hq hqy
structure ModOk(p m:Nat)(g:List Nat)(O:List Fac):Prop where
 inv:MInv p (el g) [1] (plO O)
 srt:SrtO O
theorem MInv.perm{p:Nat}{F0:Fx p}{F:List Nat}{O O':List (List Nat×Nat)}(h:MInv p F0 F O)(hp:O'.Perm O):MInv p F0 F O':=by
 refine⟨h.mo,?_,fun x hx=>h.irr x (hp.mem_iff.1 hx),(hp.map _).nodup_iff.2 h.nodup⟩
 have:∀A B:List (List Nat×Nat),A.Perm B→Pl.prO p A=Pl.prO p B:=fun A B hAB=>by
  induction hAB with
  |nil=>rfl
  |cons x _ ih=>simp only[Pl.prO];rw[ih]
  |swap x y l=>
   simp only[Pl.prO]
   have i1:∀a b c:Fx p,a*(b*c)=b*(a*c):=Pl.Rg.ind fun a=>Pl.Rg.ind fun b=>Pl.Rg.ind fun c=>Pl.Rg.eq fun x=>by grind
   exact i1 _ _ _
  |trans _ _ h1 h2=>exact h1.trans h2
 rw[this O' O hp];exact h.eq
theorem f_Modular{p:Nat}{a:List Nat}{ca:VC}{Q:SV→Prop}(hp:IsP p)(hp2:p≤2147483647)(hla:a.length≤10)
  (h0:tm p a=[]→Q (.tup [.vsl [] .nil,.int .i64 10]))
  (h1:∀(m:Nat) (g:List Nat) (O:List Fac) (c:VC) (u v:Int),Mo p m g→m+1=(tm p a).length→Cg p (en g) (fun x=>u*en (tm p a) x)→(p:Int)∣v*u-1→ModOk p m g O→Q (.tup [.vsl (Ms O) c,.int .i64 0])) :
  wpO (pW cT 11 [.vsl (u64s a) ca,.int .u64 (p:Int)]) Q:=by
 have hp1:=hp.1
 have hpos:0<p:=by omega
 have htl:=Pl.tm_len p a
 have htr:=Pl.tm_rd hpos a
 refine po rfl (F11_ok (k:=fun v S=>wpO (frz S dS v) Q) ?_)
 unfold F11
 refine cpu rfl rfl (m_prime hp hp2 ?_)
 refine wo (x:=.bool false) rfl ?_
 refine cndF rfl ?_
 refine wo (x:=rg p) rfl ?_
 refine wo (x:=(.optr 0 0 0,[.cells [y99.zero] true])) rfl ?_
 refine wo (x:=[.cells [rg p] true]) rfl ?_
 refine wo (ld_rgI rfl) ?_
 refine wo (ld_rgI rfl) ?_
 refine f_trimV (by omega) hpos (fun v1 S1 hO1 hOn1 hl1=>?_)
 have r1:S1[0]?=some (.cells [rg p] true):=hOn1.atv rfl
 obtain⟨c1,_,hf1⟩:=fz_own hO1 u64s_pure
 refine call_fz2 (b:=1) rfl (fz_pure rfl) hf1 (fun S2 hK2=>?_)
 refine f_monic (by omega) hp hp2 htr fun g cg hg0 hg1=>?_
 have r2:S2[0]?=some (.cells [rg p] true):=hK2.at (by omega) r1
 refine wo (x:=(.optr S2.length 0 0,S2++[.cells [.vsl [] .nil] true])) rfl ?_
 have e2:=at_new (S:=S2) (r:=Row.cells [.vsl [] .nil] true)
 obtain⟨S3,hS3⟩:∃S3,S3=(S2++[Row.cells [.vsl [] .nil] true]).set S2.length (.cells [.vsl (u64s g) cg] true):=⟨_,rfl⟩
 refine wo (x:=S3) (by rw[hS3];exact store_row (i:=y100) (e:=.vsl [] .nil) (e':=.vsl (u64s g) cg) (v:=.vsl (u64s g) cg) e2 rfl rfl rfl rfl) ?_
 have hl2:0<S2.length:=at_lt r2
 have r3:S3[0]?=some (.cells [rg p] true):=by rw[hS3];exact at_ne (at_app r2) (by omega)
 have f3:S3[S2.length]?=some (.cells [.vsl (u64s g) cg] true):=by rw[hS3];exact at_eq e2
 refine wo (ld_Fc f3) ?_
 simp only[len100,b_eql,ws]
 by_cases ht:tm p a=[]
 ·have:=hg0 ht
  subst this
  rw[decide_eq_true (by simp),condP_t]
  refine wo (x:=.tup [.vsl [] .nil,.int .i64 10]) rfl ?_
  exact h0 ht
 ·obtain⟨hgm,u,v,hgu,hgv⟩:=hg1 ht
  have hgl:=hgm.2.1
  have htp:=List.length_pos_iff.2 ht
  rw[decide_eq_false (by omega),cf_]
  have hl3:S3.length=S2.length+1:=by rw[hS3];simp
  refine wo (x:=(.optr S3.length 0 0,S3++[.cells [.vsl [] .nil] true])) rfl ?_
  have r4:=at_app (T:=[Row.cells [.vsl [] .nil] true]) r3
  have f4:=at_app (T:=[Row.cells [.vsl [] .nil] true]) f3
  have o4:=at_new (S:=S3) (r:=Row.cells [.vsl [] .nil] true)
  refine wo (ld_rgI r4) ?_
  refine wo (ld_Fc f4) ?_
  refine f_parts hp hp2 _ g cg (.vsl (u64s g) cg) _ _ (by omega) hgm (frz_pure rfl).1 (fun L pv S5 a1 a2 a3 a4 a5=>?_)
  have keep:∀i,i<(S3++[Row.cells [.vsl [] .nil] true]).length→S5[i]?=(S3++[Row.cells [.vsl [] .nil] true])[i]?:=fun i hi=>a5 i hi (by rw[(frz_pure rfl).2];simp)
  have hl4:(S3++[Row.cells [.vsl [] .nil] true]).length=S3.length+1:=by simp
  rw[hl4]at a3 a4
  refine wo (a3.len rfl) ?_
  rw[Qs_len]
  have r5:S5[0]?=some (.cells [rg p] true):=by rw[keep 0 (by rw[hl4];omega)];exact r4
  have f5:S5[S2.length]?=some (.cells [.vsl (u64s g) cg] true):=by rw[keep _ (by rw[hl4];omega)];exact f4
  have o5:S5[S3.length]?=some (.cells [.vsl [] .nil] true):=by rw[keep _ (by rw[hl4];omega)];exact o4
  have fin:∀(P:List Nat),0∈P→S2.length∈P→S3.length∈P→(∀i∈P,i<S5.length)→(L=[]∨∃rp cap,pv=.osl rp 1 0 L.length cap∧S5[rp]?=some (.cells (Qs L) true)∧rp∈P∧rp≠S2.length∧rp≠S3.length)→
    DenP cT 40 (.loop L11_0) (ups (argE [.vsl (u64s a) ca,.int .u64 (p:Int)]) [(4,(.vsl [] .nil)),(5,(.int .i64 0)),(11,.int .u64 (p:Int)),(12,.bool true),(13,.bool false),(14,.int .u64 (p:Int)),(15,rg p),(6,.optr 0 0 0),(16,rg p),(17,rg p),(18,.vsl (u64s a) ca),(19,v1),(20,.vsl (u64s g) cg),(7,.optr S2.length 0 0),(21,.vsl (u64s g) cg),(22,.int .i64 (g.length:Int)),(23,.bool false),(8,.optr S3.length 0 0),(24,rg p),(25,.vsl (u64s g) cg),(26,pv),(27,.int .i64 (L.length:Int)),(28,(.int .i64 0))]) S5 (K11_0 (fun v S=>wpO (frz S dS v) Q)):=fun P p1 p2 p3 p4 p5=>by
   refine parts_loop (F0:=el g) (Fs:=g) (cf:=cg) (P:=P) (m:=g.length) (ir:=0) (jf:=S2.length) (ko:=S3.length) hp hp2 (by rw[hgm.size hpos];omega) (fun x hx=>?_) (by omega) L.length 0 g [] (.vsl [] .nil) pv S5 _ _ (by omega) (MInv.start hgm) (by simp) ⟨⟨true,r5⟩,⟨cg,f5⟩,o5,by omega,by omega,by omega,p1,p2,p3,p4⟩ (.inl ⟨rfl,rfl⟩) p5 rfl rfl rfl rfl rfl rfl (fun F' O' vo' S6 e' b1 b2 b3 b4 b5=>?_)
   ·obtain⟨⟨n,n1,n2,n3⟩,n4⟩:=a1.1 x.1 (List.mem_map.2 ⟨x,hx,rfl⟩)
    exact⟨⟨n,n1,by omega,n3⟩,n4⟩
   ·have hF1:F'=[1]:=b1.done hp (fun q hq hqd=>by
     obtain⟨l,hl,hlq⟩:=a1.2 q hq hqd
     obtain⟨x,hx,rfl⟩:=List.mem_map.1 hl
     exact b2 x hx q hq hlq)
    subst hF1
    have hsz:=b1.size hp
    rw[hgm.size hpos]at hsz
    refine K11_0e0_ok ?_
    unfold TK11_0e0
    rw[b5]
    refine wo (ld_out b3.o b4) ?_
    have hOl:O'.length≤9:=by
     have:=hsz.1
     simp only[plO,List.length_map]at this
     omega
    refine f_sort b4 hOl (fun x hx=>?_) (fun O2 S7 d1 d2 d3 d4=>?_)
    ·have:=(hsz.2 (x.1.1,x.2) (List.mem_map.2 ⟨x,hx,rfl⟩)).2
     simp only[]at this
     omega
    ·have o7:S7[S3.length]?=some (.cells [vo'] true):=by rw[d4 _ b3.mo];exact b3.o
     refine wo (ld_out o7 d3) ?_
     obtain⟨c,hc⟩:=frz_exP (n:=0) d3
     refine wo hc ?_
     exact h1 _ g O2 c u v hgm (by omega) hgu hgv ⟨MInv.perm b1 (d1.map _),d2⟩
  rcases a3 with⟨_,e⟩|⟨rp,cap,hv,hrow,hrp,hcap⟩
  ·have hL0:L=[]:=List.map_eq_nil_iff.1 e
   exact fin [0,S2.length,S3.length] (by simp) (by simp) (by simp) (fun i hi=>by simp at hi;omega) (.inl hL0)
  ·rw[Qs_len]at hv
   exact fin [rp,0,S2.length,S3.length] (by simp) (by simp) (by simp) (fun i hi=>by
    have:=at_lt hrow
    simp at hi;omega) (.inr ⟨rp,cap,hv,hrow,by simp,by omega,by omega⟩)
end Go.Proofs
namespace Go.Proofs.Pl
def nw:Nat→Nat→Bool
 |0,a=>a<3 || 2^(a-1)%(a*a) != 1 || 3^(a-1)%(a*a) != 1
 |k+1,a=>nw k a&&nw k (a+2^k)
theorem nw_ok:∀(k a:Nat),nw k a=true→∀m,a≤m→m<a+2^k→3≤m→2^(m-1)%(m*m)≠1∨3^(m-1)%(m*m)≠1
 |0,a,h,m,h1,h2,h3=>by
  have:m=a:=by simp at h2;omega
  subst this
  simp only[nw,Bool.or_eq_true,decide_eq_true_eq,bne_iff_ne]at h
  rcases h with (h|h)|h
  ·omega
  ·exact .inl h
  ·exact .inr h
 |k+1,a,h,m,h1,h2,h3=>by
  simp only[nw,Bool.and_eq_true]at h
  rw[Nat.pow_succ]at h2
  rcases Nat.lt_or_ge m (a+2^k)with h4|h4
  ·exact nw_ok k a h.1 m h1 h4 h3
  ·exact nw_ok k (a+2^k) h.2 m h4 (by omega) h3
theorem nw_all:nw 16 0=true:=by decide +kernel
theorem pow_sq{p a:Nat}(hp:1<p)(h:a%p=1):a^p%(p*p)=1:=by
 obtain⟨t,ht⟩:∃t,a=1+p*t:=⟨a/p,by have:=Nat.mod_add_div a p;omega⟩
 have key:∀n:Nat,∃c,(1+p*t)^n=1+n*(p*t)+p*p*c:=fun n=>by
  induction n with
  |zero=>exact⟨0,by simp⟩
  |succ n ih=>
   obtain⟨c,hc⟩:=ih
   exact⟨c+n*t*t+c*p*t,by rw[Nat.pow_succ,hc];grind⟩
 obtain⟨c,hc⟩:=key p
 rw[ht,hc,show 1+p*(p*t)+p*p*c=1+p*p*(t+c)by grind,Nat.add_mul_mod_self_left]
 have:1<p*p:=by
  have:=Nat.mul_le_mul hp hp
  omega
 exact Nat.mod_eq_of_lt this
theorem sq_euler{p w:Nat}(hp:IsP p)(hw:¬p∣w)(h:w^(p*p-1)%(p*p)=1):w^(p-1)%(p*p)=1:=by
 have h2:=hp.1
 have e1:(w^(p-1))^p%(p*p)=1:=pow_sq h2 (fermat1 hp hw)
 have e2:w^(p*p-1)=(w^(p-1))^p*w^(p-1):=by
  rw[←Nat.pow_mul,←Nat.pow_add]
  congr 1
  have:p≤p*p:=Nat.le_mul_of_pos_left p (by omega)
  have e:(p-1)*p=p*p-p:=by rw[Nat.sub_mul,Nat.one_mul]
  omega
 rw[e2,Nat.mul_mod,e1,Nat.one_mul,Nat.mod_mod]at h
 exact h
theorem sq_fails{p:Nat}(hp:IsP p)(hb:p*p<2147483648)(h2:p≠2):2^(p*p-1)%(p*p)≠1∨3^(p*p-1)%(p*p)≠1:=by
 have h1:=hp.1
 have hlt:p<46341:=Classical.byContradiction fun hn=>by
  have:=Nat.mul_le_mul (show 46341≤p by omega) (show 46341≤p by omega)
  omega
 by_cases h3:p=3
 ·subst h3;exact .inl (by decide)
 have n2:¬p∣2:=fun hd=>by have:=Nat.le_of_dvd (by omega) hd;omega
 have n3:¬p∣3:=fun hd=>by have:=Nat.le_of_dvd (by omega) hd;omega
 rcases nw_ok 16 0 nw_all p (by omega) (by omega) (by omega)with h|h
 ·exact .inl fun h4=>h (sq_euler hp n2 h4)
 ·exact .inr fun h4=>h (sq_euler hp n3 h4)
def Fl(N d s w:Nat):Prop:=w^d%N≠1∧w^d%N≠N-1∧∀i,0<i→i<s→sq N (w^d%N) i≠N-1
theorem pow_one_mod{N a:Nat}(hN:1<N)(h:a%N=1)(n:Nat):a^n%N=1:=by
 rw[Nat.pow_mod,h,Nat.one_pow];exact Nat.mod_eq_of_lt hN
theorem fl_of{N d s w:Nat}(hN:1<N)(hs:1≤s)(hd:d*2^s=N-1)(h:w^(N-1)%N≠1):Fl N d s w:=by
 have key:∀i,i<s→sq N (w^d%N) i≠N-1:=fun i hi he=>h (by
  have e1:=sq_pow (p:=N) (x:=w^d%N) (x0:=w) (d:=d) rfl i
  rw[he,Nat.mod_eq_of_lt (by omega)]at e1
  have e2:w^(d*2^(i+1))%N=1:=by
   rw[show d*2^(i+1)=d*2^i+d*2^i by rw[Nat.pow_succ];grind,Nat.pow_add,Nat.mul_mod,←e1]
   obtain⟨k,rfl⟩:∃k,N=k+2:=⟨N-2,by omega⟩
   rw[show k+2-1=k+1 by omega,show(k+1)*(k+1)=1+(k+2)*k by grind,Nat.add_mul_mod_self_left]
   exact Nat.mod_eq_of_lt (by omega)
  have e3:w^(N-1)=(w^(d*2^(i+1)))^2^(s-(i+1)):=by
   rw[←Nat.pow_mul,←hd,Nat.mul_assoc,←Nat.pow_add]
   congr 3
   omega
  rw[e3];exact pow_one_mod hN e2 _)
 refine⟨fun he=>h ?_,fun he=>key 0 (by omega) he,fun i _ hi=>key i hi⟩
 have e3:w^(N-1)=(w^d)^2^s:=by rw[←Nat.pow_mul,hd]
 rw[e3];exact pow_one_mod hN he _
end Go.Proofs.Pl
namespace Go.Proofs
open Go.Sh
open Pl (IsP Fl)
theorem twos2_loop:∀(d s n:Nat) (e:En) (k:X→En→Zt→Prop),0<d→d<2147483648→d*2^s=n→s≤31→2^s*d<2147483648→e 3=.int .u64 (d:Int)→e 4=.int .i64 (s:Int)→
  (∀(d' s':Nat) (e':En),d'%2≠0→d'<2147483648→d'*2^s'=n→s'≤31→e' 3=.int .u64 (d':Int)→e' 4=.int .i64 (s':Int)→e' 0=e 0→k (.exit 0) e' [])→DenP cT 65 (.loop L57_0) e [] k:=by
 intro d
 induction d using Nat.strongRecOn with
 |ind d ih=>
  intro s n e k hd0 hd hn hs hb h3 h4 hk
  refine L57_0_ok ?_
  unfold TL57_0
  simp only[h3,h4]
  refine wo (b_remN (p:=2) (by omega)) ?_
  simp only[b_eql,ws]
  refine condP_dec (fun hev=>?_) (fun hodd=>?_)
  ·refine wo (b_quoN (p:=2) (by omega) (by omega)) ?_
   simp only[b_add,ws]
   have e1:d=d/2*2:=by omega
   have e2:2^s*d=2^(s+1)*(d/2):=by rw[Nat.pow_succ,Nat.mul_assoc,Nat.mul_comm 2 (d/2),←e1]
   have hs2:s+1≤31:=by
    rcases Nat.lt_or_ge s 31 with h|h
    ·omega
    ·have h1:s=31:=by omega
     subst h1
     have:2^31*1≤2^31*d:=Nat.mul_le_mul_left _ hd0
     omega
   rw[wrap64 (by omega) (by omega)]
   refine ih (d/2) (by omega) (s+1) n _ k (by omega) (by omega) ?_ hs2 (by rw[←e2];exact hb) rfl (by rfl) hk
   rw[←hn,Nat.mul_comm,←e2,Nat.mul_comm]
  ·exact hk d s _ (by omega) hd hn hs h3 h4 rfl
theorem pass_any:∀(m j s p x:Nat) (b:Bool) (e:En) (k:X→En→Zt→Prop),j+m=s-1→s≤31→1<p→p≤2147483647→x<p→e 0=.int .u64 (p:Int)→e 7=.int .u64 ((Pl.sq p x j:Nat):Int)→e 8=.bool b→e 44=.int .i64 ((s:Int)-1)→e 45=.int .i64 (j:Int)→
  (∀(e':En) (b':Bool),e' 8=.bool b'→(b'=true→b=true∨∃i,j<i∧i<s∧Pl.sq p x i=p-1)→e' 0=e 0→e' 24=e 24→e' 25=e 25→e' 3=e 3→e' 4=e 4→k (.exit 4) e' [])→DenP cT 65 (.loop L57_2) e [] k:=by
 intro m
 induction m with
 |zero=>
  intro j s p x b e k hj hs hp hp2 hx h0 h7 h8 h44 h45 hk
  refine L57_2_ok ?_
  unfold TL57_2
  simp only[h44,h45,b_lss,ws]
  rw[decide_eq_false (by omega),cf_]
  exact hk _ b h8 (fun h=>.inl h) rfl rfl rfl rfl rfl
 |succ m ih=>
  intro j s p x b e k hj hs hp hp2 hx h0 h7 h8 h44 h45 hk
  have hlt:=Pl.sq_lt (p:=p) (x:=x) (by omega) hx j
  refine L57_2_ok ?_
  unfold TL57_2
  simp only[h0,h7,h8,h44,h45,b_lss,ws,b_mul]
  rw[decide_eq_true (by omega),condP_t,mulU (by omega) (by omega)]
  refine wo (b_remN (by omega)) ?_
  rw[←sq_succ]
  have e1:wrS .i64 ((j:Int)+1)=((j+1:Nat):Int):=by rw[wrap64 (by omega) (by omega)];rfl
  cases b with
  |true=>
   simp only[grdP_tf,pickS_t,ws,b_add,e1]
   exact ih (j+1) s p x true _ k (by omega) hs hp hp2 hx h0 rfl rfl h44 rfl (fun e' b' g8 gb g0 g24 g25 g3 g4=>hk e' b' g8 (fun _=>.inl rfl) g0 g24 g25 g3 g4)
  |false=>
   simp only[grdP_ff,pickS_f,ws,b_add,e1,b_sub,b_eql]
   have e2:wrS .u64 ((p:Int)-1)=((p-1:Nat):Int):=subU (b:=1) (by omega) (by omega)
   rw[e2]
   refine ih (j+1) s p x (decide (((Pl.sq p x (j+1):Nat):Int)=((p-1:Nat):Int))) _ k (by omega) hs hp hp2 hx h0 rfl rfl h44 rfl (fun e' b' g8 gb g0 g24 g25 g3 g4=>hk e' b' g8 (fun hb=>?_) g0 g24 g25 g3 g4)
   rcases gb hb with h|⟨i,h1,h2,h3⟩
   ·exact .inr ⟨j+1,by omega,by omega,by have:=of_decide_eq_true h;omega⟩
   ·exact .inr ⟨i,by omega,h2,h3⟩
theorem wit_bad:∀(m i d s p:Nat) (e:En) (k:X→En→Zt→Prop),i+m=4→1<p→p≤2147483647→d<2147483648→d*2^s=p-1→s≤31→(∀w∈wit,p≠w)→(∃j w,i≤j∧wit[j]?=some w∧Fl p d s w)→e 0=.int .u64 (p:Int)→e 24=witV→e 25=.int .i64 (i:Int)→e 3=.int .u64 (d:Int)→e 4=.int .i64 (s:Int)→
  (∀(e':En),e' 2=.bool false→k .ret e' [])→DenP cT 65 (.loop L57_1) e [] k:=by
 intro m
 induction m with
 |zero=>
  intro i d s p e k hi hp1 hp2 hd hds hs hw hF h0 h24 h25 h3 h4 hk1
  obtain⟨j,w,hj,hw2,_⟩:=hF
  have:=(List.getElem?_eq_some_iff.1 hw2).1
  simp[wit]at this
  omega
 |succ m ih=>
  intro i d s p e k hi hp1 hp2 hd hds hs hall hF h0 h24 h25 h3 h4 hk1
  refine L57_1_ok ?_
  unfold TL57_1
  simp only[h0,h24,h25,h3,h4,b_lss,ws]
  rw[decide_eq_true (by omega),condP_t]
  obtain⟨w,hw⟩:∃w,wit[i]?=some w:=⟨wit[i]'(by simp[wit];omega),by simp⟩
  refine wo (wit_at hw) ?_
  have e1:wrS .i64 ((i:Int)+1)=((i+1:Nat):Int):=by rw[wrap64 (by omega) (by omega)];rfl
  simp only[b_eql,ws,b_add,e1]
  rw[decide_eq_false (by have:=hall w (List.mem_of_getElem? hw);omega),cf_]
  refine cpu rfl rfl (m_pow (by omega) (by omega) (by omega) ?_)
  have hxlt:=Nat.mod_lt (w^d) (show 0<p by omega)
  have hfl:Fl p d s w↔(w^d%p≠1∧w^d%p≠p-1∧∀i,0<i→i<s→Pl.sq p (w^d%p) i≠p-1):=Iff.rfl
  generalize w^d%p=x at hxlt hfl ⊢
  simp only[b_eql,ws]
  have e2:wrS .u64 ((p:Int)-1)=((p-1:Nat):Int):=subU (b:=1) (by omega) (by omega)
  have next:¬Fl p d s w→∀e':En,e' 0=e 0→e' 24=e 24→e' 25=.int .i64 ((i+1:Nat):Int)→e' 3=e 3→e' 4=e 4→DenP cT 65 (.loop L57_1) e' [] k:=by
   intro hn e' g0 g24 g25 g3 g4
   obtain⟨j,w',hj,hw2,hf⟩:=hF
   have hji:j≠i:=fun e=>hn (by
    subst e
    rw[hw]at hw2;cases hw2;exact hf)
   exact ih (i+1) d s p e' k (by omega) hp1 hp2 hd hds hs hall ⟨j,w',by omega,hw2,hf⟩ (g0.trans h0) (g24.trans h24) g25 (g3.trans h3) (g4.trans h4) hk1
  have e3:wrS .i64 ((s:Int)-1)=(s:Int)-1:=wrap64 (by omega) (by omega)
  by_cases hx1:x=1
  ·rw[decide_eq_true (by omega)]
   simp only[grdP_tf,pickS_t,ws,condP_t]
   exact next (fun hf=>(hfl.1 hf).1 hx1) _ rfl rfl rfl rfl rfl
  ·rw[decide_eq_false (by omega)]
   simp only[grdP_ff,pickS_f,ws,b_sub,e2,b_eql]
   refine condP_dec (fun hx2=>next (fun hf=>(hfl.1 hf).2.1 (by omega)) _ rfl rfl rfl rfl rfl) (fun hx2=>?_)
   rw[e3]
   refine pass_any (s-1) 0 s p x false _ _ (by omega) hs (by omega) hp2 hxlt h0 rfl rfl rfl rfl (fun e' b' f8 fb f0 f24 f25 f3 f4=>?_)
   refine K57_2e4_ok ?_
   unfold TK57_2e4
   rw[f8]
   cases b' with
   |false=>
    refine wo (x:=.bool true) rfl ?_
    refine cndT rfl ?_
    exact hk1 _ rfl
   |true=>
    refine wo (x:=.bool false) rfl ?_
    refine cndF rfl ?_
    rw[f25]
    show wpO (bnS .add (some y3) (e 25) (.int .i64 1)) _
    rw[h25]
    simp only[b_add,ws,e1]
    refine next (fun hf=>?_) _ (f0.trans rfl) (f24.trans rfl) rfl (f3.trans rfl) (f4.trans rfl)
    rcases fb rfl with h|⟨j,j1,j2,j3⟩
    ·cases h
    ·exact(hfl.1 hf).2.2 j j1 j2 j3
theorem m_prime_sq{p:Nat}{Q:SV→Prop}(hp:IsP p)(hp2:p≤2147483647)(h:Q (.bool false)):wpO (pW cT 57 [.int .u64 ((p*p:Nat):Int)]) Q:=by
 have hp1:=hp.1
 have hsq:4≤p*p:=Nat.mul_le_mul hp1 hp1
 have hsq2:p*p≤2147483647*2147483647:=Nat.mul_le_mul hp2 hp2
 refine po rfl (F57_ok (k:=fun v S=>wpO (frz S dS v) Q) ?_)
 unfold F57
 simp only[b_lss,ws]
 rw[decide_eq_false (by omega)]
 simp only[grdP_ff,b_geq,ws,pickS_f,b_sub]
 by_cases hbig:2147483648≤p*p
 ·rw[decide_eq_true (by omega),condP_t]
  exact h
 ·rw[decide_eq_false (by omega),cf_]
  have e2:wrS .u64 (((p*p:Nat):Int)-1)=((p*p-1:Nat):Int):=subU (b:=1) (by omega) (by omega)
  rw[e2]
  have hne:∀w∈wit,p*p≠w:=fun w hw he=>by
   simp[wit]at hw
   have:p<3∨3≤p:=by omega
   rcases this with h3|h3
   ·have:p=2:=by omega
    subst this;omega
   ·have:=Nat.mul_le_mul h3 h3
    omega
  refine twos2_loop (p*p-1) 0 (p*p-1) _ _ (by omega) (by omega) (by simp) (by omega) (by simp;omega) rfl rfl (fun d s e' hodd hd hds hs h3 h4 h0=>?_)
  refine K57_0e0_ok ?_
  unfold TK57_0e0
  refine cpu rfl rfl (m_wit ?_)
  refine wit_bad 4 0 d s (p*p) _ _ (by omega) (by omega) (by omega) hd hds hs hne ?_ (h0.trans rfl) rfl rfl h3 h4 (fun e2 g2=>?_)
  ·by_cases h2:p=2
   ·subst h2
    have hs0:s=0:=Nat.eq_zero_of_not_pos fun hs1=>by
     obtain⟨t,rfl⟩:∃t,s=t+1:=⟨s-1,by omega⟩
     rw[Nat.pow_succ,←Nat.mul_assoc]at hds
     omega
    subst hs0
    have hd3:d=3:=by simpa using hds
    subst hd3
    exact⟨0,2,by omega,rfl,by decide,by decide,fun i h1 h2=>by omega⟩
   ·have hs1:1≤s:=Nat.pos_of_ne_zero fun hs0=>by
     subst hs0
     have hpo:p%2=1:=by
      rcases Nat.mod_two_eq_zero_or_one p with h5|h5
      ·rcases hp.2 2 (Nat.dvd_of_mod_eq_zero h5)with h6|h6<;>omega
      ·exact h5
     have:p*p%2=1:=by rw[Nat.mul_mod,hpo]
     simp at hds
     omega
    rcases Pl.sq_fails hp (by omega) h2 with h5|h5
    ·exact⟨0,2,by omega,rfl,Pl.fl_of (by omega) hs1 hds h5⟩
    ·exact⟨1,3,by omega,rfl,Pl.fl_of (by omega) hs1 hds h5⟩
  ·refine K57_1r_ok ?_
   unfold TK57_1r
   rw[g2];exact h
end Go.Proofs
