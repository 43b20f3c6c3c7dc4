/-
  The law's own functions (1).
-/
import Derived.Test.YtilhffelllbggaaGreatPj
import Derived.Test.YtilhffelllbggaaGreatLb
import Derived.Test.YtilhffelllbggaaGreatLa
import Derived.Test.YtilhffelllbggaaGreatPc
import Derived.Test.YtilhffelllbggaaGreatLc
import Derived.Test.YtilhffelllbggaaGreatPe
import Derived.Test.YtilhffelllbggaaGreatPh
set_option linter.unusedVariables false
set_option linter.unusedSimpArgs false
set_option maxRecDepth 10000
namespace Go.Proofs
open Go.Sh
open Pl (cf ev trI nearZ nearL IsP Rd Cg en tm red nv mulL)
theorem Is_snoc{l:List (Int×VC)}{z:Int}{c:VC}:Is l++[I z c]=Is (l++[(z,c)]):=by simp[Is]
theorem pushI{S:Zt}{v:SV}{l:List (Int×VC)}{z:Int}{c:VC}{b:Nat}{k:SV×Zt→SV×Zt→Prop}(hO:OwnA S v 2 (Is l) b)(hl:l.length<100000)
  (h:∀p v' S',OwnA S' v' 2 (Is (l++[(z,c)])) b→Kp S S' b→k p (v',S')):wpO (bslS y44 1 [(0,I z c)] S) fun p=>wpO (appS y44 p.2 v p.1) fun q=>k p q:=by
 refine push (j:=y44) hO (by decide) rfl rfl rfl rfl (by decide) (by rw[Is_len];show(l.length+1)*32≤_;unfold roomS;omega) (by rw[Is_len];unfold roomS;omega) (fun p v' S' h1 h2=>?_)
 rw[Is_snoc]at h1
 exact h p v' S' h1 h2
theorem ints_loop:∀(m i:Nat) (l:List Nat) (o:List (Int×VC)) (cl c1:VC) (S:Zt) (e:En) (k:X→En→Zt→Prop),i+m=l.length→l.length<10000→(∀x∈l,x<4294967296)→o.length=i→Zl o (nv (l.take i)) 1→e 0=.vsl [] .nil→e 2=.vsl (u64s l) cl→e 4=.optr 0 0 0→e 8=.int .i64 (i:Int)→OwnA S (e 7) 2 (Is o) 1→S[0]?=some (.cells [I 1 c1] true)→
  (∀(o':List (Int×VC)) (e':En) (S':Zt),o'.length=l.length→Zl o' (nv l) 1→OwnA S' (e' 7) 2 (Is o') 1→k (.exit 0) e' S')→DenP cT 38 (.loop L116_0) e S k:=by
 have l0:lenS y57 (.vsl [] .nil)=some (.int .i64 0):=rfl
 intro m
 induction m with
 |zero=>
  intro i l o cl c1 S e k hi hl hb hol ho h0 h2 h4 h8 hO hS hk
  refine L116_0_ok ?_
  unfold TL116_0
  simp only[h0,h2,h8,l0,b_lss,ws]
  rw[decide_eq_false (by omega)]
  simp only[grdP_ff,len22,b_lss,ws,pickS_f]
  rw[decide_eq_false (by omega),cf_]
  have ht:l.take i=l:=List.take_of_length_le (by omega)
  rw[ht]at ho
  exact hk o _ S (by omega) ho hO
 |succ m ih=>
  intro i l o cl c1 S e k hi hl hb hol ho h0 h2 h4 h8 hO hS hk
  obtain⟨d,hd⟩:∃d,l[i]?=some d:=⟨l[i]'(by omega),by simp⟩
  have hdb:=hb d (List.mem_of_getElem? hd)
  refine L116_0_ok ?_
  unfold TL116_0
  simp only[h0,h2,h4,h8,l0,b_lss,ws]
  rw[decide_eq_false (by omega)]
  simp only[grdP_ff,len22,b_lss,ws,pickS_f]
  rw[decide_eq_true (by omega),condP_t]
  refine cpu rfl rfl (c31 (l:=[]) (i:=i) (fun p hp=>by cases hp) fun c2 hc2=>?_)
  refine wo (load_I hS) ?_
  refine cpu rfl rfl (r_at ?_)
  rw[hd]
  simp only[Option.getD_some]
  rw[conv2,ws,wrap64 (n:=(d:Int)) (by omega) (by omega)]
  refine cpu rfl rfl (c23 (by omega) (by omega) fun c3 hc3=>?_)
  have hw1:=wd_small (z:=1) (by decide)
  have hwd:=wd_small (z:=(d:Int)) (by omega)
  refine cpu rfl rfl (c26 (by omega) (by omega) fun c4 hc4=>?_)
  have hz:zAt [] i=0:=rfl
  have e1:zAt [] i+1*(d:Int)=(d:Int):=by rw[hz];omega
  have hwm:=wd_mulz hw1 hwd
  refine cpu rfl rfl (c30 (by rw[hz,wd_zero];omega) (by omega) fun c5 hc5=>?_)
  rw[e1]at hc5 ⊢
  refine pushI hO (by omega) (fun pp v' S' hO2 hK2=>?_)
  simp only[b_add,ws]
  rw[sI (by omega)]
  refine ih (i+1) l (o++[((d:Int),c5)]) cl c1 S' _ k (by omega) hl hb (by simp[hol]) ?_ h0 h2 h4 rfl hO2 (hK2.at (by decide) hS) hk
  have e2:nv (l.take (i+1))=nv (l.take i)++[(d:Int)]:=by rw[List.take_add_one,hd];simp[nv]
  rw[e2]
  exact ho.snoc hc5 hwd
theorem r_ints{l:List Nat}{cl:VC}{Q:SV→Prop}(hl:l.length<10000)(hb:∀x∈l,x<4294967296)(h:∀r c',Zl r (trI (nv l)) 1→Q (.vsl (Is r) c')):wpO (pW cT 39 [.vsl (u64s l) cl]) Q:=by
 refine po rfl (F39_ok (k:=fun v S=>wpO (frz S dS v) Q) ?_)
 unfold F39
 refine cpu rfl rfl (c23 (n:=1) (by omega) (by omega) fun c1 hc1=>?_)
 refine cpu rfl rfl ?_
 refine po rfl (F116_ok (k:=fun v S=>wpO (frz S dS v) _) ?_)
 unfold F116
 refine wo rfl ?_
 refine Own.bsl (by decide) rfl (fun v S' hO hK _=>?_)
 refine ints_loop l.length 0 l [] cl c1 S' _ _ (by omega) hl hb rfl (Zl.nil _) rfl rfl rfl rfl hO (hK.at (i:=0) (Nat.zero_lt_one) rfl) (fun o' e' S2 hol ho hO2=>?_)
 refine K116_0e0_ok ?_
 unfold TK116_0e0
 obtain⟨c,_,hfz⟩:=fz_own hO2.own Is_pure
 refine call_fz1 (b:=1) rfl hfz (fun S3 _=>?_)
 refine c32 (by omega) fun c3=>?_
 refine wo (frz_pure rfl).1 ?_
 refine wo (frz_pure rfl).1 ?_
 exact h _ c3 ho.trim
theorem r_residue{z:Int}{c:VC}{p:Nat}{Q:SV→Prop}(hz:wd z<100000)(hcz:c=.nil→z=0)(hp:0<p)(hp2:p<4294967296)(h:Q (.int .u64 (((z%(p:Int)).toNat:Nat):Int))):wpO (pW cT 91 [I z c,.int .u64 (p:Int)]) Q:=by
 refine po rfl (F91_ok (k:=fun v S=>wpO (frz S dS v) Q) ?_)
 unfold F91
 refine wo (x:=(.optr 0 0 0,[.cells [I z c] true])) rfl ?_
 refine wo (load_I (S:=[.cells [I z c] true]) (id:=0) rfl) ?_
 rw[conv2,ws,wrap64 (n:=(p:Int)) (by omega) (by omega)]
 refine cpu rfl rfl (c23 (by omega) (by omega) fun c1 hc1=>?_)
 have hpb:=wd_small (z:=(p:Int)) (by omega)
 refine cpu rfl rfl (w_divmod (by omega) (by omega) (by omega) hcz fun c3 c4 hc3 hc4=>?_)
 iterate 3 refine wo rfl ?_
 refine newII (fun S3 T2 hq3 hr3 hK3 hl3=>?_)
 refine wo (load_I hr3) ?_
 have hr0:=Int.emod_nonneg z (show(p:Int)≠0 by omega)
 have hr1:=Int.emod_lt_of_pos z (show 0<(p:Int)by omega)
 refine cpu rfl rfl (w_small hr0 (by omega) ?_)
 iterate 2 refine wo rfl ?_
 obtain⟨t,ht⟩:=Int.eq_ofNat_of_zero_le hr0
 have htn:(z%(p:Int)).toNat=t:=by omega
 rw[htn]at h
 rw[ht]at hr1 ⊢
 rw[conv25,ws,wrapU64 (by omega) (by omega)]
 exact h
theorem rimage_loop:∀(m i:Nat) (a:List (Int×VC)) (A:List Int) (ca:VC) (N p:Nat) (S:Zt) (e:En) (k:X→En→Zt→Prop),Zl a A N→N<100000→0<p→p<4294967296→i+m=A.length→A.length<100000→e 0=.vsl (Is a) ca→e 1=.int .u64 (p:Int)→e 6=.int .i64 (i:Int)→OwnA S (e 5) 1 (u64s ((List.range i).map (fun i=>(cf A i%(p:Int)).toNat))) 0→
  (∀(e':En) (S':Zt),e' 1=.int .u64 (p:Int)→OwnA S' (e' 5) 1 (u64s ((List.range A.length).map (fun i=>(cf A i%(p:Int)).toNat))) 0→k (.exit 0) e' S')→DenP cT 26 (.loop L27_0) e S k:=by
 intro m
 induction m with
 |zero=>
  intro i a A ca N p S e k ha hN hp hp2 hi hl h0 h1 h6 hO hk
  have hal:=ha.len
  refine L27_0_ok ?_
  unfold TL27_0
  simp only[h0,h6,len24,b_lss,ws]
  rw[decide_eq_false (by omega),cf_]
  rw[show i=A.length by omega]at hO
  exact hk _ S h1 hO
 |succ m ih=>
  intro i a A ca N p S e k ha hN hp hp2 hi hl h0 h1 h6 hO hk
  have hal:=ha.len
  obtain⟨q,hq⟩:∃p,a[i]?=some p:=⟨a[i]'(by omega),by simp⟩
  have hqz:q.1=cf A i:=by rw[←ha.at];unfold zAt;rw[hq]
  have hqb:=cf_bd ha.bd i
  have hqm:=ha.mks q (List.mem_of_getElem? hq)
  rw[hqz]at hqm
  refine L27_0_ok ?_
  unfold TL27_0
  simp only[h0,h1,h6,len24,b_lss,ws]
  rw[decide_eq_true (by omega),condP_t]
  refine wo (idx24 hq) ?_
  refine wo (x:=I q.1 q.2) rfl ?_
  rw[hqz]
  refine cpu rfl rfl (r_residue (by omega) hqm hp hp2 ?_)
  refine push64 hO (by simp;omega) (fun pp v' S' h2 _=>?_)
  simp only[b_add,ws]
  rw[sI (by omega)]
  refine ih (i+1) a A ca N p S' _ k ha hN hp hp2 (by omega) hl h0 h1 rfl ?_ hk
  rw[List.range_succ,List.map_append]
  exact h2
theorem r_image{a:List (Int×VC)}{A:List Int}{ca:VC}{N p:Nat}{Q:SV→Prop}(ha:Zl a A N)(hN:N<100000)(hp:0<p)(hp2:p<4294967296)(hl:A.length<100000)(h:∀c',Q (.vsl (u64s (red p A)) c')):wpO (pW cT 27 [.vsl (Is a) ca,.int .u64 (p:Int)]) Q:=by
 refine po rfl (F27_ok (k:=fun v S=>wpO (frz S dS v) Q) ?_)
 unfold F27
 refine Own.bsl (by decide) rfl (fun v S' hO _ _=>?_)
 refine rimage_loop A.length 0 a A ca N p S' _ _ ha hN hp hp2 (by omega) hl rfl rfl rfl hO (fun e' S2 h1 hO2=>?_)
 refine K27_0e0_ok ?_
 unfold TK27_0e0
 rw[h1]
 obtain⟨c,_,hfz⟩:=fz_own hO2.own u64s_pure
 refine call_fz2 (b:=0) rfl hfz (fz_pure rfl) (fun S3 _=>?_)
 refine r_trim (by simp;omega) hp (fun c' _=>?_)
 rw[Pl.image_eq]
 refine wo (frz_pure rfl).1 ?_
 exact h c'
theorem cmpZ_gt0{a b:Int}:0<cmpZ a b↔b<a:=cmpI_gt0
theorem rnear_loop:∀(k0 i:Nat) (a d:List (Int×VC)) (A:List Int) (ca:VC) (N M:Nat) (m:Int) (cm:VC) (S:Zt) (e:En) (k:X→En→Zt→Prop),Zl a A N→2≤m→(cm=.nil→m=0)→wd m≤M→N<100000→M<100000→i+k0=A.length→A.length<90000→Zl d ((List.range i).map (fun i=>nearZ m (cf A i))) M→
  e 0=.vsl (Is a) ca→e 3=.optr 0 0 0→e 6=.int .i64 (i:Int)→OwnA S (e 5) 2 (Is d) 1→S[0]?=some (.cells [I m cm] true)→
  (∀(d':List (Int×VC)) (e':En) (S':Zt),Zl d' ((List.range A.length).map (fun i=>nearZ m (cf A i))) M→OwnA S' (e' 5) 2 (Is d') 1→k (.exit 0) e' S')→DenP cT 42 (.loop L40_0) e S k:=by
 intro k0
 induction k0 with
 |zero=>
  intro i a d A ca N M m cm S e k ha hm hcm hmM hN hM hi hl hD h0 h3 h6 hO hS hk
  have hal:=ha.len
  refine L40_0_ok ?_
  unfold TL40_0
  simp only[h0,h6,len24,b_lss,ws]
  rw[decide_eq_false (by omega),cf_]
  rw[show i=A.length by omega]at hD
  exact hk d _ S hD hO
 |succ k0 ih=>
  intro i a d A ca N M m cm S e k ha hm hcm hmM hN hM hi hl hD h0 h3 h6 hO hS hk
  have hal:=ha.len
  have hdl:=hD.len
  simp at hdl
  obtain⟨p,hp⟩:∃p,a[i]?=some p:=⟨a[i]'(by omega),by simp⟩
  have hpz:p.1=cf A i:=by rw[←ha.at];unfold zAt;rw[hp]
  have hpb:=cf_bd ha.bd i
  have hpm:=ha.mks p (List.mem_of_getElem? hp)
  rw[hpz]at hpm
  refine L40_0_ok ?_
  unfold TL40_0
  simp only[h0,h3,h6,len24,b_lss,ws]
  rw[decide_eq_true (by omega),condP_t]
  refine wo (idx24 hp) ?_
  refine wo (x:=I p.1 p.2) rfl ?_
  rw[hpz]
  refine wo (load_I hS) ?_
  refine cpu rfl rfl (w_divmod (by omega) (by omega) (by omega) hpm fun c1 c2 hc1 hc2=>?_)
  iterate 3 refine wo rfl ?_
  refine newII (fun S2 T hq2 hr2 hK2 hl2=>?_)
  have hO2:OwnA S2 (e 5) 2 (Is d) 1:=hO.kp hK2 (Nat.le_refl _)
  have hS2:=hK2.at (at_lt hS) hS
  refine wo (load_I hr2) ?_
  refine wo (load_I hr2) ?_
  have hrb:wd (cf A i%m)≤M:=Nat.le_trans (wd_le (mod_abs hm)) hmM
  refine cpu rfl rfl (c30 (by omega) (by omega) fun c3 hc3=>?_)
  refine wo (load_I hS2) ?_
  have hrr:=wd_addz hrb hrb
  refine cpu rfl rfl (c11 (by omega) (by omega) ?_)
  simp only[b_gtr,ws]
  have fin:∀(z:Int) (c:VC) (S3:Zt) (e':En),z=nearZ m (cf A i)→(c=.nil→z=0)→OwnA S3 (e' 5) 2 (Is (d++[(z,c)])) 1→S3[0]?=some (.cells [I m cm] true)→e' 0=.vsl (Is a) ca→e' 3=.optr 0 0 0→e' 6=.int .i64 ((i+1:Nat):Int)→DenP cT 42 (.loop L40_0) e' S3 k:=by
   intro z c S3 e' hz hc hO3 hS3 g0 g3 g6
   refine ih (i+1) a (d++[(z,c)]) A ca N M m cm S3 e' k ha hm hcm hmM hN hM (by omega) hl ?_ g0 g3 g6 hO3 hS3 hk
   rw[List.range_succ,List.map_append]
   subst hz
   exact hD.snoc hc (Nat.le_trans (wd_le (near_abs hm)) hmM)
  by_cases hgt:m<cf A i%m+cf A i%m
  ·rw[decide_eq_true (cmpZ_gt0.2 hgt),condP_t]
   refine wo (load_I hr2) ?_
   refine wo (load_I hS2) ?_
   refine cpu rfl rfl (w_sub (by omega) (by omega) hcm fun c4 hc4=>?_)
   refine wo (store_I hr2 rfl) ?_
   have hK3:Kp S (S2.set (S.length+1) (.cells [I (cf A i%m-m) c4] true)) S.length:=hK2.trans (Kp.set (Nat.le_succ _))
   have hr3:(S2.set (S.length+1) (Row.cells [I (cf A i%m-m) c4] true))[S.length+1]?=some (.cells [I (cf A i%m-m) c4] true):=at_eq hr2
   generalize S2.set (S.length+1) (Row.cells [I (cf A i%m-m) c4] true)=S3 at hK3 hr3 ⊢
   have hO3:OwnA S3 (e 5) 2 (Is d) 1:=hO.kp hK3 (Nat.le_refl _)
   have hS3:=hK3.at (at_lt hS) hS
   refine wo (load_I hr3) ?_
   refine pushI hO3 (by omega) (fun pp v' S4 hO4 hK4=>?_)
   simp only[b_add,ws]
   rw[sI (by omega)]
   exact fin (cf A i%m-m) c4 S4 _ (by unfold nearZ;rw[if_pos hgt]) hc4 hO4 (hK4.at (by decide) hS3) h0 h3 rfl
  ·rw[decide_eq_false (fun h=>hgt (cmpZ_gt0.1 h)),cf_]
   refine wo (load_I hr2) ?_
   refine pushI hO2 (by omega) (fun pp v' S4 hO4 hK4=>?_)
   simp only[b_add,ws]
   rw[sI (by omega)]
   exact fin (cf A i%m) c2 S4 _ (by unfold nearZ;rw[if_neg hgt]) hc2 hO4 (hK4.at (by decide) hS2) h0 h3 rfl
theorem r_near{a:List (Int×VC)}{A:List Int}{ca cm:VC}{N M:Nat}{m:Int}{Q:SV→Prop}(ha:Zl a A N)(hm:2≤m)(hcm:cm=.nil→m=0)(hmM:wd m≤M)(hN:N<100000)(hM:M<100000)(hla:A.length<90000)
  (h:∀r c',Zl r (trI (nearL m A)) M→Q (.vsl (Is r) c')):wpO (pW cT 40 [.vsl (Is a) ca,I m cm]) Q:=by
 refine po rfl (F40_ok (k:=fun v S=>wpO (frz S dS v) Q) ?_)
 unfold F40
 refine wo rfl ?_
 refine Own.bsl (by decide) rfl (fun v S' hO hK _=>?_)
 refine rnear_loop A.length 0 a [] A ca N M m cm S' _ _ ha hm hcm hmM hN hM (by omega) hla (Zl.nil _) rfl rfl rfl hO (hK.at (i:=0) (Nat.zero_lt_one) rfl) (fun d' e' S2 hd' hO2=>?_)
 refine K40_0e0_ok ?_
 unfold TK40_0e0
 have hl:=hd'.len
 simp at hl
 rw[Pl.near_eq]at hd'
 obtain⟨c,_,hfz⟩:=fz_own hO2.own Is_pure
 refine call_fz1 (b:=1) rfl hfz (fun S3 _=>?_)
 refine c32 (by omega) fun c3=>?_
 refine wo (frz_pure rfl).1 ?_
 exact h _ c3 hd'.trim
theorem rpower_loop:∀(m i:Nat) (p K:Nat) (co:VC) (S:Zt) (e:En) (k:X→En→Zt→Prop),i+m=K→K<256→0<p→p<4294967296→e 0=.int .u64 (p:Int)→e 1=.int .i64 (K:Int)→e 4=.optr 0 0 0→e 5=.optr 1 0 0→e 6=.int .i64 (i:Int)→S[1]?=some (.cells [I ((p:Int)^i) co] true)→(co=.nil→(p:Int)^i=0)→(∃x y,S[0]?=some (.cells [.agg [x,y]] true))→
  (∀(e':En) (S':Zt) (co':VC),e' 4=.optr 0 0 0→e' 5=.optr 1 0 0→S'[1]?=some (.cells [I ((p:Int)^K) co'] true)→(co'=.nil→(p:Int)^K=0)→(∃x y,S'[0]?=some (.cells [.agg [x,y]] true))→k (.exit 0) e' S')→DenP cT 19 (.loop L38_0) e S k:=by
 intro m
 induction m with
 |zero=>
  intro i p K co S e k hi hK hp hp2 h0 h1 h4 h5 h6 hS hco hS0 hk
  refine L38_0_ok ?_
  unfold TL38_0
  simp only[h1,h6,b_lss,ws]
  rw[decide_eq_false (by omega),cf_]
  rw[show i=K by omega]at hS hco
  exact hk _ S co h4 h5 hS hco hS0
 |succ m ih=>
  intro i p K co S e k hi hK hp hp2 h0 h1 h4 h5 h6 hS hco hS0 hk
  obtain⟨x,y,hS0⟩:=hS0
  refine L38_0_ok ?_
  unfold TL38_0
  simp only[h0,h1,h5,h6,b_lss,ws]
  rw[decide_eq_true (by omega),condP_t]
  refine wo (load_I hS) ?_
  rw[conv2,ws,wrap64 (n:=(p:Int)) (by omega) (by omega)]
  refine cpu rfl rfl (c23 (by omega) (by omega) fun c1 hc1=>?_)
  have hpb:=wd_small (z:=(p:Int)) (by omega)
  have hpw:=wd_pow (z:=(p:Int)) (by omega) i
  refine cpu rfl rfl (c26 (by omega) (by omega) fun c2 hc2=>?_)
  refine wo (store_I hS rfl) ?_
  simp only[b_add,ws]
  rw[sI (by omega)]
  rw[←Int.pow_succ]at hc2 ⊢
  exact ih (i+1) p K c2 _ _ k (by omega) hK hp hp2 h0 h1 h4 h5 rfl (at_eq hS) hc2 ⟨x,y,at_ne hS0 (by decide)⟩ hk
theorem r_power{p K:Nat}{Q:SV→Prop}(hp:0<p)(hp2:p<4294967296)(hK:K<256)(h:∀c',(c'=.nil→(p:Int)^K=0)→Q (I ((p:Int)^K) c')):wpO (pW cT 38 [.int .u64 (p:Int),.int .i64 (K:Int)]) Q:=by
 refine po rfl (F38_ok (k:=fun v S=>wpO (frz S dS v) Q) ?_)
 unfold F38
 refine wo rfl ?_
 refine cpu rfl rfl (c23 (n:=1) (by omega) (by omega) fun c1 hc1=>?_)
 iterate 2 refine wo rfl ?_
 refine rpower_loop K 0 p K c1 _ _ _ (by omega) hK hp hp2 rfl rfl rfl rfl rfl rfl (by rw[Int.pow_zero];exact hc1) ⟨_,_,rfl⟩ (fun e' S' co' g4 g5 hS' hco' hS0=>?_)
 obtain⟨x,y,hS0⟩:=hS0
 refine K38_0e0_ok ?_
 unfold TK38_0e0
 rw[g4,g5]
 refine wo (load_I hS') ?_
 refine wo (store_I hS0 rfl) ?_
 refine wo (load_I (at_eq hS0)) ?_
 refine wo (frz_pure rfl).1 ?_
 exact h co' hco'
theorem rsame_loop:∀(m i:Nat) (l:List Nat) (c d:VC) (S:Zt) (e:En) (k:X→En→Zt→Prop),i+m=l.length→l.length<1000000→e 0=.vsl (u64s l) c→e 1=.vsl (u64s l) d→e 5=.int .i64 (i:Int)→(∀e',k (.exit 0) e' S)→DenP cT 26 (.loop L12_0) e S k:=by
 intro m
 induction m with
 |zero=>
  intro i l c d S e k hi hl h0 h1 h5 hk
  refine L12_0_ok ?_
  unfold TL12_0
  simp only[h0,h5,len22,b_lss,ws]
  rw[decide_eq_false (by omega),cf_]
  exact hk _
 |succ m ih=>
  intro i l c d S e k hi hl h0 h1 h5 hk
  obtain⟨x,hx⟩:∃x,l[i]?=some x:=⟨l[i]'(by omega),by simp⟩
  refine L12_0_ok ?_
  unfold TL12_0
  simp only[h0,h1,h5,len22,b_lss,ws]
  rw[decide_eq_true (by omega),condP_t]
  refine wo (idx22 hx) (wo ld25 (wo (idx22 hx) (wo ld25 ?_)))
  simp only[b_neq,ws,b_add]
  rw[decide_eq_false (by simp),cf_,sI (by omega)]
  exact ih (i+1) l c d S _ k (by omega) hl h0 h1 rfl hk
theorem r_same{l:List Nat}{c d:VC}{Q:SV→Prop}(hl:l.length<1000000)(h:Q (.bool true)):wpO (pW cT 12 [.vsl (u64s l) c,.vsl (u64s l) d]) Q:=by
 refine po rfl (F12_ok (k:=fun v S=>wpO (frz S dS v) Q) ?_)
 unfold F12
 simp only[len22,b_neq,ws]
 rw[decide_eq_false (by simp),cf_]
 refine rsame_loop l.length 0 l c d [] _ _ (by omega) hl rfl rfl rfl (fun e'=>?_)
 refine K12_0e0_ok ?_
 unfold TK12_0e0
 exact h
theorem sameInt_loop:∀(m i:Nat) (l:List Nat) (b:Bool) (c d:VC) (S:Zt) (e:En) (k:X→En→Zt→Prop),i+m=l.length→l.length<1000000→e 2=.optr 0 0 0→e 3=.optr 1 0 0→S[0]?=some (.cells [.agg [.bool b,.vsl (u32s l) c]] true)→S[1]?=some (.cells [.agg [.bool b,.vsl (u32s l) d]] true)→e 5=.int .i64 (i:Int)→(∀e',k (.exit 0) e' S)→DenP cT 38 (.loop L31_0) e S k:=by
 intro m
 have f0:faS cT y44 (.optr 0 0 0) 1=some (.optr 0 0 1):=rfl
 have f1:faS cT y44 (.optr 1 0 0) 1=some (.optr 1 0 1):=rfl
 have ld:∀(S:Zt) (id:Nat) (b:Bool) (l:List Nat) (c:VC),S[id]?=some (.cells [.agg [.bool b,.vsl (u32s l) c]] true)→ldS y42 S (.optr id 0 1)=some (.vsl (u32s l) c):=fun S id b l c h=>by rw[load_row h rfl];rfl
 have ln:∀(l:List Nat) (c:VC),lenS y42 (.vsl (u32s l) c)=some (.int .i64 (l.length:Int)):=fun l c=>by rw[len_vsl rfl];simp[u32s]
 have ix:∀(l:List Nat) (c:VC) (i d:Nat),l[i]?=some d→ixS cT y42 (.vsl (u32s l) c) (.int .i64 (i:Int))=some (.vptr (.int .u32 (d:Int))):=fun l c i d h=>idx_vsl (j:=y23) rfl rfl (by decide) (by simp[u32s,h]) rfl
 have l23:∀(S:Zt) (d:Nat),ldS y23 S (.vptr (.int .u32 (d:Int)))=some (.int .u32 (d:Int)):=fun S d=>rfl
 induction m with
 |zero=>
  intro i l b c d S e k hi hl h2 h3 hS0 hS1 h5 hk
  refine L31_0_ok ?_
  unfold TL31_0
  simp only[h2,h3,h5,f0,f1,ws]
  refine wo (ld _ _ _ _ _ hS0) ?_
  simp only[ln,b_lss,ws]
  rw[decide_eq_false (by omega),cf_]
  exact hk _
 |succ m ih=>
  intro i l b c d S e k hi hl h2 h3 hS0 hS1 h5 hk
  obtain⟨x,hx⟩:∃x,l[i]?=some x:=⟨l[i]'(by omega),by simp⟩
  refine L31_0_ok ?_
  unfold TL31_0
  simp only[h2,h3,h5,f0,f1,ws]
  refine wo (ld _ _ _ _ _ hS0) ?_
  simp only[ln,b_lss,ws]
  rw[decide_eq_true (by omega),condP_t]
  refine wo (ld _ _ _ _ _ hS0) ?_
  refine wo (ix _ _ _ _ hx) (wo (l23 _ _) ?_)
  refine wo (ld _ _ _ _ _ hS1) ?_
  refine wo (ix _ _ _ _ hx) (wo (l23 _ _) ?_)
  simp only[b_neq,ws,b_add]
  rw[decide_eq_false (by simp),cf_,sI (by omega)]
  exact ih (i+1) l b c d S _ k (by omega) hl h2 h3 hS0 hS1 rfl hk
theorem r_sameInt{z:Int}{c d:VC}{Q:SV→Prop}(hz:wd z<100000)(h:Q (.bool true)):wpO (pW cT 31 [I z c,I z d]) Q:=by
 refine po rfl (F31_ok (k:=fun v S=>wpO (frz S dS v) Q) ?_)
 unfold F31
 unfold wd at hz
 have ln:∀(l:List Nat) (c:VC),lenS y42 (.vsl (u32s l) c)=some (.int .i64 (l.length:Int)):=fun l c=>by rw[len_vsl rfl];simp[u32s]
 refine wo (x:=(.optr 0 0 0,[.cells [I z c] true])) rfl ?_
 refine wo (x:=(.optr 1 0 0,[.cells [I z c] true,.cells [I z d] true])) rfl ?_
 refine wo (x:=.optr 0 0 0) rfl (wo (x:=.bool (decide (z<0))) rfl (wo (x:=.optr 1 0 0) rfl (wo (x:=.bool (decide (z<0))) rfl ?_)))
 refine wo (x:=.bool false) ?_ ?_
 ·cases decide (z<0)<;>rfl
 simp only[grdP_ff]
 refine wo (x:=.optr 0 0 1) rfl (wo (x:=.vsl (u32s (encN z.natAbs)) c) rfl ?_)
 refine wo (ln _ _) ?_
 refine wo (x:=.optr 1 0 1) rfl (wo (x:=.vsl (u32s (encN z.natAbs)) d) rfl ?_)
 refine wo (ln _ _) ?_
 simp only[b_neq,ws,pickS_f]
 rw[decide_eq_false (by simp),cf_]
 refine sameInt_loop (encN z.natAbs).length 0 (encN z.natAbs) (decide (z<0)) c d _ _ _ (by omega) (by omega) rfl rfl rfl rfl rfl (fun e'=>?_)
 refine K31_0e0_ok ?_
 unfold TK31_0e0
 exact h
theorem sameInts_loop:∀(m i:Nat) (a b:List (Int×VC)) (A:List Int) (ca cb:VC) (N M:Nat) (S:Zt) (e:En) (k:X→En→Zt→Prop),Zl a A N→Zl b A M→N<100000→i+m=A.length→A.length<1000000→e 0=.vsl (Is a) ca→e 1=.vsl (Is b) cb→e 5=.int .i64 (i:Int)→(∀e',k (.exit 0) e' S)→DenP cT 27 (.loop L30_0) e S k:=by
 intro m
 induction m with
 |zero=>
  intro i a b A ca cb N M S e k ha hb hN hi hl h0 h1 h5 hk
  have hal:=ha.len
  refine L30_0_ok ?_
  unfold TL30_0
  simp only[h0,h5,len24,b_lss,ws]
  rw[decide_eq_false (by omega),cf_]
  exact hk _
 |succ m ih=>
  intro i a b A ca cb N M S e k ha hb hN hi hl h0 h1 h5 hk
  have hal:=ha.len
  have hbl:=hb.len
  obtain⟨x,hx⟩:∃x,a[i]?=some x:=⟨a[i]'(by omega),by simp⟩
  obtain⟨y,hy⟩:∃x,b[i]?=some x:=⟨b[i]'(by omega),by simp⟩
  have hxz:x.1=cf A i:=by rw[←ha.at];unfold zAt;rw[hx]
  have hyz:y.1=cf A i:=by rw[←hb.at];unfold zAt;rw[hy]
  have hxb:=cf_bd ha.bd i
  refine L30_0_ok ?_
  unfold TL30_0
  simp only[h0,h1,h5,len24,b_lss,ws]
  rw[decide_eq_true (by omega),condP_t]
  refine wo (idx24 hx) (wo (x:=I x.1 x.2) rfl (wo (idx24 hy) (wo (x:=I y.1 y.2) rfl ?_)))
  rw[hxz,hyz]
  refine cpu rfl rfl (r_sameInt (by omega) ?_)
  simp only[u_not,ws,Bool.not_true,cf_,b_add]
  rw[sI (by omega)]
  exact ih (i+1) a b A ca cb N M S _ k ha hb hN (by omega) hl h0 h1 rfl hk
theorem r_sameInts{a b:List (Int×VC)}{A:List Int}{ca cb:VC}{N M:Nat}{Q:SV→Prop}(ha:Zl a A N)(hb:Zl b A M)(hN:N<100000)(hl:A.length<1000000)(h:Q (.bool true)):wpO (pW cT 30 [.vsl (Is a) ca,.vsl (Is b) cb]) Q:=by
 refine po rfl (F30_ok (k:=fun v S=>wpO (frz S dS v) Q) ?_)
 unfold F30
 have hal:=ha.len
 have hbl:=hb.len
 simp only[len24,b_neq,ws]
 rw[decide_eq_false (by omega),cf_]
 refine sameInts_loop A.length 0 a b A ca cb N M [] _ _ ha hb hN (by omega) hl rfl rfl rfl (fun e'=>?_)
 refine K30_0e0_ok ?_
 unfold TK30_0e0
 exact h
theorem rimul_inner:∀(m:Nat) (a b:List (Int×VC)) (A B:List Int) (ca cb:VC) (NA NB n i s:Nat) (w:Int) (c:VC) (S:Zt) (e:En) (k:X→En→Zt→Prop),Zl a A NA→Zl b B NB→NA<50000→NB<50000→i+m=n+1→n≤10000→wd w≤NA+NB+i→
  e 0=.vsl (Is a) ca→e 1=.vsl (Is b) cb→e 6=.int .i64 (n:Int)→e 7=.optr s 0 0→e 8=.int .i64 (i:Int)→S[s]?=some (.cells [I w c] true)→(c=.nil→w=0)→
  (∀(e':En) (S':Zt) (c':VC),e' 0=.vsl (Is a) ca→e' 1=.vsl (Is b) cb→e' 5=e 5→e' 6=.int .i64 (n:Int)→e' 7=.optr s 0 0→S'[s]?=some (.cells [I (w+Pl.csum A B n i m) c'] true)→(c'=.nil→w+Pl.csum A B n i m=0)→wd (w+Pl.csum A B n i m)≤NA+NB+(n+1)→Kp S S' s→k (.exit 2) e' S')→
  DenP cT 43 (.loop L42_1) e S k:=by
 intro m
 induction m with
 |zero=>
  intro a b A B ca cb NA NB n i s w c S e k ha hb hNA hNB hi hn hw h0 h1 h6 h7 h8 hS hc hk
  refine L42_1_ok ?_
  unfold TL42_1
  simp only[h6,h8,b_leq,ws]
  rw[decide_eq_false (by omega),cf_]
  have e0:w+Pl.csum A B n i 0=w:=by simp[Pl.csum]
  refine hk _ S c h0 h1 rfl h6 h7 ?_ ?_ ?_ (Kp.refl _ _)
  ·rw[e0];exact hS
  ·rw[e0];exact hc
  ·rw[e0];omega
 |succ m ih=>
  intro a b A B ca cb NA NB n i s w c S e k ha hb hNA hNB hi hn hw h0 h1 h6 h7 h8 hS hc hk
  refine L42_1_ok ?_
  unfold TL42_1
  simp only[h0,h1,h6,h7,h8,b_leq,ws]
  rw[decide_eq_true (by omega),condP_t]
  refine wo (load_I hS) ?_
  refine cpu rfl rfl (c31 ha.mks fun c1 hc1=>?_)
  have e1:wrS .i64 ((n:Int)-(i:Int))=((n-i:Nat):Int):=by rw[wrap64 (by omega) (by omega)];omega
  simp only[b_sub,ws,e1]
  refine cpu rfl rfl (c31 hb.mks fun c2 hc2=>?_)
  rw[ha.at,hb.at]
  have hab:=cf_bd ha.bd i
  have hbb:=cf_bd hb.bd (n-i)
  refine cpu rfl rfl (c26 (by omega) (by omega) fun c3 hc3=>?_)
  have hmz:=wd_mulz hab hbb
  refine cpu rfl rfl (c30 (by omega) (by omega) fun c4 hc4=>?_)
  have hadd:=wd_addz (n:=NA+NB+i) hw (show wd (cf A i*cf B (n-i))≤NA+NB+i by omega)
  refine wo (store_I hS rfl) ?_
  simp only[b_add,ws]
  rw[sI (by omega)]
  have hassoc:w+cf A i*cf B (n-i)+Pl.csum A B n (i+1) m=w+Pl.csum A B n i (m+1):=by simp only[Pl.csum];omega
  refine ih a b A B ca cb NA NB n (i+1) s (w+cf A i*cf B (n-i)) c4 _ _ k ha hb hNA hNB (by omega) hn (by omega) h0 h1 h6 h7 rfl (at_eq hS) hc4 ?_
  intro e' S' c' g0 g1 g5 g6 g7 hS' hc' hw' hfr
  rw[hassoc]at hS' hc' hw'
  exact hk e' S' c' g0 g1 g5 g6 g7 hS' hc' hw' ((Kp.set (Nat.le_refl _)).trans hfr)
theorem rimul_outer:∀(m n:Nat) (a b o:List (Int×VC)) (A B:List Int) (ca cb:VC) (NA NB M:Nat) (S:Zt) (e:En) (k:X→En→Zt→Prop),Zl a A NA→Zl b B NB→NA<50000→NB<50000→n+m=A.length+B.length-1→0<A.length→0<B.length→A.length+B.length≤10000→M=NA+NB+(A.length+B.length)→Zl o ((List.range n).map (Pl.conv A B)) M→
  e 0=.vsl (Is a) ca→e 1=.vsl (Is b) cb→e 6=.int .i64 (n:Int)→OwnA S (e 5) 2 (Is o) 0→
  (∀(e':En) (S':Zt) (o':List (Int×VC)),Zl o' ((List.range (A.length+B.length-1)).map (Pl.conv A B)) M→OwnA S' (e' 5) 2 (Is o') 0→k (.exit 0) e' S')→
  DenP cT 43 (.loop L42_0) e S k:=by
 intro m
 induction m with
 |zero=>
  intro n a b o A B ca cb NA NB M S e k ha hb hNA hNB hm hA hB hl hM ho h0 h1 h6 hO hk
  have hal:=ha.len
  have hbl:=hb.len
  refine L42_0_ok ?_
  unfold TL42_0
  simp only[h0,h1,h6,len24,b_add,b_lss,ws]
  rw[sI (by omega),addI (by omega)]
  rw[decide_eq_false (by omega),cf_]
  rw[show n=A.length+B.length-1 by omega]at ho
  exact hk _ S o ho hO
 |succ m ih=>
  intro n a b o A B ca cb NA NB M S e k ha hb hNA hNB hm hA hB hl hM ho h0 h1 h6 hO hk
  have hal:=ha.len
  have hbl:=hb.len
  have hol:=ho.len
  simp at hol
  refine L42_0_ok ?_
  unfold TL42_0
  simp only[h0,h1,h6,len24,b_add,b_lss,ws]
  rw[sI (by omega),addI (by omega)]
  rw[decide_eq_true (by omega),condP_t]
  refine cpu rfl rfl (c23 (n:=0) (by omega) (by omega) fun c0 hc0=>?_)
  refine newI (fun S1 hn1 hK1 hl1=>?_)
  have hO1:OwnA S1 (e 5) 2 (Is o) 0:=hO.kp hK1 (Nat.le_refl _)
  have hlt:=hO.own.lt
  refine rimul_inner (n+1) a b A B ca cb NA NB n 0 S.length 0 c0 S1 _ _ ha hb hNA hNB (by omega) (by omega) (by rw[wd_zero];omega) h0 h1 h6 rfl rfl hn1 (fun _=>rfl) ?_
  intro e' S' c' g0 g1 g5 g6 g7 hS' hc' hw' hfr
  rw[Int.zero_add]at hS' hc' hw'
  have h5':e' 5=e 5:=g5
  have hO2:OwnA S' (e' 5) 2 (Is o) 0:=by
   rw[h5']
   exact hO.kp (hK1.trans hfr) (Nat.le_refl _)
  refine K42_1e2_ok ?_
  unfold TK42_1e2
  simp only[g6,g7]
  refine wo (load_I hS') ?_
  refine pushI hO2 (by omega) (fun pp v' S4 hO4 hK4=>?_)
  simp only[b_add,ws]
  rw[sI (by omega)]
  refine ih (n+1) a b (o++[(Pl.csum A B n 0 (n+1),c')]) A B ca cb NA NB M S4 _ k ha hb hNA hNB (by omega) hA hB hl hM ?_ g0 g1 rfl hO4 hk
  rw[List.range_succ,List.map_append]
  exact ho.snoc hc' (by omega)
theorem r_imul{a b:List (Int×VC)}{A B:List Int}{ca cb:VC}{NA NB:Nat}{Q:SV→Prop}(ha:Zl a A NA)(hb:Zl b B NB)(hNA:NA<50000)(hNB:NB<50000)(hA:A≠[])(hB:B≠[])(hl:A.length+B.length≤10000)
  (h:∀r c',Zl r (trI (mulL A B)) (NA+NB+(A.length+B.length))→Q (.vsl (Is r) c')):wpO (pW cT 42 [.vsl (Is a) ca,.vsl (Is b) cb]) Q:=by
 refine po rfl (F42_ok (k:=fun v S=>wpO (frz S dS v) Q) ?_)
 unfold F42
 have hA1:=List.length_pos_iff.2 hA
 have hB1:=List.length_pos_iff.2 hB
 refine Own.bsl (by decide) rfl (fun v S' hO _ _=>?_)
 refine rimul_outer (A.length+B.length-1) 0 a b [] A B ca cb NA NB _ S' _ _ ha hb hNA hNB (by omega) hA1 hB1 hl rfl (Zl.nil _) rfl rfl rfl hO (fun e' S2 o' ho hO2=>?_)
 refine K42_0e0_ok ?_
 unfold TK42_0e0
 have hl':=ho.len
 simp at hl'
 rw[Pl.imul_eq A B hA hB]at ho
 obtain⟨c,_,hfz⟩:=fz_own hO2.own Is_pure
 refine call_fz1 (b:=0) rfl hfz (fun S3 _=>?_)
 refine c32 (by omega) fun c3=>?_
 refine wo (frz_pure rfl).1 ?_
 exact h _ c3 ho.trim
open Pl (Mo MoI PF PD Bz Cop IsGcd prN dsum)
def i8s(l:List Int):List SV:=l.map fun z=>SV.int .i8 z
@[simp] theorem i8s_len{l:List Int}:(i8s l).length=l.length:=by simp[i8s]
theorem i8s_get{l:List Int}{n:Nat}{z:Int}(h:l[n]?=some z):(i8s l)[n]?=some (.int .i8 z):=by simp[i8s,h]
def Rng(l:List Int):Prop:=∀z∈l,-128≤z∧z≤127
theorem sealS_ne:∀(l:List Nat) (S:Zt) (i:Nat),i∉l→(sealS S l)[i]?=S[i]?
 |[],S,i,h=>rfl
 |id::r,S,i,h=>by
  simp only[List.mem_cons,not_or]at h
  unfold sealS
  rw[sealS_ne r _ i h.2]
  split
  ·rw[List.getElem?_set,if_neg (fun e=>h.1 e.symm)]
  ·rfl
theorem sealS_len':∀(l:List Nat) (S:Zt),(sealS S l).length=S.length
 |[],S=>rfl
 |id::r,S=>by
  unfold sealS
  rw[sealS_len' r]
  split
  ·simp
  ·rfl
def FzP(S:Zt)(P:Nat→Prop)(v v':SV):Prop:=frz S dS v=some v'∧∀i∈refs S dS v,P i
theorem fzp_pure{S:Zt}{P:Nat→Prop}{v:SV}(h:pureS v=true):FzP S P v v:=by
 have:=frz_pure (S:=S) h
 exact⟨this.1,by rw[this.2];intro i hi;cases hi⟩
theorem call_ex1{cfg:Cfg}{f:FuncId}{x x':SV}{S:Zt}{P:Nat→Prop}{k:SV×Zt→Prop}(hm:cfg.mode f=.pure)(h1:FzP S P x x')
  (hk:∀S',(∀i,¬P i→S'[i]?=S[i]?)→Sn S S'→S'.length=S.length→wpO (pW cfg f [x']) fun v=>k (v,S')):wpO (cW cfg f [x] S) k:=by
 refine call_frz (args':=[x']) hm ?_ ?_
 ·simp only[List.mapM_cons,List.mapM_nil,h1.1,Option.pure_def,Option.bind_eq_bind,Option.bind_some]
 ·refine hk _ (fun i hi=>sealS_ne _ _ i (fun hm=>hi ?_)) (fun i es lv hi=>sealS_in _ _ i es lv hi) (sealS_len' _ _)
  simp only[List.flatMap_cons,List.flatMap_nil,List.append_nil]at hm
  exact h1.2 i hm
theorem call_ex3{cfg:Cfg}{f:FuncId}{x x' y y' z z':SV}{S:Zt}{P:Nat→Prop}{k:SV×Zt→Prop}(hm:cfg.mode f=.pure)(h1:FzP S P x x')(h2:FzP S P y y')(h3:FzP S P z z')
  (hk:∀S',(∀i,¬P i→S'[i]?=S[i]?)→Sn S S'→S'.length=S.length→wpO (pW cfg f [x',y',z']) fun v=>k (v,S')):wpO (cW cfg f [x,y,z] S) k:=by
 refine call_frz (args':=[x',y',z']) hm ?_ ?_
 ·simp only[List.mapM_cons,List.mapM_nil,h1.1,h2.1,h3.1,Option.pure_def,Option.bind_eq_bind,Option.bind_some]
 ·refine hk _ (fun i hi=>sealS_ne _ _ i (fun hm=>hi ?_)) (fun i es lv hi=>sealS_in _ _ i es lv hi) (sealS_len' _ _)
  simp only[List.flatMap_cons,List.flatMap_nil,List.append_nil,List.mem_append]at hm
  rcases hm with hm|hm|hm
  ·exact h1.2 i hm
  ·exact h2.2 i hm
  ·exact h3.2 i hm
theorem fzp_row{S:Zt}{P:Nat→Prop}{id:Nat}{l:List Nat}{lv:Bool}(h:S[id]?=some (.cells (u64s l) lv))(hP:P id):FzP S P (.osl id 1 0 l.length (some l.length)) (.vsl (u64s l) .exact):=by
 have ht:((u64s l).drop 0).take l.length=u64s l:=by rw[List.drop_zero,List.take_of_length_le (by rw[u64s_len];omega)]
 obtain⟨h1,h2⟩:=frz_row (sz:=1) (cap:=some l.length) (off:=0) (len:=l.length) h (by rw[u64s_len];omega) (by rw[ht];exact u64s_pure)
 rw[ht,if_pos rfl]at h1
 exact⟨h1,by rw[h2];intro i hi;simp at hi;subst hi;exact hP⟩
def El(S:Zt)(b id:Nat)(x:SV)(q:List Nat×VC):Prop:=q.2=.exact∧∃g lv,x=.osl g 1 0 q.1.length (some q.1.length)∧S[g]?=some (.cells (u64s q.1) lv)∧4≤g∧g<b∧g≠id
def NL(S:Zt)(v:SV)(L:List (List Nat×VC))(b:Nat):Prop:=(v=.vsl [] .nil∧L=[])∨∃id es,v=.osl id 1 0 es.length none∧S[id]?=some (.cells es true)∧4≤id∧id<b∧es.length=L.length∧∀(i:Nat) (x:SV) (q:List Nat×VC),es[i]?=some x→L[i]?=some q→El S b id x q
theorem NL.keep{S T:Zt}{v:SV}{L:List (List Nat×VC)}{b c:Nat}(h:NL S v L b)(hk:∀i,4≤i→i<b→T[i]?=S[i]?)(hc:b≤c):NL T v L c:=by
 rcases h with h|⟨id,es,h1,h2,h3,h4,h5,h6⟩
 ·exact .inl h
 ·refine .inr ⟨id,es,h1,by rw[hk id h3 h4];exact h2,h3,by omega,h5,fun i x q hx hq=>?_⟩
  obtain⟨a1,g,lv,a2,a3,a4,a5,a6⟩:=h6 i x q hx hq
  exact⟨a1,g,lv,a2,by rw[hk g a4 a5];exact a3,a4,by omega,a6⟩
theorem NL.one{S:Zt}{v:SV}{L:List (List Nat×VC)}{b:Nat}(h:NL S v L b):oneS v=true:=by
 rcases h with⟨rfl,_⟩|⟨id,es,rfl,_⟩<;>rfl
theorem NL.push{S:Zt}{v:SV}{L:List (List Nat×VC)}{b gid:Nat}{l:List Nat}{lv:Bool}{K:SV×Zt→SV×Zt→Prop}(h:NL S v L b)(hb:4≤b)(hg:S[gid]?=some (.cells (u64s l) lv))(hgb:b≤gid)(hL:L.length<100000)
  (hk:∀p v' S',NL S' v' (L++[(l,.exact)]) S'.length→oneS v'=true→v'.n=1→flatS v'=true→(∀i,i<4→S'[i]?=S[i]?)→S'[gid]?=some (.cells (u64s l) lv)→K p (v',S')) :
  wpO (bslS y22 1 [(0,.osl gid 1 0 l.length (some l.length))] S) fun p=>wpO (appS y22 p.2 v p.1) fun q=>K p q:=by
 have hgl:=at_lt hg
 have e1:bslS y22 1 [(0,.osl gid 1 0 l.length (some l.length))] S=some (.osl S.length 1 0 1 (some 1),S++[.cells [.osl gid 1 0 l.length (some l.length)] true]):=rfl
 refine wo e1 ?_
 have hel:elemsS (S++[.cells [.osl gid 1 0 l.length (some l.length)] true]) (.osl S.length 1 0 1 (some 1))=some [.osl gid 1 0 l.length (some l.length)]:=by
  unfold elemsS
  simp only[at_new]
  rfl
 rcases h with⟨rfl,rfl⟩|⟨id,es,rfl,h2,h3,h4,h5,h6⟩
 ·have hap:appS y22 (S++[.cells [.osl gid 1 0 l.length (some l.length)] true]) (.vsl [] .nil) (.osl S.length 1 0 1 (some 1))=some (.osl (S.length+1) 1 0 1 none,(S++[.cells [.osl gid 1 0 l.length (some l.length)] true])++[.cells [.osl gid 1 0 l.length (some l.length)] true]):=by
   unfold appS
   rw[if_pos (show y22.zero.n=y22.size from rfl)]
   unfold appendS
   rw[hel]
   simp only[Option.bind_some]
   have hl:(S++[Row.cells [.osl gid 1 0 l.length (some l.length)] true]).length=S.length+1:=by simp
   rw[hl]
   rfl
  refine wo hap (hk _ _ _ ?_ rfl rfl rfl ?_ ?_)
  ·refine .inr ⟨S.length+1,[.osl gid 1 0 l.length (some l.length)],rfl,?_,by omega,by simp,rfl,?_⟩
   ·have:=at_new (S:=S++[.cells [.osl gid 1 0 l.length (some l.length)] true]) (r:=.cells [.osl gid 1 0 l.length (some l.length)] true)
    rw[List.length_append]at this
    exact this
   ·intro i x q hx hq
    cases i with
    |zero=>
     cases hx
     simp at hq
     subst hq
     exact⟨rfl,gid,lv,rfl,at_app (at_app hg),by omega,by simp;omega,by omega⟩
    |succ i=>cases hx
  ·intro i hi
   rw[List.getElem?_append_left (by simp;omega),List.getElem?_append_left (by omega)]
  ·exact at_app (at_app hg)
 ·have hid:=at_lt h2
  have hap:=app_row (j:=y22) (S:=S++[.cells [.osl gid 1 0 l.length (some l.length)] true]) (id:=id) (off:=0) (len:=es.length) (cap:=none) (es:=es) (xs:=[.osl gid 1 0 l.length (some l.length)]) (x:=.osl S.length 1 0 1 (some 1)) rfl (by decide) hel (by simp) rfl (at_app h2) (by show(es.length+1)*24≤_;unfold roomS;omega) (by show es.length+1≤_;unfold roomS;omega) (by omega) (.inl rfl)
  rw[if_pos rfl,List.drop_zero,List.take_length]at hap
  refine wo hap (hk _ _ _ ?_ rfl rfl rfl ?_ ?_)
  ·have hl:(S++[Row.cells [.osl gid 1 0 l.length (some l.length)] true]).length=S.length+1:=by simp
   have keep:∀g r,g≠id→S[g]?=some r→(((S++[Row.cells [.osl gid 1 0 l.length (some l.length)] true]).set id .dead)++[.cells (es++[.osl gid 1 0 l.length (some l.length)]) true])[g]?=some r:=fun g r hne hr=>at_app (at_ne (at_app hr) (Ne.symm hne))
   refine .inr ⟨S.length+1,es++[.osl gid 1 0 l.length (some l.length)],by rw[hl];simp;rfl,?_,by omega,by simp,by simp[h5],?_⟩
   ·have:=at_new (S:=(S++[Row.cells [.osl gid 1 0 l.length (some l.length)] true]).set id .dead) (r:=.cells (es++[.osl gid 1 0 l.length (some l.length)]) true)
    rw[List.length_set,hl]at this
    exact this
   ·intro i x q hx hq
    by_cases hi:i<es.length
    ·rw[List.getElem?_append_left hi]at hx
     rw[List.getElem?_append_left (by omega)]at hq
     obtain⟨a1,g,lv2,a2,a3,a4,a5,a6⟩:=h6 i x q hx hq
     have:=at_lt a3
     exact⟨a1,g,lv2,a2,keep _ _ a6 a3,a4,by simp;omega,by omega⟩
    ·have hi2:i=es.length:=by
      have:=(List.getElem?_eq_some_iff.1 hx).1
      simp at this
      omega
     subst hi2
     rw[List.getElem?_append_right (Nat.le_refl _),Nat.sub_self]at hx
     rw[h5,List.getElem?_append_right (Nat.le_refl _),Nat.sub_self]at hq
     cases hx;cases hq
     exact⟨rfl,gid,lv,rfl,keep _ _ (by omega) hg,by omega,by simp;omega,by omega⟩
  ·intro i hi
   rw[List.getElem?_append_left (by simp;omega),List.getElem?_set,if_neg (by omega),List.getElem?_append_left (by omega)]
  ·exact at_app (at_ne (at_app hg) (by omega))
theorem mapM_eq{α β:Type}{f:α→Option β}:∀{l:List α} {l':List β},l.length=l'.length→(∀(i:Nat) x y,l[i]?=some x→l'[i]?=some y→f x=some y)→l.mapM f=some l'
 |[],[],_,_=>rfl
 |a::l,b::l',hl,h=>by
  have h0:=h 0 a b rfl rfl
  have hr:=mapM_eq (f:=f) (l:=l) (l':=l') (by simpa using hl) (fun i x y hx hy=>h (i+1) x y hx hy)
  simp only[List.mapM_cons,h0,hr,Option.pure_def,Option.bind_eq_bind,Option.bind_some]
theorem NL.frz{S:Zt}{v:SV}{L:List (List Nat×VC)}{b n:Nat}(h:NL S v L b):∃c,frz S (n+3) v=some (.vsl (Ps L) c):=by
 rcases h with⟨rfl,rfl⟩|⟨id,es,rfl,h2,h3,h4,h5,h6⟩
 ·exact⟨.nil,rfl⟩
 ·refine⟨.loose,?_⟩
  have e1:es.mapM (Go.Sh.frz S (n+2))=some (Ps L):=by
   refine mapM_eq (by rw[Ps_len,h5]) (fun i x y hx hy=>?_)
   obtain⟨q,hq⟩:∃q,L[i]?=some q:=⟨L[i]'(by have:=(List.getElem?_eq_some_iff.1 hx).1;omega),by simp⟩
   rw[Ps_get hq]at hy
   cases hy
   obtain⟨a1,g,lv,rfl,a3,a4,a5,a6⟩:=h6 i x q hx hq
   have e2:(u64s q.1).mapM (Go.Sh.frz S (n+1))=some (u64s q.1):=mapM_eq rfl (fun j s t hs ht=>by
    rw[hs]at ht
    cases ht
    simp only[u64s,List.getElem?_map,Option.map_eq_some_iff]at hs
    obtain⟨d,_,rfl⟩:=hs
    rfl)
   show(match S[g]? with
    |some (.cells es _)=>if 0+q.1.length≤es.length then(((es.drop 0).take q.1.length).mapM (Go.Sh.frz S (n+1))).map fun xs=>SV.vsl xs (if some q.1.length=some q.1.length then .exact else .loose)else none
    |_=>none)=_
   rw[a3]
   have ht:((u64s q.1).drop 0).take q.1.length=u64s q.1:=by rw[List.drop_zero,List.take_of_length_le (by rw[u64s_len];omega)]
   simp only[u64s_len,Nat.zero_add,Nat.le_refl,if_true,ht,e2,Option.map_some,a1]
  show(match S[id]? with
    |some (.cells es' _)=>if 0+es.length≤es'.length then(((es'.drop 0).take es.length).mapM (Go.Sh.frz S (n+2))).map fun xs=>SV.vsl xs (if none=some es.length then .exact else .loose)else none
    |_=>none)=_
  rw[h2]
  have ht:(es.drop 0).take es.length=es:=by rw[List.drop_zero,List.take_length]
  simp only[Nat.zero_add,Nat.le_refl,if_true,ht,e1,Option.map_some]
  rfl
end Go.Proofs
