/-
  The law is true for all arguments.
-/
import Derived.Test.YtilhffelllbggaaGreatMPe
import Derived.Test.YtilhffelllbggaaGreatMLc
set_option linter.unusedVariables false
set_option linter.unusedSimpArgs false
set_option maxRecDepth 10000
namespace Go.Proofs
open Go.Sh
open Pl (IsP Rd Cg en tm Mo PF IsDiv IsGcd el Fx PwI Irr nm MInv)
theorem grdNo{v:Option SV}{o:(SV→Zt→Prop)→Prop}{S:Zt}{k:SV→Zt→Prop}(h:v=some (.bool false))(h2:o k):grdP v false o S k:=by rw[h];exact h2
theorem msame_loop:∀(m i:Nat) (l:List Nat) (c d:VC) (S:Zt) (e:En) (k:X→En→Zt→Prop),i+m=l.length→l.length<1000000→e 0=.vsl (u64s l) c→e 1=.vsl (u64s l) d→e 5=.int .i64 (i:Int)→(∀e',k (.exit 0) e' S)→DenP cT 26 (.loop L12_0) e S k:=by
 intro m
 induction m with
 |zero=>
  intro i l c d S e k hi hl h0 h1 h5 hk
  refine L12_0_ok ?_
  unfold TL12_0
  simp only[h0,h5,len22,b_lss,ws]
  rw[decide_eq_false (by omega),cf_]
  exact hk _
 |succ m ih=>
  intro i l c d S e k hi hl h0 h1 h5 hk
  obtain⟨x,hx⟩:∃x,l[i]?=some x:=⟨l[i]'(by omega),by simp⟩
  refine L12_0_ok ?_
  unfold TL12_0
  simp only[h0,h1,h5,len22,b_lss,ws]
  rw[decide_eq_true (by omega),condP_t]
  refine wo (idx22 hx) (wo ld25 (wo (idx22 hx) (wo ld25 ?_)))
  simp only[b_neq,ws,b_add]
  rw[decide_eq_false (by simp),cf_,sI (by omega)]
  exact ih (i+1) l c d S _ k (by omega) hl h0 h1 rfl hk
theorem rm_same{l:List Nat}{c d:VC}{Q:SV→Prop}(hl:l.length<1000000)(h:Q (.bool true)):wpO (pW cT 12 [.vsl (u64s l) c,.vsl (u64s l) d]) Q:=by
 refine po rfl (F12_ok (k:=fun v S=>wpO (frz S dS v) Q) ?_)
 unfold F12
 simp only[len22,b_neq,ws]
 rw[decide_eq_false (by simp),cf_]
 refine msame_loop l.length 0 l c d [] _ _ (by omega) hl rfl rfl rfl (fun e'=>?_)
 refine K12_0e0_ok ?_
 unfold TK12_0e0
 exact h
theorem root_hitM{f:FuncId}{args:List SV}{v:SV}{Q:SV→Prop}(h:cT.orc f args=some v)(hq:Q v):wpO (pW cT f args) Q:=by
 rw[pureW_eq,h]
 exact ws▸hq
theorem m8{Q:SV→Prop}(h:Q (.bool true)):wpO (pW cT 8 []) Q:=root_hitM rfl h
theorem topc_tot(a b:List Nat):∀n,¬topc a b n<0→¬topc b a n<0→∀i,i<n→a[i]?.getD 0=b[i]?.getD 0
 |0,_,_,i,hi=>by omega
 |n+1,h1,h2,i,hi=>by
  have ih:=topc_tot a b n
  simp only[topc]at h1 h2
  by_cases e:a[n]?.getD 0=b[n]?.getD 0
  ·rw[if_pos e]at h1
   rw[if_pos e.symm]at h2
   by_cases hin:i=n
   ·rw[hin];exact e
   ·exact ih h1 h2 i (by omega)
  ·rw[if_neg e]at h1
   rw[if_neg (Ne.symm e)]at h2
   split at h1
   ·omega
   ·split at h2<;>omega
theorem cmpL_tot{a b:List Nat}(h1:¬cmpL a b<0)(h2:¬cmpL b a<0):a=b:=by
 unfold cmpL at h1 h2
 by_cases e:a.length=b.length
 ·rw[if_pos e]at h1
  rw[if_pos e.symm,←e]at h2
  refine List.ext_getElem e (fun n g1 g2=>?_)
  have:=topc_tot a b a.length h1 h2 n g1
  rw[List.getElem?_eq_getElem g1,List.getElem?_eq_getElem g2]at this
  exact this
 ·rw[if_neg e]at h1
  rw[if_neg (Ne.symm e)]at h2
  omega
theorem len28{O:List Fac}{c:VC}:lenS y28 (.vsl (Ms O) c)=some (.int .i64 (O.length:Int)):=by rw[len_vsl rfl,Ms_len]
theorem idx28{O:List Fac}{c:VC}{i:Nat}{x:Fac}(h:O[i]?=some x):ixS cT y28 (.vsl (Ms O) c) (.int .i64 (i:Int))=some (.vptr (.agg [.vsl (u64s x.1.1) x.1.2,.int .i64 (x.2:Int)])):=idx_vsl (j:=y33) rfl rfl (by decide) (Ms_get h) rfl
theorem mul_loop{p:Nat}{O:List Fac}{cO:VC}{i:Nat}{x:Fac}{A:Fx p}(hp:IsP p)(hp2:p≤2147483647)(hx:O[i]?=some x)(hi9:i≤9)(hxr:Rd p x.1.1)(hxl:x.1.1.length≤10)(hN:x.2≤9):∀(m k:Nat) (pr:List Nat) (hv:SV) (S:Zt) (e:En) (K:X→En→Zt→Prop),k+m=x.2→Rd p pr→pr.length≤1+100*i+10*k→(el pr:Fx p)=A*el x.1.1^k→RoI S hv pr 0→
  e 8=.vsl (Ms O) cO→e 11=.int .i64 (i:Int)→e 13=.int .i64 (k:Int)→e 12=.vsl (u64s x.1.1) x.1.2→e 10=hv→e 6=.int .u64 (p:Int)→
  (∀(pr':List Nat) (hv':SV) (S':Zt) (e':En),Rd p pr'→pr'.length≤1+100*(i+1)→(el pr':Fx p)=A*el x.1.1^x.2→RoI S' hv' pr' 0→e' 10=hv'→e' 8=e 8→e' 11=e 11→e' 6=e 6→e' 0=e 0→e' 5=e 5→e' 7=e 7→K (.exit 2) e' S')→DenP cT 160 (.loop L3_1) e S K:=by
 intro m
 have hp1:=hp.1
 induction m with
 |zero=>
  intro k pr hv S e K hk hpr hpl hep hro h8 h11 h13 h12 h10 h6 hK
  refine L3_1_ok ?_
  unfold TL3_1
  refine Q3_20_ok ?_
  unfold TQ3_20_0
  rw[h8,h11,h13]
  refine wo (idx28 hx) ?_
  refine wo (x:=.vptr (.int .i64 (x.2:Int))) rfl ?_
  refine wo (x:=.int .i64 (x.2:Int)) rfl ?_
  refine wo (x:=.bool false) (by rw[b_lss,decide_eq_false (by omega)]) ?_
  refine cndF rfl ?_
  have:k=x.2:=by omega
  subst this
  exact hK pr hv S _ hpr (by omega) hep hro h10 rfl rfl rfl rfl rfl rfl
 |succ m ih=>
  intro k pr hv S e K hk hpr hpl hep hro h8 h11 h13 h12 h10 h6 hK
  refine L3_1_ok ?_
  unfold TL3_1
  refine Q3_20_ok ?_
  unfold TQ3_20_0
  have a1:ixS cT y28 (e 8) (e 11)=some (.vptr (.agg [.vsl (u64s x.1.1) x.1.2,.int .i64 (x.2:Int)])):=by rw[h8,h11];exact idx28 hx
  refine wo a1 ?_
  refine wo (x:=.vptr (.int .i64 (x.2:Int))) rfl ?_
  refine wo (x:=.int .i64 (x.2:Int)) rfl ?_
  refine wo (x:=.bool true) (by rw[h13,b_lss,decide_eq_true (by omega)]) ?_
  refine cndT rfl ?_
  refine Q3_21_ok ?_
  unfold TQ3_21_0
  obtain⟨ch,hf1,hf2⟩:=hro.fz
  have z2:=frz_pure (S:=S) (v:=.vsl (u64s x.1.1) x.1.2) rfl
  have z3:=frz_pure (S:=S) (v:=.int .u64 (p:Int)) rfl
  show wpO (cW cT 15 [e 10,e 12,e 6] S) _
  rw[h10,h12,h6]
  refine call_one (r:=0) (args':=[.vsl (u64s pr) ch,.vsl (u64s x.1.1) x.1.2,.int .u64 (p:Int)]) rfl (by simp only[List.mapM_cons,hf1,z2.1,z3.1,List.mapM_nil];rfl) (by
   simp only[List.flatMap_cons,z2.2,z3.2,List.flatMap_nil,List.append_nil]
   exact hf2) (fun S1 k1 k2 k3=>?_)
  refine r_mul (by omega) (by omega) hp2 hpr.1 hxr.1 fun r cr hr hrl er=>?_
  refine Q3_22_ok ?_
  unfold TQ3_22_0
  refine wo (x:=.int .i64 ((k+1:Nat):Int)) (by
   show bnS .add (some y3) (e 13) (.int .i64 1)=_
   rw[h13,b_add,sI (by omega)]) ?_
  refine ih (k+1) r (.vsl (u64s r) cr) S1 _ K (by omega) hr (by omega) ?_ (.inl ⟨cr,rfl⟩) h8 h11 rfl h12 rfl h6 (fun pr' hv' S' e' b1 b2 b3 b4 b5 b6 b7 b8 b9 b10 b11=>hK pr' hv' S' e' b1 b2 b3 b4 b5 (b6.trans rfl) (b7.trans rfl) (b8.trans rfl) (b9.trans rfl) (b10.trans rfl) (b11.trans rfl))
  rw[Pl.el_mulN er,hep,Pl.Rg.pow_s,Pl.Rg.mul_a]
structure LOk(p:Nat)(O:List Fac):Prop where
 hp:IsP p
 hp2:p≤2147483647
 len:O.length≤9
 each:∀x∈O,(∃n,1≤n∧n≤9∧Mo p n x.1.1)∧Irr (el x.1.1:Fx p)∧1≤x.2∧x.2≤9
 nodup:(O.map (fun x=>x.1.1)).Nodup
 srt:SrtO O
theorem LOk.less{p:Nat}{O:List Fac}(h:LOk p O){i:Nat}{x y:Fac}(hx:O[i]?=some x)(hy:O[i+1]?=some y):cmpL x.1.1 y.1.1<0:=by
 have hl:i+1<O.length:=(List.getElem?_eq_some_iff.1 hy).1
 have h1:=h.srt i (i+1) (by omega) hl
 unfold le ky at h1
 rw[hx,hy]at h1
 simp only[Option.map_some,Option.getD_some]at h1
 refine Classical.byContradiction fun h2=>?_
 have e:=cmpL_tot h2 h1
 have hn:=List.pairwise_iff_getElem.1 h.nodup i (i+1) (by simp;omega) (by simp;omega) (by omega)
 refine hn ?_
 rw[List.getElem_map,List.getElem_map]
 rw[List.getElem?_eq_getElem (by omega)]at hx hy
 rw[Option.some.inj hx,Option.some.inj hy];exact e
theorem prO_take{p:Nat}{O:List Fac}{i:Nat}{x:Fac}(hx:O[i]?=some x):Pl.prO p ((plO O).take (i+1))=Pl.prO p ((plO O).take i)*el x.1.1^x.2:=by
 have:(plO O)[i]?=some (x.1.1,x.2):=by simp[plO,hx]
 rw[List.take_add_one,this]
 exact Pl.prO_snoc _ _
theorem law3_loop{p:Nat}{O:List Fac}{cO cf ca:VC}{f a:List Nat}{V:Fx p}(hO:LOk p O):∀(m i:Nat) (pr:List Nat) (hv:SV) (S:Zt) (e:En) (K:X→En→Zt→Prop),i+m=O.length→Rd p pr→pr.length≤1+100*i→(el pr:Fx p)=V*Pl.prO p ((plO O).take i)→RoI S hv pr 0→
  e 8=.vsl (Ms O) cO→e 11=.int .i64 (i:Int)→e 10=hv→e 6=.int .u64 (p:Int)→e 0=.vsl (u64s a) ca→e 5=.bool true→e 7=.vsl (u64s f) cf→
  (∀(pr':List Nat) (hv':SV) (S':Zt) (e':En),Rd p pr'→pr'.length≤1000→(el pr':Fx p)=V*Pl.prO p (plO O)→RoI S' hv' pr' 0→e' 10=hv'→e' 6=.int .u64 (p:Int)→e' 0=.vsl (u64s a) ca→e' 5=.bool true→e' 7=.vsl (u64s f) cf→K (.exit 0) e' S')→DenP cT 160 (.loop L3_0) e S K:=by
 intro m
 have hp:=hO.hp
 have hp1:=hp.1
 have hp2:=hO.hp2
 have hl9:=hO.len
 induction m with
 |zero=>
  intro i pr hv S e K hi hpr hpl hep hro h8 h11 h10 h6 h0 h5 h7 hK
  refine L3_0_ok ?_
  unfold TL3_0
  refine Q3_15_ok ?_
  unfold TQ3_15_0
  rw[h8,h11]
  refine wo len28 ?_
  refine wo (x:=.bool false) (by rw[b_lss,decide_eq_false (by omega)]) ?_
  refine cndF rfl ?_
  rw[List.take_of_length_le (by simp[plO];omega)]at hep
  exact hK pr hv S _ hpr (by omega) hep hro h10 h6 h0 h5 h7
 |succ m ih=>
  intro i pr hv S e K hi hpr hpl hep hro h8 h11 h10 h6 h0 h5 h7 hK
  have hil:i<O.length:=by omega
  obtain⟨x,hx⟩:∃x,O[i]?=some x:=⟨_,List.getElem?_eq_getElem hil⟩
  obtain⟨⟨n,n1,n9,hm⟩,hir,x1,x9⟩:=hO.each x (List.mem_of_getElem? hx)
  have hql:=hm.2.1
  have a1:∀c:VC,ixS cT y28 (.vsl (Ms O) cO) (.int .i64 (i:Int))=some (.vptr (.agg [.vsl (u64s x.1.1) x.1.2,.int .i64 (x.2:Int)])):=fun _=>idx28 hx
  have a2:ixS cT y28 (e 8) (e 11)=some (.vptr (.agg [.vsl (u64s x.1.1) x.1.2,.int .i64 (x.2:Int)])):=by rw[h8,h11];exact idx28 hx
  refine L3_0_ok ?_
  unfold TL3_0
  refine Q3_15_ok ?_
  unfold TQ3_15_0
  refine wo (x:=.int .i64 (O.length:Int)) (by rw[h8];exact len28) ?_
  refine wo (x:=.bool true) (by rw[h11,b_lss,decide_eq_true (by omega)]) ?_
  refine cndT rfl ?_
  refine Q3_16_ok ?_
  unfold TQ3_16_0
  refine wo (by exact a2) ?_
  refine wo (x:=.vptr (.vsl (u64s x.1.1) x.1.2)) rfl ?_
  refine wo (x:=.vsl (u64s x.1.1) x.1.2) rfl ?_
  refine Q3_17_ok ?_
  unfold TQ3_17_0
  refine wo (x:=.int .i64 (x.1.1.length:Int)) (by exact len22 x.1.1 x.1.2) ?_
  refine wo (x:=.bool false) (by rw[b_lss,decide_eq_false (by omega)]) ?_
  iterate 2 refine grdNo rfl ?_
  refine wo (x:=.int .i64 (x.1.1.length:Int)) (by exact len22 x.1.1 x.1.2) ?_
  refine grdNo rfl ?_
  refine wo (x:=.bool false) (by rw[b_gtr,decide_eq_false (by omega)]) ?_
  refine wo (x:=.bool false) rfl ?_
  iterate 3 refine grdNo rfl ?_
  refine wo (by exact a2) ?_
  refine grdNo rfl ?_
  refine wo (x:=.vptr (.int .i64 (x.2:Int))) rfl ?_
  refine grdNo rfl ?_
  refine wo (x:=.int .i64 (x.2:Int)) rfl ?_
  refine grdNo rfl ?_
  refine wo (x:=.bool false) (by rw[b_lss,decide_eq_false (by omega)]) ?_
  refine wo (x:=.bool false) rfl ?_
  iterate 3 refine grdNo rfl ?_
  refine wo (by exact a2) ?_
  unfold TQ3_17_1
  refine grdNo rfl ?_
  refine wo (x:=.vptr (.int .i64 (x.2:Int))) rfl ?_
  refine grdNo rfl ?_
  refine wo (x:=.int .i64 (x.2:Int)) rfl ?_
  refine grdNo rfl ?_
  refine wo (x:=.bool false) (by rw[b_gtr,decide_eq_false (by omega)]) ?_
  refine wo (x:=.bool false) rfl ?_
  iterate 4 refine grdNo rfl ?_
  show wpO (cW cT 10 [.vsl (u64s x.1.1) x.1.2,e 6] S) _
  rw[h6]
  refine cpu rfl rfl (r_trim (by omega) (by omega) fun ct hct=>?_)
  rw[Pl.tm_self hm.1]
  refine grdNo rfl ?_
  refine cpu rfl rfl (rm_same (by omega) ?_)
  refine grdNo rfl ?_
  refine wo (x:=.bool false) rfl ?_
  refine wo (x:=.bool false) rfl ?_
  iterate 3 refine grdNo rfl ?_
  refine wo (x:=.int .i64 (x.1.1.length:Int)) (by exact len22 x.1.1 x.1.2) ?_
  refine grdNo rfl ?_
  refine wo (x:=.int .i64 (n:Int)) (by rw[b_sub,wrap64 (by omega) (by omega),show(x.1.1.length:Int)-1=(n:Int)by omega]) ?_
  refine grdNo rfl ?_
  refine wo (x:=.vptr (.int .u64 ((1:Nat):Int))) (by exact idx22 hm.2.2) ?_
  refine grdNo rfl ?_
  refine wo (x:=.int .u64 ((1:Nat):Int)) rfl ?_
  refine grdNo rfl ?_
  refine wo (x:=.bool false) rfl ?_
  unfold TQ3_17_2
  refine wo (x:=.bool false) rfl ?_
  iterate 3 refine grdNo rfl ?_
  show wpO (cW cT 13 [.vsl (u64s x.1.1) x.1.2,e 6] S) _
  rw[h6]
  refine cpu rfl rfl (r_irr hp hp2 hm (by omega) hir ?_)
  refine grdNo rfl ?_
  refine wo (x:=.bool false) rfl ?_
  refine wo (x:=.bool false) rfl ?_
  iterate 2 refine grdNo rfl ?_
  have rest:∀(e1:En),e1 128=.bool false→e1 8=e 8→e1 11=e 11→e1 12=.vsl (u64s x.1.1) x.1.2→e1 10=e 10→e1 6=e 6→e1 0=e 0→e1 5=e 5→e1 7=e 7→
    condP (e1 128) (runP cT (cW cT) (rW cT) 160 O3_18 false 0 O3_18 e1 S fun e S=>K .ret e S)
     (runP cT (cW cT) (rW cT) 160 O3_19 false 0 O3_19 e1 S fun e S=>DenP cT 160 (.loop L3_1) e S (K3_1 K)):=fun e1 q128 q8 q11 q12 q10 q6 q0 q5 q7=>by
   refine cndF q128 ?_
   refine Q3_19_ok ?_
   unfold TQ3_19_0
   refine mul_loop (A:=V*Pl.prO p ((plO O).take i)) hp hp2 hx (by omega) hm.1 (by omega) x9 x.2 0 pr hv S _ _ (by omega) hpr (by omega) (by rw[Pl.Rg.pow_0,Pl.Rg.mul_1];exact hep) hro (q8.trans h8) (q11.trans h11) rfl q12 (q10.trans h10) (q6.trans h6) (fun pr' hv' S' e' b1 b2 b3 b4 b5 b6 b7 b8 b9 b10 b11=>?_)
   refine K3_1e2_ok ?_
   unfold TK3_1e2
   refine Q3_23_ok ?_
   unfold TQ3_23_0
   refine wo (x:=.int .i64 ((i+1:Nat):Int)) (by
    rw[b7.trans (q11.trans h11),b_add,sI (by omega)]) ?_
   exact ih (i+1) pr' hv' S' _ K (by omega) b1 b2 (by rw[b3,prO_take hx,Pl.Rg.mul_a]) b4 (b6.trans (q8.trans h8)) rfl b5 (b8.trans (q6.trans h6)) (b9.trans (q0.trans h0)) (b10.trans (q5.trans h5)) (b11.trans (q7.trans h7)) hK
  show wpO (bnS .gtr (some y3) (e 11) (.int .i64 0)) _
  rw[h11]
  by_cases hi0:i=0
  ·subst hi0
   refine wo (x:=.bool false) rfl ?_
   refine grdNo rfl ?_
   iterate 5 refine grdF rfl ?_
   iterate 4 refine grdF rfl ?_
   unfold TQ3_17_3
   refine grdNo rfl ?_
   refine wo (x:=.bool false) rfl ?_
   refine wo (x:=.bool false) rfl ?_
   exact rest _ rfl rfl rfl rfl rfl rfl rfl rfl rfl
  ·obtain⟨j,rfl⟩:∃j,i=j+1:=⟨i-1,by omega⟩
   obtain⟨y,hy⟩:∃y,O[j]?=some y:=⟨_,List.getElem?_eq_getElem (by omega)⟩
   obtain⟨⟨ny,ny1,ny9,hym⟩,_,_,_⟩:=hO.each y (List.mem_of_getElem? hy)
   have hyl:=hym.2.1
   have hless:=hO.less hy hx
   refine wo (x:=.bool true) (by rw[b_gtr,decide_eq_true (by omega)]) ?_
   refine grdNo rfl ?_
   iterate 2 refine grdT rfl ?_
   refine grdT rfl ?_
   refine wo (x:=.int .i64 (j:Int)) (by
    show bnS .sub (some y3) (e 11) (.int .i64 1)=_
    rw[h11,b_sub,wrap64 (by omega) (by omega),show((j+1:Nat):Int)-1=(j:Int)by omega]) ?_
   refine grdT rfl ?_
   refine wo (x:=.vptr (.agg [.vsl (u64s y.1.1) y.1.2,.int .i64 (y.2:Int)])) (by
    show ixS cT y28 (e 8) (.int .i64 (j:Int))=_
    rw[h8];exact idx28 hy) ?_
   refine grdT rfl ?_
   refine wo (x:=.vptr (.vsl (u64s y.1.1) y.1.2)) rfl ?_
   refine grdT rfl ?_
   refine wo (x:=.vsl (u64s y.1.1) y.1.2) rfl ?_
   iterate 2 refine grdT rfl ?_
   refine cpu rfl rfl (r_less (by omega) (by omega) ?_)
   rw[decide_eq_true hless]
   refine grdT rfl ?_
   refine wo (x:=.bool false) rfl ?_
   unfold TQ3_17_3
   refine grdNo rfl ?_
   refine wo (x:=.bool false) rfl ?_
   refine wo (x:=.bool false) rfl ?_
   exact rest _ rfl rfl rfl rfl rfl rfl rfl rfl rfl
open Pl (PD)
theorem f_ModularSq{p:Nat}{a:List Nat}{ca:VC}{Q:SV→Prop}(hp:IsP p)(hp2:p≤2147483647)(h:Q (.tup [.vsl [] .nil,.int .i64 1])):wpO (pW cT 11 [.vsl (u64s a) ca,.int .u64 ((p*p:Nat):Int)]) Q:=by
 refine po rfl (F11_ok (k:=fun v S=>wpO (frz S dS v) Q) ?_)
 unfold F11
 refine cpu rfl rfl (m_prime_sq hp hp2 ?_)
 refine wo (x:=.bool true) rfl ?_
 refine cndT rfl ?_
 refine wo (x:=.tup [.vsl [] .nil,.int .i64 1]) rfl ?_
 exact h
theorem lead_eq{p m:Nat}{f g:List Nat}{u v:Int}(hp:IsP p)(hf:Rd p f)(hg:Mo p m g)(hl:m+1=f.length)(h:Cg p (en g) (fun x=>u*en f x))(hv:(p:Int)∣v*u-1) :
  (el f:Fx p)=Pl.Rg.C _ ((f[m]?.getD 0:Nat):Int)*el g:=by
 have e1:(el g:Fx p)=Pl.Rg.C _ u*el f:=(Pl.fx_eq (a:=⟨en g,PF.en g⟩) (b:=Pl.Pf.mul (Pl.Pf.C u) ⟨en f,PF.en f⟩)).2 h
 have e2:(el f:Fx p)=Pl.Rg.C _ v*el g:=by
  rw[e1,←Pl.Rg.mul_a,←Pl.Rg.C_mul]
  have:Pl.Rg.C (Pl.Jp p) (v*u)=1:=by
   rw[←Pl.Rg.C_1];exact(Pl.fx_fld hp).cast hv
  rw[this,Pl.Rg.one_m]
 obtain⟨G,hG,eG⟩:=hg.lead
 have e3:Cg p (Pl.ev (Pl.nv f)) (fun x=>v*G x+v*x^m):=by
  have e4:Cg p (en f) (fun x=>v*en g x):=(Pl.fx_eq (a:=⟨en f,PF.en f⟩) (b:=Pl.Pf.mul (Pl.Pf.C v) ⟨en g,PF.en g⟩)).1 e2
  exact e4.congr (fun _=>rfl) (fun x=>by rw[eG];grind)
 have t:=(Pl.Cg.top (hG.smul v) e3).1
 rw[Pl.cf_nv]at t
 rw[(Pl.fx_fld hp).cast t]
 exact e2
theorem law3{a:List Nat}{c:VC}{n:Nat}(hn:n<4294967296):wpO (pW cT 3 [.vsl (u64s a) c,.int .u32 (n:Int)]) (fun v=>v=.bool true):=by
 refine po rfl (F3_ok (k:=fun v S=>wpO (frz S dS v) _) ?_)
 unfold F3
 refine Q3_0_ok ?_
 unfold TQ3_0_0
 refine Q3_1_ok ?_
 unfold TQ3_1_0
 refine cpu rfl rfl (m8 ?_)
 refine Q3_2_ok ?_
 unfold TQ3_2_0
 refine wo (x:=.bool false) rfl ?_
 refine cndF rfl ?_
 refine Q3_4_ok ?_
 unfold TQ3_4_0
 refine wo (x:=.int .i64 (a.length:Int)) (by exact len22 a c) ?_
 by_cases hlen:10<a.length
 ·refine wo (x:=.bool true) (by rw[b_gtr,decide_eq_true (by omega)]) ?_
  refine cndT rfl ?_
  refine Q3_5_ok ?_
  unfold TQ3_5_0
  refine wo (x:=.bool true) rfl ?_
  rfl
 refine wo (x:=.bool false) (by rw[b_gtr,decide_eq_false (by omega)]) ?_
 refine cndF rfl ?_
 refine Q3_6_ok ?_
 unfold TQ3_6_0
 refine cpu rfl rfl (w_prime hn (fun p hp hp2=>?_))
 have hp1:=hp.1
 have hpos:0<p:=by omega
 refine Q3_7_ok ?_
 unfold TQ3_7_0
 refine cpu rfl rfl (r_trim (by omega) hpos fun cf hcf=>?_)
 have htl:=Pl.tm_len p a
 have htr:=Pl.tm_rd hpos a
 refine Q3_8_ok ?_
 unfold TQ3_8_0
 refine cpu rfl rfl (f_Modular hp hp2 (by omega) (fun ht=>?_) (fun m g O cO u v hgm hml hgu hgv hok=>?_))
 ·refine wo (x:=.vsl [] .nil) rfl ?_
  refine wo (x:=.int .i64 10) rfl ?_
  refine Q3_9_ok ?_
  unfold TQ3_9_0
  refine wo (x:=.int .i64 ((tm p a).length:Int)) (by exact len22 (tm p a) cf) ?_
  refine wo (x:=.bool true) (by rw[b_eql,ht];rfl) ?_
  refine cndT rfl ?_
  refine Q3_10_ok ?_
  unfold TQ3_10_0
  refine wo (x:=.bool true) rfl ?_
  refine grdT rfl ?_
  refine grdT rfl ?_
  refine wo (x:=.int .i64 0) rfl ?_
  refine grdT rfl ?_
  refine wo (x:=.bool true) rfl ?_
  refine wo (x:=.bool true) rfl ?_
  refine grdT rfl ?_
  refine wo (x:=.bool true) rfl ?_
  refine wo (x:=.bool true) rfl ?_
  rfl
 ·refine wo (x:=.vsl (Ms O) cO) rfl ?_
  refine wo (x:=.int .i64 0) rfl ?_
  refine Q3_9_ok ?_
  unfold TQ3_9_0
  refine wo (x:=.int .i64 ((tm p a).length:Int)) (by exact len22 (tm p a) cf) ?_
  refine wo (x:=.bool false) (by rw[b_eql,decide_eq_false (by omega)]) ?_
  refine cndF rfl ?_
  refine Q3_11_ok ?_
  unfold TQ3_11_0
  refine wo (x:=.int .i64 ((tm p a).length:Int)) (by exact len22 (tm p a) cf) ?_
  refine wo (x:=.int .i64 (m:Int)) (by rw[b_sub,wrap64 (by omega) (by omega),show((tm p a).length:Int)-1=(m:Int)by omega]) ?_
  obtain⟨ld,hld⟩:∃x,(tm p a)[m]?=some x:=⟨_,List.getElem?_eq_getElem (by omega)⟩
  have hne:tm p a≠[]:=fun e=>by rw[e]at hml;simp at hml
  have hldp:ld<p:=htr.1 ld (List.mem_of_getElem? hld)
  have hld0:ld≠0:=htr.2 ld (by rw[←hml,Nat.add_sub_cancel];exact hld)
  refine wo (x:=.vptr (.int .u64 (ld:Int))) (by exact idx22 hld) ?_
  refine wo (x:=.int .u64 (ld:Int)) rfl ?_
  refine wo (x:=(.osl 0 1 0 1 (some 1),[.cells [.int .u64 (ld:Int)] true])) rfl ?_
  refine Q3_12_ok ?_
  unfold TQ3_12_0
  refine wo (x:=.bool false) rfl ?_
  refine cndF rfl ?_
  refine Q3_14_ok ?_
  unfold TQ3_14_0
  have hsz:=hok.inv.size hp
  rw[hgm.size hpos]at hsz
  have hOl:O.length≤9:=by
   have:=hsz.1
   simp only[plO,List.length_map]at this
   omega
  have hLO:LOk p O:=⟨hp,hp2,hOl,fun x hx=>by
   have hm:(x.1.1,x.2)∈plO O:=List.mem_map.2 ⟨x,hx,rfl⟩
   obtain⟨⟨k,k1,k2⟩,i1,i2,_⟩:=hok.inv.irr _ hm
   obtain⟨s1,s2⟩:=hsz.2 _ hm
   simp only[]at k2 i1 i2 s1 s2
   have:=k2.2.1
   exact⟨⟨k,k1,by omega,k2⟩,i1,i2,by omega⟩,by
   have:=hok.inv.nodup
   simp only[plO,List.map_map]at this
   exact this,hok.srt⟩
  refine law3_loop (a:=a) (ca:=c) (f:=tm p a) (cf:=cf) (V:=Pl.Rg.C _ (ld:Int)) hLO O.length 0 [ld] (.osl 0 1 0 1 (some 1)) _ _ _ (by omega) ⟨fun d hd=>by simp at hd;omega,fun d hd=>by simp at hd;omega⟩ (by simp) (by
   simp only[List.take_zero,Pl.prO]
   rw[Pl.Rg.mul_1]
   exact Pl.Rg.eq fun x=>Pl.en_single ld x) (.inr ⟨some 1,[],true,rfl,rfl⟩) rfl rfl rfl rfl rfl rfl rfl (fun pr' hv' S' e' b1 b2 b3 b4 b5 b6 b7 b8 b9=>?_)
  have hpr:pr'=tm p a:=Pl.el_inj hpos b1 htr (by
   rw[b3,lead_eq hp htr hgm hml hgu hgv,hld]
   have:=hok.inv.eq
   rw[Pl.el_one,Pl.Rg.one_m]at this
   rw[←this];rfl)
  subst hpr
  refine K3_0e0_ok ?_
  unfold TK3_0e0
  refine Q3_24_ok ?_
  unfold TQ3_24_0
  have hpp:p*p≤2147483647*2147483647:=Nat.mul_le_mul hp2 hp2
  refine wo (x:=.int .u64 ((p*p:Nat):Int)) (by rw[b6,b_mul,mulU (by omega) (by omega)]) ?_
  rw[b7]
  refine cpu rfl rfl (f_ModularSq hp hp2 ?_)
  refine wo (x:=.vsl [] .nil) rfl ?_
  refine wo (x:=.int .i64 1) rfl ?_
  refine Q3_25_ok ?_
  unfold TQ3_25_0
  show wpO (cW cT 12 [e' 10,e' 7] S') _
  rw[b5,b9]
  obtain⟨ch,hf1,hf2⟩:=b4.fz
  have z2:=frz_pure (S:=S') (v:=.vsl (u64s (tm p a)) cf) rfl
  refine call_one (r:=0) (args':=[.vsl (u64s (tm p a)) ch,.vsl (u64s (tm p a)) cf]) rfl (by simp only[List.mapM_cons,hf1,z2.1,List.mapM_nil];rfl) (by
   simp only[List.flatMap_cons,z2.2,List.flatMap_nil,List.append_nil]
   exact hf2) (fun S1 k1 k2 k3=>?_)
  refine rm_same (by omega) ?_
  refine grdT rfl ?_
  refine grdT rfl ?_
  refine wo (x:=.bool true) rfl ?_
  refine wo (x:=.bool true) rfl ?_
  refine grdT rfl ?_
  show wpO (pickS (.bool true) (e' 5) (.bool false)) _
  rw[b8]
  refine wo (x:=.bool true) rfl ?_
  refine wo (x:=.bool true) rfl ?_
  rfl
end Go.Proofs
