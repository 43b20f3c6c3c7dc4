/-
  Lifting of factors: one step.
-/
import Derived.Test.YtilhffelllbggaaGreatPe
import Derived.Test.YtilhffelllbggaaGreatPg
import Derived.Test.YtilhffelllbggaaGreatPb
import Derived.Test.YtilhffelllbggaaGreatPh
import Derived.Test.YtilhffelllbggaaGreatLe
set_option linter.unusedVariables false
set_option linter.unusedSimpArgs false
set_option maxRecDepth 10000
namespace Go.Proofs.Pl
def trI(l:List Int):List Int:=(l.reverse.dropWhile (fun z=>z==0)).reverse
theorem trI_snoc{l:List Int}{z:Int}:trI (l++[z])=if z=0 then trI l else l++[z]:=by
 unfold trI
 rw[List.reverse_append]
 simp only[List.reverse_cons,List.reverse_nil,List.nil_append,List.singleton_append,List.dropWhile_cons]
 by_cases h:z=0
 ·simp[h]
 ·simp[h]
theorem trI_ev(l:List Int)(x:Int):ev (trI l) x=ev l x:=by
 induction l using snoc_ind with
 |h0=>rfl
 |h l z ih=>
  rw[trI_snoc]
  split
  ·rename_i h;rw[ih,ev_snoc,h];simp
  ·rfl
theorem trI_len(l:List Int):(trI l).length≤l.length:=by
 induction l using snoc_ind with
 |h0=>exact Nat.le_refl _
 |h l z ih=>rw[trI_snoc];split<;>simp<;>omega
theorem trI_self{l:List Int}(h:∀z,l[l.length-1]?=some z→z≠0):trI l=l:=by
 induction l using snoc_ind with
 |h0=>rfl
 |h l z ih=>
  rw[trI_snoc,if_neg]
  exact h z (by simp)
theorem trI_mo{n:Nat}{X:List Int}(h:MoI n X):trI X=X:=trI_self (fun z hz=>by
 have h1:=h.1
 have h2:=h.2
 rw[h1,Nat.add_sub_cancel]at hz
 unfold cf at h2
 rw[hz]at h2
 simp at h2
 omega)
theorem trI_mem{l:List Int}{z:Int}(h:z∈trI l):z∈l:=by
 induction l using snoc_ind with
 |h0=>exact h
 |h l c ih=>
  rw[trI_snoc]at h
  split at h
  ·simp[ih h]
  ·exact h
theorem list_eq{A B:List Int}(hl:A.length=B.length)(h:∀n,cf A n=cf B n):A=B:=by
 refine List.ext_getElem hl (fun n h1 h2=>?_)
 have:=h n
 unfold cf at this
 rw[List.getElem?_eq_getElem h1,List.getElem?_eq_getElem h2]at this
 simpa using this
theorem list_ev{A B:List Int}(hl:A.length=B.length)(h:∀x,ev A x=ev B x):A=B:=list_eq hl (ev_inj h)
theorem cf_range{f:Nat→Int}{n i:Nat}:cf ((List.range n).map f) i=if i<n then f i else 0:=by
 unfold cf
 rw[List.getElem?_map]
 by_cases h:i<n
 ·rw[List.getElem?_range h,if_pos h];rfl
 ·rw[List.getElem?_eq_none (by simp;omega),if_neg h];rfl
theorem plus_eq(A:List Int)(m:Int)(b:List Nat):(List.range (max A.length b.length)).map (fun i=>cf A i+m*((b[i]?.getD 0:Nat):Int))=addL A (scL m (nv b)):=by
 refine list_eq (by rw[len_addL,len_scL,nv_len];simp) (fun n=>?_)
 rw[cf_range,cf_addL,cf_scL,cf_nv]
 split
 ·rfl
 ·rename_i h
  rw[cf_out (by omega),List.getElem?_eq_none (by omega)]
  simp
theorem sub_ev(A B:List Int)(x:Int):ev ((List.range (max A.length B.length)).map (fun i=>cf A i-cf B i)) x=ev A x-ev B x:=by
 have e:(List.range (max A.length B.length)).map (fun i=>cf A i-cf B i)=addL A (scL (-1) B):=by
  refine list_eq (by rw[len_addL,len_scL];simp) (fun n=>?_)
  rw[cf_range,cf_addL,cf_scL]
  split
  ·omega
  ·rename_i h
   rw[cf_out (l:=A) (by omega),cf_out (l:=B) (by omega)];simp
 rw[e,ev_addL,ev_scL];omega
theorem near_eq(m:Int)(A:List Int):(List.range A.length).map (fun i=>nearZ m (cf A i))=nearL m A:=by
 refine List.ext_getElem (by simp[nearL]) (fun n h1 h2=>?_)
 simp only[nearL,List.length_map,List.length_range]at h1 h2 ⊢
 simp[cf,List.getElem?_eq_getElem h1]
theorem image_eq(p:Nat)(A:List Int):tm p ((List.range A.length).map (fun i=>(cf A i%(p:Int)).toNat))=red p A:=by
 unfold red tm
 congr 1
 refine List.ext_getElem (by simp) (fun n h1 h2=>?_)
 simp only[List.length_map,List.length_range]at h1 h2
 simp only[List.getElem_map,List.getElem_range]
 have:cf A n=A[n]:=by simp[cf,List.getElem?_eq_getElem h1]
 rw[this]
 rcases Nat.eq_zero_or_pos p with h|h
 ·subst h;simp
 ·refine Nat.mod_eq_of_lt ?_
  have:=Int.emod_lt_of_pos A[n] (show 0<(p:Int)by omega)
  omega
theorem ev_put{o:List Int}{n:Nat}{v:Int}(h:n<o.length)(x:Int):ev (o.set n v) x=ev o x+(v-cf o n)*x^n:=by
 rw[ev_set _ _ _ _ h];rfl
theorem ev_take_succ(B:List Int)(k:Nat)(x:Int):ev (B.take (k+1)) x=ev (B.take k) x+cf B k*x^k:=by
 unfold cf
 rw[List.take_add_one]
 cases h:B[k]? with
 |none=>simp
 |some d=>
  have:k<B.length:=(List.getElem?_eq_some_iff.1 h).1
  simp only[Option.toList_some,Option.getD_some]
  rw[ev_snoc,List.length_take,Nat.min_eq_left (by omega)]
def csum(A B:List Int)(n:Nat):Nat→Nat→Int
 |_,0=>0
 |i,m+1=>cf A i*cf B (n-i)+csum A B n (i+1) m
def conv(A B:List Int)(n:Nat):Int:=csum A B n 0 (n+1)
theorem cf_cons(a:Int)(l:List Int)(n:Nat):cf (a::l) (n+1)=cf l n:=rfl
theorem csum_cons(a:Int)(A B:List Int)(n:Nat):∀m i,csum (a::A) B (n+1) (i+1) m=csum A B n i m
 |0,i=>rfl
 |m+1,i=>by
  simp only[csum,cf_cons,csum_cons a A B n m (i+1),show n+1-(i+1)=n-i by omega]
theorem conv_mul:∀(A B:List Int) (n:Nat),conv A B n=cf (mulL A B) n
 |[],B,n=>by
  have:∀m i,csum [] B n i m=0:=fun m=>by
   induction m with
   |zero=>intro i;rfl
   |succ m ih=>intro i;simp[csum,ih,cf]
  rw[conv,this]
  simp[mulL,cf]
 |a::A,B,0=>by
  simp only[conv,csum,mulL,cf_addL,cf_scL]
  by_cases h:A=[]
  ·subst h;simp[cf]
  ·rw[if_neg h];simp[cf]
 |a::A,B,n+1=>by
  have h:=conv_mul A B n
  unfold conv at h ⊢
  rw[csum,csum_cons,h]
  simp only[mulL,cf_addL,cf_scL]
  by_cases hA:A=[]
  ·subst hA;simp[cf,mulL]
  ·rw[if_neg hA];simp[cf]
theorem imul_eq(A B:List Int)(hA:A≠[])(hB:B≠[]):(List.range (A.length+B.length-1)).map (conv A B)=mulL A B:=by
 have h1:=List.length_pos_iff.2 hA
 have h2:=List.length_pos_iff.2 hB
 refine list_eq (by rw[len_mulL _ _ h1 h2];simp) (fun n=>?_)
 rw[cf_range,conv_mul]
 split
 ·rfl
 ·rename_i h
  rw[cf_out (by rw[len_mulL _ _ h1 h2];omega)]
theorem MoI.mul{n k:Nat}{X Y:List Int}(hX:MoI n X)(hY:MoI k Y):MoI (n+k) (mulL X Y):=by
 have h1:=hX.1
 have h2:=hY.1
 refine⟨by rw[len_mulL _ _ (by omega) (by omega)];omega,?_⟩
 obtain⟨G,hG,eG⟩:=hX.lead
 obtain⟨H,hH,eH⟩:=hY.lead
 obtain⟨R,hR,eR⟩:=PD.prod_lead hG hH eG eH
 obtain⟨l,hl,el⟩:=hR
 have e:∀x,ev (mulL X Y) x=ev (addL l (List.replicate (n+k) 0++[1])) x:=fun x=>by
  rw[ev_mulL,eR,el,ev_addL,ev_snoc,ev_zeros]
  simp
 rw[ev_inj e,cf_addL,cf_out hl]
 unfold cf
 rw[List.getElem?_append_right (by simp)]
 simp
end Go.Proofs.Pl
namespace Go.Proofs
open Go.Sh
open Pl (cf ev trI nearZ nearL)
def zs(l:List (Int×VC)):List Int:=l.map (·.1)
theorem zs_len(l:List (Int×VC)):(zs l).length=l.length:=by simp[zs]
theorem zAt_cf(l:List (Int×VC))(i:Nat):zAt l i=cf (zs l) i:=by
 unfold zAt cf zs
 rw[List.getElem?_map]
 cases l[i]?<;>rfl
theorem zs_trim(l:List (Int×VC)):zs (trimZ l)=trI (zs l):=by
 induction l using snoc_ind with
 |h0=>rfl
 |h l p ih=>
  have e:zs (l++[p])=zs l++[p.1]:=by simp[zs]
  rw[trimZ_snoc,e,Pl.trI_snoc]
  split
  ·exact ih
  ·exact e
theorem trimZ_mem{l:List (Int×VC)}{p:Int×VC}(h:p∈trimZ l):p∈l:=by
 induction l using snoc_ind with
 |h0=>exact h
 |h l c ih=>
  rw[trimZ_snoc]at h
  split at h
  ·simp[ih h]
  ·exact h
structure Zl(l:List (Int×VC))(A:List Int)(N:Nat):Prop where
 eq:zs l=A
 mks:Mk l
 bd:∀z∈A,wd z≤N
theorem Zl.len{l:List (Int×VC)}{A:List Int}{N:Nat}(h:Zl l A N):l.length=A.length:=by rw[←h.eq,zs_len]
theorem wd_zero:wd 0=0:=rfl
theorem Zl.at{l:List (Int×VC)}{A:List Int}{N:Nat}(h:Zl l A N)(i:Nat):zAt l i=cf A i:=by rw[zAt_cf,h.eq]
theorem cf_bd{A:List Int}{N:Nat}(h:∀z∈A,wd z≤N)(i:Nat):wd (cf A i)≤N:=by
 unfold cf
 cases e:A[i]? with
 |none=>simp[wd_zero]
 |some z=>exact h z (List.mem_of_getElem? e)
theorem Zl.trim{l:List (Int×VC)}{A:List Int}{N:Nat}(h:Zl l A N):Zl (trimZ l) (trI A) N:=
 ⟨by rw[zs_trim,h.eq],fun p hp=>h.mks p (trimZ_mem hp),fun z hz=>h.bd z (Pl.trI_mem hz)⟩
theorem Zl.nil(N:Nat):Zl [] [] N:=⟨rfl,(fun p hp=>by cases hp),(fun z hz=>by cases hz)⟩
theorem Zl.snoc{l:List (Int×VC)}{A:List Int}{N:Nat}(h:Zl l A N){z:Int}{c:VC}(hc:c=.nil→z=0)(hz:wd z≤N):Zl (l++[(z,c)]) (A++[z]) N:=by
 refine⟨by rw[←h.eq];simp[zs],?_,?_⟩
 ·intro p hp
  rcases List.mem_append.1 hp with hp|hp
  ·exact h.mks p hp
  ·simp at hp;subst hp;exact hc
 ·intro y hy
  rcases List.mem_append.1 hy with hy|hy
  ·exact h.bd y hy
  ·simp at hy;subst hy;exact hz
theorem Zl.mono{l:List (Int×VC)}{A:List Int}{N M:Nat}(h:Zl l A N)(hm:N≤M):Zl l A M:=⟨h.eq,h.mks,fun z hz=>Nat.le_trans (h.bd z hz) hm⟩
theorem wd_addz{z w:Int}{n:Nat}(hz:wd z≤n)(hw:wd w≤n):wd (z+w)≤n+1:=by
 unfold wd at *
 exact Nat.le_trans (enc_len_mono (Int.natAbs_add_le z w)) (wd_add hz hw)
theorem wd_subz{z w:Int}{n:Nat}(hz:wd z≤n)(hw:wd w≤n):wd (z-w)≤n+1:=by
 have:wd (-w)=wd w:=by unfold wd;rw[Int.natAbs_neg]
 rw[Int.sub_eq_add_neg]
 exact wd_addz hz (by omega)
theorem wd_mulz{z w:Int}{m n:Nat}(hz:wd z≤m)(hw:wd w≤n):wd (z*w)≤m+n:=by
 unfold wd at *
 rw[Int.natAbs_mul]
 exact wd_mul hz hw
theorem wd_le{z w:Int}(h:z.natAbs≤w.natAbs):wd z≤wd w:=enc_len_mono h
theorem Is_zeros{n:Nat}:List.replicate n y44.zero=Is (List.replicate n (0,.nil)):=by
 rw[Is,List.map_replicate];rfl
theorem load_I{S:Zt}{id:Nat}{z:Int}{c:VC}{lv:Bool}(h:S[id]?=some (.cells [I z c] lv)):ldS y44 S (.optr id 0 0)=some (I z c):=by
 rw[load_row h rfl];rfl
theorem store_I{S:Zt}{id:Nat}{e0:SV}{z:Int}{c:VC}{a b:SV}(h:S[id]?=some (.cells [e0] true))(he:e0=.agg [a,b]):stS y44 S (.optr id 0 0) (I z c)=some (S.set id (.cells [I z c] true)):=by
 subst he
 rw[store_row (e':=I z c) h rfl rfl rfl rfl]
 rfl
theorem putI{S:Zt}{v:SV}{o:List (Int×VC)}{i b:Nat}{z:Int}{c:VC}{K:SV→Zt→Prop}(hO:Own S v 2 (Is o) b)(hi:i<o.length)
  (hk:∀p S',Own S' v 2 (Is (o.set i (z,c))) b→Only S S' v→S'.length=S.length→K p S'):wpO (ixS cT y57 v (.int .i64 (i:Int))) fun p=>wpO (stS y44 S p (I z c)) fun S'=>K p S':=by
 obtain⟨p,hp⟩:∃p,o[i]?=some p:=⟨o[i],by simp⟩
 refine Own.put (j:=y44) (e:=I p.1 p.2) (e':=I z c) hO rfl rfl (by decide) (Is_get hp) rfl rfl rfl (fun q S' h1 h2 h3=>hk q S' ?_ h2 h3)
 rw[Is_set]at h1
 exact h1
theorem getI{S:Zt}{v:SV}{o:List (Int×VC)}{i b:Nat}{p:Int×VC}{K:SV→SV→Prop}(hO:Own S v 2 (Is o) b)(hp:o[i]?=some p)(hk:∀q,K q (I p.1 p.2)):wpO (ixS cT y57 v (.int .i64 (i:Int))) fun q=>wpO (ldS y44 S q) fun w=>K q w:=
 Own.get (j:=y44) (e:=I p.1 p.2) (w:=I p.1 p.2) hO rfl rfl (by decide) (Is_get hp) rfl hk
theorem row_put{d:List (Int×VC)}{m:Nat}{x:Int×VC}:(d++List.replicate (m+1) ((0:Int),VC.nil)).set d.length x=(d++[x])++List.replicate m (0,.nil):=by
 rw[List.set_append_right _ _ (Nat.le_refl _),Nat.sub_self,List.replicate_succ,List.set_cons_zero]
 simp
theorem newI{S:Zt}{z:Int}{c:VC}{K:SV×Zt→Zt→Prop}(h:∀S',S'[S.length]?=some (.cells [I z c] true)→Kp S S' S.length→S'.length=S.length+1→K (.optr S.length 0 0,S++[.cells [y44.zero] true]) S') :
  wpO (alS y44.zero S) fun p=>wpO (stS y44 p.2 p.1 (I z c)) fun S'=>K p S':=by
 refine wo (x:=(.optr S.length 0 0,S++[.cells [y44.zero] true])) rfl ?_
 refine wo (store_I at_new rfl) ?_
 refine h _ (at_eq at_new) ((Kp.app (Nat.le_refl _)).trans (Kp.set (Nat.le_refl _))) (by simp)
theorem newII{S:Zt}{z w:Int}{c d:VC}{K:SV×Zt→SV×Zt→Zt→Prop}(h:∀S' T,S'[S.length]?=some (.cells [I z c] true)→S'[S.length+1]?=some (.cells [I w d] true)→Kp S S' S.length→S'.length=S.length+2→K (.optr S.length 0 0,S++[.cells [y44.zero] true]) (.optr (S.length+1) 0 0,T) S') :
  wpO (alS y44.zero S) fun p=>wpO (alS y44.zero p.2) fun q=>wpO (stS y44 q.2 p.1 (I z c)) fun S1=>wpO (stS y44 S1 q.1 (I w d)) fun S2=>K p q S2:=by
 refine wo (x:=(.optr S.length 0 0,S++[.cells [y44.zero] true])) rfl ?_
 have hl:(S++[Row.cells [y44.zero] true]).length=S.length+1:=by simp
 refine wo (x:=(.optr (S.length+1) 0 0,(S++[.cells [y44.zero] true])++[.cells [y44.zero] true])) (by rw[←hl];rfl) ?_
 have h0:((S++[Row.cells [y44.zero] true])++[.cells [y44.zero] true])[S.length]?=some (.cells [y44.zero] true):=at_app at_new
 have h1:((S++[Row.cells [y44.zero] true])++[.cells [y44.zero] true])[S.length+1]?=some (.cells [y44.zero] true):=by rw[←hl];exact at_new
 refine wo (store_I h0 rfl) ?_
 refine wo (store_I (at_ne h1 (by omega)) rfl) ?_
 refine h _ _ (at_ne (at_eq h0) (by omega)) (at_eq (at_ne h1 (by omega))) ?_ (by simp)
 exact(((Kp.app (T:=[Row.cells [y44.zero] true]) (Nat.le_refl _)).trans (Kp.mono (Kp.app (T:=[Row.cells [y44.zero] true]) (Nat.le_refl _)) (by simp))).trans (Kp.set (Nat.le_refl _))).trans (Kp.set (by omega))
theorem f_coef{l:List (Int×VC)}{c:VC}{i:Nat}{Q:SV→Prop}(hm:Mk l)(h:∀c',(c'=.nil→zAt l i=0)→Q (I (zAt l i) c')):wpO (pW cT 285 [.vsl (Is l) c,.int .i64 (i:Int)]) Q:=by
 refine po rfl (F285_ok (k:=fun v S=>wpO (frz S dS v) Q) ?_)
 unfold F285
 refine wo rfl ?_
 simp only[len24,b_lss,ws]
 refine condP_dec (fun hi=>?_) (fun hi=>?_)
 ·obtain⟨p,hp⟩:∃p,l[i]?=some p:=⟨l[i]'(by omega),by simp⟩
  have hz:zAt l i=p.1:=by unfold zAt;rw[hp]
  rw[hz]at h
  refine wo (idx24 hp) ?_
  iterate 3 refine wo rfl ?_
  exact h p.2 (hm.get hp)
 ·have hz:zAt l i=0:=by unfold zAt;rw[List.getElem?_eq_none (by omega)]
  rw[hz]at h
  refine cpu rfl rfl (m_of (n:=0) (by decide) fun c' hc'=>?_)
  iterate 2 refine wo rfl ?_
  exact h c' hc'
theorem cut_loop:∀(l:List (Int×VC)) (c:VC) (e:En) (k:X→En→Zt→Prop),e 0=.vsl (Is l) c→l.length<1000000→
  (∀(e':En) (c':VC),e' 0=.vsl (Is (trimZ l)) c'→k (.exit 0) e' [])→DenP cT 22 (.loop L238_0) e [] k:=by
 intro l
 induction l using snoc_ind with
 |h0=>
  intro c e k h0 hs hk
  refine L238_0_ok ?_
  unfold TL238_0
  simp only[h0,len24,b_gtr,ws,List.length_nil]
  rw[decide_eq_false (by simp)]
  simp only[grdP_ft,pickS_f,ws,cf_]
  exact hk _ c h0
 |h l p ih=>
  intro c e k h0 hs hk
  have hlen:(l++[p]).length=l.length+1:=by simp
  have hp:(l++[p])[l.length]?=some p:=by rw[List.getElem?_append_right (Nat.le_refl _)];simp
  rw[trimZ_snoc]at hk
  rw[hlen]at hs
  have e5:=pI (i:=l.length+1) (by omega) (by omega)
  rw[Nat.add_sub_cancel]at e5
  have ei:=idx24 (c:=c) hp
  have el:ldS y44 [] (.vptr (I p.1 p.2))=some (I p.1 p.2):=rfl
  refine L238_0_ok ?_
  unfold TL238_0
  simp only[h0,len24,hlen,b_gtr,ws]
  rw[decide_eq_true (by omega)]
  simp only[grdP_tt,len24,hlen,b_sub,ws,e5,ei,el]
  refine cpu rfl rfl (c34 (z:=p.1) (c:=p.2) ?_)
  simp only[grdP_tt,b_eql,ws,pickS_t]
  have hsg:(sgn p.1=0)↔p.1=0:=by unfold sgn;split<;>(try split)<;>omega
  refine condP_dec (fun hz=>?_) (fun hz=>?_)
  ·rw[if_pos (hsg.1 hz)]at hk
   obtain⟨c',hn,hsl⟩:=slic_v (j:=y44) (es:=Is (l++[p])) (c:=c) (k:=.i64) (n:=l.length) (by decide) Is_size (by simp)
   try simp only[len24,hlen,ws,b_sub,e5]
   refine wo hsl ?_
   rw[Is_take,List.take_left]
   exact ih c' _ k rfl (by omega) hk
  ·rw[if_neg (fun e=>hz (hsg.2 e))]at hk
   exact hk _ c h0
theorem f_cut{l:List (Int×VC)}{c:VC}{Q:SV→Prop}(hs:l.length<1000000)(h:∀c',Q (.vsl (Is (trimZ l)) c')):wpO (pW cT 238 [.vsl (Is l) c]) Q:=by
 refine po rfl (F238_ok (k:=fun v S=>wpO (frz S dS v) Q) ?_)
 unfold F238
 refine cut_loop l c _ _ rfl hs fun e' c' h0=>?_
 refine K238_0e0_ok ?_
 unfold TK238_0e0
 rw[h0]
 exact h c'
theorem cut_own{S:Zt}{v:SV}{l:List (Int×VC)}{b:Nat}{k:SV×Zt→Prop}(hO:Own S v 2 (Is l) b)(hs:l.length<1000000)(h:∀c' S',Kp S S' b→k (.vsl (Is (trimZ l)) c',S')):wpO (cW cT 238 [v] S) k:=by
 obtain⟨c,_,hf⟩:=fz_own hO Is_pure
 exact call_fz1 rfl hf (fun S' hK=>f_cut hs fun c'=>h c' S' hK)
theorem diff_loop:∀(m:Nat) (a b d:List (Int×VC)) (A B:List Int) (ca cb:VC) (N n:Nat) (S:Zt) (e:En) (k:X→En→Zt→Prop),Zl a A N→Zl b B N→N<1000000→d.length+m=n→n<1000000→Zl d ((List.range d.length).map (fun i=>cf A i-cf B i)) (N+1)→
  e 0=.vsl (Is a) ca→e 1=.vsl (Is b) cb→e 14=.int .i64 (n:Int)→e 15=.int .i64 (d.length:Int)→Own S (e 5) 2 (Is (d++List.replicate m (0,.nil))) 0→
  (∀(d':List (Int×VC)) (e':En) (S':Zt),Zl d' ((List.range n).map (fun i=>cf A i-cf B i)) (N+1)→Own S' (e' 5) 2 (Is d') 0→k (.exit 0) e' S')→DenP cT 31 (.loop L235_0) e S k:=by
 intro m
 induction m with
 |zero=>
  intro a b d A B ca cb N n S e k ha hb hN hd hn hD h0 h1 h14 h15 hO hk
  refine L235_0_ok ?_
  unfold TL235_0
  simp only[h14,h15,b_lss,ws]
  rw[decide_eq_false (by omega),cf_]
  have:d.length=n:=by omega
  rw[this]at hD
  rw[List.replicate_zero,List.append_nil]at hO
  exact hk d _ S hD hO
 |succ m ih=>
  intro a b d A B ca cb N n S e k ha hb hN hd hn hD h0 h1 h14 h15 hO hk
  refine L235_0_ok ?_
  unfold TL235_0
  simp only[h0,h1,h14,h15,b_lss,ws]
  rw[decide_eq_true (by omega),condP_t]
  refine cpu rfl rfl (f_coef ha.mks fun c1 hc1=>?_)
  refine cpu rfl rfl (f_coef hb.mks fun c2 hc2=>?_)
  rw[ha.at]at hc1 ⊢
  rw[hb.at]at hc2 ⊢
  have b1:=cf_bd ha.bd d.length
  have b2:=cf_bd hb.bd d.length
  refine cpu rfl rfl (m_sub (by omega) (by omega) hc2 fun c3 hc3=>?_)
  refine putI hO (by simp) (fun p S' hO' _ _=>?_)
  rw[row_put]at hO'
  simp only[b_add,ws]
  rw[sI (by omega)]
  have hlen:(d++[(cf A d.length-cf B d.length,c3)]).length=d.length+1:=by simp
  refine ih a b (d++[(cf A d.length-cf B d.length,c3)]) A B ca cb N n S' _ k ha hb hN (by rw[hlen];omega) hn ?_ h0 h1 h14 (by rw[hlen];rfl) hO' hk
  rw[hlen,List.range_succ,List.map_append]
  exact hD.snoc hc3 (wd_subz b1 b2)
theorem f_diff{a b:List (Int×VC)}{A B:List Int}{ca cb:VC}{N:Nat}{Q:SV→Prop}(ha:Zl a A N)(hb:Zl b B N)(hN:N<1000000)(hla:A.length<100000)(hlb:B.length<100000)
  (h:∀r c',Zl r (trI ((List.range (max A.length B.length)).map (fun i=>cf A i-cf B i))) (N+1)→Q (.vsl (Is r) c')):wpO (pW cT 235 [.vsl (Is a) ca,.vsl (Is b) cb]) Q:=by
 refine po rfl (F235_ok (k:=fun v S=>wpO (frz S dS v) Q) ?_)
 unfold F235
 simp only[len24,max_2,ws,ha.len,hb.len]
 have e1:max (A.length:Int) (B.length:Int)=((max A.length B.length:Nat):Int):=by omega
 rw[e1]
 generalize hn:max A.length B.length=n at h ⊢
 refine Own.mk (by decide) rfl (by unfold roomS;omega) (by show n*32≤_;unfold roomS;omega) (fun v S hO _ _=>?_)
 rw[Is_zeros]at hO
 refine wo (hO.own.len rfl) ?_
 rw[Is_len,List.length_replicate]
 refine diff_loop n a b [] A B ca cb N n S _ _ ha hb hN (by simp) (by omega) (Zl.nil _) rfl rfl rfl rfl (hO.own.mono (Nat.zero_le _)) (fun d' e' S' hd' hO'=>?_)
 refine K235_0e0_ok ?_
 unfold TK235_0e0
 have hl:=hd'.len
 simp at hl
 refine cut_own hO' (by omega) (fun c' S2 _=>?_)
 refine wo (frz_pure rfl).1 ?_
 exact h _ c' hd'.trim
theorem plus_loop:∀(m:Nat) (a d:List (Int×VC)) (b:List Nat) (A:List Int) (ca cb:VC) (N M n:Nat) (mz:Int) (cm:VC) (S:Zt) (e:En) (k:X→En→Zt→Prop),Zl a A N→(∀x∈b,x<4294967296)→wd mz≤M→N<100000→M<100000→d.length+m=n→n<1000000→Zl d ((List.range d.length).map (fun i=>cf A i+mz*((b[i]?.getD 0:Nat):Int))) (N+M+2)→
  e 0=.vsl (Is a) ca→e 2=.vsl (u64s b) cb→e 4=.optr 0 0 0→e 16=.int .i64 (n:Int)→e 17=.int .i64 (d.length:Int)→Own S (e 7) 2 (Is (d++List.replicate m (0,.nil))) 1→S[0]?=some (.cells [I mz cm] true)→
  (∀(d':List (Int×VC)) (e':En) (S':Zt),Zl d' ((List.range n).map (fun i=>cf A i+mz*((b[i]?.getD 0:Nat):Int))) (N+M+2)→Own S' (e' 7) 2 (Is d') 1→k (.exit 0) e' S')→DenP cT 49 (.loop L234_0) e S k:=by
 intro m
 induction m with
 |zero=>
  intro a d b A ca cb N M n mz cm S e k ha hb hm hN hM hd hn hD h0 h2 h4 h16 h17 hO hS hk
  refine L234_0_ok ?_
  unfold TL234_0
  simp only[h16,h17,b_lss,ws]
  rw[decide_eq_false (by omega),cf_]
  have:d.length=n:=by omega
  rw[this]at hD
  rw[List.replicate_zero,List.append_nil]at hO
  exact hk d _ S hD hO
 |succ m ih=>
  intro a d b A ca cb N M n mz cm S e k ha hb hm hN hM hd hn hD h0 h2 h4 h16 h17 hO hS hk
  refine L234_0_ok ?_
  unfold TL234_0
  simp only[h0,h2,h4,h16,h17,b_lss,ws]
  rw[decide_eq_true (by omega),condP_t]
  refine cpu rfl rfl (f_coef ha.mks fun c1 hc1=>?_)
  rw[ha.at]at hc1 ⊢
  have b1:=cf_bd ha.bd d.length
  refine putI hO (by simp) (fun p S1 hO1 hon1 _=>?_)
  rw[row_put]at hO1
  have hS1:=hon1.at hO (by decide) hS
  simp only[len100,b_lss,ws]
  by_cases hlt:d.length<b.length
  ·rw[decide_eq_true (by omega),condP_t]
   obtain⟨y,hy⟩:∃y,b[d.length]?=some y:=⟨b[d.length],by simp⟩
   have hyb:=hb _ (List.mem_of_getElem? hy)
   refine getI hO1 (p:=(cf A d.length,c1)) (by rw[List.getElem?_append_left (by simp),List.getElem?_append_right (Nat.le_refl _)];simp) (fun q=>?_)
   refine wo (load_I hS1) ?_
   refine wo (idx100 hy) ?_
   simp only[ld25,ws]
   rw[conv2,ws,wrap64 (n:=(y:Int)) (by omega) (by omega)]
   refine cpu rfl rfl (m_of (by omega) fun c2 hc2=>?_)
   have b2:=wd_small (z:=(y:Int)) (by omega)
   refine cpu rfl rfl (c38 (by omega) (by omega) fun c3 hc3=>?_)
   have b3:=wd_mulz hm b2
   refine cpu rfl rfl (m_add (by omega) (by omega) fun c4 hc4=>?_)
   refine putI hO1 (by simp) (fun p2 S2 hO2 hon2 _=>?_)
   have hset:((d++[(cf A d.length,c1)])++List.replicate m ((0:Int),VC.nil)).set d.length (cf A d.length+mz*(y:Int),c4)=(d++[(cf A d.length+mz*(y:Int),c4)])++List.replicate m (0,.nil):=by
    rw[List.append_assoc,List.set_append_right _ _ (Nat.le_refl _),Nat.sub_self];simp
   rw[hset]at hO2
   simp only[b_add,ws]
   rw[sI (by omega)]
   have hlen:(d++[(cf A d.length+mz*(y:Int),c4)]).length=d.length+1:=by simp
   refine ih a (d++[(cf A d.length+mz*(y:Int),c4)]) b A ca cb N M n mz cm S2 _ k ha hb hm hN hM (by rw[hlen];omega) hn ?_ h0 h2 h4 h16 (by rw[hlen];rfl) hO2 (hon2.at hO1 (by decide) hS1) hk
   rw[hlen,List.range_succ,List.map_append]
   have:=hD.snoc (z:=cf A d.length+mz*(y:Int)) hc4 (by have:=wd_addz (n:=N+M+1) (z:=cf A d.length) (w:=mz*(y:Int)) (by omega) (by omega);omega)
   simpa[hy]using this
  ·rw[decide_eq_false (by omega),cf_]
   have hy:b[d.length]?=none:=List.getElem?_eq_none (by omega)
   simp only[b_add,ws]
   rw[sI (by omega)]
   have hlen:(d++[(cf A d.length,c1)]).length=d.length+1:=by simp
   refine ih a (d++[(cf A d.length,c1)]) b A ca cb N M n mz cm S1 _ k ha hb hm hN hM (by rw[hlen];omega) hn ?_ h0 h2 h4 h16 (by rw[hlen];rfl) hO1 hS1 hk
   rw[hlen,List.range_succ,List.map_append]
   have:=hD.snoc (z:=cf A d.length) hc1 (by omega)
   simpa[hy]using this
theorem f_plus{a:List (Int×VC)}{b:List Nat}{A:List Int}{ca cb cm:VC}{N M:Nat}{mz:Int}{Q:SV→Prop}(ha:Zl a A N)(hb:∀x∈b,x<4294967296)(hm:wd mz≤M)(hN:N<100000)(hM:M<100000)(hla:A.length<100000)(hlb:b.length<100000)
  (h:∀r c',Zl r (trI (Pl.addL A (Pl.scL mz (Pl.nv b)))) (N+M+2)→Q (.vsl (Is r) c')):wpO (pW cT 234 [.vsl (Is a) ca,I mz cm,.vsl (u64s b) cb]) Q:=by
 refine po rfl (F234_ok (k:=fun v S=>wpO (frz S dS v) Q) ?_)
 unfold F234
 refine wo rfl ?_
 simp only[len24,len100,max_2,ws,ha.len]
 have e1:max (A.length:Int) (b.length:Int)=((max A.length b.length:Nat):Int):=by omega
 rw[e1]
 rw[←Pl.plus_eq]at h
 generalize hn:max A.length b.length=n at h ⊢
 refine Own.mk (by decide) rfl (by unfold roomS;omega) (by show n*32≤_;unfold roomS;omega) (fun v S hO hK _=>?_)
 rw[Is_zeros]at hO
 refine wo (hO.own.len rfl) ?_
 rw[Is_len,List.length_replicate]
 refine plus_loop n a [] b A ca cb N M n mz cm S _ _ ha hb hm hN hM (by simp) (by omega) (Zl.nil _) rfl rfl rfl rfl rfl hO.own (hK.at (i:=0) (Nat.zero_lt_one) rfl) (fun d' e' S' hd' hO'=>?_)
 refine K234_0e0_ok ?_
 unfold TK234_0e0
 have hl:=hd'.len
 simp at hl
 refine cut_own hO' (by omega) (fun c' S2 _=>?_)
 refine wo (frz_pure rfl).1 ?_
 exact h _ c' hd'.trim
open Pl (tm red Rd)
theorem cmpI_gt0{a b:Int}:0<cmpI a b↔b<a:=by
 unfold cmpI
 by_cases h:a<b
 ·rw[if_pos h];omega
 ·rw[if_neg h]
  by_cases h2:b<a
  ·rw[if_pos h2];omega
  ·rw[if_neg h2];omega
theorem near_abs{m c:Int}(hm:2≤m):(nearZ m c).natAbs≤m.natAbs:=by
 have h1:=Int.emod_nonneg c (show m≠0 by omega)
 have h2:=Int.emod_lt_of_pos c (show 0<m by omega)
 unfold nearZ
 generalize c%m=r at *
 split<;>omega
theorem mod_abs{m c:Int}(hm:2≤m):(c%m).natAbs≤m.natAbs:=by
 have h1:=Int.emod_nonneg c (show m≠0 by omega)
 have h2:=Int.emod_lt_of_pos c (show 0<m by omega)
 generalize c%m=r at *
 omega
theorem near_loop:∀(k0:Nat) (a d:List (Int×VC)) (A:List Int) (ca:VC) (N M n:Nat) (m:Int) (cm:VC) (S:Zt) (e:En) (k:X→En→Zt→Prop),Zl a A N→2≤m→(cm=.nil→m=0)→wd m≤M→N<100000→M<100000→d.length+k0=n→n=A.length→n<1000000→Zl d ((List.range d.length).map (fun i=>nearZ m (cf A i))) M→
  e 3=.optr 0 0 0→e 14=.vsl (Is a) ca→e 15=.int .i64 (n:Int)→e 16=.int .i64 (d.length:Int)→Own S (e 5) 2 (Is (d++List.replicate k0 (0,.nil))) 1→S[0]?=some (.cells [I m cm] true)→
  (∀(d':List (Int×VC)) (e':En) (S':Zt),Zl d' ((List.range n).map (fun i=>nearZ m (cf A i))) M→Own S' (e' 5) 2 (Is d') 1→k (.exit 0) e' S')→DenP cT 44 (.loop L167_0) e S k:=by
 intro k0
 induction k0 with
 |zero=>
  intro a d A ca N M n m cm S e k ha hm hcm hmM hN hM hd hnA hn hD h3 h14 h15 h16 hO hS hk
  refine L167_0_ok ?_
  unfold TL167_0
  simp only[h15,h16,b_lss,ws]
  rw[decide_eq_false (by omega),cf_]
  have:d.length=n:=by omega
  rw[this]at hD
  rw[List.replicate_zero,List.append_nil]at hO
  exact hk d _ S hD hO
 |succ k0 ih=>
  intro a d A ca N M n m cm S e k ha hm hcm hmM hN hM hd hnA hn hD h3 h14 h15 h16 hO hS hk
  have hal:=ha.len
  obtain⟨p,hp⟩:∃p,a[d.length]?=some p:=⟨a[d.length]'(by omega),by simp⟩
  have hpz:p.1=cf A d.length:=by rw[←ha.at];unfold zAt;rw[hp]
  have hpb:=cf_bd ha.bd d.length
  have hpm:=ha.mks p (List.mem_of_getElem? hp)
  rw[hpz]at hpm
  refine L167_0_ok ?_
  unfold TL167_0
  simp only[h3,h14,h15,h16,b_lss,ws]
  rw[decide_eq_true (by omega),condP_t]
  refine wo (idx24 hp) ?_
  refine wo (x:=I p.1 p.2) rfl ?_
  rw[hpz]
  refine newI (fun S1 hn1 hK1 hl1=>?_)
  have hO1:=hO.kp hK1 (Nat.le_refl _)
  have hS1:=hK1.at (at_lt hS) hS
  refine wo (load_I hn1) ?_
  refine wo (load_I hS1) ?_
  refine cpu rfl rfl (m_divmod (by omega) (by omega) (by omega) hpm fun c1 c2 hc1 hc2=>?_)
  iterate 3 refine wo rfl ?_
  refine newII (fun S2 T hq2 hr2 hK2 hl2=>?_)
  have hO2:=hO1.kp hK2 (Nat.le_refl _)
  have hS2:=hK2.at (at_lt hS1) hS1
  refine wo (load_I hr2) ?_
  refine wo (load_I hr2) ?_
  have hrb:wd (cf A d.length%m)≤M:=Nat.le_trans (wd_le (mod_abs hm)) hmM
  refine cpu rfl rfl (m_add (by omega) (by omega) fun c3 hc3=>?_)
  refine wo (load_I hS2) ?_
  have hrr:=wd_addz hrb hrb
  refine cpu rfl rfl (m_cmpz (by omega) (by omega) ?_)
  simp only[b_gtr,ws]
  have fin:∀(z:Int) (c:VC) (S3:Zt) (e':En),z=nearZ m (cf A d.length)→(c=.nil→z=0)→Own S3 (e 5) 2 (Is (d++List.replicate (k0+1) (0,.nil))) 1→S3[0]?=some (.cells [I m cm] true)→e' 3=.optr 0 0 0→e' 5=e 5→e' 14=.vsl (Is a) ca→e' 15=.int .i64 (n:Int)→e' 16=.int .i64 ((d.length+1:Nat):Int)→
    ∀S4,Own S4 (e 5) 2 (Is ((d++List.replicate (k0+1) ((0:Int),VC.nil)).set d.length (z,c))) 1→S4[0]?=some (.cells [I m cm] true)→DenP cT 44 (.loop L167_0) e' S4 k:=by
   intro z c S3 e' hz hc hO3 hS3 g3 g5 g14 g15 g16 S4 hO4 hS4
   rw[row_put,←g5]at hO4
   have hlen:(d++[(z,c)]).length=d.length+1:=by simp
   refine ih a (d++[(z,c)]) A ca N M n m cm S4 e' k ha hm hcm hmM hN hM (by rw[hlen];omega) hnA hn ?_ g3 g14 g15 (by rw[hlen];exact g16) hO4 hS4 hk
   rw[hlen,List.range_succ,List.map_append]
   subst hz
   exact hD.snoc hc (Nat.le_trans (wd_le (near_abs hm)) hmM)
  by_cases hgt:m<cf A d.length%m+cf A d.length%m
  ·rw[decide_eq_true (cmpI_gt0.2 hgt),condP_t]
   refine wo (load_I hr2) ?_
   refine wo (load_I hS2) ?_
   refine cpu rfl rfl (m_sub (by omega) (by omega) hcm fun c4 hc4=>?_)
   refine wo (store_I hr2 rfl) ?_
   have hK3:Kp S1 (S2.set (S1.length+1) (.cells [I (cf A d.length%m-m) c4] true)) S1.length:=hK2.trans (Kp.set (Nat.le_succ _))
   have hr3:(S2.set (S1.length+1) (Row.cells [I (cf A d.length%m-m) c4] true))[S1.length+1]?=some (.cells [I (cf A d.length%m-m) c4] true):=at_eq hr2
   generalize S2.set (S1.length+1) (Row.cells [I (cf A d.length%m-m) c4] true)=S3 at hK3 hr3 ⊢
   have hO3:=hO1.kp hK3 (Nat.le_refl _)
   have hS3:=hK3.at (at_lt hS1) hS1
   refine wo (load_I hr3) ?_
   refine putI hO3 (by simp) (fun q S4 hO4 hon4 _=>?_)
   simp only[b_add,ws]
   rw[sI (by omega)]
   refine fin (cf A d.length%m-m) c4 S3 _ (by unfold nearZ;rw[if_pos hgt]) hc4 hO3 hS3 ?_ ?_ ?_ ?_ ?_ S4 hO4 (hon4.at hO3 (by decide) hS3)<;>first|exact h3|exact h14|exact h15|rfl
  ·rw[decide_eq_false (fun h=>hgt (cmpI_gt0.1 h)),cf_]
   refine wo (load_I hr2) ?_
   refine putI hO2 (by simp) (fun q S4 hO4 hon4 _=>?_)
   simp only[b_add,ws]
   rw[sI (by omega)]
   refine fin (cf A d.length%m) c2 S2 _ (by unfold nearZ;rw[if_neg hgt]) hc2 hO2 hS2 ?_ ?_ ?_ ?_ ?_ S4 hO4 (hon4.at hO2 (by decide) hS2)<;>first|exact h3|exact h14|exact h15|rfl
theorem f_near{a:List (Int×VC)}{A:List Int}{ca cm:VC}{N M:Nat}{m:Int}{Q:SV→Prop}(ha:Zl a A N)(hm:2≤m)(hcm:cm=.nil→m=0)(hmM:wd m≤M)(hN:N<100000)(hM:M<100000)(hla:A.length<100000)
  (h:∀r c',Zl r (trI (nearL m A)) M→Q (.vsl (Is r) c')):wpO (pW cT 167 [.vsl (Is a) ca,I m cm]) Q:=by
 refine po rfl (F167_ok (k:=fun v S=>wpO (frz S dS v) Q) ?_)
 unfold F167
 refine wo rfl ?_
 simp only[len24,ws,ha.len]
 rw[←Pl.near_eq]at h
 refine Own.mk (by decide) rfl (by unfold roomS;omega) (by show A.length*32≤_;unfold roomS;omega) (fun v S hO hK _=>?_)
 rw[Is_zeros]at hO
 refine near_loop A.length a [] A ca N M A.length m cm S _ _ ha hm hcm hmM hN hM (by simp) rfl (by omega) (Zl.nil _) rfl rfl rfl rfl hO.own (hK.at (i:=0) (Nat.zero_lt_one) rfl) (fun d' e' S' hd' hO'=>?_)
 refine K167_0e0_ok ?_
 unfold TK167_0e0
 have hl:=hd'.len
 simp at hl
 refine cut_own hO' (by omega) (fun c' S2 _=>?_)
 refine wo (frz_pure rfl).1 ?_
 exact h _ c' hd'.trim
theorem image_loop:∀(k0:Nat) (a:List (Int×VC)) (d:List Nat) (A:List Int) (ca:VC) (N M n p:Nat) (m:Int) (cm cp:VC) (ip:Nat) (S:Zt) (e:En) (k:X→En→Zt→Prop),Zl a A N→1≤m→wd m≤M→0<p→p<4294967296→N<100000→M<100000→d.length+k0=n→n=A.length→n<1000000→d=(List.range d.length).map (fun i=>((cf A i/m)%(p:Int)).toNat)→
  e 2=.int .u64 (p:Int)→e 4=.optr 0 0 0→e 8=.optr ip 0 0→e 25=.vsl (Is a) ca→e 26=.int .i64 (n:Int)→e 27=.int .i64 (d.length:Int)→Own S (e 7) 1 (u64s (d++List.replicate k0 0)) 1→S[0]?=some (.cells [I m cm] true)→S[ip]?=some (.cells [I (p:Int) cp] true)→Dj (e 7) (.osl ip 1 0 0 none)→
  (∀(e':En) (S':Zt),e' 2=.int .u64 (p:Int)→Own S' (e' 7) 1 (u64s ((List.range n).map (fun i=>((cf A i/m)%(p:Int)).toNat))) 1→k (.exit 0) e' S')→DenP cT 61 (.loop L100_0) e S k:=by
 intro k0
 induction k0 with
 |zero=>
  intro a d A ca N M n p m cm cp ip S e k ha hm hmM hp hp2 hN hM hd hnA hn hD h2 h4 h8 h25 h26 h27 hO hS hSp hdj hk
  refine L100_0_ok ?_
  unfold TL100_0
  simp only[h26,h27,b_lss,ws]
  rw[decide_eq_false (by omega),cf_]
  rw[List.replicate_zero,List.append_nil,hD,show d.length=n by omega]at hO
  exact hk _ S h2 hO
 |succ k0 ih=>
  intro a d A ca N M n p m cm cp ip S e k ha hm hmM hp hp2 hN hM hd hnA hn hD h2 h4 h8 h25 h26 h27 hO hS hSp hdj hk
  have hal:=ha.len
  obtain⟨q,hq⟩:∃p,a[d.length]?=some p:=⟨a[d.length]'(by omega),by simp⟩
  have hqz:q.1=cf A d.length:=by rw[←ha.at];unfold zAt;rw[hq]
  have hqb:=cf_bd ha.bd d.length
  have hqm:=ha.mks q (List.mem_of_getElem? hq)
  rw[hqz]at hqm
  refine L100_0_ok ?_
  unfold TL100_0
  simp only[h4,h8,h25,h26,h27,b_lss,ws]
  rw[decide_eq_true (by omega),condP_t]
  refine wo (idx24 hq) ?_
  refine wo (x:=I q.1 q.2) rfl ?_
  rw[hqz]
  refine newI (fun S1 hn1 hK1 hl1=>?_)
  have hO1:=hO.kp hK1 (Nat.le_refl _)
  have hS1:=hK1.at (at_lt hS) hS
  have hSp1:=hK1.at (at_lt hSp) hSp
  refine wo (load_I hn1) ?_
  refine wo (load_I hS1) ?_
  refine cpu rfl rfl (m_divmod (by omega) (by omega) (by omega) hqm fun c1 c2 hc1 hc2=>?_)
  iterate 3 refine wo rfl ?_
  refine newII (fun S2 T hq2 hr2 hK2 hl2=>?_)
  have hO2:=hO1.kp hK2 (Nat.le_refl _)
  have hS2:=hK2.at (at_lt hS1) hS1
  have hSp2:=hK2.at (at_lt hSp1) hSp1
  refine wo (load_I hq2) ?_
  refine wo (load_I hSp2) ?_
  have hqb2:wd (cf A d.length/m)≤N:=by
   refine Nat.le_trans (wd_le ?_) hqb
   exact Int.natAbs_ediv_le_natAbs _ _
  have hpb:=wd_small (z:=(p:Int)) (by omega)
  generalize hz:cf A d.length/m=z at *
  refine cpu rfl rfl (m_divmod (by omega) (by omega) (by omega) hc1 fun c3 c4 hc3 hc4=>?_)
  iterate 3 refine wo rfl ?_
  refine newII (fun S3 T2 hq3 hr3 hK3 hl3=>?_)
  have hO3:=hO2.kp hK3 (Nat.le_refl _)
  have hS3:=hK3.at (at_lt hS2) hS2
  have hSp3:=hK3.at (at_lt hSp2) hSp2
  refine wo (load_I hr3) ?_
  have hr0:=Int.emod_nonneg z (show(p:Int)≠0 by omega)
  have hr1:=Int.emod_lt_of_pos z (show 0<(p:Int)by omega)
  refine cpu rfl rfl (m_small hr0 (by omega) ?_)
  iterate 2 refine wo rfl ?_
  obtain⟨t,ht⟩:=Int.eq_ofNat_of_zero_le hr0
  have htn:(z%(p:Int)).toNat=t:=by omega
  rw[ht]at hr1 ⊢
  rw[conv25,ws,wrapU64 (by omega) (by omega)]
  refine Own.put (j:=y25) (e:=.int .u64 ((0:Nat):Int)) (e':=.int .u64 (t:Int)) hO3 rfl rfl (by decide) (u64s_get (by rw[List.getElem?_append_right (Nat.le_refl _)];simp)) rfl rfl rfl (fun pp S4 hO4 hon4 _=>?_)
  rw[u64s_set,row_set64]at hO4
  simp only[b_add,ws]
  rw[sI (by omega)]
  have hlen:(d++[t]).length=d.length+1:=by simp
  have hSp4:S4[ip]?=some (.cells [I (p:Int) cp] true):=by
   rw[hon4 ip (at_lt hSp3) (fun s o n c e=>hdj ip s o n c ip 1 0 0 none e rfl rfl)]
   exact hSp3
  refine ih a (d++[t]) A ca N M n p m cm cp ip S4 _ k ha hm hmM hp hp2 hN hM (by rw[hlen];omega) hnA hn ?_ h2 h4 h8 h25 h26 (by rw[hlen];rfl) hO4 (hon4.at hO3 (by decide) hS3) hSp4 hdj hk
  rw[hlen,List.range_succ,List.map_append,←hD]
  simp only[List.map_cons,List.map_nil,hz,htn]
theorem f_image{S:Zt}{a:List (Int×VC)}{A:List Int}{ca cm:VC}{N M p:Nat}{m:Int}{Q:SV→Prop}(ha:Zl a A N)(hm:1≤m)(hmM:wd m≤M)(hp:0<p)(hp2:p<4294967296)(hN:N<100000)(hM:M<100000)(hla:A.length<100000)
  (h:∀c',Q (.vsl (u64s (red p (A.map (·/m)))) c')):wpO (pW cT 100 [.vsl (Is a) ca,I m cm,.int .u64 (p:Int)]) Q:=by
 refine po rfl (F100_ok (k:=fun v S=>wpO (frz S dS v) Q) ?_)
 unfold F100
 refine wo rfl ?_
 simp only[len24,ws,ha.len]
 refine Own.mk (by decide) rfl (by unfold roomS;omega) (by show A.length*8≤_;unfold roomS;omega) (fun v S hO hK hl=>?_)
 have hO':Own S v 1 (u64s (List.replicate A.length 0)) 1:=by rw[←u64s_zeros];exact hO.own
 rw[conv2,ws,wrap64 (n:=(p:Int)) (by omega) (by omega)]
 refine cpu rfl rfl (m_of (by omega) fun c1 hc1=>?_)
 refine newI (fun S1 hn1 hK1 hl1=>?_)
 have hO1:=hO'.kp hK1 (Nat.le_refl _)
 have h0:S[0]?=some (.cells [I m cm] true):=hK.at (i:=0) (Nat.zero_lt_one) rfl
 have hdj:Dj v (.osl S.length 1 0 0 none):=by
  obtain⟨id,cap,rest,rfl,h2,h3,h4⟩:=hO'
  intro i s o n c i' s' o' n' c' e1 e2
  cases e1;cases e2
  have:=at_lt h2
  omega
 refine image_loop A.length a [] A ca N M A.length p m cm c1 S.length S1 _ _ ha hm hmM hp hp2 hN hM (by simp) rfl (by omega) rfl rfl rfl rfl rfl rfl rfl hO1 (hK1.at (at_lt h0) h0) hn1 hdj (fun e' S' h2 hO2=>?_)
 refine K100_0e0_ok ?_
 unfold TK100_0e0
 rw[h2]
 refine wo (x:=rg p) rfl ?_
 refine f_trimO hO2 (by simp;omega) hp (fun v' S3 hO3 _ _=>?_)
 refine hO3.frz u64s_pure (fun c' _=>?_)
 have e:tm p ((List.range A.length).map (fun i=>((cf A i/m)%(p:Int)).toNat))=red p (A.map (·/m)):=by
  rw[←Pl.image_eq,List.length_map]
  congr 1
  refine List.map_congr_left (fun i hi=>?_)
  have hi':i<A.length:=by simpa using hi
  have:cf (A.map (·/m)) i=cf A i/m:=by simp[cf,List.getElem?_map,List.getElem?_eq_getElem hi']
  rw[this]
 rw[e]
 exact h c'
theorem wd_pow{z:Int}(hz:z.natAbs<4294967296):∀n,wd (z^n)≤n+1
 |0=>by rw[Int.pow_zero];decide
 |n+1=>by
  rw[Int.pow_succ]
  have:=wd_mulz (wd_pow hz n) (wd_small hz)
  omega
theorem f_power{p k:Nat}{Q:SV→Prop}(hp:0<p)(hp2:p<4294967296)(hk0:0<k)(hk:k<256)(h:∀c',c'≠.nil→Q (I ((p:Int)^k) c')):wpO (pW cT 165 [.int .u64 (p:Int),.int .i64 (k:Int)]) Q:=by
 refine po rfl (F165_ok (k:=fun v S=>wpO (frz S dS v) Q) ?_)
 unfold F165
 refine wo rfl ?_
 rw[conv2,ws,wrap64 (n:=(p:Int)) (by omega) (by omega)]
 refine cpu rfl rfl (m_of (by omega) fun c1 hc1=>?_)
 have h1:=wd_small (z:=(p:Int)) (by omega)
 have h2:=wd_pow (z:=(p:Int)) (by omega) k
 refine cpu rfl rfl (m_pow2 (N:=k+1) (by omega) hk0 hk (by omega) h2 (by omega) fun c2 hc2=>?_)
 iterate 2 refine wo rfl ?_
 iterate 5 refine wo rfl ?_
 exact h c2 hc2
structure Zr(l:List (Int×VC))(N:Nat):Prop where
 mks:Mk l
 bd:∀p∈l,wd p.1≤N
theorem Zr.set{l:List (Int×VC)}{N M i:Nat}{z:Int}{c:VC}(h:Zr l N)(hc:c=.nil→z=0)(hz:wd z≤M)(hm:N≤M):Zr (l.set i (z,c)) M:=by
 refine⟨fun p hp=>?_,fun p hp=>?_⟩
 ·rcases List.mem_or_eq_of_mem_set hp with hp|rfl
  ·exact h.mks p hp
  ·exact hc
 ·rcases List.mem_or_eq_of_mem_set hp with hp|rfl
  ·exact Nat.le_trans (h.bd p hp) hm
  ·exact hz
theorem Zr.zl{l:List (Int×VC)}{N:Nat}(h:Zr l N):Zl l (zs l) N:=⟨rfl,h.mks,fun z hz=>by
 simp only[zs,List.mem_map]at hz
 obtain⟨p,hp,rfl⟩:=hz
 exact h.bd p hp⟩
theorem zs_set{l:List (Int×VC)}{i:Nat}{z:Int}{c:VC}:zs (l.set i (z,c))=(zs l).set i z:=by simp[zs,List.map_set]
theorem mzero_loop:∀(m:Nat) (d:List (Int×VC)) (n:Nat) (S:Zt) (e:En) (k:X→En→Zt→Prop),d.length+m=n→n<1000000→Zr d 0→(∀z∈zs d,z=0)→
  e 27=.int .i64 (n:Int)→e 28=.int .i64 (d.length:Int)→Own S (e 5) 2 (Is (d++List.replicate m (0,.nil))) 0→
  (∀(d':List (Int×VC)) (e':En) (S':Zt),d'.length=n→Zr d' 0→(∀z∈zs d',z=0)→Own S' (e' 5) 2 (Is d') 0→e' 0=e 0→e' 1=e 1→k (.exit 0) e' S')→DenP cT 69 (.loop L236_0) e S k:=by
 intro m
 induction m with
 |zero=>
  intro d n S e k hd hn hz hz0 h27 h28 hO hk
  refine L236_0_ok ?_
  unfold TL236_0
  simp only[h27,h28,b_lss,ws]
  rw[decide_eq_false (by omega),cf_]
  rw[List.replicate_zero,List.append_nil]at hO
  exact hk d _ S (by omega) hz hz0 hO rfl rfl
 |succ m ih=>
  intro d n S e k hd hn hz hz0 h27 h28 hO hk
  refine L236_0_ok ?_
  unfold TL236_0
  simp only[h27,h28,b_lss,ws]
  rw[decide_eq_true (by omega),condP_t]
  refine cpu rfl rfl (m_of (n:=0) (by decide) fun c1 hc1=>?_)
  refine putI hO (by simp) (fun p S1 hO1 _ _=>?_)
  rw[row_put]at hO1
  simp only[b_add,ws]
  rw[sI (by omega)]
  have hlen:(d++[(((0:Nat):Int),c1)]).length=d.length+1:=by simp
  refine ih (d++[(((0:Nat):Int),c1)]) n S1 _ k (by rw[hlen];omega) hn ?_ ?_ h27 (by rw[hlen];rfl) hO1 hk
  ·refine⟨fun p hp=>?_,fun p hp=>?_⟩
   ·rcases List.mem_append.1 hp with hp|hp
    ·exact hz.mks p hp
    ·simp at hp;subst hp;exact fun _=>rfl
   ·rcases List.mem_append.1 hp with hp|hp
    ·exact hz.bd p hp
    ·simp at hp;subst hp;exact Nat.le_refl _
  ·intro z hzz
   have e1:zs (d++[(((0:Nat):Int),c1)])=zs d++[0]:=by simp[zs]
   rw[e1]at hzz
   rcases List.mem_append.1 hzz with h|h
   ·exact hz0 z h
   ·simpa using h
theorem pmul_inner:∀(m:Nat) (a b o:List (Int×VC)) (A B:List Int) (cb:VC) (NA NB N i k0 ix:Nat) (cx:VC) (S:Zt) (e:En) (k:X→En→Zt→Prop),Zl a A NA→Zl b B NB→k0+m=B.length→i<A.length→o.length=A.length+B.length-1→o.length<1000000→NA<100000→NB<100000→N<300000→NA+NB≤N→k0+i≤100000→Zr o (N+k0)→B.length<50000→A.length<50000→
  e 7=.int .i64 (i:Int)→e 8=.optr ix 0 0→e 43=.vsl (Is b) cb→e 44=.int .i64 (B.length:Int)→e 45=.int .i64 (k0:Int)→Own S (e 5) 2 (Is o) 0→S[ix]?=some (.cells [I (cf A i) cx] true)→(cx=.nil→cf A i=0)→Dj (e 5) (.osl ix 1 0 0 none)→
  (∀x,ev (zs o) x=ev (A.take i) x*ev B x+cf A i*x^i*ev (B.take k0) x)→
  (∀(o':List (Int×VC)) (e':En) (S':Zt),o'.length=o.length→Zr o' (N+B.length)→(∀x,ev (zs o') x=ev (A.take i) x*ev B x+cf A i*x^i*ev B x)→Own S' (e' 5) 2 (Is o') 0→e' 1=e 1→e' 36=e 36→e' 37=e 37→e' 38=e 38→k (.exit 4) e' S')→DenP cT 69 (.loop L236_2) e S k:=by
 intro m
 induction m with
 |zero=>
  intro a b o A B cb NA NB N i k0 ix cx S e k ha hb hk0 hi ho hol hNA hNB hN hNN hki hz hBl hAl h7 h8 h43 h44 h45 hO hX hcx hdj hv hk
  refine L236_2_ok ?_
  unfold TL236_2
  simp only[h44,h45,b_lss,ws]
  rw[decide_eq_false (by omega),cf_]
  have:k0=B.length:=by omega
  subst this
  rw[List.take_length]at hv
  exact hk o _ S rfl hz hv hO rfl rfl rfl rfl
 |succ m ih=>
  intro a b o A B cb NA NB N i k0 ix cx S e k ha hb hk0 hi ho hol hNA hNB hN hNN hki hz hBl hAl h7 h8 h43 h44 h45 hO hX hcx hdj hv hk
  have hbl:=hb.len
  obtain⟨q,hq⟩:∃p,b[k0]?=some p:=⟨b[k0]'(by omega),by simp⟩
  have hqz:q.1=cf B k0:=by rw[←hb.at];unfold zAt;rw[hq]
  have hqb:=cf_bd hb.bd k0
  have hab:=cf_bd ha.bd i
  obtain⟨r,hr⟩:∃p,o[i+k0]?=some p:=⟨o[i+k0]'(by omega),by simp⟩
  have hrz:r.1=cf (zs o) (i+k0):=by rw[←zAt_cf];unfold zAt;rw[hr]
  have hrb:=hz.bd r (List.mem_of_getElem? hr)
  refine L236_2_ok ?_
  unfold TL236_2
  simp only[h7,h8,h43,h44,h45,b_lss,b_add,ws]
  rw[decide_eq_true (by omega),condP_t,addI (by omega)]
  refine wo (idx24 hq) ?_
  refine wo (x:=I q.1 q.2) rfl ?_
  rw[hqz]
  refine newI (fun S1 hn1 hK1 hl1=>?_)
  have hO1:=hO.kp hK1 (Nat.le_refl _)
  have hX1:=hK1.at (at_lt hX) hX
  refine getI hO1 hr (fun pp=>?_)
  refine wo (load_I hX1) ?_
  refine wo (load_I hn1) ?_
  refine cpu rfl rfl (c38 (by omega) (by omega) fun c1 hc1=>?_)
  have hmz:=wd_mulz hab hqb
  refine cpu rfl rfl (m_add (by omega) (by omega) fun c2 hc2=>?_)
  refine putI hO1 (by omega) (fun p2 S2 hO2 hon2 _=>?_)
  rw[sI (by omega)]
  have hX2:S2[ix]?=some (.cells [I (cf A i) cx] true):=by
   rw[hon2 ix (at_lt hX1) (fun s o n c e=>hdj ix s o n c ix 1 0 0 none e rfl rfl)]
   exact hX1
  have hadd:=wd_addz (n:=N+k0) (z:=r.1) (w:=cf A i*cf B k0) hrb (by omega)
  refine ih a b (o.set (i+k0) (r.1+cf A i*cf B k0,c2)) A B cb NA NB N i (k0+1) ix cx S2 _ k ha hb (by omega) hi (by simpa using ho) (by simpa using hol) hNA hNB hN hNN (by omega) (hz.set hc2 (by omega) (by omega)) hBl hAl h7 h8 h43 h44 rfl hO2 hX2 hcx hdj ?_ ?_
  ·intro x
   rw[zs_set,Pl.ev_put (by rw[zs_len];omega),hv,Pl.ev_take_succ,Int.pow_add,hrz]
   grind
  ·intro o' e' S' q1 q2 q3 q4 q5 q6 q7 q8
   exact hk o' e' S' (by simpa using q1) q2 q3 q4 q5 q6 q7 q8
theorem pmul_outer:∀(m:Nat) (a b o:List (Int×VC)) (A B:List Int) (ca cb:VC) (NA NB N i:Nat) (S:Zt) (e:En) (k:X→En→Zt→Prop),Zl a A NA→Zl b B NB→i+m=A.length→0<B.length→o.length=A.length+B.length-1→o.length<1000000→NA<100000→NB<100000→N<200000→NA+NB≤N→Zr o (N+i*(B.length+1))→B.length<200→A.length<200→
  e 1=.vsl (Is b) cb→e 36=.vsl (Is a) ca→e 37=.int .i64 (A.length:Int)→e 38=.int .i64 (i:Int)→Own S (e 5) 2 (Is o) 0→
  (∀x,ev (zs o) x=ev (A.take i) x*ev B x)→
  (∀(o':List (Int×VC)) (e':En) (S':Zt),o'.length=o.length→Zr o' (N+A.length*(B.length+1))→(∀x,ev (zs o') x=ev A x*ev B x)→Own S' (e' 5) 2 (Is o') 0→k (.exit 2) e' S')→DenP cT 69 (.loop L236_1) e S k:=by
 intro m
 induction m with
 |zero=>
  intro a b o A B ca cb NA NB N i S e k ha hb hi hB0 ho hol hNA hNB hN hNN hz hBl hAl h1 h36 h37 h38 hO hv hk
  refine L236_1_ok ?_
  unfold TL236_1
  simp only[h37,h38,b_lss,ws]
  rw[decide_eq_false (by omega),cf_]
  have:i=A.length:=by omega
  subst this
  rw[List.take_length]at hv
  exact hk o _ S rfl hz hv hO
 |succ m ih=>
  intro a b o A B ca cb NA NB N i S e k ha hb hi hB0 ho hol hNA hNB hN hNN hz hBl hAl h1 h36 h37 h38 hO hv hk
  have hal:=ha.len
  obtain⟨q,hq⟩:∃p,a[i]?=some p:=⟨a[i]'(by omega),by simp⟩
  have hqz:q.1=cf A i:=by rw[←ha.at];unfold zAt;rw[hq]
  have hqm:=ha.mks q (List.mem_of_getElem? hq)
  rw[hqz]at hqm
  refine L236_1_ok ?_
  unfold TL236_1
  simp only[h1,h36,h37,h38,b_lss,ws]
  rw[decide_eq_true (by omega),condP_t]
  refine wo (idx24 hq) ?_
  refine wo (x:=I q.1 q.2) rfl ?_
  rw[hqz]
  refine newI (fun S1 hn1 hK1 hl1=>?_)
  have hO1:=hO.kp hK1 (Nat.le_refl _)
  simp only[len24,ws,hb.len]
  have hdj:Dj (e 5) (.osl S.length 1 0 0 none):=by
   obtain⟨id,cap,rest,e1,h2,h3,h4⟩:=hO
   intro i s o n c i' s' o' n' c' f1 f2
   rw[e1]at f1
   cases f1;cases f2
   have:=at_lt h2
   omega
  have hsm:i*(B.length+1)≤200*201:=Nat.mul_le_mul (by omega) (by omega)
  refine pmul_inner B.length a b o A B cb NA NB (N+i*(B.length+1)) i 0 S.length q.2 S1 _ _ ha hb (by omega) (by omega) ho hol hNA hNB (by omega) (by omega) (by omega) ⟨hz.mks,fun p hp=>Nat.le_trans (hz.bd p hp) (by omega)⟩ (by omega) (by omega) rfl rfl rfl rfl rfl hO1 hn1 hqm hdj (fun x=>by rw[hv];simp) ?_
  intro o' e' S' q1 q2 q3 q4 q5 q6 q7 q8
  refine K236_2e4_ok ?_
  unfold TK236_2e4
  have q8':e' 38=.int .i64 (i:Int):=q8.trans h38
  simp only[q8',b_add,ws]
  rw[sI (by omega)]
  have hnew:(i+1)*(B.length+1)=i*(B.length+1)+(B.length+1):=by rw[Nat.succ_mul]
  refine ih a b o' A B ca cb NA NB N (i+1) S' _ k ha hb (by omega) hB0 (by omega) (by omega) hNA hNB hN hNN ⟨q2.mks,fun p hp=>Nat.le_trans (q2.bd p hp) (by omega)⟩ hBl hAl (q5.trans h1) (q6.trans h36) (q7.trans h37) rfl q4 ?_ ?_
  ·intro x
   rw[q3,Pl.ev_take_succ]
   grind
  ·intro o2 e2 S2 r1 r2 r3 r4
   exact hk o2 e2 S2 (by omega) r2 r3 r4
theorem ev_zero_of{l:List Int}(h:∀z∈l,z=0)(x:Int):ev l x=0:=by
 induction l with
 |nil=>rfl
 |cons a r ih=>
  have e1:=h a List.mem_cons_self
  have e2:=ih (fun z hz=>h z (List.mem_cons_of_mem _ hz))
  have:=Pl.ev_append [a] r x
  simp only[List.singleton_append]at this
  rw[this,e2,e1]
  simp
theorem f_multiply{a b:List (Int×VC)}{A B:List Int}{ca cb:VC}{NA NB:Nat}{Q:SV→Prop}(ha:Zl a A NA)(hb:Zl b B NB)(hNA:NA<50000)(hNB:NB<50000)(hla:A.length<200)(hlb:B.length<200)(hA0:A≠[])(hB0:B≠[])
  (h:∀r c' N,N≤NA+NB+A.length*(B.length+1)→Zl r (trI (Pl.mulL A B)) N→Q (.vsl (Is r) c')):wpO (pW cT 236 [.vsl (Is a) ca,.vsl (Is b) cb]) Q:=by
 have h1:=List.length_pos_iff.2 hA0
 have h2:=List.length_pos_iff.2 hB0
 refine po rfl (F236_ok (k:=fun v S=>wpO (frz S dS v) Q) ?_)
 unfold F236
 simp only[len24,b_eql,ws,ha.len]
 rw[decide_eq_false (by omega)]
 simp only[grdP_ff,len24,ws,b_eql,pickS_f,hb.len]
 rw[decide_eq_false (by omega),cf_]
 simp only[b_add,b_sub,ws]
 rw[addI (by omega),pI (by omega) (by omega)]
 refine Own.mk (by decide) rfl (by unfold roomS;omega) (by show _*32≤_;unfold roomS;omega) (fun v S hO hK _=>?_)
 rw[Is_zeros]at hO
 refine wo (hO.own.len rfl) ?_
 rw[Is_len,List.length_replicate]
 refine mzero_loop (A.length+B.length-1) [] (A.length+B.length-1) S _ _ (by simp) (by omega) ⟨(fun p hp=>by cases hp),(fun p hp=>by cases hp)⟩ (fun z hz=>by cases hz) rfl rfl (hO.own.mono (Nat.zero_le _)) (fun d e' S2 hd hz hz0 hO2 g0 g1=>?_)
 refine K236_0e0_ok ?_
 unfold TK236_0e0
 have g0':e' 0=.vsl (Is a) ca:=g0
 have g1':e' 1=.vsl (Is b) cb:=g1
 simp only[g0',len24,ws,ha.len]
 refine pmul_outer A.length a b d A B ca cb NA NB (NA+NB) 0 S2 _ _ ha hb (by omega) h2 hd (by omega) (by omega) (by omega) (by omega) (Nat.le_refl _) ⟨hz.mks,fun p hp=>Nat.le_trans (hz.bd p hp) (Nat.zero_le _)⟩ hlb hla g1' rfl rfl rfl hO2 (fun x=>by rw[ev_zero_of hz0];simp) (fun o' e2 S3 q1 q2 q3 q4=>?_)
 refine K236_1e2_ok ?_
 unfold TK236_1e2
 refine cut_own q4 (by omega) (fun c' S4 _=>?_)
 refine wo (frz_pure rfl).1 ?_
 have e1:zs o'=Pl.mulL A B:=by
  refine Pl.list_ev ?_ (fun x=>?_)
  ·rw[zs_len,Pl.len_mulL _ _ h1 h2];omega
  ·rw[q3,Pl.ev_mulL]
 have:=q2.zl.trim
 rw[e1]at this
 exact h _ c' _ (Nat.le_refl _) this
end Go.Proofs
