/-
  Products and quotients of integers; rows of integers.
-/
import Derived.Test.YtilhffelllbggaaGreatPa
import Derived.Test.YtilhffelllbggaaGreatShG
import Derived.Test.YtilhffelllbggaaGreatLa
set_option linter.unusedVariables false
set_option linter.unusedSimpArgs false
set_option maxRecDepth 10000
namespace Go.Proofs
open Go.Sh
theorem len115(l:List Nat)(c:VC):lenS y172 (.vsl (u32s l) c)=some (.int .i64 (l.length:Int)):=by rw[len_vsl rfl,u32s_len]
theorem idx115{l:List Nat}{c:VC}{i d:Nat}(h:l[i]?=some d):ixS cT y172 (.vsl (u32s l) c) (.int .i64 (i:Int))=some (.vptr (.int .u32 (d:Int))):=idx_vsl rfl rfl (by decide) (u32s_get h) rfl
theorem norm_loop:∀(m:Nat) (l:List Nat) (c:VC) (e:En) (k:X→En→Zt→Prop),e 0=.vsl (u32s l) c→e 3=.int .i64 (m:Int)→m≤l.length→m<9223372036854775808→
  (∀e':En,e' 0=.vsl (u32s l) c→e' 3=.int .i64 ((trimL (l.take m)).length:Int)→k (.exit 0) e' [])→DenP cT 22 (.loop L227_0) e [] k:=by
 intro m
 induction m with
 |zero=>
  intro l c e k h0 h3 hm hs hk
  refine L227_0_ok ?_
  unfold TL227_0
  simp only[h0,h3]
  simp
  exact hk _ h0 h3
 |succ m ih=>
  intro l c e k h0 h3 hm hs hk
  obtain⟨d,hd⟩:∃d,l[m]?=some d:=⟨l[m],by simp⟩
  have ht:l.take (m+1)=l.take m++[d]:=by rw[List.take_add_one,hd];rfl
  rw[ht,trimL_snoc]at hk
  refine L227_0_ok ?_
  unfold TL227_0
  simp only[h0,h3]
  have e2:ixS cT y172 (.vsl (u32s l) c) (.int .i64 (m:Int))=some (.vptr (.int .u32 (d:Int))):=idx115 hd
  have e4:(0:Int)<(m:Int)+1:=by omega
  by_cases hz:d=0
  ·subst hz
   simp (disch:=omega) [wrap64,e2,load108,e4]
   refine ih l c _ k h0 rfl (by omega) (by omega) (fun e' a b=>hk e' a ?_)
   rw[if_pos rfl];exact b
  ·simp (disch:=omega) [wrap64,e2,load108,e4,hz]
   refine hk _ h0 ?_
   rw[if_neg hz]
   refine h3.trans ?_
   simp
   omega
theorem slic_v3{j:TyI}{es:List SV}{c:VC}{k k':IntKind}{n:Nat}(hj:j.size≠0)(hs:sizeIs j.size (.vsl es c)=true)(hn:n≤es.length):∃c',(c'=.nil→c=.nil)∧slicS j (.vsl es c) none (some (.int k (n:Int))) (some (.int k' (n:Int)))=some (.vsl (es.take n) c'):=by
 refine⟨(match c with|.nil=>.nil|_=>if n=n then .exact else .loose),by cases c<;>simp,?_⟩
 unfold slicS
 rw[if_neg hj]
 simp only[optNat,natS,Int.natCast_nonneg,if_true,Int.toNat_natCast,Option.map_some,Option.bind_some,hs,sliceS,Option.getD_none,Option.getD_some]
 rw[if_pos ⟨Nat.zero_le _,hn⟩,if_pos ⟨Nat.le_refl _,hn,rfl⟩]
 simp only[List.drop_zero,Nat.sub_zero]
 cases c<;>rfl
theorem c117{l:List Nat}{c:VC}{Q:SV→Prop}(hb:Bd l)(hs:l.length<9223372036854775808)(hc:c=.nil→val l=0)(h:∀c',(c'=.nil→val l=0)→Q (.vsl (u32s (encN (val l))) c')):wpO (pW cT 227 [.vsl (u32s l) c]) Q:=by
 refine po rfl (F227_ok (k:=fun v S=>wpO (frz S dS v) Q) ?_)
 unfold F227
 refine wo (len_vsl rfl) ?_
 refine norm_loop l.length l c _ _ rfl (by simp[ups,upd]) (Nat.le_refl _) hs ?_
 intro e' h0 h3
 rw[List.take_length]at h3
 refine K227_0e0_ok ?_
 unfold TK227_0e0
 rw[h0,h3]
 obtain⟨c',hn,he⟩:=slic_v3 (j:=y23) (es:=u32s l) (c:=c) (k:=.i64) (k':=.i64) (n:=(trimL l).length) (by decide) u32s_size (by simp;exact trimL_le)
 refine wo he ?_
 rw[u32s_take,trimL_take,trimL_enc hb]
 exact h c' (fun e=>hc (hn e))
theorem c120{l:List Nat}{c:VC}{i:Nat}{Q:SV→Prop}(h:Q (.int .u32 ((l[i]?.getD 0:Nat):Int))):wpO (pW cT 232 [.vsl (u32s l) c,.int .i64 (i:Int)]) Q:=by
 refine po rfl (F232_ok (k:=fun v S=>wpO (frz S dS v) Q) ?_)
 unfold F232
 simp only[len115,b_lss,ws]
 refine condP_dec (fun hi=>?_) (fun hi=>?_)
 ·obtain⟨d,hd⟩:∃d,l[i]?=some d:=⟨l[i]'(by omega),by simp⟩
  rw[hd]at h
  refine wo (idx115 hd) ?_
  refine wo rfl ?_
  exact h
 ·have:l[i]?=none:=by rw[List.getElem?_eq_none_iff];omega
  rw[this]at h
  exact h
theorem shr32{u:Option TyI}{t:Nat}:bnS .shr u (.int .u64 (t:Int)) (.int .u64 32)=some (.int .u64 ((t/4294967296:Nat):Int)):=by
 have h:=b_shr (u:=u) (k:=.u64) (k':=.u64) (a:=(t:Int)) (n:=32) (by decide)
 refine Eq.trans h ?_
 rw[show(2:Int)^32=4294967296 from rfl,Int.fdiv_eq_ediv_of_nonneg _ (by omega)]
 congr 2
theorem c119{x y c:Nat}{Q:SV→Prop}(hx:x<4294967296)(hy:y<4294967296)(hc:c≤1)(h:Q (.tup [.int .u32 (((x+y+c)%4294967296:Nat):Int),.int .u32 (((x+y+c)/4294967296:Nat):Int)])) :
  wpO (pW cT 241 [.int .u32 (x:Int),.int .u32 (y:Int),.int .u32 (c:Int)]) Q:=by
 refine po rfl (F241_ok (k:=fun v S=>wpO (frz S dS v) Q) ?_)
 unfold F241
 simp only[conv51 hx,conv51 hy,conv51 (show c<4294967296 by omega),b_add,ws]
 rw[wrapU64 (n:=(x:Int)+y) (by omega) (by omega),wrapU64 (by omega) (by omega)]
 have et:(x:Int)+y+c=((x+y+c:Nat):Int):=by omega
 rw[et,shr32]
 refine wo (conv_int rfl rfl) ?_
 simp only[ws]
 refine wo (conv_int rfl rfl) ?_
 have e1:wrS .u32 ((x+y+c:Nat):Int)=(((x+y+c)%4294967296:Nat):Int):=by rw[wrapU32m];omega
 have e2:wrS .u32 (((x+y+c)/4294967296:Nat):Int)=(((x+y+c)/4294967296:Nat):Int):=by rw[wrapU32 (by omega) (by omega)]
 rw[e1,e2]
 exact h
theorem nadd_loop:∀(m:Nat) (a b o:List Nat) (c d:VC) (n:Nat) (cy:Nat) (e:En) (k:X→En→Zt→Prop),o.length+m=n→Bd a→Bd b→Bd o→cy≤1→n<70368744177664→
  e 0=.vsl (u32s a) c→e 1=.vsl (u32s b) d→e 17=.int .i64 (n:Int)→e 5=.int .i64 (n:Int)→e 6=.osl 0 1 0 (n+1) (some (n+1))→e 7=.int .u32 (cy:Int)→e 18=.int .i64 (o.length:Int)→
  val o+4294967296^o.length*cy=val (a.take o.length)+val (b.take o.length)→
  (∀(o':List Nat) (cy':Nat) (e':En),o'.length=n→Bd o'→cy'≤1→val o'+4294967296^n*cy'=val (a.take n)+val (b.take n)→e' 6=.osl 0 1 0 (n+1) (some (n+1))→e' 5=.int .i64 (n:Int)→e' 7=.int .u32 (cy':Int)→k (.exit 0) e' [.cells (u32s (o'++List.replicate 1 0)) true])→
  DenP cT 42 (.loop L171_0) e [.cells (u32s (o++List.replicate (m+1) 0)) true] k:=by
 intro m
 induction m with
 |zero=>
  intro a b o c d n cy e k hn ha hb ho hc hs h0 h1 h17 h5 h6 h7 h18 hv hk
  refine L171_0_ok ?_
  unfold TL171_0
  simp only[h17,h18,b_lss,ws]
  refine condP_dec (fun h=>by omega) (fun _=>?_)
  have hl:o.length=n:=by omega
  rw[hl]at hv
  exact hk o cy _ hl ho hc hv h6 h5 h7
 |succ m ih=>
  intro a b o c d n cy e k hn ha hb ho hc hs h0 h1 h17 h5 h6 h7 h18 hv hk
  refine L171_0_ok ?_
  unfold TL171_0
  simp only[h0,h1,h17,h6,h7,h18,b_lss,ws]
  refine condP_dec (fun _=>?_) (fun h=>absurd (by omega) h)
  refine cpu rfl rfl (c120 ?_)
  refine cpu rfl rfl (c120 ?_)
  have hx:=ha.getD o.length
  have hy:=hb.getD o.length
  have hvt:=val_take_succ a o.length
  have hvu:=val_take_succ b o.length
  generalize a[o.length]?.getD 0=x at hx hvt ⊢
  generalize b[o.length]?.getD 0=y at hy hvu ⊢
  refine cpu rfl rfl (c119 hx hy hc ?_)
  refine wo rfl (wo rfl ?_)
  refine wo (idx_osl (j:=y23) rfl rfl (by decide) (by omega) rfl) ?_
  rw[Nat.zero_add]
  refine wo (store_row (es:=u32s (o++List.replicate (m+1+1) 0)) (e:=.int .u32 0) rfl (by rw[show(0:Int)=((0:Nat):Int) from rfl];exact u32s_get (by rw[List.getElem?_append_right (Nat.le_refl _)];simp)) rfl rfl rfl) ?_
  rw[u32s_set,row_set]
  refine wo b_add ?_
  rw[succI (by omega)]
  have hlen:(o++[(x+y+cy)%4294967296]).length=o.length+1:=by simp
  refine ih a b (o++[(x+y+cy)%4294967296]) c d n ((x+y+cy)/4294967296) _ k (by rw[hlen];omega) ha hb (ho.snoc (Nat.mod_lt _ (by decide))) (carry_le hx hy hc) hs h0 h1 h17 h5 h6 rfl (by rw[hlen];rfl) ?_ hk
  rw[hlen,val_snoc,hvt,hvu,Nat.pow_succ]
  have hdm:=Nat.div_add_mod (x+y+cy) 4294967296
  generalize (x+y+cy)/4294967296=q at hdm ⊢
  generalize (x+y+cy)%4294967296=r at hdm ⊢
  generalize 4294967296^o.length=P at hv ⊢
  grind
theorem c77{a b:Nat}{c d:VC}{Q:SV→Prop}(ha:(encN a).length<17592186044415)(hb:(encN b).length<17592186044415)(h:∀c',(c'=.nil→a+b=0)→Q (.vsl (u32s (encN (a+b))) c')):wpO (pW cT 171 [.vsl (u32s (encN a)) c,.vsl (u32s (encN b)) d]) Q:=by
 refine po rfl (F171_ok (k:=fun v S=>wpO (frz S dS v) Q) ?_)
 unfold F171
 simp only[len115,max_2,b_add,ws]
 have em:max ((encN a).length:Int) ((encN b).length:Int)=((max (encN a).length (encN b).length:Nat):Int):=by omega
 rw[em]
 generalize hn:max (encN a).length (encN b).length=n
 rw[succI (by omega)]
 refine wo (mksl_ok (j:=y23) (by decide) rfl (by unfold roomS;omega) (by unfold roomS;show(n+1)*4≤_;omega)) ?_
 show DenP cT 42 (.loop L171_0) _ [.cells (List.replicate (n+1) (SV.int .u32 0)) true] _
 rw[u32s_zeros]
 refine nadd_loop n (encN a) (encN b) [] c d n 0 _ _ (by simp) (encN_bd a) (encN_bd b) Bd.nil (by omega) (by omega) rfl rfl rfl rfl rfl rfl rfl (by simp[val]) ?_
 intro o' cy' e' hl hbo hcy hv h6 h5 h7
 rw[val_take_ge (by omega),val_take_ge (by omega),encN_val,encN_val]at hv
 refine K171_0e0_ok ?_
 unfold TK171_0e0
 simp only[h6,h5,h7]
 refine wo (idx_osl (j:=y23) rfl rfl (by decide) (by omega) rfl) ?_
 rw[Nat.zero_add,←hl]
 refine wo (store_row (es:=u32s (o'++List.replicate 1 0)) (e:=.int .u32 0) rfl (by rw[show(0:Int)=((0:Nat):Int) from rfl];exact u32s_get (by rw[List.getElem?_append_right (Nat.le_refl _)];simp)) rfl rfl rfl) ?_
 rw[u32s_set,row_set (n:=0),List.replicate_zero,List.append_nil]
 refine call_row (es:=u32s (o'++[cy'])) rfl rfl (by simp) u32s_pure ?_
 refine c117 (hbo.snoc (by omega)) (by simp;omega) capM fun c' hc'=>?_
 rw[val_snoc,hl,hv]at hc' ⊢
 exact h c' hc'
theorem c34{z:Int}{c:VC}{Q:SV→Prop}(h:Q (.int .i64 (sgn z))):wpO (pW cT 104 [I z c]) Q:=by
 refine po rfl (F104_ok (k:=fun v S=>wpO (frz S dS v) Q) ?_)
 unfold F104
 by_cases hz:z<0
 ·rw[I_neg hz]
  iterate 3 refine wo rfl ?_
  refine cndT rfl ?_
  have:sgn z=-1:=by unfold sgn;rw[if_pos hz]
  rw[this]at h
  exact h
 ·rw[I_pos hz]
  iterate 3 refine wo rfl ?_
  refine cndF rfl ?_
  iterate 2 refine wo rfl ?_
  refine wo (len30 _ _) ?_
  refine wo min_2 ?_
  have:sgn z=min ((encN z.natAbs).length:Int) 1:=by
   unfold sgn
   rw[if_neg hz]
   have:=enc_len_pos (n:=z.natAbs)
   by_cases h0:z=0
   ·subst h0;rfl
   ·rw[if_neg h0]
    have:=this.2 (by omega)
    omega
  rw[this]at h
  exact h
theorem call_fresh{cfg:Cfg}{f:FuncId}{args:List SV}{S:Zt}{k:SV×Zt→Prop}(hm:cfg.mode f=.fresh)(hp:args.all pureS=true)(h:wpO (bW cfg f args []) fun p=>wpO (freshO p) fun r=>k (freshIn S args r)):wpO (cW cfg f args S) k:=by
 rw[callW_eq,hm]
 obtain⟨h1,h2⟩:=frz_all (S:=S) hp
 simp only[h1,Option.bind_some]
 rw[freshW_eq]
 rw[wpO_iff]at h ⊢
 obtain⟨p,hb,h⟩:=h
 rw[wpO_iff]at h
 obtain⟨r,hr,h⟩:=h
 exact⟨_,by rw[hb];simp only[Option.bind_some];rw[hr];rfl,h⟩
theorem c118{l:List Nat}{c:VC}{S:Zt}{k:SV×Zt→Prop}(hl:l.length<17592186044415)(hc:c=.nil→l=[])
  (h0:l=[]→k (.vsl [] .nil,S)) (h1:l=[]→k (.osl S.length 1 0 0 (some 0),S++[.cells [] true])) (h2:l≠[]→k (.osl S.length 1 0 l.length none,S++[.cells (u32s l) true])):wpO (cW cT 228 [.vsl (u32s l) c] S) k:=by
 refine call_fresh rfl rfl (F228_ok (k:=fun v S'=>wpO (freshO (v,S')) fun r=>k (freshIn S [.vsl (u32s l) c] r)) ?_)
 unfold F228
 cases c with
 |nil=>
  have:=hc rfl
  subst this
  refine wo rfl (cndT rfl ?_)
  exact h0 rfl
 |_=>
  refine wo rfl (cndF rfl ?_)
  refine wo rfl ?_
  cases l with
  |nil=>
   refine wo rfl ?_
   exact h1 rfl
  |cons d r=>
   have ha:=fun c0=>app_row (j:=y23) (S:=[.cells [] true]) (id:=0) (off:=0) (len:=0) (cap:=some 0) (es:=[]) (xs:=u32s (d::r)) (x:=.vsl (u32s (d::r)) c0) rfl (by decide) rfl (by simp[u32s])
    (by simp[sizesOk,u32s,SV.n,SV.cells,flatS,oneS,show y23.size=1 from rfl]) rfl (by simp[show y23.bytes=4 from rfl,roomS]at hl ⊢;omega) (by simp[roomS]at hl ⊢;omega) (by simp) (.inr ⟨0,rfl,by simp⟩)
   refine wo (ha _) ?_
   have hp:(u32s (d::r)).all pureS=true:=List.all_eq_true.2 u32s_pure
   have e:freshO (SV.osl 1 1 0 (u32s (d::r)).length none,[.cells [] true]++[.cells (u32s (d::r)) true])=some (.inr (u32s (d::r),1,0,(u32s (d::r)).length,none)):=by
    unfold freshO
    simp only[List.singleton_append,List.getElem?_cons_succ,List.getElem?_cons_zero,hp,if_true]
   have e2:(SV.osl 1 1 0 (0+(u32s (d::r)).length) none)=SV.osl 1 1 0 (u32s (d::r)).length none:=by rw[Nat.zero_add]
   show wpO (freshO (SV.osl 1 1 0 (0+(u32s (d::r)).length) none,[.cells [] true]++[.cells (u32s (d::r)) true])) _
   rw[e2]
   refine wo e ?_
   have:=h2 (by simp)
   rw[←u32s_len]at this
   exact this
theorem c76{b:Bool}{n:Nat}{c:VC}{Q:SV→Prop}{z:Int}(hs:(encN n).length<17592186044415)(hz:z=if b then -(n:Int)else n)(hc:c=.nil→n=0)(h:∀c',(c'=.nil→z=0)→Q (I z c')):wpO (pW cT 159 [.vsl (u32s (encN n)) c,.bool b]) Q:=by
 refine po rfl (F159_ok (k:=fun v S=>wpO (frz S dS v) Q) ?_)
 unfold F159
 refine wo rfl ?_
 refine cpu rfl rfl (c117 (encN_bd n) (by omega) (by rw[encN_val];exact hc) fun c1 hc1=>?_)
 rw[encN_val]at hc1 ⊢
 have hI:I z c1=.agg [.bool (b&&decide (0<n)),.vsl (u32s (encN n)) c1]:=by
  subst hz
  cases b with
  |false=>rw[I_pos (by simp)];simp
  |true=>
   by_cases hn:0<n
   ·rw[I_neg (by simp;omega)];simp[hn]
   ·have:n=0:=by omega
    subst this;rfl
 have hI2:∀c2,I z c2=.agg [.bool (b&&decide (0<n)),.vsl (u32s (encN n)) c2]:=by
  intro c2
  have:=hI
  unfold I at this ⊢
  simp only[SV.agg.injEq,List.cons.injEq,SV.bool.injEq,SV.vsl.injEq,and_true]at this ⊢
  exact this
 have fin:∀(v:SV) (S':Zt) (b':Bool),b'=(b&&decide (0<n))→(∃c2,(c2=.nil→n=0)∧frz S' dS (.agg [.bool b',v])=some (.agg [.bool b',.vsl (u32s (encN n)) c2]))→wpO (frz S' dS (.agg [.bool b',v])) Q:=by
  intro v S' b' hb' ⟨c2,h1,h2⟩
  refine wo h2 ?_
  rw[hb',←hI2]
  refine h c2 (fun e=>?_)
  rw[hz,h1 e];cases b<;>rfl
 have rest:∀(b':Bool),b'=(b&&decide (0<n))→wpO (cW cT 228 [.vsl (u32s (encN n)) c1] [.cells [y44.zero] true]) fun p11=>
   wpO (buildS cT y44 [(0,.bool b'),(1,p11.1)]) fun v12=>wpO (stS y44 p11.2 (.optr 0 0 0) v12) fun S13=>wpO (ldS y44 S13 (.optr 0 0 0)) fun v14=>wpO (frz S13 dS v14) Q:=by
  intro b' hb'
  refine c118 (by omega) (fun e=>enc_nil.2 (hc1 e)) (fun e=>?_) (fun e=>?_) (fun e=>?_)
  ·iterate 3 refine wo rfl ?_
   refine fin _ _ _ hb' ⟨.nil,fun _=>enc_nil.1 e,?_⟩
   rw[e];rfl
  ·iterate 3 refine wo rfl ?_
   refine fin _ _ _ hb' ⟨.exact,fun h=>by(cases h),?_⟩
   rw[e];rfl
  ·iterate 3 refine wo rfl ?_
   refine fin _ _ _ hb' ⟨.loose,fun h=>by(cases h),?_⟩
   have hz:∀e∈u32s (encN n),∃k m,e=.int k m:=fun e he=>by
    simp only[u32s,List.mem_map]at he
    obtain⟨d,_,rfl⟩:=he
    exact⟨_,_,rfl⟩
   have:=fun S h=>frz_osl (S:=S) (d:=9) (id:=1) (sz:=1) (cap:=none) (es:=u32s (encN n)) (lv:=true) h hz
   rw[u32s_len]at this
   show(List.mapM (frz _ 11) [SV.bool b',SV.osl 1 1 0 (encN n).length none]).map SV.agg=_
   rw[List.mapM_cons,List.mapM_cons,this _ rfl]
   rfl
 cases b with
 |false=>
  refine grdF rfl (grdF rfl (grdF rfl (wo pickS_f ?_)))
  exact rest false rfl
 |true=>
  refine grdT rfl (grdT rfl (wo (len115 _ _) (grdT rfl (wo b_gtr (wo pickS_t ?_)))))
  have e0:decide ((0:Int)<((encN n).length:Int))=decide (0<n):=by
   have:=enc_len_pos (n:=n)
   by_cases hv:0<n
   ·rw[decide_eq_true hv,decide_eq_true (by have:=this.2 hv;omega)]
   ·rw[decide_eq_false hv,decide_eq_false (by intro h2;exact hv (this.1 (by omega)))]
  rw[e0]
  exact rest _ (by simp)
theorem c35{z:Int}{c:VC}{Q:SV→Prop}(hw:wd z<17592186044415)(hc:c=.nil→z=0)(h:∀c',(c'=.nil→-z=0)→Q (I (-z) c')):wpO (pW cT 105 [I z c]) Q:=by
 refine po rfl (F105_ok (k:=fun v S=>wpO (frz S dS v) Q) ?_)
 unfold F105
 unfold wd at hw
 unfold I
 iterate 6 refine wo rfl ?_
 refine wo u_not ?_
 refine cpu rfl rfl (c76 (z:=-z) hw ?_ (fun e=>by rw[hc e];rfl) fun c' hc'=>?_)
 ·by_cases hz:z<0
  ·rw[decide_eq_true hz];simp;omega
  ·rw[decide_eq_false hz];simp;omega
 ·iterate 2 refine wo rfl ?_
  exact h c' hc'
theorem nmul_inner:∀(m:Nat) (a b p:List Nat) (c d:VC) (i k0 r N x V cy:Nat) (e:En) (k:X→En→Zt→Prop),k0+m=b.length→p.length=i+b.length→i+b.length+r=N→Bd b→Bd p→cy<4294967296→x<4294967296→N<70368744177664→
  e 24=.vsl (u32s b) d→e 25=.int .i64 (b.length:Int)→e 5=.osl 0 1 0 N (some N)→e 6=.int .i64 (i:Int)→e 7=.int .u32 (x:Int)→e 8=.int .u64 (cy:Int)→e 26=.int .i64 (k0:Int)→
  e 17=.vsl (u32s a) c→e 18=.int .i64 (a.length:Int)→e 1=.vsl (u32s b) d→e 19=.int .i64 (i:Int)→
  val p+4294967296^(i+k0)*cy=V+4294967296^i*(x*val (b.take k0))→
  (∀(p':List Nat) (cy':Nat) (e':En),p'.length=i+b.length→Bd p'→cy'<4294967296→val p'+4294967296^(i+b.length)*cy'=V+4294967296^i*(x*val b)→
   e' 17=.vsl (u32s a) c→e' 18=.int .i64 (a.length:Int)→e' 1=.vsl (u32s b) d→e' 19=.int .i64 (i:Int)→e' 5=.osl 0 1 0 N (some N)→e' 6=.int .i64 (i:Int)→e' 8=.int .u64 (cy':Int)→k (.exit 2) e' [.cells (u32s (p'++List.replicate r 0)) true])→
  DenP cT 67 (.loop L174_1) e [.cells (u32s (p++List.replicate r 0)) true] k:=by
 intro m
 induction m with
 |zero=>
  intro a b p c d i k0 r N x V cy e k hm hp hN hb hbp hcy hx hs h24 h25 h5 h6 h7 h8 h26 h17 h18 h1 h19 hv hk
  refine L174_1_ok ?_
  unfold TL174_1
  simp only[h25,h26,b_lss,ws]
  refine condP_dec (fun h=>by omega) (fun _=>?_)
  have hk0:k0=b.length:=by omega
  rw[hk0,List.take_length]at hv
  exact hk p cy _ hp hbp hcy hv h17 h18 h1 h19 h5 h6 h8
 |succ m ih=>
  intro a b p c d i k0 r N x V cy e k hm hp hN hb hbp hcy hx hs h24 h25 h5 h6 h7 h8 h26 h17 h18 h1 h19 hv hk
  refine L174_1_ok ?_
  unfold TL174_1
  simp only[h24,h25,h26,b_lss,ws]
  refine condP_dec (fun _=>?_) (fun h=>absurd (by omega) h)
  obtain⟨y,hby⟩:∃y,b[k0]?=some y:=⟨b[k0]'(by omega),by simp⟩
  obtain⟨z,hpz⟩:∃z,p[i+k0]?=some z:=⟨p[i+k0]'(by omega),by simp⟩
  have hy:=hb.get hby
  have hz:=hbp.get hpz
  simp only[h5,h6,h7,h8,idx115 hby,load108,conv51 hx,conv51 hy,b_mul,b_add,ws]
  rw[addI (by omega)]
  have hrow:(u32s (p++List.replicate r 0))[i+k0]?=some (.int .u32 (z:Int)):=u32s_get (by rw[List.getElem?_append_left (by omega)];exact hpz)
  refine wo (idx_osl (j:=y23) rfl rfl (by decide) (by omega) rfl) ?_
  rw[Nat.zero_add]
  refine wo (load_row (es:=u32s (p++List.replicate r 0)) rfl hrow) ?_
  refine wo (conv51 hz) ?_
  simp only[b_add,ws]
  have hme:=mul_eq hx hy hz hcy
  have hlt:=mul_lt hx hy hz hcy
  have hvt:=val_take_succ b k0
  rw[hby]at hvt
  simp only[Option.getD_some]at hvt
  have hdm:=Nat.div_add_mod (x*y+z+cy) 4294967296
  have hnew:val (p.set (i+k0) ((x*y+z+cy)%4294967296))+4294967296^(i+(k0+1))*((x*y+z+cy)/4294967296)=V+4294967296^i*(x*val (b.take (k0+1))):=by
   have hs:=val_set (d:=(x*y+z+cy)%4294967296) hpz
   rw[hvt,←Nat.add_assoc,Nat.pow_succ]
   rw[Nat.pow_add]at hs hv ⊢
   generalize (x*y+z+cy)/4294967296=q at hdm ⊢
   generalize (x*y+z+cy)%4294967296=w at hdm hs ⊢
   generalize val (p.set (i+k0) w)=s1 at hs ⊢
   generalize val p=s0 at hs hv
   generalize val (b.take k0)=s2 at hv ⊢
   generalize 4294967296^i=P at hs hv ⊢
   generalize 4294967296^k0=R at hs hv ⊢
   clear hlt hrow hpz hby hvt hme
   grind
  clear hdm
  have hcomm:wrS .u64 ((cy:Int)+wrS .u64 (wrS .u64 ((x:Int)*(y:Int))+(z:Int)))=((x*y+z+cy:Nat):Int):=by
   rw[Int.add_comm];exact hme
  rw[hcomm]
  generalize x*y+z+cy=t at hlt hnew ⊢
  refine wo (conv_int rfl rfl) ?_
  have e1:wrS .u32 (t:Int)=((t%4294967296:Nat):Int):=by rw[wrapU32m];omega
  rw[e1]
  refine wo (idx_osl (j:=y23) rfl rfl (by decide) (by omega) rfl) ?_
  rw[Nat.zero_add]
  refine wo (store_row (es:=u32s (p++List.replicate r 0)) rfl hrow rfl rfl rfl) ?_
  rw[u32s_set,List.set_append_left _ _ (by omega)]
  refine wo shr32 ?_
  rw[succI (by omega)]
  refine ih a b (p.set (i+k0) (t%4294967296)) c d i (k0+1) r N x V (t/4294967296) _ k (by omega) (by rw[List.length_set];exact hp) hN hb ?_ (div_lt_base hlt) hx hs h24 h25 h5 h6 h7 rfl rfl h17 h18 h1 h19 hnew hk
  intro u hu
  rcases List.mem_or_eq_of_mem_set hu with hu|rfl
  ·exact hbp u hu
  ·exact Nat.mod_lt _ (by decide)
theorem nmul_outer:∀(r:Nat) (a b p:List Nat) (c d:VC) (i N:Nat) (e:En) (k:X→En→Zt→Prop),i+r=a.length→p.length=i+b.length→a.length+b.length=N→Bd a→Bd b→Bd p→N<70368744177664→
  e 17=.vsl (u32s a) c→e 18=.int .i64 (a.length:Int)→e 1=.vsl (u32s b) d→e 5=.osl 0 1 0 N (some N)→e 19=.int .i64 (i:Int)→
  val p=val (a.take i)*val b→
  (∀(p':List Nat) (e':En),p'.length=N→Bd p'→val p'=val a*val b→e' 5=.osl 0 1 0 N (some N)→k (.exit 0) e' [.cells (u32s p') true])→
  DenP cT 67 (.loop L174_0) e [.cells (u32s (p++List.replicate r 0)) true] k:=by
 intro r
 induction r with
 |zero=>
  intro a b p c d i N e k hr hp hN ha hb hbp hs h17 h18 h1 h5 h19 hv hk
  refine L174_0_ok ?_
  unfold TL174_0
  simp only[h18,h19,b_lss,ws]
  refine condP_dec (fun h=>by omega) (fun _=>?_)
  have hi:i=a.length:=by omega
  rw[hi,List.take_length]at hv
  rw[List.replicate_zero,List.append_nil]
  exact hk p _ (by omega) hbp hv h5
 |succ r ih=>
  intro a b p c d i N e k hr hp hN ha hb hbp hs h17 h18 h1 h5 h19 hv hk
  refine L174_0_ok ?_
  unfold TL174_0
  simp only[h17,h18,h1,h19,len115,b_lss,ws]
  refine condP_dec (fun _=>?_) (fun h=>absurd (by omega) h)
  obtain⟨x,hax⟩:∃x,a[i]?=some x:=⟨a[i]'(by omega),by simp⟩
  have hx:=ha.get hax
  simp only[idx115 hax,load108,ws]
  refine nmul_inner b.length a b p c d i 0 (r+1) N x (val p) 0 _ _ (by omega) hp (by omega) hb hbp (by decide) hx hs rfl rfl h5 rfl rfl rfl rfl h17 h18 h1 h19 (by simp[val]) ?_
  intro p' cy' e' hp' hbp' hcy' hv' g17 g18 g1 g19 g5 g6 g8
  refine K174_1e2_ok ?_
  unfold TK174_1e2
  simp only[g1,g5,g6,g8,g19,len115,b_add,ws]
  rw[addI (by omega)]
  refine wo (conv_int rfl rfl) ?_
  have e3:wrS .u32 (cy':Int)=(cy':Int):=wrapU32 (Int.natCast_nonneg _) (by exact Int.ofNat_lt.2 hcy')
  rw[e3]
  refine wo (idx_osl (j:=y23) rfl rfl (by decide) (by omega) rfl) ?_
  rw[Nat.zero_add,←hp']
  refine wo (store_row (es:=u32s (p'++List.replicate (r+1) 0)) (e:=.int .u32 0) rfl (by rw[show(0:Int)=((0:Nat):Int) from rfl];exact u32s_get (by rw[List.getElem?_append_right (Nat.le_refl _)];simp)) rfl rfl rfl) ?_
  rw[u32s_set,row_set,succI (by omega)]
  refine ih a b (p'++[cy']) c d (i+1) N _ k (by omega) (by rw[List.length_append,hp'];simp;omega) hN ha hb (hbp'.snoc hcy') hs g17 g18 g1 g5 rfl ?_ hk
  have hvt:=val_take_succ a i
  rw[hax]at hvt
  simp only[Option.getD_some]at hvt
  rw[val_snoc,hvt,hp',hv',hv]
  grind
theorem c81{a b:Nat}{c d:VC}{Q:SV→Prop}(ha:(encN a).length<8796093022207)(hb:(encN b).length<8796093022207)(h:∀c',(c'=.nil→a*b=0)→Q (.vsl (u32s (encN (a*b))) c')):wpO (pW cT 174 [.vsl (u32s (encN a)) c,.vsl (u32s (encN b)) d]) Q:=by
 refine po rfl (F174_ok (k:=fun v S=>wpO (frz S dS v) Q) ?_)
 unfold F174
 simp only[len115,b_add,ws]
 rw[addI (by omega)]
 generalize hn:(encN a).length+(encN b).length=n
 refine wo (mksl_ok (j:=y23) (by decide) rfl (by unfold roomS;omega) (by unfold roomS;show n*4≤_;omega)) ?_
 show DenP cT 67 (.loop L174_0) _ [.cells (List.replicate n (SV.int .u32 0)) true] _
 have hsplit:u32s (List.replicate n 0)=u32s (List.replicate (encN b).length 0++List.replicate (encN a).length 0):=by
  rw[List.replicate_append_replicate];congr 2;omega
 rw[u32s_zeros,hsplit]
 refine nmul_outer (encN a).length (encN a) (encN b) (List.replicate (encN b).length 0) c d 0 n _ _ (by omega) (by simp) hn (encN_bd a) (encN_bd b) (fun u hu=>by rw[(List.mem_replicate.1 hu).2];decide) (by omega) rfl rfl rfl rfl rfl (by rw[val_zeros];simp[val]) ?_
 intro p' e' hl hbp hv h5
 rw[encN_val,encN_val]at hv
 refine K174_0e0_ok ?_
 unfold TK174_0e0
 rw[h5]
 refine call_row (es:=u32s p') rfl rfl (by simp[hl]) u32s_pure ?_
 refine c117 hbp (by omega) capM fun c' hc'=>?_
 rw[hv]at hc' ⊢
 exact h c' hc'
theorem c38{z w:Int}{c d:VC}{Q:SV→Prop}(hz:wd z<8796093022207)(hw:wd w<8796093022207)(h:∀c',(c'=.nil→z*w=0)→Q (I (z*w) c')):wpO (pW cT 108 [I z c,I w d]) Q:=by
 refine po rfl (F108_ok (k:=fun v S=>wpO (frz S dS v) Q) ?_)
 unfold F108
 unfold wd at hz hw
 unfold I
 iterate 7 refine wo rfl ?_
 refine cpu rfl rfl (c81 hz hw fun c1 hc1=>?_)
 have hm:=wd_mul (Nat.le_of_lt hz) (Nat.le_of_lt hw)
 iterate 4 refine wo rfl ?_
 refine wo (b_bne rfl) ?_
 refine cpu rfl rfl (c76 (z:=z*w) (by omega) natAbs_mul_sign hc1 fun c2 hc2=>?_)
 iterate 2 refine wo rfl ?_
 exact h c2 hc2
def Is(l:List (Int×VC)):List SV:=l.map fun p=>I p.1 p.2
@[simp] theorem Is_len{l:List (Int×VC)}:(Is l).length=l.length:=by simp[Is]
theorem Is_get{l:List (Int×VC)}{n:Nat}{p:Int×VC}(h:l[n]?=some p):(Is l)[n]?=some (I p.1 p.2):=by simp[Is,h]
theorem Is_take{l:List (Int×VC)}{n:Nat}:(Is l).take n=Is (l.take n):=by simp[Is,List.map_take]
theorem Is_set{l:List (Int×VC)}{n:Nat}{z:Int}{c:VC}:(Is l).set n (I z c)=Is (l.set n (z,c)):=by simp[Is,List.map_set]
theorem Is_pure{l:List (Int×VC)}:∀e∈Is l,pureS e=true:=by
 intro e he
 simp only[Is,List.mem_map]at he
 obtain⟨p,_,rfl⟩:=he
 rfl
theorem Is_size{l:List (Int×VC)}{c:VC}:sizeIs 2 (.vsl (Is l) c)=true:=by cases l<;>rfl
def zAt(l:List (Int×VC))(n:Nat):Int:=match l[n]? with
 |some p=>p.1
 |none=>0
theorem len24(l:List (Int×VC))(c:VC):lenS y57 (.vsl (Is l) c)=some (.int .i64 (l.length:Int)):=by rw[len_vsl rfl,Is_len]
theorem idx24{l:List (Int×VC)}{c:VC}{i:Nat}{p:Int×VC}(h:l[i]?=some p):ixS cT y57 (.vsl (Is l) c) (.int .i64 (i:Int))=some (.vptr (I p.1 p.2)):=idx_vsl (j:=y44) rfl rfl (by decide) (Is_get h) rfl
def Mk(l:List (Int×VC)):Prop:=∀p∈l,p.2=.nil→p.1=0
theorem Mk.get{l:List (Int×VC)}(h:Mk l){n:Nat}{p:Int×VC}(e:l[n]?=some p):p.2=.nil→p.1=0:=h p (List.mem_of_getElem? e)
theorem c31{l:List (Int×VC)}{c:VC}{i:Nat}{Q:SV→Prop}(hm:Mk l)(h:∀c',(c'=.nil→zAt l i=0)→Q (I (zAt l i) c')):wpO (pW cT 118 [.vsl (Is l) c,.int .i64 (i:Int)]) Q:=by
 refine po rfl (F118_ok (k:=fun v S=>wpO (frz S dS v) Q) ?_)
 unfold F118
 refine wo rfl ?_
 simp only[len24,b_lss,ws]
 refine condP_dec (fun hi=>?_) (fun hi=>?_)
 ·obtain⟨p,hp⟩:∃p,l[i]?=some p:=⟨l[i]'(by omega),by simp⟩
  have hz:zAt l i=p.1:=by unfold zAt;rw[hp]
  rw[hz]at h
  refine wo (idx24 hp) ?_
  iterate 3 refine wo rfl ?_
  exact h p.2 (hm.get hp)
 ·have hz:zAt l i=0:=by unfold zAt;rw[List.getElem?_eq_none (by omega)]
  rw[hz]at h
  refine cpu rfl rfl (c23 (by decide) (by decide) fun c' hc'=>?_)
  iterate 2 refine wo rfl ?_
  exact h c' hc'
def trimZ(l:List (Int×VC)):List (Int×VC):=(l.reverse.dropWhile (fun p=>p.1==0)).reverse
theorem trimZ_snoc{l:List (Int×VC)}{p:Int×VC}:trimZ (l++[p])=if p.1=0 then trimZ l else l++[p]:=by
 unfold trimZ
 rw[List.reverse_append]
 simp only[List.reverse_cons,List.reverse_nil,List.nil_append,List.singleton_append,List.dropWhile_cons]
 by_cases h:p.1=0
 ·simp[h]
 ·simp[h]
theorem trimZ_loop:∀(l:List (Int×VC)) (c:VC) (e:En) (k:X→En→Zt→Prop),e 0=.vsl (Is l) c→l.length<9223372036854775808→
  (∀(e':En) (c':VC),e' 0=.vsl (Is (trimZ l)) c'→k (.exit 0) e' [])→DenP cT 22 (.loop L117_0) e [] k:=by
 intro l
 induction l using snoc_ind with
 |h0=>
  intro c e k h0 hs hk
  refine L117_0_ok ?_
  unfold TL117_0
  simp only[h0,len24]
  simp
  exact hk _ c h0
 |h l p ih=>
  intro c e k h0 hs hk
  have hlen:(l++[p]).length=l.length+1:=by simp
  have hp:(l++[p])[l.length]?=some p:=by rw[List.getElem?_append_right (Nat.le_refl _)];simp
  rw[trimZ_snoc]at hk
  refine L117_0_ok ?_
  unfold TL117_0
  have e4:(0:Int)<(l.length:Int)+1:=by omega
  have e5:wrS .i64 (((l.length:Nat):Int)+1-1)=(l.length:Int):=by rw[hlen]at hs;rw[wrap64 (by omega) (by omega)];omega
  have e6:((l.length+1:Nat):Int)=(l.length:Int)+1:=by omega
  simp only[h0,len24,hlen,e6,b_gtr,ws,decide_eq_true e4]
  refine grdT rfl (grdT rfl ?_)
  simp only[len24,hlen,e6,ws]
  refine grdT rfl ?_
  simp only[b_sub,ws,e5]
  refine grdT rfl (wo (idx24 hp) (grdT rfl (wo rfl (grdT rfl ?_))))
  refine cpu rfl rfl (c9 (z:=p.1) (c:=p.2) ?_)
  refine grdT rfl (wo b_eql (wo pickS_t ?_))
  have hsg:(sgn p.1=0)↔p.1=0:=by unfold sgn;split<;>(try split)<;>omega
  refine condP_b (fun hz=>?_) (fun hz=>?_)
  ·have hz2:=hsg.1 (of_decide_eq_true hz)
   rw[if_pos hz2]at hk
   obtain⟨c',hn,hsl⟩:=slic_v (j:=y44) (es:=Is (l++[p])) (c:=c) (k:=.i64) (n:=l.length) (by decide) Is_size (by simp)
   simp only[ws,b_sub,e5]
   refine wo hsl ?_
   rw[Is_take,List.take_left]
   exact ih c' _ k rfl (by rw[hlen]at hs;omega) hk
  ·have hz2:¬p.1=0:=fun e=>by have:=of_decide_eq_false hz;exact this (hsg.2 e)
   rw[if_neg hz2]at hk
   exact hk _ c h0
theorem c32{l:List (Int×VC)}{c:VC}{Q:SV→Prop}(hs:l.length<9223372036854775808)(h:∀c',Q (.vsl (Is (trimZ l)) c')):wpO (pW cT 117 [.vsl (Is l) c]) Q:=by
 refine po rfl (F117_ok (k:=fun v S=>wpO (frz S dS v) Q) ?_)
 unfold F117
 refine trimZ_loop l c _ _ rfl hs fun e' c' h0=>?_
 refine K117_0e0_ok ?_
 unfold TK117_0e0
 rw[h0]
 exact h c'
end Go.Proofs
namespace Go.Sh
theorem mulU{a b:Nat}(ha:a<4294967296)(hb:b<4294967296):wrS .u64 ((a:Int)*(b:Int))=((a*b:Nat):Int):=by
 have h:a*b≤4294967295*4294967295:=Nat.mul_le_mul (by omega) (by omega)
 rw[←Int.natCast_mul]
 generalize a*b=t at h ⊢
 rw[wrapU64 (by omega) (by omega)]
theorem addU{a b:Nat}(h:a+b<18446744073709551616):wrS .u64 ((a:Int)+(b:Int))=((a+b:Nat):Int):=by
 rw[wrapU64 (by omega) (by omega)];omega
theorem subU{a b:Nat}(h:b≤a)(h2:a<18446744073709551616):wrS .u64 ((a:Int)-(b:Int))=((a-b:Nat):Int):=by
 rw[wrapU64 (by omega) (by omega)];omega
theorem b_remN{u:Option TyI}{k:IntKind}{a p:Nat}(hp:0<p):bnS .rem u (.int k (a:Int)) (.int k (p:Int))=some (.int k ((a%p:Nat):Int)):=by
 rw[b_rem (by omega),Int.tmod_eq_emod_of_nonneg (by omega)]
 congr 2
theorem b_quoN{u:Option TyI}{a p:Nat}(hp:0<p)(ha:a<18446744073709551616):bnS .quo u (.int .u64 (a:Int)) (.int .u64 (p:Int))=some (.int .u64 ((a/p:Nat):Int)):=by
 rw[b_quo (by omega),Int.tdiv_eq_ediv_of_nonneg (by omega)]
 have h:=Nat.div_le_self a p
 have e:(a:Int)/(p:Int)=((a/p:Nat):Int):=by simp
 rw[e]
 generalize a/p=t at h ⊢
 rw[wrapU64 (by omega) (by omega)]
theorem b_and1{u:Option TyI}{a:Nat}:bnS .and u (.int .u64 (a:Int)) (.int .u64 1)=some (.int .u64 ((a%2:Nat):Int)):=by
 simp only[bnS,isShift,arithS,Bool.false_eq_true,if_false,if_true]
 have e:(BitVec.ofInt IntKind.u64.bits (a:Int) &&& BitVec.ofInt IntKind.u64.bits 1).toNat=a%2:=by
  have e1:BitVec.ofInt 64 (a:Int)=BitVec.ofNat 64 a:=by simp
  have e2:BitVec.ofInt 64 (1:Int)=BitVec.ofNat 64 1:=rfl
  show(BitVec.ofInt 64 (a:Int) &&& BitVec.ofInt 64 1).toNat=a%2
  rw[e1,e2,BitVec.toNat_and,BitVec.toNat_ofNat,BitVec.toNat_ofNat]
  show(a%2^64) &&& 1=a%2
  rw[Nat.and_one_is_mod]
  omega
 rw[e,wrapU64 (by omega) (by omega)]
theorem b_shr1{u:Option TyI}{a:Nat}(h:a<18446744073709551616):bnS .shr u (.int .u64 (a:Int)) (.int .u64 1)=some (.int .u64 ((a/2:Nat):Int)):=by
 have h:=b_shr (u:=u) (k:=.u64) (k':=.u64) (a:=(a:Int)) (n:=1) (by decide)
 refine Eq.trans h ?_
 rw[show(2:Int)^1=2 from rfl,Int.fdiv_eq_ediv_of_nonneg _ (by omega)]
 congr 2
def u64s(l:List Nat):List SV:=l.map fun (d:Nat)=>SV.int .u64 (d:Int)
@[simp] theorem u64s_len{l:List Nat}:(u64s l).length=l.length:=by simp[u64s]
theorem u64s_get{l:List Nat}{n:Nat}{d:Nat}(h:l[n]?=some d):(u64s l)[n]?=some (.int .u64 (d:Int)):=by simp[u64s,h]
theorem u64s_take{l:List Nat}{n:Nat}:(u64s l).take n=u64s (l.take n):=by simp[u64s,List.map_take]
theorem u64s_append{l m:List Nat}:u64s (l++m)=u64s l++u64s m:=by simp[u64s]
theorem u64s_set{l:List Nat}{n d:Nat}:(u64s l).set n (.int .u64 (d:Int))=u64s (l.set n d):=by simp[u64s,List.map_set]
theorem u64s_zeros{n:Nat}:List.replicate n (SV.int .u64 0)=u64s (List.replicate n 0):=by simp[u64s]
theorem u64s_pure{l:List Nat}:∀e∈u64s l,pureS e=true:=by
 intro e he
 simp only[u64s,List.mem_map]at he
 obtain⟨d,_,rfl⟩:=he
 rfl
theorem u64s_sizes{l:List Nat}:sizesOk 1 (u64s l)=true:=by
 simp only[sizesOk,u64s,List.all_map,List.all_eq_true]
 intro d _
 rfl
theorem at_app{S T:Zt}{id:Nat}{r:Row}(h:S[id]?=some r):(S++T)[id]?=some r:=by
 have:=(List.getElem?_eq_some_iff.1 h).1
 rw[List.getElem?_append_left this];exact h
theorem at_new{S:Zt}{r:Row}:(S++[r])[S.length]?=some r:=by rw[List.getElem?_append_right (Nat.le_refl _)];simp
theorem at_ne{S:Zt}{id j:Nat}{r x:Row}(h:S[id]?=some r)(hne:j≠id):(S.set j x)[id]?=some r:=by rw[List.getElem?_set,if_neg hne];exact h
theorem at_eq{S:Zt}{id:Nat}{r x:Row}(h:S[id]?=some r):(S.set id x)[id]?=some x:=by
 have:=(List.getElem?_eq_some_iff.1 h).1
 rw[List.getElem?_set,if_pos rfl,if_pos this]
theorem at_lt{S:Zt}{id:Nat}{r:Row}(h:S[id]?=some r):id<S.length:=(List.getElem?_eq_some_iff.1 h).1
def Own(S:Zt)(v:SV)(sz:Nat)(es:List SV)(b:Nat):Prop:=∃id cap rest,v=.osl id sz 0 es.length cap∧S[id]?=some (.cells (es++rest) true)∧b≤id∧(∀c,cap=some c→es.length≤c)
def OwnA(S:Zt)(v:SV)(sz:Nat)(es:List SV)(b:Nat):Prop:=∃id cap rest,v=.osl id sz 0 es.length cap∧S[id]?=some (.cells (es++rest) true)∧b≤id∧(cap=none∨cap=some es.length)
theorem OwnA.own{S:Zt}{v:SV}{sz:Nat}{es:List SV}{b:Nat}(h:OwnA S v sz es b):Own S v sz es b:=by
 obtain⟨id,cap,rest,h1,h2,h3,h4⟩:=h
 refine⟨id,cap,rest,h1,h2,h3,fun c hc=>?_⟩
 rcases h4 with h4|h4
 ·rw[h4]at hc;cases hc
 ·rw[h4]at hc;cases hc;exact Nat.le_refl _
def Kp(S S':Zt)(b:Nat):Prop:=∀i,i<b→S'[i]?=S[i]?
theorem Kp.refl(S:Zt)(b:Nat):Kp S S b:=fun _ _=>rfl
theorem Kp.trans{S T U:Zt}{b:Nat}(h:Kp S T b)(h2:Kp T U b):Kp S U b:=fun i hi=>(h2 i hi).trans (h i hi)
theorem Kp.mono{S T:Zt}{b c:Nat}(h:Kp S T b)(hc:c≤b):Kp S T c:=fun i hi=>h i (by omega)
theorem Kp.at{S T:Zt}{b i:Nat}{r:Row}(h:Kp S T b)(hi:i<b)(hr:S[i]?=some r):T[i]?=some r:=(h i hi).trans hr
theorem Kp.app{S T:Zt}{b:Nat}(h:b≤S.length):Kp S (S++T) b:=fun i hi=>by rw[List.getElem?_append_left (by omega)]
theorem Kp.set{S:Zt}{b j:Nat}{r:Row}(h:b≤j):Kp S (S.set j r) b:=fun i hi=>by rw[List.getElem?_set,if_neg (by omega)]
theorem Own.lt{S:Zt}{v:SV}{sz:Nat}{es:List SV}{b:Nat}(h:Own S v sz es b):b<S.length:=by
 obtain⟨id,cap,rest,_,h,hb,_⟩:=h
 have:=at_lt h;omega
theorem Own.app{S T:Zt}{v:SV}{sz:Nat}{es:List SV}{b:Nat}(h:Own S v sz es b):Own (S++T) v sz es b:=by
 obtain⟨id,cap,rest,h1,h2,h3,h4⟩:=h
 exact⟨id,cap,rest,h1,at_app h2,h3,h4⟩
theorem Own.kp{S T:Zt}{v:SV}{sz:Nat}{es:List SV}{b c:Nat}(h:Own S v sz es b)(hk:Kp S T c)(hc:S.length≤c):Own T v sz es b:=by
 obtain⟨id,cap,rest,h1,h2,h3,h4⟩:=h
 exact⟨id,cap,rest,h1,hk.at (by have:=at_lt h2;omega) h2,h3,h4⟩
theorem Own.mono{S:Zt}{v:SV}{sz:Nat}{es:List SV}{b c:Nat}(h:Own S v sz es b)(hc:c≤b):Own S v sz es c:=by
 obtain⟨id,cap,rest,h1,h2,h3,h4⟩:=h
 exact⟨id,cap,rest,h1,h2,by omega,h4⟩
theorem OwnA.app{S T:Zt}{v:SV}{sz:Nat}{es:List SV}{b:Nat}(h:OwnA S v sz es b):OwnA (S++T) v sz es b:=by
 obtain⟨id,cap,rest,h1,h2,h3,h4⟩:=h
 exact⟨id,cap,rest,h1,at_app h2,h3,h4⟩
theorem OwnA.kp{S T:Zt}{v:SV}{sz:Nat}{es:List SV}{b c:Nat}(h:OwnA S v sz es b)(hk:Kp S T c)(hc:S.length≤c):OwnA T v sz es b:=by
 obtain⟨id,cap,rest,h1,h2,h3,h4⟩:=h
 exact⟨id,cap,rest,h1,hk.at (by have:=at_lt h2;omega) h2,h3,h4⟩
theorem OwnA.mono{S:Zt}{v:SV}{sz:Nat}{es:List SV}{b c:Nat}(h:OwnA S v sz es b)(hc:c≤b):OwnA S v sz es c:=by
 obtain⟨id,cap,rest,h1,h2,h3,h4⟩:=h
 exact⟨id,cap,rest,h1,h2,by omega,h4⟩
theorem pushAll{j:TyI}{S:Zt}{v x:SV}{es xs:List SV}{b:Nat}{k:SV×Zt→Prop}(hO:OwnA S v j.size es b)(hs:j.size≠0)(hz:j.zero.n=j.size)(hx:sizesOk j.size xs=true)(hel:elemsS S x=some xs)
  (hb1:(es.length+xs.length)*j.bytes≤roomS) (hb2:es.length+xs.length≤roomS)
  (h:∀v' S',OwnA S' v' j.size (es++xs) b→Kp S S' b→k (v',S')):wpO (appS j S v x) k:=by
 by_cases hne:xs=[]
 ·subst hne
  have e:appS j S v x=some (v,S):=by
   obtain⟨id,cap,rest,rfl,_⟩:=hO
   unfold appS
   rw[if_pos hz]
   unfold appendS
   rw[hel]
   rfl
  refine wo e (h v S (by rw[List.append_nil];exact hO) (Kp.refl _ _))
 ·obtain⟨id,cap,rest,rfl,hS,hb,hcap⟩:=hO
  have hid:=at_lt hS
  have h0:0<xs.length:=List.length_pos_iff.2 hne
  have hap:=app_row (j:=j) (S:=S) (id:=id) (off:=0) (len:=es.length) (cap:=cap) (es:=es++rest) (xs:=xs) (x:=x) hz hs hel hne
   hx hS hb1 hb2 (by simp) (by
    rcases hcap with h|h
    ·exact .inl h
    ·exact .inr ⟨es.length,h,by omega⟩)
  refine wo hap ?_
  have htk:(((es++rest).drop 0).take es.length++xs)=es++xs:=by simp
  rw[htk]
  have hlen:(if cap=none then S.set id .dead else S).length=S.length:=by split<;>simp
  refine h _ _ ⟨S.length,none,[],by simp,?_,by omega,.inl rfl⟩ ?_
  ·have:=at_new (S:=(if cap=none then S.set id .dead else S)) (r:=.cells (es++xs) true)
   rw[hlen]at this
   rw[List.append_nil]
   exact this
  ·refine Kp.trans (T:=(if cap=none then S.set id .dead else S)) ?_ (Kp.app (by rw[hlen];omega))
   split
   ·exact Kp.set hb
   ·exact Kp.refl _ _
theorem push{j:TyI}{S:Zt}{v x:SV}{es:List SV}{b:Nat}{k:SV×Zt→SV×Zt→Prop}(hO:OwnA S v j.size es b)(hs:j.size≠0)(hz:j.zero.n=j.size)(hx:x.n=j.size)(hfl:flatS x=true)
  (hl:litS j.size [j.zero] [(0,x)]=some [x]) (hj16:j.size≤16777216) (hb1:(es.length+1)*j.bytes≤roomS) (hb2:es.length+1≤roomS)
  (h:∀p v' S',OwnA S' v' j.size (es++[x]) b→Kp S S' b→k p (v',S')):wpO (bslS j 1 [(0,x)] S) fun p=>wpO (appS j p.2 v p.1) fun q=>k p q:=by
 have e1:bslS j 1 [(0,x)] S=some (.osl S.length j.size 0 1 (some 1),S++[.cells [x] true]):=by
  unfold bslS
  rw[if_neg (by simp only[not_or,Decidable.not_not];exact⟨hs,by omega,hz⟩)]
  show(litS j.size [j.zero] [(0,x)]).map _=_
  rw[hl];rfl
 refine wo e1 ?_
 have hel:elemsS (S++[.cells [x] true]) (.osl S.length j.size 0 1 (some 1))=some [x]:=by
  unfold elemsS
  simp only[at_new]
  rfl
 refine pushAll (xs:=[x]) hO.app hs hz (by simp[sizesOk,hx,hfl]) hel (by simpa using hb1) (by simpa using hb2) (fun v' S' h1 h2=>h _ v' S' h1 ((Kp.app ?_).trans h2))
 have:=hO.own.lt;omega
theorem Own.bsl{j:TyI}{S:Zt}{k:SV×Zt→Prop}(hs:j.size≠0)(hz:j.zero.n=j.size)(h:∀v S',OwnA S' v j.size [] S.length→Kp S S' S.length→S'.length=S.length+1→k (v,S')):wpO (bslS j 0 [] S) k:=by
 have e1:bslS j 0 [] S=some (.osl S.length j.size 0 0 (some 0),S++[.cells [] true]):=by
  unfold bslS
  rw[if_neg (by simp only[not_or,Decidable.not_not];exact⟨hs,by omega,hz⟩)]
  rfl
 refine wo e1 (h _ _ ⟨S.length,some 0,[],rfl,at_new,Nat.le_refl _,.inr rfl⟩ (Kp.app (Nat.le_refl _)) (by simp))
theorem Own.bsl1{j:TyI}{S:Zt}{x:SV}{k:SV×Zt→Prop}(hs:j.size≠0)(hz:j.zero.n=j.size)(hl:litS j.size [j.zero] [(0,x)]=some [x])(hj16:j.size≤16777216)(h:∀v S',OwnA S' v j.size [x] S.length→Kp S S' S.length→S'.length=S.length+1→k (v,S')):wpO (bslS j 1 [(0,x)] S) k:=by
 have e1:bslS j 1 [(0,x)] S=some (.osl S.length j.size 0 1 (some 1),S++[.cells [x] true]):=by
  unfold bslS
  rw[if_neg (by simp only[not_or,Decidable.not_not];exact⟨hs,by omega,hz⟩)]
  show(litS j.size [j.zero] [(0,x)]).map _=_
  rw[hl];rfl
 refine wo e1 (h _ _ ⟨S.length,some 1,[],rfl,at_new,Nat.le_refl _,.inr rfl⟩ (Kp.app (Nat.le_refl _)) (by simp))
theorem Own.mk{j:TyI}{S:Zt}{k k':IntKind}{n:Nat}{K:SV×Zt→Prop}(hj:j.size≠0)(hz:j.zero.n=j.size)(h1:n≤roomS)(h2:n*j.bytes≤roomS)(h:∀v S',OwnA S' v j.size (List.replicate n j.zero) S.length→Kp S S' S.length→S'.length=S.length+1→K (v,S')) :
  wpO (mkslS j (.int k (n:Int)) (.int k' (n:Int)) S) K:=by
 refine wo (mksl_ok hj hz h1 h2) (h _ _ ⟨S.length,some n,[],by simp,by simp,Nat.le_refl _,.inr (by simp)⟩ (Kp.app (Nat.le_refl _)) (by simp))
def FzO(S:Zt)(b:Nat)(v v':SV):Prop:=frz S dS v=some v'∧∀i∈refs S dS v,b≤i
def FzL(S:Zt)(b:Nat):List SV→List SV→Prop
 |[],[]=>True
 |a::r,a'::r'=>FzO S b a a'∧FzL S b r r'
 |_,_=>False
theorem fz_pure{S:Zt}{b:Nat}{v:SV}(h:pureS v=true):FzO S b v v:=by
 obtain⟨h1,h2⟩:=frz_pure (S:=S) h
 exact⟨h1,by rw[h2];intro i hi;cases hi⟩
theorem fz_own{S:Zt}{v:SV}{sz b:Nat}{es:List SV}(hO:Own S v sz es b)(hp:∀e∈es,pureS e=true):∃c,c≠.nil∧FzO S b v (.vsl es c):=by
 obtain⟨id,cap,rest,rfl,hS,hb,_⟩:=hO
 have ht:((es++rest).drop 0).take es.length=es:=by simp
 obtain⟨h1,h2⟩:=frz_row (sz:=sz) (cap:=cap) (off:=0) (len:=es.length) hS (by simp) (by rw[ht];exact hp)
 rw[ht]at h1
 refine⟨_,?_,h1,by rw[h2];intro i hi;simp at hi;omega⟩
 split<;>simp
theorem sealS_kp:∀(l:List Nat) (S:Zt) (b:Nat),(∀i∈l,b≤i)→Kp S (sealS S l) b
 |[],S,b,_=>Kp.refl _ _
 |id::r,S,b,h=>by
  have hid:=h id List.mem_cons_self
  have hr:=sealS_kp r (match S[id]? with|some (.cells es _)=>S.set id (.cells es false)|_=>S) b (fun i hi=>h i (List.mem_cons_of_mem _ hi))
  refine Kp.trans ?_ hr
  split
  ·exact Kp.set hid
  ·exact Kp.refl _ _
theorem fzL{S:Zt}{b:Nat}:∀{l l':List SV},FzL S b l l'→l.mapM (frz S dS)=some l'∧∀i∈l.flatMap (refs S dS),b≤i
 |[],[],_=>⟨rfl,fun i hi=>by cases hi⟩
 |a::r,a'::r',h=>by
  obtain⟨⟨h1,h2⟩,h3⟩:=h
  obtain⟨h4,h5⟩:=fzL h3
  refine⟨by rw[List.mapM_cons,h1,h4];rfl,fun i hi=>?_⟩
  rw[List.flatMap_cons]at hi
  rcases List.mem_append.1 hi with hi|hi
  ·exact h2 i hi
  ·exact h5 i hi
 |[],_::_,h=>absurd h (by simp[FzL])
 |_::_,[],h=>absurd h (by simp[FzL])
theorem call_fz{cfg:Cfg}{f:FuncId}{args args':List SV}{S:Zt}{b:Nat}{k:SV×Zt→Prop}(hm:cfg.mode f=.pure)(h:FzL S b args args')(hk:∀S',Kp S S' b→wpO (pW cfg f args') fun v=>k (v,S')):wpO (cW cfg f args S) k:=by
 obtain⟨h1,h2⟩:=fzL h
 exact call_frz hm h1 (hk _ (sealS_kp _ _ _ h2))
theorem call_fz1{cfg:Cfg}{f:FuncId}{x x':SV}{S:Zt}{b:Nat}{k:SV×Zt→Prop}(hm:cfg.mode f=.pure)(h1:FzO S b x x')(hk:∀S',Kp S S' b→wpO (pW cfg f [x']) fun v=>k (v,S')):wpO (cW cfg f [x] S) k:=
 call_fz (args':=[x']) hm ⟨h1,trivial⟩ hk
theorem call_fz2{cfg:Cfg}{f:FuncId}{x x' y y':SV}{S:Zt}{b:Nat}{k:SV×Zt→Prop}(hm:cfg.mode f=.pure)(h1:FzO S b x x')(h2:FzO S b y y')(hk:∀S',Kp S S' b→wpO (pW cfg f [x',y']) fun v=>k (v,S')):wpO (cW cfg f [x,y] S) k:=
 call_fz (args':=[x',y']) hm ⟨h1,h2,trivial⟩ hk
theorem call_fz3{cfg:Cfg}{f:FuncId}{x x' y y' z z':SV}{S:Zt}{b:Nat}{k:SV×Zt→Prop}(hm:cfg.mode f=.pure)(h1:FzO S b x x')(h2:FzO S b y y')(h3:FzO S b z z')(hk:∀S',Kp S S' b→wpO (pW cfg f [x',y',z']) fun v=>k (v,S')):wpO (cW cfg f [x,y,z] S) k:=
 call_fz (args':=[x',y',z']) hm ⟨h1,h2,h3,trivial⟩ hk
theorem Own.len{S:Zt}{v:SV}{sz b:Nat}{es:List SV}(hO:Own S v sz es b){i:TyI}{t:TypeId}(h:i.kind=.slice t):lenS i v=some (.int .i64 (es.length:Int)):=by
 obtain⟨id,cap,rest,rfl,_⟩:=hO
 exact len_osl h
theorem Own.frz{S:Zt}{v:SV}{sz b:Nat}{es:List SV}{Q:SV→Prop}(hO:Own S v sz es b)(hp:∀e∈es,pureS e=true)(h:∀c,c≠.nil→Q (.vsl es c)):wpO (frz S dS v) Q:=by
 obtain⟨c,hc,h1,_⟩:=fz_own hO hp
 exact wo h1 (h c hc)
theorem Own.get{cfg:Cfg}{i j:TyI}{t:TypeId}{S:Zt}{v e w:SV}{b n:Nat}{es:List SV}{k:IntKind}{K:SV→SV→Prop}(hO:Own S v j.size es b)(h:i.kind=.slice t)(ht:cfg.ty t=some j)(hj:j.size≠0)(he:es[n]?=some e)
  (hw:partS j e.cells 0=some w) (hk:∀p,K p w):wpO (ixS cfg i v (.int k (n:Int))) fun p=>wpO (ldS j S p) fun w=>K p w:=by
 obtain⟨id,cap,rest,rfl,hS,hb,_⟩:=hO
 have hn:n<es.length:=(List.getElem?_eq_some_iff.1 he).1
 refine wo (idx_osl h ht hj hn rfl) ?_
 refine wo ((load_row hS (by rw[Nat.zero_add,List.getElem?_append_left hn];exact he)).trans hw) (hk _)
theorem Own.ptr{cfg:Cfg}{i j:TyI}{t:TypeId}{S:Zt}{v e w:SV}{b n:Nat}{es:List SV}{k:IntKind}(hO:Own S v j.size es b)(h:i.kind=.slice t)(ht:cfg.ty t=some j)(hj:j.size≠0)(he:es[n]?=some e)
  (hw:partS j e.cells 0=some w):∃p,ixS cfg i v (.int k (n:Int))=some p∧ldS j S p=some w:=by
 obtain⟨id,cap,rest,rfl,hS,hb,_⟩:=hO
 have hn:n<es.length:=(List.getElem?_eq_some_iff.1 he).1
 exact⟨_,idx_osl h ht hj hn rfl,(load_row hS (by rw[Nat.zero_add,List.getElem?_append_left hn];exact he)).trans hw⟩
theorem OwnA.put{cfg:Cfg}{i j:TyI}{t:TypeId}{S:Zt}{v e x e':SV}{b n:Nat}{es:List SV}{k:IntKind}{K:SV→Zt→Prop}(hO:OwnA S v j.size es b)(h:i.kind=.slice t)(ht:cfg.ty t=some j)(hj:j.size≠0)(he:es[n]?=some e)
  (hx:x.n=j.size) (hf:flatS x=true) (hp:putPart e 0 x=some e') (hk:∀p S',OwnA S' v j.size (es.set n e') b→Kp S S' b→S'.length=S.length→K p S'):wpO (ixS cfg i v (.int k (n:Int))) fun p=>wpO (stS j S p x) fun S'=>K p S':=by
 obtain⟨id,cap,rest,rfl,hS,hb,hcap⟩:=hO
 have hn:n<es.length:=(List.getElem?_eq_some_iff.1 he).1
 refine wo (idx_osl h ht hj hn rfl) ?_
 rw[Nat.zero_add]
 refine wo (store_row hS (by rw[List.getElem?_append_left hn];exact he) hx hf hp) (hk _ _ ⟨id,cap,rest,by simp,?_,hb,?_⟩ (Kp.set hb) (by simp))
 ·rw[List.set_append_left _ _ hn];exact at_eq hS
 ·rw[List.length_set];exact hcap
theorem Own.cut{j:TyI}{S:Zt}{v:SV}{b n:Nat}{es:List SV}{k:IntKind}(hO:Own S v j.size es b)(hj:j.size≠0)(hn:n≤es.length)(hs:∀es c,sizeIs j.size (.vsl es c)=true→True):∃v',slicS j v none (some (.int k (n:Int))) none=some v'∧Own S v' j.size (es.take n) b:=by
 obtain⟨id,cap,rest,rfl,hS,hb,hc⟩:=hO
 refine⟨.osl id j.size 0 n cap,?_,id,cap,es.drop n++rest,?_,?_,hb,fun c h=>?_⟩
 ·unfold slicS
  rw[if_neg hj]
  simp only[optNat,natS,Int.natCast_nonneg,if_true,Int.toNat_natCast,Option.map_some,Option.bind_some,sizeIs,beq_self_eq_true,sliceS,Option.getD_none,Option.getD_some]
  have hw:withinS es.length cap n=true:=by
   unfold withinS
   cases cap with
   |none=>simp[hn]
   |some c=>have:=hc c rfl;simp;omega
  rw[if_pos ⟨Nat.zero_le _,hw⟩]
  simp
 ·rw[List.length_take,Nat.min_eq_left hn]
 ·rw[←List.append_assoc,List.take_append_drop];exact hS
 ·have:=hc c h
  rw[List.length_take];omega
theorem sealS_out:∀(l:List Nat) (S:Zt) (i:Nat),i∉l→(sealS S l)[i]?=S[i]?
 |[],S,i,_=>rfl
 |id::r,S,i,h=>by
  simp only[List.mem_cons,not_or]at h
  show(sealS _ r)[i]?=_
  rw[sealS_out r _ i h.2]
  split
  ·rw[List.getElem?_set,if_neg (fun e=>h.1 e.symm)]
  ·rfl
theorem sealS_in:∀(l:List Nat) (S:Zt) (i:Nat) (es:List SV) (lv:Bool),S[i]?=some (.cells es lv)→∃lv',(sealS S l)[i]?=some (.cells es lv')
 |[],S,i,es,lv,h=>⟨lv,h⟩
 |id::r,S,i,es,lv,h=>by
  show ∃lv',(sealS (match S[id]? with|some (.cells es _)=>S.set id (.cells es false)|_=>S) r)[i]?=_
  split
  ·rename_i es' lv'' hs
   by_cases hi:id=i
   ·subst hi
    rw[h]at hs
    cases hs
    exact sealS_in r _ _ es false (at_eq h)
   ·exact sealS_in r _ i es lv (at_ne h hi)
  ·exact sealS_in r _ i es lv h
def Only(S S':Zt)(v:SV):Prop:=∀i,i<S.length→(∀s o n c,v≠.osl i s o n c)→S'[i]?=S[i]?
def Sn(S S':Zt):Prop:=∀(i:Nat) (es:List SV) (lv:Bool),S[i]?=some (.cells es lv)→∃lv',S'[i]?=some (.cells es lv')
theorem Sn.refl(S:Zt):Sn S S:=fun i es lv h=>⟨lv,h⟩
theorem Sn.trans{S T U:Zt}(h:Sn S T)(h2:Sn T U):Sn S U:=fun i es lv hi=>by
 obtain⟨l1,h1⟩:=h i es lv hi
 exact h2 i es l1 h1
theorem Sn.app{S T:Zt}:Sn S (S++T):=fun i es lv h=>⟨lv,at_app h⟩
theorem Sn.kp{S T:Zt}(h:Kp S T S.length):Sn S T:=fun i es lv hi=>⟨lv,h.at (at_lt hi) hi⟩
def Dj(v w:SV):Prop:=∀i s o n c i' s' o' n' c',v=.osl i s o n c→w=.osl i' s' o' n' c'→i≠i'
theorem Own.only{S S':Zt}{v w:SV}{sz b:Nat}{es:List SV}(h:Own S w sz es b)(ho:Only S S' v)(hd:Dj v w):Own S' w sz es b:=by
 obtain⟨id,cap,rest,rfl,h2,h3,h4⟩:=h
 refine⟨id,cap,rest,rfl,?_,h3,h4⟩
 rw[ho id (at_lt h2) (fun s o n c e=>hd id s o n c id _ _ _ _ e rfl rfl)]
 exact h2
theorem Only.at{S S':Zt}{v:SV}{sz b:Nat}{es:List SV}(ho:Only S S' v)(hv:Own S v sz es b){i:Nat}{r:Row}(hi:i<b)(hr:S[i]?=some r):S'[i]?=some r:=by
 obtain⟨id,cap,rest,rfl,h2,h3,h4⟩:=hv
 rw[ho i (at_lt hr) (fun s o n c e=>by cases e;omega)]
 exact hr
theorem Only.atv{S S':Zt}{es:List SV}{c:VC}(ho:Only S S' (.vsl es c)){i:Nat}{r:Row}(hr:S[i]?=some r):S'[i]?=some r:=by
 rw[ho i (at_lt hr) (fun s o n c e=>by cases e)]
 exact hr
theorem dj_new{S T:Zt}{v w:SV}{sz sz' b:Nat}{es es':List SV}(hv:Own T v sz es S.length)(hw:Own S w sz' es' b):Dj v w:=by
 obtain⟨id,cap,rest,rfl,h2,h3,h4⟩:=hv
 obtain⟨id',cap',rest',rfl,h2',h3',h4'⟩:=hw
 intro i s o n c i' s' o' n' c' e1 e2
 cases e1;cases e2
 have:=at_lt h2'
 omega
theorem Own.put{cfg:Cfg}{i j:TyI}{t:TypeId}{S:Zt}{v e x e':SV}{b n:Nat}{es:List SV}{k:IntKind}{K:SV→Zt→Prop}(hO:Own S v j.size es b)(h:i.kind=.slice t)(ht:cfg.ty t=some j)(hj:j.size≠0)(he:es[n]?=some e)
  (hx:x.n=j.size) (hf:flatS x=true) (hp:putPart e 0 x=some e') (hk:∀p S',Own S' v j.size (es.set n e') b→Only S S' v→S'.length=S.length→K p S'):wpO (ixS cfg i v (.int k (n:Int))) fun p=>wpO (stS j S p x) fun S'=>K p S':=by
 obtain⟨id,cap,rest,rfl,hS,hb,hcap⟩:=hO
 have hn:n<es.length:=(List.getElem?_eq_some_iff.1 he).1
 refine wo (idx_osl h ht hj hn rfl) ?_
 rw[Nat.zero_add]
 refine wo (store_row hS (by rw[List.getElem?_append_left hn];exact he) hx hf hp) (hk _ _ ⟨id,cap,rest,by simp,?_,hb,?_⟩ ?_ (by simp))
 ·rw[List.set_append_left _ _ hn];exact at_eq hS
 ·rw[List.length_set];exact hcap
 ·intro i hi hne
  rw[List.getElem?_set,if_neg (fun e=>hne _ _ _ _ (by rw[e]))]
def Ro(S:Zt)(v:SV)(l:List Nat):Prop:=(∃c,v=.vsl (u64s l) c)∨∃id cap rest lv,v=.osl id 1 0 l.length cap∧S[id]?=some (.cells (u64s l++rest) lv)
theorem Ro.sn{S T:Zt}{v:SV}{l:List Nat}(h:Ro S v l)(hs:Sn S T):Ro T v l:=by
 rcases h with h|⟨id,cap,rest,lv,h1,h2⟩
 ·exact .inl h
 ·obtain⟨lv',h3⟩:=hs _ _ _ h2
  exact .inr ⟨id,cap,rest,lv',h1,h3⟩
theorem Own.ro{S:Zt}{v:SV}{l:List Nat}{b:Nat}(h:Own S v 1 (u64s l) b):Ro S v l:=by
 obtain⟨id,cap,rest,h1,h2,_⟩:=h
 exact .inr ⟨id,cap,rest,true,by rw[h1,u64s_len],h2⟩
theorem Ro.fz{S:Zt}{v:SV}{l:List Nat}(h:Ro S v l):∃c,FzO S 0 v (.vsl (u64s l) c):=by
 rcases h with⟨c,rfl⟩|⟨id,cap,rest,lv,rfl,hS⟩
 ·exact⟨c,fz_pure rfl⟩
 ·have ht:((u64s l++rest).drop 0).take l.length=u64s l:=by rw[List.drop_zero,←u64s_len,List.take_left]
  obtain⟨h1,h2⟩:=frz_row (sz:=1) (cap:=cap) (off:=0) (len:=l.length) hS (by simp) (by rw[ht];exact u64s_pure)
  rw[ht]at h1
  exact⟨_,h1,fun _ _=>Nat.zero_le _⟩
theorem Ro.len{S:Zt}{v:SV}{l:List Nat}(h:Ro S v l){i:TyI}{t:TypeId}(hi:i.kind=.slice t):lenS i v=some (.int .i64 (l.length:Int)):=by
 rcases h with⟨c,rfl⟩|⟨id,cap,rest,lv,rfl,hS⟩
 ·rw[len_vsl hi,u64s_len]
 ·exact len_osl hi
theorem call_sn{cfg:Cfg}{f:FuncId}{args args':List SV}{S:Zt}{b:Nat}{k:SV×Zt→Prop}(hm:cfg.mode f=.pure)(h:FzL S b args args')(hk:∀S',Kp S S' b→Sn S S'→wpO (pW cfg f args') fun v=>k (v,S')):wpO (cW cfg f args S) k:=by
 obtain⟨h1,h2⟩:=fzL h
 exact call_frz hm h1 (hk _ (sealS_kp _ _ _ h2) (fun i es lv hi=>sealS_in _ _ i es lv hi))
theorem call_sn3{cfg:Cfg}{f:FuncId}{x x' y y' z z':SV}{S:Zt}{b:Nat}{k:SV×Zt→Prop}(hm:cfg.mode f=.pure)(h1:FzO S b x x')(h2:FzO S b y y')(h3:FzO S b z z')(hk:∀S',Kp S S' b→Sn S S'→wpO (pW cfg f [x',y',z']) fun v=>k (v,S')):wpO (cW cfg f [x,y,z] S) k:=
 call_sn (args':=[x',y',z']) hm ⟨h1,h2,h3,trivial⟩ hk
theorem call_freshG{cfg:Cfg}{f:FuncId}{args args':List SV}{S:Zt}{k:SV×Zt→Prop}(hm:cfg.mode f=.fresh)(h1:args.mapM (frz S dS)=some args')(h:wpO (bW cfg f args' []) fun p=>wpO (freshO p) fun r=>k (freshIn S args r)):wpO (cW cfg f args S) k:=by
 rw[callW_eq,hm]
 simp only[h1,Option.bind_some]
 rw[freshW_eq]
 rw[wpO_iff]at h ⊢
 obtain⟨p,hb,h⟩:=h
 rw[wpO_iff]at h
 obtain⟨r,hr,h⟩:=h
 exact⟨_,by rw[hb];simp only[Option.bind_some];rw[hr];rfl,h⟩
theorem freshO_row{S:Zt}{id len:Nat}{cap:Option Nat}{o:List Nat}(h:S[id]?=some (.cells (u64s o) true)):freshO (.osl id 1 0 len cap,S)=some (.inr (u64s o,1,0,len,cap)):=by
 have hp:(u64s o).all pureS=true:=List.all_eq_true.2 u64s_pure
 unfold freshO
 simp only[h,hp,if_true]
theorem refs_osl{S:Zt}{v:SV}{sz b:Nat}{es:List SV}(h:Own S v sz es b)(hp:∀e∈es,pureS e=true):∀i∈refs S dS v,∃s o n c,v=.osl i s o n c:=by
 obtain⟨id,cap,rest,rfl,hS,hb,_⟩:=h
 have ht:((es++rest).drop 0).take es.length=es:=by simp
 obtain⟨h1,h2⟩:=frz_row (sz:=sz) (cap:=cap) (off:=0) (len:=es.length) hS (by simp) (by rw[ht];exact hp)
 rw[h2]
 intro i hi
 simp at hi
 exact⟨sz,0,es.length,cap,by rw[hi]⟩
end Go.Sh
