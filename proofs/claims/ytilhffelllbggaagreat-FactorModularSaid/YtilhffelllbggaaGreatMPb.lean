/-
  The program's polynomials modulo a prime.
-/
import Derived.Test.YtilhffelllbggaaGreatMPa
import Derived.Test.YtilhffelllbggaaGreatMLa
import Derived.Test.YtilhffelllbggaaGreatMG
set_option linter.unusedVariables false
set_option linter.unusedSimpArgs false
set_option maxRecDepth 10000
namespace Go.Proofs
open Go.Sh
open Pl (IsP Rd Cg en tm Mo PF)
def rg(p:Nat):SV:=.agg [.int .u64 (p:Int)]
theorem len100(l:List Nat)(c:VC):lenS y100 (.vsl (u64s l) c)=some (.int .i64 (l.length:Int)):=by rw[len_vsl rfl,u64s_len]
theorem idx100{l:List Nat}{c:VC}{i d:Nat}(h:l[i]?=some d):ixS cT y100 (.vsl (u64s l) c) (.int .i64 (i:Int))=some (.vptr (.int .u64 (d:Int))):=idx_vsl rfl rfl (by decide) (u64s_get h) rfl
theorem ld_rg{S:Zt}{p:Nat}{lv:Bool}(h:S[0]?=some (.cells [rg p] lv)):ldS y99 S (.optr 0 0 0)=some (rg p):=by
 rw[load_row h rfl];rfl
theorem fa_rg:faS cT y99 (.optr 0 0 0) 0=some (.optr 0 0 0):=rfl
theorem ld_p{S:Zt}{p:Nat}{lv:Bool}(h:S[0]?=some (.cells [rg p] lv)):ldS y25 S (.optr 0 0 0)=some (.int .u64 (p:Int)):=by
 rw[load_row h rfl];rfl
theorem slic_o{id m n N:Nat}(h:m≤n):slicS y25 (.osl id 1 0 n (some N)) none (some (.int .i64 (m:Int))) none=some (.osl id 1 0 m (some N)):=by
 unfold slicS
 rw[if_neg (by decide)]
 simp only[optNat,natS,Int.natCast_nonneg,if_true,Int.toNat_natCast,Option.map_some,Option.bind_some,sliceS,Option.getD_none,Option.getD_some]
 have hw:withinS n (some N) m=true:=by unfold withinS;simp[h]
 have hs:sizeIs y25.size (SV.osl id 1 0 n (some N))=true:=rfl
 rw[if_pos hs,if_pos ⟨Nat.zero_le _,hw⟩]
 simp
theorem row_set64{o:List Nat}{n d:Nat}:(o++List.replicate (n+1) 0).set o.length d=(o++[d])++List.replicate n 0:=by
 rw[List.set_append_right _ _ (Nat.le_refl _),Nat.sub_self,List.replicate_succ,List.set_cons_zero]
 simp
theorem ftrim1_loop:∀(m:Nat) (l o:List Nat) (c:VC) (p n:Nat) (e:En) (k:X→En→Zt→Prop),o.length+m=n→n=l.length→n<1000000→0<p→o=(l.take o.length).map (·%p)→e 2=.optr 0 0 0→e 5=.osl 1 1 0 n (some n)→e 11=.vsl (u64s l) c→e 12=.int .i64 (n:Int)→e 13=.int .i64 (o.length:Int)→
  (∀(e':En),e' 5=.osl 1 1 0 n (some n)→k (.exit 0) e' [.cells [rg p] true,.cells (u64s (l.map (·%p))) true])→DenP cT 44 (.loop L59_0) e [.cells [rg p] true,.cells (u64s (o++List.replicate m 0)) true] k:=by
 intro m
 induction m with
 |zero=>
  intro l o c p n e k hn hn2 hl hp ho h2 h5 h11 h12 h13 hk
  refine L59_0_ok ?_
  unfold TL59_0
  simp only[h12,h13,b_lss,ws]
  rw[decide_eq_false (by omega),cf_]
  have e1:o++List.replicate 0 0=l.map (·%p):=by
   rw[List.replicate_zero,List.append_nil,ho,List.take_of_length_le (by omega)]
  rw[e1]
  exact hk _ h5
 |succ m ih=>
  intro l o c p n e k hn hn2 hl hp ho h2 h5 h11 h12 h13 hk
  obtain⟨d,hd⟩:∃d,l[o.length]?=some d:=⟨l[o.length]'(by omega),by simp⟩
  refine L59_0_ok ?_
  unfold TL59_0
  simp only[h2,h5,h11,h12,h13,b_lss,ws,idx100 hd,ld25,fa_rg]
  rw[decide_eq_true (by omega),condP_t]
  refine wo (ld_p rfl) ?_
  refine wo (b_remN hp) ?_
  refine wo (idx_osl (j:=y25) rfl rfl (by decide) (by omega) rfl) ?_
  rw[Nat.zero_add]
  refine wo (store_row (es:=u64s (o++List.replicate (m+1) 0)) (e:=.int .u64 0) rfl (by rw[show(0:Int)=((0:Nat):Int) from rfl];exact u64s_get (by rw[List.getElem?_append_right (Nat.le_refl _)];simp)) rfl rfl rfl) ?_
  rw[u64s_set,row_set64]
  simp only[b_add,ws]
  rw[sI (by omega)]
  have hlen:(o++[d%p]).length=o.length+1:=by simp
  refine ih l (o++[d%p]) c p n _ k (by rw[hlen];omega) hn2 hl hp ?_ h2 h5 h11 h12 (by rw[hlen];rfl) hk
  rw[hlen,List.take_add_one,hd,List.map_append,←ho]
  rfl
theorem ftrim2_loop:∀(m:Nat) (o:List Nat) (p:Nat) (e:En) (k:X→En→Zt→Prop),m≤o.length→o.length<1000000→e 5=.osl 1 1 0 m (some o.length)→
  (∀(e':En),e' 5=.osl 1 1 0 (trimL (o.take m)).length (some o.length)→k (.exit 2) e' [.cells [rg p] true,.cells (u64s o) true])→DenP cT 44 (.loop L59_1) e [.cells [rg p] true,.cells (u64s o) true] k:=by
 intro m
 induction m with
 |zero=>
  intro o p e k hm hl h5 hk
  refine L59_1_ok ?_
  unfold TL59_1
  simp only[h5]
  refine wo (len_osl rfl) ?_
  simp only[b_gtr,ws]
  rw[decide_eq_false (by omega)]
  simp only[grdP_ft,pickS_f,ws,cf_]
  exact hk _ h5
 |succ m ih=>
  intro o p e k hm hl h5 hk
  obtain⟨d,hd⟩:∃d,o[m]?=some d:=⟨o[m]'(by omega),by simp⟩
  have ht:o.take (m+1)=o.take m++[d]:=by rw[List.take_add_one,hd];rfl
  rw[ht,trimL_snoc]at hk
  have e1:lenS y100 (.osl 1 1 0 (m+1) (some o.length))=some (.int .i64 ((m+1:Nat):Int)):=len_osl rfl
  refine L59_1_ok ?_
  unfold TL59_1
  simp only[h5,e1,b_gtr,ws]
  rw[decide_eq_true (by omega)]
  refine grdT rfl (grdT rfl (grdT rfl (wo e1 (grdT rfl (wo b_sub ?_)))))
  rw[pI (by omega) (by omega),Nat.add_sub_cancel]
  refine grdT rfl (wo (idx_osl (j:=y25) rfl rfl (by decide) (by omega) rfl) ?_)
  rw[Nat.zero_add]
  refine grdT rfl (wo ((load_row (es:=u64s o) rfl (u64s_get hd)).trans (b:=some (.int .u64 (d:Int))) rfl) (grdT rfl (wo b_eql ?_)))
  simp only[pickS_t,ws]
  refine condP_dec (fun hz=>?_) (fun hz=>?_)
  ·simp only[e1,b_sub,ws]
   rw[pI (by omega) (by omega),Nat.add_sub_cancel]
   refine wo (slic_o (by omega)) ?_
   rw[if_pos (by omega)]at hk
   exact ih o p _ k (by omega) hl rfl hk
  ·rw[if_neg (by omega)]at hk
   refine hk _ ?_
   refine h5.trans ?_
   simp
   omega
theorem trimL_take'{l:List Nat}:l.take (trimL l).length=trimL l:=by
 induction l using snoc_ind with
 |h0=>rfl
 |h l x ih=>
  rw[trimL_snoc]
  split
  ·have:(trimL l).length≤l.length:=by
    rw[←ih];simp;omega
   rw[List.take_append_of_le_length this,ih]
  ·exact List.take_length
theorem f_trim{S:Zt}{v:SV}{l:List Nat}{c:VC}{p:Nat}{k:SV×Zt→Prop}(hl:l.length<1000000)(hp:0<p)(hv:frz S dS v=some (.vsl (u64s l) c))(hr:∀i∈refs S dS v,∃s o n c,v=.osl i s o n c)
  (h:∀v' S',Own S' v' 1 (u64s (tm p l)) S.length→Only S S' v→S'.length=S.length+1→k (v',S')):wpO (cW cT 59 [rg p,v] S) k:=by
 have hrg:=frz_pure (S:=S) (v:=rg p) rfl
 refine call_freshG (args':=[rg p,.vsl (u64s l) c]) rfl (by simp only[List.mapM_cons,hrg.1,hv,List.mapM_nil];rfl) ?_
 refine F59_ok (k:=fun w S'=>wpO (freshO (w,S')) fun r=>k (freshIn S [rg p,v] r)) ?_
 unfold F59
 refine wo rfl ?_
 simp only[len100,ws]
 refine wo (mksl_ok (j:=y25) (by decide) rfl (by unfold roomS;omega) (by unfold roomS;show l.length*8≤_;omega)) ?_
 show DenP cT 44 (.loop L59_0) _ [.cells [rg p] true,.cells (List.replicate l.length (SV.int .u64 0)) true] _
 rw[u64s_zeros]
 refine ftrim1_loop l.length l [] c p l.length _ _ (by simp) rfl hl hp (by simp) rfl rfl rfl rfl rfl (fun e' h5=>?_)
 refine K59_0e0_ok ?_
 unfold TK59_0e0
 refine ftrim2_loop l.length (l.map (·%p)) p e' _ (by simp) (by simpa using hl) (by rw[h5];simp) (fun e2 g5=>?_)
 refine K59_1e2_ok ?_
 unfold TK59_1e2
 have e1:(l.map (·%p)).take l.length=l.map (·%p):=List.take_of_length_le (by simp)
 rw[e1]at g5
 rw[g5]
 refine wo (freshO_row (id:=1) (o:=l.map (·%p)) rfl) ?_
 refine h _ _ ⟨S.length,some (l.map (·%p)).length,u64s ((l.map (·%p)).drop (trimL (l.map (·%p))).length),?_,?_,Nat.le_refl _,?_⟩ ?_ ?_
 ·rw[u64s_len];rfl
 ·rw[←u64s_append]
  have:tm p l++(l.map (·%p)).drop (trimL (l.map (·%p))).length=l.map (·%p):=by
   show trimL (l.map (·%p))++_=_
   conv=>lhs;arg 1;rw[←trimL_take']
   exact List.take_append_drop _ _
  rw[this]
  have hlen:=sealS_len ([rg p,v].flatMap (refs S dS)) S
  show(sealS S ([rg p,v].flatMap (refs S dS))++[Row.cells (u64s (l.map (·%p))) true])[S.length]?=_
  rw[←hlen]
  exact at_new
 ·intro cc hcc
  cases hcc
  rw[u64s_len]
  have:=Pl.tm_len p l
  simpa using this
 ·intro i hi hne
  show(sealS S ([rg p,v].flatMap (refs S dS))++[Row.cells (u64s (l.map (·%p))) true])[i]?=_
  rw[List.getElem?_append_left (by rw[sealS_len];exact hi),sealS_out]
  simp only[List.flatMap_cons,hrg.2,List.nil_append,List.flatMap_nil,List.append_nil]
  intro hm
  obtain⟨s,o,n,c,e⟩:=hr i hm
  exact hne s o n c e
 ·show(sealS S ([rg p,v].flatMap (refs S dS))++[Row.cells (u64s (l.map (·%p))) true]).length=_
  rw[List.length_append,sealS_len];rfl
theorem f_trimV{S:Zt}{l:List Nat}{c:VC}{p:Nat}{k:SV×Zt→Prop}(hl:l.length<1000000)(hp:0<p)
  (h:∀v' S',Own S' v' 1 (u64s (tm p l)) S.length→Only S S' (.vsl (u64s l) c)→S'.length=S.length+1→k (v',S')):wpO (cW cT 59 [rg p,.vsl (u64s l) c] S) k:=by
 have:=frz_pure (S:=S) (v:=.vsl (u64s l) c) rfl
 exact f_trim hl hp this.1 (by rw[this.2];intro i hi;cases hi) h
theorem f_trimO{S:Zt}{v:SV}{l:List Nat}{b p:Nat}{k:SV×Zt→Prop}(hO:Own S v 1 (u64s l) b)(hl:l.length<1000000)(hp:0<p)
  (h:∀v' S',Own S' v' 1 (u64s (tm p l)) S.length→Only S S' v→S'.length=S.length+1→k (v',S')):wpO (cW cT 59 [rg p,v] S) k:=by
 obtain⟨c,_,hf⟩:=fz_own hO u64s_pure
 exact f_trim hl hp hf.1 (refs_osl hO u64s_pure) h
theorem comb_loop:∀(m i:Nat) (b o:List Nat) (cb:VC) (p cc:Nat) (A:Int→Int) (S:Zt) (e:En) (k:X→En→Zt→Prop),i+m=b.length→b.length≤o.length→o.length<1000000→0<p→p≤2147483647→cc<p→(∀x∈b,x<p)→(∀x∈o,x<p)→
  e 2=.int .u64 (cc:Int)→e 4=.optr 0 0 0→e 21=.vsl (u64s b) cb→e 22=.int .i64 (b.length:Int)→e 23=.int .i64 (i:Int)→Own S (e 9) 1 (u64s o) 1→S[0]?=some (.cells [rg p] true)→
  Cg p (en o) (fun x=>A x+cc*en (b.take i) x)→
  (∀(o':List Nat) (e':En) (S':Zt),o'.length=o.length→Cg p (en o') (fun x=>A x+cc*en b x)→e' 4=.optr 0 0 0→Own S' (e' 9) 1 (u64s o') 1→S'[0]?=some (.cells [rg p] true)→k (.exit 0) e' S')→DenP cT 46 (.loop L179_0) e S k:=by
 intro m
 induction m with
 |zero=>
  intro i b o cb p cc A S e k hi hbo hol hp hp2 hcc hb ho h2 h4 h21 h22 h23 hO h0 hv hk
  refine L179_0_ok ?_
  unfold TL179_0
  simp only[h22,h23,b_lss,ws]
  rw[decide_eq_false (by omega),cf_]
  rw[List.take_of_length_le (by omega)]at hv
  exact hk o _ S rfl hv h4 hO h0
 |succ m ih=>
  intro i b o cb p cc A S e k hi hbo hol hp hp2 hcc hb ho h2 h4 h21 h22 h23 hO h0 hv hk
  obtain⟨y,hy⟩:∃d,b[i]?=some d:=⟨b[i]'(by omega),by simp⟩
  obtain⟨z,hz⟩:∃d,o[i]?=some d:=⟨o[i]'(by omega),by simp⟩
  have hyp:=hb _ (List.mem_of_getElem? hy)
  have hzp:=ho _ (List.mem_of_getElem? hz)
  refine L179_0_ok ?_
  unfold TL179_0
  simp only[h2,h4,h21,h22,h23,b_lss,ws,idx100 hy,ld25]
  rw[decide_eq_true (by omega),condP_t]
  refine Own.get (j:=y25) (e:=.int .u64 (z:Int)) (w:=.int .u64 (z:Int)) hO rfl rfl (by decide) (u64s_get hz) rfl (fun pp=>?_)
  simp only[b_mul,b_add,ws,fa_rg]
  rw[mulU2 hzp hcc hyp hp2]
  refine wo (ld_p h0) ?_
  refine wo (b_remN hp) ?_
  refine Own.put (j:=y25) (e:=.int .u64 (z:Int)) (e':=.int .u64 (((z+cc*y)%p:Nat):Int)) hO rfl rfl (by decide) (u64s_get hz) rfl rfl rfl (fun pp S' hO' hon _=>?_)
  rw[sI (by omega)]
  rw[u64s_set]at hO'
  refine ih (i+1) b (o.set i ((z+cc*y)%p)) cb p cc A S' _ k (by omega) (by simpa using hbo) (by simpa using hol) hp hp2 hcc hb ?_ h2 h4 h21 h22 rfl hO' (hon.at hO (by decide) h0) ?_ ?_
  ·intro u hu
   rcases List.mem_or_eq_of_mem_set hu with hu|rfl
   ·exact ho u hu
   ·exact Nat.mod_lt _ hp
  ·have hil:i<o.length:=by omega
   refine(Pl.set_cg (t:=cc*y) hil hv ?_).congr (fun _=>rfl) (fun x=>?_)
   ·rw[hz]
    simpa using Pl.mod_dvd p (z+cc*y)
   ·rw[Pl.en_take_succ,hy,Int.natCast_mul]
    simp only[Option.getD_some]
    grind
  ·intro o' e' S2 q1 q2 q3 q4 q5
   exact hk o' e' S2 (by simpa using q1) q2 q3 q4 q5
theorem splice_zeros{a:List Nat}{n:Nat}(h:a.length≤n):spliceS (u64s (List.replicate n 0)) 0 (u64s a)=some (u64s (a++List.replicate (n-a.length) 0)):=by
 unfold spliceS
 rw[if_pos (by simp;exact h)]
 congr 1
 simp[u64s,List.drop_replicate]
theorem copy_zeros{S:Zt}{a:List Nat}{c:VC}{n:Nat}(h:a.length≤n)(hS:S[1]?=some (.cells (u64s (List.replicate n 0)) true)):∃w S',copyS 1 S (.osl 1 1 0 n (some n)) (.vsl (u64s a) c)=some (w,S')∧S'[1]?=some (.cells (u64s (a++List.replicate (n-a.length) 0)) true)∧S'[0]?=S[0]?:=by
 have htk:(u64s a).take n=u64s a:=List.take_of_length_le (by simpa using h)
 unfold copyS
 simp only[elemsS,Option.bind_some,htk]
 by_cases h0:a=[]
 ·subst h0
  refine⟨.int .i64 0,S,by simp[u64s],?_,rfl⟩
  simpa using hS
 ·have he:(u64s a).isEmpty=false:=by simp[u64s,h0]
  simp only[he,hS]
  refine⟨.int .i64 (u64s a).length,S.set 1 (.cells (u64s (a++List.replicate (n-a.length) 0)) true),?_,at_eq hS,?_⟩
  ·rw[if_neg (by simp),if_pos (by simp[u64s_sizes]),splice_zeros h]
   rfl
  ·rw[List.getElem?_set,if_neg (by omega)]
theorem f_comb{a b:List Nat}{c d:VC}{p cc:Nat}{Q:SV→Prop}(hla:a.length<400000)(hlb:b.length<400000)(hp:0<p)(hp2:p≤2147483647)(hcc:cc<p)(ha:∀x∈a,x<p)(hb:∀x∈b,x<p)
  (h:∀r c',Rd p r→r.length≤max a.length b.length→Cg p (en r) (fun x=>en a x+cc*en b x)→Q (.vsl (u64s r) c')):wpO (pW cT 179 [rg p,.vsl (u64s a) c,.int .u64 (cc:Int),.vsl (u64s b) d]) Q:=by
 refine po rfl (F179_ok (k:=fun v S=>wpO (frz S dS v) Q) ?_)
 unfold F179
 refine wo rfl ?_
 simp only[len100,max_2,ws]
 have e1:max (a.length:Int) (b.length:Int)=((max a.length b.length:Nat):Int):=by omega
 rw[e1]
 generalize hn:max a.length b.length=n at h ⊢
 refine wo (mksl_ok (j:=y25) (by decide) rfl (by unfold roomS;omega) (by unfold roomS;show n*8≤_;omega)) ?_
 obtain⟨w,S1,hc1,hc2,hc3⟩:=copy_zeros (S:=[.cells [rg p] true,.cells (u64s (List.replicate n 0)) true]) (a:=a) (c:=c) (n:=n) (by omega) rfl
 have e2:([Row.cells [rg p] true]++[Row.cells (List.replicate n y25.zero) true]:Zt)=[.cells [rg p] true,.cells (u64s (List.replicate n 0)) true]:=by
  rw[←u64s_zeros];rfl
 show wpO (copyS 1 ([Row.cells [rg p] true]++[Row.cells (List.replicate n y25.zero) true]) (.osl 1 1 0 n (some n)) _) _
 rw[e2]
 refine wo hc1 ?_
 have hlo:(a++List.replicate (n-a.length) 0).length=n:=by simp;omega
 refine comb_loop b.length 0 b (a++List.replicate (n-a.length) 0) d p cc (en a) S1 _ _ (by omega) (by omega) (by omega) hp hp2 hcc hb ?_ rfl rfl rfl rfl rfl ⟨1,some n,[],by rw[u64s_len,hlo];rfl,by rw[List.append_nil];exact hc2,Nat.le_refl _,fun c hc=>by cases hc;rw[u64s_len];omega⟩ hc3 ?_ (fun o' e' S' q1 q2 q3 q4 q5=>?_)
 ·intro x hx
  rcases List.mem_append.1 hx with hx|hx
  ·exact ha x hx
  ·rw[(List.mem_replicate.1 hx).2];exact hp
 ·refine Cg.of_eq (fun x=>?_)
  have:en (a++List.replicate (n-a.length) 0) x=en a x:=by
   unfold en
   have e:Pl.nv (a++List.replicate (n-a.length) 0)=Pl.nv a++List.replicate (n-a.length) 0:=by simp[Pl.nv]
   rw[e,Pl.ev_append,Pl.ev_zeros];simp
  rw[this];simp[Pl.en_nil]
 ·refine K179_0e0_ok ?_
  unfold TK179_0e0
  rw[q3]
  refine wo (ld_rg q5) ?_
  refine f_trimO q4 (by omega) hp (fun v' S2 hO2 _ _=>?_)
  refine hO2.frz u64s_pure (fun c' _=>?_)
  exact h _ c' (Pl.tm_rd hp _) (by have:=Pl.tm_len p o';omega) ((Pl.tm_cg p _).trans q2)
theorem f_sub{a b:List Nat}{c d:VC}{p:Nat}{Q:SV→Prop}(hla:a.length<400000)(hlb:b.length<400000)(hp:0<p)(hp2:p≤2147483647)(ha:∀x∈a,x<p)(hb:∀x∈b,x<p)
  (h:∀r c',Rd p r→r.length≤max a.length b.length→Cg p (en r) (fun x=>en a x-en b x)→Q (.vsl (u64s r) c')):wpO (pW cT 131 [rg p,.vsl (u64s a) c,.vsl (u64s b) d]) Q:=by
 refine po rfl (F131_ok (k:=fun v S=>wpO (frz S dS v) Q) ?_)
 unfold F131
 iterate 2 refine wo rfl ?_
 refine wo fa_rg ?_
 refine wo (ld_p rfl) ?_
 simp only[b_sub,ws]
 have e1:wrS .u64 ((p:Int)-1)=((p-1:Nat):Int):=subU (b:=1) (by omega) (by omega)
 rw[e1]
 refine cpu rfl rfl (f_comb hla hlb hp hp2 (by omega) ha hb fun r c' hr hl hc=>?_)
 refine wo (frz_pure rfl).1 ?_
 refine h r c' hr hl (hc.trans ⟨fun x=>en b x,PF.en b,fun x=>?_⟩)
 have:((p-1:Nat):Int)=(p:Int)-1:=by omega
 rw[this];grind
theorem fmul_inner:∀(m:Nat) (a b o:List Nat) (ca cb:VC) (i k0 p x0:Nat) (S:Zt) (e:En) (k:X→En→Zt→Prop),k0+m=b.length→i<a.length→o.length=a.length+b.length-1→o.length<1000000→0<p→p≤2147483647→(∀x∈a,x<p)→(∀x∈b,x<p)→(∀x∈o,x<p)→a[i]?=some x0→
  e 3=.optr 0 0 0→e 34=.vsl (u64s b) cb→e 35=.int .i64 (b.length:Int)→e 9=.int .u64 (x0:Int)→e 8=.int .i64 (i:Int)→e 36=.int .i64 (k0:Int)→Own S (e 7) 1 (u64s o) 1→S[0]?=some (.cells [rg p] true)→
  Cg p (en o) (fun x=>en (a.take i) x*en b x+x0*x^i*en (b.take k0) x)→
  (∀(o':List Nat) (e':En) (S':Zt),o'.length=o.length→(∀x∈o',x<p)→Cg p (en o') (fun x=>en (a.take i) x*en b x+x0*x^i*en (b.take b.length) x)→Own S' (e' 7) 1 (u64s o') 1→S'[0]?=some (.cells [rg p] true)→e' 2=e 2→e' 3=e 3→e' 27=e 27→e' 28=e 28→e' 29=e 29→k (.exit 2) e' S')→
  DenP cT 64 (.loop L99_1) e S k:=by
 intro m
 induction m with
 |zero=>
  intro a b o ca cb i k0 p x0 S e k hk0 hi ho hol hp hp2 ha hb hoo hx h3 h34 h35 h9 h8 h36 hO h0 hv hk
  refine L99_1_ok ?_
  unfold TL99_1
  simp only[h35,h36,b_lss,ws]
  rw[decide_eq_false (by omega),cf_]
  have:k0=b.length:=by omega
  subst this
  exact hk o _ S rfl hoo hv hO h0 rfl rfl rfl rfl rfl
 |succ m ih=>
  intro a b o ca cb i k0 p x0 S e k hk0 hi ho hol hp hp2 ha hb hoo hx h3 h34 h35 h9 h8 h36 hO h0 hv hk
  obtain⟨y0,hy⟩:∃y,b[k0]?=some y:=⟨b[k0]'(by omega),by simp⟩
  obtain⟨z0,hz⟩:∃z,o[i+k0]?=some z:=⟨o[i+k0]'(by omega),by simp⟩
  have hx0:=ha _ (List.mem_of_getElem? hx)
  have hy0:=hb _ (List.mem_of_getElem? hy)
  have hz0:=hoo _ (List.mem_of_getElem? hz)
  refine L99_1_ok ?_
  unfold TL99_1
  simp only[h3,h34,h35,h9,h8,h36,b_lss,ws,b_add,idx100 hy,ld25]
  rw[decide_eq_true (by omega),condP_t]
  have eik:wrS .i64 ((i:Int)+(k0:Int))=((i+k0:Nat):Int):=by rw[wrap64 (by omega) (by omega)];omega
  rw[eik]
  clear eik
  refine Own.get (j:=y25) (e:=.int .u64 (z0:Int)) (w:=.int .u64 (z0:Int)) hO rfl rfl (by decide) (u64s_get hz) rfl (fun pp=>?_)
  simp only[ws,b_mul,b_add,fa_rg]
  rw[mulU2 hz0 hx0 hy0 hp2]
  refine wo (ld_p h0) ?_
  refine wo (b_remN hp) ?_
  refine Own.put (j:=y25) (e:=.int .u64 (z0:Int)) (e':=.int .u64 (((z0+x0*y0)%p:Nat):Int)) hO rfl rfl (by decide) (u64s_get hz) rfl rfl rfl (fun pp S' hO' hon _=>?_)
  rw[sI (by omega)]
  rw[u64s_set]at hO'
  refine ih a b (o.set (i+k0) ((z0+x0*y0)%p)) ca cb i (k0+1) p x0 S' _ k (by omega) hi (by simpa using ho) (by simpa using hol) hp hp2 ha hb ?_ hx h3 h34 h35 h9 h8 rfl hO' (hon.at hO (by decide) h0) ?_ ?_
  ·intro u hu
   rcases List.mem_or_eq_of_mem_set hu with hu|rfl
   ·exact hoo u hu
   ·exact Nat.mod_lt _ hp
  ·refine Pl.mul_step (by omega) hx hy hv ?_
   rw[hz]
   simpa using Pl.mod_dvd p (z0+x0*y0)
  ·intro o' e' S2 h1' h2' h3' h4' h5' g2 g3 g27 g28 g29
   exact hk o' e' S2 (by simpa using h1') h2' h3' h4' h5' g2 g3 g27 g28 g29
theorem fmul_outer:∀(m:Nat) (a b o:List Nat) (ca cb:VC) (i p:Nat) (S:Zt) (e:En) (k:X→En→Zt→Prop),i+m=a.length→0<b.length→o.length=a.length+b.length-1→o.length<1000000→0<p→p≤2147483647→(∀x∈a,x<p)→(∀x∈b,x<p)→(∀x∈o,x<p)→
  e 2=.vsl (u64s b) cb→e 3=.optr 0 0 0→e 27=.vsl (u64s a) ca→e 28=.int .i64 (a.length:Int)→e 29=.int .i64 (i:Int)→Own S (e 7) 1 (u64s o) 1→S[0]?=some (.cells [rg p] true)→
  Cg p (en o) (fun x=>en (a.take i) x*en b x+0)→
  (∀(o':List Nat) (e':En) (S':Zt),o'.length=o.length→(∀x∈o',x<p)→Cg p (en o') (fun x=>en a x*en b x)→Own S' (e' 7) 1 (u64s o') 1→S'[0]?=some (.cells [rg p] true)→e' 3=.optr 0 0 0→k (.exit 0) e' S')→
  DenP cT 64 (.loop L99_0) e S k:=by
 intro m
 induction m with
 |zero=>
  intro a b o ca cb i p S e k hi hb0 ho hol hp hp2 ha hb hoo h2 h3 h27 h28 h29 hO h0 hv hk
  refine L99_0_ok ?_
  unfold TL99_0
  simp only[h28,h29,b_lss,ws]
  rw[decide_eq_false (by omega),cf_]
  have:i=a.length:=by omega
  subst this
  rw[List.take_length]at hv
  exact hk o _ S rfl hoo (hv.congr (fun _=>rfl) (fun x=>by simp)) hO h0 h3
 |succ m ih=>
  intro a b o ca cb i p S e k hi hb0 ho hol hp hp2 ha hb hoo h2 h3 h27 h28 h29 hO h0 hv hk
  obtain⟨x0,hx⟩:∃x,a[i]?=some x:=⟨a[i]'(by omega),by simp⟩
  refine L99_0_ok ?_
  unfold TL99_0
  simp only[h2,h27,h28,h29,b_lss,ws,idx100 hx,ld25,len100]
  rw[decide_eq_true (by omega),condP_t]
  refine fmul_inner b.length a b o ca cb i 0 p x0 S _ _ (by omega) (by omega) ho hol hp hp2 ha hb hoo hx h3 rfl rfl rfl rfl rfl hO h0 (hv.congr (fun _=>rfl) (fun x=>by simp[en,Pl.nv])) ?_
  intro o' e' S' h1' h2' h3' h4' h5' g2 g3 g27 g28 g29
  refine K99_1e2_ok ?_
  unfold TK99_1e2
  have g29':e' 29=.int .i64 (i:Int):=g29.trans h29
  simp only[g29',b_add,ws]
  rw[sI (by omega)]
  refine ih a b o' ca cb (i+1) p S' _ k (by omega) hb0 (by omega) (by omega) hp hp2 ha hb h2' ?_ (g3.trans h3) (g27.trans h27) (g28.trans h28) rfl h4' h5' (Pl.mul_next hx h3') ?_
  ·exact g2.trans h2
  ·intro o2 e2 S2 q1 q2 q3 q4 q5 q6
   exact hk o2 e2 S2 (by omega) q2 q3 q4 q5 q6
theorem f_mul{a b:List Nat}{c d:VC}{p:Nat}{Q:SV→Prop}(hl:a.length+b.length<1000000)(hp:0<p)(hp2:p≤2147483647)(ha:∀x∈a,x<p)(hb:∀x∈b,x<p)
  (h:∀r c',Rd p r→r.length≤a.length+b.length-1→Cg p (en r) (fun x=>en a x*en b x)→Q (.vsl (u64s r) c')):wpO (pW cT 99 [rg p,.vsl (u64s a) c,.vsl (u64s b) d]) Q:=by
 refine po rfl (F99_ok (k:=fun v S=>wpO (frz S dS v) Q) ?_)
 unfold F99
 refine wo rfl ?_
 simp only[len100,b_eql,ws]
 by_cases ha0:a.length=0
 ·rw[decide_eq_true (by omega)]
  simp only[grdP_tf,pickS_t,ws,condP_t]
  have:a=[]:=List.length_eq_zero_iff.1 ha0
  subst this
  exact h [] _ (Rd.nil p) (by simp) (Cg.of_eq (fun x=>by rw[Pl.en_nil];simp))
 ·rw[decide_eq_false (by omega)]
  simp only[grdP_ff,len100,ws,b_eql,pickS_f]
  by_cases hb0:b.length=0
  ·rw[decide_eq_true (by omega),condP_t]
   have:b=[]:=List.length_eq_zero_iff.1 hb0
   subst this
   exact h [] _ (Rd.nil p) (by simp) (Cg.of_eq (fun x=>by rw[Pl.en_nil];simp))
  ·rw[decide_eq_false (by omega),cf_]
   simp only[b_add,b_sub,ws]
   have e1:wrS .i64 ((a.length:Int)+(b.length:Int))=((a.length+b.length:Nat):Int):=by rw[wrap64 (by omega) (by omega)];omega
   rw[e1,pI (by omega) (by omega)]
   refine Own.mk (by decide) rfl (by unfold roomS;omega) (by show _*8≤_;unfold roomS;omega) (fun v S' hO hK _=>?_)
   have hO2:Own S' v 1 (u64s (List.replicate (a.length+b.length-1) 0)) 1:=by rw[←u64s_zeros];exact hO.own
   refine fmul_outer a.length a b (List.replicate (a.length+b.length-1) 0) c d 0 p S' _ _ (by omega) (by omega) (by simp) (by simp;omega) hp hp2 ha hb (fun x hx=>by rw[(List.mem_replicate.1 hx).2];exact hp) rfl rfl rfl rfl rfl hO2 (hK.at (i:=0) (Nat.zero_lt_one) rfl) ?_ ?_
   ·refine Cg.of_eq (fun x=>?_)
    have:=Pl.en_shift (a.length+b.length-1) [] x
    rw[List.append_nil,Pl.en_nil]at this
    rw[this];simp[Pl.en_nil]
   ·intro o' e' S2 q1 q2 q3 q4 q5 q6
    refine K99_0e0_ok ?_
    unfold TK99_0e0
    rw[q6]
    have q1':o'.length=a.length+b.length-1:=by simpa using q1
    refine wo (ld_rg q5) ?_
    refine f_trimO q4 (by omega) hp (fun v' S3 hO3 _ _=>?_)
    refine hO3.frz u64s_pure (fun c' _=>?_)
    exact h _ c' (Pl.tm_rd hp _) (by have:=Pl.tm_len p o';omega) ((Pl.tm_cg p _).trans q3)
open Pl (IsDiv IsGcd Euc Bz)
theorem dj_symm{v w:SV}(h:Dj v w):Dj w v:=fun i s o n c i' s' o' n' c' h1 h2 h3=>h i' s' o' n' c' i s o n c h2 h1 h3.symm
theorem fdiv_inner:∀(m:Nat) (b o ql:List Nat) (cb:VC) (i k0 p f:Nat) (A:Int→Int) (S:Zt) (e:En) (k:X→En→Zt→Prop),i+m=b.length→k0+b.length≤o.length→o.length<1000000→0<p→p≤2147483647→f<p→(∀x∈b,x<p)→(∀x∈o,x<p)→
  e 3=.optr 0 0 0→e 63=.vsl (u64s b) cb→e 64=.int .i64 (b.length:Int)→e 65=.int .i64 (i:Int)→e 11=.int .i64 (k0:Int)→e 12=.int .u64 (f:Int)→Own S (e 1) 1 (u64s o) 1→Own S (e 10) 1 (u64s ql) 1→Dj (e 1) (e 10)→S[0]?=some (.cells [rg p] true)→
  Cg p (en o) (fun x=>A x+((p-f:Nat):Int)*x^k0*en (b.take i) x)→
  (∀(o':List Nat) (e':En) (S':Zt),o'.length=o.length→(∀x∈o',x<p)→Cg p (en o') (fun x=>A x+((p-f:Nat):Int)*x^k0*en b x)→Own S' (e' 1) 1 (u64s o') 1→Own S' (e' 10) 1 (u64s ql) 1→Dj (e' 1) (e' 10)→S'[0]?=some (.cells [rg p] true)→e' 2=e 2→e' 3=e 3→e' 8=e 8→k (.exit 2) e' S')→
  DenP cT 99 (.loop L64_1) e S k:=by
 intro m
 induction m with
 |zero=>
  intro b o ql cb i k0 p f A S e k hi hko hol hp hp2 hf hb hoo h3 h63 h64 h65 h11 h12 hO hq hd h0 hv hk
  refine L64_1_ok ?_
  unfold TL64_1
  simp only[h64,h65,b_lss,ws]
  rw[decide_eq_false (by omega),cf_]
  rw[List.take_of_length_le (by omega)]at hv
  exact hk o _ S rfl hoo hv hO hq hd h0 rfl rfl rfl
 |succ m ih=>
  intro b o ql cb i k0 p f A S e k hi hko hol hp hp2 hf hb hoo h3 h63 h64 h65 h11 h12 hO hq hd h0 hv hk
  obtain⟨y0,hy⟩:∃y,b[i]?=some y:=⟨b[i]'(by omega),by simp⟩
  obtain⟨z0,hz⟩:∃z,o[k0+i]?=some z:=⟨o[k0+i]'(by omega),by simp⟩
  have hy0:=hb _ (List.mem_of_getElem? hy)
  have hz0:=hoo _ (List.mem_of_getElem? hz)
  refine L64_1_ok ?_
  unfold TL64_1
  simp only[h3,h63,h64,h65,h11,h12,b_lss,ws,b_add,idx100 hy,ld25]
  rw[decide_eq_true (by omega),condP_t]
  have eik:wrS .i64 ((k0:Int)+(i:Int))=((k0+i:Nat):Int):=by rw[wrap64 (by omega) (by omega)];omega
  rw[eik]
  clear eik
  refine Own.get (j:=y25) (e:=.int .u64 (z0:Int)) (w:=.int .u64 (z0:Int)) hO rfl rfl (by decide) (u64s_get hz) rfl (fun pp=>?_)
  simp only[fa_rg,ws]
  refine wo (ld_p h0) ?_
  simp only[b_sub,b_mul,b_add,ws]
  rw[subU (by omega) (by omega)]
  have e2:wrS .u64 ((z0:Int)+wrS .u64 (((p-f:Nat):Int)*(y0:Int)))=((z0+(p-f)*y0:Nat):Int):=by
   rw[mulU (by omega) (by omega)]
   have h:(p-f)*y0≤2147483647*2147483647:=Nat.mul_le_mul (by omega) (by omega)
   generalize (p-f)*y0=t at h ⊢
   exact addU (by omega)
  rw[e2]
  refine wo (ld_p h0) ?_
  refine wo (b_remN hp) ?_
  refine Own.put (j:=y25) (e:=.int .u64 (z0:Int)) (e':=.int .u64 (((z0+(p-f)*y0)%p:Nat):Int)) hO rfl rfl (by decide) (u64s_get hz) rfl rfl rfl (fun pp S' hO' hon _=>?_)
  rw[sI (by omega)]
  rw[u64s_set]at hO'
  refine ih b (o.set (k0+i) ((z0+(p-f)*y0)%p)) ql cb (i+1) k0 p f A S' _ k (by omega) (by simpa using hko) (by simpa using hol) hp hp2 hf hb ?_ h3 h63 h64 rfl h11 h12 hO' (hq.only hon hd) hd (hon.at hO (by decide) h0) ?_ ?_
  ·intro u hu
   rcases List.mem_or_eq_of_mem_set hu with hu|rfl
   ·exact hoo u hu
   ·exact Nat.mod_lt _ hp
  ·have hil:k0+i<o.length:=by omega
   refine(Pl.set_cg (t:=(p-f)*y0) hil hv ?_).congr (fun _=>rfl) (fun x=>?_)
   ·rw[hz]
    simpa using Pl.mod_dvd p (z0+(p-f)*y0)
   ·rw[Pl.en_take_succ,hy,Int.natCast_mul,Int.pow_add]
    simp only[Option.getD_some]
    grind
  ·intro o' e' S2 q1 q2 q3 q4 q5 q6 q7 q8 q9 q10
   exact hk o' e' S2 (by simpa using q1) q2 q3 q4 q5 q6 q7 q8 q9 q10
theorem neg_f{p f:Nat}{A:Int→Int}{B:Int→Int}(hf:f≤p)(hB:PF B){R:Int→Int}(h:Cg p R (fun x=>A x+((p-f:Nat):Int)*B x)):Cg p R (fun x=>A x-f*B x):=by
 refine h.trans ⟨B,hB,fun x=>?_⟩
 have:((p-f:Nat):Int)=(p:Int)-f:=by omega
 rw[this];grind
theorem fdiv_loop:∀(n:Nat) (r ql b:List Nat) (cb:VC) (N p iv bl:Nat) (A:Int→Int) (S:Zt) (e:En) (k:X→En→Zt→Prop),r.length=n→IsP p→p≤2147483647→Rd p r→Rd p b→b≠[]→r.length≤N→N<400000→b.length<400000→ql.length=N+1-b.length→(∀x∈ql,x<p)→
  (∀j,j+b.length≤r.length→ql[j]?.getD 0=0)→b[b.length-1]?=some bl→iv<p→(p:Int)∣(iv:Int)*(bl:Int)-1→Cg p A (fun x=>en ql x*en b x+en r x)→
  e 2=.vsl (u64s b) cb→e 3=.optr 0 0 0→e 8=.int .u64 (iv:Int)→Own S (e 1) 1 (u64s r) 1→Own S (e 10) 1 (u64s ql) 1→Dj (e 1) (e 10)→S[0]?=some (.cells [rg p] true)→
  (∀(r' ql':List Nat) (e':En) (S':Zt),r'.length<b.length→ql'.length=N+1-b.length→Rd p r'→(∀x∈ql',x<p)→Cg p A (fun x=>en ql' x*en b x+en r' x)→e' 3=.optr 0 0 0→Own S' (e' 1) 1 (u64s r') 1→Own S' (e' 10) 1 (u64s ql') 1→Dj (e' 1) (e' 10)→S'[0]?=some (.cells [rg p] true)→k (.exit 0) e' S')→
  DenP cT 99 (.loop L64_0) e S k:=by
 intro n
 induction n using Nat.strongRecOn with
 |ind n ih=>
  intro r ql b cb N p iv bl A S e k hn hp hp2 hr hb hb0 hrN hN hbN hql hqlp hz hbl hiv hdv hA h2 h3 h8 hO hq hdj h0 hk
  have hp1:=hp.1
  have lr:lenS y100 (e 1)=some (.int .i64 (r.length:Int)):=by rw[hO.len rfl,u64s_len]
  refine L64_0_ok ?_
  unfold TL64_0
  simp only[lr,h2,h3,h8,len100,b_geq,ws,b_sub]
  by_cases hge:b.length≤r.length
  ·rw[decide_eq_true (by omega),condP_t]
   have hbp:0<b.length:=List.length_pos_iff.2 hb0
   obtain⟨rl,hrl⟩:∃x,r[r.length-1]?=some x:=⟨r[r.length-1]'(by omega),by simp⟩
   have hrlp:=hr.1 _ (List.mem_of_getElem? hrl)
   have e1:wrS .i64 ((r.length:Int)-(b.length:Int))=((r.length-b.length:Nat):Int):=by rw[wrap64 (by omega) (by omega)];omega
   rw[e1,pI (by omega) (by omega)]
   refine Own.get (j:=y25) (e:=.int .u64 (rl:Int)) (w:=.int .u64 (rl:Int)) hO rfl rfl (by decide) (u64s_get hrl) rfl (fun pp=>?_)
   simp only[ws,b_mul,fa_rg]
   rw[mulU (by omega) (by omega)]
   refine wo (ld_p h0) ?_
   refine wo (b_remN (by omega)) ?_
   have hflt:=Nat.mod_lt (rl*iv) (show 0<p by omega)
   have hfd:=Pl.quo_dvd (r:=rl) hdv
   generalize hf:rl*iv%p=f at hflt hfd ⊢
   have hkq:r.length-b.length<ql.length:=by omega
   have hz0:=hz (r.length-b.length) (by omega)
   have hq0:ql[r.length-b.length]?=some 0:=by
    rw[List.getElem?_eq_getElem hkq]at hz0 ⊢
    simpa using hz0
   refine Own.put (j:=y25) (e:=.int .u64 ((0:Nat):Int)) (e':=.int .u64 (f:Int)) hq rfl rfl (by decide) (u64s_get hq0) rfl rfl rfl (fun pp S1 hq1 hon hl1=>?_)
   rw[u64s_set]at hq1
   refine fdiv_inner b.length b r (ql.set (r.length-b.length) f) cb 0 (r.length-b.length) p f (en r) S1 _ _ (by omega) (by omega) (by omega) (by omega) hp2 hflt hb.1 hr.1 h3 rfl rfl rfl rfl rfl (hO.only hon (dj_symm hdj)) hq1 hdj (hon.at hq (by decide) h0) (Cg.of_eq (fun x=>by simp[Pl.en_nil])) ?_
   intro o' e' S2 q1 q2 q3 q4 q5 q6 q7 q8 q9 q10
   refine K64_1e2_ok ?_
   unfold TK64_1e2
   have q9':e' 3=.optr 0 0 0:=q9.trans h3
   rw[q9']
   refine wo (ld_rg q7) ?_
   refine f_trimO q4 (by omega) (by omega) (fun v' S3 hO3 hon3 _=>?_)
   have hq3:=q5.only hon3 q6
   have h03:=hon3.at q4 (by decide) q7
   have hr':=Pl.tm_rd (p:=p) (by omega) o'
   have hrc2:Cg p (en (tm p o')) (fun x=>en r x-f*x^(r.length-b.length)*en b x):=by
    have h1:Cg p (en (tm p o')) (fun x=>en r x+((p-f:Nat):Int)*(x^(r.length-b.length)*en b x)):=((Pl.tm_cg p o').trans q3).congr (fun _=>rfl) (fun x=>by rw[Int.mul_assoc])
    exact(neg_f (by omega) ((PF.pow _).mul (PF.en b)) h1).congr (fun _=>rfl) (fun x=>by rw[Int.mul_assoc])
   have hlen':(tm p o').length<r.length:=by
    refine Pl.div_less (k:=r.length-b.length) (f:=f) (a:=r) (b:=b) (by omega) hr' hb0 (by omega) ?_ hrc2
    rw[hrl,hbl];simpa using hfd
   have hvd:=dj_new hO3 q5
   refine ih (tm p o').length (by omega) (tm p o') (ql.set (r.length-b.length) f) b cb N p iv bl A S3 _ k rfl hp hp2 hr' hb hb0 (by omega) hN hbN (by simpa using hql) ?_ ?_ hbl hiv hdv (Pl.div_step hkq hz0 hrc2 hA) (q8.trans h2) q9' (q10.trans h8) (hO3.mono (by have:=q4.lt;omega)) hq3 hvd h03 hk
   ·intro u hu
    rcases List.mem_or_eq_of_mem_set hu with hu|rfl
    ·exact hqlp u hu
    ·exact hflt
   ·intro j hj
    rw[List.getElem?_set,if_neg (by omega)]
    exact hz j (by omega)
  ·rw[decide_eq_false (by omega),cf_]
   exact hk r ql _ S (by omega) hql hr hqlp hA h3 hO hq hdj h0
theorem frz_own11{S:Zt}{v:SV}{l:List Nat}{b:Nat}(h:Own S v 1 (u64s l) b):∃c,frz S 11 v=some (.vsl (u64s l) c):=by
 obtain⟨id,cap,rest,rfl,hS,_⟩:=h
 refine⟨if cap=some (u64s l).length then .exact else .loose,?_⟩
 show(match S[id]? with
   |some (.cells es' _)=>if 0+(u64s l).length≤es'.length then(((es'.drop 0).take (u64s l).length).mapM (frz S 10)).map fun xs=>SV.vsl xs (if cap=some (u64s l).length then .exact else .loose)else none
   |_=>none)=_
 rw[hS]
 have hz:∀e∈u64s l,∃k n,e=SV.int k n:=fun e he=>by
  simp only[u64s,List.mem_map]at he
  obtain⟨d,_,rfl⟩:=he
  exact⟨_,_,rfl⟩
 have e1:((u64s l++rest).drop 0).take (u64s l).length=u64s l:=by simp
 simp only[e1,frz_ints (S:=S) (d:=9) hz,Option.map_some]
 rw[if_pos (by simp)]
theorem f_div{a b:List Nat}{c d:VC}{p:Nat}{Q:SV→Prop}(hla:a.length<400000)(hlb:b.length<400000)(hp:IsP p)(hp2:p≤2147483647)(hb:Rd p b)(hb0:b≠[])
  (h:∀q r c1 c2,IsDiv p (en a) b q r→Q (.tup [.vsl (u64s q) c1,.vsl (u64s r) c2])):wpO (pW cT 64 [rg p,.vsl (u64s a) c,.vsl (u64s b) d]) Q:=by
 have hp1:=hp.1
 have hbp:0<b.length:=List.length_pos_iff.2 hb0
 refine po rfl (F64_ok (k:=fun v S=>wpO (frz S dS v) Q) ?_)
 unfold F64
 iterate 2 refine wo rfl ?_
 refine f_trimV (by omega) (by omega) (fun v1 S1 hO1 hon1 hl1=>?_)
 have h01:S1[0]?=some (.cells [rg p] true):=hon1.atv rfl
 have htl:=Pl.tm_len p a
 obtain⟨bl,hbl⟩:∃x,b[b.length-1]?=some x:=⟨b[b.length-1]'(by omega),by simp⟩
 simp only[len100,b_sub,ws]
 rw[pI (by omega) (by omega)]
 refine wo (idx100 hbl) ?_
 simp only[ld25,ws]
 refine wo fa_rg ?_
 refine wo (ld_p h01) ?_
 have hnd:¬p∣bl:=by have:=hb.lead hb0;rw[hbl]at this;exact this
 refine cpu rfl rfl (m_inv hp hp2 hnd fun iv hiv=>?_)
 iterate 2 refine wo rfl ?_
 refine wo (hO1.len rfl) ?_
 simp only[u64s_len,b_sub,b_add,ws,max_2]
 have e1:max (wrS .i64 (wrS .i64 (((tm p a).length:Int)-(b.length:Int))+1)) 0=(((tm p a).length+1-b.length:Nat):Int):=by
  rw[wrap64 (n:=((tm p a).length:Int)-(b.length:Int)) (by omega) (by omega),wrap64 (by omega) (by omega)];omega
 rw[e1]
 refine Own.mk (by decide) rfl (by unfold roomS;omega) (by show _*8≤_;unfold roomS;omega) (fun v S2 hO hK hl=>?_)
 have hO':Own S2 v 1 (u64s (List.replicate ((tm p a).length+1-b.length) 0)) S1.length:=by rw[←u64s_zeros];exact hO.own
 have hr:=Pl.tm_rd (p:=p) (by omega) a
 have hcg:=Pl.tm_cg p a
 have hO1':Own S2 v1 1 (u64s (tm p a)) 1:=(hO1.mono (by simp)).kp hK (Nat.le_refl _)
 have hdj:Dj v1 v:=dj_symm (dj_new hO' hO1)
 generalize tm p a=r0 at htl hO' hO1' hr hcg ⊢
 have hS0:S2[0]?=some (.cells [rg p] true):=hK.at (at_lt h01) h01
 refine fdiv_loop r0.length r0 (List.replicate (r0.length+1-b.length) 0) b d r0.length p iv bl (en a) S2 _ _ rfl hp hp2 hr hb hb0 (Nat.le_refl _) (by omega) hlb (by simp) (fun x hx=>by rw[(List.mem_replicate.1 hx).2];omega) ?_ hbl hiv.1 hiv.2 ?_ rfl rfl rfl hO1' (hO'.mono (by rw[hl1];simp)) hdj hS0 ?_
 ·intro j hj
  rw[List.getElem?_replicate]
  split<;>rfl
 ·refine hcg.symm.congr (fun _=>rfl) (fun x=>?_)
  have:=Pl.en_shift (r0.length+1-b.length) [] x
  rw[List.append_nil,Pl.en_nil]at this
  rw[this];simp
 ·intro r' ql' e' S' hlt hlq hr' hqp hA h3 hOr hOq hdj' h0
  refine K64_0e0_ok ?_
  unfold TK64_0e0
  rw[h3]
  refine wo (ld_rg h0) ?_
  refine f_trimO hOq (by omega) (by omega) (fun v3 S3 hO3 hon3 _=>?_)
  obtain⟨c1,hc1⟩:=frz_own11 hO3
  obtain⟨c2,hc2⟩:=frz_own11 (hOr.only hon3 (dj_symm hdj'))
  have hf:frz S3 dS (.tup [v3,e' 1])=some (.tup [.vsl (u64s (tm p ql')) c1,.vsl (u64s r') c2]):=by
   show([v3,e' 1].mapM (frz S3 11)).map SV.tup=_
   simp only[List.mapM_cons,List.mapM_nil,hc1,hc2]
   rfl
  refine wo hf ?_
  refine h _ _ _ _ ⟨Pl.tm_rd (by omega) _,hr',?_,hlt⟩
  have:=((Pl.tm_cg p ql').symm.mul (Cg.refl p (en b)) (PF.en _) (PF.en b)).add (Cg.refl p (en r'))
  exact hA.trans this
theorem f_rem{a b:List Nat}{c d:VC}{p:Nat}{Q:SV→Prop}(hla:a.length<400000)(hlb:b.length<400000)(hp:IsP p)(hp2:p≤2147483647)(hb:Rd p b)(hb0:b≠[])
  (h:∀q r c2,IsDiv p (en a) b q r→Q (.vsl (u64s r) c2)):wpO (pW cT 132 [rg p,.vsl (u64s a) c,.vsl (u64s b) d]) Q:=by
 refine po rfl (F132_ok (k:=fun v S=>wpO (frz S dS v) Q) ?_)
 unfold F132
 iterate 2 refine wo rfl ?_
 refine cpu rfl rfl (f_div hla hlb hp hp2 hb hb0 fun q r c1 c2 hd=>?_)
 iterate 2 refine wo rfl ?_
 refine wo (frz_pure rfl).1 ?_
 exact h q r c2 hd
theorem f_quo{a b:List Nat}{c d:VC}{p:Nat}{Q:SV→Prop}(hla:a.length<400000)(hlb:b.length<400000)(hp:IsP p)(hp2:p≤2147483647)(hb:Rd p b)(hb0:b≠[])
  (h:∀q r c2,IsDiv p (en a) b q r→Q (.vsl (u64s q) c2)):wpO (pW cT 129 [rg p,.vsl (u64s a) c,.vsl (u64s b) d]) Q:=by
 refine po rfl (F129_ok (k:=fun v S=>wpO (frz S dS v) Q) ?_)
 unfold F129
 iterate 2 refine wo rfl ?_
 refine cpu rfl rfl (f_div hla hlb hp hp2 hb hb0 fun q r c1 c2 hd=>?_)
 iterate 2 refine wo rfl ?_
 refine wo (frz_pure rfl).1 ?_
 exact h q r c1 hd
theorem f_monic{a:List Nat}{c:VC}{p:Nat}{Q:SV→Prop}(hla:a.length<400000)(hp:IsP p)(hp2:p≤2147483647)(ha:Rd p a)
  (h:∀g c',(a=[]→g=[])→(a≠[]→Mo p (a.length-1) g∧∃i j:Int,Cg p (en g) (fun x=>i*en a x)∧(p:Int)∣j*i-1)→Q (.vsl (u64s g) c')):wpO (pW cT 58 [rg p,.vsl (u64s a) c]) Q:=by
 have hp1:=hp.1
 refine po rfl (F58_ok (k:=fun v S=>wpO (frz S dS v) Q) ?_)
 unfold F58
 refine wo rfl ?_
 simp only[len100,b_eql,ws]
 by_cases h0:a=[]
 ·subst h0
  simp only[List.length_nil,Int.natCast_zero,Int.ofNat_zero,decide_true,condP_t]
  exact h [] _ (fun _=>rfl) (fun h=>absurd rfl h)
 ·have hl:0<a.length:=List.length_pos_iff.2 h0
  rw[decide_eq_false (by omega),cf_]
  simp only[b_sub,ws]
  rw[pI (by omega) (by omega)]
  obtain⟨al,hal⟩:∃x,a[a.length-1]?=some x:=⟨a[a.length-1]'(by omega),by simp⟩
  refine wo (idx100 hal) ?_
  simp only[ld25,ws]
  refine wo fa_rg ?_
  refine wo (ld_p rfl) ?_
  have hnd:¬p∣al:=by have:=ha.lead h0;rw[hal]at this;exact this
  refine cpu rfl rfl (m_inv hp hp2 hnd fun iv hiv=>?_)
  iterate 2 refine wo rfl ?_
  refine wo (ld_rg rfl) ?_
  refine Own.bsl1 (j:=y25) (x:=.int .u64 (iv:Int)) (by decide) rfl rfl (by decide) (fun v3 S3 hO3 hK3 hl3=>?_)
  have hO3':OwnA S3 v3 1 (u64s [iv]) _:=hO3
  obtain⟨c3,_,hf3⟩:=fz_own hO3'.own u64s_pure
  refine call_fz3 (b:=0) rfl (fz_pure rfl) ⟨hf3.1,fun _ _=>Nat.zero_le _⟩ (fz_pure rfl) (fun S4 hK4=>?_)
  refine f_mul (by simp;omega) (by omega) hp2 (fun x hx=>by simp at hx;have:=hiv.1;omega) ha.1 (fun m cm hm hml hmc=>?_)
  refine wo (frz_pure rfl).1 ?_
  have hmc2:Cg p (en m) (fun x=>(iv:Int)*en a x):=hmc.congr (fun _=>rfl) (fun x=>by rw[Pl.en_single])
  refine h m cm (fun e=>absurd e h0) (fun _=>⟨Pl.monic_mo (by omega) ha h0 hm (by rw[hal];exact hiv.2) hmc2,(iv:Int),(al:Int),hmc2,?_⟩)
  have:=hiv.2
  rwa [Int.mul_comm]at this
theorem fgcd_loop:∀(n:Nat) (a b:List Nat) (ca cb:VC) (p:Nat) (A B:Int→Int) (S:Zt) (e:En) (k:X→En→Zt→Prop),b.length=n→IsP p→p≤2147483647→Rd p a→Rd p b→a.length<400000→b.length<400000→PF A→PF B→Euc p A B a b→
  e 1=.vsl (u64s a) ca→e 2=.vsl (u64s b) cb→e 3=.optr 0 0 0→S[0]?=some (.cells [rg p] true)→
  (∀(a':List Nat) (ca':VC) (e':En),Rd p a'→a'.length<400000→Euc p A B a' []→e' 1=.vsl (u64s a') ca'→e' 3=.optr 0 0 0→k (.exit 0) e' S)→
  DenP cT 18 (.loop L98_0) e S k:=by
 intro n
 induction n using Nat.strongRecOn with
 |ind n ih=>
  intro a b ca cb p A B S e k hn hp hp2 ha hb hla hlb hA hB hE h1 h2 h3 h0 hk
  refine L98_0_ok ?_
  unfold TL98_0
  simp only[h1,h2,h3,len100,b_gtr,ws]
  by_cases hb0:b=[]
  ·subst hb0
   simp only[List.length_nil]
   rw[decide_eq_false (by simp),cf_]
   exact hk a ca _ ha hla hE h1 h3
  ·have hl:0<b.length:=List.length_pos_iff.2 hb0
   rw[decide_eq_true (by omega),condP_t]
   refine wo (ld_rg h0) ?_
   refine cpu rfl rfl (f_rem hla hlb hp hp2 hb hb0 fun q r c2 hd=>?_)
   have:=hd.less
   exact ih r.length (by omega) b r cb c2 p A B S _ k rfl hp hp2 hb hd.hr hlb (by omega) hA hB (hE.step hA hB hd) rfl rfl h3 h0 hk
theorem f_gcd{a b:List Nat}{c d:VC}{p:Nat}{Q:SV→Prop}(hla:a.length<400000)(hlb:b.length<400000)(hp:IsP p)(hp2:p≤2147483647)(ha:Rd p a)(hb:Rd p b)
  (h:∀g c',IsGcd p (en a) (en b) g→Q (.vsl (u64s g) c')):wpO (pW cT 98 [rg p,.vsl (u64s a) c,.vsl (u64s b) d]) Q:=by
 refine po rfl (F98_ok (k:=fun v S=>wpO (frz S dS v) Q) ?_)
 unfold F98
 refine wo rfl ?_
 refine fgcd_loop b.length a b c d p (en a) (en b) _ _ _ rfl hp hp2 ha hb hla hlb (PF.en a) (PF.en b) (Euc.start p a b) rfl rfl rfl rfl (fun a' ca' e' ha' hla' hE h1 h3=>?_)
 refine K98_0e0_ok ?_
 unfold TK98_0e0
 rw[h1,h3]
 refine wo (ld_rg rfl) ?_
 refine cpu rfl rfl (f_monic hla' hp hp2 ha' fun g c' h1 h2=>?_)
 refine wo (frz_pure rfl).1 ?_
 by_cases h0:a'=[]
 ·have:=h1 h0
  subst h0;subst this
  exact h [] c' hE.done_nil
 ·obtain⟨hmo,i,j,hc,hd⟩:=h2 h0
  exact h g c' (hE.done hmo hc hd)
def Cf(p:Nat)(G H:Int→Int)(a t:List Nat):Prop:=∃s,PF s∧Cg p (en a) (fun x=>s x*G x+en t x*H x)
theorem Cf.step{p:Nat}{G H:Int→Int}{a b q r t u w z:List Nat}(hG:PF G)(hH:PF H)(ha:Cf p G H a t)(hb:Cf p G H b u)(hd:IsDiv p (en a) b q r)(hw:Cg p (en w) (fun x=>en q x*en u x))(hz:Cg p (en z) (fun x=>en t x-en w x)):Cf p G H r z:=by
 obtain⟨s1,hs1,e1⟩:=ha
 obtain⟨s2,hs2,e2⟩:=hb
 refine⟨fun x=>s1 x-en q x*s2 x,hs1.sub ((PF.en q).mul hs2),?_⟩
 have er:Cg p (en r) (fun x=>en a x-en q x*en b x):=by
  have:=hd.eq.symm.sub (Cg.refl p (fun x=>en q x*en b x))
  exact this.congr (fun x=>by grind) (fun _=>rfl)
 have h1:=er.trans (e1.sub ((Cg.refl p (en q)).mul e2 (PF.en q) ((hs2.mul hG).add ((PF.en u).mul hH))))
 have h2:Cg p (en z) (fun x=>en t x-en q x*en u x):=hz.trans ((Cg.refl p (en t)).sub hw)
 have h3:=h2.mul (Cg.refl p H) ((PF.en t).sub ((PF.en q).mul (PF.en u))) hH
 have h4:=h1.trans (((Cg.refl p (fun x=>(s1 x-en q x*s2 x)*G x)).add h3.symm).congr (f2:=fun x=>s1 x*G x+en t x*H x-en q x*(s2 x*G x+en u x*H x)) (fun x=>by grind) (fun _=>rfl))
 exact h4
end Go.Proofs
