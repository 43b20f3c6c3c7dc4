/-
  What the reference's word arithmetic and its integers give.
-/
import Derived.Test.YtilhffelllbggaaGreatShG
import Derived.Test.YtilhffelllbggaaGreatLa
set_option linter.unusedVariables false
set_option linter.unusedSimpArgs false
set_option maxRecDepth 10000
namespace Go.Proofs
open Go.Sh
def u32s(l:List Nat):List SV:=l.map fun (d:Nat)=>SV.int .u32 (d:Int)
@[simp] theorem u32s_len{l:List Nat}:(u32s l).length=l.length:=by simp[u32s]
theorem u32s_get{l:List Nat}{n:Nat}{d:Nat}(h:l[n]?=some d):(u32s l)[n]?=some (.int .u32 (d:Int)):=by simp[u32s,h]
theorem u32s_take{l:List Nat}{n:Nat}:(u32s l).take n=u32s (l.take n):=by simp[u32s,List.map_take]
theorem u32s_append{l m:List Nat}:u32s (l++m)=u32s l++u32s m:=by simp[u32s]
theorem u32s_set{l:List Nat}{n d:Nat}:(u32s l).set n (.int .u32 (d:Int))=u32s (l.set n d):=by simp[u32s,List.map_set]
theorem u32s_zeros{n:Nat}:List.replicate n (SV.int .u32 0)=u32s (List.replicate n 0):=by simp[u32s]
theorem u32s_size{l:List Nat}{c:VC}:sizeIs 1 (.vsl (u32s l) c)=true:=by
 cases l<;>rfl
theorem u32s_pure{l:List Nat}:∀e∈u32s l,pureS e=true:=by
 intro e he
 simp only[u32s,List.mem_map]at he
 obtain⟨d,_,rfl⟩:=he
 rfl
def I(z:Int)(c:VC):SV:=.agg [.bool (decide (z<0)),.vsl (u32s (encN z.natAbs)) c]
@[simp] theorem I_pure{z:Int}{c:VC}:pureS (I z c)=true:=rfl
theorem trim_loop:∀(m:Nat) (l:List Nat) (c:VC) (e:En) (k:X→En→Zt→Prop),e 0=.vsl (u32s l) c→e 3=.int .i64 (m:Int)→m≤l.length→m<9223372036854775808→
  (∀e':En,e' 0=.vsl (u32s l) c→e' 3=.int .i64 ((trimL (l.take m)).length:Int)→k (.exit 0) e' [])→DenP cT 21 (.loop L175_0) e [] k:=by
 intro m
 induction m with
 |zero=>
  intro l c e k h0 h3 hm hs hk
  refine L175_0_ok ?_
  unfold TL175_0
  simp only[h0,h3]
  simp
  exact hk _ h0 h3
 |succ m ih=>
  intro l c e k h0 h3 hm hs hk
  obtain⟨d,hd⟩:∃d,l[m]?=some d:=⟨l[m],by simp⟩
  have ht:l.take (m+1)=l.take m++[d]:=by rw[List.take_add_one,hd];rfl
  rw[ht,trimL_snoc]at hk
  refine L175_0_ok ?_
  unfold TL175_0
  simp only[h0,h3]
  have e2:ixS cT y42 (.vsl (u32s l) c) (.int .i64 (m:Int))=some (.vptr (.int .u32 (d:Int))):=idx_vsl rfl rfl (by decide) (u32s_get hd) rfl
  have e3:ldS y23 [] (.vptr (.int .u32 (d:Int)))=some (.int .u32 (d:Int)):=rfl
  have e4:(0:Int)<(m:Int)+1:=by omega
  by_cases hz:d=0
  ·subst hz
   simp (disch:=omega) [wrap64,e2,e3,e4]
   refine ih l c _ k h0 rfl (by omega) (by omega) (fun e' a b=>hk e' a ?_)
   rw[if_pos rfl];exact b
  ·simp (disch:=omega) [wrap64,e2,e3,e4,hz]
   refine hk _ h0 ?_
   rw[if_neg hz]
   refine h3.trans ?_
   simp
   omega
theorem trimL_take{l:List Nat}:l.take (trimL l).length=trimL l:=by
 induction l using snoc_ind with
 |h0=>rfl
 |h l x ih=>
  rw[trimL_snoc]
  split
  ·have:(trimL l).length≤l.length:=by
    rw[←ih];simp;omega
   rw[List.take_append_of_le_length this,ih]
  ·exact List.take_length
theorem trimL_le{l:List Nat}:(trimL l).length≤l.length:=by
 have:=congrArg List.length (trimL_take (l:=l))
 rw[List.length_take]at this
 omega
theorem c82{l:List Nat}{c:VC}{Q:SV→Prop}(hb:Bd l)(hs:l.length<9223372036854775808)(hc:c=.nil→val l=0)(h:∀c',(c'=.nil→val l=0)→Q (.vsl (u32s (encN (val l))) c')):wpO (pW cT 175 [.vsl (u32s l) c]) Q:=by
 refine po rfl (F175_ok (k:=fun v S=>wpO (frz S dS v) Q) ?_)
 unfold F175
 refine wo (len_vsl rfl) ?_
 refine trim_loop l.length l c _ _ rfl (by simp[ups,upd]) (Nat.le_refl _) hs ?_
 intro e' h0 h3
 rw[List.take_length]at h3
 refine K175_0e0_ok ?_
 unfold TK175_0e0
 rw[h0,h3]
 obtain⟨c',hn,he⟩:=slic_v (j:=y23) (es:=u32s l) (c:=c) (k:=.i64) (n:=(trimL l).length) (by decide) u32s_size (by simp;exact trimL_le)
 refine wo he ?_
 rw[u32s_take,trimL_take,trimL_enc hb]
 exact h c' (fun e=>hc (hn e))
theorem c39{b:Bool}{l:List Nat}{c:VC}{Q:SV→Prop}(hb:Bd l)(hs:l.length<9223372036854775808)(hc:c=.nil→val l=0)(h:∀c',(c'=.nil→val l=0)→Q (.agg [.bool (b&&decide (0<val l)),.vsl (u32s (encN (val l))) c'])):wpO (pW cT 110 [.bool b,.vsl (u32s l) c]) Q:=by
 refine po rfl (F110_ok (k:=fun v S=>wpO (frz S dS v) Q) ?_)
 unfold F110
 refine wo rfl ?_
 refine cpu rfl rfl (c82 hb hs hc fun c' hc'=>?_)
 cases b with
 |false=>
  refine grdF rfl (grdF rfl (grdF rfl ?_))
  iterate 4 refine wo rfl ?_
  exact h c' hc'
 |true=>
  refine grdT rfl (grdT rfl (wo (len_vsl rfl) (grdT rfl ?_)))
  simp only[u32s_len,b_gtr,ws,pickS_t]
  iterate 3 refine wo rfl ?_
  have e0:decide ((0:Int)<((encN (val l)).length:Int))=decide (0<val l):=by
   have:=enc_len_pos (n:=val l)
   by_cases hv:0<val l
   ·rw[decide_eq_true hv,decide_eq_true (by have:=this.2 hv;omega)]
   ·rw[decide_eq_false hv,decide_eq_false (by intro h2;exact hv (this.1 (by omega)))]
  have:=h c' hc'
  rw[Bool.true_and,←e0]at this
  exact this
theorem c115{l:List Nat}{c:VC}{i:Nat}{Q:SV→Prop}(hb:Bd l)(h:Q (.int .u64 ((l[i]?.getD 0:Nat):Int))):wpO (pW cT 176 [.vsl (u32s l) c,.int .i64 (i:Int)]) Q:=by
 refine po rfl (F176_ok (k:=fun v S=>wpO (frz S dS v) Q) ?_)
 unfold F176
 refine wo (len_vsl rfl) ?_
 simp only[u32s_len,b_lss,ws]
 refine condP_dec (fun hi=>?_) (fun hi=>?_)
 ·obtain⟨d,hd⟩:∃d,l[i]?=some d:=⟨l[i]'(by omega),by simp⟩
  rw[hd]at h
  have:=hb.get hd
  refine wo (idx_vsl (j:=y23) rfl rfl (by decide) (u32s_get hd) rfl) ?_
  refine wo rfl ?_
  refine wo (conv_int rfl rfl) ?_
  rw[wrapU64 (by omega) (by omega)]
  exact h
 ·have:l[i]?=none:=by rw[List.getElem?_eq_none_iff];omega
  rw[this]at h
  exact h
theorem c110{l:List Nat}{c:VC}{Q:SV→Prop}(hb:Bd l)(hl:l.length≤2)(h:Q (.int .u64 ((val l:Nat):Int))):wpO (pW cT 218 [.vsl (u32s l) c]) Q:=by
 refine po rfl (F218_ok (k:=fun v S=>wpO (frz S dS v) Q) ?_)
 unfold F218
 refine cpu rfl rfl (c115 (i:=1) hb ?_)
 have h1:=hb.getD 1
 have h0:=hb.getD 0
 simp only[b_mul,ws]
 refine cpu rfl rfl (c115 (i:=0) hb ?_)
 simp only[b_add,ws]
 rw[wrapU64 (n:=_*_) (by omega) (by omega),wrapU64 (by omega) (by omega)]
 have hv:val l=l[1]?.getD 0*4294967296+l[0]?.getD 0:=by
  match l,hl with
  |[],_=>rfl
  |[a],_=>simp[val]
  |[a,b],_=>simp[val];omega
 have e0:((l[1]?.getD 0:Nat):Int)*4294967296+((l[0]?.getD 0:Nat):Int)=((val l:Nat):Int):=by rw[hv];omega
 rw[e0]
 exact h
theorem c67{n:Nat}{Q:SV→Prop}(hn:n<18446744073709551616)(h:∀c',(c'=.nil→n=0)→Q (.vsl (u32s (encN n)) c')):wpO (pW cT 115 [.int .u64 (n:Int)]) Q:=by
 refine po rfl (F115_ok (k:=fun v S=>wpO (frz S dS v) Q) ?_)
 unfold F115
 refine wo (b_rem (by decide)) ?_
 refine wo (conv_int rfl rfl) ?_
 refine wo (b_quo (by decide)) ?_
 refine wo (conv_int rfl rfl) ?_
 refine wo rfl ?_
 have e1:wrS .u32 ((n:Int).tmod 4294967296)=((n%4294967296:Nat):Int):=by
  rw[Int.tmod_eq_emod_of_nonneg (by omega),wrapU32 (by omega) (by omega)];omega
 have e2:wrS .u32 (wrS .u64 ((n:Int).tdiv 4294967296))=((n/4294967296:Nat):Int):=by
  rw[Int.tdiv_eq_ediv_of_nonneg (by omega),wrapU64 (by omega) (by omega),wrapU32 (by omega) (by omega)];omega
 refine call_row (es:=u32s [n%4294967296,n/4294967296]) rfl (by rw[e1,e2];rfl) rfl u32s_pure ?_
 refine c82 (Bd.cons (by omega) (Bd.cons (by omega) Bd.nil)) (by simp) capM fun c' hc'=>?_
 have hv:val [n%4294967296,n/4294967296]=n:=by simp[val];omega
 rw[hv]at hc' ⊢
 exact h c' hc'
def cmp3(a b:Nat):Int:=if a<b then -1 else if b<a then 1 else 0
theorem val_take_lt{l m:List Nat}(hl:Bd l)(hm:Bd m){i x y:Nat}(hx:l[i]?=some x)(hy:m[i]?=some y)(h:x<y):val (l.take (i+1))<val (m.take (i+1)):=by
 rw[val_take_succ,val_take_succ,hx,hy]
 simp only[Option.getD_some]
 have h1:=val_lt (hl.take i)
 have hle:(l.take i).length≤i:=by simp;omega
 have h2:4294967296^(l.take i).length≤4294967296^i:=Nat.pow_le_pow_right (by decide) hle
 have h3:4294967296^i*(x+1)≤4294967296^i*y:=Nat.mul_le_mul_left _ h
 rw[Nat.mul_add]at h3
 omega
theorem cmp_loop:∀(m:Nat) (l r:List Nat) (c d:VC) (e:En) (k:X→En→Zt→Prop),e 0=.vsl (u32s l) c→e 1=.vsl (u32s r) d→e 5=.int .i64 ((m:Int)-1)→l.length=r.length→m≤l.length→m<9223372036854775808→Bd l→Bd r→
  (∀(e':En),e' 4=.int .i64 (cmp3 (val (l.take m)) (val (r.take m)))→(cmp3 (val (l.take m)) (val (r.take m))≠0→k .ret e' [])∧(cmp3 (val (l.take m)) (val (r.take m))=0→k (.exit 0) e' []))→
  e 4=.int .i64 0→DenP cT 41 (.loop L112_0) e [] k:=by
 intro m
 induction m with
 |zero=>
  intro l r c d e k h0 h1 h5 hlr hm hs hbl hbr hk h4
  refine L112_0_ok ?_
  unfold TL112_0
  simp only[h0,h1,h5,b_geq,ws]
  refine cndF rfl ?_
  refine(hk _ ?_).2 rfl
  exact h4
 |succ m ih=>
  intro l r c d e k h0 h1 h5 hlr hm hs hbl hbr hk h4
  obtain⟨x,hx⟩:∃d,l[m]?=some d:=⟨l[m]'(by omega),by simp⟩
  obtain⟨y,hy⟩:∃d,r[m]?=some d:=⟨r[m]'(by omega),by simp⟩
  have e5:((m+1:Nat):Int)-1=(m:Int):=by omega
  rw[e5]at h5
  have i0:ixS cT y42 (.vsl (u32s l) c) (.int .i64 (m:Int))=some (.vptr (.int .u32 (x:Int))):=idx_vsl rfl rfl (by decide) (u32s_get hx) rfl
  have i1:ixS cT y42 (.vsl (u32s r) d) (.int .i64 (m:Int))=some (.vptr (.int .u32 (y:Int))):=idx_vsl rfl rfl (by decide) (u32s_get hy) rfl
  have ld:∀z:Nat,ldS y23 [] (.vptr (.int .u32 (z:Int)))=some (.int .u32 (z:Int)):=fun z=>rfl
  refine L112_0_ok ?_
  unfold TL112_0
  simp only[h0,h1,h5,b_geq,ws,i0,i1,ld,b_lss,b_gtr]
  refine condP_dec (fun _=>?_) (fun h=>absurd (by omega) h)
  refine condP_dec (fun hlt=>?_) (fun hnl=>?_)
  ·have hv:=val_take_lt hbl hbr hx hy (by omega)
   have hc:cmp3 (val (l.take (m+1))) (val (r.take (m+1)))=-1:=by unfold cmp3;rw[if_pos hv]
   refine(hk _ ?_).1 (by rw[hc];decide)
   rw[hc];rfl
  ·refine condP_dec (fun hgt=>?_) (fun hng=>?_)
   ·have hv:=val_take_lt hbr hbl hy hx (by omega)
    have hc:cmp3 (val (l.take (m+1))) (val (r.take (m+1)))=1:=by unfold cmp3;rw[if_neg (by omega),if_pos hv]
    refine(hk _ ?_).1 (by rw[hc];decide)
    rw[hc];rfl
   ·have hxy:x=y:=by omega
    have hc:cmp3 (val (l.take (m+1))) (val (r.take (m+1)))=cmp3 (val (l.take m)) (val (r.take m)):=by
     rw[val_take_succ,val_take_succ,hx,hy,hxy]
     unfold cmp3
     simp
    rw[hc]at hk
    simp only[b_sub,ws]
    refine ih l r c d _ k h0 h1 ?_ hlr (by omega) (by omega) hbl hbr hk h4
    rw[wrap64 (by omega) (by omega)]
    rfl
theorem enc_len_lt{a b:Nat}(h:(encN a).length<(encN b).length):a<b:=by
 rcases Nat.lt_or_ge a b with h1|h1
 ·exact h1
 ·have:=enc_len_mono h1;omega
theorem c40{a b:Nat}{c d:VC}{Q:SV→Prop}(ha:(encN a).length<9223372036854775808)(hb:(encN b).length<9223372036854775808)(h:Q (.int .i64 (cmp3 a b))):wpO (pW cT 112 [.vsl (u32s (encN a)) c,.vsl (u32s (encN b)) d]) Q:=by
 refine po rfl (F112_ok (k:=fun v S=>wpO (frz S dS v) Q) ?_)
 unfold F112
 have len:∀l c,lenS y42 (.vsl (u32s l) c)=some (.int .i64 (l.length:Int)):=fun l c=>by rw[len_vsl rfl,u32s_len]
 simp only[len,b_lss,b_gtr,ws]
 refine condP_dec (fun h1=>?_) (fun h1=>?_)
 ·have:=enc_len_lt (a:=a) (b:=b) (by omega)
  have hc:cmp3 a b=-1:=by unfold cmp3;rw[if_pos this]
  rw[hc]at h
  exact h
 ·refine condP_dec (fun h2=>?_) (fun h2=>?_)
  ·have:=enc_len_lt (a:=b) (b:=a) (by omega)
   have hc:cmp3 a b=1:=by unfold cmp3;rw[if_neg (by omega),if_pos this]
   rw[hc]at h
   exact h
  ·simp only[b_sub,ws]
   rw[wrap64 (by omega) (by omega)]
   have hlen:(encN a).length=(encN b).length:=by omega
   refine cmp_loop (encN a).length (encN a) (encN b) c d _ _ rfl rfl rfl hlen (Nat.le_refl _) ha (encN_bd a) (encN_bd b) (fun e' h4=>?_) rfl
   have t2:(encN b).take (encN a).length=encN b:=by rw[hlen];exact List.take_length
   rw[List.take_length,t2,encN_val,encN_val]at h4 ⊢
   refine⟨fun _=>K112_0r_ok ?_,fun hz=>K112_0e0_ok ?_⟩
   ·unfold TK112_0r
    rw[h4];exact h
   ·unfold TK112_0e0
    rw[hz]at h;exact h
theorem lowW{t:Nat}(h:t<18446744073709551616):wrS .u32 ((t:Int).tmod 4294967296)=((t%4294967296:Nat):Int):=by
 rw[Int.tmod_eq_emod_of_nonneg (by omega),wrapU32 (by omega) (by omega)];omega
theorem highW{t:Nat}(h:t<18446744073709551616):wrS .u64 ((t:Int).tdiv 4294967296)=((t/4294967296:Nat):Int):=by
 rw[Int.tdiv_eq_ediv_of_nonneg (by omega),wrapU64 (by omega) (by omega)];omega
theorem carry_le{x y c:Nat}(hx:x<4294967296)(hy:y<4294967296)(hc:c≤1):(x+y+c)/4294967296≤1:=by omega
theorem sum_lt{x y c:Nat}(hx:x<4294967296)(hy:y<4294967296)(hc:c≤1):x+y+c<18446744073709551616:=by omega
theorem row_set{o:List Nat}{n d:Nat}:(o++List.replicate (n+1) 0).set o.length d=(o++[d])++List.replicate n 0:=by
 rw[List.set_append_right _ _ (Nat.le_refl _),Nat.sub_self,List.replicate_succ,List.set_cons_zero]
 simp
theorem add_loop:∀(m:Nat) (a b o:List Nat) (c d:VC) (n:Nat) (cy:Nat) (e:En) (k:X→En→Zt→Prop),o.length+m=n→Bd a→Bd b→Bd o→cy≤1→n<70368744177664→
  e 0=.vsl (u32s a) c→e 1=.vsl (u32s b) d→e 5=.int .i64 (n:Int)→e 6=.osl 0 1 0 n (some n)→e 7=.int .u64 (cy:Int)→e 8=.int .i64 (o.length:Int)→
  val o+4294967296^o.length*cy=val (a.take o.length)+val (b.take o.length)→
  (∀(o':List Nat) (cy':Nat) (e':En),o'.length=n→Bd o'→cy'≤1→val o'+4294967296^n*cy'=val (a.take n)+val (b.take n)→e' 6=.osl 0 1 0 n (some n)→k (.exit 0) e' [.cells (u32s o') true])→
  DenP cT 42 (.loop L111_0) e [.cells (u32s (o++List.replicate m 0)) true] k:=by
 intro m
 induction m with
 |zero=>
  intro a b o c d n cy e k hn ha hb ho hc hs h0 h1 h5 h6 h7 h8 hv hk
  refine L111_0_ok ?_
  unfold TL111_0
  simp only[h5,h8,b_lss,ws]
  refine condP_dec (fun h=>by omega) (fun _=>?_)
  have hl:o.length=n:=by omega
  rw[hl]at hv
  rw[List.replicate_zero,List.append_nil]
  exact hk o cy _ hl ho hc hv h6
 |succ m ih=>
  intro a b o c d n cy e k hn ha hb ho hc hs h0 h1 h5 h6 h7 h8 hv hk
  refine L111_0_ok ?_
  unfold TL111_0
  simp only[h0,h1,h5,h6,h7,h8,b_lss,ws]
  refine condP_dec (fun _=>?_) (fun h=>absurd (by omega) h)
  refine cpu rfl rfl (c115 ha ?_)
  refine cpu rfl rfl (c115 hb ?_)
  have hx:=ha.getD o.length
  have hy:=hb.getD o.length
  have hvt:=val_take_succ a o.length
  have hvu:=val_take_succ b o.length
  generalize a[o.length]?.getD 0=x at hx hvt ⊢
  generalize b[o.length]?.getD 0=y at hy hvu ⊢
  simp only[b_add,ws]
  rw[wrapU64 (n:=(x:Int)+y) (by omega) (by omega),wrapU64 (by omega) (by omega)]
  have et:(x:Int)+y+cy=((x+y+cy:Nat):Int):=by omega
  rw[et]
  refine wo (b_rem (by decide)) ?_
  refine wo (conv_int rfl rfl) ?_
  have e1:=lowW (sum_lt hx hy hc)
  have e2:=highW (sum_lt hx hy hc)
  rw[e1]
  refine wo (idx_osl (j:=y23) rfl rfl (by decide) (by omega) rfl) ?_
  rw[Nat.zero_add]
  refine wo (store_row (es:=u32s (o++List.replicate (m+1) 0)) (e:=.int .u32 0) rfl (by rw[show(0:Int)=((0:Nat):Int) from rfl];exact u32s_get (by rw[List.getElem?_append_right (Nat.le_refl _)];simp)) rfl rfl rfl) ?_
  rw[u32s_set,row_set]
  refine wo (b_quo (by decide)) ?_
  rw[e2,wrap64 (by omega) (by omega)]
  have hlen:(o++[(x+y+cy)%4294967296]).length=o.length+1:=by simp
  refine ih a b (o++[(x+y+cy)%4294967296]) c d n ((x+y+cy)/4294967296) _ k (by rw[hlen];omega) ha hb (ho.snoc (Nat.mod_lt _ (by decide))) (carry_le hx hy hc) hs h0 h1 h5 h6 rfl (by rw[hlen];rfl) ?_ hk
  rw[hlen,val_snoc,hvt,hvu,Nat.pow_succ]
  have hdm:=Nat.div_add_mod (x+y+cy) 4294967296
  generalize (x+y+cy)/4294967296=q at hdm ⊢
  generalize (x+y+cy)%4294967296=r at hdm ⊢
  generalize 4294967296^o.length=P at hv ⊢
  grind
theorem val_take_ge{l:List Nat}{n:Nat}(h:l.length≤n):val (l.take n)=val l:=by rw[List.take_of_length_le h]
theorem c70{a b:Nat}{c d:VC}{Q:SV→Prop}(ha:(encN a).length<17592186044415)(hb:(encN b).length<17592186044415)(h:∀c',(c'=.nil→a+b=0)→Q (.vsl (u32s (encN (a+b))) c')):wpO (pW cT 111 [.vsl (u32s (encN a)) c,.vsl (u32s (encN b)) d]) Q:=by
 refine po rfl (F111_ok (k:=fun v S=>wpO (frz S dS v) Q) ?_)
 unfold F111
 have len:∀l c,lenS y42 (.vsl (u32s l) c)=some (.int .i64 (l.length:Int)):=fun l c=>by rw[len_vsl rfl,u32s_len]
 simp only[len,max_2,b_add,ws]
 rw[wrap64 (by omega) (by omega)]
 have em:max ((encN a).length:Int) ((encN b).length:Int)+1=((max (encN a).length (encN b).length+1:Nat):Int):=by omega
 rw[em]
 generalize hn:max (encN a).length (encN b).length+1=n
 refine wo (mksl_ok (j:=y23) (by decide) rfl (by unfold roomS;omega) (by unfold roomS;show n*4≤_;omega)) ?_
 show DenP cT 42 (.loop L111_0) _ [.cells (List.replicate n (SV.int .u32 0)) true] _
 rw[u32s_zeros]
 refine add_loop n (encN a) (encN b) [] c d n 0 _ _ (by simp) (encN_bd a) (encN_bd b) Bd.nil (by omega) (by omega) rfl rfl rfl rfl rfl rfl (by simp[val]) ?_
 intro o' cy' e' hl hbo hcy hv h6
 rw[val_take_ge (by omega),val_take_ge (by omega),encN_val,encN_val]at hv
 have hc0:cy'=0:=by
  have h1:a<4294967296^(n-1):=Nat.lt_of_lt_of_le enc_lt (Nat.pow_le_pow_right (by decide) (by omega))
  have h2:b<4294967296^(n-1):=Nat.lt_of_lt_of_le enc_lt (Nat.pow_le_pow_right (by decide) (by omega))
  have h3:4294967296^n=4294967296^(n-1)*4294967296:=by rw[←Nat.pow_succ];congr 1;omega
  rcases Nat.eq_zero_or_pos cy' with h|h
  ·exact h
  ·have:cy'=1:=by omega
   rw[this,h3]at hv
   omega
 rw[hc0,Nat.mul_zero,Nat.add_zero]at hv
 refine K111_0e0_ok ?_
 unfold TK111_0e0
 rw[h6]
 refine call_row (es:=u32s o') rfl rfl (by simp[hl]) u32s_pure ?_
 refine c82 hbo (by omega) capM fun c' hc'=>?_
 rw[hv]at hc' ⊢
 exact h c' hc'
theorem len30(l:List Nat)(c:VC):lenS y42 (.vsl (u32s l) c)=some (.int .i64 (l.length:Int)):=by rw[len_vsl rfl,u32s_len]
theorem load108(S:Zt)(z:Nat):ldS y23 S (.vptr (.int .u32 (z:Int)))=some (.int .u32 (z:Int)):=rfl
theorem conv51{z:Nat}(h:z<4294967296):convS y25 (.int .u32 (z:Int))=some (.int .u64 (z:Int)):=by
 rw[conv_int rfl rfl,wrapU64 (by omega) (by omega)]
theorem idx30{l:List Nat}{c:VC}{i d:Nat}(h:l[i]?=some d):ixS cT y42 (.vsl (u32s l) c) (.int .i64 (i:Int))=some (.vptr (.int .u32 (d:Int))):=idx_vsl rfl rfl (by decide) (u32s_get h) rfl
theorem brw_lt{x y w:Nat}(hx:x<4294967296)(hy:y<4294967296)(hw:w≤1):4294967296+x-y-w<18446744073709551616:=by omega
theorem brw_eq{x y w:Nat}(hx:x<4294967296)(hy:y<4294967296)(hw:w≤1):wrS .u64 (wrS .u64 (wrS .u64 (4294967296+(x:Int))-(y:Int))-(w:Int))=((4294967296+x-y-w:Nat):Int):=by
 rw[wrapU64 (n:=4294967296+(x:Int)) (by omega) (by omega),wrapU64 (n:=4294967296+(x:Int)-(y:Int)) (by omega) (by omega),wrapU64 (by omega) (by omega)]
 omega
theorem brw_q{x y w:Nat}(hx:x<4294967296)(hy:y<4294967296)(hw:w≤1):wrS .u64 (1-(((4294967296+x-y-w)/4294967296:Nat):Int))=((1-(4294967296+x-y-w)/4294967296:Nat):Int):=by
 have:(4294967296+x-y-w)/4294967296≤1:=by omega
 rw[wrapU64 (by omega) (by omega)]
 omega
theorem brw_id{x y w:Nat}(hx:x<4294967296)(hy:y<4294967296)(hw:w≤1):(4294967296+x-y-w)%4294967296+y+w=x+4294967296*(1-(4294967296+x-y-w)/4294967296):=by omega
theorem take_loop:∀(m:Nat) (a b o:List Nat) (c d:VC) (n:Nat) (w:Nat) (e:En) (k:X→En→Zt→Prop),o.length+m=n→a.length=n→Bd a→Bd b→Bd o→w≤1→n<70368744177664→
  e 0=.vsl (u32s a) c→e 1=.vsl (u32s b) d→e 5=.osl 0 1 0 n (some n)→e 6=.int .u64 (w:Int)→e 7=.int .i64 (o.length:Int)→
  val o+val (b.take o.length)=val (a.take o.length)+4294967296^o.length*w→
  (∀(o':List Nat) (w':Nat) (e':En),o'.length=n→Bd o'→w'≤1→val o'+val (b.take n)=val (a.take n)+4294967296^n*w'→e' 5=.osl 0 1 0 n (some n)→k (.exit 0) e' [.cells (u32s o') true])→
  DenP cT 41 (.loop L113_0) e [.cells (u32s (o++List.replicate m 0)) true] k:=by
 intro m
 induction m with
 |zero=>
  intro a b o c d n w e k hn hal ha hb ho hw hs h0 h1 h5 h6 h7 hv hk
  refine L113_0_ok ?_
  unfold TL113_0
  simp only[h0,h7,len30,b_lss,ws]
  refine condP_dec (fun h=>by omega) (fun _=>?_)
  have hl:o.length=n:=by omega
  rw[hl]at hv
  rw[List.replicate_zero,List.append_nil]
  exact hk o w _ hl ho hw hv h5
 |succ m ih=>
  intro a b o c d n w e k hn hal ha hb ho hw hs h0 h1 h5 h6 h7 hv hk
  refine L113_0_ok ?_
  unfold TL113_0
  simp only[h0,h1,h5,h6,h7,len30,b_lss,ws]
  refine condP_dec (fun _=>?_) (fun h=>absurd (by omega) h)
  obtain⟨x,hax⟩:∃x,a[o.length]?=some x:=⟨a[o.length]'(by omega),by simp⟩
  have hx:=ha.get hax
  have hvt:=val_take_succ a o.length
  rw[hax]at hvt
  simp only[Option.getD_some]at hvt
  simp only[idx30 hax,load108,conv51 hx,b_add,ws]
  refine cpu rfl rfl (c115 hb ?_)
  have hy:=hb.getD o.length
  have hvu:=val_take_succ b o.length
  generalize b[o.length]?.getD 0=y at hy hvu ⊢
  simp only[b_sub,ws]
  rw[brw_eq hx hy hw]
  have hid:=brw_id hx hy hw
  have hq:=brw_q hx hy hw
  have hlt:=brw_lt hx hy hw
  generalize 4294967296+x-y-w=t at hid hq hlt ⊢
  refine wo (b_rem (by decide)) ?_
  refine wo (conv_int rfl rfl) ?_
  rw[lowW hlt]
  refine wo (idx_osl (j:=y23) rfl rfl (by decide) (by omega) rfl) ?_
  rw[Nat.zero_add]
  refine wo (store_row (es:=u32s (o++List.replicate (m+1) 0)) (e:=.int .u32 0) rfl (by rw[show(0:Int)=((0:Nat):Int) from rfl];exact u32s_get (by rw[List.getElem?_append_right (Nat.le_refl _)];simp)) rfl rfl rfl) ?_
  rw[u32s_set,row_set]
  refine wo (b_quo (by decide)) ?_
  rw[highW hlt]
  simp only[b_sub,ws]
  rw[hq,wrap64 (by omega) (by omega)]
  have hlen:(o++[t%4294967296]).length=o.length+1:=by simp
  refine ih a b (o++[t%4294967296]) c d n (1-t/4294967296) _ k (by rw[hlen];omega) hal ha hb (ho.snoc (Nat.mod_lt _ (by decide))) (Nat.sub_le _ _) hs h0 h1 h5 rfl (by rw[hlen];rfl) ?_ hk
  rw[hlen,val_snoc,hvt,hvu,Nat.pow_succ]
  generalize 1-t/4294967296=q at hid ⊢
  generalize t%4294967296=r at hid ⊢
  generalize 4294967296^o.length=P at hv ⊢
  grind
theorem c71{a b:Nat}{c d:VC}{Q:SV→Prop}(hle:b≤a)(ha:(encN a).length<17592186044415)(h:∀c',(c'=.nil→a-b=0)→Q (.vsl (u32s (encN (a-b))) c')):wpO (pW cT 113 [.vsl (u32s (encN a)) c,.vsl (u32s (encN b)) d]) Q:=by
 refine po rfl (F113_ok (k:=fun v S=>wpO (frz S dS v) Q) ?_)
 unfold F113
 simp only[len30,ws]
 generalize hn:(encN a).length=n
 refine wo (mksl_ok (j:=y23) (by decide) rfl (by unfold roomS;omega) (by unfold roomS;show n*4≤_;omega)) ?_
 show DenP cT 41 (.loop L113_0) _ [.cells (List.replicate n (SV.int .u32 0)) true] _
 rw[u32s_zeros]
 refine take_loop n (encN a) (encN b) [] c d n 0 _ _ (by simp) hn (encN_bd a) (encN_bd b) Bd.nil (by omega) (by omega) rfl rfl rfl rfl rfl (by simp[val]) ?_
 intro o' w' e' hl hbo hw hv h5
 have hbl:=enc_len_mono hle
 rw[val_take_ge (by omega),val_take_ge (by omega),encN_val,encN_val]at hv
 have hlt:=val_lt hbo
 rw[hl]at hlt
 have hw0:w'=0:=by
  rcases Nat.eq_zero_or_pos w' with h|h
  ·exact h
  ·have:w'=1:=by omega
   rw[this]at hv
   omega
 rw[hw0,Nat.mul_zero,Nat.add_zero]at hv
 refine K113_0e0_ok ?_
 unfold TK113_0e0
 rw[h5]
 refine call_row (es:=u32s o') rfl rfl (by simp[hl]) u32s_pure ?_
 refine c82 hbo (by omega) capM fun c' hc'=>?_
 have:val o'=a-b:=by omega
 rw[this]at hc' ⊢
 exact h c' hc'
theorem short_lt{r x d:Nat}(hr:r<d)(hd:d<4294967296)(hx:x<4294967296):r*4294967296+x<18446744073709551616∧(r*4294967296+x)/d<4294967296:=by
 constructor
 ·omega
 ·rw[Nat.div_lt_iff_lt_mul (by omega)]
  have:(r+1)*4294967296≤d*4294967296:=Nat.mul_le_mul_right _ hr
  omega
theorem short_eq{r x:Nat}(h:r*4294967296+x<18446744073709551616):wrS .u64 (wrS .u64 ((r:Int)*4294967296)+(x:Int))=((r*4294967296+x:Nat):Int):=by
 rw[wrapU64 (n:=(r:Int)*4294967296) (by omega) (by omega),wrapU64 (by omega) (by omega)]
 omega
theorem row_set2{m d:Nat}{q:List Nat}:(List.replicate (m+1) 0++q).set m d=List.replicate m 0++(d::q):=by
 rw[List.set_append_left _ _ (by simp),List.replicate_succ',List.set_append_right _ _ (by simp)]
 simp
theorem drop_val{l:List Nat}{m x:Nat}(h:l[m]?=some x):val (l.drop m)=x+4294967296*val (l.drop (m+1)):=by
 obtain⟨hlt,rfl⟩:=List.getElem?_eq_some_iff.1 h
 rw[List.drop_eq_getElem_cons hlt,val]
theorem divW{t d:Nat}(h:t<18446744073709551616)(hq:t/d<4294967296):wrS .u32 (wrS .u64 ((t:Int).tdiv (d:Int)))=((t/d:Nat):Int):=by
 rw[Int.tdiv_eq_ediv_of_nonneg (by omega)]
 rw[←Int.natCast_ediv]
 generalize t/d=q at hq
 rw[wrapU64 (by omega) (by omega),wrapU32 (by omega) (by omega)]
theorem remW{t d:Nat}:(t:Int).tmod (d:Int)=((t%d:Nat):Int):=by
 rw[Int.tmod_eq_emod_of_nonneg (by omega)];omega
theorem short_loop:∀(m:Nat) (a q:List Nat) (c:VC) (d r n:Nat) (e:En) (k:X→En→Zt→Prop),m+q.length=n→a.length=n→Bd a→Bd q→r<d→d<4294967296→n<70368744177664→
  e 0=.vsl (u32s a) c→e 1=.int .u64 (d:Int)→e 6=.osl 0 1 0 n (some n)→e 7=.int .u64 (r:Int)→e 8=.int .i64 ((m:Int)-1)→
  val (a.drop m)=d*val q+r→
  (∀(q':List Nat) (r':Nat) (e':En),q'.length=n→Bd q'→r'<d→val a=d*val q'+r'→e' 6=.osl 0 1 0 n (some n)→e' 7=.int .u64 (r':Int)→k (.exit 0) e' [.cells (u32s q') true])→
  DenP cT 41 (.loop L219_0) e [.cells (u32s (List.replicate m 0++q)) true] k:=by
 intro m
 induction m with
 |zero=>
  intro a q c d r n e k hn hal ha hq hr hd hs h0 h1 h6 h7 h8 hv hk
  refine L219_0_ok ?_
  unfold TL219_0
  simp only[h8,b_geq,ws]
  refine cndF rfl ?_
  rw[List.replicate_zero,List.nil_append]
  exact hk q r _ (by omega) hq hr hv h6 h7
 |succ m ih=>
  intro a q c d r n e k hn hal ha hq hr hd hs h0 h1 h6 h7 h8 hv hk
  have e8:((m+1:Nat):Int)-1=(m:Int):=by omega
  rw[e8]at h8
  obtain⟨x,hax⟩:∃x,a[m]?=some x:=⟨a[m]'(by omega),by simp⟩
  have hx:=ha.get hax
  refine L219_0_ok ?_
  unfold TL219_0
  simp only[h0,h1,h6,h7,h8,b_geq,ws,idx30 hax,load108,conv51 hx,b_mul,b_add]
  refine condP_dec (fun _=>?_) (fun h=>absurd (by omega) h)
  obtain⟨hlt,hqlt⟩:=short_lt hr hd hx
  rw[short_eq hlt]
  have hdv:=drop_val hax
  rw[hv]at hdv
  have hdm:=Nat.div_add_mod (r*4294967296+x) d
  have hml:(r*4294967296+x)%d<d:=Nat.mod_lt _ (by omega)
  have hnew:val (a.drop m)=d*val (((r*4294967296+x)/d)::q)+(r*4294967296+x)%d:=by
   rw[hdv,val]
   generalize (r*4294967296+x)/d=u at hdm ⊢
   generalize (r*4294967296+x)%d=v at hdm ⊢
   grind
  clear hdm hdv
  generalize r*4294967296+x=t at hlt hqlt hml hnew ⊢
  refine wo (b_quo (by omega)) ?_
  refine wo (conv_int rfl rfl) ?_
  rw[divW hlt hqlt]
  refine wo (idx_osl (j:=y23) rfl rfl (by decide) (by omega) rfl) ?_
  rw[Nat.zero_add]
  refine wo (store_row (es:=u32s (List.replicate (m+1) 0++q)) (e:=.int .u32 0) rfl (by rw[show(0:Int)=((0:Nat):Int) from rfl];exact u32s_get (by rw[List.getElem?_append_left (by simp)];simp)) rfl rfl rfl) ?_
  rw[u32s_set,row_set2]
  refine wo (b_rem (by omega)) ?_
  rw[remW]
  simp only[b_sub,ws]
  refine ih a ((t/d)::q) c d (t%d) n _ k (by simp;omega) hal ha (Bd.cons hqlt hq) hml hd hs h0 h1 h6 rfl ?_ hnew hk
  rw[wrap64 (by omega) (by omega)]
  rfl
theorem c111{a d:Nat}{c:VC}{Q:SV→Prop}(hd0:0<d)(hd:d<4294967296)(ha:(encN a).length<17592186044415)(h:∀c',(c'=.nil→a/d=0)→Q (.tup [.vsl (u32s (encN (a/d))) c',.int .u64 ((a%d:Nat):Int)])):wpO (pW cT 219 [.vsl (u32s (encN a)) c,.int .u64 (d:Int)]) Q:=by
 refine po rfl (F219_ok (k:=fun v S=>wpO (frz S dS v) Q) ?_)
 unfold F219
 simp only[len30,ws,b_sub]
 generalize hn:(encN a).length=n
 refine wo (mksl_ok (j:=y23) (by decide) rfl (by unfold roomS;omega) (by unfold roomS;show n*4≤_;omega)) ?_
 show DenP cT 41 (.loop L219_0) _ [.cells (List.replicate n (SV.int .u32 0)) true] _
 rw[u32s_zeros]
 have:=short_loop n (encN a) [] c d 0 n
 rw[List.append_nil]at this
 refine this _ _ (by simp) hn (encN_bd a) Bd.nil hd0 hd (by omega) rfl rfl rfl rfl ?_ ?_ ?_
 ·rw[wrap64 (by omega) (by omega)];rfl
 ·rw[List.drop_of_length_le (by omega)];simp[val]
 ·intro q' r' e' hl hbq hr hv h6 h7
  rw[encN_val]at hv
  have hr2:a%d=r':=by rw[hv,Nat.mul_add_mod,Nat.mod_eq_of_lt hr]
  have hq2:a/d=val q':=by rw[hv,Nat.mul_add_div hd0,Nat.div_eq_of_lt hr,Nat.add_zero]
  refine K219_0e0_ok ?_
  unfold TK219_0e0
  rw[h6,h7]
  refine call_row (es:=u32s q') rfl rfl (by simp[hl]) u32s_pure ?_
  refine c82 hbq (by omega) capM fun c' hc'=>?_
  rw[←hq2]at hc' ⊢
  rw[←hr2]
  exact h c' hc'
theorem c69{a b:Nat}{c d:VC}{Q:SV→Prop}(hb0:0<b)(hb:b<4294967296∨a<b)(ha:(encN a).length<17592186044415)(hb2:(encN b).length<17592186044415)(hca:c=.nil→a=0)(h:∀c1 c2,(c1=.nil→a/b=0)→(c2=.nil→a%b=0)→Q (.tup [.vsl (u32s (encN (a/b))) c1,.vsl (u32s (encN (a%b))) c2])) :
  wpO (pW cT 153 [.vsl (u32s (encN a)) c,.vsl (u32s (encN b)) d]) Q:=by
 refine po rfl (F153_ok (k:=fun v S=>wpO (frz S dS v) Q) ?_)
 unfold F153
 refine cpu rfl rfl (c40 (by omega) (by omega) ?_)
 simp only[b_lss,ws]
 refine condP_dec (fun h1=>?_) (fun h1=>?_)
 ·have hlt:a<b:=by
   unfold cmp3 at h1
   by_cases h2:a<b
   ·exact h2
   ·rw[if_neg h2]at h1;split at h1<;>omega
  have:=h .nil c (fun _=>Nat.div_eq_of_lt hlt) (fun e=>by rw[hca e,Nat.zero_mod])
  rw[Nat.div_eq_of_lt hlt,Nat.mod_eq_of_lt hlt]at this
  exact this
 ·have hge:¬a<b:=by
   intro h2
   apply h1
   unfold cmp3
   rw[if_pos h2];decide
  have hb1:b<4294967296:=by rcases hb with h|h<;>omega
  simp only[len30,b_eql,ws]
  refine condP_dec (fun h2=>?_) (fun h2=>?_)
  ·have hg:(encN b)[0]?=some b:=by rw[enc_small hb1 hb0];rfl
   refine wo (idx30 (i:=0) hg) ?_
   simp only[load108,conv51 hb1,ws]
   refine cpu rfl rfl (c111 hb0 hb1 ha fun c1 hc1=>?_)
   refine wo rfl (wo rfl ?_)
   refine cpu rfl rfl (c67 (n:=a%b) (by have:=Nat.mod_lt a hb0;omega) fun c2 hc2=>?_)
   exact h c1 c2 hc1 hc2
  ·exfalso
   apply h2
   rw[enc_small hb1 hb0]
   rfl
def wd(z:Int):Nat:=(encN z.natAbs).length
theorem wd_small{z:Int}(h:z.natAbs<4294967296):wd z≤1:=enc_len_le (by rw[Nat.pow_one];exact h)
theorem I_pos{z:Int}{c:VC}(h:¬z<0):I z c=.agg [.bool false,.vsl (u32s (encN z.natAbs)) c]:=by unfold I;rw[decide_eq_false h]
theorem I_neg{z:Int}{c:VC}(h:z<0):I z c=.agg [.bool true,.vsl (u32s (encN z.natAbs)) c]:=by unfold I;rw[decide_eq_true h]
theorem made_enc{b:Bool}{n:Nat}{c:VC}{Q:SV→Prop}{z:Int}(hs:(encN n).length<9223372036854775808)(hz:z=if b then -(n:Int)else n)(hc:c=.nil→n=0)(h:∀c',(c'=.nil→z=0)→Q (I z c')):wpO (pW cT 110 [.bool b,.vsl (u32s (encN n)) c]) Q:=by
 refine c39 (encN_bd n) hs (by rw[encN_val];exact hc) fun c' hc'=>?_
 rw[encN_val]at hc'
 rw[encN_val]
 have:SV.agg [.bool (b&&decide (0<n)),.vsl (u32s (encN n)) c']=I z c':=by
  subst hz
  cases b with
  |false=>
   rw[I_pos (by simp)]
   simp
  |true=>
   by_cases hn:0<n
   ·rw[I_neg (by simp;omega)]
    simp[hn]
   ·have:n=0:=by omega
    subst this
    rfl
 rw[this]
 exact h c' (fun e=>by rw[hz,hc' e];cases b<;>rfl)
def sgn(z:Int):Int:=if z<0 then -1 else if z=0 then 0 else 1
def cmpZ(z w:Int):Int:=if z<w then -1 else if w<z then 1 else 0
theorem c9{z:Int}{c:VC}{Q:SV→Prop}(h:Q (.int .i64 (sgn z))):wpO (pW cT 83 [I z c]) Q:=by
 refine po rfl (F83_ok (k:=fun v S=>wpO (frz S dS v) Q) ?_)
 unfold F83
 by_cases hz:z<0
 ·rw[I_neg hz]
  iterate 3 refine wo rfl ?_
  refine cndT rfl ?_
  have:sgn z=-1:=by unfold sgn;rw[if_pos hz]
  rw[this]at h
  exact h
 ·rw[I_pos hz]
  iterate 3 refine wo rfl ?_
  refine cndF rfl ?_
  iterate 2 refine wo rfl ?_
  refine wo (len30 _ _) ?_
  refine wo min_2 ?_
  have:sgn z=min ((encN z.natAbs).length:Int) 1:=by
   unfold sgn
   rw[if_neg hz]
   have:=enc_len_pos (n:=z.natAbs)
   by_cases h0:z=0
   ·subst h0;rfl
   ·rw[if_neg h0]
    have:=this.2 (by omega)
    omega
  rw[this]at h
  exact h
theorem c10{z:Int}{c:VC}{Q:SV→Prop}(hw:wd z<17592186044415)(hc:c=.nil→z=0)(h:∀c',(c'=.nil→z=0)→Q (I (-z) c')):wpO (pW cT 84 [I z c]) Q:=by
 refine po rfl (F84_ok (k:=fun v S=>wpO (frz S dS v) Q) ?_)
 unfold F84
 unfold I
 iterate 4 refine wo rfl ?_
 refine wo u_not ?_
 iterate 2 refine wo rfl ?_
 refine cpu rfl rfl (made_enc (z:=-z) (by unfold wd at hw;omega) ?_ (fun e=>by rw[hc e];rfl) fun c' hc'=>?_)
 ·by_cases hz:z<0
  ·rw[decide_eq_true hz];simp;omega
  ·rw[decide_eq_false hz];simp;omega
 ·iterate 2 refine wo rfl ?_
  exact h c' (fun e=>by have:=hc' e;omega)
theorem c23{n:Int}{Q:SV→Prop}(h0:-9223372036854775808≤n)(h1:n<9223372036854775808)(h:∀c',(c'=.nil→n=0)→Q (I n c')):wpO (pW cT 37 [.int .i64 n]) Q:=by
 refine po rfl (F37_ok (k:=fun v S=>wpO (frz S dS v) Q) ?_)
 unfold F37
 have hl:∀m:Nat,m<18446744073709551616→(encN m).length<9223372036854775808:=fun m hm=>by
  have hp:(4294967296:Nat)^2=18446744073709551616:=by decide
  have:=enc_len_le (k:=2) (hp▸hm)
  exact Nat.lt_of_le_of_lt this (by decide)
 refine wo rfl ?_
 simp only[b_lss,ws]
 refine condP_dec (fun hn=>?_) (fun hn=>?_)
 ·simp only[b_add,u_neg,ws]
  rw[wrap64 (n:=n+1) (by omega) (by omega),wrap64 (by omega) (by omega)]
  refine wo (conv_int rfl rfl) ?_
  simp only[b_add,ws]
  rw[wrapU64 (n:=0-(n+1)) (by omega) (by omega),wrapU64 (by omega) (by omega)]
  have e:0-(n+1)+1=((n.natAbs:Nat):Int):=by omega
  rw[e]
  refine cpu rfl rfl (c67 (by omega) fun c1 hc1=>?_)
  refine cpu rfl rfl (made_enc (z:=n) (hl _ (by omega)) (by simp;omega) hc1 fun c' hc'=>?_)
  iterate 2 refine wo rfl ?_
  exact h c' hc'
 ·refine wo (conv_int rfl rfl) ?_
  rw[wrapU64 (by omega) (by omega)]
  have e:n=((n.natAbs:Nat):Int):=by omega
  rw[e]
  refine cpu rfl rfl (c67 (by omega) fun c1 hc1=>?_)
  refine cpu rfl rfl (made_enc (z:=n) (hl _ (by omega)) (by simp;omega) hc1 fun c' hc'=>?_)
  iterate 2 refine wo rfl ?_
  exact h c' hc'
theorem c11{z w:Int}{c d:VC}{Q:SV→Prop}(hz:wd z<17592186044415)(hw:wd w<17592186044415)(h:Q (.int .i64 (cmpZ z w))):wpO (pW cT 41 [I z c,I w d]) Q:=by
 refine po rfl (F41_ok (k:=fun v S=>wpO (frz S dS v) Q) ?_)
 unfold F41
 unfold wd at hz hw
 by_cases h1:z<0<;>by_cases h2:w<0
 ·rw[I_neg h1,I_neg h2]
  iterate 4 refine wo rfl ?_
  refine grdT rfl (wo rfl (grdT rfl (wo rfl (grdT rfl (wo u_not (wo rfl (cndF rfl ?_)))))))
  iterate 3 refine wo rfl ?_
  refine grdF rfl (grdF rfl (wo rfl (cndF rfl ?_)))
  iterate 2 refine wo rfl ?_
  refine cndT rfl ?_
  iterate 4 refine wo rfl ?_
  refine cpu rfl rfl (c40 (by omega) (by omega) ?_)
  have:cmpZ z w=cmp3 w.natAbs z.natAbs:=by unfold cmpZ cmp3;split<;>split<;>(try split)<;>omega
  rw[this]at h
  exact h
 ·rw[I_neg h1,I_pos h2]
  iterate 4 refine wo rfl ?_
  refine grdT rfl (wo rfl (grdT rfl (wo rfl (grdT rfl (wo u_not (wo rfl (cndT rfl ?_)))))))
  have:cmpZ z w=-1:=by unfold cmpZ;rw[if_pos (by omega)]
  rw[this]at h
  exact h
 ·rw[I_pos h1,I_neg h2]
  iterate 4 refine wo rfl ?_
  refine grdF rfl (grdF rfl (grdF rfl (wo rfl (cndF rfl ?_))))
  iterate 3 refine wo rfl ?_
  refine grdT rfl (wo rfl (grdT rfl (wo rfl (wo rfl (cndT rfl ?_)))))
  have:cmpZ z w=1:=by unfold cmpZ;rw[if_neg (by omega),if_pos (by omega)]
  rw[this]at h
  exact h
 ·rw[I_pos h1,I_pos h2]
  iterate 4 refine wo rfl ?_
  refine grdF rfl (grdF rfl (grdF rfl (wo rfl (cndF rfl ?_))))
  iterate 3 refine wo rfl ?_
  refine grdT rfl (wo rfl (grdT rfl (wo rfl (wo rfl (cndF rfl ?_)))))
  iterate 2 refine wo rfl ?_
  refine cndF rfl ?_
  iterate 4 refine wo rfl ?_
  refine cpu rfl rfl (c40 (by omega) (by omega) ?_)
  have:cmpZ z w=cmp3 z.natAbs w.natAbs:=by unfold cmpZ cmp3;split<;>split<;>(try split)<;>omega
  rw[this]at h
  exact h
theorem wd_add{a b:Nat}{n:Nat}(ha:(encN a).length≤n)(hb:(encN b).length≤n):(encN (a+b)).length≤n+1:=by
 refine enc_len_le ?_
 have h1:a<4294967296^n:=Nat.lt_of_lt_of_le enc_lt (Nat.pow_le_pow_right (by decide) ha)
 have h2:b<4294967296^n:=Nat.lt_of_lt_of_le enc_lt (Nat.pow_le_pow_right (by decide) hb)
 rw[Nat.pow_succ]
 omega
theorem c30{z w:Int}{c d:VC}{Q:SV→Prop}(hz:wd z<17592186044414)(hw:wd w<17592186044414)(h:∀c',(c'=.nil→z+w=0)→Q (I (z+w) c')):wpO (pW cT 35 [I z c,I w d]) Q:=by
 refine po rfl (F35_ok (k:=fun v S=>wpO (frz S dS v) Q) ?_)
 unfold F35
 unfold wd at hz hw
 have hsum:=wd_add (a:=z.natAbs) (b:=w.natAbs) (n:=17592186044413) (by omega) (by omega)
 have hlt:z.natAbs<w.natAbs→(decide (cmp3 z.natAbs w.natAbs<0))=true:=fun h=>by unfold cmp3;rw[if_pos h];rfl
 have hge:¬z.natAbs<w.natAbs→(decide (cmp3 z.natAbs w.natAbs<0))=false:=fun h=>by unfold cmp3;rw[if_neg h];split<;>rfl
 by_cases h1:z<0<;>by_cases h2:w<0
 ·rw[I_neg h1,I_neg h2]
  iterate 8 refine wo rfl ?_
  refine cndT rfl ?_
  iterate 6 refine wo rfl ?_
  refine cpu rfl rfl (c70 (by omega) (by omega) fun c1 hc1=>?_)
  refine cpu rfl rfl (made_enc (z:=z+w) (by omega) (by simp;omega) hc1 fun c2 hc2=>?_)
  iterate 2 refine wo rfl ?_
  exact h c2 hc2
 ·rw[I_neg h1,I_pos h2]
  iterate 8 refine wo rfl ?_
  refine cndF rfl ?_
  iterate 4 refine wo rfl ?_
  refine cpu rfl rfl (c40 (by omega) (by omega) ?_)
  by_cases hc:z.natAbs<w.natAbs
  ·refine wo rfl (cndT (congrArg SV.bool (hlt hc)) ?_)
   iterate 6 refine wo rfl ?_
   have hm:=enc_len_mono (m:=w.natAbs-z.natAbs) (n:=w.natAbs) (by omega)
   refine cpu rfl rfl (c71 (by omega) (by omega) fun c1 hc1=>?_)
   refine cpu rfl rfl (made_enc (z:=z+w) (by omega) (by simp;omega) hc1 fun c2 hc2=>?_)
   iterate 2 refine wo rfl ?_
   exact h c2 hc2
  ·refine wo rfl (cndF (congrArg SV.bool (hge hc)) ?_)
   iterate 6 refine wo rfl ?_
   have hm:=enc_len_mono (m:=z.natAbs-w.natAbs) (n:=z.natAbs) (by omega)
   refine cpu rfl rfl (c71 (by omega) (by omega) fun c1 hc1=>?_)
   refine cpu rfl rfl (made_enc (z:=z+w) (by omega) (by simp;omega) hc1 fun c2 hc2=>?_)
   iterate 2 refine wo rfl ?_
   exact h c2 hc2
 ·rw[I_pos h1,I_neg h2]
  iterate 8 refine wo rfl ?_
  refine cndF rfl ?_
  iterate 4 refine wo rfl ?_
  refine cpu rfl rfl (c40 (by omega) (by omega) ?_)
  by_cases hc:z.natAbs<w.natAbs
  ·refine wo rfl (cndT (congrArg SV.bool (hlt hc)) ?_)
   iterate 6 refine wo rfl ?_
   have hm:=enc_len_mono (m:=w.natAbs-z.natAbs) (n:=w.natAbs) (by omega)
   refine cpu rfl rfl (c71 (by omega) (by omega) fun c1 hc1=>?_)
   refine cpu rfl rfl (made_enc (z:=z+w) (by omega) (by simp;omega) hc1 fun c2 hc2=>?_)
   iterate 2 refine wo rfl ?_
   exact h c2 hc2
  ·refine wo rfl (cndF (congrArg SV.bool (hge hc)) ?_)
   iterate 6 refine wo rfl ?_
   have hm:=enc_len_mono (m:=z.natAbs-w.natAbs) (n:=z.natAbs) (by omega)
   refine cpu rfl rfl (c71 (by omega) (by omega) fun c1 hc1=>?_)
   refine cpu rfl rfl (made_enc (z:=z+w) (by omega) (by simp;omega) hc1 fun c2 hc2=>?_)
   iterate 2 refine wo rfl ?_
   exact h c2 hc2
 ·rw[I_pos h1,I_pos h2]
  iterate 8 refine wo rfl ?_
  refine cndT rfl ?_
  iterate 6 refine wo rfl ?_
  refine cpu rfl rfl (c70 (by omega) (by omega) fun c1 hc1=>?_)
  refine cpu rfl rfl (made_enc (z:=z+w) (by omega) (by simp;omega) hc1 fun c2 hc2=>?_)
  iterate 2 refine wo rfl ?_
  exact h c2 hc2
theorem val_set{p:List Nat}{j x d:Nat}(h:p[j]?=some x):val (p.set j d)+4294967296^j*x=val p+4294967296^j*d:=by
 induction p generalizing j with
 |nil=>simp at h
 |cons a r ih=>
  cases j with
  |zero=>
   simp at h
   subst h
   simp[val]
   omega
  |succ j=>
   have:=ih (j:=j) (by simpa using h)
   simp only[List.set_cons_succ,val,Nat.pow_succ]
   generalize val (r.set j d)=u at this ⊢
   generalize val r=v at this ⊢
   generalize 4294967296^j=P at this ⊢
   grind
theorem mul_lt{x y z c:Nat}(hx:x<4294967296)(hy:y<4294967296)(hz:z<4294967296)(hc:c<4294967296):x*y+z+c<18446744073709551616:=by
 have:x*y≤4294967295*4294967295:=Nat.mul_le_mul (by omega) (by omega)
 omega
theorem mul_eq{x y z c:Nat}(hx:x<4294967296)(hy:y<4294967296)(hz:z<4294967296)(hc:c<4294967296) :
  wrS .u64 (wrS .u64 (wrS .u64 ((x:Int)*(y:Int))+(z:Int))+(c:Int))=((x*y+z+c:Nat):Int):=by
 have h:x*y≤4294967295*4294967295:=Nat.mul_le_mul (by omega) (by omega)
 have e:(x:Int)*(y:Int)=((x*y:Nat):Int):=by simp
 rw[e]
 generalize x*y=t at h ⊢
 rw[wrapU64 (n:=(t:Int)) (by omega) (by omega),wrapU64 (n:=(t:Int)+z) (by omega) (by omega),wrapU64 (by omega) (by omega)]
 omega
theorem div_lt_base{t:Nat}(h:t<18446744073709551616):t/4294967296<4294967296:=by omega
theorem addI{i k:Nat}(h:i+k<9223372036854775808):wrS .i64 ((i:Int)+(k:Int))=((i+k:Nat):Int):=by
 rw[wrap64 (by omega) (by omega)];omega
theorem succI{i:Nat}(h:i<9223372036854775807):wrS .i64 ((i:Int)+1)=((i+1:Nat):Int):=by
 rw[wrap64 (by omega) (by omega)];omega
theorem mul_inner:∀(m:Nat) (a b p:List Nat) (c d:VC) (i k0 r N x V cy:Nat) (e:En) (k:X→En→Zt→Prop),k0+m=b.length→p.length=i+b.length→i+b.length+r=N→Bd b→Bd p→cy<4294967296→a[i]?=some x→x<4294967296→N<70368744177664→
  e 0=.vsl (u32s a) c→e 1=.vsl (u32s b) d→e 5=.osl 0 1 0 N (some N)→e 6=.int .i64 (i:Int)→e 7=.int .u64 (cy:Int)→e 8=.int .i64 (k0:Int)→
  val p+4294967296^(i+k0)*cy=V+4294967296^i*(x*val (b.take k0))→
  (∀(p':List Nat) (cy':Nat) (e':En),p'.length=i+b.length→Bd p'→cy'<4294967296→val p'+4294967296^(i+b.length)*cy'=V+4294967296^i*(x*val b)→
   e' 0=.vsl (u32s a) c→e' 1=.vsl (u32s b) d→e' 5=.osl 0 1 0 N (some N)→e' 6=.int .i64 (i:Int)→e' 7=.int .u64 (cy':Int)→k (.exit 2) e' [.cells (u32s (p'++List.replicate r 0)) true])→
  DenP cT 69 (.loop L114_1) e [.cells (u32s (p++List.replicate r 0)) true] k:=by
 intro m
 induction m with
 |zero=>
  intro a b p c d i k0 r N x V cy e k hm hp hN hb hbp hcy hax hx hs h0 h1 h5 h6 h7 h8 hv hk
  refine L114_1_ok ?_
  unfold TL114_1
  simp only[h1,h8,len30,b_lss,ws]
  refine condP_dec (fun h=>by omega) (fun _=>?_)
  have hk0:k0=b.length:=by omega
  rw[hk0,List.take_length]at hv
  exact hk p cy _ hp hbp hcy hv h0 h1 h5 h6 h7
 |succ m ih=>
  intro a b p c d i k0 r N x V cy e k hm hp hN hb hbp hcy hax hx hs h0 h1 h5 h6 h7 h8 hv hk
  refine L114_1_ok ?_
  unfold TL114_1
  simp only[h1,h8,len30,b_lss,ws]
  refine condP_dec (fun _=>?_) (fun h=>absurd (by omega) h)
  obtain⟨y,hby⟩:∃y,b[k0]?=some y:=⟨b[k0]'(by omega),by simp⟩
  obtain⟨z,hpz⟩:∃z,p[i+k0]?=some z:=⟨p[i+k0]'(by omega),by simp⟩
  have hy:=hb.get hby
  have hz:=hbp.get hpz
  simp only[h0,h5,h6,h7,idx30 hax,idx30 hby,load108,conv51 hx,conv51 hy,b_mul,b_add,ws]
  rw[addI (by omega)]
  have hrow:(u32s (p++List.replicate r 0))[i+k0]?=some (.int .u32 (z:Int)):=u32s_get (by rw[List.getElem?_append_left (by omega)];exact hpz)
  refine wo (idx_osl (j:=y23) rfl rfl (by decide) (by omega) rfl) ?_
  rw[Nat.zero_add]
  refine wo (load_row (es:=u32s (p++List.replicate r 0)) rfl hrow) ?_
  refine wo (conv51 hz) ?_
  simp only[b_add,ws]
  rw[mul_eq hx hy hz hcy]
  have hlt:=mul_lt hx hy hz hcy
  have hvt:=val_take_succ b k0
  rw[hby]at hvt
  simp only[Option.getD_some]at hvt
  have hdm:=Nat.div_add_mod (x*y+z+cy) 4294967296
  have hnew:val (p.set (i+k0) ((x*y+z+cy)%4294967296))+4294967296^(i+(k0+1))*((x*y+z+cy)/4294967296)=V+4294967296^i*(x*val (b.take (k0+1))):=by
   have hs:=val_set (d:=(x*y+z+cy)%4294967296) hpz
   rw[hvt,←Nat.add_assoc,Nat.pow_succ]
   rw[Nat.pow_add]at hs hv ⊢
   generalize (x*y+z+cy)/4294967296=q at hdm ⊢
   generalize (x*y+z+cy)%4294967296=w at hdm hs ⊢
   generalize val (p.set (i+k0) w)=s1 at hs ⊢
   generalize val p=s0 at hs hv
   generalize val (b.take k0)=s2 at hv ⊢
   generalize 4294967296^i=P at hs hv ⊢
   generalize 4294967296^k0=R at hs hv ⊢
   clear hlt hrow hpz hby hvt
   grind
  clear hdm
  generalize x*y+z+cy=t at hlt hnew ⊢
  refine wo (b_rem (by decide)) ?_
  refine wo (conv_int rfl rfl) ?_
  rw[lowW hlt]
  refine wo (idx_osl (j:=y23) rfl rfl (by decide) (by omega) rfl) ?_
  rw[Nat.zero_add]
  refine wo (store_row (es:=u32s (p++List.replicate r 0)) rfl hrow rfl rfl rfl) ?_
  rw[u32s_set,List.set_append_left _ _ (by omega)]
  refine wo (b_quo (by decide)) ?_
  rw[highW hlt,succI (by omega)]
  refine ih a b (p.set (i+k0) (t%4294967296)) c d i (k0+1) r N x V (t/4294967296) _ k (by omega) (by rw[List.length_set];exact hp) hN hb ?_ (div_lt_base hlt) hax hx hs h0 h1 h5 h6 rfl rfl hnew hk
  intro u hu
  rcases List.mem_or_eq_of_mem_set hu with hu|rfl
  ·exact hbp u hu
  ·exact Nat.mod_lt _ (by decide)
theorem mul_outer:∀(r:Nat) (a b p:List Nat) (c d:VC) (i N:Nat) (e:En) (k:X→En→Zt→Prop),i+r=a.length→p.length=i+b.length→a.length+b.length=N→Bd a→Bd b→Bd p→N<70368744177664→
  e 0=.vsl (u32s a) c→e 1=.vsl (u32s b) d→e 5=.osl 0 1 0 N (some N)→e 6=.int .i64 (i:Int)→
  val p=val (a.take i)*val b→
  (∀(p':List Nat) (e':En),p'.length=N→Bd p'→val p'=val a*val b→e' 5=.osl 0 1 0 N (some N)→k (.exit 0) e' [.cells (u32s p') true])→
  DenP cT 69 (.loop L114_0) e [.cells (u32s (p++List.replicate r 0)) true] k:=by
 intro r
 induction r with
 |zero=>
  intro a b p c d i N e k hr hp hN ha hb hbp hs h0 h1 h5 h6 hv hk
  refine L114_0_ok ?_
  unfold TL114_0
  simp only[h0,h6,len30,b_lss,ws]
  refine condP_dec (fun h=>by omega) (fun _=>?_)
  have hi:i=a.length:=by omega
  rw[hi,List.take_length]at hv
  rw[List.replicate_zero,List.append_nil]
  exact hk p _ (by omega) hbp hv h5
 |succ r ih=>
  intro a b p c d i N e k hr hp hN ha hb hbp hs h0 h1 h5 h6 hv hk
  refine L114_0_ok ?_
  unfold TL114_0
  simp only[h0,h6,len30,b_lss,ws]
  refine condP_dec (fun _=>?_) (fun h=>absurd (by omega) h)
  obtain⟨x,hax⟩:∃x,a[i]?=some x:=⟨a[i]'(by omega),by simp⟩
  have hx:=ha.get hax
  refine mul_inner b.length a b p c d i 0 (r+1) N x (val p) 0 _ _ (by omega) hp (by omega) hb hbp (by decide) hax hx hs h0 h1 h5 h6 rfl rfl (by simp[val]) ?_
  intro p' cy' e' hp' hbp' hcy' hv' g0 g1 g5 g6 g7
  refine K114_1e2_ok ?_
  unfold TK114_1e2
  simp only[g1,g5,g6,g7,len30,b_add,ws]
  rw[addI (by omega)]
  refine wo (conv_int rfl rfl) ?_
  have e3:wrS .u32 (cy':Int)=(cy':Int):=wrapU32 (Int.natCast_nonneg _) (by exact Int.ofNat_lt.2 hcy')
  rw[e3]
  refine wo (idx_osl (j:=y23) rfl rfl (by decide) (by omega) rfl) ?_
  rw[Nat.zero_add,←hp']
  refine wo (store_row (es:=u32s (p'++List.replicate (r+1) 0)) (e:=.int .u32 0) rfl (by rw[show(0:Int)=((0:Nat):Int) from rfl];exact u32s_get (by rw[List.getElem?_append_right (Nat.le_refl _)];simp)) rfl rfl rfl) ?_
  rw[u32s_set,row_set,succI (by omega)]
  refine ih a b (p'++[cy']) c d (i+1) N _ k (by omega) (by rw[List.length_append,hp'];simp;omega) hN ha hb (hbp'.snoc hcy') hs g0 g1 g5 rfl ?_ hk
  have hvt:=val_take_succ a i
  rw[hax]at hvt
  simp only[Option.getD_some]at hvt
  rw[val_snoc,hvt,hp',hv',hv]
  grind
theorem c72{a b:Nat}{c d:VC}{Q:SV→Prop}(ha:(encN a).length<8796093022207)(hb:(encN b).length<8796093022207)(h:∀c',(c'=.nil→a*b=0)→Q (.vsl (u32s (encN (a*b))) c')):wpO (pW cT 114 [.vsl (u32s (encN a)) c,.vsl (u32s (encN b)) d]) Q:=by
 refine po rfl (F114_ok (k:=fun v S=>wpO (frz S dS v) Q) ?_)
 unfold F114
 simp only[len30,b_add,ws]
 rw[addI (by omega)]
 generalize hn:(encN a).length+(encN b).length=n
 refine wo (mksl_ok (j:=y23) (by decide) rfl (by unfold roomS;omega) (by unfold roomS;show n*4≤_;omega)) ?_
 show DenP cT 69 (.loop L114_0) _ [.cells (List.replicate n (SV.int .u32 0)) true] _
 have hsplit:u32s (List.replicate n 0)=u32s (List.replicate (encN b).length 0++List.replicate (encN a).length 0):=by
  rw[List.replicate_append_replicate];congr 2;omega
 rw[u32s_zeros,hsplit]
 refine mul_outer (encN a).length (encN a) (encN b) (List.replicate (encN b).length 0) c d 0 n _ _ (by omega) (by simp) hn (encN_bd a) (encN_bd b) (fun u hu=>by rw[(List.mem_replicate.1 hu).2];decide) (by omega) rfl rfl rfl rfl (by rw[val_zeros];simp[val]) ?_
 intro p' e' hl hbp hv h5
 rw[encN_val,encN_val]at hv
 refine K114_0e0_ok ?_
 unfold TK114_0e0
 rw[h5]
 refine call_row (es:=u32s p') rfl rfl (by simp[hl]) u32s_pure ?_
 refine c82 hbp (by omega) capM fun c' hc'=>?_
 rw[hv]at hc' ⊢
 exact h c' hc'
theorem wd_mul{a b m n:Nat}(ha:(encN a).length≤m)(hb:(encN b).length≤n):(encN (a*b)).length≤m+n:=by
 refine enc_len_le ?_
 have h1:a<4294967296^m:=Nat.lt_of_lt_of_le enc_lt (Nat.pow_le_pow_right (by decide) ha)
 have h2:b<4294967296^n:=Nat.lt_of_lt_of_le enc_lt (Nat.pow_le_pow_right (by decide) hb)
 rw[Nat.pow_add]
 exact Nat.mul_lt_mul'' h1 h2
theorem natAbs_mul_sign{z w:Int}:z*w=if((decide (z<0)) != (decide (w<0)))=true then -((z.natAbs*w.natAbs:Nat):Int)else((z.natAbs*w.natAbs:Nat):Int):=by
 rw[←Int.natAbs_mul]
 by_cases h1:z<0<;>by_cases h2:w<0
 ·have:=Int.mul_pos_of_neg_of_neg h1 h2
  simp[h1,h2];omega
 ·have:z*w≤0:=Int.mul_nonpos_of_nonpos_of_nonneg (by omega) (by omega)
  simp[h1,h2];omega
 ·have:z*w≤0:=Int.mul_nonpos_of_nonneg_of_nonpos (by omega) (by omega)
  simp[h1,h2];omega
 ·have:0≤z*w:=Int.mul_nonneg (by omega) (by omega)
  simp[h1,h2];omega
theorem c26{z w:Int}{c d:VC}{Q:SV→Prop}(hz:wd z<8796093022207)(hw:wd w<8796093022207)(h:∀c',(c'=.nil→z*w=0)→Q (I (z*w) c')):wpO (pW cT 36 [I z c,I w d]) Q:=by
 refine po rfl (F36_ok (k:=fun v S=>wpO (frz S dS v) Q) ?_)
 unfold F36
 unfold wd at hz hw
 unfold I
 iterate 7 refine wo rfl ?_
 refine wo (b_bne rfl) ?_
 iterate 4 refine wo rfl ?_
 refine cpu rfl rfl (c72 hz hw fun c1 hc1=>?_)
 have hm:=wd_mul (Nat.le_of_lt hz) (Nat.le_of_lt hw)
 refine cpu rfl rfl (made_enc (z:=z*w) (by omega) natAbs_mul_sign hc1 fun c2 hc2=>?_)
 iterate 2 refine wo rfl ?_
 exact h c2 hc2
theorem ediv_of{z w q r:Int}(h:z=w*q+r)(h0:0≤r)(h1:r<w.natAbs):z/w=q∧z%w=r:=by
 rcases Int.lt_trichotomy w 0 with hw|hw|hw
 ·have:=(Int.ediv_emod_unique (a:=z) (b:=-w) (q:=-q) (r:=r) (by omega)).2 ⟨by rw[Int.neg_mul_neg];omega,h0,by omega⟩
  rw[Int.ediv_neg,Int.emod_neg]at this
  exact⟨by omega,this.2⟩
 ·subst hw;simp at h1;omega
 ·exact(Int.ediv_emod_unique (a:=z) (b:=w) (q:=q) (r:=r) hw).2 ⟨by omega,h0,by omega⟩
theorem enc_one:encN 1=[1]:=rfl
theorem div_sign{z w:Int}(hw:w≠0)(hr:z<0→z.natAbs%w.natAbs=0) :
  z/w=(if((decide (z<0)) != (decide (w<0)))=true then -((z.natAbs/w.natAbs:Nat):Int)else((z.natAbs/w.natAbs:Nat):Int))∧z%w=((z.natAbs%w.natAbs:Nat):Int):=by
 have hdm:=Nat.div_add_mod z.natAbs w.natAbs
 have hlt:=Nat.mod_lt z.natAbs (show 0<w.natAbs by omega)
 generalize z.natAbs/w.natAbs=m at hdm ⊢
 generalize z.natAbs%w.natAbs=r at hdm hlt hr ⊢
 refine ediv_of ?_ (by omega) (by omega)
 have hdm2:((w.natAbs:Nat):Int)*(m:Int)+(r:Int)=((z.natAbs:Nat):Int):=by rw[←hdm];simp
 by_cases h1:z<0<;>by_cases h2:w<0
 ·have:=hr h1
  subst this
  have e1:((w.natAbs:Nat):Int)=-w:=by omega
  have e2:((z.natAbs:Nat):Int)=-z:=by omega
  rw[e1,e2]at hdm2
  simp[h1,h2]
  grind
 ·have:=hr h1
  subst this
  have e1:((w.natAbs:Nat):Int)=w:=by omega
  have e2:((z.natAbs:Nat):Int)=-z:=by omega
  rw[e1,e2]at hdm2
  simp[h1,h2]
  grind
 ·have e1:((w.natAbs:Nat):Int)=-w:=by omega
  have e2:((z.natAbs:Nat):Int)=z:=by omega
  rw[e1,e2]at hdm2
  simp[h1,h2]
  grind
 ·have e1:((w.natAbs:Nat):Int)=w:=by omega
  have e2:((z.natAbs:Nat):Int)=z:=by omega
  rw[e1,e2]at hdm2
  simp[h1,h2]
  grind
theorem div_sign2{z w:Int}(hw:w≠0)(hz:z<0)(hr:0<z.natAbs%w.natAbs) :
  z/w=(if((decide (z<0)) != (decide (w<0)))=true then -((z.natAbs/w.natAbs+1:Nat):Int)else((z.natAbs/w.natAbs+1:Nat):Int))∧z%w=((w.natAbs-z.natAbs%w.natAbs:Nat):Int):=by
 have hdm:=Nat.div_add_mod z.natAbs w.natAbs
 have hlt:=Nat.mod_lt z.natAbs (show 0<w.natAbs by omega)
 generalize z.natAbs/w.natAbs=m at hdm ⊢
 generalize z.natAbs%w.natAbs=r at hdm hlt hr ⊢
 refine ediv_of ?_ (by omega) (by omega)
 have hdm2:((w.natAbs:Nat):Int)*(m:Int)+(r:Int)=((z.natAbs:Nat):Int):=by rw[←hdm];simp
 have er:((w.natAbs-r:Nat):Int)=((w.natAbs:Nat):Int)-(r:Int):=by omega
 rw[er]
 have e2:((z.natAbs:Nat):Int)=-z:=by omega
 by_cases h2:w<0
 ·have e1:((w.natAbs:Nat):Int)=-w:=by omega
  rw[e1,e2]at hdm2
  rw[e1]
  simp[hz,h2]
  grind
 ·have e1:((w.natAbs:Nat):Int)=w:=by omega
  rw[e1,e2]at hdm2
  rw[e1]
  simp[hz,h2]
  grind
end Go.Proofs
