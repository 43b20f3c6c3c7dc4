/-
  The program's integers (3), and its primes.
-/
import Derived.Test.YtilhffelllbggaaGreatPf
import Derived.Test.YtilhffelllbggaaGreatPe
import Derived.Test.YtilhffelllbggaaGreatLd
set_option linter.unusedVariables false
set_option linter.unusedSimpArgs false
set_option maxRecDepth 10000
namespace Go.Proofs
open Go.Sh
theorem scale2{b n t d:Nat}(hn:(encN b).length=n)(hn2:2≤n)(ht:(encN b)[n-1]?=some t)(hdt:d*(t+1)≤4294967296)(hd1:1≤d)(hd2:d<4294967296) :
  (encN (b*d)).length=n∧4294967296^(n-1)≤b:=by
 have htB:=(encN_bd b).get ht
 have hv:=val_take_succ (encN b) (n-1)
 rw[show n-1+1=n by omega,List.take_of_length_le (by omega),encN_val,ht]at hv
 simp only[Option.getD_some]at hv
 have hlo:=val_lt ((encN_bd b).take (n-1))
 rw[List.length_take,Nat.min_eq_left (by omega)]at hlo
 have hb0:0<b:=enc_len_pos.1 (by omega)
 have hge:=enc_ge hb0
 rw[hn]at hge
 have hP:4294967296^n=4294967296^(n-1)*4294967296:=by rw[←Nat.pow_succ];congr 1;omega
 have hb1:b<4294967296^(n-1)*(t+1):=by rw[Nat.mul_succ];omega
 have hlt:b*d<4294967296^n:=by
  rw[hP]
  have h1:b*d<4294967296^(n-1)*(t+1)*d:=Nat.mul_lt_mul_of_pos_right hb1 hd1
  have h2:4294967296^(n-1)*(d*(t+1))≤4294967296^(n-1)*4294967296:=Nat.mul_le_mul_left _ hdt
  have h3:4294967296^(n-1)*(t+1)*d=4294967296^(n-1)*(d*(t+1)):=by grind
  omega
 have hge2:4294967296^(n-1)≤b*d:=Nat.le_trans hge (Nat.le_mul_of_pos_right b hd1)
 have hl1:=enc_len_le hlt
 refine⟨?_,hge⟩
 by_cases h:(encN (b*d)).length≤n-1
 ·exfalso
  have h1:=enc_lt (n:=b*d)
  have h2:=Nat.pow_le_pow_right (show 0<4294967296 by decide) h
  exact absurd (Nat.lt_of_lt_of_le h1 h2) (by exact Nat.not_lt.2 hge2)
 ·exact Nat.le_antisymm hl1 (by clear hP hb1 hlt hge2 hlo hge hv;omega)
theorem ndiv_loop:∀(m:Nat) (U ql vl:List Nat) (L n N i A0:Nat) (capu capq:Option Nat) (c:VC) (r1:Row) (S:Zt) (e:En) (k:X→En→Zt→Prop),
  S=[.cells (u32s U) true,r1,.cells (u32s (List.replicate m 0++ql)) true]→U.length=L→m+n≤L→vl.length=n→2≤n→L<17592186044414→m+ql.length=N→N<17592186044414→i+m=N→Bd U→Bd ql→Bd vl→
  val (U.drop m)<val vl→val U+val vl*(4294967296^m*val ql)=A0→
  e 9=.osl 0 1 0 L capu→e 10=.vsl (u32s vl) c→e 11=.osl 2 1 0 N capq→e 55=.int .i64 (N:Int)→e 56=.int .i64 (i:Int)→
  (∀(U' q':List Nat) (e':En),U'.length=L→q'.length=N→Bd U'→Bd q'→val U'<val vl→val U'+val vl*val q'=A0→e' 8=e 8→e' 9=.osl 0 1 0 L capu→e' 11=.osl 2 1 0 N capq→k (.exit 0) e' [.cells (u32s U') true,r1,.cells (u32s q') true])→
  DenP cT 84 (.loop L231_0) e S k:=by
 intro m
 induction m with
 |zero=>
  intro U ql vl L n N i A0 capu capq c r1 S e k hS hU hmn hv hn hL hq hN hi bU bq bv hlt hA h9 h10 h11 h55 h56 hk
  subst hS
  refine L231_0_ok ?_
  unfold TL231_0
  simp only[h55,h56,b_lss,ws]
  rw[decide_eq_false (by omega),cf_]
  rw[List.drop_zero]at hlt
  rw[Nat.pow_zero,Nat.one_mul]at hA
  exact hk U ql _ hU (by omega) bU bq hlt hA rfl h9 h11
 |succ m ih=>
  intro U ql vl L n N i A0 capu capq c r1 S e k hS hU hmn hv hn hL hq hN hi bU bq bv hlt hA h9 h10 h11 h55 h56 hk
  refine L231_0_ok ?_
  unfold TL231_0
  simp only[h9,h10,h11,h55,h56,b_lss,ws,len_off2,len115,b_sub,b_add]
  rw[decide_eq_true (by omega),condP_t]
  have e1:wrS .i64 (wrS .i64 ((N:Int)-1)-(i:Int))=(m:Int):=by
   rw[wrap64 (n:=(N:Int)-1) (by omega) (by omega),wrap64 (by omega) (by omega)];omega
  rw[e1]
  clear e1
  rw[hv,addI (by omega)]
  rw[show wrS .i64 (((m+n:Nat):Int)+1)=((m+n+1:Nat):Int) from succI (by omega)]
  refine wo (slic_at (j:=y23) (by decide) (by omega) (by omega)) ?_
  rw[Nat.zero_add,show m+n+1-m=n+1 by omega]
  obtain⟨A,x,C,rfl,hAl,hxl⟩:∃A x C,U=A++x++C∧A.length=m∧x.length=n+1:=by
   refine⟨U.take m,(U.drop m).take (n+1),(U.drop m).drop (n+1),?_,by simp;omega,by simp;omega⟩
   rw[List.append_assoc,List.take_append_drop,List.take_append_drop]
  have bx:Bd x:=fun d hd=>bU d (by simp[hd])
  have bA:Bd A:=fun d hd=>bU d (by simp[hd])
  have bC:Bd C:=fun d hd=>bU d (by simp[hd])
  have hVn:=val_lt bv
  rw[hv]at hVn
  obtain⟨x1,xr,rfl⟩:∃x1 xr,x=x1::xr:=by
   cases x with
   |nil=>simp at hxl
   |cons a r=>exact⟨a,r,rfl⟩
  have hxr:xr.length=n:=by simpa using hxl
  have hdr:(A++(x1::xr)++C).drop (m+1)=xr++C:=by
   rw[List.append_assoc,List.drop_append,List.drop_of_length_le (by omega),List.nil_append,show m+1-A.length=1 by omega]
   rfl
  rw[hdr,val_append,hxr]at hlt
  have hC0:val C=0:=top_zero hlt hVn
  rw[hC0,Nat.mul_zero,Nat.add_zero]at hlt
  have hx1:x1<4294967296:=bx.head
  have hltx:val (x1::xr)<4294967296*val vl:=by rw[val];omega
  have hS0:S[0]?=some (.cells (u32s (A++(x1::xr)++C)) true):=by rw[hS];rfl
  have hvU:val (A++(x1::xr)++C)=val A+4294967296^m*val (x1::xr):=by
   rw[val_append,val_append,hC0,Nat.mul_zero,Nat.add_zero,hAl]
  rw[hvU]at hA
  generalize x1::xr=x at *
  clear hVn
  refine m_reduce (A:=A) hxl hv hn (by omega) bx bv hltx hAl.symm hS0 ?_
  intro x2 g hx2l bx2 hg hx2v hg2
  have hx2lt:val x2<val vl:=by
   rw[Nat.succ_mul]at hg2
   omega
  have store:∀(S2:Zt),S2[2]?=some (.cells (u32s (List.replicate (m+1) 0++ql)) true)→
    stS y23 S2 (.optr 2 (0+m) 0) (.int .u32 (g:Int))=some (S2.set 2 (.cells (u32s (List.replicate m 0++(g::ql))) true)):=by
   intro S2 h
   rw[store_row (e:=.int .u32 0) h (by rw[show(0:Int)=((0:Nat):Int) from rfl];exact u32s_get (by rw[List.getElem?_append_left (by simp)];simp)) rfl rfl rfl]
   rw[u32s_set,Nat.zero_add,zset]
  refine wo (idx_off2 (show m<N by omega)) ?_
  refine wo (store _ (by rw[hS];rfl)) ?_
  rw[succI (by omega)]
  have hset:(S.set 0 (Row.cells (u32s (A++x2++C)) true)).set 2 (Row.cells (u32s (List.replicate m 0++(g::ql))) true)=[.cells (u32s (A++x2++C)) true,r1,.cells (u32s (List.replicate m 0++(g::ql))) true]:=by rw[hS];rfl
  rw[hset]
  clear hset
  refine ih (A++x2++C) (g::ql) vl L n N (i+1) A0 capu capq c r1 _ _ k rfl ?_ (by omega) hv hn hL ?_ hN (by omega) ((bA.append bx2).append bC) (Bd.cons hg bq) bv ?_ ?_ h9 h10 h11 h55 rfl ?_
  ·simp only[List.length_append]at hU ⊢;omega
  ·simp only[List.length_cons];omega
  ·rw[List.append_assoc,List.drop_append,List.drop_of_length_le (by omega),List.nil_append,show m-A.length=0 by omega,List.drop_zero,val_append,hC0]
   omega
  ·rw[val_append,val_append,hC0,hAl,val]
   rw[←hA,Nat.pow_succ,←hx2v]
   grind
  ·intro U' q' e' b1 b2 b3 b4 b5 b6 b7 b8 b9
   exact hk U' q' e' b1 b2 b3 b4 b5 b6 b7 b8 b9
theorem s_scale{t s:Nat}(hs:s≤31)(h:t*2^s<4294967296):2^s*(t+1)≤4294967296:=by
 have hp:=pow_split hs
 have hP:0<2^s:=Nat.pow_pos (by omega)
 generalize 2^s=P at *
 generalize 2^(32-s)=T at *
 rw[←hp]at h ⊢
 rw[Nat.mul_comm t]at h
 exact Nat.mul_le_mul_left _ (Nat.lt_of_mul_lt_mul_left h)
theorem m_div{a b:Nat}{c d:VC}{Q:SV→Prop}(hb0:0<b)(ha:(encN a).length<8796093022207)(hb2:(encN b).length<8796093022207)(hca:c=.nil→a=0)(h:∀c1 c2,(c1=.nil→a/b=0)→(c2=.nil→a%b=0)→Q (.tup [.vsl (u32s (encN (a/b))) c1,.vsl (u32s (encN (a%b))) c2])) :
  wpO (pW cT 231 [.vsl (u32s (encN a)) c,.vsl (u32s (encN b)) d]) Q:=by
 refine po rfl (F231_ok (k:=fun v S=>wpO (frz S dS v) Q) ?_)
 unfold F231
 refine cpu rfl rfl (m_ncmp (by omega) (by omega) ?_)
 simp only[b_lss,ws]
 by_cases hab:a<b
 ·have hc:cmp3 a b=-1:=by unfold cmp3;rw[if_pos hab]
  rw[hc,decide_eq_true (by omega),condP_t]
  have hq:a/b=0:=Nat.div_eq_of_lt hab
  have hr:a%b=a:=Nat.mod_eq_of_lt hab
  rw[hq,hr]at h
  have:=h .nil c (fun _=>rfl) hca
  refine wo rfl ?_
  exact this
 have hc3:¬cmp3 a b<0:=by
  unfold cmp3
  rw[if_neg (by omega)]
  split<;>decide
 rw[decide_eq_false hc3,cf_]
 clear hc3
 simp only[len115,b_eql,ws]
 have hbl:=enc_len_pos.2 hb0
 by_cases hn1:(encN b).length=1
 ·rw[decide_eq_true (by omega),condP_t]
  have hbB:b<4294967296:=by have:=enc_lt (n:=b);rwa [hn1,Nat.pow_one]at this
  have hbe:encN b=[b]:=by
   match he:encN b,hn1 with
   |[x],_=>
    have:=encN_val b
    rw[he]at this
    simp[val]at this
    rw[this]
  rw[hbe]
  refine wo (idx115 (i:=0) (d:=b) rfl) ?_
  refine wo (load108 _ _) ?_
  refine cpu rfl rfl (m_word hb0 hbB (by omega) fun c1 hc1=>?_)
  iterate 2 refine wo rfl ?_
  have hrl:=Nat.mod_lt a hb0
  generalize hr:a%b=r at *
  refine wo rfl ?_
  refine call_row (es:=u32s [r]) rfl rfl rfl u32s_pure ?_
  refine c117 (Bd.cons (by omega) Bd.nil) (by simp) capM fun c2 hc2=>?_
  have hv:val [r]=r:=by simp[val]
  rw[hv]at hc2 ⊢
  refine wo rfl ?_
  exact h c1 c2 hc1 hc2
 rw[decide_eq_false (by omega),cf_]
 simp only[b_sub,ws]
 generalize hn:(encN b).length=n at *
 have hn2:2≤n:=by omega
 obtain⟨t,ht⟩:∃t,(encN b)[n-1]?=some t:=⟨(encN b)[n-1]'(by omega),by simp⟩
 have htB:=(encN_bd b).get ht
 have ht0:t≠0:=fun e=>by
  have hv:=val_take_succ (encN b) (n-1)
  rw[show n-1+1=n by omega,List.take_of_length_le (by omega),encN_val,ht,e]at hv
  simp only[Option.getD_some,Nat.mul_zero,Nat.add_zero]at hv
  have hlo:=val_lt ((encN_bd b).take (n-1))
  rw[List.length_take,Nat.min_eq_left (by omega)]at hlo
  have hge:=enc_ge hb0
  rw[hn]at hge
  omega
 rw[show wrS .i64 ((n:Int)-1)=((n-1:Nat):Int) from subI (j:=1) (by omega) (by omega)]
 refine wo (idx115 ht) ?_
 refine wo (load108 _ _) ?_
 refine cpu rfl rfl (m_lz htB ht0 fun s hs hs1 hs2=>?_)
 have hsc:=s_scale hs hs1
 have hd1:1≤2^s:=Nat.pow_pos (by omega)
 have hd2:2^s<4294967296:=by
  have:=Nat.mul_le_mul_left (2^s) (show 2≤t+1 by omega)
  omega
 obtain⟨hVl,hbge⟩:=scale2 hn hn2 ht hsc hd1 hd2
 have hst:∀(U:List Nat) (m:Nat),val U=a*2^s→m+(n-1)=(encN a).length→m≤U.length→val (U.drop m)<b*2^s:=fun U m h1 h2 h3=>drop_lt h1 (start_lt (n:=n) (m:=m) enc_lt hbge hd1 h2) h3
 clear hbge hs1 hs2 hsc hd2
 generalize hla:(encN a).length=la at *
 have hnl:n≤la:=by rw[←hn,←hla];exact enc_len_mono (by omega)
 refine m_shl (by omega) (encN_bd a) hs fun o1 ho1 hb1 hv1=>?_
 refine m_shl (by omega) (encN_bd b) hs fun o2 ho2 hb2' hv2=>?_
 rw[encN_val]at hv1 hv2
 rw[hla]at ho1 ⊢
 rw[hn]at ho2 ⊢
 refine call_row (es:=u32s o2) rfl rfl (by rw[u32s_len];exact ho2.symm) u32s_pure ?_
 refine c117 hb2' (by omega) capM fun c3 hc3=>?_
 rw[hv2]
 refine wo len_off2 ?_
 refine wo (len115 _ _) ?_
 rw[hVl]
 simp only[b_sub,ws]
 rw[show wrS .i64 (((la+1:Nat):Int)-(n:Int))=((la+1-n:Nat):Int) from subI (by omega) (by omega)]
 generalize hm:la+1-n=m
 refine wo (mksl_ok (j:=y23) (by decide) rfl (by unfold roomS;omega) (by unfold roomS;show m*4≤_;omega)) ?_
 refine wo len_off2 ?_
 show DenP cT 84 (.loop L231_0) _ [.cells (u32s o1) true,.cells (u32s o2) false,.cells (List.replicate m (SV.int .u32 0)) true] _
 rw[u32s_zeros]
 have hst:=hst o1 m hv1 (by omega) (by omega)
 refine ndiv_loop m o1 [] (encN (b*2^s)) (la+1) n m 0 (a*2^s) (some (la+1)) (some m) c3 (.cells (u32s o2) false) _ _ _ (by rw[List.append_nil]) ho1 (by omega) hVl hn2 (by omega) (by simp) (by omega) (by omega) hb1 Bd.nil (encN_bd _) (by rw[encN_val];exact hst) (by rw[hv1,val];simp) rfl rfl rfl rfl rfl ?_
 intro U' q' e' hU'l hq'l bU' bq' hlt hA g8 g9 g11
 rw[encN_val]at hlt hA
 obtain⟨hq,hr⟩:=div_end hd1 hA hlt
 have g8':e' 8=.int .i64 (s:Int):=g8
 have hUl2:(encN (val U')).length≤la+1:=hU'l▸enc_len_le (val_lt bU')
 clear hA hlt hst hv1 hv2
 refine K231_0e0_ok ?_
 unfold TK231_0e0
 rw[g8',g9,g11]
 refine call_row (es:=u32s q') rfl rfl (by rw[u32s_len];exact hq'l.symm) u32s_pure ?_
 refine c117 bq' (by omega) capM fun c7 hc7=>?_
 refine call_row (es:=u32s U') rfl rfl (by rw[u32s_len];exact hU'l.symm) u32s_pure ?_
 refine c117 bU' (by omega) capM fun c5 hc5=>?_
 refine cpu rfl rfl (m_shr (by omega) (encN_bd _) hs fun c6 hc6=>?_)
 rw[encN_val,hr]at hc6 ⊢
 rw[hq]at hc7 ⊢
 refine wo rfl ?_
 exact h c7 c6 hc7 hc6
theorem cmp3_lt{a b:Nat}:cmp3 a b<0↔a<b:=by
 unfold cmp3
 by_cases h:a<b
 ·simp[h]
 ·by_cases h2:b<a<;>simp[h,h2]
theorem m_add{z w:Int}{c d:VC}{Q:SV→Prop}(hz:wd z<17592186044414)(hw:wd w<17592186044414)(h:∀c',(c'=.nil→z+w=0)→Q (I (z+w) c')):wpO (pW cT 106 [I z c,I w d]) Q:=by
 refine po rfl (F106_ok (k:=fun v S=>wpO (frz S dS v) Q) ?_)
 unfold F106
 unfold wd at hz hw
 have hsum:=wd_add (a:=z.natAbs) (b:=w.natAbs) (n:=17592186044413) (by omega) (by omega)
 have hs1:=enc_len_mono (Nat.sub_le z.natAbs w.natAbs)
 have hs2:=enc_len_mono (Nat.sub_le w.natAbs z.natAbs)
 have key:∀v c',v=I (z+w) c'→(c'=.nil→z+w=0)→Q v:=fun v c' e hc=>by rw[e];exact h c' hc
 unfold I
 iterate 11 refine wo rfl ?_
 refine wo (b_beq rfl) ?_
 refine condP_b (fun hs=>?_) (fun hs=>?_)
 ·have hs':decide (z<0)=decide (w<0):=by simpa using hs
  refine cpu rfl rfl (c77 (by omega) (by omega) fun c1 hc1=>?_)
  iterate 2 refine wo rfl ?_
  refine cpu rfl rfl (c76 (z:=z+w) (by omega) ?_ hc1 fun c2 hc2=>?_)
  ·by_cases h1:z<0
   ·rw[decide_eq_true h1]at hs' ⊢
    have h2:w<0:=by simpa using hs'.symm
    simp;omega
   ·rw[decide_eq_false h1]at hs' ⊢
    have h2:¬w<0:=by simpa using hs'.symm
    simp;omega
  ·iterate 2 refine wo rfl ?_
   exact h c2 hc2
 ·have hs':¬(decide (z<0)=decide (w<0)):=by simpa using hs
  refine cpu rfl rfl (m_ncmp (by omega) (by omega) ?_)
  simp only[b_lss,ws]
  refine condP_dec (fun hlt=>?_) (fun hge=>?_)
  ·have hlt2:=cmp3_lt.1 hlt
   refine cpu rfl rfl (m_nsub (by omega) (by omega) fun c1 hc1=>?_)
   iterate 2 refine wo rfl ?_
   refine cpu rfl rfl (c76 (z:=z+w) (by omega) ?_ hc1 fun c2 hc2=>?_)
   ·by_cases h1:z<0<;>by_cases h2:w<0
    ·exact absurd (by rw[decide_eq_true h1,decide_eq_true h2]) hs'
    ·rw[decide_eq_false h2];simp;omega
    ·rw[decide_eq_true h2];simp;omega
    ·exact absurd (by rw[decide_eq_false h1,decide_eq_false h2]) hs'
   ·iterate 2 refine wo rfl ?_
    exact h c2 hc2
  ·have hge2:¬z.natAbs<w.natAbs:=fun e=>hge (cmp3_lt.2 e)
   refine cpu rfl rfl (m_nsub (by omega) (by omega) fun c1 hc1=>?_)
   iterate 2 refine wo rfl ?_
   refine cpu rfl rfl (c76 (z:=z+w) (by omega) ?_ hc1 fun c2 hc2=>?_)
   ·by_cases h1:z<0<;>by_cases h2:w<0
    ·exact absurd (by rw[decide_eq_true h1,decide_eq_true h2]) hs'
    ·rw[decide_eq_true h1];simp;omega
    ·rw[decide_eq_false h1];simp;omega
    ·exact absurd (by rw[decide_eq_false h1,decide_eq_false h2]) hs'
   ·iterate 2 refine wo rfl ?_
    exact h c2 hc2
theorem m_sub{z w:Int}{c d:VC}{Q:SV→Prop}(hz:wd z<17592186044414)(hw:wd w<17592186044414)(hd:d=.nil→w=0)(h:∀c',(c'=.nil→z-w=0)→Q (I (z-w) c')):wpO (pW cT 237 [I z c,I w d]) Q:=by
 refine po rfl (F237_ok (k:=fun v S=>wpO (frz S dS v) Q) ?_)
 unfold F237
 iterate 5 refine wo rfl ?_
 refine cpu rfl rfl (c35 (by omega) hd fun c1 hc1=>?_)
 have hn:wd (-w)=wd w:=by unfold wd;rw[Int.natAbs_neg]
 refine cpu rfl rfl (m_add hz (by omega) fun c2 hc2=>?_)
 refine wo rfl (wo rfl ?_)
 rw[show z+-w=z-w by omega]at hc2 ⊢
 exact h c2 hc2
theorem cmpI_cmp3{a b:Nat}{x y:Int}(h:(a<b↔x<y))(h2:(b<a↔y<x)):cmp3 a b=cmpI x y:=by
 unfold cmp3 cmpI
 by_cases h3:a<b
 ·rw[if_pos h3,if_pos (h.1 h3)]
 ·rw[if_neg h3,if_neg (fun e=>h3 (h.2 e))]
  by_cases h4:b<a
  ·rw[if_pos h4,if_pos (h2.1 h4)]
  ·rw[if_neg h4,if_neg (fun e=>h4 (h2.2 e))]
theorem m_cmpz{z w:Int}{c d:VC}{Q:SV→Prop}(hz:wd z<17592186044414)(hw:wd w<17592186044414)(h:Q (.int .i64 (cmpI z w))):wpO (pW cT 96 [I z c,I w d]) Q:=by
 refine po rfl (F96_ok (k:=fun v S=>wpO (frz S dS v) Q) ?_)
 unfold F96
 unfold wd at hz hw
 iterate 6 refine wo rfl ?_
 refine wo (b_bne rfl) ?_
 refine condP_b (fun hs=>?_) (fun hs=>?_)
 ·have hs':¬(decide (z<0)=decide (w<0)):=by simpa using hs
  refine wo (x:=I z c) rfl ?_
  refine cpu rfl rfl (c34 ?_)
  refine wo (x:=I w d) rfl ?_
  refine cpu rfl rfl (c34 ?_)
  refine cpu rfl rfl (m_cmp ?_)
  have:cmpI (sgn z) (sgn w)=cmpI z w:=by
   by_cases h1:z<0<;>by_cases h2:w<0
   ·exact absurd (by rw[decide_eq_true h1,decide_eq_true h2]) hs'
   ·unfold cmpI sgn
    rw[if_pos h1,if_neg h2,if_pos (by split<;>omega),if_pos (by omega)]
   ·unfold cmpI sgn
    rw[if_neg h1,if_pos h2,if_neg (by split<;>omega),if_pos (by split<;>omega),if_neg (by omega),if_pos (by omega)]
   ·exact absurd (by rw[decide_eq_false h1,decide_eq_false h2]) hs'
  rw[this]
  exact h
 ·have hs':decide (z<0)=decide (w<0):=by simpa using hs
  iterate 2 refine wo rfl ?_
  refine condP_b (fun hn=>?_) (fun hn=>?_)
  ·have h1:z<0:=of_decide_eq_true hn
   have h2:w<0:=by rw[decide_eq_true h1]at hs';simpa using hs'.symm
   iterate 8 refine wo rfl ?_
   refine cpu rfl rfl (m_ncmp (a:=w.natAbs) (b:=z.natAbs) (by omega) (by omega) ?_)
   rw[cmpI_cmp3 (x:=z) (y:=w) (by omega) (by omega)]
   exact h
  ·have h1:¬z<0:=of_decide_eq_false hn
   have h2:¬w<0:=by rw[decide_eq_false h1]at hs';simpa using hs'.symm
   iterate 4 refine wo rfl ?_
   refine cpu rfl rfl (m_ncmp (a:=z.natAbs) (b:=w.natAbs) (by omega) (by omega) ?_)
   rw[cmpI_cmp3 (x:=z) (y:=w) (by omega) (by omega)]
   exact h
theorem m_of{n:Nat}{Q:SV→Prop}(hn:n<9223372036854775808)(h:∀c',(c'=.nil→(n:Int)=0)→Q (I (n:Int) c')):wpO (pW cT 92 [.int .i64 (n:Int)]) Q:=by
 refine po rfl (F92_ok (k:=fun v S=>wpO (frz S dS v) Q) ?_)
 unfold F92
 refine wo rfl ?_
 simp only[b_lss,ws]
 rw[decide_eq_false (by omega),cf_]
 have c1:convS y25 (.int .i64 (n:Int))=some (.int .u64 (n:Int)):=by
  have:convS y25 (.int .i64 (n:Int))=some (.int .u64 (wrS .u64 (n:Int))):=conv_int rfl rfl
  rw[this,wrapU64 (by omega) (by omega)]
 rw[c1,ws]
 refine cpu rfl rfl (m_natural (by omega) fun c2 hc2=>?_)
 have hl:(encN n).length≤2:=enc_len_le (Nat.lt_of_lt_of_le hn (by decide))
 refine cpu rfl rfl (c76 (b:=false) (z:=(n:Int)) (by omega) (by simp) hc2 fun c3 hc3=>?_)
 iterate 2 refine wo rfl ?_
 exact h c3 hc3
theorem val_le2{l:List Nat}(hl:l.length≤2):val l=l[1]?.getD 0*4294967296+l[0]?.getD 0:=by
 match l,hl with
 |[],_=>rfl
 |[a],_=>simp[val]
 |[a,b],_=>simp[val];omega
theorem m_small{z:Int}{c:VC}{Q:SV→Prop}(h0:0≤z)(h1:z<4611686018427387904)(h:Q (.tup [.int .i64 z,.bool true])):wpO (pW cT 164 [I z c]) Q:=by
 have hl:(encN z.natAbs).length≤2:=enc_len_le (Nat.lt_of_lt_of_le (show z.natAbs<4611686018427387904 by omega) (by decide))
 have hv:=val_le2 hl
 rw[encN_val]at hv
 have b1:=(encN_bd z.natAbs).getD 1
 have b0:=(encN_bd z.natAbs).getD 0
 refine po rfl (F164_ok (k:=fun v S=>wpO (frz S dS v) Q) ?_)
 unfold F164
 rw[I_pos (by omega)]
 iterate 3 refine wo rfl ?_
 refine cpu rfl rfl (c120 (i:=1) ?_)
 generalize (encN z.natAbs)[1]?.getD 0=hi at b1 hv ⊢
 have cA:=conv51 b1
 have cB:=shl32c (u:=some y25) b1
 rw[cA,ws,cB,ws]
 clear cA cB
 refine cpu rfl rfl (c120 (i:=0) ?_)
 generalize (encN z.natAbs)[0]?.getD 0=lo at b0 hv ⊢
 have cC:=conv51 b0
 have cD:=join32c (u:=some y25) (a:=hi) (b:=lo) b0 (by omega)
 rw[cC,ws,cD,ws,←hv]
 clear cC cD
 refine wo (len115 _ _) ?_
 simp only[b_gtr,ws]
 rw[decide_eq_false (by omega),cf_]
 have e1:faS cT y44 (.optr ([]:Zt).length 0 0) 0=some (.optr 0 0 0):=rfl
 have e2:∀x,ldS y4 ([]++[Row.cells [SV.agg [SV.bool false,x]] true]) (.optr 0 0 0)=some (.bool false):=fun x=>rfl
 rw[e1]
 simp only[ws,e2,grdP_ft,pickS_f,cf_,u_not,Bool.not_false,grdP_tt,b_lss]
 rw[decide_eq_true (by omega)]
 simp only[pickS_t,ws,condP_t]
 rw[conv2,ws,wrap64 (by omega) (by omega),show((z.natAbs:Nat):Int)=z by omega]
 exact h
theorem m_valid{z:Int}{c:VC}{Q:SV→Prop}(hz:wd z<17592186044414)(h:Q (.bool true)):wpO (pW cT 95 [I z c]) Q:=by
 unfold wd at hz
 refine po rfl (F95_ok (k:=fun v S=>wpO (frz S dS v) Q) ?_)
 unfold F95
 iterate 3 refine wo rfl ?_
 refine wo (len30 _ _) ?_
 simp only[b_gtr,ws]
 by_cases h0:0<z.natAbs
 ·have hl:=enc_len_pos.2 h0
  rw[decide_eq_true (by omega),condP_t]
  iterate 2 refine wo rfl ?_
  simp only[b_sub,ws]
  rw[show wrS .i64 (((encN z.natAbs).length:Int)-1)=(((encN z.natAbs).length-1:Nat):Int) from subI (j:=1) (by omega) (by omega)]
  obtain⟨t,ht⟩:∃t,(encN z.natAbs)[(encN z.natAbs).length-1]?=some t:=⟨(encN z.natAbs)[(encN z.natAbs).length-1]'(by omega),by simp⟩
  refine wo (idx30 ht) ?_
  refine wo (load108 _ _) ?_
  simp only[b_neq,ws]
  have ht0:t≠0:=fun e=>by
   have hv:=val_take_succ (encN z.natAbs) ((encN z.natAbs).length-1)
   rw[show(encN z.natAbs).length-1+1=(encN z.natAbs).length by omega,List.take_length,encN_val,ht,e]at hv
   simp only[Option.getD_some,Nat.mul_zero,Nat.add_zero]at hv
   have hlo:=val_lt ((encN_bd z.natAbs).take ((encN z.natAbs).length-1))
   rw[List.length_take,Nat.min_eq_left (by omega)]at hlo
   have hge:=enc_ge h0
   omega
  rw[decide_eq_true (by omega)]
  exact h
 ·have hz0:z=0:=by omega
  subst hz0
  refine cndF rfl ?_
  iterate 3 refine wo rfl ?_
  exact h
theorem m_divmod{z w:Int}{c d:VC}{Q:SV→Prop}(hw0:w≠0)(hw:wd w<8796093022206)(hz:wd z<8796093022206)(hcz:c=.nil→z=0)(h:∀c1 c2,(c1=.nil→z/w=0)→(c2=.nil→z%w=0)→Q (.tup [I (z/w) c1,I (z%w) c2,.int .i64 0])):wpO (pW cT 163 [I z c,I w d]) Q:=by
 refine po rfl (F163_ok (k:=fun v S=>wpO (frz S dS v) Q) ?_)
 unfold F163
 unfold wd at hz hw
 have hlb0:0<(encN w.natAbs).length:=enc_len_pos.2 (by omega)
 have hq:=enc_len_mono (Nat.div_le_self z.natAbs w.natAbs)
 have hrl:(encN (z.natAbs%w.natAbs)).length≤(encN w.natAbs).length:=enc_len_mono (Nat.le_of_lt (Nat.mod_lt _ (by omega)))
 have hrlt:=Nat.mod_lt z.natAbs (show 0<w.natAbs by omega)
 by_cases h1:z<0
 ·rw[I_neg h1]
  unfold I at *
  iterate 6 refine wo rfl ?_
  refine wo (len115 _ _) ?_
  refine wo b_eql ?_
  refine condP_b (fun hc=>?_) (fun hc=>?_)
  ·have:=of_decide_eq_true hc;omega
  iterate 2 refine wo rfl ?_
  refine cpu rfl rfl (m_div (by omega) (by omega) (by omega) (fun e=>by rw[hcz e];rfl) fun c1 c2 hc1 hc2=>?_)
  iterate 4 refine wo rfl ?_
  refine grdT rfl (grdT rfl (wo (len115 _ _) (grdT rfl (wo b_gtr (wo (pickS_t) ?_)))))
  refine condP_b (fun hc=>?_) (fun hc=>?_)
  ·have hpos:0<z.natAbs%w.natAbs:=enc_len_pos.1 (by have:=of_decide_eq_true hc;omega)
   obtain⟨hd1,hd2⟩:=div_sign2 hw0 h1 hpos
   have hadd:=wd_add (a:=z.natAbs/w.natAbs) (b:=1) (n:=17592186044413) (by omega) (by rw[enc_one];decide)
   have hsub:=enc_len_mono (Nat.sub_le w.natAbs (z.natAbs%w.natAbs))
   refine cpu rfl rfl (m_natural (n:=1) (by omega) fun c0 hc0=>?_)
   refine cpu rfl rfl (c77 (a:=z.natAbs/w.natAbs) (b:=1) (c:=c1) (by omega) (by rw[enc_one];decide) fun c3 hc3=>?_)
   refine cpu rfl rfl (m_nsub (a:=w.natAbs) (b:=z.natAbs%w.natAbs) (Nat.le_of_lt hrlt) (by omega) fun c4 hc4=>?_)
   iterate 4 refine wo rfl ?_
   refine wo (b_bne rfl) ?_
   rw[decide_eq_true h1]at hd1
   refine cpu rfl rfl (c76 (z:=z/w) (by omega) hd1 hc3 fun c5 hc5=>?_)
   refine cpu rfl rfl (c76 (b:=false) (z:=z%w) (by omega) (by simpa using hd2) hc4 fun c6 hc6=>?_)
   iterate 4 refine wo rfl ?_
   exact h c5 c6 hc5 hc6
  ·have hzero:z.natAbs%w.natAbs=0:=by
    rcases Nat.eq_zero_or_pos (z.natAbs%w.natAbs)with h0|h0
    ·exact h0
    ·have h2:=of_decide_eq_false hc
     have:=enc_len_pos.2 h0;omega
   obtain⟨hd1,hd2⟩:=div_sign hw0 (fun _=>hzero)
   rw[decide_eq_true h1]at hd1
   iterate 4 refine wo rfl ?_
   refine wo (b_bne rfl) ?_
   refine cpu rfl rfl (c76 (z:=z/w) (by omega) hd1 hc1 fun c5 hc5=>?_)
   refine cpu rfl rfl (c76 (b:=false) (z:=z%w) (by omega) (by simpa using hd2) hc2 fun c6 hc6=>?_)
   iterate 4 refine wo rfl ?_
   exact h c5 c6 hc5 hc6
 ·rw[I_pos h1]
  unfold I at *
  iterate 6 refine wo rfl ?_
  refine wo (len115 _ _) ?_
  refine wo b_eql ?_
  refine condP_b (fun hc=>?_) (fun hc=>?_)
  ·have:=of_decide_eq_true hc;omega
  iterate 2 refine wo rfl ?_
  refine cpu rfl rfl (m_div (by omega) (by omega) (by omega) (fun e=>by rw[hcz e];rfl) fun c1 c2 hc1 hc2=>?_)
  iterate 4 refine wo rfl ?_
  refine grdF rfl (grdF rfl (grdF rfl (wo pickS_f (cndF rfl ?_))))
  obtain⟨hd1,hd2⟩:=div_sign hw0 (fun h=>absurd h h1)
  rw[decide_eq_false h1]at hd1
  iterate 4 refine wo rfl ?_
  refine wo (b_bne rfl) ?_
  refine cpu rfl rfl (c76 (z:=z/w) (by omega) hd1 hc1 fun c5 hc5=>?_)
  refine cpu rfl rfl (c76 (b:=false) (z:=z%w) (by omega) (by simpa using hd2) hc2 fun c6 hc6=>?_)
  iterate 4 refine wo rfl ?_
  exact h c5 c6 hc5 hc6
theorem shrI{u:Option TyI}{n i:Nat}(hn:n<256)(hi:i≤64):bnS .shr u (.int .i64 (n:Int)) (.int .i64 (i:Int))=some (.int .i64 ((n/2^i:Nat):Int)):=by
 have h2:=b_shr (u:=u) (k:=.i64) (k':=.i64) (a:=(n:Int)) (n:=i) hi
 refine Eq.trans h2 ?_
 rw[Int.fdiv_eq_ediv_of_nonneg _ (by have:=Int.pow_pos (n:=2) (m:=i) (by omega);omega)]
 congr 2
theorem and1I{u:Option TyI}{n:Nat}(hn:n<256):bnS .and u (.int .i64 (n:Int)) (.int .i64 1)=some (.int .i64 ((n%2:Nat):Int)):=by
 have e:bnS .and u (.int .i64 (n:Int)) (.int .i64 1)=some (.int .i64 (wrS .i64 (BitVec.ofInt 64 (n:Int) &&& BitVec.ofInt 64 1).toNat)):=rfl
 rw[e]
 have e1:(BitVec.ofInt 64 (n:Int) &&& BitVec.ofInt 64 1).toNat=n%2:=by
  have e2:BitVec.ofInt 64 (1:Int)=BitVec.ofNat 64 1:=rfl
  rw[BitVec.ofInt_natCast,e2,BitVec.toNat_and,BitVec.toNat_ofNat,BitVec.toNat_ofNat]
  show(n%2^64) &&& 1=n%2
  rw[Nat.and_one_is_mod]
  omega
 rw[e1,wrap64 (by omega) (by omega)]
theorem pw_odd{o b k:Nat}(h:k%2=1):(o*b)*(b*b)^(k/2)=o*b^k:=by
 have e:b^k=b*(b*b)^(k/2):=by
  rw[←Nat.pow_two,←Nat.pow_mul,Nat.mul_comm b,←Nat.pow_succ]
  congr 1;omega
 rw[e,Nat.mul_assoc]
theorem pw_even{o b k:Nat}(h:¬k%2=1):o*(b*b)^(k/2)=o*b^k:=by
 have e:b^k=(b*b)^(k/2):=by
  rw[←Nat.pow_two,←Nat.pow_mul]
  congr 1;omega
 rw[e]
theorem len_T{a T N:Nat}(h:a≤T)(hT:(encN T).length≤N):(encN a).length≤N:=Nat.le_trans (enc_len_mono h) hT
theorem fac_le{o x k T:Nat}(h:o*x^k=T)(hT:0<T):o≤T∧(0<k→x≤T):=by
 have hx:0<x^k:=by
  rcases Nat.eq_zero_or_pos (x^k)with e|e
  ·rw[e]at h;simp at h;omega
  ·exact e
 have ho:0<o:=by
  rcases Nat.eq_zero_or_pos o with e|e
  ·rw[e]at h;simp at h;omega
  ·exact e
 refine⟨by rw[←h];exact Nat.le_mul_of_pos_right o hx,fun hk=>?_⟩
 have h1:x^1≤x^k:=by
  rcases Nat.eq_zero_or_pos x with e|e
  ·subst e;rw[Nat.pow_one];omega
  ·exact Nat.pow_le_pow_right e hk
 rw[Nat.pow_one]at h1
 rw[←h]
 exact Nat.le_trans h1 (Nat.le_mul_of_pos_left _ ho)
theorem npow_loop:∀(m o x n i L T N:Nat) (co cx:VC) (e:En) (k:X→En→Zt→Prop),i+m=L→L≤8→0<n→n<256→n<2^L→(n≠0→2^L≤2*n)→0<T→(encN T).length≤N→N<1000000→o*x^(n/2^i)=T→(encN x).length≤N+1→
  e 0=.vsl (u32s (encN x)) cx→e 1=.int .i64 (n:Int)→e 5=.vsl (u32s (encN o)) co→e 10=.int .i64 (L:Int)→e 11=.int .i64 (i:Int)→
  (∀(co':VC) (e':En),(co'=.nil→co=.nil∨T=0)→e' 5=.vsl (u32s (encN T)) co'→k (.exit 0) e' [])→DenP cT 31 (.loop L173_0) e [] k:=by
 intro m
 induction m with
 |zero=>
  intro o x n i L T N co cx e k hi hL hn00 hn hnL hnL2 hT hTN hN hinv hxl h0 h1 h5 h10 h11 hk
  refine L173_0_ok ?_
  unfold TL173_0
  simp only[h10,h11,b_lss,ws]
  rw[decide_eq_false (by omega),cf_]
  have:n/2^i=0:=Nat.div_eq_of_lt (by rw[show i=L by omega];exact hnL)
  rw[this,Nat.pow_zero,Nat.mul_one]at hinv
  subst hinv
  exact hk co _ (fun e=>.inl e) h5
 |succ m ih=>
  intro o x n i L T N co cx e k hi hL hn00 hn hnL hnL2 hT hTN hN hinv hxl h0 h1 h5 h10 h11 hk
  obtain⟨hoT,hxT⟩:=fac_le hinv hT
  have hol:=len_T hoT hTN
  have hdiv:n/2^(i+1)=n/2^i/2:=by rw[Nat.pow_succ,Nat.div_div_eq_div_mul]
  have hlt:n/2^i≤n:=Nat.div_le_self _ _
  have hpos:0<n/2^i:=by
   have hn0:n≠0:=by omega
   have h1:=hnL2 hn0
   have h2:2^(i+1)≤2^L:=Nat.pow_le_pow_right (by omega) (by omega)
   rw[Nat.pow_succ]at h2
   refine Nat.div_pos (by omega) (Nat.pow_pos (by omega))
  have hn1:n≠0:=fun e=>by subst e;simp at hpos
  have hxl2:=len_T (hxT hpos) hTN
  have half:∀(o':Nat) (co':VC) (e':En),e' 0=.vsl (u32s (encN x)) cx→e' 1=.int .i64 (n:Int)→e' 5=.vsl (u32s (encN o')) co'→e' 10=.int .i64 (L:Int)→e' 11=.int .i64 (i:Int)→e' 6=.int .i64 (i:Int)→(co'=.nil→co=.nil)→
    (1<n/2^i→o'*(x*x)^(n/2^i/2)=T)→(n/2^i=1→o'=T)→TK173_1n e' [] k:=by
   intro o' co' e' g0 g1 g5 g10 g11 g6 hcc hs1 hs2
   unfold TK173_1n
   simp only[g0,g1,g6,g11]
   have cs:=shrI (u:=some y3) (n:=n) (i:=i) hn (by omega)
   rw[cs,ws]
   clear cs
   simp only[b_gtr,ws]
   refine condP_dec (fun hgt=>?_) (fun hle=>?_)
   ·refine cpu rfl rfl (c81 (by omega) (by omega) fun c2 hc2=>?_)
    simp only[b_add,ws]
    rw[succI (by omega)]
    have hnew:=hs1 (by omega)
    rw[←hdiv]at hnew
    have hxx:(encN (x*x)).length≤N+1:=by
     have:=(fac_le hnew hT).2 (by rw[hdiv];omega)
     have:=len_T this hTN
     omega
    refine ih o' (x*x) n (i+1) L T N co' c2 _ k (by omega) hL hn00 hn hnL hnL2 hT hTN hN hnew hxx rfl g1 g5 g10 rfl ?_
    intro c3 e3 hc3 h3
    exact hk c3 e3 (fun e=>by rcases hc3 e with h|h;exact .inl (hcc h);exact .inr h) h3
   ·simp only[b_add,ws]
    rw[succI (by omega)]
    have hnew:=hs2 (by omega)
    have h0':n/2^(i+1)=0:=by rw[hdiv];omega
    refine ih o' x n (i+1) L T N co' cx _ k (by omega) hL hn00 hn hnL hnL2 hT hTN hN (by rw[h0',Nat.pow_zero,Nat.mul_one];exact hnew) hxl g0 g1 g5 g10 rfl ?_
    intro c3 e3 hc3 h3
    exact hk c3 e3 (fun e=>by rcases hc3 e with h|h;exact .inl (hcc h);exact .inr h) h3
  refine L173_0_ok ?_
  unfold TL173_0
  simp only[h0,h1,h5,h10,h11,b_lss,ws]
  rw[decide_eq_true (by omega),condP_t]
  have cs:=shrI (u:=some y3) (n:=n) (i:=i) hn (by omega)
  rw[cs,ws]
  clear cs
  have ca:=and1I (u:=some y3) (n:=n/2^i) (by omega)
  rw[ca,ws]
  clear ca
  simp only[b_eql,ws]
  refine condP_dec (fun hodd=>?_) (fun hev=>?_)
  ·refine cpu rfl rfl (c81 (by omega) (by omega) fun c2 hc2=>?_)
   refine half (o*x) c2 _ h0 h1 rfl h10 h11 rfl (fun e=>?_) (fun hgt=>?_) (fun h1'=>?_)
   ·have h0:=hc2 e
    exfalso
    have:o*x^(n/2^i)=0:=by
     have e1:x^(n/2^i)=x*x^(n/2^i-1):=by rw[Nat.mul_comm,←Nat.pow_succ];congr 1;omega
     rw[e1,←Nat.mul_assoc,h0,Nat.zero_mul]
    omega
   ·rw[pw_odd (by omega)];exact hinv
   ·rw[h1',Nat.pow_one]at hinv;exact hinv
  ·refine half o co _ h0 h1 h5 h10 h11 rfl (fun e=>e) (fun hgt=>?_) (fun h1'=>?_)
   ·rw[pw_even (by omega)];exact hinv
   ·omega
theorem m_npow{x n N:Nat}{c:VC}{Q:SV→Prop}(hn0:0<n)(hn:n<256)(hx:0<x)(hl:(encN x).length≤N+1)(hT:(encN (x^n)).length≤N)(hN:N<1000000)(h:∀c',c'≠.nil→Q (.vsl (u32s (encN (x^n))) c')):wpO (pW cT 173 [.vsl (u32s (encN x)) c,.int .i64 (n:Int)]) Q:=by
 have hpos:0<x^n:=Nat.pow_pos hx
 refine po rfl (F173_ok (k:=fun v S=>wpO (frz S dS v) Q) ?_)
 unfold F173
 refine cpu rfl rfl (m_natural (n:=1) (by omega) fun c0 hc0=>?_)
 have c1:convS y157 (.int .i64 (n:Int))=some (.int .u64 (n:Int)):=by
  have:convS y157 (.int .i64 (n:Int))=some (.int .u64 (wrS .u64 (n:Int))):=conv_int rfl rfl
  rw[this,wrapU64 (by omega) (by omega)]
 rw[c1,ws]
 refine cpu rfl rfl ?_
 refine po rfl (F135_ok (k:=fun v S=>wpO (frz S dS v) _) ?_)
 unfold F135
 rw[cf_]
 refine cpu rfl rfl (m_len (k:=.u64) hn fun L h1 h2 h3=>?_)
 refine wo rfl ?_
 refine npow_loop L 1 x n 0 L (x^n) N c0 c _ _ (by omega) h1 hn0 hn h2 h3 hpos hT hN (by simp) hl rfl rfl rfl rfl rfl ?_
 intro co' e' hco h5
 refine K173_0e0_ok ?_
 unfold TK173_0e0
 rw[h5]
 refine wo (frz_pure rfl).1 ?_
 refine h co' (fun e=>?_)
 rcases hco e with h|h
 ·have:=hc0 h;omega
 ·omega
theorem m_pow2{z:Int}{n N:Nat}{c:VC}{Q:SV→Prop}(hz:0<z)(hn0:0<n)(hn:n<256)(hl:wd z≤N+1)(hT:wd (z^n)≤N)(hN:N<1000000)(h:∀c',c'≠.nil→Q (.tup [I (z^n) c',.int .i64 0])):wpO (pW cT 107 [I z c,.int .i64 (n:Int)]) Q:=by
 have hpz:0<z^n:=Int.pow_pos hz
 have hna:(z^n).natAbs=z.natAbs^n:=Int.natAbs_pow z n
 have hzz:z^n=if false=true then -((z.natAbs^n:Nat):Int)else((z.natAbs^n:Nat):Int):=by
  rw[if_neg (by decide),←hna];omega
 unfold wd at hl hT
 rw[hna]at hT
 refine po rfl (F107_ok (k:=fun v S=>wpO (frz S dS v) Q) ?_)
 unfold F107
 rw[I_pos (by omega)]
 iterate 2 refine wo rfl ?_
 simp only[b_lss,ws]
 rw[decide_eq_false (by omega)]
 simp only[grdP_ff,b_gtr,ws,pickS_f]
 rw[decide_eq_false (by omega),cf_]
 iterate 2 refine wo rfl ?_
 refine cpu rfl rfl (m_npow hn0 hn (by omega) hl hT hN fun c1 hc1=>?_)
 iterate 2 refine wo rfl ?_
 refine grdF rfl (grdF rfl (grdF rfl (wo pickS_f ?_)))
 refine cpu rfl rfl (c76 (b:=false) (z:=z^n) (by omega) hzz (fun e=>absurd e hc1) fun c2 hc2=>?_)
 iterate 2 refine wo rfl ?_
 exact h c2 (fun e=>by have:=hc2 e;omega)
end Go.Proofs
