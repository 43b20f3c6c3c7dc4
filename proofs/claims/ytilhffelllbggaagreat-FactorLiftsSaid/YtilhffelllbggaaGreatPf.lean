/-
  The program's integers (2): division.
-/
import Derived.Test.YtilhffelllbggaaGreatPd
import Derived.Test.YtilhffelllbggaaGreatLd
import Derived.Test.YtilhffelllbggaaGreatPb
import Derived.Test.YtilhffelllbggaaGreatPc
set_option linter.unusedVariables false
set_option linter.unusedSimpArgs false
set_option maxRecDepth 10000
namespace Go.Sh
theorem freshO_row32{S:Zt}{id len:Nat}{cap:Option Nat}{o:List Nat}(h:S[id]?=some (.cells (Go.Proofs.u32s o) true)):freshO (.osl id 1 0 len cap,S)=some (.inr (Go.Proofs.u32s o,1,0,len,cap)):=by
 have hp:(Go.Proofs.u32s o).all pureS=true:=List.all_eq_true.2 Go.Proofs.u32s_pure
 unfold freshO
 simp only[h,hp,if_true]
end Go.Sh
namespace Go.Proofs
open Go.Sh
theorem pow_split{s:Nat}(hs:s≤31):2^s*2^(32-s)=4294967296:=by rw[←Nat.pow_add,show s+(32-s)=32 by omega]
theorem shl_eq{s w h:Nat}(hs:s≤31)(hw:w<4294967296)(hh:h<2^s) :
  2^s*(w%2^(32-s))=(w*2^s)%4294967296∧(w*2^s)/4294967296<2^s∧2^s*(w%2^(32-s))+h<4294967296∧w*2^s<18446744073709551616:=by
 have hp:=pow_split hs
 have hP:0<2^s:=Nat.pow_pos (by omega)
 have hR:0<2^(32-s):=Nat.pow_pos (by omega)
 have h1:2^s*(w%2^(32-s))=(w*2^s)%4294967296:=by
  rw[←hp,Nat.mul_comm w,Nat.mul_mod_mul_left]
 have hP32:2^s≤2147483648:=by
  have:=Nat.pow_le_pow_right (show 0<2 by decide) hs
  exact this
 have hwide:w*2^s<4294967296*2^s:=Nat.mul_lt_mul_of_pos_right hw hP
 have hm:=Nat.mod_lt w hR
 have h2:2^s*(w%2^(32-s)+1)≤2^s*2^(32-s):=Nat.mul_le_mul_left _ hm
 rw[hp,Nat.mul_add,Nat.mul_one]at h2
 refine⟨h1,Nat.div_lt_of_lt_mul hwide,by omega,?_⟩
 generalize 2^s=P at *
 omega
theorem shlS{u:Option TyI}{w s:Nat}(h:w*2^s<18446744073709551616)(hs:s≤31):bnS .shl u (.int .u64 (w:Int)) (.int .i64 (s:Int))=some (.int .u64 ((w*2^s:Nat):Int)):=by
 have h2:=b_shl (u:=u) (k:=.u64) (k':=.i64) (a:=(w:Int)) (n:=s) (by show s≤64;omega)
 refine Eq.trans h2 ?_
 have e:(w:Int)*2^s=((w*2^s:Nat):Int):=by simp
 rw[e]
 generalize w*2^s=t at h ⊢
 rw[wrapU64 (by omega) (by omega)]
theorem shl_val{P w h lo hi V X B p:Nat}(hw:w*P=4294967296*hi+lo)(hv:V+B*h=X*P):(V+B*(lo+h))+B*4294967296*hi=(X+B*w)*P:=by
 have:B*(w*P)=B*(4294967296*hi+lo):=by rw[hw]
 grind
theorem conv23{t:Nat}:convS y23 (.int .u64 (t:Int))=some (.int .u32 ((t%4294967296:Nat):Int)):=by
 have:convS y23 (.int .u64 (t:Int))=some (.int .u32 (wrS .u32 (t:Int))):=conv_int rfl rfl
 rw[this,wrapU32m]
 congr 2
theorem shl_loop:∀(m:Nat) (x o:List Nat) (c:VC) (h s n:Nat) (e:En) (k:X→En→Zt→Prop),o.length+m=n→x.length=n→n<70368744177664→Bd x→Bd o→h<2^s→s≤31→
  e 1=.int .i64 (s:Int)→e 5=.osl 0 1 0 (n+1) (some (n+1))→e 13=.vsl (u32s x) c→e 14=.int .i64 (n:Int)→e 15=.int .i64 (o.length:Int)→
  val o+4294967296^o.length*h=val (x.take o.length)*2^s→
  (∀(o':List Nat) (e':En),o'.length=n+1→Bd o'→val o'=val x*2^s→e' 5=.osl 0 1 0 (n+1) (some (n+1))→k (.exit 0) e' [.cells (u32s o') true])→
  DenP cT 41 (.loop L282_0) e [.cells (u32s (o++h::List.replicate m 0)) true] k:=by
 intro m
 induction m with
 |zero=>
  intro x o c h s n e k hn hx hN bx bo hh hs h1 h5 h13 h14 h15 hv hk
  refine L282_0_ok ?_
  unfold TL282_0
  simp only[h14,h15,b_lss,ws]
  rw[decide_eq_false (by omega),cf_]
  have hP:2^s≤2147483648:=by
   have:=Nat.pow_le_pow_right (show 0<2 by decide) hs
   exact this
  refine hk (o++[h]) _ (by simp;omega) (bo.snoc (by omega)) ?_ h5
  rw[val_snoc,hv,List.take_of_length_le (by omega)]
 |succ m ih=>
  intro x o c h s n e k hn hx hN bx bo hh hs h1 h5 h13 h14 h15 hv hk
  obtain⟨w,hw⟩:∃w,x[o.length]?=some w:=⟨x[o.length]'(by omega),by simp⟩
  have hwb:=bx.get hw
  obtain⟨a1,a2,a3,a4⟩:=shl_eq hs hwb hh
  have hP:2^s≤2147483648:=by
   have:=Nat.pow_le_pow_right (show 0<2 by decide) hs
   exact this
  refine L282_0_ok ?_
  unfold TL282_0
  simp only[h1,h5,h13,h14,h15,b_lss,ws,idx115 hw,load108]
  rw[decide_eq_true (by omega),condP_t]
  have cw:=conv51 hwb
  rw[cw,ws]
  refine wo (shlS a4 hs) ?_
  refine wo (idx_osl (j:=y23) rfl rfl (by decide) (by omega) rfl) ?_
  rw[Nat.zero_add]
  have hg:(u32s (o++h::List.replicate (m+1) 0))[o.length]?=some (.int .u32 (h:Int)):=u32s_get (by rw[List.getElem?_append_right (Nat.le_refl _)];simp)
  refine wo ((load_row (es:=u32s (o++h::List.replicate (m+1) 0)) rfl hg).trans (b:=some (.int .u32 (h:Int))) rfl) ?_
  rw[conv23,ws,←a1]
  have hor:=b_or32 (u:=some y23) (a:=w%2^(32-s)) (b:=h) (i:=s) hh a3
  rw[hor,ws]
  refine wo (idx_osl (j:=y23) rfl rfl (by decide) (by omega) rfl) ?_
  rw[Nat.zero_add]
  refine wo (store_row (es:=u32s (o++h::List.replicate (m+1) 0)) rfl hg rfl rfl rfl) ?_
  simp only[b_add,ws]
  rw[succI (by omega)]
  refine wo shr64_32 ?_
  rw[conv23,ws,Nat.mod_eq_of_lt (show(w*2^s)/4294967296<4294967296 by omega)]
  have hset:(o++h::List.replicate (m+1) 0).set o.length (2^s*(w%2^(32-s))+h)=(o++[2^s*(w%2^(32-s))+h])++List.replicate (m+1) 0:=by
   rw[List.set_append_right _ _ (Nat.le_refl _),Nat.sub_self,List.set_cons_zero];simp
  rw[u32s_set,hset]
  generalize hlo:2^s*(w%2^(32-s))+h=lo at a3 ⊢
  have hlen:(o++[lo]).length=o.length+1:=by simp
  refine wo (idx_osl (j:=y23) rfl rfl (by decide) (by omega) rfl) ?_
  rw[Nat.zero_add]
  refine wo (store_row (es:=u32s (o++[lo]++List.replicate (m+1) 0)) (e:=.int .u32 0) rfl (by rw[show(0:Int)=((0:Nat):Int) from rfl,←hlen];exact u32s_get (by rw[List.getElem?_append_right (Nat.le_refl _)];simp)) rfl rfl rfl) ?_
  rw[u32s_set,←hlen,List.set_append_right _ _ (Nat.le_refl _),Nat.sub_self,List.replicate_succ,List.set_cons_zero]
  have hvt:=val_take_succ x o.length
  rw[hw]at hvt
  simp only[Option.getD_some]at hvt
  have hdm:=Nat.div_add_mod (w*2^s) 4294967296
  rw[←a1]at hdm
  refine ih x (o++[lo]) c (w*2^s/4294967296) s n _ k (by rw[hlen];omega) hx hN bx (bo.snoc a3) a2 hs h1 h5 h13 h14 rfl ?_ hk
  rw[hlen,val_snoc,hvt,Nat.pow_succ,←hlo]
  exact shl_val (p:=0) hdm.symm hv
theorem m_shl{S:Zt}{x:List Nat}{c:VC}{s:Nat}{k:SV×Zt→Prop}(hx:x.length<17592186044414)(bx:Bd x)(hs:s≤31)
  (h:∀o,o.length=x.length+1→Bd o→val o=val x*2^s→k (.osl S.length 1 0 (x.length+1) (some (x.length+1)),S++[.cells (u32s o) true])):wpO (cW cT 282 [.vsl (u32s x) c,.int .i64 (s:Int)] S) k:=by
 refine call_fresh rfl rfl (F282_ok (k:=fun w S'=>wpO (freshO (w,S')) fun r=>k (freshIn S [.vsl (u32s x) c,.int .i64 (s:Int)] r)) ?_)
 unfold F282
 simp only[len115,b_add,ws]
 rw[succI (by omega)]
 refine wo (mksl_ok (j:=y23) (by decide) rfl (by unfold roomS;omega) (by unfold roomS;show(x.length+1)*4≤_;omega)) ?_
 show DenP cT 41 (.loop L282_0) _ [.cells (List.replicate (x.length+1) (SV.int .u32 0)) true] _
 rw[u32s_zeros]
 have e0:List.replicate (x.length+1) 0=[]++0::List.replicate x.length 0:=by rw[List.replicate_succ];rfl
 rw[e0]
 refine shl_loop x.length x [] c 0 s x.length _ _ (by simp) rfl (by omega) bx Bd.nil (Nat.pow_pos (by omega)) hs rfl rfl rfl rfl rfl (by simp[val]) ?_
 intro o' e' hl hb hv h5
 refine K282_0e0_ok ?_
 unfold TK282_0e0
 rw[h5]
 refine wo (freshO_row32 (id:=0) (o:=o') rfl) ?_
 exact h o' hl hb hv
def shrW(x:List Nat)(s i:Nat):Nat:=((x[i+1]?.getD 0*4294967296+x[i]?.getD 0)/2^s)%4294967296
theorem shr_one{s a R r0:Nat}(hs:s≤31)(ha:a<4294967296)(hr:R%4294967296=r0):((r0*4294967296+a)/2^s)%4294967296+4294967296*(R/2^s)=(a+4294967296*R)/2^s:=by
 have hp:=pow_split hs
 have hP:0<2^s:=Nat.pow_pos (by omega)
 generalize 2^s=P at *
 generalize 2^(32-s)=T at *
 have h1:∀Y,(a+4294967296*Y)/P=a/P+T*Y:=fun Y=>by
  rw[←hp,Nat.mul_assoc,Nat.add_mul_div_left _ _ hP]
 rw[Nat.add_comm (r0*4294967296),Nat.mul_comm r0,h1,h1]
 have h2:R%P=r0%P:=by
  rw[←hr,←hp,Nat.mod_mul_right_mod]
 have h3:∀Y,T*Y=4294967296*(Y/P)+T*(Y%P):=fun Y=>by
  have:=Nat.div_add_mod Y P
  conv=>lhs;rw[←this]
  rw[←hp];grind
 have h4:a/P<T:=by
  refine Nat.div_lt_of_lt_mul ?_
  rw[hp];exact ha
 have h5:T*(r0%P+1)≤T*P:=Nat.mul_le_mul_left _ (Nat.mod_lt _ hP)
 rw[Nat.mul_comm T P,hp,Nat.mul_add,Nat.mul_one]at h5
 rw[h3 r0,h3 R,h2]
 generalize T*(r0%P)=u at *
 generalize a/P=v at *
 have h6:(v+(4294967296*(r0/P)+u))%4294967296=v+u:=by
  have:v+(4294967296*(r0/P)+u)=(v+u)+4294967296*(r0/P):=by omega
  rw[this,Nat.add_mul_mod_self_left,Nat.mod_eq_of_lt (by omega)]
 rw[h6];omega
theorem val_mod{x:List Nat}(bx:Bd x):val x%4294967296=x[0]?.getD 0:=by
 cases x with
 |nil=>rfl
 |cons a r=>
  have:=bx.head
  simp only[val,List.getElem?_cons_zero,Option.getD_some]
  omega
theorem shr_val{s:Nat}(hs:s≤31):∀(x:List Nat),Bd x→val ((List.range x.length).map (shrW x s))=val x/2^s
 |[],_=>by simp[val]
 |a::r,bx=>by
  have br:Bd r:=fun d hd=>bx d (List.mem_cons_of_mem _ hd)
  have ih:=shr_val hs r br
  have e:(List.range (a::r).length).map (shrW (a::r) s)=shrW (a::r) s 0::(List.range r.length).map (shrW r s):=by
   rw[List.length_cons,List.range_succ_eq_map,List.map_cons,List.map_map]
   rfl
  rw[e,val,ih,val]
  have ha:=bx.head
  have:=shr_one (s:=s) (a:=a) (R:=val r) (r0:=r[0]?.getD 0) hs ha (val_mod br)
  unfold shrW
  simpa using this
theorem shrS{u:Option TyI}{w s:Nat}(h:w<18446744073709551616)(hs:s≤31):bnS .shr u (.int .u64 (w:Int)) (.int .i64 (s:Int))=some (.int .u64 ((w/2^s:Nat):Int)):=by
 have h2:=b_shr (u:=u) (k:=.u64) (k':=.i64) (a:=(w:Int)) (n:=s) (by show s≤64;omega)
 refine Eq.trans h2 ?_
 rw[Int.fdiv_eq_ediv_of_nonneg _ (by have:=Int.pow_pos (n:=2) (m:=s) (by omega);omega)]
 congr 2
theorem shr_loop:∀(m:Nat) (x o:List Nat) (c:VC) (s n:Nat) (e:En) (k:X→En→Zt→Prop),o.length+m=n→x.length=n→n<70368744177664→Bd x→s≤31→o=(List.range o.length).map (shrW x s)→
  e 0=.vsl (u32s x) c→e 1=.int .i64 (s:Int)→e 5=.osl 0 1 0 n (some n)→e 11=.int .i64 (n:Int)→e 12=.int .i64 (o.length:Int)→
  (∀(e':En),e' 5=.osl 0 1 0 n (some n)→k (.exit 0) e' [.cells (u32s ((List.range n).map (shrW x s))) true])→
  DenP cT 36 (.loop L284_0) e [.cells (u32s (o++List.replicate m 0)) true] k:=by
 intro m
 induction m with
 |zero=>
  intro x o c s n e k hn hx hN bx hs ho h0 h1 h5 h11 h12 hk
  refine L284_0_ok ?_
  unfold TL284_0
  simp only[h11,h12,b_lss,ws]
  rw[decide_eq_false (by omega),cf_]
  have e1:o++List.replicate 0 0=(List.range n).map (shrW x s):=by
   rw[List.replicate_zero,List.append_nil,ho];congr 2
  rw[e1]
  exact hk _ h5
 |succ m ih=>
  intro x o c s n e k hn hx hN bx hs ho h0 h1 h5 h11 h12 hk
  obtain⟨w,hw⟩:∃w,x[o.length]?=some w:=⟨x[o.length]'(by omega),by simp⟩
  have hwb:=bx.get hw
  have hyb:=bx.getD (o.length+1)
  refine L284_0_ok ?_
  unfold TL284_0
  simp only[h0,h1,h5,h11,h12,b_lss,b_add,ws]
  rw[decide_eq_true (by omega),condP_t,succI (by omega)]
  refine cpu rfl rfl (c120 ?_)
  have hsh:shrW x s o.length=((x[o.length+1]?.getD 0*4294967296+w)/2^s)%4294967296:=by unfold shrW;rw[hw];rfl
  generalize x[o.length+1]?.getD 0=y at hyb hsh ⊢
  have cy:=conv51 hyb
  have cw:=conv51 hwb
  rw[cy,ws]
  have c5:=shl32 (u:=some y25) hyb
  rw[c5,ws]
  simp only[idx115 hw,load108,ws]
  rw[cw,ws]
  have c6:=join32 (u:=some y25) (a:=y) (b:=w) hwb (by omega)
  rw[c6,ws]
  refine wo (shrS (by omega) hs) ?_
  rw[conv23,ws,←hsh]
  clear c5 c6 cy cw
  refine wo (idx_osl (j:=y23) rfl rfl (by decide) (by omega) rfl) ?_
  rw[Nat.zero_add]
  refine wo (store_row (es:=u32s (o++List.replicate (m+1) 0)) (e:=.int .u32 0) rfl (by rw[show(0:Int)=((0:Nat):Int) from rfl];exact u32s_get (by rw[List.getElem?_append_right (Nat.le_refl _)];simp)) rfl rfl rfl) ?_
  rw[u32s_set,row_set]
  have hlen:(o++[shrW x s o.length]).length=o.length+1:=by simp
  refine ih x (o++[shrW x s o.length]) c s n _ k (by rw[hlen];omega) hx hN bx hs ?_ h0 h1 h5 h11 (by rw[hlen];rfl) hk
  rw[hlen,List.range_succ,List.map_append,←ho]
  rfl
theorem m_shr{x:List Nat}{c:VC}{s:Nat}{Q:SV→Prop}(hx:x.length<17592186044414)(bx:Bd x)(hs:s≤31)(h:∀c',(c'=.nil→val x/2^s=0)→Q (.vsl (u32s (encN (val x/2^s))) c')):wpO (pW cT 284 [.vsl (u32s x) c,.int .i64 (s:Int)]) Q:=by
 refine po rfl (F284_ok (k:=fun v S=>wpO (frz S dS v) Q) ?_)
 unfold F284
 simp only[len115,ws]
 refine wo (mksl_ok (j:=y23) (by decide) rfl (by unfold roomS;omega) (by unfold roomS;show x.length*4≤_;omega)) ?_
 show DenP cT 36 (.loop L284_0) _ [.cells (List.replicate x.length (SV.int .u32 0)) true] _
 rw[u32s_zeros]
 refine shr_loop x.length x [] c s x.length _ _ (by simp) rfl (by omega) bx hs rfl rfl rfl rfl rfl rfl ?_
 intro e' h5
 refine K284_0e0_ok ?_
 unfold TK284_0e0
 rw[h5]
 have hv:=shr_val hs x bx
 refine call_row (es:=u32s ((List.range x.length).map (shrW x s))) rfl rfl (by simp) u32s_pure ?_
 refine c117 ?_ (by simp;omega) capM fun c' hc'=>?_
 ·intro d hd
  simp only[List.mem_map]at hd
  obtain⟨i,_,rfl⟩:=hd
  exact Nat.mod_lt _ (by decide)
 ·rw[hv]at hc' ⊢
  exact h c' hc'
end Go.Proofs
namespace Go.Proofs
open Go.Sh
theorem idx_off2{id off len i:Nat}{cap:Option Nat}(h:i<len):ixS cT y172 (.osl id 1 off len cap) (.int .i64 (i:Int))=some (.optr id (off+i) 0):=idx_osl (j:=y23) rfl rfl (by decide) h rfl
theorem len_off2{id off len:Nat}{cap:Option Nat}:lenS y172 (.osl id 1 off len cap)=some (.int .i64 (len:Int)):=len_osl rfl
theorem pow32(a:Nat):2^32*a=a*4294967296:=by rw[show(2:Nat)^32=4294967296 from rfl];omega
theorem shl32c{u:Option TyI}{a:Nat}(h:a<4294967296):bnS .shl u (.int .u64 (a:Int)) (.int .u64 32)=some (.int .u64 ((a*4294967296:Nat):Int)):=by
 rw[shl32 h,pow32]
theorem join32c{u:Option TyI}{a b:Nat}(hb:b<4294967296)(h:a*4294967296+b<18446744073709551616):bnS .or u (.int .u64 ((a*4294967296:Nat):Int)) (.int .u64 (b:Int))=some (.int .u64 ((a*4294967296+b:Nat):Int)):=by
 have:=join32 (u:=u) hb h
 rwa [pow32]at this
theorem gs2_mul{q v:Nat}(hq:q<4294967296)(hv:v<4294967296):wrS .u64 ((q:Int)*(v:Int))=((q*v:Nat):Int):=mulU hq hv
theorem guess2_loop:∀(q r n z u0 v0:Nat) (ul vl:List Nat) (id:Nat) (cap:Option Nat) (A C:List Nat) (c:VC) (S:Zt) (e:En) (k:X→En→Zt→Prop),
  vl.length=n→ul.length=n+1→2≤n→n<70368744177664→Bd ul→Bd vl→vl[n-1]?=some z→ul[n-2]?=some u0→vl[n-2]?=some v0→
  S[id]?=some (.cells (u32s (A++ul++C)) true)→
  e 0=.osl id 1 A.length (n+1) cap→e 1=.vsl (u32s vl) c→e 5=.int .i64 (n:Int)→e 6=.int .u64 (q:Int)→e 9=.int .u64 (r:Int)→
  q*z+r=ul[n]?.getD 0*4294967296+ul[n-1]?.getD 0→r<8589934592→q<4294967296→val ul<(q+1)*val vl→
  (∀(q':Nat) (e':En),e' 0=e 0→e' 1=e 1→e' 6=.int .u64 (q':Int)→q'<4294967296→val ul<(q'+1)*val vl→k (.exit 0) e' S)→
  DenP cT 141 (.loop L283_0) e S k:=by
 intro q
 induction q with
 |zero=>
  intro r n z u0 v0 ul vl id cap A C c S e k hv hu hn hn2 bu bv hz hu0 hv0 hS h0 h1 h5 h6 h9 hq hr hqB hQ hk
  have hu0b:=bu.get hu0
  have hv0b:=bv.get hv0
  refine L283_0_ok ?_
  unfold TL283_0
  simp only[h0,h1,h5,h6,h9,b_leq,ws]
  by_cases hle:r≤4294967295
  ·rw[decide_eq_true (by omega)]
   have cu0:=conv51 hu0b
   have cix:ixS cT y172 (.osl id 1 A.length (n+1) cap) (.int .i64 ((n-2:Nat):Int))=some (.optr id (A.length+(n-2)) 0):=idx_off2 (by omega)
   have cld:=ld_off hS hu0
   have cj:=join32c (u:=some y25) (a:=r) (b:=u0) hu0b (by omega)
   have csh:=shl32c (u:=some y25) (a:=r) (by omega)
   have e1:wrS .i64 ((n:Int)-2)=((n-2:Nat):Int):=subI (j:=2) (by omega) (by omega)
   have cv0:=conv51 hv0b
   have e2:wrS .u64 (((0:Nat):Int)*(v0:Int))=((0:Nat):Int):=by rw[gs2_mul (by omega) hv0b,Nat.zero_mul]
   simp only[grdP_tt,b_sub,b_mul,ws,e1,e2,idx115 hv0,load108,cv0,csh,cix,cld,cu0,cj,b_gtr,pickS_t]
   clear e1 e2
   rw[decide_eq_false (by omega),cf_]
   exact hk 0 _ rfl rfl h6 hqB hQ
  ·rw[decide_eq_false (by omega)]
   simp only[grdP_ft,pickS_f,ws,cf_]
   exact hk 0 _ rfl rfl h6 hqB hQ
 |succ q ih=>
  intro r n z u0 v0 ul vl id cap A C c S e k hv hu hn hn2 bu bv hz hu0 hv0 hS h0 h1 h5 h6 h9 hq hr hqB hQ hk
  have hu0b:=bu.get hu0
  have hv0b:=bv.get hv0
  have hzb:=bv.get hz
  refine L283_0_ok ?_
  unfold TL283_0
  simp only[h0,h1,h5,h6,h9,b_leq,ws]
  by_cases hle:r≤4294967295
  ·rw[decide_eq_true (by omega)]
   have cu0:=conv51 hu0b
   have cix:ixS cT y172 (.osl id 1 A.length (n+1) cap) (.int .i64 ((n-2:Nat):Int))=some (.optr id (A.length+(n-2)) 0):=idx_off2 (by omega)
   have cld:=ld_off hS hu0
   have cj:=join32c (u:=some y25) (a:=r) (b:=u0) hu0b (by omega)
   have csh:=shl32c (u:=some y25) (a:=r) (by omega)
   have e1:wrS .i64 ((n:Int)-2)=((n-2:Nat):Int):=subI (j:=2) (by omega) (by omega)
   have cv0:=conv51 hv0b
   have e2:=gs2_mul hqB hv0b
   simp only[grdP_tt,b_sub,b_mul,ws,e1,e2,idx115 hv0,load108,cv0,csh,cix,cld,cu0,cj,b_gtr,pickS_t]
   clear e1 e2
   refine condP_dec (fun hgt=>?_) (fun hngt=>?_)
   ·have hlow:=Pl.guess_less (P:=4294967296^(n-2)) (lo:=val (vl.take (n-2))) (v0:=v0) (v1:=z) (lu:=val (ul.take (n-2))) (u0:=u0) (t:=ul[n]?.getD 0*4294967296+ul[n-1]?.getD 0) (q:=q+1) (r:=r) (B:=4294967296) (U:=val ul) (V:=val vl)
     (by have:=Pl.val_two hv hn;rw[hz,hv0]at this;simpa using this) (by have:=Pl.val_three hu hn;rw[hu0]at this;simpa using this)
     (by have:=val_lt (bu.take (n-2));rwa [List.length_take,Nat.min_eq_left (by omega)]at this) hq (by omega)
    try simp only[b_sub,ws]
    rw[show wrS .u64 (((q+1:Nat):Int)-1)=(q:Int)by rw[wrapU64 (by omega) (by omega)];omega,show wrS .i64 ((n:Int)-1)=((n-1:Nat):Int) from subI (j:=1) (by omega) (by omega)]
    refine wo (idx115 hz) ?_
    refine wo (load108 _ _) ?_
    refine wo (conv51 hzb) ?_
    simp only[b_add,ws]
    rw[addU (by omega)]
    refine ih (r+z) n z u0 v0 ul vl id cap A C c S _ k hv hu hn hn2 bu bv hz hu0 hv0 hS h0 h1 h5 rfl rfl ?_ (by omega) (by omega) hlow ?_
    ·rw[←hq,Nat.succ_mul];omega
    ·intro q' e' g0 g1 g6 g7 g8
     exact hk q' e' g0 g1 g6 g7 g8
   ·exact hk (q+1) _ rfl rfl h6 hqB hQ
  ·rw[decide_eq_false (by omega)]
   simp only[grdP_ft,pickS_f,ws,cf_]
   exact hk (q+1) _ rfl rfl h6 hqB hQ
theorem ls2_id{q v x w c d w2 p:Nat}(hp:p=q*v+c)(h:d+p%4294967296+w=x+4294967296*w2):d+q*v+c+w=x+4294967296*(w2+p/4294967296):=by
 have h1:=Nat.div_add_mod p 4294967296
 omega
theorem lessen2_loop:∀(m:Nat) (x x0 vl A C:List Nat) (i n q cy w id:Nat) (cap:Option Nat) (c:VC) (S:Zt) (e:En) (k:X→En→Zt→Prop),
  i+m=n→x.length=n→x0.length=n→n<70368744177664→Bd x→Bd vl→q<4294967296→w≤1→cy<4294967296→x.drop i=x0.drop i→
  cy=q*val (vl.take i)/4294967296^i→
  val (x.take i)+q*val (vl.take i)=val (x0.take i)+4294967296^i*(cy+w)→
  S[id]?=some (.cells (u32s (A++x++C)) true)→
  e 0=.osl id 1 A.length n cap→e 1=.vsl (u32s vl) c→e 6=.int .u64 (q:Int)→e 10=.int .u64 (cy:Int)→e 11=.int .u32 (w:Int)→e 82=.int .i64 (n:Int)→e 83=.int .i64 (i:Int)→
  (∀(x':List Nat) (w':Nat) (e':En),x'.length=n→Bd x'→w'≤1→val x'+q*val (vl.take n)=val x0+4294967296^n*(q*val (vl.take n)/4294967296^n+w')→e' 0=e 0→e' 1=e 1→e' 6=e 6→e' 11=.int .u32 (w':Int)→k (.exit 2) e' (S.set id (.cells (u32s (A++x'++C)) true)))→
  DenP cT 141 (.loop L283_1) e S k:=by
 intro m
 induction m with
 |zero=>
  intro x x0 vl A C i n q cy w id cap c S e k hn hxl hx0 hn2 bx bv hq hw hcy hdr hc hval hS h0 h1 h6 h10 h11 h82 h83 hk
  refine L283_1_ok ?_
  unfold TL283_1
  simp only[h82,h83,b_lss,ws]
  rw[decide_eq_false (by omega),cf_]
  have hi:i=n:=by omega
  subst hi
  have key:=fun e' a b c d=>hk x w e' hxl bx hw (by rw[List.take_of_length_le (by omega),List.take_of_length_le (l:=x0) (by omega)]at hval;rw[←hc];exact hval) a b c d
  simp only[set_self hS]at key
  exact key _ rfl rfl rfl h11
 |succ m ih=>
  intro x x0 vl A C i n q cy w id cap c S e k hn hxl hx0 hn2 bx bv hq hw hcy hdr hc hval hS h0 h1 h6 h10 h11 h82 h83 hk
  refine L283_1_ok ?_
  unfold TL283_1
  simp only[h0,h1,h6,h10,h11,h82,h83,b_lss,ws]
  rw[decide_eq_true (by omega),condP_t]
  refine cpu rfl rfl (c120 ?_)
  have hd:=bv.getD i
  have hcs:=ls_carry (d:=vl[i]?.getD 0) hc rfl
  have hvt:=val_take_succ vl i
  generalize vl[i]?.getD 0=d at hd hcs hvt ⊢
  obtain⟨y,hy⟩:∃y,x[i]?=some y:=⟨x[i]'(by omega),by simp⟩
  have hy2:=bx.get hy
  have hy0:x0[i]?=some y:=by
   have h1:=congrArg (fun l=>l[0]?) hdr
   simp only[List.getElem?_drop,Nat.add_zero]at h1
   rw[←h1];exact hy
  have hx0t:=val_take_succ x0 i
  rw[hy0]at hx0t
  simp only[Option.getD_some]at hx0t
  have hpB:q*d+cy<18446744073709551616:=by
   have:q*d≤4294967295*4294967295:=Nat.mul_le_mul (by omega) (by omega)
   omega
  have cd:=conv51 hd
  rw[cd,ws]
  simp only[b_mul,b_add,ws]
  rw[gs2_mul hq hd,show wrS .u64 ((cy:Int)+((q*d:Nat):Int))=((q*d+cy:Nat):Int)by rw[wrapU64 (by omega) (by omega)];omega]
  generalize hp:q*d+cy=p at hpB hcs ⊢
  refine wo (idx_off2 (show i<n by omega)) ?_
  refine wo (ld_off hS hy) ?_
  rw[conv23,ws]
  have hpm:=Nat.mod_lt p (show 0<4294967296 by decide)
  refine cpu rfl rfl (m_sub32 hy2 hpm hw fun dd w2 hdd hw2 hid=>?_)
  refine wo rfl (wo rfl ?_)
  refine wo (idx_off2 (show i<n by omega)) ?_
  refine wo (st_off hS hy) ?_
  refine wo shr64_32 ?_
  rw[succI (by omega)]
  have hid2:=ls2_id (q:=q) (v:=d) (c:=cy) hp.symm hid
  have hS2:(S.set id (.cells (u32s (A++x.set i dd++C)) true))[id]?=some (.cells (u32s (A++x.set i dd++C)) true):=by
   rw[List.getElem?_set_self (List.getElem?_eq_some_iff.1 hS).1]
  refine ih (x.set i dd) x0 vl A C (i+1) n q (p/4294967296) w2 id cap c _ _ k (by omega) (by simp[hxl]) hx0 hn2 (bx.set i hdd) bv hq hw2 (by omega) ?_ hcs ?_ hS2 h0 h1 h6 rfl rfl h82 (by rfl) ?_
  ·rw[List.drop_set_of_lt (by omega)]
   have h1:=congrArg (List.drop 1) hdr
   simpa[List.drop_drop]using h1
  ·rw[val_take_set (by omega),hvt,hx0t,Nat.pow_succ]
   generalize p/4294967296=c2 at hid2 ⊢
   generalize 4294967296^i=P at hval ⊢
   have:P*(dd+q*d+cy+w)=P*(y+4294967296*(w2+c2)):=by rw[hid2]
   grind
  ·intro x' w' e' a1 a2 a3 a4 a5 a6 a7 a8
   rw[List.set_set]
   exact hk x' w' e' a1 a2 a3 a4 a5 a6 a7 a8
theorem back_loop:∀(m:Nat) (x x0 vl A C:List Nat) (i n cy id:Nat) (cap:Option Nat) (c:VC) (S:Zt) (e:En) (k:X→En→Zt→Prop),
  i+m=n→x.length=n→x0.length=n→n<70368744177664→Bd x→Bd vl→cy≤1→x.drop i=x0.drop i→
  val (x.take i)+4294967296^i*cy=val (x0.take i)+val (vl.take i)→
  S[id]?=some (.cells (u32s (A++x++C)) true)→
  e 0=.osl id 1 A.length n cap→e 1=.vsl (u32s vl) c→e 13=.int .u32 (cy:Int)→e 116=.int .i64 (n:Int)→e 117=.int .i64 (i:Int)→
  (∀(x':List Nat) (cy':Nat) (e':En),x'.length=n→Bd x'→cy'≤1→val x'+4294967296^n*cy'=val x0+val (vl.take n)→e' 0=e 0→e' 1=e 1→e' 6=e 6→e' 11=e 11→e' 13=.int .u32 (cy':Int)→k (.exit 6) e' (S.set id (.cells (u32s (A++x'++C)) true)))→
  DenP cT 141 (.loop L283_3) e S k:=by
 intro m
 induction m with
 |zero=>
  intro x x0 vl A C i n cy id cap c S e k hn hxl hx0 hn2 bx bv hcy hdr hval hS h0 h1 h13 h116 h117 hk
  refine L283_3_ok ?_
  unfold TL283_3
  simp only[h116,h117,b_lss,ws]
  rw[decide_eq_false (by omega),cf_]
  have hi:i=n:=by omega
  subst hi
  have key:=fun e' a b c d f=>hk x cy e' hxl bx hcy (by rw[List.take_of_length_le (by omega),List.take_of_length_le (l:=x0) (by omega)]at hval;exact hval) a b c d f
  simp only[set_self hS]at key
  exact key _ rfl rfl rfl rfl h13
 |succ m ih=>
  intro x x0 vl A C i n cy id cap c S e k hn hxl hx0 hn2 bx bv hcy hdr hval hS h0 h1 h13 h116 h117 hk
  refine L283_3_ok ?_
  unfold TL283_3
  simp only[h0,h1,h13,h116,h117,b_lss,ws]
  rw[decide_eq_true (by omega),condP_t]
  obtain⟨y,hy⟩:∃y,x[i]?=some y:=⟨x[i]'(by omega),by simp⟩
  have hy2:=bx.get hy
  have hy0:x0[i]?=some y:=by
   have h1:=congrArg (fun l=>l[0]?) hdr
   simp only[List.getElem?_drop,Nat.add_zero]at h1
   rw[←h1];exact hy
  have hx0t:=val_take_succ x0 i
  rw[hy0]at hx0t
  simp only[Option.getD_some]at hx0t
  refine wo (idx_off2 (show i<n by omega)) ?_
  refine wo (ld_off hS hy) ?_
  refine cpu rfl rfl (c120 ?_)
  have hd:=bv.getD i
  have hvt:=val_take_succ vl i
  generalize vl[i]?.getD 0=d at hd hvt ⊢
  refine cpu rfl rfl (c119 hy2 hd hcy ?_)
  refine wo rfl (wo rfl ?_)
  have hcl:=carry_le hy2 hd hcy
  have hdm:=Nat.div_add_mod (y+d+cy) 4294967296
  generalize hte:y+d+cy=t at hcl hdm ⊢
  refine wo (idx_off2 (show i<n by omega)) ?_
  refine wo (st_off hS hy) ?_
  simp only[b_add,ws]
  rw[succI (by omega)]
  have hS2:(S.set id (.cells (u32s (A++x.set i (t%4294967296)++C)) true))[id]?=some (.cells (u32s (A++x.set i (t%4294967296)++C)) true):=by
   rw[List.getElem?_set_self (List.getElem?_eq_some_iff.1 hS).1]
  refine ih (x.set i (t%4294967296)) x0 vl A C (i+1) n (t/4294967296) id cap c _ _ k (by omega) (by simp[hxl]) hx0 hn2 (bx.set i (Nat.mod_lt _ (by decide))) bv hcl ?_ ?_ hS2 h0 h1 rfl h116 (by rfl) ?_
  ·rw[List.drop_set_of_lt (by omega)]
   have h1:=congrArg (List.drop 1) hdr
   simpa[List.drop_drop]using h1
  ·rw[val_take_set (by omega),hvt,hx0t,Nat.pow_succ]
   generalize t/4294967296=c2 at hdm ⊢
   generalize t%4294967296=r at hdm ⊢
   generalize 4294967296^i=P at hval ⊢
   have:P*(4294967296*c2+r)=P*(y+d+cy):=by rw[hdm,hte]
   grind
  ·intro x' w' e' a1 a2 a3 a4 a5 a6 a7 a8 a9
   rw[List.set_set]
   exact hk x' w' e' a1 a2 a3 a4 a5 a6 a7 a8 a9
theorem fix_eq{x2 xv q V x P w w2:Nat}(h1:xv+(q+1)*V=x+P*w)(h2:x2+P*w2=xv+V)(hw:w=1)(hw2:w2≤1):x2+q*V=x+P*(w-w2):=by
 subst hw
 rw[Nat.succ_mul]at h1
 rcases Nat.eq_zero_or_pos w2 with h|h
 ·subst h
  simp only[Nat.sub_zero,Nat.mul_one,Nat.mul_zero,Nat.add_zero]at *
  omega
 ·have:w2=1:=by omega
  subst this
  simp only[Nat.sub_self,Nat.mul_one,Nat.mul_zero,Nat.add_zero]at *
  omega
theorem fix_zero{xv x P V:Nat}(h1:xv+0*V=x+P*1)(h2:xv<P):False:=by
 rw[Nat.zero_mul,Nat.mul_one]at h1;omega
theorem fix_lt{xv q V x P:Nat}(h1:xv+(q+1)*V=x+P*1)(h2:xv<P):x<(q+1)*V:=by
 rw[Nat.mul_one]at h1;omega
theorem fix_loop:∀(q:Nat) (x vl A C:List Nat) (n w x0 id:Nat) (cap:Option Nat) (c:VC) (S:Zt) (e:En) (k:X→En→Zt→Prop),
  x.length=n→n<70368744177664→Bd x→Bd vl→vl.length≤n→q<4294967296→w≤1→val x+q*val vl=x0+4294967296^n*w→x0<(q+1)*val vl→
  S[id]?=some (.cells (u32s (A++x++C)) true)→
  e 0=.osl id 1 A.length n cap→e 1=.vsl (u32s vl) c→e 6=.int .u64 (q:Int)→e 11=.int .u32 (w:Int)→
  (∀(x':List Nat) (q':Nat) (e':En),x'.length=n→Bd x'→q'<4294967296→val x'+q'*val vl=x0→x0<(q'+1)*val vl→e' 6=.int .u64 (q':Int)→k (.exit 4) e' (S.set id (.cells (u32s (A++x'++C)) true)))→
  DenP cT 141 (.loop L283_2) e S k:=by
 intro q
 induction q with
 |zero=>
  intro x vl A C n w x0 id cap c S e k hx hn bx bv hvl hq hw hv hlt hS h0 h1 h6 h11 hk
  have hxl:=val_lt bx
  rw[hx]at hxl
  have hw0:w=0:=by
   rcases Nat.eq_zero_or_pos w with h|h
   ·exact h
   ·have:w=1:=by omega
    subst this
    exact(fix_zero hv hxl).elim
  clear hxl
  subst hw0
  rw[Nat.mul_zero,Nat.add_zero]at hv
  refine L283_2_ok ?_
  unfold TL283_2
  simp only[h11,b_gtr,ws]
  rw[decide_eq_false (by omega),cf_]
  have key:=fun e' a=>hk x 0 e' hx bx hq hv hlt a
  simp only[set_self hS]at key
  exact key _ h6
 |succ q ih=>
  intro x vl A C n w x0 id cap c S e k hx hn bx bv hvl hq hw hv hlt hS h0 h1 h6 h11 hk
  refine L283_2_ok ?_
  unfold TL283_2
  simp only[h11,b_gtr,ws]
  rcases Nat.eq_zero_or_pos w with hw0|hw0
  ·subst hw0
   rw[Nat.mul_zero,Nat.add_zero]at hv
   rw[decide_eq_false (by omega),cf_]
   have key:=fun e' a=>hk x (q+1) e' hx bx hq hv hlt a
   simp only[set_self hS]at key
   exact key _ h6
  ·have hw1:w=1:=by omega
   rw[decide_eq_true (by omega),condP_t]
   have hxl:=val_lt bx
   rw[hx]at hxl
   have hlt2:x0<(q+1)*val vl:=by rw[hw1]at hv;exact fix_lt hv hxl
   have hfix:=fun x2 w2 h2 h3=>fix_eq (x2:=x2) (w2:=w2) (xv:=val x) (V:=val vl) (x:=x0) (P:=4294967296^n) (q:=q) hv h2 hw1 h3
   clear hv hlt hxl
   simp only[h0,h1,h6,len_off2,b_sub,ws]
   rw[show wrS .u64 (((q+1:Nat):Int)-1)=(q:Int)by rw[wrapU64 (by omega) (by omega)];omega]
   refine back_loop n x x vl A C 0 n 0 id cap c S _ _ (by omega) hx hx hn bx bv (by omega) rfl (by simp[val]) hS h0 h1 rfl rfl rfl ?_
   intro x' cy' e' a1 a2 a3 a4 a5 a6 a7 a8 a9
   rw[List.take_of_length_le hvl]at a4
   have hnew:=hfix (val x') cy' a4 a3
   refine K283_3e6_ok ?_
   unfold TK283_3e6
   have a8':e' 11=.int .u32 (w:Int):=a8.trans h11
   simp only[a8',a9,b_sub,ws]
   have e1:wrS .u32 ((w:Int)-(cy':Int))=((w-cy':Nat):Int):=by rw[wrapU32 (by clear hnew a4 hlt2;omega) (by clear hnew a4 hlt2;omega)];clear hnew a4 hlt2;omega
   rw[e1]
   have hS2:(S.set id (.cells (u32s (A++x'++C)) true))[id]?=some (.cells (u32s (A++x'++C)) true):=by
    rw[List.getElem?_set_self (List.getElem?_eq_some_iff.1 hS).1]
   refine ih x' vl A C n (w-cy') x0 id cap c _ _ k a1 hn a2 bv hvl (by clear hnew a4 hlt2;omega) (by clear hnew a4 hlt2;omega) hnew hlt2 hS2 (a5.trans h0) (a6.trans h1) a7 rfl ?_
   intro x2 q' e2 b1 b2 b3 b4 b5 b6
   rw[List.set_set]
   exact hk x2 q' e2 b1 b2 b3 b4 b5 b6
theorem q_zero{q n:Nat}{vl:List Nat}(bv:Bd vl)(hv:vl.length=n)(hq:q<4294967296):q*val vl/4294967296^(n+1)=0:=by
 refine Nat.div_eq_of_lt ?_
 have:=val_lt bv
 rw[hv]at this
 have h1:q*val vl≤q*4294967296^n:=Nat.mul_le_mul_left q (by omega)
 have h2:q*4294967296^n<4294967296*4294967296^n:=Nat.mul_lt_mul_of_pos_right hq (Nat.pow_pos (by omega))
 rw[Nat.pow_succ];omega
theorem top_q{ul vl:List Nat}{n x y z q r:Nat}(hv:vl.length=n)(hu:ul.length=n+1)(hn:2≤n)(bu:Bd ul)(hx:ul[n]?=some x)(hy:ul[n-1]?=some y)(hz:vl[n-1]?=some z)(hz1:0<z)(hq:q=(x*4294967296+y)/z):val ul<(q+1)*val vl:=by
 have hV:=Pl.val_two hv hn
 have hU:=Pl.val_three hu hn
 have hlu:=val_lt (bu.take (n-2))
 rw[List.length_take,Nat.min_eq_left (by omega)]at hlu
 rw[hx,hy]at hU
 rw[hz]at hV
 simp only[Option.getD_some]at hU hV
 have bu0:=bu.getD (n-2)
 generalize ul[n-2]?.getD 0=u0 at hU bu0
 generalize vl[n-2]?.getD 0=v0 at hV
 have hd:=Nat.div_add_mod (x*4294967296+y) z
 have hm:=Nat.mod_lt (x*4294967296+y) hz1
 rw[←hq]at hd
 generalize ht:x*4294967296+y=t at *
 have h1:t+1≤(q+1)*z:=by rw[Nat.succ_mul,Nat.mul_comm];omega
 have h2:4294967296^(n-2)*(4294967296*(t+1))≤4294967296^(n-2)*(4294967296*((q+1)*z)):=Nat.mul_le_mul_left _ (Nat.mul_le_mul_left _ h1)
 have h3:4294967296^(n-2)*(u0+1+4294967296*t)≤4294967296^(n-2)*(4294967296*(t+1)):=Nat.mul_le_mul_left _ (by omega)
 have h4:4294967296^(n-2)*(u0+1+4294967296*t)=4294967296^(n-2)+4294967296^(n-2)*(u0+4294967296*t):=by grind
 have h5:(q+1)*(val (vl.take (n-2))+4294967296^(n-2)*(v0+4294967296*z))=(q+1)*(val (vl.take (n-2))+4294967296^(n-2)*v0)+4294967296^(n-2)*(4294967296*((q+1)*z)):=by grind
 rw[hU,hV,h5]
 have:=Nat.zero_le ((q+1)*(val (vl.take (n-2))+4294967296^(n-2)*v0))
 omega
theorem m_reduce{x vl A C:List Nat}{n id:Nat}{off:Nat}{cap:Option Nat}{c:VC}{S:Zt}{k:SV×Zt→Prop}
  (hx:x.length=n+1) (hv:vl.length=n) (hn:2≤n) (hn2:n<17592186044414) (bx:Bd x) (bv:Bd vl) (hlt:val x<4294967296*val vl)
  (ho:off=A.length) (hS:S[id]?=some (.cells (u32s (A++x++C)) true))
  (hk:∀(x':List Nat) (q:Nat),x'.length=n+1→Bd x'→q<4294967296→val x'+q*val vl=val x→val x<(q+1)*val vl→k (.int .u32 (q:Int),S.set id (.cells (u32s (A++x'++C)) true))) :
  wpO (cW cT 283 [.osl id 1 off (n+1) cap,.vsl (u32s vl) c] S) k:=by
 subst ho
 refine call_inpl rfl (F283_ok (k:=fun v S=>k (v,S)) ?_)
 have rest:∀(q:Nat) (e:En) (i0:SV),q<4294967296→val x<(q+1)*val vl→e 0=.osl id 1 A.length (n+1) cap→e 1=.vsl (u32s vl) c→e 6=.int .u64 (q:Int)→e 10=.int .u64 0→e 11=.int .u32 0→e 82=.int .i64 ((n+1:Nat):Int)→e 83=.int .i64 0→DenP cT 141 (.loop L283_1) e S (K283_1 (fun v S=>k (v,S))):=by
  intro q e i0 hq hqu h0 h1 h6 h10 h11 h82 h83
  refine lessen2_loop (n+1) x x vl A C 0 (n+1) q 0 0 id cap c S e _ (by omega) hx hx (by omega) bx bv hq (by omega) (by omega) rfl (by simp[val]) (by simp[val]) hS h0 h1 h6 h10 h11 h82 h83 ?_
  intro x' w' e' a1 a2 a3 a4 a5 a6 a7 a8
  rw[List.take_of_length_le (by omega),q_zero bv hv hq,Nat.zero_add]at a4
  refine K283_1e2_ok ?_
  unfold TK283_1e2
  have hS2:(S.set id (.cells (u32s (A++x'++C)) true))[id]?=some (.cells (u32s (A++x'++C)) true):=by
   rw[List.getElem?_set_self (List.getElem?_eq_some_iff.1 hS).1]
  refine fix_loop q x' vl A C (n+1) w' (val x) id cap c _ e' _ a1 (by omega) a2 bv (by omega) hq a3 a4 hqu hS2 (a5.trans h0) (a6.trans h1) (a7.trans h6) a8 ?_
  intro x2 q' e2 b1 b2 b3 b4 b5 b6
  refine K283_2e4_ok ?_
  unfold TK283_2e4
  rw[b6,conv23,ws,Nat.mod_eq_of_lt b3,List.set_set]
  exact hk x2 q' b1 b2 b3 b4 b5
 obtain⟨xn,hxn⟩:∃d,x[n]?=some d:=⟨x[n]'(by omega),by simp⟩
 obtain⟨xm,hxm⟩:∃d,x[n-1]?=some d:=⟨x[n-1]'(by omega),by simp⟩
 obtain⟨z,hz⟩:∃d,vl[n-1]?=some d:=⟨vl[n-1]'(by omega),by simp⟩
 obtain⟨u0,hu0⟩:∃d,x[n-2]?=some d:=⟨x[n-2]'(by omega),by simp⟩
 obtain⟨v0,hv0⟩:∃d,vl[n-2]?=some d:=⟨vl[n-2]'(by omega),by simp⟩
 have hxnb:=bx.get hxn
 have hxmb:=bx.get hxm
 have hzb:=bv.get hz
 unfold F283
 simp only[len115,hv,ws]
 refine wo (idx_off2 (show n<n+1 by omega)) ?_
 refine wo (ld_off hS hxn) ?_
 simp only[b_sub,ws]
 have e1:wrS .i64 ((n:Int)-1)=((n-1:Nat):Int):=subI (j:=1) (by omega) (by omega)
 rw[e1]
 refine wo (idx115 hz) ?_
 refine wo (load108 _ _) ?_
 simp only[b_lss,ws]
 refine condP_dec (fun hless=>?_) (fun hge=>?_)
 ·refine wo (idx_off2 (show n<n+1 by omega)) ?_
  refine wo (ld_off hS hxn) ?_
  refine wo (idx_off2 (show n-1<n+1 by omega)) ?_
  refine wo (ld_off hS hxm) ?_
  refine wo (idx115 hz) ?_
  refine wo (load108 _ _) ?_
  clear e1
  have hxz:xn<z:=by omega
  refine cpu rfl rfl (m_div32 hxz hxmb hzb ?_)
  refine wo rfl (wo rfl ?_)
  have hql:(xn*4294967296+xm)/z<4294967296:=by
   refine Nat.div_lt_of_lt_mul ?_
   have:=Nat.mul_le_mul_right 4294967296 (show xn+1≤z by omega)
   omega
  have hrl:=Nat.mod_lt (xn*4294967296+xm) (show 0<z by omega)
  have hqr:=Nat.div_add_mod (xn*4294967296+xm) z
  have htop:=top_q (r:=0) hv hx hn bx hxn hxm hz (by omega) rfl
  generalize (xn*4294967296+xm)/z=q at *
  generalize (xn*4294967296+xm)%z=r at *
  have cr:=conv51 (show r<4294967296 by omega)
  have cq:=conv51 hql
  rw[cr,ws,cq,ws]
  clear cr cq
  refine guess2_loop q r n z u0 v0 x vl id cap A C c S _ _ hv hx hn (by omega) bx bv hz hu0 hv0 hS rfl rfl rfl rfl rfl ?_ (by omega) hql htop ?_
  ·rw[hxn,hxm]
   simp only[Option.getD_some]
   rw[Nat.mul_comm];exact hqr
  ·intro q' e' g0 g1 g6 g7 g8
   refine K283_0e0_ok ?_
   unfold TK283_0e0
   have g0':e' 0=.osl id 1 A.length (n+1) cap:=g0
   rw[g0',len_off2,ws]
   exact rest q' _ .nilp g7 g8 g0 g1 g6 rfl rfl rfl rfl
 ·clear e1
  rw[len_off2,ws]
  refine rest 4294967295 _ .nilp (by omega) (by rw[Nat.mul_comm]at hlt;rw[Nat.mul_comm];exact hlt) rfl rfl rfl rfl rfl rfl rfl
end Go.Proofs
