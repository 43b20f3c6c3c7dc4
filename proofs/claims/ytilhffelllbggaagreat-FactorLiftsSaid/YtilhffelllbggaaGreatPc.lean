/-
  The reference divides integers of any length.
-/
import Derived.Test.YtilhffelllbggaaGreatPa
import Derived.Test.YtilhffelllbggaaGreatLa
import Derived.Test.YtilhffelllbggaaGreatKa
set_option linter.unusedVariables false
set_option linter.unusedSimpArgs false
set_option maxRecDepth 10000
namespace Go.Sh
theorem call_inpl{cfg:Cfg}{f:FuncId}{args:List SV}{S:Zt}{k:SV×Zt→Prop}(hm:cfg.mode f=.inpl)(h:wpO (bW cfg f args S) k):wpO (cW cfg f args S) k:=by
 rw[callW_eq,hm];exact h
theorem set_self{S:Zt}{id:Nat}{r:Row}(h:S[id]?=some r):S.set id r=S:=by
 refine List.ext_getElem? (fun n=>?_)
 rw[List.getElem?_set]
 split
 ·rename_i e;subst e
  rw[h,if_pos (List.getElem?_eq_some_iff.1 h).1]
 ·rfl
end Go.Sh
namespace Go.Proofs
open Go.Sh
theorem part_get{A x C:List Nat}{i d:Nat}(h:x[i]?=some d):(A++x++C)[A.length+i]?=some d:=by
 have hi:=(List.getElem?_eq_some_iff.1 h).1
 rw[List.append_assoc,List.getElem?_append_right (by omega),Nat.add_sub_cancel_left,List.getElem?_append_left hi,h]
theorem part_set{A x C:List Nat}{i d:Nat}(h:i<x.length):(A++x++C).set (A.length+i) d=A++x.set i d++C:=by
 rw[List.append_assoc,List.set_append_right _ _ (by omega),Nat.add_sub_cancel_left,List.set_append_left _ _ h,List.append_assoc]
theorem ld_off{S:Zt}{id i d:Nat}{A x C:List Nat}{lv:Bool}(h:S[id]?=some (.cells (u32s (A++x++C)) lv))(hx:x[i]?=some d):ldS y23 S (.optr id (A.length+i) 0)=some (.int .u32 (d:Int)):=by
 rw[load_row h (u32s_get (part_get hx))];rfl
theorem st_off{S:Zt}{id i d e:Nat}{A x C:List Nat}(h:S[id]?=some (.cells (u32s (A++x++C)) true))(hx:x[i]?=some e):stS y23 S (.optr id (A.length+i) 0) (.int .u32 (d:Int))=some (S.set id (.cells (u32s (A++x.set i d++C)) true)):=by
 rw[←part_set (List.getElem?_eq_some_iff.1 hx).1,←u32s_set]
 exact store_row h (u32s_get (part_get hx)) rfl rfl rfl
theorem idx_off{id off len i:Nat}{cap:Option Nat}(h:i<len):ixS cT y42 (.osl id 1 off len cap) (.int .i64 (i:Int))=some (.optr id (off+i) 0):=idx_osl (j:=y23) rfl rfl (by decide) h rfl
theorem len_off{id off len:Nat}{cap:Option Nat}:lenS y42 (.osl id 1 off len cap)=some (.int .i64 (len:Int)):=len_osl rfl
theorem gs_wrap{q v:Nat}(hq:q<4294967296)(hv:v<4294967296):wrS .u64 ((q:Int)*(v:Int))=((q*v:Nat):Int):=by
 have:q*v≤4294967295*4294967295:=Nat.mul_le_mul (by omega) (by omega)
 rw[wrapU64 (by rw[←Int.natCast_mul];omega) (by rw[←Int.natCast_mul];omega),Int.natCast_mul]
theorem gs_t{a b:Nat}(ha:a<4294967296)(hb:b<4294967296):wrS .u64 (wrS .u64 ((a:Int)*4294967296)+(b:Int))=((a*4294967296+b:Nat):Int):=by
 rw[wrapU64 (n:=(a:Int)*4294967296) (by omega) (by omega),wrapU64 (by omega) (by omega)]
 omega
theorem sub1{q:Nat}(h:0<q)(h2:q<18446744073709551616):wrS .u64 ((q:Int)-1)=((q-1:Nat):Int):=by
 rw[wrapU64 (by omega) (by omega)];omega
theorem subI{n j:Nat}(h:j≤n)(h2:n<9223372036854775808):wrS .i64 ((n:Int)-(j:Int))=((n-j:Nat):Int):=by
 rw[wrap64 (by omega) (by omega)];omega
theorem guess_loop:∀(q r n:Nat) (ul vl:List Nat) (id off:Nat) (cap:Option Nat) (A C:List Nat) (lv:Bool) (c:VC) (S:Zt) (e:En) (k:X→En→Zt→Prop),
  vl.length=n→ul.length=n+1→2≤n→n<4611686018427387904→Bd ul→Bd vl→1≤vl[n-1]?.getD 0→val ul<4294967296*val vl→
  S[id]?=some (.cells (u32s (A++ul++C)) lv)→off=A.length→
  e 0=.osl id 1 off (n+1) cap→e 1=.vsl (u32s vl) c→e 5=.int .i64 (n:Int)→e 7=.int .u64 (q:Int)→e 8=.int .u64 (r:Int)→
  q*(vl[n-1]?.getD 0)+r=ul[n]?.getD 0*4294967296+ul[n-1]?.getD 0→r<4294967296→val ul<(q+1)*val vl→
  (∀(q':Nat) (e':En),e' 7=.int .u64 (q':Int)→q'<4294967296→q'*val vl≤val ul+val vl→val ul<(q'+1)*val vl→k (.exit 0) e' S)→
  DenP cT 75 (.loop L220_0) e S k:=by
 intro q
 induction q with
 |zero=>
  intro r n ul vl id off cap A C lv c S e k hv hu hn hn2 bu bv hv1 hlt hS hoff h0 h1 h5 h7 h8 hq hr hQ hk
  have hu0:=bu.getD (n-2)
  have hv0:=bv.getD (n-2)
  obtain⟨x,hx⟩:∃x,ul[n-2]?=some x:=⟨ul[n-2]'(by omega),by simp⟩
  obtain⟨y,hy⟩:∃y,vl[n-2]?=some y:=⟨vl[n-2]'(by omega),by simp⟩
  have hx2:=bu.get hx
  have hy2:=bv.get hy
  refine L220_0_ok ?_
  unfold TL220_0
  simp only[h0,h1,h5,h7,h8,b_geq,ws]
  rw[decide_eq_false (by omega)]
  simp only[grdP_ff,b_sub,ws]
  rw[show wrS .i64 ((n:Int)-2)=((n-2:Nat):Int) from subI (j:=2) (by omega) (by omega)]
  simp only[idx30 hy,load108,conv51 hy2,b_mul,ws]
  rw[gs_wrap (by omega) hy2]
  subst hoff
  simp only[idx_off (show n-2<n+1 by omega),ld_off hS hx,conv51 hx2,b_add,ws]
  rw[gs_t hr hx2]
  simp only[b_gtr,ws]
  rw[decide_eq_false (by omega)]
  simp only[pickS_f,ws,cf_]
  refine hk 0 _ (by first|exact h7|rfl) (by omega) (by omega) hQ
 |succ q ih=>
  intro r n ul vl id off cap A C lv c S e k hv hu hn hn2 bu bv hv1 hlt hS hoff h0 h1 h5 h7 h8 hq hr hQ hk
  have hu1:=bu.getD (n-1)
  have hun:=bu.getD n
  have hvn:=bv.getD (n-1)
  obtain⟨x,hx⟩:∃x,ul[n-2]?=some x:=⟨ul[n-2]'(by omega),by simp⟩
  obtain⟨y,hy⟩:∃y,vl[n-2]?=some y:=⟨vl[n-2]'(by omega),by simp⟩
  obtain⟨z,hz⟩:∃z,vl[n-1]?=some z:=⟨vl[n-1]'(by omega),by simp⟩
  have hx2:=bu.get hx
  have hy2:=bv.get hy
  have hz2:=bv.get hz
  have hV:=Pl.val_two hv hn
  have hU:=Pl.val_three hu hn
  have hlo:=val_lt (bv.take (n-2))
  have hlu:=val_lt (bu.take (n-2))
  rw[List.length_take,Nat.min_eq_left (by omega)]at hlo hlu
  rw[hx]at hU
  rw[hy,hz]at hV
  rw[hz]at hq hv1 hvn
  simp only[Option.getD_some]at hU hV hq hv1 hvn
  have htt:ul[n]?.getD 0*4294967296+ul[n-1]?.getD 0<18446744073709551616:=by omega
  have hqt:q+1≤ul[n]?.getD 0*4294967296+ul[n-1]?.getD 0:=by
   have:=Nat.mul_le_mul_left (q+1) hv1
   omega
  generalize ht:ul[n]?.getD 0*4294967296+ul[n-1]?.getD 0=t at hU hq hqt htt
  have down:val ul<(q+1)*val vl→DenP cT 75 (.loop L220_0) e S k→DenP cT 75 (.loop L220_0) e S k:=fun _ h=>h
  have next:val ul<(q+1)*val vl→∀e1:En,(e1 0=.osl id 1 off (n+1) cap→e1 1=.vsl (u32s vl) c→e1 5=.int .i64 (n:Int)→e1 7=.int .u64 (q:Int)→e1 8=.int .u64 ((r+z:Nat):Int)→¬4294967296≤r+z→DenP cT 75 (.loop L220_0) e1 S k):=by
   intro hlt2 e1 a0 a1 a5 a7 a8 hrz
   refine ih (r+z) n ul vl id off cap A C lv c S e1 k hv hu hn hn2 bu bv (by rw[hz];exact hv1) hlt hS hoff a0 a1 a5 a7 a8 ?_ (by omega) hlt2 hk
   rw[ht,hz]
   simp only[Option.getD_some]
   rw[←hq,Nat.succ_mul];omega
  have stop:val ul<(q+1)*val vl→4294967296≤r+z→q<4294967296∧q*val vl≤val ul+val vl:=by
   intro hlt2 hrz
   have e1:q*z+(r+z)=t:=by rw[←hq,Nat.succ_mul];omega
   have hun2:ul[n]?.getD 0≤z:=by
    have hP:0<4294967296^(n-2):=Nat.pow_pos (by omega)
    have h1:4294967296^(n-2)*(x+4294967296*t)<4294967296*(4294967296^(n-2)*(1+(y+4294967296*z))):=by
     have:4294967296*(4294967296^(n-2)*(1+(y+4294967296*z)))=4294967296*(4294967296^(n-2)+4294967296^(n-2)*(y+4294967296*z)):=by grind
     omega
    have h2:x+4294967296*t<4294967296*(1+(y+4294967296*z)):=by
     have e2:4294967296*(4294967296^(n-2)*(1+(y+4294967296*z)))=4294967296^(n-2)*(4294967296*(1+(y+4294967296*z))):=by grind
     rw[e2]at h1
     exact Nat.lt_of_mul_lt_mul_left h1
    omega
   have hqB:q<4294967296:=by
    have h1:q*z<4294967296*z:=by
     have:=Nat.mul_le_mul_right 4294967296 hun2
     omega
    exact Nat.lt_of_mul_lt_mul_right h1
   refine⟨hqB,Pl.guess_near hV hU hlo hv1 (by omega) e1 ?_⟩
   have h1:q*y≤4294967296*4294967296:=Nat.mul_le_mul (by omega) (by omega)
   omega
  refine L220_0_ok ?_
  unfold TL220_0
  simp only[h0,h1,h5,h7,h8,b_geq,ws]
  by_cases hqB:(4294967296:Int)≤((q+1:Nat):Int)
  ·rw[decide_eq_true hqB]
   have hlt2:val ul<(q+1)*val vl:=Nat.lt_of_lt_of_le hlt (Nat.mul_le_mul_right _ (by omega))
   simp only[grdP_tf,pickS_t,ws,condP_t,b_sub,idx30 hz]
   rw[show wrS .u64 (((q+1:Nat):Int)-1)=((q:Nat):Int) from sub1 (q:=q+1) (by omega) (by omega)]
   rw[show wrS .i64 ((n:Int)-1)=((n-1:Nat):Int) from subI (j:=1) (by omega) (by omega)]
   simp only[idx30 hz,load108,conv51 hz2,b_add,ws]
   rw[show wrS .u64 ((r:Int)+(z:Int))=((r+z:Nat):Int)by rw[wrapU64 (by omega) (by omega)];omega]
   simp only[b_geq,ws]
   refine condP_dec (fun h=>?_) (fun h=>?_)
   ·obtain⟨s1,s2⟩:=stop hlt2 (by omega)
    exact hk q _ rfl s1 s2 hlt2
   ·exact next hlt2 _ (by first|exact h0|rfl) (by first|exact h1|rfl) (by first|exact h5|rfl) rfl rfl (by omega)
  ·rw[decide_eq_false hqB]
   simp only[grdP_ff,b_sub,ws]
   rw[show wrS .i64 ((n:Int)-2)=((n-2:Nat):Int) from subI (j:=2) (by omega) (by omega)]
   simp only[idx30 hy,load108,conv51 hy2,b_mul,ws]
   rw[gs_wrap (by omega) hy2]
   subst hoff
   simp only[idx_off (show n-2<n+1 by omega),ld_off hS hx,conv51 hx2,b_add,ws]
   rw[gs_t hr hx2]
   simp only[b_gtr,ws]
   by_cases hc:((r*4294967296+x:Nat):Int)<(((q+1)*y:Nat):Int)
   ·rw[decide_eq_true hc]
    have hlt2:val ul<(q+1)*val vl:=Pl.guess_less hV hU hlu hq (by omega)
    simp only[pickS_f,ws,condP_t]
    rw[show wrS .u64 (((q+1:Nat):Int)-1)=((q:Nat):Int) from sub1 (q:=q+1) (by omega) (by omega)]
    rw[show wrS .i64 ((n:Int)-1)=((n-1:Nat):Int) from subI (j:=1) (by omega) (by omega)]
    simp only[idx30 hz,load108,conv51 hz2,b_add,ws]
    rw[show wrS .u64 ((r:Int)+(z:Int))=((r+z:Nat):Int)by rw[wrapU64 (by omega) (by omega)];omega]
    simp only[b_geq,ws]
    refine condP_dec (fun h=>?_) (fun h=>?_)
    ·obtain⟨s1,s2⟩:=stop hlt2 (by omega)
     exact hk q _ rfl s1 s2 hlt2
    ·exact next hlt2 _ (by first|exact h0|rfl) (by first|exact h1|rfl) (by first|exact h5|rfl) rfl rfl (by omega)
   ·rw[decide_eq_false hc]
    simp only[pickS_f,ws,cf_]
    refine hk (q+1) _ (by first|exact h7|rfl) (by omega) ?_ hQ
    exact Pl.guess_near hV hU hlo hv1 (by omega) hq (by omega)
end Go.Proofs
namespace Go.Proofs
open Go.Sh
theorem w_guess{ul vl:List Nat}{n id:Nat}{off:Nat}{cap:Option Nat}{A C:List Nat}{lv:Bool}{c:VC}{S:Zt}{k:SV×Zt→Prop}
  (hv:vl.length=n) (hu:ul.length=n+1) (hn:2≤n) (hn2:n<4611686018427387904) (bu:Bd ul) (bv:Bd vl) (hv1:1≤vl[n-1]?.getD 0) (hlt:val ul<4294967296*val vl)
  (ho:off=A.length) (hS:S[id]?=some (.cells (u32s (A++ul++C)) lv))
  (hk:∀q:Nat,q<4294967296→q*val vl≤val ul+val vl→val ul<(q+1)*val vl→k (.int .u64 (q:Int),S)) :
  wpO (cW cT 220 [.osl id 1 off (n+1) cap,.vsl (u32s vl) c] S) k:=by
 subst ho
 refine call_inpl rfl (F220_ok (k:=fun v S=>k (v,S)) ?_)
 unfold F220
 obtain⟨x,hx⟩:∃x,ul[n]?=some x:=⟨ul[n]'(by omega),by simp⟩
 obtain⟨y,hy⟩:∃y,ul[n-1]?=some y:=⟨ul[n-1]'(by omega),by simp⟩
 obtain⟨z,hz⟩:∃z,vl[n-1]?=some z:=⟨vl[n-1]'(by omega),by simp⟩
 have hx2:=bu.get hx
 have hy2:=bu.get hy
 have hz2:=bv.get hz
 have hv1':=hv1
 rw[hz]at hv1
 simp only[Option.getD_some]at hv1
 have htB:x*4294967296+y<18446744073709551616:=by omega
 simp only[len30,ws,hv,idx_off (show n<n+1 by omega),ld_off hS hx,conv51 hx2,b_mul,b_sub]
 rw[show wrS .i64 ((n:Int)-1)=((n-1:Nat):Int) from subI (j:=1) (by omega) (by omega)]
 simp only[idx_off (show n-1<n+1 by omega),ws,ld_off hS hy,conv51 hy2,b_add,idx30 hz,load108,conv51 hz2]
 rw[gs_t hx2 hy2]
 refine wo (b_quo (by omega)) ?_
 refine wo (b_rem (by omega)) ?_
 have e1:wrS .u64 (((x*4294967296+y:Nat):Int).tdiv (z:Int))=(((x*4294967296+y)/z:Nat):Int):=by
  rw[Int.tdiv_eq_ediv_of_nonneg (by omega),←Int.natCast_ediv]
  have:=Nat.div_le_self (x*4294967296+y) z
  generalize (x*4294967296+y)/z=qq at this ⊢
  exact wrapU64 (by omega) (by omega)
 rw[e1,remW]
 have hr:=Nat.mod_lt (x*4294967296+y) hv1
 refine guess_loop ((x*4294967296+y)/z) ((x*4294967296+y)%z) n ul vl id A.length cap A C lv c S _ _ hv hu hn hn2 bu bv hv1' hlt hS rfl rfl rfl rfl rfl rfl ?_ (by omega) ?_ ?_
 ·rw[hx,hy,hz]
  simp only[Option.getD_some]
  rw[Nat.mul_comm]
  exact Nat.div_add_mod _ _
 ·have hV:=Pl.val_two hv hn
  have hU:=Pl.val_three hu hn
  have hlu:=val_lt (bu.take (n-2))
  rw[List.length_take,Nat.min_eq_left (by omega)]at hlu
  rw[hx,hy]at hU
  rw[hz]at hV
  simp only[Option.getD_some]at hU hV
  have bu0:=bu.getD (n-2)
  generalize ul[n-2]?.getD 0=u0 at hU bu0
  generalize vl[n-2]?.getD 0=v0 at hV
  generalize ht:x*4294967296+y=t at *
  have hd:=Nat.div_add_mod t z
  have h1:t+1≤(t/z+1)*z:=by rw[Nat.succ_mul,Nat.mul_comm];omega
  have h2:4294967296^(n-2)*(4294967296*(t+1))≤4294967296^(n-2)*(4294967296*((t/z+1)*z)):=Nat.mul_le_mul_left _ (Nat.mul_le_mul_left _ h1)
  have h3:4294967296^(n-2)*(u0+1+4294967296*t)≤4294967296^(n-2)*(4294967296*(t+1)):=Nat.mul_le_mul_left _ (by omega)
  have h4:4294967296^(n-2)*(u0+1+4294967296*t)=4294967296^(n-2)+4294967296^(n-2)*(u0+4294967296*t):=by grind
  have h5:(t/z+1)*(val (vl.take (n-2))+4294967296^(n-2)*(v0+4294967296*z))=(t/z+1)*(val (vl.take (n-2))+4294967296^(n-2)*v0)+4294967296^(n-2)*(4294967296*((t/z+1)*z)):=by grind
  rw[hU,hV,h5]
  have:=Nat.zero_le ((t/z+1)*(val (vl.take (n-2))+4294967296^(n-2)*v0))
  omega
 ·intro q' e' h7 a1 a2 a3
  refine K220_0e0_ok ?_
  unfold TK220_0e0
  rw[h7]
  exact hk q' a1 a2 a3
theorem ls_id{q v x w c t p:Nat}(hx:x<4294967296)(hw:w≤1)(hp:p=q*v+c)(ht:t=4294967296+x-p%4294967296-w):t%4294967296+q*v+c+w=x+4294967296*((1-t/4294967296)+p/4294967296):=by
 have h1:=Nat.div_add_mod p 4294967296
 have h2:=Nat.mod_lt p (show 0<4294967296 by decide)
 omega
theorem ls_carry{q c i d:Nat}{vl:List Nat}(hc:c=q*val (vl.take i)/4294967296^i)(hd:vl[i]?.getD 0=d):(q*d+c)/4294967296=q*val (vl.take (i+1))/4294967296^(i+1):=by
 have hP:0<4294967296^i:=Nat.pow_pos (by omega)
 rw[val_take_succ,hd,Nat.pow_succ,←Nat.div_div_eq_div_mul]
 have:q*(val (vl.take i)+4294967296^i*d)=q*val (vl.take i)+4294967296^i*(q*d):=by grind
 rw[this,Nat.add_mul_div_left _ _ hP,←hc,Nat.add_comm]
theorem val_take_set{x:List Nat}{i d:Nat}(h:i<x.length):val ((x.set i d).take (i+1))=val (x.take i)+4294967296^i*d:=by
 rw[val_take_succ,List.take_set_of_le (Nat.le_refl i),List.getElem?_set_self h];rfl
theorem Bd.set{x:List Nat}(h:Bd x)(i:Nat){d:Nat}(hd:d<4294967296):Bd (x.set i d):=fun y hy=>by
 rcases List.mem_or_eq_of_mem_set hy with h1|h1
 ·exact h y h1
 ·omega
theorem lessen_loop:∀(m:Nat) (x x0 vl A C:List Nat) (i n q cy w id:Nat) (cap:Option Nat) (c:VC) (S:Zt) (e:En) (k:X→En→Zt→Prop),
  i+m=n→x.length=n→x0.length=n→n<4611686018427387904→Bd x→Bd vl→q<4294967296→w≤1→cy<4294967296→x.drop i=x0.drop i→
  cy=q*val (vl.take i)/4294967296^i→
  val (x.take i)+q*val (vl.take i)=val (x0.take i)+4294967296^i*(cy+w)→
  S[id]?=some (.cells (u32s (A++x++C)) true)→
  e 0=.osl id 1 A.length n cap→e 1=.vsl (u32s vl) c→e 2=.int .u64 (q:Int)→e 7=.int .u64 (cy:Int)→e 8=.int .u64 (w:Int)→e 9=.int .i64 (i:Int)→
  (∀(x':List Nat) (w':Nat) (e':En),x'.length=n→Bd x'→w'≤1→val x'+q*val (vl.take n)=val x0+4294967296^n*(q*val (vl.take n)/4294967296^n+w')→e' 8=.int .u64 (w':Int)→k (.exit 0) e' (S.set id (.cells (u32s (A++x'++C)) true)))→
  DenP cT 49 (.loop L221_0) e S k:=by
 intro m
 induction m with
 |zero=>
  intro x x0 vl A C i n q cy w id cap c S e k hn hxl hx0 hn2 bx bv hq hw hcy hdr hc hval hS h0 h1 h2 h7 h8 h9 hk
  refine L221_0_ok ?_
  unfold TL221_0
  simp only[h0,h9,len_off,b_lss,ws]
  refine condP_dec (fun h=>by omega) (fun _=>?_)
  have hi:i=n:=by omega
  subst hi
  have key:=fun e' h=>hk x w e' hxl bx hw (by rw[List.take_of_length_le (by omega),List.take_of_length_le (l:=x0) (by omega)]at hval;rw[←hc];exact hval) h
  simp only[set_self hS]at key
  exact key _ h8
 |succ m ih=>
  intro x x0 vl A C i n q cy w id cap c S e k hn hxl hx0 hn2 bx bv hq hw hcy hdr hc hval hS h0 h1 h2 h7 h8 h9 hk
  refine L221_0_ok ?_
  unfold TL221_0
  simp only[h0,h1,h2,h7,h8,h9,len_off,b_lss,ws]
  refine condP_dec (fun _=>?_) (fun h=>absurd (by omega) h)
  refine cpu rfl rfl (c115 bv ?_)
  have hd:=bv.getD i
  have hcs:=ls_carry (d:=vl[i]?.getD 0) hc rfl
  have hvt:=val_take_succ vl i
  generalize vl[i]?.getD 0=d at hd hcs hvt ⊢
  obtain⟨y,hy⟩:∃y,x[i]?=some y:=⟨x[i]'(by omega),by simp⟩
  have hy2:=bx.get hy
  have hy0:x0[i]?=some y:=by
   have h1:=congrArg (fun l=>l[0]?) hdr
   simp only[List.getElem?_drop,Nat.add_zero]at h1
   rw[←h1];exact hy
  have hx0t:=val_take_succ x0 i
  rw[hy0]at hx0t
  simp only[Option.getD_some]at hx0t
  have hpB:q*d+cy<18446744073709551616:=by
   have:q*d≤4294967295*4294967295:=Nat.mul_le_mul (by omega) (by omega)
   omega
  simp only[b_mul,b_add,ws]
  rw[gs_wrap hq hd,show wrS .u64 (((q*d:Nat):Int)+(cy:Int))=((q*d+cy:Nat):Int)by rw[wrapU64 (by omega) (by omega)];omega]
  generalize hp:q*d+cy=p at hpB hcs ⊢
  refine wo (b_quo (by decide)) ?_
  rw[highW hpB]
  simp only[idx_off (show i<n by omega),ld_off hS hy,conv51 hy2,b_add,ws]
  refine wo (b_rem (by decide)) ?_
  simp only[b_sub,ws]
  have hmod:((p:Int).tmod 4294967296)=((p%4294967296:Nat):Int):=remW
  have hpm:=Nat.mod_lt p (show 0<4294967296 by decide)
  rw[hmod,brw_eq hy2 hpm hw]
  have hlt:=brw_lt hy2 hpm hw
  have hq1:=brw_q hy2 hpm hw
  have hid:=ls_id (q:=q) (v:=d) (c:=cy) hy2 hw hp.symm rfl
  generalize 4294967296+y-p%4294967296-w=t at hlt hq1 hid ⊢
  refine wo (b_rem (by decide)) ?_
  refine wo (conv_int rfl rfl) ?_
  rw[lowW hlt]
  refine wo (st_off hS hy) ?_
  refine wo (b_quo (by decide)) ?_
  rw[highW hlt]
  simp only[b_sub,b_add,ws]
  rw[hq1,wrap64 (by omega) (by omega)]
  have hS2:(S.set id (.cells (u32s (A++x.set i (t%4294967296)++C)) true))[id]?=some (.cells (u32s (A++x.set i (t%4294967296)++C)) true):=by
   rw[List.getElem?_set_self (List.getElem?_eq_some_iff.1 hS).1]
  refine ih (x.set i (t%4294967296)) x0 vl A C (i+1) n q (p/4294967296) (1-t/4294967296) id cap c _ _ k (by omega) (by simp[hxl]) hx0 hn2 (bx.set i (Nat.mod_lt _ (by decide))) bv hq (by omega) (by omega) ?_ hcs ?_ hS2 h0 h1 h2 rfl rfl (by rfl) ?_
  ·rw[List.drop_set_of_lt (by omega)]
   have h1:=congrArg (List.drop 1) hdr
   simpa[List.drop_drop]using h1
  ·rw[val_take_set (by omega),hvt,hx0t,Nat.pow_succ]
   generalize 1-t/4294967296=w2 at hid ⊢
   generalize p/4294967296=c2 at hid ⊢
   generalize t%4294967296=r at hid ⊢
   generalize 4294967296^i=P at hval ⊢
   have:P*(r+q*d+cy+w)=P*(y+4294967296*(w2+c2)):=by rw[hid]
   grind
  ·intro x' w' e' a1 a2 a3 a4 a5
   rw[List.set_set]
   exact hk x' w' e' a1 a2 a3 a4 a5
theorem w_lessen{x vl A C:List Nat}{n q id:Nat}{off:Nat}{cap:Option Nat}{c:VC}{S:Zt}{k:SV×Zt→Prop}
  (hx:x.length=n+1) (hv:vl.length=n) (hn2:n<4611686018427387903) (bx:Bd x) (bv:Bd vl) (hq:q<4294967296)
  (ho:off=A.length) (hS:S[id]?=some (.cells (u32s (A++x++C)) true))
  (hk:∀(x':List Nat) (w:Nat),x'.length=n+1→Bd x'→w≤1→val x'+q*val vl=val x+4294967296^(n+1)*w→k (.bool (decide ((w:Int)=1)),S.set id (.cells (u32s (A++x'++C)) true))) :
  wpO (cW cT 221 [.osl id 1 off (n+1) cap,.vsl (u32s vl) c,.int .u64 (q:Int)] S) k:=by
 subst ho
 refine call_inpl rfl (F221_ok (k:=fun v S=>k (v,S)) ?_)
 unfold F221
 refine lessen_loop (n+1) x x vl A C 0 (n+1) q 0 0 id cap c S _ _ (by omega) hx hx (by omega) bx bv hq (by omega) (by omega) rfl (by simp[val]) (by simp[val]) hS rfl rfl rfl rfl rfl rfl ?_
 intro x' w' e' a1 a2 a3 a4 a5
 refine K221_0e0_ok ?_
 unfold TK221_0e0
 simp only[a5,b_eql,ws]
 have hz:q*val vl/4294967296^(n+1)=0:=by
  refine Nat.div_eq_of_lt ?_
  have:=val_lt bv
  rw[hv]at this
  have h1:q*val vl≤q*4294967296^n:=Nat.mul_le_mul_left q (by omega)
  have h2:q*4294967296^n<4294967296*4294967296^n:=Nat.mul_lt_mul_of_pos_right hq (Nat.pow_pos (by omega))
  rw[Nat.pow_succ];omega
 rw[List.take_of_length_le (by omega),hz,Nat.zero_add]at a4
 exact hk x' w' a1 a2 a3 a4
theorem restore_loop:∀(m:Nat) (x x0 vl A C:List Nat) (i n cy id:Nat) (cap:Option Nat) (c:VC) (S:Zt) (e:En) (k:X→En→Zt→Prop),
  i+m=n→x.length=n→x0.length=n→n<4611686018427387904→Bd x→Bd vl→cy≤1→x.drop i=x0.drop i→
  val (x.take i)+4294967296^i*cy=val (x0.take i)+val (vl.take i)→
  S[id]?=some (.cells (u32s (A++x++C)) true)→
  e 0=.osl id 1 A.length n cap→e 1=.vsl (u32s vl) c→e 4=.int .u64 (cy:Int)→e 5=.int .i64 (i:Int)→
  (∀(x':List Nat) (cy':Nat) (e':En),x'.length=n→Bd x'→cy'≤1→val x'+4294967296^n*cy'=val x0+val (vl.take n)→k (.exit 0) e' (S.set id (.cells (u32s (A++x'++C)) true)))→
  DenP cT 32 (.loop L222_0) e S k:=by
 intro m
 induction m with
 |zero=>
  intro x x0 vl A C i n cy id cap c S e k hn hxl hx0 hn2 bx bv hcy hdr hval hS h0 h1 h4 h5 hk
  refine L222_0_ok ?_
  unfold TL222_0
  simp only[h0,h5,len_off,b_lss,ws]
  refine condP_dec (fun h=>by omega) (fun _=>?_)
  have hi:i=n:=by omega
  subst hi
  have key:=fun e'=>hk x cy e' hxl bx hcy (by rw[List.take_of_length_le (by omega),List.take_of_length_le (l:=x0) (by omega)]at hval;exact hval)
  simp only[set_self hS]at key
  exact key _
 |succ m ih=>
  intro x x0 vl A C i n cy id cap c S e k hn hxl hx0 hn2 bx bv hcy hdr hval hS h0 h1 h4 h5 hk
  refine L222_0_ok ?_
  unfold TL222_0
  simp only[h0,h1,h4,h5,len_off,b_lss,ws]
  refine condP_dec (fun _=>?_) (fun h=>absurd (by omega) h)
  obtain⟨y,hy⟩:∃y,x[i]?=some y:=⟨x[i]'(by omega),by simp⟩
  have hy2:=bx.get hy
  have hy0:x0[i]?=some y:=by
   have h1:=congrArg (fun l=>l[0]?) hdr
   simp only[List.getElem?_drop,Nat.add_zero]at h1
   rw[←h1];exact hy
  have hx0t:=val_take_succ x0 i
  rw[hy0]at hx0t
  simp only[Option.getD_some]at hx0t
  simp only[idx_off (show i<n by omega),ld_off hS hy,conv51 hy2,ws]
  refine cpu rfl rfl (c115 bv ?_)
  have hd:=bv.getD i
  have hvt:=val_take_succ vl i
  generalize vl[i]?.getD 0=d at hd hvt ⊢
  simp only[b_add,ws]
  rw[show wrS .u64 (wrS .u64 ((y:Int)+(d:Int))+(cy:Int))=((y+d+cy:Nat):Int)by rw[wrapU64 (n:=(y:Int)+d) (by omega) (by omega),wrapU64 (by omega) (by omega)];omega]
  have hlt:=sum_lt hy2 hd hcy
  have hcl:=carry_le hy2 hd hcy
  have hdm:=Nat.div_add_mod (y+d+cy) 4294967296
  generalize hte:y+d+cy=t at hlt hcl hdm ⊢
  refine wo (b_rem (by decide)) ?_
  refine wo (conv_int rfl rfl) ?_
  rw[lowW hlt]
  refine wo (st_off hS hy) ?_
  refine wo (b_quo (by decide)) ?_
  rw[highW hlt]
  rw[wrap64 (by omega) (by omega)]
  have hS2:(S.set id (.cells (u32s (A++x.set i (t%4294967296)++C)) true))[id]?=some (.cells (u32s (A++x.set i (t%4294967296)++C)) true):=by
   rw[List.getElem?_set_self (List.getElem?_eq_some_iff.1 hS).1]
  refine ih (x.set i (t%4294967296)) x0 vl A C (i+1) n (t/4294967296) id cap c _ _ k (by omega) (by simp[hxl]) hx0 hn2 (bx.set i (Nat.mod_lt _ (by decide))) bv hcl ?_ ?_ hS2 h0 h1 rfl (by rfl) ?_
  ·rw[List.drop_set_of_lt (by omega)]
   have h1:=congrArg (List.drop 1) hdr
   simpa[List.drop_drop]using h1
  ·rw[val_take_set (by omega),hvt,hx0t,Nat.pow_succ]
   generalize t/4294967296=c2 at hdm ⊢
   generalize t%4294967296=r at hdm ⊢
   generalize 4294967296^i=P at hval ⊢
   have:P*(4294967296*c2+r)=P*(y+d+cy):=by rw[hdm,hte]
   grind
  ·intro x' w' e' a1 a2 a3 a4
   rw[List.set_set]
   exact hk x' w' e' a1 a2 a3 a4
theorem w_restore{x vl A C:List Nat}{n id:Nat}{off:Nat}{cap:Option Nat}{c:VC}{S:Zt}{k:SV×Zt→Prop}
  (hx:x.length=n+1) (hv:vl.length=n) (hn2:n<4611686018427387903) (bx:Bd x) (bv:Bd vl)
  (ho:off=A.length) (hS:S[id]?=some (.cells (u32s (A++x++C)) true))
  (hk:∀(x':List Nat) (w:Nat),x'.length=n+1→Bd x'→w≤1→val x'+4294967296^(n+1)*w=val x+val vl→k (.tup [],S.set id (.cells (u32s (A++x'++C)) true))) :
  wpO (cW cT 222 [.osl id 1 off (n+1) cap,.vsl (u32s vl) c] S) k:=by
 subst ho
 refine call_inpl rfl (F222_ok (k:=fun v S=>k (v,S)) ?_)
 unfold F222
 refine restore_loop (n+1) x x vl A C 0 (n+1) 0 id cap c S _ _ (by omega) hx hx (by omega) bx bv (by omega) rfl (by simp[val]) hS rfl rfl rfl rfl ?_
 intro x' w' e' a1 a2 a3 a4
 refine K222_0e0_ok ?_
 unfold TK222_0e0
 rw[List.take_of_length_le (by omega)]at a4
 exact hk x' w' a1 a2 a3 a4
end Go.Proofs
namespace Go.Sh
theorem slic_at{j:TyI}{k k':IntKind}{id off len lo hi:Nat}{cap:Option Nat}(hj:j.size≠0)(h1:lo≤hi)(h2:hi≤len) :
  slicS j (.osl id j.size off len cap) (some (.int k (lo:Int))) (some (.int k' (hi:Int))) none=some (.osl id j.size (off+lo) (hi-lo) (cap.map (·-lo))):=by
 unfold slicS
 rw[if_neg hj]
 simp only[optNat,natS,Int.natCast_nonneg,if_true,Int.toNat_natCast,Option.map_some,Option.bind_some,sizeIs,beq_self_eq_true,sliceS,Option.getD_some]
 rw[if_pos ⟨h1,by simp[withinS,h2]⟩]
end Go.Sh
namespace Go.Proofs
open Go.Sh
theorem copy_new{S:Zt}{id n:Nat}{cap:Option Nat}{xs:List Nat}{c:VC}(h:S[id]?=some (.cells (u32s (List.replicate n 0)) true))(hx:xs.length≤n) :
  ∃v,copyS 1 S (.osl id 1 0 n cap) (.vsl (u32s xs) c)=some (v,S.set id (.cells (u32s (xs++List.replicate (n-xs.length) 0)) true)):=by
 unfold copyS
 simp only[elemsS,Option.bind_some]
 have ht:(u32s xs).take n=u32s xs:=List.take_of_length_le (by rw[u32s_len];exact hx)
 rw[ht]
 by_cases h0:xs=[]
 ·subst h0
  refine⟨.int .i64 0,?_⟩
  rw[if_pos (by rfl)]
  simp only[List.length_nil,Nat.sub_zero,List.nil_append]
  rw[set_self h]
 ·have hne:(u32s xs).isEmpty=false:=by
   cases xs with
   |nil=>exact absurd rfl h0
   |cons=>rfl
  rw[hne]
  simp only[Bool.false_eq_true,if_false,h]
  have hs:sizesOk 1 (u32s xs)=true:=by
   unfold sizesOk
   rw[List.all_eq_true]
   intro e he
   obtain⟨d,_,rfl⟩:=List.mem_map.1 he
   rfl
  rw[if_pos (by simp[hs,u32s_len])]
  refine⟨.int .i64 (u32s xs).length,?_⟩
  unfold spliceS
  rw[if_pos (by rw[u32s_len,u32s_len,List.length_replicate];omega)]
  simp only[Option.bind_some,List.take_zero,List.nil_append,Nat.zero_add]
  rw[u32s_append,u32s_len]
  congr 4
  simp[u32s]
theorem dg_eq{x x':Nat}{q V P w:Nat}(h:x'+q*V=x+P*w)(hx':x'<P)(hw:w≤1)(hq:q*V≤x+V)(hV:V≤P):(w=0∧q*V≤x∧x'=x-q*V)∨(w=1∧x<q*V∧x'+q*V=x+P):=by
 rcases Nat.eq_zero_or_pos w with h0|h0
 ·subst h0
  left
  rw[Nat.mul_zero]at h
  exact⟨rfl,by omega,by omega⟩
 ·have:w=1:=by omega
  subst this
  right
  rw[Nat.mul_one]at h
  exact⟨rfl,by omega,h⟩
theorem top_zero{a b V P:Nat}(h:a+P*b<V)(hV:V<P):b=0:=by
 rcases Nat.eq_zero_or_pos b with h0|h0
 ·exact h0
 ·have:=Nat.mul_le_mul_left P h0
  omega
theorem lt_powS{V n:Nat}(h:V<4294967296^n):V≤4294967296^(n+1):=by
 rw[Nat.pow_succ];omega
theorem rs_eq{x2 x' V q x P w2:Nat}(h1:x'+q*V=x+P)(h2:x2+P*w2=x'+V)(h3:x2<P)(h4:q*V≤x+V)(hw:w2≤1)(h5:x<q*V)(hx':x'<P):x2+q*V=x+V∧x2<V:=by
 have:w2=1:=by
  rcases Nat.eq_zero_or_pos w2 with h|h
  ·exfalso;subst h;omega
  ·omega
 subst this
 omega
theorem div_loop:∀(m:Nat) (U ql vl:List Nat) (L n A0:Nat) (capu capq:Option Nat) (c:VC) (S:Zt) (e:En) (k:X→En→Zt→Prop),
  S=[.cells (u32s U) true,.cells (u32s (List.replicate m 0++ql)) true]→U.length=L→m+n≤L→vl.length=n→2≤n→L<70368744177664→m+ql.length<70368744177664→Bd U→Bd ql→Bd vl→1≤vl[n-1]?.getD 0→
  val (U.drop m)<val vl→val U+val vl*(4294967296^m*val ql)=A0→
  e 8=.int .i64 (n:Int)→e 10=.vsl (u32s vl) c→e 11=.osl 0 1 0 L capu→e 12=.osl 1 1 0 (m+ql.length) capq→e 13=.int .i64 ((m:Int)-1)→
  (∀(U' q':List Nat) (e':En),U'.length=L→q'.length=m+ql.length→Bd U'→Bd q'→val U'<val vl→val U'+val vl*val q'=A0→e' 9=e 9→e' 11=.osl 0 1 0 L capu→e' 12=.osl 1 1 0 (m+ql.length) capq→k (.exit 0) e' [.cells (u32s U') true,.cells (u32s q') true])→
  DenP cT 110 (.loop L153_0) e S k:=by
 intro m
 induction m with
 |zero=>
  intro U ql vl L n A0 capu capq c S e k hS hU hmn hv hn hL hq bU bq bv hv1 hlt hA h8 h10 h11 h12 h13 hk
  subst hS
  refine L153_0_ok ?_
  unfold TL153_0
  simp only[h13,b_geq,ws]
  refine condP_dec (fun h=>by omega) (fun _=>?_)
  rw[List.drop_zero]at hlt
  rw[Nat.pow_zero,Nat.one_mul]at hA
  exact hk U ql _ hU (by simp) bU bq hlt hA rfl h11 h12
 |succ m ih=>
  intro U ql vl L n A0 capu capq c S e k hS hU hmn hv hn hL hq bU bq bv hv1 hlt hA h8 h10 h11 h12 h13 hk
  refine L153_0_ok ?_
  unfold TL153_0
  have h13':e 13=.int .i64 (m:Int):=by rw[h13];congr 1;omega
  simp only[h13',b_geq,ws]
  refine condP_dec (fun _=>?_) (fun h=>absurd (by omega) h)
  simp only[h8,h10,h11,h12,b_add,ws]
  rw[addI (by omega)]
  rw[show wrS .i64 (((m+n:Nat):Int)+1)=((m+n+1:Nat):Int) from succI (by omega)]
  refine wo (slic_at (j:=y23) (by decide) (by omega) (by omega)) ?_
  rw[Nat.zero_add,show m+n+1-m=n+1 by omega]
  obtain⟨A,x,C,rfl,hAl,hxl⟩:∃A x C,U=A++x++C∧A.length=m∧x.length=n+1:=by
   refine⟨U.take m,(U.drop m).take (n+1),(U.drop m).drop (n+1),?_,by simp;omega,by simp;omega⟩
   rw[List.append_assoc,List.take_append_drop,List.take_append_drop]
  have bx:Bd x:=fun d hd=>bU d (by simp[hd])
  have bA:Bd A:=fun d hd=>bU d (by simp[hd])
  have bC:Bd C:=fun d hd=>bU d (by simp[hd])
  have hVn:=val_lt bv
  rw[hv]at hVn
  obtain⟨x1,xr,rfl⟩:∃x1 xr,x=x1::xr:=by
   cases x with
   |nil=>simp at hxl
   |cons a r=>exact⟨a,r,rfl⟩
  have hxr:xr.length=n:=by simpa using hxl
  have hdr:(A++(x1::xr)++C).drop (m+1)=xr++C:=by
   rw[List.append_assoc,List.drop_append,List.drop_of_length_le (by omega),List.nil_append,show m+1-A.length=1 by omega]
   rfl
  rw[hdr,val_append,hxr]at hlt
  have hC0:val C=0:=top_zero hlt hVn
  rw[hC0,Nat.mul_zero,Nat.add_zero]at hlt
  have hx1:x1<4294967296:=bx.head
  have hltx:val (x1::xr)<4294967296*val vl:=by rw[val];omega
  have hS0:S[0]?=some (.cells (u32s (A++(x1::xr)++C)) true):=by rw[hS];rfl
  have hvU:val (A++(x1::xr)++C)=val A+4294967296^m*val (x1::xr):=by
   rw[val_append,val_append,hC0,Nat.mul_zero,Nat.add_zero,hAl]
  rw[hvU]at hA
  generalize x1::xr=x at *
  refine w_guess (A:=A) hv hxl hn (by omega) bx bv hv1 hltx hAl.symm hS0 ?_
  intro q hq1 hq2 hq3
  refine w_lessen (A:=A) hxl hv (by omega) bx bv hq1 hAl.symm hS0 ?_
  intro x' w hx'l bx' hw hval
  have hx'lt:=val_lt bx'
  rw[hx'l]at hx'lt
  have hVP:val vl≤4294967296^(n+1):=lt_powS hVn
  have hdg:=dg_eq hval hx'lt hw hq2 hVP
  have hrs:=fun x2 w2 h1 h2 h3 h4=>(rs_eq (x2:=x2) (w2:=w2) (x':=val x') (x:=val x) (q:=q) (V:=val vl) (P:=4294967296^(n+1)) h1 h2 h3 hq2 h4)
  have hx'ltc:=hx'lt
  clear hval hVn hVP hx'lt
  have hrow:(List.replicate (m+1) 0++ql).length=m+1+ql.length:=by simp
  have rest:∀(g:Nat) (x2:List Nat) (e2:En),g<4294967296→x2.length=n+1→Bd x2→val x2<val vl→val x2+g*val vl=val x→
    e2 8=.int .i64 (n:Int)→e2 10=.vsl (u32s vl) c→e2 11=.osl 0 1 0 L capu→e2 12=.osl 1 1 0 (m+1+ql.length) capq→e2 13=.int .i64 ((m:Int)-1)→e2 9=e 9→
    DenP cT 110 (.loop L153_0) e2 [.cells (u32s (A++x2++C)) true,.cells (u32s (List.replicate m 0++(g::ql))) true] k:=by
   intro g x2 e2 hg hx2l bx2 hx2lt hx2v a8 a10 a11 a12 a13 a9
   refine ih (A++x2++C) (g::ql) vl L n A0 capu capq c _ e2 k rfl ?_ (by omega) hv hn hL ?_ ((bA.append bx2).append bC) (Bd.cons hg bq) bv hv1 ?_ ?_ a8 a10 a11 ?_ a13 ?_
   ·simp only[List.length_append]at hU ⊢;omega
   ·simp only[List.length_cons];omega
   ·rw[List.append_assoc,List.drop_append,List.drop_of_length_le (by omega),List.nil_append,show m-A.length=0 by omega,List.drop_zero,val_append,hC0]
    omega
   ·rw[val_append,val_append,hC0,hAl,val]
    rw[←hA,Nat.pow_succ,←hx2v]
    grind
   ·rw[a12,List.length_cons];congr 1;omega
   ·intro U' q' e' b1 b2 b3 b4 b5 b6 b7 b8 b9
    refine hk U' q' e' b1 (by rw[b2,List.length_cons];omega) b3 b4 b5 b6 (by rw[b7,a9]) b8 (by rw[b9,List.length_cons];congr 1;omega)
  have store:∀(S2:Zt) (g:Nat),S2[1]?=some (.cells (u32s (List.replicate (m+1) 0++ql)) true)→
    stS y23 S2 (.optr 1 (0+m) 0) (.int .u32 (g:Int))=some (S2.set 1 (.cells (u32s (List.replicate m 0++(g::ql))) true)):=by
   intro S2 g h
   rw[store_row (e:=.int .u32 0) h (by rw[show(0:Int)=((0:Nat):Int) from rfl];exact u32s_get (by rw[List.getElem?_append_left (by simp)];simp)) rfl rfl rfl]
   rw[u32s_set,Nat.zero_add,row_set2]
  have idx:ixS cT y42 (.osl 1 1 0 (m+1+ql.length) capq) (.int .i64 (m:Int))=some (.optr 1 (0+m) 0):=idx_off (by omega)
  have hm1:wrS .i64 ((m:Int)-1)=(m:Int)-1:=wrap64 (by omega) (by omega)
  rcases hdg with⟨w0,c1,c2⟩|⟨w1,c1,c2⟩
  ·subst w0
   refine cndF rfl ?_
   refine wo (conv_int rfl rfl) ?_
   rw[wrapU32 (by omega) (by omega)]
   refine wo idx ?_
   refine wo (store _ q (by rw[hS];rfl)) ?_
   simp only[b_sub,ws]
   rw[hm1]
   have hset:(S.set 0 (Row.cells (u32s (A++x'++C)) true)).set 1 (Row.cells (u32s (List.replicate m 0++(q::ql))) true)=[.cells (u32s (A++x'++C)) true,.cells (u32s (List.replicate m 0++(q::ql))) true]:=by rw[hS];rfl
   rw[hset]
   rw[Nat.succ_mul]at hq3
   exact rest q x' _ hq1 hx'l bx' (by clear hrs hx'ltc;omega) (by clear hrs hx'ltc;omega) h8 h10 h11 h12 rfl rfl
  ·subst w1
   refine cndT rfl ?_
   simp only[b_sub,ws]
   have hq0:0<q:=by
    rcases Nat.eq_zero_or_pos q with h|h
    ·subst h;omega
    ·exact h
   rw[show wrS .u64 ((q:Int)-1)=((q-1:Nat):Int) from sub1 hq0 (by omega)]
   refine w_restore (A:=A) hx'l hv (by omega) bx' bv hAl.symm (by rw[hS];rfl) ?_
   intro x2 w2 hx2l bx2 hw2 hval2
   have hx2lt:=val_lt bx2
   rw[hx2l]at hx2lt
   obtain⟨hx2e,hx2V⟩:=hrs (val x2) w2 c2 hval2 hx2lt hw2 c1 hx'ltc
   clear hval2 hx2lt c2 hrs hx'ltc
   refine wo (conv_int rfl rfl) ?_
   rw[wrapU32 (by omega) (by omega)]
   refine wo idx ?_
   refine wo (store _ (q-1) (by rw[hS];rfl)) ?_
   simp only[b_sub,ws]
   rw[hm1]
   have hset:((S.set 0 (Row.cells (u32s (A++x'++C)) true)).set 0 (Row.cells (u32s (A++x2++C)) true)).set 1 (Row.cells (u32s (List.replicate m 0++((q-1)::ql))) true)=[.cells (u32s (A++x2++C)) true,.cells (u32s (List.replicate m 0++((q-1)::ql))) true]:=by rw[hS];rfl
   rw[hset]
   have hq1v:q*val vl=(q-1)*val vl+val vl:=by
    obtain⟨g,rfl⟩:∃g,q=g+1:=⟨q-1,by omega⟩
    rw[Nat.add_sub_cancel,Nat.succ_mul]
   exact rest (q-1) x2 _ (by omega) hx2l bx2 hx2V (by omega) h8 h10 h11 h12 rfl rfl
end Go.Proofs
namespace Go.Proofs
open Go.Sh
theorem scale_ok{b n t d:Nat}(hn:(encN b).length=n)(hn2:2≤n)(ht:(encN b)[n-1]?=some t)(hd:d=4294967296/(t+1)) :
  1≤t∧t<4294967296∧1≤d∧d<4294967296∧(encN (b*d)).length=n∧1≤(encN (b*d))[n-1]?.getD 0∧4294967296^(n-1)≤b:=by
 have htB:=(encN_bd b).get ht
 have hv:=val_take_succ (encN b) (n-1)
 rw[show n-1+1=n by omega,List.take_of_length_le (by omega),encN_val,ht]at hv
 simp only[Option.getD_some]at hv
 have hlo:=val_lt ((encN_bd b).take (n-1))
 rw[List.length_take,Nat.min_eq_left (by omega)]at hlo
 have hb0:0<b:=enc_len_pos.1 (by omega)
 have hge:=enc_ge hb0
 rw[hn]at hge
 have ht1:1≤t:=by
  rcases Nat.eq_zero_or_pos t with h|h
  ·subst h;omega
  ·exact h
 have hdt:d*(t+1)≤4294967296:=by rw[hd];exact Nat.div_mul_le_self _ _
 have hd1:1≤d:=by rw[hd];exact Nat.div_pos (by omega) (by omega)
 have hd2:d<4294967296:=by
  have:=Nat.mul_le_mul_left d (show 2≤t+1 by omega)
  omega
 have hP:4294967296^n=4294967296^(n-1)*4294967296:=by rw[←Nat.pow_succ];congr 1;omega
 have hb1:b<4294967296^(n-1)*(t+1):=by rw[Nat.mul_succ];omega
 have hlt:b*d<4294967296^n:=by
  rw[hP]
  have h1:b*d<4294967296^(n-1)*(t+1)*d:=Nat.mul_lt_mul_of_pos_right hb1 hd1
  have h2:4294967296^(n-1)*(d*(t+1))≤4294967296^(n-1)*4294967296:=Nat.mul_le_mul_left _ hdt
  have h3:4294967296^(n-1)*(t+1)*d=4294967296^(n-1)*(d*(t+1)):=by grind
  omega
 have hge2:4294967296^(n-1)≤b*d:=Nat.le_trans hge (Nat.le_mul_of_pos_right b hd1)
 have hl1:=enc_len_le hlt
 have hlen:(encN (b*d)).length=n:=by
  by_cases h:(encN (b*d)).length≤n-1
  ·exfalso
   have h1:=enc_lt (n:=b*d)
   have h2:=Nat.pow_le_pow_right (show 0<4294967296 by decide) h
   exact absurd (Nat.lt_of_lt_of_le h1 h2) (by exact Nat.not_lt.2 hge2)
  ·exact Nat.le_antisymm hl1 (by clear hP hb1 hlt hge2 hlo hge hv;omega)
 refine⟨ht1,htB,hd1,hd2,hlen,?_,hge⟩
 have hw:=val_take_succ (encN (b*d)) (n-1)
 rw[show n-1+1=n by clear hP hb1 hlt hge2 hlo hge hv;omega,List.take_of_length_le (by rw[hlen];exact Nat.le_refl _),encN_val]at hw
 have hlo2:=val_lt ((encN_bd (b*d)).take (n-1))
 rw[List.length_take,Nat.min_eq_left (by rw[hlen];exact Nat.sub_le _ _)]at hlo2
 rcases Nat.eq_zero_or_pos ((encN (b*d))[n-1]?.getD 0)with h|h
 ·rw[h]at hw;exfalso;omega
 ·exact h
theorem div_end{a b d u q:Nat}(hd:0<d)(h:u+b*d*q=a*d)(hu:u<b*d):q=a/b∧u/d=a%b:=by
 have h1:u=d*(a-b*q):=by
  have e:d*(a-b*q)=a*d-b*d*q:=by rw[Nat.mul_sub];grind
  omega
 have hr:a-b*q<b:=by
  rw[h1,Nat.mul_comm b d]at hu
  exact Nat.lt_of_mul_lt_mul_left hu
 have hle:b*q≤a:=by
  have:b*q*d≤a*d:=by
   have e:b*q*d=b*d*q:=by grind
   omega
  exact Nat.le_of_mul_le_mul_right this hd
 have ha:a=b*q+(a-b*q):=by omega
 have hb:0<b:=by omega
 constructor
 ·rw[ha,Nat.mul_add_div hb,Nat.div_eq_of_lt hr];rfl
 ·rw[h1,Nat.mul_div_cancel_left _ hd]
  conv=>rhs;rw[ha]
  rw[Nat.mul_add_mod,Nat.mod_eq_of_lt hr]
theorem start_lt{a b d n m la:Nat}(ha:a<4294967296^la)(hb:4294967296^(n-1)≤b)(hd:0<d)(hm:m+(n-1)=la):a*d<4294967296^m*(b*d):=by
 have h1:a*d<4294967296^la*d:=Nat.mul_lt_mul_of_pos_right ha hd
 have h2:4294967296^m*(4294967296^(n-1)*d)≤4294967296^m*(b*d):=Nat.mul_le_mul_left _ (Nat.mul_le_mul_right _ hb)
 rw[←hm,Nat.pow_add]at h1
 rw[←Nat.mul_assoc]at h2
 exact Nat.lt_of_lt_of_le h1 h2
theorem drop_lt{U:List Nat}{m V X:Nat}(hX:val U=X)(h:X<4294967296^m*V)(hm:m≤U.length):val (U.drop m)<V:=by
 have h1:val U=val (U.take m)+4294967296^m*val (U.drop m):=by
  conv=>lhs;rw[←List.take_append_drop m U]
  rw[val_append,List.length_take,Nat.min_eq_left hm]
 have h2:4294967296^m*val (U.drop m)<4294967296^m*V:=by omega
 exact Nat.lt_of_mul_lt_mul_left h2
theorem div_mid{a b s n la m:Nat}{c2:VC}{U:List Nat}{e:En}{capu capq:Option Nat}{Q:SV→Prop}
  (hs1:1≤s) (hs2:s<4294967296) (hVl:(encN (b*s)).length=n) (hn2:2≤n) (hVt:1≤(encN (b*s))[n-1]?.getD 0) (hla:la<8796093022207) (hm:m+n=la+1) (hUl:U.length=la+1) (hUb:Bd U) (hUv:val U=a*s) (hst:val (U.drop m)<b*s)
  (h8:e 8=.int .i64 (n:Int)) (h9:e 9=.int .u64 (s:Int)) (h10:e 10=.vsl (u32s (encN (b*s))) c2) (h11:e 11=.osl 0 1 0 (la+1) capu) (h12:e 12=.osl 1 1 0 m capq) (h13:e 13=.int .i64 ((m:Int)-1))
  (h:∀c1 c2,(c1=.nil→a/b=0)→(c2=.nil→a%b=0)→Q (.tup [.vsl (u32s (encN (a/b))) c1,.vsl (u32s (encN (a%b))) c2])) :
  DenP cT 110 (.loop L153_0) e [.cells (u32s U) true,.cells (u32s (List.replicate m 0)) true] (K153_0 (fun v S=>wpO (frz S dS v) Q)):=by
 refine div_loop m U [] (encN (b*s)) (la+1) n (a*s) capu capq c2 _ _ _ (by rw[List.append_nil]) hUl (by omega) hVl hn2 (by omega) (by simp;omega) hUb Bd.nil (encN_bd _) hVt (by rw[encN_val];exact hst) (by rw[hUv,val];simp) h8 h10 h11 (by rw[h12];rfl) h13 ?_
 intro U' q' e' hU'l hq'l bU' bq' hlt hA g9 g11 g12
 rw[encN_val]at hlt hA
 simp only[List.length_nil,Nat.add_zero]at hq'l g12
 obtain⟨hq,hr⟩:=div_end (by omega) hA hlt
 have hUl2:(encN (val U')).length≤la+1:=hU'l▸enc_len_le (val_lt bU')
 clear hA hlt hst hVt hUv
 refine K153_0e0_ok ?_
 unfold TK153_0e0
 rw[g9,g11,g12,h9]
 refine call_row (es:=u32s U') rfl rfl (by rw[u32s_len];exact hU'l.symm) u32s_pure ?_
 refine c82 bU' (by omega) capM fun c5 hc5=>?_
 refine cpu rfl rfl (c111 (d:=s) (by omega) hs2 (by omega) fun c6 hc6=>?_)
 refine wo rfl (wo rfl ?_)
 refine call_row (es:=u32s q') rfl rfl (by rw[u32s_len];exact hq'l.symm) u32s_pure ?_
 refine c82 bq' (by omega) capM fun c7 hc7=>?_
 rw[hr]at hc6 ⊢
 rw[hq]at hc7 ⊢
 exact h c7 c6 hc7 hc6
theorem w_divided{a b:Nat}{c d:VC}{Q:SV→Prop}(hb0:0<b)(ha:(encN a).length<8796093022207)(hb2:(encN b).length<8796093022207)(hca:c=.nil→a=0)(h:∀c1 c2,(c1=.nil→a/b=0)→(c2=.nil→a%b=0)→Q (.tup [.vsl (u32s (encN (a/b))) c1,.vsl (u32s (encN (a%b))) c2])) :
  wpO (pW cT 153 [.vsl (u32s (encN a)) c,.vsl (u32s (encN b)) d]) Q:=by
 by_cases hsm:b<4294967296∨a<b
 ·exact c69 hb0 hsm (by omega) (by omega) hca h
 have hbB:4294967296≤b:=by omega
 have hab:b≤a:=by omega
 clear hsm
 refine po rfl (F153_ok (k:=fun v S=>wpO (frz S dS v) Q) ?_)
 unfold F153
 refine cpu rfl rfl (c40 (by omega) (by omega) ?_)
 simp only[b_lss,ws]
 have hc3:¬cmp3 a b<0:=by
  unfold cmp3
  rw[if_neg (by omega)]
  split<;>decide
 rw[decide_eq_false hc3]
 simp only[cf_,len30,b_eql,ws]
 generalize hn:(encN b).length=n at *
 have hn2:2≤n:=by
  rcases Nat.lt_or_ge n 2 with h1|h1
  ·exfalso
   have h2:=enc_lt (n:=b)
   rw[hn]at h2
   have h3:4294967296^n≤4294967296^1:=Nat.pow_le_pow_right (by decide) (by omega)
   rw[Nat.pow_one]at h3
   exact absurd (Nat.lt_of_lt_of_le h2 h3) (Nat.not_lt.2 hbB)
  ·exact h1
 rw[decide_eq_false (by omega)]
 simp only[cf_,b_sub,ws]
 rw[show wrS .i64 ((n:Int)-1)=((n-1:Nat):Int) from subI (j:=1) (by omega) (by omega)]
 obtain⟨t,ht⟩:∃t,(encN b)[n-1]?=some t:=⟨(encN b)[n-1]'(by omega),by simp⟩
 generalize hs:4294967296/(t+1)=s
 obtain⟨ht1,htB,hs1,hs2,hVl,hVt,hbge⟩:=scale_ok hn hn2 ht hs.symm
 have hst:∀(U:List Nat) (m:Nat),val U=a*s→m+(n-1)=(encN a).length→m≤U.length→val (U.drop m)<b*s:=fun U m h1 h2 h3=>drop_lt h1 (start_lt (n:=n) (m:=m) enc_lt hbge hs1 h2) h3
 clear hbge
 have e1:wrS .u64 ((4294967296:Int).tdiv ((t+1:Nat):Int))=(s:Int):=by
  rw[show(4294967296:Int)=((4294967296:Nat):Int) from rfl,Int.tdiv_eq_ediv_of_nonneg (by omega),←Int.natCast_ediv,hs]
  clear hs
  exact wrapU64 (by omega) (by omega)
 clear hs
 simp only[idx30 ht,load108,conv51 htB,b_add,ws]
 rw[show wrS .u64 ((t:Int)+1)=((t+1:Nat):Int)by rw[wrapU64 (by omega) (by omega)];omega]
 refine wo (b_quo (by omega)) ?_
 rw[e1]
 clear e1
 have hsl:(encN s).length≤1:=enc_len_le (by rw[Nat.pow_one];exact hs2)
 refine cpu rfl rfl (c67 (n:=s) (Nat.lt_trans hs2 (by decide)) fun c1 hc1=>?_)
 refine cpu rfl rfl (c72 (by omega) (by omega) fun c2 hc2=>?_)
 generalize hla:(encN a).length=la at *
 have hnl:n≤la:=by rw[←hn,←hla];exact enc_len_mono hab
 rw[show wrS .i64 ((la:Int)+1)=((la+1:Nat):Int) from succI (by omega)]
 refine wo (mksl_ok (j:=y23) (by decide) rfl (by unfold roomS;omega) (by unfold roomS;show(la+1)*4≤_;omega)) ?_
 refine cpu rfl rfl (c67 (n:=s) (Nat.lt_trans hs2 (by decide)) fun c3 hc3=>?_)
 refine cpu rfl rfl (c72 (by omega) (by omega) fun c4 hc4=>?_)
 have hAl:(encN (a*s)).length≤la+1:=wd_mul (by omega) hsl
 show wpO (copyS 1 [.cells (List.replicate (la+1) (SV.int .u32 0)) true] (.osl 0 1 0 (la+1) (some (la+1))) (.vsl (u32s (encN (a*s))) c4)) _
 rw[u32s_zeros]
 obtain⟨vv,hcp⟩:=copy_new (S:=[.cells (u32s (List.replicate (la+1) 0)) true]) (id:=0) (n:=la+1) (cap:=some (la+1)) (xs:=encN (a*s)) (c:=c4) rfl hAl
 refine wo hcp ?_
 show wpO _ _
 simp only[b_sub,b_add,ws]
 rw[subI hnl (by omega)]
 rw[show wrS .i64 (((la-n:Nat):Int)+1)=((la-n+1:Nat):Int) from succI (by omega)]
 generalize hm:la-n+1=m
 refine wo (mksl_ok (j:=y23) (by decide) rfl (by unfold roomS;omega) (by unfold roomS;show m*4≤_;omega)) ?_
 show DenP cT 110 (.loop L153_0) _ [.cells (u32s (encN (a*s)++List.replicate (la+1-(encN (a*s)).length) 0)) true,.cells (List.replicate m (SV.int .u32 0)) true] _
 rw[u32s_zeros]
 generalize hU:encN (a*s)++List.replicate (la+1-(encN (a*s)).length) 0=U
 have hUl:U.length=la+1:=by rw[←hU];simp;omega
 have hUv:val U=a*s:=by rw[←hU,val_append,encN_val,val_zeros,Nat.mul_zero,Nat.add_zero]
 have hUb:Bd U:=by rw[←hU];exact(encN_bd _).append (fun d hd=>by have:=List.eq_of_mem_replicate hd;omega)
 have hst:=hst U m hUv (by omega) (by omega)
 refine div_mid (b:=b) (a:=a) (s:=s) hs1 hs2 hVl hn2 hVt (by omega) (by omega) hUl hUb hUv hst rfl rfl rfl rfl rfl ?_ h
 show SV.int .i64 ((la-n:Nat):Int)=.int .i64 ((m:Int)-1)
 rw[show((la-n:Nat):Int)=(m:Int)-1 by omega]
theorem w_divmod{z w:Int}{c d:VC}{Q:SV→Prop}(hw0:w≠0)(hw:wd w<8796093022206)(hz:wd z<8796093022206)(hcz:c=.nil→z=0)(h:∀c1 c2,(c1=.nil→z/w=0)→(c2=.nil→z%w=0)→Q (.tup [I (z/w) c1,I (z%w) c2,.int .i64 0])):wpO (pW cT 81 [I z c,I w d]) Q:=by
 refine po rfl (F81_ok (k:=fun v S=>wpO (frz S dS v) Q) ?_)
 unfold F81
 unfold wd at hz hw
 have hlb0:0<(encN w.natAbs).length:=enc_len_pos.2 (by omega)
 have hq:=enc_len_mono (Nat.div_le_self z.natAbs w.natAbs)
 have hrl:(encN (z.natAbs%w.natAbs)).length≤(encN w.natAbs).length:=enc_len_mono (Nat.le_of_lt (Nat.mod_lt _ (by omega)))
 have hrlt:=Nat.mod_lt z.natAbs (show 0<w.natAbs by omega)
 by_cases h1:z<0
 ·rw[I_neg h1]
  unfold I at *
  iterate 6 refine wo rfl ?_
  refine wo (len30 _ _) ?_
  refine wo b_eql ?_
  refine condP_b (fun hc=>?_) (fun hc=>?_)
  ·have:=of_decide_eq_true hc;omega
  iterate 4 refine wo rfl ?_
  refine cpu rfl rfl (w_divided (by omega) (by omega) (by omega) (fun e=>by rw[hcz e];rfl) fun c1 c2 hc1 hc2=>?_)
  iterate 4 refine wo rfl ?_
  refine grdT rfl (grdT rfl (wo (len30 _ _) (grdT rfl (wo b_gtr (wo (pickS_t) ?_)))))
  refine condP_b (fun hc=>?_) (fun hc=>?_)
  ·have hpos:0<z.natAbs%w.natAbs:=enc_len_pos.1 (by have:=of_decide_eq_true hc;omega)
   obtain⟨hd1,hd2⟩:=div_sign2 hw0 h1 hpos
   refine wo rfl ?_
   have hadd:=wd_add (a:=z.natAbs/w.natAbs) (b:=1) (n:=17592186044413) (by omega) (by rw[enc_one];decide)
   have hsub:=enc_len_mono (Nat.sub_le w.natAbs (z.natAbs%w.natAbs))
   refine call_frz rfl rfl (c70 (a:=z.natAbs/w.natAbs) (b:=1) (c:=c1) (by omega) (by rw[enc_one];decide) fun c3 hc3=>?_)
   iterate 2 refine wo rfl ?_
   refine cpu rfl rfl (c71 (a:=w.natAbs) (b:=z.natAbs%w.natAbs) (Nat.le_of_lt hrlt) (by omega) fun c4 hc4=>?_)
   iterate 4 refine wo rfl ?_
   refine wo (b_bne rfl) ?_
   rw[decide_eq_true h1]at hd1
   refine cpu rfl rfl (made_enc (z:=z/w) (by omega) hd1 hc3 fun c5 hc5=>?_)
   refine cpu rfl rfl (made_enc (z:=z%w) (by omega) hd2 hc4 fun c6 hc6=>?_)
   iterate 4 refine wo rfl ?_
   exact h c5 c6 hc5 hc6
  ·have hzero:z.natAbs%w.natAbs=0:=by
    rcases Nat.eq_zero_or_pos (z.natAbs%w.natAbs)with h0|h0
    ·exact h0
    ·have h2:=of_decide_eq_false hc
     have:=enc_len_pos.2 h0;omega
   obtain⟨hd1,hd2⟩:=div_sign hw0 (fun _=>hzero)
   rw[decide_eq_true h1]at hd1
   iterate 4 refine wo rfl ?_
   refine wo (b_bne rfl) ?_
   refine cpu rfl rfl (made_enc (z:=z/w) (by omega) hd1 hc1 fun c5 hc5=>?_)
   refine cpu rfl rfl (made_enc (z:=z%w) (by omega) hd2 hc2 fun c6 hc6=>?_)
   iterate 4 refine wo rfl ?_
   exact h c5 c6 hc5 hc6
 ·rw[I_pos h1]
  unfold I at *
  iterate 6 refine wo rfl ?_
  refine wo (len30 _ _) ?_
  refine wo b_eql ?_
  refine condP_b (fun hc=>?_) (fun hc=>?_)
  ·have:=of_decide_eq_true hc;omega
  iterate 4 refine wo rfl ?_
  refine cpu rfl rfl (w_divided (by omega) (by omega) (by omega) (fun e=>by rw[hcz e];rfl) fun c1 c2 hc1 hc2=>?_)
  iterate 4 refine wo rfl ?_
  refine grdF rfl (grdF rfl (grdF rfl (wo pickS_f (cndF rfl ?_))))
  obtain⟨hd1,hd2⟩:=div_sign hw0 (fun h=>absurd h h1)
  rw[decide_eq_false h1]at hd1
  iterate 4 refine wo rfl ?_
  refine wo (b_bne rfl) ?_
  refine cpu rfl rfl (made_enc (z:=z/w) (by omega) hd1 hc1 fun c5 hc5=>?_)
  refine cpu rfl rfl (made_enc (z:=z%w) (by omega) hd2 hc2 fun c6 hc6=>?_)
  iterate 4 refine wo rfl ?_
  exact h c5 c6 hc5 hc6
theorem w_sub{z w:Int}{c d:VC}{Q:SV→Prop}(hz:wd z<17592186044414)(hw:wd w<17592186044414)(hd:d=.nil→w=0)(h:∀c',(c'=.nil→z-w=0)→Q (I (z-w) c')):wpO (pW cT 109 [I z c,I w d]) Q:=by
 refine po rfl (F109_ok (k:=fun v S=>wpO (frz S dS v) Q) ?_)
 unfold F109
 iterate 5 refine wo rfl ?_
 refine cpu rfl rfl (c10 (by omega) hd fun c1 hc1=>?_)
 have hn:wd (-w)=wd w:=by unfold wd;rw[Int.natAbs_neg]
 refine cpu rfl rfl (c30 hz (by omega) fun c2 hc2=>?_)
 refine wo rfl (wo rfl ?_)
 rw[show z+-w=z-w by omega]at hc2 ⊢
 exact h c2 hc2
theorem w_small{z:Int}{c:VC}{Q:SV→Prop}(h0:0≤z)(h1:z<9223372036854775808)(h:Q (.tup [.int .i64 z,.bool true])):wpO (pW cT 157 [I z c]) Q:=by
 have hl:(encN z.natAbs).length≤2:=enc_len_le (Nat.lt_of_lt_of_le (show z.natAbs<9223372036854775808 by omega) (by decide))
 refine po rfl (F157_ok (k:=fun v S=>wpO (frz S dS v) Q) ?_)
 unfold F157
 rw[I_pos (by omega)]
 iterate 3 refine wo rfl ?_
 refine wo (len30 _ _) ?_
 simp only[b_gtr,ws]
 rw[decide_eq_false (by omega)]
 simp only[cf_]
 iterate 2 refine wo rfl ?_
 refine cpu rfl rfl (c110 (encN_bd _) hl ?_)
 simp only[encN_val]
 have e1:faS cT y44 (.optr ([]:Zt).length 0 0) 0=some (.optr 0 0 0):=rfl
 have e2:∀x,ldS y4 ([]++[Row.cells [SV.agg [SV.bool false,x]] true]) (.optr 0 0 0)=some (.bool false):=fun x=>rfl
 rw[e1]
 simp only[ws,e2,u_not,Bool.not_false,grdP_tt]
 simp only[b_lss,ws]
 rw[decide_eq_true (by omega)]
 simp only[pickS_t,ws,condP_t]
 refine wo (conv_int rfl rfl) ?_
 rw[wrap64 (by omega) (by omega),show((z.natAbs:Nat):Int)=z by omega]
 exact h
end Go.Proofs
