/-
  Lifting of factors: all steps, all factors.
-/
import Derived.Test.YtilhffelllbggaaGreatPi
import Derived.Test.YtilhffelllbggaaGreatPh
import Derived.Test.YtilhffelllbggaaGreatLd
import Derived.Test.YtilhffelllbggaaGreatLe
set_option linter.unusedVariables false
set_option linter.unusedSimpArgs false
set_option maxRecDepth 10000
namespace Go.Proofs
open Go.Sh
open Pl (cf ev trI IsP Rd Cg en tm Mo MoI PF PD IsDiv Bz red nv addL scL mulL)
theorem div_exact{D:List Int}{m:Int}{e0:Int→Int}(hm:m≠0)(he:PF e0)(h:∀x,ev D x=m*e0 x)(x:Int):ev D x=m*ev (D.map (·/m)) x:=by
 obtain⟨d,l,hl,el⟩:=he
 have h1:∀n,cf D n=m*cf l n:=fun n=>by
  have e:∀x,ev D x=ev (scL m l) x:=fun x=>by rw[h,Pl.ev_scL,el]
  rw[Pl.ev_inj e,Pl.cf_scL]
 have h2:∀n,cf (D.map (·/m)) n=cf l n∨D.length≤n:=fun n=>by
  by_cases hn:n<D.length
  ·left
   have h3:=h1 n
   unfold cf at h3 ⊢
   rw[List.getElem?_map,List.getElem?_eq_getElem hn]at *
   simp only[Option.map_some,Option.getD_some]at *
   rw[h3]
   exact Int.mul_ediv_cancel_left _ hm
  ·right;omega
 have e:∀x,ev D x=ev (scL m (D.map (·/m))) x:=fun x=>by
  have:D=scL m (D.map (·/m)):=by
   refine Pl.list_eq (by rw[Pl.len_scL];simp) (fun n=>?_)
   rw[Pl.cf_scL]
   rcases h2 n with h3|h3
   ·rw[h3,h1]
   ·rw[Pl.cf_out h3,Pl.cf_out (by simpa using h3)];simp
  rw[←this]
 rw[e,Pl.ev_scL]
theorem nv_plus(g:List Nat):addL [] (scL 1 (nv g))=nv g:=by
 have:scL 1 (nv g)=nv g:=by simp[scL]
 rw[this];simp[addL]
theorem mo_trI{p n:Nat}{g:List Nat}(h:Mo p n g):trI (nv g)=nv g:=Pl.trI_mo (Pl.Mo.toI h)
theorem pow_wd{p:Nat}(hp2:p≤2147483647)(i:Nat):wd ((p:Int)^i)≤i+1:=wd_pow (z:=(p:Int)) (by omega) i
theorem lift_loop:∀(m0:Nat) (f x y:List (Int×VC)) (F X Y:List Int) (g h tl:List Nat) (cf' cg ch ct cx cy cm:VC) (p n kk K i Nf:Nat) (r1:Row) (s:Int→Int) (e:En) (k:Go.Sh.X→En→Zt→Prop),
  i+m0=K→K≤16→IsP p→p≤2147483647→Mo p n g→Mo p kk h→n+kk≤20→Zl f F Nf→Nf≤1000→MoI (n+kk) F→Zl x X (40*(i+1))→Zl y Y (40*(i+1))→MoI n X→MoI kk Y→Cg p (ev X) (en g)→Cg p (ev Y) (en h)→Cg ((p:Int)^(i+1)) (ev F) (fun z=>ev X z*ev Y z)→
  Rd p tl→tl.length≤1000→PF s→Cg p (fun z=>en tl z*en h z) (fun z=>1+s z*en g z)→(cm=.nil→(p:Int)^(i+1)=0)→
  e 1=.vsl (Is f) cf'→e 2=.vsl (u64s g) cg→e 3=.vsl (u64s h) ch→e 5=.optr 0 0 0→e 12=.vsl (u64s tl) ct→e 14=.optr 2 0 0→e 15=.vsl (Is x) cx→e 16=.vsl (Is y) cy→e 35=.int .i64 (K:Int)→e 36=.int .i64 (i:Int)→
  (∀(x' y':List (Int×VC)) (X' Y':List Int) (cx' cy':VC) (e':En) (S':Zt),Zl x' X' 1000→Zl y' Y' 1000→MoI n X'→MoI kk Y'→Cg p (ev X') (en g)→Cg p (ev Y') (en h)→Cg ((p:Int)^(K+1)) (ev F) (fun z=>ev X' z*ev Y' z)→e' 15=.vsl (Is x') cx'→e' 16=.vsl (Is y') cy'→k (.exit 0) e' S')→
  DenP cT 80 (.loop L166_0) e [.cells [rg p] true,r1,.cells [I ((p:Int)^(i+1)) cm] true] k:=by
 intro m0
 induction m0 with
 |zero=>
  intro f x y F X Y g h tl cf' cg ch ct cx cy cm p n kk K i Nf r1 s e k hi hK hp hp2 hg hh hnk hf hNf hF hx hy hX hY cX cY hc htl htll hs hct hcm h1 h2 h3 h5 h12 h14 h15 h16 h35 h36 hk
  refine L166_0_ok ?_
  unfold TL166_0
  simp only[h35,h36,b_lss,ws]
  rw[decide_eq_false (by omega),cf_]
  have:i=K:=by omega
  subst this
  exact hk x y X Y cx cy _ _ (hx.mono (by omega)) (hy.mono (by omega)) hX hY cX cY hc h15 h16
 |succ m0 ih=>
  intro f x y F X Y g h tl cf' cg ch ct cx cy cm p n kk K i Nf r1 s e k hi hK hp hp2 hg hh hnk hf hNf hF hx hy hX hY cX cY hc htl htll hs hct hcm h1 h2 h3 h5 h12 h14 h15 h16 h35 h36 hk
  have hp1:=hp.1
  have lX:=hX.1
  have lY:=hY.1
  have lF:=hF.1
  have lg:=hg.2.1
  have lh:=hh.2.1
  have hX0:X≠[]:=fun e=>by rw[e]at lX;simp at lX
  have hY0:Y≠[]:=fun e=>by rw[e]at lY;simp at lY
  have hg0:g≠[]:=fun e=>by rw[e]at lg;simp at lg
  have hmpos:0<(p:Int)^(i+1):=Int.pow_pos (by omega)
  have hmw:=pow_wd hp2 (i+1)
  generalize hM:(p:Int)^(i+1)=M at hc hmpos hmw hcm ⊢
  refine L166_0_ok ?_
  unfold TL166_0
  simp only[h1,h2,h3,h5,h12,h14,h15,h16,h35,h36,b_lss,ws]
  rw[decide_eq_true (by omega),condP_t]
  have hs0:([.cells [rg p] true,r1,.cells [I M cm] true]:Zt)[0]?=some (.cells [rg p] true):=rfl
  have hs2:([.cells [rg p] true,r1,.cells [I M cm] true]:Zt)[2]?=some (.cells [I M cm] true):=rfl
  refine cpu rfl rfl (f_multiply hx hy (by omega) (by omega) (by omega) (by omega) hX0 hY0 fun w cw Nw hNw hw=>?_)
  rw[Pl.trI_mo (Pl.MoI.mul hX hY)]at hw
  have hlen:(X.length)*(Y.length+1)≤21*22:=Nat.mul_le_mul (by omega) (by omega)
  have lXY:=(Pl.MoI.mul hX hY).1
  refine cpu rfl rfl (f_diff (N:=3000) (hf.mono (by omega)) (hw.mono (by omega)) (by omega) (by omega) (by omega) fun d cd hd=>?_)
  have hDev:∀z,ev (trI ((List.range (max F.length (mulL X Y).length)).map (fun j=>cf F j-cf (mulL X Y) j))) z=ev F z-ev X z*ev Y z:=fun z=>by
   rw[Pl.trI_ev,Pl.sub_ev,Pl.ev_mulL]
  have hDl:=Pl.trI_len ((List.range (max F.length (mulL X Y).length)).map (fun j=>cf F j-cf (mulL X Y) j))
  simp at hDl
  generalize trI ((List.range (max F.length (mulL X Y).length)).map (fun j=>cf F j-cf (mulL X Y) j))=D at hd hDev hDl
  refine wo (load_I hs2) ?_
  refine wo fa_rg ?_
  refine wo (ld_p hs0) ?_
  refine cpu rfl rfl (f_image (S:=[]) hd (by omega) hmw (by omega) (by omega) (by omega) (by omega) (by omega) fun cE=>?_)
  have hErd:=Pl.red_rd (p:=p) (by omega) (D.map (·/M))
  have hEcg:=Pl.red_cg (p:=p) (by omega) (D.map (·/M))
  have hEl:(red p (D.map (·/M))).length≤100:=by
   have h1:(red p (D.map (·/M))).length≤((D.map (·/M)).map (fun c=>(c%(p:Int)).toNat)).length:=by
    unfold red
    have:∀m:List Nat,(trimL m).length≤m.length:=fun m=>by
     induction m using snoc_ind with
     |h0=>exact Nat.le_refl _
     |h l x ih=>rw[trimL_snoc];split<;>simp<;>omega
    exact this _
   simp at h1
   omega
  have hDex:∀z,ev F z-ev X z*ev Y z=M*ev (D.map (·/M)) z:=by
   obtain⟨e0,he0,ee⟩:=hc
   intro z
   rw[←hDev]
   exact div_exact (by omega) he0 (fun z=>by have h3:=ee z;have h4:=hDev z;simp only[]at h3;omega) z
  generalize hE:red p (D.map (·/M))=E at hErd hEcg hEl ⊢
  have he0:PF (ev (D.map (·/M))):=PF.ev _
  generalize D.map (·/M)=D' at hEcg hDex he0
  refine wo (ld_rg hs0) ?_
  refine wo (ld_rg hs0) ?_
  refine cpu rfl rfl (f_mul (by omega) (by omega) hp2 htl.1 hErd.1 fun w1 cw1 hw1 hw1l hw1c=>?_)
  refine cpu rfl rfl (f_rem (by omega) (by omega) hp hp2 hg.1 hg0 fun q1 dx cdx hd1=>?_)
  have hdxl:=hd1.less
  refine wo (load_I hs2) ?_
  refine cpu rfl rfl (f_plus (M:=i+2) hx (fun z hz=>by have:=hd1.hr.1 z hz;omega) (by omega) (by omega) (by omega) (by omega) (by omega) fun x' cx' hx'=>?_)
  refine wo (load_I hs2) ?_
  refine wo (ld_rg hs0) ?_
  refine wo (ld_rg hs0) ?_
  refine wo (ld_rg hs0) ?_
  refine cpu rfl rfl (f_mul (by omega) (by omega) hp2 hd1.hr.1 hh.1.1 fun w2 cw2 hw2 hw2l hw2c=>?_)
  refine cpu rfl rfl (f_sub (by omega) (by omega) (by omega) hp2 hErd.1 hw2.1 fun w3 cw3 hw3 hw3l hw3c=>?_)
  refine cpu rfl rfl (f_quo (by omega) (by omega) hp hp2 hg.1 hg0 fun dy rr cdy hd2=>?_)
  have hdyl:dy.length≤1000:=by
   by_cases h0:dy=[]
   ·subst h0;simp
   ·have h4:Cg p (fun z=>en w3 z-en rr z) (fun z=>en dy z*en g z):=by
     have:=hd2.eq.sub (Cg.refl p (en rr))
     exact this.congr (fun _=>rfl) (fun z=>by grind)
    have h5:=Pl.deg_mulP hp hd2.hq h0 hg.1 hg0 ((PD.en w3).sub (PD.en rr)) h4
    have h6:=hd2.less
    omega
  refine cpu rfl rfl (f_plus (M:=i+2) hy (fun z hz=>by have:=hd2.hq.1 z hz;omega) (by omega) (by omega) (by omega) (by omega) (by omega) fun y' cy' hy'=>?_)
  have hpM:(p:Int)∣M:=by rw[←hM];exact Pl.p_dvd_pow (by omega)
  have cdx1:Cg p (en dx) (fun z=>en tl z*en E z+(-(en q1 z))*en g z):=by
   have h4:=(hd1.eq.symm.trans hw1c).sub (Cg.refl p (fun z=>en q1 z*en g z))
   exact h4.congr (fun z=>by grind) (fun z=>by grind)
  have cdy1:Cg p (fun z=>en E z-en dx z*en h z) (fun z=>en dy z*en g z+en rr z):=by
   have h4:Cg p (en w3) (fun z=>en E z-en dx z*en h z):=hw3c.trans ((Cg.refl p (en E)).sub hw2c)
   exact h4.symm.trans hd2.eq
  have hlr:=hd2.less
  obtain⟨s1,s2,s3,s4,s5⟩:=Pl.step (p:=p) (n:=n) (k:=kk) (m:=M) (g:=g) (h:=h) (dx:=dx) (dy:=dy) (E:=E) (X:=X) (Y:=Y) (f:=F) (t:=en tl) (s:=s) (q:=fun z=>-(en q1 z)) (r:=en rr) (e0:=ev D')
   (by omega) (by omega) hpM hg hh hX hY hF cX cY hErd he0 hDex hEcg (PF.en tl) hs hct (PF.en q1).neg (by omega) cdx1 ((PD.en rr).mono (by omega)) hd2.hq cdy1
  rw[Pl.trI_mo s1]at hx'
  rw[Pl.trI_mo s2]at hy'
  refine wo (load_I hs2) ?_
  refine wo fa_rg ?_
  refine wo (ld_p hs0) ?_
  rw[conv2,ws,wrap64 (n:=(p:Int)) (by omega) (by omega)]
  refine cpu rfl rfl (m_of (by omega) fun c1 hc1=>?_)
  have hpw:=wd_small (z:=(p:Int)) (by omega)
  refine cpu rfl rfl (c38 (by omega) (by omega) fun c2 hc2=>?_)
  refine wo (store_I hs2 rfl) ?_
  simp only[b_add,ws]
  rw[sI (by omega)]
  have hMp:M*(p:Int)=(p:Int)^(i+1+1):=by rw[←hM,Int.pow_succ (p:Int) (i+1)]
  have hset:([.cells [rg p] true,r1,.cells [I M cm] true]:Zt).set 2 (.cells [I (M*(p:Int)) c2] true)=[.cells [rg p] true,r1,.cells [I ((p:Int)^(i+1+1)) c2] true]:=by rw[hMp];rfl
  rw[hset]
  rw[hMp]at hc2
  have s5':Cg ((p:Int)^(i+1+1)) (ev F) (fun z=>ev (addL X (scL M (nv dx))) z*ev (addL Y (scL M (nv dy))) z):=by
   rw[←hMp,Int.mul_comm];exact s5
  exact ih f x' y' F _ _ g h tl cf' cg ch ct cx' cy' c2 p n kk K (i+1) Nf r1 s _ k (by omega) hK hp hp2 hg hh hnk hf hNf hF (hx'.mono (by omega)) (hy'.mono (by omega)) s1 s2 s3 s4 s5' htl htll hs hct hc2 h1 h2 h3 h5 h12 h14 rfl rfl h35 rfl hk
theorem f_lift{f:List (Int×VC)}{F:List Int}{g h:List Nat}{c1 cg ch:VC}{p n kk K Nf:Nat}{Q:SV→Prop}(hK:0<K)(hK2:K≤16)(hp:IsP p)(hp2:p≤2147483647)(hg:Mo p n g)(hh:Mo p kk h)(hnk:n+kk≤20)(hz:Bz p (en g) (en h))(hf:Zl f F Nf)(hNf:Nf≤1000)(hF:MoI (n+kk) F)(hc:Cg p (ev F) (fun z=>en g z*en h z))
  (hQ:∀x y X Y cx cy,Zl x X 1000→Zl y Y 1000→MoI n X→MoI kk Y→Cg p (ev X) (en g)→Cg p (ev Y) (en h)→Cg ((p:Int)^K) (ev F) (fun z=>ev X z*ev Y z)→Q (.tup [.vsl (Is x) cx,.vsl (Is y) cy])) :
  wpO (pW cT 166 [rg p,.vsl (Is f) c1,.vsl (u64s g) cg,.vsl (u64s h) ch,.int .i64 (K:Int)]) Q:=by
 have hp1:=hp.1
 have lg:=hg.2.1
 have lh:=hh.2.1
 refine po rfl (F166_ok (k:=fun v S=>wpO (frz S dS v) Q) ?_)
 unfold F166
 iterate 2 refine wo rfl ?_
 refine cpu rfl rfl (f_cof (by omega) (by omega) hp hp2 hg hh.1 hz fun tl ct htl htll ⟨s,hs,hct⟩=>?_)
 refine cpu rfl rfl (m_of (n:=1) (by decide) fun c2 hc2=>?_)
 refine wo fa_rg ?_
 refine wo (ld_p rfl) ?_
 rw[conv2,ws,wrap64 (n:=(p:Int)) (by omega) (by omega)]
 refine cpu rfl rfl (m_of (by omega) fun c3 hc3=>?_)
 iterate 5 refine wo rfl ?_
 refine cpu rfl rfl (f_plus (a:=[]) (A:=[]) (N:=0) (M:=1) (mz:=((1:Nat):Int)) (Zl.nil 0) (fun z hz=>by have:=hg.1.1 z hz;omega) (by decide) (by omega) (by omega) (by simp) (by omega) fun x cx hx=>?_)
 refine wo rfl ?_
 refine cpu rfl rfl (f_plus (a:=[]) (A:=[]) (N:=0) (M:=1) (mz:=((1:Nat):Int)) (Zl.nil 0) (fun z hz=>by have:=hh.1.1 z hz;omega) (by decide) (by omega) (by omega) (by simp) (by omega) fun y cy hy=>?_)
 have e1:((1:Nat):Int)=1:=rfl
 rw[e1,nv_plus,mo_trI hg]at hx
 rw[e1,nv_plus,mo_trI hh]at hy
 simp only[b_sub,ws]
 rw[pI hK (by omega)]
 have hS:([.cells [rg p] true,.cells [I ((1:Nat):Int) c2] true,.cells [I (p:Int) c3] true]:Zt)=[.cells [rg p] true,.cells [I ((1:Nat):Int) c2] true,.cells [I ((p:Int)^(0+1)) c3] true]:=by rw[Nat.zero_add,Int.pow_one]
 show DenP cT 80 (.loop L166_0) _ ([.cells [rg p] true,.cells [I ((1:Nat):Int) c2] true,.cells [I (p:Int) c3] true]:Zt) _
 rw[hS]
 refine lift_loop (K-1) f x y F (nv g) (nv h) g h tl c1 cg ch ct cx cy c3 p n kk (K-1) 0 Nf (.cells [I ((1:Nat):Int) c2] true) s _ _ (by omega) (by omega) hp hp2 hg hh hnk hf hNf hF (hx.mono (by omega)) (hy.mono (by omega)) (Pl.Mo.toI hg) (Pl.Mo.toI hh) (Cg.refl _ _) (Cg.refl _ _) (by rw[Nat.zero_add,Int.pow_one];exact hc) htl (by omega) hs hct (by rw[Nat.zero_add,Int.pow_one];exact hc3) rfl rfl rfl rfl rfl rfl rfl rfl rfl rfl ?_
 intro x' y' X' Y' cx' cy' e' S' q1 q2 q3 q4 q5 q6 q7 q8 q9
 refine K166_0e0_ok ?_
 unfold TK166_0e0
 rw[q8,q9]
 refine wo rfl ?_
 rw[show K-1+1=K by omega]at q7
 exact hQ x' y' X' Y' cx' cy' q1 q2 q3 q4 q5 q6 q7
end Go.Proofs
namespace Go.Proofs.Pl
theorem mo_of_cg{p n:Nat}{h:List Nat}{Z:List Int}(hp:1<p)(hr:Rd p h)(hZ:MoI n Z)(hc:Cg p (en h) (ev Z)):Mo p n h:=by
 have h1:Cg p (ev (nv h)) (ev Z):=hc
 have h2:=fun i=>h1.coef i
 have hle:h.length≤n+1:=Rd.len_le (by omega) hr (fun i hi=>by
  have:=h2 i
  rw[cf_out (l:=Z) (by rw[hZ.1];exact hi)]at this
  simpa using this)
 have h3:=h2 n
 rw[hZ.2,cf_nv]at h3
 have h4:=small_dvd (hr.getD_lt (by omega) n) hp (a:=h[n]?.getD 0) (b:=1) (by simpa using h3)
 have h6:h[n]?=some 1:=by
  cases e:h[n]? with
  |none=>rw[e]at h4;simp at h4
  |some d=>rw[e]at h4;simp at h4;rw[h4]
 have h7:n<h.length:=(List.getElem?_eq_some_iff.1 h6).1
 exact⟨hr,by omega,h6⟩
def dsum:List (List Nat)→Nat
 |[]=>0
 |l::r=>(l.length-1)+dsum r
def zP:List (List Nat)→List Int
 |[]=>[1]
 |l::r=>mulL (nv l) (zP r)
theorem zP_ev:∀(L:List (List Nat)) (x:Int),ev (zP L) x=prN L x
 |[],x=>by simp[zP,prN]
 |l::r,x=>by rw[zP,ev_mulL,zP_ev r,prN];rfl
theorem zP_mo{p:Nat}:∀(L:List (List Nat)),(∀l∈L,∃n,Mo p n l)→MoI (dsum L) (zP L)
 |[],_=>⟨rfl,rfl⟩
 |l::r,h=>by
  obtain⟨n,hn⟩:=h l List.mem_cons_self
  have h1:=hn.2.1
  have:n=l.length-1:=by omega
  subst this
  exact MoI.mul hn.toI (zP_mo r (fun m hm=>h m (List.mem_cons_of_mem _ hm)))
end Go.Proofs.Pl
namespace Go.Proofs
open Go.Sh
open Pl (cf ev trI IsP Rd Cg en tm Mo MoI PF PD Bz Cop nearL prN dsum Lft)
def Ps(L:List (List Nat×VC)):List SV:=L.map fun p=>.vsl (u64s p.1) p.2
def Vs(D:List (List (Int×VC)×VC)):List SV:=D.map fun x=>.vsl (Is x.1) x.2
theorem Ps_len{L:List (List Nat×VC)}:(Ps L).length=L.length:=by simp[Ps]
theorem Vs_len{D:List (List (Int×VC)×VC)}:(Vs D).length=D.length:=by simp[Vs]
theorem Ps_get{L:List (List Nat×VC)}{i:Nat}{p:List Nat×VC}(h:L[i]?=some p):(Ps L)[i]?=some (.vsl (u64s p.1) p.2):=by simp[Ps,h]
theorem Ps_drop{L:List (List Nat×VC)}{i:Nat}:(Ps L).drop i=Ps (L.drop i):=by simp[Ps,List.map_drop]
theorem Ps_pure{L:List (List Nat×VC)}:∀e∈Ps L,pureS e=true:=by
 intro e he
 simp only[Ps,List.mem_map]at he
 obtain⟨d,_,rfl⟩:=he
 rfl
theorem Vs_pure{D:List (List (Int×VC)×VC)}:∀e∈Vs D,pureS e=true:=by
 intro e he
 simp only[Vs,List.mem_map]at he
 obtain⟨d,_,rfl⟩:=he
 rfl
theorem len102(L:List (List Nat×VC))(c:VC):lenS y102 (.vsl (Ps L) c)=some (.int .i64 (L.length:Int)):=by rw[len_vsl rfl,Ps_len]
theorem idx102{L:List (List Nat×VC)}{c:VC}{i:Nat}{p:List Nat×VC}(h:L[i]?=some p):ixS cT y102 (.vsl (Ps L) c) (.int .i64 (i:Int))=some (.vptr (.vsl (u64s p.1) p.2)):=idx_vsl (j:=y100) rfl rfl (by decide) (Ps_get h) rfl
theorem ld100{S:Zt}{l:List Nat}{c:VC}:ldS y100 S (.vptr (.vsl (u64s l) c))=some (.vsl (u64s l) c):=rfl
theorem Ps_sizes{L:List (List Nat×VC)}{c:VC}:sizeIs 1 (.vsl (Ps L) c)=true:=by cases L<;>rfl
theorem slic_from{L:List (List Nat×VC)}{c:VC}{i:Nat}(h:i≤L.length):∃c',slicS y100 (.vsl (Ps L) c) (some (.int .i64 (i:Int))) none none=some (.vsl (Ps (L.drop i)) c'):=by
 have hl:((Ps L).drop i).take ((Ps L).length-i)=Ps (L.drop i):=by
  rw[Ps_drop,List.take_of_length_le (by rw[Ps_len,Ps_len];simp)]
 refine⟨(match c with|.nil=>.nil|.exact=>if(Ps L).length=(Ps L).length then .exact else .loose|.loose=>.loose),?_⟩
 unfold slicS
 rw[if_neg (by decide)]
 have hs:sizeIs y100.size (.vsl (Ps L) c)=true:=Ps_sizes
 simp only[optNat,natS,Int.natCast_nonneg,if_true,Int.toNat_natCast,Option.map_some,Option.bind_some,hs,sliceS,Option.getD_none,Option.getD_some]
 rw[if_pos ⟨by rw[Ps_len];exact h,Nat.le_refl _⟩,hl]
 cases c<;>rfl
def ZL(D:List (List (Int×VC)×VC))(xs:List (List Int))(N:Nat):Prop:=D.map (fun d=>zs d.1)=xs∧∀d∈D,Zl d.1 (zs d.1) N
theorem ZL.snoc{D:List (List (Int×VC)×VC)}{xs:List (List Int)}{N:Nat}(h:ZL D xs N){x:List (Int×VC)}{X:List Int}{c:VC}(hx:Zl x X N):ZL (D++[(x,c)]) (xs++[X]) N:=by
 refine⟨by rw[List.map_append,h.1,←hx.eq];rfl,fun d hd=>?_⟩
 rcases List.mem_append.1 hd with hd|hd
 ·exact h.2 d hd
 ·simp at hd;subst hd;rw[hx.eq];exact hx
theorem Vs_put{D:List (List (Int×VC)×VC)}{m:Nat}{x:List (Int×VC)}{c:VC}:(Vs D++List.replicate (m+1) (SV.vsl [] .nil)).set D.length (.vsl (Is x) c)=Vs (D++[(x,c)])++List.replicate m (.vsl [] .nil):=by
 rw[List.set_append_right _ _ (by rw[Vs_len];exact Nat.le_refl _),Vs_len,Nat.sub_self,List.replicate_succ,List.set_cons_zero]
 simp[Vs]
theorem Vs_get{D:List (List (Int×VC)×VC)}{m:Nat}:(Vs D++List.replicate (m+1) (SV.vsl [] .nil))[D.length]?=some (.vsl [] .nil):=by
 rw[List.getElem?_append_right (by rw[Vs_len];exact Nat.le_refl _),Vs_len];simp
def Rw(S:Zt)(v:SV)(l:List Nat)(b:Nat):Prop:=(∃c,v=.vsl (u64s l) c)∨Own S v 1 (u64s l) b
theorem Rw.fz{S:Zt}{v:SV}{l:List Nat}{b:Nat}(h:Rw S v l b):∃c,FzO S b v (.vsl (u64s l) c):=by
 rcases h with⟨c,rfl⟩|h
 ·exact⟨c,fz_pure rfl⟩
 ·obtain⟨c,_,hf⟩:=fz_own h u64s_pure
  exact⟨c,hf⟩
theorem prN_take(R:List (List Nat)){j:Nat}{l:List Nat}(h:R[j]?=some l)(x:Int):prN (R.take (j+1)) x=prN (R.take j) x*en l x:=by
 rw[List.take_add_one,h]
 exact Pl.prN_snoc _ _ x
theorem prod_loop:∀(m:Nat) (R:List (List Nat×VC)) (h:List Nat) (cR:VC) (j p B:Nat) (S:Zt) (e:En) (k:Go.Sh.X→En→Zt→Prop),j+m=R.length→R.length<1000→0<p→p≤2147483647→(∀q∈R,(∀x∈q.1,x<p)∧q.1.length≤100)→Rd p h→h.length≤100*(j+1)→Cg p (en h) (prN ((R.take j).map (·.1)))→
  e 4=.optr 0 0 0→e 36=.vsl (Ps R) cR→e 37=.int .i64 (R.length:Int)→e 38=.int .i64 (j:Int)→Rw S (e 12) h B→S[0]?=some (.cells [rg p] true)→0<B→
  (∀(h':List Nat) (e':En) (S':Zt),Rd p h'→Cg p (en h') (prN (R.map (·.1)))→Rw S' (e' 12) h' B→Kp S S' B→e' 1=e 1→e' 2=e 2→e' 3=e 3→e' 4=e 4→e' 9=e 9→e' 10=e 10→e' 11=e 11→e' 23=e 23→e' 24=e 24→k (.exit 2) e' S')→DenP cT 79 (.loop L101_1) e S k:=by
 intro m
 induction m with
 |zero=>
  intro R h cR j p B S e k hj hR hp hp2 hRq hh hhl hc h4 h36 h37 h38 hw h0 hB hk
  refine L101_1_ok ?_
  unfold TL101_1
  simp only[h37,h38,b_lss,ws]
  rw[decide_eq_false (by omega),cf_]
  rw[List.take_of_length_le (by omega)]at hc
  exact hk h _ S hh hc hw (Kp.refl _ _) rfl rfl rfl rfl rfl rfl rfl rfl rfl
 |succ m ih=>
  intro R h cR j p B S e k hj hR hp hp2 hRq hh hhl hc h4 h36 h37 h38 hw h0 hB hk
  obtain⟨q,hq⟩:∃q,R[j]?=some q:=⟨R[j]'(by omega),by simp⟩
  obtain⟨hq1,hq2⟩:=hRq q (List.mem_of_getElem? hq)
  refine L101_1_ok ?_
  unfold TL101_1
  simp only[h4,h36,h37,h38,b_lss,ws]
  rw[decide_eq_true (by omega),condP_t]
  refine wo (idx102 hq) ?_
  refine wo ld100 ?_
  refine wo (ld_rg h0) ?_
  obtain⟨ch,hf⟩:=hw.fz
  refine call_fz3 (b:=B) rfl (fz_pure rfl) hf (fz_pure rfl) (fun S1 hK1=>?_)
  refine f_mul (by omega) hp hp2 hh.1 hq1 (fun w cw hw1 hwl hwc=>?_)
  simp only[b_add,ws]
  rw[sI (by omega)]
  refine ih R w cR (j+1) p B S1 _ k (by omega) hR hp hp2 hRq hw1 (by omega) ?_ h4 h36 h37 rfl (.inl ⟨cw,rfl⟩) (hK1.at hB h0) hB ?_
  ·rw[List.map_take]at hc ⊢
   refine hwc.trans ((hc.mul (Cg.refl p (en q.1)) (PF.prN _) (PF.en q.1)).congr (fun _=>rfl) (fun x=>?_))
   exact(prN_take (R.map (·.1)) (by rw[List.getElem?_map,hq];rfl) x)
  ·intro h' e' S' a1 a2 a3 a4 g1 g2 g3 g4 g9 g10 g11 g23 g24
   exact hk h' e' S' a1 a2 a3 (hK1.trans a4) g1 g2 g3 g4 g9 g10 g11 g23 g24
theorem lifts_loop:∀(m0:Nat) (L:List (List Nat×VC)) (cL:VC) (f:List (Int×VC)) (F:List Int) (D:List (List (Int×VC)×VC)) (c1 cm:VC) (p K i Nf:Nat) (S:Zt) (e:En) (k:Go.Sh.X→En→Zt→Prop),
  i+m0=L.length→D.length=i→L.length≤100→0<K→K≤16→IsP p→p≤2147483647→(∀q∈L,∃n,Mo p n q.1)→dsum (L.map (·.1))≤20→Cop p (L.map (·.1))→Zl f F Nf→Nf≤1000→MoI (dsum ((L.drop i).map (·.1))) F→Cg p (ev F) (prN ((L.drop i).map (·.1)))→dsum ((L.drop i).map (·.1))≤20→(cm=.nil→(p:Int)^K=0)→(∀d∈D,Zl d.1 (zs d.1) 100)→
  e 1=.vsl (Is f) c1→e 2=.vsl (Ps L) cL→e 3=.int .i64 (K:Int)→e 4=.optr 0 0 0→e 9=.optr 1 0 0→e 23=.int .i64 (L.length:Int)→e 24=.int .i64 (i:Int)→Own S (e 10) 1 (Vs D++List.replicate m0 (.vsl [] .nil)) 2→S[0]?=some (.cells [rg p] true)→S[1]?=some (.cells [I ((p:Int)^K) cm] true)→
  (∀(D2:List (List (Int×VC)×VC)) (xs:List (List Int)) (e':En) (S':Zt),Lft p K F ((L.drop i).map (·.1)) xs→ZL D2 xs 100→Own S' (e' 10) 1 (Vs (D++D2)) 2→k (.exit 0) e' S')→DenP cT 79 (.loop L101_0) e S k:=by
 intro m0
 induction m0 with
 |zero=>
  intro L cL f F D c1 cm p K i Nf S e k hi hD hL hK0 hK hp hp2 hLm hds hcop hf hNf hF hc hdsi hcm hDz h1 h2 h3 h4 h9 h23 h24 hO h0 hS1 hk
  refine L101_0_ok ?_
  unfold TL101_0
  simp only[h23,h24,b_lss,ws]
  rw[decide_eq_false (by omega),cf_]
  have hdr:L.drop i=[]:=List.drop_eq_nil_of_le (by omega)
  rw[List.replicate_zero,List.append_nil]at hO
  refine hk [] [] _ S (by rw[hdr];exact rfl) ⟨rfl,fun d hd=>by cases hd⟩ (by rw[List.append_nil];exact hO)
 |succ m0 ih=>
  intro L cL f F D c1 cm p K i Nf S e k hi hD hL hK0 hK hp hp2 hLm hds hcop hf hNf hF hc hdsi hcm hDz h1 h2 h3 h4 h9 h23 h24 hO h0 hS1 hk
  have hp1:=hp.1
  obtain⟨q,hq⟩:∃q,L[i]?=some q:=⟨L[i]'(by omega),by simp⟩
  obtain⟨n,hn⟩:=hLm q (List.mem_of_getElem? hq)
  have ln:=hn.2.1
  have hdr:L.drop i=q::L.drop (i+1):=by
   rw[List.drop_eq_getElem_cons (by omega)]
   congr 1
   rw[List.getElem?_eq_getElem (by omega)]at hq
   exact Option.some.inj hq
  have hpk:(2:Int)≤(p:Int)^K:=Pl.two_le_pow (by omega) hK0
  have hwp:=pow_wd hp2 K
  have h2n:i+1<9223372036854775807:=by omega
  refine L101_0_ok ?_
  unfold TL101_0
  simp only[h1,h2,h3,h4,h9,h23,h24,len102,b_lss,b_add,ws]
  rw[decide_eq_true (by omega),condP_t,sI (by omega)]
  by_cases hlast:i+1<L.length
  ·rw[decide_eq_true (by omega),condP_t]
   refine Own.bsl1 (j:=y25) (x:=.int .u64 1) (by decide) rfl rfl (by decide) (fun v S1 hO1 hK1 hl1=>?_)
   obtain⟨c',hsl⟩:=slic_from (L:=L) (c:=cL) (i:=i+1) (by omega)
   refine wo hsl ?_
   simp only[len102,ws]
   have hOout:=hO.kp hK1 (Nat.le_refl _)
   have hb0:=hO.lt
   have hOne:Own S1 v 1 (u64s [1]) S.length:=hO1.own
   refine prod_loop (L.drop (i+1)).length (L.drop (i+1)) [1] c' 0 p S.length S1 _ _ (by omega) (by simp;omega) (by omega) hp2 ?_ (Pl.mo_one (by omega)).1 (by simp) (Cg.of_eq (fun x=>by rw[Pl.en_one];simp[prN])) h4 rfl rfl rfl (.inr hOne) (hK1.at (at_lt h0) h0) (by omega) ?_
   ·intro r hr
    obtain⟨t,ht⟩:=hLm r (List.mem_of_mem_drop hr)
    refine⟨ht.1.1,?_⟩
    have:=ht.2.1
    have hle:∀(M:List (List Nat)) (l:List Nat),l∈M→l.length-1≤dsum M:=by
     intro M
     induction M with
     |nil=>intro l hl;cases hl
     |cons a M ihM=>
      intro l hl
      rcases List.mem_cons.1 hl with h|h
      ·subst h;simp only[dsum];omega
      ·have:=ihM l h;simp only[dsum];omega
    have:=hle (L.map (·.1)) r.1 (List.mem_map.2 ⟨r,List.mem_of_mem_drop hr,rfl⟩)
    omega
   intro h' e' S' a1 a2 a3 a4 g1 g2 g3 g4 g9 g10 g11 g23 g24
   refine K101_1e2_ok ?_
   unfold TK101_1e2
   have g1':e' 1=.vsl (Is f) c1:=g1.trans h1
   have g2':e' 2=.vsl (Ps L) cL:=g2.trans h2
   have g3':e' 3=.int .i64 (K:Int):=g3.trans h3
   have g4':e' 4=.optr 0 0 0:=g4.trans h4
   have g9':e' 9=.optr 1 0 0:=g9.trans h9
   have g11':e' 11=.int .i64 (i:Int):=g11
   have g24':e' 24=.int .i64 (i:Int):=g24.trans h24
   have g10':e' 10=e 10:=g10
   have hO2:Own S' (e 10) 1 (Vs D++List.replicate (m0+1) (.vsl [] .nil)) 2:=hO.kp ((hK1.mono (Nat.le_refl _)).trans a4) (Nat.le_refl _)
   have h02:S'[0]?=some (.cells [rg p] true):=a4.at (at_lt h0) (hK1.at (at_lt h0) h0)
   have hS12:S'[1]?=some (.cells [I ((p:Int)^K) cm] true):=a4.at (at_lt hS1) (hK1.at (at_lt hS1) hS1)
   simp only[g1',g2',g3',g4',g9',g11',g24',g10']
   refine wo (ld_rg h02) ?_
   refine wo (idx102 hq) ?_
   refine wo ld100 ?_
   obtain⟨ch,hf12⟩:=a3.fz
   have hRm:∀l∈(L.drop (i+1)).map (·.1),∃n,Mo p n l:=by
    intro l hl
    obtain⟨r,hr,rfl⟩:=List.mem_map.1 hl
    exact hLm r (List.mem_of_mem_drop hr)
   have hZ:=Pl.zP_mo _ hRm
   have hMo:=Pl.mo_of_cg (by omega) a1 hZ (a2.congr (fun _=>rfl) (fun x=>Pl.zP_ev _ x))
   rw[hdr,List.map_cons]at hF hc hdsi
   simp only[dsum]at hF hdsi
   have en':q.1.length-1=n:=by omega
   rw[en']at hF hdsi
   generalize hkk:dsum ((L.drop (i+1)).map (·.1))=kk at hF hdsi hMo hZ
   have hbz:Bz p (en q.1) (en h'):=by
    have:=hcop.rest (i:=i) (l:=q.1) (by rw[List.getElem?_map,hq];rfl)
    rw[←List.map_drop]at this
    exact this.congr (PF.prN _) (PF.en _) a2
   have hcF:Cg p (ev F) (fun z=>en q.1 z*en h' z):=by
    refine hc.trans ?_
    have:=(Cg.refl p (en q.1)).mul a2.symm (PF.en _) (PF.en _)
    exact this.congr (fun x=>by simp only[prN]) (fun _=>rfl)
   refine call_fz (b:=S.length) (args':=[rg p,.vsl (Is f) c1,.vsl (u64s q.1) q.2,.vsl (u64s h') ch,.int .i64 (K:Int)]) rfl ⟨fz_pure rfl,fz_pure rfl,fz_pure rfl,hf12,fz_pure rfl,trivial⟩ (fun S3 hK3=>?_)
   refine f_lift hK0 hK hp hp2 hn hMo (by omega) hbz hf hNf hF hcF (fun x y X Y cx cy hx hy hX hY cX cY hXY=>?_)
   have hO3:Own S3 (e 10) 1 (Vs D++List.replicate (m0+1) (.vsl [] .nil)) 2:=hO.kp (((hK1.mono (Nat.le_refl _)).trans a4).trans hK3) (Nat.le_refl _)
   have h03:=hK3.at (at_lt h0) h02
   have hS13:=hK3.at (at_lt hS1) hS12
   iterate 2 refine wo rfl ?_
   subst hD
   refine Own.put (j:=y57) (e:=.vsl [] .nil) (x:=.vsl (Is x) cx) (e':=.vsl (Is x) cx) hO3 rfl rfl (by decide) Vs_get rfl rfl rfl (fun pp S4 hO4 hon4 _=>?_)
   rw[Vs_put]at hO4
   have h04:=hon4.at hO3 (by decide) h03
   have hS14:=hon4.at hO3 (by decide) hS13
   refine Own.get (j:=y57) (e:=.vsl (Is x) cx) (w:=.vsl (Is x) cx) hO4 rfl rfl (by decide) (by rw[List.getElem?_append_left (by rw[Vs_len];simp)];simp[Vs]) rfl (fun pp=>?_)
   refine wo (load_I hS14) ?_
   have lX:=hX.1
   refine cpu rfl rfl (f_near hx hpk hcm hwp (by omega) (by omega) (by omega) fun x2 cx2 hx2=>?_)
   rw[Pl.trI_mo (Pl.nearL_mo hpk hX)]at hx2
   refine Own.put (j:=y57) (e:=.vsl (Is x) cx) (x:=.vsl (Is x2) cx2) (e':=.vsl (Is x2) cx2) hO4 rfl rfl (by decide) (by rw[List.getElem?_append_left (by rw[Vs_len];simp)];simp[Vs]) rfl rfl rfl (fun pp S5 hO5 hon5 _=>?_)
   have hset:(Vs (D++[(x,cx)])++List.replicate m0 (SV.vsl [] .nil)).set D.length (.vsl (Is x2) cx2)=Vs (D++[(x2,cx2)])++List.replicate m0 (.vsl [] .nil):=by
    rw[List.set_append_left _ _ (by rw[Vs_len];simp)]
    congr 1
    have e1:Vs (D++[(x,cx)])=Vs D++[.vsl (Is x) cx]:=by simp[Vs]
    have e2:Vs (D++[(x2,cx2)])=Vs D++[.vsl (Is x2) cx2]:=by simp[Vs]
    rw[e1,e2,List.set_append_right _ _ (by rw[Vs_len];exact Nat.le_refl _),Vs_len,Nat.sub_self]
    rfl
   rw[hset]at hO5
   have h05:=hon5.at hO4 (by decide) h04
   have hS15:=hon5.at hO4 (by decide) hS14
   simp only[b_add,ws]
   rw[sI (by omega)]
   refine ih L cL y Y (D++[(x2,cx2)]) cy cm p K (D.length+1) 1000 S5 _ k (by omega) (by simp) hL hK0 hK hp hp2 hLm hds hcop hy (by omega) (by rw[hkk];exact hY) (cY.trans a2) (by rw[hkk];omega) hcm ?_ rfl g2' g3' g4' g9' (g23.trans h23) rfl (by rw[←g10']at hO5;exact hO5) h05 hS15 ?_
   ·intro d hd
    rcases List.mem_append.1 hd with hd|hd
    ·exact hDz d hd
    ·simp at hd;subst hd;rw[hx2.eq];exact hx2.mono (by omega)
   ·intro D2 xs e3 S6 b1 b2 b3
    rw[List.append_assoc]at b3
    refine hk ((x2,cx2)::D2) (nearL ((p:Int)^K) X::xs) e3 S6 ?_ ⟨?_,?_⟩ b3
    ·rw[hdr,List.map_cons]
     unfold Lft
     have hne:(L.drop (D.length+1)).map (·.1)≠[]:=by
      intro e4
      have:=congrArg List.length e4
      simp at this
      omega
     rw[if_neg hne]
     exact⟨n,kk,h',X,Y,xs,hn,hMo,a2,hX,hY,cX,cY,hbz,hXY,rfl,b1⟩
    ·rw[List.map_cons,b2.1,hx2.eq]
    ·intro d hd
     rcases List.mem_cons.1 hd with h|h
     ·subst h;rw[hx2.eq];exact hx2.mono (by omega)
     ·exact b2.2 d h
  ·rw[decide_eq_false (by omega),cf_]
   have hdr2:L.drop (i+1)=[]:=List.drop_eq_nil_of_le (by omega)
   rw[hdr,hdr2]at hF hc hdsi
   simp only[List.map_cons,List.map_nil,dsum,Nat.add_zero,prN]at hF hc hdsi
   have en':q.1.length-1=n:=by omega
   rw[en']at hF hdsi
   have lF:=hF.1
   refine wo (load_I hS1) ?_
   refine cpu rfl rfl (f_near hf hpk hcm hwp (by omega) (by omega) (by omega) fun x2 cx2 hx2=>?_)
   rw[Pl.trI_mo (Pl.nearL_mo hpk hF)]at hx2
   subst hD
   refine Own.put (j:=y57) (e:=.vsl [] .nil) (x:=.vsl (Is x2) cx2) (e':=.vsl (Is x2) cx2) hO rfl rfl (by decide) Vs_get rfl rfl rfl (fun pp S4 hO4 hon4 _=>?_)
   rw[Vs_put]at hO4
   have h04:=hon4.at hO (by decide) h0
   have hS14:=hon4.at hO (by decide) hS1
   have hm0:m0=0:=by omega
   subst hm0
   refine L101_0_ok ?_
   unfold TL101_0
   refine wo (x:=.bool (decide (((D.length+1:Nat):Int)<(L.length:Int)))) ?_ ?_
   ·show bnS .lss (some y3) (.int .i64 ((D.length+1:Nat):Int)) (e 23)=_
    rw[h23,b_lss]
   rw[decide_eq_false (by omega),cf_]
   rw[List.replicate_zero,List.append_nil]at hO4
   refine hk [(x2,cx2)] [nearL ((p:Int)^K) F] _ S4 ?_ ⟨?_,?_⟩ hO4
   ·rw[hdr,hdr2,List.map_cons,List.map_nil]
    unfold Lft
    rw[if_pos rfl]
    exact⟨n,hF,hn,hc.congr (fun _=>rfl) (fun x=>by simp),rfl⟩
   ·rw[List.map_cons,hx2.eq];rfl
   ·intro d hd
    simp at hd;subst hd;rw[hx2.eq];exact hx2.mono (by omega)
theorem f_lifts{L:List (List Nat×VC)}{cL c1:VC}{f:List (Int×VC)}{F:List Int}{p K Nf:Nat}{Q:SV→Prop}(hL:L.length≤100)(hK0:0<K)(hK:K≤16)(hp:IsP p)(hp2:p≤2147483647)(hLm:∀q∈L,∃n,Mo p n q.1)(hds:dsum (L.map (·.1))≤20)(hcop:Cop p (L.map (·.1)))(hf:Zl f F Nf)(hNf:Nf≤1000)(hF:MoI (dsum (L.map (·.1))) F)(hc:Cg p (ev F) (prN (L.map (·.1))))
  (hQ:∀D xs c,Lft p K F (L.map (·.1)) xs→ZL D xs 100→Q (.vsl (Vs D) c)):wpO (pW cT 101 [rg p,.vsl (Is f) c1,.vsl (Ps L) cL,.int .i64 (K:Int)]) Q:=by
 have hp1:=hp.1
 refine po rfl (F101_ok (k:=fun v S=>wpO (frz S dS v) Q) ?_)
 unfold F101
 refine wo rfl ?_
 refine wo fa_rg ?_
 refine wo (ld_p rfl) ?_
 refine cpu rfl rfl (f_power (by omega) (by omega) hK0 (by omega) fun cm hcm=>?_)
 iterate 2 refine wo rfl ?_
 simp only[len102,ws]
 refine Own.mk (j:=y57) (by decide) rfl (by unfold roomS;omega) (by show L.length*24≤_;unfold roomS;omega) (fun v S hO hKp _=>?_)
 have h0:S[0]?=some (.cells [rg p] true):=hKp.at (i:=0) (Nat.zero_lt_succ _) rfl
 have h1:S[1]?=some (.cells [I ((p:Int)^K) cm] true):=hKp.at (i:=1) (Nat.lt_succ_self _) rfl
 refine lifts_loop L.length L cL f F [] c1 cm p K 0 Nf S _ _ (by omega) rfl hL hK0 hK hp hp2 hLm hds hcop hf hNf (by rw[List.drop_zero];exact hF) (by rw[List.drop_zero];exact hc) (by rw[List.drop_zero];exact hds) (fun e=>absurd e hcm) (fun d hd=>by cases hd) rfl rfl rfl rfl rfl rfl rfl hO.own h0 h1 (fun D2 xs e' S' b1 b2 b3=>?_)
 refine K101_0e0_ok ?_
 unfold TK101_0e0
 rw[List.drop_zero]at b1
 refine b3.frz Vs_pure (fun c _=>?_)
 exact hQ D2 xs c b1 b2
end Go.Proofs
namespace Go.Proofs
open Go.Sh
open Pl (cf ev trI IsP Rd Cg en tm Mo MoI PF PD Bz Cop nearL prN dsum Lft red IsGcd)
theorem equal_loop:∀(m i:Nat) (l:List Nat) (c d:VC) (S:Zt) (e:En) (k:Go.Sh.X→En→Zt→Prop),i+m=l.length→l.length<1000000→e 0=.vsl (u64s l) c→e 1=.vsl (u64s l) d→e 12=.int .i64 (l.length:Int)→e 13=.int .i64 (i:Int)→(∀e',k (.exit 0) e' S)→DenP cT 26 (.loop L97_0) e S k:=by
 intro m
 induction m with
 |zero=>
  intro i l c d S e k hi hl h0 h1 h12 h13 hk
  refine L97_0_ok ?_
  unfold TL97_0
  simp only[h12,h13,b_lss,ws]
  rw[decide_eq_false (by omega),cf_]
  exact hk _
 |succ m ih=>
  intro i l c d S e k hi hl h0 h1 h12 h13 hk
  obtain⟨x,hx⟩:∃x,l[i]?=some x:=⟨l[i]'(by omega),by simp⟩
  refine L97_0_ok ?_
  unfold TL97_0
  simp only[h0,h1,h12,h13,b_lss,ws]
  rw[decide_eq_true (by omega),condP_t]
  refine wo (idx100 hx) (wo ld25 (wo (idx100 hx) (wo ld25 ?_)))
  simp only[b_neq,ws,b_add]
  rw[decide_eq_false (by simp),cf_,sI (by omega)]
  exact ih (i+1) l c d S _ k (by omega) hl h0 h1 h12 rfl hk
theorem f_equal{l:List Nat}{c d:VC}{Q:SV→Prop}(hl:l.length<1000000)(h:Q (.bool true)):wpO (pW cT 97 [.vsl (u64s l) c,.vsl (u64s l) d]) Q:=by
 refine po rfl (F97_ok (k:=fun v S=>wpO (frz S dS v) Q) ?_)
 unfold F97
 simp only[len100,b_neq,ws]
 rw[decide_eq_false (by simp),cf_]
 refine equal_loop l.length 0 l c d [] _ _ (by omega) hl rfl rfl rfl rfl (fun e'=>?_)
 refine K97_0e0_ok ?_
 unfold TK97_0e0
 exact h
theorem f_bad{z:Int}{c:VC}{Q:SV→Prop}(hz:wd z<17592186044414)(h:Q (.bool false)):wpO (pW cT 94 [I z c]) Q:=by
 refine po rfl (F94_ok (k:=fun v S=>wpO (frz S dS v) Q) ?_)
 unfold F94
 iterate 2 refine wo rfl ?_
 refine cpu rfl rfl (m_valid hz ?_)
 exact h
theorem index_loop:∀(m i:Nat) (l:List (Int×VC)) (c:VC) (N:Nat) (S:Zt) (e:En) (k:Go.Sh.X→En→Zt→Prop),i+m=l.length→l.length<1000000→(∀p∈l,wd p.1≤N)→N<100000→e 0=.vsl (Is l) c→e 1=.fn 94 [] []→e 7=.int .i64 (l.length:Int)→e 8=.int .i64 (i:Int)→(∀e',k (.exit 0) e' S)→DenP cT 19 (.loop L160_0) e S k:=by
 intro m
 induction m with
 |zero=>
  intro i l c N S e k hi hl hb hN h0 h1 h7 h8 hk
  refine L160_0_ok ?_
  unfold TL160_0
  simp only[h7,h8,b_lss,ws]
  rw[decide_eq_false (by omega),cf_]
  exact hk _
 |succ m ih=>
  intro i l c N S e k hi hl hb hN h0 h1 h7 h8 hk
  obtain⟨x,hx⟩:∃x,l[i]?=some x:=⟨l[i]'(by omega),by simp⟩
  have hxb:=hb x (List.mem_of_getElem? hx)
  refine L160_0_ok ?_
  unfold TL160_0
  simp only[h0,h1,h7,h8,b_lss,ws]
  rw[decide_eq_true (by omega),condP_t]
  refine wo (idx24 hx) ?_
  refine wo (x:=I x.1 x.2) rfl ?_
  show wpO (cW cT 94 [I x.1 x.2] S) _
  refine cpu rfl rfl (f_bad (by omega) ?_)
  simp only[cf_,b_add,ws]
  rw[sI (by omega)]
  exact ih (i+1) l c N S _ k (by omega) hl hb hN h0 h1 h7 rfl hk
theorem fz_fn{S:Zt}{b g:Nat}:FzO S b (.fn g [] []) (.fn g [] []):=⟨rfl,fun i hi=>by cases hi⟩
theorem f_contains{l:List (Int×VC)}{c:VC}{N:Nat}{Q:SV→Prop}(hl:l.length<1000000)(hb:∀p∈l,wd p.1≤N)(hN:N<100000)(h:Q (.bool false)):wpO (pW cT 93 [.vsl (Is l) c,.fn 94 [] []]) Q:=by
 refine po rfl (F93_ok (k:=fun v S=>wpO (frz S dS v) Q) ?_)
 unfold F93
 refine call_fz2 (b:=0) rfl (fz_pure rfl) fz_fn (fun S' _=>?_)
 refine po rfl (F160_ok (k:=fun v S=>wpO (frz S dS v) _) ?_)
 unfold F160
 simp only[len24,ws]
 refine index_loop l.length 0 l c N [] _ _ (by omega) hl hb hN rfl rfl rfl rfl (fun e'=>?_)
 refine K160_0e0_ok ?_
 unfold TK160_0e0
 refine wo rfl ?_
 simp only[b_geq,ws]
 rw[decide_eq_false (by omega)]
 exact h
def RoB(S:Zt)(v:SV)(l:List Nat)(b:Nat):Prop:=(∃c,v=.vsl (u64s l) c)∨∃id cap rest lv,v=.osl id 1 0 l.length cap∧S[id]?=some (.cells (u64s l++rest) lv)∧b≤id
theorem RoB.sn{S T:Zt}{v:SV}{l:List Nat}{b:Nat}(h:RoB S v l b)(hs:Sn S T):RoB T v l b:=by
 rcases h with h|⟨id,cap,rest,lv,h1,h2,h3⟩
 ·exact .inl h
 ·obtain⟨lv',h4⟩:=hs _ _ _ h2
  exact .inr ⟨id,cap,rest,lv',h1,h4,h3⟩
theorem RoB.fz{S:Zt}{v:SV}{l:List Nat}{b:Nat}(h:RoB S v l b):∃c,FzO S b v (.vsl (u64s l) c):=by
 rcases h with⟨c,rfl⟩|⟨id,cap,rest,lv,rfl,hS,hb⟩
 ·exact⟨c,fz_pure rfl⟩
 ·have ht:((u64s l++rest).drop 0).take l.length=u64s l:=by rw[List.drop_zero,←u64s_len,List.take_left]
  obtain⟨h1,h2⟩:=frz_row (sz:=1) (cap:=cap) (off:=0) (len:=l.length) hS (by simp) (by rw[ht];exact u64s_pure)
  rw[ht]at h1
  exact⟨_,h1,by rw[h2];intro i hi;simp at hi;omega⟩
theorem Sn.only{S S':Zt}{es:List SV}{c:VC}(h:Only S S' (.vsl es c)):Sn S S':=fun i es' lv hi=>⟨lv,h.atv hi⟩
theorem Sn.put{S S':Zt}{v:SV}{sz b:Nat}{es es2:List SV}(h:Only S S' v)(hv:Own S v sz es b){i:Nat}{es':List SV}{lv:Bool}(hi:S[i]?=some (.cells es' lv))(hne:∀s o n c,v≠.osl i s o n c):S'[i]?=some (.cells es' lv):=by
 rw[h i (at_lt hi) hne];exact hi
theorem call_sn2{cfg:Cfg}{f:FuncId}{x x' y y':SV}{S:Zt}{b:Nat}{k:SV×Zt→Prop}(hm:cfg.mode f=.pure)(h1:FzO S b x x')(h2:FzO S b y y')(hk:∀S',Kp S S' b→Sn S S'→wpO (pW cfg f [x',y']) fun v=>k (v,S')):wpO (cW cfg f [x,y] S) k:=
 call_sn (args':=[x',y']) hm ⟨h1,h2,trivial⟩ hk
theorem len60(L:List (List Nat×VC))(c:VC):lenS y60 (.vsl (Ps L) c)=some (.int .i64 (L.length:Int)):=by rw[len_vsl rfl,Ps_len]
theorem idx60{L:List (List Nat×VC)}{c:VC}{i:Nat}{p:List Nat×VC}(h:L[i]?=some p):ixS cT y60 (.vsl (Ps L) c) (.int .i64 (i:Int))=some (.vptr (.vsl (u64s p.1) p.2)):=idx_vsl (j:=y22) rfl rfl (by decide) (Ps_get h) rfl
theorem ld_rg1{S:Zt}{p id:Nat}{lv:Bool}(h:S[id]?=some (.cells [rg p] lv)):ldS y99 S (.optr id 0 0)=some (rg p):=by
 rw[load_row h rfl];rfl
theorem Ps_put{L:List (List Nat×VC)}{i m:Nat}{q:List Nat×VC}(hq:L[i]?=some q):(Ps (L.take i)++List.replicate (m+1) (SV.vsl [] .nil)).set i (.vsl (u64s q.1) q.2)=Ps (L.take (i+1))++List.replicate m (.vsl [] .nil):=by
 have hi:i<L.length:=(List.getElem?_eq_some_iff.1 hq).1
 have hl:(Ps (L.take i)).length=i:=by rw[Ps_len,List.length_take];omega
 conv=>lhs;arg 2;rw[←hl]
 rw[List.set_append_right _ _ (Nat.le_refl _),Nat.sub_self,List.replicate_succ,List.set_cons_zero,List.take_add_one,hq]
 simp[Ps]
theorem grdN{v:Option SV}{o:(SV→Zt→Prop)→Prop}{S:Zt}{k:SV→Zt→Prop}(h:v=some (.bool false))(h2:o k):grdP v false o S k:=by rw[h];exact h2
theorem Lift_loop:∀(m0:Nat) (L:List (List Nat×VC)) (cL:VC) (pr:List Nat) (p i:Nat) (c1:VC) (S:Zt) (e:En) (k:Go.Sh.X→En→Zt→Prop),i+m0=L.length→L.length≤100→IsP p→p≤2147483647→(∀q∈L,∃n,1≤n∧n≤50∧Mo p n q.1)→Cop p (L.map (·.1))→Rd p pr→pr.length≤100*(i+1)→Cg p (en pr) (prN ((L.take i).map (·.1)))→
  e 11=.optr 1 0 0→e 12=.osl 2 1 0 L.length (some L.length)→e 54=.vsl (Ps L) cL→e 55=.int .i64 (L.length:Int)→e 56=.int .i64 (i:Int)→RoB S (e 13) pr 3→S[0]?=some (.cells [I 1 c1] true)→S[1]?=some (.cells [rg p] true)→S[2]?=some (.cells (Ps (L.take i)++List.replicate m0 (.vsl [] .nil)) true)→
  (∀(pr':List Nat) (e':En) (S':Zt),Rd p pr'→Cg p (en pr') (prN (L.map (·.1)))→RoB S' (e' 13) pr' 3→pr'.length≤100*(L.length+1)→S'[0]?=some (.cells [I 1 c1] true)→S'[1]?=some (.cells [rg p] true)→S'[2]?=some (.cells (Ps L) true)→e' 0=e 0→e' 2=e 2→e' 3=e 3→e' 10=e 10→e' 11=e 11→e' 12=e 12→k (.exit 0) e' S')→DenP cT 110 (.loop L28_0) e S k:=by
 intro m0
 induction m0 with
 |zero=>
  intro L cL pr p i c1 S e k hi hL hp hp2 hLm hcop hpr hprl hc h11 h12 h54 h55 h56 h13 h0 h1 h2 hk
  refine L28_0_ok ?_
  unfold TL28_0
  refine Q28_8_ok ?_
  unfold TQ28_8_0
  simp only[h55,h56,b_lss,ws]
  rw[decide_eq_false (by omega)]
  refine cndF rfl ?_
  have ht:L.take i=L:=List.take_of_length_le (by omega)
  rw[ht]at hc h2
  rw[List.replicate_zero,List.append_nil]at h2
  exact hk pr _ S hpr hc h13 (by rw[show L.length=i by omega];exact hprl) h0 h1 h2 rfl rfl rfl rfl rfl rfl
 |succ m0 ih=>
  intro L cL pr p i c1 S e k hi hL hp hp2 hLm hcop hpr hprl hc h11 h12 h54 h55 h56 h13 h0 h1 h2 hk
  have hp1:=hp.1
  obtain⟨q,hq⟩:∃q,L[i]?=some q:=⟨L[i]'(by omega),by simp⟩
  obtain⟨n,hn1,hn2,hn⟩:=hLm q (List.mem_of_getElem? hq)
  have ln:=hn.2.1
  refine L28_0_ok ?_
  unfold TL28_0
  refine Q28_8_ok ?_
  unfold TQ28_8_0
  simp only[h55,h56,b_lss,ws]
  rw[decide_eq_true (by omega)]
  refine cndT rfl ?_
  refine Q28_9_ok ?_
  unfold TQ28_9_0
  refine wo (x:=.vptr (.vsl (u64s q.1) q.2)) ?_ ?_
  ·show ixS cT y60 (e 54) (e 56)=_
   rw[h54,h56];exact idx60 hq
  refine wo (x:=.vsl (u64s q.1) q.2) rfl ?_
  refine Q28_10_ok ?_
  unfold TQ28_10_0
  refine wo (len22 q.1 q.2) ?_
  simp only[b_lss,ws]
  rw[decide_eq_false (by omega)]
  simp only[grdP_ff]
  refine wo (x:=rg p) ?_ ?_
  ·show ldS y99 S (e 11)=_
   rw[h11];exact ld_rg1 h1
  refine f_trimV (by omega) (by omega) (fun v1 S1 hO1 hon1 hl1=>?_)
  have hs1:=Sn.only hon1
  have h01:=hon1.atv h0
  have h11':=hon1.atv h1
  have h21:=hon1.atv h2
  rw[Pl.tm_self hn.1]at hO1
  obtain⟨cq,_,hfq⟩:=fz_own hO1 u64s_pure
  refine call_sn2 (b:=S.length) rfl hfq (fz_pure rfl) (fun S2 hK2 hs2=>?_)
  refine f_equal (by omega) ?_
  simp only[u_not,ws,Bool.not_true,pickS_f]
  have h02:=hK2.at (at_lt h0) h01
  have h12':=hK2.at (at_lt h1) h11'
  have h22:=hK2.at (at_lt h2) h21
  unfold TQ28_10_1
  have h1q:q.1[n]?=some 1:=hn.2.2
  refine grdN rfl ?_
  refine grdN rfl ?_
  refine grdN rfl ?_
  refine wo (len22 q.1 q.2) ?_
  refine grdN rfl ?_
  refine wo (x:=.int .i64 (n:Int)) (by rw[b_sub,ln,wrap64 (by omega) (by omega)];congr 2;omega) ?_
  refine grdN rfl ?_
  refine wo (idx22 h1q) ?_
  refine grdN rfl ?_
  refine wo ld25 ?_
  refine grdN rfl ?_
  refine wo (x:=.bool false) rfl ?_
  refine wo (x:=.bool false) rfl ?_
  refine grdN rfl ?_
  refine wo (x:=rg p) ?_ ?_
  ·show ldS y99 S2 (e 11)=_
   rw[h11];exact ld_rg1 h12'
  refine grdN rfl ?_
  refine grdN rfl ?_
  unfold TQ28_10_2
  have hR2:=(h13.sn hs1).sn hs2
  obtain⟨cr,hfr⟩:=hR2.fz
  refine grdN rfl ?_
  refine call_sn3 (b:=3) rfl (fz_pure rfl) (fz_pure (v:=.vsl (u64s q.1) q.2) rfl) hfr (fun S3 hK3 hs3=>?_)
  have hprl':pr.length≤10100:=by omega
  refine f_gcd (by omega) (by omega) hp hp2 hn.1 hpr (fun g c' hg=>?_)
  have hbz:Bz p (en q.1) (en pr):=by
   have:=hcop i q.1 (by rw[List.getElem?_map,hq];rfl)
   rw[←List.map_take]at this
   exact this.congr (PF.prN _) (PF.en _) hc
  have hg1:g.length=1:=hg.one (by omega) (PF.en _) (PF.en _) hbz
  refine grdN rfl ?_
  refine wo (len100 g c') ?_
  refine grdN rfl ?_
  refine wo (x:=.bool false) (by rw[b_neq,hg1];rfl) ?_
  refine wo (x:=.bool false) rfl ?_
  refine cndF rfl ?_
  refine Q28_12_ok ?_
  unfold TQ28_12_0
  have h03:=hK3.at (by decide) h02
  have h13':=hK3.at (by decide) h12'
  have h23:=hK3.at (by decide) h22
  refine wo (x:=rg p) ?_ ?_
  ·show ldS y99 S3 (e 11)=_
   rw[h11];exact ld_rg1 h13'
  obtain⟨cr2,hfr2⟩:=(hR2.sn hs3).fz
  refine call_sn3 (b:=3) rfl (fz_pure rfl) hfr2 (fz_pure (v:=.vsl (u64s q.1) q.2) rfl) (fun S4 hK4 hs4=>?_)
  refine f_mul (by omega) (by omega) hp2 hpr.1 hn.1.1 (fun r cr3 hr hrl hrc=>?_)
  have h04:=hK4.at (by decide) h03
  have h14:=hK4.at (by decide) h13'
  have h24:=hK4.at (by decide) h23
  refine wo (x:=.optr 2 i 0) ?_ ?_
  ·show ixS cT y102 (e 12) (e 56)=_
   rw[h12,h56]
   have:=idx_osl (cfg:=cT) (i:=y102) (j:=y100) (k:=.i64) (n:=i) (id:=2) (sz:=1) (off:=0) (len:=L.length) (cap:=some L.length) rfl rfl (by decide) (by omega) rfl
   rwa [Nat.zero_add]at this
  refine wo (store_row (i:=y100) (v:=.vsl (u64s q.1) q.2) (e:=.vsl [] .nil) (e':=.vsl (u64s q.1) q.2) h24 (by rw[List.getElem?_append_right (by rw[Ps_len,List.length_take];omega),Ps_len,List.length_take,Nat.min_eq_left (by omega),Nat.sub_self];rfl) rfl rfl rfl) ?_
  rw[Ps_put hq]
  refine Q28_13_ok ?_
  unfold TQ28_13_0
  refine wo (x:=.int .i64 ((i+1:Nat):Int)) ?_ ?_
  ·show bnS .add (some y3) (e 56) (.int .i64 1)=_
   rw[h56,b_add,sI (by omega)]
  refine ih L cL r p (i+1) c1 _ _ k (by omega) hL hp hp2 hLm hcop hr (by omega) ?_ h11 h12 h54 h55 rfl (.inl ⟨cr3,rfl⟩) (at_ne h04 (by decide)) (at_ne h14 (by decide)) (at_eq h24) (fun pr' e' S' a1 a2 a3 a4 a5 a6 a7 a8 a9 a10 a11 a12 a13=>hk pr' e' S' a1 a2 a3 a4 a5 a6 a7 a8 a9 a10 a11 a12 a13)
  rw[List.take_add_one,hq,List.map_append]
  refine hrc.trans ?_
  refine(hc.mul (Cg.refl p (en q.1)) (PF.prN _) (PF.en _)).congr (fun _=>rfl) (fun x=>?_)
  exact Pl.prN_snoc _ _ x
theorem call_same2{cfg:Cfg}{f:FuncId}{x x' y y':SV}{S:Zt}{k:SV×Zt→Prop}(hm:cfg.mode f=.pure)(h1:frz S dS x=some x'∧refs S dS x=[])(h2:frz S dS y=some y'∧refs S dS y=[])(hk:wpO (pW cfg f [x',y']) fun v=>k (v,S)):wpO (cW cfg f [x,y] S) k:=by
 refine call_frz (args':=[x',y']) hm ?_ ?_
 ·simp only[List.mapM_cons,List.mapM_nil,h1.1,h2.1,Option.pure_def,Option.bind_eq_bind,Option.bind_some]
 ·simp only[List.flatMap_cons,List.flatMap_nil,h1.2,h2.2,List.append_nil,sealS]
  exact hk
theorem cmp_self(z:Int):cmpI z z=0:=by simp[cmpI]
theorem f_Lift{L:List (List Nat×VC)}{cL cf:VC}{f:List (Int×VC)}{F:List Int}{p K Nf:Nat}{Q:SV→Prop}(hL:L.length≤100)(hK0:0<K)(hK:K≤16)(hp:IsP p)(hp2:p≤2147483647)(hLm:∀q∈L,∃n,1≤n∧n≤50∧Mo p n q.1)(hds:dsum (L.map (·.1))≤20)(hcop:Cop p (L.map (·.1)))(hf:Zl f F Nf)(hNf:Nf≤1000)(hF:MoI (dsum (L.map (·.1))) F)(hc:Cg p (ev F) (prN (L.map (·.1))))
  (hQ:∀D xs c,Lft p K F (L.map (·.1)) xs→ZL D xs 100→Q (.tup [.vsl (Vs D) c,.int .i64 0])):wpO (pW cT 28 [.vsl (Is f) cf,.vsl (Ps L) cL,.int .u64 (p:Int),.int .i64 (K:Int)]) Q:=by
 have hp1:=hp.1
 have lF:=hF.1
 have lf:=hf.len
 obtain⟨d,hd⟩:∃d,dsum (L.map (·.1))=d:=⟨_,rfl⟩
 rw[hd]at hF hds lF
 have hfb:∀q∈f,wd q.1≤1000:=fun q hq=>Nat.le_trans (hf.bd q.1 (by rw[←hf.eq];exact List.mem_map_of_mem hq)) hNf
 obtain⟨w,hw⟩:∃w,f[d]?=some w:=⟨f[d]'(by omega),by simp⟩
 have hw1:w.1=1:=by
  have e1:(zs f)[d]?=some w.1:=by simp[zs,hw]
  rw[hf.eq]at e1
  have e2:=hF.2
  unfold Pl.cf at e2
  rw[e1]at e2
  exact e2
 have wd1:wd 1=1:=rfl
 refine po rfl (F28_ok (k:=fun v S=>wpO (frz S dS v) Q) ?_)
 unfold F28
 refine Q28_0_ok ?_
 unfold TQ28_0_0
 refine Q28_1_ok ?_
 unfold TQ28_1_0
 refine cpu rfl rfl (m_of (n:=1) (by decide) (fun c1 hc1=>?_))
 iterate 2 refine wo rfl ?_
 refine Q28_2_ok ?_
 unfold TQ28_2_0
 refine cpu rfl rfl (m_prime hp hp2 ?_)
 refine wo (x:=.bool false) rfl ?_
 iterate 2 refine grdN rfl ?_
 refine wo (x:=.bool false) ?_ ?_
 ·show bnS .lss (some y3) (.int .i64 (K:Int)) (.int .i64 1)=_
  rw[b_lss,decide_eq_false (by omega)]
 refine wo (x:=.bool false) rfl ?_
 iterate 2 refine grdN rfl ?_
 refine wo (x:=.bool false) ?_ ?_
 ·show bnS .gtr (some y3) (.int .i64 (K:Int)) (.int .i64 200)=_
  rw[b_gtr,decide_eq_false (by omega)]
 refine wo (x:=.bool false) rfl ?_
 unfold TQ28_2_1
 iterate 2 refine grdN rfl ?_
 refine wo (len24 f cf) ?_
 refine grdN rfl ?_
 refine wo (x:=.bool false) ?_ ?_
 ·rw[b_eql,decide_eq_false (by omega)]
 refine wo (x:=.bool false) rfl ?_
 iterate 2 refine grdN rfl ?_
 refine call_same2 (x':=.vsl (Is f) cf) (y':=.fn 94 [] []) rfl (frz_pure rfl) ⟨rfl,rfl⟩ ?_
 refine f_contains (N:=1000) (by omega) hfb (by omega) ?_
 refine wo (x:=.bool false) rfl ?_
 iterate 3 refine grdN rfl ?_
 refine wo (len24 f cf) ?_
 unfold TQ28_2_2
 refine grdN rfl ?_
 refine wo (x:=.int .i64 (d:Int)) ?_ ?_
 ·show bnS .sub (some y3) (.int .i64 (f.length:Int)) (.int .i64 1)=_
  rw[b_sub,wrap64 (by omega) (by omega)];congr 2;omega
 refine grdN rfl ?_
 refine wo (idx24 hw) ?_
 refine grdN rfl ?_
 refine wo (x:=I w.1 w.2) rfl ?_
 refine grdN rfl ?_
 refine wo (x:=I 1 c1) rfl ?_
 refine grdN rfl ?_
 refine cpu rfl rfl (m_cmpz (by rw[hw1,wd1];omega) (by rw[wd1];omega) ?_)
 refine grdN rfl ?_
 refine wo (x:=.bool false) ?_ ?_
 ·rw[hw1,cmp_self];rfl
 refine wo (x:=.bool false) rfl ?_
 refine cndF rfl ?_
 refine Q28_4_ok ?_
 unfold TQ28_4_0
 refine wo (x:=rg p) rfl ?_
 iterate 2 refine wo rfl ?_
 refine Q28_5_ok ?_
 unfold TQ28_5_0
 refine wo (len60 L cL) ?_
 refine wo (mksl_ok (j:=y100) (by decide) rfl (by unfold roomS;omega) (by show L.length*24≤_;unfold roomS;omega)) ?_
 refine Q28_6_ok ?_
 unfold TQ28_6_0
 refine Own.bsl1 (j:=y25) (by decide) rfl rfl (by decide) (fun v S' hO hKp hl=>?_)
 refine Q28_7_ok ?_
 unfold TQ28_7_0
 refine wo (len60 L cL) ?_
 have h0:S'[0]?=some (.cells [I 1 c1] true):=hKp.at (i:=0) (show 0<3 by decide) rfl
 have h1:S'[1]?=some (.cells [rg p] true):=hKp.at (i:=1) (show 1<3 by decide) rfl
 have h2:S'[2]?=some (.cells (Ps (L.take 0)++List.replicate L.length (.vsl [] .nil)) true):=hKp.at (i:=2) (show 2<3 by decide) rfl
 refine Lift_loop L.length L cL [1] p 0 c1 S' _ _ (by omega) hL hp hp2 hLm hcop ⟨by intro x hx;simp at hx;omega,by simp⟩ (by simp) ((Cg.refl _ _).congr (fun _=>rfl) (fun x=>by simp[prN,Pl.en_one])) rfl rfl rfl rfl rfl ?_ h0 h1 h2 ?_
 ·obtain⟨id,cap,rest,rfl,hS,hb,_⟩:=hO.own
  exact .inr ⟨id,cap,rest,true,rfl,hS,hb⟩
 ·intro pr' e' S'' a1 a2 a3 a4 b0 b1 b2 g0 g2 g3 g10 g11 g12
  refine K28_0e0_ok ?_
  unfold TK28_0e0
  refine Q28_14_ok ?_
  unfold TQ28_14_0
  refine wo (x:=I 1 c1) ?_ ?_
  ·rw[g10];exact load_I b0
  rw[g0,g2]
  refine cpu rfl rfl (f_image (S:=[]) hf (m:=1) (by omega) (M:=1) (by rw[wd1];omega) (by omega) (by omega) (by omega) (by omega) (by omega) (fun ci=>?_))
  rw[show F.map (·/1)=F by simp]
  have he:pr'=red p F:=Rd.ext (by omega) a1 (Pl.red_rd (by omega) F) (a2.trans (hc.symm.trans (Pl.red_cg (by omega) F).symm))
  obtain⟨ca,hfa⟩:=a3.fz
  rw[←he]
  refine call_fz2 (b:=3) rfl hfa (fz_pure rfl) (fun S3 hK3=>?_)
  refine f_equal (by omega) ?_
  refine wo (x:=.bool false) rfl ?_
  refine cndF rfl ?_
  refine Q28_16_ok ?_
  unfold TQ28_16_0
  have b03:=hK3.at (by decide) b0
  have b13:=hK3.at (by decide) b1
  have b23:=hK3.at (by decide) b2
  refine wo (x:=rg p) ?_ ?_
  ·show ldS y99 S3 (e' 11)=_
   rw[g11];exact ld_rg1 b13
  obtain⟨r1,r2⟩:=frz_row (S:=S3) (id:=2) (sz:=1) (off:=0) (len:=L.length) (cap:=some L.length) (es:=Ps L) b23 (by rw[Ps_len];omega) (by intro x hx;exact Ps_pure x (List.mem_of_mem_drop (List.mem_of_mem_take hx)))
  have ht:((Ps L).drop 0).take L.length=Ps L:=by rw[List.drop_zero,List.take_of_length_le (by rw[Ps_len];omega)]
  rw[ht]at r1
  rw[show((ups e' _) 12:SV)=e' 12 from rfl,show((ups e' _) 0:SV)=e' 0 from rfl,show((ups e' _) 3:SV)=e' 3 from rfl,g12,g0,g3]
  refine call_fz (b:=2) (args':=[rg p,.vsl (Is f) cf,.vsl (Ps L) .exact,.int .i64 (K:Int)]) rfl ⟨fz_pure rfl,fz_pure rfl,⟨by rw[if_pos rfl]at r1;exact r1,by intro i hi;have:i∈refs S3 dS (.osl 2 1 0 L.length (some L.length)):=hi;rw[r2]at this;simp at this;omega⟩,fz_pure rfl,trivial⟩ (fun S4 hK4=>?_)
  have hlm:∀q∈L,∃n,Mo p n q.1:=fun q hq=>by obtain⟨n,_,_,h⟩:=hLm q hq;exact⟨n,h⟩
  refine f_lifts (by omega) hK0 hK hp hp2 hlm (by rw[hd];omega) hcop hf hNf (by rw[hd];exact hF) hc (fun D xs c h1 h2=>?_)
  exact hQ D xs c h1 h2
end Go.Proofs
