/-
  Splitting; the factors of each degree.
-/
import Derived.Test.YtilhffelllbggaaGreatMPc
import Derived.Test.YtilhffelllbggaaGreatMKd
import Derived.Test.YtilhffelllbggaaGreatMLb
set_option linter.unusedVariables false
set_option linter.unusedSimpArgs false
set_option maxRecDepth 10000
namespace Go.Proofs
open Go.Sh
open Pl (IsP Rd Cg en tm Mo PF IsDiv IsGcd el Fx PwI Irr nm Spl SplitOk dg)
theorem ld_ext{S:Zt}{t:SV}{c:Nat}{es:List SV}{lv:Bool}{i:Nat}(h:S[c]?=some (.cells es lv))(he:es[i]?=some t)(ho:oneS t=true)(hc:t.cells=[t]):ldS y100 S (.optr c i 0)=some t:=by
 rw[load_row h he,hc]
 unfold partS
 rw[if_neg (by decide)]
 show(if oneS t then some t else none)=_
 rw[if_pos ho]
theorem dig_loop{p:Nat}{lv:Bool}{N:Nat}(hp:2≤p)(hp2:p≤2147483647):∀(n:Nat) (o:List Nat) (S:Zt) (e:En) (k:X→En→Zt→Prop),n<18446744073709551616→o.length+(dg p n).length<1000→o++dg p n=dg p N→
  e 3=.optr 0 0 0→S[0]?=some (.cells [rg p] lv)→e 9=.int .u64 (n:Int)→On S (e 8) o 1→
  (∀(v:SV) (x y z:SV) (l:List (Nat×SV)) (S':Zt),S'[0]?=some (.cells [rg p] lv)→On S' v (dg p N) 1→∀e':En,e' 0=e 0→e' 1=e 1→e' 2=e 2→e' 3=.optr 0 0 0→e' 6=e 6→e' 7=e 7→e' 8=v→k (.exit 2) e' S')→DenP cT 80 (.loop L63_1) e S k:=by
 intro n
 induction n using Nat.strongRecOn with
 |ind n ih=>
  intro o S e k hn hl hR h3 hS h9 hO hk
  refine L63_1_ok ?_
  unfold TL63_1
  simp only[h3,h9,b_gtr,ws]
  by_cases h0:n=0
  ·subst h0
   rw[decide_eq_false (by simp),cf_]
   rw[Pl.dg_zero,List.append_nil]at hR
   rw[hR]at hO
   exact hk (e 8) undefS undefS undefS [] S hS hO _ rfl rfl rfl h3 rfl rfl rfl
  ·rw[decide_eq_true (by omega),condP_t]
   simp only[fa_rg,ld_p hS,ws]
   refine wo (b_remN (by omega)) ?_
   rw[Pl.dg_pos hp h0]at hR hl
   simp only[List.length_cons]at hl
   refine push64n hO (by have:=at_lt hS;omega) (by omega) (fun p' v' S' hO' hK=>?_)
   have hS':=hK.at (by omega) hS
   simp only[ld_p hS',ws]
   refine wo (b_quoN (by omega) hn) ?_
   exact ih (n/p) (Nat.div_lt_self (by omega) (by omega)) (o++[n%p]) S' _ k (by have:=Nat.div_le_self n p;omega) (by simp;omega) (by rw[List.append_assoc];exact hR) h3 hS' rfl (.inr hO') (fun v x y z l S2 a1 a2 e' b0 b1 b2 b3 b6 b7 b8=>hk v x y z l S2 a1 a2 e' b0 b1 b2 b3 b6 b7 b8)
structure SpI(p m d:Nat)(f:List Nat)(cf:VC)(e:En)(S:Zt):Prop where
 h1:e 1=.vsl (u64s f) cf
 h2:e 2=.int .i64 (d:Int)
 h3:e 3=.optr 0 0 0
 s0:∃lv,S[0]?=some (.cells [rg p] lv)
theorem try_step {p m d : Nat} {f s : List Nat} {cf : VC} {e : En} {S : Zt} {k : X → En → Zt → Prop} {r i : Nat} {x : SV} {es : List SV} {lv : Bool} (hp : IsP p) (hp2 : p ≤ 2147483647) (hs : Spl p m d f)
    (hI : SpI p m d f cf e S) (h44 : e 44 = .osl r 1 0 2 (some 2)) (h45 : e 45 = .int .i64 2) (h46 : e 46 = .int .i64 (i : Int)) (hi : i < 2) (hr : S[r]? = some (.cells es lv)) (he : es[i]? = some x) (ho : oneS x = true) (hc : x.cells = [x]) (hx : Ro S x s) (hls : s.length < 1000)
    (ih : ∀ (a : Nat) (g : List Nat) (cg : VC) (T : Zt) (K : SV × Zt → Prop), a < m → Spl p a d g →
      (∀ (L : List (List Nat × VC)) v' S', SplitOk p a (el g) (L.map (·.1)) → Ex y100 S' v' (Qs L) T.length → T.length ≤ S'.length → (∀ i, i < T.length → S'[i]? = T[i]?) → K (v', S')) → wpO (cW cT 63 [rg p, .vsl (u64s g) cg, .int .i64 (d : Int)] T) K)
    (hfound : ∀ (L : List (List Nat × VC)) (e' : En) (S' : Zt) (b : Nat), SplitOk p m (el f) (L.map (·.1)) → Ex y100 S' (e' 6) (Qs L) b → k .ret e' S')
    (hnot : ∀ (e' : En) (S' : Zt), Sn S S' → (∀ u : Fx p, Pl.Gd (el f) u → ¬ (el f : Fx p) ∣ el s - u) → SpI p m d f cf e' S' → e' 7 = e 7 → e' 44 = e 44 → e' 45 = e 45 → e' 46 = .int .i64 ((i + 1 : Nat) : Int) → DenP cT 80 (.loop L63_2) e' S' k) :
    DenP cT 80 (.loop L63_2) e S k := by
  have hp1 := hp.1
  obtain ⟨h1, h2, h3, lv0, hS⟩ := hI
  have hfl := hs.mo.2.1
  have hm9 := hs.m9
  have hf0 : f ≠ [] := fun e => by rw [e] at hfl; simp at hfl
  refine L63_2_ok ?_
  unfold TL63_2
  simp only [h44, h45, h46, b_lss, ws]
  rw [decide_eq_true (by omega), condP_t]
  refine wo (idx_osl (j := y100) rfl rfl (by decide) hi rfl) ?_
  rw [Nat.zero_add]
  refine wo (ld_ext hr he ho hc) ?_
  rw [h3]
  refine wo (ld_rg hS) ?_
  refine wo (ld_rg hS) ?_
  rw [h1]
  obtain ⟨cx, hfx⟩ := hx.fz
  refine call_sn3 rfl (fz_pure rfl) hfx (fz_pure rfl) (fun S1 hK1 hS1 => ?_)
  refine f_rem (by omega) (by omega) hp hp2 hs.mo.1 hf0 fun q1 r1 c1 hd1 => ?_
  refine cpu rfl rfl (f_gcd (by omega) (by have := hd1.less; omega) hp hp2 hs.mo.1 hd1.hr fun g cg hg => ?_)
  have cong : (el f : Fx p) ∣ el r1 - el s := Pl.cg_rem hd1
  obtain ⟨lv1, hT0⟩ := hS1 0 _ _ hS
  simp only [len100, b_gtr, ws]
  have give : ∀ (K : SV → SV × Zt → SV → SV → SV × Zt → SV × Zt → SV × Zt → Prop), 1 < g.length → g.length < f.length → (∀ x1 x2 x3 x4 x5 x6 v T L b, SplitOk p m (el f) (L.map (·.1)) → Ex y100 T v (Qs L) b → K x1 x2 x3 x4 x5 x6 (v, T)) →
      wpO (ldS y99 S1 (.optr 0 0 0)) fun v43 =>
       wpO (cW cT 63 [v43, .vsl (u64s g) cg, (e 2)] S1) fun p44 =>
       wpO (ldS y99 p44.2 (.optr 0 0 0)) fun v45 =>
       wpO (ldS y99 p44.2 (.optr 0 0 0)) fun v46 =>
       wpO (cW cT 129 [v46, .vsl (u64s f) cf, .vsl (u64s g) cg] p44.2) fun p47 =>
       wpO (cW cT 63 [v45, p47.1, (e 2)] p47.2) fun p48 =>
       wpO (appS y100 p48.2 p44.1 p48.1) fun p49 => K v43 p44 v45 v46 p47 p48 p49 := fun K g1 g2 hK => by
    refine wo (ld_rg hT0) ?_
    rw [h2]
    obtain ⟨n, hn⟩ : ∃ n, Mo p n g := by
      rcases hg.mo with h5 | h5
      · rw [h5] at g1; simp at g1
      · exact h5
    have hg0 : g ≠ [] := fun e => by rw [e] at g1; simp at g1
    obtain ⟨q', r', hq'⟩ : ∃ q' r', IsDiv p (en f) g q' r' := by
      obtain ⟨s', t', es', ht'⟩ := Pl.fx_divide hp (hn.nz (by omega)) (el f)
      obtain ⟨sl, sl1, rfl⟩ := Pl.el_surj (by omega) s'
      obtain ⟨tl, tl1, rfl⟩ := Pl.el_surj (by omega) t'
      refine ⟨sl, tl, sl1, tl1, (Pl.fx_eq (a := ⟨en f, PF.en f⟩) (b := Pl.Pf.add (Pl.Pf.mul ⟨en sl, PF.en sl⟩ ⟨en g, PF.en g⟩) ⟨en tl, PF.en tl⟩)).1 es', ?_⟩
      rw [Pl.sz_el (by omega) tl1, Pl.sz_el (by omega) hn.1] at ht'
      exact ht'
    obtain ⟨a, b, hab, ham, hbm, ha, hb, eq⟩ := hs.parts hp hg g1 g2 hq'
    refine ih a g cg S1 _ ham ha (fun L v1 S2 a1 a2 a3 a4 => ?_)
    have hT2 : S2[0]? = some (.cells [rg p] lv1) := by rw [a4 0 (at_lt hT0)]; exact hT0
    refine wo (ld_rg hT2) ?_
    refine wo (ld_rg hT2) ?_
    refine cpu rfl rfl (f_quo (by omega) (by omega) hp hp2 hn.1 hg0 fun q r cq hq => ?_)
    obtain ⟨a', b', hab', ham', hbm', ha', hb', eq'⟩ := hs.parts hp hg g1 g2 hq
    obtain rfl : a' = a := by
      have e1 := ha.mo.2.1
      have e2 := ha'.mo.2.1
      omega
    refine ih b' q cq S2 _ hbm' hb' (fun M v2 S3 c1 c2 c3 c4 => ?_)
    have hel := c2.elems
    have hne : Qs M ≠ [] := fun e => c1.2.2.1 (by
      have := congrArg List.length e
      rw [Qs_len] at this
      exact List.map_eq_nil_iff.2 (List.length_eq_zero_iff.1 this))
    have l1 := a1.2.2.2
    have l2 := c1.2.2.2
    rw [List.length_map] at l1 l2
    refine app_ex (j := y100) (a2.kp (T := S3) (c := S2.length) c4 (Nat.le_refl _)) rfl (by decide) hel hne Qs_sizes (by rw [Qs_len, Qs_len]; show (L.length + M.length) * 24 ≤ _; unfold roomS; omega) (by rw [Qs_len, Qs_len]; unfold roomS; omega) (Nat.le_trans a3 c3) (fun v' S' d1 d2 d3 d4 => ?_)
    rw [← Qs_app] at d1
    exact hK _ _ _ _ _ _ v' S' (L ++ M) _ (by rw [List.map_append]; exact a1.two c1 eq' (by omega)) d1
  have notfound : ¬ (1 < g.length ∧ g.length < f.length) → ∀ u : Fx p, Pl.Gd (el f) u → ¬ (el f : Fx p) ∣ el s - u := fun hn u hu hd => hn (hs.found hp hg hu (Pl.cg_trans cong hd))
  by_cases g1 : 1 < g.length
  · rw [decide_eq_true (by omega)]
    iterate 2 refine grdT rfl ?_
    simp only [len100, ws]
    iterate 2 refine grdT rfl ?_
    simp only [len100, ws]
    refine grdT rfl ?_
    simp only [b_lss, ws]
    by_cases g2 : g.length < f.length
    · rw [decide_eq_true (by omega)]
      refine wo (x := .bool true) rfl ?_
      refine cndT rfl ?_
      refine give _ g1 g2 (fun x1 x2 x3 x4 x5 x6 v T L b a1 a2 => ?_)
      exact hfound L _ T b a1 a2
    · rw [decide_eq_false (by omega)]
      refine wo (x := .bool false) rfl ?_
      refine cndF rfl ?_
      simp only [b_add, ws]
      rw [sI (by omega)]
      exact hnot _ S1 hS1 (notfound (fun h => g2 h.2)) ⟨h1, h2, h3, lv1, hT0⟩ rfl rfl rfl rfl
  · rw [decide_eq_false (by omega)]
    iterate 5 refine grdF rfl ?_
    refine wo (x := .bool false) rfl ?_
    refine cndF rfl ?_
    simp only [b_add, ws]
    rw [sI (by omega)]
    exact hnot _ S1 hS1 (notfound (fun h => g1 h.1)) ⟨h1, h2, h3, lv1, hT0⟩ rfl rfl rfl rfl
theorem split_loop{p m d:Nat}{f:List Nat}{cf:VC}{n0:Nat}(hp:IsP p)(hp2:p≤2147483647)(hs:Spl p m d f)
  (ih:∀(a:Nat) (g:List Nat) (cg:VC) (T:Zt) (K:SV×Zt→Prop),a<m→Spl p a d g→
   (∀(L:List (List Nat×VC)) v' S',SplitOk p a (el g) (L.map (·.1))→Ex y100 S' v' (Qs L) T.length→T.length≤S'.length→(∀i,i<T.length→S'[i]?=T[i]?)→K (v',S'))→wpO (cW cT 63 [rg p,.vsl (u64s g) cg,.int .i64 (d:Int)] T) K)
  (hd:d<1000) (hn0:n0<18446744073709551615) (hgoal:Pl.Gd (el f:Fx p) (el (dg p n0))∨∃h,p=2*h+1∧Pl.Gd (el f:Fx p) (nm d (el (dg p n0))^h-1)):∀(j n:Nat) (e:En) (S:Zt) (k:X→En→Zt→Prop),n+j=n0→p≤n→SpI p m d f cf e S→(∃lv,S[0]?=some (.cells [rg p] lv))→e 7=.int .u64 (n:Int)→
  (∀(L:List (List Nat×VC)) (e':En) (S':Zt) (b:Nat),SplitOk p m (el f) (L.map (·.1))→Ex y100 S' (e' 6) (Qs L) b→k .ret e' S')→DenP cT 80 (.loop L63_0) e S k:=by
 intro j
 have hp1:=hp.1
 have hfl:=hs.mo.2.1
 have hm9:=hs.m9
 have hm0:=hs.m0
 induction j using Nat.strongRecOn with
 |ind j ihj=>
  intro n e S k hn hpn hI hS h7 hk
  obtain⟨h1,h2,h3,lv,hS0⟩:=hI
  have hdl:(dg p n).length≤64:=Pl.dg_len hp1 (by
   have:2^64≤p^64:=Nat.pow_le_pow_left hp1 64
   omega)
  refine L63_0_ok ?_
  unfold TL63_0
  refine dig_loop (N:=n) (by omega) hp2 n [] S _ _ (by omega) (by simp;omega) rfl h3 hS0 h7 (.inl ⟨rfl,rfl⟩) (fun v _ _ _ _ S1 hS1 hO e1 b0 b1 b2 b3 b6 b7 b8=>?_)
  have c1:e1 1=.vsl (u64s f) cf:=b1.trans h1
  have c2:e1 2=.int .i64 (d:Int):=b2.trans h2
  have c7:e1 7=.int .u64 (n:Int):=b7.trans h7
  refine K63_1e2_ok ?_
  unfold TK63_1e2
  rw[b3,b8,c2,c1]
  refine wo (ld_rg hS1) ?_
  have hdne:dg p n≠[]:=fun h=>by
   have:=Pl.val_dg hp1 n
   rw[h]at this
   simp only[Pl.val]at this
   omega
  rcases hO with⟨_,hO⟩|hO
  ·exact absurd hO hdne
  obtain⟨c,_,hfz⟩:=fz_own hO.own u64s_pure
  have hro:=hO.own.ro
  refine call_sn (b:=1) (args':=[rg p,.vsl (u64s (dg p n)) c,.int .i64 (d:Int),.vsl (u64s f) cf]) rfl ⟨fz_pure rfl,hfz,fz_pure rfl,fz_pure rfl,trivial⟩ (fun S2 hK2 hSn2=>?_)
  refine f_probe hp hp2 hs.mo.1 (by omega) (by omega) (by omega) hs.d0 hd fun u cu hu hlu eu=>?_
  have hS2:=hK2.at (by omega) hS1
  have hro2:=hro.sn hSn2
  obtain⟨id,cap,rest,rfl,hv2,hv3,hv4⟩:=hO
  have hbs:bslS y100 2 [(0,.osl id 1 0 (u64s (dg p n)).length cap),(1,.vsl (u64s u) cu)] S2=some (.osl S2.length 1 0 2 (some 2),S2++[.cells [.osl id 1 0 (u64s (dg p n)).length cap,.vsl (u64s u) cu] true]):=rfl
  refine wo hbs ?_
  refine wo (len_osl rfl) ?_
  have hr:(S2++[Row.cells [.osl id 1 0 (u64s (dg p n)).length cap,.vsl (u64s u) cu] true])[S2.length]?=some (.cells [.osl id 1 0 (u64s (dg p n)).length cap,.vsl (u64s u) cu] true):=at_new
  have hro3:Ro (S2++[Row.cells [.osl id 1 0 (u64s (dg p n)).length cap,.vsl (u64s u) cu] true]) (.osl id 1 0 (u64s (dg p n)).length cap) (dg p n):=hro2.sn Sn.app
  refine try_step (r:=S2.length) (i:=0) (x:=.osl id 1 0 (u64s (dg p n)).length cap) hp hp2 hs ⟨c1,c2,b3,_,at_app hS2⟩ rfl rfl rfl (by omega) hr rfl rfl rfl hro3 (by omega) ih (fun L e' S' b a1 a2=>?_) (fun e2 S3 hSn3 hno1 hI2 g7 g44 g45 g46=>?_)
  ·refine K63_2r_ok ?_
   unfold TK63_2r
   exact hk L e' S' b a1 a2
  obtain⟨lv3,hr3⟩:=hSn3 _ _ _ hr
  refine try_step (r:=S2.length) (i:=1) (x:=.vsl (u64s u) cu) (s:=u) hp hp2 hs hI2 (g44.trans rfl) (g45.trans rfl) g46 (by omega) hr3 rfl rfl rfl (.inl ⟨cu,rfl⟩) (by omega) ih (fun L e' S' b a1 a2=>?_) (fun e3 S4 hSn4 hno2 hI3 k7 k44 k45 k46=>?_)
  ·refine K63_2r_ok ?_
   unfold TK63_2r
   exact hk L e' S' b a1 a2
  refine L63_2_ok ?_
  unfold TL63_2
  rw[k46,k45.trans (g45.trans rfl)]
  refine wo b_lss ?_
  refine cndF rfl ?_
  refine K63_2e4_ok ?_
  unfold TK63_2e4
  have q7:e3 7=.int .u64 (n:Int):=k7.trans (g7.trans c7)
  by_cases hj:j=0
  ·exfalso
   have hnn:n=n0:=by omega
   subst hnn
   rcases hgoal with hg|⟨h,hh,hg⟩
   ·exact hno1 _ hg (Pl.cg_refl _ _)
   ·exact hno2 _ hg (eu h hh)
  ·show wpO (bnS .add (some y25) (e3 7) (.int .u64 1)) _
   rw[q7]
   simp only[b_add,ws]
   rw[wrapU64 (by omega) (by omega),show(n:Int)+1=((n+1:Nat):Int) from rfl]
   obtain⟨i1,i2,i3,i4⟩:=hI3
   exact ihj (j-1) (by omega) (n+1) _ S4 k (by omega) (by omega) ⟨i1,i2,i3,i4⟩ i4 rfl hk
theorem f_split{p:Nat}(hp:IsP p)(hp2:p≤2147483647):∀(m d:Nat) (f:List Nat) (cf:VC) (S:Zt) (k:SV×Zt→Prop),Spl p m d f→d<1000→
  (∀(L:List (List Nat×VC)) v' S',SplitOk p m (el f) (L.map (·.1))→Ex y100 S' v' (Qs L) S.length→S.length≤S'.length→(∀i,i<S.length→S'[i]?=S[i]?)→k (v',S'))→
  wpO (cW cT 63 [rg p,.vsl (u64s f) cf,.int .i64 (d:Int)] S) k:=by
 intro m
 induction m using Nat.strongRecOn with
 |ind m ih=>
  intro d f cf S k hs hd hk
  have hp1:=hp.1
  have hfl:=hs.mo.2.1
  have hm9:=hs.m9
  have hm0:=hs.m0
  have hrg:=frz_pure (S:=S) (v:=rg p) rfl
  have hfz:=frz_pure (S:=S) (v:=.vsl (u64s f) cf) rfl
  have hdz:=frz_pure (S:=S) (v:=.int .i64 (d:Int)) rfl
  have href:[rg p,.vsl (u64s f) cf,.int .i64 (d:Int)].flatMap (refs S dS)=[]:=by
   simp only[List.flatMap_cons,hrg.2,hfz.2,hdz.2,List.flatMap_nil,List.append_nil]
  refine call_freshE (j:=y100) (args':=[rg p,.vsl (u64s f) cf,.int .i64 (d:Int)]) rfl (by simp only[List.mapM_cons,hrg.1,hfz.1,hdz.1,List.mapM_nil];rfl) ?_
  rw[href]
  have fin:∀(L:List (List Nat×VC)) (w:SV) (T:Zt) (b:Nat),SplitOk p m (el f) (L.map (·.1))→Ex y100 T w (Qs L) b→∃es b,Ex y100 T w es b∧(∀e∈es,pureS e=true)∧
    ∀v' S',Ex y100 S' v' es S.length→S.length≤S'.length→(∀i,i<S.length→i∉([]:List Nat)→S'[i]?=S[i]?)→k (v',S'):=fun L w T b h1 h3=>
   ⟨Qs L,b,h3,Qs_pure,fun v' S' a1 a2 a3=>hk L v' S' h1 a1 a2 (fun i hi=>a3 i hi (by simp))⟩
  refine F63_ok (k:=fun w T=>∃es b,Ex y100 T w es b∧(∀e∈es,pureS e=true)∧
    ∀v' S',Ex y100 S' v' es S.length→S.length≤S'.length→(∀i,i<S.length→i∉([]:List Nat)→S'[i]?=S[i]?)→k (v',S')) ?_
  unfold F63
  refine wo rfl ?_
  simp only[len100,b_sub,b_eql,ws]
  rw[wrap64 (by omega) (by omega)]
  by_cases he:m=d
  ·rw[decide_eq_true (by omega),condP_t]
   have hbs:bslS y100 1 [(0,.vsl (u64s f) cf)] [Row.cells [rg p] true]=some (.osl 1 1 0 1 (some 1),[Row.cells [rg p] true]++[.cells [.vsl (u64s f) cf] true]):=rfl
   refine wo hbs ?_
   exact fin [(f,cf)] _ _ 0 (SplitOk.one hs.mo hm0 (hs.irr hp he)) (.inr ⟨1,some 1,rfl,rfl,by omega,.inr rfl⟩)
  ·rw[decide_eq_false (by omega),cf_]
   refine wo fa_rg ?_
   refine wo (ld_p rfl) ?_
   obtain⟨n0,g1,g2,g3⟩:=hs.goal hp hp2 he
   refine split_loop hp hp2 hs (fun a g cg T K ha hsa hK=>ih a ha d g cg T K hsa hd hK) hd g2 g3 (n0-p) p _ _ _ (by omega) (Nat.le_refl _) ⟨rfl,rfl,rfl,true,rfl⟩ ⟨true,rfl⟩ rfl (fun L e' S' b a1 a2=>?_)
   refine K63_0r_ok ?_
   unfold TK63_0r
   exact fin L _ _ b a1 a2
open Pl (MInv)
theorem call_inp{cfg:Cfg}{f:FuncId}{args:List SV}{S:Zt}{k:SV×Zt→Prop}(hm:cfg.mode f=.inpl)(h:wpO (bW cfg f args S) k):wpO (cW cfg f args S) k:=by
 rw[callW_eq,hm];exact h
theorem ld_rgI{S:Zt}{p i:Nat}{lv:Bool}(h:S[i]?=some (.cells [rg p] lv)):ldS y99 S (.optr i 0 0)=some (rg p):=by
 rw[load_row h rfl];rfl
theorem ld_pI{S:Zt}{p i:Nat}{lv:Bool}(h:S[i]?=some (.cells [rg p] lv)):ldS y25 S (.optr i 0 0)=some (.int .u64 (p:Int)):=by
 rw[load_row h rfl];rfl
def ExP(S:Zt)(v:SV)(es:List SV)(P:List Nat):Prop:=(v=.vsl [] .nil∧es=[])∨∃id cap,v=.osl id 2 0 es.length cap∧S[id]?=some (.cells es true)∧id∉P∧(cap=none∨cap=some es.length)
theorem ExP.one{S:Zt}{v:SV}{es:List SV}{P:List Nat}(h:ExP S v es P):oneS v=true∧v.cells=[v]∧v.n=1∧flatS v=true∧∀w,oneS w=true→w.cells=[w]→putPart v 0 w=some w:=by
 rcases h with⟨rfl,rfl⟩|⟨id,cap,rfl,_⟩
 ·refine⟨rfl,rfl,rfl,rfl,fun w h1 h2=>?_⟩
  unfold putPart
  cases w<;>first|rfl|cases h1
 ·refine⟨rfl,rfl,rfl,rfl,fun w h1 h2=>?_⟩
  unfold putPart
  cases w<;>first|rfl|cases h1
theorem ExP.keep{S T:Zt}{v:SV}{es:List SV}{P:List Nat}(h:ExP S v es P)(hk:∀i,i<S.length→i∉P→T[i]?=S[i]?):ExP T v es P:=by
 rcases h with h|⟨id,cap,h1,h2,h3,h4⟩
 ·exact .inl h
 ·exact .inr ⟨id,cap,h1,by rw[hk id (at_lt h2) h3];exact h2,h3,h4⟩
theorem ExP.add{S:Zt}{v:SV}{es:List SV}{P:List Nat}{r:Nat}(h:ExP S v es P)(hr:S.length≤r):ExP S v es (r::P):=by
 rcases h with h|⟨id,cap,h1,h2,h3,h4⟩
 ·exact .inl h
 ·refine .inr ⟨id,cap,h1,h2,?_,h4⟩
  have:=at_lt h2
  simp only[List.mem_cons,not_or]
  exact⟨by omega,h3⟩
theorem ExP.sub{S:Zt}{v:SV}{es:List SV}{P:List Nat}{r:Nat}(h:ExP S v es (r::P)):ExP S v es P:=by
 rcases h with h|⟨id,cap,h1,h2,h3,h4⟩
 ·exact .inl h
 ·exact .inr ⟨id,cap,h1,h2,fun hm=>h3 (List.mem_cons_of_mem _ hm),h4⟩
theorem app_exP{S:Zt}{v x e:SV}{es:List SV}{P:List Nat}{K:SV×Zt→Prop}(h:ExP S v es P)(hx:elemsS S x=some [e])(hz:sizesOk 2 [e]=true)(hl:es.length<100)(hP:∀i∈P,i<S.length)
  (hk:∀v' S',ExP S' v' (es++[e]) P→(∀i∈P,S'[i]?=S[i]?)→S'.length=S.length+1→K (v',S')):wpO (appS y33 S v x) K:=by
 rcases h with⟨rfl,rfl⟩|⟨id,cap,rfl,h2,h3,h4⟩
 ·refine app_ex (j:=y33) (es:=[]) (b:=S.length) (.inl ⟨rfl,rfl⟩) rfl (by decide) hx (by simp) hz (by show(0+1)*32≤_;unfold roomS;omega) (by show 0+1≤_;unfold roomS;omega) (Nat.le_refl _) (fun v' S' a1 a2 a3 a4=>?_)
  refine hk v' S' ?_ (fun i hi=>a2 i (hP i hi)) a4
  rcases a1 with a1|⟨id,cap,b1,b2,b3,b4⟩
  ·exact .inl a1
  ·exact .inr ⟨id,cap,b1,b2,fun hm=>by have:=hP id hm;omega,b4⟩
 ·have hid:=at_lt h2
  have hap:=app_row (j:=y33) (S:=S) (id:=id) (off:=0) (len:=es.length) (cap:=cap) (es:=es) (xs:=[e]) (x:=x) rfl (by decide) hx (by simp) hz h2 (by show(es.length+1)*32≤_;unfold roomS;omega) (by show es.length+1≤_;unfold roomS;omega) (by omega) (by
   rcases h4 with h|h
   ·exact .inl h
   ·exact .inr ⟨es.length,h,by simp⟩)
  rw[List.drop_zero,List.take_length]at hap
  refine wo hap ?_
  have hlen:(if cap=none then S.set id .dead else S).length=S.length:=by split<;>simp
  refine hk _ _ (.inr ⟨S.length,none,by simp;rfl,?_,fun hm=>by have:=hP _ hm;omega,.inl rfl⟩) (fun i hi=>?_) (by rw[List.length_append,hlen];rfl)
  ·have:=at_new (S:=(if cap=none then S.set id .dead else S)) (r:=.cells (es++[e]) true)
   rw[hlen]at this
   exact this
  ·have hil:=hP i hi
   rw[List.getElem?_append_left (by rw[hlen];exact hil)]
   split
   ·rw[List.getElem?_set,if_neg (fun e:id=i=>h3 (e▸hi))]
   ·rfl
structure St(p:Nat)(S:Zt)(ir jf ko:Nat)(F:List Nat)(vo:SV)(P:List Nat):Prop where
 r:∃lv,S[ir]?=some (.cells [rg p] lv)
 f:∃c,S[jf]?=some (.cells [.vsl (u64s F) c] true)
 o:S[ko]?=some (.cells [vo] true)
 d1:ir≠jf
 d2:ir≠ko
 d3:jf≠ko
 mr:ir∈P
 mf:jf∈P
 mo:ko∈P
 lt:∀i∈P,i<S.length
theorem St.keep{p:Nat}{S T:Zt}{ir jf ko:Nat}{F:List Nat}{vo:SV}{P:List Nat}(h:St p S ir jf ko F vo P)(hk:∀i∈P,T[i]?=S[i]?)(hl:S.length≤T.length):St p T ir jf ko F vo P where
 r:=by rw[hk ir h.mr];exact h.r
 f:=by rw[hk jf h.mf];exact h.f
 o:=by rw[hk ko h.mo];exact h.o
 d1:=h.d1
 d2:=h.d2
 d3:=h.d3
 mr:=h.mr
 mf:=h.mf
 mo:=h.mo
 lt:=fun i hi=>Nat.lt_of_lt_of_le (h.lt i hi) hl
theorem St.setF{p:Nat}{S:Zt}{ir jf ko:Nat}{F G:List Nat}{vo:SV}{P:List Nat}{c:VC}(h:St p S ir jf ko F vo P):St p (S.set jf (.cells [.vsl (u64s G) c] true)) ir jf ko G vo P where
 r:=by
  obtain⟨lv,h1⟩:=h.r
  exact⟨lv,at_ne h1 (Ne.symm h.d1)⟩
 f:=by
  obtain⟨c,h1⟩:=h.f
  exact⟨_,at_eq h1⟩
 o:=at_ne h.o h.d3
 d1:=h.d1
 d2:=h.d2
 d3:=h.d3
 mr:=h.mr
 mf:=h.mf
 mo:=h.mo
 lt:=fun i hi=>by rw[List.length_set];exact h.lt i hi
theorem St.setO{p:Nat}{S:Zt}{ir jf ko:Nat}{F:List Nat}{vo w:SV}{P:List Nat}(h:St p S ir jf ko F vo P):St p (S.set ko (.cells [w] true)) ir jf ko F w P where
 r:=by
  obtain⟨lv,h1⟩:=h.r
  exact⟨lv,at_ne h1 (Ne.symm h.d2)⟩
 f:=by
  obtain⟨c,h1⟩:=h.f
  exact⟨_,at_ne h1 (Ne.symm h.d3)⟩
 o:=at_eq h.o
 d1:=h.d1
 d2:=h.d2
 d3:=h.d3
 mr:=h.mr
 mf:=h.mf
 mo:=h.mo
 lt:=fun i hi=>by rw[List.length_set];exact h.lt i hi
theorem St.sub{p:Nat}{S:Zt}{ir jf ko:Nat}{F:List Nat}{vo:SV}{P Q:List Nat}(h:St p S ir jf ko F vo P)(hQ:∀i∈Q,i∈P)(m1:ir∈Q)(m2:jf∈Q)(m3:ko∈Q):St p S ir jf ko F vo Q:=
 ⟨h.r,h.f,h.o,h.d1,h.d2,h.d3,m1,m2,m3,fun i hi=>h.lt i (hQ i hi)⟩
def Ms(O:List ((List Nat×VC)×Nat)):List SV:=O.map fun x=>.agg [.vsl (u64s x.1.1) x.1.2,.int .i64 (x.2:Int)]
def plO(O:List ((List Nat×VC)×Nat)):List (List Nat×Nat):=O.map fun x=>(x.1.1,x.2)
theorem Ms_len{O:List ((List Nat×VC)×Nat)}:(Ms O).length=O.length:=by simp[Ms]
theorem Ms_app{O M:List ((List Nat×VC)×Nat)}:Ms (O++M)=Ms O++Ms M:=by simp[Ms]
theorem plO_app{O M:List ((List Nat×VC)×Nat)}:plO (O++M)=plO O++plO M:=by simp[plO]
theorem ld_Fc{S:Zt}{jf:Nat}{F:List Nat}{c:VC}{lv:Bool}(h:S[jf]?=some (.cells [.vsl (u64s F) c] lv)):ldS y100 S (.optr jf 0 0)=some (.vsl (u64s F) c):=ld_ext h rfl rfl rfl
def Kq(e e':En):Prop:=e' 2=e 2∧e' 3=e 3∧e' 4=e 4∧e' 8=e 8∧e' 15=e 15∧e' 16=e 16∧e' 17=e 17
theorem Kq.trans{a b c:En}(h:Kq a b)(g:Kq b c):Kq a c:=⟨g.1.trans h.1,g.2.1.trans h.2.1,g.2.2.1.trans h.2.2.1,g.2.2.2.1.trans h.2.2.2.1,g.2.2.2.2.1.trans h.2.2.2.2.1,g.2.2.2.2.2.1.trans h.2.2.2.2.2.1,g.2.2.2.2.2.2.trans h.2.2.2.2.2.2⟩
theorem out_loop{p k:Nat}{q:List Nat}{cq:VC}{ir jf ko:Nat}{vo:SV}{P:List Nat}{es:List SV}(hp:IsP p)(hp2:p≤2147483647)(hq:Mo p k q)(hk1:1≤k)(hk9:k≤9):∀(l:Nat) (m n:Nat) (F F1:List Nat) (S:Zt) (e:En) (K:X→En→Zt→Prop),F.length=l→Mo p m F→m≤9→n+m≤9→(el F1:Fx p)=el F*el q^n→
  St p S ir jf ko F vo P→ExP S vo es P→e 2=.optr ir 0 0→e 3=.optr jf 0 0→e 8=.vsl (u64s q) cq→e 9=.int .i64 (n:Int)→
  (∀(n':Nat) (G:List Nat) (S':Zt) (e':En),(∃m,Mo p m G∧m≤9)→n'≤9→(el F1:Fx p)=el G*el q^n'→¬(el q:Fx p)∣el G→St p S' ir jf ko G vo P→ExP S' vo es P→(∀i,i≠jf→S'[i]?=S[i]?)→S'.length=S.length→
   Kq e e'→e' 9=.int .i64 (n':Int)→K (.exit 2) e' S')→DenP cT 48 (.loop L62_1) e S K:=by
 intro l
 induction l using Nat.strongRecOn with
 |ind l ih=>
  intro m n F F1 S e K hl hF hm hnm hF1 hSt hE h2 h3 h8 h9 hK
  have hp1:=hp.1
  have hFl:=hF.2.1
  have hql:=hq.2.1
  have hq0:q≠[]:=fun e=>by rw[e]at hql;simp at hql
  obtain⟨lv,hr⟩:=hSt.r
  obtain⟨cF,hf⟩:=hSt.f
  refine L62_1_ok ?_
  unfold TL62_1
  rw[h2,h3,h8,h9]
  refine wo (ld_Fc hf) ?_
  simp only[len100,b_geq,ws]
  by_cases hge:q.length≤F.length
  ·rw[decide_eq_true (by omega),condP_t]
   refine wo (ld_rgI hr) ?_
   refine wo (ld_Fc hf) ?_
   refine cpu rfl rfl (f_div (by omega) (by omega) hp hp2 hq.1 hq0 fun s r c1 c2 hd=>?_)
   refine wo (x:=.vsl (u64s s) c1) rfl ?_
   refine wo (x:=.vsl (u64s r) c2) rfl ?_
   simp only[len100,b_gtr,ws]
   obtain⟨dz,dn⟩:=Pl.div_zero hp hF hq hd
   by_cases hr0:r=[]
   ·subst hr0
    rw[decide_eq_false (by simp),cf_]
    obtain⟨⟨m',hm'⟩,es'⟩:=dz rfl
    have hsz:=Pl.sz_mul hp (hm'.nz (by omega)) (hq.nz (by omega))
    rw[←es',hF.size (by omega),hm'.size (by omega),hq.size (by omega)]at hsz
    simp only[b_add,ws]
    rw[sI (by omega)]
    refine wo (store_row (e:=.vsl (u64s F) cF) (e':=.vsl (u64s s) c1) hf rfl rfl rfl rfl) ?_
    have hsl:=hm'.2.1
    refine ih s.length (by omega) m' (n+1) s F1 _ _ K rfl hm' (by omega) (by omega) ?_ hSt.setF (hE.keep (fun i hi hn=>?_)) h2 h3 h8 rfl (fun n' G S' e' a1 a2 a3 a4 a5 a6 a7 a8 a9 a10=>?_)
    ·rw[hF1,es',Pl.Rg.pow_s]
     have i1:∀s q w:Fx p,s*q*w=s*(w*q):=Pl.Rg.ind fun a=>Pl.Rg.ind fun b=>Pl.Rg.ind fun c=>Pl.Rg.eq fun x=>by grind
     exact i1 _ _ _
    ·rw[List.getElem?_set,if_neg (fun e:jf=i=>hn (e▸hSt.mf))]
    ·refine hK n' G S' e' a1 a2 a3 a4 a5 a6 (fun i hi=>?_) (by rw[a8,List.length_set]) (Kq.trans ⟨rfl,rfl,rfl,rfl,rfl,rfl,rfl⟩ a9) a10
     rw[a7 i hi,List.getElem?_set,if_neg (Ne.symm hi)]
   ·rw[decide_eq_true (by have:=List.length_pos_iff.2 hr0;omega),condP_t]
    exact hK n F S _ ⟨m,hF,hm⟩ (by omega) hF1 (dn hr0) hSt hE (fun i hi=>rfl) rfl ⟨rfl,rfl,rfl,rfl,rfl,rfl,rfl⟩ h9
  ·rw[decide_eq_false (by omega),cf_]
   exact hK n F S _ ⟨m,hF,hm⟩ (by omega) hF1 (Pl.less_ndv hp hF hq (by omega)) hSt hE (fun i hi=>rfl) rfl ⟨rfl,rfl,rfl,rfl,rfl,rfl,rfl⟩ h9
theorem ld_out{S:Zt}{ko:Nat}{vo:SV}{es:List SV}{P:List Nat}{lv:Bool}(h:S[ko]?=some (.cells [vo] lv))(hE:ExP S vo es P):ldS y28 S (.optr ko 0 0)=some vo:=by
 obtain⟨h1,h2,_⟩:=hE.one
 rw[load_row h rfl,h2]
 unfold partS
 rw[if_neg (by decide)]
 show(if oneS vo then some vo else none)=_
 rw[if_pos h1]
theorem put_out{S:Zt}{ko:Nat}{vo w:SV}{es es':List SV}{P P':List Nat}{T:Zt}(h:S[ko]?=some (.cells [vo] true))(hE:ExP T vo es P){T':Zt}(hW:ExP T' w es' P'):stS y28 S (.optr ko 0 0) w=some (S.set ko (.cells [w] true)):=by
 obtain⟨_,_,_,_,h5⟩:=hE.one
 obtain⟨g1,g2,g3,g4,_⟩:=hW.one
 rw[store_row (e:=vo) (e':=w) h rfl (by rw[g3];rfl) g4 (h5 w g1 g2)]
 rfl
theorem keep_loop{p:Nat}{Lq:List (List Nat×VC)}{cap:Option Nat}{ir jf ko rq:Nat}{F0:Fx p}{P:List Nat}{S0:Zt}{Fs:List Nat}(hp:IsP p)(hp2:p≤2147483647)(hsz:Pl.sz F0≤10)(hL:∀x∈Lq,(∃n,1≤n∧n≤9∧Mo p n x.1)∧Irr (el x.1:Fx p))(hLl:Lq.length≤9)(hrP:rq∉P) :
  ∀(m i:Nat) (F:List Nat) (O:List ((List Nat×VC)×Nat)) (vo:SV) (S:Zt) (e:En) (K:X→En→Zt→Prop),i+m=Lq.length→MInv p F0 F (plO O)→((el F:Fx p)∣el Fs)→(∀x∈Lq.take i,¬(el x.1:Fx p)∣el F)→
  St p S ir jf ko F vo (rq::P)→ir∈P→jf∈P→ko∈P→ExP S vo (Ms O) (rq::P)→S[rq]?=some (.cells (Qs Lq) true)→(∀j∈P,j≠jf→j≠ko→S[j]?=S0[j]?)→S0.length≤S.length→
  e 2=.optr ir 0 0→e 3=.optr jf 0 0→e 4=.optr ko 0 0→e 15=.osl rq 1 0 Lq.length cap→e 16=.int .i64 (Lq.length:Int)→e 17=.int .i64 (i:Int)→
  (∀(F':List Nat) (O':List ((List Nat×VC)×Nat)) (vo':SV) (S':Zt) (e':En),MInv p F0 F' (plO O')→((el F':Fx p)∣el Fs)→(∀x∈Lq,¬(el x.1:Fx p)∣el F')→St p S' ir jf ko F' vo' P→ExP S' vo' (Ms O') P→(∀j∈P,j≠jf→j≠ko→S'[j]?=S0[j]?)→S0.length≤S'.length→K (.exit 0) e' S')→
  DenP cT 48 (.loop L62_0) e S K:=by
 intro m
 have h0:0<p:=by have:=hp.1;omega
 induction m with
 |zero=>
  intro i F O vo S e K hi hM hFs hdone hSt m1 m2 m3 hE hrow hfr hlen h2 h3 h4 h15 h16 h17 hK
  refine L62_0_ok ?_
  unfold TL62_0
  rw[h16,h17]
  simp only[b_lss,ws]
  rw[decide_eq_false (by omega),cf_]
  rw[List.take_of_length_le (by omega)]at hdone
  exact hK F O vo S _ hM hFs hdone (hSt.sub (fun i hi=>List.mem_cons_of_mem _ hi) m1 m2 m3) hE.sub hfr hlen
 |succ m ih=>
  intro i F O vo S e K hi hM hFs hdone hSt m1 m2 m3 hE hrow hfr hlen h2 h3 h4 h15 h16 h17 hK
  have hil:i<Lq.length:=by omega
  obtain⟨x,hx⟩:∃x,Lq[i]?=some x:=⟨_,List.getElem?_eq_getElem hil⟩
  obtain⟨⟨k,k1,k9,hq⟩,hqi⟩:=hL x (List.mem_of_getElem? hx)
  obtain⟨mF,hF⟩:=hM.mo
  have hFd:(el F:Fx p)∣F0:=⟨_,hM.eq⟩
  have hbd:=hM.size hp
  have hF0:F0≠0:=fun e=>by rw[e,Pl.sz_zero h0]at hbd;omega
  have hmF:=Pl.dv_sz hp hFd hF0
  rw[hF.size h0]at hmF
  refine L62_0_ok ?_
  unfold TL62_0
  rw[h15,h16,h17]
  simp only[b_lss,ws]
  rw[decide_eq_true (by omega),condP_t]
  refine wo (idx_osl (j:=y100) rfl rfl (by decide) hil rfl) ?_
  rw[Nat.zero_add]
  refine wo (ld_ext hrow (Qs_get hx) rfl rfl) ?_
  refine out_loop hp hp2 hq k1 k9 F.length mF 0 F F S _ _ rfl hF (by omega) (by omega) (by rw[Pl.Rg.pow_0,Pl.Rg.mul_1]) hSt hE h2 h3 rfl rfl (fun n' G S1 e1 a1 a2 a3 a4 a5 a6 a7 a8 a9 a10=>?_)
  obtain⟨mG,hG,hmG⟩:=a1
  have q2:e1 2=.optr ir 0 0:=a9.1.trans h2
  have q3:e1 3=.optr jf 0 0:=a9.2.1.trans h3
  have q4:e1 4=.optr ko 0 0:=a9.2.2.1.trans h4
  have q8:e1 8=.vsl (u64s x.1) x.2:=a9.2.2.2.1.trans rfl
  have q15:e1 15=.osl rq 1 0 Lq.length cap:=a9.2.2.2.2.1.trans h15
  have q16:e1 16=.int .i64 (Lq.length:Int):=a9.2.2.2.2.2.1.trans h16
  have q17:e1 17=.int .i64 (i:Int):=a9.2.2.2.2.2.2.trans h17
  have hrowF:rq≠jf:=fun e=>hrP (e▸m2)
  have hrowO:rq≠ko:=fun e=>hrP (e▸m3)
  have hrow1:S1[rq]?=some (.cells (Qs Lq) true):=by rw[a7 rq hrowF];exact hrow
  have hGF:(el G:Fx p)∣el F:=⟨_,a3⟩
  have hdone1:∀y∈Lq.take (i+1),¬(el y.1:Fx p)∣el G:=fun y hy hd=>by
   rw[List.take_add_one,hx]at hy
   rcases List.mem_append.1 hy with h5|h5
   ·exact hdone y h5 (Pl.dv_trans hd hGF)
   ·simp at h5
    rw[h5]at hd
    exact a4 hd
  refine K62_1e2_ok ?_
  unfold TK62_1e2
  rw[a10,q4,q8,q17]
  simp only[b_gtr,ws]
  by_cases hn:n'=0
  ·subst hn
   rw[decide_eq_false (by simp),cf_]
   rw[Pl.Rg.pow_0,Pl.Rg.mul_1]at a3
   have hFG:F=G:=Pl.el_inj h0 hF.1 hG.1 a3
   subst hFG
   simp only[b_add,ws]
   rw[sI (by omega)]
   exact ih (i+1) F O vo S1 _ K (by omega) hM hFs hdone1 a5 m1 m2 m3 a6 hrow1 (fun j hj h6 h7=>by rw[a7 j h6];exact hfr j hj h6 h7) (by omega) q2 q3 q4 q15 q16 rfl hK
  ·rw[decide_eq_true (by omega),condP_t]
   refine wo (ld_out a5.o a6) ?_
   refine wo (x:=.agg [.vsl (u64s x.1) x.2,.int .i64 (n':Int)]) rfl ?_
   have hbs:bslS y33 1 [(0,.agg [.vsl (u64s x.1) x.2,.int .i64 (n':Int)])] S1=some (.osl S1.length 2 0 1 (some 1),S1++[.cells [.agg [.vsl (u64s x.1) x.2,.int .i64 (n':Int)]] true]):=rfl
   refine wo hbs ?_
   have hel:elemsS (S1++[.cells [.agg [.vsl (u64s x.1) x.2,.int .i64 (n':Int)]] true]) (.osl S1.length 2 0 1 (some 1))=some [.agg [.vsl (u64s x.1) x.2,.int .i64 (n':Int)]]:=by
    unfold elemsS
    simp only[at_new]
    rfl
   have hOl:O.length≤9:=by
    have:=hbd.1
    simp only[plO,List.length_map]at this
    omega
   have hE1:ExP (S1++[.cells [.agg [.vsl (u64s x.1) x.2,.int .i64 (n':Int)]] true]) vo (Ms O) (rq::P):=a6.keep (fun i hi _=>by rw[List.getElem?_append_left hi])
   refine app_exP hE1 hel rfl (by rw[Ms_len];omega) (fun i hi=>by have:=a5.lt i hi;rw[List.length_append];omega) (fun v2 S2 b1 b2 b3=>?_)
   have b1':ExP S2 v2 (Ms (O++[(x,n')])) (rq::P):=by rw[Ms_app];exact b1
   have hSt1:St p S2 ir jf ko G vo (rq::P):=a5.keep (fun i hi=>by rw[b2 i hi,List.getElem?_append_left (a5.lt i hi)]) (by rw[b3,List.length_append];omega)
   refine wo (put_out hSt1.o a6 b1') ?_
   simp only[b_add,ws]
   rw[sI (by omega)]
   have hMn:MInv p F0 G (plO (O++[(x,n')])):=by
    rw[plO_app]
    exact hM.push hp hq k1 hqi (by omega) ⟨mG,hG⟩ a3 a4
   have hrow2:(S2.set ko (.cells [v2] true))[rq]?=some (.cells (Qs Lq) true):=by
    rw[List.getElem?_set,if_neg (Ne.symm hrowO),b2 rq (List.mem_cons_self),List.getElem?_append_left (at_lt hrow1)]
    exact hrow1
   refine ih (i+1) G (O++[(x,n')]) v2 _ _ K (by omega) hMn (Pl.dv_trans hGF hFs) hdone1 hSt1.setO m1 m2 m3 (b1'.keep (fun i hi hn=>?_)) hrow2 (fun j hj h6 h7=>?_) (by rw[List.length_set,b3,List.length_append];omega) q2 q3 q4 q15 q16 rfl hK
   ·rw[List.getElem?_set,if_neg (fun e:ko=i=>hn (e▸List.mem_cons_of_mem _ m3))]
   ·rw[List.getElem?_set,if_neg (Ne.symm h7),b2 j (List.mem_cons_of_mem _ hj),List.getElem?_append_left (a5.lt j (List.mem_cons_of_mem _ hj)),a7 j h6]
    exact hfr j hj h6 h7
theorem f_found{p m d:Nat}{g:List Nat}{cg:VC}{ir jf ko:Nat}{F0:Fx p}{P:List Nat}{S:Zt}{F:List Nat}{O:List ((List Nat×VC)×Nat)}{vo:SV}{k:SV×Zt→Prop}(hp:IsP p)(hp2:p≤2147483647)(hs:Spl p m d g)(hd:d<1000)(hsz:Pl.sz F0≤10)
  (hM:MInv p F0 F (plO O)) (hSt:St p S ir jf ko F vo P) (hE:ExP S vo (Ms O) P)
  (hk:∀(F':List Nat) (O':List ((List Nat×VC)×Nat)) (vo':SV) (S':Zt) (r:SV),MInv p F0 F' (plO O')→((el F':Fx p)∣el F)→(∀q:Fx p,Irr q→q∣el g→¬q∣el F')→St p S' ir jf ko F' vo' P→ExP S' vo' (Ms O') P→(∀j∈P,j≠jf→j≠ko→S'[j]?=S[j]?)→S.length≤S'.length→k (r,S')) :
  wpO (cW cT 62 [.vsl (u64s g) cg,.int .i64 (d:Int),.optr ir 0 0,.optr jf 0 0,.optr ko 0 0] S) k:=by
 refine call_inp rfl (F62_ok (k:=fun v S=>k (v,S)) ?_)
 unfold F62
 obtain⟨lv,hr⟩:=hSt.r
 refine wo (ld_rgI hr) ?_
 refine f_split hp hp2 m d g cg S _ hs hd (fun L v1 S1 a1 a2 a3 a4=>?_)
 obtain⟨b1,b2,b3,b4⟩:=a1
 have hLn:L≠[]:=fun e=>b3 (by rw[e];rfl)
 rw[List.length_map]at b4
 have hm9:=hs.m9
 rcases a2 with⟨_,e⟩|⟨rq,cap,hv1,hrow,hrq,hcap⟩
 ·exact absurd (List.map_eq_nil_iff.1 e) hLn
 rw[Qs_len]at hv1
 subst hv1
 refine wo (len_osl rfl) ?_
 have hnP:rq∉P:=fun hm=>by have:=hSt.lt rq hm;omega
 have hSt1:St p S1 ir jf ko F vo (rq::P):=by
  have h1:=hSt.keep (T:=S1) (fun i hi=>a4 i (hSt.lt i hi)) a3
  exact⟨h1.r,h1.f,h1.o,h1.d1,h1.d2,h1.d3,List.mem_cons_of_mem _ h1.mr,List.mem_cons_of_mem _ h1.mf,List.mem_cons_of_mem _ h1.mo,fun i hi=>by
   rcases List.mem_cons.1 hi with h2|h2
   ·rw[h2];exact at_lt hrow
   ·exact h1.lt i h2⟩
 have hE1:ExP S1 vo (Ms O) (rq::P):=(hE.add hrq).keep (fun i hi _=>a4 i hi)
 refine keep_loop (Fs:=F) (S0:=S) (Lq:=L) (cap:=cap) hp hp2 hsz (fun x hx=>?_) (by omega) hnP L.length 0 F O vo S1 _ _ (by omega) hM (Pl.dv_refl _) (by simp) hSt1 hSt.mr hSt.mf hSt.mo hE1 hrow (fun j hj _ _=>a4 j (hSt.lt j hj)) a3 rfl rfl rfl rfl rfl rfl (fun F' O' vo' S' e' c1 c2 c3 c4 c5 c6 c7=>?_)
 ·obtain⟨⟨n,n1,n2,n3⟩,n4⟩:=b1 x.1 (List.mem_map.2 ⟨x,hx,rfl⟩)
  exact⟨⟨n,n1,by omega,n3⟩,n4⟩
 ·refine K62_0e0_ok ?_
  unfold TK62_0e0
  refine hk F' O' vo' S' _ c1 c2 (fun q hq hqg hqF=>?_) c4 c5 c6 c7
  rw[←b2]at hqg
  obtain⟨l,hl,hld⟩:=Pl.prE_dv hp hq _ (fun l hl=>(b1 l hl).2) hqg
  obtain⟨x,hx,rfl⟩:=List.mem_map.1 hl
  exact c3 x hx (Pl.dv_trans hld hqF)
open Pl (NoD Sqf)
def RoI(S:Zt)(v:SV)(l:List Nat)(r:Nat):Prop:=(∃c,v=.vsl (u64s l) c)∨∃cap rest lv,v=.osl r 1 0 l.length cap∧S[r]?=some (.cells (u64s l++rest) lv)
theorem RoI.fz{S:Zt}{v:SV}{l:List Nat}{r:Nat}(h:RoI S v l r):∃c,frz S dS v=some (.vsl (u64s l) c)∧∀i∈refs S dS v,i=r:=by
 rcases h with⟨c,rfl⟩|⟨cap,rest,lv,rfl,hS⟩
 ·have:=frz_pure (S:=S) (v:=.vsl (u64s l) c) rfl
  exact⟨c,this.1,by rw[this.2];intro i hi;cases hi⟩
 ·have ht:((u64s l++rest).drop 0).take l.length=u64s l:=by
   rw[List.drop_zero,←u64s_len (l:=l),List.take_left]
  obtain⟨h1,h2⟩:=frz_row (sz:=1) (cap:=cap) (off:=0) (len:=l.length) hS (by rw[List.length_append,u64s_len];omega) (by rw[ht];exact u64s_pure)
  rw[ht]at h1
  exact⟨_,h1,by rw[h2];intro i hi;simpa using hi⟩
theorem RoI.sn{S T:Zt}{v:SV}{l:List Nat}{r:Nat}(h:RoI S v l r)(hs:Sn S T):RoI T v l r:=by
 rcases h with h|⟨cap,rest,lv,rfl,hS⟩
 ·exact .inl h
 ·obtain⟨lv',h⟩:=hs _ _ _ hS
  exact .inr ⟨cap,rest,lv',rfl,h⟩
theorem call_one{cfg:Cfg}{f:FuncId}{args args':List SV}{S:Zt}{r:Nat}{k:SV×Zt→Prop}(hm:cfg.mode f=.pure)(h1:args.mapM (frz S dS)=some args')(h2:∀i∈args.flatMap (refs S dS),i=r)
  (hk:∀S',(∀i,i≠r→S'[i]?=S[i]?)→Sn S S'→S'.length=S.length→wpO (pW cfg f args') fun v=>k (v,S')):wpO (cW cfg f args S) k:=
 call_frz hm h1 (hk _ (fun i hi=>sealS_out _ _ _ (fun hm=>hi (h2 i hm))) (fun i es lv hi=>sealS_in _ _ i es lv hi) (sealS_len _ _))
theorem each_loop{p:Nat}{ir jf ko i0 i1:Nat}{F0:Fx p}{P:List Nat}{S0:Zt}{Fs:List Nat}{G:Fx p}(hp:IsP p)(hp2:p≤2147483647)(hsz:Pl.sz F0≤10)(hir:ir∈P)(hjf:jf∈P)(hko:ko∈P)(h0P:i0∉P)(h1P:i1∉P)(h01:i0≠i1) :
  ∀(n d m:Nat) (f h:List Nat) (cf:VC) (hv:SV) (F:List Nat) (O:List ((List Nat×VC)×Nat)) (vo:SV) (S:Zt) (e:En) (K:X→En→Zt→Prop),d+n=20→1≤d→Mo p m f→m≤9→Sqf (el f:Fx p)→NoD d (el f:Fx p)→Rd p h→h.length≤100→((el f:Fx p)∣el h-Pl.Rg.X _^p^(d-1))→RoI S hv h i1→
  MInv p F0 F (plO O)→((el F:Fx p)∣el Fs)→(∀q:Fx p,Irr q→q∣G→¬q∣el F∨q∣el f)→
  St p S ir jf ko F vo (i1::i0::P)→ExP S vo (Ms O) (i1::i0::P)→(∃lv,S[i0]?=some (.cells [rg p] lv))→(∃lv,S[i1]?=some (.cells (u64s [0,1]) lv))→(∀j∈P,j≠jf→j≠ko→S[j]?=S0[j]?)→S0.length≤S.length→
  e 1=.vsl (u64s f) cf→e 2=.fn 62 [] [.optr ir 0 0,.optr jf 0 0,.optr ko 0 0]→e 3=.optr i0 0 0→e 6=.osl i1 1 0 2 (some 2)→e 7=hv→e 8=.int .i64 (d:Int)→
  (∀(F':List Nat) (O':List ((List Nat×VC)×Nat)) (vo':SV) (S':Zt) (x:X) (e':En),MInv p F0 F' (plO O')→((el F':Fx p)∣el Fs)→
   (x=.ret∧(∀q:Fx p,Irr q→q∣G→¬q∣el F')∨x=.exit 0∧∃d m f cf,1≤d∧Mo p m f∧m≤9∧Sqf (el f:Fx p)∧NoD d (el f:Fx p)∧f.length≤2*d∧(∀q:Fx p,Irr q→q∣G→¬q∣el F'∨q∣el f)∧e' 1=.vsl (u64s f) cf∧e' 2=.fn 62 [] [.optr ir 0 0,.optr jf 0 0,.optr ko 0 0])→
   St p S' ir jf ko F' vo' P→ExP S' vo' (Ms O') P→(∀j∈P,j≠jf→j≠ko→S'[j]?=S0[j]?)→S0.length≤S'.length→K x e' S')→
  DenP cT 59 (.loop L61_0) e S K:=by
 intro n
 have hp1:=hp.1
 have h0:0<p:=by omega
 have P2:∀i,i∈P→i∈i1::i0::P:=fun i hi=>List.mem_cons_of_mem _ (List.mem_cons_of_mem _ hi)
 have i0j:i0≠jf:=fun e=>h0P (e▸hjf)
 have i0k:i0≠ko:=fun e=>h0P (e▸hko)
 have i1j:i1≠jf:=fun e=>h1P (e▸hjf)
 have i1k:i1≠ko:=fun e=>h1P (e▸hko)
 have mem0:i0∈i1::i0::P:=List.mem_cons_of_mem _ (List.mem_cons_self)
 have mem1:i1∈i1::i0::P:=List.mem_cons_self
 induction n with
 |zero=>
  intro d m f h cf hv F O vo S e K hd hd1 hf hm9 hsq hno hhr hhl hhc hho hM hFs hcov hSt hE hr0 hr1 hfr hlen g1 g2 g3 g6 g7 g8 hK
  have hfl:=hf.2.1
  refine L61_0_ok ?_
  unfold TL61_0
  rw[g1,g8]
  simp only[len100,b_mul,b_gtr,ws]
  rw[wrap64 (by omega) (by omega),decide_eq_false (by omega),cf_]
  exact hK F O vo S _ _ hM hFs (.inr ⟨rfl,d,m,f,cf,hd1,hf,hm9,hsq,hno,by omega,hcov,g1,g2⟩) (hSt.sub P2 hir hjf hko) hE.sub.sub hfr hlen
 |succ n ih=>
  intro d m f h cf hv F O vo S e K hd hd1 hf hm9 hsq hno hhr hhl hhc hho hM hFs hcov hSt hE hr0 hr1 hfr hlen g1 g2 g3 g6 g7 g8 hK
  have hfl:=hf.2.1
  have hf0:f≠[]:=fun e=>by rw[e]at hfl;simp at hfl
  refine L61_0_ok ?_
  unfold TL61_0
  rw[g1,g2,g3,g6,g7,g8]
  simp only[len100,b_mul,b_gtr,ws]
  rw[wrap64 (by omega) (by omega)]
  by_cases hlt:2*d<f.length
  ·rw[decide_eq_true (by omega),condP_t]
   obtain⟨lv0,hS0⟩:=hr0
   obtain⟨lv1,hS1⟩:=hr1
   refine wo (ld_rgI hS0) ?_
   refine wo (x:=.optr i0 0 0) rfl ?_
   refine wo (ld_pI hS0) ?_
   obtain⟨ch,hf1,hf2⟩:=hho.fz
   have z1:=frz_pure (S:=S) (v:=rg p) rfl
   have z2:=frz_pure (S:=S) (v:=.int .u64 (p:Int)) rfl
   have z3:=frz_pure (S:=S) (v:=.vsl (u64s f) cf) rfl
   refine call_one (r:=i1) (args':=[rg p,.vsl (u64s h) ch,.int .u64 (p:Int),.vsl (u64s f) cf]) rfl (by simp only[List.mapM_cons,z1.1,hf1,z2.1,z3.1,List.mapM_nil];rfl) (by
    simp only[List.flatMap_cons,z1.2,z2.2,z3.2,List.flatMap_nil,List.append_nil,List.nil_append]
    exact hf2) (fun S1 k1 k2 k3=>?_)
   refine f_pow hp hp2 hf.1 hf0 (by omega) (by omega) (by omega) fun w cw hw hlw ew=>?_
   have hS01:S1[i0]?=some (.cells [rg p] lv0):=by rw[k1 i0 h01];exact hS0
   refine wo (ld_rgI hS01) ?_
   refine wo (ld_rgI hS01) ?_
   obtain⟨lv1',hS11⟩:=k2 _ _ _ hS1
   have hxo:RoI S1 (.osl i1 1 0 2 (some 2)) [0,1] i1:=.inr ⟨some 2,[],lv1',rfl,by rw[List.append_nil];exact hS11⟩
   obtain⟨cx,hx1,hx2⟩:=hxo.fz
   have y1:=frz_pure (S:=S1) (v:=rg p) rfl
   have y2:=frz_pure (S:=S1) (v:=.vsl (u64s w) cw) rfl
   refine call_one (r:=i1) (args':=[rg p,.vsl (u64s w) cw,.vsl (u64s [0,1]) cx]) rfl (by simp only[List.mapM_cons,y1.1,hx1,y2.1,List.mapM_nil];rfl) (by
    simp only[List.flatMap_cons,y1.2,y2.2,List.flatMap_nil,List.append_nil,List.nil_append]
    exact hx2) (fun S2 l1 l2 l3=>?_)
   refine f_sub (b:=[0,1]) (by omega) (by decide) (by omega) hp2 hw.1 (by intro x hx;simp at hx;omega) fun s cs hs hls es=>?_
   refine cpu rfl rfl (f_gcd (by omega) (by simp at hls;omega) hp hp2 hf.1 hs fun g cg hg=>?_)
   have hl2:S2.length=S.length:=Eq.trans l3 k3
   have keep2:∀i,i≠i1→S2[i]?=S[i]?:=fun i hi=>(l1 i hi).trans (k1 i hi)
   have hS02:S2[i0]?=some (.cells [rg p] lv0):=by rw[l1 i0 h01];exact hS01
   obtain⟨lv2,hS12⟩:=l2 _ _ _ hS11
   have ew2:(el f:Fx p)∣el w-Pl.Rg.X _^p^d:=by
    have:=Pl.cg_pow hhc p
    rw[Pl.pow_pp,show d-1+1=d by omega]at this
    exact Pl.cg_trans ew this
   have gc:=Pl.el_gcd hg
   rw[Pl.el_subN es,el_X]at gc
   have hfz:=hf.nz h0
   have hgz:(el g:Fx p)≠0:=fun e=>by
    obtain⟨c,hc⟩:=gc.left
    rw[e,Pl.Rg.zero_m]at hc;exact hfz hc
   obtain⟨mg,hgm⟩:∃n,Mo p n g:=by
    rcases hg.mo with h5|h5
    ·rw[h5,Pl.el_nil]at hgz;exact absurd rfl hgz
    ·exact h5
   have hgl:=hgm.2.1
   have hSt2:St p S2 ir jf ko F vo (i1::i0::P):=by
    have kk:∀i∈P,S2[i]?=S[i]?:=fun i hi=>keep2 i (fun e=>h1P (e▸hi))
    refine⟨?_,?_,?_,hSt.d1,hSt.d2,hSt.d3,hSt.mr,hSt.mf,hSt.mo,fun i hi=>by rw[hl2];exact hSt.lt i hi⟩
    ·rw[kk ir hir];exact hSt.r
    ·rw[kk jf hjf];exact hSt.f
    ·rw[kk ko hko];exact hSt.o
   have hE2:ExP S2 vo (Ms O) (i1::i0::P):=hE.keep (fun i hi hn=>keep2 i (fun e=>hn (e▸mem1)))
   have hfr2:∀j∈P,j≠jf→j≠ko→S2[j]?=S0[j]?:=fun j hj a b=>by rw[keep2 j (fun e=>h1P (e▸hj))];exact hfr j hj a b
   simp only[len100,b_gtr,ws]
   by_cases hg1:1<g.length
   ·rw[decide_eq_true (by omega),condP_t]
    obtain⟨ql,rl,hql⟩:∃q' r',IsDiv p (en f) g q' r':=by
     obtain⟨s',t',es',ht'⟩:=Pl.fx_divide hp hgz (el f)
     obtain⟨sl,sl1,rfl⟩:=Pl.el_surj h0 s'
     obtain⟨tl,tl1,rfl⟩:=Pl.el_surj h0 t'
     refine⟨sl,tl,sl1,tl1,(Pl.fx_eq (a:=⟨en f,PF.en f⟩) (b:=Pl.Pf.add (Pl.Pf.mul ⟨en sl,PF.en sl⟩ ⟨en g,PF.en g⟩) ⟨en tl,PF.en tl⟩)).1 es',?_⟩
     rw[Pl.sz_el h0 tl1,Pl.sz_el h0 hgm.1]at ht'
     exact ht'
    have exact_div:∀q r,IsDiv p (en f) g q r→(el f:Fx p)=el q*el g∧∃mq,Mo p mq q∧mq+mg=m:=fun q r hq=>by
     have e1:=Pl.el_div hq
     have hr0:(el r:Fx p)=0:=Classical.byContradiction fun hn2=>by
      have hdv:(el g:Fx p)∣el r:=by
       have i1:∀a b c:Fx p,c=(a*b+c)-b*a:=Pl.Rg.ind fun a=>Pl.Rg.ind fun b=>Pl.Rg.ind fun c=>Pl.Rg.eq fun x=>by grind
       rw[i1 (el q) (el g) (el r),←e1]
       exact Pl.dv_sub gc.left (Pl.dv_l _ _)
      have:=Pl.dv_sz hp hdv hn2
      rw[hgm.size h0,Pl.sz_el h0 hq.hr]at this
      have:=hq.less
      omega
     rw[hr0,Pl.Rg.add_0]at e1
     obtain⟨b1,b2⟩:=Pl.mo_quo hp hf hgm hq.hq e1
     exact⟨e1,m-mg,b2,by omega⟩
    obtain⟨e1,mq1,hmq1,hmm⟩:=exact_div ql rl hql
    obtain⟨s1,s2,s3,s4⟩:=Pl.ddf_step hp hd1 hfz hsq hno ew2 gc (w:=el ql) (by rw[e1,Pl.Rg.mul_c])
    have hspl:Spl p mg d g:=⟨hgm,by omega,by omega,hd1,s1,s2⟩
    show wpO (cW cT 62 [.vsl (u64s g) cg,.int .i64 (d:Int),.optr ir 0 0,.optr jf 0 0,.optr ko 0 0] S2) _
    refine f_found hp hp2 hspl (by omega) hsz hM hSt2 hE2 (fun F' O' vo' S3 r a1 a2 a3 a4 a5 a6 a7=>?_)
    have hS03:S3[i0]?=some (.cells [rg p] lv0):=by rw[a6 i0 mem0 i0j i0k];exact hS02
    have hS13:S3[i1]?=some (.cells (u64s [0,1]) lv2):=by rw[a6 i1 mem1 i1j i1k];exact hS12
    have hfr3:∀j∈P,j≠jf→j≠ko→S3[j]?=S0[j]?:=fun j hj a b=>by rw[a6 j (P2 j hj) a b];exact hfr2 j hj a b
    have hlen3:S0.length≤S3.length:=by omega
    refine wo (ld_rgI hS03) ?_
    have hg0:g≠[]:=fun e=>by rw[e]at hg1;simp at hg1
    refine cpu rfl rfl (f_quo (by omega) (by omega) hp hp2 hgm.1 hg0 fun q r cq hq=>?_)
    obtain⟨e2,mq,hmq,hmm2⟩:=exact_div q r hq
    have hqq:q=ql:=Pl.el_inj h0 hmq.1 hmq1.1 (Pl.fx_cancel hp hgz (by rw[Pl.Rg.mul_c,←e2,e1,Pl.Rg.mul_c]))
    subst hqq
    have hqlen:=hmq.2.1
    have cov:∀x:Fx p,Irr x→x∣G→¬x∣el F'∨x∣el q:=fun x hx hxG=>by
     rcases hcov x hx hxG with h5|h5
     ·exact .inl (fun hd=>h5 (Pl.dv_trans hd a2))
     ·rw[e2]at h5
      rcases hx.prime hp h5 with h6|h6
      ·exact .inr h6
      ·exact .inl (a3 x hx h6)
    simp only[len100,b_lss,ws]
    by_cases hq2:q.length<2
    ·rw[decide_eq_true (by omega),condP_t]
     refine hK F' O' vo' S3 _ _ a1 (Pl.dv_trans a2 hFs) (.inl ⟨rfl,fun x hx hxG=>?_⟩) (a4.sub P2 hir hjf hko) a5.sub.sub hfr3 hlen3
     rcases cov x hx hxG with h5|h5
     ·exact h5
     ·exfalso
      have:=Pl.dv_sz hp h5 (hmq.nz h0)
      rw[hmq.size h0]at this
      have:=hx.1
      omega
    ·rw[decide_eq_false (by omega),cf_]
     refine wo (ld_rgI hS03) ?_
     have hq0:q≠[]:=fun e=>by rw[e]at hq2;simp at hq2
     refine cpu rfl rfl (f_rem (by omega) (by omega) hp hp2 hmq.1 hq0 fun q3 r3 c3 hd3=>?_)
     simp only[b_add,ws]
     rw[sI (by omega)]
     have hqf:(el q:Fx p)∣el f:=⟨el g,e2⟩
     exact ih (d+1) mq q r3 cq (.vsl (u64s r3) c3) F' O' vo' S3 _ K (by omega) (by omega) hmq (by omega) s3 s4 hd3.hr (by have:=hd3.less;omega) (by
      rw[Nat.add_sub_cancel]
      exact Pl.cg_trans (Pl.cg_rem hd3) (Pl.dv_trans hqf ew2)) (.inl ⟨c3,rfl⟩) a1 (Pl.dv_trans a2 hFs) cov a4 a5 ⟨lv0,hS03⟩ ⟨lv2,hS13⟩ hfr3 hlen3 rfl g2 g3 g6 rfl rfl hK
   ·rw[decide_eq_false (by omega),cf_]
    have hg1':g=[1]:=by
     have:mg=0:=by omega
     subst this
     exact hgm.zero
    have hg1e:(el g:Fx p)=1:=by rw[hg1',Pl.el_one]
    obtain⟨_,_,_,s4⟩:=Pl.ddf_step hp hd1 hfz hsq hno ew2 gc (w:=el f) (by rw[hg1e,Pl.Rg.one_m])
    simp only[b_add,ws]
    rw[sI (by omega)]
    exact ih (d+1) m f w cf (.vsl (u64s w) cw) F O vo S2 _ K (by omega) (by omega) hf hm9 hsq s4 hw (by omega) (by rw[Nat.add_sub_cancel];exact ew2) (.inl ⟨cw,rfl⟩) hM hFs hcov hSt2 hE2 ⟨lv0,hS02⟩ ⟨lv2,hS12⟩ hfr2 (by omega) g1 g2 g3 g6 rfl rfl hK
  ·rw[decide_eq_false (by omega),cf_]
   exact hK F O vo S _ _ hM hFs (.inr ⟨rfl,d,m,f,cf,hd1,hf,hm9,hsq,hno,by omega,hcov,g1,g2⟩) (hSt.sub P2 hir hjf hko) hE.sub.sub hfr hlen
theorem f_each{p m:Nat}{f:List Nat}{cf:VC}{ir jf ko:Nat}{F0:Fx p}{P:List Nat}{S:Zt}{F:List Nat}{O:List ((List Nat×VC)×Nat)}{vo:SV}{k:SV×Zt→Prop}(hp:IsP p)(hp2:p≤2147483647)(hf:Mo p m f)(hm1:1≤m)(hm9:m≤9)(hsq:Sqf (el f:Fx p))(hsz:Pl.sz F0≤10)
  (hM:MInv p F0 F (plO O)) (hSt:St p S ir jf ko F vo P) (hE:ExP S vo (Ms O) P)
  (hk:∀(F':List Nat) (O':List ((List Nat×VC)×Nat)) (vo':SV) (S':Zt) (r:SV),MInv p F0 F' (plO O')→((el F':Fx p)∣el F)→(∀q:Fx p,Irr q→q∣el f→¬q∣el F')→St p S' ir jf ko F' vo' P→ExP S' vo' (Ms O') P→(∀j∈P,j≠jf→j≠ko→S'[j]?=S[j]?)→S.length≤S'.length→k (r,S')) :
  wpO (cW cT 61 [rg p,.vsl (u64s f) cf,.fn 62 [] [.optr ir 0 0,.optr jf 0 0,.optr ko 0 0]] S) k:=by
 have hp1:=hp.1
 have h0:0<p:=by omega
 have hfl:=hf.2.1
 refine call_inp rfl (F61_ok (k:=fun v S=>k (v,S)) ?_)
 unfold F61
 refine wo (x:=(.optr S.length 0 0,S++[.cells [rg p] true])) rfl ?_
 refine wo (x:=(.osl (S++[Row.cells [rg p] true]).length 1 0 2 (some 2),(S++[Row.cells [rg p] true])++[.cells (u64s [0,1]) true])) rfl ?_
 have hl1:(S++[Row.cells [rg p] true]).length=S.length+1:=by simp
 rw[hl1]
 have r0:((S++[Row.cells [rg p] true])++[Row.cells (u64s [0,1]) true])[S.length]?=some (.cells [rg p] true):=at_app at_new
 have r1:((S++[Row.cells [rg p] true])++[Row.cells (u64s [0,1]) true])[S.length+1]?=some (.cells (u64s [0,1]) true):=by
  have:=at_new (S:=S++[Row.cells [rg p] true]) (r:=.cells (u64s [0,1]) true)
  rwa [hl1]at this
 have keep:∀i,i<S.length→((S++[Row.cells [rg p] true])++[Row.cells (u64s [0,1]) true])[i]?=S[i]?:=fun i hi=>by
  rw[List.getElem?_append_left (by rw[hl1];omega),List.getElem?_append_left hi]
 have n0:S.length∉P:=fun hm=>by have:=hSt.lt _ hm;omega
 have n1:S.length+1∉P:=fun hm=>by have:=hSt.lt _ hm;omega
 have hSt1:St p ((S++[Row.cells [rg p] true])++[Row.cells (u64s [0,1]) true]) ir jf ko F vo ((S.length+1)::S.length::P):=by
  have h1:=hSt.keep (T:=(S++[Row.cells [rg p] true])++[Row.cells (u64s [0,1]) true]) (fun i hi=>keep i (hSt.lt i hi)) (by simp)
  exact⟨h1.r,h1.f,h1.o,h1.d1,h1.d2,h1.d3,List.mem_cons_of_mem _ (List.mem_cons_of_mem _ h1.mr),List.mem_cons_of_mem _ (List.mem_cons_of_mem _ h1.mf),List.mem_cons_of_mem _ (List.mem_cons_of_mem _ h1.mo),fun i hi=>by
   rcases List.mem_cons.1 hi with h2|h2
   ·rw[h2];simp
   ·rcases List.mem_cons.1 h2 with h3|h3
    ·rw[h3];simp
    ·exact h1.lt i h3⟩
 have hE1:ExP ((S++[Row.cells [rg p] true])++[Row.cells (u64s [0,1]) true]) vo (Ms O) ((S.length+1)::S.length::P):=
  ((hE.add (Nat.le_refl _)).add (by omega)).keep (fun i hi _=>keep i hi)
 refine each_loop (Fs:=F) (G:=el f) (S0:=S) (i0:=S.length) (i1:=S.length+1) hp hp2 hsz hSt.mr hSt.mf hSt.mo n0 n1 (by omega) 19 1 m f [0,1] cf _ F O vo _ _ _ (by omega) (Nat.le_refl _) hf hm9 hsq (fun q hq _=>hq.1) ⟨fun d hd=>by simp at hd;omega,fun d hd=>by simp at hd;omega⟩ (by decide) (by
  rw[Nat.sub_self,Nat.pow_zero,Pl.Rg.pow_1,el_X];exact Pl.cg_refl _ _) (.inr ⟨some 2,[],true,rfl,by rw[List.append_nil];exact r1⟩) hM (Pl.dv_refl _) (fun q _ h=>.inr h) hSt1 hE1 ⟨true,r0⟩ ⟨true,r1⟩ (fun j hj _ _=>keep j (hSt.lt j hj)) (by simp) rfl rfl rfl rfl rfl rfl (fun F' O' vo' S' x e' a1 a2 a3 a4 a5 a6 a7=>?_)
 rcases a3 with⟨rfl,a3⟩|⟨rfl,d,m',f',cf',b1,b2,b3,b4,b5,b6,b7,b8,b9⟩
 ·refine K61_0r_ok ?_
  unfold TK61_0r
  exact hk F' O' vo' S' _ a1 a2 a3 a4 a5 a6 a7
 ·refine K61_0e0_ok ?_
  unfold TK61_0e0
  rw[b8,b9]
  simp only[len100,b_gtr,ws]
  have hfl':=b2.2.1
  by_cases hl:1<f'.length
  ·rw[decide_eq_true (by omega),condP_t]
   simp only[b_sub,ws]
   rw[wrap64 (by omega) (by omega),show(f'.length:Int)-1=((m':Nat):Int)by omega]
   have hir:Irr (el f':Fx p):=Pl.last_irr hp b5 (by rw[b2.size h0];omega) (by rw[b2.size h0];omega)
   have hspl:Spl p m' m' f':=⟨b2,by omega,b3,by omega,fun q hq hd=>by
    have h1:=Pl.dv_sz hp (hq.eq_dv hp hir hd) (hq.nz hp)
    have h2:=Pl.dv_sz hp hd (b2.nz h0)
    rw[b2.size h0]at h1 h2
    omega,b4⟩
   show wpO (cW cT 62 [.vsl (u64s f') cf',.int .i64 (m':Int),.optr ir 0 0,.optr jf 0 0,.optr ko 0 0] S') _
   refine f_found hp hp2 hspl (by omega) hsz a1 a4 a5 (fun F2 O2 vo2 S2 r c1 c2 c3 c4 c5 c6 c7=>?_)
   refine hk F2 O2 vo2 S2 _ c1 (Pl.dv_trans c2 a2) (fun q hq hqf=>?_) c4 c5 (fun j hj h1 h2=>by rw[c6 j hj h1 h2];exact a6 j hj h1 h2) (by omega)
   rcases b7 q hq hqf with h5|h5
   ·exact fun hd=>h5 (Pl.dv_trans hd c2)
   ·exact c3 q hq h5
  ·rw[decide_eq_false (by omega),cf_]
   refine hk F' O' vo' S' _ a1 a2 (fun q hq hqf=>?_) a4 a5 a6 a7
   rcases b7 q hq hqf with h5|h5
   ·exact h5
   ·exfalso
    have:=Pl.dv_sz hp h5 (b2.nz h0)
    rw[b2.size h0]at this
    have:=hq.1
    omega
end Go.Proofs
