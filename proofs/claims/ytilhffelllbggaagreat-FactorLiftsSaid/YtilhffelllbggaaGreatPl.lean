/-
  The law's own functions (2): it is true for all arguments.
-/
import Derived.Test.YtilhffelllbggaaGreatPk
import Derived.Test.YtilhffelllbggaaGreatLc
set_option linter.unusedVariables false
set_option linter.unusedSimpArgs false
set_option maxRecDepth 10000
namespace Go.Proofs
open Go.Sh
open Pl (cf ev trI nearZ nearL IsP Rd Cg en tm red nv mulL Mo MoI PF PD Bz Cop IsGcd prN dsum)
structure OkL(p:Nat)(L:List (List Nat×VC))(F:List Int)(f:List (Int×VC))(j:Nat):Prop where
 mo:∀q∈L,∃n,1≤n∧n≤2∧Mo p n q.1
 len:L.length≤j
 cop:Cop p (L.map (·.1))
 fm:MoI (dsum (L.map (·.1))) F
 fe:∀x,ev F x=prN (L.map (·.1)) x
 zl:Zl f F (1+20*j)
 ds:dsum (L.map (·.1))≤2*j
theorem OkL.mono{p:Nat}{L:List (List Nat×VC)}{F:List Int}{f:List (Int×VC)}{j i:Nat}(h:OkL p L F f j)(hj:j≤i):OkL p L F f i:=
 ⟨h.mo,by have:=h.len;omega,h.cop,h.fm,h.fe,h.zl.mono (by omega),by have:=h.ds;omega⟩
theorem dsum_snoc(L:List (List Nat))(l:List Nat):dsum (L++[l])=dsum L+(l.length-1):=by
 induction L with
 |nil=>simp[dsum]
 |cons a r ih=>simp only[List.cons_append,dsum,ih];omega
theorem cop_snoc{p:Nat}{L:List (List Nat)}{l:List Nat}(h:Cop p L)(hb:Bz p (en l) (prN L)):Cop p (L++[l]):=by
 intro i m hm
 by_cases hi:i<L.length
 ·rw[List.getElem?_append_left hi]at hm
  rw[List.take_append_of_le_length (by omega)]
  exact h i m hm
 ·have h1:=(List.getElem?_eq_some_iff.1 hm).1
  simp at h1
  have:i=L.length:=by omega
  subst this
  rw[List.getElem?_append_right (Nat.le_refl _),Nat.sub_self]at hm
  cases hm
  rw[List.take_left]
  exact hb
theorem moI_nv{p n:Nat}{g:List Nat}(h:Mo p n g):MoI n (nv g):=⟨by rw[Pl.nv_len,h.2.1],by rw[Pl.cf_nv,h.2.2];rfl⟩
theorem OkL.snoc{p n j:Nat}{L:List (List Nat×VC)}{F:List Int}{f r:List (Int×VC)}{g pr:List Nat}(h:OkL p L F f j)(hn1:1≤n)(hn2:n≤2)(hg:Mo p n g)(hb:Bz p (en g) (en pr))(hc:Cg p (en pr) (prN (L.map (·.1))))
  (hr:Zl r (trI (mulL F (nv g))) (1+20*(j+1))):OkL p (L++[(g,.exact)]) (mulL F (nv g)) r (j+1):=by
 have hm:=h.fm.mul (moI_nv hg)
 have lg:=hg.2.1
 rw[Pl.trI_mo hm]at hr
 have em:(L++[(g,VC.exact)]).map (·.1)=L.map (·.1)++[g]:=by simp
 refine⟨?_,by have:=h.len;simp;omega,?_,?_,?_,hr,?_⟩
 ·intro q hq
  rcases List.mem_append.1 hq with hq|hq
  ·exact h.mo q hq
  ·simp at hq;subst hq;exact⟨n,hn1,hn2,hg⟩
 ·rw[em]
  exact cop_snoc h.cop (hb.congr (PF.en _) (PF.en _) hc.symm)
 ·rw[em,dsum_snoc,lg,Nat.add_sub_cancel]
  exact hm
 ·intro x
  rw[em,Pl.ev_mulL,Pl.prN_snoc,h.fe]
  rfl
 ·rw[em,dsum_snoc]
  have:=h.ds
  omega
def RoI(S:Zt)(v:SV)(l:List Nat):Prop:=(∃c,v=.vsl (u64s l) c)∨∃lv,v=.osl 3 1 0 l.length (some l.length)∧S[3]?=some (.cells (u64s l) lv)
theorem RoI.fz{S:Zt}{v:SV}{l:List Nat}{P:Nat→Prop}(h:RoI S v l)(hP:P 3):∃c,FzP S P v (.vsl (u64s l) c):=by
 rcases h with⟨c,rfl⟩|⟨lv,rfl,h⟩
 ·exact⟨c,fzp_pure rfl⟩
 ·exact⟨_,fzp_row h hP⟩
theorem RoI.sn{S T:Zt}{v:SV}{l:List Nat}(h:RoI S v l)(hs:Sn S T):RoI T v l:=by
 rcases h with h|⟨lv,h1,h2⟩
 ·exact .inl h
 ·obtain⟨lv',h3⟩:=hs _ _ _ h2
  exact .inr ⟨lv',h1,h3⟩
structure Inv(p j b:Nat)(l:List Int)(c:VC)(e:En)(S:Zt)(L:List (List Nat×VC))(F:List Int)(f:List (Int×VC))(pr:List Nat):Prop where
 e0:e 0=.vsl (i8s l) c
 e4:e 4=.optr 0 0 0
 e5:e 5=.optr 2 0 0
 e7:e 7=.int .i64 ((2*j:Nat):Int)
 e6:RoI S (e 6) pr
 s0:∃x y z,S[0]?=some (.cells [.agg [x,y,z]] true)
 s2:∃cf Lv,S[2]?=some (.cells [.agg [.vsl (Is f) cf,Lv,.int .u64 (p:Int)]] true)∧NL S Lv L b
 hb:4≤b
 ok:OkL p L F f j
 pr1:Rd p pr
 pr2:pr.length≤2*j+1
 pr3:Cg p (en pr) (prN (L.map (·.1)))
theorem ld_f2{S:Zt}{a b:SV}{p:Nat}{lv:Bool}(h:S[2]?=some (.cells [.agg [a,b,.int .u64 (p:Int)]] lv)):ldS y25 S (.optr 2 0 2)=some (.int .u64 (p:Int)):=by rw[load_row h rfl];rfl
theorem ld_f1{S:Zt}{a b c:SV}{lv:Bool}(h:S[2]?=some (.cells [.agg [a,b,c]] lv))(hb:oneS b=true):ldS y60 S (.optr 2 0 1)=some b:=by
 rw[load_row h rfl]
 show(if oneS b=true then some b else none)=some b
 rw[if_pos hb]
theorem ld_f0{S:Zt}{a b c:SV}{lv:Bool}(h:S[2]?=some (.cells [.agg [a,b,c]] lv))(ha:oneS a=true):ldS y57 S (.optr 2 0 0)=some a:=by
 rw[load_row h rfl]
 show(if oneS a=true then some a else none)=some a
 rw[if_pos ha]
theorem oneS_flat{v:SV}(h:oneS v=true):v.n=1∧flatS v=true:=by
 cases v<;>first|(exact⟨rfl,rfl⟩)|(cases h)
theorem cells_one{v:SV}(h:oneS v=true):v.cells=[v]:=by
 cases v<;>first|rfl|(cases h)
theorem st_f1{S:Zt}{a b c v:SV}(h:S[2]?=some (.cells [.agg [a,b,c]] true))(hv:oneS v=true):stS y60 S (.optr 2 0 1) v=some (S.set 2 (.cells [.agg [a,v,c]] true)):=by
 rw[store_row (e':=.agg [a,v,c]) h rfl (oneS_flat hv).1 (oneS_flat hv).2 (by unfold putPart spliceS;rw[cells_one hv];rfl)]
 rfl
theorem st_f0{S:Zt}{a b c v:SV}(h:S[2]?=some (.cells [.agg [a,b,c]] true))(hv:oneS v=true):stS y57 S (.optr 2 0 0) v=some (S.set 2 (.cells [.agg [v,b,c]] true)):=by
 rw[store_row (e':=.agg [v,b,c]) h rfl (oneS_flat hv).1 (oneS_flat hv).2 (by unfold putPart spliceS;rw[cells_one hv];rfl)]
 rfl
theorem NL.keep2{S T:Zt}{v:SV}{L:List (List Nat×VC)}{b:Nat}(h:NL S v L b)(hs:Sn S T)(hk:∀id s o n c,v=.osl id s o n c→T[id]?=S[id]?):NL T v L b:=by
 rcases h with h|⟨id,es,h1,h2,h3,h4,h5,h6⟩
 ·exact .inl h
 ·refine .inr ⟨id,es,h1,by rw[hk id _ _ _ _ h1];exact h2,h3,h4,h5,fun i x q hx hq=>?_⟩
  obtain⟨a1,g,lv,a2,a3,a4,a5,a6⟩:=h6 i x q hx hq
  obtain⟨lv',h7⟩:=hs _ _ _ a3
  exact⟨a1,g,lv',a2,h7,a4,a5,a6⟩
theorem lifts_join{p j b:Nat}{l:List Int}{c:VC}{e:En}{S:Zt}{L:List (List Nat×VC)}{F:List Int}{f:List (Int×VC)}{pr gl:List Nat}{n gid:Nat}{lv:Bool}{k:X→En→Zt→Prop}
  (hp:IsP p) (hp2:p≤2147483647) (hI:Inv p j b l c e S L F f pr) (hj:j<5) (h8:e 8=.osl gid 1 0 gl.length (some gl.length)) (hg:S[gid]?=some (.cells (u64s gl) lv)) (hbg:b≤gid) (hn1:1≤n) (hn2:n≤2) (hM:Mo p n gl)
  (hk:∀(e':En) (S':Zt) L' F' f' pr',Inv p (j+1) S'.length l c e' S' L' F' f' pr'→DenP cT 91 (.loop L34_0) e' S' k):TK34_1n e S k:=by
 have hp1:=hp.1
 obtain⟨e0,e4,e5,e7,e6,⟨x0,y0,z0,s0⟩,⟨cf0,Lv,s2,hNL⟩,hb4,ok,pr1,pr2,pr3⟩:=hI
 have lg:=hM.2.1
 have hLn:=ok.len
 have hgl:=at_lt hg
 have step7:wrS .i64 (((2*j:Nat):Int)+2)=((2*(j+1):Nat):Int):=by rw[wrap64 (by omega) (by omega)];omega
 unfold TK34_1n
 rw[e5,h8]
 refine wo (x:=.optr 2 0 2) rfl ?_
 refine wo (ld_f2 s2) ?_
 obtain⟨cp,hfp⟩:=e6.fz (P:=fun i=>i=3∨i=gid) (.inl rfl)
 refine call_ex3 rfl (fzp_row hg (.inr rfl)) hfp (fzp_pure rfl) (fun S1 hk1 hs1 hl1=>?_)
 have hkP:∀i,i≠3→i≠gid→S1[i]?=S[i]?:=fun i h3 h4=>hk1 i (by simp only[not_or];exact⟨h3,h4⟩)
 have s0':S1[0]?=_:=(hkP 0 (by decide) (by omega)).trans s0
 have s2':S1[2]?=_:=(hkP 2 (by decide) (by omega)).trans s2
 have hNL1:NL S1 Lv L b:=hNL.keep (fun i h4 hb=>hkP i (by omega) (by omega)) (Nat.le_refl _)
 have e6':=e6.sn hs1
 refine r_gcd (by omega) (by omega) hp hp2 hM.1 pr1 (fun gg c' hgg=>?_)
 refine wo (len22 gg c') ?_
 simp only[b_eql,ws]
 by_cases h1:(gg.length:Int)=1
 ·rw[decide_eq_true h1,condP_t]
  have hbz:=hgg.bz (by omega)
  refine wo (x:=.optr 2 0 2) rfl ?_
  refine wo (ld_f2 s2') ?_
  obtain⟨lv1,hg1⟩:=hs1 _ _ _ hg
  obtain⟨cp1,hfp1⟩:=e6'.fz (P:=fun i=>i=3∨i=gid) (.inl rfl)
  refine call_ex3 rfl hfp1 (fzp_row hg1 (.inr rfl)) (fzp_pure rfl) (fun S2 hk2 hs2 hl2=>?_)
  have hkP2:∀i,i≠3→i≠gid→S2[i]?=S1[i]?:=fun i h3 h4=>hk2 i (by simp only[not_or];exact⟨h3,h4⟩)
  have s02:S2[0]?=_:=(hkP2 0 (by decide) (by omega)).trans s0'
  have s22:S2[2]?=_:=(hkP2 2 (by decide) (by omega)).trans s2'
  have hNL2:NL S2 Lv L b:=hNL1.keep (fun i h4 hb=>hkP2 i (by omega) (by omega)) (Nat.le_refl _)
  refine r_mul (by omega) (by omega) hp2 pr1.1 hM.1.1 (fun r cr hr hrl hrc=>?_)
  refine wo (x:=.optr 2 0 1) rfl ?_
  refine wo (ld_f1 s22 hNL2.one) ?_
  obtain⟨lv2,hg2⟩:=hs2 _ _ _ hg1
  refine NL.push hNL2 hb4 hg2 hbg (by omega) (fun pp v' S3 hNL3 hv' _ _ hlow hg3=>?_)
  have s03:S3[0]?=_:=(hlow 0 (by decide)).trans s02
  have s23:S3[2]?=_:=(hlow 2 (by decide)).trans s22
  refine wo (x:=.optr 2 0 1) rfl ?_
  refine wo (st_f1 s23 hv') ?_
  have s04:=at_ne (x:=.cells [.agg [.vsl (Is f) cf0,v',.int .u64 (p:Int)]] true) s03 (show 2≠0 by decide)
  have s24:=at_eq (x:=.cells [.agg [.vsl (Is f) cf0,v',.int .u64 (p:Int)]] true) s23
  have hNL4:NL (S3.set 2 (.cells [.agg [.vsl (Is f) cf0,v',.int .u64 (p:Int)]] true)) v' (L++[(gl,.exact)]) S3.length:=hNL3.keep (fun i h4 hb=>by rw[List.getElem?_set,if_neg (by omega)]) (Nat.le_refl _)
  have hg4:=at_ne (x:=.cells [.agg [.vsl (Is f) cf0,v',.int .u64 (p:Int)]] true) hg3 (show 2≠gid by omega)
  have hl4:(S3.set 2 (.cells [.agg [.vsl (Is f) cf0,v',.int .u64 (p:Int)]] true)).length=S3.length:=by simp
  generalize S3.set 2 (.cells [.agg [.vsl (Is f) cf0,v',.int .u64 (p:Int)]] true)=S4 at s04 s24 hNL4 hg4 hl4 ⊢
  refine wo (x:=.optr 2 0 0) rfl ?_
  refine wo (ld_f0 s24 rfl) ?_
  refine call_ex1 (P:=fun i=>i=gid) rfl (fzp_row hg4 rfl) (fun S5 hk5 hs5 hl5=>?_)
  have s05:S5[0]?=_:=(hk5 0 (by omega)).trans s04
  have s25:S5[2]?=_:=(hk5 2 (by omega)).trans s24
  have hNL5:NL S5 v' (L++[(gl,.exact)]) S3.length:=hNL4.keep2 hs5 (fun id s o n c hv=>hk5 id (fun h=>by
   subst h
   rcases hNL4 with⟨h1,h2⟩|⟨id,es,h1,h2,h3,h4,h5,h6⟩
   ·simp at h2
   ·rw[h1]at hv
    cases hv
    obtain⟨x,hx⟩:∃x,es[L.length]?=some x:=⟨es[L.length]'(by rw[h5];simp),by simp⟩
    obtain⟨_,g,lv,a2,a3,a4,a5,a6⟩:=h6 L.length x (gl,.exact) hx (by rw[List.getElem?_append_right (Nat.le_refl _)];simp)
    rw[h2]at hg4
    cases hg4
    simp only[u64s,List.getElem?_map,Option.map_eq_some_iff]at hx
    obtain⟨d,_,hd⟩:=hx
    rw[a2]at hd
    cases hd))
  refine r_ints (by omega) (fun x hx=>by have:=hM.1.1 x hx;omega) (fun gi ci hgi=>?_)
  rw[Pl.trI_mo (moI_nv hM)]at hgi
  have lF:=ok.fm.1
  have hds:=ok.ds
  have lnv:(nv gl).length=n+1:=by rw[Pl.nv_len,lg]
  refine cpu rfl rfl (r_imul ok.zl hgi (by omega) (by omega) (by intro h;rw[h]at lF;simp at lF) (by intro h;rw[h]at lnv;simp at lnv) (by omega) (fun fr cfr hfr=>?_))
  refine wo (x:=.optr 2 0 0) rfl ?_
  refine wo (st_f0 s25 rfl) ?_
  rw[e7,b_add,ws,step7]
  have hl6:(S5.set 2 (.cells [.agg [.vsl (Is fr) cfr,v',.int .u64 (p:Int)]] true)).length=S3.length:=by rw[List.length_set,hl5,hl4]
  refine hk _ _ (L++[(gl,.exact)]) (mulL F (nv gl)) fr r ⟨e0,e4,e5,rfl,.inl ⟨cr,rfl⟩,⟨x0,y0,z0,at_ne s05 (by decide)⟩,⟨cfr,v',at_eq s25,?_⟩,?_,?_,hr,by omega,?_⟩
  ·rw[hl6]
   exact hNL5.keep (fun i h4 hb=>by rw[List.getElem?_set,if_neg (by omega)]) (Nat.le_refl _)
  ·rw[hl6]
   have:=at_lt hg3
   omega
  ·exact ok.snoc hn1 hn2 hM hbz pr3 (hfr.mono (by omega))
  ·rw[show(L++[(gl,VC.exact)]).map (·.1)=L.map (·.1)++[gl]by simp]
   refine hrc.trans ?_
   refine(pr3.mul (Cg.refl p (en gl)) (PF.prN _) (PF.en _)).congr (fun _=>rfl) (fun x=>?_)
   exact Pl.prN_snoc _ _ x
 ·rw[decide_eq_false h1,cf_]
  rw[e7,b_add,ws,step7]
  refine hk _ S1 L F f pr ⟨e0,e4,e5,rfl,e6',⟨x0,y0,z0,s0'⟩,⟨cf0,Lv,s2',?_⟩,by omega,ok.mono (by omega),pr1,by omega,pr3⟩
  exact hNL1.keep (fun i h4 hb=>rfl) (by omega)
theorem Inv.grow{p j b:Nat}{l:List Int}{c:VC}{e e':En}{S T:Zt}{L:List (List Nat×VC)}{F:List Int}{f:List (Int×VC)}{pr:List Nat}(h:Inv p j b l c e S L F f pr)(hb:b≤S.length)(h0:e' 0=e 0)(h4:e' 4=e 4)(h5:e' 5=e 5)(h6:e' 6=e 6)(h7:e' 7=e 7):Inv p j b l c e' (S++T) L F f pr:=by
 obtain⟨e0,e4,e5,e7,e6,⟨x0,y0,z0,s0⟩,⟨cf0,Lv,s2,hNL⟩,hb4,ok,pr1,pr2,pr3⟩:=h
 refine⟨h0.trans e0,h4.trans e4,h5.trans e5,h7.trans e7,?_,⟨x0,y0,z0,at_app s0⟩,⟨cf0,Lv,at_app s2,hNL.keep (fun i h4 hib=>List.getElem?_append_left (by omega)) (Nat.le_refl _)⟩,hb4,ok,pr1,pr2,pr3⟩
 rw[h6]
 exact e6.sn (fun i es lv h=>⟨lv,at_app h⟩)
theorem mo1{p a:Nat}(hp:2≤p):Mo p 1 [a%p,1]:=by
 have:=Nat.mod_lt a (show 0<p by omega)
 refine⟨⟨?_,by simp⟩,rfl,rfl⟩
 intro x hx
 simp at hx
 omega
theorem mo2{p a b:Nat}(hp:2≤p):Mo p 2 [a%p,b%p,1]:=by
 have:=Nat.mod_lt a (show 0<p by omega)
 have:=Nat.mod_lt b (show 0<p by omega)
 refine⟨⟨?_,by simp⟩,rfl,rfl⟩
 intro x hx
 simp at hx
 omega
theorem len38(l:List Int)(c:VC):lenS y38 (.vsl (i8s l) c)=some (.int .i64 (l.length:Int)):=by rw[len_vsl rfl,i8s_len]
theorem idx38{l:List Int}{c:VC}{i:Nat}{z:Int}(h:l[i]?=some z):ixS cT y38 (.vsl (i8s l) c) (.int .i64 (i:Int))=some (.vptr (.int .i8 z)):=idx_vsl (j:=y86) rfl rfl (by decide) (i8s_get h) rfl
theorem ld86{S:Zt}{z:Int}:ldS y86 S (.vptr (.int .i8 z))=some (.int .i8 z):=rfl
theorem conv3i{k':IntKind}{n:Int}:convS y3 (.int k' n)=some (.int .i64 (wrS .i64 n)):=conv_int rfl rfl
theorem law_loop:∀(m j p:Nat) (l:List Int) (c:VC) (e:En) (S:Zt) (L:List (List Nat×VC)) (F:List Int) (f:List (Int×VC)) (pr:List Nat) (k:X→En→Zt→Prop),j+m=5→IsP p→p≤2147483647→Rng l→Inv p j S.length l c e S L F f pr→
  (∀(e':En) (S':Zt) L' F' f' pr' b,Inv p 5 b l c e' S' L' F' f' pr'∨(∃j,j≤5∧Inv p j b l c e' S' L' F' f' pr')→k (.exit 0) e' S')→DenP cT 91 (.loop L34_0) e S k:=by
 intro m
 induction m with
 |zero=>
  intro j p l c e S L F f pr k hj hp hp2 hl hI hk
  refine L34_0_ok ?_
  unfold TL34_0
  rw[hI.e0,hI.e7,b_add,ws,sI (by omega)]
  refine wo (len38 l c) ?_
  rw[b_lss,ws]
  have hout:∀e':En,e' 0=e 0→e' 4=e 4→e' 5=e 5→e' 6=e 6→e' 7=e 7→k (.exit 0) e' S:=fun e' g0 g4 g5 g6 g7=>by
   have:=hI.grow (T:=[]) (Nat.le_refl _) g0 g4 g5 g6 g7
   rw[List.append_nil]at this
   exact hk e' S L F f pr _ (.inr ⟨j,by omega,this⟩)
  by_cases h1:((2*j+1:Nat):Int)<(l.length:Int)
  ·rw[decide_eq_true h1]
   refine grdT rfl (grdT rfl ?_)
   rw[b_lss,ws,decide_eq_false (by omega)]
   refine wo pickS_t (cndF rfl ?_)
   exact hout _ rfl rfl rfl rfl rfl
  ·rw[decide_eq_false h1]
   refine grdF rfl (grdF rfl (wo pickS_f (cndF rfl ?_)))
   exact hout _ rfl rfl rfl rfl rfl
 |succ m ih=>
  intro j p l c e S L F f pr k hj hp hp2 hl hI hk
  have hp1:=hp.1
  refine L34_0_ok ?_
  unfold TL34_0
  rw[hI.e0,hI.e7,b_add,ws,sI (by omega)]
  refine wo (len38 l c) ?_
  rw[b_lss,ws]
  have hout:∀e':En,e' 0=e 0→e' 4=e 4→e' 5=e 5→e' 6=e 6→e' 7=e 7→k (.exit 0) e' S:=fun e' g0 g4 g5 g6 g7=>by
   have:=hI.grow (T:=[]) (Nat.le_refl _) g0 g4 g5 g6 g7
   rw[List.append_nil]at this
   exact hk e' S L F f pr _ (.inr ⟨j,by omega,this⟩)
  by_cases h1:((2*j+1:Nat):Int)<(l.length:Int)
  ·rw[decide_eq_true h1]
   refine grdT rfl (grdT rfl ?_)
   rw[b_lss,ws,decide_eq_true (by omega)]
   refine wo pickS_t (cndT rfl ?_)
   obtain⟨z,hz⟩:∃z,l[2*j]?=some z:=⟨l[2*j]'(by omega),by simp⟩
   obtain⟨w,hw⟩:∃z,l[2*j+1]?=some z:=⟨l[2*j+1]'(by omega),by simp⟩
   have hzb:=hl z (List.mem_of_getElem? hz)
   have hwb:=hl w (List.mem_of_getElem? hw)
   obtain⟨a,ha⟩:=Int.eq_ofNat_of_zero_le (show 0≤z+128 by omega)
   obtain⟨b,hb⟩:=Int.eq_ofNat_of_zero_le (show 0≤w+128 by omega)
   have hs2:∃x y,S[2]?=some (Row.cells [.agg [x,y,.int .u64 (p:Int)]] true):=by
    obtain⟨cf0,Lv,s2,_⟩:=hI.s2
    exact⟨_,_,s2⟩
   obtain⟨x2,y2,s2⟩:=hs2
   refine wo (idx38 hz) (wo ld86 (wo conv3i ?_))
   rw[wrap64 (n:=z) (by omega) (by omega),b_add,ws,wrap64 (n:=z+128) (by omega) (by omega),ha,conv25,ws,wrapU64 (by omega) (by omega)]
   rw[hI.e5]
   refine wo (x:=.optr 2 0 2) rfl (wo (ld_f2 s2) (wo (b_remN (by omega)) ?_))
   refine wo (x:=(.osl S.length 1 0 2 (some 2),S++[Row.cells (u64s [a%p,1]) true])) rfl ?_
   refine wo rfl ?_
   refine wo (idx38 hw) (wo ld86 (wo (b_rem (by decide)) ?_))
   rw[b_eql,ws]
   refine condP_dec (fun _=>?_) (fun _=>?_)
   ·refine wo (idx38 hz) (wo ld86 (wo conv3i ?_))
    rw[wrap64 (n:=z) (by omega) (by omega),b_add,ws,wrap64 (n:=z+128) (by omega) (by omega),ha,conv25,ws,wrapU64 (by omega) (by omega)]
    refine wo (x:=.optr 2 0 2) rfl (wo (ld_f2 (at_app s2)) (wo (b_remN (by omega)) ?_))
    refine wo rfl ?_
    refine wo (idx38 hw) (wo ld86 (wo conv3i ?_))
    rw[wrap64 (n:=w) (by omega) (by omega),b_add,ws,wrap64 (n:=w+128) (by omega) (by omega),hb,conv25,ws,wrapU64 (by omega) (by omega)]
    refine wo (x:=.optr 2 0 2) rfl (wo (ld_f2 (at_app s2)) (wo (b_remN (by omega)) ?_))
    refine wo (x:=(.osl (S++[Row.cells (u64s [a%p,1]) true]).length 1 0 3 (some 3),(S++[Row.cells (u64s [a%p,1]) true])++[Row.cells (u64s [a%p,b%p,1]) true])) rfl ?_
    refine lifts_join (gl:=[a%p,b%p,1]) (n:=2) (gid:=(S++[Row.cells (u64s [a%p,1]) true]).length) hp hp2 (b:=S.length) (L:=L) (F:=F) (f:=f) (pr:=pr) (j:=j) (l:=l) (c:=c) ?_ (by omega) rfl at_new (by simp) (by decide) (by decide) (mo2 hp1) (fun e' S' L' F' f' pr' h=>ih (j+1) p l c e' S' L' F' f' pr' k (by omega) hp hp2 hl h hk)
    rw[List.append_assoc]
    exact hI.grow (Nat.le_refl _) rfl rfl rfl rfl rfl
   ·refine lifts_join (gl:=[a%p,1]) (n:=1) (gid:=S.length) hp hp2 (b:=S.length) (L:=L) (F:=F) (f:=f) (pr:=pr) (j:=j) (l:=l) (c:=c) ?_ (by omega) rfl at_new (Nat.le_refl _) (by decide) (by decide) (mo1 hp1) (fun e' S' L' F' f' pr' h=>ih (j+1) p l c e' S' L' F' f' pr' k (by omega) hp hp2 hl h hk)
    exact hI.grow (Nat.le_refl _) rfl rfl rfl rfl rfl
  ·rw[decide_eq_false h1]
   refine grdF rfl (grdF rfl (wo pickS_f (cndF rfl ?_)))
   exact hout _ rfl rfl rfl rfl rfl
theorem w_lifts{l:List Int}{c:VC}{n:Nat}{Q:SV→Prop}(hl:Rng l)(hn:n<4294967296)(h:∀p L F f cf cL,IsP p→p≤2147483647→OkL p L F f 5→Q (.agg [.vsl (Is f) cf,.vsl (Ps L) cL,.int .u64 (p:Int)])):wpO (pW cT 34 [.vsl (i8s l) c,.int .u32 (n:Int)]) Q:=by
 refine po rfl (F34_ok (k:=fun v S=>wpO (frz S dS v) Q) ?_)
 unfold F34
 refine wo (x:=(.optr 0 0 0,[Row.cells [y69.zero] true])) rfl ?_
 refine wo (x:=(.osl 1 1 0 1 (some 1),[Row.cells [y69.zero] true,Row.cells (u64s [1]) true])) rfl ?_
 refine call_ex1 (P:=fun i=>i=1) rfl (fzp_row (id:=1) (l:=[1]) (lv:=true) rfl rfl) (fun S1 hk1 hs1 hl1=>?_)
 refine r_ints (by decide) (by decide) (fun f0 cf0 hf0=>?_)
 refine cpu rfl rfl (w_prime hn (fun p hp hp2=>?_))
 have hp1:=hp.1
 refine wo (x:=.agg [.vsl (Is f0) cf0,.vsl [] .nil,.int .u64 (p:Int)]) rfl ?_
 have hl1':S1.length=2:=hl1
 have s01:S1[0]?=some (Row.cells [y69.zero] true):=hk1 0 (by decide)
 refine wo (x:=(.optr S1.length 0 0,S1++[Row.cells [y69.zero] true])) rfl ?_
 refine wo (x:=(S1++[Row.cells [y69.zero] true]).set S1.length (Row.cells [.agg [.vsl (Is f0) cf0,.vsl [] .nil,.int .u64 (p:Int)]] true)) ?_ ?_
 ·rw[store_row (e':=.agg [.vsl (Is f0) cf0,.vsl [] .nil,.int .u64 (p:Int)]) at_new rfl rfl rfl rfl]
  rfl
 have s02:=at_ne (x:=Row.cells [.agg [.vsl (Is f0) cf0,.vsl [] .nil,.int .u64 (p:Int)]] true) (at_app (T:=[Row.cells [y69.zero] true]) s01) (show S1.length≠0 by omega)
 have s22:=at_eq (x:=Row.cells [.agg [.vsl (Is f0) cf0,.vsl [] .nil,.int .u64 (p:Int)]] true) (at_new (S:=S1) (r:=Row.cells [y69.zero] true))
 have hl2:((S1++[Row.cells [y69.zero] true]).set S1.length (Row.cells [.agg [.vsl (Is f0) cf0,.vsl [] .nil,.int .u64 (p:Int)]] true)).length=3:=by simp[hl1']
 rw[hl1']at s22 ⊢
 rw[hl1']at s02 hl2
 generalize (S1++[Row.cells [y69.zero] true]).set 2 (Row.cells [.agg [.vsl (Is f0) cf0,.vsl [] .nil,.int .u64 (p:Int)]] true)=S2 at s02 s22 hl2 ⊢
 refine wo (x:=(.osl 3 1 0 1 (some 1),S2++[Row.cells (u64s [1]) true])) ?_ ?_
 ·have:bslS y25 1 [(0,.int .u64 1)] S2=some (.osl S2.length 1 0 1 (some 1),S2++[Row.cells (u64s [1]) true]):=rfl
  rw[this,hl2]
 have hmo:MoI 0 (nv [1]):=⟨rfl,rfl⟩
 rw[Pl.trI_mo hmo]at hf0
 have hlen:(S2++[Row.cells (u64s [1]) true]).length=4:=by rw[List.length_append,hl2];rfl
 refine law_loop 5 0 p l c _ (S2++[Row.cells (u64s [1]) true]) [] (nv [1]) f0 [1] _ rfl hp hp2 hl ⟨rfl,rfl,rfl,rfl,.inr ⟨true,rfl,?_⟩,⟨_,_,_,at_app s02⟩,⟨cf0,.vsl [] .nil,at_app s22,.inl ⟨rfl,rfl⟩⟩,by omega,⟨(fun q hq=>by cases hq),Nat.le_refl _,(fun i l h=>by simp at h),hmo,(fun x=>by simp[prN,nv,Pl.ev]),hf0.mono (by omega),Nat.le_refl _⟩,⟨by intro x hx;simp at hx;omega,by simp⟩,by decide,(Cg.refl _ _).congr (fun _=>rfl) (fun x=>by simp[prN,Pl.en_one])⟩ (fun e' S' L' F' f' pr' b hI=>?_)
 ·have:=at_new (S:=S2) (r:=Row.cells (u64s [1]) true)
  rw[hl2]at this
  exact this
 have hI':∃j,j≤5∧Inv p j b l c e' S' L' F' f' pr':=by
  rcases hI with h|h
  ·exact⟨5,Nat.le_refl _,h⟩
  ·exact h
 obtain⟨j,hj,e0,e4,e5,e7,e6,⟨x0,y0,z0,s0⟩,⟨cf1,Lv,s2,hNL⟩,hb4,ok,_⟩:=hI'
 refine K34_0e0_ok ?_
 unfold TK34_0e0
 rw[e4,e5]
 refine wo (x:=.agg [.vsl (Is f') cf1,Lv,.int .u64 (p:Int)]) ?_ ?_
 ·rw[load_row s2 rfl];rfl
 have hone:=hNL.one
 refine wo (x:=S'.set 0 (Row.cells [.agg [.vsl (Is f') cf1,Lv,.int .u64 (p:Int)]] true)) ?_ ?_
 ·rw[store_row (e':=.agg [.vsl (Is f') cf1,Lv,.int .u64 (p:Int)]) s0 rfl rfl (by show([.vsl (Is f') cf1,Lv,.int .u64 (p:Int)]:List SV).all oneS=true;simp only[List.all_cons,List.all_nil,hone];rfl) rfl]
  rfl
 refine wo (x:=.agg [.vsl (Is f') cf1,Lv,.int .u64 (p:Int)]) ?_ ?_
 ·rw[load_row (at_eq s0) rfl];rfl
 have hNL2:NL (S'.set 0 (Row.cells [.agg [.vsl (Is f') cf1,Lv,.int .u64 (p:Int)]] true)) Lv L' b:=hNL.keep (fun i h4 hb=>by rw[List.getElem?_set,if_neg (by omega)]) (Nat.le_refl _)
 generalize S'.set 0 (Row.cells [.agg [.vsl (Is f') cf1,Lv,.int .u64 (p:Int)]] true)=S6 at hNL2 ⊢
 obtain⟨cL,hcL⟩:=hNL2.frz (n:=8)
 refine wo (x:=.agg [.vsl (Is f') cf1,.vsl (Ps L') cL,.int .u64 (p:Int)]) ?_ (h p L' F' f' cf1 cL hp hp2 (ok.mono hj))
 show(([.vsl (Is f') cf1,Lv,.int .u64 (p:Int)]:List SV).mapM (frz S6 11)).map SV.agg=_
 simp only[List.mapM_cons,List.mapM_nil,hcL,Option.pure_def,Option.bind_eq_bind,Option.bind_some]
 rfl
open Pl (prI Lft)
theorem root_hit{f:FuncId}{args:List SV}{v:SV}{Q:SV→Prop}(h:cT.orc f args=some v)(hq:Q v):wpO (pW cT f args) Q:=by
 rw[pureW_eq,h]
 exact ws▸hq
theorem c8{Q:SV→Prop}(h:Q (.bool true)):wpO (pW cT 8 []) Q:=root_hit rfl h
theorem Vs_get'{D:List (List (Int×VC)×VC)}{i:Nat}{d:List (Int×VC)×VC}(h:D[i]?=some d):(Vs D)[i]?=some (.vsl (Is d.1) d.2):=by simp[Vs,h]
theorem len61(D:List (List (Int×VC)×VC))(c:VC):lenS y61 (.vsl (Vs D) c)=some (.int .i64 (D.length:Int)):=by rw[len_vsl rfl,Vs_len]
theorem idx61{D:List (List (Int×VC)×VC)}{c:VC}{i:Nat}{d:List (Int×VC)×VC}(h:D[i]?=some d):ixS cT y61 (.vsl (Vs D) c) (.int .i64 (i:Int))=some (.vptr (.vsl (Is d.1) d.2)):=idx_vsl (j:=y57) rfl rfl (by decide) (Vs_get' h) rfl
theorem ld57{S:Zt}{l:List (Int×VC)}{c:VC}:ldS y57 S (.vptr (.vsl (Is l) c))=some (.vsl (Is l) c):=rfl
theorem ld22{S:Zt}{l:List Nat}{c:VC}:ldS y22 S (.vptr (.vsl (u64s l) c))=some (.vsl (u64s l) c):=rfl
def RoZ(S:Zt)(v:SV)(l:List (Int×VC))(b:Nat):Prop:=∃id cap rest lv,v=.osl id 2 0 l.length cap∧S[id]?=some (.cells (Is l++rest) lv)∧b≤id
theorem RoZ.sn{S T:Zt}{v:SV}{l:List (Int×VC)}{b:Nat}(h:RoZ S v l b)(hs:Sn S T):RoZ T v l b:=by
 obtain⟨id,cap,rest,lv,h1,h2,h3⟩:=h
 obtain⟨lv',h4⟩:=hs _ _ _ h2
 exact⟨id,cap,rest,lv',h1,h4,h3⟩
theorem RoZ.fz{S:Zt}{v:SV}{l:List (Int×VC)}{b:Nat}(h:RoZ S v l b):∃c,FzO S b v (.vsl (Is l) c):=by
 obtain⟨id,cap,rest,lv,rfl,hS,hb⟩:=h
 have ht:((Is l++rest).drop 0).take l.length=Is l:=by rw[List.drop_zero,←Is_len (l:=l),List.take_left]
 obtain⟨h1,h2⟩:=frz_row (sz:=2) (cap:=cap) (off:=0) (len:=l.length) hS (by simp) (by rw[ht];exact Is_pure)
 rw[ht]at h1
 exact⟨_,h1,by rw[h2];intro i hi;simp at hi;omega⟩
theorem Own.roz{S:Zt}{v:SV}{l:List (Int×VC)}{b:Nat}(h:Own S v 2 (Is l) b):RoZ S v l b:=by
 obtain⟨id,cap,rest,h1,h2,h3,_⟩:=h
 exact⟨id,cap,rest,true,by rw[h1,Is_len],h2,h3⟩
theorem RoZ.len{S:Zt}{v:SV}{l:List (Int×VC)}{b:Nat}(h:RoZ S v l b):lenS y57 v=some (.int .i64 (l.length:Int)):=by
 obtain⟨id,cap,rest,lv,rfl,hS,hb⟩:=h
 exact len_osl rfl
theorem moI_zero{F:List Int}(h:MoI 0 F):F=[1]:=by
 obtain⟨h1,h2⟩:=h
 match F,h1 with
 |[a],_=>simp[Pl.cf]at h2;rw[h2]
theorem okF{p j k:Nat}{L:List (List Nat×VC)}{F:List Int}{f:List (Int×VC)}{c:VC}(h:OkL p L F f j)(hj:j≤5)(hk:k<256)(hp2:p≤2147483647)(hl:1<f.length)(hc:c=.nil→cf F 0+(k:Int)*(p:Int)=0) :
  Zl (f.set 0 (cf F 0+(k:Int)*(p:Int),c)) (F.set 0 (cf F 0+(k:Int)*(p:Int))) 102∧MoI (dsum (L.map (·.1))) (F.set 0 (cf F 0+(k:Int)*(p:Int)))∧Cg p (ev (F.set 0 (cf F 0+(k:Int)*(p:Int)))) (prN (L.map (·.1))):=by
 have hfl:=h.zl.len
 have lF:=h.fm.1
 have hcb:=cf_bd h.zl.bd 0
 have hkb:=wd_small (z:=(k:Int)) (by omega)
 have hpb:=wd_small (z:=(p:Int)) (by omega)
 have hm:=wd_mulz hkb hpb
 have ha:=wd_addz (n:=101) (z:=cf F 0) (w:=(k:Int)*(p:Int)) (by omega) (by omega)
 refine⟨⟨?_,?_,?_⟩,⟨by rw[List.length_set];exact lF,?_⟩,?_⟩
 ·rw[zs_set,h.zl.eq]
 ·intro q hq
  rcases List.mem_or_eq_of_mem_set hq with hq|rfl
  ·exact h.zl.mks q hq
  ·exact hc
 ·intro z hz
  rcases List.mem_or_eq_of_mem_set hz with hz|rfl
  ·have:=h.zl.bd z hz;omega
  ·exact ha
 ·have h2:=h.fm.2
  unfold Pl.cf at h2 ⊢
  rw[List.getElem?_set,if_neg (by omega)]
  exact h2
 ·refine⟨fun _=>(k:Int),PF.const _,fun x=>?_⟩
  rw[Pl.ev_put (by omega),←h.fe x]
  have e:cf F 0+(k:Int)*(p:Int)-cf F 0=(k:Int)*(p:Int):=by omega
  rw[e]
  grind
theorem len_Lft{p K:Nat}{F:List Int}{L:List (List Nat×VC)}{D:List (List (Int×VC)×VC)}{xs:List (List Int)}(hp:1<p)(hK:0<K)(h:Lft p K F (L.map (·.1)) xs)(hD:ZL D xs 100):D.length=L.length:=by
 have h1:=(h.each hp hK).1
 have h2:=congrArg List.length hD.1
 simp at h1 h2
 omega
theorem Lft_at{p K i:Nat}{F:List Int}{L:List (List Nat×VC)}{D:List (List (Int×VC)×VC)}{xs:List (List Int)}{q:List Nat×VC}{d:List (Int×VC)×VC}(hp:1<p)(hK:0<K)(h:Lft p K F (L.map (·.1)) xs)(hD:ZL D xs 100)(hq:L[i]?=some q)(hd:D[i]?=some d) :
  ∃X n,xs[i]?=some X∧Zl d.1 X 100∧Mo p n q.1∧MoI n X∧Cg p (ev X) (en q.1)∧nearL ((p:Int)^K) X=X:=by
 have h1:xs[i]?=some (zs d.1):=by rw[←hD.1,List.getElem?_map,hd];rfl
 obtain⟨n,a1,a2,a3,a4⟩:=(h.each hp hK).2 i q.1 (zs d.1) (by rw[List.getElem?_map,hq];rfl) h1
 exact⟨zs d.1,n,h1,hD.2 d (List.mem_of_getElem? hd),a1,a2,a3,a4⟩
theorem prI_snoc(L:List (List Int))(l:List Int)(x:Int):prI (L++[l]) x=prI L x*ev l x:=by
 induction L with
 |nil=>simp[prI]
 |cons a L ih=>simp only[List.cons_append,prI,ih];grind
theorem dsum_le{L:List (List Nat)}{i:Nat}:dsum (L.take i)≤dsum L:=by
 induction L generalizing i with
 |nil=>simp
 |cons a r ih=>
  cases i with
  |zero=>simp[dsum]
  |succ i=>simp only[List.take_succ_cons,dsum];have:=ih (i:=i);omega
theorem quo2{n:Nat}(hn:n<1000):bnS .quo (some y3) (.int .i64 (n:Int)) (.int .i64 2)=some (.int .i64 ((n/2:Nat):Int)):=by
 rw[b_quo (by decide)]
 have:(n:Int).tdiv 2=((n/2:Nat):Int):=rfl
 rw[this,wrap64 (by omega) (by omega)]
theorem ld_g0{S:Zt}{f:List (Int×VC)}{c:VC}{b d:SV}{lv:Bool}(h:S[0]?=some (.cells [.agg [.vsl (Is f) c,b,d]] lv)):ldS y57 S (.optr 0 0 0)=some (.vsl (Is f) c):=by rw[load_row h rfl];rfl
theorem ld_g1{S:Zt}{L:List (List Nat×VC)}{c:VC}{a d:SV}{lv:Bool}(h:S[0]?=some (.cells [.agg [a,.vsl (Ps L) c,d]] lv)):ldS y60 S (.optr 0 0 1)=some (.vsl (Ps L) c):=by rw[load_row h rfl];rfl
theorem ld_g2{S:Zt}{p:Nat}{a b:SV}{lv:Bool}(h:S[0]?=some (.cells [.agg [a,b,.int .u64 (p:Int)]] lv)):ldS y25 S (.optr 0 0 2)=some (.int .u64 (p:Int)):=by rw[load_row h rfl];rfl
structure LC(p deep K2:Nat)(f:List (Int×VC))(F2:List Int)(L:List (List Nat×VC))(D D2:List (List (Int×VC)×VC))(xs ys:List (List Int))(S:Zt)(im il:Nat):Prop where
 hp:IsP p
 hp2:p≤2147483647
 hd0:0<deep
 hd9:deep≤9
 hK0:0<K2
 hK:K2≤deep
 hKd:K2=1+deep/2
 hL:L.length≤5
 hds:dsum (L.map (·.1))≤10
 x1:Lft p deep F2 (L.map (·.1)) xs
 x2:Lft p K2 F2 (L.map (·.1)) ys
 z1:ZL D xs 100
 z2:ZL D2 ys 100
 s0:∃cf cL lv,S[0]?=some (.cells [.agg [.vsl (Is f) cf,.vsl (Ps L) cL,.int .u64 (p:Int)]] lv)
 sm:∃cm,S[im]?=some (.cells [I ((p:Int)^deep) cm] true)∧(cm=.nil→(p:Int)^deep=0)
 sl:∃cm,S[il]?=some (.cells [I ((p:Int)^K2) cm] true)∧(cm=.nil→(p:Int)^K2=0)
theorem law5_loop:∀(m i:Nat) (p deep K2:Nat) (f:List (Int×VC)) (F2 PR:List Int) (L:List (List Nat×VC)) (D D2:List (List (Int×VC)×VC)) (cD cD2 cp:VC) (pr:List (Int×VC)) (xs ys:List (List Int)) (S:Zt) (im il:Nat) (e:En) (k:X→En→Zt→Prop),LC p deep K2 f F2 L D D2 xs ys S im il→i+m=L.length→
  e 8=.optr 0 0 0→e 9=.int .i64 (deep:Int)→e 11=.vsl (Vs D) cD→e 13=.vsl (Vs D2) cD2→e 15=.optr im 0 0→e 16=.optr il 0 0→e 17=.vsl (Is pr) cp→e 18=.int .i64 (i:Int)→
  Zl pr PR (1+200*i)→MoI (dsum ((L.map (·.1)).take i)) PR→(∀x,ev PR x=prI (xs.take i) x)→
  (∀(e':En) (pr':List (Int×VC)) (PR':List Int) (cp':VC),e' 7=e 7→e' 10=e 10→e' 15=.optr im 0 0→e' 17=.vsl (Is pr') cp'→Zl pr' PR' 2000→MoI (dsum (L.map (·.1))) PR'→(∀x,ev PR' x=prI xs x)→k (.exit 0) e' S)→DenP cT 206 (.loop L5_0) e S k:=by
 intro m
 induction m with
 |zero=>
  intro i p deep K2 f F2 PR L D D2 cD cD2 cp pr xs ys S im il e k hC hi h8 h9 h11 h13 h15 h16 h17 h18 hpr hPR hev hk
  have hp1:=hC.hp.1
  have lD:=len_Lft (by omega) hC.hd0 hC.x1 hC.z1
  have hL:=hC.hL
  refine L5_0_ok ?_
  unfold TL5_0
  refine Q5_17_ok ?_
  unfold TQ5_17_0
  rw[h11,h18]
  refine wo (len61 D cD) ?_
  refine wo (x:=.bool false) (by rw[b_lss,decide_eq_false (by omega)]) ?_
  refine cndF rfl ?_
  have hxs:xs.length=L.length:=by
   have:=(hC.x1.each (by omega) hC.hd0).1
   simpa using this
  rw[List.take_of_length_le (by simp;omega)]at hPR
  rw[List.take_of_length_le (by omega)]at hev
  exact hk _ pr PR cp rfl rfl h15 h17 (hpr.mono (by omega)) hPR hev
 |succ m ih=>
  intro i p deep K2 f F2 PR L D D2 cD cD2 cp pr xs ys S im il e k hC hi h8 h9 h11 h13 h15 h16 h17 h18 hpr hPR hev hk
  have hp1:=hC.hp.1
  have hp2:=hC.hp2
  have hd9:=hC.hd9
  have lD:=len_Lft (by omega) hC.hd0 hC.x1 hC.z1
  have lD2:=len_Lft (by omega) hC.hK0 hC.x2 hC.z2
  have hL:=hC.hL
  obtain⟨cf0,cL,lv0,s0⟩:=hC.s0
  obtain⟨cm,sm,hcm⟩:=hC.sm
  obtain⟨cl,sl,hcl⟩:=hC.sl
  obtain⟨q,hq⟩:∃q,L[i]?=some q:=⟨L[i]'(by omega),by simp⟩
  obtain⟨d,hd⟩:∃q,D[i]?=some q:=⟨D[i]'(by omega),by simp⟩
  obtain⟨d2,hd2⟩:∃q,D2[i]?=some q:=⟨D2[i]'(by omega),by simp⟩
  obtain⟨X,n,hX1,hX2,hX3,hX4,hX5,hX6⟩:=Lft_at (by omega) hC.hd0 hC.x1 hC.z1 hq hd
  obtain⟨Y,n2,hY1,hY2,hY3,hY4,hY5,hY6⟩:=Lft_at (by omega) hC.hK0 hC.x2 hC.z2 hq hd2
  have lX:=hX4.1
  have lq:=hX3.2.1
  have ldx:=hX2.len
  have hds:dsum ((L.map (·.1)).take (i+1))=dsum ((L.map (·.1)).take i)+n:=by
   rw[List.take_add_one,List.getElem?_map,hq]
   show dsum ((L.map (·.1)).take i++[q.1])=_
   rw[dsum_snoc,lq,Nat.add_sub_cancel]
  have hds1:=dsum_le (L:=L.map (·.1)) (i:=i+1)
  have hds2:=hC.hds
  have hpk:=Pl.two_le_pow (p:=p) (j:=deep) (by omega) hC.hd0
  have hpk2:=Pl.two_le_pow (p:=p) (j:=K2) (by omega) hC.hK0
  have hwm:=wd_pow (z:=(p:Int)) (by omega) deep
  have hwl:=wd_pow (z:=(p:Int)) (by omega) K2
  have hKd:=hC.hK
  refine L5_0_ok ?_
  unfold TL5_0
  refine Q5_17_ok ?_
  unfold TQ5_17_0
  refine wo (x:=.int .i64 (D.length:Int)) ?_ ?_
  ·rw[h11];exact len61 D cD
  refine wo (x:=.bool true) ?_ ?_
  ·rw[h18,b_lss,decide_eq_true (by omega)]
  refine cndT rfl ?_
  refine Q5_18_ok ?_
  unfold TQ5_18_0
  have a1:ixS cT y61 (e 11) (e 18)=some (.vptr (.vsl (Is d.1) d.2)):=by rw[h11,h18];exact idx61 hd
  have a2:ixS cT y61 (e 13) (e 18)=some (.vptr (.vsl (Is d2.1) d2.2)):=by rw[h13,h18];exact idx61 hd2
  have a3:faS cT y69 (e 8) 1=some (.optr 0 0 1):=by rw[h8];rfl
  have a4:faS cT y69 (e 8) 2=some (.optr 0 0 2):=by rw[h8];rfl
  have a5:ixS cT y60 (.vsl (Ps L) cL) (e 18)=some (.vptr (.vsl (u64s q.1) q.2)):=by rw[h18];exact idx60 hq
  have a6:ldS y44 S (e 15)=some (I ((p:Int)^deep) cm):=by rw[h15];exact load_I sm
  have a7:ldS y44 S (e 16)=some (I ((p:Int)^K2) cl):=by rw[h16];exact load_I sl
  refine wo (x:=.vptr (.vsl (Is d.1) d.2)) (by exact a1) ?_
  refine wo ld57 (wo (len24 d.1 d.2) ?_)
  refine wo (x:=.optr 0 0 1) (by exact a3) (wo (ld_g1 s0) ?_)
  refine wo (x:=.vptr (.vsl (u64s q.1) q.2)) (by exact a5) ?_
  refine wo ld22 (wo (len22 q.1 q.2) ?_)
  refine wo (x:=.bool false) (by rw[b_neq,decide_eq_false (by omega)]) ?_
  unfold TQ5_18_1
  iterate 2 refine grdN rfl ?_
  refine grdN rfl ?_
  refine wo (x:=.vptr (.vsl (Is d.1) d.2)) (by exact a1) ?_
  refine grdN rfl ?_
  refine wo ld57 ?_
  iterate 2 refine grdN rfl ?_
  refine grdN rfl ?_
  refine wo (x:=.vptr (.vsl (Is d.1) d.2)) (by exact a1) ?_
  refine grdN rfl ?_
  refine wo ld57 ?_
  refine grdN rfl ?_
  refine wo (x:=I ((p:Int)^deep) cm) (by exact a6) ?_
  refine grdN rfl ?_
  refine cpu rfl rfl (r_near hX2 hpk hcm hwm (by omega) (by omega) (by omega) fun r c' hr=>?_)
  rw[hX6,Pl.trI_mo hX4]at hr
  refine grdN rfl ?_
  refine cpu rfl rfl (r_sameInts hX2 hr (by omega) (by omega) ?_)
  unfold TQ5_18_2
  refine grdN rfl ?_
  refine wo (x:=.bool false) rfl ?_
  refine wo (x:=.bool false) rfl ?_
  iterate 2 refine grdN rfl ?_
  refine grdN rfl ?_
  refine wo (x:=.vptr (.vsl (Is d.1) d.2)) (by exact a1) ?_
  refine grdN rfl ?_
  refine wo ld57 ?_
  iterate 2 refine grdN rfl ?_
  refine grdN rfl ?_
  refine wo (x:=.vptr (.vsl (Is d.1) d.2)) (by exact a1) ?_
  refine grdN rfl ?_
  refine wo ld57 ?_
  refine grdN rfl ?_
  refine wo (len24 d.1 d.2) ?_
  unfold TQ5_18_3
  refine grdN rfl ?_
  refine wo (x:=.int .i64 (n:Int)) ?_ ?_
  ·show bnS .sub (some y3) (.int .i64 (d.1.length:Int)) (.int .i64 1)=_
   rw[b_sub,wrap64 (by omega) (by omega)];congr 2;omega
  obtain⟨w,hw⟩:∃w,d.1[n]?=some w:=⟨d.1[n]'(by omega),by simp⟩
  have hw1:w.1=1:=by
   have e1:w.1=cf X n:=by rw[←hX2.at];unfold zAt;rw[hw]
   rw[e1,hX4.2]
  refine grdN rfl ?_
  refine wo (idx24 hw) ?_
  refine grdN rfl ?_
  refine wo (x:=I w.1 w.2) rfl ?_
  refine grdN rfl ?_
  refine cpu rfl rfl (c23 (n:=1) (by omega) (by omega) fun c1 hc1=>?_)
  refine grdN rfl ?_
  have wd1:wd 1=1:=rfl
  refine cpu rfl rfl (c11 (by rw[hw1,wd1];omega) (by rw[wd1];omega) ?_)
  refine grdN rfl ?_
  refine wo (x:=.bool false) ?_ ?_
  ·rw[hw1];rfl
  refine wo (x:=.bool false) rfl ?_
  iterate 2 refine grdN rfl ?_
  refine grdN rfl ?_
  refine wo (x:=.vptr (.vsl (Is d.1) d.2)) (by exact a1) ?_
  refine grdN rfl ?_
  refine wo ld57 ?_
  unfold TQ5_18_4
  refine grdN rfl ?_
  refine wo (x:=.optr 0 0 2) (by exact a4) ?_
  refine grdN rfl ?_
  refine wo (ld_g2 s0) ?_
  refine grdN rfl ?_
  refine cpu rfl rfl (r_image hX2 (by omega) (by omega) (by omega) (by omega) fun ci=>?_)
  have hred:red p X=q.1:=Rd.ext (by omega) (Pl.red_rd (by omega) X) hX3.1 ((Pl.red_cg (by omega) X).trans hX5)
  rw[hred]
  refine grdN rfl ?_
  refine wo (x:=.optr 0 0 1) (by exact a3) ?_
  refine grdN rfl ?_
  refine wo (ld_g1 s0) ?_
  refine grdN rfl ?_
  refine grdN rfl ?_
  refine wo (x:=.vptr (.vsl (u64s q.1) q.2)) (by exact a5) ?_
  refine grdN rfl ?_
  refine wo ld22 ?_
  refine grdN rfl ?_
  refine cpu rfl rfl (r_same (by omega) ?_)
  refine grdN rfl ?_
  refine wo (x:=.bool false) rfl ?_
  refine wo (x:=.bool false) rfl ?_
  refine cndF rfl ?_
  refine Q5_20_ok ?_
  unfold TQ5_20_0
  have hKe:=hC.hKd
  refine wo (x:=.int .i64 ((deep/2:Nat):Int)) ?_ ?_
  ·show bnS .quo (some y3) (e 9) (.int .i64 2)=_
   rw[h9];exact quo2 (by omega)
  refine wo (x:=.int .i64 (K2:Int)) ?_ ?_
  ·rw[b_add,wrap64 (by omega) (by omega)];congr 2;omega
  refine wo (x:=.bool true) ?_ ?_
  ·show bnS .leq (some y3) (.int .i64 (K2:Int)) (e 9)=_
   rw[h9,b_leq,decide_eq_true (by omega)]
  iterate 2 refine grdT rfl ?_
  refine grdT rfl ?_
  refine wo (x:=.vptr (.vsl (Is d.1) d.2)) (by exact a1) ?_
  refine grdT rfl ?_
  refine wo ld57 ?_
  refine grdT rfl ?_
  refine wo (x:=I ((p:Int)^K2) cl) (by exact a7) ?_
  refine grdT rfl ?_
  refine cpu rfl rfl (r_near hX2 hpk2 hcl hwl (by omega) (by omega) (by omega) fun r2 c2 hr2=>?_)
  have hu:nearL ((p:Int)^K2) X=Y:=Pl.Lft.unique (by omega) hC.hK0 hC.hK hC.x1 hC.x2 rfl (Cg.refl _ _) i X Y hX1 hY1
  rw[hu,Pl.trI_mo hY4]at hr2
  unfold TQ5_20_1
  iterate 2 refine grdT rfl ?_
  refine grdT rfl ?_
  refine wo (x:=.vptr (.vsl (Is d2.1) d2.2)) (by exact a2) ?_
  refine grdT rfl ?_
  refine wo ld57 ?_
  refine grdT rfl ?_
  have lY:=hY4.1
  have lq2:=hY3.2.1
  refine cpu rfl rfl (r_sameInts hr2 hY2 (by omega) (by omega) ?_)
  refine grdT rfl ?_
  refine wo (x:=.bool false) rfl ?_
  refine wo (x:=.bool false) rfl ?_
  refine cndF rfl ?_
  refine Q5_22_ok ?_
  unfold TQ5_22_0
  refine wo (x:=.vptr (.vsl (Is d.1) d.2)) (by exact a1) ?_
  refine wo ld57 ?_
  have lPR:=hPR.1
  rw[show((ups _ _) 17:SV)=e 17 from rfl,h17]
  refine cpu rfl rfl (r_imul hpr hX2 (by omega) (by omega) (by intro h;rw[h]at lPR;simp at lPR) (by intro h;rw[h]at lX;simp at lX) (by omega) fun r3 c3 hr3=>?_)
  have hmo:=hPR.mul hX4
  rw[Pl.trI_mo hmo]at hr3
  refine Q5_23_ok ?_
  unfold TQ5_23_0
  refine wo (x:=.int .i64 ((i+1:Nat):Int)) ?_ ?_
  ·show bnS .add (some y3) (e 18) (.int .i64 1)=_
   rw[h18,b_add,sI (by omega)]
  refine ih (i+1) p deep K2 f F2 (mulL PR X) L D D2 cD cD2 c3 r3 xs ys S im il _ k hC (by omega) h8 h9 h11 h13 h15 h16 rfl rfl (hr3.mono (by omega)) (by rw[hds];exact hmo) (fun x=>?_) (fun e' pr' PR' cp' g7 g10 g15 g17 b1 b2 b3=>hk e' pr' PR' cp' g7 g10 g15 g17 b1 b2 b3)
  rw[Pl.ev_mulL,hev,List.take_add_one,hX1]
  exact(prI_snoc _ _ x).symm
theorem ext0{a b:SV}:extS (.tup [a,b]) 0=some a:=rfl
theorem ext1{a b:SV}:extS (.tup [a,b]) 1=some b:=rfl
theorem law5_last{p deep:Nat}{f2:List (Int×VC)}{F2 PR:List Int}{L:List (List Nat×VC)}{xs:List (List Int)}{S:Zt}{im:Nat}{cm cp:VC}{pr:List (Int×VC)}{e:En}{k:SV→Zt→Prop}{N:Nat}
  (hp:IsP p) (hp2:p≤2147483647) (hd0:0<deep) (hd9:deep≤9) (hds:dsum (L.map (·.1))≤10) (x1:Lft p deep F2 (L.map (·.1)) xs) (hF:MoI (dsum (L.map (·.1))) F2) (hf:Zl f2 F2 N) (hN:N<10000)
  (sm:S[im]?=some (.cells [I ((p:Int)^deep) cm] true)) (hcm:cm=.nil→(p:Int)^deep=0) (h7:e 7=.bool true) (h10:RoZ S (e 10) f2 1) (h15:e 15=.optr im 0 0) (him:im<S.length) (h17:e 17=.vsl (Is pr) cp) (hpr:Zl pr PR 2000) (hPR:MoI (dsum (L.map (·.1))) PR) (hev:∀x,ev PR x=prI xs x)
  (hk:∀S',k (.bool true) S'):TK5_0e0 e S k:=by
 have hp1:=hp.1
 have hpk:=Pl.two_le_pow (p:=p) (j:=deep) (by omega) hd0
 have hwm:=wd_pow (z:=(p:Int)) (by omega) deep
 have lPR:=hPR.1
 have lF:=hF.1
 unfold TK5_0e0
 refine Q5_24_ok ?_
 unfold TQ5_24_0
 rw[h15,h17]
 refine wo (load_I sm) ?_
 refine cpu rfl rfl (r_near hpr hpk hcm hwm (by omega) (by omega) (by omega) fun r c' hr=>?_)
 refine wo (load_I sm) ?_
 obtain⟨cz,hz⟩:=h10.fz
 refine call_fz2 (b:=1) rfl hz (fz_pure rfl) (fun S' _=>?_)
 refine r_near hf hpk hcm hwm (by omega) (by omega) (by omega) fun r2 c2 hr2=>?_
 have heq:nearL ((p:Int)^deep) PR=nearL ((p:Int)^deep) F2:=by
  by_cases hL:L.map (·.1)=[]
  ·rw[hL]at hPR hF
   rw[moI_zero hPR,moI_zero hF]
  ·refine Pl.nearL_congr hpk (by omega) ?_
   exact(x1.prod (by omega) hd0 hL).congr hev (fun _=>rfl)
 rw[heq]at hr
 have hlen:=Pl.trI_len (nearL ((p:Int)^deep) F2)
 have hlen2:(nearL ((p:Int)^deep) F2).length=F2.length:=by simp[nearL]
 refine cpu rfl rfl (r_sameInts hr hr2 (by omega) (by omega) ?_)
 refine grdT rfl ?_
 refine wo (x:=.bool true) ?_ ?_
 ·show pickS (.bool true) (e 7) (.bool false)=_
  rw[h7];rfl
 exact hk _
theorem law5_rest{p deep N:Nat}{f f2:List (Int×VC)}{F F2:List Int}{L:List (List Nat×VC)}{S:Zt}{cf0 cL:VC}{e:En}{Q:SV→Prop}
  (hp:IsP p) (hp2:p≤2147483647) (hd0:0<deep) (hd9:deep≤9) (ok:OkL p L F f 5) (hf:Zl f2 F2 N) (hN:N≤1000) (hF:MoI (dsum (L.map (·.1))) F2) (hc:Cg p (ev F2) (prN (L.map (·.1))))
  (h7:e 7=.bool true) (h8:e 8=.optr 0 0 0) (h9:e 9=.int .i64 (deep:Int)) (h10:RoZ S (e 10) f2 1) (s0:S[0]?=some (.cells [.agg [.vsl (Is f) cf0,.vsl (Ps L) cL,.int .u64 (p:Int)]] true)) (hQ:Q (.bool true)) :
  runP cT (cW cT) (rW cT) 206 O5_9 false 0 O5_9 e S fun e S=>
  runP cT (cW cT) (rW cT) 206 O5_10 false 0 O5_10 e S fun e S=>
  runP cT (cW cT) (rW cT) 206 O5_11 false 0 O5_11 e S fun e S=>
  condP (e 93)
  (runP cT (cW cT) (rW cT) 206 O5_12 false 0 O5_12 e S fun e S=>
  wpO (frz S dS (e 6)) Q)
  (runP cT (cW cT) (rW cT) 206 O5_13 false 0 O5_13 e S fun e S=>
  runP cT (cW cT) (rW cT) 206 O5_14 false 0 O5_14 e S fun e S=>
  runP cT (cW cT) (rW cT) 206 O5_15 false 0 O5_15 e S fun e S=>
  runP cT (cW cT) (rW cT) 206 O5_16 false 0 O5_16 e S fun e S=>
  DenP cT 206 (.loop L5_0) e S (K5_0 fun v S=>wpO (frz S dS v) Q)):=by
 have hp1:=hp.1
 have hds:=ok.ds
 have hLl:=ok.len
 have hmo:∀q∈L,∃n,1≤n∧n≤50∧Mo p n q.1:=fun q hq=>by obtain⟨n,a,b,c⟩:=ok.mo q hq;exact⟨n,a,by omega,c⟩
 refine Q5_9_ok ?_
 unfold TQ5_9_0
 rw[h8,h9]
 refine wo (x:=.optr 0 0 1) rfl (wo (ld_g1 s0) (wo (x:=.optr 0 0 2) rfl (wo (ld_g2 s0) ?_)))
 obtain⟨cz,hz⟩:=h10.fz
 refine call_sn (b:=1) (args':=[.vsl (Is f2) cz,.vsl (Ps L) cL,.int .u64 (p:Int),.int .i64 (deep:Int)]) rfl ⟨hz,fz_pure rfl,fz_pure rfl,fz_pure rfl,trivial⟩ (fun S1 hK1 hs1=>?_)
 have s01:=hK1.at (by decide) s0
 have h101:=h10.sn hs1
 refine f_Lift (by omega) hd0 (by omega) hp hp2 hmo (by omega) ok.cop hf hN hF hc (fun D xs cD x1 z1=>?_)
 refine wo ext0 (wo ext1 ?_)
 refine Q5_10_ok ?_
 unfold TQ5_10_0
 refine wo (x:=.optr 0 0 1) ?_ (wo (ld_g1 s01) (wo (x:=.optr 0 0 2) ?_ (wo (ld_g2 s01) ?_)))
 ·show faS cT y69 (e 8) 1=_
  rw[h8];rfl
 ·show faS cT y69 (e 8) 2=_
  rw[h8];rfl
 refine wo (x:=.int .i64 ((deep/2:Nat):Int)) ?_ ?_
 ·show bnS .quo (some y3) (e 9) (.int .i64 2)=_
  rw[h9];exact quo2 (by omega)
 refine wo (x:=.int .i64 ((1+deep/2:Nat):Int)) ?_ ?_
 ·rw[b_add,wrap64 (by omega) (by omega)];congr 2
 obtain⟨cz2,hz2⟩:=h101.fz
 refine call_sn (b:=1) (args':=[.vsl (Is f2) cz2,.vsl (Ps L) cL,.int .u64 (p:Int),.int .i64 ((1+deep/2:Nat):Int)]) rfl ⟨hz2,fz_pure rfl,fz_pure rfl,fz_pure rfl,trivial⟩ (fun S2 hK2 hs2=>?_)
 have s02:=hK2.at (by decide) s01
 have h102:=h101.sn hs2
 refine f_Lift (by omega) (by omega) (by omega) hp hp2 hmo (by omega) ok.cop hf hN hF hc (fun D2 ys cD2 x2 z2=>?_)
 refine wo ext0 (wo ext1 ?_)
 unfold TQ5_10_1
 refine Q5_11_ok ?_
 unfold TQ5_11_0
 have lD:=len_Lft (by omega) hd0 x1 z1
 have lD2:=len_Lft (by omega) (by omega) x2 z2
 have a3:faS cT y69 (e 8) 1=some (.optr 0 0 1):=by rw[h8];rfl
 have a4:faS cT y69 (e 8) 2=some (.optr 0 0 2):=by rw[h8];rfl
 refine wo (x:=.bool false) rfl ?_
 iterate 2 refine grdN rfl ?_
 refine wo (x:=.bool false) rfl ?_
 refine wo (x:=.bool false) rfl ?_
 iterate 2 refine grdN rfl ?_
 refine wo (len61 D cD) ?_
 refine grdN rfl ?_
 refine wo (x:=.optr 0 0 1) (by exact a3) ?_
 refine grdN rfl ?_
 refine wo (ld_g1 s02) ?_
 refine grdN rfl ?_
 refine wo (len60 L cL) ?_
 unfold TQ5_11_1
 refine grdN rfl ?_
 refine wo (x:=.bool false) ?_ ?_
 ·show bnS .neq (some y3) (.int .i64 (D.length:Int)) (.int .i64 (L.length:Int))=_
  rw[b_neq,decide_eq_false (by omega)]
 refine wo (x:=.bool false) rfl ?_
 iterate 2 refine grdN rfl ?_
 refine wo (len61 D2 cD2) ?_
 refine grdN rfl ?_
 refine wo (x:=.optr 0 0 1) (by exact a3) ?_
 refine grdN rfl ?_
 refine wo (ld_g1 s02) ?_
 refine grdN rfl ?_
 refine wo (len60 L cL) ?_
 refine grdN rfl ?_
 refine wo (x:=.bool false) ?_ ?_
 ·rw[b_neq,decide_eq_false (by omega)]
 refine wo (x:=.bool false) rfl ?_
 refine cndF rfl ?_
 refine Q5_13_ok ?_
 unfold TQ5_13_0
 refine wo (x:=.optr 0 0 2) (by exact a4) ?_
 refine wo (ld_g2 s02) ?_
 rw[show((ups _ _) 9:SV)=e 9 from rfl,h9]
 refine cpu rfl rfl (r_power (by omega) (by omega) (by omega) fun cm hcm=>?_)
 refine newI (fun S3 hm3 hK3 hl3=>?_)
 have s03:=hK3.at (at_lt s02) s02
 refine Q5_14_ok ?_
 unfold TQ5_14_0
 refine wo (x:=.optr 0 0 2) (by exact a4) ?_
 refine wo (ld_g2 s03) ?_
 refine wo (x:=.int .i64 ((deep/2:Nat):Int)) ?_ ?_
 ·show bnS .quo (some y3) (e 9) (.int .i64 2)=_
  rw[h9];exact quo2 (by omega)
 refine wo (x:=.int .i64 ((1+deep/2:Nat):Int)) ?_ ?_
 ·rw[b_add,wrap64 (by omega) (by omega)];congr 2
 refine cpu rfl rfl (r_power (by omega) (by omega) (by omega) fun cl hcl=>?_)
 refine newI (fun S4 hm4 hK4 hl4=>?_)
 have s04:=hK4.at (at_lt s03) s03
 have sm4:=hK4.at (at_lt hm3) hm3
 have sn34:Sn S2 S4:=fun i es lv h=>⟨lv,hK4.at (at_lt (hK3.at (at_lt h) h)) (hK3.at (at_lt h) h)⟩
 have h104:=h102.sn sn34
 refine Q5_15_ok ?_
 unfold TQ5_15_0
 refine wo (x:=(.osl S4.length 1 0 1 (some 1),S4++[Row.cells (u64s [1]) true])) rfl ?_
 have hnew:(S4++[Row.cells (u64s [1]) true])[S4.length]?=some (.cells (u64s [1]) true):=at_new
 refine call_ex1 (P:=fun i=>i=S4.length) rfl (fzp_row (id:=S4.length) (l:=[1]) hnew rfl) (fun S5 hk5 hs5 hl5=>?_)
 refine r_ints (by decide) (by decide) (fun p0 cp0 hp0=>?_)
 have hmo0:MoI 0 (nv [1]):=⟨rfl,rfl⟩
 rw[Pl.trI_mo hmo0]at hp0
 have up:∀i r,S4[i]?=some r→S5[i]?=some r:=fun i r h=>by
  rw[hk5 i (by have:=at_lt h;omega)]
  exact at_app h
 have s05:=up _ _ s04
 have sm5:=up _ _ sm4
 have sl5:=up _ _ hm4
 have h105:=h104.sn (fun i es lv h=>⟨lv,up _ _ h⟩)
 refine Q5_16_ok ?_
 unfold TQ5_16_0
 refine law5_loop L.length 0 p deep (1+deep/2) f F2 (nv [1]) L D D2 cD cD2 cp0 p0 xs ys S5 S2.length S3.length _ _ ⟨hp,hp2,hd0,hd9,by omega,by omega,rfl,hLl,by omega,x1,x2,z1,z2,⟨cf0,cL,true,s05⟩,⟨cm,sm5,hcm⟩,⟨cl,sl5,hcl⟩⟩ (by omega) h8 h9 rfl rfl rfl rfl rfl rfl hp0 hmo0 (fun x=>by simp[prI,nv,Pl.ev]) ?_
 intro e' pr' PR' cp' g7 g10 g15 g17 b1 b2 b3
 refine K5_0e0_ok ?_
 refine law5_last hp hp2 hd0 hd9 (by omega) x1 hF hf (by omega) sm5 hcm (g7.trans h7) ?_ g15 (at_lt sm5) g17 b1 b2 b3 (fun S'=>?_)
 ·rw[g10];exact h105
 ·exact hQ
theorem law5{l:List Int}{c:VC}{n kk:Nat}(hl:Rng l)(hn:n<4294967296)(hk:kk<256):wpO (pW cT 5 [.vsl (i8s l) c,.int .u32 (n:Int),.int .u8 (kk:Int)]) (fun v=>v=.bool true):=by
 refine po rfl (F5_ok (k:=fun v S=>wpO (frz S dS v) _) ?_)
 unfold F5
 refine Q5_0_ok ?_
 unfold TQ5_0_0
 refine Q5_1_ok ?_
 unfold TQ5_1_0
 refine cpu rfl rfl (c8 ?_)
 refine Q5_2_ok ?_
 unfold TQ5_2_0
 refine wo (x:=.bool false) rfl ?_
 refine cndF rfl ?_
 refine Q5_4_ok ?_
 unfold TQ5_4_0
 refine cpu rfl rfl (w_lifts hl hn (fun p L F f cf0 cL hp hp2 ok=>?_))
 have hp1:=hp.1
 refine wo (x:=(.optr 0 0 0,[Row.cells [y69.zero] true])) rfl ?_
 refine wo (x:=[Row.cells [.agg [.vsl (Is f) cf0,.vsl (Ps L) cL,.int .u64 (p:Int)]] true]) rfl ?_
 refine Q5_5_ok ?_
 unfold TQ5_5_0
 refine wo (x:=.int .u8 ((kk%9:Nat):Int)) ?_ ?_
 ·show bnS .rem (some y5) (.int .u8 (kk:Int)) (.int .u8 ((9:Nat):Int))=_
  exact b_remN (by decide)
 have hkk:=Nat.mod_lt kk (show 0<9 by decide)
 refine wo (x:=.int .i64 ((kk%9:Nat):Int)) ?_ ?_
 ·rw[conv3i,wrap64 (by omega) (by omega)]
 refine wo (x:=.int .i64 ((1+kk%9:Nat):Int)) ?_ ?_
 ·rw[b_add,wrap64 (by omega) (by omega)];congr 2
 obtain⟨deep,hdeep⟩:∃d,1+kk%9=d:=⟨_,rfl⟩
 rw[hdeep]
 refine Q5_6_ok ?_
 unfold TQ5_6_0
 have s0:([Row.cells [.agg [.vsl (Is f) cf0,.vsl (Ps L) cL,.int .u64 (p:Int)]] true]:Zt)[0]?=some (.cells [.agg [.vsl (Is f) cf0,.vsl (Ps L) cL,.int .u64 (p:Int)]] true):=rfl
 generalize hS:([Row.cells [.agg [.vsl (Is f) cf0,.vsl (Ps L) cL,.int .u64 (p:Int)]] true]:Zt)=S at s0
 have hSl:S.length=1:=by rw[←hS];rfl
 refine Own.bsl (by decide) rfl (fun v S1 hO hK hl1=>?_)
 have s01:=hK.at (at_lt s0) s0
 refine wo (x:=.optr 0 0 0) rfl (wo (ld_g0 s01) ?_)
 have lF:=ok.fm.1
 have hds:=ok.ds
 have hfl:=ok.zl.len
 refine pushAll (j:=y44) (xs:=Is f) hO (by decide) rfl ?_ rfl ?_ ?_ (fun v2 S2 hO2 hK2=>?_)
 ·simp only[sizesOk,List.all_eq_true]
  intro x hx
  simp only[Is,List.mem_map]at hx
  obtain⟨q,_,rfl⟩:=hx
  rfl
 ·rw[List.length_nil,Is_len];show(0+f.length)*32≤_;unfold roomS;omega
 ·rw[List.length_nil,Is_len];unfold roomS;omega
 rw[List.nil_append,hSl]at hO2
 rw[hSl]at hK2
 have s02:=hK2.at (by decide) s01
 refine Q5_7_ok ?_
 unfold TQ5_7_0
 refine wo (x:=.int .i64 (f.length:Int)) ?_ ?_
 ·show lenS y57 v2=_
  rw[hO2.own.len rfl,Is_len]
 by_cases h1:(1:Int)<(f.length:Int)
 ·refine wo (x:=.bool true) (by rw[b_gtr,decide_eq_true h1]) ?_
  refine cndT rfl ?_
  refine Q5_8_ok ?_
  unfold TQ5_8_0
  obtain⟨q,hq⟩:∃q,f[0]?=some q:=⟨f[0]'(by omega),by simp⟩
  have hqz:q.1=cf F 0:=by rw[←ok.zl.at];unfold zAt;rw[hq]
  have hcb:=cf_bd ok.zl.bd 0
  refine getI (i:=0) hO2.own hq (fun pp=>?_)
  refine wo (x:=.int .i64 (kk:Int)) ?_ ?_
  ·show convS y2 (.int .u8 (kk:Int))=_
   rw[conv2,wrap64 (by omega) (by omega)]
  refine cpu rfl rfl (c23 (by omega) (by omega) fun c1 hc1=>?_)
  refine wo (x:=.optr 0 0 2) rfl (wo (ld_g2 s02) ?_)
  rw[conv2,ws,wrap64 (n:=(p:Int)) (by omega) (by omega)]
  refine cpu rfl rfl (c23 (by omega) (by omega) fun c2 hc2=>?_)
  have hkb:=wd_small (z:=(kk:Int)) (by omega)
  have hpb:=wd_small (z:=(p:Int)) (by omega)
  refine cpu rfl rfl (c26 (by omega) (by omega) fun c3 hc3=>?_)
  have hm:=wd_mulz hkb hpb
  unfold TQ5_8_1
  show wpO (cW cT 35 [I q.1 q.2,I ((kk:Int)*(p:Int)) c3] S2) _
  rw[hqz]
  refine cpu rfl rfl (c30 (by omega) (by omega) fun c4 hc4=>?_)
  refine putI (i:=0) hO2.own (by omega) (fun pp S3 hO3 hon3 _=>?_)
  have s03:=hon3.at hO2.own (by decide) s02
  obtain⟨b1,b2,b3⟩:=okF ok (Nat.le_refl _) hk hp2 (by omega) hc4
  exact law5_rest hp hp2 (by omega) (by omega) ok b1 (by omega) b2 b3 rfl rfl rfl (Own.roz hO3) s03 rfl
 ·refine wo (x:=.bool false) (by rw[b_gtr,decide_eq_false h1]) ?_
  refine cndF rfl ?_
  exact law5_rest hp hp2 (by omega) (by omega) ok ok.zl (by omega) ok.fm (Cg.of_eq ok.fe) rfl rfl rfl (Own.roz hO2.own) s02 rfl
end Go.Proofs
