/-
  FactorModular: called with any slice of 64-bit numbers and any 32-bit number, the law returns true and leaves them as they were. No condition: every input that the row can read.
-/
import Derived.Test.YtilhffelllbggaaGreatMPf
import Derived.Test.YtilhffelllbggaaGreatMTok
import Derived.Test.YtilhffelllbggaaGreatRows
import Derived.ProofKit
set_option linter.unusedVariables false
set_option linter.unusedSimpArgs false
namespace Go.Sh
open Go.RowKit
theorem pureOkW{P:Program}{cfg:Cfg}(hC:CfgOk P cfg){f:FuncId}{args:List SV}{v:SV}(h:pW cfg f args=some v):PureOk P f args v:=by
 obtain⟨n,hn⟩:=(sup_iff (mon_pcall f args)).1 h
 exact(sound hC n).pure _ _ _ hn
theorem below_of{F F':Fset}{w w':World}(h:PExt F w F' w'):Below w.heap.size w w':=⟨h.os,h.tape,h.output,h.size,h.frame⟩
theorem calls_of{P:Program}{f:FuncId}{args:List SV}{r:SV}(h:PureOk P f args r){F:Fset}{w:World}{vals:List Value}(hF:Fok F w)(hv:VRs noI F w args vals){R:Ending→World→Prop}
  (hR:∀x F' w',VR noI F' w' r x→PExt F w F' w'→R (.returned x) w'):Calls P f vals.toArray w R:=by
 obtain⟨x,F',w',hc,hr,hx⟩:=h.2 F w vals hF hv
 intro cs
 obtain⟨fr,h1,h2,h3⟩:=hc cs
 exact⟨.returned x,w',fr,hR x F' w' hr hx,h3,h1,h2⟩
def allF(w:World):Fset:=fun b o=>∃v,w.cell? ⟨b,o,none⟩=some v
theorem allF_ok(w:World):Fok (allF w) w:=fun b o h=>h
end Go.Sh
namespace Go.Proofs.YtilhffelllbggaaGreat
open Go.ChangeShapes Go.WideShapes Go.ChangeAt Go.RowKit Go.Sh
theorem Tryz.own:ownKnob Tryz.prog.godebug=none:=by kernel_rfl
theorem Tryz.laidOut:laidOutB Tryz.prog=true:=by kernel_rfl
theorem spot_none{P:Program}{w:World}{r:Reach}{base:Nat}{t e:TypeId}(ht:P.underlying t=some (.slice e)){a:Addr}{len cap:Nat}(h:Value.okWide P w r base t (.slice (some a) len cap)):a.spot=none:=by
 simp only[Value.okWide,ht,Cell.okWide,Cell.ok]at h
 exact h.2.2.2.1
set_option maxRecDepth 100000 in
theorem arg_read{H:Type}{enc:TypeId×Value→H}{W:World}{base:Nat}{v:Value}{d:DataW H}{p:List MemPlace}(hval:Value.okWide Tryz.prog W .any base 22 v)(h:DataW.Trod enc Tryz.prog W 0 (fun _=>true) true 22 v d p) :
  ∃l c,VR noI (allF W) W (.vsl (u64s l) c) v:=by
 obtain⟨a0,len,cap,rfl⟩:=okWide_slice Tryz.underlying22 hval
 obtain⟨fuel,hf⟩:=h
 rcases open_ints Tryz.underlying22 Tryz.underlying25 (by kernel_rfl) hf with⟨hcs,hx⟩|⟨a,len',cap',zs,hcs,_,hl,hm,hz,hx,hcell,hwz⟩
 ·simp[Value.cells]at hcs
  obtain⟨rfl,rfl,rfl⟩:=hcs
  exact⟨[],.nil,none,0,rfl,Nat.le_refl _,(fun _=>⟨rfl,rfl,rfl⟩),(fun h=>absurd rfl h),(fun h=>by cases h)⟩
 ·simp[Value.cells]at hcs
  obtain⟨rfl,rfl,rfl⟩:=hcs
  have hs:=spot_none Tryz.underlying22 hval
  obtain⟨b,off,spot⟩:=a
  simp only at hs
  subst hs
  simp only[if_true]at hz
  have hlen:(u64s ((zs.take len).map Int.toNat)).length=len:=by simp[u64s];omega
  refine⟨(zs.take len).map Int.toNat,.loose,some ⟨b,off,none⟩,cap,?_,?_,(fun h=>by cases h),fun _=>⟨b,off,1,rfl,(by decide),?_⟩,(fun h=>by cases h)⟩
  ·rw[hlen]
  ·rw[hlen];exact hl
  ·rw[VE_iff]
   intro i e he
   simp only[u64s,List.getElem?_map,Option.map_eq_some_iff]at he
   obtain⟨z,⟨z',hz1,rfl⟩,rfl⟩:=he
   have hw:=hwz z' (List.mem_of_mem_take (List.mem_of_getElem? hz1))
   have hnn:0≤z':=by
    have e1:IntKind.min .u64=0:=rfl
    have e2:IntKind.max .u64=18446744073709551615:=rfl
    simp only[Lit.wf,e1,e2,Bool.and_eq_true,decide_eq_true_eq]at hw
    exact hw.1
   rw[List.getElem?_take]at hz1
   split at hz1
   ·rename_i hi
    have hc:=hcell i (by omega)
    have hg:zs.getD i 0=z':=by simp[List.getD,hz1]
    rw[hg]at hc
    have ha:(⟨b,off,none⟩:Addr).add i=⟨b,off+i,none⟩:=by
     unfold Addr.add
     split
     ·rename_i h0;subst h0;rfl
     ·rfl
    rw[ha]at hc
    refine⟨.int .u64 ((z'.toNat:Nat):Int),rfl,rfl,fun j hj=>?_⟩
    have:j=0:=by omega
    subst this
    rw[Nat.mul_one,Nat.add_zero,Int.toNat_of_nonneg hnn]
    exact⟨⟨_,hc⟩,hc⟩
   ·cases hz1
set_option maxRecDepth 100000 in
theorem factorModular_lifted(os:Os)(started:os.Started)(H:Type)(enc:TypeId×Value→H) :
  ReturnsInHanded {} Tryz.checked os 3 .any (Rows.factorModularSpec.pre6 enc Tryz.prog Tryz.f3 Rows.factorModularRow.domain false) (Rows.factorModularSpec.post enc Tryz.prog Tryz.f3 false true false false):=by
 refine returnsInHanded_of_change (C:=Tryz.checked) Tryz.own started (by kernel_rfl) Tryz.func3
  (ChangeSpec.witness6 (enc:=enc) (C:=Tryz.checked) false ⟨#[],#[.slice none 0 0,.int .u32 0],[]⟩ 8 (by kernel_rfl) (by kernel_rfl) (by kernel_rfl) (by kernel_rfl)) ?_
 intro W base args ds gs before hval0 hW hcnd _
 have hval:∀(j:Nat) t v,Tryz.f3.params[j]?=some t→args[j]?=some v→Value.okWide Tryz.prog W .any base t v:=hval0
 have hW':=hW
 obtain⟨p,q,hA0,hV,rfl,hfz,hnd⟩:=hW
 have hA:DataW.TrodAll enc Tryz.prog W 0 (fun _=>true) true Tryz.f3.params.toList args.toList ds p:=hA0
 rw[Tryz.params3]at hA hval
 obtain⟨v0,v1,d0,d1,p0,p1,rfl,rfl,rfl,h0,h1⟩:=trodAll_two hA
 obtain⟨rfl,rfl⟩:=trodVars_none hV
 obtain⟨l,c,r0⟩:=arg_read (hval 0 22 v0 rfl rfl) h0
 obtain⟨a,rfl,rfl,rfl,wa⟩:=open_int Tryz.underlying23 (hval 1 23 v1 rfl rfl) h1
 have ha:0≤a∧a≤4294967295:=by
  have e1:IntKind.min .u32=0:=rfl
  have e2:IntKind.max .u32=4294967295:=rfl
  simpa only[Lit.wf,e1,e2,Bool.and_eq_true,decide_eq_true_eq]using wa
 obtain⟨n,hn⟩:=Int.eq_ofNat_of_zero_le ha.1
 have hrun:=wpO_iff.1 (Go.Proofs.law3 (a:=l) (c:=c) (n:=n) (by omega))
 obtain⟨v,hv,rfl⟩:=hrun
 rw[←hn]at hv
 have hok:=pureOkW Go.Proofs.cfgT_ok hv
 simp only[List.append_nil]at hW'
 refine calls_of hok (allF_ok W) (vals:=[v0,.int .u32 a]) ⟨v0,_,rfl,r0,_,_,rfl,rfl,rfl⟩ ?_
 intro x F' w' hx hp
 have hxb:x=.bool true:=hx
 subst hxb
 have hb:=below_of hp
 refine⟨_,rfl,_,_,_,[],p0,[],hW',?_,?_,rfl,hb.frame _,fun h=>by cases h⟩
 ·exact trodAll_mk1 (shut_bool Tryz.underlying4 true)
 ·have:=trodAll_mk2 (Below.trod Tryz.laidOut (by kernel_rfl) (of_decide_eq_true (by kernel_rfl)) h0 hb (fun x hx=>by simpa using hW'.lt x (by simp[hx]))) (shut_int (enc:=enc) (P:=Tryz.prog) (w:=w') (base:=0) (spare:=fun b=>decide (b<W.heap.size)) (held:=true) Tryz.underlying23 wa)
  simp only[List.append_nil]at this
  exact this
theorem factorModular_holds:Rows.FactorModularSaid:=
 OpenClaim.holds_of_wide 3 Tryz.f3 rfl rfl rfl rfl rfl rfl rfl ⟨rfl,rfl,rfl,rfl,rfl⟩ rfl rfl rfl rfl rfl (by kernel_rfl) Tryz.func3 (by kernel_rfl)
  (of_decide_eq_true (by kernel_rfl)) (by unfold Func.isWrapper;first|(rw[if_pos (by decide +kernel)];kernel_rfl)|(rw[if_neg (by decide +kernel)];exact⟨rfl,rfl⟩))
  (fun os started H enc _=>factorModular_lifted os started H enc)
#print axioms factorModular_holds
end Go.Proofs.YtilhffelllbggaaGreat
