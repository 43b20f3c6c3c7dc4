/-
  The shadow machine against the model: regions that draw their order, loops, calls; its soundness.
-/
import Derived.Test.YtilhffelllbggaaGreatMB
import Derived.RangeFuncRecord
import Derived.Laws.Sem
set_option linter.unusedVariables false
set_option linter.unusedSimpArgs false
namespace Go.Sh
section drawn
variable {P:Program} {cfg:Cfg} {call:CallT} {rnd:Nat→List SV→Zt→Option (SV×Zt)} {ops:Array Oper} {E:Nat→List SV} {T:Nat→Zt} {V:Nat→SV}
def heavy(cfg:Cfg)(ops:List Oper)(E:Nat→List SV)(j:Nat):Prop:=∃o,ops[j]?=some o∧wantedS ops (E j) o=true∧(effS o.op=true∨quietCall cfg (E j) o.op=false)
theorem loud_sens{env:List SV}{S:Zt}{op:Op}{r:SV×Zt}(hq:quietCall cfg env op=false)(h:opS cfg call rnd env S op=some r):sens op=true∧effS op=false:=by
 cases op<;>try exact Bool.noConfusion (show true=false from hq)
 case call c=>
  obtain⟨cl,cargs,ats⟩:=c
  cases cl with
  |builtin b=>exact Bool.noConfusion (show true=false from hq)
  |invoke r m=>simp[opS]at h
  |value f=>exact⟨rfl,rfl⟩
theorem heavy_loud(hst:∀j o,ops.toList[j]?=some o→StepAt cfg call rnd ops.toList E T V j o){j:Nat}{o:Oper}(ho:ops.toList[j]?=some o)(hw:wantedS ops.toList (E j) o=true)(hq:quietCall cfg (E j) o.op=false) :
  sens o.op=true∧effS o.op=false∧lastOk ops.toList j=true:=by
 rcases (hst j o ho).2 with⟨h1,h2,h3⟩|⟨h1,h2⟩
 ·obtain⟨h4,h5⟩:=loud_sens hq h3
  refine⟨h4,h5,h2.resolve_left (by rw[hq];simp)⟩
 ·rw[hw]at h1;cases h1
theorem sens_before(hf:DrawFacts ops.toList)(hst:∀j o,ops.toList[j]?=some o→StepAt cfg call rnd ops.toList E T V j o){j i:Nat}{oi:Oper}(hh:heavy cfg ops.toList E j)(ho:ops.toList[i]?=some oi)(hs:sens oi.op=true)(hij:i≠j) :
  bit ops.toList j i=true:=by
 obtain⟨o,h1,h2,h3⟩:=hh
 by_cases he:effS o.op=true
 ·rcases Nat.lt_or_gt_of_ne hij with h|h
  ·exact(hf.tied i j _ _ ho h1 h (tied_e he (.inl hs))).2
  ·exact absurd ⟨he,hs⟩ (hf.tied j i _ _ h1 ho h (tied_s he hs)).1
 ·exact lastOk_spec (heavy_loud hst h1 h2 (h3.resolve_left he)).2.2 ho hij (.inl hs)
theorem heavy_before(hf:DrawFacts ops.toList)(hst:∀j o,ops.toList[j]?=some o→StepAt cfg call rnd ops.toList E T V j o){i j:Nat}(hi:heavy cfg ops.toList E i)(hj:heavy cfg ops.toList E j)(hij:i<j):bit ops.toList j i=true:=by
 obtain⟨oi,a1,a2,a3⟩:=hi
 have hk:sens oi.op=true∨effS oi.op=true:=a3.elim .inr fun h=>.inl (heavy_loud hst a1 a2 h).1
 obtain⟨o,b1,b2,b3⟩:=hj
 by_cases he:effS o.op=true
 ·exact(hf.tied i j _ _ a1 b1 hij (tied_e he hk)).2
 ·exact lastOk_spec (heavy_loud hst b1 b2 (b3.resolve_left he)).2.2 a1 (by omega) hk
theorem light_sub(hcall:CallSpec P cfg call)(hst:∀j o,ops.toList[j]?=some o→StepAt cfg call rnd ops.toList E T V j o){j:Nat}(hj:j<ops.toList.length)(hh:¬heavy cfg ops.toList E j):Sub (T j) (T (j+1)):=by
 have ho:=List.getElem?_eq_getElem hj
 rcases (hst j _ ho).2 with⟨h1,h2,h3⟩|⟨h1,h2,h3⟩
 ·have h4:¬(effS ops.toList[j].op=true∨quietCall cfg (E j) ops.toList[j].op=false):=fun h=>hh ⟨_,ho,h1,h⟩
  simp only[not_or,Bool.not_eq_true,Bool.not_eq_false]at h4
  exact opQ_sub hcall h4.1 h4.2 h3
 ·rw[h3];exact .refl _
theorem light_same(hst:∀j o,ops.toList[j]?=some o→StepAt cfg call rnd ops.toList E T V j o){j:Nat}{o:Oper}(ho:ops.toList[j]?=some o)(hh:¬heavy cfg ops.toList E j)(hs:sens o.op=false):T (j+1)=T j:=by
 rcases (hst j _ ho).2 with⟨h1,h2,h3⟩|⟨h1,h2,h3⟩
 ·have h4:¬(effS o.op=true∨quietCall cfg (E j) o.op=false):=fun h=>hh ⟨_,ho,h1,h⟩
  simp only[not_or,Bool.not_eq_true,Bool.not_eq_false]at h4
  exact(opT_quiet h4.1 hs h3).2
 ·exact h3
theorem first_heavy(H:Nat→Prop):∀n,∃e,e≤n∧(∀j,j<e→¬H j)∧(e=n∨H e)
 |0=>⟨0,Nat.le_refl _,fun j h=>by omega,.inl rfl⟩
 |n+1=>by
  obtain⟨e,h1,h2,h3⟩:=first_heavy H n
  rcases h3 with rfl|h3
  ·by_cases hH:H e
   ·exact⟨e,by omega,h2,.inr hH⟩
   ·refine⟨e+1,by omega,fun j hj=>?_,.inl rfl⟩
    rcases Nat.lt_succ_iff_lt_or_eq.1 hj with h|rfl
    ·exact h2 j h
    ·exact hH
  ·exact⟨e,by omega,h2,.inr h3⟩
structure DI (P : Program) (cfg : Cfg) (ops : List Oper) (E : Nat → List SV) (T : Nat → Zt) (V : Nat → SV) (e : Nat) (ι0 : IM) (F0 : Fset) (w0 : World) (d0 : List Deferred) (L : Nat → Bool) (a : Act) (w : World) : Prop where
  closed : Closed ops L
  defers : a.defers = d0
  st : ∃ ι F, VRs ι F w (el ops V (E 0) L ops.length) a.tmps.toList ∧
    (((∀ j, heavy cfg ops E j → L j = false) ∧ Rel ι F (T e) w ∧ Ext ι0 F0 (T 0) w0 ι F (T e) w ∧ ∀ i, i < e → L i = false → ∀ id, (T i).length ≤ id → id < (T (i + 1)).length → ι id = none) ∨
     ∃ m, heavy cfg ops E m ∧ (∀ j, heavy cfg ops E j → (L j = true ↔ j ≤ m)) ∧ (∀ i o, ops[i]? = some o → sens o.op = true → L i = true) ∧ Rel ι F (T (m + 1)) w ∧ Ext ι0 F0 (T 0) w0 ι F (T (m + 1)) w)
theorem DI.step(hT:TyAll P cfg)(hcall:CallSpec P cfg call)(hrnd:RndSpec P rnd)(hf:DrawFacts ops.toList)(hst:∀j o,ops.toList[j]?=some o→StepAt cfg call rnd ops.toList E T V j o)
  {e:Nat} (he0:e≤ops.toList.length) (he1:∀j,j<e→¬heavy cfg ops.toList E j) (he2:e=ops.toList.length∨heavy cfg ops.toList E e)
  {ι0:IM} {F0:Fset} {w0:World} {d0:List Deferred} {L:Nat→Bool} {a:Act} {w:World} (D:DI P cfg ops.toList E T V e ι0 F0 w0 d0 L a w) (hd0:∀id ix,ι0 id=some ix→id<(T 0).length) {j:Nat} {o:Oper} (ho:ops.toList[j]?=some o) (hu:L j=false)
  (hr:∀ed∈o.after.toList,Region.binds .any ed=true→L ed.on=true) :
  ∃a' w',DI P cfg ops.toList E T V e ι0 F0 w0 d0 (fun i=>i==j || L i) a' w'∧∀(b:Frame) (k:List Item) (cs:List Frame) (rest:List Nat),Steps P (lone (atr b a (.inRegion ops (j::rest)::k)) cs w) (lone (atr b a' (.inRegion ops rest::k)) cs w'):=by
 have hj:j<ops.toList.length:=(List.getElem?_eq_some_iff.1 ho).1
 have hoA:ops[j]?=some o:=by rw[←Array.getElem?_toList];exact ho
 have hreads:=el_reads hf hst D.closed ho hu hr
 have hclosed:Closed ops.toList (fun i=>i==j || L i):=by
  intro j' o' i ho' hL hb
  simp only[Bool.or_eq_true,beq_iff_eq]at hL ⊢
  rcases hL with rfl|hL
  ·rw[ho]at ho';cases ho'
   exact .inr (ready_bits D.closed hf ho hr hb)
  ·exact .inr (D.closed _ _ _ ho' hL hb)
 have hel:=el_put (V:=V) (env:=E 0) hf D.closed ho hu
 obtain⟨ι,F,hv,hstage⟩:=D.st
 have subs:∀i i',i≤i'→i'≤e→Sub (T i) (T i'):=by
  intro i i' h1 h2
  induction i' with
  |zero=>rw[show i=0 by omega];exact .refl _
  |succ i' ih=>
   by_cases hi:i=i'+1
   ·rw[hi];exact .refl _
   ·exact(ih (by omega) (by omega)).trans (light_sub hcall hst (by omega) (he1 i' (by omega)))
 have hheavyN:∀i,heavy cfg ops.toList E i→e≤i:=fun i hi=>by
  rcases Nat.lt_or_ge i e with h|h
  ·exact absurd hi (he1 i h)
  ·exact h
 have heavyE:∀i,heavy cfg ops.toList E i→heavy cfg ops.toList E e:=fun i hi=>by
  rcases he2 with h|h
  ·have h0:=hheavyN i hi
   obtain⟨o',h1,_⟩:=hi
   have:=(List.getElem?_eq_some_iff.1 h1).1
   omega
  ·exact h
 have keep:∀(a':Act) (v:SV) (x:Value),¬heavy cfg ops.toList E j→V j=v→VR ι F w v x→a'=a.put o.dst x→DI P cfg ops.toList E T V e ι0 F0 w0 d0 (fun i=>i==j || L i) a' w:=by
  intro a' v x hnh hVj hvx ha
  refine⟨hclosed,by rw[ha,put_defers];exact D.defers,ι,F,by rw[hel,ha,hVj];exact put_tmps hv hvx,?_⟩
  rcases hstage with⟨k1,k2,k3,k4⟩|⟨m,k1,k2,k3,k4,k5⟩
  ·refine .inl ⟨fun i hi=>?_,k2,k3,fun i hi hL=>?_⟩
   ·simp only[Bool.or_eq_false_iff,beq_eq_false_iff_ne,ne_eq]
    exact⟨fun h=>hnh (h▸hi),k1 i hi⟩
   ·simp only[Bool.or_eq_false_iff]at hL
    exact k4 i hi hL.2
  ·refine .inr ⟨m,k1,fun i hi=>?_,fun i oi hoi hs=>by simp[k3 i oi hoi hs],k4,k5⟩
   have:(i==j)=false:=by simp only[beq_eq_false_iff_ne,ne_eq];exact fun h=>hnh (h▸hi)
   simp only[this,Bool.false_or]
   exact k2 i hi
 have hwant:wantedS ops.toList (el ops.toList V (E 0) L ops.toList.length) o=wantedS ops.toList (E j) o:=reads_wanted hreads
 rcases (hst j o ho).2 with⟨h1,h2,h3⟩|⟨h1,h2,h3⟩
 case inr=>
  have hnh:¬heavy cfg ops.toList E j:=fun⟨o',k1,k2,_⟩=>by rw[ho]at k1;cases k1;rw[h1]at k2;cases k2
  refine⟨a.put o.dst undef,w,keep _ undefS undef hnh h2 undef_VR rfl,fun b k cs rest=>.one ?_⟩
  have:=st_op_skip (P:=P) (b:=b) (a:=a) (k:=k) (cs:=cs) (w:=w) (ops:=ops) (i:=j) (rest:=rest) (by
   simp only[hoA,Option.map_some,Option.getD_some]
   rw[←wanted_ok hv,hwant,h1])
  simpa[hoA]using this
 case inl=>
 have hwR:Region.wanted o (yielded ops a.tmps)=true:=by rw[←wanted_ok hv,hwant,h1]
 have hopc:opS cfg call rnd (el ops.toList V (E 0) L ops.toList.length) (T j) o.op=some (V j,T (j+1)):=by
  rw[opS_congr (reads_ops hreads)];exact h3
 have hqcc:quietCall cfg (el ops.toList V (E 0) L ops.toList.length) o.op=quietCall cfg (E j) o.op:=quiet_congr (reads_ops hreads)
 by_cases hh:heavy cfg ops.toList E j
 ·
  have hsens:∀i oi,ops.toList[i]?=some oi→sens oi.op=true→(fun i=>i==j || L i) i=true:=fun i oi hoi hs=>by
   simp only[Bool.or_eq_true,beq_iff_eq]
   by_cases hij:i=j
   ·exact .inl hij
   ·exact .inr (ready_bits D.closed hf ho hr (sens_before hf hst hh hoi hs hij))
  have hprev:∀i,heavy cfg ops.toList E i→i<j→L i=true:=fun i hi hij=>ready_bits D.closed hf ho hr (heavy_before hf hst hi hh hij)
  have hcur:Rel ι F (T j) w∧Ext ι0 F0 (T 0) w0 ι F (T j) w∧∀i,heavy cfg ops.toList E i→L i=true→i<j:=by
   rcases hstage with⟨k1,k2,k3,k4⟩|⟨m,k1,k2,k3,k4,k5⟩
   ·have hje:j=e:=by
     have hE:=heavyE j hh
     have:=hheavyN j hh
     rcases Nat.lt_or_ge e j with h|h
     ·have:=hprev e hE h;rw[k1 e hE]at this;cases this
     ·omega
    rw[hje]
    exact⟨k2,k3,fun i hi hL=>by rw[k1 i hi]at hL;cases hL⟩
   ·have hmj:m<j:=by
     rcases Nat.lt_or_ge m j with h|h
     ·exact h
     ·have:=(k2 j hh).2 h;rw[hu]at this;cases this
    have hE:=heavyE m k1
    have hem:=hheavyN m k1
    have same:∀q,m+1≤q→q≤j→T q=T (m+1):=by
     intro q
     induction q with
     |zero=>intro h _;omega
     |succ q ih=>
      intro h4 h5
      by_cases hq:q=m
      ·rw[hq]
      ·have hqo:=List.getElem?_eq_getElem (show q<ops.toList.length by omega)
       have hnq:¬heavy cfg ops.toList E q:=fun hq'=>by
        have:=(k2 q hq').1 (hprev q hq' (by omega));omega
       rw[light_same hst hqo hnq ?_,ih (by omega) (by omega)]
       cases hs:sens ops.toList[q].op with
       |false=>rfl
       |true=>have:=bit_lt hf (hE.choose_spec.1) (sens_before hf hst hE hqo hs (by omega));omega
    rw[same j (by omega) (Nat.le_refl _)]
    exact⟨k4,k5,fun i hi hL=>by have:=(k2 i hi).1 hL;omega⟩
  obtain⟨c1,c2,c3⟩:=hcur
  obtain⟨x,ι1,F1,w1,q1,q2,q3,q4⟩:=opS_ok hT hcall hrnd hv c1 hopc
  refine⟨a.put o.dst x,w1,⟨hclosed,by rw[put_defers];exact D.defers,ι1,F1,by rw[hel];exact put_tmps (hv.up q4.up) q2,.inr ⟨j,hh,fun i hi=>?_,hsens,q3,c2.trans hd0 q4⟩⟩,fun b k cs rest=>st_op hoA hwR (not_defer hopc) q1⟩
  simp only[Bool.or_eq_true,beq_iff_eq]
  constructor
  ·rintro (rfl|h)
   ·exact Nat.le_refl _
   ·exact Nat.le_of_lt (c3 i hi h)
  ·intro h
   rcases Nat.lt_or_eq_of_le h with h|h
   ·exact .inr (hprev i hi h)
   ·exact .inl h
 ·
  have h4:effS o.op=false∧quietCall cfg (E j) o.op=true:=by
   have:¬(effS o.op=true∨quietCall cfg (E j) o.op=false):=fun h=>hh ⟨o,ho,h1,h⟩
   simpa only[not_or,Bool.not_eq_true,Bool.not_eq_false]using this
  cases hs:sens o.op with
  |false=>
   obtain⟨ht,-⟩:=opT_quiet h4.1 hs hopc
   obtain⟨x,q1,q2⟩:=opT_to hT hv ht
   exact⟨a.put o.dst x,w,keep _ _ x hh rfl q2 rfl,fun b k cs rest=>st_op hoA hwR (not_defer hopc) q1⟩
  |true=>
   rcases hstage with⟨k1,k2,k3,k4⟩|⟨m,k1,k2,k3,k4,k5⟩
   ·
    have hje:j<e:=by
     rcases he2 with h|h
     ·omega
     ·rcases Nat.lt_trichotomy j e with h'|h'|h'
      ·exact h'
      ·exact absurd (h'▸h) hh
      ·have:=bit_lt hf (h.choose_spec.1) (sens_before hf hst h ho hs (by omega));omega
    obtain⟨-,x,ι1,F1,w1,q1,q2,q3,q4⟩:=opQ_ok hT hcall hv k2 h4.1 (hqcc.trans h4.2) hopc (subs (j+1) e hje (Nat.le_refl _)) (k4 j hje hu)
    have l0:=(subs 0 j (by omega) (by omega)).len
    refine⟨a.put o.dst x,w1,⟨hclosed,by rw[put_defers];exact D.defers,ι1,F1,by rw[hel];exact put_tmps (hv.up q4.up) q2,.inl ⟨fun i hi=>?_,q3,k3.quiet' q4 l0,fun i hi hL id hid1 hid2=>?_⟩⟩,fun b k cs rest=>st_op hoA hwR (not_defer hopc) q1⟩
    ·simp only[Bool.or_eq_false_iff,beq_eq_false_iff_ne,ne_eq]
     exact⟨fun h=>hh (h▸hi),k1 i hi⟩
    ·simp only[Bool.or_eq_false_iff,beq_eq_false_iff_ne,ne_eq]at hL
     have:=k4 i hi hL.2 id hid1 hid2
     cases hx:ι1 id with
     |none=>rfl
     |some ix=>
      rcases q4.inew id ix hx with h|⟨h5,h6,_⟩
      ·rw[this]at h;cases h
      ·exfalso
       rcases Nat.lt_or_gt_of_ne hL.1 with h|h
       ·have:=(subs (i+1) j h (by omega)).len;omega
       ·have:=(subs (j+1) i h (by omega)).len;omega
   ·have:=k3 j o ho hs
    rw[hu]at this;cases this
end drawn
end Go.Sh
namespace Go.Sh
def cnt(L:Nat→Bool):Nat→Nat
 |0=>0
 |m+1=>cnt L m+if L m then 0 else 1
theorem cnt_put{L:Nat→Bool}{j:Nat}(hu:L j=false):∀m,cnt (fun i=>i==j || L i) m+(if j<m then 1 else 0)=cnt L m
 |0=>by simp[cnt]
 |m+1=>by
  have ih:=cnt_put hu m
  simp only[cnt]
  by_cases hj:j=m
  ·subst hj
   simp only[BEq.rfl,Bool.true_or,if_true,hu,Bool.false_eq_true,if_false,Nat.lt_irrefl,Nat.lt_succ_self]at ih ⊢
   omega
  ·have h1:(m==j)=false:=by simp;omega
   simp only[h1,Bool.false_or]
   have h2:(j<m+1)=(j<m):=by simp;omega
   simp only[h2]
   omega
theorem cnt_zero{L:Nat→Bool}:∀m,cnt L m=0→∀j,j<m→L j=true
 |0,_,j,h=>by omega
 |m+1,h0,j,h=>by
  simp only[cnt]at h0
  by_cases hL:L m=true
  ·rcases Nat.lt_succ_iff_lt_or_eq.1 h with h|rfl
   ·exact cnt_zero m (by omega) j h
   ·exact hL
  ·rw[if_neg hL]at h0;omega
theorem cnt_le(L:Nat→Bool):∀m,cnt L m≤m
 |0=>Nat.le_refl _
 |m+1=>by
  have:=cnt_le L m
  simp only[cnt];split<;>omega
section drawn
variable {P:Program} {cfg:Cfg} {call:CallT} {rnd:Nat→List SV→Zt→Option (SV×Zt)} {ops:Array Oper} {E:Nat→List SV} {T:Nat→Zt} {V:Nat→SV}
theorem getD_put{listed:Array Bool}{j:Nat}(hj:j<listed.size):(fun i=>(listed.setIfInBounds j true).getD i false)=(fun i=>i==j || listed.getD i false):=by
 funext i
 by_cases hij:j=i
 ·subst hij
  simp[hj]
 ·have:(i==j)=false:=by simp;exact fun h=>hij h.symm
  rw[this,Bool.false_or,getD_set_ne false hij]
theorem DI.go(hT:TyAll P cfg)(hcall:CallSpec P cfg call)(hrnd:RndSpec P rnd)(hf:DrawFacts ops.toList)(hst:∀j o,ops.toList[j]?=some o→StepAt cfg call rnd ops.toList E T V j o)
  {e:Nat} (he0:e≤ops.toList.length) (he1:∀j,j<e→¬heavy cfg ops.toList E j) (he2:e=ops.toList.length∨heavy cfg ops.toList E e)
  {ι0:IM} {F0:Fset} {w0:World} {d0:List Deferred} (hd0:∀id ix,ι0 id=some ix→id<(T 0).length) :
  ∀(fuel t:Nat) (listed:Array Bool) (a:Act) (w:World),listed.size=ops.size→DI P cfg ops.toList E T V e ι0 F0 w0 d0 (fun i=>listed.getD i false) a w→cnt (fun i=>listed.getD i false) ops.toList.length≤fuel→
   ∃(L':Nat→Bool) (a':Act) (w':World),(∀j,j<ops.toList.length→L' j=true)∧DI P cfg ops.toList E T V e ι0 F0 w0 d0 L' a' w'∧
    ∀(b:Frame) (k:List Item) (cs:List Frame),Steps P (lone (atr b a (.inRegion ops (Region.linearise.go .any ops fuel t listed [])::k)) cs w) (lone (atr b a' (.inRegion ops []::k)) cs w'):=by
 intro fuel
 induction fuel with
 |zero=>
  intro t listed a w hsz D hc
  exact⟨_,a,w,cnt_zero _ (by omega),D,fun b k cs=>by simpa[Region.linearise.go]using Steps.refl P _⟩
 |succ fuel ih=>
  intro t listed a w hsz D hc
  simp only[Region.linearise.go]
  change ∃(L':Nat→Bool) (a':Act) (w':World),_∧_∧∀(b:Frame) (k:List Item) (cs:List Frame),Steps P (lone (atr b a (.inRegion ops (match(Region.ready .any ops listed)[t%(Region.ready .any ops listed).length]? with
   |some i=>Region.linearise.go .any ops fuel (t/(Region.ready .any ops listed).length) (listed.setIfInBounds i true) [i]
   |none=>[].reverse)::k)) cs w) _
  cases hi:(Region.ready .any ops listed)[t%(Region.ready .any ops listed).length]? with
  |none=>
   have hnil:Region.ready .any ops listed=[]:=by
    cases hr:Region.ready .any ops listed with
    |nil=>rfl
    |cons x xs=>
     rw[hr]at hi
     have hlt:t%(x::xs).length<(x::xs).length:=Nat.mod_lt _ (by simp)
     simp at hi
     simp at hlt
     omega
   refine⟨_,a,w,?_,D,fun b k cs=>by simpa using Steps.refl P _⟩
   intro j
   induction j using Nat.strongRecOn with
   |_ j ihj=>
    intro hj
    cases hL:listed.getD j false with
    |true=>rfl
    |false=>
     exfalso
     have hjs:j<listed.size:=by rw[hsz];simpa using hj
     have:j∈Region.ready .any ops listed:=by
      rw[mem_ready]
      refine⟨?_,ops[j]'(by simpa using hj),by simp[show j<ops.size by simpa using hj],fun ed hed hb=>?_⟩
      ·simp[hjs]at hL ⊢;exact hL
      ·have hlt:=hf.edge j _ ed (List.getElem?_eq_getElem hj) (by simpa using hed) hb
       exact ihj ed.on hlt (by omega)
     rw[hnil]at this;cases this
  |some i=>
   have hmem:=List.mem_of_getElem? hi
   rw[mem_ready]at hmem
   obtain⟨h1,o,ho,hall⟩:=hmem
   have hil:i<ops.size:=(Array.getElem?_eq_some_iff.1 ho).1
   have his:i<listed.size:=by omega
   have hu:listed.getD i false=false:=by simp[his]at h1 ⊢;exact h1
   have hoL:ops.toList[i]?=some o:=by rw[Array.getElem?_toList];exact ho
   simp only[]
   rw[linearise_go_acc,List.reverse_singleton,List.singleton_append]
   obtain⟨a1,w1,D1,s1⟩:=DI.step hT hcall hrnd hf hst he0 he1 he2 D hd0 hoL hu (fun ed hed hb=>hall ed (by simpa using hed) hb)
   rw[←getD_put his]at D1
   have hc1:=cnt_put (L:=fun i=>listed.getD i false) hu ops.toList.length
   rw[if_pos (show i<ops.toList.length by simpa using hil)]at hc1
   obtain⟨L',a2,w2,h2,D2,s2⟩:=ih (t/(Region.ready .any ops listed).length) (listed.setIfInBounds i true) a1 w1 (by simpa using hsz) D1 (by rw[getD_put his];omega)
   exact⟨L',a2,w2,h2,D2,fun b k cs=>(s1 b k cs _).trans (s2 b k cs)⟩
theorem region_drawn(hT:TyAll P cfg)(hcall:CallSpec P cfg call)(hrnd:RndSpec P rnd)(hok:drawOk ops.toList=true){env env':List SV}{S S':Zt}(h:runOps cfg call rnd ops.toList true 0 ops.toList env S=some (env',S'))
  {ι:IM} {F:Fset} {w:World} {a:Act} (hR:Rel ι F S w) (hv:VRs ι F w env a.tmps.toList) (t:Nat) :
   ∃ι' F' w' a',a'.defers=a.defers∧Rel ι' F' S' w'∧VRs ι' F' w' env' a'.tmps.toList∧Ext ι F S w ι' F' S' w'∧
    ∀(b:Frame) (k:List Item) (cs:List Frame),Steps P (lone (atr b a (.inRegion ops (Region.linearise .any ops t)::k)) cs w) (lone (atr b a' (.inRegion ops []::k)) cs w'):=by
 have hf:=drawOk_facts hok
 obtain⟨E,T,V,e1,e2,e3,e4,e5⟩:=run_trace _ _ _ _ _ _ h
 have hst:∀j o,ops.toList[j]?=some o→StepAt cfg call rnd ops.toList E T V j o:=fun j o ho=>by have:=e5 j o ho;rwa [Nat.zero_add]at this
 rw[Nat.zero_add]at e3 e4
 obtain⟨e,he0,he1,he2⟩:=first_heavy (heavy cfg ops.toList E) ops.toList.length
 have hle:Sub (T 0) (T e):=by
  have:∀m,m≤e→Sub (T 0) (T m):=by
   intro m
   induction m with
   |zero=>intro _;exact .refl _
   |succ m ih=>intro hm;exact(ih (by omega)).trans (light_sub hcall hst (by omega) (he1 m (by omega)))
  exact this e (Nat.le_refl _)
 obtain⟨r1,r2⟩:=(e2▸hR:Rel ι F (T 0) w).sub hle
 have hempty:(fun i=>(Array.replicate ops.size false).getD i false)=fun _=>false:=by
  funext i
  simp[Array.getElem?_replicate]
  split<;>rfl
 have elz:∀m,el ops.toList V (E 0) (fun _=>false) m=E 0:=by
  intro m
  induction m with
  |zero=>rfl
  |succ m ih=>simp only[el,ih,Bool.false_eq_true,if_false]
 have D0:DI P cfg ops.toList E T V e ι F w a.defers (fun i=>(Array.replicate ops.size false).getD i false) a w:=by
  rw[hempty]
  refine⟨fun j o i _ h=>by simp at h,rfl,ι,_,by rw[elz,e1];exact hv.up r2.up,.inl ⟨fun _ _=>rfl,r1,r2,fun i hi _ id hid _=>?_⟩⟩
  cases hx:ι id with
  |none=>rfl
  |some ix=>
   have h1:=hR.dom _ _ hx
   have:(T 0).length≤(T i).length:=by
    have:∀m,m≤e→Sub (T 0) (T m):=by
     intro m
     induction m with
     |zero=>intro _;exact .refl _
     |succ m ih=>intro hm;exact(ih (by omega)).trans (light_sub hcall hst (by omega) (he1 m (by omega)))
    exact(this i (by omega)).len
   rw[e2]at this
   omega
 obtain⟨L',a',w',hL,D,s⟩:=DI.go hT hcall hrnd hf hst he0 he1 he2 (fun id ix hid=>by rw[e2];exact hR.dom _ _ hid) ops.size t (Array.replicate ops.size false) a w (by simp) D0 (by have:=cnt_le (fun i=>(Array.replicate ops.size false).getD i false) ops.toList.length;simpa using this)
 obtain⟨ι',F',v1,v2⟩:=D.st
 rw[el_full hst hL,e3]at v1
 rcases v2 with⟨k1,k2,k3,-⟩|⟨m,k1,k2,k3,k4,k5⟩
 ·have hen:e=ops.toList.length:=by
   rcases he2 with h|h
   ·exact h
   ·obtain⟨o,h1,_⟩:=id h
    have:=hL e (List.getElem?_eq_some_iff.1 h1).1
    rw[k1 e h]at this;cases this
  rw[hen,e4]at k2 k3
  rw[e2]at k3
  exact⟨ι',F',w',a',D.defers,k2,v1,k3,s⟩
 ·have hem:e≤m:=by
   rcases Nat.lt_or_ge m e with h|h
   ·exact absurd k1 (he1 m h)
   ·exact h
  have hmn:m<ops.toList.length:=by obtain⟨o,h1,_⟩:=k1;exact(List.getElem?_eq_some_iff.1 h1).1
  have hE:heavy cfg ops.toList E e:=he2.resolve_left (by omega)
  have same:∀q,m+1≤q→q≤ops.toList.length→T q=T (m+1):=by
   intro q
   induction q with
   |zero=>intro h _;omega
   |succ q ih=>
    intro h4 h5
    by_cases hq:q=m
    ·rw[hq]
    ·have hqo:=List.getElem?_eq_getElem (show q<ops.toList.length by omega)
     have hnq:¬heavy cfg ops.toList E q:=fun hq'=>by
      have:=(k2 q hq').1 (hL q (by omega));omega
     rw[light_same hst hqo hnq ?_,ih (by omega) (by omega)]
     cases hs:sens ops.toList[q].op with
     |false=>rfl
     |true=>have:=bit_lt hf (hE.choose_spec.1) (sens_before hf hst hE hqo hs (by omega));omega
  rw[←same ops.toList.length (by omega) (Nat.le_refl _),e4]at k4 k5
  rw[e2]at k5
  exact⟨ι',F',w',a',D.defers,k4,v1,k5,s⟩
theorem Ext.drew{ι:IM}{F:Fset}{S:Zt}{w:World}(n:Nat):Ext ι F S w ι F S { w with drawn:=n }:=
 ⟨⟨fun _ _ h=>h,fun _ _ h=>h,fun _ _ _=>rfl⟩,Nat.le_refl _,Nat.le_refl _,fun _ _ h=>h,fun _ _ h=>.inl h,fun _ _ h=>.inl h,fun _ _ _=>rfl,rfl,rfl,rfl⟩
theorem region_ok(hT:TyAll P cfg)(hcall:CallSpec P cfg call)(hrnd:RndSpec P rnd)(hm:P.follows .mixedOrders=true){draw:Bool}(hok:draw=true→drawOk ops.toList=true){env env':List SV}{S S':Zt}
  (h:runOps cfg call rnd ops.toList draw 0 ops.toList env S=some (env',S')) (id:Nat) (b:Frame) {ι:IM} {F:Fset} {w:World} {a:Act} (hR:Rel ι F S w) (hv:VRs ι F w env a.tmps.toList) :
   ∃ι' F' w' a',a'.defers=a.defers∧Rel ι' F' S' w'∧VRs ι' F' w' env' a'.tmps.toList∧Ext ι F S w ι' F' S' w'∧
    ∀(k:List Item) (cs:List Frame),Steps P (lone (atr b a (.code (.region id ops draw)::k)) cs w) (lone (atr b a' k) cs w'):=by
 cases draw with
 |false=>
  obtain⟨ι',F',w',a',h1,h2,h3,h4,h5⟩:=region_text hT hcall hrnd ops.toList 0 env env' S S' h rfl ι F w a hR hv
  refine⟨ι',F',w',a',h1,h2,h3,h4,fun k cs=>.head st_region (Steps.trans (m₁:=lone (atr b a' (.inRegion ops []::k)) cs w') ?_ (.one st_region_end))⟩
  rw[List.range_eq_range'];simpa using h5 b k cs
 |true=>
  obtain⟨r1,u1⟩:=hR.sameHeap (w':={ w with drawn:=w.drawn+1 }) rfl
  obtain⟨ι',F',w',a',h1,h2,h3,h4,h5⟩:=region_drawn hT hcall hrnd (hok rfl) h r1 (hv.up u1) (w.tape w.drawn (.order b.fn id))
  refine⟨ι',F',w',a',h1,h2,h3,(Ext.drew _).trans hR.dom h4,fun k cs=>.head st_region_draw (Steps.trans (m₁:=lone (atr b a' (.inRegion ops []::k)) cs w') ?_ (.one st_region_end))⟩
  simp only[Region.schedule,hm,Bool.true_or,if_true]
  exact h5 b k cs
end drawn
end Go.Sh
namespace Go.Sh
def mark1(D:Nat):Deferred:={ target:=.collected D,args:=#[] }
structure MarksOk(Ds:List Nat)(w:World):Prop where
 nodup:Ds.Nodup
 at_:∀D∈Ds,w.heap[D]?=some (.deferred (some []))
theorem act_block{ι:IM}{F:Fset}{S:Zt}{w:World}(h:Rel ι F S w){b:Nat}(hb:actBlock ι S b):(∃c t fr,w.heap[b]?=some (.cells c t fr))∨∃L,w.heap[b]?=some (.loop L):=by
 obtain⟨id,ix,hi,ha,rfl⟩:=hb
 unfold act at ha
 split at ha
 ·rename_i r hr
  cases r with
  |cells es lv=>obtain⟨c,t,fr,h1,_⟩:=(h.row _ _ _ _ hi hr).blk;exact .inl ⟨c,t,fr,h1⟩
  |loop env ps as bd st pe=>obtain⟨L,D,hL,_⟩:=h.loop _ _ _ _ _ _ _ _ hi hr;exact .inr ⟨L,hL⟩
  |dead=>simp[liveR]at ha
 ·cases ha
theorem not_act_deferred{ι:IM}{F:Fset}{S:Zt}{w:World}(h:Rel ι F S w){b:Nat}{x:Option (List Deferred)}(hb:w.heap[b]?=some (.deferred x)):¬actBlock ι S b:=fun ha=>by
 rcases act_block h ha with⟨c,t,fr,h1⟩|⟨L,h1⟩<;>· rw[hb]at h1;cases h1
theorem MarksOk.ext{Ds:List Nat}{ι ι':IM}{F F':Fset}{S S':Zt}{w w':World}(m:MarksOk Ds w)(h:Rel ι F S w)(e:Ext ι F S w ι' F' S' w'):MarksOk Ds w':=
 ⟨m.nodup,fun D hD=>by
  have h1:=m.at_ D hD
  rw[e.frame D (Array.getElem?_eq_some_iff.1 h1).1 (not_act_deferred h h1)]
  exact h1⟩
structure Other(w w':World)(b:Nat):Prop where
 size:w'.heap.size=w.heap.size
 heap:∀k,k≠b→w'.heap[k]?=w.heap[k]?
 os:w'.os=w.os
 output:w'.output=w.output
 tape:w'.tape=w.tape
theorem Other.put(w:World)(b:Nat)(o:Obj):Other w (w.putObj b o) b:=⟨by simp,fun k hk=>World.putObj_heap_other hk,rfl,rfl,rfl⟩
theorem Rel.other{ι:IM}{F:Fset}{S S':Zt}{w w':World}{b:Nat}(h:Rel ι F S w)(o:Other w w' b)(hnc:∀c t fr,w.heap[b]?≠some (.cells c t fr))
  (hlen:S'.length=S.length) (hS:∀k r,S'[k]?=some r→r≠.dead→(S[k]?=some r∧((∃env ps as bd st pe,r=.loop env ps as bd st pe)→∀ix,ι k=some ix→ix.b≠b∧∀L,w.heap[ix.b]?=some (.loop L)→L.defers≠b))∨
   (∃env ps as bd st pe,r=.loop env ps as bd st pe∧(∃r0,S[k]?=some r0∧liveR r0=true)∧∀ix,ι k=some ix→LoopAt ι F w' ix env ps as bd st pe)) :
  Rel ι F S' w'∧Up ι F w ι F w':=by
 have hcell:∀k o',k≠b→w'.cell? ⟨k,o',none⟩=w.cell? ⟨k,o',none⟩:=fun k o' hk=>cell_of_heap (o.heap k hk)
 have hF:∀k o',F k o'→k≠b:=fun k o' hf e=>by
  obtain⟨v,hv⟩:=h.fok _ _ hf
  subst e
  simp only[World.cell?]at hv
  cases hv
 have u:Up ι F w ι F w':=⟨fun _ _ h=>h,fun _ _ h=>h,fun k o' hf=>hcell k o' (hF _ _ hf)⟩
 have al:∀k,alive S' k→alive S k:=fun k ⟨r,hr,hn⟩=>by
  rcases hS k r hr hn with⟨h1,_⟩|⟨_,_,_,_,_,_,rfl,⟨r0,h1,h2⟩,_⟩
  ·exact⟨r,h1,hn⟩
  ·exact⟨r0,h1,fun e=>by subst e;cases h2⟩
 refine⟨⟨fun id ix hi=>by rw[hlen];exact h.dom _ _ hi,?_,?_,fun k k' ix ix' hk hk' ha ha'=>h.inj _ _ _ _ hk hk' (al _ ha) (al _ ha'),?_⟩,u⟩
 ·intro id ix es lv hi hr
  rcases hS id _ hr (by simp)with⟨h1,_⟩|⟨_,_,_,_,_,_,e,_⟩
  ·have hr0:=h.row _ _ _ _ hi h1
   have hne:ix.b≠b:=fun e=>by
    obtain⟨c,t,fr,h2,_⟩:=hr0.blk
    rw[e]at h2;exact hnc _ _ _ h2
   have heq:=o.heap _ hne
   exact⟨hr0.pos,fun i e he=>(hr0.at_ i e he).up u (fun j _=>hcell _ _ hne),by rw[heq];exact hr0.blk,hr0.free,hr0.kept,by rw[heq];exact hr0.cap⟩
  ·cases e
 ·intro id ix env ps as bd st pe hi hr
  rcases hS id _ hr (by simp)with⟨h1,h2⟩|⟨_,_,_,_,_,_,e,_,h2⟩
  ·obtain⟨hne,hD⟩:=h2 ⟨_,_,_,_,_,_,rfl⟩ ix hi
   obtain⟨L,D,k1,k2,k3,k4,k5,k6,k7,k8,k9⟩:=h.loop _ _ _ _ _ _ _ _ hi h1
   exact⟨L,D,(o.heap _ hne).trans k1,k2.up u,k3,k4,k5,k6,k7,k8,(o.heap _ (by rw[←k8];exact hD L k1)).trans k9⟩
  ·cases e;exact h2 ix hi
 ·intro k o' hf
  obtain⟨v,hv⟩:=h.fok _ _ hf
  exact⟨v,(hcell _ _ (hF _ _ hf)).trans hv⟩
theorem Rel.turn{ι:IM}{F:Fset}{S:Zt}{w:World}(h:Rel ι F S w){l:Nat}{ix:Ix}(hix:ι l=some ix){env:List SV}{ps:List Nat}{as bd:Code}{st:LoopState}{pe:Option X}(hS:S[l]?=some (.loop env ps as bd st pe))
  {L:Loop} (hL:w.heap[ix.b]?=some (.loop L)) (st':LoopState) (pe':Option X) (r':Row) (hr':r'=.loop env ps as bd st' pe'∨r'=.dead) :
  Rel ι F (S.set l r') (w.putObj ix.b (.loop { L with state:=st',pending:=pe'.map X.code }))∧Ext ι F S w ι F (S.set l r') (w.putObj ix.b (.loop { L with state:=st',pending:=pe'.map X.code })):=by
 have hl:l<S.length:=(List.getElem?_eq_some_iff.1 hS).1
 have hlt:ix.b<w.heap.size:=(Array.getElem?_eq_some_iff.1 hL).1
 obtain⟨L0,D,k1,k2,k3,k4,k5,k6,k7,k8,k9⟩:=h.loop _ _ _ _ _ _ _ _ hix hS
 rw[hL]at k1;cases k1
 have o:=Other.put w ix.b (.loop { L with state:=st',pending:=pe'.map X.code })
 have hDne:D≠ix.b:=fun e=>by rw[e,hL]at k9;cases k9
 have hact:act S l=true:=by simp[act,hS,liveR]
 have r:=h.other (S':=S.set l r') o (fun c t fr hc=>by rw[hL]at hc;cases hc) (by simp) (fun k r hr hn=>by
  by_cases hk:l=k
  ·subst hk
   rw[List.getElem?_set_self hl]at hr;cases hr
   rcases hr' with rfl|rfl
   ·refine .inr ⟨_,_,_,_,_,_,rfl,⟨_,hS,rfl⟩,fun ix' hi=>?_⟩
    rw[hix]at hi;cases hi
    refine⟨{ L with state:=st',pending:=pe'.map X.code },D,World.putObj_heap_same hlt,?_,k3,k4,k5,rfl,rfl,k8,(o.heap _ hDne).trans k9⟩
    refine k2.up ⟨fun _ _ h=>h,fun _ _ h=>h,fun b o' hf=>cell_of_heap (o.heap _ ?_)⟩
    intro e
    obtain⟨v,hv⟩:=h.fok _ _ hf
    rw[e]at hv
    simp[World.cell?,hL]at hv
   ·exact absurd rfl hn
  ·rw[List.getElem?_set_ne hk]at hr
   refine .inl ⟨hr,fun⟨_,_,_,_,_,_,e⟩ ix' hi=>⟨fun e2=>?_,fun L' hL' e2=>?_⟩⟩
   ·subst e
    exact hk (h.inj _ _ _ _ hix hi ⟨_,hS,by simp⟩ ⟨_,hr,by simp⟩ e2.symm)
   ·subst e
    obtain⟨L2,D2,j1,_,_,_,_,_,_,j8,j9⟩:=h.loop _ _ _ _ _ _ _ _ hi hr
    rw[hL']at j1;cases j1
    rw[←j8,e2,hL]at j9;cases j9)
 refine⟨r.1,⟨r.2,by simp,by simp,fun k hk ha=>?_,fun _ _ h=>.inl h,fun _ _ h=>.inl h,fun b hb hn=>?_,rfl,rfl,rfl⟩⟩
 ·by_cases hk:l=k
  ·subst hk;exact hact
  ·unfold act at ha ⊢;rwa [List.getElem?_set_ne hk]at ha
 ·exact o.heap _ (fun e=>hn ⟨l,ix,hix,hact,e.symm⟩)
theorem Rel.newLoop{ι:IM}{F:Fset}{S:Zt}{w:World}(h:Rel ι F S w){env:List SV}{tmps:Array Value}(hv:VRs ι F w env tmps.toList)(fn:FuncId)(ps:Array Tmp)(as bd:Code) :
  ∃ι' w',w'=(w.alloc (.deferred (some []))).alloc (.loop { state:=.ready,pending:=none,fn,tmps,params:=ps,assign:=as,body:=bd,defers:=w.heap.size })∧
   ι' S.length=some ⟨w.heap.size+1,0,0,0⟩∧Rel ι' F (S++[.loop env ps.toList as bd .ready none]) w'∧Ext ι F S w ι' F (S++[.loop env ps.toList as bd .ready none]) w'∧w'.heap[w.heap.size]?=some (.deferred (some [])):=by
 refine⟨ι.put S.length ⟨w.heap.size+1,0,0,0⟩,_,rfl,by simp[IM.put],?_⟩
 generalize hw':(w.alloc (.deferred (some []))).alloc (.loop { state:=.ready,pending:=none,fn,tmps,params:=ps,assign:=as,body:=bd,defers:=w.heap.size })=w'
 have hheap:w'.heap=(w.heap.push (.deferred (some []))).push (.loop { state:=.ready,pending:=none,fn,tmps,params:=ps,assign:=as,body:=bd,defers:=w.heap.size }):=by rw[←hw'];rfl
 have hsz:w'.heap.size=w.heap.size+2:=by rw[hheap];simp
 have hlow:∀b,b<w.heap.size→w'.heap[b]?=w.heap[b]?:=fun b hb=>by
  rw[hheap,Array.getElem?_push,if_neg (by simp;omega),Array.getElem?_push,if_neg (by omega)]
 have hD:w'.heap[w.heap.size]?=some (.deferred (some [])):=by
  rw[hheap,Array.getElem?_push,if_neg (by simp),Array.getElem?_push,if_pos rfl]
 have hL:w'.heap[w.heap.size+1]?=some (.loop { state:=.ready,pending:=none,fn,tmps,params:=ps,assign:=as,body:=bd,defers:=w.heap.size }):=by
  rw[hheap,Array.getElem?_push,if_pos (by simp)]
 have hos:w'.os=w.os∧w'.output=w.output∧w'.tape=w.tape:=by rw[←hw'];exact⟨rfl,rfl,rfl⟩
 have hn:ι S.length=none:=by
  cases hi:ι S.length with
  |none=>rfl
  |some ix=>have:=h.dom _ _ hi;omega
 have u:Up ι F w (ι.put S.length ⟨w.heap.size+1,0,0,0⟩) F w':=⟨fun k jx hk=>by
   unfold IM.put;rw[if_neg (fun e=>by rw[e,hn]at hk;cases hk)];exact hk,fun _ _ h=>h,fun b o hf=>by
   obtain⟨v,hv⟩:=h.fok _ _ hf
   exact cell_of_heap (hlow b (cell_lt hv))⟩
 have old:∀k r,k≠S.length→(S++[Row.loop env ps.toList as bd .ready none])[k]?=some r→S[k]?=some r:=fun k r hk hr=>by
  rw[List.getElem?_append]at hr
  split at hr
  ·exact hr
  ·rename_i hk2
   have:k-S.length≠0:=by omega
   rw[List.getElem?_eq_none (by simp;omega)]at hr;cases hr
 have lta:∀k jx,ι k=some jx→alive S k→jx.b<w.heap.size:=fun k jx hk ha=>h.blkLt hk ha
 have putne:∀k jx,(ι.put S.length ⟨w.heap.size+1,0,0,0⟩) k=some jx→k≠S.length→ι k=some jx:=fun k jx hk hne=>by
  unfold IM.put at hk;rwa [if_neg hne]at hk
 have puteq:∀jx,(ι.put S.length ⟨w.heap.size+1,0,0,0⟩) S.length=some jx→jx=⟨w.heap.size+1,0,0,0⟩:=fun jx hk=>by
  unfold IM.put at hk;rw[if_pos rfl]at hk;cases hk;rfl
 refine⟨⟨?_,?_,?_,?_,?_⟩,⟨u,by omega,by simp,?_,fun _ _ h=>.inl h,?_,fun b hb _=>hlow b hb,hos.1,hos.2.1,hos.2.2⟩,hD⟩
 ·intro k jx hk
  by_cases hk2:k=S.length
  ·simp[hk2]
  ·have:=h.dom _ _ (putne k jx hk hk2);simp;omega
 ·intro k jx es lv hk hr
  by_cases hk2:k=S.length
  ·rw[hk2,List.getElem?_append_right (Nat.le_refl _)]at hr;simp at hr
  ·have hi:=putne k jx hk hk2
   have hS:=old k _ hk2 hr
   have hr0:=h.row _ _ _ _ hi hS
   have heq:=hlow _ (lta _ _ hi ⟨_,hS,by simp⟩)
   exact⟨hr0.pos,fun i e he=>(hr0.at_ i e he).up u (fun j _=>cell_of_heap heq),by rw[heq];exact hr0.blk,hr0.free,hr0.kept,by rw[heq];exact hr0.cap⟩
 ·intro k jx env' ps' as' bd' st' pe' hk hr
  by_cases hk2:k=S.length
  ·subst hk2
   rw[List.getElem?_append_right (Nat.le_refl _)]at hr
   simp at hr
   obtain⟨rfl,rfl,rfl,rfl,rfl,rfl⟩:=hr
   rw[puteq jx hk]
   exact⟨_,w.heap.size,hL,hv.up u,rfl,rfl,rfl,rfl,rfl,rfl,hD⟩
  ·have hi:=putne k jx hk hk2
   have hS:=old k _ hk2 hr
   obtain⟨L,D,h1,h2,h3,h4,h5,h6,h7,h8,h9⟩:=h.loop _ _ _ _ _ _ _ _ hi hS
   exact⟨L,D,(hlow _ (Array.getElem?_eq_some_iff.1 h1).1).trans h1,h2.up u,h3,h4,h5,h6,h7,h8,(hlow _ (Array.getElem?_eq_some_iff.1 h9).1).trans h9⟩
 ·intro k k' jx jx' hk hk' ha ha' hbb
  have al:∀k,k≠S.length→alive (S++[Row.loop env ps.toList as bd .ready none]) k→alive S k:=fun k hk ⟨r,hr,hn⟩=>⟨r,old k r hk hr,hn⟩
  by_cases hk2:k=S.length<;>by_cases hk3:k'=S.length
  ·rw[hk2,hk3]
  ·subst hk2
   rw[puteq jx hk]at hbb
   have:=lta _ _ (putne k' jx' hk' hk3) (al _ hk3 ha')
   simp at hbb;omega
  ·subst hk3
   rw[puteq jx' hk']at hbb
   have:=lta _ _ (putne k jx hk hk2) (al _ hk2 ha)
   simp at hbb;omega
  ·exact h.inj _ _ _ _ (putne k jx hk hk2) (putne k' jx' hk' hk3) (al _ hk2 ha) (al _ hk3 ha') hbb
 ·intro b o hf
  obtain⟨v,hv⟩:=h.fok _ _ hf
  exact⟨v,(u.cell _ _ hf).trans hv⟩
 ·intro k hk ha
  unfold act at ha ⊢
  rwa [List.getElem?_append_left hk]at ha
 ·intro k jx hk
  by_cases hk2:k=S.length
  ·subst hk2;rw[puteq jx hk];exact .inr ⟨Nat.le_refl _,.inl (by simp)⟩
  ·exact .inl (putne k jx hk hk2)
theorem resultS_ok{P:Program}{cfg:Cfg}(hT:TyAll P cfg){ι:IM}{F:Fset}{S:Zt}{w:World}(hR:Rel ι F S w){env:List SV}{t:Array Value}(he:VRs ι F w env t.toList) :
  ∀(l:List ResultVar) (vs:List SV),resultS cfg env S l=some vs→∃xs:List Value,VRs ι F w vs xs∧
   (l.mapM (fun x=>match x with|.tmp i=>pure (t.getD i undef)|.cell a ty=>do loadVar ty (←asAddr (t.getD a undef)):ResultVar→Sem Value)).run P w=.ok xs w:=by
 intro l
 induction l with
 |nil=>intro vs h;simp only[resultS]at h;cases h;exact⟨[],rfl,by simp[Sem.run_pure]⟩
 |cons x r ih=>
  intro vs h
  have getD:∀i v,env[i]?=some v→∃y,t.getD i undef=y∧VR ι F w v y:=fun i v hv=>by
   obtain⟨y,hy,hr⟩:=he.get hv
   rw[Array.getElem?_toList]at hy
   exact⟨y,by simp[Array.getD_eq_getD_getElem?,hy],hr⟩
  cases x with
  |tmp i=>
   simp only[resultS,Option.bind_eq_some_iff,Option.map_eq_some_iff]at h
   obtain⟨v,hv,us,hus,rfl⟩:=h
   obtain⟨xs,h1,h2⟩:=ih us hus
   obtain⟨y,hy,hr⟩:=getD i v hv
   refine⟨y::xs,⟨y,xs,rfl,hr,h1⟩,?_⟩
   rw[List.mapM_cons]
   simp only[Sem.run_bind,Sem.run_pure,Result.andThen_ok,hy,h2]
  |cell a ty=>
   simp only[resultS,Option.bind_eq_some_iff,Option.map_eq_some_iff]at h
   obtain⟨i,hi,p,hp,v,hv,us,hus,rfl⟩:=h
   obtain⟨xs,h1,h2⟩:=ih us hus
   obtain⟨y,hy,hr⟩:=getD a p hp
   obtain⟨u,hu,huv⟩:=loadS_ok hT hi hR (Sub.refl S) hr hv
   have hasA:∀w',(asAddr y).run P w'=(Instr.sureAddr y).run P w':=fun w'=>by
    cases p<;>simp only[ldS]at hv<;>try (cases hv;done)
    ·obtain⟨b,o,x,rfl,_⟩:=hr;rfl
    ·obtain⟨ix,_,rfl⟩:=hr;rfl
   refine⟨u::xs,⟨u,xs,rfl,huv,h1⟩,?_⟩
   rw[List.mapM_cons]
   have hu':(do loadVar ty (←asAddr y):Sem Value).run P w=.ok u w:=by
    simp only[Instr.loadAt,Sem.run_bind]at hu ⊢
    rw[hasA];exact hu
   simp only[Sem.run_bind]at hu' ⊢
   simp only[hy,hu',Result.andThen_ok,h2,Sem.run_pure]
theorem results_ok{P:Program}{cfg:Cfg}(hT:TyAll P cfg){ι:IM}{F:Fset}{S:Zt}{w:World}(hR:Rel ι F S w){env:List SV}{t:Array Value}(he:VRs ι F w env t.toList){fn:Func}{vs:List SV}(h:resultS cfg env S fn.results.toList=some vs) :
  ∃x,(results fn t).run P w=.ok x w∧VR ι F w (packS vs) x:=by
 obtain⟨xs,h1,h2⟩:=resultS_ok hT hR he _ _ h
 have hlen:=h1.length
 refine⟨if h:xs.toArray.size=1 then xs.toArray[0]else .tuple xs.toArray,?_,?_⟩
 ·unfold results
  rw[Array.mapM_eq_mapM_toList]
  simp only[Sem.run_bind,Sem.run_map]
  erw [h2]
  rfl
 ·cases vs with
  |nil=>simp only[VRs]at h1;subst h1;exact⟨#[],rfl,rfl⟩
  |cons v r=>
   obtain⟨y,ys,rfl,h3,h4⟩:=h1
   cases r with
   |nil=>simp only[VRs]at h4;subst h4;simpa[packS]using h3
   |cons v2 r2=>
    obtain⟨y2,ys2,rfl,h5,h6⟩:=h4
    simp only[packS]
    rw[dif_neg (by simp)]
    exact⟨_,rfl,y,_,rfl,h3,y2,_,rfl,h5,h6⟩
end Go.Sh
namespace Go.Sh
section moves
variable {P:Program} {b:Frame} {a:Act} {k:List Item} {cs:List Frame} {w:World}
theorem st_end(hb:b.roundOf=none):step P (lone (atr b a []) cs w)=.next (lone { atr b a []with mode:=.returning } cs w):=
 step_lone_go (by simp[stepG,stepG.exec,atr,hb])
theorem st_ret(hb:b.roundOf=none):step P (lone (atr b a (.code .ret::k)) cs w)=.next (lone { atr b a (.code .ret::k)with mode:=.returning } cs w):=
 step_lone_go (by simp[stepG,stepG.exec,atr,hb])
theorem st_rangeFunc(hb:b.roundOf=none){f:Operand}{ps:Array Tmp}{as bd:Code}{g:FuncId}{x y:Array Value}(hf:a.eval f=.func (.func g) x y)(he:Enters P g) :
  step P (lone (atr b a (.code (.rangeFunc f ps as bd)::k)) cs w) =
   .next (lone (Frame.enter P g (x++#[.func (.yield (w.heap.size+1)) #[] #[]]++y) .normal) (atr b { a with defers:=mark1 w.heap.size::a.defers } (.inRangeFunc (w.heap.size+1)::k)::cs)
    ((w.alloc (.deferred (some []))).alloc (.loop { state:=.ready,pending:=none,fn:=b.fn,tmps:=a.tmps,params:=ps,assign:=as,body:=bd,defers:=w.heap.size }))):=by
 refine step_lone_go ?_
 have hcall:=fun w'=>run_call (P:=P) (c:={ callee:=.value f,args:=#[.const (.func (.yield (w.heap.size+1)) #[] #[])],argTypes:=#[] })
  (ρ:=(atr b { a with defers:=mark1 w.heap.size::a.defers } (.inRangeFunc (w.heap.size+1)::k)).eval) (t:=0) rfl (by rw[eval_atr];exact hf) he w'
 simp only[atr,hb]at hcall
 have hc0:(#[Operand.const (.func (.yield (w.heap.size+1)) #[] #[])]:Array Operand).map (Frame.eval { fn:=b.fn,tmps:=a.tmps,todo:=.inRangeFunc (w.heap.size+1)::k,defers:=mark1 w.heap.size::a.defers,mode:=.run,kind:=b.kind,roundOf:=none })=#[.func (.yield (w.heap.size+1)) #[] #[]]:=by
  simp[Frame.eval]
 simp only[hc0]at hcall
 simp[stepG,stepG.exec,atr,hb,run_enterLoop_outer,stepG.apply]
 have h2:=hcall ((w.alloc (.deferred (some []))).alloc (.loop { state:=.ready,pending:=none,fn:=b.fn,tmps:=a.tmps,params:=ps,assign:=as,body:=bd,defers:=w.heap.size }))
 simp only[Sem.run_bind,mark1]at h2
 rw[h2]
 simp[mark1]
theorem st_endRange{l:Nat}{r:Loop}(h:w.heap[l]?=some (.loop r))(hb:r.state≠.busy) :
  step P (lone (atr b a (.endRangeFunc l::k)) cs w)=.next (lone (atr b a ((r.pending.map Item.code).toList++k)) cs (w.putObj l (.loop { r with state:=.exhausted }))):=
 step_lone_go (by simp[stepG,stepG.exec,atr,run_endLoop h hb])
theorem st_beginRound{l:Nat}{r:Loop}(hr:b.roundOf=some l)(h:w.heap[l]?=some (.loop r))(hb:r.state=.ready) :
  step P (lone (atr b a (.beginRound::k)) cs w)=.next (lone (atr b a k) cs (w.putObj l (.loop { r with state:=.busy }))):=
 step_lone_go (by simp[stepG,stepG.exec,atr,hr,stepG.apply,run_beginRound h hb,Frame.finish])
theorem st_leave_nrm{l:Nat}{r:Loop}{c:Frame}(hr:b.roundOf=some l)(hk:b.kind=.normal)(h:w.heap[l]?=some (.loop r)) :
  step P (lone (atr b a []) (c::cs) w)=.next (lone (c.finish (.bool true)) cs (w.putObj l (.loop { r with state:=.ready,pending:=none }))):=
 step_lone_go (by simp[stepG,stepG.exec,atr,hr,hk,run_endRound _ h,doReturn])
theorem st_leave_ret{l:Nat}{r:Loop}{c:Frame}(hr:b.roundOf=some l)(hk:b.kind=.normal)(h:w.heap[l]?=some (.loop r)) :
  step P (lone (atr b a (.code .ret::k)) (c::cs) w)=.next (lone (c.finish (.bool false)) cs (w.putObj l (.loop { r with state:=.done,pending:=some .ret }))):=
 step_lone_go (by simp[stepG,stepG.exec,atr,hr,hk,run_endRound _ h,doReturn])
theorem st_leave_exit{l id:Nat}{r:Loop}{c:Frame}(hr:b.roundOf=some l)(hk:b.kind=.normal)(h:w.heap[l]?=some (.loop r))(he:exitTo id k=none) :
  step P (lone (atr b a (.code (.exit id)::k)) (c::cs) w)=.next (lone (c.finish (.bool false)) cs (w.putObj l (.loop { r with state:=.done,pending:=some (.exit id) }))):=
 step_lone_go (by simp[stepG,stepG.exec,atr,hr,hk,he,run_endRound _ h,doReturn])
theorem st_take{fr:Frame}{D:Nat}{ds:List Deferred}(hm:fr.mode=.returning)(h:w.heap[D]?=some (.deferred (some []))) :
  step P (lone { fr with defers:=mark1 D::ds } cs w)=.next (lone { fr with defers:=ds } cs (w.putObj D (.deferred none))):=
 step_lone_go (by simp[stepG,unwind,hm,mark1,run_takeDeferred h])
end moves
end Go.Sh
namespace Go.Sh
structure CfgOk(P:Program)(cfg:Cfg):Prop where
 ty:TyAll P cfg
 fns:∀f fn,cfg.fns f=some fn→P.funcs[f]?=some fn∧Enters P f∧∀c,fn.body=some c→codeOk c=true
 orc:∀f args v,cfg.orc f args=some v→PureOk P f args v
 mixed:P.follows .mixedOrders=true
def Arr(P:Program)(m:Machine)(b:Frame)(k:List Item)(cs:List Frame):X→Act→World→Prop
 |.nrm,a,w=>Steps P m (lone (atr b a k) cs w)
 |.ret,a,w=>∃todo,Steps P m (lone (atr b a (.code .ret::todo)) cs w)
 |.exit id,a,w=>∃todo,exitTo id todo=exitTo id k∧Steps P m (lone (atr b a (.code (.exit id)::todo)) cs w)
theorem Arr.head{P:Program}{m m1:Machine}{b:Frame}{k:List Item}{cs:List Frame}{e:X}{a:Act}{w:World}(s:Steps P m m1)(h:Arr P m1 b k cs e a w):Arr P m b k cs e a w:=by
 cases e with
 |nrm=>exact s.trans h
 |ret=>obtain⟨t,h⟩:=h;exact⟨t,s.trans h⟩
 |exit id=>obtain⟨t,h0,h⟩:=h;exact⟨t,h0,s.trans h⟩
theorem Arr.pass{P:Program}{m:Machine}{b:Frame}{x:Item}{k:List Item}{cs:List Frame}{e:X}{a:Act}{w:World}(hx:∀id,x≠.inBlock id)(he:e≠.nrm)(h:Arr P m b (x::k) cs e a w):Arr P m b k cs e a w:=by
 cases e with
 |nrm=>exact absurd rfl he
 |ret=>exact h
 |exit id=>
  obtain⟨t,h0,h⟩:=h
  refine⟨t,h0.trans ?_,h⟩
  cases x<;>first|rfl|exact absurd rfl (hx _)
structure After(ι:IM)(F:Fset)(S:Zt)(w:World)(Ds:List Nat)(st':St)(hr:Bool)(ι':IM)(F':Fset)(w':World)(a':Act)(Ds':List Nat):Prop where
 rel:Rel ι' F' st'.S w'
 env:VRs ι' F' w' st'.env a'.tmps.toList
 ext:Ext ι F S w ι' F' st'.S w'
 defers:a'.defers=Ds'.map mark1
 marks:MarksOk Ds' w'
 new:∀D∈Ds',D∈Ds∨w.heap.size≤D
 same:hr=false→Ds'=Ds
def Sim(P:Program)(c:Code)(st:St)(e:X)(st':St):Prop:=
 ∀(b:Frame) (ι:IM) (F:Fset) (w:World) (a:Act) (Ds:List Nat),(b.roundOf=none∨hasRange c=false)→Rel ι F st.S w→VRs ι F w st.env a.tmps.toList→a.defers=Ds.map mark1→MarksOk Ds w→
  ∃ι' F' w' a' Ds',After ι F st.S w Ds st' (hasRange c) ι' F' w' a' Ds'∧
   ∀(k:List Item) (cs:List Frame) (it:Item),(it=.code c∨∃c0,c=.loop c0∧it=.inLoop c0)→Arr P (lone (atr b a (it::k)) cs w) b k cs e a' w'
theorem After.step{ι ι1 ι2:IM}{F F1 F2:Fset}{S:Zt}{w w1 w2:World}{Ds Ds1 Ds2:List Nat}{st1 st2:St}{h1 h2 h3:Bool}{a1 a2:Act}(hd:∀id ix,ι id=some ix→id<S.length)(x:After ι F S w Ds st1 h1 ι1 F1 w1 a1 Ds1)(y:After ι1 F1 st1.S w1 Ds1 st2 h2 ι2 F2 w2 a2 Ds2)(hh:h3=false→h1=false∧h2=false):After ι F S w Ds st2 h3 ι2 F2 w2 a2 Ds2:=
 ⟨y.rel,y.env,x.ext.trans hd y.ext,y.defers,y.marks,fun D hD=>(y.new D hD).elim (fun h=>x.new D h) (fun h=>.inr (Nat.le_trans x.ext.size h)),fun h=>(y.same (hh h).2).trans (x.same (hh h).1)⟩
section main
variable {P:Program} {cfg:Cfg}
theorem sim_refl(st:St)(hr:Bool){ι:IM}{F:Fset}{w:World}{a:Act}{Ds:List Nat}(hR:Rel ι F st.S w)(hv:VRs ι F w st.env a.tmps.toList)(hd:a.defers=Ds.map mark1)(hm:MarksOk Ds w):After ι F st.S w Ds st hr ι F w a Ds:=
 ⟨hR,hv,.refl _ _ _ _,hd,hm,fun _ h=>.inl h,fun _=>rfl⟩
theorem sim_seq{c1 c2:Code}{st st1 st2:St}{e:X}(h1:Sim P c1 st .nrm st1)(h2:Sim P c2 st1 e st2):Sim P (.seq c1 c2) st e st2:=by
 intro b ι F w a Ds hb hR hv hd hm
 have hb':(b.roundOf=none∨hasRange c1=false)∧(b.roundOf=none∨hasRange c2=false):=by
  rcases hb with h|h
  ·exact⟨.inl h,.inl h⟩
  ·simp only[hasRange,Bool.or_eq_false_iff]at h;exact⟨.inr h.1,.inr h.2⟩
 obtain⟨ι1,F1,w1,a1,Ds1,x,hx⟩:=h1 b ι F w a Ds hb'.1 hR hv hd hm
 obtain⟨ι2,F2,w2,a2,Ds2,y,hy⟩:=h2 b ι1 F1 w1 a1 Ds1 hb'.2 x.rel x.env x.defers x.marks
 refine⟨ι2,F2,w2,a2,Ds2,x.step hR.dom y (fun h=>by simpa only[hasRange,Bool.or_eq_false_iff]using h),fun k cs it hit=>?_⟩
 rcases hit with rfl|⟨c0,e0,_⟩
 ·exact .head (.one st_seq) (.head (hx (.code c2::k) cs _ (.inl rfl)) (hy k cs _ (.inl rfl)))
 ·cases e0
theorem sim_seq_out{c1 c2:Code}{st st1:St}{e:X}(he:e≠.nrm)(h1:Sim P c1 st e st1):Sim P (.seq c1 c2) st e st1:=by
 intro b ι F w a Ds hb hR hv hd hm
 have hb':(b.roundOf=none∨hasRange c1=false):=by
  rcases hb with h|h
  ·exact .inl h
  ·simp only[hasRange,Bool.or_eq_false_iff]at h;exact .inr h.1
 obtain⟨ι1,F1,w1,a1,Ds1,x,hx⟩:=h1 b ι F w a Ds hb' hR hv hd hm
 refine⟨ι1,F1,w1,a1,Ds1,⟨x.rel,x.env,x.ext,x.defers,x.marks,x.new,fun h=>x.same (by simp only[hasRange,Bool.or_eq_false_iff]at h;exact h.1)⟩,fun k cs it hit=>?_⟩
 rcases hit with rfl|⟨c0,e0,_⟩
 ·exact .head (.one st_seq) (.pass (x:=.code c2) (fun _ h=>by cases h) he (hx (.code c2::k) cs _ (.inl rfl)))
 ·cases e0
theorem sim_loop{c:Code}{st st1 st2:St}{e:X}(h1:Sim P c st .nrm st1)(h2:Sim P (.loop c) st1 e st2):Sim P (.loop c) st e st2:=by
 intro b ι F w a Ds hb hR hv hd hm
 obtain⟨ι1,F1,w1,a1,Ds1,x,hx⟩:=h1 b ι F w a Ds hb hR hv hd hm
 obtain⟨ι2,F2,w2,a2,Ds2,y,hy⟩:=h2 b ι1 F1 w1 a1 Ds1 hb x.rel x.env x.defers x.marks
 refine⟨ι2,F2,w2,a2,Ds2,x.step hR.dom y (fun h=>⟨h,h⟩),fun k cs it hit=>?_⟩
 refine .head (.one (m₁:=lone (atr b a (.code c::.inLoop c::k)) cs w) ?_) (.head (hx (.inLoop c::k) cs _ (.inl rfl)) (hy k cs _ (.inr ⟨c,rfl,rfl⟩)))
 rcases hit with rfl|⟨c0,e0,rfl⟩
 ·exact st_loop
 ·cases e0;exact st_inLoop
theorem sim_loop_out{c:Code}{st st1:St}{e:X}(he:e≠.nrm)(h1:Sim P c st e st1):Sim P (.loop c) st e st1:=by
 intro b ι F w a Ds hb hR hv hd hm
 obtain⟨ι1,F1,w1,a1,Ds1,x,hx⟩:=h1 b ι F w a Ds hb hR hv hd hm
 refine⟨ι1,F1,w1,a1,Ds1,⟨x.rel,x.env,x.ext,x.defers,x.marks,x.new,x.same⟩,fun k cs it hit=>?_⟩
 refine .head (.one (m₁:=lone (atr b a (.code c::.inLoop c::k)) cs w) ?_) (.pass (x:=.inLoop c) (fun _ h=>by cases h) he (hx (.inLoop c::k) cs _ (.inl rfl)))
 rcases hit with rfl|⟨c0,e0,rfl⟩
 ·exact st_loop
 ·cases e0;exact st_inLoop
theorem sim_block{c:Code}{id:Nat}{st st1:St}{e:X}(h1:Sim P c st e st1):Sim P (.block id c) st (if e=.exit id then .nrm else e) st1:=by
 intro b ι F w a Ds hb hR hv hd hm
 obtain⟨ι1,F1,w1,a1,Ds1,x,hx⟩:=h1 b ι F w a Ds hb hR hv hd hm
 refine⟨ι1,F1,w1,a1,Ds1,⟨x.rel,x.env,x.ext,x.defers,x.marks,x.new,x.same⟩,fun k cs it hit=>?_⟩
 rcases hit with rfl|⟨c0,e0,_⟩
 ·refine .head (.one st_block) ?_
  have h:=hx (.inBlock id::k) cs _ (.inl rfl)
  split
  ·rename_i he
   subst he
   obtain⟨t,h0,h⟩:=h
   exact h.trans (.one (st_exit (by rw[h0];simp[exitTo])))
  ·rename_i he
   cases e with
   |nrm=>exact Steps.trans h (.one st_inBlock)
   |ret=>exact h
   |exit id'=>
    obtain⟨t,h0,h⟩:=h
    refine⟨t,h0.trans ?_,h⟩
    have:(id==id')=false:=by simp;exact fun e=>he (by rw[e])
    simp[exitTo,this]
 ·cases e0
theorem sim_cond{x:Operand}{c1 c2:Code}{t:Bool}{st st1:St}{e:X}(hx:evalS st.env x=some (.bool t))(h1:Sim P (if t then c1 else c2) st e st1):Sim P (.cond x c1 c2) st e st1:=by
 intro b ι F w a Ds hb hR hv hd hm
 have hb':(b.roundOf=none∨hasRange (if t then c1 else c2)=false):=by
  rcases hb with h|h
  ·exact .inl h
  ·simp only[hasRange,Bool.or_eq_false_iff]at h;cases t
   ·exact .inr h.2
   ·exact .inr h.1
 obtain⟨ι1,F1,w1,a1,Ds1,y,hy⟩:=h1 b ι F w a Ds hb' hR hv hd hm
 refine⟨ι1,F1,w1,a1,Ds1,⟨y.rel,y.env,y.ext,y.defers,y.marks,y.new,fun h=>y.same (by
  simp only[hasRange,Bool.or_eq_false_iff]at h
  cases t
  ·exact h.2
  ·exact h.1)⟩,fun k cs it hit=>?_⟩
 have hxe:a.eval x=.bool t:=evalS_ok hv hx
 rcases hit with rfl|⟨c0,e0,_⟩
 ·exact .head (.one (st_cond hxe)) (hy k cs _ (.inl rfl))
 ·cases e0
theorem mapM_none{f:SV→Option SV}{l:List SV}{x:SV}(hx:x∈l)(hf:f x=none):l.mapM f=none:=by
 induction l with
 |nil=>cases hx
 |cons y r ih=>
  rw[List.mapM_cons]
  rcases List.mem_cons.1 hx with rfl|h
  ·rw[hf];rfl
  ·rw[ih h]
   cases f y<;>rfl
theorem sim_range(hC:CfgOk P cfg){call:CallT}(hcall:CallSpec P cfg call){f:Operand}{ps:Array Tmp}{as bd:Code}{st:St}{g:FuncId}{x y:List SV}(hf:evalS st.env f=some (.fn g x y)){r:SV}{S':Zt}
  (h:call g (x++[.yld st.S.length]++y) (st.S++[.loop st.env ps.toList as bd .ready none])=some (r,S')) {env':List SV} {ps':List Nat} {as' bd':Code} {ls:LoopState} {pe:Option X} (hS:S'[st.S.length]?=some (.loop env' ps' as' bd' ls pe)) (hls:ls≠.busy) :
  Sim P (.rangeFunc f ps as bd) st (pe.getD .nrm) ⟨st.env,S'.set st.S.length .dead⟩:=by
 intro b ι F w a Ds hb hR hv hd hm
 have hb':b.roundOf=none:=hb.resolve_right (by simp[hasRange])
 obtain⟨X1,Y1,hfv,hX,hY⟩:=evalS_ok hv hf
 obtain⟨ι1,w1,hw1,hi1,hR1,hE1,hD1⟩:=hR.newLoop hv b.fn ps as bd
 have hs:=hcall _ _ _ _ _ h
 have hmem:SV.yld st.S.length∈x++[.yld st.S.length]++y:=by simp
 have hspec:InOk P g (x++[.yld st.S.length]++y) (st.S++[.loop st.env ps.toList as bd .ready none]) r S':=by
  split at hs
  ·exact hs
  ·obtain⟨args',h1,_⟩:=hs
   rw[mapM_none hmem (by simp[dS,frz])]at h1;cases h1
  ·obtain⟨args',h1,_⟩:=hs
   rw[mapM_none hmem (by simp[dS,frz])]at h1;cases h1
 obtain⟨hen,hspec⟩:=hspec
 have hargs:VRs ι1 F w1 (x++[.yld st.S.length]++y) (X1.toList++[Value.func (.yield (w.heap.size+1)) #[] #[]]++Y1.toList):=
  ((hX.up hE1.up).append (show VRs ι1 F w1 [.yld st.S.length] [.func (.yield (w.heap.size+1)) #[] #[]] from⟨_,[],rfl,⟨_,hi1,rfl⟩,rfl⟩)).append (hY.up hE1.up)
 obtain⟨rv,ι2,F2,w2,hct,-,hR2,hE2⟩:=hspec ι1 F w1 _ hR1 hargs
 have harr:(X1.toList++[Value.func (.yield (w.heap.size+1)) #[] #[]]++Y1.toList).toArray=X1++#[Value.func (.yield (w.heap.size+1)) #[] #[]]++Y1:=by simp
 rw[harr]at hct
 have hi2:=hE2.up.im _ _ hi1
 obtain⟨L,D,k1,k2,k3,k4,k5,k6,k7,k8,k9⟩:=hR2.loop _ _ _ _ _ _ _ _ hi2 hS
 simp only[]at k1
 have hLb:L.state≠.busy:=by rw[k6];exact hls
 obtain⟨hR3,hE3⟩:=hR2.turn hi2 hS k1 .exhausted pe .dead (.inr rfl)
 have hpend:({ L with state:=LoopState.exhausted,pending:=pe.map X.code }:Loop)={ L with state:=.exhausted }:=by rw[←k7]
 rw[hpend]at hR3 hE3
 have hm1:MarksOk (w.heap.size::Ds) w1:=⟨by
  refine List.nodup_cons.2 ⟨fun hin=>?_,hm.nodup⟩
  have:=hm.at_ _ hin
  have:=(Array.getElem?_eq_some_iff.1 this).1
  omega,fun D' hD'=>by
   rcases List.mem_cons.1 hD' with rfl|h
   ·exact hD1
   ·exact(hm.ext hR hE1).at_ _ h⟩
 have hE12:=hE1.trans hR.dom hE2
 have hE123:=hE12.trans hR.dom hE3
 have hm3:=(hm1.ext hR1 hE2).ext hR2 hE3
 refine⟨ι2,F2,_,{ a with defers:=mark1 w.heap.size::a.defers },w.heap.size::Ds,⟨hR3,hv.up hE123.up,hE123,by simp[hd],hm3,fun D' hD'=>?_,fun h=>by simp[hasRange]at h⟩,fun k cs it hit=>?_⟩
 ·rcases List.mem_cons.1 hD' with rfl|h
  ·exact .inr (Nat.le_refl _)
  ·exact .inl h
 ·rcases hit with rfl|⟨c0,e0,_⟩
  ·obtain⟨fr,hfn,hl,hst⟩:=hct (atr b { a with defers:=mark1 w.heap.size::a.defers } (.inRangeFunc (w.heap.size+1)::k)::cs)
   have h1:Steps P (lone (atr b a (.code (.rangeFunc f ps as bd)::k)) cs w) (lone (atr b { a with defers:=mark1 w.heap.size::a.defers } (.endRangeFunc (w.heap.size+1)::k)) cs w2):=by
    refine .head (st_rangeFunc hb' hfv hen) ?_
    rw[←hw1]
    refine hst.trans (.one ?_)
    rw[step_leave_returned hl]
    rfl
   refine .head (h1.trans (.one (st_endRange k1 hLb))) ?_
   rw[k7]
   cases pe with
   |none=>exact .refl _ _
   |some e=>
    cases e with
    |nrm=>exact .one st_skip
    |ret=>exact⟨k,.refl _ _⟩
    |exit id=>exact⟨k,rfl,.refl _ _⟩
  ·cases e0
theorem body_ok(hC:CfgOk P cfg){f:FuncId}{fn:Func}{c:Code}(hfn:cfg.fns f=some fn)(hb:fn.body=some c){args:List SV}{S:Zt}{e:X}{st:St}(h:Sim P c ⟨args++List.replicate (fn.ntmps-args.length) undefS,S⟩ e st)
  (he:∀id,e≠.exit id) (hl:¬(hasRange c=true∧¬noLoops st.S=true)) {vs:List SV} (hr:resultS cfg st.env st.S fn.results.toList=some vs):InOk P f args S (packS vs) st.S:=by
 obtain⟨hfP,hen,-⟩:=hC.fns f fn hfn
 refine⟨hen,fun ι F w vals hR hv=>?_⟩
 have hlen:=hv.length
 let b0:Frame:={ (default:Frame)with fn:=f,kind:=.normal }
 let a0:Act:={ tmps:=vals.toArray++Array.replicate (fn.ntmps-vals.length) undef,defers:=[] }
 have hb0:b0.roundOf=none:=rfl
 have hv0:VRs ι F w (args++List.replicate (fn.ntmps-args.length) undefS) a0.tmps.toList:=by
  have:=hv.append (VRs.replicate (undef_VR (ι:=ι) (F:=F) (w:=w)) (fn.ntmps-vals.length))
  rw[hlen]
  simpa[a0]using this
 obtain⟨ι1,F1,w1,a1,Ds1,x,hx⟩:=h b0 ι F w a0 [] (.inl hb0) hR hv0 rfl ⟨List.nodup_nil,fun _ h=>by cases h⟩
 have take:∀(Ds:List Nat) (w2:World),MarksOk Ds w2→(∀D∈Ds,w.heap.size≤D)→Rel ι1 F1 st.S w2→Ext ι F S w ι1 F1 st.S w2→VRs ι1 F1 w2 st.env a1.tmps.toList→(Ds=[]∨noLoops st.S=true)→
   ∃w3,Rel ι1 F1 st.S w3∧Ext ι F S w ι1 F1 st.S w3∧VRs ι1 F1 w3 st.env a1.tmps.toList∧∀(fr:Frame) (cs:List Frame),fr.mode=.returning→Steps P (lone { fr with defers:=Ds.map mark1 } cs w2) (lone { fr with defers:=[] } cs w3):=by
  intro Ds
  induction Ds with
  |nil=>intro w2 _ _ hR2 hE2 hv2 _;exact⟨w2,hR2,hE2,hv2,fun fr cs _=>.refl _ _⟩
  |cons D r ih=>
   intro w2 hm2 hlo hR2 hE2 hv2 hnl
   have hnl':noLoops st.S=true:=hnl.resolve_left (by simp)
   have hD:=hm2.at_ D (by simp)
   have o:=Other.put w2 D (.deferred none)
   obtain⟨hR3,u3⟩:=hR2.other (S':=st.S) o (fun c t fr hc=>by rw[hD]at hc;cases hc) rfl (fun k r hr hn=>.inl ⟨hr,fun⟨_,_,_,_,_,_,e⟩=>by
    subst e
    unfold noLoops at hnl'
    rw[List.all_eq_true]at hnl'
    have:=hnl' _ (List.mem_of_getElem? hr)
    simp at this⟩)
   have hE3:Ext ι F S w ι1 F1 st.S (w2.putObj D (.deferred none)):=⟨hE2.up.trans u3,by rw[o.size];exact hE2.size,hE2.len,hE2.evol,hE2.fnew,hE2.inew,fun b hb hn=>by
    rw[o.heap b (fun e=>by have:=hlo D (by simp);omega)];exact hE2.frame b hb hn,hE2.os,hE2.output,hE2.tape⟩
   have hnd:=List.nodup_cons.1 hm2.nodup
   obtain⟨w3,q1,q2,q3,q4⟩:=ih _ ⟨hnd.2,fun D' hD'=>by
    rw[o.heap D' (fun e=>hnd.1 (e▸hD'))];exact hm2.at_ D' (by simp[hD'])⟩ (fun D' hD'=>hlo D' (by simp[hD'])) hR3 hE3 (hv2.up u3) (.inr hnl')
   exact⟨w3,q1,q2,q3,fun fr cs hmode=>.head (st_take hmode hD) (q4 fr cs hmode)⟩
 have hnew:∀D∈Ds1,w.heap.size≤D:=fun D hD=>(x.new D hD).resolve_left (by simp)
 have hcase:Ds1=[]∨noLoops st.S=true:=by
  by_cases hrange:hasRange c=true
  ·right
   by_cases hn:noLoops st.S=true
   ·exact hn
   ·exact absurd ⟨hrange,hn⟩ hl
  ·exact .inl (x.same (by simpa using hrange))
 obtain⟨w3,hR3,hE3,hv3,hs3⟩:=take Ds1 w1 x.marks hnew x.rel x.ext x.env hcase
 obtain⟨rv,hrun,hrv⟩:=results_ok hC.ty hR3 hv3 hr
 refine⟨rv,ι1,F1,w3,fun cs=>?_,hrv,hR3,hE3⟩
 have henter:Frame.enter P f vals.toArray .normal=atr b0 a0 [.code c]:=by
  simp[Frame.enter,atr,hfP,hb,b0,a0]
  rfl
 rw[henter]
 have harr:=hx [] cs _ (.inl rfl)
 have fin:∀(todo:List Item),Steps P (lone (atr b0 a0 [.code c]) cs w) (lone { atr b0 a1 todo with mode:=.returning } cs w1)→∃fr:Frame,fr.fn=f∧fr.leaving P w3 (.returned rv)∧Steps P (lone (atr b0 a0 [.code c]) cs w) (lone fr cs w3):=by
  intro todo hst
  have h4:=hs3 { atr b0 a1 todo with mode:=.returning } cs rfl
  have h5:({ ({ atr b0 a1 todo with mode:=.returning }:Frame)with defers:=Ds1.map mark1 }:Frame)={ atr b0 a1 todo with mode:=.returning }:=by
   simp[atr,x.defers]
  rw[h5]at h4
  exact⟨_,rfl,⟨rfl,rfl,rfl,fn,hfP,hrun⟩,hst.trans h4⟩
 cases e with
 |nrm=>exact fin [] (Steps.trans harr (.one (st_end hb0)))
 |ret=>obtain⟨todo,hst⟩:=harr;exact fin _ (hst.trans (.one (st_ret hb0)))
 |exit id=>exact absurd rfl (he id)
end main
end Go.Sh
namespace Go.Sh
theorem zip_ok{ι:IM}{F:Fset}{w:World}:∀(ps:List Nat) (args:List SV) (vals:List Value) (env:List SV) (t:Array Value),VRs ι F w args vals→VRs ι F w env t.toList→
  VRs ι F w ((ps.zip args).foldl (fun e (t,a)=>e.set t a) env) ((ps.zip vals).foldl (fun tmps (t,a)=>tmps.setIfInBounds t a) t).toList
 |[],_,_,_,_,_,h=>by simpa using h
 |p::ps,[],_,_,_,ha,h=>by simp only[VRs]at ha;subst ha;simpa using h
 |p::ps,a::args,_,env,t,ha,h=>by
  obtain⟨x,xs,rfl,h1,h2⟩:=ha
  simp only[List.zip_cons_cons,List.foldl_cons]
  exact zip_ok ps args xs (env.set p a) (t.setIfInBounds p x) h2 (by simpa using h.set h1 p)
section main
variable {P:Program} {cfg:Cfg}
theorem round_ok{as bd:Code}{env:List SV}{ps:List Nat}{l:Nat}{args:List SV}{S:Zt}(hS:S[l]?=some (.loop env ps as bd .ready none))(hlen:args.length=ps.length)(has:hasRange as=false)(hbd:hasRange bd=false)
  {st1 st2:St} {e:X} (h1:Sim P as ⟨(ps.zip args).foldl (fun e (t,a)=>e.set t a) env,S⟩ .nrm st1) {env1:List SV} {ps1:List Nat} {as1 bd1:Code} (hS1:st1.S[l]?=some (.loop env1 ps1 as1 bd1 .ready none))
  (h2:Sim P bd ⟨st1.env,st1.S.set l (.loop env1 ps1 as1 bd1 .busy none)⟩ e st2) {env2:List SV} {ps2:List Nat} {as2 bd2:Code} (hS2:st2.S[l]?=some (.loop env2 ps2 as2 bd2 .busy none)) :
  RoundOk P l args S (.bool (decide (e=.nrm))) (st2.S.set l (.loop env2 ps2 as2 bd2 (if e=.nrm then .ready else .done) (if e=.nrm then none else some e))):=by
 intro ι F w vals ix hR hix hv
 obtain⟨L,D,k1,k2,k3,k4,k5,k6,k7,k8,k9⟩:=hR.loop _ _ _ _ _ _ _ _ hix hS
 have hsz:vals.toArray.size=L.params.size:=by
  have:=hv.length
  have hp:L.params.size=ps.length:=by rw[←k3];simp
  simp;omega
 have hy:=Go.run_yield (P:=P) k1 hsz
 let tm:Array Value:=(L.params.zip vals.toArray).foldl (fun tmps (t,a)=>tmps.setIfInBounds t a) L.tmps
 have htm:VRs ι F w ((ps.zip args).foldl (fun e (t,a)=>e.set t a) env) tm.toList:=by
  have:=zip_ok ps args vals env L.tmps hv k2
  have e2:tm=((ps.zip vals).foldl (fun tmps (t,a)=>tmps.setIfInBounds t a) L.tmps):=by
   simp only[tm]
   rw[←Array.foldl_toList,Array.toList_zip,k3]
  rw[e2];exact this
 let b:Frame:={ (default:Frame)with fn:=L.fn,kind:=.normal,roundOf:=some ix.b }
 let a0:Act:={ tmps:=tm,defers:=[] }
 obtain⟨ι1,F1,w1,a1,Ds1,x,hx⟩:=h1 b ι F w a0 [] (.inr has) hR htm rfl ⟨List.nodup_nil,fun _ h=>by cases h⟩
 have hDs1:Ds1=[]:=x.same has
 subst hDs1
 have hi1:=x.ext.up.im _ _ hix
 obtain⟨L1,D1,l1,l2,l3,l4,l5,l6,l7,l8,l9⟩:=x.rel.loop _ _ _ _ _ _ _ _ hi1 hS1
 obtain⟨hR2,hE2⟩:=x.rel.turn hi1 hS1 l1 .busy none (.loop env1 ps1 as1 bd1 .busy none) (.inl rfl)
 have hp1:({ L1 with state:=LoopState.busy,pending:=(none:Option X).map X.code }:Loop)={ L1 with state:=.busy }:=by rw[←l7]
 rw[hp1]at hR2 hE2
 obtain⟨ι3,F3,w3,a3,Ds3,y,hy3⟩:=h2 b ι1 F1 _ a1 [] (.inr hbd) hR2 (x.env.up hE2.up) x.defers ⟨List.nodup_nil,fun _ h=>by cases h⟩
 have hi3:=y.ext.up.im _ _ hi1
 obtain⟨L3,D3,m1,m2,m3,m4,m5,m6,m7,m8,m9⟩:=y.rel.loop _ _ _ _ _ _ _ _ hi3 hS2
 obtain⟨hR4,hE4⟩:=y.rel.turn hi3 hS2 m1 (if e=.nrm then .ready else .done) (if e=.nrm then none else some e) _ (.inl rfl)
 refine⟨L.fn,tm,L.assign,L.body,.bool (decide (e=.nrm)),ι3,F3,_,hy,fun c cs=>?_,rfl,hR4,((x.ext.trans hR.dom hE2).trans hR.dom y.ext).trans hR.dom hE4⟩
 have hround:Frame.round ix.b L.fn tm L.assign L.body .normal=atr b a0 [.code as,.beginRound,.code bd]:=by
  simp[Frame.round,atr,b,a0,k4,k5]
 rw[hround]
 have s1:Steps P (lone (atr b a0 [.code as,.beginRound,.code bd]) (c::cs) w) (lone (atr b a1 [.code bd]) (c::cs) (w1.putObj ix.b (.loop { L1 with state:=.busy }))):=
  Steps.trans (hx [.beginRound,.code bd] (c::cs) _ (.inl rfl)) (.one (st_beginRound rfl l1 l6))
 have s2:=hy3 [] (c::cs) _ (.inl rfl)
 refine s1.trans ?_
 cases e with
 |nrm=>exact Steps.trans s2 (.one (st_leave_nrm rfl rfl m1))
 |ret=>obtain⟨todo,s2⟩:=s2;exact s2.trans (.one (st_leave_ret rfl rfl m1))
 |exit id=>obtain⟨todo,h0,s2⟩:=s2;exact s2.trans (.one (st_leave_exit rfl rfl m1 (by rw[h0];rfl)))
theorem rel_start{F:Fset}{w:World}(h:Fok F w):Rel noI F [] w:=
 ⟨(fun _ _ h=>by cases h),(fun _ _ _ _ h=>by cases h),(fun _ _ _ _ _ _ _ _ h=>by cases h),(fun _ _ _ _ h=>by cases h),h⟩
theorem pext_of{F F':Fset}{S:Zt}{w w':World}{ι':IM}(hR:Rel ι' F' S w')(h:Ext noI F [] w ι' F' S w'):PExt F w F' w':=by
 have none:∀b,¬actBlock noI [] b:=fun b ⟨id,ix,hi,_⟩=>by cases hi
 exact⟨hR.fok,h.up.fm,h.size,fun b o hf=>(h.fnew b o hf).imp id (fun h=>h.resolve_right (none b)),fun b hb=>h.frame b hb (none b),h.os,h.output,h.tape⟩
theorem pure_of{f:FuncId}{args:List SV}{v r:SV}{S:Zt}(h:InOk P f args [] v S)(hf:frz S dS v=some r):PureOk P f args r:=by
 obtain⟨hen,h⟩:=h
 refine⟨hen,fun F w vals hF hv=>?_⟩
 obtain⟨x,ι',F',w',hc,hx,hR,hE⟩:=h noI F w vals (rel_start hF) hv
 obtain⟨hR2,hE2⟩:=hR.sub (sealS_sub (refs S dS v) S)
 have hz:=frz_ok hR2 (sealS_sub _ _) dS (fun id hid es=>sealS_sealed _ S id hid es) hf (hx.up hE2.up)
 exact⟨x,_,w',hc,hz,pext_of hR2 (hE.trans (fun _ _ h=>by cases h) hE2)⟩
theorem pureS_VR{ι:IM}{F:Fset}{w:World}{v:SV}{x:Value}(hp:pureS v=true)(h:VR ι F w v x):VR noI F w v x:=by
 cases v with
 |agg cs=>
  obtain⟨a,rfl,h⟩:=h
  refine⟨a,rfl,?_⟩
  simp only[pureS,List.all_eq_true]at hp
  rw[VRs_iff]at h ⊢
  refine⟨h.1,fun i e he=>?_⟩
  obtain⟨y,h1,h2⟩:=h.2 i e he
  refine⟨y,h1,?_⟩
  have:=hp e (List.mem_of_getElem? he)
  cases e<;>first|exact h2|simp at this
 |int k n=>exact h
 |bool k=>exact h
 |str k=>exact h
 |nilp=>exact h
 |nilf=>exact h
 |nili=>exact h
 |vsl es c=>exact h
 |vptr e=>exact h
 |iface t y=>simp[pureS]at hp
 |tup vs=>simp[pureS]at hp
 |osl _ _ _ _ _=>simp[pureS]at hp
 |optr _ _ _=>simp[pureS]at hp
 |fn _ _ _=>simp[pureS]at hp
 |yld _=>simp[pureS]at hp
theorem pure_of'{f:FuncId}{args:List SV}{v:SV}{S:Zt}(h:InOk P f args [] v S)(hp:pureS v=true):PureOk P f args v:=by
 obtain⟨hen,h⟩:=h
 refine⟨hen,fun F w vals hF hv=>?_⟩
 obtain⟨x,ι',F',w',hc,hx,hR,hE⟩:=h noI F w vals (rel_start hF) hv
 exact⟨x,F',w',hc,pureS_VR hp hx,pext_of hR hE⟩
theorem fresh_of{f:FuncId}{args es:List SV}{id sz off len:Nat}{cap:Option Nat}{S:Zt}(h:InOk P f args [] (.osl id sz off len cap) S)(hS:S[id]?=some (.cells es true))(hp:es.all pureS=true):FreshOk P f args es sz off len cap:=by
 obtain⟨hen,h⟩:=h
 refine⟨hen,fun F w vals hF hv=>?_⟩
 obtain⟨x,ι',F',w',hc,hx,hR,hE⟩:=h noI F w vals (rel_start hF) hv
 obtain⟨ix,c,b,o,k1,k2,k3,k4,k5,k6⟩:=hx
 have hr:=hR.row _ _ _ _ k1 hS
 have hb:w.heap.size≤ix.b:=by
  rcases hE.inew _ _ k1 with h|⟨_,h|⟨_,_,h,_⟩⟩
  ·cases h
  ·exact h
  ·cases h
 refine⟨x,F',w',ix,hc,⟨ix,c,b,o,by simp[oneI],k2,k3,k4,k5,k6⟩,⟨hr.pos,fun i e he=>?_,hr.blk,hr.free,hr.kept,hr.cap⟩,hb,pext_of hR hE⟩
 obtain⟨y,h1,h2,h3⟩:=hr.at_ i e he
 exact⟨y,pureS_VR (List.all_eq_true.1 hp e (List.mem_of_getElem? he)) h1,h2,h3⟩
structure SoundAt(P:Program)(cfg:Cfg)(n:Nat):Prop where
 den:∀c st e st',codeOk c=true→den cfg n c st=some (e,st')→Sim P c st e st'
 body:∀f args S r S',bodyS cfg n f args S=some (r,S')→InOk P f args S r S'
 pure:∀f args r,pureCall cfg n f args=some r→PureOk P f args r
 freshL:∀f args v,freshCall cfg n f args=some (.inl v)→PureOk P f args v
 freshR:∀f args es sz off len cap,freshCall cfg n f args=some (.inr (es,sz,off,len,cap))→FreshOk P f args es sz off len cap
 call:CallSpec P cfg (callS cfg n)
 rnd:RndSpec P (roundS cfg n)
theorem sound_den(hC:CfgOk P cfg){n:Nat}(ih:SoundAt P cfg n):∀c st e st',codeOk c=true→den cfg (n+1) c st=some (e,st')→Sim P c st e st':=by
 intro c st e st' hok h
 cases c with
 |skip=>
  simp only[den]at h
  cases h
  intro b ι F w a Ds hb hR hv hd hm
  refine⟨ι,F,w,a,Ds,sim_refl st _ hR hv hd hm,fun k cs it hit=>?_⟩
  rcases hit with rfl|⟨_,e0,_⟩
  ·exact .one st_skip
  ·cases e0
 |ret=>
  simp only[den]at h
  cases h
  intro b ι F w a Ds hb hR hv hd hm
  refine⟨ι,F,w,a,Ds,sim_refl st _ hR hv hd hm,fun k cs it hit=>?_⟩
  rcases hit with rfl|⟨_,e0,_⟩
  ·exact⟨k,.refl _ _⟩
  ·cases e0
 |exit id=>
  simp only[den]at h
  cases h
  intro b ι F w a Ds hb hR hv hd hm
  refine⟨ι,F,w,a,Ds,sim_refl st _ hR hv hd hm,fun k cs it hit=>?_⟩
  rcases hit with rfl|⟨_,e0,_⟩
  ·exact⟨k,rfl,.refl _ _⟩
  ·cases e0
 |region id ops draw=>
  simp only[den,Option.map_eq_some_iff]at h
  obtain⟨⟨env',S'⟩,h,e0⟩:=h
  cases e0
  simp only[codeOk,Bool.or_eq_true,Bool.not_eq_true']at hok
  intro b ι F w a Ds hb hR hv hd hm
  obtain⟨ι',F',w',a',h1,h2,h3,h4,h5⟩:=region_ok hC.ty ih.call ih.rnd hC.mixed (fun hdr=>hok.resolve_left (by rw[hdr];simp)) h id b hR hv
  refine⟨ι',F',w',a',Ds,⟨h2,h3,h4,by rw[h1];exact hd,hm.ext hR h4,fun _ h=>.inl h,fun _=>rfl⟩,fun k cs it hit=>?_⟩
  rcases hit with rfl|⟨_,e0,_⟩
  ·exact h5 k cs
  ·cases e0
 |seq c1 c2=>
  simp only[den,Option.bind_eq_some_iff]at h
  simp only[codeOk,Bool.and_eq_true]at hok
  obtain⟨⟨e1,st1⟩,h1,h⟩:=h
  cases e1 with
  |nrm=>exact sim_seq (ih.den _ _ _ _ hok.1 h1) (ih.den _ _ _ _ hok.2 h)
  |ret=>cases h;exact sim_seq_out (by simp) (ih.den _ _ _ _ hok.1 h1)
  |exit id=>cases h;exact sim_seq_out (by simp) (ih.den _ _ _ _ hok.1 h1)
 |cond x c1 c2=>
  simp only[den]at h
  simp only[codeOk,Bool.and_eq_true]at hok
  split at h
  ·rename_i hx;exact sim_cond (t:=true) hx (ih.den _ _ _ _ hok.1 h)
  ·rename_i hx;exact sim_cond (t:=false) hx (ih.den _ _ _ _ hok.2 h)
  ·cases h
 |block id c1=>
  simp only[den,Option.map_eq_some_iff]at h
  obtain⟨⟨e1,st1⟩,h1,e0⟩:=h
  cases e0
  exact sim_block (ih.den _ _ _ _ hok h1)
 |loop c1=>
  simp only[den,Option.bind_eq_some_iff]at h
  obtain⟨⟨e1,st1⟩,h1,h⟩:=h
  cases e1 with
  |nrm=>exact sim_loop (ih.den _ _ _ _ hok h1) (ih.den _ _ _ _ hok h)
  |ret=>cases h;exact sim_loop_out (by simp) (ih.den _ _ _ _ hok h1)
  |exit id=>cases h;exact sim_loop_out (by simp) (ih.den _ _ _ _ hok h1)
 |rangeFunc f ps as bd=>
  simp only[den]at h
  split at h
  ·rename_i g x y hf
   rw[Option.bind_eq_some_iff]at h
   obtain⟨⟨r,S'⟩,hcl,h⟩:=h
   simp only[]at h
   split at h
   ·rename_i env' ps' as' bd' ls pe hS
    split at h
    ·cases h
    ·rename_i hls
     cases h
     exact sim_range hC ih.call hf hcl hS hls
   ·cases h
  ·cases h
 |scope c1=>simp[den]at h
 |label l=>simp[den]at h
 |goto l=>simp[den]at h
 |refuse s=>simp[den]at h
theorem sound(hC:CfgOk P cfg):∀n,SoundAt P cfg n
 |0=>⟨(fun _ _ _ _ _ h=>by cases h),(fun _ _ _ _ _ h=>by cases h),(fun _ _ _ h=>by cases h),(fun _ _ _ h=>by cases h),(fun _ _ _ _ _ _ _ h=>by cases h),(fun _ _ _ _ _ h=>by cases h),(fun _ _ _ _ _ h=>by cases h)⟩
 |n+1=>by
  have ih:=sound hC n
  refine⟨sound_den hC ih,?_,?_,?_,?_,?_,?_⟩
  ·intro f args S r S' h
   simp only[bodyS,Option.bind_eq_some_iff]at h
   obtain⟨fn,hfn,h⟩:=h
   split at h
   ·rename_i c hb
    rw[Option.bind_eq_some_iff]at h
    obtain⟨⟨e,st⟩,hden,h⟩:=h
    have hs:=ih.den _ _ _ _ ((hC.fns f fn hfn).2.2 c hb) hden
    simp only[]at h
    have fin:(∀id,e≠.exit id)→(if hasRange c=true∧¬noLoops st.S=true then none else(resultS cfg st.env st.S fn.results.toList).map fun vs=>(packS vs,st.S))=some (r,S')→InOk P f args S r S':=by
     intro he h
     split at h
     ·cases h
     ·rename_i hl
      rw[Option.map_eq_some_iff]at h
      obtain⟨vs,hr,e0⟩:=h
      cases e0
      exact body_ok hC hfn hb hs he hl hr
    cases e with
    |nrm=>exact fin (fun _ h=>by cases h) h
    |ret=>exact fin (fun _ h=>by cases h) h
    |exit id=>cases h
   ·cases h
  ·intro f args r h
   simp only[pureCall]at h
   split at h
   ·rename_i v ho
    cases h
    exact hC.orc _ _ _ ho
   ·rw[Option.bind_eq_some_iff]at h
    obtain⟨⟨v,S⟩,h1,h2⟩:=h
    exact pure_of (ih.body _ _ _ _ _ h1) h2
  ·intro f args v h
   simp only[freshCall,Option.bind_eq_some_iff]at h
   obtain⟨⟨u,S⟩,h1,h⟩:=h
   simp only[]at h
   split at h
   ·split at h
    ·split at h
     ·cases h
     ·cases h
    ·cases h
   ·split at h
    ·rename_i hp
     cases h
     exact pure_of' (ih.body _ _ _ _ _ h1) hp
    ·cases h
  ·intro f args es sz off len cap h
   simp only[freshCall,Option.bind_eq_some_iff]at h
   obtain⟨⟨u,S⟩,h1,h⟩:=h
   simp only[]at h
   split at h
   ·split at h
    ·rename_i hS
     split at h
     ·rename_i hp
      cases h
      exact fresh_of (ih.body _ _ _ _ _ h1) hS hp
     ·cases h
    ·cases h
   ·split at h
    ·cases h
    ·cases h
  ·intro g args S r S' h
   simp only[callS]at h
   split at h
   ·rename_i hm
    rw[hm]
    exact ih.body _ _ _ _ _ h
   ·rename_i hm
    rw[hm]
    rw[Option.bind_eq_some_iff]at h
    obtain⟨args',h1,h⟩:=h
    rw[Option.map_eq_some_iff]at h
    obtain⟨v,h2,e0⟩:=h
    cases e0
    exact⟨args',h1,ih.pure _ _ _ h2,rfl⟩
   ·rename_i hm
    rw[hm]
    rw[Option.bind_eq_some_iff]at h
    obtain⟨args',h1,h⟩:=h
    rw[Option.map_eq_some_iff]at h
    obtain⟨v,h2,e0⟩:=h
    cases v with
    |inl v=>cases e0;exact⟨args',h1,.inl ⟨ih.freshL _ _ _ h2,rfl⟩⟩
    |inr p=>
     obtain⟨es,sz,off,len,cap⟩:=p
     cases e0
     exact⟨args',h1,.inr ⟨es,sz,off,len,cap,ih.freshR _ _ _ _ _ _ _ h2,rfl,rfl⟩⟩
  ·intro l args S r S' h
   simp only[roundS]at h
   split at h
   ·rename_i env ps as bd hS
    split at h
    ·rename_i hc
     obtain⟨hlen,h1,h2⟩:=hc
     simp only[roundOk,Bool.and_eq_true,Bool.not_eq_true']at h1 h2
     rw[Option.bind_eq_some_iff]at h
     obtain⟨⟨e1,st1⟩,hd1,h⟩:=h
     simp only[]at h
     split at h
     ·rename_i he1
      subst he1
      split at h
      ·rename_i env1 ps1 as1 bd1 hS1
       rw[Option.bind_eq_some_iff]at h
       obtain⟨⟨e2,st2⟩,hd2,h⟩:=h
       simp only[]at h
       split at h
       ·rename_i env2 ps2 as2 bd2 hS2
        have hr:=round_ok hS hlen h1.1 h2.1 (ih.den _ _ _ _ h1.2 hd1) hS1 (ih.den _ _ _ _ h2.2 hd2) hS2
        cases e2 with
        |nrm=>cases h;simpa using hr
        |ret=>cases h;simpa using hr
        |exit id=>cases h;simpa using hr
       ·cases h
      ·cases h
     ·cases h
    ·cases h
   ·cases h
end main
end Go.Sh
