/-
  The law's own polynomials; why the bound holds; the law is true for every input.
-/
import Derived.Test.YthljopfhfgdajaaGreatPc
set_option linter.unusedVariables false
set_option linter.unusedSimpArgs false
/-
  The law's own polynomials: what upoly gives.
-/
set_option linter.unusedVariables false
set_option maxRecDepth 10000
namespace Go.Proofs
open Go.Sh

structure RV where
  n : Int
  d : Int
  c : VC
  c' : VC
def Rv (r : RV) : SV := Rt r.n r.d r.c r.c'
def OkR (r : RV) : Prop := (r.d = 1 ∨ r.d = 3) ∧ r.n.natAbs ≤ 6 ∧ (r.c = .nil → r.n = 0) ∧ r.c' ≠ .nil
def Rs (l : List RV) : List SV := l.map Rv
@[simp] theorem Rs_len {l : List RV} : (Rs l).length = l.length := by simp [Rs]
theorem Rs_get {l : List RV} {n : Nat} {r : RV} (h : l[n]? = some r) : (Rs l)[n]? = some (Rv r) := by simp [Rs, h]
theorem Rs_append {l m : List RV} : Rs (l ++ m) = Rs l ++ Rs m := by simp [Rs]
theorem Rs_take {l : List RV} {n : Nat} : (Rs l).take n = Rs (l.take n) := by simp [Rs, List.map_take]
theorem Rs_pure {l : List RV} : ∀ e ∈ Rs l, pureS e = true := by
  intro e he
  simp only [Rs, List.mem_map] at he
  obtain ⟨p, _, rfl⟩ := he
  rfl
theorem Rs_sizes {l : List RV} : sizesOk 4 (Rs l) = true := by
  unfold sizesOk
  rw [List.all_eq_true]
  intro e he
  simp only [Rs, List.mem_map] at he
  obtain ⟨p, _, rfl⟩ := he
  rfl

theorem whole_root {w : Int} {Q : SV → Prop} (h0 : -6 ≤ w) (h1 : w ≤ 6) (h : Q (Rv ⟨w, 1, .loose, .loose⟩)) : wpO (pureW cfgT 12 [.int .i64 w]) Q := by
  have hc : w = -6 ∨ w = -5 ∨ w = -4 ∨ w = -3 ∨ w = -2 ∨ w = -1 ∨ w = 0 ∨ w = 1 ∨ w = 2 ∨ w = 3 ∨ w = 4 ∨ w = 5 ∨ w = 6 := by omega
  rcases hc with rfl | rfl | rfl | rfl | rfl | rfl | rfl | rfl | rfl | rfl | rfl | rfl | rfl <;> exact root_hit rfl h

theorem div_root {w : Int} {Q : SV → Prop} (h0 : 0 ≤ w) (h1 : w ≤ 6) (h : ∀ r, OkR r → Q (.tup [Rv r, .int .i64 0])) : wpO (pureW cfgT 28 [Rv ⟨w, 1, .loose, .loose⟩, Rv ⟨3, 1, .loose, .loose⟩]) Q := by
  have hc : w = 0 ∨ w = 1 ∨ w = 2 ∨ w = 3 ∨ w = 4 ∨ w = 5 ∨ w = 6 := by omega
  rcases hc with rfl | rfl | rfl | rfl | rfl | rfl | rfl
  · exact root_hit rfl (h ⟨0, 1, .nil, .exact⟩ (by unfold OkR; decide))
  · exact root_hit rfl (h ⟨1, 3, .exact, .exact⟩ (by unfold OkR; decide))
  · exact root_hit rfl (h ⟨2, 3, .exact, .exact⟩ (by unfold OkR; decide))
  · exact root_hit rfl (h ⟨1, 1, .exact, .exact⟩ (by unfold OkR; decide))
  · exact root_hit rfl (h ⟨4, 3, .exact, .exact⟩ (by unfold OkR; decide))
  · exact root_hit rfl (h ⟨5, 3, .exact, .exact⟩ (by unfold OkR; decide))
  · exact root_hit rfl (h ⟨2, 1, .exact, .exact⟩ (by unfold OkR; decide))

def i8s (l : List Int) : List SV := l.map fun z => SV.int .i8 z
@[simp] theorem i8s_len {l : List Int} : (i8s l).length = l.length := by simp [i8s]
theorem i8s_get {l : List Int} {n : Nat} {z : Int} (h : l[n]? = some z) : (i8s l)[n]? = some (.int .i8 z) := by simp [i8s, h]
def Rng (l : List Int) : Prop := ∀ z ∈ l, -128 ≤ z ∧ z ≤ 127

theorem load_R {S : Store} {id : Nat} {r : RV} {lv : Bool} (h : S[id]? = some (.cells [Rv r] lv)) : loadS y38 S (.optr id 0 0) = some (Rv r) := by
  rw [load_row h rfl]; rfl
theorem store_R {S : Store} {id : Nat} {e0 : SV} {r : RV} {a b c d : SV} (h : S[id]? = some (.cells [e0] true)) (he : e0 = .agg [a, b, c, d]) : storeS y38 S (.optr id 0 0) (Rv r) = some (S.set id (.cells [Rv r] true)) := by
  subst he
  rw [store_row (e' := Rv r) h rfl rfl rfl rfl]
  rfl
theorem alloc_38 {S : Store} : allocS y38.zero S = some (.optr S.length 0 0, S ++ [.cells [y38.zero] true]) := rfl

/-- What the loop over the numbers keeps. -/
theorem upoly_loop : ∀ (m : Nat) (l : List Int) (c0 : VC) (acc : List RV) (id : Nat) (cap : Option Nat) (S : Store) (e : En) (k : X → En → Store → Prop), Rng l → acc.length + m = 7 → acc.length ≤ l.length → (∀ r ∈ acc, OkR r) → 
    e 0 = .vsl (i8s l) c0 → e 1 = .int .i64 6 → e 5 = .osl id 4 0 acc.length cap → (cap = none ∨ cap = some acc.length) → e 6 = .int .i64 (acc.length : Int) → S[id]? = some (.cells (Rs acc) true) →
    (∀ (e' : En) (S' : Store) (acc' : List RV) (id' : Nat) (cap' : Option Nat), acc'.length ≤ 7 → (∀ r ∈ acc', OkR r) → e' 5 = .osl id' 4 0 acc'.length cap' → S'[id']? = some (.cells (Rs acc') true) → k (.exit 0) e' S') →
    DenP cfgT 61 (.loop L6_0) e S k := by
  intro m
  induction m with
  | zero =>
    intro l c0 acc id cap S e k hb hm hal ok h0 h1 h5 hcap h6 hS hk
    refine L6_0_ok ?_
    unfold TL6_0
    simp only [h0, h1, h6]
    refine wpO_of (len_vsl rfl) ?_
    rw [i8s_len]
    simp only [b_lss, wpO_sm]
    have fin : ∀ e' : En, e' 5 = e 5 → k (.exit 0) e' S := fun e' g5 => hk e' S acc id cap (by omega) ok (g5.trans h5) hS
    by_cases hlt : (acc.length : Int) < (l.length : Int)
    · rw [decide_eq_true hlt]
      refine grdT rfl (grdT rfl (grdT rfl ?_))
      simp only [b_leq, wpO_sm, pickS_t]
      rw [decide_eq_false (show ¬ (acc.length : Int) ≤ 6 by omega)]
      exact fin _ rfl
    · rw [decide_eq_false hlt]
      refine grdF rfl (grdF rfl (grdF rfl (wpO_of pickS_f (cndF rfl ?_))))
      exact fin _ rfl
  | succ m ih =>
    intro l c0 acc id cap S e k hb hm hal ok h0 h1 h5 hcap h6 hS hk
    refine L6_0_ok ?_
    unfold TL6_0
    simp only [h0, h1, h5, h6]
    refine wpO_of (len_vsl rfl) ?_
    rw [i8s_len]
    simp only [b_lss, wpO_sm]
    by_cases hlt : (acc.length : Int) < (l.length : Int)
    · rw [decide_eq_true hlt]
      refine grdT rfl (grdT rfl (grdT rfl ?_))
      simp only [b_leq, wpO_sm, pickS_t]
      rw [decide_eq_true (show (acc.length : Int) ≤ 6 by omega)]
      simp only [condP_t]
      obtain ⟨z, hz⟩ : ∃ z, l[acc.length]? = some z := ⟨l[acc.length]'(by omega), by simp⟩
      have hzb := hb z (List.mem_of_getElem? hz)
      refine wpO_of (idx_vsl (j := y62) rfl rfl (by decide) (i8s_get hz) rfl) ?_
      refine wpO_of rfl ?_
      refine wpO_of (b_rem (by decide)) ?_
      refine wpO_of (conv_int rfl rfl) ?_
      have ht0 : -6 ≤ z.tmod 7 := by have := Int.lt_tmod_of_pos z (show (0 : Int) < 7 by decide); omega
      have ht1 : z.tmod 7 ≤ 6 := by have := Int.tmod_lt_of_pos z (show (0 : Int) < 7 by decide); omega
      rw [wrap64 (by omega) (by omega)]
      have ht2 : 100 ≤ z → 0 ≤ z.tmod 7 := fun h => Int.tmod_nonneg _ (by omega)
      generalize z.tmod 7 = w at ht0 ht1 ht2 ⊢
      refine call_pure rfl rfl (whole_root ht0 ht1 ?_)
      refine wpO_of alloc_38 ?_
      refine wpO_of (store_R at_new rfl) ?_
      have hidl := at_lt hS
      have hx : (List.set (S ++ [.cells [y38.zero] true]) S.length (.cells [Rv ⟨w, 1, .loose, .loose⟩] true))[S.length]? = some (.cells [Rv ⟨w, 1, .loose, .loose⟩] true) := at_eq at_new
      have hS1 : (List.set (S ++ [.cells [y38.zero] true]) S.length (.cells [Rv ⟨w, 1, .loose, .loose⟩] true))[id]? = some (.cells (Rs acc) true) := at_ne (at_app hS) (by omega)
      show wpO (indexAddrS cfgT y22 (.vsl (i8s l) c0) (.int .i64 (acc.length : Int))) fun v18 => wpO (loadS y62 (List.set (S ++ [.cells [y38.zero] true]) S.length (.cells [Rv ⟨w, 1, .loose, .loose⟩] true)) v18) _
      generalize List.set (S ++ [.cells [y38.zero] true]) S.length (.cells [Rv ⟨w, 1, .loose, .loose⟩] true) = S1 at hx hS1 ⊢
      refine wpO_of (idx_vsl (j := y62) rfl rfl (by decide) (i8s_get hz) rfl) ?_
      refine wpO_of rfl ?_
      simp only [b_geq, wpO_sm]
      -- the last part, alike for both ways
      have last : ∀ (r : RV) (S2 : Store), OkR r → S2[S.length]? = some (.cells [Rv r] true) → S2[id]? = some (.cells (Rs acc) true) → ∀ (e2 : En), e2 0 = e 0 → e2 1 = e 1 →
          wpO (loadS y38 S2 (.optr S.length 0 0)) fun v27 => wpO (bslS y38 1 [(0, v27)] S2) fun p28 => wpO (appS y38 p28.2 (.osl id 4 0 acc.length cap) p28.1) fun p29 => wpO (binS .add (some y3) (.int .i64 (acc.length : Int)) (.int .i64 1)) fun v30 =>
            ∀ e3 : En, e3 0 = e 0 → e3 1 = e 1 → e3 5 = p29.1 → e3 6 = v30 → DenP cfgT 61 (.loop L6_0) e3 p29.2 k := by
        intro r S2 hr g1 g2 e2 _ _
        refine wpO_of (load_R g1) ?_
        refine wpO_of rfl ?_
        have hel : elemsS (S2 ++ [.cells [Rv r] true]) (.osl S2.length 4 0 1 (some 1)) = some (Rs [r]) := by
          unfold elemsS
          simp only [at_new (S := S2) (r := .cells [Rv r] true)]
          rfl
        have hap := app_row (j := y38) (S := S2 ++ [.cells [Rv r] true]) (id := id) (off := 0) (len := acc.length) (cap := cap) (es := Rs acc) (xs := Rs [r]) (x := .osl S2.length 4 0 1 (some 1)) rfl (by decide)
          hel (by simp [Rs]) Rs_sizes (at_app g2) (by show (acc.length + 1) * 64 ≤ _; unfold roomS; omega) (by show acc.length + 1 ≤ _; unfold roomS; omega) (by rw [Rs_len]; omega)
          (by rcases hcap with h | h
              · exact .inl h
              · exact .inr ⟨acc.length, h, by simp [Rs]⟩)
        refine wpO_of hap ?_
        refine wpO_of b_add ?_
        rw [succI (by omega)]
        intro e3 q0 q1 q5 q6
        have htk : ((Rs acc).drop 0).take acc.length ++ Rs [r] = Rs (acc ++ [r]) := by
          rw [Rs_append, List.drop_zero, List.take_of_length_le (by rw [Rs_len]; exact Nat.le_refl _)]
        rw [htk]
        have hlen1 : (acc ++ [r]).length = acc.length + 1 := by simp
        refine ih l c0 (acc ++ [r]) (S2 ++ [Row.cells [Rv r] true]).length none _ e3 k hb (by rw [hlen1]; omega) (by rw [hlen1]; omega) ?_ (q0.trans h0) (q1.trans h1) ?_ (.inl rfl) ?_ ?_ hk
        · intro r' hr'
          rcases List.mem_append.1 hr' with h | h
          · exact ok r' h
          · simp at h; subst h; exact hr
        · exact q5.trans (by rw [hlen1]; rfl)
        · rw [hlen1]; exact q6
        · have hlen : (if cap = none then (S2 ++ [Row.cells [Rv r] true]).set id .dead else (S2 ++ [Row.cells [Rv r] true])).length = (S2 ++ [Row.cells [Rv r] true]).length := by split <;> simp
          rw [← hlen]
          exact at_new
      refine condP_b (fun hge => ?_) (fun hge => ?_)
      · have hz100 := of_decide_eq_true hge
        refine wpO_of (load_R hx) ?_
        refine call_pure rfl rfl (whole_root (w := 3) (by decide) (by decide) ?_)
        refine call_pure rfl rfl (div_root (ht2 hz100) ht1 fun r hr => ?_)
        refine wpO_of rfl (wpO_of rfl ?_)
        refine wpO_of (store_R hx rfl) ?_
        refine wpO_mono (last r _ hr (at_eq hx) (at_ne hS1 (by omega)) e rfl rfl) fun v27 h2 => ?_
        refine wpO_mono h2 fun p28 h3 => wpO_mono h3 fun p29 h4 => wpO_mono h4 fun v30 h5' => ?_
        exact h5' _ rfl rfl rfl rfl
      · refine wpO_mono (last ⟨w, 1, .loose, .loose⟩ _ ⟨.inl rfl, by simp; omega, by simp, by simp⟩ hx hS1 e rfl rfl) fun v27 h2 => ?_
        refine wpO_mono h2 fun p28 h3 => wpO_mono h3 fun p29 h4 => wpO_mono h4 fun v30 h5' => ?_
        exact h5' _ rfl rfl rfl rfl
    · rw [decide_eq_false hlt]
      refine grdF rfl (grdF rfl (grdF rfl (wpO_of pickS_f (cndF rfl ?_))))
      exact hk _ S acc id cap (by omega) ok h5 hS

theorem slic_o {j : TyI} {k : IntKind} {id n m : Nat} {cap : Option Nat} (hj : j.size ≠ 0) (hm : m ≤ n) : ∃ cap', slicS j (.osl id j.size 0 n cap) none (some (.int k (m : Int))) none = some (.osl id j.size 0 m cap') := by
  refine ⟨cap.map (· - 0), ?_⟩
  unfold slicS
  rw [if_neg hj]
  simp only [optNat, natS, Int.natCast_nonneg, if_true, Int.toNat_natCast, Option.map_some, Option.bind_some, sizeIs, beq_self_eq_true, sliceS, Option.getD_none, Option.getD_some]
  rw [if_pos ⟨Nat.zero_le _, by unfold withinS; simp [hm]⟩]
  rfl

theorem utrim_loop : ∀ (n : Nat) (l : List RV) (id : Nat) (cap : Option Nat) (S : Store) (e : En) (k : X → En → Store → Prop), n ≤ l.length → l.length ≤ 7 → e 5 = .osl id 4 0 n cap → S[id]? = some (.cells (Rs l) true) →
    (∀ (e' : En) (n' : Nat) (cap' : Option Nat), n' ≤ n → (∀ r, 0 < n' → l[n' - 1]? = some r → r.n ≠ 0) → e' 5 = .osl id 4 0 n' cap' → k (.exit 2) e' S) →
    DenP cfgT 61 (.loop L6_1) e S k := by
  intro n
  induction n with
  | zero =>
    intro l id cap S e k hn hl h5 hS hk
    refine L6_1_ok ?_
    unfold TL6_1
    simp only [h5]
    refine wpO_of (len_osl rfl) ?_
    refine wpO_of b_gtr ?_
    refine grdF rfl (grdF rfl (grdF rfl (grdF rfl (grdF rfl (grdF rfl (grdF rfl (grdF rfl (wpO_of pickS_f (cndF rfl ?_)))))))))
    exact hk _ 0 cap (Nat.le_refl _) (fun r h => by omega) h5
  | succ n ih =>
    intro l id cap S e k hn hl h5 hS hk
    obtain ⟨r, hr⟩ : ∃ r, l[n]? = some r := ⟨l[n]'(by omega), by simp⟩
    refine L6_1_ok ?_
    unfold TL6_1
    simp only [h5]
    refine wpO_of (len_osl rfl) ?_
    refine wpO_of b_gtr ?_
    rw [decide_eq_true (show (0 : Int) < ((n + 1 : Nat) : Int) by omega)]
    have e5 : wrapS .i64 (((n + 1 : Nat) : Int) - 1) = (n : Int) := by rw [wrap64 (by omega) (by omega)]; omega
    refine grdT rfl (grdT rfl (grdT rfl ?_))
    refine wpO_of (len_osl rfl) (grdT rfl (wpO_of b_sub ?_))
    rw [e5]
    refine grdT rfl (wpO_of (idx_osl (j := y38) rfl rfl (by decide) (by omega) rfl) ?_)
    rw [Nat.zero_add]
    refine grdT rfl (wpO_of (show loadS y38 S (.optr id n 0) = some (Rv r) by rw [load_row hS (Rs_get hr)]; rfl) ?_)
    refine grdT rfl ?_
    refine call_pure rfl rfl (c29 (n := r.n) (d := r.d) (c := r.c) (c' := r.c') ?_)
    refine grdT rfl (wpO_of b_eql (wpO_of pickS_t ?_))
    have hsg : (sgn r.n = 0) ↔ r.n = 0 := by unfold sgn; split <;> (try split) <;> omega
    refine condP_b (fun hz => ?_) (fun hz => ?_)
    · refine wpO_of (len_osl rfl) (wpO_of b_sub ?_)
      rw [e5]
      obtain ⟨cap', hc⟩ := slic_o (j := y38) (k := .i64) (id := id) (n := n + 1) (m := n) (cap := cap) (by decide) (by omega)
      refine wpO_of hc ?_
      refine ih l id cap' S _ k (by omega) hl rfl hS ?_
      intro e' n' cap'' h1 h2 h3
      exact hk e' n' cap'' (by omega) h2 h3
    · refine hk _ (n + 1) cap (Nat.le_refl _) (fun r' _ h => ?_) h5
      rw [Nat.add_sub_cancel, hr] at h
      cases h
      exact fun h => of_decide_eq_false hz (hsg.2 h)

theorem c6 {l : List Int} {c : VC} {Q : SV → Prop} (hb : Rng l) (h : ∀ rs c', rs.length ≤ 7 → (∀ r ∈ rs, OkR r) → (∀ r, 0 < rs.length → rs[rs.length - 1]? = some r → r.n ≠ 0) → Q (.vsl (Rs rs) c')) : wpO (pureW cfgT 6 [.vsl (i8s l) c, .int .i64 6]) Q := by
  refine pureP_of rfl (F6_ok (k := fun v S => wpO (frz S depthS v) Q) ?_)
  unfold F6
  refine wpO_of rfl ?_
  refine upoly_loop 7 l c [] 0 (some 0) _ _ _ hb (by simp) (by simp) (fun r hr => by cases hr) rfl rfl rfl (.inr rfl) rfl rfl ?_
  intro e' S' acc id' cap' hlen ok h5 hS
  refine K6_0e0_ok ?_
  unfold TK6_0e0
  refine utrim_loop acc.length acc id' cap' S' e' _ (Nat.le_refl _) hlen h5 hS ?_
  intro e2 n' cap2 hn hlast g5
  refine K6_1e2_ok ?_
  unfold TK6_1e2
  rw [g5]
  have hp : ∀ e ∈ ((Rs acc).drop 0).take n', pureS e = true := fun e he => Rs_pure e (List.mem_of_mem_drop (List.mem_of_mem_take he))
  obtain ⟨h1, _⟩ := frz_row (sz := 4) (cap := cap2) (off := 0) (len := n') hS (by rw [Rs_len]; omega) hp
  refine wpO_of h1 ?_
  rw [List.drop_zero, Rs_take]
  have hl2 : (acc.take n').length = n' := by simp; omega
  refine h (acc.take n') _ (by omega) (fun r hr => ok r (List.mem_of_mem_take hr)) (fun r h0 hr => ?_)
  rw [hl2] at hr h0
  rw [List.getElem?_take] at hr
  split at hr
  · exact hlast r h0 hr
  · cases hr

end Go.Proofs

/-
  Primitive integer polynomials, by the reference, for the law's own polynomials.
-/
set_option linter.unusedVariables false
set_option maxRecDepth 10000
namespace Go.Proofs
open Go.Sh

theorem len27 (l : List RV) (c : VC) : lenS y27 (.vsl (Rs l) c) = some (.int .i64 (l.length : Int)) := by rw [len_vsl rfl, Rs_len]
theorem idx27 {l : List RV} {c : VC} {i : Nat} {r : RV} (h : l[i]? = some r) : indexAddrS cfgT y27 (.vsl (Rs l) c) (.int .i64 (i : Int)) = some (.vptr (Rv r)) := idx_vsl (j := y38) rfl rfl (by decide) (Rs_get h) rfl
theorem den_of (r : RV) : fieldAddrS cfgT y38 (.vptr (Rv r)) 1 = some (.vptr (I r.d r.c')) := rfl
theorem load_vI (S : Store) (z : Int) (c : VC) : loadS y32 S (.vptr (I z c)) = some (I z c) := rfl
theorem load_vR (S : Store) (r : RV) : loadS y38 S (.vptr (Rv r)) = some (Rv r) := rfl

/- ---- the common denominator ---- -/
theorem den_loop : ∀ (m : Nat) (rs : List RV) (c0 : VC) (i : Nat) (d : Int) (c : VC) (S : Store) (e : En) (k : X → En → Store → Prop), (∀ r ∈ rs, OkR r) → i + m = rs.length → rs.length ≤ 7 → (d = 1 ∨ d = 3) → (c = .nil → d = 0) →
    e 0 = .vsl (Rs rs) c0 → e 3 = .optr 0 0 0 → e 4 = .int .i64 (i : Int) → S[0]? = some (.cells [I d c] true) →
    (∀ (e' : En) (S' : Store) (d' : Int) (c' : VC), (d' = 1 ∨ d' = 3) → (c' = .nil → d' = 0) → e' 0 = .vsl (Rs rs) c0 → e' 3 = .optr 0 0 0 → S'[0]? = some (.cells [I d' c'] true) → k (.exit 0) e' S') →
    DenP cfgT 106 (.loop L5_0) e S k := by
  intro m
  induction m with
  | zero =>
    intro rs c0 i d c S e k ok hi hl hd hc h0 h3 h4 hS hk
    refine L5_0_ok ?_
    unfold TL5_0
    simp only [h0, h4, len27, b_lss, wpO_sm]
    refine condP_dec (fun h => by omega) (fun _ => ?_)
    exact hk _ S d c hd hc h0 h3 hS
  | succ m ih =>
    intro rs c0 i d c S e k ok hi hl hd hc h0 h3 h4 hS hk
    obtain ⟨r, hr⟩ : ∃ r, rs[i]? = some r := ⟨rs[i]'(by omega), by simp⟩
    obtain ⟨hrd, hrn, hrc, hrc'⟩ := ok r (List.mem_of_getElem? hr)
    have hrnil : r.c' = .nil → r.d = 0 := fun h => absurd h hrc'
    refine L5_0_ok ?_
    unfold TL5_0
    simp only [h0, h3, h4, len27, b_lss, wpO_sm]
    refine condP_dec (fun _ => ?_) (fun h => absurd (by omega) h)
    have hpos := at_lt hS
    refine wpO_of (load_I hS) ?_
    refine wpO_of (idx27 hr) (wpO_of (den_of r) (wpO_of (load_vI _ _ _) ?_))
    refine call_pure rfl rfl (c24 (z := d) (w := r.d) (c := c) (d := r.c') (by omega) (by omega) hc fun c1 hc1 => ?_)
    generalize hg : ((Nat.gcd d.natAbs r.d.natAbs : Nat) : Int) = g at hc1 ⊢
    have hg13 : g = 1 ∨ g = 3 := by
      rcases hd with rfl | rfl <;> rcases hrd with e1 | e1 <;> rw [e1] at hg <;> subst hg <;> decide
    have hq : d * (r.d / g) = 1 ∨ d * (r.d / g) = 3 := by
      rcases hd with rfl | rfl <;> rcases hrd with e1 | e1 <;> rw [e1] at hg ⊢ <;> subst hg <;> decide
    have hqs : r.d / g = 1 ∨ r.d / g = 3 ∨ r.d / g = 0 := by
      rcases hrd with e1 | e1 <;> rcases hg13 with e2 | e2 <;> rw [e1, e2] <;> decide
    refine wpO_of alloc_32 (wpO_of (store_I at_new rfl) ?_)
    refine wpO_of (idx27 hr) (wpO_of (den_of r) (wpO_of (load_vI _ _ _) (wpO_of (load_I (at_eq at_new)) ?_)))
    refine call_pure rfl rfl (c25 (z := r.d) (w := g) (c := r.c') (d := c1) (by omega) (by omega) (by have := wd_small (z := r.d) (by omega); omega) hrnil fun c2 c3 hc2 hc3 => ?_)
    iterate 3 refine wpO_of rfl ?_
    refine wpO_of alloc_32 (wpO_of alloc_32 ?_)
    have hS1 : (List.set (S ++ [Row.cells [y32.zero] true]) S.length (Row.cells [I g c1] true))[0]? = some (.cells [I d c] true) := at_ne (at_app hS) (by omega)
    show wpO (storeS y32 ((List.set (S ++ [Row.cells [y32.zero] true]) S.length (Row.cells [I g c1] true) ++ [Row.cells [y32.zero] true]) ++ [Row.cells [y32.zero] true]) (.optr (List.set (S ++ [Row.cells [y32.zero] true]) S.length (Row.cells [I g c1] true)).length 0 0) (I (r.d / g) c2)) fun S22 => wpO (storeS y32 S22 (.optr (List.set (S ++ [Row.cells [y32.zero] true]) S.length (Row.cells [I g c1] true) ++ [Row.cells [y32.zero] true]).length 0 0) (I (r.d % g) c3)) _
    generalize List.set (S ++ [Row.cells [y32.zero] true]) S.length (Row.cells [I g c1] true) = S1 at hS1 ⊢
    have hl1 := at_lt hS1
    refine wpO_of (store_I (at_app at_new) rfl) ?_
    have hz : (List.set (S1 ++ [Row.cells [y32.zero] true] ++ [Row.cells [y32.zero] true]) S1.length (Row.cells [I (r.d / g) c2] true))[(S1 ++ [Row.cells [y32.zero] true]).length]? = some (Row.cells [y32.zero] true) := at_ne at_new (by simp)
    refine wpO_of (store_I hz rfl) ?_
    have hq1 : (List.set (List.set (S1 ++ [Row.cells [y32.zero] true] ++ [Row.cells [y32.zero] true]) S1.length (Row.cells [I (r.d / g) c2] true)) (S1 ++ [Row.cells [y32.zero] true]).length (Row.cells [I (r.d % g) c3] true))[S1.length]? = some (Row.cells [I (r.d / g) c2] true) := at_ne (at_eq (at_app at_new)) (by simp)
    have hd1 : (List.set (List.set (S1 ++ [Row.cells [y32.zero] true] ++ [Row.cells [y32.zero] true]) S1.length (Row.cells [I (r.d / g) c2] true)) (S1 ++ [Row.cells [y32.zero] true]).length (Row.cells [I (r.d % g) c3] true))[0]? = some (Row.cells [I d c] true) := at_ne (at_ne (at_app (at_app hS1)) (by omega)) (by simp)
    generalize List.set (List.set (S1 ++ [Row.cells [y32.zero] true] ++ [Row.cells [y32.zero] true]) S1.length (Row.cells [I (r.d / g) c2] true)) (S1 ++ [Row.cells [y32.zero] true]).length (Row.cells [I (r.d % g) c3] true) = S2 at hq1 hd1 ⊢
    refine wpO_of (load_I hd1) (wpO_of (load_I hq1) ?_)
    refine call_pure rfl rfl (c26 (z := d) (w := r.d / g) (c := c) (d := c2) (by have := wd_small (z := d) (by omega); omega) (by have := wd_small (z := r.d / g) (by omega); omega) fun c4 hc4 => ?_)
    refine wpO_of (store_I hd1 rfl) ?_
    simp only [b_add, wpO_sm]
    rw [succI (by omega)]
    exact ih rs c0 (i + 1) (d * (r.d / g)) c4 _ _ k ok (by omega) hl hq hc4 h0 h3 rfl (at_eq hd1) hk

/- ---- the numerators ---- -/
/-- A number of the list, times the denominator, in lowest terms. -/
theorem num_small {n d e : Int} (hn : n.natAbs ≤ 6) (hd : d = 1 ∨ d = 3) (he : e = 1 ∨ e = 3) :
    ((n * d) / ((Nat.gcd (n * d).natAbs (e * 1).natAbs : Nat) : Int)).natAbs ≤ 18 ∧ (n ≠ 0 → (n * d) / ((Nat.gcd (n * d).natAbs (e * 1).natAbs : Nat) : Int) ≠ 0) := by
  have hc : n = -6 ∨ n = -5 ∨ n = -4 ∨ n = -3 ∨ n = -2 ∨ n = -1 ∨ n = 0 ∨ n = 1 ∨ n = 2 ∨ n = 3 ∨ n = 4 ∨ n = 5 ∨ n = 6 := by omega
  rcases hd with rfl | rfl <;> rcases he with rfl | rfl <;> rcases hc with rfl | rfl | rfl | rfl | rfl | rfl | rfl | rfl | rfl | rfl | rfl | rfl | rfl <;> decide

/-- What is known of the common divisor after the last number. -/
def GOk (g : Int) (acc : List (Int × VC)) : Prop := 0 ≤ g ∧ g ≤ 18 ∧ ∀ p, 0 < acc.length → acc[acc.length - 1]? = some p → p.1 ≠ 0 → 0 < g ∧ g ≤ p.1.natAbs

theorem gcd_ok {g z : Int} (h0 : 0 ≤ g) (h1 : g ≤ 18) (hz : z.natAbs ≤ 18) : 0 ≤ ((Nat.gcd g.natAbs z.natAbs : Nat) : Int) ∧ ((Nat.gcd g.natAbs z.natAbs : Nat) : Int) ≤ 18 ∧ (z ≠ 0 → 0 < ((Nat.gcd g.natAbs z.natAbs : Nat) : Int) ∧ ((Nat.gcd g.natAbs z.natAbs : Nat) : Int) ≤ z.natAbs) := by
  refine ⟨by omega, ?_, fun hz0 => ?_⟩
  · rcases Nat.eq_zero_or_pos z.natAbs with h | h
    · rw [h, Nat.gcd_zero_right]; omega
    · have := Nat.gcd_le_right g.natAbs h; omega
  · have h : 0 < z.natAbs := by omega
    have h2 := Nat.gcd_le_right g.natAbs h
    have h3 := Nat.gcd_pos_of_pos_right g.natAbs h
    omega

theorem num_loop : ∀ (m : Nat) (rs : List RV) (c0 : VC) (acc : List (Int × VC)) (d : Int) (c : VC) (g : Int) (cg : VC) (id gid : Nat) (cap : Option Nat) (S : Store) (e : En) (k : X → En → Store → Prop),
    (∀ r ∈ rs, OkR r) → acc.length + m = rs.length → rs.length ≤ 7 → (d = 1 ∨ d = 3) → Mk acc → Sm acc → GOk g acc → (cg = .nil → g = 0) → (∀ (j : Nat) (p : Int × VC) (r : RV), acc[j]? = some p → rs[j]? = some r → r.n ≠ 0 → p.1 ≠ 0) →
    e 0 = .vsl (Rs rs) c0 → e 3 = .optr 0 0 0 → e 9 = .osl id 2 0 acc.length cap → (cap = none ∨ cap = some acc.length) → e 10 = .optr gid 0 0 → e 11 = .int .i64 (acc.length : Int) → S[0]? = some (.cells [I d c] true) → S[id]? = some (.cells (Is acc) true) → S[gid]? = some (.cells [I g cg] true) → gid ≠ id → id ≠ 0 → gid ≠ 0 →
    (∀ (e' : En) (S' : Store) (acc' : List (Int × VC)) (g' : Int) (cg' : VC) (id' : Nat) (cap' : Option Nat), acc'.length = rs.length → Mk acc' → Sm acc' → GOk g' acc' → (cg' = .nil → g' = 0) → (∀ (j : Nat) (p : Int × VC) (r : RV), acc'[j]? = some p → rs[j]? = some r → r.n ≠ 0 → p.1 ≠ 0) →
      e' 0 = .vsl (Rs rs) c0 → e' 9 = .osl id' 2 0 acc'.length cap' → e' 10 = .optr gid 0 0 → S'[id']? = some (.cells (Is acc') true) → S'[gid]? = some (.cells [I g' cg'] true) → gid ≠ id' → k (.exit 2) e' S') →
    DenP cfgT 106 (.loop L5_1) e S k := by
  intro m
  induction m with
  | zero =>
    intro rs c0 acc d c g cg id gid cap S e k ok hi hl hd mk sm gok hcg hnz h0 h3 h9 hcap h10 h11 hS0 hSi hSg hgi hi0 hg0 hk
    refine L5_1_ok ?_
    unfold TL5_1
    simp only [h0, h11, len27, b_lss, wpO_sm]
    refine condP_dec (fun h => by omega) (fun _ => ?_)
    exact hk _ S acc g cg id cap (by omega) mk sm gok hcg hnz h0 h9 h10 hSi hSg hgi
  | succ m ih =>
    intro rs c0 acc d c g cg id gid cap S e k ok hi hl hd mk sm gok hcg hnz h0 h3 h9 hcap h10 h11 hS0 hSi hSg hgi hi0 hg0 hk
    obtain ⟨r, hr⟩ : ∃ r, rs[acc.length]? = some r := ⟨rs[acc.length]'(by omega), by simp⟩
    obtain ⟨hrd, hrn, hrc, hrc'⟩ := ok r (List.mem_of_getElem? hr)
    obtain ⟨hns, hnn⟩ := num_small hrn hd hrd
    refine L5_1_ok ?_
    unfold TL5_1
    simp only [h0, h3, h9, h10, h11, len27, b_lss, wpO_sm]
    refine condP_dec (fun _ => ?_) (fun h => absurd (by omega) h)
    refine wpO_of (idx27 hr) (wpO_of (load_vR _ _) (wpO_of (load_I hS0) ?_))
    refine call_pure rfl rfl (c23 (by decide) (by decide) fun c1 hc1 => ?_)
    refine wpO_of (show buildS cfgT y38 [(0, I d c), (1, I 1 c1)] = some (Rt d 1 c c1) from rfl) ?_
    refine call_pure rfl rfl (c27 (a := r.n) (b := r.d) (x := d) (y := 1) (c1 := r.c) (c2 := r.c') (c3 := c) (c4 := c1) (by omega) (by decide) (by omega) (by omega) (by omega) (by decide) fun d1 d2 hd1 => ?_)
    generalize (r.n * d) / ((Nat.gcd (r.n * d).natAbs (r.d * 1).natAbs : Nat) : Int) = z at hns hnn hd1 ⊢
    generalize (r.d * 1) / ((Nat.gcd (r.n * d).natAbs (r.d * 1).natAbs : Nat) : Int) = y
    refine wpO_of alloc_38 (wpO_of (store_R (r := ⟨z, y, d1, d2⟩) at_new rfl) ?_)
    refine wpO_of rfl ?_
    have hxr : (List.set (S ++ [Row.cells [y38.zero] true]) S.length (Row.cells [Rv ⟨z, y, d1, d2⟩] true))[S.length]? = some (Row.cells [Rv ⟨z, y, d1, d2⟩] true) := at_eq at_new
    have hil := at_lt hSi
    have hgl := at_lt hSg
    have h0l := at_lt hS0
    have q0 : (List.set (S ++ [Row.cells [y38.zero] true]) S.length (Row.cells [Rv ⟨z, y, d1, d2⟩] true))[0]? = some (Row.cells [I d c] true) := at_ne (at_app hS0) (by omega)
    have qi : (List.set (S ++ [Row.cells [y38.zero] true]) S.length (Row.cells [Rv ⟨z, y, d1, d2⟩] true))[id]? = some (Row.cells (Is acc) true) := at_ne (at_app hSi) (by omega)
    have qg : (List.set (S ++ [Row.cells [y38.zero] true]) S.length (Row.cells [Rv ⟨z, y, d1, d2⟩] true))[gid]? = some (Row.cells [I g cg] true) := at_ne (at_app hSg) (by omega)
    have hln : (List.set (S ++ [Row.cells [y38.zero] true]) S.length (Row.cells [Rv ⟨z, y, d1, d2⟩] true)).length = S.length + 1 := by simp
    show wpO (loadS y32 (List.set (S ++ [Row.cells [y38.zero] true]) S.length (Row.cells [Rv ⟨z, y, d1, d2⟩] true)) (.optr S.length 0 0)) _
    generalize List.set (S ++ [Row.cells [y38.zero] true]) S.length (Row.cells [Rv ⟨z, y, d1, d2⟩] true) = S1 at hxr q0 qi qg hln ⊢
    have ldx : ∀ T : Store, T[S.length]? = some (Row.cells [Rv ⟨z, y, d1, d2⟩] true) → loadS y32 T (.optr S.length 0 0) = some (I z d1) := fun T hT => by rw [load_row hT rfl]; rfl
    refine wpO_of (ldx _ hxr) ?_
    refine wpO_of rfl ?_
    have hel : elemsS (S1 ++ [Row.cells [I z d1] true]) (.osl S1.length 2 0 1 (some 1)) = some (Is [(z, d1)]) := by
      unfold elemsS
      simp only [at_new (S := S1) (r := Row.cells [I z d1] true)]
      rfl
    have hap := app_row (j := y32) (S := S1 ++ [Row.cells [I z d1] true]) (id := id) (off := 0) (len := acc.length) (cap := cap) (es := Is acc) (xs := Is [(z, d1)]) (x := .osl S1.length 2 0 1 (some 1)) rfl (by decide)
      hel (by simp [Is]) Is_sizes (at_app qi) (by show (acc.length + 1) * 32 ≤ _; unfold roomS; omega) (by show acc.length + 1 ≤ _; unfold roomS; omega) (by rw [Is_len]; omega)
      (by rcases hcap with h | h
          · exact .inl h
          · exact .inr ⟨acc.length, h, by simp [Is]⟩)
    refine wpO_of hap ?_
    have hbase : ∀ (j : Nat) (rw0 : Row), j ≠ id → S1[j]? = some rw0 → (if cap = none then (S1 ++ [Row.cells [I z d1] true]).set id .dead else (S1 ++ [Row.cells [I z d1] true]))[j]? = some rw0 := by
      intro j rw0 hj hjr
      split
      · exact at_ne (at_app hjr) (Ne.symm hj)
      · exact at_app hjr
    have hbl : (if cap = none then (S1 ++ [Row.cells [I z d1] true]).set id .dead else (S1 ++ [Row.cells [I z d1] true])).length = S1.length + 1 := by split <;> simp
    have htk : ((Is acc).drop 0).take acc.length ++ Is [(z, d1)] = Is (acc ++ [(z, d1)]) := by
      rw [Is_append, List.drop_zero, List.take_of_length_le (by rw [Is_len]; exact Nat.le_refl _)]
    have hnl : (S1 ++ [Row.cells [I z d1] true]).length = S1.length + 1 := by simp
    rw [htk, hnl]
    generalize (if cap = none then (S1 ++ [Row.cells [I z d1] true]).set id .dead else (S1 ++ [Row.cells [I z d1] true])) = S2 at hbase hbl ⊢
    show wpO (loadS y32 (S2 ++ [Row.cells (Is (acc ++ [(z, d1)])) true]) (.optr gid 0 0)) _
    refine wpO_of (load_I (at_app (hbase gid _ hgi qg))) ?_
    refine wpO_of rfl ?_
    refine wpO_of (ldx _ (at_app (hbase S.length _ (by omega) hxr))) ?_
    obtain ⟨gk0, gk1, gk2⟩ := gok
    refine call_pure rfl rfl (c24 (z := g) (w := z) (c := cg) (d := d1) (by omega) (by omega) hcg fun c5 hc5 => ?_)
    obtain ⟨gg0, gg1, gg2⟩ := gcd_ok gk0 gk1 hns
    generalize ((Nat.gcd g.natAbs z.natAbs : Nat) : Int) = g2 at gg0 gg1 gg2 hc5 ⊢
    refine wpO_of (store_I (at_app (hbase gid _ hgi qg)) rfl) ?_
    refine wpO_of b_add ?_
    rw [succI (by omega)]
    have hla : (acc ++ [(z, d1)]).length = acc.length + 1 := by simp
    have hnew : (S2 ++ [Row.cells (Is (acc ++ [(z, d1)])) true])[S1.length + 1]? = some (Row.cells (Is (acc ++ [(z, d1)])) true) := by rw [← hbl]; exact at_new
    refine ih rs c0 (acc ++ [(z, d1)]) d c g2 c5 (S1.length + 1) gid none _ _ k ok (by rw [hla]; omega) hl hd ?_ ?_ ?_ hc5 ?_ h0 h3 (by rw [hla]; rfl) (.inl rfl) h10 (by rw [hla]; rfl)
      (at_ne (at_app (hbase 0 _ (Ne.symm hi0) q0)) hg0) (at_ne hnew (by omega)) (at_eq (at_app (hbase gid _ hgi qg))) (by omega) (by omega) hg0 hk
    · intro p hp
      rcases List.mem_append.1 hp with h | h
      · exact mk p h
      · simp at h; subst h; exact hd1
    · intro p hp
      rcases List.mem_append.1 hp with h | h
      · exact sm p h
      · simp at h; subst h; exact hns
    · refine ⟨gg0, gg1, fun p _ hp hp0 => ?_⟩
      rw [hla, Nat.add_sub_cancel, List.getElem?_append_right (Nat.le_refl _), Nat.sub_self] at hp
      simp at hp
      subst hp
      exact gg2 hp0
    · intro j p r' hp hr' hn
      by_cases hj : j < acc.length
      · rw [List.getElem?_append_left hj] at hp
        exact hnz j p r' hp hr' hn
      · have hj2 : j = acc.length := by
          have := (List.getElem?_eq_some_iff.1 hp).1
          rw [hla] at this
          omega
        subst hj2
        rw [hr] at hr'
        cases hr'
        rw [List.getElem?_append_right (Nat.le_refl _), Nat.sub_self] at hp
        simp at hp
        subst hp
        exact hnn hn

/- ---- the division by the common divisor ---- -/
def smallDiv : Bool := (List.range 37).all fun a => (List.range 37).all fun b =>
  let z : Int := (a : Int) - 18
  let g : Int := (b : Int) - 18
  g == 0 || (decide ((z / g).natAbs ≤ 18) && (decide (z.natAbs < g.natAbs) || z / g != 0))
theorem smallDiv_ok : smallDiv = true := by decide +kernel
theorem small_div {z g : Int} (hz : z.natAbs ≤ 18) (hg : g.natAbs ≤ 18) (hg0 : g ≠ 0) : (z / g).natAbs ≤ 18 ∧ (g.natAbs ≤ z.natAbs → z / g ≠ 0) := by
  have h := smallDiv_ok
  unfold smallDiv at h
  rw [List.all_eq_true] at h
  have h1 := h (z + 18).toNat (List.mem_range.2 (by omega))
  rw [List.all_eq_true] at h1
  have h2 := h1 (g + 18).toNat (List.mem_range.2 (by omega))
  have e1 : (((z + 18).toNat : Nat) : Int) - 18 = z := by omega
  have e2 : (((g + 18).toNat : Nat) : Int) - 18 = g := by omega
  simp only [e1, e2] at h2
  simp [hg0] at h2
  exact ⟨h2.1, fun h3 => by rcases h2.2 with h4 | h4; omega; exact h4⟩

theorem load_Irow {S : Store} {id j : Nat} {l : List (Int × VC)} {lv : Bool} {p : Int × VC} (h : S[id]? = some (.cells (Is l) lv)) (hp : l[j]? = some p) : loadS y32 S (.optr id j 0) = some (I p.1 p.2) := by
  rw [load_row h (Is_get hp)]; rfl
theorem store_Irow {S : Store} {id j : Nat} {l : List (Int × VC)} {p : Int × VC} {z : Int} {c : VC} (h : S[id]? = some (.cells (Is l) true)) (hp : l[j]? = some p) : storeS y32 S (.optr id j 0) (I z c) = some (S.set id (.cells (Is (l.set j (z, c))) true)) := by
  rw [store_row (e' := I z c) h (Is_get hp) rfl rfl rfl, Is_set]

def Last (l : List (Int × VC)) : Prop := ∀ p, 0 < l.length → l[l.length - 1]? = some p → p.1 ≠ 0

theorem div_loop : ∀ (m : Nat) (o l : List (Int × VC)) (g : Int) (cg : VC) (i id gid n : Nat) (cap : Option Nat) (S : Store) (e : En) (k : X → En → Store → Prop), i + m = n → n ≤ 7 → l.length = n → Mk l → Sm l → (0 < n → g ≠ 0) → g.natAbs ≤ 18 →
    (∀ p, 0 < n → o[n - 1]? = some p → g.natAbs ≤ p.1.natAbs) → (∀ j, i ≤ j → l[j]? = o[j]?) → (i = n → Last l) →
    e 9 = .osl id 2 0 n cap → e 10 = .optr gid 0 0 → e 13 = .int .i64 (i : Int) → S[id]? = some (.cells (Is l) true) → S[gid]? = some (.cells [I g cg] true) → gid ≠ id →
    (∀ (e' : En) (S' : Store) (l' : List (Int × VC)), l'.length = n → Mk l' → Sm l' → Last l' → e' 9 = .osl id 2 0 n cap → S'[id]? = some (.cells (Is l') true) → k (.exit 4) e' S') →
    DenP cfgT 106 (.loop L5_2) e S k := by
  intro m
  induction m with
  | zero =>
    intro o l g cg i id gid n cap S e k hi hn hl mk sm hg0 hg hgl hlo hlast h9 h10 h13 hSi hSg hne hk
    refine L5_2_ok ?_
    unfold TL5_2
    simp only [h9, h13]
    refine wpO_of (len_osl rfl) (wpO_of b_lss ?_)
    refine condP_dec (fun h => by omega) (fun _ => ?_)
    exact hk _ S l hl mk sm (hlast (by omega)) h9 hSi
  | succ m ih =>
    intro o l g cg i id gid n cap S e k hi hn hl mk sm hg0 hg hgl hlo hlast h9 h10 h13 hSi hSg hne hk
    obtain ⟨p, hp⟩ : ∃ p, l[i]? = some p := ⟨l[i]'(by omega), by simp⟩
    have hpm := mk.get hp
    have hps := sm p (List.mem_of_getElem? hp)
    have hgn := hg0 (by omega)
    obtain ⟨hds, hdn⟩ := small_div hps hg hgn
    refine L5_2_ok ?_
    unfold TL5_2
    simp only [h9, h10, h13]
    refine wpO_of (len_osl rfl) (wpO_of b_lss ?_)
    refine condP_dec (fun _ => ?_) (fun h => absurd (by omega) h)
    refine wpO_of (idx_osl (j := y32) rfl rfl (by decide) (by omega) rfl) ?_
    rw [Nat.zero_add]
    refine wpO_of (load_Irow hSi hp) (wpO_of (load_I hSg) ?_)
    refine call_pure rfl rfl (c25 (z := p.1) (w := g) (c := p.2) (d := cg) hgn (by omega) (by have := wd_small (z := p.1) (by omega); omega) hpm fun c2 c3 hc2 hc3 => ?_)
    iterate 3 refine wpO_of rfl ?_
    refine wpO_of alloc_32 (wpO_of alloc_32 ?_)
    have hil := at_lt hSi
    have hgl2 := at_lt hSg
    refine wpO_of (store_I (at_app at_new) rfl) ?_
    have hz : (List.set (S ++ [Row.cells [y32.zero] true] ++ [Row.cells [y32.zero] true]) S.length (Row.cells [I (p.1 / g) c2] true))[(S ++ [Row.cells [y32.zero] true]).length]? = some (Row.cells [y32.zero] true) := at_ne at_new (by simp)
    refine wpO_of (store_I hz rfl) ?_
    have hq1 : (List.set (List.set (S ++ [Row.cells [y32.zero] true] ++ [Row.cells [y32.zero] true]) S.length (Row.cells [I (p.1 / g) c2] true)) (S ++ [Row.cells [y32.zero] true]).length (Row.cells [I (p.1 % g) c3] true))[S.length]? = some (Row.cells [I (p.1 / g) c2] true) := at_ne (at_eq (at_app at_new)) (by simp)
    have hd1 : (List.set (List.set (S ++ [Row.cells [y32.zero] true] ++ [Row.cells [y32.zero] true]) S.length (Row.cells [I (p.1 / g) c2] true)) (S ++ [Row.cells [y32.zero] true]).length (Row.cells [I (p.1 % g) c3] true))[id]? = some (Row.cells (Is l) true) := at_ne (at_ne (at_app (at_app hSi)) (by omega)) (by simp; omega)
    have hd2 : (List.set (List.set (S ++ [Row.cells [y32.zero] true] ++ [Row.cells [y32.zero] true]) S.length (Row.cells [I (p.1 / g) c2] true)) (S ++ [Row.cells [y32.zero] true]).length (Row.cells [I (p.1 % g) c3] true))[gid]? = some (Row.cells [I g cg] true) := at_ne (at_ne (at_app (at_app hSg)) (by omega)) (by simp; omega)
    show wpO (loadS y32 (List.set (List.set (S ++ [Row.cells [y32.zero] true] ++ [Row.cells [y32.zero] true]) S.length (Row.cells [I (p.1 / g) c2] true)) (S ++ [Row.cells [y32.zero] true]).length (Row.cells [I (p.1 % g) c3] true)) (.optr S.length 0 0)) _
    generalize List.set (List.set (S ++ [Row.cells [y32.zero] true] ++ [Row.cells [y32.zero] true]) S.length (Row.cells [I (p.1 / g) c2] true)) (S ++ [Row.cells [y32.zero] true]).length (Row.cells [I (p.1 % g) c3] true) = S2 at hq1 hd1 hd2 ⊢
    refine wpO_of (load_I hq1) ?_
    refine wpO_of (idx_osl (j := y32) rfl rfl (by decide) (by omega) rfl) ?_
    rw [Nat.zero_add]
    refine wpO_of (store_Irow hd1 hp) ?_
    refine wpO_of b_add ?_
    rw [succI (by omega)]
    refine ih o (l.set i (p.1 / g, c2)) g cg (i + 1) id gid n cap _ _ k (by omega) hn (by rw [List.length_set]; exact hl) ?_ ?_ hg0 hg hgl ?_ ?_ h9 h10 rfl (at_eq hd1) (at_ne hd2 (Ne.symm hne)) hne hk
    · intro q hq
      rcases List.mem_or_eq_of_mem_set hq with h | rfl
      · exact mk q h
      · exact hc2
    · intro q hq
      rcases List.mem_or_eq_of_mem_set hq with h | rfl
      · exact sm q h
      · exact hds
    · intro j hj
      rw [List.getElem?_set, if_neg (by omega)]
      exact hlo j (by omega)
    · intro hin q _ hq
      rw [List.length_set, hl, ← hin, Nat.add_sub_cancel, List.getElem?_set, if_pos rfl, if_pos (by omega)] at hq
      cases hq
      refine hdn (hgl p (by omega) ?_)
      rw [← hlo (n - 1) (by omega), show n - 1 = i by omega]
      exact hp

theorem c5 {rs : List RV} {c : VC} {Q : SV → Prop} (ok : ∀ r ∈ rs, OkR r) (hl : rs.length ≤ 7) (hlast : ∀ r, 0 < rs.length → rs[rs.length - 1]? = some r → r.n ≠ 0)
    (h : ∀ l c', l.length = rs.length → Mk l → Sm l → Last l → Q (.vsl (Is l) c')) : wpO (pureW cfgT 5 [.vsl (Rs rs) c]) Q := by
  refine pureP_of rfl (F5_ok (k := fun v S => wpO (frz S depthS v) Q) ?_)
  unfold F5
  refine call_pure rfl rfl (c23 (by decide) (by decide) fun c1 hc1 => ?_)
  refine wpO_of alloc_32 (wpO_of (store_I at_new rfl) ?_)
  refine den_loop rs.length rs c 0 1 c1 _ _ _ ok (by omega) hl (.inl rfl) (fun e => by have := hc1 e; omega) rfl rfl rfl rfl ?_
  intro e1 S1 d cd hd hcd g0 g3 hS1
  refine K5_0e0_ok ?_
  unfold TK5_0e0
  refine wpO_of rfl ?_
  refine call_pure rfl rfl (c23 (by decide) (by decide) fun c2 hc2 => ?_)
  refine wpO_of alloc_32 (wpO_of (store_I at_new rfl) ?_)
  have hl1 := at_lt hS1
  show DenP cfgT 106 (.loop L5_1) (ups e1 [(45, .osl S1.length 2 0 0 (some 0)), (9, .osl S1.length 2 0 0 (some 0)), (46, I 0 c2), (10, .optr (S1 ++ [Row.cells [] true]).length 0 0), (11, .int .i64 0)]) (List.set (S1 ++ [Row.cells [] true] ++ [Row.cells [y32.zero] true]) (S1 ++ [Row.cells [] true]).length (Row.cells [I 0 c2] true)) (K5_1 fun v S => wpO (frz S depthS v) Q)
  have hlen : (S1 ++ [Row.cells [] true]).length = S1.length + 1 := by simp
  refine num_loop rs.length rs c [] d cd 0 c2 S1.length (S1 ++ [Row.cells [] true]).length (some 0) _ _ _ ok (by simp) hl hd (fun p hp => by cases hp) (fun p hp => by cases hp) ⟨by omega, by omega, fun p h => by simp at h⟩ (fun _ => rfl) (fun j p r h => by simp at h) g0 g3 rfl (.inr rfl) rfl rfl
    (at_ne (at_app (at_app hS1)) (by omega)) (at_ne (at_app at_new) (by omega)) (at_eq at_new) (by omega) (by omega) (by omega) ?_
  intro e2 S2 acc g cg id cap hal mk sm gok hcg hnz h0 h9 h10 hSi hSg hne
  refine K5_1e2_ok ?_
  unfold TK5_1e2
  have hn7 : acc.length ≤ 7 := by omega
  -- the end, alike for both signs
  have last : ∀ (g' : Int) (cg' : VC) (S3 : Store) (e3 : En), (0 < acc.length → g' ≠ 0) → g'.natAbs ≤ 18 → (∀ p, 0 < acc.length → acc[acc.length - 1]? = some p → g'.natAbs ≤ p.1.natAbs) → e3 9 = .osl id 2 0 acc.length cap → e3 10 = .optr (S1 ++ [Row.cells [] true]).length 0 0 → e3 13 = .int .i64 0 → S3[id]? = some (.cells (Is acc) true) → S3[(S1 ++ [Row.cells [] true]).length]? = some (.cells [I g' cg'] true) →
      DenP cfgT 106 (.loop L5_2) e3 S3 (K5_2 fun v S => wpO (frz S depthS v) Q) := by
    intro g' cg' S3 e3 k1 k2 k3 q9 q10 q13 qi qg
    refine div_loop acc.length acc acc g' cg' 0 id _ acc.length cap S3 e3 _ (by omega) hn7 rfl mk sm k1 k2 k3 (fun _ _ => rfl) (fun h p hp => by omega) q9 q10 q13 qi qg hne ?_
    intro e4 S4 l' hl' mk' sm' last' r9 hS4
    refine K5_2e4_ok ?_
    unfold TK5_2e4
    rw [r9]
    have ht : ((Is l').drop 0).take acc.length = Is l' := by rw [List.drop_zero, List.take_of_length_le (by rw [Is_len, hl']; exact Nat.le_refl _)]
    obtain ⟨h1, _⟩ := frz_row (sz := 2) (cap := cap) (off := 0) (len := acc.length) hS4 (by rw [Is_len]; omega) (by rw [ht]; exact Is_pure)
    refine wpO_of h1 ?_
    rw [ht]
    exact h l' _ (by omega) mk' sm' last'
  simp only [h0, len27, wpO_sm, b_gtr]
  by_cases hrs : (0 : Int) < (rs.length : Int)
  · rw [decide_eq_true hrs]
    have hlp : ∀ p, acc[acc.length - 1]? = some p → p.1 ≠ 0 := fun p hp => by
      obtain ⟨r, hr⟩ : ∃ r, rs[acc.length - 1]? = some r := ⟨rs[acc.length - 1]'(by omega), by simp⟩
      exact hnz _ p r hp hr (hlast r (by omega) (by rw [← hal]; exact hr))
    obtain ⟨p, hp⟩ : ∃ p, acc[acc.length - 1]? = some p := ⟨acc[acc.length - 1]'(by omega), by simp⟩
    have hp0 := hlp p hp
    obtain ⟨ga, gb, gc⟩ := gok
    obtain ⟨gpos, gle⟩ := gc p (by omega) hp hp0
    refine grdT rfl (grdT rfl (grdT rfl ?_))
    simp only [h9]
    refine wpO_of (len_osl rfl) (grdT rfl (wpO_of b_sub ?_))
    have e5 : wrapS .i64 ((acc.length : Int) - 1) = ((acc.length - 1 : Nat) : Int) := by rw [wrap64 (by omega) (by omega)]; omega
    rw [e5]
    refine grdT rfl (wpO_of (idx_osl (j := y32) rfl rfl (by decide) (by omega) rfl) ?_)
    rw [Nat.zero_add]
    refine grdT rfl (wpO_of (load_Irow hSi hp) ?_)
    refine grdT rfl ?_
    refine call_pure rfl rfl (c9 (z := p.1) (c := p.2) ?_)
    refine grdT rfl (wpO_of b_lss (wpO_of pickS_t ?_))
    refine condP_b (fun _ => ?_) (fun _ => ?_)
    · rw [h10]
      refine wpO_of (load_I hSg) ?_
      refine call_pure rfl rfl (c10 (z := g) (c := cg) (by have := wd_small (z := g) (by omega); omega) hcg fun c6 hc6 => ?_)
      refine wpO_of (store_I hSg rfl) ?_
      exact last (-g) c6 _ _ (fun _ => by omega) (by omega) (fun q _ hq => by rw [hp] at hq; cases hq; omega) h9 h10 rfl (at_ne hSi hne) (at_eq hSg)
    · exact last g cg _ _ (fun _ => by omega) (by omega) (fun q _ hq => by rw [hp] at hq; cases hq; omega) h9 h10 rfl hSi hSg
  · rw [decide_eq_false hrs]
    refine grdF rfl (grdF rfl (grdF rfl (grdF rfl (grdF rfl (grdF rfl (grdF rfl (grdF rfl (wpO_of pickS_f (cndF rfl ?_)))))))))
    obtain ⟨ga, gb, gc⟩ := gok
    exact last g cg _ _ (fun _ => by omega) (by omega) (fun q hq => by omega) h9 h10 rfl hSi hSg

end Go.Proofs

/-
  Why no coefficient of a factor is greater than the bound of the product. Plain: no program in sight.
-/
set_option linter.unusedVariables false
set_option maxRecDepth 10000
namespace Go.Proofs

theorem zAt_out {l : List (Int × Go.Sh.VC)} {n : Nat} (h : l.length ≤ n) : zAt l n = 0 := by unfold zAt; rw [List.getElem?_eq_none h]

theorem csum_zero {a b : List (Int × Go.Sh.VC)} {n : Nat} : ∀ (m i : Nat), (∀ j, i ≤ j → j < i + m → zAt a j * zAt b (n - j) = 0) → csum a b n i m = 0
  | 0, i, h => rfl
  | m + 1, i, h => by
    simp only [csum]
    rw [h i (Nat.le_refl _) (by omega), csum_zero m (i + 1) (fun j h1 h2 => h j (by omega) (by omega))]
    rfl
theorem csum_single {a b : List (Int × Go.Sh.VC)} {n t : Nat} : ∀ (m i : Nat), i ≤ t → t < i + m → (∀ j, i ≤ j → j < i + m → j ≠ t → zAt a j * zAt b (n - j) = 0) → csum a b n i m = zAt a t * zAt b (n - t)
  | 0, i, h1, h2, h => by omega
  | m + 1, i, h1, h2, h => by
    simp only [csum]
    by_cases e : i = t
    · subst e
      rw [csum_zero m (i + 1) (fun j k1 k2 => h j (by omega) (by omega) (by omega)), Int.add_zero]
    · rw [h i (Nat.le_refl _) (by omega) e, csum_single m (i + 1) (by omega) (by omega) (fun j k1 k2 k3 => h j (by omega) (by omega) k3), Int.zero_add]

theorem le_mul {x y : Int} (hy : y ≠ 0) : x.natAbs ≤ (x * y).natAbs := by
  rw [Int.natAbs_mul]
  exact Nat.le_mul_of_pos_right _ (by omega)

theorem sumA_ge {l : List (Int × Go.Sh.VC)} : ∀ {j : Nat}, (zAt l j).natAbs ≤ sumA l := by
  induction l with
  | nil => intro j; simp [zAt]
  | cons p r ih =>
    intro j
    cases j with
    | zero => simp [zAt, sumA]
    | succ j =>
      have := ih (j := j)
      simp only [sumA]
      have e : zAt (p :: r) (j + 1) = zAt r j := by unfold zAt; simp
      rw [e]; omega

theorem last_at {l : List (Int × Go.Sh.VC)} (h : Last l) (h0 : 0 < l.length) : zAt l (l.length - 1) ≠ 0 := by
  obtain ⟨p, hp⟩ : ∃ p, l[l.length - 1]? = some p := ⟨l[l.length - 1]'(by omega), by simp⟩
  have := h p h0 hp
  unfold zAt; rw [hp]; exact this

section
variable {a b l : List (Int × Go.Sh.VC)}

theorem conv_top (ha : 0 < a.length) (hb : 0 < b.length) : conv a b (a.length + b.length - 2) = zAt a (a.length - 1) * zAt b (b.length - 1) := by
  unfold conv
  rw [csum_single (t := a.length - 1) _ _ (by omega) (by omega) (fun j h1 h2 h3 => by
    by_cases h : a.length ≤ j
    · rw [zAt_out h, Int.zero_mul]
    · rw [zAt_out (l := b) (by omega), Int.mul_zero])]
  congr 2
  omega

theorem conv_low {k : Nat} (h : ∀ j, j < k → zAt b j = 0) : conv a b k = zAt a 0 * zAt b k := by
  unfold conv
  rw [csum_single (t := 0) _ _ (by omega) (by omega) (fun j h1 h2 h3 => by rw [h (k - j) (by omega), Int.mul_zero])]
  congr 2

theorem conv_one (hb : b.length = 1) (i : Nat) : conv a b i = zAt a i * zAt b 0 := by
  unfold conv
  rw [csum_single (t := i) _ _ (by omega) (by omega) (fun j h1 h2 h3 => by rw [zAt_out (l := b) (by omega), Int.mul_zero])]
  congr 2
  omega

theorem exists_low : ∀ n : Nat, (∃ k, k < n ∧ zAt b k ≠ 0 ∧ ∀ j, j < k → zAt b j = 0) ∨ ∀ j, j < n → zAt b j = 0
  | 0 => .inr fun j h => by omega
  | n + 1 => by
    rcases exists_low n with ⟨k, h1, h2, h3⟩ | h
    · exact .inl ⟨k, by omega, h2, h3⟩
    · by_cases hz : zAt b n = 0
      · refine .inr fun j hj => ?_
        by_cases e : j = n
        · subst e; exact hz
        · exact h j (by omega)
      · exact .inl ⟨n, by omega, hz, h⟩

theorem conv1 : conv a b 0 = zAt a 0 * zAt b 0 := by simp [conv, csum]
theorem conv2 : conv a b 1 = zAt a 0 * zAt b 1 + zAt a 1 * zAt b 0 := by simp [conv, csum]
theorem conv3 : conv a b 2 = zAt a 0 * zAt b 2 + (zAt a 1 * zAt b 1 + zAt a 2 * zAt b 0) := by simp [conv, csum]
theorem conv4 : conv a b 3 = zAt a 0 * zAt b 3 + (zAt a 1 * zAt b 2 + (zAt a 2 * zAt b 1 + zAt a 3 * zAt b 0)) := by simp [conv, csum]

theorem sum4 (hl : l.length = 4) : sumA l = (zAt l 0).natAbs + (zAt l 1).natAbs + (zAt l 2).natAbs + (zAt l 3).natAbs := by
  match l, hl with
  | [p, q, r, s], _ => simp [sumA, zAt]; omega
theorem sum5 (hl : l.length = 5) : sumA l = (zAt l 0).natAbs + (zAt l 1).natAbs + (zAt l 2).natAbs + (zAt l 3).natAbs + (zAt l 4).natAbs := by
  match l, hl with
  | [p, q, r, s, t], _ => simp [sumA, zAt]; omega

theorem mid32 {a0 a1 a2 b0 b1 : Int} {s : Nat} (h2 : a2 ≠ 0) (h1 : b1 ≠ 0) (hs : a1.natAbs ≤ 18) (h : (a0 * b0).natAbs + (a0 * b1 + a1 * b0).natAbs + (a1 * b1 + a2 * b0).natAbs + (a2 * b1).natAbs = s) : a1.natAbs ≤ s * 8 := by
  have m1 := le_mul (x := a1) h1
  by_cases hb0 : b0 = 0
  · subst hb0
    simp only [Int.mul_zero, Int.add_zero] at h
    omega
  · by_cases ha0 : a0 = 0
    · subst ha0
      have m2 := le_mul (x := a1) hb0
      simp only [Int.zero_mul, Int.zero_add] at h
      omega
    · have u0 : 0 < (a2 * b1).natAbs := by have := Int.mul_ne_zero h2 h1; omega
      have v0 : 0 < (a0 * b0).natAbs := by have := Int.mul_ne_zero ha0 hb0; omega
      by_cases hs3 : 3 ≤ s
      · omega
      · have e1 : (a2 * b1).natAbs = 1 := by omega
        have e2 : (a0 * b0).natAbs = 1 := by omega
        have e3 : a1 * b1 + a2 * b0 = 0 := by omega
        have f1 : a2.natAbs ≤ 1 := by have := le_mul (x := a2) h1; omega
        have f2 : b0.natAbs ≤ 1 := by have := le_mul (x := b0) ha0; rw [Int.mul_comm] at this; omega
        have f3 : (a2 * b0).natAbs ≤ 1 := by
          rw [Int.natAbs_mul]
          exact Nat.mul_le_mul f1 f2
        omega

theorem mid42 {a0 a1 a2 a3 b0 b1 : Int} (h3 : a3 ≠ 0) (h1 : b1 ≠ 0) (e0 : a0 * b0 = 0) (e1 : a0 * b1 + a1 * b0 = 0) (e2 : a1 * b1 + a2 * b0 = 0) (e3 : a2 * b1 + a3 * b0 = 0) : a1 = 0 ∧ a2 = 0 := by
  by_cases hb0 : b0 = 0
  · subst hb0
    simp only [Int.mul_zero, Int.add_zero] at e1 e2 e3
    exact ⟨(Int.mul_eq_zero.1 e2).resolve_right h1, (Int.mul_eq_zero.1 e3).resolve_right h1⟩
  · have a00 := (Int.mul_eq_zero.1 e0).resolve_right hb0
    subst a00
    simp only [Int.zero_mul, Int.zero_add] at e1
    have a10 := (Int.mul_eq_zero.1 e1).resolve_right hb0
    subst a10
    simp only [Int.zero_mul, Int.zero_add] at e2
    exact ⟨rfl, (Int.mul_eq_zero.1 e2).resolve_right hb0⟩

theorem mid33 {a0 a1 a2 b0 b1 b2 : Int} (h2 : b2 ≠ 0) (e0 : a0 * b0 = 0) (e1 : a0 * b1 + a1 * b0 = 0) (e2 : a0 * b2 + (a1 * b1 + a2 * b0) = 0) (e3 : a1 * b2 + a2 * b1 = 0) : a1 = 0 := by
  by_cases hb0 : b0 = 0
  · subst hb0
    simp only [Int.mul_zero, Int.add_zero] at e1 e2
    by_cases hb1 : b1 = 0
    · subst hb1
      simp only [Int.mul_zero, Int.add_zero] at e3
      exact (Int.mul_eq_zero.1 e3).resolve_right h2
    · have a00 := (Int.mul_eq_zero.1 e1).resolve_right hb1
      subst a00
      simp only [Int.zero_mul, Int.zero_add] at e2
      exact (Int.mul_eq_zero.1 e2).resolve_right hb1
  · have a00 := (Int.mul_eq_zero.1 e0).resolve_right hb0
    subst a00
    simp only [Int.zero_mul, Int.zero_add] at e1
    exact (Int.mul_eq_zero.1 e1).resolve_right hb0

theorem bound_ge (sa : Sm a) (la : Last a) (lb : Last b) (ha : 0 < a.length) (hb : 0 < b.length) (hl : IsConv a b (a.length + b.length - 1) l) (i : Nat) : (zAt a i).natAbs ≤ sumA l * 2 ^ (l.length - 1) := by
  obtain ⟨hlen, _, hc⟩ := hl
  have h18 := sa.at i
  have hge : ∀ j, j < a.length + b.length - 1 → (conv a b j).natAbs ≤ sumA l := fun j hj => by rw [← hc j hj]; exact sumA_ge
  have ta := last_at la ha
  have tb := last_at lb hb
  have htop := hge (a.length + b.length - 2) (by omega)
  rw [conv_top ha hb] at htop
  have htop1 := le_mul (x := zAt a (a.length - 1)) tb
  have hs1 : 1 ≤ sumA l := by have := Int.mul_ne_zero ta tb; omega
  have hp1 : 1 ≤ 2 ^ (l.length - 1) := Nat.one_le_two_pow
  have weak : (zAt a i).natAbs ≤ sumA l → (zAt a i).natAbs ≤ sumA l * 2 ^ (l.length - 1) := fun h => Nat.le_trans h (Nat.le_mul_of_pos_right _ (by omega))
  rw [hlen] at weak ⊢
  by_cases hout : a.length ≤ i
  · rw [zAt_out hout]; simp
  by_cases hbig : 6 ≤ a.length + b.length - 1
  · have : 2 ^ 5 ≤ 2 ^ (a.length + b.length - 1 - 1) := Nat.pow_le_pow_right (by decide) (by omega)
    have h2 : 1 * 2 ^ 5 ≤ sumA l * 2 ^ (a.length + b.length - 1 - 1) := Nat.mul_le_mul hs1 this
    omega
  by_cases hi : i = a.length - 1
  · subst hi
    exact weak (by omega)
  by_cases hb1 : b.length = 1
  · have := hge i (by omega)
    rw [conv_one hb1] at this
    have hb0 : zAt b 0 ≠ 0 := by rw [hb1] at tb; exact tb
    have h2 := le_mul (x := zAt a i) hb0
    exact weak (by omega)
  by_cases hi0 : i = 0
  · subst hi0
    rcases exists_low (b := b) b.length with ⟨k, h1, h2, h3⟩ | h
    · have := hge k (by omega)
      rw [conv_low h3] at this
      have h4 := le_mul (x := zAt a 0) h2
      exact weak (by omega)
    · exact absurd (h (b.length - 1) (by omega)) tb
  have hcase : (a.length = 3 ∧ b.length = 2) ∨ (a.length = 3 ∧ b.length = 3) ∨ (a.length = 4 ∧ b.length = 2) := by omega
  rcases hcase with ⟨h1, h2⟩ | ⟨h1, h2⟩ | ⟨h1, h2⟩
  · have hi1 : i = 1 := by omega
    subst hi1
    rw [h1] at ta
    rw [h2] at tb
    rw [h1, h2] at hlen hc ⊢
    have hsum := sum4 hlen
    rw [hc 0 (by decide), hc 1 (by decide), hc 2 (by decide), hc 3 (by decide), conv1, conv2, conv3, conv4] at hsum
    rw [zAt_out (l := b) (n := 2) (by omega), zAt_out (l := b) (n := 3) (by omega), zAt_out (l := a) (n := 3) (by omega)] at hsum
    simp only [Int.mul_zero, Int.zero_mul, Int.zero_add, Int.add_zero] at hsum
    exact mid32 ta tb h18 hsum.symm
  · have hi1 : i = 1 := by omega
    subst hi1
    rw [h1] at ta
    rw [h2] at tb
    change zAt a 2 ≠ 0 at ta
    change zAt b 2 ≠ 0 at tb
    rw [h1, h2] at hlen hc htop ⊢
    have hsum := sum5 hlen
    have htt : conv a b 4 = zAt a 2 * zAt b 2 := by have := conv_top (a := a) (b := b) ha hb; rw [h1, h2] at this; exact this
    rw [hc 0 (by decide), hc 1 (by decide), hc 2 (by decide), hc 3 (by decide), hc 4 (by decide), htt] at hsum
    by_cases hs2 : 2 ≤ sumA l
    · have : 2 * 2 ^ 4 ≤ sumA l * 2 ^ (3 + 3 - 1 - 1) := Nat.mul_le_mul hs2 (Nat.le_refl _)
      omega
    · have h4 : 0 < (zAt a 2 * zAt b 2).natAbs := by have := Int.mul_ne_zero ta tb; omega
      have z0 : conv a b 0 = 0 := by omega
      have z1 : conv a b 1 = 0 := by omega
      have z2 : conv a b 2 = 0 := by omega
      have z3 : conv a b 3 = 0 := by omega
      rw [conv1] at z0
      rw [conv2] at z1
      rw [conv3] at z2
      rw [conv4, zAt_out (l := b) (n := 3) (by omega), zAt_out (l := a) (n := 3) (by omega)] at z3
      simp only [Int.mul_zero, Int.zero_mul, Int.zero_add, Int.add_zero] at z3
      have := mid33 tb z0 z1 z2 z3
      rw [this]
      exact Nat.zero_le _
  · rw [h1] at ta
    rw [h2] at tb
    change zAt a 3 ≠ 0 at ta
    change zAt b 1 ≠ 0 at tb
    rw [h1, h2] at hlen hc htop ⊢
    have hsum := sum5 hlen
    have htt : conv a b 4 = zAt a 3 * zAt b 1 := by have := conv_top (a := a) (b := b) ha hb; rw [h1, h2] at this; exact this
    rw [hc 0 (by decide), hc 1 (by decide), hc 2 (by decide), hc 3 (by decide), hc 4 (by decide), htt] at hsum
    by_cases hs2 : 2 ≤ sumA l
    · have : 2 * 2 ^ 4 ≤ sumA l * 2 ^ (4 + 2 - 1 - 1) := Nat.mul_le_mul hs2 (Nat.le_refl _)
      omega
    · have h4 : 0 < (zAt a 3 * zAt b 1).natAbs := by have := Int.mul_ne_zero ta tb; omega
      have z0 : conv a b 0 = 0 := by omega
      have z1 : conv a b 1 = 0 := by omega
      have z2 : conv a b 2 = 0 := by omega
      have z3 : conv a b 3 = 0 := by omega
      rw [conv1] at z0
      rw [conv2] at z1
      rw [conv3, zAt_out (l := b) (n := 2) (by omega)] at z2
      rw [conv4, zAt_out (l := b) (n := 3) (by omega), zAt_out (l := b) (n := 2) (by omega)] at z3
      simp only [Int.mul_zero, Int.zero_mul, Int.zero_add, Int.add_zero] at z2 z3
      obtain ⟨m1, m2⟩ := mid42 ta tb z0 z1 z2 z3
      have hi12 : i = 1 ∨ i = 2 := by omega
      rcases hi12 with rfl | rfl
      · rw [m1]; exact Nat.zero_le _
      · rw [m2]; exact Nat.zero_le _

theorem conv_le (sa : Sm a) (sb : Sm b) {j : Nat} (hj : j ≤ 12) : (conv a b j).natAbs ≤ 5000 := by
  have := csum_le sa sb j (j + 1) 0
  unfold conv
  omega

/-- Nothing is cut off. -/
theorem trim_conv (la : Last a) (lb : Last b) (ha : 0 < a.length) (hb : 0 < b.length) (hl : IsConv a b (a.length + b.length - 1) l) : trimZ l = l := by
  obtain ⟨hlen, _, hc⟩ := hl
  have ht := hc (a.length + b.length - 2) (by omega)
  rw [conv_top ha hb] at ht
  have hne := Int.mul_ne_zero (last_at la ha) (last_at lb hb)
  rw [← ht] at hne
  clear ht hc
  revert hlen hne
  induction l using snoc_ind with
  | h0 => intro hlen hne; rfl
  | h l p _ =>
    intro hlen hne
    rw [trimZ_snoc]
    have hn : a.length + b.length - 2 = l.length := by simp at hlen; omega
    rw [hn, zAt_snoc, if_pos rfl] at hne
    rw [if_neg hne]

theorem trimZ_mem {l : List (Int × Go.Sh.VC)} : ∀ p ∈ trimZ l, p ∈ l := by
  intro p hp
  unfold trimZ at hp
  rw [List.mem_reverse] at hp
  have := (List.dropWhile_sublist (fun p : Int × Go.Sh.VC => p.1 == 0) (l := l.reverse)).mem hp
  exact List.mem_reverse.1 this
theorem trimZ_len {l : List (Int × Go.Sh.VC)} : (trimZ l).length ≤ l.length := by
  unfold trimZ
  rw [List.length_reverse]
  have := (List.dropWhile_sublist (fun p : Int × Go.Sh.VC => p.1 == 0) (l := l.reverse)).length_le
  rw [List.length_reverse] at this
  exact this
end
end Go.Proofs

/-
  FactorBounds: true for every input.
-/
set_option linter.unusedVariables false
set_option maxRecDepth 10000
namespace Go.Proofs
open Go.Sh

theorem grdN {v : Option SV} {o : (SV → Store → Prop) → Prop} {S : Store} {k : SV → Store → Prop} (h : v = some (.bool false)) (h2 : o k) : grdP v false o S k := by rw [h]; exact h2
theorem grdM {v : Option SV} {o : (SV → Store → Prop) → Prop} {S : Store} {k : SV → Store → Prop} (h : v = some (.bool true)) (h2 : k undefS S) : grdP v false o S k := by rw [h]; exact h2

theorem c4 {Q : SV → Prop} (h : Q (.bool true)) : wpO (pureW cfgT 4 []) Q := root_hit rfl h

/-- The comparison of each coefficient with the bound. -/
theorem cmp_all : ∀ (m : Nat) (a : List (Int × VC)) (ca : VC) (B : Nat) (cB : VC) (i bid : Nat) (S : Store) (e : En) (k : X → En → Store → Prop), i + m = a.length → a.length ≤ 7 → Mk a → Sm a → B < 4294967296 → (∀ j, (zAt a j).natAbs ≤ B) →
    e 6 = .vsl (Is a) ca → e 9 = .optr bid 0 0 → e 10 = .int .i64 (i : Int) → e 5 = .bool true → S[bid]? = some (.cells [I (B : Int) cB] true) →
    (∀ (e' : En) (S' : Store), e' 5 = .bool true → k (.exit 0) e' S') →
    DenP cfgT 96 (.loop L3_0) e S k := by
  intro m
  induction m with
  | zero =>
    intro a ca B cB i bid S e k hi hl mk sm hB hab h6 h9 h10 h5 hS hk
    refine L3_0_ok ?_
    unfold TL3_0
    simp only [h6, h10, len24, b_lss, wpO_sm]
    refine condP_dec (fun h => by omega) (fun _ => ?_)
    exact hk _ S h5
  | succ m ih =>
    intro a ca B cB i bid S e k hi hl mk sm hB hab h6 h9 h10 h5 hS hk
    obtain ⟨p, hp⟩ : ∃ p, a[i]? = some p := ⟨a[i]'(by omega), by simp⟩
    have hpm := mk.get hp
    have hps := sm p (List.mem_of_getElem? hp)
    have hpB : p.1.natAbs ≤ B := by have := hab i; unfold zAt at this; rw [hp] at this; exact this
    refine L3_0_ok ?_
    unfold TL3_0
    simp only [h6, h10, len24, b_lss, wpO_sm]
    refine condP_dec (fun _ => ?_) (fun h => absurd (by omega) h)
    refine wpO_of (idx24 hp) (wpO_of (load_vI _ _ _) ?_)
    refine wpO_of alloc_32 (wpO_of (store_I at_new rfl) ?_)
    have hx : (List.set (S ++ [Row.cells [y32.zero] true]) S.length (Row.cells [I p.1 p.2] true))[S.length]? = some (Row.cells [I p.1 p.2] true) := at_eq at_new
    have hbl := at_lt hS
    have hb : (List.set (S ++ [Row.cells [y32.zero] true]) S.length (Row.cells [I p.1 p.2] true))[bid]? = some (Row.cells [I (B : Int) cB] true) := at_ne (at_app hS) (by omega)
    show wpO (loadS y32 (List.set (S ++ [Row.cells [y32.zero] true]) S.length (Row.cells [I p.1 p.2] true)) (.optr S.length 0 0)) _
    generalize List.set (S ++ [Row.cells [y32.zero] true]) S.length (Row.cells [I p.1 p.2] true) = S1 at hx hb ⊢
    refine wpO_of (load_I hx) ?_
    refine call_pure rfl rfl (c9 ?_)
    -- behind the sign
    have rest : ∀ (z : Int) (cz : VC) (S2 : Store) (e2 : En), 0 ≤ z → z ≤ B → S2[S.length]? = some (Row.cells [I z cz] true) → S2[bid]? = some (Row.cells [I (B : Int) cB] true) → e2 11 = .optr S.length 0 0 → e2 6 = e 6 → e2 9 = e 9 → e2 10 = e 10 → e2 5 = e 5 → K3_1 k .nrm e2 S2 := by
      intro z cz S2 e2 hz0 hzB g1 g2 q11 q6 q9 q10 q5
      refine K3_1n_ok ?_
      unfold TK3_1n
      rw [q11, q9, q10, h9, h10]
      refine wpO_of (load_I g1) (wpO_of (load_I g2) ?_)
      refine call_pure rfl rfl (c11 (by have := wd_small (z := z) (by omega); omega) (by have := wd_small (z := (B : Int)) (by omega); omega) ?_)
      simp only [b_gtr, wpO_sm]
      refine condP_dec (fun h => ?_) (fun _ => ?_)
      · exfalso
        unfold cmpZ at h
        split at h
        · omega
        · split at h <;> omega
      · refine wpO_of b_add ?_
        rw [succI (by omega)]
        exact ih a ca B cB (i + 1) bid S2 _ k (by omega) hl mk sm hB hab (q6.trans h6) (q9.trans h9) rfl (q5.trans h5) g2 hk
    have hneg : (sgn p.1 < 0) ↔ p.1 < 0 := by unfold sgn; split <;> (try split) <;> omega
    refine wpO_of b_lss ?_
    refine condP_b (fun hs => ?_) (fun hs => ?_)
    · have hlt := hneg.1 (of_decide_eq_true hs)
      refine wpO_of (load_I hx) ?_
      refine call_pure rfl rfl (c10 (by have := wd_small (z := p.1) (by omega); omega) hpm fun c1 hc1 => ?_)
      refine wpO_of (store_I hx rfl) ?_
      exact rest (-p.1) c1 _ _ (by omega) (by omega) (at_eq hx) (at_ne hb (by omega)) rfl rfl rfl rfl rfl
    · have hge : ¬ p.1 < 0 := fun h => of_decide_eq_false hs (hneg.2 h)
      exact rest p.1 p.2 _ _ (by omega) (by omega) hx hb rfl rfl rfl rfl rfl

def one1 : RV := ⟨1, 1, .loose, .loose⟩

theorem big_loop : ∀ (m i id : Nat) (cap : Option Nat) (S : Store) (e : En) (k : X → En → Store → Prop), i + m = 14 → e 12 = .osl id 4 0 i cap → (cap = none ∨ cap = some i) → e 13 = .int .i64 (i : Int) → e 5 = .bool true → S[id]? = some (.cells (Rs (List.replicate i one1)) true) → (0 < i → cap = none) →
    (∀ (e' : En) (S' : Store) (id' : Nat), e' 12 = .osl id' 4 0 14 none → e' 5 = .bool true → S'[id']? = some (.cells (Rs (List.replicate 14 one1)) true) → k (.exit 2) e' S') →
    DenP cfgT 96 (.loop L3_1) e S k := by
  intro m
  induction m with
  | zero =>
    intro i id cap S e k hi h12 hcap h13 h5 hS hc0 hk
    refine L3_1_ok ?_
    unfold TL3_1
    simp only [h13, b_lss, wpO_sm]
    have : i = 14 := by omega
    subst this
    refine cndF rfl ?_
    rw [hc0 (by decide)] at h12
    exact hk _ S id h12 h5 hS
  | succ m ih =>
    intro i id cap S e k hi h12 hcap h13 h5 hS hc0 hk
    refine L3_1_ok ?_
    unfold TL3_1
    simp only [h12, h13, b_lss, wpO_sm]
    refine condP_dec (fun _ => ?_) (fun h => absurd (by omega) h)
    refine call_pure rfl rfl (whole_root (w := 1) (by decide) (by decide) ?_)
    refine wpO_of rfl ?_
    have hel : elemsS (S ++ [Row.cells [Rv one1] true]) (.osl S.length 4 0 1 (some 1)) = some (Rs [one1]) := by
      unfold elemsS
      simp only [at_new (S := S) (r := Row.cells [Rv one1] true)]
      rfl
    have hap := app_row (j := y38) (S := S ++ [Row.cells [Rv one1] true]) (id := id) (off := 0) (len := i) (cap := cap) (es := Rs (List.replicate i one1)) (xs := Rs [one1]) (x := .osl S.length 4 0 1 (some 1)) rfl (by decide)
      hel (by simp [Rs]) Rs_sizes (at_app hS) (by show (i + 1) * 64 ≤ _; unfold roomS; omega) (by show i + 1 ≤ _; unfold roomS; omega) (by simp)
      (by rcases hcap with h | h
          · exact .inl h
          · exact .inr ⟨i, h, by simp [Rs]⟩)
    refine wpO_of hap ?_
    refine wpO_of b_add ?_
    rw [succI (by omega)]
    have htk : ((Rs (List.replicate i one1)).drop 0).take i ++ Rs [one1] = Rs (List.replicate (i + 1) one1) := by
      rw [List.drop_zero, List.take_of_length_le (by simp), ← Rs_append, List.replicate_succ']
    rw [htk]
    have hlen : (if cap = none then (S ++ [Row.cells [Rv one1] true]).set id .dead else (S ++ [Row.cells [Rv one1] true])).length = (S ++ [Row.cells [Rv one1] true]).length := by split <;> simp
    refine ih (i + 1) (S ++ [Row.cells [Rv one1] true]).length none _ _ k (by omega) rfl (.inl rfl) rfl h5 ?_ (fun _ => rfl) hk
    rw [← hlen]
    exact at_new

theorem c3 {l m : List Int} {c d : VC} (hl : Rng l) (hm : Rng m) : wpO (pureW cfgT 3 [.vsl (i8s l) c, .vsl (i8s m) d]) (fun v => v = .bool true) := by
  refine pureP_of rfl (F3_ok (k := fun v S => wpO (frz S depthS v) (fun v => v = .bool true)) ?_)
  unfold F3
  refine call_pure rfl rfl (c4 ?_)
  refine wpO_of rfl (cndF rfl ?_)
  refine call_pure rfl rfl (c6 hl fun ra c1 ra7 raok ralast => ?_)
  refine call_pure rfl rfl (c5 raok ra7 ralast fun a ca hal ma sa la => ?_)
  refine call_pure rfl rfl (c6 hm fun rb c2 rb7 rbok rblast => ?_)
  refine call_pure rfl rfl (c5 rbok rb7 rblast fun b cb hbl mb sb lb => ?_)
  refine call_pure rfl rfl (c7 ma mb sa sb (by omega) fun p cp hp => ?_)
  have hpb : ∀ q ∈ trimZ p, q.1.natAbs ≤ 5000 := by
    intro q hq
    obtain ⟨j, hj, hjq⟩ := List.getElem_of_mem (trimZ_mem q hq)
    have h1 := hp.2.2 j (by rw [← hp.1]; exact hj)
    have h2 : zAt p j = q.1 := by unfold zAt; rw [List.getElem?_eq_getElem hj, hjq]
    rw [← h2, h1]
    exact conv_le sa sb (by have := hp.1; omega)
  have hpm : Mk (trimZ p) := fun q hq => hp.2.1 q (trimZ_mem q hq)
  have hpl : (trimZ p).length ≤ 13 := by have := trimZ_len (l := p); have := hp.1; omega
  refine call_pure rfl rfl (c8 hpm hpb hpl fun cB => ?_)
  refine wpO_of alloc_32 (wpO_of (show storeS y32 [Row.cells [y32.zero] true] (.optr 0 0 0) (I _ cB) = some [Row.cells [I _ cB] true] from rfl) ?_)
  refine wpO_of (len24 _ _) (wpO_of b_eql ?_)
  have hB : sumA (trimZ p) * 2 ^ ((trimZ p).length - 1) < 4294967296 := by
    have h1 := sumA_le hpb
    have h2 : 5000 * (trimZ p).length ≤ 5000 * 13 := Nat.mul_le_mul_left _ hpl
    have h3 : 2 ^ ((trimZ p).length - 1) ≤ 2 ^ 12 := Nat.pow_le_pow_right (by decide) (by omega)
    have h4 : sumA (trimZ p) * 2 ^ ((trimZ p).length - 1) ≤ 65000 * 2 ^ 12 := Nat.mul_le_mul (by omega) h3
    omega
  -- one of the two is 0
  have zero : ∀ (S' : Store) (k0 : SV → Store → Prop), (∀ S2, k0 (.bool true) S2) → wpO (callW cfgT 8 [(.vsl [] .nil)] S') fun p21 => wpO (callW cfgT 9 [p21.1] p21.2) fun p22 => wpO (binS .eql (some y3) p22.1 (.int .i64 0)) fun v23 =>
      grdP (some v23) true (fun k => k (.bool true) p22.2) p22.2 fun v24 S25 => wpO (pickS v23 v24 (.bool false)) fun v26 => k0 v26 S25 := by
    intro S' k0 hk
    refine call_pure rfl rfl (c8 (l := []) (c := .nil) (fun p hp => by cases hp) (fun p hp => by cases hp) (by decide) fun c' => ?_)
    refine call_pure rfl rfl (c9 ?_)
    refine wpO_of b_eql ?_
    refine grdT rfl (wpO_of pickS_t ?_)
    exact hk _
  by_cases ha0 : (a.length : Int) = 0
  · rw [decide_eq_true ha0]
    refine grdM rfl ?_
    refine grdM rfl ?_
    refine grdM rfl ?_
    refine wpO_of pickS_t (cndT rfl ?_)
    exact zero _ _ fun S2 => wpO_of rfl rfl
  · rw [decide_eq_false ha0]
    refine grdN rfl ?_
    refine grdN rfl ?_
    refine wpO_of (len24 _ _) ?_
    refine grdN rfl ?_
    refine wpO_of b_eql (wpO_of pickS_f ?_)
    refine condP_dec (fun hb0 => ?_) (fun hb0 => ?_)
    · exact zero _ _ fun S2 => wpO_of rfl rfl
    · have hap : 0 < a.length := by omega
      have hbp : 0 < b.length := by omega
      have htr := trim_conv la lb hap hbp hp
      have hge := bound_ge sa la lb hap hbp hp
      rw [htr] at hB
      rw [htr]
      refine cmp_all a.length a ca _ cB 0 0 _ _ _ (by omega) (by omega) ma sa hB hge rfl rfl rfl rfl rfl ?_
      intro e1 S1 h5
      refine K3_0e0_ok ?_
      unfold TK3_0e0
      refine wpO_of rfl ?_
      refine big_loop 14 0 S1.length (some 0) _ _ _ (by decide) rfl (.inr rfl) rfl h5 at_new (fun h => by omega) ?_
      intro e2 S2 id h12 h5' hS2
      refine K3_2e2_ok ?_
      unfold TK3_2e2
      rw [h12, h5']
      refine call_row (es := Rs (List.replicate 14 one1)) rfl hS2 (by simp) Rs_pure ?_
      refine root_hit (v := .agg [.bool false, .vsl [] .nil, .bool false, .vsl [] .nil, .vsl [] .nil, .int .i64 2]) rfl ?_
      have hidl := at_lt hS2
      have hsd : (S2.set id (Row.cells (Rs (List.replicate 14 one1)) false))[id]? = some (Row.cells (Rs (List.replicate 14 one1)) false) := at_eq hS2
      show wpO (allocS y43.zero (S2.set id (Row.cells (Rs (List.replicate 14 one1)) false))) _
      generalize S2.set id (Row.cells (Rs (List.replicate 14 one1)) false) = S3 at hsd ⊢
      refine wpO_of (show allocS y43.zero S3 = some (.optr S3.length 0 0, S3 ++ [Row.cells [y43.zero] true]) from rfl) ?_
      have hid3 := at_lt hsd
      obtain ⟨S4, hS4, hw, hs3⟩ : ∃ S4, storeS y43 (S3 ++ [Row.cells [y43.zero] true]) (.optr S3.length 0 0) (SV.agg [.bool false, .vsl [] .nil, .bool false, .vsl [] .nil, .vsl [] .nil, .int .i64 2]) = some S4 ∧
          S4[S3.length]? = some (Row.cells [SV.agg [.bool false, .vsl [] .nil, .bool false, .vsl [] .nil, .vsl [] .nil, .int .i64 2]] true) ∧ S4[id]? = some (Row.cells (Rs (List.replicate 14 one1)) false) :=
        ⟨_, store_row (e' := SV.agg [.bool false, .vsl [] .nil, .bool false, .vsl [] .nil, .vsl [] .nil, .int .i64 2]) at_new rfl rfl rfl rfl, at_eq at_new, at_ne (at_app hsd) (by omega)⟩
      refine wpO_of hS4 ?_
      refine wpO_of rfl (wpO_of (x := .int .i64 2) (by rw [load_row hw rfl]; rfl) (wpO_of b_eql ?_))
      refine grdT rfl (wpO_of rfl (grdT rfl (wpO_of (x := .vsl [] .nil) (by rw [load_row hw rfl]; rfl) (grdT rfl (wpO_of rfl (grdT rfl (wpO_of b_eql (wpO_of pickS_t ?_))))))))
      refine grdT rfl (grdT rfl ?_)
      refine call_row (es := Rs (List.replicate 14 one1)) rfl hs3 (by simp) Rs_pure ?_
      refine root_hit (v := .bool false) rfl ?_
      refine grdT rfl (wpO_of u_not (wpO_of pickS_t ?_))
      refine grdT rfl (grdT rfl ?_)
      refine call_row (es := Rs (List.replicate 14 one1)) rfl (at_eq hs3) (by simp) Rs_pure ?_
      refine root_hit (v := .vsl [] .nil) rfl ?_
      refine grdT rfl (wpO_of rfl (grdT rfl (wpO_of b_eql (wpO_of pickS_t ?_))))
      refine grdT rfl (wpO_of pickS_t ?_)
      exact wpO_of rfl rfl

end Go.Proofs

