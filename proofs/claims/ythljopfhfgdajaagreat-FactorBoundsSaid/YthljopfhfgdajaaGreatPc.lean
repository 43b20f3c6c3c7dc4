/-
  Fractions, lists of integers, their products; the program's bound.
-/
import Derived.Test.YthljopfhfgdajaaGreatPb
import Derived.Test.YthljopfhfgdajaaGreatLay
set_option linter.unusedVariables false
set_option linter.unusedSimpArgs false
/-
  Rational numbers and lists of integers, by the reference.
-/
set_option linter.unusedVariables false
set_option maxRecDepth 10000
namespace Go.Proofs
open Go.Sh

/-- A fraction as the machine's value. -/
def Rt (n d : Int) (c c' : VC) : SV := .agg [.bool (decide (n < 0)), .vsl (u32s (encN n.natAbs)) c, .bool (decide (d < 0)), .vsl (u32s (encN d.natAbs)) c']

theorem c29 {n d : Int} {c c' : VC} {Q : SV → Prop} (h : Q (.int .i64 (sgn n))) : wpO (pureW cfgT 29 [Rt n d c c']) Q := by
  refine pureP_of rfl (F29_ok (k := fun v S => wpO (frz S depthS v) Q) ?_)
  unfold F29
  unfold Rt
  iterate 3 refine wpO_of rfl ?_
  refine call_pure rfl rfl (c9 (z := n) (c := c) ?_)
  exact h

theorem c116 {n g : Int} {c d : VC} {Q : SV → Prop} (hg0 : g ≠ 0) (hg : g.natAbs < 4294967296) (hn : wd n < 17592186044414) (hc : c = .nil → n = 0) (h : ∀ c', (c' = .nil → n / g = 0) → Q (I (n / g) c')) : wpO (pureW cfgT 116 [I n c, I g d]) Q := by
  refine pureP_of rfl (F116_ok (k := fun v S => wpO (frz S depthS v) Q) ?_)
  unfold F116
  iterate 5 refine wpO_of rfl ?_
  refine call_pure rfl rfl (c25 (z := n) (w := g) (c := c) (d := d) hg0 hg hn hc fun c1 c2 hc1 hc2 => ?_)
  iterate 10 refine wpO_of rfl ?_
  exact h c1 hc1

theorem c73 {n d : Int} {c c' : VC} {Q : SV → Prop} (hd : 0 < d) (hd2 : d.natAbs < 4294967296) (hn2 : n.natAbs < 4294967296) (hc : c = .nil → n = 0) (hc' : c' = .nil → d = 0)
    (h : ∀ c1 c2, (c1 = .nil → n / ((Nat.gcd n.natAbs d.natAbs : Nat) : Int) = 0) → (c2 = .nil → d / ((Nat.gcd n.natAbs d.natAbs : Nat) : Int) = 0) → Q (Rt (n / ((Nat.gcd n.natAbs d.natAbs : Nat) : Int)) (d / ((Nat.gcd n.natAbs d.natAbs : Nat) : Int)) c1 c2)) : wpO (pureW cfgT 73 [I n c, I d c']) Q := by
  refine pureP_of rfl (F73_ok (k := fun v S => wpO (frz S depthS v) Q) ?_)
  unfold F73
  have hg1 : 0 < Nat.gcd n.natAbs d.natAbs := Nat.gcd_pos_of_pos_right _ (by omega)
  have hg2 : Nat.gcd n.natAbs d.natAbs ≤ d.natAbs := Nat.gcd_le_right _ (by omega)
  have hwn := wd_small hn2
  have hwd := wd_small hd2
  iterate 5 refine wpO_of rfl ?_
  refine call_pure rfl rfl (c24 (z := n) (w := d) (c := c) (d := c') (by omega) (by omega) hc fun c1 hc1 => ?_)
  generalize Nat.gcd n.natAbs d.natAbs = g at hg1 hg2 h hc1 ⊢
  iterate 3 refine wpO_of rfl ?_
  refine call_pure rfl rfl (c9 (z := d) (c := c') ?_)
  have hs : sgn d = 1 := by unfold sgn; rw [if_neg (by omega), if_neg (by omega)]
  rw [hs]
  refine wpO_of rfl (cndF rfl ?_)
  iterate 2 refine wpO_of rfl ?_
  refine call_pure rfl rfl (c116 (n := n) (g := (g : Int)) (c := c) (d := c1) (by omega) (by omega) (by omega) hc fun c2 hc2 => ?_)
  iterate 2 refine wpO_of rfl ?_
  refine call_pure rfl rfl (c116 (n := d) (g := (g : Int)) (c := c') (d := c1) (by omega) (by omega) (by omega) hc' fun c3 hc3 => ?_)
  iterate 3 refine wpO_of rfl ?_
  exact h c2 c3 hc2 hc3

theorem c27 {a b x y : Int} {c1 c2 c3 c4 : VC} {Q : SV → Prop} (hb : 0 < b) (hy : 0 < y) (ha2 : a.natAbs < 65536) (hb2 : b.natAbs < 65536) (hx2 : x.natAbs < 65536) (hy2 : y.natAbs < 65536)
    (h : ∀ d1 d2, (d1 = .nil → (a * x) / ((Nat.gcd (a * x).natAbs (b * y).natAbs : Nat) : Int) = 0) → Q (Rt ((a * x) / ((Nat.gcd (a * x).natAbs (b * y).natAbs : Nat) : Int)) ((b * y) / ((Nat.gcd (a * x).natAbs (b * y).natAbs : Nat) : Int)) d1 d2)) :
    wpO (pureW cfgT 27 [Rt a b c1 c2, Rt x y c3 c4]) Q := by
  refine pureP_of rfl (F27_ok (k := fun v S => wpO (frz S depthS v) Q) ?_)
  unfold F27
  unfold Rt
  have w1 := wd_small (z := a) (by omega)
  have w2 := wd_small (z := b) (by omega)
  have w3 := wd_small (z := x) (by omega)
  have w4 := wd_small (z := y) (by omega)
  have m1 : (a * x).natAbs < 4294967296 := by
    rw [Int.natAbs_mul]
    have : a.natAbs * x.natAbs ≤ 65535 * 65535 := Nat.mul_le_mul (by omega) (by omega)
    omega
  have m2 : (b * y).natAbs < 4294967296 := by
    rw [Int.natAbs_mul]
    have : b.natAbs * y.natAbs ≤ 65535 * 65535 := Nat.mul_le_mul (by omega) (by omega)
    omega
  have m3 : 0 < b * y := Int.mul_pos hb hy
  iterate 7 refine wpO_of rfl ?_
  refine call_pure rfl rfl (c26 (z := a) (w := x) (c := c1) (d := c3) (by omega) (by omega) fun d1 hd1 => ?_)
  iterate 4 refine wpO_of rfl ?_
  refine call_pure rfl rfl (c26 (z := b) (w := y) (c := c2) (d := c4) (by omega) (by omega) fun d2 hd2 => ?_)
  refine call_pure rfl rfl (c73 (n := a * x) (d := b * y) (c := d1) (c' := d2) m3 m2 m1 hd1 hd2 fun d3 d4 hd3 hd4 => ?_)
  iterate 2 refine wpO_of rfl ?_
  exact h d3 d4 hd3

/- ---- lists of integers ---- -/
def Is (l : List (Int × VC)) : List SV := l.map fun p => I p.1 p.2
@[simp] theorem Is_len {l : List (Int × VC)} : (Is l).length = l.length := by simp [Is]
theorem Is_get {l : List (Int × VC)} {n : Nat} {p : Int × VC} (h : l[n]? = some p) : (Is l)[n]? = some (I p.1 p.2) := by simp [Is, h]
theorem Is_append {l m : List (Int × VC)} : Is (l ++ m) = Is l ++ Is m := by simp [Is]
theorem Is_take {l : List (Int × VC)} {n : Nat} : (Is l).take n = Is (l.take n) := by simp [Is, List.map_take]
theorem Is_set {l : List (Int × VC)} {n : Nat} {z : Int} {c : VC} : (Is l).set n (I z c) = Is (l.set n (z, c)) := by simp [Is, List.map_set]
theorem Is_pure {l : List (Int × VC)} : ∀ e ∈ Is l, pureS e = true := by
  intro e he
  simp only [Is, List.mem_map] at he
  obtain ⟨p, _, rfl⟩ := he
  rfl
theorem Is_size {l : List (Int × VC)} {c : VC} : sizeIs 2 (.vsl (Is l) c) = true := by cases l <;> rfl
theorem I_n {z : Int} {c : VC} : (I z c).n = 2 := rfl
theorem Is_sizes {l : List (Int × VC)} : sizesOk 2 (Is l) = true := by
  unfold sizesOk
  rw [List.all_eq_true]
  intro e he
  simp only [Is, List.mem_map] at he
  obtain ⟨p, _, rfl⟩ := he
  rfl
def zAt (l : List (Int × VC)) (n : Nat) : Int := match l[n]? with
  | some p => p.1
  | none => 0
theorem len24 (l : List (Int × VC)) (c : VC) : lenS y24 (.vsl (Is l) c) = some (.int .i64 (l.length : Int)) := by rw [len_vsl rfl, Is_len]
theorem idx24 {l : List (Int × VC)} {c : VC} {i : Nat} {p : Int × VC} (h : l[i]? = some p) : indexAddrS cfgT y24 (.vsl (Is l) c) (.int .i64 (i : Int)) = some (.vptr (I p.1 p.2)) := idx_vsl (j := y32) rfl rfl (by decide) (Is_get h) rfl
def Mk (l : List (Int × VC)) : Prop := ∀ p ∈ l, p.2 = .nil → p.1 = 0
theorem Mk.get {l : List (Int × VC)} (h : Mk l) {n : Nat} {p : Int × VC} (e : l[n]? = some p) : p.2 = .nil → p.1 = 0 := h p (List.mem_of_getElem? e)

theorem c31 {l : List (Int × VC)} {c : VC} {i : Nat} {Q : SV → Prop} (hm : Mk l) (h : ∀ c', (c' = .nil → zAt l i = 0) → Q (I (zAt l i) c')) : wpO (pureW cfgT 31 [.vsl (Is l) c, .int .i64 (i : Int)]) Q := by
  refine pureP_of rfl (F31_ok (k := fun v S => wpO (frz S depthS v) Q) ?_)
  unfold F31
  refine wpO_of rfl ?_
  simp only [len24, b_lss, wpO_sm]
  refine condP_dec (fun hi => ?_) (fun hi => ?_)
  · obtain ⟨p, hp⟩ : ∃ p, l[i]? = some p := ⟨l[i]'(by omega), by simp⟩
    have hz : zAt l i = p.1 := by unfold zAt; rw [hp]
    rw [hz] at h
    refine wpO_of (idx24 hp) ?_
    iterate 3 refine wpO_of rfl ?_
    exact h p.2 (hm.get hp)
  · have hz : zAt l i = 0 := by unfold zAt; rw [List.getElem?_eq_none (by omega)]
    rw [hz] at h
    refine call_pure rfl rfl (c23 (by decide) (by decide) fun c' hc' => ?_)
    iterate 2 refine wpO_of rfl ?_
    exact h c' hc'

/-- Without zeros at the end. -/
def trimZ (l : List (Int × VC)) : List (Int × VC) := (l.reverse.dropWhile (fun p => p.1 == 0)).reverse
theorem trimZ_snoc {l : List (Int × VC)} {p : Int × VC} : trimZ (l ++ [p]) = if p.1 = 0 then trimZ l else l ++ [p] := by
  unfold trimZ
  rw [List.reverse_append]
  simp only [List.reverse_cons, List.reverse_nil, List.nil_append, List.singleton_append, List.dropWhile_cons]
  by_cases h : p.1 = 0
  · simp [h]
  · simp [h]

theorem trimZ_loop : ∀ (l : List (Int × VC)) (c : VC) (e : En) (k : X → En → Store → Prop), e 0 = .vsl (Is l) c → l.length < 9223372036854775808 →
    (∀ (e' : En) (c' : VC), e' 0 = .vsl (Is (trimZ l)) c' → k (.exit 0) e' []) → DenP cfgT 22 (.loop L32_0) e [] k := by
  intro l
  induction l using snoc_ind with
  | h0 =>
    intro c e k h0 hs hk
    refine L32_0_ok ?_
    unfold TL32_0
    simp only [h0, len24]
    simp
    exact hk _ c h0
  | h l p ih =>
    intro c e k h0 hs hk
    have hlen : (l ++ [p]).length = l.length + 1 := by simp
    have hp : (l ++ [p])[l.length]? = some p := by rw [List.getElem?_append_right (Nat.le_refl _)]; simp
    rw [trimZ_snoc] at hk
    refine L32_0_ok ?_
    unfold TL32_0
    have e4 : (0 : Int) < (l.length : Int) + 1 := by omega
    have e5 : wrapS .i64 (((l.length : Nat) : Int) + 1 - 1) = (l.length : Int) := by rw [hlen] at hs; rw [wrap64 (by omega) (by omega)]; omega
    have e6 : ((l.length + 1 : Nat) : Int) = (l.length : Int) + 1 := by omega
    simp only [h0, len24, hlen, e6, b_gtr, wpO_sm, decide_eq_true e4]
    refine grdT rfl (grdT rfl ?_)
    simp only [len24, hlen, e6, wpO_sm]
    refine grdT rfl ?_
    simp only [b_sub, wpO_sm, e5]
    refine grdT rfl (wpO_of (idx24 hp) (grdT rfl (wpO_of rfl (grdT rfl ?_))))
    refine call_pure rfl rfl (c9 (z := p.1) (c := p.2) ?_)
    refine grdT rfl (wpO_of b_eql (wpO_of pickS_t ?_))
    have hsg : (sgn p.1 = 0) ↔ p.1 = 0 := by unfold sgn; split <;> (try split) <;> omega
    refine condP_b (fun hz => ?_) (fun hz => ?_)
    · have hz2 := hsg.1 (of_decide_eq_true hz)
      rw [if_pos hz2] at hk
      obtain ⟨c', hn, hsl⟩ := slic_v (j := y32) (es := Is (l ++ [p])) (c := c) (k := .i64) (n := l.length) (by decide) Is_size (by simp)
      simp only [wpO_sm, b_sub, e5]
      refine wpO_of hsl ?_
      rw [Is_take, List.take_left]
      exact ih c' _ k rfl (by rw [hlen] at hs; omega) hk
    · have hz2 : ¬ p.1 = 0 := fun e => by have := of_decide_eq_false hz; exact this (hsg.2 e)
      rw [if_neg hz2] at hk
      exact hk _ c h0

theorem c32 {l : List (Int × VC)} {c : VC} {Q : SV → Prop} (hs : l.length < 9223372036854775808) (h : ∀ c', Q (.vsl (Is (trimZ l)) c')) : wpO (pureW cfgT 32 [.vsl (Is l) c]) Q := by
  refine pureP_of rfl (F32_ok (k := fun v S => wpO (frz S depthS v) Q) ?_)
  unfold F32
  refine trimZ_loop l c _ _ rfl hs fun e' c' h0 => ?_
  refine K32_0e0_ok ?_
  unfold TK32_0e0
  rw [h0]
  exact h c'

end Go.Proofs

/-
  Products of integer polynomials, by the reference; the program's bound.
-/
set_option linter.unusedVariables false
set_option maxRecDepth 10000
namespace Go.Proofs
open Go.Sh

theorem at_app {S T : Store} {id : Nat} {r : Row} (h : S[id]? = some r) : (S ++ T)[id]? = some r := by
  have := (List.getElem?_eq_some_iff.1 h).1
  rw [List.getElem?_append_left this]; exact h
theorem at_new {S : Store} {r : Row} : (S ++ [r])[S.length]? = some r := by rw [List.getElem?_append_right (Nat.le_refl _)]; simp
theorem at_ne {S : Store} {id j : Nat} {r x : Row} (h : S[id]? = some r) (hne : j ≠ id) : (S.set j x)[id]? = some r := by rw [List.getElem?_set, if_neg hne]; exact h
theorem at_eq {S : Store} {id : Nat} {r x : Row} (h : S[id]? = some r) : (S.set id x)[id]? = some x := by
  have := (List.getElem?_eq_some_iff.1 h).1
  rw [List.getElem?_set, if_pos rfl, if_pos this]
theorem at_lt {S : Store} {id : Nat} {r : Row} (h : S[id]? = some r) : id < S.length := (List.getElem?_eq_some_iff.1 h).1

theorem load_I {S : Store} {id : Nat} {z : Int} {c : VC} {lv : Bool} (h : S[id]? = some (.cells [I z c] lv)) : loadS y32 S (.optr id 0 0) = some (I z c) := by
  rw [load_row h rfl]; rfl
theorem store_I {S : Store} {id : Nat} {e0 : SV} {z : Int} {c : VC} {a b : SV} (h : S[id]? = some (.cells [e0] true)) (he : e0 = .agg [a, b]) : storeS y32 S (.optr id 0 0) (I z c) = some (S.set id (.cells [I z c] true)) := by
  subst he
  rw [store_row (e' := I z c) h rfl rfl rfl rfl]
  rfl
theorem alloc_32 {S : Store} : allocS y32.zero S = some (.optr S.length 0 0, S ++ [.cells [y32.zero] true]) := rfl

/-- m products, from the i-th on. -/
def csum (a b : List (Int × VC)) (n : Nat) : Nat → Nat → Int
  | _, 0 => 0
  | i, m + 1 => zAt a i * zAt b (n - i) + csum a b n (i + 1) m
def conv (a b : List (Int × VC)) (n : Nat) : Int := csum a b n 0 (n + 1)
/-- No number is greater than 18. -/
def Sm (l : List (Int × VC)) : Prop := ∀ p ∈ l, p.1.natAbs ≤ 18
theorem Sm.at {l : List (Int × VC)} (h : Sm l) (i : Nat) : (zAt l i).natAbs ≤ 18 := by
  unfold zAt
  cases e : l[i]? with
  | none => simp
  | some p => exact h p (List.mem_of_getElem? e)
theorem prod_le {a b : List (Int × VC)} (ha : Sm a) (hb : Sm b) (i j : Nat) : (zAt a i * zAt b j).natAbs ≤ 324 := by
  rw [Int.natAbs_mul]
  exact Nat.mul_le_mul (ha.at i) (hb.at j)
theorem csum_le {a b : List (Int × VC)} (ha : Sm a) (hb : Sm b) (n : Nat) : ∀ m i, (csum a b n i m).natAbs ≤ 324 * m
  | 0, i => by simp [csum]
  | m + 1, i => by
    have h1 := prod_le ha hb i (n - i)
    have h2 := csum_le ha hb n m (i + 1)
    simp only [csum]
    omega

theorem imul_inner : ∀ (m : Nat) (a b : List (Int × VC)) (ca cb : VC) (n i s : Nat) (w : Int) (c : VC) (S : Store) (e : En) (k : X → En → Store → Prop), Mk a → Mk b → Sm a → Sm b → i + m = n + 1 → n ≤ 12 → w.natAbs ≤ 324 * i → 
    e 0 = .vsl (Is a) ca → e 1 = .vsl (Is b) cb → e 6 = .int .i64 (n : Int) → e 7 = .optr s 0 0 → e 8 = .int .i64 (i : Int) → S[s]? = some (.cells [I w c] true) → (c = .nil → w = 0) →
    (∀ (e' : En) (S' : Store) (c' : VC), e' 0 = .vsl (Is a) ca → e' 1 = .vsl (Is b) cb → e' 5 = e 5 → e' 6 = .int .i64 (n : Int) → e' 7 = .optr s 0 0 → S'.length = S.length → S'[s]? = some (.cells [I (w + csum a b n i m) c'] true) → (c' = .nil → w + csum a b n i m = 0) → (∀ id, id ≠ s → S'[id]? = S[id]?) → k (.exit 2) e' S') →
    DenP cfgT 43 (.loop L7_1) e S k := by
  intro m
  induction m with
  | zero =>
    intro a b ca cb n i s w c S e k ma mb sa sb hi hn hw h0 h1 h6 h7 h8 hS hc hk
    refine L7_1_ok ?_
    unfold TL7_1
    simp only [h6, h8, b_leq, wpO_sm]
    refine condP_dec (fun h => by omega) (fun _ => ?_)
    refine hk _ S c h0 h1 rfl h6 h7 rfl ?_ ?_ (fun _ _ => rfl)
    · simpa [csum] using hS
    · simpa [csum] using hc
  | succ m ih =>
    intro a b ca cb n i s w c S e k ma mb sa sb hi hn hw h0 h1 h6 h7 h8 hS hc hk
    refine L7_1_ok ?_
    unfold TL7_1
    simp only [h0, h1, h6, h7, h8, b_leq, wpO_sm]
    refine condP_dec (fun _ => ?_) (fun h => absurd (by omega) h)
    refine wpO_of (load_I hS) ?_
    refine call_pure rfl rfl (c31 ma fun c1 hc1 => ?_)
    have e1 : wrapS .i64 ((n : Int) - (i : Int)) = ((n - i : Nat) : Int) := by rw [wrap64 (by omega) (by omega)]; omega
    simp only [b_sub, wpO_sm, e1]
    refine call_pure rfl rfl (c31 mb fun c2 hc2 => ?_)
    have ha := sa.at i
    have hb := sb.at (n - i)
    have hab := prod_le sa sb i (n - i)
    refine call_pure rfl rfl (c26 (by have := wd_small (z := zAt a i) (by omega); omega) (by have := wd_small (z := zAt b (n - i)) (by omega); omega) fun c3 hc3 => ?_)
    refine call_pure rfl rfl (c30 (by have := wd_small (z := w) (by omega); omega) (by have := wd_small (z := zAt a i * zAt b (n - i)) (by omega); omega) fun c4 hc4 => ?_)
    refine wpO_of (store_I hS rfl) ?_
    simp only [b_add, wpO_sm]
    rw [succI (by omega)]
    have hassoc : w + zAt a i * zAt b (n - i) + csum a b n (i + 1) m = w + csum a b n i (m + 1) := by simp only [csum]; omega
    refine ih a b ca cb n (i + 1) s (w + zAt a i * zAt b (n - i)) c4 _ _ k ma mb sa sb (by omega) hn (by omega) h0 h1 h6 h7 rfl (at_eq hS) hc4 ?_
    intro e' S' c' g0 g1 g5 g6 g7 hl hS' hc' hfr
    rw [hassoc] at hS' hc'
    refine hk e' S' c' g0 g1 g5 g6 g7 (by rw [hl, List.length_set]) hS' hc' (fun id hne => ?_)
    rw [hfr id hne, List.getElem?_set, if_neg (Ne.symm hne)]

/-- The coefficients of the product, with some marks. -/
def IsConv (a b : List (Int × VC)) (n : Nat) (l : List (Int × VC)) : Prop := l.length = n ∧ Mk l ∧ ∀ j, j < n → zAt l j = conv a b j

theorem zAt_snoc {l : List (Int × VC)} {p : Int × VC} {j : Nat} : zAt (l ++ [p]) j = if j = l.length then p.1 else zAt l j := by
  unfold zAt
  by_cases h : j < l.length
  · rw [List.getElem?_append_left h, if_neg (by omega)]
  · by_cases h2 : j = l.length
    · subst h2; rw [if_pos rfl, List.getElem?_append_right (Nat.le_refl _)]; simp
    · rw [if_neg h2, List.getElem?_eq_none (by simp; omega), List.getElem?_eq_none (by omega)]

theorem IsConv.snoc {a b : List (Int × VC)} {n : Nat} {l : List (Int × VC)} {c : VC} (h : IsConv a b n l) (hc : c = .nil → conv a b n = 0) : IsConv a b (n + 1) (l ++ [(conv a b n, c)]) := by
  obtain ⟨h1, h2, h3⟩ := h
  refine ⟨by simp [h1], ?_, fun j hj => ?_⟩
  · intro p hp
    rcases List.mem_append.1 hp with hp | hp
    · exact h2 p hp
    · simp at hp; subst hp; exact hc
  · rw [zAt_snoc]
    by_cases e : j = n
    · subst e; rw [if_pos h1.symm]
    · rw [if_neg (by omega)]; exact h3 j (by omega)

theorem imul_outer : ∀ (m : Nat) (a b acc : List (Int × VC)) (ca cb : VC) (n id : Nat) (cap : Option Nat) (S : Store) (e : En) (k : X → En → Store → Prop), Mk a → Mk b → Sm a → Sm b → n + m = a.length + b.length - 1 → a.length + b.length ≤ 14 → IsConv a b n acc → 
    e 0 = .vsl (Is a) ca → e 1 = .vsl (Is b) cb → e 5 = .osl id 2 0 n cap → (cap = none ∨ cap = some n) → e 6 = .int .i64 (n : Int) → S[id]? = some (.cells (Is acc) true) →
    (∀ (e' : En) (S' : Store) (acc' : List (Int × VC)) (id' : Nat) (cap' : Option Nat), IsConv a b (a.length + b.length - 1) acc' → e' 5 = .osl id' 2 0 (a.length + b.length - 1) cap' → S'[id']? = some (.cells (Is acc') true) → k (.exit 0) e' S') →
    DenP cfgT 43 (.loop L7_0) e S k := by
  intro m
  induction m with
  | zero =>
    intro a b acc ca cb n id cap S e k ma mb sa sb hm hl hacc h0 h1 h5 hcap h6 hS hk
    refine L7_0_ok ?_
    unfold TL7_0
    simp only [h0, h1, h6, len24, b_add, b_lss, wpO_sm]
    rw [succI (by omega), addI (by omega)]
    have hn : n = a.length + b.length - 1 := by omega
    refine condP_dec (fun h => by omega) (fun _ => ?_)
    subst hn
    exact hk _ S acc id cap hacc h5 hS
  | succ m ih =>
    intro a b acc ca cb n id cap S e k ma mb sa sb hm hl hacc h0 h1 h5 hcap h6 hS hk
    refine L7_0_ok ?_
    unfold TL7_0
    simp only [h0, h1, h6, len24, b_add, b_lss, wpO_sm]
    rw [succI (by omega), addI (by omega)]
    refine condP_dec (fun _ => ?_) (fun h => absurd (by omega) h)
    refine call_pure rfl rfl (c23 (by decide) (by decide) fun c0 hc0 => ?_)
    refine wpO_of alloc_32 ?_
    refine wpO_of (store_I at_new rfl) ?_
    have hid := at_lt hS
    have hrow : (List.set (S ++ [.cells [y32.zero] true]) S.length (.cells [I 0 c0] true))[S.length]? = some (.cells [I 0 c0] true) := at_eq at_new
    show DenP cfgT 43 (.loop L7_1) _ (List.set (S ++ [.cells [y32.zero] true]) S.length (.cells [I 0 c0] true)) _
    refine imul_inner (n + 1) a b ca cb n 0 S.length 0 c0 _ _ _ ma mb sa sb (by omega) (by omega) (by simp) h0 h1 h6 rfl rfl hrow (fun _ => rfl) ?_
    intro e' S' c' g0 g1 g5 g6 g7 hl' hS' hc' hfr
    rw [Int.zero_add] at hS' hc'
    have h5' : e' 5 = .osl id 2 0 n cap := g5.trans h5
    refine K7_1e2_ok ?_
    unfold TK7_1e2
    simp only [g0, g1, g6, g7, h5']
    refine wpO_of (load_I hS') ?_
    refine wpO_of rfl ?_
    have hacc' : S'[id]? = some (.cells (Is acc) true) := by
      rw [hfr id (by omega), List.getElem?_set, if_neg (by omega)]
      exact at_app hS
    have hel : ∀ T : Store, elemsS (S' ++ [.cells [I (conv a b n) c'] true] ++ T) (.osl S'.length 2 0 1 (some 1)) = some (Is [(conv a b n, c')]) := by
      intro T
      unfold elemsS
      simp only [at_app (T := T) (at_new (S := S') (r := .cells [I (conv a b n) c'] true))]
      rfl
    have hap := app_row (j := y32) (S := S' ++ [.cells [I (conv a b n) c'] true]) (id := id) (off := 0) (len := n) (cap := cap) (es := Is acc) (xs := Is [(conv a b n, c')]) (x := .osl S'.length 2 0 1 (some 1)) rfl (by decide)
      (by have := hel []; rw [List.append_nil] at this; exact this) (by simp [Is]) Is_sizes (at_app hacc') (by show (n + 1) * 32 ≤ _; unfold roomS; omega) (by show n + 1 ≤ _; unfold roomS; omega) (by rw [Is_len, hacc.1]; omega)
      (by rcases hcap with h | h
          · exact .inl h
          · exact .inr ⟨n, h, by simp [Is]⟩)
    refine wpO_of hap ?_
    simp only [b_add, wpO_sm]
    rw [succI (by omega)]
    have htk : ((Is acc).drop 0).take n ++ Is [(conv a b n, c')] = Is (acc ++ [(conv a b n, c')]) := by
      rw [Is_append, List.drop_zero, List.take_of_length_le (by rw [Is_len, hacc.1]; exact Nat.le_refl _)]
    rw [htk]
    refine ih a b (acc ++ [(conv a b n, c')]) ca cb (n + 1) _ none _ _ k ma mb sa sb (by omega) hl (hacc.snoc hc') g0 g1 rfl (.inl rfl) rfl ?_ hk
    have hlen : (if cap = none then (S' ++ [Row.cells [I (conv a b n) c'] true]).set id .dead else (S' ++ [Row.cells [I (conv a b n) c'] true])).length = (S' ++ [Row.cells [I (conv a b n) c'] true]).length := by split <;> simp
    rw [← hlen]
    exact at_new

theorem c7 {a b : List (Int × VC)} {ca cb : VC} {Q : SV → Prop} (ma : Mk a) (mb : Mk b) (sa : Sm a) (sb : Sm b) (hl : a.length + b.length ≤ 14) (h : ∀ l c', IsConv a b (a.length + b.length - 1) l → Q (.vsl (Is (trimZ l)) c')) : wpO (pureW cfgT 7 [.vsl (Is a) ca, .vsl (Is b) cb]) Q := by
  refine pureP_of rfl (F7_ok (k := fun v S => wpO (frz S depthS v) Q) ?_)
  unfold F7
  refine wpO_of rfl ?_
  refine imul_outer (a.length + b.length - 1) a b [] ca cb 0 0 (some 0) _ _ _ ma mb sa sb (by omega) hl ⟨rfl, (fun p hp => by cases hp), fun j hj => by omega⟩ rfl rfl rfl (.inr rfl) rfl rfl ?_
  intro e' S' acc' id' cap' hacc h5 hS
  refine K7_0e0_ok ?_
  unfold TK7_0e0
  rw [h5]
  refine call_row (es := Is acc') rfl hS (by rw [Is_len, hacc.1]) Is_pure ?_
  refine c32 (by rw [hacc.1]; omega) fun c' => ?_
  exact h acc' c' hacc

end Go.Proofs

/-
  The program's bound for coefficients.
-/
set_option linter.unusedVariables false
set_option maxRecDepth 10000
namespace Go.Proofs
open Go.Sh

theorem root_hit {f : FuncId} {args : List SV} {v : SV} {Q : SV → Prop} (h : cfgT.orc f args = some v) (hq : Q v) : wpO (pureW cfgT f args) Q := by
  rw [pureW_eq, h]; exact hq

theorem I_small {x : Nat} {c : VC} (h0 : 0 < x) (h : x < 4294967296) : I (x : Int) c = .agg [.bool false, .vsl [.int .u32 (x : Int)] c] := by
  rw [I_pos (by omega)]
  have : ((x : Int)).natAbs = x := by omega
  rw [this, enc_small h h0]
  rfl

theorem c37 {n : Nat} {Q : SV → Prop} (hn : n ≤ 12) (h : Q (.tup [I ((2 ^ n : Nat) : Int) .loose, .int .i64 0])) : wpO (pureW cfgT 37 [.agg [.bool false, .vsl [.int .u32 2] .loose], .int .i64 (n : Int)]) Q := by
  have hp : 0 < 2 ^ n := Nat.pow_pos (by decide)
  have hlt : 2 ^ n < 4294967296 := Nat.lt_of_le_of_lt (Nat.pow_le_pow_right (by decide) hn) (by decide)
  rw [I_small hp hlt] at h
  have hc : n = 0 ∨ n = 1 ∨ n = 2 ∨ n = 3 ∨ n = 4 ∨ n = 5 ∨ n = 6 ∨ n = 7 ∨ n = 8 ∨ n = 9 ∨ n = 10 ∨ n = 11 ∨ n = 12 := by omega
  rcases hc with rfl | rfl | rfl | rfl | rfl | rfl | rfl | rfl | rfl | rfl | rfl | rfl | rfl <;> exact root_hit rfl h

theorem c33z {Q : SV → Prop} (h : Q (I 0 .exact)) : wpO (pureW cfgT 33 [.int .i64 0]) Q := root_hit rfl h

def sumA : List (Int × VC) → Nat
  | [] => 0
  | p :: r => p.1.natAbs + sumA r
theorem sumA_drop {l : List (Int × VC)} {i : Nat} {p : Int × VC} (h : l[i]? = some p) : sumA (l.drop i) = p.1.natAbs + sumA (l.drop (i + 1)) := by
  obtain ⟨hlt, rfl⟩ := List.getElem?_eq_some_iff.1 h
  rw [List.drop_eq_getElem_cons hlt, sumA]
theorem sumA_le {l : List (Int × VC)} {M : Nat} (h : ∀ p ∈ l, p.1.natAbs ≤ M) : sumA l ≤ M * l.length := by
  induction l with
  | nil => simp [sumA]
  | cons p r ih =>
    have h1 := h p List.mem_cons_self
    have h2 := ih (fun q hq => h q (List.mem_cons_of_mem _ hq))
    simp only [sumA, List.length_cons, Nat.mul_succ]
    omega

theorem bound_loop : ∀ (m : Nat) (l : List (Int × VC)) (c0 : VC) (i s : Nat) (w : Nat) (c : VC) (S : Store) (e : En) (k : X → En → Store → Prop), Mk l → (∀ p ∈ l, p.1.natAbs ≤ 5000) → i + m = l.length → l.length ≤ 13 → w ≤ 5000 * i →
    e 9 = .vsl (Is l) c0 → e 10 = .int .i64 (l.length : Int) → e 11 = .int .i64 (i : Int) → e 3 = .optr s 0 0 → S[s]? = some (.cells [I (w : Int) c] true) →
    (∀ (e' : En) (S' : Store) (c' : VC), e' 0 = e 0 → e' 2 = e 2 → e' 3 = .optr s 0 0 → S'[s]? = some (.cells [I ((w + sumA (l.drop i) : Nat) : Int) c'] true) → (∀ id, id ≠ s → id < S.length → S'[id]? = S[id]?) → k (.exit 0) e' S') →
    DenP cfgT 36 (.loop L8_0) e S k := by
  intro m
  induction m with
  | zero =>
    intro l c0 i s w c S e k ml bl hi hl hw h9 h10 h11 h3 hS hk
    refine L8_0_ok ?_
    unfold TL8_0
    simp only [h10, h11, b_lss, wpO_sm]
    refine condP_dec (fun h => by omega) (fun _ => ?_)
    refine hk _ S c rfl rfl h3 ?_ (fun _ _ _ => rfl)
    rw [List.drop_of_length_le (by omega)]
    exact hS
  | succ m ih =>
    intro l c0 i s w c S e k ml bl hi hl hw h9 h10 h11 h3 hS hk
    obtain ⟨p, hp⟩ : ∃ p, l[i]? = some p := ⟨l[i]'(by omega), by simp⟩
    have hmk := ml.get hp
    have hpb := bl p (List.mem_of_getElem? hp)
    have hdr := sumA_drop hp
    have hsl := at_lt hS
    refine L8_0_ok ?_
    unfold TL8_0
    simp only [h9, h10, h11, h3, b_lss, wpO_sm]
    refine condP_dec (fun _ => ?_) (fun h => absurd (by omega) h)
    refine wpO_of (idx24 hp) ?_
    refine wpO_of rfl ?_
    refine wpO_of alloc_32 ?_
    refine wpO_of (store_I at_new rfl) ?_
    have hx : (List.set (S ++ [.cells [y32.zero] true]) S.length (.cells [I p.1 p.2] true))[S.length]? = some (.cells [I p.1 p.2] true) := at_eq at_new
    have hsx : (List.set (S ++ [.cells [y32.zero] true]) S.length (.cells [I p.1 p.2] true))[s]? = some (.cells [I (w : Int) c] true) := at_ne (at_app hS) (by omega)
    show wpO (loadS y32 (List.set (S ++ [.cells [y32.zero] true]) S.length (.cells [I p.1 p.2] true)) (.optr S.length 0 0)) _
    have hfr0 : ∀ id, id < S.length → (List.set (S ++ [.cells [y32.zero] true]) S.length (.cells [I p.1 p.2] true))[id]? = S[id]? := fun id hid => by
      rw [List.getElem?_set, if_neg (by omega), List.getElem?_append_left hid]
    have hln : (List.set (S ++ [.cells [y32.zero] true]) S.length (.cells [I p.1 p.2] true)).length = S.length + 1 := by simp
    generalize List.set (S ++ [.cells [y32.zero] true]) S.length (.cells [I p.1 p.2] true) = S1 at hx hsx hfr0 hln ⊢
    refine wpO_of (load_I hx) ?_
    refine call_pure rfl rfl (c34 ?_)
    simp only [b_lss, wpO_sm]
    have hneg : (sgn p.1 < 0) ↔ p.1 < 0 := by unfold sgn; split <;> (try split) <;> omega
    refine condP_b (fun hs => ?_) (fun hs => ?_)
    · have hlt := hneg.1 (of_decide_eq_true hs)
      refine wpO_of (load_I hx) ?_
      refine call_pure rfl rfl (c35 (by have := wd_small (z := p.1) (by omega); omega) hmk fun c1 hc1 => ?_)
      refine wpO_of (store_I hx rfl) ?_
      refine wpO_of (load_I (at_ne hsx (by omega))) ?_
      refine wpO_of (load_I (at_eq hx)) ?_
      refine call_pure rfl rfl (c36p (by omega) (by omega) (by have := wd_small (z := (w : Int)) (by omega); omega) (by have := wd_small (z := -p.1) (by omega); omega) fun c2 hc2 => ?_)
      have hsx2 : (S1.set S.length (.cells [I (-p.1) c1] true))[s]? = some (.cells [I (w : Int) c] true) := at_ne hsx (by omega)
      refine wpO_of (store_I hsx2 rfl) ?_
      simp only [b_add, wpO_sm]
      rw [succI (by omega)]
      have ew : (w : Int) + -p.1 = ((w + p.1.natAbs : Nat) : Int) := by omega
      rw [ew]
      refine ih l c0 (i + 1) s (w + p.1.natAbs) c2 _ _ k ml bl (by omega) hl (by omega) h9 h10 rfl h3 (at_eq hsx2) ?_
      intro e' S' c' g0 g2 g3 hS' hfr
      refine hk e' S' c' g0 g2 g3 ?_ (fun id hne hid => ?_)
      · rw [hS', hdr, Nat.add_assoc]
      · rw [hfr id hne (by simp [hln]; omega), List.getElem?_set, if_neg (Ne.symm hne), List.getElem?_set, if_neg (by omega), hfr0 id hid]
    · have hge : ¬ p.1 < 0 := fun h => of_decide_eq_false hs (hneg.2 h)
      refine wpO_of (load_I hsx) ?_
      refine wpO_of (load_I hx) ?_
      refine call_pure rfl rfl (c36p (by omega) (by omega) (by have := wd_small (z := (w : Int)) (by omega); omega) (by have := wd_small (z := p.1) (by omega); omega) fun c2 hc2 => ?_)
      refine wpO_of (store_I hsx rfl) ?_
      simp only [b_add, wpO_sm]
      rw [succI (by omega)]
      have ew : (w : Int) + p.1 = ((w + p.1.natAbs : Nat) : Int) := by omega
      rw [ew]
      refine ih l c0 (i + 1) s (w + p.1.natAbs) c2 _ _ k ml bl (by omega) hl (by omega) h9 h10 rfl h3 (at_eq hsx) ?_
      intro e' S' c' g0 g2 g3 hS' hfr
      refine hk e' S' c' g0 g2 g3 ?_ (fun id hne hid => ?_)
      · rw [hS', hdr, Nat.add_assoc]
      · rw [hfr id hne (by simp [hln]; omega), List.getElem?_set, if_neg (Ne.symm hne), hfr0 id hid]

theorem c8 {l : List (Int × VC)} {c : VC} {Q : SV → Prop} (ml : Mk l) (bl : ∀ p ∈ l, p.1.natAbs ≤ 5000) (hl : l.length ≤ 13) (h : ∀ c', Q (I ((sumA l * 2 ^ (l.length - 1) : Nat) : Int) c')) : wpO (pureW cfgT 8 [.vsl (Is l) c]) Q := by
  refine pureP_of rfl (F8_ok (k := fun v S => wpO (frz S depthS v) Q) ?_)
  unfold F8
  refine wpO_of rfl ?_
  refine call_pure rfl rfl (c33z ?_)
  refine wpO_of rfl (wpO_of rfl ?_)
  refine wpO_of (len24 _ _) ?_
  refine bound_loop l.length l c 0 1 0 .exact _ _ _ ml bl (by omega) hl (by omega) rfl rfl rfl rfl rfl ?_
  intro e' S' c' g0 g2 g3 hS hfr
  rw [List.drop_zero, Nat.zero_add] at hS
  have hS0 : S'[0]? = some (.cells [y32.zero] true) := (hfr 0 (by decide) (by decide)).trans rfl
  have g0' : e' 0 = .vsl (Is l) c := g0
  have g2' : e' 2 = .optr 0 0 0 := g2
  have hsum := sumA_le bl
  have hsum2 : sumA l ≤ 65000 := by
    have : 5000 * l.length ≤ 5000 * 13 := Nat.mul_le_mul_left _ hl
    omega
  have hpow : 2 ^ (l.length - 1) ≤ 4096 := by
    have : 2 ^ (l.length - 1) ≤ 2 ^ 12 := Nat.pow_le_pow_right (by decide) (by omega)
    exact this
  refine K8_0e0_ok ?_
  unfold TK8_0e0
  rw [g0', g2', g3]
  refine call_pure rfl rfl (root_hit (v := .agg [.bool false, .vsl [.int .u32 2] .loose]) rfl ?_)
  refine wpO_of (len24 _ _) ?_
  refine wpO_of b_sub ?_
  refine wpO_of max_2 ?_
  have em : max (wrapS .i64 ((l.length : Int) - 1)) 0 = ((l.length - 1 : Nat) : Int) := by rw [wrap64 (by omega) (by omega)]; omega
  rw [em]
  refine call_pure rfl rfl (c37 (by omega) ?_)
  refine wpO_of rfl (wpO_of rfl ?_)
  generalize 2 ^ (l.length - 1) = P at hpow h ⊢
  refine wpO_of alloc_32 ?_
  refine wpO_of (store_I at_new rfl) ?_
  refine wpO_of (load_I (at_ne (at_app hS) (Ne.symm (Nat.ne_of_lt (at_lt hS))))) ?_
  refine wpO_of (load_I (at_eq at_new)) ?_
  have hmul : ((sumA l : Nat) : Int) * ((P : Nat) : Int) = ((sumA l * P : Nat) : Int) := by simp
  refine call_pure rfl rfl (c38 (by have := wd_small (z := ((sumA l : Nat) : Int)) (by omega); omega) (by have := wd_small (z := ((P : Nat) : Int)) (by omega); omega) fun c1 hc1 => ?_)
  rw [hmul]
  have h0r := at_ne (j := S'.length) (x := Row.cells [I ((P : Nat) : Int) .loose] true) (at_app (T := [Row.cells [y32.zero] true]) hS0) (Ne.symm (Nat.ne_of_lt (at_lt hS0)))
  refine wpO_of (store_I h0r rfl) ?_
  refine wpO_of (load_I (at_eq h0r)) ?_
  exact h c1

end Go.Proofs

