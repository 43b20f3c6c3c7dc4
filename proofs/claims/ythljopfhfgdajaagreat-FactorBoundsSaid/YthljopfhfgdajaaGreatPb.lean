/-
  Products, quotients; the program's integers.
-/
import Derived.Test.YthljopfhfgdajaaGreatPa
import Derived.Test.YthljopfhfgdajaaGreatShG
import Derived.Test.YthljopfhfgdajaaGreatLay
set_option linter.unusedVariables false
set_option linter.unusedSimpArgs false
/-
  Products, greatest common divisors and quotients of integers, by the reference.
-/
set_option linter.unusedVariables false
set_option maxRecDepth 10000
namespace Go.Proofs
open Go.Sh

theorem val_set {p : List Nat} {j x d : Nat} (h : p[j]? = some x) : val (p.set j d) + 4294967296 ^ j * x = val p + 4294967296 ^ j * d := by
  induction p generalizing j with
  | nil => simp at h
  | cons a r ih =>
    cases j with
    | zero =>
      simp at h
      subst h
      simp [val]
      omega
    | succ j =>
      have := ih (j := j) (by simpa using h)
      simp only [List.set_cons_succ, val, Nat.pow_succ]
      generalize val (r.set j d) = u at this ⊢
      generalize val r = v at this ⊢
      generalize 4294967296 ^ j = P at this ⊢
      grind

theorem mul_lt {x y z c : Nat} (hx : x < 4294967296) (hy : y < 4294967296) (hz : z < 4294967296) (hc : c < 4294967296) : x * y + z + c < 18446744073709551616 := by
  have : x * y ≤ 4294967295 * 4294967295 := Nat.mul_le_mul (by omega) (by omega)
  omega
theorem mul_eq {x y z c : Nat} (hx : x < 4294967296) (hy : y < 4294967296) (hz : z < 4294967296) (hc : c < 4294967296) :
    wrapS .u64 (wrapS .u64 (wrapS .u64 ((x : Int) * (y : Int)) + (z : Int)) + (c : Int)) = ((x * y + z + c : Nat) : Int) := by
  have h : x * y ≤ 4294967295 * 4294967295 := Nat.mul_le_mul (by omega) (by omega)
  have e : (x : Int) * (y : Int) = ((x * y : Nat) : Int) := by simp
  rw [e]
  generalize x * y = t at h ⊢
  rw [wrapU64 (n := (t : Int)) (by omega) (by omega), wrapU64 (n := (t : Int) + z) (by omega) (by omega), wrapU64 (by omega) (by omega)]
  omega
theorem div_lt_base {t : Nat} (h : t < 18446744073709551616) : t / 4294967296 < 4294967296 := by omega
theorem addI {i k : Nat} (h : i + k < 9223372036854775808) : wrapS .i64 ((i : Int) + (k : Int)) = ((i + k : Nat) : Int) := by
  rw [wrap64 (by omega) (by omega)]; omega
theorem succI {i : Nat} (h : i < 9223372036854775807) : wrapS .i64 ((i : Int) + 1) = ((i + 1 : Nat) : Int) := by
  rw [wrap64 (by omega) (by omega)]; omega

theorem mul_inner : ∀ (m : Nat) (a b p : List Nat) (c d : VC) (i k0 r N x V cy : Nat) (e : En) (k : X → En → Store → Prop), k0 + m = b.length → p.length = i + b.length → i + b.length + r = N → Bd b → Bd p → cy < 4294967296 → a[i]? = some x → x < 4294967296 → N < 70368744177664 →
    e 0 = .vsl (u32s a) c → e 1 = .vsl (u32s b) d → e 5 = .osl 0 1 0 N (some N) → e 6 = .int .i64 (i : Int) → e 7 = .int .u64 (cy : Int) → e 8 = .int .i64 (k0 : Int) →
    val p + 4294967296 ^ (i + k0) * cy = V + 4294967296 ^ i * (x * val (b.take k0)) →
    (∀ (p' : List Nat) (cy' : Nat) (e' : En), p'.length = i + b.length → Bd p' → cy' < 4294967296 → val p' + 4294967296 ^ (i + b.length) * cy' = V + 4294967296 ^ i * (x * val b) →
      e' 0 = .vsl (u32s a) c → e' 1 = .vsl (u32s b) d → e' 5 = .osl 0 1 0 N (some N) → e' 6 = .int .i64 (i : Int) → e' 7 = .int .u64 (cy' : Int) → k (.exit 2) e' [.cells (u32s (p' ++ List.replicate r 0)) true]) →
    DenP cfgT 69 (.loop L72_1) e [.cells (u32s (p ++ List.replicate r 0)) true] k := by
  intro m
  induction m with
  | zero =>
    intro a b p c d i k0 r N x V cy e k hm hp hN hb hbp hcy hax hx hs h0 h1 h5 h6 h7 h8 hv hk
    refine L72_1_ok ?_
    unfold TL72_1
    simp only [h1, h8, len30, b_lss, wpO_sm]
    refine condP_dec (fun h => by omega) (fun _ => ?_)
    have hk0 : k0 = b.length := by omega
    rw [hk0, List.take_length] at hv
    exact hk p cy _ hp hbp hcy hv h0 h1 h5 h6 h7
  | succ m ih =>
    intro a b p c d i k0 r N x V cy e k hm hp hN hb hbp hcy hax hx hs h0 h1 h5 h6 h7 h8 hv hk
    refine L72_1_ok ?_
    unfold TL72_1
    simp only [h1, h8, len30, b_lss, wpO_sm]
    refine condP_dec (fun _ => ?_) (fun h => absurd (by omega) h)
    obtain ⟨y, hby⟩ : ∃ y, b[k0]? = some y := ⟨b[k0]'(by omega), by simp⟩
    obtain ⟨z, hpz⟩ : ∃ z, p[i + k0]? = some z := ⟨p[i + k0]'(by omega), by simp⟩
    have hy := hb.get hby
    have hz := hbp.get hpz
    simp only [h0, h5, h6, h7, idx30 hax, idx30 hby, load108, conv51 hx, conv51 hy, b_mul, b_add, wpO_sm]
    rw [addI (by omega)]
    have hrow : (u32s (p ++ List.replicate r 0))[i + k0]? = some (.int .u32 (z : Int)) := u32s_get (by rw [List.getElem?_append_left (by omega)]; exact hpz)
    refine wpO_of (idx_osl (j := y108) rfl rfl (by decide) (by omega) rfl) ?_
    rw [Nat.zero_add]
    refine wpO_of (load_row (es := u32s (p ++ List.replicate r 0)) rfl hrow) ?_
    refine wpO_of (conv51 hz) ?_
    simp only [b_add, wpO_sm]
    rw [mul_eq hx hy hz hcy]
    have hlt := mul_lt hx hy hz hcy
    have hvt := val_take_succ b k0
    rw [hby] at hvt
    simp only [Option.getD_some] at hvt
    have hdm := Nat.div_add_mod (x * y + z + cy) 4294967296
    have hnew : val (p.set (i + k0) ((x * y + z + cy) % 4294967296)) + 4294967296 ^ (i + (k0 + 1)) * ((x * y + z + cy) / 4294967296) = V + 4294967296 ^ i * (x * val (b.take (k0 + 1))) := by
      have hs := val_set (d := (x * y + z + cy) % 4294967296) hpz
      rw [hvt, ← Nat.add_assoc, Nat.pow_succ]
      rw [Nat.pow_add] at hs hv ⊢
      generalize (x * y + z + cy) / 4294967296 = q at hdm ⊢
      generalize (x * y + z + cy) % 4294967296 = w at hdm hs ⊢
      generalize val (p.set (i + k0) w) = s1 at hs ⊢
      generalize val p = s0 at hs hv
      generalize val (b.take k0) = s2 at hv ⊢
      generalize 4294967296 ^ i = P at hs hv ⊢
      generalize 4294967296 ^ k0 = R at hs hv ⊢
      clear hlt hrow hpz hby hvt
      grind
    clear hdm
    generalize x * y + z + cy = t at hlt hnew ⊢
    refine wpO_of (b_rem (by decide)) ?_
    refine wpO_of (conv_int rfl rfl) ?_
    rw [lowW hlt]
    refine wpO_of (idx_osl (j := y108) rfl rfl (by decide) (by omega) rfl) ?_
    rw [Nat.zero_add]
    refine wpO_of (store_row (es := u32s (p ++ List.replicate r 0)) rfl hrow rfl rfl rfl) ?_
    rw [u32s_set, List.set_append_left _ _ (by omega)]
    refine wpO_of (b_quo (by decide)) ?_
    rw [highW hlt, succI (by omega)]
    refine ih a b (p.set (i + k0) (t % 4294967296)) c d i (k0 + 1) r N x V (t / 4294967296) _ k (by omega) (by rw [List.length_set]; exact hp) hN hb ?_ (div_lt_base hlt) hax hx hs h0 h1 h5 h6 rfl rfl hnew hk
    intro u hu
    rcases List.mem_or_eq_of_mem_set hu with hu | rfl
    · exact hbp u hu
    · exact Nat.mod_lt _ (by decide)

theorem mul_outer : ∀ (r : Nat) (a b p : List Nat) (c d : VC) (i N : Nat) (e : En) (k : X → En → Store → Prop), i + r = a.length → p.length = i + b.length → a.length + b.length = N → Bd a → Bd b → Bd p → N < 70368744177664 →
    e 0 = .vsl (u32s a) c → e 1 = .vsl (u32s b) d → e 5 = .osl 0 1 0 N (some N) → e 6 = .int .i64 (i : Int) →
    val p = val (a.take i) * val b →
    (∀ (p' : List Nat) (e' : En), p'.length = N → Bd p' → val p' = val a * val b → e' 5 = .osl 0 1 0 N (some N) → k (.exit 0) e' [.cells (u32s p') true]) →
    DenP cfgT 69 (.loop L72_0) e [.cells (u32s (p ++ List.replicate r 0)) true] k := by
  intro r
  induction r with
  | zero =>
    intro a b p c d i N e k hr hp hN ha hb hbp hs h0 h1 h5 h6 hv hk
    refine L72_0_ok ?_
    unfold TL72_0
    simp only [h0, h6, len30, b_lss, wpO_sm]
    refine condP_dec (fun h => by omega) (fun _ => ?_)
    have hi : i = a.length := by omega
    rw [hi, List.take_length] at hv
    rw [List.replicate_zero, List.append_nil]
    exact hk p _ (by omega) hbp hv h5
  | succ r ih =>
    intro a b p c d i N e k hr hp hN ha hb hbp hs h0 h1 h5 h6 hv hk
    refine L72_0_ok ?_
    unfold TL72_0
    simp only [h0, h6, len30, b_lss, wpO_sm]
    refine condP_dec (fun _ => ?_) (fun h => absurd (by omega) h)
    obtain ⟨x, hax⟩ : ∃ x, a[i]? = some x := ⟨a[i]'(by omega), by simp⟩
    have hx := ha.get hax
    refine mul_inner b.length a b p c d i 0 (r + 1) N x (val p) 0 _ _ (by omega) hp (by omega) hb hbp (by decide) hax hx hs h0 h1 h5 h6 rfl rfl (by simp [val]) ?_
    intro p' cy' e' hp' hbp' hcy' hv' g0 g1 g5 g6 g7
    refine K72_1e2_ok ?_
    unfold TK72_1e2
    simp only [g1, g5, g6, g7, len30, b_add, wpO_sm]
    rw [addI (by omega)]
    refine wpO_of (conv_int rfl rfl) ?_
    have e3 : wrapS .u32 (cy' : Int) = (cy' : Int) := wrapU32 (Int.natCast_nonneg _) (by exact Int.ofNat_lt.2 hcy')
    rw [e3]
    refine wpO_of (idx_osl (j := y108) rfl rfl (by decide) (by omega) rfl) ?_
    rw [Nat.zero_add, ← hp']
    refine wpO_of (store_row (es := u32s (p' ++ List.replicate (r + 1) 0)) (e := .int .u32 0) rfl (by rw [show (0 : Int) = ((0 : Nat) : Int) from rfl]; exact u32s_get (by rw [List.getElem?_append_right (Nat.le_refl _)]; simp)) rfl rfl rfl) ?_
    rw [u32s_set, row_set, succI (by omega)]
    refine ih a b (p' ++ [cy']) c d (i + 1) N _ k (by omega) (by rw [List.length_append, hp']; simp; omega) hN ha hb (hbp'.snoc hcy') hs g0 g1 g5 rfl ?_ hk
    have hvt := val_take_succ a i
    rw [hax] at hvt
    simp only [Option.getD_some] at hvt
    rw [val_snoc, hvt, hp', hv', hv]
    grind

theorem c72 {a b : Nat} {c d : VC} {Q : SV → Prop} (ha : (encN a).length < 8796093022207) (hb : (encN b).length < 8796093022207) (h : ∀ c', (c' = .nil → a * b = 0) → Q (.vsl (u32s (encN (a * b))) c')) : wpO (pureW cfgT 72 [.vsl (u32s (encN a)) c, .vsl (u32s (encN b)) d]) Q := by
  refine pureP_of rfl (F72_ok (k := fun v S => wpO (frz S depthS v) Q) ?_)
  unfold F72
  simp only [len30, b_add, wpO_sm]
  rw [addI (by omega)]
  generalize hn : (encN a).length + (encN b).length = n
  refine wpO_of (mksl_ok (j := y108) (by decide) rfl (by unfold roomS; omega) (by unfold roomS; show n * 4 ≤ _; omega)) ?_
  show DenP cfgT 69 (.loop L72_0) _ [.cells (List.replicate n (SV.int .u32 0)) true] _
  have hsplit : u32s (List.replicate n 0) = u32s (List.replicate (encN b).length 0 ++ List.replicate (encN a).length 0) := by
    rw [List.replicate_append_replicate]; congr 2; omega
  rw [u32s_zeros, hsplit]
  refine mul_outer (encN a).length (encN a) (encN b) (List.replicate (encN b).length 0) c d 0 n _ _ (by omega) (by simp) hn (encN_bd a) (encN_bd b) (fun u hu => by rw [(List.mem_replicate.1 hu).2]; decide) (by omega) rfl rfl rfl rfl (by rw [val_zeros]; simp [val]) ?_
  intro p' e' hl hbp hv h5
  rw [encN_val, encN_val] at hv
  refine K72_0e0_ok ?_
  unfold TK72_0e0
  rw [h5]
  refine call_row (es := u32s p') rfl rfl (by simp [hl]) u32s_pure ?_
  refine c82 hbp (by omega) capM fun c' hc' => ?_
  rw [hv] at hc' ⊢
  exact h c' hc'

theorem wd_mul {a b m n : Nat} (ha : (encN a).length ≤ m) (hb : (encN b).length ≤ n) : (encN (a * b)).length ≤ m + n := by
  refine enc_len_le ?_
  have h1 : a < 4294967296 ^ m := Nat.lt_of_lt_of_le enc_lt (Nat.pow_le_pow_right (by decide) ha)
  have h2 : b < 4294967296 ^ n := Nat.lt_of_lt_of_le enc_lt (Nat.pow_le_pow_right (by decide) hb)
  rw [Nat.pow_add]
  exact Nat.mul_lt_mul'' h1 h2

theorem natAbs_mul_sign {z w : Int} : z * w = if ((decide (z < 0)) != (decide (w < 0))) = true then -((z.natAbs * w.natAbs : Nat) : Int) else ((z.natAbs * w.natAbs : Nat) : Int) := by
  rw [← Int.natAbs_mul]
  by_cases h1 : z < 0 <;> by_cases h2 : w < 0
  · have := Int.mul_pos_of_neg_of_neg h1 h2
    simp [h1, h2]; omega
  · have : z * w ≤ 0 := Int.mul_nonpos_of_nonpos_of_nonneg (by omega) (by omega)
    simp [h1, h2]; omega
  · have : z * w ≤ 0 := Int.mul_nonpos_of_nonneg_of_nonpos (by omega) (by omega)
    simp [h1, h2]; omega
  · have : 0 ≤ z * w := Int.mul_nonneg (by omega) (by omega)
    simp [h1, h2]; omega

theorem c26 {z w : Int} {c d : VC} {Q : SV → Prop} (hz : wd z < 8796093022207) (hw : wd w < 8796093022207) (h : ∀ c', (c' = .nil → z * w = 0) → Q (I (z * w) c')) : wpO (pureW cfgT 26 [I z c, I w d]) Q := by
  refine pureP_of rfl (F26_ok (k := fun v S => wpO (frz S depthS v) Q) ?_)
  unfold F26
  unfold wd at hz hw
  unfold I
  iterate 7 refine wpO_of rfl ?_
  refine wpO_of (b_bne rfl) ?_
  iterate 4 refine wpO_of rfl ?_
  refine call_pure rfl rfl (c72 hz hw fun c1 hc1 => ?_)
  have hm := wd_mul (Nat.le_of_lt hz) (Nat.le_of_lt hw)
  refine call_pure rfl rfl (made_enc (z := z * w) (by omega) natAbs_mul_sign hc1 fun c2 hc2 => ?_)
  iterate 2 refine wpO_of rfl ?_
  exact h c2 hc2

theorem c24 {z w : Int} {c d : VC} {Q : SV → Prop} (hz : z.natAbs < 18446744073709551616) (hw : w.natAbs < 18446744073709551616) (hc : c = .nil → z = 0) (h : ∀ c', (c' = .nil → ((Nat.gcd z.natAbs w.natAbs : Nat) : Int) = 0) → Q (I ((Nat.gcd z.natAbs w.natAbs : Nat) : Int) c')) : wpO (pureW cfgT 24 [I z c, I w d]) Q := by
  refine pureP_of rfl (F24_ok (k := fun v S => wpO (frz S depthS v) Q) ?_)
  unfold F24
  unfold I
  iterate 7 refine wpO_of rfl ?_
  refine call_pure rfl rfl (c68 hz hw (fun e => by rw [hc e]; rfl) fun c1 hc1 => ?_)
  have hg : (encN (Nat.gcd z.natAbs w.natAbs)).length < 9223372036854775808 := by
    have hp : (4294967296 : Nat) ^ 2 = 18446744073709551616 := by decide
    have hl : Nat.gcd z.natAbs w.natAbs < 4294967296 ^ 2 := by
      rw [hp]
      rcases Nat.eq_zero_or_pos w.natAbs with h0 | h0
      · rw [h0, Nat.gcd_zero_right]; exact hz
      · exact Nat.lt_of_le_of_lt (Nat.gcd_le_right _ h0) hw
    exact Nat.lt_of_le_of_lt (enc_len_le hl) (by decide)
  refine call_pure rfl rfl (made_enc (z := ((Nat.gcd z.natAbs w.natAbs : Nat) : Int)) hg rfl hc1 fun c2 hc2 => ?_)
  iterate 2 refine wpO_of rfl ?_
  exact h c2 hc2

end Go.Proofs

/-
  Quotients of integers, by the reference, where the divisor has one word.
-/
set_option linter.unusedVariables false
set_option maxRecDepth 10000
namespace Go.Proofs
open Go.Sh

theorem ediv_of {z w q r : Int} (h : z = w * q + r) (h0 : 0 ≤ r) (h1 : r < w.natAbs) : z / w = q ∧ z % w = r := by
  rcases Int.lt_trichotomy w 0 with hw | hw | hw
  · have := (Int.ediv_emod_unique (a := z) (b := -w) (q := -q) (r := r) (by omega)).2 ⟨by rw [Int.neg_mul_neg]; omega, h0, by omega⟩
    rw [Int.ediv_neg, Int.emod_neg] at this
    exact ⟨by omega, this.2⟩
  · subst hw; simp at h1; omega
  · exact (Int.ediv_emod_unique (a := z) (b := w) (q := q) (r := r) hw).2 ⟨by omega, h0, by omega⟩

theorem enc_one : encN 1 = [1] := rfl

theorem div_sign {z w : Int} (hw : w ≠ 0) (hr : z < 0 → z.natAbs % w.natAbs = 0) :
    z / w = (if ((decide (z < 0)) != (decide (w < 0))) = true then -((z.natAbs / w.natAbs : Nat) : Int) else ((z.natAbs / w.natAbs : Nat) : Int)) ∧ z % w = ((z.natAbs % w.natAbs : Nat) : Int) := by
  have hdm := Nat.div_add_mod z.natAbs w.natAbs
  have hlt := Nat.mod_lt z.natAbs (show 0 < w.natAbs by omega)
  generalize z.natAbs / w.natAbs = m at hdm ⊢
  generalize z.natAbs % w.natAbs = r at hdm hlt hr ⊢
  refine ediv_of ?_ (by omega) (by omega)
  have hdm2 : ((w.natAbs : Nat) : Int) * (m : Int) + (r : Int) = ((z.natAbs : Nat) : Int) := by rw [← hdm]; simp
  by_cases h1 : z < 0 <;> by_cases h2 : w < 0
  · have := hr h1
    subst this
    have e1 : ((w.natAbs : Nat) : Int) = -w := by omega
    have e2 : ((z.natAbs : Nat) : Int) = -z := by omega
    rw [e1, e2] at hdm2
    simp [h1, h2]
    grind
  · have := hr h1
    subst this
    have e1 : ((w.natAbs : Nat) : Int) = w := by omega
    have e2 : ((z.natAbs : Nat) : Int) = -z := by omega
    rw [e1, e2] at hdm2
    simp [h1, h2]
    grind
  · have e1 : ((w.natAbs : Nat) : Int) = -w := by omega
    have e2 : ((z.natAbs : Nat) : Int) = z := by omega
    rw [e1, e2] at hdm2
    simp [h1, h2]
    grind
  · have e1 : ((w.natAbs : Nat) : Int) = w := by omega
    have e2 : ((z.natAbs : Nat) : Int) = z := by omega
    rw [e1, e2] at hdm2
    simp [h1, h2]
    grind

theorem div_sign2 {z w : Int} (hw : w ≠ 0) (hz : z < 0) (hr : 0 < z.natAbs % w.natAbs) :
    z / w = (if ((decide (z < 0)) != (decide (w < 0))) = true then -((z.natAbs / w.natAbs + 1 : Nat) : Int) else ((z.natAbs / w.natAbs + 1 : Nat) : Int)) ∧ z % w = ((w.natAbs - z.natAbs % w.natAbs : Nat) : Int) := by
  have hdm := Nat.div_add_mod z.natAbs w.natAbs
  have hlt := Nat.mod_lt z.natAbs (show 0 < w.natAbs by omega)
  generalize z.natAbs / w.natAbs = m at hdm ⊢
  generalize z.natAbs % w.natAbs = r at hdm hlt hr ⊢
  refine ediv_of ?_ (by omega) (by omega)
  have hdm2 : ((w.natAbs : Nat) : Int) * (m : Int) + (r : Int) = ((z.natAbs : Nat) : Int) := by rw [← hdm]; simp
  have er : ((w.natAbs - r : Nat) : Int) = ((w.natAbs : Nat) : Int) - (r : Int) := by omega
  rw [er]
  have e2 : ((z.natAbs : Nat) : Int) = -z := by omega
  by_cases h2 : w < 0
  · have e1 : ((w.natAbs : Nat) : Int) = -w := by omega
    rw [e1, e2] at hdm2
    rw [e1]
    simp [hz, h2]
    grind
  · have e1 : ((w.natAbs : Nat) : Int) = w := by omega
    rw [e1, e2] at hdm2
    rw [e1]
    simp [hz, h2]
    grind

theorem c25 {z w : Int} {c d : VC} {Q : SV → Prop} (hw0 : w ≠ 0) (hw : w.natAbs < 4294967296) (hz : wd z < 17592186044414) (hcz : c = .nil → z = 0) (h : ∀ c1 c2, (c1 = .nil → z / w = 0) → (c2 = .nil → z % w = 0) → Q (.tup [I (z / w) c1, I (z % w) c2, .int .i64 0])) : wpO (pureW cfgT 25 [I z c, I w d]) Q := by
  refine pureP_of rfl (F25_ok (k := fun v S => wpO (frz S depthS v) Q) ?_)
  unfold F25
  unfold wd at hz
  have hlb : (encN w.natAbs).length ≤ 1 := enc_len_le (by rw [Nat.pow_one]; exact hw)
  have hlb0 : 0 < (encN w.natAbs).length := enc_len_pos.2 (by omega)
  have hq := enc_len_mono (Nat.div_le_self z.natAbs w.natAbs)
  have hrl : (encN (z.natAbs % w.natAbs)).length ≤ 1 := enc_len_le (by rw [Nat.pow_one]; exact Nat.lt_trans (Nat.mod_lt _ (by omega)) hw)
  have hrlt := Nat.mod_lt z.natAbs (show 0 < w.natAbs by omega)
  by_cases h1 : z < 0
  · rw [I_neg h1]
    unfold I at *
    iterate 6 refine wpO_of rfl ?_
    refine wpO_of (len30 _ _) ?_
    refine wpO_of b_eql ?_
    refine condP_b (fun hc => ?_) (fun hc => ?_)
    · have := of_decide_eq_true hc; omega
    iterate 4 refine wpO_of rfl ?_
    refine call_pure rfl rfl (c69 (by omega) (.inl hw) (by omega) (by omega) (fun e => by rw [hcz e]; rfl) fun c1 c2 hc1 hc2 => ?_)
    iterate 4 refine wpO_of rfl ?_
    refine grdT rfl (grdT rfl (wpO_of (len30 _ _) (grdT rfl (wpO_of b_gtr (wpO_of (pickS_t) ?_)))))
    refine condP_b (fun hc => ?_) (fun hc => ?_)
    · have hpos : 0 < z.natAbs % w.natAbs := enc_len_pos.1 (by have := of_decide_eq_true hc; omega)
      obtain ⟨hd1, hd2⟩ := div_sign2 hw0 h1 hpos
      refine wpO_of rfl ?_
      have hadd := wd_add (a := z.natAbs / w.natAbs) (b := 1) (n := 17592186044413) (by omega) (by rw [enc_one]; decide)
      have hsub := enc_len_mono (Nat.sub_le w.natAbs (z.natAbs % w.natAbs))
      refine call_frz rfl rfl (c70 (a := z.natAbs / w.natAbs) (b := 1) (c := c1) (by omega) (by rw [enc_one]; decide) fun c3 hc3 => ?_)
      iterate 2 refine wpO_of rfl ?_
      refine call_pure rfl rfl (c71 (a := w.natAbs) (b := z.natAbs % w.natAbs) (Nat.le_of_lt hrlt) (by omega) fun c4 hc4 => ?_)
      iterate 4 refine wpO_of rfl ?_
      refine wpO_of (b_bne rfl) ?_
      rw [decide_eq_true h1] at hd1
      refine call_pure rfl rfl (made_enc (z := z / w) (by omega) hd1 hc3 fun c5 hc5 => ?_)
      refine call_pure rfl rfl (made_enc (z := z % w) (by omega) hd2 hc4 fun c6 hc6 => ?_)
      iterate 4 refine wpO_of rfl ?_
      exact h c5 c6 hc5 hc6
    · have hzero : z.natAbs % w.natAbs = 0 := by
        rcases Nat.eq_zero_or_pos (z.natAbs % w.natAbs) with h0 | h0
        · exact h0
        · have h2 := of_decide_eq_false hc
          have := enc_len_pos.2 h0; omega
      obtain ⟨hd1, hd2⟩ := div_sign hw0 (fun _ => hzero)
      rw [decide_eq_true h1] at hd1
      iterate 4 refine wpO_of rfl ?_
      refine wpO_of (b_bne rfl) ?_
      refine call_pure rfl rfl (made_enc (z := z / w) (by omega) hd1 hc1 fun c5 hc5 => ?_)
      refine call_pure rfl rfl (made_enc (z := z % w) (by omega) hd2 hc2 fun c6 hc6 => ?_)
      iterate 4 refine wpO_of rfl ?_
      exact h c5 c6 hc5 hc6
  · rw [I_pos h1]
    unfold I at *
    iterate 6 refine wpO_of rfl ?_
    refine wpO_of (len30 _ _) ?_
    refine wpO_of b_eql ?_
    refine condP_b (fun hc => ?_) (fun hc => ?_)
    · have := of_decide_eq_true hc; omega
    iterate 4 refine wpO_of rfl ?_
    refine call_pure rfl rfl (c69 (by omega) (.inl hw) (by omega) (by omega) (fun e => by rw [hcz e]; rfl) fun c1 c2 hc1 hc2 => ?_)
    iterate 4 refine wpO_of rfl ?_
    refine grdF rfl (grdF rfl (grdF rfl (wpO_of pickS_f (cndF rfl ?_))))
    obtain ⟨hd1, hd2⟩ := div_sign hw0 (fun h => absurd h h1)
    rw [decide_eq_false h1] at hd1
    iterate 4 refine wpO_of rfl ?_
    refine wpO_of (b_bne rfl) ?_
    refine call_pure rfl rfl (made_enc (z := z / w) (by omega) hd1 hc1 fun c5 hc5 => ?_)
    refine call_pure rfl rfl (made_enc (z := z % w) (by omega) hd2 hc2 fun c6 hc6 => ?_)
    iterate 4 refine wpO_of rfl ?_
    exact h c5 c6 hc5 hc6
end Go.Proofs

/-
  The program's integers: signs, sums of numbers that are not negative, products.
-/
set_option linter.unusedVariables false
set_option maxRecDepth 10000
namespace Go.Proofs
open Go.Sh

theorem len115 (l : List Nat) (c : VC) : lenS y115 (.vsl (u32s l) c) = some (.int .i64 (l.length : Int)) := by rw [len_vsl rfl, u32s_len]
theorem idx115 {l : List Nat} {c : VC} {i d : Nat} (h : l[i]? = some d) : indexAddrS cfgT y115 (.vsl (u32s l) c) (.int .i64 (i : Int)) = some (.vptr (.int .u32 (d : Int))) := idx_vsl rfl rfl (by decide) (u32s_get h) rfl

theorem norm_loop : ∀ (m : Nat) (l : List Nat) (c : VC) (e : En) (k : X → En → Store → Prop), e 0 = .vsl (u32s l) c → e 3 = .int .i64 (m : Int) → m ≤ l.length → m < 9223372036854775808 →
    (∀ e' : En, e' 0 = .vsl (u32s l) c → e' 3 = .int .i64 ((trimL (l.take m)).length : Int) → k (.exit 0) e' []) → DenP cfgT 22 (.loop L117_0) e [] k := by
  intro m
  induction m with
  | zero =>
    intro l c e k h0 h3 hm hs hk
    refine L117_0_ok ?_
    unfold TL117_0
    simp only [h0, h3]
    simp
    exact hk _ h0 h3
  | succ m ih =>
    intro l c e k h0 h3 hm hs hk
    obtain ⟨d, hd⟩ : ∃ d, l[m]? = some d := ⟨l[m], by simp⟩
    have ht : l.take (m + 1) = l.take m ++ [d] := by rw [List.take_add_one, hd]; rfl
    rw [ht, trimL_snoc] at hk
    refine L117_0_ok ?_
    unfold TL117_0
    simp only [h0, h3]
    have e2 : indexAddrS cfgT y115 (.vsl (u32s l) c) (.int .i64 (m : Int)) = some (.vptr (.int .u32 (d : Int))) := idx115 hd
    have e4 : (0 : Int) < (m : Int) + 1 := by omega
    by_cases hz : d = 0
    · subst hz
      simp (disch := omega) [wrap64, e2, load108, e4]
      refine ih l c _ k h0 rfl (by omega) (by omega) (fun e' a b => hk e' a ?_)
      rw [if_pos rfl]; exact b
    · simp (disch := omega) [wrap64, e2, load108, e4, hz]
      refine hk _ h0 ?_
      rw [if_neg hz]
      refine h3.trans ?_
      simp
      omega

theorem slic_v3 {j : TyI} {es : List SV} {c : VC} {k k' : IntKind} {n : Nat} (hj : j.size ≠ 0) (hs : sizeIs j.size (.vsl es c) = true) (hn : n ≤ es.length) : ∃ c', (c' = .nil → c = .nil) ∧ slicS j (.vsl es c) none (some (.int k (n : Int))) (some (.int k' (n : Int))) = some (.vsl (es.take n) c') := by
  refine ⟨(match c with | .nil => .nil | _ => if n = n then .exact else .loose), by cases c <;> simp, ?_⟩
  unfold slicS
  rw [if_neg hj]
  simp only [optNat, natS, Int.natCast_nonneg, if_true, Int.toNat_natCast, Option.map_some, Option.bind_some, hs, sliceS, Option.getD_none, Option.getD_some]
  rw [if_pos ⟨Nat.zero_le _, hn⟩, if_pos ⟨Nat.le_refl _, hn, rfl⟩]
  simp only [List.drop_zero, Nat.sub_zero]
  cases c <;> rfl

theorem c117 {l : List Nat} {c : VC} {Q : SV → Prop} (hb : Bd l) (hs : l.length < 9223372036854775808) (hc : c = .nil → val l = 0) (h : ∀ c', (c' = .nil → val l = 0) → Q (.vsl (u32s (encN (val l))) c')) : wpO (pureW cfgT 117 [.vsl (u32s l) c]) Q := by
  refine pureP_of rfl (F117_ok (k := fun v S => wpO (frz S depthS v) Q) ?_)
  unfold F117
  refine wpO_of (len_vsl rfl) ?_
  refine norm_loop l.length l c _ _ rfl (by simp [ups, upd]) (Nat.le_refl _) hs ?_
  intro e' h0 h3
  rw [List.take_length] at h3
  refine K117_0e0_ok ?_
  unfold TK117_0e0
  rw [h0, h3]
  obtain ⟨c', hn, he⟩ := slic_v3 (j := y108) (es := u32s l) (c := c) (k := .i64) (k' := .i64) (n := (trimL l).length) (by decide) u32s_size (by simp; exact trimL_le)
  refine wpO_of he ?_
  rw [u32s_take, trimL_take, trimL_enc hb]
  exact h c' (fun e => hc (hn e))

theorem c120 {l : List Nat} {c : VC} {i : Nat} {Q : SV → Prop} (h : Q (.int .u32 ((l[i]?.getD 0 : Nat) : Int))) : wpO (pureW cfgT 120 [.vsl (u32s l) c, .int .i64 (i : Int)]) Q := by
  refine pureP_of rfl (F120_ok (k := fun v S => wpO (frz S depthS v) Q) ?_)
  unfold F120
  simp only [len115, b_lss, wpO_sm]
  refine condP_dec (fun hi => ?_) (fun hi => ?_)
  · obtain ⟨d, hd⟩ : ∃ d, l[i]? = some d := ⟨l[i]'(by omega), by simp⟩
    rw [hd] at h
    refine wpO_of (idx115 hd) ?_
    refine wpO_of rfl ?_
    exact h
  · have : l[i]? = none := by rw [List.getElem?_eq_none_iff]; omega
    rw [this] at h
    exact h

theorem shr32 {u : Option TyI} {t : Nat} : binS .shr u (.int .u64 (t : Int)) (.int .u64 32) = some (.int .u64 ((t / 4294967296 : Nat) : Int)) := by
  have h := b_shr (u := u) (k := .u64) (k' := .u64) (a := (t : Int)) (n := 32) (by decide)
  refine Eq.trans h ?_
  rw [show (2 : Int) ^ 32 = 4294967296 from rfl, Int.fdiv_eq_ediv_of_nonneg _ (by omega)]
  congr 2

theorem c119 {x y c : Nat} {Q : SV → Prop} (hx : x < 4294967296) (hy : y < 4294967296) (hc : c ≤ 1) (h : Q (.tup [.int .u32 (((x + y + c) % 4294967296 : Nat) : Int), .int .u32 (((x + y + c) / 4294967296 : Nat) : Int)])) :
    wpO (pureW cfgT 119 [.int .u32 (x : Int), .int .u32 (y : Int), .int .u32 (c : Int)]) Q := by
  refine pureP_of rfl (F119_ok (k := fun v S => wpO (frz S depthS v) Q) ?_)
  unfold F119
  simp only [conv51 hx, conv51 hy, conv51 (show c < 4294967296 by omega), b_add, wpO_sm]
  rw [wrapU64 (n := (x : Int) + y) (by omega) (by omega), wrapU64 (by omega) (by omega)]
  have et : (x : Int) + y + c = ((x + y + c : Nat) : Int) := by omega
  rw [et, shr32]
  refine wpO_of (conv_int rfl rfl) ?_
  simp only [wpO_sm]
  refine wpO_of (conv_int rfl rfl) ?_
  have e1 : wrapS .u32 ((x + y + c : Nat) : Int) = (((x + y + c) % 4294967296 : Nat) : Int) := by rw [wrapU32m]; omega
  have e2 : wrapS .u32 (((x + y + c) / 4294967296 : Nat) : Int) = (((x + y + c) / 4294967296 : Nat) : Int) := by rw [wrapU32 (by omega) (by omega)]
  rw [e1, e2]
  exact h

theorem nadd_loop : ∀ (m : Nat) (a b o : List Nat) (c d : VC) (n : Nat) (cy : Nat) (e : En) (k : X → En → Store → Prop), o.length + m = n → Bd a → Bd b → Bd o → cy ≤ 1 → n < 70368744177664 → 
    e 0 = .vsl (u32s a) c → e 1 = .vsl (u32s b) d → e 17 = .int .i64 (n : Int) → e 5 = .int .i64 (n : Int) → e 6 = .osl 0 1 0 (n + 1) (some (n + 1)) → e 7 = .int .u32 (cy : Int) → e 18 = .int .i64 (o.length : Int) →
    val o + 4294967296 ^ o.length * cy = val (a.take o.length) + val (b.take o.length) →
    (∀ (o' : List Nat) (cy' : Nat) (e' : En), o'.length = n → Bd o' → cy' ≤ 1 → val o' + 4294967296 ^ n * cy' = val (a.take n) + val (b.take n) → e' 6 = .osl 0 1 0 (n + 1) (some (n + 1)) → e' 5 = .int .i64 (n : Int) → e' 7 = .int .u32 (cy' : Int) → k (.exit 0) e' [.cells (u32s (o' ++ List.replicate 1 0)) true]) →
    DenP cfgT 42 (.loop L77_0) e [.cells (u32s (o ++ List.replicate (m + 1) 0)) true] k := by
  intro m
  induction m with
  | zero =>
    intro a b o c d n cy e k hn ha hb ho hc hs h0 h1 h17 h5 h6 h7 h18 hv hk
    refine L77_0_ok ?_
    unfold TL77_0
    simp only [h17, h18, b_lss, wpO_sm]
    refine condP_dec (fun h => by omega) (fun _ => ?_)
    have hl : o.length = n := by omega
    rw [hl] at hv
    exact hk o cy _ hl ho hc hv h6 h5 h7
  | succ m ih =>
    intro a b o c d n cy e k hn ha hb ho hc hs h0 h1 h17 h5 h6 h7 h18 hv hk
    refine L77_0_ok ?_
    unfold TL77_0
    simp only [h0, h1, h17, h6, h7, h18, b_lss, wpO_sm]
    refine condP_dec (fun _ => ?_) (fun h => absurd (by omega) h)
    refine call_pure rfl rfl (c120 ?_)
    refine call_pure rfl rfl (c120 ?_)
    have hx := ha.getD o.length
    have hy := hb.getD o.length
    have hvt := val_take_succ a o.length
    have hvu := val_take_succ b o.length
    generalize a[o.length]?.getD 0 = x at hx hvt ⊢
    generalize b[o.length]?.getD 0 = y at hy hvu ⊢
    refine call_pure rfl rfl (c119 hx hy hc ?_)
    refine wpO_of rfl (wpO_of rfl ?_)
    refine wpO_of (idx_osl (j := y108) rfl rfl (by decide) (by omega) rfl) ?_
    rw [Nat.zero_add]
    refine wpO_of (store_row (es := u32s (o ++ List.replicate (m + 1 + 1) 0)) (e := .int .u32 0) rfl (by rw [show (0 : Int) = ((0 : Nat) : Int) from rfl]; exact u32s_get (by rw [List.getElem?_append_right (Nat.le_refl _)]; simp)) rfl rfl rfl) ?_
    rw [u32s_set, row_set]
    refine wpO_of b_add ?_
    rw [succI (by omega)]
    have hlen : (o ++ [(x + y + cy) % 4294967296]).length = o.length + 1 := by simp
    refine ih a b (o ++ [(x + y + cy) % 4294967296]) c d n ((x + y + cy) / 4294967296) _ k (by rw [hlen]; omega) ha hb (ho.snoc (Nat.mod_lt _ (by decide))) (carry_le hx hy hc) hs h0 h1 h17 h5 h6 rfl (by rw [hlen]; rfl) ?_ hk
    rw [hlen, val_snoc, hvt, hvu, Nat.pow_succ]
    have hdm := Nat.div_add_mod (x + y + cy) 4294967296
    generalize (x + y + cy) / 4294967296 = q at hdm ⊢
    generalize (x + y + cy) % 4294967296 = r at hdm ⊢
    generalize 4294967296 ^ o.length = P at hv ⊢
    grind

theorem c77 {a b : Nat} {c d : VC} {Q : SV → Prop} (ha : (encN a).length < 17592186044415) (hb : (encN b).length < 17592186044415) (h : ∀ c', (c' = .nil → a + b = 0) → Q (.vsl (u32s (encN (a + b))) c')) : wpO (pureW cfgT 77 [.vsl (u32s (encN a)) c, .vsl (u32s (encN b)) d]) Q := by
  refine pureP_of rfl (F77_ok (k := fun v S => wpO (frz S depthS v) Q) ?_)
  unfold F77
  simp only [len115, max_2, b_add, wpO_sm]
  have em : max ((encN a).length : Int) ((encN b).length : Int) = ((max (encN a).length (encN b).length : Nat) : Int) := by omega
  rw [em]
  generalize hn : max (encN a).length (encN b).length = n
  rw [succI (by omega)]
  refine wpO_of (mksl_ok (j := y108) (by decide) rfl (by unfold roomS; omega) (by unfold roomS; show (n + 1) * 4 ≤ _; omega)) ?_
  show DenP cfgT 42 (.loop L77_0) _ [.cells (List.replicate (n + 1) (SV.int .u32 0)) true] _
  rw [u32s_zeros]
  refine nadd_loop n (encN a) (encN b) [] c d n 0 _ _ (by simp) (encN_bd a) (encN_bd b) Bd.nil (by omega) (by omega) rfl rfl rfl rfl rfl rfl rfl (by simp [val]) ?_
  intro o' cy' e' hl hbo hcy hv h6 h5 h7
  rw [val_take_ge (by omega), val_take_ge (by omega), encN_val, encN_val] at hv
  refine K77_0e0_ok ?_
  unfold TK77_0e0
  simp only [h6, h5, h7]
  refine wpO_of (idx_osl (j := y108) rfl rfl (by decide) (by omega) rfl) ?_
  rw [Nat.zero_add, ← hl]
  refine wpO_of (store_row (es := u32s (o' ++ List.replicate 1 0)) (e := .int .u32 0) rfl (by rw [show (0 : Int) = ((0 : Nat) : Int) from rfl]; exact u32s_get (by rw [List.getElem?_append_right (Nat.le_refl _)]; simp)) rfl rfl rfl) ?_
  rw [u32s_set, row_set (n := 0), List.replicate_zero, List.append_nil]
  refine call_row (es := u32s (o' ++ [cy'])) rfl rfl (by simp) u32s_pure ?_
  refine c117 (hbo.snoc (by omega)) (by simp; omega) capM fun c' hc' => ?_
  rw [val_snoc, hl, hv] at hc' ⊢
  exact h c' hc'

theorem c34 {z : Int} {c : VC} {Q : SV → Prop} (h : Q (.int .i64 (sgn z))) : wpO (pureW cfgT 34 [I z c]) Q := by
  refine pureP_of rfl (F34_ok (k := fun v S => wpO (frz S depthS v) Q) ?_)
  unfold F34
  by_cases hz : z < 0
  · rw [I_neg hz]
    iterate 3 refine wpO_of rfl ?_
    refine cndT rfl ?_
    have : sgn z = -1 := by unfold sgn; rw [if_pos hz]
    rw [this] at h
    exact h
  · rw [I_pos hz]
    iterate 3 refine wpO_of rfl ?_
    refine cndF rfl ?_
    iterate 2 refine wpO_of rfl ?_
    refine wpO_of (len30 _ _) ?_
    refine wpO_of min_2 ?_
    have : sgn z = min ((encN z.natAbs).length : Int) 1 := by
      unfold sgn
      rw [if_neg hz]
      have := enc_len_pos (n := z.natAbs)
      by_cases h0 : z = 0
      · subst h0; rfl
      · rw [if_neg h0]
        have := this.2 (by omega)
        omega
    rw [this] at h
    exact h

/- ---- a copy that the caller owns ---- -/
theorem call_fresh {cfg : Cfg} {f : FuncId} {args : List SV} {S : Store} {k : SV × Store → Prop} (hm : cfg.mode f = .fresh) (hp : args.all pureS = true) (h : wpO (bodyW cfg f args []) fun p => wpO (freshO p) fun r => k (freshIn S args r)) : wpO (callW cfg f args S) k := by
  rw [callW_eq, hm]
  obtain ⟨h1, h2⟩ := frz_all (S := S) hp
  simp only [h1, Option.bind_some]
  rw [freshW_eq]
  rw [wpO_iff] at h ⊢
  obtain ⟨p, hb, h⟩ := h
  rw [wpO_iff] at h
  obtain ⟨r, hr, h⟩ := h
  exact ⟨_, by rw [hb]; simp only [Option.bind_some]; rw [hr]; rfl, h⟩

theorem c118 {l : List Nat} {c : VC} {S : Store} {k : SV × Store → Prop} (hl : l.length < 17592186044415) (hc : c = .nil → l = [])
    (h0 : l = [] → k (.vsl [] .nil, S)) (h1 : l = [] → k (.osl S.length 1 0 0 (some 0), S ++ [.cells [] true])) (h2 : l ≠ [] → k (.osl S.length 1 0 l.length none, S ++ [.cells (u32s l) true])) : wpO (callW cfgT 118 [.vsl (u32s l) c] S) k := by
  refine call_fresh rfl rfl (F118_ok (k := fun v S' => wpO (freshO (v, S')) fun r => k (freshIn S [.vsl (u32s l) c] r)) ?_)
  unfold F118
  cases c with
  | nil =>
    have := hc rfl
    subst this
    refine wpO_of rfl (cndT rfl ?_)
    exact h0 rfl
  | _ =>
    refine wpO_of rfl (cndF rfl ?_)
    refine wpO_of rfl ?_
    cases l with
    | nil =>
      refine wpO_of rfl ?_
      exact h1 rfl
    | cons d r =>
      have ha := fun c0 => app_row (j := y108) (S := [.cells [] true]) (id := 0) (off := 0) (len := 0) (cap := some 0) (es := []) (xs := u32s (d :: r)) (x := .vsl (u32s (d :: r)) c0) rfl (by decide) rfl (by simp [u32s])
        (by simp [sizesOk, u32s, SV.n, SV.cells, flatS, oneS, show y108.size = 1 from rfl]) rfl (by simp [show y108.bytes = 4 from rfl, roomS] at hl ⊢; omega) (by simp [roomS] at hl ⊢; omega) (by simp) (.inr ⟨0, rfl, by simp⟩)
      refine wpO_of (ha _) ?_
      have hp : (u32s (d :: r)).all pureS = true := List.all_eq_true.2 u32s_pure
      have e : freshO (SV.osl 1 1 0 (u32s (d :: r)).length none, [.cells [] true] ++ [.cells (u32s (d :: r)) true]) = some (.inr (u32s (d :: r), 1, 0, (u32s (d :: r)).length, none)) := by
        unfold freshO
        simp only [List.singleton_append, List.getElem?_cons_succ, List.getElem?_cons_zero, hp, if_true]
      have e2 : (SV.osl 1 1 0 (0 + (u32s (d :: r)).length) none) = SV.osl 1 1 0 (u32s (d :: r)).length none := by rw [Nat.zero_add]
      show wpO (freshO (SV.osl 1 1 0 (0 + (u32s (d :: r)).length) none, [.cells [] true] ++ [.cells (u32s (d :: r)) true])) _
      rw [e2]
      refine wpO_of e ?_
      have := h2 (by simp)
      rw [← u32s_len] at this
      exact this

theorem c76 {b : Bool} {n : Nat} {c : VC} {Q : SV → Prop} {z : Int} (hs : (encN n).length < 17592186044415) (hz : z = if b then -(n : Int) else n) (hc : c = .nil → n = 0) (h : ∀ c', (c' = .nil → z = 0) → Q (I z c')) : wpO (pureW cfgT 76 [.vsl (u32s (encN n)) c, .bool b]) Q := by
  refine pureP_of rfl (F76_ok (k := fun v S => wpO (frz S depthS v) Q) ?_)
  unfold F76
  refine wpO_of rfl ?_
  refine call_pure rfl rfl (c117 (encN_bd n) (by omega) (by rw [encN_val]; exact hc) fun c1 hc1 => ?_)
  rw [encN_val] at hc1 ⊢
  have hI : I z c1 = .agg [.bool (b && decide (0 < n)), .vsl (u32s (encN n)) c1] := by
    subst hz
    cases b with
    | false => rw [I_pos (by simp)]; simp
    | true =>
      by_cases hn : 0 < n
      · rw [I_neg (by simp; omega)]; simp [hn]
      · have : n = 0 := by omega
        subst this; rfl
  have hI2 : ∀ c2, I z c2 = .agg [.bool (b && decide (0 < n)), .vsl (u32s (encN n)) c2] := by
    intro c2
    have := hI
    unfold I at this ⊢
    simp only [SV.agg.injEq, List.cons.injEq, SV.bool.injEq, SV.vsl.injEq, and_true] at this ⊢
    exact this
  have fin : ∀ (v : SV) (S' : Store) (b' : Bool), b' = (b && decide (0 < n)) → (∃ c2, (c2 = .nil → n = 0) ∧ frz S' depthS (.agg [.bool b', v]) = some (.agg [.bool b', .vsl (u32s (encN n)) c2])) → wpO (frz S' depthS (.agg [.bool b', v])) Q := by
    intro v S' b' hb' ⟨c2, h1, h2⟩
    refine wpO_of h2 ?_
    rw [hb', ← hI2]
    refine h c2 (fun e => ?_)
    rw [hz, h1 e]; cases b <;> rfl
  have rest : ∀ (b' : Bool), b' = (b && decide (0 < n)) → wpO (callW cfgT 118 [.vsl (u32s (encN n)) c1] [.cells [y32.zero] true]) fun p11 =>
      wpO (buildS cfgT y32 [(0, .bool b'), (1, p11.1)]) fun v12 => wpO (storeS y32 p11.2 (.optr 0 0 0) v12) fun S13 => wpO (loadS y32 S13 (.optr 0 0 0)) fun v14 => wpO (frz S13 depthS v14) Q := by
    intro b' hb'
    refine c118 (by omega) (fun e => enc_nil.2 (hc1 e)) (fun e => ?_) (fun e => ?_) (fun e => ?_)
    · iterate 3 refine wpO_of rfl ?_
      refine fin _ _ _ hb' ⟨.nil, fun _ => enc_nil.1 e, ?_⟩
      rw [e]; rfl
    · iterate 3 refine wpO_of rfl ?_
      refine fin _ _ _ hb' ⟨.exact, fun h => by (cases h), ?_⟩
      rw [e]; rfl
    · iterate 3 refine wpO_of rfl ?_
      refine fin _ _ _ hb' ⟨.loose, fun h => by (cases h), ?_⟩
      have hz : ∀ e ∈ u32s (encN n), ∃ k m, e = .int k m := fun e he => by
        simp only [u32s, List.mem_map] at he
        obtain ⟨d, _, rfl⟩ := he
        exact ⟨_, _, rfl⟩
      have := fun S h => frz_osl (S := S) (d := 9) (id := 1) (sz := 1) (cap := none) (es := u32s (encN n)) (lv := true) h hz
      rw [u32s_len] at this
      show (List.mapM (frz _ 11) [SV.bool b', SV.osl 1 1 0 (encN n).length none]).map SV.agg = _
      rw [List.mapM_cons, List.mapM_cons, this _ rfl]
      rfl
  cases b with
  | false =>
    refine grdF rfl (grdF rfl (grdF rfl (wpO_of pickS_f ?_)))
    exact rest false rfl
  | true =>
    refine grdT rfl (grdT rfl (wpO_of (len115 _ _) (grdT rfl (wpO_of b_gtr (wpO_of pickS_t ?_)))))
    have e0 : decide ((0 : Int) < ((encN n).length : Int)) = decide (0 < n) := by
      have := enc_len_pos (n := n)
      by_cases hv : 0 < n
      · rw [decide_eq_true hv, decide_eq_true (by have := this.2 hv; omega)]
      · rw [decide_eq_false hv, decide_eq_false (by intro h2; exact hv (this.1 (by omega)))]
    rw [e0]
    exact rest _ (by simp)

theorem c35 {z : Int} {c : VC} {Q : SV → Prop} (hw : wd z < 17592186044415) (hc : c = .nil → z = 0) (h : ∀ c', (c' = .nil → -z = 0) → Q (I (-z) c')) : wpO (pureW cfgT 35 [I z c]) Q := by
  refine pureP_of rfl (F35_ok (k := fun v S => wpO (frz S depthS v) Q) ?_)
  unfold F35
  unfold wd at hw
  unfold I
  iterate 6 refine wpO_of rfl ?_
  refine wpO_of u_not ?_
  refine call_pure rfl rfl (c76 (z := -z) hw ?_ (fun e => by rw [hc e]; rfl) fun c' hc' => ?_)
  · by_cases hz : z < 0
    · rw [decide_eq_true hz]; simp; omega
    · rw [decide_eq_false hz]; simp; omega
  · iterate 2 refine wpO_of rfl ?_
    exact h c' hc'

theorem c36p {z w : Int} {c d : VC} {Q : SV → Prop} (hz0 : 0 ≤ z) (hw0 : 0 ≤ w) (hz : wd z < 17592186044414) (hw : wd w < 17592186044414) (h : ∀ c', (c' = .nil → z + w = 0) → Q (I (z + w) c')) : wpO (pureW cfgT 36 [I z c, I w d]) Q := by
  refine pureP_of rfl (F36_ok (k := fun v S => wpO (frz S depthS v) Q) ?_)
  unfold F36
  unfold wd at hz hw
  have hsum := wd_add (a := z.natAbs) (b := w.natAbs) (n := 17592186044413) (by omega) (by omega)
  rw [I_pos (z := z) (by omega), I_pos (z := w) (by omega)]
  iterate 12 refine wpO_of rfl ?_
  refine cndT rfl ?_
  refine call_pure rfl rfl (c77 (by omega) (by omega) fun c1 hc1 => ?_)
  iterate 2 refine wpO_of rfl ?_
  refine call_pure rfl rfl (c76 (z := z + w) (by omega) (by simp; omega) hc1 fun c2 hc2 => ?_)
  iterate 2 refine wpO_of rfl ?_
  exact h c2 hc2

/- ---- products ---- -/
theorem nmul_inner : ∀ (m : Nat) (a b p : List Nat) (c d : VC) (i k0 r N x V cy : Nat) (e : En) (k : X → En → Store → Prop), k0 + m = b.length → p.length = i + b.length → i + b.length + r = N → Bd b → Bd p → cy < 4294967296 → x < 4294967296 → N < 70368744177664 →
    e 24 = .vsl (u32s b) d → e 25 = .int .i64 (b.length : Int) → e 5 = .osl 0 1 0 N (some N) → e 6 = .int .i64 (i : Int) → e 7 = .int .u32 (x : Int) → e 8 = .int .u64 (cy : Int) → e 26 = .int .i64 (k0 : Int) →
    e 17 = .vsl (u32s a) c → e 18 = .int .i64 (a.length : Int) → e 1 = .vsl (u32s b) d → e 19 = .int .i64 (i : Int) →
    val p + 4294967296 ^ (i + k0) * cy = V + 4294967296 ^ i * (x * val (b.take k0)) →
    (∀ (p' : List Nat) (cy' : Nat) (e' : En), p'.length = i + b.length → Bd p' → cy' < 4294967296 → val p' + 4294967296 ^ (i + b.length) * cy' = V + 4294967296 ^ i * (x * val b) →
      e' 17 = .vsl (u32s a) c → e' 18 = .int .i64 (a.length : Int) → e' 1 = .vsl (u32s b) d → e' 19 = .int .i64 (i : Int) → e' 5 = .osl 0 1 0 N (some N) → e' 6 = .int .i64 (i : Int) → e' 8 = .int .u64 (cy' : Int) → k (.exit 2) e' [.cells (u32s (p' ++ List.replicate r 0)) true]) →
    DenP cfgT 67 (.loop L81_1) e [.cells (u32s (p ++ List.replicate r 0)) true] k := by
  intro m
  induction m with
  | zero =>
    intro a b p c d i k0 r N x V cy e k hm hp hN hb hbp hcy hx hs h24 h25 h5 h6 h7 h8 h26 h17 h18 h1 h19 hv hk
    refine L81_1_ok ?_
    unfold TL81_1
    simp only [h25, h26, b_lss, wpO_sm]
    refine condP_dec (fun h => by omega) (fun _ => ?_)
    have hk0 : k0 = b.length := by omega
    rw [hk0, List.take_length] at hv
    exact hk p cy _ hp hbp hcy hv h17 h18 h1 h19 h5 h6 h8
  | succ m ih =>
    intro a b p c d i k0 r N x V cy e k hm hp hN hb hbp hcy hx hs h24 h25 h5 h6 h7 h8 h26 h17 h18 h1 h19 hv hk
    refine L81_1_ok ?_
    unfold TL81_1
    simp only [h24, h25, h26, b_lss, wpO_sm]
    refine condP_dec (fun _ => ?_) (fun h => absurd (by omega) h)
    obtain ⟨y, hby⟩ : ∃ y, b[k0]? = some y := ⟨b[k0]'(by omega), by simp⟩
    obtain ⟨z, hpz⟩ : ∃ z, p[i + k0]? = some z := ⟨p[i + k0]'(by omega), by simp⟩
    have hy := hb.get hby
    have hz := hbp.get hpz
    simp only [h5, h6, h7, h8, idx115 hby, load108, conv51 hx, conv51 hy, b_mul, b_add, wpO_sm]
    rw [addI (by omega)]
    have hrow : (u32s (p ++ List.replicate r 0))[i + k0]? = some (.int .u32 (z : Int)) := u32s_get (by rw [List.getElem?_append_left (by omega)]; exact hpz)
    refine wpO_of (idx_osl (j := y108) rfl rfl (by decide) (by omega) rfl) ?_
    rw [Nat.zero_add]
    refine wpO_of (load_row (es := u32s (p ++ List.replicate r 0)) rfl hrow) ?_
    refine wpO_of (conv51 hz) ?_
    simp only [b_add, wpO_sm]
    have hme := mul_eq hx hy hz hcy
    have hlt := mul_lt hx hy hz hcy
    have hvt := val_take_succ b k0
    rw [hby] at hvt
    simp only [Option.getD_some] at hvt
    have hdm := Nat.div_add_mod (x * y + z + cy) 4294967296
    have hnew : val (p.set (i + k0) ((x * y + z + cy) % 4294967296)) + 4294967296 ^ (i + (k0 + 1)) * ((x * y + z + cy) / 4294967296) = V + 4294967296 ^ i * (x * val (b.take (k0 + 1))) := by
      have hs := val_set (d := (x * y + z + cy) % 4294967296) hpz
      rw [hvt, ← Nat.add_assoc, Nat.pow_succ]
      rw [Nat.pow_add] at hs hv ⊢
      generalize (x * y + z + cy) / 4294967296 = q at hdm ⊢
      generalize (x * y + z + cy) % 4294967296 = w at hdm hs ⊢
      generalize val (p.set (i + k0) w) = s1 at hs ⊢
      generalize val p = s0 at hs hv
      generalize val (b.take k0) = s2 at hv ⊢
      generalize 4294967296 ^ i = P at hs hv ⊢
      generalize 4294967296 ^ k0 = R at hs hv ⊢
      clear hlt hrow hpz hby hvt hme
      grind
    clear hdm
    have hcomm : wrapS .u64 ((cy : Int) + wrapS .u64 (wrapS .u64 ((x : Int) * (y : Int)) + (z : Int))) = ((x * y + z + cy : Nat) : Int) := by
      rw [Int.add_comm]; exact hme
    rw [hcomm]
    generalize x * y + z + cy = t at hlt hnew ⊢
    refine wpO_of (conv_int rfl rfl) ?_
    have e1 : wrapS .u32 (t : Int) = ((t % 4294967296 : Nat) : Int) := by rw [wrapU32m]; omega
    rw [e1]
    refine wpO_of (idx_osl (j := y108) rfl rfl (by decide) (by omega) rfl) ?_
    rw [Nat.zero_add]
    refine wpO_of (store_row (es := u32s (p ++ List.replicate r 0)) rfl hrow rfl rfl rfl) ?_
    rw [u32s_set, List.set_append_left _ _ (by omega)]
    refine wpO_of shr32 ?_
    rw [succI (by omega)]
    refine ih a b (p.set (i + k0) (t % 4294967296)) c d i (k0 + 1) r N x V (t / 4294967296) _ k (by omega) (by rw [List.length_set]; exact hp) hN hb ?_ (div_lt_base hlt) hx hs h24 h25 h5 h6 h7 rfl rfl h17 h18 h1 h19 hnew hk
    intro u hu
    rcases List.mem_or_eq_of_mem_set hu with hu | rfl
    · exact hbp u hu
    · exact Nat.mod_lt _ (by decide)

theorem nmul_outer : ∀ (r : Nat) (a b p : List Nat) (c d : VC) (i N : Nat) (e : En) (k : X → En → Store → Prop), i + r = a.length → p.length = i + b.length → a.length + b.length = N → Bd a → Bd b → Bd p → N < 70368744177664 →
    e 17 = .vsl (u32s a) c → e 18 = .int .i64 (a.length : Int) → e 1 = .vsl (u32s b) d → e 5 = .osl 0 1 0 N (some N) → e 19 = .int .i64 (i : Int) →
    val p = val (a.take i) * val b →
    (∀ (p' : List Nat) (e' : En), p'.length = N → Bd p' → val p' = val a * val b → e' 5 = .osl 0 1 0 N (some N) → k (.exit 0) e' [.cells (u32s p') true]) →
    DenP cfgT 67 (.loop L81_0) e [.cells (u32s (p ++ List.replicate r 0)) true] k := by
  intro r
  induction r with
  | zero =>
    intro a b p c d i N e k hr hp hN ha hb hbp hs h17 h18 h1 h5 h19 hv hk
    refine L81_0_ok ?_
    unfold TL81_0
    simp only [h18, h19, b_lss, wpO_sm]
    refine condP_dec (fun h => by omega) (fun _ => ?_)
    have hi : i = a.length := by omega
    rw [hi, List.take_length] at hv
    rw [List.replicate_zero, List.append_nil]
    exact hk p _ (by omega) hbp hv h5
  | succ r ih =>
    intro a b p c d i N e k hr hp hN ha hb hbp hs h17 h18 h1 h5 h19 hv hk
    refine L81_0_ok ?_
    unfold TL81_0
    simp only [h17, h18, h1, h19, len115, b_lss, wpO_sm]
    refine condP_dec (fun _ => ?_) (fun h => absurd (by omega) h)
    obtain ⟨x, hax⟩ : ∃ x, a[i]? = some x := ⟨a[i]'(by omega), by simp⟩
    have hx := ha.get hax
    simp only [idx115 hax, load108, wpO_sm]
    refine nmul_inner b.length a b p c d i 0 (r + 1) N x (val p) 0 _ _ (by omega) hp (by omega) hb hbp (by decide) hx hs rfl rfl h5 rfl rfl rfl rfl h17 h18 h1 h19 (by simp [val]) ?_
    intro p' cy' e' hp' hbp' hcy' hv' g17 g18 g1 g19 g5 g6 g8
    refine K81_1e2_ok ?_
    unfold TK81_1e2
    simp only [g1, g5, g6, g8, g19, len115, b_add, wpO_sm]
    rw [addI (by omega)]
    refine wpO_of (conv_int rfl rfl) ?_
    have e3 : wrapS .u32 (cy' : Int) = (cy' : Int) := wrapU32 (Int.natCast_nonneg _) (by exact Int.ofNat_lt.2 hcy')
    rw [e3]
    refine wpO_of (idx_osl (j := y108) rfl rfl (by decide) (by omega) rfl) ?_
    rw [Nat.zero_add, ← hp']
    refine wpO_of (store_row (es := u32s (p' ++ List.replicate (r + 1) 0)) (e := .int .u32 0) rfl (by rw [show (0 : Int) = ((0 : Nat) : Int) from rfl]; exact u32s_get (by rw [List.getElem?_append_right (Nat.le_refl _)]; simp)) rfl rfl rfl) ?_
    rw [u32s_set, row_set, succI (by omega)]
    refine ih a b (p' ++ [cy']) c d (i + 1) N _ k (by omega) (by rw [List.length_append, hp']; simp; omega) hN ha hb (hbp'.snoc hcy') hs g17 g18 g1 g5 rfl ?_ hk
    have hvt := val_take_succ a i
    rw [hax] at hvt
    simp only [Option.getD_some] at hvt
    rw [val_snoc, hvt, hp', hv', hv]
    grind

theorem c81 {a b : Nat} {c d : VC} {Q : SV → Prop} (ha : (encN a).length < 8796093022207) (hb : (encN b).length < 8796093022207) (h : ∀ c', (c' = .nil → a * b = 0) → Q (.vsl (u32s (encN (a * b))) c')) : wpO (pureW cfgT 81 [.vsl (u32s (encN a)) c, .vsl (u32s (encN b)) d]) Q := by
  refine pureP_of rfl (F81_ok (k := fun v S => wpO (frz S depthS v) Q) ?_)
  unfold F81
  simp only [len115, b_add, wpO_sm]
  rw [addI (by omega)]
  generalize hn : (encN a).length + (encN b).length = n
  refine wpO_of (mksl_ok (j := y108) (by decide) rfl (by unfold roomS; omega) (by unfold roomS; show n * 4 ≤ _; omega)) ?_
  show DenP cfgT 67 (.loop L81_0) _ [.cells (List.replicate n (SV.int .u32 0)) true] _
  have hsplit : u32s (List.replicate n 0) = u32s (List.replicate (encN b).length 0 ++ List.replicate (encN a).length 0) := by
    rw [List.replicate_append_replicate]; congr 2; omega
  rw [u32s_zeros, hsplit]
  refine nmul_outer (encN a).length (encN a) (encN b) (List.replicate (encN b).length 0) c d 0 n _ _ (by omega) (by simp) hn (encN_bd a) (encN_bd b) (fun u hu => by rw [(List.mem_replicate.1 hu).2]; decide) (by omega) rfl rfl rfl rfl rfl (by rw [val_zeros]; simp [val]) ?_
  intro p' e' hl hbp hv h5
  rw [encN_val, encN_val] at hv
  refine K81_0e0_ok ?_
  unfold TK81_0e0
  rw [h5]
  refine call_row (es := u32s p') rfl rfl (by simp [hl]) u32s_pure ?_
  refine c117 hbp (by omega) capM fun c' hc' => ?_
  rw [hv] at hc' ⊢
  exact h c' hc'

theorem c38 {z w : Int} {c d : VC} {Q : SV → Prop} (hz : wd z < 8796093022207) (hw : wd w < 8796093022207) (h : ∀ c', (c' = .nil → z * w = 0) → Q (I (z * w) c')) : wpO (pureW cfgT 38 [I z c, I w d]) Q := by
  refine pureP_of rfl (F38_ok (k := fun v S => wpO (frz S depthS v) Q) ?_)
  unfold F38
  unfold wd at hz hw
  unfold I
  iterate 7 refine wpO_of rfl ?_
  refine call_pure rfl rfl (c81 hz hw fun c1 hc1 => ?_)
  have hm := wd_mul (Nat.le_of_lt hz) (Nat.le_of_lt hw)
  iterate 4 refine wpO_of rfl ?_
  refine wpO_of (b_bne rfl) ?_
  refine call_pure rfl rfl (c76 (z := z * w) (by omega) natAbs_mul_sign hc1 fun c2 hc2 => ?_)
  iterate 2 refine wpO_of rfl ?_
  exact h c2 hc2

end Go.Proofs

