/-
  The tables of this program; small laws for walking its functions; numbers as words.
-/
import Derived.Test.YthljopfhfgdajaaGreatTb3
import Derived.Test.YthljopfhfgdajaaGreatTc0
import Derived.Test.YthljopfhfgdajaaGreatShF
set_option linter.unusedVariables false
set_option linter.unusedSimpArgs false
/-
  The shadow machine of this program, its tables laid out: types, functions; finished calls as answers.
-/
set_option linter.unusedVariables false
namespace Go.Sh
def TyL (P : Program) : Nat → List (Option TyI) → Prop
  | _, [] => True
  | n, none :: r => TyL P (n + 1) r
  | n, some i :: r => tyOf P n = some i ∧ TyL P (n + 1) r
theorem tyL_ok {P : Program} : ∀ {l : List (Option TyI)} {n : Nat}, TyL P n l → ∀ {t : Nat} {i : TyI}, (getL l t).bind id = some i → tyOf P (n + t) = some i
  | [], n, h, t, i, e => by cases e
  | o :: r, n, h, 0, i, e => by
    cases o with
    | none => cases e
    | some j => cases e; exact h.1
  | o :: r, n, h, t + 1, i, e => by
    have e2 : n + (t + 1) = (n + 1) + t := by omega
    rw [e2]
    cases o with
    | none => exact tyL_ok (l := r) h e
    | some j => exact tyL_ok (l := r) h.2 e
def FnL (P : Program) : Nat → List (Option Func) → Prop
  | _, [] => True
  | n, none :: r => FnL P (n + 1) r
  | n, some i :: r => fnOf P n = some i ∧ FnL P (n + 1) r
theorem fnL_ok {P : Program} : ∀ {l : List (Option Func)} {n : Nat}, FnL P n l → ∀ {t : Nat} {i : Func}, (getL l t).bind id = some i → fnOf P (n + t) = some i
  | [], n, h, t, i, e => by cases e
  | o :: r, n, h, 0, i, e => by
    cases o with
    | none => cases e
    | some j => cases e; exact h.1
  | o :: r, n, h, t + 1, i, e => by
    have e2 : n + (t + 1) = (n + 1) + t := by omega
    rw [e2]
    cases o with
    | none => exact fnL_ok (l := r) h e
    | some j => exact fnL_ok (l := r) h.2 e
theorem cfg_of {P : Program} (hm : P.follows .mixedOrders = true) (hall : P.funcs.all okFn = true) {mode : FuncId → Mode} {orc : FuncId → List SV → Option SV} (ho : ∀ f args v, orc f args = some v → PureOk P f args v)
    {tl : List (Option TyI)} {fl : List (Option Func)} (ht : TyL P 0 tl) (hf : FnL P 0 fl) : CfgOk P { ty := fun t => (getL tl t).bind id, fns := fun f => (getL fl f).bind id, orc := orc, mode := mode } := by
  have h0 := cfgOf_ok hm hall (mode := mode) ho
  refine ⟨⟨fun t i h => h0.ty.1 t i ?_⟩, fun f fn h => h0.fns f fn ?_, ho, hm⟩
  · have := tyL_ok ht h; rw [Nat.zero_add] at this; exact this
  · have := fnL_ok hf h; rw [Nat.zero_add] at this; exact this
end Go.Sh
namespace Go.Proofs
open Go.Sh
set_option maxRecDepth 100000
set_option maxHeartbeats 4000000
def y1 : TyI := ⟨.scal, 1, 8, .nilf⟩
def y2 : TyI := ⟨.int, 1, 8, (.int .i64 0)⟩
def y3 : TyI := ⟨.int, 1, 8, (.int .i64 0)⟩
def y4 : TyI := ⟨.bool, 1, 1, (.bool false)⟩
def y5 : TyI := ⟨.int, 1, 1, (.int .u8 0)⟩
def y6 : TyI := ⟨.int, 1, 1, (.int .u8 0)⟩
def y7 : TyI := ⟨(.struct [(0, 2), (1, 3), (2, 4), (3, 6)]), 4, 24, (.agg [(.int .i64 0), (.int .i64 0), (.bool false), (.int .u8 0)])⟩
def y8 : TyI := ⟨(.struct [(0, 2), (1, 3), (2, 4), (3, 6)]), 4, 24, (.agg [(.int .i64 0), (.int .i64 0), (.bool false), (.int .u8 0)])⟩
def y9 : TyI := ⟨.str, 1, 16, (.str (ByteArray.mk #[]))⟩
def y10 : TyI := ⟨.str, 1, 16, (.str (ByteArray.mk #[]))⟩
def y11 : TyI := ⟨.str, 1, 16, (.str (ByteArray.mk #[]))⟩
def y12 : TyI := ⟨.int, 1, 8, (.int .u64 0)⟩
def y13 : TyI := ⟨(.struct [(0, 9), (1, 12)]), 2, 24, (.agg [(.str (ByteArray.mk #[])), (.int .u64 0)])⟩
def y14 : TyI := ⟨(.struct [(0, 9), (1, 12)]), 2, 24, (.agg [(.str (ByteArray.mk #[])), (.int .u64 0)])⟩
def y15 : TyI := ⟨(.ptr 237), 1, 8, .nilp⟩
def y16 : TyI := ⟨(.ptr 240), 1, 8, .nilp⟩
def y17 : TyI := ⟨(.ptr 249), 1, 8, .nilp⟩
def y18 : TyI := ⟨(.struct [(0, 17)]), 1, 8, (.agg [.nilp])⟩
def y19 : TyI := ⟨(.struct [(0, 17)]), 1, 8, (.agg [.nilp])⟩
def y20 : TyI := ⟨.scal, 1, 16, .nili⟩
def y21 : TyI := ⟨.int, 1, 4, (.int .i32 0)⟩
def y22 : TyI := ⟨(.slice 62), 1, 24, (.vsl [] .nil)⟩
def y23 : TyI := ⟨.scal, 1, 8, .nilf⟩
def y24 : TyI := ⟨(.slice 32), 1, 24, (.vsl [] .nil)⟩
def y25 : TyI := ⟨.scal, 1, 8, .nilf⟩
def y26 : TyI := ⟨(.slice 38), 1, 24, (.vsl [] .nil)⟩
def y27 : TyI := ⟨(.slice 38), 1, 24, (.vsl [] .nil)⟩
def y28 : TyI := ⟨.scal, 1, 8, .nilf⟩
def y29 : TyI := ⟨.scal, 1, 8, .nilf⟩
def y30 : TyI := ⟨(.slice 108), 1, 24, (.vsl [] .nil)⟩
def y31 : TyI := ⟨(.struct [(0, 4), (1, 30)]), 2, 32, (.agg [(.bool false), (.vsl [] .nil)])⟩
def y32 : TyI := ⟨(.struct [(0, 4), (1, 30)]), 2, 32, (.agg [(.bool false), (.vsl [] .nil)])⟩
def y33 : TyI := ⟨.scal, 1, 8, .nilf⟩
def y34 : TyI := ⟨.scal, 1, 8, .nilf⟩
def y35 : TyI := ⟨.scal, 1, 8, .nilf⟩
def y36 : TyI := ⟨.scal, 1, 8, .nilf⟩
def y37 : TyI := ⟨(.struct [(0, 32), (2, 32)]), 4, 64, (.agg [(.bool false), (.vsl [] .nil), (.bool false), (.vsl [] .nil)])⟩
def y38 : TyI := ⟨(.struct [(0, 32), (2, 32)]), 4, 64, (.agg [(.bool false), (.vsl [] .nil), (.bool false), (.vsl [] .nil)])⟩
def y39 : TyI := ⟨.scal, 1, 8, .nilf⟩
def y40 : TyI := ⟨(.slice 64), 1, 24, (.vsl [] .nil)⟩
def y41 : TyI := ⟨.int, 1, 8, (.int .i64 0)⟩
def y42 : TyI := ⟨(.struct [(0, 38), (4, 40), (5, 41)]), 6, 96, (.agg [(.bool false), (.vsl [] .nil), (.bool false), (.vsl [] .nil), (.vsl [] .nil), (.int .i64 0)])⟩
def y43 : TyI := ⟨(.struct [(0, 38), (4, 40), (5, 41)]), 6, 96, (.agg [(.bool false), (.vsl [] .nil), (.bool false), (.vsl [] .nil), (.vsl [] .nil), (.int .i64 0)])⟩
def y44 : TyI := ⟨.scal, 1, 8, .nilf⟩
def y45 : TyI := ⟨.scal, 1, 8, .nilf⟩
def y46 : TyI := ⟨.scal, 1, 8, .nilf⟩
def y47 : TyI := ⟨.scal, 1, 8, .nilf⟩
def y48 : TyI := ⟨(.slice 54), 1, 24, (.vsl [] .nil)⟩
def y50 : TyI := ⟨.scal, 1, 8, .nilf⟩
def y51 : TyI := ⟨.int, 1, 8, (.int .u64 0)⟩
def y52 : TyI := ⟨(.slice 51), 1, 24, (.vsl [] .nil)⟩
def y53 : TyI := ⟨(.struct [(0, 52), (1, 3)]), 2, 32, (.agg [(.vsl [] .nil), (.int .i64 0)])⟩
def y54 : TyI := ⟨(.struct [(0, 52), (1, 3)]), 2, 32, (.agg [(.vsl [] .nil), (.int .i64 0)])⟩
def y55 : TyI := ⟨.scal, 1, 8, .nilf⟩
def y56 : TyI := ⟨(.slice 24), 1, 24, (.vsl [] .nil)⟩
def y58 : TyI := ⟨.scal, 1, 8, .nilf⟩
def y59 : TyI := ⟨.scal, 1, 8, .nilf⟩
def y60 : TyI := ⟨(.slice 52), 1, 24, (.vsl [] .nil)⟩
def y61 : TyI := ⟨.scal, 1, 8, .nilf⟩
def y62 : TyI := ⟨.int, 1, 1, (.int .i8 0)⟩
def y63 : TyI := ⟨(.struct [(0, 27), (1, 3)]), 2, 32, (.agg [(.vsl [] .nil), (.int .i64 0)])⟩
def y64 : TyI := ⟨(.struct [(0, 27), (1, 3)]), 2, 32, (.agg [(.vsl [] .nil), (.int .i64 0)])⟩
def y65 : TyI := ⟨.scal, 1, 8, .nilf⟩
def y66 : TyI := ⟨.scal, 1, 8, .nilf⟩
def y67 : TyI := ⟨.scal, 1, 8, .nilf⟩
def y68 : TyI := ⟨.scal, 1, 8, .nilf⟩
def y70 : TyI := ⟨.scal, 1, 8, .nilf⟩
def y71 : TyI := ⟨.scal, 1, 8, .nilf⟩
def y73 : TyI := ⟨.scal, 1, 8, .nilf⟩
def y74 : TyI := ⟨.scal, 1, 8, .nilf⟩
def y75 : TyI := ⟨.scal, 1, 8, .nilf⟩
def y76 : TyI := ⟨.scal, 1, 8, .nilf⟩
def y78 : TyI := ⟨.scal, 1, 8, .nilf⟩
def y79 : TyI := ⟨.scal, 1, 8, .nilf⟩
def y80 : TyI := ⟨.scal, 1, 8, .nilf⟩
def y82 : TyI := ⟨.scal, 1, 8, .nilf⟩
def y83 : TyI := ⟨.scal, 1, 8, .nilf⟩
def y84 : TyI := ⟨.scal, 1, 8, .nilf⟩
def y85 : TyI := ⟨.scal, 1, 8, .nilf⟩
def y86 : TyI := ⟨.scal, 1, 8, .nilf⟩
def y87 : TyI := ⟨(.struct [(0, 51)]), 1, 8, (.agg [(.int .u64 0)])⟩
def y88 : TyI := ⟨(.struct [(0, 51)]), 1, 8, (.agg [(.int .u64 0)])⟩
def y89 : TyI := ⟨(.slice 51), 1, 24, (.vsl [] .nil)⟩
def y90 : TyI := ⟨.scal, 1, 8, .nilf⟩
def y91 : TyI := ⟨(.slice 89), 1, 24, (.vsl [] .nil)⟩
def y92 : TyI := ⟨.scal, 1, 8, .nilf⟩
def y93 : TyI := ⟨.scal, 1, 8, .nilf⟩
def y94 : TyI := ⟨.scal, 1, 8, .nilf⟩
def y96 : TyI := ⟨.scal, 1, 8, .nilf⟩
def y97 : TyI := ⟨.scal, 1, 8, .nilf⟩
def y98 : TyI := ⟨.scal, 1, 8, .nilf⟩
def y99 : TyI := ⟨.scal, 1, 8, .nilf⟩
def y100 : TyI := ⟨.scal, 1, 8, .nilf⟩
def y101 : TyI := ⟨.scal, 1, 8, .nilf⟩
def y102 : TyI := ⟨.scal, 1, 8, .nilf⟩
def y103 : TyI := ⟨.scal, 1, 8, .nilf⟩
def y104 : TyI := ⟨.scal, 1, 8, .nilf⟩
def y105 : TyI := ⟨.scal, 1, 8, .nilf⟩
def y106 : TyI := ⟨.scal, 1, 8, .nilf⟩
def y107 : TyI := ⟨.scal, 1, 8, .nilf⟩
def y108 : TyI := ⟨.int, 1, 4, (.int .u32 0)⟩
def y109 : TyI := ⟨.scal, 1, 8, .nilf⟩
def y110 : TyI := ⟨.scal, 1, 8, .nilf⟩
def y112 : TyI := ⟨.scal, 1, 8, .nilf⟩
def y113 : TyI := ⟨.scal, 1, 8, .nilf⟩
def y114 : TyI := ⟨.scal, 1, 8, .nilf⟩
def y115 : TyI := ⟨(.slice 108), 1, 24, (.vsl [] .nil)⟩
def y116 : TyI := ⟨.scal, 1, 8, .nilf⟩
def y117 : TyI := ⟨.scal, 1, 8, .nilf⟩
def y118 : TyI := ⟨.scal, 1, 8, .nilf⟩
def y119 : TyI := ⟨.scal, 1, 8, .nilf⟩
def y120 : TyI := ⟨.scal, 1, 8, .nilf⟩
def y121 : TyI := ⟨.scal, 1, 8, .nilf⟩
def y122 : TyI := ⟨.scal, 1, 8, .nilf⟩
def y123 : TyI := ⟨(.slice 27), 1, 24, (.vsl [] .nil)⟩
def y124 : TyI := ⟨.scal, 1, 8, .nilf⟩
def y125 : TyI := ⟨.scal, 1, 8, .nilf⟩
def y126 : TyI := ⟨.scal, 1, 8, .nilf⟩
def y127 : TyI := ⟨.scal, 1, 8, .nilf⟩
def y128 : TyI := ⟨.scal, 1, 8, .nilf⟩
def y129 : TyI := ⟨.scal, 1, 8, .nilf⟩
def y130 : TyI := ⟨.scal, 1, 8, .nilf⟩
def y131 : TyI := ⟨.int, 1, 8, (.int .u64 0)⟩
def y132 : TyI := ⟨(.array 4 51), 4, 32, (.agg [(.int .u64 0), (.int .u64 0), (.int .u64 0), (.int .u64 0)])⟩
def y133 : TyI := ⟨.scal, 1, 8, .nilf⟩
def y134 : TyI := ⟨.scal, 1, 8, .nilf⟩
def y136 : TyI := ⟨.scal, 1, 8, .nilf⟩
def y137 : TyI := ⟨.scal, 1, 8, .nilf⟩
def y138 : TyI := ⟨.scal, 1, 8, .nilf⟩
def y139 : TyI := ⟨.scal, 1, 8, .nilf⟩
def y140 : TyI := ⟨.scal, 1, 8, .nilf⟩
def y141 : TyI := ⟨.scal, 1, 8, .nilf⟩
def y143 : TyI := ⟨.scal, 1, 8, .nilf⟩
def y144 : TyI := ⟨.scal, 1, 8, .nilf⟩
def y146 : TyI := ⟨.scal, 1, 8, .nilf⟩
def y147 : TyI := ⟨.scal, 1, 8, .nilf⟩
def y148 : TyI := ⟨.scal, 1, 8, .nilf⟩
def y149 : TyI := ⟨.scal, 1, 8, .nilf⟩
def y150 : TyI := ⟨.scal, 1, 8, .nilf⟩
def y152 : TyI := ⟨.scal, 1, 8, .nilf⟩
def y153 : TyI := ⟨.scal, 1, 8, .nilf⟩
def y154 : TyI := ⟨.scal, 1, 8, .nilf⟩
def y155 : TyI := ⟨.scal, 1, 8, .nilf⟩
def y156 : TyI := ⟨.scal, 1, 8, .nilf⟩
def y157 : TyI := ⟨.scal, 1, 8, .nilf⟩
def y159 : TyI := ⟨.scal, 1, 8, .nilf⟩
def y160 : TyI := ⟨.scal, 1, 8, .nilf⟩
def y161 : TyI := ⟨.scal, 1, 8, .nilf⟩
def y162 : TyI := ⟨.scal, 1, 8, .nilf⟩
def y163 : TyI := ⟨.scal, 1, 8, .nilf⟩
def y164 : TyI := ⟨.scal, 1, 8, .nilf⟩
def y165 : TyI := ⟨.scal, 1, 8, .nilf⟩
def y166 : TyI := ⟨.scal, 1, 8, .nilf⟩
def y167 : TyI := ⟨.scal, 1, 8, .nilf⟩
def y168 : TyI := ⟨.scal, 1, 8, .nilf⟩
def y169 : TyI := ⟨.int, 1, 8, (.int .i64 0)⟩
def y171 : TyI := ⟨.scal, 1, 8, .nilf⟩
def y172 : TyI := ⟨.scal, 1, 8, .nilf⟩
def y173 : TyI := ⟨.scal, 1, 8, .nilf⟩
def y175 : TyI := ⟨.scal, 1, 8, .nilf⟩
def y176 : TyI := ⟨.scal, 1, 8, .nilf⟩
def y177 : TyI := ⟨.scal, 1, 8, .nilf⟩
def y178 : TyI := ⟨.scal, 1, 8, .nilf⟩
def y179 : TyI := ⟨.scal, 1, 8, .nilf⟩
def y180 : TyI := ⟨.scal, 1, 8, .nilf⟩
def y181 : TyI := ⟨.scal, 1, 8, .nilf⟩
def y182 : TyI := ⟨.scal, 1, 8, .nilf⟩
def y183 : TyI := ⟨.scal, 1, 8, .nilf⟩
def y185 : TyI := ⟨.scal, 1, 8, .nilf⟩
def y186 : TyI := ⟨.scal, 1, 8, .nilf⟩
def y187 : TyI := ⟨.scal, 1, 8, .nilf⟩
def y188 : TyI := ⟨.scal, 1, 8, .nilf⟩
def y189 : TyI := ⟨.scal, 1, 8, .nilf⟩
def y191 : TyI := ⟨.scal, 1, 8, .nilf⟩
def y192 : TyI := ⟨.scal, 1, 8, .nilf⟩
def y193 : TyI := ⟨.scal, 1, 8, .nilf⟩
def y194 : TyI := ⟨.scal, 1, 8, .nilf⟩
def y195 : TyI := ⟨.scal, 1, 8, .nilf⟩
def y196 : TyI := ⟨.scal, 1, 8, .nilf⟩
def y197 : TyI := ⟨.scal, 1, 8, .nilf⟩
def y199 : TyI := ⟨.scal, 1, 8, .nilf⟩
def y200 : TyI := ⟨.scal, 1, 8, .nilf⟩
def y201 : TyI := ⟨.scal, 1, 8, .nilf⟩
def y202 : TyI := ⟨.scal, 1, 8, .nilf⟩
def y203 : TyI := ⟨.scal, 1, 8, .nilf⟩
def y204 : TyI := ⟨.scal, 1, 8, .nilf⟩
def y205 : TyI := ⟨.int, 1, 8, (.int .u64 0)⟩
def y206 : TyI := ⟨.scal, 1, 8, .nilf⟩
def y207 : TyI := ⟨.scal, 1, 8, .nilf⟩
def y208 : TyI := ⟨.scal, 1, 8, .nilf⟩
def y209 : TyI := ⟨(.ptr 3), 1, 8, .nilp⟩
def y210 : TyI := ⟨.scal, 1, 8, .nilf⟩
def y211 : TyI := ⟨.scal, 1, 8, .nilf⟩
def y212 : TyI := ⟨.scal, 1, 8, .nilf⟩
def y214 : TyI := ⟨.scal, 1, 8, .nilf⟩
def y215 : TyI := ⟨.scal, 1, 8, .nilf⟩
def y216 : TyI := ⟨.scal, 1, 8, .nilf⟩
def y217 : TyI := ⟨.scal, 1, 8, .nilf⟩
def y218 : TyI := ⟨.scal, 1, 8, .nilf⟩
def y219 : TyI := ⟨.scal, 1, 8, .nilf⟩
def y220 : TyI := ⟨.scal, 1, 8, .nilf⟩
def y221 : TyI := ⟨.scal, 1, 8, .nilf⟩
def y222 : TyI := ⟨(.ptr 205), 1, 8, .nilp⟩
def y224 : TyI := ⟨.scal, 1, 8, .nilf⟩
def y225 : TyI := ⟨.scal, 1, 8, .nilf⟩
def y227 : TyI := ⟨.scal, 1, 8, .nilf⟩
def y228 : TyI := ⟨.scal, 1, 8, .nilf⟩
def y229 : TyI := ⟨.scal, 1, 16, .nili⟩
def y230 : TyI := ⟨.scal, 1, 16, .nili⟩
def y231 : TyI := ⟨.scal, 1, 8, .nilf⟩
def y233 : TyI := ⟨.scal, 1, 8, .nilf⟩
def y234 : TyI := ⟨(.ptr 251), 1, 8, .nilp⟩
def y235 : TyI := ⟨.scal, 1, 8, .nilf⟩
def y236 : TyI := ⟨(.struct [(0, 17), (1, 17), (2, 17), (3, 9)]), 4, 40, (.agg [.nilp, .nilp, .nilp, (.str (ByteArray.mk #[]))])⟩
def y237 : TyI := ⟨(.struct [(0, 17), (1, 17), (2, 17), (3, 9)]), 4, 40, (.agg [.nilp, .nilp, .nilp, (.str (ByteArray.mk #[]))])⟩
def y238 : TyI := ⟨(.array 0 16), 0, 0, (.agg [])⟩
def y239 : TyI := ⟨(.struct [(0, 238)]), 0, 0, (.agg [])⟩
def y240 : TyI := ⟨(.struct [(0, 238)]), 0, 0, (.agg [])⟩
def y241 : TyI := ⟨.scal, 1, 8, .nilf⟩
def y242 : TyI := ⟨.int, 1, 1, (.int .u8 0)⟩
def y243 : TyI := ⟨.int, 1, 1, (.int .u8 0)⟩
def y244 : TyI := ⟨.scal, 1, 8, .nilf⟩
def y245 : TyI := ⟨(.ptr 5), 1, 8, .nilp⟩
def y246 : TyI := ⟨.int, 1, 4, (.int .i32 0)⟩
def y247 : TyI := ⟨.int, 1, 4, (.int .i32 0)⟩
def y248 : TyI := ⟨(.struct [(0, 12), (1, 12), (2, 108), (3, 242), (4, 5), (5, 5), (6, 243), (7, 244), (8, 245), (9, 246), (10, 247)]), 11, 48, (.agg [(.int .u64 0), (.int .u64 0), (.int .u32 0), (.int .u8 0), (.int .u8 0), (.int .u8 0), (.int .u8 0), .nilf, .nilp, (.int .i32 0), (.int .i32 0)])⟩
def y249 : TyI := ⟨(.struct [(0, 12), (1, 12), (2, 108), (3, 242), (4, 5), (5, 5), (6, 243), (7, 244), (8, 245), (9, 246), (10, 247)]), 11, 48, (.agg [(.int .u64 0), (.int .u64 0), (.int .u32 0), (.int .u8 0), (.int .u8 0), (.int .u8 0), (.int .u8 0), .nilf, .nilp, (.int .i32 0), (.int .i32 0)])⟩
def y250 : TyI := ⟨(.struct [(0, 9)]), 1, 16, (.agg [(.str (ByteArray.mk #[]))])⟩
def y251 : TyI := ⟨(.struct [(0, 9)]), 1, 16, (.agg [(.str (ByteArray.mk #[]))])⟩
def y252 : TyI := ⟨.scal, 1, 8, .nilp⟩
def tyL : List (Option TyI) := [none, some y1, some y2, some y3, some y4, some y5, some y6, some y7, some y8, some y9, some y10, some y11, some y12, some y13, some y14, some y15, some y16, some y17, some y18, some y19, some y20, some y21, some y22, some y23, some y24, some y25, some y26, some y27, some y28, some y29, some y30, some y31, some y32, some y33, some y34, some y35, some y36, some y37, some y38, some y39, some y40, some y41, some y42, some y43, some y44, some y45, some y46, some y47, some y48, none, some y50, some y51, some y52, some y53, some y54, some y55, some y56, none, some y58, some y59, some y60, some y61, some y62, some y63, some y64, some y65, some y66, some y67, some y68, none, some y70, some y71, none, some y73, some y74, some y75, some y76, none, some y78, some y79, some y80, none, some y82, some y83, some y84, some y85, some y86, some y87, some y88, some y89, some y90, some y91, some y92, some y93, some y94, none, some y96, some y97, some y98, some y99, some y100, some y101, some y102, some y103, some y104, some y105, some y106, some y107, some y108, some y109, some y110, none, some y112, some y113, some y114, some y115, some y116, some y117, some y118, some y119, some y120, some y121, some y122, some y123, some y124, some y125, some y126, some y127, some y128, some y129, some y130, some y131, some y132, some y133, some y134, none, some y136, some y137, some y138, some y139, some y140, some y141, none, some y143, some y144, none, some y146, some y147, some y148, some y149, some y150, none, some y152, some y153, some y154, some y155, some y156, some y157, none, some y159, some y160, some y161, some y162, some y163, some y164, some y165, some y166, some y167, some y168, some y169, none, some y171, some y172, some y173, none, some y175, some y176, some y177, some y178, some y179, some y180, some y181, some y182, some y183, none, some y185, some y186, some y187, some y188, some y189, none, some y191, some y192, some y193, some y194, some y195, some y196, some y197, none, some y199, some y200, some y201, some y202, some y203, some y204, some y205, some y206, some y207, some y208, some y209, some y210, some y211, some y212, none, some y214, some y215, some y216, some y217, some y218, some y219, some y220, some y221, some y222, none, some y224, some y225, none, some y227, some y228, some y229, some y230, some y231, none, some y233, some y234, some y235, some y236, some y237, some y238, some y239, some y240, some y241, some y242, some y243, some y244, some y245, some y246, some y247, some y248, some y249, some y250, some y251, some y252]
noncomputable def fnL : List (Option Func) := [none, none, some Tryz.f2, some Tryz.f3, some Tryz.f4, some Tryz.f5, some Tryz.f6, some Tryz.f7, some Tryz.f8, some Tryz.f9, some Tryz.f10, some Tryz.f11, some Tryz.f12, some Tryz.f13, some Tryz.f14, some Tryz.f15, some Tryz.f16, some Tryz.f17, some Tryz.f18, some Tryz.f19, some Tryz.f20, some Tryz.f21, some Tryz.f22, some Tryz.f23, some Tryz.f24, some Tryz.f25, some Tryz.f26, some Tryz.f27, some Tryz.f28, some Tryz.f29, some Tryz.f30, some Tryz.f31, some Tryz.f32, some Tryz.f33, some Tryz.f34, some Tryz.f35, some Tryz.f36, some Tryz.f37, some Tryz.f38, some Tryz.f39, some Tryz.f40, some Tryz.f41, some Tryz.f42, some Tryz.f43, some Tryz.f44, some Tryz.f45, some Tryz.f46, some Tryz.f47, some Tryz.f48, some Tryz.f49, some Tryz.f50, some Tryz.f51, some Tryz.f52, some Tryz.f53, some Tryz.f54, some Tryz.f55, some Tryz.f56, some Tryz.f57, some Tryz.f58, some Tryz.f59, some Tryz.f60, some Tryz.f61, some Tryz.f62, some Tryz.f63, some Tryz.f64, some Tryz.f65, some Tryz.f66, some Tryz.f67, some Tryz.f68, some Tryz.f69, some Tryz.f70, some Tryz.f71, some Tryz.f72, some Tryz.f73, some Tryz.f74, some Tryz.f75, some Tryz.f76, some Tryz.f77, some Tryz.f78, some Tryz.f79, some Tryz.f80, some Tryz.f81, some Tryz.f82, some Tryz.f83, some Tryz.f84, some Tryz.f85, some Tryz.f86, some Tryz.f87, some Tryz.f88, some Tryz.f89, some Tryz.f90, some Tryz.f91, some Tryz.f92, some Tryz.f93, some Tryz.f94, some Tryz.f95, some Tryz.f96, some Tryz.f97, some Tryz.f98, some Tryz.f99, some Tryz.f100, some Tryz.f101, some Tryz.f102, some Tryz.f103, some Tryz.f104, some Tryz.f105, some Tryz.f106, some Tryz.f107, some Tryz.f108, some Tryz.f109, some Tryz.f110, some Tryz.f111, some Tryz.f112, some Tryz.f113, some Tryz.f114, some Tryz.f115, some Tryz.f116, some Tryz.f117, some Tryz.f118, some Tryz.f119, some Tryz.f120, some Tryz.f121, some Tryz.f122, some Tryz.f123, some Tryz.f124, some Tryz.f125, some Tryz.f126, some Tryz.f127, some Tryz.f128, some Tryz.f129, some Tryz.f130, some Tryz.f131, some Tryz.f132, some Tryz.f133, some Tryz.f134, some Tryz.f135, some Tryz.f136, some Tryz.f137, some Tryz.f138, some Tryz.f139, some Tryz.f140, some Tryz.f141, some Tryz.f142, some Tryz.f143, some Tryz.f144, some Tryz.f145, some Tryz.f146, some Tryz.f147, some Tryz.f148, some Tryz.f149, some Tryz.f150, some Tryz.f151, some Tryz.f152, some Tryz.f153, some Tryz.f154, some Tryz.f155, some Tryz.f156, some Tryz.f157, some Tryz.f158, some Tryz.f159, some Tryz.f160, some Tryz.f161, some Tryz.f162, some Tryz.f163, some Tryz.f164, some Tryz.f165, some Tryz.f166, some Tryz.f167, some Tryz.f168, some Tryz.f169, some Tryz.f170, some Tryz.f171, some Tryz.f172, some Tryz.f173, some Tryz.f174, some Tryz.f175, some Tryz.f176, some Tryz.f177, some Tryz.f178, some Tryz.f179, some Tryz.f180, some Tryz.f181, some Tryz.f182, some Tryz.f183, some Tryz.f184, some Tryz.f185, some Tryz.f186, some Tryz.f187, some Tryz.f188, some Tryz.f189, some Tryz.f190, some Tryz.f191, some Tryz.f192, some Tryz.f193, some Tryz.f194, some Tryz.f195, some Tryz.f196, some Tryz.f197, some Tryz.f198, some Tryz.f199, some Tryz.f200, some Tryz.f201, some Tryz.f202, some Tryz.f203, some Tryz.f204, some Tryz.f205, some Tryz.f206, some Tryz.f207, some Tryz.f208, some Tryz.f209, some Tryz.f210, some Tryz.f211, some Tryz.f212, some Tryz.f213, some Tryz.f214, some Tryz.f215, some Tryz.f216, some Tryz.f217, some Tryz.f218, some Tryz.f219, some Tryz.f220, some Tryz.f221, some Tryz.f222, some Tryz.f223, none, none, none, none, none, none, none, none, none, none, none, none, none, none, none, none, none, none]
theorem tyL_tr : TyL Tryz.prog 0 tyL := ⟨by kernel_rfl, by kernel_rfl, by kernel_rfl, by kernel_rfl, by kernel_rfl, by kernel_rfl, by kernel_rfl, by kernel_rfl, by kernel_rfl, by kernel_rfl, by kernel_rfl, by kernel_rfl, by kernel_rfl, by kernel_rfl, by kernel_rfl, by kernel_rfl, by kernel_rfl, by kernel_rfl, by kernel_rfl, by kernel_rfl, by kernel_rfl, by kernel_rfl, by kernel_rfl, by kernel_rfl, by kernel_rfl, by kernel_rfl, by kernel_rfl, by kernel_rfl, by kernel_rfl, by kernel_rfl, by kernel_rfl, by kernel_rfl, by kernel_rfl, by kernel_rfl, by kernel_rfl, by kernel_rfl, by kernel_rfl, by kernel_rfl, by kernel_rfl, by kernel_rfl, by kernel_rfl, by kernel_rfl, by kernel_rfl, by kernel_rfl, by kernel_rfl, by kernel_rfl, by kernel_rfl, by kernel_rfl, by kernel_rfl, by kernel_rfl, by kernel_rfl, by kernel_rfl, by kernel_rfl, by kernel_rfl, by kernel_rfl, by kernel_rfl, by kernel_rfl, by kernel_rfl, by kernel_rfl, by kernel_rfl, by kernel_rfl, by kernel_rfl, by kernel_rfl, by kernel_rfl, by kernel_rfl, by kernel_rfl, by kernel_rfl, by kernel_rfl, by kernel_rfl, by kernel_rfl, by kernel_rfl, by kernel_rfl, by kernel_rfl, by kernel_rfl, by kernel_rfl, by kernel_rfl, by kernel_rfl, by kernel_rfl, by kernel_rfl, by kernel_rfl, by kernel_rfl, by kernel_rfl, by kernel_rfl, by kernel_rfl, by kernel_rfl, by kernel_rfl, by kernel_rfl, by kernel_rfl, by kernel_rfl, by kernel_rfl, by kernel_rfl, by kernel_rfl, by kernel_rfl, by kernel_rfl, by kernel_rfl, by kernel_rfl, by kernel_rfl, by kernel_rfl, by kernel_rfl, by kernel_rfl, by kernel_rfl, by kernel_rfl, by kernel_rfl, by kernel_rfl, by kernel_rfl, by kernel_rfl, by kernel_rfl, by kernel_rfl, by kernel_rfl, by kernel_rfl, by kernel_rfl, by kernel_rfl, by kernel_rfl, by kernel_rfl, by kernel_rfl, by kernel_rfl, by kernel_rfl, by kernel_rfl, by kernel_rfl, by kernel_rfl, by kernel_rfl, by kernel_rfl, by kernel_rfl, by kernel_rfl, by kernel_rfl, by kernel_rfl, by kernel_rfl, by kernel_rfl, by kernel_rfl, by kernel_rfl, by kernel_rfl, by kernel_rfl, by kernel_rfl, by kernel_rfl, by kernel_rfl, by kernel_rfl, by kernel_rfl, by kernel_rfl, by kernel_rfl, by kernel_rfl, by kernel_rfl, by kernel_rfl, by kernel_rfl, by kernel_rfl, by kernel_rfl, by kernel_rfl, by kernel_rfl, by kernel_rfl, by kernel_rfl, by kernel_rfl, by kernel_rfl, by kernel_rfl, by kernel_rfl, by kernel_rfl, by kernel_rfl, by kernel_rfl, by kernel_rfl, by kernel_rfl, by kernel_rfl, by kernel_rfl, by kernel_rfl, by kernel_rfl, by kernel_rfl, by kernel_rfl, by kernel_rfl, by kernel_rfl, by kernel_rfl, by kernel_rfl, by kernel_rfl, by kernel_rfl, by kernel_rfl, by kernel_rfl, by kernel_rfl, by kernel_rfl, by kernel_rfl, by kernel_rfl, by kernel_rfl, by kernel_rfl, by kernel_rfl, by kernel_rfl, by kernel_rfl, by kernel_rfl, by kernel_rfl, by kernel_rfl, by kernel_rfl, by kernel_rfl, by kernel_rfl, by kernel_rfl, by kernel_rfl, by kernel_rfl, by kernel_rfl, by kernel_rfl, by kernel_rfl, by kernel_rfl, by kernel_rfl, by kernel_rfl, by kernel_rfl, by kernel_rfl, by kernel_rfl, by kernel_rfl, by kernel_rfl, by kernel_rfl, by kernel_rfl, by kernel_rfl, by kernel_rfl, by kernel_rfl, by kernel_rfl, by kernel_rfl, by kernel_rfl, by kernel_rfl, by kernel_rfl, by kernel_rfl, by kernel_rfl, by kernel_rfl, by kernel_rfl, by kernel_rfl, by kernel_rfl, by kernel_rfl, by kernel_rfl, by kernel_rfl, by kernel_rfl, by kernel_rfl, by kernel_rfl, by kernel_rfl, by kernel_rfl, by kernel_rfl, by kernel_rfl, by kernel_rfl, by kernel_rfl, by kernel_rfl, trivial⟩
theorem fnL_tr : FnL Tryz.prog 0 fnL := ⟨by kernel_rfl, by kernel_rfl, by kernel_rfl, by kernel_rfl, by kernel_rfl, by kernel_rfl, by kernel_rfl, by kernel_rfl, by kernel_rfl, by kernel_rfl, by kernel_rfl, by kernel_rfl, by kernel_rfl, by kernel_rfl, by kernel_rfl, by kernel_rfl, by kernel_rfl, by kernel_rfl, by kernel_rfl, by kernel_rfl, by kernel_rfl, by kernel_rfl, by kernel_rfl, by kernel_rfl, by kernel_rfl, by kernel_rfl, by kernel_rfl, by kernel_rfl, by kernel_rfl, by kernel_rfl, by kernel_rfl, by kernel_rfl, by kernel_rfl, by kernel_rfl, by kernel_rfl, by kernel_rfl, by kernel_rfl, by kernel_rfl, by kernel_rfl, by kernel_rfl, by kernel_rfl, by kernel_rfl, by kernel_rfl, by kernel_rfl, by kernel_rfl, by kernel_rfl, by kernel_rfl, by kernel_rfl, by kernel_rfl, by kernel_rfl, by kernel_rfl, by kernel_rfl, by kernel_rfl, by kernel_rfl, by kernel_rfl, by kernel_rfl, by kernel_rfl, by kernel_rfl, by kernel_rfl, by kernel_rfl, by kernel_rfl, by kernel_rfl, by kernel_rfl, by kernel_rfl, by kernel_rfl, by kernel_rfl, by kernel_rfl, by kernel_rfl, by kernel_rfl, by kernel_rfl, by kernel_rfl, by kernel_rfl, by kernel_rfl, by kernel_rfl, by kernel_rfl, by kernel_rfl, by kernel_rfl, by kernel_rfl, by kernel_rfl, by kernel_rfl, by kernel_rfl, by kernel_rfl, by kernel_rfl, by kernel_rfl, by kernel_rfl, by kernel_rfl, by kernel_rfl, by kernel_rfl, by kernel_rfl, by kernel_rfl, by kernel_rfl, by kernel_rfl, by kernel_rfl, by kernel_rfl, by kernel_rfl, by kernel_rfl, by kernel_rfl, by kernel_rfl, by kernel_rfl, by kernel_rfl, by kernel_rfl, by kernel_rfl, by kernel_rfl, by kernel_rfl, by kernel_rfl, by kernel_rfl, by kernel_rfl, by kernel_rfl, by kernel_rfl, by kernel_rfl, by kernel_rfl, by kernel_rfl, by kernel_rfl, by kernel_rfl, by kernel_rfl, by kernel_rfl, by kernel_rfl, by kernel_rfl, by kernel_rfl, by kernel_rfl, by kernel_rfl, by kernel_rfl, by kernel_rfl, by kernel_rfl, by kernel_rfl, by kernel_rfl, by kernel_rfl, by kernel_rfl, by kernel_rfl, by kernel_rfl, by kernel_rfl, by kernel_rfl, by kernel_rfl, by kernel_rfl, by kernel_rfl, by kernel_rfl, by kernel_rfl, by kernel_rfl, by kernel_rfl, by kernel_rfl, by kernel_rfl, by kernel_rfl, by kernel_rfl, by kernel_rfl, by kernel_rfl, by kernel_rfl, by kernel_rfl, by kernel_rfl, by kernel_rfl, by kernel_rfl, by kernel_rfl, by kernel_rfl, by kernel_rfl, by kernel_rfl, by kernel_rfl, by kernel_rfl, by kernel_rfl, by kernel_rfl, by kernel_rfl, by kernel_rfl, by kernel_rfl, by kernel_rfl, by kernel_rfl, by kernel_rfl, by kernel_rfl, by kernel_rfl, by kernel_rfl, by kernel_rfl, by kernel_rfl, by kernel_rfl, by kernel_rfl, by kernel_rfl, by kernel_rfl, by kernel_rfl, by kernel_rfl, by kernel_rfl, by kernel_rfl, by kernel_rfl, by kernel_rfl, by kernel_rfl, by kernel_rfl, by kernel_rfl, by kernel_rfl, by kernel_rfl, by kernel_rfl, by kernel_rfl, by kernel_rfl, by kernel_rfl, by kernel_rfl, by kernel_rfl, by kernel_rfl, by kernel_rfl, by kernel_rfl, by kernel_rfl, by kernel_rfl, by kernel_rfl, by kernel_rfl, by kernel_rfl, by kernel_rfl, by kernel_rfl, by kernel_rfl, by kernel_rfl, by kernel_rfl, by kernel_rfl, by kernel_rfl, by kernel_rfl, by kernel_rfl, by kernel_rfl, by kernel_rfl, by kernel_rfl, by kernel_rfl, by kernel_rfl, by kernel_rfl, by kernel_rfl, by kernel_rfl, by kernel_rfl, by kernel_rfl, by kernel_rfl, by kernel_rfl, by kernel_rfl, by kernel_rfl, by kernel_rfl, trivial⟩
noncomputable def roots : List Ent := [Tb.e575, Tc.e8, Tc.e12, Tc.e16, Tc.e20, Tc.e24, Tc.e25, Tc.e28, Tc.e29, Tc.e31, Tc.e33, Tc.e35, Tc.e37, Tc.e39, Tc.e46, Tc.e49, Tc.e52, Tc.e53, Tc.e55, Tc.e57, Tc.e58, Tc.e59, Tc.e62, Tc.e65, Tc.e67, Tc.e71, Tc.e73, Tc.e77, Tc.e78, Tc.e79, Tc.e80, Tc.e83, Tc.e84, Tc.e85, Tc.e86, Tc.e87, Tc.e89, Tc.e90, Tc.e91]
theorem roots_ok : AllG roots := ⟨Tb.t575, Tc.t8, Tc.t12, Tc.t16, Tc.t20, Tc.t24, Tc.t25, Tc.t28, Tc.t29, Tc.t31, Tc.t33, Tc.t35, Tc.t37, Tc.t39, Tc.t46, Tc.t49, Tc.t52, Tc.t53, Tc.t55, Tc.t57, Tc.t58, Tc.t59, Tc.t62, Tc.t65, Tc.t67, Tc.t71, Tc.t73, Tc.t77, Tc.t78, Tc.t79, Tc.t80, Tc.t83, Tc.t84, Tc.t85, Tc.t86, Tc.t87, Tc.t89, Tc.t90, Tc.t91, trivial⟩
noncomputable def cfgT : Cfg := { ty := fun t => (getL tyL t).bind id, fns := fun f => (getL fnL f).bind id, orc := lookE roots, mode := modeT }
theorem cfgT_ok : CfgOk Tryz.prog cfgT := cfg_of mixd allFn (fun f args v h => by
  obtain ⟨x, hx, rfl, rfl, rfl⟩ := lookE_ok h
  exact allG roots_ok x hx) tyL_tr fnL_tr
end Go.Proofs

/-
  Small laws for walking the laid functions.
-/
set_option linter.unusedVariables false
namespace Go.Sh
theorem wpO_congr {α : Type} {o o' : Option α} {k : α → Prop} (h : o = o') : wpO o k = wpO o' k := by rw [h]
theorem condP_congr {v v' : SV} {a b : Prop} (h : v = v') : condP v a b = condP v' a b := by rw [h]
theorem grdP_congr {v v' : Option SV} {want : Bool} {o : (SV → Store → Prop) → Prop} {S : Store} {k : SV → Store → Prop} (h : v = v') : grdP v want o S k = grdP v' want o S k := by rw [h]
theorem DenP_congr {cfg : Cfg} {n : Nat} {c : Code} {e : En} {S : Store} {k : X → En → Store → Prop} : DenP cfg n c e S k = DenP cfg n c e S k := rfl
attribute [congr] wpO_congr condP_congr grdP_congr DenP_congr
attribute [simp] wpO_none
@[simp] theorem wpO_sm {α : Type} {x : α} {k : α → Prop} : wpO (some x) k = k x := propext Iff.rfl
@[simp] theorem condP_t {a b : Prop} : condP (.bool true) a b = a := propext Iff.rfl
@[simp] theorem condP_f {a b : Prop} : condP (.bool false) a b = b := propext Iff.rfl
@[simp] theorem grdP_tt {o : (SV → Store → Prop) → Prop} {S : Store} {k : SV → Store → Prop} : grdP (some (.bool true)) true o S k = o k := propext Iff.rfl
@[simp] theorem grdP_ft {o : (SV → Store → Prop) → Prop} {S : Store} {k : SV → Store → Prop} : grdP (some (.bool false)) true o S k = k undefS S := propext Iff.rfl
@[simp] theorem grdP_tf {o : (SV → Store → Prop) → Prop} {S : Store} {k : SV → Store → Prop} : grdP (some (.bool true)) false o S k = k undefS S := propext Iff.rfl
@[simp] theorem grdP_ff {o : (SV → Store → Prop) → Prop} {S : Store} {k : SV → Store → Prop} : grdP (some (.bool false)) false o S k = o k := propext Iff.rfl
theorem condP_dec {p : Prop} [Decidable p] {a b : Prop} (h : p → a) (h2 : ¬ p → b) : condP (.bool (decide p)) a b := by
  by_cases hp : p
  · rw [decide_eq_true hp]; exact h hp
  · rw [decide_eq_false hp]; exact h2 hp
theorem condP_b {t : Bool} {a b : Prop} (h : t = true → a) (h2 : t = false → b) : condP (.bool t) a b := by
  cases t
  · exact h2 rfl
  · exact h rfl

@[simp] theorem pickS_t {a b : SV} : pickS (.bool true) a b = some a := rfl
@[simp] theorem pickS_f {a b : SV} : pickS (.bool false) a b = some b := rfl

/- the temporaries -/
theorem ups_nil {e : En} : ups e [] = e := rfl
theorem ups_cons {e : En} {p : Nat × SV} {r : List (Nat × SV)} : ups e (p :: r) = ups (upd e p.1 p.2) r := rfl
theorem upd_at {e : En} {t s : Nat} {v : SV} : upd e t v s = bif Nat.beq s t then v else e s := rfl

/- numbers -/
theorem wrap64 {n : Int} (h0 : -9223372036854775808 ≤ n) (h1 : n < 9223372036854775808) : wrapS .i64 n = n := by simp only [wrapS]; rw [if_pos ⟨h0, h1⟩]
theorem wrapU64 {n : Int} (h0 : 0 ≤ n) (h1 : n < 18446744073709551616) : wrapS .u64 n = n := by simp only [wrapS]; rw [if_pos ⟨h0, h1⟩]
theorem wrapU32 {n : Int} (h0 : 0 ≤ n) (h1 : n < 4294967296) : wrapS .u32 n = n := by simp only [wrapS]; rw [if_pos ⟨h0, h1⟩]
theorem wrapU64m {n : Int} : wrapS .u64 n = n % 18446744073709551616 := by
  simp only [wrapS]
  split
  · rename_i h; rw [Int.emod_eq_of_lt h.1 h.2]
  · rfl
theorem wrapU32m {n : Int} : wrapS .u32 n = n % 4294967296 := by
  simp only [wrapS]
  split
  · rename_i h; rw [Int.emod_eq_of_lt h.1 h.2]
  · rfl
section
variable {u : Option TyI} {k : IntKind} {a b : Int}
@[simp] theorem b_add : binS .add u (.int k a) (.int k b) = some (.int k (wrapS k (a + b))) := by simp [binS, isShift, arithS]
@[simp] theorem b_sub : binS .sub u (.int k a) (.int k b) = some (.int k (wrapS k (a - b))) := by simp [binS, isShift, arithS]
@[simp] theorem b_mul : binS .mul u (.int k a) (.int k b) = some (.int k (wrapS k (a * b))) := by simp [binS, isShift, arithS]
theorem b_quo (h : b ≠ 0) : binS .quo u (.int k a) (.int k b) = some (.int k (wrapS k (a.tdiv b))) := by simp [binS, isShift, arithS, h]
theorem b_rem (h : b ≠ 0) : binS .rem u (.int k a) (.int k b) = some (.int k (a.tmod b)) := by simp [binS, isShift, arithS, h]
@[simp] theorem b_eql : binS .eql u (.int k a) (.int k b) = some (.bool (decide (a = b))) := by
  simp only [binS, isShift, arithS, cmpS, Bool.false_eq_true, if_false, if_true]
  congr 2
@[simp] theorem b_neq : binS .neq u (.int k a) (.int k b) = some (.bool (decide (a ≠ b))) := by
  simp only [binS, isShift, arithS, cmpS, Bool.false_eq_true, if_false, if_true]
  congr 2
  by_cases h : a = b <;> simp [h, bne]
@[simp] theorem b_lss : binS .lss u (.int k a) (.int k b) = some (.bool (decide (a < b))) := by simp [binS, isShift, arithS, cmpS]
@[simp] theorem b_leq : binS .leq u (.int k a) (.int k b) = some (.bool (decide (a ≤ b))) := by simp [binS, isShift, arithS, cmpS]
@[simp] theorem b_gtr : binS .gtr u (.int k a) (.int k b) = some (.bool (decide (b < a))) := by simp [binS, isShift, arithS, cmpS]
@[simp] theorem b_geq : binS .geq u (.int k a) (.int k b) = some (.bool (decide (b ≤ a))) := by simp [binS, isShift, arithS, cmpS]
theorem b_shl {k' : IntKind} {n : Nat} (h : n ≤ k.bits) : binS .shl u (.int k a) (.int k' n) = some (.int k (wrapS k (a * 2 ^ n))) := by
  simp only [binS, isShift, shiftS]
  rw [if_pos trivial, if_neg (by omega)]
  simp [Nat.min_eq_left h]
theorem b_shr {k' : IntKind} {n : Nat} (h : n ≤ k.bits) : binS .shr u (.int k a) (.int k' n) = some (.int k (a.fdiv (2 ^ n))) := by
  simp only [binS, isShift, shiftS]
  rw [if_pos trivial, if_neg (by omega)]
  simp [Nat.min_eq_left h]
end
theorem b_beq {i : TyI} (h : i.kind = .bool) {a b : Bool} : binS .eql (some i) (.bool a) (.bool b) = some (.bool (a == b)) := by
  obtain ⟨kd, x, y, z⟩ := i
  simp only at h
  subst h
  rfl
theorem b_bne {i : TyI} (h : i.kind = .bool) {a b : Bool} : binS .neq (some i) (.bool a) (.bool b) = some (.bool (!(a == b))) := by
  obtain ⟨kd, x, y, z⟩ := i
  simp only at h
  subst h
  rfl
@[simp] theorem u_not {b : Bool} : unS .not (.bool b) = some (.bool !b) := rfl
@[simp] theorem u_neg {k : IntKind} {a : Int} : unS .neg (.int k a) = some (.int k (wrapS k (0 - a))) := rfl
theorem conv_int {i : TyI} {k : IntKind} {m : Int} (h : i.kind = .int) (h2 : i.zero = .int k m) {k' : IntKind} {n : Int} : convS i (.int k' n) = some (.int k (wrapS k n)) := by
  unfold convS; rw [h, h2]
@[simp] theorem max_2 {k : IntKind} {a b : Int} : foldS max2S (.int k a) [.int k b] = some (.int k (max a b)) := by
  simp only [foldS, max2S, if_true, Option.bind_some]
  congr 2
  omega
@[simp] theorem min_2 {k : IntKind} {a b : Int} : foldS min2S (.int k a) [.int k b] = some (.int k (min a b)) := by
  simp only [foldS, min2S, if_true, Option.bind_some]
  congr 2
  omega

/- slices -/
theorem len_vsl {i : TyI} {e : TypeId} (h : i.kind = .slice e) {es : List SV} {c : VC} : lenS i (.vsl es c) = some (.int .i64 es.length) := by unfold lenS; rw [h]
theorem len_osl {i : TyI} {e : TypeId} (h : i.kind = .slice e) {id sz off len : Nat} {cap : Option Nat} : lenS i (.osl id sz off len cap) = some (.int .i64 len) := by unfold lenS; rw [h]

theorem idx_vsl {cfg : Cfg} {i j : TyI} {t : TypeId} {es : List SV} {c : VC} {k : IntKind} {n : Nat} {v : SV} (h : i.kind = .slice t) (ht : cfg.ty t = some j) (hj : j.size ≠ 0) (hv : es[n]? = some v) (hn : v.n = j.size) :
    indexAddrS cfg i (.vsl es c) (.int k n) = some (.vptr v) := by
  unfold indexAddrS natS
  simp only [Int.natCast_nonneg, if_true, Option.bind_some, Int.toNat_natCast, h, ht]
  rw [if_neg hj, hv]
  simp only [Option.bind_some]
  rw [if_pos hn]
theorem idx_osl {cfg : Cfg} {i j : TyI} {t : TypeId} {k : IntKind} {n id sz off len : Nat} {cap : Option Nat} (h : i.kind = .slice t) (ht : cfg.ty t = some j) (hj : j.size ≠ 0) (hn : n < len) (hs : sz = j.size) :
    indexAddrS cfg i (.osl id sz off len cap) (.int k n) = some (.optr id (off + n) 0) := by
  unfold indexAddrS natS
  simp only [Int.natCast_nonneg, if_true, Option.bind_some, Int.toNat_natCast, h, ht]
  rw [if_neg hj, if_pos ⟨hn, hs⟩]
theorem load_vptr {i : TyI} {S : Store} {e : SV} : loadS i S (.vptr e) = partS i e.cells 0 := rfl
theorem load_row {i : TyI} {S : Store} {id j off : Nat} {es : List SV} {lv : Bool} {e : SV} (h : S[id]? = some (.cells es lv)) (he : es[j]? = some e) : loadS i S (.optr id j off) = partS i e.cells off := by
  unfold loadS; simp only [h, he, Option.bind_some]
theorem store_row {i : TyI} {S : Store} {id j : Nat} {es : List SV} {e v e' : SV} {off : Nat} (h : S[id]? = some (.cells es true)) (he : es[j]? = some e) (hn : v.n = i.size) (hf : flatS v = true) (hp : putPart e off v = some e') :
    storeS i S (.optr id j off) v = some (S.set id (.cells (es.set j e') true)) := by
  unfold storeS; simp only [h]
  rw [if_pos ⟨hn, hf⟩, he]
  simp only [Option.bind_some, hp]

/- calls -/
theorem frz_pure {S : Store} {v : SV} (h : pureS v = true) : frz S depthS v = some v ∧ refs S depthS v = [] := by
  have leaf : ∀ n, ∀ c : SV, (match c with
    | .int .. | .bool _ | .str _ | .nilp | .nilf | .nili | .vsl .. | .vptr _ => true
    | _ => false) = true → frz S (n + 1) c = some c ∧ refs S (n + 1) c = [] := by
    intro n c hc
    cases c <;> first | exact ⟨rfl, rfl⟩ | cases hc
  cases v with
  | agg cs =>
    simp only [pureS, List.all_eq_true] at h
    have key : ∀ l : List SV, (∀ c ∈ l, (match c with
      | .int .. | .bool _ | .str _ | .nilp | .nilf | .nili | .vsl .. | .vptr _ => true
      | _ => false) = true) → l.mapM (frz S 11) = some l ∧ l.flatMap (refs S 11) = [] := by
      intro l
      induction l with
      | nil => intro _; exact ⟨rfl, rfl⟩
      | cons a r ih =>
        intro hl
        obtain ⟨h1, h2⟩ := ih fun c hc => hl c (List.mem_cons_of_mem _ hc)
        obtain ⟨h3, h4⟩ := leaf 10 a (hl a List.mem_cons_self)
        exact ⟨by rw [List.mapM_cons, h3, h1]; rfl, by rw [List.flatMap_cons, h4, h2]; rfl⟩
    obtain ⟨h1, h2⟩ := key cs h
    exact ⟨by show (cs.mapM (frz S 11)).map SV.agg = _; rw [h1]; rfl, h2⟩
  | _ => first | exact leaf 11 _ rfl | exact absurd h (by simp [pureS])

theorem frz_all {S : Store} : ∀ {l : List SV}, l.all pureS = true → l.mapM (frz S depthS) = some l ∧ l.flatMap (refs S depthS) = []
  | [], _ => ⟨rfl, rfl⟩
  | a :: r, h => by
    simp only [List.all_cons, Bool.and_eq_true] at h
    obtain ⟨h1, h2⟩ := frz_all (S := S) h.2
    obtain ⟨h3, h4⟩ := frz_pure (S := S) h.1
    exact ⟨by rw [List.mapM_cons, h3, h1]; rfl, by rw [List.flatMap_cons, h4, h2]; rfl⟩

theorem call_pure {cfg : Cfg} {f : FuncId} {args : List SV} {S : Store} {k : SV × Store → Prop} (hm : cfg.mode f = .pure) (hp : args.all pureS = true) (h : wpO (pureW cfg f args) fun v => k (v, S)) : wpO (callW cfg f args S) k := by
  rw [callW_eq, hm]
  obtain ⟨h1, h2⟩ := frz_all (S := S) hp
  simp only [h1, h2, Option.bind_some]
  rw [wpO_iff] at h ⊢
  obtain ⟨v, hv, h⟩ := h
  exact ⟨_, by rw [hv]; rfl, h⟩

/-- A row, frozen. -/
theorem frz_row {S : Store} {id sz off len : Nat} {cap : Option Nat} {es : List SV} {lv : Bool} (h : S[id]? = some (.cells es lv)) (hl : off + len ≤ es.length) (hp : ∀ e ∈ (es.drop off).take len, pureS e = true) :
    frz S depthS (.osl id sz off len cap) = some (.vsl ((es.drop off).take len) (if cap = some len then .exact else .loose)) ∧ refs S depthS (.osl id sz off len cap) = [id] := by
  have leaf : ∀ n, ∀ c : SV, (match c with
    | .int .. | .bool _ | .str _ | .nilp | .nilf | .nili | .vsl .. | .vptr _ => true
    | _ => false) = true → frz S (n + 1) c = some c ∧ refs S (n + 1) c = [] := by
    intro n c hc
    cases c <;> first | exact ⟨rfl, rfl⟩ | cases hc
  have one : ∀ c : SV, pureS c = true → frz S 11 c = some c ∧ refs S 11 c = [] := by
    intro c hc
    cases c with
    | agg cs =>
      simp only [pureS, List.all_eq_true] at hc
      have key : ∀ l : List SV, (∀ c ∈ l, (match c with
        | .int .. | .bool _ | .str _ | .nilp | .nilf | .nili | .vsl .. | .vptr _ => true
        | _ => false) = true) → l.mapM (frz S 10) = some l ∧ l.flatMap (refs S 10) = [] := by
        intro l
        induction l with
        | nil => intro _; exact ⟨rfl, rfl⟩
        | cons a r ih =>
          intro hl
          obtain ⟨h1, h2⟩ := ih fun c hc => hl c (List.mem_cons_of_mem _ hc)
          obtain ⟨h3, h4⟩ := leaf 9 a (hl a List.mem_cons_self)
          exact ⟨by rw [List.mapM_cons, h3, h1]; rfl, by rw [List.flatMap_cons, h4, h2]; rfl⟩
      obtain ⟨h1, h2⟩ := key cs hc
      exact ⟨by show (cs.mapM (frz S 10)).map SV.agg = _; rw [h1]; rfl, h2⟩
    | _ => first | exact leaf 10 _ rfl | exact absurd hc (by simp [pureS])
  have all : ∀ l : List SV, (∀ e ∈ l, pureS e = true) → l.mapM (frz S 11) = some l ∧ l.flatMap (refs S 11) = [] := by
    intro l
    induction l with
    | nil => intro _; exact ⟨rfl, rfl⟩
    | cons a r ih =>
      intro hl
      obtain ⟨h1, h2⟩ := ih fun c hc => hl c (List.mem_cons_of_mem _ hc)
      obtain ⟨h3, h4⟩ := one a (hl a List.mem_cons_self)
      exact ⟨by rw [List.mapM_cons, h3, h1]; rfl, by rw [List.flatMap_cons, h4, h2]; rfl⟩
  obtain ⟨h1, h2⟩ := all _ hp
  constructor
  · show (match S[id]? with
      | some (.cells es _) => if off + len ≤ es.length then (((es.drop off).take len).mapM (frz S 11)).map fun xs => SV.vsl xs (if cap = some len then .exact else .loose) else none
      | _ => none) = _
    rw [h]
    simp only []
    rw [if_pos hl, h1]
    rfl
  · show id :: (match S[id]? with
      | some (.cells es _) => ((es.drop off).take len).flatMap (refs S 11)
      | _ => []) = _
    rw [h]
    simp only [h2]

theorem pureS_int {k : IntKind} {n : Int} : pureS (.int k n) = true := rfl
end Go.Sh
namespace Go.Proofs
open Go.Sh
@[simp] theorem ct1 : cfgT.ty 1 = some y1 := rfl
@[simp] theorem ct2 : cfgT.ty 2 = some y2 := rfl
@[simp] theorem ct3 : cfgT.ty 3 = some y3 := rfl
@[simp] theorem ct4 : cfgT.ty 4 = some y4 := rfl
@[simp] theorem ct5 : cfgT.ty 5 = some y5 := rfl
@[simp] theorem ct6 : cfgT.ty 6 = some y6 := rfl
@[simp] theorem ct7 : cfgT.ty 7 = some y7 := rfl
@[simp] theorem ct8 : cfgT.ty 8 = some y8 := rfl
@[simp] theorem ct9 : cfgT.ty 9 = some y9 := rfl
@[simp] theorem ct10 : cfgT.ty 10 = some y10 := rfl
@[simp] theorem ct11 : cfgT.ty 11 = some y11 := rfl
@[simp] theorem ct12 : cfgT.ty 12 = some y12 := rfl
@[simp] theorem ct13 : cfgT.ty 13 = some y13 := rfl
@[simp] theorem ct14 : cfgT.ty 14 = some y14 := rfl
@[simp] theorem ct15 : cfgT.ty 15 = some y15 := rfl
@[simp] theorem ct16 : cfgT.ty 16 = some y16 := rfl
@[simp] theorem ct17 : cfgT.ty 17 = some y17 := rfl
@[simp] theorem ct18 : cfgT.ty 18 = some y18 := rfl
@[simp] theorem ct19 : cfgT.ty 19 = some y19 := rfl
@[simp] theorem ct20 : cfgT.ty 20 = some y20 := rfl
@[simp] theorem ct21 : cfgT.ty 21 = some y21 := rfl
@[simp] theorem ct22 : cfgT.ty 22 = some y22 := rfl
@[simp] theorem ct23 : cfgT.ty 23 = some y23 := rfl
@[simp] theorem ct24 : cfgT.ty 24 = some y24 := rfl
@[simp] theorem ct25 : cfgT.ty 25 = some y25 := rfl
@[simp] theorem ct26 : cfgT.ty 26 = some y26 := rfl
@[simp] theorem ct27 : cfgT.ty 27 = some y27 := rfl
@[simp] theorem ct28 : cfgT.ty 28 = some y28 := rfl
@[simp] theorem ct29 : cfgT.ty 29 = some y29 := rfl
@[simp] theorem ct30 : cfgT.ty 30 = some y30 := rfl
@[simp] theorem ct31 : cfgT.ty 31 = some y31 := rfl
@[simp] theorem ct32 : cfgT.ty 32 = some y32 := rfl
@[simp] theorem ct33 : cfgT.ty 33 = some y33 := rfl
@[simp] theorem ct34 : cfgT.ty 34 = some y34 := rfl
@[simp] theorem ct35 : cfgT.ty 35 = some y35 := rfl
@[simp] theorem ct36 : cfgT.ty 36 = some y36 := rfl
@[simp] theorem ct37 : cfgT.ty 37 = some y37 := rfl
@[simp] theorem ct38 : cfgT.ty 38 = some y38 := rfl
@[simp] theorem ct39 : cfgT.ty 39 = some y39 := rfl
@[simp] theorem ct40 : cfgT.ty 40 = some y40 := rfl
@[simp] theorem ct41 : cfgT.ty 41 = some y41 := rfl
@[simp] theorem ct42 : cfgT.ty 42 = some y42 := rfl
@[simp] theorem ct43 : cfgT.ty 43 = some y43 := rfl
@[simp] theorem ct44 : cfgT.ty 44 = some y44 := rfl
@[simp] theorem ct45 : cfgT.ty 45 = some y45 := rfl
@[simp] theorem ct46 : cfgT.ty 46 = some y46 := rfl
@[simp] theorem ct47 : cfgT.ty 47 = some y47 := rfl
@[simp] theorem ct48 : cfgT.ty 48 = some y48 := rfl
@[simp] theorem ct50 : cfgT.ty 50 = some y50 := rfl
@[simp] theorem ct51 : cfgT.ty 51 = some y51 := rfl
@[simp] theorem ct52 : cfgT.ty 52 = some y52 := rfl
@[simp] theorem ct53 : cfgT.ty 53 = some y53 := rfl
@[simp] theorem ct54 : cfgT.ty 54 = some y54 := rfl
@[simp] theorem ct55 : cfgT.ty 55 = some y55 := rfl
@[simp] theorem ct56 : cfgT.ty 56 = some y56 := rfl
@[simp] theorem ct58 : cfgT.ty 58 = some y58 := rfl
@[simp] theorem ct59 : cfgT.ty 59 = some y59 := rfl
@[simp] theorem ct60 : cfgT.ty 60 = some y60 := rfl
@[simp] theorem ct61 : cfgT.ty 61 = some y61 := rfl
@[simp] theorem ct62 : cfgT.ty 62 = some y62 := rfl
@[simp] theorem ct63 : cfgT.ty 63 = some y63 := rfl
@[simp] theorem ct64 : cfgT.ty 64 = some y64 := rfl
@[simp] theorem ct65 : cfgT.ty 65 = some y65 := rfl
@[simp] theorem ct66 : cfgT.ty 66 = some y66 := rfl
@[simp] theorem ct67 : cfgT.ty 67 = some y67 := rfl
@[simp] theorem ct68 : cfgT.ty 68 = some y68 := rfl
@[simp] theorem ct70 : cfgT.ty 70 = some y70 := rfl
@[simp] theorem ct71 : cfgT.ty 71 = some y71 := rfl
@[simp] theorem ct73 : cfgT.ty 73 = some y73 := rfl
@[simp] theorem ct74 : cfgT.ty 74 = some y74 := rfl
@[simp] theorem ct75 : cfgT.ty 75 = some y75 := rfl
@[simp] theorem ct76 : cfgT.ty 76 = some y76 := rfl
@[simp] theorem ct78 : cfgT.ty 78 = some y78 := rfl
@[simp] theorem ct79 : cfgT.ty 79 = some y79 := rfl
@[simp] theorem ct80 : cfgT.ty 80 = some y80 := rfl
@[simp] theorem ct82 : cfgT.ty 82 = some y82 := rfl
@[simp] theorem ct83 : cfgT.ty 83 = some y83 := rfl
@[simp] theorem ct84 : cfgT.ty 84 = some y84 := rfl
@[simp] theorem ct85 : cfgT.ty 85 = some y85 := rfl
@[simp] theorem ct86 : cfgT.ty 86 = some y86 := rfl
@[simp] theorem ct87 : cfgT.ty 87 = some y87 := rfl
@[simp] theorem ct88 : cfgT.ty 88 = some y88 := rfl
@[simp] theorem ct89 : cfgT.ty 89 = some y89 := rfl
@[simp] theorem ct90 : cfgT.ty 90 = some y90 := rfl
@[simp] theorem ct91 : cfgT.ty 91 = some y91 := rfl
@[simp] theorem ct92 : cfgT.ty 92 = some y92 := rfl
@[simp] theorem ct93 : cfgT.ty 93 = some y93 := rfl
@[simp] theorem ct94 : cfgT.ty 94 = some y94 := rfl
@[simp] theorem ct96 : cfgT.ty 96 = some y96 := rfl
@[simp] theorem ct97 : cfgT.ty 97 = some y97 := rfl
@[simp] theorem ct98 : cfgT.ty 98 = some y98 := rfl
@[simp] theorem ct99 : cfgT.ty 99 = some y99 := rfl
@[simp] theorem ct100 : cfgT.ty 100 = some y100 := rfl
@[simp] theorem ct101 : cfgT.ty 101 = some y101 := rfl
@[simp] theorem ct102 : cfgT.ty 102 = some y102 := rfl
@[simp] theorem ct103 : cfgT.ty 103 = some y103 := rfl
@[simp] theorem ct104 : cfgT.ty 104 = some y104 := rfl
@[simp] theorem ct105 : cfgT.ty 105 = some y105 := rfl
@[simp] theorem ct106 : cfgT.ty 106 = some y106 := rfl
@[simp] theorem ct107 : cfgT.ty 107 = some y107 := rfl
@[simp] theorem ct108 : cfgT.ty 108 = some y108 := rfl
@[simp] theorem ct109 : cfgT.ty 109 = some y109 := rfl
@[simp] theorem ct110 : cfgT.ty 110 = some y110 := rfl
@[simp] theorem ct112 : cfgT.ty 112 = some y112 := rfl
@[simp] theorem ct113 : cfgT.ty 113 = some y113 := rfl
@[simp] theorem ct114 : cfgT.ty 114 = some y114 := rfl
@[simp] theorem ct115 : cfgT.ty 115 = some y115 := rfl
@[simp] theorem ct116 : cfgT.ty 116 = some y116 := rfl
@[simp] theorem ct117 : cfgT.ty 117 = some y117 := rfl
@[simp] theorem ct118 : cfgT.ty 118 = some y118 := rfl
@[simp] theorem ct119 : cfgT.ty 119 = some y119 := rfl
@[simp] theorem ct120 : cfgT.ty 120 = some y120 := rfl
@[simp] theorem ct121 : cfgT.ty 121 = some y121 := rfl
@[simp] theorem ct122 : cfgT.ty 122 = some y122 := rfl
@[simp] theorem ct123 : cfgT.ty 123 = some y123 := rfl
@[simp] theorem ct124 : cfgT.ty 124 = some y124 := rfl
@[simp] theorem ct125 : cfgT.ty 125 = some y125 := rfl
@[simp] theorem ct126 : cfgT.ty 126 = some y126 := rfl
@[simp] theorem ct127 : cfgT.ty 127 = some y127 := rfl
@[simp] theorem ct128 : cfgT.ty 128 = some y128 := rfl
@[simp] theorem ct129 : cfgT.ty 129 = some y129 := rfl
@[simp] theorem ct130 : cfgT.ty 130 = some y130 := rfl
@[simp] theorem ct131 : cfgT.ty 131 = some y131 := rfl
@[simp] theorem ct132 : cfgT.ty 132 = some y132 := rfl
@[simp] theorem ct133 : cfgT.ty 133 = some y133 := rfl
@[simp] theorem ct134 : cfgT.ty 134 = some y134 := rfl
@[simp] theorem ct136 : cfgT.ty 136 = some y136 := rfl
@[simp] theorem ct137 : cfgT.ty 137 = some y137 := rfl
@[simp] theorem ct138 : cfgT.ty 138 = some y138 := rfl
@[simp] theorem ct139 : cfgT.ty 139 = some y139 := rfl
@[simp] theorem ct140 : cfgT.ty 140 = some y140 := rfl
@[simp] theorem ct141 : cfgT.ty 141 = some y141 := rfl
@[simp] theorem ct143 : cfgT.ty 143 = some y143 := rfl
@[simp] theorem ct144 : cfgT.ty 144 = some y144 := rfl
@[simp] theorem ct146 : cfgT.ty 146 = some y146 := rfl
@[simp] theorem ct147 : cfgT.ty 147 = some y147 := rfl
@[simp] theorem ct148 : cfgT.ty 148 = some y148 := rfl
@[simp] theorem ct149 : cfgT.ty 149 = some y149 := rfl
@[simp] theorem ct150 : cfgT.ty 150 = some y150 := rfl
@[simp] theorem ct152 : cfgT.ty 152 = some y152 := rfl
@[simp] theorem ct153 : cfgT.ty 153 = some y153 := rfl
@[simp] theorem ct154 : cfgT.ty 154 = some y154 := rfl
@[simp] theorem ct155 : cfgT.ty 155 = some y155 := rfl
@[simp] theorem ct156 : cfgT.ty 156 = some y156 := rfl
@[simp] theorem ct157 : cfgT.ty 157 = some y157 := rfl
@[simp] theorem ct159 : cfgT.ty 159 = some y159 := rfl
@[simp] theorem ct160 : cfgT.ty 160 = some y160 := rfl
@[simp] theorem ct161 : cfgT.ty 161 = some y161 := rfl
@[simp] theorem ct162 : cfgT.ty 162 = some y162 := rfl
@[simp] theorem ct163 : cfgT.ty 163 = some y163 := rfl
@[simp] theorem ct164 : cfgT.ty 164 = some y164 := rfl
@[simp] theorem ct165 : cfgT.ty 165 = some y165 := rfl
@[simp] theorem ct166 : cfgT.ty 166 = some y166 := rfl
@[simp] theorem ct167 : cfgT.ty 167 = some y167 := rfl
@[simp] theorem ct168 : cfgT.ty 168 = some y168 := rfl
@[simp] theorem ct169 : cfgT.ty 169 = some y169 := rfl
@[simp] theorem ct171 : cfgT.ty 171 = some y171 := rfl
@[simp] theorem ct172 : cfgT.ty 172 = some y172 := rfl
@[simp] theorem ct173 : cfgT.ty 173 = some y173 := rfl
@[simp] theorem ct175 : cfgT.ty 175 = some y175 := rfl
@[simp] theorem ct176 : cfgT.ty 176 = some y176 := rfl
@[simp] theorem ct177 : cfgT.ty 177 = some y177 := rfl
@[simp] theorem ct178 : cfgT.ty 178 = some y178 := rfl
@[simp] theorem ct179 : cfgT.ty 179 = some y179 := rfl
@[simp] theorem ct180 : cfgT.ty 180 = some y180 := rfl
@[simp] theorem ct181 : cfgT.ty 181 = some y181 := rfl
@[simp] theorem ct182 : cfgT.ty 182 = some y182 := rfl
@[simp] theorem ct183 : cfgT.ty 183 = some y183 := rfl
@[simp] theorem ct185 : cfgT.ty 185 = some y185 := rfl
@[simp] theorem ct186 : cfgT.ty 186 = some y186 := rfl
@[simp] theorem ct187 : cfgT.ty 187 = some y187 := rfl
@[simp] theorem ct188 : cfgT.ty 188 = some y188 := rfl
@[simp] theorem ct189 : cfgT.ty 189 = some y189 := rfl
@[simp] theorem ct191 : cfgT.ty 191 = some y191 := rfl
@[simp] theorem ct192 : cfgT.ty 192 = some y192 := rfl
@[simp] theorem ct193 : cfgT.ty 193 = some y193 := rfl
@[simp] theorem ct194 : cfgT.ty 194 = some y194 := rfl
@[simp] theorem ct195 : cfgT.ty 195 = some y195 := rfl
@[simp] theorem ct196 : cfgT.ty 196 = some y196 := rfl
@[simp] theorem ct197 : cfgT.ty 197 = some y197 := rfl
@[simp] theorem ct199 : cfgT.ty 199 = some y199 := rfl
@[simp] theorem ct200 : cfgT.ty 200 = some y200 := rfl
@[simp] theorem ct201 : cfgT.ty 201 = some y201 := rfl
@[simp] theorem ct202 : cfgT.ty 202 = some y202 := rfl
@[simp] theorem ct203 : cfgT.ty 203 = some y203 := rfl
@[simp] theorem ct204 : cfgT.ty 204 = some y204 := rfl
@[simp] theorem ct205 : cfgT.ty 205 = some y205 := rfl
@[simp] theorem ct206 : cfgT.ty 206 = some y206 := rfl
@[simp] theorem ct207 : cfgT.ty 207 = some y207 := rfl
@[simp] theorem ct208 : cfgT.ty 208 = some y208 := rfl
@[simp] theorem ct209 : cfgT.ty 209 = some y209 := rfl
@[simp] theorem ct210 : cfgT.ty 210 = some y210 := rfl
@[simp] theorem ct211 : cfgT.ty 211 = some y211 := rfl
@[simp] theorem ct212 : cfgT.ty 212 = some y212 := rfl
@[simp] theorem ct214 : cfgT.ty 214 = some y214 := rfl
@[simp] theorem ct215 : cfgT.ty 215 = some y215 := rfl
@[simp] theorem ct216 : cfgT.ty 216 = some y216 := rfl
@[simp] theorem ct217 : cfgT.ty 217 = some y217 := rfl
@[simp] theorem ct218 : cfgT.ty 218 = some y218 := rfl
@[simp] theorem ct219 : cfgT.ty 219 = some y219 := rfl
@[simp] theorem ct220 : cfgT.ty 220 = some y220 := rfl
@[simp] theorem ct221 : cfgT.ty 221 = some y221 := rfl
@[simp] theorem ct222 : cfgT.ty 222 = some y222 := rfl
@[simp] theorem ct224 : cfgT.ty 224 = some y224 := rfl
@[simp] theorem ct225 : cfgT.ty 225 = some y225 := rfl
@[simp] theorem ct227 : cfgT.ty 227 = some y227 := rfl
@[simp] theorem ct228 : cfgT.ty 228 = some y228 := rfl
@[simp] theorem ct229 : cfgT.ty 229 = some y229 := rfl
@[simp] theorem ct230 : cfgT.ty 230 = some y230 := rfl
@[simp] theorem ct231 : cfgT.ty 231 = some y231 := rfl
@[simp] theorem ct233 : cfgT.ty 233 = some y233 := rfl
@[simp] theorem ct234 : cfgT.ty 234 = some y234 := rfl
@[simp] theorem ct235 : cfgT.ty 235 = some y235 := rfl
@[simp] theorem ct236 : cfgT.ty 236 = some y236 := rfl
@[simp] theorem ct237 : cfgT.ty 237 = some y237 := rfl
@[simp] theorem ct238 : cfgT.ty 238 = some y238 := rfl
@[simp] theorem ct239 : cfgT.ty 239 = some y239 := rfl
@[simp] theorem ct240 : cfgT.ty 240 = some y240 := rfl
@[simp] theorem ct241 : cfgT.ty 241 = some y241 := rfl
@[simp] theorem ct242 : cfgT.ty 242 = some y242 := rfl
@[simp] theorem ct243 : cfgT.ty 243 = some y243 := rfl
@[simp] theorem ct244 : cfgT.ty 244 = some y244 := rfl
@[simp] theorem ct245 : cfgT.ty 245 = some y245 := rfl
@[simp] theorem ct246 : cfgT.ty 246 = some y246 := rfl
@[simp] theorem ct247 : cfgT.ty 247 = some y247 := rfl
@[simp] theorem ct248 : cfgT.ty 248 = some y248 := rfl
@[simp] theorem ct249 : cfgT.ty 249 = some y249 := rfl
@[simp] theorem ct250 : cfgT.ty 250 = some y250 := rfl
@[simp] theorem ct251 : cfgT.ty 251 = some y251 := rfl
@[simp] theorem ct252 : cfgT.ty 252 = some y252 := rfl
end Go.Proofs
namespace Go.Sh
theorem wpO_of {α : Type} {o : Option α} {x : α} {k : α → Prop} (h : o = some x) (h2 : k x) : wpO o k := by rw [h]; exact h2
theorem grdT {v : Option SV} {o : (SV → Store → Prop) → Prop} {S : Store} {k : SV → Store → Prop} (h : v = some (.bool true)) (h2 : o k) : grdP v true o S k := by rw [h]; exact h2
theorem grdF {v : Option SV} {o : (SV → Store → Prop) → Prop} {S : Store} {k : SV → Store → Prop} (h : v = some (.bool false)) (h2 : k undefS S) : grdP v true o S k := by rw [h]; exact h2
theorem cndT {v : SV} {a b : Prop} (h : v = .bool true) (h2 : a) : condP v a b := by rw [h]; exact h2
theorem cndF {v : SV} {a b : Prop} (h : v = .bool false) (h2 : b) : condP v a b := by rw [h]; exact h2

theorem slic_v {j : TyI} {es : List SV} {c : VC} {k : IntKind} {n : Nat} (hj : j.size ≠ 0) (hs : sizeIs j.size (.vsl es c) = true) (hn : n ≤ es.length) : ∃ c', (c' = .nil → c = .nil) ∧ slicS j (.vsl es c) none (some (.int k (n : Int))) none = some (.vsl (es.take n) c') := by
  refine ⟨(match c with | .nil => .nil | .exact => if n = es.length then .exact else .loose | .loose => .loose), by cases c <;> simp; split <;> simp, ?_⟩
  unfold slicS
  rw [if_neg hj]
  simp only [optNat, natS, Int.natCast_nonneg, if_true, Int.toNat_natCast, Option.map_some, Option.bind_some, hs, sliceS, Option.getD_none, Option.getD_some]
  rw [if_pos ⟨Nat.zero_le _, hn⟩]
  simp only [List.drop_zero, Nat.sub_zero]
  cases c <;> rfl
theorem mksl_ok {j : TyI} {k k' : IntKind} {n : Nat} {S : Store} (hj : j.size ≠ 0) (hz : j.zero.n = j.size) (h1 : n ≤ roomS) (h2 : n * j.bytes ≤ roomS) :
    mkslS j (.int k (n : Int)) (.int k' (n : Int)) S = some (.osl S.length j.size 0 n (some n), S ++ [.cells (List.replicate n j.zero) true]) := by
  unfold mkslS
  simp only [natS, Int.natCast_nonneg, if_true, Int.toNat_natCast, Option.bind_some]
  rw [if_neg (by simp only [not_or, Decidable.not_not]; exact ⟨hj, by omega, by omega, by omega, hz⟩)]
/-- A pure call with one slice of the caller's own, at the end of its use. -/
theorem call_row {cfg : Cfg} {f : FuncId} {id sz len : Nat} {cap : Option Nat} {es : List SV} {lv : Bool} {S : Store} {k : SV × Store → Prop} (hm : cfg.mode f = .pure) (h : S[id]? = some (.cells es lv)) (hl : len = es.length) (hp : ∀ e ∈ es, pureS e = true)
    (hk : wpO (pureW cfg f [.vsl es (if cap = some len then .exact else .loose)]) fun v => k (v, S.set id (.cells es false))) : wpO (callW cfg f [.osl id sz 0 len cap] S) k := by
  rw [callW_eq, hm]
  have ht : (es.drop 0).take len = es := by rw [hl]; simp
  obtain ⟨h1, h2⟩ := frz_row (sz := sz) (cap := cap) (off := 0) (len := len) h (by omega) (by rw [ht]; exact hp)
  rw [ht] at h1
  simp only [List.mapM_cons, List.mapM_nil, h1, List.flatMap_cons, List.flatMap_nil, h2, List.append_nil, Option.pure_def, Option.bind_eq_bind, Option.bind_some, sealS, h]
  rw [wpO_iff] at hk ⊢
  obtain ⟨v, hv, hk⟩ := hk
  exact ⟨_, by rw [hv]; rfl, hk⟩
end Go.Sh

namespace Go.Sh
theorem call_frz {cfg : Cfg} {f : FuncId} {args args' : List SV} {S : Store} {k : SV × Store → Prop} (hm : cfg.mode f = .pure) (h1 : args.mapM (frz S depthS) = some args') (h : wpO (pureW cfg f args') fun v => k (v, sealS S (args.flatMap (refs S depthS)))) : wpO (callW cfg f args S) k := by
  rw [callW_eq, hm]
  simp only [h1, Option.bind_some]
  rw [wpO_iff] at h ⊢
  obtain ⟨v, hv, h⟩ := h
  exact ⟨_, by rw [hv]; rfl, h⟩
end Go.Sh

namespace Go.Sh
theorem capM {cap : Option Nat} {len : Nat} {p : Prop} (h : (if cap = some len then VC.exact else VC.loose) = VC.nil) : p := by split at h <;> cases h
end Go.Sh
namespace Go.Sh
theorem app_row {j : TyI} {S : Store} {id off len : Nat} {cap : Option Nat} {es xs : List SV} {x : SV} (hj : j.zero.n = j.size) (hs : j.size ≠ 0) (hx : elemsS S x = some xs) (hne : xs ≠ []) (hz : sizesOk j.size xs = true)
    (h : S[id]? = some (.cells es true)) (hb1 : (len + xs.length) * j.bytes ≤ roomS) (hb2 : len + xs.length ≤ roomS) (hl : off + len ≤ es.length) (hcap : cap = none ∨ ∃ c, cap = some c ∧ c < len + xs.length) :
    appS j S (.osl id j.size off len cap) x = some (.osl S.length j.size 0 (len + xs.length) none, (if cap = none then S.set id .dead else S) ++ [.cells ((es.drop off).take len ++ xs) true]) := by
  unfold appS
  rw [if_pos hj]
  unfold appendS
  rw [hx]
  simp only [Option.bind_some]
  rw [if_neg (by simp [hne]), if_pos (by simp [hz, hs])]
  simp only [h]
  rw [if_pos (by simp [hb1, hb2, hl])]
  rcases hcap with rfl | ⟨c, rfl, hc⟩
  · simp
  · simp only []
    rw [if_neg (by omega)]
    simp
end Go.Sh

/-
  More small laws: freezing rows of numbers.
-/
set_option linter.unusedVariables false
namespace Go.Sh
theorem frz_ints {S : Store} {d : Nat} : ∀ {es : List SV}, (∀ e ∈ es, ∃ k n, e = .int k n) → es.mapM (frz S (d + 1)) = some es
  | [], _ => rfl
  | a :: r, h => by
    obtain ⟨k, n, rfl⟩ := h a List.mem_cons_self
    rw [List.mapM_cons, frz_ints (fun e he => h e (List.mem_cons_of_mem _ he))]
    rfl
theorem frz_osl {S : Store} {d id sz : Nat} {cap : Option Nat} {es : List SV} {lv : Bool} (h : S[id]? = some (.cells es lv)) (he : ∀ e ∈ es, ∃ k n, e = .int k n) :
    frz S (d + 2) (.osl id sz 0 es.length cap) = some (.vsl es (if cap = some es.length then .exact else .loose)) := by
  show (match S[id]? with
      | some (.cells es' _) => if 0 + es.length ≤ es'.length then (((es'.drop 0).take es.length).mapM (frz S (d + 1))).map fun xs => SV.vsl xs (if cap = some es.length then .exact else .loose) else none
      | _ => none) = _
  rw [h]
  simp only [Nat.zero_add, Nat.le_refl, if_true, List.drop_zero, List.take_length, frz_ints he, Option.map_some]
end Go.Sh

/-
  Numbers as words to the base 2^32. Plain: no program in sight.
-/
set_option linter.unusedVariables false
namespace Go.Proofs

/-- Every word is below the base. -/
def Bd (l : List Nat) : Prop := ∀ d ∈ l, d < 4294967296
def val : List Nat → Nat
  | [] => 0
  | d :: r => d + 4294967296 * val r
/-- Without zeros at the end. -/
def trimL (l : List Nat) : List Nat := (l.reverse.dropWhile (· == 0)).reverse
/-- The words of a number. -/
def encF : Nat → Nat → List Nat
  | 0, _ => []
  | f + 1, n => if n = 0 then [] else (n % 4294967296) :: encF f (n / 4294967296)
def encN (n : Nat) : List Nat := encF n n

theorem encF_eq : ∀ (f g n : Nat), n ≤ f → n ≤ g → encF f n = encF g n
  | 0, g, n, hf, hg => by
    have : n = 0 := by omega
    subst this
    cases g <;> simp [encF]
  | f + 1, 0, n, hf, hg => by
    have : n = 0 := by omega
    subst this
    simp [encF]
  | f + 1, g + 1, n, hf, hg => by
    simp only [encF]
    split
    · rfl
    · rw [encF_eq f g (n / 4294967296) (by omega) (by omega)]
theorem encN_zero : encN 0 = [] := rfl
theorem encN_pos {n : Nat} (h : 0 < n) : encN n = (n % 4294967296) :: encN (n / 4294967296) := by
  unfold encN
  cases n with
  | zero => omega
  | succ m =>
    rw [show encF (m + 1) (m + 1) = if m + 1 = 0 then [] else ((m + 1) % 4294967296) :: encF m ((m + 1) / 4294967296) from rfl, if_neg (by omega)]
    rw [encF_eq m ((m + 1) / 4294967296) _ (by omega) (by omega)]

theorem encN_ind {p : Nat → Prop} (h0 : p 0) (h : ∀ n, 0 < n → p (n / 4294967296) → p n) (n : Nat) : p n := by
  induction n using Nat.strongRecOn with
  | ind n ih =>
    by_cases hn : n = 0
    · subst hn; exact h0
    · exact h n (by omega) (ih _ (by omega))

theorem encN_val (n : Nat) : val (encN n) = n := by
  induction n using encN_ind with
  | h0 => rfl
  | h n hn ih => rw [encN_pos hn, val, ih]; omega
theorem encN_bd (n : Nat) : Bd (encN n) := by
  induction n using encN_ind with
  | h0 => intro d hd; cases hd
  | h n hn ih =>
    rw [encN_pos hn]
    intro d hd
    rcases List.mem_cons.1 hd with rfl | hd
    · omega
    · exact ih d hd

theorem trimL_snoc {l : List Nat} {d : Nat} : trimL (l ++ [d]) = if d = 0 then trimL l else l ++ [d] := by
  unfold trimL
  rw [List.reverse_append]
  simp only [List.reverse_cons, List.reverse_nil, List.nil_append, List.singleton_append, List.dropWhile_cons]
  by_cases h : d = 0
  · simp [h]
  · simp [h]
theorem trimL_nil : trimL [] = [] := rfl

theorem Bd.cons {d : Nat} {l : List Nat} (h : d < 4294967296) (hl : Bd l) : Bd (d :: l) := by
  intro x hx
  rcases List.mem_cons.1 hx with rfl | hx
  · exact h
  · exact hl x hx
theorem Bd.tail {d : Nat} {l : List Nat} (h : Bd (d :: l)) : Bd l := fun x hx => h x (List.mem_cons_of_mem _ hx)
theorem Bd.head {d : Nat} {l : List Nat} (h : Bd (d :: l)) : d < 4294967296 := h d List.mem_cons_self
theorem Bd.append {l m : List Nat} (h : Bd l) (h2 : Bd m) : Bd (l ++ m) := by
  intro x hx
  rcases List.mem_append.1 hx with hx | hx
  · exact h x hx
  · exact h2 x hx
theorem Bd.snoc {d : Nat} {l : List Nat} (hl : Bd l) (h : d < 4294967296) : Bd (l ++ [d]) := hl.append (Bd.cons h (fun x hx => by cases hx))
theorem Bd.nil : Bd [] := fun x hx => by cases hx
theorem Bd.get {l : List Nat} (h : Bd l) {n d : Nat} (e : l[n]? = some d) : d < 4294967296 := h d (List.mem_of_getElem? e)
theorem Bd.getD {l : List Nat} (h : Bd l) (n : Nat) : l[n]?.getD 0 < 4294967296 := by
  cases e : l[n]? with
  | none => simp
  | some d => simpa using h.get e
theorem Bd.take {l : List Nat} (h : Bd l) (n : Nat) : Bd (l.take n) := fun d hd => h d (List.mem_of_mem_take hd)

theorem val_append (l m : List Nat) : val (l ++ m) = val l + 4294967296 ^ l.length * val m := by
  induction l with
  | nil => simp [val]
  | cons d r ih =>
    simp only [List.cons_append, val, ih, List.length_cons, Nat.pow_succ]
    grind
theorem val_snoc (l : List Nat) (d : Nat) : val (l ++ [d]) = val l + 4294967296 ^ l.length * d := by rw [val_append]; simp [val]
theorem val_zeros (n : Nat) : val (List.replicate n 0) = 0 := by
  induction n with
  | zero => rfl
  | succ n ih => rw [List.replicate_succ, val, ih]
theorem val_lt {l : List Nat} (h : Bd l) : val l < 4294967296 ^ l.length := by
  induction l with
  | nil => simp [val]
  | cons d r ih =>
    have h1 := h.head
    have h2 := ih h.tail
    simp only [val, List.length_cons, Nat.pow_succ]
    omega

theorem val_eq_zero {l : List Nat} (h : val l = 0) : ∀ d ∈ l, d = 0 := by
  induction l with
  | nil => intro d hd; cases hd
  | cons a r ih =>
    simp only [val] at h
    intro d hd
    rcases List.mem_cons.1 hd with rfl | hd
    · omega
    · exact ih (by omega) d hd

theorem snoc_ind {α : Type} {p : List α → Prop} (h0 : p []) (h : ∀ l x, p l → p (l ++ [x])) (l : List α) : p l := by
  have key : ∀ m : List α, p m.reverse := by
    intro m
    induction m with
    | nil => exact h0
    | cons a r ih => rw [List.reverse_cons]; exact h _ _ ih
  have := key l.reverse
  rwa [List.reverse_reverse] at this

theorem trimL_cons {d : Nat} {l : List Nat} : trimL (d :: l) = if d = 0 ∧ trimL l = [] then [] else d :: trimL l := by
  induction l using snoc_ind with
  | h0 =>
    by_cases h : d = 0
    · subst h; rfl
    · rw [if_neg (by simp [h])]
      unfold trimL
      simp [h]
  | h l x ih =>
    rw [← List.cons_append, trimL_snoc, trimL_snoc]
    by_cases hx : x = 0
    · rw [if_pos hx, if_pos hx, ih]
    · rw [if_neg hx, if_neg hx, if_neg (by simp)]; rfl

theorem trimL_enc {l : List Nat} (h : Bd l) : trimL l = encN (val l) := by
  induction l with
  | nil => rfl
  | cons d r ih =>
    have h1 := h.head
    rw [trimL_cons, ih h.tail]
    simp only [val]
    by_cases hz : d = 0 ∧ encN (val r) = []
    · rw [if_pos hz]
      have : val r = 0 := by rw [← encN_val (val r), hz.2]; rfl
      rw [hz.1, this]; rfl
    · rw [if_neg hz]
      have hpos : 0 < d + 4294967296 * val r := by
        rcases Nat.eq_zero_or_pos (d + 4294967296 * val r) with h0 | h0
        · exfalso
          apply hz
          refine ⟨by omega, ?_⟩
          have : val r = 0 := by omega
          rw [this]; rfl
        · exact h0
      rw [encN_pos hpos]
      congr 1
      · omega
      · congr 1; omega

theorem enc_nil {n : Nat} : encN n = [] ↔ n = 0 := by
  constructor
  · intro h; rw [← encN_val n, h]; rfl
  · rintro rfl; rfl
theorem enc_len_pos {n : Nat} : 0 < (encN n).length ↔ 0 < n := by
  rw [List.length_pos_iff]
  constructor
  · intro h; rcases Nat.eq_zero_or_pos n with h0 | h0
    · exact absurd (enc_nil.2 h0) h
    · exact h0
  · intro h e; have := enc_nil.1 e; omega

theorem enc_lt {n : Nat} : n < 4294967296 ^ (encN n).length := by
  have := val_lt (encN_bd n)
  rwa [encN_val] at this
theorem enc_len_le {k : Nat} : ∀ {n : Nat}, n < 4294967296 ^ k → (encN n).length ≤ k := by
  induction k with
  | zero => intro n h; have : n = 0 := by simpa using h
            subst this; simp [encN_zero]
  | succ k ih =>
    intro n h
    rcases Nat.eq_zero_or_pos n with rfl | hn
    · simp [encN_zero]
    · rw [encN_pos hn, List.length_cons]
      have := ih (n := n / 4294967296) (by rw [Nat.div_lt_iff_lt_mul (by decide)]; rw [Nat.pow_succ] at h; exact h)
      omega
theorem enc_ge {n : Nat} (h : 0 < n) : 4294967296 ^ ((encN n).length - 1) ≤ n := by
  rcases Nat.lt_or_ge n (4294967296 ^ ((encN n).length - 1)) with h1 | h1
  · have h2 := enc_len_le h1
    have h3 := enc_len_pos.2 h
    omega
  · exact h1
theorem enc_len_mono {m n : Nat} (h : m ≤ n) : (encN m).length ≤ (encN n).length := enc_len_le (Nat.lt_of_le_of_lt h enc_lt)
theorem enc_small {n : Nat} (h : n < 4294967296) (h0 : 0 < n) : encN n = [n] := by
  rw [encN_pos h0, Nat.mod_eq_of_lt h, Nat.div_eq_of_lt h]; rfl
theorem val_take_succ (l : List Nat) (i : Nat) : val (l.take (i + 1)) = val (l.take i) + 4294967296 ^ i * (l[i]?.getD 0) := by
  rw [List.take_add_one]
  cases e : l[i]? with
  | none => simp
  | some d =>
    have hl : i < l.length := (List.getElem?_eq_some_iff.1 e).1
    simp only [Option.toList_some, Option.getD_some]
    rw [val_snoc, List.length_take, Nat.min_eq_left (by omega)]

end Go.Proofs

