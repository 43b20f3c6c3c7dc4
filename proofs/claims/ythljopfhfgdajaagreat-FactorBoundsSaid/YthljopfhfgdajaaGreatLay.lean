/-
  The functions that the law reaches, laid out.
-/
import Derived.Test.YthljopfhfgdajaaGreatShG
set_option linter.unusedVariables false
set_option linter.unusedSimpArgs false
/- Functions of the program, laid out by our own program (Lay.lean). -/
set_option linter.unusedVariables false
namespace Go.Proofs
open Go Go.Sh
set_option maxRecDepth 100000
/- ==== 9: eliminant/eliminantref01.Sign  params 1 free 0 ntmps 9
   x0=a, x1=a -/
noncomputable abbrev B9 : Code := bodyOf Tryz.f9
noncomputable def F9 (x0 : SV) (S : Store) (k : SV → Store → Prop) : Prop :=
 wpO (allocS x0 S) fun p0 =>
 wpO (fieldAddrS cfgT y32 p0.1 0) fun v1 =>
 wpO (loadS y4 p0.2 v1) fun v2 =>
 condP v2
 (k (.int .i64 (-1)) p0.2)
 (wpO (fieldAddrS cfgT y32 p0.1 1) fun v3 =>
 wpO (loadS y30 p0.2 v3) fun v4 =>
 wpO (lenS y30 v4) fun v5 =>
 wpO (foldS min2S v5 [(.int .i64 (1))]) fun v6 =>
 k v6 p0.2)
theorem F9_ok {x0 : SV} {S : Store} {k : SV → Store → Prop} (h : F9 x0 S k) : wpO (bodyW cfgT 9 [x0] S) (fun p => k p.1 p.2) := bodyP_of (fn := Tryz.f9) (by kernel_rfl) (by kernel_rfl) (Nat.le_of_ble_eq_true (by kernel_rfl)) ((show F9 x0 S k = wpC cfgT Tryz.f9.ntmps B9 (argE [x0]) S (outP cfgT Tryz.f9 k) by kernel_rfl).mp h)
/- ==== 10: eliminant/eliminantref01.Neg  params 1 free 0 ntmps 9
   x0=a, x1=a -/
noncomputable abbrev B10 : Code := bodyOf Tryz.f10
noncomputable def F10 (x0 : SV) (S : Store) (k : SV → Store → Prop) : Prop :=
 wpO (allocS x0 S) fun p0 =>
 wpO (allocS y32.zero p0.2) fun p1 =>
 wpO (fieldAddrS cfgT y32 p0.1 0) fun v2 =>
 wpO (loadS y4 p1.2 v2) fun v3 =>
 wpO (unS .not v3) fun v4 =>
 wpO (fieldAddrS cfgT y32 p0.1 1) fun v5 =>
 wpO (loadS y30 p1.2 v5) fun v6 =>
 wpO (callW cfgT 39 [v4, v6] p1.2) fun p7 =>
 wpO (storeS y32 p7.2 p1.1 p7.1) fun S8 =>
 wpO (loadS y32 S8 p1.1) fun v9 =>
 k v9 S8
theorem F10_ok {x0 : SV} {S : Store} {k : SV → Store → Prop} (h : F10 x0 S k) : wpO (bodyW cfgT 10 [x0] S) (fun p => k p.1 p.2) := bodyP_of (fn := Tryz.f10) (by kernel_rfl) (by kernel_rfl) (Nat.le_of_ble_eq_true (by kernel_rfl)) ((show F10 x0 S k = wpC cfgT Tryz.f10.ntmps B10 (argE [x0]) S (outP cfgT Tryz.f10 k) by kernel_rfl).mp h)
/- ==== 11: eliminant/eliminantref01.Cmp  params 2 free 0 ntmps 31
   x0=a, x1=b, x2=a, x3=b -/
noncomputable abbrev B11 : Code := bodyOf Tryz.f11
noncomputable def F11 (x0 x1 : SV) (S : Store) (k : SV → Store → Prop) : Prop :=
 wpO (allocS x0 S) fun p0 =>
 wpO (allocS x1 p0.2) fun p1 =>
 wpO (fieldAddrS cfgT y32 p0.1 0) fun v2 =>
 wpO (loadS y4 p1.2 v2) fun v3 =>
 grdP (some v3) true (fun k => wpO (fieldAddrS cfgT y32 p1.1 0) fun v4 => k v4 p1.2) p1.2 fun v5 S6 =>
 grdP (some v3) true (fun k => wpO (loadS y4 S6 v5) fun v7 => k v7 S6) S6 fun v8 S9 =>
 grdP (some v3) true (fun k => wpO (unS .not v8) fun v10 => k v10 S9) S9 fun v11 S12 =>
 wpO (pickS v3 v11 (.bool false)) fun v13 =>
 condP v13
 (k (.int .i64 (-1)) S12)
 (wpO (fieldAddrS cfgT y32 p0.1 0) fun v14 =>
 wpO (loadS y4 S12 v14) fun v15 =>
 wpO (unS .not v15) fun v16 =>
 grdP (some v16) true (fun k => wpO (fieldAddrS cfgT y32 p1.1 0) fun v17 => k v17 S12) S12 fun v18 S19 =>
 grdP (some v16) true (fun k => wpO (loadS y4 S19 v18) fun v20 => k v20 S19) S19 fun v21 S22 =>
 wpO (pickS v16 v21 (.bool false)) fun v23 =>
 condP v23
 (k (.int .i64 (1)) S22)
 (wpO (fieldAddrS cfgT y32 p0.1 0) fun v24 =>
 wpO (loadS y4 S22 v24) fun v25 =>
 condP v25
 (wpO (fieldAddrS cfgT y32 p1.1 1) fun v26 =>
 wpO (loadS y30 S22 v26) fun v27 =>
 wpO (fieldAddrS cfgT y32 p0.1 1) fun v28 =>
 wpO (loadS y30 S22 v28) fun v29 =>
 wpO (callW cfgT 40 [v27, v29] S22) fun p30 =>
 k p30.1 p30.2)
 (wpO (fieldAddrS cfgT y32 p0.1 1) fun v31 =>
 wpO (loadS y30 S22 v31) fun v32 =>
 wpO (fieldAddrS cfgT y32 p1.1 1) fun v33 =>
 wpO (loadS y30 S22 v33) fun v34 =>
 wpO (callW cfgT 40 [v32, v34] S22) fun p35 =>
 k p35.1 p35.2)))
theorem F11_ok {x0 x1 : SV} {S : Store} {k : SV → Store → Prop} (h : F11 x0 x1 S k) : wpO (bodyW cfgT 11 [x0, x1] S) (fun p => k p.1 p.2) := bodyP_of (fn := Tryz.f11) (by kernel_rfl) (by kernel_rfl) (Nat.le_of_ble_eq_true (by kernel_rfl)) ((show F11 x0 x1 S k = wpC cfgT Tryz.f11.ntmps B11 (argE [x0, x1]) S (outP cfgT Tryz.f11 k) by kernel_rfl).mp h)
/- ==== 23: eliminant/eliminantref01.Of  params 1 free 0 ntmps 16
   x0=n, x1=n -/
noncomputable abbrev B23 : Code := bodyOf Tryz.f23
noncomputable def F23 (x0 : SV) (S : Store) (k : SV → Store → Prop) : Prop :=
 wpO (allocS y32.zero S) fun p0 =>
 wpO (binS .lss (some y2) x0 (.int .i64 (0))) fun v1 =>
 condP v1
 (wpO (binS .add (some y2) x0 (.int .i64 (1))) fun v2 =>
 wpO (unS .neg v2) fun v3 =>
 wpO (convS y51 v3) fun v4 =>
 wpO (binS .add (some y51) v4 (.int .u64 (1))) fun v5 =>
 wpO (callW cfgT 67 [v5] p0.2) fun p6 =>
 wpO (callW cfgT 39 [(.bool true), p6.1] p6.2) fun p7 =>
 wpO (storeS y32 p7.2 p0.1 p7.1) fun S8 =>
 wpO (loadS y32 S8 p0.1) fun v9 =>
 k v9 S8)
 (wpO (convS y51 x0) fun v10 =>
 wpO (callW cfgT 67 [v10] p0.2) fun p11 =>
 wpO (callW cfgT 39 [(.bool false), p11.1] p11.2) fun p12 =>
 wpO (storeS y32 p12.2 p0.1 p12.1) fun S13 =>
 wpO (loadS y32 S13 p0.1) fun v14 =>
 k v14 S13)
theorem F23_ok {x0 : SV} {S : Store} {k : SV → Store → Prop} (h : F23 x0 S k) : wpO (bodyW cfgT 23 [x0] S) (fun p => k p.1 p.2) := bodyP_of (fn := Tryz.f23) (by kernel_rfl) (by kernel_rfl) (Nat.le_of_ble_eq_true (by kernel_rfl)) ((show F23 x0 S k = wpC cfgT Tryz.f23.ntmps B23 (argE [x0]) S (outP cfgT Tryz.f23 k) by kernel_rfl).mp h)
/- ==== 39: eliminant/eliminantref01.made  params 2 free 0 ntmps 16
   x0=neg, x1=l, x2=neg, x3=l, x5=m -/
noncomputable abbrev B39 : Code := bodyOf Tryz.f39
noncomputable def F39 (x0 x1 : SV) (S : Store) (k : SV → Store → Prop) : Prop :=
 wpO (allocS y32.zero S) fun p0 =>
 wpO (callW cfgT 82 [x1] p0.2) fun p1 =>
 grdP (some x0) true (fun k => k p1.1 p1.2) p1.2 fun v2 S3 =>
 grdP (some x0) true (fun k => wpO (lenS y30 v2) fun v4 => k v4 S3) S3 fun v5 S6 =>
 grdP (some x0) true (fun k => wpO (binS .gtr (some y3) v5 (.int .i64 (0))) fun v7 => k v7 S6) S6 fun v8 S9 =>
 wpO (pickS x0 v8 (.bool false)) fun v10 =>
 wpO (buildS cfgT y32 [(0, v10), (1, p1.1)]) fun v11 =>
 wpO (storeS y32 S9 p0.1 v11) fun S12 =>
 wpO (loadS y32 S12 p0.1) fun v13 =>
 k v13 S12
theorem F39_ok {x0 x1 : SV} {S : Store} {k : SV → Store → Prop} (h : F39 x0 x1 S k) : wpO (bodyW cfgT 39 [x0, x1] S) (fun p => k p.1 p.2) := bodyP_of (fn := Tryz.f39) (by kernel_rfl) (by kernel_rfl) (Nat.le_of_ble_eq_true (by kernel_rfl)) ((show F39 x0 x1 S k = wpC cfgT Tryz.f39.ntmps B39 (argE [x0, x1]) S (outP cfgT Tryz.f39 k) by kernel_rfl).mp h)
/- ==== 67: eliminant/eliminantref01.words  params 1 free 0 ntmps 11
   x0=n, x1=n -/
noncomputable abbrev B67 : Code := bodyOf Tryz.f67
noncomputable def F67 (x0 : SV) (S : Store) (k : SV → Store → Prop) : Prop :=
 wpO (binS .rem (some y51) x0 (.int .u64 (4294967296))) fun v0 =>
 wpO (convS y108 v0) fun v1 =>
 wpO (binS .quo (some y51) x0 (.int .u64 (4294967296))) fun v2 =>
 wpO (convS y108 v2) fun v3 =>
 wpO (bslS y108 2 [(0, v1), (1, v3)] S) fun p4 =>
 wpO (callW cfgT 82 [p4.1] p4.2) fun p5 =>
 k p5.1 p5.2
theorem F67_ok {x0 : SV} {S : Store} {k : SV → Store → Prop} (h : F67 x0 S k) : wpO (bodyW cfgT 67 [x0] S) (fun p => k p.1 p.2) := bodyP_of (fn := Tryz.f67) (by kernel_rfl) (by kernel_rfl) (Nat.le_of_ble_eq_true (by kernel_rfl)) ((show F67 x0 S k = wpC cfgT Tryz.f67.ntmps B67 (argE [x0]) S (outP cfgT Tryz.f67 k) by kernel_rfl).mp h)
/- ==== 82: eliminant/eliminantref01.trim  params 1 free 0 ntmps 21
   x0=l, x1=l, x3=n -/
noncomputable abbrev B82 : Code := bodyOf Tryz.f82
noncomputable def L82_0 : Code := codeAt [1, 1, 0, 0, 0] B82
noncomputable def K82_0 (k : SV → Store → Prop) : X → En → Store → Prop := cont cfgT 21 [1, 1, 0, 0] B82 (outP cfgT Tryz.f82 k)
noncomputable def F82 (x0 : SV) (S : Store) (k : SV → Store → Prop) : Prop :=
 wpO (lenS y30 x0) fun v0 =>
 DenP cfgT 21 (.loop L82_0) (ups (argE [x0]) [(2, (.vsl [] .nil)), (4, x0), (5, v0), (3, v0)]) S (K82_0 k)
noncomputable def TL82_0 (e : En) (S : Store) (k : X → En → Store → Prop) : Prop :=
 wpO (binS .gtr (some y3) (e 3) (.int .i64 (0))) fun v1 =>
 grdP (some v1) true (fun k => k (e 0) S) S fun v2 S3 =>
 grdP (some v1) true (fun k => k (e 3) S3) S3 fun v4 S5 =>
 grdP (some v1) true (fun k => wpO (binS .sub (some y3) v4 (.int .i64 (1))) fun v6 => k v6 S5) S5 fun v7 S8 =>
 grdP (some v1) true (fun k => wpO (indexAddrS cfgT y30 v2 v7) fun v9 => k v9 S8) S8 fun v10 S11 =>
 grdP (some v1) true (fun k => wpO (loadS y108 S11 v10) fun v12 => k v12 S11) S11 fun v13 S14 =>
 grdP (some v1) true (fun k => wpO (binS .eql (some y108) v13 (.int .u32 (0))) fun v15 => k v15 S14) S14 fun v16 S17 =>
 wpO (pickS v1 v16 (.bool false)) fun v18 =>
 condP v18
 (wpO (binS .sub (some y3) (e 3) (.int .i64 (1))) fun v19 =>
 DenP cfgT 21 (.loop L82_0) (ups e [(6, (e 3)), (7, v1), (8, v1), (9, v2), (10, v4), (11, v7), (12, v10), (13, v13), (14, v16), (15, v18), (16, (e 3)), (17, v19), (3, v19)]) S17 k)
 (k (.exit 0) (ups e [(6, (e 3)), (7, v1), (8, v1), (9, v2), (10, v4), (11, v7), (12, v10), (13, v13), (14, v16), (15, v18)]) S17)
noncomputable def TK82_0e0 (e : En) (S : Store) (k : SV → Store → Prop) : Prop :=
 wpO (slicS y108 (e 0) none (some (e 3)) none) fun v20 =>
 k v20 S
theorem F82_ok {x0 : SV} {S : Store} {k : SV → Store → Prop} (h : F82 x0 S k) : wpO (bodyW cfgT 82 [x0] S) (fun p => k p.1 p.2) := bodyP_of (fn := Tryz.f82) (by kernel_rfl) (by kernel_rfl) (Nat.le_of_ble_eq_true (by kernel_rfl)) ((show F82 x0 S k = wpC cfgT Tryz.f82.ntmps B82 (argE [x0]) S (outP cfgT Tryz.f82 k) by kernel_rfl).mp h)
theorem L82_0_ok {e : En} {S : Store} {k : X → En → Store → Prop} (h : TL82_0 e S k) : DenP cfgT 21 (.loop L82_0) e S k := loopP_of ((show TL82_0 e S k = wpC cfgT 21 L82_0 e S (againP cfgT 21 L82_0 k) by kernel_rfl).mp h)
theorem K82_0e0_ok {e : En} {S : Store} {k : SV → Store → Prop} (h : TK82_0e0 e S k) : K82_0 k (.exit 0) e S := (show TK82_0e0 e S k = K82_0 k (.exit 0) e S by kernel_rfl).mp h
/- ==== 110: eliminant/eliminantref01.number  params 1 free 0 ntmps 9
   x0=l, x1=l -/
noncomputable abbrev B110 : Code := bodyOf Tryz.f110
noncomputable def F110 (x0 : SV) (S : Store) (k : SV → Store → Prop) : Prop :=
 wpO (callW cfgT 115 [x0, (.int .i64 (1))] S) fun p0 =>
 wpO (binS .mul (some y51) p0.1 (.int .u64 (4294967296))) fun v1 =>
 wpO (callW cfgT 115 [x0, (.int .i64 (0))] p0.2) fun p2 =>
 wpO (binS .add (some y51) v1 p2.1) fun v3 =>
 k v3 p2.2
theorem F110_ok {x0 : SV} {S : Store} {k : SV → Store → Prop} (h : F110 x0 S k) : wpO (bodyW cfgT 110 [x0] S) (fun p => k p.1 p.2) := bodyP_of (fn := Tryz.f110) (by kernel_rfl) (by kernel_rfl) (Nat.le_of_ble_eq_true (by kernel_rfl)) ((show F110 x0 S k = wpC cfgT Tryz.f110.ntmps B110 (argE [x0]) S (outP cfgT Tryz.f110 k) by kernel_rfl).mp h)
/- ==== 115: eliminant/eliminantref01.word  params 2 free 0 ntmps 14
   x0=l, x1=i, x2=l, x3=i -/
noncomputable abbrev B115 : Code := bodyOf Tryz.f115
noncomputable def F115 (x0 x1 : SV) (S : Store) (k : SV → Store → Prop) : Prop :=
 wpO (lenS y30 x0) fun v0 =>
 wpO (binS .lss (some y3) x1 v0) fun v1 =>
 condP v1
 (wpO (indexAddrS cfgT y30 x0 x1) fun v2 =>
 wpO (loadS y108 S v2) fun v3 =>
 wpO (convS y51 v3) fun v4 =>
 k v4 S)
 (k (.int .u64 (0)) S)
theorem F115_ok {x0 x1 : SV} {S : Store} {k : SV → Store → Prop} (h : F115 x0 x1 S k) : wpO (bodyW cfgT 115 [x0, x1] S) (fun p => k p.1 p.2) := bodyP_of (fn := Tryz.f115) (by kernel_rfl) (by kernel_rfl) (Nat.le_of_ble_eq_true (by kernel_rfl)) ((show F115 x0 x1 S k = wpC cfgT Tryz.f115.ntmps B115 (argE [x0, x1]) S (outP cfgT Tryz.f115 k) by kernel_rfl).mp h)
/- ==== 109: eliminant/eliminantref01.euclid  params 2 free 0 ntmps 14
   x0=a, x1=b, x2=a, x3=b, x5=r -/
noncomputable abbrev B109 : Code := bodyOf Tryz.f109
noncomputable def L109_0 : Code := codeAt [1, 0, 0, 0] B109
noncomputable def K109_0 (k : SV → Store → Prop) : X → En → Store → Prop := cont cfgT 14 [1, 0, 0] B109 (outP cfgT Tryz.f109 k)
noncomputable def F109 (x0 x1 : SV) (S : Store) (k : SV → Store → Prop) : Prop :=
 DenP cfgT 14 (.loop L109_0) (ups (argE [x0, x1]) [(4, (.int .u64 (0)))]) S (K109_0 k)
noncomputable def TL109_0 (e : En) (S : Store) (k : X → En → Store → Prop) : Prop :=
 wpO (binS .gtr (some y51) (e 1) (.int .u64 (0))) fun v0 =>
 condP v0
 (wpO (binS .rem (some y51) (e 0) (e 1)) fun v1 =>
 DenP cfgT 14 (.loop L109_0) (ups e [(6, (e 1)), (7, v0), (8, (e 0)), (9, (e 1)), (10, v1), (5, v1), (11, (e 1)), (0, (e 1)), (12, v1), (1, v1)]) S k)
 (k (.exit 0) (ups e [(6, (e 1)), (7, v0)]) S)
noncomputable def TK109_0e0 (e : En) (S : Store) (k : SV → Store → Prop) : Prop :=
 k (e 0) S
theorem F109_ok {x0 x1 : SV} {S : Store} {k : SV → Store → Prop} (h : F109 x0 x1 S k) : wpO (bodyW cfgT 109 [x0, x1] S) (fun p => k p.1 p.2) := bodyP_of (fn := Tryz.f109) (by kernel_rfl) (by kernel_rfl) (Nat.le_of_ble_eq_true (by kernel_rfl)) ((show F109 x0 x1 S k = wpC cfgT Tryz.f109.ntmps B109 (argE [x0, x1]) S (outP cfgT Tryz.f109 k) by kernel_rfl).mp h)
theorem L109_0_ok {e : En} {S : Store} {k : X → En → Store → Prop} (h : TL109_0 e S k) : DenP cfgT 14 (.loop L109_0) e S k := loopP_of ((show TL109_0 e S k = wpC cfgT 14 L109_0 e S (againP cfgT 14 L109_0 k) by kernel_rfl).mp h)
theorem K109_0e0_ok {e : En} {S : Store} {k : SV → Store → Prop} (h : TK109_0e0 e S k) : K109_0 k (.exit 0) e S := (show TK109_0e0 e S k = K109_0 k (.exit 0) e S by kernel_rfl).mp h
/- ==== 40: eliminant/eliminantref01.compared  params 2 free 0 ntmps 41
   x0=a, x1=b, x2=a, x3=b, x5=i -/
noncomputable abbrev B40 : Code := bodyOf Tryz.f40
noncomputable def L40_0 : Code := codeAt [1, 1, 1, 0, 1, 0, 0] B40
noncomputable def K40_0 (k : SV → Store → Prop) : X → En → Store → Prop := cont cfgT 41 [1, 1, 1, 0, 1, 0] B40 (outP cfgT Tryz.f40 k)
noncomputable def F40 (x0 x1 : SV) (S : Store) (k : SV → Store → Prop) : Prop :=
 wpO (lenS y30 x0) fun v0 =>
 wpO (lenS y30 x1) fun v1 =>
 wpO (binS .lss (some y3) v0 v1) fun v2 =>
 condP v2
 (k (.int .i64 (-1)) S)
 (wpO (lenS y30 x0) fun v3 =>
 wpO (lenS y30 x1) fun v4 =>
 wpO (binS .gtr (some y3) v3 v4) fun v5 =>
 condP v5
 (k (.int .i64 (1)) S)
 (wpO (lenS y30 x0) fun v6 =>
 wpO (binS .sub (some y3) v6 (.int .i64 (1))) fun v7 =>
 DenP cfgT 41 (.loop L40_0) (ups (argE [x0, x1]) [(4, (.int .i64 (0))), (6, x0), (7, v0), (8, x1), (9, v1), (10, v2), (11, x0), (12, v3), (13, x1), (14, v4), (15, v5), (16, x0), (17, v6), (18, v7), (5, v7)]) S (K40_0 k)))
noncomputable def TL40_0 (e : En) (S : Store) (k : X → En → Store → Prop) : Prop :=
 wpO (binS .geq (some y3) (e 5) (.int .i64 (0))) fun v8 =>
 condP v8
 (wpO (indexAddrS cfgT y30 (e 0) (e 5)) fun v9 =>
 wpO (loadS y108 S v9) fun v10 =>
 wpO (indexAddrS cfgT y30 (e 1) (e 5)) fun v11 =>
 wpO (loadS y108 S v11) fun v12 =>
 wpO (binS .lss (some y108) v10 v12) fun v13 =>
 condP v13
 (k .ret (ups e [(19, (e 5)), (20, v8), (23, (e 0)), (24, (e 5)), (25, v9), (26, v10), (27, (e 1)), (28, (e 5)), (29, v11), (30, v12), (31, v13), (4, (.int .i64 (-1)))]) S)
 (wpO (indexAddrS cfgT y30 (e 0) (e 5)) fun v14 =>
 wpO (loadS y108 S v14) fun v15 =>
 wpO (indexAddrS cfgT y30 (e 1) (e 5)) fun v16 =>
 wpO (loadS y108 S v16) fun v17 =>
 wpO (binS .gtr (some y108) v15 v17) fun v18 =>
 condP v18
 (k .ret (ups e [(19, (e 5)), (20, v8), (23, (e 0)), (24, (e 5)), (25, v9), (26, v10), (27, (e 1)), (28, (e 5)), (29, v11), (30, v12), (31, v13), (32, (e 0)), (33, (e 5)), (34, v14), (35, v15), (36, (e 1)), (37, (e 5)), (38, v16), (39, v17), (40, v18), (4, (.int .i64 (1)))]) S)
 (wpO (binS .sub (some y3) (e 5) (.int .i64 (1))) fun v19 =>
 DenP cfgT 41 (.loop L40_0) (ups e [(19, (e 5)), (20, v8), (23, (e 0)), (24, (e 5)), (25, v9), (26, v10), (27, (e 1)), (28, (e 5)), (29, v11), (30, v12), (31, v13), (32, (e 0)), (33, (e 5)), (34, v14), (35, v15), (36, (e 1)), (37, (e 5)), (38, v16), (39, v17), (40, v18), (21, (e 5)), (22, v19), (5, v19)]) S k)))
 (k (.exit 0) (ups e [(19, (e 5)), (20, v8)]) S)
noncomputable def TK40_0e0 (e : En) (S : Store) (k : SV → Store → Prop) : Prop :=
 k (.int .i64 (0)) S
noncomputable def TK40_0r (e : En) (S : Store) (k : SV → Store → Prop) : Prop :=
 k (e 4) S
theorem F40_ok {x0 x1 : SV} {S : Store} {k : SV → Store → Prop} (h : F40 x0 x1 S k) : wpO (bodyW cfgT 40 [x0, x1] S) (fun p => k p.1 p.2) := bodyP_of (fn := Tryz.f40) (by kernel_rfl) (by kernel_rfl) (Nat.le_of_ble_eq_true (by kernel_rfl)) ((show F40 x0 x1 S k = wpC cfgT Tryz.f40.ntmps B40 (argE [x0, x1]) S (outP cfgT Tryz.f40 k) by kernel_rfl).mp h)
theorem L40_0_ok {e : En} {S : Store} {k : X → En → Store → Prop} (h : TL40_0 e S k) : DenP cfgT 41 (.loop L40_0) e S k := loopP_of ((show TL40_0 e S k = wpC cfgT 41 L40_0 e S (againP cfgT 41 L40_0 k) by kernel_rfl).mp h)
theorem K40_0e0_ok {e : En} {S : Store} {k : SV → Store → Prop} (h : TK40_0e0 e S k) : K40_0 k (.exit 0) e S := (show TK40_0e0 e S k = K40_0 k (.exit 0) e S by kernel_rfl).mp h
theorem K40_0r_ok {e : En} {S : Store} {k : SV → Store → Prop} (h : TK40_0r e S k) : K40_0 k .ret e S := (show TK40_0r e S k = K40_0 k .ret e S by kernel_rfl).mp h
end Go.Proofs

/- Functions of the program, laid out by our own program (Lay.lean). -/
set_option linter.unusedVariables false
namespace Go.Proofs
open Go Go.Sh
set_option maxRecDepth 100000
/- ==== 24: eliminant/eliminantref01.Gcd  params 2 free 0 ntmps 11
   x0=a, x1=b, x2=a, x3=b -/
noncomputable abbrev B24 : Code := bodyOf Tryz.f24
noncomputable def F24 (x0 x1 : SV) (S : Store) (k : SV → Store → Prop) : Prop :=
 wpO (allocS x0 S) fun p0 =>
 wpO (allocS x1 p0.2) fun p1 =>
 wpO (allocS y32.zero p1.2) fun p2 =>
 wpO (fieldAddrS cfgT y32 p0.1 1) fun v3 =>
 wpO (loadS y30 p2.2 v3) fun v4 =>
 wpO (fieldAddrS cfgT y32 p1.1 1) fun v5 =>
 wpO (loadS y30 p2.2 v5) fun v6 =>
 wpO (callW cfgT 68 [v4, v6] p2.2) fun p7 =>
 wpO (callW cfgT 39 [(.bool false), p7.1] p7.2) fun p8 =>
 wpO (storeS y32 p8.2 p2.1 p8.1) fun S9 =>
 wpO (loadS y32 S9 p2.1) fun v10 =>
 k v10 S9
theorem F24_ok {x0 x1 : SV} {S : Store} {k : SV → Store → Prop} (h : F24 x0 x1 S k) : wpO (bodyW cfgT 24 [x0, x1] S) (fun p => k p.1 p.2) := bodyP_of (fn := Tryz.f24) (by kernel_rfl) (by kernel_rfl) (Nat.le_of_ble_eq_true (by kernel_rfl)) ((show F24 x0 x1 S k = wpC cfgT Tryz.f24.ntmps B24 (argE [x0, x1]) S (outP cfgT Tryz.f24 k) by kernel_rfl).mp h)
/- ==== 25: eliminant/eliminantref01.DivMod  params 2 free 0 ntmps 46
   x0=a, x1=b, x2=a, x3=b, x7=q, x8=r -/
noncomputable abbrev B25 : Code := bodyOf Tryz.f25
noncomputable def F25 (x0 x1 : SV) (S : Store) (k : SV → Store → Prop) : Prop :=
 wpO (allocS x0 S) fun p0 =>
 wpO (allocS x1 p0.2) fun p1 =>
 wpO (allocS y32.zero p1.2) fun p2 =>
 wpO (allocS y32.zero p2.2) fun p3 =>
 wpO (fieldAddrS cfgT y32 p1.1 1) fun v4 =>
 wpO (loadS y30 p3.2 v4) fun v5 =>
 wpO (lenS y30 v5) fun v6 =>
 wpO (binS .eql (some y3) v6 (.int .i64 (0))) fun v7 =>
 condP v7
 (wpO (buildS cfgT y32 []) fun v8 =>
 wpO (buildS cfgT y32 []) fun v9 =>
 wpO (storeS y32 p3.2 p2.1 v8) fun S10 =>
 wpO (storeS y32 S10 p3.1 v9) fun S11 =>
 wpO (loadS y32 S11 p2.1) fun v12 =>
 wpO (loadS y32 S11 p3.1) fun v13 =>
 k (.tup [v12, v13, (.int .i64 (10))]) S11)
 (wpO (fieldAddrS cfgT y32 p0.1 1) fun v14 =>
 wpO (loadS y30 p3.2 v14) fun v15 =>
 wpO (fieldAddrS cfgT y32 p1.1 1) fun v16 =>
 wpO (loadS y30 p3.2 v16) fun v17 =>
 wpO (callW cfgT 69 [v15, v17] p3.2) fun p18 =>
 wpO (extS p18.1 0) fun v19 =>
 wpO (extS p18.1 1) fun v20 =>
 wpO (fieldAddrS cfgT y32 p0.1 0) fun v21 =>
 wpO (loadS y4 p18.2 v21) fun v22 =>
 grdP (some v22) true (fun k => k v20 p18.2) p18.2 fun v23 S24 =>
 grdP (some v22) true (fun k => wpO (lenS y30 v23) fun v25 => k v25 S24) S24 fun v26 S27 =>
 grdP (some v22) true (fun k => wpO (binS .gtr (some y3) v26 (.int .i64 (0))) fun v28 => k v28 S27) S27 fun v29 S30 =>
 wpO (pickS v22 v29 (.bool false)) fun v31 =>
 condP v31
 (wpO (bslS y108 1 [(0, (.int .u32 (1)))] S30) fun p32 =>
 wpO (callW cfgT 70 [v19, p32.1] p32.2) fun p33 =>
 wpO (fieldAddrS cfgT y32 p1.1 1) fun v34 =>
 wpO (loadS y30 p33.2 v34) fun v35 =>
 wpO (callW cfgT 71 [v35, v20] p33.2) fun p36 =>
 wpO (fieldAddrS cfgT y32 p0.1 0) fun v37 =>
 wpO (loadS y4 p36.2 v37) fun v38 =>
 wpO (fieldAddrS cfgT y32 p1.1 0) fun v39 =>
 wpO (loadS y4 p36.2 v39) fun v40 =>
 wpO (binS .neq (some y4) v38 v40) fun v41 =>
 wpO (callW cfgT 39 [v41, p33.1] p36.2) fun p42 =>
 wpO (callW cfgT 39 [(.bool false), p36.1] p42.2) fun p43 =>
 wpO (storeS y32 p43.2 p2.1 p42.1) fun S44 =>
 wpO (storeS y32 S44 p3.1 p43.1) fun S45 =>
 wpO (loadS y32 S45 p2.1) fun v46 =>
 wpO (loadS y32 S45 p3.1) fun v47 =>
 k (.tup [v46, v47, (.int .i64 (0))]) S45)
 (wpO (fieldAddrS cfgT y32 p0.1 0) fun v48 =>
 wpO (loadS y4 S30 v48) fun v49 =>
 wpO (fieldAddrS cfgT y32 p1.1 0) fun v50 =>
 wpO (loadS y4 S30 v50) fun v51 =>
 wpO (binS .neq (some y4) v49 v51) fun v52 =>
 wpO (callW cfgT 39 [v52, v19] S30) fun p53 =>
 wpO (callW cfgT 39 [(.bool false), v20] p53.2) fun p54 =>
 wpO (storeS y32 p54.2 p2.1 p53.1) fun S55 =>
 wpO (storeS y32 S55 p3.1 p54.1) fun S56 =>
 wpO (loadS y32 S56 p2.1) fun v57 =>
 wpO (loadS y32 S56 p3.1) fun v58 =>
 k (.tup [v57, v58, (.int .i64 (0))]) S56))
theorem F25_ok {x0 x1 : SV} {S : Store} {k : SV → Store → Prop} (h : F25 x0 x1 S k) : wpO (bodyW cfgT 25 [x0, x1] S) (fun p => k p.1 p.2) := bodyP_of (fn := Tryz.f25) (by kernel_rfl) (by kernel_rfl) (Nat.le_of_ble_eq_true (by kernel_rfl)) ((show F25 x0 x1 S k = wpC cfgT Tryz.f25.ntmps B25 (argE [x0, x1]) S (outP cfgT Tryz.f25 k) by kernel_rfl).mp h)
/- ==== 26: eliminant/eliminantref01.Mul  params 2 free 0 ntmps 16
   x0=a, x1=b, x2=a, x3=b -/
noncomputable abbrev B26 : Code := bodyOf Tryz.f26
noncomputable def F26 (x0 x1 : SV) (S : Store) (k : SV → Store → Prop) : Prop :=
 wpO (allocS x0 S) fun p0 =>
 wpO (allocS x1 p0.2) fun p1 =>
 wpO (allocS y32.zero p1.2) fun p2 =>
 wpO (fieldAddrS cfgT y32 p0.1 0) fun v3 =>
 wpO (loadS y4 p2.2 v3) fun v4 =>
 wpO (fieldAddrS cfgT y32 p1.1 0) fun v5 =>
 wpO (loadS y4 p2.2 v5) fun v6 =>
 wpO (binS .neq (some y4) v4 v6) fun v7 =>
 wpO (fieldAddrS cfgT y32 p0.1 1) fun v8 =>
 wpO (loadS y30 p2.2 v8) fun v9 =>
 wpO (fieldAddrS cfgT y32 p1.1 1) fun v10 =>
 wpO (loadS y30 p2.2 v10) fun v11 =>
 wpO (callW cfgT 72 [v9, v11] p2.2) fun p12 =>
 wpO (callW cfgT 39 [v7, p12.1] p12.2) fun p13 =>
 wpO (storeS y32 p13.2 p2.1 p13.1) fun S14 =>
 wpO (loadS y32 S14 p2.1) fun v15 =>
 k v15 S14
theorem F26_ok {x0 x1 : SV} {S : Store} {k : SV → Store → Prop} (h : F26 x0 x1 S k) : wpO (bodyW cfgT 26 [x0, x1] S) (fun p => k p.1 p.2) := bodyP_of (fn := Tryz.f26) (by kernel_rfl) (by kernel_rfl) (Nat.le_of_ble_eq_true (by kernel_rfl)) ((show F26 x0 x1 S k = wpC cfgT Tryz.f26.ntmps B26 (argE [x0, x1]) S (outP cfgT Tryz.f26 k) by kernel_rfl).mp h)
/- ==== 30: eliminant/eliminantref01.Add  params 2 free 0 ntmps 40
   x0=a, x1=b, x2=a, x3=b -/
noncomputable abbrev B30 : Code := bodyOf Tryz.f30
noncomputable def F30 (x0 x1 : SV) (S : Store) (k : SV → Store → Prop) : Prop :=
 wpO (allocS x0 S) fun p0 =>
 wpO (allocS x1 p0.2) fun p1 =>
 wpO (allocS y32.zero p1.2) fun p2 =>
 wpO (fieldAddrS cfgT y32 p0.1 0) fun v3 =>
 wpO (loadS y4 p2.2 v3) fun v4 =>
 wpO (fieldAddrS cfgT y32 p1.1 0) fun v5 =>
 wpO (loadS y4 p2.2 v5) fun v6 =>
 wpO (binS .eql (some y4) v4 v6) fun v7 =>
 condP v7
 (wpO (fieldAddrS cfgT y32 p0.1 0) fun v8 =>
 wpO (loadS y4 p2.2 v8) fun v9 =>
 wpO (fieldAddrS cfgT y32 p0.1 1) fun v10 =>
 wpO (loadS y30 p2.2 v10) fun v11 =>
 wpO (fieldAddrS cfgT y32 p1.1 1) fun v12 =>
 wpO (loadS y30 p2.2 v12) fun v13 =>
 wpO (callW cfgT 70 [v11, v13] p2.2) fun p14 =>
 wpO (callW cfgT 39 [v9, p14.1] p14.2) fun p15 =>
 wpO (storeS y32 p15.2 p2.1 p15.1) fun S16 =>
 wpO (loadS y32 S16 p2.1) fun v17 =>
 k v17 S16)
 (wpO (fieldAddrS cfgT y32 p0.1 1) fun v18 =>
 wpO (loadS y30 p2.2 v18) fun v19 =>
 wpO (fieldAddrS cfgT y32 p1.1 1) fun v20 =>
 wpO (loadS y30 p2.2 v20) fun v21 =>
 wpO (callW cfgT 40 [v19, v21] p2.2) fun p22 =>
 wpO (binS .lss (some y3) p22.1 (.int .i64 (0))) fun v23 =>
 condP v23
 (wpO (fieldAddrS cfgT y32 p1.1 0) fun v24 =>
 wpO (loadS y4 p22.2 v24) fun v25 =>
 wpO (fieldAddrS cfgT y32 p1.1 1) fun v26 =>
 wpO (loadS y30 p22.2 v26) fun v27 =>
 wpO (fieldAddrS cfgT y32 p0.1 1) fun v28 =>
 wpO (loadS y30 p22.2 v28) fun v29 =>
 wpO (callW cfgT 71 [v27, v29] p22.2) fun p30 =>
 wpO (callW cfgT 39 [v25, p30.1] p30.2) fun p31 =>
 wpO (storeS y32 p31.2 p2.1 p31.1) fun S32 =>
 wpO (loadS y32 S32 p2.1) fun v33 =>
 k v33 S32)
 (wpO (fieldAddrS cfgT y32 p0.1 0) fun v34 =>
 wpO (loadS y4 p22.2 v34) fun v35 =>
 wpO (fieldAddrS cfgT y32 p0.1 1) fun v36 =>
 wpO (loadS y30 p22.2 v36) fun v37 =>
 wpO (fieldAddrS cfgT y32 p1.1 1) fun v38 =>
 wpO (loadS y30 p22.2 v38) fun v39 =>
 wpO (callW cfgT 71 [v37, v39] p22.2) fun p40 =>
 wpO (callW cfgT 39 [v35, p40.1] p40.2) fun p41 =>
 wpO (storeS y32 p41.2 p2.1 p41.1) fun S42 =>
 wpO (loadS y32 S42 p2.1) fun v43 =>
 k v43 S42))
theorem F30_ok {x0 x1 : SV} {S : Store} {k : SV → Store → Prop} (h : F30 x0 x1 S k) : wpO (bodyW cfgT 30 [x0, x1] S) (fun p => k p.1 p.2) := bodyP_of (fn := Tryz.f30) (by kernel_rfl) (by kernel_rfl) (Nat.le_of_ble_eq_true (by kernel_rfl)) ((show F30 x0 x1 S k = wpC cfgT Tryz.f30.ntmps B30 (argE [x0, x1]) S (outP cfgT Tryz.f30 k) by kernel_rfl).mp h)
/- ==== 68: eliminant/eliminantref01.common  params 2 free 0 ntmps 33
   x0=a, x1=b, x2=a, x3=b, x5=_, x6=r -/
noncomputable abbrev B68 : Code := bodyOf Tryz.f68
noncomputable def L68_0 : Code := codeAt [1, 0, 0, 0] B68
noncomputable def K68_0 (k : SV → Store → Prop) : X → En → Store → Prop := cont cfgT 33 [1, 0, 0] B68 (outP cfgT Tryz.f68 k)
noncomputable def F68 (x0 x1 : SV) (S : Store) (k : SV → Store → Prop) : Prop :=
 DenP cfgT 33 (.loop L68_0) (ups (argE [x0, x1]) [(4, (.vsl [] .nil))]) S (K68_0 k)
noncomputable def TL68_0 (e : En) (S : Store) (k : X → En → Store → Prop) : Prop :=
 wpO (lenS y30 (e 1)) fun v0 =>
 wpO (binS .gtr (some y3) v0 (.int .i64 (0))) fun v1 =>
 condP v1
 (wpO (lenS y30 (e 0)) fun v2 =>
 wpO (binS .leq (some y3) v2 (.int .i64 (2))) fun v3 =>
 grdP (some v3) true (fun k => k (e 1) S) S fun v4 S5 =>
 grdP (some v3) true (fun k => wpO (lenS y30 v4) fun v6 => k v6 S5) S5 fun v7 S8 =>
 grdP (some v3) true (fun k => wpO (binS .leq (some y3) v7 (.int .i64 (2))) fun v9 => k v9 S8) S8 fun v10 S11 =>
 wpO (pickS v3 v10 (.bool false)) fun v12 =>
 condP v12
 (wpO (callW cfgT 110 [(e 0)] S11) fun p13 =>
 wpO (callW cfgT 110 [(e 1)] p13.2) fun p14 =>
 wpO (callW cfgT 109 [p13.1, p14.1] p14.2) fun p15 =>
 wpO (callW cfgT 67 [p15.1] p15.2) fun p16 =>
 k .ret (ups e [(7, (e 1)), (8, v0), (9, v1), (10, (e 0)), (11, v2), (12, v3), (13, v3), (14, v4), (15, v7), (16, v10), (17, v12), (18, (e 0)), (19, p13.1), (20, (e 1)), (21, p14.1), (22, p15.1), (23, p16.1), (4, p16.1)]) p16.2)
 (wpO (callW cfgT 69 [(e 0), (e 1)] S11) fun p17 =>
 wpO (extS p17.1 0) fun v18 =>
 wpO (extS p17.1 1) fun v19 =>
 DenP cfgT 33 (.loop L68_0) (ups e [(7, (e 1)), (8, v0), (9, v1), (10, (e 0)), (11, v2), (12, v3), (13, v3), (14, v4), (15, v7), (16, v10), (17, v12), (25, (e 0)), (26, (e 1)), (27, p17.1), (24, p17.1), (28, v18), (29, v19), (5, v18), (6, v19), (30, (e 1)), (0, (e 1)), (31, v19), (1, v19)]) p17.2 k))
 (k (.exit 0) (ups e [(7, (e 1)), (8, v0), (9, v1)]) S)
noncomputable def TK68_0e0 (e : En) (S : Store) (k : SV → Store → Prop) : Prop :=
 k (e 0) S
noncomputable def TK68_0r (e : En) (S : Store) (k : SV → Store → Prop) : Prop :=
 k (e 4) S
theorem F68_ok {x0 x1 : SV} {S : Store} {k : SV → Store → Prop} (h : F68 x0 x1 S k) : wpO (bodyW cfgT 68 [x0, x1] S) (fun p => k p.1 p.2) := bodyP_of (fn := Tryz.f68) (by kernel_rfl) (by kernel_rfl) (Nat.le_of_ble_eq_true (by kernel_rfl)) ((show F68 x0 x1 S k = wpC cfgT Tryz.f68.ntmps B68 (argE [x0, x1]) S (outP cfgT Tryz.f68 k) by kernel_rfl).mp h)
theorem L68_0_ok {e : En} {S : Store} {k : X → En → Store → Prop} (h : TL68_0 e S k) : DenP cfgT 33 (.loop L68_0) e S k := loopP_of ((show TL68_0 e S k = wpC cfgT 33 L68_0 e S (againP cfgT 33 L68_0 k) by kernel_rfl).mp h)
theorem K68_0e0_ok {e : En} {S : Store} {k : SV → Store → Prop} (h : TK68_0e0 e S k) : K68_0 k (.exit 0) e S := (show TK68_0e0 e S k = K68_0 k (.exit 0) e S by kernel_rfl).mp h
theorem K68_0r_ok {e : En} {S : Store} {k : SV → Store → Prop} (h : TK68_0r e S k) : K68_0 k .ret e S := (show TK68_0r e S k = K68_0 k .ret e S by kernel_rfl).mp h
/- ==== 69: eliminant/eliminantref01.divided  params 2 free 0 ntmps 110
   x0=a, x1=b, x2=a, x3=b, x6=q, x7=r, x8=n, x9=d, x10=v, x11=u, x12=q, x13=j, x14=part, x15=digit, x16=r, x17=_ -/
noncomputable abbrev B69 : Code := bodyOf Tryz.f69
noncomputable def L69_0 : Code := codeAt [1, 1, 1, 1, 1, 1, 1, 1, 1, 0, 1, 0, 0] B69
noncomputable def K69_0 (k : SV → Store → Prop) : X → En → Store → Prop := cont cfgT 110 [1, 1, 1, 1, 1, 1, 1, 1, 1, 0, 1, 0] B69 (outP cfgT Tryz.f69 k)
noncomputable def F69 (x0 x1 : SV) (S : Store) (k : SV → Store → Prop) : Prop :=
 wpO (callW cfgT 40 [x0, x1] S) fun p0 =>
 wpO (binS .lss (some y3) p0.1 (.int .i64 (0))) fun v1 =>
 condP v1
 (k (.tup [(.vsl [] .nil), x0]) p0.2)
 (wpO (lenS y30 x1) fun v2 =>
 wpO (binS .eql (some y3) v2 (.int .i64 (1))) fun v3 =>
 condP v3
 (wpO (indexAddrS cfgT y30 x1 (.int .i64 (0))) fun v4 =>
 wpO (loadS y108 p0.2 v4) fun v5 =>
 wpO (convS y51 v5) fun v6 =>
 wpO (callW cfgT 111 [x0, v6] p0.2) fun p7 =>
 wpO (extS p7.1 0) fun v8 =>
 wpO (extS p7.1 1) fun v9 =>
 wpO (callW cfgT 67 [v9] p7.2) fun p10 =>
 k (.tup [v8, p10.1]) p10.2)
 (wpO (lenS y30 x1) fun v11 =>
 wpO (binS .sub (some y3) v11 (.int .i64 (1))) fun v12 =>
 wpO (indexAddrS cfgT y30 x1 v12) fun v13 =>
 wpO (loadS y108 p0.2 v13) fun v14 =>
 wpO (convS y51 v14) fun v15 =>
 wpO (binS .add (some y51) v15 (.int .u64 (1))) fun v16 =>
 wpO (binS .quo (some y51) (.int .u64 (4294967296)) v16) fun v17 =>
 wpO (callW cfgT 67 [v17] p0.2) fun p18 =>
 wpO (callW cfgT 72 [x1, p18.1] p18.2) fun p19 =>
 wpO (lenS y30 x0) fun v20 =>
 wpO (binS .add (some y3) v20 (.int .i64 (1))) fun v21 =>
 wpO (mkslS y108 v21 v21 p19.2) fun p22 =>
 wpO (callW cfgT 67 [v17] p22.2) fun p23 =>
 wpO (callW cfgT 72 [x0, p23.1] p23.2) fun p24 =>
 wpO (copyS y108.size p24.2 p22.1 p24.1) fun p25 =>
 wpO (lenS y30 x0) fun v26 =>
 wpO (binS .sub (some y3) v26 v11) fun v27 =>
 wpO (binS .add (some y3) v27 (.int .i64 (1))) fun v28 =>
 wpO (mkslS y108 v28 v28 p25.2) fun p29 =>
 wpO (lenS y30 x0) fun v30 =>
 wpO (binS .sub (some y3) v30 v11) fun v31 =>
 DenP cfgT 110 (.loop L69_0) (ups (argE [x0, x1]) [(4, (.vsl [] .nil)), (5, (.vsl [] .nil)), (18, x0), (19, x1), (20, p0.1), (21, v1), (23, x1), (24, v2), (25, v3), (38, x1), (39, v11), (8, v11), (40, x1), (41, v11), (42, v12), (43, v13), (44, v14), (45, v15), (46, v16), (47, v17), (9, v17), (48, x1), (49, v17), (50, p18.1), (51, p19.1), (10, p19.1), (52, x0), (53, v20), (54, v21), (55, p22.1), (11, p22.1), (56, p22.1), (57, x0), (58, v17), (59, p23.1), (60, p24.1), (61, p25.1), (62, x0), (63, v26), (64, v11), (65, v27), (66, v28), (67, p29.1), (12, p29.1), (68, x0), (69, v30), (70, v11), (71, v31), (13, v31)]) p29.2 (K69_0 k)))
noncomputable def TL69_0 (e : En) (S : Store) (k : X → En → Store → Prop) : Prop :=
 wpO (binS .geq (some y3) (e 13) (.int .i64 (0))) fun v32 =>
 condP v32
 (wpO (binS .add (some y3) (e 13) (e 8)) fun v33 =>
 wpO (binS .add (some y3) v33 (.int .i64 (1))) fun v34 =>
 wpO (slicS y108 (e 11) (some (e 13)) (some v34) none) fun v35 =>
 wpO (callW cfgT 112 [v35, (e 10)] S) fun p36 =>
 wpO (callW cfgT 113 [v35, (e 10), p36.1] p36.2) fun p37 =>
 condP p37.1
 (wpO (binS .sub (some y51) p36.1 (.int .u64 (1))) fun v38 =>
 wpO (callW cfgT 114 [v35, (e 10)] p37.2) fun p39 =>
 wpO (convS y108 v38) fun v40 =>
 wpO (indexAddrS cfgT y30 (e 12) (e 13)) fun v41 =>
 wpO (storeS y108 p39.2 v41 v40) fun S42 =>
 wpO (binS .sub (some y3) (e 13) (.int .i64 (1))) fun v43 =>
 DenP cfgT 110 (.loop L69_0) (ups e [(72, (e 13)), (73, v32), (76, (e 11)), (77, (e 13)), (78, (e 13)), (79, (e 8)), (80, v33), (81, v34), (82, v35), (14, v35), (83, v35), (84, (e 10)), (85, p36.1), (15, p36.1), (86, v35), (87, (e 10)), (88, p36.1), (89, p37.1), (90, p36.1), (91, v38), (15, v38), (92, v35), (93, (e 10)), (94, p39.1), (95, (e 12)), (96, (e 13)), (97, v38), (98, v40), (99, v41), (74, (e 13)), (75, v43), (13, v43)]) S42 k)
 (wpO (convS y108 p36.1) fun v44 =>
 wpO (indexAddrS cfgT y30 (e 12) (e 13)) fun v45 =>
 wpO (storeS y108 p37.2 v45 v44) fun S46 =>
 wpO (binS .sub (some y3) (e 13) (.int .i64 (1))) fun v47 =>
 DenP cfgT 110 (.loop L69_0) (ups e [(72, (e 13)), (73, v32), (76, (e 11)), (77, (e 13)), (78, (e 13)), (79, (e 8)), (80, v33), (81, v34), (82, v35), (14, v35), (83, v35), (84, (e 10)), (85, p36.1), (15, p36.1), (86, v35), (87, (e 10)), (88, p36.1), (89, p37.1), (95, (e 12)), (96, (e 13)), (97, p36.1), (98, v44), (99, v45), (74, (e 13)), (75, v47), (13, v47)]) S46 k))
 (k (.exit 0) (ups e [(72, (e 13)), (73, v32)]) S)
noncomputable def TK69_0e0 (e : En) (S : Store) (k : SV → Store → Prop) : Prop :=
 wpO (callW cfgT 82 [(e 11)] S) fun p48 =>
 wpO (callW cfgT 111 [p48.1, (e 9)] p48.2) fun p49 =>
 wpO (extS p49.1 0) fun v50 =>
 wpO (extS p49.1 1) fun v51 =>
 wpO (callW cfgT 82 [(e 12)] p49.2) fun p52 =>
 k (.tup [p52.1, v50]) p52.2
theorem F69_ok {x0 x1 : SV} {S : Store} {k : SV → Store → Prop} (h : F69 x0 x1 S k) : wpO (bodyW cfgT 69 [x0, x1] S) (fun p => k p.1 p.2) := bodyP_of (fn := Tryz.f69) (by kernel_rfl) (by kernel_rfl) (Nat.le_of_ble_eq_true (by kernel_rfl)) ((show F69 x0 x1 S k = wpC cfgT Tryz.f69.ntmps B69 (argE [x0, x1]) S (outP cfgT Tryz.f69 k) by kernel_rfl).mp h)
theorem L69_0_ok {e : En} {S : Store} {k : X → En → Store → Prop} (h : TL69_0 e S k) : DenP cfgT 110 (.loop L69_0) e S k := loopP_of ((show TL69_0 e S k = wpC cfgT 110 L69_0 e S (againP cfgT 110 L69_0 k) by kernel_rfl).mp h)
theorem K69_0e0_ok {e : En} {S : Store} {k : SV → Store → Prop} (h : TK69_0e0 e S k) : K69_0 k (.exit 0) e S := (show TK69_0e0 e S k = K69_0 k (.exit 0) e S by kernel_rfl).mp h
/- ==== 70: eliminant/eliminantref01.added  params 2 free 0 ntmps 42
   x0=a, x1=b, x2=a, x3=b, x5=n, x6=out, x7=carry, x8=i, x9=t -/
noncomputable abbrev B70 : Code := bodyOf Tryz.f70
noncomputable def L70_0 : Code := codeAt [1, 1, 1, 1, 0, 1, 0, 0] B70
noncomputable def K70_0 (k : SV → Store → Prop) : X → En → Store → Prop := cont cfgT 42 [1, 1, 1, 1, 0, 1, 0] B70 (outP cfgT Tryz.f70 k)
noncomputable def F70 (x0 x1 : SV) (S : Store) (k : SV → Store → Prop) : Prop :=
 wpO (lenS y30 x0) fun v0 =>
 wpO (lenS y30 x1) fun v1 =>
 wpO (foldS max2S v0 [v1]) fun v2 =>
 wpO (binS .add (some y3) v2 (.int .i64 (1))) fun v3 =>
 wpO (mkslS y108 v3 v3 S) fun p4 =>
 DenP cfgT 42 (.loop L70_0) (ups (argE [x0, x1]) [(4, (.vsl [] .nil)), (10, x0), (11, v0), (12, x1), (13, v1), (14, v2), (15, v3), (5, v3), (16, v3), (17, p4.1), (6, p4.1), (7, (.int .u64 (0))), (8, (.int .i64 (0)))]) p4.2 (K70_0 k)
noncomputable def TL70_0 (e : En) (S : Store) (k : X → En → Store → Prop) : Prop :=
 wpO (binS .lss (some y3) (e 8) (e 5)) fun v5 =>
 condP v5
 (wpO (callW cfgT 115 [(e 0), (e 8)] S) fun p6 =>
 wpO (callW cfgT 115 [(e 1), (e 8)] p6.2) fun p7 =>
 wpO (binS .add (some y51) p6.1 p7.1) fun v8 =>
 wpO (binS .add (some y51) v8 (e 7)) fun v9 =>
 wpO (binS .rem (some y51) v9 (.int .u64 (4294967296))) fun v10 =>
 wpO (convS y108 v10) fun v11 =>
 wpO (indexAddrS cfgT y30 (e 6) (e 8)) fun v12 =>
 wpO (storeS y108 p7.2 v12 v11) fun S13 =>
 wpO (binS .quo (some y51) v9 (.int .u64 (4294967296))) fun v14 =>
 wpO (binS .add (some y3) (e 8) (.int .i64 (1))) fun v15 =>
 DenP cfgT 42 (.loop L70_0) (ups e [(18, (e 8)), (19, (e 5)), (20, v5), (23, (e 0)), (24, (e 8)), (25, p6.1), (26, (e 1)), (27, (e 8)), (28, p7.1), (29, v8), (30, (e 7)), (31, v9), (9, v9), (32, (e 6)), (33, (e 8)), (34, v9), (35, v10), (36, v11), (37, v12), (38, v9), (39, v14), (7, v14), (21, (e 8)), (22, v15), (8, v15)]) S13 k)
 (k (.exit 0) (ups e [(18, (e 8)), (19, (e 5)), (20, v5)]) S)
noncomputable def TK70_0e0 (e : En) (S : Store) (k : SV → Store → Prop) : Prop :=
 wpO (callW cfgT 82 [(e 6)] S) fun p16 =>
 k p16.1 p16.2
theorem F70_ok {x0 x1 : SV} {S : Store} {k : SV → Store → Prop} (h : F70 x0 x1 S k) : wpO (bodyW cfgT 70 [x0, x1] S) (fun p => k p.1 p.2) := bodyP_of (fn := Tryz.f70) (by kernel_rfl) (by kernel_rfl) (Nat.le_of_ble_eq_true (by kernel_rfl)) ((show F70 x0 x1 S k = wpC cfgT Tryz.f70.ntmps B70 (argE [x0, x1]) S (outP cfgT Tryz.f70 k) by kernel_rfl).mp h)
theorem L70_0_ok {e : En} {S : Store} {k : X → En → Store → Prop} (h : TL70_0 e S k) : DenP cfgT 42 (.loop L70_0) e S k := loopP_of ((show TL70_0 e S k = wpC cfgT 42 L70_0 e S (againP cfgT 42 L70_0 k) by kernel_rfl).mp h)
theorem K70_0e0_ok {e : En} {S : Store} {k : SV → Store → Prop} (h : TK70_0e0 e S k) : K70_0 k (.exit 0) e S := (show TK70_0e0 e S k = K70_0 k (.exit 0) e S by kernel_rfl).mp h
/- ==== 71: eliminant/eliminantref01.taken  params 2 free 0 ntmps 41
   x0=a, x1=b, x2=a, x3=b, x5=out, x6=borrow, x7=i, x8=t -/
noncomputable abbrev B71 : Code := bodyOf Tryz.f71
noncomputable def L71_0 : Code := codeAt [1, 1, 1, 0, 1, 0, 0] B71
noncomputable def K71_0 (k : SV → Store → Prop) : X → En → Store → Prop := cont cfgT 41 [1, 1, 1, 0, 1, 0] B71 (outP cfgT Tryz.f71 k)
noncomputable def F71 (x0 x1 : SV) (S : Store) (k : SV → Store → Prop) : Prop :=
 wpO (lenS y30 x0) fun v0 =>
 wpO (mkslS y108 v0 v0 S) fun p1 =>
 DenP cfgT 41 (.loop L71_0) (ups (argE [x0, x1]) [(4, (.vsl [] .nil)), (9, x0), (10, v0), (11, p1.1), (5, p1.1), (6, (.int .u64 (0))), (7, (.int .i64 (0)))]) p1.2 (K71_0 k)
noncomputable def TL71_0 (e : En) (S : Store) (k : X → En → Store → Prop) : Prop :=
 wpO (lenS y30 (e 0)) fun v2 =>
 wpO (binS .lss (some y3) (e 7) v2) fun v3 =>
 condP v3
 (wpO (indexAddrS cfgT y30 (e 0) (e 7)) fun v4 =>
 wpO (loadS y108 S v4) fun v5 =>
 wpO (convS y51 v5) fun v6 =>
 wpO (binS .add (some y51) (.int .u64 (4294967296)) v6) fun v7 =>
 wpO (callW cfgT 115 [(e 1), (e 7)] S) fun p8 =>
 wpO (binS .sub (some y51) v7 p8.1) fun v9 =>
 wpO (binS .sub (some y51) v9 (e 6)) fun v10 =>
 wpO (binS .rem (some y51) v10 (.int .u64 (4294967296))) fun v11 =>
 wpO (convS y108 v11) fun v12 =>
 wpO (indexAddrS cfgT y30 (e 5) (e 7)) fun v13 =>
 wpO (storeS y108 p8.2 v13 v12) fun S14 =>
 wpO (binS .quo (some y51) v10 (.int .u64 (4294967296))) fun v15 =>
 wpO (binS .sub (some y51) (.int .u64 (1)) v15) fun v16 =>
 wpO (binS .add (some y3) (e 7) (.int .i64 (1))) fun v17 =>
 DenP cfgT 41 (.loop L71_0) (ups e [(12, (e 7)), (13, (e 0)), (14, v2), (15, v3), (18, (e 0)), (19, (e 7)), (20, v4), (21, v5), (22, v6), (23, v7), (24, (e 1)), (25, (e 7)), (26, p8.1), (27, v9), (28, (e 6)), (29, v10), (8, v10), (30, (e 5)), (31, (e 7)), (32, v10), (33, v11), (34, v12), (35, v13), (36, v10), (37, v15), (38, v16), (6, v16), (16, (e 7)), (17, v17), (7, v17)]) S14 k)
 (k (.exit 0) (ups e [(12, (e 7)), (13, (e 0)), (14, v2), (15, v3)]) S)
noncomputable def TK71_0e0 (e : En) (S : Store) (k : SV → Store → Prop) : Prop :=
 wpO (callW cfgT 82 [(e 5)] S) fun p18 =>
 k p18.1 p18.2
theorem F71_ok {x0 x1 : SV} {S : Store} {k : SV → Store → Prop} (h : F71 x0 x1 S k) : wpO (bodyW cfgT 71 [x0, x1] S) (fun p => k p.1 p.2) := bodyP_of (fn := Tryz.f71) (by kernel_rfl) (by kernel_rfl) (Nat.le_of_ble_eq_true (by kernel_rfl)) ((show F71 x0 x1 S k = wpC cfgT Tryz.f71.ntmps B71 (argE [x0, x1]) S (outP cfgT Tryz.f71 k) by kernel_rfl).mp h)
theorem L71_0_ok {e : En} {S : Store} {k : X → En → Store → Prop} (h : TL71_0 e S k) : DenP cfgT 41 (.loop L71_0) e S k := loopP_of ((show TL71_0 e S k = wpC cfgT 41 L71_0 e S (againP cfgT 41 L71_0 k) by kernel_rfl).mp h)
theorem K71_0e0_ok {e : En} {S : Store} {k : SV → Store → Prop} (h : TK71_0e0 e S k) : K71_0 k (.exit 0) e S := (show TK71_0e0 e S k = K71_0 k (.exit 0) e S by kernel_rfl).mp h
/- ==== 72: eliminant/eliminantref01.times  params 2 free 0 ntmps 69
   x0=a, x1=b, x2=a, x3=b, x5=out, x6=i, x7=carry, x8=k, x9=t -/
noncomputable abbrev B72 : Code := bodyOf Tryz.f72
noncomputable def L72_0 : Code := codeAt [1, 1, 0, 1, 0, 0] B72
noncomputable def L72_1 : Code := codeAt [1, 1, 0, 1, 0, 0, 1, 0, 0, 1, 0, 1, 0, 0] B72
noncomputable def K72_0 (k : SV → Store → Prop) : X → En → Store → Prop := cont cfgT 69 [1, 1, 0, 1, 0] B72 (outP cfgT Tryz.f72 k)
noncomputable def K72_1 (k : X → En → Store → Prop) : X → En → Store → Prop := cont cfgT 69 [1, 0, 0, 1, 0, 1, 0] L72_0 (againP cfgT 69 L72_0 k)
noncomputable def F72 (x0 x1 : SV) (S : Store) (k : SV → Store → Prop) : Prop :=
 wpO (lenS y30 x0) fun v0 =>
 wpO (lenS y30 x1) fun v1 =>
 wpO (binS .add (some y3) v0 v1) fun v2 =>
 wpO (mkslS y108 v2 v2 S) fun p3 =>
 DenP cfgT 69 (.loop L72_0) (ups (argE [x0, x1]) [(4, (.vsl [] .nil)), (10, x0), (11, v0), (12, x1), (13, v1), (14, v2), (15, p3.1), (5, p3.1), (6, (.int .i64 (0)))]) p3.2 (K72_0 k)
noncomputable def TL72_0 (e : En) (S : Store) (k : X → En → Store → Prop) : Prop :=
 wpO (lenS y30 (e 0)) fun v4 =>
 wpO (binS .lss (some y3) (e 6) v4) fun v5 =>
 condP v5
 (DenP cfgT 69 (.loop L72_1) (ups e [(16, (e 6)), (17, (e 0)), (18, v4), (19, v5), (7, (.int .u64 (0))), (8, (.int .i64 (0)))]) S (K72_1 k))
 (k (.exit 0) (ups e [(16, (e 6)), (17, (e 0)), (18, v4), (19, v5)]) S)
noncomputable def TL72_1 (e : En) (S : Store) (k : X → En → Store → Prop) : Prop :=
 wpO (lenS y30 (e 1)) fun v6 =>
 wpO (binS .lss (some y3) (e 8) v6) fun v7 =>
 condP v7
 (wpO (indexAddrS cfgT y30 (e 0) (e 6)) fun v8 =>
 wpO (loadS y108 S v8) fun v9 =>
 wpO (convS y51 v9) fun v10 =>
 wpO (indexAddrS cfgT y30 (e 1) (e 8)) fun v11 =>
 wpO (loadS y108 S v11) fun v12 =>
 wpO (convS y51 v12) fun v13 =>
 wpO (binS .mul (some y51) v10 v13) fun v14 =>
 wpO (binS .add (some y3) (e 6) (e 8)) fun v15 =>
 wpO (indexAddrS cfgT y30 (e 5) v15) fun v16 =>
 wpO (loadS y108 S v16) fun v17 =>
 wpO (convS y51 v17) fun v18 =>
 wpO (binS .add (some y51) v14 v18) fun v19 =>
 wpO (binS .add (some y51) v19 (e 7)) fun v20 =>
 wpO (binS .add (some y3) (e 6) (e 8)) fun v21 =>
 wpO (binS .rem (some y51) v20 (.int .u64 (4294967296))) fun v22 =>
 wpO (convS y108 v22) fun v23 =>
 wpO (indexAddrS cfgT y30 (e 5) v21) fun v24 =>
 wpO (storeS y108 S v24 v23) fun S25 =>
 wpO (binS .quo (some y51) v20 (.int .u64 (4294967296))) fun v26 =>
 wpO (binS .add (some y3) (e 8) (.int .i64 (1))) fun v27 =>
 DenP cfgT 69 (.loop L72_1) (ups e [(22, (e 8)), (23, (e 1)), (24, v6), (25, v7), (28, (e 0)), (29, (e 6)), (30, v8), (31, v9), (32, v10), (33, (e 1)), (34, (e 8)), (35, v11), (36, v12), (37, v13), (38, v14), (39, (e 5)), (40, (e 6)), (41, (e 8)), (42, v15), (43, v16), (44, v17), (45, v18), (46, v19), (47, (e 7)), (48, v20), (9, v20), (49, (e 5)), (50, (e 6)), (51, (e 8)), (52, v21), (53, v20), (54, v22), (55, v23), (56, v24), (57, v20), (58, v26), (7, v26), (26, (e 8)), (27, v27), (8, v27)]) S25 k)
 (k (.exit 2) (ups e [(22, (e 8)), (23, (e 1)), (24, v6), (25, v7)]) S)
noncomputable def TK72_0e0 (e : En) (S : Store) (k : SV → Store → Prop) : Prop :=
 wpO (callW cfgT 82 [(e 5)] S) fun p28 =>
 k p28.1 p28.2
noncomputable def TK72_1e2 (e : En) (S : Store) (k : X → En → Store → Prop) : Prop :=
 wpO (lenS y30 (e 1)) fun v29 =>
 wpO (binS .add (some y3) (e 6) v29) fun v30 =>
 wpO (convS y108 (e 7)) fun v31 =>
 wpO (indexAddrS cfgT y30 (e 5) v30) fun v32 =>
 wpO (storeS y108 S v32 v31) fun S33 =>
 wpO (binS .add (some y3) (e 6) (.int .i64 (1))) fun v34 =>
 DenP cfgT 69 (.loop L72_0) (ups e [(59, (e 5)), (60, (e 6)), (61, (e 1)), (62, v29), (63, v30), (64, (e 7)), (65, v31), (66, v32), (20, (e 6)), (21, v34), (6, v34)]) S33 k
theorem F72_ok {x0 x1 : SV} {S : Store} {k : SV → Store → Prop} (h : F72 x0 x1 S k) : wpO (bodyW cfgT 72 [x0, x1] S) (fun p => k p.1 p.2) := bodyP_of (fn := Tryz.f72) (by kernel_rfl) (by kernel_rfl) (Nat.le_of_ble_eq_true (by kernel_rfl)) ((show F72 x0 x1 S k = wpC cfgT Tryz.f72.ntmps B72 (argE [x0, x1]) S (outP cfgT Tryz.f72 k) by kernel_rfl).mp h)
theorem L72_0_ok {e : En} {S : Store} {k : X → En → Store → Prop} (h : TL72_0 e S k) : DenP cfgT 69 (.loop L72_0) e S k := loopP_of ((show TL72_0 e S k = wpC cfgT 69 L72_0 e S (againP cfgT 69 L72_0 k) by kernel_rfl).mp h)
theorem L72_1_ok {e : En} {S : Store} {k : X → En → Store → Prop} (h : TL72_1 e S k) : DenP cfgT 69 (.loop L72_1) e S k := loopP_of ((show TL72_1 e S k = wpC cfgT 69 L72_1 e S (againP cfgT 69 L72_1 k) by kernel_rfl).mp h)
theorem K72_0e0_ok {e : En} {S : Store} {k : SV → Store → Prop} (h : TK72_0e0 e S k) : K72_0 k (.exit 0) e S := (show TK72_0e0 e S k = K72_0 k (.exit 0) e S by kernel_rfl).mp h
theorem K72_1e2_ok {e : En} {S : Store} {k : X → En → Store → Prop} (h : TK72_1e2 e S k) : K72_1 k (.exit 2) e S := (show TK72_1e2 e S k = K72_1 k (.exit 2) e S by kernel_rfl).mp h
/- ==== 111: eliminant/eliminantref01.shortly  params 2 free 0 ntmps 41
   x0=a, x1=d, x2=a, x3=d, x6=out, x7=r, x8=i, x9=t -/
noncomputable abbrev B111 : Code := bodyOf Tryz.f111
noncomputable def L111_0 : Code := codeAt [1, 1, 1, 0, 1, 0, 0] B111
noncomputable def K111_0 (k : SV → Store → Prop) : X → En → Store → Prop := cont cfgT 41 [1, 1, 1, 0, 1, 0] B111 (outP cfgT Tryz.f111 k)
noncomputable def F111 (x0 x1 : SV) (S : Store) (k : SV → Store → Prop) : Prop :=
 wpO (lenS y30 x0) fun v0 =>
 wpO (mkslS y108 v0 v0 S) fun p1 =>
 wpO (lenS y30 x0) fun v2 =>
 wpO (binS .sub (some y3) v2 (.int .i64 (1))) fun v3 =>
 DenP cfgT 41 (.loop L111_0) (ups (argE [x0, x1]) [(4, (.vsl [] .nil)), (5, (.int .u64 (0))), (10, x0), (11, v0), (12, p1.1), (6, p1.1), (7, (.int .u64 (0))), (13, x0), (14, v2), (15, v3), (8, v3)]) p1.2 (K111_0 k)
noncomputable def TL111_0 (e : En) (S : Store) (k : X → En → Store → Prop) : Prop :=
 wpO (binS .geq (some y3) (e 8) (.int .i64 (0))) fun v4 =>
 condP v4
 (wpO (binS .mul (some y51) (e 7) (.int .u64 (4294967296))) fun v5 =>
 wpO (indexAddrS cfgT y30 (e 0) (e 8)) fun v6 =>
 wpO (loadS y108 S v6) fun v7 =>
 wpO (convS y51 v7) fun v8 =>
 wpO (binS .add (some y51) v5 v8) fun v9 =>
 wpO (binS .quo (some y51) v9 (e 1)) fun v10 =>
 wpO (convS y108 v10) fun v11 =>
 wpO (indexAddrS cfgT y30 (e 6) (e 8)) fun v12 =>
 wpO (storeS y108 S v12 v11) fun S13 =>
 wpO (binS .rem (some y51) v9 (e 1)) fun v14 =>
 wpO (binS .sub (some y3) (e 8) (.int .i64 (1))) fun v15 =>
 DenP cfgT 41 (.loop L111_0) (ups e [(16, (e 8)), (17, v4), (20, (e 7)), (21, v5), (22, (e 0)), (23, (e 8)), (24, v6), (25, v7), (26, v8), (27, v9), (9, v9), (28, (e 6)), (29, (e 8)), (30, v9), (31, (e 1)), (32, v10), (33, v11), (34, v12), (35, v9), (36, (e 1)), (37, v14), (7, v14), (18, (e 8)), (19, v15), (8, v15)]) S13 k)
 (k (.exit 0) (ups e [(16, (e 8)), (17, v4)]) S)
noncomputable def TK111_0e0 (e : En) (S : Store) (k : SV → Store → Prop) : Prop :=
 wpO (callW cfgT 82 [(e 6)] S) fun p16 =>
 k (.tup [p16.1, (e 7)]) p16.2
theorem F111_ok {x0 x1 : SV} {S : Store} {k : SV → Store → Prop} (h : F111 x0 x1 S k) : wpO (bodyW cfgT 111 [x0, x1] S) (fun p => k p.1 p.2) := bodyP_of (fn := Tryz.f111) (by kernel_rfl) (by kernel_rfl) (Nat.le_of_ble_eq_true (by kernel_rfl)) ((show F111 x0 x1 S k = wpC cfgT Tryz.f111.ntmps B111 (argE [x0, x1]) S (outP cfgT Tryz.f111 k) by kernel_rfl).mp h)
theorem L111_0_ok {e : En} {S : Store} {k : X → En → Store → Prop} (h : TL111_0 e S k) : DenP cfgT 41 (.loop L111_0) e S k := loopP_of ((show TL111_0 e S k = wpC cfgT 41 L111_0 e S (againP cfgT 41 L111_0 k) by kernel_rfl).mp h)
theorem K111_0e0_ok {e : En} {S : Store} {k : SV → Store → Prop} (h : TK111_0e0 e S k) : K111_0 k (.exit 0) e S := (show TK111_0e0 e S k = K111_0 k (.exit 0) e S by kernel_rfl).mp h
end Go.Proofs

/- Functions of the program, laid out by our own program (Lay.lean). -/
set_option linter.unusedVariables false
namespace Go.Proofs
open Go Go.Sh
set_option maxRecDepth 100000
/- ==== 34: eliminant/integer.Sign  params 1 free 0 ntmps 9
   x0=a, x1=a -/
noncomputable abbrev B34 : Code := bodyOf Tryz.f34
noncomputable def F34 (x0 : SV) (S : Store) (k : SV → Store → Prop) : Prop :=
 wpO (allocS x0 S) fun p0 =>
 wpO (fieldAddrS cfgT y32 p0.1 0) fun v1 =>
 wpO (loadS y4 p0.2 v1) fun v2 =>
 condP v2
 (k (.int .i64 (-1)) p0.2)
 (wpO (fieldAddrS cfgT y32 p0.1 1) fun v3 =>
 wpO (loadS y30 p0.2 v3) fun v4 =>
 wpO (lenS y30 v4) fun v5 =>
 wpO (foldS min2S v5 [(.int .i64 (1))]) fun v6 =>
 k v6 p0.2)
theorem F34_ok {x0 : SV} {S : Store} {k : SV → Store → Prop} (h : F34 x0 S k) : wpO (bodyW cfgT 34 [x0] S) (fun p => k p.1 p.2) := bodyP_of (fn := Tryz.f34) (by kernel_rfl) (by kernel_rfl) (Nat.le_of_ble_eq_true (by kernel_rfl)) ((show F34 x0 S k = wpC cfgT Tryz.f34.ntmps B34 (argE [x0]) S (outP cfgT Tryz.f34 k) by kernel_rfl).mp h)
/- ==== 35: eliminant/integer.Neg  params 1 free 0 ntmps 9
   x0=a, x1=a -/
noncomputable abbrev B35 : Code := bodyOf Tryz.f35
noncomputable def F35 (x0 : SV) (S : Store) (k : SV → Store → Prop) : Prop :=
 wpO (allocS x0 S) fun p0 =>
 wpO (allocS y32.zero p0.2) fun p1 =>
 wpO (fieldAddrS cfgT y32 p0.1 1) fun v2 =>
 wpO (loadS y30 p1.2 v2) fun v3 =>
 wpO (fieldAddrS cfgT y32 p0.1 0) fun v4 =>
 wpO (loadS y4 p1.2 v4) fun v5 =>
 wpO (unS .not v5) fun v6 =>
 wpO (callW cfgT 76 [v3, v6] p1.2) fun p7 =>
 wpO (storeS y32 p7.2 p1.1 p7.1) fun S8 =>
 wpO (loadS y32 S8 p1.1) fun v9 =>
 k v9 S8
theorem F35_ok {x0 : SV} {S : Store} {k : SV → Store → Prop} (h : F35 x0 S k) : wpO (bodyW cfgT 35 [x0] S) (fun p => k p.1 p.2) := bodyP_of (fn := Tryz.f35) (by kernel_rfl) (by kernel_rfl) (Nat.le_of_ble_eq_true (by kernel_rfl)) ((show F35 x0 S k = wpC cfgT Tryz.f35.ntmps B35 (argE [x0]) S (outP cfgT Tryz.f35 k) by kernel_rfl).mp h)
/- ==== 36: eliminant/integer.Add  params 2 free 0 ntmps 40
   x0=a, x1=b, x2=a, x3=b, x5=x, x6=y -/
noncomputable abbrev B36 : Code := bodyOf Tryz.f36
noncomputable def F36 (x0 x1 : SV) (S : Store) (k : SV → Store → Prop) : Prop :=
 wpO (allocS x0 S) fun p0 =>
 wpO (allocS x1 p0.2) fun p1 =>
 wpO (allocS y32.zero p1.2) fun p2 =>
 wpO (fieldAddrS cfgT y32 p0.1 1) fun v3 =>
 wpO (loadS y30 p2.2 v3) fun v4 =>
 wpO (fieldAddrS cfgT y32 p1.1 1) fun v5 =>
 wpO (loadS y30 p2.2 v5) fun v6 =>
 wpO (fieldAddrS cfgT y32 p0.1 0) fun v7 =>
 wpO (loadS y4 p2.2 v7) fun v8 =>
 wpO (fieldAddrS cfgT y32 p1.1 0) fun v9 =>
 wpO (loadS y4 p2.2 v9) fun v10 =>
 wpO (binS .eql (some y4) v8 v10) fun v11 =>
 condP v11
 (wpO (callW cfgT 77 [v4, v6] p2.2) fun p12 =>
 wpO (fieldAddrS cfgT y32 p0.1 0) fun v13 =>
 wpO (loadS y4 p12.2 v13) fun v14 =>
 wpO (callW cfgT 76 [p12.1, v14] p12.2) fun p15 =>
 wpO (storeS y32 p15.2 p2.1 p15.1) fun S16 =>
 wpO (loadS y32 S16 p2.1) fun v17 =>
 k v17 S16)
 (wpO (callW cfgT 78 [v4, v6] p2.2) fun p18 =>
 wpO (binS .lss (some y3) p18.1 (.int .i64 (0))) fun v19 =>
 condP v19
 (wpO (callW cfgT 79 [v6, v4] p18.2) fun p20 =>
 wpO (fieldAddrS cfgT y32 p1.1 0) fun v21 =>
 wpO (loadS y4 p20.2 v21) fun v22 =>
 wpO (callW cfgT 76 [p20.1, v22] p20.2) fun p23 =>
 wpO (storeS y32 p23.2 p2.1 p23.1) fun S24 =>
 wpO (loadS y32 S24 p2.1) fun v25 =>
 k v25 S24)
 (wpO (callW cfgT 79 [v4, v6] p18.2) fun p26 =>
 wpO (fieldAddrS cfgT y32 p0.1 0) fun v27 =>
 wpO (loadS y4 p26.2 v27) fun v28 =>
 wpO (callW cfgT 76 [p26.1, v28] p26.2) fun p29 =>
 wpO (storeS y32 p29.2 p2.1 p29.1) fun S30 =>
 wpO (loadS y32 S30 p2.1) fun v31 =>
 k v31 S30))
theorem F36_ok {x0 x1 : SV} {S : Store} {k : SV → Store → Prop} (h : F36 x0 x1 S k) : wpO (bodyW cfgT 36 [x0, x1] S) (fun p => k p.1 p.2) := bodyP_of (fn := Tryz.f36) (by kernel_rfl) (by kernel_rfl) (Nat.le_of_ble_eq_true (by kernel_rfl)) ((show F36 x0 x1 S k = wpC cfgT Tryz.f36.ntmps B36 (argE [x0, x1]) S (outP cfgT Tryz.f36 k) by kernel_rfl).mp h)
/- ==== 38: eliminant/integer.Mul  params 2 free 0 ntmps 16
   x0=a, x1=b, x2=a, x3=b -/
noncomputable abbrev B38 : Code := bodyOf Tryz.f38
noncomputable def F38 (x0 x1 : SV) (S : Store) (k : SV → Store → Prop) : Prop :=
 wpO (allocS x0 S) fun p0 =>
 wpO (allocS x1 p0.2) fun p1 =>
 wpO (allocS y32.zero p1.2) fun p2 =>
 wpO (fieldAddrS cfgT y32 p0.1 1) fun v3 =>
 wpO (loadS y30 p2.2 v3) fun v4 =>
 wpO (fieldAddrS cfgT y32 p1.1 1) fun v5 =>
 wpO (loadS y30 p2.2 v5) fun v6 =>
 wpO (callW cfgT 81 [v4, v6] p2.2) fun p7 =>
 wpO (fieldAddrS cfgT y32 p0.1 0) fun v8 =>
 wpO (loadS y4 p7.2 v8) fun v9 =>
 wpO (fieldAddrS cfgT y32 p1.1 0) fun v10 =>
 wpO (loadS y4 p7.2 v10) fun v11 =>
 wpO (binS .neq (some y4) v9 v11) fun v12 =>
 wpO (callW cfgT 76 [p7.1, v12] p7.2) fun p13 =>
 wpO (storeS y32 p13.2 p2.1 p13.1) fun S14 =>
 wpO (loadS y32 S14 p2.1) fun v15 =>
 k v15 S14
theorem F38_ok {x0 x1 : SV} {S : Store} {k : SV → Store → Prop} (h : F38 x0 x1 S k) : wpO (bodyW cfgT 38 [x0, x1] S) (fun p => k p.1 p.2) := bodyP_of (fn := Tryz.f38) (by kernel_rfl) (by kernel_rfl) (Nat.le_of_ble_eq_true (by kernel_rfl)) ((show F38 x0 x1 S k = wpC cfgT Tryz.f38.ntmps B38 (argE [x0, x1]) S (outP cfgT Tryz.f38 k) by kernel_rfl).mp h)
/- ==== 75: eliminant/integer.natural  params 1 free 0 ntmps 10
   x0=n, x1=n -/
noncomputable abbrev B75 : Code := bodyOf Tryz.f75
noncomputable def F75 (x0 : SV) (S : Store) (k : SV → Store → Prop) : Prop :=
 wpO (convS y108 x0) fun v0 =>
 wpO (binS .shr (some y51) x0 (.int .u64 (32))) fun v1 =>
 wpO (convS y108 v1) fun v2 =>
 wpO (bslS y108 2 [(0, v0), (1, v2)] S) fun p3 =>
 wpO (callW cfgT 117 [p3.1] p3.2) fun p4 =>
 k p4.1 p4.2
theorem F75_ok {x0 : SV} {S : Store} {k : SV → Store → Prop} (h : F75 x0 S k) : wpO (bodyW cfgT 75 [x0] S) (fun p => k p.1 p.2) := bodyP_of (fn := Tryz.f75) (by kernel_rfl) (by kernel_rfl) (Nat.le_of_ble_eq_true (by kernel_rfl)) ((show F75 x0 S k = wpC cfgT Tryz.f75.ntmps B75 (argE [x0]) S (outP cfgT Tryz.f75 k) by kernel_rfl).mp h)
/- ==== 76: (eliminant/integer.nat).signed  params 2 free 0 ntmps 16
   x0=x, x1=neg, x2=x, x3=neg -/
noncomputable abbrev B76 : Code := bodyOf Tryz.f76
noncomputable def F76 (x0 x1 : SV) (S : Store) (k : SV → Store → Prop) : Prop :=
 wpO (allocS y32.zero S) fun p0 =>
 wpO (callW cfgT 117 [x0] p0.2) fun p1 =>
 grdP (some x1) true (fun k => k p1.1 p1.2) p1.2 fun v2 S3 =>
 grdP (some x1) true (fun k => wpO (lenS y115 v2) fun v4 => k v4 S3) S3 fun v5 S6 =>
 grdP (some x1) true (fun k => wpO (binS .gtr (some y3) v5 (.int .i64 (0))) fun v7 => k v7 S6) S6 fun v8 S9 =>
 wpO (pickS x1 v8 (.bool false)) fun v10 =>
 wpO (callW cfgT 118 [p1.1] S9) fun p11 =>
 wpO (buildS cfgT y32 [(0, v10), (1, p11.1)]) fun v12 =>
 wpO (storeS y32 p11.2 p0.1 v12) fun S13 =>
 wpO (loadS y32 S13 p0.1) fun v14 =>
 k v14 S13
theorem F76_ok {x0 x1 : SV} {S : Store} {k : SV → Store → Prop} (h : F76 x0 x1 S k) : wpO (bodyW cfgT 76 [x0, x1] S) (fun p => k p.1 p.2) := bodyP_of (fn := Tryz.f76) (by kernel_rfl) (by kernel_rfl) (Nat.le_of_ble_eq_true (by kernel_rfl)) ((show F76 x0 x1 S k = wpC cfgT Tryz.f76.ntmps B76 (argE [x0, x1]) S (outP cfgT Tryz.f76 k) by kernel_rfl).mp h)
/- ==== 77: (eliminant/integer.nat).add  params 2 free 0 ntmps 42
   x0=x, x1=y, x2=x, x3=y, x5=n, x6=out, x7=carry, x8=i -/
noncomputable abbrev B77 : Code := bodyOf Tryz.f77
noncomputable def L77_0 : Code := codeAt [1, 1, 1, 1, 0, 1, 0, 0] B77
noncomputable def K77_0 (k : SV → Store → Prop) : X → En → Store → Prop := cont cfgT 42 [1, 1, 1, 1, 0, 1, 0] B77 (outP cfgT Tryz.f77 k)
noncomputable def F77 (x0 x1 : SV) (S : Store) (k : SV → Store → Prop) : Prop :=
 wpO (lenS y115 x0) fun v0 =>
 wpO (lenS y115 x1) fun v1 =>
 wpO (foldS max2S v0 [v1]) fun v2 =>
 wpO (binS .add (some y3) v2 (.int .i64 (1))) fun v3 =>
 wpO (mkslS y108 v3 v3 S) fun p4 =>
 DenP cfgT 42 (.loop L77_0) (ups (argE [x0, x1]) [(4, (.vsl [] .nil)), (9, x0), (10, v0), (11, x1), (12, v1), (13, v2), (5, v2), (14, v2), (15, v3), (16, p4.1), (6, p4.1), (7, (.int .u32 (0))), (17, v2), (18, (.int .i64 (0)))]) p4.2 (K77_0 k)
noncomputable def TL77_0 (e : En) (S : Store) (k : X → En → Store → Prop) : Prop :=
 wpO (binS .lss (some y3) (e 18) (e 17)) fun v5 =>
 condP v5
 (wpO (callW cfgT 120 [(e 0), (e 18)] S) fun p6 =>
 wpO (callW cfgT 120 [(e 1), (e 18)] p6.2) fun p7 =>
 wpO (callW cfgT 119 [p6.1, p7.1, (e 7)] p7.2) fun p8 =>
 wpO (extS p8.1 0) fun v9 =>
 wpO (extS p8.1 1) fun v10 =>
 wpO (indexAddrS cfgT y115 (e 6) (e 18)) fun v11 =>
 wpO (storeS y108 p8.2 v11 v9) fun S12 =>
 wpO (binS .add (some y3) (e 18) (.int .i64 (1))) fun v13 =>
 DenP cfgT 42 (.loop L77_0) (ups e [(19, v5), (20, (e 18)), (8, (e 18)), (22, (e 6)), (23, (e 18)), (24, (e 0)), (25, (e 18)), (26, p6.1), (27, (e 1)), (28, (e 18)), (29, p7.1), (30, (e 7)), (31, p8.1), (21, p8.1), (32, v9), (33, v10), (34, v11), (7, v10), (35, v13), (18, v13)]) S12 k)
 (k (.exit 0) (ups e [(19, v5)]) S)
noncomputable def TK77_0e0 (e : En) (S : Store) (k : SV → Store → Prop) : Prop :=
 wpO (indexAddrS cfgT y115 (e 6) (e 5)) fun v14 =>
 wpO (storeS y108 S v14 (e 7)) fun S15 =>
 wpO (callW cfgT 117 [(e 6)] S15) fun p16 =>
 k p16.1 p16.2
theorem F77_ok {x0 x1 : SV} {S : Store} {k : SV → Store → Prop} (h : F77 x0 x1 S k) : wpO (bodyW cfgT 77 [x0, x1] S) (fun p => k p.1 p.2) := bodyP_of (fn := Tryz.f77) (by kernel_rfl) (by kernel_rfl) (Nat.le_of_ble_eq_true (by kernel_rfl)) ((show F77 x0 x1 S k = wpC cfgT Tryz.f77.ntmps B77 (argE [x0, x1]) S (outP cfgT Tryz.f77 k) by kernel_rfl).mp h)
theorem L77_0_ok {e : En} {S : Store} {k : X → En → Store → Prop} (h : TL77_0 e S k) : DenP cfgT 42 (.loop L77_0) e S k := loopP_of ((show TL77_0 e S k = wpC cfgT 42 L77_0 e S (againP cfgT 42 L77_0 k) by kernel_rfl).mp h)
theorem K77_0e0_ok {e : En} {S : Store} {k : SV → Store → Prop} (h : TK77_0e0 e S k) : K77_0 k (.exit 0) e S := (show TK77_0e0 e S k = K77_0 k (.exit 0) e S by kernel_rfl).mp h
/- ==== 81: (eliminant/integer.nat).mul  params 2 free 0 ntmps 67
   x0=x, x1=y, x2=x, x3=y, x5=out, x6=i, x7=a, x8=carry, x9=k, x10=b -/
noncomputable abbrev B81 : Code := bodyOf Tryz.f81
noncomputable def L81_0 : Code := codeAt [1, 1, 0, 1, 0, 0] B81
noncomputable def L81_1 : Code := codeAt [1, 1, 0, 1, 0, 0, 1, 1, 0, 0, 1, 1, 0, 1, 0, 0] B81
noncomputable def K81_0 (k : SV → Store → Prop) : X → En → Store → Prop := cont cfgT 67 [1, 1, 0, 1, 0] B81 (outP cfgT Tryz.f81 k)
noncomputable def K81_1 (k : X → En → Store → Prop) : X → En → Store → Prop := cont cfgT 67 [1, 1, 0, 0, 1, 1, 0, 1, 0] L81_0 (againP cfgT 67 L81_0 k)
noncomputable def F81 (x0 x1 : SV) (S : Store) (k : SV → Store → Prop) : Prop :=
 wpO (lenS y115 x0) fun v0 =>
 wpO (lenS y115 x1) fun v1 =>
 wpO (binS .add (some y3) v0 v1) fun v2 =>
 wpO (mkslS y108 v2 v2 S) fun p3 =>
 wpO (lenS y115 x0) fun v4 =>
 DenP cfgT 67 (.loop L81_0) (ups (argE [x0, x1]) [(4, (.vsl [] .nil)), (11, x0), (12, v0), (13, x1), (14, v1), (15, v2), (16, p3.1), (5, p3.1), (17, x0), (18, v4), (19, (.int .i64 (0)))]) p3.2 (K81_0 k)
noncomputable def TL81_0 (e : En) (S : Store) (k : X → En → Store → Prop) : Prop :=
 wpO (binS .lss (some y3) (e 19) (e 18)) fun v5 =>
 condP v5
 (wpO (indexAddrS cfgT y115 (e 17) (e 19)) fun v6 =>
 wpO (loadS y108 S v6) fun v7 =>
 wpO (lenS y115 (e 1)) fun v8 =>
 DenP cfgT 67 (.loop L81_1) (ups e [(20, v5), (21, (e 19)), (22, v6), (23, v7), (6, (e 19)), (7, v7), (8, (.int .u64 (0))), (24, (e 1)), (25, v8), (26, (.int .i64 (0)))]) S (K81_1 k))
 (k (.exit 0) (ups e [(20, v5)]) S)
noncomputable def TL81_1 (e : En) (S : Store) (k : X → En → Store → Prop) : Prop :=
 wpO (binS .lss (some y3) (e 26) (e 25)) fun v9 =>
 condP v9
 (wpO (indexAddrS cfgT y115 (e 24) (e 26)) fun v10 =>
 wpO (loadS y108 S v10) fun v11 =>
 wpO (convS y51 (e 7)) fun v12 =>
 wpO (convS y51 v11) fun v13 =>
 wpO (binS .mul (some y51) v12 v13) fun v14 =>
 wpO (binS .add (some y3) (e 6) (e 26)) fun v15 =>
 wpO (indexAddrS cfgT y115 (e 5) v15) fun v16 =>
 wpO (loadS y108 S v16) fun v17 =>
 wpO (convS y51 v17) fun v18 =>
 wpO (binS .add (some y51) v14 v18) fun v19 =>
 wpO (binS .add (some y51) (e 8) v19) fun v20 =>
 wpO (binS .add (some y3) (e 6) (e 26)) fun v21 =>
 wpO (convS y108 v20) fun v22 =>
 wpO (indexAddrS cfgT y115 (e 5) v21) fun v23 =>
 wpO (storeS y108 S v23 v22) fun S24 =>
 wpO (binS .shr (some y51) v20 (.int .u64 (32))) fun v25 =>
 wpO (binS .add (some y3) (e 26) (.int .i64 (1))) fun v26 =>
 DenP cfgT 67 (.loop L81_1) (ups e [(27, v9), (28, (e 26)), (29, v10), (30, v11), (9, (e 26)), (10, v11), (31, (e 8)), (32, (e 7)), (33, v12), (34, v11), (35, v13), (36, v14), (37, (e 5)), (38, (e 6)), (39, (e 26)), (40, v15), (41, v16), (42, v17), (43, v18), (44, v19), (45, v20), (8, v20), (46, (e 5)), (47, (e 6)), (48, (e 26)), (49, v21), (50, v20), (51, v22), (52, v23), (53, v20), (54, v25), (8, v25), (55, v26), (26, v26)]) S24 k)
 (k (.exit 2) (ups e [(27, v9)]) S)
noncomputable def TK81_0e0 (e : En) (S : Store) (k : SV → Store → Prop) : Prop :=
 wpO (callW cfgT 117 [(e 5)] S) fun p27 =>
 k p27.1 p27.2
noncomputable def TK81_1e2 (e : En) (S : Store) (k : X → En → Store → Prop) : Prop :=
 wpO (lenS y115 (e 1)) fun v28 =>
 wpO (binS .add (some y3) (e 6) v28) fun v29 =>
 wpO (convS y108 (e 8)) fun v30 =>
 wpO (indexAddrS cfgT y115 (e 5) v29) fun v31 =>
 wpO (storeS y108 S v31 v30) fun S32 =>
 wpO (binS .add (some y3) (e 19) (.int .i64 (1))) fun v33 =>
 DenP cfgT 67 (.loop L81_0) (ups e [(56, (e 5)), (57, (e 6)), (58, (e 1)), (59, v28), (60, v29), (61, (e 8)), (62, v30), (63, v31), (64, v33), (19, v33)]) S32 k
theorem F81_ok {x0 x1 : SV} {S : Store} {k : SV → Store → Prop} (h : F81 x0 x1 S k) : wpO (bodyW cfgT 81 [x0, x1] S) (fun p => k p.1 p.2) := bodyP_of (fn := Tryz.f81) (by kernel_rfl) (by kernel_rfl) (Nat.le_of_ble_eq_true (by kernel_rfl)) ((show F81 x0 x1 S k = wpC cfgT Tryz.f81.ntmps B81 (argE [x0, x1]) S (outP cfgT Tryz.f81 k) by kernel_rfl).mp h)
theorem L81_0_ok {e : En} {S : Store} {k : X → En → Store → Prop} (h : TL81_0 e S k) : DenP cfgT 67 (.loop L81_0) e S k := loopP_of ((show TL81_0 e S k = wpC cfgT 67 L81_0 e S (againP cfgT 67 L81_0 k) by kernel_rfl).mp h)
theorem L81_1_ok {e : En} {S : Store} {k : X → En → Store → Prop} (h : TL81_1 e S k) : DenP cfgT 67 (.loop L81_1) e S k := loopP_of ((show TL81_1 e S k = wpC cfgT 67 L81_1 e S (againP cfgT 67 L81_1 k) by kernel_rfl).mp h)
theorem K81_0e0_ok {e : En} {S : Store} {k : SV → Store → Prop} (h : TK81_0e0 e S k) : K81_0 k (.exit 0) e S := (show TK81_0e0 e S k = K81_0 k (.exit 0) e S by kernel_rfl).mp h
theorem K81_1e2_ok {e : En} {S : Store} {k : X → En → Store → Prop} (h : TK81_1e2 e S k) : K81_1 k (.exit 2) e S := (show TK81_1e2 e S k = K81_1 k (.exit 2) e S by kernel_rfl).mp h
/- ==== 117: (eliminant/integer.nat).norm  params 1 free 0 ntmps 22
   x0=x, x1=x, x3=n -/
noncomputable abbrev B117 : Code := bodyOf Tryz.f117
noncomputable def L117_0 : Code := codeAt [1, 1, 0, 0, 0] B117
noncomputable def K117_0 (k : SV → Store → Prop) : X → En → Store → Prop := cont cfgT 22 [1, 1, 0, 0] B117 (outP cfgT Tryz.f117 k)
noncomputable def F117 (x0 : SV) (S : Store) (k : SV → Store → Prop) : Prop :=
 wpO (lenS y115 x0) fun v0 =>
 DenP cfgT 22 (.loop L117_0) (ups (argE [x0]) [(2, (.vsl [] .nil)), (4, x0), (5, v0), (3, v0)]) S (K117_0 k)
noncomputable def TL117_0 (e : En) (S : Store) (k : X → En → Store → Prop) : Prop :=
 wpO (binS .gtr (some y3) (e 3) (.int .i64 (0))) fun v1 =>
 grdP (some v1) true (fun k => k (e 0) S) S fun v2 S3 =>
 grdP (some v1) true (fun k => k (e 3) S3) S3 fun v4 S5 =>
 grdP (some v1) true (fun k => wpO (binS .sub (some y3) v4 (.int .i64 (1))) fun v6 => k v6 S5) S5 fun v7 S8 =>
 grdP (some v1) true (fun k => wpO (indexAddrS cfgT y115 v2 v7) fun v9 => k v9 S8) S8 fun v10 S11 =>
 grdP (some v1) true (fun k => wpO (loadS y108 S11 v10) fun v12 => k v12 S11) S11 fun v13 S14 =>
 grdP (some v1) true (fun k => wpO (binS .eql (some y108) v13 (.int .u32 (0))) fun v15 => k v15 S14) S14 fun v16 S17 =>
 wpO (pickS v1 v16 (.bool false)) fun v18 =>
 condP v18
 (wpO (binS .sub (some y3) (e 3) (.int .i64 (1))) fun v19 =>
 DenP cfgT 22 (.loop L117_0) (ups e [(6, (e 3)), (7, v1), (8, v1), (9, v2), (10, v4), (11, v7), (12, v10), (13, v13), (14, v16), (15, v18), (16, (e 3)), (17, v19), (3, v19)]) S17 k)
 (k (.exit 0) (ups e [(6, (e 3)), (7, v1), (8, v1), (9, v2), (10, v4), (11, v7), (12, v10), (13, v13), (14, v16), (15, v18)]) S17)
noncomputable def TK117_0e0 (e : En) (S : Store) (k : SV → Store → Prop) : Prop :=
 wpO (slicS y108 (e 0) none (some (e 3)) (some (e 3))) fun v20 =>
 k v20 S
theorem F117_ok {x0 : SV} {S : Store} {k : SV → Store → Prop} (h : F117 x0 S k) : wpO (bodyW cfgT 117 [x0] S) (fun p => k p.1 p.2) := bodyP_of (fn := Tryz.f117) (by kernel_rfl) (by kernel_rfl) (Nat.le_of_ble_eq_true (by kernel_rfl)) ((show F117 x0 S k = wpC cfgT Tryz.f117.ntmps B117 (argE [x0]) S (outP cfgT Tryz.f117 k) by kernel_rfl).mp h)
theorem L117_0_ok {e : En} {S : Store} {k : X → En → Store → Prop} (h : TL117_0 e S k) : DenP cfgT 22 (.loop L117_0) e S k := loopP_of ((show TL117_0 e S k = wpC cfgT 22 L117_0 e S (againP cfgT 22 L117_0 k) by kernel_rfl).mp h)
theorem K117_0e0_ok {e : En} {S : Store} {k : SV → Store → Prop} (h : TK117_0e0 e S k) : K117_0 k (.exit 0) e S := (show TK117_0e0 e S k = K117_0 k (.exit 0) e S by kernel_rfl).mp h
/- ==== 118: slices.Clone[eliminant/integer.nat,uint32]  params 1 free 0 ntmps 8
   x0=s, x1=s -/
noncomputable abbrev B118 : Code := bodyOf Tryz.f118
noncomputable def F118 (x0 : SV) (S : Store) (k : SV → Store → Prop) : Prop :=
 wpO (binS .eql (some y115) x0 (.vsl [] .nil)) fun v0 =>
 condP v0
 (k (.vsl [] .nil) S)
 (wpO (bslS y108 0 [] S) fun p1 =>
 wpO (appS y108 p1.2 p1.1 x0) fun p2 =>
 k p2.1 p2.2)
theorem F118_ok {x0 : SV} {S : Store} {k : SV → Store → Prop} (h : F118 x0 S k) : wpO (bodyW cfgT 118 [x0] S) (fun p => k p.1 p.2) := bodyP_of (fn := Tryz.f118) (by kernel_rfl) (by kernel_rfl) (Nat.le_of_ble_eq_true (by kernel_rfl)) ((show F118 x0 S k = wpC cfgT Tryz.f118.ntmps B118 (argE [x0]) S (outP cfgT Tryz.f118 k) by kernel_rfl).mp h)
/- ==== 119: math/bits.Add32  params 3 free 0 ntmps 22
   x0=x, x1=y, x2=carry, x3=x, x4=y, x5=carry, x6=sum, x7=carryOut, x8=sum64 -/
noncomputable abbrev B119 : Code := bodyOf Tryz.f119
noncomputable def F119 (x0 x1 x2 : SV) (S : Store) (k : SV → Store → Prop) : Prop :=
 wpO (convS y51 x0) fun v0 =>
 wpO (convS y51 x1) fun v1 =>
 wpO (binS .add (some y51) v0 v1) fun v2 =>
 wpO (convS y51 x2) fun v3 =>
 wpO (binS .add (some y51) v2 v3) fun v4 =>
 wpO (convS y108 v4) fun v5 =>
 wpO (binS .shr (some y51) v4 (.int .u64 (32))) fun v6 =>
 wpO (convS y108 v6) fun v7 =>
 k (.tup [v5, v7]) S
theorem F119_ok {x0 x1 x2 : SV} {S : Store} {k : SV → Store → Prop} (h : F119 x0 x1 x2 S k) : wpO (bodyW cfgT 119 [x0, x1, x2] S) (fun p => k p.1 p.2) := bodyP_of (fn := Tryz.f119) (by kernel_rfl) (by kernel_rfl) (Nat.le_of_ble_eq_true (by kernel_rfl)) ((show F119 x0 x1 x2 S k = wpC cfgT Tryz.f119.ntmps B119 (argE [x0, x1, x2]) S (outP cfgT Tryz.f119 k) by kernel_rfl).mp h)
/- ==== 120: (eliminant/integer.nat).at  params 2 free 0 ntmps 13
   x0=x, x1=i, x2=x, x3=i -/
noncomputable abbrev B120 : Code := bodyOf Tryz.f120
noncomputable def F120 (x0 x1 : SV) (S : Store) (k : SV → Store → Prop) : Prop :=
 wpO (lenS y115 x0) fun v0 =>
 wpO (binS .lss (some y3) x1 v0) fun v1 =>
 condP v1
 (wpO (indexAddrS cfgT y115 x0 x1) fun v2 =>
 wpO (loadS y108 S v2) fun v3 =>
 k v3 S)
 (k (.int .u32 (0)) S)
theorem F120_ok {x0 x1 : SV} {S : Store} {k : SV → Store → Prop} (h : F120 x0 x1 S k) : wpO (bodyW cfgT 120 [x0, x1] S) (fun p => k p.1 p.2) := bodyP_of (fn := Tryz.f120) (by kernel_rfl) (by kernel_rfl) (Nat.le_of_ble_eq_true (by kernel_rfl)) ((show F120 x0 x1 S k = wpC cfgT Tryz.f120.ntmps B120 (argE [x0, x1]) S (outP cfgT Tryz.f120 k) by kernel_rfl).mp h)
end Go.Proofs

/- Functions of the program, laid out by our own program (Lay.lean). -/
set_option linter.unusedVariables false
namespace Go.Proofs
open Go Go.Sh
set_option maxRecDepth 100000
/- ==== 12: eliminant/eliminantref02.Whole  params 1 free 0 ntmps 7
   x0=n, x1=n -/
noncomputable abbrev B12 : Code := bodyOf Tryz.f12
noncomputable def F12 (x0 : SV) (S : Store) (k : SV → Store → Prop) : Prop :=
 wpO (allocS y38.zero S) fun p0 =>
 wpO (callW cfgT 23 [x0] p0.2) fun p1 =>
 wpO (callW cfgT 23 [(.int .i64 (1))] p1.2) fun p2 =>
 wpO (buildS cfgT y38 [(0, p1.1), (1, p2.1)]) fun v3 =>
 wpO (storeS y38 p2.2 p0.1 v3) fun S4 =>
 wpO (loadS y38 S4 p0.1) fun v5 =>
 k v5 S4
theorem F12_ok {x0 : SV} {S : Store} {k : SV → Store → Prop} (h : F12 x0 S k) : wpO (bodyW cfgT 12 [x0] S) (fun p => k p.1 p.2) := bodyP_of (fn := Tryz.f12) (by kernel_rfl) (by kernel_rfl) (Nat.le_of_ble_eq_true (by kernel_rfl)) ((show F12 x0 S k = wpC cfgT Tryz.f12.ntmps B12 (argE [x0]) S (outP cfgT Tryz.f12 k) by kernel_rfl).mp h)
/- ==== 27: eliminant/eliminantref02.Mul  params 2 free 0 ntmps 16
   x0=a, x1=b, x2=a, x3=b -/
noncomputable abbrev B27 : Code := bodyOf Tryz.f27
noncomputable def F27 (x0 x1 : SV) (S : Store) (k : SV → Store → Prop) : Prop :=
 wpO (allocS x0 S) fun p0 =>
 wpO (allocS x1 p0.2) fun p1 =>
 wpO (allocS y38.zero p1.2) fun p2 =>
 wpO (fieldAddrS cfgT y38 p0.1 0) fun v3 =>
 wpO (loadS y32 p2.2 v3) fun v4 =>
 wpO (fieldAddrS cfgT y38 p1.1 0) fun v5 =>
 wpO (loadS y32 p2.2 v5) fun v6 =>
 wpO (callW cfgT 26 [v4, v6] p2.2) fun p7 =>
 wpO (fieldAddrS cfgT y38 p0.1 1) fun v8 =>
 wpO (loadS y32 p7.2 v8) fun v9 =>
 wpO (fieldAddrS cfgT y38 p1.1 1) fun v10 =>
 wpO (loadS y32 p7.2 v10) fun v11 =>
 wpO (callW cfgT 26 [v9, v11] p7.2) fun p12 =>
 wpO (callW cfgT 73 [p7.1, p12.1] p12.2) fun p13 =>
 wpO (storeS y38 p13.2 p2.1 p13.1) fun S14 =>
 wpO (loadS y38 S14 p2.1) fun v15 =>
 k v15 S14
theorem F27_ok {x0 x1 : SV} {S : Store} {k : SV → Store → Prop} (h : F27 x0 x1 S k) : wpO (bodyW cfgT 27 [x0, x1] S) (fun p => k p.1 p.2) := bodyP_of (fn := Tryz.f27) (by kernel_rfl) (by kernel_rfl) (Nat.le_of_ble_eq_true (by kernel_rfl)) ((show F27 x0 x1 S k = wpC cfgT Tryz.f27.ntmps B27 (argE [x0, x1]) S (outP cfgT Tryz.f27 k) by kernel_rfl).mp h)
/- ==== 28: eliminant/eliminantref02.Div  params 2 free 0 ntmps 19
   x0=a, x1=b, x2=a, x3=b -/
noncomputable abbrev B28 : Code := bodyOf Tryz.f28
noncomputable def F28 (x0 x1 : SV) (S : Store) (k : SV → Store → Prop) : Prop :=
 wpO (allocS x0 S) fun p0 =>
 wpO (allocS x1 p0.2) fun p1 =>
 wpO (allocS y38.zero p1.2) fun p2 =>
 wpO (fieldAddrS cfgT y38 p0.1 0) fun v3 =>
 wpO (loadS y32 p2.2 v3) fun v4 =>
 wpO (fieldAddrS cfgT y38 p1.1 1) fun v5 =>
 wpO (loadS y32 p2.2 v5) fun v6 =>
 wpO (callW cfgT 26 [v4, v6] p2.2) fun p7 =>
 wpO (fieldAddrS cfgT y38 p0.1 1) fun v8 =>
 wpO (loadS y32 p7.2 v8) fun v9 =>
 wpO (fieldAddrS cfgT y38 p1.1 0) fun v10 =>
 wpO (loadS y32 p7.2 v10) fun v11 =>
 wpO (callW cfgT 26 [v9, v11] p7.2) fun p12 =>
 wpO (callW cfgT 74 [p7.1, p12.1] p12.2) fun p13 =>
 wpO (extS p13.1 0) fun v14 =>
 wpO (extS p13.1 1) fun v15 =>
 wpO (storeS y38 p13.2 p2.1 v14) fun S16 =>
 wpO (loadS y38 S16 p2.1) fun v17 =>
 k (.tup [v17, v15]) S16
theorem F28_ok {x0 x1 : SV} {S : Store} {k : SV → Store → Prop} (h : F28 x0 x1 S k) : wpO (bodyW cfgT 28 [x0, x1] S) (fun p => k p.1 p.2) := bodyP_of (fn := Tryz.f28) (by kernel_rfl) (by kernel_rfl) (Nat.le_of_ble_eq_true (by kernel_rfl)) ((show F28 x0 x1 S k = wpC cfgT Tryz.f28.ntmps B28 (argE [x0, x1]) S (outP cfgT Tryz.f28 k) by kernel_rfl).mp h)
/- ==== 29: eliminant/eliminantref02.Sign  params 1 free 0 ntmps 6
   x0=a, x1=a -/
noncomputable abbrev B29 : Code := bodyOf Tryz.f29
noncomputable def F29 (x0 : SV) (S : Store) (k : SV → Store → Prop) : Prop :=
 wpO (allocS x0 S) fun p0 =>
 wpO (fieldAddrS cfgT y38 p0.1 0) fun v1 =>
 wpO (loadS y32 p0.2 v1) fun v2 =>
 wpO (callW cfgT 9 [v2] p0.2) fun p3 =>
 k p3.1 p3.2
theorem F29_ok {x0 : SV} {S : Store} {k : SV → Store → Prop} (h : F29 x0 S k) : wpO (bodyW cfgT 29 [x0] S) (fun p => k p.1 p.2) := bodyP_of (fn := Tryz.f29) (by kernel_rfl) (by kernel_rfl) (Nat.le_of_ble_eq_true (by kernel_rfl)) ((show F29 x0 S k = wpC cfgT Tryz.f29.ntmps B29 (argE [x0]) S (outP cfgT Tryz.f29 k) by kernel_rfl).mp h)
/- ==== 73: eliminant/eliminantref02.lowest  params 2 free 0 ntmps 21
   x0=n, x1=d, x2=n, x3=d, x5=g -/
noncomputable abbrev B73 : Code := bodyOf Tryz.f73
noncomputable def F73 (x0 x1 : SV) (S : Store) (k : SV → Store → Prop) : Prop :=
 wpO (allocS x0 S) fun p0 =>
 wpO (allocS x1 p0.2) fun p1 =>
 wpO (allocS y38.zero p1.2) fun p2 =>
 wpO (loadS y32 p2.2 p0.1) fun v3 =>
 wpO (loadS y32 p2.2 p1.1) fun v4 =>
 wpO (callW cfgT 24 [v3, v4] p2.2) fun p5 =>
 wpO (allocS y32.zero p5.2) fun p6 =>
 wpO (storeS y32 p6.2 p6.1 p5.1) fun S7 =>
 wpO (loadS y32 S7 p1.1) fun v8 =>
 wpO (callW cfgT 9 [v8] S7) fun p9 =>
 wpO (binS .lss (some y3) p9.1 (.int .i64 (0))) fun v10 =>
 condP v10
 (wpO (loadS y32 p9.2 p6.1) fun v11 =>
 wpO (callW cfgT 10 [v11] p9.2) fun p12 =>
 wpO (storeS y32 p12.2 p6.1 p12.1) fun S13 =>
 wpO (loadS y32 S13 p0.1) fun v14 =>
 wpO (loadS y32 S13 p6.1) fun v15 =>
 wpO (callW cfgT 116 [v14, v15] S13) fun p16 =>
 wpO (loadS y32 p16.2 p1.1) fun v17 =>
 wpO (loadS y32 p16.2 p6.1) fun v18 =>
 wpO (callW cfgT 116 [v17, v18] p16.2) fun p19 =>
 wpO (buildS cfgT y38 [(0, p16.1), (1, p19.1)]) fun v20 =>
 wpO (storeS y38 p19.2 p2.1 v20) fun S21 =>
 wpO (loadS y38 S21 p2.1) fun v22 =>
 k v22 S21)
 (wpO (loadS y32 p9.2 p0.1) fun v23 =>
 wpO (loadS y32 p9.2 p6.1) fun v24 =>
 wpO (callW cfgT 116 [v23, v24] p9.2) fun p25 =>
 wpO (loadS y32 p25.2 p1.1) fun v26 =>
 wpO (loadS y32 p25.2 p6.1) fun v27 =>
 wpO (callW cfgT 116 [v26, v27] p25.2) fun p28 =>
 wpO (buildS cfgT y38 [(0, p25.1), (1, p28.1)]) fun v29 =>
 wpO (storeS y38 p28.2 p2.1 v29) fun S30 =>
 wpO (loadS y38 S30 p2.1) fun v31 =>
 k v31 S30)
theorem F73_ok {x0 x1 : SV} {S : Store} {k : SV → Store → Prop} (h : F73 x0 x1 S k) : wpO (bodyW cfgT 73 [x0, x1] S) (fun p => k p.1 p.2) := bodyP_of (fn := Tryz.f73) (by kernel_rfl) (by kernel_rfl) (Nat.le_of_ble_eq_true (by kernel_rfl)) ((show F73 x0 x1 S k = wpC cfgT Tryz.f73.ntmps B73 (argE [x0, x1]) S (outP cfgT Tryz.f73 k) by kernel_rfl).mp h)
/- ==== 74: eliminant/eliminantref02.New  params 2 free 0 ntmps 13
   x0=n, x1=d, x2=n, x3=d -/
noncomputable abbrev B74 : Code := bodyOf Tryz.f74
noncomputable def F74 (x0 x1 : SV) (S : Store) (k : SV → Store → Prop) : Prop :=
 wpO (allocS x0 S) fun p0 =>
 wpO (allocS x1 p0.2) fun p1 =>
 wpO (allocS y38.zero p1.2) fun p2 =>
 wpO (loadS y32 p2.2 p1.1) fun v3 =>
 wpO (callW cfgT 9 [v3] p2.2) fun p4 =>
 wpO (binS .eql (some y3) p4.1 (.int .i64 (0))) fun v5 =>
 condP v5
 (wpO (buildS cfgT y38 []) fun v6 =>
 wpO (storeS y38 p4.2 p2.1 v6) fun S7 =>
 wpO (loadS y38 S7 p2.1) fun v8 =>
 k (.tup [v8, (.int .i64 (10))]) S7)
 (wpO (loadS y32 p4.2 p0.1) fun v9 =>
 wpO (loadS y32 p4.2 p1.1) fun v10 =>
 wpO (callW cfgT 73 [v9, v10] p4.2) fun p11 =>
 wpO (storeS y38 p11.2 p2.1 p11.1) fun S12 =>
 wpO (loadS y38 S12 p2.1) fun v13 =>
 k (.tup [v13, (.int .i64 (0))]) S12)
theorem F74_ok {x0 x1 : SV} {S : Store} {k : SV → Store → Prop} (h : F74 x0 x1 S k) : wpO (bodyW cfgT 74 [x0, x1] S) (fun p => k p.1 p.2) := bodyP_of (fn := Tryz.f74) (by kernel_rfl) (by kernel_rfl) (Nat.le_of_ble_eq_true (by kernel_rfl)) ((show F74 x0 x1 S k = wpC cfgT Tryz.f74.ntmps B74 (argE [x0, x1]) S (outP cfgT Tryz.f74 k) by kernel_rfl).mp h)
/- ==== 116: eliminant/eliminantref02.exact  params 2 free 0 ntmps 16
   x0=n, x1=g, x2=n, x3=g, x5=q, x6=_, x7=_ -/
noncomputable abbrev B116 : Code := bodyOf Tryz.f116
noncomputable def F116 (x0 x1 : SV) (S : Store) (k : SV → Store → Prop) : Prop :=
 wpO (allocS x0 S) fun p0 =>
 wpO (allocS x1 p0.2) fun p1 =>
 wpO (allocS y32.zero p1.2) fun p2 =>
 wpO (loadS y32 p2.2 p0.1) fun v3 =>
 wpO (loadS y32 p2.2 p1.1) fun v4 =>
 wpO (callW cfgT 25 [v3, v4] p2.2) fun p5 =>
 wpO (extS p5.1 0) fun v6 =>
 wpO (extS p5.1 1) fun v7 =>
 wpO (extS p5.1 2) fun v8 =>
 wpO (allocS y32.zero p5.2) fun p9 =>
 wpO (allocS y32.zero p9.2) fun p10 =>
 wpO (storeS y32 p10.2 p9.1 v6) fun S11 =>
 wpO (storeS y32 S11 p10.1 v7) fun S12 =>
 wpO (loadS y32 S12 p9.1) fun v13 =>
 wpO (storeS y32 S12 p2.1 v13) fun S14 =>
 wpO (loadS y32 S14 p2.1) fun v15 =>
 k v15 S14
theorem F116_ok {x0 x1 : SV} {S : Store} {k : SV → Store → Prop} (h : F116 x0 x1 S k) : wpO (bodyW cfgT 116 [x0, x1] S) (fun p => k p.1 p.2) := bodyP_of (fn := Tryz.f116) (by kernel_rfl) (by kernel_rfl) (Nat.le_of_ble_eq_true (by kernel_rfl)) ((show F116 x0 x1 S k = wpC cfgT Tryz.f116.ntmps B116 (argE [x0, x1]) S (outP cfgT Tryz.f116 k) by kernel_rfl).mp h)
/- ==== 31: eliminant/eliminantref09.iat  params 2 free 0 ntmps 14
   x0=a, x1=i, x2=a, x3=i -/
noncomputable abbrev B31 : Code := bodyOf Tryz.f31
noncomputable def F31 (x0 x1 : SV) (S : Store) (k : SV → Store → Prop) : Prop :=
 wpO (allocS y32.zero S) fun p0 =>
 wpO (lenS y24 x0) fun v1 =>
 wpO (binS .lss (some y3) x1 v1) fun v2 =>
 condP v2
 (wpO (indexAddrS cfgT y24 x0 x1) fun v3 =>
 wpO (loadS y32 p0.2 v3) fun v4 =>
 wpO (storeS y32 p0.2 p0.1 v4) fun S5 =>
 wpO (loadS y32 S5 p0.1) fun v6 =>
 k v6 S5)
 (wpO (callW cfgT 23 [(.int .i64 (0))] p0.2) fun p7 =>
 wpO (storeS y32 p7.2 p0.1 p7.1) fun S8 =>
 wpO (loadS y32 S8 p0.1) fun v9 =>
 k v9 S8)
theorem F31_ok {x0 x1 : SV} {S : Store} {k : SV → Store → Prop} (h : F31 x0 x1 S k) : wpO (bodyW cfgT 31 [x0, x1] S) (fun p => k p.1 p.2) := bodyP_of (fn := Tryz.f31) (by kernel_rfl) (by kernel_rfl) (Nat.le_of_ble_eq_true (by kernel_rfl)) ((show F31 x0 x1 S k = wpC cfgT Tryz.f31.ntmps B31 (argE [x0, x1]) S (outP cfgT Tryz.f31 k) by kernel_rfl).mp h)
/- ==== 32: eliminant/eliminantref09.trim  params 1 free 0 ntmps 22
   x0=a, x1=a -/
noncomputable abbrev B32 : Code := bodyOf Tryz.f32
noncomputable def L32_0 : Code := codeAt [1, 0, 0, 0] B32
noncomputable def K32_0 (k : SV → Store → Prop) : X → En → Store → Prop := cont cfgT 22 [1, 0, 0] B32 (outP cfgT Tryz.f32 k)
noncomputable def F32 (x0 : SV) (S : Store) (k : SV → Store → Prop) : Prop :=
 DenP cfgT 22 (.loop L32_0) (ups (argE [x0]) [(2, (.vsl [] .nil))]) S (K32_0 k)
noncomputable def TL32_0 (e : En) (S : Store) (k : X → En → Store → Prop) : Prop :=
 wpO (lenS y24 (e 0)) fun v0 =>
 wpO (binS .gtr (some y3) v0 (.int .i64 (0))) fun v1 =>
 grdP (some v1) true (fun k => k (e 0) S) S fun v2 S3 =>
 grdP (some v1) true (fun k => k (e 0) S3) S3 fun v4 S5 =>
 grdP (some v1) true (fun k => wpO (lenS y24 v4) fun v6 => k v6 S5) S5 fun v7 S8 =>
 grdP (some v1) true (fun k => wpO (binS .sub (some y3) v7 (.int .i64 (1))) fun v9 => k v9 S8) S8 fun v10 S11 =>
 grdP (some v1) true (fun k => wpO (indexAddrS cfgT y24 v2 v10) fun v12 => k v12 S11) S11 fun v13 S14 =>
 grdP (some v1) true (fun k => wpO (loadS y32 S14 v13) fun v15 => k v15 S14) S14 fun v16 S17 =>
 grdP (some v1) true (fun k => wpO (callW cfgT 9 [v16] S17) fun p18 => k p18.1 p18.2) S17 fun v19 S20 =>
 grdP (some v1) true (fun k => wpO (binS .eql (some y3) v19 (.int .i64 (0))) fun v21 => k v21 S20) S20 fun v22 S23 =>
 wpO (pickS v1 v22 (.bool false)) fun v24 =>
 condP v24
 (wpO (lenS y24 (e 0)) fun v25 =>
 wpO (binS .sub (some y3) v25 (.int .i64 (1))) fun v26 =>
 wpO (slicS y32 (e 0) none (some v26) none) fun v27 =>
 DenP cfgT 22 (.loop L32_0) (ups e [(3, (e 0)), (4, v0), (5, v1), (6, v1), (7, v2), (8, v4), (9, v7), (10, v10), (11, v13), (12, v16), (13, v19), (14, v22), (15, v24), (16, (e 0)), (17, (e 0)), (18, v25), (19, v26), (20, v27), (0, v27)]) S23 k)
 (k (.exit 0) (ups e [(3, (e 0)), (4, v0), (5, v1), (6, v1), (7, v2), (8, v4), (9, v7), (10, v10), (11, v13), (12, v16), (13, v19), (14, v22), (15, v24)]) S23)
noncomputable def TK32_0e0 (e : En) (S : Store) (k : SV → Store → Prop) : Prop :=
 k (e 0) S
theorem F32_ok {x0 : SV} {S : Store} {k : SV → Store → Prop} (h : F32 x0 S k) : wpO (bodyW cfgT 32 [x0] S) (fun p => k p.1 p.2) := bodyP_of (fn := Tryz.f32) (by kernel_rfl) (by kernel_rfl) (Nat.le_of_ble_eq_true (by kernel_rfl)) ((show F32 x0 S k = wpC cfgT Tryz.f32.ntmps B32 (argE [x0]) S (outP cfgT Tryz.f32 k) by kernel_rfl).mp h)
theorem L32_0_ok {e : En} {S : Store} {k : X → En → Store → Prop} (h : TL32_0 e S k) : DenP cfgT 22 (.loop L32_0) e S k := loopP_of ((show TL32_0 e S k = wpC cfgT 22 L32_0 e S (againP cfgT 22 L32_0 k) by kernel_rfl).mp h)
theorem K32_0e0_ok {e : En} {S : Store} {k : SV → Store → Prop} (h : TK32_0e0 e S k) : K32_0 k (.exit 0) e S := (show TK32_0e0 e S k = K32_0 k (.exit 0) e S by kernel_rfl).mp h
end Go.Proofs

/- Functions of the program, laid out by our own program (Lay.lean). -/
set_option linter.unusedVariables false
namespace Go.Proofs
open Go Go.Sh
set_option maxRecDepth 100000
/- ==== 6: eliminant/eliminantlaw09.upoly  params 2 free 0 ntmps 61
   x0=l, x1=most, x2=l, x3=most, x5=out, x6=i, x7=c -/
noncomputable abbrev B6 : Code := bodyOf Tryz.f6
noncomputable def L6_0 : Code := codeAt [1, 1, 0, 1, 0, 0] B6
noncomputable def L6_1 : Code := codeAt [1, 1, 1, 0, 0, 0] B6
noncomputable def K6_0 (k : SV → Store → Prop) : X → En → Store → Prop := cont cfgT 61 [1, 1, 0, 1, 0] B6 (outP cfgT Tryz.f6 k)
noncomputable def K6_1 (k : SV → Store → Prop) : X → En → Store → Prop := cont cfgT 61 [1, 1, 1, 0, 0] B6 (outP cfgT Tryz.f6 k)
noncomputable def F6 (x0 x1 : SV) (S : Store) (k : SV → Store → Prop) : Prop :=
 wpO (bslS y38 0 [] S) fun p0 =>
 DenP cfgT 61 (.loop L6_0) (ups (argE [x0, x1]) [(4, (.vsl [] .nil)), (8, p0.1), (5, p0.1), (6, (.int .i64 (0)))]) p0.2 (K6_0 k)
noncomputable def TL6_0 (e : En) (S : Store) (k : X → En → Store → Prop) : Prop :=
 wpO (lenS y22 (e 0)) fun v1 =>
 wpO (binS .lss (some y3) (e 6) v1) fun v2 =>
 grdP (some v2) true (fun k => k (e 6) S) S fun v3 S4 =>
 grdP (some v2) true (fun k => k (e 1) S4) S4 fun v5 S6 =>
 grdP (some v2) true (fun k => wpO (binS .leq (some y3) v3 v5) fun v7 => k v7 S6) S6 fun v8 S9 =>
 wpO (pickS v2 v8 (.bool false)) fun v10 =>
 condP v10
 (wpO (indexAddrS cfgT y22 (e 0) (e 6)) fun v11 =>
 wpO (loadS y62 S9 v11) fun v12 =>
 wpO (binS .rem (some y62) v12 (.int .i8 (7))) fun v13 =>
 wpO (convS y2 v13) fun v14 =>
 wpO (callW cfgT 12 [v14] S9) fun p15 =>
 wpO (allocS y38.zero p15.2) fun p16 =>
 wpO (storeS y38 p16.2 p16.1 p15.1) fun S17 =>
 wpO (indexAddrS cfgT y22 (e 0) (e 6)) fun v18 =>
 wpO (loadS y62 S17 v18) fun v19 =>
 wpO (binS .geq (some y62) v19 (.int .i8 (100))) fun v20 =>
 condP v20
 (wpO (loadS y38 S17 p16.1) fun v21 =>
 wpO (callW cfgT 12 [(.int .i64 (3))] S17) fun p22 =>
 wpO (callW cfgT 28 [v21, p22.1] p22.2) fun p23 =>
 wpO (extS p23.1 0) fun v24 =>
 wpO (extS p23.1 1) fun v25 =>
 wpO (storeS y38 p23.2 p16.1 v24) fun S26 =>
 wpO (loadS y38 S26 p16.1) fun v27 =>
 wpO (bslS y38 1 [(0, v27)] S26) fun p28 =>
 wpO (appS y38 p28.2 (e 5) p28.1) fun p29 =>
 wpO (binS .add (some y3) (e 6) (.int .i64 (1))) fun v30 =>
 DenP cfgT 61 (.loop L6_0) (ups e [(9, (e 6)), (10, (e 0)), (11, v1), (12, v2), (13, v2), (14, v3), (15, v5), (16, v8), (17, v10), (20, (e 0)), (21, (e 6)), (22, v11), (23, v12), (24, v13), (25, v14), (26, p15.1), (7, p16.1), (27, (e 0)), (28, (e 6)), (29, v18), (30, v19), (31, v20), (33, v21), (34, p22.1), (35, p23.1), (32, p23.1), (36, v24), (37, v25), (38, (e 5)), (39, v27), (40, p28.1), (41, p29.1), (5, p29.1), (18, (e 6)), (19, v30), (6, v30)]) p29.2 k)
 (wpO (loadS y38 S17 p16.1) fun v31 =>
 wpO (bslS y38 1 [(0, v31)] S17) fun p32 =>
 wpO (appS y38 p32.2 (e 5) p32.1) fun p33 =>
 wpO (binS .add (some y3) (e 6) (.int .i64 (1))) fun v34 =>
 DenP cfgT 61 (.loop L6_0) (ups e [(9, (e 6)), (10, (e 0)), (11, v1), (12, v2), (13, v2), (14, v3), (15, v5), (16, v8), (17, v10), (20, (e 0)), (21, (e 6)), (22, v11), (23, v12), (24, v13), (25, v14), (26, p15.1), (7, p16.1), (27, (e 0)), (28, (e 6)), (29, v18), (30, v19), (31, v20), (38, (e 5)), (39, v31), (40, p32.1), (41, p33.1), (5, p33.1), (18, (e 6)), (19, v34), (6, v34)]) p33.2 k))
 (k (.exit 0) (ups e [(9, (e 6)), (10, (e 0)), (11, v1), (12, v2), (13, v2), (14, v3), (15, v5), (16, v8), (17, v10)]) S9)
noncomputable def TK6_0e0 (e : En) (S : Store) (k : SV → Store → Prop) : Prop :=
 DenP cfgT 61 (.loop L6_1) e S (K6_1 k)
noncomputable def TL6_1 (e : En) (S : Store) (k : X → En → Store → Prop) : Prop :=
 wpO (lenS y27 (e 5)) fun v35 =>
 wpO (binS .gtr (some y3) v35 (.int .i64 (0))) fun v36 =>
 grdP (some v36) true (fun k => k (e 5) S) S fun v37 S38 =>
 grdP (some v36) true (fun k => k (e 5) S38) S38 fun v39 S40 =>
 grdP (some v36) true (fun k => wpO (lenS y27 v39) fun v41 => k v41 S40) S40 fun v42 S43 =>
 grdP (some v36) true (fun k => wpO (binS .sub (some y3) v42 (.int .i64 (1))) fun v44 => k v44 S43) S43 fun v45 S46 =>
 grdP (some v36) true (fun k => wpO (indexAddrS cfgT y27 v37 v45) fun v47 => k v47 S46) S46 fun v48 S49 =>
 grdP (some v36) true (fun k => wpO (loadS y38 S49 v48) fun v50 => k v50 S49) S49 fun v51 S52 =>
 grdP (some v36) true (fun k => wpO (callW cfgT 29 [v51] S52) fun p53 => k p53.1 p53.2) S52 fun v54 S55 =>
 grdP (some v36) true (fun k => wpO (binS .eql (some y3) v54 (.int .i64 (0))) fun v56 => k v56 S55) S55 fun v57 S58 =>
 wpO (pickS v36 v57 (.bool false)) fun v59 =>
 condP v59
 (wpO (lenS y27 (e 5)) fun v60 =>
 wpO (binS .sub (some y3) v60 (.int .i64 (1))) fun v61 =>
 wpO (slicS y38 (e 5) none (some v61) none) fun v62 =>
 DenP cfgT 61 (.loop L6_1) (ups e [(42, (e 5)), (43, v35), (44, v36), (45, v36), (46, v37), (47, v39), (48, v42), (49, v45), (50, v48), (51, v51), (52, v54), (53, v57), (54, v59), (55, (e 5)), (56, (e 5)), (57, v60), (58, v61), (59, v62), (5, v62)]) S58 k)
 (k (.exit 2) (ups e [(42, (e 5)), (43, v35), (44, v36), (45, v36), (46, v37), (47, v39), (48, v42), (49, v45), (50, v48), (51, v51), (52, v54), (53, v57), (54, v59)]) S58)
noncomputable def TK6_1e2 (e : En) (S : Store) (k : SV → Store → Prop) : Prop :=
 k (e 5) S
theorem F6_ok {x0 x1 : SV} {S : Store} {k : SV → Store → Prop} (h : F6 x0 x1 S k) : wpO (bodyW cfgT 6 [x0, x1] S) (fun p => k p.1 p.2) := bodyP_of (fn := Tryz.f6) (by kernel_rfl) (by kernel_rfl) (Nat.le_of_ble_eq_true (by kernel_rfl)) ((show F6 x0 x1 S k = wpC cfgT Tryz.f6.ntmps B6 (argE [x0, x1]) S (outP cfgT Tryz.f6 k) by kernel_rfl).mp h)
theorem L6_0_ok {e : En} {S : Store} {k : X → En → Store → Prop} (h : TL6_0 e S k) : DenP cfgT 61 (.loop L6_0) e S k := loopP_of ((show TL6_0 e S k = wpC cfgT 61 L6_0 e S (againP cfgT 61 L6_0 k) by kernel_rfl).mp h)
theorem K6_0e0_ok {e : En} {S : Store} {k : SV → Store → Prop} (h : TK6_0e0 e S k) : K6_0 k (.exit 0) e S := (show TK6_0e0 e S k = K6_0 k (.exit 0) e S by kernel_rfl).mp h
theorem L6_1_ok {e : En} {S : Store} {k : X → En → Store → Prop} (h : TL6_1 e S k) : DenP cfgT 61 (.loop L6_1) e S k := loopP_of ((show TL6_1 e S k = wpC cfgT 61 L6_1 e S (againP cfgT 61 L6_1 k) by kernel_rfl).mp h)
theorem K6_1e2_ok {e : En} {S : Store} {k : SV → Store → Prop} (h : TK6_1e2 e S k) : K6_1 k (.exit 2) e S := (show TK6_1e2 e S k = K6_1 k (.exit 2) e S by kernel_rfl).mp h
end Go.Proofs

/- Functions of the program, laid out by our own program (Lay.lean). -/
set_option linter.unusedVariables false
namespace Go.Proofs
open Go Go.Sh
set_option maxRecDepth 100000
/- ==== 5: eliminant/eliminantref09.Integral  params 1 free 0 ntmps 106
   x0=a, x1=a, x3=d, x4=i, x5=g, x6=q, x7=_, x8=_, x9=out, x10=g, x11=i, x12=x, x13=i, x14=q, x15=_, x16=_ -/
noncomputable abbrev B5 : Code := bodyOf Tryz.f5
noncomputable def L5_0 : Code := codeAt [1, 1, 0, 1, 0, 0] B5
noncomputable def L5_1 : Code := codeAt [1, 1, 1, 1, 1, 0, 1, 0, 0] B5
noncomputable def L5_2 : Code := codeAt [1, 1, 1, 1, 1, 1, 1, 0, 1, 0, 0] B5
noncomputable def K5_0 (k : SV → Store → Prop) : X → En → Store → Prop := cont cfgT 106 [1, 1, 0, 1, 0] B5 (outP cfgT Tryz.f5 k)
noncomputable def K5_1 (k : SV → Store → Prop) : X → En → Store → Prop := cont cfgT 106 [1, 1, 1, 1, 1, 0, 1, 0] B5 (outP cfgT Tryz.f5 k)
noncomputable def K5_2 (k : SV → Store → Prop) : X → En → Store → Prop := cont cfgT 106 [1, 1, 1, 1, 1, 1, 1, 0, 1, 0] B5 (outP cfgT Tryz.f5 k)
noncomputable def F5 (x0 : SV) (S : Store) (k : SV → Store → Prop) : Prop :=
 wpO (callW cfgT 23 [(.int .i64 (1))] S) fun p0 =>
 wpO (allocS y32.zero p0.2) fun p1 =>
 wpO (storeS y32 p1.2 p1.1 p0.1) fun S2 =>
 DenP cfgT 106 (.loop L5_0) (ups (argE [x0]) [(2, (.vsl [] .nil)), (17, p0.1), (3, p1.1), (4, (.int .i64 (0)))]) S2 (K5_0 k)
noncomputable def TL5_0 (e : En) (S : Store) (k : X → En → Store → Prop) : Prop :=
 wpO (lenS y27 (e 0)) fun v3 =>
 wpO (binS .lss (some y3) (e 4) v3) fun v4 =>
 condP v4
 (wpO (loadS y32 S (e 3)) fun v5 =>
 wpO (indexAddrS cfgT y27 (e 0) (e 4)) fun v6 =>
 wpO (fieldAddrS cfgT y38 v6 1) fun v7 =>
 wpO (loadS y32 S v7) fun v8 =>
 wpO (callW cfgT 24 [v5, v8] S) fun p9 =>
 wpO (allocS y32.zero p9.2) fun p10 =>
 wpO (storeS y32 p10.2 p10.1 p9.1) fun S11 =>
 wpO (indexAddrS cfgT y27 (e 0) (e 4)) fun v12 =>
 wpO (fieldAddrS cfgT y38 v12 1) fun v13 =>
 wpO (loadS y32 S11 v13) fun v14 =>
 wpO (loadS y32 S11 p10.1) fun v15 =>
 wpO (callW cfgT 25 [v14, v15] S11) fun p16 =>
 wpO (extS p16.1 0) fun v17 =>
 wpO (extS p16.1 1) fun v18 =>
 wpO (extS p16.1 2) fun v19 =>
 wpO (allocS y32.zero p16.2) fun p20 =>
 wpO (allocS y32.zero p20.2) fun p21 =>
 wpO (storeS y32 p21.2 p20.1 v17) fun S22 =>
 wpO (storeS y32 S22 p21.1 v18) fun S23 =>
 wpO (loadS y32 S23 (e 3)) fun v24 =>
 wpO (loadS y32 S23 p20.1) fun v25 =>
 wpO (callW cfgT 26 [v24, v25] S23) fun p26 =>
 wpO (storeS y32 p26.2 (e 3) p26.1) fun S27 =>
 wpO (binS .add (some y3) (e 4) (.int .i64 (1))) fun v28 =>
 DenP cfgT 106 (.loop L5_0) (ups e [(18, (e 4)), (19, (e 0)), (20, v3), (21, v4), (24, v5), (25, (e 0)), (26, (e 4)), (27, v6), (28, v7), (29, v8), (30, p9.1), (5, p10.1), (32, (e 0)), (33, (e 4)), (34, v12), (35, v13), (36, v14), (37, v15), (38, p16.1), (31, p16.1), (39, v17), (40, v18), (41, v19), (6, p20.1), (7, p21.1), (8, v19), (42, v24), (43, v25), (44, p26.1), (22, (e 4)), (23, v28), (4, v28)]) S27 k)
 (k (.exit 0) (ups e [(18, (e 4)), (19, (e 0)), (20, v3), (21, v4)]) S)
noncomputable def TK5_0e0 (e : En) (S : Store) (k : SV → Store → Prop) : Prop :=
 wpO (bslS y32 0 [] S) fun p29 =>
 wpO (callW cfgT 23 [(.int .i64 (0))] p29.2) fun p30 =>
 wpO (allocS y32.zero p30.2) fun p31 =>
 wpO (storeS y32 p31.2 p31.1 p30.1) fun S32 =>
 DenP cfgT 106 (.loop L5_1) (ups e [(45, p29.1), (9, p29.1), (46, p30.1), (10, p31.1), (11, (.int .i64 (0)))]) S32 (K5_1 k)
noncomputable def TL5_1 (e : En) (S : Store) (k : X → En → Store → Prop) : Prop :=
 wpO (lenS y27 (e 0)) fun v33 =>
 wpO (binS .lss (some y3) (e 11) v33) fun v34 =>
 condP v34
 (wpO (indexAddrS cfgT y27 (e 0) (e 11)) fun v35 =>
 wpO (loadS y38 S v35) fun v36 =>
 wpO (loadS y32 S (e 3)) fun v37 =>
 wpO (callW cfgT 23 [(.int .i64 (1))] S) fun p38 =>
 wpO (buildS cfgT y38 [(0, v37), (1, p38.1)]) fun v39 =>
 wpO (callW cfgT 27 [v36, v39] p38.2) fun p40 =>
 wpO (allocS y38.zero p40.2) fun p41 =>
 wpO (storeS y38 p41.2 p41.1 p40.1) fun S42 =>
 wpO (fieldAddrS cfgT y38 p41.1 0) fun v43 =>
 wpO (loadS y32 S42 v43) fun v44 =>
 wpO (bslS y32 1 [(0, v44)] S42) fun p45 =>
 wpO (appS y32 p45.2 (e 9) p45.1) fun p46 =>
 wpO (loadS y32 p46.2 (e 10)) fun v47 =>
 wpO (fieldAddrS cfgT y38 p41.1 0) fun v48 =>
 wpO (loadS y32 p46.2 v48) fun v49 =>
 wpO (callW cfgT 24 [v47, v49] p46.2) fun p50 =>
 wpO (storeS y32 p50.2 (e 10) p50.1) fun S51 =>
 wpO (binS .add (some y3) (e 11) (.int .i64 (1))) fun v52 =>
 DenP cfgT 106 (.loop L5_1) (ups e [(47, (e 11)), (48, (e 0)), (49, v33), (50, v34), (53, (e 0)), (54, (e 11)), (55, v35), (56, v36), (57, v37), (58, p38.1), (59, v39), (60, p40.1), (12, p41.1), (61, (e 9)), (62, v43), (63, v44), (64, p45.1), (65, p46.1), (9, p46.1), (66, v47), (67, v48), (68, v49), (69, p50.1), (51, (e 11)), (52, v52), (11, v52)]) S51 k)
 (k (.exit 2) (ups e [(47, (e 11)), (48, (e 0)), (49, v33), (50, v34)]) S)
noncomputable def TK5_1e2 (e : En) (S : Store) (k : SV → Store → Prop) : Prop :=
 wpO (lenS y27 (e 0)) fun v53 =>
 wpO (binS .gtr (some y3) v53 (.int .i64 (0))) fun v54 =>
 grdP (some v54) true (fun k => k (e 9) S) S fun v55 S56 =>
 grdP (some v54) true (fun k => k (e 9) S56) S56 fun v57 S58 =>
 grdP (some v54) true (fun k => wpO (lenS y24 v57) fun v59 => k v59 S58) S58 fun v60 S61 =>
 grdP (some v54) true (fun k => wpO (binS .sub (some y3) v60 (.int .i64 (1))) fun v62 => k v62 S61) S61 fun v63 S64 =>
 grdP (some v54) true (fun k => wpO (indexAddrS cfgT y24 v55 v63) fun v65 => k v65 S64) S64 fun v66 S67 =>
 grdP (some v54) true (fun k => wpO (loadS y32 S67 v66) fun v68 => k v68 S67) S67 fun v69 S70 =>
 grdP (some v54) true (fun k => wpO (callW cfgT 9 [v69] S70) fun p71 => k p71.1 p71.2) S70 fun v72 S73 =>
 grdP (some v54) true (fun k => wpO (binS .lss (some y3) v72 (.int .i64 (0))) fun v74 => k v74 S73) S73 fun v75 S76 =>
 wpO (pickS v54 v75 (.bool false)) fun v77 =>
 condP v77
 (wpO (loadS y32 S76 (e 10)) fun v78 =>
 wpO (callW cfgT 10 [v78] S76) fun p79 =>
 wpO (storeS y32 p79.2 (e 10) p79.1) fun S80 =>
 DenP cfgT 106 (.loop L5_2) (ups e [(70, (e 0)), (71, v53), (72, v54), (73, v54), (74, v55), (75, v57), (76, v60), (77, v63), (78, v66), (79, v69), (80, v72), (81, v75), (82, v77), (83, v78), (84, p79.1), (13, (.int .i64 (0)))]) S80 (K5_2 k))
 (DenP cfgT 106 (.loop L5_2) (ups e [(70, (e 0)), (71, v53), (72, v54), (73, v54), (74, v55), (75, v57), (76, v60), (77, v63), (78, v66), (79, v69), (80, v72), (81, v75), (82, v77), (13, (.int .i64 (0)))]) S76 (K5_2 k))
noncomputable def TL5_2 (e : En) (S : Store) (k : X → En → Store → Prop) : Prop :=
 wpO (lenS y24 (e 9)) fun v81 =>
 wpO (binS .lss (some y3) (e 13) v81) fun v82 =>
 condP v82
 (wpO (indexAddrS cfgT y24 (e 9) (e 13)) fun v83 =>
 wpO (loadS y32 S v83) fun v84 =>
 wpO (loadS y32 S (e 10)) fun v85 =>
 wpO (callW cfgT 25 [v84, v85] S) fun p86 =>
 wpO (extS p86.1 0) fun v87 =>
 wpO (extS p86.1 1) fun v88 =>
 wpO (extS p86.1 2) fun v89 =>
 wpO (allocS y32.zero p86.2) fun p90 =>
 wpO (allocS y32.zero p90.2) fun p91 =>
 wpO (storeS y32 p91.2 p90.1 v87) fun S92 =>
 wpO (storeS y32 S92 p91.1 v88) fun S93 =>
 wpO (loadS y32 S93 p90.1) fun v94 =>
 wpO (indexAddrS cfgT y24 (e 9) (e 13)) fun v95 =>
 wpO (storeS y32 S93 v95 v94) fun S96 =>
 wpO (binS .add (some y3) (e 13) (.int .i64 (1))) fun v97 =>
 DenP cfgT 106 (.loop L5_2) (ups e [(85, (e 13)), (86, (e 9)), (87, v81), (88, v82), (92, (e 9)), (93, (e 13)), (94, v83), (95, v84), (96, v85), (97, p86.1), (91, p86.1), (98, v87), (99, v88), (100, v89), (14, p90.1), (15, p91.1), (16, v89), (101, (e 9)), (102, (e 13)), (103, v94), (104, v95), (89, (e 13)), (90, v97), (13, v97)]) S96 k)
 (k (.exit 4) (ups e [(85, (e 13)), (86, (e 9)), (87, v81), (88, v82)]) S)
noncomputable def TK5_2e4 (e : En) (S : Store) (k : SV → Store → Prop) : Prop :=
 k (e 9) S
theorem F5_ok {x0 : SV} {S : Store} {k : SV → Store → Prop} (h : F5 x0 S k) : wpO (bodyW cfgT 5 [x0] S) (fun p => k p.1 p.2) := bodyP_of (fn := Tryz.f5) (by kernel_rfl) (by kernel_rfl) (Nat.le_of_ble_eq_true (by kernel_rfl)) ((show F5 x0 S k = wpC cfgT Tryz.f5.ntmps B5 (argE [x0]) S (outP cfgT Tryz.f5 k) by kernel_rfl).mp h)
theorem L5_0_ok {e : En} {S : Store} {k : X → En → Store → Prop} (h : TL5_0 e S k) : DenP cfgT 106 (.loop L5_0) e S k := loopP_of ((show TL5_0 e S k = wpC cfgT 106 L5_0 e S (againP cfgT 106 L5_0 k) by kernel_rfl).mp h)
theorem K5_0e0_ok {e : En} {S : Store} {k : SV → Store → Prop} (h : TK5_0e0 e S k) : K5_0 k (.exit 0) e S := (show TK5_0e0 e S k = K5_0 k (.exit 0) e S by kernel_rfl).mp h
theorem L5_1_ok {e : En} {S : Store} {k : X → En → Store → Prop} (h : TL5_1 e S k) : DenP cfgT 106 (.loop L5_1) e S k := loopP_of ((show TL5_1 e S k = wpC cfgT 106 L5_1 e S (againP cfgT 106 L5_1 k) by kernel_rfl).mp h)
theorem K5_1e2_ok {e : En} {S : Store} {k : SV → Store → Prop} (h : TK5_1e2 e S k) : K5_1 k (.exit 2) e S := (show TK5_1e2 e S k = K5_1 k (.exit 2) e S by kernel_rfl).mp h
theorem L5_2_ok {e : En} {S : Store} {k : X → En → Store → Prop} (h : TL5_2 e S k) : DenP cfgT 106 (.loop L5_2) e S k := loopP_of ((show TL5_2 e S k = wpC cfgT 106 L5_2 e S (againP cfgT 106 L5_2 k) by kernel_rfl).mp h)
theorem K5_2e4_ok {e : En} {S : Store} {k : SV → Store → Prop} (h : TK5_2e4 e S k) : K5_2 k (.exit 4) e S := (show TK5_2e4 e S k = K5_2 k (.exit 4) e S by kernel_rfl).mp h
/- ==== 7: eliminant/eliminantref09.Imul  params 2 free 0 ntmps 43
   x0=a, x1=b, x2=a, x3=b, x5=out, x6=n, x7=sum, x8=i -/
noncomputable abbrev B7 : Code := bodyOf Tryz.f7
noncomputable def L7_0 : Code := codeAt [1, 1, 0, 1, 0, 0] B7
noncomputable def L7_1 : Code := codeAt [1, 1, 0, 1, 0, 0, 1, 0, 0, 1, 0, 1, 0, 0] B7
noncomputable def K7_0 (k : SV → Store → Prop) : X → En → Store → Prop := cont cfgT 43 [1, 1, 0, 1, 0] B7 (outP cfgT Tryz.f7 k)
noncomputable def K7_1 (k : X → En → Store → Prop) : X → En → Store → Prop := cont cfgT 43 [1, 0, 0, 1, 0, 1, 0] L7_0 (againP cfgT 43 L7_0 k)
noncomputable def F7 (x0 x1 : SV) (S : Store) (k : SV → Store → Prop) : Prop :=
 wpO (bslS y32 0 [] S) fun p0 =>
 DenP cfgT 43 (.loop L7_0) (ups (argE [x0, x1]) [(4, (.vsl [] .nil)), (9, p0.1), (5, p0.1), (6, (.int .i64 (0)))]) p0.2 (K7_0 k)
noncomputable def TL7_0 (e : En) (S : Store) (k : X → En → Store → Prop) : Prop :=
 wpO (binS .add (some y3) (e 6) (.int .i64 (1))) fun v1 =>
 wpO (lenS y24 (e 0)) fun v2 =>
 wpO (lenS y24 (e 1)) fun v3 =>
 wpO (binS .add (some y3) v2 v3) fun v4 =>
 wpO (binS .lss (some y3) v1 v4) fun v5 =>
 condP v5
 (wpO (callW cfgT 23 [(.int .i64 (0))] S) fun p6 =>
 wpO (allocS y32.zero p6.2) fun p7 =>
 wpO (storeS y32 p7.2 p7.1 p6.1) fun S8 =>
 DenP cfgT 43 (.loop L7_1) (ups e [(10, (e 6)), (11, v1), (12, (e 0)), (13, v2), (14, (e 1)), (15, v3), (16, v4), (17, v5), (20, p6.1), (7, p7.1), (8, (.int .i64 (0)))]) S8 (K7_1 k))
 (k (.exit 0) (ups e [(10, (e 6)), (11, v1), (12, (e 0)), (13, v2), (14, (e 1)), (15, v3), (16, v4), (17, v5)]) S)
noncomputable def TL7_1 (e : En) (S : Store) (k : X → En → Store → Prop) : Prop :=
 wpO (binS .leq (some y3) (e 8) (e 6)) fun v9 =>
 condP v9
 (wpO (loadS y32 S (e 7)) fun v10 =>
 wpO (callW cfgT 31 [(e 0), (e 8)] S) fun p11 =>
 wpO (binS .sub (some y3) (e 6) (e 8)) fun v12 =>
 wpO (callW cfgT 31 [(e 1), v12] p11.2) fun p13 =>
 wpO (callW cfgT 26 [p11.1, p13.1] p13.2) fun p14 =>
 wpO (callW cfgT 30 [v10, p14.1] p14.2) fun p15 =>
 wpO (storeS y32 p15.2 (e 7) p15.1) fun S16 =>
 wpO (binS .add (some y3) (e 8) (.int .i64 (1))) fun v17 =>
 DenP cfgT 43 (.loop L7_1) (ups e [(21, (e 8)), (22, (e 6)), (23, v9), (26, v10), (27, (e 0)), (28, (e 8)), (29, p11.1), (30, (e 1)), (31, (e 6)), (32, (e 8)), (33, v12), (34, p13.1), (35, p14.1), (36, p15.1), (24, (e 8)), (25, v17), (8, v17)]) S16 k)
 (k (.exit 2) (ups e [(21, (e 8)), (22, (e 6)), (23, v9)]) S)
noncomputable def TK7_0e0 (e : En) (S : Store) (k : SV → Store → Prop) : Prop :=
 wpO (callW cfgT 32 [(e 5)] S) fun p18 =>
 k p18.1 p18.2
noncomputable def TK7_1e2 (e : En) (S : Store) (k : X → En → Store → Prop) : Prop :=
 wpO (loadS y32 S (e 7)) fun v19 =>
 wpO (bslS y32 1 [(0, v19)] S) fun p20 =>
 wpO (appS y32 p20.2 (e 5) p20.1) fun p21 =>
 wpO (binS .add (some y3) (e 6) (.int .i64 (1))) fun v22 =>
 DenP cfgT 43 (.loop L7_0) (ups e [(37, (e 5)), (38, v19), (39, p20.1), (40, p21.1), (5, p21.1), (18, (e 6)), (19, v22), (6, v22)]) p21.2 k
theorem F7_ok {x0 x1 : SV} {S : Store} {k : SV → Store → Prop} (h : F7 x0 x1 S k) : wpO (bodyW cfgT 7 [x0, x1] S) (fun p => k p.1 p.2) := bodyP_of (fn := Tryz.f7) (by kernel_rfl) (by kernel_rfl) (Nat.le_of_ble_eq_true (by kernel_rfl)) ((show F7 x0 x1 S k = wpC cfgT Tryz.f7.ntmps B7 (argE [x0, x1]) S (outP cfgT Tryz.f7 k) by kernel_rfl).mp h)
theorem L7_0_ok {e : En} {S : Store} {k : X → En → Store → Prop} (h : TL7_0 e S k) : DenP cfgT 43 (.loop L7_0) e S k := loopP_of ((show TL7_0 e S k = wpC cfgT 43 L7_0 e S (againP cfgT 43 L7_0 k) by kernel_rfl).mp h)
theorem L7_1_ok {e : En} {S : Store} {k : X → En → Store → Prop} (h : TL7_1 e S k) : DenP cfgT 43 (.loop L7_1) e S k := loopP_of ((show TL7_1 e S k = wpC cfgT 43 L7_1 e S (againP cfgT 43 L7_1 k) by kernel_rfl).mp h)
theorem K7_0e0_ok {e : En} {S : Store} {k : SV → Store → Prop} (h : TK7_0e0 e S k) : K7_0 k (.exit 0) e S := (show TK7_0e0 e S k = K7_0 k (.exit 0) e S by kernel_rfl).mp h
theorem K7_1e2_ok {e : En} {S : Store} {k : X → En → Store → Prop} (h : TK7_1e2 e S k) : K7_1 k (.exit 2) e S := (show TK7_1e2 e S k = K7_1 k (.exit 2) e S by kernel_rfl).mp h
/- ==== 8: eliminant/factor.Bound  params 1 free 0 ntmps 36
   x0=a, x1=a, x3=sum, x4=_, x5=x, x6=two, x7=_ -/
noncomputable abbrev B8 : Code := bodyOf Tryz.f8
noncomputable def L8_0 : Code := codeAt [1, 1, 0, 1, 0, 0] B8
noncomputable def K8_0 (k : SV → Store → Prop) : X → En → Store → Prop := cont cfgT 36 [1, 1, 0, 1, 0] B8 (outP cfgT Tryz.f8 k)
noncomputable def F8 (x0 : SV) (S : Store) (k : SV → Store → Prop) : Prop :=
 wpO (allocS y32.zero S) fun p0 =>
 wpO (callW cfgT 33 [(.int .i64 (0))] p0.2) fun p1 =>
 wpO (allocS y32.zero p1.2) fun p2 =>
 wpO (storeS y32 p2.2 p2.1 p1.1) fun S3 =>
 wpO (lenS y24 x0) fun v4 =>
 DenP cfgT 36 (.loop L8_0) (ups (argE [x0]) [(2, p0.1), (8, p1.1), (3, p2.1), (9, x0), (10, v4), (11, (.int .i64 (0)))]) S3 (K8_0 k)
noncomputable def TL8_0 (e : En) (S : Store) (k : X → En → Store → Prop) : Prop :=
 wpO (binS .lss (some y3) (e 11) (e 10)) fun v5 =>
 condP v5
 (wpO (indexAddrS cfgT y24 (e 9) (e 11)) fun v6 =>
 wpO (loadS y32 S v6) fun v7 =>
 wpO (allocS y32.zero S) fun p8 =>
 wpO (storeS y32 p8.2 p8.1 v7) fun S9 =>
 wpO (loadS y32 S9 p8.1) fun v10 =>
 wpO (callW cfgT 34 [v10] S9) fun p11 =>
 wpO (binS .lss (some y3) p11.1 (.int .i64 (0))) fun v12 =>
 condP v12
 (wpO (loadS y32 p11.2 p8.1) fun v13 =>
 wpO (callW cfgT 35 [v13] p11.2) fun p14 =>
 wpO (storeS y32 p14.2 p8.1 p14.1) fun S15 =>
 wpO (loadS y32 S15 (e 3)) fun v16 =>
 wpO (loadS y32 S15 p8.1) fun v17 =>
 wpO (callW cfgT 36 [v16, v17] S15) fun p18 =>
 wpO (storeS y32 p18.2 (e 3) p18.1) fun S19 =>
 wpO (binS .add (some y3) (e 11) (.int .i64 (1))) fun v20 =>
 DenP cfgT 36 (.loop L8_0) (ups e [(12, v5), (13, v6), (14, v7), (5, p8.1), (15, v10), (16, p11.1), (17, v12), (18, v13), (19, p14.1), (20, v16), (21, v17), (22, p18.1), (23, v20), (11, v20)]) S19 k)
 (wpO (loadS y32 p11.2 (e 3)) fun v21 =>
 wpO (loadS y32 p11.2 p8.1) fun v22 =>
 wpO (callW cfgT 36 [v21, v22] p11.2) fun p23 =>
 wpO (storeS y32 p23.2 (e 3) p23.1) fun S24 =>
 wpO (binS .add (some y3) (e 11) (.int .i64 (1))) fun v25 =>
 DenP cfgT 36 (.loop L8_0) (ups e [(12, v5), (13, v6), (14, v7), (5, p8.1), (15, v10), (16, p11.1), (17, v12), (20, v21), (21, v22), (22, p23.1), (23, v25), (11, v25)]) S24 k))
 (k (.exit 0) (ups e [(12, v5)]) S)
noncomputable def TK8_0e0 (e : En) (S : Store) (k : SV → Store → Prop) : Prop :=
 wpO (callW cfgT 33 [(.int .i64 (2))] S) fun p26 =>
 wpO (lenS y24 (e 0)) fun v27 =>
 wpO (binS .sub (some y3) v27 (.int .i64 (1))) fun v28 =>
 wpO (foldS max2S v28 [(.int .i64 (0))]) fun v29 =>
 wpO (callW cfgT 37 [p26.1, v29] p26.2) fun p30 =>
 wpO (extS p30.1 0) fun v31 =>
 wpO (extS p30.1 1) fun v32 =>
 wpO (allocS y32.zero p30.2) fun p33 =>
 wpO (storeS y32 p33.2 p33.1 v31) fun S34 =>
 wpO (loadS y32 S34 (e 3)) fun v35 =>
 wpO (loadS y32 S34 p33.1) fun v36 =>
 wpO (callW cfgT 38 [v35, v36] S34) fun p37 =>
 wpO (storeS y32 p37.2 (e 2) p37.1) fun S38 =>
 wpO (loadS y32 S38 (e 2)) fun v39 =>
 k v39 S38
theorem F8_ok {x0 : SV} {S : Store} {k : SV → Store → Prop} (h : F8 x0 S k) : wpO (bodyW cfgT 8 [x0] S) (fun p => k p.1 p.2) := bodyP_of (fn := Tryz.f8) (by kernel_rfl) (by kernel_rfl) (Nat.le_of_ble_eq_true (by kernel_rfl)) ((show F8 x0 S k = wpC cfgT Tryz.f8.ntmps B8 (argE [x0]) S (outP cfgT Tryz.f8 k) by kernel_rfl).mp h)
theorem L8_0_ok {e : En} {S : Store} {k : X → En → Store → Prop} (h : TL8_0 e S k) : DenP cfgT 36 (.loop L8_0) e S k := loopP_of ((show TL8_0 e S k = wpC cfgT 36 L8_0 e S (againP cfgT 36 L8_0 k) by kernel_rfl).mp h)
theorem K8_0e0_ok {e : En} {S : Store} {k : SV → Store → Prop} (h : TK8_0e0 e S k) : K8_0 k (.exit 0) e S := (show TK8_0e0 e S k = K8_0 k (.exit 0) e S by kernel_rfl).mp h
/- ==== 3: eliminant/eliminantlaw09.FactorBounds  params 2 free 0 ntmps 96
   x0=l, x1=m, x2=l, x3=m, x5=ok, x6=a, x7=b, x8=product, x9=bound, x10=i, x11=c, x12=big, x13=i, x14=d -/
noncomputable abbrev B3 : Code := bodyOf Tryz.f3
noncomputable def L3_0 : Code := codeAt [1, 1, 1, 1, 1, 1, 1, 0, 1, 0, 0] B3
noncomputable def L3_1 : Code := codeAt [1, 1, 1, 1, 1, 1, 1, 1, 1, 0, 1, 0, 0] B3
noncomputable def K3_0 (k : SV → Store → Prop) : X → En → Store → Prop := cont cfgT 96 [1, 1, 1, 1, 1, 1, 1, 0, 1, 0] B3 (outP cfgT Tryz.f3 k)
noncomputable def K3_1 (k : X → En → Store → Prop) : X → En → Store → Prop := cont cfgT 96 [1, 0, 0, 1, 0, 1] L3_0 (againP cfgT 96 L3_0 k)
noncomputable def K3_2 (k : SV → Store → Prop) : X → En → Store → Prop := cont cfgT 96 [1, 1, 1, 1, 1, 1, 1, 1, 1, 0, 1, 0] B3 (outP cfgT Tryz.f3 k)
noncomputable def F3 (x0 x1 : SV) (S : Store) (k : SV → Store → Prop) : Prop :=
 wpO (callW cfgT 4 [] S) fun p0 =>
 wpO (unS .not p0.1) fun v1 =>
 condP v1
 (k (.bool false) p0.2)
 (wpO (callW cfgT 6 [x0, (.int .i64 (6))] p0.2) fun p2 =>
 wpO (callW cfgT 5 [p2.1] p2.2) fun p3 =>
 wpO (callW cfgT 6 [x1, (.int .i64 (6))] p3.2) fun p4 =>
 wpO (callW cfgT 5 [p4.1] p4.2) fun p5 =>
 wpO (callW cfgT 7 [p3.1, p5.1] p5.2) fun p6 =>
 wpO (callW cfgT 8 [p6.1] p6.2) fun p7 =>
 wpO (allocS y32.zero p7.2) fun p8 =>
 wpO (storeS y32 p8.2 p8.1 p7.1) fun S9 =>
 wpO (lenS y24 p3.1) fun v10 =>
 wpO (binS .eql (some y3) v10 (.int .i64 (0))) fun v11 =>
 grdP (some v11) false (fun k => k p5.1 S9) S9 fun v12 S13 =>
 grdP (some v11) false (fun k => wpO (lenS y24 v12) fun v14 => k v14 S13) S13 fun v15 S16 =>
 grdP (some v11) false (fun k => wpO (binS .eql (some y3) v15 (.int .i64 (0))) fun v17 => k v17 S16) S16 fun v18 S19 =>
 wpO (pickS v11 (.bool true) v18) fun v20 =>
 condP v20
 (wpO (callW cfgT 8 [(.vsl [] .nil)] S19) fun p21 =>
 wpO (callW cfgT 9 [p21.1] p21.2) fun p22 =>
 wpO (binS .eql (some y3) p22.1 (.int .i64 (0))) fun v23 =>
 grdP (some v23) true (fun k => k p0.1 p22.2) p22.2 fun v24 S25 =>
 wpO (pickS v23 v24 (.bool false)) fun v26 =>
 k v26 S25)
 (DenP cfgT 96 (.loop L3_0) (ups (argE [x0, x1]) [(4, (.bool false)), (15, p0.1), (5, p0.1), (16, p0.1), (17, v1), (18, x0), (19, p2.1), (20, p3.1), (21, x1), (22, p4.1), (23, p5.1), (6, p3.1), (7, p5.1), (24, p3.1), (25, p5.1), (26, p6.1), (8, p6.1), (27, p6.1), (28, p7.1), (9, p8.1), (29, p3.1), (30, v10), (31, v11), (32, v11), (33, v12), (34, v15), (35, v18), (36, v20), (10, (.int .i64 (0)))]) S19 (K3_0 k)))
noncomputable def TL3_0 (e : En) (S : Store) (k : X → En → Store → Prop) : Prop :=
 wpO (lenS y24 (e 6)) fun v27 =>
 wpO (binS .lss (some y3) (e 10) v27) fun v28 =>
 condP v28
 (wpO (indexAddrS cfgT y24 (e 6) (e 10)) fun v29 =>
 wpO (loadS y32 S v29) fun v30 =>
 wpO (allocS y32.zero S) fun p31 =>
 wpO (storeS y32 p31.2 p31.1 v30) fun S32 =>
 wpO (loadS y32 S32 p31.1) fun v33 =>
 wpO (callW cfgT 9 [v33] S32) fun p34 =>
 wpO (binS .lss (some y3) p34.1 (.int .i64 (0))) fun v35 =>
 condP v35
 (wpO (loadS y32 p34.2 p31.1) fun v36 =>
 wpO (callW cfgT 10 [v36] p34.2) fun p37 =>
 wpO (storeS y32 p37.2 p31.1 p37.1) fun S38 =>
 K3_1 k .nrm (ups e [(43, (e 10)), (44, (e 6)), (45, v27), (46, v28), (49, (e 6)), (50, (e 10)), (51, v29), (52, v30), (11, p31.1), (53, v33), (54, p34.1), (55, v35), (56, v36), (57, p37.1)]) S38)
 (K3_1 k .nrm (ups e [(43, (e 10)), (44, (e 6)), (45, v27), (46, v28), (49, (e 6)), (50, (e 10)), (51, v29), (52, v30), (11, p31.1), (53, v33), (54, p34.1), (55, v35)]) p34.2))
 (k (.exit 0) (ups e [(43, (e 10)), (44, (e 6)), (45, v27), (46, v28)]) S)
noncomputable def TK3_0e0 (e : En) (S : Store) (k : SV → Store → Prop) : Prop :=
 wpO (bslS y38 0 [] S) fun p39 =>
 DenP cfgT 96 (.loop L3_1) (ups e [(62, p39.1), (12, p39.1), (13, (.int .i64 (0)))]) p39.2 (K3_2 k)
noncomputable def TK3_0r (e : En) (S : Store) (k : SV → Store → Prop) : Prop :=
 k (e 4) S
noncomputable def TL3_1 (e : En) (S : Store) (k : X → En → Store → Prop) : Prop :=
 wpO (binS .lss (some y3) (e 13) (.int .i64 (14))) fun v40 =>
 condP v40
 (wpO (callW cfgT 12 [(.int .i64 (1))] S) fun p41 =>
 wpO (bslS y38 1 [(0, p41.1)] p41.2) fun p42 =>
 wpO (appS y38 p42.2 (e 12) p42.1) fun p43 =>
 wpO (binS .add (some y3) (e 13) (.int .i64 (1))) fun v44 =>
 DenP cfgT 96 (.loop L3_1) (ups e [(63, (e 13)), (64, v40), (67, (e 12)), (68, p41.1), (69, p42.1), (70, p43.1), (12, p43.1), (65, (e 13)), (66, v44), (13, v44)]) p43.2 k)
 (k (.exit 2) (ups e [(63, (e 13)), (64, v40)]) S)
noncomputable def TK3_1n (e : En) (S : Store) (k : X → En → Store → Prop) : Prop :=
 wpO (loadS y32 S (e 11)) fun v45 =>
 wpO (loadS y32 S (e 9)) fun v46 =>
 wpO (callW cfgT 11 [v45, v46] S) fun p47 =>
 wpO (binS .gtr (some y3) p47.1 (.int .i64 (0))) fun v48 =>
 condP v48
 (k .ret (ups e [(58, v45), (59, v46), (60, p47.1), (61, v48), (4, (.bool false))]) p47.2)
 (wpO (binS .add (some y3) (e 10) (.int .i64 (1))) fun v49 =>
 DenP cfgT 96 (.loop L3_0) (ups e [(58, v45), (59, v46), (60, p47.1), (61, v48), (47, (e 10)), (48, v49), (10, v49)]) p47.2 k)
noncomputable def TK3_2e2 (e : En) (S : Store) (k : SV → Store → Prop) : Prop :=
 wpO (callW cfgT 13 [(e 12)] S) fun p50 =>
 wpO (allocS y43.zero p50.2) fun p51 =>
 wpO (storeS y43 p51.2 p51.1 p50.1) fun S52 =>
 wpO (fieldAddrS cfgT y43 p51.1 2) fun v53 =>
 wpO (loadS y41 S52 v53) fun v54 =>
 wpO (binS .eql (some y41) v54 (.int .i64 (2))) fun v55 =>
 grdP (some v55) true (fun k => wpO (fieldAddrS cfgT y43 p51.1 1) fun v56 => k v56 S52) S52 fun v57 S58 =>
 grdP (some v55) true (fun k => wpO (loadS y40 S58 v57) fun v59 => k v59 S58) S58 fun v60 S61 =>
 grdP (some v55) true (fun k => wpO (lenS y40 v60) fun v62 => k v62 S61) S61 fun v63 S64 =>
 grdP (some v55) true (fun k => wpO (binS .eql (some y3) v63 (.int .i64 (0))) fun v65 => k v65 S64) S64 fun v66 S67 =>
 wpO (pickS v55 v66 (.bool false)) fun v68 =>
 grdP (some v68) true (fun k => k (e 12) S67) S67 fun v69 S70 =>
 grdP (some v68) true (fun k => wpO (callW cfgT 14 [v69] S70) fun p71 => k p71.1 p71.2) S70 fun v72 S73 =>
 grdP (some v68) true (fun k => wpO (unS .not v72) fun v74 => k v74 S73) S73 fun v75 S76 =>
 wpO (pickS v68 v75 (.bool false)) fun v77 =>
 grdP (some v77) true (fun k => k (e 12) S76) S76 fun v78 S79 =>
 grdP (some v77) true (fun k => wpO (callW cfgT 15 [v78] S79) fun p80 => k p80.1 p80.2) S79 fun v81 S82 =>
 grdP (some v77) true (fun k => wpO (lenS y26 v81) fun v83 => k v83 S82) S82 fun v84 S85 =>
 grdP (some v77) true (fun k => wpO (binS .eql (some y3) v84 (.int .i64 (0))) fun v86 => k v86 S85) S85 fun v87 S88 =>
 wpO (pickS v77 v87 (.bool false)) fun v89 =>
 grdP (some v89) true (fun k => k (e 5) S88) S88 fun v90 S91 =>
 wpO (pickS v89 v90 (.bool false)) fun v92 =>
 k v92 S91
theorem F3_ok {x0 x1 : SV} {S : Store} {k : SV → Store → Prop} (h : F3 x0 x1 S k) : wpO (bodyW cfgT 3 [x0, x1] S) (fun p => k p.1 p.2) := bodyP_of (fn := Tryz.f3) (by kernel_rfl) (by kernel_rfl) (Nat.le_of_ble_eq_true (by kernel_rfl)) ((show F3 x0 x1 S k = wpC cfgT Tryz.f3.ntmps B3 (argE [x0, x1]) S (outP cfgT Tryz.f3 k) by kernel_rfl).mp h)
theorem L3_0_ok {e : En} {S : Store} {k : X → En → Store → Prop} (h : TL3_0 e S k) : DenP cfgT 96 (.loop L3_0) e S k := loopP_of ((show TL3_0 e S k = wpC cfgT 96 L3_0 e S (againP cfgT 96 L3_0 k) by kernel_rfl).mp h)
theorem K3_0e0_ok {e : En} {S : Store} {k : SV → Store → Prop} (h : TK3_0e0 e S k) : K3_0 k (.exit 0) e S := (show TK3_0e0 e S k = K3_0 k (.exit 0) e S by kernel_rfl).mp h
theorem K3_0r_ok {e : En} {S : Store} {k : SV → Store → Prop} (h : TK3_0r e S k) : K3_0 k .ret e S := (show TK3_0r e S k = K3_0 k .ret e S by kernel_rfl).mp h
theorem L3_1_ok {e : En} {S : Store} {k : X → En → Store → Prop} (h : TL3_1 e S k) : DenP cfgT 96 (.loop L3_1) e S k := loopP_of ((show TL3_1 e S k = wpC cfgT 96 L3_1 e S (againP cfgT 96 L3_1 k) by kernel_rfl).mp h)
theorem K3_1n_ok {e : En} {S : Store} {k : X → En → Store → Prop} (h : TK3_1n e S k) : K3_1 k .nrm e S := (show TK3_1n e S k = K3_1 k .nrm e S by kernel_rfl).mp h
theorem K3_2e2_ok {e : En} {S : Store} {k : SV → Store → Prop} (h : TK3_2e2 e S k) : K3_2 k (.exit 2) e S := (show TK3_2e2 e S k = K3_2 k (.exit 2) e S by kernel_rfl).mp h
end Go.Proofs

