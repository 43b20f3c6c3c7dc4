/-
  Functions that the law reaches, laid out (1).
-/
import Derived.Test.YtilhffelllbggaaGreatShG
set_option linter.unusedVariables false
set_option linter.unusedSimpArgs false
set_option maxRecDepth 100000
namespace Go.Proofs
open Go Go.Sh
noncomputable abbrev B83:Code:=bodyOf Tryz.f83
noncomputable def F83 (x0 : SV) (S : Zt) (k : SV → Zt → Prop) : Prop :=
 wpO (alS x0 S) fun p0 =>
 wpO (faS cT y44 p0.1 0) fun v1 =>
 wpO (ldS y4 p0.2 v1) fun v2 =>
 condP v2
 (k (.int .i64 (-1)) p0.2)
 (wpO (faS cT y44 p0.1 1) fun v3 =>
 wpO (ldS y42 p0.2 v3) fun v4 =>
 wpO (lenS y42 v4) fun v5 =>
 wpO (foldS min2S v5 [(.int .i64 1)]) fun v6 =>
 k v6 p0.2)
theorem F83_ok{x0:SV}{S:Zt}{k:SV→Zt→Prop}(h:F83 x0 S k):wpO (bW cT 83 [x0] S) (fun p=>k p.1 p.2):=bodyP_of (fn:=Tryz.f83) (by kernel_rfl) (by kernel_rfl) (Nat.le_of_ble_eq_true (by kernel_rfl)) ((show F83 x0 S k=wpC cT Tryz.f83.ntmps B83 (argE [x0]) S (outP cT Tryz.f83 k)by kernel_rfl).mp h)
noncomputable abbrev B84:Code:=bodyOf Tryz.f84
noncomputable def F84 (x0 : SV) (S : Zt) (k : SV → Zt → Prop) : Prop :=
 wpO (alS x0 S) fun p0 =>
 wpO (alS y44.zero p0.2) fun p1 =>
 wpO (faS cT y44 p0.1 0) fun v2 =>
 wpO (ldS y4 p1.2 v2) fun v3 =>
 wpO (unS .not v3) fun v4 =>
 wpO (faS cT y44 p0.1 1) fun v5 =>
 wpO (ldS y42 p1.2 v5) fun v6 =>
 wpO (cW cT 110 [v4, v6] p1.2) fun p7 =>
 wpO (stS y44 p7.2 p1.1 p7.1) fun S8 =>
 wpO (ldS y44 S8 p1.1) fun v9 =>
 k v9 S8
theorem F84_ok{x0:SV}{S:Zt}{k:SV→Zt→Prop}(h:F84 x0 S k):wpO (bW cT 84 [x0] S) (fun p=>k p.1 p.2):=bodyP_of (fn:=Tryz.f84) (by kernel_rfl) (by kernel_rfl) (Nat.le_of_ble_eq_true (by kernel_rfl)) ((show F84 x0 S k=wpC cT Tryz.f84.ntmps B84 (argE [x0]) S (outP cT Tryz.f84 k)by kernel_rfl).mp h)
noncomputable abbrev B41:Code:=bodyOf Tryz.f41
noncomputable def F41 (x0 x1 : SV) (S : Zt) (k : SV → Zt → Prop) : Prop :=
 wpO (alS x0 S) fun p0 =>
 wpO (alS x1 p0.2) fun p1 =>
 wpO (faS cT y44 p0.1 0) fun v2 =>
 wpO (ldS y4 p1.2 v2) fun v3 =>
 grdP (some v3) true (fun k => wpO (faS cT y44 p1.1 0) fun v4 => k v4 p1.2) p1.2 fun v5 S6 =>
 grdP (some v3) true (fun k => wpO (ldS y4 S6 v5) fun v7 => k v7 S6) S6 fun v8 S9 =>
 grdP (some v3) true (fun k => wpO (unS .not v8) fun v10 => k v10 S9) S9 fun v11 S12 =>
 wpO (pickS v3 v11 (.bool false)) fun v13 =>
 condP v13
 (k (.int .i64 (-1)) S12)
 (wpO (faS cT y44 p0.1 0) fun v14 =>
 wpO (ldS y4 S12 v14) fun v15 =>
 wpO (unS .not v15) fun v16 =>
 grdP (some v16) true (fun k => wpO (faS cT y44 p1.1 0) fun v17 => k v17 S12) S12 fun v18 S19 =>
 grdP (some v16) true (fun k => wpO (ldS y4 S19 v18) fun v20 => k v20 S19) S19 fun v21 S22 =>
 wpO (pickS v16 v21 (.bool false)) fun v23 =>
 condP v23
 (k (.int .i64 1) S22)
 (wpO (faS cT y44 p0.1 0) fun v24 =>
 wpO (ldS y4 S22 v24) fun v25 =>
 condP v25
 (wpO (faS cT y44 p1.1 1) fun v26 =>
 wpO (ldS y42 S22 v26) fun v27 =>
 wpO (faS cT y44 p0.1 1) fun v28 =>
 wpO (ldS y42 S22 v28) fun v29 =>
 wpO (cW cT 112 [v27, v29] S22) fun p30 =>
 k p30.1 p30.2)
 (wpO (faS cT y44 p0.1 1) fun v31 =>
 wpO (ldS y42 S22 v31) fun v32 =>
 wpO (faS cT y44 p1.1 1) fun v33 =>
 wpO (ldS y42 S22 v33) fun v34 =>
 wpO (cW cT 112 [v32, v34] S22) fun p35 =>
 k p35.1 p35.2)))
theorem F41_ok{x0 x1:SV}{S:Zt}{k:SV→Zt→Prop}(h:F41 x0 x1 S k):wpO (bW cT 41 [x0,x1] S) (fun p=>k p.1 p.2):=bodyP_of (fn:=Tryz.f41) (by kernel_rfl) (by kernel_rfl) (Nat.le_of_ble_eq_true (by kernel_rfl)) ((show F41 x0 x1 S k=wpC cT Tryz.f41.ntmps B41 (argE [x0,x1]) S (outP cT Tryz.f41 k)by kernel_rfl).mp h)
noncomputable abbrev B37:Code:=bodyOf Tryz.f37
noncomputable def F37 (x0 : SV) (S : Zt) (k : SV → Zt → Prop) : Prop :=
 wpO (alS y44.zero S) fun p0 =>
 wpO (bnS .lss (some y2) x0 (.int .i64 0)) fun v1 =>
 condP v1
 (wpO (bnS .add (some y2) x0 (.int .i64 1)) fun v2 =>
 wpO (unS .neg v2) fun v3 =>
 wpO (convS y25 v3) fun v4 =>
 wpO (bnS .add (some y25) v4 (.int .u64 (1))) fun v5 =>
 wpO (cW cT 115 [v5] p0.2) fun p6 =>
 wpO (cW cT 110 [(.bool true), p6.1] p6.2) fun p7 =>
 wpO (stS y44 p7.2 p0.1 p7.1) fun S8 =>
 wpO (ldS y44 S8 p0.1) fun v9 =>
 k v9 S8)
 (wpO (convS y25 x0) fun v10 =>
 wpO (cW cT 115 [v10] p0.2) fun p11 =>
 wpO (cW cT 110 [(.bool false), p11.1] p11.2) fun p12 =>
 wpO (stS y44 p12.2 p0.1 p12.1) fun S13 =>
 wpO (ldS y44 S13 p0.1) fun v14 =>
 k v14 S13)
theorem F37_ok{x0:SV}{S:Zt}{k:SV→Zt→Prop}(h:F37 x0 S k):wpO (bW cT 37 [x0] S) (fun p=>k p.1 p.2):=bodyP_of (fn:=Tryz.f37) (by kernel_rfl) (by kernel_rfl) (Nat.le_of_ble_eq_true (by kernel_rfl)) ((show F37 x0 S k=wpC cT Tryz.f37.ntmps B37 (argE [x0]) S (outP cT Tryz.f37 k)by kernel_rfl).mp h)
noncomputable abbrev B110:Code:=bodyOf Tryz.f110
noncomputable def F110 (x0 x1 : SV) (S : Zt) (k : SV → Zt → Prop) : Prop :=
 wpO (alS y44.zero S) fun p0 =>
 wpO (cW cT 175 [x1] p0.2) fun p1 =>
 grdP (some x0) true (fun k => k p1.1 p1.2) p1.2 fun v2 S3 =>
 grdP (some x0) true (fun k => wpO (lenS y42 v2) fun v4 => k v4 S3) S3 fun v5 S6 =>
 grdP (some x0) true (fun k => wpO (bnS .gtr (some y3) v5 (.int .i64 0)) fun v7 => k v7 S6) S6 fun v8 S9 =>
 wpO (pickS x0 v8 (.bool false)) fun v10 =>
 wpO (buildS cT y44 [(0, v10), (1, p1.1)]) fun v11 =>
 wpO (stS y44 S9 p0.1 v11) fun S12 =>
 wpO (ldS y44 S12 p0.1) fun v13 =>
 k v13 S12
theorem F110_ok{x0 x1:SV}{S:Zt}{k:SV→Zt→Prop}(h:F110 x0 x1 S k):wpO (bW cT 110 [x0,x1] S) (fun p=>k p.1 p.2):=bodyP_of (fn:=Tryz.f110) (by kernel_rfl) (by kernel_rfl) (Nat.le_of_ble_eq_true (by kernel_rfl)) ((show F110 x0 x1 S k=wpC cT Tryz.f110.ntmps B110 (argE [x0,x1]) S (outP cT Tryz.f110 k)by kernel_rfl).mp h)
noncomputable abbrev B115:Code:=bodyOf Tryz.f115
noncomputable def F115 (x0 : SV) (S : Zt) (k : SV → Zt → Prop) : Prop :=
 wpO (bnS .rem (some y25) x0 (.int .u64 (4294967296))) fun v0 =>
 wpO (convS y23 v0) fun v1 =>
 wpO (bnS .quo (some y25) x0 (.int .u64 (4294967296))) fun v2 =>
 wpO (convS y23 v2) fun v3 =>
 wpO (bslS y23 2 [(0, v1), (1, v3)] S) fun p4 =>
 wpO (cW cT 175 [p4.1] p4.2) fun p5 =>
 k p5.1 p5.2
theorem F115_ok{x0:SV}{S:Zt}{k:SV→Zt→Prop}(h:F115 x0 S k):wpO (bW cT 115 [x0] S) (fun p=>k p.1 p.2):=bodyP_of (fn:=Tryz.f115) (by kernel_rfl) (by kernel_rfl) (Nat.le_of_ble_eq_true (by kernel_rfl)) ((show F115 x0 S k=wpC cT Tryz.f115.ntmps B115 (argE [x0]) S (outP cT Tryz.f115 k)by kernel_rfl).mp h)
noncomputable abbrev B175:Code:=bodyOf Tryz.f175
noncomputable def L175_0:Code:=codeAt [1,1,0,0,0] B175
noncomputable def K175_0(k:SV→Zt→Prop):X→En→Zt→Prop:=cont cT 21 [1,1,0,0] B175 (outP cT Tryz.f175 k)
noncomputable def F175 (x0 : SV) (S : Zt) (k : SV → Zt → Prop) : Prop :=
 wpO (lenS y42 x0) fun v0 =>
 DenP cT 21 (.loop L175_0) (ups (argE [x0]) [(2, (.vsl [] .nil)), (4, x0), (5, v0), (3, v0)]) S (K175_0 k)
noncomputable def TL175_0 (e : En) (S : Zt) (k : X → En → Zt → Prop) : Prop :=
 wpO (bnS .gtr (some y3) (e 3) (.int .i64 0)) fun v1 =>
 grdP (some v1) true (fun k => k (e 0) S) S fun v2 S3 =>
 grdP (some v1) true (fun k => k (e 3) S3) S3 fun v4 S5 =>
 grdP (some v1) true (fun k => wpO (bnS .sub (some y3) v4 (.int .i64 1)) fun v6 => k v6 S5) S5 fun v7 S8 =>
 grdP (some v1) true (fun k => wpO (ixS cT y42 v2 v7) fun v9 => k v9 S8) S8 fun v10 S11 =>
 grdP (some v1) true (fun k => wpO (ldS y23 S11 v10) fun v12 => k v12 S11) S11 fun v13 S14 =>
 grdP (some v1) true (fun k => wpO (bnS .eql (some y23) v13 (.int .u32 (0))) fun v15 => k v15 S14) S14 fun v16 S17 =>
 wpO (pickS v1 v16 (.bool false)) fun v18 =>
 condP v18
 (wpO (bnS .sub (some y3) (e 3) (.int .i64 1)) fun v19 =>
 DenP cT 21 (.loop L175_0) (ups e [(6, (e 3)), (7, v1), (8, v1), (9, v2), (10, v4), (11, v7), (12, v10), (13, v13), (14, v16), (15, v18), (16, (e 3)), (17, v19), (3, v19)]) S17 k)
 (k (.exit 0) (ups e [(6, (e 3)), (7, v1), (8, v1), (9, v2), (10, v4), (11, v7), (12, v10), (13, v13), (14, v16), (15, v18)]) S17)
noncomputable def TK175_0e0 (e : En) (S : Zt) (k : SV → Zt → Prop) : Prop :=
 wpO (slicS y23 (e 0) none (some (e 3)) none) fun v20 =>
 k v20 S
theorem F175_ok{x0:SV}{S:Zt}{k:SV→Zt→Prop}(h:F175 x0 S k):wpO (bW cT 175 [x0] S) (fun p=>k p.1 p.2):=bodyP_of (fn:=Tryz.f175) (by kernel_rfl) (by kernel_rfl) (Nat.le_of_ble_eq_true (by kernel_rfl)) ((show F175 x0 S k=wpC cT Tryz.f175.ntmps B175 (argE [x0]) S (outP cT Tryz.f175 k)by kernel_rfl).mp h)
theorem L175_0_ok{e:En}{S:Zt}{k:X→En→Zt→Prop}(h:TL175_0 e S k):DenP cT 21 (.loop L175_0) e S k:=loopP_of ((show TL175_0 e S k=wpC cT 21 L175_0 e S (againP cT 21 L175_0 k)by kernel_rfl).mp h)
theorem K175_0e0_ok{e:En}{S:Zt}{k:SV→Zt→Prop}(h:TK175_0e0 e S k):K175_0 k (.exit 0) e S:=(show TK175_0e0 e S k=K175_0 k (.exit 0) e S by kernel_rfl).mp h
noncomputable abbrev B218:Code:=bodyOf Tryz.f218
noncomputable def F218 (x0 : SV) (S : Zt) (k : SV → Zt → Prop) : Prop :=
 wpO (cW cT 176 [x0, (.int .i64 1)] S) fun p0 =>
 wpO (bnS .mul (some y25) p0.1 (.int .u64 (4294967296))) fun v1 =>
 wpO (cW cT 176 [x0, (.int .i64 0)] p0.2) fun p2 =>
 wpO (bnS .add (some y25) v1 p2.1) fun v3 =>
 k v3 p2.2
theorem F218_ok{x0:SV}{S:Zt}{k:SV→Zt→Prop}(h:F218 x0 S k):wpO (bW cT 218 [x0] S) (fun p=>k p.1 p.2):=bodyP_of (fn:=Tryz.f218) (by kernel_rfl) (by kernel_rfl) (Nat.le_of_ble_eq_true (by kernel_rfl)) ((show F218 x0 S k=wpC cT Tryz.f218.ntmps B218 (argE [x0]) S (outP cT Tryz.f218 k)by kernel_rfl).mp h)
noncomputable abbrev B176:Code:=bodyOf Tryz.f176
noncomputable def F176 (x0 x1 : SV) (S : Zt) (k : SV → Zt → Prop) : Prop :=
 wpO (lenS y42 x0) fun v0 =>
 wpO (bnS .lss (some y3) x1 v0) fun v1 =>
 condP v1
 (wpO (ixS cT y42 x0 x1) fun v2 =>
 wpO (ldS y23 S v2) fun v3 =>
 wpO (convS y25 v3) fun v4 =>
 k v4 S)
 (k (.int .u64 (0)) S)
theorem F176_ok{x0 x1:SV}{S:Zt}{k:SV→Zt→Prop}(h:F176 x0 x1 S k):wpO (bW cT 176 [x0,x1] S) (fun p=>k p.1 p.2):=bodyP_of (fn:=Tryz.f176) (by kernel_rfl) (by kernel_rfl) (Nat.le_of_ble_eq_true (by kernel_rfl)) ((show F176 x0 x1 S k=wpC cT Tryz.f176.ntmps B176 (argE [x0,x1]) S (outP cT Tryz.f176 k)by kernel_rfl).mp h)
noncomputable abbrev B112:Code:=bodyOf Tryz.f112
noncomputable def L112_0:Code:=codeAt [1,1,1,0,1,0,0] B112
noncomputable def K112_0(k:SV→Zt→Prop):X→En→Zt→Prop:=cont cT 41 [1,1,1,0,1,0] B112 (outP cT Tryz.f112 k)
noncomputable def F112 (x0 x1 : SV) (S : Zt) (k : SV → Zt → Prop) : Prop :=
 wpO (lenS y42 x0) fun v0 =>
 wpO (lenS y42 x1) fun v1 =>
 wpO (bnS .lss (some y3) v0 v1) fun v2 =>
 condP v2
 (k (.int .i64 (-1)) S)
 (wpO (lenS y42 x0) fun v3 =>
 wpO (lenS y42 x1) fun v4 =>
 wpO (bnS .gtr (some y3) v3 v4) fun v5 =>
 condP v5
 (k (.int .i64 1) S)
 (wpO (lenS y42 x0) fun v6 =>
 wpO (bnS .sub (some y3) v6 (.int .i64 1)) fun v7 =>
 DenP cT 41 (.loop L112_0) (ups (argE [x0, x1]) [(4, (.int .i64 0)), (6, x0), (7, v0), (8, x1), (9, v1), (10, v2), (11, x0), (12, v3), (13, x1), (14, v4), (15, v5), (16, x0), (17, v6), (18, v7), (5, v7)]) S (K112_0 k)))
noncomputable def TL112_0 (e : En) (S : Zt) (k : X → En → Zt → Prop) : Prop :=
 wpO (bnS .geq (some y3) (e 5) (.int .i64 0)) fun v8 =>
 condP v8
 (wpO (ixS cT y42 (e 0) (e 5)) fun v9 =>
 wpO (ldS y23 S v9) fun v10 =>
 wpO (ixS cT y42 (e 1) (e 5)) fun v11 =>
 wpO (ldS y23 S v11) fun v12 =>
 wpO (bnS .lss (some y23) v10 v12) fun v13 =>
 condP v13
 (k .ret (ups e [(19, (e 5)), (20, v8), (23, (e 0)), (24, (e 5)), (25, v9), (26, v10), (27, (e 1)), (28, (e 5)), (29, v11), (30, v12), (31, v13), (4, (.int .i64 (-1)))]) S)
 (wpO (ixS cT y42 (e 0) (e 5)) fun v14 =>
 wpO (ldS y23 S v14) fun v15 =>
 wpO (ixS cT y42 (e 1) (e 5)) fun v16 =>
 wpO (ldS y23 S v16) fun v17 =>
 wpO (bnS .gtr (some y23) v15 v17) fun v18 =>
 condP v18
 (k .ret (ups e [(19, (e 5)), (20, v8), (23, (e 0)), (24, (e 5)), (25, v9), (26, v10), (27, (e 1)), (28, (e 5)), (29, v11), (30, v12), (31, v13), (32, (e 0)), (33, (e 5)), (34, v14), (35, v15), (36, (e 1)), (37, (e 5)), (38, v16), (39, v17), (40, v18), (4, (.int .i64 1))]) S)
 (wpO (bnS .sub (some y3) (e 5) (.int .i64 1)) fun v19 =>
 DenP cT 41 (.loop L112_0) (ups e [(19, (e 5)), (20, v8), (23, (e 0)), (24, (e 5)), (25, v9), (26, v10), (27, (e 1)), (28, (e 5)), (29, v11), (30, v12), (31, v13), (32, (e 0)), (33, (e 5)), (34, v14), (35, v15), (36, (e 1)), (37, (e 5)), (38, v16), (39, v17), (40, v18), (21, (e 5)), (22, v19), (5, v19)]) S k)))
 (k (.exit 0) (ups e [(19, (e 5)), (20, v8)]) S)
noncomputable def TK112_0e0 (e : En) (S : Zt) (k : SV → Zt → Prop) : Prop :=
 k (.int .i64 0) S
noncomputable def TK112_0r (e : En) (S : Zt) (k : SV → Zt → Prop) : Prop :=
 k (e 4) S
theorem F112_ok{x0 x1:SV}{S:Zt}{k:SV→Zt→Prop}(h:F112 x0 x1 S k):wpO (bW cT 112 [x0,x1] S) (fun p=>k p.1 p.2):=bodyP_of (fn:=Tryz.f112) (by kernel_rfl) (by kernel_rfl) (Nat.le_of_ble_eq_true (by kernel_rfl)) ((show F112 x0 x1 S k=wpC cT Tryz.f112.ntmps B112 (argE [x0,x1]) S (outP cT Tryz.f112 k)by kernel_rfl).mp h)
theorem L112_0_ok{e:En}{S:Zt}{k:X→En→Zt→Prop}(h:TL112_0 e S k):DenP cT 41 (.loop L112_0) e S k:=loopP_of ((show TL112_0 e S k=wpC cT 41 L112_0 e S (againP cT 41 L112_0 k)by kernel_rfl).mp h)
theorem K112_0e0_ok{e:En}{S:Zt}{k:SV→Zt→Prop}(h:TK112_0e0 e S k):K112_0 k (.exit 0) e S:=(show TK112_0e0 e S k=K112_0 k (.exit 0) e S by kernel_rfl).mp h
theorem K112_0r_ok{e:En}{S:Zt}{k:SV→Zt→Prop}(h:TK112_0r e S k):K112_0 k .ret e S:=(show TK112_0r e S k=K112_0 k .ret e S by kernel_rfl).mp h
noncomputable abbrev B81:Code:=bodyOf Tryz.f81
noncomputable def F81 (x0 x1 : SV) (S : Zt) (k : SV → Zt → Prop) : Prop :=
 wpO (alS x0 S) fun p0 =>
 wpO (alS x1 p0.2) fun p1 =>
 wpO (alS y44.zero p1.2) fun p2 =>
 wpO (alS y44.zero p2.2) fun p3 =>
 wpO (faS cT y44 p1.1 1) fun v4 =>
 wpO (ldS y42 p3.2 v4) fun v5 =>
 wpO (lenS y42 v5) fun v6 =>
 wpO (bnS .eql (some y3) v6 (.int .i64 0)) fun v7 =>
 condP v7
 (wpO (buildS cT y44 []) fun v8 =>
 wpO (buildS cT y44 []) fun v9 =>
 wpO (stS y44 p3.2 p2.1 v8) fun S10 =>
 wpO (stS y44 S10 p3.1 v9) fun S11 =>
 wpO (ldS y44 S11 p2.1) fun v12 =>
 wpO (ldS y44 S11 p3.1) fun v13 =>
 k (.tup [v12, v13, (.int .i64 10)]) S11)
 (wpO (faS cT y44 p0.1 1) fun v14 =>
 wpO (ldS y42 p3.2 v14) fun v15 =>
 wpO (faS cT y44 p1.1 1) fun v16 =>
 wpO (ldS y42 p3.2 v16) fun v17 =>
 wpO (cW cT 153 [v15, v17] p3.2) fun p18 =>
 wpO (extS p18.1 0) fun v19 =>
 wpO (extS p18.1 1) fun v20 =>
 wpO (faS cT y44 p0.1 0) fun v21 =>
 wpO (ldS y4 p18.2 v21) fun v22 =>
 grdP (some v22) true (fun k => k v20 p18.2) p18.2 fun v23 S24 =>
 grdP (some v22) true (fun k => wpO (lenS y42 v23) fun v25 => k v25 S24) S24 fun v26 S27 =>
 grdP (some v22) true (fun k => wpO (bnS .gtr (some y3) v26 (.int .i64 0)) fun v28 => k v28 S27) S27 fun v29 S30 =>
 wpO (pickS v22 v29 (.bool false)) fun v31 =>
 condP v31
 (wpO (bslS y23 1 [(0, (.int .u32 (1)))] S30) fun p32 =>
 wpO (cW cT 111 [v19, p32.1] p32.2) fun p33 =>
 wpO (faS cT y44 p1.1 1) fun v34 =>
 wpO (ldS y42 p33.2 v34) fun v35 =>
 wpO (cW cT 113 [v35, v20] p33.2) fun p36 =>
 wpO (faS cT y44 p0.1 0) fun v37 =>
 wpO (ldS y4 p36.2 v37) fun v38 =>
 wpO (faS cT y44 p1.1 0) fun v39 =>
 wpO (ldS y4 p36.2 v39) fun v40 =>
 wpO (bnS .neq (some y4) v38 v40) fun v41 =>
 wpO (cW cT 110 [v41, p33.1] p36.2) fun p42 =>
 wpO (cW cT 110 [(.bool false), p36.1] p42.2) fun p43 =>
 wpO (stS y44 p43.2 p2.1 p42.1) fun S44 =>
 wpO (stS y44 S44 p3.1 p43.1) fun S45 =>
 wpO (ldS y44 S45 p2.1) fun v46 =>
 wpO (ldS y44 S45 p3.1) fun v47 =>
 k (.tup [v46, v47, (.int .i64 0)]) S45)
 (wpO (faS cT y44 p0.1 0) fun v48 =>
 wpO (ldS y4 S30 v48) fun v49 =>
 wpO (faS cT y44 p1.1 0) fun v50 =>
 wpO (ldS y4 S30 v50) fun v51 =>
 wpO (bnS .neq (some y4) v49 v51) fun v52 =>
 wpO (cW cT 110 [v52, v19] S30) fun p53 =>
 wpO (cW cT 110 [(.bool false), v20] p53.2) fun p54 =>
 wpO (stS y44 p54.2 p2.1 p53.1) fun S55 =>
 wpO (stS y44 S55 p3.1 p54.1) fun S56 =>
 wpO (ldS y44 S56 p2.1) fun v57 =>
 wpO (ldS y44 S56 p3.1) fun v58 =>
 k (.tup [v57, v58, (.int .i64 0)]) S56))
theorem F81_ok{x0 x1:SV}{S:Zt}{k:SV→Zt→Prop}(h:F81 x0 x1 S k):wpO (bW cT 81 [x0,x1] S) (fun p=>k p.1 p.2):=bodyP_of (fn:=Tryz.f81) (by kernel_rfl) (by kernel_rfl) (Nat.le_of_ble_eq_true (by kernel_rfl)) ((show F81 x0 x1 S k=wpC cT Tryz.f81.ntmps B81 (argE [x0,x1]) S (outP cT Tryz.f81 k)by kernel_rfl).mp h)
noncomputable abbrev B36:Code:=bodyOf Tryz.f36
noncomputable def F36 (x0 x1 : SV) (S : Zt) (k : SV → Zt → Prop) : Prop :=
 wpO (alS x0 S) fun p0 =>
 wpO (alS x1 p0.2) fun p1 =>
 wpO (alS y44.zero p1.2) fun p2 =>
 wpO (faS cT y44 p0.1 0) fun v3 =>
 wpO (ldS y4 p2.2 v3) fun v4 =>
 wpO (faS cT y44 p1.1 0) fun v5 =>
 wpO (ldS y4 p2.2 v5) fun v6 =>
 wpO (bnS .neq (some y4) v4 v6) fun v7 =>
 wpO (faS cT y44 p0.1 1) fun v8 =>
 wpO (ldS y42 p2.2 v8) fun v9 =>
 wpO (faS cT y44 p1.1 1) fun v10 =>
 wpO (ldS y42 p2.2 v10) fun v11 =>
 wpO (cW cT 114 [v9, v11] p2.2) fun p12 =>
 wpO (cW cT 110 [v7, p12.1] p12.2) fun p13 =>
 wpO (stS y44 p13.2 p2.1 p13.1) fun S14 =>
 wpO (ldS y44 S14 p2.1) fun v15 =>
 k v15 S14
theorem F36_ok{x0 x1:SV}{S:Zt}{k:SV→Zt→Prop}(h:F36 x0 x1 S k):wpO (bW cT 36 [x0,x1] S) (fun p=>k p.1 p.2):=bodyP_of (fn:=Tryz.f36) (by kernel_rfl) (by kernel_rfl) (Nat.le_of_ble_eq_true (by kernel_rfl)) ((show F36 x0 x1 S k=wpC cT Tryz.f36.ntmps B36 (argE [x0,x1]) S (outP cT Tryz.f36 k)by kernel_rfl).mp h)
noncomputable abbrev B35:Code:=bodyOf Tryz.f35
noncomputable def F35 (x0 x1 : SV) (S : Zt) (k : SV → Zt → Prop) : Prop :=
 wpO (alS x0 S) fun p0 =>
 wpO (alS x1 p0.2) fun p1 =>
 wpO (alS y44.zero p1.2) fun p2 =>
 wpO (faS cT y44 p0.1 0) fun v3 =>
 wpO (ldS y4 p2.2 v3) fun v4 =>
 wpO (faS cT y44 p1.1 0) fun v5 =>
 wpO (ldS y4 p2.2 v5) fun v6 =>
 wpO (bnS .eql (some y4) v4 v6) fun v7 =>
 condP v7
 (wpO (faS cT y44 p0.1 0) fun v8 =>
 wpO (ldS y4 p2.2 v8) fun v9 =>
 wpO (faS cT y44 p0.1 1) fun v10 =>
 wpO (ldS y42 p2.2 v10) fun v11 =>
 wpO (faS cT y44 p1.1 1) fun v12 =>
 wpO (ldS y42 p2.2 v12) fun v13 =>
 wpO (cW cT 111 [v11, v13] p2.2) fun p14 =>
 wpO (cW cT 110 [v9, p14.1] p14.2) fun p15 =>
 wpO (stS y44 p15.2 p2.1 p15.1) fun S16 =>
 wpO (ldS y44 S16 p2.1) fun v17 =>
 k v17 S16)
 (wpO (faS cT y44 p0.1 1) fun v18 =>
 wpO (ldS y42 p2.2 v18) fun v19 =>
 wpO (faS cT y44 p1.1 1) fun v20 =>
 wpO (ldS y42 p2.2 v20) fun v21 =>
 wpO (cW cT 112 [v19, v21] p2.2) fun p22 =>
 wpO (bnS .lss (some y3) p22.1 (.int .i64 0)) fun v23 =>
 condP v23
 (wpO (faS cT y44 p1.1 0) fun v24 =>
 wpO (ldS y4 p22.2 v24) fun v25 =>
 wpO (faS cT y44 p1.1 1) fun v26 =>
 wpO (ldS y42 p22.2 v26) fun v27 =>
 wpO (faS cT y44 p0.1 1) fun v28 =>
 wpO (ldS y42 p22.2 v28) fun v29 =>
 wpO (cW cT 113 [v27, v29] p22.2) fun p30 =>
 wpO (cW cT 110 [v25, p30.1] p30.2) fun p31 =>
 wpO (stS y44 p31.2 p2.1 p31.1) fun S32 =>
 wpO (ldS y44 S32 p2.1) fun v33 =>
 k v33 S32)
 (wpO (faS cT y44 p0.1 0) fun v34 =>
 wpO (ldS y4 p22.2 v34) fun v35 =>
 wpO (faS cT y44 p0.1 1) fun v36 =>
 wpO (ldS y42 p22.2 v36) fun v37 =>
 wpO (faS cT y44 p1.1 1) fun v38 =>
 wpO (ldS y42 p22.2 v38) fun v39 =>
 wpO (cW cT 113 [v37, v39] p22.2) fun p40 =>
 wpO (cW cT 110 [v35, p40.1] p40.2) fun p41 =>
 wpO (stS y44 p41.2 p2.1 p41.1) fun S42 =>
 wpO (ldS y44 S42 p2.1) fun v43 =>
 k v43 S42))
theorem F35_ok{x0 x1:SV}{S:Zt}{k:SV→Zt→Prop}(h:F35 x0 x1 S k):wpO (bW cT 35 [x0,x1] S) (fun p=>k p.1 p.2):=bodyP_of (fn:=Tryz.f35) (by kernel_rfl) (by kernel_rfl) (Nat.le_of_ble_eq_true (by kernel_rfl)) ((show F35 x0 x1 S k=wpC cT Tryz.f35.ntmps B35 (argE [x0,x1]) S (outP cT Tryz.f35 k)by kernel_rfl).mp h)
noncomputable abbrev B153:Code:=bodyOf Tryz.f153
noncomputable def L153_0:Code:=codeAt [1,1,1,1,1,1,1,1,1,0,1,0,0] B153
noncomputable def K153_0(k:SV→Zt→Prop):X→En→Zt→Prop:=cont cT 110 [1,1,1,1,1,1,1,1,1,0,1,0] B153 (outP cT Tryz.f153 k)
noncomputable def F153 (x0 x1 : SV) (S : Zt) (k : SV → Zt → Prop) : Prop :=
 wpO (cW cT 112 [x0, x1] S) fun p0 =>
 wpO (bnS .lss (some y3) p0.1 (.int .i64 0)) fun v1 =>
 condP v1
 (k (.tup [(.vsl [] .nil), x0]) p0.2)
 (wpO (lenS y42 x1) fun v2 =>
 wpO (bnS .eql (some y3) v2 (.int .i64 1)) fun v3 =>
 condP v3
 (wpO (ixS cT y42 x1 (.int .i64 0)) fun v4 =>
 wpO (ldS y23 p0.2 v4) fun v5 =>
 wpO (convS y25 v5) fun v6 =>
 wpO (cW cT 219 [x0, v6] p0.2) fun p7 =>
 wpO (extS p7.1 0) fun v8 =>
 wpO (extS p7.1 1) fun v9 =>
 wpO (cW cT 115 [v9] p7.2) fun p10 =>
 k (.tup [v8, p10.1]) p10.2)
 (wpO (lenS y42 x1) fun v11 =>
 wpO (bnS .sub (some y3) v11 (.int .i64 1)) fun v12 =>
 wpO (ixS cT y42 x1 v12) fun v13 =>
 wpO (ldS y23 p0.2 v13) fun v14 =>
 wpO (convS y25 v14) fun v15 =>
 wpO (bnS .add (some y25) v15 (.int .u64 (1))) fun v16 =>
 wpO (bnS .quo (some y25) (.int .u64 (4294967296)) v16) fun v17 =>
 wpO (cW cT 115 [v17] p0.2) fun p18 =>
 wpO (cW cT 114 [x1, p18.1] p18.2) fun p19 =>
 wpO (lenS y42 x0) fun v20 =>
 wpO (bnS .add (some y3) v20 (.int .i64 1)) fun v21 =>
 wpO (mkslS y23 v21 v21 p19.2) fun p22 =>
 wpO (cW cT 115 [v17] p22.2) fun p23 =>
 wpO (cW cT 114 [x0, p23.1] p23.2) fun p24 =>
 wpO (copyS y23.size p24.2 p22.1 p24.1) fun p25 =>
 wpO (lenS y42 x0) fun v26 =>
 wpO (bnS .sub (some y3) v26 v11) fun v27 =>
 wpO (bnS .add (some y3) v27 (.int .i64 1)) fun v28 =>
 wpO (mkslS y23 v28 v28 p25.2) fun p29 =>
 wpO (lenS y42 x0) fun v30 =>
 wpO (bnS .sub (some y3) v30 v11) fun v31 =>
 DenP cT 110 (.loop L153_0) (ups (argE [x0, x1]) [(4, (.vsl [] .nil)), (5, (.vsl [] .nil)), (18, x0), (19, x1), (20, p0.1), (21, v1), (23, x1), (24, v2), (25, v3), (38, x1), (39, v11), (8, v11), (40, x1), (41, v11), (42, v12), (43, v13), (44, v14), (45, v15), (46, v16), (47, v17), (9, v17), (48, x1), (49, v17), (50, p18.1), (51, p19.1), (10, p19.1), (52, x0), (53, v20), (54, v21), (55, p22.1), (11, p22.1), (56, p22.1), (57, x0), (58, v17), (59, p23.1), (60, p24.1), (61, p25.1), (62, x0), (63, v26), (64, v11), (65, v27), (66, v28), (67, p29.1), (12, p29.1), (68, x0), (69, v30), (70, v11), (71, v31), (13, v31)]) p29.2 (K153_0 k)))
noncomputable def TL153_0 (e : En) (S : Zt) (k : X → En → Zt → Prop) : Prop :=
 wpO (bnS .geq (some y3) (e 13) (.int .i64 0)) fun v32 =>
 condP v32
 (wpO (bnS .add (some y3) (e 13) (e 8)) fun v33 =>
 wpO (bnS .add (some y3) v33 (.int .i64 1)) fun v34 =>
 wpO (slicS y23 (e 11) (some (e 13)) (some v34) none) fun v35 =>
 wpO (cW cT 220 [v35, (e 10)] S) fun p36 =>
 wpO (cW cT 221 [v35, (e 10), p36.1] p36.2) fun p37 =>
 condP p37.1
 (wpO (bnS .sub (some y25) p36.1 (.int .u64 (1))) fun v38 =>
 wpO (cW cT 222 [v35, (e 10)] p37.2) fun p39 =>
 wpO (convS y23 v38) fun v40 =>
 wpO (ixS cT y42 (e 12) (e 13)) fun v41 =>
 wpO (stS y23 p39.2 v41 v40) fun S42 =>
 wpO (bnS .sub (some y3) (e 13) (.int .i64 1)) fun v43 =>
 DenP cT 110 (.loop L153_0) (ups e [(72, (e 13)), (73, v32), (76, (e 11)), (77, (e 13)), (78, (e 13)), (79, (e 8)), (80, v33), (81, v34), (82, v35), (14, v35), (83, v35), (84, (e 10)), (85, p36.1), (15, p36.1), (86, v35), (87, (e 10)), (88, p36.1), (89, p37.1), (90, p36.1), (91, v38), (15, v38), (92, v35), (93, (e 10)), (94, p39.1), (95, (e 12)), (96, (e 13)), (97, v38), (98, v40), (99, v41), (74, (e 13)), (75, v43), (13, v43)]) S42 k)
 (wpO (convS y23 p36.1) fun v44 =>
 wpO (ixS cT y42 (e 12) (e 13)) fun v45 =>
 wpO (stS y23 p37.2 v45 v44) fun S46 =>
 wpO (bnS .sub (some y3) (e 13) (.int .i64 1)) fun v47 =>
 DenP cT 110 (.loop L153_0) (ups e [(72, (e 13)), (73, v32), (76, (e 11)), (77, (e 13)), (78, (e 13)), (79, (e 8)), (80, v33), (81, v34), (82, v35), (14, v35), (83, v35), (84, (e 10)), (85, p36.1), (15, p36.1), (86, v35), (87, (e 10)), (88, p36.1), (89, p37.1), (95, (e 12)), (96, (e 13)), (97, p36.1), (98, v44), (99, v45), (74, (e 13)), (75, v47), (13, v47)]) S46 k))
 (k (.exit 0) (ups e [(72, (e 13)), (73, v32)]) S)
noncomputable def TK153_0e0 (e : En) (S : Zt) (k : SV → Zt → Prop) : Prop :=
 wpO (cW cT 175 [(e 11)] S) fun p48 =>
 wpO (cW cT 219 [p48.1, (e 9)] p48.2) fun p49 =>
 wpO (extS p49.1 0) fun v50 =>
 wpO (extS p49.1 1) fun v51 =>
 wpO (cW cT 175 [(e 12)] p49.2) fun p52 =>
 k (.tup [p52.1, v50]) p52.2
theorem F153_ok{x0 x1:SV}{S:Zt}{k:SV→Zt→Prop}(h:F153 x0 x1 S k):wpO (bW cT 153 [x0,x1] S) (fun p=>k p.1 p.2):=bodyP_of (fn:=Tryz.f153) (by kernel_rfl) (by kernel_rfl) (Nat.le_of_ble_eq_true (by kernel_rfl)) ((show F153 x0 x1 S k=wpC cT Tryz.f153.ntmps B153 (argE [x0,x1]) S (outP cT Tryz.f153 k)by kernel_rfl).mp h)
theorem L153_0_ok{e:En}{S:Zt}{k:X→En→Zt→Prop}(h:TL153_0 e S k):DenP cT 110 (.loop L153_0) e S k:=loopP_of ((show TL153_0 e S k=wpC cT 110 L153_0 e S (againP cT 110 L153_0 k)by kernel_rfl).mp h)
theorem K153_0e0_ok{e:En}{S:Zt}{k:SV→Zt→Prop}(h:TK153_0e0 e S k):K153_0 k (.exit 0) e S:=(show TK153_0e0 e S k=K153_0 k (.exit 0) e S by kernel_rfl).mp h
noncomputable abbrev B111:Code:=bodyOf Tryz.f111
noncomputable def L111_0:Code:=codeAt [1,1,1,1,0,1,0,0] B111
noncomputable def K111_0(k:SV→Zt→Prop):X→En→Zt→Prop:=cont cT 42 [1,1,1,1,0,1,0] B111 (outP cT Tryz.f111 k)
noncomputable def F111 (x0 x1 : SV) (S : Zt) (k : SV → Zt → Prop) : Prop :=
 wpO (lenS y42 x0) fun v0 =>
 wpO (lenS y42 x1) fun v1 =>
 wpO (foldS max2S v0 [v1]) fun v2 =>
 wpO (bnS .add (some y3) v2 (.int .i64 1)) fun v3 =>
 wpO (mkslS y23 v3 v3 S) fun p4 =>
 DenP cT 42 (.loop L111_0) (ups (argE [x0, x1]) [(4, (.vsl [] .nil)), (10, x0), (11, v0), (12, x1), (13, v1), (14, v2), (15, v3), (5, v3), (16, v3), (17, p4.1), (6, p4.1), (7, (.int .u64 (0))), (8, (.int .i64 0))]) p4.2 (K111_0 k)
noncomputable def TL111_0 (e : En) (S : Zt) (k : X → En → Zt → Prop) : Prop :=
 wpO (bnS .lss (some y3) (e 8) (e 5)) fun v5 =>
 condP v5
 (wpO (cW cT 176 [(e 0), (e 8)] S) fun p6 =>
 wpO (cW cT 176 [(e 1), (e 8)] p6.2) fun p7 =>
 wpO (bnS .add (some y25) p6.1 p7.1) fun v8 =>
 wpO (bnS .add (some y25) v8 (e 7)) fun v9 =>
 wpO (bnS .rem (some y25) v9 (.int .u64 (4294967296))) fun v10 =>
 wpO (convS y23 v10) fun v11 =>
 wpO (ixS cT y42 (e 6) (e 8)) fun v12 =>
 wpO (stS y23 p7.2 v12 v11) fun S13 =>
 wpO (bnS .quo (some y25) v9 (.int .u64 (4294967296))) fun v14 =>
 wpO (bnS .add (some y3) (e 8) (.int .i64 1)) fun v15 =>
 DenP cT 42 (.loop L111_0) (ups e [(18, (e 8)), (19, (e 5)), (20, v5), (23, (e 0)), (24, (e 8)), (25, p6.1), (26, (e 1)), (27, (e 8)), (28, p7.1), (29, v8), (30, (e 7)), (31, v9), (9, v9), (32, (e 6)), (33, (e 8)), (34, v9), (35, v10), (36, v11), (37, v12), (38, v9), (39, v14), (7, v14), (21, (e 8)), (22, v15), (8, v15)]) S13 k)
 (k (.exit 0) (ups e [(18, (e 8)), (19, (e 5)), (20, v5)]) S)
noncomputable def TK111_0e0 (e : En) (S : Zt) (k : SV → Zt → Prop) : Prop :=
 wpO (cW cT 175 [(e 6)] S) fun p16 =>
 k p16.1 p16.2
theorem F111_ok{x0 x1:SV}{S:Zt}{k:SV→Zt→Prop}(h:F111 x0 x1 S k):wpO (bW cT 111 [x0,x1] S) (fun p=>k p.1 p.2):=bodyP_of (fn:=Tryz.f111) (by kernel_rfl) (by kernel_rfl) (Nat.le_of_ble_eq_true (by kernel_rfl)) ((show F111 x0 x1 S k=wpC cT Tryz.f111.ntmps B111 (argE [x0,x1]) S (outP cT Tryz.f111 k)by kernel_rfl).mp h)
theorem L111_0_ok{e:En}{S:Zt}{k:X→En→Zt→Prop}(h:TL111_0 e S k):DenP cT 42 (.loop L111_0) e S k:=loopP_of ((show TL111_0 e S k=wpC cT 42 L111_0 e S (againP cT 42 L111_0 k)by kernel_rfl).mp h)
theorem K111_0e0_ok{e:En}{S:Zt}{k:SV→Zt→Prop}(h:TK111_0e0 e S k):K111_0 k (.exit 0) e S:=(show TK111_0e0 e S k=K111_0 k (.exit 0) e S by kernel_rfl).mp h
noncomputable abbrev B113:Code:=bodyOf Tryz.f113
noncomputable def L113_0:Code:=codeAt [1,1,1,0,1,0,0] B113
noncomputable def K113_0(k:SV→Zt→Prop):X→En→Zt→Prop:=cont cT 41 [1,1,1,0,1,0] B113 (outP cT Tryz.f113 k)
noncomputable def F113 (x0 x1 : SV) (S : Zt) (k : SV → Zt → Prop) : Prop :=
 wpO (lenS y42 x0) fun v0 =>
 wpO (mkslS y23 v0 v0 S) fun p1 =>
 DenP cT 41 (.loop L113_0) (ups (argE [x0, x1]) [(4, (.vsl [] .nil)), (9, x0), (10, v0), (11, p1.1), (5, p1.1), (6, (.int .u64 (0))), (7, (.int .i64 0))]) p1.2 (K113_0 k)
noncomputable def TL113_0 (e : En) (S : Zt) (k : X → En → Zt → Prop) : Prop :=
 wpO (lenS y42 (e 0)) fun v2 =>
 wpO (bnS .lss (some y3) (e 7) v2) fun v3 =>
 condP v3
 (wpO (ixS cT y42 (e 0) (e 7)) fun v4 =>
 wpO (ldS y23 S v4) fun v5 =>
 wpO (convS y25 v5) fun v6 =>
 wpO (bnS .add (some y25) (.int .u64 (4294967296)) v6) fun v7 =>
 wpO (cW cT 176 [(e 1), (e 7)] S) fun p8 =>
 wpO (bnS .sub (some y25) v7 p8.1) fun v9 =>
 wpO (bnS .sub (some y25) v9 (e 6)) fun v10 =>
 wpO (bnS .rem (some y25) v10 (.int .u64 (4294967296))) fun v11 =>
 wpO (convS y23 v11) fun v12 =>
 wpO (ixS cT y42 (e 5) (e 7)) fun v13 =>
 wpO (stS y23 p8.2 v13 v12) fun S14 =>
 wpO (bnS .quo (some y25) v10 (.int .u64 (4294967296))) fun v15 =>
 wpO (bnS .sub (some y25) (.int .u64 (1)) v15) fun v16 =>
 wpO (bnS .add (some y3) (e 7) (.int .i64 1)) fun v17 =>
 DenP cT 41 (.loop L113_0) (ups e [(12, (e 7)), (13, (e 0)), (14, v2), (15, v3), (18, (e 0)), (19, (e 7)), (20, v4), (21, v5), (22, v6), (23, v7), (24, (e 1)), (25, (e 7)), (26, p8.1), (27, v9), (28, (e 6)), (29, v10), (8, v10), (30, (e 5)), (31, (e 7)), (32, v10), (33, v11), (34, v12), (35, v13), (36, v10), (37, v15), (38, v16), (6, v16), (16, (e 7)), (17, v17), (7, v17)]) S14 k)
 (k (.exit 0) (ups e [(12, (e 7)), (13, (e 0)), (14, v2), (15, v3)]) S)
noncomputable def TK113_0e0 (e : En) (S : Zt) (k : SV → Zt → Prop) : Prop :=
 wpO (cW cT 175 [(e 5)] S) fun p18 =>
 k p18.1 p18.2
theorem F113_ok{x0 x1:SV}{S:Zt}{k:SV→Zt→Prop}(h:F113 x0 x1 S k):wpO (bW cT 113 [x0,x1] S) (fun p=>k p.1 p.2):=bodyP_of (fn:=Tryz.f113) (by kernel_rfl) (by kernel_rfl) (Nat.le_of_ble_eq_true (by kernel_rfl)) ((show F113 x0 x1 S k=wpC cT Tryz.f113.ntmps B113 (argE [x0,x1]) S (outP cT Tryz.f113 k)by kernel_rfl).mp h)
theorem L113_0_ok{e:En}{S:Zt}{k:X→En→Zt→Prop}(h:TL113_0 e S k):DenP cT 41 (.loop L113_0) e S k:=loopP_of ((show TL113_0 e S k=wpC cT 41 L113_0 e S (againP cT 41 L113_0 k)by kernel_rfl).mp h)
theorem K113_0e0_ok{e:En}{S:Zt}{k:SV→Zt→Prop}(h:TK113_0e0 e S k):K113_0 k (.exit 0) e S:=(show TK113_0e0 e S k=K113_0 k (.exit 0) e S by kernel_rfl).mp h
noncomputable abbrev B114:Code:=bodyOf Tryz.f114
noncomputable def L114_0:Code:=codeAt [1,1,0,1,0,0] B114
noncomputable def L114_1:Code:=codeAt [1,1,0,1,0,0,1,0,0,1,0,1,0,0] B114
noncomputable def K114_0(k:SV→Zt→Prop):X→En→Zt→Prop:=cont cT 69 [1,1,0,1,0] B114 (outP cT Tryz.f114 k)
noncomputable def K114_1(k:X→En→Zt→Prop):X→En→Zt→Prop:=cont cT 69 [1,0,0,1,0,1,0] L114_0 (againP cT 69 L114_0 k)
noncomputable def F114 (x0 x1 : SV) (S : Zt) (k : SV → Zt → Prop) : Prop :=
 wpO (lenS y42 x0) fun v0 =>
 wpO (lenS y42 x1) fun v1 =>
 wpO (bnS .add (some y3) v0 v1) fun v2 =>
 wpO (mkslS y23 v2 v2 S) fun p3 =>
 DenP cT 69 (.loop L114_0) (ups (argE [x0, x1]) [(4, (.vsl [] .nil)), (10, x0), (11, v0), (12, x1), (13, v1), (14, v2), (15, p3.1), (5, p3.1), (6, (.int .i64 0))]) p3.2 (K114_0 k)
noncomputable def TL114_0 (e : En) (S : Zt) (k : X → En → Zt → Prop) : Prop :=
 wpO (lenS y42 (e 0)) fun v4 =>
 wpO (bnS .lss (some y3) (e 6) v4) fun v5 =>
 condP v5
 (DenP cT 69 (.loop L114_1) (ups e [(16, (e 6)), (17, (e 0)), (18, v4), (19, v5), (7, (.int .u64 (0))), (8, (.int .i64 0))]) S (K114_1 k))
 (k (.exit 0) (ups e [(16, (e 6)), (17, (e 0)), (18, v4), (19, v5)]) S)
noncomputable def TL114_1 (e : En) (S : Zt) (k : X → En → Zt → Prop) : Prop :=
 wpO (lenS y42 (e 1)) fun v6 =>
 wpO (bnS .lss (some y3) (e 8) v6) fun v7 =>
 condP v7
 (wpO (ixS cT y42 (e 0) (e 6)) fun v8 =>
 wpO (ldS y23 S v8) fun v9 =>
 wpO (convS y25 v9) fun v10 =>
 wpO (ixS cT y42 (e 1) (e 8)) fun v11 =>
 wpO (ldS y23 S v11) fun v12 =>
 wpO (convS y25 v12) fun v13 =>
 wpO (bnS .mul (some y25) v10 v13) fun v14 =>
 wpO (bnS .add (some y3) (e 6) (e 8)) fun v15 =>
 wpO (ixS cT y42 (e 5) v15) fun v16 =>
 wpO (ldS y23 S v16) fun v17 =>
 wpO (convS y25 v17) fun v18 =>
 wpO (bnS .add (some y25) v14 v18) fun v19 =>
 wpO (bnS .add (some y25) v19 (e 7)) fun v20 =>
 wpO (bnS .add (some y3) (e 6) (e 8)) fun v21 =>
 wpO (bnS .rem (some y25) v20 (.int .u64 (4294967296))) fun v22 =>
 wpO (convS y23 v22) fun v23 =>
 wpO (ixS cT y42 (e 5) v21) fun v24 =>
 wpO (stS y23 S v24 v23) fun S25 =>
 wpO (bnS .quo (some y25) v20 (.int .u64 (4294967296))) fun v26 =>
 wpO (bnS .add (some y3) (e 8) (.int .i64 1)) fun v27 =>
 DenP cT 69 (.loop L114_1) (ups e [(22, (e 8)), (23, (e 1)), (24, v6), (25, v7), (28, (e 0)), (29, (e 6)), (30, v8), (31, v9), (32, v10), (33, (e 1)), (34, (e 8)), (35, v11), (36, v12), (37, v13), (38, v14), (39, (e 5)), (40, (e 6)), (41, (e 8)), (42, v15), (43, v16), (44, v17), (45, v18), (46, v19), (47, (e 7)), (48, v20), (9, v20), (49, (e 5)), (50, (e 6)), (51, (e 8)), (52, v21), (53, v20), (54, v22), (55, v23), (56, v24), (57, v20), (58, v26), (7, v26), (26, (e 8)), (27, v27), (8, v27)]) S25 k)
 (k (.exit 2) (ups e [(22, (e 8)), (23, (e 1)), (24, v6), (25, v7)]) S)
noncomputable def TK114_0e0 (e : En) (S : Zt) (k : SV → Zt → Prop) : Prop :=
 wpO (cW cT 175 [(e 5)] S) fun p28 =>
 k p28.1 p28.2
noncomputable def TK114_1e2 (e : En) (S : Zt) (k : X → En → Zt → Prop) : Prop :=
 wpO (lenS y42 (e 1)) fun v29 =>
 wpO (bnS .add (some y3) (e 6) v29) fun v30 =>
 wpO (convS y23 (e 7)) fun v31 =>
 wpO (ixS cT y42 (e 5) v30) fun v32 =>
 wpO (stS y23 S v32 v31) fun S33 =>
 wpO (bnS .add (some y3) (e 6) (.int .i64 1)) fun v34 =>
 DenP cT 69 (.loop L114_0) (ups e [(59, (e 5)), (60, (e 6)), (61, (e 1)), (62, v29), (63, v30), (64, (e 7)), (65, v31), (66, v32), (20, (e 6)), (21, v34), (6, v34)]) S33 k
theorem F114_ok{x0 x1:SV}{S:Zt}{k:SV→Zt→Prop}(h:F114 x0 x1 S k):wpO (bW cT 114 [x0,x1] S) (fun p=>k p.1 p.2):=bodyP_of (fn:=Tryz.f114) (by kernel_rfl) (by kernel_rfl) (Nat.le_of_ble_eq_true (by kernel_rfl)) ((show F114 x0 x1 S k=wpC cT Tryz.f114.ntmps B114 (argE [x0,x1]) S (outP cT Tryz.f114 k)by kernel_rfl).mp h)
theorem L114_0_ok{e:En}{S:Zt}{k:X→En→Zt→Prop}(h:TL114_0 e S k):DenP cT 69 (.loop L114_0) e S k:=loopP_of ((show TL114_0 e S k=wpC cT 69 L114_0 e S (againP cT 69 L114_0 k)by kernel_rfl).mp h)
theorem L114_1_ok{e:En}{S:Zt}{k:X→En→Zt→Prop}(h:TL114_1 e S k):DenP cT 69 (.loop L114_1) e S k:=loopP_of ((show TL114_1 e S k=wpC cT 69 L114_1 e S (againP cT 69 L114_1 k)by kernel_rfl).mp h)
theorem K114_0e0_ok{e:En}{S:Zt}{k:SV→Zt→Prop}(h:TK114_0e0 e S k):K114_0 k (.exit 0) e S:=(show TK114_0e0 e S k=K114_0 k (.exit 0) e S by kernel_rfl).mp h
theorem K114_1e2_ok{e:En}{S:Zt}{k:X→En→Zt→Prop}(h:TK114_1e2 e S k):K114_1 k (.exit 2) e S:=(show TK114_1e2 e S k=K114_1 k (.exit 2) e S by kernel_rfl).mp h
noncomputable abbrev B219:Code:=bodyOf Tryz.f219
noncomputable def L219_0:Code:=codeAt [1,1,1,0,1,0,0] B219
noncomputable def K219_0(k:SV→Zt→Prop):X→En→Zt→Prop:=cont cT 41 [1,1,1,0,1,0] B219 (outP cT Tryz.f219 k)
noncomputable def F219 (x0 x1 : SV) (S : Zt) (k : SV → Zt → Prop) : Prop :=
 wpO (lenS y42 x0) fun v0 =>
 wpO (mkslS y23 v0 v0 S) fun p1 =>
 wpO (lenS y42 x0) fun v2 =>
 wpO (bnS .sub (some y3) v2 (.int .i64 1)) fun v3 =>
 DenP cT 41 (.loop L219_0) (ups (argE [x0, x1]) [(4, (.vsl [] .nil)), (5, (.int .u64 (0))), (10, x0), (11, v0), (12, p1.1), (6, p1.1), (7, (.int .u64 (0))), (13, x0), (14, v2), (15, v3), (8, v3)]) p1.2 (K219_0 k)
noncomputable def TL219_0 (e : En) (S : Zt) (k : X → En → Zt → Prop) : Prop :=
 wpO (bnS .geq (some y3) (e 8) (.int .i64 0)) fun v4 =>
 condP v4
 (wpO (bnS .mul (some y25) (e 7) (.int .u64 (4294967296))) fun v5 =>
 wpO (ixS cT y42 (e 0) (e 8)) fun v6 =>
 wpO (ldS y23 S v6) fun v7 =>
 wpO (convS y25 v7) fun v8 =>
 wpO (bnS .add (some y25) v5 v8) fun v9 =>
 wpO (bnS .quo (some y25) v9 (e 1)) fun v10 =>
 wpO (convS y23 v10) fun v11 =>
 wpO (ixS cT y42 (e 6) (e 8)) fun v12 =>
 wpO (stS y23 S v12 v11) fun S13 =>
 wpO (bnS .rem (some y25) v9 (e 1)) fun v14 =>
 wpO (bnS .sub (some y3) (e 8) (.int .i64 1)) fun v15 =>
 DenP cT 41 (.loop L219_0) (ups e [(16, (e 8)), (17, v4), (20, (e 7)), (21, v5), (22, (e 0)), (23, (e 8)), (24, v6), (25, v7), (26, v8), (27, v9), (9, v9), (28, (e 6)), (29, (e 8)), (30, v9), (31, (e 1)), (32, v10), (33, v11), (34, v12), (35, v9), (36, (e 1)), (37, v14), (7, v14), (18, (e 8)), (19, v15), (8, v15)]) S13 k)
 (k (.exit 0) (ups e [(16, (e 8)), (17, v4)]) S)
noncomputable def TK219_0e0 (e : En) (S : Zt) (k : SV → Zt → Prop) : Prop :=
 wpO (cW cT 175 [(e 6)] S) fun p16 =>
 k (.tup [p16.1, (e 7)]) p16.2
theorem F219_ok{x0 x1:SV}{S:Zt}{k:SV→Zt→Prop}(h:F219 x0 x1 S k):wpO (bW cT 219 [x0,x1] S) (fun p=>k p.1 p.2):=bodyP_of (fn:=Tryz.f219) (by kernel_rfl) (by kernel_rfl) (Nat.le_of_ble_eq_true (by kernel_rfl)) ((show F219 x0 x1 S k=wpC cT Tryz.f219.ntmps B219 (argE [x0,x1]) S (outP cT Tryz.f219 k)by kernel_rfl).mp h)
theorem L219_0_ok{e:En}{S:Zt}{k:X→En→Zt→Prop}(h:TL219_0 e S k):DenP cT 41 (.loop L219_0) e S k:=loopP_of ((show TL219_0 e S k=wpC cT 41 L219_0 e S (againP cT 41 L219_0 k)by kernel_rfl).mp h)
theorem K219_0e0_ok{e:En}{S:Zt}{k:SV→Zt→Prop}(h:TK219_0e0 e S k):K219_0 k (.exit 0) e S:=(show TK219_0e0 e S k=K219_0 k (.exit 0) e S by kernel_rfl).mp h
noncomputable abbrev B104:Code:=bodyOf Tryz.f104
noncomputable def F104 (x0 : SV) (S : Zt) (k : SV → Zt → Prop) : Prop :=
 wpO (alS x0 S) fun p0 =>
 wpO (faS cT y44 p0.1 0) fun v1 =>
 wpO (ldS y4 p0.2 v1) fun v2 =>
 condP v2
 (k (.int .i64 (-1)) p0.2)
 (wpO (faS cT y44 p0.1 1) fun v3 =>
 wpO (ldS y42 p0.2 v3) fun v4 =>
 wpO (lenS y42 v4) fun v5 =>
 wpO (foldS min2S v5 [(.int .i64 1)]) fun v6 =>
 k v6 p0.2)
theorem F104_ok{x0:SV}{S:Zt}{k:SV→Zt→Prop}(h:F104 x0 S k):wpO (bW cT 104 [x0] S) (fun p=>k p.1 p.2):=bodyP_of (fn:=Tryz.f104) (by kernel_rfl) (by kernel_rfl) (Nat.le_of_ble_eq_true (by kernel_rfl)) ((show F104 x0 S k=wpC cT Tryz.f104.ntmps B104 (argE [x0]) S (outP cT Tryz.f104 k)by kernel_rfl).mp h)
noncomputable abbrev B105:Code:=bodyOf Tryz.f105
noncomputable def F105 (x0 : SV) (S : Zt) (k : SV → Zt → Prop) : Prop :=
 wpO (alS x0 S) fun p0 =>
 wpO (alS y44.zero p0.2) fun p1 =>
 wpO (faS cT y44 p0.1 1) fun v2 =>
 wpO (ldS y42 p1.2 v2) fun v3 =>
 wpO (faS cT y44 p0.1 0) fun v4 =>
 wpO (ldS y4 p1.2 v4) fun v5 =>
 wpO (unS .not v5) fun v6 =>
 wpO (cW cT 159 [v3, v6] p1.2) fun p7 =>
 wpO (stS y44 p7.2 p1.1 p7.1) fun S8 =>
 wpO (ldS y44 S8 p1.1) fun v9 =>
 k v9 S8
theorem F105_ok{x0:SV}{S:Zt}{k:SV→Zt→Prop}(h:F105 x0 S k):wpO (bW cT 105 [x0] S) (fun p=>k p.1 p.2):=bodyP_of (fn:=Tryz.f105) (by kernel_rfl) (by kernel_rfl) (Nat.le_of_ble_eq_true (by kernel_rfl)) ((show F105 x0 S k=wpC cT Tryz.f105.ntmps B105 (argE [x0]) S (outP cT Tryz.f105 k)by kernel_rfl).mp h)
noncomputable abbrev B106:Code:=bodyOf Tryz.f106
noncomputable def F106 (x0 x1 : SV) (S : Zt) (k : SV → Zt → Prop) : Prop :=
 wpO (alS x0 S) fun p0 =>
 wpO (alS x1 p0.2) fun p1 =>
 wpO (alS y44.zero p1.2) fun p2 =>
 wpO (faS cT y44 p0.1 1) fun v3 =>
 wpO (ldS y42 p2.2 v3) fun v4 =>
 wpO (faS cT y44 p1.1 1) fun v5 =>
 wpO (ldS y42 p2.2 v5) fun v6 =>
 wpO (faS cT y44 p0.1 0) fun v7 =>
 wpO (ldS y4 p2.2 v7) fun v8 =>
 wpO (faS cT y44 p1.1 0) fun v9 =>
 wpO (ldS y4 p2.2 v9) fun v10 =>
 wpO (bnS .eql (some y4) v8 v10) fun v11 =>
 condP v11
 (wpO (cW cT 171 [v4, v6] p2.2) fun p12 =>
 wpO (faS cT y44 p0.1 0) fun v13 =>
 wpO (ldS y4 p12.2 v13) fun v14 =>
 wpO (cW cT 159 [p12.1, v14] p12.2) fun p15 =>
 wpO (stS y44 p15.2 p2.1 p15.1) fun S16 =>
 wpO (ldS y44 S16 p2.1) fun v17 =>
 k v17 S16)
 (wpO (cW cT 162 [v4, v6] p2.2) fun p18 =>
 wpO (bnS .lss (some y3) p18.1 (.int .i64 0)) fun v19 =>
 condP v19
 (wpO (cW cT 172 [v6, v4] p18.2) fun p20 =>
 wpO (faS cT y44 p1.1 0) fun v21 =>
 wpO (ldS y4 p20.2 v21) fun v22 =>
 wpO (cW cT 159 [p20.1, v22] p20.2) fun p23 =>
 wpO (stS y44 p23.2 p2.1 p23.1) fun S24 =>
 wpO (ldS y44 S24 p2.1) fun v25 =>
 k v25 S24)
 (wpO (cW cT 172 [v4, v6] p18.2) fun p26 =>
 wpO (faS cT y44 p0.1 0) fun v27 =>
 wpO (ldS y4 p26.2 v27) fun v28 =>
 wpO (cW cT 159 [p26.1, v28] p26.2) fun p29 =>
 wpO (stS y44 p29.2 p2.1 p29.1) fun S30 =>
 wpO (ldS y44 S30 p2.1) fun v31 =>
 k v31 S30))
theorem F106_ok{x0 x1:SV}{S:Zt}{k:SV→Zt→Prop}(h:F106 x0 x1 S k):wpO (bW cT 106 [x0,x1] S) (fun p=>k p.1 p.2):=bodyP_of (fn:=Tryz.f106) (by kernel_rfl) (by kernel_rfl) (Nat.le_of_ble_eq_true (by kernel_rfl)) ((show F106 x0 x1 S k=wpC cT Tryz.f106.ntmps B106 (argE [x0,x1]) S (outP cT Tryz.f106 k)by kernel_rfl).mp h)
noncomputable abbrev B108:Code:=bodyOf Tryz.f108
noncomputable def F108 (x0 x1 : SV) (S : Zt) (k : SV → Zt → Prop) : Prop :=
 wpO (alS x0 S) fun p0 =>
 wpO (alS x1 p0.2) fun p1 =>
 wpO (alS y44.zero p1.2) fun p2 =>
 wpO (faS cT y44 p0.1 1) fun v3 =>
 wpO (ldS y42 p2.2 v3) fun v4 =>
 wpO (faS cT y44 p1.1 1) fun v5 =>
 wpO (ldS y42 p2.2 v5) fun v6 =>
 wpO (cW cT 174 [v4, v6] p2.2) fun p7 =>
 wpO (faS cT y44 p0.1 0) fun v8 =>
 wpO (ldS y4 p7.2 v8) fun v9 =>
 wpO (faS cT y44 p1.1 0) fun v10 =>
 wpO (ldS y4 p7.2 v10) fun v11 =>
 wpO (bnS .neq (some y4) v9 v11) fun v12 =>
 wpO (cW cT 159 [p7.1, v12] p7.2) fun p13 =>
 wpO (stS y44 p13.2 p2.1 p13.1) fun S14 =>
 wpO (ldS y44 S14 p2.1) fun v15 =>
 k v15 S14
theorem F108_ok{x0 x1:SV}{S:Zt}{k:SV→Zt→Prop}(h:F108 x0 x1 S k):wpO (bW cT 108 [x0,x1] S) (fun p=>k p.1 p.2):=bodyP_of (fn:=Tryz.f108) (by kernel_rfl) (by kernel_rfl) (Nat.le_of_ble_eq_true (by kernel_rfl)) ((show F108 x0 x1 S k=wpC cT Tryz.f108.ntmps B108 (argE [x0,x1]) S (outP cT Tryz.f108 k)by kernel_rfl).mp h)
noncomputable abbrev B162:Code:=bodyOf Tryz.f162
noncomputable def L162_0:Code:=codeAt [1,1,0,1,0,0] B162
noncomputable def K162_0(k:SV→Zt→Prop):X→En→Zt→Prop:=cont cT 46 [1,1,0,1,0] B162 (outP cT Tryz.f162 k)
noncomputable def F162 (x0 x1 : SV) (S : Zt) (k : SV → Zt → Prop) : Prop :=
 wpO (lenS y172 x0) fun v0 =>
 wpO (lenS y172 x1) fun v1 =>
 wpO (bnS .neq (some y3) v0 v1) fun v2 =>
 condP v2
 (wpO (lenS y172 x0) fun v3 =>
 wpO (lenS y172 x1) fun v4 =>
 wpO (cW cT 161 [v3, v4] S) fun p5 =>
 k p5.1 p5.2)
 (wpO (lenS y172 x0) fun v6 =>
 DenP cT 46 (.loop L162_0) (ups (argE [x0, x1]) [(4, (.int .i64 0)), (7, x0), (8, v0), (9, x1), (10, v1), (11, v2), (17, x0), (18, v6), (19, (.int .i64 0))]) S (K162_0 k))
noncomputable def TL162_0 (e : En) (S : Zt) (k : X → En → Zt → Prop) : Prop :=
 wpO (bnS .lss (some y3) (e 19) (e 18)) fun v7 =>
 condP v7
 (wpO (lenS y172 (e 0)) fun v8 =>
 wpO (bnS .sub (some y3) v8 (.int .i64 1)) fun v9 =>
 wpO (bnS .sub (some y3) v9 (e 19)) fun v10 =>
 wpO (ixS cT y172 (e 0) v10) fun v11 =>
 wpO (ldS y23 S v11) fun v12 =>
 wpO (ixS cT y172 (e 1) v10) fun v13 =>
 wpO (ldS y23 S v13) fun v14 =>
 wpO (bnS .neq (some y23) v12 v14) fun v15 =>
 condP v15
 (wpO (ixS cT y172 (e 0) v10) fun v16 =>
 wpO (ldS y23 S v16) fun v17 =>
 wpO (ixS cT y172 (e 1) v10) fun v18 =>
 wpO (ldS y23 S v18) fun v19 =>
 wpO (cW cT 230 [v17, v19] S) fun p20 =>
 k .ret (ups e [(20, v7), (21, (e 19)), (5, (e 19)), (22, (e 0)), (23, v8), (24, v9), (25, (e 19)), (26, v10), (6, v10), (27, (e 0)), (28, v10), (29, v11), (30, v12), (31, (e 1)), (32, v10), (33, v13), (34, v14), (35, v15), (36, (e 0)), (37, v10), (38, v16), (39, v17), (40, (e 1)), (41, v10), (42, v18), (43, v19), (44, p20.1), (4, p20.1)]) p20.2)
 (wpO (bnS .add (some y3) (e 19) (.int .i64 1)) fun v21 =>
 DenP cT 46 (.loop L162_0) (ups e [(20, v7), (21, (e 19)), (5, (e 19)), (22, (e 0)), (23, v8), (24, v9), (25, (e 19)), (26, v10), (6, v10), (27, (e 0)), (28, v10), (29, v11), (30, v12), (31, (e 1)), (32, v10), (33, v13), (34, v14), (35, v15), (45, v21), (19, v21)]) S k))
 (k (.exit 0) (ups e [(20, v7)]) S)
noncomputable def TK162_0e0 (e : En) (S : Zt) (k : SV → Zt → Prop) : Prop :=
 k (.int .i64 0) S
noncomputable def TK162_0r (e : En) (S : Zt) (k : SV → Zt → Prop) : Prop :=
 k (e 4) S
theorem F162_ok{x0 x1:SV}{S:Zt}{k:SV→Zt→Prop}(h:F162 x0 x1 S k):wpO (bW cT 162 [x0,x1] S) (fun p=>k p.1 p.2):=bodyP_of (fn:=Tryz.f162) (by kernel_rfl) (by kernel_rfl) (Nat.le_of_ble_eq_true (by kernel_rfl)) ((show F162 x0 x1 S k=wpC cT Tryz.f162.ntmps B162 (argE [x0,x1]) S (outP cT Tryz.f162 k)by kernel_rfl).mp h)
theorem L162_0_ok{e:En}{S:Zt}{k:X→En→Zt→Prop}(h:TL162_0 e S k):DenP cT 46 (.loop L162_0) e S k:=loopP_of ((show TL162_0 e S k=wpC cT 46 L162_0 e S (againP cT 46 L162_0 k)by kernel_rfl).mp h)
theorem K162_0e0_ok{e:En}{S:Zt}{k:SV→Zt→Prop}(h:TK162_0e0 e S k):K162_0 k (.exit 0) e S:=(show TK162_0e0 e S k=K162_0 k (.exit 0) e S by kernel_rfl).mp h
theorem K162_0r_ok{e:En}{S:Zt}{k:SV→Zt→Prop}(h:TK162_0r e S k):K162_0 k .ret e S:=(show TK162_0r e S k=K162_0 k .ret e S by kernel_rfl).mp h
noncomputable abbrev B159:Code:=bodyOf Tryz.f159
noncomputable def F159 (x0 x1 : SV) (S : Zt) (k : SV → Zt → Prop) : Prop :=
 wpO (alS y44.zero S) fun p0 =>
 wpO (cW cT 227 [x0] p0.2) fun p1 =>
 grdP (some x1) true (fun k => k p1.1 p1.2) p1.2 fun v2 S3 =>
 grdP (some x1) true (fun k => wpO (lenS y172 v2) fun v4 => k v4 S3) S3 fun v5 S6 =>
 grdP (some x1) true (fun k => wpO (bnS .gtr (some y3) v5 (.int .i64 0)) fun v7 => k v7 S6) S6 fun v8 S9 =>
 wpO (pickS x1 v8 (.bool false)) fun v10 =>
 wpO (cW cT 228 [p1.1] S9) fun p11 =>
 wpO (buildS cT y44 [(0, v10), (1, p11.1)]) fun v12 =>
 wpO (stS y44 p11.2 p0.1 v12) fun S13 =>
 wpO (ldS y44 S13 p0.1) fun v14 =>
 k v14 S13
theorem F159_ok{x0 x1:SV}{S:Zt}{k:SV→Zt→Prop}(h:F159 x0 x1 S k):wpO (bW cT 159 [x0,x1] S) (fun p=>k p.1 p.2):=bodyP_of (fn:=Tryz.f159) (by kernel_rfl) (by kernel_rfl) (Nat.le_of_ble_eq_true (by kernel_rfl)) ((show F159 x0 x1 S k=wpC cT Tryz.f159.ntmps B159 (argE [x0,x1]) S (outP cT Tryz.f159 k)by kernel_rfl).mp h)
noncomputable abbrev B171:Code:=bodyOf Tryz.f171
noncomputable def L171_0:Code:=codeAt [1,1,1,1,0,1,0,0] B171
noncomputable def K171_0(k:SV→Zt→Prop):X→En→Zt→Prop:=cont cT 42 [1,1,1,1,0,1,0] B171 (outP cT Tryz.f171 k)
noncomputable def F171 (x0 x1 : SV) (S : Zt) (k : SV → Zt → Prop) : Prop :=
 wpO (lenS y172 x0) fun v0 =>
 wpO (lenS y172 x1) fun v1 =>
 wpO (foldS max2S v0 [v1]) fun v2 =>
 wpO (bnS .add (some y3) v2 (.int .i64 1)) fun v3 =>
 wpO (mkslS y23 v3 v3 S) fun p4 =>
 DenP cT 42 (.loop L171_0) (ups (argE [x0, x1]) [(4, (.vsl [] .nil)), (9, x0), (10, v0), (11, x1), (12, v1), (13, v2), (5, v2), (14, v2), (15, v3), (16, p4.1), (6, p4.1), (7, (.int .u32 (0))), (17, v2), (18, (.int .i64 0))]) p4.2 (K171_0 k)
noncomputable def TL171_0 (e : En) (S : Zt) (k : X → En → Zt → Prop) : Prop :=
 wpO (bnS .lss (some y3) (e 18) (e 17)) fun v5 =>
 condP v5
 (wpO (cW cT 232 [(e 0), (e 18)] S) fun p6 =>
 wpO (cW cT 232 [(e 1), (e 18)] p6.2) fun p7 =>
 wpO (cW cT 241 [p6.1, p7.1, (e 7)] p7.2) fun p8 =>
 wpO (extS p8.1 0) fun v9 =>
 wpO (extS p8.1 1) fun v10 =>
 wpO (ixS cT y172 (e 6) (e 18)) fun v11 =>
 wpO (stS y23 p8.2 v11 v9) fun S12 =>
 wpO (bnS .add (some y3) (e 18) (.int .i64 1)) fun v13 =>
 DenP cT 42 (.loop L171_0) (ups e [(19, v5), (20, (e 18)), (8, (e 18)), (22, (e 6)), (23, (e 18)), (24, (e 0)), (25, (e 18)), (26, p6.1), (27, (e 1)), (28, (e 18)), (29, p7.1), (30, (e 7)), (31, p8.1), (21, p8.1), (32, v9), (33, v10), (34, v11), (7, v10), (35, v13), (18, v13)]) S12 k)
 (k (.exit 0) (ups e [(19, v5)]) S)
noncomputable def TK171_0e0 (e : En) (S : Zt) (k : SV → Zt → Prop) : Prop :=
 wpO (ixS cT y172 (e 6) (e 5)) fun v14 =>
 wpO (stS y23 S v14 (e 7)) fun S15 =>
 wpO (cW cT 227 [(e 6)] S15) fun p16 =>
 k p16.1 p16.2
theorem F171_ok{x0 x1:SV}{S:Zt}{k:SV→Zt→Prop}(h:F171 x0 x1 S k):wpO (bW cT 171 [x0,x1] S) (fun p=>k p.1 p.2):=bodyP_of (fn:=Tryz.f171) (by kernel_rfl) (by kernel_rfl) (Nat.le_of_ble_eq_true (by kernel_rfl)) ((show F171 x0 x1 S k=wpC cT Tryz.f171.ntmps B171 (argE [x0,x1]) S (outP cT Tryz.f171 k)by kernel_rfl).mp h)
theorem L171_0_ok{e:En}{S:Zt}{k:X→En→Zt→Prop}(h:TL171_0 e S k):DenP cT 42 (.loop L171_0) e S k:=loopP_of ((show TL171_0 e S k=wpC cT 42 L171_0 e S (againP cT 42 L171_0 k)by kernel_rfl).mp h)
theorem K171_0e0_ok{e:En}{S:Zt}{k:SV→Zt→Prop}(h:TK171_0e0 e S k):K171_0 k (.exit 0) e S:=(show TK171_0e0 e S k=K171_0 k (.exit 0) e S by kernel_rfl).mp h
noncomputable abbrev B174:Code:=bodyOf Tryz.f174
noncomputable def L174_0:Code:=codeAt [1,1,0,1,0,0] B174
noncomputable def L174_1:Code:=codeAt [1,1,0,1,0,0,1,1,0,0,1,1,0,1,0,0] B174
noncomputable def K174_0(k:SV→Zt→Prop):X→En→Zt→Prop:=cont cT 67 [1,1,0,1,0] B174 (outP cT Tryz.f174 k)
noncomputable def K174_1(k:X→En→Zt→Prop):X→En→Zt→Prop:=cont cT 67 [1,1,0,0,1,1,0,1,0] L174_0 (againP cT 67 L174_0 k)
noncomputable def F174 (x0 x1 : SV) (S : Zt) (k : SV → Zt → Prop) : Prop :=
 wpO (lenS y172 x0) fun v0 =>
 wpO (lenS y172 x1) fun v1 =>
 wpO (bnS .add (some y3) v0 v1) fun v2 =>
 wpO (mkslS y23 v2 v2 S) fun p3 =>
 wpO (lenS y172 x0) fun v4 =>
 DenP cT 67 (.loop L174_0) (ups (argE [x0, x1]) [(4, (.vsl [] .nil)), (11, x0), (12, v0), (13, x1), (14, v1), (15, v2), (16, p3.1), (5, p3.1), (17, x0), (18, v4), (19, (.int .i64 0))]) p3.2 (K174_0 k)
noncomputable def TL174_0 (e : En) (S : Zt) (k : X → En → Zt → Prop) : Prop :=
 wpO (bnS .lss (some y3) (e 19) (e 18)) fun v5 =>
 condP v5
 (wpO (ixS cT y172 (e 17) (e 19)) fun v6 =>
 wpO (ldS y23 S v6) fun v7 =>
 wpO (lenS y172 (e 1)) fun v8 =>
 DenP cT 67 (.loop L174_1) (ups e [(20, v5), (21, (e 19)), (22, v6), (23, v7), (6, (e 19)), (7, v7), (8, (.int .u64 (0))), (24, (e 1)), (25, v8), (26, (.int .i64 0))]) S (K174_1 k))
 (k (.exit 0) (ups e [(20, v5)]) S)
noncomputable def TL174_1 (e : En) (S : Zt) (k : X → En → Zt → Prop) : Prop :=
 wpO (bnS .lss (some y3) (e 26) (e 25)) fun v9 =>
 condP v9
 (wpO (ixS cT y172 (e 24) (e 26)) fun v10 =>
 wpO (ldS y23 S v10) fun v11 =>
 wpO (convS y25 (e 7)) fun v12 =>
 wpO (convS y25 v11) fun v13 =>
 wpO (bnS .mul (some y25) v12 v13) fun v14 =>
 wpO (bnS .add (some y3) (e 6) (e 26)) fun v15 =>
 wpO (ixS cT y172 (e 5) v15) fun v16 =>
 wpO (ldS y23 S v16) fun v17 =>
 wpO (convS y25 v17) fun v18 =>
 wpO (bnS .add (some y25) v14 v18) fun v19 =>
 wpO (bnS .add (some y25) (e 8) v19) fun v20 =>
 wpO (bnS .add (some y3) (e 6) (e 26)) fun v21 =>
 wpO (convS y23 v20) fun v22 =>
 wpO (ixS cT y172 (e 5) v21) fun v23 =>
 wpO (stS y23 S v23 v22) fun S24 =>
 wpO (bnS .shr (some y25) v20 (.int .u64 (32))) fun v25 =>
 wpO (bnS .add (some y3) (e 26) (.int .i64 1)) fun v26 =>
 DenP cT 67 (.loop L174_1) (ups e [(27, v9), (28, (e 26)), (29, v10), (30, v11), (9, (e 26)), (10, v11), (31, (e 8)), (32, (e 7)), (33, v12), (34, v11), (35, v13), (36, v14), (37, (e 5)), (38, (e 6)), (39, (e 26)), (40, v15), (41, v16), (42, v17), (43, v18), (44, v19), (45, v20), (8, v20), (46, (e 5)), (47, (e 6)), (48, (e 26)), (49, v21), (50, v20), (51, v22), (52, v23), (53, v20), (54, v25), (8, v25), (55, v26), (26, v26)]) S24 k)
 (k (.exit 2) (ups e [(27, v9)]) S)
noncomputable def TK174_0e0 (e : En) (S : Zt) (k : SV → Zt → Prop) : Prop :=
 wpO (cW cT 227 [(e 5)] S) fun p27 =>
 k p27.1 p27.2
noncomputable def TK174_1e2 (e : En) (S : Zt) (k : X → En → Zt → Prop) : Prop :=
 wpO (lenS y172 (e 1)) fun v28 =>
 wpO (bnS .add (some y3) (e 6) v28) fun v29 =>
 wpO (convS y23 (e 8)) fun v30 =>
 wpO (ixS cT y172 (e 5) v29) fun v31 =>
 wpO (stS y23 S v31 v30) fun S32 =>
 wpO (bnS .add (some y3) (e 19) (.int .i64 1)) fun v33 =>
 DenP cT 67 (.loop L174_0) (ups e [(56, (e 5)), (57, (e 6)), (58, (e 1)), (59, v28), (60, v29), (61, (e 8)), (62, v30), (63, v31), (64, v33), (19, v33)]) S32 k
theorem F174_ok{x0 x1:SV}{S:Zt}{k:SV→Zt→Prop}(h:F174 x0 x1 S k):wpO (bW cT 174 [x0,x1] S) (fun p=>k p.1 p.2):=bodyP_of (fn:=Tryz.f174) (by kernel_rfl) (by kernel_rfl) (Nat.le_of_ble_eq_true (by kernel_rfl)) ((show F174 x0 x1 S k=wpC cT Tryz.f174.ntmps B174 (argE [x0,x1]) S (outP cT Tryz.f174 k)by kernel_rfl).mp h)
theorem L174_0_ok{e:En}{S:Zt}{k:X→En→Zt→Prop}(h:TL174_0 e S k):DenP cT 67 (.loop L174_0) e S k:=loopP_of ((show TL174_0 e S k=wpC cT 67 L174_0 e S (againP cT 67 L174_0 k)by kernel_rfl).mp h)
theorem L174_1_ok{e:En}{S:Zt}{k:X→En→Zt→Prop}(h:TL174_1 e S k):DenP cT 67 (.loop L174_1) e S k:=loopP_of ((show TL174_1 e S k=wpC cT 67 L174_1 e S (againP cT 67 L174_1 k)by kernel_rfl).mp h)
theorem K174_0e0_ok{e:En}{S:Zt}{k:SV→Zt→Prop}(h:TK174_0e0 e S k):K174_0 k (.exit 0) e S:=(show TK174_0e0 e S k=K174_0 k (.exit 0) e S by kernel_rfl).mp h
theorem K174_1e2_ok{e:En}{S:Zt}{k:X→En→Zt→Prop}(h:TK174_1e2 e S k):K174_1 k (.exit 2) e S:=(show TK174_1e2 e S k=K174_1 k (.exit 2) e S by kernel_rfl).mp h
noncomputable abbrev B227:Code:=bodyOf Tryz.f227
noncomputable def L227_0:Code:=codeAt [1,1,0,0,0] B227
noncomputable def K227_0(k:SV→Zt→Prop):X→En→Zt→Prop:=cont cT 22 [1,1,0,0] B227 (outP cT Tryz.f227 k)
noncomputable def F227 (x0 : SV) (S : Zt) (k : SV → Zt → Prop) : Prop :=
 wpO (lenS y172 x0) fun v0 =>
 DenP cT 22 (.loop L227_0) (ups (argE [x0]) [(2, (.vsl [] .nil)), (4, x0), (5, v0), (3, v0)]) S (K227_0 k)
noncomputable def TL227_0 (e : En) (S : Zt) (k : X → En → Zt → Prop) : Prop :=
 wpO (bnS .gtr (some y3) (e 3) (.int .i64 0)) fun v1 =>
 grdP (some v1) true (fun k => k (e 0) S) S fun v2 S3 =>
 grdP (some v1) true (fun k => k (e 3) S3) S3 fun v4 S5 =>
 grdP (some v1) true (fun k => wpO (bnS .sub (some y3) v4 (.int .i64 1)) fun v6 => k v6 S5) S5 fun v7 S8 =>
 grdP (some v1) true (fun k => wpO (ixS cT y172 v2 v7) fun v9 => k v9 S8) S8 fun v10 S11 =>
 grdP (some v1) true (fun k => wpO (ldS y23 S11 v10) fun v12 => k v12 S11) S11 fun v13 S14 =>
 grdP (some v1) true (fun k => wpO (bnS .eql (some y23) v13 (.int .u32 (0))) fun v15 => k v15 S14) S14 fun v16 S17 =>
 wpO (pickS v1 v16 (.bool false)) fun v18 =>
 condP v18
 (wpO (bnS .sub (some y3) (e 3) (.int .i64 1)) fun v19 =>
 DenP cT 22 (.loop L227_0) (ups e [(6, (e 3)), (7, v1), (8, v1), (9, v2), (10, v4), (11, v7), (12, v10), (13, v13), (14, v16), (15, v18), (16, (e 3)), (17, v19), (3, v19)]) S17 k)
 (k (.exit 0) (ups e [(6, (e 3)), (7, v1), (8, v1), (9, v2), (10, v4), (11, v7), (12, v10), (13, v13), (14, v16), (15, v18)]) S17)
noncomputable def TK227_0e0 (e : En) (S : Zt) (k : SV → Zt → Prop) : Prop :=
 wpO (slicS y23 (e 0) none (some (e 3)) (some (e 3))) fun v20 =>
 k v20 S
theorem F227_ok{x0:SV}{S:Zt}{k:SV→Zt→Prop}(h:F227 x0 S k):wpO (bW cT 227 [x0] S) (fun p=>k p.1 p.2):=bodyP_of (fn:=Tryz.f227) (by kernel_rfl) (by kernel_rfl) (Nat.le_of_ble_eq_true (by kernel_rfl)) ((show F227 x0 S k=wpC cT Tryz.f227.ntmps B227 (argE [x0]) S (outP cT Tryz.f227 k)by kernel_rfl).mp h)
theorem L227_0_ok{e:En}{S:Zt}{k:X→En→Zt→Prop}(h:TL227_0 e S k):DenP cT 22 (.loop L227_0) e S k:=loopP_of ((show TL227_0 e S k=wpC cT 22 L227_0 e S (againP cT 22 L227_0 k)by kernel_rfl).mp h)
theorem K227_0e0_ok{e:En}{S:Zt}{k:SV→Zt→Prop}(h:TK227_0e0 e S k):K227_0 k (.exit 0) e S:=(show TK227_0e0 e S k=K227_0 k (.exit 0) e S by kernel_rfl).mp h
noncomputable abbrev B228:Code:=bodyOf Tryz.f228
noncomputable def F228 (x0 : SV) (S : Zt) (k : SV → Zt → Prop) : Prop :=
 wpO (bnS .eql (some y172) x0 (.vsl [] .nil)) fun v0 =>
 condP v0
 (k (.vsl [] .nil) S)
 (wpO (bslS y23 0 [] S) fun p1 =>
 wpO (appS y23 p1.2 p1.1 x0) fun p2 =>
 k p2.1 p2.2)
theorem F228_ok{x0:SV}{S:Zt}{k:SV→Zt→Prop}(h:F228 x0 S k):wpO (bW cT 228 [x0] S) (fun p=>k p.1 p.2):=bodyP_of (fn:=Tryz.f228) (by kernel_rfl) (by kernel_rfl) (Nat.le_of_ble_eq_true (by kernel_rfl)) ((show F228 x0 S k=wpC cT Tryz.f228.ntmps B228 (argE [x0]) S (outP cT Tryz.f228 k)by kernel_rfl).mp h)
noncomputable abbrev B241:Code:=bodyOf Tryz.f241
noncomputable def F241 (x0 x1 x2 : SV) (S : Zt) (k : SV → Zt → Prop) : Prop :=
 wpO (convS y25 x0) fun v0 =>
 wpO (convS y25 x1) fun v1 =>
 wpO (bnS .add (some y25) v0 v1) fun v2 =>
 wpO (convS y25 x2) fun v3 =>
 wpO (bnS .add (some y25) v2 v3) fun v4 =>
 wpO (convS y23 v4) fun v5 =>
 wpO (bnS .shr (some y25) v4 (.int .u64 (32))) fun v6 =>
 wpO (convS y23 v6) fun v7 =>
 k (.tup [v5, v7]) S
theorem F241_ok{x0 x1 x2:SV}{S:Zt}{k:SV→Zt→Prop}(h:F241 x0 x1 x2 S k):wpO (bW cT 241 [x0,x1,x2] S) (fun p=>k p.1 p.2):=bodyP_of (fn:=Tryz.f241) (by kernel_rfl) (by kernel_rfl) (Nat.le_of_ble_eq_true (by kernel_rfl)) ((show F241 x0 x1 x2 S k=wpC cT Tryz.f241.ntmps B241 (argE [x0,x1,x2]) S (outP cT Tryz.f241 k)by kernel_rfl).mp h)
noncomputable abbrev B232:Code:=bodyOf Tryz.f232
noncomputable def F232 (x0 x1 : SV) (S : Zt) (k : SV → Zt → Prop) : Prop :=
 wpO (lenS y172 x0) fun v0 =>
 wpO (bnS .lss (some y3) x1 v0) fun v1 =>
 condP v1
 (wpO (ixS cT y172 x0 x1) fun v2 =>
 wpO (ldS y23 S v2) fun v3 =>
 k v3 S)
 (k (.int .u32 (0)) S)
theorem F232_ok{x0 x1:SV}{S:Zt}{k:SV→Zt→Prop}(h:F232 x0 x1 S k):wpO (bW cT 232 [x0,x1] S) (fun p=>k p.1 p.2):=bodyP_of (fn:=Tryz.f232) (by kernel_rfl) (by kernel_rfl) (Nat.le_of_ble_eq_true (by kernel_rfl)) ((show F232 x0 x1 S k=wpC cT Tryz.f232.ntmps B232 (argE [x0,x1]) S (outP cT Tryz.f232 k)by kernel_rfl).mp h)
noncomputable abbrev B117:Code:=bodyOf Tryz.f117
noncomputable def L117_0:Code:=codeAt [1,0,0,0] B117
noncomputable def K117_0(k:SV→Zt→Prop):X→En→Zt→Prop:=cont cT 22 [1,0,0] B117 (outP cT Tryz.f117 k)
noncomputable def F117 (x0 : SV) (S : Zt) (k : SV → Zt → Prop) : Prop :=
 DenP cT 22 (.loop L117_0) (ups (argE [x0]) [(2, (.vsl [] .nil))]) S (K117_0 k)
noncomputable def TL117_0 (e : En) (S : Zt) (k : X → En → Zt → Prop) : Prop :=
 wpO (lenS y57 (e 0)) fun v0 =>
 wpO (bnS .gtr (some y3) v0 (.int .i64 0)) fun v1 =>
 grdP (some v1) true (fun k => k (e 0) S) S fun v2 S3 =>
 grdP (some v1) true (fun k => k (e 0) S3) S3 fun v4 S5 =>
 grdP (some v1) true (fun k => wpO (lenS y57 v4) fun v6 => k v6 S5) S5 fun v7 S8 =>
 grdP (some v1) true (fun k => wpO (bnS .sub (some y3) v7 (.int .i64 1)) fun v9 => k v9 S8) S8 fun v10 S11 =>
 grdP (some v1) true (fun k => wpO (ixS cT y57 v2 v10) fun v12 => k v12 S11) S11 fun v13 S14 =>
 grdP (some v1) true (fun k => wpO (ldS y44 S14 v13) fun v15 => k v15 S14) S14 fun v16 S17 =>
 grdP (some v1) true (fun k => wpO (cW cT 83 [v16] S17) fun p18 => k p18.1 p18.2) S17 fun v19 S20 =>
 grdP (some v1) true (fun k => wpO (bnS .eql (some y3) v19 (.int .i64 0)) fun v21 => k v21 S20) S20 fun v22 S23 =>
 wpO (pickS v1 v22 (.bool false)) fun v24 =>
 condP v24
 (wpO (lenS y57 (e 0)) fun v25 =>
 wpO (bnS .sub (some y3) v25 (.int .i64 1)) fun v26 =>
 wpO (slicS y44 (e 0) none (some v26) none) fun v27 =>
 DenP cT 22 (.loop L117_0) (ups e [(3, (e 0)), (4, v0), (5, v1), (6, v1), (7, v2), (8, v4), (9, v7), (10, v10), (11, v13), (12, v16), (13, v19), (14, v22), (15, v24), (16, (e 0)), (17, (e 0)), (18, v25), (19, v26), (20, v27), (0, v27)]) S23 k)
 (k (.exit 0) (ups e [(3, (e 0)), (4, v0), (5, v1), (6, v1), (7, v2), (8, v4), (9, v7), (10, v10), (11, v13), (12, v16), (13, v19), (14, v22), (15, v24)]) S23)
noncomputable def TK117_0e0 (e : En) (S : Zt) (k : SV → Zt → Prop) : Prop :=
 k (e 0) S
theorem F117_ok{x0:SV}{S:Zt}{k:SV→Zt→Prop}(h:F117 x0 S k):wpO (bW cT 117 [x0] S) (fun p=>k p.1 p.2):=bodyP_of (fn:=Tryz.f117) (by kernel_rfl) (by kernel_rfl) (Nat.le_of_ble_eq_true (by kernel_rfl)) ((show F117 x0 S k=wpC cT Tryz.f117.ntmps B117 (argE [x0]) S (outP cT Tryz.f117 k)by kernel_rfl).mp h)
theorem L117_0_ok{e:En}{S:Zt}{k:X→En→Zt→Prop}(h:TL117_0 e S k):DenP cT 22 (.loop L117_0) e S k:=loopP_of ((show TL117_0 e S k=wpC cT 22 L117_0 e S (againP cT 22 L117_0 k)by kernel_rfl).mp h)
theorem K117_0e0_ok{e:En}{S:Zt}{k:SV→Zt→Prop}(h:TK117_0e0 e S k):K117_0 k (.exit 0) e S:=(show TK117_0e0 e S k=K117_0 k (.exit 0) e S by kernel_rfl).mp h
noncomputable abbrev B118:Code:=bodyOf Tryz.f118
noncomputable def F118 (x0 x1 : SV) (S : Zt) (k : SV → Zt → Prop) : Prop :=
 wpO (alS y44.zero S) fun p0 =>
 wpO (lenS y57 x0) fun v1 =>
 wpO (bnS .lss (some y3) x1 v1) fun v2 =>
 condP v2
 (wpO (ixS cT y57 x0 x1) fun v3 =>
 wpO (ldS y44 p0.2 v3) fun v4 =>
 wpO (stS y44 p0.2 p0.1 v4) fun S5 =>
 wpO (ldS y44 S5 p0.1) fun v6 =>
 k v6 S5)
 (wpO (cW cT 37 [(.int .i64 0)] p0.2) fun p7 =>
 wpO (stS y44 p7.2 p0.1 p7.1) fun S8 =>
 wpO (ldS y44 S8 p0.1) fun v9 =>
 k v9 S8)
theorem F118_ok{x0 x1:SV}{S:Zt}{k:SV→Zt→Prop}(h:F118 x0 x1 S k):wpO (bW cT 118 [x0,x1] S) (fun p=>k p.1 p.2):=bodyP_of (fn:=Tryz.f118) (by kernel_rfl) (by kernel_rfl) (Nat.le_of_ble_eq_true (by kernel_rfl)) ((show F118 x0 x1 S k=wpC cT Tryz.f118.ntmps B118 (argE [x0,x1]) S (outP cT Tryz.f118 k)by kernel_rfl).mp h)
noncomputable abbrev B42:Code:=bodyOf Tryz.f42
noncomputable def L42_0:Code:=codeAt [1,1,0,1,0,0] B42
noncomputable def L42_1:Code:=codeAt [1,1,0,1,0,0,1,0,0,1,0,1,0,0] B42
noncomputable def K42_0(k:SV→Zt→Prop):X→En→Zt→Prop:=cont cT 43 [1,1,0,1,0] B42 (outP cT Tryz.f42 k)
noncomputable def K42_1(k:X→En→Zt→Prop):X→En→Zt→Prop:=cont cT 43 [1,0,0,1,0,1,0] L42_0 (againP cT 43 L42_0 k)
noncomputable def F42 (x0 x1 : SV) (S : Zt) (k : SV → Zt → Prop) : Prop :=
 wpO (bslS y44 0 [] S) fun p0 =>
 DenP cT 43 (.loop L42_0) (ups (argE [x0, x1]) [(4, (.vsl [] .nil)), (9, p0.1), (5, p0.1), (6, (.int .i64 0))]) p0.2 (K42_0 k)
noncomputable def TL42_0 (e : En) (S : Zt) (k : X → En → Zt → Prop) : Prop :=
 wpO (bnS .add (some y3) (e 6) (.int .i64 1)) fun v1 =>
 wpO (lenS y57 (e 0)) fun v2 =>
 wpO (lenS y57 (e 1)) fun v3 =>
 wpO (bnS .add (some y3) v2 v3) fun v4 =>
 wpO (bnS .lss (some y3) v1 v4) fun v5 =>
 condP v5
 (wpO (cW cT 37 [(.int .i64 0)] S) fun p6 =>
 wpO (alS y44.zero p6.2) fun p7 =>
 wpO (stS y44 p7.2 p7.1 p6.1) fun S8 =>
 DenP cT 43 (.loop L42_1) (ups e [(10, (e 6)), (11, v1), (12, (e 0)), (13, v2), (14, (e 1)), (15, v3), (16, v4), (17, v5), (20, p6.1), (7, p7.1), (8, (.int .i64 0))]) S8 (K42_1 k))
 (k (.exit 0) (ups e [(10, (e 6)), (11, v1), (12, (e 0)), (13, v2), (14, (e 1)), (15, v3), (16, v4), (17, v5)]) S)
noncomputable def TL42_1 (e : En) (S : Zt) (k : X → En → Zt → Prop) : Prop :=
 wpO (bnS .leq (some y3) (e 8) (e 6)) fun v9 =>
 condP v9
 (wpO (ldS y44 S (e 7)) fun v10 =>
 wpO (cW cT 118 [(e 0), (e 8)] S) fun p11 =>
 wpO (bnS .sub (some y3) (e 6) (e 8)) fun v12 =>
 wpO (cW cT 118 [(e 1), v12] p11.2) fun p13 =>
 wpO (cW cT 36 [p11.1, p13.1] p13.2) fun p14 =>
 wpO (cW cT 35 [v10, p14.1] p14.2) fun p15 =>
 wpO (stS y44 p15.2 (e 7) p15.1) fun S16 =>
 wpO (bnS .add (some y3) (e 8) (.int .i64 1)) fun v17 =>
 DenP cT 43 (.loop L42_1) (ups e [(21, (e 8)), (22, (e 6)), (23, v9), (26, v10), (27, (e 0)), (28, (e 8)), (29, p11.1), (30, (e 1)), (31, (e 6)), (32, (e 8)), (33, v12), (34, p13.1), (35, p14.1), (36, p15.1), (24, (e 8)), (25, v17), (8, v17)]) S16 k)
 (k (.exit 2) (ups e [(21, (e 8)), (22, (e 6)), (23, v9)]) S)
noncomputable def TK42_0e0 (e : En) (S : Zt) (k : SV → Zt → Prop) : Prop :=
 wpO (cW cT 117 [(e 5)] S) fun p18 =>
 k p18.1 p18.2
noncomputable def TK42_1e2 (e : En) (S : Zt) (k : X → En → Zt → Prop) : Prop :=
 wpO (ldS y44 S (e 7)) fun v19 =>
 wpO (bslS y44 1 [(0, v19)] S) fun p20 =>
 wpO (appS y44 p20.2 (e 5) p20.1) fun p21 =>
 wpO (bnS .add (some y3) (e 6) (.int .i64 1)) fun v22 =>
 DenP cT 43 (.loop L42_0) (ups e [(37, (e 5)), (38, v19), (39, p20.1), (40, p21.1), (5, p21.1), (18, (e 6)), (19, v22), (6, v22)]) p21.2 k
theorem F42_ok{x0 x1:SV}{S:Zt}{k:SV→Zt→Prop}(h:F42 x0 x1 S k):wpO (bW cT 42 [x0,x1] S) (fun p=>k p.1 p.2):=bodyP_of (fn:=Tryz.f42) (by kernel_rfl) (by kernel_rfl) (Nat.le_of_ble_eq_true (by kernel_rfl)) ((show F42 x0 x1 S k=wpC cT Tryz.f42.ntmps B42 (argE [x0,x1]) S (outP cT Tryz.f42 k)by kernel_rfl).mp h)
theorem L42_0_ok{e:En}{S:Zt}{k:X→En→Zt→Prop}(h:TL42_0 e S k):DenP cT 43 (.loop L42_0) e S k:=loopP_of ((show TL42_0 e S k=wpC cT 43 L42_0 e S (againP cT 43 L42_0 k)by kernel_rfl).mp h)
theorem L42_1_ok{e:En}{S:Zt}{k:X→En→Zt→Prop}(h:TL42_1 e S k):DenP cT 43 (.loop L42_1) e S k:=loopP_of ((show TL42_1 e S k=wpC cT 43 L42_1 e S (againP cT 43 L42_1 k)by kernel_rfl).mp h)
theorem K42_0e0_ok{e:En}{S:Zt}{k:SV→Zt→Prop}(h:TK42_0e0 e S k):K42_0 k (.exit 0) e S:=(show TK42_0e0 e S k=K42_0 k (.exit 0) e S by kernel_rfl).mp h
theorem K42_1e2_ok{e:En}{S:Zt}{k:X→En→Zt→Prop}(h:TK42_1e2 e S k):K42_1 k (.exit 2) e S:=(show TK42_1e2 e S k=K42_1 k (.exit 2) e S by kernel_rfl).mp h
noncomputable abbrev B220:Code:=bodyOf Tryz.f220
noncomputable def L220_0:Code:=codeAt [1,1,1,1,1,0,0,0] B220
noncomputable def K220_0(k:SV→Zt→Prop):X→En→Zt→Prop:=cont cT 75 [1,1,1,1,1,0,0] B220 (outP cT Tryz.f220 k)
noncomputable def F220 (x0 x1 : SV) (S : Zt) (k : SV → Zt → Prop) : Prop :=
 wpO (lenS y42 x1) fun v0 =>
 wpO (ixS cT y42 x0 v0) fun v1 =>
 wpO (ldS y23 S v1) fun v2 =>
 wpO (convS y25 v2) fun v3 =>
 wpO (bnS .mul (some y25) v3 (.int .u64 (4294967296))) fun v4 =>
 wpO (bnS .sub (some y3) v0 (.int .i64 1)) fun v5 =>
 wpO (ixS cT y42 x0 v5) fun v6 =>
 wpO (ldS y23 S v6) fun v7 =>
 wpO (convS y25 v7) fun v8 =>
 wpO (bnS .add (some y25) v4 v8) fun v9 =>
 wpO (bnS .sub (some y3) v0 (.int .i64 1)) fun v10 =>
 wpO (ixS cT y42 x1 v10) fun v11 =>
 wpO (ldS y23 S v11) fun v12 =>
 wpO (convS y25 v12) fun v13 =>
 wpO (bnS .quo (some y25) v9 v13) fun v14 =>
 wpO (bnS .sub (some y3) v0 (.int .i64 1)) fun v15 =>
 wpO (ixS cT y42 x1 v15) fun v16 =>
 wpO (ldS y23 S v16) fun v17 =>
 wpO (convS y25 v17) fun v18 =>
 wpO (bnS .rem (some y25) v9 v18) fun v19 =>
 DenP cT 75 (.loop L220_0) (ups (argE [x0, x1]) [(4, (.int .u64 (0))), (9, x1), (10, v0), (5, v0), (11, x0), (12, v0), (13, v1), (14, v2), (15, v3), (16, v4), (17, x0), (18, v0), (19, v5), (20, v6), (21, v7), (22, v8), (23, v9), (6, v9), (24, v9), (25, x1), (26, v0), (27, v10), (28, v11), (29, v12), (30, v13), (31, v14), (7, v14), (32, v9), (33, x1), (34, v0), (35, v15), (36, v16), (37, v17), (38, v18), (39, v19), (8, v19)]) S (K220_0 k)
noncomputable def TL220_0 (e : En) (S : Zt) (k : X → En → Zt → Prop) : Prop :=
 wpO (bnS .geq (some y25) (e 7) (.int .u64 (4294967296))) fun v20 =>
 grdP (some v20) false (fun k => k (e 7) S) S fun v21 S22 =>
 grdP (some v20) false (fun k => k (e 1) S22) S22 fun v23 S24 =>
 grdP (some v20) false (fun k => k (e 5) S24) S24 fun v25 S26 =>
 grdP (some v20) false (fun k => wpO (bnS .sub (some y3) v25 (.int .i64 2)) fun v27 => k v27 S26) S26 fun v28 S29 =>
 grdP (some v20) false (fun k => wpO (ixS cT y42 v23 v28) fun v30 => k v30 S29) S29 fun v31 S32 =>
 grdP (some v20) false (fun k => wpO (ldS y23 S32 v31) fun v33 => k v33 S32) S32 fun v34 S35 =>
 grdP (some v20) false (fun k => wpO (convS y25 v34) fun v36 => k v36 S35) S35 fun v37 S38 =>
 grdP (some v20) false (fun k => wpO (bnS .mul (some y25) v21 v37) fun v39 => k v39 S38) S38 fun v40 S41 =>
 grdP (some v20) false (fun k => k (e 8) S41) S41 fun v42 S43 =>
 grdP (some v20) false (fun k => wpO (bnS .mul (some y25) v42 (.int .u64 (4294967296))) fun v44 => k v44 S43) S43 fun v45 S46 =>
 grdP (some v20) false (fun k => k (e 0) S46) S46 fun v47 S48 =>
 grdP (some v20) false (fun k => k (e 5) S48) S48 fun v49 S50 =>
 grdP (some v20) false (fun k => wpO (bnS .sub (some y3) v49 (.int .i64 2)) fun v51 => k v51 S50) S50 fun v52 S53 =>
 grdP (some v20) false (fun k => wpO (ixS cT y42 v47 v52) fun v54 => k v54 S53) S53 fun v55 S56 =>
 grdP (some v20) false (fun k => wpO (ldS y23 S56 v55) fun v57 => k v57 S56) S56 fun v58 S59 =>
 grdP (some v20) false (fun k => wpO (convS y25 v58) fun v60 => k v60 S59) S59 fun v61 S62 =>
 grdP (some v20) false (fun k => wpO (bnS .add (some y25) v45 v61) fun v63 => k v63 S62) S62 fun v64 S65 =>
 grdP (some v20) false (fun k => wpO (bnS .gtr (some y25) v40 v64) fun v66 => k v66 S65) S65 fun v67 S68 =>
 wpO (pickS v20 (.bool true) v67) fun v69 =>
 condP v69
 (wpO (bnS .sub (some y25) (e 7) (.int .u64 (1))) fun v70 =>
 wpO (bnS .sub (some y3) (e 5) (.int .i64 1)) fun v71 =>
 wpO (ixS cT y42 (e 1) v71) fun v72 =>
 wpO (ldS y23 S68 v72) fun v73 =>
 wpO (convS y25 v73) fun v74 =>
 wpO (bnS .add (some y25) (e 8) v74) fun v75 =>
 wpO (bnS .geq (some y25) v75 (.int .u64 (4294967296))) fun v76 =>
 condP v76
 (k (.exit 0) (ups e [(40, (e 7)), (41, v20), (42, v20), (43, v21), (44, v23), (45, v25), (46, v28), (47, v31), (48, v34), (49, v37), (50, v40), (51, v42), (52, v45), (53, v47), (54, v49), (55, v52), (56, v55), (57, v58), (58, v61), (59, v64), (60, v67), (61, v69), (62, (e 7)), (63, v70), (7, v70), (64, (e 8)), (65, (e 1)), (66, (e 5)), (67, v71), (68, v72), (69, v73), (70, v74), (71, v75), (8, v75), (72, v75), (73, v76)]) S68)
 (DenP cT 75 (.loop L220_0) (ups e [(40, (e 7)), (41, v20), (42, v20), (43, v21), (44, v23), (45, v25), (46, v28), (47, v31), (48, v34), (49, v37), (50, v40), (51, v42), (52, v45), (53, v47), (54, v49), (55, v52), (56, v55), (57, v58), (58, v61), (59, v64), (60, v67), (61, v69), (62, (e 7)), (63, v70), (7, v70), (64, (e 8)), (65, (e 1)), (66, (e 5)), (67, v71), (68, v72), (69, v73), (70, v74), (71, v75), (8, v75), (72, v75), (73, v76)]) S68 k))
 (k (.exit 0) (ups e [(40, (e 7)), (41, v20), (42, v20), (43, v21), (44, v23), (45, v25), (46, v28), (47, v31), (48, v34), (49, v37), (50, v40), (51, v42), (52, v45), (53, v47), (54, v49), (55, v52), (56, v55), (57, v58), (58, v61), (59, v64), (60, v67), (61, v69)]) S68)
noncomputable def TK220_0e0 (e : En) (S : Zt) (k : SV → Zt → Prop) : Prop :=
 k (e 7) S
theorem F220_ok{x0 x1:SV}{S:Zt}{k:SV→Zt→Prop}(h:F220 x0 x1 S k):wpO (bW cT 220 [x0,x1] S) (fun p=>k p.1 p.2):=bodyP_of (fn:=Tryz.f220) (by kernel_rfl) (by kernel_rfl) (Nat.le_of_ble_eq_true (by kernel_rfl)) ((show F220 x0 x1 S k=wpC cT Tryz.f220.ntmps B220 (argE [x0,x1]) S (outP cT Tryz.f220 k)by kernel_rfl).mp h)
theorem L220_0_ok{e:En}{S:Zt}{k:X→En→Zt→Prop}(h:TL220_0 e S k):DenP cT 75 (.loop L220_0) e S k:=loopP_of ((show TL220_0 e S k=wpC cT 75 L220_0 e S (againP cT 75 L220_0 k)by kernel_rfl).mp h)
theorem K220_0e0_ok{e:En}{S:Zt}{k:SV→Zt→Prop}(h:TK220_0e0 e S k):K220_0 k (.exit 0) e S:=(show TK220_0e0 e S k=K220_0 k (.exit 0) e S by kernel_rfl).mp h
noncomputable abbrev B221:Code:=bodyOf Tryz.f221
noncomputable def L221_0:Code:=codeAt [1,1,1,0,1,0,0] B221
noncomputable def K221_0(k:SV→Zt→Prop):X→En→Zt→Prop:=cont cT 49 [1,1,1,0,1,0] B221 (outP cT Tryz.f221 k)
noncomputable def F221 (x0 x1 x2 : SV) (S : Zt) (k : SV → Zt → Prop) : Prop :=
 DenP cT 49 (.loop L221_0) (ups (argE [x0, x1, x2]) [(6, (.bool false)), (7, (.int .u64 (0))), (8, (.int .u64 (0))), (9, (.int .i64 0))]) S (K221_0 k)
noncomputable def TL221_0 (e : En) (S : Zt) (k : X → En → Zt → Prop) : Prop :=
 wpO (lenS y42 (e 0)) fun v0 =>
 wpO (bnS .lss (some y3) (e 9) v0) fun v1 =>
 condP v1
 (wpO (cW cT 176 [(e 1), (e 9)] S) fun p2 =>
 wpO (bnS .mul (some y25) (e 2) p2.1) fun v3 =>
 wpO (bnS .add (some y25) v3 (e 7)) fun v4 =>
 wpO (bnS .quo (some y25) v4 (.int .u64 (4294967296))) fun v5 =>
 wpO (ixS cT y42 (e 0) (e 9)) fun v6 =>
 wpO (ldS y23 p2.2 v6) fun v7 =>
 wpO (convS y25 v7) fun v8 =>
 wpO (bnS .add (some y25) (.int .u64 (4294967296)) v8) fun v9 =>
 wpO (bnS .rem (some y25) v4 (.int .u64 (4294967296))) fun v10 =>
 wpO (bnS .sub (some y25) v9 v10) fun v11 =>
 wpO (bnS .sub (some y25) v11 (e 8)) fun v12 =>
 wpO (bnS .rem (some y25) v12 (.int .u64 (4294967296))) fun v13 =>
 wpO (convS y23 v13) fun v14 =>
 wpO (ixS cT y42 (e 0) (e 9)) fun v15 =>
 wpO (stS y23 p2.2 v15 v14) fun S16 =>
 wpO (bnS .quo (some y25) v12 (.int .u64 (4294967296))) fun v17 =>
 wpO (bnS .sub (some y25) (.int .u64 (1)) v17) fun v18 =>
 wpO (bnS .add (some y3) (e 9) (.int .i64 1)) fun v19 =>
 DenP cT 49 (.loop L221_0) (ups e [(12, (e 9)), (13, (e 0)), (14, v0), (15, v1), (18, (e 2)), (19, (e 1)), (20, (e 9)), (21, p2.1), (22, v3), (23, (e 7)), (24, v4), (10, v4), (25, v4), (26, v5), (7, v5), (27, (e 0)), (28, (e 9)), (29, v6), (30, v7), (31, v8), (32, v9), (33, v4), (34, v10), (35, v11), (36, (e 8)), (37, v12), (11, v12), (38, (e 0)), (39, (e 9)), (40, v12), (41, v13), (42, v14), (43, v15), (44, v12), (45, v17), (46, v18), (8, v18), (16, (e 9)), (17, v19), (9, v19)]) S16 k)
 (k (.exit 0) (ups e [(12, (e 9)), (13, (e 0)), (14, v0), (15, v1)]) S)
noncomputable def TK221_0e0 (e : En) (S : Zt) (k : SV → Zt → Prop) : Prop :=
 wpO (bnS .eql (some y25) (e 8) (.int .u64 (1))) fun v20 =>
 k v20 S
theorem F221_ok{x0 x1 x2:SV}{S:Zt}{k:SV→Zt→Prop}(h:F221 x0 x1 x2 S k):wpO (bW cT 221 [x0,x1,x2] S) (fun p=>k p.1 p.2):=bodyP_of (fn:=Tryz.f221) (by kernel_rfl) (by kernel_rfl) (Nat.le_of_ble_eq_true (by kernel_rfl)) ((show F221 x0 x1 x2 S k=wpC cT Tryz.f221.ntmps B221 (argE [x0,x1,x2]) S (outP cT Tryz.f221 k)by kernel_rfl).mp h)
theorem L221_0_ok{e:En}{S:Zt}{k:X→En→Zt→Prop}(h:TL221_0 e S k):DenP cT 49 (.loop L221_0) e S k:=loopP_of ((show TL221_0 e S k=wpC cT 49 L221_0 e S (againP cT 49 L221_0 k)by kernel_rfl).mp h)
theorem K221_0e0_ok{e:En}{S:Zt}{k:SV→Zt→Prop}(h:TK221_0e0 e S k):K221_0 k (.exit 0) e S:=(show TK221_0e0 e S k=K221_0 k (.exit 0) e S by kernel_rfl).mp h
noncomputable abbrev B222:Code:=bodyOf Tryz.f222
noncomputable def L222_0:Code:=codeAt [1,1,0,0] B222
noncomputable def K222_0(k:SV→Zt→Prop):X→En→Zt→Prop:=cont cT 32 [1,1,0] B222 (outP cT Tryz.f222 k)
noncomputable def F222 (x0 x1 : SV) (S : Zt) (k : SV → Zt → Prop) : Prop :=
 DenP cT 32 (.loop L222_0) (ups (argE [x0, x1]) [(4, (.int .u64 (0))), (5, (.int .i64 0))]) S (K222_0 k)
noncomputable def TL222_0 (e : En) (S : Zt) (k : X → En → Zt → Prop) : Prop :=
 wpO (lenS y42 (e 0)) fun v0 =>
 wpO (bnS .lss (some y3) (e 5) v0) fun v1 =>
 condP v1
 (wpO (ixS cT y42 (e 0) (e 5)) fun v2 =>
 wpO (ldS y23 S v2) fun v3 =>
 wpO (convS y25 v3) fun v4 =>
 wpO (cW cT 176 [(e 1), (e 5)] S) fun p5 =>
 wpO (bnS .add (some y25) v4 p5.1) fun v6 =>
 wpO (bnS .add (some y25) v6 (e 4)) fun v7 =>
 wpO (bnS .rem (some y25) v7 (.int .u64 (4294967296))) fun v8 =>
 wpO (convS y23 v8) fun v9 =>
 wpO (ixS cT y42 (e 0) (e 5)) fun v10 =>
 wpO (stS y23 p5.2 v10 v9) fun S11 =>
 wpO (bnS .quo (some y25) v7 (.int .u64 (4294967296))) fun v12 =>
 wpO (bnS .add (some y3) (e 5) (.int .i64 1)) fun v13 =>
 DenP cT 32 (.loop L222_0) (ups e [(7, (e 5)), (8, (e 0)), (9, v0), (10, v1), (13, (e 0)), (14, (e 5)), (15, v2), (16, v3), (17, v4), (18, (e 1)), (19, (e 5)), (20, p5.1), (21, v6), (22, (e 4)), (23, v7), (6, v7), (24, (e 0)), (25, (e 5)), (26, v7), (27, v8), (28, v9), (29, v10), (30, v7), (31, v12), (4, v12), (11, (e 5)), (12, v13), (5, v13)]) S11 k)
 (k (.exit 0) (ups e [(7, (e 5)), (8, (e 0)), (9, v0), (10, v1)]) S)
noncomputable def TK222_0e0 (e : En) (S : Zt) (k : SV → Zt → Prop) : Prop :=
 k (.tup []) S
theorem F222_ok{x0 x1:SV}{S:Zt}{k:SV→Zt→Prop}(h:F222 x0 x1 S k):wpO (bW cT 222 [x0,x1] S) (fun p=>k p.1 p.2):=bodyP_of (fn:=Tryz.f222) (by kernel_rfl) (by kernel_rfl) (Nat.le_of_ble_eq_true (by kernel_rfl)) ((show F222 x0 x1 S k=wpC cT Tryz.f222.ntmps B222 (argE [x0,x1]) S (outP cT Tryz.f222 k)by kernel_rfl).mp h)
theorem L222_0_ok{e:En}{S:Zt}{k:X→En→Zt→Prop}(h:TL222_0 e S k):DenP cT 32 (.loop L222_0) e S k:=loopP_of ((show TL222_0 e S k=wpC cT 32 L222_0 e S (againP cT 32 L222_0 k)by kernel_rfl).mp h)
theorem K222_0e0_ok{e:En}{S:Zt}{k:SV→Zt→Prop}(h:TK222_0e0 e S k):K222_0 k (.exit 0) e S:=(show TK222_0e0 e S k=K222_0 k (.exit 0) e S by kernel_rfl).mp h
noncomputable abbrev B157:Code:=bodyOf Tryz.f157
noncomputable def F157 (x0 : SV) (S : Zt) (k : SV → Zt → Prop) : Prop :=
 wpO (alS x0 S) fun p0 =>
 wpO (faS cT y44 p0.1 1) fun v1 =>
 wpO (ldS y42 p0.2 v1) fun v2 =>
 wpO (lenS y42 v2) fun v3 =>
 wpO (bnS .gtr (some y3) v3 (.int .i64 2)) fun v4 =>
 condP v4
 (k (.tup [(.int .i64 0), (.bool false)]) p0.2)
 (wpO (faS cT y44 p0.1 1) fun v5 =>
 wpO (ldS y42 p0.2 v5) fun v6 =>
 wpO (cW cT 218 [v6] p0.2) fun p7 =>
 wpO (faS cT y44 p0.1 0) fun v8 =>
 wpO (ldS y4 p7.2 v8) fun v9 =>
 wpO (unS .not v9) fun v10 =>
 grdP (some v10) true (fun k => k p7.1 p7.2) p7.2 fun v11 S12 =>
 grdP (some v10) true (fun k => wpO (bnS .lss (some y25) v11 (.int .u64 (9223372036854775808))) fun v13 => k v13 S12) S12 fun v14 S15 =>
 wpO (pickS v10 v14 (.bool false)) fun v16 =>
 condP v16
 (wpO (convS y2 p7.1) fun v17 =>
 k (.tup [v17, (.bool true)]) S15)
 (wpO (faS cT y44 p0.1 0) fun v18 =>
 wpO (ldS y4 S15 v18) fun v19 =>
 grdP (some v19) true (fun k => k p7.1 S15) S15 fun v20 S21 =>
 grdP (some v19) true (fun k => wpO (bnS .leq (some y25) v20 (.int .u64 (9223372036854775808))) fun v22 => k v22 S21) S21 fun v23 S24 =>
 wpO (pickS v19 v23 (.bool false)) fun v25 =>
 condP v25
 (wpO (bnS .sub (some y25) p7.1 (.int .u64 (1))) fun v26 =>
 wpO (convS y2 v26) fun v27 =>
 wpO (unS .neg v27) fun v28 =>
 wpO (bnS .sub (some y2) v28 (.int .i64 1)) fun v29 =>
 k (.tup [v29, (.bool true)]) S24)
 (k (.tup [(.int .i64 0), (.bool false)]) S24)))
theorem F157_ok{x0:SV}{S:Zt}{k:SV→Zt→Prop}(h:F157 x0 S k):wpO (bW cT 157 [x0] S) (fun p=>k p.1 p.2):=bodyP_of (fn:=Tryz.f157) (by kernel_rfl) (by kernel_rfl) (Nat.le_of_ble_eq_true (by kernel_rfl)) ((show F157 x0 S k=wpC cT Tryz.f157.ntmps B157 (argE [x0]) S (outP cT Tryz.f157 k)by kernel_rfl).mp h)
noncomputable abbrev B109:Code:=bodyOf Tryz.f109
noncomputable def F109 (x0 x1 : SV) (S : Zt) (k : SV → Zt → Prop) : Prop :=
 wpO (alS x0 S) fun p0 =>
 wpO (alS x1 p0.2) fun p1 =>
 wpO (alS y44.zero p1.2) fun p2 =>
 wpO (ldS y44 p2.2 p0.1) fun v3 =>
 wpO (ldS y44 p2.2 p1.1) fun v4 =>
 wpO (cW cT 84 [v4] p2.2) fun p5 =>
 wpO (cW cT 35 [v3, p5.1] p5.2) fun p6 =>
 wpO (stS y44 p6.2 p2.1 p6.1) fun S7 =>
 wpO (ldS y44 S7 p2.1) fun v8 =>
 k v8 S7
theorem F109_ok{x0 x1:SV}{S:Zt}{k:SV→Zt→Prop}(h:F109 x0 x1 S k):wpO (bW cT 109 [x0,x1] S) (fun p=>k p.1 p.2):=bodyP_of (fn:=Tryz.f109) (by kernel_rfl) (by kernel_rfl) (Nat.le_of_ble_eq_true (by kernel_rfl)) ((show F109 x0 x1 S k=wpC cT Tryz.f109.ntmps B109 (argE [x0,x1]) S (outP cT Tryz.f109 k)by kernel_rfl).mp h)
end Go.Proofs
