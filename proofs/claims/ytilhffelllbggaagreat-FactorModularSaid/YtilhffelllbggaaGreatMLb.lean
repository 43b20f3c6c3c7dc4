/-
  Functions that the law reaches, laid out (2).
-/
import Derived.Test.YtilhffelllbggaaGreatMG
set_option linter.unusedVariables false
set_option linter.unusedSimpArgs false
set_option maxRecDepth 100000
namespace Go.Proofs
open Go Go.Sh
noncomputable abbrev B65:Code:=bodyOf Tryz.f65
noncomputable def F65 (x0 x1 : SV) (S : Zt) (k : SV → Zt → Prop) : Prop :=
 wpO (lenS y28 x0) fun v0 =>
 wpO (convS y157 v0) fun v1 =>
 wpO (cW cT 135 [v1] S) fun p2 =>
 wpO (cW cT 134 [x0, (.int .i64 0), v0, p2.1, x1] p2.2) fun p3 =>
 k (.tup []) p3.2
theorem F65_ok{x0 x1:SV}{S:Zt}{k:SV→Zt→Prop}(h:F65 x0 x1 S k):wpO (bW cT 65 [x0,x1] S) (fun p=>k p.1 p.2):=bo (fn:=Tryz.f65) (by kernel_rfl) (by kernel_rfl) (Nat.le_of_ble_eq_true (by kernel_rfl)) ((show F65 x0 x1 S k=wpC cT Tryz.f65.ntmps B65 (argE [x0,x1]) S (outP cT Tryz.f65 k)by kernel_rfl).mp h)
noncomputable abbrev B66:Code:=bodyOf Tryz.f66
noncomputable def F66 (x0 x1 : SV) (S : Zt) (k : SV → Zt → Prop) : Prop :=
 wpO (alS x0 S) fun p0 =>
 wpO (alS x1 p0.2) fun p1 =>
 wpO (faS cT y33 p0.1 0) fun v2 =>
 wpO (ldS y22 p1.2 v2) fun v3 =>
 wpO (faS cT y33 p1.1 0) fun v4 =>
 wpO (ldS y22 p1.2 v4) fun v5 =>
 wpO (cW cT 67 [v3, v5] p1.2) fun p6 =>
 k p6.1 p6.2
theorem F66_ok{x0 x1:SV}{S:Zt}{k:SV→Zt→Prop}(h:F66 x0 x1 S k):wpO (bW cT 66 [x0,x1] S) (fun p=>k p.1 p.2):=bo (fn:=Tryz.f66) (by kernel_rfl) (by kernel_rfl) (Nat.le_of_ble_eq_true (by kernel_rfl)) ((show F66 x0 x1 S k=wpC cT Tryz.f66.ntmps B66 (argE [x0,x1]) S (outP cT Tryz.f66 k)by kernel_rfl).mp h)
noncomputable abbrev B67:Code:=bodyOf Tryz.f67
noncomputable def L67_0:Code:=cA [1,1,0,1,0,0] B67
noncomputable def K67_0(k:SV→Zt→Prop):X→En→Zt→Prop:=cont cT 41 [1,1,0,1,0] B67 (outP cT Tryz.f67 k)
noncomputable def F67 (x0 x1 : SV) (S : Zt) (k : SV → Zt → Prop) : Prop :=
 wpO (lenS y100 x0) fun v0 =>
 wpO (lenS y100 x1) fun v1 =>
 wpO (bnS .neq (some y3) v0 v1) fun v2 =>
 condP v2
 (wpO (lenS y100 x0) fun v3 =>
 wpO (lenS y100 x1) fun v4 =>
 wpO (bnS .sub (some y3) v3 v4) fun v5 =>
 k v5 S)
 (wpO (lenS y100 x0) fun v6 =>
 wpO (bnS .sub (some y3) v6 (.int .i64 1)) fun v7 =>
 DenP cT 41 (.loop L67_0) (ups (argE [x0, x1]) [(4, (.int .i64 0)), (6, x0), (7, v0), (8, x1), (9, v1), (10, v2), (16, x0), (17, v6), (18, v7), (5, v7)]) S (K67_0 k))
noncomputable def TL67_0 (e : En) (S : Zt) (k : X → En → Zt → Prop) : Prop :=
 wpO (bnS .geq (some y3) (e 5) (.int .i64 0)) fun v8 =>
 condP v8
 (wpO (ixS cT y100 (e 0) (e 5)) fun v9 =>
 wpO (ldS y25 S v9) fun v10 =>
 wpO (ixS cT y100 (e 1) (e 5)) fun v11 =>
 wpO (ldS y25 S v11) fun v12 =>
 wpO (bnS .neq (some y25) v10 v12) fun v13 =>
 condP v13
 (wpO (ixS cT y100 (e 0) (e 5)) fun v14 =>
 wpO (ldS y25 S v14) fun v15 =>
 wpO (ixS cT y100 (e 1) (e 5)) fun v16 =>
 wpO (ldS y25 S v16) fun v17 =>
 wpO (bnS .lss (some y25) v15 v17) fun v18 =>
 condP v18
 (k .ret (ups e [(19, (e 5)), (20, v8), (23, (e 0)), (24, (e 5)), (25, v9), (26, v10), (27, (e 1)), (28, (e 5)), (29, v11), (30, v12), (31, v13), (32, (e 0)), (33, (e 5)), (34, v14), (35, v15), (36, (e 1)), (37, (e 5)), (38, v16), (39, v17), (40, v18), (4, (.int .i64 (-1)))]) S)
 (k .ret (ups e [(19, (e 5)), (20, v8), (23, (e 0)), (24, (e 5)), (25, v9), (26, v10), (27, (e 1)), (28, (e 5)), (29, v11), (30, v12), (31, v13), (32, (e 0)), (33, (e 5)), (34, v14), (35, v15), (36, (e 1)), (37, (e 5)), (38, v16), (39, v17), (40, v18), (4, (.int .i64 1))]) S))
 (wpO (bnS .sub (some y3) (e 5) (.int .i64 1)) fun v19 =>
 DenP cT 41 (.loop L67_0) (ups e [(19, (e 5)), (20, v8), (23, (e 0)), (24, (e 5)), (25, v9), (26, v10), (27, (e 1)), (28, (e 5)), (29, v11), (30, v12), (31, v13), (21, (e 5)), (22, v19), (5, v19)]) S k))
 (k (.exit 0) (ups e [(19, (e 5)), (20, v8)]) S)
noncomputable def TK67_0e0 (e : En) (S : Zt) (k : SV → Zt → Prop) : Prop :=
 k (.int .i64 0) S
noncomputable def TK67_0r (e : En) (S : Zt) (k : SV → Zt → Prop) : Prop :=
 k (e 4) S
theorem F67_ok{x0 x1:SV}{S:Zt}{k:SV→Zt→Prop}(h:F67 x0 x1 S k):wpO (bW cT 67 [x0,x1] S) (fun p=>k p.1 p.2):=bo (fn:=Tryz.f67) (by kernel_rfl) (by kernel_rfl) (Nat.le_of_ble_eq_true (by kernel_rfl)) ((show F67 x0 x1 S k=wpC cT Tryz.f67.ntmps B67 (argE [x0,x1]) S (outP cT Tryz.f67 k)by kernel_rfl).mp h)
theorem L67_0_ok{e:En}{S:Zt}{k:X→En→Zt→Prop}(h:TL67_0 e S k):DenP cT 41 (.loop L67_0) e S k:=loopP_of ((show TL67_0 e S k=wpC cT 41 L67_0 e S (againP cT 41 L67_0 k)by kernel_rfl).mp h)
theorem K67_0e0_ok{e:En}{S:Zt}{k:SV→Zt→Prop}(h:TK67_0e0 e S k):K67_0 k (.exit 0) e S:=(show TK67_0e0 e S k=K67_0 k (.exit 0) e S by kernel_rfl).mp h
theorem K67_0r_ok{e:En}{S:Zt}{k:SV→Zt→Prop}(h:TK67_0r e S k):K67_0 k .ret e S:=(show TK67_0r e S k=K67_0 k .ret e S by kernel_rfl).mp h
noncomputable abbrev B130:Code:=bodyOf Tryz.f130
noncomputable def L130_0:Code:=cA [1,1,0,0,0] B130
noncomputable def K130_0(k:SV→Zt→Prop):X→En→Zt→Prop:=cont cT 40 [1,1,0,0] B130 (outP cT Tryz.f130 k)
noncomputable def F130 (x0 x1 x2 x3 : SV) (S : Zt) (k : SV → Zt → Prop) : Prop :=
 wpO (alS x0 S) fun p0 =>
 wpO (ldS y99 p0.2 p0.1) fun v1 =>
 wpO (bslS y25 1 [(0, (.int .u64 (1)))] p0.2) fun p2 =>
 wpO (cW cT 132 [v1, p2.1, x3] p2.2) fun p3 =>
 wpO (ldS y99 p3.2 p0.1) fun v4 =>
 wpO (cW cT 132 [v4, x1, x3] p3.2) fun p5 =>
 DenP cT 40 (.loop L130_0) (ups (argE [x0, x1, x2, x3]) [(4, p0.1), (8, (.vsl [] .nil)), (10, v1), (11, p2.1), (12, x3), (13, p3.1), (14, v4), (15, x1), (16, x3), (17, p5.1), (9, p3.1), (1, p5.1)]) p5.2 (K130_0 k)
noncomputable def TL130_0 (e : En) (S : Zt) (k : X → En → Zt → Prop) : Prop :=
 wpO (bnS .gtr (some y25) (e 2) (.int .u64 (0))) fun v6 =>
 condP v6
 (wpO (bnS .and (some y25) (e 2) (.int .u64 (1))) fun v7 =>
 wpO (bnS .eql (some y25) v7 (.int .u64 (1))) fun v8 =>
 condP v8
 (wpO (ldS y99 S (e 4)) fun v9 =>
 wpO (ldS y99 S (e 4)) fun v10 =>
 wpO (cW cT 99 [v10, (e 9), (e 1)] S) fun p11 =>
 wpO (cW cT 132 [v9, p11.1, (e 3)] p11.2) fun p12 =>
 wpO (ldS y99 p12.2 (e 4)) fun v13 =>
 wpO (ldS y99 p12.2 (e 4)) fun v14 =>
 wpO (cW cT 99 [v14, (e 1), (e 1)] p12.2) fun p15 =>
 wpO (cW cT 132 [v13, p15.1, (e 3)] p15.2) fun p16 =>
 wpO (bnS .shr (some y25) (e 2) (.int .u64 (1))) fun v17 =>
 DenP cT 40 (.loop L130_0) (ups e [(18, (e 2)), (19, v6), (22, (e 2)), (23, v7), (24, v8), (25, v9), (26, v10), (27, (e 9)), (28, (e 1)), (29, p11.1), (30, (e 3)), (31, p12.1), (9, p12.1), (32, v13), (33, v14), (34, (e 1)), (35, (e 1)), (36, p15.1), (37, (e 3)), (38, p16.1), (1, p16.1), (20, (e 2)), (21, v17), (2, v17)]) p16.2 k)
 (wpO (ldS y99 S (e 4)) fun v18 =>
 wpO (ldS y99 S (e 4)) fun v19 =>
 wpO (cW cT 99 [v19, (e 1), (e 1)] S) fun p20 =>
 wpO (cW cT 132 [v18, p20.1, (e 3)] p20.2) fun p21 =>
 wpO (bnS .shr (some y25) (e 2) (.int .u64 (1))) fun v22 =>
 DenP cT 40 (.loop L130_0) (ups e [(18, (e 2)), (19, v6), (22, (e 2)), (23, v7), (24, v8), (32, v18), (33, v19), (34, (e 1)), (35, (e 1)), (36, p20.1), (37, (e 3)), (38, p21.1), (1, p21.1), (20, (e 2)), (21, v22), (2, v22)]) p21.2 k))
 (k (.exit 0) (ups e [(18, (e 2)), (19, v6)]) S)
noncomputable def TK130_0e0 (e : En) (S : Zt) (k : SV → Zt → Prop) : Prop :=
 k (e 9) S
theorem F130_ok{x0 x1 x2 x3:SV}{S:Zt}{k:SV→Zt→Prop}(h:F130 x0 x1 x2 x3 S k):wpO (bW cT 130 [x0,x1,x2,x3] S) (fun p=>k p.1 p.2):=bo (fn:=Tryz.f130) (by kernel_rfl) (by kernel_rfl) (Nat.le_of_ble_eq_true (by kernel_rfl)) ((show F130 x0 x1 x2 x3 S k=wpC cT Tryz.f130.ntmps B130 (argE [x0,x1,x2,x3]) S (outP cT Tryz.f130 k)by kernel_rfl).mp h)
theorem L130_0_ok{e:En}{S:Zt}{k:X→En→Zt→Prop}(h:TL130_0 e S k):DenP cT 40 (.loop L130_0) e S k:=loopP_of ((show TL130_0 e S k=wpC cT 40 L130_0 e S (againP cT 40 L130_0 k)by kernel_rfl).mp h)
theorem K130_0e0_ok{e:En}{S:Zt}{k:SV→Zt→Prop}(h:TK130_0e0 e S k):K130_0 k (.exit 0) e S:=(show TK130_0e0 e S k=K130_0 k (.exit 0) e S by kernel_rfl).mp h
noncomputable abbrev B133:Code:=bodyOf Tryz.f133
noncomputable def L133_0:Code:=cA [1,1,0,1,0,1,0,1,0,0] B133
noncomputable def L133_1:Code:=cA [1,1,1,1,0,1,0,0] B133
noncomputable def K133_0(k:SV→Zt→Prop):X→En→Zt→Prop:=cont cT 63 [1,1,0,1,0,1,0,1,0] B133 (outP cT Tryz.f133 k)
noncomputable def K133_1(k:SV→Zt→Prop):X→En→Zt→Prop:=cont cT 63 [1,1,1,1,0,1,0] B133 (outP cT Tryz.f133 k)
noncomputable def F133 (x0 x1 x2 x3 : SV) (S : Zt) (k : SV → Zt → Prop) : Prop :=
 wpO (alS x0 S) fun p0 =>
 wpO (ldS y99 p0.2 p0.1) fun v1 =>
 wpO (cW cT 132 [v1, x1, x3] p0.2) fun p2 =>
 wpO (faS cT y99 p0.1 0) fun v3 =>
 wpO (ldS y25 p2.2 v3) fun v4 =>
 wpO (bnS .eql (some y25) v4 (.int .u64 (2))) fun v5 =>
 condP v5
 (wpO (bnS .sub (some y3) x2 (.int .i64 1)) fun v6 =>
 DenP cT 63 (.loop L133_0) (ups (argE [x0, x1, x2, x3]) [(4, p0.1), (8, (.vsl [] .nil)), (11, v1), (12, x1), (13, x3), (14, p2.1), (1, p2.1), (15, v3), (16, v4), (17, v5), (18, p2.1), (9, p2.1), (19, x2), (20, v6), (21, (.int .i64 0))]) p2.2 (K133_0 k))
 (wpO (bnS .sub (some y3) x2 (.int .i64 1)) fun v7 =>
 DenP cT 63 (.loop L133_1) (ups (argE [x0, x1, x2, x3]) [(4, p0.1), (8, (.vsl [] .nil)), (11, v1), (12, x1), (13, x3), (14, p2.1), (1, p2.1), (15, v3), (16, v4), (17, v5), (33, p2.1), (10, p2.1), (34, x2), (35, v7), (36, (.int .i64 0))]) p2.2 (K133_1 k))
noncomputable def TL133_0 (e : En) (S : Zt) (k : X → En → Zt → Prop) : Prop :=
 wpO (bnS .lss (some y3) (e 21) (e 20)) fun v8 =>
 condP v8
 (wpO (ldS y99 S (e 4)) fun v9 =>
 wpO (cW cT 130 [v9, (e 1), (.int .u64 (2)), (e 3)] S) fun p10 =>
 wpO (ldS y99 p10.2 (e 4)) fun v11 =>
 wpO (cW cT 179 [v11, (e 9), (.int .u64 (1)), p10.1] p10.2) fun p12 =>
 wpO (bnS .add (some y3) (e 21) (.int .i64 1)) fun v13 =>
 DenP cT 63 (.loop L133_0) (ups e [(22, v8), (23, v9), (24, (e 1)), (25, (e 3)), (26, p10.1), (1, p10.1), (27, v11), (28, (e 9)), (29, p10.1), (30, p12.1), (9, p12.1), (31, v13), (21, v13)]) p12.2 k)
 (k (.exit 0) (ups e [(22, v8)]) S)
noncomputable def TL133_1 (e : En) (S : Zt) (k : X → En → Zt → Prop) : Prop :=
 wpO (bnS .lss (some y3) (e 36) (e 35)) fun v14 =>
 condP v14
 (wpO (ldS y99 S (e 4)) fun v15 =>
 wpO (faS cT y99 (e 4) 0) fun v16 =>
 wpO (ldS y25 S v16) fun v17 =>
 wpO (cW cT 130 [v15, (e 1), v17, (e 3)] S) fun p18 =>
 wpO (ldS y99 p18.2 (e 4)) fun v19 =>
 wpO (ldS y99 p18.2 (e 4)) fun v20 =>
 wpO (cW cT 99 [v20, (e 10), p18.1] p18.2) fun p21 =>
 wpO (cW cT 132 [v19, p21.1, (e 3)] p21.2) fun p22 =>
 wpO (bnS .add (some y3) (e 36) (.int .i64 1)) fun v23 =>
 DenP cT 63 (.loop L133_1) (ups e [(37, v14), (38, v15), (39, (e 1)), (40, v16), (41, v17), (42, (e 3)), (43, p18.1), (1, p18.1), (44, v19), (45, v20), (46, (e 10)), (47, p18.1), (48, p21.1), (49, (e 3)), (50, p22.1), (10, p22.1), (51, v23), (36, v23)]) p22.2 k)
 (k (.exit 2) (ups e [(37, v14)]) S)
noncomputable def TK133_0e0 (e : En) (S : Zt) (k : SV → Zt → Prop) : Prop :=
 k (e 9) S
noncomputable def TK133_1e2 (e : En) (S : Zt) (k : SV → Zt → Prop) : Prop :=
 wpO (ldS y99 S (e 4)) fun v24 =>
 wpO (ldS y99 S (e 4)) fun v25 =>
 wpO (faS cT y99 (e 4) 0) fun v26 =>
 wpO (ldS y25 S v26) fun v27 =>
 wpO (bnS .sub (some y25) v27 (.int .u64 (1))) fun v28 =>
 wpO (bnS .quo (some y25) v28 (.int .u64 (2))) fun v29 =>
 wpO (cW cT 130 [v25, (e 10), v29, (e 3)] S) fun p30 =>
 wpO (bslS y25 1 [(0, (.int .u64 (1)))] p30.2) fun p31 =>
 wpO (cW cT 131 [v24, p30.1, p31.1] p31.2) fun p32 =>
 k p32.1 p32.2
theorem F133_ok{x0 x1 x2 x3:SV}{S:Zt}{k:SV→Zt→Prop}(h:F133 x0 x1 x2 x3 S k):wpO (bW cT 133 [x0,x1,x2,x3] S) (fun p=>k p.1 p.2):=bo (fn:=Tryz.f133) (by kernel_rfl) (by kernel_rfl) (Nat.le_of_ble_eq_true (by kernel_rfl)) ((show F133 x0 x1 x2 x3 S k=wpC cT Tryz.f133.ntmps B133 (argE [x0,x1,x2,x3]) S (outP cT Tryz.f133 k)by kernel_rfl).mp h)
theorem L133_0_ok{e:En}{S:Zt}{k:X→En→Zt→Prop}(h:TL133_0 e S k):DenP cT 63 (.loop L133_0) e S k:=loopP_of ((show TL133_0 e S k=wpC cT 63 L133_0 e S (againP cT 63 L133_0 k)by kernel_rfl).mp h)
theorem L133_1_ok{e:En}{S:Zt}{k:X→En→Zt→Prop}(h:TL133_1 e S k):DenP cT 63 (.loop L133_1) e S k:=loopP_of ((show TL133_1 e S k=wpC cT 63 L133_1 e S (againP cT 63 L133_1 k)by kernel_rfl).mp h)
theorem K133_0e0_ok{e:En}{S:Zt}{k:SV→Zt→Prop}(h:TK133_0e0 e S k):K133_0 k (.exit 0) e S:=(show TK133_0e0 e S k=K133_0 k (.exit 0) e S by kernel_rfl).mp h
theorem K133_1e2_ok{e:En}{S:Zt}{k:SV→Zt→Prop}(h:TK133_1e2 e S k):K133_1 k (.exit 2) e S:=(show TK133_1e2 e S k=K133_1 k (.exit 2) e S by kernel_rfl).mp h
noncomputable abbrev B128:Code:=bodyOf Tryz.f128
noncomputable def L128_0:Code:=cA [1,1,0,1,0,0] B128
noncomputable def K128_0(k:SV→Zt→Prop):X→En→Zt→Prop:=cont cT 32 [1,1,0,1,0] B128 (outP cT Tryz.f128 k)
noncomputable def F128 (x0 x1 : SV) (S : Zt) (k : SV → Zt → Prop) : Prop :=
 wpO (alS x0 S) fun p0 =>
 DenP cT 32 (.loop L128_0) (ups (argE [x0, x1]) [(2, p0.1), (4, (.vsl [] .nil)), (5, (.vsl [] .nil)), (6, (.int .i64 1))]) p0.2 (K128_0 k)
noncomputable def TL128_0 (e : En) (S : Zt) (k : X → En → Zt → Prop) : Prop :=
 wpO (lenS y100 (e 1)) fun v1 =>
 wpO (bnS .lss (some y3) (e 6) v1) fun v2 =>
 condP v2
 (wpO (convS y25 (e 6)) fun v3 =>
 wpO (faS cT y99 (e 2) 0) fun v4 =>
 wpO (ldS y25 S v4) fun v5 =>
 wpO (bnS .rem (some y25) v3 v5) fun v6 =>
 wpO (ixS cT y100 (e 1) (e 6)) fun v7 =>
 wpO (ldS y25 S v7) fun v8 =>
 wpO (bnS .mul (some y25) v6 v8) fun v9 =>
 wpO (faS cT y99 (e 2) 0) fun v10 =>
 wpO (ldS y25 S v10) fun v11 =>
 wpO (bnS .rem (some y25) v9 v11) fun v12 =>
 wpO (bslS y25 1 [(0, v12)] S) fun p13 =>
 wpO (appS y25 p13.2 (e 5) p13.1) fun p14 =>
 wpO (bnS .add (some y3) (e 6) (.int .i64 1)) fun v15 =>
 DenP cT 32 (.loop L128_0) (ups e [(7, (e 6)), (8, (e 1)), (9, v1), (10, v2), (13, (e 5)), (14, (e 6)), (15, v3), (16, v4), (17, v5), (18, v6), (19, (e 1)), (20, (e 6)), (21, v7), (22, v8), (23, v9), (24, v10), (25, v11), (26, v12), (27, p13.1), (28, p14.1), (5, p14.1), (11, (e 6)), (12, v15), (6, v15)]) p14.2 k)
 (k (.exit 0) (ups e [(7, (e 6)), (8, (e 1)), (9, v1), (10, v2)]) S)
noncomputable def TK128_0e0 (e : En) (S : Zt) (k : SV → Zt → Prop) : Prop :=
 wpO (ldS y99 S (e 2)) fun v16 =>
 wpO (cW cT 59 [v16, (e 5)] S) fun p17 =>
 k p17.1 p17.2
theorem F128_ok{x0 x1:SV}{S:Zt}{k:SV→Zt→Prop}(h:F128 x0 x1 S k):wpO (bW cT 128 [x0,x1] S) (fun p=>k p.1 p.2):=bo (fn:=Tryz.f128) (by kernel_rfl) (by kernel_rfl) (Nat.le_of_ble_eq_true (by kernel_rfl)) ((show F128 x0 x1 S k=wpC cT Tryz.f128.ntmps B128 (argE [x0,x1]) S (outP cT Tryz.f128 k)by kernel_rfl).mp h)
theorem L128_0_ok{e:En}{S:Zt}{k:X→En→Zt→Prop}(h:TL128_0 e S k):DenP cT 32 (.loop L128_0) e S k:=loopP_of ((show TL128_0 e S k=wpC cT 32 L128_0 e S (againP cT 32 L128_0 k)by kernel_rfl).mp h)
theorem K128_0e0_ok{e:En}{S:Zt}{k:SV→Zt→Prop}(h:TK128_0e0 e S k):K128_0 k (.exit 0) e S:=(show TK128_0e0 e S k=K128_0 k (.exit 0) e S by kernel_rfl).mp h
noncomputable abbrev B61:Code:=bodyOf Tryz.f61
noncomputable def L61_0:Code:=cA [1,1,1,0,1,0,0] B61
noncomputable def K61_0(k:SV→Zt→Prop):X→En→Zt→Prop:=cont cT 59 [1,1,1,0,1,0] B61 (outP cT Tryz.f61 k)
noncomputable def F61 (x0 x1 x2 : SV) (S : Zt) (k : SV → Zt → Prop) : Prop :=
 wpO (alS x0 S) fun p0 =>
 wpO (bslS y25 2 [(0, (.int .u64 (0))), (1, (.int .u64 (1)))] p0.2) fun p1 =>
 DenP cT 59 (.loop L61_0) (ups (argE [x0, x1, x2]) [(3, p0.1), (10, p1.1), (6, p1.1), (11, p1.1), (7, p1.1), (8, (.int .i64 1))]) p1.2 (K61_0 k)
noncomputable def TL61_0 (e : En) (S : Zt) (k : X → En → Zt → Prop) : Prop :=
 wpO (lenS y100 (e 1)) fun v2 =>
 wpO (bnS .mul (some y3) (.int .i64 2) (e 8)) fun v3 =>
 wpO (bnS .gtr (some y3) v2 v3) fun v4 =>
 condP v4
 (wpO (ldS y99 S (e 3)) fun v5 =>
 wpO (faS cT y99 (e 3) 0) fun v6 =>
 wpO (ldS y25 S v6) fun v7 =>
 wpO (cW cT 130 [v5, (e 7), v7, (e 1)] S) fun p8 =>
 wpO (ldS y99 p8.2 (e 3)) fun v9 =>
 wpO (ldS y99 p8.2 (e 3)) fun v10 =>
 wpO (cW cT 131 [v10, p8.1, (e 6)] p8.2) fun p11 =>
 wpO (cW cT 98 [v9, (e 1), p11.1] p11.2) fun p12 =>
 wpO (lenS y100 p12.1) fun v13 =>
 wpO (bnS .gtr (some y3) v13 (.int .i64 1)) fun v14 =>
 condP v14
 (wpO (applyS (cW cT) (rW cT) (e 2) [p12.1, (e 8)] p12.2) fun p15 =>
 wpO (ldS y99 p15.2 (e 3)) fun v16 =>
 wpO (cW cT 129 [v16, (e 1), p12.1] p15.2) fun p17 =>
 wpO (lenS y100 p17.1) fun v18 =>
 wpO (bnS .lss (some y3) v18 (.int .i64 2)) fun v19 =>
 condP v19
 (k .ret (ups e [(12, (e 1)), (13, v2), (14, (e 8)), (15, v3), (16, v4), (19, v5), (20, (e 7)), (21, v6), (22, v7), (23, (e 1)), (24, p8.1), (7, p8.1), (25, v9), (26, (e 1)), (27, v10), (28, p8.1), (29, (e 6)), (30, p11.1), (31, p12.1), (9, p12.1), (32, p12.1), (33, v13), (34, v14), (35, (e 2)), (36, p12.1), (37, (e 8)), (38, p15.1), (39, v16), (40, (e 1)), (41, p12.1), (42, p17.1), (1, p17.1), (43, p17.1), (44, v18), (45, v19)]) p17.2)
 (wpO (ldS y99 p17.2 (e 3)) fun v20 =>
 wpO (cW cT 132 [v20, p8.1, p17.1] p17.2) fun p21 =>
 wpO (bnS .add (some y3) (e 8) (.int .i64 1)) fun v22 =>
 DenP cT 59 (.loop L61_0) (ups e [(12, (e 1)), (13, v2), (14, (e 8)), (15, v3), (16, v4), (19, v5), (20, (e 7)), (21, v6), (22, v7), (23, (e 1)), (24, p8.1), (7, p8.1), (25, v9), (26, (e 1)), (27, v10), (28, p8.1), (29, (e 6)), (30, p11.1), (31, p12.1), (9, p12.1), (32, p12.1), (33, v13), (34, v14), (35, (e 2)), (36, p12.1), (37, (e 8)), (38, p15.1), (39, v16), (40, (e 1)), (41, p12.1), (42, p17.1), (1, p17.1), (43, p17.1), (44, v18), (45, v19), (46, v20), (47, p8.1), (48, p17.1), (49, p21.1), (7, p21.1), (17, (e 8)), (18, v22), (8, v22)]) p21.2 k))
 (wpO (bnS .add (some y3) (e 8) (.int .i64 1)) fun v23 =>
 DenP cT 59 (.loop L61_0) (ups e [(12, (e 1)), (13, v2), (14, (e 8)), (15, v3), (16, v4), (19, v5), (20, (e 7)), (21, v6), (22, v7), (23, (e 1)), (24, p8.1), (7, p8.1), (25, v9), (26, (e 1)), (27, v10), (28, p8.1), (29, (e 6)), (30, p11.1), (31, p12.1), (9, p12.1), (32, p12.1), (33, v13), (34, v14), (17, (e 8)), (18, v23), (8, v23)]) p12.2 k))
 (k (.exit 0) (ups e [(12, (e 1)), (13, v2), (14, (e 8)), (15, v3), (16, v4)]) S)
noncomputable def TK61_0e0 (e : En) (S : Zt) (k : SV → Zt → Prop) : Prop :=
 wpO (lenS y100 (e 1)) fun v24 =>
 wpO (bnS .gtr (some y3) v24 (.int .i64 1)) fun v25 =>
 condP v25
 (wpO (lenS y100 (e 1)) fun v26 =>
 wpO (bnS .sub (some y3) v26 (.int .i64 1)) fun v27 =>
 wpO (applyS (cW cT) (rW cT) (e 2) [(e 1), v27] S) fun p28 =>
 k (.tup []) p28.2)
 (k (.tup []) S)
noncomputable def TK61_0r (e : En) (S : Zt) (k : SV → Zt → Prop) : Prop :=
 k (.tup []) S
theorem F61_ok{x0 x1 x2:SV}{S:Zt}{k:SV→Zt→Prop}(h:F61 x0 x1 x2 S k):wpO (bW cT 61 [x0,x1,x2] S) (fun p=>k p.1 p.2):=bo (fn:=Tryz.f61) (by kernel_rfl) (by kernel_rfl) (Nat.le_of_ble_eq_true (by kernel_rfl)) ((show F61 x0 x1 x2 S k=wpC cT Tryz.f61.ntmps B61 (argE [x0,x1,x2]) S (outP cT Tryz.f61 k)by kernel_rfl).mp h)
theorem L61_0_ok{e:En}{S:Zt}{k:X→En→Zt→Prop}(h:TL61_0 e S k):DenP cT 59 (.loop L61_0) e S k:=loopP_of ((show TL61_0 e S k=wpC cT 59 L61_0 e S (againP cT 59 L61_0 k)by kernel_rfl).mp h)
theorem K61_0e0_ok{e:En}{S:Zt}{k:SV→Zt→Prop}(h:TK61_0e0 e S k):K61_0 k (.exit 0) e S:=(show TK61_0e0 e S k=K61_0 k (.exit 0) e S by kernel_rfl).mp h
theorem K61_0r_ok{e:En}{S:Zt}{k:SV→Zt→Prop}(h:TK61_0r e S k):K61_0 k .ret e S:=(show TK61_0r e S k=K61_0 k .ret e S by kernel_rfl).mp h
noncomputable abbrev B60:Code:=bodyOf Tryz.f60
noncomputable def L60_0:Code:=cA [1,1,1,0,1,0,1,0,1,0,0] B60
noncomputable def K60_0(k:SV→Zt→Prop):X→En→Zt→Prop:=cont cT 50 [1,1,1,0,1,0,1,0,1,0] B60 (outP cT Tryz.f60 k)
noncomputable def F60 (x0 x1 : SV) (S : Zt) (k : SV → Zt → Prop) : Prop :=
 wpO (alS x0 S) fun p0 =>
 wpO (lenS y100 x1) fun v1 =>
 wpO (bnS .lss (some y3) v1 (.int .i64 2)) fun v2 =>
 condP v2
 (k (.vsl [] .nil) p0.2)
 (wpO (ldS y99 p0.2 p0.1) fun v3 =>
 wpO (cW cT 128 [v3, x1] p0.2) fun p4 =>
 wpO (lenS y100 p4.1) fun v5 =>
 wpO (bnS .eql (some y3) v5 (.int .i64 0)) fun v6 =>
 condP v6
 (DenP cT 50 (.loop L60_0) (ups (argE [x0, x1]) [(2, p0.1), (4, (.vsl [] .nil)), (9, x1), (10, v1), (11, v2), (12, v3), (13, x1), (14, p4.1), (5, p4.1), (15, p4.1), (16, v5), (17, v6), (6, (.vsl [] .nil)), (7, (.int .i64 0))]) p4.2 (K60_0 k))
 (wpO (ldS y99 p4.2 p0.1) fun v7 =>
 wpO (cW cT 98 [v7, x1, p4.1] p4.2) fun p8 =>
 wpO (ldS y99 p8.2 p0.1) fun v9 =>
 wpO (cW cT 60 [v9, p8.1] p8.2) fun p10 =>
 wpO (ldS y99 p10.2 p0.1) fun v11 =>
 wpO (cW cT 129 [v11, x1, p8.1] p10.2) fun p12 =>
 wpO (bslS y100 1 [(0, p12.1)] p12.2) fun p13 =>
 wpO (appS y100 p13.2 p10.1 p13.1) fun p14 =>
 k p14.1 p14.2))
noncomputable def TL60_0 (e : En) (S : Zt) (k : X → En → Zt → Prop) : Prop :=
 wpO (lenS y100 (e 1)) fun v15 =>
 wpO (bnS .lss (some y3) (e 7) v15) fun v16 =>
 condP v16
 (wpO (ixS cT y100 (e 1) (e 7)) fun v17 =>
 wpO (ldS y25 S v17) fun v18 =>
 wpO (bslS y25 1 [(0, v18)] S) fun p19 =>
 wpO (appS y25 p19.2 (e 6) p19.1) fun p20 =>
 wpO (faS cT y99 (e 2) 0) fun v21 =>
 wpO (ldS y25 p20.2 v21) fun v22 =>
 wpO (convS y3 v22) fun v23 =>
 wpO (bnS .add (some y3) (e 7) v23) fun v24 =>
 DenP cT 50 (.loop L60_0) (ups e [(18, (e 7)), (19, (e 1)), (20, v15), (21, v16), (27, (e 6)), (28, (e 1)), (29, (e 7)), (30, v17), (31, v18), (32, p19.1), (33, p20.1), (6, p20.1), (22, (e 7)), (23, v21), (24, v22), (25, v23), (26, v24), (7, v24)]) p20.2 k)
 (k (.exit 0) (ups e [(18, (e 7)), (19, (e 1)), (20, v15), (21, v16)]) S)
noncomputable def TK60_0e0 (e : En) (S : Zt) (k : SV → Zt → Prop) : Prop :=
 wpO (ldS y99 S (e 2)) fun v25 =>
 wpO (cW cT 60 [v25, (e 6)] S) fun p26 =>
 k p26.1 p26.2
theorem F60_ok{x0 x1:SV}{S:Zt}{k:SV→Zt→Prop}(h:F60 x0 x1 S k):wpO (bW cT 60 [x0,x1] S) (fun p=>k p.1 p.2):=bo (fn:=Tryz.f60) (by kernel_rfl) (by kernel_rfl) (Nat.le_of_ble_eq_true (by kernel_rfl)) ((show F60 x0 x1 S k=wpC cT Tryz.f60.ntmps B60 (argE [x0,x1]) S (outP cT Tryz.f60 k)by kernel_rfl).mp h)
theorem L60_0_ok{e:En}{S:Zt}{k:X→En→Zt→Prop}(h:TL60_0 e S k):DenP cT 50 (.loop L60_0) e S k:=loopP_of ((show TL60_0 e S k=wpC cT 50 L60_0 e S (againP cT 50 L60_0 k)by kernel_rfl).mp h)
theorem K60_0e0_ok{e:En}{S:Zt}{k:SV→Zt→Prop}(h:TK60_0e0 e S k):K60_0 k (.exit 0) e S:=(show TK60_0e0 e S k=K60_0 k (.exit 0) e S by kernel_rfl).mp h
noncomputable abbrev B63:Code:=bodyOf Tryz.f63
noncomputable def L63_0:Code:=cA [1,1,1,0,0] B63
noncomputable def L63_1:Code:=cA [1,1,1,0,0,0,0,1,0,1,0,0] B63
noncomputable def L63_2:Code:=cA [1,1,1,0,0,0,0,1,1,1,0,0] B63
noncomputable def K63_0(k:SV→Zt→Prop):X→En→Zt→Prop:=cont cT 80 [1,1,1,0] B63 (outP cT Tryz.f63 k)
noncomputable def K63_1(k:X→En→Zt→Prop):X→En→Zt→Prop:=cont cT 80 [0,0,1,0,1,0] L63_0 (againP cT 80 L63_0 k)
noncomputable def K63_2(k:X→En→Zt→Prop):X→En→Zt→Prop:=cont cT 80 [0,0,1,1,1,0] L63_0 (againP cT 80 L63_0 k)
noncomputable def F63 (x0 x1 x2 : SV) (S : Zt) (k : SV → Zt → Prop) : Prop :=
 wpO (alS x0 S) fun p0 =>
 wpO (lenS y100 x1) fun v1 =>
 wpO (bnS .sub (some y3) v1 (.int .i64 1)) fun v2 =>
 wpO (bnS .eql (some y3) v2 x2) fun v3 =>
 condP v3
 (wpO (bslS y100 1 [(0, x1)] p0.2) fun p4 =>
 k p4.1 p4.2)
 (wpO (faS cT y99 p0.1 0) fun v5 =>
 wpO (ldS y25 p0.2 v5) fun v6 =>
 DenP cT 80 (.loop L63_0) (ups (argE [x0, x1, x2]) [(3, p0.1), (6, (.vsl [] .nil)), (13, x1), (14, v1), (15, v2), (16, x2), (17, v3), (20, v5), (21, v6), (7, v6)]) p0.2 (K63_0 k))
noncomputable def TL63_0 (e : En) (S : Zt) (k : X → En → Zt → Prop) : Prop :=
 DenP cT 80 (.loop L63_1) (ups e [(8, (.vsl [] .nil)), (24, (e 7)), (9, (e 7))]) S (K63_1 k)
noncomputable def TL63_1 (e : En) (S : Zt) (k : X → En → Zt → Prop) : Prop :=
 wpO (bnS .gtr (some y25) (e 9) (.int .u64 (0))) fun v7 =>
 condP v7
 (wpO (faS cT y99 (e 3) 0) fun v8 =>
 wpO (ldS y25 S v8) fun v9 =>
 wpO (bnS .rem (some y25) (e 9) v9) fun v10 =>
 wpO (bslS y25 1 [(0, v10)] S) fun p11 =>
 wpO (appS y25 p11.2 (e 8) p11.1) fun p12 =>
 wpO (faS cT y99 (e 3) 0) fun v13 =>
 wpO (ldS y25 p12.2 v13) fun v14 =>
 wpO (bnS .quo (some y25) (e 9) v14) fun v15 =>
 DenP cT 80 (.loop L63_1) (ups e [(25, (e 9)), (26, v7), (31, (e 8)), (32, (e 9)), (33, v8), (34, v9), (35, v10), (36, p11.1), (37, p12.1), (8, p12.1), (27, (e 9)), (28, v13), (29, v14), (30, v15), (9, v15)]) p12.2 k)
 (k (.exit 2) (ups e [(25, (e 9)), (26, v7)]) S)
noncomputable def TK63_0r (e : En) (S : Zt) (k : SV → Zt → Prop) : Prop :=
 k (e 6) S
noncomputable def TK63_1e2 (e : En) (S : Zt) (k : X → En → Zt → Prop) : Prop :=
 wpO (ldS y99 S (e 3)) fun v16 =>
 wpO (cW cT 133 [v16, (e 8), (e 2), (e 1)] S) fun p17 =>
 wpO (bslS y100 2 [(0, (e 8)), (1, p17.1)] p17.2) fun p18 =>
 wpO (lenS y102 p18.1) fun v19 =>
 DenP cT 80 (.loop L63_2) (ups e [(38, (e 8)), (39, v16), (40, (e 8)), (41, (e 2)), (42, (e 1)), (43, p17.1), (44, p18.1), (45, v19), (46, (.int .i64 0))]) p18.2 (K63_2 k)
noncomputable def TL63_2 (e : En) (S : Zt) (k : X → En → Zt → Prop) : Prop :=
 wpO (bnS .lss (some y3) (e 46) (e 45)) fun v20 =>
 condP v20
 (wpO (ixS cT y102 (e 44) (e 46)) fun v21 =>
 wpO (ldS y100 S v21) fun v22 =>
 wpO (ldS y99 S (e 3)) fun v23 =>
 wpO (ldS y99 S (e 3)) fun v24 =>
 wpO (cW cT 132 [v24, v22, (e 1)] S) fun p25 =>
 wpO (cW cT 98 [v23, (e 1), p25.1] p25.2) fun p26 =>
 wpO (lenS y100 p26.1) fun v27 =>
 wpO (bnS .gtr (some y3) v27 (.int .i64 1)) fun v28 =>
 grdP (some v28) true (fun k => k p26.1 p26.2) p26.2 fun v29 S30 =>
 grdP (some v28) true (fun k => wpO (lenS y100 v29) fun v31 => k v31 S30) S30 fun v32 S33 =>
 grdP (some v28) true (fun k => k (e 1) S33) S33 fun v34 S35 =>
 grdP (some v28) true (fun k => wpO (lenS y100 v34) fun v36 => k v36 S35) S35 fun v37 S38 =>
 grdP (some v28) true (fun k => wpO (bnS .lss (some y3) v32 v37) fun v39 => k v39 S38) S38 fun v40 S41 =>
 wpO (pickS v28 v40 (.bool false)) fun v42 =>
 condP v42
 (wpO (ldS y99 S41 (e 3)) fun v43 =>
 wpO (cW cT 63 [v43, p26.1, (e 2)] S41) fun p44 =>
 wpO (ldS y99 p44.2 (e 3)) fun v45 =>
 wpO (ldS y99 p44.2 (e 3)) fun v46 =>
 wpO (cW cT 129 [v46, (e 1), p26.1] p44.2) fun p47 =>
 wpO (cW cT 63 [v45, p47.1, (e 2)] p47.2) fun p48 =>
 wpO (appS y100 p48.2 p44.1 p48.1) fun p49 =>
 k .ret (ups e [(47, v20), (48, v21), (49, v22), (11, v22), (50, v23), (51, (e 1)), (52, v24), (53, v22), (54, (e 1)), (55, p25.1), (56, p26.1), (12, p26.1), (57, p26.1), (58, v27), (59, v28), (60, v28), (61, v29), (62, v32), (63, v34), (64, v37), (65, v40), (66, v42), (67, v43), (68, p26.1), (69, (e 2)), (70, p44.1), (71, v45), (72, v46), (73, (e 1)), (74, p26.1), (75, p47.1), (76, (e 2)), (77, p48.1), (78, p49.1), (6, p49.1)]) p49.2)
 (wpO (bnS .add (some y3) (e 46) (.int .i64 1)) fun v50 =>
 DenP cT 80 (.loop L63_2) (ups e [(47, v20), (48, v21), (49, v22), (11, v22), (50, v23), (51, (e 1)), (52, v24), (53, v22), (54, (e 1)), (55, p25.1), (56, p26.1), (12, p26.1), (57, p26.1), (58, v27), (59, v28), (60, v28), (61, v29), (62, v32), (63, v34), (64, v37), (65, v40), (66, v42), (79, v50), (46, v50)]) S41 k))
 (k (.exit 4) (ups e [(47, v20)]) S)
noncomputable def TK63_2e4 (e : En) (S : Zt) (k : X → En → Zt → Prop) : Prop :=
 wpO (bnS .add (some y25) (e 7) (.int .u64 (1))) fun v51 =>
 DenP cT 80 (.loop L63_0) (ups e [(22, (e 7)), (23, v51), (7, v51)]) S k
noncomputable def TK63_2r (e : En) (S : Zt) (k : X → En → Zt → Prop) : Prop :=
 k .ret e S
theorem F63_ok{x0 x1 x2:SV}{S:Zt}{k:SV→Zt→Prop}(h:F63 x0 x1 x2 S k):wpO (bW cT 63 [x0,x1,x2] S) (fun p=>k p.1 p.2):=bo (fn:=Tryz.f63) (by kernel_rfl) (by kernel_rfl) (Nat.le_of_ble_eq_true (by kernel_rfl)) ((show F63 x0 x1 x2 S k=wpC cT Tryz.f63.ntmps B63 (argE [x0,x1,x2]) S (outP cT Tryz.f63 k)by kernel_rfl).mp h)
theorem L63_0_ok{e:En}{S:Zt}{k:X→En→Zt→Prop}(h:TL63_0 e S k):DenP cT 80 (.loop L63_0) e S k:=loopP_of ((show TL63_0 e S k=wpC cT 80 L63_0 e S (againP cT 80 L63_0 k)by kernel_rfl).mp h)
theorem L63_1_ok{e:En}{S:Zt}{k:X→En→Zt→Prop}(h:TL63_1 e S k):DenP cT 80 (.loop L63_1) e S k:=loopP_of ((show TL63_1 e S k=wpC cT 80 L63_1 e S (againP cT 80 L63_1 k)by kernel_rfl).mp h)
theorem K63_0r_ok{e:En}{S:Zt}{k:SV→Zt→Prop}(h:TK63_0r e S k):K63_0 k .ret e S:=(show TK63_0r e S k=K63_0 k .ret e S by kernel_rfl).mp h
theorem K63_1e2_ok{e:En}{S:Zt}{k:X→En→Zt→Prop}(h:TK63_1e2 e S k):K63_1 k (.exit 2) e S:=(show TK63_1e2 e S k=K63_1 k (.exit 2) e S by kernel_rfl).mp h
theorem L63_2_ok{e:En}{S:Zt}{k:X→En→Zt→Prop}(h:TL63_2 e S k):DenP cT 80 (.loop L63_2) e S k:=loopP_of ((show TL63_2 e S k=wpC cT 80 L63_2 e S (againP cT 80 L63_2 k)by kernel_rfl).mp h)
theorem K63_2e4_ok{e:En}{S:Zt}{k:X→En→Zt→Prop}(h:TK63_2e4 e S k):K63_2 k (.exit 4) e S:=(show TK63_2e4 e S k=K63_2 k (.exit 4) e S by kernel_rfl).mp h
theorem K63_2r_ok{e:En}{S:Zt}{k:X→En→Zt→Prop}(h:TK63_2r e S k):K63_2 k .ret e S:=(show TK63_2r e S k=K63_2 k .ret e S by kernel_rfl).mp h
noncomputable abbrev B11:Code:=bodyOf Tryz.f11
noncomputable def L11_0:Code:=cA [1,1,1,1,1,1,0,1,0,0] B11
noncomputable def K11_0(k:SV→Zt→Prop):X→En→Zt→Prop:=cont cT 40 [1,1,1,1,1,1,0,1,0] B11 (outP cT Tryz.f11 k)
noncomputable def F11 (x0 x1 : SV) (S : Zt) (k : SV → Zt → Prop) : Prop :=
 wpO (cW cT 57 [x1] S) fun p0 =>
 wpO (unS .not p0.1) fun v1 =>
 condP v1
 (k (.tup [(.vsl [] .nil), (.int .i64 1)]) p0.2)
 (wpO (buildS cT y99 [(0, x1)]) fun v2 =>
 wpO (alS y99.zero p0.2) fun p3 =>
 wpO (stS y99 p3.2 p3.1 v2) fun S4 =>
 wpO (ldS y99 S4 p3.1) fun v5 =>
 wpO (ldS y99 S4 p3.1) fun v6 =>
 wpO (cW cT 59 [v6, x0] S4) fun p7 =>
 wpO (cW cT 58 [v5, p7.1] p7.2) fun p8 =>
 wpO (alS y100.zero p8.2) fun p9 =>
 wpO (stS y100 p9.2 p9.1 p8.1) fun S10 =>
 wpO (ldS y100 S10 p9.1) fun v11 =>
 wpO (lenS y100 v11) fun v12 =>
 wpO (bnS .eql (some y3) v12 (.int .i64 0)) fun v13 =>
 condP v13
 (k (.tup [(.vsl [] .nil), (.int .i64 10)]) S10)
 (wpO (alS y28.zero S10) fun p14 =>
 wpO (ldS y99 p14.2 p3.1) fun v15 =>
 wpO (ldS y100 p14.2 p9.1) fun v16 =>
 wpO (cW cT 60 [v15, v16] p14.2) fun p17 =>
 wpO (lenS y102 p17.1) fun v18 =>
 DenP cT 40 (.loop L11_0) (ups (argE [x0, x1]) [(4, (.vsl [] .nil)), (5, (.int .i64 0)), (11, x1), (12, p0.1), (13, v1), (14, x1), (15, v2), (6, p3.1), (16, v5), (17, v6), (18, x0), (19, p7.1), (20, p8.1), (7, p9.1), (21, v11), (22, v12), (23, v13), (8, p14.1), (24, v15), (25, v16), (26, p17.1), (27, v18), (28, (.int .i64 0))]) p17.2 (K11_0 k)))
noncomputable def TL11_0 (e : En) (S : Zt) (k : X → En → Zt → Prop) : Prop :=
 wpO (bnS .lss (some y3) (e 28) (e 27)) fun v19 =>
 condP v19
 (wpO (ixS cT y102 (e 26) (e 28)) fun v20 =>
 wpO (ldS y100 S v20) fun v21 =>
 wpO (ldS y99 S (e 6)) fun v22 =>
 wpO (cW cT 61 [v22, v21, (.fn 62 [] [(e 6), (e 7), (e 8)])] S) fun p23 =>
 wpO (bnS .add (some y3) (e 28) (.int .i64 1)) fun v24 =>
 DenP cT 40 (.loop L11_0) (ups e [(29, v19), (30, v20), (31, v21), (10, v21), (32, v22), (33, v21), (34, (.fn 62 [] [(e 6), (e 7), (e 8)])), (35, p23.1), (36, v24), (28, v24)]) p23.2 k)
 (k (.exit 0) (ups e [(29, v19)]) S)
noncomputable def TK11_0e0 (e : En) (S : Zt) (k : SV → Zt → Prop) : Prop :=
 wpO (ldS y28 S (e 8)) fun v25 =>
 wpO (cW cT 65 [v25, (.fn 66 [] [])] S) fun p26 =>
 wpO (ldS y28 p26.2 (e 8)) fun v27 =>
 k (.tup [v27, (.int .i64 0)]) p26.2
theorem F11_ok{x0 x1:SV}{S:Zt}{k:SV→Zt→Prop}(h:F11 x0 x1 S k):wpO (bW cT 11 [x0,x1] S) (fun p=>k p.1 p.2):=bo (fn:=Tryz.f11) (by kernel_rfl) (by kernel_rfl) (Nat.le_of_ble_eq_true (by kernel_rfl)) ((show F11 x0 x1 S k=wpC cT Tryz.f11.ntmps B11 (argE [x0,x1]) S (outP cT Tryz.f11 k)by kernel_rfl).mp h)
theorem L11_0_ok{e:En}{S:Zt}{k:X→En→Zt→Prop}(h:TL11_0 e S k):DenP cT 40 (.loop L11_0) e S k:=loopP_of ((show TL11_0 e S k=wpC cT 40 L11_0 e S (againP cT 40 L11_0 k)by kernel_rfl).mp h)
theorem K11_0e0_ok{e:En}{S:Zt}{k:SV→Zt→Prop}(h:TK11_0e0 e S k):K11_0 k (.exit 0) e S:=(show TK11_0e0 e S k=K11_0 k (.exit 0) e S by kernel_rfl).mp h
noncomputable abbrev B62:Code:=bodyOf Tryz.f62
noncomputable def L62_0:Code:=cA [1,0,0] B62
noncomputable def L62_1:Code:=cA [1,0,0,1,1,0,0,1,1,0,0,0] B62
noncomputable def K62_0(k:SV→Zt→Prop):X→En→Zt→Prop:=cont cT 48 [1,0] B62 (outP cT Tryz.f62 k)
noncomputable def K62_1(k:X→En→Zt→Prop):X→En→Zt→Prop:=cont cT 48 [1,1,0,0,1,1,0,0] L62_0 (againP cT 48 L62_0 k)
noncomputable def F62 (x0 x1 x2 x3 x4 : SV) (S : Zt) (k : SV → Zt → Prop) : Prop :=
 wpO (ldS y99 S x2) fun v0 =>
 wpO (cW cT 63 [v0, x0, x1] S) fun p1 =>
 wpO (lenS y102 p1.1) fun v2 =>
 DenP cT 48 (.loop L62_0) (ups (argE [x0, x1, x2, x3, x4]) [(12, v0), (13, x0), (14, x1), (15, p1.1), (16, v2), (17, (.int .i64 0))]) p1.2 (K62_0 k)
noncomputable def TL62_0 (e : En) (S : Zt) (k : X → En → Zt → Prop) : Prop :=
 wpO (bnS .lss (some y3) (e 17) (e 16)) fun v3 =>
 condP v3
 (wpO (ixS cT y102 (e 15) (e 17)) fun v4 =>
 wpO (ldS y100 S v4) fun v5 =>
 DenP cT 48 (.loop L62_1) (ups e [(18, v3), (19, v4), (20, v5), (8, v5), (9, (.int .i64 0))]) S (K62_1 k))
 (k (.exit 0) (ups e [(18, v3)]) S)
noncomputable def TL62_1 (e : En) (S : Zt) (k : X → En → Zt → Prop) : Prop :=
 wpO (ldS y100 S (e 3)) fun v6 =>
 wpO (lenS y100 v6) fun v7 =>
 wpO (lenS y100 (e 8)) fun v8 =>
 wpO (bnS .geq (some y3) v7 v8) fun v9 =>
 condP v9
 (wpO (ldS y99 S (e 2)) fun v10 =>
 wpO (ldS y100 S (e 3)) fun v11 =>
 wpO (cW cT 64 [v10, v11, (e 8)] S) fun p12 =>
 wpO (extS p12.1 0) fun v13 =>
 wpO (extS p12.1 1) fun v14 =>
 wpO (lenS y100 v14) fun v15 =>
 wpO (bnS .gtr (some y3) v15 (.int .i64 0)) fun v16 =>
 condP v16
 (k (.exit 2) (ups e [(21, v6), (22, v7), (23, (e 8)), (24, v8), (25, v9), (27, v10), (28, v11), (29, (e 8)), (30, p12.1), (26, p12.1), (31, v13), (32, v14), (10, v13), (11, v14), (33, v14), (34, v15), (35, v16)]) p12.2)
 (wpO (bnS .add (some y3) (e 9) (.int .i64 1)) fun v17 =>
 wpO (stS y100 p12.2 (e 3) v13) fun S18 =>
 DenP cT 48 (.loop L62_1) (ups e [(21, v6), (22, v7), (23, (e 8)), (24, v8), (25, v9), (27, v10), (28, v11), (29, (e 8)), (30, p12.1), (26, p12.1), (31, v13), (32, v14), (10, v13), (11, v14), (33, v14), (34, v15), (35, v16), (36, v13), (37, (e 9)), (38, v17), (9, v17)]) S18 k))
 (k (.exit 2) (ups e [(21, v6), (22, v7), (23, (e 8)), (24, v8), (25, v9)]) S)
noncomputable def TK62_0e0 (e : En) (S : Zt) (k : SV → Zt → Prop) : Prop :=
 k (.tup []) S
noncomputable def TK62_1e2 (e : En) (S : Zt) (k : X → En → Zt → Prop) : Prop :=
 wpO (bnS .gtr (some y3) (e 9) (.int .i64 0)) fun v19 =>
 condP v19
 (wpO (ldS y28 S (e 4)) fun v20 =>
 wpO (buildS cT y33 [(0, (e 8)), (1, (e 9))]) fun v21 =>
 wpO (bslS y33 1 [(0, v21)] S) fun p22 =>
 wpO (appS y33 p22.2 v20 p22.1) fun p23 =>
 wpO (stS y28 p23.2 (e 4) p23.1) fun S24 =>
 wpO (bnS .add (some y3) (e 17) (.int .i64 1)) fun v25 =>
 DenP cT 48 (.loop L62_0) (ups e [(39, (e 9)), (40, v19), (41, v20), (42, (e 8)), (43, (e 9)), (44, v21), (45, p22.1), (46, p23.1), (47, v25), (17, v25)]) S24 k)
 (wpO (bnS .add (some y3) (e 17) (.int .i64 1)) fun v26 =>
 DenP cT 48 (.loop L62_0) (ups e [(39, (e 9)), (40, v19), (47, v26), (17, v26)]) S k)
theorem F62_ok{x0 x1 x2 x3 x4:SV}{S:Zt}{k:SV→Zt→Prop}(h:F62 x0 x1 x2 x3 x4 S k):wpO (bW cT 62 [x0,x1,x2,x3,x4] S) (fun p=>k p.1 p.2):=bo (fn:=Tryz.f62) (by kernel_rfl) (by kernel_rfl) (Nat.le_of_ble_eq_true (by kernel_rfl)) ((show F62 x0 x1 x2 x3 x4 S k=wpC cT Tryz.f62.ntmps B62 (argE [x0,x1,x2,x3,x4]) S (outP cT Tryz.f62 k)by kernel_rfl).mp h)
theorem L62_0_ok{e:En}{S:Zt}{k:X→En→Zt→Prop}(h:TL62_0 e S k):DenP cT 48 (.loop L62_0) e S k:=loopP_of ((show TL62_0 e S k=wpC cT 48 L62_0 e S (againP cT 48 L62_0 k)by kernel_rfl).mp h)
theorem L62_1_ok{e:En}{S:Zt}{k:X→En→Zt→Prop}(h:TL62_1 e S k):DenP cT 48 (.loop L62_1) e S k:=loopP_of ((show TL62_1 e S k=wpC cT 48 L62_1 e S (againP cT 48 L62_1 k)by kernel_rfl).mp h)
theorem K62_0e0_ok{e:En}{S:Zt}{k:SV→Zt→Prop}(h:TK62_0e0 e S k):K62_0 k (.exit 0) e S:=(show TK62_0e0 e S k=K62_0 k (.exit 0) e S by kernel_rfl).mp h
theorem K62_1e2_ok{e:En}{S:Zt}{k:X→En→Zt→Prop}(h:TK62_1e2 e S k):K62_1 k (.exit 2) e S:=(show TK62_1e2 e S k=K62_1 k (.exit 2) e S by kernel_rfl).mp h
noncomputable def qv (v : SV) : Bool := match v with
 | .fn g _ _ => cT.mode g != .inpl
 | _ => false
noncomputable abbrev B180:Code:=bodyOf Tryz.f180
noncomputable def L180_0:Code:=cA [1,0,0] B180
noncomputable def L180_1:Code:=cA [1,0,0,1,0,0,1,0,0] B180
noncomputable def K180_0(k:SV→Zt→Prop):X→En→Zt→Prop:=cont cT 53 [1,0] B180 (outP cT Tryz.f180 k)
noncomputable def K180_1(k:X→En→Zt→Prop):X→En→Zt→Prop:=cont cT 53 [1,0,0,1,0] L180_0 (againP cT 53 L180_0 k)
noncomputable def F180 (x0 x1 x2 x3 : SV) (S : Zt) (k : SV → Zt → Prop) : Prop :=
 wpO (bnS .add (some y3) x1 (.int .i64 1)) fun v0 =>
 DenP cT 53 (.loop L180_0) (ups (argE [x0, x1, x2, x3]) [(10, x1), (11, v0), (8, v0)]) S (K180_0 k)
noncomputable def TL180_0 (e : En) (S : Zt) (k : X → En → Zt → Prop) : Prop :=
 wpO (bnS .lss (some y3) (e 8) (e 2)) fun v1 =>
 condP v1
 (DenP cT 53 (.loop L180_1) (ups e [(12, (e 8)), (13, (e 2)), (14, v1), (17, (e 8)), (9, (e 8))]) S (K180_1 k))
 (k (.exit 0) (ups e [(12, (e 8)), (13, (e 2)), (14, v1)]) S)
noncomputable def TL180_1 (e : En) (S : Zt) (k : X → En → Zt → Prop) : Prop :=
 wpO (bnS .gtr (some y3) (e 9) (e 1)) fun v2 =>
 grdP (some v2) true (fun k => k (e 3) S) S fun v3 S4 =>
 grdP (some v2) true (fun k => k (e 0) S4) S4 fun v5 S6 =>
 grdP (some v2) true (fun k => k (e 9) S6) S6 fun v7 S8 =>
 grdP (some v2) true (fun k => wpO (ixS cT y28 v5 v7) fun v9 => k v9 S8) S8 fun v10 S11 =>
 grdP (some v2) true (fun k => wpO (ldS y33 S11 v10) fun v12 => k v12 S11) S11 fun v13 S14 =>
 grdP (some v2) true (fun k => k (e 0) S14) S14 fun v15 S16 =>
 grdP (some v2) true (fun k => k (e 9) S16) S16 fun v17 S18 =>
 grdP (some v2) true (fun k => wpO (bnS .sub (some y3) v17 (.int .i64 1)) fun v19 => k v19 S18) S18 fun v20 S21 =>
 grdP (some v2) true (fun k => wpO (ixS cT y28 v15 v20) fun v22 => k v22 S21) S21 fun v23 S24 =>
 grdP (some v2) true (fun k => wpO (ldS y33 S24 v23) fun v25 => k v25 S24) S24 fun v26 S27 =>
 bif true && !qv v3 && !true then False else grdP (some v2) true (fun k => wpO (applyS (cW cT) (rW cT) v3 [v13, v26] S27) fun p28 => k p28.1 p28.2) S27 fun v29 S30 =>
 grdP (some v2) true (fun k => wpO (bnS .lss (some y3) v29 (.int .i64 0)) fun v31 => k v31 S30) S30 fun v32 S33 =>
 wpO (pickS v2 v32 (.bool false)) fun v34 =>
 condP v34
 (wpO (bnS .sub (some y3) (e 9) (.int .i64 1)) fun v35 =>
 wpO (bnS .sub (some y3) (e 9) (.int .i64 1)) fun v36 =>
 wpO (ixS cT y28 (e 0) v36) fun v37 =>
 wpO (ldS y33 S33 v37) fun v38 =>
 wpO (ixS cT y28 (e 0) (e 9)) fun v39 =>
 wpO (ldS y33 S33 v39) fun v40 =>
 wpO (ixS cT y28 (e 0) (e 9)) fun v41 =>
 wpO (stS y33 S33 v41 v38) fun S42 =>
 wpO (ixS cT y28 (e 0) v35) fun v43 =>
 wpO (stS y33 S42 v43 v40) fun S44 =>
 wpO (bnS .sub (some y3) (e 9) (.int .i64 1)) fun v45 =>
 DenP cT 53 (.loop L180_1) (ups e [(18, (e 9)), (19, (e 1)), (20, v2), (21, v2), (22, v3), (23, v5), (24, v7), (25, v10), (26, v13), (27, v15), (28, v17), (29, v20), (30, v23), (31, v26), (32, v29), (33, v32), (34, v34), (37, (e 0)), (38, (e 9)), (39, (e 0)), (40, (e 9)), (41, v35), (42, (e 0)), (43, (e 9)), (44, v36), (45, v37), (46, v38), (47, (e 0)), (48, (e 9)), (49, v39), (50, v40), (51, v41), (52, v43), (35, (e 9)), (36, v45), (9, v45)]) S44 k)
 (k (.exit 2) (ups e [(18, (e 9)), (19, (e 1)), (20, v2), (21, v2), (22, v3), (23, v5), (24, v7), (25, v10), (26, v13), (27, v15), (28, v17), (29, v20), (30, v23), (31, v26), (32, v29), (33, v32), (34, v34)]) S33)
noncomputable def TK180_0e0 (e : En) (S : Zt) (k : SV → Zt → Prop) : Prop :=
 k (.tup []) S
noncomputable def TK180_1e2 (e : En) (S : Zt) (k : X → En → Zt → Prop) : Prop :=
 wpO (bnS .add (some y3) (e 8) (.int .i64 1)) fun v46 =>
 DenP cT 53 (.loop L180_0) (ups e [(15, (e 8)), (16, v46), (8, v46)]) S k
theorem F180_ok{x0 x1 x2 x3:SV}{S:Zt}{k:SV→Zt→Prop}(h:F180 x0 x1 x2 x3 S k):wpO (bW cT 180 [x0,x1,x2,x3] S) (fun p=>k p.1 p.2):=bo (fn:=Tryz.f180) (by kernel_rfl) (by kernel_rfl) (Nat.le_of_ble_eq_true (by kernel_rfl)) ((show F180 x0 x1 x2 x3 S k=wpC cT Tryz.f180.ntmps B180 (argE [x0,x1,x2,x3]) S (outP cT Tryz.f180 k)by kernel_rfl).mp h)
theorem L180_0_ok{e:En}{S:Zt}{k:X→En→Zt→Prop}(h:TL180_0 e S k):DenP cT 53 (.loop L180_0) e S k:=loopP_of ((show TL180_0 e S k=wpC cT 53 L180_0 e S (againP cT 53 L180_0 k)by kernel_rfl).mp h)
theorem L180_1_ok{e:En}{S:Zt}{k:X→En→Zt→Prop}(h:TL180_1 e S k):DenP cT 53 (.loop L180_1) e S k:=loopP_of ((show TL180_1 e S k=wpC cT 53 L180_1 e S (againP cT 53 L180_1 k)by kernel_rfl).mp h)
theorem K180_0e0_ok{e:En}{S:Zt}{k:SV→Zt→Prop}(h:TK180_0e0 e S k):K180_0 k (.exit 0) e S:=(show TK180_0e0 e S k=K180_0 k (.exit 0) e S by kernel_rfl).mp h
theorem K180_1e2_ok{e:En}{S:Zt}{k:X→En→Zt→Prop}(h:TK180_1e2 e S k):K180_1 k (.exit 2) e S:=(show TK180_1e2 e S k=K180_1 k (.exit 2) e S by kernel_rfl).mp h
noncomputable abbrev B134:Code:=bodyOf Tryz.f134
noncomputable def L134_0:Code:=cA [1,1,0,0] B134
noncomputable def K134_0(k:SV→Zt→Prop):X→En→Zt→Prop:=cont cT 148 [1,1,0] B134 (outP cT Tryz.f134 k)
noncomputable def F134 (x0 x1 x2 x3 x4 : SV) (S : Zt) (k : SV → Zt → Prop) : Prop :=
 DenP cT 148 (.loop L134_0) (ups (argE [x0, x1, x2, x3, x4]) [(10, (.bool true)), (11, (.bool true))]) S (K134_0 k)
noncomputable def TK134_0r (e : En) (S : Zt) (k : SV → Zt → Prop) : Prop :=
 k (.tup []) S
theorem F134_ok{x0 x1 x2 x3 x4:SV}{S:Zt}{k:SV→Zt→Prop}(h:F134 x0 x1 x2 x3 x4 S k):wpO (bW cT 134 [x0,x1,x2,x3,x4] S) (fun p=>k p.1 p.2):=bo (fn:=Tryz.f134) (by kernel_rfl) (by kernel_rfl) (Nat.le_of_ble_eq_true (by kernel_rfl)) ((show F134 x0 x1 x2 x3 x4 S k=wpC cT Tryz.f134.ntmps B134 (argE [x0,x1,x2,x3,x4]) S (outP cT Tryz.f134 k)by kernel_rfl).mp h)
theorem K134_0r_ok{e:En}{S:Zt}{k:SV→Zt→Prop}(h:TK134_0r e S k):K134_0 k .ret e S:=(show TK134_0r e S k=K134_0 k .ret e S by kernel_rfl).mp h
theorem L134_0_ok{x0 x3 x4:SV}{S:Zt}{k:X→En→Zt→Prop}(h:(wpO (cW cT 180 [x0,(.int .i64 0),(.int .i64 0),x4] S) fun p2=>k .ret (ups (ups (argE [x0,.int .i64 0,.int .i64 0,x3,x4]) [(10,(.bool true)),(11,(.bool true))]) [(21,(.int .i64 0)),(22,(.int .i64 0)),(23,(.int .i64 0)),(12,(.int .i64 0)),(24,(.int .i64 0)),(25,(.bool true)),(26,x0),(27,(.int .i64 0)),(28,(.int .i64 0)),(29,x4),(30,p2.1)]) p2.2)):DenP cT 148 (.loop L134_0) (ups (argE [x0,.int .i64 0,.int .i64 0,x3,x4]) [(10,(.bool true)),(11,(.bool true))]) S k:=loopP_of ((show(wpO (cW cT 180 [x0,(.int .i64 0),(.int .i64 0),x4] S) fun p2=>k .ret (ups (ups (argE [x0,.int .i64 0,.int .i64 0,x3,x4]) [(10,(.bool true)),(11,(.bool true))]) [(21,(.int .i64 0)),(22,(.int .i64 0)),(23,(.int .i64 0)),(12,(.int .i64 0)),(24,(.int .i64 0)),(25,(.bool true)),(26,x0),(27,(.int .i64 0)),(28,(.int .i64 0)),(29,x4),(30,p2.1)]) p2.2)=wpC cT 148 L134_0 (ups (argE [x0,.int .i64 0,.int .i64 0,x3,x4]) [(10,(.bool true)),(11,(.bool true))]) S (againP cT 148 L134_0 k)by kernel_rfl).mp h)
theorem L134_1_ok{x0 x3 x4:SV}{S:Zt}{k:X→En→Zt→Prop}(h:(wpO (cW cT 180 [x0,(.int .i64 0),(.int .i64 1),x4] S) fun p2=>k .ret (ups (ups (argE [x0,.int .i64 0,.int .i64 1,x3,x4]) [(10,(.bool true)),(11,(.bool true))]) [(21,(.int .i64 1)),(22,(.int .i64 0)),(23,(.int .i64 1)),(12,(.int .i64 1)),(24,(.int .i64 1)),(25,(.bool true)),(26,x0),(27,(.int .i64 0)),(28,(.int .i64 1)),(29,x4),(30,p2.1)]) p2.2)):DenP cT 148 (.loop L134_0) (ups (argE [x0,.int .i64 0,.int .i64 1,x3,x4]) [(10,(.bool true)),(11,(.bool true))]) S k:=loopP_of ((show(wpO (cW cT 180 [x0,(.int .i64 0),(.int .i64 1),x4] S) fun p2=>k .ret (ups (ups (argE [x0,.int .i64 0,.int .i64 1,x3,x4]) [(10,(.bool true)),(11,(.bool true))]) [(21,(.int .i64 1)),(22,(.int .i64 0)),(23,(.int .i64 1)),(12,(.int .i64 1)),(24,(.int .i64 1)),(25,(.bool true)),(26,x0),(27,(.int .i64 0)),(28,(.int .i64 1)),(29,x4),(30,p2.1)]) p2.2)=wpC cT 148 L134_0 (ups (argE [x0,.int .i64 0,.int .i64 1,x3,x4]) [(10,(.bool true)),(11,(.bool true))]) S (againP cT 148 L134_0 k)by kernel_rfl).mp h)
theorem L134_2_ok{x0 x3 x4:SV}{S:Zt}{k:X→En→Zt→Prop}(h:(wpO (cW cT 180 [x0,(.int .i64 0),(.int .i64 2),x4] S) fun p2=>k .ret (ups (ups (argE [x0,.int .i64 0,.int .i64 2,x3,x4]) [(10,(.bool true)),(11,(.bool true))]) [(21,(.int .i64 2)),(22,(.int .i64 0)),(23,(.int .i64 2)),(12,(.int .i64 2)),(24,(.int .i64 2)),(25,(.bool true)),(26,x0),(27,(.int .i64 0)),(28,(.int .i64 2)),(29,x4),(30,p2.1)]) p2.2)):DenP cT 148 (.loop L134_0) (ups (argE [x0,.int .i64 0,.int .i64 2,x3,x4]) [(10,(.bool true)),(11,(.bool true))]) S k:=loopP_of ((show(wpO (cW cT 180 [x0,(.int .i64 0),(.int .i64 2),x4] S) fun p2=>k .ret (ups (ups (argE [x0,.int .i64 0,.int .i64 2,x3,x4]) [(10,(.bool true)),(11,(.bool true))]) [(21,(.int .i64 2)),(22,(.int .i64 0)),(23,(.int .i64 2)),(12,(.int .i64 2)),(24,(.int .i64 2)),(25,(.bool true)),(26,x0),(27,(.int .i64 0)),(28,(.int .i64 2)),(29,x4),(30,p2.1)]) p2.2)=wpC cT 148 L134_0 (ups (argE [x0,.int .i64 0,.int .i64 2,x3,x4]) [(10,(.bool true)),(11,(.bool true))]) S (againP cT 148 L134_0 k)by kernel_rfl).mp h)
theorem L134_3_ok{x0 x3 x4:SV}{S:Zt}{k:X→En→Zt→Prop}(h:(wpO (cW cT 180 [x0,(.int .i64 0),(.int .i64 3),x4] S) fun p2=>k .ret (ups (ups (argE [x0,.int .i64 0,.int .i64 3,x3,x4]) [(10,(.bool true)),(11,(.bool true))]) [(21,(.int .i64 3)),(22,(.int .i64 0)),(23,(.int .i64 3)),(12,(.int .i64 3)),(24,(.int .i64 3)),(25,(.bool true)),(26,x0),(27,(.int .i64 0)),(28,(.int .i64 3)),(29,x4),(30,p2.1)]) p2.2)):DenP cT 148 (.loop L134_0) (ups (argE [x0,.int .i64 0,.int .i64 3,x3,x4]) [(10,(.bool true)),(11,(.bool true))]) S k:=loopP_of ((show(wpO (cW cT 180 [x0,(.int .i64 0),(.int .i64 3),x4] S) fun p2=>k .ret (ups (ups (argE [x0,.int .i64 0,.int .i64 3,x3,x4]) [(10,(.bool true)),(11,(.bool true))]) [(21,(.int .i64 3)),(22,(.int .i64 0)),(23,(.int .i64 3)),(12,(.int .i64 3)),(24,(.int .i64 3)),(25,(.bool true)),(26,x0),(27,(.int .i64 0)),(28,(.int .i64 3)),(29,x4),(30,p2.1)]) p2.2)=wpC cT 148 L134_0 (ups (argE [x0,.int .i64 0,.int .i64 3,x3,x4]) [(10,(.bool true)),(11,(.bool true))]) S (againP cT 148 L134_0 k)by kernel_rfl).mp h)
theorem L134_4_ok{x0 x3 x4:SV}{S:Zt}{k:X→En→Zt→Prop}(h:(wpO (cW cT 180 [x0,(.int .i64 0),(.int .i64 4),x4] S) fun p2=>k .ret (ups (ups (argE [x0,.int .i64 0,.int .i64 4,x3,x4]) [(10,(.bool true)),(11,(.bool true))]) [(21,(.int .i64 4)),(22,(.int .i64 0)),(23,(.int .i64 4)),(12,(.int .i64 4)),(24,(.int .i64 4)),(25,(.bool true)),(26,x0),(27,(.int .i64 0)),(28,(.int .i64 4)),(29,x4),(30,p2.1)]) p2.2)):DenP cT 148 (.loop L134_0) (ups (argE [x0,.int .i64 0,.int .i64 4,x3,x4]) [(10,(.bool true)),(11,(.bool true))]) S k:=loopP_of ((show(wpO (cW cT 180 [x0,(.int .i64 0),(.int .i64 4),x4] S) fun p2=>k .ret (ups (ups (argE [x0,.int .i64 0,.int .i64 4,x3,x4]) [(10,(.bool true)),(11,(.bool true))]) [(21,(.int .i64 4)),(22,(.int .i64 0)),(23,(.int .i64 4)),(12,(.int .i64 4)),(24,(.int .i64 4)),(25,(.bool true)),(26,x0),(27,(.int .i64 0)),(28,(.int .i64 4)),(29,x4),(30,p2.1)]) p2.2)=wpC cT 148 L134_0 (ups (argE [x0,.int .i64 0,.int .i64 4,x3,x4]) [(10,(.bool true)),(11,(.bool true))]) S (againP cT 148 L134_0 k)by kernel_rfl).mp h)
theorem L134_5_ok{x0 x3 x4:SV}{S:Zt}{k:X→En→Zt→Prop}(h:(wpO (cW cT 180 [x0,(.int .i64 0),(.int .i64 5),x4] S) fun p2=>k .ret (ups (ups (argE [x0,.int .i64 0,.int .i64 5,x3,x4]) [(10,(.bool true)),(11,(.bool true))]) [(21,(.int .i64 5)),(22,(.int .i64 0)),(23,(.int .i64 5)),(12,(.int .i64 5)),(24,(.int .i64 5)),(25,(.bool true)),(26,x0),(27,(.int .i64 0)),(28,(.int .i64 5)),(29,x4),(30,p2.1)]) p2.2)):DenP cT 148 (.loop L134_0) (ups (argE [x0,.int .i64 0,.int .i64 5,x3,x4]) [(10,(.bool true)),(11,(.bool true))]) S k:=loopP_of ((show(wpO (cW cT 180 [x0,(.int .i64 0),(.int .i64 5),x4] S) fun p2=>k .ret (ups (ups (argE [x0,.int .i64 0,.int .i64 5,x3,x4]) [(10,(.bool true)),(11,(.bool true))]) [(21,(.int .i64 5)),(22,(.int .i64 0)),(23,(.int .i64 5)),(12,(.int .i64 5)),(24,(.int .i64 5)),(25,(.bool true)),(26,x0),(27,(.int .i64 0)),(28,(.int .i64 5)),(29,x4),(30,p2.1)]) p2.2)=wpC cT 148 L134_0 (ups (argE [x0,.int .i64 0,.int .i64 5,x3,x4]) [(10,(.bool true)),(11,(.bool true))]) S (againP cT 148 L134_0 k)by kernel_rfl).mp h)
theorem L134_6_ok{x0 x3 x4:SV}{S:Zt}{k:X→En→Zt→Prop}(h:(wpO (cW cT 180 [x0,(.int .i64 0),(.int .i64 6),x4] S) fun p2=>k .ret (ups (ups (argE [x0,.int .i64 0,.int .i64 6,x3,x4]) [(10,(.bool true)),(11,(.bool true))]) [(21,(.int .i64 6)),(22,(.int .i64 0)),(23,(.int .i64 6)),(12,(.int .i64 6)),(24,(.int .i64 6)),(25,(.bool true)),(26,x0),(27,(.int .i64 0)),(28,(.int .i64 6)),(29,x4),(30,p2.1)]) p2.2)):DenP cT 148 (.loop L134_0) (ups (argE [x0,.int .i64 0,.int .i64 6,x3,x4]) [(10,(.bool true)),(11,(.bool true))]) S k:=loopP_of ((show(wpO (cW cT 180 [x0,(.int .i64 0),(.int .i64 6),x4] S) fun p2=>k .ret (ups (ups (argE [x0,.int .i64 0,.int .i64 6,x3,x4]) [(10,(.bool true)),(11,(.bool true))]) [(21,(.int .i64 6)),(22,(.int .i64 0)),(23,(.int .i64 6)),(12,(.int .i64 6)),(24,(.int .i64 6)),(25,(.bool true)),(26,x0),(27,(.int .i64 0)),(28,(.int .i64 6)),(29,x4),(30,p2.1)]) p2.2)=wpC cT 148 L134_0 (ups (argE [x0,.int .i64 0,.int .i64 6,x3,x4]) [(10,(.bool true)),(11,(.bool true))]) S (againP cT 148 L134_0 k)by kernel_rfl).mp h)
theorem L134_7_ok{x0 x3 x4:SV}{S:Zt}{k:X→En→Zt→Prop}(h:(wpO (cW cT 180 [x0,(.int .i64 0),(.int .i64 7),x4] S) fun p2=>k .ret (ups (ups (argE [x0,.int .i64 0,.int .i64 7,x3,x4]) [(10,(.bool true)),(11,(.bool true))]) [(21,(.int .i64 7)),(22,(.int .i64 0)),(23,(.int .i64 7)),(12,(.int .i64 7)),(24,(.int .i64 7)),(25,(.bool true)),(26,x0),(27,(.int .i64 0)),(28,(.int .i64 7)),(29,x4),(30,p2.1)]) p2.2)):DenP cT 148 (.loop L134_0) (ups (argE [x0,.int .i64 0,.int .i64 7,x3,x4]) [(10,(.bool true)),(11,(.bool true))]) S k:=loopP_of ((show(wpO (cW cT 180 [x0,(.int .i64 0),(.int .i64 7),x4] S) fun p2=>k .ret (ups (ups (argE [x0,.int .i64 0,.int .i64 7,x3,x4]) [(10,(.bool true)),(11,(.bool true))]) [(21,(.int .i64 7)),(22,(.int .i64 0)),(23,(.int .i64 7)),(12,(.int .i64 7)),(24,(.int .i64 7)),(25,(.bool true)),(26,x0),(27,(.int .i64 0)),(28,(.int .i64 7)),(29,x4),(30,p2.1)]) p2.2)=wpC cT 148 L134_0 (ups (argE [x0,.int .i64 0,.int .i64 7,x3,x4]) [(10,(.bool true)),(11,(.bool true))]) S (againP cT 148 L134_0 k)by kernel_rfl).mp h)
theorem L134_8_ok{x0 x3 x4:SV}{S:Zt}{k:X→En→Zt→Prop}(h:(wpO (cW cT 180 [x0,(.int .i64 0),(.int .i64 8),x4] S) fun p2=>k .ret (ups (ups (argE [x0,.int .i64 0,.int .i64 8,x3,x4]) [(10,(.bool true)),(11,(.bool true))]) [(21,(.int .i64 8)),(22,(.int .i64 0)),(23,(.int .i64 8)),(12,(.int .i64 8)),(24,(.int .i64 8)),(25,(.bool true)),(26,x0),(27,(.int .i64 0)),(28,(.int .i64 8)),(29,x4),(30,p2.1)]) p2.2)):DenP cT 148 (.loop L134_0) (ups (argE [x0,.int .i64 0,.int .i64 8,x3,x4]) [(10,(.bool true)),(11,(.bool true))]) S k:=loopP_of ((show(wpO (cW cT 180 [x0,(.int .i64 0),(.int .i64 8),x4] S) fun p2=>k .ret (ups (ups (argE [x0,.int .i64 0,.int .i64 8,x3,x4]) [(10,(.bool true)),(11,(.bool true))]) [(21,(.int .i64 8)),(22,(.int .i64 0)),(23,(.int .i64 8)),(12,(.int .i64 8)),(24,(.int .i64 8)),(25,(.bool true)),(26,x0),(27,(.int .i64 0)),(28,(.int .i64 8)),(29,x4),(30,p2.1)]) p2.2)=wpC cT 148 L134_0 (ups (argE [x0,.int .i64 0,.int .i64 8,x3,x4]) [(10,(.bool true)),(11,(.bool true))]) S (againP cT 148 L134_0 k)by kernel_rfl).mp h)
theorem L134_9_ok{x0 x3 x4:SV}{S:Zt}{k:X→En→Zt→Prop}(h:(wpO (cW cT 180 [x0,(.int .i64 0),(.int .i64 9),x4] S) fun p2=>k .ret (ups (ups (argE [x0,.int .i64 0,.int .i64 9,x3,x4]) [(10,(.bool true)),(11,(.bool true))]) [(21,(.int .i64 9)),(22,(.int .i64 0)),(23,(.int .i64 9)),(12,(.int .i64 9)),(24,(.int .i64 9)),(25,(.bool true)),(26,x0),(27,(.int .i64 0)),(28,(.int .i64 9)),(29,x4),(30,p2.1)]) p2.2)):DenP cT 148 (.loop L134_0) (ups (argE [x0,.int .i64 0,.int .i64 9,x3,x4]) [(10,(.bool true)),(11,(.bool true))]) S k:=loopP_of ((show(wpO (cW cT 180 [x0,(.int .i64 0),(.int .i64 9),x4] S) fun p2=>k .ret (ups (ups (argE [x0,.int .i64 0,.int .i64 9,x3,x4]) [(10,(.bool true)),(11,(.bool true))]) [(21,(.int .i64 9)),(22,(.int .i64 0)),(23,(.int .i64 9)),(12,(.int .i64 9)),(24,(.int .i64 9)),(25,(.bool true)),(26,x0),(27,(.int .i64 0)),(28,(.int .i64 9)),(29,x4),(30,p2.1)]) p2.2)=wpC cT 148 L134_0 (ups (argE [x0,.int .i64 0,.int .i64 9,x3,x4]) [(10,(.bool true)),(11,(.bool true))]) S (againP cT 148 L134_0 k)by kernel_rfl).mp h)
theorem wpOm{α:Type}{o:Option α}{k k':α→Prop}(h:wpO o k)(hk:∀x,k x→k' x):wpO o k':=by
 rw[wpO_iff]at h ⊢
 obtain⟨x,h1,h2⟩:=h
 exact⟨x,h1,hk x h2⟩
theorem L134_short{x0 x3 x4:SV}{S:Zt}{k:SV→Zt→Prop}{n:Nat}(hn:n≤9)(h:wpO (cW cT 180 [x0,(.int .i64 0),(.int .i64 (n:Int)),x4] S) fun p2=>k (.tup []) p2.2) :
  wpO (bW cT 134 [x0,.int .i64 0,.int .i64 (n:Int),x3,x4] S) (fun p=>k p.1 p.2):=by
 refine F134_ok ?_
 unfold F134
 match n,hn,h with
 |0,_,h=>exact L134_0_ok (wpOm h fun p hp=>K134_0r_ok hp)
 |1,_,h=>exact L134_1_ok (wpOm h fun p hp=>K134_0r_ok hp)
 |2,_,h=>exact L134_2_ok (wpOm h fun p hp=>K134_0r_ok hp)
 |3,_,h=>exact L134_3_ok (wpOm h fun p hp=>K134_0r_ok hp)
 |4,_,h=>exact L134_4_ok (wpOm h fun p hp=>K134_0r_ok hp)
 |5,_,h=>exact L134_5_ok (wpOm h fun p hp=>K134_0r_ok hp)
 |6,_,h=>exact L134_6_ok (wpOm h fun p hp=>K134_0r_ok hp)
 |7,_,h=>exact L134_7_ok (wpOm h fun p hp=>K134_0r_ok hp)
 |8,_,h=>exact L134_8_ok (wpOm h fun p hp=>K134_0r_ok hp)
 |9,_,h=>exact L134_9_ok (wpOm h fun p hp=>K134_0r_ok hp)
noncomputable abbrev B189:Code:=bodyOf Tryz.f189
noncomputable def TK189_1n (e : En) (S : Zt) (k : SV → Zt → Prop) : Prop :=
 wpO (convS y5 (e 0)) fun v11 =>
 wpO (indexS cT y9 (.str (ByteArray.mk #[0, 1, 2, 2, 3, 3, 3, 3, 4, 4, 4, 4, 4, 4, 4, 4, 5, 5, 5, 5, 5, 5, 5, 5, 5, 5, 5, 5, 5, 5, 5, 5, 6, 6, 6, 6, 6, 6, 6, 6, 6, 6, 6, 6, 6, 6, 6, 6, 6, 6, 6, 6, 6, 6, 6, 6, 6, 6, 6, 6, 6, 6, 6, 6, 7, 7, 7, 7, 7, 7, 7, 7, 7, 7, 7, 7, 7, 7, 7, 7, 7, 7, 7, 7, 7, 7, 7, 7, 7, 7, 7, 7, 7, 7, 7, 7, 7, 7, 7, 7, 7, 7, 7, 7, 7, 7, 7, 7, 7, 7, 7, 7, 7, 7, 7, 7, 7, 7, 7, 7, 7, 7, 7, 7, 7, 7, 7, 7, 8, 8, 8, 8, 8, 8, 8, 8, 8, 8, 8, 8, 8, 8, 8, 8, 8, 8, 8, 8, 8, 8, 8, 8, 8, 8, 8, 8, 8, 8, 8, 8, 8, 8, 8, 8, 8, 8, 8, 8, 8, 8, 8, 8, 8, 8, 8, 8, 8, 8, 8, 8, 8, 8, 8, 8, 8, 8, 8, 8, 8, 8, 8, 8, 8, 8, 8, 8, 8, 8, 8, 8, 8, 8, 8, 8, 8, 8, 8, 8, 8, 8, 8, 8, 8, 8, 8, 8, 8, 8, 8, 8, 8, 8, 8, 8, 8, 8, 8, 8, 8, 8, 8, 8, 8, 8, 8, 8, 8, 8, 8, 8, 8, 8, 8, 8, 8, 8, 8, 8, 8, 8, 8, 8, 8, 8, 8, 8])) v11) fun v12 =>
 wpO (convS y3 v12) fun v13 =>
 wpO (bnS .add (some y3) (e 2) v13) fun v14 =>
 k v14 S
noncomputable def TK189_0n (e : En) (S : Zt) (k : SV → Zt → Prop) : Prop :=
 wpO (bnS .geq (some y25) (e 0) (.int .u64 (65536))) fun v2 =>
 condP v2
 (wpO (bnS .shr (some y25) (e 0) (.int .u64 (16))) fun v3 =>
 wpO (bnS .add (some y3) (e 2) (.int .i64 16)) fun v4 =>
 wpO (bnS .geq (some y25) v3 (.int .u64 (256))) fun v5 =>
 condP v5
 (wpO (bnS .shr (some y25) v3 (.int .u64 (8))) fun v6 =>
 wpO (bnS .add (some y3) v4 (.int .i64 8)) fun v7 =>
 TK189_1n (ups e [(7, (e 0)), (8, v2), (9, (e 0)), (10, v3), (0, v3), (11, (e 2)), (12, v4), (2, v4), (13, v3), (14, v5), (15, v3), (16, v6), (0, v6), (17, v4), (18, v7), (2, v7)]) S k)
 (TK189_1n (ups e [(7, (e 0)), (8, v2), (9, (e 0)), (10, v3), (0, v3), (11, (e 2)), (12, v4), (2, v4), (13, v3), (14, v5)]) S k))
 (wpO (bnS .geq (some y25) (e 0) (.int .u64 (256))) fun v8 =>
 condP v8
 (wpO (bnS .shr (some y25) (e 0) (.int .u64 (8))) fun v9 =>
 wpO (bnS .add (some y3) (e 2) (.int .i64 8)) fun v10 =>
 TK189_1n (ups e [(7, (e 0)), (8, v2), (13, (e 0)), (14, v8), (15, (e 0)), (16, v9), (0, v9), (17, (e 2)), (18, v10), (2, v10)]) S k)
 (TK189_1n (ups e [(7, (e 0)), (8, v2), (13, (e 0)), (14, v8)]) S k))
noncomputable def F189 (x0 : SV) (S : Zt) (k : SV → Zt → Prop) : Prop :=
 wpO (bnS .geq (some y25) x0 (.int .u64 (4294967296))) fun v0 =>
 condP v0
 (wpO (bnS .shr (some y25) x0 (.int .u64 (32))) fun v1 =>
 TK189_0n (ups (argE [x0]) [(2, (.int .i64 0)), (3, x0), (4, v0), (5, x0), (6, v1), (0, v1), (2, (.int .i64 32))]) S k)
 (TK189_0n (ups (argE [x0]) [(2, (.int .i64 0)), (3, x0), (4, v0)]) S k)
theorem F189_ok{x0:SV}{S:Zt}{k:SV→Zt→Prop}(h:F189 x0 S k):wpO (bW cT 189 [x0] S) (fun p=>k p.1 p.2):=bo (fn:=Tryz.f189) (by kernel_rfl) (by kernel_rfl) (Nat.le_of_ble_eq_true (by kernel_rfl)) ((show F189 x0 S k=wpC cT Tryz.f189.ntmps B189 (argE [x0]) S (outP cT Tryz.f189 k)by kernel_rfl).mp h)
noncomputable abbrev B135:Code:=bodyOf Tryz.f135
noncomputable def F135 (x0 : SV) (S : Zt) (k : SV → Zt → Prop) : Prop :=
 condP (.bool false)
 (wpO (convS y23 x0) fun v0 =>
 wpO (cW cT 188 [v0] S) fun p1 =>
 k p1.1 p1.2)
 (wpO (cW cT 189 [x0] S) fun p2 =>
 k p2.1 p2.2)
theorem F135_ok{x0:SV}{S:Zt}{k:SV→Zt→Prop}(h:F135 x0 S k):wpO (bW cT 135 [x0] S) (fun p=>k p.1 p.2):=bo (fn:=Tryz.f135) (by kernel_rfl) (by kernel_rfl) (Nat.le_of_ble_eq_true (by kernel_rfl)) ((show F135 x0 S k=wpC cT Tryz.f135.ntmps B135 (argE [x0]) S (outP cT Tryz.f135 k)by kernel_rfl).mp h)
end Go.Proofs
