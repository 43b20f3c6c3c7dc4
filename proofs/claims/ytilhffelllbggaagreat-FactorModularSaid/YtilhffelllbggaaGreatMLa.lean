/-
  Functions that the law reaches, laid out (1).
-/
import Derived.Test.YtilhffelllbggaaGreatMG
set_option linter.unusedVariables false
set_option linter.unusedSimpArgs false
set_option maxRecDepth 100000
namespace Go.Proofs
open Go Go.Sh
noncomputable abbrev B13:Code:=bodyOf Tryz.f13
noncomputable def L13_0:Code:=cA [1,1,1,0,1,0,0] B13
noncomputable def K13_0(k:SV→Zt→Prop):X→En→Zt→Prop:=cont cT 37 [1,1,1,0,1,0] B13 (outP cT Tryz.f13 k)
noncomputable def F13 (x0 x1 : SV) (S : Zt) (k : SV → Zt → Prop) : Prop :=
 wpO (bslS y25 2 [(0, (.int .u64 (0))), (1, (.int .u64 (1)))] S) fun p0 =>
 wpO (cW cT 68 [p0.1, x0, x1] p0.2) fun p1 =>
 DenP cT 37 (.loop L13_0) (ups (argE [x0, x1]) [(4, (.bool false)), (8, p0.1), (5, p0.1), (9, p0.1), (10, x0), (11, x1), (12, p1.1), (6, p1.1), (7, (.int .i64 1))]) p1.2 (K13_0 k)
noncomputable def TL13_0 (e : En) (S : Zt) (k : X → En → Zt → Prop) : Prop :=
 wpO (bnS .mul (some y3) (.int .i64 2) (e 7)) fun v2 =>
 wpO (lenS y22 (e 0)) fun v3 =>
 wpO (bnS .lss (some y3) v2 v3) fun v4 =>
 condP v4
 (wpO (cW cT 69 [(e 6), (e 1), (e 0), (e 1)] S) fun p5 =>
 wpO (cW cT 68 [(e 5), (e 0), (e 1)] p5.2) fun p6 =>
 wpO (cW cT 71 [p5.1, p6.1, (e 1)] p6.2) fun p7 =>
 wpO (cW cT 70 [(e 0), p7.1, (e 1)] p7.2) fun p8 =>
 wpO (lenS y22 p8.1) fun v9 =>
 wpO (bnS .neq (some y3) v9 (.int .i64 1)) fun v10 =>
 condP v10
 (k .ret (ups e [(13, (e 7)), (14, v2), (15, (e 0)), (16, v3), (17, v4), (20, (e 6)), (21, (e 1)), (22, (e 0)), (23, (e 1)), (24, p5.1), (6, p5.1), (25, (e 0)), (26, p5.1), (27, (e 5)), (28, (e 0)), (29, (e 1)), (30, p6.1), (31, (e 1)), (32, p7.1), (33, (e 1)), (34, p8.1), (35, v9), (36, v10), (4, (.bool false))]) p8.2)
 (wpO (bnS .add (some y3) (e 7) (.int .i64 1)) fun v11 =>
 DenP cT 37 (.loop L13_0) (ups e [(13, (e 7)), (14, v2), (15, (e 0)), (16, v3), (17, v4), (20, (e 6)), (21, (e 1)), (22, (e 0)), (23, (e 1)), (24, p5.1), (6, p5.1), (25, (e 0)), (26, p5.1), (27, (e 5)), (28, (e 0)), (29, (e 1)), (30, p6.1), (31, (e 1)), (32, p7.1), (33, (e 1)), (34, p8.1), (35, v9), (36, v10), (18, (e 7)), (19, v11), (7, v11)]) p8.2 k))
 (k (.exit 0) (ups e [(13, (e 7)), (14, v2), (15, (e 0)), (16, v3), (17, v4)]) S)
noncomputable def TK13_0e0 (e : En) (S : Zt) (k : SV → Zt → Prop) : Prop :=
 k (.bool true) S
theorem F13_ok{x0 x1:SV}{S:Zt}{k:SV→Zt→Prop}(h:F13 x0 x1 S k):wpO (bW cT 13 [x0,x1] S) (fun p=>k p.1 p.2):=bo (fn:=Tryz.f13) (by kernel_rfl) (by kernel_rfl) (Nat.le_of_ble_eq_true (by kernel_rfl)) ((show F13 x0 x1 S k=wpC cT Tryz.f13.ntmps B13 (argE [x0,x1]) S (outP cT Tryz.f13 k)by kernel_rfl).mp h)
theorem L13_0_ok{e:En}{S:Zt}{k:X→En→Zt→Prop}(h:TL13_0 e S k):DenP cT 37 (.loop L13_0) e S k:=loopP_of ((show TL13_0 e S k=wpC cT 37 L13_0 e S (againP cT 37 L13_0 k)by kernel_rfl).mp h)
theorem K13_0e0_ok{e:En}{S:Zt}{k:SV→Zt→Prop}(h:TK13_0e0 e S k):K13_0 k (.exit 0) e S:=(show TK13_0e0 e S k=K13_0 k (.exit 0) e S by kernel_rfl).mp h
noncomputable abbrev B14:Code:=bodyOf Tryz.f14
noncomputable def L14_0:Code:=cA [1,1,0,1,0,0] B14
noncomputable def K14_0(k:SV→Zt→Prop):X→En→Zt→Prop:=cont cT 41 [1,1,0,1,0] B14 (outP cT Tryz.f14 k)
noncomputable def F14 (x0 x1 : SV) (S : Zt) (k : SV → Zt → Prop) : Prop :=
 wpO (lenS y22 x0) fun v0 =>
 wpO (lenS y22 x1) fun v1 =>
 wpO (bnS .neq (some y3) v0 v1) fun v2 =>
 condP v2
 (wpO (lenS y22 x0) fun v3 =>
 wpO (lenS y22 x1) fun v4 =>
 wpO (bnS .lss (some y3) v3 v4) fun v5 =>
 k v5 S)
 (wpO (lenS y22 x0) fun v6 =>
 wpO (bnS .sub (some y3) v6 (.int .i64 1)) fun v7 =>
 DenP cT 41 (.loop L14_0) (ups (argE [x0, x1]) [(4, (.bool false)), (6, x0), (7, v0), (8, x1), (9, v1), (10, v2), (16, x0), (17, v6), (18, v7), (5, v7)]) S (K14_0 k))
noncomputable def TL14_0 (e : En) (S : Zt) (k : X → En → Zt → Prop) : Prop :=
 wpO (bnS .geq (some y3) (e 5) (.int .i64 0)) fun v8 =>
 condP v8
 (wpO (ixS cT y22 (e 0) (e 5)) fun v9 =>
 wpO (ldS y25 S v9) fun v10 =>
 wpO (ixS cT y22 (e 1) (e 5)) fun v11 =>
 wpO (ldS y25 S v11) fun v12 =>
 wpO (bnS .neq (some y25) v10 v12) fun v13 =>
 condP v13
 (wpO (ixS cT y22 (e 0) (e 5)) fun v14 =>
 wpO (ldS y25 S v14) fun v15 =>
 wpO (ixS cT y22 (e 1) (e 5)) fun v16 =>
 wpO (ldS y25 S v16) fun v17 =>
 wpO (bnS .lss (some y25) v15 v17) fun v18 =>
 k .ret (ups e [(19, (e 5)), (20, v8), (23, (e 0)), (24, (e 5)), (25, v9), (26, v10), (27, (e 1)), (28, (e 5)), (29, v11), (30, v12), (31, v13), (32, (e 0)), (33, (e 5)), (34, v14), (35, v15), (36, (e 1)), (37, (e 5)), (38, v16), (39, v17), (40, v18), (4, v18)]) S)
 (wpO (bnS .sub (some y3) (e 5) (.int .i64 1)) fun v19 =>
 DenP cT 41 (.loop L14_0) (ups e [(19, (e 5)), (20, v8), (23, (e 0)), (24, (e 5)), (25, v9), (26, v10), (27, (e 1)), (28, (e 5)), (29, v11), (30, v12), (31, v13), (21, (e 5)), (22, v19), (5, v19)]) S k))
 (k (.exit 0) (ups e [(19, (e 5)), (20, v8)]) S)
noncomputable def TK14_0e0 (e : En) (S : Zt) (k : SV → Zt → Prop) : Prop :=
 k (.bool false) S
noncomputable def TK14_0r (e : En) (S : Zt) (k : SV → Zt → Prop) : Prop :=
 k (e 4) S
theorem F14_ok{x0 x1:SV}{S:Zt}{k:SV→Zt→Prop}(h:F14 x0 x1 S k):wpO (bW cT 14 [x0,x1] S) (fun p=>k p.1 p.2):=bo (fn:=Tryz.f14) (by kernel_rfl) (by kernel_rfl) (Nat.le_of_ble_eq_true (by kernel_rfl)) ((show F14 x0 x1 S k=wpC cT Tryz.f14.ntmps B14 (argE [x0,x1]) S (outP cT Tryz.f14 k)by kernel_rfl).mp h)
theorem L14_0_ok{e:En}{S:Zt}{k:X→En→Zt→Prop}(h:TL14_0 e S k):DenP cT 41 (.loop L14_0) e S k:=loopP_of ((show TL14_0 e S k=wpC cT 41 L14_0 e S (againP cT 41 L14_0 k)by kernel_rfl).mp h)
theorem K14_0e0_ok{e:En}{S:Zt}{k:SV→Zt→Prop}(h:TK14_0e0 e S k):K14_0 k (.exit 0) e S:=(show TK14_0e0 e S k=K14_0 k (.exit 0) e S by kernel_rfl).mp h
theorem K14_0r_ok{e:En}{S:Zt}{k:SV→Zt→Prop}(h:TK14_0r e S k):K14_0 k .ret e S:=(show TK14_0r e S k=K14_0 k .ret e S by kernel_rfl).mp h
noncomputable abbrev B69:Code:=bodyOf Tryz.f69
noncomputable def L69_0:Code:=cA [1,1,1,0,1,0,0] B69
noncomputable def K69_0(k:SV→Zt→Prop):X→En→Zt→Prop:=cont cT 43 [1,1,1,0,1,0] B69 (outP cT Tryz.f69 k)
noncomputable def F69 (x0 x1 x2 x3 : SV) (S : Zt) (k : SV → Zt → Prop) : Prop :=
 wpO (bslS y25 1 [(0, (.int .u64 (1)))] S) fun p0 =>
 wpO (cW cT 68 [p0.1, x2, x3] p0.2) fun p1 =>
 wpO (cW cT 68 [x0, x2, x3] p1.2) fun p2 =>
 DenP cT 43 (.loop L69_0) (ups (argE [x0, x1, x2, x3]) [(8, (.vsl [] .nil)), (12, p0.1), (13, x2), (14, x3), (15, p1.1), (9, p1.1), (16, x0), (17, x2), (18, x3), (19, p2.1), (10, p2.1), (20, x1), (11, x1)]) p2.2 (K69_0 k)
noncomputable def TL69_0 (e : En) (S : Zt) (k : X → En → Zt → Prop) : Prop :=
 wpO (bnS .gtr (some y25) (e 11) (.int .u64 (0))) fun v3 =>
 condP v3
 (wpO (bnS .rem (some y25) (e 11) (.int .u64 (2))) fun v4 =>
 wpO (bnS .eql (some y25) v4 (.int .u64 (1))) fun v5 =>
 condP v5
 (wpO (cW cT 15 [(e 9), (e 10), (e 3)] S) fun p6 =>
 wpO (cW cT 68 [p6.1, (e 2), (e 3)] p6.2) fun p7 =>
 wpO (cW cT 15 [(e 10), (e 10), (e 3)] p7.2) fun p8 =>
 wpO (cW cT 68 [p8.1, (e 2), (e 3)] p8.2) fun p9 =>
 wpO (bnS .quo (some y25) (e 11) (.int .u64 (2))) fun v10 =>
 DenP cT 43 (.loop L69_0) (ups e [(21, (e 11)), (22, v3), (25, (e 11)), (26, v4), (27, v5), (28, (e 9)), (29, (e 10)), (30, (e 3)), (31, p6.1), (32, (e 2)), (33, (e 3)), (34, p7.1), (9, p7.1), (35, (e 10)), (36, (e 10)), (37, (e 3)), (38, p8.1), (39, (e 2)), (40, (e 3)), (41, p9.1), (10, p9.1), (23, (e 11)), (24, v10), (11, v10)]) p9.2 k)
 (wpO (cW cT 15 [(e 10), (e 10), (e 3)] S) fun p11 =>
 wpO (cW cT 68 [p11.1, (e 2), (e 3)] p11.2) fun p12 =>
 wpO (bnS .quo (some y25) (e 11) (.int .u64 (2))) fun v13 =>
 DenP cT 43 (.loop L69_0) (ups e [(21, (e 11)), (22, v3), (25, (e 11)), (26, v4), (27, v5), (35, (e 10)), (36, (e 10)), (37, (e 3)), (38, p11.1), (39, (e 2)), (40, (e 3)), (41, p12.1), (10, p12.1), (23, (e 11)), (24, v13), (11, v13)]) p12.2 k))
 (k (.exit 0) (ups e [(21, (e 11)), (22, v3)]) S)
noncomputable def TK69_0e0 (e : En) (S : Zt) (k : SV → Zt → Prop) : Prop :=
 k (e 9) S
theorem F69_ok{x0 x1 x2 x3:SV}{S:Zt}{k:SV→Zt→Prop}(h:F69 x0 x1 x2 x3 S k):wpO (bW cT 69 [x0,x1,x2,x3] S) (fun p=>k p.1 p.2):=bo (fn:=Tryz.f69) (by kernel_rfl) (by kernel_rfl) (Nat.le_of_ble_eq_true (by kernel_rfl)) ((show F69 x0 x1 x2 x3 S k=wpC cT Tryz.f69.ntmps B69 (argE [x0,x1,x2,x3]) S (outP cT Tryz.f69 k)by kernel_rfl).mp h)
theorem L69_0_ok{e:En}{S:Zt}{k:X→En→Zt→Prop}(h:TL69_0 e S k):DenP cT 43 (.loop L69_0) e S k:=loopP_of ((show TL69_0 e S k=wpC cT 43 L69_0 e S (againP cT 43 L69_0 k)by kernel_rfl).mp h)
theorem K69_0e0_ok{e:En}{S:Zt}{k:SV→Zt→Prop}(h:TK69_0e0 e S k):K69_0 k (.exit 0) e S:=(show TK69_0e0 e S k=K69_0 k (.exit 0) e S by kernel_rfl).mp h
noncomputable abbrev B85:Code:=bodyOf Tryz.f85
noncomputable def L85_0:Code:=cA [1,1,0,1,0,0] B85
noncomputable def K85_0(k:SV→Zt→Prop):X→En→Zt→Prop:=cont cT 21 [1,1,0,1,0] B85 (outP cT Tryz.f85 k)
noncomputable def F85 (x0 : SV) (S : Zt) (k : SV → Zt → Prop) : Prop :=
 wpO (bnS .lss (some y25) x0 (.int .u64 (2))) fun v0 =>
 grdP (some v0) false (fun k => k x0 S) S fun v1 S2 =>
 grdP (some v0) false (fun k => wpO (bnS .gtr (some y25) v1 (.int .u64 (2147483647))) fun v3 => k v3 S2) S2 fun v4 S5 =>
 wpO (pickS v0 (.bool true) v4) fun v6 =>
 condP v6
 (k (.bool false) S5)
 (DenP cT 21 (.loop L85_0) (ups (argE [x0]) [(2, (.bool false)), (4, x0), (5, v0), (6, v0), (7, v1), (8, v4), (9, v6), (3, (.int .u64 (2)))]) S5 (K85_0 k))
noncomputable def TL85_0 (e : En) (S : Zt) (k : X → En → Zt → Prop) : Prop :=
 wpO (bnS .mul (some y25) (e 3) (e 3)) fun v7 =>
 wpO (bnS .leq (some y25) v7 (e 0)) fun v8 =>
 condP v8
 (wpO (bnS .rem (some y25) (e 0) (e 3)) fun v9 =>
 wpO (bnS .eql (some y25) v9 (.int .u64 (0))) fun v10 =>
 condP v10
 (k .ret (ups e [(10, (e 3)), (11, (e 3)), (12, v7), (13, (e 0)), (14, v8), (17, (e 0)), (18, (e 3)), (19, v9), (20, v10), (2, (.bool false))]) S)
 (wpO (bnS .add (some y25) (e 3) (.int .u64 (1))) fun v11 =>
 DenP cT 21 (.loop L85_0) (ups e [(10, (e 3)), (11, (e 3)), (12, v7), (13, (e 0)), (14, v8), (17, (e 0)), (18, (e 3)), (19, v9), (20, v10), (15, (e 3)), (16, v11), (3, v11)]) S k))
 (k (.exit 0) (ups e [(10, (e 3)), (11, (e 3)), (12, v7), (13, (e 0)), (14, v8)]) S)
noncomputable def TK85_0e0 (e : En) (S : Zt) (k : SV → Zt → Prop) : Prop :=
 k (.bool true) S
noncomputable def TK85_0r (e : En) (S : Zt) (k : SV → Zt → Prop) : Prop :=
 k (e 2) S
theorem F85_ok{x0:SV}{S:Zt}{k:SV→Zt→Prop}(h:F85 x0 S k):wpO (bW cT 85 [x0] S) (fun p=>k p.1 p.2):=bo (fn:=Tryz.f85) (by kernel_rfl) (by kernel_rfl) (Nat.le_of_ble_eq_true (by kernel_rfl)) ((show F85 x0 S k=wpC cT Tryz.f85.ntmps B85 (argE [x0]) S (outP cT Tryz.f85 k)by kernel_rfl).mp h)
theorem L85_0_ok{e:En}{S:Zt}{k:X→En→Zt→Prop}(h:TL85_0 e S k):DenP cT 21 (.loop L85_0) e S k:=loopP_of ((show TL85_0 e S k=wpC cT 21 L85_0 e S (againP cT 21 L85_0 k)by kernel_rfl).mp h)
theorem K85_0e0_ok{e:En}{S:Zt}{k:SV→Zt→Prop}(h:TK85_0e0 e S k):K85_0 k (.exit 0) e S:=(show TK85_0e0 e S k=K85_0 k (.exit 0) e S by kernel_rfl).mp h
theorem K85_0r_ok{e:En}{S:Zt}{k:SV→Zt→Prop}(h:TK85_0r e S k):K85_0 k .ret e S:=(show TK85_0r e S k=K85_0 k .ret e S by kernel_rfl).mp h
noncomputable abbrev B56:Code:=bodyOf Tryz.f56
noncomputable def L56_0:Code:=cA [1,1,1,0,0,0] B56
noncomputable def K56_0(k:SV→Zt→Prop):X→En→Zt→Prop:=cont cT 15 [1,1,1,0,0] B56 (outP cT Tryz.f56 k)
noncomputable def F56 (x0 : SV) (S : Zt) (k : SV → Zt → Prop) : Prop :=
 wpO (bnS .geq (some y25) x0 (.int .u64 (2147483647))) fun v0 =>
 condP v0
 (k (.tup [(.int .u64 (0)), (.int .i64 1)]) S)
 (wpO (bnS .add (some y25) x0 (.int .u64 (1))) fun v1 =>
 DenP cT 15 (.loop L56_0) (ups (argE [x0]) [(2, (.int .u64 (0))), (3, (.int .i64 0)), (5, x0), (6, v0), (7, x0), (8, v1), (4, v1)]) S (K56_0 k))
noncomputable def TL56_0 (e : En) (S : Zt) (k : X → En → Zt → Prop) : Prop :=
 wpO (cW cT 85 [(e 4)] S) fun p2 =>
 wpO (unS .not p2.1) fun v3 =>
 condP v3
 (wpO (bnS .add (some y25) (e 4) (.int .u64 (1))) fun v4 =>
 DenP cT 15 (.loop L56_0) (ups e [(9, (e 4)), (10, p2.1), (11, v3), (12, (e 4)), (13, v4), (4, v4)]) p2.2 k)
 (k (.exit 0) (ups e [(9, (e 4)), (10, p2.1), (11, v3)]) p2.2)
noncomputable def TK56_0e0 (e : En) (S : Zt) (k : SV → Zt → Prop) : Prop :=
 k (.tup [(e 4), (.int .i64 0)]) S
theorem F56_ok{x0:SV}{S:Zt}{k:SV→Zt→Prop}(h:F56 x0 S k):wpO (bW cT 56 [x0] S) (fun p=>k p.1 p.2):=bo (fn:=Tryz.f56) (by kernel_rfl) (by kernel_rfl) (Nat.le_of_ble_eq_true (by kernel_rfl)) ((show F56 x0 S k=wpC cT Tryz.f56.ntmps B56 (argE [x0]) S (outP cT Tryz.f56 k)by kernel_rfl).mp h)
theorem L56_0_ok{e:En}{S:Zt}{k:X→En→Zt→Prop}(h:TL56_0 e S k):DenP cT 15 (.loop L56_0) e S k:=loopP_of ((show TL56_0 e S k=wpC cT 15 L56_0 e S (againP cT 15 L56_0 k)by kernel_rfl).mp h)
theorem K56_0e0_ok{e:En}{S:Zt}{k:SV→Zt→Prop}(h:TK56_0e0 e S k):K56_0 k (.exit 0) e S:=(show TK56_0e0 e S k=K56_0 k (.exit 0) e S by kernel_rfl).mp h
noncomputable abbrev B224:Code:=bodyOf Tryz.f224
noncomputable def L224_0:Code:=cA [1,1,1,0,1,0,0] B224
noncomputable def K224_0(k:SV→Zt→Prop):X→En→Zt→Prop:=cont cT 34 [1,1,1,0,1,0] B224 (outP cT Tryz.f224 k)
noncomputable def F224 (x0 x1 x2 : SV) (S : Zt) (k : SV → Zt → Prop) : Prop :=
 wpO (bnS .rem (some y25) (.int .u64 (1)) x2) fun v0 =>
 wpO (bnS .rem (some y25) x0 x2) fun v1 =>
 DenP cT 34 (.loop L224_0) (ups (argE [x0, x1, x2]) [(6, (.int .u64 (0))), (10, x2), (11, v0), (7, v0), (12, x0), (13, x2), (14, v1), (8, v1), (15, x1), (9, x1)]) S (K224_0 k)
noncomputable def TL224_0 (e : En) (S : Zt) (k : X → En → Zt → Prop) : Prop :=
 wpO (bnS .gtr (some y25) (e 9) (.int .u64 (0))) fun v2 =>
 condP v2
 (wpO (bnS .rem (some y25) (e 9) (.int .u64 (2))) fun v3 =>
 wpO (bnS .eql (some y25) v3 (.int .u64 (1))) fun v4 =>
 condP v4
 (wpO (bnS .mul (some y25) (e 7) (e 8)) fun v5 =>
 wpO (bnS .rem (some y25) v5 (e 2)) fun v6 =>
 wpO (bnS .mul (some y25) (e 8) (e 8)) fun v7 =>
 wpO (bnS .rem (some y25) v7 (e 2)) fun v8 =>
 wpO (bnS .quo (some y25) (e 9) (.int .u64 (2))) fun v9 =>
 DenP cT 34 (.loop L224_0) (ups e [(16, (e 9)), (17, v2), (20, (e 9)), (21, v3), (22, v4), (23, (e 7)), (24, (e 8)), (25, v5), (26, (e 2)), (27, v6), (7, v6), (28, (e 8)), (29, (e 8)), (30, v7), (31, (e 2)), (32, v8), (8, v8), (18, (e 9)), (19, v9), (9, v9)]) S k)
 (wpO (bnS .mul (some y25) (e 8) (e 8)) fun v10 =>
 wpO (bnS .rem (some y25) v10 (e 2)) fun v11 =>
 wpO (bnS .quo (some y25) (e 9) (.int .u64 (2))) fun v12 =>
 DenP cT 34 (.loop L224_0) (ups e [(16, (e 9)), (17, v2), (20, (e 9)), (21, v3), (22, v4), (28, (e 8)), (29, (e 8)), (30, v10), (31, (e 2)), (32, v11), (8, v11), (18, (e 9)), (19, v12), (9, v12)]) S k))
 (k (.exit 0) (ups e [(16, (e 9)), (17, v2)]) S)
noncomputable def TK224_0e0 (e : En) (S : Zt) (k : SV → Zt → Prop) : Prop :=
 k (e 7) S
theorem F224_ok{x0 x1 x2:SV}{S:Zt}{k:SV→Zt→Prop}(h:F224 x0 x1 x2 S k):wpO (bW cT 224 [x0,x1,x2] S) (fun p=>k p.1 p.2):=bo (fn:=Tryz.f224) (by kernel_rfl) (by kernel_rfl) (Nat.le_of_ble_eq_true (by kernel_rfl)) ((show F224 x0 x1 x2 S k=wpC cT Tryz.f224.ntmps B224 (argE [x0,x1,x2]) S (outP cT Tryz.f224 k)by kernel_rfl).mp h)
theorem L224_0_ok{e:En}{S:Zt}{k:X→En→Zt→Prop}(h:TL224_0 e S k):DenP cT 34 (.loop L224_0) e S k:=loopP_of ((show TL224_0 e S k=wpC cT 34 L224_0 e S (againP cT 34 L224_0 k)by kernel_rfl).mp h)
theorem K224_0e0_ok{e:En}{S:Zt}{k:SV→Zt→Prop}(h:TK224_0e0 e S k):K224_0 k (.exit 0) e S:=(show TK224_0e0 e S k=K224_0 k (.exit 0) e S by kernel_rfl).mp h
noncomputable abbrev B155:Code:=bodyOf Tryz.f155
noncomputable def F155 (x0 x1 : SV) (S : Zt) (k : SV → Zt → Prop) : Prop :=
 wpO (bnS .rem (some y25) x0 x1) fun v0 =>
 wpO (bnS .eql (some y25) v0 (.int .u64 (0))) fun v1 =>
 condP v1
 (k (.tup [(.int .u64 (0)), (.int .i64 10)]) S)
 (wpO (bnS .sub (some y25) x1 (.int .u64 (2))) fun v2 =>
 wpO (cW cT 224 [x0, v2, x1] S) fun p3 =>
 k (.tup [p3.1, (.int .i64 0)]) p3.2)
theorem F155_ok{x0 x1:SV}{S:Zt}{k:SV→Zt→Prop}(h:F155 x0 x1 S k):wpO (bW cT 155 [x0,x1] S) (fun p=>k p.1 p.2):=bo (fn:=Tryz.f155) (by kernel_rfl) (by kernel_rfl) (Nat.le_of_ble_eq_true (by kernel_rfl)) ((show F155 x0 x1 S k=wpC cT Tryz.f155.ntmps B155 (argE [x0,x1]) S (outP cT Tryz.f155 k)by kernel_rfl).mp h)
noncomputable abbrev B9:Code:=bodyOf Tryz.f9
noncomputable def F9 (x0 : SV) (S : Zt) (k : SV → Zt → Prop) : Prop :=
 wpO (bnS .rem (some y23) x0 (.int .u32 (2147483000))) fun v0 =>
 wpO (convS y25 v0) fun v1 =>
 wpO (bnS .rem (some y23) x0 (.int .u32 (2))) fun v2 =>
 wpO (bnS .eql (some y23) v2 (.int .u32 (0))) fun v3 =>
 condP v3
 (wpO (bnS .quo (some y25) v1 (.int .u64 (2))) fun v4 =>
 wpO (bnS .rem (some y25) v4 (.int .u64 (30))) fun v5 =>
 wpO (cW cT 56 [v5] S) fun p6 =>
 wpO (extS p6.1 0) fun v7 =>
 wpO (extS p6.1 1) fun v8 =>
 k v7 p6.2)
 (wpO (cW cT 56 [v1] S) fun p9 =>
 wpO (extS p9.1 0) fun v10 =>
 wpO (extS p9.1 1) fun v11 =>
 k v10 p9.2)
theorem F9_ok{x0:SV}{S:Zt}{k:SV→Zt→Prop}(h:F9 x0 S k):wpO (bW cT 9 [x0] S) (fun p=>k p.1 p.2):=bo (fn:=Tryz.f9) (by kernel_rfl) (by kernel_rfl) (Nat.le_of_ble_eq_true (by kernel_rfl)) ((show F9 x0 S k=wpC cT Tryz.f9.ntmps B9 (argE [x0]) S (outP cT Tryz.f9 k)by kernel_rfl).mp h)
noncomputable abbrev B10:Code:=bodyOf Tryz.f10
noncomputable def L10_0:Code:=cA [1,1,0,1,0,0] B10
noncomputable def L10_1:Code:=cA [1,1,1,0,0,0] B10
noncomputable def K10_0(k:SV→Zt→Prop):X→En→Zt→Prop:=cont cT 41 [1,1,0,1,0] B10 (outP cT Tryz.f10 k)
noncomputable def K10_1(k:SV→Zt→Prop):X→En→Zt→Prop:=cont cT 41 [1,1,1,0,0] B10 (outP cT Tryz.f10 k)
noncomputable def F10 (x0 x1 : SV) (S : Zt) (k : SV → Zt → Prop) : Prop :=
 wpO (bslS y25 0 [] S) fun p0 =>
 DenP cT 41 (.loop L10_0) (ups (argE [x0, x1]) [(4, (.vsl [] .nil)), (7, p0.1), (5, p0.1), (6, (.int .i64 0))]) p0.2 (K10_0 k)
noncomputable def TL10_0 (e : En) (S : Zt) (k : X → En → Zt → Prop) : Prop :=
 wpO (lenS y22 (e 0)) fun v1 =>
 wpO (bnS .lss (some y3) (e 6) v1) fun v2 =>
 condP v2
 (wpO (ixS cT y22 (e 0) (e 6)) fun v3 =>
 wpO (ldS y25 S v3) fun v4 =>
 wpO (bnS .rem (some y25) v4 (e 1)) fun v5 =>
 wpO (bslS y25 1 [(0, v5)] S) fun p6 =>
 wpO (appS y25 p6.2 (e 5) p6.1) fun p7 =>
 wpO (bnS .add (some y3) (e 6) (.int .i64 1)) fun v8 =>
 DenP cT 41 (.loop L10_0) (ups e [(8, (e 6)), (9, (e 0)), (10, v1), (11, v2), (14, (e 5)), (15, (e 0)), (16, (e 6)), (17, v3), (18, v4), (19, (e 1)), (20, v5), (21, p6.1), (22, p7.1), (5, p7.1), (12, (e 6)), (13, v8), (6, v8)]) p7.2 k)
 (k (.exit 0) (ups e [(8, (e 6)), (9, (e 0)), (10, v1), (11, v2)]) S)
noncomputable def TK10_0e0 (e : En) (S : Zt) (k : SV → Zt → Prop) : Prop :=
 DenP cT 41 (.loop L10_1) e S (K10_1 k)
noncomputable def TL10_1 (e : En) (S : Zt) (k : X → En → Zt → Prop) : Prop :=
 wpO (lenS y22 (e 5)) fun v9 =>
 wpO (bnS .gtr (some y3) v9 (.int .i64 0)) fun v10 =>
 grdP (some v10) true (fun k => k (e 5) S) S fun v11 S12 =>
 grdP (some v10) true (fun k => k (e 5) S12) S12 fun v13 S14 =>
 grdP (some v10) true (fun k => wpO (lenS y22 v13) fun v15 => k v15 S14) S14 fun v16 S17 =>
 grdP (some v10) true (fun k => wpO (bnS .sub (some y3) v16 (.int .i64 1)) fun v18 => k v18 S17) S17 fun v19 S20 =>
 grdP (some v10) true (fun k => wpO (ixS cT y22 v11 v19) fun v21 => k v21 S20) S20 fun v22 S23 =>
 grdP (some v10) true (fun k => wpO (ldS y25 S23 v22) fun v24 => k v24 S23) S23 fun v25 S26 =>
 grdP (some v10) true (fun k => wpO (bnS .eql (some y25) v25 (.int .u64 (0))) fun v27 => k v27 S26) S26 fun v28 S29 =>
 wpO (pickS v10 v28 (.bool false)) fun v30 =>
 condP v30
 (wpO (lenS y22 (e 5)) fun v31 =>
 wpO (bnS .sub (some y3) v31 (.int .i64 1)) fun v32 =>
 wpO (slicS y25 (e 5) none (some v32) none) fun v33 =>
 DenP cT 41 (.loop L10_1) (ups e [(23, (e 5)), (24, v9), (25, v10), (26, v10), (27, v11), (28, v13), (29, v16), (30, v19), (31, v22), (32, v25), (33, v28), (34, v30), (35, (e 5)), (36, (e 5)), (37, v31), (38, v32), (39, v33), (5, v33)]) S29 k)
 (k (.exit 2) (ups e [(23, (e 5)), (24, v9), (25, v10), (26, v10), (27, v11), (28, v13), (29, v16), (30, v19), (31, v22), (32, v25), (33, v28), (34, v30)]) S29)
noncomputable def TK10_1e2 (e : En) (S : Zt) (k : SV → Zt → Prop) : Prop :=
 k (e 5) S
theorem F10_ok{x0 x1:SV}{S:Zt}{k:SV→Zt→Prop}(h:F10 x0 x1 S k):wpO (bW cT 10 [x0,x1] S) (fun p=>k p.1 p.2):=bo (fn:=Tryz.f10) (by kernel_rfl) (by kernel_rfl) (Nat.le_of_ble_eq_true (by kernel_rfl)) ((show F10 x0 x1 S k=wpC cT Tryz.f10.ntmps B10 (argE [x0,x1]) S (outP cT Tryz.f10 k)by kernel_rfl).mp h)
theorem L10_0_ok{e:En}{S:Zt}{k:X→En→Zt→Prop}(h:TL10_0 e S k):DenP cT 41 (.loop L10_0) e S k:=loopP_of ((show TL10_0 e S k=wpC cT 41 L10_0 e S (againP cT 41 L10_0 k)by kernel_rfl).mp h)
theorem K10_0e0_ok{e:En}{S:Zt}{k:SV→Zt→Prop}(h:TK10_0e0 e S k):K10_0 k (.exit 0) e S:=(show TK10_0e0 e S k=K10_0 k (.exit 0) e S by kernel_rfl).mp h
theorem L10_1_ok{e:En}{S:Zt}{k:X→En→Zt→Prop}(h:TL10_1 e S k):DenP cT 41 (.loop L10_1) e S k:=loopP_of ((show TL10_1 e S k=wpC cT 41 L10_1 e S (againP cT 41 L10_1 k)by kernel_rfl).mp h)
theorem K10_1e2_ok{e:En}{S:Zt}{k:SV→Zt→Prop}(h:TK10_1e2 e S k):K10_1 k (.exit 2) e S:=(show TK10_1e2 e S k=K10_1 k (.exit 2) e S by kernel_rfl).mp h
noncomputable abbrev B136:Code:=bodyOf Tryz.f136
noncomputable def F136 (x0 x1 : SV) (S : Zt) (k : SV → Zt → Prop) : Prop :=
 wpO (lenS y22 x0) fun v0 =>
 wpO (bnS .lss (some y3) x1 v0) fun v1 =>
 condP v1
 (wpO (ixS cT y22 x0 x1) fun v2 =>
 wpO (ldS y25 S v2) fun v3 =>
 k v3 S)
 (k (.int .u64 (0)) S)
theorem F136_ok{x0 x1:SV}{S:Zt}{k:SV→Zt→Prop}(h:F136 x0 x1 S k):wpO (bW cT 136 [x0,x1] S) (fun p=>k p.1 p.2):=bo (fn:=Tryz.f136) (by kernel_rfl) (by kernel_rfl) (Nat.le_of_ble_eq_true (by kernel_rfl)) ((show F136 x0 x1 S k=wpC cT Tryz.f136.ntmps B136 (argE [x0,x1]) S (outP cT Tryz.f136 k)by kernel_rfl).mp h)
noncomputable abbrev B71:Code:=bodyOf Tryz.f71
noncomputable def L71_0:Code:=cA [1,1,0,1,0,0] B71
noncomputable def K71_0(k:SV→Zt→Prop):X→En→Zt→Prop:=cont cT 37 [1,1,0,1,0] B71 (outP cT Tryz.f71 k)
noncomputable def F71 (x0 x1 x2 : SV) (S : Zt) (k : SV → Zt → Prop) : Prop :=
 wpO (bslS y25 0 [] S) fun p0 =>
 DenP cT 37 (.loop L71_0) (ups (argE [x0, x1, x2]) [(6, (.vsl [] .nil)), (9, p0.1), (7, p0.1), (8, (.int .i64 0))]) p0.2 (K71_0 k)
noncomputable def TL71_0 (e : En) (S : Zt) (k : X → En → Zt → Prop) : Prop :=
 wpO (lenS y22 (e 0)) fun v1 =>
 wpO (bnS .lss (some y3) (e 8) v1) fun v2 =>
 grdP (some v2) false (fun k => k (e 8) S) S fun v3 S4 =>
 grdP (some v2) false (fun k => k (e 1) S4) S4 fun v5 S6 =>
 grdP (some v2) false (fun k => wpO (lenS y22 v5) fun v7 => k v7 S6) S6 fun v8 S9 =>
 grdP (some v2) false (fun k => wpO (bnS .lss (some y3) v3 v8) fun v10 => k v10 S9) S9 fun v11 S12 =>
 wpO (pickS v2 (.bool true) v11) fun v13 =>
 condP v13
 (wpO (cW cT 136 [(e 0), (e 8)] S12) fun p14 =>
 wpO (bnS .add (some y25) p14.1 (e 2)) fun v15 =>
 wpO (cW cT 136 [(e 1), (e 8)] p14.2) fun p16 =>
 wpO (bnS .sub (some y25) v15 p16.1) fun v17 =>
 wpO (bslS y25 1 [(0, v17)] p16.2) fun p18 =>
 wpO (appS y25 p18.2 (e 7) p18.1) fun p19 =>
 wpO (bnS .add (some y3) (e 8) (.int .i64 1)) fun v20 =>
 DenP cT 37 (.loop L71_0) (ups e [(10, (e 8)), (11, (e 0)), (12, v1), (13, v2), (14, v2), (15, v3), (16, v5), (17, v8), (18, v11), (19, v13), (22, (e 7)), (23, (e 0)), (24, (e 8)), (25, p14.1), (26, (e 2)), (27, v15), (28, (e 1)), (29, (e 8)), (30, p16.1), (31, v17), (32, p18.1), (33, p19.1), (7, p19.1), (20, (e 8)), (21, v20), (8, v20)]) p19.2 k)
 (k (.exit 0) (ups e [(10, (e 8)), (11, (e 0)), (12, v1), (13, v2), (14, v2), (15, v3), (16, v5), (17, v8), (18, v11), (19, v13)]) S12)
noncomputable def TK71_0e0 (e : En) (S : Zt) (k : SV → Zt → Prop) : Prop :=
 wpO (cW cT 10 [(e 7), (e 2)] S) fun p21 =>
 k p21.1 p21.2
theorem F71_ok{x0 x1 x2:SV}{S:Zt}{k:SV→Zt→Prop}(h:F71 x0 x1 x2 S k):wpO (bW cT 71 [x0,x1,x2] S) (fun p=>k p.1 p.2):=bo (fn:=Tryz.f71) (by kernel_rfl) (by kernel_rfl) (Nat.le_of_ble_eq_true (by kernel_rfl)) ((show F71 x0 x1 x2 S k=wpC cT Tryz.f71.ntmps B71 (argE [x0,x1,x2]) S (outP cT Tryz.f71 k)by kernel_rfl).mp h)
theorem L71_0_ok{e:En}{S:Zt}{k:X→En→Zt→Prop}(h:TL71_0 e S k):DenP cT 37 (.loop L71_0) e S k:=loopP_of ((show TL71_0 e S k=wpC cT 37 L71_0 e S (againP cT 37 L71_0 k)by kernel_rfl).mp h)
theorem K71_0e0_ok{e:En}{S:Zt}{k:SV→Zt→Prop}(h:TK71_0e0 e S k):K71_0 k (.exit 0) e S:=(show TK71_0e0 e S k=K71_0 k (.exit 0) e S by kernel_rfl).mp h
noncomputable abbrev B15:Code:=bodyOf Tryz.f15
noncomputable def L15_0:Code:=cA [1,1,1,0,1,0,0] B15
noncomputable def L15_1:Code:=cA [1,1,1,0,1,0,0,1,0,0,1,0,0] B15
noncomputable def K15_0(k:SV→Zt→Prop):X→En→Zt→Prop:=cont cT 63 [1,1,1,0,1,0] B15 (outP cT Tryz.f15 k)
noncomputable def K15_1(k:X→En→Zt→Prop):X→En→Zt→Prop:=cont cT 63 [1,0,0,1,0] L15_0 (againP cT 63 L15_0 k)
noncomputable def F15 (x0 x1 x2 : SV) (S : Zt) (k : SV → Zt → Prop) : Prop :=
 wpO (lenS y22 x0) fun v0 =>
 wpO (bnS .eql (some y3) v0 (.int .i64 0)) fun v1 =>
 grdP (some v1) false (fun k => k x1 S) S fun v2 S3 =>
 grdP (some v1) false (fun k => wpO (lenS y22 v2) fun v4 => k v4 S3) S3 fun v5 S6 =>
 grdP (some v1) false (fun k => wpO (bnS .eql (some y3) v5 (.int .i64 0)) fun v7 => k v7 S6) S6 fun v8 S9 =>
 wpO (pickS v1 (.bool true) v8) fun v10 =>
 condP v10
 (k (.vsl [] .nil) S9)
 (wpO (lenS y22 x0) fun v11 =>
 wpO (lenS y22 x1) fun v12 =>
 wpO (bnS .add (some y3) v11 v12) fun v13 =>
 wpO (bnS .sub (some y3) v13 (.int .i64 1)) fun v14 =>
 wpO (mkslS y25 v14 v14 S9) fun p15 =>
 DenP cT 63 (.loop L15_0) (ups (argE [x0, x1, x2]) [(6, (.vsl [] .nil)), (10, x0), (11, v0), (12, v1), (13, v1), (14, v2), (15, v5), (16, v8), (17, v10), (18, x0), (19, v11), (20, x1), (21, v12), (22, v13), (23, v14), (24, p15.1), (7, p15.1), (8, (.int .i64 0))]) p15.2 (K15_0 k))
noncomputable def TL15_0 (e : En) (S : Zt) (k : X → En → Zt → Prop) : Prop :=
 wpO (lenS y22 (e 0)) fun v16 =>
 wpO (bnS .lss (some y3) (e 8) v16) fun v17 =>
 condP v17
 (DenP cT 63 (.loop L15_1) (ups e [(25, (e 8)), (26, (e 0)), (27, v16), (28, v17), (9, (.int .i64 0))]) S (K15_1 k))
 (k (.exit 0) (ups e [(25, (e 8)), (26, (e 0)), (27, v16), (28, v17)]) S)
noncomputable def TL15_1 (e : En) (S : Zt) (k : X → En → Zt → Prop) : Prop :=
 wpO (lenS y22 (e 1)) fun v18 =>
 wpO (bnS .lss (some y3) (e 9) v18) fun v19 =>
 condP v19
 (wpO (bnS .add (some y3) (e 8) (e 9)) fun v20 =>
 wpO (bnS .add (some y3) (e 8) (e 9)) fun v21 =>
 wpO (ixS cT y22 (e 7) v21) fun v22 =>
 wpO (ldS y25 S v22) fun v23 =>
 wpO (ixS cT y22 (e 0) (e 8)) fun v24 =>
 wpO (ldS y25 S v24) fun v25 =>
 wpO (ixS cT y22 (e 1) (e 9)) fun v26 =>
 wpO (ldS y25 S v26) fun v27 =>
 wpO (bnS .mul (some y25) v25 v27) fun v28 =>
 wpO (bnS .add (some y25) v23 v28) fun v29 =>
 wpO (bnS .rem (some y25) v29 (e 2)) fun v30 =>
 wpO (ixS cT y22 (e 7) v20) fun v31 =>
 wpO (stS y25 S v31 v30) fun S32 =>
 wpO (bnS .add (some y3) (e 9) (.int .i64 1)) fun v33 =>
 DenP cT 63 (.loop L15_1) (ups e [(31, (e 9)), (32, (e 1)), (33, v18), (34, v19), (37, (e 7)), (38, (e 8)), (39, (e 9)), (40, v20), (41, (e 7)), (42, (e 8)), (43, (e 9)), (44, v21), (45, v22), (46, v23), (47, (e 0)), (48, (e 8)), (49, v24), (50, v25), (51, (e 1)), (52, (e 9)), (53, v26), (54, v27), (55, v28), (56, v29), (57, (e 2)), (58, v30), (59, v31), (35, (e 9)), (36, v33), (9, v33)]) S32 k)
 (k (.exit 2) (ups e [(31, (e 9)), (32, (e 1)), (33, v18), (34, v19)]) S)
noncomputable def TK15_0e0 (e : En) (S : Zt) (k : SV → Zt → Prop) : Prop :=
 wpO (cW cT 10 [(e 7), (e 2)] S) fun p34 =>
 k p34.1 p34.2
noncomputable def TK15_1e2 (e : En) (S : Zt) (k : X → En → Zt → Prop) : Prop :=
 wpO (bnS .add (some y3) (e 8) (.int .i64 1)) fun v35 =>
 DenP cT 63 (.loop L15_0) (ups e [(29, (e 8)), (30, v35), (8, v35)]) S k
theorem F15_ok{x0 x1 x2:SV}{S:Zt}{k:SV→Zt→Prop}(h:F15 x0 x1 x2 S k):wpO (bW cT 15 [x0,x1,x2] S) (fun p=>k p.1 p.2):=bo (fn:=Tryz.f15) (by kernel_rfl) (by kernel_rfl) (Nat.le_of_ble_eq_true (by kernel_rfl)) ((show F15 x0 x1 x2 S k=wpC cT Tryz.f15.ntmps B15 (argE [x0,x1,x2]) S (outP cT Tryz.f15 k)by kernel_rfl).mp h)
theorem L15_0_ok{e:En}{S:Zt}{k:X→En→Zt→Prop}(h:TL15_0 e S k):DenP cT 63 (.loop L15_0) e S k:=loopP_of ((show TL15_0 e S k=wpC cT 63 L15_0 e S (againP cT 63 L15_0 k)by kernel_rfl).mp h)
theorem L15_1_ok{e:En}{S:Zt}{k:X→En→Zt→Prop}(h:TL15_1 e S k):DenP cT 63 (.loop L15_1) e S k:=loopP_of ((show TL15_1 e S k=wpC cT 63 L15_1 e S (againP cT 63 L15_1 k)by kernel_rfl).mp h)
theorem K15_0e0_ok{e:En}{S:Zt}{k:SV→Zt→Prop}(h:TK15_0e0 e S k):K15_0 k (.exit 0) e S:=(show TK15_0e0 e S k=K15_0 k (.exit 0) e S by kernel_rfl).mp h
theorem K15_1e2_ok{e:En}{S:Zt}{k:X→En→Zt→Prop}(h:TK15_1e2 e S k):K15_1 k (.exit 2) e S:=(show TK15_1e2 e S k=K15_1 k (.exit 2) e S by kernel_rfl).mp h
noncomputable abbrev B89:Code:=bodyOf Tryz.f89
noncomputable def L89_0:Code:=cA [1,1,1,1,0,0,0] B89
noncomputable def K89_0(k:SV→Zt→Prop):X→En→Zt→Prop:=cont cT 77 [1,1,1,1,0,0] B89 (outP cT Tryz.f89 k)
noncomputable def F89 (x0 x1 x2 : SV) (S : Zt) (k : SV → Zt → Prop) : Prop :=
 wpO (alS y125.zero S) fun p0 =>
 wpO (cW cT 10 [x0, x2] p0.2) fun p1 =>
 wpO (lenS y22 p1.1) fun v2 =>
 wpO (lenS y22 x1) fun v3 =>
 wpO (bnS .sub (some y3) v2 v3) fun v4 =>
 wpO (bnS .add (some y3) v4 (.int .i64 1)) fun v5 =>
 wpO (foldS max2S v5 [(.int .i64 0)]) fun v6 =>
 wpO (mkslS y25 v6 v6 p1.2) fun p7 =>
 wpO (lenS y22 x1) fun v8 =>
 wpO (bnS .sub (some y3) v8 (.int .i64 1)) fun v9 =>
 wpO (ixS cT y22 x1 v9) fun v10 =>
 wpO (ldS y25 p7.2 v10) fun v11 =>
 wpO (cW cT 155 [v11, x2] p7.2) fun p12 =>
 wpO (extS p12.1 0) fun v13 =>
 wpO (extS p12.1 1) fun v14 =>
 DenP cT 77 (.loop L89_0) (ups (argE [x0, x1, x2]) [(6, p0.1), (14, x0), (15, x2), (16, p1.1), (7, p1.1), (17, p1.1), (18, v2), (19, x1), (20, v3), (21, v4), (22, v5), (23, v6), (24, p7.1), (8, p7.1), (26, x1), (27, x1), (28, v8), (29, v9), (30, v10), (31, v11), (32, x2), (33, p12.1), (25, p12.1), (34, v13), (35, v14), (9, v13), (10, v14)]) p12.2 (K89_0 k)
noncomputable def TL89_0 (e : En) (S : Zt) (k : X → En → Zt → Prop) : Prop :=
 wpO (lenS y22 (e 7)) fun v15 =>
 wpO (lenS y22 (e 1)) fun v16 =>
 wpO (bnS .geq (some y3) v15 v16) fun v17 =>
 condP v17
 (wpO (lenS y22 (e 7)) fun v18 =>
 wpO (lenS y22 (e 1)) fun v19 =>
 wpO (bnS .sub (some y3) v18 v19) fun v20 =>
 wpO (lenS y22 (e 7)) fun v21 =>
 wpO (bnS .sub (some y3) v21 (.int .i64 1)) fun v22 =>
 wpO (ixS cT y22 (e 7) v22) fun v23 =>
 wpO (ldS y25 S v23) fun v24 =>
 wpO (bnS .mul (some y25) v24 (e 9)) fun v25 =>
 wpO (bnS .rem (some y25) v25 (e 2)) fun v26 =>
 wpO (ixS cT y22 (e 8) v20) fun v27 =>
 wpO (stS y25 S v27 v26) fun S28 =>
 wpO (mkslS y25 v20 v20 S28) fun p29 =>
 wpO (bslS y25 1 [(0, v26)] p29.2) fun p30 =>
 wpO (cW cT 15 [p30.1, (e 1), (e 2)] p30.2) fun p31 =>
 wpO (appS y25 p31.2 p29.1 p31.1) fun p32 =>
 wpO (cW cT 71 [(e 7), p32.1, (e 2)] p32.2) fun p33 =>
 DenP cT 77 (.loop L89_0) (ups e [(36, (e 7)), (37, v15), (38, (e 1)), (39, v16), (40, v17), (41, (e 7)), (42, v18), (43, (e 1)), (44, v19), (45, v20), (11, v20), (46, (e 7)), (47, (e 7)), (48, v21), (49, v22), (50, v23), (51, v24), (52, (e 9)), (53, v25), (54, (e 2)), (55, v26), (12, v26), (56, (e 8)), (57, v20), (58, v26), (59, v27), (60, v20), (61, p29.1), (62, v26), (63, p30.1), (64, (e 1)), (65, (e 2)), (66, p31.1), (67, p32.1), (13, p32.1), (68, (e 7)), (69, p32.1), (70, (e 2)), (71, p33.1), (7, p33.1)]) p33.2 k)
 (k (.exit 0) (ups e [(36, (e 7)), (37, v15), (38, (e 1)), (39, v16), (40, v17)]) S)
noncomputable def TK89_0e0 (e : En) (S : Zt) (k : SV → Zt → Prop) : Prop :=
 wpO (cW cT 10 [(e 8), (e 2)] S) fun p34 =>
 wpO (buildS cT y125 [(0, p34.1), (1, (e 7))]) fun v35 =>
 wpO (stS y125 p34.2 (e 6) v35) fun S36 =>
 wpO (ldS y125 S36 (e 6)) fun v37 =>
 k v37 S36
theorem F89_ok{x0 x1 x2:SV}{S:Zt}{k:SV→Zt→Prop}(h:F89 x0 x1 x2 S k):wpO (bW cT 89 [x0,x1,x2] S) (fun p=>k p.1 p.2):=bo (fn:=Tryz.f89) (by kernel_rfl) (by kernel_rfl) (Nat.le_of_ble_eq_true (by kernel_rfl)) ((show F89 x0 x1 x2 S k=wpC cT Tryz.f89.ntmps B89 (argE [x0,x1,x2]) S (outP cT Tryz.f89 k)by kernel_rfl).mp h)
theorem L89_0_ok{e:En}{S:Zt}{k:X→En→Zt→Prop}(h:TL89_0 e S k):DenP cT 77 (.loop L89_0) e S k:=loopP_of ((show TL89_0 e S k=wpC cT 77 L89_0 e S (againP cT 77 L89_0 k)by kernel_rfl).mp h)
theorem K89_0e0_ok{e:En}{S:Zt}{k:SV→Zt→Prop}(h:TK89_0e0 e S k):K89_0 k (.exit 0) e S:=(show TK89_0e0 e S k=K89_0 k (.exit 0) e S by kernel_rfl).mp h
noncomputable abbrev B68:Code:=bodyOf Tryz.f68
noncomputable def F68 (x0 x1 x2 : SV) (S : Zt) (k : SV → Zt → Prop) : Prop :=
 wpO (cW cT 89 [x0, x1, x2] S) fun p0 =>
 wpO (fieldS cT y125 p0.1 1) fun v1 =>
 k v1 p0.2
theorem F68_ok{x0 x1 x2:SV}{S:Zt}{k:SV→Zt→Prop}(h:F68 x0 x1 x2 S k):wpO (bW cT 68 [x0,x1,x2] S) (fun p=>k p.1 p.2):=bo (fn:=Tryz.f68) (by kernel_rfl) (by kernel_rfl) (Nat.le_of_ble_eq_true (by kernel_rfl)) ((show F68 x0 x1 x2 S k=wpC cT Tryz.f68.ntmps B68 (argE [x0,x1,x2]) S (outP cT Tryz.f68 k)by kernel_rfl).mp h)
noncomputable abbrev B86:Code:=bodyOf Tryz.f86
noncomputable def F86 (x0 x1 : SV) (S : Zt) (k : SV → Zt → Prop) : Prop :=
 wpO (lenS y22 x0) fun v0 =>
 wpO (bnS .eql (some y3) v0 (.int .i64 0)) fun v1 =>
 condP v1
 (k (.vsl [] .nil) S)
 (wpO (lenS y22 x0) fun v2 =>
 wpO (bnS .sub (some y3) v2 (.int .i64 1)) fun v3 =>
 wpO (ixS cT y22 x0 v3) fun v4 =>
 wpO (ldS y25 S v4) fun v5 =>
 wpO (cW cT 155 [v5, x1] S) fun p6 =>
 wpO (extS p6.1 0) fun v7 =>
 wpO (extS p6.1 1) fun v8 =>
 wpO (bslS y25 1 [(0, v7)] p6.2) fun p9 =>
 wpO (cW cT 15 [p9.1, x0, x1] p9.2) fun p10 =>
 k p10.1 p10.2)
theorem F86_ok{x0 x1:SV}{S:Zt}{k:SV→Zt→Prop}(h:F86 x0 x1 S k):wpO (bW cT 86 [x0,x1] S) (fun p=>k p.1 p.2):=bo (fn:=Tryz.f86) (by kernel_rfl) (by kernel_rfl) (Nat.le_of_ble_eq_true (by kernel_rfl)) ((show F86 x0 x1 S k=wpC cT Tryz.f86.ntmps B86 (argE [x0,x1]) S (outP cT Tryz.f86 k)by kernel_rfl).mp h)
noncomputable abbrev B70:Code:=bodyOf Tryz.f70
noncomputable def L70_0:Code:=cA [1,0,0,0] B70
noncomputable def K70_0(k:SV→Zt→Prop):X→En→Zt→Prop:=cont cT 20 [1,0,0] B70 (outP cT Tryz.f70 k)
noncomputable def F70 (x0 x1 x2 : SV) (S : Zt) (k : SV → Zt → Prop) : Prop :=
 DenP cT 20 (.loop L70_0) (ups (argE [x0, x1, x2]) [(6, (.vsl [] .nil))]) S (K70_0 k)
noncomputable def TL70_0 (e : En) (S : Zt) (k : X → En → Zt → Prop) : Prop :=
 wpO (lenS y22 (e 1)) fun v0 =>
 wpO (bnS .gtr (some y3) v0 (.int .i64 0)) fun v1 =>
 condP v1
 (wpO (cW cT 68 [(e 0), (e 1), (e 2)] S) fun p2 =>
 DenP cT 20 (.loop L70_0) (ups e [(8, (e 1)), (9, v0), (10, v1), (11, (e 0)), (12, (e 1)), (13, (e 2)), (14, p2.1), (7, p2.1), (15, (e 1)), (0, (e 1)), (16, p2.1), (1, p2.1)]) p2.2 k)
 (k (.exit 0) (ups e [(8, (e 1)), (9, v0), (10, v1)]) S)
noncomputable def TK70_0e0 (e : En) (S : Zt) (k : SV → Zt → Prop) : Prop :=
 wpO (cW cT 86 [(e 0), (e 2)] S) fun p3 =>
 k p3.1 p3.2
theorem F70_ok{x0 x1 x2:SV}{S:Zt}{k:SV→Zt→Prop}(h:F70 x0 x1 x2 S k):wpO (bW cT 70 [x0,x1,x2] S) (fun p=>k p.1 p.2):=bo (fn:=Tryz.f70) (by kernel_rfl) (by kernel_rfl) (Nat.le_of_ble_eq_true (by kernel_rfl)) ((show F70 x0 x1 x2 S k=wpC cT Tryz.f70.ntmps B70 (argE [x0,x1,x2]) S (outP cT Tryz.f70 k)by kernel_rfl).mp h)
theorem L70_0_ok{e:En}{S:Zt}{k:X→En→Zt→Prop}(h:TL70_0 e S k):DenP cT 20 (.loop L70_0) e S k:=loopP_of ((show TL70_0 e S k=wpC cT 20 L70_0 e S (againP cT 20 L70_0 k)by kernel_rfl).mp h)
theorem K70_0e0_ok{e:En}{S:Zt}{k:SV→Zt→Prop}(h:TK70_0e0 e S k):K70_0 k (.exit 0) e S:=(show TK70_0e0 e S k=K70_0 k (.exit 0) e S by kernel_rfl).mp h
noncomputable abbrev B12:Code:=bodyOf Tryz.f12
noncomputable def L12_0:Code:=cA [1,1,0,1,0,0] B12
noncomputable def K12_0(k:SV→Zt→Prop):X→En→Zt→Prop:=cont cT 26 [1,1,0,1,0] B12 (outP cT Tryz.f12 k)
noncomputable def F12 (x0 x1 : SV) (S : Zt) (k : SV → Zt → Prop) : Prop :=
 wpO (lenS y22 x0) fun v0 =>
 wpO (lenS y22 x1) fun v1 =>
 wpO (bnS .neq (some y3) v0 v1) fun v2 =>
 condP v2
 (k (.bool false) S)
 (DenP cT 26 (.loop L12_0) (ups (argE [x0, x1]) [(4, (.bool false)), (6, x0), (7, v0), (8, x1), (9, v1), (10, v2), (5, (.int .i64 0))]) S (K12_0 k))
noncomputable def TL12_0 (e : En) (S : Zt) (k : X → En → Zt → Prop) : Prop :=
 wpO (lenS y22 (e 0)) fun v3 =>
 wpO (bnS .lss (some y3) (e 5) v3) fun v4 =>
 condP v4
 (wpO (ixS cT y22 (e 0) (e 5)) fun v5 =>
 wpO (ldS y25 S v5) fun v6 =>
 wpO (ixS cT y22 (e 1) (e 5)) fun v7 =>
 wpO (ldS y25 S v7) fun v8 =>
 wpO (bnS .neq (some y25) v6 v8) fun v9 =>
 condP v9
 (k .ret (ups e [(11, (e 5)), (12, (e 0)), (13, v3), (14, v4), (17, (e 0)), (18, (e 5)), (19, v5), (20, v6), (21, (e 1)), (22, (e 5)), (23, v7), (24, v8), (25, v9), (4, (.bool false))]) S)
 (wpO (bnS .add (some y3) (e 5) (.int .i64 1)) fun v10 =>
 DenP cT 26 (.loop L12_0) (ups e [(11, (e 5)), (12, (e 0)), (13, v3), (14, v4), (17, (e 0)), (18, (e 5)), (19, v5), (20, v6), (21, (e 1)), (22, (e 5)), (23, v7), (24, v8), (25, v9), (15, (e 5)), (16, v10), (5, v10)]) S k))
 (k (.exit 0) (ups e [(11, (e 5)), (12, (e 0)), (13, v3), (14, v4)]) S)
noncomputable def TK12_0e0 (e : En) (S : Zt) (k : SV → Zt → Prop) : Prop :=
 k (.bool true) S
theorem F12_ok{x0 x1:SV}{S:Zt}{k:SV→Zt→Prop}(h:F12 x0 x1 S k):wpO (bW cT 12 [x0,x1] S) (fun p=>k p.1 p.2):=bo (fn:=Tryz.f12) (by kernel_rfl) (by kernel_rfl) (Nat.le_of_ble_eq_true (by kernel_rfl)) ((show F12 x0 x1 S k=wpC cT Tryz.f12.ntmps B12 (argE [x0,x1]) S (outP cT Tryz.f12 k)by kernel_rfl).mp h)
theorem L12_0_ok{e:En}{S:Zt}{k:X→En→Zt→Prop}(h:TL12_0 e S k):DenP cT 26 (.loop L12_0) e S k:=loopP_of ((show TL12_0 e S k=wpC cT 26 L12_0 e S (againP cT 26 L12_0 k)by kernel_rfl).mp h)
theorem K12_0e0_ok{e:En}{S:Zt}{k:SV→Zt→Prop}(h:TK12_0e0 e S k):K12_0 k (.exit 0) e S:=(show TK12_0e0 e S k=K12_0 k (.exit 0) e S by kernel_rfl).mp h
noncomputable abbrev B125:Code:=bodyOf Tryz.f125
noncomputable def F125 (S : Zt) (k : SV → Zt → Prop) : Prop :=
 wpO (alS y149.zero S) fun p0 =>
 wpO (buildS cT y149 [(0, (.int .u64 (2))), (1, (.int .u64 (3))), (2, (.int .u64 (5))), (3, (.int .u64 (7)))]) fun v1 =>
 wpO (stS y149 p0.2 p0.1 v1) fun S2 =>
 wpO (ldS y149 S2 p0.1) fun v3 =>
 k v3 S2
theorem F125_ok{S:Zt}{k:SV→Zt→Prop}(h:F125  S k):wpO (bW cT 125 [] S) (fun p=>k p.1 p.2):=bo (fn:=Tryz.f125) (by kernel_rfl) (by kernel_rfl) (Nat.le_of_ble_eq_true (by kernel_rfl)) ((show F125  S k=wpC cT Tryz.f125.ntmps B125 (argE []) S (outP cT Tryz.f125 k)by kernel_rfl).mp h)
noncomputable abbrev B57:Code:=bodyOf Tryz.f57
noncomputable def L57_0:Code:=cA [1,1,1,0,0,0] B57
noncomputable def L57_1:Code:=cA [1,1,1,1,0,1,0,0] B57
noncomputable def L57_2:Code:=cA [1,1,1,1,0,1,0,0,1,1,0,0,1,1,1,1,1,0,1,0,0] B57
noncomputable def K57_0(k:SV→Zt→Prop):X→En→Zt→Prop:=cont cT 65 [1,1,1,0,0] B57 (outP cT Tryz.f57 k)
noncomputable def K57_1(k:SV→Zt→Prop):X→En→Zt→Prop:=cont cT 65 [1,1,1,1,0,1,0] B57 (outP cT Tryz.f57 k)
noncomputable def K57_2(k:X→En→Zt→Prop):X→En→Zt→Prop:=cont cT 65 [1,1,0,0,1,1,1,1,1,0,1,0] L57_1 (againP cT 65 L57_1 k)
noncomputable def F57 (x0 : SV) (S : Zt) (k : SV → Zt → Prop) : Prop :=
 wpO (bnS .lss (some y25) x0 (.int .u64 (2))) fun v0 =>
 grdP (some v0) false (fun k => k x0 S) S fun v1 S2 =>
 grdP (some v0) false (fun k => wpO (bnS .geq (some y25) v1 (.int .u64 (2147483648))) fun v3 => k v3 S2) S2 fun v4 S5 =>
 wpO (pickS v0 (.bool true) v4) fun v6 =>
 condP v6
 (k (.bool false) S5)
 (wpO (bnS .sub (some y25) x0 (.int .u64 (1))) fun v7 =>
 DenP cT 65 (.loop L57_0) (ups (argE [x0]) [(2, (.bool false)), (9, x0), (10, v0), (11, v0), (12, v1), (13, v4), (14, v6), (15, x0), (16, v7), (3, v7), (4, (.int .i64 0))]) S5 (K57_0 k))
noncomputable def TL57_0 (e : En) (S : Zt) (k : X → En → Zt → Prop) : Prop :=
 wpO (bnS .rem (some y25) (e 3) (.int .u64 (2))) fun v8 =>
 wpO (bnS .eql (some y25) v8 (.int .u64 (0))) fun v9 =>
 condP v9
 (wpO (bnS .quo (some y25) (e 3) (.int .u64 (2))) fun v10 =>
 wpO (bnS .add (some y3) (e 4) (.int .i64 1)) fun v11 =>
 DenP cT 65 (.loop L57_0) (ups e [(17, (e 3)), (18, v8), (19, v9), (20, (e 3)), (21, v10), (22, (e 4)), (23, v11), (3, v10), (4, v11)]) S k)
 (k (.exit 0) (ups e [(17, (e 3)), (18, v8), (19, v9)]) S)
noncomputable def TK57_0e0 (e : En) (S : Zt) (k : SV → Zt → Prop) : Prop :=
 wpO (cW cT 125 [] S) fun p12 =>
 DenP cT 65 (.loop L57_1) (ups e [(24, p12.1), (25, (.int .i64 0))]) p12.2 (K57_1 k)
noncomputable def TL57_1 (e : En) (S : Zt) (k : X → En → Zt → Prop) : Prop :=
 wpO (bnS .lss (some y3) (e 25) (.int .i64 4)) fun v13 =>
 condP v13
 (wpO (indexS cT y149 (e 24) (e 25)) fun v14 =>
 wpO (bnS .eql (some y25) (e 0) v14) fun v15 =>
 condP v15
 (k .ret (ups e [(26, v13), (27, v14), (6, v14), (28, (e 0)), (29, v14), (30, v15), (2, (.bool true))]) S)
 (wpO (cW cT 126 [v14, (e 3), (e 0)] S) fun p16 =>
 wpO (bnS .eql (some y25) p16.1 (.int .u64 (1))) fun v17 =>
 grdP (some v17) false (fun k => k p16.1 p16.2) p16.2 fun v18 S19 =>
 grdP (some v17) false (fun k => k (e 0) S19) S19 fun v20 S21 =>
 grdP (some v17) false (fun k => wpO (bnS .sub (some y25) v20 (.int .u64 (1))) fun v22 => k v22 S21) S21 fun v23 S24 =>
 grdP (some v17) false (fun k => wpO (bnS .eql (some y25) v18 v23) fun v25 => k v25 S24) S24 fun v26 S27 =>
 wpO (pickS v17 (.bool true) v26) fun v28 =>
 condP v28
 (wpO (bnS .add (some y3) (e 25) (.int .i64 1)) fun v29 =>
 DenP cT 65 (.loop L57_1) (ups e [(26, v13), (27, v14), (6, v14), (28, (e 0)), (29, v14), (30, v15), (31, v14), (32, (e 3)), (33, (e 0)), (34, p16.1), (7, p16.1), (35, p16.1), (36, v17), (37, v17), (38, v18), (39, v20), (40, v23), (41, v26), (42, v28), (62, v29), (25, v29)]) S27 k)
 (wpO (bnS .sub (some y3) (e 4) (.int .i64 1)) fun v30 =>
 DenP cT 65 (.loop L57_2) (ups e [(26, v13), (27, v14), (6, v14), (28, (e 0)), (29, v14), (30, v15), (31, v14), (32, (e 3)), (33, (e 0)), (34, p16.1), (7, p16.1), (35, p16.1), (36, v17), (37, v17), (38, v18), (39, v20), (40, v23), (41, v26), (42, v28), (8, (.bool false)), (43, (e 4)), (44, v30), (45, (.int .i64 0))]) S27 (K57_2 k))))
 (k (.exit 2) (ups e [(26, v13)]) S)
noncomputable def TL57_2 (e : En) (S : Zt) (k : X → En → Zt → Prop) : Prop :=
 wpO (bnS .lss (some y3) (e 45) (e 44)) fun v31 =>
 condP v31
 (wpO (bnS .mul (some y25) (e 7) (e 7)) fun v32 =>
 wpO (bnS .rem (some y25) v32 (e 0)) fun v33 =>
 grdP (some (e 8)) false (fun k => k v33 S) S fun v34 S35 =>
 grdP (some (e 8)) false (fun k => k (e 0) S35) S35 fun v36 S37 =>
 grdP (some (e 8)) false (fun k => wpO (bnS .sub (some y25) v36 (.int .u64 (1))) fun v38 => k v38 S37) S37 fun v39 S40 =>
 grdP (some (e 8)) false (fun k => wpO (bnS .eql (some y25) v34 v39) fun v41 => k v41 S40) S40 fun v42 S43 =>
 wpO (pickS (e 8) (.bool true) v42) fun v44 =>
 wpO (bnS .add (some y3) (e 45) (.int .i64 1)) fun v45 =>
 DenP cT 65 (.loop L57_2) (ups e [(46, v31), (47, (e 7)), (48, (e 7)), (49, v32), (50, (e 0)), (51, v33), (7, v33), (52, (e 8)), (53, (e 8)), (54, v34), (55, v36), (56, v39), (57, v42), (58, v44), (8, v44), (59, v45), (45, v45)]) S43 k)
 (k (.exit 4) (ups e [(46, v31)]) S)
noncomputable def TK57_1e2 (e : En) (S : Zt) (k : SV → Zt → Prop) : Prop :=
 wpO (bnS .gtr (some y25) (e 0) (.int .u64 (1))) fun v46 =>
 k v46 S
noncomputable def TK57_1r (e : En) (S : Zt) (k : SV → Zt → Prop) : Prop :=
 k (e 2) S
noncomputable def TK57_2e4 (e : En) (S : Zt) (k : X → En → Zt → Prop) : Prop :=
 wpO (unS .not (e 8)) fun v47 =>
 condP v47
 (k .ret (ups e [(60, (e 8)), (61, v47), (2, (.bool false))]) S)
 (wpO (bnS .add (some y3) (e 25) (.int .i64 1)) fun v48 =>
 DenP cT 65 (.loop L57_1) (ups e [(60, (e 8)), (61, v47), (62, v48), (25, v48)]) S k)
theorem F57_ok{x0:SV}{S:Zt}{k:SV→Zt→Prop}(h:F57 x0 S k):wpO (bW cT 57 [x0] S) (fun p=>k p.1 p.2):=bo (fn:=Tryz.f57) (by kernel_rfl) (by kernel_rfl) (Nat.le_of_ble_eq_true (by kernel_rfl)) ((show F57 x0 S k=wpC cT Tryz.f57.ntmps B57 (argE [x0]) S (outP cT Tryz.f57 k)by kernel_rfl).mp h)
theorem L57_0_ok{e:En}{S:Zt}{k:X→En→Zt→Prop}(h:TL57_0 e S k):DenP cT 65 (.loop L57_0) e S k:=loopP_of ((show TL57_0 e S k=wpC cT 65 L57_0 e S (againP cT 65 L57_0 k)by kernel_rfl).mp h)
theorem K57_0e0_ok{e:En}{S:Zt}{k:SV→Zt→Prop}(h:TK57_0e0 e S k):K57_0 k (.exit 0) e S:=(show TK57_0e0 e S k=K57_0 k (.exit 0) e S by kernel_rfl).mp h
theorem L57_1_ok{e:En}{S:Zt}{k:X→En→Zt→Prop}(h:TL57_1 e S k):DenP cT 65 (.loop L57_1) e S k:=loopP_of ((show TL57_1 e S k=wpC cT 65 L57_1 e S (againP cT 65 L57_1 k)by kernel_rfl).mp h)
theorem L57_2_ok{e:En}{S:Zt}{k:X→En→Zt→Prop}(h:TL57_2 e S k):DenP cT 65 (.loop L57_2) e S k:=loopP_of ((show TL57_2 e S k=wpC cT 65 L57_2 e S (againP cT 65 L57_2 k)by kernel_rfl).mp h)
theorem K57_1e2_ok{e:En}{S:Zt}{k:SV→Zt→Prop}(h:TK57_1e2 e S k):K57_1 k (.exit 2) e S:=(show TK57_1e2 e S k=K57_1 k (.exit 2) e S by kernel_rfl).mp h
theorem K57_1r_ok{e:En}{S:Zt}{k:SV→Zt→Prop}(h:TK57_1r e S k):K57_1 k .ret e S:=(show TK57_1r e S k=K57_1 k .ret e S by kernel_rfl).mp h
theorem K57_2e4_ok{e:En}{S:Zt}{k:X→En→Zt→Prop}(h:TK57_2e4 e S k):K57_2 k (.exit 4) e S:=(show TK57_2e4 e S k=K57_2 k (.exit 4) e S by kernel_rfl).mp h
noncomputable abbrev B126:Code:=bodyOf Tryz.f126
noncomputable def L126_0:Code:=cA [1,1,0,0,0] B126
noncomputable def K126_0(k:SV→Zt→Prop):X→En→Zt→Prop:=cont cT 31 [1,1,0,0] B126 (outP cT Tryz.f126 k)
noncomputable def F126 (x0 x1 x2 : SV) (S : Zt) (k : SV → Zt → Prop) : Prop :=
 wpO (bnS .rem (some y25) (.int .u64 (1)) x2) fun v0 =>
 wpO (bnS .rem (some y25) x0 x2) fun v1 =>
 DenP cT 31 (.loop L126_0) (ups (argE [x0, x1, x2]) [(6, (.int .u64 (0))), (8, x2), (9, v0), (10, x0), (11, x2), (12, v1), (7, v0), (0, v1)]) S (K126_0 k)
noncomputable def TL126_0 (e : En) (S : Zt) (k : X → En → Zt → Prop) : Prop :=
 wpO (bnS .gtr (some y25) (e 1) (.int .u64 (0))) fun v2 =>
 condP v2
 (wpO (bnS .and (some y25) (e 1) (.int .u64 (1))) fun v3 =>
 wpO (bnS .eql (some y25) v3 (.int .u64 (1))) fun v4 =>
 condP v4
 (wpO (bnS .mul (some y25) (e 7) (e 0)) fun v5 =>
 wpO (bnS .rem (some y25) v5 (e 2)) fun v6 =>
 wpO (bnS .mul (some y25) (e 0) (e 0)) fun v7 =>
 wpO (bnS .rem (some y25) v7 (e 2)) fun v8 =>
 wpO (bnS .shr (some y25) (e 1) (.int .u64 (1))) fun v9 =>
 DenP cT 31 (.loop L126_0) (ups e [(13, (e 1)), (14, v2), (17, (e 1)), (18, v3), (19, v4), (20, (e 7)), (21, (e 0)), (22, v5), (23, (e 2)), (24, v6), (7, v6), (25, (e 0)), (26, (e 0)), (27, v7), (28, (e 2)), (29, v8), (0, v8), (15, (e 1)), (16, v9), (1, v9)]) S k)
 (wpO (bnS .mul (some y25) (e 0) (e 0)) fun v10 =>
 wpO (bnS .rem (some y25) v10 (e 2)) fun v11 =>
 wpO (bnS .shr (some y25) (e 1) (.int .u64 (1))) fun v12 =>
 DenP cT 31 (.loop L126_0) (ups e [(13, (e 1)), (14, v2), (17, (e 1)), (18, v3), (19, v4), (25, (e 0)), (26, (e 0)), (27, v10), (28, (e 2)), (29, v11), (0, v11), (15, (e 1)), (16, v12), (1, v12)]) S k))
 (k (.exit 0) (ups e [(13, (e 1)), (14, v2)]) S)
noncomputable def TK126_0e0 (e : En) (S : Zt) (k : SV → Zt → Prop) : Prop :=
 k (e 7) S
theorem F126_ok{x0 x1 x2:SV}{S:Zt}{k:SV→Zt→Prop}(h:F126 x0 x1 x2 S k):wpO (bW cT 126 [x0,x1,x2] S) (fun p=>k p.1 p.2):=bo (fn:=Tryz.f126) (by kernel_rfl) (by kernel_rfl) (Nat.le_of_ble_eq_true (by kernel_rfl)) ((show F126 x0 x1 x2 S k=wpC cT Tryz.f126.ntmps B126 (argE [x0,x1,x2]) S (outP cT Tryz.f126 k)by kernel_rfl).mp h)
theorem L126_0_ok{e:En}{S:Zt}{k:X→En→Zt→Prop}(h:TL126_0 e S k):DenP cT 31 (.loop L126_0) e S k:=loopP_of ((show TL126_0 e S k=wpC cT 31 L126_0 e S (againP cT 31 L126_0 k)by kernel_rfl).mp h)
theorem K126_0e0_ok{e:En}{S:Zt}{k:SV→Zt→Prop}(h:TK126_0e0 e S k):K126_0 k (.exit 0) e S:=(show TK126_0e0 e S k=K126_0 k (.exit 0) e S by kernel_rfl).mp h
noncomputable abbrev B127:Code:=bodyOf Tryz.f127
noncomputable def L127_0:Code:=cA [1,1,1,0,0,0] B127
noncomputable def K127_0(k:SV→Zt→Prop):X→En→Zt→Prop:=cont cT 44 [1,1,1,0,0] B127 (outP cT Tryz.f127 k)
noncomputable def F127 (x0 x1 : SV) (S : Zt) (k : SV → Zt → Prop) : Prop :=
 wpO (convS y2 x1) fun v0 =>
 wpO (bnS .rem (some y25) x0 x1) fun v1 =>
 wpO (convS y2 v1) fun v2 =>
 wpO (bnS .eql (some y2) v2 (.int .i64 0)) fun v3 =>
 condP v3
 (k (.tup [(.int .u64 (0)), (.int .i64 10)]) S)
 (DenP cT 44 (.loop L127_0) (ups (argE [x0, x1]) [(4, (.int .u64 (0))), (5, (.int .i64 0)), (11, x1), (12, v0), (13, x0), (14, x1), (15, v1), (16, v2), (6, v0), (7, v2), (8, (.int .i64 0)), (9, (.int .i64 1)), (17, v2), (18, v3)]) S (K127_0 k))
noncomputable def TL127_0 (e : En) (S : Zt) (k : X → En → Zt → Prop) : Prop :=
 wpO (bnS .neq (some y2) (e 7) (.int .i64 0)) fun v4 =>
 condP v4
 (wpO (bnS .quo (some y2) (e 6) (e 7)) fun v5 =>
 wpO (bnS .mul (some y2) v5 (e 7)) fun v6 =>
 wpO (bnS .sub (some y2) (e 6) v6) fun v7 =>
 wpO (bnS .mul (some y2) v5 (e 9)) fun v8 =>
 wpO (bnS .sub (some y2) (e 8) v8) fun v9 =>
 DenP cT 44 (.loop L127_0) (ups e [(19, (e 7)), (20, v4), (21, (e 6)), (22, (e 7)), (23, v5), (10, v5), (24, (e 7)), (25, (e 6)), (26, v5), (27, (e 7)), (28, v6), (29, v7), (30, (e 9)), (31, (e 8)), (32, v5), (33, (e 9)), (34, v8), (35, v9), (6, (e 7)), (7, v7), (8, (e 9)), (9, v9)]) S k)
 (k (.exit 0) (ups e [(19, (e 7)), (20, v4)]) S)
noncomputable def TK127_0e0 (e : En) (S : Zt) (k : SV → Zt → Prop) : Prop :=
 wpO (convS y2 (e 1)) fun v10 =>
 wpO (bnS .add (some y2) (e 8) v10) fun v11 =>
 wpO (convS y2 (e 1)) fun v12 =>
 wpO (bnS .rem (some y2) v11 v12) fun v13 =>
 wpO (convS y25 v13) fun v14 =>
 k (.tup [v14, (.int .i64 0)]) S
theorem F127_ok{x0 x1:SV}{S:Zt}{k:SV→Zt→Prop}(h:F127 x0 x1 S k):wpO (bW cT 127 [x0,x1] S) (fun p=>k p.1 p.2):=bo (fn:=Tryz.f127) (by kernel_rfl) (by kernel_rfl) (Nat.le_of_ble_eq_true (by kernel_rfl)) ((show F127 x0 x1 S k=wpC cT Tryz.f127.ntmps B127 (argE [x0,x1]) S (outP cT Tryz.f127 k)by kernel_rfl).mp h)
theorem L127_0_ok{e:En}{S:Zt}{k:X→En→Zt→Prop}(h:TL127_0 e S k):DenP cT 44 (.loop L127_0) e S k:=loopP_of ((show TL127_0 e S k=wpC cT 44 L127_0 e S (againP cT 44 L127_0 k)by kernel_rfl).mp h)
theorem K127_0e0_ok{e:En}{S:Zt}{k:SV→Zt→Prop}(h:TK127_0e0 e S k):K127_0 k (.exit 0) e S:=(show TK127_0e0 e S k=K127_0 k (.exit 0) e S by kernel_rfl).mp h
noncomputable abbrev B59:Code:=bodyOf Tryz.f59
noncomputable def L59_0:Code:=cA [1,1,0,1,0,0] B59
noncomputable def L59_1:Code:=cA [1,1,1,0,0,0] B59
noncomputable def K59_0(k:SV→Zt→Prop):X→En→Zt→Prop:=cont cT 44 [1,1,0,1,0] B59 (outP cT Tryz.f59 k)
noncomputable def K59_1(k:SV→Zt→Prop):X→En→Zt→Prop:=cont cT 44 [1,1,1,0,0] B59 (outP cT Tryz.f59 k)
noncomputable def F59 (x0 x1 : SV) (S : Zt) (k : SV → Zt → Prop) : Prop :=
 wpO (alS x0 S) fun p0 =>
 wpO (lenS y100 x1) fun v1 =>
 wpO (mkslS y25 v1 v1 p0.2) fun p2 =>
 wpO (lenS y100 x1) fun v3 =>
 DenP cT 44 (.loop L59_0) (ups (argE [x0, x1]) [(2, p0.1), (4, (.vsl [] .nil)), (8, x1), (9, v1), (10, p2.1), (5, p2.1), (11, x1), (12, v3), (13, (.int .i64 0))]) p2.2 (K59_0 k)
noncomputable def TL59_0 (e : En) (S : Zt) (k : X → En → Zt → Prop) : Prop :=
 wpO (bnS .lss (some y3) (e 13) (e 12)) fun v4 =>
 condP v4
 (wpO (ixS cT y100 (e 11) (e 13)) fun v5 =>
 wpO (ldS y25 S v5) fun v6 =>
 wpO (faS cT y99 (e 2) 0) fun v7 =>
 wpO (ldS y25 S v7) fun v8 =>
 wpO (bnS .rem (some y25) v6 v8) fun v9 =>
 wpO (ixS cT y100 (e 5) (e 13)) fun v10 =>
 wpO (stS y25 S v10 v9) fun S11 =>
 wpO (bnS .add (some y3) (e 13) (.int .i64 1)) fun v12 =>
 DenP cT 44 (.loop L59_0) (ups e [(14, v4), (15, (e 13)), (16, v5), (17, v6), (6, (e 13)), (7, v6), (18, (e 5)), (19, (e 13)), (20, v6), (21, v7), (22, v8), (23, v9), (24, v10), (25, v12), (13, v12)]) S11 k)
 (k (.exit 0) (ups e [(14, v4)]) S)
noncomputable def TK59_0e0 (e : En) (S : Zt) (k : SV → Zt → Prop) : Prop :=
 DenP cT 44 (.loop L59_1) e S (K59_1 k)
noncomputable def TL59_1 (e : En) (S : Zt) (k : X → En → Zt → Prop) : Prop :=
 wpO (lenS y100 (e 5)) fun v13 =>
 wpO (bnS .gtr (some y3) v13 (.int .i64 0)) fun v14 =>
 grdP (some v14) true (fun k => k (e 5) S) S fun v15 S16 =>
 grdP (some v14) true (fun k => k (e 5) S16) S16 fun v17 S18 =>
 grdP (some v14) true (fun k => wpO (lenS y100 v17) fun v19 => k v19 S18) S18 fun v20 S21 =>
 grdP (some v14) true (fun k => wpO (bnS .sub (some y3) v20 (.int .i64 1)) fun v22 => k v22 S21) S21 fun v23 S24 =>
 grdP (some v14) true (fun k => wpO (ixS cT y100 v15 v23) fun v25 => k v25 S24) S24 fun v26 S27 =>
 grdP (some v14) true (fun k => wpO (ldS y25 S27 v26) fun v28 => k v28 S27) S27 fun v29 S30 =>
 grdP (some v14) true (fun k => wpO (bnS .eql (some y25) v29 (.int .u64 (0))) fun v31 => k v31 S30) S30 fun v32 S33 =>
 wpO (pickS v14 v32 (.bool false)) fun v34 =>
 condP v34
 (wpO (lenS y100 (e 5)) fun v35 =>
 wpO (bnS .sub (some y3) v35 (.int .i64 1)) fun v36 =>
 wpO (slicS y25 (e 5) none (some v36) none) fun v37 =>
 DenP cT 44 (.loop L59_1) (ups e [(26, (e 5)), (27, v13), (28, v14), (29, v14), (30, v15), (31, v17), (32, v20), (33, v23), (34, v26), (35, v29), (36, v32), (37, v34), (38, (e 5)), (39, (e 5)), (40, v35), (41, v36), (42, v37), (5, v37)]) S33 k)
 (k (.exit 2) (ups e [(26, (e 5)), (27, v13), (28, v14), (29, v14), (30, v15), (31, v17), (32, v20), (33, v23), (34, v26), (35, v29), (36, v32), (37, v34)]) S33)
noncomputable def TK59_1e2 (e : En) (S : Zt) (k : SV → Zt → Prop) : Prop :=
 k (e 5) S
theorem F59_ok{x0 x1:SV}{S:Zt}{k:SV→Zt→Prop}(h:F59 x0 x1 S k):wpO (bW cT 59 [x0,x1] S) (fun p=>k p.1 p.2):=bo (fn:=Tryz.f59) (by kernel_rfl) (by kernel_rfl) (Nat.le_of_ble_eq_true (by kernel_rfl)) ((show F59 x0 x1 S k=wpC cT Tryz.f59.ntmps B59 (argE [x0,x1]) S (outP cT Tryz.f59 k)by kernel_rfl).mp h)
theorem L59_0_ok{e:En}{S:Zt}{k:X→En→Zt→Prop}(h:TL59_0 e S k):DenP cT 44 (.loop L59_0) e S k:=loopP_of ((show TL59_0 e S k=wpC cT 44 L59_0 e S (againP cT 44 L59_0 k)by kernel_rfl).mp h)
theorem K59_0e0_ok{e:En}{S:Zt}{k:SV→Zt→Prop}(h:TK59_0e0 e S k):K59_0 k (.exit 0) e S:=(show TK59_0e0 e S k=K59_0 k (.exit 0) e S by kernel_rfl).mp h
theorem L59_1_ok{e:En}{S:Zt}{k:X→En→Zt→Prop}(h:TL59_1 e S k):DenP cT 44 (.loop L59_1) e S k:=loopP_of ((show TL59_1 e S k=wpC cT 44 L59_1 e S (againP cT 44 L59_1 k)by kernel_rfl).mp h)
theorem K59_1e2_ok{e:En}{S:Zt}{k:SV→Zt→Prop}(h:TK59_1e2 e S k):K59_1 k (.exit 2) e S:=(show TK59_1e2 e S k=K59_1 k (.exit 2) e S by kernel_rfl).mp h
noncomputable abbrev B179:Code:=bodyOf Tryz.f179
noncomputable def L179_0:Code:=cA [1,1,1,0,1,0,0] B179
noncomputable def K179_0(k:SV→Zt→Prop):X→En→Zt→Prop:=cont cT 46 [1,1,1,0,1,0] B179 (outP cT Tryz.f179 k)
noncomputable def F179 (x0 x1 x2 x3 : SV) (S : Zt) (k : SV → Zt → Prop) : Prop :=
 wpO (alS x0 S) fun p0 =>
 wpO (lenS y100 x1) fun v1 =>
 wpO (lenS y100 x3) fun v2 =>
 wpO (foldS max2S v1 [v2]) fun v3 =>
 wpO (mkslS y25 v3 v3 p0.2) fun p4 =>
 wpO (copyS y25.size p4.2 p4.1 x1) fun p5 =>
 wpO (lenS y100 x3) fun v6 =>
 DenP cT 46 (.loop L179_0) (ups (argE [x0, x1, x2, x3]) [(4, p0.1), (8, (.vsl [] .nil)), (12, x1), (13, v1), (14, x3), (15, v2), (16, v3), (17, p4.1), (9, p4.1), (18, p4.1), (19, x1), (20, p5.1), (21, x3), (22, v6), (23, (.int .i64 0))]) p5.2 (K179_0 k)
noncomputable def TL179_0 (e : En) (S : Zt) (k : X → En → Zt → Prop) : Prop :=
 wpO (bnS .lss (some y3) (e 23) (e 22)) fun v7 =>
 condP v7
 (wpO (ixS cT y100 (e 21) (e 23)) fun v8 =>
 wpO (ldS y25 S v8) fun v9 =>
 wpO (ixS cT y100 (e 9) (e 23)) fun v10 =>
 wpO (ldS y25 S v10) fun v11 =>
 wpO (bnS .mul (some y25) (e 2) v9) fun v12 =>
 wpO (bnS .add (some y25) v11 v12) fun v13 =>
 wpO (faS cT y99 (e 4) 0) fun v14 =>
 wpO (ldS y25 S v14) fun v15 =>
 wpO (bnS .rem (some y25) v13 v15) fun v16 =>
 wpO (ixS cT y100 (e 9) (e 23)) fun v17 =>
 wpO (stS y25 S v17 v16) fun S18 =>
 wpO (bnS .add (some y3) (e 23) (.int .i64 1)) fun v19 =>
 DenP cT 46 (.loop L179_0) (ups e [(24, v7), (25, (e 23)), (26, v8), (27, v9), (10, (e 23)), (11, v9), (28, (e 9)), (29, (e 23)), (30, (e 9)), (31, (e 23)), (32, v10), (33, v11), (34, (e 2)), (35, v9), (36, v12), (37, v13), (38, v14), (39, v15), (40, v16), (41, v17), (42, v19), (23, v19)]) S18 k)
 (k (.exit 0) (ups e [(24, v7)]) S)
noncomputable def TK179_0e0 (e : En) (S : Zt) (k : SV → Zt → Prop) : Prop :=
 wpO (ldS y99 S (e 4)) fun v20 =>
 wpO (cW cT 59 [v20, (e 9)] S) fun p21 =>
 k p21.1 p21.2
theorem F179_ok{x0 x1 x2 x3:SV}{S:Zt}{k:SV→Zt→Prop}(h:F179 x0 x1 x2 x3 S k):wpO (bW cT 179 [x0,x1,x2,x3] S) (fun p=>k p.1 p.2):=bo (fn:=Tryz.f179) (by kernel_rfl) (by kernel_rfl) (Nat.le_of_ble_eq_true (by kernel_rfl)) ((show F179 x0 x1 x2 x3 S k=wpC cT Tryz.f179.ntmps B179 (argE [x0,x1,x2,x3]) S (outP cT Tryz.f179 k)by kernel_rfl).mp h)
theorem L179_0_ok{e:En}{S:Zt}{k:X→En→Zt→Prop}(h:TL179_0 e S k):DenP cT 46 (.loop L179_0) e S k:=loopP_of ((show TL179_0 e S k=wpC cT 46 L179_0 e S (againP cT 46 L179_0 k)by kernel_rfl).mp h)
theorem K179_0e0_ok{e:En}{S:Zt}{k:SV→Zt→Prop}(h:TK179_0e0 e S k):K179_0 k (.exit 0) e S:=(show TK179_0e0 e S k=K179_0 k (.exit 0) e S by kernel_rfl).mp h
noncomputable abbrev B131:Code:=bodyOf Tryz.f131
noncomputable def F131 (x0 x1 x2 : SV) (S : Zt) (k : SV → Zt → Prop) : Prop :=
 wpO (alS x0 S) fun p0 =>
 wpO (ldS y99 p0.2 p0.1) fun v1 =>
 wpO (faS cT y99 p0.1 0) fun v2 =>
 wpO (ldS y25 p0.2 v2) fun v3 =>
 wpO (bnS .sub (some y25) v3 (.int .u64 (1))) fun v4 =>
 wpO (cW cT 179 [v1, x1, v4, x2] p0.2) fun p5 =>
 k p5.1 p5.2
theorem F131_ok{x0 x1 x2:SV}{S:Zt}{k:SV→Zt→Prop}(h:F131 x0 x1 x2 S k):wpO (bW cT 131 [x0,x1,x2] S) (fun p=>k p.1 p.2):=bo (fn:=Tryz.f131) (by kernel_rfl) (by kernel_rfl) (Nat.le_of_ble_eq_true (by kernel_rfl)) ((show F131 x0 x1 x2 S k=wpC cT Tryz.f131.ntmps B131 (argE [x0,x1,x2]) S (outP cT Tryz.f131 k)by kernel_rfl).mp h)
noncomputable abbrev B99:Code:=bodyOf Tryz.f99
noncomputable def L99_0:Code:=cA [1,1,1,0,1,0,0] B99
noncomputable def L99_1:Code:=cA [1,1,1,0,1,0,0,1,1,0,0,1,1,0,0] B99
noncomputable def K99_0(k:SV→Zt→Prop):X→En→Zt→Prop:=cont cT 64 [1,1,1,0,1,0] B99 (outP cT Tryz.f99 k)
noncomputable def K99_1(k:X→En→Zt→Prop):X→En→Zt→Prop:=cont cT 64 [1,1,0,0,1,1,0] L99_0 (againP cT 64 L99_0 k)
noncomputable def F99 (x0 x1 x2 : SV) (S : Zt) (k : SV → Zt → Prop) : Prop :=
 wpO (alS x0 S) fun p0 =>
 wpO (lenS y100 x1) fun v1 =>
 wpO (bnS .eql (some y3) v1 (.int .i64 0)) fun v2 =>
 grdP (some v2) false (fun k => k x2 p0.2) p0.2 fun v3 S4 =>
 grdP (some v2) false (fun k => wpO (lenS y100 v3) fun v5 => k v5 S4) S4 fun v6 S7 =>
 grdP (some v2) false (fun k => wpO (bnS .eql (some y3) v6 (.int .i64 0)) fun v8 => k v8 S7) S7 fun v9 S10 =>
 wpO (pickS v2 (.bool true) v9) fun v11 =>
 condP v11
 (k (.vsl [] .nil) S10)
 (wpO (lenS y100 x1) fun v12 =>
 wpO (lenS y100 x2) fun v13 =>
 wpO (bnS .add (some y3) v12 v13) fun v14 =>
 wpO (bnS .sub (some y3) v14 (.int .i64 1)) fun v15 =>
 wpO (mkslS y25 v15 v15 S10) fun p16 =>
 wpO (lenS y100 x1) fun v17 =>
 DenP cT 64 (.loop L99_0) (ups (argE [x0, x1, x2]) [(3, p0.1), (6, (.vsl [] .nil)), (12, x1), (13, v1), (14, v2), (15, v2), (16, v3), (17, v6), (18, v9), (19, v11), (20, x1), (21, v12), (22, x2), (23, v13), (24, v14), (25, v15), (26, p16.1), (7, p16.1), (27, x1), (28, v17), (29, (.int .i64 0))]) p16.2 (K99_0 k))
noncomputable def TL99_0 (e : En) (S : Zt) (k : X → En → Zt → Prop) : Prop :=
 wpO (bnS .lss (some y3) (e 29) (e 28)) fun v18 =>
 condP v18
 (wpO (ixS cT y100 (e 27) (e 29)) fun v19 =>
 wpO (ldS y25 S v19) fun v20 =>
 wpO (lenS y100 (e 2)) fun v21 =>
 DenP cT 64 (.loop L99_1) (ups e [(30, v18), (31, (e 29)), (32, v19), (33, v20), (8, (e 29)), (9, v20), (34, (e 2)), (35, v21), (36, (.int .i64 0))]) S (K99_1 k))
 (k (.exit 0) (ups e [(30, v18)]) S)
noncomputable def TL99_1 (e : En) (S : Zt) (k : X → En → Zt → Prop) : Prop :=
 wpO (bnS .lss (some y3) (e 36) (e 35)) fun v22 =>
 condP v22
 (wpO (ixS cT y100 (e 34) (e 36)) fun v23 =>
 wpO (ldS y25 S v23) fun v24 =>
 wpO (bnS .add (some y3) (e 8) (e 36)) fun v25 =>
 wpO (bnS .add (some y3) (e 8) (e 36)) fun v26 =>
 wpO (ixS cT y100 (e 7) v26) fun v27 =>
 wpO (ldS y25 S v27) fun v28 =>
 wpO (bnS .mul (some y25) (e 9) v24) fun v29 =>
 wpO (bnS .add (some y25) v28 v29) fun v30 =>
 wpO (faS cT y99 (e 3) 0) fun v31 =>
 wpO (ldS y25 S v31) fun v32 =>
 wpO (bnS .rem (some y25) v30 v32) fun v33 =>
 wpO (ixS cT y100 (e 7) v25) fun v34 =>
 wpO (stS y25 S v34 v33) fun S35 =>
 wpO (bnS .add (some y3) (e 36) (.int .i64 1)) fun v36 =>
 DenP cT 64 (.loop L99_1) (ups e [(37, v22), (38, (e 36)), (39, v23), (40, v24), (10, (e 36)), (11, v24), (41, (e 7)), (42, (e 8)), (43, (e 36)), (44, v25), (45, (e 7)), (46, (e 8)), (47, (e 36)), (48, v26), (49, v27), (50, v28), (51, (e 9)), (52, v24), (53, v29), (54, v30), (55, v31), (56, v32), (57, v33), (58, v34), (59, v36), (36, v36)]) S35 k)
 (k (.exit 2) (ups e [(37, v22)]) S)
noncomputable def TK99_0e0 (e : En) (S : Zt) (k : SV → Zt → Prop) : Prop :=
 wpO (ldS y99 S (e 3)) fun v37 =>
 wpO (cW cT 59 [v37, (e 7)] S) fun p38 =>
 k p38.1 p38.2
noncomputable def TK99_1e2 (e : En) (S : Zt) (k : X → En → Zt → Prop) : Prop :=
 wpO (bnS .add (some y3) (e 29) (.int .i64 1)) fun v39 =>
 DenP cT 64 (.loop L99_0) (ups e [(60, v39), (29, v39)]) S k
theorem F99_ok{x0 x1 x2:SV}{S:Zt}{k:SV→Zt→Prop}(h:F99 x0 x1 x2 S k):wpO (bW cT 99 [x0,x1,x2] S) (fun p=>k p.1 p.2):=bo (fn:=Tryz.f99) (by kernel_rfl) (by kernel_rfl) (Nat.le_of_ble_eq_true (by kernel_rfl)) ((show F99 x0 x1 x2 S k=wpC cT Tryz.f99.ntmps B99 (argE [x0,x1,x2]) S (outP cT Tryz.f99 k)by kernel_rfl).mp h)
theorem L99_0_ok{e:En}{S:Zt}{k:X→En→Zt→Prop}(h:TL99_0 e S k):DenP cT 64 (.loop L99_0) e S k:=loopP_of ((show TL99_0 e S k=wpC cT 64 L99_0 e S (againP cT 64 L99_0 k)by kernel_rfl).mp h)
theorem L99_1_ok{e:En}{S:Zt}{k:X→En→Zt→Prop}(h:TL99_1 e S k):DenP cT 64 (.loop L99_1) e S k:=loopP_of ((show TL99_1 e S k=wpC cT 64 L99_1 e S (againP cT 64 L99_1 k)by kernel_rfl).mp h)
theorem K99_0e0_ok{e:En}{S:Zt}{k:SV→Zt→Prop}(h:TK99_0e0 e S k):K99_0 k (.exit 0) e S:=(show TK99_0e0 e S k=K99_0 k (.exit 0) e S by kernel_rfl).mp h
theorem K99_1e2_ok{e:En}{S:Zt}{k:X→En→Zt→Prop}(h:TK99_1e2 e S k):K99_1 k (.exit 2) e S:=(show TK99_1e2 e S k=K99_1 k (.exit 2) e S by kernel_rfl).mp h
noncomputable abbrev B64:Code:=bodyOf Tryz.f64
noncomputable def L64_0:Code:=cA [1,1,1,1,0,0,0] B64
noncomputable def L64_1:Code:=cA [1,1,1,1,0,0,0,1,0,1,1,1,0,1,0,0] B64
noncomputable def K64_0(k:SV→Zt→Prop):X→En→Zt→Prop:=cont cT 99 [1,1,1,1,0,0] B64 (outP cT Tryz.f64 k)
noncomputable def K64_1(k:X→En→Zt→Prop):X→En→Zt→Prop:=cont cT 99 [1,0,1,1,1,0,1,0] L64_0 (againP cT 99 L64_0 k)
noncomputable def F64 (x0 x1 x2 : SV) (S : Zt) (k : SV → Zt → Prop) : Prop :=
 wpO (alS x0 S) fun p0 =>
 wpO (ldS y99 p0.2 p0.1) fun v1 =>
 wpO (cW cT 59 [v1, x1] p0.2) fun p2 =>
 wpO (lenS y100 x2) fun v3 =>
 wpO (bnS .sub (some y3) v3 (.int .i64 1)) fun v4 =>
 wpO (ixS cT y100 x2 v4) fun v5 =>
 wpO (ldS y25 p2.2 v5) fun v6 =>
 wpO (faS cT y99 p0.1 0) fun v7 =>
 wpO (ldS y25 p2.2 v7) fun v8 =>
 wpO (cW cT 127 [v6, v8] p2.2) fun p9 =>
 wpO (extS p9.1 0) fun v10 =>
 wpO (extS p9.1 1) fun v11 =>
 wpO (lenS y100 p2.1) fun v12 =>
 wpO (lenS y100 x2) fun v13 =>
 wpO (bnS .sub (some y3) v12 v13) fun v14 =>
 wpO (bnS .add (some y3) v14 (.int .i64 1)) fun v15 =>
 wpO (foldS max2S v15 [(.int .i64 0)]) fun v16 =>
 wpO (mkslS y25 v16 v16 p9.2) fun p17 =>
 DenP cT 99 (.loop L64_0) (ups (argE [x0, x1, x2]) [(3, p0.1), (6, (.vsl [] .nil)), (7, (.vsl [] .nil)), (15, v1), (16, x1), (17, p2.1), (1, p2.1), (19, x2), (20, x2), (21, v3), (22, v4), (23, v5), (24, v6), (25, v7), (26, v8), (27, p9.1), (18, p9.1), (28, v10), (29, v11), (8, v10), (9, v11), (30, p2.1), (31, v12), (32, x2), (33, v13), (34, v14), (35, v15), (36, v16), (37, p17.1), (10, p17.1)]) p17.2 (K64_0 k)
noncomputable def TL64_0 (e : En) (S : Zt) (k : X → En → Zt → Prop) : Prop :=
 wpO (lenS y100 (e 1)) fun v18 =>
 wpO (lenS y100 (e 2)) fun v19 =>
 wpO (bnS .geq (some y3) v18 v19) fun v20 =>
 condP v20
 (wpO (lenS y100 (e 1)) fun v21 =>
 wpO (lenS y100 (e 2)) fun v22 =>
 wpO (bnS .sub (some y3) v21 v22) fun v23 =>
 wpO (lenS y100 (e 1)) fun v24 =>
 wpO (bnS .sub (some y3) v24 (.int .i64 1)) fun v25 =>
 wpO (ixS cT y100 (e 1) v25) fun v26 =>
 wpO (ldS y25 S v26) fun v27 =>
 wpO (bnS .mul (some y25) v27 (e 8)) fun v28 =>
 wpO (faS cT y99 (e 3) 0) fun v29 =>
 wpO (ldS y25 S v29) fun v30 =>
 wpO (bnS .rem (some y25) v28 v30) fun v31 =>
 wpO (ixS cT y100 (e 10) v23) fun v32 =>
 wpO (stS y25 S v32 v31) fun S33 =>
 wpO (lenS y100 (e 2)) fun v34 =>
 DenP cT 99 (.loop L64_1) (ups e [(38, (e 1)), (39, v18), (40, (e 2)), (41, v19), (42, v20), (43, (e 1)), (44, v21), (45, (e 2)), (46, v22), (47, v23), (11, v23), (48, (e 1)), (49, (e 1)), (50, v24), (51, v25), (52, v26), (53, v27), (54, (e 8)), (55, v28), (56, v29), (57, v30), (58, v31), (12, v31), (59, (e 10)), (60, v23), (61, v31), (62, v32), (63, (e 2)), (64, v34), (65, (.int .i64 0))]) S33 (K64_1 k))
 (k (.exit 0) (ups e [(38, (e 1)), (39, v18), (40, (e 2)), (41, v19), (42, v20)]) S)
noncomputable def TL64_1 (e : En) (S : Zt) (k : X → En → Zt → Prop) : Prop :=
 wpO (bnS .lss (some y3) (e 65) (e 64)) fun v35 =>
 condP v35
 (wpO (ixS cT y100 (e 63) (e 65)) fun v36 =>
 wpO (ldS y25 S v36) fun v37 =>
 wpO (bnS .add (some y3) (e 11) (e 65)) fun v38 =>
 wpO (bnS .add (some y3) (e 11) (e 65)) fun v39 =>
 wpO (ixS cT y100 (e 1) v39) fun v40 =>
 wpO (ldS y25 S v40) fun v41 =>
 wpO (faS cT y99 (e 3) 0) fun v42 =>
 wpO (ldS y25 S v42) fun v43 =>
 wpO (bnS .sub (some y25) v43 (e 12)) fun v44 =>
 wpO (bnS .mul (some y25) v44 v37) fun v45 =>
 wpO (bnS .add (some y25) v41 v45) fun v46 =>
 wpO (faS cT y99 (e 3) 0) fun v47 =>
 wpO (ldS y25 S v47) fun v48 =>
 wpO (bnS .rem (some y25) v46 v48) fun v49 =>
 wpO (ixS cT y100 (e 1) v38) fun v50 =>
 wpO (stS y25 S v50 v49) fun S51 =>
 wpO (bnS .add (some y3) (e 65) (.int .i64 1)) fun v52 =>
 DenP cT 99 (.loop L64_1) (ups e [(66, v35), (67, (e 65)), (68, v36), (69, v37), (13, (e 65)), (14, v37), (70, (e 1)), (71, (e 11)), (72, (e 65)), (73, v38), (74, (e 1)), (75, (e 11)), (76, (e 65)), (77, v39), (78, v40), (79, v41), (80, v42), (81, v43), (82, (e 12)), (83, v44), (84, v37), (85, v45), (86, v46), (87, v47), (88, v48), (89, v49), (90, v50), (91, v52), (65, v52)]) S51 k)
 (k (.exit 2) (ups e [(66, v35)]) S)
noncomputable def TK64_0e0 (e : En) (S : Zt) (k : SV → Zt → Prop) : Prop :=
 wpO (ldS y99 S (e 3)) fun v53 =>
 wpO (cW cT 59 [v53, (e 10)] S) fun p54 =>
 k (.tup [p54.1, (e 1)]) p54.2
noncomputable def TK64_1e2 (e : En) (S : Zt) (k : X → En → Zt → Prop) : Prop :=
 wpO (ldS y99 S (e 3)) fun v55 =>
 wpO (cW cT 59 [v55, (e 1)] S) fun p56 =>
 DenP cT 99 (.loop L64_0) (ups e [(92, v55), (93, (e 1)), (94, p56.1), (1, p56.1)]) p56.2 k
theorem F64_ok{x0 x1 x2:SV}{S:Zt}{k:SV→Zt→Prop}(h:F64 x0 x1 x2 S k):wpO (bW cT 64 [x0,x1,x2] S) (fun p=>k p.1 p.2):=bo (fn:=Tryz.f64) (by kernel_rfl) (by kernel_rfl) (Nat.le_of_ble_eq_true (by kernel_rfl)) ((show F64 x0 x1 x2 S k=wpC cT Tryz.f64.ntmps B64 (argE [x0,x1,x2]) S (outP cT Tryz.f64 k)by kernel_rfl).mp h)
theorem L64_0_ok{e:En}{S:Zt}{k:X→En→Zt→Prop}(h:TL64_0 e S k):DenP cT 99 (.loop L64_0) e S k:=loopP_of ((show TL64_0 e S k=wpC cT 99 L64_0 e S (againP cT 99 L64_0 k)by kernel_rfl).mp h)
theorem L64_1_ok{e:En}{S:Zt}{k:X→En→Zt→Prop}(h:TL64_1 e S k):DenP cT 99 (.loop L64_1) e S k:=loopP_of ((show TL64_1 e S k=wpC cT 99 L64_1 e S (againP cT 99 L64_1 k)by kernel_rfl).mp h)
theorem K64_0e0_ok{e:En}{S:Zt}{k:SV→Zt→Prop}(h:TK64_0e0 e S k):K64_0 k (.exit 0) e S:=(show TK64_0e0 e S k=K64_0 k (.exit 0) e S by kernel_rfl).mp h
theorem K64_1e2_ok{e:En}{S:Zt}{k:X→En→Zt→Prop}(h:TK64_1e2 e S k):K64_1 k (.exit 2) e S:=(show TK64_1e2 e S k=K64_1 k (.exit 2) e S by kernel_rfl).mp h
noncomputable abbrev B132:Code:=bodyOf Tryz.f132
noncomputable def F132 (x0 x1 x2 : SV) (S : Zt) (k : SV → Zt → Prop) : Prop :=
 wpO (alS x0 S) fun p0 =>
 wpO (ldS y99 p0.2 p0.1) fun v1 =>
 wpO (cW cT 64 [v1, x1, x2] p0.2) fun p2 =>
 wpO (extS p2.1 0) fun v3 =>
 wpO (extS p2.1 1) fun v4 =>
 k v4 p2.2
theorem F132_ok{x0 x1 x2:SV}{S:Zt}{k:SV→Zt→Prop}(h:F132 x0 x1 x2 S k):wpO (bW cT 132 [x0,x1,x2] S) (fun p=>k p.1 p.2):=bo (fn:=Tryz.f132) (by kernel_rfl) (by kernel_rfl) (Nat.le_of_ble_eq_true (by kernel_rfl)) ((show F132 x0 x1 x2 S k=wpC cT Tryz.f132.ntmps B132 (argE [x0,x1,x2]) S (outP cT Tryz.f132 k)by kernel_rfl).mp h)
noncomputable abbrev B129:Code:=bodyOf Tryz.f129
noncomputable def F129 (x0 x1 x2 : SV) (S : Zt) (k : SV → Zt → Prop) : Prop :=
 wpO (alS x0 S) fun p0 =>
 wpO (ldS y99 p0.2 p0.1) fun v1 =>
 wpO (cW cT 64 [v1, x1, x2] p0.2) fun p2 =>
 wpO (extS p2.1 0) fun v3 =>
 wpO (extS p2.1 1) fun v4 =>
 k v3 p2.2
theorem F129_ok{x0 x1 x2:SV}{S:Zt}{k:SV→Zt→Prop}(h:F129 x0 x1 x2 S k):wpO (bW cT 129 [x0,x1,x2] S) (fun p=>k p.1 p.2):=bo (fn:=Tryz.f129) (by kernel_rfl) (by kernel_rfl) (Nat.le_of_ble_eq_true (by kernel_rfl)) ((show F129 x0 x1 x2 S k=wpC cT Tryz.f129.ntmps B129 (argE [x0,x1,x2]) S (outP cT Tryz.f129 k)by kernel_rfl).mp h)
noncomputable abbrev B58:Code:=bodyOf Tryz.f58
noncomputable def F58 (x0 x1 : SV) (S : Zt) (k : SV → Zt → Prop) : Prop :=
 wpO (alS x0 S) fun p0 =>
 wpO (lenS y100 x1) fun v1 =>
 wpO (bnS .eql (some y3) v1 (.int .i64 0)) fun v2 =>
 condP v2
 (k (.vsl [] .nil) p0.2)
 (wpO (lenS y100 x1) fun v3 =>
 wpO (bnS .sub (some y3) v3 (.int .i64 1)) fun v4 =>
 wpO (ixS cT y100 x1 v4) fun v5 =>
 wpO (ldS y25 p0.2 v5) fun v6 =>
 wpO (faS cT y99 p0.1 0) fun v7 =>
 wpO (ldS y25 p0.2 v7) fun v8 =>
 wpO (cW cT 127 [v6, v8] p0.2) fun p9 =>
 wpO (extS p9.1 0) fun v10 =>
 wpO (extS p9.1 1) fun v11 =>
 wpO (ldS y99 p9.2 p0.1) fun v12 =>
 wpO (bslS y25 1 [(0, v10)] p9.2) fun p13 =>
 wpO (cW cT 99 [v12, p13.1, x1] p13.2) fun p14 =>
 k p14.1 p14.2)
theorem F58_ok{x0 x1:SV}{S:Zt}{k:SV→Zt→Prop}(h:F58 x0 x1 S k):wpO (bW cT 58 [x0,x1] S) (fun p=>k p.1 p.2):=bo (fn:=Tryz.f58) (by kernel_rfl) (by kernel_rfl) (Nat.le_of_ble_eq_true (by kernel_rfl)) ((show F58 x0 x1 S k=wpC cT Tryz.f58.ntmps B58 (argE [x0,x1]) S (outP cT Tryz.f58 k)by kernel_rfl).mp h)
noncomputable abbrev B98:Code:=bodyOf Tryz.f98
noncomputable def L98_0:Code:=cA [1,0,0,0] B98
noncomputable def K98_0(k:SV→Zt→Prop):X→En→Zt→Prop:=cont cT 18 [1,0,0] B98 (outP cT Tryz.f98 k)
noncomputable def F98 (x0 x1 x2 : SV) (S : Zt) (k : SV → Zt → Prop) : Prop :=
 wpO (alS x0 S) fun p0 =>
 DenP cT 18 (.loop L98_0) (ups (argE [x0, x1, x2]) [(3, p0.1), (6, (.vsl [] .nil))]) p0.2 (K98_0 k)
noncomputable def TL98_0 (e : En) (S : Zt) (k : X → En → Zt → Prop) : Prop :=
 wpO (lenS y100 (e 2)) fun v1 =>
 wpO (bnS .gtr (some y3) v1 (.int .i64 0)) fun v2 =>
 condP v2
 (wpO (ldS y99 S (e 3)) fun v3 =>
 wpO (cW cT 132 [v3, (e 1), (e 2)] S) fun p4 =>
 DenP cT 18 (.loop L98_0) (ups e [(7, (e 2)), (8, v1), (9, v2), (10, (e 2)), (11, v3), (12, (e 1)), (13, (e 2)), (14, p4.1), (1, (e 2)), (2, p4.1)]) p4.2 k)
 (k (.exit 0) (ups e [(7, (e 2)), (8, v1), (9, v2)]) S)
noncomputable def TK98_0e0 (e : En) (S : Zt) (k : SV → Zt → Prop) : Prop :=
 wpO (ldS y99 S (e 3)) fun v5 =>
 wpO (cW cT 58 [v5, (e 1)] S) fun p6 =>
 k p6.1 p6.2
theorem F98_ok{x0 x1 x2:SV}{S:Zt}{k:SV→Zt→Prop}(h:F98 x0 x1 x2 S k):wpO (bW cT 98 [x0,x1,x2] S) (fun p=>k p.1 p.2):=bo (fn:=Tryz.f98) (by kernel_rfl) (by kernel_rfl) (Nat.le_of_ble_eq_true (by kernel_rfl)) ((show F98 x0 x1 x2 S k=wpC cT Tryz.f98.ntmps B98 (argE [x0,x1,x2]) S (outP cT Tryz.f98 k)by kernel_rfl).mp h)
theorem L98_0_ok{e:En}{S:Zt}{k:X→En→Zt→Prop}(h:TL98_0 e S k):DenP cT 18 (.loop L98_0) e S k:=loopP_of ((show TL98_0 e S k=wpC cT 18 L98_0 e S (againP cT 18 L98_0 k)by kernel_rfl).mp h)
theorem K98_0e0_ok{e:En}{S:Zt}{k:SV→Zt→Prop}(h:TK98_0e0 e S k):K98_0 k (.exit 0) e S:=(show TK98_0e0 e S k=K98_0 k (.exit 0) e S by kernel_rfl).mp h
end Go.Proofs
