/-
  Functions that the law reaches, laid out (5).
-/
import Derived.Test.YtilhffelllbggaaGreatShG
import Derived.Test.YtilhffelllbggaaGreatLc
set_option linter.unusedVariables false
set_option linter.unusedSimpArgs false
set_option maxRecDepth 100000
namespace Go.Proofs
open Go Go.Sh
noncomputable abbrev B59:Code:=bodyOf Tryz.f59
noncomputable def L59_0:Code:=codeAt [1,1,0,1,0,0] B59
noncomputable def L59_1:Code:=codeAt [1,1,1,0,0,0] B59
noncomputable def K59_0(k:SV→Zt→Prop):X→En→Zt→Prop:=cont cT 44 [1,1,0,1,0] B59 (outP cT Tryz.f59 k)
noncomputable def K59_1(k:SV→Zt→Prop):X→En→Zt→Prop:=cont cT 44 [1,1,1,0,0] B59 (outP cT Tryz.f59 k)
noncomputable def F59 (x0 x1 : SV) (S : Zt) (k : SV → Zt → Prop) : Prop :=
 wpO (alS x0 S) fun p0 =>
 wpO (lenS y100 x1) fun v1 =>
 wpO (mkslS y25 v1 v1 p0.2) fun p2 =>
 wpO (lenS y100 x1) fun v3 =>
 DenP cT 44 (.loop L59_0) (ups (argE [x0, x1]) [(2, p0.1), (4, (.vsl [] .nil)), (8, x1), (9, v1), (10, p2.1), (5, p2.1), (11, x1), (12, v3), (13, (.int .i64 0))]) p2.2 (K59_0 k)
noncomputable def TL59_0 (e : En) (S : Zt) (k : X → En → Zt → Prop) : Prop :=
 wpO (bnS .lss (some y3) (e 13) (e 12)) fun v4 =>
 condP v4
 (wpO (ixS cT y100 (e 11) (e 13)) fun v5 =>
 wpO (ldS y25 S v5) fun v6 =>
 wpO (faS cT y99 (e 2) 0) fun v7 =>
 wpO (ldS y25 S v7) fun v8 =>
 wpO (bnS .rem (some y25) v6 v8) fun v9 =>
 wpO (ixS cT y100 (e 5) (e 13)) fun v10 =>
 wpO (stS y25 S v10 v9) fun S11 =>
 wpO (bnS .add (some y3) (e 13) (.int .i64 1)) fun v12 =>
 DenP cT 44 (.loop L59_0) (ups e [(14, v4), (15, (e 13)), (16, v5), (17, v6), (6, (e 13)), (7, v6), (18, (e 5)), (19, (e 13)), (20, v6), (21, v7), (22, v8), (23, v9), (24, v10), (25, v12), (13, v12)]) S11 k)
 (k (.exit 0) (ups e [(14, v4)]) S)
noncomputable def TK59_0e0 (e : En) (S : Zt) (k : SV → Zt → Prop) : Prop :=
 DenP cT 44 (.loop L59_1) e S (K59_1 k)
noncomputable def TL59_1 (e : En) (S : Zt) (k : X → En → Zt → Prop) : Prop :=
 wpO (lenS y100 (e 5)) fun v13 =>
 wpO (bnS .gtr (some y3) v13 (.int .i64 0)) fun v14 =>
 grdP (some v14) true (fun k => k (e 5) S) S fun v15 S16 =>
 grdP (some v14) true (fun k => k (e 5) S16) S16 fun v17 S18 =>
 grdP (some v14) true (fun k => wpO (lenS y100 v17) fun v19 => k v19 S18) S18 fun v20 S21 =>
 grdP (some v14) true (fun k => wpO (bnS .sub (some y3) v20 (.int .i64 1)) fun v22 => k v22 S21) S21 fun v23 S24 =>
 grdP (some v14) true (fun k => wpO (ixS cT y100 v15 v23) fun v25 => k v25 S24) S24 fun v26 S27 =>
 grdP (some v14) true (fun k => wpO (ldS y25 S27 v26) fun v28 => k v28 S27) S27 fun v29 S30 =>
 grdP (some v14) true (fun k => wpO (bnS .eql (some y25) v29 (.int .u64 (0))) fun v31 => k v31 S30) S30 fun v32 S33 =>
 wpO (pickS v14 v32 (.bool false)) fun v34 =>
 condP v34
 (wpO (lenS y100 (e 5)) fun v35 =>
 wpO (bnS .sub (some y3) v35 (.int .i64 1)) fun v36 =>
 wpO (slicS y25 (e 5) none (some v36) none) fun v37 =>
 DenP cT 44 (.loop L59_1) (ups e [(26, (e 5)), (27, v13), (28, v14), (29, v14), (30, v15), (31, v17), (32, v20), (33, v23), (34, v26), (35, v29), (36, v32), (37, v34), (38, (e 5)), (39, (e 5)), (40, v35), (41, v36), (42, v37), (5, v37)]) S33 k)
 (k (.exit 2) (ups e [(26, (e 5)), (27, v13), (28, v14), (29, v14), (30, v15), (31, v17), (32, v20), (33, v23), (34, v26), (35, v29), (36, v32), (37, v34)]) S33)
noncomputable def TK59_1e2 (e : En) (S : Zt) (k : SV → Zt → Prop) : Prop :=
 k (e 5) S
theorem F59_ok{x0 x1:SV}{S:Zt}{k:SV→Zt→Prop}(h:F59 x0 x1 S k):wpO (bW cT 59 [x0,x1] S) (fun p=>k p.1 p.2):=bodyP_of (fn:=Tryz.f59) (by kernel_rfl) (by kernel_rfl) (Nat.le_of_ble_eq_true (by kernel_rfl)) ((show F59 x0 x1 S k=wpC cT Tryz.f59.ntmps B59 (argE [x0,x1]) S (outP cT Tryz.f59 k)by kernel_rfl).mp h)
theorem L59_0_ok{e:En}{S:Zt}{k:X→En→Zt→Prop}(h:TL59_0 e S k):DenP cT 44 (.loop L59_0) e S k:=loopP_of ((show TL59_0 e S k=wpC cT 44 L59_0 e S (againP cT 44 L59_0 k)by kernel_rfl).mp h)
theorem K59_0e0_ok{e:En}{S:Zt}{k:SV→Zt→Prop}(h:TK59_0e0 e S k):K59_0 k (.exit 0) e S:=(show TK59_0e0 e S k=K59_0 k (.exit 0) e S by kernel_rfl).mp h
theorem L59_1_ok{e:En}{S:Zt}{k:X→En→Zt→Prop}(h:TL59_1 e S k):DenP cT 44 (.loop L59_1) e S k:=loopP_of ((show TL59_1 e S k=wpC cT 44 L59_1 e S (againP cT 44 L59_1 k)by kernel_rfl).mp h)
theorem K59_1e2_ok{e:En}{S:Zt}{k:SV→Zt→Prop}(h:TK59_1e2 e S k):K59_1 k (.exit 2) e S:=(show TK59_1e2 e S k=K59_1 k (.exit 2) e S by kernel_rfl).mp h
noncomputable abbrev B179:Code:=bodyOf Tryz.f179
noncomputable def L179_0:Code:=codeAt [1,1,1,0,1,0,0] B179
noncomputable def K179_0(k:SV→Zt→Prop):X→En→Zt→Prop:=cont cT 46 [1,1,1,0,1,0] B179 (outP cT Tryz.f179 k)
noncomputable def F179 (x0 x1 x2 x3 : SV) (S : Zt) (k : SV → Zt → Prop) : Prop :=
 wpO (alS x0 S) fun p0 =>
 wpO (lenS y100 x1) fun v1 =>
 wpO (lenS y100 x3) fun v2 =>
 wpO (foldS max2S v1 [v2]) fun v3 =>
 wpO (mkslS y25 v3 v3 p0.2) fun p4 =>
 wpO (copyS y25.size p4.2 p4.1 x1) fun p5 =>
 wpO (lenS y100 x3) fun v6 =>
 DenP cT 46 (.loop L179_0) (ups (argE [x0, x1, x2, x3]) [(4, p0.1), (8, (.vsl [] .nil)), (12, x1), (13, v1), (14, x3), (15, v2), (16, v3), (17, p4.1), (9, p4.1), (18, p4.1), (19, x1), (20, p5.1), (21, x3), (22, v6), (23, (.int .i64 0))]) p5.2 (K179_0 k)
noncomputable def TL179_0 (e : En) (S : Zt) (k : X → En → Zt → Prop) : Prop :=
 wpO (bnS .lss (some y3) (e 23) (e 22)) fun v7 =>
 condP v7
 (wpO (ixS cT y100 (e 21) (e 23)) fun v8 =>
 wpO (ldS y25 S v8) fun v9 =>
 wpO (ixS cT y100 (e 9) (e 23)) fun v10 =>
 wpO (ldS y25 S v10) fun v11 =>
 wpO (bnS .mul (some y25) (e 2) v9) fun v12 =>
 wpO (bnS .add (some y25) v11 v12) fun v13 =>
 wpO (faS cT y99 (e 4) 0) fun v14 =>
 wpO (ldS y25 S v14) fun v15 =>
 wpO (bnS .rem (some y25) v13 v15) fun v16 =>
 wpO (ixS cT y100 (e 9) (e 23)) fun v17 =>
 wpO (stS y25 S v17 v16) fun S18 =>
 wpO (bnS .add (some y3) (e 23) (.int .i64 1)) fun v19 =>
 DenP cT 46 (.loop L179_0) (ups e [(24, v7), (25, (e 23)), (26, v8), (27, v9), (10, (e 23)), (11, v9), (28, (e 9)), (29, (e 23)), (30, (e 9)), (31, (e 23)), (32, v10), (33, v11), (34, (e 2)), (35, v9), (36, v12), (37, v13), (38, v14), (39, v15), (40, v16), (41, v17), (42, v19), (23, v19)]) S18 k)
 (k (.exit 0) (ups e [(24, v7)]) S)
noncomputable def TK179_0e0 (e : En) (S : Zt) (k : SV → Zt → Prop) : Prop :=
 wpO (ldS y99 S (e 4)) fun v20 =>
 wpO (cW cT 59 [v20, (e 9)] S) fun p21 =>
 k p21.1 p21.2
theorem F179_ok{x0 x1 x2 x3:SV}{S:Zt}{k:SV→Zt→Prop}(h:F179 x0 x1 x2 x3 S k):wpO (bW cT 179 [x0,x1,x2,x3] S) (fun p=>k p.1 p.2):=bodyP_of (fn:=Tryz.f179) (by kernel_rfl) (by kernel_rfl) (Nat.le_of_ble_eq_true (by kernel_rfl)) ((show F179 x0 x1 x2 x3 S k=wpC cT Tryz.f179.ntmps B179 (argE [x0,x1,x2,x3]) S (outP cT Tryz.f179 k)by kernel_rfl).mp h)
theorem L179_0_ok{e:En}{S:Zt}{k:X→En→Zt→Prop}(h:TL179_0 e S k):DenP cT 46 (.loop L179_0) e S k:=loopP_of ((show TL179_0 e S k=wpC cT 46 L179_0 e S (againP cT 46 L179_0 k)by kernel_rfl).mp h)
theorem K179_0e0_ok{e:En}{S:Zt}{k:SV→Zt→Prop}(h:TK179_0e0 e S k):K179_0 k (.exit 0) e S:=(show TK179_0e0 e S k=K179_0 k (.exit 0) e S by kernel_rfl).mp h
noncomputable abbrev B131:Code:=bodyOf Tryz.f131
noncomputable def F131 (x0 x1 x2 : SV) (S : Zt) (k : SV → Zt → Prop) : Prop :=
 wpO (alS x0 S) fun p0 =>
 wpO (ldS y99 p0.2 p0.1) fun v1 =>
 wpO (faS cT y99 p0.1 0) fun v2 =>
 wpO (ldS y25 p0.2 v2) fun v3 =>
 wpO (bnS .sub (some y25) v3 (.int .u64 (1))) fun v4 =>
 wpO (cW cT 179 [v1, x1, v4, x2] p0.2) fun p5 =>
 k p5.1 p5.2
theorem F131_ok{x0 x1 x2:SV}{S:Zt}{k:SV→Zt→Prop}(h:F131 x0 x1 x2 S k):wpO (bW cT 131 [x0,x1,x2] S) (fun p=>k p.1 p.2):=bodyP_of (fn:=Tryz.f131) (by kernel_rfl) (by kernel_rfl) (Nat.le_of_ble_eq_true (by kernel_rfl)) ((show F131 x0 x1 x2 S k=wpC cT Tryz.f131.ntmps B131 (argE [x0,x1,x2]) S (outP cT Tryz.f131 k)by kernel_rfl).mp h)
noncomputable abbrev B99:Code:=bodyOf Tryz.f99
noncomputable def L99_0:Code:=codeAt [1,1,1,0,1,0,0] B99
noncomputable def L99_1:Code:=codeAt [1,1,1,0,1,0,0,1,1,0,0,1,1,0,0] B99
noncomputable def K99_0(k:SV→Zt→Prop):X→En→Zt→Prop:=cont cT 64 [1,1,1,0,1,0] B99 (outP cT Tryz.f99 k)
noncomputable def K99_1(k:X→En→Zt→Prop):X→En→Zt→Prop:=cont cT 64 [1,1,0,0,1,1,0] L99_0 (againP cT 64 L99_0 k)
noncomputable def F99 (x0 x1 x2 : SV) (S : Zt) (k : SV → Zt → Prop) : Prop :=
 wpO (alS x0 S) fun p0 =>
 wpO (lenS y100 x1) fun v1 =>
 wpO (bnS .eql (some y3) v1 (.int .i64 0)) fun v2 =>
 grdP (some v2) false (fun k => k x2 p0.2) p0.2 fun v3 S4 =>
 grdP (some v2) false (fun k => wpO (lenS y100 v3) fun v5 => k v5 S4) S4 fun v6 S7 =>
 grdP (some v2) false (fun k => wpO (bnS .eql (some y3) v6 (.int .i64 0)) fun v8 => k v8 S7) S7 fun v9 S10 =>
 wpO (pickS v2 (.bool true) v9) fun v11 =>
 condP v11
 (k (.vsl [] .nil) S10)
 (wpO (lenS y100 x1) fun v12 =>
 wpO (lenS y100 x2) fun v13 =>
 wpO (bnS .add (some y3) v12 v13) fun v14 =>
 wpO (bnS .sub (some y3) v14 (.int .i64 1)) fun v15 =>
 wpO (mkslS y25 v15 v15 S10) fun p16 =>
 wpO (lenS y100 x1) fun v17 =>
 DenP cT 64 (.loop L99_0) (ups (argE [x0, x1, x2]) [(3, p0.1), (6, (.vsl [] .nil)), (12, x1), (13, v1), (14, v2), (15, v2), (16, v3), (17, v6), (18, v9), (19, v11), (20, x1), (21, v12), (22, x2), (23, v13), (24, v14), (25, v15), (26, p16.1), (7, p16.1), (27, x1), (28, v17), (29, (.int .i64 0))]) p16.2 (K99_0 k))
noncomputable def TL99_0 (e : En) (S : Zt) (k : X → En → Zt → Prop) : Prop :=
 wpO (bnS .lss (some y3) (e 29) (e 28)) fun v18 =>
 condP v18
 (wpO (ixS cT y100 (e 27) (e 29)) fun v19 =>
 wpO (ldS y25 S v19) fun v20 =>
 wpO (lenS y100 (e 2)) fun v21 =>
 DenP cT 64 (.loop L99_1) (ups e [(30, v18), (31, (e 29)), (32, v19), (33, v20), (8, (e 29)), (9, v20), (34, (e 2)), (35, v21), (36, (.int .i64 0))]) S (K99_1 k))
 (k (.exit 0) (ups e [(30, v18)]) S)
noncomputable def TL99_1 (e : En) (S : Zt) (k : X → En → Zt → Prop) : Prop :=
 wpO (bnS .lss (some y3) (e 36) (e 35)) fun v22 =>
 condP v22
 (wpO (ixS cT y100 (e 34) (e 36)) fun v23 =>
 wpO (ldS y25 S v23) fun v24 =>
 wpO (bnS .add (some y3) (e 8) (e 36)) fun v25 =>
 wpO (bnS .add (some y3) (e 8) (e 36)) fun v26 =>
 wpO (ixS cT y100 (e 7) v26) fun v27 =>
 wpO (ldS y25 S v27) fun v28 =>
 wpO (bnS .mul (some y25) (e 9) v24) fun v29 =>
 wpO (bnS .add (some y25) v28 v29) fun v30 =>
 wpO (faS cT y99 (e 3) 0) fun v31 =>
 wpO (ldS y25 S v31) fun v32 =>
 wpO (bnS .rem (some y25) v30 v32) fun v33 =>
 wpO (ixS cT y100 (e 7) v25) fun v34 =>
 wpO (stS y25 S v34 v33) fun S35 =>
 wpO (bnS .add (some y3) (e 36) (.int .i64 1)) fun v36 =>
 DenP cT 64 (.loop L99_1) (ups e [(37, v22), (38, (e 36)), (39, v23), (40, v24), (10, (e 36)), (11, v24), (41, (e 7)), (42, (e 8)), (43, (e 36)), (44, v25), (45, (e 7)), (46, (e 8)), (47, (e 36)), (48, v26), (49, v27), (50, v28), (51, (e 9)), (52, v24), (53, v29), (54, v30), (55, v31), (56, v32), (57, v33), (58, v34), (59, v36), (36, v36)]) S35 k)
 (k (.exit 2) (ups e [(37, v22)]) S)
noncomputable def TK99_0e0 (e : En) (S : Zt) (k : SV → Zt → Prop) : Prop :=
 wpO (ldS y99 S (e 3)) fun v37 =>
 wpO (cW cT 59 [v37, (e 7)] S) fun p38 =>
 k p38.1 p38.2
noncomputable def TK99_1e2 (e : En) (S : Zt) (k : X → En → Zt → Prop) : Prop :=
 wpO (bnS .add (some y3) (e 29) (.int .i64 1)) fun v39 =>
 DenP cT 64 (.loop L99_0) (ups e [(60, v39), (29, v39)]) S k
theorem F99_ok{x0 x1 x2:SV}{S:Zt}{k:SV→Zt→Prop}(h:F99 x0 x1 x2 S k):wpO (bW cT 99 [x0,x1,x2] S) (fun p=>k p.1 p.2):=bodyP_of (fn:=Tryz.f99) (by kernel_rfl) (by kernel_rfl) (Nat.le_of_ble_eq_true (by kernel_rfl)) ((show F99 x0 x1 x2 S k=wpC cT Tryz.f99.ntmps B99 (argE [x0,x1,x2]) S (outP cT Tryz.f99 k)by kernel_rfl).mp h)
theorem L99_0_ok{e:En}{S:Zt}{k:X→En→Zt→Prop}(h:TL99_0 e S k):DenP cT 64 (.loop L99_0) e S k:=loopP_of ((show TL99_0 e S k=wpC cT 64 L99_0 e S (againP cT 64 L99_0 k)by kernel_rfl).mp h)
theorem L99_1_ok{e:En}{S:Zt}{k:X→En→Zt→Prop}(h:TL99_1 e S k):DenP cT 64 (.loop L99_1) e S k:=loopP_of ((show TL99_1 e S k=wpC cT 64 L99_1 e S (againP cT 64 L99_1 k)by kernel_rfl).mp h)
theorem K99_0e0_ok{e:En}{S:Zt}{k:SV→Zt→Prop}(h:TK99_0e0 e S k):K99_0 k (.exit 0) e S:=(show TK99_0e0 e S k=K99_0 k (.exit 0) e S by kernel_rfl).mp h
theorem K99_1e2_ok{e:En}{S:Zt}{k:X→En→Zt→Prop}(h:TK99_1e2 e S k):K99_1 k (.exit 2) e S:=(show TK99_1e2 e S k=K99_1 k (.exit 2) e S by kernel_rfl).mp h
noncomputable abbrev B64:Code:=bodyOf Tryz.f64
noncomputable def L64_0:Code:=codeAt [1,1,1,1,0,0,0] B64
noncomputable def L64_1:Code:=codeAt [1,1,1,1,0,0,0,1,0,1,1,1,0,1,0,0] B64
noncomputable def K64_0(k:SV→Zt→Prop):X→En→Zt→Prop:=cont cT 99 [1,1,1,1,0,0] B64 (outP cT Tryz.f64 k)
noncomputable def K64_1(k:X→En→Zt→Prop):X→En→Zt→Prop:=cont cT 99 [1,0,1,1,1,0,1,0] L64_0 (againP cT 99 L64_0 k)
noncomputable def F64 (x0 x1 x2 : SV) (S : Zt) (k : SV → Zt → Prop) : Prop :=
 wpO (alS x0 S) fun p0 =>
 wpO (ldS y99 p0.2 p0.1) fun v1 =>
 wpO (cW cT 59 [v1, x1] p0.2) fun p2 =>
 wpO (lenS y100 x2) fun v3 =>
 wpO (bnS .sub (some y3) v3 (.int .i64 1)) fun v4 =>
 wpO (ixS cT y100 x2 v4) fun v5 =>
 wpO (ldS y25 p2.2 v5) fun v6 =>
 wpO (faS cT y99 p0.1 0) fun v7 =>
 wpO (ldS y25 p2.2 v7) fun v8 =>
 wpO (cW cT 127 [v6, v8] p2.2) fun p9 =>
 wpO (extS p9.1 0) fun v10 =>
 wpO (extS p9.1 1) fun v11 =>
 wpO (lenS y100 p2.1) fun v12 =>
 wpO (lenS y100 x2) fun v13 =>
 wpO (bnS .sub (some y3) v12 v13) fun v14 =>
 wpO (bnS .add (some y3) v14 (.int .i64 1)) fun v15 =>
 wpO (foldS max2S v15 [(.int .i64 0)]) fun v16 =>
 wpO (mkslS y25 v16 v16 p9.2) fun p17 =>
 DenP cT 99 (.loop L64_0) (ups (argE [x0, x1, x2]) [(3, p0.1), (6, (.vsl [] .nil)), (7, (.vsl [] .nil)), (15, v1), (16, x1), (17, p2.1), (1, p2.1), (19, x2), (20, x2), (21, v3), (22, v4), (23, v5), (24, v6), (25, v7), (26, v8), (27, p9.1), (18, p9.1), (28, v10), (29, v11), (8, v10), (9, v11), (30, p2.1), (31, v12), (32, x2), (33, v13), (34, v14), (35, v15), (36, v16), (37, p17.1), (10, p17.1)]) p17.2 (K64_0 k)
noncomputable def TL64_0 (e : En) (S : Zt) (k : X → En → Zt → Prop) : Prop :=
 wpO (lenS y100 (e 1)) fun v18 =>
 wpO (lenS y100 (e 2)) fun v19 =>
 wpO (bnS .geq (some y3) v18 v19) fun v20 =>
 condP v20
 (wpO (lenS y100 (e 1)) fun v21 =>
 wpO (lenS y100 (e 2)) fun v22 =>
 wpO (bnS .sub (some y3) v21 v22) fun v23 =>
 wpO (lenS y100 (e 1)) fun v24 =>
 wpO (bnS .sub (some y3) v24 (.int .i64 1)) fun v25 =>
 wpO (ixS cT y100 (e 1) v25) fun v26 =>
 wpO (ldS y25 S v26) fun v27 =>
 wpO (bnS .mul (some y25) v27 (e 8)) fun v28 =>
 wpO (faS cT y99 (e 3) 0) fun v29 =>
 wpO (ldS y25 S v29) fun v30 =>
 wpO (bnS .rem (some y25) v28 v30) fun v31 =>
 wpO (ixS cT y100 (e 10) v23) fun v32 =>
 wpO (stS y25 S v32 v31) fun S33 =>
 wpO (lenS y100 (e 2)) fun v34 =>
 DenP cT 99 (.loop L64_1) (ups e [(38, (e 1)), (39, v18), (40, (e 2)), (41, v19), (42, v20), (43, (e 1)), (44, v21), (45, (e 2)), (46, v22), (47, v23), (11, v23), (48, (e 1)), (49, (e 1)), (50, v24), (51, v25), (52, v26), (53, v27), (54, (e 8)), (55, v28), (56, v29), (57, v30), (58, v31), (12, v31), (59, (e 10)), (60, v23), (61, v31), (62, v32), (63, (e 2)), (64, v34), (65, (.int .i64 0))]) S33 (K64_1 k))
 (k (.exit 0) (ups e [(38, (e 1)), (39, v18), (40, (e 2)), (41, v19), (42, v20)]) S)
noncomputable def TL64_1 (e : En) (S : Zt) (k : X → En → Zt → Prop) : Prop :=
 wpO (bnS .lss (some y3) (e 65) (e 64)) fun v35 =>
 condP v35
 (wpO (ixS cT y100 (e 63) (e 65)) fun v36 =>
 wpO (ldS y25 S v36) fun v37 =>
 wpO (bnS .add (some y3) (e 11) (e 65)) fun v38 =>
 wpO (bnS .add (some y3) (e 11) (e 65)) fun v39 =>
 wpO (ixS cT y100 (e 1) v39) fun v40 =>
 wpO (ldS y25 S v40) fun v41 =>
 wpO (faS cT y99 (e 3) 0) fun v42 =>
 wpO (ldS y25 S v42) fun v43 =>
 wpO (bnS .sub (some y25) v43 (e 12)) fun v44 =>
 wpO (bnS .mul (some y25) v44 v37) fun v45 =>
 wpO (bnS .add (some y25) v41 v45) fun v46 =>
 wpO (faS cT y99 (e 3) 0) fun v47 =>
 wpO (ldS y25 S v47) fun v48 =>
 wpO (bnS .rem (some y25) v46 v48) fun v49 =>
 wpO (ixS cT y100 (e 1) v38) fun v50 =>
 wpO (stS y25 S v50 v49) fun S51 =>
 wpO (bnS .add (some y3) (e 65) (.int .i64 1)) fun v52 =>
 DenP cT 99 (.loop L64_1) (ups e [(66, v35), (67, (e 65)), (68, v36), (69, v37), (13, (e 65)), (14, v37), (70, (e 1)), (71, (e 11)), (72, (e 65)), (73, v38), (74, (e 1)), (75, (e 11)), (76, (e 65)), (77, v39), (78, v40), (79, v41), (80, v42), (81, v43), (82, (e 12)), (83, v44), (84, v37), (85, v45), (86, v46), (87, v47), (88, v48), (89, v49), (90, v50), (91, v52), (65, v52)]) S51 k)
 (k (.exit 2) (ups e [(66, v35)]) S)
noncomputable def TK64_0e0 (e : En) (S : Zt) (k : SV → Zt → Prop) : Prop :=
 wpO (ldS y99 S (e 3)) fun v53 =>
 wpO (cW cT 59 [v53, (e 10)] S) fun p54 =>
 k (.tup [p54.1, (e 1)]) p54.2
noncomputable def TK64_1e2 (e : En) (S : Zt) (k : X → En → Zt → Prop) : Prop :=
 wpO (ldS y99 S (e 3)) fun v55 =>
 wpO (cW cT 59 [v55, (e 1)] S) fun p56 =>
 DenP cT 99 (.loop L64_0) (ups e [(92, v55), (93, (e 1)), (94, p56.1), (1, p56.1)]) p56.2 k
theorem F64_ok{x0 x1 x2:SV}{S:Zt}{k:SV→Zt→Prop}(h:F64 x0 x1 x2 S k):wpO (bW cT 64 [x0,x1,x2] S) (fun p=>k p.1 p.2):=bodyP_of (fn:=Tryz.f64) (by kernel_rfl) (by kernel_rfl) (Nat.le_of_ble_eq_true (by kernel_rfl)) ((show F64 x0 x1 x2 S k=wpC cT Tryz.f64.ntmps B64 (argE [x0,x1,x2]) S (outP cT Tryz.f64 k)by kernel_rfl).mp h)
theorem L64_0_ok{e:En}{S:Zt}{k:X→En→Zt→Prop}(h:TL64_0 e S k):DenP cT 99 (.loop L64_0) e S k:=loopP_of ((show TL64_0 e S k=wpC cT 99 L64_0 e S (againP cT 99 L64_0 k)by kernel_rfl).mp h)
theorem L64_1_ok{e:En}{S:Zt}{k:X→En→Zt→Prop}(h:TL64_1 e S k):DenP cT 99 (.loop L64_1) e S k:=loopP_of ((show TL64_1 e S k=wpC cT 99 L64_1 e S (againP cT 99 L64_1 k)by kernel_rfl).mp h)
theorem K64_0e0_ok{e:En}{S:Zt}{k:SV→Zt→Prop}(h:TK64_0e0 e S k):K64_0 k (.exit 0) e S:=(show TK64_0e0 e S k=K64_0 k (.exit 0) e S by kernel_rfl).mp h
theorem K64_1e2_ok{e:En}{S:Zt}{k:X→En→Zt→Prop}(h:TK64_1e2 e S k):K64_1 k (.exit 2) e S:=(show TK64_1e2 e S k=K64_1 k (.exit 2) e S by kernel_rfl).mp h
noncomputable abbrev B132:Code:=bodyOf Tryz.f132
noncomputable def F132 (x0 x1 x2 : SV) (S : Zt) (k : SV → Zt → Prop) : Prop :=
 wpO (alS x0 S) fun p0 =>
 wpO (ldS y99 p0.2 p0.1) fun v1 =>
 wpO (cW cT 64 [v1, x1, x2] p0.2) fun p2 =>
 wpO (extS p2.1 0) fun v3 =>
 wpO (extS p2.1 1) fun v4 =>
 k v4 p2.2
theorem F132_ok{x0 x1 x2:SV}{S:Zt}{k:SV→Zt→Prop}(h:F132 x0 x1 x2 S k):wpO (bW cT 132 [x0,x1,x2] S) (fun p=>k p.1 p.2):=bodyP_of (fn:=Tryz.f132) (by kernel_rfl) (by kernel_rfl) (Nat.le_of_ble_eq_true (by kernel_rfl)) ((show F132 x0 x1 x2 S k=wpC cT Tryz.f132.ntmps B132 (argE [x0,x1,x2]) S (outP cT Tryz.f132 k)by kernel_rfl).mp h)
noncomputable abbrev B129:Code:=bodyOf Tryz.f129
noncomputable def F129 (x0 x1 x2 : SV) (S : Zt) (k : SV → Zt → Prop) : Prop :=
 wpO (alS x0 S) fun p0 =>
 wpO (ldS y99 p0.2 p0.1) fun v1 =>
 wpO (cW cT 64 [v1, x1, x2] p0.2) fun p2 =>
 wpO (extS p2.1 0) fun v3 =>
 wpO (extS p2.1 1) fun v4 =>
 k v3 p2.2
theorem F129_ok{x0 x1 x2:SV}{S:Zt}{k:SV→Zt→Prop}(h:F129 x0 x1 x2 S k):wpO (bW cT 129 [x0,x1,x2] S) (fun p=>k p.1 p.2):=bodyP_of (fn:=Tryz.f129) (by kernel_rfl) (by kernel_rfl) (Nat.le_of_ble_eq_true (by kernel_rfl)) ((show F129 x0 x1 x2 S k=wpC cT Tryz.f129.ntmps B129 (argE [x0,x1,x2]) S (outP cT Tryz.f129 k)by kernel_rfl).mp h)
noncomputable abbrev B58:Code:=bodyOf Tryz.f58
noncomputable def F58 (x0 x1 : SV) (S : Zt) (k : SV → Zt → Prop) : Prop :=
 wpO (alS x0 S) fun p0 =>
 wpO (lenS y100 x1) fun v1 =>
 wpO (bnS .eql (some y3) v1 (.int .i64 0)) fun v2 =>
 condP v2
 (k (.vsl [] .nil) p0.2)
 (wpO (lenS y100 x1) fun v3 =>
 wpO (bnS .sub (some y3) v3 (.int .i64 1)) fun v4 =>
 wpO (ixS cT y100 x1 v4) fun v5 =>
 wpO (ldS y25 p0.2 v5) fun v6 =>
 wpO (faS cT y99 p0.1 0) fun v7 =>
 wpO (ldS y25 p0.2 v7) fun v8 =>
 wpO (cW cT 127 [v6, v8] p0.2) fun p9 =>
 wpO (extS p9.1 0) fun v10 =>
 wpO (extS p9.1 1) fun v11 =>
 wpO (ldS y99 p9.2 p0.1) fun v12 =>
 wpO (bslS y25 1 [(0, v10)] p9.2) fun p13 =>
 wpO (cW cT 99 [v12, p13.1, x1] p13.2) fun p14 =>
 k p14.1 p14.2)
theorem F58_ok{x0 x1:SV}{S:Zt}{k:SV→Zt→Prop}(h:F58 x0 x1 S k):wpO (bW cT 58 [x0,x1] S) (fun p=>k p.1 p.2):=bodyP_of (fn:=Tryz.f58) (by kernel_rfl) (by kernel_rfl) (Nat.le_of_ble_eq_true (by kernel_rfl)) ((show F58 x0 x1 S k=wpC cT Tryz.f58.ntmps B58 (argE [x0,x1]) S (outP cT Tryz.f58 k)by kernel_rfl).mp h)
noncomputable abbrev B98:Code:=bodyOf Tryz.f98
noncomputable def L98_0:Code:=codeAt [1,0,0,0] B98
noncomputable def K98_0(k:SV→Zt→Prop):X→En→Zt→Prop:=cont cT 18 [1,0,0] B98 (outP cT Tryz.f98 k)
noncomputable def F98 (x0 x1 x2 : SV) (S : Zt) (k : SV → Zt → Prop) : Prop :=
 wpO (alS x0 S) fun p0 =>
 DenP cT 18 (.loop L98_0) (ups (argE [x0, x1, x2]) [(3, p0.1), (6, (.vsl [] .nil))]) p0.2 (K98_0 k)
noncomputable def TL98_0 (e : En) (S : Zt) (k : X → En → Zt → Prop) : Prop :=
 wpO (lenS y100 (e 2)) fun v1 =>
 wpO (bnS .gtr (some y3) v1 (.int .i64 0)) fun v2 =>
 condP v2
 (wpO (ldS y99 S (e 3)) fun v3 =>
 wpO (cW cT 132 [v3, (e 1), (e 2)] S) fun p4 =>
 DenP cT 18 (.loop L98_0) (ups e [(7, (e 2)), (8, v1), (9, v2), (10, (e 2)), (11, v3), (12, (e 1)), (13, (e 2)), (14, p4.1), (1, (e 2)), (2, p4.1)]) p4.2 k)
 (k (.exit 0) (ups e [(7, (e 2)), (8, v1), (9, v2)]) S)
noncomputable def TK98_0e0 (e : En) (S : Zt) (k : SV → Zt → Prop) : Prop :=
 wpO (ldS y99 S (e 3)) fun v5 =>
 wpO (cW cT 58 [v5, (e 1)] S) fun p6 =>
 k p6.1 p6.2
theorem F98_ok{x0 x1 x2:SV}{S:Zt}{k:SV→Zt→Prop}(h:F98 x0 x1 x2 S k):wpO (bW cT 98 [x0,x1,x2] S) (fun p=>k p.1 p.2):=bodyP_of (fn:=Tryz.f98) (by kernel_rfl) (by kernel_rfl) (Nat.le_of_ble_eq_true (by kernel_rfl)) ((show F98 x0 x1 x2 S k=wpC cT Tryz.f98.ntmps B98 (argE [x0,x1,x2]) S (outP cT Tryz.f98 k)by kernel_rfl).mp h)
theorem L98_0_ok{e:En}{S:Zt}{k:X→En→Zt→Prop}(h:TL98_0 e S k):DenP cT 18 (.loop L98_0) e S k:=loopP_of ((show TL98_0 e S k=wpC cT 18 L98_0 e S (againP cT 18 L98_0 k)by kernel_rfl).mp h)
theorem K98_0e0_ok{e:En}{S:Zt}{k:SV→Zt→Prop}(h:TK98_0e0 e S k):K98_0 k (.exit 0) e S:=(show TK98_0e0 e S k=K98_0 k (.exit 0) e S by kernel_rfl).mp h
noncomputable abbrev B233:Code:=bodyOf Tryz.f233
noncomputable def L233_0:Code:=codeAt [1,1,0,0,0] B233
noncomputable def K233_0(k:SV→Zt→Prop):X→En→Zt→Prop:=cont cT 55 [1,1,0,0] B233 (outP cT Tryz.f233 k)
noncomputable def F233 (x0 x1 x2 : SV) (S : Zt) (k : SV → Zt → Prop) : Prop :=
 wpO (alS x0 S) fun p0 =>
 wpO (bslS y25 1 [(0, (.int .u64 (1)))] p0.2) fun p1 =>
 DenP cT 55 (.loop L233_0) (ups (argE [x0, x1, x2]) [(3, p0.1), (6, (.vsl [] .nil)), (15, x1), (16, x2), (17, p1.1), (7, x1), (8, x2), (9, (.vsl [] .nil)), (10, p1.1)]) p1.2 (K233_0 k)
noncomputable def TL233_0 (e : En) (S : Zt) (k : X → En → Zt → Prop) : Prop :=
 wpO (lenS y100 (e 8)) fun v2 =>
 wpO (bnS .gtr (some y3) v2 (.int .i64 0)) fun v3 =>
 condP v3
 (wpO (ldS y99 S (e 3)) fun v4 =>
 wpO (cW cT 64 [v4, (e 7), (e 8)] S) fun p5 =>
 wpO (extS p5.1 0) fun v6 =>
 wpO (extS p5.1 1) fun v7 =>
 wpO (ldS y99 p5.2 (e 3)) fun v8 =>
 wpO (ldS y99 p5.2 (e 3)) fun v9 =>
 wpO (cW cT 99 [v9, v6, (e 10)] p5.2) fun p10 =>
 wpO (cW cT 131 [v8, (e 9), p10.1] p10.2) fun p11 =>
 DenP cT 55 (.loop L233_0) (ups e [(18, (e 8)), (19, v2), (20, v3), (22, v4), (23, (e 7)), (24, (e 8)), (25, p5.1), (21, p5.1), (26, v6), (27, v7), (11, v6), (12, v7), (28, (e 8)), (29, v7), (30, (e 10)), (31, v8), (32, (e 9)), (33, v9), (34, v6), (35, (e 10)), (36, p10.1), (37, p11.1), (7, (e 8)), (8, v7), (9, (e 10)), (10, p11.1)]) p11.2 k)
 (k (.exit 0) (ups e [(18, (e 8)), (19, v2), (20, v3)]) S)
noncomputable def TK233_0e0 (e : En) (S : Zt) (k : SV → Zt → Prop) : Prop :=
 wpO (ixS cT y100 (e 7) (.int .i64 0)) fun v12 =>
 wpO (ldS y25 S v12) fun v13 =>
 wpO (faS cT y99 (e 3) 0) fun v14 =>
 wpO (ldS y25 S v14) fun v15 =>
 wpO (cW cT 127 [v13, v15] S) fun p16 =>
 wpO (extS p16.1 0) fun v17 =>
 wpO (extS p16.1 1) fun v18 =>
 wpO (ldS y99 p16.2 (e 3)) fun v19 =>
 wpO (ldS y99 p16.2 (e 3)) fun v20 =>
 wpO (bslS y25 1 [(0, v17)] p16.2) fun p21 =>
 wpO (cW cT 99 [v20, p21.1, (e 9)] p21.2) fun p22 =>
 wpO (cW cT 132 [v19, p22.1, (e 1)] p22.2) fun p23 =>
 k p23.1 p23.2
theorem F233_ok{x0 x1 x2:SV}{S:Zt}{k:SV→Zt→Prop}(h:F233 x0 x1 x2 S k):wpO (bW cT 233 [x0,x1,x2] S) (fun p=>k p.1 p.2):=bodyP_of (fn:=Tryz.f233) (by kernel_rfl) (by kernel_rfl) (Nat.le_of_ble_eq_true (by kernel_rfl)) ((show F233 x0 x1 x2 S k=wpC cT Tryz.f233.ntmps B233 (argE [x0,x1,x2]) S (outP cT Tryz.f233 k)by kernel_rfl).mp h)
theorem L233_0_ok{e:En}{S:Zt}{k:X→En→Zt→Prop}(h:TL233_0 e S k):DenP cT 55 (.loop L233_0) e S k:=loopP_of ((show TL233_0 e S k=wpC cT 55 L233_0 e S (againP cT 55 L233_0 k)by kernel_rfl).mp h)
theorem K233_0e0_ok{e:En}{S:Zt}{k:SV→Zt→Prop}(h:TK233_0e0 e S k):K233_0 k (.exit 0) e S:=(show TK233_0e0 e S k=K233_0 k (.exit 0) e S by kernel_rfl).mp h
noncomputable abbrev B285:Code:=bodyOf Tryz.f285
noncomputable def F285 (x0 x1 : SV) (S : Zt) (k : SV → Zt → Prop) : Prop :=
 wpO (alS y44.zero S) fun p0 =>
 wpO (lenS y57 x0) fun v1 =>
 wpO (bnS .lss (some y3) x1 v1) fun v2 =>
 condP v2
 (wpO (ixS cT y57 x0 x1) fun v3 =>
 wpO (ldS y44 p0.2 v3) fun v4 =>
 wpO (stS y44 p0.2 p0.1 v4) fun S5 =>
 wpO (ldS y44 S5 p0.1) fun v6 =>
 k v6 S5)
 (wpO (cW cT 92 [(.int .i64 0)] p0.2) fun p7 =>
 wpO (stS y44 p7.2 p0.1 p7.1) fun S8 =>
 wpO (ldS y44 S8 p0.1) fun v9 =>
 k v9 S8)
theorem F285_ok{x0 x1:SV}{S:Zt}{k:SV→Zt→Prop}(h:F285 x0 x1 S k):wpO (bW cT 285 [x0,x1] S) (fun p=>k p.1 p.2):=bodyP_of (fn:=Tryz.f285) (by kernel_rfl) (by kernel_rfl) (Nat.le_of_ble_eq_true (by kernel_rfl)) ((show F285 x0 x1 S k=wpC cT Tryz.f285.ntmps B285 (argE [x0,x1]) S (outP cT Tryz.f285 k)by kernel_rfl).mp h)
noncomputable abbrev B238:Code:=bodyOf Tryz.f238
noncomputable def L238_0:Code:=codeAt [1,0,0,0] B238
noncomputable def K238_0(k:SV→Zt→Prop):X→En→Zt→Prop:=cont cT 22 [1,0,0] B238 (outP cT Tryz.f238 k)
noncomputable def F238 (x0 : SV) (S : Zt) (k : SV → Zt → Prop) : Prop :=
 DenP cT 22 (.loop L238_0) (ups (argE [x0]) [(2, (.vsl [] .nil))]) S (K238_0 k)
noncomputable def TL238_0 (e : En) (S : Zt) (k : X → En → Zt → Prop) : Prop :=
 wpO (lenS y57 (e 0)) fun v0 =>
 wpO (bnS .gtr (some y3) v0 (.int .i64 0)) fun v1 =>
 grdP (some v1) true (fun k => k (e 0) S) S fun v2 S3 =>
 grdP (some v1) true (fun k => k (e 0) S3) S3 fun v4 S5 =>
 grdP (some v1) true (fun k => wpO (lenS y57 v4) fun v6 => k v6 S5) S5 fun v7 S8 =>
 grdP (some v1) true (fun k => wpO (bnS .sub (some y3) v7 (.int .i64 1)) fun v9 => k v9 S8) S8 fun v10 S11 =>
 grdP (some v1) true (fun k => wpO (ixS cT y57 v2 v10) fun v12 => k v12 S11) S11 fun v13 S14 =>
 grdP (some v1) true (fun k => wpO (ldS y44 S14 v13) fun v15 => k v15 S14) S14 fun v16 S17 =>
 grdP (some v1) true (fun k => wpO (cW cT 104 [v16] S17) fun p18 => k p18.1 p18.2) S17 fun v19 S20 =>
 grdP (some v1) true (fun k => wpO (bnS .eql (some y3) v19 (.int .i64 0)) fun v21 => k v21 S20) S20 fun v22 S23 =>
 wpO (pickS v1 v22 (.bool false)) fun v24 =>
 condP v24
 (wpO (lenS y57 (e 0)) fun v25 =>
 wpO (bnS .sub (some y3) v25 (.int .i64 1)) fun v26 =>
 wpO (slicS y44 (e 0) none (some v26) none) fun v27 =>
 DenP cT 22 (.loop L238_0) (ups e [(3, (e 0)), (4, v0), (5, v1), (6, v1), (7, v2), (8, v4), (9, v7), (10, v10), (11, v13), (12, v16), (13, v19), (14, v22), (15, v24), (16, (e 0)), (17, (e 0)), (18, v25), (19, v26), (20, v27), (0, v27)]) S23 k)
 (k (.exit 0) (ups e [(3, (e 0)), (4, v0), (5, v1), (6, v1), (7, v2), (8, v4), (9, v7), (10, v10), (11, v13), (12, v16), (13, v19), (14, v22), (15, v24)]) S23)
noncomputable def TK238_0e0 (e : En) (S : Zt) (k : SV → Zt → Prop) : Prop :=
 k (e 0) S
theorem F238_ok{x0:SV}{S:Zt}{k:SV→Zt→Prop}(h:F238 x0 S k):wpO (bW cT 238 [x0] S) (fun p=>k p.1 p.2):=bodyP_of (fn:=Tryz.f238) (by kernel_rfl) (by kernel_rfl) (Nat.le_of_ble_eq_true (by kernel_rfl)) ((show F238 x0 S k=wpC cT Tryz.f238.ntmps B238 (argE [x0]) S (outP cT Tryz.f238 k)by kernel_rfl).mp h)
theorem L238_0_ok{e:En}{S:Zt}{k:X→En→Zt→Prop}(h:TL238_0 e S k):DenP cT 22 (.loop L238_0) e S k:=loopP_of ((show TL238_0 e S k=wpC cT 22 L238_0 e S (againP cT 22 L238_0 k)by kernel_rfl).mp h)
theorem K238_0e0_ok{e:En}{S:Zt}{k:SV→Zt→Prop}(h:TK238_0e0 e S k):K238_0 k (.exit 0) e S:=(show TK238_0e0 e S k=K238_0 k (.exit 0) e S by kernel_rfl).mp h
noncomputable abbrev B236:Code:=bodyOf Tryz.f236
noncomputable def L236_0:Code:=codeAt [1,1,1,0,1,0,0] B236
noncomputable def L236_1:Code:=codeAt [1,1,1,1,0,1,0,0] B236
noncomputable def L236_2:Code:=codeAt [1,1,1,1,0,1,0,0,1,1,0,0,1,1,0,0] B236
noncomputable def K236_0(k:SV→Zt→Prop):X→En→Zt→Prop:=cont cT 69 [1,1,1,0,1,0] B236 (outP cT Tryz.f236 k)
noncomputable def K236_1(k:SV→Zt→Prop):X→En→Zt→Prop:=cont cT 69 [1,1,1,1,0,1,0] B236 (outP cT Tryz.f236 k)
noncomputable def K236_2(k:X→En→Zt→Prop):X→En→Zt→Prop:=cont cT 69 [1,1,0,0,1,1,0] L236_1 (againP cT 69 L236_1 k)
noncomputable def F236 (x0 x1 : SV) (S : Zt) (k : SV → Zt → Prop) : Prop :=
 wpO (lenS y57 x0) fun v0 =>
 wpO (bnS .eql (some y3) v0 (.int .i64 0)) fun v1 =>
 grdP (some v1) false (fun k => k x1 S) S fun v2 S3 =>
 grdP (some v1) false (fun k => wpO (lenS y57 v2) fun v4 => k v4 S3) S3 fun v5 S6 =>
 grdP (some v1) false (fun k => wpO (bnS .eql (some y3) v5 (.int .i64 0)) fun v7 => k v7 S6) S6 fun v8 S9 =>
 wpO (pickS v1 (.bool true) v8) fun v10 =>
 condP v10
 (k (.vsl [] .nil) S9)
 (wpO (lenS y57 x0) fun v11 =>
 wpO (lenS y57 x1) fun v12 =>
 wpO (bnS .add (some y3) v11 v12) fun v13 =>
 wpO (bnS .sub (some y3) v13 (.int .i64 1)) fun v14 =>
 wpO (mkslS y44 v14 v14 S9) fun p15 =>
 wpO (lenS y57 p15.1) fun v16 =>
 DenP cT 69 (.loop L236_0) (ups (argE [x0, x1]) [(4, (.vsl [] .nil)), (11, x0), (12, v0), (13, v1), (14, v1), (15, v2), (16, v5), (17, v8), (18, v10), (19, x0), (20, v11), (21, x1), (22, v12), (23, v13), (24, v14), (25, p15.1), (5, p15.1), (26, p15.1), (27, v16), (28, (.int .i64 0))]) p15.2 (K236_0 k))
noncomputable def TL236_0 (e : En) (S : Zt) (k : X → En → Zt → Prop) : Prop :=
 wpO (bnS .lss (some y3) (e 28) (e 27)) fun v17 =>
 condP v17
 (wpO (cW cT 92 [(.int .i64 0)] S) fun p18 =>
 wpO (ixS cT y57 (e 5) (e 28)) fun v19 =>
 wpO (stS y44 p18.2 v19 p18.1) fun S20 =>
 wpO (bnS .add (some y3) (e 28) (.int .i64 1)) fun v21 =>
 DenP cT 69 (.loop L236_0) (ups e [(29, v17), (30, (e 28)), (6, (e 28)), (31, (e 5)), (32, (e 28)), (33, p18.1), (34, v19), (35, v21), (28, v21)]) S20 k)
 (k (.exit 0) (ups e [(29, v17)]) S)
noncomputable def TK236_0e0 (e : En) (S : Zt) (k : SV → Zt → Prop) : Prop :=
 wpO (lenS y57 (e 0)) fun v22 =>
 DenP cT 69 (.loop L236_1) (ups e [(36, (e 0)), (37, v22), (38, (.int .i64 0))]) S (K236_1 k)
noncomputable def TL236_1 (e : En) (S : Zt) (k : X → En → Zt → Prop) : Prop :=
 wpO (bnS .lss (some y3) (e 38) (e 37)) fun v23 =>
 condP v23
 (wpO (ixS cT y57 (e 36) (e 38)) fun v24 =>
 wpO (ldS y44 S v24) fun v25 =>
 wpO (alS y44.zero S) fun p26 =>
 wpO (stS y44 p26.2 p26.1 v25) fun S27 =>
 wpO (lenS y57 (e 1)) fun v28 =>
 DenP cT 69 (.loop L236_2) (ups e [(39, v23), (40, (e 38)), (41, v24), (42, v25), (8, p26.1), (7, (e 38)), (43, (e 1)), (44, v28), (45, (.int .i64 0))]) S27 (K236_2 k))
 (k (.exit 2) (ups e [(39, v23)]) S)
noncomputable def TL236_2 (e : En) (S : Zt) (k : X → En → Zt → Prop) : Prop :=
 wpO (bnS .lss (some y3) (e 45) (e 44)) fun v29 =>
 condP v29
 (wpO (ixS cT y57 (e 43) (e 45)) fun v30 =>
 wpO (ldS y44 S v30) fun v31 =>
 wpO (alS y44.zero S) fun p32 =>
 wpO (stS y44 p32.2 p32.1 v31) fun S33 =>
 wpO (bnS .add (some y3) (e 7) (e 45)) fun v34 =>
 wpO (bnS .add (some y3) (e 7) (e 45)) fun v35 =>
 wpO (ixS cT y57 (e 5) v35) fun v36 =>
 wpO (ldS y44 S33 v36) fun v37 =>
 wpO (ldS y44 S33 (e 8)) fun v38 =>
 wpO (ldS y44 S33 p32.1) fun v39 =>
 wpO (cW cT 108 [v38, v39] S33) fun p40 =>
 wpO (cW cT 106 [v37, p40.1] p40.2) fun p41 =>
 wpO (ixS cT y57 (e 5) v34) fun v42 =>
 wpO (stS y44 p41.2 v42 p41.1) fun S43 =>
 wpO (bnS .add (some y3) (e 45) (.int .i64 1)) fun v44 =>
 DenP cT 69 (.loop L236_2) (ups e [(46, v29), (47, (e 45)), (48, v30), (49, v31), (10, p32.1), (9, (e 45)), (50, (e 5)), (51, (e 7)), (52, (e 45)), (53, v34), (54, (e 5)), (55, (e 7)), (56, (e 45)), (57, v35), (58, v36), (59, v37), (60, v38), (61, v39), (62, p40.1), (63, p41.1), (64, v42), (65, v44), (45, v44)]) S43 k)
 (k (.exit 4) (ups e [(46, v29)]) S)
noncomputable def TK236_1e2 (e : En) (S : Zt) (k : SV → Zt → Prop) : Prop :=
 wpO (cW cT 238 [(e 5)] S) fun p45 =>
 k p45.1 p45.2
noncomputable def TK236_2e4 (e : En) (S : Zt) (k : X → En → Zt → Prop) : Prop :=
 wpO (bnS .add (some y3) (e 38) (.int .i64 1)) fun v46 =>
 DenP cT 69 (.loop L236_1) (ups e [(66, v46), (38, v46)]) S k
theorem F236_ok{x0 x1:SV}{S:Zt}{k:SV→Zt→Prop}(h:F236 x0 x1 S k):wpO (bW cT 236 [x0,x1] S) (fun p=>k p.1 p.2):=bodyP_of (fn:=Tryz.f236) (by kernel_rfl) (by kernel_rfl) (Nat.le_of_ble_eq_true (by kernel_rfl)) ((show F236 x0 x1 S k=wpC cT Tryz.f236.ntmps B236 (argE [x0,x1]) S (outP cT Tryz.f236 k)by kernel_rfl).mp h)
theorem L236_0_ok{e:En}{S:Zt}{k:X→En→Zt→Prop}(h:TL236_0 e S k):DenP cT 69 (.loop L236_0) e S k:=loopP_of ((show TL236_0 e S k=wpC cT 69 L236_0 e S (againP cT 69 L236_0 k)by kernel_rfl).mp h)
theorem K236_0e0_ok{e:En}{S:Zt}{k:SV→Zt→Prop}(h:TK236_0e0 e S k):K236_0 k (.exit 0) e S:=(show TK236_0e0 e S k=K236_0 k (.exit 0) e S by kernel_rfl).mp h
theorem L236_1_ok{e:En}{S:Zt}{k:X→En→Zt→Prop}(h:TL236_1 e S k):DenP cT 69 (.loop L236_1) e S k:=loopP_of ((show TL236_1 e S k=wpC cT 69 L236_1 e S (againP cT 69 L236_1 k)by kernel_rfl).mp h)
theorem L236_2_ok{e:En}{S:Zt}{k:X→En→Zt→Prop}(h:TL236_2 e S k):DenP cT 69 (.loop L236_2) e S k:=loopP_of ((show TL236_2 e S k=wpC cT 69 L236_2 e S (againP cT 69 L236_2 k)by kernel_rfl).mp h)
theorem K236_1e2_ok{e:En}{S:Zt}{k:SV→Zt→Prop}(h:TK236_1e2 e S k):K236_1 k (.exit 2) e S:=(show TK236_1e2 e S k=K236_1 k (.exit 2) e S by kernel_rfl).mp h
theorem K236_2e4_ok{e:En}{S:Zt}{k:X→En→Zt→Prop}(h:TK236_2e4 e S k):K236_2 k (.exit 4) e S:=(show TK236_2e4 e S k=K236_2 k (.exit 4) e S by kernel_rfl).mp h
noncomputable abbrev B234:Code:=bodyOf Tryz.f234
noncomputable def L234_0:Code:=codeAt [1,1,0,1,0,0] B234
noncomputable def K234_0(k:SV→Zt→Prop):X→En→Zt→Prop:=cont cT 49 [1,1,0,1,0] B234 (outP cT Tryz.f234 k)
noncomputable def F234 (x0 x1 x2 : SV) (S : Zt) (k : SV → Zt → Prop) : Prop :=
 wpO (alS x1 S) fun p0 =>
 wpO (lenS y57 x0) fun v1 =>
 wpO (lenS y100 x2) fun v2 =>
 wpO (foldS max2S v1 [v2]) fun v3 =>
 wpO (mkslS y44 v3 v3 p0.2) fun p4 =>
 wpO (lenS y57 p4.1) fun v5 =>
 DenP cT 49 (.loop L234_0) (ups (argE [x0, x1, x2]) [(4, p0.1), (6, (.vsl [] .nil)), (9, x0), (10, v1), (11, x2), (12, v2), (13, v3), (14, p4.1), (7, p4.1), (15, p4.1), (16, v5), (17, (.int .i64 0))]) p4.2 (K234_0 k)
noncomputable def TL234_0 (e : En) (S : Zt) (k : X → En → Zt → Prop) : Prop :=
 wpO (bnS .lss (some y3) (e 17) (e 16)) fun v6 =>
 condP v6
 (wpO (cW cT 285 [(e 0), (e 17)] S) fun p7 =>
 wpO (ixS cT y57 (e 7) (e 17)) fun v8 =>
 wpO (stS y44 p7.2 v8 p7.1) fun S9 =>
 wpO (lenS y100 (e 2)) fun v10 =>
 wpO (bnS .lss (some y3) (e 17) v10) fun v11 =>
 condP v11
 (wpO (ixS cT y57 (e 7) (e 17)) fun v12 =>
 wpO (ldS y44 S9 v12) fun v13 =>
 wpO (ldS y44 S9 (e 4)) fun v14 =>
 wpO (ixS cT y100 (e 2) (e 17)) fun v15 =>
 wpO (ldS y25 S9 v15) fun v16 =>
 wpO (convS y2 v16) fun v17 =>
 wpO (cW cT 92 [v17] S9) fun p18 =>
 wpO (cW cT 108 [v14, p18.1] p18.2) fun p19 =>
 wpO (cW cT 106 [v13, p19.1] p19.2) fun p20 =>
 wpO (ixS cT y57 (e 7) (e 17)) fun v21 =>
 wpO (stS y44 p20.2 v21 p20.1) fun S22 =>
 wpO (bnS .add (some y3) (e 17) (.int .i64 1)) fun v23 =>
 DenP cT 49 (.loop L234_0) (ups e [(18, v6), (19, (e 17)), (8, (e 17)), (20, (e 7)), (21, (e 17)), (22, (e 0)), (23, (e 17)), (24, p7.1), (25, v8), (26, (e 17)), (27, (e 2)), (28, v10), (29, v11), (30, (e 7)), (31, (e 17)), (32, (e 7)), (33, (e 17)), (34, v12), (35, v13), (36, v14), (37, (e 2)), (38, (e 17)), (39, v15), (40, v16), (41, v17), (42, p18.1), (43, p19.1), (44, p20.1), (45, v21), (46, v23), (17, v23)]) S22 k)
 (wpO (bnS .add (some y3) (e 17) (.int .i64 1)) fun v24 =>
 DenP cT 49 (.loop L234_0) (ups e [(18, v6), (19, (e 17)), (8, (e 17)), (20, (e 7)), (21, (e 17)), (22, (e 0)), (23, (e 17)), (24, p7.1), (25, v8), (26, (e 17)), (27, (e 2)), (28, v10), (29, v11), (46, v24), (17, v24)]) S9 k))
 (k (.exit 0) (ups e [(18, v6)]) S)
noncomputable def TK234_0e0 (e : En) (S : Zt) (k : SV → Zt → Prop) : Prop :=
 wpO (cW cT 238 [(e 7)] S) fun p25 =>
 k p25.1 p25.2
theorem F234_ok{x0 x1 x2:SV}{S:Zt}{k:SV→Zt→Prop}(h:F234 x0 x1 x2 S k):wpO (bW cT 234 [x0,x1,x2] S) (fun p=>k p.1 p.2):=bodyP_of (fn:=Tryz.f234) (by kernel_rfl) (by kernel_rfl) (Nat.le_of_ble_eq_true (by kernel_rfl)) ((show F234 x0 x1 x2 S k=wpC cT Tryz.f234.ntmps B234 (argE [x0,x1,x2]) S (outP cT Tryz.f234 k)by kernel_rfl).mp h)
theorem L234_0_ok{e:En}{S:Zt}{k:X→En→Zt→Prop}(h:TL234_0 e S k):DenP cT 49 (.loop L234_0) e S k:=loopP_of ((show TL234_0 e S k=wpC cT 49 L234_0 e S (againP cT 49 L234_0 k)by kernel_rfl).mp h)
theorem K234_0e0_ok{e:En}{S:Zt}{k:SV→Zt→Prop}(h:TK234_0e0 e S k):K234_0 k (.exit 0) e S:=(show TK234_0e0 e S k=K234_0 k (.exit 0) e S by kernel_rfl).mp h
noncomputable abbrev B235:Code:=bodyOf Tryz.f235
noncomputable def L235_0:Code:=codeAt [1,1,0,1,0,0] B235
noncomputable def K235_0(k:SV→Zt→Prop):X→En→Zt→Prop:=cont cT 31 [1,1,0,1,0] B235 (outP cT Tryz.f235 k)
noncomputable def F235 (x0 x1 : SV) (S : Zt) (k : SV → Zt → Prop) : Prop :=
 wpO (lenS y57 x0) fun v0 =>
 wpO (lenS y57 x1) fun v1 =>
 wpO (foldS max2S v0 [v1]) fun v2 =>
 wpO (mkslS y44 v2 v2 S) fun p3 =>
 wpO (lenS y57 p3.1) fun v4 =>
 DenP cT 31 (.loop L235_0) (ups (argE [x0, x1]) [(4, (.vsl [] .nil)), (7, x0), (8, v0), (9, x1), (10, v1), (11, v2), (12, p3.1), (5, p3.1), (13, p3.1), (14, v4), (15, (.int .i64 0))]) p3.2 (K235_0 k)
noncomputable def TL235_0 (e : En) (S : Zt) (k : X → En → Zt → Prop) : Prop :=
 wpO (bnS .lss (some y3) (e 15) (e 14)) fun v5 =>
 condP v5
 (wpO (cW cT 285 [(e 0), (e 15)] S) fun p6 =>
 wpO (cW cT 285 [(e 1), (e 15)] p6.2) fun p7 =>
 wpO (cW cT 237 [p6.1, p7.1] p7.2) fun p8 =>
 wpO (ixS cT y57 (e 5) (e 15)) fun v9 =>
 wpO (stS y44 p8.2 v9 p8.1) fun S10 =>
 wpO (bnS .add (some y3) (e 15) (.int .i64 1)) fun v11 =>
 DenP cT 31 (.loop L235_0) (ups e [(16, v5), (17, (e 15)), (6, (e 15)), (18, (e 5)), (19, (e 15)), (20, (e 0)), (21, (e 15)), (22, p6.1), (23, (e 1)), (24, (e 15)), (25, p7.1), (26, p8.1), (27, v9), (28, v11), (15, v11)]) S10 k)
 (k (.exit 0) (ups e [(16, v5)]) S)
noncomputable def TK235_0e0 (e : En) (S : Zt) (k : SV → Zt → Prop) : Prop :=
 wpO (cW cT 238 [(e 5)] S) fun p12 =>
 k p12.1 p12.2
theorem F235_ok{x0 x1:SV}{S:Zt}{k:SV→Zt→Prop}(h:F235 x0 x1 S k):wpO (bW cT 235 [x0,x1] S) (fun p=>k p.1 p.2):=bodyP_of (fn:=Tryz.f235) (by kernel_rfl) (by kernel_rfl) (Nat.le_of_ble_eq_true (by kernel_rfl)) ((show F235 x0 x1 S k=wpC cT Tryz.f235.ntmps B235 (argE [x0,x1]) S (outP cT Tryz.f235 k)by kernel_rfl).mp h)
theorem L235_0_ok{e:En}{S:Zt}{k:X→En→Zt→Prop}(h:TL235_0 e S k):DenP cT 31 (.loop L235_0) e S k:=loopP_of ((show TL235_0 e S k=wpC cT 31 L235_0 e S (againP cT 31 L235_0 k)by kernel_rfl).mp h)
theorem K235_0e0_ok{e:En}{S:Zt}{k:SV→Zt→Prop}(h:TK235_0e0 e S k):K235_0 k (.exit 0) e S:=(show TK235_0e0 e S k=K235_0 k (.exit 0) e S by kernel_rfl).mp h
noncomputable abbrev B100:Code:=bodyOf Tryz.f100
noncomputable def L100_0:Code:=codeAt [1,1,1,0,1,0,0] B100
noncomputable def K100_0(k:SV→Zt→Prop):X→En→Zt→Prop:=cont cT 61 [1,1,1,0,1,0] B100 (outP cT Tryz.f100 k)
noncomputable def F100 (x0 x1 x2 : SV) (S : Zt) (k : SV → Zt → Prop) : Prop :=
 wpO (alS x1 S) fun p0 =>
 wpO (lenS y57 x0) fun v1 =>
 wpO (mkslS y25 v1 v1 p0.2) fun p2 =>
 wpO (convS y2 x2) fun v3 =>
 wpO (cW cT 92 [v3] p2.2) fun p4 =>
 wpO (alS y44.zero p4.2) fun p5 =>
 wpO (stS y44 p5.2 p5.1 p4.1) fun S6 =>
 wpO (lenS y57 x0) fun v7 =>
 DenP cT 61 (.loop L100_0) (ups (argE [x0, x1, x2]) [(4, p0.1), (6, (.vsl [] .nil)), (19, x0), (20, v1), (21, p2.1), (7, p2.1), (22, x2), (23, v3), (24, p4.1), (8, p5.1), (25, x0), (26, v7), (27, (.int .i64 0))]) S6 (K100_0 k)
noncomputable def TL100_0 (e : En) (S : Zt) (k : X → En → Zt → Prop) : Prop :=
 wpO (bnS .lss (some y3) (e 27) (e 26)) fun v8 =>
 condP v8
 (wpO (ixS cT y57 (e 25) (e 27)) fun v9 =>
 wpO (ldS y44 S v9) fun v10 =>
 wpO (alS y44.zero S) fun p11 =>
 wpO (stS y44 p11.2 p11.1 v10) fun S12 =>
 wpO (ldS y44 S12 p11.1) fun v13 =>
 wpO (ldS y44 S12 (e 4)) fun v14 =>
 wpO (cW cT 163 [v13, v14] S12) fun p15 =>
 wpO (extS p15.1 0) fun v16 =>
 wpO (extS p15.1 1) fun v17 =>
 wpO (extS p15.1 2) fun v18 =>
 wpO (alS y44.zero p15.2) fun p19 =>
 wpO (alS y44.zero p19.2) fun p20 =>
 wpO (stS y44 p20.2 p19.1 v16) fun S21 =>
 wpO (stS y44 S21 p20.1 v17) fun S22 =>
 wpO (ldS y44 S22 p19.1) fun v23 =>
 wpO (ldS y44 S22 (e 8)) fun v24 =>
 wpO (cW cT 163 [v23, v24] S22) fun p25 =>
 wpO (extS p25.1 0) fun v26 =>
 wpO (extS p25.1 1) fun v27 =>
 wpO (extS p25.1 2) fun v28 =>
 wpO (alS y44.zero p25.2) fun p29 =>
 wpO (alS y44.zero p29.2) fun p30 =>
 wpO (stS y44 p30.2 p29.1 v26) fun S31 =>
 wpO (stS y44 S31 p30.1 v27) fun S32 =>
 wpO (ldS y44 S32 p30.1) fun v33 =>
 wpO (cW cT 164 [v33] S32) fun p34 =>
 wpO (extS p34.1 0) fun v35 =>
 wpO (extS p34.1 1) fun v36 =>
 wpO (convS y25 v35) fun v37 =>
 wpO (ixS cT y100 (e 7) (e 27)) fun v38 =>
 wpO (stS y25 p34.2 v38 v37) fun S39 =>
 wpO (bnS .add (some y3) (e 27) (.int .i64 1)) fun v40 =>
 DenP cT 61 (.loop L100_0) (ups e [(28, v8), (29, (e 27)), (30, v9), (31, v10), (10, p11.1), (9, (e 27)), (33, v13), (34, v14), (35, p15.1), (32, p15.1), (36, v16), (37, v17), (38, v18), (11, p19.1), (12, p20.1), (13, v18), (40, v23), (41, v24), (42, p25.1), (39, p25.1), (43, v26), (44, v27), (45, v28), (14, p29.1), (15, p30.1), (16, v28), (47, v33), (48, p34.1), (46, p34.1), (49, v35), (50, v36), (17, v35), (18, v36), (51, (e 7)), (52, (e 27)), (53, v35), (54, v37), (55, v38), (56, v40), (27, v40)]) S39 k)
 (k (.exit 0) (ups e [(28, v8)]) S)
noncomputable def TK100_0e0 (e : En) (S : Zt) (k : SV → Zt → Prop) : Prop :=
 wpO (buildS cT y99 [(0, (e 2))]) fun v41 =>
 wpO (cW cT 59 [v41, (e 7)] S) fun p42 =>
 k p42.1 p42.2
theorem F100_ok{x0 x1 x2:SV}{S:Zt}{k:SV→Zt→Prop}(h:F100 x0 x1 x2 S k):wpO (bW cT 100 [x0,x1,x2] S) (fun p=>k p.1 p.2):=bodyP_of (fn:=Tryz.f100) (by kernel_rfl) (by kernel_rfl) (Nat.le_of_ble_eq_true (by kernel_rfl)) ((show F100 x0 x1 x2 S k=wpC cT Tryz.f100.ntmps B100 (argE [x0,x1,x2]) S (outP cT Tryz.f100 k)by kernel_rfl).mp h)
theorem L100_0_ok{e:En}{S:Zt}{k:X→En→Zt→Prop}(h:TL100_0 e S k):DenP cT 61 (.loop L100_0) e S k:=loopP_of ((show TL100_0 e S k=wpC cT 61 L100_0 e S (againP cT 61 L100_0 k)by kernel_rfl).mp h)
theorem K100_0e0_ok{e:En}{S:Zt}{k:SV→Zt→Prop}(h:TK100_0e0 e S k):K100_0 k (.exit 0) e S:=(show TK100_0e0 e S k=K100_0 k (.exit 0) e S by kernel_rfl).mp h
noncomputable abbrev B167:Code:=bodyOf Tryz.f167
noncomputable def L167_0:Code:=codeAt [1,1,0,1,0,0] B167
noncomputable def K167_0(k:SV→Zt→Prop):X→En→Zt→Prop:=cont cT 44 [1,1,0,1,0] B167 (outP cT Tryz.f167 k)
noncomputable def F167 (x0 x1 : SV) (S : Zt) (k : SV → Zt → Prop) : Prop :=
 wpO (alS x1 S) fun p0 =>
 wpO (lenS y57 x0) fun v1 =>
 wpO (mkslS y44 v1 v1 p0.2) fun p2 =>
 wpO (lenS y57 x0) fun v3 =>
 DenP cT 44 (.loop L167_0) (ups (argE [x0, x1]) [(3, p0.1), (4, (.vsl [] .nil)), (11, x0), (12, v1), (13, p2.1), (5, p2.1), (14, x0), (15, v3), (16, (.int .i64 0))]) p2.2 (K167_0 k)
noncomputable def TL167_0 (e : En) (S : Zt) (k : X → En → Zt → Prop) : Prop :=
 wpO (bnS .lss (some y3) (e 16) (e 15)) fun v4 =>
 condP v4
 (wpO (ixS cT y57 (e 14) (e 16)) fun v5 =>
 wpO (ldS y44 S v5) fun v6 =>
 wpO (alS y44.zero S) fun p7 =>
 wpO (stS y44 p7.2 p7.1 v6) fun S8 =>
 wpO (ldS y44 S8 p7.1) fun v9 =>
 wpO (ldS y44 S8 (e 3)) fun v10 =>
 wpO (cW cT 163 [v9, v10] S8) fun p11 =>
 wpO (extS p11.1 0) fun v12 =>
 wpO (extS p11.1 1) fun v13 =>
 wpO (extS p11.1 2) fun v14 =>
 wpO (alS y44.zero p11.2) fun p15 =>
 wpO (alS y44.zero p15.2) fun p16 =>
 wpO (stS y44 p16.2 p15.1 v12) fun S17 =>
 wpO (stS y44 S17 p16.1 v13) fun S18 =>
 wpO (ldS y44 S18 p16.1) fun v19 =>
 wpO (ldS y44 S18 p16.1) fun v20 =>
 wpO (cW cT 106 [v19, v20] S18) fun p21 =>
 wpO (ldS y44 p21.2 (e 3)) fun v22 =>
 wpO (cW cT 96 [p21.1, v22] p21.2) fun p23 =>
 wpO (bnS .gtr (some y3) p23.1 (.int .i64 0)) fun v24 =>
 condP v24
 (wpO (ldS y44 p23.2 p16.1) fun v25 =>
 wpO (ldS y44 p23.2 (e 3)) fun v26 =>
 wpO (cW cT 237 [v25, v26] p23.2) fun p27 =>
 wpO (stS y44 p27.2 p16.1 p27.1) fun S28 =>
 wpO (ldS y44 S28 p16.1) fun v29 =>
 wpO (ixS cT y57 (e 5) (e 16)) fun v30 =>
 wpO (stS y44 S28 v30 v29) fun S31 =>
 wpO (bnS .add (some y3) (e 16) (.int .i64 1)) fun v32 =>
 DenP cT 44 (.loop L167_0) (ups e [(17, v4), (18, (e 16)), (19, v5), (20, v6), (7, p7.1), (6, (e 16)), (22, v9), (23, v10), (24, p11.1), (21, p11.1), (25, v12), (26, v13), (27, v14), (8, p15.1), (9, p16.1), (10, v14), (28, v19), (29, v20), (30, p21.1), (31, v22), (32, p23.1), (33, v24), (34, v25), (35, v26), (36, p27.1), (37, (e 5)), (38, (e 16)), (39, v29), (40, v30), (41, v32), (16, v32)]) S31 k)
 (wpO (ldS y44 p23.2 p16.1) fun v33 =>
 wpO (ixS cT y57 (e 5) (e 16)) fun v34 =>
 wpO (stS y44 p23.2 v34 v33) fun S35 =>
 wpO (bnS .add (some y3) (e 16) (.int .i64 1)) fun v36 =>
 DenP cT 44 (.loop L167_0) (ups e [(17, v4), (18, (e 16)), (19, v5), (20, v6), (7, p7.1), (6, (e 16)), (22, v9), (23, v10), (24, p11.1), (21, p11.1), (25, v12), (26, v13), (27, v14), (8, p15.1), (9, p16.1), (10, v14), (28, v19), (29, v20), (30, p21.1), (31, v22), (32, p23.1), (33, v24), (37, (e 5)), (38, (e 16)), (39, v33), (40, v34), (41, v36), (16, v36)]) S35 k))
 (k (.exit 0) (ups e [(17, v4)]) S)
noncomputable def TK167_0e0 (e : En) (S : Zt) (k : SV → Zt → Prop) : Prop :=
 wpO (cW cT 238 [(e 5)] S) fun p37 =>
 k p37.1 p37.2
theorem F167_ok{x0 x1:SV}{S:Zt}{k:SV→Zt→Prop}(h:F167 x0 x1 S k):wpO (bW cT 167 [x0,x1] S) (fun p=>k p.1 p.2):=bodyP_of (fn:=Tryz.f167) (by kernel_rfl) (by kernel_rfl) (Nat.le_of_ble_eq_true (by kernel_rfl)) ((show F167 x0 x1 S k=wpC cT Tryz.f167.ntmps B167 (argE [x0,x1]) S (outP cT Tryz.f167 k)by kernel_rfl).mp h)
theorem L167_0_ok{e:En}{S:Zt}{k:X→En→Zt→Prop}(h:TL167_0 e S k):DenP cT 44 (.loop L167_0) e S k:=loopP_of ((show TL167_0 e S k=wpC cT 44 L167_0 e S (againP cT 44 L167_0 k)by kernel_rfl).mp h)
theorem K167_0e0_ok{e:En}{S:Zt}{k:SV→Zt→Prop}(h:TK167_0e0 e S k):K167_0 k (.exit 0) e S:=(show TK167_0e0 e S k=K167_0 k (.exit 0) e S by kernel_rfl).mp h
noncomputable abbrev B165:Code:=bodyOf Tryz.f165
noncomputable def F165 (x0 x1 : SV) (S : Zt) (k : SV → Zt → Prop) : Prop :=
 wpO (alS y44.zero S) fun p0 =>
 wpO (convS y2 x0) fun v1 =>
 wpO (cW cT 92 [v1] p0.2) fun p2 =>
 wpO (cW cT 107 [p2.1, x1] p2.2) fun p3 =>
 wpO (extS p3.1 0) fun v4 =>
 wpO (extS p3.1 1) fun v5 =>
 wpO (alS y44.zero p3.2) fun p6 =>
 wpO (stS y44 p6.2 p6.1 v4) fun S7 =>
 wpO (ldS y44 S7 p6.1) fun v8 =>
 wpO (stS y44 S7 p0.1 v8) fun S9 =>
 wpO (ldS y44 S9 p0.1) fun v10 =>
 k v10 S9
theorem F165_ok{x0 x1:SV}{S:Zt}{k:SV→Zt→Prop}(h:F165 x0 x1 S k):wpO (bW cT 165 [x0,x1] S) (fun p=>k p.1 p.2):=bodyP_of (fn:=Tryz.f165) (by kernel_rfl) (by kernel_rfl) (Nat.le_of_ble_eq_true (by kernel_rfl)) ((show F165 x0 x1 S k=wpC cT Tryz.f165.ntmps B165 (argE [x0,x1]) S (outP cT Tryz.f165 k)by kernel_rfl).mp h)
noncomputable abbrev B166:Code:=bodyOf Tryz.f166
noncomputable def L166_0:Code:=codeAt [1,1,1,1,0,1,0,0] B166
noncomputable def K166_0(k:SV→Zt→Prop):X→En→Zt→Prop:=cont cT 80 [1,1,1,1,0,1,0] B166 (outP cT Tryz.f166 k)
noncomputable def F166 (x0 x1 x2 x3 x4 : SV) (S : Zt) (k : SV → Zt → Prop) : Prop :=
 wpO (alS x0 S) fun p0 =>
 wpO (ldS y99 p0.2 p0.1) fun v1 =>
 wpO (cW cT 233 [v1, x2, x3] p0.2) fun p2 =>
 wpO (cW cT 92 [(.int .i64 1)] p2.2) fun p3 =>
 wpO (faS cT y99 p0.1 0) fun v4 =>
 wpO (ldS y25 p3.2 v4) fun v5 =>
 wpO (convS y2 v5) fun v6 =>
 wpO (cW cT 92 [v6] p3.2) fun p7 =>
 wpO (alS y44.zero p7.2) fun p8 =>
 wpO (alS y44.zero p8.2) fun p9 =>
 wpO (stS y44 p9.2 p8.1 p3.1) fun S10 =>
 wpO (stS y44 S10 p9.1 p7.1) fun S11 =>
 wpO (ldS y44 S11 p8.1) fun v12 =>
 wpO (cW cT 234 [(.vsl [] .nil), v12, x2] S11) fun p13 =>
 wpO (ldS y44 p13.2 p8.1) fun v14 =>
 wpO (cW cT 234 [(.vsl [] .nil), v14, x3] p13.2) fun p15 =>
 wpO (bnS .sub (some y3) x4 (.int .i64 1)) fun v16 =>
 DenP cT 80 (.loop L166_0) (ups (argE [x0, x1, x2, x3, x4]) [(5, p0.1), (10, (.vsl [] .nil)), (11, (.vsl [] .nil)), (19, v1), (20, x2), (21, x3), (22, p2.1), (12, p2.1), (23, p3.1), (24, v4), (25, v5), (26, v6), (27, p7.1), (13, p8.1), (14, p9.1), (28, v12), (29, x2), (30, p13.1), (31, v14), (32, x3), (33, p15.1), (15, p13.1), (16, p15.1), (34, x4), (35, v16), (36, (.int .i64 0))]) p15.2 (K166_0 k)
noncomputable def TL166_0 (e : En) (S : Zt) (k : X → En → Zt → Prop) : Prop :=
 wpO (bnS .lss (some y3) (e 36) (e 35)) fun v17 =>
 condP v17
 (wpO (cW cT 236 [(e 15), (e 16)] S) fun p18 =>
 wpO (cW cT 235 [(e 1), p18.1] p18.2) fun p19 =>
 wpO (ldS y44 p19.2 (e 14)) fun v20 =>
 wpO (faS cT y99 (e 5) 0) fun v21 =>
 wpO (ldS y25 p19.2 v21) fun v22 =>
 wpO (cW cT 100 [p19.1, v20, v22] p19.2) fun p23 =>
 wpO (ldS y99 p23.2 (e 5)) fun v24 =>
 wpO (ldS y99 p23.2 (e 5)) fun v25 =>
 wpO (cW cT 99 [v25, (e 12), p23.1] p23.2) fun p26 =>
 wpO (cW cT 132 [v24, p26.1, (e 2)] p26.2) fun p27 =>
 wpO (ldS y44 p27.2 (e 14)) fun v28 =>
 wpO (cW cT 234 [(e 15), v28, p27.1] p27.2) fun p29 =>
 wpO (ldS y44 p29.2 (e 14)) fun v30 =>
 wpO (ldS y99 p29.2 (e 5)) fun v31 =>
 wpO (ldS y99 p29.2 (e 5)) fun v32 =>
 wpO (ldS y99 p29.2 (e 5)) fun v33 =>
 wpO (cW cT 99 [v33, p27.1, (e 3)] p29.2) fun p34 =>
 wpO (cW cT 131 [v32, p23.1, p34.1] p34.2) fun p35 =>
 wpO (cW cT 129 [v31, p35.1, (e 2)] p35.2) fun p36 =>
 wpO (cW cT 234 [(e 16), v30, p36.1] p36.2) fun p37 =>
 wpO (ldS y44 p37.2 (e 14)) fun v38 =>
 wpO (faS cT y99 (e 5) 0) fun v39 =>
 wpO (ldS y25 p37.2 v39) fun v40 =>
 wpO (convS y2 v40) fun v41 =>
 wpO (cW cT 92 [v41] p37.2) fun p42 =>
 wpO (cW cT 108 [v38, p42.1] p42.2) fun p43 =>
 wpO (stS y44 p43.2 (e 14) p43.1) fun S44 =>
 wpO (bnS .add (some y3) (e 36) (.int .i64 1)) fun v45 =>
 DenP cT 80 (.loop L166_0) (ups e [(37, v17), (38, (e 1)), (39, (e 15)), (40, (e 16)), (41, p18.1), (42, p19.1), (43, v20), (44, v21), (45, v22), (46, p23.1), (17, p23.1), (47, v24), (48, v25), (49, (e 12)), (50, p23.1), (51, p26.1), (52, (e 2)), (53, p27.1), (18, p27.1), (54, (e 15)), (55, v28), (56, p27.1), (57, p29.1), (58, (e 16)), (59, v30), (60, v31), (61, v32), (62, p23.1), (63, v33), (64, p27.1), (65, (e 3)), (66, p34.1), (67, p35.1), (68, (e 2)), (69, p36.1), (70, p37.1), (15, p29.1), (16, p37.1), (71, v38), (72, v39), (73, v40), (74, v41), (75, p42.1), (76, p43.1), (77, v45), (36, v45)]) S44 k)
 (k (.exit 0) (ups e [(37, v17)]) S)
noncomputable def TK166_0e0 (e : En) (S : Zt) (k : SV → Zt → Prop) : Prop :=
 k (.tup [(e 15), (e 16)]) S
theorem F166_ok{x0 x1 x2 x3 x4:SV}{S:Zt}{k:SV→Zt→Prop}(h:F166 x0 x1 x2 x3 x4 S k):wpO (bW cT 166 [x0,x1,x2,x3,x4] S) (fun p=>k p.1 p.2):=bodyP_of (fn:=Tryz.f166) (by kernel_rfl) (by kernel_rfl) (Nat.le_of_ble_eq_true (by kernel_rfl)) ((show F166 x0 x1 x2 x3 x4 S k=wpC cT Tryz.f166.ntmps B166 (argE [x0,x1,x2,x3,x4]) S (outP cT Tryz.f166 k)by kernel_rfl).mp h)
theorem L166_0_ok{e:En}{S:Zt}{k:X→En→Zt→Prop}(h:TL166_0 e S k):DenP cT 80 (.loop L166_0) e S k:=loopP_of ((show TL166_0 e S k=wpC cT 80 L166_0 e S (againP cT 80 L166_0 k)by kernel_rfl).mp h)
theorem K166_0e0_ok{e:En}{S:Zt}{k:SV→Zt→Prop}(h:TK166_0e0 e S k):K166_0 k (.exit 0) e S:=(show TK166_0e0 e S k=K166_0 k (.exit 0) e S by kernel_rfl).mp h
noncomputable abbrev B28:Code:=bodyOf Tryz.f28
noncomputable def O28_0:List Oper:=opsAt (codeAt [0] B28)
noncomputable def O28_1:List Oper:=opsAt (codeAt [1,0] B28)
noncomputable def O28_2:List Oper:=opsAt (codeAt [1,1,0,0] B28)
noncomputable def O28_3:List Oper:=opsAt (codeAt [1,1,0,1,0,0] B28)
noncomputable def O28_4:List Oper:=opsAt (codeAt [1,1,1,0] B28)
noncomputable def O28_5:List Oper:=opsAt (codeAt [1,1,1,1,0] B28)
noncomputable def O28_6:List Oper:=opsAt (codeAt [1,1,1,1,1,0] B28)
noncomputable def O28_7:List Oper:=opsAt (codeAt [1,1,1,1,1,1,0,0] B28)
noncomputable def O28_8:List Oper:=opsAt (codeAt [1,1,1,1,1,1,0,1,0,0,0] B28)
noncomputable def O28_9:List Oper:=opsAt (codeAt [1,1,1,1,1,1,0,1,0,0,1,1,0,0,0] B28)
noncomputable def O28_10:List Oper:=opsAt (codeAt [1,1,1,1,1,1,0,1,0,0,1,1,0,0,1,0,0] B28)
noncomputable def O28_11:List Oper:=opsAt (codeAt [1,1,1,1,1,1,0,1,0,0,1,1,0,0,1,0,1,0,0] B28)
noncomputable def O28_12:List Oper:=opsAt (codeAt [1,1,1,1,1,1,0,1,0,0,1,1,0,0,1,1] B28)
noncomputable def O28_13:List Oper:=opsAt (codeAt [1,1,1,1,1,1,0,1,0,0,1,1,1] B28)
noncomputable def O28_14:List Oper:=opsAt (codeAt [1,1,1,1,1,1,1,0,0] B28)
noncomputable def O28_15:List Oper:=opsAt (codeAt [1,1,1,1,1,1,1,0,1,0,0] B28)
noncomputable def O28_16:List Oper:=opsAt (codeAt [1,1,1,1,1,1,1,1,0] B28)
noncomputable def L28_0:Code:=codeAt [1,1,1,1,1,1,0,1,0,0] B28
noncomputable def K28_0(k:SV→Zt→Prop):X→En→Zt→Prop:=cont cT 110 [1,1,1,1,1,1,0,1,0] B28 (outP cT Tryz.f28 k)
noncomputable def TQ28_0_0 (e : En) (S : Zt) (K : En → Zt → Prop) : Prop :=
 K (ups e [(8, (.vsl [] .nil)), (9, (.int .i64 0))]) S
noncomputable def TQ28_1_0 (e : En) (S : Zt) (K : En → Zt → Prop) : Prop :=
 wpO (cW cT 92 [(.int .i64 1)] S) fun p0 =>
 wpO (alS y44.zero p0.2) fun p1 =>
 wpO (stS y44 p1.2 p1.1 p0.1) fun S2 =>
 K (ups e [(16, p0.1), (10, p1.1)]) S2
noncomputable def TQ28_2_0 (e : En) (S : Zt) (K : En → Zt → Prop) : Prop :=
 wpO (cW cT 57 [(e 2)] S) fun p0 =>
 wpO (unS .not p0.1) fun v1 =>
 grdP (some v1) false (fun k => k (e 3) p0.2) p0.2 fun v2 S3 =>
 grdP (some v1) false (fun k => wpO (bnS .lss (some y3) v2 (.int .i64 1)) fun v4 => k v4 S3) S3 fun v5 S6 =>
 wpO (pickS v1 (.bool true) v5) fun v7 =>
 grdP (some v7) false (fun k => k (e 3) S6) S6 fun v8 S9 =>
 grdP (some v7) false (fun k => wpO (bnS .gtr (some y3) v8 (.int .i64 200)) fun v10 => k v10 S9) S9 fun v11 S12 =>
 wpO (pickS v7 (.bool true) v11) fun v13 =>
 K (ups e [(17, (e 2)), (18, p0.1), (19, v1), (20, v1), (21, v2), (22, v5), (23, v7), (24, v7), (25, v8), (26, v11), (27, v13), (28, v13)]) S12
noncomputable def TQ28_2_1 (e : En) (S : Zt) (K : En → Zt → Prop) : Prop :=
 grdP (some (e 28)) false (fun k => k (e 0) S) S fun v0 S1 =>
 grdP (some (e 28)) false (fun k => wpO (lenS y57 v0) fun v2 => k v2 S1) S1 fun v3 S4 =>
 grdP (some (e 28)) false (fun k => wpO (bnS .eql (some y3) v3 (.int .i64 0)) fun v5 => k v5 S4) S4 fun v6 S7 =>
 wpO (pickS (e 28) (.bool true) v6) fun v8 =>
 grdP (some v8) false (fun k => k (e 0) S7) S7 fun v9 S10 =>
 grdP (some v8) false (fun k => wpO (cW cT 93 [v9, (.fn 94 [] [])] S10) fun p11 => k p11.1 p11.2) S10 fun v12 S13 =>
 wpO (pickS v8 (.bool true) v12) fun v14 =>
 grdP (some v14) false (fun k => k (e 0) S13) S13 fun v15 S16 =>
 grdP (some v14) false (fun k => k (e 0) S16) S16 fun v17 S18 =>
 grdP (some v14) false (fun k => wpO (lenS y57 v17) fun v19 => k v19 S18) S18 fun v20 S21 =>
 K (ups e [(29, v0), (30, v3), (31, v6), (32, v8), (33, v8), (34, v9), (35, v12), (36, v14), (37, v14), (38, v15), (39, v17), (40, v20)]) S21
noncomputable def TQ28_2_2 (e : En) (S : Zt) (K : En → Zt → Prop) : Prop :=
 grdP (some (e 37)) false (fun k => wpO (bnS .sub (some y3) (e 40) (.int .i64 1)) fun v0 => k v0 S) S fun v1 S2 =>
 grdP (some (e 37)) false (fun k => wpO (ixS cT y57 (e 38) v1) fun v3 => k v3 S2) S2 fun v4 S5 =>
 grdP (some (e 37)) false (fun k => wpO (ldS y44 S5 v4) fun v6 => k v6 S5) S5 fun v7 S8 =>
 grdP (some (e 37)) false (fun k => wpO (ldS y44 S8 (e 10)) fun v9 => k v9 S8) S8 fun v10 S11 =>
 grdP (some (e 37)) false (fun k => wpO (cW cT 96 [v7, v10] S11) fun p12 => k p12.1 p12.2) S11 fun v13 S14 =>
 grdP (some (e 37)) false (fun k => wpO (bnS .neq (some y3) v13 (.int .i64 0)) fun v15 => k v15 S14) S14 fun v16 S17 =>
 wpO (pickS (e 37) (.bool true) v16) fun v18 =>
 K (ups e [(41, v1), (42, v4), (43, v7), (44, v10), (45, v13), (46, v16), (47, v18)]) S17
noncomputable def TQ28_4_0 (e : En) (S : Zt) (K : En → Zt → Prop) : Prop :=
 wpO (buildS cT y99 [(0, (e 2))]) fun v0 =>
 wpO (alS y99.zero S) fun p1 =>
 wpO (stS y99 p1.2 p1.1 v0) fun S2 =>
 K (ups e [(48, (e 2)), (49, v0), (11, p1.1)]) S2
noncomputable def TQ28_5_0 (e : En) (S : Zt) (K : En → Zt → Prop) : Prop :=
 wpO (lenS y60 (e 1)) fun v0 =>
 wpO (mkslS y100 v0 v0 S) fun p1 =>
 K (ups e [(50, (e 1)), (51, v0), (52, p1.1), (12, p1.1)]) p1.2
noncomputable def TQ28_6_0 (e : En) (S : Zt) (K : En → Zt → Prop) : Prop :=
 wpO (bslS y25 1 [(0, (.int .u64 (1)))] S) fun p0 =>
 K (ups e [(53, p0.1), (13, p0.1)]) p0.2
noncomputable def TQ28_7_0 (e : En) (S : Zt) (K : En → Zt → Prop) : Prop :=
 wpO (lenS y60 (e 1)) fun v0 =>
 K (ups e [(54, (e 1)), (55, v0), (56, (.int .i64 0))]) S
noncomputable def TQ28_8_0 (e : En) (S : Zt) (K : En → Zt → Prop) : Prop :=
 wpO (bnS .lss (some y3) (e 56) (e 55)) fun v0 =>
 K (ups e [(57, v0)]) S
noncomputable def TQ28_9_0 (e : En) (S : Zt) (K : En → Zt → Prop) : Prop :=
 wpO (ixS cT y60 (e 54) (e 56)) fun v0 =>
 wpO (ldS y22 S v0) fun v1 =>
 K (ups e [(58, (e 56)), (59, v0), (60, v1), (14, (e 56)), (15, v1)]) S
noncomputable def TQ28_10_0 (e : En) (S : Zt) (K : En → Zt → Prop) : Prop :=
 wpO (lenS y22 (e 15)) fun v0 =>
 wpO (bnS .lss (some y3) v0 (.int .i64 2)) fun v1 =>
 grdP (some v1) false (fun k => wpO (ldS y99 S (e 11)) fun v2 => k v2 S) S fun v3 S4 =>
 grdP (some v1) false (fun k => k (e 15) S4) S4 fun v5 S6 =>
 grdP (some v1) false (fun k => wpO (cW cT 59 [v3, v5] S6) fun p7 => k p7.1 p7.2) S6 fun v8 S9 =>
 grdP (some v1) false (fun k => k (e 15) S9) S9 fun v10 S11 =>
 grdP (some v1) false (fun k => wpO (cW cT 97 [v8, v10] S11) fun p12 => k p12.1 p12.2) S11 fun v13 S14 =>
 grdP (some v1) false (fun k => wpO (unS .not v13) fun v15 => k v15 S14) S14 fun v16 S17 =>
 wpO (pickS v1 (.bool true) v16) fun v18 =>
 K (ups e [(61, (e 15)), (62, v0), (63, v1), (64, v1), (65, v3), (66, v5), (67, v8), (68, v10), (69, v13), (70, v16), (71, v18), (72, v18)]) S17
noncomputable def TQ28_10_1 (e : En) (S : Zt) (K : En → Zt → Prop) : Prop :=
 grdP (some (e 72)) false (fun k => k (e 15) S) S fun v0 S1 =>
 grdP (some (e 72)) false (fun k => k (e 15) S1) S1 fun v2 S3 =>
 grdP (some (e 72)) false (fun k => wpO (lenS y22 v2) fun v4 => k v4 S3) S3 fun v5 S6 =>
 grdP (some (e 72)) false (fun k => wpO (bnS .sub (some y3) v5 (.int .i64 1)) fun v7 => k v7 S6) S6 fun v8 S9 =>
 grdP (some (e 72)) false (fun k => wpO (ixS cT y22 v0 v8) fun v10 => k v10 S9) S9 fun v11 S12 =>
 grdP (some (e 72)) false (fun k => wpO (ldS y25 S12 v11) fun v13 => k v13 S12) S12 fun v14 S15 =>
 grdP (some (e 72)) false (fun k => wpO (bnS .neq (some y25) v14 (.int .u64 (1))) fun v16 => k v16 S15) S15 fun v17 S18 =>
 wpO (pickS (e 72) (.bool true) v17) fun v19 =>
 grdP (some v19) false (fun k => wpO (ldS y99 S18 (e 11)) fun v20 => k v20 S18) S18 fun v21 S22 =>
 grdP (some v19) false (fun k => k (e 15) S22) S22 fun v23 S24 =>
 grdP (some v19) false (fun k => k (e 13) S24) S24 fun v25 S26 =>
 K (ups e [(73, v0), (74, v2), (75, v5), (76, v8), (77, v11), (78, v14), (79, v17), (80, v19), (81, v19), (82, v21), (83, v23), (84, v25)]) S26
noncomputable def TQ28_10_2 (e : En) (S : Zt) (K : En → Zt → Prop) : Prop :=
 grdP (some (e 81)) false (fun k => wpO (cW cT 98 [(e 82), (e 83), (e 84)] S) fun p0 => k p0.1 p0.2) S fun v1 S2 =>
 grdP (some (e 81)) false (fun k => wpO (lenS y100 v1) fun v3 => k v3 S2) S2 fun v4 S5 =>
 grdP (some (e 81)) false (fun k => wpO (bnS .neq (some y3) v4 (.int .i64 1)) fun v6 => k v6 S5) S5 fun v7 S8 =>
 wpO (pickS (e 81) (.bool true) v7) fun v9 =>
 K (ups e [(85, v1), (86, v4), (87, v7), (88, v9)]) S8
noncomputable def TQ28_12_0 (e : En) (S : Zt) (K : En → Zt → Prop) : Prop :=
 wpO (ldS y99 S (e 11)) fun v0 =>
 wpO (cW cT 99 [v0, (e 13), (e 15)] S) fun p1 =>
 wpO (ixS cT y102 (e 12) (e 14)) fun v2 =>
 wpO (stS y100 p1.2 v2 (e 15)) fun S3 =>
 K (ups e [(89, (e 12)), (90, (e 14)), (91, (e 15)), (92, v0), (93, (e 13)), (94, (e 15)), (95, p1.1), (96, v2), (13, p1.1)]) S3
noncomputable def TQ28_13_0 (e : En) (S : Zt) (K : En → Zt → Prop) : Prop :=
 wpO (bnS .add (some y3) (e 56) (.int .i64 1)) fun v0 =>
 K (ups e [(97, v0), (56, v0)]) S
noncomputable def TQ28_14_0 (e : En) (S : Zt) (K : En → Zt → Prop) : Prop :=
 wpO (ldS y44 S (e 10)) fun v0 =>
 wpO (cW cT 100 [(e 0), v0, (e 2)] S) fun p1 =>
 wpO (cW cT 97 [(e 13), p1.1] p1.2) fun p2 =>
 wpO (unS .not p2.1) fun v3 =>
 K (ups e [(98, (e 13)), (99, (e 0)), (100, v0), (101, (e 2)), (102, p1.1), (103, p2.1), (104, v3)]) p2.2
noncomputable def TQ28_16_0 (e : En) (S : Zt) (K : En → Zt → Prop) : Prop :=
 wpO (ldS y99 S (e 11)) fun v0 =>
 wpO (cW cT 101 [v0, (e 0), (e 12), (e 3)] S) fun p1 =>
 K (ups e [(105, v0), (106, (e 0)), (107, (e 12)), (108, (e 3)), (109, p1.1), (8, p1.1), (9, (.int .i64 0))]) p1.2
noncomputable def F28 (e : En) (S : Zt) (k : SV → Zt → Prop) : Prop :=
 runP cT (cW cT) (rW cT) 110 O28_0 false 0 O28_0 e S fun e S =>
 runP cT (cW cT) (rW cT) 110 O28_1 false 0 O28_1 e S fun e S =>
 runP cT (cW cT) (rW cT) 110 O28_2 true 0 O28_2 e S fun e S =>
 condP (e 47)
 (runP cT (cW cT) (rW cT) 110 O28_3 false 0 O28_3 e S fun e S =>
 k (.tup [(e 8), (e 9)]) S)
 (runP cT (cW cT) (rW cT) 110 O28_4 false 0 O28_4 e S fun e S =>
 runP cT (cW cT) (rW cT) 110 O28_5 false 0 O28_5 e S fun e S =>
 runP cT (cW cT) (rW cT) 110 O28_6 false 0 O28_6 e S fun e S =>
 runP cT (cW cT) (rW cT) 110 O28_7 false 0 O28_7 e S fun e S =>
 DenP cT 110 (.loop L28_0) e S (K28_0 k))
noncomputable def TL28_0 (e : En) (S : Zt) (k : X → En → Zt → Prop) : Prop :=
 runP cT (cW cT) (rW cT) 110 O28_8 false 0 O28_8 e S fun e S =>
 condP (e 57)
 (runP cT (cW cT) (rW cT) 110 O28_9 false 0 O28_9 e S fun e S =>
 runP cT (cW cT) (rW cT) 110 O28_10 false 0 O28_10 e S fun e S =>
 condP (e 88)
 (runP cT (cW cT) (rW cT) 110 O28_11 false 0 O28_11 e S fun e S =>
 k .ret e S)
 (runP cT (cW cT) (rW cT) 110 O28_12 false 0 O28_12 e S fun e S =>
 runP cT (cW cT) (rW cT) 110 O28_13 false 0 O28_13 e S fun e S =>
 DenP cT 110 (.loop L28_0) e S k))
 (k (.exit 0) e S)
noncomputable def TK28_0e0 (e : En) (S : Zt) (k : SV → Zt → Prop) : Prop :=
 runP cT (cW cT) (rW cT) 110 O28_14 false 0 O28_14 e S fun e S =>
 condP (e 104)
 (runP cT (cW cT) (rW cT) 110 O28_15 false 0 O28_15 e S fun e S =>
 k (.tup [(e 8), (e 9)]) S)
 (runP cT (cW cT) (rW cT) 110 O28_16 false 0 O28_16 e S fun e S =>
 k (.tup [(e 8), (e 9)]) S)
theorem Q28_0_0_eq{e:En}{S:Zt}{K:En→Zt→Prop}:TQ28_0_0 e S K=runP cT (cW cT) (rW cT) 110 O28_0 false 0 O28_0 e S K:=by kernel_rfl
theorem Q28_0_ok{e:En}{S:Zt}{K:En→Zt→Prop}(h:TQ28_0_0 e S K):runP cT (cW cT) (rW cT) 110 O28_0 false 0 O28_0 e S K:=Q28_0_0_eq.mp h
theorem Q28_1_0_eq{e:En}{S:Zt}{K:En→Zt→Prop}:TQ28_1_0 e S K=runP cT (cW cT) (rW cT) 110 O28_1 false 0 O28_1 e S K:=by kernel_rfl
theorem Q28_1_ok{e:En}{S:Zt}{K:En→Zt→Prop}(h:TQ28_1_0 e S K):runP cT (cW cT) (rW cT) 110 O28_1 false 0 O28_1 e S K:=Q28_1_0_eq.mp h
theorem Q28_2_0_eq{e:En}{S:Zt}{K:En→Zt→Prop}:TQ28_2_0 e S K=runP cT (cW cT) (rW cT) 110 O28_2 true 0 ((O28_2.drop 0).take 12) e S K:=by kernel_rfl
theorem Q28_2_1_eq{e:En}{S:Zt}{K:En→Zt→Prop}:TQ28_2_1 e S K=runP cT (cW cT) (rW cT) 110 O28_2 true 12 ((O28_2.drop 12).take 12) e S K:=by kernel_rfl
theorem Q28_2_2_eq{e:En}{S:Zt}{K:En→Zt→Prop}:TQ28_2_2 e S K=runP cT (cW cT) (rW cT) 110 O28_2 true 24 ((O28_2.drop 24).take 7) e S K:=by kernel_rfl
theorem O28_2_split:O28_2=(((O28_2.drop 0).take 12)++(((O28_2.drop 12).take 12)++((O28_2.drop 24).take 7))):=by kernel_rfl
theorem O28_2_len0:(((O28_2.drop 0).take 12)).length=12:=by kernel_rfl
theorem O28_2_len1:(((O28_2.drop 12).take 12)).length=12:=by kernel_rfl
theorem Q28_2_ok{e:En}{S:Zt}{K:En→Zt→Prop}(h:TQ28_2_0 e S fun e S=>TQ28_2_1 e S fun e S=>TQ28_2_2 e S K):runP cT (cW cT) (rW cT) 110 O28_2 true 0 O28_2 e S K:=by
 refine(congrArg (fun l=>runP cT (cW cT) (rW cT) 110 O28_2 true 0 l e S K) O28_2_split).mpr ?_
 simp only[runP_append,O28_2_len0,O28_2_len1,Nat.zero_add,Nat.reduceAdd]
 simp only[Q28_2_0_eq,Q28_2_1_eq,Q28_2_2_eq]at h
 exact h
theorem Q28_4_0_eq{e:En}{S:Zt}{K:En→Zt→Prop}:TQ28_4_0 e S K=runP cT (cW cT) (rW cT) 110 O28_4 false 0 O28_4 e S K:=by kernel_rfl
theorem Q28_4_ok{e:En}{S:Zt}{K:En→Zt→Prop}(h:TQ28_4_0 e S K):runP cT (cW cT) (rW cT) 110 O28_4 false 0 O28_4 e S K:=Q28_4_0_eq.mp h
theorem Q28_5_0_eq{e:En}{S:Zt}{K:En→Zt→Prop}:TQ28_5_0 e S K=runP cT (cW cT) (rW cT) 110 O28_5 false 0 O28_5 e S K:=by kernel_rfl
theorem Q28_5_ok{e:En}{S:Zt}{K:En→Zt→Prop}(h:TQ28_5_0 e S K):runP cT (cW cT) (rW cT) 110 O28_5 false 0 O28_5 e S K:=Q28_5_0_eq.mp h
theorem Q28_6_0_eq{e:En}{S:Zt}{K:En→Zt→Prop}:TQ28_6_0 e S K=runP cT (cW cT) (rW cT) 110 O28_6 false 0 O28_6 e S K:=by kernel_rfl
theorem Q28_6_ok{e:En}{S:Zt}{K:En→Zt→Prop}(h:TQ28_6_0 e S K):runP cT (cW cT) (rW cT) 110 O28_6 false 0 O28_6 e S K:=Q28_6_0_eq.mp h
theorem Q28_7_0_eq{e:En}{S:Zt}{K:En→Zt→Prop}:TQ28_7_0 e S K=runP cT (cW cT) (rW cT) 110 O28_7 false 0 O28_7 e S K:=by kernel_rfl
theorem Q28_7_ok{e:En}{S:Zt}{K:En→Zt→Prop}(h:TQ28_7_0 e S K):runP cT (cW cT) (rW cT) 110 O28_7 false 0 O28_7 e S K:=Q28_7_0_eq.mp h
theorem Q28_8_0_eq{e:En}{S:Zt}{K:En→Zt→Prop}:TQ28_8_0 e S K=runP cT (cW cT) (rW cT) 110 O28_8 false 0 O28_8 e S K:=by kernel_rfl
theorem Q28_8_ok{e:En}{S:Zt}{K:En→Zt→Prop}(h:TQ28_8_0 e S K):runP cT (cW cT) (rW cT) 110 O28_8 false 0 O28_8 e S K:=Q28_8_0_eq.mp h
theorem Q28_9_0_eq{e:En}{S:Zt}{K:En→Zt→Prop}:TQ28_9_0 e S K=runP cT (cW cT) (rW cT) 110 O28_9 false 0 O28_9 e S K:=by kernel_rfl
theorem Q28_9_ok{e:En}{S:Zt}{K:En→Zt→Prop}(h:TQ28_9_0 e S K):runP cT (cW cT) (rW cT) 110 O28_9 false 0 O28_9 e S K:=Q28_9_0_eq.mp h
theorem Q28_10_0_eq{e:En}{S:Zt}{K:En→Zt→Prop}:TQ28_10_0 e S K=runP cT (cW cT) (rW cT) 110 O28_10 false 0 ((O28_10.drop 0).take 12) e S K:=by kernel_rfl
theorem Q28_10_1_eq{e:En}{S:Zt}{K:En→Zt→Prop}:TQ28_10_1 e S K=runP cT (cW cT) (rW cT) 110 O28_10 false 12 ((O28_10.drop 12).take 12) e S K:=by kernel_rfl
theorem Q28_10_2_eq{e:En}{S:Zt}{K:En→Zt→Prop}:TQ28_10_2 e S K=runP cT (cW cT) (rW cT) 110 O28_10 false 24 ((O28_10.drop 24).take 4) e S K:=by kernel_rfl
theorem O28_10_split:O28_10=(((O28_10.drop 0).take 12)++(((O28_10.drop 12).take 12)++((O28_10.drop 24).take 4))):=by kernel_rfl
theorem O28_10_len0:(((O28_10.drop 0).take 12)).length=12:=by kernel_rfl
theorem O28_10_len1:(((O28_10.drop 12).take 12)).length=12:=by kernel_rfl
theorem Q28_10_ok{e:En}{S:Zt}{K:En→Zt→Prop}(h:TQ28_10_0 e S fun e S=>TQ28_10_1 e S fun e S=>TQ28_10_2 e S K):runP cT (cW cT) (rW cT) 110 O28_10 false 0 O28_10 e S K:=by
 refine(congrArg (fun l=>runP cT (cW cT) (rW cT) 110 O28_10 false 0 l e S K) O28_10_split).mpr ?_
 simp only[runP_append,O28_10_len0,O28_10_len1,Nat.zero_add,Nat.reduceAdd]
 simp only[Q28_10_0_eq,Q28_10_1_eq,Q28_10_2_eq]at h
 exact h
theorem Q28_12_0_eq{e:En}{S:Zt}{K:En→Zt→Prop}:TQ28_12_0 e S K=runP cT (cW cT) (rW cT) 110 O28_12 false 0 O28_12 e S K:=by kernel_rfl
theorem Q28_12_ok{e:En}{S:Zt}{K:En→Zt→Prop}(h:TQ28_12_0 e S K):runP cT (cW cT) (rW cT) 110 O28_12 false 0 O28_12 e S K:=Q28_12_0_eq.mp h
theorem Q28_13_0_eq{e:En}{S:Zt}{K:En→Zt→Prop}:TQ28_13_0 e S K=runP cT (cW cT) (rW cT) 110 O28_13 false 0 O28_13 e S K:=by kernel_rfl
theorem Q28_13_ok{e:En}{S:Zt}{K:En→Zt→Prop}(h:TQ28_13_0 e S K):runP cT (cW cT) (rW cT) 110 O28_13 false 0 O28_13 e S K:=Q28_13_0_eq.mp h
theorem Q28_14_0_eq{e:En}{S:Zt}{K:En→Zt→Prop}:TQ28_14_0 e S K=runP cT (cW cT) (rW cT) 110 O28_14 false 0 O28_14 e S K:=by kernel_rfl
theorem Q28_14_ok{e:En}{S:Zt}{K:En→Zt→Prop}(h:TQ28_14_0 e S K):runP cT (cW cT) (rW cT) 110 O28_14 false 0 O28_14 e S K:=Q28_14_0_eq.mp h
theorem Q28_16_0_eq{e:En}{S:Zt}{K:En→Zt→Prop}:TQ28_16_0 e S K=runP cT (cW cT) (rW cT) 110 O28_16 false 0 O28_16 e S K:=by kernel_rfl
theorem Q28_16_ok{e:En}{S:Zt}{K:En→Zt→Prop}(h:TQ28_16_0 e S K):runP cT (cW cT) (rW cT) 110 O28_16 false 0 O28_16 e S K:=Q28_16_0_eq.mp h
theorem F28_ok{x0 x1 x2 x3:SV}{S:Zt}{k:SV→Zt→Prop}(h:F28 (argE [x0,x1,x2,x3]) S k):wpO (bW cT 28 [x0,x1,x2,x3] S) (fun p=>k p.1 p.2):=bodyP_of (fn:=Tryz.f28) (by kernel_rfl) (by kernel_rfl) (Nat.le_of_ble_eq_true (by kernel_rfl)) ((show F28 (argE [x0,x1,x2,x3]) S k=wpC cT Tryz.f28.ntmps B28 (argE [x0,x1,x2,x3]) S (outP cT Tryz.f28 k)by kernel_rfl).mp h)
theorem L28_0_ok{e:En}{S:Zt}{k:X→En→Zt→Prop}(h:TL28_0 e S k):DenP cT 110 (.loop L28_0) e S k:=loopP_of ((show TL28_0 e S k=wpC cT 110 L28_0 e S (againP cT 110 L28_0 k)by kernel_rfl).mp h)
theorem K28_0e0_ok{e:En}{S:Zt}{k:SV→Zt→Prop}(h:TK28_0e0 e S k):K28_0 k (.exit 0) e S:=(show TK28_0e0 e S k=K28_0 k (.exit 0) e S by kernel_rfl).mp h
noncomputable abbrev B94:Code:=bodyOf Tryz.f94
noncomputable def F94 (x0 : SV) (S : Zt) (k : SV → Zt → Prop) : Prop :=
 wpO (alS x0 S) fun p0 =>
 wpO (ldS y44 p0.2 p0.1) fun v1 =>
 wpO (cW cT 95 [v1] p0.2) fun p2 =>
 wpO (unS .not p2.1) fun v3 =>
 k v3 p2.2
theorem F94_ok{x0:SV}{S:Zt}{k:SV→Zt→Prop}(h:F94 x0 S k):wpO (bW cT 94 [x0] S) (fun p=>k p.1 p.2):=bodyP_of (fn:=Tryz.f94) (by kernel_rfl) (by kernel_rfl) (Nat.le_of_ble_eq_true (by kernel_rfl)) ((show F94 x0 S k=wpC cT Tryz.f94.ntmps B94 (argE [x0]) S (outP cT Tryz.f94 k)by kernel_rfl).mp h)
noncomputable abbrev B97:Code:=bodyOf Tryz.f97
noncomputable def L97_0:Code:=codeAt [1,1,0,1,0,0] B97
noncomputable def K97_0(k:SV→Zt→Prop):X→En→Zt→Prop:=cont cT 26 [1,1,0,1,0] B97 (outP cT Tryz.f97 k)
noncomputable def F97 (x0 x1 : SV) (S : Zt) (k : SV → Zt → Prop) : Prop :=
 wpO (lenS y100 x0) fun v0 =>
 wpO (lenS y100 x1) fun v1 =>
 wpO (bnS .neq (some y3) v0 v1) fun v2 =>
 condP v2
 (k (.bool false) S)
 (wpO (lenS y100 x0) fun v3 =>
 DenP cT 26 (.loop L97_0) (ups (argE [x0, x1]) [(4, (.bool false)), (6, x0), (7, v0), (8, x1), (9, v1), (10, v2), (11, x0), (12, v3), (13, (.int .i64 0))]) S (K97_0 k))
noncomputable def TL97_0 (e : En) (S : Zt) (k : X → En → Zt → Prop) : Prop :=
 wpO (bnS .lss (some y3) (e 13) (e 12)) fun v4 =>
 condP v4
 (wpO (ixS cT y100 (e 0) (e 13)) fun v5 =>
 wpO (ldS y25 S v5) fun v6 =>
 wpO (ixS cT y100 (e 1) (e 13)) fun v7 =>
 wpO (ldS y25 S v7) fun v8 =>
 wpO (bnS .neq (some y25) v6 v8) fun v9 =>
 condP v9
 (k .ret (ups e [(14, v4), (15, (e 13)), (5, (e 13)), (16, (e 0)), (17, (e 13)), (18, v5), (19, v6), (20, (e 1)), (21, (e 13)), (22, v7), (23, v8), (24, v9), (4, (.bool false))]) S)
 (wpO (bnS .add (some y3) (e 13) (.int .i64 1)) fun v10 =>
 DenP cT 26 (.loop L97_0) (ups e [(14, v4), (15, (e 13)), (5, (e 13)), (16, (e 0)), (17, (e 13)), (18, v5), (19, v6), (20, (e 1)), (21, (e 13)), (22, v7), (23, v8), (24, v9), (25, v10), (13, v10)]) S k))
 (k (.exit 0) (ups e [(14, v4)]) S)
noncomputable def TK97_0e0 (e : En) (S : Zt) (k : SV → Zt → Prop) : Prop :=
 k (.bool true) S
theorem F97_ok{x0 x1:SV}{S:Zt}{k:SV→Zt→Prop}(h:F97 x0 x1 S k):wpO (bW cT 97 [x0,x1] S) (fun p=>k p.1 p.2):=bodyP_of (fn:=Tryz.f97) (by kernel_rfl) (by kernel_rfl) (Nat.le_of_ble_eq_true (by kernel_rfl)) ((show F97 x0 x1 S k=wpC cT Tryz.f97.ntmps B97 (argE [x0,x1]) S (outP cT Tryz.f97 k)by kernel_rfl).mp h)
theorem L97_0_ok{e:En}{S:Zt}{k:X→En→Zt→Prop}(h:TL97_0 e S k):DenP cT 26 (.loop L97_0) e S k:=loopP_of ((show TL97_0 e S k=wpC cT 26 L97_0 e S (againP cT 26 L97_0 k)by kernel_rfl).mp h)
theorem K97_0e0_ok{e:En}{S:Zt}{k:SV→Zt→Prop}(h:TK97_0e0 e S k):K97_0 k (.exit 0) e S:=(show TK97_0e0 e S k=K97_0 k (.exit 0) e S by kernel_rfl).mp h
noncomputable abbrev B93:Code:=bodyOf Tryz.f93
noncomputable def F93 (x0 x1 : SV) (S : Zt) (k : SV → Zt → Prop) : Prop :=
 wpO (cW cT 160 [x0, x1] S) fun p0 =>
 wpO (bnS .geq (some y3) p0.1 (.int .i64 0)) fun v1 =>
 k v1 p0.2
theorem F93_ok{x0 x1:SV}{S:Zt}{k:SV→Zt→Prop}(h:F93 x0 x1 S k):wpO (bW cT 93 [x0,x1] S) (fun p=>k p.1 p.2):=bodyP_of (fn:=Tryz.f93) (by kernel_rfl) (by kernel_rfl) (Nat.le_of_ble_eq_true (by kernel_rfl)) ((show F93 x0 x1 S k=wpC cT Tryz.f93.ntmps B93 (argE [x0,x1]) S (outP cT Tryz.f93 k)by kernel_rfl).mp h)
noncomputable abbrev B160:Code:=bodyOf Tryz.f160
noncomputable def L160_0:Code:=codeAt [1,0,1,0,0] B160
noncomputable def K160_0(k:SV→Zt→Prop):X→En→Zt→Prop:=cont cT 19 [1,0,1,0] B160 (outP cT Tryz.f160 k)
noncomputable def F160 (x0 x1 : SV) (S : Zt) (k : SV → Zt → Prop) : Prop :=
 wpO (lenS y57 x0) fun v0 =>
 DenP cT 19 (.loop L160_0) (ups (argE [x0, x1]) [(4, (.int .i64 0)), (6, x0), (7, v0), (8, (.int .i64 0))]) S (K160_0 k)
noncomputable def TL160_0 (e : En) (S : Zt) (k : X → En → Zt → Prop) : Prop :=
 wpO (bnS .lss (some y3) (e 8) (e 7)) fun v1 =>
 condP v1
 (wpO (ixS cT y57 (e 0) (e 8)) fun v2 =>
 wpO (ldS y44 S v2) fun v3 =>
 wpO (applyS (cW cT) (rW cT) (e 1) [v3] S) fun p4 =>
 condP p4.1
 (k .ret (ups e [(9, v1), (10, (e 8)), (5, (e 8)), (11, (e 1)), (12, (e 0)), (13, (e 8)), (14, v2), (15, v3), (16, p4.1), (17, (e 8)), (4, (e 8))]) p4.2)
 (wpO (bnS .add (some y3) (e 8) (.int .i64 1)) fun v5 =>
 DenP cT 19 (.loop L160_0) (ups e [(9, v1), (10, (e 8)), (5, (e 8)), (11, (e 1)), (12, (e 0)), (13, (e 8)), (14, v2), (15, v3), (16, p4.1), (18, v5), (8, v5)]) p4.2 k))
 (k (.exit 0) (ups e [(9, v1)]) S)
noncomputable def TK160_0e0 (e : En) (S : Zt) (k : SV → Zt → Prop) : Prop :=
 k (.int .i64 (-1)) S
theorem F160_ok{x0 x1:SV}{S:Zt}{k:SV→Zt→Prop}(h:F160 x0 x1 S k):wpO (bW cT 160 [x0,x1] S) (fun p=>k p.1 p.2):=bodyP_of (fn:=Tryz.f160) (by kernel_rfl) (by kernel_rfl) (Nat.le_of_ble_eq_true (by kernel_rfl)) ((show F160 x0 x1 S k=wpC cT Tryz.f160.ntmps B160 (argE [x0,x1]) S (outP cT Tryz.f160 k)by kernel_rfl).mp h)
theorem L160_0_ok{e:En}{S:Zt}{k:X→En→Zt→Prop}(h:TL160_0 e S k):DenP cT 19 (.loop L160_0) e S k:=loopP_of ((show TL160_0 e S k=wpC cT 19 L160_0 e S (againP cT 19 L160_0 k)by kernel_rfl).mp h)
theorem K160_0e0_ok{e:En}{S:Zt}{k:SV→Zt→Prop}(h:TK160_0e0 e S k):K160_0 k (.exit 0) e S:=(show TK160_0e0 e S k=K160_0 k (.exit 0) e S by kernel_rfl).mp h
end Go.Proofs
