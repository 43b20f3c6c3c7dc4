/-
  Functions that the law reaches, laid out (4).
-/
import Derived.Test.YtilhffelllbggaaGreatShG
set_option linter.unusedVariables false
set_option linter.unusedSimpArgs false
set_option maxRecDepth 100000
namespace Go.Proofs
open Go Go.Sh
noncomputable abbrev B242:Code:=bodyOf Tryz.f242
noncomputable def F242 (x0 x1 x2 : SV) (S : Zt) (k : SV → Zt → Prop) : Prop :=
 wpO (bnS .sub (some y23) x0 x1) fun v0 =>
 wpO (bnS .sub (some y23) v0 x2) fun v1 =>
 wpO (unS .xor x0) fun v2 =>
 wpO (bnS .and (some y23) v2 x1) fun v3 =>
 wpO (bnS .xor (some y23) x0 x1) fun v4 =>
 wpO (unS .xor v4) fun v5 =>
 wpO (bnS .and (some y23) v5 v1) fun v6 =>
 wpO (bnS .or (some y23) v3 v6) fun v7 =>
 wpO (bnS .shr (some y23) v7 (.int .u64 (31))) fun v8 =>
 k (.tup [v1, v8]) S
theorem F242_ok{x0 x1 x2:SV}{S:Zt}{k:SV→Zt→Prop}(h:F242 x0 x1 x2 S k):wpO (bW cT 242 [x0,x1,x2] S) (fun p=>k p.1 p.2):=bodyP_of (fn:=Tryz.f242) (by kernel_rfl) (by kernel_rfl) (Nat.le_of_ble_eq_true (by kernel_rfl)) ((show F242 x0 x1 x2 S k=wpC cT Tryz.f242.ntmps B242 (argE [x0,x1,x2]) S (outP cT Tryz.f242 k)by kernel_rfl).mp h)
noncomputable abbrev B300:Code:=bodyOf Tryz.f300
noncomputable def F300 (x0 x1 x2 : SV) (S : Zt) (k : SV → Zt → Prop) : Prop :=
 wpO (bnS .neq (some y23) x2 (.int .u32 (0))) fun v0 =>
 grdP (some v0) true (fun k => k x2 S) S fun v1 S2 =>
 grdP (some v0) true (fun k => k x0 S2) S2 fun v3 S4 =>
 grdP (some v0) true (fun k => wpO (bnS .leq (some y23) v1 v3) fun v5 => k v5 S4) S4 fun v6 S7 =>
 wpO (pickS v0 v6 (.bool false)) fun v8 =>
 condP v8
 False
 (wpO (convS y25 x0) fun v10 =>
 wpO (bnS .shl (some y25) v10 (.int .u64 (32))) fun v11 =>
 wpO (convS y25 x1) fun v12 =>
 wpO (bnS .or (some y25) v11 v12) fun v13 =>
 wpO (convS y25 x2) fun v14 =>
 wpO (bnS .quo (some y25) v13 v14) fun v15 =>
 wpO (convS y23 v15) fun v16 =>
 wpO (convS y25 x2) fun v17 =>
 wpO (bnS .rem (some y25) v13 v17) fun v18 =>
 wpO (convS y23 v18) fun v19 =>
 k (.tup [v16, v19]) S7)
theorem F300_ok{x0 x1 x2:SV}{S:Zt}{k:SV→Zt→Prop}(h:F300 x0 x1 x2 S k):wpO (bW cT 300 [x0,x1,x2] S) (fun p=>k p.1 p.2):=bodyP_of (fn:=Tryz.f300) (by kernel_rfl) (by kernel_rfl) (Nat.le_of_ble_eq_true (by kernel_rfl)) ((show F300 x0 x1 x2 S k=wpC cT Tryz.f300.ntmps B300 (argE [x0,x1,x2]) S (outP cT Tryz.f300 k)by kernel_rfl).mp h)
noncomputable abbrev B161:Code:=bodyOf Tryz.f161
noncomputable def F161 (x0 x1 : SV) (S : Zt) (k : SV → Zt → Prop) : Prop :=
 wpO (cW cT 229 [x0] S) fun p0 =>
 wpO (cW cT 229 [x1] p0.2) fun p1 =>
 condP p0.1
 (condP p1.1
 (k (.int .i64 0) p1.2)
 (k (.int .i64 (-1)) p1.2))
 (condP p1.1
 (k (.int .i64 1) p1.2)
 (wpO (bnS .lss (some y3) x0 x1) fun v2 =>
 condP v2
 (k (.int .i64 (-1)) p1.2)
 (wpO (bnS .gtr (some y3) x0 x1) fun v3 =>
 condP v3
 (k (.int .i64 1) p1.2)
 (k (.int .i64 0) p1.2))))
theorem F161_ok{x0 x1:SV}{S:Zt}{k:SV→Zt→Prop}(h:F161 x0 x1 S k):wpO (bW cT 161 [x0,x1] S) (fun p=>k p.1 p.2):=bodyP_of (fn:=Tryz.f161) (by kernel_rfl) (by kernel_rfl) (Nat.le_of_ble_eq_true (by kernel_rfl)) ((show F161 x0 x1 S k=wpC cT Tryz.f161.ntmps B161 (argE [x0,x1]) S (outP cT Tryz.f161 k)by kernel_rfl).mp h)
noncomputable abbrev B229:Code:=bodyOf Tryz.f229
noncomputable def F229 (x0 : SV) (S : Zt) (k : SV → Zt → Prop) : Prop :=
 wpO (bnS .neq (some y3) x0 x0) fun v0 =>
 k v0 S
theorem F229_ok{x0:SV}{S:Zt}{k:SV→Zt→Prop}(h:F229 x0 S k):wpO (bW cT 229 [x0] S) (fun p=>k p.1 p.2):=bodyP_of (fn:=Tryz.f229) (by kernel_rfl) (by kernel_rfl) (Nat.le_of_ble_eq_true (by kernel_rfl)) ((show F229 x0 S k=wpC cT Tryz.f229.ntmps B229 (argE [x0]) S (outP cT Tryz.f229 k)by kernel_rfl).mp h)
noncomputable abbrev B230:Code:=bodyOf Tryz.f230
noncomputable def F230 (x0 x1 : SV) (S : Zt) (k : SV → Zt → Prop) : Prop :=
 wpO (cW cT 279 [x0] S) fun p0 =>
 wpO (cW cT 279 [x1] p0.2) fun p1 =>
 condP p0.1
 (condP p1.1
 (k (.int .i64 0) p1.2)
 (k (.int .i64 (-1)) p1.2))
 (condP p1.1
 (k (.int .i64 1) p1.2)
 (wpO (bnS .lss (some y23) x0 x1) fun v2 =>
 condP v2
 (k (.int .i64 (-1)) p1.2)
 (wpO (bnS .gtr (some y23) x0 x1) fun v3 =>
 condP v3
 (k (.int .i64 1) p1.2)
 (k (.int .i64 0) p1.2))))
theorem F230_ok{x0 x1:SV}{S:Zt}{k:SV→Zt→Prop}(h:F230 x0 x1 S k):wpO (bW cT 230 [x0,x1] S) (fun p=>k p.1 p.2):=bodyP_of (fn:=Tryz.f230) (by kernel_rfl) (by kernel_rfl) (Nat.le_of_ble_eq_true (by kernel_rfl)) ((show F230 x0 x1 S k=wpC cT Tryz.f230.ntmps B230 (argE [x0,x1]) S (outP cT Tryz.f230 k)by kernel_rfl).mp h)
noncomputable abbrev B279:Code:=bodyOf Tryz.f279
noncomputable def F279 (x0 : SV) (S : Zt) (k : SV → Zt → Prop) : Prop :=
 wpO (bnS .neq (some y23) x0 x0) fun v0 =>
 k v0 S
theorem F279_ok{x0:SV}{S:Zt}{k:SV→Zt→Prop}(h:F279 x0 S k):wpO (bW cT 279 [x0] S) (fun p=>k p.1 p.2):=bodyP_of (fn:=Tryz.f279) (by kernel_rfl) (by kernel_rfl) (Nat.le_of_ble_eq_true (by kernel_rfl)) ((show F279 x0 S k=wpC cT Tryz.f279.ntmps B279 (argE [x0]) S (outP cT Tryz.f279 k)by kernel_rfl).mp h)
noncomputable abbrev B158:Code:=bodyOf Tryz.f158
noncomputable def F158 (x0 : SV) (S : Zt) (k : SV → Zt → Prop) : Prop :=
 wpO (convS y23 x0) fun v0 =>
 wpO (bnS .shr (some y25) x0 (.int .u64 (32))) fun v1 =>
 wpO (convS y23 v1) fun v2 =>
 wpO (bslS y23 2 [(0, v0), (1, v2)] S) fun p3 =>
 wpO (cW cT 227 [p3.1] p3.2) fun p4 =>
 k p4.1 p4.2
theorem F158_ok{x0:SV}{S:Zt}{k:SV→Zt→Prop}(h:F158 x0 S k):wpO (bW cT 158 [x0] S) (fun p=>k p.1 p.2):=bodyP_of (fn:=Tryz.f158) (by kernel_rfl) (by kernel_rfl) (Nat.le_of_ble_eq_true (by kernel_rfl)) ((show F158 x0 S k=wpC cT Tryz.f158.ntmps B158 (argE [x0]) S (outP cT Tryz.f158 k)by kernel_rfl).mp h)
noncomputable abbrev B281:Code:=bodyOf Tryz.f281
noncomputable def F281 (x0 : SV) (S : Zt) (k : SV → Zt → Prop) : Prop :=
 wpO (cW cT 188 [x0] S) fun p0 =>
 wpO (bnS .sub (some y3) (.int .i64 32) p0.1) fun v1 =>
 k v1 p0.2
theorem F281_ok{x0:SV}{S:Zt}{k:SV→Zt→Prop}(h:F281 x0 S k):wpO (bW cT 281 [x0] S) (fun p=>k p.1 p.2):=bodyP_of (fn:=Tryz.f281) (by kernel_rfl) (by kernel_rfl) (Nat.le_of_ble_eq_true (by kernel_rfl)) ((show F281 x0 S k=wpC cT Tryz.f281.ntmps B281 (argE [x0]) S (outP cT Tryz.f281 k)by kernel_rfl).mp h)
noncomputable abbrev B172:Code:=bodyOf Tryz.f172
noncomputable def L172_0:Code:=codeAt [1,1,1,0,1,0,0] B172
noncomputable def K172_0(k:SV→Zt→Prop):X→En→Zt→Prop:=cont cT 34 [1,1,1,0,1,0] B172 (outP cT Tryz.f172 k)
noncomputable def F172 (x0 x1 : SV) (S : Zt) (k : SV → Zt → Prop) : Prop :=
 wpO (lenS y172 x0) fun v0 =>
 wpO (mkslS y23 v0 v0 S) fun p1 =>
 wpO (lenS y172 p1.1) fun v2 =>
 DenP cT 34 (.loop L172_0) (ups (argE [x0, x1]) [(4, (.vsl [] .nil)), (8, x0), (9, v0), (10, p1.1), (5, p1.1), (6, (.int .u32 (0))), (11, p1.1), (12, v2), (13, (.int .i64 0))]) p1.2 (K172_0 k)
noncomputable def TL172_0 (e : En) (S : Zt) (k : X → En → Zt → Prop) : Prop :=
 wpO (bnS .lss (some y3) (e 13) (e 12)) fun v3 =>
 condP v3
 (wpO (ixS cT y172 (e 0) (e 13)) fun v4 =>
 wpO (ldS y23 S v4) fun v5 =>
 wpO (cW cT 232 [(e 1), (e 13)] S) fun p6 =>
 wpO (cW cT 242 [v5, p6.1, (e 6)] p6.2) fun p7 =>
 wpO (extS p7.1 0) fun v8 =>
 wpO (extS p7.1 1) fun v9 =>
 wpO (ixS cT y172 (e 5) (e 13)) fun v10 =>
 wpO (stS y23 p7.2 v10 v8) fun S11 =>
 wpO (bnS .add (some y3) (e 13) (.int .i64 1)) fun v12 =>
 DenP cT 34 (.loop L172_0) (ups e [(14, v3), (15, (e 13)), (7, (e 13)), (17, (e 5)), (18, (e 13)), (19, (e 0)), (20, (e 13)), (21, v4), (22, v5), (23, (e 1)), (24, (e 13)), (25, p6.1), (26, (e 6)), (27, p7.1), (16, p7.1), (28, v8), (29, v9), (30, v10), (6, v9), (31, v12), (13, v12)]) S11 k)
 (k (.exit 0) (ups e [(14, v3)]) S)
noncomputable def TK172_0e0 (e : En) (S : Zt) (k : SV → Zt → Prop) : Prop :=
 wpO (cW cT 227 [(e 5)] S) fun p13 =>
 k p13.1 p13.2
theorem F172_ok{x0 x1:SV}{S:Zt}{k:SV→Zt→Prop}(h:F172 x0 x1 S k):wpO (bW cT 172 [x0,x1] S) (fun p=>k p.1 p.2):=bodyP_of (fn:=Tryz.f172) (by kernel_rfl) (by kernel_rfl) (Nat.le_of_ble_eq_true (by kernel_rfl)) ((show F172 x0 x1 S k=wpC cT Tryz.f172.ntmps B172 (argE [x0,x1]) S (outP cT Tryz.f172 k)by kernel_rfl).mp h)
theorem L172_0_ok{e:En}{S:Zt}{k:X→En→Zt→Prop}(h:TL172_0 e S k):DenP cT 34 (.loop L172_0) e S k:=loopP_of ((show TL172_0 e S k=wpC cT 34 L172_0 e S (againP cT 34 L172_0 k)by kernel_rfl).mp h)
theorem K172_0e0_ok{e:En}{S:Zt}{k:SV→Zt→Prop}(h:TK172_0e0 e S k):K172_0 k (.exit 0) e S:=(show TK172_0e0 e S k=K172_0 k (.exit 0) e S by kernel_rfl).mp h
noncomputable abbrev B280:Code:=bodyOf Tryz.f280
noncomputable def L280_0:Code:=codeAt [1,1,1,0,1,0,0] B280
noncomputable def K280_0(k:SV→Zt→Prop):X→En→Zt→Prop:=cont cT 40 [1,1,1,0,1,0] B280 (outP cT Tryz.f280 k)
noncomputable def F280 (x0 x1 : SV) (S : Zt) (k : SV → Zt → Prop) : Prop :=
 wpO (lenS y172 x0) fun v0 =>
 wpO (mkslS y23 v0 v0 S) fun p1 =>
 wpO (lenS y172 x0) fun v2 =>
 DenP cT 40 (.loop L280_0) (ups (argE [x0, x1]) [(4, (.vsl [] .nil)), (5, (.int .u32 (0))), (10, x0), (11, v0), (12, p1.1), (6, p1.1), (7, (.int .u32 (0))), (13, x0), (14, v2), (15, (.int .i64 0))]) p1.2 (K280_0 k)
noncomputable def TL280_0 (e : En) (S : Zt) (k : X → En → Zt → Prop) : Prop :=
 wpO (bnS .lss (some y3) (e 15) (e 14)) fun v3 =>
 condP v3
 (wpO (lenS y172 (e 0)) fun v4 =>
 wpO (bnS .sub (some y3) v4 (.int .i64 1)) fun v5 =>
 wpO (bnS .sub (some y3) v5 (e 15)) fun v6 =>
 wpO (ixS cT y172 (e 0) v6) fun v7 =>
 wpO (ldS y23 S v7) fun v8 =>
 wpO (cW cT 300 [(e 7), v8, (e 1)] S) fun p9 =>
 wpO (extS p9.1 0) fun v10 =>
 wpO (extS p9.1 1) fun v11 =>
 wpO (ixS cT y172 (e 6) v6) fun v12 =>
 wpO (stS y23 p9.2 v12 v10) fun S13 =>
 wpO (bnS .add (some y3) (e 15) (.int .i64 1)) fun v14 =>
 DenP cT 40 (.loop L280_0) (ups e [(16, v3), (17, (e 15)), (8, (e 15)), (18, (e 0)), (19, v4), (20, v5), (21, (e 15)), (22, v6), (9, v6), (24, (e 6)), (25, v6), (26, (e 7)), (27, (e 0)), (28, v6), (29, v7), (30, v8), (31, (e 1)), (32, p9.1), (23, p9.1), (33, v10), (34, v11), (35, v12), (7, v11), (36, v14), (15, v14)]) S13 k)
 (k (.exit 0) (ups e [(16, v3)]) S)
noncomputable def TK280_0e0 (e : En) (S : Zt) (k : SV → Zt → Prop) : Prop :=
 wpO (cW cT 227 [(e 6)] S) fun p15 =>
 k (.tup [p15.1, (e 7)]) p15.2
theorem F280_ok{x0 x1:SV}{S:Zt}{k:SV→Zt→Prop}(h:F280 x0 x1 S k):wpO (bW cT 280 [x0,x1] S) (fun p=>k p.1 p.2):=bodyP_of (fn:=Tryz.f280) (by kernel_rfl) (by kernel_rfl) (Nat.le_of_ble_eq_true (by kernel_rfl)) ((show F280 x0 x1 S k=wpC cT Tryz.f280.ntmps B280 (argE [x0,x1]) S (outP cT Tryz.f280 k)by kernel_rfl).mp h)
theorem L280_0_ok{e:En}{S:Zt}{k:X→En→Zt→Prop}(h:TL280_0 e S k):DenP cT 40 (.loop L280_0) e S k:=loopP_of ((show TL280_0 e S k=wpC cT 40 L280_0 e S (againP cT 40 L280_0 k)by kernel_rfl).mp h)
theorem K280_0e0_ok{e:En}{S:Zt}{k:SV→Zt→Prop}(h:TK280_0e0 e S k):K280_0 k (.exit 0) e S:=(show TK280_0e0 e S k=K280_0 k (.exit 0) e S by kernel_rfl).mp h
noncomputable abbrev B282:Code:=bodyOf Tryz.f282
noncomputable def L282_0:Code:=codeAt [1,1,0,1,0,0] B282
noncomputable def K282_0(k:SV→Zt→Prop):X→En→Zt→Prop:=cont cT 41 [1,1,0,1,0] B282 (outP cT Tryz.f282 k)
noncomputable def F282 (x0 x1 : SV) (S : Zt) (k : SV → Zt → Prop) : Prop :=
 wpO (lenS y172 x0) fun v0 =>
 wpO (bnS .add (some y3) v0 (.int .i64 1)) fun v1 =>
 wpO (mkslS y23 v1 v1 S) fun p2 =>
 wpO (lenS y172 x0) fun v3 =>
 DenP cT 41 (.loop L282_0) (ups (argE [x0, x1]) [(4, (.vsl [] .nil)), (9, x0), (10, v0), (11, v1), (12, p2.1), (5, p2.1), (13, x0), (14, v3), (15, (.int .i64 0))]) p2.2 (K282_0 k)
noncomputable def TL282_0 (e : En) (S : Zt) (k : X → En → Zt → Prop) : Prop :=
 wpO (bnS .lss (some y3) (e 15) (e 14)) fun v4 =>
 condP v4
 (wpO (ixS cT y172 (e 13) (e 15)) fun v5 =>
 wpO (ldS y23 S v5) fun v6 =>
 wpO (convS y25 v6) fun v7 =>
 wpO (bnS .shl (some y25) v7 (e 1)) fun v8 =>
 wpO (ixS cT y172 (e 5) (e 15)) fun v9 =>
 wpO (ldS y23 S v9) fun v10 =>
 wpO (convS y23 v8) fun v11 =>
 wpO (bnS .or (some y23) v10 v11) fun v12 =>
 wpO (ixS cT y172 (e 5) (e 15)) fun v13 =>
 wpO (stS y23 S v13 v12) fun S14 =>
 wpO (bnS .add (some y3) (e 15) (.int .i64 1)) fun v15 =>
 wpO (bnS .shr (some y25) v8 (.int .u64 (32))) fun v16 =>
 wpO (convS y23 v16) fun v17 =>
 wpO (ixS cT y172 (e 5) v15) fun v18 =>
 wpO (stS y23 S14 v18 v17) fun S19 =>
 wpO (bnS .add (some y3) (e 15) (.int .i64 1)) fun v20 =>
 DenP cT 41 (.loop L282_0) (ups e [(16, v4), (17, (e 15)), (18, v5), (19, v6), (6, (e 15)), (7, v6), (20, v6), (21, v7), (22, (e 1)), (23, v8), (8, v8), (24, (e 5)), (25, (e 15)), (26, v9), (27, v10), (28, v8), (29, v11), (30, v12), (31, v13), (32, (e 5)), (33, (e 15)), (34, v15), (35, v8), (36, v16), (37, v17), (38, v18), (39, v20), (15, v20)]) S19 k)
 (k (.exit 0) (ups e [(16, v4)]) S)
noncomputable def TK282_0e0 (e : En) (S : Zt) (k : SV → Zt → Prop) : Prop :=
 k (e 5) S
theorem F282_ok{x0 x1:SV}{S:Zt}{k:SV→Zt→Prop}(h:F282 x0 x1 S k):wpO (bW cT 282 [x0,x1] S) (fun p=>k p.1 p.2):=bodyP_of (fn:=Tryz.f282) (by kernel_rfl) (by kernel_rfl) (Nat.le_of_ble_eq_true (by kernel_rfl)) ((show F282 x0 x1 S k=wpC cT Tryz.f282.ntmps B282 (argE [x0,x1]) S (outP cT Tryz.f282 k)by kernel_rfl).mp h)
theorem L282_0_ok{e:En}{S:Zt}{k:X→En→Zt→Prop}(h:TL282_0 e S k):DenP cT 41 (.loop L282_0) e S k:=loopP_of ((show TL282_0 e S k=wpC cT 41 L282_0 e S (againP cT 41 L282_0 k)by kernel_rfl).mp h)
theorem K282_0e0_ok{e:En}{S:Zt}{k:SV→Zt→Prop}(h:TK282_0e0 e S k):K282_0 k (.exit 0) e S:=(show TK282_0e0 e S k=K282_0 k (.exit 0) e S by kernel_rfl).mp h
noncomputable abbrev B284:Code:=bodyOf Tryz.f284
noncomputable def L284_0:Code:=codeAt [1,1,0,1,0,0] B284
noncomputable def K284_0(k:SV→Zt→Prop):X→En→Zt→Prop:=cont cT 36 [1,1,0,1,0] B284 (outP cT Tryz.f284 k)
noncomputable def F284 (x0 x1 : SV) (S : Zt) (k : SV → Zt → Prop) : Prop :=
 wpO (lenS y172 x0) fun v0 =>
 wpO (mkslS y23 v0 v0 S) fun p1 =>
 wpO (lenS y172 x0) fun v2 =>
 DenP cT 36 (.loop L284_0) (ups (argE [x0, x1]) [(4, (.vsl [] .nil)), (7, x0), (8, v0), (9, p1.1), (5, p1.1), (10, x0), (11, v2), (12, (.int .i64 0))]) p1.2 (K284_0 k)
noncomputable def TL284_0 (e : En) (S : Zt) (k : X → En → Zt → Prop) : Prop :=
 wpO (bnS .lss (some y3) (e 12) (e 11)) fun v3 =>
 condP v3
 (wpO (bnS .add (some y3) (e 12) (.int .i64 1)) fun v4 =>
 wpO (cW cT 232 [(e 0), v4] S) fun p5 =>
 wpO (convS y25 p5.1) fun v6 =>
 wpO (bnS .shl (some y25) v6 (.int .u64 (32))) fun v7 =>
 wpO (ixS cT y172 (e 0) (e 12)) fun v8 =>
 wpO (ldS y23 p5.2 v8) fun v9 =>
 wpO (convS y25 v9) fun v10 =>
 wpO (bnS .or (some y25) v7 v10) fun v11 =>
 wpO (bnS .shr (some y25) v11 (e 1)) fun v12 =>
 wpO (convS y23 v12) fun v13 =>
 wpO (ixS cT y172 (e 5) (e 12)) fun v14 =>
 wpO (stS y23 p5.2 v14 v13) fun S15 =>
 wpO (bnS .add (some y3) (e 12) (.int .i64 1)) fun v16 =>
 DenP cT 36 (.loop L284_0) (ups e [(13, v3), (14, (e 12)), (6, (e 12)), (15, (e 5)), (16, (e 12)), (17, (e 0)), (18, (e 12)), (19, v4), (20, p5.1), (21, v6), (22, v7), (23, (e 0)), (24, (e 12)), (25, v8), (26, v9), (27, v10), (28, v11), (29, (e 1)), (30, v12), (31, v13), (32, v14), (33, v16), (12, v16)]) S15 k)
 (k (.exit 0) (ups e [(13, v3)]) S)
noncomputable def TK284_0e0 (e : En) (S : Zt) (k : SV → Zt → Prop) : Prop :=
 wpO (cW cT 227 [(e 5)] S) fun p17 =>
 k p17.1 p17.2
theorem F284_ok{x0 x1:SV}{S:Zt}{k:SV→Zt→Prop}(h:F284 x0 x1 S k):wpO (bW cT 284 [x0,x1] S) (fun p=>k p.1 p.2):=bodyP_of (fn:=Tryz.f284) (by kernel_rfl) (by kernel_rfl) (Nat.le_of_ble_eq_true (by kernel_rfl)) ((show F284 x0 x1 S k=wpC cT Tryz.f284.ntmps B284 (argE [x0,x1]) S (outP cT Tryz.f284 k)by kernel_rfl).mp h)
theorem L284_0_ok{e:En}{S:Zt}{k:X→En→Zt→Prop}(h:TL284_0 e S k):DenP cT 36 (.loop L284_0) e S k:=loopP_of ((show TL284_0 e S k=wpC cT 36 L284_0 e S (againP cT 36 L284_0 k)by kernel_rfl).mp h)
theorem K284_0e0_ok{e:En}{S:Zt}{k:SV→Zt→Prop}(h:TK284_0e0 e S k):K284_0 k (.exit 0) e S:=(show TK284_0e0 e S k=K284_0 k (.exit 0) e S by kernel_rfl).mp h
noncomputable abbrev B231:Code:=bodyOf Tryz.f231
noncomputable def L231_0:Code:=codeAt [1,1,1,1,1,1,0,1,0,0] B231
noncomputable def K231_0(k:SV→Zt→Prop):X→En→Zt→Prop:=cont cT 84 [1,1,1,1,1,1,0,1,0] B231 (outP cT Tryz.f231 k)
noncomputable def F231 (x0 x1 : SV) (S : Zt) (k : SV → Zt → Prop) : Prop :=
 wpO (cW cT 162 [x0, x1] S) fun p0 =>
 wpO (bnS .lss (some y3) p0.1 (.int .i64 0)) fun v1 =>
 condP v1
 (k (.tup [(.vsl [] .nil), x0]) p0.2)
 (wpO (lenS y172 x1) fun v2 =>
 wpO (bnS .eql (some y3) v2 (.int .i64 1)) fun v3 =>
 condP v3
 (wpO (ixS cT y172 x1 (.int .i64 0)) fun v4 =>
 wpO (ldS y23 p0.2 v4) fun v5 =>
 wpO (cW cT 280 [x0, v5] p0.2) fun p6 =>
 wpO (extS p6.1 0) fun v7 =>
 wpO (extS p6.1 1) fun v8 =>
 wpO (bslS y23 1 [(0, v8)] p6.2) fun p9 =>
 wpO (cW cT 227 [p9.1] p9.2) fun p10 =>
 k (.tup [v7, p10.1]) p10.2)
 (wpO (lenS y172 x1) fun v11 =>
 wpO (bnS .sub (some y3) v11 (.int .i64 1)) fun v12 =>
 wpO (ixS cT y172 x1 v12) fun v13 =>
 wpO (ldS y23 p0.2 v13) fun v14 =>
 wpO (cW cT 281 [v14] p0.2) fun p15 =>
 wpO (cW cT 282 [x0, p15.1] p15.2) fun p16 =>
 wpO (cW cT 282 [x1, p15.1] p16.2) fun p17 =>
 wpO (cW cT 227 [p17.1] p17.2) fun p18 =>
 wpO (lenS y172 p16.1) fun v19 =>
 wpO (lenS y172 p18.1) fun v20 =>
 wpO (bnS .sub (some y3) v19 v20) fun v21 =>
 wpO (mkslS y23 v21 v21 p18.2) fun p22 =>
 wpO (lenS y172 p22.1) fun v23 =>
 DenP cT 84 (.loop L231_0) (ups (argE [x0, x1]) [(4, (.vsl [] .nil)), (5, (.vsl [] .nil)), (14, x0), (15, x1), (16, p0.1), (17, v1), (19, x1), (20, v2), (21, v3), (34, x1), (35, x1), (36, v11), (37, v12), (38, v13), (39, v14), (40, p15.1), (8, p15.1), (41, x0), (42, p15.1), (43, p16.1), (44, x1), (45, p15.1), (46, p17.1), (47, p18.1), (9, p16.1), (10, p18.1), (48, p16.1), (49, v19), (50, p18.1), (51, v20), (52, v21), (53, p22.1), (11, p22.1), (54, p22.1), (55, v23), (56, (.int .i64 0))]) p22.2 (K231_0 k)))
noncomputable def TL231_0 (e : En) (S : Zt) (k : X → En → Zt → Prop) : Prop :=
 wpO (bnS .lss (some y3) (e 56) (e 55)) fun v24 =>
 condP v24
 (wpO (lenS y172 (e 11)) fun v25 =>
 wpO (bnS .sub (some y3) v25 (.int .i64 1)) fun v26 =>
 wpO (bnS .sub (some y3) v26 (e 56)) fun v27 =>
 wpO (lenS y172 (e 10)) fun v28 =>
 wpO (bnS .add (some y3) v27 v28) fun v29 =>
 wpO (bnS .add (some y3) v29 (.int .i64 1)) fun v30 =>
 wpO (slicS y23 (e 9) (some v27) (some v30) none) fun v31 =>
 wpO (cW cT 283 [v31, (e 10)] S) fun p32 =>
 wpO (ixS cT y172 (e 11) v27) fun v33 =>
 wpO (stS y23 p32.2 v33 p32.1) fun S34 =>
 wpO (bnS .add (some y3) (e 56) (.int .i64 1)) fun v35 =>
 DenP cT 84 (.loop L231_0) (ups e [(57, v24), (58, (e 56)), (12, (e 56)), (59, (e 11)), (60, v25), (61, v26), (62, (e 56)), (63, v27), (13, v27), (64, (e 11)), (65, v27), (66, (e 9)), (67, v27), (68, v27), (69, (e 10)), (70, v28), (71, v29), (72, v30), (73, v31), (74, (e 10)), (75, p32.1), (76, v33), (77, v35), (56, v35)]) S34 k)
 (k (.exit 0) (ups e [(57, v24)]) S)
noncomputable def TK231_0e0 (e : En) (S : Zt) (k : SV → Zt → Prop) : Prop :=
 wpO (cW cT 227 [(e 11)] S) fun p36 =>
 wpO (cW cT 227 [(e 9)] p36.2) fun p37 =>
 wpO (cW cT 284 [p37.1, (e 8)] p37.2) fun p38 =>
 k (.tup [p36.1, p38.1]) p38.2
theorem F231_ok{x0 x1:SV}{S:Zt}{k:SV→Zt→Prop}(h:F231 x0 x1 S k):wpO (bW cT 231 [x0,x1] S) (fun p=>k p.1 p.2):=bodyP_of (fn:=Tryz.f231) (by kernel_rfl) (by kernel_rfl) (Nat.le_of_ble_eq_true (by kernel_rfl)) ((show F231 x0 x1 S k=wpC cT Tryz.f231.ntmps B231 (argE [x0,x1]) S (outP cT Tryz.f231 k)by kernel_rfl).mp h)
theorem L231_0_ok{e:En}{S:Zt}{k:X→En→Zt→Prop}(h:TL231_0 e S k):DenP cT 84 (.loop L231_0) e S k:=loopP_of ((show TL231_0 e S k=wpC cT 84 L231_0 e S (againP cT 84 L231_0 k)by kernel_rfl).mp h)
theorem K231_0e0_ok{e:En}{S:Zt}{k:SV→Zt→Prop}(h:TK231_0e0 e S k):K231_0 k (.exit 0) e S:=(show TK231_0e0 e S k=K231_0 k (.exit 0) e S by kernel_rfl).mp h
noncomputable abbrev B283:Code:=bodyOf Tryz.f283
noncomputable def L283_0:Code:=codeAt [1,1,1,0,1,0,1,1,1,0,0] B283
noncomputable def L283_1:Code:=codeAt [1,1,1,1,1,1,0,1,0,0] B283
noncomputable def L283_2:Code:=codeAt [1,1,1,1,1,1,1,0,0,0] B283
noncomputable def L283_3:Code:=codeAt [1,1,1,1,1,1,1,0,0,0,1,0,1,1,0,1,0,0] B283
noncomputable def K283_0(k:SV→Zt→Prop):X→En→Zt→Prop:=cont cT 141 [1,1,1,0,1,0,1,1,1,0] B283 (outP cT Tryz.f283 k)
noncomputable def K283_1(k:SV→Zt→Prop):X→En→Zt→Prop:=cont cT 141 [1,1,1,1,1,1,0,1,0] B283 (outP cT Tryz.f283 k)
noncomputable def K283_2(k:SV→Zt→Prop):X→En→Zt→Prop:=cont cT 141 [1,1,1,1,1,1,1,0,0] B283 (outP cT Tryz.f283 k)
noncomputable def K283_3(k:X→En→Zt→Prop):X→En→Zt→Prop:=cont cT 141 [1,0,1,1,0,1,0] L283_2 (againP cT 141 L283_2 k)
noncomputable def F283 (x0 x1 : SV) (S : Zt) (k : SV → Zt → Prop) : Prop :=
 wpO (lenS y172 x1) fun v0 =>
 wpO (ixS cT y172 x0 v0) fun v1 =>
 wpO (ldS y23 S v1) fun v2 =>
 wpO (bnS .sub (some y3) v0 (.int .i64 1)) fun v3 =>
 wpO (ixS cT y172 x1 v3) fun v4 =>
 wpO (ldS y23 S v4) fun v5 =>
 wpO (bnS .lss (some y23) v2 v5) fun v6 =>
 condP v6
 (wpO (ixS cT y172 x0 v0) fun v7 =>
 wpO (ldS y23 S v7) fun v8 =>
 wpO (bnS .sub (some y3) v0 (.int .i64 1)) fun v9 =>
 wpO (ixS cT y172 x0 v9) fun v10 =>
 wpO (ldS y23 S v10) fun v11 =>
 wpO (bnS .sub (some y3) v0 (.int .i64 1)) fun v12 =>
 wpO (ixS cT y172 x1 v12) fun v13 =>
 wpO (ldS y23 S v13) fun v14 =>
 wpO (cW cT 300 [v8, v11, v14] S) fun p15 =>
 wpO (extS p15.1 0) fun v16 =>
 wpO (extS p15.1 1) fun v17 =>
 wpO (convS y25 v17) fun v18 =>
 wpO (convS y25 v16) fun v19 =>
 DenP cT 141 (.loop L283_0) (ups (argE [x0, x1]) [(4, (.int .u32 (0))), (15, x1), (16, v0), (5, v0), (6, (.int .u64 (4294967295))), (17, x0), (18, v0), (19, v1), (20, v2), (21, x1), (22, v0), (23, v3), (24, v4), (25, v5), (26, v6), (28, x0), (29, v0), (30, v7), (31, v8), (32, x0), (33, v0), (34, v9), (35, v10), (36, v11), (37, x1), (38, v0), (39, v12), (40, v13), (41, v14), (42, p15.1), (27, p15.1), (43, v16), (44, v17), (7, v16), (8, v17), (45, v17), (46, v18), (9, v18), (47, v16), (48, v19), (6, v19)]) p15.2 (K283_0 k))
 (wpO (lenS y172 x0) fun v20 =>
 DenP cT 141 (.loop L283_1) (ups (argE [x0, x1]) [(4, (.int .u32 (0))), (15, x1), (16, v0), (5, v0), (6, (.int .u64 (4294967295))), (17, x0), (18, v0), (19, v1), (20, v2), (21, x1), (22, v0), (23, v3), (24, v4), (25, v5), (26, v6), (10, (.int .u64 (0))), (11, (.int .u32 (0))), (81, x0), (82, v20), (83, (.int .i64 0))]) S (K283_1 k))
noncomputable def TL283_0 (e : En) (S : Zt) (k : X → En → Zt → Prop) : Prop :=
 wpO (bnS .leq (some y25) (e 9) (.int .u64 (4294967295))) fun v21 =>
 grdP (some v21) true (fun k => k (e 6) S) S fun v22 S23 =>
 grdP (some v21) true (fun k => k (e 1) S23) S23 fun v24 S25 =>
 grdP (some v21) true (fun k => k (e 5) S25) S25 fun v26 S27 =>
 grdP (some v21) true (fun k => wpO (bnS .sub (some y3) v26 (.int .i64 2)) fun v28 => k v28 S27) S27 fun v29 S30 =>
 grdP (some v21) true (fun k => wpO (ixS cT y172 v24 v29) fun v31 => k v31 S30) S30 fun v32 S33 =>
 grdP (some v21) true (fun k => wpO (ldS y23 S33 v32) fun v34 => k v34 S33) S33 fun v35 S36 =>
 grdP (some v21) true (fun k => wpO (convS y25 v35) fun v37 => k v37 S36) S36 fun v38 S39 =>
 grdP (some v21) true (fun k => wpO (bnS .mul (some y25) v22 v38) fun v40 => k v40 S39) S39 fun v41 S42 =>
 grdP (some v21) true (fun k => k (e 9) S42) S42 fun v43 S44 =>
 grdP (some v21) true (fun k => wpO (bnS .shl (some y25) v43 (.int .u64 (32))) fun v45 => k v45 S44) S44 fun v46 S47 =>
 grdP (some v21) true (fun k => k (e 0) S47) S47 fun v48 S49 =>
 grdP (some v21) true (fun k => k (e 5) S49) S49 fun v50 S51 =>
 grdP (some v21) true (fun k => wpO (bnS .sub (some y3) v50 (.int .i64 2)) fun v52 => k v52 S51) S51 fun v53 S54 =>
 grdP (some v21) true (fun k => wpO (ixS cT y172 v48 v53) fun v55 => k v55 S54) S54 fun v56 S57 =>
 grdP (some v21) true (fun k => wpO (ldS y23 S57 v56) fun v58 => k v58 S57) S57 fun v59 S60 =>
 grdP (some v21) true (fun k => wpO (convS y25 v59) fun v61 => k v61 S60) S60 fun v62 S63 =>
 grdP (some v21) true (fun k => wpO (bnS .or (some y25) v46 v62) fun v64 => k v64 S63) S63 fun v65 S66 =>
 grdP (some v21) true (fun k => wpO (bnS .gtr (some y25) v41 v65) fun v67 => k v67 S66) S66 fun v68 S69 =>
 wpO (pickS v21 v68 (.bool false)) fun v70 =>
 condP v70
 (wpO (bnS .sub (some y25) (e 6) (.int .u64 (1))) fun v71 =>
 wpO (bnS .sub (some y3) (e 5) (.int .i64 1)) fun v72 =>
 wpO (ixS cT y172 (e 1) v72) fun v73 =>
 wpO (ldS y23 S69 v73) fun v74 =>
 wpO (convS y25 v74) fun v75 =>
 wpO (bnS .add (some y25) (e 9) v75) fun v76 =>
 DenP cT 141 (.loop L283_0) (ups e [(49, (e 9)), (50, v21), (51, v21), (52, v22), (53, v24), (54, v26), (55, v29), (56, v32), (57, v35), (58, v38), (59, v41), (60, v43), (61, v46), (62, v48), (63, v50), (64, v53), (65, v56), (66, v59), (67, v62), (68, v65), (69, v68), (70, v70), (79, (e 6)), (80, v71), (6, v71), (71, (e 9)), (72, (e 1)), (73, (e 5)), (74, v72), (75, v73), (76, v74), (77, v75), (78, v76), (9, v76)]) S69 k)
 (k (.exit 0) (ups e [(49, (e 9)), (50, v21), (51, v21), (52, v22), (53, v24), (54, v26), (55, v29), (56, v32), (57, v35), (58, v38), (59, v41), (60, v43), (61, v46), (62, v48), (63, v50), (64, v53), (65, v56), (66, v59), (67, v62), (68, v65), (69, v68), (70, v70)]) S69)
noncomputable def TL283_1 (e : En) (S : Zt) (k : X → En → Zt → Prop) : Prop :=
 wpO (bnS .lss (some y3) (e 83) (e 82)) fun v77 =>
 condP v77
 (wpO (cW cT 232 [(e 1), (e 83)] S) fun p78 =>
 wpO (convS y25 p78.1) fun v79 =>
 wpO (bnS .mul (some y25) (e 6) v79) fun v80 =>
 wpO (bnS .add (some y25) (e 10) v80) fun v81 =>
 wpO (ixS cT y172 (e 0) (e 83)) fun v82 =>
 wpO (ldS y23 p78.2 v82) fun v83 =>
 wpO (convS y23 v81) fun v84 =>
 wpO (cW cT 242 [v83, v84, (e 11)] p78.2) fun p85 =>
 wpO (extS p85.1 0) fun v86 =>
 wpO (extS p85.1 1) fun v87 =>
 wpO (ixS cT y172 (e 0) (e 83)) fun v88 =>
 wpO (stS y23 p85.2 v88 v86) fun S89 =>
 wpO (bnS .shr (some y25) v81 (.int .u64 (32))) fun v90 =>
 wpO (bnS .add (some y3) (e 83) (.int .i64 1)) fun v91 =>
 DenP cT 141 (.loop L283_1) (ups e [(84, v77), (85, (e 83)), (12, (e 83)), (86, (e 10)), (87, (e 6)), (88, (e 1)), (89, (e 83)), (90, p78.1), (91, v79), (92, v80), (93, v81), (10, v81), (95, (e 0)), (96, (e 83)), (97, (e 0)), (98, (e 83)), (99, v82), (100, v83), (101, v81), (102, v84), (103, (e 11)), (104, p85.1), (94, p85.1), (105, v86), (106, v87), (107, v88), (11, v87), (108, v81), (109, v90), (10, v90), (110, v91), (83, v91)]) S89 k)
 (k (.exit 2) (ups e [(84, v77)]) S)
noncomputable def TK283_0e0 (e : En) (S : Zt) (k : SV → Zt → Prop) : Prop :=
 wpO (lenS y172 (e 0)) fun v92 =>
 DenP cT 141 (.loop L283_1) (ups e [(10, (.int .u64 (0))), (11, (.int .u32 (0))), (81, (e 0)), (82, v92), (83, (.int .i64 0))]) S (K283_1 k)
noncomputable def TK283_1e2 (e : En) (S : Zt) (k : SV → Zt → Prop) : Prop :=
 DenP cT 141 (.loop L283_2) e S (K283_2 k)
noncomputable def TL283_2 (e : En) (S : Zt) (k : X → En → Zt → Prop) : Prop :=
 wpO (bnS .gtr (some y23) (e 11) (.int .u32 (0))) fun v93 =>
 condP v93
 (wpO (bnS .sub (some y25) (e 6) (.int .u64 (1))) fun v94 =>
 wpO (lenS y172 (e 0)) fun v95 =>
 DenP cT 141 (.loop L283_3) (ups e [(111, (e 11)), (112, v93), (113, (e 6)), (114, v94), (6, v94), (13, (.int .u32 (0))), (115, (e 0)), (116, v95), (117, (.int .i64 0))]) S (K283_3 k))
 (k (.exit 4) (ups e [(111, (e 11)), (112, v93)]) S)
noncomputable def TL283_3 (e : En) (S : Zt) (k : X → En → Zt → Prop) : Prop :=
 wpO (bnS .lss (some y3) (e 117) (e 116)) fun v96 =>
 condP v96
 (wpO (ixS cT y172 (e 0) (e 117)) fun v97 =>
 wpO (ldS y23 S v97) fun v98 =>
 wpO (cW cT 232 [(e 1), (e 117)] S) fun p99 =>
 wpO (cW cT 241 [v98, p99.1, (e 13)] p99.2) fun p100 =>
 wpO (extS p100.1 0) fun v101 =>
 wpO (extS p100.1 1) fun v102 =>
 wpO (ixS cT y172 (e 0) (e 117)) fun v103 =>
 wpO (stS y23 p100.2 v103 v101) fun S104 =>
 wpO (bnS .add (some y3) (e 117) (.int .i64 1)) fun v105 =>
 DenP cT 141 (.loop L283_3) (ups e [(118, v96), (119, (e 117)), (14, (e 117)), (121, (e 0)), (122, (e 117)), (123, (e 0)), (124, (e 117)), (125, v97), (126, v98), (127, (e 1)), (128, (e 117)), (129, p99.1), (130, (e 13)), (131, p100.1), (120, p100.1), (132, v101), (133, v102), (134, v103), (13, v102), (135, v105), (117, v105)]) S104 k)
 (k (.exit 6) (ups e [(118, v96)]) S)
noncomputable def TK283_2e4 (e : En) (S : Zt) (k : SV → Zt → Prop) : Prop :=
 wpO (convS y23 (e 6)) fun v106 =>
 k v106 S
noncomputable def TK283_3e6 (e : En) (S : Zt) (k : X → En → Zt → Prop) : Prop :=
 wpO (bnS .sub (some y23) (e 11) (e 13)) fun v107 =>
 DenP cT 141 (.loop L283_2) (ups e [(136, (e 11)), (137, (e 13)), (138, v107), (11, v107)]) S k
theorem F283_ok{x0 x1:SV}{S:Zt}{k:SV→Zt→Prop}(h:F283 x0 x1 S k):wpO (bW cT 283 [x0,x1] S) (fun p=>k p.1 p.2):=bodyP_of (fn:=Tryz.f283) (by kernel_rfl) (by kernel_rfl) (Nat.le_of_ble_eq_true (by kernel_rfl)) ((show F283 x0 x1 S k=wpC cT Tryz.f283.ntmps B283 (argE [x0,x1]) S (outP cT Tryz.f283 k)by kernel_rfl).mp h)
theorem L283_0_ok{e:En}{S:Zt}{k:X→En→Zt→Prop}(h:TL283_0 e S k):DenP cT 141 (.loop L283_0) e S k:=loopP_of ((show TL283_0 e S k=wpC cT 141 L283_0 e S (againP cT 141 L283_0 k)by kernel_rfl).mp h)
theorem L283_1_ok{e:En}{S:Zt}{k:X→En→Zt→Prop}(h:TL283_1 e S k):DenP cT 141 (.loop L283_1) e S k:=loopP_of ((show TL283_1 e S k=wpC cT 141 L283_1 e S (againP cT 141 L283_1 k)by kernel_rfl).mp h)
theorem K283_0e0_ok{e:En}{S:Zt}{k:SV→Zt→Prop}(h:TK283_0e0 e S k):K283_0 k (.exit 0) e S:=(show TK283_0e0 e S k=K283_0 k (.exit 0) e S by kernel_rfl).mp h
theorem K283_1e2_ok{e:En}{S:Zt}{k:SV→Zt→Prop}(h:TK283_1e2 e S k):K283_1 k (.exit 2) e S:=(show TK283_1e2 e S k=K283_1 k (.exit 2) e S by kernel_rfl).mp h
theorem L283_2_ok{e:En}{S:Zt}{k:X→En→Zt→Prop}(h:TL283_2 e S k):DenP cT 141 (.loop L283_2) e S k:=loopP_of ((show TL283_2 e S k=wpC cT 141 L283_2 e S (againP cT 141 L283_2 k)by kernel_rfl).mp h)
theorem L283_3_ok{e:En}{S:Zt}{k:X→En→Zt→Prop}(h:TL283_3 e S k):DenP cT 141 (.loop L283_3) e S k:=loopP_of ((show TL283_3 e S k=wpC cT 141 L283_3 e S (againP cT 141 L283_3 k)by kernel_rfl).mp h)
theorem K283_2e4_ok{e:En}{S:Zt}{k:SV→Zt→Prop}(h:TK283_2e4 e S k):K283_2 k (.exit 4) e S:=(show TK283_2e4 e S k=K283_2 k (.exit 4) e S by kernel_rfl).mp h
theorem K283_3e6_ok{e:En}{S:Zt}{k:X→En→Zt→Prop}(h:TK283_3e6 e S k):K283_3 k (.exit 6) e S:=(show TK283_3e6 e S k=K283_3 k (.exit 6) e S by kernel_rfl).mp h
noncomputable abbrev B95:Code:=bodyOf Tryz.f95
noncomputable def F95 (x0 : SV) (S : Zt) (k : SV → Zt → Prop) : Prop :=
 wpO (alS x0 S) fun p0 =>
 wpO (faS cT y44 p0.1 1) fun v1 =>
 wpO (ldS y42 p0.2 v1) fun v2 =>
 wpO (lenS y42 v2) fun v3 =>
 wpO (bnS .gtr (some y3) v3 (.int .i64 0)) fun v4 =>
 condP v4
 (wpO (faS cT y44 p0.1 1) fun v5 =>
 wpO (ldS y42 p0.2 v5) fun v6 =>
 wpO (bnS .sub (some y3) v3 (.int .i64 1)) fun v7 =>
 wpO (ixS cT y42 v6 v7) fun v8 =>
 wpO (ldS y23 p0.2 v8) fun v9 =>
 wpO (bnS .neq (some y23) v9 (.int .u32 (0))) fun v10 =>
 k v10 p0.2)
 (wpO (faS cT y44 p0.1 0) fun v11 =>
 wpO (ldS y4 p0.2 v11) fun v12 =>
 wpO (unS .not v12) fun v13 =>
 k v13 p0.2)
theorem F95_ok{x0:SV}{S:Zt}{k:SV→Zt→Prop}(h:F95 x0 S k):wpO (bW cT 95 [x0] S) (fun p=>k p.1 p.2):=bodyP_of (fn:=Tryz.f95) (by kernel_rfl) (by kernel_rfl) (Nat.le_of_ble_eq_true (by kernel_rfl)) ((show F95 x0 S k=wpC cT Tryz.f95.ntmps B95 (argE [x0]) S (outP cT Tryz.f95 k)by kernel_rfl).mp h)
noncomputable abbrev B92:Code:=bodyOf Tryz.f92
noncomputable def F92 (x0 : SV) (S : Zt) (k : SV → Zt → Prop) : Prop :=
 wpO (alS y44.zero S) fun p0 =>
 wpO (bnS .lss (some y2) x0 (.int .i64 0)) fun v1 =>
 condP v1
 (wpO (convS y25 x0) fun v2 =>
 wpO (unS .neg v2) fun v3 =>
 wpO (cW cT 158 [v3] p0.2) fun p4 =>
 wpO (cW cT 159 [p4.1, (.bool true)] p4.2) fun p5 =>
 wpO (stS y44 p5.2 p0.1 p5.1) fun S6 =>
 wpO (ldS y44 S6 p0.1) fun v7 =>
 k v7 S6)
 (wpO (convS y25 x0) fun v8 =>
 wpO (cW cT 158 [v8] p0.2) fun p9 =>
 wpO (cW cT 159 [p9.1, (.bool false)] p9.2) fun p10 =>
 wpO (stS y44 p10.2 p0.1 p10.1) fun S11 =>
 wpO (ldS y44 S11 p0.1) fun v12 =>
 k v12 S11)
theorem F92_ok{x0:SV}{S:Zt}{k:SV→Zt→Prop}(h:F92 x0 S k):wpO (bW cT 92 [x0] S) (fun p=>k p.1 p.2):=bodyP_of (fn:=Tryz.f92) (by kernel_rfl) (by kernel_rfl) (Nat.le_of_ble_eq_true (by kernel_rfl)) ((show F92 x0 S k=wpC cT Tryz.f92.ntmps B92 (argE [x0]) S (outP cT Tryz.f92 k)by kernel_rfl).mp h)
noncomputable abbrev B164:Code:=bodyOf Tryz.f164
noncomputable def F164 (x0 : SV) (S : Zt) (k : SV → Zt → Prop) : Prop :=
 wpO (alS x0 S) fun p0 =>
 wpO (faS cT y44 p0.1 1) fun v1 =>
 wpO (ldS y42 p0.2 v1) fun v2 =>
 wpO (cW cT 232 [v2, (.int .i64 1)] p0.2) fun p3 =>
 wpO (convS y25 p3.1) fun v4 =>
 wpO (bnS .shl (some y25) v4 (.int .u64 (32))) fun v5 =>
 wpO (cW cT 232 [v2, (.int .i64 0)] p3.2) fun p6 =>
 wpO (convS y25 p6.1) fun v7 =>
 wpO (bnS .or (some y25) v5 v7) fun v8 =>
 wpO (lenS y172 v2) fun v9 =>
 wpO (bnS .gtr (some y3) v9 (.int .i64 2)) fun v10 =>
 condP v10
 (k (.tup [(.int .i64 0), (.bool false)]) p6.2)
 (wpO (faS cT y44 p0.1 0) fun v11 =>
 wpO (ldS y4 p6.2 v11) fun v12 =>
 grdP (some v12) true (fun k => k v8 p6.2) p6.2 fun v13 S14 =>
 grdP (some v12) true (fun k => wpO (bnS .leq (some y25) v13 (.int .u64 (9223372036854775808))) fun v15 => k v15 S14) S14 fun v16 S17 =>
 wpO (pickS v12 v16 (.bool false)) fun v18 =>
 condP v18
 (wpO (unS .neg v8) fun v19 =>
 wpO (convS y2 v19) fun v20 =>
 k (.tup [v20, (.bool true)]) S17)
 (wpO (faS cT y44 p0.1 0) fun v21 =>
 wpO (ldS y4 S17 v21) fun v22 =>
 wpO (unS .not v22) fun v23 =>
 grdP (some v23) true (fun k => k v8 S17) S17 fun v24 S25 =>
 grdP (some v23) true (fun k => wpO (bnS .lss (some y25) v24 (.int .u64 (9223372036854775808))) fun v26 => k v26 S25) S25 fun v27 S28 =>
 wpO (pickS v23 v27 (.bool false)) fun v29 =>
 condP v29
 (wpO (convS y2 v8) fun v30 =>
 k (.tup [v30, (.bool true)]) S28)
 (k (.tup [(.int .i64 0), (.bool false)]) S28)))
theorem F164_ok{x0:SV}{S:Zt}{k:SV→Zt→Prop}(h:F164 x0 S k):wpO (bW cT 164 [x0] S) (fun p=>k p.1 p.2):=bodyP_of (fn:=Tryz.f164) (by kernel_rfl) (by kernel_rfl) (Nat.le_of_ble_eq_true (by kernel_rfl)) ((show F164 x0 S k=wpC cT Tryz.f164.ntmps B164 (argE [x0]) S (outP cT Tryz.f164 k)by kernel_rfl).mp h)
noncomputable abbrev B96:Code:=bodyOf Tryz.f96
noncomputable def F96 (x0 x1 : SV) (S : Zt) (k : SV → Zt → Prop) : Prop :=
 wpO (alS x0 S) fun p0 =>
 wpO (alS x1 p0.2) fun p1 =>
 wpO (faS cT y44 p0.1 0) fun v2 =>
 wpO (ldS y4 p1.2 v2) fun v3 =>
 wpO (faS cT y44 p1.1 0) fun v4 =>
 wpO (ldS y4 p1.2 v4) fun v5 =>
 wpO (bnS .neq (some y4) v3 v5) fun v6 =>
 condP v6
 (wpO (ldS y44 p1.2 p0.1) fun v7 =>
 wpO (cW cT 104 [v7] p1.2) fun p8 =>
 wpO (ldS y44 p8.2 p1.1) fun v9 =>
 wpO (cW cT 104 [v9] p8.2) fun p10 =>
 wpO (cW cT 161 [p8.1, p10.1] p10.2) fun p11 =>
 k p11.1 p11.2)
 (wpO (faS cT y44 p0.1 0) fun v12 =>
 wpO (ldS y4 p1.2 v12) fun v13 =>
 condP v13
 (wpO (ldS y44 p1.2 p1.1) fun v14 =>
 wpO (ldS y44 p1.2 p0.1) fun v15 =>
 wpO (stS y44 p1.2 p0.1 v14) fun S16 =>
 wpO (stS y44 S16 p1.1 v15) fun S17 =>
 wpO (faS cT y44 p0.1 1) fun v18 =>
 wpO (ldS y42 S17 v18) fun v19 =>
 wpO (faS cT y44 p1.1 1) fun v20 =>
 wpO (ldS y42 S17 v20) fun v21 =>
 wpO (cW cT 162 [v19, v21] S17) fun p22 =>
 k p22.1 p22.2)
 (wpO (faS cT y44 p0.1 1) fun v23 =>
 wpO (ldS y42 p1.2 v23) fun v24 =>
 wpO (faS cT y44 p1.1 1) fun v25 =>
 wpO (ldS y42 p1.2 v25) fun v26 =>
 wpO (cW cT 162 [v24, v26] p1.2) fun p27 =>
 k p27.1 p27.2))
theorem F96_ok{x0 x1:SV}{S:Zt}{k:SV→Zt→Prop}(h:F96 x0 x1 S k):wpO (bW cT 96 [x0,x1] S) (fun p=>k p.1 p.2):=bodyP_of (fn:=Tryz.f96) (by kernel_rfl) (by kernel_rfl) (Nat.le_of_ble_eq_true (by kernel_rfl)) ((show F96 x0 x1 S k=wpC cT Tryz.f96.ntmps B96 (argE [x0,x1]) S (outP cT Tryz.f96 k)by kernel_rfl).mp h)
noncomputable abbrev B237:Code:=bodyOf Tryz.f237
noncomputable def F237 (x0 x1 : SV) (S : Zt) (k : SV → Zt → Prop) : Prop :=
 wpO (alS x0 S) fun p0 =>
 wpO (alS x1 p0.2) fun p1 =>
 wpO (alS y44.zero p1.2) fun p2 =>
 wpO (ldS y44 p2.2 p0.1) fun v3 =>
 wpO (ldS y44 p2.2 p1.1) fun v4 =>
 wpO (cW cT 105 [v4] p2.2) fun p5 =>
 wpO (cW cT 106 [v3, p5.1] p5.2) fun p6 =>
 wpO (stS y44 p6.2 p2.1 p6.1) fun S7 =>
 wpO (ldS y44 S7 p2.1) fun v8 =>
 k v8 S7
theorem F237_ok{x0 x1:SV}{S:Zt}{k:SV→Zt→Prop}(h:F237 x0 x1 S k):wpO (bW cT 237 [x0,x1] S) (fun p=>k p.1 p.2):=bodyP_of (fn:=Tryz.f237) (by kernel_rfl) (by kernel_rfl) (Nat.le_of_ble_eq_true (by kernel_rfl)) ((show F237 x0 x1 S k=wpC cT Tryz.f237.ntmps B237 (argE [x0,x1]) S (outP cT Tryz.f237 k)by kernel_rfl).mp h)
noncomputable abbrev B163:Code:=bodyOf Tryz.f163
noncomputable def F163 (x0 x1 : SV) (S : Zt) (k : SV → Zt → Prop) : Prop :=
 wpO (alS x0 S) fun p0 =>
 wpO (alS x1 p0.2) fun p1 =>
 wpO (alS y44.zero p1.2) fun p2 =>
 wpO (alS y44.zero p2.2) fun p3 =>
 wpO (faS cT y44 p1.1 1) fun v4 =>
 wpO (ldS y42 p3.2 v4) fun v5 =>
 wpO (lenS y172 v5) fun v6 =>
 wpO (bnS .eql (some y3) v6 (.int .i64 0)) fun v7 =>
 condP v7
 (wpO (buildS cT y44 []) fun v8 =>
 wpO (buildS cT y44 []) fun v9 =>
 wpO (stS y44 p3.2 p2.1 v8) fun S10 =>
 wpO (stS y44 S10 p3.1 v9) fun S11 =>
 wpO (ldS y44 S11 p2.1) fun v12 =>
 wpO (ldS y44 S11 p3.1) fun v13 =>
 k (.tup [v12, v13, (.int .i64 10)]) S11)
 (wpO (faS cT y44 p0.1 1) fun v14 =>
 wpO (ldS y42 p3.2 v14) fun v15 =>
 wpO (cW cT 231 [v15, v5] p3.2) fun p16 =>
 wpO (extS p16.1 0) fun v17 =>
 wpO (extS p16.1 1) fun v18 =>
 wpO (faS cT y44 p0.1 0) fun v19 =>
 wpO (ldS y4 p16.2 v19) fun v20 =>
 grdP (some v20) true (fun k => k v18 p16.2) p16.2 fun v21 S22 =>
 grdP (some v20) true (fun k => wpO (lenS y172 v21) fun v23 => k v23 S22) S22 fun v24 S25 =>
 grdP (some v20) true (fun k => wpO (bnS .gtr (some y3) v24 (.int .i64 0)) fun v26 => k v26 S25) S25 fun v27 S28 =>
 wpO (pickS v20 v27 (.bool false)) fun v29 =>
 condP v29
 (wpO (cW cT 158 [(.int .u64 (1))] S28) fun p30 =>
 wpO (cW cT 171 [v17, p30.1] p30.2) fun p31 =>
 wpO (cW cT 172 [v5, v18] p31.2) fun p32 =>
 wpO (faS cT y44 p0.1 0) fun v33 =>
 wpO (ldS y4 p32.2 v33) fun v34 =>
 wpO (faS cT y44 p1.1 0) fun v35 =>
 wpO (ldS y4 p32.2 v35) fun v36 =>
 wpO (bnS .neq (some y4) v34 v36) fun v37 =>
 wpO (cW cT 159 [p31.1, v37] p32.2) fun p38 =>
 wpO (cW cT 159 [p32.1, (.bool false)] p38.2) fun p39 =>
 wpO (stS y44 p39.2 p2.1 p38.1) fun S40 =>
 wpO (stS y44 S40 p3.1 p39.1) fun S41 =>
 wpO (ldS y44 S41 p2.1) fun v42 =>
 wpO (ldS y44 S41 p3.1) fun v43 =>
 k (.tup [v42, v43, (.int .i64 0)]) S41)
 (wpO (faS cT y44 p0.1 0) fun v44 =>
 wpO (ldS y4 S28 v44) fun v45 =>
 wpO (faS cT y44 p1.1 0) fun v46 =>
 wpO (ldS y4 S28 v46) fun v47 =>
 wpO (bnS .neq (some y4) v45 v47) fun v48 =>
 wpO (cW cT 159 [v17, v48] S28) fun p49 =>
 wpO (cW cT 159 [v18, (.bool false)] p49.2) fun p50 =>
 wpO (stS y44 p50.2 p2.1 p49.1) fun S51 =>
 wpO (stS y44 S51 p3.1 p50.1) fun S52 =>
 wpO (ldS y44 S52 p2.1) fun v53 =>
 wpO (ldS y44 S52 p3.1) fun v54 =>
 k (.tup [v53, v54, (.int .i64 0)]) S52))
theorem F163_ok{x0 x1:SV}{S:Zt}{k:SV→Zt→Prop}(h:F163 x0 x1 S k):wpO (bW cT 163 [x0,x1] S) (fun p=>k p.1 p.2):=bodyP_of (fn:=Tryz.f163) (by kernel_rfl) (by kernel_rfl) (Nat.le_of_ble_eq_true (by kernel_rfl)) ((show F163 x0 x1 S k=wpC cT Tryz.f163.ntmps B163 (argE [x0,x1]) S (outP cT Tryz.f163 k)by kernel_rfl).mp h)
noncomputable abbrev B107:Code:=bodyOf Tryz.f107
noncomputable def F107 (x0 x1 : SV) (S : Zt) (k : SV → Zt → Prop) : Prop :=
 wpO (alS x0 S) fun p0 =>
 wpO (alS y44.zero p0.2) fun p1 =>
 wpO (bnS .lss (some y3) x1 (.int .i64 0)) fun v2 =>
 grdP (some v2) false (fun k => k x1 p1.2) p1.2 fun v3 S4 =>
 grdP (some v2) false (fun k => wpO (bnS .gtr (some y3) v3 (.int .i64 4096)) fun v5 => k v5 S4) S4 fun v6 S7 =>
 wpO (pickS v2 (.bool true) v6) fun v8 =>
 condP v8
 (wpO (buildS cT y44 []) fun v9 =>
 wpO (stS y44 S7 p1.1 v9) fun S10 =>
 wpO (ldS y44 S10 p1.1) fun v11 =>
 k (.tup [v11, (.int .i64 1)]) S10)
 (wpO (faS cT y44 p0.1 1) fun v12 =>
 wpO (ldS y42 S7 v12) fun v13 =>
 wpO (cW cT 173 [v13, x1] S7) fun p14 =>
 wpO (faS cT y44 p0.1 0) fun v15 =>
 wpO (ldS y4 p14.2 v15) fun v16 =>
 grdP (some v16) true (fun k => k x1 p14.2) p14.2 fun v17 S18 =>
 grdP (some v16) true (fun k => wpO (bnS .rem (some y3) v17 (.int .i64 2)) fun v19 => k v19 S18) S18 fun v20 S21 =>
 grdP (some v16) true (fun k => wpO (bnS .eql (some y3) v20 (.int .i64 1)) fun v22 => k v22 S21) S21 fun v23 S24 =>
 wpO (pickS v16 v23 (.bool false)) fun v25 =>
 wpO (cW cT 159 [p14.1, v25] S24) fun p26 =>
 wpO (stS y44 p26.2 p1.1 p26.1) fun S27 =>
 wpO (ldS y44 S27 p1.1) fun v28 =>
 k (.tup [v28, (.int .i64 0)]) S27)
theorem F107_ok{x0 x1:SV}{S:Zt}{k:SV→Zt→Prop}(h:F107 x0 x1 S k):wpO (bW cT 107 [x0,x1] S) (fun p=>k p.1 p.2):=bodyP_of (fn:=Tryz.f107) (by kernel_rfl) (by kernel_rfl) (Nat.le_of_ble_eq_true (by kernel_rfl)) ((show F107 x0 x1 S k=wpC cT Tryz.f107.ntmps B107 (argE [x0,x1]) S (outP cT Tryz.f107 k)by kernel_rfl).mp h)
noncomputable abbrev B188:Code:=bodyOf Tryz.f188
noncomputable def K188_0(k:SV→Zt→Prop):X→En→Zt→Prop:=cont cT 19 [1,1,0,1] B188 (outP cT Tryz.f188 k)
noncomputable def F188 (x0 : SV) (S : Zt) (k : SV → Zt → Prop) : Prop :=
 wpO (bnS .geq (some y23) x0 (.int .u32 (65536))) fun v0 =>
 condP v0
 (wpO (bnS .shr (some y23) x0 (.int .u64 (16))) fun v1 =>
 wpO (bnS .geq (some y23) v1 (.int .u32 (256))) fun v2 =>
 condP v2
 (wpO (bnS .shr (some y23) v1 (.int .u64 (8))) fun v3 =>
 wpO (bnS .add (some y3) (.int .i64 16) (.int .i64 8)) fun v4 =>
 K188_0 k .nrm (ups (argE [x0]) [(2, (.int .i64 0)), (3, x0), (4, v0), (5, x0), (6, v1), (0, v1), (2, (.int .i64 16)), (7, v1), (8, v2), (9, v1), (10, v3), (0, v3), (11, (.int .i64 16)), (12, v4), (2, v4)]) S)
 (K188_0 k .nrm (ups (argE [x0]) [(2, (.int .i64 0)), (3, x0), (4, v0), (5, x0), (6, v1), (0, v1), (2, (.int .i64 16)), (7, v1), (8, v2)]) S))
 (wpO (bnS .geq (some y23) x0 (.int .u32 (256))) fun v5 =>
 condP v5
 (wpO (bnS .shr (some y23) x0 (.int .u64 (8))) fun v6 =>
 wpO (bnS .add (some y3) (.int .i64 0) (.int .i64 8)) fun v7 =>
 K188_0 k .nrm (ups (argE [x0]) [(2, (.int .i64 0)), (3, x0), (4, v0), (7, x0), (8, v5), (9, x0), (10, v6), (0, v6), (11, (.int .i64 0)), (12, v7), (2, v7)]) S)
 (K188_0 k .nrm (ups (argE [x0]) [(2, (.int .i64 0)), (3, x0), (4, v0), (7, x0), (8, v5)]) S))
noncomputable def TK188_0n (e : En) (S : Zt) (k : SV → Zt → Prop) : Prop :=
 wpO (convS y5 (e 0)) fun v8 =>
 wpO (indexS cT y9 (.str (ByteArray.mk #[0, 1, 2, 2, 3, 3, 3, 3, 4, 4, 4, 4, 4, 4, 4, 4, 5, 5, 5, 5, 5, 5, 5, 5, 5, 5, 5, 5, 5, 5, 5, 5, 6, 6, 6, 6, 6, 6, 6, 6, 6, 6, 6, 6, 6, 6, 6, 6, 6, 6, 6, 6, 6, 6, 6, 6, 6, 6, 6, 6, 6, 6, 6, 6, 7, 7, 7, 7, 7, 7, 7, 7, 7, 7, 7, 7, 7, 7, 7, 7, 7, 7, 7, 7, 7, 7, 7, 7, 7, 7, 7, 7, 7, 7, 7, 7, 7, 7, 7, 7, 7, 7, 7, 7, 7, 7, 7, 7, 7, 7, 7, 7, 7, 7, 7, 7, 7, 7, 7, 7, 7, 7, 7, 7, 7, 7, 7, 7, 8, 8, 8, 8, 8, 8, 8, 8, 8, 8, 8, 8, 8, 8, 8, 8, 8, 8, 8, 8, 8, 8, 8, 8, 8, 8, 8, 8, 8, 8, 8, 8, 8, 8, 8, 8, 8, 8, 8, 8, 8, 8, 8, 8, 8, 8, 8, 8, 8, 8, 8, 8, 8, 8, 8, 8, 8, 8, 8, 8, 8, 8, 8, 8, 8, 8, 8, 8, 8, 8, 8, 8, 8, 8, 8, 8, 8, 8, 8, 8, 8, 8, 8, 8, 8, 8, 8, 8, 8, 8, 8, 8, 8, 8, 8, 8, 8, 8, 8, 8, 8, 8, 8, 8, 8, 8, 8, 8, 8, 8, 8, 8, 8, 8, 8, 8, 8, 8, 8, 8, 8, 8, 8, 8, 8, 8, 8, 8])) v8) fun v9 =>
 wpO (convS y3 v9) fun v10 =>
 wpO (bnS .add (some y3) (e 2) v10) fun v11 =>
 k v11 S
theorem F188_ok{x0:SV}{S:Zt}{k:SV→Zt→Prop}(h:F188 x0 S k):wpO (bW cT 188 [x0] S) (fun p=>k p.1 p.2):=bodyP_of (fn:=Tryz.f188) (by kernel_rfl) (by kernel_rfl) (Nat.le_of_ble_eq_true (by kernel_rfl)) ((show F188 x0 S k=wpC cT Tryz.f188.ntmps B188 (argE [x0]) S (outP cT Tryz.f188 k)by kernel_rfl).mp h)
theorem K188_0n_ok{e:En}{S:Zt}{k:SV→Zt→Prop}(h:TK188_0n e S k):K188_0 k .nrm e S:=(show TK188_0n e S k=K188_0 k .nrm e S by kernel_rfl).mp h
noncomputable abbrev B189:Code:=bodyOf Tryz.f189
noncomputable def TK189_1n (e : En) (S : Zt) (k : SV → Zt → Prop) : Prop :=
 wpO (convS y5 (e 0)) fun v11 =>
 wpO (indexS cT y9 (.str (ByteArray.mk #[0, 1, 2, 2, 3, 3, 3, 3, 4, 4, 4, 4, 4, 4, 4, 4, 5, 5, 5, 5, 5, 5, 5, 5, 5, 5, 5, 5, 5, 5, 5, 5, 6, 6, 6, 6, 6, 6, 6, 6, 6, 6, 6, 6, 6, 6, 6, 6, 6, 6, 6, 6, 6, 6, 6, 6, 6, 6, 6, 6, 6, 6, 6, 6, 7, 7, 7, 7, 7, 7, 7, 7, 7, 7, 7, 7, 7, 7, 7, 7, 7, 7, 7, 7, 7, 7, 7, 7, 7, 7, 7, 7, 7, 7, 7, 7, 7, 7, 7, 7, 7, 7, 7, 7, 7, 7, 7, 7, 7, 7, 7, 7, 7, 7, 7, 7, 7, 7, 7, 7, 7, 7, 7, 7, 7, 7, 7, 7, 8, 8, 8, 8, 8, 8, 8, 8, 8, 8, 8, 8, 8, 8, 8, 8, 8, 8, 8, 8, 8, 8, 8, 8, 8, 8, 8, 8, 8, 8, 8, 8, 8, 8, 8, 8, 8, 8, 8, 8, 8, 8, 8, 8, 8, 8, 8, 8, 8, 8, 8, 8, 8, 8, 8, 8, 8, 8, 8, 8, 8, 8, 8, 8, 8, 8, 8, 8, 8, 8, 8, 8, 8, 8, 8, 8, 8, 8, 8, 8, 8, 8, 8, 8, 8, 8, 8, 8, 8, 8, 8, 8, 8, 8, 8, 8, 8, 8, 8, 8, 8, 8, 8, 8, 8, 8, 8, 8, 8, 8, 8, 8, 8, 8, 8, 8, 8, 8, 8, 8, 8, 8, 8, 8, 8, 8, 8, 8])) v11) fun v12 =>
 wpO (convS y3 v12) fun v13 =>
 wpO (bnS .add (some y3) (e 2) v13) fun v14 =>
 k v14 S
noncomputable def TK189_0n (e : En) (S : Zt) (k : SV → Zt → Prop) : Prop :=
 wpO (bnS .geq (some y25) (e 0) (.int .u64 (65536))) fun v2 =>
 condP v2
 (wpO (bnS .shr (some y25) (e 0) (.int .u64 (16))) fun v3 =>
 wpO (bnS .add (some y3) (e 2) (.int .i64 16)) fun v4 =>
 wpO (bnS .geq (some y25) v3 (.int .u64 (256))) fun v5 =>
 condP v5
 (wpO (bnS .shr (some y25) v3 (.int .u64 (8))) fun v6 =>
 wpO (bnS .add (some y3) v4 (.int .i64 8)) fun v7 =>
 TK189_1n (ups e [(7, (e 0)), (8, v2), (9, (e 0)), (10, v3), (0, v3), (11, (e 2)), (12, v4), (2, v4), (13, v3), (14, v5), (15, v3), (16, v6), (0, v6), (17, v4), (18, v7), (2, v7)]) S k)
 (TK189_1n (ups e [(7, (e 0)), (8, v2), (9, (e 0)), (10, v3), (0, v3), (11, (e 2)), (12, v4), (2, v4), (13, v3), (14, v5)]) S k))
 (wpO (bnS .geq (some y25) (e 0) (.int .u64 (256))) fun v8 =>
 condP v8
 (wpO (bnS .shr (some y25) (e 0) (.int .u64 (8))) fun v9 =>
 wpO (bnS .add (some y3) (e 2) (.int .i64 8)) fun v10 =>
 TK189_1n (ups e [(7, (e 0)), (8, v2), (13, (e 0)), (14, v8), (15, (e 0)), (16, v9), (0, v9), (17, (e 2)), (18, v10), (2, v10)]) S k)
 (TK189_1n (ups e [(7, (e 0)), (8, v2), (13, (e 0)), (14, v8)]) S k))
noncomputable def F189 (x0 : SV) (S : Zt) (k : SV → Zt → Prop) : Prop :=
 wpO (bnS .geq (some y25) x0 (.int .u64 (4294967296))) fun v0 =>
 condP v0
 (wpO (bnS .shr (some y25) x0 (.int .u64 (32))) fun v1 =>
 TK189_0n (ups (argE [x0]) [(2, (.int .i64 0)), (3, x0), (4, v0), (5, x0), (6, v1), (0, v1), (2, (.int .i64 32))]) S k)
 (TK189_0n (ups (argE [x0]) [(2, (.int .i64 0)), (3, x0), (4, v0)]) S k)
theorem F189_ok{x0:SV}{S:Zt}{k:SV→Zt→Prop}(h:F189 x0 S k):wpO (bW cT 189 [x0] S) (fun p=>k p.1 p.2):=bodyP_of (fn:=Tryz.f189) (by kernel_rfl) (by kernel_rfl) (Nat.le_of_ble_eq_true (by kernel_rfl)) ((show F189 x0 S k=wpC cT Tryz.f189.ntmps B189 (argE [x0]) S (outP cT Tryz.f189 k)by kernel_rfl).mp h)
noncomputable abbrev B135:Code:=bodyOf Tryz.f135
noncomputable def F135 (x0 : SV) (S : Zt) (k : SV → Zt → Prop) : Prop :=
 condP (.bool false)
 (wpO (convS y23 x0) fun v0 =>
 wpO (cW cT 188 [v0] S) fun p1 =>
 k p1.1 p1.2)
 (wpO (cW cT 189 [x0] S) fun p2 =>
 k p2.1 p2.2)
theorem F135_ok{x0:SV}{S:Zt}{k:SV→Zt→Prop}(h:F135 x0 S k):wpO (bW cT 135 [x0] S) (fun p=>k p.1 p.2):=bodyP_of (fn:=Tryz.f135) (by kernel_rfl) (by kernel_rfl) (Nat.le_of_ble_eq_true (by kernel_rfl)) ((show F135 x0 S k=wpC cT Tryz.f135.ntmps B135 (argE [x0]) S (outP cT Tryz.f135 k)by kernel_rfl).mp h)
noncomputable abbrev B173:Code:=bodyOf Tryz.f173
noncomputable def L173_0:Code:=codeAt [1,1,0,1,0,0] B173
noncomputable def K173_0(k:SV→Zt→Prop):X→En→Zt→Prop:=cont cT 31 [1,1,0,1,0] B173 (outP cT Tryz.f173 k)
noncomputable def F173 (x0 x1 : SV) (S : Zt) (k : SV → Zt → Prop) : Prop :=
 wpO (cW cT 158 [(.int .u64 (1))] S) fun p0 =>
 wpO (convS y157 x1) fun v1 =>
 wpO (cW cT 135 [v1] p0.2) fun p2 =>
 DenP cT 31 (.loop L173_0) (ups (argE [x0, x1]) [(4, (.vsl [] .nil)), (7, p0.1), (5, p0.1), (8, x1), (9, v1), (10, p2.1), (11, (.int .i64 0))]) p2.2 (K173_0 k)
noncomputable def TK173_1n (e : En) (S : Zt) (k : X → En → Zt → Prop) : Prop :=
 wpO (bnS .shr (some y3) (e 1) (e 6)) fun v8 =>
 wpO (bnS .gtr (some y3) v8 (.int .i64 1)) fun v9 =>
 condP v9
 (wpO (cW cT 174 [(e 0), (e 0)] S) fun p10 =>
 wpO (bnS .add (some y3) (e 11) (.int .i64 1)) fun v11 =>
 DenP cT 31 (.loop L173_0) (ups e [(22, (e 1)), (23, (e 6)), (24, v8), (25, v9), (26, (e 0)), (27, (e 0)), (28, p10.1), (0, p10.1), (29, v11), (11, v11)]) p10.2 k)
 (wpO (bnS .add (some y3) (e 11) (.int .i64 1)) fun v12 =>
 DenP cT 31 (.loop L173_0) (ups e [(22, (e 1)), (23, (e 6)), (24, v8), (25, v9), (29, v12), (11, v12)]) S k)
noncomputable def TL173_0 (e : En) (S : Zt) (k : X → En → Zt → Prop) : Prop :=
 wpO (bnS .lss (some y3) (e 11) (e 10)) fun v3 =>
 condP v3
 (wpO (bnS .shr (some y3) (e 1) (e 11)) fun v4 =>
 wpO (bnS .and (some y3) v4 (.int .i64 1)) fun v5 =>
 wpO (bnS .eql (some y3) v5 (.int .i64 1)) fun v6 =>
 condP v6
 (wpO (cW cT 174 [(e 5), (e 0)] S) fun p7 =>
 TK173_1n (ups e [(12, v3), (13, (e 11)), (6, (e 11)), (14, (e 1)), (15, (e 11)), (16, v4), (17, v5), (18, v6), (19, (e 5)), (20, (e 0)), (21, p7.1), (5, p7.1)]) p7.2 k)
 (TK173_1n (ups e [(12, v3), (13, (e 11)), (6, (e 11)), (14, (e 1)), (15, (e 11)), (16, v4), (17, v5), (18, v6)]) S k))
 (k (.exit 0) (ups e [(12, v3)]) S)
noncomputable def TK173_0e0 (e : En) (S : Zt) (k : SV → Zt → Prop) : Prop :=
 k (e 5) S
theorem F173_ok{x0 x1:SV}{S:Zt}{k:SV→Zt→Prop}(h:F173 x0 x1 S k):wpO (bW cT 173 [x0,x1] S) (fun p=>k p.1 p.2):=bodyP_of (fn:=Tryz.f173) (by kernel_rfl) (by kernel_rfl) (Nat.le_of_ble_eq_true (by kernel_rfl)) ((show F173 x0 x1 S k=wpC cT Tryz.f173.ntmps B173 (argE [x0,x1]) S (outP cT Tryz.f173 k)by kernel_rfl).mp h)
theorem L173_0_ok{e:En}{S:Zt}{k:X→En→Zt→Prop}(h:TL173_0 e S k):DenP cT 31 (.loop L173_0) e S k:=loopP_of ((show TL173_0 e S k=wpC cT 31 L173_0 e S (againP cT 31 L173_0 k)by kernel_rfl).mp h)
theorem K173_0e0_ok{e:En}{S:Zt}{k:SV→Zt→Prop}(h:TK173_0e0 e S k):K173_0 k (.exit 0) e S:=(show TK173_0e0 e S k=K173_0 k (.exit 0) e S by kernel_rfl).mp h
noncomputable abbrev B101:Code:=bodyOf Tryz.f101
noncomputable def L101_0:Code:=codeAt [1,1,1,0,1,0,0] B101
noncomputable def L101_1:Code:=codeAt [1,1,1,0,1,0,0,1,1,0,0,1,0,1,0,1,0,1,0,0] B101
noncomputable def K101_0(k:SV→Zt→Prop):X→En→Zt→Prop:=cont cT 79 [1,1,1,0,1,0] B101 (outP cT Tryz.f101 k)
noncomputable def K101_1(k:X→En→Zt→Prop):X→En→Zt→Prop:=cont cT 79 [1,1,0,0,1,0,1,0,1,0,1,0] L101_0 (againP cT 79 L101_0 k)
noncomputable def F101 (x0 x1 x2 x3 : SV) (S : Zt) (k : SV → Zt → Prop) : Prop :=
 wpO (alS x0 S) fun p0 =>
 wpO (faS cT y99 p0.1 0) fun v1 =>
 wpO (ldS y25 p0.2 v1) fun v2 =>
 wpO (cW cT 165 [v2, x3] p0.2) fun p3 =>
 wpO (alS y44.zero p3.2) fun p4 =>
 wpO (stS y44 p4.2 p4.1 p3.1) fun S5 =>
 wpO (lenS y102 x2) fun v6 =>
 wpO (mkslS y57 v6 v6 S5) fun p7 =>
 wpO (lenS y102 x2) fun v8 =>
 DenP cT 79 (.loop L101_0) (ups (argE [x0, x1, x2, x3]) [(4, p0.1), (8, (.vsl [] .nil)), (15, v1), (16, v2), (17, x3), (18, p3.1), (9, p4.1), (19, x2), (20, v6), (21, p7.1), (10, p7.1), (22, x2), (23, v8), (24, (.int .i64 0))]) p7.2 (K101_0 k)
noncomputable def TL101_0 (e : En) (S : Zt) (k : X → En → Zt → Prop) : Prop :=
 wpO (bnS .lss (some y3) (e 24) (e 23)) fun v9 =>
 condP v9
 (wpO (bnS .add (some y3) (e 24) (.int .i64 1)) fun v10 =>
 wpO (lenS y102 (e 2)) fun v11 =>
 wpO (bnS .lss (some y3) v10 v11) fun v12 =>
 condP v12
 (wpO (bslS y25 1 [(0, (.int .u64 (1)))] S) fun p13 =>
 wpO (bnS .add (some y3) (e 24) (.int .i64 1)) fun v14 =>
 wpO (slicS y100 (e 2) (some v14) none none) fun v15 =>
 wpO (lenS y102 v15) fun v16 =>
 DenP cT 79 (.loop L101_1) (ups e [(25, v9), (26, (e 24)), (11, (e 24)), (27, (e 24)), (28, v10), (29, (e 2)), (30, v11), (31, v12), (32, p13.1), (12, p13.1), (33, (e 2)), (34, (e 24)), (35, v14), (36, v15), (37, v16), (38, (.int .i64 0))]) p13.2 (K101_1 k))
 (wpO (ldS y44 S (e 9)) fun v17 =>
 wpO (cW cT 167 [(e 1), v17] S) fun p18 =>
 wpO (ixS cT y61 (e 10) (e 24)) fun v19 =>
 wpO (stS y57 p18.2 v19 p18.1) fun S20 =>
 wpO (bnS .add (some y3) (e 24) (.int .i64 1)) fun v21 =>
 DenP cT 79 (.loop L101_0) (ups e [(25, v9), (26, (e 24)), (11, (e 24)), (27, (e 24)), (28, v10), (29, (e 2)), (30, v11), (31, v12), (71, (e 10)), (72, (e 24)), (73, (e 1)), (74, v17), (75, p18.1), (76, v19), (77, v21), (24, v21)]) S20 k))
 (k (.exit 0) (ups e [(25, v9)]) S)
noncomputable def TL101_1 (e : En) (S : Zt) (k : X → En → Zt → Prop) : Prop :=
 wpO (bnS .lss (some y3) (e 38) (e 37)) fun v22 =>
 condP v22
 (wpO (ixS cT y102 (e 36) (e 38)) fun v23 =>
 wpO (ldS y100 S v23) fun v24 =>
 wpO (ldS y99 S (e 4)) fun v25 =>
 wpO (cW cT 99 [v25, (e 12), v24] S) fun p26 =>
 wpO (bnS .add (some y3) (e 38) (.int .i64 1)) fun v27 =>
 DenP cT 79 (.loop L101_1) (ups e [(39, v22), (40, v23), (41, v24), (14, v24), (42, v25), (43, (e 12)), (44, v24), (45, p26.1), (12, p26.1), (46, v27), (38, v27)]) p26.2 k)
 (k (.exit 2) (ups e [(39, v22)]) S)
noncomputable def TK101_0e0 (e : En) (S : Zt) (k : SV → Zt → Prop) : Prop :=
 k (e 10) S
noncomputable def TK101_1e2 (e : En) (S : Zt) (k : X → En → Zt → Prop) : Prop :=
 wpO (ldS y99 S (e 4)) fun v28 =>
 wpO (ixS cT y102 (e 2) (e 11)) fun v29 =>
 wpO (ldS y100 S v29) fun v30 =>
 wpO (cW cT 166 [v28, (e 1), v30, (e 12), (e 3)] S) fun p31 =>
 wpO (extS p31.1 0) fun v32 =>
 wpO (extS p31.1 1) fun v33 =>
 wpO (ixS cT y61 (e 10) (e 11)) fun v34 =>
 wpO (stS y57 p31.2 v34 v32) fun S35 =>
 wpO (ixS cT y61 (e 10) (e 11)) fun v36 =>
 wpO (ldS y57 S35 v36) fun v37 =>
 wpO (ldS y44 S35 (e 9)) fun v38 =>
 wpO (cW cT 167 [v37, v38] S35) fun p39 =>
 wpO (ixS cT y61 (e 10) (e 11)) fun v40 =>
 wpO (stS y57 p39.2 v40 p39.1) fun S41 =>
 wpO (bnS .add (some y3) (e 24) (.int .i64 1)) fun v42 =>
 DenP cT 79 (.loop L101_0) (ups e [(48, (e 10)), (49, (e 11)), (50, v28), (51, (e 1)), (52, (e 2)), (53, (e 11)), (54, v29), (55, v30), (56, (e 12)), (57, (e 3)), (58, p31.1), (47, p31.1), (59, v32), (60, v33), (61, v34), (1, v33), (62, (e 10)), (63, (e 11)), (64, (e 10)), (65, (e 11)), (66, v36), (67, v37), (68, v38), (69, p39.1), (70, v40), (77, v42), (24, v42)]) S41 k
theorem F101_ok{x0 x1 x2 x3:SV}{S:Zt}{k:SV→Zt→Prop}(h:F101 x0 x1 x2 x3 S k):wpO (bW cT 101 [x0,x1,x2,x3] S) (fun p=>k p.1 p.2):=bodyP_of (fn:=Tryz.f101) (by kernel_rfl) (by kernel_rfl) (Nat.le_of_ble_eq_true (by kernel_rfl)) ((show F101 x0 x1 x2 x3 S k=wpC cT Tryz.f101.ntmps B101 (argE [x0,x1,x2,x3]) S (outP cT Tryz.f101 k)by kernel_rfl).mp h)
theorem L101_0_ok{e:En}{S:Zt}{k:X→En→Zt→Prop}(h:TL101_0 e S k):DenP cT 79 (.loop L101_0) e S k:=loopP_of ((show TL101_0 e S k=wpC cT 79 L101_0 e S (againP cT 79 L101_0 k)by kernel_rfl).mp h)
theorem L101_1_ok{e:En}{S:Zt}{k:X→En→Zt→Prop}(h:TL101_1 e S k):DenP cT 79 (.loop L101_1) e S k:=loopP_of ((show TL101_1 e S k=wpC cT 79 L101_1 e S (againP cT 79 L101_1 k)by kernel_rfl).mp h)
theorem K101_0e0_ok{e:En}{S:Zt}{k:SV→Zt→Prop}(h:TK101_0e0 e S k):K101_0 k (.exit 0) e S:=(show TK101_0e0 e S k=K101_0 k (.exit 0) e S by kernel_rfl).mp h
theorem K101_1e2_ok{e:En}{S:Zt}{k:X→En→Zt→Prop}(h:TK101_1e2 e S k):K101_1 k (.exit 2) e S:=(show TK101_1e2 e S k=K101_1 k (.exit 2) e S by kernel_rfl).mp h
end Go.Proofs
