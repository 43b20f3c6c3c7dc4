/-
  Functions that the law reaches, laid out (3).
-/
import Derived.Test.YtilhffelllbggaaGreatShG
set_option linter.unusedVariables false
set_option linter.unusedSimpArgs false
set_option maxRecDepth 100000
namespace Go.Sh
theorem runP_append{cfg:Cfg}{call:CallT}{rnd:Nat→List SV→Zt→Option (SV×Zt)}{n:Nat}{all:List Oper}{draw:Bool}:∀(l1 l2:List Oper) (i:Nat) (e:En) (S:Zt) (K:En→Zt→Prop),
  runP cfg call rnd n all draw i (l1++l2) e S K=runP cfg call rnd n all draw i l1 e S (fun e S=>runP cfg call rnd n all draw (i+l1.length) l2 e S K)
 |[],l2,i,e,S,K=>rfl
 |o::r,l2,i,e,S,K=>by
  have ih:∀(e:En) (S:Zt),runP cfg call rnd n all draw (i+1) (r++l2) e S K=runP cfg call rnd n all draw (i+1) r e S (fun e S=>runP cfg call rnd n all draw (i+(o::r).length) l2 e S K):=fun e S=>by
   rw[runP_append r l2 (i+1) e S K]
   have:i+1+r.length=i+(o::r).length:=by simp;omega
   rw[this]
  rw[List.cons_append]
  unfold runP
  split
  ·simp only[ih]
  ·simp only[ih]
end Go.Sh
namespace Go.Proofs
open Go Go.Sh
noncomputable def opsAt:Code→List Oper
 |.region _ ops _=>ops.toList
 |_=>[]
end Go.Proofs
namespace Go.Proofs
open Go Go.Sh
noncomputable abbrev B34:Code:=bodyOf Tryz.f34
noncomputable def L34_0:Code:=codeAt [1,1,1,0,1,0,0] B34
noncomputable def K34_0(k:SV→Zt→Prop):X→En→Zt→Prop:=cont cT 91 [1,1,1,0,1,0] B34 (outP cT Tryz.f34 k)
noncomputable def F34 (x0 x1 : SV) (S : Zt) (k : SV → Zt → Prop) : Prop :=
 wpO (alS y69.zero S) fun p0 =>
 wpO (bslS y25 1 [(0, (.int .u64 (1)))] p0.2) fun p1 =>
 wpO (cW cT 39 [p1.1] p1.2) fun p2 =>
 wpO (cW cT 9 [x1] p2.2) fun p3 =>
 wpO (buildS cT y69 [(0, p2.1), (2, p3.1)]) fun v4 =>
 wpO (alS y69.zero p3.2) fun p5 =>
 wpO (stS y69 p5.2 p5.1 v4) fun S6 =>
 wpO (bslS y25 1 [(0, (.int .u64 (1)))] S6) fun p7 =>
 DenP cT 91 (.loop L34_0) (ups (argE [x0, x1]) [(4, p0.1), (9, p1.1), (10, p2.1), (11, x1), (12, p3.1), (13, v4), (5, p5.1), (14, p7.1), (6, p7.1), (7, (.int .i64 0))]) p7.2 (K34_0 k)
noncomputable def TK34_1n (e : En) (S : Zt) (k : X → En → Zt → Prop) : Prop :=
 wpO (faS cT y69 (e 5) 2) fun v52 =>
 wpO (ldS y25 S v52) fun v53 =>
 wpO (cW cT 70 [(e 8), (e 6), v53] S) fun p54 =>
 wpO (lenS y22 p54.1) fun v55 =>
 wpO (bnS .eql (some y3) v55 (.int .i64 1)) fun v56 =>
 condP v56
 (wpO (faS cT y69 (e 5) 2) fun v57 =>
 wpO (ldS y25 p54.2 v57) fun v58 =>
 wpO (cW cT 15 [(e 6), (e 8), v58] p54.2) fun p59 =>
 wpO (faS cT y69 (e 5) 1) fun v60 =>
 wpO (ldS y60 p59.2 v60) fun v61 =>
 wpO (bslS y22 1 [(0, (e 8))] p59.2) fun p62 =>
 wpO (appS y22 p62.2 v61 p62.1) fun p63 =>
 wpO (faS cT y69 (e 5) 1) fun v64 =>
 wpO (stS y60 p63.2 v64 p63.1) fun S65 =>
 wpO (faS cT y69 (e 5) 0) fun v66 =>
 wpO (ldS y57 S65 v66) fun v67 =>
 wpO (cW cT 39 [(e 8)] S65) fun p68 =>
 wpO (cW cT 42 [v67, p68.1] p68.2) fun p69 =>
 wpO (faS cT y69 (e 5) 0) fun v70 =>
 wpO (stS y57 p69.2 v70 p69.1) fun S71 =>
 wpO (bnS .add (some y3) (e 7) (.int .i64 2)) fun v72 =>
 DenP cT 91 (.loop L34_0) (ups e [(66, (e 8)), (67, (e 6)), (68, v52), (69, v53), (70, p54.1), (71, v55), (72, v56), (73, (e 6)), (74, (e 8)), (75, v57), (76, v58), (77, p59.1), (6, p59.1), (78, v60), (79, v61), (80, (e 8)), (81, p62.1), (82, p63.1), (83, v64), (84, v66), (85, v67), (86, (e 8)), (87, p68.1), (88, p69.1), (89, v70), (24, (e 7)), (25, v72), (7, v72)]) S71 k)
 (wpO (bnS .add (some y3) (e 7) (.int .i64 2)) fun v73 =>
 DenP cT 91 (.loop L34_0) (ups e [(66, (e 8)), (67, (e 6)), (68, v52), (69, v53), (70, p54.1), (71, v55), (72, v56), (24, (e 7)), (25, v73), (7, v73)]) p54.2 k)
noncomputable def TL34_0 (e : En) (S : Zt) (k : X → En → Zt → Prop) : Prop :=
 wpO (bnS .add (some y3) (e 7) (.int .i64 1)) fun v8 =>
 wpO (lenS y38 (e 0)) fun v9 =>
 wpO (bnS .lss (some y3) v8 v9) fun v10 =>
 grdP (some v10) true (fun k => k (e 7) S) S fun v11 S12 =>
 grdP (some v10) true (fun k => wpO (bnS .lss (some y3) v11 (.int .i64 10)) fun v13 => k v13 S12) S12 fun v14 S15 =>
 wpO (pickS v10 v14 (.bool false)) fun v16 =>
 condP v16
 (wpO (ixS cT y38 (e 0) (e 7)) fun v17 =>
 wpO (ldS y86 S15 v17) fun v18 =>
 wpO (convS y3 v18) fun v19 =>
 wpO (bnS .add (some y3) v19 (.int .i64 128)) fun v20 =>
 wpO (convS y25 v20) fun v21 =>
 wpO (faS cT y69 (e 5) 2) fun v22 =>
 wpO (ldS y25 S15 v22) fun v23 =>
 wpO (bnS .rem (some y25) v21 v23) fun v24 =>
 wpO (bslS y25 2 [(0, v24), (1, (.int .u64 (1)))] S15) fun p25 =>
 wpO (bnS .add (some y3) (e 7) (.int .i64 1)) fun v26 =>
 wpO (ixS cT y38 (e 0) v26) fun v27 =>
 wpO (ldS y86 p25.2 v27) fun v28 =>
 wpO (bnS .rem (some y86) v28 (.int .i8 (3))) fun v29 =>
 wpO (bnS .eql (some y86) v29 (.int .i8 (0))) fun v30 =>
 condP v30
 (wpO (ixS cT y38 (e 0) (e 7)) fun v31 =>
 wpO (ldS y86 p25.2 v31) fun v32 =>
 wpO (convS y3 v32) fun v33 =>
 wpO (bnS .add (some y3) v33 (.int .i64 128)) fun v34 =>
 wpO (convS y25 v34) fun v35 =>
 wpO (faS cT y69 (e 5) 2) fun v36 =>
 wpO (ldS y25 p25.2 v36) fun v37 =>
 wpO (bnS .rem (some y25) v35 v37) fun v38 =>
 wpO (bnS .add (some y3) (e 7) (.int .i64 1)) fun v39 =>
 wpO (ixS cT y38 (e 0) v39) fun v40 =>
 wpO (ldS y86 p25.2 v40) fun v41 =>
 wpO (convS y3 v41) fun v42 =>
 wpO (bnS .add (some y3) v42 (.int .i64 128)) fun v43 =>
 wpO (convS y25 v43) fun v44 =>
 wpO (faS cT y69 (e 5) 2) fun v45 =>
 wpO (ldS y25 p25.2 v45) fun v46 =>
 wpO (bnS .rem (some y25) v44 v46) fun v47 =>
 wpO (bslS y25 3 [(0, v38), (1, v47), (2, (.int .u64 (1)))] p25.2) fun p48 =>
 TK34_1n (ups e [(15, (e 7)), (16, v8), (17, (e 0)), (18, v9), (19, v10), (20, v10), (21, v11), (22, v14), (23, v16), (26, (e 0)), (27, (e 7)), (28, v17), (29, v18), (30, v19), (31, v20), (32, v21), (33, v22), (34, v23), (35, v24), (36, p25.1), (8, p25.1), (37, (e 0)), (38, (e 7)), (39, v26), (40, v27), (41, v28), (42, v29), (43, v30), (44, (e 0)), (45, (e 7)), (46, v31), (47, v32), (48, v33), (49, v34), (50, v35), (51, v36), (52, v37), (53, v38), (54, (e 0)), (55, (e 7)), (56, v39), (57, v40), (58, v41), (59, v42), (60, v43), (61, v44), (62, v45), (63, v46), (64, v47), (65, p48.1), (8, p48.1)]) p48.2 k)
 (TK34_1n (ups e [(15, (e 7)), (16, v8), (17, (e 0)), (18, v9), (19, v10), (20, v10), (21, v11), (22, v14), (23, v16), (26, (e 0)), (27, (e 7)), (28, v17), (29, v18), (30, v19), (31, v20), (32, v21), (33, v22), (34, v23), (35, v24), (36, p25.1), (8, p25.1), (37, (e 0)), (38, (e 7)), (39, v26), (40, v27), (41, v28), (42, v29), (43, v30)]) p25.2 k))
 (k (.exit 0) (ups e [(15, (e 7)), (16, v8), (17, (e 0)), (18, v9), (19, v10), (20, v10), (21, v11), (22, v14), (23, v16)]) S15)
noncomputable def TK34_0e0 (e : En) (S : Zt) (k : SV → Zt → Prop) : Prop :=
 wpO (ldS y69 S (e 5)) fun v49 =>
 wpO (stS y69 S (e 4) v49) fun S50 =>
 wpO (ldS y69 S50 (e 4)) fun v51 =>
 k v51 S50
theorem F34_ok{x0 x1:SV}{S:Zt}{k:SV→Zt→Prop}(h:F34 x0 x1 S k):wpO (bW cT 34 [x0,x1] S) (fun p=>k p.1 p.2):=bodyP_of (fn:=Tryz.f34) (by kernel_rfl) (by kernel_rfl) (Nat.le_of_ble_eq_true (by kernel_rfl)) ((show F34 x0 x1 S k=wpC cT Tryz.f34.ntmps B34 (argE [x0,x1]) S (outP cT Tryz.f34 k)by kernel_rfl).mp h)
theorem L34_0_ok{e:En}{S:Zt}{k:X→En→Zt→Prop}(h:TL34_0 e S k):DenP cT 91 (.loop L34_0) e S k:=loopP_of ((show TL34_0 e S k=wpC cT 91 L34_0 e S (againP cT 91 L34_0 k)by kernel_rfl).mp h)
theorem K34_0e0_ok{e:En}{S:Zt}{k:SV→Zt→Prop}(h:TK34_0e0 e S k):K34_0 k (.exit 0) e S:=(show TK34_0e0 e S k=K34_0 k (.exit 0) e S by kernel_rfl).mp h
noncomputable abbrev B5:Code:=bodyOf Tryz.f5
noncomputable def O5_0:List Oper:=opsAt (codeAt [0] B5)
noncomputable def O5_1:List Oper:=opsAt (codeAt [1,0] B5)
noncomputable def O5_2:List Oper:=opsAt (codeAt [1,1,0,0] B5)
noncomputable def O5_3:List Oper:=opsAt (codeAt [1,1,0,1,0,0] B5)
noncomputable def O5_4:List Oper:=opsAt (codeAt [1,1,1,0] B5)
noncomputable def O5_5:List Oper:=opsAt (codeAt [1,1,1,1,0] B5)
noncomputable def O5_6:List Oper:=opsAt (codeAt [1,1,1,1,1,0] B5)
noncomputable def O5_7:List Oper:=opsAt (codeAt [1,1,1,1,1,1,0,0] B5)
noncomputable def O5_8:List Oper:=opsAt (codeAt [1,1,1,1,1,1,0,1,0] B5)
noncomputable def O5_9:List Oper:=opsAt (codeAt [1,1,1,1,1,1,1,0] B5)
noncomputable def O5_10:List Oper:=opsAt (codeAt [1,1,1,1,1,1,1,1,0] B5)
noncomputable def O5_11:List Oper:=opsAt (codeAt [1,1,1,1,1,1,1,1,1,0,0] B5)
noncomputable def O5_12:List Oper:=opsAt (codeAt [1,1,1,1,1,1,1,1,1,0,1,0,0] B5)
noncomputable def O5_13:List Oper:=opsAt (codeAt [1,1,1,1,1,1,1,1,1,1,0] B5)
noncomputable def O5_14:List Oper:=opsAt (codeAt [1,1,1,1,1,1,1,1,1,1,1,0] B5)
noncomputable def O5_15:List Oper:=opsAt (codeAt [1,1,1,1,1,1,1,1,1,1,1,1,0] B5)
noncomputable def O5_16:List Oper:=opsAt (codeAt [1,1,1,1,1,1,1,1,1,1,1,1,1,0,0] B5)
noncomputable def O5_17:List Oper:=opsAt (codeAt [1,1,1,1,1,1,1,1,1,1,1,1,1,0,1,0,0,0,0] B5)
noncomputable def O5_18:List Oper:=opsAt (codeAt [1,1,1,1,1,1,1,1,1,1,1,1,1,0,1,0,0,1,0,0,0,0] B5)
noncomputable def O5_19:List Oper:=opsAt (codeAt [1,1,1,1,1,1,1,1,1,1,1,1,1,0,1,0,0,1,0,0,0,1,0,0] B5)
noncomputable def O5_20:List Oper:=opsAt (codeAt [1,1,1,1,1,1,1,1,1,1,1,1,1,0,1,0,0,1,0,0,1,0,0] B5)
noncomputable def O5_21:List Oper:=opsAt (codeAt [1,1,1,1,1,1,1,1,1,1,1,1,1,0,1,0,0,1,0,0,1,0,1,0,0] B5)
noncomputable def O5_22:List Oper:=opsAt (codeAt [1,1,1,1,1,1,1,1,1,1,1,1,1,0,1,0,0,1,0,0,1,1] B5)
noncomputable def O5_23:List Oper:=opsAt (codeAt [1,1,1,1,1,1,1,1,1,1,1,1,1,0,1,0,0,1,1] B5)
noncomputable def O5_24:List Oper:=opsAt (codeAt [1,1,1,1,1,1,1,1,1,1,1,1,1,1,0] B5)
noncomputable def L5_0:Code:=codeAt [1,1,1,1,1,1,1,1,1,1,1,1,1,0,1,0,0] B5
noncomputable def K5_0(k:SV→Zt→Prop):X→En→Zt→Prop:=cont cT 206 [1,1,1,1,1,1,1,1,1,1,1,1,1,0,1,0] B5 (outP cT Tryz.f5 k)
noncomputable def TQ5_0_0 (e : En) (S : Zt) (K : En → Zt → Prop) : Prop :=
 K (ups e [(6, (.bool false))]) S
noncomputable def TQ5_1_0 (e : En) (S : Zt) (K : En → Zt → Prop) : Prop :=
 wpO (cW cT 8 [] S) fun p0 =>
 K (ups e [(19, p0.1), (7, p0.1)]) p0.2
noncomputable def TQ5_2_0 (e : En) (S : Zt) (K : En → Zt → Prop) : Prop :=
 wpO (unS .not (e 7)) fun v0 =>
 K (ups e [(20, (e 7)), (21, v0)]) S
noncomputable def TQ5_4_0 (e : En) (S : Zt) (K : En → Zt → Prop) : Prop :=
 wpO (cW cT 34 [(e 0), (e 1)] S) fun p0 =>
 wpO (alS y69.zero p0.2) fun p1 =>
 wpO (stS y69 p1.2 p1.1 p0.1) fun S2 =>
 K (ups e [(22, (e 0)), (23, (e 1)), (24, p0.1), (8, p1.1)]) S2
noncomputable def TQ5_5_0 (e : En) (S : Zt) (K : En → Zt → Prop) : Prop :=
 wpO (bnS .rem (some y5) (e 2) (.int .u8 (9))) fun v0 =>
 wpO (convS y3 v0) fun v1 =>
 wpO (bnS .add (some y3) (.int .i64 1) v1) fun v2 =>
 K (ups e [(25, (e 2)), (26, v0), (27, v1), (28, v2), (9, v2)]) S
noncomputable def TQ5_6_0 (e : En) (S : Zt) (K : En → Zt → Prop) : Prop :=
 wpO (bslS y44 0 [] S) fun p0 =>
 wpO (faS cT y69 (e 8) 0) fun v1 =>
 wpO (ldS y57 p0.2 v1) fun v2 =>
 wpO (appS y44 p0.2 p0.1 v2) fun p3 =>
 K (ups e [(29, p0.1), (30, v1), (31, v2), (32, p3.1), (10, p3.1)]) p3.2
noncomputable def TQ5_7_0 (e : En) (S : Zt) (K : En → Zt → Prop) : Prop :=
 wpO (lenS y57 (e 10)) fun v0 =>
 wpO (bnS .gtr (some y3) v0 (.int .i64 1)) fun v1 =>
 K (ups e [(33, (e 10)), (34, v0), (35, v1)]) S
noncomputable def TQ5_8_0 (e : En) (S : Zt) (K : En → Zt → Prop) : Prop :=
 wpO (ixS cT y57 (e 10) (.int .i64 0)) fun v0 =>
 wpO (ldS y44 S v0) fun v1 =>
 wpO (convS y2 (e 2)) fun v2 =>
 wpO (cW cT 37 [v2] S) fun p3 =>
 wpO (faS cT y69 (e 8) 2) fun v4 =>
 wpO (ldS y25 p3.2 v4) fun v5 =>
 wpO (convS y2 v5) fun v6 =>
 wpO (cW cT 37 [v6] p3.2) fun p7 =>
 wpO (cW cT 36 [p3.1, p7.1] p7.2) fun p8 =>
 K (ups e [(36, (e 10)), (37, (e 10)), (38, v0), (39, v1), (40, (e 2)), (41, v2), (42, p3.1), (43, v4), (44, v5), (45, v6), (46, p7.1), (47, p8.1)]) p8.2
noncomputable def TQ5_8_1 (e : En) (S : Zt) (K : En → Zt → Prop) : Prop :=
 wpO (cW cT 35 [(e 39), (e 47)] S) fun p0 =>
 wpO (ixS cT y57 (e 36) (.int .i64 0)) fun v1 =>
 wpO (stS y44 p0.2 v1 p0.1) fun S2 =>
 K (ups e [(48, p0.1), (49, v1)]) S2
noncomputable def TQ5_9_0 (e : En) (S : Zt) (K : En → Zt → Prop) : Prop :=
 wpO (faS cT y69 (e 8) 1) fun v0 =>
 wpO (ldS y60 S v0) fun v1 =>
 wpO (faS cT y69 (e 8) 2) fun v2 =>
 wpO (ldS y25 S v2) fun v3 =>
 wpO (cW cT 28 [(e 10), v1, v3, (e 9)] S) fun p4 =>
 wpO (extS p4.1 0) fun v5 =>
 wpO (extS p4.1 1) fun v6 =>
 K (ups e [(51, (e 10)), (52, v0), (53, v1), (54, v2), (55, v3), (56, (e 9)), (57, p4.1), (50, p4.1), (58, v5), (59, v6), (11, v5), (12, v6)]) p4.2
noncomputable def TQ5_10_0 (e : En) (S : Zt) (K : En → Zt → Prop) : Prop :=
 wpO (faS cT y69 (e 8) 1) fun v0 =>
 wpO (ldS y60 S v0) fun v1 =>
 wpO (faS cT y69 (e 8) 2) fun v2 =>
 wpO (ldS y25 S v2) fun v3 =>
 wpO (bnS .quo (some y3) (e 9) (.int .i64 2)) fun v4 =>
 wpO (bnS .add (some y3) (.int .i64 1) v4) fun v5 =>
 wpO (cW cT 28 [(e 10), v1, v3, v5] S) fun p6 =>
 wpO (extS p6.1 0) fun v7 =>
 wpO (extS p6.1 1) fun v8 =>
 K (ups e [(61, (e 10)), (62, v0), (63, v1), (64, v2), (65, v3), (66, (e 9)), (67, v4), (68, v5), (69, p6.1), (60, p6.1), (70, v7), (71, v8)]) p6.2
noncomputable def TQ5_10_1 (e : En) (S : Zt) (K : En → Zt → Prop) : Prop :=
 K (ups e [(13, (e 70)), (14, (e 71))]) S
noncomputable def TQ5_11_0 (e : En) (S : Zt) (K : En → Zt → Prop) : Prop :=
 wpO (bnS .neq (some y29) (e 12) (.int .i64 0)) fun v0 =>
 grdP (some v0) false (fun k => k (e 14) S) S fun v1 S2 =>
 grdP (some v0) false (fun k => wpO (bnS .neq (some y29) v1 (.int .i64 0)) fun v3 => k v3 S2) S2 fun v4 S5 =>
 wpO (pickS v0 (.bool true) v4) fun v6 =>
 grdP (some v6) false (fun k => k (e 11) S5) S5 fun v7 S8 =>
 grdP (some v6) false (fun k => wpO (lenS y61 v7) fun v9 => k v9 S8) S8 fun v10 S11 =>
 grdP (some v6) false (fun k => wpO (faS cT y69 (e 8) 1) fun v12 => k v12 S11) S11 fun v13 S14 =>
 grdP (some v6) false (fun k => wpO (ldS y60 S14 v13) fun v15 => k v15 S14) S14 fun v16 S17 =>
 grdP (some v6) false (fun k => wpO (lenS y60 v16) fun v18 => k v18 S17) S17 fun v19 S20 =>
 K (ups e [(72, (e 12)), (73, v0), (74, v0), (75, v1), (76, v4), (77, v6), (78, v6), (79, v7), (80, v10), (81, v13), (82, v16), (83, v19)]) S20
noncomputable def TQ5_11_1 (e : En) (S : Zt) (K : En → Zt → Prop) : Prop :=
 grdP (some (e 78)) false (fun k => wpO (bnS .neq (some y3) (e 80) (e 83)) fun v0 => k v0 S) S fun v1 S2 =>
 wpO (pickS (e 78) (.bool true) v1) fun v3 =>
 grdP (some v3) false (fun k => k (e 13) S2) S2 fun v4 S5 =>
 grdP (some v3) false (fun k => wpO (lenS y61 v4) fun v6 => k v6 S5) S5 fun v7 S8 =>
 grdP (some v3) false (fun k => wpO (faS cT y69 (e 8) 1) fun v9 => k v9 S8) S8 fun v10 S11 =>
 grdP (some v3) false (fun k => wpO (ldS y60 S11 v10) fun v12 => k v12 S11) S11 fun v13 S14 =>
 grdP (some v3) false (fun k => wpO (lenS y60 v13) fun v15 => k v15 S14) S14 fun v16 S17 =>
 grdP (some v3) false (fun k => wpO (bnS .neq (some y3) v7 v16) fun v18 => k v18 S17) S17 fun v19 S20 =>
 wpO (pickS v3 (.bool true) v19) fun v21 =>
 K (ups e [(84, v1), (85, v3), (86, v3), (87, v4), (88, v7), (89, v10), (90, v13), (91, v16), (92, v19), (93, v21)]) S20
noncomputable def TQ5_13_0 (e : En) (S : Zt) (K : En → Zt → Prop) : Prop :=
 wpO (faS cT y69 (e 8) 2) fun v0 =>
 wpO (ldS y25 S v0) fun v1 =>
 wpO (cW cT 38 [v1, (e 9)] S) fun p2 =>
 wpO (alS y44.zero p2.2) fun p3 =>
 wpO (stS y44 p3.2 p3.1 p2.1) fun S4 =>
 K (ups e [(94, v0), (95, v1), (96, (e 9)), (97, p2.1), (15, p3.1)]) S4
noncomputable def TQ5_14_0 (e : En) (S : Zt) (K : En → Zt → Prop) : Prop :=
 wpO (faS cT y69 (e 8) 2) fun v0 =>
 wpO (ldS y25 S v0) fun v1 =>
 wpO (bnS .quo (some y3) (e 9) (.int .i64 2)) fun v2 =>
 wpO (bnS .add (some y3) (.int .i64 1) v2) fun v3 =>
 wpO (cW cT 38 [v1, v3] S) fun p4 =>
 wpO (alS y44.zero p4.2) fun p5 =>
 wpO (stS y44 p5.2 p5.1 p4.1) fun S6 =>
 K (ups e [(98, v0), (99, v1), (100, (e 9)), (101, v2), (102, v3), (103, p4.1), (16, p5.1)]) S6
noncomputable def TQ5_15_0 (e : En) (S : Zt) (K : En → Zt → Prop) : Prop :=
 wpO (bslS y25 1 [(0, (.int .u64 (1)))] S) fun p0 =>
 wpO (cW cT 39 [p0.1] p0.2) fun p1 =>
 K (ups e [(104, p0.1), (105, p1.1), (17, p1.1)]) p1.2
noncomputable def TQ5_16_0 (e : En) (S : Zt) (K : En → Zt → Prop) : Prop :=
 K (ups e [(18, (.int .i64 0))]) S
noncomputable def TQ5_17_0 (e : En) (S : Zt) (K : En → Zt → Prop) : Prop :=
 wpO (lenS y61 (e 11)) fun v0 =>
 wpO (bnS .lss (some y3) (e 18) v0) fun v1 =>
 K (ups e [(106, (e 18)), (107, (e 11)), (108, v0), (109, v1)]) S
noncomputable def TQ5_18_0 (e : En) (S : Zt) (K : En → Zt → Prop) : Prop :=
 wpO (ixS cT y61 (e 11) (e 18)) fun v0 =>
 wpO (ldS y57 S v0) fun v1 =>
 wpO (lenS y57 v1) fun v2 =>
 wpO (faS cT y69 (e 8) 1) fun v3 =>
 wpO (ldS y60 S v3) fun v4 =>
 wpO (ixS cT y60 v4 (e 18)) fun v5 =>
 wpO (ldS y22 S v5) fun v6 =>
 wpO (lenS y22 v6) fun v7 =>
 wpO (bnS .neq (some y3) v2 v7) fun v8 =>
 K (ups e [(112, (e 11)), (113, (e 18)), (114, v0), (115, v1), (116, v2), (117, v3), (118, v4), (119, (e 18)), (120, v5), (121, v6), (122, v7), (123, v8)]) S
noncomputable def TQ5_18_1 (e : En) (S : Zt) (K : En → Zt → Prop) : Prop :=
 grdP (some (e 123)) false (fun k => k (e 11) S) S fun v0 S1 =>
 grdP (some (e 123)) false (fun k => k (e 18) S1) S1 fun v2 S3 =>
 grdP (some (e 123)) false (fun k => wpO (ixS cT y61 v0 v2) fun v4 => k v4 S3) S3 fun v5 S6 =>
 grdP (some (e 123)) false (fun k => wpO (ldS y57 S6 v5) fun v7 => k v7 S6) S6 fun v8 S9 =>
 grdP (some (e 123)) false (fun k => k (e 11) S9) S9 fun v10 S11 =>
 grdP (some (e 123)) false (fun k => k (e 18) S11) S11 fun v12 S13 =>
 grdP (some (e 123)) false (fun k => wpO (ixS cT y61 v10 v12) fun v14 => k v14 S13) S13 fun v15 S16 =>
 grdP (some (e 123)) false (fun k => wpO (ldS y57 S16 v15) fun v17 => k v17 S16) S16 fun v18 S19 =>
 grdP (some (e 123)) false (fun k => wpO (ldS y44 S19 (e 15)) fun v20 => k v20 S19) S19 fun v21 S22 =>
 grdP (some (e 123)) false (fun k => wpO (cW cT 40 [v18, v21] S22) fun p23 => k p23.1 p23.2) S22 fun v24 S25 =>
 grdP (some (e 123)) false (fun k => wpO (cW cT 30 [v8, v24] S25) fun p26 => k p26.1 p26.2) S25 fun v27 S28 =>
 K (ups e [(124, (e 123)), (125, v0), (126, v2), (127, v5), (128, v8), (129, v10), (130, v12), (131, v15), (132, v18), (133, v21), (134, v24), (135, v27)]) S28
noncomputable def TQ5_18_2 (e : En) (S : Zt) (K : En → Zt → Prop) : Prop :=
 grdP (some (e 124)) false (fun k => wpO (unS .not (e 135)) fun v0 => k v0 S) S fun v1 S2 =>
 wpO (pickS (e 124) (.bool true) v1) fun v3 =>
 grdP (some v3) false (fun k => k (e 11) S2) S2 fun v4 S5 =>
 grdP (some v3) false (fun k => k (e 18) S5) S5 fun v6 S7 =>
 grdP (some v3) false (fun k => wpO (ixS cT y61 v4 v6) fun v8 => k v8 S7) S7 fun v9 S10 =>
 grdP (some v3) false (fun k => wpO (ldS y57 S10 v9) fun v11 => k v11 S10) S10 fun v12 S13 =>
 grdP (some v3) false (fun k => k (e 11) S13) S13 fun v14 S15 =>
 grdP (some v3) false (fun k => k (e 18) S15) S15 fun v16 S17 =>
 grdP (some v3) false (fun k => wpO (ixS cT y61 v14 v16) fun v18 => k v18 S17) S17 fun v19 S20 =>
 grdP (some v3) false (fun k => wpO (ldS y57 S20 v19) fun v21 => k v21 S20) S20 fun v22 S23 =>
 grdP (some v3) false (fun k => wpO (lenS y57 v22) fun v24 => k v24 S23) S23 fun v25 S26 =>
 K (ups e [(136, v1), (137, v3), (138, v3), (139, v4), (140, v6), (141, v9), (142, v12), (143, v14), (144, v16), (145, v19), (146, v22), (147, v25)]) S26
noncomputable def TQ5_18_3 (e : En) (S : Zt) (K : En → Zt → Prop) : Prop :=
 grdP (some (e 138)) false (fun k => wpO (bnS .sub (some y3) (e 147) (.int .i64 1)) fun v0 => k v0 S) S fun v1 S2 =>
 grdP (some (e 138)) false (fun k => wpO (ixS cT y57 (e 142) v1) fun v3 => k v3 S2) S2 fun v4 S5 =>
 grdP (some (e 138)) false (fun k => wpO (ldS y44 S5 v4) fun v6 => k v6 S5) S5 fun v7 S8 =>
 grdP (some (e 138)) false (fun k => wpO (cW cT 37 [(.int .i64 1)] S8) fun p9 => k p9.1 p9.2) S8 fun v10 S11 =>
 grdP (some (e 138)) false (fun k => wpO (cW cT 41 [v7, v10] S11) fun p12 => k p12.1 p12.2) S11 fun v13 S14 =>
 grdP (some (e 138)) false (fun k => wpO (bnS .neq (some y3) v13 (.int .i64 0)) fun v15 => k v15 S14) S14 fun v16 S17 =>
 wpO (pickS (e 138) (.bool true) v16) fun v18 =>
 grdP (some v18) false (fun k => k (e 11) S17) S17 fun v19 S20 =>
 grdP (some v18) false (fun k => k (e 18) S20) S20 fun v21 S22 =>
 grdP (some v18) false (fun k => wpO (ixS cT y61 v19 v21) fun v23 => k v23 S22) S22 fun v24 S25 =>
 grdP (some v18) false (fun k => wpO (ldS y57 S25 v24) fun v26 => k v26 S25) S25 fun v27 S28 =>
 K (ups e [(148, v1), (149, v4), (150, v7), (151, v10), (152, v13), (153, v16), (154, v18), (155, v18), (156, v19), (157, v21), (158, v24), (159, v27)]) S28
noncomputable def TQ5_18_4 (e : En) (S : Zt) (K : En → Zt → Prop) : Prop :=
 grdP (some (e 155)) false (fun k => wpO (faS cT y69 (e 8) 2) fun v0 => k v0 S) S fun v1 S2 =>
 grdP (some (e 155)) false (fun k => wpO (ldS y25 S2 v1) fun v3 => k v3 S2) S2 fun v4 S5 =>
 grdP (some (e 155)) false (fun k => wpO (cW cT 27 [(e 159), v4] S5) fun p6 => k p6.1 p6.2) S5 fun v7 S8 =>
 grdP (some (e 155)) false (fun k => wpO (faS cT y69 (e 8) 1) fun v9 => k v9 S8) S8 fun v10 S11 =>
 grdP (some (e 155)) false (fun k => wpO (ldS y60 S11 v10) fun v12 => k v12 S11) S11 fun v13 S14 =>
 grdP (some (e 155)) false (fun k => k (e 18) S14) S14 fun v15 S16 =>
 grdP (some (e 155)) false (fun k => wpO (ixS cT y60 v13 v15) fun v17 => k v17 S16) S16 fun v18 S19 =>
 grdP (some (e 155)) false (fun k => wpO (ldS y22 S19 v18) fun v20 => k v20 S19) S19 fun v21 S22 =>
 grdP (some (e 155)) false (fun k => wpO (cW cT 12 [v7, v21] S22) fun p23 => k p23.1 p23.2) S22 fun v24 S25 =>
 grdP (some (e 155)) false (fun k => wpO (unS .not v24) fun v26 => k v26 S25) S25 fun v27 S28 =>
 wpO (pickS (e 155) (.bool true) v27) fun v29 =>
 K (ups e [(160, v1), (161, v4), (162, v7), (163, v10), (164, v13), (165, v15), (166, v18), (167, v21), (168, v24), (169, v27), (170, v29)]) S28
noncomputable def TQ5_20_0 (e : En) (S : Zt) (K : En → Zt → Prop) : Prop :=
 wpO (bnS .quo (some y3) (e 9) (.int .i64 2)) fun v0 =>
 wpO (bnS .add (some y3) (.int .i64 1) v0) fun v1 =>
 wpO (bnS .leq (some y3) v1 (e 9)) fun v2 =>
 grdP (some v2) true (fun k => k (e 11) S) S fun v3 S4 =>
 grdP (some v2) true (fun k => k (e 18) S4) S4 fun v5 S6 =>
 grdP (some v2) true (fun k => wpO (ixS cT y61 v3 v5) fun v7 => k v7 S6) S6 fun v8 S9 =>
 grdP (some v2) true (fun k => wpO (ldS y57 S9 v8) fun v10 => k v10 S9) S9 fun v11 S12 =>
 grdP (some v2) true (fun k => wpO (ldS y44 S12 (e 16)) fun v13 => k v13 S12) S12 fun v14 S15 =>
 grdP (some v2) true (fun k => wpO (cW cT 40 [v11, v14] S15) fun p16 => k p16.1 p16.2) S15 fun v17 S18 =>
 K (ups e [(171, (e 9)), (172, v0), (173, v1), (174, (e 9)), (175, v2), (176, v2), (177, v3), (178, v5), (179, v8), (180, v11), (181, v14), (182, v17)]) S18
noncomputable def TQ5_20_1 (e : En) (S : Zt) (K : En → Zt → Prop) : Prop :=
 grdP (some (e 176)) true (fun k => k (e 13) S) S fun v0 S1 =>
 grdP (some (e 176)) true (fun k => k (e 18) S1) S1 fun v2 S3 =>
 grdP (some (e 176)) true (fun k => wpO (ixS cT y61 v0 v2) fun v4 => k v4 S3) S3 fun v5 S6 =>
 grdP (some (e 176)) true (fun k => wpO (ldS y57 S6 v5) fun v7 => k v7 S6) S6 fun v8 S9 =>
 grdP (some (e 176)) true (fun k => wpO (cW cT 30 [(e 182), v8] S9) fun p10 => k p10.1 p10.2) S9 fun v11 S12 =>
 grdP (some (e 176)) true (fun k => wpO (unS .not v11) fun v13 => k v13 S12) S12 fun v14 S15 =>
 wpO (pickS (e 176) v14 (.bool false)) fun v16 =>
 K (ups e [(183, v0), (184, v2), (185, v5), (186, v8), (187, v11), (188, v14), (189, v16)]) S15
noncomputable def TQ5_22_0 (e : En) (S : Zt) (K : En → Zt → Prop) : Prop :=
 wpO (ixS cT y61 (e 11) (e 18)) fun v0 =>
 wpO (ldS y57 S v0) fun v1 =>
 wpO (cW cT 42 [(e 17), v1] S) fun p2 =>
 K (ups e [(190, (e 17)), (191, (e 11)), (192, (e 18)), (193, v0), (194, v1), (195, p2.1), (17, p2.1)]) p2.2
noncomputable def TQ5_23_0 (e : En) (S : Zt) (K : En → Zt → Prop) : Prop :=
 wpO (bnS .add (some y3) (e 18) (.int .i64 1)) fun v0 =>
 K (ups e [(110, (e 18)), (111, v0), (18, v0)]) S
noncomputable def TQ5_24_0 (e : En) (S : Zt) (K : En → Zt → Prop) : Prop :=
 wpO (ldS y44 S (e 15)) fun v0 =>
 wpO (cW cT 40 [(e 17), v0] S) fun p1 =>
 wpO (ldS y44 p1.2 (e 15)) fun v2 =>
 wpO (cW cT 40 [(e 10), v2] p1.2) fun p3 =>
 wpO (cW cT 30 [p1.1, p3.1] p3.2) fun p4 =>
 grdP (some p4.1) true (fun k => k (e 7) p4.2) p4.2 fun v5 S6 =>
 wpO (pickS p4.1 v5 (.bool false)) fun v7 =>
 K (ups e [(196, (e 17)), (197, v0), (198, p1.1), (199, (e 10)), (200, v2), (201, p3.1), (202, p4.1), (203, p4.1), (204, v5), (205, v7), (6, v7)]) S6
noncomputable def F5 (e : En) (S : Zt) (k : SV → Zt → Prop) : Prop :=
 runP cT (cW cT) (rW cT) 206 O5_0 false 0 O5_0 e S fun e S =>
 runP cT (cW cT) (rW cT) 206 O5_1 false 0 O5_1 e S fun e S =>
 runP cT (cW cT) (rW cT) 206 O5_2 false 0 O5_2 e S fun e S =>
 condP (e 21)
 (runP cT (cW cT) (rW cT) 206 O5_3 false 0 O5_3 e S fun e S =>
 k (e 6) S)
 (runP cT (cW cT) (rW cT) 206 O5_4 false 0 O5_4 e S fun e S =>
 runP cT (cW cT) (rW cT) 206 O5_5 false 0 O5_5 e S fun e S =>
 runP cT (cW cT) (rW cT) 206 O5_6 false 0 O5_6 e S fun e S =>
 runP cT (cW cT) (rW cT) 206 O5_7 false 0 O5_7 e S fun e S =>
 condP (e 35)
 (runP cT (cW cT) (rW cT) 206 O5_8 true 0 O5_8 e S fun e S =>
 runP cT (cW cT) (rW cT) 206 O5_9 false 0 O5_9 e S fun e S =>
 runP cT (cW cT) (rW cT) 206 O5_10 false 0 O5_10 e S fun e S =>
 runP cT (cW cT) (rW cT) 206 O5_11 false 0 O5_11 e S fun e S =>
 condP (e 93)
 (runP cT (cW cT) (rW cT) 206 O5_12 false 0 O5_12 e S fun e S =>
 k (e 6) S)
 (runP cT (cW cT) (rW cT) 206 O5_13 false 0 O5_13 e S fun e S =>
 runP cT (cW cT) (rW cT) 206 O5_14 false 0 O5_14 e S fun e S =>
 runP cT (cW cT) (rW cT) 206 O5_15 false 0 O5_15 e S fun e S =>
 runP cT (cW cT) (rW cT) 206 O5_16 false 0 O5_16 e S fun e S =>
 DenP cT 206 (.loop L5_0) e S (K5_0 k)))
 (runP cT (cW cT) (rW cT) 206 O5_9 false 0 O5_9 e S fun e S =>
 runP cT (cW cT) (rW cT) 206 O5_10 false 0 O5_10 e S fun e S =>
 runP cT (cW cT) (rW cT) 206 O5_11 false 0 O5_11 e S fun e S =>
 condP (e 93)
 (runP cT (cW cT) (rW cT) 206 O5_12 false 0 O5_12 e S fun e S =>
 k (e 6) S)
 (runP cT (cW cT) (rW cT) 206 O5_13 false 0 O5_13 e S fun e S =>
 runP cT (cW cT) (rW cT) 206 O5_14 false 0 O5_14 e S fun e S =>
 runP cT (cW cT) (rW cT) 206 O5_15 false 0 O5_15 e S fun e S =>
 runP cT (cW cT) (rW cT) 206 O5_16 false 0 O5_16 e S fun e S =>
 DenP cT 206 (.loop L5_0) e S (K5_0 k))))
noncomputable def TL5_0 (e : En) (S : Zt) (k : X → En → Zt → Prop) : Prop :=
 runP cT (cW cT) (rW cT) 206 O5_17 false 0 O5_17 e S fun e S =>
 condP (e 109)
 (runP cT (cW cT) (rW cT) 206 O5_18 true 0 O5_18 e S fun e S =>
 condP (e 170)
 (runP cT (cW cT) (rW cT) 206 O5_19 false 0 O5_19 e S fun e S =>
 k .ret e S)
 (runP cT (cW cT) (rW cT) 206 O5_20 true 0 O5_20 e S fun e S =>
 condP (e 189)
 (runP cT (cW cT) (rW cT) 206 O5_21 false 0 O5_21 e S fun e S =>
 k .ret e S)
 (runP cT (cW cT) (rW cT) 206 O5_22 false 0 O5_22 e S fun e S =>
 runP cT (cW cT) (rW cT) 206 O5_23 false 0 O5_23 e S fun e S =>
 DenP cT 206 (.loop L5_0) e S k)))
 (k (.exit 0) e S)
noncomputable def TK5_0e0 (e : En) (S : Zt) (k : SV → Zt → Prop) : Prop :=
 runP cT (cW cT) (rW cT) 206 O5_24 true 0 O5_24 e S fun e S =>
 k (e 6) S
theorem Q5_0_0_eq{e:En}{S:Zt}{K:En→Zt→Prop}:TQ5_0_0 e S K=runP cT (cW cT) (rW cT) 206 O5_0 false 0 O5_0 e S K:=by kernel_rfl
theorem Q5_0_ok{e:En}{S:Zt}{K:En→Zt→Prop}(h:TQ5_0_0 e S K):runP cT (cW cT) (rW cT) 206 O5_0 false 0 O5_0 e S K:=Q5_0_0_eq.mp h
theorem Q5_1_0_eq{e:En}{S:Zt}{K:En→Zt→Prop}:TQ5_1_0 e S K=runP cT (cW cT) (rW cT) 206 O5_1 false 0 O5_1 e S K:=by kernel_rfl
theorem Q5_1_ok{e:En}{S:Zt}{K:En→Zt→Prop}(h:TQ5_1_0 e S K):runP cT (cW cT) (rW cT) 206 O5_1 false 0 O5_1 e S K:=Q5_1_0_eq.mp h
theorem Q5_2_0_eq{e:En}{S:Zt}{K:En→Zt→Prop}:TQ5_2_0 e S K=runP cT (cW cT) (rW cT) 206 O5_2 false 0 O5_2 e S K:=by kernel_rfl
theorem Q5_2_ok{e:En}{S:Zt}{K:En→Zt→Prop}(h:TQ5_2_0 e S K):runP cT (cW cT) (rW cT) 206 O5_2 false 0 O5_2 e S K:=Q5_2_0_eq.mp h
theorem Q5_4_0_eq{e:En}{S:Zt}{K:En→Zt→Prop}:TQ5_4_0 e S K=runP cT (cW cT) (rW cT) 206 O5_4 false 0 O5_4 e S K:=by kernel_rfl
theorem Q5_4_ok{e:En}{S:Zt}{K:En→Zt→Prop}(h:TQ5_4_0 e S K):runP cT (cW cT) (rW cT) 206 O5_4 false 0 O5_4 e S K:=Q5_4_0_eq.mp h
theorem Q5_5_0_eq{e:En}{S:Zt}{K:En→Zt→Prop}:TQ5_5_0 e S K=runP cT (cW cT) (rW cT) 206 O5_5 false 0 O5_5 e S K:=by kernel_rfl
theorem Q5_5_ok{e:En}{S:Zt}{K:En→Zt→Prop}(h:TQ5_5_0 e S K):runP cT (cW cT) (rW cT) 206 O5_5 false 0 O5_5 e S K:=Q5_5_0_eq.mp h
theorem Q5_6_0_eq{e:En}{S:Zt}{K:En→Zt→Prop}:TQ5_6_0 e S K=runP cT (cW cT) (rW cT) 206 O5_6 false 0 O5_6 e S K:=by kernel_rfl
theorem Q5_6_ok{e:En}{S:Zt}{K:En→Zt→Prop}(h:TQ5_6_0 e S K):runP cT (cW cT) (rW cT) 206 O5_6 false 0 O5_6 e S K:=Q5_6_0_eq.mp h
theorem Q5_7_0_eq{e:En}{S:Zt}{K:En→Zt→Prop}:TQ5_7_0 e S K=runP cT (cW cT) (rW cT) 206 O5_7 false 0 O5_7 e S K:=by kernel_rfl
theorem Q5_7_ok{e:En}{S:Zt}{K:En→Zt→Prop}(h:TQ5_7_0 e S K):runP cT (cW cT) (rW cT) 206 O5_7 false 0 O5_7 e S K:=Q5_7_0_eq.mp h
theorem Q5_8_0_eq{e:En}{S:Zt}{K:En→Zt→Prop}:TQ5_8_0 e S K=runP cT (cW cT) (rW cT) 206 O5_8 true 0 ((O5_8.drop 0).take 12) e S K:=by kernel_rfl
theorem Q5_8_1_eq{e:En}{S:Zt}{K:En→Zt→Prop}:TQ5_8_1 e S K=runP cT (cW cT) (rW cT) 206 O5_8 true 12 ((O5_8.drop 12).take 3) e S K:=by kernel_rfl
theorem O5_8_split:O5_8=(((O5_8.drop 0).take 12)++((O5_8.drop 12).take 3)):=by kernel_rfl
theorem O5_8_len0:(((O5_8.drop 0).take 12)).length=12:=by kernel_rfl
theorem Q5_8_ok{e:En}{S:Zt}{K:En→Zt→Prop}(h:TQ5_8_0 e S fun e S=>TQ5_8_1 e S K):runP cT (cW cT) (rW cT) 206 O5_8 true 0 O5_8 e S K:=by
 refine(congrArg (fun l=>runP cT (cW cT) (rW cT) 206 O5_8 true 0 l e S K) O5_8_split).mpr ?_
 simp only[runP_append,O5_8_len0,Nat.zero_add,Nat.reduceAdd]
 simp only[Q5_8_0_eq,Q5_8_1_eq]at h
 exact h
theorem Q5_9_0_eq{e:En}{S:Zt}{K:En→Zt→Prop}:TQ5_9_0 e S K=runP cT (cW cT) (rW cT) 206 O5_9 false 0 O5_9 e S K:=by kernel_rfl
theorem Q5_9_ok{e:En}{S:Zt}{K:En→Zt→Prop}(h:TQ5_9_0 e S K):runP cT (cW cT) (rW cT) 206 O5_9 false 0 O5_9 e S K:=Q5_9_0_eq.mp h
theorem Q5_10_0_eq{e:En}{S:Zt}{K:En→Zt→Prop}:TQ5_10_0 e S K=runP cT (cW cT) (rW cT) 206 O5_10 false 0 ((O5_10.drop 0).take 12) e S K:=by kernel_rfl
theorem Q5_10_1_eq{e:En}{S:Zt}{K:En→Zt→Prop}:TQ5_10_1 e S K=runP cT (cW cT) (rW cT) 206 O5_10 false 12 ((O5_10.drop 12).take 2) e S K:=by kernel_rfl
theorem O5_10_split:O5_10=(((O5_10.drop 0).take 12)++((O5_10.drop 12).take 2)):=by kernel_rfl
theorem O5_10_len0:(((O5_10.drop 0).take 12)).length=12:=by kernel_rfl
theorem Q5_10_ok{e:En}{S:Zt}{K:En→Zt→Prop}(h:TQ5_10_0 e S fun e S=>TQ5_10_1 e S K):runP cT (cW cT) (rW cT) 206 O5_10 false 0 O5_10 e S K:=by
 refine(congrArg (fun l=>runP cT (cW cT) (rW cT) 206 O5_10 false 0 l e S K) O5_10_split).mpr ?_
 simp only[runP_append,O5_10_len0,Nat.zero_add,Nat.reduceAdd]
 simp only[Q5_10_0_eq,Q5_10_1_eq]at h
 exact h
theorem Q5_11_0_eq{e:En}{S:Zt}{K:En→Zt→Prop}:TQ5_11_0 e S K=runP cT (cW cT) (rW cT) 206 O5_11 false 0 ((O5_11.drop 0).take 12) e S K:=by kernel_rfl
theorem Q5_11_1_eq{e:En}{S:Zt}{K:En→Zt→Prop}:TQ5_11_1 e S K=runP cT (cW cT) (rW cT) 206 O5_11 false 12 ((O5_11.drop 12).take 10) e S K:=by kernel_rfl
theorem O5_11_split:O5_11=(((O5_11.drop 0).take 12)++((O5_11.drop 12).take 10)):=by kernel_rfl
theorem O5_11_len0:(((O5_11.drop 0).take 12)).length=12:=by kernel_rfl
theorem Q5_11_ok{e:En}{S:Zt}{K:En→Zt→Prop}(h:TQ5_11_0 e S fun e S=>TQ5_11_1 e S K):runP cT (cW cT) (rW cT) 206 O5_11 false 0 O5_11 e S K:=by
 refine(congrArg (fun l=>runP cT (cW cT) (rW cT) 206 O5_11 false 0 l e S K) O5_11_split).mpr ?_
 simp only[runP_append,O5_11_len0,Nat.zero_add,Nat.reduceAdd]
 simp only[Q5_11_0_eq,Q5_11_1_eq]at h
 exact h
theorem Q5_13_0_eq{e:En}{S:Zt}{K:En→Zt→Prop}:TQ5_13_0 e S K=runP cT (cW cT) (rW cT) 206 O5_13 false 0 O5_13 e S K:=by kernel_rfl
theorem Q5_13_ok{e:En}{S:Zt}{K:En→Zt→Prop}(h:TQ5_13_0 e S K):runP cT (cW cT) (rW cT) 206 O5_13 false 0 O5_13 e S K:=Q5_13_0_eq.mp h
theorem Q5_14_0_eq{e:En}{S:Zt}{K:En→Zt→Prop}:TQ5_14_0 e S K=runP cT (cW cT) (rW cT) 206 O5_14 false 0 O5_14 e S K:=by kernel_rfl
theorem Q5_14_ok{e:En}{S:Zt}{K:En→Zt→Prop}(h:TQ5_14_0 e S K):runP cT (cW cT) (rW cT) 206 O5_14 false 0 O5_14 e S K:=Q5_14_0_eq.mp h
theorem Q5_15_0_eq{e:En}{S:Zt}{K:En→Zt→Prop}:TQ5_15_0 e S K=runP cT (cW cT) (rW cT) 206 O5_15 false 0 O5_15 e S K:=by kernel_rfl
theorem Q5_15_ok{e:En}{S:Zt}{K:En→Zt→Prop}(h:TQ5_15_0 e S K):runP cT (cW cT) (rW cT) 206 O5_15 false 0 O5_15 e S K:=Q5_15_0_eq.mp h
theorem Q5_16_0_eq{e:En}{S:Zt}{K:En→Zt→Prop}:TQ5_16_0 e S K=runP cT (cW cT) (rW cT) 206 O5_16 false 0 O5_16 e S K:=by kernel_rfl
theorem Q5_16_ok{e:En}{S:Zt}{K:En→Zt→Prop}(h:TQ5_16_0 e S K):runP cT (cW cT) (rW cT) 206 O5_16 false 0 O5_16 e S K:=Q5_16_0_eq.mp h
theorem Q5_17_0_eq{e:En}{S:Zt}{K:En→Zt→Prop}:TQ5_17_0 e S K=runP cT (cW cT) (rW cT) 206 O5_17 false 0 O5_17 e S K:=by kernel_rfl
theorem Q5_17_ok{e:En}{S:Zt}{K:En→Zt→Prop}(h:TQ5_17_0 e S K):runP cT (cW cT) (rW cT) 206 O5_17 false 0 O5_17 e S K:=Q5_17_0_eq.mp h
theorem Q5_18_0_eq{e:En}{S:Zt}{K:En→Zt→Prop}:TQ5_18_0 e S K=runP cT (cW cT) (rW cT) 206 O5_18 true 0 ((O5_18.drop 0).take 12) e S K:=by kernel_rfl
theorem Q5_18_1_eq{e:En}{S:Zt}{K:En→Zt→Prop}:TQ5_18_1 e S K=runP cT (cW cT) (rW cT) 206 O5_18 true 12 ((O5_18.drop 12).take 12) e S K:=by kernel_rfl
theorem Q5_18_2_eq{e:En}{S:Zt}{K:En→Zt→Prop}:TQ5_18_2 e S K=runP cT (cW cT) (rW cT) 206 O5_18 true 24 ((O5_18.drop 24).take 12) e S K:=by kernel_rfl
theorem Q5_18_3_eq{e:En}{S:Zt}{K:En→Zt→Prop}:TQ5_18_3 e S K=runP cT (cW cT) (rW cT) 206 O5_18 true 36 ((O5_18.drop 36).take 12) e S K:=by kernel_rfl
theorem Q5_18_4_eq{e:En}{S:Zt}{K:En→Zt→Prop}:TQ5_18_4 e S K=runP cT (cW cT) (rW cT) 206 O5_18 true 48 ((O5_18.drop 48).take 11) e S K:=by kernel_rfl
theorem O5_18_split:O5_18=(((O5_18.drop 0).take 12)++(((O5_18.drop 12).take 12)++(((O5_18.drop 24).take 12)++(((O5_18.drop 36).take 12)++((O5_18.drop 48).take 11))))):=by kernel_rfl
theorem O5_18_len0:(((O5_18.drop 0).take 12)).length=12:=by kernel_rfl
theorem O5_18_len1:(((O5_18.drop 12).take 12)).length=12:=by kernel_rfl
theorem O5_18_len2:(((O5_18.drop 24).take 12)).length=12:=by kernel_rfl
theorem O5_18_len3:(((O5_18.drop 36).take 12)).length=12:=by kernel_rfl
theorem Q5_18_ok{e:En}{S:Zt}{K:En→Zt→Prop}(h:TQ5_18_0 e S fun e S=>TQ5_18_1 e S fun e S=>TQ5_18_2 e S fun e S=>TQ5_18_3 e S fun e S=>TQ5_18_4 e S K):runP cT (cW cT) (rW cT) 206 O5_18 true 0 O5_18 e S K:=by
 refine(congrArg (fun l=>runP cT (cW cT) (rW cT) 206 O5_18 true 0 l e S K) O5_18_split).mpr ?_
 simp only[runP_append,O5_18_len0,O5_18_len1,O5_18_len2,O5_18_len3,Nat.zero_add,Nat.reduceAdd]
 simp only[Q5_18_0_eq,Q5_18_1_eq,Q5_18_2_eq,Q5_18_3_eq,Q5_18_4_eq]at h
 exact h
theorem Q5_20_0_eq{e:En}{S:Zt}{K:En→Zt→Prop}:TQ5_20_0 e S K=runP cT (cW cT) (rW cT) 206 O5_20 true 0 ((O5_20.drop 0).take 12) e S K:=by kernel_rfl
theorem Q5_20_1_eq{e:En}{S:Zt}{K:En→Zt→Prop}:TQ5_20_1 e S K=runP cT (cW cT) (rW cT) 206 O5_20 true 12 ((O5_20.drop 12).take 7) e S K:=by kernel_rfl
theorem O5_20_split:O5_20=(((O5_20.drop 0).take 12)++((O5_20.drop 12).take 7)):=by kernel_rfl
theorem O5_20_len0:(((O5_20.drop 0).take 12)).length=12:=by kernel_rfl
theorem Q5_20_ok{e:En}{S:Zt}{K:En→Zt→Prop}(h:TQ5_20_0 e S fun e S=>TQ5_20_1 e S K):runP cT (cW cT) (rW cT) 206 O5_20 true 0 O5_20 e S K:=by
 refine(congrArg (fun l=>runP cT (cW cT) (rW cT) 206 O5_20 true 0 l e S K) O5_20_split).mpr ?_
 simp only[runP_append,O5_20_len0,Nat.zero_add,Nat.reduceAdd]
 simp only[Q5_20_0_eq,Q5_20_1_eq]at h
 exact h
theorem Q5_22_0_eq{e:En}{S:Zt}{K:En→Zt→Prop}:TQ5_22_0 e S K=runP cT (cW cT) (rW cT) 206 O5_22 false 0 O5_22 e S K:=by kernel_rfl
theorem Q5_22_ok{e:En}{S:Zt}{K:En→Zt→Prop}(h:TQ5_22_0 e S K):runP cT (cW cT) (rW cT) 206 O5_22 false 0 O5_22 e S K:=Q5_22_0_eq.mp h
theorem Q5_23_0_eq{e:En}{S:Zt}{K:En→Zt→Prop}:TQ5_23_0 e S K=runP cT (cW cT) (rW cT) 206 O5_23 false 0 O5_23 e S K:=by kernel_rfl
theorem Q5_23_ok{e:En}{S:Zt}{K:En→Zt→Prop}(h:TQ5_23_0 e S K):runP cT (cW cT) (rW cT) 206 O5_23 false 0 O5_23 e S K:=Q5_23_0_eq.mp h
theorem Q5_24_0_eq{e:En}{S:Zt}{K:En→Zt→Prop}:TQ5_24_0 e S K=runP cT (cW cT) (rW cT) 206 O5_24 true 0 O5_24 e S K:=by kernel_rfl
theorem Q5_24_ok{e:En}{S:Zt}{K:En→Zt→Prop}(h:TQ5_24_0 e S K):runP cT (cW cT) (rW cT) 206 O5_24 true 0 O5_24 e S K:=Q5_24_0_eq.mp h
theorem F5_ok{x0 x1 x2:SV}{S:Zt}{k:SV→Zt→Prop}(h:F5 (argE [x0,x1,x2]) S k):wpO (bW cT 5 [x0,x1,x2] S) (fun p=>k p.1 p.2):=bodyP_of (fn:=Tryz.f5) (by kernel_rfl) (by kernel_rfl) (Nat.le_of_ble_eq_true (by kernel_rfl)) ((show F5 (argE [x0,x1,x2]) S k=wpC cT Tryz.f5.ntmps B5 (argE [x0,x1,x2]) S (outP cT Tryz.f5 k)by kernel_rfl).mp h)
theorem L5_0_ok{e:En}{S:Zt}{k:X→En→Zt→Prop}(h:TL5_0 e S k):DenP cT 206 (.loop L5_0) e S k:=loopP_of ((show TL5_0 e S k=wpC cT 206 L5_0 e S (againP cT 206 L5_0 k)by kernel_rfl).mp h)
theorem K5_0e0_ok{e:En}{S:Zt}{k:SV→Zt→Prop}(h:TK5_0e0 e S k):K5_0 k (.exit 0) e S:=(show TK5_0e0 e S k=K5_0 k (.exit 0) e S by kernel_rfl).mp h
end Go.Proofs
