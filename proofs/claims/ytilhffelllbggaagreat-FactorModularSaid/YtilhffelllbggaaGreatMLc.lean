/-
  The law, laid out.
-/
import Derived.Test.YtilhffelllbggaaGreatMG
set_option linter.unusedVariables false
set_option linter.unusedSimpArgs false
set_option maxRecDepth 100000
namespace Go.Sh
theorem runP_append{cfg:Cfg}{call:CallT}{rnd:Nat→List SV→Zt→Option (SV×Zt)}{n:Nat}{all:List Oper}{draw:Bool}:∀(l1 l2:List Oper) (i:Nat) (e:En) (S:Zt) (K:En→Zt→Prop),
  runP cfg call rnd n all draw i (l1++l2) e S K=runP cfg call rnd n all draw i l1 e S (fun e S=>runP cfg call rnd n all draw (i+l1.length) l2 e S K)
 |[],l2,i,e,S,K=>rfl
 |o::r,l2,i,e,S,K=>by
  have ih:∀(e:En) (S:Zt),runP cfg call rnd n all draw (i+1) (r++l2) e S K=runP cfg call rnd n all draw (i+1) r e S (fun e S=>runP cfg call rnd n all draw (i+(o::r).length) l2 e S K):=fun e S=>by
   rw[runP_append r l2 (i+1) e S K]
   have:i+1+r.length=i+(o::r).length:=by simp;omega
   rw[this]
  rw[List.cons_append]
  unfold runP
  split
  ·simp only[ih]
  ·simp only[ih]
end Go.Sh
namespace Go.Proofs
open Go Go.Sh
noncomputable def opsAt:Code→List Oper
 |.region _ ops _=>ops.toList
 |_=>[]
end Go.Proofs
namespace Go.Proofs
open Go Go.Sh
noncomputable abbrev B3:Code:=bodyOf Tryz.f3
noncomputable def O3_0:List Oper:=opsAt (cA [0] B3)
noncomputable def O3_1:List Oper:=opsAt (cA [1,0] B3)
noncomputable def O3_2:List Oper:=opsAt (cA [1,1,0,0] B3)
noncomputable def O3_3:List Oper:=opsAt (cA [1,1,0,1,0,0] B3)
noncomputable def O3_4:List Oper:=opsAt (cA [1,1,1,0,0] B3)
noncomputable def O3_5:List Oper:=opsAt (cA [1,1,1,0,1,0,0] B3)
noncomputable def O3_6:List Oper:=opsAt (cA [1,1,1,1,0] B3)
noncomputable def O3_7:List Oper:=opsAt (cA [1,1,1,1,1,0] B3)
noncomputable def O3_8:List Oper:=opsAt (cA [1,1,1,1,1,1,0] B3)
noncomputable def O3_9:List Oper:=opsAt (cA [1,1,1,1,1,1,1,0,0] B3)
noncomputable def O3_10:List Oper:=opsAt (cA [1,1,1,1,1,1,1,0,1,0,0] B3)
noncomputable def O3_11:List Oper:=opsAt (cA [1,1,1,1,1,1,1,1,0] B3)
noncomputable def O3_12:List Oper:=opsAt (cA [1,1,1,1,1,1,1,1,1,0,0] B3)
noncomputable def O3_13:List Oper:=opsAt (cA [1,1,1,1,1,1,1,1,1,0,1,0,0] B3)
noncomputable def O3_14:List Oper:=opsAt (cA [1,1,1,1,1,1,1,1,1,1,0,0] B3)
noncomputable def O3_15:List Oper:=opsAt (cA [1,1,1,1,1,1,1,1,1,1,0,1,0,0,0,0] B3)
noncomputable def O3_16:List Oper:=opsAt (cA [1,1,1,1,1,1,1,1,1,1,0,1,0,0,1,0,0,0] B3)
noncomputable def O3_17:List Oper:=opsAt (cA [1,1,1,1,1,1,1,1,1,1,0,1,0,0,1,0,0,1,0,0] B3)
noncomputable def O3_18:List Oper:=opsAt (cA [1,1,1,1,1,1,1,1,1,1,0,1,0,0,1,0,0,1,0,1,0,0] B3)
noncomputable def O3_19:List Oper:=opsAt (cA [1,1,1,1,1,1,1,1,1,1,0,1,0,0,1,0,0,1,1,0] B3)
noncomputable def O3_20:List Oper:=opsAt (cA [1,1,1,1,1,1,1,1,1,1,0,1,0,0,1,0,0,1,1,1,0,0,0,0] B3)
noncomputable def O3_21:List Oper:=opsAt (cA [1,1,1,1,1,1,1,1,1,1,0,1,0,0,1,0,0,1,1,1,0,0,1,0,0] B3)
noncomputable def O3_22:List Oper:=opsAt (cA [1,1,1,1,1,1,1,1,1,1,0,1,0,0,1,0,0,1,1,1,0,0,1,1] B3)
noncomputable def O3_23:List Oper:=opsAt (cA [1,1,1,1,1,1,1,1,1,1,0,1,0,0,1,1] B3)
noncomputable def O3_24:List Oper:=opsAt (cA [1,1,1,1,1,1,1,1,1,1,1,0] B3)
noncomputable def O3_25:List Oper:=opsAt (cA [1,1,1,1,1,1,1,1,1,1,1,1,0] B3)
noncomputable def L3_0:Code:=cA [1,1,1,1,1,1,1,1,1,1,0,1,0,0] B3
noncomputable def L3_1:Code:=cA [1,1,1,1,1,1,1,1,1,1,0,1,0,0,1,0,0,1,1,1,0,0] B3
noncomputable def K3_0(k:SV→Zt→Prop):X→En→Zt→Prop:=cont cT 160 [1,1,1,1,1,1,1,1,1,1,0,1,0] B3 (outP cT Tryz.f3 k)
noncomputable def K3_1(k:X→En→Zt→Prop):X→En→Zt→Prop:=cont cT 160 [1,0,0,1,1,1,0] L3_0 (againP cT 160 L3_0 k)
noncomputable def TQ3_0_0 (e : En) (S : Zt) (K : En → Zt → Prop) : Prop :=
 K (ups e [(4, (.bool false))]) S
noncomputable def TQ3_1_0 (e : En) (S : Zt) (K : En → Zt → Prop) : Prop :=
 wpO (cW cT 8 [] S) fun p0 =>
 K (ups e [(16, p0.1), (5, p0.1)]) p0.2
noncomputable def TQ3_2_0 (e : En) (S : Zt) (K : En → Zt → Prop) : Prop :=
 wpO (unS .not (e 5)) fun v0 =>
 K (ups e [(17, (e 5)), (18, v0)]) S
noncomputable def TQ3_4_0 (e : En) (S : Zt) (K : En → Zt → Prop) : Prop :=
 wpO (lenS y22 (e 0)) fun v0 =>
 wpO (bnS .gtr (some y3) v0 (.int .i64 10)) fun v1 =>
 K (ups e [(19, (e 0)), (20, v0), (21, v1)]) S
noncomputable def TQ3_5_0 (e : En) (S : Zt) (K : En → Zt → Prop) : Prop :=
 K (ups e [(22, (e 5)), (4, (e 5))]) S
noncomputable def TQ3_6_0 (e : En) (S : Zt) (K : En → Zt → Prop) : Prop :=
 wpO (cW cT 9 [(e 1)] S) fun p0 =>
 K (ups e [(23, (e 1)), (24, p0.1), (6, p0.1)]) p0.2
noncomputable def TQ3_7_0 (e : En) (S : Zt) (K : En → Zt → Prop) : Prop :=
 wpO (cW cT 10 [(e 0), (e 6)] S) fun p0 =>
 K (ups e [(25, (e 0)), (26, (e 6)), (27, p0.1), (7, p0.1)]) p0.2
noncomputable def TQ3_8_0 (e : En) (S : Zt) (K : En → Zt → Prop) : Prop :=
 wpO (cW cT 11 [(e 0), (e 6)] S) fun p0 =>
 wpO (extS p0.1 0) fun v1 =>
 wpO (extS p0.1 1) fun v2 =>
 K (ups e [(29, (e 0)), (30, (e 6)), (31, p0.1), (28, p0.1), (32, v1), (33, v2), (8, v1), (9, v2)]) p0.2
noncomputable def TQ3_9_0 (e : En) (S : Zt) (K : En → Zt → Prop) : Prop :=
 wpO (lenS y22 (e 7)) fun v0 =>
 wpO (bnS .eql (some y3) v0 (.int .i64 0)) fun v1 =>
 K (ups e [(34, (e 7)), (35, v0), (36, v1)]) S
noncomputable def TQ3_10_0 (e : En) (S : Zt) (K : En → Zt → Prop) : Prop :=
 wpO (bnS .eql (some y29) (e 9) (.int .i64 10)) fun v0 =>
 grdP (some v0) true (fun k => k (e 8) S) S fun v1 S2 =>
 grdP (some v0) true (fun k => wpO (lenS y28 v1) fun v3 => k v3 S2) S2 fun v4 S5 =>
 grdP (some v0) true (fun k => wpO (bnS .eql (some y3) v4 (.int .i64 0)) fun v6 => k v6 S5) S5 fun v7 S8 =>
 wpO (pickS v0 v7 (.bool false)) fun v9 =>
 grdP (some v9) true (fun k => k (e 5) S8) S8 fun v10 S11 =>
 wpO (pickS v9 v10 (.bool false)) fun v12 =>
 K (ups e [(37, (e 9)), (38, v0), (39, v0), (40, v1), (41, v4), (42, v7), (43, v9), (44, v9), (45, v10), (46, v12), (4, v12)]) S11
noncomputable def TQ3_11_0 (e : En) (S : Zt) (K : En → Zt → Prop) : Prop :=
 wpO (lenS y22 (e 7)) fun v0 =>
 wpO (bnS .sub (some y3) v0 (.int .i64 1)) fun v1 =>
 wpO (ixS cT y22 (e 7) v1) fun v2 =>
 wpO (ldS y25 S v2) fun v3 =>
 wpO (bslS y25 1 [(0, v3)] S) fun p4 =>
 K (ups e [(47, (e 7)), (48, (e 7)), (49, v0), (50, v1), (51, v2), (52, v3), (53, p4.1), (10, p4.1)]) p4.2
noncomputable def TQ3_12_0 (e : En) (S : Zt) (K : En → Zt → Prop) : Prop :=
 wpO (bnS .neq (some y29) (e 9) (.int .i64 0)) fun v0 =>
 K (ups e [(54, (e 9)), (55, v0)]) S
noncomputable def TQ3_14_0 (e : En) (S : Zt) (K : En → Zt → Prop) : Prop :=
 K (ups e [(11, (.int .i64 0))]) S
noncomputable def TQ3_15_0 (e : En) (S : Zt) (K : En → Zt → Prop) : Prop :=
 wpO (lenS y28 (e 8)) fun v0 =>
 wpO (bnS .lss (some y3) (e 11) v0) fun v1 =>
 K (ups e [(56, (e 11)), (57, (e 8)), (58, v0), (59, v1)]) S
noncomputable def TQ3_16_0 (e : En) (S : Zt) (K : En → Zt → Prop) : Prop :=
 wpO (ixS cT y28 (e 8) (e 11)) fun v0 =>
 wpO (faS cT y33 v0 0) fun v1 =>
 wpO (ldS y22 S v1) fun v2 =>
 K (ups e [(62, (e 8)), (63, (e 11)), (64, v0), (65, v1), (66, v2), (12, v2)]) S
noncomputable def TQ3_17_0 (e : En) (S : Zt) (K : En → Zt → Prop) : Prop :=
 wpO (lenS y22 (e 12)) fun v0 =>
 wpO (bnS .lss (some y3) v0 (.int .i64 2)) fun v1 =>
 grdP (some v1) false (fun k => k (e 12) S) S fun v2 S3 =>
 grdP (some v1) false (fun k => wpO (lenS y22 v2) fun v4 => k v4 S3) S3 fun v5 S6 =>
 grdP (some v1) false (fun k => wpO (bnS .gtr (some y3) v5 (.int .i64 10)) fun v7 => k v7 S6) S6 fun v8 S9 =>
 wpO (pickS v1 (.bool true) v8) fun v10 =>
 grdP (some v10) false (fun k => k (e 8) S9) S9 fun v11 S12 =>
 grdP (some v10) false (fun k => k (e 11) S12) S12 fun v13 S14 =>
 grdP (some v10) false (fun k => wpO (ixS cT y28 v11 v13) fun v15 => k v15 S14) S14 fun v16 S17 =>
 grdP (some v10) false (fun k => wpO (faS cT y33 v16 1) fun v18 => k v18 S17) S17 fun v19 S20 =>
 grdP (some v10) false (fun k => wpO (ldS y3 S20 v19) fun v21 => k v21 S20) S20 fun v22 S23 =>
 grdP (some v10) false (fun k => wpO (bnS .lss (some y3) v22 (.int .i64 1)) fun v24 => k v24 S23) S23 fun v25 S26 =>
 wpO (pickS v10 (.bool true) v25) fun v27 =>
 grdP (some v27) false (fun k => k (e 8) S26) S26 fun v28 S29 =>
 grdP (some v27) false (fun k => k (e 11) S29) S29 fun v30 S31 =>
 grdP (some v27) false (fun k => wpO (ixS cT y28 v28 v30) fun v32 => k v32 S31) S31 fun v33 S34 =>
 K (ups e [(67, (e 12)), (68, v0), (69, v1), (70, v1), (71, v2), (72, v5), (73, v8), (74, v10), (75, v10), (76, v11), (77, v13), (78, v16), (79, v19), (80, v22), (81, v25), (82, v27), (83, v27), (84, v28), (85, v30), (86, v33)]) S34
noncomputable def TQ3_17_1 (e : En) (S : Zt) (K : En → Zt → Prop) : Prop :=
 grdP (some (e 83)) false (fun k => wpO (faS cT y33 (e 86) 1) fun v0 => k v0 S) S fun v1 S2 =>
 grdP (some (e 83)) false (fun k => wpO (ldS y3 S2 v1) fun v3 => k v3 S2) S2 fun v4 S5 =>
 grdP (some (e 83)) false (fun k => wpO (bnS .gtr (some y3) v4 (.int .i64 10)) fun v6 => k v6 S5) S5 fun v7 S8 =>
 wpO (pickS (e 83) (.bool true) v7) fun v9 =>
 grdP (some v9) false (fun k => k (e 12) S8) S8 fun v10 S11 =>
 grdP (some v9) false (fun k => k (e 12) S11) S11 fun v12 S13 =>
 grdP (some v9) false (fun k => k (e 6) S13) S13 fun v14 S15 =>
 grdP (some v9) false (fun k => wpO (cW cT 10 [v12, v14] S15) fun p16 => k p16.1 p16.2) S15 fun v17 S18 =>
 grdP (some v9) false (fun k => wpO (cW cT 12 [v10, v17] S18) fun p19 => k p19.1 p19.2) S18 fun v20 S21 =>
 grdP (some v9) false (fun k => wpO (unS .not v20) fun v22 => k v22 S21) S21 fun v23 S24 =>
 wpO (pickS v9 (.bool true) v23) fun v25 =>
 grdP (some v25) false (fun k => k (e 12) S24) S24 fun v26 S27 =>
 grdP (some v25) false (fun k => k (e 12) S27) S27 fun v28 S29 =>
 grdP (some v25) false (fun k => wpO (lenS y22 v28) fun v30 => k v30 S29) S29 fun v31 S32 =>
 grdP (some v25) false (fun k => wpO (bnS .sub (some y3) v31 (.int .i64 1)) fun v33 => k v33 S32) S32 fun v34 S35 =>
 grdP (some v25) false (fun k => wpO (ixS cT y22 v26 v34) fun v36 => k v36 S35) S35 fun v37 S38 =>
 grdP (some v25) false (fun k => wpO (ldS y25 S38 v37) fun v39 => k v39 S38) S38 fun v40 S41 =>
 grdP (some v25) false (fun k => wpO (bnS .neq (some y25) v40 (.int .u64 (1))) fun v42 => k v42 S41) S41 fun v43 S44 =>
 K (ups e [(87, v1), (88, v4), (89, v7), (90, v9), (91, v9), (92, v10), (93, v12), (94, v14), (95, v17), (96, v20), (97, v23), (98, v25), (99, v25), (100, v26), (101, v28), (102, v31), (103, v34), (104, v37), (105, v40), (106, v43)]) S44
noncomputable def TQ3_17_2 (e : En) (S : Zt) (K : En → Zt → Prop) : Prop :=
 wpO (pickS (e 99) (.bool true) (e 106)) fun v0 =>
 grdP (some v0) false (fun k => k (e 12) S) S fun v1 S2 =>
 grdP (some v0) false (fun k => k (e 6) S2) S2 fun v3 S4 =>
 grdP (some v0) false (fun k => wpO (cW cT 13 [v1, v3] S4) fun p5 => k p5.1 p5.2) S4 fun v6 S7 =>
 grdP (some v0) false (fun k => wpO (unS .not v6) fun v8 => k v8 S7) S7 fun v9 S10 =>
 wpO (pickS v0 (.bool true) v9) fun v11 =>
 grdP (some v11) false (fun k => k (e 11) S10) S10 fun v12 S13 =>
 grdP (some v11) false (fun k => wpO (bnS .gtr (some y3) v12 (.int .i64 0)) fun v14 => k v14 S13) S13 fun v15 S16 =>
 grdP (some v11) false (fun k => k v15 S16) S16 fun v17 S18 =>
 grdP (some v17) true (fun k => k (e 8) S18) S18 fun v19 S20 =>
 grdP (some v17) true (fun k => k (e 11) S20) S20 fun v21 S22 =>
 grdP (some v17) true (fun k => wpO (bnS .sub (some y3) v21 (.int .i64 1)) fun v23 => k v23 S22) S22 fun v24 S25 =>
 grdP (some v17) true (fun k => wpO (ixS cT y28 v19 v24) fun v26 => k v26 S25) S25 fun v27 S28 =>
 grdP (some v17) true (fun k => wpO (faS cT y33 v27 0) fun v29 => k v29 S28) S28 fun v30 S31 =>
 grdP (some v17) true (fun k => wpO (ldS y22 S31 v30) fun v32 => k v32 S31) S31 fun v33 S34 =>
 grdP (some v17) true (fun k => k (e 12) S34) S34 fun v35 S36 =>
 grdP (some v17) true (fun k => wpO (cW cT 14 [v33, v35] S36) fun p37 => k p37.1 p37.2) S36 fun v38 S39 =>
 grdP (some v17) true (fun k => wpO (unS .not v38) fun v40 => k v40 S39) S39 fun v41 S42 =>
 K (ups e [(107, v0), (108, v0), (109, v1), (110, v3), (111, v6), (112, v9), (113, v11), (114, v11), (115, v12), (116, v15), (117, v17), (118, v19), (119, v21), (120, v24), (121, v27), (122, v30), (123, v33), (124, v35), (125, v38), (126, v41)]) S42
noncomputable def TQ3_17_3 (e : En) (S : Zt) (K : En → Zt → Prop) : Prop :=
 grdP (some (e 114)) false (fun k => wpO (pickS (e 117) (e 126) (.bool false)) fun v0 => k v0 S) S fun v1 S2 =>
 wpO (pickS (e 114) (.bool true) v1) fun v3 =>
 K (ups e [(127, v1), (128, v3)]) S2
noncomputable def TQ3_19_0 (e : En) (S : Zt) (K : En → Zt → Prop) : Prop :=
 K (ups e [(13, (.int .i64 0))]) S
noncomputable def TQ3_20_0 (e : En) (S : Zt) (K : En → Zt → Prop) : Prop :=
 wpO (ixS cT y28 (e 8) (e 11)) fun v0 =>
 wpO (faS cT y33 v0 1) fun v1 =>
 wpO (ldS y3 S v1) fun v2 =>
 wpO (bnS .lss (some y3) (e 13) v2) fun v3 =>
 K (ups e [(129, (e 13)), (130, (e 8)), (131, (e 11)), (132, v0), (133, v1), (134, v2), (135, v3)]) S
noncomputable def TQ3_21_0 (e : En) (S : Zt) (K : En → Zt → Prop) : Prop :=
 wpO (cW cT 15 [(e 10), (e 12), (e 6)] S) fun p0 =>
 K (ups e [(138, (e 10)), (139, (e 12)), (140, (e 6)), (141, p0.1), (10, p0.1)]) p0.2
noncomputable def TQ3_22_0 (e : En) (S : Zt) (K : En → Zt → Prop) : Prop :=
 wpO (bnS .add (some y3) (e 13) (.int .i64 1)) fun v0 =>
 K (ups e [(136, (e 13)), (137, v0), (13, v0)]) S
noncomputable def TQ3_23_0 (e : En) (S : Zt) (K : En → Zt → Prop) : Prop :=
 wpO (bnS .add (some y3) (e 11) (.int .i64 1)) fun v0 =>
 K (ups e [(60, (e 11)), (61, v0), (11, v0)]) S
noncomputable def TQ3_24_0 (e : En) (S : Zt) (K : En → Zt → Prop) : Prop :=
 wpO (bnS .mul (some y25) (e 6) (e 6)) fun v0 =>
 wpO (cW cT 11 [(e 0), v0] S) fun p1 =>
 wpO (extS p1.1 0) fun v2 =>
 wpO (extS p1.1 1) fun v3 =>
 K (ups e [(143, (e 0)), (144, (e 6)), (145, (e 6)), (146, v0), (147, p1.1), (142, p1.1), (148, v2), (149, v3), (14, v2), (15, v3)]) p1.2
noncomputable def TQ3_25_0 (e : En) (S : Zt) (K : En → Zt → Prop) : Prop :=
 wpO (cW cT 12 [(e 10), (e 7)] S) fun p0 =>
 grdP (some p0.1) true (fun k => k (e 15) p0.2) p0.2 fun v1 S2 =>
 grdP (some p0.1) true (fun k => wpO (bnS .eql (some y29) v1 (.int .i64 1)) fun v3 => k v3 S2) S2 fun v4 S5 =>
 wpO (pickS p0.1 v4 (.bool false)) fun v6 =>
 grdP (some v6) true (fun k => k (e 5) S5) S5 fun v7 S8 =>
 wpO (pickS v6 v7 (.bool false)) fun v9 =>
 K (ups e [(150, (e 10)), (151, (e 7)), (152, p0.1), (153, p0.1), (154, v1), (155, v4), (156, v6), (157, v6), (158, v7), (159, v9), (4, v9)]) S8
noncomputable def F3 (e : En) (S : Zt) (k : SV → Zt → Prop) : Prop :=
 runP cT (cW cT) (rW cT) 160 O3_0 false 0 O3_0 e S fun e S =>
 runP cT (cW cT) (rW cT) 160 O3_1 false 0 O3_1 e S fun e S =>
 runP cT (cW cT) (rW cT) 160 O3_2 false 0 O3_2 e S fun e S =>
 condP (e 18)
 (runP cT (cW cT) (rW cT) 160 O3_3 false 0 O3_3 e S fun e S =>
 k (e 4) S)
 (runP cT (cW cT) (rW cT) 160 O3_4 false 0 O3_4 e S fun e S =>
 condP (e 21)
 (runP cT (cW cT) (rW cT) 160 O3_5 false 0 O3_5 e S fun e S =>
 k (e 4) S)
 (runP cT (cW cT) (rW cT) 160 O3_6 false 0 O3_6 e S fun e S =>
 runP cT (cW cT) (rW cT) 160 O3_7 false 0 O3_7 e S fun e S =>
 runP cT (cW cT) (rW cT) 160 O3_8 false 0 O3_8 e S fun e S =>
 runP cT (cW cT) (rW cT) 160 O3_9 false 0 O3_9 e S fun e S =>
 condP (e 36)
 (runP cT (cW cT) (rW cT) 160 O3_10 false 0 O3_10 e S fun e S =>
 k (e 4) S)
 (runP cT (cW cT) (rW cT) 160 O3_11 false 0 O3_11 e S fun e S =>
 runP cT (cW cT) (rW cT) 160 O3_12 false 0 O3_12 e S fun e S =>
 condP (e 55)
 (runP cT (cW cT) (rW cT) 160 O3_13 false 0 O3_13 e S fun e S =>
 k (e 4) S)
 (runP cT (cW cT) (rW cT) 160 O3_14 false 0 O3_14 e S fun e S =>
 DenP cT 160 (.loop L3_0) e S (K3_0 k)))))
noncomputable def TL3_0 (e : En) (S : Zt) (k : X → En → Zt → Prop) : Prop :=
 runP cT (cW cT) (rW cT) 160 O3_15 false 0 O3_15 e S fun e S =>
 condP (e 59)
 (runP cT (cW cT) (rW cT) 160 O3_16 false 0 O3_16 e S fun e S =>
 runP cT (cW cT) (rW cT) 160 O3_17 false 0 O3_17 e S fun e S =>
 condP (e 128)
 (runP cT (cW cT) (rW cT) 160 O3_18 false 0 O3_18 e S fun e S =>
 k .ret e S)
 (runP cT (cW cT) (rW cT) 160 O3_19 false 0 O3_19 e S fun e S =>
 DenP cT 160 (.loop L3_1) e S (K3_1 k)))
 (k (.exit 0) e S)
noncomputable def TL3_1 (e : En) (S : Zt) (k : X → En → Zt → Prop) : Prop :=
 runP cT (cW cT) (rW cT) 160 O3_20 false 0 O3_20 e S fun e S =>
 condP (e 135)
 (runP cT (cW cT) (rW cT) 160 O3_21 false 0 O3_21 e S fun e S =>
 runP cT (cW cT) (rW cT) 160 O3_22 false 0 O3_22 e S fun e S =>
 DenP cT 160 (.loop L3_1) e S k)
 (k (.exit 2) e S)
noncomputable def TK3_0e0 (e : En) (S : Zt) (k : SV → Zt → Prop) : Prop :=
 runP cT (cW cT) (rW cT) 160 O3_24 false 0 O3_24 e S fun e S =>
 runP cT (cW cT) (rW cT) 160 O3_25 false 0 O3_25 e S fun e S =>
 k (e 4) S
noncomputable def TK3_1e2 (e : En) (S : Zt) (k : X → En → Zt → Prop) : Prop :=
 runP cT (cW cT) (rW cT) 160 O3_23 false 0 O3_23 e S fun e S =>
 DenP cT 160 (.loop L3_0) e S k
theorem Q3_0_0_eq{e:En}{S:Zt}{K:En→Zt→Prop}:TQ3_0_0 e S K=runP cT (cW cT) (rW cT) 160 O3_0 false 0 O3_0 e S K:=by kernel_rfl
theorem Q3_0_ok{e:En}{S:Zt}{K:En→Zt→Prop}(h:TQ3_0_0 e S K):runP cT (cW cT) (rW cT) 160 O3_0 false 0 O3_0 e S K:=Q3_0_0_eq.mp h
theorem Q3_1_0_eq{e:En}{S:Zt}{K:En→Zt→Prop}:TQ3_1_0 e S K=runP cT (cW cT) (rW cT) 160 O3_1 false 0 O3_1 e S K:=by kernel_rfl
theorem Q3_1_ok{e:En}{S:Zt}{K:En→Zt→Prop}(h:TQ3_1_0 e S K):runP cT (cW cT) (rW cT) 160 O3_1 false 0 O3_1 e S K:=Q3_1_0_eq.mp h
theorem Q3_2_0_eq{e:En}{S:Zt}{K:En→Zt→Prop}:TQ3_2_0 e S K=runP cT (cW cT) (rW cT) 160 O3_2 false 0 O3_2 e S K:=by kernel_rfl
theorem Q3_2_ok{e:En}{S:Zt}{K:En→Zt→Prop}(h:TQ3_2_0 e S K):runP cT (cW cT) (rW cT) 160 O3_2 false 0 O3_2 e S K:=Q3_2_0_eq.mp h
theorem Q3_4_0_eq{e:En}{S:Zt}{K:En→Zt→Prop}:TQ3_4_0 e S K=runP cT (cW cT) (rW cT) 160 O3_4 false 0 O3_4 e S K:=by kernel_rfl
theorem Q3_4_ok{e:En}{S:Zt}{K:En→Zt→Prop}(h:TQ3_4_0 e S K):runP cT (cW cT) (rW cT) 160 O3_4 false 0 O3_4 e S K:=Q3_4_0_eq.mp h
theorem Q3_5_0_eq{e:En}{S:Zt}{K:En→Zt→Prop}:TQ3_5_0 e S K=runP cT (cW cT) (rW cT) 160 O3_5 false 0 O3_5 e S K:=by kernel_rfl
theorem Q3_5_ok{e:En}{S:Zt}{K:En→Zt→Prop}(h:TQ3_5_0 e S K):runP cT (cW cT) (rW cT) 160 O3_5 false 0 O3_5 e S K:=Q3_5_0_eq.mp h
theorem Q3_6_0_eq{e:En}{S:Zt}{K:En→Zt→Prop}:TQ3_6_0 e S K=runP cT (cW cT) (rW cT) 160 O3_6 false 0 O3_6 e S K:=by kernel_rfl
theorem Q3_6_ok{e:En}{S:Zt}{K:En→Zt→Prop}(h:TQ3_6_0 e S K):runP cT (cW cT) (rW cT) 160 O3_6 false 0 O3_6 e S K:=Q3_6_0_eq.mp h
theorem Q3_7_0_eq{e:En}{S:Zt}{K:En→Zt→Prop}:TQ3_7_0 e S K=runP cT (cW cT) (rW cT) 160 O3_7 false 0 O3_7 e S K:=by kernel_rfl
theorem Q3_7_ok{e:En}{S:Zt}{K:En→Zt→Prop}(h:TQ3_7_0 e S K):runP cT (cW cT) (rW cT) 160 O3_7 false 0 O3_7 e S K:=Q3_7_0_eq.mp h
theorem Q3_8_0_eq{e:En}{S:Zt}{K:En→Zt→Prop}:TQ3_8_0 e S K=runP cT (cW cT) (rW cT) 160 O3_8 false 0 O3_8 e S K:=by kernel_rfl
theorem Q3_8_ok{e:En}{S:Zt}{K:En→Zt→Prop}(h:TQ3_8_0 e S K):runP cT (cW cT) (rW cT) 160 O3_8 false 0 O3_8 e S K:=Q3_8_0_eq.mp h
theorem Q3_9_0_eq{e:En}{S:Zt}{K:En→Zt→Prop}:TQ3_9_0 e S K=runP cT (cW cT) (rW cT) 160 O3_9 false 0 O3_9 e S K:=by kernel_rfl
theorem Q3_9_ok{e:En}{S:Zt}{K:En→Zt→Prop}(h:TQ3_9_0 e S K):runP cT (cW cT) (rW cT) 160 O3_9 false 0 O3_9 e S K:=Q3_9_0_eq.mp h
theorem Q3_10_0_eq{e:En}{S:Zt}{K:En→Zt→Prop}:TQ3_10_0 e S K=runP cT (cW cT) (rW cT) 160 O3_10 false 0 O3_10 e S K:=by kernel_rfl
theorem Q3_10_ok{e:En}{S:Zt}{K:En→Zt→Prop}(h:TQ3_10_0 e S K):runP cT (cW cT) (rW cT) 160 O3_10 false 0 O3_10 e S K:=Q3_10_0_eq.mp h
theorem Q3_11_0_eq{e:En}{S:Zt}{K:En→Zt→Prop}:TQ3_11_0 e S K=runP cT (cW cT) (rW cT) 160 O3_11 false 0 O3_11 e S K:=by kernel_rfl
theorem Q3_11_ok{e:En}{S:Zt}{K:En→Zt→Prop}(h:TQ3_11_0 e S K):runP cT (cW cT) (rW cT) 160 O3_11 false 0 O3_11 e S K:=Q3_11_0_eq.mp h
theorem Q3_12_0_eq{e:En}{S:Zt}{K:En→Zt→Prop}:TQ3_12_0 e S K=runP cT (cW cT) (rW cT) 160 O3_12 false 0 O3_12 e S K:=by kernel_rfl
theorem Q3_12_ok{e:En}{S:Zt}{K:En→Zt→Prop}(h:TQ3_12_0 e S K):runP cT (cW cT) (rW cT) 160 O3_12 false 0 O3_12 e S K:=Q3_12_0_eq.mp h
theorem Q3_14_0_eq{e:En}{S:Zt}{K:En→Zt→Prop}:TQ3_14_0 e S K=runP cT (cW cT) (rW cT) 160 O3_14 false 0 O3_14 e S K:=by kernel_rfl
theorem Q3_14_ok{e:En}{S:Zt}{K:En→Zt→Prop}(h:TQ3_14_0 e S K):runP cT (cW cT) (rW cT) 160 O3_14 false 0 O3_14 e S K:=Q3_14_0_eq.mp h
theorem Q3_15_0_eq{e:En}{S:Zt}{K:En→Zt→Prop}:TQ3_15_0 e S K=runP cT (cW cT) (rW cT) 160 O3_15 false 0 O3_15 e S K:=by kernel_rfl
theorem Q3_15_ok{e:En}{S:Zt}{K:En→Zt→Prop}(h:TQ3_15_0 e S K):runP cT (cW cT) (rW cT) 160 O3_15 false 0 O3_15 e S K:=Q3_15_0_eq.mp h
theorem Q3_16_0_eq{e:En}{S:Zt}{K:En→Zt→Prop}:TQ3_16_0 e S K=runP cT (cW cT) (rW cT) 160 O3_16 false 0 O3_16 e S K:=by kernel_rfl
theorem Q3_16_ok{e:En}{S:Zt}{K:En→Zt→Prop}(h:TQ3_16_0 e S K):runP cT (cW cT) (rW cT) 160 O3_16 false 0 O3_16 e S K:=Q3_16_0_eq.mp h
theorem Q3_17_0_eq{e:En}{S:Zt}{K:En→Zt→Prop}:TQ3_17_0 e S K=runP cT (cW cT) (rW cT) 160 O3_17 false 0 ((O3_17.drop 0).take 20) e S K:=by kernel_rfl
theorem Q3_17_1_eq{e:En}{S:Zt}{K:En→Zt→Prop}:TQ3_17_1 e S K=runP cT (cW cT) (rW cT) 160 O3_17 false 20 ((O3_17.drop 20).take 20) e S K:=by kernel_rfl
theorem Q3_17_2_eq{e:En}{S:Zt}{K:En→Zt→Prop}:TQ3_17_2 e S K=runP cT (cW cT) (rW cT) 160 O3_17 false 40 ((O3_17.drop 40).take 20) e S K:=by kernel_rfl
theorem Q3_17_3_eq{e:En}{S:Zt}{K:En→Zt→Prop}:TQ3_17_3 e S K=runP cT (cW cT) (rW cT) 160 O3_17 false 60 ((O3_17.drop 60).take 2) e S K:=by kernel_rfl
theorem O3_17_split:O3_17=(((O3_17.drop 0).take 20)++(((O3_17.drop 20).take 20)++(((O3_17.drop 40).take 20)++((O3_17.drop 60).take 2)))):=by kernel_rfl
theorem O3_17_len0:(((O3_17.drop 0).take 20)).length=20:=by kernel_rfl
theorem O3_17_len1:(((O3_17.drop 20).take 20)).length=20:=by kernel_rfl
theorem O3_17_len2:(((O3_17.drop 40).take 20)).length=20:=by kernel_rfl
theorem Q3_17_ok{e:En}{S:Zt}{K:En→Zt→Prop}(h:TQ3_17_0 e S fun e S=>TQ3_17_1 e S fun e S=>TQ3_17_2 e S fun e S=>TQ3_17_3 e S K):runP cT (cW cT) (rW cT) 160 O3_17 false 0 O3_17 e S K:=by
 refine(congrArg (fun l=>runP cT (cW cT) (rW cT) 160 O3_17 false 0 l e S K) O3_17_split).mpr ?_
 simp only[runP_append,O3_17_len0,O3_17_len1,O3_17_len2,Nat.zero_add,Nat.reduceAdd]
 simp only[Q3_17_0_eq,Q3_17_1_eq,Q3_17_2_eq,Q3_17_3_eq]at h
 exact h
theorem Q3_19_0_eq{e:En}{S:Zt}{K:En→Zt→Prop}:TQ3_19_0 e S K=runP cT (cW cT) (rW cT) 160 O3_19 false 0 O3_19 e S K:=by kernel_rfl
theorem Q3_19_ok{e:En}{S:Zt}{K:En→Zt→Prop}(h:TQ3_19_0 e S K):runP cT (cW cT) (rW cT) 160 O3_19 false 0 O3_19 e S K:=Q3_19_0_eq.mp h
theorem Q3_20_0_eq{e:En}{S:Zt}{K:En→Zt→Prop}:TQ3_20_0 e S K=runP cT (cW cT) (rW cT) 160 O3_20 false 0 O3_20 e S K:=by kernel_rfl
theorem Q3_20_ok{e:En}{S:Zt}{K:En→Zt→Prop}(h:TQ3_20_0 e S K):runP cT (cW cT) (rW cT) 160 O3_20 false 0 O3_20 e S K:=Q3_20_0_eq.mp h
theorem Q3_21_0_eq{e:En}{S:Zt}{K:En→Zt→Prop}:TQ3_21_0 e S K=runP cT (cW cT) (rW cT) 160 O3_21 false 0 O3_21 e S K:=by kernel_rfl
theorem Q3_21_ok{e:En}{S:Zt}{K:En→Zt→Prop}(h:TQ3_21_0 e S K):runP cT (cW cT) (rW cT) 160 O3_21 false 0 O3_21 e S K:=Q3_21_0_eq.mp h
theorem Q3_22_0_eq{e:En}{S:Zt}{K:En→Zt→Prop}:TQ3_22_0 e S K=runP cT (cW cT) (rW cT) 160 O3_22 false 0 O3_22 e S K:=by kernel_rfl
theorem Q3_22_ok{e:En}{S:Zt}{K:En→Zt→Prop}(h:TQ3_22_0 e S K):runP cT (cW cT) (rW cT) 160 O3_22 false 0 O3_22 e S K:=Q3_22_0_eq.mp h
theorem Q3_23_0_eq{e:En}{S:Zt}{K:En→Zt→Prop}:TQ3_23_0 e S K=runP cT (cW cT) (rW cT) 160 O3_23 false 0 O3_23 e S K:=by kernel_rfl
theorem Q3_23_ok{e:En}{S:Zt}{K:En→Zt→Prop}(h:TQ3_23_0 e S K):runP cT (cW cT) (rW cT) 160 O3_23 false 0 O3_23 e S K:=Q3_23_0_eq.mp h
theorem Q3_24_0_eq{e:En}{S:Zt}{K:En→Zt→Prop}:TQ3_24_0 e S K=runP cT (cW cT) (rW cT) 160 O3_24 false 0 O3_24 e S K:=by kernel_rfl
theorem Q3_24_ok{e:En}{S:Zt}{K:En→Zt→Prop}(h:TQ3_24_0 e S K):runP cT (cW cT) (rW cT) 160 O3_24 false 0 O3_24 e S K:=Q3_24_0_eq.mp h
theorem Q3_25_0_eq{e:En}{S:Zt}{K:En→Zt→Prop}:TQ3_25_0 e S K=runP cT (cW cT) (rW cT) 160 O3_25 false 0 O3_25 e S K:=by kernel_rfl
theorem Q3_25_ok{e:En}{S:Zt}{K:En→Zt→Prop}(h:TQ3_25_0 e S K):runP cT (cW cT) (rW cT) 160 O3_25 false 0 O3_25 e S K:=Q3_25_0_eq.mp h
theorem F3_ok{x0 x1:SV}{S:Zt}{k:SV→Zt→Prop}(h:F3 (argE [x0,x1]) S k):wpO (bW cT 3 [x0,x1] S) (fun p=>k p.1 p.2):=bo (fn:=Tryz.f3) (by kernel_rfl) (by kernel_rfl) (Nat.le_of_ble_eq_true (by kernel_rfl)) ((show F3 (argE [x0,x1]) S k=wpC cT Tryz.f3.ntmps B3 (argE [x0,x1]) S (outP cT Tryz.f3 k)by kernel_rfl).mp h)
theorem L3_0_ok{e:En}{S:Zt}{k:X→En→Zt→Prop}(h:TL3_0 e S k):DenP cT 160 (.loop L3_0) e S k:=loopP_of ((show TL3_0 e S k=wpC cT 160 L3_0 e S (againP cT 160 L3_0 k)by kernel_rfl).mp h)
theorem L3_1_ok{e:En}{S:Zt}{k:X→En→Zt→Prop}(h:TL3_1 e S k):DenP cT 160 (.loop L3_1) e S k:=loopP_of ((show TL3_1 e S k=wpC cT 160 L3_1 e S (againP cT 160 L3_1 k)by kernel_rfl).mp h)
theorem K3_0e0_ok{e:En}{S:Zt}{k:SV→Zt→Prop}(h:TK3_0e0 e S k):K3_0 k (.exit 0) e S:=(show TK3_0e0 e S k=K3_0 k (.exit 0) e S by kernel_rfl).mp h
theorem K3_1e2_ok{e:En}{S:Zt}{k:X→En→Zt→Prop}(h:TK3_1e2 e S k):K3_1 k (.exit 2) e S:=(show TK3_1e2 e S k=K3_1 k (.exit 2) e S by kernel_rfl).mp h
end Go.Proofs
