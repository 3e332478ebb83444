/- Part 3 of what the row of the law PatchTurns rests on: walks of functions, and plain lemmas (in part printed by the kit's print, what is not reached left out). -/
import Derived.Test.YtadafplbgophfaaGreatDoorpatchTurns2
import Derived.Outline
set_option linter.unusedVariables false
set_option linter.unusedSimpArgs false
section
namespace Go.Proofs.YtadafplbgophfaaGreatDoor.PA
open Go.RowKit Go.Proofs.YtadafplbgophfaaGreatDoorW.PrintWords Go.Proofs.YtadafplbgophfaaGreatDoorW.PrintLast Go.Proofs.YtadafplbgophfaaGreatDoorW.PrintMore
attribute [local go_sem] Xv Xx Yl Ym Xo Xp Xw Xy
def Qi.l0 : Nat → List (S48) → List (S48) → Int → Option ((List (S48)))
 | 0, _, _, _ => none
 | k + 1, x0, x3, x4 => if x4 < (x0.length : Int) then (if 0 ≤ x4 then (if ((Qt x0 x4).f0) = 1 then (if (wrap64 (x4 + 1)) < (x0.length : Int) then (if 0 ≤ (wrap64 (x4 + 1)) then (if ((Qt x0 (wrap64 (x4 + 1))).f0) = 2 then ((some (([(⟨1, (Qt x0 (wrap64 (x4 + 1))).f1⟩ : S48), (⟨2, (Qt x0 x4).f1⟩ : S48)] : List (S48)) : List (S48))).bind fun b2 => (if x3.length + b2.length < 4398046511104 then (Qi.l0 k x0 (x3 ++ b2) (wrap64 ((wrap64 (x4 + 1)) + 1))) else (none))) else ((some (([0, 2, 1] : List Int) : List Int)).bind fun a7 => (if 0 ≤ ((Qt x0 x4).f0) then (if ((Qt x0 x4).f0) < (a7.length : Int) then (if x3.length < 4398046511104 then (Qi.l0 k x0 (x3 ++ [(⟨rd a7 ((Qt x0 x4).f0), (Qt x0 x4).f1⟩ : S48)]) (wrap64 (x4 + 1))) else (none)) else (none)) else (none)))) else (none)) else ((some (([0, 2, 1] : List Int) : List Int)).bind fun a8 => (if 0 ≤ ((Qt x0 x4).f0) then (if ((Qt x0 x4).f0) < (a8.length : Int) then (if x3.length < 4398046511104 then (Qi.l0 k x0 (x3 ++ [(⟨rd a8 ((Qt x0 x4).f0), (Qt x0 x4).f1⟩ : S48)]) (wrap64 (x4 + 1))) else (none)) else (none)) else (none)))) else ((some (([0, 2, 1] : List Int) : List Int)).bind fun a9 => (if 0 ≤ ((Qt x0 x4).f0) then (if ((Qt x0 x4).f0) < (a9.length : Int) then (if x3.length < 4398046511104 then (Qi.l0 k x0 (x3 ++ [(⟨rd a9 ((Qt x0 x4).f0), (Qt x0 x4).f1⟩ : S48)]) (wrap64 (x4 + 1))) else (none)) else (none)) else (none)))) else (none)) else (some x3)
def Qi.f (k : Nat) (l0 : List (S48)) : Option ((List (S48))) := Qi.l0 k l0 ([] : List (S48)) 0
def Qi.T6 : Bool × List (List Nat × List Nat) := (true, [([], []), ([], []), ([], []), ([2], [2]), ([1, 3], [1, 3]), ([4], [4]), ([5], [5]), ([6], [6]), ([], []), ([], []), ([8, 9], [8, 9]), ([10], [10]), ([11], [11]), ([12], [12]), ([7, 13], [7, 13]), ([0, 14], [0, 14]), ([15, 15, 0, 1, 2, 3, 4, 5, 6, 7, 8, 9, 10, 11, 12, 13, 14, 15], [0, 15])])
def Qi.B6 : List Nat := [0, 0, 0, 4, 14, 30, 62, 126, 0, 0, 768, 1792, 3840, 7936, 16382, 32767, 65535]
theorem Qi.tab6 : Yu .any (Jj Tryz.f8 6) = Qi.T6 := by kernel_rfl
theorem Qi.bits6 : Ys Qi.T6.2 Qi.B6 = true := by kernel_rfl
def Qi.T8 : Bool × List (List Nat × List Nat) := (true, [([], []), ([], []), ([], []), ([], []), ([2, 3], [2, 3]), ([4], [4]), ([5], [5]), ([1, 6], [1, 6]), ([7], [7]), ([], []), ([], []), ([9, 10], [9, 10]), ([11], [11]), ([12], [12]), ([8, 13], [8, 13]), ([14], [14]), ([0, 15], [0, 15]), ([16, 16, 0, 1, 2, 3, 4, 5, 6, 7, 8, 9, 10, 11, 12, 13, 14, 15, 16], [0, 16])])
def Qi.B8 : List Nat := [0, 0, 0, 0, 12, 28, 60, 126, 254, 0, 0, 1536, 3584, 7680, 16382, 32766, 65535, 131071]
theorem Qi.tab8 : Yu .any (Jj Tryz.f8 8) = Qi.T8 := by kernel_rfl
theorem Qi.bits8 : Ys Qi.T8.2 Qi.B8 = true := by kernel_rfl
set_option maxHeartbeats 8000000 in
set_option maxRecDepth 100000 in
theorem Qi.calls (k : Nat) (P0_ : Nat → Prop) (A0 : Option Addr) (c0 : Nat) (l0 : List (S48)) (r : List (S48)) (w : World) (hs0 : Kd.V k48 48 w w.heap.size (fun k_ => P0_ k_) (.slice A0 l0.length c0) l0) (h : Qi.f k l0 = some r) :
  Calls Tryz.prog 8 #[.slice A0 l0.length c0] w fun e w' => ∃ v0_ : Value, e = .returned (v0_) ∧ Kd.N k48 48 w' w.heap.size (fun k_ => (P0_ k_ ∨ w.heap.size ≤ k_)) v0_ r ∧ Below w.heap.size w w' := by
 have hu48 := Tryz.underlying48; have HO0 := Qa.mk (show Kd.V k48 48 w w.heap.size (fun k_ => (P0_ k_ ∨ w.heap.size ≤ k_)) (.slice A0 l0.length c0) l0 from Kd.V_mono hs0 (fun k_ hk => .inl hk)); have HB := Qa.mk (Below.refl w.heap.size w); have H : (Qi.l0 k l0 ([] : List (S48)) 0) = some r := h; clear h; have H' := Qa.mk H; clear H
 go_enter Tryz.func8, Tryz.ntmps8
 go_wp2
 go_loopg [3, 4] k (fun kq v3 v4 w' => ∃ (a6 : List (S48)) (a0 : Int), v4 = .int .i64 a0 ∧ Qa (Qi.l0 kq l0 a6 a0 = some r) ∧ Qa (kq ≤ k) ∧ Qa (Kd.V k48 48 w' w.heap.size (fun k_ => (P0_ k_ ∨ w.heap.size ≤ k_) ∧ some k_ ≠ (v3 : Value).ownBlock) (.slice A0 l0.length c0) l0) ∧ Qa (Kd.N k48 48 w' w.heap.size (fun k_ => (P0_ k_ ∨ w.heap.size ≤ k_)) v3 a6) ∧ Qa (Below w.heap.size w w'))
 case atStart => exact ⟨(([] : List (S48))), (0), (by first | rfl | (simp; done) | (simp [*]; done)), H', ⟨Nat.le_refl _⟩, ⟨by (with_reducible repeat (first | apply Kd.V_alloc | apply Kd.V_drewN | apply Kd.V_drew)); exact Kd.V_mono HO0.out (fun _ hk => ⟨hk, (by simp [Value.ownBlock])⟩)⟩, ⟨by first | exact Kd.S_nil _ _ _ _ _ | exact Kd.N_nil _ _ _ _ _ | exact Kd.V_nil _ _ _ _ _ | exact Kd.Q_nil _ _ _ _ _ | exact Kd.R_nil _ _ _ _ _⟩, ⟨by repeat (first | (with_reducible first | exact HB.out | apply Qc | apply Qb | apply Qd) | exact HB.out)⟩⟩
 case round =>
  clear H'; obtain ⟨a6, a0, rfl, HA, HK1, a1, a4, HB⟩ := hrel
  cases gk with
  | zero => exact absurd HA.out (by simp [Qi.l0])
  | succ k1 =>
   have H := HA.out; clear HA
   simp only [Qi.l0] at H
   by_cases c2 : a0 < (l0.length : Int)
   ·rw [if_pos c2] at H
    have p3 : decide (a0 < (l0.length : Int)) = true := decide_eq_true c2; clear c2
    by_cases c3 : 0 ≤ a0
    ·rw [if_pos c3] at H
     have u1 : decide (0 ≤ a0) = true := decide_eq_true c3; clear c3
     by_cases c4 : ((Qt l0 a0).f0) = 1
     ·rw [if_pos c4] at H
      have p4 : (((Qt l0 a0).f0) == 1) = true := beq_iff_eq.mpr c4; have p5 : (((Qt l0 a0).f0) != 1) = false := bne_eq_false_iff_eq.mpr c4; clear c4
      by_cases c5 : (wrap64 (a0 + 1)) < (l0.length : Int)
      ·rw [if_pos c5] at H
       have m2 : decide ((wrap64 (a0 + 1)) < (l0.length : Int)) = true := decide_eq_true c5; clear c5; obtain ⟨ji6, f7⟩ : ∃ j_ : Int, (wrap64 (a0 + 1)) = j_ := ⟨_, rfl⟩
       replace H : (if 0 ≤ (ji6) then (if ((Qt l0 (ji6)).f0) = 2 then ((some (([(⟨1, (Qt l0 (ji6)).f1⟩ : S48), (⟨2, (Qt l0 a0).f1⟩ : S48)] : List (S48)) : List (S48))).bind fun b2 => (if a6.length + b2.length < 4398046511104 then (Qi.l0 k1 l0 (a6 ++ b2) (wrap64 ((ji6) + 1))) else (none))) else ((some (([0, 2, 1] : List Int) : List Int)).bind fun a7 => (if 0 ≤ ((Qt l0 a0).f0) then (if ((Qt l0 a0).f0) < (a7.length : Int) then (if a6.length < 4398046511104 then (Qi.l0 k1 l0 (a6 ++ [(⟨rd a7 ((Qt l0 a0).f0), (Qt l0 a0).f1⟩ : S48)]) ji6) else (none)) else (none)) else (none)))) else (none)) = some r := by first | (rw [f7] at H; exact H) | (simp only [f7] at H ⊢; exact H)
       (try rw [f7] at m2)
       have t4 : (IntKind.i64.wrap (a0 + 1)) = ji6 := (Qp _).trans f7
       by_cases c7 : 0 ≤ (ji6)
       ·rw [if_pos c7] at H
        have u2 : decide (0 ≤ (ji6)) = true := decide_eq_true c7; clear c7
        by_cases c8 : ((Qt l0 (ji6)).f0) = 2
        ·rw [if_pos c8] at H
         have p6 : (((Qt l0 (ji6)).f0) == 2) = true := beq_iff_eq.mpr c8; have p7 : (((Qt l0 (ji6)).f0) != 2) = false := bne_eq_false_iff_eq.mpr c8; clear c8; obtain ⟨b2, e6⟩ : ∃ y_ : List (S48), y_ = (([(⟨1, (Qt l0 (ji6)).f1⟩ : S48), (⟨2, (Qt l0 a0).f1⟩ : S48)] : List (S48))) := ⟨_, rfl⟩
         replace H : (if a6.length + b2.length < 4398046511104 then (Qi.l0 k1 l0 (a6 ++ b2) (wrap64 ((ji6) + 1))) else (none)) = some r := by first | (rw [e6]; with_reducible exact H) | (have H2_ := (Option.bind_some _ _).symm.trans H; rw [e6]; with_reducible exact H2_) | (have H2_ := (Option.bind_some _ _).symm.trans H; with_reducible exact H2_) | with_reducible exact H | (rw [e6]; exact H) | exact H
         have l6 := Qa.mk e6; clear e6
         by_cases c9 : a6.length + b2.length < 4398046511104
         ·rw [if_pos c9] at H
          have p8 := Qa.mk c9; clear c9; obtain ⟨m3, e7⟩ : ∃ y_ : List (S48), y_ = (a6 ++ b2) := ⟨_, rfl⟩
          replace H : (Qi.l0 k1 l0 m3 (wrap64 ((ji6) + 1))) = some r := by first | (rw [e7]; with_reducible exact H) | (have H2_ := (Option.bind_some _ _).symm.trans H; rw [e7]; with_reducible exact H2_) | (have H2_ := (Option.bind_some _ _).symm.trans H; with_reducible exact H2_) | with_reducible exact H | (rw [e7]; exact H) | exact H
          have m9 := Qa.mk e7; clear e7; have H' := Qa.mk H; clear H; have b0 : 0 ≤ (a0 : Int) := of_decide_eq_true (by first | (with_reducible assumption) | assumption); have b1 : a0 < (l0.length : Int) := of_decide_eq_true (by first | (with_reducible assumption) | assumption); obtain ⟨a3, g4, g5, e5, f9, b3, hl101_1, hi101_1⟩ := Vs (Kd.V_reads' a1.out).2.2 a0 b0 b1
          cases e5; obtain ⟨ce101, hce101, hMe101, hcc101⟩ := Kd.V_get a1.out z48 a0 b0 (by first | exact b1 | exact of_decide_eq_true (by first | (with_reducible assumption) | assumption) | (have e_ := (Kd.V_reads' a1.out).1; omega)); obtain ⟨ua101_1, uc101_1, rfl, ul101_1, ge101_1⟩ := Yh hMe101; have hv101_1 := hcc101 1 _ rfl
          rw [Xf _ _ 1 (by omega)] at hv101_1
          replace hv101_1 := Option.some.inj (hv101_1.symm.trans b3)
          injection hv101_1 with hva_ hvn_ hvc_
          rw [hva_] at ge101_1
          rw [hvc_] at ul101_1
          have HL101_1 := Qa.mk (show Kd.V Kd.string 9 _ w.heap.size _ _ ((Qt l0 a0).f1) from Kd.V_mk ul101_1 ge101_1); clear hva_ hvn_ hvc_ ge101_1 ul101_1; clear hcc101 hce101; have a2 := Qa.mk hi101_1; have g0 := Qa.mk hl101_1; clear hi101_1 hl101_1; replace b0 := eq_true b0; replace b1 := eq_true b1; have d1 : 0 ≤ ((ji6) : Int) := of_decide_eq_true (by first | (with_reducible assumption) | assumption); have d2 : (ji6) < (l0.length : Int) := of_decide_eq_true (by first | (with_reducible assumption) | assumption); obtain ⟨i9, m4, m5, l5, l7, g1, hl102_1, hi102_1⟩ := Vs (Kd.V_reads' a1.out).2.2 (ji6) d1 d2; obtain rfl : a3 = i9 := (by injection l5); obtain ⟨ce102, hce102, hMe102, hcc102⟩ := Kd.V_get a1.out z48 (ji6) d1 (by first | exact d2 | exact of_decide_eq_true (by first | (with_reducible assumption) | assumption) | (have e_ := (Kd.V_reads' a1.out).1; omega)); obtain ⟨ua102_1, uc102_1, rfl, ul102_1, ge102_1⟩ := Yh hMe102; have hv102_1 := hcc102 1 _ rfl
          rw [Xf _ _ 1 (by omega)] at hv102_1
          replace hv102_1 := Option.some.inj (hv102_1.symm.trans g1)
          injection hv102_1 with hva_ hvn_ hvc_
          rw [hva_] at ge102_1
          rw [hvc_] at ul102_1
          have HL102_1 := Qa.mk (show Kd.V Kd.string 9 _ w.heap.size _ _ ((Qt l0 (ji6)).f1) from Kd.V_mk ul102_1 ge102_1); clear hva_ hvn_ hvc_ ge102_1 ul102_1; clear hcc102 hce102; have a5 := Qa.mk hi102_1; have l8 := Qa.mk hl102_1; clear hi102_1 hl102_1; replace d1 := eq_true d1; replace d2 := eq_true d2
          try go_wp2
          have n0_ := Qa.mk (Kd.V_drew a1.out); have n1_ := Qa.mk (Kd.N_drew a4.out); have n2_ := Qa.mk (Kd.V_drew HL101_1.out); have n3_ := Qa.mk (Kd.V_drew HL102_1.out); have n4_ := Qa.mk (Kd.C_drew a2.out); have n5_ := Qa.mk (Kd.C_drew a5.out); have n6_ := Qa.mk (Qd HB.out); clear a1; clear a4; clear HL101_1; clear HL102_1; clear a2; clear a5; clear HB; have a1 := n0_; have a4 := n1_; have HL101_1 := n2_; have HL102_1 := n3_; have a2 := n4_; have a5 := n5_; have HB := n6_; clear n0_ n1_ n2_ n3_ n4_ n5_ n6_; have j0 : 0 ≤ ((ji6) : Int) := of_decide_eq_true (by first | (with_reducible assumption) | assumption); have j2 : (ji6) < (l0.length : Int) := of_decide_eq_true (by first | (with_reducible assumption) | assumption); obtain ⟨n0, g6, g7, p9, i1, g2, hl103_1, hi103_1⟩ := Vs (Kd.V_reads' a1.out).2.2 (ji6) j0 j2; obtain rfl : a3 = n0 := (by injection p9); obtain ⟨ce103, hce103, hMe103, hcc103⟩ := Kd.V_get a1.out z48 (ji6) j0 (by first | exact j2 | exact of_decide_eq_true (by first | (with_reducible assumption) | assumption) | (have e_ := (Kd.V_reads' a1.out).1; omega)); obtain ⟨ua103_1, uc103_1, rfl, ul103_1, ge103_1⟩ := Yh hMe103; have hv103_1 := hcc103 1 _ rfl
          rw [Xf _ _ 1 (by omega)] at hv103_1
          replace hv103_1 := Option.some.inj (hv103_1.symm.trans g2)
          injection hv103_1 with hva_ hvn_ hvc_
          rw [hva_] at ge103_1
          rw [hvc_] at ul103_1
          have HL103_1 := Qa.mk (show Kd.V Kd.string 9 _ w.heap.size _ _ ((Qt l0 (ji6)).f1) from Kd.V_mk ul103_1 ge103_1); clear hva_ hvn_ hvc_ ge103_1 ul103_1; clear hcc103 hce103; have b4 := Qa.mk hi103_1; have r6 := Qa.mk hl103_1; clear hi103_1 hl103_1; replace j0 := eq_true j0; replace j2 := eq_true j2; have j3 : 0 ≤ (a0 : Int) := of_decide_eq_true (by first | (with_reducible assumption) | assumption); have j4 : a0 < (l0.length : Int) := of_decide_eq_true (by first | (with_reducible assumption) | assumption); obtain ⟨n1, g8, g9, q0, i2, g3, hl104_1, hi104_1⟩ := Vs (Kd.V_reads' a1.out).2.2 a0 j3 j4; obtain rfl : a3 = n1 := (by injection q0); obtain ⟨ce104, hce104, hMe104, hcc104⟩ := Kd.V_get a1.out z48 a0 j3 (by first | exact j4 | exact of_decide_eq_true (by first | (with_reducible assumption) | assumption) | (have e_ := (Kd.V_reads' a1.out).1; omega)); obtain ⟨ua104_1, uc104_1, rfl, ul104_1, ge104_1⟩ := Yh hMe104; have hv104_1 := hcc104 1 _ rfl
          rw [Xf _ _ 1 (by omega)] at hv104_1
          replace hv104_1 := Option.some.inj (hv104_1.symm.trans g3)
          injection hv104_1 with hva_ hvn_ hvc_
          rw [hva_] at ge104_1
          rw [hvc_] at ul104_1
          have HL104_1 := Qa.mk (show Kd.V Kd.string 9 _ w.heap.size _ _ ((Qt l0 a0).f1) from Kd.V_mk ul104_1 ge104_1); clear hva_ hvn_ hvc_ ge104_1 ul104_1; clear hcc104 hce104; have b5 := Qa.mk hi104_1; have r7 := Qa.mk hl104_1; clear hi104_1 hl104_1; replace j3 := eq_true j3; replace j4 := eq_true j4; refine Vo (n := 17) (S := fun w' => w'.cell? (a3.add (((ji6)).toNat * 2)) = some (.int .i64 ((Qt l0 (ji6)).f0)) ∧ w'.cell? ⟨(a3.add (((ji6)).toNat * 2)).block, (a3.add (((ji6)).toNat * 2)).off + 1, none⟩ = some (.slice g6 ((Qt l0 (ji6)).f1).length g7) ∧ w'.cell? (a3.add ((a0).toNat * 2)) = some (.int .i64 ((Qt l0 a0).f0)) ∧ w'.cell? ⟨(a3.add ((a0).toNat * 2)).block, (a3.add ((a0).toNat * 2)).off + 1, none⟩ = some (.slice g8 ((Qt l0 a0).f1).length g9)) (ds := [15]) (bz_ 17 0) (by kernel_rfl) rfl rfl ⟨i1, g2, i2, g3⟩ (fun hHeld => ?_); refine Yd Qi.tab6 Qi.bits6 (fun HT_ HW_ => ?_)
          generalize wr.drew = w10 at a1 a4 HL101_1 HL102_1 a2 a5 HB HL103_1 HL104_1 b4 b5 i1 g2 i2 g3 hHeld ⊢
          refine Qx (i := 0) (N := some 33) (v := ?_) (a' := ?_) (bz_ 17 1) rfl rfl (Qs HT_.out (by kernel_rfl)) (fun _ _ _ h => h) (Or.inl ⟨by rfl, ?_⟩) ?_ ?_; rotate_left
          ·intro w'
           go_simp
           with_reducible rfl
          rotate_left
          ·simp only [Act.put, sA_, sB_, sC_, Qp, Qr]
           rfl
          refine Qx (i := 1) (N := some 34) (v := ?_) (a' := ?_) (bz_ 17 3) rfl rfl (Qs HT_.out (by kernel_rfl)) (fun _ _ _ h => h) (Or.inl ⟨by rfl, ?_⟩) ?_ ?_; rotate_left
          ·intro w'
           go_simp
           with_reducible rfl
          rotate_left
          ·simp only [Act.put, sA_, sB_, sC_, Qp, Qr]
           rfl
          refine Qx (i := 2) (N := some 35) (v := ?_) (a' := ?_) (bz_ 17 7) rfl rfl (Qs HT_.out (by kernel_rfl)) (fun _ _ _ h => h) (Or.inl ⟨by rfl, ?_⟩) ?_ ?_; rotate_left
          ·intro w'
           go_simp
           with_reducible rfl
          rotate_left
          ·simp only [Act.put, sA_, sB_, sC_, Qp, Qr]
           rfl
          refine Qx (i := 3) (N := some 36) (v := ?_) (a' := ?_) (bz_ 17 15) rfl rfl (Qs HT_.out (by kernel_rfl)) (fun _ _ _ h => h) (Or.inl ⟨by rfl, ?_⟩) ?_ ?_; rotate_left
          ·intro w'
           go_simp
           with_reducible rfl
          rotate_left
          ·simp only [Act.put, sA_, sB_, sC_, Qp, Qr]
           rfl
          refine Qx (i := 4) (N := some 37) (v := ?_) (a' := ?_) (bz_ 17 31) rfl rfl (Qs HT_.out (by kernel_rfl)) (fun _ _ _ h => h) (Or.inl ⟨by rfl, ?_⟩) ?_ ?_; rotate_left
          ·intro w'
           go_simp
           with_reducible rfl
          rotate_left
          ·simp only [Act.put, sA_, sB_, sC_, Qp, Qr]
           rfl
          refine Qx (i := 5) (N := some 38) (v := ?_) (a' := ?_) (bz_ 17 63) rfl rfl (Qs HT_.out (by kernel_rfl)) (fun _ _ _ h => h) (Or.inl ⟨by rfl, ?_⟩) ?_ ?_; rotate_left
          ·intro w'
           go_simp
           with_reducible rfl
          rotate_left
          ·simp only [Act.put, sA_, sB_, sC_, Qp, Qr]
           rfl
          refine Qx (i := 8) (N := some 41) (v := ?_) (a' := ?_) (bz_ 17 319) rfl rfl (Qs HT_.out (by kernel_rfl)) (fun _ _ _ h => h) (Or.inl ⟨by rfl, ?_⟩) ?_ ?_; rotate_left
          ·intro w'
           go_simp
           with_reducible rfl
          rotate_left
          ·simp only [Act.put, sA_, sB_, sC_, Qp, Qr]
           rfl
          refine Qx (i := 9) (N := some 42) (v := ?_) (a' := ?_) (bz_ 17 831) rfl rfl (Qs HT_.out (by kernel_rfl)) (fun _ _ _ h => h) (Or.inl ⟨by rfl, ?_⟩) ?_ ?_; rotate_left
          ·intro w'
           go_simp
           with_reducible rfl
          rotate_left
          ·simp only [Act.put, sA_, sB_, sC_, Qp, Qr]
           rfl
          refine Qx (i := 10) (N := some 43) (v := ?_) (a' := ?_) (bz_ 17 1855) rfl rfl (Qs HT_.out (by kernel_rfl)) (fun _ _ _ h => h) (Or.inl ⟨by rfl, ?_⟩) ?_ ?_; rotate_left
          ·intro w'
           go_simp
           with_reducible rfl
          rotate_left
          ·simp only [Act.put, sA_, sB_, sC_, Qp, Qr]
           rfl
          refine Qx (i := 11) (N := some 44) (v := ?_) (a' := ?_) (bz_ 17 3903) rfl rfl (Qs HT_.out (by kernel_rfl)) (fun _ _ _ h => h) (Or.inl ⟨by rfl, ?_⟩) ?_ ?_; rotate_left
          ·intro w'
           go_simp
           with_reducible rfl
          rotate_left
          ·simp only [Act.put, sA_, sB_, sC_, Qp, Qr]
           rfl
          refine take_ (i := 6) (N := some 39) (v := ?_) (a' := ?_) (bz_ 17 3967) rfl rfl (Xb HT_.out HW_.out (by kernel_rfl)) (fun _ _ _ h => h) (Or.inl ⟨by rfl, ?_⟩) hHeld ?_ ?_; rotate_left
          ·rintro w' ⟨s0, s1, s2, s3⟩
           go_simp
           with_reducible rfl
          rotate_left
          ·simp only [Act.put, sA_, sB_, sC_, Qp, Qr]
           rfl
          refine Qx (i := 7) (N := some 40) (v := ?_) (a' := ?_) (bz_ 17 4095) rfl rfl (Qs HT_.out (by kernel_rfl)) (fun _ _ _ h => h) (Or.inl ⟨by rfl, ?_⟩) ?_ ?_; rotate_left
          ·intro w'
           go_simp
           with_reducible rfl
          rotate_left
          ·simp only [Act.put, sA_, sB_, sC_, Qp, Qr]
           rfl
          refine take_ (i := 12) (N := some 45) (v := ?_) (a' := ?_) (bz_ 17 8191) rfl rfl (Xb HT_.out HW_.out (by kernel_rfl)) (fun _ _ _ h => h) (Or.inl ⟨by rfl, ?_⟩) hHeld ?_ ?_; rotate_left
          ·rintro w' ⟨s0, s1, s2, s3⟩
           go_simp
           with_reducible rfl
          rotate_left
          ·simp only [Act.put, sA_, sB_, sC_, Qp, Qr]
           rfl
          refine Qx (i := 13) (N := some 46) (v := ?_) (a' := ?_) (bz_ 17 16383) rfl rfl (Qs HT_.out (by kernel_rfl)) (fun _ _ _ h => h) (Or.inl ⟨by rfl, ?_⟩) ?_ ?_; rotate_left
          ·intro w'
           go_simp
           with_reducible rfl
          rotate_left
          ·simp only [Act.put, sA_, sB_, sC_, Qp, Qr]
           rfl
          refine Jx (i := 14) (N := some 47) (bz_ 17 32767) rfl rfl (Ye HT_.out (by kernel_rfl)) (by decide) (fun K hK => ?_); refine Kd.N_lit_step k48 _ 48 ?hg (N' := 47) ?hd (xs := ([(⟨1, (Qt l0 (ji6)).f1⟩ : S48), (⟨2, (Qt l0 a0).f1⟩ : S48)] : List (S48))) (inner := [.int .i64 1, .slice g6 ((Qt l0 (ji6)).f1).length g7, .int .i64 2, .slice g8 ((Qt l0 a0).f1).length g9]) (ok := (fun k_ => (P0_ k_ ∨ w.heap.size ≤ k_) ∧ some k_ ≠ (u3 : Value).ownBlock)) (okp := (fun k_ => (P0_ k_ ∨ w.heap.size ≤ k_) ∧ some k_ ≠ (u3 : Value).ownBlock)) ?hr ?hp (fun _ hk => hk) ((show ∀ k_, w10.heap.size ≤ k_ → (fun k_ => (P0_ k_ ∨ w.heap.size ≤ k_) ∧ some k_ ≠ (u3 : Value).ownBlock) k_ from fun k_ hk => ⟨(.inr (Nat.le_trans (Qh (by repeat (first | (with_reducible first | exact HB.out | apply Qc | apply Qb | apply Qd) | exact HB.out))) hk)), Kd.fresh' (Kd.N_lt (by (with_reducible repeat (first | apply Kd.N_alloc | apply Kd.N_drewN | apply Kd.N_drew)); exact a4.out)) k_ hk⟩) _ (Nat.le_refl _)) (Below.refl _ _) (Nat.le_refl _) (by simp) ?_; (case hd => rfl); (case hg => rfl); (case hr => first | (go_simp; done) | (go_simp; rfl)); (case hp => exact (Zz.c2 (show Kd.FK k48 _ _ (⟨1, (Qt l0 (ji6)).f1⟩ : S48) [.int .i64 1, .slice g6 ((Qt l0 (ji6)).f1).length g7] from (Jg _ _ (⟨1, (Qt l0 (ji6)).f1⟩ : S48) (Kd.V_reads' (Kd.V_mono (ok' := (fun k_ => (P0_ k_ ∨ w.heap.size ≤ k_) ∧ some k_ ≠ (u3 : Value).ownBlock)) (HL103_1.out) (fun k_ hk => ⟨hk.1, hk.2⟩))).2.1 (Kd.V_F (Kd.V_mono (ok' := (fun k_ => (P0_ k_ ∨ w.heap.size ≤ k_) ∧ some k_ ≠ (u3 : Value).ownBlock)) (HL103_1.out) (fun k_ hk => ⟨hk.1, hk.2⟩))))) (Zz.c2 (show Kd.FK k48 _ _ (⟨2, (Qt l0 a0).f1⟩ : S48) [.int .i64 2, .slice g8 ((Qt l0 a0).f1).length g9] from (Jg _ _ (⟨2, (Qt l0 a0).f1⟩ : S48) (Kd.V_reads' (Kd.V_mono (ok' := (fun k_ => (P0_ k_ ∨ w.heap.size ≤ k_) ∧ some k_ ≠ (u3 : Value).ownBlock)) (HL104_1.out) (fun k_ hk => ⟨hk.1, hk.2⟩))).2.1 (Kd.V_F (Kd.V_mono (ok' := (fun k_ => (P0_ k_ ∨ w.heap.size ≤ k_) ∧ some k_ ≠ (u3 : Value).ownBlock)) (HL104_1.out) (fun k_ hk => ⟨hk.1, hk.2⟩))))) (Zz.none _ _)))); intro u4 w11 ho12 hb hg_ hnew_; have HS0_ := (hb.cell (World.block_lt_of_cell? _ _ (hHeld.1))).trans (hHeld.1); have HS1_ := (hb.cell (World.block_lt_of_cell? _ _ (hHeld.2.1))).trans (hHeld.2.1); have HS2_ := (hb.cell (World.block_lt_of_cell? _ _ (hHeld.2.2.1))).trans (hHeld.2.2.1); have HS3_ := (hb.cell (World.block_lt_of_cell? _ _ (hHeld.2.2.2))).trans (hHeld.2.2.2); clear hg_ hnew_
          (first | rw [← l6.out] at ho12 | (simp only [Int.reduceToNat] at ho12; rw [← l6.out] at ho12))
          have n0_ := Qa.mk (Kd.V_elder' (by (with_reducible repeat (first | apply Kd.V_alloc | apply Kd.V_drewN | apply Kd.V_drew)); exact a1.out) (Kd.N_base ho12) hb); have n1_ := Qa.mk (Kd.N_elder' (by (with_reducible repeat (first | apply Kd.N_alloc | apply Kd.N_drewN | apply Kd.N_drew)); exact a4.out) (Kd.N_base ho12) hb); have n2_ := Qa.mk (Kd.V_elder' (by (with_reducible repeat (first | apply Kd.V_alloc | apply Kd.V_drewN | apply Kd.V_drew)); exact HL101_1.out) (Kd.N_base ho12) hb); have n3_ := Qa.mk (Kd.V_elder' (by (with_reducible repeat (first | apply Kd.V_alloc | apply Kd.V_drewN | apply Kd.V_drew)); exact HL102_1.out) (Kd.N_base ho12) hb); have n4_ := Qa.mk (Kd.V_elder' (by (with_reducible repeat (first | apply Kd.V_alloc | apply Kd.V_drewN | apply Kd.V_drew)); exact HL103_1.out) (Kd.N_base ho12) hb); have n5_ := Qa.mk (Kd.V_elder' (by (with_reducible repeat (first | apply Kd.V_alloc | apply Kd.V_drewN | apply Kd.V_drew)); exact HL104_1.out) (Kd.N_base ho12) hb); have n6_ := Qa.mk (Kd.N_lower ho12 (Qh (by repeat (first | (with_reducible first | exact HB.out | apply Qc | apply Qb | apply Qd) | exact HB.out)))); have n7_ := Qa.mk (Kd.C_below (by repeat (first | (with_reducible exact a2.out) | (with_reducible refine Kd.C_alloc ?_ _) | (with_reducible refine Kd.C_drewN ?_ _) | (with_reducible refine Kd.C_drew ?_) | exact a2.out)) hb); have n8_ := Qa.mk (Kd.C_below (by repeat (first | (with_reducible exact a5.out) | (with_reducible refine Kd.C_alloc ?_ _) | (with_reducible refine Kd.C_drewN ?_ _) | (with_reducible refine Kd.C_drew ?_) | exact a5.out)) hb); have n9_ := Qa.mk (Kd.C_below (by repeat (first | (with_reducible exact b4.out) | (with_reducible refine Kd.C_alloc ?_ _) | (with_reducible refine Kd.C_drewN ?_ _) | (with_reducible refine Kd.C_drew ?_) | exact b4.out)) hb); have h0 := Qa.mk (Kd.C_below (by repeat (first | (with_reducible exact b5.out) | (with_reducible refine Kd.C_alloc ?_ _) | (with_reducible refine Kd.C_drewN ?_ _) | (with_reducible refine Kd.C_drew ?_) | exact b5.out)) hb); have h2 := Qa.mk (Qk (by repeat (first | (with_reducible first | exact HB.out | apply Qc | apply Qb | apply Qd) | exact HB.out)) hb); clear a1; clear a4; clear HL101_1; clear HL102_1; clear HL103_1; clear HL104_1; clear a2; clear a5; clear b4; clear b5; clear HB; have a1 := n0_; have a4 := n1_; have HL101_1 := n2_; have HL102_1 := n3_; have HL103_1 := n4_; have HL104_1 := n5_; have e8 := n6_; have a2 := n7_; have a5 := n8_; have b4 := n9_; have b5 := h0; have HB := h2; clear n0_ n1_ n2_ n3_ n4_ n5_ n6_ n7_ n8_ n9_ h0 h2; clear hb ho12; obtain ⟨h3, h4, eo14⟩ := Kd.N_slice e8.out
          (first | subst eo14 | (injection eo14 with f1_ f2_ f3_; have f4_ := f1_.symm; have f5_ := f3_.symm; clear f1_ f2_ f3_; subst f4_; subst f5_))
          refine hK.out _ _ ⟨HS0_, HS1_, HS2_, HS3_⟩ (fun hHeld => ?_); clear hK K; refine Vn (a' := ?_) ?_ ?_; rotate_left
          ·show Act.put _ (some 47) _ = _
           simp only [Act.put, sA_, sB_, sC_, Qp, Qr]; rfl
          refine Km (i := 15) (N := some 48) (bz_ 17 65535) rfl rfl (Ye HT_.out (by kernel_rfl)) (by decide) (fun K hK => ?_); refine Kd.N_append_rows_step k48 (w0 := w) w.heap.size (by rfl) (.tmp 33) (.tmp 47) 28 48 (.agg #[(.int .i64 0), (.slice none 0 0)]) 32 rfl Tryz.underlying28 Qak rfl (by decide) (by omega) u3 a6 b2 _ _ _ (fun k_ => (P0_ k_ ∨ w.heap.size ≤ k_)) (fun k_ => ((fun k_ => (P0_ k_ ∨ w.heap.size ≤ k_))) k_ ∧ some k_ ≠ (u3 : Value).ownBlock) rfl rfl ?aO ?aR (fun _ hk => hk) ?aF ?aB ?aS ?aL ?_
          (case aR => exact (by skip; exact Kd.N_F (Kd.N_mono (ok' := (fun k_ => ((fun k_ => (P0_ k_ ∨ w.heap.size ≤ k_))) k_ ∧ some k_ ≠ (u3 : Value).ownBlock)) (e8.out) (fun k_ hk => ⟨hk.1, hk.2⟩))))
          (case aB => exact (by repeat (first | (with_reducible first | exact HB.out | apply Qc | apply Qb | apply Qd) | exact HB.out)))
          (case aF => exact (fun k_ hk => (.inr (Nat.le_trans (Qh (by repeat (first | (with_reducible first | exact HB.out | apply Qc | apply Qb | apply Qd) | exact HB.out))) hk))))
          (case aO => exact (by (with_reducible repeat (first | apply Kd.N_alloc | apply Kd.N_drewN | apply Kd.N_drew)); exact Kd.N_mono a4.out (fun _ hk => hk.1)))
          (case aS => exact (Qh (by repeat (first | (with_reducible first | exact HB.out | apply Qc | apply Qb | apply Qd) | exact HB.out))))
          (case aL => have := p8.out; omega)
          intro u5 w13 ho hb hg hat
          rw [← m9.out] at ho
          have n0_ := Qa.mk (Kd.V_afterv (ok := (fun k_ => (P0_ k_ ∨ w.heap.size ≤ k_) ∧ some k_ ≠ (.slice h3 b2.length h4 : Value).ownBlock)) (by (with_reducible repeat (first | apply Kd.V_alloc | apply Kd.V_drewN | apply Kd.V_drew)); exact Kd.V_mono a1.out (fun _ hk => ⟨⟨hk.1.1, hk.2⟩, hk.1.2⟩)) hg hat); have n1_ := Qa.mk (Kd.V_afterv (ok := (fun k_ => (P0_ k_ ∨ w.heap.size ≤ k_) ∧ some k_ ≠ (.slice h3 b2.length h4 : Value).ownBlock)) (by (with_reducible repeat (first | apply Kd.V_alloc | apply Kd.V_drewN | apply Kd.V_drew)); exact Kd.V_mono HL101_1.out (fun _ hk => ⟨⟨hk.1.1, hk.2⟩, hk.1.2⟩)) hg hat); have n2_ := Qa.mk (Kd.V_afterv (ok := (fun k_ => (P0_ k_ ∨ w.heap.size ≤ k_) ∧ some k_ ≠ (.slice h3 b2.length h4 : Value).ownBlock)) (by (with_reducible repeat (first | apply Kd.V_alloc | apply Kd.V_drewN | apply Kd.V_drew)); exact Kd.V_mono HL102_1.out (fun _ hk => ⟨⟨hk.1.1, hk.2⟩, hk.1.2⟩)) hg hat); have n3_ := Qa.mk (Kd.V_afterv (ok := (fun k_ => (P0_ k_ ∨ w.heap.size ≤ k_) ∧ some k_ ≠ (.slice h3 b2.length h4 : Value).ownBlock)) (by (with_reducible repeat (first | apply Kd.V_alloc | apply Kd.V_drewN | apply Kd.V_drew)); exact Kd.V_mono HL103_1.out (fun _ hk => ⟨⟨hk.1.1, hk.2⟩, hk.1.2⟩)) hg hat); have n4_ := Qa.mk (Kd.V_afterv (ok := (fun k_ => (P0_ k_ ∨ w.heap.size ≤ k_) ∧ some k_ ≠ (.slice h3 b2.length h4 : Value).ownBlock)) (by (with_reducible repeat (first | apply Kd.V_alloc | apply Kd.V_drewN | apply Kd.V_drew)); exact Kd.V_mono HL104_1.out (fun _ hk => ⟨⟨hk.1.1, hk.2⟩, hk.1.2⟩)) hg hat); have n5_ := Qa.mk (Kd.N_afterv (ok := (fun k_ => (P0_ k_ ∨ w.heap.size ≤ k_))) (by (with_reducible repeat (first | apply Kd.N_alloc | apply Kd.N_drewN | apply Kd.N_drew)); exact e8.out) hg hat); have n6_ := Qa.mk (hb); have n7_ := Qa.mk (ho); clear a1; clear HL101_1; clear HL102_1; clear HL103_1; clear HL104_1; clear e8; clear HB; clear a4; have a1 := n0_; have HL101_1 := n1_; have HL102_1 := n2_; have HL103_1 := n3_; have HL104_1 := n4_; have e8 := n5_; have HB := n6_; have n2 := n7_; clear n0_ n1_ n2_ n3_ n4_ n5_ n6_ n7_; clear ho hb hg hat; refine hK.out _ _ ?_; clear hK K; refine Vn (a' := ?_) ?_ ?_; rotate_left
          ·show Act.put _ (some 48) _ = _
           simp only [Act.put, sA_, sB_, sC_, Qp, Qr]; rfl
          refine Qx (i := 16) (N := some 3) (v := ?_) (a' := ?_) (bz_ 17 131071) rfl rfl (Qs HT_.out (by kernel_rfl)) (fun _ _ _ h => h) (Or.inl ⟨by rfl, ?_⟩) ?_ ?_; rotate_left
          ·intro w'
           go_simp
           with_reducible rfl
          rotate_left
          ·simp only [Act.put, sA_, sB_, sC_, Qp, Qr]
           rfl
          refine Un (Vb HT_.out (by kernel_rfl)) ?_
          try go_wp2
          go_roundg k1
          case measure => have := HK1.out; omega
          case rel => exact ⟨(m3), (wrap64 ((ji6) + 1)), (by first | rfl | (simp; done) | (simp only [← f7] <;> (first | rfl | simp)) | (simp [*]; done)), H', ⟨by have := HK1.out; omega⟩, ⟨by (with_reducible repeat (first | apply Kd.V_alloc | apply Kd.V_drewN | apply Kd.V_drew)); exact Kd.V_mono a1.out (fun _ hk => ⟨hk.1.1, hk.2⟩)⟩, ⟨by (with_reducible repeat (first | apply Kd.N_alloc | apply Kd.N_drewN | apply Kd.N_drew)); exact n2.out⟩, ⟨by repeat (first | (with_reducible first | exact HB.out | apply Qc | apply Qb | apply Qd) | exact HB.out)⟩⟩
         ·rw [if_neg c9] at H
          exact absurd H (by simp)
        ·rw [if_neg c8] at H
         have p6 : (((Qt l0 (ji6)).f0) == 2) = false := beq_eq_false_iff_ne.mpr c8; have p7 : (((Qt l0 (ji6)).f0) != 2) = true := bne_iff_ne.mpr c8; obtain ⟨a7, e9⟩ : ∃ y_ : List Int, y_ = (([0, 2, 1] : List Int)) := ⟨_, rfl⟩
         replace H : (if 0 ≤ ((Qt l0 a0).f0) then (if ((Qt l0 a0).f0) < (a7.length : Int) then (if a6.length < 4398046511104 then (Qi.l0 k1 l0 (a6 ++ [(⟨rd a7 ((Qt l0 a0).f0), (Qt l0 a0).f1⟩ : S48)]) ji6) else (none)) else (none)) else (none)) = some r := by first | (rw [e9]; with_reducible exact H) | (have H2_ := (Option.bind_some _ _).symm.trans H; rw [e9]; with_reducible exact H2_) | (have H2_ := (Option.bind_some _ _).symm.trans H; with_reducible exact H2_) | with_reducible exact H | (rw [e9]; exact H) | exact H
         have j5 := Qa.mk e9; clear e9
         by_cases c15 : 0 ≤ ((Qt l0 a0).f0)
         ·rw [if_pos c15] at H
          have t5 : decide (0 ≤ ((Qt l0 a0).f0)) = true := decide_eq_true c15; clear c15
          by_cases c16 : ((Qt l0 a0).f0) < (a7.length : Int)
          ·rw [if_pos c16] at H
           have t6 : decide (((Qt l0 a0).f0) < (a7.length : Int)) = true := decide_eq_true c16; clear c16
           by_cases c17 : a6.length < 4398046511104
           ·rw [if_pos c17] at H
            have n3 := Qa.mk c17; clear c17; obtain ⟨m6, f2⟩ : ∃ y_ : List (S48), y_ = (a6 ++ [(⟨rd a7 ((Qt l0 a0).f0), (Qt l0 a0).f1⟩ : S48)]) := ⟨_, rfl⟩
            replace H : (Qi.l0 k1 l0 m6 ji6) = some r := by first | (rw [f2]; with_reducible exact H) | (have H2_ := (Option.bind_some _ _).symm.trans H; rw [f2]; with_reducible exact H2_) | (have H2_ := (Option.bind_some _ _).symm.trans H; with_reducible exact H2_) | with_reducible exact H | (rw [f2]; exact H) | exact H
            have n4 := Qa.mk f2; clear f2; have H' := Qa.mk H; clear H; have b0 : 0 ≤ (a0 : Int) := of_decide_eq_true (by first | (with_reducible assumption) | assumption); have b1 : a0 < (l0.length : Int) := of_decide_eq_true (by first | (with_reducible assumption) | assumption); obtain ⟨a3, g4, g5, e5, f9, b3, hl101_1, hi101_1⟩ := Vs (Kd.V_reads' a1.out).2.2 a0 b0 b1
            cases e5; obtain ⟨ce101, hce101, hMe101, hcc101⟩ := Kd.V_get a1.out z48 a0 b0 (by first | exact b1 | exact of_decide_eq_true (by first | (with_reducible assumption) | assumption) | (have e_ := (Kd.V_reads' a1.out).1; omega)); obtain ⟨ua101_1, uc101_1, rfl, ul101_1, ge101_1⟩ := Yh hMe101; have hv101_1 := hcc101 1 _ rfl
            rw [Xf _ _ 1 (by omega)] at hv101_1
            replace hv101_1 := Option.some.inj (hv101_1.symm.trans b3)
            injection hv101_1 with hva_ hvn_ hvc_
            rw [hva_] at ge101_1
            rw [hvc_] at ul101_1
            have HL101_1 := Qa.mk (show Kd.V Kd.string 9 _ w.heap.size _ _ ((Qt l0 a0).f1) from Kd.V_mk ul101_1 ge101_1); clear hva_ hvn_ hvc_ ge101_1 ul101_1; clear hcc101 hce101; have a2 := Qa.mk hi101_1; have g0 := Qa.mk hl101_1; clear hi101_1 hl101_1; replace b0 := eq_true b0; replace b1 := eq_true b1; have d1 : 0 ≤ ((ji6) : Int) := of_decide_eq_true (by first | (with_reducible assumption) | assumption); have d2 : (ji6) < (l0.length : Int) := of_decide_eq_true (by first | (with_reducible assumption) | assumption); obtain ⟨i9, m4, m5, l5, l7, g1, hl102_1, hi102_1⟩ := Vs (Kd.V_reads' a1.out).2.2 (ji6) d1 d2; obtain rfl : a3 = i9 := (by injection l5); obtain ⟨ce102, hce102, hMe102, hcc102⟩ := Kd.V_get a1.out z48 (ji6) d1 (by first | exact d2 | exact of_decide_eq_true (by first | (with_reducible assumption) | assumption) | (have e_ := (Kd.V_reads' a1.out).1; omega)); obtain ⟨ua102_1, uc102_1, rfl, ul102_1, ge102_1⟩ := Yh hMe102; have hv102_1 := hcc102 1 _ rfl
            rw [Xf _ _ 1 (by omega)] at hv102_1
            replace hv102_1 := Option.some.inj (hv102_1.symm.trans g1)
            injection hv102_1 with hva_ hvn_ hvc_
            rw [hva_] at ge102_1
            rw [hvc_] at ul102_1
            have HL102_1 := Qa.mk (show Kd.V Kd.string 9 _ w.heap.size _ _ ((Qt l0 (ji6)).f1) from Kd.V_mk ul102_1 ge102_1); clear hva_ hvn_ hvc_ ge102_1 ul102_1; clear hcc102 hce102; have a5 := Qa.mk hi102_1; have l8 := Qa.mk hl102_1; clear hi102_1 hl102_1; replace d1 := eq_true d1; replace d2 := eq_true d2
            try go_wp2
            have pi115 : (0 ≤ (((Qt l0 a0).f0) : Int)) = True := eq_true (of_decide_eq_true (by first | (with_reducible assumption) | assumption)); have qi115 : (((Qt l0 a0).f0) < (a7.length : Int)) = True := eq_true (of_decide_eq_true (by first | (with_reducible assumption) | assumption)); have n0_ := Qa.mk (Kd.V_drew a1.out); have n1_ := Qa.mk (Kd.N_drew a4.out); have n2_ := Qa.mk (Kd.V_drew HL101_1.out); have n3_ := Qa.mk (Kd.V_drew HL102_1.out); have n4_ := Qa.mk (Kd.C_drew a2.out); have n5_ := Qa.mk (Kd.C_drew a5.out); have n6_ := Qa.mk (Qd HB.out); clear a1; clear a4; clear HL101_1; clear HL102_1; clear a2; clear a5; clear HB; have a1 := n0_; have a4 := n1_; have HL101_1 := n2_; have HL102_1 := n3_; have a2 := n4_; have a5 := n5_; have HB := n6_; clear n0_ n1_ n2_ n3_ n4_ n5_ n6_; have j6 : 0 ≤ (a0 : Int) := of_decide_eq_true (by first | (with_reducible assumption) | assumption); have j7 : a0 < (l0.length : Int) := of_decide_eq_true (by first | (with_reducible assumption) | assumption); obtain ⟨n5, h5, h6, q1, i3, d9, hl114_1, hi114_1⟩ := Vs (Kd.V_reads' a1.out).2.2 a0 j6 j7; obtain rfl : a3 = n5 := (by injection q1); obtain ⟨ce114, hce114, hMe114, hcc114⟩ := Kd.V_get a1.out z48 a0 j6 (by first | exact j7 | exact of_decide_eq_true (by first | (with_reducible assumption) | assumption) | (have e_ := (Kd.V_reads' a1.out).1; omega)); obtain ⟨ua114_1, uc114_1, rfl, ul114_1, ge114_1⟩ := Yh hMe114; have hv114_1 := hcc114 1 _ rfl
            rw [Xf _ _ 1 (by omega)] at hv114_1
            replace hv114_1 := Option.some.inj (hv114_1.symm.trans d9)
            injection hv114_1 with hva_ hvn_ hvc_
            rw [hva_] at ge114_1
            rw [hvc_] at ul114_1
            have HL114_1 := Qa.mk (show Kd.V Kd.string 9 _ w.heap.size _ _ ((Qt l0 a0).f1) from Kd.V_mk ul114_1 ge114_1); clear hva_ hvn_ hvc_ ge114_1 ul114_1; clear hcc114 hce114; have b6 := Qa.mk hi114_1; have r8 := Qa.mk hl114_1; clear hi114_1 hl114_1; replace j6 := eq_true j6; replace j7 := eq_true j7; have j8 : 0 ≤ (a0 : Int) := of_decide_eq_true (by first | (with_reducible assumption) | assumption); have j9 : a0 < (l0.length : Int) := of_decide_eq_true (by first | (with_reducible assumption) | assumption); obtain ⟨n6, s8, s9, q2, i4, e0, hl116_1, hi116_1⟩ := Vs (Kd.V_reads' a1.out).2.2 a0 j8 j9; obtain rfl : a3 = n6 := (by injection q2); obtain ⟨ce116, hce116, hMe116, hcc116⟩ := Kd.V_get a1.out z48 a0 j8 (by first | exact j9 | exact of_decide_eq_true (by first | (with_reducible assumption) | assumption) | (have e_ := (Kd.V_reads' a1.out).1; omega)); obtain ⟨ua116_1, uc116_1, rfl, ul116_1, ge116_1⟩ := Yh hMe116; have hv116_1 := hcc116 1 _ rfl
            rw [Xf _ _ 1 (by omega)] at hv116_1
            replace hv116_1 := Option.some.inj (hv116_1.symm.trans e0)
            injection hv116_1 with hva_ hvn_ hvc_
            rw [hva_] at ge116_1
            rw [hvc_] at ul116_1
            have HL116_1 := Qa.mk (show Kd.V Kd.string 9 _ w.heap.size _ _ ((Qt l0 a0).f1) from Kd.V_mk ul116_1 ge116_1); clear hva_ hvn_ hvc_ ge116_1 ul116_1; clear hcc116 hce116; have b7 := Qa.mk hi116_1; have r9 := Qa.mk hl116_1; clear hi116_1 hl116_1; replace j8 := eq_true j8; replace j9 := eq_true j9; have ea_ := Option.some.inj (d9.symm.trans e0)
            injection ea_ with ea_ en_ ec_
            subst ea_; subst ec_; clear en_; refine Vo (n := 18) (S := fun w' => w'.cell? (a3.add ((a0).toNat * 2)) = some (.int .i64 ((Qt l0 a0).f0)) ∧ w'.cell? ⟨(a3.add ((a0).toNat * 2)).block, (a3.add ((a0).toNat * 2)).off + 1, none⟩ = some (.slice h5 ((Qt l0 a0).f1).length h6) ∧ w'.cell? (a3.add ((a0).toNat * 2)) = some (.int .i64 ((Qt l0 a0).f0)) ∧ w'.cell? ⟨(a3.add ((a0).toNat * 2)).block, (a3.add ((a0).toNat * 2)).off + 1, none⟩ = some (.slice h5 ((Qt l0 a0).f1).length h6)) (ds := [15, 16]) (bz_ 18 0) (by kernel_rfl) rfl rfl ⟨i3, d9, i4, e0⟩ (fun hHeld => ?_); refine Yd Qi.tab8 Qi.bits8 (fun HT_ HW_ => ?_)
            generalize wr.drew = w18 at a1 a4 HL101_1 HL102_1 a2 a5 HB HL114_1 HL116_1 b6 b7 i3 d9 i4 e0 hHeld ⊢
            refine Qx (i := 0) (N := some 51) (v := ?_) (a' := ?_) (bz_ 18 1) rfl rfl (Qs HT_.out (by kernel_rfl)) (fun _ _ _ h => h) (Or.inl ⟨by rfl, ?_⟩) ?_ ?_; rotate_left
            ·intro w'
             go_simp
             with_reducible rfl
            rotate_left
            ·simp only [Act.put, sA_, sB_, sC_, Qp, Qr]
             rfl
            refine Qx (i := 2) (N := some 53) (v := ?_) (a' := ?_) (bz_ 18 5) rfl rfl (Qs HT_.out (by kernel_rfl)) (fun _ _ _ h => h) (Or.inl ⟨by rfl, ?_⟩) ?_ ?_; rotate_left
            ·intro w'
             go_simp
             with_reducible rfl
            rotate_left
            ·simp only [Act.put, sA_, sB_, sC_, Qp, Qr]
             rfl
            refine Qx (i := 3) (N := some 54) (v := ?_) (a' := ?_) (bz_ 18 13) rfl rfl (Qs HT_.out (by kernel_rfl)) (fun _ _ _ h => h) (Or.inl ⟨by rfl, ?_⟩) ?_ ?_; rotate_left
            ·intro w'
             go_simp
             with_reducible rfl
            rotate_left
            ·simp only [Act.put, sA_, sB_, sC_, Qp, Qr]
             rfl
            refine Qx (i := 4) (N := some 55) (v := ?_) (a' := ?_) (bz_ 18 29) rfl rfl (Qs HT_.out (by kernel_rfl)) (fun _ _ _ h => h) (Or.inl ⟨by rfl, ?_⟩) ?_ ?_; rotate_left
            ·intro w'
             go_simp
             with_reducible rfl
            rotate_left
            ·simp only [Act.put, sA_, sB_, sC_, Qp, Qr]
             rfl
            refine Qx (i := 5) (N := some 56) (v := ?_) (a' := ?_) (bz_ 18 61) rfl rfl (Qs HT_.out (by kernel_rfl)) (fun _ _ _ h => h) (Or.inl ⟨by rfl, ?_⟩) ?_ ?_; rotate_left
            ·intro w'
             go_simp
             with_reducible rfl
            rotate_left
            ·simp only [Act.put, sA_, sB_, sC_, Qp, Qr]
             rfl
            refine Qx (i := 9) (N := some 60) (v := ?_) (a' := ?_) (bz_ 18 573) rfl rfl (Qs HT_.out (by kernel_rfl)) (fun _ _ _ h => h) (Or.inl ⟨by rfl, ?_⟩) ?_ ?_; rotate_left
            ·intro w'
             go_simp
             with_reducible rfl
            rotate_left
            ·simp only [Act.put, sA_, sB_, sC_, Qp, Qr]
             rfl
            refine Qx (i := 10) (N := some 61) (v := ?_) (a' := ?_) (bz_ 18 1597) rfl rfl (Qs HT_.out (by kernel_rfl)) (fun _ _ _ h => h) (Or.inl ⟨by rfl, ?_⟩) ?_ ?_; rotate_left
            ·intro w'
             go_simp
             with_reducible rfl
            rotate_left
            ·simp only [Act.put, sA_, sB_, sC_, Qp, Qr]
             rfl
            refine Qx (i := 11) (N := some 62) (v := ?_) (a' := ?_) (bz_ 18 3645) rfl rfl (Qs HT_.out (by kernel_rfl)) (fun _ _ _ h => h) (Or.inl ⟨by rfl, ?_⟩) ?_ ?_; rotate_left
            ·intro w'
             go_simp
             with_reducible rfl
            rotate_left
            ·simp only [Act.put, sA_, sB_, sC_, Qp, Qr]
             rfl
            refine Qx (i := 12) (N := some 63) (v := ?_) (a' := ?_) (bz_ 18 7741) rfl rfl (Qs HT_.out (by kernel_rfl)) (fun _ _ _ h => h) (Or.inl ⟨by rfl, ?_⟩) ?_ ?_; rotate_left
            ·intro w'
             go_simp
             with_reducible rfl
            rotate_left
            ·simp only [Act.put, sA_, sB_, sC_, Qp, Qr]
             rfl
            refine take_ (i := 6) (N := some 57) (v := ?_) (a' := ?_) (bz_ 18 7805) rfl rfl (Xb HT_.out HW_.out (by kernel_rfl)) (fun _ _ _ h => h) (Or.inl ⟨by rfl, ?_⟩) hHeld ?_ ?_; rotate_left
            ·rintro w' ⟨s0, s1, s2, s3⟩
             go_simp
             with_reducible rfl
            rotate_left
            ·simp only [Act.put, sA_, sB_, sC_, Qp, Qr]
             rfl
            refine take_ (i := 13) (N := some 64) (v := ?_) (a' := ?_) (bz_ 18 15997) rfl rfl (Xb HT_.out HW_.out (by kernel_rfl)) (fun _ _ _ h => h) (Or.inl ⟨by rfl, ?_⟩) hHeld ?_ ?_; rotate_left
            ·rintro w' ⟨s0, s1, s2, s3⟩
             go_simp
             with_reducible rfl
            rotate_left
            ·simp only [Act.put, sA_, sB_, sC_, Qp, Qr]
             rfl
            refine Jx (i := 1) (N := some 52) (bz_ 18 15999) rfl rfl (Ye HT_.out (by kernel_rfl)) (by decide) (fun K hK => ?_); refine Kd.R_lit_step (Kd.int .i64) _ 3 ?hg (N := 52) ?hd (xs := ([0, 2, 1] : List Int)) (inner := [.int .i64 0, .int .i64 2, .int .i64 1]) (ok := fun _ => True) (okp := fun _ => True) ?hr ?hp (fun _ hk => hk) trivial (Below.refl _ _) (Nat.le_refl _) (by simp) ?_; (case hd => rfl); (case hg => rfl); (case hr => first | (go_simp; done) | (go_simp; rfl)); (case hp => exact (Zz.one (show Kd.M (Kd.int .i64) _ _ _ 0 [.int .i64 0] from rfl) (Zz.one (show Kd.M (Kd.int .i64) _ _ _ 2 [.int .i64 2] from rfl) (Zz.one (show Kd.M (Kd.int .i64) _ _ _ 1 [.int .i64 1] from rfl) (Zz.none _ _))))); intro u6 w19 ho20 hb hg_ hnew_; have HS0_ := (hb.cell (World.block_lt_of_cell? _ _ (hHeld.1))).trans (hHeld.1); have HS1_ := (hb.cell (World.block_lt_of_cell? _ _ (hHeld.2.1))).trans (hHeld.2.1); have HS2_ := (hb.cell (World.block_lt_of_cell? _ _ (hHeld.2.2.1))).trans (hHeld.2.2.1); have HS3_ := (hb.cell (World.block_lt_of_cell? _ _ (hHeld.2.2.2))).trans (hHeld.2.2.2); clear hg_ hnew_
            (first | rw [← j5.out] at ho20 | (simp only [Int.reduceToNat] at ho20; rw [← j5.out] at ho20))
            have n0_ := Qa.mk (Kd.V_elder' (by (with_reducible repeat (first | apply Kd.V_alloc | apply Kd.V_drewN | apply Kd.V_drew)); exact a1.out) (Kd.R_base ho20) hb); have n1_ := Qa.mk (Kd.N_elder' (by (with_reducible repeat (first | apply Kd.N_alloc | apply Kd.N_drewN | apply Kd.N_drew)); exact a4.out) (Kd.R_base ho20) hb); have n2_ := Qa.mk (Kd.V_elder' (by (with_reducible repeat (first | apply Kd.V_alloc | apply Kd.V_drewN | apply Kd.V_drew)); exact HL101_1.out) (Kd.R_base ho20) hb); have n3_ := Qa.mk (Kd.V_elder' (by (with_reducible repeat (first | apply Kd.V_alloc | apply Kd.V_drewN | apply Kd.V_drew)); exact HL102_1.out) (Kd.R_base ho20) hb); have n4_ := Qa.mk (Kd.V_elder' (by (with_reducible repeat (first | apply Kd.V_alloc | apply Kd.V_drewN | apply Kd.V_drew)); exact HL114_1.out) (Kd.R_base ho20) hb); have n5_ := Qa.mk (Kd.V_elder' (by (with_reducible repeat (first | apply Kd.V_alloc | apply Kd.V_drewN | apply Kd.V_drew)); exact HL116_1.out) (Kd.R_base ho20) hb); have n6_ := Qa.mk (Kd.R_lower (Kd.R_newM (M := fun k_ => (w.heap.size ≤ k_)) ho20 (Qh (by repeat (first | (with_reducible first | exact HB.out | apply Qc | apply Qb | apply Qd) | exact HB.out))) (fun k_ h_ => h_)) (Qh (by repeat (first | (with_reducible first | exact HB.out | apply Qc | apply Qb | apply Qd) | exact HB.out)))); have n7_ := Qa.mk (Kd.C_below (by repeat (first | (with_reducible exact a2.out) | (with_reducible refine Kd.C_alloc ?_ _) | (with_reducible refine Kd.C_drewN ?_ _) | (with_reducible refine Kd.C_drew ?_) | exact a2.out)) hb); have n8_ := Qa.mk (Kd.C_below (by repeat (first | (with_reducible exact a5.out) | (with_reducible refine Kd.C_alloc ?_ _) | (with_reducible refine Kd.C_drewN ?_ _) | (with_reducible refine Kd.C_drew ?_) | exact a5.out)) hb); have n9_ := Qa.mk (Kd.C_below (by repeat (first | (with_reducible exact b6.out) | (with_reducible refine Kd.C_alloc ?_ _) | (with_reducible refine Kd.C_drewN ?_ _) | (with_reducible refine Kd.C_drew ?_) | exact b6.out)) hb); have h0 := Qa.mk (Kd.C_below (by repeat (first | (with_reducible exact b7.out) | (with_reducible refine Kd.C_alloc ?_ _) | (with_reducible refine Kd.C_drewN ?_ _) | (with_reducible refine Kd.C_drew ?_) | exact b7.out)) hb); have h2 := Qa.mk (Qk (by repeat (first | (with_reducible first | exact HB.out | apply Qc | apply Qb | apply Qd) | exact HB.out)) hb); clear a1; clear a4; clear HL101_1; clear HL102_1; clear HL114_1; clear HL116_1; clear a2; clear a5; clear b6; clear b7; clear HB; have a1 := n0_; have a4 := n1_; have HL101_1 := n2_; have HL102_1 := n3_; have HL114_1 := n4_; have HL116_1 := n5_; have d3 := n6_; have a2 := n7_; have a5 := n8_; have b6 := n9_; have b7 := h0; have HB := h2; clear n0_ n1_ n2_ n3_ n4_ n5_ n6_ n7_ n8_ n9_ h0 h2; clear hb ho20; obtain ⟨u7, d4, eo21⟩ := Kd.R_slice d3.out; subst eo21; obtain ⟨ado21, fo21, _⟩ := Kd.at_int (Kd.R_reads' d3.out).2.2 0 (by decide) (by rw [j5.out]; simp)
            cases fo21; refine hK.out _ _ ⟨HS0_, HS1_, HS2_, HS3_⟩ (fun hHeld => ?_); clear hK K; refine Vn (a' := ?_) ?_ ?_; rotate_left
            ·show Act.put _ (some 52) _ = _
             simp only [Act.put, sA_, sB_, sC_, Qp, Qr]; rfl
            refine Qx (i := 7) (N := some 58) (v := ?_) (a' := ?_) (bz_ 18 16127) rfl rfl (Qs HT_.out (by kernel_rfl)) (fun _ _ _ h => h) (Or.inl ⟨by rfl, ?_⟩) ?_ ?_; rotate_left
            ·intro w'
             go_simp
             with_reducible rfl
            rotate_left
            ·simp only [Act.put, sA_, sB_, sC_, Qp, Qr]
             rfl
            refine Jx (i := 8) (N := some 59) (bz_ 18 16383) rfl rfl (Ye HT_.out (by kernel_rfl)) (by decide) (fun K hK => ?_)
            (have q3 : 0 ≤ (((Qt l0 a0).f0) : Int) := of_decide_eq_true (by first | (with_reducible assumption) | assumption); have q4 : ((Qt l0 a0).f0) < (a7.length : Int) := of_decide_eq_true (by first | (with_reducible assumption) | assumption); obtain ⟨n7, q5, l9⟩ := Kd.at_int (Kd.R_reads' d3.out).2.2 ((Qt l0 a0).f0) q3 q4; obtain rfl : ado21 = n7 := (by injection q5))
            refine Jp (w1 := ?_) (v := ?_) (by rfl) rfl ?_ ?_; rotate_left 2
            ·go_simp
             constructor
             ·rfl
             ·rfl
            clear l9; refine hK.out _ _ ⟨hHeld.1, hHeld.2.1, hHeld.2.2.1, hHeld.2.2.2⟩ (fun hHeld => ?_); clear hK K; refine Vn (a' := ?_) ?_ ?_; rotate_left
            ·show Act.put _ (some 59) _ = _
             simp only [Act.put, sA_, sB_, sC_, Qp, Qr]; rfl
            refine Qx (i := 14) (N := some 65) (v := ?_) (a' := ?_) (bz_ 18 32767) rfl rfl (Qs HT_.out (by kernel_rfl)) (fun _ _ _ h => h) (Or.inl ⟨by rfl, ?_⟩) ?_ ?_; rotate_left
            ·intro w'
             go_simp
             with_reducible rfl
            rotate_left
            ·simp only [Act.put, sA_, sB_, sC_, Qp, Qr]
             rfl
            refine Km (i := 15) (N := some 66) (bz_ 18 65535) rfl rfl (Ye HT_.out (by kernel_rfl)) (by decide) (fun K hK => ?_); refine Jp (w1 := ?_) (v := ?_) (by rfl) rfl ?_ ?_; rotate_left 2
            ·go_simp
             constructor
             ·rfl
             ·rfl
            refine hK.out _ _ ?_; clear hK K; refine Vn (a' := ?_) ?_ ?_; rotate_left
            ·show Act.put _ (some 66) _ = _
             simp only [Act.put, sA_, sB_, sC_, Qp, Qr]; rfl
            refine Km (i := 16) (N := some 67) (bz_ 18 131071) rfl rfl (Ye HT_.out (by kernel_rfl)) (by decide) (fun K hK => ?_); refine Kd.N_append_step k48 (w0 := w) w.heap.size (by rfl) (.tmp 51) (.tmp 66) 28 48 (.agg #[(.int .i64 0), (.slice none 0 0)]) 32 rfl Tryz.underlying28 Qak rfl (by decide) (by omega) u3 a6 (⟨rd a7 ((Qt l0 a0).f0), (Qt l0 a0).f1⟩ : S48) [.int .i64 (rd a7 ((Qt l0 a0).f0)), .slice h5 ((Qt l0 a0).f1).length h6] (fun k_ => (P0_ k_ ∨ w.heap.size ≤ k_) ∧ some k_ ≠ (.slice (some ado21) a7.length d4 : Value).ownBlock) (fun k_ => ((fun k_ => (P0_ k_ ∨ w.heap.size ≤ k_) ∧ some k_ ≠ (.slice (some ado21) a7.length d4 : Value).ownBlock)) k_ ∧ some k_ ≠ (u3 : Value).ownBlock) rfl rfl ?aP (fun _ hk => hk) ?aF ?aO ?aB ?aS ?aL ?_
            (case aP => exact (Jg _ _ (⟨rd a7 ((Qt l0 a0).f0), (Qt l0 a0).f1⟩ : S48) (Kd.V_reads' (Kd.V_mono (ok' := (fun k_ => ((fun k_ => (P0_ k_ ∨ w.heap.size ≤ k_) ∧ some k_ ≠ (.slice (some ado21) a7.length d4 : Value).ownBlock)) k_ ∧ some k_ ≠ (u3 : Value).ownBlock)) (HL116_1.out) (fun k_ hk => ⟨⟨hk.1.1, hk.2⟩, hk.1.2⟩))).2.1 (Kd.V_F (Kd.V_mono (ok' := (fun k_ => ((fun k_ => (P0_ k_ ∨ w.heap.size ≤ k_) ∧ some k_ ≠ (.slice (some ado21) a7.length d4 : Value).ownBlock)) k_ ∧ some k_ ≠ (u3 : Value).ownBlock)) (HL116_1.out) (fun k_ hk => ⟨⟨hk.1.1, hk.2⟩, hk.1.2⟩)))))
            (case aB => exact (by repeat (first | (with_reducible first | exact HB.out | apply Qc | apply Qb | apply Qd) | exact HB.out)))
            (case aF => exact (fun k_ hk => ⟨(.inr (Nat.le_trans (Qh (by repeat (first | (with_reducible first | exact HB.out | apply Qc | apply Qb | apply Qd) | exact HB.out))) hk)), Kd.fresh' (Kd.R_lt (by (with_reducible repeat (first | apply Kd.R_alloc | apply Kd.R_drewN | apply Kd.R_drew)); exact d3.out)) k_ hk⟩))
            (case aO => exact (by (with_reducible repeat (first | apply Kd.N_alloc | apply Kd.N_drewN | apply Kd.N_drew)); exact a4.out))
            (case aS => exact (Qh (by repeat (first | (with_reducible first | exact HB.out | apply Qc | apply Qb | apply Qd) | exact HB.out))))
            (case aL => have := n3.out; omega)
            intro u8 w22 ho hb hg hat
            rw [← n4.out] at ho
            have n0_ := Qa.mk (Kd.V_afterv (ok := (fun k_ => (P0_ k_ ∨ w.heap.size ≤ k_) ∧ some k_ ≠ (.slice (some ado21) a7.length d4 : Value).ownBlock)) (by (with_reducible repeat (first | apply Kd.V_alloc | apply Kd.V_drewN | apply Kd.V_drew)); exact Kd.V_mono a1.out (fun _ hk => ⟨⟨hk.1.1, hk.2⟩, hk.1.2⟩)) hg hat); have n1_ := Qa.mk (Kd.V_afterv (ok := (fun k_ => (P0_ k_ ∨ w.heap.size ≤ k_) ∧ some k_ ≠ (.slice (some ado21) a7.length d4 : Value).ownBlock)) (by (with_reducible repeat (first | apply Kd.V_alloc | apply Kd.V_drewN | apply Kd.V_drew)); exact Kd.V_mono HL101_1.out (fun _ hk => ⟨⟨hk.1.1, hk.2⟩, hk.1.2⟩)) hg hat); have n2_ := Qa.mk (Kd.V_afterv (ok := (fun k_ => (P0_ k_ ∨ w.heap.size ≤ k_) ∧ some k_ ≠ (.slice (some ado21) a7.length d4 : Value).ownBlock)) (by (with_reducible repeat (first | apply Kd.V_alloc | apply Kd.V_drewN | apply Kd.V_drew)); exact Kd.V_mono HL102_1.out (fun _ hk => ⟨⟨hk.1.1, hk.2⟩, hk.1.2⟩)) hg hat); have n3_ := Qa.mk (Kd.V_afterv (ok := (fun k_ => (P0_ k_ ∨ w.heap.size ≤ k_) ∧ some k_ ≠ (.slice (some ado21) a7.length d4 : Value).ownBlock)) (by (with_reducible repeat (first | apply Kd.V_alloc | apply Kd.V_drewN | apply Kd.V_drew)); exact Kd.V_mono HL114_1.out (fun _ hk => ⟨⟨hk.1.1, hk.2⟩, hk.1.2⟩)) hg hat); have n4_ := Qa.mk (Kd.V_afterv (ok := (fun k_ => (P0_ k_ ∨ w.heap.size ≤ k_) ∧ some k_ ≠ (.slice (some ado21) a7.length d4 : Value).ownBlock)) (by (with_reducible repeat (first | apply Kd.V_alloc | apply Kd.V_drewN | apply Kd.V_drew)); exact Kd.V_mono HL116_1.out (fun _ hk => ⟨⟨hk.1.1, hk.2⟩, hk.1.2⟩)) hg hat); have n5_ := Qa.mk (Kd.R_over' (by (with_reducible repeat (first | apply Kd.R_alloc | apply Kd.R_drewN | apply Kd.R_drew)); exact d3.out) (Kd.N_typed (by (with_reducible repeat (first | apply Kd.N_alloc | apply Kd.N_drewN | apply Kd.N_drew)); exact a4.out)) (by decide) hg); have n6_ := Qa.mk (hb); have n7_ := Qa.mk (ho); clear a1; clear HL101_1; clear HL102_1; clear HL114_1; clear HL116_1; clear d3; clear HB; clear a4; have a1 := n0_; have HL101_1 := n1_; have HL102_1 := n2_; have HL114_1 := n3_; have HL116_1 := n4_; have d3 := n5_; have HB := n6_; have n8 := n7_; clear n0_ n1_ n2_ n3_ n4_ n5_ n6_ n7_; clear ho hb hg hat; refine hK.out _ _ ?_; clear hK K; refine Vn (a' := ?_) ?_ ?_; rotate_left
            ·show Act.put _ (some 67) _ = _
             simp only [Act.put, sA_, sB_, sC_, Qp, Qr]; rfl
            refine Qx (i := 17) (N := some 3) (v := ?_) (a' := ?_) (bz_ 18 262143) rfl rfl (Qs HT_.out (by kernel_rfl)) (fun _ _ _ h => h) (Or.inl ⟨by rfl, ?_⟩) ?_ ?_; rotate_left
            ·intro w'
             go_simp
             with_reducible rfl
            rotate_left
            ·simp only [Act.put, sA_, sB_, sC_, Qp, Qr]
             rfl
            refine Un (Vb HT_.out (by kernel_rfl)) ?_
            try go_wp2
            go_roundg k1
            case measure => have := HK1.out; omega
            case rel => exact ⟨(m6), (ji6), (by first | rfl | (simp; done) | (simp only [← f7] <;> (first | rfl | simp)) | (simp [*]; done)), H', ⟨by have := HK1.out; omega⟩, ⟨by (with_reducible repeat (first | apply Kd.V_alloc | apply Kd.V_drewN | apply Kd.V_drew)); exact Kd.V_mono a1.out (fun _ hk => ⟨hk.1.1, hk.2⟩)⟩, ⟨by (with_reducible repeat (first | apply Kd.N_alloc | apply Kd.N_drewN | apply Kd.N_drew)); exact Kd.N_mono n8.out (fun _ hk => hk.1)⟩, ⟨by repeat (first | (with_reducible first | exact HB.out | apply Qc | apply Qb | apply Qd) | exact HB.out)⟩⟩
           ·rw [if_neg c17] at H
            exact absurd H (by simp)
          ·rw [if_neg c16] at H
           exact absurd H (by simp)
         ·rw [if_neg c15] at H
          exact absurd H (by simp)
       ·rw [if_neg c7] at H
        exact absurd H (by simp)
      ·rw [if_neg c5] at H
       have m2 : decide ((wrap64 (a0 + 1)) < (l0.length : Int)) = false := decide_eq_false c5; clear c5; obtain ⟨a8, f3⟩ : ∃ y_ : List Int, y_ = (([0, 2, 1] : List Int)) := ⟨_, rfl⟩
       replace H : (if 0 ≤ ((Qt l0 a0).f0) then (if ((Qt l0 a0).f0) < (a8.length : Int) then (if a6.length < 4398046511104 then (Qi.l0 k1 l0 (a6 ++ [(⟨rd a8 ((Qt l0 a0).f0), (Qt l0 a0).f1⟩ : S48)]) (wrap64 (a0 + 1))) else (none)) else (none)) else (none)) = some r := by first | (rw [f3]; with_reducible exact H) | (have H2_ := (Option.bind_some _ _).symm.trans H; rw [f3]; with_reducible exact H2_) | (have H2_ := (Option.bind_some _ _).symm.trans H; with_reducible exact H2_) | with_reducible exact H | (rw [f3]; exact H) | exact H
       have k0 := Qa.mk f3; clear f3
       by_cases c23 : 0 ≤ ((Qt l0 a0).f0)
       ·rw [if_pos c23] at H
        have t7 : decide (0 ≤ ((Qt l0 a0).f0)) = true := decide_eq_true c23; clear c23
        by_cases c24 : ((Qt l0 a0).f0) < (a8.length : Int)
        ·rw [if_pos c24] at H
         have t8 : decide (((Qt l0 a0).f0) < (a8.length : Int)) = true := decide_eq_true c24; clear c24
         by_cases c25 : a6.length < 4398046511104
         ·rw [if_pos c25] at H
          have n9 := Qa.mk c25; clear c25; obtain ⟨m7, f4⟩ : ∃ y_ : List (S48), y_ = (a6 ++ [(⟨rd a8 ((Qt l0 a0).f0), (Qt l0 a0).f1⟩ : S48)]) := ⟨_, rfl⟩
          replace H : (Qi.l0 k1 l0 m7 (wrap64 (a0 + 1))) = some r := by first | (rw [f4]; with_reducible exact H) | (have H2_ := (Option.bind_some _ _).symm.trans H; rw [f4]; with_reducible exact H2_) | (have H2_ := (Option.bind_some _ _).symm.trans H; with_reducible exact H2_) | with_reducible exact H | (rw [f4]; exact H) | exact H
          have o0 := Qa.mk f4; clear f4; have H' := Qa.mk H; clear H; have b0 : 0 ≤ (a0 : Int) := of_decide_eq_true (by first | (with_reducible assumption) | assumption); have b1 : a0 < (l0.length : Int) := of_decide_eq_true (by first | (with_reducible assumption) | assumption); obtain ⟨a3, g4, g5, e5, f9, b3, hl101_1, hi101_1⟩ := Vs (Kd.V_reads' a1.out).2.2 a0 b0 b1
          cases e5; obtain ⟨ce101, hce101, hMe101, hcc101⟩ := Kd.V_get a1.out z48 a0 b0 (by first | exact b1 | exact of_decide_eq_true (by first | (with_reducible assumption) | assumption) | (have e_ := (Kd.V_reads' a1.out).1; omega)); obtain ⟨ua101_1, uc101_1, rfl, ul101_1, ge101_1⟩ := Yh hMe101; have hv101_1 := hcc101 1 _ rfl
          rw [Xf _ _ 1 (by omega)] at hv101_1
          replace hv101_1 := Option.some.inj (hv101_1.symm.trans b3)
          injection hv101_1 with hva_ hvn_ hvc_
          rw [hva_] at ge101_1
          rw [hvc_] at ul101_1
          have HL101_1 := Qa.mk (show Kd.V Kd.string 9 _ w.heap.size _ _ ((Qt l0 a0).f1) from Kd.V_mk ul101_1 ge101_1); clear hva_ hvn_ hvc_ ge101_1 ul101_1; clear hcc101 hce101; have a2 := Qa.mk hi101_1; have g0 := Qa.mk hl101_1; clear hi101_1 hl101_1; replace b0 := eq_true b0; replace b1 := eq_true b1
          try go_wp2
          have pi124 : (0 ≤ (((Qt l0 a0).f0) : Int)) = True := eq_true (of_decide_eq_true (by first | (with_reducible assumption) | assumption)); have qi124 : (((Qt l0 a0).f0) < (a8.length : Int)) = True := eq_true (of_decide_eq_true (by first | (with_reducible assumption) | assumption)); have n0_ := Qa.mk (Kd.V_drew a1.out); have n1_ := Qa.mk (Kd.N_drew a4.out); have n2_ := Qa.mk (Kd.V_drew HL101_1.out); have n3_ := Qa.mk (Kd.C_drew a2.out); have n4_ := Qa.mk (Qd HB.out); clear a1; clear a4; clear HL101_1; clear a2; clear HB; have a1 := n0_; have a4 := n1_; have HL101_1 := n2_; have a2 := n3_; have HB := n4_; clear n0_ n1_ n2_ n3_ n4_; have k2 : 0 ≤ (a0 : Int) := of_decide_eq_true (by first | (with_reducible assumption) | assumption); have k4 : a0 < (l0.length : Int) := of_decide_eq_true (by first | (with_reducible assumption) | assumption); obtain ⟨o1, h7, h8, q6, i5, e1, hl123_1, hi123_1⟩ := Vs (Kd.V_reads' a1.out).2.2 a0 k2 k4; obtain rfl : a3 = o1 := (by injection q6); obtain ⟨ce123, hce123, hMe123, hcc123⟩ := Kd.V_get a1.out z48 a0 k2 (by first | exact k4 | exact of_decide_eq_true (by first | (with_reducible assumption) | assumption) | (have e_ := (Kd.V_reads' a1.out).1; omega)); obtain ⟨ua123_1, uc123_1, rfl, ul123_1, ge123_1⟩ := Yh hMe123; have hv123_1 := hcc123 1 _ rfl
          rw [Xf _ _ 1 (by omega)] at hv123_1
          replace hv123_1 := Option.some.inj (hv123_1.symm.trans e1)
          injection hv123_1 with hva_ hvn_ hvc_
          rw [hva_] at ge123_1
          rw [hvc_] at ul123_1
          have HL123_1 := Qa.mk (show Kd.V Kd.string 9 _ w.heap.size _ _ ((Qt l0 a0).f1) from Kd.V_mk ul123_1 ge123_1); clear hva_ hvn_ hvc_ ge123_1 ul123_1; clear hcc123 hce123; have b8 := Qa.mk hi123_1; have s4 := Qa.mk hl123_1; clear hi123_1 hl123_1; replace k2 := eq_true k2; replace k4 := eq_true k4; have k5 : 0 ≤ (a0 : Int) := of_decide_eq_true (by first | (with_reducible assumption) | assumption); have k6 : a0 < (l0.length : Int) := of_decide_eq_true (by first | (with_reducible assumption) | assumption); obtain ⟨o2, t0, t1, q7, i6, e2, hl125_1, hi125_1⟩ := Vs (Kd.V_reads' a1.out).2.2 a0 k5 k6; obtain rfl : a3 = o2 := (by injection q7); obtain ⟨ce125, hce125, hMe125, hcc125⟩ := Kd.V_get a1.out z48 a0 k5 (by first | exact k6 | exact of_decide_eq_true (by first | (with_reducible assumption) | assumption) | (have e_ := (Kd.V_reads' a1.out).1; omega)); obtain ⟨ua125_1, uc125_1, rfl, ul125_1, ge125_1⟩ := Yh hMe125; have hv125_1 := hcc125 1 _ rfl
          rw [Xf _ _ 1 (by omega)] at hv125_1
          replace hv125_1 := Option.some.inj (hv125_1.symm.trans e2)
          injection hv125_1 with hva_ hvn_ hvc_
          rw [hva_] at ge125_1
          rw [hvc_] at ul125_1
          have HL125_1 := Qa.mk (show Kd.V Kd.string 9 _ w.heap.size _ _ ((Qt l0 a0).f1) from Kd.V_mk ul125_1 ge125_1); clear hva_ hvn_ hvc_ ge125_1 ul125_1; clear hcc125 hce125; have b9 := Qa.mk hi125_1; have s5 := Qa.mk hl125_1; clear hi125_1 hl125_1; replace k5 := eq_true k5; replace k6 := eq_true k6; have ea_ := Option.some.inj (e1.symm.trans e2)
          injection ea_ with ea_ en_ ec_
          subst ea_; subst ec_; clear en_; refine Vo (n := 18) (S := fun w' => w'.cell? (a3.add ((a0).toNat * 2)) = some (.int .i64 ((Qt l0 a0).f0)) ∧ w'.cell? ⟨(a3.add ((a0).toNat * 2)).block, (a3.add ((a0).toNat * 2)).off + 1, none⟩ = some (.slice h7 ((Qt l0 a0).f1).length h8) ∧ w'.cell? (a3.add ((a0).toNat * 2)) = some (.int .i64 ((Qt l0 a0).f0)) ∧ w'.cell? ⟨(a3.add ((a0).toNat * 2)).block, (a3.add ((a0).toNat * 2)).off + 1, none⟩ = some (.slice h7 ((Qt l0 a0).f1).length h8)) (ds := [15, 16]) (bz_ 18 0) (by kernel_rfl) rfl rfl ⟨i5, e1, i6, e2⟩ (fun hHeld => ?_); refine Yd Qi.tab8 Qi.bits8 (fun HT_ HW_ => ?_)
          generalize wr.drew = w26 at a1 a4 HL101_1 a2 HB HL123_1 HL125_1 b8 b9 i5 e1 i6 e2 hHeld ⊢
          refine Qx (i := 0) (N := some 51) (v := ?_) (a' := ?_) (bz_ 18 1) rfl rfl (Qs HT_.out (by kernel_rfl)) (fun _ _ _ h => h) (Or.inl ⟨by rfl, ?_⟩) ?_ ?_; rotate_left
          ·intro w'
           go_simp
           with_reducible rfl
          rotate_left
          ·simp only [Act.put, sA_, sB_, sC_, Qp, Qr]
           rfl
          refine Qx (i := 2) (N := some 53) (v := ?_) (a' := ?_) (bz_ 18 5) rfl rfl (Qs HT_.out (by kernel_rfl)) (fun _ _ _ h => h) (Or.inl ⟨by rfl, ?_⟩) ?_ ?_; rotate_left
          ·intro w'
           go_simp
           with_reducible rfl
          rotate_left
          ·simp only [Act.put, sA_, sB_, sC_, Qp, Qr]
           rfl
          refine Qx (i := 3) (N := some 54) (v := ?_) (a' := ?_) (bz_ 18 13) rfl rfl (Qs HT_.out (by kernel_rfl)) (fun _ _ _ h => h) (Or.inl ⟨by rfl, ?_⟩) ?_ ?_; rotate_left
          ·intro w'
           go_simp
           with_reducible rfl
          rotate_left
          ·simp only [Act.put, sA_, sB_, sC_, Qp, Qr]
           rfl
          refine Qx (i := 4) (N := some 55) (v := ?_) (a' := ?_) (bz_ 18 29) rfl rfl (Qs HT_.out (by kernel_rfl)) (fun _ _ _ h => h) (Or.inl ⟨by rfl, ?_⟩) ?_ ?_; rotate_left
          ·intro w'
           go_simp
           with_reducible rfl
          rotate_left
          ·simp only [Act.put, sA_, sB_, sC_, Qp, Qr]
           rfl
          refine Qx (i := 5) (N := some 56) (v := ?_) (a' := ?_) (bz_ 18 61) rfl rfl (Qs HT_.out (by kernel_rfl)) (fun _ _ _ h => h) (Or.inl ⟨by rfl, ?_⟩) ?_ ?_; rotate_left
          ·intro w'
           go_simp
           with_reducible rfl
          rotate_left
          ·simp only [Act.put, sA_, sB_, sC_, Qp, Qr]
           rfl
          refine Qx (i := 9) (N := some 60) (v := ?_) (a' := ?_) (bz_ 18 573) rfl rfl (Qs HT_.out (by kernel_rfl)) (fun _ _ _ h => h) (Or.inl ⟨by rfl, ?_⟩) ?_ ?_; rotate_left
          ·intro w'
           go_simp
           with_reducible rfl
          rotate_left
          ·simp only [Act.put, sA_, sB_, sC_, Qp, Qr]
           rfl
          refine Qx (i := 10) (N := some 61) (v := ?_) (a' := ?_) (bz_ 18 1597) rfl rfl (Qs HT_.out (by kernel_rfl)) (fun _ _ _ h => h) (Or.inl ⟨by rfl, ?_⟩) ?_ ?_; rotate_left
          ·intro w'
           go_simp
           with_reducible rfl
          rotate_left
          ·simp only [Act.put, sA_, sB_, sC_, Qp, Qr]
           rfl
          refine Qx (i := 11) (N := some 62) (v := ?_) (a' := ?_) (bz_ 18 3645) rfl rfl (Qs HT_.out (by kernel_rfl)) (fun _ _ _ h => h) (Or.inl ⟨by rfl, ?_⟩) ?_ ?_; rotate_left
          ·intro w'
           go_simp
           with_reducible rfl
          rotate_left
          ·simp only [Act.put, sA_, sB_, sC_, Qp, Qr]
           rfl
          refine Qx (i := 12) (N := some 63) (v := ?_) (a' := ?_) (bz_ 18 7741) rfl rfl (Qs HT_.out (by kernel_rfl)) (fun _ _ _ h => h) (Or.inl ⟨by rfl, ?_⟩) ?_ ?_; rotate_left
          ·intro w'
           go_simp
           with_reducible rfl
          rotate_left
          ·simp only [Act.put, sA_, sB_, sC_, Qp, Qr]
           rfl
          refine take_ (i := 6) (N := some 57) (v := ?_) (a' := ?_) (bz_ 18 7805) rfl rfl (Xb HT_.out HW_.out (by kernel_rfl)) (fun _ _ _ h => h) (Or.inl ⟨by rfl, ?_⟩) hHeld ?_ ?_; rotate_left
          ·rintro w' ⟨s0, s1, s2, s3⟩
           go_simp
           with_reducible rfl
          rotate_left
          ·simp only [Act.put, sA_, sB_, sC_, Qp, Qr]
           rfl
          refine take_ (i := 13) (N := some 64) (v := ?_) (a' := ?_) (bz_ 18 15997) rfl rfl (Xb HT_.out HW_.out (by kernel_rfl)) (fun _ _ _ h => h) (Or.inl ⟨by rfl, ?_⟩) hHeld ?_ ?_; rotate_left
          ·rintro w' ⟨s0, s1, s2, s3⟩
           go_simp
           with_reducible rfl
          rotate_left
          ·simp only [Act.put, sA_, sB_, sC_, Qp, Qr]
           rfl
          refine Jx (i := 1) (N := some 52) (bz_ 18 15999) rfl rfl (Ye HT_.out (by kernel_rfl)) (by decide) (fun K hK => ?_); refine Kd.R_lit_step (Kd.int .i64) _ 3 ?hg (N := 52) ?hd (xs := ([0, 2, 1] : List Int)) (inner := [.int .i64 0, .int .i64 2, .int .i64 1]) (ok := fun _ => True) (okp := fun _ => True) ?hr ?hp (fun _ hk => hk) trivial (Below.refl _ _) (Nat.le_refl _) (by simp) ?_; (case hd => rfl); (case hg => rfl); (case hr => first | (go_simp; done) | (go_simp; rfl)); (case hp => exact (Zz.one (show Kd.M (Kd.int .i64) _ _ _ 0 [.int .i64 0] from rfl) (Zz.one (show Kd.M (Kd.int .i64) _ _ _ 2 [.int .i64 2] from rfl) (Zz.one (show Kd.M (Kd.int .i64) _ _ _ 1 [.int .i64 1] from rfl) (Zz.none _ _))))); intro u9 w27 ho28 hb hg_ hnew_; have HS0_ := (hb.cell (World.block_lt_of_cell? _ _ (hHeld.1))).trans (hHeld.1); have HS1_ := (hb.cell (World.block_lt_of_cell? _ _ (hHeld.2.1))).trans (hHeld.2.1); have HS2_ := (hb.cell (World.block_lt_of_cell? _ _ (hHeld.2.2.1))).trans (hHeld.2.2.1); have HS3_ := (hb.cell (World.block_lt_of_cell? _ _ (hHeld.2.2.2))).trans (hHeld.2.2.2); clear hg_ hnew_
          (first | rw [← k0.out] at ho28 | (simp only [Int.reduceToNat] at ho28; rw [← k0.out] at ho28))
          have n0_ := Qa.mk (Kd.V_elder' (by (with_reducible repeat (first | apply Kd.V_alloc | apply Kd.V_drewN | apply Kd.V_drew)); exact a1.out) (Kd.R_base ho28) hb); have n1_ := Qa.mk (Kd.N_elder' (by (with_reducible repeat (first | apply Kd.N_alloc | apply Kd.N_drewN | apply Kd.N_drew)); exact a4.out) (Kd.R_base ho28) hb); have n2_ := Qa.mk (Kd.V_elder' (by (with_reducible repeat (first | apply Kd.V_alloc | apply Kd.V_drewN | apply Kd.V_drew)); exact HL101_1.out) (Kd.R_base ho28) hb); have n3_ := Qa.mk (Kd.V_elder' (by (with_reducible repeat (first | apply Kd.V_alloc | apply Kd.V_drewN | apply Kd.V_drew)); exact HL123_1.out) (Kd.R_base ho28) hb); have n4_ := Qa.mk (Kd.V_elder' (by (with_reducible repeat (first | apply Kd.V_alloc | apply Kd.V_drewN | apply Kd.V_drew)); exact HL125_1.out) (Kd.R_base ho28) hb); have n5_ := Qa.mk (Kd.R_lower (Kd.R_newM (M := fun k_ => (w.heap.size ≤ k_)) ho28 (Qh (by repeat (first | (with_reducible first | exact HB.out | apply Qc | apply Qb | apply Qd) | exact HB.out))) (fun k_ h_ => h_)) (Qh (by repeat (first | (with_reducible first | exact HB.out | apply Qc | apply Qb | apply Qd) | exact HB.out)))); have n6_ := Qa.mk (Kd.C_below (by repeat (first | (with_reducible exact a2.out) | (with_reducible refine Kd.C_alloc ?_ _) | (with_reducible refine Kd.C_drewN ?_ _) | (with_reducible refine Kd.C_drew ?_) | exact a2.out)) hb); have n7_ := Qa.mk (Kd.C_below (by repeat (first | (with_reducible exact b8.out) | (with_reducible refine Kd.C_alloc ?_ _) | (with_reducible refine Kd.C_drewN ?_ _) | (with_reducible refine Kd.C_drew ?_) | exact b8.out)) hb); have n8_ := Qa.mk (Kd.C_below (by repeat (first | (with_reducible exact b9.out) | (with_reducible refine Kd.C_alloc ?_ _) | (with_reducible refine Kd.C_drewN ?_ _) | (with_reducible refine Kd.C_drew ?_) | exact b9.out)) hb); have n9_ := Qa.mk (Qk (by repeat (first | (with_reducible first | exact HB.out | apply Qc | apply Qb | apply Qd) | exact HB.out)) hb); clear a1; clear a4; clear HL101_1; clear HL123_1; clear HL125_1; clear a2; clear b8; clear b9; clear HB; have a1 := n0_; have a4 := n1_; have HL101_1 := n2_; have HL123_1 := n3_; have HL125_1 := n4_; have d5 := n5_; have a2 := n6_; have b8 := n7_; have b9 := n8_; have HB := n9_; clear n0_ n1_ n2_ n3_ n4_ n5_ n6_ n7_ n8_ n9_; clear hb ho28; obtain ⟨v0, d7, eo29⟩ := Kd.R_slice d5.out; subst eo29; obtain ⟨ado29, fo29, _⟩ := Kd.at_int (Kd.R_reads' d5.out).2.2 0 (by decide) (by rw [k0.out]; simp)
          cases fo29; refine hK.out _ _ ⟨HS0_, HS1_, HS2_, HS3_⟩ (fun hHeld => ?_); clear hK K; refine Vn (a' := ?_) ?_ ?_; rotate_left
          ·show Act.put _ (some 52) _ = _
           simp only [Act.put, sA_, sB_, sC_, Qp, Qr]; rfl
          refine Qx (i := 7) (N := some 58) (v := ?_) (a' := ?_) (bz_ 18 16127) rfl rfl (Qs HT_.out (by kernel_rfl)) (fun _ _ _ h => h) (Or.inl ⟨by rfl, ?_⟩) ?_ ?_; rotate_left
          ·intro w'
           go_simp
           with_reducible rfl
          rotate_left
          ·simp only [Act.put, sA_, sB_, sC_, Qp, Qr]
           rfl
          refine Jx (i := 8) (N := some 59) (bz_ 18 16383) rfl rfl (Ye HT_.out (by kernel_rfl)) (by decide) (fun K hK => ?_)
          (have q8 : 0 ≤ (((Qt l0 a0).f0) : Int) := of_decide_eq_true (by first | (with_reducible assumption) | assumption); have q9 : ((Qt l0 a0).f0) < (a8.length : Int) := of_decide_eq_true (by first | (with_reducible assumption) | assumption); obtain ⟨o3, r0, m0⟩ := Kd.at_int (Kd.R_reads' d5.out).2.2 ((Qt l0 a0).f0) q8 q9; obtain rfl : ado29 = o3 := (by injection r0))
          refine Jp (w1 := ?_) (v := ?_) (by rfl) rfl ?_ ?_; rotate_left 2
          ·go_simp
           constructor
           ·rfl
           ·rfl
          clear m0; refine hK.out _ _ ⟨hHeld.1, hHeld.2.1, hHeld.2.2.1, hHeld.2.2.2⟩ (fun hHeld => ?_); clear hK K; refine Vn (a' := ?_) ?_ ?_; rotate_left
          ·show Act.put _ (some 59) _ = _
           simp only [Act.put, sA_, sB_, sC_, Qp, Qr]; rfl
          refine Qx (i := 14) (N := some 65) (v := ?_) (a' := ?_) (bz_ 18 32767) rfl rfl (Qs HT_.out (by kernel_rfl)) (fun _ _ _ h => h) (Or.inl ⟨by rfl, ?_⟩) ?_ ?_; rotate_left
          ·intro w'
           go_simp
           with_reducible rfl
          rotate_left
          ·simp only [Act.put, sA_, sB_, sC_, Qp, Qr]
           rfl
          refine Km (i := 15) (N := some 66) (bz_ 18 65535) rfl rfl (Ye HT_.out (by kernel_rfl)) (by decide) (fun K hK => ?_); refine Jp (w1 := ?_) (v := ?_) (by rfl) rfl ?_ ?_; rotate_left 2
          ·go_simp
           constructor
           ·rfl
           ·rfl
          refine hK.out _ _ ?_; clear hK K; refine Vn (a' := ?_) ?_ ?_; rotate_left
          ·show Act.put _ (some 66) _ = _
           simp only [Act.put, sA_, sB_, sC_, Qp, Qr]; rfl
          refine Km (i := 16) (N := some 67) (bz_ 18 131071) rfl rfl (Ye HT_.out (by kernel_rfl)) (by decide) (fun K hK => ?_); refine Kd.N_append_step k48 (w0 := w) w.heap.size (by rfl) (.tmp 51) (.tmp 66) 28 48 (.agg #[(.int .i64 0), (.slice none 0 0)]) 32 rfl Tryz.underlying28 Qak rfl (by decide) (by omega) u3 a6 (⟨rd a8 ((Qt l0 a0).f0), (Qt l0 a0).f1⟩ : S48) [.int .i64 (rd a8 ((Qt l0 a0).f0)), .slice h7 ((Qt l0 a0).f1).length h8] (fun k_ => (P0_ k_ ∨ w.heap.size ≤ k_) ∧ some k_ ≠ (.slice (some ado29) a8.length d7 : Value).ownBlock) (fun k_ => ((fun k_ => (P0_ k_ ∨ w.heap.size ≤ k_) ∧ some k_ ≠ (.slice (some ado29) a8.length d7 : Value).ownBlock)) k_ ∧ some k_ ≠ (u3 : Value).ownBlock) rfl rfl ?aP (fun _ hk => hk) ?aF ?aO ?aB ?aS ?aL ?_
          (case aP => exact (Jg _ _ (⟨rd a8 ((Qt l0 a0).f0), (Qt l0 a0).f1⟩ : S48) (Kd.V_reads' (Kd.V_mono (ok' := (fun k_ => ((fun k_ => (P0_ k_ ∨ w.heap.size ≤ k_) ∧ some k_ ≠ (.slice (some ado29) a8.length d7 : Value).ownBlock)) k_ ∧ some k_ ≠ (u3 : Value).ownBlock)) (HL125_1.out) (fun k_ hk => ⟨⟨hk.1.1, hk.2⟩, hk.1.2⟩))).2.1 (Kd.V_F (Kd.V_mono (ok' := (fun k_ => ((fun k_ => (P0_ k_ ∨ w.heap.size ≤ k_) ∧ some k_ ≠ (.slice (some ado29) a8.length d7 : Value).ownBlock)) k_ ∧ some k_ ≠ (u3 : Value).ownBlock)) (HL125_1.out) (fun k_ hk => ⟨⟨hk.1.1, hk.2⟩, hk.1.2⟩)))))
          (case aB => exact (by repeat (first | (with_reducible first | exact HB.out | apply Qc | apply Qb | apply Qd) | exact HB.out)))
          (case aF => exact (fun k_ hk => ⟨(.inr (Nat.le_trans (Qh (by repeat (first | (with_reducible first | exact HB.out | apply Qc | apply Qb | apply Qd) | exact HB.out))) hk)), Kd.fresh' (Kd.R_lt (by (with_reducible repeat (first | apply Kd.R_alloc | apply Kd.R_drewN | apply Kd.R_drew)); exact d5.out)) k_ hk⟩))
          (case aO => exact (by (with_reducible repeat (first | apply Kd.N_alloc | apply Kd.N_drewN | apply Kd.N_drew)); exact a4.out))
          (case aS => exact (Qh (by repeat (first | (with_reducible first | exact HB.out | apply Qc | apply Qb | apply Qd) | exact HB.out))))
          (case aL => have := n9.out; omega)
          intro v2 w30 ho hb hg hat
          rw [← o0.out] at ho
          have n0_ := Qa.mk (Kd.V_afterv (ok := (fun k_ => (P0_ k_ ∨ w.heap.size ≤ k_) ∧ some k_ ≠ (.slice (some ado29) a8.length d7 : Value).ownBlock)) (by (with_reducible repeat (first | apply Kd.V_alloc | apply Kd.V_drewN | apply Kd.V_drew)); exact Kd.V_mono a1.out (fun _ hk => ⟨⟨hk.1.1, hk.2⟩, hk.1.2⟩)) hg hat); have n1_ := Qa.mk (Kd.V_afterv (ok := (fun k_ => (P0_ k_ ∨ w.heap.size ≤ k_) ∧ some k_ ≠ (.slice (some ado29) a8.length d7 : Value).ownBlock)) (by (with_reducible repeat (first | apply Kd.V_alloc | apply Kd.V_drewN | apply Kd.V_drew)); exact Kd.V_mono HL101_1.out (fun _ hk => ⟨⟨hk.1.1, hk.2⟩, hk.1.2⟩)) hg hat); have n2_ := Qa.mk (Kd.V_afterv (ok := (fun k_ => (P0_ k_ ∨ w.heap.size ≤ k_) ∧ some k_ ≠ (.slice (some ado29) a8.length d7 : Value).ownBlock)) (by (with_reducible repeat (first | apply Kd.V_alloc | apply Kd.V_drewN | apply Kd.V_drew)); exact Kd.V_mono HL123_1.out (fun _ hk => ⟨⟨hk.1.1, hk.2⟩, hk.1.2⟩)) hg hat); have n3_ := Qa.mk (Kd.V_afterv (ok := (fun k_ => (P0_ k_ ∨ w.heap.size ≤ k_) ∧ some k_ ≠ (.slice (some ado29) a8.length d7 : Value).ownBlock)) (by (with_reducible repeat (first | apply Kd.V_alloc | apply Kd.V_drewN | apply Kd.V_drew)); exact Kd.V_mono HL125_1.out (fun _ hk => ⟨⟨hk.1.1, hk.2⟩, hk.1.2⟩)) hg hat); have n4_ := Qa.mk (Kd.R_over' (by (with_reducible repeat (first | apply Kd.R_alloc | apply Kd.R_drewN | apply Kd.R_drew)); exact d5.out) (Kd.N_typed (by (with_reducible repeat (first | apply Kd.N_alloc | apply Kd.N_drewN | apply Kd.N_drew)); exact a4.out)) (by decide) hg); have n5_ := Qa.mk (hb); have n6_ := Qa.mk (ho); clear a1; clear HL101_1; clear HL123_1; clear HL125_1; clear d5; clear HB; clear a4; have a1 := n0_; have HL101_1 := n1_; have HL123_1 := n2_; have HL125_1 := n3_; have d5 := n4_; have HB := n5_; have o4 := n6_; clear n0_ n1_ n2_ n3_ n4_ n5_ n6_; clear ho hb hg hat; refine hK.out _ _ ?_; clear hK K; refine Vn (a' := ?_) ?_ ?_; rotate_left
          ·show Act.put _ (some 67) _ = _
           simp only [Act.put, sA_, sB_, sC_, Qp, Qr]; rfl
          refine Qx (i := 17) (N := some 3) (v := ?_) (a' := ?_) (bz_ 18 262143) rfl rfl (Qs HT_.out (by kernel_rfl)) (fun _ _ _ h => h) (Or.inl ⟨by rfl, ?_⟩) ?_ ?_; rotate_left
          ·intro w'
           go_simp
           with_reducible rfl
          rotate_left
          ·simp only [Act.put, sA_, sB_, sC_, Qp, Qr]
           rfl
          refine Un (Vb HT_.out (by kernel_rfl)) ?_
          try go_wp2
          go_roundg k1
          case measure => have := HK1.out; omega
          case rel => exact ⟨(m7), (wrap64 (a0 + 1)), (by first | rfl | (simp; done) | (simp [*]; done)), H', ⟨by have := HK1.out; omega⟩, ⟨by (with_reducible repeat (first | apply Kd.V_alloc | apply Kd.V_drewN | apply Kd.V_drew)); exact Kd.V_mono a1.out (fun _ hk => ⟨hk.1.1, hk.2⟩)⟩, ⟨by (with_reducible repeat (first | apply Kd.N_alloc | apply Kd.N_drewN | apply Kd.N_drew)); exact Kd.N_mono o4.out (fun _ hk => hk.1)⟩, ⟨by repeat (first | (with_reducible first | exact HB.out | apply Qc | apply Qb | apply Qd) | exact HB.out)⟩⟩
         ·rw [if_neg c25] at H
          exact absurd H (by simp)
        ·rw [if_neg c24] at H
         exact absurd H (by simp)
       ·rw [if_neg c23] at H
        exact absurd H (by simp)
     ·rw [if_neg c4] at H
      have p4 : (((Qt l0 a0).f0) == 1) = false := beq_eq_false_iff_ne.mpr c4; have p5 : (((Qt l0 a0).f0) != 1) = true := bne_iff_ne.mpr c4; obtain ⟨a9, f5⟩ : ∃ y_ : List Int, y_ = (([0, 2, 1] : List Int)) := ⟨_, rfl⟩
      replace H : (if 0 ≤ ((Qt l0 a0).f0) then (if ((Qt l0 a0).f0) < (a9.length : Int) then (if a6.length < 4398046511104 then (Qi.l0 k1 l0 (a6 ++ [(⟨rd a9 ((Qt l0 a0).f0), (Qt l0 a0).f1⟩ : S48)]) (wrap64 (a0 + 1))) else (none)) else (none)) else (none)) = some r := by first | (rw [f5]; with_reducible exact H) | (have H2_ := (Option.bind_some _ _).symm.trans H; rw [f5]; with_reducible exact H2_) | (have H2_ := (Option.bind_some _ _).symm.trans H; with_reducible exact H2_) | with_reducible exact H | (rw [f5]; exact H) | exact H
      have k7 := Qa.mk f5; clear f5
      by_cases c31 : 0 ≤ ((Qt l0 a0).f0)
      ·rw [if_pos c31] at H
       have t9 : decide (0 ≤ ((Qt l0 a0).f0)) = true := decide_eq_true c31; clear c31
       by_cases c32 : ((Qt l0 a0).f0) < (a9.length : Int)
       ·rw [if_pos c32] at H
        have u0 : decide (((Qt l0 a0).f0) < (a9.length : Int)) = true := decide_eq_true c32; clear c32
        by_cases c33 : a6.length < 4398046511104
        ·rw [if_pos c33] at H
         have o5 := Qa.mk c33; clear c33; obtain ⟨m8, f6⟩ : ∃ y_ : List (S48), y_ = (a6 ++ [(⟨rd a9 ((Qt l0 a0).f0), (Qt l0 a0).f1⟩ : S48)]) := ⟨_, rfl⟩
         replace H : (Qi.l0 k1 l0 m8 (wrap64 (a0 + 1))) = some r := by first | (rw [f6]; with_reducible exact H) | (have H2_ := (Option.bind_some _ _).symm.trans H; rw [f6]; with_reducible exact H2_) | (have H2_ := (Option.bind_some _ _).symm.trans H; with_reducible exact H2_) | with_reducible exact H | (rw [f6]; exact H) | exact H
         have o6 := Qa.mk f6; clear f6; have H' := Qa.mk H; clear H; have b0 : 0 ≤ (a0 : Int) := of_decide_eq_true (by first | (with_reducible assumption) | assumption); have b1 : a0 < (l0.length : Int) := of_decide_eq_true (by first | (with_reducible assumption) | assumption); obtain ⟨a3, g4, g5, e5, f9, b3, hl101_1, hi101_1⟩ := Vs (Kd.V_reads' a1.out).2.2 a0 b0 b1
         cases e5; obtain ⟨ce101, hce101, hMe101, hcc101⟩ := Kd.V_get a1.out z48 a0 b0 (by first | exact b1 | exact of_decide_eq_true (by first | (with_reducible assumption) | assumption) | (have e_ := (Kd.V_reads' a1.out).1; omega)); obtain ⟨ua101_1, uc101_1, rfl, ul101_1, ge101_1⟩ := Yh hMe101; have hv101_1 := hcc101 1 _ rfl
         rw [Xf _ _ 1 (by omega)] at hv101_1
         replace hv101_1 := Option.some.inj (hv101_1.symm.trans b3)
         injection hv101_1 with hva_ hvn_ hvc_
         rw [hva_] at ge101_1
         rw [hvc_] at ul101_1
         have HL101_1 := Qa.mk (show Kd.V Kd.string 9 _ w.heap.size _ _ ((Qt l0 a0).f1) from Kd.V_mk ul101_1 ge101_1); clear hva_ hvn_ hvc_ ge101_1 ul101_1; clear hcc101 hce101; have a2 := Qa.mk hi101_1; have g0 := Qa.mk hl101_1; clear hi101_1 hl101_1; replace b0 := eq_true b0; replace b1 := eq_true b1
         try go_wp2
         have pi133 : (0 ≤ (((Qt l0 a0).f0) : Int)) = True := eq_true (of_decide_eq_true (by first | (with_reducible assumption) | assumption)); have qi133 : (((Qt l0 a0).f0) < (a9.length : Int)) = True := eq_true (of_decide_eq_true (by first | (with_reducible assumption) | assumption)); have n0_ := Qa.mk (Kd.V_drew a1.out); have n1_ := Qa.mk (Kd.N_drew a4.out); have n2_ := Qa.mk (Kd.V_drew HL101_1.out); have n3_ := Qa.mk (Kd.C_drew a2.out); have n4_ := Qa.mk (Qd HB.out); clear a1; clear a4; clear HL101_1; clear a2; clear HB; have a1 := n0_; have a4 := n1_; have HL101_1 := n2_; have a2 := n3_; have HB := n4_; clear n0_ n1_ n2_ n3_ n4_; have k8 : 0 ≤ (a0 : Int) := of_decide_eq_true (by first | (with_reducible assumption) | assumption); have k9 : a0 < (l0.length : Int) := of_decide_eq_true (by first | (with_reducible assumption) | assumption); obtain ⟨o7, h9, i0, r1, i7, e3, hl132_1, hi132_1⟩ := Vs (Kd.V_reads' a1.out).2.2 a0 k8 k9; obtain rfl : a3 = o7 := (by injection r1); obtain ⟨ce132, hce132, hMe132, hcc132⟩ := Kd.V_get a1.out z48 a0 k8 (by first | exact k9 | exact of_decide_eq_true (by first | (with_reducible assumption) | assumption) | (have e_ := (Kd.V_reads' a1.out).1; omega)); obtain ⟨ua132_1, uc132_1, rfl, ul132_1, ge132_1⟩ := Yh hMe132; have hv132_1 := hcc132 1 _ rfl
         rw [Xf _ _ 1 (by omega)] at hv132_1
         replace hv132_1 := Option.some.inj (hv132_1.symm.trans e3)
         injection hv132_1 with hva_ hvn_ hvc_
         rw [hva_] at ge132_1
         rw [hvc_] at ul132_1
         have HL132_1 := Qa.mk (show Kd.V Kd.string 9 _ w.heap.size _ _ ((Qt l0 a0).f1) from Kd.V_mk ul132_1 ge132_1); clear hva_ hvn_ hvc_ ge132_1 ul132_1; clear hcc132 hce132; have c1 := Qa.mk hi132_1; have s6 := Qa.mk hl132_1; clear hi132_1 hl132_1; replace k8 := eq_true k8; replace k9 := eq_true k9; have l3 : 0 ≤ (a0 : Int) := of_decide_eq_true (by first | (with_reducible assumption) | assumption); have l4 : a0 < (l0.length : Int) := of_decide_eq_true (by first | (with_reducible assumption) | assumption); obtain ⟨o8, t2, t3, r2, i8, e4, hl134_1, hi134_1⟩ := Vs (Kd.V_reads' a1.out).2.2 a0 l3 l4; obtain rfl : a3 = o8 := (by injection r2); obtain ⟨ce134, hce134, hMe134, hcc134⟩ := Kd.V_get a1.out z48 a0 l3 (by first | exact l4 | exact of_decide_eq_true (by first | (with_reducible assumption) | assumption) | (have e_ := (Kd.V_reads' a1.out).1; omega)); obtain ⟨ua134_1, uc134_1, rfl, ul134_1, ge134_1⟩ := Yh hMe134; have hv134_1 := hcc134 1 _ rfl
         rw [Xf _ _ 1 (by omega)] at hv134_1
         replace hv134_1 := Option.some.inj (hv134_1.symm.trans e4)
         injection hv134_1 with hva_ hvn_ hvc_
         rw [hva_] at ge134_1
         rw [hvc_] at ul134_1
         have HL134_1 := Qa.mk (show Kd.V Kd.string 9 _ w.heap.size _ _ ((Qt l0 a0).f1) from Kd.V_mk ul134_1 ge134_1); clear hva_ hvn_ hvc_ ge134_1 ul134_1; clear hcc134 hce134; have d0 := Qa.mk hi134_1; have s7 := Qa.mk hl134_1; clear hi134_1 hl134_1; replace l3 := eq_true l3; replace l4 := eq_true l4; have ea_ := Option.some.inj (e3.symm.trans e4)
         injection ea_ with ea_ en_ ec_
         subst ea_; subst ec_; clear en_; refine Vo (n := 18) (S := fun w' => w'.cell? (a3.add ((a0).toNat * 2)) = some (.int .i64 ((Qt l0 a0).f0)) ∧ w'.cell? ⟨(a3.add ((a0).toNat * 2)).block, (a3.add ((a0).toNat * 2)).off + 1, none⟩ = some (.slice h9 ((Qt l0 a0).f1).length i0) ∧ w'.cell? (a3.add ((a0).toNat * 2)) = some (.int .i64 ((Qt l0 a0).f0)) ∧ w'.cell? ⟨(a3.add ((a0).toNat * 2)).block, (a3.add ((a0).toNat * 2)).off + 1, none⟩ = some (.slice h9 ((Qt l0 a0).f1).length i0)) (ds := [15, 16]) (bz_ 18 0) (by kernel_rfl) rfl rfl ⟨i7, e3, i8, e4⟩ (fun hHeld => ?_); refine Yd Qi.tab8 Qi.bits8 (fun HT_ HW_ => ?_)
         generalize wr.drew = w34 at a1 a4 HL101_1 a2 HB HL132_1 HL134_1 c1 d0 i7 e3 i8 e4 hHeld ⊢
         refine Qx (i := 0) (N := some 51) (v := ?_) (a' := ?_) (bz_ 18 1) rfl rfl (Qs HT_.out (by kernel_rfl)) (fun _ _ _ h => h) (Or.inl ⟨by rfl, ?_⟩) ?_ ?_; rotate_left
         ·intro w'
          go_simp
          with_reducible rfl
         rotate_left
         ·simp only [Act.put, sA_, sB_, sC_, Qp, Qr]
          rfl
         refine Qx (i := 2) (N := some 53) (v := ?_) (a' := ?_) (bz_ 18 5) rfl rfl (Qs HT_.out (by kernel_rfl)) (fun _ _ _ h => h) (Or.inl ⟨by rfl, ?_⟩) ?_ ?_; rotate_left
         ·intro w'
          go_simp
          with_reducible rfl
         rotate_left
         ·simp only [Act.put, sA_, sB_, sC_, Qp, Qr]
          rfl
         refine Qx (i := 3) (N := some 54) (v := ?_) (a' := ?_) (bz_ 18 13) rfl rfl (Qs HT_.out (by kernel_rfl)) (fun _ _ _ h => h) (Or.inl ⟨by rfl, ?_⟩) ?_ ?_; rotate_left
         ·intro w'
          go_simp
          with_reducible rfl
         rotate_left
         ·simp only [Act.put, sA_, sB_, sC_, Qp, Qr]
          rfl
         refine Qx (i := 4) (N := some 55) (v := ?_) (a' := ?_) (bz_ 18 29) rfl rfl (Qs HT_.out (by kernel_rfl)) (fun _ _ _ h => h) (Or.inl ⟨by rfl, ?_⟩) ?_ ?_; rotate_left
         ·intro w'
          go_simp
          with_reducible rfl
         rotate_left
         ·simp only [Act.put, sA_, sB_, sC_, Qp, Qr]
          rfl
         refine Qx (i := 5) (N := some 56) (v := ?_) (a' := ?_) (bz_ 18 61) rfl rfl (Qs HT_.out (by kernel_rfl)) (fun _ _ _ h => h) (Or.inl ⟨by rfl, ?_⟩) ?_ ?_; rotate_left
         ·intro w'
          go_simp
          with_reducible rfl
         rotate_left
         ·simp only [Act.put, sA_, sB_, sC_, Qp, Qr]
          rfl
         refine Qx (i := 9) (N := some 60) (v := ?_) (a' := ?_) (bz_ 18 573) rfl rfl (Qs HT_.out (by kernel_rfl)) (fun _ _ _ h => h) (Or.inl ⟨by rfl, ?_⟩) ?_ ?_; rotate_left
         ·intro w'
          go_simp
          with_reducible rfl
         rotate_left
         ·simp only [Act.put, sA_, sB_, sC_, Qp, Qr]
          rfl
         refine Qx (i := 10) (N := some 61) (v := ?_) (a' := ?_) (bz_ 18 1597) rfl rfl (Qs HT_.out (by kernel_rfl)) (fun _ _ _ h => h) (Or.inl ⟨by rfl, ?_⟩) ?_ ?_; rotate_left
         ·intro w'
          go_simp
          with_reducible rfl
         rotate_left
         ·simp only [Act.put, sA_, sB_, sC_, Qp, Qr]
          rfl
         refine Qx (i := 11) (N := some 62) (v := ?_) (a' := ?_) (bz_ 18 3645) rfl rfl (Qs HT_.out (by kernel_rfl)) (fun _ _ _ h => h) (Or.inl ⟨by rfl, ?_⟩) ?_ ?_; rotate_left
         ·intro w'
          go_simp
          with_reducible rfl
         rotate_left
         ·simp only [Act.put, sA_, sB_, sC_, Qp, Qr]
          rfl
         refine Qx (i := 12) (N := some 63) (v := ?_) (a' := ?_) (bz_ 18 7741) rfl rfl (Qs HT_.out (by kernel_rfl)) (fun _ _ _ h => h) (Or.inl ⟨by rfl, ?_⟩) ?_ ?_; rotate_left
         ·intro w'
          go_simp
          with_reducible rfl
         rotate_left
         ·simp only [Act.put, sA_, sB_, sC_, Qp, Qr]
          rfl
         refine take_ (i := 6) (N := some 57) (v := ?_) (a' := ?_) (bz_ 18 7805) rfl rfl (Xb HT_.out HW_.out (by kernel_rfl)) (fun _ _ _ h => h) (Or.inl ⟨by rfl, ?_⟩) hHeld ?_ ?_; rotate_left
         ·rintro w' ⟨s0, s1, s2, s3⟩
          go_simp
          with_reducible rfl
         rotate_left
         ·simp only [Act.put, sA_, sB_, sC_, Qp, Qr]
          rfl
         refine take_ (i := 13) (N := some 64) (v := ?_) (a' := ?_) (bz_ 18 15997) rfl rfl (Xb HT_.out HW_.out (by kernel_rfl)) (fun _ _ _ h => h) (Or.inl ⟨by rfl, ?_⟩) hHeld ?_ ?_; rotate_left
         ·rintro w' ⟨s0, s1, s2, s3⟩
          go_simp
          with_reducible rfl
         rotate_left
         ·simp only [Act.put, sA_, sB_, sC_, Qp, Qr]
          rfl
         refine Jx (i := 1) (N := some 52) (bz_ 18 15999) rfl rfl (Ye HT_.out (by kernel_rfl)) (by decide) (fun K hK => ?_); refine Kd.R_lit_step (Kd.int .i64) _ 3 ?hg (N := 52) ?hd (xs := ([0, 2, 1] : List Int)) (inner := [.int .i64 0, .int .i64 2, .int .i64 1]) (ok := fun _ => True) (okp := fun _ => True) ?hr ?hp (fun _ hk => hk) trivial (Below.refl _ _) (Nat.le_refl _) (by simp) ?_; (case hd => rfl); (case hg => rfl); (case hr => first | (go_simp; done) | (go_simp; rfl)); (case hp => exact (Zz.one (show Kd.M (Kd.int .i64) _ _ _ 0 [.int .i64 0] from rfl) (Zz.one (show Kd.M (Kd.int .i64) _ _ _ 2 [.int .i64 2] from rfl) (Zz.one (show Kd.M (Kd.int .i64) _ _ _ 1 [.int .i64 1] from rfl) (Zz.none _ _))))); intro v5 w35 ho36 hb hg_ hnew_; have HS0_ := (hb.cell (World.block_lt_of_cell? _ _ (hHeld.1))).trans (hHeld.1); have HS1_ := (hb.cell (World.block_lt_of_cell? _ _ (hHeld.2.1))).trans (hHeld.2.1); have HS2_ := (hb.cell (World.block_lt_of_cell? _ _ (hHeld.2.2.1))).trans (hHeld.2.2.1); have HS3_ := (hb.cell (World.block_lt_of_cell? _ _ (hHeld.2.2.2))).trans (hHeld.2.2.2); clear hg_ hnew_
         (first | rw [← k7.out] at ho36 | (simp only [Int.reduceToNat] at ho36; rw [← k7.out] at ho36))
         have n0_ := Qa.mk (Kd.V_elder' (by (with_reducible repeat (first | apply Kd.V_alloc | apply Kd.V_drewN | apply Kd.V_drew)); exact a1.out) (Kd.R_base ho36) hb); have n1_ := Qa.mk (Kd.N_elder' (by (with_reducible repeat (first | apply Kd.N_alloc | apply Kd.N_drewN | apply Kd.N_drew)); exact a4.out) (Kd.R_base ho36) hb); have n2_ := Qa.mk (Kd.V_elder' (by (with_reducible repeat (first | apply Kd.V_alloc | apply Kd.V_drewN | apply Kd.V_drew)); exact HL101_1.out) (Kd.R_base ho36) hb); have n3_ := Qa.mk (Kd.V_elder' (by (with_reducible repeat (first | apply Kd.V_alloc | apply Kd.V_drewN | apply Kd.V_drew)); exact HL132_1.out) (Kd.R_base ho36) hb); have n4_ := Qa.mk (Kd.V_elder' (by (with_reducible repeat (first | apply Kd.V_alloc | apply Kd.V_drewN | apply Kd.V_drew)); exact HL134_1.out) (Kd.R_base ho36) hb); have n5_ := Qa.mk (Kd.R_lower (Kd.R_newM (M := fun k_ => (w.heap.size ≤ k_)) ho36 (Qh (by repeat (first | (with_reducible first | exact HB.out | apply Qc | apply Qb | apply Qd) | exact HB.out))) (fun k_ h_ => h_)) (Qh (by repeat (first | (with_reducible first | exact HB.out | apply Qc | apply Qb | apply Qd) | exact HB.out)))); have n6_ := Qa.mk (Kd.C_below (by repeat (first | (with_reducible exact a2.out) | (with_reducible refine Kd.C_alloc ?_ _) | (with_reducible refine Kd.C_drewN ?_ _) | (with_reducible refine Kd.C_drew ?_) | exact a2.out)) hb); have n7_ := Qa.mk (Kd.C_below (by repeat (first | (with_reducible exact c1.out) | (with_reducible refine Kd.C_alloc ?_ _) | (with_reducible refine Kd.C_drewN ?_ _) | (with_reducible refine Kd.C_drew ?_) | exact c1.out)) hb); have n8_ := Qa.mk (Kd.C_below (by repeat (first | (with_reducible exact d0.out) | (with_reducible refine Kd.C_alloc ?_ _) | (with_reducible refine Kd.C_drewN ?_ _) | (with_reducible refine Kd.C_drew ?_) | exact d0.out)) hb); have n9_ := Qa.mk (Qk (by repeat (first | (with_reducible first | exact HB.out | apply Qc | apply Qb | apply Qd) | exact HB.out)) hb); clear a1; clear a4; clear HL101_1; clear HL132_1; clear HL134_1; clear a2; clear c1; clear d0; clear HB; have a1 := n0_; have a4 := n1_; have HL101_1 := n2_; have HL132_1 := n3_; have HL134_1 := n4_; have d6 := n5_; have a2 := n6_; have c1 := n7_; have d0 := n8_; have HB := n9_; clear n0_ n1_ n2_ n3_ n4_ n5_ n6_ n7_ n8_ n9_; clear hb ho36; obtain ⟨v6, d8, eo37⟩ := Kd.R_slice d6.out; subst eo37; obtain ⟨ado37, fo37, _⟩ := Kd.at_int (Kd.R_reads' d6.out).2.2 0 (by decide) (by rw [k7.out]; simp)
         cases fo37; refine hK.out _ _ ⟨HS0_, HS1_, HS2_, HS3_⟩ (fun hHeld => ?_); clear hK K; refine Vn (a' := ?_) ?_ ?_; rotate_left
         ·show Act.put _ (some 52) _ = _
          simp only [Act.put, sA_, sB_, sC_, Qp, Qr]; rfl
         refine Qx (i := 7) (N := some 58) (v := ?_) (a' := ?_) (bz_ 18 16127) rfl rfl (Qs HT_.out (by kernel_rfl)) (fun _ _ _ h => h) (Or.inl ⟨by rfl, ?_⟩) ?_ ?_; rotate_left
         ·intro w'
          go_simp
          with_reducible rfl
         rotate_left
         ·simp only [Act.put, sA_, sB_, sC_, Qp, Qr]
          rfl
         refine Jx (i := 8) (N := some 59) (bz_ 18 16383) rfl rfl (Ye HT_.out (by kernel_rfl)) (by decide) (fun K hK => ?_)
         (have r3 : 0 ≤ (((Qt l0 a0).f0) : Int) := of_decide_eq_true (by first | (with_reducible assumption) | assumption); have r4 : ((Qt l0 a0).f0) < (a9.length : Int) := of_decide_eq_true (by first | (with_reducible assumption) | assumption); obtain ⟨o9, r5, m1⟩ := Kd.at_int (Kd.R_reads' d6.out).2.2 ((Qt l0 a0).f0) r3 r4; obtain rfl : ado37 = o9 := (by injection r5))
         refine Jp (w1 := ?_) (v := ?_) (by rfl) rfl ?_ ?_; rotate_left 2
         ·go_simp
          constructor
          ·rfl
          ·rfl
         clear m1; refine hK.out _ _ ⟨hHeld.1, hHeld.2.1, hHeld.2.2.1, hHeld.2.2.2⟩ (fun hHeld => ?_); clear hK K; refine Vn (a' := ?_) ?_ ?_; rotate_left
         ·show Act.put _ (some 59) _ = _
          simp only [Act.put, sA_, sB_, sC_, Qp, Qr]; rfl
         refine Qx (i := 14) (N := some 65) (v := ?_) (a' := ?_) (bz_ 18 32767) rfl rfl (Qs HT_.out (by kernel_rfl)) (fun _ _ _ h => h) (Or.inl ⟨by rfl, ?_⟩) ?_ ?_; rotate_left
         ·intro w'
          go_simp
          with_reducible rfl
         rotate_left
         ·simp only [Act.put, sA_, sB_, sC_, Qp, Qr]
          rfl
         refine Km (i := 15) (N := some 66) (bz_ 18 65535) rfl rfl (Ye HT_.out (by kernel_rfl)) (by decide) (fun K hK => ?_); refine Jp (w1 := ?_) (v := ?_) (by rfl) rfl ?_ ?_; rotate_left 2
         ·go_simp
          constructor
          ·rfl
          ·rfl
         refine hK.out _ _ ?_; clear hK K; refine Vn (a' := ?_) ?_ ?_; rotate_left
         ·show Act.put _ (some 66) _ = _
          simp only [Act.put, sA_, sB_, sC_, Qp, Qr]; rfl
         refine Km (i := 16) (N := some 67) (bz_ 18 131071) rfl rfl (Ye HT_.out (by kernel_rfl)) (by decide) (fun K hK => ?_); refine Kd.N_append_step k48 (w0 := w) w.heap.size (by rfl) (.tmp 51) (.tmp 66) 28 48 (.agg #[(.int .i64 0), (.slice none 0 0)]) 32 rfl Tryz.underlying28 Qak rfl (by decide) (by omega) u3 a6 (⟨rd a9 ((Qt l0 a0).f0), (Qt l0 a0).f1⟩ : S48) [.int .i64 (rd a9 ((Qt l0 a0).f0)), .slice h9 ((Qt l0 a0).f1).length i0] (fun k_ => (P0_ k_ ∨ w.heap.size ≤ k_) ∧ some k_ ≠ (.slice (some ado37) a9.length d8 : Value).ownBlock) (fun k_ => ((fun k_ => (P0_ k_ ∨ w.heap.size ≤ k_) ∧ some k_ ≠ (.slice (some ado37) a9.length d8 : Value).ownBlock)) k_ ∧ some k_ ≠ (u3 : Value).ownBlock) rfl rfl ?aP (fun _ hk => hk) ?aF ?aO ?aB ?aS ?aL ?_
         (case aP => exact (Jg _ _ (⟨rd a9 ((Qt l0 a0).f0), (Qt l0 a0).f1⟩ : S48) (Kd.V_reads' (Kd.V_mono (ok' := (fun k_ => ((fun k_ => (P0_ k_ ∨ w.heap.size ≤ k_) ∧ some k_ ≠ (.slice (some ado37) a9.length d8 : Value).ownBlock)) k_ ∧ some k_ ≠ (u3 : Value).ownBlock)) (HL134_1.out) (fun k_ hk => ⟨⟨hk.1.1, hk.2⟩, hk.1.2⟩))).2.1 (Kd.V_F (Kd.V_mono (ok' := (fun k_ => ((fun k_ => (P0_ k_ ∨ w.heap.size ≤ k_) ∧ some k_ ≠ (.slice (some ado37) a9.length d8 : Value).ownBlock)) k_ ∧ some k_ ≠ (u3 : Value).ownBlock)) (HL134_1.out) (fun k_ hk => ⟨⟨hk.1.1, hk.2⟩, hk.1.2⟩)))))
         (case aB => exact (by repeat (first | (with_reducible first | exact HB.out | apply Qc | apply Qb | apply Qd) | exact HB.out)))
         (case aF => exact (fun k_ hk => ⟨(.inr (Nat.le_trans (Qh (by repeat (first | (with_reducible first | exact HB.out | apply Qc | apply Qb | apply Qd) | exact HB.out))) hk)), Kd.fresh' (Kd.R_lt (by (with_reducible repeat (first | apply Kd.R_alloc | apply Kd.R_drewN | apply Kd.R_drew)); exact d6.out)) k_ hk⟩))
         (case aO => exact (by (with_reducible repeat (first | apply Kd.N_alloc | apply Kd.N_drewN | apply Kd.N_drew)); exact a4.out))
         (case aS => exact (Qh (by repeat (first | (with_reducible first | exact HB.out | apply Qc | apply Qb | apply Qd) | exact HB.out))))
         (case aL => have := o5.out; omega)
         intro v7 w38 ho hb hg hat
         rw [← o6.out] at ho
         have n0_ := Qa.mk (Kd.V_afterv (ok := (fun k_ => (P0_ k_ ∨ w.heap.size ≤ k_) ∧ some k_ ≠ (.slice (some ado37) a9.length d8 : Value).ownBlock)) (by (with_reducible repeat (first | apply Kd.V_alloc | apply Kd.V_drewN | apply Kd.V_drew)); exact Kd.V_mono a1.out (fun _ hk => ⟨⟨hk.1.1, hk.2⟩, hk.1.2⟩)) hg hat); have n1_ := Qa.mk (Kd.V_afterv (ok := (fun k_ => (P0_ k_ ∨ w.heap.size ≤ k_) ∧ some k_ ≠ (.slice (some ado37) a9.length d8 : Value).ownBlock)) (by (with_reducible repeat (first | apply Kd.V_alloc | apply Kd.V_drewN | apply Kd.V_drew)); exact Kd.V_mono HL101_1.out (fun _ hk => ⟨⟨hk.1.1, hk.2⟩, hk.1.2⟩)) hg hat); have n2_ := Qa.mk (Kd.V_afterv (ok := (fun k_ => (P0_ k_ ∨ w.heap.size ≤ k_) ∧ some k_ ≠ (.slice (some ado37) a9.length d8 : Value).ownBlock)) (by (with_reducible repeat (first | apply Kd.V_alloc | apply Kd.V_drewN | apply Kd.V_drew)); exact Kd.V_mono HL132_1.out (fun _ hk => ⟨⟨hk.1.1, hk.2⟩, hk.1.2⟩)) hg hat); have n3_ := Qa.mk (Kd.V_afterv (ok := (fun k_ => (P0_ k_ ∨ w.heap.size ≤ k_) ∧ some k_ ≠ (.slice (some ado37) a9.length d8 : Value).ownBlock)) (by (with_reducible repeat (first | apply Kd.V_alloc | apply Kd.V_drewN | apply Kd.V_drew)); exact Kd.V_mono HL134_1.out (fun _ hk => ⟨⟨hk.1.1, hk.2⟩, hk.1.2⟩)) hg hat); have n4_ := Qa.mk (Kd.R_over' (by (with_reducible repeat (first | apply Kd.R_alloc | apply Kd.R_drewN | apply Kd.R_drew)); exact d6.out) (Kd.N_typed (by (with_reducible repeat (first | apply Kd.N_alloc | apply Kd.N_drewN | apply Kd.N_drew)); exact a4.out)) (by decide) hg); have n5_ := Qa.mk (hb); have n6_ := Qa.mk (ho); clear a1; clear HL101_1; clear HL132_1; clear HL134_1; clear d6; clear HB; clear a4; have a1 := n0_; have HL101_1 := n1_; have HL132_1 := n2_; have HL134_1 := n3_; have d6 := n4_; have HB := n5_; have p0 := n6_; clear n0_ n1_ n2_ n3_ n4_ n5_ n6_; clear ho hb hg hat; refine hK.out _ _ ?_; clear hK K; refine Vn (a' := ?_) ?_ ?_; rotate_left
         ·show Act.put _ (some 67) _ = _
          simp only [Act.put, sA_, sB_, sC_, Qp, Qr]; rfl
         refine Qx (i := 17) (N := some 3) (v := ?_) (a' := ?_) (bz_ 18 262143) rfl rfl (Qs HT_.out (by kernel_rfl)) (fun _ _ _ h => h) (Or.inl ⟨by rfl, ?_⟩) ?_ ?_; rotate_left
         ·intro w'
          go_simp
          with_reducible rfl
         rotate_left
         ·simp only [Act.put, sA_, sB_, sC_, Qp, Qr]
          rfl
         refine Un (Vb HT_.out (by kernel_rfl)) ?_
         try go_wp2
         go_roundg k1
         case measure => have := HK1.out; omega
         case rel => exact ⟨(m8), (wrap64 (a0 + 1)), (by first | rfl | (simp; done) | (simp [*]; done)), H', ⟨by have := HK1.out; omega⟩, ⟨by (with_reducible repeat (first | apply Kd.V_alloc | apply Kd.V_drewN | apply Kd.V_drew)); exact Kd.V_mono a1.out (fun _ hk => ⟨hk.1.1, hk.2⟩)⟩, ⟨by (with_reducible repeat (first | apply Kd.N_alloc | apply Kd.N_drewN | apply Kd.N_drew)); exact Kd.N_mono p0.out (fun _ hk => hk.1)⟩, ⟨by repeat (first | (with_reducible first | exact HB.out | apply Qc | apply Qb | apply Qd) | exact HB.out)⟩⟩
        ·rw [if_neg c33] at H
         exact absurd H (by simp)
       ·rw [if_neg c32] at H
        exact absurd H (by simp)
      ·rw [if_neg c31] at H
       exact absurd H (by simp)
    ·rw [if_neg c3] at H
     exact absurd H (by simp)
   ·rw [if_neg c2] at H
    have p3 : decide (a0 < (l0.length : Int)) = false := decide_eq_false c2; clear c2; obtain rfl := Option.some.inj H
    go_wp2
    go_ret; exact ⟨_, by first | rfl | (simp [Qz, Za] <;> rfl) | (simp [*, Qz, Za] <;> rfl), by (with_reducible repeat (first | apply Kd.N_alloc | apply Kd.N_drewN | apply Kd.N_drew)); exact a4.out, by repeat (first | (with_reducible first | exact HB.out | apply Qc | apply Qb | apply Qd) | exact HB.out)⟩
def Zr.l0 : Nat → Int → List (S49) → Int → Int → Option (Bool)
 | 0, _, _, _, _ => none
 | k + 1, x3, x6, x7, x8 => if x8 < x7 then (if 0 ≤ x8 then (if x8 < (x6.length : Int) then (if ((Qy x6 x8).f0) < 0 then (some false) else (if ((Qy x6 x8).f0) > 2 then (some false) else (if (((Qy x6 x8).f1).length : Int) = 0 then (some false) else (if ((Qy x6 x8).f0) = x3 then (some false) else (if x3 = 2 then (if ((Qy x6 x8).f0) = 1 then (some false) else (Zr.l0 k ((Qy x6 x8).f0) x6 x7 (wrap64 (x8 + 1)))) else (Zr.l0 k ((Qy x6 x8).f0) x6 x7 (wrap64 (x8 + 1)))))))) else (none)) else (none)) else (some true)
def Zr.f (k : Nat) (l0 : List (S49)) : Option (Bool) := Zr.l0 k (-1) l0 (l0.length : Int) 0
theorem Zr.mono_l : ∀ k, (∀ y0 y1 y2 y3, LeO (Zr.l0 k y0 y1 y2 y3) (Zr.l0 (k + 1) y0 y1 y2 y3))
 | 0 => fun _ _ _ _ r h => by simp [Zr.l0] at h
 | k + 1 => by
  have ih0 := Zr.mono_l k
  ·intro y0 y1 y2 y3
   unfold Zr.l0
   repeat' first
   | (with_reducible exact ih0 _ _ _ _)
   | (with_reducible exact LeO.refl _)
   | (with_reducible exact LeO.none _)
   | (with_reducible refine LeO.ite ?_ ?_)
   | (with_reducible refine LeO.bind ?_ (fun _ => ?_))
   | exact ih0 _ _ _ _
   | exact LeO.none _
   | refine LeO.ite ?_ ?_
   | refine LeO.bind ?_ (fun _ => ?_)
theorem Zr.mono : ∀ a0 k, LeO (Zr.f k a0) (Zr.f (k + 1) a0) := by
 intro a0 k; have ih0 := Zr.mono_l k; unfold Zr.f
 repeat' first
   | (with_reducible exact ih0 _ _ _ _)
   | (with_reducible exact LeO.refl _)
   | (with_reducible exact LeO.none _)
   | (with_reducible refine LeO.ite ?_ ?_)
   | (with_reducible refine LeO.bind ?_ (fun _ => ?_))
   | exact ih0 _ _ _ _
   | exact LeO.none _
   | refine LeO.ite ?_ ?_
   | refine LeO.bind ?_ (fun _ => ?_)
set_option maxHeartbeats 8000000 in
set_option maxRecDepth 100000 in
theorem Zr.calls (k : Nat) (A0 : Option Addr) (c0 : Nat) (l0 : List (S49)) (r : Bool) (w : World) (hr0 : Kd.C k49 w A0 l0.length l0) (hc0 : l0.length ≤ c0) (h : Zr.f k l0 = some r) :
  Calls Tryz.prog 31 #[.slice A0 l0.length c0] w fun e w' => e = .returned (.bool r) ∧ Below w.heap.size w w' := by
 have hu49 := Tryz.underlying49; have HR0 := Qa.mk hr0; have HC0 := Qa.mk hc0; clear hr0 hc0; have HB := Qa.mk (Below.refl w.heap.size w); have H : (Zr.l0 k (-1) l0 (l0.length : Int) 0) = some r := h; clear h; have H' := Qa.mk H; clear H
 go_enter Tryz.func31, Tryz.ntmps31
 go_wp2
 go_loopg [3, 8] k (fun kq v3 v8 w' => ∃ (a8 : Int) (a1 : Int), v3 = .int .i64 a8 ∧ v8 = .int .i64 a1 ∧ Qa (Zr.l0 kq a8 l0 (l0.length : Int) a1 = some r) ∧ Qa (kq ≤ k) ∧ Qa (Below w.heap.size w w'))
 case atStart => exact ⟨((-1)), (0), (by first | rfl | (simp; done) | (simp [*]; done)), (by first | rfl | (simp; done) | (simp [*]; done)), H', ⟨Nat.le_refl _⟩, ⟨by repeat (first | (with_reducible first | exact HB.out | apply Qc | apply Qb | apply Qd) | exact HB.out)⟩⟩
 case round =>
  clear H'; obtain ⟨a8, a1, rfl, rfl, HA, HK1, HB⟩ := hrel
  cases gk with
  | zero => exact absurd HA.out (by simp [Zr.l0])
  | succ k1 =>
   have H := HA.out; clear HA
   simp only [Zr.l0] at H
   by_cases c2 : a1 < (l0.length : Int)
   ·rw [if_pos c2] at H
    have d3 : decide (a1 < (l0.length : Int)) = true := decide_eq_true c2; clear c2
    by_cases c3 : 0 ≤ a1
    ·rw [if_pos c3] at H
     have g7 : decide (0 ≤ a1) = true := decide_eq_true c3; clear c3
     by_cases c4 : a1 < (l0.length : Int)
     ·rw [if_pos c4] at H
      have g8 : decide (a1 < (l0.length : Int)) = true := decide_eq_true c4; clear c4
      by_cases c5 : ((Qy l0 a1).f0) < 0
      ·rw [if_pos c5] at H
       have d4 : decide (((Qy l0 a1).f0) < 0) = true := decide_eq_true c5; clear c5; obtain rfl := Option.some.inj H; have a6 : 0 ≤ (a1 : Int) := of_decide_eq_true (by first | (with_reducible assumption) | assumption); have a7 : a1 < (l0.length : Int) := of_decide_eq_true (by first | (with_reducible assumption) | assumption); obtain ⟨b4, b2, b3, a9, a2, a3, hl101_1, hi101_1⟩ := Ug HR0.out a1 a6 a7
       cases a9; replace a2 := (HB.out.cell (World.block_lt_of_cell? w _ a2)).trans a2; replace a3 := (HB.out.cell (World.block_lt_of_cell? w _ a3)).trans a3; have b0 := Qa.mk hi101_1; have b1 := Qa.mk hl101_1; clear hi101_1 hl101_1; replace a6 := eq_true a6; replace a7 := eq_true a7; go_wp2_with (first | ((with_reducible refine Zs (N := 5) rfl ?_); (try (refine Yb (by rfl) ?_; dsimp only)); refine Xd ?hg (N := 5) ?hd (cs := #[.int .i64 0, .slice none 0 0]) (t := 49) ?hr ?_; (case hd => rfl); (case hg => rfl); (case hr => first | (go_simp; done) | (go_simp; rfl)); intro a4 hg w6 hbox hb; have n0_ := Qa.mk (Qk (by repeat (first | (with_reducible first | exact HB.out | apply Qc | apply Qb | apply Qd) | exact HB.out)) hb); have n1_ := Qa.mk (hbox); have n2_ := Qa.mk ((by rw [hg]; exact (Qh (by repeat (first | (with_reducible first | exact HB.out | apply Qc | apply Qb | apply Qd) | exact HB.out))) : w.heap.size ≤ a4)); have n3_ := Qa.mk ((by rw [hg]; exact (Qh (by repeat (first | (with_reducible first | exact HB.out | apply Qc | apply Qb | apply Qd) | exact HB.out))) : w.heap.size ≤ a4)); clear HB; have HB := n0_; have a5 := n1_; have b5 := n2_; have GE102 := n3_; clear n0_ n1_ n2_ n3_; clear hb hbox hg; have g2 : w6.cell? ⟨a4, 0, none⟩ = some (.int .i64 0) := (Ql a5.out 0).trans rfl; have g3 : w6.cell? ⟨a4, 1, none⟩ = some (.slice none 0 0) := (Ql a5.out 1).trans rfl; have g4 := Qo a5.out 0; have g5 := Qo a5.out 1)); go_ret; exact ⟨by first | rfl | (simp [Qz, Za] <;> rfl) | (simp [*, Qz, Za] <;> rfl), by repeat (first | (with_reducible first | exact HB.out | apply Qc | apply Qb | apply Qd | refine Qu ?_ GE102.out) | exact HB.out)⟩
      ·rw [if_neg c5] at H
       have d4 : decide (((Qy l0 a1).f0) < 0) = false := decide_eq_false c5; clear c5
       by_cases c8 : ((Qy l0 a1).f0) > 2
       ·rw [if_pos c8] at H
        have d5 : decide (2 < ((Qy l0 a1).f0)) = true := decide_eq_true c8; clear c8; obtain rfl := Option.some.inj H; have a6 : 0 ≤ (a1 : Int) := of_decide_eq_true (by first | (with_reducible assumption) | assumption); have a7 : a1 < (l0.length : Int) := of_decide_eq_true (by first | (with_reducible assumption) | assumption); obtain ⟨b4, b2, b3, a9, a2, a3, hl101_1, hi101_1⟩ := Ug HR0.out a1 a6 a7
        cases a9; replace a2 := (HB.out.cell (World.block_lt_of_cell? w _ a2)).trans a2; replace a3 := (HB.out.cell (World.block_lt_of_cell? w _ a3)).trans a3; have b0 := Qa.mk hi101_1; have b1 := Qa.mk hl101_1; clear hi101_1 hl101_1; replace a6 := eq_true a6; replace a7 := eq_true a7; go_wp2_with (first | ((with_reducible refine Zs (N := 5) rfl ?_); (try (refine Yb (by rfl) ?_; dsimp only)); refine Xd ?hg (N := 5) ?hd (cs := #[.int .i64 0, .slice none 0 0]) (t := 49) ?hr ?_; (case hd => rfl); (case hg => rfl); (case hr => first | (go_simp; done) | (go_simp; rfl)); intro a4 hg w9 hbox hb; have n0_ := Qa.mk (Qk (by repeat (first | (with_reducible first | exact HB.out | apply Qc | apply Qb | apply Qd) | exact HB.out)) hb); have n1_ := Qa.mk (hbox); have n2_ := Qa.mk ((by rw [hg]; exact (Qh (by repeat (first | (with_reducible first | exact HB.out | apply Qc | apply Qb | apply Qd) | exact HB.out))) : w.heap.size ≤ a4)); have n3_ := Qa.mk ((by rw [hg]; exact (Qh (by repeat (first | (with_reducible first | exact HB.out | apply Qc | apply Qb | apply Qd) | exact HB.out))) : w.heap.size ≤ a4)); clear HB; have HB := n0_; have a5 := n1_; have b5 := n2_; have GE102 := n3_; clear n0_ n1_ n2_ n3_; clear hb hbox hg; have d6 : w9.cell? ⟨a4, 0, none⟩ = some (.int .i64 0) := (Ql a5.out 0).trans rfl; have d7 : w9.cell? ⟨a4, 1, none⟩ = some (.slice none 0 0) := (Ql a5.out 1).trans rfl; have d8 := Qo a5.out 0; have d9 := Qo a5.out 1)); go_ret; exact ⟨by first | rfl | (simp [Qz, Za] <;> rfl) | (simp [*, Qz, Za] <;> rfl), by repeat (first | (with_reducible first | exact HB.out | apply Qc | apply Qb | apply Qd | refine Qu ?_ GE102.out) | exact HB.out)⟩
       ·rw [if_neg c8] at H
        have d5 : decide (2 < ((Qy l0 a1).f0)) = false := decide_eq_false c8; clear c8
        by_cases c11 : (((Qy l0 a1).f1).length : Int) = 0
        ·rw [if_pos c11] at H
         have b6 : ((((Qy l0 a1).f1).length : Int) == 0) = true := beq_iff_eq.mpr c11; have b7 : ((((Qy l0 a1).f1).length : Int) != 0) = false := bne_eq_false_iff_eq.mpr c11; clear c11; obtain rfl := Option.some.inj H; have a6 : 0 ≤ (a1 : Int) := of_decide_eq_true (by first | (with_reducible assumption) | assumption); have a7 : a1 < (l0.length : Int) := of_decide_eq_true (by first | (with_reducible assumption) | assumption); obtain ⟨b4, b2, b3, a9, a2, a3, hl101_1, hi101_1⟩ := Ug HR0.out a1 a6 a7
         cases a9; replace a2 := (HB.out.cell (World.block_lt_of_cell? w _ a2)).trans a2; replace a3 := (HB.out.cell (World.block_lt_of_cell? w _ a3)).trans a3; have b0 := Qa.mk hi101_1; have b1 := Qa.mk hl101_1; clear hi101_1 hl101_1; replace a6 := eq_true a6; replace a7 := eq_true a7; go_wp2_with (first | ((with_reducible refine Zs (N := 5) rfl ?_); (try (refine Yb (by rfl) ?_; dsimp only)); refine Xd ?hg (N := 5) ?hd (cs := #[.int .i64 0, .slice none 0 0]) (t := 49) ?hr ?_; (case hd => rfl); (case hg => rfl); (case hr => first | (go_simp; done) | (go_simp; rfl)); intro a4 hg w12 hbox hb; have n0_ := Qa.mk (Qk (by repeat (first | (with_reducible first | exact HB.out | apply Qc | apply Qb | apply Qd) | exact HB.out)) hb); have n1_ := Qa.mk (hbox); have n2_ := Qa.mk ((by rw [hg]; exact (Qh (by repeat (first | (with_reducible first | exact HB.out | apply Qc | apply Qb | apply Qd) | exact HB.out))) : w.heap.size ≤ a4)); have n3_ := Qa.mk ((by rw [hg]; exact (Qh (by repeat (first | (with_reducible first | exact HB.out | apply Qc | apply Qb | apply Qd) | exact HB.out))) : w.heap.size ≤ a4)); clear HB; have HB := n0_; have a5 := n1_; have b5 := n2_; have GE102 := n3_; clear n0_ n1_ n2_ n3_; clear hb hbox hg; have e0 : w12.cell? ⟨a4, 0, none⟩ = some (.int .i64 0) := (Ql a5.out 0).trans rfl; have e1 : w12.cell? ⟨a4, 1, none⟩ = some (.slice none 0 0) := (Ql a5.out 1).trans rfl; have e2 := Qo a5.out 0; have e3 := Qo a5.out 1)); go_ret; exact ⟨by first | rfl | (simp [Qz, Za] <;> rfl) | (simp [*, Qz, Za] <;> rfl), by repeat (first | (with_reducible first | exact HB.out | apply Qc | apply Qb | apply Qd | refine Qu ?_ GE102.out) | exact HB.out)⟩
        ·rw [if_neg c11] at H
         have b6 : ((((Qy l0 a1).f1).length : Int) == 0) = false := beq_eq_false_iff_ne.mpr c11; have b7 : ((((Qy l0 a1).f1).length : Int) != 0) = true := bne_iff_ne.mpr c11
         have g6 : ¬ (((Qy l0 a1).f1) = []) := fun h_ => c11 (by rw [h_]; rfl)
         by_cases c14 : ((Qy l0 a1).f0) = a8
         ·rw [if_pos c14] at H
          have b8 : (((Qy l0 a1).f0) == a8) = true := beq_iff_eq.mpr c14; have b9 : (((Qy l0 a1).f0) != a8) = false := bne_eq_false_iff_eq.mpr c14; clear c14; obtain rfl := Option.some.inj H; have a6 : 0 ≤ (a1 : Int) := of_decide_eq_true (by first | (with_reducible assumption) | assumption); have a7 : a1 < (l0.length : Int) := of_decide_eq_true (by first | (with_reducible assumption) | assumption); obtain ⟨b4, b2, b3, a9, a2, a3, hl101_1, hi101_1⟩ := Ug HR0.out a1 a6 a7
          cases a9; replace a2 := (HB.out.cell (World.block_lt_of_cell? w _ a2)).trans a2; replace a3 := (HB.out.cell (World.block_lt_of_cell? w _ a3)).trans a3; have b0 := Qa.mk hi101_1; have b1 := Qa.mk hl101_1; clear hi101_1 hl101_1; replace a6 := eq_true a6; replace a7 := eq_true a7; go_wp2_with (first | ((with_reducible refine Zs (N := 5) rfl ?_); (try (refine Yb (by rfl) ?_; dsimp only)); refine Xd ?hg (N := 5) ?hd (cs := #[.int .i64 0, .slice none 0 0]) (t := 49) ?hr ?_; (case hd => rfl); (case hg => rfl); (case hr => first | (go_simp; done) | (go_simp; rfl)); intro a4 hg w15 hbox hb; have n0_ := Qa.mk (Qk (by repeat (first | (with_reducible first | exact HB.out | apply Qc | apply Qb | apply Qd) | exact HB.out)) hb); have n1_ := Qa.mk (hbox); have n2_ := Qa.mk ((by rw [hg]; exact (Qh (by repeat (first | (with_reducible first | exact HB.out | apply Qc | apply Qb | apply Qd) | exact HB.out))) : w.heap.size ≤ a4)); have n3_ := Qa.mk ((by rw [hg]; exact (Qh (by repeat (first | (with_reducible first | exact HB.out | apply Qc | apply Qb | apply Qd) | exact HB.out))) : w.heap.size ≤ a4)); clear HB; have HB := n0_; have a5 := n1_; have b5 := n2_; have GE102 := n3_; clear n0_ n1_ n2_ n3_; clear hb hbox hg; have e4 : w15.cell? ⟨a4, 0, none⟩ = some (.int .i64 0) := (Ql a5.out 0).trans rfl; have e5 : w15.cell? ⟨a4, 1, none⟩ = some (.slice none 0 0) := (Ql a5.out 1).trans rfl; have e6 := Qo a5.out 0; have e7 := Qo a5.out 1)); go_ret; exact ⟨by first | rfl | (simp [Qz, Za] <;> rfl) | (simp [*, Qz, Za] <;> rfl), by repeat (first | (with_reducible first | exact HB.out | apply Qc | apply Qb | apply Qd | refine Qu ?_ GE102.out) | exact HB.out)⟩
         ·rw [if_neg c14] at H
          have b8 : (((Qy l0 a1).f0) == a8) = false := beq_eq_false_iff_ne.mpr c14; have b9 : (((Qy l0 a1).f0) != a8) = true := bne_iff_ne.mpr c14
          by_cases c17 : a8 = 2
          ·rw [if_pos c17] at H
           have c1 : (a8 == 2) = true := beq_iff_eq.mpr c17; have d0 : (a8 != 2) = false := bne_eq_false_iff_eq.mpr c17; clear c17
           by_cases c18 : ((Qy l0 a1).f0) = 1
           ·rw [if_pos c18] at H
            have d1 : (((Qy l0 a1).f0) == 1) = true := beq_iff_eq.mpr c18; have d2 : (((Qy l0 a1).f0) != 1) = false := bne_eq_false_iff_eq.mpr c18; clear c18; obtain rfl := Option.some.inj H; have a6 : 0 ≤ (a1 : Int) := of_decide_eq_true (by first | (with_reducible assumption) | assumption); have a7 : a1 < (l0.length : Int) := of_decide_eq_true (by first | (with_reducible assumption) | assumption); obtain ⟨b4, b2, b3, a9, a2, a3, hl101_1, hi101_1⟩ := Ug HR0.out a1 a6 a7
            cases a9; replace a2 := (HB.out.cell (World.block_lt_of_cell? w _ a2)).trans a2; replace a3 := (HB.out.cell (World.block_lt_of_cell? w _ a3)).trans a3; have b0 := Qa.mk hi101_1; have b1 := Qa.mk hl101_1; clear hi101_1 hl101_1; replace a6 := eq_true a6; replace a7 := eq_true a7; go_wp2_with (first | ((with_reducible refine Zs (N := 5) rfl ?_); (try (refine Yb (by rfl) ?_; dsimp only)); refine Xd ?hg (N := 5) ?hd (cs := #[.int .i64 0, .slice none 0 0]) (t := 49) ?hr ?_; (case hd => rfl); (case hg => rfl); (case hr => first | (go_simp; done) | (go_simp; rfl)); intro a4 hg w19 hbox hb; have n0_ := Qa.mk (Qk (by repeat (first | (with_reducible first | exact HB.out | apply Qc | apply Qb | apply Qd) | exact HB.out)) hb); have n1_ := Qa.mk (hbox); have n2_ := Qa.mk ((by rw [hg]; exact (Qh (by repeat (first | (with_reducible first | exact HB.out | apply Qc | apply Qb | apply Qd) | exact HB.out))) : w.heap.size ≤ a4)); have n3_ := Qa.mk ((by rw [hg]; exact (Qh (by repeat (first | (with_reducible first | exact HB.out | apply Qc | apply Qb | apply Qd) | exact HB.out))) : w.heap.size ≤ a4)); clear HB; have HB := n0_; have a5 := n1_; have b5 := n2_; have GE102 := n3_; clear n0_ n1_ n2_ n3_; clear hb hbox hg; have e8 : w19.cell? ⟨a4, 0, none⟩ = some (.int .i64 0) := (Ql a5.out 0).trans rfl; have e9 : w19.cell? ⟨a4, 1, none⟩ = some (.slice none 0 0) := (Ql a5.out 1).trans rfl; have f2 := Qo a5.out 0; have f3 := Qo a5.out 1)); go_ret; exact ⟨by first | rfl | (simp [Qz, Za] <;> rfl) | (simp [*, Qz, Za] <;> rfl), by repeat (first | (with_reducible first | exact HB.out | apply Qc | apply Qb | apply Qd | refine Qu ?_ GE102.out) | exact HB.out)⟩
           ·rw [if_neg c18] at H
            have d1 : (((Qy l0 a1).f0) == 1) = false := beq_eq_false_iff_ne.mpr c18; have d2 : (((Qy l0 a1).f0) != 1) = true := bne_iff_ne.mpr c18; have H' := Qa.mk H; clear H; have a6 : 0 ≤ (a1 : Int) := of_decide_eq_true (by first | (with_reducible assumption) | assumption); have a7 : a1 < (l0.length : Int) := of_decide_eq_true (by first | (with_reducible assumption) | assumption); obtain ⟨b4, b2, b3, a9, a2, a3, hl101_1, hi101_1⟩ := Ug HR0.out a1 a6 a7
            cases a9; replace a2 := (HB.out.cell (World.block_lt_of_cell? w _ a2)).trans a2; replace a3 := (HB.out.cell (World.block_lt_of_cell? w _ a3)).trans a3; have b0 := Qa.mk hi101_1; have b1 := Qa.mk hl101_1; clear hi101_1 hl101_1; replace a6 := eq_true a6; replace a7 := eq_true a7; go_wp2_with (first | ((with_reducible refine Zs (N := 5) rfl ?_); (try (refine Yb (by rfl) ?_; dsimp only)); refine Xd ?hg (N := 5) ?hd (cs := #[.int .i64 0, .slice none 0 0]) (t := 49) ?hr ?_; (case hd => rfl); (case hg => rfl); (case hr => first | (go_simp; done) | (go_simp; rfl)); intro a4 hg w21 hbox hb; have n0_ := Qa.mk (Qk (by repeat (first | (with_reducible first | exact HB.out | apply Qc | apply Qb | apply Qd) | exact HB.out)) hb); have n1_ := Qa.mk (hbox); have n2_ := Qa.mk ((by rw [hg]; exact (Qh (by repeat (first | (with_reducible first | exact HB.out | apply Qc | apply Qb | apply Qd) | exact HB.out))) : w.heap.size ≤ a4)); have n3_ := Qa.mk ((by rw [hg]; exact (Qh (by repeat (first | (with_reducible first | exact HB.out | apply Qc | apply Qb | apply Qd) | exact HB.out))) : w.heap.size ≤ a4)); clear HB; have HB := n0_; have a5 := n1_; have b5 := n2_; have GE102 := n3_; clear n0_ n1_ n2_ n3_; clear hb hbox hg; have f4 : w21.cell? ⟨a4, 0, none⟩ = some (.int .i64 0) := (Ql a5.out 0).trans rfl; have f5 : w21.cell? ⟨a4, 1, none⟩ = some (.slice none 0 0) := (Ql a5.out 1).trans rfl; have f6 := Qo a5.out 0; have f7 := Qo a5.out 1))
            go_roundg k1
            case measure => have := HK1.out; omega
            case rel => exact ⟨((Qy l0 a1).f0), (wrap64 (a1 + 1)), (by first | rfl | (simp; done) | (simp [*]; done)), (by first | rfl | (simp; done) | (simp [*]; done)), H', ⟨by have := HK1.out; omega⟩, ⟨by repeat (first | (with_reducible first | exact HB.out | apply Qc | apply Qb | apply Qd | refine Qu ?_ GE102.out) | exact HB.out)⟩⟩
          ·rw [if_neg c17] at H
           have c1 : (a8 == 2) = false := beq_eq_false_iff_ne.mpr c17; have d0 : (a8 != 2) = true := bne_iff_ne.mpr c17; have H' := Qa.mk H; clear H; have a6 : 0 ≤ (a1 : Int) := of_decide_eq_true (by first | (with_reducible assumption) | assumption); have a7 : a1 < (l0.length : Int) := of_decide_eq_true (by first | (with_reducible assumption) | assumption); obtain ⟨b4, b2, b3, a9, a2, a3, hl101_1, hi101_1⟩ := Ug HR0.out a1 a6 a7
           cases a9; replace a2 := (HB.out.cell (World.block_lt_of_cell? w _ a2)).trans a2; replace a3 := (HB.out.cell (World.block_lt_of_cell? w _ a3)).trans a3; have b0 := Qa.mk hi101_1; have b1 := Qa.mk hl101_1; clear hi101_1 hl101_1; replace a6 := eq_true a6; replace a7 := eq_true a7; go_wp2_with (first | ((with_reducible refine Zs (N := 5) rfl ?_); (try (refine Yb (by rfl) ?_; dsimp only)); refine Xd ?hg (N := 5) ?hd (cs := #[.int .i64 0, .slice none 0 0]) (t := 49) ?hr ?_; (case hd => rfl); (case hg => rfl); (case hr => first | (go_simp; done) | (go_simp; rfl)); intro a4 hg w23 hbox hb; have n0_ := Qa.mk (Qk (by repeat (first | (with_reducible first | exact HB.out | apply Qc | apply Qb | apply Qd) | exact HB.out)) hb); have n1_ := Qa.mk (hbox); have n2_ := Qa.mk ((by rw [hg]; exact (Qh (by repeat (first | (with_reducible first | exact HB.out | apply Qc | apply Qb | apply Qd) | exact HB.out))) : w.heap.size ≤ a4)); have n3_ := Qa.mk ((by rw [hg]; exact (Qh (by repeat (first | (with_reducible first | exact HB.out | apply Qc | apply Qb | apply Qd) | exact HB.out))) : w.heap.size ≤ a4)); clear HB; have HB := n0_; have a5 := n1_; have b5 := n2_; have GE102 := n3_; clear n0_ n1_ n2_ n3_; clear hb hbox hg; have f8 : w23.cell? ⟨a4, 0, none⟩ = some (.int .i64 0) := (Ql a5.out 0).trans rfl; have f9 : w23.cell? ⟨a4, 1, none⟩ = some (.slice none 0 0) := (Ql a5.out 1).trans rfl; have g0 := Qo a5.out 0; have g1 := Qo a5.out 1))
           go_roundg k1
           case measure => have := HK1.out; omega
           case rel => exact ⟨((Qy l0 a1).f0), (wrap64 (a1 + 1)), (by first | rfl | (simp; done) | (simp [*]; done)), (by first | rfl | (simp; done) | (simp [*]; done)), H', ⟨by have := HK1.out; omega⟩, ⟨by repeat (first | (with_reducible first | exact HB.out | apply Qc | apply Qb | apply Qd | refine Qu ?_ GE102.out) | exact HB.out)⟩⟩
     ·rw [if_neg c4] at H
      exact absurd H (by simp)
    ·rw [if_neg c3] at H
     exact absurd H (by simp)
   ·rw [if_neg c2] at H
    have d3 : decide (a1 < (l0.length : Int)) = false := decide_eq_false c2; clear c2; obtain rfl := Option.some.inj H
    go_wp2
    go_ret; exact ⟨by first | rfl | (simp [Qz, Za] <;> rfl) | (simp [*, Qz, Za] <;> rfl), by repeat (first | (with_reducible first | exact HB.out | apply Qc | apply Qb | apply Qd) | exact HB.out)⟩
def Qm.l0 : Nat → List ByteArray → List ByteArray → Int → Int → Option (Bool)
 | 0, _, _, _, _ => none
 | k + 1, x0, x1, x12, x13 => if x13 < x12 then (if 0 ≤ x13 then (if x13 < (x0.length : Int) then (if x13 < (x1.length : Int) then (if (Zy ByteArray.empty x0 x13).toList = (Zy ByteArray.empty x1 x13).toList then (Qm.l0 k x0 x1 x12 (wrap64 (x13 + 1))) else (some false)) else (none)) else (none)) else (none)) else (some true)
def Qm.f (k : Nat) (l0 : List ByteArray) (l1 : List ByteArray) : Option (Bool) := if (l0.length : Int) = (l1.length : Int) then (Qm.l0 k l0 l1 (l0.length : Int) 0) else (some false)
set_option maxHeartbeats 8000000 in
set_option maxRecDepth 100000 in
theorem Qm.calls (k : Nat) (A0 : Option Addr) (c0 : Nat) (l0 : List ByteArray) (A1 : Option Addr) (c1 : Nat) (l1 : List ByteArray) (r : Bool) (w : World) (hr0 : Kd.C Kd.string w A0 l0.length l0) (hc0 : l0.length ≤ c0) (hr1 : Kd.C Kd.string w A1 l1.length l1) (hc1 : l1.length ≤ c1) (h : Qm.f k l0 l1 = some r) :
  Calls Tryz.prog 22 #[.slice A0 l0.length c0, .slice A1 l1.length c1] w fun e w' => e = .returned (.bool r) ∧ Xs w w' := by
 have HR0 := Qa.mk hr0; have HC0 := Qa.mk hc0; clear hr0 hc0; have HR1 := Qa.mk hr1; have HC1 := Qa.mk hc1; clear hr1 hc1; have H : (if (l0.length : Int) = (l1.length : Int) then (Qm.l0 k l0 l1 (l0.length : Int) 0) else (some false)) = some r := h; clear h
 by_cases c3 : (l0.length : Int) = (l1.length : Int)
 ·rw [if_pos c3] at H
  have a9 : ((l0.length : Int) == (l1.length : Int)) = true := beq_iff_eq.mpr c3; have b0 : ((l0.length : Int) != (l1.length : Int)) = false := bne_eq_false_iff_eq.mpr c3
  have b1 : (l0.length == l1.length) = true := by first | simpa using c3 | (simp at c3 ⊢; omega)
  clear c3; have H' := Qa.mk H; clear H
  go_enter Tryz.func22, Tryz.ntmps22
  go_wp2
  repeat (go_quiet (fail); try go_wp2)
  go_loopg [13] k (fun kq v13 w' => ∃ (a0 : Int), v13 = .int .i64 a0 ∧ Qa (Qm.l0 kq l0 l1 (l0.length : Int) a0 = some r) ∧ Qa (kq ≤ k) ∧ Xs w w')
  case atStart => exact ⟨(0), (by first | rfl | (simp; done) | (simp [*]; done)), H', ⟨Nat.le_refl _⟩, by repeat (first | exact Xs.refl _ | apply Xs.step)⟩
  case round =>
   clear H'
   try clear c1
   try clear c2
   try clear p2
   try clear c3
   try clear a9
   try clear b0
   try clear b1
   obtain ⟨a0, rfl, HA, HK1, ⟨m1, rfl⟩⟩ := hrel
   cases gk with
   | zero => exact absurd HA.out (by simp [Qm.l0])
   | succ k1 =>
    have H := HA.out; clear HA
    simp only [Qm.l0] at H
    by_cases c4 : a0 < (l0.length : Int)
    ·rw [if_pos c4] at H
     have b4 : decide (a0 < (l0.length : Int)) = true := decide_eq_true c4; clear c4
     by_cases c5 : 0 ≤ a0
     ·rw [if_pos c5] at H
      have b7 : decide (0 ≤ a0) = true := decide_eq_true c5; clear c5
      by_cases c6 : a0 < (l0.length : Int)
      ·rw [if_pos c6] at H
       have b8 : decide (a0 < (l0.length : Int)) = true := decide_eq_true c6; clear c6
       by_cases c7 : a0 < (l1.length : Int)
       ·rw [if_pos c7] at H
        have b9 : decide (a0 < (l1.length : Int)) = true := decide_eq_true c7; clear c7
        by_cases c8 : (Zy ByteArray.empty l0 a0).toList = (Zy ByteArray.empty l1 a0).toList
        ·rw [if_pos c8] at H
         have b5 : ((Zy ByteArray.empty l0 a0).toList == (Zy ByteArray.empty l1 a0).toList) = true := beq_iff_eq.mpr c8; have b6 : ((Zy ByteArray.empty l0 a0).toList != (Zy ByteArray.empty l1 a0).toList) = false := bne_eq_false_iff_eq.mpr c8; clear c8; have H' := Qa.mk H; clear H; have a1 : 0 ≤ (a0 : Int) := of_decide_eq_true (by first | (with_reducible assumption) | assumption); have a2 : a0 < (l0.length : Int) := of_decide_eq_true (by first | (with_reducible assumption) | assumption); obtain ⟨b2, a5, a7⟩ := Kd.at_string HR0.out a0 a1 a2
         cases a5; replace a1 := eq_true a1; replace a2 := eq_true a2; have a3 : 0 ≤ (a0 : Int) := of_decide_eq_true (by first | (with_reducible assumption) | assumption); have a4 : a0 < (l1.length : Int) := of_decide_eq_true (by first | (with_reducible assumption) | assumption); obtain ⟨b3, a6, a8⟩ := Kd.at_string HR1.out a0 a3 a4
         cases a6; replace a3 := eq_true a3; replace a4 := eq_true a4
         go_wp2
         repeat (go_quiet (fail); try go_wp2)
         go_roundg k1
         case measure => have := HK1.out; omega
         case rel => exact ⟨(wrap64 (a0 + 1)), (by first | rfl | (simp; done) | (simp [*]; done)), H', ⟨by have := HK1.out; omega⟩, by repeat (first | exact Xs.refl _ | apply Xs.step)⟩
        ·rw [if_neg c8] at H
         have b5 : ((Zy ByteArray.empty l0 a0).toList == (Zy ByteArray.empty l1 a0).toList) = false := beq_eq_false_iff_ne.mpr c8; have b6 : ((Zy ByteArray.empty l0 a0).toList != (Zy ByteArray.empty l1 a0).toList) = true := bne_iff_ne.mpr c8; obtain rfl := Option.some.inj H; have a1 : 0 ≤ (a0 : Int) := of_decide_eq_true (by first | (with_reducible assumption) | assumption); have a2 : a0 < (l0.length : Int) := of_decide_eq_true (by first | (with_reducible assumption) | assumption); obtain ⟨b2, a5, a7⟩ := Kd.at_string HR0.out a0 a1 a2
         cases a5; replace a1 := eq_true a1; replace a2 := eq_true a2; have a3 : 0 ≤ (a0 : Int) := of_decide_eq_true (by first | (with_reducible assumption) | assumption); have a4 : a0 < (l1.length : Int) := of_decide_eq_true (by first | (with_reducible assumption) | assumption); obtain ⟨b3, a6, a8⟩ := Kd.at_string HR1.out a0 a3 a4
         cases a6; replace a3 := eq_true a3; replace a4 := eq_true a4
         go_wp2
         repeat (go_quiet (fail); try go_wp2)
         go_ret; exact ⟨by first | rfl | (simp; done) | (simp [*]; done), by repeat (first | exact Xs.refl _ | apply Xs.step)⟩
       ·rw [if_neg c7] at H
        exact absurd H (by simp)
      ·rw [if_neg c6] at H
       exact absurd H (by simp)
     ·rw [if_neg c5] at H
      exact absurd H (by simp)
    ·rw [if_neg c4] at H
     have b4 : decide (a0 < (l0.length : Int)) = false := decide_eq_false c4; clear c4; obtain rfl := Option.some.inj H
     go_wp2
     repeat (go_quiet (fail); try go_wp2)
     go_ret; exact ⟨by first | rfl | (simp; done) | (simp [*]; done), by repeat (first | exact Xs.refl _ | apply Xs.step)⟩
 ·rw [if_neg c3] at H
  have a9 : ((l0.length : Int) == (l1.length : Int)) = false := beq_eq_false_iff_ne.mpr c3; have b0 : ((l0.length : Int) != (l1.length : Int)) = true := bne_iff_ne.mpr c3
  have b1 : (l0.length == l1.length) = false := by first | simpa using c3 | (simp at c3 ⊢; omega)
  obtain rfl := Option.some.inj H
  go_enter Tryz.func22, Tryz.ntmps22
  go_wp2
  repeat (go_quiet (fail); try go_wp2)
  go_ret; exact ⟨by first | rfl | (simp; done) | (simp [*]; done), by repeat (first | exact Xs.refl _ | apply Xs.step)⟩
end Go.Proofs.YtadafplbgophfaaGreatDoor.PA
end
section
namespace Go.Proofs.YtadafplbgophfaaGreatDoor.PA
open Go.RowKit Go.Proofs.YtadafplbgophfaaGreatDoorW.PrintWords Go.Proofs.YtadafplbgophfaaGreatDoorW.PrintLast Go.Proofs.YtadafplbgophfaaGreatDoorW.PrintMore
open Jdg
def Few (l : List S48) : Prop := l.length ≤ 1000000 ∧ tot l ≤ 1000000
theorem Few.el {l : List S48} (h : Few l) {i : Nat} (hi : i < l.length) : l[i].f1.length ≤ 1000000 := Nat.le_trans (Qmx (List.getElem_mem hi)) h.2
theorem Qfo {α β : Type} (f : α → β) (l : List α) {i : Nat} (h : i < l.length) : (l.take i).map f ++ [f l[i]] = (l.take (i + 1)).map f := by
  rw [List.take_succ_eq_append_getElem h, List.map_append]; rfl
theorem Qnx {l : List S48} {i : Nat} (h : i < l.length) : tot (l.take i) + l[i].f1.length = tot (l.take (i + 1)) := by
  rw [List.take_succ_eq_append_getElem h, Ka, Qcu]
theorem Qdt (l : List S48) (i : Nat) : tot (l.take i) ≤ tot l := by
  conv => rhs; rw [← List.take_append_drop i l, Ka]
  omega
theorem Qmf (q : Int) {l : List S48} {i : Nat} (h : i < l.length) : Yk q (l.take (i + 1)) = Yk q (l.take i) ++ if l[i].f0 = 0 ∨ l[i].f0 = q then l[i].f1 else [] := by
  rw [List.take_succ_eq_append_getElem h, Up, Qaa]
theorem Qfl (q : Int) (l : List S48) : (Yk q l).length ≤ tot l := by
  induction l with
  | nil => simp [Yk]
  | cons x l ih =>
    have e1 : Yk q (x :: l) = Yk q [x] ++ Yk q l := Up q [x] l
    have e2 : tot (x :: l) = tot [x] + tot l := Ka [x] l
    rw [e1, e2, List.length_append, Qaa, Qcu]
    split <;> simp <;> omega
theorem Qor {a b : List ByteArray} (hl : a.length = b.length) (he : a ≠ b) : ∃ n, n < a.length ∧ ¬ (Zy ByteArray.empty a (n : Int)).toList = (Zy ByteArray.empty b (n : Int)).toList ∧ ∀ m, m < n → (Zy ByteArray.empty a (m : Int)).toList = (Zy ByteArray.empty b (m : Int)).toList := by
  have hex : ∃ i, i < a.length ∧ a[i]? ≠ b[i]? := by
    apply Classical.byContradiction
    intro hn
    apply he
    refine List.ext_getElem? fun i => ?_
    apply Classical.byContradiction
    intro hne
    refine hn ⟨i, ?_, hne⟩
    rcases Nat.lt_or_ge i a.length with h | h
    · exact h
    · exact absurd (by rw [List.getElem?_eq_none h, List.getElem?_eq_none (by omega)]) hne
  obtain ⟨n, ⟨hn1, hn2⟩, hmin⟩ : ∃ n, (n < a.length ∧ a[n]? ≠ b[n]?) ∧ ∀ m, m < n → ¬ (m < a.length ∧ a[m]? ≠ b[m]?) := by
    obtain ⟨i, hi⟩ := hex
    induction i using Nat.strongRecOn with
    | ind i ih =>
      by_cases hm : ∃ m, m < i ∧ (m < a.length ∧ a[m]? ≠ b[m]?)
      · obtain ⟨m, h1, h2⟩ := hm
        exact ih m h1 h2
      · exact ⟨i, hi, fun m h1 h2 => hm ⟨m, h1, h2⟩⟩
  have hb : n < b.length := by omega
  refine ⟨n, hn1, ?_, fun i hi => ?_⟩
  · rw [Qhn]
    intro e
    apply hn2
    rw [List.getElem?_eq_getElem hn1, List.getElem?_eq_getElem hb]
    simpa [Zy, List.getD_eq_getElem?_getD, hn1, hb] using e
  · have hia : i < a.length := by omega
    have hib : i < b.length := by omega
    have h1 : a[i]? = b[i]? := by
      apply Classical.byContradiction
      intro h; exact hmin i hi ⟨hia, h⟩
    rw [List.getElem?_eq_getElem hia, List.getElem?_eq_getElem hib] at h1
    have h2 : a[i] = b[i] := by simpa using h1
    simp [Zy, List.getD_eq_getElem?_getD, hia, hib, h2]
theorem Qmz (a b : List ByteArray) (ha : a.length ≤ 1000000) : Ev (fun k => Qm.f k a b) (decide (a = b)) := by
  by_cases hl : a.length = b.length
  · have hc : (a.length : Int) = (b.length : Int) := by omega
    refine Ev.congr (f := fun k => Qm.l0 k a b a.length ((0 : Nat) : Int)) (fun k => by unfold Qm.f; rw [if_pos hc]; rfl) ?_
    by_cases he : a = b
    · subst he
      rw [decide_eq_true rfl]
      refine Ev.down (P := fun i => Ev (fun k => Qm.l0 k a a a.length (i : Int)) true) a.length ?_ ?_
      · refine Ev.step (f := fun _ => some true) (fun k => ?_) (Ev.now _)
        simp only [Qm.l0]; rw [if_neg (by omega)]
      · intro i hi hE
        refine Ev.step (fun k => ?_) hE
        simp only [Qm.l0]; rw [if_pos (by omega), if_pos (by omega), if_pos (by omega), if_pos (by omega), if_pos trivial, Vu (by omega)]
    · rw [decide_eq_false he]
      obtain ⟨n, hn1, hn2, hmin⟩ := Qor hl he
      refine Ev.down (P := fun i => Ev (fun k => Qm.l0 k a b a.length (i : Int)) false) n ?_ ?_
      · refine Ev.step (f := fun _ => some false) (fun k => ?_) (Ev.now _)
        simp only [Qm.l0]; rw [if_pos (by omega), if_pos (by omega), if_pos (by omega), if_pos (by omega), if_neg hn2]
      · intro i hi hE
        refine Ev.step (fun k => ?_) hE
        simp only [Qm.l0]; rw [if_pos (by omega), if_pos (by omega), if_pos (by omega), if_pos (by omega), if_pos (hmin i hi), Vu (by omega)]
  · rw [decide_eq_false (fun h => hl (by rw [h]))]
    refine Ev.congr (f := fun _ => some false) (fun k => ?_) (Ev.now _)
    unfold Qm.f; rw [if_neg (by omega)]
open Jdg
def bkR : List S48 → List S48 → List ByteArray → List S48
  | [], out, late => pt out 2 late
  | s :: l, out, late => if s.f0 = 1 then bkR l out s.f1 else
      bkR l (if s.f0 = 0 then pt (pt (if s.f0 = 2 then pt out 1 s.f1 else out) 2 late) 0 s.f1 else pt (if s.f0 = 2 then pt out 1 s.f1 else out) 2 late) []
theorem Qfp (x : S48) (l : List S48) : tot (x :: l) = x.f1.length + tot l := by simp [tot]
theorem Qdg (q : Int) (x : S48) (l : List S48) : Yk q (x :: l) = (if x.f0 = 0 ∨ x.f0 = q then x.f1 else []) ++ Yk q l := by rw [show x :: l = [x] ++ l from rfl, Up, Qaa]
def Vq (q : Int) : List S48 → Prop
  | [] => True
  | x :: _ => x.f0 ≠ q
theorem Qmo {x : S48} {l : List S48} (h : Adj (x :: l)) : Adj l ∧ Vq x.f0 l := by
  cases l with
  | nil => exact ⟨trivial, trivial⟩
  | cons y l => exact ⟨h.2, fun e => h.1 e.symm⟩
theorem Jr : ∀ (l out : List S48) (late : List ByteArray), Adj l → (late ≠ [] → Vq 1 l) → Yk 1 (bkR l out late) = Yk 1 out ++ Yk 2 l ∧ Yk 2 (bkR l out late) = Yk 2 out ++ late ++ Yk 1 l
  | [], out, late, _, _ => by
    simp only [bkR]
    rw [Vw, Vw]; simp [Yk]
  | s :: l, out, late, ha, hh => by
    obtain ⟨ha2, hn⟩ := Qmo ha
    simp only [bkR]
    rw [Qdg, Qdg]
    by_cases c1 : s.f0 = 1
    · obtain rfl : late = [] := by
        apply Classical.byContradiction
        intro h; exact hh h c1
      obtain ⟨h1, h2⟩ := Jr l out s.f1 ha2 (fun _ => by rw [c1] at hn; exact hn)
      rw [if_pos c1, h1, h2, if_neg (by omega), if_pos (by omega)]; simp
    · rw [if_neg c1]
      by_cases c0 : s.f0 = 0
      · obtain ⟨h1, h2⟩ := Jr l (pt (pt out 2 late) 0 s.f1) [] ha2 (fun h => absurd rfl h)
        rw [if_pos c0, if_neg (show ¬ s.f0 = 2 by omega), h1, h2]
        simp [Vw, c0]
      · rw [if_neg c0]
        by_cases c2 : s.f0 = 2
        · obtain ⟨h1, h2⟩ := Jr l (pt (pt out 1 s.f1) 2 late) [] ha2 (fun h => absurd rfl h)
          rw [if_pos c2, h1, h2]
          simp [Vw, c2]
        · obtain ⟨h1, h2⟩ := Jr l (pt out 2 late) [] ha2 (fun h => absurd rfl h)
          rw [if_neg c2, h1, h2]
          simp [Vw, c0, c1, c2]
open Jdg
def okS (x : S48) : Prop := 0 ≤ x.f0 ∧ x.f0 ≤ 2 ∧ x.f1 ≠ []
def Rt : List S48 → Prop
  | [] => True
  | [x] => okS x
  | x :: y :: l => okS x ∧ x.f0 ≠ y.f0 ∧ ¬ (x.f0 = 2 ∧ y.f0 = 1) ∧ Rt (y :: l)
theorem Rt.tail {x : S48} {l : List S48} (h : Rt (x :: l)) : okS x ∧ Rt l := by
  cases l with
  | nil => exact ⟨h, trivial⟩
  | cons y l => exact ⟨h.1, h.2.2.2⟩
def sw (k : Int) : Int := if k = 1 then 2 else if k = 2 then 1 else k
def bk : List S48 → List S48
  | [] => []
  | [x] => [⟨sw x.f0, x.f1⟩]
  | x :: y :: l => if x.f0 = 1 ∧ y.f0 = 2 then ⟨1, y.f1⟩ :: ⟨2, x.f1⟩ :: bk l else ⟨sw x.f0, x.f1⟩ :: bk (y :: l)
theorem Qpa : sw 0 = 0 := rfl
theorem Qqk : sw 1 = 2 := rfl
theorem Qpb : sw 2 = 1 := rfl
theorem k3 {x : S48} (h : okS x) : x.f0 = 0 ∨ x.f0 = 1 ∨ x.f0 = 2 := by obtain ⟨a, b, _⟩ := h; omega
theorem Qmq {x : S48} {l : List S48} (h : x.f0 = 0) : ∃ m, bk (x :: l) = ⟨0, x.f1⟩ :: m := by
  cases l with
  | nil => exact ⟨[], by simp [bk, h, sw]⟩
  | cons y l => exact ⟨_, by rw [bk, if_neg (by omega), h, Qpa]⟩
theorem Qep {x : S48} {l : List S48} (hx : okS x) (h : x.f0 ≠ 0) : Vq 0 (bk (x :: l)) := by
  cases l with
  | nil => rcases k3 hx with e | e | e
           · exact absurd e h
           · simp [bk, Vq, e, sw]
           · simp [bk, Vq, e, sw]
  | cons y l =>
    rw [bk]
    split
    · simp [Vq]
    · rcases k3 hx with e | e | e
      · exact absurd e h
      · simp [Vq, e, sw]
      · simp [Vq, e, sw]
theorem Kg {x : S48} {l : List S48} (h : x.f0 = 0) {q : Int} (hq : q ≠ 0) : Vq q (bk (x :: l)) := by
  obtain ⟨m, e⟩ := Qmq (l := l) h
  rw [e]; exact fun e => hq e.symm
def Uf (q : Int) (out : List S48) : Prop := ∀ i x, out = i ++ [x] → x.f0 ≠ q
theorem Uf.nil (q : Int) : Uf q [] := fun i x h => by simp at h
theorem Uf.snoc {q : Int} {i : List S48} {x : S48} (h : x.f0 ≠ q) : Uf q (i ++ [x]) := fun j y e => by
  have := List.append_inj_right' e rfl
  simp only [List.cons.injEq, and_true] at this
  exact this ▸ h
theorem Qaz {out : List S48} {k : Int} {t : List ByteArray} (h : Uf k out) (ht : t ≠ []) : pt out k t = out ++ [⟨k, t⟩] := by
  rcases Ua out k t with ⟨e, _⟩ | ⟨_, rfl, e⟩ | ⟨_, i, x, rfl, hk, e⟩ | ⟨_, i, x, rfl, hk, e⟩
  · exact absurd e ht
  · exact e
  · exact absurd hk (h i x rfl)
  · exact e
theorem Vz {out : List S48} {k : Int} {t : List ByteArray} {m : List S48} (h : ∀ q, (∃ i x, out = i ++ [x] ∧ x.f0 = q) → Vq q (⟨k, t⟩ :: m)) : Uf k out := fun i x e hk => h k ⟨i, x, e, hk⟩ rfl
theorem Qeo : ∀ (n : Nat) (l out : List S48), l.length ≤ n → Rt l → (∀ q, (∃ i x, out = i ++ [x] ∧ x.f0 = q) → Vq q (bk l)) → bkR l out [] = out ++ bk l
  | _, [], out, _, _, _ => by simp only [bkR, bk]; rw [Us, List.append_nil]
  | 0, x :: l, out, hn, _, _ => by simp at hn
  | n + 1, [x], out, hn, hr, hc => by
    have hx : okS x := hr
    rcases k3 hx with e | e | e
    · simp only [bk, e, Qpa] at hc ⊢
      simp only [bkR]
      rw [if_neg (by omega), if_pos e, if_neg (by omega), Us, Us, Qaz (Vz hc) hx.2.2]
    · simp only [bk, e, Qqk] at hc ⊢
      simp only [bkR]
      rw [if_pos e, Qaz (Vz hc) hx.2.2]
    · simp only [bk, e, Qpb] at hc ⊢
      simp only [bkR]
      rw [if_neg (by omega), if_neg (by omega), if_pos e, Us, Us, Qaz (Vz hc) hx.2.2]
  | n + 1, x :: y :: l, out, hn, hr, hc => by
    obtain ⟨hx, hxy, h21, hr2⟩ := hr
    obtain ⟨hy, hr3⟩ := hr2.tail
    simp only [List.length_cons] at hn
    by_cases hp : x.f0 = 1 ∧ y.f0 = 2
    · obtain ⟨e1, e2⟩ := hp
      rw [bk, if_pos ⟨e1, e2⟩] at hc ⊢
      simp only [bkR]
      rw [if_pos e1, if_neg (by omega), if_neg (by omega), if_pos e2, Qaz (Vz hc) hy.2.2, Qaz (Uf.snoc (show (1 : Int) ≠ 2 by decide)) hx.2.2]
      rw [Qeo n l _ (by omega) hr3 ?_]
      · simp
      · rintro q ⟨i, z, ez, hz⟩
        have := List.append_inj_right' ez rfl
        simp only [List.cons.injEq, and_true] at this
        subst this
        cases l with
        | nil => trivial
        | cons z l =>
          obtain ⟨_, h1, h2, hr4⟩ := hr2
          have hz0 : z.f0 = 0 := by
            rcases k3 hr4.tail.1 with e | e | e
            · exact e
            · exact absurd ⟨e2, e⟩ h2
            · exact absurd (e2.trans e.symm) h1
          exact Kg hz0 (by simp only at hz; omega)
    · rw [bk, if_neg hp] at hc ⊢
      rcases k3 hx with e | e | e
      · rw [e, Qpa] at hc ⊢
        rw [bkR]
        rw [if_neg (by omega), if_pos e, if_neg (by omega), Us, Qaz (Vz hc) hx.2.2, Qeo n (y :: l) _ (by simp only [List.length_cons]; omega) hr2 ?_]
        · simp
        · rintro q ⟨i, z, ez, hz⟩
          have := List.append_inj_right' ez rfl
          simp only [List.cons.injEq, and_true] at this
          subst this
          simp only at hz
          subst hz
          exact Qep hy (by omega)
      · have hy0 : y.f0 = 0 := by
          rcases k3 hy with e' | e' | e'
          · exact e'
          · omega
          · exact absurd ⟨e, e'⟩ hp
        rw [e, Qqk] at hc ⊢
        rw [bkR, if_pos e]
        have hsame : bkR (y :: l) out x.f1 = bkR (y :: l) (pt out 2 x.f1) [] := by
          have n1 : ¬ y.f0 = 1 := by omega
          have n2 : ¬ y.f0 = 2 := by omega
          simp only [bkR, n1, n2, hy0, if_true, if_false, Us]
          rfl
        rw [hsame, Qaz (Vz hc) hx.2.2, Qeo n (y :: l) _ (by simp only [List.length_cons]; omega) hr2 ?_]
        · simp
        · rintro q ⟨i, z, ez, hz⟩
          have := List.append_inj_right' ez rfl
          simp only [List.cons.injEq, and_true] at this
          subst this
          exact Kg hy0 (by simp only at hz; omega)
      · have hy0 : y.f0 = 0 := by
          rcases k3 hy with e' | e' | e'
          · exact e'
          · exact absurd ⟨e, e'⟩ h21
          · omega
        rw [e, Qpb] at hc ⊢
        rw [bkR]
        rw [if_neg (by omega), if_neg (by omega), if_pos e, Us, Qaz (Vz hc) hx.2.2, Qeo n (y :: l) _ (by simp only [List.length_cons]; omega) hr2 ?_]
        · simp
        · rintro q ⟨i, z, ez, hz⟩
          have := List.append_inj_right' ez rfl
          simp only [List.cons.injEq, and_true] at this
          subst this
          exact Kg hy0 (by simp only at hz; omega)
theorem Qoi {l : List S48} (h : Rt l) : bkR l [] [] = bk l := by
  rw [Qeo l.length l [] (Nat.le_refl _) h (fun q ⟨i, x, e, _⟩ => by simp at e)]; rfl
theorem Qpn {x : S48} (h : okS x) : sw (sw x.f0) = x.f0 := by rcases k3 h with e | e | e <;> rw [e] <;> rfl
theorem Qpm {x : S48} (h : okS x) : okS ⟨sw x.f0, x.f1⟩ := by
  rcases k3 h with e | e | e <;> simp only [okS, e] <;> exact ⟨by decide, by decide, h.2.2⟩
theorem Qgs {x : S48} {l : List S48} (hx : okS x) (hl : Rt l) (h : Vq x.f0 l) (h2 : x.f0 = 2 → Vq 1 l) : Rt (x :: l) := by
  cases l with
  | nil => exact hx
  | cons y l => exact ⟨hx, fun e => h e.symm, fun ⟨e1, e2⟩ => h2 e1 e2, hl⟩
theorem Qmp : ∀ (n : Nat) (l : List S48), l.length ≤ n → Rt l → bk (bk l) = l ∧ Rt (bk l)
  | _, [], _, _ => ⟨rfl, trivial⟩
  | 0, x :: l, hn, _ => by simp at hn
  | n + 1, [x], hn, hr => by
    have hx : okS x := hr
    refine ⟨?_, ?_⟩
    · simp only [bk]; rw [Qpn hx]
    · simp only [bk]; exact Qpm hx
  | n + 1, x :: y :: l, hn, hr => by
    obtain ⟨hx, hxy, h21, hr2⟩ := hr
    obtain ⟨hy, hr3⟩ := hr2.tail
    simp only [List.length_cons] at hn
    by_cases hp : x.f0 = 1 ∧ y.f0 = 2
    · obtain ⟨e1, e2⟩ := hp
      obtain ⟨i1, i2⟩ := Qmp n l (by omega) hr3
      rw [bk, if_pos ⟨e1, e2⟩]
      have hz : ∀ q, q ≠ 0 → Vq q (bk l) := by
        intro q hq
        cases l with
        | nil => trivial
        | cons z l =>
          obtain ⟨_, h1, h2, hr4⟩ := hr2
          have hz0 : z.f0 = 0 := by
            rcases k3 hr4.tail.1 with e | e | e
            · exact e
            · exact absurd ⟨e2, e⟩ h2
            · exact absurd (e2.trans e.symm) h1
          exact Kg hz0 hq
      refine ⟨?_, ?_⟩
      · rw [bk, if_pos ⟨rfl, rfl⟩, i1, ← e1, ← e2]
      · have r1 : Rt (⟨2, x.f1⟩ :: bk l) := Qgs ⟨by simp, by simp, hx.2.2⟩ i2 (hz 2 (by decide)) (fun _ => hz 1 (by decide))
        exact Qgs ⟨by simp, by simp, hy.2.2⟩ r1 (by simp [Vq]) (fun h => by simp at h)
    · obtain ⟨i1, i2⟩ := Qmp n (y :: l) (by simp only [List.length_cons]; omega) hr2
      rw [bk, if_neg hp]
      have hd : Vq (sw x.f0) (bk (y :: l)) ∧ (sw x.f0 = 2 → Vq 1 (bk (y :: l))) ∧ (sw x.f0 = 1 → Vq 2 (bk (y :: l))) := by
        rcases k3 hx with e | e | e
        · rw [e, Qpa]
          exact ⟨Qep hy (by omega), fun h => by simp at h, fun h => by simp at h⟩
        · have hy0 : y.f0 = 0 := by
            rcases k3 hy with e' | e' | e'
            · exact e'
            · omega
            · exact absurd ⟨e, e'⟩ hp
          rw [e, Qqk]
          exact ⟨Kg hy0 (by decide), fun _ => Kg hy0 (by decide), fun h => by simp at h⟩
        · have hy0 : y.f0 = 0 := by
            rcases k3 hy with e' | e' | e'
            · exact e'
            · exact absurd ⟨e, e'⟩ h21
            · omega
          rw [e, Qpb]
          exact ⟨Kg hy0 (by decide), fun h => by simp at h, fun _ => Kg hy0 (by decide)⟩
      refine ⟨?_, Qgs (Qpm hx) i2 hd.1 hd.2.1⟩
      generalize hm : bk (y :: l) = m at *
      cases m with
      | nil => simp [bk] at i1
      | cons z m =>
        rw [bk, if_neg (fun ⟨a, b⟩ => hd.2.2 a b), i1, Qpn hx]
theorem Qny {l : List S48} (h : Few l) : Ev (fun k => Qv.f k l) (l.map Yo) := by
  refine Ev.down (P := fun i => Ev (fun k => Qv.l0 k l ((l.take i).map Yo) (i : Int)) (l.map Yo)) l.length ?_ ?_
  · refine Ev.step (f := fun _ => some (l.map Yo)) (fun k => ?_) (Ev.now _)
    simp only [Qv.l0]
    rw [if_neg (by omega), List.take_length]
  · intro i hi hE
    have h1 := h.1
    have h2 := h.el hi
    refine Ev.step (fun k => ?_) hE
    simp only [Qv.l0, Option.bind_some, List.length_nil, List.nil_append, Nat.zero_add]
    rw [if_pos (by omega), if_pos (by omega), Qbl l hi, if_pos (by omega), if_pos (by rw [List.length_map, List.length_take]; omega), Vu (by omega)]
    show Qv.l0 k l ((l.take i).map Yo ++ [Yo l[i]]) _ = _
    rw [Qfo]
def rtB (w : Int) : List S48 → Bool
  | [] => true
  | x :: l => decide (0 ≤ x.f0) && (decide (x.f0 ≤ 2) && (!decide (x.f1.length = 0) && (!decide (x.f0 = w) && (!(decide (w = 2) && decide (x.f0 = 1)) && rtB x.f0 l))))
theorem Qnt : ∀ (l : List S48) (w : Int), rtB w l = true ↔ (∀ x m, l = x :: m → x.f0 ≠ w ∧ ¬ (w = 2 ∧ x.f0 = 1)) ∧ Rt l
  | [], w => by simp [rtB, Rt]
  | x :: l, w => by
    have ih := Qnt l x.f0
    simp only [rtB, Bool.and_eq_true, decide_eq_true_eq, Bool.not_eq_true', decide_eq_false_iff_not, Bool.and_eq_false_iff]
    rw [ih]
    constructor
    · rintro ⟨h1, h2, h3, h4, h5, h6, h7⟩
      have hok : okS x := ⟨h1, h2, fun e => h3 (by rw [e]; rfl)⟩
      refine ⟨fun y m e => ?_, ?_⟩
      · injection e with e1 e2
        subst e1
        exact ⟨h4, fun ⟨a, b⟩ => h5.elim (fun h => h a) (fun h => h b)⟩
      · cases l with
        | nil => exact hok
        | cons y l =>
          obtain ⟨g1, g2⟩ := h6 y l rfl
          exact ⟨hok, fun e => g1 e.symm, g2, h7⟩
    · rintro ⟨h1, h2⟩
      obtain ⟨hok, hr⟩ := h2.tail
      obtain ⟨g1, g2⟩ := h1 x l rfl
      refine ⟨hok.1, hok.2.1, fun e => hok.2.2 (List.eq_nil_of_length_eq_zero e), g1, ?_, fun y m e => ?_, hr⟩
      · by_cases hw : w = 2
        · exact .inr fun e => g2 ⟨hw, e⟩
        · exact .inl hw
      · subst e
        exact ⟨fun e => h2.2.1 e.symm, h2.2.2.1⟩
theorem Qmd (l : List S48) : rtB (-1) l = true ↔ Rt l := by
  rw [Qnt]
  constructor
  · exact fun h => h.2
  · intro h
    refine ⟨fun x m e => ?_, h⟩
    subst e
    have := h.tail.1.1
    exact ⟨by omega, by omega⟩
theorem Qlm (l : List S48) (hl : l.length ≤ 1000000) : ∀ (d i : Nat) (w : Int), l.length - i ≤ d → i ≤ l.length → Ev (fun k => Zr.l0 k w (l.map Yo) ((l.map Yo).length : Int) (i : Int)) (rtB w (l.drop i)) := by
  have fin : ∀ w : Int, Ev (fun k => Zr.l0 k w (l.map Yo) ((l.map Yo).length : Int) (l.length : Int)) (rtB w (l.drop l.length)) := by
    intro w
    refine Ev.step (f := fun _ => some true) (fun k => ?_) (by rw [List.drop_length]; exact Ev.now _)
    simp only [Zr.l0]; rw [if_neg (by rw [List.length_map]; omega)]
  intro d
  induction d with
  | zero => intro i w h1 h2; obtain rfl : i = l.length := by omega
            exact fin w
  | succ d ih =>
    intro i w h1 h2
    by_cases hi : i < l.length
    · have e : Qy (l.map Yo) (i : Int) = Yo l[i] := by rw [rdT49_nat' _ (by simpa using hi)]; simp
      have ef : (Yo l[i]).f0 = l[i].f0 := rfl
      have eg : (Yo l[i]).f1 = l[i].f1 := rfl
      have hlen : ((l.map Yo).length : Int) = (l.length : Int) := by simp
      have hlt : (i : Int) < (l.length : Int) := by omega
      have hnx := Vu (i := i) (by omega)
      rw [List.drop_eq_getElem_cons hi]
      have hE := ih (i + 1) l[i].f0 (by omega) (by omega)
      generalize l[i] = x at *
      have fail : rtB w (x :: l.drop (i + 1)) = false → (∀ k, Zr.l0 (k + 1) w (l.map Yo) ((l.map Yo).length : Int) (i : Int) = some false) → Ev (fun k => Zr.l0 k w (l.map Yo) ((l.map Yo).length : Int) (i : Int)) (rtB w (x :: l.drop (i + 1))) := fun h1 h2 => by
        rw [h1]; exact Ev.step (f := fun _ => some false) h2 (Ev.now _)
      by_cases c1 : x.f0 < 0
      · refine fail (by simp [rtB, show ¬ (0 ≤ x.f0) by omega]) (fun k => ?_)
        simp only [Zr.l0]; rw [hlen, if_pos hlt, if_pos (by omega), if_pos hlt, e, ef, if_pos c1]
      by_cases c2 : x.f0 > 2
      · refine fail (by simp [rtB, show ¬ (x.f0 ≤ 2) by omega]) (fun k => ?_)
        simp only [Zr.l0]; rw [hlen, if_pos hlt, if_pos (by omega), if_pos hlt, e, ef, if_neg c1, if_pos c2]
      by_cases c3 : x.f1.length = 0
      · refine fail (by simp [rtB, c3]) (fun k => ?_)
        simp only [Zr.l0]; rw [hlen, if_pos hlt, if_pos (by omega), if_pos hlt, e, ef, if_neg c1, if_neg c2, eg, if_pos (by omega)]
      by_cases c4 : x.f0 = w
      · refine fail (by simp [rtB, c4]) (fun k => ?_)
        simp only [Zr.l0]; rw [hlen, if_pos hlt, if_pos (by omega), if_pos hlt, e, ef, if_neg c1, if_neg c2, eg, if_neg (by omega), if_pos c4]
      by_cases c5 : w = 2
      · by_cases c6 : x.f0 = 1
        · refine fail (by simp [rtB, c5, c6]) (fun k => ?_)
          simp only [Zr.l0]; rw [hlen, if_pos hlt, if_pos (by omega), if_pos hlt, e, ef, if_neg c1, if_neg c2, eg, if_neg (by omega), if_neg c4, if_pos c5, if_pos c6]
        · have hv : rtB w (x :: l.drop (i + 1)) = rtB x.f0 (l.drop (i + 1)) := by simp [rtB, show 0 ≤ x.f0 by omega, show x.f0 ≤ 2 by omega, c3, c4, c6]
          rw [hv]
          refine Ev.step (fun k => ?_) hE
          simp only [Zr.l0]; rw [hlen, if_pos hlt, if_pos (by omega), if_pos hlt, e, ef, if_neg c1, if_neg c2, eg, if_neg (by omega), if_neg c4, if_pos c5, if_neg c6, hnx]
      · have hv : rtB w (x :: l.drop (i + 1)) = rtB x.f0 (l.drop (i + 1)) := by simp [rtB, show 0 ≤ x.f0 by omega, show x.f0 ≤ 2 by omega, c3, c4, c5]
        rw [hv]
        refine Ev.step (fun k => ?_) hE
        simp only [Zr.l0]; rw [hlen, if_pos hlt, if_pos (by omega), if_pos hlt, e, ef, if_neg c1, if_neg c2, eg, if_neg (by omega), if_neg c4, if_neg c5, hnx]
    · obtain rfl : i = l.length := by omega
      exact fin w
theorem Qln (l : List S48) (hl : l.length ≤ 1000000) : Ev (fun k => Zr.f k (l.map Yo)) (rtB (-1) l) := by
  have := Qlm l hl l.length 0 (-1) (by omega) (by omega)
  exact this
theorem Qns {l : List S48} (h : l.length ≤ 1000000) (hk : ∀ x ∈ l, okS x) : Ev (fun k => Qi.f k l) (bk l) := by
  have key : ∀ (d i : Nat) (acc : List S48), l.length - i ≤ d → i ≤ l.length → acc.length = i → Ev (fun k => Qi.l0 k l acc (i : Int)) (acc ++ bk (l.drop i)) := by
    have fin : ∀ acc : List S48, Ev (fun k => Qi.l0 k l acc (l.length : Int)) (acc ++ bk (l.drop l.length)) := by
      intro acc
      refine Ev.step (f := fun _ => some acc) (fun k => ?_) (by rw [List.drop_length]; simp only [bk, List.append_nil]; exact Ev.now _)
      simp only [Qi.l0]; rw [if_neg (by omega)]
    intro d
    induction d with
    | zero => intro i acc h1 h2 h3; obtain rfl : i = l.length := by omega
              exact fin acc
    | succ d ih =>
      intro i acc h1 h2 h3
      by_cases hi : i < l.length
      · have hx := hk _ (List.getElem_mem hi)
        have e := Qbl l hi
        have hnx := Vu (i := i) (by omega)
        have hlt : (i : Int) < (l.length : Int) := by omega
        have h0i : (0 : Int) ≤ (i : Int) := by omega
        have hacc : acc.length < 4398046511104 := by omega
        -- one step turned by itself
        have rdk : rd [0, 2, 1] l[i].f0 = sw l[i].f0 ∧ 0 ≤ l[i].f0 ∧ l[i].f0 < (([0, 2, 1] : List Int).length : Int) := by
          rcases k3 hx with c | c | c <;> rw [c] <;> simp [rd, sw]
        have hE1 := ih (i + 1) (acc ++ [⟨sw l[i].f0, l[i].f1⟩]) (by omega) (by omega) (by simp [h3])
        by_cases c1 : l[i].f0 = 1
        · by_cases hn : i + 1 < l.length
          · have e2 : Qt l ((i + 1 : Nat) : Int) = l[i + 1] := Qbl l hn
            by_cases c2 : l[i + 1].f0 = 2
            · have hE2 := ih (i + 2) (acc ++ [⟨1, l[i + 1].f1⟩, ⟨2, l[i].f1⟩]) (by omega) (by omega) (by simp [h3])
              have hb : bk (l.drop i) = [⟨1, l[i + 1].f1⟩, ⟨2, l[i].f1⟩] ++ bk (l.drop (i + 2)) := by
                rw [List.drop_eq_getElem_cons hi, List.drop_eq_getElem_cons hn, bk, if_pos ⟨c1, c2⟩]; rfl
              rw [hb, ← List.append_assoc]
              refine Ev.step (fun k => ?_) hE2
              simp only [Qi.l0]
              rw [if_pos hlt, if_pos h0i, e, if_pos c1, hnx, if_pos (by omega), if_pos (by omega), e2, if_pos c2, Option.bind_some, if_pos (by simp only [List.length_cons, List.length_nil]; omega), Vu (by omega)]
            · have hb : bk (l.drop i) = [⟨sw l[i].f0, l[i].f1⟩] ++ bk (l.drop (i + 1)) := by
                rw [List.drop_eq_getElem_cons hi, List.drop_eq_getElem_cons hn, bk, if_neg (fun h => c2 h.2)]; rfl
              rw [hb, ← List.append_assoc]
              refine Ev.step (fun k => ?_) hE1
              simp only [Qi.l0]
              rw [if_pos hlt, if_pos h0i, e, if_pos c1, hnx, if_pos (by omega), if_pos (by omega), e2, if_neg c2, Option.bind_some, if_pos rdk.2.1, if_pos rdk.2.2, if_pos hacc, rdk.1]
          · have hb : bk (l.drop i) = [⟨sw l[i].f0, l[i].f1⟩] ++ bk (l.drop (i + 1)) := by
              rw [List.drop_eq_getElem_cons hi, List.drop_of_length_le (by omega)]; rfl
            rw [hb, ← List.append_assoc]
            refine Ev.step (fun k => ?_) hE1
            simp only [Qi.l0]
            rw [if_pos hlt, if_pos h0i, e, if_pos c1, hnx, if_neg (by omega), Option.bind_some, if_pos rdk.2.1, if_pos rdk.2.2, if_pos hacc, rdk.1]
        · have hb : bk (l.drop i) = [⟨sw l[i].f0, l[i].f1⟩] ++ bk (l.drop (i + 1)) := by
            rw [List.drop_eq_getElem_cons hi]
            cases l.drop (i + 1) with
            | nil => rfl
            | cons y m => rw [bk, if_neg (fun h => c1 h.1)]; rfl
          rw [hb, ← List.append_assoc]
          refine Ev.step (fun k => ?_) hE1
          simp only [Qi.l0]
          rw [if_pos hlt, if_pos h0i, e, if_neg c1, Option.bind_some, if_pos rdk.2.1, if_pos rdk.2.2, if_pos hacc, rdk.1, hnx]
      · obtain rfl : i = l.length := by omega
        exact fin acc
  have := key l.length 0 [] (by omega) (by omega) rfl
  exact this
theorem Rt.all : ∀ {l : List S48}, Rt l → ∀ x ∈ l, okS x
  | [], _, x, hx => by simp at hx
  | y :: l, h, x, hx => by
    obtain ⟨h1, h2⟩ := h.tail
    rcases List.mem_cons.1 hx with rfl | hx
    · exact h1
    · exact Rt.all h2 x hx
end Go.Proofs.YtadafplbgophfaaGreatDoor.PA
end
section
namespace Go.Proofs.YtadafplbgophfaaGreatDoor.PA
namespace FavT
open Jdg
def mk1 (s : S48) : List S68 := s.f1.map fun t => ⟨s.f0, t⟩
def mks (l : List S48) : List S68 := l.flatMap mk1
def sd (q : Int) (m : List S68) : List ByteArray := (m.filter fun x => decide (x.f0 = 0 ∨ x.f0 = q)).map (·.f1)
def Yi (m : List S68) : List Bool := m.map fun x => decide (x.f0 = 0)
theorem Ks (q : Int) (l m : List S68) : sd q (l ++ m) = sd q l ++ sd q m := by simp [sd]
theorem Ud (l m : List S68) : Yi (l ++ m) = Yi l ++ Yi m := by simp [Yi]
theorem Qjy (l m : List S48) : mks (l ++ m) = mks l ++ mks m := by simp [mks]
theorem Qhg (x : S48) : mks [x] = mk1 x := by simp [mks]
theorem Ui (x : S48) (l : List S48) : mks (x :: l) = mk1 x ++ mks l := by simp [mks]
theorem Jw {x : S48} {y : S68} (h : y ∈ mk1 x) : y.f0 = x.f0 := by
 unfold mk1 at h
 obtain ⟨t, _, rfl⟩ := List.mem_map.1 h; rfl
theorem Qqj (q : Int) (x : S48) : sd q (mk1 x) = if x.f0 = 0 ∨ x.f0 = q then x.f1 else [] := by
 have e : ∀ t : List ByteArray, sd q (t.map fun t => (⟨x.f0, t⟩ : S68)) = if x.f0 = 0 ∨ x.f0 = q then t else [] := by
  intro t
  induction t with
  | nil => simp [sd]
  | cons s t ih =>
   rw [List.map_cons, show ((⟨x.f0, s⟩ : S68) :: t.map fun t => (⟨x.f0, t⟩ : S68)) = [⟨x.f0, s⟩] ++ t.map (fun t => (⟨x.f0, t⟩ : S68)) from rfl, Ks, ih]
   by_cases h : x.f0 = 0 ∨ x.f0 = q
   ·rw [if_pos h, if_pos h]; simp [sd, h]
   ·rw [if_neg h, if_neg h]; simp [sd, h]
 exact e x.f1
theorem Qdf (q : Int) (l : List S48) : sd q (mks l) = Yk q l := by
 induction l with
 | nil => rfl
 | cons x l ih => rw [Ui, Ks, ih, Qdg, Qqj]
theorem Qbj (l : List S48) : (mks l).length = tot l := by
 induction l with
 | nil => rfl
 | cons x l ih => rw [Ui, List.length_append, ih, Qfp]; simp [mk1]
theorem Yw (m : List S68) : (Yi m).length = m.length := by simp [Yi]
theorem Qqd (l : List S48) (k : Int) (t : List ByteArray) : mks (pt l k t) = mks l ++ t.map fun s => (⟨k, s⟩ : S68) := by
 rcases Ua l k t with ⟨rfl, e⟩ | ⟨h, rfl, e⟩ | ⟨h, i, x, rfl, hk, e⟩ | ⟨h, i, x, rfl, hk, e⟩ <;> rw [e]
 ·simp
 ·simp [mks, mk1]
 ·simp [mks, mk1, hk]
 ·simp [mks, mk1]
def Qdj (out : List S48) (m : List S68) : List S48 := m.foldl (fun o x => pt o x.f0 [x.f1]) out
def grp (m : List S68) : List S48 := Qdj [] m
theorem Qbv (out : List S48) (x : S68) (m : List S68) : Qdj out (x :: m) = Qdj (pt out x.f0 [x.f1]) m := rfl
theorem Qgj : ∀ (m : List S68) (out : List S48), mks (Qdj out m) = mks out ++ m
 | [], out => by simp [Qdj]
 | x :: m, out => by rw [Qbv, Qgj m, Qqd]; simp
theorem Qeb (m : List S68) : mks (grp m) = m := by
 have := Qgj m []
 simpa [mks, grp] using this
theorem Qoj (m : List S68) : tot (grp m) = m.length := by rw [← Qbj, Qeb]
theorem Jt (q : Int) (m : List S68) : Yk q (grp m) = sd q m := by rw [← Qdf, Qeb]
def Qbo : List S68 → Prop
 | [] => True
 | x :: l => (∀ y, l.head? = some y → ¬ (x.f0 = 2 ∧ y.f0 = 1)) ∧ Qbo l
theorem Je : ∀ (l m : List S68), Qbo (l ++ m) ↔ Qbo l ∧ Qbo m ∧ ∀ x y, l.getLast? = some x → m.head? = some y → ¬ (x.f0 = 2 ∧ y.f0 = 1)
 | [], m => by simp [Qbo]
 | [a], m => by
  simp only [List.cons_append, List.nil_append, Qbo, List.head?_nil, List.getLast?_singleton, Option.some.injEq]; constructor
  ·rintro ⟨h1, h2⟩
   exact ⟨⟨(fun y h => by cases h), trivial⟩, h2, (fun x y e hy => by subst e; exact h1 y hy)⟩
  ·rintro ⟨_, h2, h3⟩
   exact ⟨fun y hy => h3 a y rfl hy, h2⟩
 | a :: b :: l, m => by
  have ih := Je (b :: l) m
  have e : (a :: b :: l).getLast? = (b :: l).getLast? := by simp [List.getLast?_cons_cons]
  rw [e]
  simp only [List.cons_append] at ih ⊢
  rw [Qbo, ih, Qbo]; simp only [List.head?_cons]; constructor
  ·rintro ⟨h1, h2, h3, h4⟩; exact ⟨⟨h1, h2⟩, h3, h4⟩
  ·rintro ⟨⟨h1, h2⟩, h3, h4⟩; exact ⟨h1, h2, h3, h4⟩
theorem Qfz (c : Int) : ∀ (m : List S68), (∀ x ∈ m, x.f0 = c) → Qbo m
 | [], _ => trivial
 | x :: m, h => by
  refine ⟨fun y hy => ?_, Qfz c m (fun y hy => h y (List.mem_cons_of_mem _ hy))⟩; have h1 := h x (by simp); have h2 := h y (List.mem_cons_of_mem _ (List.mem_of_head? hy)); rintro ⟨g1, g2⟩
  omega
theorem Qbo.inner {a m b : List S68} (h : Qbo (a ++ m ++ b)) : Qbo m := ((Je a m).1 ((Je (a ++ m) b).1 h).1).2.1
theorem Qhr : ∀ (l : List S48), Rt l → Qbo (mks l)
 | [], _ => trivial
 | x :: l, h => by
  obtain ⟨hx, hl⟩ := h.tail; rw [Ui, Je]; refine ⟨Qfz x.f0 _ (fun y hy => Jw hy), Qhr l hl, fun u v hu hv => ?_⟩; have h1 := Jw (List.mem_of_getLast? hu)
  cases l with
  | nil => cases hv
  | cons y l =>
   have hy : okS y := hl.tail.1
   have hne : mk1 y ≠ [] := by unfold mk1; simpa using hy.2.2
   rw [Ui] at hv
   have hv2 : v ∈ mk1 y := by
    cases hm : mk1 y with
    | nil => exact absurd hm hne
    | cons z t => rw [hm] at hv; simp only [List.cons_append, List.head?_cons, Option.some.injEq] at hv; rw [← hv]; simp
   have h2 := Jw hv2; rw [h1, h2]; exact h.2.2.1
theorem Qlq {l : List S48} (h : ∀ x ∈ l, okS x) : ∀ y ∈ mks l, 0 ≤ y.f0 ∧ y.f0 ≤ 2 := fun y hy => by
 unfold mks at hy
 obtain ⟨x, hx, hy⟩ := List.mem_flatMap.1 hy; rw [Jw hy]; exact ⟨(h x hx).1, (h x hx).2.1⟩
theorem Qkm : ∀ (i : List S48) (x y : S48), Rt (i ++ [x]) → okS y → x.f0 ≠ y.f0 → ¬ (x.f0 = 2 ∧ y.f0 = 1) → Rt (i ++ [x] ++ [y])
 | [], x, y, h, hy, h1, h2 => ⟨h, h1, h2, hy⟩
 | [z], x, y, h, hy, h1, h2 => ⟨h.1, h.2.1, h.2.2.1, h.2.2.2, h1, h2, hy⟩
 | z :: z2 :: i, x, y, h, hy, h1, h2 => ⟨h.1, h.2.1, h.2.2.1, Qkm (z2 :: i) x y h.2.2.2 hy h1 h2⟩
theorem Qkl : ∀ (i : List S48) (x y : S48), Rt (i ++ [x]) → okS y → x.f0 = y.f0 → Rt (i ++ [y])
 | [], x, y, h, hy, e => hy
 | [z], x, y, h, hy, e => ⟨h.1, by have := h.2.1; rw [← e]; exact this, by have := h.2.2.1; rw [← e]; exact this, hy⟩
 | z :: z2 :: i, x, y, h, hy, e => ⟨h.1, h.2.1, h.2.2.1, Qkl (z2 :: i) x y h.2.2.2 hy e⟩
theorem Qga {l : List S48} {k : Int} {t : List ByteArray} (h : Rt l) (hk : 0 ≤ k ∧ k ≤ 2) (hl : k = 1 → Uf 2 l) : Rt (pt l k t) := by
 rcases Ua l k t with ⟨rfl, e⟩ | ⟨ht, rfl, e⟩ | ⟨ht, i, x, rfl, hk', e⟩ | ⟨ht, i, x, rfl, hk', e⟩ <;> rw [e]
 ·exact h
 ·exact ⟨hk.1, hk.2, ht⟩
 ·exact Qkl i x _ h ⟨hk.1, hk.2, by simp [ht]⟩ hk'
 ·exact Qkm i x _ h ⟨hk.1, hk.2, ht⟩ hk' (fun ⟨a, b⟩ => hl b i x rfl a)
theorem Qla {l : List S48} {k : Int} {t : List ByteArray} (ht : t ≠ []) {q : Int} (hq : k ≠ q) : Uf q (pt l k t) := by
 rcases Ua l k t with ⟨rfl, e⟩ | ⟨_, rfl, e⟩ | ⟨_, i, x, rfl, hk', e⟩ | ⟨_, i, x, rfl, hk', e⟩
 ·exact absurd rfl ht
 ·rw [e, show [(⟨k, t⟩ : S48)] = [] ++ [⟨k, t⟩] from rfl]; exact Uf.snoc hq
 ·rw [e]; exact Uf.snoc hq
 ·rw [e]; exact Uf.snoc hq
theorem Qih : ∀ (m : List S68) (out : List S48), Rt out → (∀ x ∈ m, 0 ≤ x.f0 ∧ x.f0 ≤ 2) → Qbo m → (∀ y, m.head? = some y → y.f0 = 1 → Uf 2 out) → Rt (Qdj out m)
 | [], out, h, _, _, _ => h
 | y :: m, out, h, hk, hn, hh => by
  rw [Qbv]; refine Qih m _ (Qga h (hk y (by simp)) (fun e => hh y rfl e)) (fun x hx => hk x (List.mem_cons_of_mem _ hx)) hn.2 (fun z hz e => ?_); exact Qla (by simp) (fun e2 => hn.1 z hz ⟨e2, e⟩)
theorem Qqb {m : List S68} (hk : ∀ x ∈ m, 0 ≤ x.f0 ∧ x.f0 ≤ 2) (hn : Qbo m) : Rt (grp m) :=
 Qih m [] trivial hk hn (fun _ _ _ => Uf.nil 2)
theorem Uo (k : Int) (t : List ByteArray) : Yi (mk1 ⟨k, t⟩) = List.replicate t.length (decide (k = 0)) := by
 unfold Yi mk1; rw [List.map_map]
 induction t with
 | nil => rfl
 | cons s t ih => rw [List.map_cons, ih, List.length_cons, List.replicate_succ]; rfl
theorem Qlf (k : Int) : decide (sw k = 0) = decide (k = 0) := by
 unfold sw
 by_cases h1 : k = 1
 ·rw [if_pos h1, h1]; rfl
 ·rw [if_neg h1]
  by_cases h2 : k = 2
  ·rw [if_pos h2, h2]; rfl
  ·rw [if_neg h2]
theorem Qcm : ∀ (n : Nat) (l : List S48), l.length ≤ n → Yi (mks (bk l)) = Yi (mks l)
 | _, [], _ => rfl
 | 0, x :: l, h => by simp at h
 | n + 1, [x], _ => by
  show Yi (mks [⟨sw x.f0, x.f1⟩]) = Yi (mks [x])
  rw [Qhg, Qhg, Uo, Qlf, ← Uo]
 | n + 1, x :: y :: l, h => by
  simp only [List.length_cons] at h
  rw [bk]
  by_cases hp : x.f0 = 1 ∧ y.f0 = 2
  ·rw [if_pos hp, Ui, Ui, Ui, Ui, Ud, Ud, Ud, Ud, Qcm n l (by omega), ← List.append_assoc, ← List.append_assoc]
   congr 1
   have ex : mk1 x = mk1 ⟨x.f0, x.f1⟩ := rfl; have ey : mk1 y = mk1 ⟨y.f0, y.f1⟩ := rfl; rw [ex, ey, Uo, Uo, Uo, Uo, hp.1, hp.2]
   show List.replicate y.f1.length false ++ List.replicate x.f1.length false = List.replicate x.f1.length false ++ List.replicate y.f1.length false
   rw [List.replicate_append_replicate, List.replicate_append_replicate, Nat.add_comm]
  ·rw [if_neg hp, Ui, Ui, Ud, Ud, Qcm n (y :: l) (by simp only [List.length_cons]; omega), Uo, Qlf, ← Uo]
theorem Ki {m : List S68} (h : ∀ x ∈ m, x.f0 = 0) (q : Int) : sd q m = m.map (·.f1) := by
 unfold sd; rw [List.filter_eq_self.2 (fun x hx => by simp [h x hx])]
theorem Qfk (q : Int) (m : List S68) : (sd q m).length ≤ m.length := by
 unfold sd; rw [List.length_map]; exact List.length_filter_le _ _
theorem Qhf {q : Int} {m : List S68} {x : S68} (h : x ∈ m) (hx : x.f0 = 0 ∨ x.f0 = q) : x.f1 ∈ sd q m := by
 unfold sd; exact List.mem_map.2 ⟨x, List.mem_filter.2 ⟨h, by simpa using hx⟩, rfl⟩
end FavT
end Go.Proofs.YtadafplbgophfaaGreatDoor.PA
end
section
namespace Go.Proofs.YtadafplbgophfaaGreatDoor.PA
namespace FavT
def Qfs (q : List Bool) : Nat → List (Nat × Nat) → Prop
 | a, [] => ∀ i, a ≤ i → i < q.length → q.getD i true = true
 | a, w :: r => a ≤ w.1 ∧ w.1 < w.2 ∧ w.2 ≤ q.length ∧ (∀ i, a ≤ i → i < w.1 → q.getD i true = true) ∧ (∃ i, w.1 ≤ i ∧ i < w.2 ∧ q.getD i true = false) ∧ (r ≠ [] → w.2 < q.length ∧ q.getD w.2 true = true) ∧ Qfs q w.2 r
def rgo (ar L : Nat) : List Bool → Nat → Nat → Nat → List (Nat × Nat)
 | [], s, last, _ => [(s, min (last + ar) L)]
 | x :: r, s, last, i => if x then rgo ar L r s last (i + 1) else if i ≤ last + 2 * ar then rgo ar L r s (i + 1) (i + 1) else (s, min (last + ar) L) :: rgo ar L r (i - ar) (i + 1) (i + 1)
def rgs (ar L : Nat) : List Bool → Nat → List (Nat × Nat)
 | [], _ => []
 | x :: r, i => if x then rgs ar L r (i + 1) else rgo ar L r (i - ar) (i + 1) (i + 1)
theorem Qgc {q r : List Bool} {x : Bool} {i : Nat} (h : q.drop i = x :: r) : i < q.length ∧ q.getD i true = x ∧ q.drop (i + 1) = r := by
 have hl : i < q.length := by
  apply Classical.byContradiction
  intro hn
  rw [List.drop_of_length_le (by omega)] at h
  cases h
 rw [List.drop_eq_getElem_cons hl] at h
 injection h with h1 h2
 refine ⟨hl, ?_, h2⟩; rw [List.getD_eq_getElem?_getD, List.getElem?_eq_getElem hl]; exact h1
theorem Qcp (q : List Bool) (ar : Nat) : ∀ (r : List Bool) (s last i a : Nat), q.drop i = r → i ≤ q.length → a ≤ s → s < last → last ≤ i → q.getD (last - 1) true = false → (∀ j, last ≤ j → j < i → q.getD j true = true) → (∀ j, a ≤ j → j < s → q.getD j true = true) → Qfs q a (rgo ar q.length r s last i)
 | [], s, last, i, a, hr, hi, h1, h2, h3, h4, h5, h6 => by
  have hq : q.length ≤ i := by simpa using hr
  refine ⟨h1, ?_, ?_, h6, ⟨last - 1, ?_, ?_, h4⟩, fun h => absurd rfl h, ?_⟩
  ·simp only; omega
  ·simp only; omega
  ·simp only; omega
  ·simp only; omega
  ·intro j g1 g2
   simp only at g1
   exact h5 j (by omega) (by omega)
 | x :: r, s, last, i, a, hr, hi, h1, h2, h3, h4, h5, h6 => by
  obtain ⟨hl, hx, hr2⟩ := Qgc hr; rw [rgo]
  by_cases c : x = true
  ·rw [if_pos c]
   refine Qcp q ar r s last (i + 1) a hr2 hl h1 h2 (by omega) h4 (fun j g1 g2 => ?_) h6
   by_cases e : j = i
   ·rw [e, hx, c]
   ·exact h5 j g1 (by omega)
  ·rw [if_neg c]
   have c0 : x = false := by simpa using c
   by_cases d : i ≤ last + 2 * ar
   ·rw [if_pos d]
    refine Qcp q ar r s (i + 1) (i + 1) a hr2 hl h1 (by omega) (Nat.le_refl _) (by rw [Nat.add_sub_cancel, hx, c0]) (fun j g1 g2 => by omega) h6
   ·rw [if_neg d]
    refine ⟨h1, ?_, ?_, h6, ⟨last - 1, ?_, ?_, h4⟩, fun _ => ⟨?_, ?_⟩, ?_⟩
    ·simp only; omega
    ·simp only; omega
    ·simp only; omega
    ·simp only; omega
    ·simp only; omega
    ·exact h5 _ (by simp only; omega) (by simp only; omega)
    ·refine Qcp q ar r (i - ar) (i + 1) (i + 1) _ hr2 hl (by simp only; omega) (by omega) (Nat.le_refl _) (by rw [Nat.add_sub_cancel, hx, c0]) (fun j g1 g2 => by omega) (fun j g1 g2 => ?_)
     simp only at g1
     exact h5 j (by omega) (by omega)
theorem Qiu (q : List Bool) (ar : Nat) : ∀ (r : List Bool) (i : Nat), q.drop i = r → i ≤ q.length → (∀ j, j < i → q.getD j true = true) → Qfs q 0 (rgs ar q.length r i)
 | [], i, hr, hi, h5 => by
  have hq : q.length ≤ i := by simpa using hr
  exact fun j g1 g2 => h5 j (by omega)
 | x :: r, i, hr, hi, h5 => by
  obtain ⟨hl, hx, hr2⟩ := Qgc hr; rw [rgs]
  by_cases c : x = true
  ·rw [if_pos c]
   refine Qiu q ar r (i + 1) hr2 hl (fun j g => ?_)
   by_cases e : j = i
   ·rw [e, hx, c]
   ·exact h5 j (by omega)
  ·rw [if_neg c]
   have c0 : x = false := by simpa using c
   refine Qcp q ar r (i - ar) (i + 1) (i + 1) 0 hr2 hl (Nat.zero_le _) (by omega) (Nat.le_refl _) (by rw [Nat.add_sub_cancel, hx, c0]) (fun j g1 g2 => by omega) (fun j g1 g2 => h5 j (by omega))
def Qho (ar : Nat) (q : List Bool) : List (Nat × Nat) := rgs ar q.length q 0
theorem Qhp (ar : Nat) (q : List Bool) : Qfs q 0 (Qho ar q) := Qiu q ar q 0 rfl (Nat.zero_le _) (fun j g => by omega)
theorem Qfs.none {q : List Bool} {a : Nat} (h : ∀ i, a ≤ i → i < q.length → q.getD i true = true) : ∀ {r : List (Nat × Nat)}, Qfs q a r → r = []
 | [], _ => rfl
 | w :: r, ⟨h1, h2, h3, _, ⟨i, g1, g2, g3⟩, _⟩ => by rw [h i (by omega) (by omega)] at g3; cases g3
end FavT
end Go.Proofs.YtadafplbgophfaaGreatDoor.PA
end
section
namespace Go.Proofs.YtadafplbgophfaaGreatDoor.PA
open Go.RowKit Go.Proofs.YtadafplbgophfaaGreatDoorW.PrintWords Go.Proofs.YtadafplbgophfaaGreatDoorW.PrintLast Go.Proofs.YtadafplbgophfaaGreatDoorW.PrintMore
theorem Qne : (Tryz.prog.info? 40).map (fun i => (i.zero, i.size, i.bytes)) = some (some (.agg #[(.int .i64 0), (.int .i64 0)]), 2, 16) := by kernel_rfl
structure S40 where
 f0 : Int
 f1 : Int
def z40 : S40 := ⟨(0 : Int), (0 : Int)⟩
def k40 : Kd S40 := Kd.iso (Kd.pair (Kd.int .i64) (Kd.int .i64)) (fun x : S40 => (x.f0, x.f1))
theorem Qng {w : World} {x : S40} {cs : List Value} (h : k40.K w x cs) : cs = [.int .i64 x.f0, .int .i64 x.f1] := by
 obtain ⟨_, _, rfl, rfl, rfl⟩ := h; exact rfl
theorem Qgd {w : World} {base : Nat} {ok : Nat → Prop} {x : S40} {cs : List Value} (h : k40.M w base ok x cs) : cs = [.int .i64 x.f0, .int .i64 x.f1] := by
 obtain ⟨_, _, rfl, rfl, rfl⟩ := h; exact rfl
theorem Qhb (w : World) (base : Nat) (ok : Nat → Prop) (x : S40)  : k40.M w base ok x [.int .i64 x.f0, .int .i64 x.f1] := ⟨[.int .i64 x.f0], [.int .i64 x.f1], rfl, rfl, rfl⟩
def Zm (xs : List S40) (i : Int) : S40 := xs.getD i.toNat z40
theorem Qpw {w : World} {A : Option Addr} {n : Nat} {xs : List S40} (h : Kd.C k40 w A n xs) (i : Int) (h0 : 0 ≤ i) (h1 : i < n) : ∃ ad , A = some ad ∧ w.cell? (ad.add (i.toNat * 2)) = some (.int .i64 (Zm xs i).f0) ∧ w.cell? ⟨(ad.add (i.toNat * 2)).block, (ad.add (i.toNat * 2)).off + 1, none⟩ = some (.int .i64 (Zm xs i).f1) := by
 obtain ⟨ad, c, e, _, hK, hc0⟩ := Kd.C_get h z40 i h0 h1; have hc : ∀ j u, c[j]? = some u → w.cell? (ad.add (i.toNat * 2 + j)) = some u := hc0; obtain rfl := Qng hK; exact ⟨ad, e, hc 0 _ rfl, by rw [← Xf _ _ 1 (by omega)]; exact hc 1 _ rfl⟩
end Go.Proofs.YtadafplbgophfaaGreatDoor.PA
end
section
namespace Go.Proofs.YtadafplbgophfaaGreatDoor.PA
open Go.RowKit Go.Proofs.YtadafplbgophfaaGreatDoorW.PrintWords Go.Proofs.YtadafplbgophfaaGreatDoorW.PrintLast Go.Proofs.YtadafplbgophfaaGreatDoorW.PrintMore
attribute [local go_sem] Xv Xx Yl Ym Xo Xp Xw Xy
mutual
def Ze.l0 : Nat → List (S68) → List (S49) → Int → Int → Option ((List (S68)))
 | 0, _, _, _, _ => none
 | k + 1, x3, x8, x9, x10 => if x10 < x9 then (if 0 ≤ x10 then (if x10 < (x8.length : Int) then (Ze.l1 k x3 x8 x9 x10 ((Qy x8 x10).f1) (((Qy x8 x10).f1).length : Int) 0 ((Qy x8 x10).f0) ((Qy x8 x10).f1)) else (none)) else (none)) else (some x3)
def Ze.l1 : Nat → List (S68) → List (S49) → Int → Int → List ByteArray → Int → Int → Int → List ByteArray → Option ((List (S68)))
 | 0, _, _, _, _, _, _, _, _, _ => none
 | k + 1, x3, x8, x9, x10, x15, x16, x17, b2, d0 => if x17 < x16 then (if 0 ≤ x17 then (if x17 < (x15.length : Int) then (if x3.length < 5864062014805 then (Ze.l1 k (x3 ++ [(⟨b2, Zy ByteArray.empty x15 x17⟩ : S68)]) x8 x9 x10 x15 x16 (wrap64 (x17 + 1)) b2 d0) else (none)) else (none)) else (none)) else (Ze.l0 k x3 x8 x9 (wrap64 (x10 + 1)))
end
def Ze.f (k : Nat) (l0 : List (S49)) : Option ((List (S68))) := Ze.l0 k ([] : List (S68)) l0 (l0.length : Int) 0
theorem Ze.mono_l : ∀ k, (∀ y0 y1 y2 y3, LeO (Ze.l0 k y0 y1 y2 y3) (Ze.l0 (k + 1) y0 y1 y2 y3)) ∧ (∀ y0 y1 y2 y3 y4 y5 y6 y7 y8, LeO (Ze.l1 k y0 y1 y2 y3 y4 y5 y6 y7 y8) (Ze.l1 (k + 1) y0 y1 y2 y3 y4 y5 y6 y7 y8))
 | 0 => ⟨fun _ _ _ _ r h => by simp [Ze.l0] at h, fun _ _ _ _ _ _ _ _ _ r h => by simp [Ze.l1] at h⟩
 | k + 1 => by
  obtain ⟨ih0, ih1⟩ := Ze.mono_l k; refine ⟨?_, ?_⟩
  ·intro y0 y1 y2 y3
   unfold Ze.l0
   repeat' first
   | (with_reducible exact ih0 _ _ _ _)
   | (with_reducible exact ih1 _ _ _ _ _ _ _ _ _)
   | (with_reducible exact LeO.refl _)
   | (with_reducible exact LeO.none _)
   | (with_reducible refine LeO.ite ?_ ?_)
   | (with_reducible refine LeO.bind ?_ (fun _ => ?_))
   | exact ih0 _ _ _ _
   | exact ih1 _ _ _ _ _ _ _ _ _
   | exact LeO.none _
   | refine LeO.ite ?_ ?_
   | refine LeO.bind ?_ (fun _ => ?_)
  ·intro y0 y1 y2 y3 y4 y5 y6 y7 y8
   unfold Ze.l1
   repeat' first
   | (with_reducible exact ih0 _ _ _ _)
   | (with_reducible exact ih1 _ _ _ _ _ _ _ _ _)
   | (with_reducible exact LeO.refl _)
   | (with_reducible exact LeO.none _)
   | (with_reducible refine LeO.ite ?_ ?_)
   | (with_reducible refine LeO.bind ?_ (fun _ => ?_))
   | exact ih0 _ _ _ _
   | exact ih1 _ _ _ _ _ _ _ _ _
   | exact LeO.none _
   | refine LeO.ite ?_ ?_
   | refine LeO.bind ?_ (fun _ => ?_)
theorem Ze.mono : ∀ a0 k, LeO (Ze.f k a0) (Ze.f (k + 1) a0) := by
 intro a0 k; obtain ⟨ih0, ih1⟩ := Ze.mono_l k; unfold Ze.f
 repeat' first
   | (with_reducible exact ih0 _ _ _ _)
   | (with_reducible exact ih1 _ _ _ _ _ _ _ _ _)
   | (with_reducible exact LeO.refl _)
   | (with_reducible exact LeO.none _)
   | (with_reducible refine LeO.ite ?_ ?_)
   | (with_reducible refine LeO.bind ?_ (fun _ => ?_))
   | exact ih0 _ _ _ _
   | exact ih1 _ _ _ _ _ _ _ _ _
   | exact LeO.none _
   | refine LeO.ite ?_ ?_
   | refine LeO.bind ?_ (fun _ => ?_)
set_option maxHeartbeats 8000000 in
set_option maxRecDepth 100000 in
theorem Ze.calls (k : Nat) (A0 : Option Addr) (c0 : Nat) (l0 : List (S49)) (r : List (S68)) (w : World) (hr0 : Kd.C k49 w A0 l0.length l0) (hc0 : l0.length ≤ c0) (h : Ze.f k l0 = some r) :
  Calls Tryz.prog 11 #[.slice A0 l0.length c0] w fun e w' => ∃ v0_ : Value, e = .returned (v0_) ∧ Kd.R k68 68 w' w.heap.size (fun _ => True) v0_ r ∧ Below w.heap.size w w' := by
 have hu49 := Tryz.underlying49; have hu68 := Tryz.underlying68; have HR0 := Qa.mk hr0; have HC0 := Qa.mk hc0; clear hr0 hc0; have HB := Qa.mk (Below.refl w.heap.size w); have H : (Ze.l0 k ([] : List (S68)) l0 (l0.length : Int) 0) = some r := h; clear h; have H' := Qa.mk H; clear H
 go_enter Tryz.func11, Tryz.ntmps11
 go_wp2
 go_loopg [3, 10] k (fun kq v3 v10 w' => ∃ (b3 : List (S68)) (a1 : Int), v10 = .int .i64 a1 ∧ Qa (Ze.l0 kq b3 l0 (l0.length : Int) a1 = some r) ∧ Qa (kq ≤ k) ∧ Qa (Kd.R k68 68 w' w.heap.size (fun _ => True) v3 b3) ∧ Qa (Below w.heap.size w w'))
 case atStart => exact ⟨(([] : List (S68))), (0), (by first | rfl | (simp; done) | (simp [*]; done)), H', ⟨Nat.le_refl _⟩, ⟨by first | exact Kd.R_nil _ _ _ _ _ | exact Kd.N_nil _ _ _ _ _ | exact Kd.V_nil _ _ _ _ _ | exact Kd.Q_nil _ _ _ _ _ | exact Kd.S_nil _ _ _ _ _⟩, ⟨by repeat (first | (with_reducible first | exact HB.out | apply Qc | apply Qb | apply Qd) | exact HB.out)⟩⟩
 case round =>
  clear H'
  try clear c1
  obtain ⟨b3, a1, rfl, HA, HK1, a5, HB⟩ := hrel
  cases gk with
  | zero => exact absurd HA.out (by simp [Ze.l0])
  | succ k1 =>
   have H := HA.out; clear HA
   simp only [Ze.l0] at H
   by_cases c2 : a1 < (l0.length : Int)
   ·rw [if_pos c2] at H
    have d2 : decide (a1 < (l0.length : Int)) = true := decide_eq_true c2; clear c2
    by_cases c3 : 0 ≤ a1
    ·rw [if_pos c3] at H
     have e1 : decide (0 ≤ a1) = true := decide_eq_true c3; clear c3
     by_cases c4 : a1 < (l0.length : Int)
     ·rw [if_pos c4] at H
      have e2 : decide (a1 < (l0.length : Int)) = true := decide_eq_true c4; clear c4; have H' := Qa.mk H; clear H; have b4 : 0 ≤ (a1 : Int) := of_decide_eq_true (by first | (with_reducible assumption) | assumption); have b5 : a1 < (l0.length : Int) := of_decide_eq_true (by first | (with_reducible assumption) | assumption); obtain ⟨f3, b6, a9, e3, a6, a7, hl101_1, hi101_1⟩ := Ug HR0.out a1 b4 b5
      cases e3; replace a6 := (HB.out.cell (World.block_lt_of_cell? w _ a6)).trans a6; replace a7 := (HB.out.cell (World.block_lt_of_cell? w _ a7)).trans a7; have d1 := Qa.mk hi101_1; have e6 := Qa.mk hl101_1; clear hi101_1 hl101_1; replace b4 := eq_true b4; replace b5 := eq_true b5; go_wp2_with (first | ((with_reducible refine Zs (N := 5) rfl ?_); refine Xd ?hg (N := 5) ?hd (cs := #[.int .i64 0, .slice none 0 0]) (t := 49) ?hr ?_; (case hd => rfl); (case hg => rfl); (case hr => first | (go_simp; done) | (go_simp; rfl)); intro a4 hg w5 hbox hb; have n0_ := Qa.mk (Kd.R_below (by (with_reducible repeat (first | apply Kd.R_alloc | apply Kd.R_drewN | apply Kd.R_drew)); exact a5.out) hb); have n1_ := Qa.mk (Qk (by repeat (first | (with_reducible first | exact HB.out | apply Qc | apply Qb | apply Qd) | exact HB.out)) hb); have n2_ := Qa.mk (hbox); have n3_ := Qa.mk ((by rw [hg]; exact (Qh (by repeat (first | (with_reducible first | exact HB.out | apply Qc | apply Qb | apply Qd) | exact HB.out))) : w.heap.size ≤ a4)); have n4_ := Qa.mk ((by rw [hg]; exact (Qh (by repeat (first | (with_reducible first | exact HB.out | apply Qc | apply Qb | apply Qd) | exact HB.out))) : w.heap.size ≤ a4)); clear a5; clear HB; have a5 := n0_; have HB := n1_; have a3 := n2_; have f4 := n3_; have GE102 := n4_; clear n0_ n1_ n2_ n3_ n4_; clear hb hbox hg; have d3 : w5.cell? ⟨a4, 0, none⟩ = some (.int .i64 0) := (Ql a3.out 0).trans rfl; have d4 : w5.cell? ⟨a4, 1, none⟩ = some (.slice none 0 0) := (Ql a3.out 1).trans rfl; have d5 := Qo a3.out 0; have d6 := Qo a3.out 1))
      go_loopg [3, 17] k1 (fun kq v3 v17 w' => ∃ (a8 : List (S68)) (a2 : Int), v17 = .int .i64 a2 ∧ Qa (Ze.l1 kq a8 l0 (l0.length : Int) a1 ((Qy l0 a1).f1) (((Qy l0 a1).f1).length : Int) a2 ((Qy l0 a1).f0) ((Qy l0 a1).f1) = some r) ∧ Qa (kq ≤ k1) ∧ Qa (Kd.R k68 68 w' w.heap.size (fun _ => True) v3 a8) ∧ Qa (w'.heap[a4]? = some (.cells #[.int .i64 ((Qy l0 a1).f0), (.slice b6 ((Qy l0 a1).f1).length a9)] 49 (0, 0))) ∧ Qa (Below w.heap.size w w'))
      case atStart => exact ⟨(b3), (0), (by first | rfl | (simp; done) | (simp [*]; done)), H', ⟨Nat.le_refl _⟩, ⟨by (with_reducible repeat (first | apply Kd.R_alloc | apply Kd.R_drewN | apply Kd.R_drew)); exact Kd.R_mono (Kd.R_far (p := ⟨a4, 1, none⟩) (Kd.R_far (p := ⟨a4, 0, none⟩) (Kd.R_types a5.out a3.out (by decide)) (fun _ hk => hk.2) (.int .i64 ((Qy l0 a1).f0))) (fun _ hk => hk.2) (.slice b6 ((Qy l0 a1).f1).length a9)) (fun _ hk => trivial)⟩, ⟨by (with_reducible repeat (first | refine Zf ?_ _ | refine Zg ?_ | refine Zb ?_ _)); refine Zu (cs := #[.int .i64 ((Qy l0 a1).f0), .slice none 0 0]) ?_ 1 _ rfl; (with_reducible repeat (first | refine Zf ?_ _ | refine Zg ?_ | refine Zb ?_ _)); refine Zu (cs := #[.int .i64 0, .slice none 0 0]) ?_ 0 _ rfl; (with_reducible repeat (first | refine Zf ?_ _ | refine Zg ?_ | refine Zb ?_ _)); exact a3.out⟩, ⟨by repeat (first | (with_reducible first | exact HB.out | apply Qc | apply Qb | apply Qd | refine Qu ?_ GE102.out) | exact HB.out)⟩⟩
      case round =>
       clear H'
       try clear c1
       try clear p1
       try clear q1
       try clear hx1
       try clear c2
       try clear d2
       try clear p2
       try clear c3
       try clear e1
       try clear c4
       try clear e2
       try clear d3
       try clear d4
       try clear d5
       try clear d6
       try clear a6
       try clear a7
       try clear b4
       try clear b5
       obtain ⟨a8, a2, rfl, HA, HK2, a5, a3, HB⟩ := hrel
       cases gk with
       | zero => exact absurd HA.out (by simp [Ze.l1])
       | succ k2 =>
        have H := HA.out; clear HA
        simp only [Ze.l1] at H
        by_cases c7 : a2 < (((Qy l0 a1).f1).length : Int)
        ·rw [if_pos c7] at H
         have e4 : decide (a2 < (((Qy l0 a1).f1).length : Int)) = true := decide_eq_true c7; clear c7
         by_cases c8 : 0 ≤ a2
         ·rw [if_pos c8] at H
          have f5 : decide (0 ≤ a2) = true := decide_eq_true c8; clear c8
          by_cases c9 : a2 < (((Qy l0 a1).f1).length : Int)
          ·rw [if_pos c9] at H
           have f6 : decide (a2 < (((Qy l0 a1).f1).length : Int)) = true := decide_eq_true c9; clear c9
           by_cases c10 : a8.length < 5864062014805
           ·rw [if_pos c10] at H
            have d8 := Qa.mk c10; clear c10; obtain ⟨d7, b0⟩ : ∃ y_ : List (S68), y_ = (a8 ++ [(⟨((Qy l0 a1).f0), Zy ByteArray.empty ((Qy l0 a1).f1) a2⟩ : S68)]) := ⟨_, rfl⟩
            replace H : (Ze.l1 k2 d7 l0 (l0.length : Int) a1 ((Qy l0 a1).f1) (((Qy l0 a1).f1).length : Int) (wrap64 (a2 + 1)) ((Qy l0 a1).f0) ((Qy l0 a1).f1)) = some r := by first | (rw [b0]; with_reducible exact H) | (have H2_ := (Option.bind_some _ _).symm.trans H; rw [b0]; with_reducible exact H2_) | (have H2_ := (Option.bind_some _ _).symm.trans H; with_reducible exact H2_) | with_reducible exact H | (rw [b0]; exact H) | exact H
            have d9 := Qa.mk b0; clear b0; have H' := Qa.mk H; clear H; have b7 : 0 ≤ (a2 : Int) := of_decide_eq_true (by first | (with_reducible assumption) | assumption); have b8 : a2 < (((Qy l0 a1).f1).length : Int) := of_decide_eq_true (by first | (with_reducible assumption) | assumption); obtain ⟨b9, e5, b1⟩ := Kd.at_string d1.out a2 b7 b8
            cases e5; replace b1 := (HB.out.cell (World.block_lt_of_cell? w _ b1)).trans b1; replace b7 := eq_true b7; replace b8 := eq_true b8; have e7 : wr.cell? ⟨a4, 0, none⟩ = some (.int .i64 ((Qy l0 a1).f0)) := (Ql a3.out 0).trans rfl; have e8 : wr.cell? ⟨a4, 1, none⟩ = some (.slice (some b9) ((Qy l0 a1).f1).length a9) := (Ql a3.out 1).trans rfl; have e9 := Qo a3.out 0; have f2 := Qo a3.out 1; go_wp2_with (first | ((with_reducible refine Zj (b := .append) (xs := #[.tmp 21, .tmp 26]) rfl ?_); at_builtin; refine Kd.R_append k68 (w0 := w) w.heap.size rfl (.tmp 21) (.tmp 26) 36 68 (.agg #[(.int .i64 0), (.string ⟨#[]⟩)]) 24 rfl Tryz.underlying36 Qex rfl (by decide) (by omega) u3 a8 (⟨((Qy l0 a1).f0), Zy ByteArray.empty ((Qy l0 a1).f1) a2⟩ : S68) [.int .i64 ((Qy l0 a1).f0), .string (Zy ByteArray.empty ((Qy l0 a1).f1) a2)] (fun _ => True) (fun _ => False) rfl rfl ?aP (fun _ hk => hk.elim) ?aF ?aO ?aB ?aS ?aL ?_; (case aP => exact Qkw _ _ _ (⟨((Qy l0 a1).f0), Zy ByteArray.empty ((Qy l0 a1).f1) a2⟩ : S68)); (case aB => exact (by repeat (first | (with_reducible first | exact HB.out | apply Qc | apply Qb | apply Qd | refine Qu ?_ GE102.out) | exact HB.out))); (case aF => exact (fun _ _ => trivial)); (case aO => exact (by (with_reducible repeat (first | apply Kd.R_alloc | apply Kd.R_drewN | apply Kd.R_drew)); exact a5.out)); (case aS => exact (Qh (by repeat (first | (with_reducible first | exact HB.out | apply Qc | apply Qb | apply Qd | refine Qu ?_ GE102.out) | exact HB.out)))); (case aL => have := d8.out; omega); intro f7 w12 ho hb hg hat; rw [← d9.out] at ho; have n0_ := Qa.mk (Yv (g := a4) (o := .cells #[.int .i64 ((Qy l0 a1).f0), .slice (some b9) ((Qy l0 a1).f1).length a9] 49 (0, 0)) (by (with_reducible repeat (first | refine Zf ?_ _ | refine Zg ?_ | refine Zb ?_ _)); exact a3.out) hg (Kd.R_ne a5.out a3.out (by decide))); have n1_ := Qa.mk (hb); have n2_ := Qa.mk (ho); clear a3; clear HB; clear a5; have a3 := n0_; have HB := n1_; have e0 := n2_; clear n0_ n1_ n2_; clear ho hb hg hat))
            go_roundg k2
            case measure => have := HK1.out; have := HK2.out; omega
            case rel => exact ⟨(d7), (wrap64 (a2 + 1)), (by first | rfl | (simp; done) | (simp [*]; done)), H', ⟨by have := HK1.out; have := HK2.out; omega⟩, ⟨by (with_reducible repeat (first | apply Kd.R_alloc | apply Kd.R_drewN | apply Kd.R_drew)); exact e0.out⟩, ⟨by (with_reducible repeat (first | refine Zf ?_ _ | refine Zg ?_ | refine Zb ?_ _)); exact a3.out⟩, ⟨by repeat (first | (with_reducible first | exact HB.out | apply Qc | apply Qb | apply Qd | refine Qu ?_ GE102.out) | exact HB.out)⟩⟩
           ·rw [if_neg c10] at H
            exact absurd H (by simp)
          ·rw [if_neg c9] at H
           exact absurd H (by simp)
         ·rw [if_neg c8] at H
          exact absurd H (by simp)
        ·rw [if_neg c7] at H
         have e4 : decide (a2 < (((Qy l0 a1).f1).length : Int)) = false := decide_eq_false c7; clear c7; have H' := Qa.mk H; clear H
         go_wp2
         go_roundg k2
         case measure => have := HK1.out; have := HK2.out; omega
         case rel => exact ⟨(a8), (wrap64 (a1 + 1)), (by first | rfl | (simp; done) | (simp [*]; done)), H', ⟨by have := HK1.out; have := HK2.out; omega⟩, ⟨by (with_reducible repeat (first | apply Kd.R_alloc | apply Kd.R_drewN | apply Kd.R_drew)); exact a5.out⟩, ⟨by repeat (first | (with_reducible first | exact HB.out | apply Qc | apply Qb | apply Qd | refine Qu ?_ GE102.out) | exact HB.out)⟩⟩
     ·rw [if_neg c4] at H
      exact absurd H (by simp)
    ·rw [if_neg c3] at H
     exact absurd H (by simp)
   ·rw [if_neg c2] at H
    have d2 : decide (a1 < (l0.length : Int)) = false := decide_eq_false c2; clear c2; obtain rfl := Option.some.inj H
    go_wp2
    go_ret; exact ⟨_, by first | rfl | (simp [Qz, Za] <;> rfl) | (simp [*, Qz, Za] <;> rfl), by (with_reducible repeat (first | apply Kd.R_alloc | apply Kd.R_drewN | apply Kd.R_drew)); exact a5.out, by repeat (first | (with_reducible first | exact HB.out | apply Qc | apply Qb | apply Qd) | exact HB.out)⟩
def Zc.l0 : Nat → List (S68) → Int → List (S40) → Int → List (S68) → Int → Int → Option ((List (S40)))
 | 0, _, _, _, _, _, _, _ => none
 | k + 1, x0, x1, x5, x6, x10, x11, x12 => if x12 < x11 then (if 0 ≤ x12 then (if x12 < (x10.length : Int) then (if ((Zd x10 x12).f0) = 0 then (Zc.l0 k x0 x1 x5 x6 x10 x11 (wrap64 (x12 + 1))) else (if (x5.length : Int) > 0 then (if (wrap64 (x12 - x6)) ≤ (wrap64 (2 * x1)) then (if 0 ≤ (wrap64 ((x5.length : Int) - 1)) then (if (wrap64 ((x5.length : Int) - 1)) < (x5.length : Int) then (Zc.l0 k x0 x1 (x5.set ((wrap64 ((x5.length : Int) - 1)) : Int).toNat (⟨(Zm x5 (wrap64 ((x5.length : Int) - 1))).f0, mn (wrap64 ((wrap64 (x12 + 1)) + x1)) (x0.length : Int)⟩ : S40)) (wrap64 (x12 + 1)) x10 x11 (wrap64 (x12 + 1))) else (none)) else (none)) else (if x5.length < 8796093022208 then (Zc.l0 k x0 x1 (x5 ++ [(⟨mx (wrap64 (x12 - x1)) 0, mn (wrap64 ((wrap64 (x12 + 1)) + x1)) (x0.length : Int)⟩ : S40)]) (wrap64 (x12 + 1)) x10 x11 (wrap64 (x12 + 1))) else (none))) else (if x5.length < 8796093022208 then (Zc.l0 k x0 x1 (x5 ++ [(⟨mx (wrap64 (x12 - x1)) 0, mn (wrap64 ((wrap64 (x12 + 1)) + x1)) (x0.length : Int)⟩ : S40)]) (wrap64 (x12 + 1)) x10 x11 (wrap64 (x12 + 1))) else (none)))) else (none)) else (none)) else (some x5)
def Zc.f (k : Nat) (l0 : List (S68)) (a1 : Int) : Option ((List (S40))) := Zc.l0 k l0 a1 ([] : List (S40)) 0 l0 (l0.length : Int) 0
set_option maxHeartbeats 8000000 in
set_option maxRecDepth 100000 in
theorem Zc.calls (k : Nat) (A0 : Option Addr) (c0 : Nat) (l0 : List (S68)) (a1 : Int) (r : List (S40)) (w : World) (hr0 : Kd.C k68 w A0 l0.length l0) (hc0 : l0.length ≤ c0) (h : Zc.f k l0 a1 = some r) :
  Calls Tryz.prog 12 #[.slice A0 l0.length c0, .int .i64 a1] w fun e w' => ∃ v0_ : Value, e = .returned (v0_) ∧ Kd.R k40 40 w' w.heap.size (fun _ => True) v0_ r ∧ Below w.heap.size w w' := by
 have hu68 := Tryz.underlying68; have hu40 := Tryz.underlying40; have HR0 := Qa.mk hr0; have HC0 := Qa.mk hc0; clear hr0 hc0; have HB := Qa.mk (Below.refl w.heap.size w); have H : (Zc.l0 k l0 a1 ([] : List (S40)) 0 l0 (l0.length : Int) 0) = some r := h; clear h; have H' := Qa.mk H; clear H
 go_enter Tryz.func12, Tryz.ntmps12
 go_wp2
 go_loopg [5, 6, 12] k (fun kq v5 v6 v12 w' => ∃ (a3 : List (S40)) (b2 : Int) (a0 : Int), v6 = .int .i64 b2 ∧ v12 = .int .i64 a0 ∧ Qa (Zc.l0 kq l0 a1 a3 b2 l0 (l0.length : Int) a0 = some r) ∧ Qa (kq ≤ k) ∧ Qa (Kd.R k40 40 w' w.heap.size (fun _ => True) v5 a3) ∧ Qa (Below w.heap.size w w'))
 case atStart => exact ⟨(([] : List (S40))), (0), (0), (by first | rfl | (simp; done) | (simp [*]; done)), (by first | rfl | (simp; done) | (simp [*]; done)), H', ⟨Nat.le_refl _⟩, ⟨by first | exact Kd.R_nil _ _ _ _ _ | exact Kd.N_nil _ _ _ _ _ | exact Kd.V_nil _ _ _ _ _ | exact Kd.Q_nil _ _ _ _ _ | exact Kd.S_nil _ _ _ _ _⟩, ⟨by repeat (first | (with_reducible first | exact HB.out | apply Qc | apply Qb | apply Qd) | exact HB.out)⟩⟩
 case round =>
  clear H'
  try clear c1
  try clear p2
  obtain ⟨a3, b2, a0, rfl, rfl, HA, HK1, a5, HB⟩ := hrel
  cases gk with
  | zero => exact absurd HA.out (by simp [Zc.l0])
  | succ k1 =>
   have H := HA.out; clear HA
   simp only [Zc.l0] at H
   by_cases c3 : a0 < (l0.length : Int)
   ·rw [if_pos c3] at H
    have f5 : decide (a0 < (l0.length : Int)) = true := decide_eq_true c3; clear c3
    by_cases c4 : 0 ≤ a0
    ·rw [if_pos c4] at H
     have j6 : decide (0 ≤ a0) = true := decide_eq_true c4; clear c4
     by_cases c5 : a0 < (l0.length : Int)
     ·rw [if_pos c5] at H
      have j7 : decide (a0 < (l0.length : Int)) = true := decide_eq_true c5; clear c5
      by_cases c6 : ((Zd l0 a0).f0) = 0
      ·rw [if_pos c6] at H
       have f6 : (((Zd l0 a0).f0) == 0) = true := beq_iff_eq.mpr c6; have f7 : (((Zd l0 a0).f0) != 0) = false := bne_eq_false_iff_eq.mpr c6; clear c6; have H' := Qa.mk H; clear H; have a9 : 0 ≤ (a0 : Int) := of_decide_eq_true (by first | (with_reducible assumption) | assumption); have b0 : a0 < (l0.length : Int) := of_decide_eq_true (by first | (with_reducible assumption) | assumption); obtain ⟨d1, b3, a6, a7⟩ := Qah HR0.out a0 a9 b0
       cases b3; replace a6 := (HB.out.cell (World.block_lt_of_cell? w _ a6)).trans a6; replace a7 := (HB.out.cell (World.block_lt_of_cell? w _ a7)).trans a7; replace a9 := eq_true a9; replace b0 := eq_true b0; go_wp2_with (first | ((with_reducible refine Zs (N := 8) rfl ?_); refine Xd ?hg (N := 8) ?hd (cs := #[.int .i64 0, .string (⟨#[]⟩ : ByteArray)]) (t := 68) ?hr ?_; (case hd => rfl); (case hg => rfl); (case hr => first | (go_simp; done) | (go_simp; rfl)); intro a4 hg w7 hbox hb; have n0_ := Qa.mk (Kd.R_below (by (with_reducible repeat (first | apply Kd.R_alloc | apply Kd.R_drewN | apply Kd.R_drew)); exact a5.out) hb); have n1_ := Qa.mk (Qk (by repeat (first | (with_reducible first | exact HB.out | apply Qc | apply Qb | apply Qd) | exact HB.out)) hb); have n2_ := Qa.mk (hbox); have n3_ := Qa.mk ((by rw [hg]; exact (Qh (by repeat (first | (with_reducible first | exact HB.out | apply Qc | apply Qb | apply Qd) | exact HB.out))) : w.heap.size ≤ a4)); have n4_ := Qa.mk ((by rw [hg]; exact (Qh (by repeat (first | (with_reducible first | exact HB.out | apply Qc | apply Qb | apply Qd) | exact HB.out))) : w.heap.size ≤ a4)); clear a5; clear HB; have a5 := n0_; have HB := n1_; have a2 := n2_; have d2 := n3_; have GE102 := n4_; clear n0_ n1_ n2_ n3_ n4_; clear hb hbox hg; have i1 : w7.cell? ⟨a4, 0, none⟩ = some (.int .i64 0) := (Ql a2.out 0).trans rfl; have i2 : w7.cell? ⟨a4, 1, none⟩ = some (.string (⟨#[]⟩ : ByteArray)) := (Ql a2.out 1).trans rfl; have i3 := Qo a2.out 0; have i4 := Qo a2.out 1))
       go_roundg k1
       case measure => have := HK1.out; omega
       case rel => exact ⟨(a3), (b2), (wrap64 (a0 + 1)), (by first | rfl | (simp; done) | (simp [*]; done)), (by first | rfl | (simp; done) | (simp [*]; done)), H', ⟨by have := HK1.out; omega⟩, ⟨by (with_reducible repeat (first | apply Kd.R_alloc | apply Kd.R_drewN | apply Kd.R_drew)); exact Kd.R_mono (Kd.R_far (p := ⟨a4, 1, none⟩) (Kd.R_far (p := ⟨a4, 0, none⟩) (Kd.R_types a5.out a2.out (by decide)) (fun _ hk => hk.2) (.int .i64 ((Zd l0 a0).f0))) (fun _ hk => hk.2) (.string ((Zd l0 a0).f1))) (fun _ hk => trivial)⟩, ⟨by repeat (first | (with_reducible first | exact HB.out | apply Qc | apply Qb | apply Qd | refine Qu ?_ GE102.out) | exact HB.out)⟩⟩
      ·rw [if_neg c6] at H
       have f6 : (((Zd l0 a0).f0) == 0) = false := beq_eq_false_iff_ne.mpr c6; have f7 : (((Zd l0 a0).f0) != 0) = true := bne_iff_ne.mpr c6
       by_cases c9 : (a3.length : Int) > 0
       ·rw [if_pos c9] at H
        have f8 : decide (0 < (a3.length : Int)) = true := decide_eq_true c9; have f9 : decide (0 < a3.length) = true := decide_eq_true (by omega); clear c9
        by_cases c10 : (wrap64 (a0 - b2)) ≤ (wrap64 (2 * a1))
        ·rw [if_pos c10] at H
         have e5 : decide ((wrap64 (a0 - b2)) ≤ (wrap64 (2 * a1))) = true := decide_eq_true c10; clear c10; obtain ⟨b1, d3⟩ : ∃ j_ : Int, (mn (wrap64 ((wrap64 (a0 + 1)) + a1)) (l0.length : Int)) = j_ := ⟨_, rfl⟩
         replace H : (if 0 ≤ (wrap64 ((a3.length : Int) - 1)) then (if (wrap64 ((a3.length : Int) - 1)) < (a3.length : Int) then (Zc.l0 k1 l0 a1 (a3.set ((wrap64 ((a3.length : Int) - 1)) : Int).toNat (⟨(Zm a3 (wrap64 ((a3.length : Int) - 1))).f0, b1⟩ : S40)) (wrap64 (a0 + 1)) l0 (l0.length : Int) (wrap64 (a0 + 1))) else (none)) else (none)) = some r := by first | (rw [d3] at H; exact H) | (simp only [d3] at H ⊢; exact H)
         have i5 : (if (l0.length : Int) < (wrap64 ((wrap64 (a0 + 1)) + a1)) then (l0.length : Int) else (wrap64 ((wrap64 (a0 + 1)) + a1))) = b1 := d3; obtain ⟨a8, d4⟩ : ∃ j_ : Int, (wrap64 ((a3.length : Int) - 1)) = j_ := ⟨_, rfl⟩
         replace H : (if 0 ≤ (a8) then (if (a8) < (a3.length : Int) then (Zc.l0 k1 l0 a1 (a3.set ((a8) : Int).toNat (⟨(Zm a3 (a8)).f0, b1⟩ : S40)) (wrap64 (a0 + 1)) l0 (l0.length : Int) (wrap64 (a0 + 1))) else (none)) else (none)) = some r := by first | (rw [d4] at H; exact H) | (simp only [d4] at H ⊢; exact H)
         have i6 : (IntKind.i64.wrap ((a3.length : Int) - 1)) = a8 := (Qp _).trans d4
         by_cases c13 : 0 ≤ (a8)
         ·rw [if_pos c13] at H
          have j4 : decide (0 ≤ (a8)) = true := decide_eq_true c13; clear c13
          by_cases c14 : (a8) < (a3.length : Int)
          ·rw [if_pos c14] at H
           have j5 : decide ((a8) < (a3.length : Int)) = true := decide_eq_true c14; clear c14; obtain ⟨d9, b6⟩ : ∃ y_ : List (S40), y_ = (a3.set ((a8) : Int).toNat (⟨(Zm a3 (a8)).f0, b1⟩ : S40)) := ⟨_, rfl⟩
           replace H : (Zc.l0 k1 l0 a1 d9 (wrap64 (a0 + 1)) l0 (l0.length : Int) (wrap64 (a0 + 1))) = some r := by first | (rw [b6]; with_reducible exact H) | (have H2_ := (Option.bind_some _ _).symm.trans H; rw [b6]; with_reducible exact H2_) | (have H2_ := (Option.bind_some _ _).symm.trans H; with_reducible exact H2_) | with_reducible exact H | (rw [b6]; exact H) | exact H
           have e6 := Qa.mk b6; clear b6; have H' := Qa.mk H; clear H; have a9 : 0 ≤ (a0 : Int) := of_decide_eq_true (by first | (with_reducible assumption) | assumption); have b0 : a0 < (l0.length : Int) := of_decide_eq_true (by first | (with_reducible assumption) | assumption); obtain ⟨d1, b3, a6, a7⟩ := Qah HR0.out a0 a9 b0
           cases b3; replace a6 := (HB.out.cell (World.block_lt_of_cell? w _ a6)).trans a6; replace a7 := (HB.out.cell (World.block_lt_of_cell? w _ a7)).trans a7; replace a9 := eq_true a9; replace b0 := eq_true b0; go_wp2_with (first | ((with_reducible refine Zs (N := 8) rfl ?_); refine Xd ?hg (N := 8) ?hd (cs := #[.int .i64 0, .string (⟨#[]⟩ : ByteArray)]) (t := 68) ?hr ?_; (case hd => rfl); (case hg => rfl); (case hr => first | (go_simp; done) | (go_simp; rfl)); intro a4 hg w16 hbox hb; have n0_ := Qa.mk (Kd.R_below (by (with_reducible repeat (first | apply Kd.R_alloc | apply Kd.R_drewN | apply Kd.R_drew)); exact a5.out) hb); have n1_ := Qa.mk (Qk (by repeat (first | (with_reducible first | exact HB.out | apply Qc | apply Qb | apply Qd) | exact HB.out)) hb); have n2_ := Qa.mk (hbox); have n3_ := Qa.mk ((by rw [hg]; exact (Qh (by repeat (first | (with_reducible first | exact HB.out | apply Qc | apply Qb | apply Qd) | exact HB.out))) : w.heap.size ≤ a4)); have n4_ := Qa.mk ((by rw [hg]; exact (Qh (by repeat (first | (with_reducible first | exact HB.out | apply Qc | apply Qb | apply Qd) | exact HB.out))) : w.heap.size ≤ a4)); clear a5; clear HB; have a5 := n0_; have HB := n1_; have a2 := n2_; have d2 := n3_; have GE102 := n4_; clear n0_ n1_ n2_ n3_ n4_; clear hb hbox hg; have g4 : w16.cell? ⟨a4, 0, none⟩ = some (.int .i64 0) := (Ql a2.out 0).trans rfl; have g5 : w16.cell? ⟨a4, 1, none⟩ = some (.string (⟨#[]⟩ : ByteArray)) := (Ql a2.out 1).trans rfl; have g6 := Qo a2.out 0; have g7 := Qo a2.out 1) | ((with_reducible refine Kw (t := 68) (p := 8) rfl ?_); refine Kj (t := 68) (p := 8) (v := ?vo_w18) (w1 := ((w16.setCell ⟨a4, 0, none⟩ (.int .i64 ((Zd l0 a0).f0))).setCell ⟨a4, 1, none⟩ (.string ((Zd l0 a0).f1)))) ?hg ?ho ?hn ?hr ?_; (case ho => rfl); (case hg => rfl); (case hn => rfl); (case hr => first | (go_simp; done) | (go_simp; rfl)); intro w18 hw; have n0_ : Qa (Kd.R k40 40 w18 w.heap.size (fun _ => True) u5 a3) := ⟨(by rw [hw]; exact (by (with_reducible repeat (first | apply Kd.R_alloc | apply Kd.R_drewN | apply Kd.R_drew)); exact Kd.R_mono (Kd.R_far (p := ⟨a4, 1, none⟩) (Kd.R_far (p := ⟨a4, 0, none⟩) (Kd.R_types a5.out a2.out (by decide)) (fun _ hk => hk.2) (.int .i64 ((Zd l0 a0).f0))) (fun _ hk => hk.2) (.string ((Zd l0 a0).f1))) (fun _ hk => trivial)))⟩; have n1_ : Qa (w18.heap[a4]? = some (.cells #[.int .i64 ((Zd l0 a0).f0), .string ((Zd l0 a0).f1)] 68 (0, 0))) := ⟨(by rw [hw]; exact (by (with_reducible repeat (first | refine Zf ?_ _ | refine Zg ?_ | refine Zb ?_ _)); refine Zu (cs := #[.int .i64 ((Zd l0 a0).f0), .string (⟨#[]⟩ : ByteArray)]) ?_ 1 _ rfl; (with_reducible repeat (first | refine Zf ?_ _ | refine Zg ?_ | refine Zb ?_ _)); refine Zu (cs := #[.int .i64 0, .string (⟨#[]⟩ : ByteArray)]) ?_ 0 _ rfl; (with_reducible repeat (first | refine Zf ?_ _ | refine Zg ?_ | refine Zb ?_ _)); exact a2.out))⟩; have n2_ : Qa (Below w.heap.size w w18) := ⟨(by rw [hw]; exact (by repeat (first | (with_reducible first | exact HB.out | apply Qc | apply Qb | apply Qd | refine Qu ?_ GE102.out) | exact HB.out)))⟩; clear hw; clear a5; clear a2; clear HB; have a5 := n0_; have a2 := n1_; have HB := n2_; clear n0_ n1_ n2_; have g8 : w18.cell? ⟨a4, 0, none⟩ = some (.int .i64 ((Zd l0 a0).f0)) := (Ql a2.out 0).trans rfl; have g9 : w18.cell? ⟨a4, 1, none⟩ = some (.string ((Zd l0 a0).f1)) := (Ql a2.out 1).trans rfl; have h0 := Qo a2.out 0; have h2 := Qo a2.out 1; obtain ⟨j8, e0, eo20⟩ := Kd.R_slice a5.out; subst eo20; have p15 : 0 ≤ ((a8) : Int) := of_decide_eq_true (by first | (with_reducible assumption) | assumption); have q15 : ((a8) : Int) < ((a3.length : Int) : Int) := of_decide_eq_true (by first | (with_reducible assumption) | assumption); obtain ⟨go15, j9, eo15, e1, gl15, cl15, HG15⟩ := Kd.R_form a5.out (by omega); (first | cases eo15 | (injection eo15 with ea_ en_ ec_; (first | subst ea_ | (injection ea_ with ea_; subst ea_)); subst ec_; clear en_)); have GB15 := Qa.mk e1; have GG15 := Qa.mk HG15; clear e1 gl15 HG15; obtain ⟨ce15, hcl15, hM15, hcc15, hfr15⟩ := Kd.R_elem a5.out z40 ((a8) : Int) p15 q15; obtain rfl := Qgd hM15; have i7 : w18.cell? ⟨go15, ((a8) : Int).toNat * 2, none⟩ = some (.int .i64 ((Zm a3 (a8)).f0)) := hcc15 0 _ rfl; have i8 : w18.cell? ⟨go15, ((a8) : Int).toNat * 2 + 1, none⟩ = some (.int .i64 ((Zm a3 (a8)).f1)) := hcc15 1 _ rfl; have hf15_0 : w18.frozen? ⟨go15, ((a8) : Int).toNat * 2, none⟩ = false := hfr15 0; have hf15_1 : w18.frozen? ⟨go15, ((a8) : Int).toNat * 2 + 1, none⟩ = false := hfr15 1; clear hcl15 hcc15 hfr15 hM15; replace p15 := eq_true p15; replace q15 := eq_true q15; have HX21 := Qa.mk (show Kd.R k40 40 w18 w.heap.size (fun _ => True) (.slice (some ⟨go15, 0, none⟩) a3.length e0) a3 from (by (with_reducible repeat (first | apply Kd.R_alloc | apply Kd.R_drewN | apply Kd.R_drew)); exact a5.out)); obtain ⟨ce21, hcl21, hM21, hcc21, hfr21⟩ := Kd.R_elem HX21.out z40 ((a8) : Int) (of_decide_eq_true (by first | (with_reducible assumption) | assumption)) (by have h_ : ((a8) : Int) < ((a3.length : Int) : Int) := of_decide_eq_true (by first | (with_reducible assumption) | assumption); first | exact h_ | (have e_ := (Kd.R_reads' a5.out).1; omega) | simpa using h_); obtain rfl := Qgd hM21; have HP21 := Kd.R_seg HX21.out ((a8) : Int) (of_decide_eq_true (by first | (with_reducible assumption) | assumption)) (by have h_ : ((a8) : Int) < ((a3.length : Int) : Int) := of_decide_eq_true (by first | (with_reducible assumption) | assumption); first | exact h_ | (have e_ := (Kd.R_reads' a5.out).1; omega) | simpa using h_) (seg := [.int .i64 b1]) (j := 1) hcl21 hcc21 (show 2 ≤ 2 from by decide) (x' := (⟨(Zm a3 (a8)).f0, b1⟩ : S40)) (Qhb _ _ _ (⟨(Zm a3 (a8)).f0, b1⟩ : S40) ) (fun _ hk => hk); have e2 := hcc21 1 _ rfl; (try simp only [show (k40).sz = 2 from rfl, Nat.mul_one, Nat.add_zero] at e2); have hf21_1 := hfr21 1; (try simp only [show (k40).sz = 2 from rfl, Nat.mul_one, Nat.add_zero] at hf21_1); clear hcl21 hcc21 hfr21 hM21) | ((with_reducible refine Kw (t := 3) (p := 43) rfl ?_); refine Kj (t := 3) (p := 43) (v := ?vo_w22) (w1 := (w18.setCell ⟨go15, ((a8) : Int).toNat * 2 + 1, none⟩ (.int .i64 b1))) ?hg ?ho ?hn ?hr ?_; (case ho => rfl); (case hg => rfl); (case hn => rfl); (case hr => first | (go_simp; done) | (go_simp; rfl)); intro w22 hw; have hg : w18.grownBy w22 (some go15) := (by rw [hw]; exact HP21.2); have hp_ : Kd.R k40 40 w22 w.heap.size (fun _ => True) (.slice (some ⟨go15, 0, none⟩) a3.length e0) d9 := (by rw [hw, e6.out]; exact HP21.1); clear HP21; have n0_ := Qa.mk (hp_); have n1_ := Qa.mk (Yv (g := a4) (o := .cells #[.int .i64 ((Zd l0 a0).f0), .string ((Zd l0 a0).f1)] 68 (0, 0)) (by (with_reducible repeat (first | refine Zf ?_ _ | refine Zg ?_ | refine Zb ?_ _)); exact a2.out) hg (Kd.R_ne a5.out a2.out (by decide))); have n2_ := Qa.mk ((by rw [hw]; exact Qu (HB.out) GB15.out : Below w.heap.size w w22)); clear a5; clear a2; clear HB; have a5 := n0_; have a2 := n1_; have HB := n2_; clear n0_ n1_ n2_; clear hg hw hp_))
           go_roundg k1
           case measure => have := HK1.out; omega
           case rel => exact ⟨(d9), (wrap64 (a0 + 1)), (wrap64 (a0 + 1)), (by first | rfl | (simp; done) | (simp [*]; done)), (by first | rfl | (simp; done) | (simp [*]; done)), H', ⟨by have := HK1.out; omega⟩, ⟨by (with_reducible repeat (first | apply Kd.R_alloc | apply Kd.R_drewN | apply Kd.R_drew)); exact a5.out⟩, ⟨by repeat (first | (with_reducible first | exact HB.out | apply Qc | apply Qb | apply Qd | refine Qu ?_ GE102.out) | exact HB.out)⟩⟩
          ·rw [if_neg c14] at H
           exact absurd H (by simp)
         ·rw [if_neg c13] at H
          exact absurd H (by simp)
        ·rw [if_neg c10] at H
         have e5 : decide ((wrap64 (a0 - b2)) ≤ (wrap64 (2 * a1))) = false := decide_eq_false c10; clear c10; obtain ⟨b4, d5⟩ : ∃ j_ : Int, (mx (wrap64 (a0 - a1)) 0) = j_ := ⟨_, rfl⟩
         replace H : (if a3.length < 8796093022208 then (Zc.l0 k1 l0 a1 (a3 ++ [(⟨b4, mn (wrap64 ((wrap64 (a0 + 1)) + a1)) (l0.length : Int)⟩ : S40)]) (wrap64 (a0 + 1)) l0 (l0.length : Int) (wrap64 (a0 + 1))) else (none)) = some r := by first | (rw [d5] at H; exact H) | (simp only [d5] at H ⊢; exact H)
         have i9 : (if (wrap64 (a0 - a1)) < 0 then 0 else (wrap64 (a0 - a1))) = b4 := d5; obtain ⟨b9, d6⟩ : ∃ j_ : Int, (mn (wrap64 ((wrap64 (a0 + 1)) + a1)) (l0.length : Int)) = j_ := ⟨_, rfl⟩
         replace H : (if a3.length < 8796093022208 then (Zc.l0 k1 l0 a1 (a3 ++ [(⟨b4, b9⟩ : S40)]) (wrap64 (a0 + 1)) l0 (l0.length : Int) (wrap64 (a0 + 1))) else (none)) = some r := by first | (rw [d6] at H; exact H) | (simp only [d6] at H ⊢; exact H)
         have j0 : (if (l0.length : Int) < (wrap64 ((wrap64 (a0 + 1)) + a1)) then (l0.length : Int) else (wrap64 ((wrap64 (a0 + 1)) + a1))) = b9 := d6
         by_cases c25 : a3.length < 8796093022208
         ·rw [if_pos c25] at H
          have e7 := Qa.mk c25; clear c25; obtain ⟨e3, b7⟩ : ∃ y_ : List (S40), y_ = (a3 ++ [(⟨b4, b9⟩ : S40)]) := ⟨_, rfl⟩
          replace H : (Zc.l0 k1 l0 a1 e3 (wrap64 (a0 + 1)) l0 (l0.length : Int) (wrap64 (a0 + 1))) = some r := by first | (rw [b7]; with_reducible exact H) | (have H2_ := (Option.bind_some _ _).symm.trans H; rw [b7]; with_reducible exact H2_) | (have H2_ := (Option.bind_some _ _).symm.trans H; with_reducible exact H2_) | with_reducible exact H | (rw [b7]; exact H) | exact H
          have e8 := Qa.mk b7; clear b7; have H' := Qa.mk H; clear H; have a9 : 0 ≤ (a0 : Int) := of_decide_eq_true (by first | (with_reducible assumption) | assumption); have b0 : a0 < (l0.length : Int) := of_decide_eq_true (by first | (with_reducible assumption) | assumption); obtain ⟨d1, b3, a6, a7⟩ := Qah HR0.out a0 a9 b0
          cases b3; replace a6 := (HB.out.cell (World.block_lt_of_cell? w _ a6)).trans a6; replace a7 := (HB.out.cell (World.block_lt_of_cell? w _ a7)).trans a7; replace a9 := eq_true a9; replace b0 := eq_true b0; go_wp2_with (first | ((with_reducible refine Zs (N := 8) rfl ?_); refine Xd ?hg (N := 8) ?hd (cs := #[.int .i64 0, .string (⟨#[]⟩ : ByteArray)]) (t := 68) ?hr ?_; (case hd => rfl); (case hg => rfl); (case hr => first | (go_simp; done) | (go_simp; rfl)); intro a4 hg w26 hbox hb; have n0_ := Qa.mk (Kd.R_below (by (with_reducible repeat (first | apply Kd.R_alloc | apply Kd.R_drewN | apply Kd.R_drew)); exact a5.out) hb); have n1_ := Qa.mk (Qk (by repeat (first | (with_reducible first | exact HB.out | apply Qc | apply Qb | apply Qd) | exact HB.out)) hb); have n2_ := Qa.mk (hbox); have n3_ := Qa.mk ((by rw [hg]; exact (Qh (by repeat (first | (with_reducible first | exact HB.out | apply Qc | apply Qb | apply Qd) | exact HB.out))) : w.heap.size ≤ a4)); have n4_ := Qa.mk ((by rw [hg]; exact (Qh (by repeat (first | (with_reducible first | exact HB.out | apply Qc | apply Qb | apply Qd) | exact HB.out))) : w.heap.size ≤ a4)); clear a5; clear HB; have a5 := n0_; have HB := n1_; have a2 := n2_; have d2 := n3_; have GE102 := n4_; clear n0_ n1_ n2_ n3_ n4_; clear hb hbox hg; have h3 : w26.cell? ⟨a4, 0, none⟩ = some (.int .i64 0) := (Ql a2.out 0).trans rfl; have h4 : w26.cell? ⟨a4, 1, none⟩ = some (.string (⟨#[]⟩ : ByteArray)) := (Ql a2.out 1).trans rfl; have h5 := Qo a2.out 0; have h6 := Qo a2.out 1; obtain ⟨g0, g1, eo28⟩ := Kd.R_slice a5.out; subst eo28) | ((with_reducible refine Zj (b := .append) (xs := #[.tmp 44, .tmp 57]) rfl ?_); at_builtin; refine Kd.R_append k40 (w0 := w) w.heap.size rfl (.tmp 44) (.tmp 57) 38 40 (.agg #[(.int .i64 0), (.int .i64 0)]) 16 rfl Tryz.underlying38 Qne rfl (by decide) (by omega) (.slice g0 a3.length g1) a3 (⟨b4, b9⟩ : S40) [.int .i64 b4, .int .i64 b9] (fun _ => True) (fun _ => False) rfl (by first | (go_simp; done) | (go_simp; rfl)) ?aP (fun _ hk => hk.elim) ?aF ?aO ?aB ?aS ?aL ?_; (case aP => exact Qhb _ _ _ (⟨b4, b9⟩ : S40)); (case aB => exact (by repeat (first | (with_reducible first | exact HB.out | apply Qc | apply Qb | apply Qd | refine Qu ?_ GE102.out) | exact HB.out))); (case aF => exact (fun _ _ => trivial)); (case aO => exact (by (with_reducible repeat (first | apply Kd.R_alloc | apply Kd.R_drewN | apply Kd.R_drew)); exact Kd.R_mono (Kd.R_far (p := ⟨a4, 1, none⟩) (Kd.R_far (p := ⟨a4, 0, none⟩) (Kd.R_types a5.out a2.out (by decide)) (fun _ hk => hk.2) (.int .i64 ((Zd l0 a0).f0))) (fun _ hk => hk.2) (.string ((Zd l0 a0).f1))) (fun _ hk => trivial))); (case aS => exact (Qh (by repeat (first | (with_reducible first | exact HB.out | apply Qc | apply Qb | apply Qd | refine Qu ?_ GE102.out) | exact HB.out)))); (case aL => have := e7.out; omega); intro k0 w29 ho hb hg hat; rw [← e8.out] at ho; have n0_ := Qa.mk (Yv (g := a4) (o := .cells #[.int .i64 ((Zd l0 a0).f0), .string ((Zd l0 a0).f1)] 68 (0, 0)) (by (with_reducible repeat (first | refine Zf ?_ _ | refine Zg ?_ | refine Zb ?_ _)); refine Zu (cs := #[.int .i64 ((Zd l0 a0).f0), .string (⟨#[]⟩ : ByteArray)]) ?_ 1 _ rfl; (with_reducible repeat (first | refine Zf ?_ _ | refine Zg ?_ | refine Zb ?_ _)); refine Zu (cs := #[.int .i64 0, .string (⟨#[]⟩ : ByteArray)]) ?_ 0 _ rfl; (with_reducible repeat (first | refine Zf ?_ _ | refine Zg ?_ | refine Zb ?_ _)); exact a2.out) hg (Kd.R_ne a5.out a2.out (by decide))); have n1_ := Qa.mk (hb); have n2_ := Qa.mk (ho); clear a2; clear HB; clear a5; have a2 := n0_; have HB := n1_; have e9 := n2_; clear n0_ n1_ n2_; clear ho hb hg hat))
          go_roundg k1
          case measure => have := HK1.out; omega
          case rel => exact ⟨(e3), (wrap64 (a0 + 1)), (wrap64 (a0 + 1)), (by first | rfl | (simp; done) | (simp [*]; done)), (by first | rfl | (simp; done) | (simp [*]; done)), H', ⟨by have := HK1.out; omega⟩, ⟨by (with_reducible repeat (first | apply Kd.R_alloc | apply Kd.R_drewN | apply Kd.R_drew)); exact e9.out⟩, ⟨by repeat (first | (with_reducible first | exact HB.out | apply Qc | apply Qb | apply Qd | refine Qu ?_ GE102.out) | exact HB.out)⟩⟩
         ·rw [if_neg c25] at H
          exact absurd H (by simp)
       ·rw [if_neg c9] at H
        have f8 : decide (0 < (a3.length : Int)) = false := decide_eq_false c9; have f9 : decide (0 < a3.length) = false := decide_eq_false (by omega); clear c9; obtain ⟨b5, d7⟩ : ∃ j_ : Int, (mx (wrap64 (a0 - a1)) 0) = j_ := ⟨_, rfl⟩
        replace H : (if a3.length < 8796093022208 then (Zc.l0 k1 l0 a1 (a3 ++ [(⟨b5, mn (wrap64 ((wrap64 (a0 + 1)) + a1)) (l0.length : Int)⟩ : S40)]) (wrap64 (a0 + 1)) l0 (l0.length : Int) (wrap64 (a0 + 1))) else (none)) = some r := by first | (rw [d7] at H; exact H) | (simp only [d7] at H ⊢; exact H)
        have j2 : (if (wrap64 (a0 - a1)) < 0 then 0 else (wrap64 (a0 - a1))) = b5 := d7; obtain ⟨d0, d8⟩ : ∃ j_ : Int, (mn (wrap64 ((wrap64 (a0 + 1)) + a1)) (l0.length : Int)) = j_ := ⟨_, rfl⟩
        replace H : (if a3.length < 8796093022208 then (Zc.l0 k1 l0 a1 (a3 ++ [(⟨b5, d0⟩ : S40)]) (wrap64 (a0 + 1)) l0 (l0.length : Int) (wrap64 (a0 + 1))) else (none)) = some r := by first | (rw [d8] at H; exact H) | (simp only [d8] at H ⊢; exact H)
        have j3 : (if (l0.length : Int) < (wrap64 ((wrap64 (a0 + 1)) + a1)) then (l0.length : Int) else (wrap64 ((wrap64 (a0 + 1)) + a1))) = d0 := d8
        by_cases c32 : a3.length < 8796093022208
        ·rw [if_pos c32] at H
         have f2 := Qa.mk c32; clear c32; obtain ⟨e4, b8⟩ : ∃ y_ : List (S40), y_ = (a3 ++ [(⟨b5, d0⟩ : S40)]) := ⟨_, rfl⟩
         replace H : (Zc.l0 k1 l0 a1 e4 (wrap64 (a0 + 1)) l0 (l0.length : Int) (wrap64 (a0 + 1))) = some r := by first | (rw [b8]; with_reducible exact H) | (have H2_ := (Option.bind_some _ _).symm.trans H; rw [b8]; with_reducible exact H2_) | (have H2_ := (Option.bind_some _ _).symm.trans H; with_reducible exact H2_) | with_reducible exact H | (rw [b8]; exact H) | exact H
         have f3 := Qa.mk b8; clear b8; have H' := Qa.mk H; clear H; have a9 : 0 ≤ (a0 : Int) := of_decide_eq_true (by first | (with_reducible assumption) | assumption); have b0 : a0 < (l0.length : Int) := of_decide_eq_true (by first | (with_reducible assumption) | assumption); obtain ⟨d1, b3, a6, a7⟩ := Qah HR0.out a0 a9 b0
         cases b3; replace a6 := (HB.out.cell (World.block_lt_of_cell? w _ a6)).trans a6; replace a7 := (HB.out.cell (World.block_lt_of_cell? w _ a7)).trans a7; replace a9 := eq_true a9; replace b0 := eq_true b0; go_wp2_with (first | ((with_reducible refine Zs (N := 8) rfl ?_); refine Xd ?hg (N := 8) ?hd (cs := #[.int .i64 0, .string (⟨#[]⟩ : ByteArray)]) (t := 68) ?hr ?_; (case hd => rfl); (case hg => rfl); (case hr => first | (go_simp; done) | (go_simp; rfl)); intro a4 hg w33 hbox hb; have n0_ := Qa.mk (Kd.R_below (by (with_reducible repeat (first | apply Kd.R_alloc | apply Kd.R_drewN | apply Kd.R_drew)); exact a5.out) hb); have n1_ := Qa.mk (Qk (by repeat (first | (with_reducible first | exact HB.out | apply Qc | apply Qb | apply Qd) | exact HB.out)) hb); have n2_ := Qa.mk (hbox); have n3_ := Qa.mk ((by rw [hg]; exact (Qh (by repeat (first | (with_reducible first | exact HB.out | apply Qc | apply Qb | apply Qd) | exact HB.out))) : w.heap.size ≤ a4)); have n4_ := Qa.mk ((by rw [hg]; exact (Qh (by repeat (first | (with_reducible first | exact HB.out | apply Qc | apply Qb | apply Qd) | exact HB.out))) : w.heap.size ≤ a4)); clear a5; clear HB; have a5 := n0_; have HB := n1_; have a2 := n2_; have d2 := n3_; have GE102 := n4_; clear n0_ n1_ n2_ n3_ n4_; clear hb hbox hg; have h7 : w33.cell? ⟨a4, 0, none⟩ = some (.int .i64 0) := (Ql a2.out 0).trans rfl; have h8 : w33.cell? ⟨a4, 1, none⟩ = some (.string (⟨#[]⟩ : ByteArray)) := (Ql a2.out 1).trans rfl; have h9 := Qo a2.out 0; have i0 := Qo a2.out 1; obtain ⟨g2, g3, eo35⟩ := Kd.R_slice a5.out; subst eo35) | ((with_reducible refine Zj (b := .append) (xs := #[.tmp 44, .tmp 57]) rfl ?_); at_builtin; refine Kd.R_append k40 (w0 := w) w.heap.size rfl (.tmp 44) (.tmp 57) 38 40 (.agg #[(.int .i64 0), (.int .i64 0)]) 16 rfl Tryz.underlying38 Qne rfl (by decide) (by omega) (.slice g2 a3.length g3) a3 (⟨b5, d0⟩ : S40) [.int .i64 b5, .int .i64 d0] (fun _ => True) (fun _ => False) rfl (by first | (go_simp; done) | (go_simp; rfl)) ?aP (fun _ hk => hk.elim) ?aF ?aO ?aB ?aS ?aL ?_; (case aP => exact Qhb _ _ _ (⟨b5, d0⟩ : S40)); (case aB => exact (by repeat (first | (with_reducible first | exact HB.out | apply Qc | apply Qb | apply Qd | refine Qu ?_ GE102.out) | exact HB.out))); (case aF => exact (fun _ _ => trivial)); (case aO => exact (by (with_reducible repeat (first | apply Kd.R_alloc | apply Kd.R_drewN | apply Kd.R_drew)); exact Kd.R_mono (Kd.R_far (p := ⟨a4, 1, none⟩) (Kd.R_far (p := ⟨a4, 0, none⟩) (Kd.R_types a5.out a2.out (by decide)) (fun _ hk => hk.2) (.int .i64 ((Zd l0 a0).f0))) (fun _ hk => hk.2) (.string ((Zd l0 a0).f1))) (fun _ hk => trivial))); (case aS => exact (Qh (by repeat (first | (with_reducible first | exact HB.out | apply Qc | apply Qb | apply Qd | refine Qu ?_ GE102.out) | exact HB.out)))); (case aL => have := f2.out; omega); intro k2 w36 ho hb hg hat; rw [← f3.out] at ho; have n0_ := Qa.mk (Yv (g := a4) (o := .cells #[.int .i64 ((Zd l0 a0).f0), .string ((Zd l0 a0).f1)] 68 (0, 0)) (by (with_reducible repeat (first | refine Zf ?_ _ | refine Zg ?_ | refine Zb ?_ _)); refine Zu (cs := #[.int .i64 ((Zd l0 a0).f0), .string (⟨#[]⟩ : ByteArray)]) ?_ 1 _ rfl; (with_reducible repeat (first | refine Zf ?_ _ | refine Zg ?_ | refine Zb ?_ _)); refine Zu (cs := #[.int .i64 0, .string (⟨#[]⟩ : ByteArray)]) ?_ 0 _ rfl; (with_reducible repeat (first | refine Zf ?_ _ | refine Zg ?_ | refine Zb ?_ _)); exact a2.out) hg (Kd.R_ne a5.out a2.out (by decide))); have n1_ := Qa.mk (hb); have n2_ := Qa.mk (ho); clear a2; clear HB; clear a5; have a2 := n0_; have HB := n1_; have f4 := n2_; clear n0_ n1_ n2_; clear ho hb hg hat))
         go_roundg k1
         case measure => have := HK1.out; omega
         case rel => exact ⟨(e4), (wrap64 (a0 + 1)), (wrap64 (a0 + 1)), (by first | rfl | (simp; done) | (simp [*]; done)), (by first | rfl | (simp; done) | (simp [*]; done)), H', ⟨by have := HK1.out; omega⟩, ⟨by (with_reducible repeat (first | apply Kd.R_alloc | apply Kd.R_drewN | apply Kd.R_drew)); exact f4.out⟩, ⟨by repeat (first | (with_reducible first | exact HB.out | apply Qc | apply Qb | apply Qd | refine Qu ?_ GE102.out) | exact HB.out)⟩⟩
        ·rw [if_neg c32] at H
         exact absurd H (by simp)
     ·rw [if_neg c5] at H
      exact absurd H (by simp)
    ·rw [if_neg c4] at H
     exact absurd H (by simp)
   ·rw [if_neg c3] at H
    have f5 : decide (a0 < (l0.length : Int)) = false := decide_eq_false c3; clear c3; obtain rfl := Option.some.inj H
    go_wp2
    go_ret; exact ⟨_, by first | rfl | (simp [Qz, Za] <;> rfl) | (simp [*, Qz, Za] <;> rfl), by (with_reducible repeat (first | apply Kd.R_alloc | apply Kd.R_drewN | apply Kd.R_drew)); exact a5.out, by repeat (first | (with_reducible first | exact HB.out | apply Qc | apply Qb | apply Qd) | exact HB.out)⟩
end Go.Proofs.YtadafplbgophfaaGreatDoor.PA
end
section
namespace Go.Proofs.YtadafplbgophfaaGreatDoor.PA
open Go.RowKit Go.Proofs.YtadafplbgophfaaGreatDoorW.PrintWords Go.Proofs.YtadafplbgophfaaGreatDoorW.PrintLast Go.Proofs.YtadafplbgophfaaGreatDoorW.PrintMore
def Qai (p : Int × Int × Int) (s : S49) : Int × Int × Int :=
 if s.f0 = 0 then (wrap64 (p.1 + (s.f1.length : Int)), p.2.1, p.2.2) else if s.f0 = 1 then (p.1, wrap64 (p.2.1 + (s.f1.length : Int)), p.2.2) else if s.f0 = 2 then (p.1, p.2.1, wrap64 (p.2.2 + (s.f1.length : Int))) else p
def Zq.f (_k : Nat) (l0 : List S49) : Option (Int × Int × Int) := some (l0.foldl Qai (0, 0, 0))
theorem Zq.mono : ∀ a0 k, LeO (Zq.f k a0) (Zq.f (k + 1) a0) := fun _ _ => LeO.refl _
theorem Qda {l : List S49} {i : Nat} (h : i < l.length) : Qy l (i : Int) = l[i] := by simp [Qy, List.getD_eq_getElem?_getD, h]
def Zq.T6 : Bool × List (List Nat × List Nat) := (true, [([], []), ([0], [0]), ([1], [1]), ([2], [2]), ([], []), ([4], [4]), ([5], [5]), ([3, 6], [3, 6]), ([1, 0, 1, 2, 3, 4, 5, 6, 7], [1]), ([8, 7, 0, 1, 2, 3, 4, 5, 6, 7], [7, 8])])
def Zq.B6 : List Nat := [0, 1, 3, 7, 0, 16, 48, 127, 255, 511]
theorem Zq.tab6 : Yu .any (Jj Tryz.f27 6) = Zq.T6 := by kernel_rfl
theorem Zq.bits6 : Ys Zq.T6.2 Zq.B6 = true := by kernel_rfl
def Zq.T8 : Bool × List (List Nat × List Nat) := (true, [([], []), ([0], [0]), ([], []), ([2], [2]), ([], []), ([4], [4]), ([1, 0, 1], [1]), ([3, 6, 0, 1, 2, 3, 6], [3]), ([5, 7, 0, 1, 2, 3, 4, 5, 6, 7], [5])])
def Zq.B8 : List Nat := [0, 1, 0, 4, 0, 16, 3, 79, 255]
theorem Zq.tab8 : Yu .any (Jj Tryz.f27 8) = Zq.T8 := by kernel_rfl
theorem Zq.bits8 : Ys Zq.T8.2 Zq.B8 = true := by kernel_rfl
def Qly (p : Int × Int × Int) (k : Int) : Int := if k = 0 then p.1 else if k = 1 then p.2.1 else p.2.2
theorem Qdi {l : List S49} {i : Nat} (h : i < l.length) : (l.take (i + 1)).foldl Qai (0, 0, 0) = Qai ((l.take i).foldl Qai (0, 0, 0)) l[i] := by
 rw [List.take_succ_eq_append_getElem h, List.foldl_append]; rfl
theorem Qhx {s : S49} (p : Int × Int × Int) (h : ¬ (0 ≤ s.f0 ∧ s.f0 ≤ 2)) : Qai p s = p := by
 unfold Qai; rw [if_neg (by omega), if_neg (by omega), if_neg (by omega)]
theorem Qjp {s : S49} (p : Int × Int × Int) (h : 0 ≤ s.f0 ∧ s.f0 ≤ 2) :
  (some (Obj.cells ((#[.int .i64 p.1, .int .i64 p.2.1, .int .i64 p.2.2] : Array Value).setIfInBounds s.f0.toNat (.int .i64 (wrap64 (Qly p s.f0 + (s.f1.length : Int))))) 98 (0, 0)) : Option Obj) = some (Obj.cells #[.int .i64 (Qai p s).1, .int .i64 (Qai p s).2.1, .int .i64 (Qai p s).2.2] 98 (0, 0)) := by
 unfold Qai Qly
 rcases (show s.f0 = 0 ∨ s.f0 = 1 ∨ s.f0 = 2 by omega) with e | e | e <;> simp [e]
set_option maxHeartbeats 4000000 in
set_option maxRecDepth 100000 in
theorem Zq.calls0 (k : Nat) (A0 : Option Addr) (c0 : Nat) (l0 : List S49) (r : Int × Int × Int) (w : World) (hr0 : Kd.C k49 w A0 l0.length l0) (hc0 : l0.length ≤ c0) (h : Zq.f k l0 = some r) :
  Calls Tryz.prog 27 #[.slice A0 l0.length c0] w fun e w' => e = .returned (.tuple #[.int .i64 r.1, .int .i64 r.2.1, .int .i64 r.2.2]) ∧ Below w.heap.size w w' := by
 unfold Zq.f at h
 simp only [Option.some.injEq] at h
 have hu49 := Tryz.underlying49; have hu98 := Tryz.underlying98; have HR0 := Qa.mk hr0; have HC0 := Qa.mk hc0; have HN : Qa (l0.length ≤ 9223372036854775807) := ⟨hr0.2.1⟩; clear hr0 hc0; have HV := Qa.mk h; clear h
 go_enter Tryz.func27, Tryz.ntmps27
 go_wp2
 go_loopw [10] (fun v10 wr => ∃ i : Nat, i ≤ l0.length ∧ v10 = .int .i64 (i : Int) ∧ Qa (Below w.heap.size w wr) ∧ Qa (wr.heap[w.heap.size]? = some (.cells #[.int .i64 ((l0.take i).foldl Qai (0, 0, 0)).1, .int .i64 ((l0.take i).foldl Qai (0, 0, 0)).2.1, .int .i64 ((l0.take i).foldl Qai (0, 0, 0)).2.2] 98 (0, 0)))) (fun v10 _ => l0.length - (intOf v10).toNat)
 case atStart => exact ⟨0, Nat.zero_le _, rfl, ⟨Qc (Below.refl _ _) _⟩, ⟨Kb w _⟩⟩
 case round =>
  obtain ⟨i, hi, rfl, HB, HK⟩ := hrel
  by_cases hlt : i < l0.length
  ·have HWI : Qa (wrap64 ((i : Int) + 1) = ((i + 1 : Nat) : Int)) := ⟨by have := HN.out; unfold wrap64; omega⟩
   have p0 : (0 : Int) ≤ (i : Int) := by omega
   have q0 : (i : Int) < (l0.length : Int) := by omega
   obtain ⟨ad, A1, c1, eA, hx0, hx1, _, _⟩ := Ug HR0.out (i : Int) p0 q0
   cases eA; replace hx0 := (HB.out.cell (World.block_lt_of_cell? w _ hx0)).trans hx0; replace hx1 := (HB.out.cell (World.block_lt_of_cell? w _ hx1)).trans hx1
   rw [Qda hlt, Int.toNat_natCast] at hx0 hx1
   obtain ⟨s, hs⟩ : ∃ s, s = l0[i] := ⟨_, rfl⟩
   rw [← hs] at hx0 hx1
   have HS := Qa.mk hs; clear hs; have hcut : decide ((i : Int) < (l0.length : Int)) = true := decide_eq_true q0
   by_cases hin : 0 ≤ s.f0 ∧ s.f0 ≤ 2
   ·have i0 : decide (0 ≤ s.f0) = true := decide_eq_true hin.1
    have i2 : decide (s.f0 ≤ 2) = true := decide_eq_true hin.2; have i3 : (0 ≤ s.f0) = True := eq_true hin.1; have i4 : (s.f0 < 3) = True := eq_true (by omega)
    obtain ⟨nj, hnj, hnc⟩ : ∃ nj, (wr.alloc (.cells #[.int .i64 s.f0, .slice A1 s.f1.length c1] 49 (0, 0))).cell? ⟨w.heap.size, s.f0.toNat, none⟩ = some (.int .i64 nj) ∧ nj = Qly ((l0.take i).foldl Qai (0, 0, 0)) s.f0 := by
     have hb := Zb HK.out (.cells #[.int .i64 s.f0, .slice A1 s.f1.length c1] 49 (0, 0))
     rcases (show s.f0 = 0 ∨ s.f0 = 1 ∨ s.f0 = 2 by omega) with e | e | e
     ·rw [show s.f0.toNat = 0 by omega]; exact ⟨_, (Ql hb 0).trans (show _ = some _ from rfl), by unfold Qly; rw [e]; rfl⟩
     ·rw [show s.f0.toNat = 1 by omega]; exact ⟨_, (Ql hb 1).trans (show _ = some _ from rfl), by unfold Qly; rw [e]; rfl⟩
     ·rw [show s.f0.toNat = 2 by omega]; exact ⟨_, (Ql hb 2).trans (show _ = some _ from rfl), by unfold Qly; rw [e]; rfl⟩
    have hn0 := (Ql (Kb wr (.cells #[.int .i64 s.f0, .slice A1 s.f1.length c1] 49 (0, 0))) 0).trans (show _ = some _ from rfl); have hn1 := (Ql (Kb wr (.cells #[.int .i64 s.f0, .slice A1 s.f1.length c1] 49 (0, 0))) 1).trans (show _ = some _ from rfl); have hfz := Qo (Zb HK.out (.cells #[.int .i64 s.f0, .slice A1 s.f1.length c1] 49 (0, 0))) s.f0.toNat; have HIN := Qa.mk hin; have HNC := Qa.mk hnc; clear hin hnc; go_wp2_with fail; refine Vo (n := 10) (S := fun w' => w'.cell? ⟨wr.heap.size, 0, none⟩ = some (.int .i64 s.f0) ∧ w'.cell? ⟨wr.heap.size, 1, none⟩ = some (.slice A1 s.f1.length c1) ∧ w'.cell? ⟨w.heap.size, s.f0.toNat, none⟩ = some (.int .i64 nj)) (ds := [9]) (bz_ 10 0) (by kernel_rfl) rfl rfl ⟨hn0, hn1, hnj⟩ (fun hHeld => ?_); refine Yd Zq.tab6 Zq.bits6 (fun HT_ HW_ => ?_); refine Qx (i := 0) (N := some 22) (v := ?_) (a' := ?_) (bz_ 10 1) rfl rfl (Qs HT_.out (by kernel_rfl)) (fun _ _ _ h => h) (Or.inl ⟨by rfl, ?_⟩) ?_ ?_; rotate_left
    ·intro w'
     go_simp
     with_reducible rfl
    rotate_left
    ·simp only [Act.put, sA_, sB_, sC_, Qp, Qr]
     rfl
    refine take_ (i := 1) (N := some 23) (v := ?_) (a' := ?_) (bz_ 10 3) rfl rfl (Xb HT_.out HW_.out (by kernel_rfl)) (fun _ _ _ h => h) (Or.inl ⟨by rfl, ?_⟩) hHeld ?_ ?_; rotate_left
    ·rintro w' ⟨s0, s1, s2⟩
     go_simp
     with_reducible rfl
    rotate_left
    ·simp only [Act.put, sA_, sB_, sC_, Qp, Qr]
     rfl
    refine Qx (i := 2) (N := some 24) (v := ?_) (a' := ?_) (bz_ 10 7) rfl rfl (Qs HT_.out (by kernel_rfl)) (fun _ _ _ h => h) (Or.inl ⟨by rfl, ?_⟩) ?_ ?_; rotate_left
    ·intro w'
     go_simp
     with_reducible rfl
    rotate_left
    ·simp only [Act.put, sA_, sB_, sC_, Qp, Qr]
     rfl
    refine Qx (i := 4) (N := some 26) (v := ?_) (a' := ?_) (bz_ 10 23) rfl rfl (Qs HT_.out (by kernel_rfl)) (fun _ _ _ h => h) (Or.inl ⟨by rfl, ?_⟩) ?_ ?_; rotate_left
    ·intro w'
     go_simp
     with_reducible rfl
    rotate_left
    ·simp only [Act.put, sA_, sB_, sC_, Qp, Qr]
     rfl
    refine take_ (i := 3) (N := some 25) (v := ?_) (a' := ?_) (bz_ 10 31) rfl rfl (Xb HT_.out HW_.out (by kernel_rfl)) (fun _ _ _ h => h) (Or.inl ⟨by rfl, ?_⟩) hHeld ?_ ?_; rotate_left
    ·rintro w' ⟨s0, s1, s2⟩
     go_simp
     with_reducible rfl
    rotate_left
    ·simp only [Act.put, sA_, sB_, sC_, Qp, Qr]
     rfl
    refine take_ (i := 5) (N := some 27) (v := ?_) (a' := ?_) (bz_ 10 63) rfl rfl (Xb HT_.out HW_.out (by kernel_rfl)) (fun _ _ _ h => h) (Or.inl ⟨by rfl, ?_⟩) hHeld ?_ ?_; rotate_left
    ·rintro w' ⟨s0, s1, s2⟩
     go_simp
     with_reducible rfl
    rotate_left
    ·simp only [Act.put, sA_, sB_, sC_, Qp, Qr]
     rfl
    refine Qx (i := 6) (N := some 28) (v := ?_) (a' := ?_) (bz_ 10 127) rfl rfl (Qs HT_.out (by kernel_rfl)) (fun _ _ _ h => h) (Or.inl ⟨by rfl, ?_⟩) ?_ ?_; rotate_left
    ·intro w'
     go_simp
     with_reducible rfl
    rotate_left
    ·simp only [Act.put, sA_, sB_, sC_, Qp, Qr]
     rfl
    refine Qx (i := 7) (N := some 29) (v := ?_) (a' := ?_) (bz_ 10 255) rfl rfl (Qs HT_.out (by kernel_rfl)) (fun _ _ _ h => h) (Or.inl ⟨by rfl, ?_⟩) ?_ ?_; rotate_left
    ·intro w'
     go_simp
     with_reducible rfl
    rotate_left
    ·simp only [Act.put, sA_, sB_, sC_, Qp, Qr]
     rfl
    refine Qx (i := 8) (N := some 30) (v := ?_) (a' := ?_) (bz_ 10 511) rfl rfl (Qs HT_.out (by kernel_rfl)) (fun _ _ _ h => h) (Or.inl ⟨by rfl, ?_⟩) ?_ ?_; rotate_left
    ·intro w'
     go_simp
     with_reducible rfl
    rotate_left
    ·simp only [Act.put, sA_, sB_, sC_, Qp, Qr]
     rfl
    refine Km (i := 9) (N := none) (bz_ 10 1023) rfl rfl (Ye HT_.out (by kernel_rfl)) (by decide) (fun K hK => ?_); refine Qfm (w1 := ?_) (by rfl) rfl ?_ ?_; rotate_left
    ·go_simp
     rfl
    refine hK.out _ _ ?_; clear hK K; refine Un (Vb HT_.out (by kernel_rfl)) ?_
    go_wp2
    go_roundw
    case rel => exact ⟨i + 1, hlt, by rw [HWI.out], ⟨Qd ((Qc HB.out _).setCell (Nat.le_refl _) _)⟩, ⟨(Qgu (Zb HK.out _) s.f0.toNat (.int .i64 (wrap64 (nj + (s.f1.length : Int))))).trans (by rw [HNC.out, Qdi hlt, ← HS.out, Qjp _ HIN.out])⟩⟩
    case measure => rw [HWI.out]; simp only [intOf, Int.toNat_natCast]; omega
   ·have hd : (decide (0 ≤ s.f0) && decide (s.f0 ≤ 2)) = false := by
     rw [Bool.and_eq_false_iff, decide_eq_false_iff_not, decide_eq_false_iff_not]; omega
    by_cases hin0 : 0 ≤ s.f0
    ·have i0 : decide (0 ≤ s.f0) = true := decide_eq_true hin0
     have i2 : decide (s.f0 ≤ 2) = false := decide_eq_false (by omega)
     go_wp2
     go_roundw
     case rel => exact ⟨i + 1, hlt, by rw [HWI.out], ⟨Qc HB.out _⟩, ⟨(Zb HK.out _).trans (by rw [Qdi hlt, ← HS.out, Qhx _ hin])⟩⟩
     case measure => rw [HWI.out]; simp only [intOf, Int.toNat_natCast]; omega
    ·have i0 : decide (0 ≤ s.f0) = false := decide_eq_false hin0
     go_wp2
     go_roundw
     case rel => exact ⟨i + 1, hlt, by rw [HWI.out], ⟨Qc HB.out _⟩, ⟨(Zb HK.out _).trans (by rw [Qdi hlt, ← HS.out, Qhx _ hin])⟩⟩
     case measure => rw [HWI.out]; simp only [intOf, Int.toNat_natCast]; omega
  ·have hcut : decide ((i : Int) < (l0.length : Int)) = false := decide_eq_false (by omega)
   obtain rfl : i = l0.length := by omega
   have hk0 := (Ql HK.out 0).trans (show _ = some _ from rfl); have hk1 := (Ql HK.out 1).trans (show _ = some _ from rfl); have hk2 := (Ql HK.out 2).trans (show _ = some _ from rfl)
   go_wp2
   refine Vo (n := 9) (S := fun w' => w'.cell? ⟨w.heap.size, 0, none⟩ = some (.int .i64 ((l0.take l0.length).foldl Qai (0, 0, 0)).1) ∧ w'.cell? ⟨w.heap.size, 1, none⟩ = some (.int .i64 ((l0.take l0.length).foldl Qai (0, 0, 0)).2.1) ∧ w'.cell? ⟨w.heap.size, 2, none⟩ = some (.int .i64 ((l0.take l0.length).foldl Qai (0, 0, 0)).2.2)) (ds := []) (bz_ 9 0) (by kernel_rfl) rfl rfl ⟨hk0, hk1, hk2⟩ (fun hHeld => ?_); refine Yd Zq.tab8 Zq.bits8 (fun HT_ HW_ => ?_); refine Qx (i := 0) (N := some 32) (v := ?_) (a' := ?_) (bz_ 9 1) rfl rfl (Qs HT_.out (by kernel_rfl)) (fun _ _ _ h => h) (Or.inl ⟨by rfl, ?_⟩) ?_ ?_; rotate_left
   ·intro w'
    go_simp
    with_reducible rfl
   rotate_left
   ·simp only [Act.put, sA_, sB_, sC_, Qp, Qr]
    rfl
   refine Qx (i := 2) (N := some 34) (v := ?_) (a' := ?_) (bz_ 9 5) rfl rfl (Qs HT_.out (by kernel_rfl)) (fun _ _ _ h => h) (Or.inl ⟨by rfl, ?_⟩) ?_ ?_; rotate_left
   ·intro w'
    go_simp
    with_reducible rfl
   rotate_left
   ·simp only [Act.put, sA_, sB_, sC_, Qp, Qr]
    rfl
   refine Qx (i := 4) (N := some 36) (v := ?_) (a' := ?_) (bz_ 9 21) rfl rfl (Qs HT_.out (by kernel_rfl)) (fun _ _ _ h => h) (Or.inl ⟨by rfl, ?_⟩) ?_ ?_; rotate_left
   ·intro w'
    go_simp
    with_reducible rfl
   rotate_left
   ·simp only [Act.put, sA_, sB_, sC_, Qp, Qr]
    rfl
   refine take_ (i := 1) (N := some 33) (v := ?_) (a' := ?_) (bz_ 9 23) rfl rfl (Xb HT_.out HW_.out (by kernel_rfl)) (fun _ _ _ h => h) (Or.inl ⟨by rfl, ?_⟩) hHeld ?_ ?_; rotate_left
   ·rintro w' ⟨s0, s1, s2⟩
    go_simp
    with_reducible rfl
   rotate_left
   ·simp only [Act.put, sA_, sB_, sC_, Qp, Qr]
    rfl
   refine take_ (i := 3) (N := some 35) (v := ?_) (a' := ?_) (bz_ 9 31) rfl rfl (Xb HT_.out HW_.out (by kernel_rfl)) (fun _ _ _ h => h) (Or.inl ⟨by rfl, ?_⟩) hHeld ?_ ?_; rotate_left
   ·rintro w' ⟨s0, s1, s2⟩
    go_simp
    with_reducible rfl
   rotate_left
   ·simp only [Act.put, sA_, sB_, sC_, Qp, Qr]
    rfl
   refine take_ (i := 5) (N := some 37) (v := ?_) (a' := ?_) (bz_ 9 63) rfl rfl (Xb HT_.out HW_.out (by kernel_rfl)) (fun _ _ _ h => h) (Or.inl ⟨by rfl, ?_⟩) hHeld ?_ ?_; rotate_left
   ·rintro w' ⟨s0, s1, s2⟩
    go_simp
    with_reducible rfl
   rotate_left
   ·simp only [Act.put, sA_, sB_, sC_, Qp, Qr]
    rfl
   refine Qx (i := 6) (N := some 2) (v := ?_) (a' := ?_) (bz_ 9 127) rfl rfl (Qs HT_.out (by kernel_rfl)) (fun _ _ _ h => h) (Or.inl ⟨by rfl, ?_⟩) ?_ ?_; rotate_left
   ·intro w'
    go_simp
    with_reducible rfl
   rotate_left
   ·simp only [Act.put, sA_, sB_, sC_, Qp, Qr]
    rfl
   refine Qx (i := 7) (N := some 3) (v := ?_) (a' := ?_) (bz_ 9 255) rfl rfl (Qs HT_.out (by kernel_rfl)) (fun _ _ _ h => h) (Or.inl ⟨by rfl, ?_⟩) ?_ ?_; rotate_left
   ·intro w'
    go_simp
    with_reducible rfl
   rotate_left
   ·simp only [Act.put, sA_, sB_, sC_, Qp, Qr]
    rfl
   refine Qx (i := 8) (N := some 4) (v := ?_) (a' := ?_) (bz_ 9 511) rfl rfl (Qs HT_.out (by kernel_rfl)) (fun _ _ _ h => h) (Or.inl ⟨by rfl, ?_⟩) ?_ ?_; rotate_left
   ·intro w'
    go_simp
    with_reducible rfl
   rotate_left
   ·simp only [Act.put, sA_, sB_, sC_, Qp, Qr]
    rfl
   refine Un (Vb HT_.out (by kernel_rfl)) ?_
   go_wp2
   go_ret3
   rw [← HV.out]; exact ⟨rfl, Qd HB.out⟩
theorem Zq.calls (k : Nat) (A0 : Option Addr) (c0 : Nat) (l0 : List S49) (r1 r2 r3 : Int) (w : World) (hr0 : Kd.C k49 w A0 l0.length l0) (hc0 : l0.length ≤ c0) (h : Zq.f k l0 = some (r1, r2, r3)) :
  Calls Tryz.prog 27 #[.slice A0 l0.length c0] w fun e w' => e = .returned (.tuple #[.int .i64 r1, .int .i64 r2, .int .i64 r3]) ∧ Below w.heap.size w w' := Zq.calls0 k A0 c0 l0 (r1, r2, r3) w hr0 hc0 h
end Go.Proofs.YtadafplbgophfaaGreatDoor.PA
end
section
namespace Go.Proofs.YtadafplbgophfaaGreatDoor.PA
open Go.RowKit Go.Proofs.YtadafplbgophfaaGreatDoorW.PrintWords Go.Proofs.YtadafplbgophfaaGreatDoorW.PrintLast Go.Proofs.YtadafplbgophfaaGreatDoorW.PrintMore
attribute [local go_sem] Xv Xx Yl Ym Xo Xp Xw Xy
def Xi.f (k : Nat) (l0 : List (S49)) : Option (Int × Int) := (Zq.f k l0).bind fun a1 => (some (wrap64 (a1.1 + a1.2.1), wrap64 (a1.1 + a1.2.2)))
theorem Xi.mono : ∀ a0 k, LeO (Xi.f k a0) (Xi.f (k + 1) a0) := by
 intro a0 k; unfold Xi.f
 repeat' first
   | (with_reducible exact Zq.mono _ _)
   | (with_reducible exact LeO.refl _)
   | (with_reducible exact LeO.none _)
   | (with_reducible refine LeO.ite ?_ ?_)
   | (with_reducible refine LeO.bind ?_ (fun _ => ?_))
   | exact Zq.mono _ _
   | exact LeO.none _
   | refine LeO.ite ?_ ?_
   | refine LeO.bind ?_ (fun _ => ?_)
set_option maxHeartbeats 8000000 in
set_option maxRecDepth 100000 in
theorem Xi.calls (k : Nat) (A0 : Option Addr) (c0 : Nat) (l0 : List (S49)) (r1 : Int) (r2 : Int) (w : World) (hr0 : Kd.C k49 w A0 l0.length l0) (hc0 : l0.length ≤ c0) (h : Xi.f k l0 = some (r1, r2)) :
  Calls Tryz.prog 13 #[.slice A0 l0.length c0] w fun e w' => e = .returned (.tuple #[.int .i64 r1, .int .i64 r2]) ∧ Below w.heap.size w w' := by
 have HR0 := Qa.mk hr0; have HC0 := Qa.mk hc0; clear hr0 hc0; have HB := Qa.mk (Below.refl w.heap.size w); have H : ((Zq.f k l0).bind fun a1 => (some (wrap64 (a1.1 + a1.2.1), wrap64 (a1.1 + a1.2.2)))) = some (r1, r2) := h; clear h; replace H := Option.bind_eq_some_iff.mp H; obtain ⟨⟨a2, a3, a4⟩, A20, H⟩ := H; replace H : (some (wrap64 (a2 + a3), wrap64 (a2 + a4))) = some (r1, r2) := H; have A2 := Qa.mk A20; clear A20
 simp only [Option.some.injEq, Prod.mk.injEq] at H
 obtain ⟨rfl, rfl⟩ := H
 go_enter Tryz.func13, Tryz.ntmps13
 go_wp2_with (first | ((with_reducible refine Zx (f := 27) rfl ?_); refine Yq (some 9) rfl rfl Tryz.func27 (by kernel_rfl) rfl #[.slice A0 l0.length c0] rfl (by (try simp only [List.map_toArray, List.map_cons, List.map_nil]); first | done | rfl | (simp only [List.length_drop, List.length_take]; rfl)) ?_; (with_reducible refine (Zq.calls k _ _ l0 a2 a3 a4 _ ?side1 ?side2 A2.out).mono ?_); (case side1 => repeat (first | exact HR0.out | (with_reducible refine Kd.C_alloc ?_ _) | (with_reducible refine Kd.C_drewN ?_ _) | (with_reducible refine Kd.C_drew ?_))); (case side2 => exact HC0.out); rintro e w3 ⟨rfl, hb⟩; refine ⟨_, rfl, ?_⟩; have n0_ := Qa.mk (Qk (by repeat (first | (with_reducible first | exact HB.out | apply Qc | apply Qb | apply Qd) | exact HB.out)) hb); clear HB; have HB := n0_; clear n0_; (try clear hb); (try clear hb2); (try clear hk); (try clear hi)))
 go_ret2
 exact ⟨by first | rfl | (simp [Qz, Za] <;> rfl) | (simp [*, Qz, Za] <;> rfl), by repeat (first | (with_reducible first | exact HB.out | apply Qc | apply Qb | apply Qd) | exact HB.out)⟩
end Go.Proofs.YtadafplbgophfaaGreatDoor.PA
end
