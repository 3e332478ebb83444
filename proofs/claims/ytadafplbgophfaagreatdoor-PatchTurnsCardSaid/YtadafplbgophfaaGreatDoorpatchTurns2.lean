/- Part 2 of what the row of the law PatchTurns rests on: walks of functions, and plain lemmas (in part printed by the kit's print, what is not reached left out). -/
import Derived.Test.YtadafplbgophfaaGreatDoorpatchTurns1
import Derived.Outline
import Derived.RangeFuncNested
import Derived.RangeFuncBox
import Derived.RangeFuncBound
import Derived.RangeFuncCalls
import Derived.RangeFuncLeaves
import Derived.Shelf.Abstract
import Derived.Shelf.RegionOpen
import Derived.WalkKit
import Derived.OwnWalkIn
import Derived.TacticsInMore
import Derived.LoopNIn
import Derived.LoopIn
import Derived.Maps.AppendAt
set_option linter.unusedVariables false
set_option linter.unusedSimpArgs false
section
namespace Go.Proofs.YtadafplbgophfaaGreatDoor.PA
open Go.RowKit Go.Proofs.YtadafplbgophfaaGreatDoorW.PrintWords Go.Proofs.YtadafplbgophfaaGreatDoorW.PrintLast Go.Proofs.YtadafplbgophfaaGreatDoorW.PrintMore
attribute [local go_sem] Xv Xx Yl Ym Xo Xp Xw Xy
mutual
def Qf.l0 : Nat → List (List ByteArray) → List ByteArray → List (List Int) → Int → Option ((List (List Int)))
 | 0, _, _, _, _ => none
 | k + 1, x0, x3, x4, x5 => if x5 < (x0.length : Int) then (Qf.l1 k x0 x3 x4 x5 ([] : List Int) 0) else (some x4)
def Qf.l1 : Nat → List (List ByteArray) → List ByteArray → List (List Int) → Int → List Int → Int → Option ((List (List Int)))
 | 0, _, _, _, _, _, _ => none
 | k + 1, x0, x3, x4, x5, x6, x7 => if 0 ≤ x5 then (if x5 < (x0.length : Int) then (if x7 < ((Yj x0 x5).length : Int) then (Qf.l2 k x0 x3 x4 x5 x6 x7 0) else (if x4.length < 5864062014805 then (Qf.l0 k x0 x3 (x4 ++ [x6]) (wrap64 (x5 + 1))) else (none))) else (none)) else (none)
def Qf.l2 : Nat → List (List ByteArray) → List ByteArray → List (List Int) → Int → List Int → Int → Int → Option ((List (List Int)))
 | 0, _, _, _, _, _, _, _ => none
 | k + 1, x0, x3, x4, x5, x6, x7, x8 => if x8 < (x3.length : Int) then (if 0 ≤ x8 then (if 0 ≤ x5 then (if x5 < (x0.length : Int) then (if 0 ≤ x7 then (if x7 < ((Yj x0 x5).length : Int) then (if (Zy ByteArray.empty x3 x8).toList = (Zy ByteArray.empty (Yj x0 x5) x7).toList then (if x8 = (x3.length : Int) then (if x3.length < 8796093022208 then (if x6.length < 17592186044416 then (Qf.l1 k x0 (x3 ++ [Zy ByteArray.empty (Yj x0 x5) x7]) x4 x5 (x6 ++ [x8]) (wrap64 (x7 + 1))) else (none)) else (none)) else (if x6.length < 17592186044416 then (Qf.l1 k x0 x3 x4 x5 (x6 ++ [x8]) (wrap64 (x7 + 1))) else (none))) else (Qf.l2 k x0 x3 x4 x5 x6 x7 (wrap64 (x8 + 1)))) else (none)) else (none)) else (none)) else (none)) else (none)) else (if x8 = (x3.length : Int) then (if 0 ≤ x5 then (if x5 < (x0.length : Int) then (if 0 ≤ x7 then (if x7 < ((Yj x0 x5).length : Int) then (if x3.length < 8796093022208 then (if x6.length < 17592186044416 then (Qf.l1 k x0 (x3 ++ [Zy ByteArray.empty (Yj x0 x5) x7]) x4 x5 (x6 ++ [x8]) (wrap64 (x7 + 1))) else (none)) else (none)) else (none)) else (none)) else (none)) else (none)) else (if x6.length < 17592186044416 then (Qf.l1 k x0 x3 x4 x5 (x6 ++ [x8]) (wrap64 (x7 + 1))) else (none)))
end
def Qf.f (k : Nat) (l0 : List (List ByteArray)) : Option ((List (List Int))) := Qf.l0 k l0 ([] : List ByteArray) ([] : List (List Int)) 0
set_option maxHeartbeats 8000000 in
set_option maxRecDepth 100000 in
theorem Qf.calls (k : Nat) (A0 : Option Addr) (c0 : Nat) (l0 : List (List ByteArray)) (r : List (List Int)) (w : World) (hr0 : Kd.C (Kd.slice 9 Kd.string) w A0 l0.length l0) (hc0 : l0.length ≤ c0) (h : Qf.f k l0 = some r) :
  Calls Tryz.prog 16 #[.slice A0 l0.length c0] w fun e w' => ∃ v0_ : Value, e = .returned (v0_) ∧ Kd.S (Kd.slice 3 (Kd.int .i64)) 58 w' w.heap.size (fun _ => True) v0_ r ∧ Below w.heap.size w w' := by
 have HR0 := Qa.mk hr0; have HC0 := Qa.mk hc0; clear hr0 hc0; have HB := Qa.mk (Below.refl w.heap.size w); have H : (Qf.l0 k l0 ([] : List ByteArray) ([] : List (List Int)) 0) = some r := h; clear h; have H' := Qa.mk H; clear H
 go_enter Tryz.func16, Tryz.ntmps16
 go_wp2
 repeat (go_quiet (fail); try go_wp2)
 go_loopg [3, 4, 5] k (fun kq v3 v4 v5 w' => ∃ (f4 : List ByteArray) (b0 : List (List Int)) (a0 : Int), v5 = .int .i64 a0 ∧ Qa (Qf.l0 kq l0 f4 b0 a0 = some r) ∧ Qa (kq ≤ k) ∧ Qa (Kd.R Kd.string 9 w' w.heap.size (fun _ => True) v3 f4) ∧ Qa (Kd.S (Kd.slice 3 (Kd.int .i64)) 58 w' w.heap.size (fun _ => True) v4 b0) ∧ Qa (Below w.heap.size w w'))
 case atStart => exact ⟨(([] : List ByteArray)), (([] : List (List Int))), (0), (by first | rfl | (simp; done) | (simp [*]; done)), H', ⟨Nat.le_refl _⟩, ⟨by first | exact Kd.R_nil _ _ _ _ _ | exact Kd.N_nil _ _ _ _ _ | exact Kd.V_nil _ _ _ _ _ | exact Kd.Q_nil _ _ _ _ _ | exact Kd.S_nil _ _ _ _ _⟩, ⟨by first | exact Kd.S_nil _ _ _ _ _ | exact Kd.N_nil _ _ _ _ _ | exact Kd.V_nil _ _ _ _ _ | exact Kd.Q_nil _ _ _ _ _ | exact Kd.R_nil _ _ _ _ _⟩, ⟨by repeat (first | (with_reducible first | exact HB.out | apply Qc | apply Qb | apply Qd) | exact HB.out)⟩⟩
 case round =>
  clear H'
  try clear c1
  obtain ⟨f4, b0, a0, rfl, HA, HK1, a2, a1, HB⟩ := hrel
  cases gk with
  | zero => exact absurd HA.out (by simp [Qf.l0])
  | succ k1 =>
   have H := HA.out; clear HA
   simp only [Qf.l0] at H
   by_cases c2 : a0 < (l0.length : Int)
   ·rw [if_pos c2] at H
    have h7 : decide (a0 < (l0.length : Int)) = true := decide_eq_true c2; clear c2; have H' := Qa.mk H; clear H
    go_wp2
    repeat (go_quiet (fail); try go_wp2)
    go_loopg [3, 6, 7] k1 (fun kq v3 v6 v7 w' => ∃ (a6 : List ByteArray) (a7 : List Int) (a5 : Int), v7 = .int .i64 a5 ∧ Qa (Qf.l1 kq l0 a6 b0 a0 a7 a5 = some r) ∧ Qa (kq ≤ k1) ∧ Qa (Kd.R Kd.string 9 w' w.heap.size (fun _ => True) v3 a6) ∧ Qa (Kd.S (Kd.slice 3 (Kd.int .i64)) 58 w' w.heap.size (fun k_ => some k_ ≠ (v6 : Value).ownBlock) u4 b0) ∧ Qa (Kd.R (Kd.int .i64) 3 w' w.heap.size (fun _ => True) v6 a7) ∧ Qa (Below w.heap.size w w'))
    case atStart => exact ⟨(f4), (([] : List Int)), (0), (by first | rfl | (simp; done) | (simp [*]; done)), H', ⟨Nat.le_refl _⟩, ⟨by (with_reducible repeat (first | apply Kd.R_alloc | apply Kd.R_drewN | apply Kd.R_drew)); exact a2.out⟩, ⟨by (with_reducible repeat (first | apply Kd.S_alloc | apply Kd.S_drewN | apply Kd.S_drew)); exact Kd.S_mono a1.out (fun _ hk => (by simp [Value.ownBlock]))⟩, ⟨by first | exact Kd.R_nil _ _ _ _ _ | exact Kd.N_nil _ _ _ _ _ | exact Kd.V_nil _ _ _ _ _ | exact Kd.Q_nil _ _ _ _ _ | exact Kd.S_nil _ _ _ _ _⟩, ⟨by repeat (first | (with_reducible first | exact HB.out | apply Qc | apply Qb | apply Qd) | exact HB.out)⟩⟩
    case round =>
     clear H'
     try clear c1
     try clear c2
     try clear h7
     try clear p2
     obtain ⟨a6, a7, a5, rfl, HA, HK2, a2, a1, a3, HB⟩ := hrel
     cases gk with
     | zero => exact absurd HA.out (by simp [Qf.l1])
     | succ k2 =>
      have H := HA.out; clear HA
      simp only [Qf.l1] at H
      by_cases c3 : 0 ≤ a0
      ·rw [if_pos c3] at H
       have m7 : decide (0 ≤ a0) = true := decide_eq_true c3; clear c3
       by_cases c4 : a0 < (l0.length : Int)
       ·rw [if_pos c4] at H
        have m8 : decide (a0 < (l0.length : Int)) = true := decide_eq_true c4; clear c4
        by_cases c5 : a5 < ((Yj l0 a0).length : Int)
        ·rw [if_pos c5] at H
         have j8 : decide (a5 < ((Yj l0 a0).length : Int)) = true := decide_eq_true c5; clear c5; have H' := Qa.mk H; clear H; have d1 : 0 ≤ (a0 : Int) := of_decide_eq_true (by first | (with_reducible assumption) | assumption); have d2 : a0 < (l0.length : Int) := of_decide_eq_true (by first | (with_reducible assumption) | assumption); obtain ⟨d3, j9, k0, h8, b3, hl101_0, hi101_0⟩ := Qem HR0.out a0 d1 d2
         cases h8; replace b3 := (HB.out.cell (World.block_lt_of_cell? w _ b3)).trans b3; have j4 := Qa.mk hi101_0; have j5 := Qa.mk hl101_0; clear hi101_0 hl101_0; replace d1 := eq_true d1; replace d2 := eq_true d2
         go_wp2
         repeat (go_quiet (fail); try go_wp2)
         go_loopg [8] k2 (fun kq v8 w' => ∃ (a4 : Int), v8 = .int .i64 a4 ∧ Qa (Qf.l2 kq l0 a6 b0 a0 a7 a5 a4 = some r) ∧ Qa (kq ≤ k2) ∧ Qa (Kd.R Kd.string 9 w' w.heap.size (fun _ => True) u3 a6) ∧ Qa (Kd.S (Kd.slice 3 (Kd.int .i64)) 58 w' w.heap.size (fun k_ => some k_ ≠ (u6 : Value).ownBlock) u4 b0) ∧ Qa (Kd.R (Kd.int .i64) 3 w' w.heap.size (fun _ => True) u6 a7) ∧ Qa (Below w.heap.size w w'))
         case atStart => exact ⟨(0), (by first | rfl | (simp; done) | (simp [*]; done)), H', ⟨Nat.le_refl _⟩, ⟨by (with_reducible repeat (first | apply Kd.R_alloc | apply Kd.R_drewN | apply Kd.R_drew)); exact a2.out⟩, ⟨by (with_reducible repeat (first | apply Kd.S_alloc | apply Kd.S_drewN | apply Kd.S_drew)); exact a1.out⟩, ⟨by (with_reducible repeat (first | apply Kd.R_alloc | apply Kd.R_drewN | apply Kd.R_drew)); exact a3.out⟩, ⟨by repeat (first | (with_reducible first | exact HB.out | apply Qc | apply Qb | apply Qd) | exact HB.out)⟩⟩
         case round =>
          clear H'
          try clear c1
          try clear p1
          try clear q1
          try clear hx1
          try clear c2
          try clear h7
          try clear p2
          try clear c3
          try clear m7
          try clear c4
          try clear m8
          try clear c5
          try clear j8
          try clear b3
          try clear d1
          try clear p2
          try clear d2
          obtain ⟨a4, rfl, HA, HK3, a2, a1, a3, HB⟩ := hrel
          cases gk with
          | zero => exact absurd HA.out (by simp [Qf.l2])
          | succ k3 =>
           have H := HA.out; clear HA
           simp only [Qf.l2] at H
           by_cases c6 : a4 < (a6.length : Int)
           ·rw [if_pos c6] at H
            have m9 : decide (a4 < (a6.length : Int)) = true := decide_eq_true c6; clear c6
            by_cases c7 : 0 ≤ a4
            ·rw [if_pos c7] at H
             have o8 : decide (0 ≤ a4) = true := decide_eq_true c7; clear c7
             by_cases c8 : 0 ≤ a0
             ·rw [if_pos c8] at H
              have o9 : decide (0 ≤ a0) = true := decide_eq_true c8; clear c8
              by_cases c9 : a0 < (l0.length : Int)
              ·rw [if_pos c9] at H
               have p0 : decide (a0 < (l0.length : Int)) = true := decide_eq_true c9; clear c9
               by_cases c10 : 0 ≤ a5
               ·rw [if_pos c10] at H
                have o0 : decide (0 ≤ a5) = true := decide_eq_true c10; clear c10
                by_cases c11 : a5 < ((Yj l0 a0).length : Int)
                ·rw [if_pos c11] at H
                 have o1 : decide (a5 < ((Yj l0 a0).length : Int)) = true := decide_eq_true c11; clear c11
                 by_cases c12 : (Zy ByteArray.empty a6 a4).toList = (Zy ByteArray.empty (Yj l0 a0) a5).toList
                 ·rw [if_pos c12] at H
                  have l9 : ((Zy ByteArray.empty a6 a4).toList == (Zy ByteArray.empty (Yj l0 a0) a5).toList) = true := beq_iff_eq.mpr c12; have m0 : ((Zy ByteArray.empty a6 a4).toList != (Zy ByteArray.empty (Yj l0 a0) a5).toList) = false := bne_eq_false_iff_eq.mpr c12; clear c12
                  by_cases c13 : a4 = (a6.length : Int)
                  ·rw [if_pos c13] at H
                   have m1 : (a4 == (a6.length : Int)) = true := beq_iff_eq.mpr c13; have m2 : (a4 != (a6.length : Int)) = false := bne_eq_false_iff_eq.mpr c13; clear c13
                   by_cases c14 : a6.length < 8796093022208
                   ·rw [if_pos c14] at H
                    have f5 := Qa.mk c14; clear c14; obtain ⟨h9, d5⟩ : ∃ y_ : List ByteArray, y_ = (a6 ++ [Zy ByteArray.empty (Yj l0 a0) a5]) := ⟨_, rfl⟩
                    replace H : (if a7.length < 17592186044416 then (Qf.l1 k3 l0 h9 b0 a0 (a7 ++ [a4]) (wrap64 (a5 + 1))) else (none)) = some r := by first | (rw [d5]; with_reducible exact H) | (have H2_ := (Option.bind_some _ _).symm.trans H; rw [d5]; with_reducible exact H2_) | (have H2_ := (Option.bind_some _ _).symm.trans H; with_reducible exact H2_) | with_reducible exact H | (rw [d5]; exact H) | exact H
                    have f6 := Qa.mk d5; clear d5
                    by_cases c15 : a7.length < 17592186044416
                    ·rw [if_pos c15] at H
                     have f7 := Qa.mk c15; clear c15; obtain ⟨k4, d6⟩ : ∃ y_ : List Int, y_ = (a7 ++ [a4]) := ⟨_, rfl⟩
                     replace H : (Qf.l1 k3 l0 h9 b0 a0 k4 (wrap64 (a5 + 1))) = some r := by first | (rw [d6]; with_reducible exact H) | (have H2_ := (Option.bind_some _ _).symm.trans H; rw [d6]; with_reducible exact H2_) | (have H2_ := (Option.bind_some _ _).symm.trans H; with_reducible exact H2_) | with_reducible exact H | (rw [d6]; exact H) | exact H
                     have f8 := Qa.mk d6; clear d6; have H' := Qa.mk H; clear H; obtain ⟨p3, i0, eo16⟩ := Kd.R_slice a2.out; subst eo16; have b4 : 0 ≤ (a4 : Int) := of_decide_eq_true (by first | (with_reducible assumption) | assumption); have b5 : a4 < (a6.length : Int) := of_decide_eq_true (by first | (with_reducible assumption) | assumption); obtain ⟨d7, e9, f2⟩ := Kd.at_string (Kd.R_reads' a2.out).2.2 a4 b4 b5
                     cases e9; replace b4 := eq_true b4; replace b5 := eq_true b5; have b6 : 0 ≤ (a0 : Int) := of_decide_eq_true (by first | (with_reducible assumption) | assumption); have b7 : a0 < (l0.length : Int) := of_decide_eq_true (by first | (with_reducible assumption) | assumption); obtain ⟨d8, h5, h6, f0, a8, hl106_0, hi106_0⟩ := Qem HR0.out a0 b6 b7; obtain rfl : d3 = d8 := (by injection f0); replace a8 := (HB.out.cell (World.block_lt_of_cell? w _ a8)).trans a8; have d0 := Qa.mk hi106_0; have f3 := Qa.mk hl106_0; clear hi106_0 hl106_0; replace b6 := eq_true b6; replace b7 := eq_true b7; have b8 : 0 ≤ (a5 : Int) := of_decide_eq_true (by first | (with_reducible assumption) | assumption); have b9 : a5 < ((Yj l0 a0).length : Int) := of_decide_eq_true (by first | (with_reducible assumption) | assumption); obtain ⟨j3, f1, a9⟩ := Kd.at_string d0.out a5 b8 b9
                     cases f1; replace a9 := (HB.out.cell (World.block_lt_of_cell? w _ a9)).trans a9; replace b8 := eq_true b8; replace b9 := eq_true b9; have i1 : 0 ≤ (a0 : Int) := of_decide_eq_true (by first | (with_reducible assumption) | assumption); have i2 : a0 < (l0.length : Int) := of_decide_eq_true (by first | (with_reducible assumption) | assumption); obtain ⟨m3, n6, n7, n0, d4, hl108_0, hi108_0⟩ := Qem HR0.out a0 i1 i2; obtain rfl : d3 = m3 := (by injection n0); replace d4 := (HB.out.cell (World.block_lt_of_cell? w _ d4)).trans d4; have j6 := Qa.mk hi108_0; have n4 := Qa.mk hl108_0; clear hi108_0 hl108_0; replace i1 := eq_true i1; replace i2 := eq_true i2; have ea_ := Option.some.inj (a8.symm.trans d4)
                     injection ea_ with ea_ en_ ec_
                     subst ea_; subst ec_; clear en_; have i3 : 0 ≤ (a5 : Int) := of_decide_eq_true (by first | (with_reducible assumption) | assumption); have i4 : a5 < ((Yj l0 a0).length : Int) := of_decide_eq_true (by first | (with_reducible assumption) | assumption); obtain ⟨o2, n1, e4⟩ := Kd.at_string j6.out a5 i3 i4
                     cases n1; replace e4 := (HB.out.cell (World.block_lt_of_cell? w _ e4)).trans e4; replace i3 := eq_true i3; replace i4 := eq_true i4; go_wp2_with (first | ((with_reducible refine Zj (b := .append) (xs := #[.tmp 48, .tmp 56]) rfl ?_); at_builtin; refine Kd.R_append Kd.string (w0 := w) w.heap.size rfl (.tmp 48) (.tmp 56) 46 9 (.string ⟨#[]⟩) 16 rfl Tryz.underlying46 Vy rfl (by decide) (by omega) (.slice (some d7) a6.length i0) a6 (Zy ByteArray.empty (Yj l0 a0) a5) [.string (Zy ByteArray.empty (Yj l0 a0) a5)] (fun _ => True) (fun _ => False) rfl rfl ?aP (fun _ hk => hk.elim) ?aF ?aO ?aB ?aS ?aL ?_; (case aP => exact rfl); (case aB => exact (by repeat (first | (with_reducible first | exact HB.out | apply Qc | apply Qb | apply Qd) | exact HB.out))); (case aF => exact (fun _ _ => trivial)); (case aO => exact (by (with_reducible repeat (first | apply Kd.R_alloc | apply Kd.R_drewN | apply Kd.R_drew)); exact a2.out)); (case aS => exact (Qh (by repeat (first | (with_reducible first | exact HB.out | apply Qc | apply Qb | apply Qd) | exact HB.out)))); (case aL => have := f5.out; omega); intro k5 w17 ho hb hg hat; rw [← f6.out] at ho; have n0_ := Qa.mk (Kd.S_over' (by (with_reducible repeat (first | apply Kd.S_alloc | apply Kd.S_drewN | apply Kd.S_drew)); exact a1.out) (Kd.R_typed (by (with_reducible repeat (first | apply Kd.R_alloc | apply Kd.R_drewN | apply Kd.R_drew)); exact a2.out)) (by decide) hg); have n1_ := Qa.mk (Kd.R_over' (by (with_reducible repeat (first | apply Kd.R_alloc | apply Kd.R_drewN | apply Kd.R_drew)); exact a3.out) (Kd.R_typed (by (with_reducible repeat (first | apply Kd.R_alloc | apply Kd.R_drewN | apply Kd.R_drew)); exact a2.out)) (by decide) hg); have n2_ := Qa.mk (hb); have n3_ := Qa.mk (ho); clear a1; clear a3; clear HB; clear a2; have a1 := n0_; have a3 := n1_; have HB := n2_; have b1 := n3_; clear n0_ n1_ n2_ n3_; clear ho hb hg hat) | ((with_reducible refine Zj (b := .append) (xs := #[.tmp 58, .tmp 60]) rfl ?_); at_builtin; refine Kd.R_append (Kd.int .i64) (w0 := w) w.heap.size rfl (.tmp 58) (.tmp 60) 58 3 (.int .i64 0) 8 rfl Tryz.underlying58 Vm rfl (by decide) (by omega) u6 a7 a4 [.int .i64 a4] (fun _ => True) (fun _ => False) rfl rfl ?aP (fun _ hk => hk.elim) ?aF ?aO ?aB ?aS ?aL ?_; (case aP => exact rfl); (case aB => exact (by repeat (first | (with_reducible first | exact HB.out | apply Qc | apply Qb | apply Qd) | exact HB.out))); (case aF => exact (fun _ _ => trivial)); (case aO => exact (by (with_reducible repeat (first | apply Kd.R_alloc | apply Kd.R_drewN | apply Kd.R_drew)); exact a3.out)); (case aS => exact (Qh (by repeat (first | (with_reducible first | exact HB.out | apply Qc | apply Qb | apply Qd) | exact HB.out)))); (case aL => have := f7.out; omega); intro k6 w18 ho hb hg hat; rw [← f8.out] at ho; have n0_ := Qa.mk (Kd.S_after (ok := (fun _ => True)) (by (with_reducible repeat (first | apply Kd.S_alloc | apply Kd.S_drewN | apply Kd.S_drew)); exact Kd.S_mono a1.out (fun _ hk => ⟨trivial, hk⟩)) hg hat); have n1_ := Qa.mk (Kd.R_over' (by (with_reducible repeat (first | apply Kd.R_alloc | apply Kd.R_drewN | apply Kd.R_drew)); exact b1.out) (Kd.R_typed (by (with_reducible repeat (first | apply Kd.R_alloc | apply Kd.R_drewN | apply Kd.R_drew)); exact a3.out)) (by decide) hg); have n2_ := Qa.mk (hb); have n3_ := Qa.mk (ho); clear a1; clear b1; clear HB; clear a3; have a1 := n0_; have b1 := n1_; have HB := n2_; have f9 := n3_; clear n0_ n1_ n2_ n3_; clear ho hb hg hat))
                     repeat (go_quiet (first | ((with_reducible refine Zj (b := .append) (xs := #[.tmp 48, .tmp 56]) rfl ?_); at_builtin; refine Kd.R_append Kd.string (w0 := w) w.heap.size rfl (.tmp 48) (.tmp 56) 46 9 (.string ⟨#[]⟩) 16 rfl Tryz.underlying46 Vy rfl (by decide) (by omega) (.slice (some d7) a6.length i0) a6 (Zy ByteArray.empty (Yj l0 a0) a5) [.string (Zy ByteArray.empty (Yj l0 a0) a5)] (fun _ => True) (fun _ => False) rfl rfl ?aP (fun _ hk => hk.elim) ?aF ?aO ?aB ?aS ?aL ?_; (case aP => exact rfl); (case aB => exact (by repeat (first | (with_reducible first | exact HB.out | apply Qc | apply Qb | apply Qd) | exact HB.out))); (case aF => exact (fun _ _ => trivial)); (case aO => exact (by (with_reducible repeat (first | apply Kd.R_alloc | apply Kd.R_drewN | apply Kd.R_drew)); exact a2.out)); (case aS => exact (Qh (by repeat (first | (with_reducible first | exact HB.out | apply Qc | apply Qb | apply Qd) | exact HB.out)))); (case aL => have := f5.out; omega); intro k5 w17 ho hb hg hat; rw [← f6.out] at ho; have n0_ := Qa.mk (Kd.S_over' (by (with_reducible repeat (first | apply Kd.S_alloc | apply Kd.S_drewN | apply Kd.S_drew)); exact a1.out) (Kd.R_typed (by (with_reducible repeat (first | apply Kd.R_alloc | apply Kd.R_drewN | apply Kd.R_drew)); exact a2.out)) (by decide) hg); have n1_ := Qa.mk (Kd.R_over' (by (with_reducible repeat (first | apply Kd.R_alloc | apply Kd.R_drewN | apply Kd.R_drew)); exact a3.out) (Kd.R_typed (by (with_reducible repeat (first | apply Kd.R_alloc | apply Kd.R_drewN | apply Kd.R_drew)); exact a2.out)) (by decide) hg); have n2_ := Qa.mk (hb); have n3_ := Qa.mk (ho); clear a1; clear a3; clear HB; clear a2; have a1 := n0_; have a3 := n1_; have HB := n2_; have b1 := n3_; clear n0_ n1_ n2_ n3_; clear ho hb hg hat) | ((with_reducible refine Zj (b := .append) (xs := #[.tmp 58, .tmp 60]) rfl ?_); at_builtin; refine Kd.R_append (Kd.int .i64) (w0 := w) w.heap.size rfl (.tmp 58) (.tmp 60) 58 3 (.int .i64 0) 8 rfl Tryz.underlying58 Vm rfl (by decide) (by omega) u6 a7 a4 [.int .i64 a4] (fun _ => True) (fun _ => False) rfl rfl ?aP (fun _ hk => hk.elim) ?aF ?aO ?aB ?aS ?aL ?_; (case aP => exact rfl); (case aB => exact (by repeat (first | (with_reducible first | exact HB.out | apply Qc | apply Qb | apply Qd) | exact HB.out))); (case aF => exact (fun _ _ => trivial)); (case aO => exact (by (with_reducible repeat (first | apply Kd.R_alloc | apply Kd.R_drewN | apply Kd.R_drew)); exact a3.out)); (case aS => exact (Qh (by repeat (first | (with_reducible first | exact HB.out | apply Qc | apply Qb | apply Qd) | exact HB.out)))); (case aL => have := f7.out; omega); intro k6 w18 ho hb hg hat; rw [← f8.out] at ho; have n0_ := Qa.mk (Kd.S_after (ok := (fun _ => True)) (by (with_reducible repeat (first | apply Kd.S_alloc | apply Kd.S_drewN | apply Kd.S_drew)); exact Kd.S_mono a1.out (fun _ hk => ⟨trivial, hk⟩)) hg hat); have n1_ := Qa.mk (Kd.R_over' (by (with_reducible repeat (first | apply Kd.R_alloc | apply Kd.R_drewN | apply Kd.R_drew)); exact b1.out) (Kd.R_typed (by (with_reducible repeat (first | apply Kd.R_alloc | apply Kd.R_drewN | apply Kd.R_drew)); exact a3.out)) (by decide) hg); have n2_ := Qa.mk (hb); have n3_ := Qa.mk (ho); clear a1; clear b1; clear HB; clear a3; have a1 := n0_; have b1 := n1_; have HB := n2_; have f9 := n3_; clear n0_ n1_ n2_ n3_; clear ho hb hg hat)); try go_wp2_with (first | ((with_reducible refine Zj (b := .append) (xs := #[.tmp 48, .tmp 56]) rfl ?_); at_builtin; refine Kd.R_append Kd.string (w0 := w) w.heap.size rfl (.tmp 48) (.tmp 56) 46 9 (.string ⟨#[]⟩) 16 rfl Tryz.underlying46 Vy rfl (by decide) (by omega) (.slice (some d7) a6.length i0) a6 (Zy ByteArray.empty (Yj l0 a0) a5) [.string (Zy ByteArray.empty (Yj l0 a0) a5)] (fun _ => True) (fun _ => False) rfl rfl ?aP (fun _ hk => hk.elim) ?aF ?aO ?aB ?aS ?aL ?_; (case aP => exact rfl); (case aB => exact (by repeat (first | (with_reducible first | exact HB.out | apply Qc | apply Qb | apply Qd) | exact HB.out))); (case aF => exact (fun _ _ => trivial)); (case aO => exact (by (with_reducible repeat (first | apply Kd.R_alloc | apply Kd.R_drewN | apply Kd.R_drew)); exact a2.out)); (case aS => exact (Qh (by repeat (first | (with_reducible first | exact HB.out | apply Qc | apply Qb | apply Qd) | exact HB.out)))); (case aL => have := f5.out; omega); intro k5 w17 ho hb hg hat; rw [← f6.out] at ho; have n0_ := Qa.mk (Kd.S_over' (by (with_reducible repeat (first | apply Kd.S_alloc | apply Kd.S_drewN | apply Kd.S_drew)); exact a1.out) (Kd.R_typed (by (with_reducible repeat (first | apply Kd.R_alloc | apply Kd.R_drewN | apply Kd.R_drew)); exact a2.out)) (by decide) hg); have n1_ := Qa.mk (Kd.R_over' (by (with_reducible repeat (first | apply Kd.R_alloc | apply Kd.R_drewN | apply Kd.R_drew)); exact a3.out) (Kd.R_typed (by (with_reducible repeat (first | apply Kd.R_alloc | apply Kd.R_drewN | apply Kd.R_drew)); exact a2.out)) (by decide) hg); have n2_ := Qa.mk (hb); have n3_ := Qa.mk (ho); clear a1; clear a3; clear HB; clear a2; have a1 := n0_; have a3 := n1_; have HB := n2_; have b1 := n3_; clear n0_ n1_ n2_ n3_; clear ho hb hg hat) | ((with_reducible refine Zj (b := .append) (xs := #[.tmp 58, .tmp 60]) rfl ?_); at_builtin; refine Kd.R_append (Kd.int .i64) (w0 := w) w.heap.size rfl (.tmp 58) (.tmp 60) 58 3 (.int .i64 0) 8 rfl Tryz.underlying58 Vm rfl (by decide) (by omega) u6 a7 a4 [.int .i64 a4] (fun _ => True) (fun _ => False) rfl rfl ?aP (fun _ hk => hk.elim) ?aF ?aO ?aB ?aS ?aL ?_; (case aP => exact rfl); (case aB => exact (by repeat (first | (with_reducible first | exact HB.out | apply Qc | apply Qb | apply Qd) | exact HB.out))); (case aF => exact (fun _ _ => trivial)); (case aO => exact (by (with_reducible repeat (first | apply Kd.R_alloc | apply Kd.R_drewN | apply Kd.R_drew)); exact a3.out)); (case aS => exact (Qh (by repeat (first | (with_reducible first | exact HB.out | apply Qc | apply Qb | apply Qd) | exact HB.out)))); (case aL => have := f7.out; omega); intro k6 w18 ho hb hg hat; rw [← f8.out] at ho; have n0_ := Qa.mk (Kd.S_after (ok := (fun _ => True)) (by (with_reducible repeat (first | apply Kd.S_alloc | apply Kd.S_drewN | apply Kd.S_drew)); exact Kd.S_mono a1.out (fun _ hk => ⟨trivial, hk⟩)) hg hat); have n1_ := Qa.mk (Kd.R_over' (by (with_reducible repeat (first | apply Kd.R_alloc | apply Kd.R_drewN | apply Kd.R_drew)); exact b1.out) (Kd.R_typed (by (with_reducible repeat (first | apply Kd.R_alloc | apply Kd.R_drewN | apply Kd.R_drew)); exact a3.out)) (by decide) hg); have n2_ := Qa.mk (hb); have n3_ := Qa.mk (ho); clear a1; clear b1; clear HB; clear a3; have a1 := n0_; have b1 := n1_; have HB := n2_; have f9 := n3_; clear n0_ n1_ n2_ n3_; clear ho hb hg hat)))
                     go_roundg k3
                     case measure => have := HK1.out; have := HK2.out; have := HK3.out; omega
                     case rel => exact ⟨(h9), (k4), (wrap64 (a5 + 1)), (by first | rfl | (simp; done) | (simp [*]; done)), H', ⟨by have := HK1.out; have := HK2.out; have := HK3.out; omega⟩, ⟨by (with_reducible repeat (first | apply Kd.R_alloc | apply Kd.R_drewN | apply Kd.R_drew)); exact b1.out⟩, ⟨by (with_reducible repeat (first | apply Kd.S_alloc | apply Kd.S_drewN | apply Kd.S_drew)); exact Kd.S_mono a1.out (fun _ hk => hk.2)⟩, ⟨by (with_reducible repeat (first | apply Kd.R_alloc | apply Kd.R_drewN | apply Kd.R_drew)); exact f9.out⟩, ⟨by repeat (first | (with_reducible first | exact HB.out | apply Qc | apply Qb | apply Qd) | exact HB.out)⟩⟩
                    ·rw [if_neg c15] at H
                     exact absurd H (by simp)
                   ·rw [if_neg c14] at H
                    exact absurd H (by simp)
                  ·rw [if_neg c13] at H
                   have m1 : (a4 == (a6.length : Int)) = false := beq_eq_false_iff_ne.mpr c13; have m2 : (a4 != (a6.length : Int)) = true := bne_iff_ne.mpr c13
                   by_cases c19 : a7.length < 17592186044416
                   ·rw [if_pos c19] at H
                    have g0 := Qa.mk c19; clear c19; obtain ⟨k7, d9⟩ : ∃ y_ : List Int, y_ = (a7 ++ [a4]) := ⟨_, rfl⟩
                    replace H : (Qf.l1 k3 l0 a6 b0 a0 k7 (wrap64 (a5 + 1))) = some r := by first | (rw [d9]; with_reducible exact H) | (have H2_ := (Option.bind_some _ _).symm.trans H; rw [d9]; with_reducible exact H2_) | (have H2_ := (Option.bind_some _ _).symm.trans H; with_reducible exact H2_) | with_reducible exact H | (rw [d9]; exact H) | exact H
                    have g1 := Qa.mk d9; clear d9; have H' := Qa.mk H; clear H; obtain ⟨p4, p5, eo20⟩ := Kd.R_slice a2.out; subst eo20; have b4 : 0 ≤ (a4 : Int) := of_decide_eq_true (by first | (with_reducible assumption) | assumption); have b5 : a4 < (a6.length : Int) := of_decide_eq_true (by first | (with_reducible assumption) | assumption); obtain ⟨d7, e9, f2⟩ := Kd.at_string (Kd.R_reads' a2.out).2.2 a4 b4 b5
                    cases e9; replace b4 := eq_true b4; replace b5 := eq_true b5; have b6 : 0 ≤ (a0 : Int) := of_decide_eq_true (by first | (with_reducible assumption) | assumption); have b7 : a0 < (l0.length : Int) := of_decide_eq_true (by first | (with_reducible assumption) | assumption); obtain ⟨d8, h5, h6, f0, a8, hl106_0, hi106_0⟩ := Qem HR0.out a0 b6 b7; obtain rfl : d3 = d8 := (by injection f0); replace a8 := (HB.out.cell (World.block_lt_of_cell? w _ a8)).trans a8; have d0 := Qa.mk hi106_0; have f3 := Qa.mk hl106_0; clear hi106_0 hl106_0; replace b6 := eq_true b6; replace b7 := eq_true b7; have b8 : 0 ≤ (a5 : Int) := of_decide_eq_true (by first | (with_reducible assumption) | assumption); have b9 : a5 < ((Yj l0 a0).length : Int) := of_decide_eq_true (by first | (with_reducible assumption) | assumption); obtain ⟨j3, f1, a9⟩ := Kd.at_string d0.out a5 b8 b9
                    cases f1; replace a9 := (HB.out.cell (World.block_lt_of_cell? w _ a9)).trans a9; replace b8 := eq_true b8; replace b9 := eq_true b9; go_wp2_with (first | ((with_reducible refine Zj (b := .append) (xs := #[.tmp 58, .tmp 60]) rfl ?_); at_builtin; refine Kd.R_append (Kd.int .i64) (w0 := w) w.heap.size rfl (.tmp 58) (.tmp 60) 58 3 (.int .i64 0) 8 rfl Tryz.underlying58 Vm rfl (by decide) (by omega) u6 a7 a4 [.int .i64 a4] (fun _ => True) (fun _ => False) rfl rfl ?aP (fun _ hk => hk.elim) ?aF ?aO ?aB ?aS ?aL ?_; (case aP => exact rfl); (case aB => exact (by repeat (first | (with_reducible first | exact HB.out | apply Qc | apply Qb | apply Qd) | exact HB.out))); (case aF => exact (fun _ _ => trivial)); (case aO => exact (by (with_reducible repeat (first | apply Kd.R_alloc | apply Kd.R_drewN | apply Kd.R_drew)); exact a3.out)); (case aS => exact (Qh (by repeat (first | (with_reducible first | exact HB.out | apply Qc | apply Qb | apply Qd) | exact HB.out)))); (case aL => have := g0.out; omega); intro k8 w21 ho hb hg hat; rw [← g1.out] at ho; have n0_ := Qa.mk (Kd.R_over' (by (with_reducible repeat (first | apply Kd.R_alloc | apply Kd.R_drewN | apply Kd.R_drew)); exact a2.out) (Kd.R_typed (by (with_reducible repeat (first | apply Kd.R_alloc | apply Kd.R_drewN | apply Kd.R_drew)); exact a3.out)) (by decide) hg); have n1_ := Qa.mk (Kd.S_after (ok := (fun _ => True)) (by (with_reducible repeat (first | apply Kd.S_alloc | apply Kd.S_drewN | apply Kd.S_drew)); exact Kd.S_mono a1.out (fun _ hk => ⟨trivial, hk⟩)) hg hat); have n2_ := Qa.mk (hb); have n3_ := Qa.mk (ho); clear a2; clear a1; clear HB; clear a3; have a2 := n0_; have a1 := n1_; have HB := n2_; have g2 := n3_; clear n0_ n1_ n2_ n3_; clear ho hb hg hat))
                    repeat (go_quiet (first | ((with_reducible refine Zj (b := .append) (xs := #[.tmp 58, .tmp 60]) rfl ?_); at_builtin; refine Kd.R_append (Kd.int .i64) (w0 := w) w.heap.size rfl (.tmp 58) (.tmp 60) 58 3 (.int .i64 0) 8 rfl Tryz.underlying58 Vm rfl (by decide) (by omega) u6 a7 a4 [.int .i64 a4] (fun _ => True) (fun _ => False) rfl rfl ?aP (fun _ hk => hk.elim) ?aF ?aO ?aB ?aS ?aL ?_; (case aP => exact rfl); (case aB => exact (by repeat (first | (with_reducible first | exact HB.out | apply Qc | apply Qb | apply Qd) | exact HB.out))); (case aF => exact (fun _ _ => trivial)); (case aO => exact (by (with_reducible repeat (first | apply Kd.R_alloc | apply Kd.R_drewN | apply Kd.R_drew)); exact a3.out)); (case aS => exact (Qh (by repeat (first | (with_reducible first | exact HB.out | apply Qc | apply Qb | apply Qd) | exact HB.out)))); (case aL => have := g0.out; omega); intro k8 w21 ho hb hg hat; rw [← g1.out] at ho; have n0_ := Qa.mk (Kd.R_over' (by (with_reducible repeat (first | apply Kd.R_alloc | apply Kd.R_drewN | apply Kd.R_drew)); exact a2.out) (Kd.R_typed (by (with_reducible repeat (first | apply Kd.R_alloc | apply Kd.R_drewN | apply Kd.R_drew)); exact a3.out)) (by decide) hg); have n1_ := Qa.mk (Kd.S_after (ok := (fun _ => True)) (by (with_reducible repeat (first | apply Kd.S_alloc | apply Kd.S_drewN | apply Kd.S_drew)); exact Kd.S_mono a1.out (fun _ hk => ⟨trivial, hk⟩)) hg hat); have n2_ := Qa.mk (hb); have n3_ := Qa.mk (ho); clear a2; clear a1; clear HB; clear a3; have a2 := n0_; have a1 := n1_; have HB := n2_; have g2 := n3_; clear n0_ n1_ n2_ n3_; clear ho hb hg hat)); try go_wp2_with (first | ((with_reducible refine Zj (b := .append) (xs := #[.tmp 58, .tmp 60]) rfl ?_); at_builtin; refine Kd.R_append (Kd.int .i64) (w0 := w) w.heap.size rfl (.tmp 58) (.tmp 60) 58 3 (.int .i64 0) 8 rfl Tryz.underlying58 Vm rfl (by decide) (by omega) u6 a7 a4 [.int .i64 a4] (fun _ => True) (fun _ => False) rfl rfl ?aP (fun _ hk => hk.elim) ?aF ?aO ?aB ?aS ?aL ?_; (case aP => exact rfl); (case aB => exact (by repeat (first | (with_reducible first | exact HB.out | apply Qc | apply Qb | apply Qd) | exact HB.out))); (case aF => exact (fun _ _ => trivial)); (case aO => exact (by (with_reducible repeat (first | apply Kd.R_alloc | apply Kd.R_drewN | apply Kd.R_drew)); exact a3.out)); (case aS => exact (Qh (by repeat (first | (with_reducible first | exact HB.out | apply Qc | apply Qb | apply Qd) | exact HB.out)))); (case aL => have := g0.out; omega); intro k8 w21 ho hb hg hat; rw [← g1.out] at ho; have n0_ := Qa.mk (Kd.R_over' (by (with_reducible repeat (first | apply Kd.R_alloc | apply Kd.R_drewN | apply Kd.R_drew)); exact a2.out) (Kd.R_typed (by (with_reducible repeat (first | apply Kd.R_alloc | apply Kd.R_drewN | apply Kd.R_drew)); exact a3.out)) (by decide) hg); have n1_ := Qa.mk (Kd.S_after (ok := (fun _ => True)) (by (with_reducible repeat (first | apply Kd.S_alloc | apply Kd.S_drewN | apply Kd.S_drew)); exact Kd.S_mono a1.out (fun _ hk => ⟨trivial, hk⟩)) hg hat); have n2_ := Qa.mk (hb); have n3_ := Qa.mk (ho); clear a2; clear a1; clear HB; clear a3; have a2 := n0_; have a1 := n1_; have HB := n2_; have g2 := n3_; clear n0_ n1_ n2_ n3_; clear ho hb hg hat)))
                    go_roundg k3
                    case measure => have := HK1.out; have := HK2.out; have := HK3.out; omega
                    case rel => exact ⟨(a6), (k7), (wrap64 (a5 + 1)), (by first | rfl | (simp; done) | (simp [*]; done)), H', ⟨by have := HK1.out; have := HK2.out; have := HK3.out; omega⟩, ⟨by (with_reducible repeat (first | apply Kd.R_alloc | apply Kd.R_drewN | apply Kd.R_drew)); exact a2.out⟩, ⟨by (with_reducible repeat (first | apply Kd.S_alloc | apply Kd.S_drewN | apply Kd.S_drew)); exact Kd.S_mono a1.out (fun _ hk => hk.2)⟩, ⟨by (with_reducible repeat (first | apply Kd.R_alloc | apply Kd.R_drewN | apply Kd.R_drew)); exact g2.out⟩, ⟨by repeat (first | (with_reducible first | exact HB.out | apply Qc | apply Qb | apply Qd) | exact HB.out)⟩⟩
                   ·rw [if_neg c19] at H
                    exact absurd H (by simp)
                 ·rw [if_neg c12] at H
                  have l9 : ((Zy ByteArray.empty a6 a4).toList == (Zy ByteArray.empty (Yj l0 a0) a5).toList) = false := beq_eq_false_iff_ne.mpr c12; have m0 : ((Zy ByteArray.empty a6 a4).toList != (Zy ByteArray.empty (Yj l0 a0) a5).toList) = true := bne_iff_ne.mpr c12; have H' := Qa.mk H; clear H; obtain ⟨p6, p7, eo22⟩ := Kd.R_slice a2.out; subst eo22; have b4 : 0 ≤ (a4 : Int) := of_decide_eq_true (by first | (with_reducible assumption) | assumption); have b5 : a4 < (a6.length : Int) := of_decide_eq_true (by first | (with_reducible assumption) | assumption); obtain ⟨d7, e9, f2⟩ := Kd.at_string (Kd.R_reads' a2.out).2.2 a4 b4 b5
                  cases e9; replace b4 := eq_true b4; replace b5 := eq_true b5; have b6 : 0 ≤ (a0 : Int) := of_decide_eq_true (by first | (with_reducible assumption) | assumption); have b7 : a0 < (l0.length : Int) := of_decide_eq_true (by first | (with_reducible assumption) | assumption); obtain ⟨d8, h5, h6, f0, a8, hl106_0, hi106_0⟩ := Qem HR0.out a0 b6 b7; obtain rfl : d3 = d8 := (by injection f0); replace a8 := (HB.out.cell (World.block_lt_of_cell? w _ a8)).trans a8; have d0 := Qa.mk hi106_0; have f3 := Qa.mk hl106_0; clear hi106_0 hl106_0; replace b6 := eq_true b6; replace b7 := eq_true b7; have b8 : 0 ≤ (a5 : Int) := of_decide_eq_true (by first | (with_reducible assumption) | assumption); have b9 : a5 < ((Yj l0 a0).length : Int) := of_decide_eq_true (by first | (with_reducible assumption) | assumption); obtain ⟨j3, f1, a9⟩ := Kd.at_string d0.out a5 b8 b9
                  cases f1; replace a9 := (HB.out.cell (World.block_lt_of_cell? w _ a9)).trans a9; replace b8 := eq_true b8; replace b9 := eq_true b9
                  go_wp2
                  repeat (go_quiet (fail); try go_wp2)
                  go_roundg k3
                  case measure => have := HK1.out; have := HK2.out; have := HK3.out; omega
                  case rel => exact ⟨(wrap64 (a4 + 1)), (by first | rfl | (simp; done) | (simp [*]; done)), H', ⟨by have := HK1.out; have := HK2.out; have := HK3.out; omega⟩, ⟨by (with_reducible repeat (first | apply Kd.R_alloc | apply Kd.R_drewN | apply Kd.R_drew)); exact a2.out⟩, ⟨by (with_reducible repeat (first | apply Kd.S_alloc | apply Kd.S_drewN | apply Kd.S_drew)); exact a1.out⟩, ⟨by (with_reducible repeat (first | apply Kd.R_alloc | apply Kd.R_drewN | apply Kd.R_drew)); exact a3.out⟩, ⟨by repeat (first | (with_reducible first | exact HB.out | apply Qc | apply Qb | apply Qd) | exact HB.out)⟩⟩
                ·rw [if_neg c11] at H
                 exact absurd H (by simp)
               ·rw [if_neg c10] at H
                exact absurd H (by simp)
              ·rw [if_neg c9] at H
               exact absurd H (by simp)
             ·rw [if_neg c8] at H
              exact absurd H (by simp)
            ·rw [if_neg c7] at H
             exact absurd H (by simp)
           ·rw [if_neg c6] at H
            have m9 : decide (a4 < (a6.length : Int)) = false := decide_eq_false c6; clear c6
            by_cases c23 : a4 = (a6.length : Int)
            ·rw [if_pos c23] at H
             have m4 : (a4 == (a6.length : Int)) = true := beq_iff_eq.mpr c23; have m5 : (a4 != (a6.length : Int)) = false := bne_eq_false_iff_eq.mpr c23; clear c23
             by_cases c24 : 0 ≤ a0
             ·rw [if_pos c24] at H
              have o3 : decide (0 ≤ a0) = true := decide_eq_true c24; clear c24
              by_cases c25 : a0 < (l0.length : Int)
              ·rw [if_pos c25] at H
               have o4 : decide (a0 < (l0.length : Int)) = true := decide_eq_true c25; clear c25
               by_cases c26 : 0 ≤ a5
               ·rw [if_pos c26] at H
                have o5 : decide (0 ≤ a5) = true := decide_eq_true c26; clear c26
                by_cases c27 : a5 < ((Yj l0 a0).length : Int)
                ·rw [if_pos c27] at H
                 have o6 : decide (a5 < ((Yj l0 a0).length : Int)) = true := decide_eq_true c27; clear c27
                 by_cases c28 : a6.length < 8796093022208
                 ·rw [if_pos c28] at H
                  have g3 := Qa.mk c28; clear c28; obtain ⟨i5, e0⟩ : ∃ y_ : List ByteArray, y_ = (a6 ++ [Zy ByteArray.empty (Yj l0 a0) a5]) := ⟨_, rfl⟩
                  replace H : (if a7.length < 17592186044416 then (Qf.l1 k3 l0 i5 b0 a0 (a7 ++ [a4]) (wrap64 (a5 + 1))) else (none)) = some r := by first | (rw [e0]; with_reducible exact H) | (have H2_ := (Option.bind_some _ _).symm.trans H; rw [e0]; with_reducible exact H2_) | (have H2_ := (Option.bind_some _ _).symm.trans H; with_reducible exact H2_) | with_reducible exact H | (rw [e0]; exact H) | exact H
                  have g4 := Qa.mk e0; clear e0
                  by_cases c29 : a7.length < 17592186044416
                  ·rw [if_pos c29] at H
                   have g5 := Qa.mk c29; clear c29; obtain ⟨k9, e1⟩ : ∃ y_ : List Int, y_ = (a7 ++ [a4]) := ⟨_, rfl⟩
                   replace H : (Qf.l1 k3 l0 i5 b0 a0 k9 (wrap64 (a5 + 1))) = some r := by first | (rw [e1]; with_reducible exact H) | (have H2_ := (Option.bind_some _ _).symm.trans H; rw [e1]; with_reducible exact H2_) | (have H2_ := (Option.bind_some _ _).symm.trans H; with_reducible exact H2_) | with_reducible exact H | (rw [e1]; exact H) | exact H
                   have g6 := Qa.mk e1; clear e1; have H' := Qa.mk H; clear H; obtain ⟨i6, i7, eo30⟩ := Kd.R_slice a2.out; subst eo30; have i8 : 0 ≤ (a0 : Int) := of_decide_eq_true (by first | (with_reducible assumption) | assumption); have i9 : a0 < (l0.length : Int) := of_decide_eq_true (by first | (with_reducible assumption) | assumption); obtain ⟨m6, n8, n9, n2, e5, hl119_0, hi119_0⟩ := Qem HR0.out a0 i8 i9; obtain rfl : d3 = m6 := (by injection n2); replace e5 := (HB.out.cell (World.block_lt_of_cell? w _ e5)).trans e5; have j7 := Qa.mk hi119_0; have n5 := Qa.mk hl119_0; clear hi119_0 hl119_0; replace i8 := eq_true i8; replace i9 := eq_true i9; have j0 : 0 ≤ (a5 : Int) := of_decide_eq_true (by first | (with_reducible assumption) | assumption); have j2 : a5 < ((Yj l0 a0).length : Int) := of_decide_eq_true (by first | (with_reducible assumption) | assumption); obtain ⟨o7, n3, e6⟩ := Kd.at_string j7.out a5 j0 j2
                   cases n3; replace e6 := (HB.out.cell (World.block_lt_of_cell? w _ e6)).trans e6; replace j0 := eq_true j0; replace j2 := eq_true j2; go_wp2_with (first | ((with_reducible refine Zj (b := .append) (xs := #[.tmp 48, .tmp 56]) rfl ?_); at_builtin; refine Kd.R_append Kd.string (w0 := w) w.heap.size rfl (.tmp 48) (.tmp 56) 46 9 (.string ⟨#[]⟩) 16 rfl Tryz.underlying46 Vy rfl (by decide) (by omega) (.slice i6 a6.length i7) a6 (Zy ByteArray.empty (Yj l0 a0) a5) [.string (Zy ByteArray.empty (Yj l0 a0) a5)] (fun _ => True) (fun _ => False) rfl rfl ?aP (fun _ hk => hk.elim) ?aF ?aO ?aB ?aS ?aL ?_; (case aP => exact rfl); (case aB => exact (by repeat (first | (with_reducible first | exact HB.out | apply Qc | apply Qb | apply Qd) | exact HB.out))); (case aF => exact (fun _ _ => trivial)); (case aO => exact (by (with_reducible repeat (first | apply Kd.R_alloc | apply Kd.R_drewN | apply Kd.R_drew)); exact a2.out)); (case aS => exact (Qh (by repeat (first | (with_reducible first | exact HB.out | apply Qc | apply Qb | apply Qd) | exact HB.out)))); (case aL => have := g3.out; omega); intro l3 w31 ho hb hg hat; rw [← g4.out] at ho; have n0_ := Qa.mk (Kd.S_over' (by (with_reducible repeat (first | apply Kd.S_alloc | apply Kd.S_drewN | apply Kd.S_drew)); exact a1.out) (Kd.R_typed (by (with_reducible repeat (first | apply Kd.R_alloc | apply Kd.R_drewN | apply Kd.R_drew)); exact a2.out)) (by decide) hg); have n1_ := Qa.mk (Kd.R_over' (by (with_reducible repeat (first | apply Kd.R_alloc | apply Kd.R_drewN | apply Kd.R_drew)); exact a3.out) (Kd.R_typed (by (with_reducible repeat (first | apply Kd.R_alloc | apply Kd.R_drewN | apply Kd.R_drew)); exact a2.out)) (by decide) hg); have n2_ := Qa.mk (hb); have n3_ := Qa.mk (ho); clear a1; clear a3; clear HB; clear a2; have a1 := n0_; have a3 := n1_; have HB := n2_; have b2 := n3_; clear n0_ n1_ n2_ n3_; clear ho hb hg hat) | ((with_reducible refine Zj (b := .append) (xs := #[.tmp 58, .tmp 60]) rfl ?_); at_builtin; refine Kd.R_append (Kd.int .i64) (w0 := w) w.heap.size rfl (.tmp 58) (.tmp 60) 58 3 (.int .i64 0) 8 rfl Tryz.underlying58 Vm rfl (by decide) (by omega) u6 a7 a4 [.int .i64 a4] (fun _ => True) (fun _ => False) rfl rfl ?aP (fun _ hk => hk.elim) ?aF ?aO ?aB ?aS ?aL ?_; (case aP => exact rfl); (case aB => exact (by repeat (first | (with_reducible first | exact HB.out | apply Qc | apply Qb | apply Qd) | exact HB.out))); (case aF => exact (fun _ _ => trivial)); (case aO => exact (by (with_reducible repeat (first | apply Kd.R_alloc | apply Kd.R_drewN | apply Kd.R_drew)); exact a3.out)); (case aS => exact (Qh (by repeat (first | (with_reducible first | exact HB.out | apply Qc | apply Qb | apply Qd) | exact HB.out)))); (case aL => have := g5.out; omega); intro l4 w32 ho hb hg hat; rw [← g6.out] at ho; have n0_ := Qa.mk (Kd.S_after (ok := (fun _ => True)) (by (with_reducible repeat (first | apply Kd.S_alloc | apply Kd.S_drewN | apply Kd.S_drew)); exact Kd.S_mono a1.out (fun _ hk => ⟨trivial, hk⟩)) hg hat); have n1_ := Qa.mk (Kd.R_over' (by (with_reducible repeat (first | apply Kd.R_alloc | apply Kd.R_drewN | apply Kd.R_drew)); exact b2.out) (Kd.R_typed (by (with_reducible repeat (first | apply Kd.R_alloc | apply Kd.R_drewN | apply Kd.R_drew)); exact a3.out)) (by decide) hg); have n2_ := Qa.mk (hb); have n3_ := Qa.mk (ho); clear a1; clear b2; clear HB; clear a3; have a1 := n0_; have b2 := n1_; have HB := n2_; have g7 := n3_; clear n0_ n1_ n2_ n3_; clear ho hb hg hat))
                   repeat (go_quiet (first | ((with_reducible refine Zj (b := .append) (xs := #[.tmp 48, .tmp 56]) rfl ?_); at_builtin; refine Kd.R_append Kd.string (w0 := w) w.heap.size rfl (.tmp 48) (.tmp 56) 46 9 (.string ⟨#[]⟩) 16 rfl Tryz.underlying46 Vy rfl (by decide) (by omega) (.slice i6 a6.length i7) a6 (Zy ByteArray.empty (Yj l0 a0) a5) [.string (Zy ByteArray.empty (Yj l0 a0) a5)] (fun _ => True) (fun _ => False) rfl rfl ?aP (fun _ hk => hk.elim) ?aF ?aO ?aB ?aS ?aL ?_; (case aP => exact rfl); (case aB => exact (by repeat (first | (with_reducible first | exact HB.out | apply Qc | apply Qb | apply Qd) | exact HB.out))); (case aF => exact (fun _ _ => trivial)); (case aO => exact (by (with_reducible repeat (first | apply Kd.R_alloc | apply Kd.R_drewN | apply Kd.R_drew)); exact a2.out)); (case aS => exact (Qh (by repeat (first | (with_reducible first | exact HB.out | apply Qc | apply Qb | apply Qd) | exact HB.out)))); (case aL => have := g3.out; omega); intro l3 w31 ho hb hg hat; rw [← g4.out] at ho; have n0_ := Qa.mk (Kd.S_over' (by (with_reducible repeat (first | apply Kd.S_alloc | apply Kd.S_drewN | apply Kd.S_drew)); exact a1.out) (Kd.R_typed (by (with_reducible repeat (first | apply Kd.R_alloc | apply Kd.R_drewN | apply Kd.R_drew)); exact a2.out)) (by decide) hg); have n1_ := Qa.mk (Kd.R_over' (by (with_reducible repeat (first | apply Kd.R_alloc | apply Kd.R_drewN | apply Kd.R_drew)); exact a3.out) (Kd.R_typed (by (with_reducible repeat (first | apply Kd.R_alloc | apply Kd.R_drewN | apply Kd.R_drew)); exact a2.out)) (by decide) hg); have n2_ := Qa.mk (hb); have n3_ := Qa.mk (ho); clear a1; clear a3; clear HB; clear a2; have a1 := n0_; have a3 := n1_; have HB := n2_; have b2 := n3_; clear n0_ n1_ n2_ n3_; clear ho hb hg hat) | ((with_reducible refine Zj (b := .append) (xs := #[.tmp 58, .tmp 60]) rfl ?_); at_builtin; refine Kd.R_append (Kd.int .i64) (w0 := w) w.heap.size rfl (.tmp 58) (.tmp 60) 58 3 (.int .i64 0) 8 rfl Tryz.underlying58 Vm rfl (by decide) (by omega) u6 a7 a4 [.int .i64 a4] (fun _ => True) (fun _ => False) rfl rfl ?aP (fun _ hk => hk.elim) ?aF ?aO ?aB ?aS ?aL ?_; (case aP => exact rfl); (case aB => exact (by repeat (first | (with_reducible first | exact HB.out | apply Qc | apply Qb | apply Qd) | exact HB.out))); (case aF => exact (fun _ _ => trivial)); (case aO => exact (by (with_reducible repeat (first | apply Kd.R_alloc | apply Kd.R_drewN | apply Kd.R_drew)); exact a3.out)); (case aS => exact (Qh (by repeat (first | (with_reducible first | exact HB.out | apply Qc | apply Qb | apply Qd) | exact HB.out)))); (case aL => have := g5.out; omega); intro l4 w32 ho hb hg hat; rw [← g6.out] at ho; have n0_ := Qa.mk (Kd.S_after (ok := (fun _ => True)) (by (with_reducible repeat (first | apply Kd.S_alloc | apply Kd.S_drewN | apply Kd.S_drew)); exact Kd.S_mono a1.out (fun _ hk => ⟨trivial, hk⟩)) hg hat); have n1_ := Qa.mk (Kd.R_over' (by (with_reducible repeat (first | apply Kd.R_alloc | apply Kd.R_drewN | apply Kd.R_drew)); exact b2.out) (Kd.R_typed (by (with_reducible repeat (first | apply Kd.R_alloc | apply Kd.R_drewN | apply Kd.R_drew)); exact a3.out)) (by decide) hg); have n2_ := Qa.mk (hb); have n3_ := Qa.mk (ho); clear a1; clear b2; clear HB; clear a3; have a1 := n0_; have b2 := n1_; have HB := n2_; have g7 := n3_; clear n0_ n1_ n2_ n3_; clear ho hb hg hat)); try go_wp2_with (first | ((with_reducible refine Zj (b := .append) (xs := #[.tmp 48, .tmp 56]) rfl ?_); at_builtin; refine Kd.R_append Kd.string (w0 := w) w.heap.size rfl (.tmp 48) (.tmp 56) 46 9 (.string ⟨#[]⟩) 16 rfl Tryz.underlying46 Vy rfl (by decide) (by omega) (.slice i6 a6.length i7) a6 (Zy ByteArray.empty (Yj l0 a0) a5) [.string (Zy ByteArray.empty (Yj l0 a0) a5)] (fun _ => True) (fun _ => False) rfl rfl ?aP (fun _ hk => hk.elim) ?aF ?aO ?aB ?aS ?aL ?_; (case aP => exact rfl); (case aB => exact (by repeat (first | (with_reducible first | exact HB.out | apply Qc | apply Qb | apply Qd) | exact HB.out))); (case aF => exact (fun _ _ => trivial)); (case aO => exact (by (with_reducible repeat (first | apply Kd.R_alloc | apply Kd.R_drewN | apply Kd.R_drew)); exact a2.out)); (case aS => exact (Qh (by repeat (first | (with_reducible first | exact HB.out | apply Qc | apply Qb | apply Qd) | exact HB.out)))); (case aL => have := g3.out; omega); intro l3 w31 ho hb hg hat; rw [← g4.out] at ho; have n0_ := Qa.mk (Kd.S_over' (by (with_reducible repeat (first | apply Kd.S_alloc | apply Kd.S_drewN | apply Kd.S_drew)); exact a1.out) (Kd.R_typed (by (with_reducible repeat (first | apply Kd.R_alloc | apply Kd.R_drewN | apply Kd.R_drew)); exact a2.out)) (by decide) hg); have n1_ := Qa.mk (Kd.R_over' (by (with_reducible repeat (first | apply Kd.R_alloc | apply Kd.R_drewN | apply Kd.R_drew)); exact a3.out) (Kd.R_typed (by (with_reducible repeat (first | apply Kd.R_alloc | apply Kd.R_drewN | apply Kd.R_drew)); exact a2.out)) (by decide) hg); have n2_ := Qa.mk (hb); have n3_ := Qa.mk (ho); clear a1; clear a3; clear HB; clear a2; have a1 := n0_; have a3 := n1_; have HB := n2_; have b2 := n3_; clear n0_ n1_ n2_ n3_; clear ho hb hg hat) | ((with_reducible refine Zj (b := .append) (xs := #[.tmp 58, .tmp 60]) rfl ?_); at_builtin; refine Kd.R_append (Kd.int .i64) (w0 := w) w.heap.size rfl (.tmp 58) (.tmp 60) 58 3 (.int .i64 0) 8 rfl Tryz.underlying58 Vm rfl (by decide) (by omega) u6 a7 a4 [.int .i64 a4] (fun _ => True) (fun _ => False) rfl rfl ?aP (fun _ hk => hk.elim) ?aF ?aO ?aB ?aS ?aL ?_; (case aP => exact rfl); (case aB => exact (by repeat (first | (with_reducible first | exact HB.out | apply Qc | apply Qb | apply Qd) | exact HB.out))); (case aF => exact (fun _ _ => trivial)); (case aO => exact (by (with_reducible repeat (first | apply Kd.R_alloc | apply Kd.R_drewN | apply Kd.R_drew)); exact a3.out)); (case aS => exact (Qh (by repeat (first | (with_reducible first | exact HB.out | apply Qc | apply Qb | apply Qd) | exact HB.out)))); (case aL => have := g5.out; omega); intro l4 w32 ho hb hg hat; rw [← g6.out] at ho; have n0_ := Qa.mk (Kd.S_after (ok := (fun _ => True)) (by (with_reducible repeat (first | apply Kd.S_alloc | apply Kd.S_drewN | apply Kd.S_drew)); exact Kd.S_mono a1.out (fun _ hk => ⟨trivial, hk⟩)) hg hat); have n1_ := Qa.mk (Kd.R_over' (by (with_reducible repeat (first | apply Kd.R_alloc | apply Kd.R_drewN | apply Kd.R_drew)); exact b2.out) (Kd.R_typed (by (with_reducible repeat (first | apply Kd.R_alloc | apply Kd.R_drewN | apply Kd.R_drew)); exact a3.out)) (by decide) hg); have n2_ := Qa.mk (hb); have n3_ := Qa.mk (ho); clear a1; clear b2; clear HB; clear a3; have a1 := n0_; have b2 := n1_; have HB := n2_; have g7 := n3_; clear n0_ n1_ n2_ n3_; clear ho hb hg hat)))
                   go_roundg k3
                   case measure => have := HK1.out; have := HK2.out; have := HK3.out; omega
                   case rel => exact ⟨(i5), (k9), (wrap64 (a5 + 1)), (by first | rfl | (simp; done) | (simp [*]; done)), H', ⟨by have := HK1.out; have := HK2.out; have := HK3.out; omega⟩, ⟨by (with_reducible repeat (first | apply Kd.R_alloc | apply Kd.R_drewN | apply Kd.R_drew)); exact b2.out⟩, ⟨by (with_reducible repeat (first | apply Kd.S_alloc | apply Kd.S_drewN | apply Kd.S_drew)); exact Kd.S_mono a1.out (fun _ hk => hk.2)⟩, ⟨by (with_reducible repeat (first | apply Kd.R_alloc | apply Kd.R_drewN | apply Kd.R_drew)); exact g7.out⟩, ⟨by repeat (first | (with_reducible first | exact HB.out | apply Qc | apply Qb | apply Qd) | exact HB.out)⟩⟩
                  ·rw [if_neg c29] at H
                   exact absurd H (by simp)
                 ·rw [if_neg c28] at H
                  exact absurd H (by simp)
                ·rw [if_neg c27] at H
                 exact absurd H (by simp)
               ·rw [if_neg c26] at H
                exact absurd H (by simp)
              ·rw [if_neg c25] at H
               exact absurd H (by simp)
             ·rw [if_neg c24] at H
              exact absurd H (by simp)
            ·rw [if_neg c23] at H
             have m4 : (a4 == (a6.length : Int)) = false := beq_eq_false_iff_ne.mpr c23; have m5 : (a4 != (a6.length : Int)) = true := bne_iff_ne.mpr c23
             by_cases c33 : a7.length < 17592186044416
             ·rw [if_pos c33] at H
              have g8 := Qa.mk c33; clear c33; obtain ⟨l5, e2⟩ : ∃ y_ : List Int, y_ = (a7 ++ [a4]) := ⟨_, rfl⟩
              replace H : (Qf.l1 k3 l0 a6 b0 a0 l5 (wrap64 (a5 + 1))) = some r := by first | (rw [e2]; with_reducible exact H) | (have H2_ := (Option.bind_some _ _).symm.trans H; rw [e2]; with_reducible exact H2_) | (have H2_ := (Option.bind_some _ _).symm.trans H; with_reducible exact H2_) | with_reducible exact H | (rw [e2]; exact H) | exact H
              have g9 := Qa.mk e2; clear e2; have H' := Qa.mk H; clear H; obtain ⟨p8, p9, eo34⟩ := Kd.R_slice a2.out; subst eo34; go_wp2_with (first | ((with_reducible refine Zj (b := .append) (xs := #[.tmp 58, .tmp 60]) rfl ?_); at_builtin; refine Kd.R_append (Kd.int .i64) (w0 := w) w.heap.size rfl (.tmp 58) (.tmp 60) 58 3 (.int .i64 0) 8 rfl Tryz.underlying58 Vm rfl (by decide) (by omega) u6 a7 a4 [.int .i64 a4] (fun _ => True) (fun _ => False) rfl rfl ?aP (fun _ hk => hk.elim) ?aF ?aO ?aB ?aS ?aL ?_; (case aP => exact rfl); (case aB => exact (by repeat (first | (with_reducible first | exact HB.out | apply Qc | apply Qb | apply Qd) | exact HB.out))); (case aF => exact (fun _ _ => trivial)); (case aO => exact (by (with_reducible repeat (first | apply Kd.R_alloc | apply Kd.R_drewN | apply Kd.R_drew)); exact a3.out)); (case aS => exact (Qh (by repeat (first | (with_reducible first | exact HB.out | apply Qc | apply Qb | apply Qd) | exact HB.out)))); (case aL => have := g8.out; omega); intro l6 w35 ho hb hg hat; rw [← g9.out] at ho; have n0_ := Qa.mk (Kd.R_over' (by (with_reducible repeat (first | apply Kd.R_alloc | apply Kd.R_drewN | apply Kd.R_drew)); exact a2.out) (Kd.R_typed (by (with_reducible repeat (first | apply Kd.R_alloc | apply Kd.R_drewN | apply Kd.R_drew)); exact a3.out)) (by decide) hg); have n1_ := Qa.mk (Kd.S_after (ok := (fun _ => True)) (by (with_reducible repeat (first | apply Kd.S_alloc | apply Kd.S_drewN | apply Kd.S_drew)); exact Kd.S_mono a1.out (fun _ hk => ⟨trivial, hk⟩)) hg hat); have n2_ := Qa.mk (hb); have n3_ := Qa.mk (ho); clear a2; clear a1; clear HB; clear a3; have a2 := n0_; have a1 := n1_; have HB := n2_; have h0 := n3_; clear n0_ n1_ n2_ n3_; clear ho hb hg hat))
              repeat (go_quiet (first | ((with_reducible refine Zj (b := .append) (xs := #[.tmp 58, .tmp 60]) rfl ?_); at_builtin; refine Kd.R_append (Kd.int .i64) (w0 := w) w.heap.size rfl (.tmp 58) (.tmp 60) 58 3 (.int .i64 0) 8 rfl Tryz.underlying58 Vm rfl (by decide) (by omega) u6 a7 a4 [.int .i64 a4] (fun _ => True) (fun _ => False) rfl rfl ?aP (fun _ hk => hk.elim) ?aF ?aO ?aB ?aS ?aL ?_; (case aP => exact rfl); (case aB => exact (by repeat (first | (with_reducible first | exact HB.out | apply Qc | apply Qb | apply Qd) | exact HB.out))); (case aF => exact (fun _ _ => trivial)); (case aO => exact (by (with_reducible repeat (first | apply Kd.R_alloc | apply Kd.R_drewN | apply Kd.R_drew)); exact a3.out)); (case aS => exact (Qh (by repeat (first | (with_reducible first | exact HB.out | apply Qc | apply Qb | apply Qd) | exact HB.out)))); (case aL => have := g8.out; omega); intro l6 w35 ho hb hg hat; rw [← g9.out] at ho; have n0_ := Qa.mk (Kd.R_over' (by (with_reducible repeat (first | apply Kd.R_alloc | apply Kd.R_drewN | apply Kd.R_drew)); exact a2.out) (Kd.R_typed (by (with_reducible repeat (first | apply Kd.R_alloc | apply Kd.R_drewN | apply Kd.R_drew)); exact a3.out)) (by decide) hg); have n1_ := Qa.mk (Kd.S_after (ok := (fun _ => True)) (by (with_reducible repeat (first | apply Kd.S_alloc | apply Kd.S_drewN | apply Kd.S_drew)); exact Kd.S_mono a1.out (fun _ hk => ⟨trivial, hk⟩)) hg hat); have n2_ := Qa.mk (hb); have n3_ := Qa.mk (ho); clear a2; clear a1; clear HB; clear a3; have a2 := n0_; have a1 := n1_; have HB := n2_; have h0 := n3_; clear n0_ n1_ n2_ n3_; clear ho hb hg hat)); try go_wp2_with (first | ((with_reducible refine Zj (b := .append) (xs := #[.tmp 58, .tmp 60]) rfl ?_); at_builtin; refine Kd.R_append (Kd.int .i64) (w0 := w) w.heap.size rfl (.tmp 58) (.tmp 60) 58 3 (.int .i64 0) 8 rfl Tryz.underlying58 Vm rfl (by decide) (by omega) u6 a7 a4 [.int .i64 a4] (fun _ => True) (fun _ => False) rfl rfl ?aP (fun _ hk => hk.elim) ?aF ?aO ?aB ?aS ?aL ?_; (case aP => exact rfl); (case aB => exact (by repeat (first | (with_reducible first | exact HB.out | apply Qc | apply Qb | apply Qd) | exact HB.out))); (case aF => exact (fun _ _ => trivial)); (case aO => exact (by (with_reducible repeat (first | apply Kd.R_alloc | apply Kd.R_drewN | apply Kd.R_drew)); exact a3.out)); (case aS => exact (Qh (by repeat (first | (with_reducible first | exact HB.out | apply Qc | apply Qb | apply Qd) | exact HB.out)))); (case aL => have := g8.out; omega); intro l6 w35 ho hb hg hat; rw [← g9.out] at ho; have n0_ := Qa.mk (Kd.R_over' (by (with_reducible repeat (first | apply Kd.R_alloc | apply Kd.R_drewN | apply Kd.R_drew)); exact a2.out) (Kd.R_typed (by (with_reducible repeat (first | apply Kd.R_alloc | apply Kd.R_drewN | apply Kd.R_drew)); exact a3.out)) (by decide) hg); have n1_ := Qa.mk (Kd.S_after (ok := (fun _ => True)) (by (with_reducible repeat (first | apply Kd.S_alloc | apply Kd.S_drewN | apply Kd.S_drew)); exact Kd.S_mono a1.out (fun _ hk => ⟨trivial, hk⟩)) hg hat); have n2_ := Qa.mk (hb); have n3_ := Qa.mk (ho); clear a2; clear a1; clear HB; clear a3; have a2 := n0_; have a1 := n1_; have HB := n2_; have h0 := n3_; clear n0_ n1_ n2_ n3_; clear ho hb hg hat)))
              go_roundg k3
              case measure => have := HK1.out; have := HK2.out; have := HK3.out; omega
              case rel => exact ⟨(a6), (l5), (wrap64 (a5 + 1)), (by first | rfl | (simp; done) | (simp [*]; done)), H', ⟨by have := HK1.out; have := HK2.out; have := HK3.out; omega⟩, ⟨by (with_reducible repeat (first | apply Kd.R_alloc | apply Kd.R_drewN | apply Kd.R_drew)); exact a2.out⟩, ⟨by (with_reducible repeat (first | apply Kd.S_alloc | apply Kd.S_drewN | apply Kd.S_drew)); exact Kd.S_mono a1.out (fun _ hk => hk.2)⟩, ⟨by (with_reducible repeat (first | apply Kd.R_alloc | apply Kd.R_drewN | apply Kd.R_drew)); exact h0.out⟩, ⟨by repeat (first | (with_reducible first | exact HB.out | apply Qc | apply Qb | apply Qd) | exact HB.out)⟩⟩
             ·rw [if_neg c33] at H
              exact absurd H (by simp)
        ·rw [if_neg c5] at H
         have j8 : decide (a5 < ((Yj l0 a0).length : Int)) = false := decide_eq_false c5; clear c5
         by_cases c36 : b0.length < 5864062014805
         ·rw [if_pos c36] at H
          have h2 := Qa.mk c36; clear c36; obtain ⟨l7, e3⟩ : ∃ y_ : List (List Int), y_ = (b0 ++ [a7]) := ⟨_, rfl⟩
          replace H : (Qf.l0 k2 l0 a6 l7 (wrap64 (a0 + 1))) = some r := by first | (rw [e3]; with_reducible exact H) | (have H2_ := (Option.bind_some _ _).symm.trans H; rw [e3]; with_reducible exact H2_) | (have H2_ := (Option.bind_some _ _).symm.trans H; with_reducible exact H2_) | with_reducible exact H | (rw [e3]; exact H) | exact H
          have h3 := Qa.mk e3; clear e3; have H' := Qa.mk H; clear H; have d1 : 0 ≤ (a0 : Int) := of_decide_eq_true (by first | (with_reducible assumption) | assumption); have d2 : a0 < (l0.length : Int) := of_decide_eq_true (by first | (with_reducible assumption) | assumption); obtain ⟨d3, j9, k0, h8, b3, hl101_0, hi101_0⟩ := Qem HR0.out a0 d1 d2
          cases h8; replace b3 := (HB.out.cell (World.block_lt_of_cell? w _ b3)).trans b3; have j4 := Qa.mk hi101_0; have j5 := Qa.mk hl101_0; clear hi101_0 hl101_0; replace d1 := eq_true d1; replace d2 := eq_true d2; obtain ⟨e7, e8, eo38⟩ := Kd.R_slice a3.out; subst eo38; go_wp2_with (first | ((with_reducible refine Zj (b := .append) (xs := #[.tmp 62, .tmp 64]) rfl ?_); at_builtin; refine Kd.S_append (Kd.slice 3 (Kd.int .i64)) (w0 := w) w.heap.size rfl (.tmp 62) (.tmp 64) 51 58 (.slice none 0 0) 24 rfl Tryz.underlying51 Qjs rfl (by decide) (by omega) u4 b0 a7 [.slice e7 a7.length e8] (fun _ => True) (fun k_ => some k_ = (.slice e7 a7.length e8 : Value).ownBlock) rfl rfl ?aP (fun k_ hk_ => ((Kd.R_mono (ok' := fun k_ => ((fun _ => True)) k_ ∧ some k_ ≠ (u4 : Value).ownBlock) (Kd.R_apart' (a3.out) (Kd.S_typed a1.out) (by decide)) (fun k_ hk => ⟨trivial, hk.2⟩))).1 k_ hk_.symm) ?aF ?aO ?aB ?aS ?aL ?_; (case aP => exact Kd.M_row (Kd.R_mono (Kd.R_tight rfl (Kd.R_mono (ok' := fun k_ => ((fun _ => True)) k_ ∧ some k_ ≠ (u4 : Value).ownBlock) (Kd.R_apart' (a3.out) (Kd.S_typed a1.out) (by decide)) (fun k_ hk => ⟨trivial, hk.2⟩))) (fun _ h_ => h_))); (case aB => exact (by repeat (first | (with_reducible first | exact HB.out | apply Qc | apply Qb | apply Qd) | exact HB.out))); (case aF => exact (fun _ _ => trivial)); (case aO => exact (by (with_reducible repeat (first | apply Kd.S_alloc | apply Kd.S_drewN | apply Kd.S_drew)); exact Kd.S_mono a1.out (fun k_ hk => ⟨trivial, fun e_ => hk e_⟩))); (case aS => exact (Qh (by repeat (first | (with_reducible first | exact HB.out | apply Qc | apply Qb | apply Qd) | exact HB.out)))); (case aL => have := h2.out; omega); intro l8 w37 ho hb hg hat; rw [← h3.out] at ho; have n0_ := Qa.mk (Kd.R_over' (by (with_reducible repeat (first | apply Kd.R_alloc | apply Kd.R_drewN | apply Kd.R_drew)); exact a2.out) (Kd.S_typed (by (with_reducible repeat (first | apply Kd.S_alloc | apply Kd.S_drewN | apply Kd.S_drew)); exact a1.out)) (by decide) hg); have n1_ := Qa.mk (hb); have n2_ := Qa.mk (ho); clear a2; clear HB; clear a1; clear a3; have a2 := n0_; have HB := n1_; have h4 := n2_; clear n0_ n1_ n2_; clear ho hb hg hat))
          repeat (go_quiet (first | ((with_reducible refine Zj (b := .append) (xs := #[.tmp 62, .tmp 64]) rfl ?_); at_builtin; refine Kd.S_append (Kd.slice 3 (Kd.int .i64)) (w0 := w) w.heap.size rfl (.tmp 62) (.tmp 64) 51 58 (.slice none 0 0) 24 rfl Tryz.underlying51 Qjs rfl (by decide) (by omega) u4 b0 a7 [.slice e7 a7.length e8] (fun _ => True) (fun k_ => some k_ = (.slice e7 a7.length e8 : Value).ownBlock) rfl rfl ?aP (fun k_ hk_ => ((Kd.R_mono (ok' := fun k_ => ((fun _ => True)) k_ ∧ some k_ ≠ (u4 : Value).ownBlock) (Kd.R_apart' (a3.out) (Kd.S_typed a1.out) (by decide)) (fun k_ hk => ⟨trivial, hk.2⟩))).1 k_ hk_.symm) ?aF ?aO ?aB ?aS ?aL ?_; (case aP => exact Kd.M_row (Kd.R_mono (Kd.R_tight rfl (Kd.R_mono (ok' := fun k_ => ((fun _ => True)) k_ ∧ some k_ ≠ (u4 : Value).ownBlock) (Kd.R_apart' (a3.out) (Kd.S_typed a1.out) (by decide)) (fun k_ hk => ⟨trivial, hk.2⟩))) (fun _ h_ => h_))); (case aB => exact (by repeat (first | (with_reducible first | exact HB.out | apply Qc | apply Qb | apply Qd) | exact HB.out))); (case aF => exact (fun _ _ => trivial)); (case aO => exact (by (with_reducible repeat (first | apply Kd.S_alloc | apply Kd.S_drewN | apply Kd.S_drew)); exact Kd.S_mono a1.out (fun k_ hk => ⟨trivial, fun e_ => hk e_⟩))); (case aS => exact (Qh (by repeat (first | (with_reducible first | exact HB.out | apply Qc | apply Qb | apply Qd) | exact HB.out)))); (case aL => have := h2.out; omega); intro l8 w37 ho hb hg hat; rw [← h3.out] at ho; have n0_ := Qa.mk (Kd.R_over' (by (with_reducible repeat (first | apply Kd.R_alloc | apply Kd.R_drewN | apply Kd.R_drew)); exact a2.out) (Kd.S_typed (by (with_reducible repeat (first | apply Kd.S_alloc | apply Kd.S_drewN | apply Kd.S_drew)); exact a1.out)) (by decide) hg); have n1_ := Qa.mk (hb); have n2_ := Qa.mk (ho); clear a2; clear HB; clear a1; clear a3; have a2 := n0_; have HB := n1_; have h4 := n2_; clear n0_ n1_ n2_; clear ho hb hg hat)); try go_wp2_with (first | ((with_reducible refine Zj (b := .append) (xs := #[.tmp 62, .tmp 64]) rfl ?_); at_builtin; refine Kd.S_append (Kd.slice 3 (Kd.int .i64)) (w0 := w) w.heap.size rfl (.tmp 62) (.tmp 64) 51 58 (.slice none 0 0) 24 rfl Tryz.underlying51 Qjs rfl (by decide) (by omega) u4 b0 a7 [.slice e7 a7.length e8] (fun _ => True) (fun k_ => some k_ = (.slice e7 a7.length e8 : Value).ownBlock) rfl rfl ?aP (fun k_ hk_ => ((Kd.R_mono (ok' := fun k_ => ((fun _ => True)) k_ ∧ some k_ ≠ (u4 : Value).ownBlock) (Kd.R_apart' (a3.out) (Kd.S_typed a1.out) (by decide)) (fun k_ hk => ⟨trivial, hk.2⟩))).1 k_ hk_.symm) ?aF ?aO ?aB ?aS ?aL ?_; (case aP => exact Kd.M_row (Kd.R_mono (Kd.R_tight rfl (Kd.R_mono (ok' := fun k_ => ((fun _ => True)) k_ ∧ some k_ ≠ (u4 : Value).ownBlock) (Kd.R_apart' (a3.out) (Kd.S_typed a1.out) (by decide)) (fun k_ hk => ⟨trivial, hk.2⟩))) (fun _ h_ => h_))); (case aB => exact (by repeat (first | (with_reducible first | exact HB.out | apply Qc | apply Qb | apply Qd) | exact HB.out))); (case aF => exact (fun _ _ => trivial)); (case aO => exact (by (with_reducible repeat (first | apply Kd.S_alloc | apply Kd.S_drewN | apply Kd.S_drew)); exact Kd.S_mono a1.out (fun k_ hk => ⟨trivial, fun e_ => hk e_⟩))); (case aS => exact (Qh (by repeat (first | (with_reducible first | exact HB.out | apply Qc | apply Qb | apply Qd) | exact HB.out)))); (case aL => have := h2.out; omega); intro l8 w37 ho hb hg hat; rw [← h3.out] at ho; have n0_ := Qa.mk (Kd.R_over' (by (with_reducible repeat (first | apply Kd.R_alloc | apply Kd.R_drewN | apply Kd.R_drew)); exact a2.out) (Kd.S_typed (by (with_reducible repeat (first | apply Kd.S_alloc | apply Kd.S_drewN | apply Kd.S_drew)); exact a1.out)) (by decide) hg); have n1_ := Qa.mk (hb); have n2_ := Qa.mk (ho); clear a2; clear HB; clear a1; clear a3; have a2 := n0_; have HB := n1_; have h4 := n2_; clear n0_ n1_ n2_; clear ho hb hg hat)))
          go_roundg k2
          case measure => have := HK1.out; have := HK2.out; omega
          case rel => exact ⟨(a6), (l7), (wrap64 (a0 + 1)), (by first | rfl | (simp; done) | (simp [*]; done)), H', ⟨by have := HK1.out; have := HK2.out; omega⟩, ⟨by (with_reducible repeat (first | apply Kd.R_alloc | apply Kd.R_drewN | apply Kd.R_drew)); exact a2.out⟩, ⟨by (with_reducible repeat (first | apply Kd.S_alloc | apply Kd.S_drewN | apply Kd.S_drew)); exact h4.out⟩, ⟨by repeat (first | (with_reducible first | exact HB.out | apply Qc | apply Qb | apply Qd) | exact HB.out)⟩⟩
         ·rw [if_neg c36] at H
          exact absurd H (by simp)
       ·rw [if_neg c4] at H
        exact absurd H (by simp)
      ·rw [if_neg c3] at H
       exact absurd H (by simp)
   ·rw [if_neg c2] at H
    have h7 : decide (a0 < (l0.length : Int)) = false := decide_eq_false c2; clear c2; obtain rfl := Option.some.inj H
    go_wp2
    repeat (go_quiet (fail); try go_wp2)
    go_ret; exact ⟨_, by first | rfl | (simp [Qz, Za] <;> rfl) | (simp [*, Qz, Za] <;> rfl), by (with_reducible repeat (first | apply Kd.S_alloc | apply Kd.S_drewN | apply Kd.S_drew)); exact a1.out, by repeat (first | (with_reducible first | exact HB.out | apply Qc | apply Qb | apply Qd) | exact HB.out)⟩
def Xj.f (l0 : List (S48)) (a1 : Int) (a2 : ByteArray) : Option ((List (S48))) := (some (([] : List (S48)) : List (S48))).bind fun a8 => (if a8.length + l0.length < 4398046511104 then ((some (a8 ++ l0 : List (S48))).bind fun a0 => (if (l0.length : Int) > 0 then (if 0 ≤ (wrap64 ((l0.length : Int) - 1)) then (if (wrap64 ((l0.length : Int) - 1)) < (l0.length : Int) then (if ((Qt l0 (wrap64 ((l0.length : Int) - 1))).f0) = a1 then ((some (([] : List ByteArray) : List ByteArray)).bind fun a5 => (if a5.length + ((Qt l0 (wrap64 ((l0.length : Int) - 1))).f1).length < 8796093022208 then ((some (a5 ++ ((Qt l0 (wrap64 ((l0.length : Int) - 1))).f1) : List ByteArray)).bind fun a4 => (if a4.length < 8796093022208 then (if (wrap64 ((l0.length : Int) - 1)) < (a0.length : Int) then (some (a0.set ((wrap64 ((l0.length : Int) - 1)) : Int).toNat (⟨a1, (a4 ++ [a2])⟩ : S48))) else (none)) else (none))) else (none))) else (if a0.length < 4398046511104 then (some (a0 ++ [(⟨a1, (([a2] : List ByteArray))⟩ : S48)])) else (none))) else (none)) else (none)) else (if a0.length < 4398046511104 then (some (a0 ++ [(⟨a1, (([a2] : List ByteArray))⟩ : S48)])) else (none)))) else (none))
set_option maxHeartbeats 8000000 in
set_option maxRecDepth 100000 in
theorem Xj.calls (P0_ : Nat → Prop) (A0 : Option Addr) (c0 : Nat) (l0 : List (S48)) (a1 : Int) (a2 : ByteArray) (r : List (S48)) (w : World) (hs0 : Kd.V k48 48 w w.heap.size (fun k_ => P0_ k_) (.slice A0 l0.length c0) l0) (h : Xj.f l0 a1 a2 = some r) :
  Calls Tryz.prog 29 #[.slice A0 l0.length c0, .int .i64 a1, .string a2] w fun e w' => ∃ v0_ : Value, e = .returned (v0_) ∧ Kd.N k48 48 w' w.heap.size (fun k_ => (P0_ k_ ∨ w.heap.size ≤ k_)) v0_ r ∧ Below w.heap.size w w' := by
 have hu48 := Tryz.underlying48; have HO0 := Qa.mk (show Kd.V k48 48 w w.heap.size (fun k_ => (P0_ k_ ∨ w.heap.size ≤ k_)) (.slice A0 l0.length c0) l0 from Kd.V_mono hs0 (fun k_ hk => .inl hk)); have HB := Qa.mk (Below.refl w.heap.size w); have H : ((some (([] : List (S48)) : List (S48))).bind fun a8 => (if a8.length + l0.length < 4398046511104 then ((some (a8 ++ l0 : List (S48))).bind fun a0 => (if (l0.length : Int) > 0 then (if 0 ≤ (wrap64 ((l0.length : Int) - 1)) then (if (wrap64 ((l0.length : Int) - 1)) < (l0.length : Int) then (if ((Qt l0 (wrap64 ((l0.length : Int) - 1))).f0) = a1 then ((some (([] : List ByteArray) : List ByteArray)).bind fun a5 => (if a5.length + ((Qt l0 (wrap64 ((l0.length : Int) - 1))).f1).length < 8796093022208 then ((some (a5 ++ ((Qt l0 (wrap64 ((l0.length : Int) - 1))).f1) : List ByteArray)).bind fun a4 => (if a4.length < 8796093022208 then (if (wrap64 ((l0.length : Int) - 1)) < (a0.length : Int) then (some (a0.set ((wrap64 ((l0.length : Int) - 1)) : Int).toNat (⟨a1, (a4 ++ [a2])⟩ : S48))) else (none)) else (none))) else (none))) else (if a0.length < 4398046511104 then (some (a0 ++ [(⟨a1, (([a2] : List ByteArray))⟩ : S48)])) else (none))) else (none)) else (none)) else (if a0.length < 4398046511104 then (some (a0 ++ [(⟨a1, (([a2] : List ByteArray))⟩ : S48)])) else (none)))) else (none))) = some r := h; clear h; obtain ⟨a8, b7⟩ : ∃ y_ : List (S48), y_ = (([] : List (S48))) := ⟨_, rfl⟩
 replace H : (if a8.length + l0.length < 4398046511104 then ((some (a8 ++ l0 : List (S48))).bind fun a0 => (if (l0.length : Int) > 0 then (if 0 ≤ (wrap64 ((l0.length : Int) - 1)) then (if (wrap64 ((l0.length : Int) - 1)) < (l0.length : Int) then (if ((Qt l0 (wrap64 ((l0.length : Int) - 1))).f0) = a1 then ((some (([] : List ByteArray) : List ByteArray)).bind fun a5 => (if a5.length + ((Qt l0 (wrap64 ((l0.length : Int) - 1))).f1).length < 8796093022208 then ((some (a5 ++ ((Qt l0 (wrap64 ((l0.length : Int) - 1))).f1) : List ByteArray)).bind fun a4 => (if a4.length < 8796093022208 then (if (wrap64 ((l0.length : Int) - 1)) < (a0.length : Int) then (some (a0.set ((wrap64 ((l0.length : Int) - 1)) : Int).toNat (⟨a1, (a4 ++ [a2])⟩ : S48))) else (none)) else (none))) else (none))) else (if a0.length < 4398046511104 then (some (a0 ++ [(⟨a1, (([a2] : List ByteArray))⟩ : S48)])) else (none))) else (none)) else (none)) else (if a0.length < 4398046511104 then (some (a0 ++ [(⟨a1, (([a2] : List ByteArray))⟩ : S48)])) else (none)))) else (none)) = some r := by first | (rw [b7]; with_reducible exact H) | (have H2_ := (Option.bind_some _ _).symm.trans H; rw [b7]; with_reducible exact H2_) | (have H2_ := (Option.bind_some _ _).symm.trans H; with_reducible exact H2_) | with_reducible exact H | (rw [b7]; exact H) | exact H
 have b5 := Qa.mk b7; clear b7
 by_cases c4 : a8.length + l0.length < 4398046511104
 ·rw [if_pos c4] at H
  have e8 := Qa.mk c4; clear c4; obtain ⟨a0, b8⟩ : ∃ y_ : List (S48), y_ = (a8 ++ l0) := ⟨_, rfl⟩
  replace H : (if (l0.length : Int) > 0 then (if 0 ≤ (wrap64 ((l0.length : Int) - 1)) then (if (wrap64 ((l0.length : Int) - 1)) < (l0.length : Int) then (if ((Qt l0 (wrap64 ((l0.length : Int) - 1))).f0) = a1 then ((some (([] : List ByteArray) : List ByteArray)).bind fun a5 => (if a5.length + ((Qt l0 (wrap64 ((l0.length : Int) - 1))).f1).length < 8796093022208 then ((some (a5 ++ ((Qt l0 (wrap64 ((l0.length : Int) - 1))).f1) : List ByteArray)).bind fun a4 => (if a4.length < 8796093022208 then (if (wrap64 ((l0.length : Int) - 1)) < (a0.length : Int) then (some (a0.set ((wrap64 ((l0.length : Int) - 1)) : Int).toNat (⟨a1, (a4 ++ [a2])⟩ : S48))) else (none)) else (none))) else (none))) else (if a0.length < 4398046511104 then (some (a0 ++ [(⟨a1, (([a2] : List ByteArray))⟩ : S48)])) else (none))) else (none)) else (none)) else (if a0.length < 4398046511104 then (some (a0 ++ [(⟨a1, (([a2] : List ByteArray))⟩ : S48)])) else (none))) = some r := by first | (rw [b8]; with_reducible exact H) | (have H2_ := (Option.bind_some _ _).symm.trans H; rw [b8]; with_reducible exact H2_) | (have H2_ := (Option.bind_some _ _).symm.trans H; with_reducible exact H2_) | with_reducible exact H | (rw [b8]; exact H) | exact H
  have e5 := Qa.mk b8; clear b8
  by_cases c5 : (l0.length : Int) > 0
  ·rw [if_pos c5] at H
   have i4 : decide (0 < (l0.length : Int)) = true := decide_eq_true c5; have i5 : decide (0 < l0.length) = true := decide_eq_true (by omega); clear c5; obtain ⟨ji6, e1⟩ : ∃ j_ : Int, (wrap64 ((l0.length : Int) - 1)) = j_ := ⟨_, rfl⟩
   replace H : (if 0 ≤ (ji6) then (if (ji6) < (l0.length : Int) then (if ((Qt l0 (ji6)).f0) = a1 then ((some (([] : List ByteArray) : List ByteArray)).bind fun a5 => (if a5.length + ((Qt l0 (ji6)).f1).length < 8796093022208 then ((some (a5 ++ ((Qt l0 (ji6)).f1) : List ByteArray)).bind fun a4 => (if a4.length < 8796093022208 then (if (ji6) < (a0.length : Int) then (some (a0.set ((ji6) : Int).toNat (⟨a1, (a4 ++ [a2])⟩ : S48))) else (none)) else (none))) else (none))) else (if a0.length < 4398046511104 then (some (a0 ++ [(⟨a1, (([a2] : List ByteArray))⟩ : S48)])) else (none))) else (none)) else (none)) = some r := by first | (rw [e1] at H; exact H) | (simp only [e1] at H ⊢; exact H)
   have k0 : (IntKind.i64.wrap ((l0.length : Int) - 1)) = ji6 := (Qp _).trans e1
   by_cases c7 : 0 ≤ (ji6)
   ·rw [if_pos c7] at H
    have k2 : decide (0 ≤ (ji6)) = true := decide_eq_true c7; clear c7
    by_cases c8 : (ji6) < (l0.length : Int)
    ·rw [if_pos c8] at H
     have k4 : decide ((ji6) < (l0.length : Int)) = true := decide_eq_true c8; clear c8
     by_cases c9 : ((Qt l0 (ji6)).f0) = a1
     ·rw [if_pos c9] at H
      have i6 : (((Qt l0 (ji6)).f0) == a1) = true := beq_iff_eq.mpr c9; have i7 : (((Qt l0 (ji6)).f0) != a1) = false := bne_eq_false_iff_eq.mpr c9; clear c9; obtain ⟨a5, b9⟩ : ∃ y_ : List ByteArray, y_ = (([] : List ByteArray)) := ⟨_, rfl⟩
      replace H : (if a5.length + ((Qt l0 (ji6)).f1).length < 8796093022208 then ((some (a5 ++ ((Qt l0 (ji6)).f1) : List ByteArray)).bind fun a4 => (if a4.length < 8796093022208 then (if (ji6) < (a0.length : Int) then (some (a0.set ((ji6) : Int).toNat (⟨a1, (a4 ++ [a2])⟩ : S48))) else (none)) else (none))) else (none)) = some r := by first | (rw [b9]; with_reducible exact H) | (have H2_ := (Option.bind_some _ _).symm.trans H; rw [b9]; with_reducible exact H2_) | (have H2_ := (Option.bind_some _ _).symm.trans H; with_reducible exact H2_) | with_reducible exact H | (rw [b9]; exact H) | exact H
      have f4 := Qa.mk b9; clear b9
      by_cases c10 : a5.length + ((Qt l0 (ji6)).f1).length < 8796093022208
      ·rw [if_pos c10] at H
       have h2 := Qa.mk c10; clear c10; obtain ⟨a4, c1⟩ : ∃ y_ : List ByteArray, y_ = (a5 ++ ((Qt l0 (ji6)).f1)) := ⟨_, rfl⟩
       replace H : (if a4.length < 8796093022208 then (if (ji6) < (a0.length : Int) then (some (a0.set ((ji6) : Int).toNat (⟨a1, (a4 ++ [a2])⟩ : S48))) else (none)) else (none)) = some r := by first | (rw [c1]; with_reducible exact H) | (have H2_ := (Option.bind_some _ _).symm.trans H; rw [c1]; with_reducible exact H2_) | (have H2_ := (Option.bind_some _ _).symm.trans H; with_reducible exact H2_) | with_reducible exact H | (rw [c1]; exact H) | exact H
       have h3 := Qa.mk c1; clear c1
       by_cases c11 : a4.length < 8796093022208
       ·rw [if_pos c11] at H
        have h4 := Qa.mk c11; clear c11; obtain ⟨b1, d0⟩ : ∃ y_ : List ByteArray, y_ = (a4 ++ [a2]) := ⟨_, rfl⟩
        replace H : (if (ji6) < (a0.length : Int) then (some (a0.set ((ji6) : Int).toNat (⟨a1, b1⟩ : S48))) else (none)) = some r := by first | (rw [d0]; with_reducible exact H) | (have H2_ := (Option.bind_some _ _).symm.trans H; rw [d0]; with_reducible exact H2_) | (have H2_ := (Option.bind_some _ _).symm.trans H; with_reducible exact H2_) | with_reducible exact H | (rw [d0]; exact H) | exact H
        have h5 := Qa.mk d0; clear d0
        by_cases c12 : (ji6) < (a0.length : Int)
        ·rw [if_pos c12] at H
         have k1 : decide ((ji6) < (a0.length : Int)) = true := decide_eq_true c12; clear c12; obtain ⟨g3, d1⟩ : ∃ y_ : List (S48), y_ = (a0.set ((ji6) : Int).toNat (⟨a1, b1⟩ : S48)) := ⟨_, rfl⟩
         replace H : (some g3) = some r := by first | (rw [d1]; with_reducible exact H) | (have H2_ := (Option.bind_some _ _).symm.trans H; rw [d1]; with_reducible exact H2_) | (have H2_ := (Option.bind_some _ _).symm.trans H; with_reducible exact H2_) | with_reducible exact H | (rw [d1]; exact H) | exact H
         have h6 := Qa.mk d1; clear d1; obtain rfl := Option.some.inj H
         go_enter Tryz.func29, Tryz.ntmps29
         go_wp2_with (first | ((with_reducible refine Zs (N := 11) rfl ?_); refine Kd.N_lit k48 _ 48 ?hg (N' := 11) ?hd (xs := ([] : List (S48))) (inner := []) (ok := (fun k_ => (P0_ k_ ∨ w.heap.size ≤ k_))) (okp := (fun k_ => (P0_ k_ ∨ w.heap.size ≤ k_))) ?hr ?hp (fun _ hk => hk) ((show ∀ k_, w.heap.size ≤ k_ → (fun k_ => (P0_ k_ ∨ w.heap.size ≤ k_)) k_ from fun k_ hk => (.inr (Nat.le_trans (Qh (by repeat (first | (with_reducible first | exact HB.out | apply Qc | apply Qb | apply Qd) | exact HB.out))) hk))) _ (Nat.le_refl _)) (Below.refl _ _) (Nat.le_refl _) (by simp) ?_; (case hd => rfl); (case hg => rfl); (case hr => first | (go_simp; done) | (go_simp; rfl)); (case hp => exact (Zz.none _ _)); intro a9 w14 ho15 hb hg_ hnew_; clear hg_ hnew_; (first | rw [← b5.out] at ho15 | (simp only [Int.reduceToNat] at ho15; rw [← b5.out] at ho15)); have n0_ := Qa.mk (Kd.V_elder' (by (with_reducible repeat (first | apply Kd.V_alloc | apply Kd.V_drewN | apply Kd.V_drew)); exact HO0.out) (Kd.N_base ho15) hb); have n1_ := Qa.mk (Kd.N_lower ho15 (Qh (by repeat (first | (with_reducible first | exact HB.out | apply Qc | apply Qb | apply Qd) | exact HB.out)))); have n2_ := Qa.mk (Qk (by repeat (first | (with_reducible first | exact HB.out | apply Qc | apply Qb | apply Qd) | exact HB.out)) hb); clear HO0; clear HB; have HO0 := n0_; have b0 := n1_; have HB := n2_; clear n0_ n1_ n2_; clear hb ho15) | ((with_reducible refine Zj (b := .append) (xs := #[.tmp 11, .tmp 12]) rfl ?_); at_builtin; refine Kd.N_append_rows k48 (w0 := w) w.heap.size rfl (.tmp 11) (.tmp 12) 28 48 (.agg #[(.int .i64 0), (.slice none 0 0)]) 32 rfl Tryz.underlying28 Qak rfl (by decide) (by omega) a9 a8 l0 _ _ _ (fun k_ => (P0_ k_ ∨ w.heap.size ≤ k_)) (fun k_ => ((fun k_ => (P0_ k_ ∨ w.heap.size ≤ k_))) k_ ∧ some k_ ≠ (a9 : Value).ownBlock) rfl rfl ?aO ?aR (fun _ hk => hk) ?aF ?aB ?aS ?aL ?_; (case aR => exact (by skip; exact Kd.V_F (Kd.V_mono (ok' := (fun k_ => ((fun k_ => (P0_ k_ ∨ w.heap.size ≤ k_))) k_ ∧ some k_ ≠ (a9 : Value).ownBlock)) (HO0.out) (fun k_ hk => ⟨hk.1, hk.2⟩)))); (case aB => exact (by repeat (first | (with_reducible first | exact HB.out | apply Qc | apply Qb | apply Qd) | exact HB.out))); (case aF => exact (fun k_ hk => (.inr (Nat.le_trans (Qh (by repeat (first | (with_reducible first | exact HB.out | apply Qc | apply Qb | apply Qd) | exact HB.out))) hk)))); (case aO => exact (by (with_reducible repeat (first | apply Kd.N_alloc | apply Kd.N_drewN | apply Kd.N_drew)); exact b0.out)); (case aS => exact (Qh (by repeat (first | (with_reducible first | exact HB.out | apply Qc | apply Qb | apply Qd) | exact HB.out)))); (case aL => have := e8.out; omega); intro a7 w16 ho hb hg hat; rw [← e5.out] at ho; have n0_ := Qa.mk (Kd.V_afterv (ok := (fun k_ => (P0_ k_ ∨ w.heap.size ≤ k_))) (by (with_reducible repeat (first | apply Kd.V_alloc | apply Kd.V_drewN | apply Kd.V_drew)); exact HO0.out) hg hat); have n1_ := Qa.mk (hb); have n2_ := Qa.mk (ho); clear HO0; clear HB; clear b0; have HO0 := n0_; have HB := n1_; have a3 := n2_; clear n0_ n1_ n2_; clear ho hb hg hat; have b2 : 0 ≤ ((ji6) : Int) := of_decide_eq_true (by first | (with_reducible assumption) | assumption); have b3 : (ji6) < (l0.length : Int) := of_decide_eq_true (by first | (with_reducible assumption) | assumption); obtain ⟨f5, g4, g5, e9, g0, d6, hl107_1, hi107_1⟩ := Vs (Kd.V_reads' HO0.out).2.2 (ji6) b2 b3; cases e9; obtain ⟨ce107, hce107, hMe107, hcc107⟩ := Kd.V_get HO0.out z48 (ji6) b2 (by first | exact b3 | exact of_decide_eq_true (by first | (with_reducible assumption) | assumption) | (have e_ := (Kd.V_reads' HO0.out).1; omega)); obtain ⟨ua107_1, uc107_1, rfl, ul107_1, ge107_1⟩ := Yh hMe107; have hv107_1 := hcc107 1 _ rfl; rw [Xf _ _ 1 (by omega)] at hv107_1; replace hv107_1 := Option.some.inj (hv107_1.symm.trans d6); injection hv107_1 with hva_ hvn_ hvc_; rw [hva_] at ge107_1; rw [hvc_] at ul107_1; have HL107_1 := Qa.mk (show Kd.V Kd.string 9 _ w.heap.size _ _ ((Qt l0 (ji6)).f1) from Kd.V_mk ul107_1 ge107_1); clear hva_ hvn_ hvc_ ge107_1 ul107_1; clear hcc107 hce107; have a6 := Qa.mk hi107_1; have g1 := Qa.mk hl107_1; clear hi107_1 hl107_1; replace b2 := eq_true b2; replace b3 := eq_true b3) | ((with_reducible refine Zs (N := 30) rfl ?_); refine Kd.R_lit Kd.string _ 9 ?hg (N := 30) ?hd (xs := ([] : List ByteArray)) (inner := []) (ok := fun _ => True) (okp := fun _ => True) ?hr ?hp (fun _ hk => hk) trivial (Below.refl _ _) (Nat.le_refl _) (by simp) ?_; (case hd => rfl); (case hg => rfl); (case hr => first | (go_simp; done) | (go_simp; rfl)); (case hp => exact (Zz.none _ _)); intro i8 w17 ho18 hb hg_ hnew_; clear hg_ hnew_; (first | rw [← f4.out] at ho18 | (simp only [Int.reduceToNat] at ho18; rw [← f4.out] at ho18)); have n0_ := Qa.mk (Kd.V_elder' (by (with_reducible repeat (first | apply Kd.V_alloc | apply Kd.V_drewN | apply Kd.V_drew)); exact HO0.out) (Kd.R_base ho18) hb); have n1_ := Qa.mk (Kd.N_elder' (by (with_reducible repeat (first | apply Kd.N_alloc | apply Kd.N_drewN | apply Kd.N_drew)); exact a3.out) (Kd.R_base ho18) hb); have n2_ := Qa.mk (Kd.V_elder' (by (with_reducible repeat (first | apply Kd.V_alloc | apply Kd.V_drewN | apply Kd.V_drew)); exact HL107_1.out) (Kd.R_base ho18) hb); have n3_ := Qa.mk (Kd.R_lower (Kd.R_newM (M := fun k_ => (w.heap.size ≤ k_)) ho18 (Qh (by repeat (first | (with_reducible first | exact HB.out | apply Qc | apply Qb | apply Qd) | exact HB.out))) (fun k_ h_ => h_)) (Qh (by repeat (first | (with_reducible first | exact HB.out | apply Qc | apply Qb | apply Qd) | exact HB.out)))); have n4_ := Qa.mk (Kd.C_below (by repeat (first | (with_reducible exact a6.out) | (with_reducible refine Kd.C_alloc ?_ _) | (with_reducible refine Kd.C_drewN ?_ _) | (with_reducible refine Kd.C_drew ?_) | exact a6.out)) hb); have n5_ := Qa.mk (Qk (by repeat (first | (with_reducible first | exact HB.out | apply Qc | apply Qb | apply Qd) | exact HB.out)) hb); clear HO0; clear a3; clear HL107_1; clear a6; clear HB; have HO0 := n0_; have a3 := n1_; have HL107_1 := n2_; have f6 := n3_; have a6 := n4_; have HB := n5_; clear n0_ n1_ n2_ n3_ n4_ n5_; clear hb ho18; have e6 : 0 ≤ ((ji6) : Int) := of_decide_eq_true (by first | (with_reducible assumption) | assumption); have e7 : (ji6) < (l0.length : Int) := of_decide_eq_true (by first | (with_reducible assumption) | assumption); obtain ⟨h7, j6, j7, i9, j4, g2, hl111_1, hi111_1⟩ := Vs (Kd.V_reads' HO0.out).2.2 (ji6) e6 e7; obtain rfl : f5 = h7 := (by injection i9); obtain ⟨ce111, hce111, hMe111, hcc111⟩ := Kd.V_get HO0.out z48 (ji6) e6 (by first | exact e7 | exact of_decide_eq_true (by first | (with_reducible assumption) | assumption) | (have e_ := (Kd.V_reads' HO0.out).1; omega)); obtain ⟨ua111_1, uc111_1, rfl, ul111_1, ge111_1⟩ := Yh hMe111; have hv111_1 := hcc111 1 _ rfl; rw [Xf _ _ 1 (by omega)] at hv111_1; replace hv111_1 := Option.some.inj (hv111_1.symm.trans g2); injection hv111_1 with hva_ hvn_ hvc_; rw [hva_] at ge111_1; rw [hvc_] at ul111_1; have HL111_1 := Qa.mk (show Kd.V Kd.string 9 _ w.heap.size _ _ ((Qt l0 (ji6)).f1) from Kd.V_mk ul111_1 ge111_1); clear hva_ hvn_ hvc_ ge111_1 ul111_1; clear hcc111 hce111; have e4 := Qa.mk hi111_1; have j5 := Qa.mk hl111_1; clear hi111_1 hl111_1; replace e6 := eq_true e6; replace e7 := eq_true e7) | ((with_reducible refine Zj (b := .append) (xs := #[.tmp 30, .tmp 36]) rfl ?_); at_builtin; refine Kd.R_append_rows Kd.string (w0 := w) w.heap.size rfl (.tmp 30) (.tmp 36) 46 9 (.string ⟨#[]⟩) 16 rfl Tryz.underlying46 Vy rfl (by decide) (by omega) i8 a5 ((Qt l0 (ji6)).f1) _ _ _ (fun k_ => (w.heap.size ≤ k_)) (fun _ => False) rfl rfl ?aO ?aR (fun _ _ h => h) (fun _ h => h.elim) ?aF ?aB ?aS ?aL ?_; (case aR => repeat (first | exact (by repeat (first | (with_reducible exact e4.out) | (with_reducible refine Kd.C_alloc ?_ _) | (with_reducible refine Kd.C_drewN ?_ _) | (with_reducible refine Kd.C_drew ?_) | exact e4.out)) | (with_reducible refine Kd.C_alloc ?_ _) | (with_reducible refine Kd.C_drewN ?_ _) | (with_reducible refine Kd.C_drew ?_))); (case aB => exact (by repeat (first | (with_reducible first | exact HB.out | apply Qc | apply Qb | apply Qd) | exact HB.out))); (case aF => exact (fun k_ hk => (Nat.le_trans (Qh (by repeat (first | (with_reducible first | exact HB.out | apply Qc | apply Qb | apply Qd) | exact HB.out))) hk))); (case aO => exact (by (with_reducible repeat (first | apply Kd.R_alloc | apply Kd.R_drewN | apply Kd.R_drew)); exact Kd.R_mono f6.out (fun _ hk => hk.1))); (case aS => exact (Qh (by repeat (first | (with_reducible first | exact HB.out | apply Qc | apply Qb | apply Qd) | exact HB.out)))); (case aL => have := h2.out; omega); intro j0 w19 ho hb hg hat; rw [← h3.out] at ho; have n0_ := Qa.mk (Kd.V_afterv (ok := (fun k_ => (P0_ k_ ∨ w.heap.size ≤ k_) ∧ some k_ ≠ (a7 : Value).ownBlock)) (by (with_reducible repeat (first | apply Kd.V_alloc | apply Kd.V_drewN | apply Kd.V_drew)); exact HO0.out) hg hat); have n1_ := Qa.mk (Kd.N_afterv (ok := (fun k_ => (P0_ k_ ∨ w.heap.size ≤ k_))) (by (with_reducible repeat (first | apply Kd.N_alloc | apply Kd.N_drewN | apply Kd.N_drew)); exact a3.out) hg hat); have n2_ := Qa.mk (Kd.V_afterv (ok := (fun k_ => (P0_ k_ ∨ w.heap.size ≤ k_) ∧ some k_ ≠ (a7 : Value).ownBlock)) (by (with_reducible repeat (first | apply Kd.V_alloc | apply Kd.V_drewN | apply Kd.V_drew)); exact HL107_1.out) hg hat); have n3_ := Qa.mk (Kd.V_afterv (ok := (fun k_ => (P0_ k_ ∨ w.heap.size ≤ k_) ∧ some k_ ≠ (a7 : Value).ownBlock)) (by (with_reducible repeat (first | apply Kd.V_alloc | apply Kd.V_drewN | apply Kd.V_drew)); exact HL111_1.out) hg hat); have n4_ := Qa.mk (hb); have n5_ := Qa.mk (ho); clear HO0; clear a3; clear HL107_1; clear HL111_1; clear HB; clear f6; have HO0 := n0_; have a3 := n1_; have HL107_1 := n2_; have HL111_1 := n3_; have HB := n4_; have f7 := n5_; clear n0_ n1_ n2_ n3_ n4_ n5_; clear ho hb hg hat) | ((with_reducible refine Zj (b := .append) (xs := #[.tmp 37, .tmp 39]) rfl ?_); at_builtin; refine Kd.R_append Kd.string (w0 := w) w.heap.size rfl (.tmp 37) (.tmp 39) 46 9 (.string ⟨#[]⟩) 16 rfl Tryz.underlying46 Vy rfl (by decide) (by omega) j0 a4 a2 [.string a2] (fun k_ => (w.heap.size ≤ k_)) (fun _ => False) rfl rfl ?aP (fun _ hk => hk.elim) ?aF ?aO ?aB ?aS ?aL ?_; (case aP => exact rfl); (case aB => exact (by repeat (first | (with_reducible first | exact HB.out | apply Qc | apply Qb | apply Qd) | exact HB.out))); (case aF => exact (fun k_ hk => (Nat.le_trans (Qh (by repeat (first | (with_reducible first | exact HB.out | apply Qc | apply Qb | apply Qd) | exact HB.out))) hk))); (case aO => exact (by (with_reducible repeat (first | apply Kd.R_alloc | apply Kd.R_drewN | apply Kd.R_drew)); exact f7.out)); (case aS => exact (Qh (by repeat (first | (with_reducible first | exact HB.out | apply Qc | apply Qb | apply Qd) | exact HB.out)))); (case aL => have := h4.out; omega); intro k5 w20 ho hb hg hat; rw [← h5.out] at ho; have n0_ := Qa.mk (Kd.V_afterv (ok := (fun k_ => (P0_ k_ ∨ w.heap.size ≤ k_) ∧ some k_ ≠ (a7 : Value).ownBlock)) (by (with_reducible repeat (first | apply Kd.V_alloc | apply Kd.V_drewN | apply Kd.V_drew)); exact HO0.out) hg hat); have n1_ := Qa.mk (Kd.N_afterv (ok := (fun k_ => (P0_ k_ ∨ w.heap.size ≤ k_))) (by (with_reducible repeat (first | apply Kd.N_alloc | apply Kd.N_drewN | apply Kd.N_drew)); exact a3.out) hg hat); have n2_ := Qa.mk (Kd.V_afterv (ok := (fun k_ => (P0_ k_ ∨ w.heap.size ≤ k_) ∧ some k_ ≠ (a7 : Value).ownBlock)) (by (with_reducible repeat (first | apply Kd.V_alloc | apply Kd.V_drewN | apply Kd.V_drew)); exact HL107_1.out) hg hat); have n3_ := Qa.mk (Kd.V_afterv (ok := (fun k_ => (P0_ k_ ∨ w.heap.size ≤ k_) ∧ some k_ ≠ (a7 : Value).ownBlock)) (by (with_reducible repeat (first | apply Kd.V_alloc | apply Kd.V_drewN | apply Kd.V_drew)); exact HL111_1.out) hg hat); have n4_ := Qa.mk (hb); have n5_ := Qa.mk (ho); clear HO0; clear a3; clear HL107_1; clear HL111_1; clear HB; clear f7; have HO0 := n0_; have a3 := n1_; have HL107_1 := n2_; have HL111_1 := n3_; have HB := n4_; have d8 := n5_; clear n0_ n1_ n2_ n3_ n4_ n5_; clear ho hb hg hat; obtain ⟨e2, e3, eo21⟩ := Kd.R_slice d8.out; subst eo21; have p13 : 0 ≤ ((ji6) : Int) := of_decide_eq_true (by first | (with_reducible assumption) | assumption); have q13 : ((ji6) : Int) < ((a0.length : Int) : Int) := of_decide_eq_true (by first | (with_reducible assumption) | assumption); obtain ⟨go13, b4, eo13, g6, gl13, cl13, HG13⟩ := Kd.N_form a3.out (by omega); (first | cases eo13 | (injection eo13 with ea_ en_ ec_; (first | subst ea_ | (injection ea_ with ea_; subst ea_)); subst ec_; clear en_)); have GB13 := Qa.mk g6; have GG13 := Qa.mk HG13; clear g6 gl13 HG13; obtain ⟨ce13, hcl13, hM13, hcc13, hfr13⟩ := Kd.N_elem a3.out z48 ((ji6) : Int) p13 q13; obtain ⟨ua13_1, uc13_1, rfl, ul13_1, ge13_1⟩ := Yh hM13; have j8 : w20.cell? ⟨go13, ((ji6) : Int).toNat * 2, none⟩ = some (.int .i64 ((Qt a0 (ji6)).f0)) := hcc13 0 _ rfl; have j9 : w20.cell? ⟨go13, ((ji6) : Int).toNat * 2 + 1, none⟩ = some (.slice ua13_1 ((Qt a0 (ji6)).f1).length uc13_1) := hcc13 1 _ rfl; have hf13_0 : w20.frozen? ⟨go13, ((ji6) : Int).toNat * 2, none⟩ = false := hfr13 0; have hf13_1 : w20.frozen? ⟨go13, ((ji6) : Int).toNat * 2 + 1, none⟩ = false := hfr13 1; clear hcl13 hcc13 hfr13 hM13; replace p13 := eq_true p13; replace q13 := eq_true q13; have HX22 := Qa.mk (show Kd.N k48 48 w20 w.heap.size (fun k_ => (P0_ k_ ∨ w.heap.size ≤ k_)) (.slice (some ⟨go13, 0, none⟩) a0.length b4) a0 from (by (with_reducible repeat (first | apply Kd.N_alloc | apply Kd.N_drewN | apply Kd.N_drew)); exact Kd.N_mono a3.out (fun _ hk => hk.1))); obtain ⟨ce22, hcl22, hM22, hcc22, hfr22⟩ := Kd.N_elem HX22.out z48 ((ji6) : Int) (of_decide_eq_true (by first | (with_reducible assumption) | assumption)) (by have h_ : ((ji6) : Int) < ((a0.length : Int) : Int) := of_decide_eq_true (by first | (with_reducible assumption) | assumption); first | exact h_ | (have e_ := (Kd.N_reads' a3.out).1; omega) | simpa using h_); obtain ⟨ua22_1, uc22_1, rfl, ul22_1, ge22_1⟩ := Yh hM22; have HP22 := Kd.N_seg HX22.out ((ji6) : Int) (of_decide_eq_true (by first | (with_reducible assumption) | assumption)) (by have h_ : ((ji6) : Int) < ((a0.length : Int) : Int) := of_decide_eq_true (by first | (with_reducible assumption) | assumption); first | exact h_ | (have e_ := (Kd.N_reads' a3.out).1; omega) | simpa using h_) (seg := [.int .i64 a1, .slice e2 b1.length e3]) (j := 0) hcl22 hcc22 (show 2 ≤ 2 from by decide) (x' := (⟨a1, b1⟩ : S48)) (Jg _ _ (⟨a1, b1⟩ : S48) (Kd.R_reads' (Kd.R_mono (ok' := (fun k_ => ((fun k_ => (P0_ k_ ∨ w.heap.size ≤ k_))) k_ ∧ k_ ≠ go13)) (Kd.R_apart' (d8.out) (Kd.N_typed a3.out) (by decide)) (fun k_ hk => ⟨(.inr (hk.1)), fun e_ => (hk.2) (by rw [e_]; rfl)⟩))).2.1 (Kd.R_F (Kd.R_mono (ok' := (fun k_ => ((fun k_ => (P0_ k_ ∨ w.heap.size ≤ k_))) k_ ∧ k_ ≠ go13)) (Kd.R_apart' (d8.out) (Kd.N_typed a3.out) (by decide)) (fun k_ hk => ⟨(.inr (hk.1)), fun e_ => (hk.2) (by rw [e_]; rfl)⟩)))) (fun _ hk => hk); have g7 := hcc22 0 _ rfl; (try simp only [show (k48).sz = 2 from rfl, Nat.mul_one, Nat.add_zero] at g7); have hf22_0 := hfr22 0; (try simp only [show (k48).sz = 2 from rfl, Nat.mul_one, Nat.add_zero] at hf22_0); have g8 := hcc22 1 _ rfl; (try simp only [show (k48).sz = 2 from rfl, Nat.mul_one, Nat.add_zero] at g8); have hf22_1 := hfr22 1; (try simp only [show (k48).sz = 2 from rfl, Nat.mul_one, Nat.add_zero] at hf22_1); clear hcl22 hcc22 hfr22 hM22) | ((with_reducible refine Kw (t := 48) (p := 42) rfl ?_); refine Kj (t := 48) (p := 42) (v := ?vo_w23) (w1 := ((w20.setCell ⟨go13, ((ji6) : Int).toNat * 2, none⟩ (.int .i64 a1)).setCell ⟨go13, ((ji6) : Int).toNat * 2 + 1, none⟩ (.slice e2 b1.length e3))) ?hg ?ho ?hn ?hr ?_; (case ho => rfl); (case hg => rfl); (case hn => rfl); (case hr => first | (go_simp; done) | (go_simp; rfl)); intro w23 hw; have hg : w20.grownBy w23 (some go13) := (by rw [hw]; exact HP22.2); have hp_ : Kd.N k48 48 w23 w.heap.size (fun k_ => (P0_ k_ ∨ w.heap.size ≤ k_)) (.slice (some ⟨go13, 0, none⟩) a0.length b4) g3 := (by rw [hw, h6.out]; exact HP22.1); clear HP22; have n0_ := Qa.mk (Kd.V_afterv (v := (.slice (some ⟨go13, 0, none⟩) a0.length b4)) (v1 := (.slice (some ⟨go13, 0, none⟩) a0.length b4)) (ok := (fun k_ => (P0_ k_ ∨ w.heap.size ≤ k_) ∧ some k_ ≠ (.slice e2 b1.length e3 : Value).ownBlock)) (by (with_reducible repeat (first | apply Kd.V_alloc | apply Kd.V_drewN | apply Kd.V_drew)); exact Kd.V_mono HO0.out (fun _ hk => ⟨⟨hk.1.1, hk.2⟩, hk.1.2⟩)) hg (.inl rfl)); have n1_ := Qa.mk (hp_); have n2_ := Qa.mk (Kd.V_afterv (v := (.slice (some ⟨go13, 0, none⟩) a0.length b4)) (v1 := (.slice (some ⟨go13, 0, none⟩) a0.length b4)) (ok := (fun k_ => (P0_ k_ ∨ w.heap.size ≤ k_) ∧ some k_ ≠ (.slice e2 b1.length e3 : Value).ownBlock)) (by (with_reducible repeat (first | apply Kd.V_alloc | apply Kd.V_drewN | apply Kd.V_drew)); exact Kd.V_mono HL107_1.out (fun _ hk => ⟨⟨hk.1.1, hk.2⟩, hk.1.2⟩)) hg (.inl rfl)); have n3_ := Qa.mk (Kd.V_afterv (v := (.slice (some ⟨go13, 0, none⟩) a0.length b4)) (v1 := (.slice (some ⟨go13, 0, none⟩) a0.length b4)) (ok := (fun k_ => (P0_ k_ ∨ w.heap.size ≤ k_) ∧ some k_ ≠ (.slice e2 b1.length e3 : Value).ownBlock)) (by (with_reducible repeat (first | apply Kd.V_alloc | apply Kd.V_drewN | apply Kd.V_drew)); exact Kd.V_mono HL111_1.out (fun _ hk => ⟨⟨hk.1.1, hk.2⟩, hk.1.2⟩)) hg (.inl rfl)); have n4_ := Qa.mk ((by rw [hw]; exact Qu (Qu (HB.out) GB13.out) GB13.out : Below w.heap.size w w23)); clear HO0; clear a3; clear HL107_1; clear HL111_1; clear HB; clear d8; have HO0 := n0_; have a3 := n1_; have HL107_1 := n2_; have HL111_1 := n3_; have HB := n4_; clear n0_ n1_ n2_ n3_ n4_; clear hg hw hp_)); go_ret; exact ⟨_, by first | rfl | (simp [Qz, Za] <;> rfl) | (simp only [← e1]; first | rfl | (simp [Qz, Za] <;> rfl)) | (simp [*, Qz, Za] <;> rfl), by (with_reducible repeat (first | apply Kd.N_alloc | apply Kd.N_drewN | apply Kd.N_drew)); exact a3.out, by repeat (first | (with_reducible first | exact HB.out | apply Qc | apply Qb | apply Qd) | exact HB.out)⟩
        ·rw [if_neg c12] at H
         exact absurd H (by simp)
       ·rw [if_neg c11] at H
        exact absurd H (by simp)
      ·rw [if_neg c10] at H
       exact absurd H (by simp)
     ·rw [if_neg c9] at H
      have i6 : (((Qt l0 (ji6)).f0) == a1) = false := beq_eq_false_iff_ne.mpr c9; have i7 : (((Qt l0 (ji6)).f0) != a1) = true := bne_iff_ne.mpr c9; obtain ⟨b6, d2⟩ : ∃ y_ : List ByteArray, y_ = (([a2] : List ByteArray)) := ⟨_, rfl⟩
      replace H : (if a0.length < 4398046511104 then (some (a0 ++ [(⟨a1, b6⟩ : S48)])) else (none)) = some r := by first | (rw [d2]; with_reducible exact H) | (have H2_ := (Option.bind_some _ _).symm.trans H; rw [d2]; with_reducible exact H2_) | (have H2_ := (Option.bind_some _ _).symm.trans H; with_reducible exact H2_) | with_reducible exact H | (rw [d2]; exact H) | exact H
      have f8 := Qa.mk d2; clear d2
      by_cases c24 : a0.length < 4398046511104
      ·rw [if_pos c24] at H
       have h8 := Qa.mk c24; clear c24; obtain ⟨j2, d3⟩ : ∃ y_ : List (S48), y_ = (a0 ++ [(⟨a1, b6⟩ : S48)]) := ⟨_, rfl⟩
       replace H : (some j2) = some r := by first | (rw [d3]; with_reducible exact H) | (have H2_ := (Option.bind_some _ _).symm.trans H; rw [d3]; with_reducible exact H2_) | (have H2_ := (Option.bind_some _ _).symm.trans H; with_reducible exact H2_) | with_reducible exact H | (rw [d3]; exact H) | exact H
       have h9 := Qa.mk d3; clear d3; obtain rfl := Option.some.inj H
       go_enter Tryz.func29, Tryz.ntmps29
       go_wp2_with (first | ((with_reducible refine Zs (N := 11) rfl ?_); refine Kd.N_lit k48 _ 48 ?hg (N' := 11) ?hd (xs := ([] : List (S48))) (inner := []) (ok := (fun k_ => (P0_ k_ ∨ w.heap.size ≤ k_))) (okp := (fun k_ => (P0_ k_ ∨ w.heap.size ≤ k_))) ?hr ?hp (fun _ hk => hk) ((show ∀ k_, w.heap.size ≤ k_ → (fun k_ => (P0_ k_ ∨ w.heap.size ≤ k_)) k_ from fun k_ hk => (.inr (Nat.le_trans (Qh (by repeat (first | (with_reducible first | exact HB.out | apply Qc | apply Qb | apply Qd) | exact HB.out))) hk))) _ (Nat.le_refl _)) (Below.refl _ _) (Nat.le_refl _) (by simp) ?_; (case hd => rfl); (case hg => rfl); (case hr => first | (go_simp; done) | (go_simp; rfl)); (case hp => exact (Zz.none _ _)); intro a9 w25 ho26 hb hg_ hnew_; clear hg_ hnew_; (first | rw [← b5.out] at ho26 | (simp only [Int.reduceToNat] at ho26; rw [← b5.out] at ho26)); have n0_ := Qa.mk (Kd.V_elder' (by (with_reducible repeat (first | apply Kd.V_alloc | apply Kd.V_drewN | apply Kd.V_drew)); exact HO0.out) (Kd.N_base ho26) hb); have n1_ := Qa.mk (Kd.N_lower ho26 (Qh (by repeat (first | (with_reducible first | exact HB.out | apply Qc | apply Qb | apply Qd) | exact HB.out)))); have n2_ := Qa.mk (Qk (by repeat (first | (with_reducible first | exact HB.out | apply Qc | apply Qb | apply Qd) | exact HB.out)) hb); clear HO0; clear HB; have HO0 := n0_; have b0 := n1_; have HB := n2_; clear n0_ n1_ n2_; clear hb ho26) | ((with_reducible refine Zj (b := .append) (xs := #[.tmp 11, .tmp 12]) rfl ?_); at_builtin; refine Kd.N_append_rows k48 (w0 := w) w.heap.size rfl (.tmp 11) (.tmp 12) 28 48 (.agg #[(.int .i64 0), (.slice none 0 0)]) 32 rfl Tryz.underlying28 Qak rfl (by decide) (by omega) a9 a8 l0 _ _ _ (fun k_ => (P0_ k_ ∨ w.heap.size ≤ k_)) (fun k_ => ((fun k_ => (P0_ k_ ∨ w.heap.size ≤ k_))) k_ ∧ some k_ ≠ (a9 : Value).ownBlock) rfl rfl ?aO ?aR (fun _ hk => hk) ?aF ?aB ?aS ?aL ?_; (case aR => exact (by skip; exact Kd.V_F (Kd.V_mono (ok' := (fun k_ => ((fun k_ => (P0_ k_ ∨ w.heap.size ≤ k_))) k_ ∧ some k_ ≠ (a9 : Value).ownBlock)) (HO0.out) (fun k_ hk => ⟨hk.1, hk.2⟩)))); (case aB => exact (by repeat (first | (with_reducible first | exact HB.out | apply Qc | apply Qb | apply Qd) | exact HB.out))); (case aF => exact (fun k_ hk => (.inr (Nat.le_trans (Qh (by repeat (first | (with_reducible first | exact HB.out | apply Qc | apply Qb | apply Qd) | exact HB.out))) hk)))); (case aO => exact (by (with_reducible repeat (first | apply Kd.N_alloc | apply Kd.N_drewN | apply Kd.N_drew)); exact b0.out)); (case aS => exact (Qh (by repeat (first | (with_reducible first | exact HB.out | apply Qc | apply Qb | apply Qd) | exact HB.out)))); (case aL => have := e8.out; omega); intro a7 w27 ho hb hg hat; rw [← e5.out] at ho; have n0_ := Qa.mk (Kd.V_afterv (ok := (fun k_ => (P0_ k_ ∨ w.heap.size ≤ k_))) (by (with_reducible repeat (first | apply Kd.V_alloc | apply Kd.V_drewN | apply Kd.V_drew)); exact HO0.out) hg hat); have n1_ := Qa.mk (hb); have n2_ := Qa.mk (ho); clear HO0; clear HB; clear b0; have HO0 := n0_; have HB := n1_; have a3 := n2_; clear n0_ n1_ n2_; clear ho hb hg hat; have b2 : 0 ≤ ((ji6) : Int) := of_decide_eq_true (by first | (with_reducible assumption) | assumption); have b3 : (ji6) < (l0.length : Int) := of_decide_eq_true (by first | (with_reducible assumption) | assumption); obtain ⟨f5, g4, g5, e9, g0, d6, hl107_1, hi107_1⟩ := Vs (Kd.V_reads' HO0.out).2.2 (ji6) b2 b3; cases e9; obtain ⟨ce107, hce107, hMe107, hcc107⟩ := Kd.V_get HO0.out z48 (ji6) b2 (by first | exact b3 | exact of_decide_eq_true (by first | (with_reducible assumption) | assumption) | (have e_ := (Kd.V_reads' HO0.out).1; omega)); obtain ⟨ua107_1, uc107_1, rfl, ul107_1, ge107_1⟩ := Yh hMe107; have hv107_1 := hcc107 1 _ rfl; rw [Xf _ _ 1 (by omega)] at hv107_1; replace hv107_1 := Option.some.inj (hv107_1.symm.trans d6); injection hv107_1 with hva_ hvn_ hvc_; rw [hva_] at ge107_1; rw [hvc_] at ul107_1; have HL107_1 := Qa.mk (show Kd.V Kd.string 9 _ w.heap.size _ _ ((Qt l0 (ji6)).f1) from Kd.V_mk ul107_1 ge107_1); clear hva_ hvn_ hvc_ ge107_1 ul107_1; clear hcc107 hce107; have a6 := Qa.mk hi107_1; have g1 := Qa.mk hl107_1; clear hi107_1 hl107_1; replace b2 := eq_true b2; replace b3 := eq_true b3) | ((with_reducible refine Zs (N := 47) rfl ?_); refine Kd.R_lit Kd.string _ 9 ?hg (N := 47) ?hd (xs := ([a2] : List ByteArray)) (inner := [.string a2]) (ok := fun _ => True) (okp := fun _ => True) ?hr ?hp (fun _ hk => hk) trivial (Below.refl _ _) (Nat.le_refl _) (by simp) ?_; (case hd => rfl); (case hg => rfl); (case hr => first | (go_simp; done) | (go_simp; rfl)); (case hp => exact (Zz.one (show Kd.M Kd.string _ _ _ a2 [.string a2] from rfl) (Zz.none _ _))); intro k6 w28 ho29 hb hg_ hnew_; clear hg_ hnew_; (first | rw [← f8.out] at ho29 | (simp only [Int.reduceToNat] at ho29; rw [← f8.out] at ho29)); have n0_ := Qa.mk (Kd.V_elder' (by (with_reducible repeat (first | apply Kd.V_alloc | apply Kd.V_drewN | apply Kd.V_drew)); exact HO0.out) (Kd.R_base ho29) hb); have n1_ := Qa.mk (Kd.N_elder' (by (with_reducible repeat (first | apply Kd.N_alloc | apply Kd.N_drewN | apply Kd.N_drew)); exact a3.out) (Kd.R_base ho29) hb); have n2_ := Qa.mk (Kd.V_elder' (by (with_reducible repeat (first | apply Kd.V_alloc | apply Kd.V_drewN | apply Kd.V_drew)); exact HL107_1.out) (Kd.R_base ho29) hb); have n3_ := Qa.mk (Kd.R_lower (Kd.R_newM (M := fun k_ => (w.heap.size ≤ k_)) ho29 (Qh (by repeat (first | (with_reducible first | exact HB.out | apply Qc | apply Qb | apply Qd) | exact HB.out))) (fun k_ h_ => h_)) (Qh (by repeat (first | (with_reducible first | exact HB.out | apply Qc | apply Qb | apply Qd) | exact HB.out)))); have n4_ := Qa.mk (Kd.C_below (by repeat (first | (with_reducible exact a6.out) | (with_reducible refine Kd.C_alloc ?_ _) | (with_reducible refine Kd.C_drewN ?_ _) | (with_reducible refine Kd.C_drew ?_) | exact a6.out)) hb); have n5_ := Qa.mk (Qk (by repeat (first | (with_reducible first | exact HB.out | apply Qc | apply Qb | apply Qd) | exact HB.out)) hb); clear HO0; clear a3; clear HL107_1; clear a6; clear HB; have HO0 := n0_; have a3 := n1_; have HL107_1 := n2_; have d9 := n3_; have a6 := n4_; have HB := n5_; clear n0_ n1_ n2_ n3_ n4_ n5_; clear hb ho29; obtain ⟨f2, f3, eo30⟩ := Kd.R_slice d9.out; subst eo30) | ((with_reducible refine Zj (b := .append) (xs := #[.tmp 44, .tmp 49]) rfl ?_); at_builtin; refine Kd.N_append k48 (w0 := w) w.heap.size rfl (.tmp 44) (.tmp 49) 28 48 (.agg #[(.int .i64 0), (.slice none 0 0)]) 32 rfl Tryz.underlying28 Qak rfl (by decide) (by omega) a7 a0 (⟨a1, b6⟩ : S48) [.int .i64 a1, .slice f2 b6.length f3] (fun k_ => (P0_ k_ ∨ w.heap.size ≤ k_)) (fun k_ => ((fun k_ => (P0_ k_ ∨ w.heap.size ≤ k_))) k_ ∧ some k_ ≠ (a7 : Value).ownBlock) rfl rfl ?aP (fun _ hk => hk) ?aF ?aO ?aB ?aS ?aL ?_; (case aP => exact (Jg _ _ (⟨a1, b6⟩ : S48) (Kd.R_reads' (Kd.R_mono (ok' := (fun k_ => ((fun k_ => (P0_ k_ ∨ w.heap.size ≤ k_))) k_ ∧ some k_ ≠ (a7 : Value).ownBlock)) (Kd.R_apart' (d9.out) (Kd.N_typed a3.out) (by decide)) (fun k_ hk => ⟨(.inr (hk.1.1)), hk.2⟩))).2.1 (Kd.R_F (Kd.R_mono (ok' := (fun k_ => ((fun k_ => (P0_ k_ ∨ w.heap.size ≤ k_))) k_ ∧ some k_ ≠ (a7 : Value).ownBlock)) (Kd.R_apart' (d9.out) (Kd.N_typed a3.out) (by decide)) (fun k_ hk => ⟨(.inr (hk.1.1)), hk.2⟩))))); (case aB => exact (by repeat (first | (with_reducible first | exact HB.out | apply Qc | apply Qb | apply Qd) | exact HB.out))); (case aF => exact (fun k_ hk => (.inr (Nat.le_trans (Qh (by repeat (first | (with_reducible first | exact HB.out | apply Qc | apply Qb | apply Qd) | exact HB.out))) hk)))); (case aO => exact (by (with_reducible repeat (first | apply Kd.N_alloc | apply Kd.N_drewN | apply Kd.N_drew)); exact Kd.N_mono a3.out (fun _ hk => hk.1))); (case aS => exact (Qh (by repeat (first | (with_reducible first | exact HB.out | apply Qc | apply Qb | apply Qd) | exact HB.out)))); (case aL => have := h8.out; omega); intro k7 w31 ho hb hg hat; rw [← h9.out] at ho; have n0_ := Qa.mk (Kd.V_afterv (ok := (fun k_ => (P0_ k_ ∨ w.heap.size ≤ k_) ∧ some k_ ≠ (.slice f2 b6.length f3 : Value).ownBlock)) (by (with_reducible repeat (first | apply Kd.V_alloc | apply Kd.V_drewN | apply Kd.V_drew)); exact Kd.V_mono HO0.out (fun _ hk => ⟨⟨hk.1.1, hk.2⟩, hk.1.2⟩)) hg hat); have n1_ := Qa.mk (Kd.V_afterv (ok := (fun k_ => (P0_ k_ ∨ w.heap.size ≤ k_) ∧ some k_ ≠ (.slice f2 b6.length f3 : Value).ownBlock)) (by (with_reducible repeat (first | apply Kd.V_alloc | apply Kd.V_drewN | apply Kd.V_drew)); exact Kd.V_mono HL107_1.out (fun _ hk => ⟨⟨hk.1.1, hk.2⟩, hk.1.2⟩)) hg hat); have n2_ := Qa.mk (hb); have n3_ := Qa.mk (ho); clear HO0; clear HL107_1; clear HB; clear a3; clear d9; have HO0 := n0_; have HL107_1 := n1_; have HB := n2_; have i0 := n3_; clear n0_ n1_ n2_ n3_; clear ho hb hg hat)); go_ret; exact ⟨_, by first | rfl | (simp [Qz, Za] <;> rfl) | (simp only [← e1]; first | rfl | (simp [Qz, Za] <;> rfl)) | (simp [*, Qz, Za] <;> rfl), by (with_reducible repeat (first | apply Kd.N_alloc | apply Kd.N_drewN | apply Kd.N_drew)); exact i0.out, by repeat (first | (with_reducible first | exact HB.out | apply Qc | apply Qb | apply Qd) | exact HB.out)⟩
      ·rw [if_neg c24] at H
       exact absurd H (by simp)
    ·rw [if_neg c8] at H
     exact absurd H (by simp)
   ·rw [if_neg c7] at H
    exact absurd H (by simp)
  ·rw [if_neg c5] at H
   have i4 : decide (0 < (l0.length : Int)) = false := decide_eq_false c5; have i5 : decide (0 < l0.length) = false := decide_eq_false (by omega); clear c5; obtain ⟨d7, d4⟩ : ∃ y_ : List ByteArray, y_ = (([a2] : List ByteArray)) := ⟨_, rfl⟩
   replace H : (if a0.length < 4398046511104 then (some (a0 ++ [(⟨a1, d7⟩ : S48)])) else (none)) = some r := by first | (rw [d4]; with_reducible exact H) | (have H2_ := (Option.bind_some _ _).symm.trans H; rw [d4]; with_reducible exact H2_) | (have H2_ := (Option.bind_some _ _).symm.trans H; with_reducible exact H2_) | with_reducible exact H | (rw [d4]; exact H) | exact H
   have f9 := Qa.mk d4; clear d4
   by_cases c32 : a0.length < 4398046511104
   ·rw [if_pos c32] at H
    have i1 := Qa.mk c32; clear c32; obtain ⟨j3, d5⟩ : ∃ y_ : List (S48), y_ = (a0 ++ [(⟨a1, d7⟩ : S48)]) := ⟨_, rfl⟩
    replace H : (some j3) = some r := by first | (rw [d5]; with_reducible exact H) | (have H2_ := (Option.bind_some _ _).symm.trans H; rw [d5]; with_reducible exact H2_) | (have H2_ := (Option.bind_some _ _).symm.trans H; with_reducible exact H2_) | with_reducible exact H | (rw [d5]; exact H) | exact H
    have i2 := Qa.mk d5; clear d5; obtain rfl := Option.some.inj H
    go_enter Tryz.func29, Tryz.ntmps29
    go_wp2_with (first | ((with_reducible refine Zs (N := 11) rfl ?_); refine Kd.N_lit k48 _ 48 ?hg (N' := 11) ?hd (xs := ([] : List (S48))) (inner := []) (ok := (fun k_ => (P0_ k_ ∨ w.heap.size ≤ k_))) (okp := (fun k_ => (P0_ k_ ∨ w.heap.size ≤ k_))) ?hr ?hp (fun _ hk => hk) ((show ∀ k_, w.heap.size ≤ k_ → (fun k_ => (P0_ k_ ∨ w.heap.size ≤ k_)) k_ from fun k_ hk => (.inr (Nat.le_trans (Qh (by repeat (first | (with_reducible first | exact HB.out | apply Qc | apply Qb | apply Qd) | exact HB.out))) hk))) _ (Nat.le_refl _)) (Below.refl _ _) (Nat.le_refl _) (by simp) ?_; (case hd => rfl); (case hg => rfl); (case hr => first | (go_simp; done) | (go_simp; rfl)); (case hp => exact (Zz.none _ _)); intro a9 w33 ho34 hb hg_ hnew_; clear hg_ hnew_; (first | rw [← b5.out] at ho34 | (simp only [Int.reduceToNat] at ho34; rw [← b5.out] at ho34)); have n0_ := Qa.mk (Kd.V_elder' (by (with_reducible repeat (first | apply Kd.V_alloc | apply Kd.V_drewN | apply Kd.V_drew)); exact HO0.out) (Kd.N_base ho34) hb); have n1_ := Qa.mk (Kd.N_lower ho34 (Qh (by repeat (first | (with_reducible first | exact HB.out | apply Qc | apply Qb | apply Qd) | exact HB.out)))); have n2_ := Qa.mk (Qk (by repeat (first | (with_reducible first | exact HB.out | apply Qc | apply Qb | apply Qd) | exact HB.out)) hb); clear HO0; clear HB; have HO0 := n0_; have b0 := n1_; have HB := n2_; clear n0_ n1_ n2_; clear hb ho34) | ((with_reducible refine Zj (b := .append) (xs := #[.tmp 11, .tmp 12]) rfl ?_); at_builtin; refine Kd.N_append_rows k48 (w0 := w) w.heap.size rfl (.tmp 11) (.tmp 12) 28 48 (.agg #[(.int .i64 0), (.slice none 0 0)]) 32 rfl Tryz.underlying28 Qak rfl (by decide) (by omega) a9 a8 l0 _ _ _ (fun k_ => (P0_ k_ ∨ w.heap.size ≤ k_)) (fun k_ => ((fun k_ => (P0_ k_ ∨ w.heap.size ≤ k_))) k_ ∧ some k_ ≠ (a9 : Value).ownBlock) rfl rfl ?aO ?aR (fun _ hk => hk) ?aF ?aB ?aS ?aL ?_; (case aR => exact (by skip; exact Kd.V_F (Kd.V_mono (ok' := (fun k_ => ((fun k_ => (P0_ k_ ∨ w.heap.size ≤ k_))) k_ ∧ some k_ ≠ (a9 : Value).ownBlock)) (HO0.out) (fun k_ hk => ⟨hk.1, hk.2⟩)))); (case aB => exact (by repeat (first | (with_reducible first | exact HB.out | apply Qc | apply Qb | apply Qd) | exact HB.out))); (case aF => exact (fun k_ hk => (.inr (Nat.le_trans (Qh (by repeat (first | (with_reducible first | exact HB.out | apply Qc | apply Qb | apply Qd) | exact HB.out))) hk)))); (case aO => exact (by (with_reducible repeat (first | apply Kd.N_alloc | apply Kd.N_drewN | apply Kd.N_drew)); exact b0.out)); (case aS => exact (Qh (by repeat (first | (with_reducible first | exact HB.out | apply Qc | apply Qb | apply Qd) | exact HB.out)))); (case aL => have := e8.out; omega); intro a7 w35 ho hb hg hat; rw [← e5.out] at ho; have n0_ := Qa.mk (Kd.V_afterv (ok := (fun k_ => (P0_ k_ ∨ w.heap.size ≤ k_))) (by (with_reducible repeat (first | apply Kd.V_alloc | apply Kd.V_drewN | apply Kd.V_drew)); exact HO0.out) hg hat); have n1_ := Qa.mk (hb); have n2_ := Qa.mk (ho); clear HO0; clear HB; clear b0; have HO0 := n0_; have HB := n1_; have a3 := n2_; clear n0_ n1_ n2_; clear ho hb hg hat) | ((with_reducible refine Zs (N := 47) rfl ?_); refine Kd.R_lit Kd.string _ 9 ?hg (N := 47) ?hd (xs := ([a2] : List ByteArray)) (inner := [.string a2]) (ok := fun _ => True) (okp := fun _ => True) ?hr ?hp (fun _ hk => hk) trivial (Below.refl _ _) (Nat.le_refl _) (by simp) ?_; (case hd => rfl); (case hg => rfl); (case hr => first | (go_simp; done) | (go_simp; rfl)); (case hp => exact (Zz.one (show Kd.M Kd.string _ _ _ a2 [.string a2] from rfl) (Zz.none _ _))); intro k8 w36 ho37 hb hg_ hnew_; clear hg_ hnew_; (first | rw [← f9.out] at ho37 | (simp only [Int.reduceToNat] at ho37; rw [← f9.out] at ho37)); have n0_ := Qa.mk (Kd.V_elder' (by (with_reducible repeat (first | apply Kd.V_alloc | apply Kd.V_drewN | apply Kd.V_drew)); exact HO0.out) (Kd.R_base ho37) hb); have n1_ := Qa.mk (Kd.N_elder' (by (with_reducible repeat (first | apply Kd.N_alloc | apply Kd.N_drewN | apply Kd.N_drew)); exact a3.out) (Kd.R_base ho37) hb); have n2_ := Qa.mk (Kd.R_lower (Kd.R_newM (M := fun k_ => (w.heap.size ≤ k_)) ho37 (Qh (by repeat (first | (with_reducible first | exact HB.out | apply Qc | apply Qb | apply Qd) | exact HB.out))) (fun k_ h_ => h_)) (Qh (by repeat (first | (with_reducible first | exact HB.out | apply Qc | apply Qb | apply Qd) | exact HB.out)))); have n3_ := Qa.mk (Qk (by repeat (first | (with_reducible first | exact HB.out | apply Qc | apply Qb | apply Qd) | exact HB.out)) hb); clear HO0; clear a3; clear HB; have HO0 := n0_; have a3 := n1_; have e0 := n2_; have HB := n3_; clear n0_ n1_ n2_ n3_; clear hb ho37; obtain ⟨g9, h0, eo38⟩ := Kd.R_slice e0.out; subst eo38) | ((with_reducible refine Zj (b := .append) (xs := #[.tmp 44, .tmp 49]) rfl ?_); at_builtin; refine Kd.N_append k48 (w0 := w) w.heap.size rfl (.tmp 44) (.tmp 49) 28 48 (.agg #[(.int .i64 0), (.slice none 0 0)]) 32 rfl Tryz.underlying28 Qak rfl (by decide) (by omega) a7 a0 (⟨a1, d7⟩ : S48) [.int .i64 a1, .slice g9 d7.length h0] (fun k_ => (P0_ k_ ∨ w.heap.size ≤ k_)) (fun k_ => ((fun k_ => (P0_ k_ ∨ w.heap.size ≤ k_))) k_ ∧ some k_ ≠ (a7 : Value).ownBlock) rfl rfl ?aP (fun _ hk => hk) ?aF ?aO ?aB ?aS ?aL ?_; (case aP => exact (Jg _ _ (⟨a1, d7⟩ : S48) (Kd.R_reads' (Kd.R_mono (ok' := (fun k_ => ((fun k_ => (P0_ k_ ∨ w.heap.size ≤ k_))) k_ ∧ some k_ ≠ (a7 : Value).ownBlock)) (Kd.R_apart' (e0.out) (Kd.N_typed a3.out) (by decide)) (fun k_ hk => ⟨(.inr (hk.1.1)), hk.2⟩))).2.1 (Kd.R_F (Kd.R_mono (ok' := (fun k_ => ((fun k_ => (P0_ k_ ∨ w.heap.size ≤ k_))) k_ ∧ some k_ ≠ (a7 : Value).ownBlock)) (Kd.R_apart' (e0.out) (Kd.N_typed a3.out) (by decide)) (fun k_ hk => ⟨(.inr (hk.1.1)), hk.2⟩))))); (case aB => exact (by repeat (first | (with_reducible first | exact HB.out | apply Qc | apply Qb | apply Qd) | exact HB.out))); (case aF => exact (fun k_ hk => (.inr (Nat.le_trans (Qh (by repeat (first | (with_reducible first | exact HB.out | apply Qc | apply Qb | apply Qd) | exact HB.out))) hk)))); (case aO => exact (by (with_reducible repeat (first | apply Kd.N_alloc | apply Kd.N_drewN | apply Kd.N_drew)); exact Kd.N_mono a3.out (fun _ hk => hk.1))); (case aS => exact (Qh (by repeat (first | (with_reducible first | exact HB.out | apply Qc | apply Qb | apply Qd) | exact HB.out)))); (case aL => have := i1.out; omega); intro k9 w39 ho hb hg hat; rw [← i2.out] at ho; have n0_ := Qa.mk (Kd.V_afterv (ok := (fun k_ => (P0_ k_ ∨ w.heap.size ≤ k_) ∧ some k_ ≠ (.slice g9 d7.length h0 : Value).ownBlock)) (by (with_reducible repeat (first | apply Kd.V_alloc | apply Kd.V_drewN | apply Kd.V_drew)); exact Kd.V_mono HO0.out (fun _ hk => ⟨⟨hk.1.1, hk.2⟩, hk.1.2⟩)) hg hat); have n1_ := Qa.mk (hb); have n2_ := Qa.mk (ho); clear HO0; clear HB; clear a3; clear e0; have HO0 := n0_; have HB := n1_; have i3 := n2_; clear n0_ n1_ n2_; clear ho hb hg hat)); go_ret; exact ⟨_, by first | rfl | (simp [Qz, Za] <;> rfl) | (simp [*, Qz, Za] <;> rfl), by (with_reducible repeat (first | apply Kd.N_alloc | apply Kd.N_drewN | apply Kd.N_drew)); exact i3.out, by repeat (first | (with_reducible first | exact HB.out | apply Qc | apply Qb | apply Qd) | exact HB.out)⟩
   ·rw [if_neg c32] at H
    exact absurd H (by simp)
 ·rw [if_neg c4] at H
  exact absurd H (by simp)
end Go.Proofs.YtadafplbgophfaaGreatDoor.PA
end
section
namespace Go.Proofs.YtadafplbgophfaaGreatDoor.PA
open Go.RowKit Go.Proofs.YtadafplbgophfaaGreatDoorW.PrintWords Go.Proofs.YtadafplbgophfaaGreatDoorW.PrintLast Go.Proofs.YtadafplbgophfaaGreatDoorW.PrintMore
def Kz (kind : Int) : List ByteArray → List S48 → Option (List S48)
 | [], out => some out
 | s :: t, out => (Xj.f out kind s).bind (Kz kind t)
def Qba (a b : List ByteArray) : List S73 → Int → Int → List S48 → Option (List S48)
 | [], i, k, out => if 0 ≤ i ∧ i ≤ a.length ∧ 0 ≤ k ∧ k ≤ b.length then (Kz 1 (a.drop i.toNat) out).bind fun o1 => Kz 2 (b.drop k.toNat) o1 else none
 | p :: l, i, k, out => if 0 ≤ i ∧ i ≤ p.f0 ∧ p.f0 < a.length ∧ 0 ≤ k ∧ k ≤ p.f1 ∧ p.f1 < b.length then
   (Kz 1 ((a.take p.f0.toNat).drop i.toNat) out).bind fun o1 => (Kz 2 ((b.take p.f1.toNat).drop k.toNat) o1).bind fun o2 => (Xj.f o2 0 (Zy ByteArray.empty a p.f0)).bind fun o3 => Qba a b l (p.f0 + 1) (p.f1 + 1) o3 else none
def Yx.f (k : Nat) (a b : List ByteArray) (l : List S73) : Option (List S48 × Bool) :=
 if a.length ≤ 1000000000 ∧ b.length ≤ 1000000000 ∧ l.length ≤ 1000000000 then (Qf.f k [a, b]).bind fun n => if n.length = 2 then (Qj.f k (Uu n 0) (Uu n 1) l).bind fun ok => if ok then (Qba a b l 0 0 []).map fun r => (r, true) else some ([], false) else none else none
abbrev N35 (w wr : World) (v : Value) (out : List S48) : Prop := Kd.N k48 48 wr w.heap.size (fun _ => True) v out
theorem N35.asV {w wr : World} {v : Value} {out : List S48} (h : N35 w wr v out) : ∃ A c, v = .slice A out.length c ∧ Kd.V k48 48 wr wr.heap.size (fun _ => True) (.slice A out.length c) out := by
 obtain ⟨A, c, rfl, hl, _⟩ := Kd.N_reads h; exact ⟨A, c, rfl, A, c, rfl, hl, Kd.N_F h⟩
theorem N35.then_ {w wr w2 : World} {v : Value} {out : List S48} (hb : w.heap.size ≤ wr.heap.size) (h : Kd.N k48 48 w2 wr.heap.size (fun k_ => ((fun _ => True) k_ ∨ wr.heap.size ≤ k_)) v out) : N35 w w2 v out :=
 Kd.N_lower (Kd.N_mono h (fun _ _ => trivial)) hb
structure Qei (w W : World) (gt : Nat) (tA tB : Int) (v : Value) (out : List S48) : Prop where
 below : Below w.heap.size w W
 blk : W.heap[gt]? = some (.cells #[.int .i64 tA, .int .i64 tB] 73 (0, 0))
 row : N35 w W v out
theorem Qei.start {w wr : World} {tA tB : Int} {v : Value} {out : List S48} (hb : Below w.heap.size w wr) (hn : N35 w wr v out) : Qei w (wr.alloc (.cells #[.int .i64 tA, .int .i64 tB] 73 (0, 0))) wr.heap.size tA tB v out :=
 ⟨Qc hb _, Kb wr _, Kd.N_alloc hn _⟩
theorem Qei.step {w W W2 : World} {gt : Nat} {tA tB : Int} {v v2 : Value} {out out2 : List S48} (h : Qei w W gt tA tB v out) (hN : Kd.N k48 48 W2 W.heap.size (fun k_ => ((fun _ => True) k_ ∨ W.heap.size ≤ k_)) v2 out2) (hB : Below W.heap.size W W2) : Qei w W2 gt tA tB v2 out2 :=
 ⟨Qk h.below hB, Xt h.blk hB, N35.then_ h.below.size hN⟩
theorem Qcr (l : List ByteArray) (i tt : Int) (h0 : 0 ≤ i) (h1 : i < tt) (h2 : tt ≤ l.length) : (l.take tt.toNat).drop i.toNat = Zy ByteArray.empty l i :: (l.take tt.toNat).drop (i + 1).toNat := by
 have hlt : i.toNat < (l.take tt.toNat).length := by rw [List.length_take]; omega
 rw [List.drop_eq_getElem_cons hlt, show (i + 1).toNat = i.toNat + 1 by omega]
 have hl : i.toNat < l.length := by omega
 simp [Zy, List.getD_eq_getElem?_getD, hl]
theorem Qef (l : List ByteArray) (m : Nat) : (l.take m).drop m = [] := by
 rw [List.drop_eq_nil_iff, List.length_take]; omega
set_option maxHeartbeats 4000000 in
set_option maxRecDepth 100000 in
theorem Yx.calls (k : Nat) (A0 : Option Addr) (c0 : Nat) (l0 : List ByteArray) (A1 : Option Addr) (c1 : Nat) (l1 : List ByteArray) (A2 : Option Addr) (c2 : Nat) (l2 : List S73) (r1 : List S48) (r2 : Bool) (w : World) (hr0 : Kd.C Kd.string w A0 l0.length l0) (hc0 : l0.length ≤ c0) (hr1 : Kd.C Kd.string w A1 l1.length l1) (hc1 : l1.length ≤ c1) (hr2 : Kd.C k73 w A2 l2.length l2) (hc2 : l2.length ≤ c2) (h : Yx.f k l0 l1 l2 = some (r1, r2)) :
  Calls Tryz.prog 17 #[.slice A0 l0.length c0, .slice A1 l1.length c1, .slice A2 l2.length c2] w fun e w' => ∃ v0_ : Value, e = .returned (.tuple #[v0_, .bool r2]) ∧ Kd.N k48 48 w' w.heap.size (fun _ => True) v0_ r1 ∧ Below w.heap.size w w' := by
 unfold Yx.f at h
 split at h
 case isFalse => cases h
 rename_i hG
 obtain ⟨hla, hlb, hl2⟩ := hG; obtain ⟨nn, hnn, h⟩ := Option.bind_eq_some_iff.1 h
 split at h
 case isFalse => cases h
 rename_i hn2
 obtain ⟨ok, hok, h⟩ := Option.bind_eq_some_iff.1 h; have hu48 := Tryz.underlying48; have hu73 := Tryz.underlying73; have HR0 := Qa.mk hr0; have HC0 := Qa.mk hc0; have HR1 := Qa.mk hr1; have HC1 := Qa.mk hc1; have HR2 := Qa.mk hr2; have HC2 := Qa.mk hc2; have HN := Qa.mk hnn; have HOK := Qa.mk hok; have HH := Qa.mk h; clear hr0 hc0 hr1 hc1 hr2 hc2 hnn hok h
 go_enter Tryz.func17, Tryz.ntmps17
 go_wp2_with fail
 have HL0 : Qa (Kd.C (Kd.slice 9 Kd.string) (w.alloc (.cells #[.slice A0 l0.length c0, .slice A1 l1.length c1] 46 (0, 0))) (some ⟨w.heap.size, 0, none⟩) [l0, l1].length [l0, l1]) := ⟨Qpe (Kd.slice 9 Kd.string) rfl w 46 [l0, l1] [.slice A0 l0.length c0, .slice A1 l1.length c1] rfl (by simp) (fun j p u hp hu => by
  match j, hp, hu with
  | 0, hp, hu => cases hp; cases hu; exact ⟨A0, c0, rfl, HC0.out, HR0.out⟩
  | 1, hp, hu => cases hp; cases hu; exact ⟨A1, c1, rfl, HC1.out, HR1.out⟩
  | (j + 2), hp, hu => simp at hp)⟩
 refine (Qf.calls k (some ⟨w.heap.size, 0, none⟩) 2 [l0, l1] nn _ HL0.out (Nat.le_refl _) HN.out).mono ?_; rintro e w1 ⟨v0_, rfl, hR, hB⟩; have HB1 := Qa.mk (Ku (Qc (Below.refl w.heap.size w) (.cells #[.slice A0 l0.length c0, .slice A1 l1.length c1] 46 (0, 0))) (Qc (Below.refl w.heap.size w) _).size hB); obtain ⟨A, c, rfl, hc, hC⟩ := Kd.R_reads (Kd.S_R hR); obtain ⟨ad, AX, cX, eA, hx, hlx, hcx⟩ := Qgt hC (0 : Int) (by decide) (by omega); obtain ⟨ad', AY, cY, eA', hy, hly, hcy⟩ := Qgt hC (1 : Int) (by decide) (by omega)
 cases eA
 cases eA'; have h := HH.out; have hok := HOK.out
 generalize Uu nn 0 = x at hx hlx hcx hok
 generalize Uu nn 1 = y at hy hly hcy hok
 have HOK2 := Qa.mk hok; have HX := Qa.mk hcx; have HXL := Qa.mk hlx; have HY := Qa.mk hcy; have HYL := Qa.mk hly
 simp only [Int.toNat_zero, Int.toNat_one] at hx hy
 clear hR hB hC hc hlx hcx hly hcy HL0 HOK hok
 replace hx : w1.cell? ad = some (.slice AX x.length cX) := by simpa [Addr.add] using hx
 replace hy : w1.cell? ⟨ad.block, ad.off + 1, none⟩ = some (.slice AY y.length cY) := by simpa [Addr.add] using hy
 rw [hn2]; clear hn2; go_wp2_with fail
 go_region_held3 (fun w' => w'.cell? ad = some (.slice AX x.length cX) ∧ w'.cell? ⟨ad.block, ad.off + 1, none⟩ = some (.slice AY y.length cY)) (go_keep)
  (first | (go_at_call 28; refine (Qj.calls k AX cX x AY cY y A2 c2 l2 ok _ (Kd.C_drew HX.out) HXL.out (Kd.C_drew HY.out) HYL.out (Kd.C_drew (Kd.C_below HR2.out HB1.out)) HC2.out HOK2.out).mono ?_; rintro e w2 ⟨rfl, hb⟩; have hb2 := Qk HB1.out (Ku (Vt (Below.refl w1.heap.size w1)) (Nat.le_refl _) hb); replace hx := Zh hb hx; replace hy := Zh hb hy))
 have HB2 := Qa.mk hb2; clear hb hb2 hx hy HX HY HXL HYL HB1 HOK2 HN
 cases ok
 ·rw [if_neg (by simp)] at h
  simp only [Option.some.injEq, Prod.mk.injEq] at h
  obtain ⟨rfl, rfl⟩ := h; simp only [Bool.not_false]; go_wp2_with fail
  go_ret2
  exact ⟨_, rfl, Kd.N_nil _ _ _ _ _, HB2.out⟩
 ·rw [if_pos rfl] at h
  obtain ⟨rr, hrr, he⟩ := Option.map_eq_some_iff.1 h
  simp only [Prod.mk.injEq] at he
  obtain ⟨rfl, rfl⟩ := he; have HG := Qa.mk hrr; clear h HH hrr; simp only [Bool.not_true]; go_wp2_with fail
  go_loopw [9, 10, 11, 12] (fun v9 v10 v11 v12 wr => ∃ (n : Nat) (i k : Int) (out : List S48), n ≤ l2.length + 1 ∧ v10 = .int .i64 i ∧ v11 = .int .i64 k ∧ v12 = .int .i64 (n : Int) ∧ Qa (Below w.heap.size w wr) ∧ Qa (N35 w wr v9 out) ∧ Qa (n ≤ l2.length → Qba l0 l1 (l2.drop n) i k out = some rr) ∧ Qa (n = l2.length + 1 → out = rr)) (fun _ _ _ v12 _ => l2.length + 1 - (intOf v12).toNat)
  case atStart =>
   exact ⟨0, 0, 0, [], Nat.zero_le _, rfl, rfl, rfl, HB2, ⟨Kd.N_nil _ _ _ _ _⟩, ⟨fun _ => HG.out⟩, ⟨fun h => by omega⟩⟩
  case round =>
   obtain ⟨n, i, kk, out, hn, rfl, rfl, rfl, HB, HO, HE, HF⟩ := hrel
   by_cases hlt : n < l2.length
   ·have p0 : (0 : Int) ≤ (n : Int) := by omega
    have q0 : (n : Int) < (l2.length : Int) := by omega
    obtain ⟨ad2, eA, hx0, hx1⟩ := Qbt HR2.out (n : Int) p0 q0
    cases eA; replace hx0 := Zh HB.out hx0; replace hx1 := Zh HB.out hx1
    have hrd : Zn l2 (n : Int) = l2[n] := by simp [Zn, List.getD_eq_getElem?_getD, hlt]
    rw [hrd, Int.toNat_natCast] at hx0 hx1
    have hb := HE.out (by omega)
    rw [List.drop_eq_getElem_cons hlt] at hb
    generalize l2[n] = q at hx0 hx1 hb
    unfold Qba at hb
    split at hb
    case isFalse => cases hb
    rename_i hG
    obtain ⟨hi0, hi1, hi2, hk0, hk1, hk2⟩ := hG; obtain ⟨o1, g1, hb⟩ := Option.bind_eq_some_iff.1 hb; obtain ⟨o2, g2, hb⟩ := Option.bind_eq_some_iff.1 hb; obtain ⟨o3, g3, hb⟩ := Option.bind_eq_some_iff.1 hb; have hle : decide (n ≤ l2.length) = true := decide_eq_true (by omega); replace hx0 := Zh (Qc (Below.refl _ _) (.cells #[.int .i64 (l0.length : Int), .int .i64 (l1.length : Int)] 73 (0, 0))) hx0; replace hx1 := Zh (Qc (Below.refl _ _) (.cells #[.int .i64 (l0.length : Int), .int .i64 (l1.length : Int)] 73 (0, 0))) hx1; have hcut : decide ((n : Int) < (l2.length : Int)) = true := decide_eq_true q0; have G1 := Qa.mk g1; have G2 := Qa.mk g2; have G3 := Qa.mk g3; have HBB := Qa.mk hb; clear hb g1 g2 g3 HE HF; go_wp2_with fail; have HS := Qei.start (tA := q.f0) (tB := q.f1) HB.out HO.out
    generalize wr.heap.size = gt at HS ⊢
    have HS1 := Qa.mk HS; clear HS HO hx0 hx1 hle
    go_loopw [9, 10] (fun v9 vi W => ∃ (i' : Int) (o : List S48), i ≤ i' ∧ i' ≤ q.f0 ∧ vi = .int .i64 i' ∧ Qa (Qei w W gt q.f0 q.f1 v9 o) ∧ Qa (Kz 1 ((l0.take (q.f0).toNat).drop i'.toNat) o = some o1)) (fun _ vi _ => (q.f0 - intOf vi).toNat)
    case atStart => exact ⟨i, out, Int.le_refl _, hi1, rfl, HS1, G1⟩
    case round =>
     obtain ⟨i', o, hfa, hfb, rfl, HI, HGI⟩ := hrel; have hcA := (Ql HI.out.blk 0).trans (show _ = some _ from rfl)
     by_cases hin : i' < q.f0
     ·have hind : decide (i' < q.f0) = true := decide_eq_true hin
      obtain ⟨ad3, e3, hx3⟩ := Kd.at_string HR0.out i' (by omega) (by omega)
      cases e3; replace hx3 := Zh HI.out.below hx3; have hone := HGI.out
      rw [Qcr l0 i' (q.f0) (by omega) hin (by omega)] at hone
      simp only [Kz] at hone
      obtain ⟨o', e1, e2⟩ := Option.bind_eq_some_iff.1 hone
      generalize Zy ByteArray.empty l0 i' = sA at hx3 e1
      have HE1 := Qa.mk e1; have HE2 := Qa.mk e2; obtain ⟨A4, c4, rfl, hV⟩ := HI.out.row.asV; have HV := Qa.mk hV; have hp : decide ((0 : Int) ≤ i') = true := decide_eq_true (by omega); have hq : decide (i' < (l0.length : Int)) = true := decide_eq_true (by omega); clear hone e1 e2 HGI hV; go_wp2_with fail; refine (Xj.calls (fun _ => True) A4 c4 o 1 sA o' _ HV.out HE1.out).mono ?_; rintro e W2 ⟨v2, rfl, hN, hB⟩; have HI2 := Qa.mk (HI.out.step hN hB)
      obtain ⟨A5, n5, c5, rfl⟩ : ∃ A n c, v2 = Value.slice A n c := by obtain ⟨A, c, h⟩ := Kd.N_slice hN; exact ⟨A, _, c, h⟩
      clear hN hB; go_wp2_with fail
      go_roundw
      case rel => exact ⟨i' + 1, o', by omega, by omega, rfl, HI2, HE2⟩
      case measure => simp [intOf]; omega
     ·obtain rfl : i' = q.f0 := by omega
      have hind : decide (q.f0 < q.f0) = false := decide_eq_false (by omega); have hone := HGI.out
      rw [Qef] at hone
      simp only [Kz, Option.some.injEq] at hone
      subst hone; have HI1 := HI; clear HI HGI; go_wp2_with fail; clear hcA hind hin hfa hfb
      go_loopw [9, 11] (fun v9 vi W => ∃ (i' : Int) (o : List S48), kk ≤ i' ∧ i' ≤ q.f1 ∧ vi = .int .i64 i' ∧ Qa (Qei w W gt q.f0 q.f1 v9 o) ∧ Qa (Kz 2 ((l1.take (q.f1).toNat).drop i'.toNat) o = some o2)) (fun _ vi _ => (q.f1 - intOf vi).toNat)
      case atStart => exact ⟨kk, _, Int.le_refl _, hk1, rfl, HI1, G2⟩
      case round =>
       obtain ⟨i', o, hfa, hfb, rfl, HI, HGI⟩ := hrel; have hcA := (Ql HI.out.blk 1).trans (show _ = some _ from rfl)
       by_cases hin : i' < q.f1
       ·have hind : decide (i' < q.f1) = true := decide_eq_true hin
        obtain ⟨ad3, e3, hx3⟩ := Kd.at_string HR1.out i' (by omega) (by omega)
        cases e3; replace hx3 := Zh HI.out.below hx3; have hone := HGI.out
        rw [Qcr l1 i' (q.f1) (by omega) hin (by omega)] at hone
        simp only [Kz] at hone
        obtain ⟨o', e1, e2⟩ := Option.bind_eq_some_iff.1 hone
        generalize Zy ByteArray.empty l1 i' = sA at hx3 e1
        have HE1 := Qa.mk e1; have HE2 := Qa.mk e2; obtain ⟨A4, c4, rfl, hV⟩ := HI.out.row.asV; have HV := Qa.mk hV; have hp : decide ((0 : Int) ≤ i') = true := decide_eq_true (by omega); have hq : decide (i' < (l1.length : Int)) = true := decide_eq_true (by omega); clear hone e1 e2 HGI hV; go_wp2_with fail; refine (Xj.calls (fun _ => True) A4 c4 o 2 sA o' _ HV.out HE1.out).mono ?_; rintro e W2 ⟨v2, rfl, hN, hB⟩; have HI2 := Qa.mk (HI.out.step hN hB)
        obtain ⟨A5, n5, c5, rfl⟩ : ∃ A n c, v2 = Value.slice A n c := by obtain ⟨A, c, h⟩ := Kd.N_slice hN; exact ⟨A, _, c, h⟩
        clear hN hB; go_wp2_with fail
        go_roundw
        case rel => exact ⟨i' + 1, o', by omega, by omega, rfl, HI2, HE2⟩
        case measure => simp [intOf]; omega
       ·obtain rfl : i' = q.f1 := by omega
        have hind : decide (q.f1 < q.f1) = false := decide_eq_false (by omega); have hone := HGI.out
        rw [Qef] at hone
        simp only [Kz, Option.some.injEq] at hone
        subst hone; have HI2b := HI; clear HI HGI; go_wp2_with fail; clear hcA hind hin hfa hfb; obtain ⟨ad3, e3, hx3⟩ := Kd.at_string HR0.out q.f0 (by omega) (by omega)
        cases e3; replace hx3 := Zh HI2b.out.below hx3; have g3 := G3.out
        generalize Zy ByteArray.empty l0 q.f0 = sA at hx3 g3
        have HE1 := Qa.mk g3; obtain ⟨A4, c4, rfl, hV⟩ := HI2b.out.row.asV; have HV := Qa.mk hV; have hp : decide ((0 : Int) ≤ q.f0) = true := decide_eq_true (by omega); have hq : decide (q.f0 < (l0.length : Int)) = true := decide_eq_true (by omega); clear hV g3 G3 hp hq
        have hI : ∀ W : World, (Instr.indexAt 46 (.slice (some ad3) l0.length c0) (.int .i64 q.f0)).run Tryz.prog W = .ok (.pointer (some (ad3.add q.f0.toNat))) W := fun W => by
         have hT : Tryz.prog.underlying 46 = some (.slice (Tryz.prog.elem 46)) := by simp [go_sem, Tryz.underlying46]
         rw [run_indexAt_slice W 46 ad3 _ _ .i64 q.f0 hT, if_pos ⟨by omega, hi2⟩]; clear hT; go_simp
        go_wp2_with fail; simp only [hI]; go_wp2_with fail; refine (Xj.calls (fun _ => True) A4 c4 _ 0 sA o3 _ HV.out HE1.out).mono ?_; rintro e W2 ⟨v2, rfl, hN, hB⟩; have HI3 := Qa.mk (HI2b.out.step hN hB)
        obtain ⟨A5, n5, c5, rfl⟩ : ∃ A n c, v2 = Value.slice A n c := by obtain ⟨A, c, h⟩ := Kd.N_slice hN; exact ⟨A, _, c, h⟩
        clear hN hB; go_wp2_with fail
        go_roundw
        case rel => exact ⟨n + 1, _, _, o3, by omega, rfl, rfl, by go_num, ⟨HI3.out.below⟩, ⟨HI3.out.row⟩, ⟨fun _ => HBB.out⟩, ⟨fun h => absurd h (by omega)⟩⟩
        case measure => simp [intOf] <;> omega
   ·by_cases hend : n = l2.length + 1
    ·subst hend
     have hcut : decide (((l2.length + 1 : Nat) : Int) ≤ (l2.length : Int)) = false := decide_eq_false (by omega); obtain ⟨A4, c4, rfl, _⟩ := HO.out.asV; go_wp2_with fail
     go_ret2
     rw [← HF.out trivial]; exact ⟨_, rfl, HO.out, HB.out⟩
    ·obtain rfl : n = l2.length := by omega
     have hb := HE.out (Nat.le_refl _)
     rw [List.drop_of_length_le (Nat.le_refl _)] at hb
     unfold Qba at hb
     split at hb
     case isFalse => cases hb
     rename_i hG
     obtain ⟨hi0, hi1, hk0, hk1⟩ := hG; obtain ⟨o1, g1, g2⟩ := Option.bind_eq_some_iff.1 hb
     have t0 : (l0.take (l0.length : Int).toNat).drop i.toNat = l0.drop i.toNat := by rw [Int.toNat_natCast, List.take_length]
     have t1 : (l1.take (l1.length : Int).toNat).drop kk.toNat = l1.drop kk.toNat := by rw [Int.toNat_natCast, List.take_length]
     have G1 : Qa (Kz 1 ((l0.take (l0.length : Int).toNat).drop i.toNat) out = some o1) := ⟨by rw [t0]; exact g1⟩; have G2 : Qa (Kz 2 ((l1.take (l1.length : Int).toNat).drop kk.toNat) o1 = some rr) := ⟨by rw [t1]; exact g2⟩; clear hb g1 g2 t0 t1 HE HF; have HS := Qei.start (tA := (l0.length : Int)) (tB := (l1.length : Int)) HB.out HO.out; have hcut : decide ((l2.length : Int) < (l2.length : Int)) = false := decide_eq_false (by omega); go_wp2_with fail
     generalize wr.heap.size = gt at HS ⊢
     have HS1 := Qa.mk HS; clear HS HO
     go_loopw [9, 10] (fun v9 vi W => ∃ (i' : Int) (o : List S48), i ≤ i' ∧ i' ≤ (l0.length : Int) ∧ vi = .int .i64 i' ∧ Qa (Qei w W gt (l0.length : Int) (l1.length : Int) v9 o) ∧ Qa (Kz 1 ((l0.take ((l0.length : Int)).toNat).drop i'.toNat) o = some o1)) (fun _ vi _ => ((l0.length : Int) - intOf vi).toNat)
     case atStart => exact ⟨i, out, Int.le_refl _, hi1, rfl, HS1, G1⟩
     case round =>
      obtain ⟨i', o, hfa, hfb, rfl, HI, HGI⟩ := hrel; have hcA := (Ql HI.out.blk 0).trans (show _ = some _ from rfl)
      by_cases hin : i' < (l0.length : Int)
      ·have hind : decide (i' < (l0.length : Int)) = true := decide_eq_true hin
       obtain ⟨ad3, e3, hx3⟩ := Kd.at_string HR0.out i' (by omega) (by omega)
       cases e3; replace hx3 := Zh HI.out.below hx3; have hone := HGI.out
       rw [Qcr l0 i' ((l0.length : Int)) (by omega) hin (by omega)] at hone
       simp only [Kz] at hone
       obtain ⟨o', e1, e2⟩ := Option.bind_eq_some_iff.1 hone
       generalize Zy ByteArray.empty l0 i' = sA at hx3 e1
       have HE1 := Qa.mk e1; have HE2 := Qa.mk e2; obtain ⟨A4, c4, rfl, hV⟩ := HI.out.row.asV; have HV := Qa.mk hV; have hp : decide ((0 : Int) ≤ i') = true := decide_eq_true (by omega); have hq : decide (i' < (l0.length : Int)) = true := decide_eq_true (by omega); clear hone e1 e2 HGI hV; go_wp2_with fail; refine (Xj.calls (fun _ => True) A4 c4 o 1 sA o' _ HV.out HE1.out).mono ?_; rintro e W2 ⟨v2, rfl, hN, hB⟩; have HI2 := Qa.mk (HI.out.step hN hB)
       obtain ⟨A5, n5, c5, rfl⟩ : ∃ A n c, v2 = Value.slice A n c := by obtain ⟨A, c, h⟩ := Kd.N_slice hN; exact ⟨A, _, c, h⟩
       clear hN hB; go_wp2_with fail
       go_roundw
       case rel => exact ⟨i' + 1, o', by omega, by omega, rfl, HI2, HE2⟩
       case measure => simp [intOf]; omega
      ·obtain rfl : i' = (l0.length : Int) := by omega
       have hind : decide ((l0.length : Int) < (l0.length : Int)) = false := decide_eq_false (by omega); have hone := HGI.out
       rw [Qef] at hone
       simp only [Kz, Option.some.injEq] at hone
       subst hone; have HI1 := HI; clear HI HGI; go_wp2_with fail; clear hcA hind hin hfa hfb
       go_loopw [9, 11] (fun v9 vi W => ∃ (i' : Int) (o : List S48), kk ≤ i' ∧ i' ≤ (l1.length : Int) ∧ vi = .int .i64 i' ∧ Qa (Qei w W gt (l0.length : Int) (l1.length : Int) v9 o) ∧ Qa (Kz 2 ((l1.take ((l1.length : Int)).toNat).drop i'.toNat) o = some rr)) (fun _ vi _ => ((l1.length : Int) - intOf vi).toNat)
       case atStart => exact ⟨kk, _, Int.le_refl _, hk1, rfl, HI1, G2⟩
       case round =>
        obtain ⟨i', o, hfa, hfb, rfl, HI, HGI⟩ := hrel; have hcA := (Ql HI.out.blk 1).trans (show _ = some _ from rfl)
        by_cases hin : i' < (l1.length : Int)
        ·have hind : decide (i' < (l1.length : Int)) = true := decide_eq_true hin
         obtain ⟨ad3, e3, hx3⟩ := Kd.at_string HR1.out i' (by omega) (by omega)
         cases e3; replace hx3 := Zh HI.out.below hx3; have hone := HGI.out
         rw [Qcr l1 i' ((l1.length : Int)) (by omega) hin (by omega)] at hone
         simp only [Kz] at hone
         obtain ⟨o', e1, e2⟩ := Option.bind_eq_some_iff.1 hone
         generalize Zy ByteArray.empty l1 i' = sA at hx3 e1
         have HE1 := Qa.mk e1; have HE2 := Qa.mk e2; obtain ⟨A4, c4, rfl, hV⟩ := HI.out.row.asV; have HV := Qa.mk hV; have hp : decide ((0 : Int) ≤ i') = true := decide_eq_true (by omega); have hq : decide (i' < (l1.length : Int)) = true := decide_eq_true (by omega); clear hone e1 e2 HGI hV; go_wp2_with fail; refine (Xj.calls (fun _ => True) A4 c4 o 2 sA o' _ HV.out HE1.out).mono ?_; rintro e W2 ⟨v2, rfl, hN, hB⟩; have HI2 := Qa.mk (HI.out.step hN hB)
         obtain ⟨A5, n5, c5, rfl⟩ : ∃ A n c, v2 = Value.slice A n c := by obtain ⟨A, c, h⟩ := Kd.N_slice hN; exact ⟨A, _, c, h⟩
         clear hN hB; go_wp2_with fail
         go_roundw
         case rel => exact ⟨i' + 1, o', by omega, by omega, rfl, HI2, HE2⟩
         case measure => simp [intOf]; omega
        ·obtain rfl : i' = (l1.length : Int) := by omega
         have hind : decide ((l1.length : Int) < (l1.length : Int)) = false := decide_eq_false (by omega); have hone := HGI.out
         rw [Qef] at hone
         simp only [Kz, Option.some.injEq] at hone
         subst hone; have HI2b := HI; clear HI HGI; go_wp2_with fail; clear hcA hind hin hfa hfb; obtain ⟨A4, c4, rfl, hV⟩ := HI2b.out.row.asV; clear hV
         go_roundw
         case rel => exact ⟨l2.length + 1, _, _, _, Nat.le_refl _, rfl, rfl, by go_num, ⟨HI2b.out.below⟩, ⟨HI2b.out.row⟩, ⟨fun h => absurd h (by omega)⟩, ⟨fun _ => rfl⟩⟩
         case measure => simp [intOf] <;> omega
end Go.Proofs.YtadafplbgophfaaGreatDoor.PA
end
section
namespace Go.Proofs.YtadafplbgophfaaGreatDoor.PA
open Go.RowKit
namespace Jdg
theorem w64 {x : Int} (h0 : -9223372036854775808 ≤ x) (h1 : x ≤ 9223372036854775807) : wrap64 x = x := by unfold wrap64; omega
end Jdg
end Go.Proofs.YtadafplbgophfaaGreatDoor.PA
end
section
namespace Go.Proofs.YtadafplbgophfaaGreatDoor.PA
open Go.RowKit Go.Proofs.YtadafplbgophfaaGreatDoorW.PrintWords Go.Proofs.YtadafplbgophfaaGreatDoorW.PrintLast Go.Proofs.YtadafplbgophfaaGreatDoorW.PrintMore
open Jdg
theorem Ev.down {P : Nat → Prop} (n : Nat) (hend : P n) (hstep : ∀ i, i < n → P (i + 1) → P i) : P 0 := by
  have : ∀ d i, n - i ≤ d → i ≤ n → P i := by
    intro d
    induction d with
    | zero => intro i h1 h2; obtain rfl : i = n := by omega
              exact hend
    | succ d ih =>
      intro i h1 h2
      by_cases h : i < n
      · exact hstep i h (ih (i + 1) (by omega) (by omega))
      · obtain rfl : i = n := by omega
        exact hend
  exact this n 0 (by omega) (by omega)
theorem Vu {i : Nat} (h : i ≤ 1000000000000000) : wrap64 ((i : Int) + 1) = ((i + 1 : Nat) : Int) := by rw [w64 (by omega) (by omega)]; omega
theorem Qhn {a b : ByteArray} : a.toList = b.toList ↔ a = b := by
  rw [ByteArray.toList_eq, ByteArray.toList_eq]
  constructor
  · intro h
    exact ByteArray.ext (Array.toList_inj.1 h)
  · intro h; rw [h]
theorem Qgw {a b : ByteArray} : a.data.toList = b.data.toList ↔ a = b := by rw [← ByteArray.toList_eq, ← ByteArray.toList_eq]; exact Qhn
def t143 (s : S49) : S48 := ⟨s.f0, s.f1⟩
def Yo (s : S48) : S49 := ⟨s.f0, s.f1⟩
theorem Qbl (xs : List S48) {i : Nat} (h : i < xs.length) : Qt xs (i : Int) = xs[i] := by simp [Qt, List.getD_eq_getElem?_getD, h]
theorem rdT49_nat' (xs : List S49) {i : Nat} (h : i < xs.length) : Qy xs (i : Int) = xs[i] := by simp [Qy, List.getD_eq_getElem?_getD, h]
theorem Qkd (i : List S48) (x : S48) : Qt (i ++ [x]) (i.length : Int) = x := by rw [Qbl _ (by simp)]; simp
def pt (l : List S48) (k : Int) (t : List ByteArray) : List S48 :=
  if t = [] then l else match l.reverse with
    | [] => [⟨k, t⟩]
    | x :: i => if x.f0 = k then i.reverse ++ [⟨k, x.f1 ++ t⟩] else i.reverse ++ [x] ++ [⟨k, t⟩]
theorem Us (l : List S48) (k : Int) : pt l k [] = l := by simp [pt]
theorem Qhk {k : Int} {t : List ByteArray} (h : t ≠ []) : pt [] k t = [⟨k, t⟩] := by simp [pt, h]
theorem Qam {i : List S48} {x : S48} {k : Int} {t : List ByteArray} (h : t ≠ []) (e : x.f0 = k) : pt (i ++ [x]) k t = i ++ [⟨k, x.f1 ++ t⟩] := by simp [pt, h, e]
theorem Qco {i : List S48} {x : S48} {k : Int} {t : List ByteArray} (h : t ≠ []) (e : x.f0 ≠ k) : pt (i ++ [x]) k t = i ++ [x] ++ [⟨k, t⟩] := by simp [pt, h, e]
theorem Qcb {α : Type} (l : List α) : l = [] ∨ ∃ i x, l = i ++ [x] := by
  rcases List.eq_nil_or_concat l with h | ⟨i, x, h⟩
  · exact .inl h
  · exact .inr ⟨i, x, by rw [h, List.concat_eq_append]⟩
theorem Ua (l : List S48) (k : Int) (t : List ByteArray) : (t = [] ∧ pt l k t = l) ∨ (t ≠ [] ∧ l = [] ∧ pt l k t = [⟨k, t⟩]) ∨ (t ≠ [] ∧ ∃ i x, l = i ++ [x] ∧ x.f0 = k ∧ pt l k t = i ++ [⟨k, x.f1 ++ t⟩]) ∨ (t ≠ [] ∧ ∃ i x, l = i ++ [x] ∧ x.f0 ≠ k ∧ pt l k t = i ++ [x] ++ [⟨k, t⟩]) := by
  by_cases h : t = []
  · exact .inl ⟨h, by rw [h, Us]⟩
  · rcases Qcb l with rfl | ⟨i, x, rfl⟩
    · exact .inr (.inl ⟨h, rfl, Qhk h⟩)
    · by_cases e : x.f0 = k
      · exact .inr (.inr (.inl ⟨h, i, x, rfl, e, Qam h e⟩))
      · exact .inr (.inr (.inr ⟨h, i, x, rfl, e, Qco h e⟩))
def tot (l : List S48) : Nat := (l.map fun s => s.f1.length).sum
def cnt (q : Int) (l : List S48) : Nat := (l.map fun s => if s.f0 = q then s.f1.length else 0).sum
def Yk (q : Int) (l : List S48) : List ByteArray := l.flatMap fun s => if s.f0 = 0 ∨ s.f0 = q then s.f1 else []
def Adj : List S48 → Prop
  | [] => True
  | [_] => True
  | x :: y :: l => x.f0 ≠ y.f0 ∧ Adj (y :: l)
def NE (l : List S48) : Prop := ∀ x ∈ l, x.f1 ≠ []
def Qkk (l : List S48) : Prop := ∀ x ∈ l, 0 ≤ x.f0 ∧ x.f0 ≤ 2
theorem Ka (l m : List S48) : tot (l ++ m) = tot l + tot m := by simp [tot]
theorem Kv (q : Int) (l m : List S48) : cnt q (l ++ m) = cnt q l + cnt q m := by simp [cnt]
theorem Up (q : Int) (l m : List S48) : Yk q (l ++ m) = Yk q l ++ Yk q m := by simp [Yk]
theorem Qcu (x : S48) : tot [x] = x.f1.length := by simp [tot]
theorem Qbg (q : Int) (x : S48) : cnt q [x] = if x.f0 = q then x.f1.length else 0 := by simp [cnt]
theorem Qaa (q : Int) (x : S48) : Yk q [x] = if x.f0 = 0 ∨ x.f0 = q then x.f1 else [] := by simp [Yk]
theorem Qhu : ∀ (i : List S48) (x y : S48), Adj (i ++ [x] ++ [y]) ↔ Adj (i ++ [x]) ∧ x.f0 ≠ y.f0
  | [], x, y => by simp [Adj]
  | [z], x, y => by simp [Adj]
  | z :: z2 :: i, x, y => by
    have := Qhu (z2 :: i) x y
    simp only [List.cons_append, Adj] at this ⊢
    rw [this, and_assoc]
theorem Qht : ∀ (i : List S48) (x y : S48), x.f0 = y.f0 → Adj (i ++ [x]) → Adj (i ++ [y])
  | [], x, y, _, _ => by simp [Adj]
  | [z], x, y, e, h => by simp only [List.cons_append, List.nil_append, Adj] at h ⊢; exact ⟨e ▸ h.1, trivial⟩
  | z :: z2 :: i, x, y, e, h => by
    simp only [List.cons_append, Adj] at h ⊢
    exact ⟨h.1, Qht (z2 :: i) x y e h.2⟩
theorem Ub (l : List S48) (k : Int) (t : List ByteArray) : tot (pt l k t) = tot l + t.length := by
  rcases Ua l k t with ⟨rfl, e⟩ | ⟨h, rfl, e⟩ | ⟨h, i, x, rfl, hk, e⟩ | ⟨h, i, x, rfl, hk, e⟩ <;> rw [e]
  · simp
  · simp [tot]
  · simp only [Ka, Qcu, List.length_append]; omega
  · simp only [Ka, Qcu]
theorem Qfe (q : Int) (l : List S48) (k : Int) (t : List ByteArray) : cnt q (pt l k t) = cnt q l + if k = q then t.length else 0 := by
  rcases Ua l k t with ⟨rfl, e⟩ | ⟨h, rfl, e⟩ | ⟨h, i, x, rfl, hk, e⟩ | ⟨h, i, x, rfl, hk, e⟩ <;> rw [e]
  · simp
  · simp [cnt]
  · simp only [Kv, Qbg, hk]; split <;> simp <;> omega
  · simp only [Kv, Qbg]
theorem Vw (q : Int) (l : List S48) (k : Int) (t : List ByteArray) : Yk q (pt l k t) = Yk q l ++ if k = 0 ∨ k = q then t else [] := by
  rcases Ua l k t with ⟨rfl, e⟩ | ⟨h, rfl, e⟩ | ⟨h, i, x, rfl, hk, e⟩ | ⟨h, i, x, rfl, hk, e⟩ <;> rw [e]
  · simp
  · simp [Yk]
  · simp only [Up, Qaa, hk]; split <;> simp
  · simp only [Up, Qaa]
theorem Qaq {l : List S48} (h : NE l) (k : Int) (t : List ByteArray) : NE (pt l k t) := by
  rcases Ua l k t with ⟨rfl, e⟩ | ⟨ht, rfl, e⟩ | ⟨ht, i, x, rfl, hk, e⟩ | ⟨ht, i, x, rfl, hk, e⟩ <;> rw [e]
  · exact h
  · intro y hy; simp at hy; subst hy; exact ht
  · intro y hy
    rcases List.mem_append.1 hy with hy | hy
    · exact h y (by simp [hy])
    · simp at hy; subst hy; simp [ht]
  · intro y hy
    rcases List.mem_append.1 hy with hy | hy
    · exact h y hy
    · simp at hy; subst hy; exact ht
theorem Qnr {l : List S48} (h : Qkk l) {k : Int} (hk : 0 ≤ k ∧ k ≤ 2) (t : List ByteArray) : Qkk (pt l k t) := by
  rcases Ua l k t with ⟨rfl, e⟩ | ⟨ht, rfl, e⟩ | ⟨ht, i, x, rfl, hk', e⟩ | ⟨ht, i, x, rfl, hk', e⟩ <;> rw [e]
  · exact h
  · intro y hy; simp at hy; subst hy; exact hk
  · intro y hy
    rcases List.mem_append.1 hy with hy | hy
    · exact h y (by simp [hy])
    · simp at hy; subst hy; exact hk
  · intro y hy
    rcases List.mem_append.1 hy with hy | hy
    · exact h y hy
    · simp at hy; subst hy; exact hk
theorem Qqf {l : List S48} (h : Adj l) (k : Int) (t : List ByteArray) : Adj (pt l k t) := by
  rcases Ua l k t with ⟨rfl, e⟩ | ⟨ht, rfl, e⟩ | ⟨ht, i, x, rfl, hk', e⟩ | ⟨ht, i, x, rfl, hk', e⟩ <;> rw [e]
  · exact h
  · simp [Adj]
  · exact Qht i x _ (by simp [hk']) h
  · exact (Qhu i x _).2 ⟨h, by simpa using hk'⟩
theorem Qhe {l : List S48} (h : NE l) : l.length ≤ tot l := by
  induction l with
  | nil => simp
  | cons x l ih =>
    have h1 := ih (fun y hy => h y (by simp [hy]))
    have h2 : 0 < x.f1.length := List.length_pos_iff.2 (h x (by simp))
    simp only [tot, List.map_cons, List.sum_cons, List.length_cons] at h1 ⊢
    omega
theorem Qmx {l : List S48} {x : S48} (h : x ∈ l) : x.f1.length ≤ tot l := by
  induction l with
  | nil => simp at h
  | cons y l ih =>
    simp only [tot, List.map_cons, List.sum_cons] at ih ⊢
    rcases List.mem_cons.1 h with rfl | h
    · omega
    · have := ih h; omega
theorem Qcs (l : List S48) {q : Int} (hq : q ≠ 0) : (Yk q l).length = cnt 0 l + cnt q l := by
  induction l with
  | nil => simp [Yk, cnt]
  | cons x l ih =>
    have e1 : Yk q (x :: l) = Yk q [x] ++ Yk q l := Up q [x] l
    have e2 : ∀ r, cnt r (x :: l) = cnt r [x] + cnt r l := fun r => Kv r [x] l
    rw [e1, e2, e2, List.length_append, ih, Qaa, Qbg, Qbg]
    by_cases h0 : x.f0 = 0
    · rw [if_pos (.inl h0), if_pos h0, if_neg (by rw [h0]; exact fun e => hq e.symm)]; omega
    · by_cases h1 : x.f0 = q
      · rw [if_pos (.inr h1), if_neg h0, if_pos h1]; omega
      · rw [if_neg (by simp [h0, h1]), if_neg h0, if_neg h1]; simp
theorem Qqy (l : List S48) (k : Int) (t u : List ByteArray) : pt (pt l k t) k u = pt l k (t ++ u) := by
  by_cases hu : u = []
  · subst hu; rw [Us, List.append_nil]
  have hn : t ++ u ≠ [] := by simp [hu]
  rcases Ua l k t with ⟨rfl, e⟩ | ⟨h, rfl, e⟩ | ⟨h, i, x, rfl, hk, e⟩ | ⟨h, i, x, rfl, hk, e⟩ <;> rw [e]
  · rfl
  · rw [show [(⟨k, t⟩ : S48)] = [] ++ [⟨k, t⟩] from rfl, Qam hu rfl, Qhk hn]; rfl
  · rw [Qam hu rfl, Qam hn hk, List.append_assoc]
  · rw [Qam hu rfl, Qco hn hk]
theorem Qjz {l : List S48} (h : NE l) (hb : tot l ≤ 1000000) {k : Int} {s : ByteArray} : Xj.f l k s = some (pt l k [s]) := by
 have h1 := Qhe h; unfold Xj.f; simp only [Option.bind_some, List.length_nil, List.nil_append, Nat.zero_add]; rw [if_pos (by omega)]
 rcases Qcb l with rfl | ⟨i, x, rfl⟩
 ·rw [if_neg (by simp), if_pos (by simp), Qhk (by simp)]; rfl
 ·have hx := Qmx (l := i ++ [x]) (x := x) (by simp)
  simp only [List.length_append, List.length_cons, List.length_nil] at h1
  have hw : wrap64 (((i ++ [x]).length : Int) - 1) = (i.length : Int) := by simp only [List.length_append, List.length_cons, List.length_nil]; rw [w64 (by omega) (by omega)]; omega
  have hlen : ((i ++ [x]).length : Int) = (i.length : Int) + 1 := by simp
  rw [hw, hlen, if_pos (by omega), if_pos (by omega), if_pos (by omega), Qkd]
  by_cases hk : x.f0 = k
  ·rw [if_pos hk, if_pos (by omega), if_pos (by omega), if_pos (by omega), Qam (by simp) hk]
   simp
  ·rw [if_neg hk, if_pos (by simp; omega), Qco (by simp) hk]
theorem Kq {k : Int} : ∀ (t : List ByteArray) {l : List S48}, NE l → tot l + t.length ≤ 1000000 → Kz k t l = some (pt l k t)
 | [], l, _, _ => by rw [Us]; rfl
 | s :: t, l, h, hb => by
  simp only [List.length_cons] at hb
  simp only [Kz]; rw [Qjz h (by omega), Option.bind_some, Kq t (Qaq h _ _) (by rw [Ub]; simp; omega), Qqy]; rfl
def Rng (a b : List ByteArray) : List S73 → Int → Int → Prop
 | [], i, k => 0 ≤ i ∧ i ≤ a.length ∧ 0 ≤ k ∧ k ≤ b.length
 | p :: l, i, k => (0 ≤ i ∧ i ≤ p.f0 ∧ p.f0 < a.length ∧ 0 ≤ k ∧ k ≤ p.f1 ∧ p.f1 < b.length) ∧ Zy ByteArray.empty a p.f0 = Zy ByteArray.empty b p.f1 ∧ Rng a b l (p.f0 + 1) (p.f1 + 1)
theorem Qiw (a : List ByteArray) {i j : Int} (h0 : 0 ≤ i) (h1 : i ≤ j) (h2 : j < a.length) : a.drop i.toNat = (a.take j.toNat).drop i.toNat ++ Zy ByteArray.empty a j :: a.drop (j + 1).toNat := by
 have hlt : j.toNat < a.length := by omega
 have e1 : Zy ByteArray.empty a j = a[j.toNat] := by simp [Zy, List.getD_eq_getElem?_getD, hlt]
 rw [e1, show (j + 1).toNat = j.toNat + 1 by omega, ← List.drop_eq_getElem_cons hlt]
 conv => lhs; rw [← List.take_append_drop j.toNat a]
 rw [List.drop_append, show i.toNat - (a.take j.toNat).length = 0 by rw [List.length_take]; omega, List.drop_zero]
structure Scr (r : List S48) : Prop where
 ne : NE r
 adj : Adj r
 kinds : Qkk r
theorem Scr.pt {r : List S48} (h : Scr r) {k : Int} (hk : 0 ≤ k ∧ k ≤ 2) (t : List ByteArray) : Scr (PA.pt r k t) := ⟨Qaq h.ne _ _, Qqf h.adj _ _, Qnr h.kinds hk _⟩
theorem Scr.nil : Scr [] := ⟨fun x hx => by simp at hx, trivial, fun x hx => by simp at hx⟩
theorem Qky (a b : List ByteArray) (ha : a.length ≤ 1000) (hb : b.length ≤ 1000) : ∀ (l : List S73) (i k : Int) (out : List S48), Rng a b l i k → Scr out → tot out + (a.length - i.toNat) + (b.length - k.toNat) ≤ 10000 →
  ∃ r, Qba a b l i k out = some r ∧ Scr r ∧ Yk 1 r = Yk 1 out ++ a.drop i.toNat ∧ Yk 2 r = Yk 2 out ++ b.drop k.toNat ∧ cnt 0 r = cnt 0 out + l.length ∧ tot r ≤ 10000
 | [], i, k, out, hr, hs, hb2 => by
  have hr' : 0 ≤ i ∧ i ≤ a.length ∧ 0 ≤ k ∧ k ≤ b.length := hr; refine ⟨pt (pt out 1 (a.drop i.toNat)) 2 (b.drop k.toNat), ?_, (hs.pt (by omega) _).pt (by omega) _, ?_, ?_, ?_, ?_⟩
  ·simp only [Qba]
   rw [if_pos hr', Kq _ hs.ne (by rw [List.length_drop]; omega), Option.bind_some, Kq _ (Qaq hs.ne _ _) (by rw [Ub, List.length_drop, List.length_drop]; omega)]
  ·rw [Vw, Vw]; simp
  ·rw [Vw, Vw]; simp
  ·rw [Qfe, Qfe]; simp
  ·rw [Ub, Ub, List.length_drop, List.length_drop]; omega
 | p :: l, i, k, out, hr, hs, hb2 => by
  obtain ⟨hg, hm, hr2⟩ := hr
  have la : ((a.take p.f0.toNat).drop i.toNat).length = p.f0.toNat - i.toNat := by rw [List.length_drop, List.length_take]; omega
  have lb : ((b.take p.f1.toNat).drop k.toNat).length = p.f1.toNat - k.toNat := by rw [List.length_drop, List.length_take]; omega
  have t1 : tot (pt out 1 ((a.take p.f0.toNat).drop i.toNat)) = tot out + (p.f0.toNat - i.toNat) := by rw [Ub, la]
  have t2 : tot (pt (pt out 1 ((a.take p.f0.toNat).drop i.toNat)) 2 ((b.take p.f1.toNat).drop k.toNat)) = tot out + (p.f0.toNat - i.toNat) + (p.f1.toNat - k.toNat) := by rw [Ub, t1, lb]
  have s1 := hs.pt (k := 1) (by omega) ((a.take p.f0.toNat).drop i.toNat); have s2 := s1.pt (k := 2) (by omega) ((b.take p.f1.toNat).drop k.toNat); have s3 := s2.pt (k := 0) (by omega) [Zy ByteArray.empty a p.f0]; obtain ⟨r, e2, hsr, d1, d2, d3, d4⟩ := Qky a b ha hb l (p.f0 + 1) (p.f1 + 1) _ hr2 s3 (by rw [Ub, t2]; simp only [List.length_cons, List.length_nil]; omega); refine ⟨r, ?_, hsr, ?_, ?_, ?_, d4⟩
  ·simp only [Qba]
   rw [if_pos hg, Kq _ hs.ne (by omega), Option.bind_some, Kq _ s1.ne (by omega), Option.bind_some, Qjz s2.ne (by omega), Option.bind_some, e2]
  ·rw [d1, Vw, Vw, Vw, Qiw a hg.1 hg.2.1 hg.2.2.1]; simp
  ·rw [d2, Vw, Vw, Vw, Qiw b hg.2.2.2.1 hg.2.2.2.2.1 hg.2.2.2.2.2, hm]; simp
  ·rw [d3, Qfe, Qfe, Qfe]; simp; omega
end Go.Proofs.YtadafplbgophfaaGreatDoor.PA
end
section
namespace Go.Proofs.YtadafplbgophfaaGreatDoor.PA
def grow (known : List (List UInt8)) (s : ByteArray) : List (List UInt8) := if s.data.toList ∈ known then known else known ++ [s.data.toList]
def Xa (known : List (List UInt8)) : List ByteArray → List Int × List (List UInt8)
 | [] => ([], known)
 | s :: l =>
  let r := Xa (grow known s) l
  ((known.idxOf s.data.toList : Int) :: r.1, r.2)
def Ky (known : List (List UInt8)) : List (List ByteArray) → List (List Int)
 | [] => []
 | f :: fs => (Xa known f).1 :: Ky (Xa known f).2 fs
def Kn : List (List ByteArray) → Nat
 | [] => 0
 | f :: fs => f.length + Kn fs
theorem Qdo : ∀ (f : List ByteArray) (known : List (List UInt8)), (Xa known f).2.length ≤ known.length + f.length
 | [], known => by simp [Xa]
 | s :: l, known => by
  have := Qdo l (grow known s)
  have h2 : (grow known s).length ≤ known.length + 1 := by unfold grow; split <;> simp
  simp only [Xa, List.length_cons]
  omega
end Go.Proofs.YtadafplbgophfaaGreatDoor.PA
end
section
namespace Go.Proofs.YtadafplbgophfaaGreatDoor.PA
open Go.RowKit Go.Proofs.YtadafplbgophfaaGreatDoorW.PrintWords Go.Proofs.YtadafplbgophfaaGreatDoorW.PrintLast Go.Proofs.YtadafplbgophfaaGreatDoorW.PrintMore
namespace Jdg
theorem Qgl (xs : List S73) {i : Nat} (h : i < xs.length) : Zn xs (i : Int) = xs[i] := by simp [Zn, List.getD_eq_getElem?_getD, h]
def Qej (a b : List Int) (l : List S73) (i : Nat) : Prop := ∀ h : i < l.length, (0 ≤ l[i].f0 ∧ l[i].f0 < a.length ∧ 0 ≤ l[i].f1 ∧ l[i].f1 < b.length ∧ rd a l[i].f0 = rd b l[i].f1) ∧ ∀ h0 : 0 < i, (l[i - 1]'(by omega)).f0 < l[i].f0 ∧ (l[i - 1]'(by omega)).f1 < l[i].f1
theorem Qis (a b : List Int) (l : List S73) (hl : l.length ≤ 1000000000) : ∀ (d i : Nat), l.length - i ≤ d → i ≤ l.length → (∀ j, j < i → Qej a b l j) → ∃ v, Ev (fun k => Qj.l0 k a b l i) v ∧ (v = true ↔ ∀ j, j < l.length → Qej a b l j) := by
 intro d
 induction d with
 | zero =>
  intro i h1 h2 h3; refine ⟨true, Ev.step (f := fun _ => some true) (fun k => ?_) (Ev.now _), ⟨fun _ j hj => h3 j (by omega), fun _ => rfl⟩⟩; simp only [Qj.l0]; rw [if_neg (by omega)]
 | succ d ih =>
  intro i h1 h2 h3
  by_cases hi : i < l.length
  ·have f1 : (i : Int) < (l.length : Int) := by omega
   have f2 : (0 : Int) ≤ (i : Int) := by omega
   have f3 : i - 1 < l.length := by omega
   have f4 : 0 < i → wrap64 ((i : Int) - 1) = ((i - 1 : Nat) : Int) := fun h => by rw [w64 (by omega) (by omega)]; omega
   have f5 : (0 : Int) ≤ ((i - 1 : Nat) : Int) := by omega
   have f6 : ((i - 1 : Nat) : Int) < (l.length : Int) := by omega
   have f7 : 0 < i → (i : Int) > 0 := fun h => by omega
   have f8 : ¬ 0 < i → ¬ (i : Int) > 0 := fun h => by omega
   have ew : wrap64 ((i : Int) + 1) = ((i + 1 : Nat) : Int) := by rw [w64 (by omega) (by omega)]; omega
   have next : Qej a b l i → ∃ v, Ev (fun k => Qj.l0 k a b l ((i + 1 : Nat) : Int)) v ∧ (v = true ↔ ∀ j, j < l.length → Qej a b l j) := fun ho =>
    ih (i + 1) (by omega) (by omega) (fun j hj => by
     rcases Nat.lt_succ_iff_lt_or_eq.1 hj with h | rfl
     ·exact h3 j h
     ·exact ho)
   clear ih h3 h1 h2 hl
   have hnot : ¬ Qej a b l i → (false = true ↔ ∀ j, j < l.length → Qej a b l j) := fun h => ⟨(fun e => by cases e), (fun e => absurd (e i hi) h)⟩
   have bad : ∀ x y, ¬ Qej a b l i → ∃ v, Ev (fun k => Qj.j1 k a b l i true x y) v ∧ (v = true ↔ ∀ j, j < l.length → Qej a b l j) := fun x y h =>
    ⟨false, Ev.step (f := fun _ => some false) (fun k => by simp only [Qj.j1, if_true]) (Ev.now _), hnot h⟩
   have e := Qgl l hi
   by_cases t1 : l[i].f0 < 0
   ·obtain ⟨v, hv, hv2⟩ := bad l[i].f0 l[i].f1 (fun h => absurd (h hi).1.1 (Int.not_le.mpr t1))
    refine ⟨v, Ev.step (fun k => ?_) hv, hv2⟩; simp only [Qj.l0]; rw [if_pos f1, if_pos f2, e, if_pos t1]
   by_cases t2 : l[i].f0 ≥ (a.length : Int)
   ·obtain ⟨v, hv, hv2⟩ := bad l[i].f0 l[i].f1 (fun h => absurd (h hi).1.2.1 (Int.not_lt.mpr t2))
    refine ⟨v, Ev.step (fun k => ?_) hv, hv2⟩; simp only [Qj.l0]; rw [if_pos f1, if_pos f2, e, if_neg t1, if_pos t2]
   by_cases t3 : l[i].f1 < 0
   ·obtain ⟨v, hv, hv2⟩ := bad l[i].f0 l[i].f1 (fun h => absurd (h hi).1.2.2.1 (Int.not_le.mpr t3))
    refine ⟨v, Ev.step (fun k => ?_) hv, hv2⟩; simp only [Qj.l0]; rw [if_pos f1, if_pos f2, e, if_neg t1, if_neg t2, if_pos t3]
   by_cases t4 : l[i].f1 ≥ (b.length : Int)
   ·obtain ⟨v, hv, hv2⟩ := bad l[i].f0 l[i].f1 (fun h => absurd (h hi).1.2.2.2.1 (Int.not_lt.mpr t4))
    refine ⟨v, Ev.step (fun k => ?_) hv, hv2⟩; simp only [Qj.l0]; rw [if_pos f1, if_pos f2, e, if_neg t1, if_neg t2, if_neg t3, if_pos t4]
   have u1 := Int.not_lt.mp t1; have u2 := Int.not_le.mp t2; have u3 := Int.not_lt.mp t3; have u4 := Int.not_le.mp t4
   by_cases t5 : rd a l[i].f0 = rd b l[i].f1
   ·have e5 : (rd a l[i].f0 != rd b l[i].f1) = false := bne_eq_false_iff_eq.mpr t5
    have go1 : ∀ v, Ev (fun k => Qj.j1 k a b l i false l[i].f0 l[i].f1) v → Ev (fun k => Qj.l0 k a b l i) v := by
     intro v hv; refine Ev.step (fun k => ?_) hv; simp only [Qj.l0]; rw [if_pos f1, if_pos f2, e, if_neg t1, if_neg t2, if_neg t3, if_neg t4, if_pos u1, if_pos u2, if_pos u3, if_pos u4, e5]
    by_cases h0 : 0 < i
    ·have ep := f4 h0
     have e' := Qgl l (i := i - 1) f3
     by_cases t6 : (l[i - 1]'f3).f0 ≥ l[i].f0
     ·refine ⟨false, go1 _ (Ev.step (f := fun _ => some false) (fun k => ?_) (Ev.now _)), hnot (fun h => absurd ((h hi).2 h0).1 (Int.not_lt.mpr t6))⟩
      simp only [Qj.j1, Bool.false_eq_true, if_false]; rw [if_pos (f7 h0), ep, if_pos f5, if_pos f6, e', if_pos t6]
     by_cases t7 : (l[i - 1]'f3).f1 ≥ l[i].f1
     ·refine ⟨false, go1 _ (Ev.step (f := fun _ => some false) (fun k => ?_) (Ev.now _)), hnot (fun h => absurd ((h hi).2 h0).2 (Int.not_lt.mpr t7))⟩
      simp only [Qj.j1, Bool.false_eq_true, if_false]; rw [if_pos (f7 h0), ep, if_pos f5, if_pos f6, e', if_neg t6, if_pos t7]
     ·obtain ⟨v, hv, hv2⟩ := next (fun _ => ⟨⟨u1, u2, u3, u4, t5⟩, fun _ => ⟨Int.not_le.mp t6, Int.not_le.mp t7⟩⟩)
      refine ⟨v, go1 _ (Ev.step (fun k => ?_) hv), hv2⟩; simp only [Qj.j1, Bool.false_eq_true, if_false]; rw [if_pos (f7 h0), ep, if_pos f5, if_pos f6, e', if_neg t6, if_neg t7, ew]
    ·obtain ⟨v, hv, hv2⟩ := next (fun _ => ⟨⟨u1, u2, u3, u4, t5⟩, fun h => absurd h h0⟩)
     refine ⟨v, go1 _ (Ev.step (fun k => ?_) hv), hv2⟩; simp only [Qj.j1, Bool.false_eq_true, if_false]; rw [if_neg (f8 h0), ew]
   ·obtain ⟨v, hv, hv2⟩ := bad l[i].f0 l[i].f1 (fun h => t5 (h hi).1.2.2.2.2)
    have e5 : (rd a l[i].f0 != rd b l[i].f1) = true := bne_iff_ne.mpr t5; refine ⟨v, Ev.step (fun k => ?_) hv, hv2⟩; simp only [Qj.l0]; rw [if_pos f1, if_pos f2, e, if_neg t1, if_neg t2, if_neg t3, if_neg t4, if_pos u1, if_pos u2, if_pos u3, if_pos u4, e5]
  ·refine ⟨true, Ev.step (f := fun _ => some true) (fun k => ?_) (Ev.now _), ⟨fun _ j hj => h3 j (by omega), fun _ => rfl⟩⟩
   simp only [Qj.l0]; rw [if_neg (by omega)]
theorem Qit (a b : List Int) (l : List S73) (hl : l.length ≤ 1000000000) : ∃ v, Ev (fun k => Qj.f k a b l) v ∧ (v = true ↔ ∀ j, j < l.length → Qej a b l j) :=
 Qis a b l hl l.length 0 (by omega) (by omega) (fun j hj => by omega)
end Jdg
end Go.Proofs.YtadafplbgophfaaGreatDoor.PA
end
section
namespace Go.Proofs.YtadafplbgophfaaGreatDoor.PA
open Go.RowKit Go.Proofs.YtadafplbgophfaaGreatDoorW.PrintWords Go.Proofs.YtadafplbgophfaaGreatDoorW.PrintLast Go.Proofs.YtadafplbgophfaaGreatDoorW.PrintMore
open Jdg
theorem Qif (kn : List (List UInt8)) (s : ByteArray) : s.data.toList ∈ grow kn s := by unfold grow; split <;> simp_all
theorem Qnc (kn : List (List UInt8)) (s : ByteArray) : (grow kn s).idxOf s.data.toList = kn.idxOf s.data.toList := by
  unfold grow
  split
  · rfl
  · rename_i h
    rw [List.idxOf_append, if_neg h, List.idxOf_eq_length h]; simp
theorem Qnb (kn : List (List UInt8)) (s : ByteArray) : ∃ e, grow kn s = kn ++ e := by
  unfold grow
  split
  · exact ⟨[], by simp⟩
  · exact ⟨_, rfl⟩
theorem Vv : ∀ (f : List ByteArray) (kn : List (List UInt8)), (∃ e, (Xa kn f).2 = kn ++ e) ∧ (∀ s ∈ f, s.data.toList ∈ (Xa kn f).2) ∧ (Xa kn f).1 = f.map (fun s => ((Xa kn f).2.idxOf s.data.toList : Int))
  | [], kn => ⟨⟨[], by simp [Xa]⟩, fun s hs => by simp at hs, rfl⟩
  | s :: f, kn => by
    obtain ⟨⟨e, h1⟩, h2, h3⟩ := Vv f (grow kn s)
    obtain ⟨e', hg⟩ := Qnb kn s
    refine ⟨⟨e' ++ e, ?_⟩, ?_, ?_⟩
    · simp only [Xa]; rw [h1, hg, List.append_assoc]
    · intro u hu
      simp only [Xa]
      rcases List.mem_cons.1 hu with rfl | hu
      · rw [h1]; exact List.mem_append_left _ (Qif kn u)
      · exact h2 u hu
    · simp only [Xa, List.map_cons]
      rw [← h3]
      congr 1
      rw [h1, List.idxOf_append, if_pos (Qif kn s), Qnc]
theorem Qom {K : List (List UInt8)} {s u : List UInt8} (hs : s ∈ K) (hu : u ∈ K) (h : K.idxOf s = K.idxOf u) : s = u := by
  have h1 := List.getElem_idxOf (List.idxOf_lt_length_of_mem hs)
  have h2 := List.getElem_idxOf (List.idxOf_lt_length_of_mem hu)
  rw [← h1, ← h2]
  simp only [h]
theorem Ko (f : List ByteArray) (kn : List (List UInt8)) : (Xa kn f).1.length = f.length := by rw [(Vv f kn).2.2, List.length_map]
theorem Qfh (f : List ByteArray) (kn : List (List UInt8)) {i : Int} (h0 : 0 ≤ i) (h1 : i < f.length) : rd (Xa kn f).1 i = ((Xa kn f).2.idxOf (Zy ByteArray.empty f i).data.toList : Int) := by
  have hlt : i.toNat < f.length := by omega
  rw [(Vv f kn).2.2]
  simp [rd, Zy, List.getD_eq_getElem?_getD, hlt]
theorem Qqe (a b : List ByteArray) {i k : Int} (h0 : 0 ≤ i) (h1 : i < a.length) (h2 : 0 ≤ k) (h3 : k < b.length) : rd (Xa [] a).1 i = rd (Xa (Xa [] a).2 b).1 k ↔ Zy ByteArray.empty a i = Zy ByteArray.empty b k := by
  rw [Qfh a [] h0 h1, Qfh b _ h2 h3]
  obtain ⟨⟨e, he⟩, hb, _⟩ := Vv b (Xa [] a).2
  have ha := (Vv a []).2.1
  have hlt : i.toNat < a.length := by omega
  have hlk : k.toNat < b.length := by omega
  have e1 : Zy ByteArray.empty a i = a[i.toNat] := by simp [Zy, List.getD_eq_getElem?_getD, hlt]
  have e2 : Zy ByteArray.empty b k = b[k.toNat] := by simp [Zy, List.getD_eq_getElem?_getD, hlk]
  rw [e1, e2]
  have m1 := ha _ (List.getElem_mem hlt)
  have m2 := hb _ (List.getElem_mem hlk)
  have m3 : (Xa [] a).2.idxOf a[i.toNat].data.toList = (Xa (Xa [] a).2 b).2.idxOf a[i.toNat].data.toList := by rw [he, List.idxOf_append, if_pos m1]
  rw [m3]
  constructor
  · intro h
    refine Qgw.1 (Qom ?_ m2 (by omega))
    rw [he]; exact List.mem_append_left _ m1
  · intro h; rw [h]
theorem Qqi {a b : List ByteArray} {l : List S73} (h : ∀ j, j < l.length → Qej (Xa [] a).1 (Xa (Xa [] a).2 b).1 l j) : Rng a b l 0 0 := by
  have la := Ko a []
  have lb := Ko b (Xa [] a).2
  have key : ∀ (m : List S73) (n : Nat) (i k : Int), l.drop n = m → n ≤ l.length → (n = 0 → i = 0 ∧ k = 0) → (∀ h0 : 0 < n, ∀ hn : n ≤ l.length, i = (l[n - 1]'(by omega)).f0 + 1 ∧ k = (l[n - 1]'(by omega)).f1 + 1) → Rng a b m i k := by
    intro m
    induction m with
    | nil =>
      intro n i k hm hn h0 h1
      by_cases hz : n = 0
      · obtain ⟨rfl, rfl⟩ := h0 hz
        exact ⟨by omega, by omega, by omega, by omega⟩
      · obtain ⟨e1, e2⟩ := h1 (by omega) hn
        have := (h (n - 1) (by omega) (by omega)).1
        rw [la, lb] at this
        exact ⟨by omega, by omega, by omega, by omega⟩
    | cons p m ih =>
      intro n i k hm hn h0 h1
      have hlt : n < l.length := by
        rcases Nat.lt_or_ge n l.length with h | h
        · exact h
        · rw [List.drop_of_length_le h] at hm; cases hm
      rw [List.drop_eq_getElem_cons hlt] at hm
      injection hm with hp hm
      obtain ⟨⟨g0, g1, g2, g3, g4⟩, g5⟩ := h n hlt hlt
      rw [la] at g1
      rw [lb] at g3
      rw [hp] at g0 g1 g2 g3 g4
      refine ⟨?_, (Qqe a b g0 g1 g2 g3).1 g4, ih (n + 1) _ _ hm (by omega) (fun e => by omega) (fun _ _ => ⟨by simp [hp], by simp [hp]⟩)⟩
      by_cases hz : n = 0
      · obtain ⟨rfl, rfl⟩ := h0 hz
        omega
      · obtain ⟨e1, e2⟩ := h1 (by omega) hn
        have hb4 := (h (n - 1) (by omega) (by omega)).1
        have g5' := g5 (by omega)
        rw [hp] at g5'
        omega
  exact key l 0 0 0 rfl (Nat.zero_le _) (fun _ => ⟨rfl, rfl⟩) (fun h0 => by omega)
theorem Qqu {K : List ByteArray} {j : Nat} (h : j < K.length) : (K.map (·.data.toList))[j]'(by simpa using h) = K[j].data.toList := by simp
theorem Qot {x0 : List (List ByteArray)} {x4 : List (List Int)} {x6 : List Int} {f K : List ByteArray} {s : ByteArray} {i j n : Nat} {r : List (List Int)} (hi : i < x0.length) (hf : Yj x0 (i : Int) = f) (hj : j < f.length) (hs : Zy ByteArray.empty f (j : Int) = s)
    (hK : K.length ≤ 1000000000) (h6 : x6.length ≤ 1000000000) (hjb : j ≤ 1000000000) (hn : n = (K.map (·.data.toList)).idxOf s.data.toList)
    (hgo : Ev (fun k => Qf.l1 k x0 (if n < K.length then K else K ++ [s]) x4 i (x6 ++ [(n : Int)]) ((j + 1 : Nat) : Int)) r) : Ev (fun k => Qf.l2 k x0 K x4 i x6 j (0 : Nat)) r := by
  have c1 : (0 : Int) ≤ (i : Int) := by omega
  have c2 : (i : Int) < (x0.length : Int) := by omega
  have c3 : (0 : Int) ≤ (j : Int) := by omega
  have c4 : (j : Int) < (f.length : Int) := by omega
  have c5 : x6.length < 17592186044416 := by omega
  have c6 : K.length < 8796093022208 := by omega
  have hle : n ≤ K.length := by rw [hn]; simpa using List.idxOf_le_length (l := K.map (·.data.toList)) (a := s.data.toList)
  refine Ev.down (P := fun m => Ev (fun k => Qf.l2 k x0 K x4 i x6 j (m : Int)) r) n ?_ ?_
  · refine Ev.step (fun k => ?_) hgo
    by_cases hlt : n < K.length
    · have e : K[n] = s := by
        refine Qgw.1 ?_
        rw [← Qqu hlt]
        simp only [hn]
        exact List.getElem_idxOf _
      have e2 : Zy ByteArray.empty K (n : Int) = s := by simp [Zy, List.getD_eq_getElem?_getD, hlt, e]
      rw [if_pos hlt]
      simp only [Qf.l2]
      rw [if_pos (by omega), if_pos (by omega), if_pos c1, if_pos c2, if_pos c3, hf, if_pos c4, e2, hs, if_pos rfl, if_neg (by omega), if_pos c5, Vu (by omega)]
    · obtain rfl : n = K.length := by omega
      rw [if_neg hlt]
      simp only [Qf.l2]
      rw [if_neg (by omega), if_pos trivial, if_pos c1, if_pos c2, if_pos c3, hf, if_pos c4, if_pos c6, if_pos c5, hs, Vu (by omega)]
  · intro m hm h
    have hlt : m < K.length := by omega
    have hne : K[m] ≠ s := by
      intro e
      have h1 : m < (K.map (·.data.toList)).findIdx (· == s.data.toList) := by rw [hn] at hm; exact hm
      have h2 := List.not_of_lt_findIdx h1
      simp [e] at h2
    refine Ev.step (fun k => ?_) h
    have e2 : Zy ByteArray.empty K (m : Int) = K[m] := by simp [Zy, List.getD_eq_getElem?_getD, hlt]
    simp only [Qf.l2]
    rw [if_pos (by omega), if_pos (by omega), if_pos c1, if_pos c2, if_pos c3, hf, if_pos c4, e2, hs, if_neg (fun h => hne (Qhn.1 h)), Vu (by omega)]
theorem Qpj {K : List ByteArray} {s : ByteArray} : ((if (K.map (·.data.toList)).idxOf s.data.toList < K.length then K else K ++ [s]).map (·.data.toList)) = grow (K.map (·.data.toList)) s := by
  unfold grow
  by_cases h : s.data.toList ∈ K.map (·.data.toList)
  · rw [if_pos h, if_pos (by have := List.idxOf_lt_length_of_mem h; simpa using this)]
  · rw [if_neg h, if_neg (by rw [List.idxOf_eq_length h]; simp)]; simp
theorem Qos {x0 : List (List ByteArray)} {x4 : List (List Int)} {f : List ByteArray} {i : Nat} {r : List (List Int)} (hi : i < x0.length) (hf : Yj x0 (i : Int) = f) (hfl : f.length ≤ 1000000) (h4 : x4.length ≤ 1000000) (hib : i ≤ 1000000) :
    ∀ (d j : Nat) (K : List ByteArray) (x6 : List Int), f.length - j ≤ d → j ≤ f.length → K.length + (f.length - j) ≤ 10000000 → x6.length = j →
      (∀ K' : List ByteArray, K'.map (·.data.toList) = (Xa (K.map (·.data.toList)) (f.drop j)).2 → Ev (fun k => Qf.l0 k x0 K' (x4 ++ [x6 ++ (Xa (K.map (·.data.toList)) (f.drop j)).1]) ((i + 1 : Nat) : Int)) r) →
      Ev (fun k => Qf.l1 k x0 K x4 i x6 j) r := by
  have fin : ∀ (K : List ByteArray) (x6 : List Int), (∀ K' : List ByteArray, K'.map (·.data.toList) = (Xa (K.map (·.data.toList)) (f.drop f.length)).2 → Ev (fun k => Qf.l0 k x0 K' (x4 ++ [x6 ++ (Xa (K.map (·.data.toList)) (f.drop f.length)).1]) ((i + 1 : Nat) : Int)) r) →
      Ev (fun k => Qf.l1 k x0 K x4 i x6 (f.length : Nat)) r := by
    intro K x6 h
    have h := h K (by rw [List.drop_length]; rfl)
    rw [List.drop_length] at h
    simp only [Xa, List.append_nil] at h
    refine Ev.step (fun k => ?_) h
    simp only [Qf.l1]
    rw [if_pos (by omega), if_pos (by omega), hf, if_neg (by omega), if_pos (by omega), Vu (by omega)]
  intro d
  induction d with
  | zero => intro j K x6 h1 h2 h3 h5 h; obtain rfl : j = f.length := by omega
            exact fin K x6 h
  | succ d ih =>
    intro j K x6 h1 h2 h3 h5 h
    by_cases hj : j < f.length
    · have hs : Zy ByteArray.empty f (j : Int) = f[j] := by simp [Zy, List.getD_eq_getElem?_getD, hj]
      have hgl : (if (K.map (·.data.toList)).idxOf f[j].data.toList < K.length then K else K ++ [f[j]]).length ≤ K.length + 1 := by split <;> simp
      have hih := ih (j + 1) (if (K.map (·.data.toList)).idxOf f[j].data.toList < K.length then K else K ++ [f[j]]) (x6 ++ [(((K.map (·.data.toList)).idxOf f[j].data.toList : Nat) : Int)]) (by omega) (by omega) (by omega) (by simp [h5]) (by
        intro K' hK'
        rw [List.drop_eq_getElem_cons hj] at h
        rw [Qpj] at hK'
        have := h K' hK'
        rw [Qpj]
        simp only [Xa] at this
        rw [List.append_assoc]
        exact this)
      refine Ev.step (fun k => ?_) (Qot (x4 := x4) (x6 := x6) (K := K) hi hf hj hs (by omega) (by omega) (by omega) rfl hih)
      simp only [Qf.l1]
      rw [if_pos (by omega), if_pos (by omega), hf, if_pos (by omega)]; rfl
    · obtain rfl : j = f.length := by omega
      exact fin K x6 h
theorem Qou (fs : List (List ByteArray)) (hl : fs.length ≤ 1000000) (ht : Kn fs ≤ 1000000) : Ev (fun k => Qf.f k fs) (Ky [] fs) := by
  have key : ∀ (d i : Nat) (K : List ByteArray) (x4 : List (List Int)), fs.length - i ≤ d → i ≤ fs.length → x4.length = i → K.length + Kn (fs.drop i) ≤ 1000000 → Ev (fun k => Qf.l0 k fs K x4 i) (x4 ++ Ky (K.map (·.data.toList)) (fs.drop i)) := by
    have fin : ∀ (K : List ByteArray) (x4 : List (List Int)), Ev (fun k => Qf.l0 k fs K x4 (fs.length : Nat)) (x4 ++ Ky (K.map (·.data.toList)) (fs.drop fs.length)) := by
      intro K x4
      refine Ev.step (f := fun _ => some (x4 ++ Ky (K.map (·.data.toList)) (fs.drop fs.length))) (fun k => ?_) (Ev.now _)
      simp only [Qf.l0]
      rw [if_neg (by omega), List.drop_length]; simp [Ky]
    intro d
    induction d with
    | zero => intro i K x4 h1 h2 h3 h4; obtain rfl : i = fs.length := by omega
              exact fin K x4
    | succ d ih =>
      intro i K x4 h1 h2 h3 h4
      by_cases hi : i < fs.length
      · have hf : Yj fs (i : Int) = fs[i] := by simp [Yj, List.getD_eq_getElem?_getD, hi]
        rw [List.drop_eq_getElem_cons hi] at h4
        simp only [Kn] at h4
        refine Ev.step (fun k => ?_) (Qos (x4 := x4) hi hf (by omega) (by omega) (by omega) fs[i].length 0 K [] (by omega) (by omega) (by omega) rfl ?_)
        · simp only [Qf.l0]
          rw [if_pos (by omega)]; rfl
        · intro K' hK'
          rw [List.drop_zero] at hK' ⊢
          have hkl := Qdo fs[i] (K.map (·.data.toList))
          rw [← hK', List.length_map, List.length_map] at hkl
          have := ih (i + 1) K' (x4 ++ [(Xa (K.map (·.data.toList)) fs[i]).1]) (by omega) (by omega) (by simp [h3]) (by omega)
          rw [List.drop_eq_getElem_cons hi]
          simp only [Ky]
          rw [hK', List.append_assoc] at this
          exact this
      · obtain rfl : i = fs.length := by omega
        exact fin K x4
  exact key fs.length 0 [] [] (by omega) (by omega) rfl (by simp; omega)
end Go.Proofs.YtadafplbgophfaaGreatDoor.PA
end
section
namespace Go.Proofs.YtadafplbgophfaaGreatDoor.PA
open Go.RowKit Go.Proofs.YtadafplbgophfaaGreatDoorW.PrintWords Go.Proofs.YtadafplbgophfaaGreatDoorW.PrintLast Go.Proofs.YtadafplbgophfaaGreatDoorW.PrintMore
attribute [local go_sem] Xv Xx Yl Ym Xo Xp Xw Xy
def Xm.f (a0 : ByteArray) : Option (ByteArray) := if 0 ≤ (mn (a0.size : Int) 300) then (if (mn (a0.size : Int) 300) ≤ (a0.size : Int) then (some (a0.extract 0 ((mn (a0.size : Int) 300) : Int).toNat)) else (none)) else (none)
set_option maxHeartbeats 8000000 in
set_option maxRecDepth 100000 in
theorem Xm.calls (a0 : ByteArray) (r : ByteArray) (w : World) (h : Xm.f a0 = some r) :
  Calls Tryz.prog 4 #[.string a0] w fun e w' => e = .returned (.string r) ∧ Xs w w' := by
 have H : (if 0 ≤ (mn (a0.size : Int) 300) then (if (mn (a0.size : Int) 300) ≤ (a0.size : Int) then (some (a0.extract 0 ((mn (a0.size : Int) 300) : Int).toNat)) else (none)) else (none)) = some r := h; clear h; obtain ⟨ji2, a1⟩ : ∃ j_ : Int, (mn (a0.size : Int) 300) = j_ := ⟨_, rfl⟩
 replace H : (if 0 ≤ (ji2) then (if (ji2) ≤ (a0.size : Int) then (some (a0.extract 0 ((ji2) : Int).toNat)) else (none)) else (none)) = some r := by first | (rw [a1] at H; exact H) | (simp only [a1] at H ⊢; exact H)
 (try (have hji2h : ji2 ≤ 300 := by (rw [← a1]; unfold mn; (repeat' split) <;> omega)))
 (try (have hji2g : ji2 ≤ 64 := by omega))
 (try (have hji2l : 0 ≤ ji2 := by (rw [← a1]; unfold mn; (repeat' split) <;> omega)))
 (try (have hji2m : 0 ≤ ji2 := by omega))
 have a2 : (if 300 < (a0.size : Int) then 300 else (a0.size : Int)) = ji2 := a1
 have hji2_n : (if 300 < a0.size then 300 else (a0.size : Int)) = ji2 := by first | exact_mod_cast a2 | (rw [← a2]; simp only [Int.ofNat_lt]; done) | (rw [← a2]; (repeat' split) <;> omega)
 by_cases c3 : 0 ≤ (ji2)
 ·rw [if_pos c3] at H
  have a3 := eq_true c3; have a4 : decide (0 ≤ (ji2)) = true := decide_eq_true c3; clear c3
  by_cases c4 : (ji2) ≤ (a0.size : Int)
  ·rw [if_pos c4] at H
   have a5 := eq_true c4; have a6 : decide ((ji2) ≤ (a0.size : Int)) = true := decide_eq_true c4; clear c4; obtain rfl := Option.some.inj H
   go_enter Tryz.func4, Tryz.ntmps4
   go_wp2
   go_ret; exact ⟨by first | rfl | (simp; done) | (simp only [← a1] <;> (first | rfl | simp)) | (simp [*]; done), by repeat (first | exact Xs.refl _ | apply Xs.step)⟩
  ·rw [if_neg c4] at H
   exact absurd H (by simp)
 ·rw [if_neg c3] at H
  exact absurd H (by simp)
def Qn.l0 : Nat → ByteArray → List ByteArray → Int → Int → Option (List ByteArray)
 | 0, _, _, _, _ => none
 | k + 1, x0, x3, x4, x5 => if x5 < (x0.size : Int) then (if 0 ≤ x5 then (if (bt x0 x5) = 10 then (if 0 ≤ x4 then (if x4 ≤ (wrap64 (x5 + 1)) then (if (wrap64 (x5 + 1)) ≤ (x0.size : Int) then (if x3.length < 8796093022208 then (Qn.l0 k x0 (x3 ++ [x0.extract (x4 : Int).toNat ((wrap64 (x5 + 1)) : Int).toNat]) (wrap64 (x5 + 1)) (wrap64 (x5 + 1))) else (none)) else (none)) else (none)) else (none)) else (if (wrap64 (x5 + 1)) = (x0.size : Int) then (if 0 ≤ x4 then (if x4 ≤ (wrap64 (x5 + 1)) then (if (wrap64 (x5 + 1)) ≤ (x0.size : Int) then (if x3.length < 8796093022208 then (Qn.l0 k x0 (x3 ++ [x0.extract (x4 : Int).toNat ((wrap64 (x5 + 1)) : Int).toNat]) (wrap64 (x5 + 1)) (wrap64 (x5 + 1))) else (none)) else (none)) else (none)) else (none)) else (Qn.l0 k x0 x3 x4 (wrap64 (x5 + 1))))) else (none)) else (some x3)
def Qn.f (k : Nat) (a0 : ByteArray) : Option (List ByteArray) := Qn.l0 k a0 ([] : List ByteArray) 0 0
set_option maxHeartbeats 8000000 in
set_option maxRecDepth 100000 in
theorem Qn.calls (k : Nat) (a0 : ByteArray) (r : List ByteArray) (w : World) (h : Qn.f k a0 = some r) :
  Calls Tryz.prog 15 #[.string a0] w fun e w' => ∃ v0_ : Value, e = .returned (v0_) ∧ Kd.R Kd.string 9 w' w.heap.size (fun _ => True) v0_ r ∧ Below w.heap.size w w' := by
 have HB := Qa.mk (Below.refl w.heap.size w); have H : (Qn.l0 k a0 ([] : List ByteArray) 0 0) = some r := h; clear h; have H' := Qa.mk H; clear H
 go_enter Tryz.func15, Tryz.ntmps15
 go_wp2
 go_loopg [3, 4, 5] k (fun kq v3 v4 v5 w' => ∃ (a3 : List ByteArray) (a2 : Int) (a1 : Int), v4 = .int .i64 a2 ∧ v5 = .int .i64 a1 ∧ Qa (Qn.l0 kq a0 a3 a2 a1 = some r) ∧ Qa (kq ≤ k) ∧ Qa (Kd.R Kd.string 9 w' w.heap.size (fun _ => True) v3 a3) ∧ Qa (Below w.heap.size w w'))
 case atStart => exact ⟨(([] : List ByteArray)), (0), (0), (by first | rfl | (simp; done) | (simp [*]; done)), (by first | rfl | (simp; done) | (simp [*]; done)), H', ⟨Nat.le_refl _⟩, ⟨by first | exact Kd.R_nil _ _ _ _ _ | exact Kd.N_nil _ _ _ _ _ | exact Kd.V_nil _ _ _ _ _ | exact Kd.Q_nil _ _ _ _ _ | exact Kd.S_nil _ _ _ _ _⟩, ⟨by repeat (first | (with_reducible first | exact HB.out | apply Qc | apply Qb | apply Qd) | exact HB.out)⟩⟩
 case round =>
  clear H'
  try clear c1
  obtain ⟨a3, a2, a1, rfl, rfl, HA, HK1, a6, HB⟩ := hrel
  cases gk with
  | zero => exact absurd HA.out (by simp [Qn.l0])
  | succ k1 =>
   have H := HA.out; clear HA
   simp only [Qn.l0] at H
   by_cases c2 : a1 < (a0.size : Int)
   ·rw [if_pos c2] at H
    have b6 : decide (a1 < (a0.size : Int)) = true := decide_eq_true c2; clear c2
    by_cases c3 : 0 ≤ a1
    ·rw [if_pos c3] at H
     have d5 : decide (0 ≤ a1) = true := decide_eq_true c3; clear c3
     by_cases c5 : (bt a0 a1) = 10
     ·rw [if_pos c5] at H
      have b7 : ((bt a0 a1) == 10) = true := beq_iff_eq.mpr c5; have b8 : ((bt a0 a1) != 10) = false := bne_eq_false_iff_eq.mpr c5; clear c5
      by_cases c6 : 0 ≤ a2
      ·rw [if_pos c6] at H
       have d6 := eq_true c6; have d7 : decide (0 ≤ a2) = true := decide_eq_true c6; clear c6
       by_cases c7 : a2 ≤ (wrap64 (a1 + 1))
       ·rw [if_pos c7] at H
        have d8 := eq_true c7; have d9 : decide (a2 ≤ (wrap64 (a1 + 1))) = true := decide_eq_true c7
        by_cases c8 : (wrap64 (a1 + 1)) ≤ (a0.size : Int)
        ·rw [if_pos c8] at H
         have e0 := eq_true c8; have e1 : decide ((wrap64 (a1 + 1)) ≤ (a0.size : Int)) = true := decide_eq_true c8
         by_cases c9 : a3.length < 8796093022208
         ·rw [if_pos c9] at H
          have b9 := Qa.mk c9; clear c9; obtain ⟨a7, a4⟩ : ∃ y_ : List ByteArray, y_ = (a3 ++ [a0.extract (a2 : Int).toNat ((wrap64 (a1 + 1)) : Int).toNat]) := ⟨_, rfl⟩
          replace H : (Qn.l0 k1 a0 a7 (wrap64 (a1 + 1)) (wrap64 (a1 + 1))) = some r := by first | (rw [a4]; with_reducible exact H) | (have H2_ := (Option.bind_some _ _).symm.trans H; rw [a4]; with_reducible exact H2_) | (have H2_ := (Option.bind_some _ _).symm.trans H; with_reducible exact H2_) | with_reducible exact H | (rw [a4]; exact H) | exact H
          have a9 := Qa.mk a4; clear a4; have H' := Qa.mk H; clear H; have p4 : 0 ≤ (a1 : Int) := of_decide_eq_true (by first | (with_reducible assumption) | assumption); have q4 : a1 < (a0.size : Int) := of_decide_eq_true (by first | (with_reducible assumption) | assumption); have hx4 := Qkp a0 a1; replace p4 := eq_true p4; replace q4 := eq_true q4; go_wp2_with (first | ((with_reducible refine Zj (b := .append) (xs := #[.tmp 23, .tmp 29]) rfl ?_); (try (refine Yb (by rfl) ?_; dsimp only)); at_builtin; refine Kd.R_append Kd.string (w0 := w) w.heap.size rfl (.tmp 23) (.tmp 29) 46 9 (.string ⟨#[]⟩) 16 rfl Tryz.underlying46 Vy rfl (by decide) (by omega) u3 a3 (a0.extract (a2 : Int).toNat ((wrap64 (a1 + 1)) : Int).toNat) [.string (a0.extract (a2 : Int).toNat ((wrap64 (a1 + 1)) : Int).toNat)] (fun _ => True) (fun _ => False) rfl rfl ?aP (fun _ hk => hk.elim) ?aF ?aO ?aB ?aS ?aL ?_; (case aP => exact rfl); (case aB => exact (by repeat (first | (with_reducible first | exact HB.out | apply Qc | apply Qb | apply Qd) | exact HB.out))); (case aF => exact (fun _ _ => trivial)); (case aO => exact (by (with_reducible repeat (first | apply Kd.R_alloc | apply Kd.R_drewN | apply Kd.R_drew)); exact a6.out)); (case aS => exact (Qh (by repeat (first | (with_reducible first | exact HB.out | apply Qc | apply Qb | apply Qd) | exact HB.out)))); (case aL => have := b9.out; omega); intro e2 w10 ho hb hg hat; rw [← a9.out] at ho; have n0_ := Qa.mk (hb); have n1_ := Qa.mk (ho); clear HB; clear a6; have HB := n0_; have b0 := n1_; clear n0_ n1_; clear ho hb hg hat))
          go_roundg k1
          case measure => have := HK1.out; omega
          case rel => exact ⟨(a7), (wrap64 (a1 + 1)), (wrap64 (a1 + 1)), (by first | rfl | (simp; done) | (simp [*]; done)), (by first | rfl | (simp; done) | (simp [*]; done)), H', ⟨by have := HK1.out; omega⟩, ⟨by (with_reducible repeat (first | apply Kd.R_alloc | apply Kd.R_drewN | apply Kd.R_drew)); exact b0.out⟩, ⟨by repeat (first | (with_reducible first | exact HB.out | apply Qc | apply Qb | apply Qd) | exact HB.out)⟩⟩
         ·rw [if_neg c9] at H
          exact absurd H (by simp)
        ·rw [if_neg c8] at H
         exact absurd H (by simp)
       ·rw [if_neg c7] at H
        exact absurd H (by simp)
      ·rw [if_neg c6] at H
       exact absurd H (by simp)
     ·rw [if_neg c5] at H
      have b7 : ((bt a0 a1) == 10) = false := beq_eq_false_iff_ne.mpr c5; have b8 : ((bt a0 a1) != 10) = true := bne_iff_ne.mpr c5
      by_cases c11 : (wrap64 (a1 + 1)) = (a0.size : Int)
      ·rw [if_pos c11] at H
       have b1 : ((wrap64 (a1 + 1)) == (a0.size : Int)) = true := beq_iff_eq.mpr c11; have b2 : ((wrap64 (a1 + 1)) != (a0.size : Int)) = false := bne_eq_false_iff_eq.mpr c11; clear c11
       by_cases c12 : 0 ≤ a2
       ·rw [if_pos c12] at H
        have c0 := eq_true c12; have d0 : decide (0 ≤ a2) = true := decide_eq_true c12; clear c12
        by_cases c13 : a2 ≤ (wrap64 (a1 + 1))
        ·rw [if_pos c13] at H
         have d1 := eq_true c13; have d2 : decide (a2 ≤ (wrap64 (a1 + 1))) = true := decide_eq_true c13
         by_cases c14 : (wrap64 (a1 + 1)) ≤ (a0.size : Int)
         ·rw [if_pos c14] at H
          have d3 := eq_true c14; have d4 : decide ((wrap64 (a1 + 1)) ≤ (a0.size : Int)) = true := decide_eq_true c14
          by_cases c15 : a3.length < 8796093022208
          ·rw [if_pos c15] at H
           have b3 := Qa.mk c15; clear c15; obtain ⟨a8, a5⟩ : ∃ y_ : List ByteArray, y_ = (a3 ++ [a0.extract (a2 : Int).toNat ((wrap64 (a1 + 1)) : Int).toNat]) := ⟨_, rfl⟩
           replace H : (Qn.l0 k1 a0 a8 (wrap64 (a1 + 1)) (wrap64 (a1 + 1))) = some r := by first | (rw [a5]; with_reducible exact H) | (have H2_ := (Option.bind_some _ _).symm.trans H; rw [a5]; with_reducible exact H2_) | (have H2_ := (Option.bind_some _ _).symm.trans H; with_reducible exact H2_) | with_reducible exact H | (rw [a5]; exact H) | exact H
           have b4 := Qa.mk a5; clear a5; have H' := Qa.mk H; clear H; have p4 : 0 ≤ (a1 : Int) := of_decide_eq_true (by first | (with_reducible assumption) | assumption); have q4 : a1 < (a0.size : Int) := of_decide_eq_true (by first | (with_reducible assumption) | assumption); have hx4 := Qkp a0 a1; replace p4 := eq_true p4; replace q4 := eq_true q4; go_wp2_with (first | ((with_reducible refine Zj (b := .append) (xs := #[.tmp 23, .tmp 29]) rfl ?_); (try (refine Yb (by rfl) ?_; dsimp only)); at_builtin; refine Kd.R_append Kd.string (w0 := w) w.heap.size rfl (.tmp 23) (.tmp 29) 46 9 (.string ⟨#[]⟩) 16 rfl Tryz.underlying46 Vy rfl (by decide) (by omega) u3 a3 (a0.extract (a2 : Int).toNat ((wrap64 (a1 + 1)) : Int).toNat) [.string (a0.extract (a2 : Int).toNat ((wrap64 (a1 + 1)) : Int).toNat)] (fun _ => True) (fun _ => False) rfl rfl ?aP (fun _ hk => hk.elim) ?aF ?aO ?aB ?aS ?aL ?_; (case aP => exact rfl); (case aB => exact (by repeat (first | (with_reducible first | exact HB.out | apply Qc | apply Qb | apply Qd) | exact HB.out))); (case aF => exact (fun _ _ => trivial)); (case aO => exact (by (with_reducible repeat (first | apply Kd.R_alloc | apply Kd.R_drewN | apply Kd.R_drew)); exact a6.out)); (case aS => exact (Qh (by repeat (first | (with_reducible first | exact HB.out | apply Qc | apply Qb | apply Qd) | exact HB.out)))); (case aL => have := b3.out; omega); intro e3 w16 ho hb hg hat; rw [← b4.out] at ho; have n0_ := Qa.mk (hb); have n1_ := Qa.mk (ho); clear HB; clear a6; have HB := n0_; have b5 := n1_; clear n0_ n1_; clear ho hb hg hat))
           go_roundg k1
           case measure => have := HK1.out; omega
           case rel => exact ⟨(a8), (wrap64 (a1 + 1)), (wrap64 (a1 + 1)), (by first | rfl | (simp; done) | (simp [*]; done)), (by first | rfl | (simp; done) | (simp [*]; done)), H', ⟨by have := HK1.out; omega⟩, ⟨by (with_reducible repeat (first | apply Kd.R_alloc | apply Kd.R_drewN | apply Kd.R_drew)); exact b5.out⟩, ⟨by repeat (first | (with_reducible first | exact HB.out | apply Qc | apply Qb | apply Qd) | exact HB.out)⟩⟩
          ·rw [if_neg c15] at H
           exact absurd H (by simp)
         ·rw [if_neg c14] at H
          exact absurd H (by simp)
        ·rw [if_neg c13] at H
         exact absurd H (by simp)
       ·rw [if_neg c12] at H
        exact absurd H (by simp)
      ·rw [if_neg c11] at H
       have b1 : ((wrap64 (a1 + 1)) == (a0.size : Int)) = false := beq_eq_false_iff_ne.mpr c11; have b2 : ((wrap64 (a1 + 1)) != (a0.size : Int)) = true := bne_iff_ne.mpr c11; have H' := Qa.mk H; clear H; have p4 : 0 ≤ (a1 : Int) := of_decide_eq_true (by first | (with_reducible assumption) | assumption); have q4 : a1 < (a0.size : Int) := of_decide_eq_true (by first | (with_reducible assumption) | assumption); have hx4 := Qkp a0 a1; replace p4 := eq_true p4; replace q4 := eq_true q4
       go_wp2
       go_roundg k1
       case measure => have := HK1.out; omega
       case rel => exact ⟨(a3), (a2), (wrap64 (a1 + 1)), (by first | rfl | (simp; done) | (simp [*]; done)), (by first | rfl | (simp; done) | (simp [*]; done)), H', ⟨by have := HK1.out; omega⟩, ⟨by (with_reducible repeat (first | apply Kd.R_alloc | apply Kd.R_drewN | apply Kd.R_drew)); exact a6.out⟩, ⟨by repeat (first | (with_reducible first | exact HB.out | apply Qc | apply Qb | apply Qd) | exact HB.out)⟩⟩
    ·rw [if_neg c3] at H
     exact absurd H (by simp)
   ·rw [if_neg c2] at H
    have b6 : decide (a1 < (a0.size : Int)) = false := decide_eq_false c2; clear c2; obtain rfl := Option.some.inj H
    go_wp2
    go_ret; exact ⟨_, by first | rfl | (simp [Qz, Za] <;> rfl) | (simp [*, Qz, Za] <;> rfl), by (with_reducible repeat (first | apply Kd.R_alloc | apply Kd.R_drewN | apply Kd.R_drew)); exact a6.out, by repeat (first | (with_reducible first | exact HB.out | apply Qc | apply Qb | apply Qd) | exact HB.out)⟩
end Go.Proofs.YtadafplbgophfaaGreatDoor.PA
end
section
namespace Go.Proofs.YtadafplbgophfaaGreatDoor.PA
open Go.RowKit Go.Proofs.YtadafplbgophfaaGreatDoorW.PrintWords Go.Proofs.YtadafplbgophfaaGreatDoorW.PrintLast Go.Proofs.YtadafplbgophfaaGreatDoorW.PrintMore
namespace FavT
theorem Qjo (s : ByteArray) (i : Nat) (h : i < s.size) : bt s (i : Int) = ((s.data.toList[i]'(by simpa using h)).toNat : Int) := by
 have e := Qkp s (i : Int) (by simpa using h); rw [← e]; rfl
def Qgy (s : ByteArray) : Bool := decide (0 < s.size) && (bt s ((s.size : Int) - 1) == 10)
theorem w64 {x : Int} (h0 : -9223372036854775808 ≤ x) (h1 : x ≤ 9223372036854775807) : wrap64 x = x := by unfold wrap64; omega
theorem Qqz {i : Nat} (h : i ≤ 1000000000000000) : wrap64 ((i : Int) + 1) = ((i + 1 : Nat) : Int) := by rw [w64 (by omega) (by omega)]; omega
theorem Qqr {i : Nat} (h0 : 0 < i) (h : i ≤ 1000000000000000) : wrap64 ((i : Int) - 1) = ((i - 1 : Nat) : Int) := by rw [w64 (by omega) (by omega)]; omega
theorem Qiy (t : ByteArray) : ∃ s, Xm.f t = some s ∧ s.size ≤ 300 := by
 unfold Xm.f mn
 split
 ·refine ⟨_, by rw [if_pos (by omega), if_pos (by omega)], ?_⟩
  simp only [ByteArray.size_extract]; omega
 ·refine ⟨_, by rw [if_pos (by omega), if_pos (by omega)], ?_⟩
  simp only [ByteArray.size_extract]; omega
theorem Qcy (s : ByteArray) (a b i : Nat) (h : a + i < b) (hb : b ≤ s.size) : bt (s.extract a b) (i : Int) = bt s ((a + i : Nat) : Int) := by
 have hz : (s.extract a b).size = b - a := by rw [ByteArray.size_extract]; omega
 rw [Qjo _ _ (by omega), Qjo _ _ (by omega)]
 congr 2
 simp
theorem Qmy (s : ByteArray) {fr i : Nat} (hf : fr ≤ i) (hi : i < s.size) (h : bt s (i : Int) = 10) : Qgy (s.extract fr (i + 1)) = true := by
 have hz : (s.extract fr (i + 1)).size = i + 1 - fr := by rw [ByteArray.size_extract]; omega
 unfold Qgy; rw [decide_eq_true (by omega : 0 < (s.extract fr (i + 1)).size), Bool.true_and, show (((s.extract fr (i + 1)).size : Int) - 1) = ((i - fr : Nat) : Int) by omega, Qcy s fr (i + 1) (i - fr) (by omega) (by omega), show fr + (i - fr) = i by omega, h]; rfl
theorem Qnv (s : ByteArray) (hs : s.size ≤ 1000) : ∀ (n i : Nat) (acc : List ByteArray) (fr : Nat), s.size - i ≤ n → i ≤ s.size → fr ≤ i → acc.length ≤ i → (∀ x ∈ acc, x.size ≤ s.size) → (∀ x ∈ acc, Qgy x = true) →
  ∃ ls, Ev (fun k => Qn.l0 k s acc (fr : Int) (i : Int)) ls ∧ ls.length ≤ s.size ∧ (∀ x ∈ ls, x.size ≤ s.size) ∧ ∀ x ∈ ls.dropLast, Qgy x = true := by
 intro n
 induction n with
 | zero =>
  intro i acc fr h1 h2 h3 h4 h5 hE; refine ⟨acc, Ev.step (f := fun _ => some acc) (fun k => ?_) (Ev.now _), by omega, h5, fun x hx => hE x (List.dropLast_subset _ hx)⟩; simp only [Qn.l0]; rw [if_neg (by omega)]
 | succ n ih =>
  intro i acc fr h1 h2 h3 h4 h5 hE
  by_cases hi : i < s.size
  ·have hw := Qqz (i := i) (by omega)
   have g1 : (i : Int) < (s.size : Int) := by omega
   have g2 : (0 : Int) ≤ (i : Int) := by omega
   have g3 : (0 : Int) ≤ (fr : Int) := by omega
   have g4 : (fr : Int) ≤ ((i + 1 : Nat) : Int) := by omega
   have g5 : ((i + 1 : Nat) : Int) ≤ (s.size : Int) := by omega
   have g6 : acc.length < 8796093022208 := by omega
   have h6 : ∀ x ∈ acc ++ [s.extract fr (i + 1)], x.size ≤ s.size := by
    intro x hx
    rcases List.mem_append.1 hx with h | h
    ·exact h5 x h
    ·rw [List.mem_singleton.1 h, ByteArray.size_extract]; omega
   by_cases hb : bt s (i : Int) = 10
   ·obtain ⟨ls, he, hl, hz⟩ := ih (i + 1) (acc ++ [s.extract fr (i + 1)]) (i + 1) (by omega) (by omega) (by omega) (by rw [List.length_append, List.length_singleton]; omega) h6 (fun x hx => by
     rcases List.mem_append.1 hx with h | h
     ·exact hE x h
     ·rw [List.mem_singleton.1 h]; exact Qmy s h3 hi hb)
    refine ⟨ls, Ev.step (fun k => ?_) he, hl, hz⟩; simp only [Qn.l0]; rw [hw, if_pos g1, if_pos g2, if_pos hb, if_pos g3, if_pos g4, if_pos g5, if_pos g6, Int.toNat_natCast, Int.toNat_natCast]
   ·by_cases hl : i + 1 = s.size
    ·have g7 : ((i + 1 : Nat) : Int) = (s.size : Int) := by omega
     refine ⟨acc ++ [s.extract fr (i + 1)], Ev.step (f := fun k => Qn.l0 k s (acc ++ [s.extract fr (i + 1)]) ((i + 1 : Nat) : Int) ((i + 1 : Nat) : Int)) (fun k => ?_) (Ev.step (f := fun _ => some (acc ++ [s.extract fr (i + 1)])) (fun k => ?_) (Ev.now _)), by rw [List.length_append, List.length_singleton]; omega, h6, fun x hx => hE x (by rwa [List.dropLast_concat] at hx)⟩
     ·simp only [Qn.l0]
      rw [hw, if_pos g1, if_pos g2, if_neg hb, if_pos g7, if_pos g3, if_pos g4, if_pos g5, if_pos g6, Int.toNat_natCast, Int.toNat_natCast]
     ·simp only [Qn.l0]; rw [if_neg (by omega)]
    ·have g7 : ¬ ((i + 1 : Nat) : Int) = (s.size : Int) := by omega
     obtain ⟨ls, he, hl, hz⟩ := ih (i + 1) acc fr (by omega) (by omega) (by omega) (by omega) h5 hE; refine ⟨ls, Ev.step (fun k => ?_) he, hl, hz⟩; simp only [Qn.l0]; rw [hw, if_pos g1, if_pos g2, if_neg hb, if_neg g7]
  ·refine ⟨acc, Ev.step (f := fun _ => some acc) (fun k => ?_) (Ev.now _), by omega, h5, fun x hx => hE x (List.dropLast_subset _ hx)⟩
   simp only [Qn.l0]; rw [if_neg (by omega)]
theorem Qjd (s : ByteArray) (hs : s.size ≤ 1000) : ∃ ls, Ev (fun k => Qn.f k s) ls ∧ ls.length ≤ s.size ∧ (∀ x ∈ ls, x.size ≤ s.size) ∧ ∀ x ∈ ls.dropLast, Qgy x = true :=
 Qnv s hs s.size 0 [] 0 (by omega) (by omega) (by omega) (Nat.le_refl _) (by simp) (by simp)
end FavT
end Go.Proofs.YtadafplbgophfaaGreatDoor.PA
end
section
namespace Go.Proofs.RF
open Go.RowKit Go.Shelf
def Qfx {β : Type} (c B : Nat) (J : β → World → Prop) : Prop :=
 ∀ s W W' row, J s W → W.grownBy W' row → (∀ r, row = some r → (r = c ∧ ∃ o : Obj, W.heap[r]? = some o ∧ o.isCells = true) ∨ (B ≤ r ∧ ∃ o : Obj, W.heap[r]? = some o ∧ o.isWalk = true)) → J s W'
def Kk {β : Type} (c B : Nat) (I : β → World → Prop) : Prop :=
 ∀ s W W' row, I s W → W.grownBy W' row → (∀ r, row = some r → (r = c ∧ ∃ o : Obj, W.heap[r]? = some o ∧ o.isCells = true) ∨ (B ≤ r ∧ ∃ o : Obj, W.heap[r]? = some o ∧ o.isCells = false)) → I s W'
theorem Kk.alloc {β : Type} {c B : Nat} {I : β → World → Prop} (h : Kk c B I) {s : β} {W : World} (o : Obj) (hs : I s W) : I s (W.alloc o) :=
 h s W _ none hs (World.grownBy_alloc W o none) (fun r e => by cases e)
theorem Kk.putObj {β : Type} {c B : Nat} {I : β → World → Prop} (h : Kk c B I) {s : β} {W : World} {l : Nat} {o : Obj} (o' : Obj) (hs : I s W) (hB : B ≤ l) (hl : W.heap[l]? = some o) (ho : o.isCells = false) : I s (W.putObj l o') :=
 h s W _ (some l) hs (grownBy_putObj' W l o') (fun r e => by cases e; exact .inr ⟨hB, o, hl, ho⟩)
theorem Kk.and {β : Type} {c B : Nat} {I I' : β → World → Prop} (h : Kk c B I) (h' : Kk c B I') : Kk c B (fun s W => I s W ∧ I' s W) := fun s W W' row hs hg hr => ⟨h s W W' row hs.1 hg hr, h' s W W' row hs.2 hg hr⟩
theorem Qhi {β : Type} {n₀ c B : Nat} {w₀ : World} (hn : n₀ ≤ w₀.heap.size) (hc : n₀ ≤ c) (hB : n₀ ≤ B) : Kk c B (fun (_ : β) W => Below n₀ w₀ W) :=
 fun _ _ _ _ hs hg hr => hs.grown hg (Nat.le_trans hn hs.size) (fun k e => by rcases hr k e with ⟨rfl, _⟩ | ⟨h, _⟩ <;> omega)
theorem Qgf {A B : World} {row : Option Nat} {c Bd k : Nat} {o : Obj} (hg : A.grownBy B row) (hr : ∀ r, row = some r → (r = c ∧ ∃ o : Obj, A.heap[r]? = some o ∧ o.isCells = true) ∨ (Bd ≤ r ∧ ∃ o : Obj, A.heap[r]? = some o ∧ o.isWalk = true))
  (hk : A.heap[k]? = some o) (h1 : o.isCells = false) (h2 : o.isWalk = false) : B.heap[k]? = some o := by
 refine (hg.block k (Array.getElem?_eq_some_iff.1 hk).1 fun e => ?_).trans hk
 rcases hr k e.symm with ⟨_, o', ho, hc⟩ | ⟨_, o', ho, hc⟩
 ·rw [hk] at ho; cases ho; rw [h1] at hc; cases hc
 ·rw [hk] at ho; cases ho; rw [h2] at hc; cases hc
def Qmn {α : Type} (F : Fence) (n : Nat) (P : Program) (g : Nat) (lb : Array Value) (c : Nat) (Ya : α → Array Value) (Kp : World → World → Prop) (S : List α → Prop) (N : Nat) (w : World) : Prop :=
 ∀ (l : Nat) (J : List α → World → Prop) (W : World), Below w.heap.size w W → Qfx c W.heap.size J →
  (∀ pre x W1, J pre W1 → pre.length < N → YieldAt F (n - 1) P l (Ya x) W1 fun e W' => e = .returned (.bool true) ∧ J (pre ++ [x]) W' ∧ Kp W1 W') →
  J [] W →
  CallsIn F n P g (#[.func (.yield l) #[] #[]] ++ lb) W fun e W' => (∃ v, e = .returned v) ∧ ∃ xs, S xs ∧ J xs W'
def Qpz {α : Type} (Kp : World → World → Prop) (I : List α → World → Prop) (xs : List α) (W : World) : Exit → Act → World → Prop
 | .normal, _, W' => KeepsOthers W W' ∧ Kp W W' ∧ I xs W'
 | _, _, _ => False
variable {F : Fence} {n : Nat} {P : Program}
theorem Qcc {α : Type} {g : Operand} {ps : Array Tmp} {assign body : Code} {Q : Exit → Act → World → Prop} {a : Act} {w : World}
  (hro : F.round = none) (h1 : 1 ≤ n) {gf : Nat} {lb : Array Value} (hg : a.eval g = .func (.func gf) #[] lb) (hFg : F.fn gf) (eg : ∀ args w, (callFunc gf args).run P w = .ok (.enter gf args) w)
  {c : Nat}
  {Ya : α → Array Value} {Kp : World → World → Prop} {S : List α → Prop} {N : Nat} {w0 : World} (hseq : Qmn F (n - 1) P gf lb c Ya Kp S N w0)
  (hKt : ∀ {A B C : World}, Kp A B → Kp B C → Kp A C) (hKb : ∀ (W : World) (l : Nat) (o o' : Obj), w.heap.size ≤ l → W.heap[l]? = some o → o.isCells = false → o.isWalk = false → Kp W (W.putObj l o')) (hb0 : Below w0.heap.size w0 w) (hps : ∀ x, (Ya x).size = ps.size)
  (I : List α → World → Prop) (hI : Kk c w.heap.size I) (h0 : I [] w) (a₁ : α → Act)
  (hassign : ∀ (l : Nat) (x : α) (W : World) (K : Act → World → Prop), K (a₁ x) W →
   assign.wpIn (F.inRound l) (n - 1 - 1) P (Exit.then K (fun _ _ _ => False)) { tmps := (ps.zip (Ya x)).foldl (fun t (p, v) => t.setIfInBounds p v) a.tmps, defers := [] } W)
  (hbody : ∀ (l : Nat) (pre : List α) (x : α) (W : World), I pre W → pre.length < N → body.wpIn (F.inRound l) (n - 1 - 1) P (Qpz Kp I (pre ++ [x]) W) (a₁ x) W)
  (hdone : ∀ (D : Nat) (xs : List α) (W : World), w.heap.size ≤ D → S xs → I xs W → W.heap[D]? = some (.deferred (some [])) → Q .normal { a with defers := { target := .collected D, args := #[] } :: a.defers } W) :
  (Code.rangeFunc g ps assign body).wpIn F n P Q a w := by
 refine wpIn_rangeFunc ?_; intro fn hfn; rw [hro]
 obtain ⟨rec, hrec⟩ : ∃ rec : LoopState → Option Code → Loop, rec = fun st pe => { state := st, pending := pe, fn, tmps := a.tmps, params := ps, assign, body, defers := w.heap.size } := ⟨_, rfl⟩
 obtain ⟨W1, hW1⟩ : ∃ W1, (w.alloc (.deferred (some []))).alloc (.loop (rec .ready none)) = W1 := ⟨_, rfl⟩
 have hL1 : W1.heap[w.heap.size + 1]? = some (.loop (rec .ready none)) := by
  rw [← hW1]; have := World.alloc_heap_new (w.alloc (.deferred (some []))) (.loop (rec .ready none)); rwa [World.size_alloc] at this
 have hK1 : W1.heap[w.heap.size]? = some (.deferred (some [])) := by
  rw [← hW1]; exact (Below.heap_alloc _ _ _ (by simp)).trans (World.alloc_heap_new w _)
 have hI1 : I [] W1 := by rw [← hW1]; exact hI.alloc _ (hI.alloc _ h0)
 have hb1 : Below w0.heap.size w0 W1 := by
  rw [← hW1]; exact hb0.trans ((((Below.refl _ w).alloc (Nat.le_refl _) _).alloc (by simp) _).mono hb0.size)
 refine ⟨w.heap.size + 1, [{ target := .collected w.heap.size, args := #[] }], W1, { target := .fn (.func gf) lb, args := #[.func (.yield (w.heap.size + 1)) #[] #[]] }, W1, gf,
  #[.func (.yield (w.heap.size + 1)) #[] #[]] ++ lb, W1, ?_, ?_, ?_, ?_, fun _ => h1, ?_⟩
 ·rw [← hW1, hrec]; exact run_enterLoop_outer _ _ _ _ _
 ·simp only [resolve, hg]
  simp [go_sem]
 ·intro f' hf'; simp [Target.leads] at hf'; subst hf'; exact hFg
 ·simp [invoke, go_sem, eg]
 ·have hnw : ∀ {A : World} {row : Option Nat}, (∀ r, row = some r → (r = c ∧ ∃ o : Obj, A.heap[r]? = some o ∧ o.isCells = true) ∨ (W1.heap.size ≤ r ∧ ∃ o : Obj, A.heap[r]? = some o ∧ o.isWalk = true)) →
    (∀ r, row = some r → (r = c ∧ ∃ o : Obj, A.heap[r]? = some o ∧ o.isCells = true) ∨ (w.heap.size ≤ r ∧ ∃ o : Obj, A.heap[r]? = some o ∧ o.isCells = false)) :=
   fun hr r e => by
    rcases hr r e with h | ⟨hB, o, ho, hw⟩
    ·exact .inl h
    ·exact .inr ⟨by rw [← hW1] at hB; simp at hB; omega, o, ho, Obj.not_cells_of_walk hw⟩
  refine (hseq (w.heap.size + 1)
   (fun pre W => I pre W ∧ W.heap[w.heap.size + 1]? = some (.loop (rec .ready none)) ∧ W.heap[w.heap.size]? = some (.deferred (some [])))
   W1 hb1
   (fun s A B row hs hg' hr => ⟨hI s A B row hs.1 hg' (hnw hr), Qgf hg' hr hs.2.1 rfl rfl, Qgf hg' hr hs.2.2 rfl rfl⟩)
   ?_ ⟨hI1, hL1, hK1⟩).mono ?_
  ·rintro pre x W ⟨hi, hl, hk⟩ hlen
   have hlt : w.heap.size + 1 < W.heap.size := (Array.getElem?_eq_some_iff.1 hl).1; have hy := run_yield (P := P) (args := Ya x) hl (by rw [hrec]; exact hps x)
   rw [hrec] at hy
   refine ⟨fn, _, assign, body, hy, roundIn_of_wpIn hfn (hassign _ x W _ ⟨_, run_beginRound hl (by rw [hrec]), ?_⟩)⟩; have hl2 : (W.putObj (w.heap.size + 1) (.loop { rec .ready none with state := .busy })).heap[w.heap.size + 1]? = some (.loop { rec .ready none with state := .busy }) := World.putObj_heap_same hlt; have hk2 : (W.putObj (w.heap.size + 1) (.loop { rec .ready none with state := .busy })).heap[w.heap.size]? = some (.deferred (some [])) := (World.putObj_heap_other (by omega)).trans hk; have hw2 : Kp W (W.putObj (w.heap.size + 1) (.loop { rec .ready none with state := .busy })) := hKb _ _ _ _ (by omega) hl rfl rfl; refine wpIn_mono (hbody _ pre x _ (hI.putObj _ hi (by omega) hl rfl) hlen) ?_; rintro e a3 W3 hp
   cases e with
   | normal =>
    obtain ⟨hk3, hkp3, hi3⟩ := hp; have hl3 := hk3.same _ _ hl2 rfl; have hr := run_endRound (P := P) none hl3
    rw [hrec] at hr hl3
    have hk4 : (W3.putObj (w.heap.size + 1) (.loop (rec .ready none))).heap[w.heap.size]? = some (.deferred (some [])) := (World.putObj_heap_other (by omega)).trans (hk3.same _ _ hk2 rfl); have hl4 : (W3.putObj (w.heap.size + 1) (.loop (rec .ready none))).heap[w.heap.size + 1]? = some (.loop (rec .ready none)) := World.putObj_heap_same (Array.getElem?_eq_some_iff.1 hl3).1
    rw [hrec] at hk4 hl4
    rw [hrec]; exact ⟨_, _, hr, rfl, ⟨hI.putObj _ hi3 (by omega) hl3 rfl, hl4, hk4⟩, hKt (hKt (by rw [hrec] at hw2; exact hw2) (by rw [hrec] at hkp3; exact hkp3)) (hKb _ _ _ _ (by omega) hl3 rfl rfl)⟩
   | ret => exact hp.elim
   | exit id => exact hp.elim
   | goto t => exact hp.elim
   | panic ch => exact hp.elim
   | outgrown => exact hp.elim
  ·rintro e W2 ⟨⟨v, rfl⟩, xs, hS, hi, hl, hk⟩
   exact ⟨none, _, by have := run_endLoop (P := P) hl (by rw [hrec]; simp); rw [hrec] at this; exact this, hdone _ xs _ (Nat.le_refl _) hS (hI.putObj _ hi (by omega) hl rfl) ((World.putObj_heap_other (by omega)).trans hk)⟩
end Go.Proofs.RF
end
section
namespace Go.Proofs.YtadafplbgophfaaGreatDoor.PA
open Go.RowKit Go.Proofs.YtadafplbgophfaaGreatDoorW.PrintWords Go.Proofs.YtadafplbgophfaaGreatDoorW.PrintLast Go.Proofs.YtadafplbgophfaaGreatDoorW.PrintMore
attribute [local go_sem] Xv Xx Yl Ym Xo Xp Xw Xy
def Qv.l0 : Nat → List (S48) → List (S49) → Int → Option ((List (S49)))
 | 0, _, _, _ => none
 | k + 1, x0, x3, x4 => if x4 < (x0.length : Int) then (if 0 ≤ x4 then ((some (([] : List ByteArray) : List ByteArray)).bind fun a8 => (if a8.length + ((Qt x0 x4).f1).length < 8796093022208 then (if x3.length < 4398046511104 then (Qv.l0 k x0 (x3 ++ [(⟨(Qt x0 x4).f0, (a8 ++ ((Qt x0 x4).f1))⟩ : S49)]) (wrap64 (x4 + 1))) else (none)) else (none))) else (none)) else (some x3)
def Qv.f (k : Nat) (l0 : List (S48)) : Option ((List (S49))) := Qv.l0 k l0 ([] : List (S49)) 0
def Qv.T5 : Bool × List (List Nat × List Nat) := (true, [([], []), ([], []), ([], []), ([1, 2], [1, 2]), ([3], [3]), ([4], [4]), ([], []), ([], []), ([], []), ([7, 8], [7, 8]), ([9], [9]), ([10], [10]), ([6, 11], [6, 11]), ([5, 12], [5, 12]), ([13], [13]), ([0, 14, 12], [0, 14]), ([15, 15, 0, 1, 2, 3, 4, 5, 6, 7, 8, 9, 10, 11, 12, 13, 14, 15], [0, 15])])
def Qv.B5 : List Nat := [0, 0, 0, 6, 14, 30, 0, 0, 0, 384, 896, 1920, 4032, 8190, 16382, 32767, 65535]
theorem Qv.tab5 : Yu .any (Jj Tryz.f6 5) = Qv.T5 := by kernel_rfl
theorem Qv.bits5 : Ys Qv.T5.2 Qv.B5 = true := by kernel_rfl
set_option maxHeartbeats 8000000 in
set_option maxRecDepth 100000 in
theorem Qv.calls (k : Nat) (A0 : Option Addr) (c0 : Nat) (l0 : List (S48)) (r : List (S49)) (w : World) (hr0 : Kd.C k48 w A0 l0.length l0) (hc0 : l0.length ≤ c0) (h : Qv.f k l0 = some r) :
  Calls Tryz.prog 6 #[.slice A0 l0.length c0] w fun e w' => ∃ v0_ : Value, e = .returned (v0_) ∧ Kd.S k49 49 w' w.heap.size (fun _ => True) v0_ r ∧ Below w.heap.size w w' := by
 have hu49 := Tryz.underlying49; have HR0 := Qa.mk hr0; have HC0 := Qa.mk hc0; clear hr0 hc0; have HB := Qa.mk (Below.refl w.heap.size w); have H : (Qv.l0 k l0 ([] : List (S49)) 0) = some r := h; clear h; have H' := Qa.mk H; clear H
 go_enter Tryz.func6, Tryz.ntmps6
 go_wp2
 go_loopg [3, 4] k (fun kq v3 v4 w' => ∃ (a4 : List (S49)) (a0 : Int), v4 = .int .i64 a0 ∧ Qa (Qv.l0 kq l0 a4 a0 = some r) ∧ Qa (kq ≤ k) ∧ Qa (Kd.S k49 49 w' w.heap.size (fun _ => True) v3 a4) ∧ Qa (Below w.heap.size w w'))
 case atStart => exact ⟨(([] : List (S49))), (0), (by first | rfl | (simp; done) | (simp [*]; done)), H', ⟨Nat.le_refl _⟩, ⟨by first | exact Kd.S_nil _ _ _ _ _ | exact Kd.N_nil _ _ _ _ _ | exact Kd.V_nil _ _ _ _ _ | exact Kd.Q_nil _ _ _ _ _ | exact Kd.R_nil _ _ _ _ _⟩, ⟨by repeat (first | (with_reducible first | exact HB.out | apply Qc | apply Qb | apply Qd) | exact HB.out)⟩⟩
 case round =>
  clear H'; obtain ⟨a4, a0, rfl, HA, HK1, a1, HB⟩ := hrel
  cases gk with
  | zero => exact absurd HA.out (by simp [Qv.l0])
  | succ k1 =>
   have H := HA.out; clear HA
   simp only [Qv.l0] at H
   by_cases c2 : a0 < (l0.length : Int)
   ·rw [if_pos c2] at H
    have e0 : decide (a0 < (l0.length : Int)) = true := decide_eq_true c2; clear c2
    by_cases c3 : 0 ≤ a0
    ·rw [if_pos c3] at H
     have f2 : decide (0 ≤ a0) = true := decide_eq_true c3; clear c3; obtain ⟨a8, a9⟩ : ∃ y_ : List ByteArray, y_ = (([] : List ByteArray)) := ⟨_, rfl⟩
     replace H : (if a8.length + ((Qt l0 a0).f1).length < 8796093022208 then (if a4.length < 4398046511104 then (Qv.l0 k1 l0 (a4 ++ [(⟨(Qt l0 a0).f0, (a8 ++ ((Qt l0 a0).f1))⟩ : S49)]) (wrap64 (a0 + 1))) else (none)) else (none)) = some r := by first | (rw [a9]; with_reducible exact H) | (have H2_ := (Option.bind_some _ _).symm.trans H; rw [a9]; with_reducible exact H2_) | (have H2_ := (Option.bind_some _ _).symm.trans H; with_reducible exact H2_) | with_reducible exact H | (rw [a9]; exact H) | exact H
     have d0 := Qa.mk a9; clear a9
     by_cases c4 : a8.length + ((Qt l0 a0).f1).length < 8796093022208
     ·rw [if_pos c4] at H
      have e1 := Qa.mk c4; clear c4; obtain ⟨b2, b0⟩ : ∃ y_ : List ByteArray, y_ = (a8 ++ ((Qt l0 a0).f1)) := ⟨_, rfl⟩
      replace H : (if a4.length < 4398046511104 then (Qv.l0 k1 l0 (a4 ++ [(⟨(Qt l0 a0).f0, b2⟩ : S49)]) (wrap64 (a0 + 1))) else (none)) = some r := by first | (rw [b0]; with_reducible exact H) | (have H2_ := (Option.bind_some _ _).symm.trans H; rw [b0]; with_reducible exact H2_) | (have H2_ := (Option.bind_some _ _).symm.trans H; with_reducible exact H2_) | with_reducible exact H | (rw [b0]; exact H) | exact H
      have d6 := Qa.mk b0; clear b0
      by_cases c5 : a4.length < 4398046511104
      ·rw [if_pos c5] at H
       have e2 := Qa.mk c5; clear c5; obtain ⟨d3, b1⟩ : ∃ y_ : List (S49), y_ = (a4 ++ [(⟨(Qt l0 a0).f0, b2⟩ : S49)]) := ⟨_, rfl⟩
       replace H : (Qv.l0 k1 l0 d3 (wrap64 (a0 + 1))) = some r := by first | (rw [b1]; with_reducible exact H) | (have H2_ := (Option.bind_some _ _).symm.trans H; rw [b1]; with_reducible exact H2_) | (have H2_ := (Option.bind_some _ _).symm.trans H; with_reducible exact H2_) | with_reducible exact H | (rw [b1]; exact H) | exact H
       have d7 := Qa.mk b1; clear b1; have H' := Qa.mk H; clear H
       try go_wp2
       have n0_ := Qa.mk (Kd.S_drew a1.out); have n1_ := Qa.mk (Qd HB.out); clear a1; clear HB; have a1 := n0_; have HB := n1_; clear n0_ n1_; have b7 : 0 ≤ (a0 : Int) := of_decide_eq_true (by first | (with_reducible assumption) | assumption); have b8 : a0 < (l0.length : Int) := of_decide_eq_true (by first | (with_reducible assumption) | assumption); obtain ⟨a7, b5, b6, e3, a5, a2, hl101_1, hi101_1⟩ := Vs HR0.out a0 b7 b8; have hw101_1 := a2; have hw101_0 := a5
       cases e3; replace a5 := (HB.out.cell (World.block_lt_of_cell? w _ a5)).trans a5; replace a2 := (HB.out.cell (World.block_lt_of_cell? w _ a2)).trans a2; have d2 := Qa.mk hi101_1; have e6 := Qa.mk hl101_1; clear hi101_1 hl101_1; replace b7 := eq_true b7; replace b8 := eq_true b8; have b9 : 0 ≤ (a0 : Int) := of_decide_eq_true (by first | (with_reducible assumption) | assumption); have c1 : a0 < (l0.length : Int) := of_decide_eq_true (by first | (with_reducible assumption) | assumption); obtain ⟨d8, e8, e9, e4, a6, a3, hl105_1, hi105_1⟩ := Vs HR0.out a0 b9 c1; have hw105_1 := a3; have hw105_0 := a6; obtain rfl : a7 = d8 := (by injection e4); replace a6 := (HB.out.cell (World.block_lt_of_cell? w _ a6)).trans a6; replace a3 := (HB.out.cell (World.block_lt_of_cell? w _ a3)).trans a3; have b4 := Qa.mk hi105_1; have e7 := Qa.mk hl105_1; clear hi105_1 hl105_1; replace b9 := eq_true b9; replace c1 := eq_true c1; have ea_ := Option.some.inj (a2.symm.trans a3)
       injection ea_ with ea_ en_ ec_
       subst ea_; subst ec_; clear en_; refine Vo (n := 17) (S := fun w' => w'.cell? (a7.add ((a0).toNat * 2)) = some (.int .i64 ((Qt l0 a0).f0)) ∧ w'.cell? ⟨(a7.add ((a0).toNat * 2)).block, (a7.add ((a0).toNat * 2)).off + 1, none⟩ = some (.slice b5 ((Qt l0 a0).f1).length b6) ∧ w'.cell? (a7.add ((a0).toNat * 2)) = some (.int .i64 ((Qt l0 a0).f0)) ∧ w'.cell? ⟨(a7.add ((a0).toNat * 2)).block, (a7.add ((a0).toNat * 2)).off + 1, none⟩ = some (.slice b5 ((Qt l0 a0).f1).length b6)) (ds := []) (bz_ 17 0) (by kernel_rfl) rfl rfl ⟨((HB.out.cell (World.block_lt_of_cell? w _ hw101_0)).trans hw101_0), ((HB.out.cell (World.block_lt_of_cell? w _ hw101_1)).trans hw101_1), ((HB.out.cell (World.block_lt_of_cell? w _ hw105_0)).trans hw105_0), ((HB.out.cell (World.block_lt_of_cell? w _ hw105_1)).trans hw105_1)⟩ (fun hHeld => ?_); refine Yd Qv.tab5 Qv.bits5 (fun HT_ HW_ => ?_)
       generalize wr.drew = w6 at a1 HB d2 b4 a5 a2 a6 a3 hHeld ⊢
       refine Qx (i := 0) (N := some 11) (v := ?_) (a' := ?_) (bz_ 17 1) rfl rfl (Qs HT_.out (by kernel_rfl)) (fun _ _ _ h => h) (Or.inl ⟨by rfl, ?_⟩) ?_ ?_; rotate_left
       ·intro w'
        go_simp
        with_reducible rfl
       rotate_left
       ·simp only [Act.put, sA_, sB_, sC_, Qp, Qr]
        rfl
       refine Qx (i := 1) (N := some 12) (v := ?_) (a' := ?_) (bz_ 17 3) rfl rfl (Qs HT_.out (by kernel_rfl)) (fun _ _ _ h => h) (Or.inl ⟨by rfl, ?_⟩) ?_ ?_; rotate_left
       ·intro w'
        go_simp
        with_reducible rfl
       rotate_left
       ·simp only [Act.put, sA_, sB_, sC_, Qp, Qr]
        rfl
       refine Qx (i := 2) (N := some 13) (v := ?_) (a' := ?_) (bz_ 17 7) rfl rfl (Qs HT_.out (by kernel_rfl)) (fun _ _ _ h => h) (Or.inl ⟨by rfl, ?_⟩) ?_ ?_; rotate_left
       ·intro w'
        go_simp
        with_reducible rfl
       rotate_left
       ·simp only [Act.put, sA_, sB_, sC_, Qp, Qr]
        rfl
       refine Qx (i := 3) (N := some 14) (v := ?_) (a' := ?_) (bz_ 17 15) rfl rfl (Qs HT_.out (by kernel_rfl)) (fun _ _ _ h => h) (Or.inl ⟨by rfl, ?_⟩) ?_ ?_; rotate_left
       ·intro w'
        go_simp
        with_reducible rfl
       rotate_left
       ·simp only [Act.put, sA_, sB_, sC_, Qp, Qr]
        rfl
       refine Qx (i := 4) (N := some 15) (v := ?_) (a' := ?_) (bz_ 17 31) rfl rfl (Qs HT_.out (by kernel_rfl)) (fun _ _ _ h => h) (Or.inl ⟨by rfl, ?_⟩) ?_ ?_; rotate_left
       ·intro w'
        go_simp
        with_reducible rfl
       rotate_left
       ·simp only [Act.put, sA_, sB_, sC_, Qp, Qr]
        rfl
       refine Qx (i := 7) (N := some 18) (v := ?_) (a' := ?_) (bz_ 17 159) rfl rfl (Qs HT_.out (by kernel_rfl)) (fun _ _ _ h => h) (Or.inl ⟨by rfl, ?_⟩) ?_ ?_; rotate_left
       ·intro w'
        go_simp
        with_reducible rfl
       rotate_left
       ·simp only [Act.put, sA_, sB_, sC_, Qp, Qr]
        rfl
       refine Qx (i := 8) (N := some 19) (v := ?_) (a' := ?_) (bz_ 17 415) rfl rfl (Qs HT_.out (by kernel_rfl)) (fun _ _ _ h => h) (Or.inl ⟨by rfl, ?_⟩) ?_ ?_; rotate_left
       ·intro w'
        go_simp
        with_reducible rfl
       rotate_left
       ·simp only [Act.put, sA_, sB_, sC_, Qp, Qr]
        rfl
       refine Qx (i := 9) (N := some 20) (v := ?_) (a' := ?_) (bz_ 17 927) rfl rfl (Qs HT_.out (by kernel_rfl)) (fun _ _ _ h => h) (Or.inl ⟨by rfl, ?_⟩) ?_ ?_; rotate_left
       ·intro w'
        go_simp
        with_reducible rfl
       rotate_left
       ·simp only [Act.put, sA_, sB_, sC_, Qp, Qr]
        rfl
       refine Qx (i := 10) (N := some 21) (v := ?_) (a' := ?_) (bz_ 17 1951) rfl rfl (Qs HT_.out (by kernel_rfl)) (fun _ _ _ h => h) (Or.inl ⟨by rfl, ?_⟩) ?_ ?_; rotate_left
       ·intro w'
        go_simp
        with_reducible rfl
       rotate_left
       ·simp only [Act.put, sA_, sB_, sC_, Qp, Qr]
        rfl
       refine take_ (i := 5) (N := some 16) (v := ?_) (a' := ?_) (bz_ 17 1983) rfl rfl (Xb HT_.out HW_.out (by kernel_rfl)) (fun _ _ _ h => h) (Or.inl ⟨by rfl, ?_⟩) hHeld ?_ ?_; rotate_left
       ·rintro w' ⟨s0, s1, s2, s3⟩
        go_simp
        with_reducible rfl
       rotate_left
       ·simp only [Act.put, sA_, sB_, sC_, Qp, Qr]
        rfl
       refine take_ (i := 11) (N := some 22) (v := ?_) (a' := ?_) (bz_ 17 4031) rfl rfl (Xb HT_.out HW_.out (by kernel_rfl)) (fun _ _ _ h => h) (Or.inl ⟨by rfl, ?_⟩) hHeld ?_ ?_; rotate_left
       ·rintro w' ⟨s0, s1, s2, s3⟩
        go_simp
        with_reducible rfl
       rotate_left
       ·simp only [Act.put, sA_, sB_, sC_, Qp, Qr]
        rfl
       refine Jx (i := 6) (N := some 17) (bz_ 17 4095) rfl rfl (Ye HT_.out (by kernel_rfl)) (by decide) (fun K hK => ?_); refine Kd.R_lit_step Kd.string _ 9 ?hg (N := 17) ?hd (xs := ([] : List ByteArray)) (inner := []) (ok := fun _ => True) (okp := fun _ => True) ?hr ?hp (fun _ hk => hk) trivial (Below.refl _ _) (Nat.le_refl _) (by simp) ?_; (case hd => rfl); (case hg => rfl); (case hr => first | (go_simp; done) | (go_simp; rfl)); (case hp => exact (Zz.none _ _)); intro e5 w7 ho8 hb hg_ hnew_; clear hg_ hnew_
       (first | rw [← d0.out] at ho8 | (simp only [Int.reduceToNat] at ho8; rw [← d0.out] at ho8))
       have n0_ := Qa.mk (Kd.S_elder' (by (with_reducible repeat (first | apply Kd.S_alloc | apply Kd.S_drewN | apply Kd.S_drew)); exact a1.out) (Kd.R_base ho8) hb); have n1_ := Qa.mk (Kd.R_lower ho8 (Qh (by repeat (first | (with_reducible first | exact HB.out | apply Qc | apply Qb | apply Qd) | exact HB.out)))); have n2_ := Qa.mk (Qk (by repeat (first | (with_reducible first | exact HB.out | apply Qc | apply Qb | apply Qd) | exact HB.out)) hb); clear a1; clear HB; have a1 := n0_; have d1 := n1_; have HB := n2_; clear n0_ n1_ n2_; clear hb ho8; refine hK.out _ _ ⟨((HB.out.cell (World.block_lt_of_cell? w _ hw101_0)).trans hw101_0), ((HB.out.cell (World.block_lt_of_cell? w _ hw101_1)).trans hw101_1), ((HB.out.cell (World.block_lt_of_cell? w _ hw105_0)).trans hw105_0), ((HB.out.cell (World.block_lt_of_cell? w _ hw105_1)).trans hw105_1)⟩ (fun hHeld => ?_); clear hK K; refine Vn (a' := ?_) ?_ ?_; rotate_left
       ·show Act.put _ (some 17) _ = _
        simp only [Act.put, sA_, sB_, sC_, Qp, Qr]; rfl
       refine Jx (i := 12) (N := some 23) (bz_ 17 8191) rfl rfl (Ye HT_.out (by kernel_rfl)) (by decide) (fun K hK => ?_); refine Kd.R_append_rows_step Kd.string (w0 := w) w.heap.size (by rfl) (.tmp 17) (.tmp 22) 46 9 (.string ⟨#[]⟩) 16 rfl Tryz.underlying46 Vy rfl (by decide) (by omega) e5 a8 ((Qt l0 a0).f1) _ _ _ (fun _ => True) (fun _ => False) rfl rfl ?aO ?aR (fun _ _ h => h) (fun _ h => h.elim) ?aF ?aB ?aS ?aL ?_
       (case aR => repeat (first | exact (Kd.C_below b4.out HB.out) | (with_reducible refine Kd.C_alloc ?_ _) | (with_reducible refine Kd.C_drewN ?_ _) | (with_reducible refine Kd.C_drew ?_)))
       (case aB => exact (by repeat (first | (with_reducible first | exact HB.out | apply Qc | apply Qb | apply Qd) | exact HB.out)))
       (case aF => exact (fun _ _ => trivial))
       (case aO => exact (by (with_reducible repeat (first | apply Kd.R_alloc | apply Kd.R_drewN | apply Kd.R_drew)); exact d1.out))
       (case aS => exact (Qh (by repeat (first | (with_reducible first | exact HB.out | apply Qc | apply Qb | apply Qd) | exact HB.out))))
       (case aL => have := e1.out; omega)
       intro f3 w9 ho hb hg hat
       rw [← d6.out] at ho
       have n0_ := Qa.mk (Kd.S_after (ok := (fun _ => True)) (by (with_reducible repeat (first | apply Kd.S_alloc | apply Kd.S_drewN | apply Kd.S_drew)); exact a1.out) hg hat); have n1_ := Qa.mk (hb); have n2_ := Qa.mk (ho); clear a1; clear HB; clear d1; have a1 := n0_; have HB := n1_; have b3 := n2_; clear n0_ n1_ n2_; clear ho hb hg hat; obtain ⟨d4, d5, eo10⟩ := Kd.R_slice b3.out
       (first | subst eo10 | (injection eo10 with f1_ f2_ f3_; have f4_ := f1_.symm; have f5_ := f3_.symm; clear f1_ f2_ f3_; subst f4_; subst f5_))
       refine hK.out _ _ ⟨((HB.out.cell (World.block_lt_of_cell? w _ hw101_0)).trans hw101_0), ((HB.out.cell (World.block_lt_of_cell? w _ hw101_1)).trans hw101_1), ((HB.out.cell (World.block_lt_of_cell? w _ hw105_0)).trans hw105_0), ((HB.out.cell (World.block_lt_of_cell? w _ hw105_1)).trans hw105_1)⟩ (fun hHeld => ?_); clear hK K; refine Vn (a' := ?_) ?_ ?_; rotate_left
       ·show Act.put _ (some 23) _ = _
        simp only [Act.put, sA_, sB_, sC_, Qp, Qr]; rfl
       refine Qx (i := 13) (N := some 24) (v := ?_) (a' := ?_) (bz_ 17 16383) rfl rfl (Qs HT_.out (by kernel_rfl)) (fun _ _ _ h => h) (Or.inl ⟨by rfl, ?_⟩) ?_ ?_; rotate_left
       ·intro w'
        go_simp
        with_reducible rfl
       rotate_left
       ·simp only [Act.put, sA_, sB_, sC_, Qp, Qr]
        rfl
       refine Jx (i := 14) (N := some 25) (bz_ 17 32767) rfl rfl (Ye HT_.out (by kernel_rfl)) (by decide) (fun K hK => ?_); refine Jp (w1 := ?_) (v := ?_) (by rfl) rfl ?_ ?_; rotate_left 2
       ·go_simp
        constructor
        ·rfl
        ·rfl
       refine hK.out _ _ ⟨(World.cell?_alloc_lt _ _ _ (World.block_lt_of_cell? _ _ (((HB.out.cell (World.block_lt_of_cell? w _ hw101_0)).trans hw101_0)))).trans (((HB.out.cell (World.block_lt_of_cell? w _ hw101_0)).trans hw101_0)), (World.cell?_alloc_lt _ _ _ (World.block_lt_of_cell? _ _ (((HB.out.cell (World.block_lt_of_cell? w _ hw101_1)).trans hw101_1)))).trans (((HB.out.cell (World.block_lt_of_cell? w _ hw101_1)).trans hw101_1)), (World.cell?_alloc_lt _ _ _ (World.block_lt_of_cell? _ _ (((HB.out.cell (World.block_lt_of_cell? w _ hw105_0)).trans hw105_0)))).trans (((HB.out.cell (World.block_lt_of_cell? w _ hw105_0)).trans hw105_0)), (World.cell?_alloc_lt _ _ _ (World.block_lt_of_cell? _ _ (((HB.out.cell (World.block_lt_of_cell? w _ hw105_1)).trans hw105_1)))).trans (((HB.out.cell (World.block_lt_of_cell? w _ hw105_1)).trans hw105_1))⟩ (fun hHeld => ?_); clear hK K; refine Vn (a' := ?_) ?_ ?_; rotate_left
       ·show Act.put _ (some 25) _ = _
        simp only [Act.put, sA_, sB_, sC_, Qp, Qr]; rfl
       refine Jx (i := 15) (N := some 26) (bz_ 17 65535) rfl rfl (Ye HT_.out (by kernel_rfl)) (by decide) (fun K hK => ?_); refine Kd.S_append_step k49 (w0 := w) w.heap.size (by rfl) (.tmp 11) (.tmp 25) 26 49 (.agg #[(.int .i64 0), (.slice none 0 0)]) 32 rfl Tryz.underlying26 Qjr rfl (by decide) (by omega) u3 a4 (⟨(Qt l0 a0).f0, b2⟩ : S49) [.int .i64 ((Qt l0 a0).f0), .slice d4 b2.length d5] (fun _ => True) (fun k_ => some k_ = (.slice d4 b2.length d5 : Value).ownBlock) rfl rfl ?aP (fun k_ hk_ => ((Kd.R_mono (ok' := fun k_ => ((fun _ => True)) k_ ∧ some k_ ≠ (u3 : Value).ownBlock) (Kd.R_apart' (b3.out) (Kd.S_typed a1.out) (by decide)) (fun k_ hk => ⟨trivial, hk.2⟩))).1 k_ hk_.symm) ?aF ?aO ?aB ?aS ?aL ?_
       (case aP => exact Qdz _ _ _ (⟨(Qt l0 a0).f0, b2⟩ : S49) (Kd.R_mono (Kd.R_tight rfl (Kd.R_mono (ok' := fun k_ => ((fun _ => True)) k_ ∧ some k_ ≠ (u3 : Value).ownBlock) (Kd.R_apart' (b3.out) (Kd.S_typed a1.out) (by decide)) (fun k_ hk => ⟨trivial, hk.2⟩))) (fun _ h_ => h_)))
       (case aB => exact (by repeat (first | (with_reducible first | exact HB.out | apply Qc | apply Qb | apply Qd) | exact HB.out)))
       (case aF => exact (fun _ _ => trivial))
       (case aO => exact (by (with_reducible repeat (first | apply Kd.S_alloc | apply Kd.S_drewN | apply Kd.S_drew)); exact Kd.S_mono a1.out (fun k_ hk => ⟨trivial, fun e_ => hk.2 e_⟩)))
       (case aS => exact (Qh (by repeat (first | (with_reducible first | exact HB.out | apply Qc | apply Qb | apply Qd) | exact HB.out))))
       (case aL => have := e2.out; omega)
       intro f4 w11 ho hb hg hat
       rw [← d7.out] at ho
       have n0_ := Qa.mk (hb); have n1_ := Qa.mk (ho); clear HB; clear a1; clear b3; have HB := n0_; have d9 := n1_; clear n0_ n1_; clear ho hb hg hat; refine hK.out _ _ ⟨((HB.out.cell (World.block_lt_of_cell? w _ hw101_0)).trans hw101_0), ((HB.out.cell (World.block_lt_of_cell? w _ hw101_1)).trans hw101_1), ((HB.out.cell (World.block_lt_of_cell? w _ hw105_0)).trans hw105_0), ((HB.out.cell (World.block_lt_of_cell? w _ hw105_1)).trans hw105_1)⟩ (fun hHeld => ?_); clear hK K; refine Vn (a' := ?_) ?_ ?_; rotate_left
       ·show Act.put _ (some 26) _ = _
        simp only [Act.put, sA_, sB_, sC_, Qp, Qr]; rfl
       refine Qx (i := 16) (N := some 3) (v := ?_) (a' := ?_) (bz_ 17 131071) rfl rfl (Qs HT_.out (by kernel_rfl)) (fun _ _ _ h => h) (Or.inl ⟨by rfl, ?_⟩) ?_ ?_; rotate_left
       ·intro w'
        go_simp
        with_reducible rfl
       rotate_left
       ·simp only [Act.put, sA_, sB_, sC_, Qp, Qr]
        rfl
       refine Un (Vb HT_.out (by kernel_rfl)) ?_
       try go_wp2
       go_roundg k1
       case measure => have := HK1.out; omega
       case rel => exact ⟨(d3), (wrap64 (a0 + 1)), (by first | rfl | (simp; done) | (simp [*]; done)), H', ⟨by have := HK1.out; omega⟩, ⟨by (with_reducible repeat (first | apply Kd.S_alloc | apply Kd.S_drewN | apply Kd.S_drew)); exact d9.out⟩, ⟨by repeat (first | (with_reducible first | exact HB.out | apply Qc | apply Qb | apply Qd) | exact HB.out)⟩⟩
      ·rw [if_neg c5] at H
       exact absurd H (by simp)
     ·rw [if_neg c4] at H
      exact absurd H (by simp)
    ·rw [if_neg c3] at H
     exact absurd H (by simp)
   ·rw [if_neg c2] at H
    have e0 : decide (a0 < (l0.length : Int)) = false := decide_eq_false c2; clear c2; obtain rfl := Option.some.inj H
    go_wp2
    go_ret; exact ⟨_, by first | rfl | (simp [Qz, Za] <;> rfl) | (simp [*, Qz, Za] <;> rfl), by (with_reducible repeat (first | apply Kd.S_alloc | apply Kd.S_drewN | apply Kd.S_drew)); exact a1.out, by repeat (first | (with_reducible first | exact HB.out | apply Qc | apply Qb | apply Qd) | exact HB.out)⟩
end Go.Proofs.YtadafplbgophfaaGreatDoor.PA
end
