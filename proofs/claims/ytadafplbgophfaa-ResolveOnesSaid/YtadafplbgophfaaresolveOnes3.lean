/- Part 3 of what the row of the law ResolveOnes rests on: walks of functions, and plain lemmas (in part printed by the kit's print, what is not reached left out). -/
import Derived.Test.YtadafplbgophfaaresolveOnes2
import Derived.Deep.Strs
import Derived.Deep.Grids
import Derived.Deep.SlicePairs
import Derived.OpenShut
import Derived.SizedLaws
section
namespace Go.Proofs.Ytadafplbgophfaa.PA
open Go.RowKit Go.Proofs.YtadafplbgophfaaW.PrintWords Go.Proofs.YtadafplbgophfaaW.PrintLast Go.Proofs.YtadafplbgophfaaW.PrintMore
attribute [local go_sem] max2_int min2_int max_two min_two max_three min_three max_four min_four   -- for this text's walks alone
set_option linter.unusedVariables false
set_option linter.unusedSimpArgs false
mutual
def tripartiteref07_Of.l0 : Nat → List (S123) → List (S123) → Int → Option ((List (S123)))
 | 0, _, _, _ => none
 | k + 1, x0, x3, x4 => if x4 < (x0.length : Int) then (if 0 ≤ x4 then ((tripartiteref07_text.f ((rd_T123 x0 x4).f0) ((rd_T123 x0 x4).f1) ((rd_T123 x0 x4).f2) ((rd_T123 x0 x4).f3) ((rd_T123 x0 x4).f4) ((rd_T123 x0 x4).f5) ((rd_T123 x0 x4).f6) ((rd_T123 x0 x4).f7) ((rd_T123 x0 x4).f8)).bind fun t102 => (if t102 = true then (tripartiteref07_Of.j1 k x0 x3 x4 (x3.length : Int) (((rd_T123 x0 x4).f4).toList == ([] : List UInt8))) else (tripartiteref07_Of.j1 k x0 x3 x4 (x3.length : Int) false))) else (none)) else (some x3)
def tripartiteref07_Of.j1 : Nat → List (S123) → List (S123) → Int → Int → Bool → Option ((List (S123)))
 | 0, _, _, _, _, _ => none
 | k + 1, x0, x3, x4, x5, x26 => if x26 = true then (tripartiteref07_Of.l0 k x0 x3 (wrap64 (x4 + 1))) else (if 0 ≤ x4 then (if x4 < (x0.length : Int) then ((tripartiteref07_text.f ((rd_T123 x0 x4).f0) ((rd_T123 x0 x4).f1) ((rd_T123 x0 x4).f2) ((rd_T123 x0 x4).f3) ((rd_T123 x0 x4).f4) ((rd_T123 x0 x4).f5) ((rd_T123 x0 x4).f6) ((rd_T123 x0 x4).f7) ((rd_T123 x0 x4).f8)).bind fun t105 => (if t105 = true then (if x5 > 0 then (if 0 ≤ (wrap64 (x5 - 1)) then (if (wrap64 (x5 - 1)) < (x3.length : Int) then ((tripartiteref07_text.f ((rd_T123 x3 (wrap64 (x5 - 1))).f0) ((rd_T123 x3 (wrap64 (x5 - 1))).f1) ((rd_T123 x3 (wrap64 (x5 - 1))).f2) ((rd_T123 x3 (wrap64 (x5 - 1))).f3) ((rd_T123 x3 (wrap64 (x5 - 1))).f4) ((rd_T123 x3 (wrap64 (x5 - 1))).f5) ((rd_T123 x3 (wrap64 (x5 - 1))).f6) ((rd_T123 x3 (wrap64 (x5 - 1))).f7) ((rd_T123 x3 (wrap64 (x5 - 1))).f8)).bind fun t107 => (if t107 = true then (if ((rd_T123 x3 (wrap64 (x5 - 1))).f4).size + ((rd_T123 x0 x4).f4).size ≤ 9223372036854775807 then (tripartiteref07_Of.l0 k x0 (x3.set ((wrap64 (x5 - 1)) : Int).toNat (⟨(rd_T123 x3 (wrap64 (x5 - 1))).f0, (rd_T123 x3 (wrap64 (x5 - 1))).f1, (rd_T123 x3 (wrap64 (x5 - 1))).f2, (rd_T123 x3 (wrap64 (x5 - 1))).f3, ((rd_T123 x3 (wrap64 (x5 - 1))).f4) ++ ((rd_T123 x0 x4).f4), (rd_T123 x3 (wrap64 (x5 - 1))).f5, (rd_T123 x3 (wrap64 (x5 - 1))).f6, (rd_T123 x3 (wrap64 (x5 - 1))).f7, (rd_T123 x3 (wrap64 (x5 - 1))).f8⟩ : S123)) (wrap64 (x4 + 1))) else (none)) else (if x3.length < 1099511627776 then (tripartiteref07_Of.l0 k x0 (x3 ++ [(⟨(rd_T123 x0 x4).f0, (rd_T123 x0 x4).f1, (rd_T123 x0 x4).f2, (rd_T123 x0 x4).f3, (rd_T123 x0 x4).f4, (rd_T123 x0 x4).f5, (rd_T123 x0 x4).f6, (rd_T123 x0 x4).f7, (rd_T123 x0 x4).f8⟩ : S123)]) (wrap64 (x4 + 1))) else (none)))) else (none)) else (none)) else (if x3.length < 1099511627776 then (tripartiteref07_Of.l0 k x0 (x3 ++ [(⟨(rd_T123 x0 x4).f0, (rd_T123 x0 x4).f1, (rd_T123 x0 x4).f2, (rd_T123 x0 x4).f3, (rd_T123 x0 x4).f4, (rd_T123 x0 x4).f5, (rd_T123 x0 x4).f6, (rd_T123 x0 x4).f7, (rd_T123 x0 x4).f8⟩ : S123)]) (wrap64 (x4 + 1))) else (none))) else (if x3.length < 1099511627776 then (tripartiteref07_Of.l0 k x0 (x3 ++ [(⟨(rd_T123 x0 x4).f0, (rd_T123 x0 x4).f1, (rd_T123 x0 x4).f2, (rd_T123 x0 x4).f3, (rd_T123 x0 x4).f4, (rd_T123 x0 x4).f5, (rd_T123 x0 x4).f6, (rd_T123 x0 x4).f7, (rd_T123 x0 x4).f8⟩ : S123)]) (wrap64 (x4 + 1))) else (none)))) else (none)) else (none))
end
def tripartiteref07_Of.f (k : Nat) (l0 : List (S123)) : Option ((List (S123))) := tripartiteref07_Of.l0 k l0 ([] : List (S123)) 0
def tripartiteref07_Of.T8 : Bool × List (List Nat × List Nat) := (true, [([], []), ([], []), ([1], [1]), ([], []), ([], []), ([4], [4]), ([3, 5], [3, 5]), ([6], [6]), ([7], [7]), ([], []), ([], []), ([9, 10], [9, 10]), ([11], [11]), ([12], [12]), ([8, 13], [8, 13]), ([0, 2, 0, 1, 2, 3, 4, 5, 6, 7, 8, 9, 10, 11, 12, 13, 14], [0, 2]), ([15, 0, 1, 2, 3, 4, 5, 6, 7, 8, 9, 10, 11, 12, 13, 14], [15]), ([16, 14, 0, 1, 2, 3, 4, 5, 6, 7, 8, 9, 10, 11, 12, 13, 14], [14, 16])])
def tripartiteref07_Of.B8 : List Nat := [0, 0, 2, 0, 0, 16, 56, 120, 248, 0, 0, 1536, 3584, 7680, 16376, 32767, 65535, 131071]
theorem tripartiteref07_Of.tab8 : rtab .any (opsOf Try.f113 8) = tripartiteref07_Of.T8 := by kernel_rfl
theorem tripartiteref07_Of.bits8 : waitsOk tripartiteref07_Of.T8.2 tripartiteref07_Of.B8 = true := by kernel_rfl
set_option maxHeartbeats 8000000 in
set_option maxRecDepth 100000 in
theorem tripartiteref07_Of.calls (k : Nat) (A0 : Option Addr) (c0 : Nat) (l0 : List (S123)) (r : List (S123)) (w : World) (hr0 : Kd.C k123 w A0 l0.length l0) (hc0 : l0.length ≤ c0) (h : tripartiteref07_Of.f k l0 = some r) :
  Calls Try.prog 113 #[.slice A0 l0.length c0] w fun e w' => ∃ v0_ : Value, e = .returned (v0_) ∧ Kd.R k123 123 w' w.heap.size (fun _ => True) v0_ r ∧ Below w.heap.size w w' := by
 have hu123 := Try.underlying123
 have HR0 := Aside0.mk hr0
 have HC0 := Aside0.mk hc0
 clear hr0 hc0
 have HB := Aside0.mk (Below.refl w.heap.size w)
 have H : (tripartiteref07_Of.l0 k l0 ([] : List (S123)) 0) = some r := h
 clear h
 have H' := Aside0.mk H
 clear H
 go_enter Try.func113, Try.ntmps113
 go_wp2
 go_loopg [3, 4] k (fun kq v3 v4 w' => ∃ (x3_1 : List (S123)) (x4_1 : Int), v4 = .int .i64 x4_1 ∧ Aside0 (tripartiteref07_Of.l0 kq l0 x3_1 x4_1 = some r) ∧ Aside0 (kq ≤ k) ∧ Aside0 (Kd.R k123 123 w' w.heap.size (fun _ => True) v3 x3_1) ∧ Aside0 (Below w.heap.size w w'))
 case atStart => exact ⟨(([] : List (S123))), (0), (by first | rfl | (simp; done) | (simp [*]; done)), H', ⟨Nat.le_refl _⟩, ⟨by first | exact Kd.R_nil _ _ _ _ _ | exact Kd.N_nil _ _ _ _ _ | exact Kd.V_nil _ _ _ _ _ | exact Kd.Q_nil _ _ _ _ _ | exact Kd.S_nil _ _ _ _ _⟩, ⟨by repeat (first | (with_reducible first | exact HB.out | apply below_alloc | apply pw_below_drewN | apply below_drew1) | exact HB.out)⟩⟩
 case round =>
  clear H'
  try clear c1
  obtain ⟨x3_1, x4_1, rfl, HA, HK1, HO_3, HB⟩ := hrel
  cases gk with
  | zero => exact absurd HA.out (by simp [tripartiteref07_Of.l0])
  | succ k1 =>
   have H := HA.out
   clear HA
   simp only [tripartiteref07_Of.l0] at H
   by_cases c2 : x4_1 < (l0.length : Int)
   ·rw [if_pos c2] at H
    have c2b0 : decide (x4_1 < (l0.length : Int)) = true := decide_eq_true c2
    clear c2
    have HC3 := Aside0.mk H
    clear H
    obtain ⟨Ao4, co4, eo4⟩ := Kd.R_slice HO_3.out
    subst eo4
    go_upto_region 6 with (fail)
    go_cut [26] (fun v26 wc => ∃ (kq : Nat) (x26_2 : Bool), v26 = .bool x26_2 ∧ Aside0 (tripartiteref07_Of.j1 kq l0 x3_1 x4_1 (x3_1.length : Int) x26_2 = some r) ∧ Aside0 (kq ≤ k1) ∧ Aside0 (Kd.R k123 123 wc w.heap.size (fun _ => True) (.slice Ao4 x3_1.length co4) x3_1) ∧ Aside0 (Below w.heap.size w wc))
    case first =>
     have H := HC3.out
     clear HC3
     by_cases c5 : 0 ≤ x4_1
     ·rw [if_pos c5] at H
      have c5b0 : decide (0 ≤ x4_1) = true := decide_eq_true c5
      clear c5
      (first | rw [c5b0] | (simp only [i64_w, i32_w]; rw [c5b0]) | skip)
      replace H := Option.bind_eq_some_iff.mp H
      obtain ⟨t102, A60, H⟩ := H
      replace H : (if t102 = true then (tripartiteref07_Of.j1 k1 l0 x3_1 x4_1 (x3_1.length : Int) (((rd_T123 l0 x4_1).f4).toList == ([] : List UInt8))) else (tripartiteref07_Of.j1 k1 l0 x3_1 x4_1 (x3_1.length : Int) false)) = some r := H
      have A6 := Aside0.mk A60
      clear A60
      by_cases c7 : t102 = true
      ·subst c7
       have H1 : (tripartiteref07_Of.j1 k1 l0 x3_1 x4_1 (x3_1.length : Int) (((rd_T123 l0 x4_1).f4).toList == ([] : List UInt8))) = some r := by rw [if_pos rfl] at H; exact H
       clear H
       have H := H1
       clear H1
       have H' := Aside0.mk H
       clear H
       have p101 : 0 ≤ (x4_1 : Int) := of_decide_eq_true (by first | (with_reducible assumption) | assumption)
       have q101 : x4_1 < (l0.length : Int) := of_decide_eq_true (by first | (with_reducible assumption) | assumption)
       obtain ⟨ad101, e101, hx101_0, hx101_1, hx101_2, hx101_3, hx101_4, hx101_5, hx101_6, hx101_7, hx101_8⟩ := at_T123 HR0.out x4_1 p101 q101
       cases e101
       replace hx101_0 := (HB.out.cell (World.block_lt_of_cell? w _ hx101_0)).trans hx101_0
       replace hx101_1 := (HB.out.cell (World.block_lt_of_cell? w _ hx101_1)).trans hx101_1
       replace hx101_2 := (HB.out.cell (World.block_lt_of_cell? w _ hx101_2)).trans hx101_2
       replace hx101_3 := (HB.out.cell (World.block_lt_of_cell? w _ hx101_3)).trans hx101_3
       replace hx101_4 := (HB.out.cell (World.block_lt_of_cell? w _ hx101_4)).trans hx101_4
       replace hx101_5 := (HB.out.cell (World.block_lt_of_cell? w _ hx101_5)).trans hx101_5
       replace hx101_6 := (HB.out.cell (World.block_lt_of_cell? w _ hx101_6)).trans hx101_6
       replace hx101_7 := (HB.out.cell (World.block_lt_of_cell? w _ hx101_7)).trans hx101_7
       replace hx101_8 := (HB.out.cell (World.block_lt_of_cell? w _ hx101_8)).trans hx101_8
       replace p101 := eq_true p101
       replace q101 := eq_true q101
       go_wp2_with (first | ((with_reducible refine gate_callee (f := 134) rfl ?_); refine goesL_ (some 18) rfl rfl Try.func134 (by kernel_rfl) rfl #[.agg #[.string ((rd_T123 l0 x4_1).f0), .string ((rd_T123 l0 x4_1).f1), .string ((rd_T123 l0 x4_1).f2), .bool ((rd_T123 l0 x4_1).f3), .string ((rd_T123 l0 x4_1).f4), .string ((rd_T123 l0 x4_1).f5), .string ((rd_T123 l0 x4_1).f6), .string ((rd_T123 l0 x4_1).f7), .bool ((rd_T123 l0 x4_1).f8)]] rfl (by (try simp only [List.map_toArray, List.map_cons, List.map_nil]); first | done | rfl | (simp only [List.length_drop, List.length_take]; rfl)) ?_; (with_reducible refine (tripartiteref07_text.calls ((rd_T123 l0 x4_1).f0) ((rd_T123 l0 x4_1).f1) ((rd_T123 l0 x4_1).f2) ((rd_T123 l0 x4_1).f3) ((rd_T123 l0 x4_1).f4) ((rd_T123 l0 x4_1).f5) ((rd_T123 l0 x4_1).f6) ((rd_T123 l0 x4_1).f7) ((rd_T123 l0 x4_1).f8) true _ A6.out).mono ?_); rintro e w8 ⟨rfl, hb⟩; refine ⟨_, rfl, ?_⟩; have n0_ := Aside0.mk (Kd.R_below (by (with_reducible repeat (first | apply Kd.R_alloc | apply Kd.R_drewN | apply Kd.R_drew)); exact HO_3.out) hb); have n1_ := Aside0.mk (below_step (by repeat (first | (with_reducible first | exact HB.out | apply below_alloc | apply pw_below_drewN | apply below_drew1) | exact HB.out)) hb); clear HO_3; clear HB; have HO_3 := n0_; have HB := n1_; clear n0_ n1_; (try clear hb); (try clear hb2); (try clear hk); (try clear hi); have p103 : 0 ≤ (x4_1 : Int) := of_decide_eq_true (by first | (with_reducible assumption) | assumption); have q103 : x4_1 < (l0.length : Int) := of_decide_eq_true (by first | (with_reducible assumption) | assumption); obtain ⟨ad103, e103, hx103_0, hx103_1, hx103_2, hx103_3, hx103_4, hx103_5, hx103_6, hx103_7, hx103_8⟩ := at_T123 HR0.out x4_1 p103 q103; obtain rfl : ad101 = ad103 := (by injection e103); replace hx103_0 := (HB.out.cell (World.block_lt_of_cell? w _ hx103_0)).trans hx103_0; replace hx103_1 := (HB.out.cell (World.block_lt_of_cell? w _ hx103_1)).trans hx103_1; replace hx103_2 := (HB.out.cell (World.block_lt_of_cell? w _ hx103_2)).trans hx103_2; replace hx103_3 := (HB.out.cell (World.block_lt_of_cell? w _ hx103_3)).trans hx103_3; replace hx103_4 := (HB.out.cell (World.block_lt_of_cell? w _ hx103_4)).trans hx103_4; replace hx103_5 := (HB.out.cell (World.block_lt_of_cell? w _ hx103_5)).trans hx103_5; replace hx103_6 := (HB.out.cell (World.block_lt_of_cell? w _ hx103_6)).trans hx103_6; replace hx103_7 := (HB.out.cell (World.block_lt_of_cell? w _ hx103_7)).trans hx103_7; replace hx103_8 := (HB.out.cell (World.block_lt_of_cell? w _ hx103_8)).trans hx103_8; replace p103 := eq_true p103; replace q103 := eq_true q103))
       go_meet
       case rel => exact ⟨_, ((((rd_T123 l0 x4_1).f4).toList == ([] : List UInt8))), (by first | rfl | (simp; done) | (simp [*]; done)), H', ⟨by have := HK1.out; first | omega | exact Nat.le_refl _⟩, ⟨by (with_reducible repeat (first | apply Kd.R_alloc | apply Kd.R_drewN | apply Kd.R_drew)); exact HO_3.out⟩, ⟨by repeat (first | (with_reducible first | exact HB.out | apply below_alloc | apply pw_below_drewN | apply below_drew1) | exact HB.out)⟩⟩
      ·replace c7 := Bool.eq_false_iff.mpr c7
       subst c7
       have H1 : (tripartiteref07_Of.j1 k1 l0 x3_1 x4_1 (x3_1.length : Int) false) = some r := by rw [if_neg (show ¬ (false = true) by decide)] at H; exact H
       clear H
       have H := H1
       clear H1
       have H' := Aside0.mk H
       clear H
       have p101 : 0 ≤ (x4_1 : Int) := of_decide_eq_true (by first | (with_reducible assumption) | assumption)
       have q101 : x4_1 < (l0.length : Int) := of_decide_eq_true (by first | (with_reducible assumption) | assumption)
       obtain ⟨ad101, e101, hx101_0, hx101_1, hx101_2, hx101_3, hx101_4, hx101_5, hx101_6, hx101_7, hx101_8⟩ := at_T123 HR0.out x4_1 p101 q101
       cases e101
       replace hx101_0 := (HB.out.cell (World.block_lt_of_cell? w _ hx101_0)).trans hx101_0
       replace hx101_1 := (HB.out.cell (World.block_lt_of_cell? w _ hx101_1)).trans hx101_1
       replace hx101_2 := (HB.out.cell (World.block_lt_of_cell? w _ hx101_2)).trans hx101_2
       replace hx101_3 := (HB.out.cell (World.block_lt_of_cell? w _ hx101_3)).trans hx101_3
       replace hx101_4 := (HB.out.cell (World.block_lt_of_cell? w _ hx101_4)).trans hx101_4
       replace hx101_5 := (HB.out.cell (World.block_lt_of_cell? w _ hx101_5)).trans hx101_5
       replace hx101_6 := (HB.out.cell (World.block_lt_of_cell? w _ hx101_6)).trans hx101_6
       replace hx101_7 := (HB.out.cell (World.block_lt_of_cell? w _ hx101_7)).trans hx101_7
       replace hx101_8 := (HB.out.cell (World.block_lt_of_cell? w _ hx101_8)).trans hx101_8
       replace p101 := eq_true p101
       replace q101 := eq_true q101
       go_wp2_with (first | ((with_reducible refine gate_callee (f := 134) rfl ?_); refine goesL_ (some 18) rfl rfl Try.func134 (by kernel_rfl) rfl #[.agg #[.string ((rd_T123 l0 x4_1).f0), .string ((rd_T123 l0 x4_1).f1), .string ((rd_T123 l0 x4_1).f2), .bool ((rd_T123 l0 x4_1).f3), .string ((rd_T123 l0 x4_1).f4), .string ((rd_T123 l0 x4_1).f5), .string ((rd_T123 l0 x4_1).f6), .string ((rd_T123 l0 x4_1).f7), .bool ((rd_T123 l0 x4_1).f8)]] rfl (by (try simp only [List.map_toArray, List.map_cons, List.map_nil]); first | done | rfl | (simp only [List.length_drop, List.length_take]; rfl)) ?_; (with_reducible refine (tripartiteref07_text.calls ((rd_T123 l0 x4_1).f0) ((rd_T123 l0 x4_1).f1) ((rd_T123 l0 x4_1).f2) ((rd_T123 l0 x4_1).f3) ((rd_T123 l0 x4_1).f4) ((rd_T123 l0 x4_1).f5) ((rd_T123 l0 x4_1).f6) ((rd_T123 l0 x4_1).f7) ((rd_T123 l0 x4_1).f8) false _ A6.out).mono ?_); rintro e w9 ⟨rfl, hb⟩; refine ⟨_, rfl, ?_⟩; have n0_ := Aside0.mk (Kd.R_below (by (with_reducible repeat (first | apply Kd.R_alloc | apply Kd.R_drewN | apply Kd.R_drew)); exact HO_3.out) hb); have n1_ := Aside0.mk (below_step (by repeat (first | (with_reducible first | exact HB.out | apply below_alloc | apply pw_below_drewN | apply below_drew1) | exact HB.out)) hb); clear HO_3; clear HB; have HO_3 := n0_; have HB := n1_; clear n0_ n1_; (try clear hb); (try clear hb2); (try clear hk); (try clear hi)))
       go_meet
       case rel => exact ⟨_, (false), (by first | rfl | (simp; done) | (simp [*]; done)), H', ⟨by have := HK1.out; first | omega | exact Nat.le_refl _⟩, ⟨by (with_reducible repeat (first | apply Kd.R_alloc | apply Kd.R_drewN | apply Kd.R_drew)); exact HO_3.out⟩, ⟨by repeat (first | (with_reducible first | exact HB.out | apply below_alloc | apply pw_below_drewN | apply below_drew1) | exact HB.out)⟩⟩
     ·rw [if_neg c5] at H
      exact absurd H (by simp)
    case rest =>
     clear HC3
     try clear c1
     try clear p1
     try clear q1
     try clear hx1
     try clear c2
     try clear c2b0
     try clear p2
     try clear c5
     try clear c5b0
     try clear c7
     try clear hx101_0
     try clear hx101_1
     try clear hx101_2
     try clear hx101_3
     try clear hx101_4
     try clear hx101_5
     try clear hx101_6
     try clear hx101_7
     try clear hx101_8
     try clear hx103_0
     try clear hx103_1
     try clear hx103_2
     try clear hx103_3
     try clear hx103_4
     try clear hx103_5
     try clear hx103_6
     try clear hx103_7
     try clear hx103_8
     try clear p101
     try clear p103
     try clear q101
     try clear q103
     obtain ⟨kq, x26_2, rfl, HA, HJ2, HO_3, HB⟩ := hcut
     cases kq with
     | zero => exact absurd HA.out (by simp [tripartiteref07_Of.j1])
     | succ kj2 =>
      have H := HA.out
      clear HA
      simp only [tripartiteref07_Of.j1] at H
      by_cases c10 : x26_2 = true
      ·subst c10
       have H1 : (tripartiteref07_Of.l0 kj2 l0 x3_1 (wrap64 (x4_1 + 1))) = some r := by rw [if_pos rfl] at H; exact H
       clear H
       have H := H1
       clear H1
       have H' := Aside0.mk H
       clear H
       go_wp2
       go_roundg kj2
       case measure => have := HK1.out; have := HJ2.out; omega
       case rel => exact ⟨(x3_1), (wrap64 (x4_1 + 1)), (by first | rfl | (simp; done) | (simp [*]; done)), H', ⟨by have := HK1.out; have := HJ2.out; omega⟩, ⟨by (with_reducible repeat (first | apply Kd.R_alloc | apply Kd.R_drewN | apply Kd.R_drew)); exact HO_3.out⟩, ⟨by repeat (first | (with_reducible first | exact HB.out | apply below_alloc | apply pw_below_drewN | apply below_drew1) | exact HB.out)⟩⟩
      ·replace c10 := Bool.eq_false_iff.mpr c10
       subst c10
       have H1 : (if 0 ≤ x4_1 then (if x4_1 < (l0.length : Int) then ((tripartiteref07_text.f ((rd_T123 l0 x4_1).f0) ((rd_T123 l0 x4_1).f1) ((rd_T123 l0 x4_1).f2) ((rd_T123 l0 x4_1).f3) ((rd_T123 l0 x4_1).f4) ((rd_T123 l0 x4_1).f5) ((rd_T123 l0 x4_1).f6) ((rd_T123 l0 x4_1).f7) ((rd_T123 l0 x4_1).f8)).bind fun t105 => (if t105 = true then (if (x3_1.length : Int) > 0 then (if 0 ≤ (wrap64 ((x3_1.length : Int) - 1)) then (if (wrap64 ((x3_1.length : Int) - 1)) < (x3_1.length : Int) then ((tripartiteref07_text.f ((rd_T123 x3_1 (wrap64 ((x3_1.length : Int) - 1))).f0) ((rd_T123 x3_1 (wrap64 ((x3_1.length : Int) - 1))).f1) ((rd_T123 x3_1 (wrap64 ((x3_1.length : Int) - 1))).f2) ((rd_T123 x3_1 (wrap64 ((x3_1.length : Int) - 1))).f3) ((rd_T123 x3_1 (wrap64 ((x3_1.length : Int) - 1))).f4) ((rd_T123 x3_1 (wrap64 ((x3_1.length : Int) - 1))).f5) ((rd_T123 x3_1 (wrap64 ((x3_1.length : Int) - 1))).f6) ((rd_T123 x3_1 (wrap64 ((x3_1.length : Int) - 1))).f7) ((rd_T123 x3_1 (wrap64 ((x3_1.length : Int) - 1))).f8)).bind fun t107 => (if t107 = true then (if ((rd_T123 x3_1 (wrap64 ((x3_1.length : Int) - 1))).f4).size + ((rd_T123 l0 x4_1).f4).size ≤ 9223372036854775807 then (tripartiteref07_Of.l0 kj2 l0 (x3_1.set ((wrap64 ((x3_1.length : Int) - 1)) : Int).toNat (⟨(rd_T123 x3_1 (wrap64 ((x3_1.length : Int) - 1))).f0, (rd_T123 x3_1 (wrap64 ((x3_1.length : Int) - 1))).f1, (rd_T123 x3_1 (wrap64 ((x3_1.length : Int) - 1))).f2, (rd_T123 x3_1 (wrap64 ((x3_1.length : Int) - 1))).f3, ((rd_T123 x3_1 (wrap64 ((x3_1.length : Int) - 1))).f4) ++ ((rd_T123 l0 x4_1).f4), (rd_T123 x3_1 (wrap64 ((x3_1.length : Int) - 1))).f5, (rd_T123 x3_1 (wrap64 ((x3_1.length : Int) - 1))).f6, (rd_T123 x3_1 (wrap64 ((x3_1.length : Int) - 1))).f7, (rd_T123 x3_1 (wrap64 ((x3_1.length : Int) - 1))).f8⟩ : S123)) (wrap64 (x4_1 + 1))) else (none)) else (if x3_1.length < 1099511627776 then (tripartiteref07_Of.l0 kj2 l0 (x3_1 ++ [(⟨(rd_T123 l0 x4_1).f0, (rd_T123 l0 x4_1).f1, (rd_T123 l0 x4_1).f2, (rd_T123 l0 x4_1).f3, (rd_T123 l0 x4_1).f4, (rd_T123 l0 x4_1).f5, (rd_T123 l0 x4_1).f6, (rd_T123 l0 x4_1).f7, (rd_T123 l0 x4_1).f8⟩ : S123)]) (wrap64 (x4_1 + 1))) else (none)))) else (none)) else (none)) else (if x3_1.length < 1099511627776 then (tripartiteref07_Of.l0 kj2 l0 (x3_1 ++ [(⟨(rd_T123 l0 x4_1).f0, (rd_T123 l0 x4_1).f1, (rd_T123 l0 x4_1).f2, (rd_T123 l0 x4_1).f3, (rd_T123 l0 x4_1).f4, (rd_T123 l0 x4_1).f5, (rd_T123 l0 x4_1).f6, (rd_T123 l0 x4_1).f7, (rd_T123 l0 x4_1).f8⟩ : S123)]) (wrap64 (x4_1 + 1))) else (none))) else (if x3_1.length < 1099511627776 then (tripartiteref07_Of.l0 kj2 l0 (x3_1 ++ [(⟨(rd_T123 l0 x4_1).f0, (rd_T123 l0 x4_1).f1, (rd_T123 l0 x4_1).f2, (rd_T123 l0 x4_1).f3, (rd_T123 l0 x4_1).f4, (rd_T123 l0 x4_1).f5, (rd_T123 l0 x4_1).f6, (rd_T123 l0 x4_1).f7, (rd_T123 l0 x4_1).f8⟩ : S123)]) (wrap64 (x4_1 + 1))) else (none)))) else (none)) else (none)) = some r := by rw [if_neg (show ¬ (false = true) by decide)] at H; exact H
       clear H
       have H := H1
       clear H1
       by_cases c11 : 0 ≤ x4_1
       ·rw [if_pos c11] at H
        have c11b0 : decide (0 ≤ x4_1) = true := decide_eq_true c11
        clear c11
        by_cases c12 : x4_1 < (l0.length : Int)
        ·rw [if_pos c12] at H
         have c12b0 : decide (x4_1 < (l0.length : Int)) = true := decide_eq_true c12
         clear c12
         replace H := Option.bind_eq_some_iff.mp H
         obtain ⟨t105, A130, H⟩ := H
         replace H : (if t105 = true then (if (x3_1.length : Int) > 0 then (if 0 ≤ (wrap64 ((x3_1.length : Int) - 1)) then (if (wrap64 ((x3_1.length : Int) - 1)) < (x3_1.length : Int) then ((tripartiteref07_text.f ((rd_T123 x3_1 (wrap64 ((x3_1.length : Int) - 1))).f0) ((rd_T123 x3_1 (wrap64 ((x3_1.length : Int) - 1))).f1) ((rd_T123 x3_1 (wrap64 ((x3_1.length : Int) - 1))).f2) ((rd_T123 x3_1 (wrap64 ((x3_1.length : Int) - 1))).f3) ((rd_T123 x3_1 (wrap64 ((x3_1.length : Int) - 1))).f4) ((rd_T123 x3_1 (wrap64 ((x3_1.length : Int) - 1))).f5) ((rd_T123 x3_1 (wrap64 ((x3_1.length : Int) - 1))).f6) ((rd_T123 x3_1 (wrap64 ((x3_1.length : Int) - 1))).f7) ((rd_T123 x3_1 (wrap64 ((x3_1.length : Int) - 1))).f8)).bind fun t107 => (if t107 = true then (if ((rd_T123 x3_1 (wrap64 ((x3_1.length : Int) - 1))).f4).size + ((rd_T123 l0 x4_1).f4).size ≤ 9223372036854775807 then (tripartiteref07_Of.l0 kj2 l0 (x3_1.set ((wrap64 ((x3_1.length : Int) - 1)) : Int).toNat (⟨(rd_T123 x3_1 (wrap64 ((x3_1.length : Int) - 1))).f0, (rd_T123 x3_1 (wrap64 ((x3_1.length : Int) - 1))).f1, (rd_T123 x3_1 (wrap64 ((x3_1.length : Int) - 1))).f2, (rd_T123 x3_1 (wrap64 ((x3_1.length : Int) - 1))).f3, ((rd_T123 x3_1 (wrap64 ((x3_1.length : Int) - 1))).f4) ++ ((rd_T123 l0 x4_1).f4), (rd_T123 x3_1 (wrap64 ((x3_1.length : Int) - 1))).f5, (rd_T123 x3_1 (wrap64 ((x3_1.length : Int) - 1))).f6, (rd_T123 x3_1 (wrap64 ((x3_1.length : Int) - 1))).f7, (rd_T123 x3_1 (wrap64 ((x3_1.length : Int) - 1))).f8⟩ : S123)) (wrap64 (x4_1 + 1))) else (none)) else (if x3_1.length < 1099511627776 then (tripartiteref07_Of.l0 kj2 l0 (x3_1 ++ [(⟨(rd_T123 l0 x4_1).f0, (rd_T123 l0 x4_1).f1, (rd_T123 l0 x4_1).f2, (rd_T123 l0 x4_1).f3, (rd_T123 l0 x4_1).f4, (rd_T123 l0 x4_1).f5, (rd_T123 l0 x4_1).f6, (rd_T123 l0 x4_1).f7, (rd_T123 l0 x4_1).f8⟩ : S123)]) (wrap64 (x4_1 + 1))) else (none)))) else (none)) else (none)) else (if x3_1.length < 1099511627776 then (tripartiteref07_Of.l0 kj2 l0 (x3_1 ++ [(⟨(rd_T123 l0 x4_1).f0, (rd_T123 l0 x4_1).f1, (rd_T123 l0 x4_1).f2, (rd_T123 l0 x4_1).f3, (rd_T123 l0 x4_1).f4, (rd_T123 l0 x4_1).f5, (rd_T123 l0 x4_1).f6, (rd_T123 l0 x4_1).f7, (rd_T123 l0 x4_1).f8⟩ : S123)]) (wrap64 (x4_1 + 1))) else (none))) else (if x3_1.length < 1099511627776 then (tripartiteref07_Of.l0 kj2 l0 (x3_1 ++ [(⟨(rd_T123 l0 x4_1).f0, (rd_T123 l0 x4_1).f1, (rd_T123 l0 x4_1).f2, (rd_T123 l0 x4_1).f3, (rd_T123 l0 x4_1).f4, (rd_T123 l0 x4_1).f5, (rd_T123 l0 x4_1).f6, (rd_T123 l0 x4_1).f7, (rd_T123 l0 x4_1).f8⟩ : S123)]) (wrap64 (x4_1 + 1))) else (none))) = some r := H
         have A13 := Aside0.mk A130
         clear A130
         by_cases c14 : t105 = true
         ·subst c14
          have H1 : (if (x3_1.length : Int) > 0 then (if 0 ≤ (wrap64 ((x3_1.length : Int) - 1)) then (if (wrap64 ((x3_1.length : Int) - 1)) < (x3_1.length : Int) then ((tripartiteref07_text.f ((rd_T123 x3_1 (wrap64 ((x3_1.length : Int) - 1))).f0) ((rd_T123 x3_1 (wrap64 ((x3_1.length : Int) - 1))).f1) ((rd_T123 x3_1 (wrap64 ((x3_1.length : Int) - 1))).f2) ((rd_T123 x3_1 (wrap64 ((x3_1.length : Int) - 1))).f3) ((rd_T123 x3_1 (wrap64 ((x3_1.length : Int) - 1))).f4) ((rd_T123 x3_1 (wrap64 ((x3_1.length : Int) - 1))).f5) ((rd_T123 x3_1 (wrap64 ((x3_1.length : Int) - 1))).f6) ((rd_T123 x3_1 (wrap64 ((x3_1.length : Int) - 1))).f7) ((rd_T123 x3_1 (wrap64 ((x3_1.length : Int) - 1))).f8)).bind fun t107 => (if t107 = true then (if ((rd_T123 x3_1 (wrap64 ((x3_1.length : Int) - 1))).f4).size + ((rd_T123 l0 x4_1).f4).size ≤ 9223372036854775807 then (tripartiteref07_Of.l0 kj2 l0 (x3_1.set ((wrap64 ((x3_1.length : Int) - 1)) : Int).toNat (⟨(rd_T123 x3_1 (wrap64 ((x3_1.length : Int) - 1))).f0, (rd_T123 x3_1 (wrap64 ((x3_1.length : Int) - 1))).f1, (rd_T123 x3_1 (wrap64 ((x3_1.length : Int) - 1))).f2, (rd_T123 x3_1 (wrap64 ((x3_1.length : Int) - 1))).f3, ((rd_T123 x3_1 (wrap64 ((x3_1.length : Int) - 1))).f4) ++ ((rd_T123 l0 x4_1).f4), (rd_T123 x3_1 (wrap64 ((x3_1.length : Int) - 1))).f5, (rd_T123 x3_1 (wrap64 ((x3_1.length : Int) - 1))).f6, (rd_T123 x3_1 (wrap64 ((x3_1.length : Int) - 1))).f7, (rd_T123 x3_1 (wrap64 ((x3_1.length : Int) - 1))).f8⟩ : S123)) (wrap64 (x4_1 + 1))) else (none)) else (if x3_1.length < 1099511627776 then (tripartiteref07_Of.l0 kj2 l0 (x3_1 ++ [(⟨(rd_T123 l0 x4_1).f0, (rd_T123 l0 x4_1).f1, (rd_T123 l0 x4_1).f2, (rd_T123 l0 x4_1).f3, (rd_T123 l0 x4_1).f4, (rd_T123 l0 x4_1).f5, (rd_T123 l0 x4_1).f6, (rd_T123 l0 x4_1).f7, (rd_T123 l0 x4_1).f8⟩ : S123)]) (wrap64 (x4_1 + 1))) else (none)))) else (none)) else (none)) else (if x3_1.length < 1099511627776 then (tripartiteref07_Of.l0 kj2 l0 (x3_1 ++ [(⟨(rd_T123 l0 x4_1).f0, (rd_T123 l0 x4_1).f1, (rd_T123 l0 x4_1).f2, (rd_T123 l0 x4_1).f3, (rd_T123 l0 x4_1).f4, (rd_T123 l0 x4_1).f5, (rd_T123 l0 x4_1).f6, (rd_T123 l0 x4_1).f7, (rd_T123 l0 x4_1).f8⟩ : S123)]) (wrap64 (x4_1 + 1))) else (none))) = some r := by rw [if_pos rfl] at H; exact H
          clear H
          have H := H1
          clear H1
          by_cases c15 : (x3_1.length : Int) > 0
          ·rw [if_pos c15] at H
           have c15b0 : decide (0 < (x3_1.length : Int)) = true := decide_eq_true c15
           have c15b1 : decide (0 < x3_1.length) = true := decide_eq_true (by omega)
           clear c15
           obtain ⟨ji16, hji16⟩ : ∃ j_ : Int, (wrap64 ((x3_1.length : Int) - 1)) = j_ := ⟨_, rfl⟩
           replace H : (if 0 ≤ (ji16) then (if (ji16) < (x3_1.length : Int) then ((tripartiteref07_text.f ((rd_T123 x3_1 (ji16)).f0) ((rd_T123 x3_1 (ji16)).f1) ((rd_T123 x3_1 (ji16)).f2) ((rd_T123 x3_1 (ji16)).f3) ((rd_T123 x3_1 (ji16)).f4) ((rd_T123 x3_1 (ji16)).f5) ((rd_T123 x3_1 (ji16)).f6) ((rd_T123 x3_1 (ji16)).f7) ((rd_T123 x3_1 (ji16)).f8)).bind fun t107 => (if t107 = true then (if ((rd_T123 x3_1 (ji16)).f4).size + ((rd_T123 l0 x4_1).f4).size ≤ 9223372036854775807 then (tripartiteref07_Of.l0 kj2 l0 (x3_1.set ((ji16) : Int).toNat (⟨(rd_T123 x3_1 (ji16)).f0, (rd_T123 x3_1 (ji16)).f1, (rd_T123 x3_1 (ji16)).f2, (rd_T123 x3_1 (ji16)).f3, ((rd_T123 x3_1 (ji16)).f4) ++ ((rd_T123 l0 x4_1).f4), (rd_T123 x3_1 (ji16)).f5, (rd_T123 x3_1 (ji16)).f6, (rd_T123 x3_1 (ji16)).f7, (rd_T123 x3_1 (ji16)).f8⟩ : S123)) (wrap64 (x4_1 + 1))) else (none)) else (if x3_1.length < 1099511627776 then (tripartiteref07_Of.l0 kj2 l0 (x3_1 ++ [(⟨(rd_T123 l0 x4_1).f0, (rd_T123 l0 x4_1).f1, (rd_T123 l0 x4_1).f2, (rd_T123 l0 x4_1).f3, (rd_T123 l0 x4_1).f4, (rd_T123 l0 x4_1).f5, (rd_T123 l0 x4_1).f6, (rd_T123 l0 x4_1).f7, (rd_T123 l0 x4_1).f8⟩ : S123)]) (wrap64 (x4_1 + 1))) else (none)))) else (none)) else (none)) = some r := by first | (rw [hji16] at H; exact H) | (simp only [hji16] at H ⊢; exact H)
           (try rw [hji16] at A13)
           have hji16w : (IntKind.i64.wrap ((x3_1.length : Int) - 1)) = ji16 := (i64_w _).trans hji16
           by_cases c17 : 0 ≤ (ji16)
           ·rw [if_pos c17] at H
            have c17b0 : decide (0 ≤ (ji16)) = true := decide_eq_true c17
            clear c17
            by_cases c18 : (ji16) < (x3_1.length : Int)
            ·rw [if_pos c18] at H
             have c18b0 : decide ((ji16) < (x3_1.length : Int)) = true := decide_eq_true c18
             clear c18
             replace H := Option.bind_eq_some_iff.mp H
             obtain ⟨t107, A190, H⟩ := H
             replace H : (if t107 = true then (if ((rd_T123 x3_1 (ji16)).f4).size + ((rd_T123 l0 x4_1).f4).size ≤ 9223372036854775807 then (tripartiteref07_Of.l0 kj2 l0 (x3_1.set ((ji16) : Int).toNat (⟨(rd_T123 x3_1 (ji16)).f0, (rd_T123 x3_1 (ji16)).f1, (rd_T123 x3_1 (ji16)).f2, (rd_T123 x3_1 (ji16)).f3, ((rd_T123 x3_1 (ji16)).f4) ++ ((rd_T123 l0 x4_1).f4), (rd_T123 x3_1 (ji16)).f5, (rd_T123 x3_1 (ji16)).f6, (rd_T123 x3_1 (ji16)).f7, (rd_T123 x3_1 (ji16)).f8⟩ : S123)) (wrap64 (x4_1 + 1))) else (none)) else (if x3_1.length < 1099511627776 then (tripartiteref07_Of.l0 kj2 l0 (x3_1 ++ [(⟨(rd_T123 l0 x4_1).f0, (rd_T123 l0 x4_1).f1, (rd_T123 l0 x4_1).f2, (rd_T123 l0 x4_1).f3, (rd_T123 l0 x4_1).f4, (rd_T123 l0 x4_1).f5, (rd_T123 l0 x4_1).f6, (rd_T123 l0 x4_1).f7, (rd_T123 l0 x4_1).f8⟩ : S123)]) (wrap64 (x4_1 + 1))) else (none))) = some r := H
             have A19 := Aside0.mk A190
             clear A190
             by_cases c20 : t107 = true
             ·subst c20
              have H1 : (if ((rd_T123 x3_1 (ji16)).f4).size + ((rd_T123 l0 x4_1).f4).size ≤ 9223372036854775807 then (tripartiteref07_Of.l0 kj2 l0 (x3_1.set ((ji16) : Int).toNat (⟨(rd_T123 x3_1 (ji16)).f0, (rd_T123 x3_1 (ji16)).f1, (rd_T123 x3_1 (ji16)).f2, (rd_T123 x3_1 (ji16)).f3, ((rd_T123 x3_1 (ji16)).f4) ++ ((rd_T123 l0 x4_1).f4), (rd_T123 x3_1 (ji16)).f5, (rd_T123 x3_1 (ji16)).f6, (rd_T123 x3_1 (ji16)).f7, (rd_T123 x3_1 (ji16)).f8⟩ : S123)) (wrap64 (x4_1 + 1))) else (none)) = some r := by rw [if_pos rfl] at H; exact H
              clear H
              have H := H1
              clear H1
              by_cases c21 : ((rd_T123 x3_1 (ji16)).f4).size + ((rd_T123 l0 x4_1).f4).size ≤ 9223372036854775807
              ·rw [if_pos c21] at H
               have c21b0 := eq_true c21
               have c21b1 : decide (((rd_T123 x3_1 (ji16)).f4).size + ((rd_T123 l0 x4_1).f4).size ≤ 9223372036854775807) = true := decide_eq_true c21
               try have c21b2 : (9223372036854775807 < ((rd_T123 x3_1 (ji16)).f4).size + ((rd_T123 l0 x4_1).f4).size) = False := eq_false (Nat.not_lt.2 c21)
               obtain ⟨y110, hy110⟩ : ∃ y_ : List (S123), y_ = (x3_1.set ((ji16) : Int).toNat (⟨(rd_T123 x3_1 (ji16)).f0, (rd_T123 x3_1 (ji16)).f1, (rd_T123 x3_1 (ji16)).f2, (rd_T123 x3_1 (ji16)).f3, ((rd_T123 x3_1 (ji16)).f4) ++ ((rd_T123 l0 x4_1).f4), (rd_T123 x3_1 (ji16)).f5, (rd_T123 x3_1 (ji16)).f6, (rd_T123 x3_1 (ji16)).f7, (rd_T123 x3_1 (ji16)).f8⟩ : S123)) := ⟨_, rfl⟩
               replace H : (tripartiteref07_Of.l0 kj2 l0 y110 (wrap64 (x4_1 + 1))) = some r := by first | (rw [hy110]; with_reducible exact H) | (have H2_ := (Option.bind_some _ _).symm.trans H; rw [hy110]; with_reducible exact H2_) | (have H2_ := (Option.bind_some _ _).symm.trans H; with_reducible exact H2_) | with_reducible exact H | (rw [hy110]; exact H) | exact H
               have Ny110 := Aside0.mk hy110
               clear hy110
               have H' := Aside0.mk H
               clear H
               have p104 : 0 ≤ (x4_1 : Int) := of_decide_eq_true (by first | (with_reducible assumption) | assumption)
               have q104 : x4_1 < (l0.length : Int) := of_decide_eq_true (by first | (with_reducible assumption) | assumption)
               obtain ⟨ad104, e104, hx104_0, hx104_1, hx104_2, hx104_3, hx104_4, hx104_5, hx104_6, hx104_7, hx104_8⟩ := at_T123 HR0.out x4_1 p104 q104
               cases e104
               replace hx104_0 := (HB.out.cell (World.block_lt_of_cell? w _ hx104_0)).trans hx104_0
               replace hx104_1 := (HB.out.cell (World.block_lt_of_cell? w _ hx104_1)).trans hx104_1
               replace hx104_2 := (HB.out.cell (World.block_lt_of_cell? w _ hx104_2)).trans hx104_2
               replace hx104_3 := (HB.out.cell (World.block_lt_of_cell? w _ hx104_3)).trans hx104_3
               replace hx104_4 := (HB.out.cell (World.block_lt_of_cell? w _ hx104_4)).trans hx104_4
               replace hx104_5 := (HB.out.cell (World.block_lt_of_cell? w _ hx104_5)).trans hx104_5
               replace hx104_6 := (HB.out.cell (World.block_lt_of_cell? w _ hx104_6)).trans hx104_6
               replace hx104_7 := (HB.out.cell (World.block_lt_of_cell? w _ hx104_7)).trans hx104_7
               replace hx104_8 := (HB.out.cell (World.block_lt_of_cell? w _ hx104_8)).trans hx104_8
               replace p104 := eq_true p104
               replace q104 := eq_true q104
               try go_wp2_with (first | ((with_reducible refine gate_callee (f := 134) rfl ?_); refine goesL_ (some 31) rfl rfl Try.func134 (by kernel_rfl) rfl #[.agg #[.string ((rd_T123 l0 x4_1).f0), .string ((rd_T123 l0 x4_1).f1), .string ((rd_T123 l0 x4_1).f2), .bool ((rd_T123 l0 x4_1).f3), .string ((rd_T123 l0 x4_1).f4), .string ((rd_T123 l0 x4_1).f5), .string ((rd_T123 l0 x4_1).f6), .string ((rd_T123 l0 x4_1).f7), .bool ((rd_T123 l0 x4_1).f8)]] rfl (by (try simp only [List.map_toArray, List.map_cons, List.map_nil]); first | done | rfl | (simp only [List.length_drop, List.length_take]; rfl)) ?_; (with_reducible refine (tripartiteref07_text.calls ((rd_T123 l0 x4_1).f0) ((rd_T123 l0 x4_1).f1) ((rd_T123 l0 x4_1).f2) ((rd_T123 l0 x4_1).f3) ((rd_T123 l0 x4_1).f4) ((rd_T123 l0 x4_1).f5) ((rd_T123 l0 x4_1).f6) ((rd_T123 l0 x4_1).f7) ((rd_T123 l0 x4_1).f8) true _ A13.out).mono ?_); rintro e w23 ⟨rfl, hb⟩; refine ⟨_, rfl, ?_⟩; have n0_ := Aside0.mk (Kd.R_below (by (with_reducible repeat (first | apply Kd.R_alloc | apply Kd.R_drewN | apply Kd.R_drew)); exact HO_3.out) hb); have n1_ := Aside0.mk (below_step (by repeat (first | (with_reducible first | exact HB.out | apply below_alloc | apply pw_below_drewN | apply below_drew1) | exact HB.out)) hb); clear HO_3; clear HB; have HO_3 := n0_; have HB := n1_; clear n0_ n1_; (try clear hb); (try clear hb2); (try clear hk); (try clear hi); have p106 : 0 ≤ ((ji16) : Int) := of_decide_eq_true (by first | (with_reducible assumption) | assumption); have q106 : (ji16) < (x3_1.length : Int) := of_decide_eq_true (by first | (with_reducible assumption) | assumption); obtain ⟨ad106, e106, hx106_0, hx106_1, hx106_2, hx106_3, hx106_4, hx106_5, hx106_6, hx106_7, hx106_8⟩ := at_T123 (Kd.R_reads' HO_3.out).2.2 (ji16) p106 q106; cases e106; replace p106 := eq_true p106; replace q106 := eq_true q106) | (go_at_call 134; (with_reducible refine (tripartiteref07_text.calls ((rd_T123 x3_1 (ji16)).f0) ((rd_T123 x3_1 (ji16)).f1) ((rd_T123 x3_1 (ji16)).f2) ((rd_T123 x3_1 (ji16)).f3) ((rd_T123 x3_1 (ji16)).f4) ((rd_T123 x3_1 (ji16)).f5) ((rd_T123 x3_1 (ji16)).f6) ((rd_T123 x3_1 (ji16)).f7) ((rd_T123 x3_1 (ji16)).f8) true _ A19.out).mono ?_); rintro e w24 ⟨rfl, hb⟩; have n0_ := Aside0.mk (Kd.R_below (by (with_reducible repeat (first | apply Kd.R_alloc | apply Kd.R_drewN | apply Kd.R_drew)); exact HO_3.out) hb); have n1_ := Aside0.mk (below_step (by repeat (first | (with_reducible first | exact HB.out | apply below_alloc | apply pw_below_drewN | apply below_drew1) | exact HB.out)) hb); clear HO_3; clear HB; have HO_3 := n0_; have HB := n1_; clear n0_ n1_; (try clear hb); (try clear hb2); (try clear hk); (try clear hi)))
               have n0_ := Aside0.mk (Kd.R_drew HO_3.out)
               have n1_ := Aside0.mk (below_drew1 HB.out)
               clear HO_3
               clear HB
               have HO_3 := n0_
               have HB := n1_
               clear n0_ n1_
               have p108 : 0 ≤ ((ji16) : Int) := of_decide_eq_true (by first | (with_reducible assumption) | assumption)
               have q108 : (ji16) < (x3_1.length : Int) := of_decide_eq_true (by first | (with_reducible assumption) | assumption)
               obtain ⟨ad108, e108, hx108_0, hx108_1, hx108_2, hx108_3, hx108_4, hx108_5, hx108_6, hx108_7, hx108_8⟩ := at_T123 (Kd.R_reads' HO_3.out).2.2 (ji16) p108 q108
               obtain rfl : ad106 = ad108 := (by injection e108)
               replace p108 := eq_true p108
               replace q108 := eq_true q108
               have p109 : 0 ≤ (x4_1 : Int) := of_decide_eq_true (by first | (with_reducible assumption) | assumption)
               have q109 : x4_1 < (l0.length : Int) := of_decide_eq_true (by first | (with_reducible assumption) | assumption)
               obtain ⟨ad109, e109, hx109_0, hx109_1, hx109_2, hx109_3, hx109_4, hx109_5, hx109_6, hx109_7, hx109_8⟩ := at_T123 HR0.out x4_1 p109 q109
               have hw109_8 := hx109_8
               have hw109_7 := hx109_7
               have hw109_6 := hx109_6
               have hw109_5 := hx109_5
               have hw109_4 := hx109_4
               have hw109_3 := hx109_3
               have hw109_2 := hx109_2
               have hw109_1 := hx109_1
               have hw109_0 := hx109_0
               obtain rfl : ad104 = ad109 := (by injection e109)
               replace hx109_0 := (HB.out.cell (World.block_lt_of_cell? w _ hx109_0)).trans hx109_0
               replace hx109_1 := (HB.out.cell (World.block_lt_of_cell? w _ hx109_1)).trans hx109_1
               replace hx109_2 := (HB.out.cell (World.block_lt_of_cell? w _ hx109_2)).trans hx109_2
               replace hx109_3 := (HB.out.cell (World.block_lt_of_cell? w _ hx109_3)).trans hx109_3
               replace hx109_4 := (HB.out.cell (World.block_lt_of_cell? w _ hx109_4)).trans hx109_4
               replace hx109_5 := (HB.out.cell (World.block_lt_of_cell? w _ hx109_5)).trans hx109_5
               replace hx109_6 := (HB.out.cell (World.block_lt_of_cell? w _ hx109_6)).trans hx109_6
               replace hx109_7 := (HB.out.cell (World.block_lt_of_cell? w _ hx109_7)).trans hx109_7
               replace hx109_8 := (HB.out.cell (World.block_lt_of_cell? w _ hx109_8)).trans hx109_8
               replace p109 := eq_true p109
               replace q109 := eq_true q109
               have p22 : 0 ≤ ((ji16) : Int) := of_decide_eq_true (by first | (with_reducible assumption) | assumption)
               have q22 : ((ji16) : Int) < ((x3_1.length : Int) : Int) := of_decide_eq_true (by first | (with_reducible assumption) | assumption)
               obtain ⟨go22, co22, eo22, gb22, gl22, cl22, HG22⟩ := Kd.R_form HO_3.out (by omega)
               (first | cases eo22 | (injection eo22 with ea_ en_ ec_; (first | subst ea_ | (injection ea_ with ea_; subst ea_)); subst ec_; clear en_))
               have GB22 := Aside0.mk gb22
               have GG22 := Aside0.mk HG22
               clear gb22 gl22 HG22
               (first | simp only [add_plain] at hx106_0 | skip)
               (first | simp only [add_plain] at hx106_1 | skip)
               (first | simp only [add_plain] at hx106_2 | skip)
               (first | simp only [add_plain] at hx106_3 | skip)
               (first | simp only [add_plain] at hx106_4 | skip)
               (first | simp only [add_plain] at hx106_5 | skip)
               (first | simp only [add_plain] at hx106_6 | skip)
               (first | simp only [add_plain] at hx106_7 | skip)
               (first | simp only [add_plain] at hx106_8 | skip)
               (first | simp only [add_plain] at hx108_0 | skip)
               (first | simp only [add_plain] at hx108_1 | skip)
               (first | simp only [add_plain] at hx108_2 | skip)
               (first | simp only [add_plain] at hx108_3 | skip)
               (first | simp only [add_plain] at hx108_4 | skip)
               (first | simp only [add_plain] at hx108_5 | skip)
               (first | simp only [add_plain] at hx108_6 | skip)
               (first | simp only [add_plain] at hx108_7 | skip)
               (first | simp only [add_plain] at hx108_8 | skip)
               obtain ⟨ce22, hcl22, hM22, hcc22, hfr22⟩ := Kd.R_elem HO_3.out z123 ((ji16) : Int) p22 q22
               obtain rfl := k123_openM hM22
               have hx22_0 : World.cell? _ ⟨go22, ((ji16) : Int).toNat * 9, none⟩ = some (.string ((rd_T123 x3_1 (ji16)).f0)) := hcc22 0 _ rfl
               have hx22_1 : World.cell? _ ⟨go22, ((ji16) : Int).toNat * 9 + 1, none⟩ = some (.string ((rd_T123 x3_1 (ji16)).f1)) := hcc22 1 _ rfl
               have hx22_2 : World.cell? _ ⟨go22, ((ji16) : Int).toNat * 9 + 2, none⟩ = some (.string ((rd_T123 x3_1 (ji16)).f2)) := hcc22 2 _ rfl
               have hx22_3 : World.cell? _ ⟨go22, ((ji16) : Int).toNat * 9 + 3, none⟩ = some (.bool ((rd_T123 x3_1 (ji16)).f3)) := hcc22 3 _ rfl
               have hx22_4 : World.cell? _ ⟨go22, ((ji16) : Int).toNat * 9 + 4, none⟩ = some (.string ((rd_T123 x3_1 (ji16)).f4)) := hcc22 4 _ rfl
               have hx22_5 : World.cell? _ ⟨go22, ((ji16) : Int).toNat * 9 + 5, none⟩ = some (.string ((rd_T123 x3_1 (ji16)).f5)) := hcc22 5 _ rfl
               have hx22_6 : World.cell? _ ⟨go22, ((ji16) : Int).toNat * 9 + 6, none⟩ = some (.string ((rd_T123 x3_1 (ji16)).f6)) := hcc22 6 _ rfl
               have hx22_7 : World.cell? _ ⟨go22, ((ji16) : Int).toNat * 9 + 7, none⟩ = some (.string ((rd_T123 x3_1 (ji16)).f7)) := hcc22 7 _ rfl
               have hx22_8 : World.cell? _ ⟨go22, ((ji16) : Int).toNat * 9 + 8, none⟩ = some (.bool ((rd_T123 x3_1 (ji16)).f8)) := hcc22 8 _ rfl
               have hf22_0 : World.frozen? _ ⟨go22, ((ji16) : Int).toNat * 9, none⟩ = false := hfr22 0
               have hf22_1 : World.frozen? _ ⟨go22, ((ji16) : Int).toNat * 9 + 1, none⟩ = false := hfr22 1
               have hf22_2 : World.frozen? _ ⟨go22, ((ji16) : Int).toNat * 9 + 2, none⟩ = false := hfr22 2
               have hf22_3 : World.frozen? _ ⟨go22, ((ji16) : Int).toNat * 9 + 3, none⟩ = false := hfr22 3
               have hf22_4 : World.frozen? _ ⟨go22, ((ji16) : Int).toNat * 9 + 4, none⟩ = false := hfr22 4
               have hf22_5 : World.frozen? _ ⟨go22, ((ji16) : Int).toNat * 9 + 5, none⟩ = false := hfr22 5
               have hf22_6 : World.frozen? _ ⟨go22, ((ji16) : Int).toNat * 9 + 6, none⟩ = false := hfr22 6
               have hf22_7 : World.frozen? _ ⟨go22, ((ji16) : Int).toNat * 9 + 7, none⟩ = false := hfr22 7
               have hf22_8 : World.frozen? _ ⟨go22, ((ji16) : Int).toNat * 9 + 8, none⟩ = false := hfr22 8
               clear hcl22 hcc22 hfr22 hM22
               replace p22 := eq_true p22
               replace q22 := eq_true q22
               obtain ⟨ce26, hcl26, hM26, hcc26, hfr26⟩ := Kd.R_elem HO_3.out z123 ((ji16) : Int) (of_decide_eq_true (by first | (with_reducible assumption) | assumption)) (by have h_ : ((ji16) : Int) < ((x3_1.length : Int) : Int) := of_decide_eq_true (by first | (with_reducible assumption) | assumption); first | exact h_ | (have e_ := (Kd.R_reads' HO_3.out).1; omega) | simpa using h_)
               obtain rfl := k123_openM hM26
               have HP26 := (Kd.R_seg HO_3.out ((ji16) : Int) (of_decide_eq_true (by first | (with_reducible assumption) | assumption)) (by have h_ : ((ji16) : Int) < ((x3_1.length : Int) : Int) := of_decide_eq_true (by first | (with_reducible assumption) | assumption); first | exact h_ | (have e_ := (Kd.R_reads' HO_3.out).1; omega) | simpa using h_) (seg := [.string (((rd_T123 x3_1 (ji16)).f4) ++ ((rd_T123 l0 x4_1).f4))]) (j := 4) hcl26 hcc26 (show 5 ≤ 9 from by decide) (x' := (⟨(rd_T123 x3_1 (ji16)).f0, (rd_T123 x3_1 (ji16)).f1, (rd_T123 x3_1 (ji16)).f2, (rd_T123 x3_1 (ji16)).f3, ((rd_T123 x3_1 (ji16)).f4) ++ ((rd_T123 l0 x4_1).f4), (rd_T123 x3_1 (ji16)).f5, (rd_T123 x3_1 (ji16)).f6, (rd_T123 x3_1 (ji16)).f7, (rd_T123 x3_1 (ji16)).f8⟩ : S123)) (k123_mkM _ _ _ (⟨(rd_T123 x3_1 (ji16)).f0, (rd_T123 x3_1 (ji16)).f1, (rd_T123 x3_1 (ji16)).f2, (rd_T123 x3_1 (ji16)).f3, ((rd_T123 x3_1 (ji16)).f4) ++ ((rd_T123 l0 x4_1).f4), (rd_T123 x3_1 (ji16)).f5, (rd_T123 x3_1 (ji16)).f6, (rd_T123 x3_1 (ji16)).f7, (rd_T123 x3_1 (ji16)).f8⟩ : S123) ) (fun _ hk => hk)).1
               rw [← Ny110.out] at HP26
               have HQ26 := Aside0.mk HP26
               clear hcl26 hcc26 hfr26 hM26 HP26
               refine start_ (n := 18) (S := fun w' => w'.cell? ⟨go22, ((ji16) : Int).toNat * 9, none⟩ = some (.string ((rd_T123 x3_1 (ji16)).f0)) ∧ w'.cell? ⟨go22, ((ji16) : Int).toNat * 9 + 1, none⟩ = some (.string ((rd_T123 x3_1 (ji16)).f1)) ∧ w'.cell? ⟨go22, ((ji16) : Int).toNat * 9 + 2, none⟩ = some (.string ((rd_T123 x3_1 (ji16)).f2)) ∧ w'.cell? ⟨go22, ((ji16) : Int).toNat * 9 + 3, none⟩ = some (.bool ((rd_T123 x3_1 (ji16)).f3)) ∧ w'.cell? ⟨go22, ((ji16) : Int).toNat * 9 + 4, none⟩ = some (.string ((rd_T123 x3_1 (ji16)).f4)) ∧ w'.cell? ⟨go22, ((ji16) : Int).toNat * 9 + 5, none⟩ = some (.string ((rd_T123 x3_1 (ji16)).f5)) ∧ w'.cell? ⟨go22, ((ji16) : Int).toNat * 9 + 6, none⟩ = some (.string ((rd_T123 x3_1 (ji16)).f6)) ∧ w'.cell? ⟨go22, ((ji16) : Int).toNat * 9 + 7, none⟩ = some (.string ((rd_T123 x3_1 (ji16)).f7)) ∧ w'.cell? ⟨go22, ((ji16) : Int).toNat * 9 + 8, none⟩ = some (.bool ((rd_T123 x3_1 (ji16)).f8)) ∧ w'.cell? (ad104.add ((x4_1).toNat * 9)) = some (.string ((rd_T123 l0 x4_1).f0)) ∧ w'.cell? ⟨(ad104.add ((x4_1).toNat * 9)).block, (ad104.add ((x4_1).toNat * 9)).off + 1, none⟩ = some (.string ((rd_T123 l0 x4_1).f1)) ∧ w'.cell? ⟨(ad104.add ((x4_1).toNat * 9)).block, (ad104.add ((x4_1).toNat * 9)).off + 2, none⟩ = some (.string ((rd_T123 l0 x4_1).f2)) ∧ w'.cell? ⟨(ad104.add ((x4_1).toNat * 9)).block, (ad104.add ((x4_1).toNat * 9)).off + 3, none⟩ = some (.bool ((rd_T123 l0 x4_1).f3)) ∧ w'.cell? ⟨(ad104.add ((x4_1).toNat * 9)).block, (ad104.add ((x4_1).toNat * 9)).off + 4, none⟩ = some (.string ((rd_T123 l0 x4_1).f4)) ∧ w'.cell? ⟨(ad104.add ((x4_1).toNat * 9)).block, (ad104.add ((x4_1).toNat * 9)).off + 5, none⟩ = some (.string ((rd_T123 l0 x4_1).f5)) ∧ w'.cell? ⟨(ad104.add ((x4_1).toNat * 9)).block, (ad104.add ((x4_1).toNat * 9)).off + 6, none⟩ = some (.string ((rd_T123 l0 x4_1).f6)) ∧ w'.cell? ⟨(ad104.add ((x4_1).toNat * 9)).block, (ad104.add ((x4_1).toNat * 9)).off + 7, none⟩ = some (.string ((rd_T123 l0 x4_1).f7)) ∧ w'.cell? ⟨(ad104.add ((x4_1).toNat * 9)).block, (ad104.add ((x4_1).toNat * 9)).off + 8, none⟩ = some (.bool ((rd_T123 l0 x4_1).f8))) (ds := [17]) #[false, false, false, false, false, false, false, false, false, false, false, false, false, false, false, false, false, false] (by kernel_rfl) rfl rfl ⟨hx22_0, hx22_1, hx22_2, hx22_3, hx22_4, hx22_5, hx22_6, hx22_7, hx22_8, ((HB.out.cell (World.block_lt_of_cell? w _ hw109_0)).trans hw109_0), ((HB.out.cell (World.block_lt_of_cell? w _ hw109_1)).trans hw109_1), ((HB.out.cell (World.block_lt_of_cell? w _ hw109_2)).trans hw109_2), ((HB.out.cell (World.block_lt_of_cell? w _ hw109_3)).trans hw109_3), ((HB.out.cell (World.block_lt_of_cell? w _ hw109_4)).trans hw109_4), ((HB.out.cell (World.block_lt_of_cell? w _ hw109_5)).trans hw109_5), ((HB.out.cell (World.block_lt_of_cell? w _ hw109_6)).trans hw109_6), ((HB.out.cell (World.block_lt_of_cell? w _ hw109_7)).trans hw109_7), ((HB.out.cell (World.block_lt_of_cell? w _ hw109_8)).trans hw109_8)⟩ (fun hHeld => ?_); refine with_tabW tripartiteref07_Of.tab8 tripartiteref07_Of.bits8 (fun HT_ HW_ => ?_)
               generalize w24.drew = w25 at HO_3 HB GG22 HQ26 hf22_0 hf22_1 hf22_2 hf22_3 hf22_4 hf22_5 hf22_6 hf22_7 hf22_8 hx106_0 hx106_1 hx106_2 hx106_3 hx106_4 hx106_5 hx106_6 hx106_7 hx106_8 hx108_0 hx108_1 hx108_2 hx108_3 hx108_4 hx108_5 hx108_6 hx108_7 hx108_8 hx109_0 hx109_1 hx109_2 hx109_3 hx109_4 hx109_5 hx109_6 hx109_7 hx109_8 hx22_0 hx22_1 hx22_2 hx22_3 hx22_4 hx22_5 hx22_6 hx22_7 hx22_8 hHeld ⊢
               refine pure_ (i := 0) (N := some 44) (v := ?_) (a' := ?_) #[true, false, false, false, false, false, false, false, false, false, false, false, false, false, false, false, false, false] rfl rfl (any_of HT_.out (by kernel_rfl)) (fun _ _ _ h => h) (Or.inl ⟨by rfl, ?_⟩) ?_ ?_
               rotate_left
               ·intro w'
                go_simp
                with_reducible rfl
               rotate_left
               ·simp only [Act.put, List.setIfInBounds_toArray, List.set_cons_zero, List.set_cons_succ, i64_w, i32_w]
                rfl
               refine pure_ (i := 1) (N := some 45) (v := ?_) (a' := ?_) #[true, true, false, false, false, false, false, false, false, false, false, false, false, false, false, false, false, false] rfl rfl (any_of HT_.out (by kernel_rfl)) (fun _ _ _ h => h) (Or.inl ⟨by rfl, ?_⟩) ?_ ?_
               rotate_left
               ·intro w'
                go_simp
                with_reducible rfl
               rotate_left
               ·simp only [Act.put, List.setIfInBounds_toArray, List.set_cons_zero, List.set_cons_succ, i64_w, i32_w]
                rfl
               refine pure_ (i := 2) (N := some 46) (v := ?_) (a' := ?_) #[true, true, true, false, false, false, false, false, false, false, false, false, false, false, false, false, false, false] rfl rfl (any_of HT_.out (by kernel_rfl)) (fun _ _ _ h => h) (Or.inl ⟨by rfl, ?_⟩) ?_ ?_
               rotate_left
               ·intro w'
                go_simp
                with_reducible rfl
               rotate_left
               ·simp only [Act.put, List.setIfInBounds_toArray, List.set_cons_zero, List.set_cons_succ, i64_w, i32_w]
                rfl
               refine pure_ (i := 3) (N := some 47) (v := ?_) (a' := ?_) #[true, true, true, true, false, false, false, false, false, false, false, false, false, false, false, false, false, false] rfl rfl (any_of HT_.out (by kernel_rfl)) (fun _ _ _ h => h) (Or.inl ⟨by rfl, ?_⟩) ?_ ?_
               rotate_left
               ·intro w'
                go_simp
                with_reducible rfl
               rotate_left
               ·simp only [Act.put, List.setIfInBounds_toArray, List.set_cons_zero, List.set_cons_succ, i64_w, i32_w]
                rfl
               refine pure_ (i := 4) (N := some 48) (v := ?_) (a' := ?_) #[true, true, true, true, true, false, false, false, false, false, false, false, false, false, false, false, false, false] rfl rfl (any_of HT_.out (by kernel_rfl)) (fun _ _ _ h => h) (Or.inl ⟨by rfl, ?_⟩) ?_ ?_
               rotate_left
               ·intro w'
                go_simp
                with_reducible rfl
               rotate_left
               ·simp only [Act.put, List.setIfInBounds_toArray, List.set_cons_zero, List.set_cons_succ, i64_w, i32_w]
                rfl
               refine pure_ (i := 5) (N := some 49) (v := ?_) (a' := ?_) #[true, true, true, true, true, true, false, false, false, false, false, false, false, false, false, false, false, false] rfl rfl (any_of HT_.out (by kernel_rfl)) (fun _ _ _ h => h) (Or.inl ⟨by rfl, ?_⟩) ?_ ?_
               rotate_left
               ·intro w'
                go_simp
                with_reducible rfl
               rotate_left
               ·simp only [Act.put, List.setIfInBounds_toArray, List.set_cons_zero, List.set_cons_succ, i64_w, i32_w]
                rfl
               refine pure_ (i := 6) (N := some 50) (v := ?_) (a' := ?_) #[true, true, true, true, true, true, true, false, false, false, false, false, false, false, false, false, false, false] rfl rfl (any_of HT_.out (by kernel_rfl)) (fun _ _ _ h => h) (Or.inl ⟨by rfl, ?_⟩) ?_ ?_
               rotate_left
               ·intro w'
                go_simp
                with_reducible rfl
               rotate_left
               ·simp only [Act.put, List.setIfInBounds_toArray, List.set_cons_zero, List.set_cons_succ, i64_w, i32_w]
                rfl
               refine pure_ (i := 7) (N := some 51) (v := ?_) (a' := ?_) #[true, true, true, true, true, true, true, true, false, false, false, false, false, false, false, false, false, false] rfl rfl (any_of HT_.out (by kernel_rfl)) (fun _ _ _ h => h) (Or.inl ⟨by rfl, ?_⟩) ?_ ?_
               rotate_left
               ·intro w'
                go_simp
                with_reducible rfl
               rotate_left
               ·simp only [Act.put, List.setIfInBounds_toArray, List.set_cons_zero, List.set_cons_succ, i64_w, i32_w]
                rfl
               refine pure_ (i := 9) (N := some 53) (v := ?_) (a' := ?_) #[true, true, true, true, true, true, true, true, false, true, false, false, false, false, false, false, false, false] rfl rfl (any_of HT_.out (by kernel_rfl)) (fun _ _ _ h => h) (Or.inl ⟨by rfl, ?_⟩) ?_ ?_
               rotate_left
               ·intro w'
                go_simp
                with_reducible rfl
               rotate_left
               ·simp only [Act.put, List.setIfInBounds_toArray, List.set_cons_zero, List.set_cons_succ, i64_w, i32_w]
                rfl
               refine pure_ (i := 10) (N := some 54) (v := ?_) (a' := ?_) #[true, true, true, true, true, true, true, true, false, true, true, false, false, false, false, false, false, false] rfl rfl (any_of HT_.out (by kernel_rfl)) (fun _ _ _ h => h) (Or.inl ⟨by rfl, ?_⟩) ?_ ?_
               rotate_left
               ·intro w'
                go_simp
                with_reducible rfl
               rotate_left
               ·simp only [Act.put, List.setIfInBounds_toArray, List.set_cons_zero, List.set_cons_succ, i64_w, i32_w]
                rfl
               refine pure_ (i := 11) (N := some 55) (v := ?_) (a' := ?_) #[true, true, true, true, true, true, true, true, false, true, true, true, false, false, false, false, false, false] rfl rfl (any_of HT_.out (by kernel_rfl)) (fun _ _ _ h => h) (Or.inl ⟨by rfl, ?_⟩) ?_ ?_
               rotate_left
               ·intro w'
                go_simp
                with_reducible rfl
               rotate_left
               ·simp only [Act.put, List.setIfInBounds_toArray, List.set_cons_zero, List.set_cons_succ, i64_w, i32_w]
                rfl
               refine pure_ (i := 12) (N := some 56) (v := ?_) (a' := ?_) #[true, true, true, true, true, true, true, true, false, true, true, true, true, false, false, false, false, false] rfl rfl (any_of HT_.out (by kernel_rfl)) (fun _ _ _ h => h) (Or.inl ⟨by rfl, ?_⟩) ?_ ?_
               rotate_left
               ·intro w'
                go_simp
                with_reducible rfl
               rotate_left
               ·simp only [Act.put, List.setIfInBounds_toArray, List.set_cons_zero, List.set_cons_succ, i64_w, i32_w]
                rfl
               refine take_ (i := 8) (N := some 52) (v := ?_) (a' := ?_) #[true, true, true, true, true, true, true, true, true, true, true, true, true, false, false, false, false, false] rfl rfl (take_ofW HT_.out HW_.out (by kernel_rfl)) (fun _ _ _ h => h) (Or.inl ⟨by rfl, ?_⟩) hHeld ?_ ?_
               rotate_left
               ·rintro w' ⟨s0, s1, s2, s3, s4, s5, s6, s7, s8, s9, s10, s11, s12, s13, s14, s15, s16, s17⟩
                go_simp
                with_reducible rfl
               rotate_left
               ·simp only [Act.put, List.setIfInBounds_toArray, List.set_cons_zero, List.set_cons_succ, i64_w, i32_w]
                rfl
               refine take_ (i := 13) (N := some 57) (v := ?_) (a' := ?_) #[true, true, true, true, true, true, true, true, true, true, true, true, true, true, false, false, false, false] rfl rfl (take_ofW HT_.out HW_.out (by kernel_rfl)) (fun _ _ _ h => h) (Or.inl ⟨by rfl, ?_⟩) hHeld ?_ ?_
               rotate_left
               ·rintro w' ⟨s0, s1, s2, s3, s4, s5, s6, s7, s8, s9, s10, s11, s12, s13, s14, s15, s16, s17⟩
                go_simp
                with_reducible rfl
               rotate_left
               ·simp only [Act.put, List.setIfInBounds_toArray, List.set_cons_zero, List.set_cons_succ, i64_w, i32_w]
                rfl
               refine pure_ (i := 14) (N := some 58) (v := ?_) (a' := ?_) #[true, true, true, true, true, true, true, true, true, true, true, true, true, true, true, false, false, false] rfl rfl (any_of HT_.out (by kernel_rfl)) (fun _ _ _ h => h) (Or.inl ⟨by rfl, ?_⟩) ?_ ?_
               rotate_left
               ·intro w'
                go_simp
                with_reducible rfl
               rotate_left
               ·simp only [Act.put, List.setIfInBounds_toArray, List.set_cons_zero, List.set_cons_succ, i64_w, i32_w]
                rfl
               refine pure_ (i := 15) (N := some 59) (v := ?_) (a' := ?_) #[true, true, true, true, true, true, true, true, true, true, true, true, true, true, true, true, false, false] rfl rfl (any_of HT_.out (by kernel_rfl)) (fun _ _ _ h => h) (Or.inl ⟨by rfl, ?_⟩) ?_ ?_
               rotate_left
               ·intro w'
                go_simp
                with_reducible rfl
               rotate_left
               ·simp only [Act.put, List.setIfInBounds_toArray, List.set_cons_zero, List.set_cons_succ, i64_w, i32_w]
                rfl
               refine pure_ (i := 16) (N := some 60) (v := ?_) (a' := ?_) #[true, true, true, true, true, true, true, true, true, true, true, true, true, true, true, true, true, false] rfl rfl (any_of HT_.out (by kernel_rfl)) (fun _ _ _ h => h) (Or.inl ⟨by rfl, ?_⟩) ?_ ?_
               rotate_left
               ·intro w'
                go_simp
                with_reducible rfl
               rotate_left
               ·simp only [Act.put, List.setIfInBounds_toArray, List.set_cons_zero, List.set_cons_succ, i64_w, i32_w]
                rfl
               refine last_ (i := 17) (N := none) #[true, true, true, true, true, true, true, true, true, true, true, true, true, true, true, true, true, true] rfl rfl (one_of HT_.out (by kernel_rfl)) (by decide) (fun K hK => ?_)
               refine skip_ (w1 := ?_) (by rfl) rfl ?_ ?_
               rotate_left
               ·go_simp
                rfl
               refine hK.out _ _ ?_
               clear hK K
               refine done_ (done_of HT_.out (by kernel_rfl)) ?_
               try go_wp2
               go_roundg kj2
               case measure => have := HK1.out; have := HJ2.out; omega
               case rel => exact ⟨(y110), (wrap64 (x4_1 + 1)), (by first | rfl | (simp; done) | (simp [*]; done)), H', ⟨by have := HK1.out; have := HJ2.out; omega⟩, ⟨by (with_reducible repeat (first | apply Kd.R_alloc | apply Kd.R_drewN | apply Kd.R_drew)); exact HQ26.out⟩, ⟨by repeat (first | (with_reducible first | exact HB.out | apply below_alloc | apply pw_below_drewN | apply below_drew1 | refine below_set ?_ GB22.out) | exact HB.out)⟩⟩
              ·rw [if_neg c21] at H
               exact absurd H (by simp)
             ·replace c20 := Bool.eq_false_iff.mpr c20
              subst c20
              have H1 : (if x3_1.length < 1099511627776 then (tripartiteref07_Of.l0 kj2 l0 (x3_1 ++ [(⟨(rd_T123 l0 x4_1).f0, (rd_T123 l0 x4_1).f1, (rd_T123 l0 x4_1).f2, (rd_T123 l0 x4_1).f3, (rd_T123 l0 x4_1).f4, (rd_T123 l0 x4_1).f5, (rd_T123 l0 x4_1).f6, (rd_T123 l0 x4_1).f7, (rd_T123 l0 x4_1).f8⟩ : S123)]) (wrap64 (x4_1 + 1))) else (none)) = some r := by rw [if_neg (show ¬ (false = true) by decide)] at H; exact H
              clear H
              have H := H1
              clear H1
              by_cases c27 : x3_1.length < 1099511627776
              ·rw [if_pos c27] at H
               have LMc27 := Aside0.mk c27
               clear c27
               obtain ⟨y112, hy112⟩ : ∃ y_ : List (S123), y_ = (x3_1 ++ [(⟨(rd_T123 l0 x4_1).f0, (rd_T123 l0 x4_1).f1, (rd_T123 l0 x4_1).f2, (rd_T123 l0 x4_1).f3, (rd_T123 l0 x4_1).f4, (rd_T123 l0 x4_1).f5, (rd_T123 l0 x4_1).f6, (rd_T123 l0 x4_1).f7, (rd_T123 l0 x4_1).f8⟩ : S123)]) := ⟨_, rfl⟩
               replace H : (tripartiteref07_Of.l0 kj2 l0 y112 (wrap64 (x4_1 + 1))) = some r := by first | (rw [hy112]; with_reducible exact H) | (have H2_ := (Option.bind_some _ _).symm.trans H; rw [hy112]; with_reducible exact H2_) | (have H2_ := (Option.bind_some _ _).symm.trans H; with_reducible exact H2_) | with_reducible exact H | (rw [hy112]; exact H) | exact H
               have Ny112 := Aside0.mk hy112
               clear hy112
               have H' := Aside0.mk H
               clear H
               have p104 : 0 ≤ (x4_1 : Int) := of_decide_eq_true (by first | (with_reducible assumption) | assumption)
               have q104 : x4_1 < (l0.length : Int) := of_decide_eq_true (by first | (with_reducible assumption) | assumption)
               obtain ⟨ad104, e104, hx104_0, hx104_1, hx104_2, hx104_3, hx104_4, hx104_5, hx104_6, hx104_7, hx104_8⟩ := at_T123 HR0.out x4_1 p104 q104
               cases e104
               replace hx104_0 := (HB.out.cell (World.block_lt_of_cell? w _ hx104_0)).trans hx104_0
               replace hx104_1 := (HB.out.cell (World.block_lt_of_cell? w _ hx104_1)).trans hx104_1
               replace hx104_2 := (HB.out.cell (World.block_lt_of_cell? w _ hx104_2)).trans hx104_2
               replace hx104_3 := (HB.out.cell (World.block_lt_of_cell? w _ hx104_3)).trans hx104_3
               replace hx104_4 := (HB.out.cell (World.block_lt_of_cell? w _ hx104_4)).trans hx104_4
               replace hx104_5 := (HB.out.cell (World.block_lt_of_cell? w _ hx104_5)).trans hx104_5
               replace hx104_6 := (HB.out.cell (World.block_lt_of_cell? w _ hx104_6)).trans hx104_6
               replace hx104_7 := (HB.out.cell (World.block_lt_of_cell? w _ hx104_7)).trans hx104_7
               replace hx104_8 := (HB.out.cell (World.block_lt_of_cell? w _ hx104_8)).trans hx104_8
               replace p104 := eq_true p104
               replace q104 := eq_true q104
               go_wp2_with (first | ((with_reducible refine gate_callee (f := 134) rfl ?_); refine goesL_ (some 31) rfl rfl Try.func134 (by kernel_rfl) rfl #[.agg #[.string ((rd_T123 l0 x4_1).f0), .string ((rd_T123 l0 x4_1).f1), .string ((rd_T123 l0 x4_1).f2), .bool ((rd_T123 l0 x4_1).f3), .string ((rd_T123 l0 x4_1).f4), .string ((rd_T123 l0 x4_1).f5), .string ((rd_T123 l0 x4_1).f6), .string ((rd_T123 l0 x4_1).f7), .bool ((rd_T123 l0 x4_1).f8)]] rfl (by (try simp only [List.map_toArray, List.map_cons, List.map_nil]); first | done | rfl | (simp only [List.length_drop, List.length_take]; rfl)) ?_; (with_reducible refine (tripartiteref07_text.calls ((rd_T123 l0 x4_1).f0) ((rd_T123 l0 x4_1).f1) ((rd_T123 l0 x4_1).f2) ((rd_T123 l0 x4_1).f3) ((rd_T123 l0 x4_1).f4) ((rd_T123 l0 x4_1).f5) ((rd_T123 l0 x4_1).f6) ((rd_T123 l0 x4_1).f7) ((rd_T123 l0 x4_1).f8) true _ A13.out).mono ?_); rintro e w28 ⟨rfl, hb⟩; refine ⟨_, rfl, ?_⟩; have n0_ := Aside0.mk (Kd.R_below (by (with_reducible repeat (first | apply Kd.R_alloc | apply Kd.R_drewN | apply Kd.R_drew)); exact HO_3.out) hb); have n1_ := Aside0.mk (below_step (by repeat (first | (with_reducible first | exact HB.out | apply below_alloc | apply pw_below_drewN | apply below_drew1) | exact HB.out)) hb); clear HO_3; clear HB; have HO_3 := n0_; have HB := n1_; clear n0_ n1_; (try clear hb); (try clear hb2); (try clear hk); (try clear hi); have p106 : 0 ≤ ((ji16) : Int) := of_decide_eq_true (by first | (with_reducible assumption) | assumption); have q106 : (ji16) < (x3_1.length : Int) := of_decide_eq_true (by first | (with_reducible assumption) | assumption); obtain ⟨ad106, e106, hx106_0, hx106_1, hx106_2, hx106_3, hx106_4, hx106_5, hx106_6, hx106_7, hx106_8⟩ := at_T123 (Kd.R_reads' HO_3.out).2.2 (ji16) p106 q106; cases e106; replace p106 := eq_true p106; replace q106 := eq_true q106) | (go_at_call 134; (with_reducible refine (tripartiteref07_text.calls ((rd_T123 x3_1 (ji16)).f0) ((rd_T123 x3_1 (ji16)).f1) ((rd_T123 x3_1 (ji16)).f2) ((rd_T123 x3_1 (ji16)).f3) ((rd_T123 x3_1 (ji16)).f4) ((rd_T123 x3_1 (ji16)).f5) ((rd_T123 x3_1 (ji16)).f6) ((rd_T123 x3_1 (ji16)).f7) ((rd_T123 x3_1 (ji16)).f8) false _ A19.out).mono ?_); rintro e w29 ⟨rfl, hb⟩; have n0_ := Aside0.mk (Kd.R_below (by (with_reducible repeat (first | apply Kd.R_alloc | apply Kd.R_drewN | apply Kd.R_drew)); exact HO_3.out) hb); have n1_ := Aside0.mk (below_step (by repeat (first | (with_reducible first | exact HB.out | apply below_alloc | apply pw_below_drewN | apply below_drew1) | exact HB.out)) hb); clear HO_3; clear HB; have HO_3 := n0_; have HB := n1_; clear n0_ n1_; (try clear hb); (try clear hb2); (try clear hk); (try clear hi); have p111 : 0 ≤ (x4_1 : Int) := of_decide_eq_true (by first | (with_reducible assumption) | assumption); have q111 : x4_1 < (l0.length : Int) := of_decide_eq_true (by first | (with_reducible assumption) | assumption); obtain ⟨ad111, e111, hx111_0, hx111_1, hx111_2, hx111_3, hx111_4, hx111_5, hx111_6, hx111_7, hx111_8⟩ := at_T123 HR0.out x4_1 p111 q111; obtain rfl : ad104 = ad111 := (by injection e111); replace hx111_0 := (HB.out.cell (World.block_lt_of_cell? w _ hx111_0)).trans hx111_0; replace hx111_1 := (HB.out.cell (World.block_lt_of_cell? w _ hx111_1)).trans hx111_1; replace hx111_2 := (HB.out.cell (World.block_lt_of_cell? w _ hx111_2)).trans hx111_2; replace hx111_3 := (HB.out.cell (World.block_lt_of_cell? w _ hx111_3)).trans hx111_3; replace hx111_4 := (HB.out.cell (World.block_lt_of_cell? w _ hx111_4)).trans hx111_4; replace hx111_5 := (HB.out.cell (World.block_lt_of_cell? w _ hx111_5)).trans hx111_5; replace hx111_6 := (HB.out.cell (World.block_lt_of_cell? w _ hx111_6)).trans hx111_6; replace hx111_7 := (HB.out.cell (World.block_lt_of_cell? w _ hx111_7)).trans hx111_7; replace hx111_8 := (HB.out.cell (World.block_lt_of_cell? w _ hx111_8)).trans hx111_8; replace p111 := eq_true p111; replace q111 := eq_true q111) | ((with_reducible refine gate_builtin (b := .append) (xs := #[.tmp 61, .tmp 66]) rfl ?_); at_builtin; refine Kd.R_append k123 (w0 := w) w.heap.size rfl (.tmp 61) (.tmp 66) 86 123 (.agg #[(.string ⟨#[]⟩), (.string ⟨#[]⟩), (.string ⟨#[]⟩), (.bool false), (.string ⟨#[]⟩), (.string ⟨#[]⟩), (.string ⟨#[]⟩), (.string ⟨#[]⟩), (.bool false)]) 128 rfl Try.underlying86 info123 rfl (by decide) (by omega) (.slice (some ad106) x3_1.length co4) x3_1 (⟨(rd_T123 l0 x4_1).f0, (rd_T123 l0 x4_1).f1, (rd_T123 l0 x4_1).f2, (rd_T123 l0 x4_1).f3, (rd_T123 l0 x4_1).f4, (rd_T123 l0 x4_1).f5, (rd_T123 l0 x4_1).f6, (rd_T123 l0 x4_1).f7, (rd_T123 l0 x4_1).f8⟩ : S123) [.string ((rd_T123 l0 x4_1).f0), .string ((rd_T123 l0 x4_1).f1), .string ((rd_T123 l0 x4_1).f2), .bool ((rd_T123 l0 x4_1).f3), .string ((rd_T123 l0 x4_1).f4), .string ((rd_T123 l0 x4_1).f5), .string ((rd_T123 l0 x4_1).f6), .string ((rd_T123 l0 x4_1).f7), .bool ((rd_T123 l0 x4_1).f8)] (fun _ => True) (fun _ => False) rfl rfl ?aP (fun _ hk => hk.elim) ?aF ?aO ?aB ?aS ?aL ?_; (case aP => exact k123_mkM _ _ _ (⟨(rd_T123 l0 x4_1).f0, (rd_T123 l0 x4_1).f1, (rd_T123 l0 x4_1).f2, (rd_T123 l0 x4_1).f3, (rd_T123 l0 x4_1).f4, (rd_T123 l0 x4_1).f5, (rd_T123 l0 x4_1).f6, (rd_T123 l0 x4_1).f7, (rd_T123 l0 x4_1).f8⟩ : S123)); (case aB => exact (by repeat (first | (with_reducible first | exact HB.out | apply below_alloc | apply pw_below_drewN | apply below_drew1) | exact HB.out))); (case aF => exact (fun _ _ => trivial)); (case aO => exact (by (with_reducible repeat (first | apply Kd.R_alloc | apply Kd.R_drewN | apply Kd.R_drew)); exact HO_3.out)); (case aS => exact (below_size (by repeat (first | (with_reducible first | exact HB.out | apply below_alloc | apply pw_below_drewN | apply below_drew1) | exact HB.out)))); (case aL => have := LMc27.out; omega); intro v113 w30 ho hb hg hat; rw [← Ny112.out] at ho; have n0_ := Aside0.mk (hb); have n1_ := Aside0.mk (ho); clear HB; clear HO_3; have HB := n0_; have HO114 := n1_; clear n0_ n1_; clear ho hb hg hat))
               go_roundg kj2
               case measure => have := HK1.out; have := HJ2.out; omega
               case rel => exact ⟨(y112), (wrap64 (x4_1 + 1)), (by first | rfl | (simp; done) | (simp [*]; done)), H', ⟨by have := HK1.out; have := HJ2.out; omega⟩, ⟨by (with_reducible repeat (first | apply Kd.R_alloc | apply Kd.R_drewN | apply Kd.R_drew)); exact HO114.out⟩, ⟨by repeat (first | (with_reducible first | exact HB.out | apply below_alloc | apply pw_below_drewN | apply below_drew1) | exact HB.out)⟩⟩
              ·rw [if_neg c27] at H
               exact absurd H (by simp)
            ·rw [if_neg c18] at H
             exact absurd H (by simp)
           ·rw [if_neg c17] at H
            exact absurd H (by simp)
          ·rw [if_neg c15] at H
           have c15b0 : decide (0 < (x3_1.length : Int)) = false := decide_eq_false c15
           have c15b1 : decide (0 < x3_1.length) = false := decide_eq_false (by omega)
           clear c15
           by_cases c31 : x3_1.length < 1099511627776
           ·rw [if_pos c31] at H
            have LMc31 := Aside0.mk c31
            clear c31
            obtain ⟨y116, hy116⟩ : ∃ y_ : List (S123), y_ = (x3_1 ++ [(⟨(rd_T123 l0 x4_1).f0, (rd_T123 l0 x4_1).f1, (rd_T123 l0 x4_1).f2, (rd_T123 l0 x4_1).f3, (rd_T123 l0 x4_1).f4, (rd_T123 l0 x4_1).f5, (rd_T123 l0 x4_1).f6, (rd_T123 l0 x4_1).f7, (rd_T123 l0 x4_1).f8⟩ : S123)]) := ⟨_, rfl⟩
            replace H : (tripartiteref07_Of.l0 kj2 l0 y116 (wrap64 (x4_1 + 1))) = some r := by first | (rw [hy116]; with_reducible exact H) | (have H2_ := (Option.bind_some _ _).symm.trans H; rw [hy116]; with_reducible exact H2_) | (have H2_ := (Option.bind_some _ _).symm.trans H; with_reducible exact H2_) | with_reducible exact H | (rw [hy116]; exact H) | exact H
            have Ny116 := Aside0.mk hy116
            clear hy116
            have H' := Aside0.mk H
            clear H
            have p104 : 0 ≤ (x4_1 : Int) := of_decide_eq_true (by first | (with_reducible assumption) | assumption)
            have q104 : x4_1 < (l0.length : Int) := of_decide_eq_true (by first | (with_reducible assumption) | assumption)
            obtain ⟨ad104, e104, hx104_0, hx104_1, hx104_2, hx104_3, hx104_4, hx104_5, hx104_6, hx104_7, hx104_8⟩ := at_T123 HR0.out x4_1 p104 q104
            cases e104
            replace hx104_0 := (HB.out.cell (World.block_lt_of_cell? w _ hx104_0)).trans hx104_0
            replace hx104_1 := (HB.out.cell (World.block_lt_of_cell? w _ hx104_1)).trans hx104_1
            replace hx104_2 := (HB.out.cell (World.block_lt_of_cell? w _ hx104_2)).trans hx104_2
            replace hx104_3 := (HB.out.cell (World.block_lt_of_cell? w _ hx104_3)).trans hx104_3
            replace hx104_4 := (HB.out.cell (World.block_lt_of_cell? w _ hx104_4)).trans hx104_4
            replace hx104_5 := (HB.out.cell (World.block_lt_of_cell? w _ hx104_5)).trans hx104_5
            replace hx104_6 := (HB.out.cell (World.block_lt_of_cell? w _ hx104_6)).trans hx104_6
            replace hx104_7 := (HB.out.cell (World.block_lt_of_cell? w _ hx104_7)).trans hx104_7
            replace hx104_8 := (HB.out.cell (World.block_lt_of_cell? w _ hx104_8)).trans hx104_8
            replace p104 := eq_true p104
            replace q104 := eq_true q104
            go_wp2_with (first | ((with_reducible refine gate_callee (f := 134) rfl ?_); refine goesL_ (some 31) rfl rfl Try.func134 (by kernel_rfl) rfl #[.agg #[.string ((rd_T123 l0 x4_1).f0), .string ((rd_T123 l0 x4_1).f1), .string ((rd_T123 l0 x4_1).f2), .bool ((rd_T123 l0 x4_1).f3), .string ((rd_T123 l0 x4_1).f4), .string ((rd_T123 l0 x4_1).f5), .string ((rd_T123 l0 x4_1).f6), .string ((rd_T123 l0 x4_1).f7), .bool ((rd_T123 l0 x4_1).f8)]] rfl (by (try simp only [List.map_toArray, List.map_cons, List.map_nil]); first | done | rfl | (simp only [List.length_drop, List.length_take]; rfl)) ?_; (with_reducible refine (tripartiteref07_text.calls ((rd_T123 l0 x4_1).f0) ((rd_T123 l0 x4_1).f1) ((rd_T123 l0 x4_1).f2) ((rd_T123 l0 x4_1).f3) ((rd_T123 l0 x4_1).f4) ((rd_T123 l0 x4_1).f5) ((rd_T123 l0 x4_1).f6) ((rd_T123 l0 x4_1).f7) ((rd_T123 l0 x4_1).f8) true _ A13.out).mono ?_); rintro e w32 ⟨rfl, hb⟩; refine ⟨_, rfl, ?_⟩; have n0_ := Aside0.mk (Kd.R_below (by (with_reducible repeat (first | apply Kd.R_alloc | apply Kd.R_drewN | apply Kd.R_drew)); exact HO_3.out) hb); have n1_ := Aside0.mk (below_step (by repeat (first | (with_reducible first | exact HB.out | apply below_alloc | apply pw_below_drewN | apply below_drew1) | exact HB.out)) hb); clear HO_3; clear HB; have HO_3 := n0_; have HB := n1_; clear n0_ n1_; (try clear hb); (try clear hb2); (try clear hk); (try clear hi); have p115 : 0 ≤ (x4_1 : Int) := of_decide_eq_true (by first | (with_reducible assumption) | assumption); have q115 : x4_1 < (l0.length : Int) := of_decide_eq_true (by first | (with_reducible assumption) | assumption); obtain ⟨ad115, e115, hx115_0, hx115_1, hx115_2, hx115_3, hx115_4, hx115_5, hx115_6, hx115_7, hx115_8⟩ := at_T123 HR0.out x4_1 p115 q115; obtain rfl : ad104 = ad115 := (by injection e115); replace hx115_0 := (HB.out.cell (World.block_lt_of_cell? w _ hx115_0)).trans hx115_0; replace hx115_1 := (HB.out.cell (World.block_lt_of_cell? w _ hx115_1)).trans hx115_1; replace hx115_2 := (HB.out.cell (World.block_lt_of_cell? w _ hx115_2)).trans hx115_2; replace hx115_3 := (HB.out.cell (World.block_lt_of_cell? w _ hx115_3)).trans hx115_3; replace hx115_4 := (HB.out.cell (World.block_lt_of_cell? w _ hx115_4)).trans hx115_4; replace hx115_5 := (HB.out.cell (World.block_lt_of_cell? w _ hx115_5)).trans hx115_5; replace hx115_6 := (HB.out.cell (World.block_lt_of_cell? w _ hx115_6)).trans hx115_6; replace hx115_7 := (HB.out.cell (World.block_lt_of_cell? w _ hx115_7)).trans hx115_7; replace hx115_8 := (HB.out.cell (World.block_lt_of_cell? w _ hx115_8)).trans hx115_8; replace p115 := eq_true p115; replace q115 := eq_true q115) | ((with_reducible refine gate_builtin (b := .append) (xs := #[.tmp 61, .tmp 66]) rfl ?_); at_builtin; refine Kd.R_append k123 (w0 := w) w.heap.size rfl (.tmp 61) (.tmp 66) 86 123 (.agg #[(.string ⟨#[]⟩), (.string ⟨#[]⟩), (.string ⟨#[]⟩), (.bool false), (.string ⟨#[]⟩), (.string ⟨#[]⟩), (.string ⟨#[]⟩), (.string ⟨#[]⟩), (.bool false)]) 128 rfl Try.underlying86 info123 rfl (by decide) (by omega) (.slice Ao4 x3_1.length co4) x3_1 (⟨(rd_T123 l0 x4_1).f0, (rd_T123 l0 x4_1).f1, (rd_T123 l0 x4_1).f2, (rd_T123 l0 x4_1).f3, (rd_T123 l0 x4_1).f4, (rd_T123 l0 x4_1).f5, (rd_T123 l0 x4_1).f6, (rd_T123 l0 x4_1).f7, (rd_T123 l0 x4_1).f8⟩ : S123) [.string ((rd_T123 l0 x4_1).f0), .string ((rd_T123 l0 x4_1).f1), .string ((rd_T123 l0 x4_1).f2), .bool ((rd_T123 l0 x4_1).f3), .string ((rd_T123 l0 x4_1).f4), .string ((rd_T123 l0 x4_1).f5), .string ((rd_T123 l0 x4_1).f6), .string ((rd_T123 l0 x4_1).f7), .bool ((rd_T123 l0 x4_1).f8)] (fun _ => True) (fun _ => False) rfl rfl ?aP (fun _ hk => hk.elim) ?aF ?aO ?aB ?aS ?aL ?_; (case aP => exact k123_mkM _ _ _ (⟨(rd_T123 l0 x4_1).f0, (rd_T123 l0 x4_1).f1, (rd_T123 l0 x4_1).f2, (rd_T123 l0 x4_1).f3, (rd_T123 l0 x4_1).f4, (rd_T123 l0 x4_1).f5, (rd_T123 l0 x4_1).f6, (rd_T123 l0 x4_1).f7, (rd_T123 l0 x4_1).f8⟩ : S123)); (case aB => exact (by repeat (first | (with_reducible first | exact HB.out | apply below_alloc | apply pw_below_drewN | apply below_drew1) | exact HB.out))); (case aF => exact (fun _ _ => trivial)); (case aO => exact (by (with_reducible repeat (first | apply Kd.R_alloc | apply Kd.R_drewN | apply Kd.R_drew)); exact HO_3.out)); (case aS => exact (below_size (by repeat (first | (with_reducible first | exact HB.out | apply below_alloc | apply pw_below_drewN | apply below_drew1) | exact HB.out)))); (case aL => have := LMc31.out; omega); intro v117 w33 ho hb hg hat; rw [← Ny116.out] at ho; have n0_ := Aside0.mk (hb); have n1_ := Aside0.mk (ho); clear HB; clear HO_3; have HB := n0_; have HO118 := n1_; clear n0_ n1_; clear ho hb hg hat))
            go_roundg kj2
            case measure => have := HK1.out; have := HJ2.out; omega
            case rel => exact ⟨(y116), (wrap64 (x4_1 + 1)), (by first | rfl | (simp; done) | (simp [*]; done)), H', ⟨by have := HK1.out; have := HJ2.out; omega⟩, ⟨by (with_reducible repeat (first | apply Kd.R_alloc | apply Kd.R_drewN | apply Kd.R_drew)); exact HO118.out⟩, ⟨by repeat (first | (with_reducible first | exact HB.out | apply below_alloc | apply pw_below_drewN | apply below_drew1) | exact HB.out)⟩⟩
           ·rw [if_neg c31] at H
            exact absurd H (by simp)
         ·replace c14 := Bool.eq_false_iff.mpr c14
          subst c14
          have H1 : (if x3_1.length < 1099511627776 then (tripartiteref07_Of.l0 kj2 l0 (x3_1 ++ [(⟨(rd_T123 l0 x4_1).f0, (rd_T123 l0 x4_1).f1, (rd_T123 l0 x4_1).f2, (rd_T123 l0 x4_1).f3, (rd_T123 l0 x4_1).f4, (rd_T123 l0 x4_1).f5, (rd_T123 l0 x4_1).f6, (rd_T123 l0 x4_1).f7, (rd_T123 l0 x4_1).f8⟩ : S123)]) (wrap64 (x4_1 + 1))) else (none)) = some r := by rw [if_neg (show ¬ (false = true) by decide)] at H; exact H
          clear H
          have H := H1
          clear H1
          by_cases c34 : x3_1.length < 1099511627776
          ·rw [if_pos c34] at H
           have LMc34 := Aside0.mk c34
           clear c34
           obtain ⟨y120, hy120⟩ : ∃ y_ : List (S123), y_ = (x3_1 ++ [(⟨(rd_T123 l0 x4_1).f0, (rd_T123 l0 x4_1).f1, (rd_T123 l0 x4_1).f2, (rd_T123 l0 x4_1).f3, (rd_T123 l0 x4_1).f4, (rd_T123 l0 x4_1).f5, (rd_T123 l0 x4_1).f6, (rd_T123 l0 x4_1).f7, (rd_T123 l0 x4_1).f8⟩ : S123)]) := ⟨_, rfl⟩
           replace H : (tripartiteref07_Of.l0 kj2 l0 y120 (wrap64 (x4_1 + 1))) = some r := by first | (rw [hy120]; with_reducible exact H) | (have H2_ := (Option.bind_some _ _).symm.trans H; rw [hy120]; with_reducible exact H2_) | (have H2_ := (Option.bind_some _ _).symm.trans H; with_reducible exact H2_) | with_reducible exact H | (rw [hy120]; exact H) | exact H
           have Ny120 := Aside0.mk hy120
           clear hy120
           have H' := Aside0.mk H
           clear H
           have p104 : 0 ≤ (x4_1 : Int) := of_decide_eq_true (by first | (with_reducible assumption) | assumption)
           have q104 : x4_1 < (l0.length : Int) := of_decide_eq_true (by first | (with_reducible assumption) | assumption)
           obtain ⟨ad104, e104, hx104_0, hx104_1, hx104_2, hx104_3, hx104_4, hx104_5, hx104_6, hx104_7, hx104_8⟩ := at_T123 HR0.out x4_1 p104 q104
           cases e104
           replace hx104_0 := (HB.out.cell (World.block_lt_of_cell? w _ hx104_0)).trans hx104_0
           replace hx104_1 := (HB.out.cell (World.block_lt_of_cell? w _ hx104_1)).trans hx104_1
           replace hx104_2 := (HB.out.cell (World.block_lt_of_cell? w _ hx104_2)).trans hx104_2
           replace hx104_3 := (HB.out.cell (World.block_lt_of_cell? w _ hx104_3)).trans hx104_3
           replace hx104_4 := (HB.out.cell (World.block_lt_of_cell? w _ hx104_4)).trans hx104_4
           replace hx104_5 := (HB.out.cell (World.block_lt_of_cell? w _ hx104_5)).trans hx104_5
           replace hx104_6 := (HB.out.cell (World.block_lt_of_cell? w _ hx104_6)).trans hx104_6
           replace hx104_7 := (HB.out.cell (World.block_lt_of_cell? w _ hx104_7)).trans hx104_7
           replace hx104_8 := (HB.out.cell (World.block_lt_of_cell? w _ hx104_8)).trans hx104_8
           replace p104 := eq_true p104
           replace q104 := eq_true q104
           go_wp2_with (first | ((with_reducible refine gate_callee (f := 134) rfl ?_); refine goesL_ (some 31) rfl rfl Try.func134 (by kernel_rfl) rfl #[.agg #[.string ((rd_T123 l0 x4_1).f0), .string ((rd_T123 l0 x4_1).f1), .string ((rd_T123 l0 x4_1).f2), .bool ((rd_T123 l0 x4_1).f3), .string ((rd_T123 l0 x4_1).f4), .string ((rd_T123 l0 x4_1).f5), .string ((rd_T123 l0 x4_1).f6), .string ((rd_T123 l0 x4_1).f7), .bool ((rd_T123 l0 x4_1).f8)]] rfl (by (try simp only [List.map_toArray, List.map_cons, List.map_nil]); first | done | rfl | (simp only [List.length_drop, List.length_take]; rfl)) ?_; (with_reducible refine (tripartiteref07_text.calls ((rd_T123 l0 x4_1).f0) ((rd_T123 l0 x4_1).f1) ((rd_T123 l0 x4_1).f2) ((rd_T123 l0 x4_1).f3) ((rd_T123 l0 x4_1).f4) ((rd_T123 l0 x4_1).f5) ((rd_T123 l0 x4_1).f6) ((rd_T123 l0 x4_1).f7) ((rd_T123 l0 x4_1).f8) false _ A13.out).mono ?_); rintro e w35 ⟨rfl, hb⟩; refine ⟨_, rfl, ?_⟩; have n0_ := Aside0.mk (Kd.R_below (by (with_reducible repeat (first | apply Kd.R_alloc | apply Kd.R_drewN | apply Kd.R_drew)); exact HO_3.out) hb); have n1_ := Aside0.mk (below_step (by repeat (first | (with_reducible first | exact HB.out | apply below_alloc | apply pw_below_drewN | apply below_drew1) | exact HB.out)) hb); clear HO_3; clear HB; have HO_3 := n0_; have HB := n1_; clear n0_ n1_; (try clear hb); (try clear hb2); (try clear hk); (try clear hi); have p119 : 0 ≤ (x4_1 : Int) := of_decide_eq_true (by first | (with_reducible assumption) | assumption); have q119 : x4_1 < (l0.length : Int) := of_decide_eq_true (by first | (with_reducible assumption) | assumption); obtain ⟨ad119, e119, hx119_0, hx119_1, hx119_2, hx119_3, hx119_4, hx119_5, hx119_6, hx119_7, hx119_8⟩ := at_T123 HR0.out x4_1 p119 q119; obtain rfl : ad104 = ad119 := (by injection e119); replace hx119_0 := (HB.out.cell (World.block_lt_of_cell? w _ hx119_0)).trans hx119_0; replace hx119_1 := (HB.out.cell (World.block_lt_of_cell? w _ hx119_1)).trans hx119_1; replace hx119_2 := (HB.out.cell (World.block_lt_of_cell? w _ hx119_2)).trans hx119_2; replace hx119_3 := (HB.out.cell (World.block_lt_of_cell? w _ hx119_3)).trans hx119_3; replace hx119_4 := (HB.out.cell (World.block_lt_of_cell? w _ hx119_4)).trans hx119_4; replace hx119_5 := (HB.out.cell (World.block_lt_of_cell? w _ hx119_5)).trans hx119_5; replace hx119_6 := (HB.out.cell (World.block_lt_of_cell? w _ hx119_6)).trans hx119_6; replace hx119_7 := (HB.out.cell (World.block_lt_of_cell? w _ hx119_7)).trans hx119_7; replace hx119_8 := (HB.out.cell (World.block_lt_of_cell? w _ hx119_8)).trans hx119_8; replace p119 := eq_true p119; replace q119 := eq_true q119) | ((with_reducible refine gate_builtin (b := .append) (xs := #[.tmp 61, .tmp 66]) rfl ?_); at_builtin; refine Kd.R_append k123 (w0 := w) w.heap.size rfl (.tmp 61) (.tmp 66) 86 123 (.agg #[(.string ⟨#[]⟩), (.string ⟨#[]⟩), (.string ⟨#[]⟩), (.bool false), (.string ⟨#[]⟩), (.string ⟨#[]⟩), (.string ⟨#[]⟩), (.string ⟨#[]⟩), (.bool false)]) 128 rfl Try.underlying86 info123 rfl (by decide) (by omega) (.slice Ao4 x3_1.length co4) x3_1 (⟨(rd_T123 l0 x4_1).f0, (rd_T123 l0 x4_1).f1, (rd_T123 l0 x4_1).f2, (rd_T123 l0 x4_1).f3, (rd_T123 l0 x4_1).f4, (rd_T123 l0 x4_1).f5, (rd_T123 l0 x4_1).f6, (rd_T123 l0 x4_1).f7, (rd_T123 l0 x4_1).f8⟩ : S123) [.string ((rd_T123 l0 x4_1).f0), .string ((rd_T123 l0 x4_1).f1), .string ((rd_T123 l0 x4_1).f2), .bool ((rd_T123 l0 x4_1).f3), .string ((rd_T123 l0 x4_1).f4), .string ((rd_T123 l0 x4_1).f5), .string ((rd_T123 l0 x4_1).f6), .string ((rd_T123 l0 x4_1).f7), .bool ((rd_T123 l0 x4_1).f8)] (fun _ => True) (fun _ => False) rfl rfl ?aP (fun _ hk => hk.elim) ?aF ?aO ?aB ?aS ?aL ?_; (case aP => exact k123_mkM _ _ _ (⟨(rd_T123 l0 x4_1).f0, (rd_T123 l0 x4_1).f1, (rd_T123 l0 x4_1).f2, (rd_T123 l0 x4_1).f3, (rd_T123 l0 x4_1).f4, (rd_T123 l0 x4_1).f5, (rd_T123 l0 x4_1).f6, (rd_T123 l0 x4_1).f7, (rd_T123 l0 x4_1).f8⟩ : S123)); (case aB => exact (by repeat (first | (with_reducible first | exact HB.out | apply below_alloc | apply pw_below_drewN | apply below_drew1) | exact HB.out))); (case aF => exact (fun _ _ => trivial)); (case aO => exact (by (with_reducible repeat (first | apply Kd.R_alloc | apply Kd.R_drewN | apply Kd.R_drew)); exact HO_3.out)); (case aS => exact (below_size (by repeat (first | (with_reducible first | exact HB.out | apply below_alloc | apply pw_below_drewN | apply below_drew1) | exact HB.out)))); (case aL => have := LMc34.out; omega); intro v121 w36 ho hb hg hat; rw [← Ny120.out] at ho; have n0_ := Aside0.mk (hb); have n1_ := Aside0.mk (ho); clear HB; clear HO_3; have HB := n0_; have HO122 := n1_; clear n0_ n1_; clear ho hb hg hat))
           go_roundg kj2
           case measure => have := HK1.out; have := HJ2.out; omega
           case rel => exact ⟨(y120), (wrap64 (x4_1 + 1)), (by first | rfl | (simp; done) | (simp [*]; done)), H', ⟨by have := HK1.out; have := HJ2.out; omega⟩, ⟨by (with_reducible repeat (first | apply Kd.R_alloc | apply Kd.R_drewN | apply Kd.R_drew)); exact HO122.out⟩, ⟨by repeat (first | (with_reducible first | exact HB.out | apply below_alloc | apply pw_below_drewN | apply below_drew1) | exact HB.out)⟩⟩
          ·rw [if_neg c34] at H
           exact absurd H (by simp)
        ·rw [if_neg c12] at H
         exact absurd H (by simp)
       ·rw [if_neg c11] at H
        exact absurd H (by simp)
   ·rw [if_neg c2] at H
    have c2b0 : decide (x4_1 < (l0.length : Int)) = false := decide_eq_false c2
    clear c2
    obtain rfl := Option.some.inj H
    go_wp2
    go_ret
    exact ⟨_, by first | rfl | (simp [errW_none, errW_some] <;> rfl) | (simp [*, errW_none, errW_some] <;> rfl), by (with_reducible repeat (first | apply Kd.R_alloc | apply Kd.R_drewN | apply Kd.R_drew)); exact HO_3.out, by repeat (first | (with_reducible first | exact HB.out | apply below_alloc | apply pw_below_drewN | apply below_drew1) | exact HB.out)⟩
end Go.Proofs.Ytadafplbgophfaa.PA
end
section
namespace Go.Proofs.Ytadafplbgophfaa.PA
open Go.RowKit Go.Proofs.YtadafplbgophfaaW.PrintWords Go.Proofs.YtadafplbgophfaaW.PrintLast Go.Proofs.YtadafplbgophfaaW.PrintMore
attribute [local go_sem] max2_int min2_int max_two min_two max_three min_three max_four min_four   -- for this text's walks alone
set_option linter.unusedVariables false
set_option linter.unusedSimpArgs false
mutual
def tripartiteref11_One.j0 : Nat → List (S123) → Int → Int → Bool → Option ((List (S123)) × Int)
 | 0, _, _, _, _ => none
 | k + 1, x0, x1, x2, x22 => if x22 = true then (some (([] : List (S123)), 1)) else ((some (([] : List (S123)) : List (S123))).bind fun y103 => (if y103.length + x0.length < 1099511627776 then (tripartiteref11_One.l0 k x0 x1 x2 (y103 ++ x0) 0) else (none)))
def tripartiteref11_One.l0 : Nat → List (S123) → Int → Int → List (S123) → Int → Option ((List (S123)) × Int)
 | 0, _, _, _, _, _ => none
 | k + 1, x0, x1, x2, x8, x9 => if x9 < (x0.length : Int) then (if 0 ≤ x9 then (if ((rd_T123 x0 x9).f3 = true) then (if x1 = 0 then ((tripartiteref11_pick.f k ((rd_T123 x0 x9).f0) ((rd_T123 x0 x9).f1) ((rd_T123 x0 x9).f2) ((rd_T123 x0 x9).f3) ((rd_T123 x0 x9).f4) ((rd_T123 x0 x9).f5) ((rd_T123 x0 x9).f6) ((rd_T123 x0 x9).f7) ((rd_T123 x0 x9).f8) x2).bind fun bt114 => (if bt114.2 = 0 then (if bt114.1.toList = ([] : List UInt8) then (if x9 < (x8.length : Int) then (tripartiteref11_One.l0 k x0 (wrap64 (x1 - 1)) x2 (x8.set (x9 : Int).toNat (⟨(⟨#[]⟩ : ByteArray), (⟨#[]⟩ : ByteArray), (⟨#[]⟩ : ByteArray), false, bt114.1, (⟨#[]⟩ : ByteArray), (⟨#[]⟩ : ByteArray), (⟨#[]⟩ : ByteArray), false⟩ : S123)) (wrap64 (x9 + 1))) else (none)) else ((tripartiteref01_Ends.f bt114.1).bind fun t117 => (if t117 = true then (if x9 < (x8.length : Int) then (tripartiteref11_One.l0 k x0 (wrap64 (x1 - 1)) x2 (x8.set (x9 : Int).toNat (⟨(⟨#[]⟩ : ByteArray), (⟨#[]⟩ : ByteArray), (⟨#[]⟩ : ByteArray), false, bt114.1, (⟨#[]⟩ : ByteArray), (⟨#[]⟩ : ByteArray), (⟨#[]⟩ : ByteArray), false⟩ : S123)) (wrap64 (x9 + 1))) else (none)) else (if (wrap64 (x9 + 1)) < (x0.length : Int) then (some (([] : List (S123)), 11)) else (if x9 < (x8.length : Int) then (tripartiteref11_One.l0 k x0 (wrap64 (x1 - 1)) x2 (x8.set (x9 : Int).toNat (⟨(⟨#[]⟩ : ByteArray), (⟨#[]⟩ : ByteArray), (⟨#[]⟩ : ByteArray), false, bt114.1, (⟨#[]⟩ : ByteArray), (⟨#[]⟩ : ByteArray), (⟨#[]⟩ : ByteArray), false⟩ : S123)) (wrap64 (x9 + 1))) else (none)))))) else (some (([] : List (S123)), bt114.2)))) else (tripartiteref11_One.l0 k x0 (wrap64 (x1 - 1)) x2 x8 (wrap64 (x9 + 1)))) else (tripartiteref11_One.l0 k x0 x1 x2 x8 (wrap64 (x9 + 1)))) else (none)) else ((tripartiteref07_Of.f k x8).bind fun t109 => (some (t109, 0)))
end
def tripartiteref11_One.f (k : Nat) (l0 : List (S123)) (a1 : Int) (a2 : Int) : Option ((List (S123)) × Int) := (tripartiteref07_Right.f k l0).bind fun t101 => (if t101 = true then (if a1 < 0 then (tripartiteref11_One.j0 k l0 a1 a2 true) else ((tripartiteref07_Conflicts.f k l0).bind fun t102 => (tripartiteref11_One.j0 k l0 a1 a2 (decide (a1 ≥ t102))))) else (some (([] : List (S123)), 11)))
set_option maxHeartbeats 8000000 in
set_option maxRecDepth 100000 in
theorem tripartiteref11_One.calls (k : Nat) (A0 : Option Addr) (c0 : Nat) (l0 : List (S123)) (a1 : Int) (a2 : Int) (r1 : List (S123)) (r2 : Int) (w : World) (hr0 : Kd.C k123 w A0 l0.length l0) (hc0 : l0.length ≤ c0) (h : tripartiteref11_One.f k l0 a1 a2 = some (r1, r2)) :
  Calls Try.prog 69 #[.slice A0 l0.length c0, .int .i64 a1, .int .i64 a2] w fun e w' => ∃ v0_ : Value, e = .returned (.tuple #[v0_, .int .i64 r2]) ∧ Kd.R k123 123 w' w.heap.size (fun _ => True) v0_ r1 ∧ Below w.heap.size w w' := by
 have hu123 := Try.underlying123
 have HR0 := Aside0.mk hr0
 have HC0 := Aside0.mk hc0
 clear hr0 hc0
 have HB := Aside0.mk (Below.refl w.heap.size w)
 have H : ((tripartiteref07_Right.f k l0).bind fun t101 => (if t101 = true then (if a1 < 0 then (tripartiteref11_One.j0 k l0 a1 a2 true) else ((tripartiteref07_Conflicts.f k l0).bind fun t102 => (tripartiteref11_One.j0 k l0 a1 a2 (decide (a1 ≥ t102))))) else (some (([] : List (S123)), 11)))) = some (r1, r2) := h
 clear h
 replace H := Option.bind_eq_some_iff.mp H
 obtain ⟨t101, A40, H⟩ := H
 replace H : (if t101 = true then (if a1 < 0 then (tripartiteref11_One.j0 k l0 a1 a2 true) else ((tripartiteref07_Conflicts.f k l0).bind fun t102 => (tripartiteref11_One.j0 k l0 a1 a2 (decide (a1 ≥ t102))))) else (some (([] : List (S123)), 11))) = some (r1, r2) := H
 have A4 := Aside0.mk A40
 clear A40
 by_cases c5 : t101 = true
 ·subst c5
  have H1 : (if a1 < 0 then (tripartiteref11_One.j0 k l0 a1 a2 true) else ((tripartiteref07_Conflicts.f k l0).bind fun t102 => (tripartiteref11_One.j0 k l0 a1 a2 (decide (a1 ≥ t102))))) = some (r1, r2) := by rw [if_pos rfl] at H; exact H
  clear H
  have H := H1
  clear H1
  have HC6 := Aside0.mk H
  clear H
  go_enter Try.func69, Try.ntmps69
  go_upto_region 3 with (first | ((with_reducible refine gate_callee (f := 100) rfl ?_); refine goesL_ (some 13) rfl rfl Try.func100 (by kernel_rfl) rfl #[.slice A0 l0.length c0] rfl (by (try simp only [List.map_toArray, List.map_cons, List.map_nil]); first | done | rfl | (simp only [List.length_drop, List.length_take]; rfl)) ?_; (with_reducible refine (tripartiteref07_Right.calls k _ _ l0 true _ ?side1 ?side2 A4.out).mono ?_); (case side1 => repeat (first | exact HR0.out | (with_reducible refine Kd.C_alloc ?_ _) | (with_reducible refine Kd.C_drewN ?_ _) | (with_reducible refine Kd.C_drew ?_))); (case side2 => exact HC0.out); rintro e w7 ⟨rfl, hb⟩; refine ⟨_, rfl, ?_⟩; have n0_ := Aside0.mk (below_step (by repeat (first | (with_reducible first | exact HB.out | apply below_alloc | apply pw_below_drewN | apply below_drew1) | exact HB.out)) hb); clear HB; have HB := n0_; clear n0_; (try clear hb); (try clear hb2); (try clear hk); (try clear hi)))
  (try simp only [Act.put, List.setIfInBounds_toArray, List.set_cons_zero, List.set_cons_succ])
  go_cut [22] (fun v22 wc => ∃ (kq : Nat) (x22_5 : Bool), v22 = .bool x22_5 ∧ Aside0 (tripartiteref11_One.j0 kq l0 a1 a2 x22_5 = some (r1, r2)) ∧ Aside0 (kq ≤ k) ∧ Aside0 (Below w.heap.size w wc))
  case first =>
   have H := HC6.out
   clear HC6
   by_cases c8 : a1 < 0
   ·rw [if_pos c8] at H
    have c8b0 : decide (a1 < 0) = true := decide_eq_true c8
    clear c8
    (first | rw [c8b0] | (simp only [i64_w, i32_w]; rw [c8b0]) | skip)
    have H' := Aside0.mk H
    clear H
    go_wp2
    go_meet
    case rel => exact ⟨_, (true), (by first | rfl | (simp; done) | (simp [*]; done)), H', ⟨by first | omega | exact Nat.le_refl _⟩, ⟨by repeat (first | (with_reducible first | exact HB.out | apply below_alloc | apply pw_below_drewN | apply below_drew1) | exact HB.out)⟩⟩
   ·rw [if_neg c8] at H
    have c8b0 : decide (a1 < 0) = false := decide_eq_false c8
    clear c8
    (first | rw [c8b0] | (simp only [i64_w, i32_w]; rw [c8b0]) | skip)
    replace H := Option.bind_eq_some_iff.mp H
    obtain ⟨t102, A90, H⟩ := H
    replace H : (tripartiteref11_One.j0 k l0 a1 a2 (decide (a1 ≥ t102))) = some (r1, r2) := H
    have A9 := Aside0.mk A90
    clear A90
    have H' := Aside0.mk H
    clear H
    go_wp2_with (first | (go_at_call 102; (with_reducible refine (tripartiteref07_Conflicts.calls k _ _ l0 t102 _ ?side1 ?side2 A9.out).mono ?_); (case side1 => repeat (first | exact (Kd.C_below HR0.out HB.out) | (with_reducible refine Kd.C_alloc ?_ _) | (with_reducible refine Kd.C_drewN ?_ _) | (with_reducible refine Kd.C_drew ?_))); (case side2 => exact HC0.out); rintro e w' ⟨rfl, ⟨nd, rfl⟩⟩))
    go_meet
    case rel => exact ⟨_, (decide (a1 ≥ t102)), (by first | rfl | (simp; done) | (simp [*]; done)), H', ⟨by first | omega | exact Nat.le_refl _⟩, ⟨by repeat (first | (with_reducible first | exact HB.out | apply below_alloc | apply pw_below_drewN | apply below_drew1) | exact HB.out)⟩⟩
  case rest =>
   clear HC6
   try clear c1
   try clear p2
   try clear c5
   try clear c6
   try clear c8
   try clear c8b0
   obtain ⟨kq, x22_5, rfl, HA, HJ5, HB⟩ := hcut
   cases kq with
   | zero => exact absurd HA.out (by simp [tripartiteref11_One.j0])
   | succ kj5 =>
    have H := HA.out
    clear HA
    simp only [tripartiteref11_One.j0] at H
    by_cases c10 : x22_5 = true
    ·subst c10
     have H1 : (some (([] : List (S123)), 1)) = some (r1, r2) := by rw [if_pos rfl] at H; exact H
     clear H
     have H := H1
     clear H1
     simp only [Option.some.injEq, Prod.mk.injEq] at H
     obtain ⟨rfl, rfl⟩ := H
     go_wp2
     go_ret2
     exact ⟨_, by first | rfl | (simp [errW_none, errW_some] <;> rfl) | (simp [*, errW_none, errW_some] <;> rfl), by first | exact Kd.R_nil _ _ _ _ _ | exact Kd.N_nil _ _ _ _ _ | exact Kd.V_nil _ _ _ _ _ | exact Kd.Q_nil _ _ _ _ _ | exact Kd.S_nil _ _ _ _ _, by repeat (first | (with_reducible first | exact HB.out | apply below_alloc | apply pw_below_drewN | apply below_drew1) | exact HB.out)⟩
    ·replace c10 := Bool.eq_false_iff.mpr c10
     subst c10
     have H1 : ((some (([] : List (S123)) : List (S123))).bind fun y103 => (if y103.length + l0.length < 1099511627776 then (tripartiteref11_One.l0 kj5 l0 a1 a2 (y103 ++ l0) 0) else (none))) = some (r1, r2) := by rw [if_neg (show ¬ (false = true) by decide)] at H; exact H
     clear H
     have H := H1
     clear H1
     obtain ⟨y103, hy103⟩ : ∃ y_ : List (S123), y_ = (([] : List (S123))) := ⟨_, rfl⟩
     replace H : (if y103.length + l0.length < 1099511627776 then (tripartiteref11_One.l0 kj5 l0 a1 a2 (y103 ++ l0) 0) else (none)) = some (r1, r2) := by first | (rw [hy103]; with_reducible exact H) | (have H2_ := (Option.bind_some _ _).symm.trans H; rw [hy103]; with_reducible exact H2_) | (have H2_ := (Option.bind_some _ _).symm.trans H; with_reducible exact H2_) | with_reducible exact H | (rw [hy103]; exact H) | exact H
     have Ny103 := Aside0.mk hy103
     clear hy103
     by_cases c11 : y103.length + l0.length < 1099511627776
     ·rw [if_pos c11] at H
      have LMc11 := Aside0.mk c11
      clear c11
      obtain ⟨y106, hy106⟩ : ∃ y_ : List (S123), y_ = (y103 ++ l0) := ⟨_, rfl⟩
      replace H : (tripartiteref11_One.l0 kj5 l0 a1 a2 y106 0) = some (r1, r2) := by first | (rw [hy106]; with_reducible exact H) | (have H2_ := (Option.bind_some _ _).symm.trans H; rw [hy106]; with_reducible exact H2_) | (have H2_ := (Option.bind_some _ _).symm.trans H; with_reducible exact H2_) | with_reducible exact H | (rw [hy106]; exact H) | exact H
      have Ny106 := Aside0.mk hy106
      clear hy106
      have H' := Aside0.mk H
      clear H
      go_wp2_with (first | ((with_reducible refine gate_dst (N := 23) rfl ?_); (try (refine gate_guard (by rfl) ?_; dsimp only)); refine Kd.R_lit k123 _ 123 ?hg (N := 23) ?hd (xs := ([] : List (S123))) (inner := []) (ok := fun _ => True) (okp := fun _ => True) ?hr ?hp (fun _ hk => hk) trivial (Below.refl _ _) (Nat.le_refl _) (by simp) ?_; (case hd => rfl); (case hg => rfl); (case hr => first | (go_simp; done) | (go_simp; rfl)); (case hp => exact (Reps.none _ _)); intro v104 w12 ho13 hb hg_ hnew_; clear hg_ hnew_; (first | rw [← Ny103.out] at ho13 | (simp only [Int.reduceToNat] at ho13; rw [← Ny103.out] at ho13)); have n0_ := Aside0.mk (Kd.R_lower ho13 (below_size (by repeat (first | (with_reducible first | exact HB.out | apply below_alloc | apply pw_below_drewN | apply below_drew1) | exact HB.out)))); have n1_ := Aside0.mk (below_step (by repeat (first | (with_reducible first | exact HB.out | apply below_alloc | apply pw_below_drewN | apply below_drew1) | exact HB.out)) hb); clear HB; have HO105 := n0_; have HB := n1_; clear n0_ n1_; clear hb ho13) | ((with_reducible refine gate_builtin (b := .append) (xs := #[.tmp 23, .tmp 24]) rfl ?_); (try (refine gate_guard (by rfl) ?_; dsimp only)); at_builtin; refine Kd.R_append_rows k123 (w0 := w) w.heap.size rfl (.tmp 23) (.tmp 24) 86 123 (.agg #[(.string ⟨#[]⟩), (.string ⟨#[]⟩), (.string ⟨#[]⟩), (.bool false), (.string ⟨#[]⟩), (.string ⟨#[]⟩), (.string ⟨#[]⟩), (.string ⟨#[]⟩), (.bool false)]) 128 rfl Try.underlying86 info123 rfl (by decide) (by omega) v104 y103 l0 _ _ _ (fun _ => True) (fun _ => False) rfl rfl ?aO ?aR (fun _ _ h => h) (fun _ h => h.elim) ?aF ?aB ?aS ?aL ?_; (case aR => repeat (first | exact (Kd.C_below HR0.out HB.out) | (with_reducible refine Kd.C_alloc ?_ _) | (with_reducible refine Kd.C_drewN ?_ _) | (with_reducible refine Kd.C_drew ?_))); (case aB => exact (by repeat (first | (with_reducible first | exact HB.out | apply below_alloc | apply pw_below_drewN | apply below_drew1) | exact HB.out))); (case aF => exact (fun _ _ => trivial)); (case aO => exact (by (with_reducible repeat (first | apply Kd.R_alloc | apply Kd.R_drewN | apply Kd.R_drew)); exact HO105.out)); (case aS => exact (below_size (by repeat (first | (with_reducible first | exact HB.out | apply below_alloc | apply pw_below_drewN | apply below_drew1) | exact HB.out)))); (case aL => have := LMc11.out; omega); intro v107 w14 ho hb hg hat; rw [← Ny106.out] at ho; have n0_ := Aside0.mk (hb); have n1_ := Aside0.mk (ho); clear HB; clear HO105; have HB := n0_; have HO108 := n1_; clear n0_ n1_; clear ho hb hg hat))
      go_loopg [1, 9] kj5 (fun kq v1 v9 w' => ∃ (x1_2 : Int) (x8_2 : List (S123)) (x9_2 : Int), v1 = .int .i64 x1_2 ∧ v9 = .int .i64 x9_2 ∧ Aside0 (tripartiteref11_One.l0 kq l0 x1_2 a2 x8_2 x9_2 = some (r1, r2)) ∧ Aside0 (kq ≤ kj5) ∧ Aside0 (Kd.R k123 123 w' w.heap.size (fun _ => True) v107 x8_2) ∧ Aside0 (Below w.heap.size w w'))
      case atStart => exact ⟨(a1), (y106), (0), (by first | rfl | (simp; done) | (simp [*]; done)), (by first | rfl | (simp; done) | (simp [*]; done)), H', ⟨Nat.le_refl _⟩, ⟨by (with_reducible repeat (first | apply Kd.R_alloc | apply Kd.R_drewN | apply Kd.R_drew)); exact HO108.out⟩, ⟨by repeat (first | (with_reducible first | exact HB.out | apply below_alloc | apply pw_below_drewN | apply below_drew1) | exact HB.out)⟩⟩
      case round =>
       clear H'
       try clear c1
       try clear p2
       try clear c5
       try clear c6
       try clear c8
       try clear c8b0
       try clear c10
       try clear c11
       try clear p2
       obtain ⟨x1_2, x8_2, x9_2, rfl, rfl, HA, HK2, HO_8, HB⟩ := hrel
       cases gk with
       | zero => exact absurd HA.out (by simp [tripartiteref11_One.l0])
       | succ k2 =>
        have H := HA.out
        clear HA
        simp only [tripartiteref11_One.l0] at H
        by_cases c15 : x9_2 < (l0.length : Int)
        ·rw [if_pos c15] at H
         have c15b0 : decide (x9_2 < (l0.length : Int)) = true := decide_eq_true c15
         clear c15
         by_cases c16 : 0 ≤ x9_2
         ·rw [if_pos c16] at H
          have c16b0 : decide (0 ≤ x9_2) = true := decide_eq_true c16
          clear c16
          obtain ⟨bq17, hbq17⟩ : ∃ b_ : Bool, b_ = ((rd_T123 l0 x9_2).f3) := ⟨_, rfl⟩
          replace H : (if (bq17 = true) then (if x1_2 = 0 then ((tripartiteref11_pick.f k2 ((rd_T123 l0 x9_2).f0) ((rd_T123 l0 x9_2).f1) ((rd_T123 l0 x9_2).f2) (bq17) ((rd_T123 l0 x9_2).f4) ((rd_T123 l0 x9_2).f5) ((rd_T123 l0 x9_2).f6) ((rd_T123 l0 x9_2).f7) ((rd_T123 l0 x9_2).f8) a2).bind fun bt114 => (if bt114.2 = 0 then (if bt114.1.toList = ([] : List UInt8) then (if x9_2 < (x8_2.length : Int) then (tripartiteref11_One.l0 k2 l0 (wrap64 (x1_2 - 1)) a2 (x8_2.set (x9_2 : Int).toNat (⟨(⟨#[]⟩ : ByteArray), (⟨#[]⟩ : ByteArray), (⟨#[]⟩ : ByteArray), false, bt114.1, (⟨#[]⟩ : ByteArray), (⟨#[]⟩ : ByteArray), (⟨#[]⟩ : ByteArray), false⟩ : S123)) (wrap64 (x9_2 + 1))) else (none)) else ((tripartiteref01_Ends.f bt114.1).bind fun t117 => (if t117 = true then (if x9_2 < (x8_2.length : Int) then (tripartiteref11_One.l0 k2 l0 (wrap64 (x1_2 - 1)) a2 (x8_2.set (x9_2 : Int).toNat (⟨(⟨#[]⟩ : ByteArray), (⟨#[]⟩ : ByteArray), (⟨#[]⟩ : ByteArray), false, bt114.1, (⟨#[]⟩ : ByteArray), (⟨#[]⟩ : ByteArray), (⟨#[]⟩ : ByteArray), false⟩ : S123)) (wrap64 (x9_2 + 1))) else (none)) else (if (wrap64 (x9_2 + 1)) < (l0.length : Int) then (some (([] : List (S123)), 11)) else (if x9_2 < (x8_2.length : Int) then (tripartiteref11_One.l0 k2 l0 (wrap64 (x1_2 - 1)) a2 (x8_2.set (x9_2 : Int).toNat (⟨(⟨#[]⟩ : ByteArray), (⟨#[]⟩ : ByteArray), (⟨#[]⟩ : ByteArray), false, bt114.1, (⟨#[]⟩ : ByteArray), (⟨#[]⟩ : ByteArray), (⟨#[]⟩ : ByteArray), false⟩ : S123)) (wrap64 (x9_2 + 1))) else (none)))))) else (some (([] : List (S123)), bt114.2)))) else (tripartiteref11_One.l0 k2 l0 (wrap64 (x1_2 - 1)) a2 x8_2 (wrap64 (x9_2 + 1)))) else (tripartiteref11_One.l0 k2 l0 x1_2 a2 x8_2 (wrap64 (x9_2 + 1)))) = some (r1, r2) := by rw [← hbq17] at H; exact H
          have Nbq17 := Aside0.mk hbq17
          clear hbq17
          by_cases c18 : (bq17 = true)
          ·subst c18
           have H1 : (if x1_2 = 0 then ((tripartiteref11_pick.f k2 ((rd_T123 l0 x9_2).f0) ((rd_T123 l0 x9_2).f1) ((rd_T123 l0 x9_2).f2) (true) ((rd_T123 l0 x9_2).f4) ((rd_T123 l0 x9_2).f5) ((rd_T123 l0 x9_2).f6) ((rd_T123 l0 x9_2).f7) ((rd_T123 l0 x9_2).f8) a2).bind fun bt114 => (if bt114.2 = 0 then (if bt114.1.toList = ([] : List UInt8) then (if x9_2 < (x8_2.length : Int) then (tripartiteref11_One.l0 k2 l0 (wrap64 (x1_2 - 1)) a2 (x8_2.set (x9_2 : Int).toNat (⟨(⟨#[]⟩ : ByteArray), (⟨#[]⟩ : ByteArray), (⟨#[]⟩ : ByteArray), false, bt114.1, (⟨#[]⟩ : ByteArray), (⟨#[]⟩ : ByteArray), (⟨#[]⟩ : ByteArray), false⟩ : S123)) (wrap64 (x9_2 + 1))) else (none)) else ((tripartiteref01_Ends.f bt114.1).bind fun t117 => (if t117 = true then (if x9_2 < (x8_2.length : Int) then (tripartiteref11_One.l0 k2 l0 (wrap64 (x1_2 - 1)) a2 (x8_2.set (x9_2 : Int).toNat (⟨(⟨#[]⟩ : ByteArray), (⟨#[]⟩ : ByteArray), (⟨#[]⟩ : ByteArray), false, bt114.1, (⟨#[]⟩ : ByteArray), (⟨#[]⟩ : ByteArray), (⟨#[]⟩ : ByteArray), false⟩ : S123)) (wrap64 (x9_2 + 1))) else (none)) else (if (wrap64 (x9_2 + 1)) < (l0.length : Int) then (some (([] : List (S123)), 11)) else (if x9_2 < (x8_2.length : Int) then (tripartiteref11_One.l0 k2 l0 (wrap64 (x1_2 - 1)) a2 (x8_2.set (x9_2 : Int).toNat (⟨(⟨#[]⟩ : ByteArray), (⟨#[]⟩ : ByteArray), (⟨#[]⟩ : ByteArray), false, bt114.1, (⟨#[]⟩ : ByteArray), (⟨#[]⟩ : ByteArray), (⟨#[]⟩ : ByteArray), false⟩ : S123)) (wrap64 (x9_2 + 1))) else (none)))))) else (some (([] : List (S123)), bt114.2)))) else (tripartiteref11_One.l0 k2 l0 (wrap64 (x1_2 - 1)) a2 x8_2 (wrap64 (x9_2 + 1)))) = some (r1, r2) := by rw [if_pos rfl] at H; exact H
           clear H
           have H := H1
           clear H1
           by_cases c19 : x1_2 = 0
           ·rw [if_pos c19] at H
            have c19b0 : (x1_2 == 0) = true := beq_iff_eq.mpr c19
            have c19b1 : (x1_2 != 0) = false := bne_eq_false_iff_eq.mpr c19
            clear c19
            replace H := Option.bind_eq_some_iff.mp H
            obtain ⟨⟨t114, t115⟩, A200, H⟩ := H
            replace H : (if t115 = 0 then (if t114.toList = ([] : List UInt8) then (if x9_2 < (x8_2.length : Int) then (tripartiteref11_One.l0 k2 l0 (wrap64 (x1_2 - 1)) a2 (x8_2.set (x9_2 : Int).toNat (⟨(⟨#[]⟩ : ByteArray), (⟨#[]⟩ : ByteArray), (⟨#[]⟩ : ByteArray), false, t114, (⟨#[]⟩ : ByteArray), (⟨#[]⟩ : ByteArray), (⟨#[]⟩ : ByteArray), false⟩ : S123)) (wrap64 (x9_2 + 1))) else (none)) else ((tripartiteref01_Ends.f t114).bind fun t117 => (if t117 = true then (if x9_2 < (x8_2.length : Int) then (tripartiteref11_One.l0 k2 l0 (wrap64 (x1_2 - 1)) a2 (x8_2.set (x9_2 : Int).toNat (⟨(⟨#[]⟩ : ByteArray), (⟨#[]⟩ : ByteArray), (⟨#[]⟩ : ByteArray), false, t114, (⟨#[]⟩ : ByteArray), (⟨#[]⟩ : ByteArray), (⟨#[]⟩ : ByteArray), false⟩ : S123)) (wrap64 (x9_2 + 1))) else (none)) else (if (wrap64 (x9_2 + 1)) < (l0.length : Int) then (some (([] : List (S123)), 11)) else (if x9_2 < (x8_2.length : Int) then (tripartiteref11_One.l0 k2 l0 (wrap64 (x1_2 - 1)) a2 (x8_2.set (x9_2 : Int).toNat (⟨(⟨#[]⟩ : ByteArray), (⟨#[]⟩ : ByteArray), (⟨#[]⟩ : ByteArray), false, t114, (⟨#[]⟩ : ByteArray), (⟨#[]⟩ : ByteArray), (⟨#[]⟩ : ByteArray), false⟩ : S123)) (wrap64 (x9_2 + 1))) else (none)))))) else (some (([] : List (S123)), t115))) = some (r1, r2) := H
            have A20 := Aside0.mk A200
            clear A200
            by_cases c21 : t115 = 0
            ·rw [if_pos c21] at H
             have c21b0 : (t115 == 0) = true := beq_iff_eq.mpr c21
             have c21b1 : (t115 != 0) = false := bne_eq_false_iff_eq.mpr c21
             clear c21
             by_cases c22 : t114.toList = ([] : List UInt8)
             ·rw [if_pos c22] at H
              have c22b0 : (t114.toList == ([] : List UInt8)) = true := beq_iff_eq.mpr c22
              have c22b1 : (t114.toList != ([] : List UInt8)) = false := bne_eq_false_iff_eq.mpr c22
              clear c22
              by_cases c23 : x9_2 < (x8_2.length : Int)
              ·rw [if_pos c23] at H
               have c23b0 : decide (x9_2 < (x8_2.length : Int)) = true := decide_eq_true c23
               clear c23
               obtain ⟨y116, hy116⟩ : ∃ y_ : List (S123), y_ = (x8_2.set (x9_2 : Int).toNat (⟨(⟨#[]⟩ : ByteArray), (⟨#[]⟩ : ByteArray), (⟨#[]⟩ : ByteArray), false, t114, (⟨#[]⟩ : ByteArray), (⟨#[]⟩ : ByteArray), (⟨#[]⟩ : ByteArray), false⟩ : S123)) := ⟨_, rfl⟩
               replace H : (tripartiteref11_One.l0 k2 l0 (wrap64 (x1_2 - 1)) a2 y116 (wrap64 (x9_2 + 1))) = some (r1, r2) := by first | (rw [hy116]; with_reducible exact H) | (have H2_ := (Option.bind_some _ _).symm.trans H; rw [hy116]; with_reducible exact H2_) | (have H2_ := (Option.bind_some _ _).symm.trans H; with_reducible exact H2_) | with_reducible exact H | (rw [hy116]; exact H) | exact H
               have Ny116 := Aside0.mk hy116
               clear hy116
               have H' := Aside0.mk H
               clear H
               have p112 : 0 ≤ (x9_2 : Int) := of_decide_eq_true (by first | (with_reducible assumption) | assumption)
               have q112 : x9_2 < (l0.length : Int) := of_decide_eq_true (by first | (with_reducible assumption) | assumption)
               obtain ⟨ad112, e112, hx112_0, hx112_1, hx112_2, hx112_3, hx112_4, hx112_5, hx112_6, hx112_7, hx112_8⟩ := at_T123 HR0.out x9_2 p112 q112
               (try rw [← Nbq17.out] at hx112_3)
               (try rw [← Nbq17.out] at hx112_8)
               cases e112
               replace hx112_0 := (HB.out.cell (World.block_lt_of_cell? w _ hx112_0)).trans hx112_0
               replace hx112_1 := (HB.out.cell (World.block_lt_of_cell? w _ hx112_1)).trans hx112_1
               replace hx112_2 := (HB.out.cell (World.block_lt_of_cell? w _ hx112_2)).trans hx112_2
               replace hx112_3 := (HB.out.cell (World.block_lt_of_cell? w _ hx112_3)).trans hx112_3
               replace hx112_4 := (HB.out.cell (World.block_lt_of_cell? w _ hx112_4)).trans hx112_4
               replace hx112_5 := (HB.out.cell (World.block_lt_of_cell? w _ hx112_5)).trans hx112_5
               replace hx112_6 := (HB.out.cell (World.block_lt_of_cell? w _ hx112_6)).trans hx112_6
               replace hx112_7 := (HB.out.cell (World.block_lt_of_cell? w _ hx112_7)).trans hx112_7
               replace hx112_8 := (HB.out.cell (World.block_lt_of_cell? w _ hx112_8)).trans hx112_8
               replace p112 := eq_true p112
               replace q112 := eq_true q112
               have p113 : 0 ≤ (x9_2 : Int) := of_decide_eq_true (by first | (with_reducible assumption) | assumption)
               have q113 : x9_2 < (l0.length : Int) := of_decide_eq_true (by first | (with_reducible assumption) | assumption)
               obtain ⟨ad113, e113, hx113_0, hx113_1, hx113_2, hx113_3, hx113_4, hx113_5, hx113_6, hx113_7, hx113_8⟩ := at_T123 HR0.out x9_2 p113 q113
               (try rw [← Nbq17.out] at hx113_3)
               (try rw [← Nbq17.out] at hx113_8)
               obtain rfl : ad112 = ad113 := (by injection e113)
               replace hx113_0 := (HB.out.cell (World.block_lt_of_cell? w _ hx113_0)).trans hx113_0
               replace hx113_1 := (HB.out.cell (World.block_lt_of_cell? w _ hx113_1)).trans hx113_1
               replace hx113_2 := (HB.out.cell (World.block_lt_of_cell? w _ hx113_2)).trans hx113_2
               replace hx113_3 := (HB.out.cell (World.block_lt_of_cell? w _ hx113_3)).trans hx113_3
               replace hx113_4 := (HB.out.cell (World.block_lt_of_cell? w _ hx113_4)).trans hx113_4
               replace hx113_5 := (HB.out.cell (World.block_lt_of_cell? w _ hx113_5)).trans hx113_5
               replace hx113_6 := (HB.out.cell (World.block_lt_of_cell? w _ hx113_6)).trans hx113_6
               replace hx113_7 := (HB.out.cell (World.block_lt_of_cell? w _ hx113_7)).trans hx113_7
               replace hx113_8 := (HB.out.cell (World.block_lt_of_cell? w _ hx113_8)).trans hx113_8
               replace p113 := eq_true p113
               replace q113 := eq_true q113
               go_wp2_with (first | ((with_reducible refine gate_callee (f := 106) rfl ?_); refine goesL_ (some 46) rfl rfl Try.func106 (by kernel_rfl) rfl #[.agg #[.string ((rd_T123 l0 x9_2).f0), .string ((rd_T123 l0 x9_2).f1), .string ((rd_T123 l0 x9_2).f2), .bool true, .string ((rd_T123 l0 x9_2).f4), .string ((rd_T123 l0 x9_2).f5), .string ((rd_T123 l0 x9_2).f6), .string ((rd_T123 l0 x9_2).f7), .bool ((rd_T123 l0 x9_2).f8)], .int .i64 a2] rfl (by (try simp only [List.map_toArray, List.map_cons, List.map_nil]); first | done | rfl | (simp only [List.length_drop, List.length_take]; rfl)) ?_; (with_reducible refine (tripartiteref11_pick.calls k2 ((rd_T123 l0 x9_2).f0) ((rd_T123 l0 x9_2).f1) ((rd_T123 l0 x9_2).f2) true ((rd_T123 l0 x9_2).f4) ((rd_T123 l0 x9_2).f5) ((rd_T123 l0 x9_2).f6) ((rd_T123 l0 x9_2).f7) ((rd_T123 l0 x9_2).f8) a2 t114 t115 _ A20.out).mono ?_); rintro e w25 ⟨rfl, hb⟩; refine ⟨_, rfl, ?_⟩; have n0_ := Aside0.mk (Kd.R_below (by (with_reducible repeat (first | apply Kd.R_alloc | apply Kd.R_drewN | apply Kd.R_drew)); exact HO_8.out) hb); have n1_ := Aside0.mk (below_step (by repeat (first | (with_reducible first | exact HB.out | apply below_alloc | apply pw_below_drewN | apply below_drew1) | exact HB.out)) hb); clear HO_8; clear HB; have HO_8 := n0_; have HB := n1_; clear n0_ n1_; (try clear hb); (try clear hb2); (try clear hk); (try clear hi); have p24 : 0 ≤ (x9_2 : Int) := of_decide_eq_true (by first | (with_reducible assumption) | assumption); have q24 : (x9_2 : Int) < ((x8_2.length : Int) : Int) := of_decide_eq_true (by first | (with_reducible assumption) | assumption); obtain ⟨go24, co24, eo24, gb24, gl24, cl24, HG24⟩ := Kd.R_form HO_8.out (by omega); (first | cases eo24 | (injection eo24 with ea_ en_ ec_; (first | subst ea_ | (injection ea_ with ea_; subst ea_)); subst ec_; clear en_)); have GB24 := Aside0.mk gb24; have GG24 := Aside0.mk HG24; clear gb24 gl24 HG24; obtain ⟨ce24, hcl24, hM24, hcc24, hfr24⟩ := Kd.R_elem HO_8.out z123 (x9_2 : Int) p24 q24; obtain rfl := k123_openM hM24; have hx24_0 : w25.cell? ⟨go24, (x9_2 : Int).toNat * 9, none⟩ = some (.string ((rd_T123 x8_2 x9_2).f0)) := hcc24 0 _ rfl; have hx24_1 : w25.cell? ⟨go24, (x9_2 : Int).toNat * 9 + 1, none⟩ = some (.string ((rd_T123 x8_2 x9_2).f1)) := hcc24 1 _ rfl; have hx24_2 : w25.cell? ⟨go24, (x9_2 : Int).toNat * 9 + 2, none⟩ = some (.string ((rd_T123 x8_2 x9_2).f2)) := hcc24 2 _ rfl; have hx24_3 : w25.cell? ⟨go24, (x9_2 : Int).toNat * 9 + 3, none⟩ = some (.bool ((rd_T123 x8_2 x9_2).f3)) := hcc24 3 _ rfl; have hx24_4 : w25.cell? ⟨go24, (x9_2 : Int).toNat * 9 + 4, none⟩ = some (.string ((rd_T123 x8_2 x9_2).f4)) := hcc24 4 _ rfl; have hx24_5 : w25.cell? ⟨go24, (x9_2 : Int).toNat * 9 + 5, none⟩ = some (.string ((rd_T123 x8_2 x9_2).f5)) := hcc24 5 _ rfl; have hx24_6 : w25.cell? ⟨go24, (x9_2 : Int).toNat * 9 + 6, none⟩ = some (.string ((rd_T123 x8_2 x9_2).f6)) := hcc24 6 _ rfl; have hx24_7 : w25.cell? ⟨go24, (x9_2 : Int).toNat * 9 + 7, none⟩ = some (.string ((rd_T123 x8_2 x9_2).f7)) := hcc24 7 _ rfl; have hx24_8 : w25.cell? ⟨go24, (x9_2 : Int).toNat * 9 + 8, none⟩ = some (.bool ((rd_T123 x8_2 x9_2).f8)) := hcc24 8 _ rfl; have hf24_0 : w25.frozen? ⟨go24, (x9_2 : Int).toNat * 9, none⟩ = false := hfr24 0; have hf24_1 : w25.frozen? ⟨go24, (x9_2 : Int).toNat * 9 + 1, none⟩ = false := hfr24 1; have hf24_2 : w25.frozen? ⟨go24, (x9_2 : Int).toNat * 9 + 2, none⟩ = false := hfr24 2; have hf24_3 : w25.frozen? ⟨go24, (x9_2 : Int).toNat * 9 + 3, none⟩ = false := hfr24 3; have hf24_4 : w25.frozen? ⟨go24, (x9_2 : Int).toNat * 9 + 4, none⟩ = false := hfr24 4; have hf24_5 : w25.frozen? ⟨go24, (x9_2 : Int).toNat * 9 + 5, none⟩ = false := hfr24 5; have hf24_6 : w25.frozen? ⟨go24, (x9_2 : Int).toNat * 9 + 6, none⟩ = false := hfr24 6; have hf24_7 : w25.frozen? ⟨go24, (x9_2 : Int).toNat * 9 + 7, none⟩ = false := hfr24 7; have hf24_8 : w25.frozen? ⟨go24, (x9_2 : Int).toNat * 9 + 8, none⟩ = false := hfr24 8; clear hcl24 hcc24 hfr24 hM24; replace p24 := eq_true p24; replace q24 := eq_true q24; have HX26 := Aside0.mk (show Kd.R k123 123 w25 w.heap.size (fun _ => True) (.slice (some ⟨go24, 0, none⟩) x8_2.length co24) x8_2 from (by (with_reducible repeat (first | apply Kd.R_alloc | apply Kd.R_drewN | apply Kd.R_drew)); exact HO_8.out)); obtain ⟨ce26, hcl26, hM26, hcc26, hfr26⟩ := Kd.R_elem HX26.out z123 (x9_2 : Int) (of_decide_eq_true (by first | (with_reducible assumption) | assumption)) (by have h_ : (x9_2 : Int) < ((x8_2.length : Int) : Int) := of_decide_eq_true (by first | (with_reducible assumption) | assumption); first | exact h_ | (have e_ := (Kd.R_reads' HO_8.out).1; omega) | simpa using h_); obtain rfl := k123_openM hM26; have HP26 := Kd.R_seg HX26.out (x9_2 : Int) (of_decide_eq_true (by first | (with_reducible assumption) | assumption)) (by have h_ : (x9_2 : Int) < ((x8_2.length : Int) : Int) := of_decide_eq_true (by first | (with_reducible assumption) | assumption); first | exact h_ | (have e_ := (Kd.R_reads' HO_8.out).1; omega) | simpa using h_) (seg := [.string (⟨#[]⟩ : ByteArray), .string (⟨#[]⟩ : ByteArray), .string (⟨#[]⟩ : ByteArray), .bool false, .string t114, .string (⟨#[]⟩ : ByteArray), .string (⟨#[]⟩ : ByteArray), .string (⟨#[]⟩ : ByteArray), .bool false]) (j := 0) hcl26 hcc26 (show 9 ≤ 9 from by decide) (x' := (⟨(⟨#[]⟩ : ByteArray), (⟨#[]⟩ : ByteArray), (⟨#[]⟩ : ByteArray), false, t114, (⟨#[]⟩ : ByteArray), (⟨#[]⟩ : ByteArray), (⟨#[]⟩ : ByteArray), false⟩ : S123)) (k123_mkM _ _ _ (⟨(⟨#[]⟩ : ByteArray), (⟨#[]⟩ : ByteArray), (⟨#[]⟩ : ByteArray), false, t114, (⟨#[]⟩ : ByteArray), (⟨#[]⟩ : ByteArray), (⟨#[]⟩ : ByteArray), false⟩ : S123) ) (fun _ hk => hk); have hx26_0 := hcc26 0 _ rfl; (try simp only [show (k123).sz = 9 from rfl, Nat.mul_one, Nat.add_zero] at hx26_0); have hf26_0 := hfr26 0; (try simp only [show (k123).sz = 9 from rfl, Nat.mul_one, Nat.add_zero] at hf26_0); have hx26_1 := hcc26 1 _ rfl; (try simp only [show (k123).sz = 9 from rfl, Nat.mul_one, Nat.add_zero] at hx26_1); have hf26_1 := hfr26 1; (try simp only [show (k123).sz = 9 from rfl, Nat.mul_one, Nat.add_zero] at hf26_1); have hx26_2 := hcc26 2 _ rfl; (try simp only [show (k123).sz = 9 from rfl, Nat.mul_one, Nat.add_zero] at hx26_2); have hf26_2 := hfr26 2; (try simp only [show (k123).sz = 9 from rfl, Nat.mul_one, Nat.add_zero] at hf26_2); have hx26_3 := hcc26 3 _ rfl; (try simp only [show (k123).sz = 9 from rfl, Nat.mul_one, Nat.add_zero] at hx26_3); have hf26_3 := hfr26 3; (try simp only [show (k123).sz = 9 from rfl, Nat.mul_one, Nat.add_zero] at hf26_3); have hx26_4 := hcc26 4 _ rfl; (try simp only [show (k123).sz = 9 from rfl, Nat.mul_one, Nat.add_zero] at hx26_4); have hf26_4 := hfr26 4; (try simp only [show (k123).sz = 9 from rfl, Nat.mul_one, Nat.add_zero] at hf26_4); have hx26_5 := hcc26 5 _ rfl; (try simp only [show (k123).sz = 9 from rfl, Nat.mul_one, Nat.add_zero] at hx26_5); have hf26_5 := hfr26 5; (try simp only [show (k123).sz = 9 from rfl, Nat.mul_one, Nat.add_zero] at hf26_5); have hx26_6 := hcc26 6 _ rfl; (try simp only [show (k123).sz = 9 from rfl, Nat.mul_one, Nat.add_zero] at hx26_6); have hf26_6 := hfr26 6; (try simp only [show (k123).sz = 9 from rfl, Nat.mul_one, Nat.add_zero] at hf26_6); have hx26_7 := hcc26 7 _ rfl; (try simp only [show (k123).sz = 9 from rfl, Nat.mul_one, Nat.add_zero] at hx26_7); have hf26_7 := hfr26 7; (try simp only [show (k123).sz = 9 from rfl, Nat.mul_one, Nat.add_zero] at hf26_7); have hx26_8 := hcc26 8 _ rfl; (try simp only [show (k123).sz = 9 from rfl, Nat.mul_one, Nat.add_zero] at hx26_8); have hf26_8 := hfr26 8; (try simp only [show (k123).sz = 9 from rfl, Nat.mul_one, Nat.add_zero] at hf26_8); clear hcl26 hcc26 hfr26 hM26) | ((with_reducible refine gate_store (t := 123) (p := 70) rfl ?_); refine store_event (t := 123) (p := 70) (v := ?vo_w27) (w1 := (((((((((w25.setCell ⟨go24, (x9_2 : Int).toNat * 9, none⟩ (.string (⟨#[]⟩ : ByteArray))).setCell ⟨go24, (x9_2 : Int).toNat * 9 + 1, none⟩ (.string (⟨#[]⟩ : ByteArray))).setCell ⟨go24, (x9_2 : Int).toNat * 9 + 2, none⟩ (.string (⟨#[]⟩ : ByteArray))).setCell ⟨go24, (x9_2 : Int).toNat * 9 + 3, none⟩ (.bool false)).setCell ⟨go24, (x9_2 : Int).toNat * 9 + 4, none⟩ (.string t114)).setCell ⟨go24, (x9_2 : Int).toNat * 9 + 5, none⟩ (.string (⟨#[]⟩ : ByteArray))).setCell ⟨go24, (x9_2 : Int).toNat * 9 + 6, none⟩ (.string (⟨#[]⟩ : ByteArray))).setCell ⟨go24, (x9_2 : Int).toNat * 9 + 7, none⟩ (.string (⟨#[]⟩ : ByteArray))).setCell ⟨go24, (x9_2 : Int).toNat * 9 + 8, none⟩ (.bool false))) ?hg ?ho ?hn ?hr ?_; (case ho => rfl); (case hg => rfl); (case hn => rfl); (case hr => first | (go_simp; done) | (go_simp; rfl)); intro w27 hw; have hg : w25.grownBy w27 (some go24) := (by rw [hw]; exact HP26.2); have hp_ : Kd.R k123 123 w27 w.heap.size (fun _ => True) (.slice (some ⟨go24, 0, none⟩) x8_2.length co24) y116 := (by rw [hw, Ny116.out]; exact HP26.1); clear HP26; have n0_ := Aside0.mk (hp_); have n1_ := Aside0.mk ((by rw [hw]; exact below_set (below_set (below_set (below_set (below_set (below_set (below_set (below_set (below_set (HB.out) GB24.out) GB24.out) GB24.out) GB24.out) GB24.out) GB24.out) GB24.out) GB24.out) GB24.out : Below w.heap.size w w27)); clear HO_8; clear HB; have HO_8 := n0_; have HB := n1_; clear n0_ n1_; clear hg hw hp_))
               go_roundg k2
               case measure => have := HJ5.out; have := HK2.out; omega
               case rel => exact ⟨(wrap64 (x1_2 - 1)), (y116), (wrap64 (x9_2 + 1)), (by first | rfl | (simp; done) | (simp [*]; done)), (by first | rfl | (simp; done) | (simp [*]; done)), H', ⟨by have := HJ5.out; have := HK2.out; omega⟩, ⟨by (with_reducible repeat (first | apply Kd.R_alloc | apply Kd.R_drewN | apply Kd.R_drew)); exact HO_8.out⟩, ⟨by repeat (first | (with_reducible first | exact HB.out | apply below_alloc | apply pw_below_drewN | apply below_drew1) | exact HB.out)⟩⟩
              ·rw [if_neg c23] at H
               exact absurd H (by simp)
             ·rw [if_neg c22] at H
              have c22b0 : (t114.toList == ([] : List UInt8)) = false := beq_eq_false_iff_ne.mpr c22
              have c22b1 : (t114.toList != ([] : List UInt8)) = true := bne_iff_ne.mpr c22
              replace H := Option.bind_eq_some_iff.mp H
              obtain ⟨t117, A280, H⟩ := H
              replace H : (if t117 = true then (if x9_2 < (x8_2.length : Int) then (tripartiteref11_One.l0 k2 l0 (wrap64 (x1_2 - 1)) a2 (x8_2.set (x9_2 : Int).toNat (⟨(⟨#[]⟩ : ByteArray), (⟨#[]⟩ : ByteArray), (⟨#[]⟩ : ByteArray), false, t114, (⟨#[]⟩ : ByteArray), (⟨#[]⟩ : ByteArray), (⟨#[]⟩ : ByteArray), false⟩ : S123)) (wrap64 (x9_2 + 1))) else (none)) else (if (wrap64 (x9_2 + 1)) < (l0.length : Int) then (some (([] : List (S123)), 11)) else (if x9_2 < (x8_2.length : Int) then (tripartiteref11_One.l0 k2 l0 (wrap64 (x1_2 - 1)) a2 (x8_2.set (x9_2 : Int).toNat (⟨(⟨#[]⟩ : ByteArray), (⟨#[]⟩ : ByteArray), (⟨#[]⟩ : ByteArray), false, t114, (⟨#[]⟩ : ByteArray), (⟨#[]⟩ : ByteArray), (⟨#[]⟩ : ByteArray), false⟩ : S123)) (wrap64 (x9_2 + 1))) else (none)))) = some (r1, r2) := H
              have A28 := Aside0.mk A280
              clear A280
              by_cases c29 : t117 = true
              ·subst c29
               have H1 : (if x9_2 < (x8_2.length : Int) then (tripartiteref11_One.l0 k2 l0 (wrap64 (x1_2 - 1)) a2 (x8_2.set (x9_2 : Int).toNat (⟨(⟨#[]⟩ : ByteArray), (⟨#[]⟩ : ByteArray), (⟨#[]⟩ : ByteArray), false, t114, (⟨#[]⟩ : ByteArray), (⟨#[]⟩ : ByteArray), (⟨#[]⟩ : ByteArray), false⟩ : S123)) (wrap64 (x9_2 + 1))) else (none)) = some (r1, r2) := by rw [if_pos rfl] at H; exact H
               clear H
               have H := H1
               clear H1
               by_cases c30 : x9_2 < (x8_2.length : Int)
               ·rw [if_pos c30] at H
                have c30b0 : decide (x9_2 < (x8_2.length : Int)) = true := decide_eq_true c30
                clear c30
                obtain ⟨y118, hy118⟩ : ∃ y_ : List (S123), y_ = (x8_2.set (x9_2 : Int).toNat (⟨(⟨#[]⟩ : ByteArray), (⟨#[]⟩ : ByteArray), (⟨#[]⟩ : ByteArray), false, t114, (⟨#[]⟩ : ByteArray), (⟨#[]⟩ : ByteArray), (⟨#[]⟩ : ByteArray), false⟩ : S123)) := ⟨_, rfl⟩
                replace H : (tripartiteref11_One.l0 k2 l0 (wrap64 (x1_2 - 1)) a2 y118 (wrap64 (x9_2 + 1))) = some (r1, r2) := by first | (rw [hy118]; with_reducible exact H) | (have H2_ := (Option.bind_some _ _).symm.trans H; rw [hy118]; with_reducible exact H2_) | (have H2_ := (Option.bind_some _ _).symm.trans H; with_reducible exact H2_) | with_reducible exact H | (rw [hy118]; exact H) | exact H
                have Ny118 := Aside0.mk hy118
                clear hy118
                have H' := Aside0.mk H
                clear H
                have p112 : 0 ≤ (x9_2 : Int) := of_decide_eq_true (by first | (with_reducible assumption) | assumption)
                have q112 : x9_2 < (l0.length : Int) := of_decide_eq_true (by first | (with_reducible assumption) | assumption)
                obtain ⟨ad112, e112, hx112_0, hx112_1, hx112_2, hx112_3, hx112_4, hx112_5, hx112_6, hx112_7, hx112_8⟩ := at_T123 HR0.out x9_2 p112 q112
                (try rw [← Nbq17.out] at hx112_3)
                (try rw [← Nbq17.out] at hx112_8)
                cases e112
                replace hx112_0 := (HB.out.cell (World.block_lt_of_cell? w _ hx112_0)).trans hx112_0
                replace hx112_1 := (HB.out.cell (World.block_lt_of_cell? w _ hx112_1)).trans hx112_1
                replace hx112_2 := (HB.out.cell (World.block_lt_of_cell? w _ hx112_2)).trans hx112_2
                replace hx112_3 := (HB.out.cell (World.block_lt_of_cell? w _ hx112_3)).trans hx112_3
                replace hx112_4 := (HB.out.cell (World.block_lt_of_cell? w _ hx112_4)).trans hx112_4
                replace hx112_5 := (HB.out.cell (World.block_lt_of_cell? w _ hx112_5)).trans hx112_5
                replace hx112_6 := (HB.out.cell (World.block_lt_of_cell? w _ hx112_6)).trans hx112_6
                replace hx112_7 := (HB.out.cell (World.block_lt_of_cell? w _ hx112_7)).trans hx112_7
                replace hx112_8 := (HB.out.cell (World.block_lt_of_cell? w _ hx112_8)).trans hx112_8
                replace p112 := eq_true p112
                replace q112 := eq_true q112
                have p113 : 0 ≤ (x9_2 : Int) := of_decide_eq_true (by first | (with_reducible assumption) | assumption)
                have q113 : x9_2 < (l0.length : Int) := of_decide_eq_true (by first | (with_reducible assumption) | assumption)
                obtain ⟨ad113, e113, hx113_0, hx113_1, hx113_2, hx113_3, hx113_4, hx113_5, hx113_6, hx113_7, hx113_8⟩ := at_T123 HR0.out x9_2 p113 q113
                (try rw [← Nbq17.out] at hx113_3)
                (try rw [← Nbq17.out] at hx113_8)
                obtain rfl : ad112 = ad113 := (by injection e113)
                replace hx113_0 := (HB.out.cell (World.block_lt_of_cell? w _ hx113_0)).trans hx113_0
                replace hx113_1 := (HB.out.cell (World.block_lt_of_cell? w _ hx113_1)).trans hx113_1
                replace hx113_2 := (HB.out.cell (World.block_lt_of_cell? w _ hx113_2)).trans hx113_2
                replace hx113_3 := (HB.out.cell (World.block_lt_of_cell? w _ hx113_3)).trans hx113_3
                replace hx113_4 := (HB.out.cell (World.block_lt_of_cell? w _ hx113_4)).trans hx113_4
                replace hx113_5 := (HB.out.cell (World.block_lt_of_cell? w _ hx113_5)).trans hx113_5
                replace hx113_6 := (HB.out.cell (World.block_lt_of_cell? w _ hx113_6)).trans hx113_6
                replace hx113_7 := (HB.out.cell (World.block_lt_of_cell? w _ hx113_7)).trans hx113_7
                replace hx113_8 := (HB.out.cell (World.block_lt_of_cell? w _ hx113_8)).trans hx113_8
                replace p113 := eq_true p113
                replace q113 := eq_true q113
                go_wp2_with (first | ((with_reducible refine gate_callee (f := 106) rfl ?_); refine goesL_ (some 46) rfl rfl Try.func106 (by kernel_rfl) rfl #[.agg #[.string ((rd_T123 l0 x9_2).f0), .string ((rd_T123 l0 x9_2).f1), .string ((rd_T123 l0 x9_2).f2), .bool true, .string ((rd_T123 l0 x9_2).f4), .string ((rd_T123 l0 x9_2).f5), .string ((rd_T123 l0 x9_2).f6), .string ((rd_T123 l0 x9_2).f7), .bool ((rd_T123 l0 x9_2).f8)], .int .i64 a2] rfl (by (try simp only [List.map_toArray, List.map_cons, List.map_nil]); first | done | rfl | (simp only [List.length_drop, List.length_take]; rfl)) ?_; (with_reducible refine (tripartiteref11_pick.calls k2 ((rd_T123 l0 x9_2).f0) ((rd_T123 l0 x9_2).f1) ((rd_T123 l0 x9_2).f2) true ((rd_T123 l0 x9_2).f4) ((rd_T123 l0 x9_2).f5) ((rd_T123 l0 x9_2).f6) ((rd_T123 l0 x9_2).f7) ((rd_T123 l0 x9_2).f8) a2 t114 t115 _ A20.out).mono ?_); rintro e w32 ⟨rfl, hb⟩; refine ⟨_, rfl, ?_⟩; have n0_ := Aside0.mk (Kd.R_below (by (with_reducible repeat (first | apply Kd.R_alloc | apply Kd.R_drewN | apply Kd.R_drew)); exact HO_8.out) hb); have n1_ := Aside0.mk (below_step (by repeat (first | (with_reducible first | exact HB.out | apply below_alloc | apply pw_below_drewN | apply below_drew1) | exact HB.out)) hb); clear HO_8; clear HB; have HO_8 := n0_; have HB := n1_; clear n0_ n1_; (try clear hb); (try clear hb2); (try clear hk); (try clear hi)) | (go_at_call 112; (with_reducible refine (tripartiteref01_Ends.calls t114 true _ A28.out).mono ?_); rintro e w' ⟨rfl, ⟨nd, rfl⟩⟩; (try (rw [drewN_self w32]; generalize hq_ : World.drewN w32 _ = w32; have n0_ : Aside0 (Kd.R k123 123 w32 w.heap.size (fun _ => True) v107 x8_2) := ⟨by rw [← hq_]; exact (by (with_reducible repeat (first | apply Kd.R_alloc | apply Kd.R_drewN | apply Kd.R_drew)); exact HO_8.out)⟩; have n1_ : Aside0 (Below w.heap.size w w32) := ⟨by rw [← hq_]; exact (by repeat (first | (with_reducible first | exact HB.out | apply below_alloc | apply pw_below_drewN | apply below_drew1) | exact HB.out))⟩; clear HO_8 HB hq_; have HO_8 := n0_; have HB := n1_; clear n0_ n1_)); have p31 : 0 ≤ (x9_2 : Int) := of_decide_eq_true (by first | (with_reducible assumption) | assumption); have q31 : (x9_2 : Int) < ((x8_2.length : Int) : Int) := of_decide_eq_true (by first | (with_reducible assumption) | assumption); obtain ⟨go31, co31, eo31, gb31, gl31, cl31, HG31⟩ := Kd.R_form HO_8.out (by omega); (first | cases eo31 | (injection eo31 with ea_ en_ ec_; (first | subst ea_ | (injection ea_ with ea_; subst ea_)); subst ec_; clear en_)); have GB31 := Aside0.mk gb31; have GG31 := Aside0.mk HG31; clear gb31 gl31 HG31; obtain ⟨ce31, hcl31, hM31, hcc31, hfr31⟩ := Kd.R_elem HO_8.out z123 (x9_2 : Int) p31 q31; obtain rfl := k123_openM hM31; have hx31_0 : w32.cell? ⟨go31, (x9_2 : Int).toNat * 9, none⟩ = some (.string ((rd_T123 x8_2 x9_2).f0)) := hcc31 0 _ rfl; have hx31_1 : w32.cell? ⟨go31, (x9_2 : Int).toNat * 9 + 1, none⟩ = some (.string ((rd_T123 x8_2 x9_2).f1)) := hcc31 1 _ rfl; have hx31_2 : w32.cell? ⟨go31, (x9_2 : Int).toNat * 9 + 2, none⟩ = some (.string ((rd_T123 x8_2 x9_2).f2)) := hcc31 2 _ rfl; have hx31_3 : w32.cell? ⟨go31, (x9_2 : Int).toNat * 9 + 3, none⟩ = some (.bool ((rd_T123 x8_2 x9_2).f3)) := hcc31 3 _ rfl; have hx31_4 : w32.cell? ⟨go31, (x9_2 : Int).toNat * 9 + 4, none⟩ = some (.string ((rd_T123 x8_2 x9_2).f4)) := hcc31 4 _ rfl; have hx31_5 : w32.cell? ⟨go31, (x9_2 : Int).toNat * 9 + 5, none⟩ = some (.string ((rd_T123 x8_2 x9_2).f5)) := hcc31 5 _ rfl; have hx31_6 : w32.cell? ⟨go31, (x9_2 : Int).toNat * 9 + 6, none⟩ = some (.string ((rd_T123 x8_2 x9_2).f6)) := hcc31 6 _ rfl; have hx31_7 : w32.cell? ⟨go31, (x9_2 : Int).toNat * 9 + 7, none⟩ = some (.string ((rd_T123 x8_2 x9_2).f7)) := hcc31 7 _ rfl; have hx31_8 : w32.cell? ⟨go31, (x9_2 : Int).toNat * 9 + 8, none⟩ = some (.bool ((rd_T123 x8_2 x9_2).f8)) := hcc31 8 _ rfl; have hf31_0 : w32.frozen? ⟨go31, (x9_2 : Int).toNat * 9, none⟩ = false := hfr31 0; have hf31_1 : w32.frozen? ⟨go31, (x9_2 : Int).toNat * 9 + 1, none⟩ = false := hfr31 1; have hf31_2 : w32.frozen? ⟨go31, (x9_2 : Int).toNat * 9 + 2, none⟩ = false := hfr31 2; have hf31_3 : w32.frozen? ⟨go31, (x9_2 : Int).toNat * 9 + 3, none⟩ = false := hfr31 3; have hf31_4 : w32.frozen? ⟨go31, (x9_2 : Int).toNat * 9 + 4, none⟩ = false := hfr31 4; have hf31_5 : w32.frozen? ⟨go31, (x9_2 : Int).toNat * 9 + 5, none⟩ = false := hfr31 5; have hf31_6 : w32.frozen? ⟨go31, (x9_2 : Int).toNat * 9 + 6, none⟩ = false := hfr31 6; have hf31_7 : w32.frozen? ⟨go31, (x9_2 : Int).toNat * 9 + 7, none⟩ = false := hfr31 7; have hf31_8 : w32.frozen? ⟨go31, (x9_2 : Int).toNat * 9 + 8, none⟩ = false := hfr31 8; clear hcl31 hcc31 hfr31 hM31; replace p31 := eq_true p31; replace q31 := eq_true q31; have HX33 := Aside0.mk (show Kd.R k123 123 w32 w.heap.size (fun _ => True) (.slice (some ⟨go31, 0, none⟩) x8_2.length co31) x8_2 from (by (with_reducible repeat (first | apply Kd.R_alloc | apply Kd.R_drewN | apply Kd.R_drew)); exact HO_8.out)); obtain ⟨ce33, hcl33, hM33, hcc33, hfr33⟩ := Kd.R_elem HX33.out z123 (x9_2 : Int) (of_decide_eq_true (by first | (with_reducible assumption) | assumption)) (by have h_ : (x9_2 : Int) < ((x8_2.length : Int) : Int) := of_decide_eq_true (by first | (with_reducible assumption) | assumption); first | exact h_ | (have e_ := (Kd.R_reads' HO_8.out).1; omega) | simpa using h_); obtain rfl := k123_openM hM33; have HP33 := Kd.R_seg HX33.out (x9_2 : Int) (of_decide_eq_true (by first | (with_reducible assumption) | assumption)) (by have h_ : (x9_2 : Int) < ((x8_2.length : Int) : Int) := of_decide_eq_true (by first | (with_reducible assumption) | assumption); first | exact h_ | (have e_ := (Kd.R_reads' HO_8.out).1; omega) | simpa using h_) (seg := [.string (⟨#[]⟩ : ByteArray), .string (⟨#[]⟩ : ByteArray), .string (⟨#[]⟩ : ByteArray), .bool false, .string t114, .string (⟨#[]⟩ : ByteArray), .string (⟨#[]⟩ : ByteArray), .string (⟨#[]⟩ : ByteArray), .bool false]) (j := 0) hcl33 hcc33 (show 9 ≤ 9 from by decide) (x' := (⟨(⟨#[]⟩ : ByteArray), (⟨#[]⟩ : ByteArray), (⟨#[]⟩ : ByteArray), false, t114, (⟨#[]⟩ : ByteArray), (⟨#[]⟩ : ByteArray), (⟨#[]⟩ : ByteArray), false⟩ : S123)) (k123_mkM _ _ _ (⟨(⟨#[]⟩ : ByteArray), (⟨#[]⟩ : ByteArray), (⟨#[]⟩ : ByteArray), false, t114, (⟨#[]⟩ : ByteArray), (⟨#[]⟩ : ByteArray), (⟨#[]⟩ : ByteArray), false⟩ : S123) ) (fun _ hk => hk); have hx33_0 := hcc33 0 _ rfl; (try simp only [show (k123).sz = 9 from rfl, Nat.mul_one, Nat.add_zero] at hx33_0); have hf33_0 := hfr33 0; (try simp only [show (k123).sz = 9 from rfl, Nat.mul_one, Nat.add_zero] at hf33_0); have hx33_1 := hcc33 1 _ rfl; (try simp only [show (k123).sz = 9 from rfl, Nat.mul_one, Nat.add_zero] at hx33_1); have hf33_1 := hfr33 1; (try simp only [show (k123).sz = 9 from rfl, Nat.mul_one, Nat.add_zero] at hf33_1); have hx33_2 := hcc33 2 _ rfl; (try simp only [show (k123).sz = 9 from rfl, Nat.mul_one, Nat.add_zero] at hx33_2); have hf33_2 := hfr33 2; (try simp only [show (k123).sz = 9 from rfl, Nat.mul_one, Nat.add_zero] at hf33_2); have hx33_3 := hcc33 3 _ rfl; (try simp only [show (k123).sz = 9 from rfl, Nat.mul_one, Nat.add_zero] at hx33_3); have hf33_3 := hfr33 3; (try simp only [show (k123).sz = 9 from rfl, Nat.mul_one, Nat.add_zero] at hf33_3); have hx33_4 := hcc33 4 _ rfl; (try simp only [show (k123).sz = 9 from rfl, Nat.mul_one, Nat.add_zero] at hx33_4); have hf33_4 := hfr33 4; (try simp only [show (k123).sz = 9 from rfl, Nat.mul_one, Nat.add_zero] at hf33_4); have hx33_5 := hcc33 5 _ rfl; (try simp only [show (k123).sz = 9 from rfl, Nat.mul_one, Nat.add_zero] at hx33_5); have hf33_5 := hfr33 5; (try simp only [show (k123).sz = 9 from rfl, Nat.mul_one, Nat.add_zero] at hf33_5); have hx33_6 := hcc33 6 _ rfl; (try simp only [show (k123).sz = 9 from rfl, Nat.mul_one, Nat.add_zero] at hx33_6); have hf33_6 := hfr33 6; (try simp only [show (k123).sz = 9 from rfl, Nat.mul_one, Nat.add_zero] at hf33_6); have hx33_7 := hcc33 7 _ rfl; (try simp only [show (k123).sz = 9 from rfl, Nat.mul_one, Nat.add_zero] at hx33_7); have hf33_7 := hfr33 7; (try simp only [show (k123).sz = 9 from rfl, Nat.mul_one, Nat.add_zero] at hf33_7); have hx33_8 := hcc33 8 _ rfl; (try simp only [show (k123).sz = 9 from rfl, Nat.mul_one, Nat.add_zero] at hx33_8); have hf33_8 := hfr33 8; (try simp only [show (k123).sz = 9 from rfl, Nat.mul_one, Nat.add_zero] at hf33_8); clear hcl33 hcc33 hfr33 hM33) | ((with_reducible refine gate_store (t := 123) (p := 70) rfl ?_); refine store_event (t := 123) (p := 70) (v := ?vo_w34) (w1 := (((((((((w32.setCell ⟨go31, (x9_2 : Int).toNat * 9, none⟩ (.string (⟨#[]⟩ : ByteArray))).setCell ⟨go31, (x9_2 : Int).toNat * 9 + 1, none⟩ (.string (⟨#[]⟩ : ByteArray))).setCell ⟨go31, (x9_2 : Int).toNat * 9 + 2, none⟩ (.string (⟨#[]⟩ : ByteArray))).setCell ⟨go31, (x9_2 : Int).toNat * 9 + 3, none⟩ (.bool false)).setCell ⟨go31, (x9_2 : Int).toNat * 9 + 4, none⟩ (.string t114)).setCell ⟨go31, (x9_2 : Int).toNat * 9 + 5, none⟩ (.string (⟨#[]⟩ : ByteArray))).setCell ⟨go31, (x9_2 : Int).toNat * 9 + 6, none⟩ (.string (⟨#[]⟩ : ByteArray))).setCell ⟨go31, (x9_2 : Int).toNat * 9 + 7, none⟩ (.string (⟨#[]⟩ : ByteArray))).setCell ⟨go31, (x9_2 : Int).toNat * 9 + 8, none⟩ (.bool false))) ?hg ?ho ?hn ?hr ?_; (case ho => rfl); (case hg => rfl); (case hn => rfl); (case hr => first | (go_simp; done) | (go_simp; rfl)); intro w34 hw; have hg : w32.grownBy w34 (some go31) := (by rw [hw]; exact HP33.2); have hp_ : Kd.R k123 123 w34 w.heap.size (fun _ => True) (.slice (some ⟨go31, 0, none⟩) x8_2.length co31) y118 := (by rw [hw, Ny118.out]; exact HP33.1); clear HP33; have n0_ := Aside0.mk (hp_); have n1_ := Aside0.mk ((by rw [hw]; exact below_set (below_set (below_set (below_set (below_set (below_set (below_set (below_set (below_set (HB.out) GB31.out) GB31.out) GB31.out) GB31.out) GB31.out) GB31.out) GB31.out) GB31.out) GB31.out : Below w.heap.size w w34)); clear HO_8; clear HB; have HO_8 := n0_; have HB := n1_; clear n0_ n1_; clear hg hw hp_))
                go_roundg k2
                case measure => have := HJ5.out; have := HK2.out; omega
                case rel => exact ⟨(wrap64 (x1_2 - 1)), (y118), (wrap64 (x9_2 + 1)), (by first | rfl | (simp; done) | (simp [*]; done)), (by first | rfl | (simp; done) | (simp [*]; done)), H', ⟨by have := HJ5.out; have := HK2.out; omega⟩, ⟨by (with_reducible repeat (first | apply Kd.R_alloc | apply Kd.R_drewN | apply Kd.R_drew)); exact HO_8.out⟩, ⟨by repeat (first | (with_reducible first | exact HB.out | apply below_alloc | apply pw_below_drewN | apply below_drew1) | exact HB.out)⟩⟩
               ·rw [if_neg c30] at H
                exact absurd H (by simp)
              ·replace c29 := Bool.eq_false_iff.mpr c29
               subst c29
               have H1 : (if (wrap64 (x9_2 + 1)) < (l0.length : Int) then (some (([] : List (S123)), 11)) else (if x9_2 < (x8_2.length : Int) then (tripartiteref11_One.l0 k2 l0 (wrap64 (x1_2 - 1)) a2 (x8_2.set (x9_2 : Int).toNat (⟨(⟨#[]⟩ : ByteArray), (⟨#[]⟩ : ByteArray), (⟨#[]⟩ : ByteArray), false, t114, (⟨#[]⟩ : ByteArray), (⟨#[]⟩ : ByteArray), (⟨#[]⟩ : ByteArray), false⟩ : S123)) (wrap64 (x9_2 + 1))) else (none))) = some (r1, r2) := by rw [if_neg (show ¬ (false = true) by decide)] at H; exact H
               clear H
               have H := H1
               clear H1
               by_cases c35 : (wrap64 (x9_2 + 1)) < (l0.length : Int)
               ·rw [if_pos c35] at H
                have c35b0 : decide ((wrap64 (x9_2 + 1)) < (l0.length : Int)) = true := decide_eq_true c35
                clear c35
                simp only [Option.some.injEq, Prod.mk.injEq] at H
                obtain ⟨rfl, rfl⟩ := H
                have p112 : 0 ≤ (x9_2 : Int) := of_decide_eq_true (by first | (with_reducible assumption) | assumption)
                have q112 : x9_2 < (l0.length : Int) := of_decide_eq_true (by first | (with_reducible assumption) | assumption)
                obtain ⟨ad112, e112, hx112_0, hx112_1, hx112_2, hx112_3, hx112_4, hx112_5, hx112_6, hx112_7, hx112_8⟩ := at_T123 HR0.out x9_2 p112 q112
                (try rw [← Nbq17.out] at hx112_3)
                (try rw [← Nbq17.out] at hx112_8)
                cases e112
                replace hx112_0 := (HB.out.cell (World.block_lt_of_cell? w _ hx112_0)).trans hx112_0
                replace hx112_1 := (HB.out.cell (World.block_lt_of_cell? w _ hx112_1)).trans hx112_1
                replace hx112_2 := (HB.out.cell (World.block_lt_of_cell? w _ hx112_2)).trans hx112_2
                replace hx112_3 := (HB.out.cell (World.block_lt_of_cell? w _ hx112_3)).trans hx112_3
                replace hx112_4 := (HB.out.cell (World.block_lt_of_cell? w _ hx112_4)).trans hx112_4
                replace hx112_5 := (HB.out.cell (World.block_lt_of_cell? w _ hx112_5)).trans hx112_5
                replace hx112_6 := (HB.out.cell (World.block_lt_of_cell? w _ hx112_6)).trans hx112_6
                replace hx112_7 := (HB.out.cell (World.block_lt_of_cell? w _ hx112_7)).trans hx112_7
                replace hx112_8 := (HB.out.cell (World.block_lt_of_cell? w _ hx112_8)).trans hx112_8
                replace p112 := eq_true p112
                replace q112 := eq_true q112
                have p113 : 0 ≤ (x9_2 : Int) := of_decide_eq_true (by first | (with_reducible assumption) | assumption)
                have q113 : x9_2 < (l0.length : Int) := of_decide_eq_true (by first | (with_reducible assumption) | assumption)
                obtain ⟨ad113, e113, hx113_0, hx113_1, hx113_2, hx113_3, hx113_4, hx113_5, hx113_6, hx113_7, hx113_8⟩ := at_T123 HR0.out x9_2 p113 q113
                (try rw [← Nbq17.out] at hx113_3)
                (try rw [← Nbq17.out] at hx113_8)
                obtain rfl : ad112 = ad113 := (by injection e113)
                replace hx113_0 := (HB.out.cell (World.block_lt_of_cell? w _ hx113_0)).trans hx113_0
                replace hx113_1 := (HB.out.cell (World.block_lt_of_cell? w _ hx113_1)).trans hx113_1
                replace hx113_2 := (HB.out.cell (World.block_lt_of_cell? w _ hx113_2)).trans hx113_2
                replace hx113_3 := (HB.out.cell (World.block_lt_of_cell? w _ hx113_3)).trans hx113_3
                replace hx113_4 := (HB.out.cell (World.block_lt_of_cell? w _ hx113_4)).trans hx113_4
                replace hx113_5 := (HB.out.cell (World.block_lt_of_cell? w _ hx113_5)).trans hx113_5
                replace hx113_6 := (HB.out.cell (World.block_lt_of_cell? w _ hx113_6)).trans hx113_6
                replace hx113_7 := (HB.out.cell (World.block_lt_of_cell? w _ hx113_7)).trans hx113_7
                replace hx113_8 := (HB.out.cell (World.block_lt_of_cell? w _ hx113_8)).trans hx113_8
                replace p113 := eq_true p113
                replace q113 := eq_true q113
                go_wp2_with (first | ((with_reducible refine gate_callee (f := 106) rfl ?_); refine goesL_ (some 46) rfl rfl Try.func106 (by kernel_rfl) rfl #[.agg #[.string ((rd_T123 l0 x9_2).f0), .string ((rd_T123 l0 x9_2).f1), .string ((rd_T123 l0 x9_2).f2), .bool true, .string ((rd_T123 l0 x9_2).f4), .string ((rd_T123 l0 x9_2).f5), .string ((rd_T123 l0 x9_2).f6), .string ((rd_T123 l0 x9_2).f7), .bool ((rd_T123 l0 x9_2).f8)], .int .i64 a2] rfl (by (try simp only [List.map_toArray, List.map_cons, List.map_nil]); first | done | rfl | (simp only [List.length_drop, List.length_take]; rfl)) ?_; (with_reducible refine (tripartiteref11_pick.calls k2 ((rd_T123 l0 x9_2).f0) ((rd_T123 l0 x9_2).f1) ((rd_T123 l0 x9_2).f2) true ((rd_T123 l0 x9_2).f4) ((rd_T123 l0 x9_2).f5) ((rd_T123 l0 x9_2).f6) ((rd_T123 l0 x9_2).f7) ((rd_T123 l0 x9_2).f8) a2 t114 t115 _ A20.out).mono ?_); rintro e w36 ⟨rfl, hb⟩; refine ⟨_, rfl, ?_⟩; have n0_ := Aside0.mk (Kd.R_below (by (with_reducible repeat (first | apply Kd.R_alloc | apply Kd.R_drewN | apply Kd.R_drew)); exact HO_8.out) hb); have n1_ := Aside0.mk (below_step (by repeat (first | (with_reducible first | exact HB.out | apply below_alloc | apply pw_below_drewN | apply below_drew1) | exact HB.out)) hb); clear HO_8; clear HB; have HO_8 := n0_; have HB := n1_; clear n0_ n1_; (try clear hb); (try clear hb2); (try clear hk); (try clear hi)) | (go_at_call 112; (with_reducible refine (tripartiteref01_Ends.calls t114 false _ A28.out).mono ?_); rintro e w' ⟨rfl, ⟨nd, rfl⟩⟩))
                go_ret2
                exact ⟨_, by first | rfl | (simp [errW_none, errW_some] <;> rfl) | (simp [*, errW_none, errW_some] <;> rfl), by first | exact Kd.R_nil _ _ _ _ _ | exact Kd.N_nil _ _ _ _ _ | exact Kd.V_nil _ _ _ _ _ | exact Kd.Q_nil _ _ _ _ _ | exact Kd.S_nil _ _ _ _ _, by repeat (first | (with_reducible first | exact HB.out | apply below_alloc | apply pw_below_drewN | apply below_drew1) | exact HB.out)⟩
               ·rw [if_neg c35] at H
                have c35b0 : decide ((wrap64 (x9_2 + 1)) < (l0.length : Int)) = false := decide_eq_false c35
                clear c35
                by_cases c37 : x9_2 < (x8_2.length : Int)
                ·rw [if_pos c37] at H
                 have c37b0 : decide (x9_2 < (x8_2.length : Int)) = true := decide_eq_true c37
                 clear c37
                 obtain ⟨y119, hy119⟩ : ∃ y_ : List (S123), y_ = (x8_2.set (x9_2 : Int).toNat (⟨(⟨#[]⟩ : ByteArray), (⟨#[]⟩ : ByteArray), (⟨#[]⟩ : ByteArray), false, t114, (⟨#[]⟩ : ByteArray), (⟨#[]⟩ : ByteArray), (⟨#[]⟩ : ByteArray), false⟩ : S123)) := ⟨_, rfl⟩
                 replace H : (tripartiteref11_One.l0 k2 l0 (wrap64 (x1_2 - 1)) a2 y119 (wrap64 (x9_2 + 1))) = some (r1, r2) := by first | (rw [hy119]; with_reducible exact H) | (have H2_ := (Option.bind_some _ _).symm.trans H; rw [hy119]; with_reducible exact H2_) | (have H2_ := (Option.bind_some _ _).symm.trans H; with_reducible exact H2_) | with_reducible exact H | (rw [hy119]; exact H) | exact H
                 have Ny119 := Aside0.mk hy119
                 clear hy119
                 have H' := Aside0.mk H
                 clear H
                 have p112 : 0 ≤ (x9_2 : Int) := of_decide_eq_true (by first | (with_reducible assumption) | assumption)
                 have q112 : x9_2 < (l0.length : Int) := of_decide_eq_true (by first | (with_reducible assumption) | assumption)
                 obtain ⟨ad112, e112, hx112_0, hx112_1, hx112_2, hx112_3, hx112_4, hx112_5, hx112_6, hx112_7, hx112_8⟩ := at_T123 HR0.out x9_2 p112 q112
                 (try rw [← Nbq17.out] at hx112_3)
                 (try rw [← Nbq17.out] at hx112_8)
                 cases e112
                 replace hx112_0 := (HB.out.cell (World.block_lt_of_cell? w _ hx112_0)).trans hx112_0
                 replace hx112_1 := (HB.out.cell (World.block_lt_of_cell? w _ hx112_1)).trans hx112_1
                 replace hx112_2 := (HB.out.cell (World.block_lt_of_cell? w _ hx112_2)).trans hx112_2
                 replace hx112_3 := (HB.out.cell (World.block_lt_of_cell? w _ hx112_3)).trans hx112_3
                 replace hx112_4 := (HB.out.cell (World.block_lt_of_cell? w _ hx112_4)).trans hx112_4
                 replace hx112_5 := (HB.out.cell (World.block_lt_of_cell? w _ hx112_5)).trans hx112_5
                 replace hx112_6 := (HB.out.cell (World.block_lt_of_cell? w _ hx112_6)).trans hx112_6
                 replace hx112_7 := (HB.out.cell (World.block_lt_of_cell? w _ hx112_7)).trans hx112_7
                 replace hx112_8 := (HB.out.cell (World.block_lt_of_cell? w _ hx112_8)).trans hx112_8
                 replace p112 := eq_true p112
                 replace q112 := eq_true q112
                 have p113 : 0 ≤ (x9_2 : Int) := of_decide_eq_true (by first | (with_reducible assumption) | assumption)
                 have q113 : x9_2 < (l0.length : Int) := of_decide_eq_true (by first | (with_reducible assumption) | assumption)
                 obtain ⟨ad113, e113, hx113_0, hx113_1, hx113_2, hx113_3, hx113_4, hx113_5, hx113_6, hx113_7, hx113_8⟩ := at_T123 HR0.out x9_2 p113 q113
                 (try rw [← Nbq17.out] at hx113_3)
                 (try rw [← Nbq17.out] at hx113_8)
                 obtain rfl : ad112 = ad113 := (by injection e113)
                 replace hx113_0 := (HB.out.cell (World.block_lt_of_cell? w _ hx113_0)).trans hx113_0
                 replace hx113_1 := (HB.out.cell (World.block_lt_of_cell? w _ hx113_1)).trans hx113_1
                 replace hx113_2 := (HB.out.cell (World.block_lt_of_cell? w _ hx113_2)).trans hx113_2
                 replace hx113_3 := (HB.out.cell (World.block_lt_of_cell? w _ hx113_3)).trans hx113_3
                 replace hx113_4 := (HB.out.cell (World.block_lt_of_cell? w _ hx113_4)).trans hx113_4
                 replace hx113_5 := (HB.out.cell (World.block_lt_of_cell? w _ hx113_5)).trans hx113_5
                 replace hx113_6 := (HB.out.cell (World.block_lt_of_cell? w _ hx113_6)).trans hx113_6
                 replace hx113_7 := (HB.out.cell (World.block_lt_of_cell? w _ hx113_7)).trans hx113_7
                 replace hx113_8 := (HB.out.cell (World.block_lt_of_cell? w _ hx113_8)).trans hx113_8
                 replace p113 := eq_true p113
                 replace q113 := eq_true q113
                 go_wp2_with (first | ((with_reducible refine gate_callee (f := 106) rfl ?_); refine goesL_ (some 46) rfl rfl Try.func106 (by kernel_rfl) rfl #[.agg #[.string ((rd_T123 l0 x9_2).f0), .string ((rd_T123 l0 x9_2).f1), .string ((rd_T123 l0 x9_2).f2), .bool true, .string ((rd_T123 l0 x9_2).f4), .string ((rd_T123 l0 x9_2).f5), .string ((rd_T123 l0 x9_2).f6), .string ((rd_T123 l0 x9_2).f7), .bool ((rd_T123 l0 x9_2).f8)], .int .i64 a2] rfl (by (try simp only [List.map_toArray, List.map_cons, List.map_nil]); first | done | rfl | (simp only [List.length_drop, List.length_take]; rfl)) ?_; (with_reducible refine (tripartiteref11_pick.calls k2 ((rd_T123 l0 x9_2).f0) ((rd_T123 l0 x9_2).f1) ((rd_T123 l0 x9_2).f2) true ((rd_T123 l0 x9_2).f4) ((rd_T123 l0 x9_2).f5) ((rd_T123 l0 x9_2).f6) ((rd_T123 l0 x9_2).f7) ((rd_T123 l0 x9_2).f8) a2 t114 t115 _ A20.out).mono ?_); rintro e w39 ⟨rfl, hb⟩; refine ⟨_, rfl, ?_⟩; have n0_ := Aside0.mk (Kd.R_below (by (with_reducible repeat (first | apply Kd.R_alloc | apply Kd.R_drewN | apply Kd.R_drew)); exact HO_8.out) hb); have n1_ := Aside0.mk (below_step (by repeat (first | (with_reducible first | exact HB.out | apply below_alloc | apply pw_below_drewN | apply below_drew1) | exact HB.out)) hb); clear HO_8; clear HB; have HO_8 := n0_; have HB := n1_; clear n0_ n1_; (try clear hb); (try clear hb2); (try clear hk); (try clear hi)) | (go_at_call 112; (with_reducible refine (tripartiteref01_Ends.calls t114 false _ A28.out).mono ?_); rintro e w' ⟨rfl, ⟨nd, rfl⟩⟩; (try (rw [drewN_self w39]; generalize hq_ : World.drewN w39 _ = w39; have n0_ : Aside0 (Kd.R k123 123 w39 w.heap.size (fun _ => True) v107 x8_2) := ⟨by rw [← hq_]; exact (by (with_reducible repeat (first | apply Kd.R_alloc | apply Kd.R_drewN | apply Kd.R_drew)); exact HO_8.out)⟩; have n1_ : Aside0 (Below w.heap.size w w39) := ⟨by rw [← hq_]; exact (by repeat (first | (with_reducible first | exact HB.out | apply below_alloc | apply pw_below_drewN | apply below_drew1) | exact HB.out))⟩; clear HO_8 HB hq_; have HO_8 := n0_; have HB := n1_; clear n0_ n1_)); have p38 : 0 ≤ (x9_2 : Int) := of_decide_eq_true (by first | (with_reducible assumption) | assumption); have q38 : (x9_2 : Int) < ((x8_2.length : Int) : Int) := of_decide_eq_true (by first | (with_reducible assumption) | assumption); obtain ⟨go38, co38, eo38, gb38, gl38, cl38, HG38⟩ := Kd.R_form HO_8.out (by omega); (first | cases eo38 | (injection eo38 with ea_ en_ ec_; (first | subst ea_ | (injection ea_ with ea_; subst ea_)); subst ec_; clear en_)); have GB38 := Aside0.mk gb38; have GG38 := Aside0.mk HG38; clear gb38 gl38 HG38; obtain ⟨ce38, hcl38, hM38, hcc38, hfr38⟩ := Kd.R_elem HO_8.out z123 (x9_2 : Int) p38 q38; obtain rfl := k123_openM hM38; have hx38_0 : w39.cell? ⟨go38, (x9_2 : Int).toNat * 9, none⟩ = some (.string ((rd_T123 x8_2 x9_2).f0)) := hcc38 0 _ rfl; have hx38_1 : w39.cell? ⟨go38, (x9_2 : Int).toNat * 9 + 1, none⟩ = some (.string ((rd_T123 x8_2 x9_2).f1)) := hcc38 1 _ rfl; have hx38_2 : w39.cell? ⟨go38, (x9_2 : Int).toNat * 9 + 2, none⟩ = some (.string ((rd_T123 x8_2 x9_2).f2)) := hcc38 2 _ rfl; have hx38_3 : w39.cell? ⟨go38, (x9_2 : Int).toNat * 9 + 3, none⟩ = some (.bool ((rd_T123 x8_2 x9_2).f3)) := hcc38 3 _ rfl; have hx38_4 : w39.cell? ⟨go38, (x9_2 : Int).toNat * 9 + 4, none⟩ = some (.string ((rd_T123 x8_2 x9_2).f4)) := hcc38 4 _ rfl; have hx38_5 : w39.cell? ⟨go38, (x9_2 : Int).toNat * 9 + 5, none⟩ = some (.string ((rd_T123 x8_2 x9_2).f5)) := hcc38 5 _ rfl; have hx38_6 : w39.cell? ⟨go38, (x9_2 : Int).toNat * 9 + 6, none⟩ = some (.string ((rd_T123 x8_2 x9_2).f6)) := hcc38 6 _ rfl; have hx38_7 : w39.cell? ⟨go38, (x9_2 : Int).toNat * 9 + 7, none⟩ = some (.string ((rd_T123 x8_2 x9_2).f7)) := hcc38 7 _ rfl; have hx38_8 : w39.cell? ⟨go38, (x9_2 : Int).toNat * 9 + 8, none⟩ = some (.bool ((rd_T123 x8_2 x9_2).f8)) := hcc38 8 _ rfl; have hf38_0 : w39.frozen? ⟨go38, (x9_2 : Int).toNat * 9, none⟩ = false := hfr38 0; have hf38_1 : w39.frozen? ⟨go38, (x9_2 : Int).toNat * 9 + 1, none⟩ = false := hfr38 1; have hf38_2 : w39.frozen? ⟨go38, (x9_2 : Int).toNat * 9 + 2, none⟩ = false := hfr38 2; have hf38_3 : w39.frozen? ⟨go38, (x9_2 : Int).toNat * 9 + 3, none⟩ = false := hfr38 3; have hf38_4 : w39.frozen? ⟨go38, (x9_2 : Int).toNat * 9 + 4, none⟩ = false := hfr38 4; have hf38_5 : w39.frozen? ⟨go38, (x9_2 : Int).toNat * 9 + 5, none⟩ = false := hfr38 5; have hf38_6 : w39.frozen? ⟨go38, (x9_2 : Int).toNat * 9 + 6, none⟩ = false := hfr38 6; have hf38_7 : w39.frozen? ⟨go38, (x9_2 : Int).toNat * 9 + 7, none⟩ = false := hfr38 7; have hf38_8 : w39.frozen? ⟨go38, (x9_2 : Int).toNat * 9 + 8, none⟩ = false := hfr38 8; clear hcl38 hcc38 hfr38 hM38; replace p38 := eq_true p38; replace q38 := eq_true q38; have HX40 := Aside0.mk (show Kd.R k123 123 w39 w.heap.size (fun _ => True) (.slice (some ⟨go38, 0, none⟩) x8_2.length co38) x8_2 from (by (with_reducible repeat (first | apply Kd.R_alloc | apply Kd.R_drewN | apply Kd.R_drew)); exact HO_8.out)); obtain ⟨ce40, hcl40, hM40, hcc40, hfr40⟩ := Kd.R_elem HX40.out z123 (x9_2 : Int) (of_decide_eq_true (by first | (with_reducible assumption) | assumption)) (by have h_ : (x9_2 : Int) < ((x8_2.length : Int) : Int) := of_decide_eq_true (by first | (with_reducible assumption) | assumption); first | exact h_ | (have e_ := (Kd.R_reads' HO_8.out).1; omega) | simpa using h_); obtain rfl := k123_openM hM40; have HP40 := Kd.R_seg HX40.out (x9_2 : Int) (of_decide_eq_true (by first | (with_reducible assumption) | assumption)) (by have h_ : (x9_2 : Int) < ((x8_2.length : Int) : Int) := of_decide_eq_true (by first | (with_reducible assumption) | assumption); first | exact h_ | (have e_ := (Kd.R_reads' HO_8.out).1; omega) | simpa using h_) (seg := [.string (⟨#[]⟩ : ByteArray), .string (⟨#[]⟩ : ByteArray), .string (⟨#[]⟩ : ByteArray), .bool false, .string t114, .string (⟨#[]⟩ : ByteArray), .string (⟨#[]⟩ : ByteArray), .string (⟨#[]⟩ : ByteArray), .bool false]) (j := 0) hcl40 hcc40 (show 9 ≤ 9 from by decide) (x' := (⟨(⟨#[]⟩ : ByteArray), (⟨#[]⟩ : ByteArray), (⟨#[]⟩ : ByteArray), false, t114, (⟨#[]⟩ : ByteArray), (⟨#[]⟩ : ByteArray), (⟨#[]⟩ : ByteArray), false⟩ : S123)) (k123_mkM _ _ _ (⟨(⟨#[]⟩ : ByteArray), (⟨#[]⟩ : ByteArray), (⟨#[]⟩ : ByteArray), false, t114, (⟨#[]⟩ : ByteArray), (⟨#[]⟩ : ByteArray), (⟨#[]⟩ : ByteArray), false⟩ : S123) ) (fun _ hk => hk); have hx40_0 := hcc40 0 _ rfl; (try simp only [show (k123).sz = 9 from rfl, Nat.mul_one, Nat.add_zero] at hx40_0); have hf40_0 := hfr40 0; (try simp only [show (k123).sz = 9 from rfl, Nat.mul_one, Nat.add_zero] at hf40_0); have hx40_1 := hcc40 1 _ rfl; (try simp only [show (k123).sz = 9 from rfl, Nat.mul_one, Nat.add_zero] at hx40_1); have hf40_1 := hfr40 1; (try simp only [show (k123).sz = 9 from rfl, Nat.mul_one, Nat.add_zero] at hf40_1); have hx40_2 := hcc40 2 _ rfl; (try simp only [show (k123).sz = 9 from rfl, Nat.mul_one, Nat.add_zero] at hx40_2); have hf40_2 := hfr40 2; (try simp only [show (k123).sz = 9 from rfl, Nat.mul_one, Nat.add_zero] at hf40_2); have hx40_3 := hcc40 3 _ rfl; (try simp only [show (k123).sz = 9 from rfl, Nat.mul_one, Nat.add_zero] at hx40_3); have hf40_3 := hfr40 3; (try simp only [show (k123).sz = 9 from rfl, Nat.mul_one, Nat.add_zero] at hf40_3); have hx40_4 := hcc40 4 _ rfl; (try simp only [show (k123).sz = 9 from rfl, Nat.mul_one, Nat.add_zero] at hx40_4); have hf40_4 := hfr40 4; (try simp only [show (k123).sz = 9 from rfl, Nat.mul_one, Nat.add_zero] at hf40_4); have hx40_5 := hcc40 5 _ rfl; (try simp only [show (k123).sz = 9 from rfl, Nat.mul_one, Nat.add_zero] at hx40_5); have hf40_5 := hfr40 5; (try simp only [show (k123).sz = 9 from rfl, Nat.mul_one, Nat.add_zero] at hf40_5); have hx40_6 := hcc40 6 _ rfl; (try simp only [show (k123).sz = 9 from rfl, Nat.mul_one, Nat.add_zero] at hx40_6); have hf40_6 := hfr40 6; (try simp only [show (k123).sz = 9 from rfl, Nat.mul_one, Nat.add_zero] at hf40_6); have hx40_7 := hcc40 7 _ rfl; (try simp only [show (k123).sz = 9 from rfl, Nat.mul_one, Nat.add_zero] at hx40_7); have hf40_7 := hfr40 7; (try simp only [show (k123).sz = 9 from rfl, Nat.mul_one, Nat.add_zero] at hf40_7); have hx40_8 := hcc40 8 _ rfl; (try simp only [show (k123).sz = 9 from rfl, Nat.mul_one, Nat.add_zero] at hx40_8); have hf40_8 := hfr40 8; (try simp only [show (k123).sz = 9 from rfl, Nat.mul_one, Nat.add_zero] at hf40_8); clear hcl40 hcc40 hfr40 hM40) | ((with_reducible refine gate_store (t := 123) (p := 70) rfl ?_); refine store_event (t := 123) (p := 70) (v := ?vo_w41) (w1 := (((((((((w39.setCell ⟨go38, (x9_2 : Int).toNat * 9, none⟩ (.string (⟨#[]⟩ : ByteArray))).setCell ⟨go38, (x9_2 : Int).toNat * 9 + 1, none⟩ (.string (⟨#[]⟩ : ByteArray))).setCell ⟨go38, (x9_2 : Int).toNat * 9 + 2, none⟩ (.string (⟨#[]⟩ : ByteArray))).setCell ⟨go38, (x9_2 : Int).toNat * 9 + 3, none⟩ (.bool false)).setCell ⟨go38, (x9_2 : Int).toNat * 9 + 4, none⟩ (.string t114)).setCell ⟨go38, (x9_2 : Int).toNat * 9 + 5, none⟩ (.string (⟨#[]⟩ : ByteArray))).setCell ⟨go38, (x9_2 : Int).toNat * 9 + 6, none⟩ (.string (⟨#[]⟩ : ByteArray))).setCell ⟨go38, (x9_2 : Int).toNat * 9 + 7, none⟩ (.string (⟨#[]⟩ : ByteArray))).setCell ⟨go38, (x9_2 : Int).toNat * 9 + 8, none⟩ (.bool false))) ?hg ?ho ?hn ?hr ?_; (case ho => rfl); (case hg => rfl); (case hn => rfl); (case hr => first | (go_simp; done) | (go_simp; rfl)); intro w41 hw; have hg : w39.grownBy w41 (some go38) := (by rw [hw]; exact HP40.2); have hp_ : Kd.R k123 123 w41 w.heap.size (fun _ => True) (.slice (some ⟨go38, 0, none⟩) x8_2.length co38) y119 := (by rw [hw, Ny119.out]; exact HP40.1); clear HP40; have n0_ := Aside0.mk (hp_); have n1_ := Aside0.mk ((by rw [hw]; exact below_set (below_set (below_set (below_set (below_set (below_set (below_set (below_set (below_set (HB.out) GB38.out) GB38.out) GB38.out) GB38.out) GB38.out) GB38.out) GB38.out) GB38.out) GB38.out : Below w.heap.size w w41)); clear HO_8; clear HB; have HO_8 := n0_; have HB := n1_; clear n0_ n1_; clear hg hw hp_))
                 go_roundg k2
                 case measure => have := HJ5.out; have := HK2.out; omega
                 case rel => exact ⟨(wrap64 (x1_2 - 1)), (y119), (wrap64 (x9_2 + 1)), (by first | rfl | (simp; done) | (simp [*]; done)), (by first | rfl | (simp; done) | (simp [*]; done)), H', ⟨by have := HJ5.out; have := HK2.out; omega⟩, ⟨by (with_reducible repeat (first | apply Kd.R_alloc | apply Kd.R_drewN | apply Kd.R_drew)); exact HO_8.out⟩, ⟨by repeat (first | (with_reducible first | exact HB.out | apply below_alloc | apply pw_below_drewN | apply below_drew1) | exact HB.out)⟩⟩
                ·rw [if_neg c37] at H
                 exact absurd H (by simp)
            ·rw [if_neg c21] at H
             have c21b0 : (t115 == 0) = false := beq_eq_false_iff_ne.mpr c21
             have c21b1 : (t115 != 0) = true := bne_iff_ne.mpr c21
             simp only [Option.some.injEq, Prod.mk.injEq] at H
             obtain ⟨rfl, rfl⟩ := H
             have p112 : 0 ≤ (x9_2 : Int) := of_decide_eq_true (by first | (with_reducible assumption) | assumption)
             have q112 : x9_2 < (l0.length : Int) := of_decide_eq_true (by first | (with_reducible assumption) | assumption)
             obtain ⟨ad112, e112, hx112_0, hx112_1, hx112_2, hx112_3, hx112_4, hx112_5, hx112_6, hx112_7, hx112_8⟩ := at_T123 HR0.out x9_2 p112 q112
             (try rw [← Nbq17.out] at hx112_3)
             (try rw [← Nbq17.out] at hx112_8)
             cases e112
             replace hx112_0 := (HB.out.cell (World.block_lt_of_cell? w _ hx112_0)).trans hx112_0
             replace hx112_1 := (HB.out.cell (World.block_lt_of_cell? w _ hx112_1)).trans hx112_1
             replace hx112_2 := (HB.out.cell (World.block_lt_of_cell? w _ hx112_2)).trans hx112_2
             replace hx112_3 := (HB.out.cell (World.block_lt_of_cell? w _ hx112_3)).trans hx112_3
             replace hx112_4 := (HB.out.cell (World.block_lt_of_cell? w _ hx112_4)).trans hx112_4
             replace hx112_5 := (HB.out.cell (World.block_lt_of_cell? w _ hx112_5)).trans hx112_5
             replace hx112_6 := (HB.out.cell (World.block_lt_of_cell? w _ hx112_6)).trans hx112_6
             replace hx112_7 := (HB.out.cell (World.block_lt_of_cell? w _ hx112_7)).trans hx112_7
             replace hx112_8 := (HB.out.cell (World.block_lt_of_cell? w _ hx112_8)).trans hx112_8
             replace p112 := eq_true p112
             replace q112 := eq_true q112
             have p113 : 0 ≤ (x9_2 : Int) := of_decide_eq_true (by first | (with_reducible assumption) | assumption)
             have q113 : x9_2 < (l0.length : Int) := of_decide_eq_true (by first | (with_reducible assumption) | assumption)
             obtain ⟨ad113, e113, hx113_0, hx113_1, hx113_2, hx113_3, hx113_4, hx113_5, hx113_6, hx113_7, hx113_8⟩ := at_T123 HR0.out x9_2 p113 q113
             (try rw [← Nbq17.out] at hx113_3)
             (try rw [← Nbq17.out] at hx113_8)
             obtain rfl : ad112 = ad113 := (by injection e113)
             replace hx113_0 := (HB.out.cell (World.block_lt_of_cell? w _ hx113_0)).trans hx113_0
             replace hx113_1 := (HB.out.cell (World.block_lt_of_cell? w _ hx113_1)).trans hx113_1
             replace hx113_2 := (HB.out.cell (World.block_lt_of_cell? w _ hx113_2)).trans hx113_2
             replace hx113_3 := (HB.out.cell (World.block_lt_of_cell? w _ hx113_3)).trans hx113_3
             replace hx113_4 := (HB.out.cell (World.block_lt_of_cell? w _ hx113_4)).trans hx113_4
             replace hx113_5 := (HB.out.cell (World.block_lt_of_cell? w _ hx113_5)).trans hx113_5
             replace hx113_6 := (HB.out.cell (World.block_lt_of_cell? w _ hx113_6)).trans hx113_6
             replace hx113_7 := (HB.out.cell (World.block_lt_of_cell? w _ hx113_7)).trans hx113_7
             replace hx113_8 := (HB.out.cell (World.block_lt_of_cell? w _ hx113_8)).trans hx113_8
             replace p113 := eq_true p113
             replace q113 := eq_true q113
             go_wp2_with (first | ((with_reducible refine gate_callee (f := 106) rfl ?_); refine goesL_ (some 46) rfl rfl Try.func106 (by kernel_rfl) rfl #[.agg #[.string ((rd_T123 l0 x9_2).f0), .string ((rd_T123 l0 x9_2).f1), .string ((rd_T123 l0 x9_2).f2), .bool true, .string ((rd_T123 l0 x9_2).f4), .string ((rd_T123 l0 x9_2).f5), .string ((rd_T123 l0 x9_2).f6), .string ((rd_T123 l0 x9_2).f7), .bool ((rd_T123 l0 x9_2).f8)], .int .i64 a2] rfl (by (try simp only [List.map_toArray, List.map_cons, List.map_nil]); first | done | rfl | (simp only [List.length_drop, List.length_take]; rfl)) ?_; (with_reducible refine (tripartiteref11_pick.calls k2 ((rd_T123 l0 x9_2).f0) ((rd_T123 l0 x9_2).f1) ((rd_T123 l0 x9_2).f2) true ((rd_T123 l0 x9_2).f4) ((rd_T123 l0 x9_2).f5) ((rd_T123 l0 x9_2).f6) ((rd_T123 l0 x9_2).f7) ((rd_T123 l0 x9_2).f8) a2 t114 t115 _ A20.out).mono ?_); rintro e w42 ⟨rfl, hb⟩; refine ⟨_, rfl, ?_⟩; have n0_ := Aside0.mk (Kd.R_below (by (with_reducible repeat (first | apply Kd.R_alloc | apply Kd.R_drewN | apply Kd.R_drew)); exact HO_8.out) hb); have n1_ := Aside0.mk (below_step (by repeat (first | (with_reducible first | exact HB.out | apply below_alloc | apply pw_below_drewN | apply below_drew1) | exact HB.out)) hb); clear HO_8; clear HB; have HO_8 := n0_; have HB := n1_; clear n0_ n1_; (try clear hb); (try clear hb2); (try clear hk); (try clear hi)))
             go_ret2
             exact ⟨_, by first | rfl | (simp [errW_none, errW_some] <;> rfl) | (simp [*, errW_none, errW_some] <;> rfl), by first | exact Kd.R_nil _ _ _ _ _ | exact Kd.N_nil _ _ _ _ _ | exact Kd.V_nil _ _ _ _ _ | exact Kd.Q_nil _ _ _ _ _ | exact Kd.S_nil _ _ _ _ _, by repeat (first | (with_reducible first | exact HB.out | apply below_alloc | apply pw_below_drewN | apply below_drew1) | exact HB.out)⟩
           ·rw [if_neg c19] at H
            have c19b0 : (x1_2 == 0) = false := beq_eq_false_iff_ne.mpr c19
            have c19b1 : (x1_2 != 0) = true := bne_iff_ne.mpr c19
            have H' := Aside0.mk H
            clear H
            have p112 : 0 ≤ (x9_2 : Int) := of_decide_eq_true (by first | (with_reducible assumption) | assumption)
            have q112 : x9_2 < (l0.length : Int) := of_decide_eq_true (by first | (with_reducible assumption) | assumption)
            obtain ⟨ad112, e112, hx112_0, hx112_1, hx112_2, hx112_3, hx112_4, hx112_5, hx112_6, hx112_7, hx112_8⟩ := at_T123 HR0.out x9_2 p112 q112
            (try rw [← Nbq17.out] at hx112_3)
            (try rw [← Nbq17.out] at hx112_8)
            cases e112
            replace hx112_0 := (HB.out.cell (World.block_lt_of_cell? w _ hx112_0)).trans hx112_0
            replace hx112_1 := (HB.out.cell (World.block_lt_of_cell? w _ hx112_1)).trans hx112_1
            replace hx112_2 := (HB.out.cell (World.block_lt_of_cell? w _ hx112_2)).trans hx112_2
            replace hx112_3 := (HB.out.cell (World.block_lt_of_cell? w _ hx112_3)).trans hx112_3
            replace hx112_4 := (HB.out.cell (World.block_lt_of_cell? w _ hx112_4)).trans hx112_4
            replace hx112_5 := (HB.out.cell (World.block_lt_of_cell? w _ hx112_5)).trans hx112_5
            replace hx112_6 := (HB.out.cell (World.block_lt_of_cell? w _ hx112_6)).trans hx112_6
            replace hx112_7 := (HB.out.cell (World.block_lt_of_cell? w _ hx112_7)).trans hx112_7
            replace hx112_8 := (HB.out.cell (World.block_lt_of_cell? w _ hx112_8)).trans hx112_8
            replace p112 := eq_true p112
            replace q112 := eq_true q112
            go_wp2
            go_roundg k2
            case measure => have := HJ5.out; have := HK2.out; omega
            case rel => exact ⟨(wrap64 (x1_2 - 1)), (x8_2), (wrap64 (x9_2 + 1)), (by first | rfl | (simp; done) | (simp [*]; done)), (by first | rfl | (simp; done) | (simp [*]; done)), H', ⟨by have := HJ5.out; have := HK2.out; omega⟩, ⟨by (with_reducible repeat (first | apply Kd.R_alloc | apply Kd.R_drewN | apply Kd.R_drew)); exact HO_8.out⟩, ⟨by repeat (first | (with_reducible first | exact HB.out | apply below_alloc | apply pw_below_drewN | apply below_drew1) | exact HB.out)⟩⟩
          ·replace c18 := Bool.eq_false_iff.mpr c18
           subst c18
           have H1 : (tripartiteref11_One.l0 k2 l0 x1_2 a2 x8_2 (wrap64 (x9_2 + 1))) = some (r1, r2) := by rw [if_neg (show ¬ (false = true) by decide)] at H; exact H
           clear H
           have H := H1
           clear H1
           have H' := Aside0.mk H
           clear H
           have p112 : 0 ≤ (x9_2 : Int) := of_decide_eq_true (by first | (with_reducible assumption) | assumption)
           have q112 : x9_2 < (l0.length : Int) := of_decide_eq_true (by first | (with_reducible assumption) | assumption)
           obtain ⟨ad112, e112, hx112_0, hx112_1, hx112_2, hx112_3, hx112_4, hx112_5, hx112_6, hx112_7, hx112_8⟩ := at_T123 HR0.out x9_2 p112 q112
           (try rw [← Nbq17.out] at hx112_3)
           (try rw [← Nbq17.out] at hx112_8)
           cases e112
           replace hx112_0 := (HB.out.cell (World.block_lt_of_cell? w _ hx112_0)).trans hx112_0
           replace hx112_1 := (HB.out.cell (World.block_lt_of_cell? w _ hx112_1)).trans hx112_1
           replace hx112_2 := (HB.out.cell (World.block_lt_of_cell? w _ hx112_2)).trans hx112_2
           replace hx112_3 := (HB.out.cell (World.block_lt_of_cell? w _ hx112_3)).trans hx112_3
           replace hx112_4 := (HB.out.cell (World.block_lt_of_cell? w _ hx112_4)).trans hx112_4
           replace hx112_5 := (HB.out.cell (World.block_lt_of_cell? w _ hx112_5)).trans hx112_5
           replace hx112_6 := (HB.out.cell (World.block_lt_of_cell? w _ hx112_6)).trans hx112_6
           replace hx112_7 := (HB.out.cell (World.block_lt_of_cell? w _ hx112_7)).trans hx112_7
           replace hx112_8 := (HB.out.cell (World.block_lt_of_cell? w _ hx112_8)).trans hx112_8
           replace p112 := eq_true p112
           replace q112 := eq_true q112
           go_wp2
           go_roundg k2
           case measure => have := HJ5.out; have := HK2.out; omega
           case rel => exact ⟨(x1_2), (x8_2), (wrap64 (x9_2 + 1)), (by first | rfl | (simp; done) | (simp [*]; done)), (by first | rfl | (simp; done) | (simp [*]; done)), H', ⟨by have := HJ5.out; have := HK2.out; omega⟩, ⟨by (with_reducible repeat (first | apply Kd.R_alloc | apply Kd.R_drewN | apply Kd.R_drew)); exact HO_8.out⟩, ⟨by repeat (first | (with_reducible first | exact HB.out | apply below_alloc | apply pw_below_drewN | apply below_drew1) | exact HB.out)⟩⟩
         ·rw [if_neg c16] at H
          exact absurd H (by simp)
        ·rw [if_neg c15] at H
         have c15b0 : decide (x9_2 < (l0.length : Int)) = false := decide_eq_false c15
         clear c15
         replace H := Option.bind_eq_some_iff.mp H
         obtain ⟨t109, A430, H⟩ := H
         replace H : (some (t109, 0)) = some (r1, r2) := H
         have A43 := Aside0.mk A430
         clear A430
         simp only [Option.some.injEq, Prod.mk.injEq] at H
         obtain ⟨rfl, rfl⟩ := H
         obtain ⟨Ao44, co44, eo44⟩ := Kd.R_slice HO_8.out
         subst eo44
         go_wp2_with (first | ((with_reducible refine gate_callee (f := 113) rfl ?_); refine goesL_ (some 74) rfl rfl Try.func113 (by kernel_rfl) rfl #[.slice Ao44 x8_2.length co44] rfl (by (try simp only [List.map_toArray, List.map_cons, List.map_nil]); first | done | rfl | (simp only [List.length_drop, List.length_take]; rfl)) ?_; (with_reducible refine (tripartiteref07_Of.calls k2 _ _ x8_2 t109 _ ?side1 ?side2 A43.out).mono ?_); (case side1 => repeat (first | exact (Kd.R_reads' HO_8.out).2.2 | (with_reducible refine Kd.C_alloc ?_ _) | (with_reducible refine Kd.C_drewN ?_ _) | (with_reducible refine Kd.C_drew ?_))); (case side2 => exact (Kd.R_reads' HO_8.out).2.1); rintro e w45 ⟨v110, rfl, ho0, hb⟩; refine ⟨_, rfl, ?_⟩; have n0_ := Aside0.mk (Kd.R_elder' (by (with_reducible repeat (first | apply Kd.R_alloc | apply Kd.R_drewN | apply Kd.R_drew)); exact HO_8.out) (Kd.R_base ho0) hb); have n1_ := Aside0.mk (Kd.R_lower (Kd.R_new' ho0 (Kd.R_lt (by (with_reducible repeat (first | apply Kd.R_alloc | apply Kd.R_drewN | apply Kd.R_drew)); exact HO_8.out))) (below_size (by repeat (first | (with_reducible first | exact HB.out | apply below_alloc | apply pw_below_drewN | apply below_drew1) | exact HB.out)))); have n2_ := Aside0.mk (below_step (by repeat (first | (with_reducible first | exact HB.out | apply below_alloc | apply pw_below_drewN | apply below_drew1) | exact HB.out)) hb); clear HO_8; clear HB; have HO_8 := n0_; have HO111 := n1_; have HB := n2_; clear n0_ n1_ n2_; (try clear hb); (try clear hb2); (try clear hk); (try clear hi); (try clear ho0)))
         go_ret2
         exact ⟨_, by first | rfl | (simp [errW_none, errW_some] <;> rfl) | (simp [*, errW_none, errW_some] <;> rfl), by (with_reducible repeat (first | apply Kd.R_alloc | apply Kd.R_drewN | apply Kd.R_drew)); exact Kd.R_mono HO111.out (fun _ hk => trivial), by repeat (first | (with_reducible first | exact HB.out | apply below_alloc | apply pw_below_drewN | apply below_drew1) | exact HB.out)⟩
     ·rw [if_neg c11] at H
      exact absurd H (by simp)
 ·replace c5 := Bool.eq_false_iff.mpr c5
  subst c5
  have H1 : (some (([] : List (S123)), 11)) = some (r1, r2) := by rw [if_neg (show ¬ (false = true) by decide)] at H; exact H
  clear H
  have H := H1
  clear H1
  simp only [Option.some.injEq, Prod.mk.injEq] at H
  obtain ⟨rfl, rfl⟩ := H
  go_enter Try.func69, Try.ntmps69
  go_wp2_with (first | ((with_reducible refine gate_callee (f := 100) rfl ?_); refine goesL_ (some 13) rfl rfl Try.func100 (by kernel_rfl) rfl #[.slice A0 l0.length c0] rfl (by (try simp only [List.map_toArray, List.map_cons, List.map_nil]); first | done | rfl | (simp only [List.length_drop, List.length_take]; rfl)) ?_; (with_reducible refine (tripartiteref07_Right.calls k _ _ l0 false _ ?side1 ?side2 A4.out).mono ?_); (case side1 => repeat (first | exact HR0.out | (with_reducible refine Kd.C_alloc ?_ _) | (with_reducible refine Kd.C_drewN ?_ _) | (with_reducible refine Kd.C_drew ?_))); (case side2 => exact HC0.out); rintro e w46 ⟨rfl, hb⟩; refine ⟨_, rfl, ?_⟩; have n0_ := Aside0.mk (below_step (by repeat (first | (with_reducible first | exact HB.out | apply below_alloc | apply pw_below_drewN | apply below_drew1) | exact HB.out)) hb); clear HB; have HB := n0_; clear n0_; (try clear hb); (try clear hb2); (try clear hk); (try clear hi)))
  go_ret2
  exact ⟨_, by first | rfl | (simp [errW_none, errW_some] <;> rfl) | (simp [*, errW_none, errW_some] <;> rfl), by first | exact Kd.R_nil _ _ _ _ _ | exact Kd.N_nil _ _ _ _ _ | exact Kd.V_nil _ _ _ _ _ | exact Kd.Q_nil _ _ _ _ _ | exact Kd.S_nil _ _ _ _ _, by repeat (first | (with_reducible first | exact HB.out | apply below_alloc | apply pw_below_drewN | apply below_drew1) | exact HB.out)⟩
end Go.Proofs.Ytadafplbgophfaa.PA
end
section
namespace Go.Proofs.Ytadafplbgophfaa.PA
open Go.ChangeShapes Go.WideShapes Go.Deep
open Go.RowKit Go.Proofs.YtadafplbgophfaaW.PrintWords Go.Proofs.YtadafplbgophfaaW.PrintLast Go.Proofs.YtadafplbgophfaaW.PrintMore
section
variable {H : Type} {enc : TypeId × Value → H} {P : Program} {w : World} {base : Nat} {held : Bool} {t e : TypeId} {a : Option Addr} {len cap : Nat} {d : DataW H} {ps : List MemPlace}
theorem nil_C {α : Type} (k : Kd α) (w : World) : Kd.C k w none ([] : List α).length [] := ⟨rfl, by simp, fun h => by simp at h⟩
theorem range_C {α : Type} {k : Kd α} {x : Addr} (n : Nat) (hn : n ≤ maxLen) (f : Nat → α) (h : ∀ i, i < n → ∃ c, c.length = k.sz ∧ k.K w (f i) c ∧ ∀ j u, c[j]? = some u → w.cell? (x.add (i * k.sz + j)) = some u) :
    Kd.C k w (some x) ((List.range n).map f).length ((List.range n).map f) := by
  refine ⟨rfl, by rw [List.length_map, List.length_range]; exact hn, fun _ => ⟨x, rfl, fun j p hj => ?_⟩⟩
  rw [List.getElem?_map] at hj
  obtain ⟨i, hi, rfl⟩ := Option.map_eq_some_iff.1 hj
  obtain ⟨hl, he⟩ := List.getElem?_eq_some_iff.1 hi
  rw [List.getElem_range] at he
  subst he
  rw [List.length_range] at hl
  exact h _ hl
end
end Go.Proofs.Ytadafplbgophfaa.PA
end
section
namespace Go.Proofs.Ytadafplbgophfaa.PA
open Go.ChangeShapes Go.WideShapes Go.Deep
open Go.RowKit Go.Proofs.YtadafplbgophfaaW.PrintWords Go.Proofs.YtadafplbgophfaaW.PrintLast Go.Proofs.YtadafplbgophfaaW.PrintMore
set_option linter.unusedVariables false
section
variable {H : Type} {enc : TypeId × Value → H} {P : Program} {w : World} {base : Nat} {held : Bool} {t e : TypeId} {a : Option Addr} {len cap : Nat} {d : DataW H} {ps : List MemPlace}
theorem weightsAll_mem {e : TypeId} : ∀ {ds : List (DataW H)} {d : DataW H}, d ∈ ds → ∀ n ∈ d.weights P e, n ∈ DataW.weightsAll P e ds
  | [], _, h, _, _ => by simp at h
  | d0 :: ds, d, h, n, hn => by
    simp only [DataW.weightsAll, List.mem_append]
    rcases List.mem_cons.1 h with rfl | h
    · exact .inl hn
    · exact .inr (weightsAll_mem h n hn)
theorem weights_slice (ht : P.underlying t = some (.slice e)) {elems spare : List (DataW H)} (hz : ∀ n ∈ (DataW.slice elems spare).weights P t, n ≤ reachBytes) : (elems.length + spare.length) * P.bytesOf e ≤ reachBytes ∧ ∀ x ∈ elems, ∀ n ∈ x.weights P e, n ≤ reachBytes := by
  refine ⟨hz _ (by simp [DataW.weights, ht]), fun x hx n hn => hz n ?_⟩
  simp only [DataW.weights, ht, List.mem_cons, List.mem_append]
  exact .inr (.inl (weightsAll_mem hx n hn))
end
end Go.Proofs.Ytadafplbgophfaa.PA
end
section
namespace Go.Proofs.Ytadafplbgophfaa.PA
open Go.ChangeShapes Go.WideShapes Go.Deep
open Go.RowKit Go.Proofs.YtadafplbgophfaaW.PrintWords Go.Proofs.YtadafplbgophfaaW.PrintLast Go.Proofs.YtadafplbgophfaaW.PrintMore
set_option linter.unusedVariables false
section
variable {H : Type} {enc : TypeId × Value → H} {w : World} {base : Nat} {held : Bool} {a : Option Addr} {len cap : Nat} {d : DataW H} {ps : List MemPlace}
theorem str9 {n : Nat} {sp : Nat → Bool} {cs : List Value} {x : DataW H × List MemPlace} (h : DataW.trod enc Try.prog w base sp held n 9 cs = some x) (hz : ∀ m ∈ x.1.weights Try.prog 9, m ≤ reachBytes) : ∃ s : ByteArray, cs = [.string s] ∧ s.size ≤ reachBytes := by
  obtain ⟨s, e, hx, _⟩ := DataW.trod_string Try.underlying9 h
  refine ⟨s, e, hz _ ?_⟩
  rw [hx]
  simp [DataW.weights]
theorem bool4 {n : Nat} {sp : Nat → Bool} {cs : List Value} {x : DataW H × List MemPlace} (h : DataW.trod enc Try.prog w base sp held n 4 cs = some x) : ∃ b : Bool, cs = [.bool b] := by
  obtain ⟨b, e, _⟩ := DataW.trod_bool Try.underlying4 h
  exact ⟨b, e⟩
set_option maxRecDepth 100000 in
set_option maxHeartbeats 4000000 in
theorem row_parts (h : DataW.Trod enc Try.prog w base (fun _ => true) held 86 (.slice a len cap) d ps) (hz : ∀ n ∈ d.weights Try.prog 86, n ≤ reachBytes) :
    ∃ l : List S123, len = l.length ∧ Kd.C k123 w a l.length l ∧ l.length ≤ maxLen ∧ l.length ≤ cap ∧ l.length ≤ reachBytes ∧ ∀ p ∈ l, p.f0.size ≤ reachBytes ∧ p.f1.size ≤ reachBytes ∧ p.f2.size ≤ reachBytes ∧ p.f4.size ≤ reachBytes ∧ p.f5.size ≤ reachBytes ∧ p.f6.size ≤ reachBytes ∧ p.f7.size ≤ reachBytes := by
  have ce : Try.prog.cellsOf 123 = 9 := by kernel_rfl
  have c9 : Try.prog.cellsOf 9 = 1 := by kernel_rfl
  have c4 : Try.prog.cellsOf 4 = 1 := by kernel_rfl
  have be : 1 ≤ Try.prog.bytesOf 123 := of_decide_eq_true (by kernel_rfl)
  obtain ⟨fuel, hf⟩ := h
  rcases open_slice Try.underlying86 hf with ⟨hcs, _⟩ | ⟨x, n, c, m, k, D, Pl, hcs, _, hl, hm, hmm, hd, hx⟩
  · simp [Value.cells] at hcs
    obtain ⟨rfl, rfl, rfl⟩ := hcs
    exact ⟨[], rfl, nil_C _ _, by simp, by simp, by simp, by simp⟩
  · simp [Value.cells] at hcs
    obtain ⟨rfl, rfl, rfl⟩ := hcs
    simp only [if_true] at hmm
    subst hmm
    injection hd with hd _
    subst hd
    obtain ⟨hw, hall⟩ := weights_slice Try.underlying86 hz
    simp only [List.length_map, List.length_range] at hw
    have hn : len ≤ reachBytes := by
      refine Nat.le_trans ?_ hw
      calc len ≤ len + (m - len) := by omega
        _ = (len + (m - len)) * 1 := by omega
        _ ≤ _ := Nat.mul_le_mul_left _ be
    have each : ∀ i, i < len → ∃ p : S123, (∀ j u, ([.string p.f0, .string p.f1, .string p.f2, .bool p.f3, .string p.f4, .string p.f5, .string p.f6, .string p.f7, .bool p.f8] : List Value)[j]? = some u → w.cell? (x.add (i * 9 + j)) = some u) ∧ p.f0.size ≤ reachBytes ∧ p.f1.size ≤ reachBytes ∧ p.f2.size ≤ reachBytes ∧ p.f4.size ≤ reachBytes ∧ p.f5.size ≤ reachBytes ∧ p.f6.size ≤ reachBytes ∧ p.f7.size ≤ reachBytes := by
      intro i hi
      obtain ⟨cs', h1, h2⟩ := hx i (Nat.lt_of_lt_of_le hi hl)
      have hzi := hall _ (List.mem_map.2 ⟨i, List.mem_range.2 hi, rfl⟩)
      rw [ce] at h1
      obtain ⟨_, hlen, hcell⟩ := World.cells?_some h1
      obtain ⟨xs, k', hk, hxy, _, hxl, hfs⟩ := DataW.trod_struct Try.underlying123 h2
      match xs, hxl, cs', hlen with
      | [y0, y1, y2, y3, y4, y5, y6, y7, y8], _, [v0, v1, v2, v3, v4, v5, v6, v7, v8], _ =>
        have g0 := hfs 0 _ rfl
        have g1 := hfs 1 _ rfl
        have g2 := hfs 2 _ rfl
        have g3 := hfs 3 _ rfl
        have g4 := hfs 4 _ rfl
        have g5 := hfs 5 _ rfl
        have g6 := hfs 6 _ rfl
        have g7 := hfs 7 _ rfl
        have g8 := hfs 8 _ rfl
        simp [c9, c4] at g0 g1 g2 g3 g4 g5 g6 g7 g8
        simp only [Prod.mk.injEq] at hxy
        rw [hxy.1] at hzi
        simp only [DataW.weights, Try.underlying123, List.map_cons, List.map_nil, DataW.weightsEach, List.mem_append] at hzi
        obtain ⟨s0, e0, b0⟩ := str9 g0 (fun q hq => hzi q (by simp [hq]))
        obtain ⟨s1, e1, b1⟩ := str9 g1 (fun q hq => hzi q (by simp [hq]))
        obtain ⟨s2, e2, b2⟩ := str9 g2 (fun q hq => hzi q (by simp [hq]))
        obtain ⟨s3, e3⟩ := bool4 g3
        obtain ⟨s4, e4, b4⟩ := str9 g4 (fun q hq => hzi q (by simp [hq]))
        obtain ⟨s5, e5, b5⟩ := str9 g5 (fun q hq => hzi q (by simp [hq]))
        obtain ⟨s6, e6, b6⟩ := str9 g6 (fun q hq => hzi q (by simp [hq]))
        obtain ⟨s7, e7, b7⟩ := str9 g7 (fun q hq => hzi q (by simp [hq]))
        obtain ⟨s8, e8⟩ := bool4 g8
        refine ⟨⟨s0, s1, s2, s3, s4, s5, s6, s7, s8⟩, fun j u hu => ?_, b0, b1, b2, b4, b5, b6, b7⟩
        have hj : j < 9 := by have := (List.getElem?_eq_some_iff.1 hu).1; simpa using this
        have ec := hcell j (by simpa using hj)
        rw [Go.Deep.add_add] at ec
        simp only [List.cons.injEq, and_true] at e0 e1 e2 e3 e4 e5 e6 e7 e8
        subst e0 e1 e2 e3 e4 e5 e6 e7 e8
        rw [ec]
        exact hu
    haveI : Inhabited S123 := ⟨z123⟩
    obtain ⟨Sx, hS⟩ := choose_lt each
    refine ⟨(List.range len).map Sx, by simp, range_C _ (Nat.le_trans hl hm) Sx (fun i hi => ?_), by simpa using Nat.le_trans hl hm, by simpa using hl, by simpa using hn, ?_⟩
    · exact ⟨_, rfl, k123_mk w (Sx i), fun j u hu => (hS i hi).1 j u hu⟩
    · intro s hs
      obtain ⟨i, hi, rfl⟩ := List.mem_map.1 hs
      exact (hS i (List.mem_range.1 hi)).2
end
end Go.Proofs.Ytadafplbgophfaa.PA
end
