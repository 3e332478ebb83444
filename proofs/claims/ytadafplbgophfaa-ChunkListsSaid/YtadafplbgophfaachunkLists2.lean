/- Part 2 of what the row of the law ChunkLists rests on: walks of functions, and plain lemmas. -/
import Derived.Test.YtadafplbgophfaachunkLists1
import Derived.Outline
import Derived.Lib.SliceRun
section
-- Written by a program of this seat out of the translation. Not trusted: Lean checks it.
namespace Go.Proofs.Ytadafplbgophfaa.PA
open Go.RowKit Go.Proofs.YtadafplbgophfaaW.PrintWords Go.Proofs.YtadafplbgophfaaW.PrintLast Go.Proofs.YtadafplbgophfaaW.PrintMore
attribute [local go_sem] max2_int min2_int max_two min_two max_three min_three max_four min_four   -- for this text's walks alone
set_option linter.unusedVariables false
set_option linter.unusedSimpArgs false

/-! ### tripartiteref06_rises: function 94 -/
def tripartiteref06_rises.l0 : Nat → Int → Int → List (S37) → Int → Option (Bool)
 | 0, _, _, _, _ => none
 | k + 1, x0, x1, x2, x7 => if x7 < (x2.length : Int) then (if 0 ≤ x7 then (if ((rd_T37 x2 x7).f0) < 0 then (some false) else (if ((rd_T37 x2 x7).f0) ≥ x0 then (some false) else (if ((rd_T37 x2 x7).f1) < 0 then (some false) else (if ((rd_T37 x2 x7).f1) ≥ x1 then (some false) else (if x7 > 0 then (if 0 ≤ (wrap64 (x7 - 1)) then (if (wrap64 (x7 - 1)) < (x2.length : Int) then (if ((rd_T37 x2 (wrap64 (x7 - 1))).f0) ≥ ((rd_T37 x2 x7).f0) then (some false) else (if ((rd_T37 x2 (wrap64 (x7 - 1))).f1) ≥ ((rd_T37 x2 x7).f1) then (some false) else (tripartiteref06_rises.l0 k x0 x1 x2 (wrap64 (x7 + 1))))) else (none)) else (none)) else (tripartiteref06_rises.l0 k x0 x1 x2 (wrap64 (x7 + 1)))))))) else (none)) else (some true)
def tripartiteref06_rises.f (k : Nat) (a0 : Int) (a1 : Int) (l2 : List (S37)) : Option (Bool) := tripartiteref06_rises.l0 k a0 a1 l2 0
theorem tripartiteref06_rises.mono_l : ∀ k, (∀ y0 y1 y2 y3, LeO (tripartiteref06_rises.l0 k y0 y1 y2 y3) (tripartiteref06_rises.l0 (k + 1) y0 y1 y2 y3))
 | 0 => fun _ _ _ _ r h => by simp [tripartiteref06_rises.l0] at h
 | k + 1 => by
  have ih0 := tripartiteref06_rises.mono_l k
  ·intro y0 y1 y2 y3
   unfold tripartiteref06_rises.l0
   repeat' first
   | (with_reducible exact ih0 _ _ _ _)
   | (with_reducible exact LeO.refl _)
   | (with_reducible exact LeO.none _)
   | (with_reducible refine LeO.ite ?_ ?_)
   | (with_reducible refine LeO.bind ?_ (fun _ => ?_))
   | exact ih0 _ _ _ _
   | exact LeO.none _
   | refine LeO.ite ?_ ?_
   | refine LeO.bind ?_ (fun _ => ?_)
theorem tripartiteref06_rises.mono : ∀ a0 a1 a2 k, LeO (tripartiteref06_rises.f k a0 a1 a2) (tripartiteref06_rises.f (k + 1) a0 a1 a2) := by
 intro a0 a1 a2 k
 have ih0 := tripartiteref06_rises.mono_l k
 unfold tripartiteref06_rises.f
 repeat' first
   | (with_reducible exact ih0 _ _ _ _)
   | (with_reducible exact LeO.refl _)
   | (with_reducible exact LeO.none _)
   | (with_reducible refine LeO.ite ?_ ?_)
   | (with_reducible refine LeO.bind ?_ (fun _ => ?_))
   | exact ih0 _ _ _ _
   | exact LeO.none _
   | refine LeO.ite ?_ ?_
   | refine LeO.bind ?_ (fun _ => ?_)
set_option maxHeartbeats 8000000 in
set_option maxRecDepth 100000 in
theorem tripartiteref06_rises.calls (k : Nat) (a0 : Int) (a1 : Int) (A2 : Option Addr) (c2 : Nat) (l2 : List (S37)) (r : Bool) (w : World) (hr2 : Kd.C k37 w A2 l2.length l2) (hc2 : l2.length ≤ c2) (h : tripartiteref06_rises.f k a0 a1 l2 = some r) :
  Calls Try.prog 94 #[.int .i64 a0, .int .i64 a1, .slice A2 l2.length c2] w fun e w' => e = .returned (.bool r) ∧ Below w.heap.size w w' := by
 have hu37 := Try.underlying37
 have HR2 := Aside0.mk hr2
 have HC2 := Aside0.mk hc2
 clear hr2 hc2
 have HB := Aside0.mk (Below.refl w.heap.size w)
 have H : (tripartiteref06_rises.l0 k a0 a1 l2 0) = some r := h
 clear h
 have H' := Aside0.mk H
 clear H
 go_enter Try.func94, Try.ntmps94
 go_wp2
 repeat (go_quiet (fail); try go_wp2)
 go_loopg [7] k (fun kq v7 w' => ∃ (x7_1 : Int), v7 = .int .i64 x7_1 ∧ Aside0 (tripartiteref06_rises.l0 kq a0 a1 l2 x7_1 = some r) ∧ Aside0 (kq ≤ k) ∧ Aside0 (Below w.heap.size w w'))
 case atStart => exact ⟨(0), (by first | rfl | (simp; done) | (simp [*]; done)), H', ⟨Nat.le_refl _⟩, ⟨by repeat (first | (with_reducible first | exact HB.out | apply below_alloc | apply pw_below_drewN | apply below_drew1) | exact HB.out)⟩⟩
 case round =>
  clear H'
  try clear c2
  try clear p2
  obtain ⟨x7_1, rfl, HA, HK1, HB⟩ := hrel
  cases gk with
  | zero => exact absurd HA.out (by simp [tripartiteref06_rises.l0])
  | succ k1 =>
   have H := HA.out
   clear HA
   simp only [tripartiteref06_rises.l0] at H
   by_cases c4 : x7_1 < (l2.length : Int)
   ·rw [if_pos c4] at H
    have c4b0 : decide (x7_1 < (l2.length : Int)) = true := decide_eq_true c4
    clear c4
    by_cases c5 : 0 ≤ x7_1
    ·rw [if_pos c5] at H
     have c5b0 : decide (0 ≤ x7_1) = true := decide_eq_true c5
     clear c5
     by_cases c6 : ((rd_T37 l2 x7_1).f0) < 0
     ·rw [if_pos c6] at H
      have c6b0 : decide (((rd_T37 l2 x7_1).f0) < 0) = true := decide_eq_true c6
      clear c6
      obtain rfl := Option.some.inj H
      have p101 : 0 ≤ (x7_1 : Int) := of_decide_eq_true (by first | (with_reducible assumption) | assumption)
      have q101 : x7_1 < (l2.length : Int) := of_decide_eq_true (by first | (with_reducible assumption) | assumption)
      obtain ⟨ad101, e101, hx101_0, hx101_1⟩ := at_T37 HR2.out x7_1 p101 q101
      cases e101
      replace hx101_0 := (HB.out.cell (World.block_lt_of_cell? w _ hx101_0)).trans hx101_0
      replace hx101_1 := (HB.out.cell (World.block_lt_of_cell? w _ hx101_1)).trans hx101_1
      replace p101 := eq_true p101
      replace q101 := eq_true q101
      go_wp2_with (first | ((with_reducible refine gate_dst (N := 8) rfl ?_); refine box_event ?hg (N := 8) ?hd (cs := #[.int .i64 0, .int .i64 0]) (t := 37) ?hr ?_; (case hd => rfl); (case hg => rfl); (case hr => first | (go_simp; done) | (go_simp; rfl)); intro gb102 hg w7 hbox hb; have n0_ := Aside0.mk (below_step (by repeat (first | (with_reducible first | exact HB.out | apply below_alloc | apply pw_below_drewN | apply below_drew1) | exact HB.out)) hb); have n1_ := Aside0.mk (hbox); have n2_ := Aside0.mk ((by rw [hg]; exact (below_size (by repeat (first | (with_reducible first | exact HB.out | apply below_alloc | apply pw_below_drewN | apply below_drew1) | exact HB.out))) : w.heap.size ≤ gb102)); have n3_ := Aside0.mk ((by rw [hg]; exact (below_size (by repeat (first | (with_reducible first | exact HB.out | apply below_alloc | apply pw_below_drewN | apply below_drew1) | exact HB.out))) : w.heap.size ≤ gb102)); clear HB; have HB := n0_; have BK102 := n1_; have GW102 := n2_; have GE102 := n3_; clear n0_ n1_ n2_ n3_; clear hb hbox hg; have hcz8_0 : w7.cell? ⟨gb102, 0, none⟩ = some (.int .i64 0) := (blk_cell BK102.out 0).trans rfl; have hcz8_1 : w7.cell? ⟨gb102, 1, none⟩ = some (.int .i64 0) := (blk_cell BK102.out 1).trans rfl; have hfz8_0 := blk_frozen BK102.out 0; have hfz8_1 := blk_frozen BK102.out 1))
      repeat (go_quiet (fail); try go_wp2_with fail)
      go_ret
      exact ⟨by first | rfl | (simp [errW_none, errW_some] <;> rfl) | (simp [*, errW_none, errW_some] <;> rfl), by repeat (first | (with_reducible first | exact HB.out | apply below_alloc | apply pw_below_drewN | apply below_drew1 | refine below_set ?_ GE102.out) | exact HB.out)⟩
     ·rw [if_neg c6] at H
      have c6b0 : decide (((rd_T37 l2 x7_1).f0) < 0) = false := decide_eq_false c6
      clear c6
      by_cases c9 : ((rd_T37 l2 x7_1).f0) ≥ a0
      ·rw [if_pos c9] at H
       have c9b0 : decide (a0 ≤ ((rd_T37 l2 x7_1).f0)) = true := decide_eq_true c9
       clear c9
       obtain rfl := Option.some.inj H
       have p101 : 0 ≤ (x7_1 : Int) := of_decide_eq_true (by first | (with_reducible assumption) | assumption)
       have q101 : x7_1 < (l2.length : Int) := of_decide_eq_true (by first | (with_reducible assumption) | assumption)
       obtain ⟨ad101, e101, hx101_0, hx101_1⟩ := at_T37 HR2.out x7_1 p101 q101
       cases e101
       replace hx101_0 := (HB.out.cell (World.block_lt_of_cell? w _ hx101_0)).trans hx101_0
       replace hx101_1 := (HB.out.cell (World.block_lt_of_cell? w _ hx101_1)).trans hx101_1
       replace p101 := eq_true p101
       replace q101 := eq_true q101
       go_wp2_with (first | ((with_reducible refine gate_dst (N := 8) rfl ?_); refine box_event ?hg (N := 8) ?hd (cs := #[.int .i64 0, .int .i64 0]) (t := 37) ?hr ?_; (case hd => rfl); (case hg => rfl); (case hr => first | (go_simp; done) | (go_simp; rfl)); intro gb102 hg w10 hbox hb; have n0_ := Aside0.mk (below_step (by repeat (first | (with_reducible first | exact HB.out | apply below_alloc | apply pw_below_drewN | apply below_drew1) | exact HB.out)) hb); have n1_ := Aside0.mk (hbox); have n2_ := Aside0.mk ((by rw [hg]; exact (below_size (by repeat (first | (with_reducible first | exact HB.out | apply below_alloc | apply pw_below_drewN | apply below_drew1) | exact HB.out))) : w.heap.size ≤ gb102)); have n3_ := Aside0.mk ((by rw [hg]; exact (below_size (by repeat (first | (with_reducible first | exact HB.out | apply below_alloc | apply pw_below_drewN | apply below_drew1) | exact HB.out))) : w.heap.size ≤ gb102)); clear HB; have HB := n0_; have BK102 := n1_; have GW102 := n2_; have GE102 := n3_; clear n0_ n1_ n2_ n3_; clear hb hbox hg; have hcz11_0 : w10.cell? ⟨gb102, 0, none⟩ = some (.int .i64 0) := (blk_cell BK102.out 0).trans rfl; have hcz11_1 : w10.cell? ⟨gb102, 1, none⟩ = some (.int .i64 0) := (blk_cell BK102.out 1).trans rfl; have hfz11_0 := blk_frozen BK102.out 0; have hfz11_1 := blk_frozen BK102.out 1))
       repeat (go_quiet (fail); try go_wp2_with fail)
       go_ret
       exact ⟨by first | rfl | (simp [errW_none, errW_some] <;> rfl) | (simp [*, errW_none, errW_some] <;> rfl), by repeat (first | (with_reducible first | exact HB.out | apply below_alloc | apply pw_below_drewN | apply below_drew1 | refine below_set ?_ GE102.out) | exact HB.out)⟩
      ·rw [if_neg c9] at H
       have c9b0 : decide (a0 ≤ ((rd_T37 l2 x7_1).f0)) = false := decide_eq_false c9
       clear c9
       by_cases c12 : ((rd_T37 l2 x7_1).f1) < 0
       ·rw [if_pos c12] at H
        have c12b0 : decide (((rd_T37 l2 x7_1).f1) < 0) = true := decide_eq_true c12
        clear c12
        obtain rfl := Option.some.inj H
        have p101 : 0 ≤ (x7_1 : Int) := of_decide_eq_true (by first | (with_reducible assumption) | assumption)
        have q101 : x7_1 < (l2.length : Int) := of_decide_eq_true (by first | (with_reducible assumption) | assumption)
        obtain ⟨ad101, e101, hx101_0, hx101_1⟩ := at_T37 HR2.out x7_1 p101 q101
        cases e101
        replace hx101_0 := (HB.out.cell (World.block_lt_of_cell? w _ hx101_0)).trans hx101_0
        replace hx101_1 := (HB.out.cell (World.block_lt_of_cell? w _ hx101_1)).trans hx101_1
        replace p101 := eq_true p101
        replace q101 := eq_true q101
        go_wp2_with (first | ((with_reducible refine gate_dst (N := 8) rfl ?_); refine box_event ?hg (N := 8) ?hd (cs := #[.int .i64 0, .int .i64 0]) (t := 37) ?hr ?_; (case hd => rfl); (case hg => rfl); (case hr => first | (go_simp; done) | (go_simp; rfl)); intro gb102 hg w13 hbox hb; have n0_ := Aside0.mk (below_step (by repeat (first | (with_reducible first | exact HB.out | apply below_alloc | apply pw_below_drewN | apply below_drew1) | exact HB.out)) hb); have n1_ := Aside0.mk (hbox); have n2_ := Aside0.mk ((by rw [hg]; exact (below_size (by repeat (first | (with_reducible first | exact HB.out | apply below_alloc | apply pw_below_drewN | apply below_drew1) | exact HB.out))) : w.heap.size ≤ gb102)); have n3_ := Aside0.mk ((by rw [hg]; exact (below_size (by repeat (first | (with_reducible first | exact HB.out | apply below_alloc | apply pw_below_drewN | apply below_drew1) | exact HB.out))) : w.heap.size ≤ gb102)); clear HB; have HB := n0_; have BK102 := n1_; have GW102 := n2_; have GE102 := n3_; clear n0_ n1_ n2_ n3_; clear hb hbox hg; have hcz14_0 : w13.cell? ⟨gb102, 0, none⟩ = some (.int .i64 0) := (blk_cell BK102.out 0).trans rfl; have hcz14_1 : w13.cell? ⟨gb102, 1, none⟩ = some (.int .i64 0) := (blk_cell BK102.out 1).trans rfl; have hfz14_0 := blk_frozen BK102.out 0; have hfz14_1 := blk_frozen BK102.out 1))
        repeat (go_quiet (fail); try go_wp2_with fail)
        go_ret
        exact ⟨by first | rfl | (simp [errW_none, errW_some] <;> rfl) | (simp [*, errW_none, errW_some] <;> rfl), by repeat (first | (with_reducible first | exact HB.out | apply below_alloc | apply pw_below_drewN | apply below_drew1 | refine below_set ?_ GE102.out) | exact HB.out)⟩
       ·rw [if_neg c12] at H
        have c12b0 : decide (((rd_T37 l2 x7_1).f1) < 0) = false := decide_eq_false c12
        clear c12
        by_cases c15 : ((rd_T37 l2 x7_1).f1) ≥ a1
        ·rw [if_pos c15] at H
         have c15b0 : decide (a1 ≤ ((rd_T37 l2 x7_1).f1)) = true := decide_eq_true c15
         clear c15
         obtain rfl := Option.some.inj H
         have p101 : 0 ≤ (x7_1 : Int) := of_decide_eq_true (by first | (with_reducible assumption) | assumption)
         have q101 : x7_1 < (l2.length : Int) := of_decide_eq_true (by first | (with_reducible assumption) | assumption)
         obtain ⟨ad101, e101, hx101_0, hx101_1⟩ := at_T37 HR2.out x7_1 p101 q101
         cases e101
         replace hx101_0 := (HB.out.cell (World.block_lt_of_cell? w _ hx101_0)).trans hx101_0
         replace hx101_1 := (HB.out.cell (World.block_lt_of_cell? w _ hx101_1)).trans hx101_1
         replace p101 := eq_true p101
         replace q101 := eq_true q101
         go_wp2_with (first | ((with_reducible refine gate_dst (N := 8) rfl ?_); refine box_event ?hg (N := 8) ?hd (cs := #[.int .i64 0, .int .i64 0]) (t := 37) ?hr ?_; (case hd => rfl); (case hg => rfl); (case hr => first | (go_simp; done) | (go_simp; rfl)); intro gb102 hg w16 hbox hb; have n0_ := Aside0.mk (below_step (by repeat (first | (with_reducible first | exact HB.out | apply below_alloc | apply pw_below_drewN | apply below_drew1) | exact HB.out)) hb); have n1_ := Aside0.mk (hbox); have n2_ := Aside0.mk ((by rw [hg]; exact (below_size (by repeat (first | (with_reducible first | exact HB.out | apply below_alloc | apply pw_below_drewN | apply below_drew1) | exact HB.out))) : w.heap.size ≤ gb102)); have n3_ := Aside0.mk ((by rw [hg]; exact (below_size (by repeat (first | (with_reducible first | exact HB.out | apply below_alloc | apply pw_below_drewN | apply below_drew1) | exact HB.out))) : w.heap.size ≤ gb102)); clear HB; have HB := n0_; have BK102 := n1_; have GW102 := n2_; have GE102 := n3_; clear n0_ n1_ n2_ n3_; clear hb hbox hg; have hcz17_0 : w16.cell? ⟨gb102, 0, none⟩ = some (.int .i64 0) := (blk_cell BK102.out 0).trans rfl; have hcz17_1 : w16.cell? ⟨gb102, 1, none⟩ = some (.int .i64 0) := (blk_cell BK102.out 1).trans rfl; have hfz17_0 := blk_frozen BK102.out 0; have hfz17_1 := blk_frozen BK102.out 1))
         repeat (go_quiet (fail); try go_wp2_with fail)
         go_ret
         exact ⟨by first | rfl | (simp [errW_none, errW_some] <;> rfl) | (simp [*, errW_none, errW_some] <;> rfl), by repeat (first | (with_reducible first | exact HB.out | apply below_alloc | apply pw_below_drewN | apply below_drew1 | refine below_set ?_ GE102.out) | exact HB.out)⟩
        ·rw [if_neg c15] at H
         have c15b0 : decide (a1 ≤ ((rd_T37 l2 x7_1).f1)) = false := decide_eq_false c15
         clear c15
         by_cases c18 : x7_1 > 0
         ·rw [if_pos c18] at H
          have c18b0 : decide (0 < x7_1) = true := decide_eq_true c18
          clear c18
          obtain ⟨ji19, hji19⟩ : ∃ j_ : Int, (wrap64 (x7_1 - 1)) = j_ := ⟨_, rfl⟩
          replace H : (if 0 ≤ (ji19) then (if (ji19) < (l2.length : Int) then (if ((rd_T37 l2 (ji19)).f0) ≥ ((rd_T37 l2 x7_1).f0) then (some false) else (if ((rd_T37 l2 (ji19)).f1) ≥ ((rd_T37 l2 x7_1).f1) then (some false) else (tripartiteref06_rises.l0 k1 a0 a1 l2 (wrap64 (x7_1 + 1))))) else (none)) else (none)) = some r := by first | (rw [hji19] at H; exact H) | (simp only [hji19] at H ⊢; exact H)
          have hji19w : (IntKind.i64.wrap (x7_1 - 1)) = ji19 := (i64_w _).trans hji19
          by_cases c20 : 0 ≤ (ji19)
          ·rw [if_pos c20] at H
           have c20b0 : decide (0 ≤ (ji19)) = true := decide_eq_true c20
           clear c20
           by_cases c21 : (ji19) < (l2.length : Int)
           ·rw [if_pos c21] at H
            have c21b0 : decide ((ji19) < (l2.length : Int)) = true := decide_eq_true c21
            clear c21
            by_cases c22 : ((rd_T37 l2 (ji19)).f0) ≥ ((rd_T37 l2 x7_1).f0)
            ·rw [if_pos c22] at H
             have c22b0 : decide (((rd_T37 l2 x7_1).f0) ≤ ((rd_T37 l2 (ji19)).f0)) = true := decide_eq_true c22
             clear c22
             obtain rfl := Option.some.inj H
             have p101 : 0 ≤ (x7_1 : Int) := of_decide_eq_true (by first | (with_reducible assumption) | assumption)
             have q101 : x7_1 < (l2.length : Int) := of_decide_eq_true (by first | (with_reducible assumption) | assumption)
             obtain ⟨ad101, e101, hx101_0, hx101_1⟩ := at_T37 HR2.out x7_1 p101 q101
             cases e101
             replace hx101_0 := (HB.out.cell (World.block_lt_of_cell? w _ hx101_0)).trans hx101_0
             replace hx101_1 := (HB.out.cell (World.block_lt_of_cell? w _ hx101_1)).trans hx101_1
             replace p101 := eq_true p101
             replace q101 := eq_true q101
             go_wp2_with (first | ((with_reducible refine gate_dst (N := 8) rfl ?_); refine box_event ?hg (N := 8) ?hd (cs := #[.int .i64 0, .int .i64 0]) (t := 37) ?hr ?_; (case hd => rfl); (case hg => rfl); (case hr => first | (go_simp; done) | (go_simp; rfl)); intro gb102 hg w23 hbox hb; have n0_ := Aside0.mk (below_step (by repeat (first | (with_reducible first | exact HB.out | apply below_alloc | apply pw_below_drewN | apply below_drew1) | exact HB.out)) hb); have n1_ := Aside0.mk (hbox); have n2_ := Aside0.mk ((by rw [hg]; exact (below_size (by repeat (first | (with_reducible first | exact HB.out | apply below_alloc | apply pw_below_drewN | apply below_drew1) | exact HB.out))) : w.heap.size ≤ gb102)); have n3_ := Aside0.mk ((by rw [hg]; exact (below_size (by repeat (first | (with_reducible first | exact HB.out | apply below_alloc | apply pw_below_drewN | apply below_drew1) | exact HB.out))) : w.heap.size ≤ gb102)); clear HB; have HB := n0_; have BK102 := n1_; have GW102 := n2_; have GE102 := n3_; clear n0_ n1_ n2_ n3_; clear hb hbox hg; have hcz24_0 : w23.cell? ⟨gb102, 0, none⟩ = some (.int .i64 0) := (blk_cell BK102.out 0).trans rfl; have hcz24_1 : w23.cell? ⟨gb102, 1, none⟩ = some (.int .i64 0) := (blk_cell BK102.out 1).trans rfl; have hfz24_0 := blk_frozen BK102.out 0; have hfz24_1 := blk_frozen BK102.out 1; have p103 : 0 ≤ ((ji19) : Int) := of_decide_eq_true (by first | (with_reducible assumption) | assumption); have q103 : (ji19) < (l2.length : Int) := of_decide_eq_true (by first | (with_reducible assumption) | assumption); obtain ⟨ad103, e103, hx103_0, hx103_1⟩ := at_T37 HR2.out (ji19) p103 q103; obtain rfl : ad101 = ad103 := (by injection e103); have hn103_0 : ad101.block ≠ gb102 := Nat.ne_of_lt (Nat.lt_of_lt_of_le (by have := World.block_lt_of_cell? _ _ hx103_0; first | rwa [add_block] at this | exact this) GW102.out); have hn103_1 : ad101.block ≠ gb102 := Nat.ne_of_lt (Nat.lt_of_lt_of_le (by have := World.block_lt_of_cell? _ _ hx103_0; first | rwa [add_block] at this | exact this) GW102.out); replace hx103_0 := (HB.out.cell (World.block_lt_of_cell? w _ hx103_0)).trans hx103_0; replace hx103_1 := (HB.out.cell (World.block_lt_of_cell? w _ hx103_1)).trans hx103_1; replace hx103_0 := (cell_far (p := ⟨gb102, 0, none⟩) (by first | (rw [add_block]; exact hn103_0) | (show (Addr.add _ _).block ≠ _; rw [add_block]; exact hn103_0) | exact hn103_0) (.int .i64 ((rd_T37 l2 x7_1).f0))).trans hx103_0; replace hx103_1 := (cell_far (p := ⟨gb102, 0, none⟩) (by first | (rw [add_block]; exact hn103_0) | (show (Addr.add _ _).block ≠ _; rw [add_block]; exact hn103_0) | exact hn103_0) (.int .i64 ((rd_T37 l2 x7_1).f0))).trans hx103_1; replace hx103_0 := (cell_far (p := ⟨gb102, 1, none⟩) (by first | (rw [add_block]; exact hn103_1) | (show (Addr.add _ _).block ≠ _; rw [add_block]; exact hn103_1) | exact hn103_1) (.int .i64 ((rd_T37 l2 x7_1).f1))).trans hx103_0; replace hx103_1 := (cell_far (p := ⟨gb102, 1, none⟩) (by first | (rw [add_block]; exact hn103_1) | (show (Addr.add _ _).block ≠ _; rw [add_block]; exact hn103_1) | exact hn103_1) (.int .i64 ((rd_T37 l2 x7_1).f1))).trans hx103_1; (try have hy103_0 := fun (n_ : Nat) => (show ((((w23.drewN n_).setCell ⟨gb102, 0, none⟩ (.int .i64 ((rd_T37 l2 x7_1).f0))).setCell ⟨gb102, 1, none⟩ (.int .i64 ((rd_T37 l2 x7_1).f1)))).cell? _ = some _ from hx103_0)); (try have hy103_1 := fun (n_ : Nat) => (show ((((w23.drewN n_).setCell ⟨gb102, 0, none⟩ (.int .i64 ((rd_T37 l2 x7_1).f0))).setCell ⟨gb102, 1, none⟩ (.int .i64 ((rd_T37 l2 x7_1).f1)))).cell? _ = some _ from hx103_1)); clear hn103_0; clear hn103_1; replace p103 := eq_true p103; replace q103 := eq_true q103))
             repeat (go_quiet (fail); try go_wp2_with fail)
             go_ret
             exact ⟨by first | rfl | (simp [errW_none, errW_some] <;> rfl) | (simp only [← hji19]; first | rfl | (simp [errW_none, errW_some] <;> rfl)) | (simp [*, errW_none, errW_some] <;> rfl), by repeat (first | (with_reducible first | exact HB.out | apply below_alloc | apply pw_below_drewN | apply below_drew1 | refine below_set ?_ GE102.out) | exact HB.out)⟩
            ·rw [if_neg c22] at H
             have c22b0 : decide (((rd_T37 l2 x7_1).f0) ≤ ((rd_T37 l2 (ji19)).f0)) = false := decide_eq_false c22
             clear c22
             by_cases c25 : ((rd_T37 l2 (ji19)).f1) ≥ ((rd_T37 l2 x7_1).f1)
             ·rw [if_pos c25] at H
              have c25b0 : decide (((rd_T37 l2 x7_1).f1) ≤ ((rd_T37 l2 (ji19)).f1)) = true := decide_eq_true c25
              clear c25
              obtain rfl := Option.some.inj H
              have p101 : 0 ≤ (x7_1 : Int) := of_decide_eq_true (by first | (with_reducible assumption) | assumption)
              have q101 : x7_1 < (l2.length : Int) := of_decide_eq_true (by first | (with_reducible assumption) | assumption)
              obtain ⟨ad101, e101, hx101_0, hx101_1⟩ := at_T37 HR2.out x7_1 p101 q101
              cases e101
              replace hx101_0 := (HB.out.cell (World.block_lt_of_cell? w _ hx101_0)).trans hx101_0
              replace hx101_1 := (HB.out.cell (World.block_lt_of_cell? w _ hx101_1)).trans hx101_1
              replace p101 := eq_true p101
              replace q101 := eq_true q101
              go_wp2_with (first | ((with_reducible refine gate_dst (N := 8) rfl ?_); refine box_event ?hg (N := 8) ?hd (cs := #[.int .i64 0, .int .i64 0]) (t := 37) ?hr ?_; (case hd => rfl); (case hg => rfl); (case hr => first | (go_simp; done) | (go_simp; rfl)); intro gb102 hg w26 hbox hb; have n0_ := Aside0.mk (below_step (by repeat (first | (with_reducible first | exact HB.out | apply below_alloc | apply pw_below_drewN | apply below_drew1) | exact HB.out)) hb); have n1_ := Aside0.mk (hbox); have n2_ := Aside0.mk ((by rw [hg]; exact (below_size (by repeat (first | (with_reducible first | exact HB.out | apply below_alloc | apply pw_below_drewN | apply below_drew1) | exact HB.out))) : w.heap.size ≤ gb102)); have n3_ := Aside0.mk ((by rw [hg]; exact (below_size (by repeat (first | (with_reducible first | exact HB.out | apply below_alloc | apply pw_below_drewN | apply below_drew1) | exact HB.out))) : w.heap.size ≤ gb102)); clear HB; have HB := n0_; have BK102 := n1_; have GW102 := n2_; have GE102 := n3_; clear n0_ n1_ n2_ n3_; clear hb hbox hg; have hcz27_0 : w26.cell? ⟨gb102, 0, none⟩ = some (.int .i64 0) := (blk_cell BK102.out 0).trans rfl; have hcz27_1 : w26.cell? ⟨gb102, 1, none⟩ = some (.int .i64 0) := (blk_cell BK102.out 1).trans rfl; have hfz27_0 := blk_frozen BK102.out 0; have hfz27_1 := blk_frozen BK102.out 1; have p103 : 0 ≤ ((ji19) : Int) := of_decide_eq_true (by first | (with_reducible assumption) | assumption); have q103 : (ji19) < (l2.length : Int) := of_decide_eq_true (by first | (with_reducible assumption) | assumption); obtain ⟨ad103, e103, hx103_0, hx103_1⟩ := at_T37 HR2.out (ji19) p103 q103; obtain rfl : ad101 = ad103 := (by injection e103); have hn103_0 : ad101.block ≠ gb102 := Nat.ne_of_lt (Nat.lt_of_lt_of_le (by have := World.block_lt_of_cell? _ _ hx103_0; first | rwa [add_block] at this | exact this) GW102.out); have hn103_1 : ad101.block ≠ gb102 := Nat.ne_of_lt (Nat.lt_of_lt_of_le (by have := World.block_lt_of_cell? _ _ hx103_0; first | rwa [add_block] at this | exact this) GW102.out); replace hx103_0 := (HB.out.cell (World.block_lt_of_cell? w _ hx103_0)).trans hx103_0; replace hx103_1 := (HB.out.cell (World.block_lt_of_cell? w _ hx103_1)).trans hx103_1; replace hx103_0 := (cell_far (p := ⟨gb102, 0, none⟩) (by first | (rw [add_block]; exact hn103_0) | (show (Addr.add _ _).block ≠ _; rw [add_block]; exact hn103_0) | exact hn103_0) (.int .i64 ((rd_T37 l2 x7_1).f0))).trans hx103_0; replace hx103_1 := (cell_far (p := ⟨gb102, 0, none⟩) (by first | (rw [add_block]; exact hn103_0) | (show (Addr.add _ _).block ≠ _; rw [add_block]; exact hn103_0) | exact hn103_0) (.int .i64 ((rd_T37 l2 x7_1).f0))).trans hx103_1; replace hx103_0 := (cell_far (p := ⟨gb102, 1, none⟩) (by first | (rw [add_block]; exact hn103_1) | (show (Addr.add _ _).block ≠ _; rw [add_block]; exact hn103_1) | exact hn103_1) (.int .i64 ((rd_T37 l2 x7_1).f1))).trans hx103_0; replace hx103_1 := (cell_far (p := ⟨gb102, 1, none⟩) (by first | (rw [add_block]; exact hn103_1) | (show (Addr.add _ _).block ≠ _; rw [add_block]; exact hn103_1) | exact hn103_1) (.int .i64 ((rd_T37 l2 x7_1).f1))).trans hx103_1; (try have hy103_0 := fun (n_ : Nat) => (show ((((w26.drewN n_).setCell ⟨gb102, 0, none⟩ (.int .i64 ((rd_T37 l2 x7_1).f0))).setCell ⟨gb102, 1, none⟩ (.int .i64 ((rd_T37 l2 x7_1).f1)))).cell? _ = some _ from hx103_0)); (try have hy103_1 := fun (n_ : Nat) => (show ((((w26.drewN n_).setCell ⟨gb102, 0, none⟩ (.int .i64 ((rd_T37 l2 x7_1).f0))).setCell ⟨gb102, 1, none⟩ (.int .i64 ((rd_T37 l2 x7_1).f1)))).cell? _ = some _ from hx103_1)); clear hn103_0; clear hn103_1; replace p103 := eq_true p103; replace q103 := eq_true q103; have p104 : 0 ≤ ((ji19) : Int) := of_decide_eq_true (by first | (with_reducible assumption) | assumption); have q104 : (ji19) < (l2.length : Int) := of_decide_eq_true (by first | (with_reducible assumption) | assumption); obtain ⟨ad104, e104, hx104_0, hx104_1⟩ := at_T37 HR2.out (ji19) p104 q104; obtain rfl : ad101 = ad104 := (by injection e104); have hn104_0 : ad101.block ≠ gb102 := Nat.ne_of_lt (Nat.lt_of_lt_of_le (by have := World.block_lt_of_cell? _ _ hx104_0; first | rwa [add_block] at this | exact this) GW102.out); have hn104_1 : ad101.block ≠ gb102 := Nat.ne_of_lt (Nat.lt_of_lt_of_le (by have := World.block_lt_of_cell? _ _ hx104_0; first | rwa [add_block] at this | exact this) GW102.out); replace hx104_0 := (HB.out.cell (World.block_lt_of_cell? w _ hx104_0)).trans hx104_0; replace hx104_1 := (HB.out.cell (World.block_lt_of_cell? w _ hx104_1)).trans hx104_1; replace hx104_0 := (cell_far (p := ⟨gb102, 0, none⟩) (by first | (rw [add_block]; exact hn104_0) | (show (Addr.add _ _).block ≠ _; rw [add_block]; exact hn104_0) | exact hn104_0) (.int .i64 ((rd_T37 l2 x7_1).f0))).trans hx104_0; replace hx104_1 := (cell_far (p := ⟨gb102, 0, none⟩) (by first | (rw [add_block]; exact hn104_0) | (show (Addr.add _ _).block ≠ _; rw [add_block]; exact hn104_0) | exact hn104_0) (.int .i64 ((rd_T37 l2 x7_1).f0))).trans hx104_1; replace hx104_0 := (cell_far (p := ⟨gb102, 1, none⟩) (by first | (rw [add_block]; exact hn104_1) | (show (Addr.add _ _).block ≠ _; rw [add_block]; exact hn104_1) | exact hn104_1) (.int .i64 ((rd_T37 l2 x7_1).f1))).trans hx104_0; replace hx104_1 := (cell_far (p := ⟨gb102, 1, none⟩) (by first | (rw [add_block]; exact hn104_1) | (show (Addr.add _ _).block ≠ _; rw [add_block]; exact hn104_1) | exact hn104_1) (.int .i64 ((rd_T37 l2 x7_1).f1))).trans hx104_1; (try have hy104_0 := fun (n_ : Nat) => (show ((((w26.drewN n_).setCell ⟨gb102, 0, none⟩ (.int .i64 ((rd_T37 l2 x7_1).f0))).setCell ⟨gb102, 1, none⟩ (.int .i64 ((rd_T37 l2 x7_1).f1)))).cell? _ = some _ from hx104_0)); (try have hy104_1 := fun (n_ : Nat) => (show ((((w26.drewN n_).setCell ⟨gb102, 0, none⟩ (.int .i64 ((rd_T37 l2 x7_1).f0))).setCell ⟨gb102, 1, none⟩ (.int .i64 ((rd_T37 l2 x7_1).f1)))).cell? _ = some _ from hx104_1)); clear hn104_0; clear hn104_1; replace p104 := eq_true p104; replace q104 := eq_true q104))
              repeat (go_quiet (fail); try go_wp2_with fail)
              go_ret
              exact ⟨by first | rfl | (simp [errW_none, errW_some] <;> rfl) | (simp only [← hji19]; first | rfl | (simp [errW_none, errW_some] <;> rfl)) | (simp [*, errW_none, errW_some] <;> rfl), by repeat (first | (with_reducible first | exact HB.out | apply below_alloc | apply pw_below_drewN | apply below_drew1 | refine below_set ?_ GE102.out) | exact HB.out)⟩
             ·rw [if_neg c25] at H
              have c25b0 : decide (((rd_T37 l2 x7_1).f1) ≤ ((rd_T37 l2 (ji19)).f1)) = false := decide_eq_false c25
              clear c25
              have H' := Aside0.mk H
              clear H
              have p101 : 0 ≤ (x7_1 : Int) := of_decide_eq_true (by first | (with_reducible assumption) | assumption)
              have q101 : x7_1 < (l2.length : Int) := of_decide_eq_true (by first | (with_reducible assumption) | assumption)
              obtain ⟨ad101, e101, hx101_0, hx101_1⟩ := at_T37 HR2.out x7_1 p101 q101
              cases e101
              replace hx101_0 := (HB.out.cell (World.block_lt_of_cell? w _ hx101_0)).trans hx101_0
              replace hx101_1 := (HB.out.cell (World.block_lt_of_cell? w _ hx101_1)).trans hx101_1
              replace p101 := eq_true p101
              replace q101 := eq_true q101
              go_wp2_with (first | ((with_reducible refine gate_dst (N := 8) rfl ?_); refine box_event ?hg (N := 8) ?hd (cs := #[.int .i64 0, .int .i64 0]) (t := 37) ?hr ?_; (case hd => rfl); (case hg => rfl); (case hr => first | (go_simp; done) | (go_simp; rfl)); intro gb102 hg w28 hbox hb; have n0_ := Aside0.mk (below_step (by repeat (first | (with_reducible first | exact HB.out | apply below_alloc | apply pw_below_drewN | apply below_drew1) | exact HB.out)) hb); have n1_ := Aside0.mk (hbox); have n2_ := Aside0.mk ((by rw [hg]; exact (below_size (by repeat (first | (with_reducible first | exact HB.out | apply below_alloc | apply pw_below_drewN | apply below_drew1) | exact HB.out))) : w.heap.size ≤ gb102)); have n3_ := Aside0.mk ((by rw [hg]; exact (below_size (by repeat (first | (with_reducible first | exact HB.out | apply below_alloc | apply pw_below_drewN | apply below_drew1) | exact HB.out))) : w.heap.size ≤ gb102)); clear HB; have HB := n0_; have BK102 := n1_; have GW102 := n2_; have GE102 := n3_; clear n0_ n1_ n2_ n3_; clear hb hbox hg; have hcz29_0 : w28.cell? ⟨gb102, 0, none⟩ = some (.int .i64 0) := (blk_cell BK102.out 0).trans rfl; have hcz29_1 : w28.cell? ⟨gb102, 1, none⟩ = some (.int .i64 0) := (blk_cell BK102.out 1).trans rfl; have hfz29_0 := blk_frozen BK102.out 0; have hfz29_1 := blk_frozen BK102.out 1; have p103 : 0 ≤ ((ji19) : Int) := of_decide_eq_true (by first | (with_reducible assumption) | assumption); have q103 : (ji19) < (l2.length : Int) := of_decide_eq_true (by first | (with_reducible assumption) | assumption); obtain ⟨ad103, e103, hx103_0, hx103_1⟩ := at_T37 HR2.out (ji19) p103 q103; obtain rfl : ad101 = ad103 := (by injection e103); have hn103_0 : ad101.block ≠ gb102 := Nat.ne_of_lt (Nat.lt_of_lt_of_le (by have := World.block_lt_of_cell? _ _ hx103_0; first | rwa [add_block] at this | exact this) GW102.out); have hn103_1 : ad101.block ≠ gb102 := Nat.ne_of_lt (Nat.lt_of_lt_of_le (by have := World.block_lt_of_cell? _ _ hx103_0; first | rwa [add_block] at this | exact this) GW102.out); replace hx103_0 := (HB.out.cell (World.block_lt_of_cell? w _ hx103_0)).trans hx103_0; replace hx103_1 := (HB.out.cell (World.block_lt_of_cell? w _ hx103_1)).trans hx103_1; replace hx103_0 := (cell_far (p := ⟨gb102, 0, none⟩) (by first | (rw [add_block]; exact hn103_0) | (show (Addr.add _ _).block ≠ _; rw [add_block]; exact hn103_0) | exact hn103_0) (.int .i64 ((rd_T37 l2 x7_1).f0))).trans hx103_0; replace hx103_1 := (cell_far (p := ⟨gb102, 0, none⟩) (by first | (rw [add_block]; exact hn103_0) | (show (Addr.add _ _).block ≠ _; rw [add_block]; exact hn103_0) | exact hn103_0) (.int .i64 ((rd_T37 l2 x7_1).f0))).trans hx103_1; replace hx103_0 := (cell_far (p := ⟨gb102, 1, none⟩) (by first | (rw [add_block]; exact hn103_1) | (show (Addr.add _ _).block ≠ _; rw [add_block]; exact hn103_1) | exact hn103_1) (.int .i64 ((rd_T37 l2 x7_1).f1))).trans hx103_0; replace hx103_1 := (cell_far (p := ⟨gb102, 1, none⟩) (by first | (rw [add_block]; exact hn103_1) | (show (Addr.add _ _).block ≠ _; rw [add_block]; exact hn103_1) | exact hn103_1) (.int .i64 ((rd_T37 l2 x7_1).f1))).trans hx103_1; (try have hy103_0 := fun (n_ : Nat) => (show ((((w28.drewN n_).setCell ⟨gb102, 0, none⟩ (.int .i64 ((rd_T37 l2 x7_1).f0))).setCell ⟨gb102, 1, none⟩ (.int .i64 ((rd_T37 l2 x7_1).f1)))).cell? _ = some _ from hx103_0)); (try have hy103_1 := fun (n_ : Nat) => (show ((((w28.drewN n_).setCell ⟨gb102, 0, none⟩ (.int .i64 ((rd_T37 l2 x7_1).f0))).setCell ⟨gb102, 1, none⟩ (.int .i64 ((rd_T37 l2 x7_1).f1)))).cell? _ = some _ from hx103_1)); clear hn103_0; clear hn103_1; replace p103 := eq_true p103; replace q103 := eq_true q103; have p104 : 0 ≤ ((ji19) : Int) := of_decide_eq_true (by first | (with_reducible assumption) | assumption); have q104 : (ji19) < (l2.length : Int) := of_decide_eq_true (by first | (with_reducible assumption) | assumption); obtain ⟨ad104, e104, hx104_0, hx104_1⟩ := at_T37 HR2.out (ji19) p104 q104; obtain rfl : ad101 = ad104 := (by injection e104); have hn104_0 : ad101.block ≠ gb102 := Nat.ne_of_lt (Nat.lt_of_lt_of_le (by have := World.block_lt_of_cell? _ _ hx104_0; first | rwa [add_block] at this | exact this) GW102.out); have hn104_1 : ad101.block ≠ gb102 := Nat.ne_of_lt (Nat.lt_of_lt_of_le (by have := World.block_lt_of_cell? _ _ hx104_0; first | rwa [add_block] at this | exact this) GW102.out); replace hx104_0 := (HB.out.cell (World.block_lt_of_cell? w _ hx104_0)).trans hx104_0; replace hx104_1 := (HB.out.cell (World.block_lt_of_cell? w _ hx104_1)).trans hx104_1; replace hx104_0 := (cell_far (p := ⟨gb102, 0, none⟩) (by first | (rw [add_block]; exact hn104_0) | (show (Addr.add _ _).block ≠ _; rw [add_block]; exact hn104_0) | exact hn104_0) (.int .i64 ((rd_T37 l2 x7_1).f0))).trans hx104_0; replace hx104_1 := (cell_far (p := ⟨gb102, 0, none⟩) (by first | (rw [add_block]; exact hn104_0) | (show (Addr.add _ _).block ≠ _; rw [add_block]; exact hn104_0) | exact hn104_0) (.int .i64 ((rd_T37 l2 x7_1).f0))).trans hx104_1; replace hx104_0 := (cell_far (p := ⟨gb102, 1, none⟩) (by first | (rw [add_block]; exact hn104_1) | (show (Addr.add _ _).block ≠ _; rw [add_block]; exact hn104_1) | exact hn104_1) (.int .i64 ((rd_T37 l2 x7_1).f1))).trans hx104_0; replace hx104_1 := (cell_far (p := ⟨gb102, 1, none⟩) (by first | (rw [add_block]; exact hn104_1) | (show (Addr.add _ _).block ≠ _; rw [add_block]; exact hn104_1) | exact hn104_1) (.int .i64 ((rd_T37 l2 x7_1).f1))).trans hx104_1; (try have hy104_0 := fun (n_ : Nat) => (show ((((w28.drewN n_).setCell ⟨gb102, 0, none⟩ (.int .i64 ((rd_T37 l2 x7_1).f0))).setCell ⟨gb102, 1, none⟩ (.int .i64 ((rd_T37 l2 x7_1).f1)))).cell? _ = some _ from hx104_0)); (try have hy104_1 := fun (n_ : Nat) => (show ((((w28.drewN n_).setCell ⟨gb102, 0, none⟩ (.int .i64 ((rd_T37 l2 x7_1).f0))).setCell ⟨gb102, 1, none⟩ (.int .i64 ((rd_T37 l2 x7_1).f1)))).cell? _ = some _ from hx104_1)); clear hn104_0; clear hn104_1; replace p104 := eq_true p104; replace q104 := eq_true q104))
              repeat (go_quiet (fail); try go_wp2_with fail)
              go_roundg k1
              case measure => have := HK1.out; omega
              case rel => exact ⟨(wrap64 (x7_1 + 1)), (by first | rfl | (simp; done) | (simp [*]; done)), H', ⟨by have := HK1.out; omega⟩, ⟨by repeat (first | (with_reducible first | exact HB.out | apply below_alloc | apply pw_below_drewN | apply below_drew1 | refine below_set ?_ GE102.out) | exact HB.out)⟩⟩
           ·rw [if_neg c21] at H
            exact absurd H (by simp)
          ·rw [if_neg c20] at H
           exact absurd H (by simp)
         ·rw [if_neg c18] at H
          have c18b0 : decide (0 < x7_1) = false := decide_eq_false c18
          clear c18
          have H' := Aside0.mk H
          clear H
          have p101 : 0 ≤ (x7_1 : Int) := of_decide_eq_true (by first | (with_reducible assumption) | assumption)
          have q101 : x7_1 < (l2.length : Int) := of_decide_eq_true (by first | (with_reducible assumption) | assumption)
          obtain ⟨ad101, e101, hx101_0, hx101_1⟩ := at_T37 HR2.out x7_1 p101 q101
          cases e101
          replace hx101_0 := (HB.out.cell (World.block_lt_of_cell? w _ hx101_0)).trans hx101_0
          replace hx101_1 := (HB.out.cell (World.block_lt_of_cell? w _ hx101_1)).trans hx101_1
          replace p101 := eq_true p101
          replace q101 := eq_true q101
          go_wp2_with (first | ((with_reducible refine gate_dst (N := 8) rfl ?_); refine box_event ?hg (N := 8) ?hd (cs := #[.int .i64 0, .int .i64 0]) (t := 37) ?hr ?_; (case hd => rfl); (case hg => rfl); (case hr => first | (go_simp; done) | (go_simp; rfl)); intro gb102 hg w30 hbox hb; have n0_ := Aside0.mk (below_step (by repeat (first | (with_reducible first | exact HB.out | apply below_alloc | apply pw_below_drewN | apply below_drew1) | exact HB.out)) hb); have n1_ := Aside0.mk (hbox); have n2_ := Aside0.mk ((by rw [hg]; exact (below_size (by repeat (first | (with_reducible first | exact HB.out | apply below_alloc | apply pw_below_drewN | apply below_drew1) | exact HB.out))) : w.heap.size ≤ gb102)); have n3_ := Aside0.mk ((by rw [hg]; exact (below_size (by repeat (first | (with_reducible first | exact HB.out | apply below_alloc | apply pw_below_drewN | apply below_drew1) | exact HB.out))) : w.heap.size ≤ gb102)); clear HB; have HB := n0_; have BK102 := n1_; have GW102 := n2_; have GE102 := n3_; clear n0_ n1_ n2_ n3_; clear hb hbox hg; have hcz31_0 : w30.cell? ⟨gb102, 0, none⟩ = some (.int .i64 0) := (blk_cell BK102.out 0).trans rfl; have hcz31_1 : w30.cell? ⟨gb102, 1, none⟩ = some (.int .i64 0) := (blk_cell BK102.out 1).trans rfl; have hfz31_0 := blk_frozen BK102.out 0; have hfz31_1 := blk_frozen BK102.out 1))
          repeat (go_quiet (fail); try go_wp2_with fail)
          go_roundg k1
          case measure => have := HK1.out; omega
          case rel => exact ⟨(wrap64 (x7_1 + 1)), (by first | rfl | (simp; done) | (simp [*]; done)), H', ⟨by have := HK1.out; omega⟩, ⟨by repeat (first | (with_reducible first | exact HB.out | apply below_alloc | apply pw_below_drewN | apply below_drew1 | refine below_set ?_ GE102.out) | exact HB.out)⟩⟩
    ·rw [if_neg c5] at H
     exact absurd H (by simp)
   ·rw [if_neg c4] at H
    have c4b0 : decide (x7_1 < (l2.length : Int)) = false := decide_eq_false c4
    clear c4
    obtain rfl := Option.some.inj H
    go_wp2
    repeat (go_quiet (fail); try go_wp2)
    go_ret
    exact ⟨by first | rfl | (simp [errW_none, errW_some] <;> rfl) | (simp [*, errW_none, errW_some] <;> rfl), by repeat (first | (with_reducible first | exact HB.out | apply below_alloc | apply pw_below_drewN | apply below_drew1) | exact HB.out)⟩

end Go.Proofs.Ytadafplbgophfaa.PA
end
section
-- Written by a program of this seat out of the translation. Not trusted: Lean checks it.
namespace Go.Proofs.Ytadafplbgophfaa.PA
open Go.RowKit Go.Proofs.YtadafplbgophfaaW.PrintWords Go.Proofs.YtadafplbgophfaaW.PrintLast Go.Proofs.YtadafplbgophfaaW.PrintMore
attribute [local go_sem] max2_int min2_int max_two min_two max_three min_three max_four min_four   -- for this text's walks alone
set_option linter.unusedVariables false
set_option linter.unusedSimpArgs false

/-! ### tripartiteref06_at: function 95 -/
def tripartiteref06_at.l0 : Nat → List (S37) → Int → Int → Option (Int)
 | 0, _, _, _ => none
 | k + 1, x0, x1, x5 => if x5 < (x0.length : Int) then (if 0 ≤ x5 then (if ((rd_T37 x0 x5).f0) = x1 then (some ((rd_T37 x0 x5).f1)) else (tripartiteref06_at.l0 k x0 x1 (wrap64 (x5 + 1)))) else (none)) else (some (-1))
def tripartiteref06_at.f (k : Nat) (l0 : List (S37)) (a1 : Int) : Option (Int) := tripartiteref06_at.l0 k l0 a1 0
theorem tripartiteref06_at.mono_l : ∀ k, (∀ y0 y1 y2, LeO (tripartiteref06_at.l0 k y0 y1 y2) (tripartiteref06_at.l0 (k + 1) y0 y1 y2))
 | 0 => fun _ _ _ r h => by simp [tripartiteref06_at.l0] at h
 | k + 1 => by
  have ih0 := tripartiteref06_at.mono_l k
  ·intro y0 y1 y2
   unfold tripartiteref06_at.l0
   repeat' first
   | (with_reducible exact ih0 _ _ _)
   | (with_reducible exact LeO.refl _)
   | (with_reducible exact LeO.none _)
   | (with_reducible refine LeO.ite ?_ ?_)
   | (with_reducible refine LeO.bind ?_ (fun _ => ?_))
   | exact ih0 _ _ _
   | exact LeO.none _
   | refine LeO.ite ?_ ?_
   | refine LeO.bind ?_ (fun _ => ?_)
theorem tripartiteref06_at.mono : ∀ a0 a1 k, LeO (tripartiteref06_at.f k a0 a1) (tripartiteref06_at.f (k + 1) a0 a1) := by
 intro a0 a1 k
 have ih0 := tripartiteref06_at.mono_l k
 unfold tripartiteref06_at.f
 repeat' first
   | (with_reducible exact ih0 _ _ _)
   | (with_reducible exact LeO.refl _)
   | (with_reducible exact LeO.none _)
   | (with_reducible refine LeO.ite ?_ ?_)
   | (with_reducible refine LeO.bind ?_ (fun _ => ?_))
   | exact ih0 _ _ _
   | exact LeO.none _
   | refine LeO.ite ?_ ?_
   | refine LeO.bind ?_ (fun _ => ?_)
set_option maxHeartbeats 8000000 in
set_option maxRecDepth 100000 in
theorem tripartiteref06_at.calls (k : Nat) (A0 : Option Addr) (c0 : Nat) (l0 : List (S37)) (a1 : Int) (r : Int) (w : World) (hr0 : Kd.C k37 w A0 l0.length l0) (hc0 : l0.length ≤ c0) (h : tripartiteref06_at.f k l0 a1 = some r) :
  Calls Try.prog 95 #[.slice A0 l0.length c0, .int .i64 a1] w fun e w' => e = .returned (.int .i64 r) ∧ Drawn0 w w' := by
 have HR0 := Aside0.mk hr0
 have HC0 := Aside0.mk hc0
 clear hr0 hc0
 have H : (tripartiteref06_at.l0 k l0 a1 0) = some r := h
 clear h
 have H' := Aside0.mk H
 clear H
 go_enter Try.func95, Try.ntmps95
 go_wp2
 go_loopg [5] k (fun kq v5 w' => ∃ (x5_1 : Int), v5 = .int .i64 x5_1 ∧ Aside0 (tripartiteref06_at.l0 kq l0 a1 x5_1 = some r) ∧ Aside0 (kq ≤ k) ∧ Drawn0 w w')
 case atStart => exact ⟨(0), (by first | rfl | (simp; done) | (simp [*]; done)), H', ⟨Nat.le_refl _⟩, by repeat (first | exact Drawn0.refl _ | apply Drawn0.step)⟩
 case round =>
  clear H'
  try clear p2
  obtain ⟨x5_1, rfl, HA, HK1, ⟨m1, rfl⟩⟩ := hrel
  cases gk with
  | zero => exact absurd HA.out (by simp [tripartiteref06_at.l0])
  | succ k1 =>
   have H := HA.out
   clear HA
   simp only [tripartiteref06_at.l0] at H
   by_cases c3 : x5_1 < (l0.length : Int)
   ·rw [if_pos c3] at H
    have c3b0 : decide (x5_1 < (l0.length : Int)) = true := decide_eq_true c3
    clear c3
    by_cases c4 : 0 ≤ x5_1
    ·rw [if_pos c4] at H
     have c4b0 : decide (0 ≤ x5_1) = true := decide_eq_true c4
     clear c4
     by_cases c5 : ((rd_T37 l0 x5_1).f0) = a1
     ·rw [if_pos c5] at H
      have c5b0 : (((rd_T37 l0 x5_1).f0) == a1) = true := beq_iff_eq.mpr c5
      have c5b1 : (((rd_T37 l0 x5_1).f0) != a1) = false := bne_eq_false_iff_eq.mpr c5
      clear c5
      obtain rfl := Option.some.inj H
      have p101 : 0 ≤ (x5_1 : Int) := of_decide_eq_true (by first | (with_reducible assumption) | assumption)
      have q101 : x5_1 < (l0.length : Int) := of_decide_eq_true (by first | (with_reducible assumption) | assumption)
      obtain ⟨ad101, e101, hx101_0, hx101_1⟩ := at_T37 HR0.out x5_1 p101 q101
      cases e101
      replace p101 := eq_true p101
      replace q101 := eq_true q101
      have p102 : 0 ≤ (x5_1 : Int) := of_decide_eq_true (by first | (with_reducible assumption) | assumption)
      have q102 : x5_1 < (l0.length : Int) := of_decide_eq_true (by first | (with_reducible assumption) | assumption)
      obtain ⟨ad102, e102, hx102_0, hx102_1⟩ := at_T37 HR0.out x5_1 p102 q102
      obtain rfl : ad101 = ad102 := (by injection e102)
      replace p102 := eq_true p102
      replace q102 := eq_true q102
      go_wp2
      go_ret
      exact ⟨by first | rfl | (simp; done) | (simp [*]; done), by repeat (first | exact Drawn0.refl _ | apply Drawn0.step)⟩
     ·rw [if_neg c5] at H
      have c5b0 : (((rd_T37 l0 x5_1).f0) == a1) = false := beq_eq_false_iff_ne.mpr c5
      have c5b1 : (((rd_T37 l0 x5_1).f0) != a1) = true := bne_iff_ne.mpr c5
      have H' := Aside0.mk H
      clear H
      have p101 : 0 ≤ (x5_1 : Int) := of_decide_eq_true (by first | (with_reducible assumption) | assumption)
      have q101 : x5_1 < (l0.length : Int) := of_decide_eq_true (by first | (with_reducible assumption) | assumption)
      obtain ⟨ad101, e101, hx101_0, hx101_1⟩ := at_T37 HR0.out x5_1 p101 q101
      cases e101
      replace p101 := eq_true p101
      replace q101 := eq_true q101
      go_wp2
      go_roundg k1
      case measure => have := HK1.out; omega
      case rel => exact ⟨(wrap64 (x5_1 + 1)), (by first | rfl | (simp; done) | (simp [*]; done)), H', ⟨by have := HK1.out; omega⟩, by repeat (first | exact Drawn0.refl _ | apply Drawn0.step)⟩
    ·rw [if_neg c4] at H
     exact absurd H (by simp)
   ·rw [if_neg c3] at H
    have c3b0 : decide (x5_1 < (l0.length : Int)) = false := decide_eq_false c3
    clear c3
    obtain rfl := Option.some.inj H
    go_wp2
    go_ret
    exact ⟨by first | rfl | (simp; done) | (simp [*]; done), by repeat (first | exact Drawn0.refl _ | apply Drawn0.step)⟩

end Go.Proofs.Ytadafplbgophfaa.PA
end
section
/- Chunks: what the judge of the pairs, the table and the sweep's steps answer. -/
namespace Go.Proofs.Ytadafplbgophfaa.PA
set_option linter.unusedSimpArgs false
set_option linter.unusedVariables false
open Go.RowKit Go.Proofs.YtadafplbgophfaaW.PrintWords Go.Proofs.YtadafplbgophfaaW.PrintLast Go.Proofs.YtadafplbgophfaaW.PrintMore
open Jdg
namespace Chk

theorem down {P : Nat → Prop} (n : Nat) (hend : P n) (hstep : ∀ i, i < n → P (i + 1) → P i) : ∀ i, i ≤ n → P i := by
  have : ∀ d i, n - i ≤ d → i ≤ n → P i := by
    intro d
    induction d with
    | zero => intro i h1 h2; obtain rfl : i = n := by omega
              exact hend
    | succ d ih =>
      intro i h1 h2
      by_cases h : i < n
      · exact hstep i h (ih (i + 1) (by omega) (by omega))
      · obtain rfl : i = n := by omega
        exact hend
  exact fun i hi => this n i (by omega) hi
theorem next64 {i : Nat} (h : i ≤ 1000000000000000) : wrap64 ((i : Int) + 1) = ((i + 1 : Nat) : Int) := by rw [w64 (by omega) (by omega)]; omega

/-- where place i is paired with -/
def matD (d : Int) : List S37 → Int → Int
  | [], _ => d
  | p :: l, i => if p.f0 = i then p.f1 else matD d l i
def riseB (a b : Int) : Int → Int → List S37 → Bool
  | _, _, [] => true
  | pa, pb, p :: l => decide (pa < p.f0 ∧ pb < p.f1 ∧ p.f0 < a ∧ p.f1 < b) && riseB a b p.f0 p.f1 l
theorem riseB_cons {a b pa pb : Int} {p : S37} {l : List S37} : riseB a b pa pb (p :: l) = true ↔ (pa < p.f0 ∧ pb < p.f1 ∧ p.f0 < a ∧ p.f1 < b) ∧ riseB a b p.f0 p.f1 l = true := by
  simp [riseB, and_assoc]

theorem at_ok (l : List S37) (x : Int) (hl : l.length ≤ 1000000) : Ev (fun k => tripartiteref06_at.f k l x) (matD (-1) l x) := by
  have := down (P := fun i => Ev (fun k => tripartiteref06_at.l0 k l x (i : Int)) (matD (-1) (l.drop i) x)) l.length (by
    refine Ev.step (f := fun _ => some (-1)) (fun k => ?_) (by rw [List.drop_of_length_le (Nat.le_refl _)]; exact Ev.now _)
    simp only [tripartiteref06_at.l0]; rw [if_neg (by omega)]) (fun i hi ih => by
    have e := rdT37_nat l hi
    rw [List.drop_eq_getElem_cons hi, matD]
    by_cases h : l[i].f0 = x
    · rw [if_pos h]
      refine Ev.step (f := fun _ => some l[i].f1) (fun k => ?_) (Ev.now _)
      simp only [tripartiteref06_at.l0]; rw [if_pos (by omega), if_pos (by omega), e, if_pos h]
    · rw [if_neg h]
      refine Ev.step (fun k => ?_) ih
      simp only [tripartiteref06_at.l0]; rw [if_pos (by omega), if_pos (by omega), e, if_neg h, next64 (by omega)]) 0 (by omega)
  exact this
theorem rises_ok (a b : Int) (l : List S37) (hl : l.length ≤ 1000000) : Ev (fun k => tripartiteref06_rises.f k a b l) (riseB a b (-1) (-1) l) := by
  have := down (P := fun i => ∀ pa pb, (i = 0 ∧ pa = -1 ∧ pb = -1 ∨ ∃ h : 0 < i ∧ i ≤ l.length, pa = (l[i - 1]'(by omega)).f0 ∧ pb = (l[i - 1]'(by omega)).f1 ∧ 0 ≤ pa ∧ 0 ≤ pb) → Ev (fun k => tripartiteref06_rises.l0 k a b l (i : Int)) (riseB a b pa pb (l.drop i))) l.length (by
    intro pa pb _
    refine Ev.step (f := fun _ => some true) (fun k => ?_) (by rw [List.drop_of_length_le (Nat.le_refl _)]; exact Ev.now _)
    simp only [tripartiteref06_rises.l0]; rw [if_neg (by omega)]) (fun i hi ih pa pb hp => by
    have e := rdT37_nat l hi
    have f1 : (i : Int) < (l.length : Int) := by omega
    have f2 : (0 : Int) ≤ (i : Int) := by omega
    have hlow : -1 ≤ pa ∧ -1 ≤ pb := by
      rcases hp with ⟨_, h1, h2⟩ | ⟨h, _, _, h3, h4⟩ <;> omega
    rw [List.drop_eq_getElem_cons hi]
    by_cases hb : riseB a b pa pb (l[i] :: l.drop (i + 1)) = true
    · rw [hb]
      obtain ⟨⟨b1, b2, b3, b4⟩, b5⟩ := riseB_cons.1 hb
      have hn := ih l[i].f0 l[i].f1 (.inr ⟨⟨by omega, by omega⟩, rfl, rfl, by omega, by omega⟩)
      rw [b5] at hn
      refine Ev.step (fun k => ?_) hn
      simp only [tripartiteref06_rises.l0]
      rw [if_pos f1, if_pos f2, e, if_neg (by omega), if_neg (by omega), if_neg (by omega), if_neg (by omega), next64 (by omega)]
      rcases hp with ⟨h0, _, _⟩ | ⟨h, h1, h2, _, _⟩
      · rw [if_neg (by omega)]
      · have e2 : wrap64 ((i : Int) - 1) = ((i - 1 : Nat) : Int) := by rw [w64 (by omega) (by omega)]; omega
        rw [if_pos (by omega), e2, if_pos (by omega), if_pos (by omega), rdT37_nat l (by omega : i - 1 < l.length), if_neg (by omega), if_neg (by omega)]
    · rw [Bool.not_eq_true] at hb
      rw [hb]
      by_cases ho : pa < l[i].f0 ∧ pb < l[i].f1 ∧ l[i].f0 < a ∧ l[i].f1 < b
      · have b5 : riseB a b l[i].f0 l[i].f1 (l.drop (i + 1)) = false := by
          cases h : riseB a b l[i].f0 l[i].f1 (l.drop (i + 1)) with
          | false => rfl
          | true => rw [riseB_cons.2 ⟨ho, h⟩] at hb; cases hb
        obtain ⟨b1, b2, b3, b4⟩ := ho
        have hn := ih l[i].f0 l[i].f1 (.inr ⟨⟨by omega, by omega⟩, rfl, rfl, by omega, by omega⟩)
        rw [b5] at hn
        refine Ev.step (fun k => ?_) hn
        simp only [tripartiteref06_rises.l0]
        rw [if_pos f1, if_pos f2, e, if_neg (by omega), if_neg (by omega), if_neg (by omega), if_neg (by omega), next64 (by omega)]
        rcases hp with ⟨h0, _, _⟩ | ⟨h, h1, h2, _, _⟩
        · rw [if_neg (by omega)]
        · have e2 : wrap64 ((i : Int) - 1) = ((i - 1 : Nat) : Int) := by rw [w64 (by omega) (by omega)]; omega
          rw [if_pos (by omega), e2, if_pos (by omega), if_pos (by omega), rdT37_nat l (by omega : i - 1 < l.length), if_neg (by omega), if_neg (by omega)]
      · refine Ev.step (f := fun _ => some false) (fun k => ?_) (Ev.now _)
        simp only [tripartiteref06_rises.l0]
        rw [if_pos f1, if_pos f2, e]
        by_cases c1 : l[i].f0 < 0
        · rw [if_pos c1]
        rw [if_neg c1]
        by_cases c2 : l[i].f0 ≥ a
        · rw [if_pos c2]
        rw [if_neg c2]
        by_cases c3 : l[i].f1 < 0
        · rw [if_pos c3]
        rw [if_neg c3]
        by_cases c4 : l[i].f1 ≥ b
        · rw [if_pos c4]
        rw [if_neg c4]
        rcases hp with ⟨h0, h1, h2⟩ | ⟨h, h1, h2, _, _⟩
        · omega
        · have e2 : wrap64 ((i : Int) - 1) = ((i - 1 : Nat) : Int) := by rw [w64 (by omega) (by omega)]; omega
          rw [if_pos (by omega), e2, if_pos (by omega), if_pos (by omega), rdT37_nat l (by omega : i - 1 < l.length)]
          by_cases c5 : (l[i - 1]'(by omega)).f0 ≥ l[i].f0
          · rw [if_pos c5]
          · rw [if_neg c5, if_pos (by omega)]) 0 (by omega) (-1) (-1) (.inl ⟨rfl, rfl, rfl⟩)
  exact this

theorem matD_low {a b : Int} (d : Int) : ∀ (l : List S37) (pa pb i : Int), riseB a b pa pb l = true → i ≤ pa → matD d l i = d
  | [], _, _, _, _, _ => rfl
  | p :: l, pa, pb, i, h, hi => by
    obtain ⟨⟨h1, h2, h3, h4⟩, h5⟩ := riseB_cons.1 h
    rw [matD, if_neg (by omega)]
    exact matD_low d l p.f0 p.f1 i h5 (by omega)
theorem matD_lt {a b : Int} (d : Int) (hd : d < b) : ∀ (l : List S37) (pa pb i : Int), riseB a b pa pb l = true → matD d l i < b
  | [], _, _, _, _ => hd
  | p :: l, pa, pb, i, h => by
    obtain ⟨⟨h1, h2, h3, h4⟩, h5⟩ := riseB_cons.1 h
    rw [matD]
    split
    · exact h4
    · exact matD_lt d hd l p.f0 p.f1 i h5
def setAll (t : List Int) : List S37 → List Int
  | [] => t
  | p :: l => setAll (t.set p.f0.toNat p.f1) l
theorem setAll_length : ∀ (l : List S37) (t : List Int), (setAll t l).length = t.length
  | [], t => rfl
  | p :: l, t => by rw [setAll, setAll_length l, List.length_set]
theorem rd_set {t : List Int} {i j v : Int} (hi : 0 ≤ i) (hi2 : i < t.length) (hj : 0 ≤ j) : rd (t.set i.toNat v) j = if i = j then v else rd t j := by
  obtain ⟨m, rfl⟩ := Int.eq_ofNat_of_zero_le hi
  obtain ⟨n, rfl⟩ := Int.eq_ofNat_of_zero_le hj
  simp only [rd, Int.toNat_natCast, List.getD_eq_getElem?_getD, List.getElem?_set]
  by_cases h : m = n
  · subst h
    have : m < t.length := by omega
    simp [this]
  · rw [if_neg h, if_neg (by omega)]
theorem rd_setAll {a b : Int} : ∀ (l : List S37) (t : List Int) (pa pb i : Int), riseB a b pa pb l = true → -1 ≤ pa → (t.length : Int) = a → 0 ≤ i → rd (setAll t l) i = matD (rd t i) l i
  | [], _, _, _, _, _, _, _, _ => rfl
  | p :: l, t, pa, pb, i, h, h0, ht, hi => by
    obtain ⟨⟨h1, h2, h3, h4⟩, h5⟩ := riseB_cons.1 h
    rw [setAll, rd_setAll l _ p.f0 p.f1 i h5 (by omega) (by rw [List.length_set]; exact ht) hi, rd_set (by omega) (by omega) hi, matD]
    by_cases e : p.f0 = i
    · rw [if_pos e, if_pos e, matD_low _ l p.f0 p.f1 i h5 (by omega)]
    · rw [if_neg e, if_neg e]

theorem table_go (a b : Int) (l : List S37) (hl : l.length ≤ 1000000) : ∀ i, i ≤ l.length → ∀ (pa pb : Int) (t : List Int), -1 ≤ pa → (t.length : Int) = a → 
    Ev (fun k => chunk_table.l0 k a b t (l.map to39) (l.map to39).length (i : Int) pa pb) (if riseB a b pa pb (l.drop i) then (setAll t (l.drop i), true) else ([], false)) := by
  refine down l.length ?_ ?_
  · intro pa pb t h1 h2
    refine Ev.step (f := fun _ => some (t, true)) (fun k => ?_) (by rw [List.drop_of_length_le (Nat.le_refl _)]; exact Ev.now _)
    simp only [chunk_table.l0]; rw [if_neg (by rw [List.length_map]; omega)]
  · intro i hi ih pa pb t h1 h2
    have hi2 : i < (l.map to39).length := by rw [List.length_map]; exact hi
    have e : rd_T39 (l.map to39) (i : Int) = to39 l[i] := by rw [rdT39_nat _ hi2, List.getElem_map]
    have f1 : (i : Int) < ((l.map to39).length : Int) := by omega
    have f2 : (0 : Int) ≤ (i : Int) := by omega
    have e0 : (to39 l[i]).f0 = l[i].f0 := rfl
    have e1 : (to39 l[i]).f1 = l[i].f1 := rfl
    rw [List.drop_eq_getElem_cons hi]
    by_cases ho : pa < l[i].f0 ∧ pb < l[i].f1 ∧ l[i].f0 < a ∧ l[i].f1 < b
    · obtain ⟨b1, b2, b3, b4⟩ := id ho
      have hn := ih l[i].f0 l[i].f1 (t.set l[i].f0.toNat l[i].f1) (by omega) (by rw [List.length_set]; exact h2)
      have es : riseB a b pa pb (l[i] :: l.drop (i + 1)) = riseB a b l[i].f0 l[i].f1 (l.drop (i + 1)) := by
        rw [riseB, decide_eq_true ho, Bool.true_and]
      rw [es, setAll]
      refine Ev.step (fun k => ?_) hn
      simp only [chunk_table.l0]
      rw [if_pos f1, if_pos f2, if_pos f1, e, e0, e1, if_neg (by omega), if_neg (by omega), if_neg (by omega), if_neg (by omega), if_pos (by omega), if_pos (by omega), next64 (by omega)]
    · have es : riseB a b pa pb (l[i] :: l.drop (i + 1)) = false := by
        rw [riseB, decide_eq_false ho, Bool.false_and]
      rw [es]
      refine Ev.step (f := fun _ => some ([], false)) (fun k => ?_) (by simp only [Bool.false_eq_true, if_false]; exact Ev.now _)
      simp only [chunk_table.l0]
      rw [if_pos f1, if_pos f2, if_pos f1, e, e0, e1]
      by_cases c1 : l[i].f0 ≤ pa
      · rw [if_pos c1]
      rw [if_neg c1]
      by_cases c2 : l[i].f1 ≤ pb
      · rw [if_pos c2]
      rw [if_neg c2]
      by_cases c3 : l[i].f0 ≥ a
      · rw [if_pos c3]
      rw [if_neg c3, if_pos (by omega)]
def tab (a : Int) (l : List S37) : List Int := setAll (List.replicate a.toNat (-1)) l
theorem table_ok (a b : Int) (l : List S37) (hl : l.length ≤ 1000000) (ha : a ≤ 1000000) : Ev (fun k => chunk_table.f k a b (l.map to39)) (if 0 ≤ a ∧ 0 ≤ b ∧ riseB a b (-1) (-1) l = true then (tab a l, true) else ([], false)) := by
  by_cases h0 : a < 0
  · rw [if_neg (by omega)]
    refine Ev.congr (f := fun k => chunk_table.j0 k a b (l.map to39) true) (fun k => by unfold chunk_table.f; rw [if_pos h0]) ?_
    refine Ev.step (f := fun _ => some ([], false)) (fun k => ?_) (Ev.now _)
    simp only [chunk_table.j0]; rw [if_pos trivial]
  by_cases h1 : b < 0
  · rw [if_neg (by omega)]
    refine Ev.congr (f := fun k => chunk_table.j0 k a b (l.map to39) true) (fun k => by unfold chunk_table.f; rw [if_neg h0, decide_eq_true h1]) ?_
    refine Ev.step (f := fun _ => some ([], false)) (fun k => ?_) (Ev.now _)
    simp only [chunk_table.j0]; rw [if_pos trivial]
  have hg := table_go a b l hl 0 (by omega) (-1) (-1) (List.replicate a.toNat (-1)) (by omega) (by rw [List.length_replicate]; omega)
  rw [List.drop_zero] at hg
  have e : (if 0 ≤ a ∧ 0 ≤ b ∧ riseB a b (-1) (-1) l = true then (tab a l, true) else (([] : List Int), false)) = if riseB a b (-1) (-1) l = true then (setAll (List.replicate a.toNat (-1)) l, true) else ([], false) := by
    cases riseB a b (-1) (-1) l
    · simp
    · rw [if_pos ⟨by omega, by omega, rfl⟩, if_pos rfl]; rfl
  rw [e]
  refine Ev.congr (f := fun k => chunk_table.j0 k a b (l.map to39) false) (fun k => by unfold chunk_table.f; rw [if_neg h0, decide_eq_false h1]) ?_
  refine Ev.step (fun k => ?_) hg
  simp only [chunk_table.j0, slices_Repeat_int_int.f]
  rw [if_neg Bool.false_ne_true, if_pos ⟨rfl, by omega, by omega⟩]
  rfl
theorem tab_length {a : Int} (l : List S37) (h : 0 ≤ a) : ((tab a l).length : Int) = a := by rw [tab, setAll_length, List.length_replicate]; omega
theorem rd_tab {a b : Int} {l : List S37} (h : riseB a b (-1) (-1) l = true) (ha : 0 ≤ a) {i : Int} (h0 : 0 ≤ i) (h1 : i < a) : rd (tab a l) i = matD (-1) l i := by
  rw [tab, rd_setAll l _ (-1) (-1) i h (by omega) (by rw [List.length_replicate]; omega) h0]
  have : rd (List.replicate a.toNat (-1 : Int)) i = -1 := by
    obtain ⟨n, rfl⟩ := Int.eq_ofNat_of_zero_le h0
    have : n < a.toNat := by omega
    simp [rd, List.getD_eq_getElem?_getD, this]
  rw [this]
end Chk
end Go.Proofs.Ytadafplbgophfaa.PA
end
section
/- chunk.Of, walked by hand: the chunks that two matchings tell. -/
namespace Go.Proofs.Ytadafplbgophfaa.PA
set_option linter.unusedSimpArgs false
set_option linter.unusedVariables false
open Go.RowKit Go.Proofs.YtadafplbgophfaaW.PrintWords Go.Proofs.YtadafplbgophfaaW.PrintLast Go.Proofs.YtadafplbgophfaaW.PrintMore

def sweepGo (k : Nat) (x y : List Int) (base left right : Int) : Nat → Int → Int → Int → List S78 → Option (List S78)
 | 0, _, _, _, _ => none
 | f + 1, o, a, b, out => if o < base ∨ a < left ∨ b < right then
   (chunk_sweep_stable.f k x y o a b).bind fun st => if st.2 = (o, a, b) ∧ out.length ≤ 1000000000 then
    (if st.1 = 0 then (chunk_sweep_next.f k x y o a b).bind fun nx => if nx.2 = (o, a, b) then (if nx.1 < base then (if 0 ≤ nx.1 ∧ nx.1 < x.length ∧ nx.1 < y.length then sweepGo k x y base left right f nx.1 (rd x nx.1) (rd y nx.1) (out ++ [⟨decide (st.1 > 0), ⟨o, nx.1⟩, ⟨a, rd x nx.1⟩, ⟨b, rd y nx.1⟩⟩]) else none) else sweepGo k x y base left right f base left right (out ++ [⟨decide (st.1 > 0), ⟨o, base⟩, ⟨a, left⟩, ⟨b, right⟩⟩])) else none
    else sweepGo k x y base left right f (wrap64 (o + st.1)) (wrap64 (a + st.1)) (wrap64 (b + st.1)) (out ++ [⟨decide (st.1 > 0), ⟨o, wrap64 (o + st.1)⟩, ⟨a, wrap64 (a + st.1)⟩, ⟨b, wrap64 (b + st.1)⟩⟩])) else none
  else some out
theorem sweepGo.mono (x y : List Int) (base left right : Int) : ∀ (f k : Nat) (o a b : Int) (out : List S78), LeO (sweepGo k x y base left right f o a b out) (sweepGo (k + 1) x y base left right (f + 1) o a b out)
 | 0, k, o, a, b, out => LeO.none _
 | f + 1, k, o, a, b, out => by
  have ih := sweepGo.mono x y base left right f k
  rw [sweepGo, sweepGo]
  refine LeO.ite (LeO.bind (chunk_sweep_stable.mono _ _ _ _ _ _) fun st => LeO.ite (LeO.ite (LeO.bind (chunk_sweep_next.mono _ _ _ _ _ _) fun nx => LeO.ite (LeO.ite (LeO.ite (ih _ _ _ _) (LeO.none _)) (ih _ _ _ _)) (LeO.none _)) (ih _ _ _ _)) (LeO.none _)) (LeO.refl _)
def chunk_Of.f (k : Nat) (base left right : Int) (l r : List S39) : Option (List S78 × Int) :=
 (chunk_table.f k base left l).bind fun x => (chunk_table.f k base right r).bind fun y => if x.2 = true ∧ y.2 = true then (sweepGo k x.1 y.1 base left right k 0 0 0 []).map fun out => (out, 0) else some ([], 12)
theorem chunk_Of.mono : ∀ a0 a1 a2 a3 a4 k, LeO (chunk_Of.f k a0 a1 a2 a3 a4) (chunk_Of.f (k + 1) a0 a1 a2 a3 a4) := by
 intro a0 a1 a2 a3 a4 k
 unfold chunk_Of.f
 exact LeO.bind (chunk_table.mono _ _ _ _) fun x => LeO.bind (chunk_table.mono _ _ _ _) fun y => LeO.ite (LeO.map _ (sweepGo.mono _ _ _ _ _ _ _ _ _ _ _)) (LeO.refl _)

set_option maxHeartbeats 8000000 in
set_option maxRecDepth 100000 in
theorem chunk_Of.calls (k : Nat) (base left right : Int) (A3 : Option Addr) (c3 : Nat) (l3 : List S39) (A4 : Option Addr) (c4 : Nat) (l4 : List S39) (r1 : List S78) (r2 : Int) (w : World) (hr3 : Kd.C k39 w A3 l3.length l3) (hc3 : l3.length ≤ c3) (hr4 : Kd.C k39 w A4 l4.length l4) (hc4 : l4.length ≤ c4) (h : chunk_Of.f k base left right l3 l4 = some (r1, r2)) :
  Calls Try.prog 49 #[.int .i64 base, .int .i64 left, .int .i64 right, .slice A3 l3.length c3, .slice A4 l4.length c4] w fun e w' => ∃ v0_ : Value, e = .returned (.tuple #[v0_, .int .i64 r2]) ∧ Kd.R k78 78 w' w.heap.size (fun _ => True) v0_ r1 ∧ Below w.heap.size w w' := by
 unfold chunk_Of.f at h
 obtain ⟨⟨x, okx⟩, hx, h⟩ := Option.bind_eq_some_iff.1 h
 obtain ⟨⟨y, oky⟩, hy, h⟩ := Option.bind_eq_some_iff.1 h
 simp only at h
 have hu150 := Try.underlying150
 have hu78 := Try.underlying78
 have hu76 := Try.underlying76
 have H3 := Aside0.mk hr3
 have L3 := Aside0.mk hc3
 have H4 := Aside0.mk hr4
 have L4 := Aside0.mk hc4
 have FX := Aside0.mk hx
 have FY := Aside0.mk hy
 have FH := Aside0.mk h
 clear hr3 hc3 hr4 hc4 hx hy h
 go_enter Try.func49, Try.ntmps49
 go_wp2_with fail
 refine (chunk_table.calls k base left A3 c3 l3 x okx w H3.out L3.out FX.out).mono ?_
 rintro e w1 ⟨v0_, rfl, hR, hB⟩
 obtain ⟨Ax, cx, rfl, hcx, hCx⟩ := Kd.R_reads hR
 have HX := Aside0.mk hCx
 have LX := Aside0.mk hcx
 have HB := Aside0.mk hB
 clear hR hB hCx hcx
 go_wp2_with fail
 refine (chunk_table.calls k base right A4 c4 l4 y oky w1 (Kd.C_below H4.out HB.out) L4.out FY.out).mono ?_
 rintro e w2 ⟨v0_, rfl, hR, hB⟩
 obtain ⟨Ay, cy, rfl, hcy, hCy⟩ := Kd.R_reads hR
 have HY := Aside0.mk hCy
 have LY := Aside0.mk hcy
 replace HX := Aside0.mk (Kd.C_below HX.out hB)
 replace HB := Aside0.mk (below_step HB.out hB)
 clear hR hB hCy hcy
 by_cases hok : okx = true ∧ oky = true
 rotate_left
 ·have h := FH.out
  rw [if_neg hok] at h
  simp only [Option.some.injEq, Prod.mk.injEq] at h
  obtain ⟨rfl, rfl⟩ := h
  cases okx
  ·simp only [Bool.not_false, Bool.not_true]
   go_wp2_with fail
   go_ret2
   exact ⟨_, rfl, Kd.R_nil _ _ _ _ _, HB.out⟩
  ·obtain rfl : oky = false := by cases oky; rfl; exact absurd ⟨rfl, rfl⟩ hok
   simp only [Bool.not_false, Bool.not_true]
   go_wp2_with fail
   go_ret2
   exact ⟨_, rfl, Kd.R_nil _ _ _ _ _, HB.out⟩
 obtain ⟨rfl, rfl⟩ := hok
 have h := FH.out
 rw [if_pos ⟨rfl, rfl⟩] at h
 obtain ⟨rr, hrr, he⟩ := Option.map_eq_some_iff.1 h
 simp only [Prod.mk.injEq] at he
 obtain ⟨rfl, rfl⟩ := he
 have FG := Aside0.mk hrr
 clear h FH hrr FX FY
 simp only [Bool.not_true]
 go_wp2_with fail
 go_loopg [17] k (fun kq v17 wr => ∃ (o a b : Int) (out : List S78), Aside0 (IsS150 w2 wr w2.heap.size x y o a b) ∧ Aside0 (Below w2.heap.size w2 wr) ∧ Aside0 (Kd.R k78 78 wr w2.heap.size (fun q => q ≠ w2.heap.size) v17 out) ∧ Aside0 (sweepGo k x y base left right kq o a b out = some rr))
 case atStart => exact ⟨0, 0, 0, [], ⟨IsS150.new w2 w2 Ax cx Ay cy x y 0 0 0 (Below.refl _ _) HX.out HY.out⟩, ⟨below_alloc (Below.refl _ _) _⟩, ⟨Kd.R_nil _ _ _ _ _⟩, FG⟩
 case round =>
  obtain ⟨o, a, b, out, HI, HW, HO, HS⟩ := hrel
  cases gk with
  | zero => exact absurd HS.out (by simp [sweepGo])
  | succ k1 =>
   have h := HS.out
   rw [sweepGo] at h
   obtain ⟨B0, d0, B1, d1, hblk, _, _, _⟩ := HI.out
   have hb2 := (blk_cell hblk 2).trans (show _ = some (Value.int .i64 o) from rfl)
   have hb3 := (blk_cell hblk 3).trans (show _ = some (Value.int .i64 a) from rfl)
   have hb4 := (blk_cell hblk 4).trans (show _ = some (Value.int .i64 b) from rfl)
   have HBK := Aside0.mk hblk
   clear hblk
   by_cases hc : o < base ∨ a < left ∨ b < right
   rotate_left
   ·rw [if_neg hc] at h
    simp only [Option.some.injEq] at h
    have n1 : decide (o < base) = false := decide_eq_false (fun h => hc (.inl h))
    have n2 : decide (a < left) = false := decide_eq_false (fun h => hc (.inr (.inl h)))
    have n3 : decide (b < right) = false := decide_eq_false (fun h => hc (.inr (.inr h)))
    have HH := Aside0.mk h
    clear h hc
    obtain ⟨A7, n7, c7, rfl⟩ : ∃ A n c, u17 = Value.slice A n c := by obtain ⟨A, c, h⟩ := Kd.R_slice HO.out; exact ⟨A, _, c, h⟩
    go_wp2_with fail
    go_ret2
    rw [← HH.out]
    exact ⟨_, rfl, Kd.R_lower (Kd.R_mono HO.out (fun _ _ => trivial)) HB.out.size, below_step HB.out HW.out⟩
   rw [if_pos hc] at h
   obtain ⟨⟨n, o', a', b'⟩, hst, h⟩ := Option.bind_eq_some_iff.1 h
   split at h
   case isFalse => cases h
   rename_i hG
   obtain ⟨hst2, hol⟩ := hG
   simp only [Prod.mk.injEq] at hst2
   obtain ⟨rfl, rfl, rfl⟩ := hst2
   simp only at h
   have FS := Aside0.mk hst
   have FH := Aside0.mk h
   have HOL := Aside0.mk hol
   clear h hst hol HS
   by_cases h1 : o' < base
   ·have q1 : decide (o' < base) = true := decide_eq_true h1
    clear hc
    go_wp2_with fail
    refine (chunk_sweep_stable.calls k w2.heap.size x y _ _ _ n _ _ _ w2 _ HI.out HW.out FS.out).mono ?_
    rintro e w3 ⟨rfl, hI3, hW3, hK3⟩
    have HO3 := Aside0.mk (Kd.R_keep HO.out hK3 (fun _ hk => hk))
    have HI3 := Aside0.mk hI3
    have HW3 := Aside0.mk hW3
    obtain ⟨B0, d0, B1, d1, hblk, _, _, _⟩ := HI3.out
    have hb23 := (blk_cell hblk 2).trans (show _ = some (Value.int .i64 _) from rfl)
    have hb33 := (blk_cell hblk 3).trans (show _ = some (Value.int .i64 _) from rfl)
    have hb43 := (blk_cell hblk 4).trans (show _ = some (Value.int .i64 _) from rfl)
    clear hblk hI3 hW3 hK3
    go_wp2_with fail
    obtain ⟨o1, ho1⟩ : ∃ v, wrap64 (o' + n) = v := ⟨_, rfl⟩
    obtain ⟨a1, ha1⟩ : ∃ v, wrap64 (a' + n) = v := ⟨_, rfl⟩
    obtain ⟨b1, hb1⟩ : ∃ v, wrap64 (b' + n) = v := ⟨_, rfl⟩
    have hw1 : IntKind.i64.wrap (o' + n) = o1 := by rw [i64_w]; exact ho1
    have hw2 : IntKind.i64.wrap (a' + n) = a1 := by rw [i64_w]; exact ha1
    have hw3 : IntKind.i64.wrap (b' + n) = b1 := by rw [i64_w]; exact hb1
    have FH2 := FH.out
    rw [ho1, ha1, hb1] at FH2
    have FH3 := Aside0.mk FH2
    clear FH2 ho1 ha1 hb1
    go_quiet (fail)
    have HI4 := Aside0.mk (HI3.out.drewN nq)
    have HW4 := Aside0.mk (pw_below_drewN HW3.out nq)
    have HO4 := Aside0.mk (Kd.R_drewN HO3.out nq)
    clear hw1 hw2 hw3
    by_cases hn : n = 0
    rotate_left
    ·have hne : (n == 0) = false := beq_eq_false_iff_ne.mpr hn
     have h := FH3.out
     rw [if_neg hn] at h
     have HG := Aside0.mk h
     clear h hn
     go_wp2_with fail
     obtain ⟨A7, n7, c7, rfl⟩ : ∃ A n c, u17 = Value.slice A n c := by obtain ⟨A, c, h⟩ := Kd.R_slice HO4.out; exact ⟨A, _, c, h⟩
     have HId := Aside0.mk (HI4.out.drew)
     have HWd := Aside0.mk (below_drew HW4.out)
     have HOd := Aside0.mk (Kd.R_drew HO4.out)
     obtain ⟨B5, d5, B6, d6, hblk, _, _, _⟩ := HI3.out
     have hs2 := (blk_cell hblk 2).trans (show _ = some (Value.int .i64 o') from rfl)
     have hs3 := (blk_cell hblk 3).trans (show _ = some (Value.int .i64 a') from rfl)
     have hs4 := (blk_cell hblk 4).trans (show _ = some (Value.int .i64 b') from rfl)
     clear hblk HI4 HW4 HO4
     go_region_held3 (fun w' => w'.cell? ⟨w2.heap.size, 2, none⟩ = some (.int .i64 o') ∧ w'.cell? ⟨w2.heap.size, 3, none⟩ = some (.int .i64 a') ∧ w'.cell? ⟨w2.heap.size, 4, none⟩ = some (.int .i64 b')) (go_keep)
      (first | (refine Kd.R_append_step k78 (w0 := w2) w2.heap.size (by rfl) (.tmp 108) (.tmp 130) 67 78 (.agg #[(.bool false), (.int .i64 0), (.int .i64 0), (.int .i64 0), (.int .i64 0), (.int .i64 0), (.int .i64 0)]) 56 rfl Try.underlying67 info78 rfl (by decide) (by decide) (.slice A7 n7 c7) out (⟨decide (n > 0), ⟨o', o1⟩, ⟨a', a1⟩, ⟨b', b1⟩⟩ : S78) [.bool (decide (n > 0)), .int .i64 o', .int .i64 o1, .int .i64 a', .int .i64 a1, .int .i64 b', .int .i64 b1] (fun q => q ≠ w2.heap.size) (fun _ => False) rfl rfl (k78_mkM _ _ _ (⟨decide (n > 0), ⟨o', o1⟩, ⟨a', a1⟩, ⟨b', b1⟩⟩ : S78)) (fun _ hk => hk.elim) ?aF HOd.out HWd.out HWd.out.size ?aL ?_; (case aF => exact fun q hq e => by rw [e] at hq; exact absurd hq (Nat.not_le.2 HId.out.lt)); (case aL => have := HOL.out; omega); intro v7 w7 ho hb2 hg2 hat2; have HO7 := Aside0.mk ho; have HB7 := Aside0.mk hb2; have HI7 := Aside0.mk (HId.out.grown hg2 (HId.out.own_ne HOd.out (by decide))); obtain ⟨B8, d8, B9, d9, hblk7, _, _, _⟩ := HI7.out; have HBK7 := Aside0.mk hblk7; have hz2 := (blk_cell hblk7 2).trans (show _ = some (Value.int .i64 o') from rfl); have hz3 := (blk_cell hblk7 3).trans (show _ = some (Value.int .i64 a') from rfl); have hz4 := (blk_cell hblk7 4).trans (show _ = some (Value.int .i64 b') from rfl); clear ho hb2 hg2 hat2 hblk7))
     have hf2 := blk_frozen HBK7.out 2
     have hf3 := blk_frozen HBK7.out 3
     have hf4 := blk_frozen HBK7.out 4
     obtain ⟨A9, n9, c9, rfl⟩ : ∃ A n c, v7 = Value.slice A n c := by obtain ⟨A, c, h⟩ := Kd.R_slice HO7.out; exact ⟨A, _, c, h⟩
     go_wp2_with fail
     go_roundg k1
     case rel => exact ⟨_, _, _, _, ⟨((HI7.out.set_2 _).set_3 _).set_4 _⟩, ⟨((HB7.out.setCell (Nat.le_refl _) _).setCell (Nat.le_refl _) _).setCell (Nat.le_refl _) _⟩, ⟨Kd.R_far (Kd.R_far (Kd.R_far HO7.out (fun _ hk => hk) _) (fun _ hk => hk) _) (fun _ hk => hk) _⟩, HG⟩
     case measure => omega
    ·subst hn
     have h := FH3.out
     rw [if_pos rfl] at h
     obtain ⟨⟨to1, o2, a2, b2⟩, hnx, h⟩ := Option.bind_eq_some_iff.1 h
     split at h
     case isFalse => cases h
     rename_i hG
     simp only [Prod.mk.injEq] at hG
     obtain ⟨rfl, rfl, rfl⟩ := hG
     simp only at h
     have FN := Aside0.mk hnx
     have FT := Aside0.mk h
     clear h hnx
     go_wp2_with fail
     refine (chunk_sweep_next.calls k w2.heap.size x y _ _ _ to1 _ _ _ w2 _ HI4.out HW4.out FN.out).mono ?_
     rintro e w5 ⟨rfl, hI5, hW5, hK5⟩
     have HO5 := Aside0.mk (Kd.R_keep HO4.out hK5 (fun _ hk => hk))
     have HI5 := Aside0.mk hI5
     have HW5 := Aside0.mk hW5
     clear hI5 hW5 hK5 hb23 hb33 hb43
     by_cases htb : to1 < base
     ·have ht1 : decide (to1 < base) = true := decide_eq_true htb
      have h := FT.out
      rw [if_pos htb] at h
      split at h
      case isFalse => cases h
      rename_i hG
      obtain ⟨g0, g1, g2⟩ := hG
      rw [show decide ((0 : Int) > 0) = false from rfl] at h
      have HG := Aside0.mk h
      clear h
      obtain ⟨adx, ex, hxx⟩ := Kd.at_int HX.out to1 g0 g1
      obtain ⟨ady, ey, hyy⟩ := Kd.at_int HY.out to1 g0 g2
      cases ex
      cases ey
      replace hxx := pw_cell_below HW5.out hxx
      replace hyy := pw_cell_below HW5.out hyy
      go_wp2_with fail
      go_quiet (fail)
      have HI6 := Aside0.mk (HI5.out.drewN nq)
      have HW6 := Aside0.mk (pw_below_drewN HW5.out nq)
      have HO6 := Aside0.mk (Kd.R_drewN HO5.out nq)
      clear hxx hyy
      go_wp2_with fail
      obtain ⟨A7, n7, c7, rfl⟩ : ∃ A n c, u17 = Value.slice A n c := by obtain ⟨A, c, h⟩ := Kd.R_slice HO6.out; exact ⟨A, _, c, h⟩
      have HId := Aside0.mk (HI6.out.drew)
      have HWd := Aside0.mk (below_drew HW6.out)
      have HOd := Aside0.mk (Kd.R_drew HO6.out)
      obtain ⟨B5, d5, B6, d6, hblk, _, _, _⟩ := HI5.out
      have hs2 := (blk_cell hblk 2).trans (show _ = some (Value.int .i64 o2) from rfl)
      have hs3 := (blk_cell hblk 3).trans (show _ = some (Value.int .i64 a2) from rfl)
      have hs4 := (blk_cell hblk 4).trans (show _ = some (Value.int .i64 b2) from rfl)
      clear hblk HI6 HW6 HO6
      go_region_held3 (fun w' => w'.cell? ⟨w2.heap.size, 2, none⟩ = some (.int .i64 o2) ∧ w'.cell? ⟨w2.heap.size, 3, none⟩ = some (.int .i64 a2) ∧ w'.cell? ⟨w2.heap.size, 4, none⟩ = some (.int .i64 b2)) (go_keep)
       (first | (refine Kd.R_append_step k78 (w0 := w2) w2.heap.size (by rfl) (.tmp 108) (.tmp 130) 67 78 (.agg #[(.bool false), (.int .i64 0), (.int .i64 0), (.int .i64 0), (.int .i64 0), (.int .i64 0), (.int .i64 0)]) 56 rfl Try.underlying67 info78 rfl (by decide) (by decide) (.slice A7 n7 c7) out (⟨false, ⟨o2, to1⟩, ⟨a2, (rd x to1)⟩, ⟨b2, (rd y to1)⟩⟩ : S78) [.bool (false), .int .i64 o2, .int .i64 to1, .int .i64 a2, .int .i64 (rd x to1), .int .i64 b2, .int .i64 (rd y to1)] (fun q => q ≠ w2.heap.size) (fun _ => False) rfl rfl (k78_mkM _ _ _ (⟨false, ⟨o2, to1⟩, ⟨a2, (rd x to1)⟩, ⟨b2, (rd y to1)⟩⟩ : S78)) (fun _ hk => hk.elim) ?aF HOd.out HWd.out HWd.out.size ?aL ?_; (case aF => exact fun q hq e => by rw [e] at hq; exact absurd hq (Nat.not_le.2 HId.out.lt)); (case aL => have := HOL.out; omega); intro v7 w7 ho hb2 hg2 hat2; have HO7 := Aside0.mk ho; have HB7 := Aside0.mk hb2; have HI7 := Aside0.mk (HId.out.grown hg2 (HId.out.own_ne HOd.out (by decide))); obtain ⟨B8, d8, B9, d9, hblk7, _, _, _⟩ := HI7.out; have HBK7 := Aside0.mk hblk7; have hz2 := (blk_cell hblk7 2).trans (show _ = some (Value.int .i64 o2) from rfl); have hz3 := (blk_cell hblk7 3).trans (show _ = some (Value.int .i64 a2) from rfl); have hz4 := (blk_cell hblk7 4).trans (show _ = some (Value.int .i64 b2) from rfl); clear ho hb2 hg2 hat2 hblk7))
      have hf2 := blk_frozen HBK7.out 2
      have hf3 := blk_frozen HBK7.out 3
      have hf4 := blk_frozen HBK7.out 4
      obtain ⟨A9, n9, c9, rfl⟩ : ∃ A n c, v7 = Value.slice A n c := by obtain ⟨A, c, h⟩ := Kd.R_slice HO7.out; exact ⟨A, _, c, h⟩
      go_wp2_with fail
      go_roundg k1
      case rel => exact ⟨_, _, _, _, ⟨((HI7.out.set_2 _).set_3 _).set_4 _⟩, ⟨((HB7.out.setCell (Nat.le_refl _) _).setCell (Nat.le_refl _) _).setCell (Nat.le_refl _) _⟩, ⟨Kd.R_far (Kd.R_far (Kd.R_far HO7.out (fun _ hk => hk) _) (fun _ hk => hk) _) (fun _ hk => hk) _⟩, HG⟩
      case measure => omega
     ·have ht1 : decide (to1 < base) = false := decide_eq_false htb
      have h := FT.out
      rw [if_neg htb, show decide ((0 : Int) > 0) = false from rfl] at h
      have HG := Aside0.mk h
      clear h
      go_wp2_with fail
      obtain ⟨A7, n7, c7, rfl⟩ : ∃ A n c, u17 = Value.slice A n c := by obtain ⟨A, c, h⟩ := Kd.R_slice HO5.out; exact ⟨A, _, c, h⟩
      have HId := Aside0.mk (HI5.out.drew)
      have HWd := Aside0.mk (below_drew HW5.out)
      have HOd := Aside0.mk (Kd.R_drew HO5.out)
      obtain ⟨B5, d5, B6, d6, hblk, _, _, _⟩ := HI5.out
      have hs2 := (blk_cell hblk 2).trans (show _ = some (Value.int .i64 o2) from rfl)
      have hs3 := (blk_cell hblk 3).trans (show _ = some (Value.int .i64 a2) from rfl)
      have hs4 := (blk_cell hblk 4).trans (show _ = some (Value.int .i64 b2) from rfl)
      clear hblk HI5 HW5 HO5
      go_region_held3 (fun w' => w'.cell? ⟨w2.heap.size, 2, none⟩ = some (.int .i64 o2) ∧ w'.cell? ⟨w2.heap.size, 3, none⟩ = some (.int .i64 a2) ∧ w'.cell? ⟨w2.heap.size, 4, none⟩ = some (.int .i64 b2)) (go_keep)
       (first | (refine Kd.R_append_step k78 (w0 := w2) w2.heap.size (by rfl) (.tmp 108) (.tmp 130) 67 78 (.agg #[(.bool false), (.int .i64 0), (.int .i64 0), (.int .i64 0), (.int .i64 0), (.int .i64 0), (.int .i64 0)]) 56 rfl Try.underlying67 info78 rfl (by decide) (by decide) (.slice A7 n7 c7) out (⟨false, ⟨o2, base⟩, ⟨a2, left⟩, ⟨b2, right⟩⟩ : S78) [.bool (false), .int .i64 o2, .int .i64 base, .int .i64 a2, .int .i64 left, .int .i64 b2, .int .i64 right] (fun q => q ≠ w2.heap.size) (fun _ => False) rfl rfl (k78_mkM _ _ _ (⟨false, ⟨o2, base⟩, ⟨a2, left⟩, ⟨b2, right⟩⟩ : S78)) (fun _ hk => hk.elim) ?aF HOd.out HWd.out HWd.out.size ?aL ?_; (case aF => exact fun q hq e => by rw [e] at hq; exact absurd hq (Nat.not_le.2 HId.out.lt)); (case aL => have := HOL.out; omega); intro v7 w7 ho hb2 hg2 hat2; have HO7 := Aside0.mk ho; have HB7 := Aside0.mk hb2; have HI7 := Aside0.mk (HId.out.grown hg2 (HId.out.own_ne HOd.out (by decide))); obtain ⟨B8, d8, B9, d9, hblk7, _, _, _⟩ := HI7.out; have HBK7 := Aside0.mk hblk7; have hz2 := (blk_cell hblk7 2).trans (show _ = some (Value.int .i64 o2) from rfl); have hz3 := (blk_cell hblk7 3).trans (show _ = some (Value.int .i64 a2) from rfl); have hz4 := (blk_cell hblk7 4).trans (show _ = some (Value.int .i64 b2) from rfl); clear ho hb2 hg2 hat2 hblk7))
      have hf2 := blk_frozen HBK7.out 2
      have hf3 := blk_frozen HBK7.out 3
      have hf4 := blk_frozen HBK7.out 4
      obtain ⟨A9, n9, c9, rfl⟩ : ∃ A n c, v7 = Value.slice A n c := by obtain ⟨A, c, h⟩ := Kd.R_slice HO7.out; exact ⟨A, _, c, h⟩
      go_wp2_with fail
      go_roundg k1
      case rel => exact ⟨_, _, _, _, ⟨((HI7.out.set_2 _).set_3 _).set_4 _⟩, ⟨((HB7.out.setCell (Nat.le_refl _) _).setCell (Nat.le_refl _) _).setCell (Nat.le_refl _) _⟩, ⟨Kd.R_far (Kd.R_far (Kd.R_far HO7.out (fun _ hk => hk) _) (fun _ hk => hk) _) (fun _ hk => hk) _⟩, HG⟩
      case measure => omega
   have q1 : decide (o' < base) = false := decide_eq_false h1
   by_cases h2 : a' < left
   ·have q2 : decide (a' < left) = true := decide_eq_true h2
    clear hc h1
    go_wp2_with fail
    refine (chunk_sweep_stable.calls k w2.heap.size x y _ _ _ n _ _ _ w2 _ HI.out HW.out FS.out).mono ?_
    rintro e w3 ⟨rfl, hI3, hW3, hK3⟩
    have HO3 := Aside0.mk (Kd.R_keep HO.out hK3 (fun _ hk => hk))
    have HI3 := Aside0.mk hI3
    have HW3 := Aside0.mk hW3
    obtain ⟨B0, d0, B1, d1, hblk, _, _, _⟩ := HI3.out
    have hb23 := (blk_cell hblk 2).trans (show _ = some (Value.int .i64 _) from rfl)
    have hb33 := (blk_cell hblk 3).trans (show _ = some (Value.int .i64 _) from rfl)
    have hb43 := (blk_cell hblk 4).trans (show _ = some (Value.int .i64 _) from rfl)
    clear hblk hI3 hW3 hK3
    go_wp2_with fail
    obtain ⟨o1, ho1⟩ : ∃ v, wrap64 (o' + n) = v := ⟨_, rfl⟩
    obtain ⟨a1, ha1⟩ : ∃ v, wrap64 (a' + n) = v := ⟨_, rfl⟩
    obtain ⟨b1, hb1⟩ : ∃ v, wrap64 (b' + n) = v := ⟨_, rfl⟩
    have hw1 : IntKind.i64.wrap (o' + n) = o1 := by rw [i64_w]; exact ho1
    have hw2 : IntKind.i64.wrap (a' + n) = a1 := by rw [i64_w]; exact ha1
    have hw3 : IntKind.i64.wrap (b' + n) = b1 := by rw [i64_w]; exact hb1
    have FH2 := FH.out
    rw [ho1, ha1, hb1] at FH2
    have FH3 := Aside0.mk FH2
    clear FH2 ho1 ha1 hb1
    go_quiet (fail)
    have HI4 := Aside0.mk (HI3.out.drewN nq)
    have HW4 := Aside0.mk (pw_below_drewN HW3.out nq)
    have HO4 := Aside0.mk (Kd.R_drewN HO3.out nq)
    clear hw1 hw2 hw3
    by_cases hn : n = 0
    rotate_left
    ·have hne : (n == 0) = false := beq_eq_false_iff_ne.mpr hn
     have h := FH3.out
     rw [if_neg hn] at h
     have HG := Aside0.mk h
     clear h hn
     go_wp2_with fail
     obtain ⟨A7, n7, c7, rfl⟩ : ∃ A n c, u17 = Value.slice A n c := by obtain ⟨A, c, h⟩ := Kd.R_slice HO4.out; exact ⟨A, _, c, h⟩
     have HId := Aside0.mk (HI4.out.drew)
     have HWd := Aside0.mk (below_drew HW4.out)
     have HOd := Aside0.mk (Kd.R_drew HO4.out)
     obtain ⟨B5, d5, B6, d6, hblk, _, _, _⟩ := HI3.out
     have hs2 := (blk_cell hblk 2).trans (show _ = some (Value.int .i64 o') from rfl)
     have hs3 := (blk_cell hblk 3).trans (show _ = some (Value.int .i64 a') from rfl)
     have hs4 := (blk_cell hblk 4).trans (show _ = some (Value.int .i64 b') from rfl)
     clear hblk HI4 HW4 HO4
     go_region_held3 (fun w' => w'.cell? ⟨w2.heap.size, 2, none⟩ = some (.int .i64 o') ∧ w'.cell? ⟨w2.heap.size, 3, none⟩ = some (.int .i64 a') ∧ w'.cell? ⟨w2.heap.size, 4, none⟩ = some (.int .i64 b')) (go_keep)
      (first | (refine Kd.R_append_step k78 (w0 := w2) w2.heap.size (by rfl) (.tmp 108) (.tmp 130) 67 78 (.agg #[(.bool false), (.int .i64 0), (.int .i64 0), (.int .i64 0), (.int .i64 0), (.int .i64 0), (.int .i64 0)]) 56 rfl Try.underlying67 info78 rfl (by decide) (by decide) (.slice A7 n7 c7) out (⟨decide (n > 0), ⟨o', o1⟩, ⟨a', a1⟩, ⟨b', b1⟩⟩ : S78) [.bool (decide (n > 0)), .int .i64 o', .int .i64 o1, .int .i64 a', .int .i64 a1, .int .i64 b', .int .i64 b1] (fun q => q ≠ w2.heap.size) (fun _ => False) rfl rfl (k78_mkM _ _ _ (⟨decide (n > 0), ⟨o', o1⟩, ⟨a', a1⟩, ⟨b', b1⟩⟩ : S78)) (fun _ hk => hk.elim) ?aF HOd.out HWd.out HWd.out.size ?aL ?_; (case aF => exact fun q hq e => by rw [e] at hq; exact absurd hq (Nat.not_le.2 HId.out.lt)); (case aL => have := HOL.out; omega); intro v7 w7 ho hb2 hg2 hat2; have HO7 := Aside0.mk ho; have HB7 := Aside0.mk hb2; have HI7 := Aside0.mk (HId.out.grown hg2 (HId.out.own_ne HOd.out (by decide))); obtain ⟨B8, d8, B9, d9, hblk7, _, _, _⟩ := HI7.out; have HBK7 := Aside0.mk hblk7; have hz2 := (blk_cell hblk7 2).trans (show _ = some (Value.int .i64 o') from rfl); have hz3 := (blk_cell hblk7 3).trans (show _ = some (Value.int .i64 a') from rfl); have hz4 := (blk_cell hblk7 4).trans (show _ = some (Value.int .i64 b') from rfl); clear ho hb2 hg2 hat2 hblk7))
     have hf2 := blk_frozen HBK7.out 2
     have hf3 := blk_frozen HBK7.out 3
     have hf4 := blk_frozen HBK7.out 4
     obtain ⟨A9, n9, c9, rfl⟩ : ∃ A n c, v7 = Value.slice A n c := by obtain ⟨A, c, h⟩ := Kd.R_slice HO7.out; exact ⟨A, _, c, h⟩
     go_wp2_with fail
     go_roundg k1
     case rel => exact ⟨_, _, _, _, ⟨((HI7.out.set_2 _).set_3 _).set_4 _⟩, ⟨((HB7.out.setCell (Nat.le_refl _) _).setCell (Nat.le_refl _) _).setCell (Nat.le_refl _) _⟩, ⟨Kd.R_far (Kd.R_far (Kd.R_far HO7.out (fun _ hk => hk) _) (fun _ hk => hk) _) (fun _ hk => hk) _⟩, HG⟩
     case measure => omega
    ·subst hn
     have h := FH3.out
     rw [if_pos rfl] at h
     obtain ⟨⟨to1, o2, a2, b2⟩, hnx, h⟩ := Option.bind_eq_some_iff.1 h
     split at h
     case isFalse => cases h
     rename_i hG
     simp only [Prod.mk.injEq] at hG
     obtain ⟨rfl, rfl, rfl⟩ := hG
     simp only at h
     have FN := Aside0.mk hnx
     have FT := Aside0.mk h
     clear h hnx
     go_wp2_with fail
     refine (chunk_sweep_next.calls k w2.heap.size x y _ _ _ to1 _ _ _ w2 _ HI4.out HW4.out FN.out).mono ?_
     rintro e w5 ⟨rfl, hI5, hW5, hK5⟩
     have HO5 := Aside0.mk (Kd.R_keep HO4.out hK5 (fun _ hk => hk))
     have HI5 := Aside0.mk hI5
     have HW5 := Aside0.mk hW5
     clear hI5 hW5 hK5 hb23 hb33 hb43
     by_cases htb : to1 < base
     ·have ht1 : decide (to1 < base) = true := decide_eq_true htb
      have h := FT.out
      rw [if_pos htb] at h
      split at h
      case isFalse => cases h
      rename_i hG
      obtain ⟨g0, g1, g2⟩ := hG
      rw [show decide ((0 : Int) > 0) = false from rfl] at h
      have HG := Aside0.mk h
      clear h
      obtain ⟨adx, ex, hxx⟩ := Kd.at_int HX.out to1 g0 g1
      obtain ⟨ady, ey, hyy⟩ := Kd.at_int HY.out to1 g0 g2
      cases ex
      cases ey
      replace hxx := pw_cell_below HW5.out hxx
      replace hyy := pw_cell_below HW5.out hyy
      go_wp2_with fail
      go_quiet (fail)
      have HI6 := Aside0.mk (HI5.out.drewN nq)
      have HW6 := Aside0.mk (pw_below_drewN HW5.out nq)
      have HO6 := Aside0.mk (Kd.R_drewN HO5.out nq)
      clear hxx hyy
      go_wp2_with fail
      obtain ⟨A7, n7, c7, rfl⟩ : ∃ A n c, u17 = Value.slice A n c := by obtain ⟨A, c, h⟩ := Kd.R_slice HO6.out; exact ⟨A, _, c, h⟩
      have HId := Aside0.mk (HI6.out.drew)
      have HWd := Aside0.mk (below_drew HW6.out)
      have HOd := Aside0.mk (Kd.R_drew HO6.out)
      obtain ⟨B5, d5, B6, d6, hblk, _, _, _⟩ := HI5.out
      have hs2 := (blk_cell hblk 2).trans (show _ = some (Value.int .i64 o2) from rfl)
      have hs3 := (blk_cell hblk 3).trans (show _ = some (Value.int .i64 a2) from rfl)
      have hs4 := (blk_cell hblk 4).trans (show _ = some (Value.int .i64 b2) from rfl)
      clear hblk HI6 HW6 HO6
      go_region_held3 (fun w' => w'.cell? ⟨w2.heap.size, 2, none⟩ = some (.int .i64 o2) ∧ w'.cell? ⟨w2.heap.size, 3, none⟩ = some (.int .i64 a2) ∧ w'.cell? ⟨w2.heap.size, 4, none⟩ = some (.int .i64 b2)) (go_keep)
       (first | (refine Kd.R_append_step k78 (w0 := w2) w2.heap.size (by rfl) (.tmp 108) (.tmp 130) 67 78 (.agg #[(.bool false), (.int .i64 0), (.int .i64 0), (.int .i64 0), (.int .i64 0), (.int .i64 0), (.int .i64 0)]) 56 rfl Try.underlying67 info78 rfl (by decide) (by decide) (.slice A7 n7 c7) out (⟨false, ⟨o2, to1⟩, ⟨a2, (rd x to1)⟩, ⟨b2, (rd y to1)⟩⟩ : S78) [.bool (false), .int .i64 o2, .int .i64 to1, .int .i64 a2, .int .i64 (rd x to1), .int .i64 b2, .int .i64 (rd y to1)] (fun q => q ≠ w2.heap.size) (fun _ => False) rfl rfl (k78_mkM _ _ _ (⟨false, ⟨o2, to1⟩, ⟨a2, (rd x to1)⟩, ⟨b2, (rd y to1)⟩⟩ : S78)) (fun _ hk => hk.elim) ?aF HOd.out HWd.out HWd.out.size ?aL ?_; (case aF => exact fun q hq e => by rw [e] at hq; exact absurd hq (Nat.not_le.2 HId.out.lt)); (case aL => have := HOL.out; omega); intro v7 w7 ho hb2 hg2 hat2; have HO7 := Aside0.mk ho; have HB7 := Aside0.mk hb2; have HI7 := Aside0.mk (HId.out.grown hg2 (HId.out.own_ne HOd.out (by decide))); obtain ⟨B8, d8, B9, d9, hblk7, _, _, _⟩ := HI7.out; have HBK7 := Aside0.mk hblk7; have hz2 := (blk_cell hblk7 2).trans (show _ = some (Value.int .i64 o2) from rfl); have hz3 := (blk_cell hblk7 3).trans (show _ = some (Value.int .i64 a2) from rfl); have hz4 := (blk_cell hblk7 4).trans (show _ = some (Value.int .i64 b2) from rfl); clear ho hb2 hg2 hat2 hblk7))
      have hf2 := blk_frozen HBK7.out 2
      have hf3 := blk_frozen HBK7.out 3
      have hf4 := blk_frozen HBK7.out 4
      obtain ⟨A9, n9, c9, rfl⟩ : ∃ A n c, v7 = Value.slice A n c := by obtain ⟨A, c, h⟩ := Kd.R_slice HO7.out; exact ⟨A, _, c, h⟩
      go_wp2_with fail
      go_roundg k1
      case rel => exact ⟨_, _, _, _, ⟨((HI7.out.set_2 _).set_3 _).set_4 _⟩, ⟨((HB7.out.setCell (Nat.le_refl _) _).setCell (Nat.le_refl _) _).setCell (Nat.le_refl _) _⟩, ⟨Kd.R_far (Kd.R_far (Kd.R_far HO7.out (fun _ hk => hk) _) (fun _ hk => hk) _) (fun _ hk => hk) _⟩, HG⟩
      case measure => omega
     ·have ht1 : decide (to1 < base) = false := decide_eq_false htb
      have h := FT.out
      rw [if_neg htb, show decide ((0 : Int) > 0) = false from rfl] at h
      have HG := Aside0.mk h
      clear h
      go_wp2_with fail
      obtain ⟨A7, n7, c7, rfl⟩ : ∃ A n c, u17 = Value.slice A n c := by obtain ⟨A, c, h⟩ := Kd.R_slice HO5.out; exact ⟨A, _, c, h⟩
      have HId := Aside0.mk (HI5.out.drew)
      have HWd := Aside0.mk (below_drew HW5.out)
      have HOd := Aside0.mk (Kd.R_drew HO5.out)
      obtain ⟨B5, d5, B6, d6, hblk, _, _, _⟩ := HI5.out
      have hs2 := (blk_cell hblk 2).trans (show _ = some (Value.int .i64 o2) from rfl)
      have hs3 := (blk_cell hblk 3).trans (show _ = some (Value.int .i64 a2) from rfl)
      have hs4 := (blk_cell hblk 4).trans (show _ = some (Value.int .i64 b2) from rfl)
      clear hblk HI5 HW5 HO5
      go_region_held3 (fun w' => w'.cell? ⟨w2.heap.size, 2, none⟩ = some (.int .i64 o2) ∧ w'.cell? ⟨w2.heap.size, 3, none⟩ = some (.int .i64 a2) ∧ w'.cell? ⟨w2.heap.size, 4, none⟩ = some (.int .i64 b2)) (go_keep)
       (first | (refine Kd.R_append_step k78 (w0 := w2) w2.heap.size (by rfl) (.tmp 108) (.tmp 130) 67 78 (.agg #[(.bool false), (.int .i64 0), (.int .i64 0), (.int .i64 0), (.int .i64 0), (.int .i64 0), (.int .i64 0)]) 56 rfl Try.underlying67 info78 rfl (by decide) (by decide) (.slice A7 n7 c7) out (⟨false, ⟨o2, base⟩, ⟨a2, left⟩, ⟨b2, right⟩⟩ : S78) [.bool (false), .int .i64 o2, .int .i64 base, .int .i64 a2, .int .i64 left, .int .i64 b2, .int .i64 right] (fun q => q ≠ w2.heap.size) (fun _ => False) rfl rfl (k78_mkM _ _ _ (⟨false, ⟨o2, base⟩, ⟨a2, left⟩, ⟨b2, right⟩⟩ : S78)) (fun _ hk => hk.elim) ?aF HOd.out HWd.out HWd.out.size ?aL ?_; (case aF => exact fun q hq e => by rw [e] at hq; exact absurd hq (Nat.not_le.2 HId.out.lt)); (case aL => have := HOL.out; omega); intro v7 w7 ho hb2 hg2 hat2; have HO7 := Aside0.mk ho; have HB7 := Aside0.mk hb2; have HI7 := Aside0.mk (HId.out.grown hg2 (HId.out.own_ne HOd.out (by decide))); obtain ⟨B8, d8, B9, d9, hblk7, _, _, _⟩ := HI7.out; have HBK7 := Aside0.mk hblk7; have hz2 := (blk_cell hblk7 2).trans (show _ = some (Value.int .i64 o2) from rfl); have hz3 := (blk_cell hblk7 3).trans (show _ = some (Value.int .i64 a2) from rfl); have hz4 := (blk_cell hblk7 4).trans (show _ = some (Value.int .i64 b2) from rfl); clear ho hb2 hg2 hat2 hblk7))
      have hf2 := blk_frozen HBK7.out 2
      have hf3 := blk_frozen HBK7.out 3
      have hf4 := blk_frozen HBK7.out 4
      obtain ⟨A9, n9, c9, rfl⟩ : ∃ A n c, v7 = Value.slice A n c := by obtain ⟨A, c, h⟩ := Kd.R_slice HO7.out; exact ⟨A, _, c, h⟩
      go_wp2_with fail
      go_roundg k1
      case rel => exact ⟨_, _, _, _, ⟨((HI7.out.set_2 _).set_3 _).set_4 _⟩, ⟨((HB7.out.setCell (Nat.le_refl _) _).setCell (Nat.le_refl _) _).setCell (Nat.le_refl _) _⟩, ⟨Kd.R_far (Kd.R_far (Kd.R_far HO7.out (fun _ hk => hk) _) (fun _ hk => hk) _) (fun _ hk => hk) _⟩, HG⟩
      case measure => omega
   have q2 : decide (a' < left) = false := decide_eq_false h2
   have h3 : b' < right := by omega
   have q3 : decide (b' < right) = true := decide_eq_true h3
   clear hc h1 h2
   go_wp2_with fail
   refine (chunk_sweep_stable.calls k w2.heap.size x y _ _ _ n _ _ _ w2 _ HI.out HW.out FS.out).mono ?_
   rintro e w3 ⟨rfl, hI3, hW3, hK3⟩
   have HO3 := Aside0.mk (Kd.R_keep HO.out hK3 (fun _ hk => hk))
   have HI3 := Aside0.mk hI3
   have HW3 := Aside0.mk hW3
   obtain ⟨B0, d0, B1, d1, hblk, _, _, _⟩ := HI3.out
   have hb23 := (blk_cell hblk 2).trans (show _ = some (Value.int .i64 _) from rfl)
   have hb33 := (blk_cell hblk 3).trans (show _ = some (Value.int .i64 _) from rfl)
   have hb43 := (blk_cell hblk 4).trans (show _ = some (Value.int .i64 _) from rfl)
   clear hblk hI3 hW3 hK3
   go_wp2_with fail
   obtain ⟨o1, ho1⟩ : ∃ v, wrap64 (o' + n) = v := ⟨_, rfl⟩
   obtain ⟨a1, ha1⟩ : ∃ v, wrap64 (a' + n) = v := ⟨_, rfl⟩
   obtain ⟨b1, hb1⟩ : ∃ v, wrap64 (b' + n) = v := ⟨_, rfl⟩
   have hw1 : IntKind.i64.wrap (o' + n) = o1 := by rw [i64_w]; exact ho1
   have hw2 : IntKind.i64.wrap (a' + n) = a1 := by rw [i64_w]; exact ha1
   have hw3 : IntKind.i64.wrap (b' + n) = b1 := by rw [i64_w]; exact hb1
   have FH2 := FH.out
   rw [ho1, ha1, hb1] at FH2
   have FH3 := Aside0.mk FH2
   clear FH2 ho1 ha1 hb1
   go_quiet (fail)
   have HI4 := Aside0.mk (HI3.out.drewN nq)
   have HW4 := Aside0.mk (pw_below_drewN HW3.out nq)
   have HO4 := Aside0.mk (Kd.R_drewN HO3.out nq)
   clear hw1 hw2 hw3
   by_cases hn : n = 0
   rotate_left
   ·have hne : (n == 0) = false := beq_eq_false_iff_ne.mpr hn
    have h := FH3.out
    rw [if_neg hn] at h
    have HG := Aside0.mk h
    clear h hn
    go_wp2_with fail
    obtain ⟨A7, n7, c7, rfl⟩ : ∃ A n c, u17 = Value.slice A n c := by obtain ⟨A, c, h⟩ := Kd.R_slice HO4.out; exact ⟨A, _, c, h⟩
    have HId := Aside0.mk (HI4.out.drew)
    have HWd := Aside0.mk (below_drew HW4.out)
    have HOd := Aside0.mk (Kd.R_drew HO4.out)
    obtain ⟨B5, d5, B6, d6, hblk, _, _, _⟩ := HI3.out
    have hs2 := (blk_cell hblk 2).trans (show _ = some (Value.int .i64 o') from rfl)
    have hs3 := (blk_cell hblk 3).trans (show _ = some (Value.int .i64 a') from rfl)
    have hs4 := (blk_cell hblk 4).trans (show _ = some (Value.int .i64 b') from rfl)
    clear hblk HI4 HW4 HO4
    go_region_held3 (fun w' => w'.cell? ⟨w2.heap.size, 2, none⟩ = some (.int .i64 o') ∧ w'.cell? ⟨w2.heap.size, 3, none⟩ = some (.int .i64 a') ∧ w'.cell? ⟨w2.heap.size, 4, none⟩ = some (.int .i64 b')) (go_keep)
     (first | (refine Kd.R_append_step k78 (w0 := w2) w2.heap.size (by rfl) (.tmp 108) (.tmp 130) 67 78 (.agg #[(.bool false), (.int .i64 0), (.int .i64 0), (.int .i64 0), (.int .i64 0), (.int .i64 0), (.int .i64 0)]) 56 rfl Try.underlying67 info78 rfl (by decide) (by decide) (.slice A7 n7 c7) out (⟨decide (n > 0), ⟨o', o1⟩, ⟨a', a1⟩, ⟨b', b1⟩⟩ : S78) [.bool (decide (n > 0)), .int .i64 o', .int .i64 o1, .int .i64 a', .int .i64 a1, .int .i64 b', .int .i64 b1] (fun q => q ≠ w2.heap.size) (fun _ => False) rfl rfl (k78_mkM _ _ _ (⟨decide (n > 0), ⟨o', o1⟩, ⟨a', a1⟩, ⟨b', b1⟩⟩ : S78)) (fun _ hk => hk.elim) ?aF HOd.out HWd.out HWd.out.size ?aL ?_; (case aF => exact fun q hq e => by rw [e] at hq; exact absurd hq (Nat.not_le.2 HId.out.lt)); (case aL => have := HOL.out; omega); intro v7 w7 ho hb2 hg2 hat2; have HO7 := Aside0.mk ho; have HB7 := Aside0.mk hb2; have HI7 := Aside0.mk (HId.out.grown hg2 (HId.out.own_ne HOd.out (by decide))); obtain ⟨B8, d8, B9, d9, hblk7, _, _, _⟩ := HI7.out; have HBK7 := Aside0.mk hblk7; have hz2 := (blk_cell hblk7 2).trans (show _ = some (Value.int .i64 o') from rfl); have hz3 := (blk_cell hblk7 3).trans (show _ = some (Value.int .i64 a') from rfl); have hz4 := (blk_cell hblk7 4).trans (show _ = some (Value.int .i64 b') from rfl); clear ho hb2 hg2 hat2 hblk7))
    have hf2 := blk_frozen HBK7.out 2
    have hf3 := blk_frozen HBK7.out 3
    have hf4 := blk_frozen HBK7.out 4
    obtain ⟨A9, n9, c9, rfl⟩ : ∃ A n c, v7 = Value.slice A n c := by obtain ⟨A, c, h⟩ := Kd.R_slice HO7.out; exact ⟨A, _, c, h⟩
    go_wp2_with fail
    go_roundg k1
    case rel => exact ⟨_, _, _, _, ⟨((HI7.out.set_2 _).set_3 _).set_4 _⟩, ⟨((HB7.out.setCell (Nat.le_refl _) _).setCell (Nat.le_refl _) _).setCell (Nat.le_refl _) _⟩, ⟨Kd.R_far (Kd.R_far (Kd.R_far HO7.out (fun _ hk => hk) _) (fun _ hk => hk) _) (fun _ hk => hk) _⟩, HG⟩
    case measure => omega
   ·subst hn
    have h := FH3.out
    rw [if_pos rfl] at h
    obtain ⟨⟨to1, o2, a2, b2⟩, hnx, h⟩ := Option.bind_eq_some_iff.1 h
    split at h
    case isFalse => cases h
    rename_i hG
    simp only [Prod.mk.injEq] at hG
    obtain ⟨rfl, rfl, rfl⟩ := hG
    simp only at h
    have FN := Aside0.mk hnx
    have FT := Aside0.mk h
    clear h hnx
    go_wp2_with fail
    refine (chunk_sweep_next.calls k w2.heap.size x y _ _ _ to1 _ _ _ w2 _ HI4.out HW4.out FN.out).mono ?_
    rintro e w5 ⟨rfl, hI5, hW5, hK5⟩
    have HO5 := Aside0.mk (Kd.R_keep HO4.out hK5 (fun _ hk => hk))
    have HI5 := Aside0.mk hI5
    have HW5 := Aside0.mk hW5
    clear hI5 hW5 hK5 hb23 hb33 hb43
    by_cases htb : to1 < base
    ·have ht1 : decide (to1 < base) = true := decide_eq_true htb
     have h := FT.out
     rw [if_pos htb] at h
     split at h
     case isFalse => cases h
     rename_i hG
     obtain ⟨g0, g1, g2⟩ := hG
     rw [show decide ((0 : Int) > 0) = false from rfl] at h
     have HG := Aside0.mk h
     clear h
     obtain ⟨adx, ex, hxx⟩ := Kd.at_int HX.out to1 g0 g1
     obtain ⟨ady, ey, hyy⟩ := Kd.at_int HY.out to1 g0 g2
     cases ex
     cases ey
     replace hxx := pw_cell_below HW5.out hxx
     replace hyy := pw_cell_below HW5.out hyy
     go_wp2_with fail
     go_quiet (fail)
     have HI6 := Aside0.mk (HI5.out.drewN nq)
     have HW6 := Aside0.mk (pw_below_drewN HW5.out nq)
     have HO6 := Aside0.mk (Kd.R_drewN HO5.out nq)
     clear hxx hyy
     go_wp2_with fail
     obtain ⟨A7, n7, c7, rfl⟩ : ∃ A n c, u17 = Value.slice A n c := by obtain ⟨A, c, h⟩ := Kd.R_slice HO6.out; exact ⟨A, _, c, h⟩
     have HId := Aside0.mk (HI6.out.drew)
     have HWd := Aside0.mk (below_drew HW6.out)
     have HOd := Aside0.mk (Kd.R_drew HO6.out)
     obtain ⟨B5, d5, B6, d6, hblk, _, _, _⟩ := HI5.out
     have hs2 := (blk_cell hblk 2).trans (show _ = some (Value.int .i64 o2) from rfl)
     have hs3 := (blk_cell hblk 3).trans (show _ = some (Value.int .i64 a2) from rfl)
     have hs4 := (blk_cell hblk 4).trans (show _ = some (Value.int .i64 b2) from rfl)
     clear hblk HI6 HW6 HO6
     go_region_held3 (fun w' => w'.cell? ⟨w2.heap.size, 2, none⟩ = some (.int .i64 o2) ∧ w'.cell? ⟨w2.heap.size, 3, none⟩ = some (.int .i64 a2) ∧ w'.cell? ⟨w2.heap.size, 4, none⟩ = some (.int .i64 b2)) (go_keep)
      (first | (refine Kd.R_append_step k78 (w0 := w2) w2.heap.size (by rfl) (.tmp 108) (.tmp 130) 67 78 (.agg #[(.bool false), (.int .i64 0), (.int .i64 0), (.int .i64 0), (.int .i64 0), (.int .i64 0), (.int .i64 0)]) 56 rfl Try.underlying67 info78 rfl (by decide) (by decide) (.slice A7 n7 c7) out (⟨false, ⟨o2, to1⟩, ⟨a2, (rd x to1)⟩, ⟨b2, (rd y to1)⟩⟩ : S78) [.bool (false), .int .i64 o2, .int .i64 to1, .int .i64 a2, .int .i64 (rd x to1), .int .i64 b2, .int .i64 (rd y to1)] (fun q => q ≠ w2.heap.size) (fun _ => False) rfl rfl (k78_mkM _ _ _ (⟨false, ⟨o2, to1⟩, ⟨a2, (rd x to1)⟩, ⟨b2, (rd y to1)⟩⟩ : S78)) (fun _ hk => hk.elim) ?aF HOd.out HWd.out HWd.out.size ?aL ?_; (case aF => exact fun q hq e => by rw [e] at hq; exact absurd hq (Nat.not_le.2 HId.out.lt)); (case aL => have := HOL.out; omega); intro v7 w7 ho hb2 hg2 hat2; have HO7 := Aside0.mk ho; have HB7 := Aside0.mk hb2; have HI7 := Aside0.mk (HId.out.grown hg2 (HId.out.own_ne HOd.out (by decide))); obtain ⟨B8, d8, B9, d9, hblk7, _, _, _⟩ := HI7.out; have HBK7 := Aside0.mk hblk7; have hz2 := (blk_cell hblk7 2).trans (show _ = some (Value.int .i64 o2) from rfl); have hz3 := (blk_cell hblk7 3).trans (show _ = some (Value.int .i64 a2) from rfl); have hz4 := (blk_cell hblk7 4).trans (show _ = some (Value.int .i64 b2) from rfl); clear ho hb2 hg2 hat2 hblk7))
     have hf2 := blk_frozen HBK7.out 2
     have hf3 := blk_frozen HBK7.out 3
     have hf4 := blk_frozen HBK7.out 4
     obtain ⟨A9, n9, c9, rfl⟩ : ∃ A n c, v7 = Value.slice A n c := by obtain ⟨A, c, h⟩ := Kd.R_slice HO7.out; exact ⟨A, _, c, h⟩
     go_wp2_with fail
     go_roundg k1
     case rel => exact ⟨_, _, _, _, ⟨((HI7.out.set_2 _).set_3 _).set_4 _⟩, ⟨((HB7.out.setCell (Nat.le_refl _) _).setCell (Nat.le_refl _) _).setCell (Nat.le_refl _) _⟩, ⟨Kd.R_far (Kd.R_far (Kd.R_far HO7.out (fun _ hk => hk) _) (fun _ hk => hk) _) (fun _ hk => hk) _⟩, HG⟩
     case measure => omega
    ·have ht1 : decide (to1 < base) = false := decide_eq_false htb
     have h := FT.out
     rw [if_neg htb, show decide ((0 : Int) > 0) = false from rfl] at h
     have HG := Aside0.mk h
     clear h
     go_wp2_with fail
     obtain ⟨A7, n7, c7, rfl⟩ : ∃ A n c, u17 = Value.slice A n c := by obtain ⟨A, c, h⟩ := Kd.R_slice HO5.out; exact ⟨A, _, c, h⟩
     have HId := Aside0.mk (HI5.out.drew)
     have HWd := Aside0.mk (below_drew HW5.out)
     have HOd := Aside0.mk (Kd.R_drew HO5.out)
     obtain ⟨B5, d5, B6, d6, hblk, _, _, _⟩ := HI5.out
     have hs2 := (blk_cell hblk 2).trans (show _ = some (Value.int .i64 o2) from rfl)
     have hs3 := (blk_cell hblk 3).trans (show _ = some (Value.int .i64 a2) from rfl)
     have hs4 := (blk_cell hblk 4).trans (show _ = some (Value.int .i64 b2) from rfl)
     clear hblk HI5 HW5 HO5
     go_region_held3 (fun w' => w'.cell? ⟨w2.heap.size, 2, none⟩ = some (.int .i64 o2) ∧ w'.cell? ⟨w2.heap.size, 3, none⟩ = some (.int .i64 a2) ∧ w'.cell? ⟨w2.heap.size, 4, none⟩ = some (.int .i64 b2)) (go_keep)
      (first | (refine Kd.R_append_step k78 (w0 := w2) w2.heap.size (by rfl) (.tmp 108) (.tmp 130) 67 78 (.agg #[(.bool false), (.int .i64 0), (.int .i64 0), (.int .i64 0), (.int .i64 0), (.int .i64 0), (.int .i64 0)]) 56 rfl Try.underlying67 info78 rfl (by decide) (by decide) (.slice A7 n7 c7) out (⟨false, ⟨o2, base⟩, ⟨a2, left⟩, ⟨b2, right⟩⟩ : S78) [.bool (false), .int .i64 o2, .int .i64 base, .int .i64 a2, .int .i64 left, .int .i64 b2, .int .i64 right] (fun q => q ≠ w2.heap.size) (fun _ => False) rfl rfl (k78_mkM _ _ _ (⟨false, ⟨o2, base⟩, ⟨a2, left⟩, ⟨b2, right⟩⟩ : S78)) (fun _ hk => hk.elim) ?aF HOd.out HWd.out HWd.out.size ?aL ?_; (case aF => exact fun q hq e => by rw [e] at hq; exact absurd hq (Nat.not_le.2 HId.out.lt)); (case aL => have := HOL.out; omega); intro v7 w7 ho hb2 hg2 hat2; have HO7 := Aside0.mk ho; have HB7 := Aside0.mk hb2; have HI7 := Aside0.mk (HId.out.grown hg2 (HId.out.own_ne HOd.out (by decide))); obtain ⟨B8, d8, B9, d9, hblk7, _, _, _⟩ := HI7.out; have HBK7 := Aside0.mk hblk7; have hz2 := (blk_cell hblk7 2).trans (show _ = some (Value.int .i64 o2) from rfl); have hz3 := (blk_cell hblk7 3).trans (show _ = some (Value.int .i64 a2) from rfl); have hz4 := (blk_cell hblk7 4).trans (show _ = some (Value.int .i64 b2) from rfl); clear ho hb2 hg2 hat2 hblk7))
     have hf2 := blk_frozen HBK7.out 2
     have hf3 := blk_frozen HBK7.out 3
     have hf4 := blk_frozen HBK7.out 4
     obtain ⟨A9, n9, c9, rfl⟩ : ∃ A n c, v7 = Value.slice A n c := by obtain ⟨A, c, h⟩ := Kd.R_slice HO7.out; exact ⟨A, _, c, h⟩
     go_wp2_with fail
     go_roundg k1
     case rel => exact ⟨_, _, _, _, ⟨((HI7.out.set_2 _).set_3 _).set_4 _⟩, ⟨((HB7.out.setCell (Nat.le_refl _) _).setCell (Nat.le_refl _) _).setCell (Nat.le_refl _) _⟩, ⟨Kd.R_far (Kd.R_far (Kd.R_far HO7.out (fun _ hk => hk) _) (fun _ hk => hk) _) (fun _ hk => hk) _⟩, HG⟩
     case measure => omega
end Go.Proofs.Ytadafplbgophfaa.PA
end
section
/- Chunks: what the program's sweep answers. -/
namespace Go.Proofs.Ytadafplbgophfaa.PA
set_option linter.unusedSimpArgs false
set_option linter.unusedVariables false
open Go.RowKit Go.Proofs.YtadafplbgophfaaW.PrintWords Go.Proofs.YtadafplbgophfaaW.PrintLast Go.Proofs.YtadafplbgophfaaW.PrintMore
open Jdg
namespace Chk

/-- the two tables hold what the two matchings pair -/
structure Tabs (f g : Int → Int) (base : Int) (x y : List Int) : Prop where
  lx : (x.length : Int) = base
  ly : (y.length : Int) = base
  rx : ∀ i, 0 ≤ i → i < base → rd x i = f i
  ry : ∀ i, 0 ≤ i → i < base → rd y i = g i

theorem together_yes {f g : Int → Int} {base o a b m : Int} {x y : List Int} (T : Tabs f g base x y) (h0 : 0 ≤ o + m) (hA : At f g base (o + m) (a + m) (b + m)) (w1 : wrap64 (o + m) = o + m) (w2 : wrap64 (a + m) = a + m) (w3 : wrap64 (b + m) = b + m) :
    chunk_sweep_together.f x y o a b m = some (true, o, a, b) := by
  obtain ⟨h1, h2, h3⟩ := hA
  unfold chunk_sweep_together.f
  rw [w1, w2, w3, T.lx, T.ly, if_pos h1, if_pos h0, T.rx _ h0 h1, T.ry _ h0 h1, if_pos h2, if_pos h1, h3, beq_self_eq_true]
theorem together_no {f g : Int → Int} {base o a b m : Int} {x y : List Int} (T : Tabs f g base x y) (h0 : 0 ≤ o + m) (hA : ¬ At f g base (o + m) (a + m) (b + m)) (w1 : wrap64 (o + m) = o + m) (w2 : wrap64 (a + m) = a + m) (w3 : wrap64 (b + m) = b + m) :
    chunk_sweep_together.f x y o a b m = some (false, o, a, b) := by
  unfold chunk_sweep_together.f
  rw [w1, w2, w3, T.lx, T.ly]
  by_cases h1 : o + m < base
  · rw [if_pos h1, if_pos h0, T.rx _ h0 h1, T.ry _ h0 h1]
    by_cases h2 : f (o + m) = a + m
    · rw [if_pos h2, if_pos h1]
      have : (g (o + m) == b + m) = false := beq_eq_false_iff_ne.2 fun h3 => hA ⟨h1, h2, h3⟩
      rw [this]
    · rw [if_neg h2]
  · rw [if_neg h1]
theorem stable_ok {f g : Int → Int} {base left right o a b n : Int} {x y : List Int} (T : Tabs f g base x y) (hr : IsRun f g base o a b n) (hp : Pos base left right o a b) (hq : Pos base left right (o + n) (a + n) (b + n))
    (s1 : base ≤ 1000000) (s2 : left ≤ 1000000) (s3 : right ≤ 1000000) : Ev (fun k => chunk_sweep_stable.f k x y o a b) (n, o, a, b) := by
  obtain ⟨o0, o1, a0, a1, b0, b1⟩ := hp
  obtain ⟨p0, p1, q0, q1, r0, r1⟩ := hq
  have n0 := hr.n0
  obtain ⟨N, rfl⟩ := Int.eq_ofNat_of_zero_le n0
  have := down (P := fun i => Ev (fun k => chunk_sweep_stable.l0 k (i : Int) x y o a b) ((N : Int), o, a, b)) N (by
    refine Ev.step (f := fun _ => some ((N : Int), o, a, b)) (fun k => ?_) (Ev.now _)
    have ht := together_no T (by omega) hr.stop (w64 (by omega) (by omega)) (w64 (by omega) (by omega)) (w64 (by omega) (by omega))
    simp only [chunk_sweep_stable.l0]
    rw [ht]; rfl) (fun i hi ih => by
    refine Ev.step (fun k => ?_) ih
    have ht := together_yes T (by omega) (hr.all (i : Int) (by omega) (by omega)) (w64 (by omega) (by omega)) (w64 (by omega) (by omega)) (w64 (by omega) (by omega))
    simp only [chunk_sweep_stable.l0]
    rw [ht, next64 (by omega)]; rfl) 0 (by omega)
  exact this
theorem next_ok {f g : Int → Int} {base left right o a b t : Int} {x y : List Int} (T : Tabs f g base x y) (hn : IsNxt f g base o a b t) (hp : Pos base left right o a b)
    (s1 : base ≤ 1000000) : Ev (fun k => chunk_sweep_next.f k x y o a b) (t, o, a, b) := by
  obtain ⟨o0, o1, a0, a1, b0, b1⟩ := hp
  have t0 := hn.t0
  have t1 := hn.t1
  obtain ⟨N, rfl⟩ := Int.eq_ofNat_of_zero_le o0
  obtain ⟨M, rfl⟩ := Int.eq_ofNat_of_zero_le (show 0 ≤ t by omega)
  have := down (P := fun i => N ≤ i → Ev (fun k => chunk_sweep_next.l0 k (i : Int) x y N a b) ((M : Int), (N : Int), a, b)) M (by
    intro _
    refine Ev.step (f := fun _ => some ((M : Int), (N : Int), a, b)) (fun k => ?_) (Ev.now _)
    simp only [chunk_sweep_next.l0]
    rw [T.lx, T.ly]
    by_cases h : (M : Int) < base
    · obtain ⟨x1, x2⟩ := hn.stop h
      rw [if_pos h, if_pos (by omega), T.rx _ (by omega) h, T.ry _ (by omega) h, if_neg (by omega), if_pos h, if_neg (by omega)]
    · rw [if_neg h]) (fun i hi ih hN => by
    refine Ev.step (fun k => ?_) (ih (by omega))
    have h : (i : Int) < base := by omega
    simp only [chunk_sweep_next.l0]
    rw [T.lx, T.ly, if_pos h, if_pos (by omega), T.rx _ (by omega) h, T.ry _ (by omega) h, next64 (by omega)]
    by_cases h1 : f (i : Int) < a
    · rw [if_pos h1]
    · have h2 : g (i : Int) < b := by
        rcases hn.all (i : Int) (by omega) (by omega) with h | h
        · exact absurd h h1
        · exact h
      rw [if_neg h1, if_pos h, if_pos h2]) N (by omega) (Nat.le_refl _)
  exact this
def s76 (x : S79) : S76 := ⟨x.f0, x.f1⟩
def s79 (x : S76) : S79 := ⟨x.f0, x.f1⟩
def to78 (c : S81) : S78 := ⟨c.f0, s76 c.f1, s76 c.f2, s76 c.f3⟩
def to81 (c : S78) : S81 := ⟨c.f0, s79 c.f1, s79 c.f2, s79 c.f3⟩
theorem to81_to78 (c : S81) : to81 (to78 c) = c := rfl
theorem sweep_ok {f g : Int → Int} {base left right : Int} {x y : List Int} (T : Tabs f g base x y) (hf : ∀ i, f i < left) (hg : ∀ i, g i < right)
    (s1 : base ≤ 1000000) (s2 : left ≤ 1000000) (s3 : right ≤ 1000000) {o a b : Int} {cs : List S81} (h : Sw f g base left right o a b cs) :
    ∀ out : List S78, out.length + cs.length ≤ 1000000 → ∃ K, ∀ k fl, K ≤ k → K ≤ fl → sweepGo k x y base left right fl o a b out = some (out ++ cs.map to78) := by
  induction h with
  | done o a b hp hm =>
    intro out ho
    refine ⟨1, fun k fl hk hf => ?_⟩
    obtain ⟨fl, rfl⟩ : ∃ m, fl = m + 1 := ⟨fl - 1, by omega⟩
    rw [sweepGo, if_neg (show ¬ (o < base ∨ a < left ∨ b < right) from hm), List.map_nil, List.append_nil]
  | run o a b n cs hp hm hr hn h ih =>
    intro out ho
    rw [List.length_cons] at ho
    have hq := h.pos
    obtain ⟨K1, h1⟩ := stable_ok T hr hp hq s1 s2 s3
    obtain ⟨K2, h2⟩ := ih (out ++ [to78 ⟨true, ⟨o, o + n⟩, ⟨a, a + n⟩, ⟨b, b + n⟩⟩]) (by rw [List.length_append, List.length_singleton]; omega)
    refine ⟨K1 + K2 + 1, fun k fl hk hf => ?_⟩
    obtain ⟨fl, rfl⟩ : ∃ m, fl = m + 1 := ⟨fl - 1, by omega⟩
    obtain ⟨o0, o1, a0, a1, b0, b1⟩ := hp
    obtain ⟨p0, p1, q0, q1, r0, r1⟩ := hq
    rw [sweepGo, if_pos (show o < base ∨ a < left ∨ b < right from hm), show chunk_sweep_stable.f k x y o a b = _ from h1 k (by omega), Option.bind_some, if_pos ⟨rfl, by omega⟩, if_neg (show ¬ n = 0 by omega)]
    simp only
    rw [w64 (by omega) (by omega), w64 (by omega) (by omega), w64 (by omega) (by omega), decide_eq_true (show n > 0 from hn)]
    have := h2 k fl (by omega) (by omega)
    rw [List.append_assoc] at this
    exact this
  | gap o a b t cs hp hm hr hn ht h ih =>
    intro out ho
    rw [List.length_cons] at ho
    obtain ⟨K1, h1⟩ := stable_ok T hr hp (by rw [Int.add_zero, Int.add_zero, Int.add_zero]; exact hp) s1 s2 s3
    obtain ⟨K3, h3⟩ := next_ok T hn hp s1
    obtain ⟨K2, h2⟩ := ih (out ++ [to78 ⟨false, ⟨o, t⟩, ⟨a, f t⟩, ⟨b, g t⟩⟩]) (by rw [List.length_append, List.length_singleton]; omega)
    refine ⟨K1 + K2 + K3 + 1, fun k fl hk hf => ?_⟩
    obtain ⟨fl, rfl⟩ : ∃ m, fl = m + 1 := ⟨fl - 1, by omega⟩
    have t0 : 0 ≤ t := by have := hn.t0; have := hp.o0; omega
    rw [sweepGo, if_pos (show o < base ∨ a < left ∨ b < right from hm), show chunk_sweep_stable.f k x y o a b = _ from h1 k (by omega), Option.bind_some, if_pos ⟨rfl, by omega⟩, if_pos rfl, show chunk_sweep_next.f k x y o a b = _ from h3 k (by omega), Option.bind_some, if_pos rfl, if_pos (show t < base from ht), if_pos (by rw [T.lx, T.ly]; exact ⟨t0, ht, ht⟩)]
    simp only
    rw [T.rx t t0 ht, T.ry t t0 ht]
    have := h2 k fl (by omega) (by omega)
    rw [List.append_assoc] at this
    exact this
  | last o a b hp hm hr hn =>
    intro out ho
    obtain ⟨K1, h1⟩ := stable_ok T hr hp (by rw [Int.add_zero, Int.add_zero, Int.add_zero]; exact hp) s1 s2 s3
    obtain ⟨K3, h3⟩ := next_ok T hn hp s1
    refine ⟨K1 + K3 + 2, fun k fl hk hf => ?_⟩
    obtain ⟨fl, rfl⟩ : ∃ m, fl = m + 2 := ⟨fl - 2, by omega⟩
    rw [sweepGo, if_pos (show o < base ∨ a < left ∨ b < right from hm), show chunk_sweep_stable.f k x y o a b = _ from h1 k (by omega), Option.bind_some, if_pos ⟨rfl, by simp at ho; omega⟩, if_pos rfl, show chunk_sweep_next.f k x y o a b = _ from h3 k (by omega), Option.bind_some, if_pos rfl, if_neg (by simp only; omega), sweepGo, if_neg (by omega)]
    rfl
theorem tabs_ok {base left right : Int} {l r : List S37} (h0 : 0 ≤ base) (hl : riseB base left (-1) (-1) l = true) (hr : riseB base right (-1) (-1) r = true) : Tabs (matD (-1) l) (matD (-1) r) base (tab base l) (tab base r) :=
  ⟨tab_length l h0, tab_length r h0, fun i h1 h2 => rd_tab hl h0 h1 h2, fun i h1 h2 => rd_tab hr h0 h1 h2⟩
/-- may the two matchings be? -/
def okB (base left right : Int) (l r : List S37) : Bool := decide (0 ≤ base ∧ 0 ≤ left ∧ 0 ≤ right) && (riseB base left (-1) (-1) l && riseB base right (-1) (-1) r)
theorem okB_iff {base left right : Int} {l r : List S37} : okB base left right l r = true ↔ (0 ≤ base ∧ 0 ≤ left ∧ 0 ≤ right) ∧ riseB base left (-1) (-1) l = true ∧ riseB base right (-1) (-1) r = true := by
  simp [okB]
theorem of_no {base left right : Int} {l r : List S37} (hl : l.length ≤ 1000000) (hr : r.length ≤ 1000000) (s1 : base ≤ 1000000) (h : okB base left right l r = false) : Ev (fun k => chunk_Of.f k base left right (l.map to39) (r.map to39)) ([], 12) := by
  obtain ⟨K1, h1⟩ := table_ok base left l hl s1
  obtain ⟨K2, h2⟩ := table_ok base right r hr s1
  refine ⟨K1 + K2, fun k hk => ?_⟩
  show chunk_Of.f k base left right (l.map to39) (r.map to39) = some ([], 12)
  unfold chunk_Of.f
  rw [show chunk_table.f k base left (l.map to39) = _ from h1 k (by omega), Option.bind_some, show chunk_table.f k base right (r.map to39) = _ from h2 k (by omega), Option.bind_some, if_neg]
  intro hh
  have : okB base left right l r = true := by
    rw [okB_iff]
    obtain ⟨e1, e2⟩ := hh
    split at e1
    · rename_i c1
      split at e2
      · rename_i c2
        exact ⟨⟨c1.1, c1.2.1, c2.2.1⟩, c1.2.2, c2.2.2⟩
      · cases e2
    · cases e1
  rw [h] at this
  cases this
theorem of_yes {base left right : Int} {l r : List S37} (hl : l.length ≤ 1000000) (hr : r.length ≤ 1000000) (s1 : base ≤ 1000000) (s2 : left ≤ 1000000) (s3 : right ≤ 1000000) (h : okB base left right l r = true) {cs : List S81}
    (hs : Sw (matD (-1) l) (matD (-1) r) base left right 0 0 0 cs) (hc : cs.length ≤ 1000000) : Ev (fun k => chunk_Of.f k base left right (l.map to39) (r.map to39)) (cs.map to78, 0) := by
  obtain ⟨⟨h01, h02, h03⟩, hrl, hrr⟩ := okB_iff.1 h
  obtain ⟨K1, h1⟩ := table_ok base left l hl s1
  obtain ⟨K2, h2⟩ := table_ok base right r hr s1
  obtain ⟨K3, h3⟩ := sweep_ok (tabs_ok h01 hrl hrr) (fun i => matD_lt (-1) (by omega) l _ _ i hrl) (fun i => matD_lt (-1) (by omega) r _ _ i hrr) s1 s2 s3 hs [] (by simpa using hc)
  refine ⟨K1 + K2 + K3, fun k hk => ?_⟩
  show chunk_Of.f k base left right (l.map to39) (r.map to39) = some (cs.map to78, 0)
  unfold chunk_Of.f
  rw [show chunk_table.f k base left (l.map to39) = _ from h1 k (by omega), Option.bind_some, show chunk_table.f k base right (r.map to39) = _ from h2 k (by omega), Option.bind_some, if_pos (c := 0 ≤ base ∧ _) ⟨h01, h02, hrl⟩, if_pos (c := 0 ≤ base ∧ _) ⟨h01, h03, hrr⟩, if_pos ⟨rfl, rfl⟩, h3 k k (by omega) (by omega)]
  rfl
end Chk
end Go.Proofs.Ytadafplbgophfaa.PA
end
section
-- Written by a program of this seat out of the translation. Not trusted: Lean checks it.
namespace Go.Proofs.Ytadafplbgophfaa.PA
open Go.RowKit Go.Proofs.YtadafplbgophfaaW.PrintWords Go.Proofs.YtadafplbgophfaaW.PrintLast Go.Proofs.YtadafplbgophfaaW.PrintMore
attribute [local go_sem] max2_int min2_int max_two min_two max_three min_three max_four min_four   -- for this text's walks alone
set_option linter.unusedVariables false
set_option linter.unusedSimpArgs false

/-! ### tripartiteref06_Of: function 50 -/
mutual
def tripartiteref06_Of.j0 : Nat → Int → Int → Int → List (S37) → List (S37) → Bool → Option ((List (S81)) × Bool)
  | 0, _, _, _, _, _, _ => none
  | k + 1, x0, x1, x2, x3, x4, x42 => if x42 = true then (some (([] : List (S81)), false)) else (tripartiteref06_Of.l0 k x0 x1 x2 x3 x4 ([] : List (S81)) 0 0 0)
def tripartiteref06_Of.l0 : Nat → Int → Int → Int → List (S37) → List (S37) → List (S81) → Int → Int → Int → Option ((List (S81)) × Bool)
  | 0, _, _, _, _, _, _, _, _, _ => none
  | k + 1, x0, x1, x2, x3, x4, x12, x13, x14, x15 => if x13 < x0 then (tripartiteref06_Of.j2 k x0 x1 x2 x3 x4 x12 x13 x14 x15 true) else (if x14 < x1 then (tripartiteref06_Of.j2 k x0 x1 x2 x3 x4 x12 x13 x14 x15 true) else (tripartiteref06_Of.j2 k x0 x1 x2 x3 x4 x12 x13 x14 x15 (decide (x15 < x2))))
def tripartiteref06_Of.j2 : Nat → Int → Int → Int → List (S37) → List (S37) → List (S81) → Int → Int → Int → Bool → Option ((List (S81)) × Bool)
  | 0, _, _, _, _, _, _, _, _, _, _ => none
  | k + 1, x0, x1, x2, x3, x4, x12, x13, x14, x15, x55 => if x55 = true then (tripartiteref06_Of.l1 k x0 x1 x2 x3 x4 x12 x13 x14 x15 0) else (some (x12, true))
def tripartiteref06_Of.j4 : Nat → Int → Int → Int → List (S37) → List (S37) → List (S81) → Int → Int → Int → Int → Option ((List (S81)) × Bool)
  | 0, _, _, _, _, _, _, _, _, _, _ => none
  | k + 1, x0, x1, x2, x3, x4, x12, x13, x14, x15, x16 => if x16 = 0 then (tripartiteref06_Of.l2 k x0 x1 x2 x3 x4 x12 x14 x15 x13 (decide (x16 > 0)) x13 (wrap64 (x13 + x16)) x14 (wrap64 (x14 + x16)) x15 (wrap64 (x15 + x16))) else (if x12.length < 2513169434916 then (tripartiteref06_Of.l0 k x0 x1 x2 x3 x4 (x12 ++ [(⟨decide (x16 > 0), (⟨x13, wrap64 (x13 + x16)⟩ : S79), (⟨x14, wrap64 (x14 + x16)⟩ : S79), (⟨x15, wrap64 (x15 + x16)⟩ : S79)⟩ : S81)]) (wrap64 (x13 + x16)) (wrap64 (x14 + x16)) (wrap64 (x15 + x16))) else (none))
def tripartiteref06_Of.j6 : Nat → Int → Int → Int → List (S37) → List (S37) → List (S81) → Int → Bool → Int → Int → Int → Int → Int → Int → Option ((List (S81)) × Bool)
  | 0, _, _, _, _, _, _, _, _, _, _, _, _, _, _ => none
  | k + 1, x0, x1, x2, x3, x4, x12, x18, x106000, x106001, x106002, x106003, x106004, x106005, x106006 => if x18 < x0 then ((tripartiteref06_at.f k x3 x18).bind fun t108 => ((tripartiteref06_at.f k x4 x18).bind fun t109 => (if x12.length < 2513169434916 then (tripartiteref06_Of.l0 k x0 x1 x2 x3 x4 (x12 ++ [(⟨x106000, (⟨x106001, x18⟩ : S79), (⟨x106003, t108⟩ : S79), (⟨x106005, t109⟩ : S79)⟩ : S81)]) x18 t108 t109) else (none)))) else (if x12.length < 2513169434916 then (tripartiteref06_Of.l0 k x0 x1 x2 x3 x4 (x12 ++ [(⟨x106000, (⟨x106001, x0⟩ : S79), (⟨x106003, x1⟩ : S79), (⟨x106005, x2⟩ : S79)⟩ : S81)]) x0 x1 x2) else (none))
def tripartiteref06_Of.l2 : Nat → Int → Int → Int → List (S37) → List (S37) → List (S81) → Int → Int → Int → Bool → Int → Int → Int → Int → Int → Int → Option ((List (S81)) × Bool)
  | 0, _, _, _, _, _, _, _, _, _, _, _, _, _, _, _, _ => none
  | k + 1, x0, x1, x2, x3, x4, x12, x14, x15, x18, x106000, x106001, x106002, x106003, x106004, x106005, x106006 => if x18 < x0 then ((tripartiteref06_at.f k x3 x18).bind fun t106 => (if t106 < x14 then (tripartiteref06_Of.l2 k x0 x1 x2 x3 x4 x12 x14 x15 (wrap64 (x18 + 1)) x106000 x106001 x106002 x106003 x106004 x106005 x106006) else ((tripartiteref06_at.f k x4 x18).bind fun t107 => (if t107 < x15 then (tripartiteref06_Of.l2 k x0 x1 x2 x3 x4 x12 x14 x15 (wrap64 (x18 + 1)) x106000 x106001 x106002 x106003 x106004 x106005 x106006) else (tripartiteref06_Of.j6 k x0 x1 x2 x3 x4 x12 x18 x106000 x106001 x106002 x106003 x106004 x106005 x106006))))) else (tripartiteref06_Of.j6 k x0 x1 x2 x3 x4 x12 x18 x106000 x106001 x106002 x106003 x106004 x106005 x106006)
def tripartiteref06_Of.l1 : Nat → Int → Int → Int → List (S37) → List (S37) → List (S81) → Int → Int → Int → Int → Option ((List (S81)) × Bool)
  | 0, _, _, _, _, _, _, _, _, _, _ => none
  | k + 1, x0, x1, x2, x3, x4, x12, x13, x14, x15, x16 => if (wrap64 (x13 + x16)) < x0 then ((tripartiteref06_at.f k x3 (wrap64 (x13 + x16))).bind fun t103 => (if t103 = (wrap64 (x14 + x16)) then ((tripartiteref06_at.f k x4 (wrap64 (x13 + x16))).bind fun t104 => (if t104 = (wrap64 (x15 + x16)) then (tripartiteref06_Of.l1 k x0 x1 x2 x3 x4 x12 x13 x14 x15 (wrap64 (x16 + 1))) else (tripartiteref06_Of.j4 k x0 x1 x2 x3 x4 x12 x13 x14 x15 x16))) else (tripartiteref06_Of.j4 k x0 x1 x2 x3 x4 x12 x13 x14 x15 x16))) else (tripartiteref06_Of.j4 k x0 x1 x2 x3 x4 x12 x13 x14 x15 x16)
end
def tripartiteref06_Of.f (k : Nat) (a0 : Int) (a1 : Int) (a2 : Int) (l3 : List (S37)) (l4 : List (S37)) : Option ((List (S81)) × Bool) := if a0 < 0 then (tripartiteref06_Of.j0 k a0 a1 a2 l3 l4 true) else (if a1 < 0 then (tripartiteref06_Of.j0 k a0 a1 a2 l3 l4 true) else (if a2 < 0 then (tripartiteref06_Of.j0 k a0 a1 a2 l3 l4 true) else ((tripartiteref06_rises.f k a0 a1 l3).bind fun t101 => (if t101 = true then ((tripartiteref06_rises.f k a0 a2 l4).bind fun t102 => (tripartiteref06_Of.j0 k a0 a1 a2 l3 l4 (!t102))) else (tripartiteref06_Of.j0 k a0 a1 a2 l3 l4 true)))))
theorem tripartiteref06_Of.mono_l : ∀ k, (∀ y0 y1 y2 y3 y4 y5, LeO (tripartiteref06_Of.j0 k y0 y1 y2 y3 y4 y5) (tripartiteref06_Of.j0 (k + 1) y0 y1 y2 y3 y4 y5)) ∧ (∀ y0 y1 y2 y3 y4 y5 y6 y7 y8, LeO (tripartiteref06_Of.l0 k y0 y1 y2 y3 y4 y5 y6 y7 y8) (tripartiteref06_Of.l0 (k + 1) y0 y1 y2 y3 y4 y5 y6 y7 y8)) ∧ (∀ y0 y1 y2 y3 y4 y5 y6 y7 y8 y9, LeO (tripartiteref06_Of.j2 k y0 y1 y2 y3 y4 y5 y6 y7 y8 y9) (tripartiteref06_Of.j2 (k + 1) y0 y1 y2 y3 y4 y5 y6 y7 y8 y9)) ∧ (∀ y0 y1 y2 y3 y4 y5 y6 y7 y8 y9, LeO (tripartiteref06_Of.j4 k y0 y1 y2 y3 y4 y5 y6 y7 y8 y9) (tripartiteref06_Of.j4 (k + 1) y0 y1 y2 y3 y4 y5 y6 y7 y8 y9)) ∧ (∀ y0 y1 y2 y3 y4 y5 y6 y7 y8 y9 y10 y11 y12 y13, LeO (tripartiteref06_Of.j6 k y0 y1 y2 y3 y4 y5 y6 y7 y8 y9 y10 y11 y12 y13) (tripartiteref06_Of.j6 (k + 1) y0 y1 y2 y3 y4 y5 y6 y7 y8 y9 y10 y11 y12 y13)) ∧ (∀ y0 y1 y2 y3 y4 y5 y6 y7 y8 y9 y10 y11 y12 y13 y14 y15, LeO (tripartiteref06_Of.l2 k y0 y1 y2 y3 y4 y5 y6 y7 y8 y9 y10 y11 y12 y13 y14 y15) (tripartiteref06_Of.l2 (k + 1) y0 y1 y2 y3 y4 y5 y6 y7 y8 y9 y10 y11 y12 y13 y14 y15)) ∧ (∀ y0 y1 y2 y3 y4 y5 y6 y7 y8 y9, LeO (tripartiteref06_Of.l1 k y0 y1 y2 y3 y4 y5 y6 y7 y8 y9) (tripartiteref06_Of.l1 (k + 1) y0 y1 y2 y3 y4 y5 y6 y7 y8 y9))
  | 0 => ⟨fun _ _ _ _ _ _ r h => by simp [tripartiteref06_Of.j0] at h, fun _ _ _ _ _ _ _ _ _ r h => by simp [tripartiteref06_Of.l0] at h, fun _ _ _ _ _ _ _ _ _ _ r h => by simp [tripartiteref06_Of.j2] at h, fun _ _ _ _ _ _ _ _ _ _ r h => by simp [tripartiteref06_Of.j4] at h, fun _ _ _ _ _ _ _ _ _ _ _ _ _ _ r h => by simp [tripartiteref06_Of.j6] at h, fun _ _ _ _ _ _ _ _ _ _ _ _ _ _ _ _ r h => by simp [tripartiteref06_Of.l2] at h, fun _ _ _ _ _ _ _ _ _ _ r h => by simp [tripartiteref06_Of.l1] at h⟩
  | k + 1 => by
    obtain ⟨ih0, ih1, ih2, ih3, ih4, ih5, ih6⟩ := tripartiteref06_Of.mono_l k
    refine ⟨?_, ?_, ?_, ?_, ?_, ?_, ?_⟩
    · intro y0 y1 y2 y3 y4 y5
      unfold tripartiteref06_Of.j0
      repeat' first
      | (with_reducible exact ih0 _ _ _ _ _ _)
      | (with_reducible exact ih1 _ _ _ _ _ _ _ _ _)
      | (with_reducible exact ih2 _ _ _ _ _ _ _ _ _ _)
      | (with_reducible exact ih3 _ _ _ _ _ _ _ _ _ _)
      | (with_reducible exact ih4 _ _ _ _ _ _ _ _ _ _ _ _ _ _)
      | (with_reducible exact ih5 _ _ _ _ _ _ _ _ _ _ _ _ _ _ _ _)
      | (with_reducible exact ih6 _ _ _ _ _ _ _ _ _ _)
      | (with_reducible exact tripartiteref06_at.mono _ _ _)
      | (with_reducible exact tripartiteref06_rises.mono _ _ _ _)
      | (with_reducible exact LeO.refl _)
      | (with_reducible exact LeO.none _)
      | (with_reducible refine LeO.ite ?_ ?_)
      | (with_reducible refine LeO.bind ?_ (fun _ => ?_))
      | exact ih0 _ _ _ _ _ _
      | exact ih1 _ _ _ _ _ _ _ _ _
      | exact ih2 _ _ _ _ _ _ _ _ _ _
      | exact ih3 _ _ _ _ _ _ _ _ _ _
      | exact ih4 _ _ _ _ _ _ _ _ _ _ _ _ _ _
      | exact ih5 _ _ _ _ _ _ _ _ _ _ _ _ _ _ _ _
      | exact ih6 _ _ _ _ _ _ _ _ _ _
      | exact tripartiteref06_at.mono _ _ _
      | exact tripartiteref06_rises.mono _ _ _ _
      | exact LeO.none _
      | refine LeO.ite ?_ ?_
      | refine LeO.bind ?_ (fun _ => ?_)
    · intro y0 y1 y2 y3 y4 y5 y6 y7 y8
      unfold tripartiteref06_Of.l0
      repeat' first
      | (with_reducible exact ih0 _ _ _ _ _ _)
      | (with_reducible exact ih1 _ _ _ _ _ _ _ _ _)
      | (with_reducible exact ih2 _ _ _ _ _ _ _ _ _ _)
      | (with_reducible exact ih3 _ _ _ _ _ _ _ _ _ _)
      | (with_reducible exact ih4 _ _ _ _ _ _ _ _ _ _ _ _ _ _)
      | (with_reducible exact ih5 _ _ _ _ _ _ _ _ _ _ _ _ _ _ _ _)
      | (with_reducible exact ih6 _ _ _ _ _ _ _ _ _ _)
      | (with_reducible exact tripartiteref06_at.mono _ _ _)
      | (with_reducible exact tripartiteref06_rises.mono _ _ _ _)
      | (with_reducible exact LeO.refl _)
      | (with_reducible exact LeO.none _)
      | (with_reducible refine LeO.ite ?_ ?_)
      | (with_reducible refine LeO.bind ?_ (fun _ => ?_))
      | exact ih0 _ _ _ _ _ _
      | exact ih1 _ _ _ _ _ _ _ _ _
      | exact ih2 _ _ _ _ _ _ _ _ _ _
      | exact ih3 _ _ _ _ _ _ _ _ _ _
      | exact ih4 _ _ _ _ _ _ _ _ _ _ _ _ _ _
      | exact ih5 _ _ _ _ _ _ _ _ _ _ _ _ _ _ _ _
      | exact ih6 _ _ _ _ _ _ _ _ _ _
      | exact tripartiteref06_at.mono _ _ _
      | exact tripartiteref06_rises.mono _ _ _ _
      | exact LeO.none _
      | refine LeO.ite ?_ ?_
      | refine LeO.bind ?_ (fun _ => ?_)
    · intro y0 y1 y2 y3 y4 y5 y6 y7 y8 y9
      unfold tripartiteref06_Of.j2
      repeat' first
      | (with_reducible exact ih0 _ _ _ _ _ _)
      | (with_reducible exact ih1 _ _ _ _ _ _ _ _ _)
      | (with_reducible exact ih2 _ _ _ _ _ _ _ _ _ _)
      | (with_reducible exact ih3 _ _ _ _ _ _ _ _ _ _)
      | (with_reducible exact ih4 _ _ _ _ _ _ _ _ _ _ _ _ _ _)
      | (with_reducible exact ih5 _ _ _ _ _ _ _ _ _ _ _ _ _ _ _ _)
      | (with_reducible exact ih6 _ _ _ _ _ _ _ _ _ _)
      | (with_reducible exact tripartiteref06_at.mono _ _ _)
      | (with_reducible exact tripartiteref06_rises.mono _ _ _ _)
      | (with_reducible exact LeO.refl _)
      | (with_reducible exact LeO.none _)
      | (with_reducible refine LeO.ite ?_ ?_)
      | (with_reducible refine LeO.bind ?_ (fun _ => ?_))
      | exact ih0 _ _ _ _ _ _
      | exact ih1 _ _ _ _ _ _ _ _ _
      | exact ih2 _ _ _ _ _ _ _ _ _ _
      | exact ih3 _ _ _ _ _ _ _ _ _ _
      | exact ih4 _ _ _ _ _ _ _ _ _ _ _ _ _ _
      | exact ih5 _ _ _ _ _ _ _ _ _ _ _ _ _ _ _ _
      | exact ih6 _ _ _ _ _ _ _ _ _ _
      | exact tripartiteref06_at.mono _ _ _
      | exact tripartiteref06_rises.mono _ _ _ _
      | exact LeO.none _
      | refine LeO.ite ?_ ?_
      | refine LeO.bind ?_ (fun _ => ?_)
    · intro y0 y1 y2 y3 y4 y5 y6 y7 y8 y9
      unfold tripartiteref06_Of.j4
      repeat' first
      | (with_reducible exact ih0 _ _ _ _ _ _)
      | (with_reducible exact ih1 _ _ _ _ _ _ _ _ _)
      | (with_reducible exact ih2 _ _ _ _ _ _ _ _ _ _)
      | (with_reducible exact ih3 _ _ _ _ _ _ _ _ _ _)
      | (with_reducible exact ih4 _ _ _ _ _ _ _ _ _ _ _ _ _ _)
      | (with_reducible exact ih5 _ _ _ _ _ _ _ _ _ _ _ _ _ _ _ _)
      | (with_reducible exact ih6 _ _ _ _ _ _ _ _ _ _)
      | (with_reducible exact tripartiteref06_at.mono _ _ _)
      | (with_reducible exact tripartiteref06_rises.mono _ _ _ _)
      | (with_reducible exact LeO.refl _)
      | (with_reducible exact LeO.none _)
      | (with_reducible refine LeO.ite ?_ ?_)
      | (with_reducible refine LeO.bind ?_ (fun _ => ?_))
      | exact ih0 _ _ _ _ _ _
      | exact ih1 _ _ _ _ _ _ _ _ _
      | exact ih2 _ _ _ _ _ _ _ _ _ _
      | exact ih3 _ _ _ _ _ _ _ _ _ _
      | exact ih4 _ _ _ _ _ _ _ _ _ _ _ _ _ _
      | exact ih5 _ _ _ _ _ _ _ _ _ _ _ _ _ _ _ _
      | exact ih6 _ _ _ _ _ _ _ _ _ _
      | exact tripartiteref06_at.mono _ _ _
      | exact tripartiteref06_rises.mono _ _ _ _
      | exact LeO.none _
      | refine LeO.ite ?_ ?_
      | refine LeO.bind ?_ (fun _ => ?_)
    · intro y0 y1 y2 y3 y4 y5 y6 y7 y8 y9 y10 y11 y12 y13
      unfold tripartiteref06_Of.j6
      repeat' first
      | (with_reducible exact ih0 _ _ _ _ _ _)
      | (with_reducible exact ih1 _ _ _ _ _ _ _ _ _)
      | (with_reducible exact ih2 _ _ _ _ _ _ _ _ _ _)
      | (with_reducible exact ih3 _ _ _ _ _ _ _ _ _ _)
      | (with_reducible exact ih4 _ _ _ _ _ _ _ _ _ _ _ _ _ _)
      | (with_reducible exact ih5 _ _ _ _ _ _ _ _ _ _ _ _ _ _ _ _)
      | (with_reducible exact ih6 _ _ _ _ _ _ _ _ _ _)
      | (with_reducible exact tripartiteref06_at.mono _ _ _)
      | (with_reducible exact tripartiteref06_rises.mono _ _ _ _)
      | (with_reducible exact LeO.refl _)
      | (with_reducible exact LeO.none _)
      | (with_reducible refine LeO.ite ?_ ?_)
      | (with_reducible refine LeO.bind ?_ (fun _ => ?_))
      | exact ih0 _ _ _ _ _ _
      | exact ih1 _ _ _ _ _ _ _ _ _
      | exact ih2 _ _ _ _ _ _ _ _ _ _
      | exact ih3 _ _ _ _ _ _ _ _ _ _
      | exact ih4 _ _ _ _ _ _ _ _ _ _ _ _ _ _
      | exact ih5 _ _ _ _ _ _ _ _ _ _ _ _ _ _ _ _
      | exact ih6 _ _ _ _ _ _ _ _ _ _
      | exact tripartiteref06_at.mono _ _ _
      | exact tripartiteref06_rises.mono _ _ _ _
      | exact LeO.none _
      | refine LeO.ite ?_ ?_
      | refine LeO.bind ?_ (fun _ => ?_)
    · intro y0 y1 y2 y3 y4 y5 y6 y7 y8 y9 y10 y11 y12 y13 y14 y15
      unfold tripartiteref06_Of.l2
      repeat' first
      | (with_reducible exact ih0 _ _ _ _ _ _)
      | (with_reducible exact ih1 _ _ _ _ _ _ _ _ _)
      | (with_reducible exact ih2 _ _ _ _ _ _ _ _ _ _)
      | (with_reducible exact ih3 _ _ _ _ _ _ _ _ _ _)
      | (with_reducible exact ih4 _ _ _ _ _ _ _ _ _ _ _ _ _ _)
      | (with_reducible exact ih5 _ _ _ _ _ _ _ _ _ _ _ _ _ _ _ _)
      | (with_reducible exact ih6 _ _ _ _ _ _ _ _ _ _)
      | (with_reducible exact tripartiteref06_at.mono _ _ _)
      | (with_reducible exact tripartiteref06_rises.mono _ _ _ _)
      | (with_reducible exact LeO.refl _)
      | (with_reducible exact LeO.none _)
      | (with_reducible refine LeO.ite ?_ ?_)
      | (with_reducible refine LeO.bind ?_ (fun _ => ?_))
      | exact ih0 _ _ _ _ _ _
      | exact ih1 _ _ _ _ _ _ _ _ _
      | exact ih2 _ _ _ _ _ _ _ _ _ _
      | exact ih3 _ _ _ _ _ _ _ _ _ _
      | exact ih4 _ _ _ _ _ _ _ _ _ _ _ _ _ _
      | exact ih5 _ _ _ _ _ _ _ _ _ _ _ _ _ _ _ _
      | exact ih6 _ _ _ _ _ _ _ _ _ _
      | exact tripartiteref06_at.mono _ _ _
      | exact tripartiteref06_rises.mono _ _ _ _
      | exact LeO.none _
      | refine LeO.ite ?_ ?_
      | refine LeO.bind ?_ (fun _ => ?_)
    · intro y0 y1 y2 y3 y4 y5 y6 y7 y8 y9
      unfold tripartiteref06_Of.l1
      repeat' first
      | (with_reducible exact ih0 _ _ _ _ _ _)
      | (with_reducible exact ih1 _ _ _ _ _ _ _ _ _)
      | (with_reducible exact ih2 _ _ _ _ _ _ _ _ _ _)
      | (with_reducible exact ih3 _ _ _ _ _ _ _ _ _ _)
      | (with_reducible exact ih4 _ _ _ _ _ _ _ _ _ _ _ _ _ _)
      | (with_reducible exact ih5 _ _ _ _ _ _ _ _ _ _ _ _ _ _ _ _)
      | (with_reducible exact ih6 _ _ _ _ _ _ _ _ _ _)
      | (with_reducible exact tripartiteref06_at.mono _ _ _)
      | (with_reducible exact tripartiteref06_rises.mono _ _ _ _)
      | (with_reducible exact LeO.refl _)
      | (with_reducible exact LeO.none _)
      | (with_reducible refine LeO.ite ?_ ?_)
      | (with_reducible refine LeO.bind ?_ (fun _ => ?_))
      | exact ih0 _ _ _ _ _ _
      | exact ih1 _ _ _ _ _ _ _ _ _
      | exact ih2 _ _ _ _ _ _ _ _ _ _
      | exact ih3 _ _ _ _ _ _ _ _ _ _
      | exact ih4 _ _ _ _ _ _ _ _ _ _ _ _ _ _
      | exact ih5 _ _ _ _ _ _ _ _ _ _ _ _ _ _ _ _
      | exact ih6 _ _ _ _ _ _ _ _ _ _
      | exact tripartiteref06_at.mono _ _ _
      | exact tripartiteref06_rises.mono _ _ _ _
      | exact LeO.none _
      | refine LeO.ite ?_ ?_
      | refine LeO.bind ?_ (fun _ => ?_)
theorem tripartiteref06_Of.mono : ∀ a0 a1 a2 a3 a4 k, LeO (tripartiteref06_Of.f k a0 a1 a2 a3 a4) (tripartiteref06_Of.f (k + 1) a0 a1 a2 a3 a4) := by
  intro a0 a1 a2 a3 a4 k
  obtain ⟨ih0, ih1, ih2, ih3, ih4, ih5, ih6⟩ := tripartiteref06_Of.mono_l k
  unfold tripartiteref06_Of.f
  repeat' first
      | (with_reducible exact ih0 _ _ _ _ _ _)
      | (with_reducible exact ih1 _ _ _ _ _ _ _ _ _)
      | (with_reducible exact ih2 _ _ _ _ _ _ _ _ _ _)
      | (with_reducible exact ih3 _ _ _ _ _ _ _ _ _ _)
      | (with_reducible exact ih4 _ _ _ _ _ _ _ _ _ _ _ _ _ _)
      | (with_reducible exact ih5 _ _ _ _ _ _ _ _ _ _ _ _ _ _ _ _)
      | (with_reducible exact ih6 _ _ _ _ _ _ _ _ _ _)
      | (with_reducible exact tripartiteref06_at.mono _ _ _)
      | (with_reducible exact tripartiteref06_rises.mono _ _ _ _)
      | (with_reducible exact LeO.refl _)
      | (with_reducible exact LeO.none _)
      | (with_reducible refine LeO.ite ?_ ?_)
      | (with_reducible refine LeO.bind ?_ (fun _ => ?_))
      | exact ih0 _ _ _ _ _ _
      | exact ih1 _ _ _ _ _ _ _ _ _
      | exact ih2 _ _ _ _ _ _ _ _ _ _
      | exact ih3 _ _ _ _ _ _ _ _ _ _
      | exact ih4 _ _ _ _ _ _ _ _ _ _ _ _ _ _
      | exact ih5 _ _ _ _ _ _ _ _ _ _ _ _ _ _ _ _
      | exact ih6 _ _ _ _ _ _ _ _ _ _
      | exact tripartiteref06_at.mono _ _ _
      | exact tripartiteref06_rises.mono _ _ _ _
      | exact LeO.none _
      | refine LeO.ite ?_ ?_
      | refine LeO.bind ?_ (fun _ => ?_)
end Go.Proofs.Ytadafplbgophfaa.PA
end
section
/- Chunks: what the reference answers. -/
namespace Go.Proofs.Ytadafplbgophfaa.PA
set_option linter.unusedSimpArgs false
set_option linter.unusedVariables false
open Go.RowKit Go.Proofs.YtadafplbgophfaaW.PrintWords Go.Proofs.YtadafplbgophfaaW.PrintLast Go.Proofs.YtadafplbgophfaaW.PrintMore
open Jdg
namespace Chk
theorem evstep {α : Type} {g f : Nat → Option α} {r : α} (K0 : Nat) (h : ∀ k, K0 ≤ k → g (k + 1) = f k) (hf : Ev f r) : Ev g r := by
  obtain ⟨K, hK⟩ := hf
  refine ⟨K + K0 + 1, fun k hk => ?_⟩
  obtain ⟨m, rfl⟩ : ∃ m, k = m + 1 := ⟨k - 1, by omega⟩
  rw [h m (by omega)]
  exact hK m (by omega)
variable {base left right : Int} {l r : List S37}
theorem l1_ok {o a b n : Int} {out : List S81} {v : List S81 × Bool} (hl : l.length ≤ 1000000) (hr' : r.length ≤ 1000000) (hr : IsRun (matD (-1) l) (matD (-1) r) base o a b n) (hp : Pos base left right o a b) (hq : Pos base left right (o + n) (a + n) (b + n))
    (s1 : base ≤ 1000000) (s2 : left ≤ 1000000) (s3 : right ≤ 1000000)
    (hv : Ev (fun k => tripartiteref06_Of.j4 k base left right l r out o a b n) v) : Ev (fun k => tripartiteref06_Of.l1 k base left right l r out o a b 0) v := by
  obtain ⟨o0, o1, a0, a1, b0, b1⟩ := hp
  obtain ⟨p0, p1, q0, q1, r0, r1⟩ := hq
  have n0 := hr.n0
  obtain ⟨N, rfl⟩ := Int.eq_ofNat_of_zero_le n0
  have := down (P := fun i => Ev (fun k => tripartiteref06_Of.l1 k base left right l r out o a b (i : Int)) v) N (by
    obtain ⟨K1, h1⟩ := at_ok l (o + N) hl
    obtain ⟨K2, h2⟩ := at_ok r (o + N) hr'
    refine evstep (K1 + K2) (fun k hk => ?_) hv
    simp only [tripartiteref06_Of.l1]
    rw [w64 (x := o + N) (by omega) (by omega), w64 (x := a + N) (by omega) (by omega), w64 (x := b + N) (by omega) (by omega)]
    by_cases c1 : o + (N : Int) < base
    · rw [if_pos c1, show tripartiteref06_at.f k l (o + N) = _ from h1 k (by omega), Option.bind_some, show tripartiteref06_at.f k r (o + N) = _ from h2 k (by omega), Option.bind_some]
      by_cases c2 : matD (-1) l (o + N) = a + N
      · rw [if_pos c2, if_neg (fun c3 => hr.stop ⟨c1, c2, c3⟩)]
      · rw [if_neg c2]
    · rw [if_neg c1]) (fun i hi ih => by
    obtain ⟨K1, h1⟩ := at_ok l (o + i) hl
    obtain ⟨K2, h2⟩ := at_ok r (o + i) hr'
    refine evstep (K1 + K2) (fun k hk => ?_) ih
    obtain ⟨c1, c2, c3⟩ := hr.all (i : Int) (by omega) (by omega)
    simp only [tripartiteref06_Of.l1]
    rw [w64 (x := o + i) (by omega) (by omega), w64 (x := a + i) (by omega) (by omega), w64 (x := b + i) (by omega) (by omega)]
    rw [if_pos c1, show tripartiteref06_at.f k l (o + i) = _ from h1 k (by omega), Option.bind_some, show tripartiteref06_at.f k r (o + i) = _ from h2 k (by omega), Option.bind_some, if_pos c2, if_pos c3, next64 (by omega)]) 0 (by omega)
  exact this
theorem l2_ok {o a b t : Int} {out : List S81} {v : List S81 × Bool} {B : Bool} {y1 y2 y3 y4 y5 y6 : Int} (hl : l.length ≤ 1000000) (hr' : r.length ≤ 1000000) (hn : IsNxt (matD (-1) l) (matD (-1) r) base o a b t) (o0 : 0 ≤ o)
    (s1 : base ≤ 1000000)
    (hv : Ev (fun k => tripartiteref06_Of.j6 k base left right l r out t B y1 y2 y3 y4 y5 y6) v) : Ev (fun k => tripartiteref06_Of.l2 k base left right l r out a b o B y1 y2 y3 y4 y5 y6) v := by
  have t0 := hn.t0
  have t1 := hn.t1
  obtain ⟨N, rfl⟩ := Int.eq_ofNat_of_zero_le o0
  obtain ⟨M, rfl⟩ := Int.eq_ofNat_of_zero_le (show 0 ≤ t by omega)
  have := down (P := fun i => N ≤ i → Ev (fun k => tripartiteref06_Of.l2 k base left right l r out a b (i : Int) B y1 y2 y3 y4 y5 y6) v) M (by
    intro _
    obtain ⟨K1, h1⟩ := at_ok l M hl
    obtain ⟨K2, h2⟩ := at_ok r M hr'
    refine evstep (K1 + K2) (fun k hk => ?_) hv
    simp only [tripartiteref06_Of.l2]
    by_cases c1 : (M : Int) < base
    · obtain ⟨x1, x2⟩ := hn.stop c1
      rw [if_pos c1, show tripartiteref06_at.f k l M = _ from h1 k (by omega), Option.bind_some, if_neg (by omega), show tripartiteref06_at.f k r M = _ from h2 k (by omega), Option.bind_some, if_neg (by omega)]
    · rw [if_neg c1]) (fun i hi ih hN => by
    obtain ⟨K1, h1⟩ := at_ok l i hl
    obtain ⟨K2, h2⟩ := at_ok r i hr'
    refine evstep (K1 + K2) (fun k hk => ?_) (ih (by omega))
    simp only [tripartiteref06_Of.l2]
    rw [if_pos (show (i : Int) < base by omega), show tripartiteref06_at.f k l i = _ from h1 k (by omega), Option.bind_some, next64 (by omega)]
    by_cases c1 : matD (-1) l i < a
    · rw [if_pos c1]
    · have h2' : matD (-1) r i < b := by
        rcases hn.all (i : Int) (by omega) (by omega) with h | h
        · exact absurd h c1
        · exact h
      rw [if_neg c1, show tripartiteref06_at.f k r i = _ from h2 k (by omega), Option.bind_some, if_pos h2']) N (by omega) (Nat.le_refl _)
  exact this
theorem l0_more {o a b : Int} {out : List S81} {v : List S81 × Bool} (hm : More base left right o a b) (hv : Ev (fun k => tripartiteref06_Of.l1 k base left right l r out o a b 0) v) : Ev (fun k => tripartiteref06_Of.l0 k base left right l r out o a b) v := by
  refine Ev.step (f := fun k => tripartiteref06_Of.j2 k base left right l r out o a b true) (fun k => ?_) (Ev.step (fun k => ?_) hv)
  · simp only [tripartiteref06_Of.l0]
    by_cases c1 : o < base
    · rw [if_pos c1]
    by_cases c2 : a < left
    · rw [if_neg c1, if_pos c2]
    rcases hm with h | h | h
    · exact absurd h c1
    · exact absurd h c2
    · rw [if_neg c1, if_neg c2, decide_eq_true h]
  · simp only [tripartiteref06_Of.j2]
    rw [if_pos trivial]
theorem rsweep_ok (hl : l.length ≤ 1000000) (hr' : r.length ≤ 1000000)
    (s1 : base ≤ 1000000) (s2 : left ≤ 1000000) (s3 : right ≤ 1000000) {o a b : Int} {cs : List S81} (h : Sw (matD (-1) l) (matD (-1) r) base left right o a b cs) :
    ∀ out : List S81, out.length + cs.length ≤ 1000000 → Ev (fun k => tripartiteref06_Of.l0 k base left right l r out o a b) (out ++ cs, true) := by
  induction h with
  | done o a b hp hm =>
    intro out ho
    rw [List.append_nil]
    refine Ev.step (f := fun k => tripartiteref06_Of.j2 k base left right l r out o a b false) (fun k => ?_) (Ev.step (f := fun _ => some (out, true)) (fun k => ?_) (Ev.now _))
    · simp only [tripartiteref06_Of.l0]
      unfold More at hm
      rw [if_neg (by omega), if_neg (by omega), decide_eq_false (by omega)]
    · simp only [tripartiteref06_Of.j2]
      rw [if_neg Bool.false_ne_true]
  | run o a b n cs hp hm hr hn h ih =>
    intro out ho
    rw [List.length_cons] at ho
    have hq := h.pos
    refine l0_more hm (l1_ok hl hr' hr hp hq s1 s2 s3 ?_)
    have hi := ih (out ++ [⟨true, ⟨o, o + n⟩, ⟨a, a + n⟩, ⟨b, b + n⟩⟩]) (by rw [List.length_append, List.length_singleton]; omega)
    rw [List.append_assoc] at hi
    obtain ⟨o0, o1, a0, a1, b0, b1⟩ := hp
    obtain ⟨p0, p1, q0, q1, r0, r1⟩ := hq
    refine Ev.step (fun k => ?_) hi
    simp only [tripartiteref06_Of.j4]
    rw [if_neg (by omega), if_pos (by omega), w64 (x := o + n) (by omega) (by omega), w64 (x := a + n) (by omega) (by omega), w64 (x := b + n) (by omega) (by omega), decide_eq_true (show n > 0 from hn)]
  | gap o a b t cs hp hm hr hn ht h ih =>
    intro out ho
    rw [List.length_cons] at ho
    obtain ⟨K1, h1⟩ := at_ok l t hl
    obtain ⟨K2, h2⟩ := at_ok r t hr'
    refine l0_more hm (l1_ok hl hr' hr hp (by rw [Int.add_zero, Int.add_zero, Int.add_zero]; exact hp) s1 s2 s3 ?_)
    refine Ev.step (fun k => ?_) (l2_ok (B := false) (y1 := o) (y2 := wrap64 (o + 0)) (y3 := a) (y4 := wrap64 (a + 0)) (y5 := b) (y6 := wrap64 (b + 0)) (left := left) (right := right) (out := out) (v := (out ++ ⟨false, ⟨o, t⟩, ⟨a, matD (-1) l t⟩, ⟨b, matD (-1) r t⟩⟩ :: cs, true)) hl hr' hn hp.o0 s1 ?_)
    · simp only [tripartiteref06_Of.j4]
      rw [if_pos trivial]; rfl
    · have hi := ih (out ++ [⟨false, ⟨o, t⟩, ⟨a, matD (-1) l t⟩, ⟨b, matD (-1) r t⟩⟩]) (by rw [List.length_append, List.length_singleton]; omega)
      rw [List.append_assoc] at hi
      refine evstep (K1 + K2) (fun k hk => ?_) hi
      simp only [tripartiteref06_Of.j6]
      rw [if_pos ht, show tripartiteref06_at.f k l t = _ from h1 k (by omega), Option.bind_some, show tripartiteref06_at.f k r t = _ from h2 k (by omega), Option.bind_some, if_pos (by omega)]
  | last o a b hp hm hr hn =>
    intro out ho
    refine l0_more hm (l1_ok hl hr' hr hp (by rw [Int.add_zero, Int.add_zero, Int.add_zero]; exact hp) s1 s2 s3 ?_)
    refine Ev.step (fun k => ?_) (l2_ok (B := false) (y1 := o) (y2 := wrap64 (o + 0)) (y3 := a) (y4 := wrap64 (a + 0)) (y5 := b) (y6 := wrap64 (b + 0)) (left := left) (right := right) (out := out) (v := (out ++ [⟨false, ⟨o, base⟩, ⟨a, left⟩, ⟨b, right⟩⟩], true)) hl hr' hn hp.o0 s1 ?_)
    · simp only [tripartiteref06_Of.j4]
      rw [if_pos trivial]; rfl
    · refine Ev.step (f := fun k => tripartiteref06_Of.l0 k base left right l r (out ++ [⟨false, ⟨o, base⟩, ⟨a, left⟩, ⟨b, right⟩⟩]) base left right) (fun k => ?_) ?_
      · simp only [tripartiteref06_Of.j6]
        rw [if_neg (by omega), if_pos (by simp at ho; omega)]
      · refine Ev.step (f := fun k => tripartiteref06_Of.j2 k base left right l r (out ++ [⟨false, ⟨o, base⟩, ⟨a, left⟩, ⟨b, right⟩⟩]) base left right false) (fun k => ?_) (Ev.step (f := fun _ => some (out ++ [⟨false, ⟨o, base⟩, ⟨a, left⟩, ⟨b, right⟩⟩], true)) (fun k => ?_) (Ev.now _))
        · simp only [tripartiteref06_Of.l0]
          rw [if_neg (by omega), if_neg (by omega), decide_eq_false (by omega)]
        · simp only [tripartiteref06_Of.j2]
          rw [if_neg Bool.false_ne_true]
theorem j0_no : Ev (fun k => tripartiteref06_Of.j0 k base left right l r true) ([], false) := by
  refine Ev.step (f := fun _ => some ([], false)) (fun k => ?_) (Ev.now _)
  simp only [tripartiteref06_Of.j0]; rw [if_pos trivial]
theorem rof_no (hl : l.length ≤ 1000000) (hr' : r.length ≤ 1000000) (h : ¬ ((0 ≤ base ∧ 0 ≤ left ∧ 0 ≤ right) ∧ riseB base left (-1) (-1) l = true ∧ riseB base right (-1) (-1) r = true)) : Ev (fun k => tripartiteref06_Of.f k base left right l r) ([], false) := by
  obtain ⟨K1, h1⟩ := rises_ok base left l hl
  obtain ⟨K2, h2⟩ := rises_ok base right r hr'
  obtain ⟨K3, h3⟩ := j0_no (base := base) (left := left) (right := right) (l := l) (r := r)
  refine ⟨K1 + K2 + K3, fun k hk => ?_⟩
  have h3' : tripartiteref06_Of.j0 k base left right l r true = some ([], false) := h3 k (by omega)
  show tripartiteref06_Of.f k base left right l r = some ([], false)
  unfold tripartiteref06_Of.f
  by_cases c1 : base < 0
  · rw [if_pos c1, h3']
  by_cases c2 : left < 0
  · rw [if_neg c1, if_pos c2, h3']
  by_cases c3 : right < 0
  · rw [if_neg c1, if_neg c2, if_pos c3, h3']
  rw [if_neg c1, if_neg c2, if_neg c3, show tripartiteref06_rises.f k base left l = _ from h1 k (by omega), Option.bind_some]
  by_cases c4 : riseB base left (-1) (-1) l = true
  · rw [if_pos c4, show tripartiteref06_rises.f k base right r = _ from h2 k (by omega), Option.bind_some]
    by_cases c5 : riseB base right (-1) (-1) r = true
    · exact absurd ⟨⟨by omega, by omega, by omega⟩, c4, c5⟩ h
    · rw [Bool.not_eq_true] at c5
      rw [c5, Bool.not_false, h3']
  · rw [if_neg c4, h3']
theorem rof_yes (hl : l.length ≤ 1000000) (hr' : r.length ≤ 1000000) (s1 : base ≤ 1000000) (s2 : left ≤ 1000000) (s3 : right ≤ 1000000) (h : (0 ≤ base ∧ 0 ≤ left ∧ 0 ≤ right) ∧ riseB base left (-1) (-1) l = true ∧ riseB base right (-1) (-1) r = true) {cs : List S81}
    (hs : Sw (matD (-1) l) (matD (-1) r) base left right 0 0 0 cs) (hc : cs.length ≤ 1000000) : Ev (fun k => tripartiteref06_Of.f k base left right l r) (cs, true) := by
  obtain ⟨K1, h1⟩ := rises_ok base left l hl
  obtain ⟨K2, h2⟩ := rises_ok base right r hr'
  obtain ⟨K3, h3⟩ : Ev (fun k => tripartiteref06_Of.j0 k base left right l r false) (cs, true) := by
    refine Ev.step (fun k => ?_) (rsweep_ok hl hr' s1 s2 s3 hs [] (by simpa using hc))
    simp only [tripartiteref06_Of.j0]; rw [if_neg Bool.false_ne_true]
  refine ⟨K1 + K2 + K3, fun k hk => ?_⟩
  have h3' : tripartiteref06_Of.j0 k base left right l r false = some (cs, true) := h3 k (by omega)
  obtain ⟨⟨c1, c2, c3⟩, c4, c5⟩ := h
  show tripartiteref06_Of.f k base left right l r = some (cs, true)
  unfold tripartiteref06_Of.f
  rw [if_neg (by omega), if_neg (by omega), if_neg (by omega), show tripartiteref06_rises.f k base left l = _ from h1 k (by omega), Option.bind_some, if_pos c4, show tripartiteref06_rises.f k base right r = _ from h2 k (by omega), Option.bind_some, c5, Bool.not_true, h3']
end Chk
end Go.Proofs.Ytadafplbgophfaa.PA
end
section
-- Written by a program of this seat out of the translation. Not trusted: Lean checks it.
namespace Go.Proofs.Ytadafplbgophfaa.PA
open Go.RowKit Go.Proofs.YtadafplbgophfaaW.PrintWords Go.Proofs.YtadafplbgophfaaW.PrintLast Go.Proofs.YtadafplbgophfaaW.PrintMore
attribute [local go_sem] max2_int min2_int max_two min_two max_three min_three max_four min_four   -- for this text's walks alone
set_option linter.unusedVariables false
set_option linter.unusedSimpArgs false

/-! ### tripartitelaw06_small: function 48 -/
def tripartitelaw06_small.f (a0 : Int) : Option (Int) := if a0 > 60 then (some (Int.tmod a0 61)) else (some (mx a0 (-1)))
set_option maxHeartbeats 8000000 in
set_option maxRecDepth 100000 in
theorem tripartitelaw06_small.calls (a0 : Int) (r : Int) (w : World) (h : tripartitelaw06_small.f a0 = some r) :
  Calls Try.prog 48 #[.int .i64 a0] w fun e w' => e = .returned (.int .i64 r) ∧ Drawn0 w w' := by
 have H : (if a0 > 60 then (some (Int.tmod a0 61)) else (some (mx a0 (-1)))) = some r := h
 clear h
 by_cases c2 : a0 > 60
 ·rw [if_pos c2] at H
  have c2b0 : decide (60 < a0) = true := decide_eq_true c2
  clear c2
  obtain rfl := Option.some.inj H
  go_enter Try.func48, Try.ntmps48
  go_wp2
  go_ret
  exact ⟨by first | rfl | (simp; done) | (simp [*]; done), by repeat (first | exact Drawn0.refl _ | apply Drawn0.step)⟩
 ·rw [if_neg c2] at H
  have c2b0 : decide (60 < a0) = false := decide_eq_false c2
  clear c2
  obtain ⟨ji3, hji3⟩ : ∃ j_ : Int, (mx a0 (-1)) = j_ := ⟨_, rfl⟩
  replace H : (some ji3) = some r := by first | (rw [hji3] at H; exact H) | (simp only [hji3] at H ⊢; exact H)
  have hji3_ : (if a0 < (-1) then (-1) else a0) = ji3 := hji3
  obtain rfl := Option.some.inj H
  go_enter Try.func48, Try.ntmps48
  go_wp2
  go_ret
  exact ⟨by first | rfl | (simp; done) | (simp only [← hji3] <;> (first | rfl | simp)) | (simp [*]; done), by repeat (first | exact Drawn0.refl _ | apply Drawn0.step)⟩

end Go.Proofs.Ytadafplbgophfaa.PA
end
section
-- Written by a program of this seat out of the translation. Not trusted: Lean checks it.
namespace Go.Proofs.Ytadafplbgophfaa.PA
open Go.RowKit Go.Proofs.YtadafplbgophfaaW.PrintWords Go.Proofs.YtadafplbgophfaaW.PrintLast Go.Proofs.YtadafplbgophfaaW.PrintMore
attribute [local go_sem] max2_int min2_int max_two min_two max_three min_three max_four min_four   -- for this text's walks alone
set_option linter.unusedVariables false
set_option linter.unusedSimpArgs false

/-! ### chunk_Span_Len: function 56 -/
def chunk_Span_Len.f (a0_0 : Int) (a0_1 : Int) : Option (Int) := some (mx (wrap64 (a0_1 - a0_0)) 0)
set_option maxHeartbeats 8000000 in
set_option maxRecDepth 100000 in
theorem chunk_Span_Len.calls (a0_0 : Int) (a0_1 : Int) (r : Int) (w : World) (h : chunk_Span_Len.f a0_0 a0_1 = some r) :
  Calls Try.prog 56 #[.agg #[.int .i64 a0_0, .int .i64 a0_1]] w fun e w' => e = .returned (.int .i64 r) ∧ Below w.heap.size w w' := by
 have hu76 := Try.underlying76
 have HB := Aside0.mk (Below.refl w.heap.size w)
 have H : (some (mx (wrap64 (a0_1 - a0_0)) 0)) = some r := h
 clear h
 obtain ⟨ji2, hji2⟩ : ∃ j_ : Int, (mx (wrap64 (a0_1 - a0_0)) 0) = j_ := ⟨_, rfl⟩
 replace H : (some ji2) = some r := by first | (rw [hji2] at H; exact H) | (simp only [hji2] at H ⊢; exact H)
 (try (have hji2l : 0 ≤ ji2 := by (rw [← hji2]; unfold mx; (repeat' split) <;> omega)))
 (try (have hji2m : 0 ≤ ji2 := by omega))
 have hji2_ : (if (wrap64 (a0_1 - a0_0)) < 0 then 0 else (wrap64 (a0_1 - a0_0))) = ji2 := hji2
 obtain rfl := Option.some.inj H
 go_enter Try.func56, Try.ntmps56
 go_wp2_with (first | ((with_reducible refine gate_dst (N := 1) rfl ?_); refine box_event ?hg (N := 1) ?hd (cs := #[.int .i64 a0_0, .int .i64 a0_1]) (t := 76) ?hr ?_; (case hd => rfl); (case hg => rfl); (case hr => first | (go_simp; done) | (go_simp; rfl)); intro gb101 hg w3 hbox hb; have n0_ := Aside0.mk (below_step (by repeat (first | (with_reducible first | exact HB.out | apply below_alloc | apply pw_below_drewN | apply below_drew1) | exact HB.out)) hb); have n1_ := Aside0.mk (hbox); have n2_ := Aside0.mk ((by rw [hg]; exact (below_size (by repeat (first | (with_reducible first | exact HB.out | apply below_alloc | apply pw_below_drewN | apply below_drew1) | exact HB.out))) : w.heap.size ≤ gb101)); have n3_ := Aside0.mk ((by rw [hg]; exact (below_size (by repeat (first | (with_reducible first | exact HB.out | apply below_alloc | apply pw_below_drewN | apply below_drew1) | exact HB.out))) : w.heap.size ≤ gb101)); clear HB; have HB := n0_; have BK101 := n1_; have GW101 := n2_; have GE101 := n3_; clear n0_ n1_ n2_ n3_; clear hb hbox hg; have hcz4_0 : w3.cell? ⟨gb101, 0, none⟩ = some (.int .i64 a0_0) := (blk_cell BK101.out 0).trans rfl; have hcz4_1 : w3.cell? ⟨gb101, 1, none⟩ = some (.int .i64 a0_1) := (blk_cell BK101.out 1).trans rfl; have hfz4_0 := blk_frozen BK101.out 0; have hfz4_1 := blk_frozen BK101.out 1))
 go_ret
 exact ⟨by first | rfl | (simp [errW_none, errW_some] <;> rfl) | (simp only [← hji2]; first | rfl | (simp [errW_none, errW_some] <;> rfl)) | (simp [*, errW_none, errW_some] <;> rfl), by repeat (first | (with_reducible first | exact HB.out | apply below_alloc | apply pw_below_drewN | apply below_drew1 | refine below_set ?_ GE101.out) | exact HB.out)⟩

end Go.Proofs.Ytadafplbgophfaa.PA
end
section
-- Written by a program of this seat out of the translation. Not trusted: Lean checks it.
namespace Go.Proofs.Ytadafplbgophfaa.PA
open Go.RowKit Go.Proofs.YtadafplbgophfaaW.PrintWords Go.Proofs.YtadafplbgophfaaW.PrintLast Go.Proofs.YtadafplbgophfaaW.PrintMore
attribute [local go_sem] max2_int min2_int max_two min_two max_three min_three max_four min_four   -- for this text's walks alone
set_option linter.unusedVariables false
set_option linter.unusedSimpArgs false

/-! ### slices_Equal_string_string: function 83 -/
def slices_Equal_string_string.l0 : Nat → List ByteArray → List ByteArray → Int → Int → Option (Bool)
 | 0, _, _, _, _ => none
 | k + 1, x0, x1, x12, x13 => if x13 < x12 then (if 0 ≤ x13 then (if x13 < (x0.length : Int) then (if x13 < (x1.length : Int) then (if (rdOf ByteArray.empty x0 x13).toList = (rdOf ByteArray.empty x1 x13).toList then (slices_Equal_string_string.l0 k x0 x1 x12 (wrap64 (x13 + 1))) else (some false)) else (none)) else (none)) else (none)) else (some true)
def slices_Equal_string_string.f (k : Nat) (l0 : List ByteArray) (l1 : List ByteArray) : Option (Bool) := if (l0.length : Int) = (l1.length : Int) then (slices_Equal_string_string.l0 k l0 l1 (l0.length : Int) 0) else (some false)
theorem slices_Equal_string_string.mono_l : ∀ k, (∀ y0 y1 y2 y3, LeO (slices_Equal_string_string.l0 k y0 y1 y2 y3) (slices_Equal_string_string.l0 (k + 1) y0 y1 y2 y3))
 | 0 => fun _ _ _ _ r h => by simp [slices_Equal_string_string.l0] at h
 | k + 1 => by
  have ih0 := slices_Equal_string_string.mono_l k
  ·intro y0 y1 y2 y3
   unfold slices_Equal_string_string.l0
   repeat' first
   | (with_reducible exact ih0 _ _ _ _)
   | (with_reducible exact LeO.refl _)
   | (with_reducible exact LeO.none _)
   | (with_reducible refine LeO.ite ?_ ?_)
   | (with_reducible refine LeO.bind ?_ (fun _ => ?_))
   | exact ih0 _ _ _ _
   | exact LeO.none _
   | refine LeO.ite ?_ ?_
   | refine LeO.bind ?_ (fun _ => ?_)
theorem slices_Equal_string_string.mono : ∀ a0 a1 k, LeO (slices_Equal_string_string.f k a0 a1) (slices_Equal_string_string.f (k + 1) a0 a1) := by
 intro a0 a1 k
 have ih0 := slices_Equal_string_string.mono_l k
 unfold slices_Equal_string_string.f
 repeat' first
   | (with_reducible exact ih0 _ _ _ _)
   | (with_reducible exact LeO.refl _)
   | (with_reducible exact LeO.none _)
   | (with_reducible refine LeO.ite ?_ ?_)
   | (with_reducible refine LeO.bind ?_ (fun _ => ?_))
   | exact ih0 _ _ _ _
   | exact LeO.none _
   | refine LeO.ite ?_ ?_
   | refine LeO.bind ?_ (fun _ => ?_)
set_option maxHeartbeats 8000000 in
set_option maxRecDepth 100000 in
theorem slices_Equal_string_string.calls (k : Nat) (A0 : Option Addr) (c0 : Nat) (l0 : List ByteArray) (A1 : Option Addr) (c1 : Nat) (l1 : List ByteArray) (r : Bool) (w : World) (hr0 : Kd.C Kd.string w A0 l0.length l0) (hc0 : l0.length ≤ c0) (hr1 : Kd.C Kd.string w A1 l1.length l1) (hc1 : l1.length ≤ c1) (h : slices_Equal_string_string.f k l0 l1 = some r) :
  Calls Try.prog 83 #[.slice A0 l0.length c0, .slice A1 l1.length c1] w fun e w' => e = .returned (.bool r) ∧ Drawn0 w w' := by
 have HR0 := Aside0.mk hr0
 have HC0 := Aside0.mk hc0
 clear hr0 hc0
 have HR1 := Aside0.mk hr1
 have HC1 := Aside0.mk hc1
 clear hr1 hc1
 have H : (if (l0.length : Int) = (l1.length : Int) then (slices_Equal_string_string.l0 k l0 l1 (l0.length : Int) 0) else (some false)) = some r := h
 clear h
 by_cases c3 : (l0.length : Int) = (l1.length : Int)
 ·rw [if_pos c3] at H
  have c3b0 : ((l0.length : Int) == (l1.length : Int)) = true := beq_iff_eq.mpr c3
  have c3b1 : ((l0.length : Int) != (l1.length : Int)) = false := bne_eq_false_iff_eq.mpr c3
  have c3b2 : (l0.length == l1.length) = true := by first | simpa using c3 | (simp at c3 ⊢; omega)
  clear c3
  have H' := Aside0.mk H
  clear H
  go_enter Try.func83, Try.ntmps83
  go_wp2
  repeat (go_quiet (fail); try go_wp2)
  go_loopg [13] k (fun kq v13 w' => ∃ (x13_1 : Int), v13 = .int .i64 x13_1 ∧ Aside0 (slices_Equal_string_string.l0 kq l0 l1 (l0.length : Int) x13_1 = some r) ∧ Aside0 (kq ≤ k) ∧ Drawn0 w w')
  case atStart => exact ⟨(0), (by first | rfl | (simp; done) | (simp [*]; done)), H', ⟨Nat.le_refl _⟩, by repeat (first | exact Drawn0.refl _ | apply Drawn0.step)⟩
  case round =>
   clear H'
   try clear c1
   try clear p2
   try clear c3
   try clear c3b0
   try clear c3b1
   try clear c3b2
   obtain ⟨x13_1, rfl, HA, HK1, ⟨m1, rfl⟩⟩ := hrel
   cases gk with
   | zero => exact absurd HA.out (by simp [slices_Equal_string_string.l0])
   | succ k1 =>
    have H := HA.out
    clear HA
    simp only [slices_Equal_string_string.l0] at H
    by_cases c4 : x13_1 < (l0.length : Int)
    ·rw [if_pos c4] at H
     have c4b0 : decide (x13_1 < (l0.length : Int)) = true := decide_eq_true c4
     clear c4
     by_cases c5 : 0 ≤ x13_1
     ·rw [if_pos c5] at H
      have c5b0 : decide (0 ≤ x13_1) = true := decide_eq_true c5
      clear c5
      by_cases c6 : x13_1 < (l0.length : Int)
      ·rw [if_pos c6] at H
       have c6b0 : decide (x13_1 < (l0.length : Int)) = true := decide_eq_true c6
       clear c6
       by_cases c7 : x13_1 < (l1.length : Int)
       ·rw [if_pos c7] at H
        have c7b0 : decide (x13_1 < (l1.length : Int)) = true := decide_eq_true c7
        clear c7
        by_cases c8 : (rdOf ByteArray.empty l0 x13_1).toList = (rdOf ByteArray.empty l1 x13_1).toList
        ·rw [if_pos c8] at H
         have c8b0 : ((rdOf ByteArray.empty l0 x13_1).toList == (rdOf ByteArray.empty l1 x13_1).toList) = true := beq_iff_eq.mpr c8
         have c8b1 : ((rdOf ByteArray.empty l0 x13_1).toList != (rdOf ByteArray.empty l1 x13_1).toList) = false := bne_eq_false_iff_eq.mpr c8
         clear c8
         have H' := Aside0.mk H
         clear H
         have p101 : 0 ≤ (x13_1 : Int) := of_decide_eq_true (by first | (with_reducible assumption) | assumption)
         have q101 : x13_1 < (l0.length : Int) := of_decide_eq_true (by first | (with_reducible assumption) | assumption)
         obtain ⟨ad101, e101, hx101_0⟩ := Kd.at_string HR0.out x13_1 p101 q101
         cases e101
         replace p101 := eq_true p101
         replace q101 := eq_true q101
         have p102 : 0 ≤ (x13_1 : Int) := of_decide_eq_true (by first | (with_reducible assumption) | assumption)
         have q102 : x13_1 < (l1.length : Int) := of_decide_eq_true (by first | (with_reducible assumption) | assumption)
         obtain ⟨ad102, e102, hx102_0⟩ := Kd.at_string HR1.out x13_1 p102 q102
         cases e102
         replace p102 := eq_true p102
         replace q102 := eq_true q102
         go_wp2
         repeat (go_quiet (fail); try go_wp2)
         go_roundg k1
         case measure => have := HK1.out; omega
         case rel => exact ⟨(wrap64 (x13_1 + 1)), (by first | rfl | (simp; done) | (simp [*]; done)), H', ⟨by have := HK1.out; omega⟩, by repeat (first | exact Drawn0.refl _ | apply Drawn0.step)⟩
        ·rw [if_neg c8] at H
         have c8b0 : ((rdOf ByteArray.empty l0 x13_1).toList == (rdOf ByteArray.empty l1 x13_1).toList) = false := beq_eq_false_iff_ne.mpr c8
         have c8b1 : ((rdOf ByteArray.empty l0 x13_1).toList != (rdOf ByteArray.empty l1 x13_1).toList) = true := bne_iff_ne.mpr c8
         obtain rfl := Option.some.inj H
         have p101 : 0 ≤ (x13_1 : Int) := of_decide_eq_true (by first | (with_reducible assumption) | assumption)
         have q101 : x13_1 < (l0.length : Int) := of_decide_eq_true (by first | (with_reducible assumption) | assumption)
         obtain ⟨ad101, e101, hx101_0⟩ := Kd.at_string HR0.out x13_1 p101 q101
         cases e101
         replace p101 := eq_true p101
         replace q101 := eq_true q101
         have p102 : 0 ≤ (x13_1 : Int) := of_decide_eq_true (by first | (with_reducible assumption) | assumption)
         have q102 : x13_1 < (l1.length : Int) := of_decide_eq_true (by first | (with_reducible assumption) | assumption)
         obtain ⟨ad102, e102, hx102_0⟩ := Kd.at_string HR1.out x13_1 p102 q102
         cases e102
         replace p102 := eq_true p102
         replace q102 := eq_true q102
         go_wp2
         repeat (go_quiet (fail); try go_wp2)
         go_ret
         exact ⟨by first | rfl | (simp; done) | (simp [*]; done), by repeat (first | exact Drawn0.refl _ | apply Drawn0.step)⟩
       ·rw [if_neg c7] at H
        exact absurd H (by simp)
      ·rw [if_neg c6] at H
       exact absurd H (by simp)
     ·rw [if_neg c5] at H
      exact absurd H (by simp)
    ·rw [if_neg c4] at H
     have c4b0 : decide (x13_1 < (l0.length : Int)) = false := decide_eq_false c4
     clear c4
     obtain rfl := Option.some.inj H
     go_wp2
     repeat (go_quiet (fail); try go_wp2)
     go_ret
     exact ⟨by first | rfl | (simp; done) | (simp [*]; done), by repeat (first | exact Drawn0.refl _ | apply Drawn0.step)⟩
 ·rw [if_neg c3] at H
  have c3b0 : ((l0.length : Int) == (l1.length : Int)) = false := beq_eq_false_iff_ne.mpr c3
  have c3b1 : ((l0.length : Int) != (l1.length : Int)) = true := bne_iff_ne.mpr c3
  have c3b2 : (l0.length == l1.length) = false := by first | simpa using c3 | (simp at c3 ⊢; omega)
  obtain rfl := Option.some.inj H
  go_enter Try.func83, Try.ntmps83
  go_wp2
  repeat (go_quiet (fail); try go_wp2)
  go_ret
  exact ⟨by first | rfl | (simp; done) | (simp [*]; done), by repeat (first | exact Drawn0.refl _ | apply Drawn0.step)⟩

end Go.Proofs.Ytadafplbgophfaa.PA
end
section
-- Written by a program of this seat out of the translation. Not trusted: Lean checks it.
namespace Go.Proofs.Ytadafplbgophfaa.PA
open Go.RowKit Go.Proofs.YtadafplbgophfaaW.PrintWords Go.Proofs.YtadafplbgophfaaW.PrintLast Go.Proofs.YtadafplbgophfaaW.PrintMore
attribute [local go_sem] max2_int min2_int max_two min_two max_three min_three max_four min_four   -- for this text's walks alone
set_option linter.unusedVariables false
set_option linter.unusedSimpArgs false

/-! ### trim_Same_string: function 24 -/
def trim_Same_string.f (k : Nat) (l0 : List ByteArray) (l1 : List ByteArray) : Option (Bool) := (slices_Equal_string_string.f k l0 l1).bind fun t101 => (some t101)
theorem trim_Same_string.mono : ∀ a0 a1 k, LeO (trim_Same_string.f k a0 a1) (trim_Same_string.f (k + 1) a0 a1) := by
 intro a0 a1 k
 unfold trim_Same_string.f
 repeat' first
   | (with_reducible exact slices_Equal_string_string.mono _ _ _)
   | (with_reducible exact LeO.refl _)
   | (with_reducible exact LeO.none _)
   | (with_reducible refine LeO.ite ?_ ?_)
   | (with_reducible refine LeO.bind ?_ (fun _ => ?_))
   | exact slices_Equal_string_string.mono _ _ _
   | exact LeO.none _
   | refine LeO.ite ?_ ?_
   | refine LeO.bind ?_ (fun _ => ?_)
set_option maxHeartbeats 8000000 in
set_option maxRecDepth 100000 in
theorem trim_Same_string.calls (k : Nat) (A0 : Option Addr) (c0 : Nat) (l0 : List ByteArray) (A1 : Option Addr) (c1 : Nat) (l1 : List ByteArray) (r : Bool) (w : World) (hr0 : Kd.C Kd.string w A0 l0.length l0) (hc0 : l0.length ≤ c0) (hr1 : Kd.C Kd.string w A1 l1.length l1) (hc1 : l1.length ≤ c1) (h : trim_Same_string.f k l0 l1 = some r) :
  Calls Try.prog 24 #[.slice A0 l0.length c0, .slice A1 l1.length c1] w fun e w' => e = .returned (.bool r) ∧ Drawn0 w w' := by
 have HR0 := Aside0.mk hr0
 have HC0 := Aside0.mk hc0
 clear hr0 hc0
 have HR1 := Aside0.mk hr1
 have HC1 := Aside0.mk hc1
 clear hr1 hc1
 have H : ((slices_Equal_string_string.f k l0 l1).bind fun t101 => (some t101)) = some r := h
 clear h
 replace H := Option.bind_eq_some_iff.mp H
 obtain ⟨t101, A30, H⟩ := H
 replace H : (some t101) = some r := H
 have A3 := Aside0.mk A30
 clear A30
 obtain rfl := Option.some.inj H
 go_enter Try.func24, Try.ntmps24
 go_wp2_with (first | ((with_reducible refine gate_callee (f := 83) rfl ?_); refine goesL_ (some 7) rfl rfl Try.func83 (by kernel_rfl) rfl #[.slice A0 l0.length c0, .slice A1 l1.length c1] rfl (by (try simp only [List.map_toArray, List.map_cons, List.map_nil]); first | done | rfl | (simp only [List.length_drop, List.length_take]; rfl)) ?_; (with_reducible refine (slices_Equal_string_string.calls k _ _ l0 _ _ l1 t101 _ ?side1 ?side2 ?side3 ?side4 A3.out).mono ?_); (case side1 => repeat (first | exact HR0.out | (with_reducible refine Kd.C_alloc ?_ _) | (with_reducible refine Kd.C_drewN ?_ _) | (with_reducible refine Kd.C_drew ?_))); (case side2 => exact HC0.out); (case side3 => repeat (first | exact HR1.out | (with_reducible refine Kd.C_alloc ?_ _) | (with_reducible refine Kd.C_drewN ?_ _) | (with_reducible refine Kd.C_drew ?_))); (case side4 => exact HC1.out); rintro e w' ⟨rfl, ⟨nd, rfl⟩⟩; refine ⟨_, rfl, ?_⟩))
 go_ret
 exact ⟨by first | rfl | (simp; done) | (simp [*]; done), by repeat (first | exact Drawn0.refl _ | apply Drawn0.step)⟩

end Go.Proofs.Ytadafplbgophfaa.PA
end
section
/- slices.Clone of texts, walked by hand. -/
namespace Go.Proofs.Ytadafplbgophfaa.PA
open Go.RowKit Go.Proofs.YtadafplbgophfaaW.PrintWords Go.Proofs.YtadafplbgophfaaW.PrintLast Go.Proofs.YtadafplbgophfaaW.PrintMore

def slices_Clone_string_string.f (_k : Nat) (l0 : List ByteArray) : Option (List ByteArray) := if l0.length < 8796093022208 then some l0 else none
theorem slices_Clone_string_string.mono : ∀ a0 k, LeO (slices_Clone_string_string.f k a0) (slices_Clone_string_string.f (k + 1) a0) := fun _ _ => LeO.refl _

set_option maxHeartbeats 4000000 in
set_option maxRecDepth 100000 in
theorem slices_Clone_string_string.calls (k : Nat) (A0 : Option Addr) (c0 : Nat) (l0 : List ByteArray) (r : List ByteArray) (w : World) (hr0 : Kd.C Kd.string w A0 l0.length l0) (hc0 : l0.length ≤ c0) (h : slices_Clone_string_string.f k l0 = some r) :
    Calls Try.prog 127 #[.slice A0 l0.length c0] w fun e w' => ∃ v0_ : Value, e = .returned v0_ ∧ Kd.R Kd.string 9 w' w.heap.size (fun _ => True) v0_ r ∧ Below w.heap.size w w' := by
  unfold slices_Clone_string_string.f at h
  split at h
  case isFalse => cases h
  rename_i hl
  simp only [Option.some.injEq] at h
  subst h
  have HR0 := Aside0.mk hr0
  have HC0 := Aside0.mk hc0
  have HL := Aside0.mk hl
  clear hr0 hc0 hl
  have q27 : ∀ (w : World) (a : Option Addr) (n c n' c' : Nat), (binOp .eql 27 (.slice a n c) (.slice none n' c')).run Try.prog w = .ok (.bool a.isNone) w := fun w a n c n' c' => Lib.run_eql_slice_nil w _ _ a n c n' c' Try.underlying27
  go_enter Try.func127, Try.ntmps127
  rcases A0 with _ | ad
  · have e0 : l0 = [] := by
      rcases Nat.eq_zero_or_pos l0.length with h | h
      · exact List.eq_nil_of_length_eq_zero h
      · obtain ⟨_, h, _⟩ := HR0.out.2.2 h; cases h
    subst e0
    go_wp2
    go_ret
    exact ⟨_, rfl, Kd.R_nil _ _ _ _ _, Below.refl _ _⟩
  · go_wp2_with (first | ((with_reducible refine gate_dst (N := 5) rfl ?_); (try (refine gate_guard (by rfl) ?_; dsimp only)); refine Kd.R_lit Kd.string _ 9 ?hg (N := 5) ?hd (xs := ([] : List ByteArray)) (inner := []) (ok := fun _ => True) (okp := fun _ => True) ?hr ?hp (fun _ hk => hk) trivial (Below.refl _ _) (Nat.le_refl _) (by simp) ?_; (case hd => rfl); (case hg => rfl); (case hr => first | (go_simp; done) | (go_simp; rfl)); (case hp => exact (Reps.none _ _)); intro v5 w5 ho hb hg_ hnew_; clear hg_ hnew_; have HO5 := Aside0.mk ho; have HB5 := Aside0.mk hb; clear ho hb) | ((with_reducible refine gate_builtin (b := .append) (xs := #[.tmp 5, .tmp 6]) rfl ?_); (try (refine gate_guard (by rfl) ?_; dsimp only)); at_builtin; refine Kd.R_append_rows Kd.string (w0 := w) w.heap.size rfl (.tmp 5) (.tmp 6) 27 9 (.string ⟨#[]⟩) 16 rfl Try.underlying27 info9 rfl (by decide) (by omega) v5 [] l0 _ _ _ (fun _ => True) (fun _ => False) rfl rfl HO5.out (Kd.C_below HR0.out HB5.out) (fun _ _ h => h) (fun _ h => h.elim) (fun _ _ => trivial) HB5.out HB5.out.size ?aL ?_; (case aL => have := HL.out; simp only [List.length_nil]; omega); intro v7 w7 ho hb hg hat; have HO7 := Aside0.mk ho; have HB7 := Aside0.mk hb; clear ho hb hg hat))
    go_ret
    exact ⟨_, rfl, by simpa using HO7.out, HB7.out⟩

end Go.Proofs.Ytadafplbgophfaa.PA
end
section
-- Written by a program of this seat out of the translation. Not trusted: Lean checks it.
namespace Go.Proofs.Ytadafplbgophfaa.PA
open Go.RowKit Go.Proofs.YtadafplbgophfaaW.PrintWords Go.Proofs.YtadafplbgophfaaW.PrintLast Go.Proofs.YtadafplbgophfaaW.PrintMore
attribute [local go_sem] max2_int min2_int max_two min_two max_three min_three max_four min_four   -- for this text's walks alone
set_option linter.unusedVariables false
set_option linter.unusedSimpArgs false

/-! ### chunk_Span_Cut: function 129 -/
def chunk_Span_Cut.f (k : Nat) (a0_0 : Int) (a0_1 : Int) (l1 : List ByteArray) : Option (List ByteArray) := if a0_0 < 0 then (some ([] : List ByteArray)) else (if a0_1 > (l1.length : Int) then (some ([] : List ByteArray)) else (if a0_1 < a0_0 then (some ([] : List ByteArray)) else (if 0 ≤ a0_0 then (if a0_0 ≤ a0_1 then (if a0_1 ≤ (l1.length : Int) then ((slices_Clone_string_string.f k ((l1.take (a0_1 : Int).toNat).drop (a0_0 : Int).toNat)).bind fun t103 => (some t103)) else (none)) else (none)) else (none))))
theorem chunk_Span_Cut.mono : ∀ a0 a1 a2 k, LeO (chunk_Span_Cut.f k a0 a1 a2) (chunk_Span_Cut.f (k + 1) a0 a1 a2) := by
 intro a0 a1 a2 k
 unfold chunk_Span_Cut.f
 repeat' first
   | (with_reducible exact slices_Clone_string_string.mono _ _)
   | (with_reducible exact LeO.refl _)
   | (with_reducible exact LeO.none _)
   | (with_reducible refine LeO.ite ?_ ?_)
   | (with_reducible refine LeO.bind ?_ (fun _ => ?_))
   | exact slices_Clone_string_string.mono _ _
   | exact LeO.none _
   | refine LeO.ite ?_ ?_
   | refine LeO.bind ?_ (fun _ => ?_)
set_option maxHeartbeats 8000000 in
set_option maxRecDepth 100000 in
theorem chunk_Span_Cut.calls (k : Nat) (a0_0 : Int) (a0_1 : Int) (A1 : Option Addr) (c1 : Nat) (l1 : List ByteArray) (r : List ByteArray) (w : World) (hr1 : Kd.C Kd.string w A1 l1.length l1) (hc1 : l1.length ≤ c1) (h : chunk_Span_Cut.f k a0_0 a0_1 l1 = some r) :
  Calls Try.prog 129 #[.agg #[.int .i64 a0_0, .int .i64 a0_1], .slice A1 l1.length c1] w fun e w' => ∃ v0_ : Value, e = .returned (v0_) ∧ Kd.R Kd.string 9 w' w.heap.size (fun _ => True) v0_ r ∧ Below w.heap.size w w' := by
 have hu76 := Try.underlying76
 have HR1 := Aside0.mk hr1
 have HC1 := Aside0.mk hc1
 clear hr1 hc1
 have HB := Aside0.mk (Below.refl w.heap.size w)
 have H : (if a0_0 < 0 then (some ([] : List ByteArray)) else (if a0_1 > (l1.length : Int) then (some ([] : List ByteArray)) else (if a0_1 < a0_0 then (some ([] : List ByteArray)) else (if 0 ≤ a0_0 then (if a0_0 ≤ a0_1 then (if a0_1 ≤ (l1.length : Int) then ((slices_Clone_string_string.f k ((l1.take (a0_1 : Int).toNat).drop (a0_0 : Int).toNat)).bind fun t103 => (some t103)) else (none)) else (none)) else (none))))) = some r := h
 clear h
 by_cases c3 : a0_0 < 0
 ·rw [if_pos c3] at H
  have c3b0 : decide (a0_0 < 0) = true := decide_eq_true c3
  clear c3
  obtain rfl := Option.some.inj H
  go_enter Try.func129, Try.ntmps129
  go_wp2_with (first | ((with_reducible refine gate_dst (N := 2) rfl ?_); (try (refine gate_guard (by rfl) ?_; dsimp only)); refine box_event ?hg (N := 2) ?hd (cs := #[.int .i64 a0_0, .int .i64 a0_1]) (t := 76) ?hr ?_; (case hd => rfl); (case hg => rfl); (case hr => first | (go_simp; done) | (go_simp; rfl)); intro gb101 hg w4 hbox hb; have n0_ := Aside0.mk (below_step (by repeat (first | (with_reducible first | exact HB.out | apply below_alloc | apply pw_below_drewN | apply below_drew1) | exact HB.out)) hb); have n1_ := Aside0.mk (hbox); have n2_ := Aside0.mk ((by rw [hg]; exact (below_size (by repeat (first | (with_reducible first | exact HB.out | apply below_alloc | apply pw_below_drewN | apply below_drew1) | exact HB.out))) : w.heap.size ≤ gb101)); have n3_ := Aside0.mk ((by rw [hg]; exact (below_size (by repeat (first | (with_reducible first | exact HB.out | apply below_alloc | apply pw_below_drewN | apply below_drew1) | exact HB.out))) : w.heap.size ≤ gb101)); clear HB; have HB := n0_; have BK101 := n1_; have GW101 := n2_; have GE101 := n3_; clear n0_ n1_ n2_ n3_; clear hb hbox hg; have hcz5_0 : w4.cell? ⟨gb101, 0, none⟩ = some (.int .i64 a0_0) := (blk_cell BK101.out 0).trans rfl; have hcz5_1 : w4.cell? ⟨gb101, 1, none⟩ = some (.int .i64 a0_1) := (blk_cell BK101.out 1).trans rfl; have hfz5_0 := blk_frozen BK101.out 0; have hfz5_1 := blk_frozen BK101.out 1))
  go_ret
  exact ⟨_, by first | rfl | (simp [errW_none, errW_some] <;> rfl) | (simp [*, errW_none, errW_some] <;> rfl), by first | exact Kd.R_nil _ _ _ _ _ | exact Kd.N_nil _ _ _ _ _ | exact Kd.V_nil _ _ _ _ _ | exact Kd.Q_nil _ _ _ _ _ | exact Kd.S_nil _ _ _ _ _, by repeat (first | (with_reducible first | exact HB.out | apply below_alloc | apply pw_below_drewN | apply below_drew1 | refine below_set ?_ GE101.out) | exact HB.out)⟩
 ·rw [if_neg c3] at H
  have c3b0 : decide (a0_0 < 0) = false := decide_eq_false c3
  clear c3
  by_cases c6 : a0_1 > (l1.length : Int)
  ·rw [if_pos c6] at H
   have c6b0 : decide ((l1.length : Int) < a0_1) = true := decide_eq_true c6
   clear c6
   obtain rfl := Option.some.inj H
   go_enter Try.func129, Try.ntmps129
   go_wp2_with (first | ((with_reducible refine gate_dst (N := 2) rfl ?_); (try (refine gate_guard (by rfl) ?_; dsimp only)); refine box_event ?hg (N := 2) ?hd (cs := #[.int .i64 a0_0, .int .i64 a0_1]) (t := 76) ?hr ?_; (case hd => rfl); (case hg => rfl); (case hr => first | (go_simp; done) | (go_simp; rfl)); intro gb101 hg w7 hbox hb; have n0_ := Aside0.mk (below_step (by repeat (first | (with_reducible first | exact HB.out | apply below_alloc | apply pw_below_drewN | apply below_drew1) | exact HB.out)) hb); have n1_ := Aside0.mk (hbox); have n2_ := Aside0.mk ((by rw [hg]; exact (below_size (by repeat (first | (with_reducible first | exact HB.out | apply below_alloc | apply pw_below_drewN | apply below_drew1) | exact HB.out))) : w.heap.size ≤ gb101)); have n3_ := Aside0.mk ((by rw [hg]; exact (below_size (by repeat (first | (with_reducible first | exact HB.out | apply below_alloc | apply pw_below_drewN | apply below_drew1) | exact HB.out))) : w.heap.size ≤ gb101)); clear HB; have HB := n0_; have BK101 := n1_; have GW101 := n2_; have GE101 := n3_; clear n0_ n1_ n2_ n3_; clear hb hbox hg; have hcz8_0 : w7.cell? ⟨gb101, 0, none⟩ = some (.int .i64 a0_0) := (blk_cell BK101.out 0).trans rfl; have hcz8_1 : w7.cell? ⟨gb101, 1, none⟩ = some (.int .i64 a0_1) := (blk_cell BK101.out 1).trans rfl; have hfz8_0 := blk_frozen BK101.out 0; have hfz8_1 := blk_frozen BK101.out 1))
   go_ret
   exact ⟨_, by first | rfl | (simp [errW_none, errW_some] <;> rfl) | (simp [*, errW_none, errW_some] <;> rfl), by first | exact Kd.R_nil _ _ _ _ _ | exact Kd.N_nil _ _ _ _ _ | exact Kd.V_nil _ _ _ _ _ | exact Kd.Q_nil _ _ _ _ _ | exact Kd.S_nil _ _ _ _ _, by repeat (first | (with_reducible first | exact HB.out | apply below_alloc | apply pw_below_drewN | apply below_drew1 | refine below_set ?_ GE101.out) | exact HB.out)⟩
  ·rw [if_neg c6] at H
   have c6b0 : decide ((l1.length : Int) < a0_1) = false := decide_eq_false c6
   clear c6
   by_cases c9 : a0_1 < a0_0
   ·rw [if_pos c9] at H
    have c9b0 : decide (a0_1 < a0_0) = true := decide_eq_true c9
    clear c9
    obtain rfl := Option.some.inj H
    go_enter Try.func129, Try.ntmps129
    go_wp2_with (first | ((with_reducible refine gate_dst (N := 2) rfl ?_); (try (refine gate_guard (by rfl) ?_; dsimp only)); refine box_event ?hg (N := 2) ?hd (cs := #[.int .i64 a0_0, .int .i64 a0_1]) (t := 76) ?hr ?_; (case hd => rfl); (case hg => rfl); (case hr => first | (go_simp; done) | (go_simp; rfl)); intro gb101 hg w10 hbox hb; have n0_ := Aside0.mk (below_step (by repeat (first | (with_reducible first | exact HB.out | apply below_alloc | apply pw_below_drewN | apply below_drew1) | exact HB.out)) hb); have n1_ := Aside0.mk (hbox); have n2_ := Aside0.mk ((by rw [hg]; exact (below_size (by repeat (first | (with_reducible first | exact HB.out | apply below_alloc | apply pw_below_drewN | apply below_drew1) | exact HB.out))) : w.heap.size ≤ gb101)); have n3_ := Aside0.mk ((by rw [hg]; exact (below_size (by repeat (first | (with_reducible first | exact HB.out | apply below_alloc | apply pw_below_drewN | apply below_drew1) | exact HB.out))) : w.heap.size ≤ gb101)); clear HB; have HB := n0_; have BK101 := n1_; have GW101 := n2_; have GE101 := n3_; clear n0_ n1_ n2_ n3_; clear hb hbox hg; have hcz11_0 : w10.cell? ⟨gb101, 0, none⟩ = some (.int .i64 a0_0) := (blk_cell BK101.out 0).trans rfl; have hcz11_1 : w10.cell? ⟨gb101, 1, none⟩ = some (.int .i64 a0_1) := (blk_cell BK101.out 1).trans rfl; have hfz11_0 := blk_frozen BK101.out 0; have hfz11_1 := blk_frozen BK101.out 1))
    go_ret
    exact ⟨_, by first | rfl | (simp [errW_none, errW_some] <;> rfl) | (simp [*, errW_none, errW_some] <;> rfl), by first | exact Kd.R_nil _ _ _ _ _ | exact Kd.N_nil _ _ _ _ _ | exact Kd.V_nil _ _ _ _ _ | exact Kd.Q_nil _ _ _ _ _ | exact Kd.S_nil _ _ _ _ _, by repeat (first | (with_reducible first | exact HB.out | apply below_alloc | apply pw_below_drewN | apply below_drew1 | refine below_set ?_ GE101.out) | exact HB.out)⟩
   ·rw [if_neg c9] at H
    have c9b0 : decide (a0_1 < a0_0) = false := decide_eq_false c9
    clear c9
    by_cases c12 : 0 ≤ a0_0
    ·rw [if_pos c12] at H
     have c12b0 := eq_true c12
     have c12b1 : decide (0 ≤ a0_0) = true := decide_eq_true c12
     clear c12
     by_cases c13 : a0_0 ≤ a0_1
     ·rw [if_pos c13] at H
      have c13b0 := eq_true c13
      have c13b1 : decide (a0_0 ≤ a0_1) = true := decide_eq_true c13
      clear c13
      by_cases c14 : a0_1 ≤ (l1.length : Int)
      ·rw [if_pos c14] at H
       have c14b0 := eq_true c14
       have c14b1 : decide (a0_1 ≤ (l1.length : Int)) = true := decide_eq_true c14
       clear c14
       replace H := Option.bind_eq_some_iff.mp H
       obtain ⟨t103, A150, H⟩ := H
       replace H : (some t103) = some r := H
       have A15 := Aside0.mk A150
       clear A150
       obtain rfl := Option.some.inj H
       go_enter Try.func129, Try.ntmps129
       go_wp2_with (first | ((with_reducible refine gate_dst (N := 2) rfl ?_); (try (refine gate_guard (by rfl) ?_; dsimp only)); refine box_event ?hg (N := 2) ?hd (cs := #[.int .i64 a0_0, .int .i64 a0_1]) (t := 76) ?hr ?_; (case hd => rfl); (case hg => rfl); (case hr => first | (go_simp; done) | (go_simp; rfl)); intro gb101 hg w16 hbox hb; have n0_ := Aside0.mk (below_step (by repeat (first | (with_reducible first | exact HB.out | apply below_alloc | apply pw_below_drewN | apply below_drew1) | exact HB.out)) hb); have n1_ := Aside0.mk (hbox); have n2_ := Aside0.mk ((by rw [hg]; exact (below_size (by repeat (first | (with_reducible first | exact HB.out | apply below_alloc | apply pw_below_drewN | apply below_drew1) | exact HB.out))) : w.heap.size ≤ gb101)); have n3_ := Aside0.mk ((by rw [hg]; exact (below_size (by repeat (first | (with_reducible first | exact HB.out | apply below_alloc | apply pw_below_drewN | apply below_drew1) | exact HB.out))) : w.heap.size ≤ gb101)); clear HB; have HB := n0_; have BK101 := n1_; have GW101 := n2_; have GE101 := n3_; clear n0_ n1_ n2_ n3_; clear hb hbox hg; have hcz17_0 : w16.cell? ⟨gb101, 0, none⟩ = some (.int .i64 a0_0) := (blk_cell BK101.out 0).trans rfl; have hcz17_1 : w16.cell? ⟨gb101, 1, none⟩ = some (.int .i64 a0_1) := (blk_cell BK101.out 1).trans rfl; have hfz17_0 := blk_frozen BK101.out 0; have hfz17_1 := blk_frozen BK101.out 1; obtain ⟨i018, hi018, _, hsz18, _⟩ := info_parts info9; obtain ⟨A18, hcut18, hA18, hC18⟩ := print_mid_of (P := Try.prog) Value.string (⟨#[]⟩ : ByteArray) 27 9 .i64 .i64 Try.underlying27 hi018 hsz18 A1 c1 l1 a0_0 a0_1 (of_decide_eq_true (by first | (with_reducible assumption) | assumption)) (by first | omega | exact of_decide_eq_true (by first | (with_reducible assumption) | assumption)) (of_decide_eq_true (by first | (with_reducible assumption) | assumption)) HC1.out; have HR102 := Aside0.mk (Kd.C_of_reads (h1 := fun _ => rfl) (hA18 _ (Kd.reads_of_C HR1.out))); have HC102 := Aside0.mk hC18; clear hA18 hC18 hi018 hsz18) | ((with_reducible refine gate_callee (f := 127) rfl ?_); refine goesL_ (some 28) rfl rfl Try.func127 (by kernel_rfl) rfl #[.slice A18 ((l1.take (a0_1 : Int).toNat).drop (a0_0 : Int).toNat).length (c1 - a0_0.toNat)] rfl (by (try simp only [List.map_toArray, List.map_cons, List.map_nil]); first | done | (rw [show ((l1.take (a0_1 : Int).toNat).drop (a0_0 : Int).toNat).length = (a0_1.toNat - a0_0.toNat) from (by rw [List.length_drop, List.length_take]; have h_ : (a0_1 : Int) ≤ (l1.length : Int) := of_decide_eq_true (by first | (with_reducible assumption) | assumption); omega)] <;> rfl) | rfl | (simp only [List.length_drop, List.length_take]; rfl)) ?_; (with_reducible refine (slices_Clone_string_string.calls k _ _ ((l1.take (a0_1 : Int).toNat).drop (a0_0 : Int).toNat) t103 _ ?side1 ?side2 A15.out).mono ?_); (case side1 => repeat (first | exact (Kd.C_below HR102.out HB.out) | (with_reducible refine Kd.C_alloc ?_ _) | (with_reducible refine Kd.C_drewN ?_ _) | (with_reducible refine Kd.C_drew ?_))); (case side2 => exact HC102.out); rintro e w19 ⟨v104, rfl, ho0, hb⟩; refine ⟨_, rfl, ?_⟩; have n0_ := Aside0.mk (Kd.R_lower ho0 (below_size (by repeat (first | (with_reducible first | exact HB.out | apply below_alloc | apply pw_below_drewN | apply below_drew1 | refine below_set ?_ GE101.out) | exact HB.out)))); have n1_ := Aside0.mk (blk_below (g := gb101) (o := .cells #[.int .i64 a0_0, .int .i64 a0_1] 76 (0, 0)) (by (with_reducible repeat (first | refine blk_drewN ?_ _ | refine blk_drew ?_ | refine blk_alloc ?_ _)); exact BK101.out) hb); have n2_ := Aside0.mk (below_step (by repeat (first | (with_reducible first | exact HB.out | apply below_alloc | apply pw_below_drewN | apply below_drew1 | refine below_set ?_ GE101.out) | exact HB.out)) hb); clear BK101; clear HB; have HO105 := n0_; have BK101 := n1_; have HB := n2_; clear n0_ n1_ n2_; (try clear hb); (try clear hb2); (try clear hk); (try clear hi); (try clear ho0)))
       go_ret
       exact ⟨_, by first | rfl | (simp [errW_none, errW_some] <;> rfl) | (simp [*, errW_none, errW_some] <;> rfl), by (with_reducible repeat (first | apply Kd.R_alloc | apply Kd.R_drewN | apply Kd.R_drew)); exact HO105.out, by repeat (first | (with_reducible first | exact HB.out | apply below_alloc | apply pw_below_drewN | apply below_drew1 | refine below_set ?_ GE101.out) | exact HB.out)⟩
      ·rw [if_neg c14] at H
       exact absurd H (by simp)
     ·rw [if_neg c13] at H
      exact absurd H (by simp)
    ·rw [if_neg c12] at H
     exact absurd H (by simp)

end Go.Proofs.Ytadafplbgophfaa.PA
end
