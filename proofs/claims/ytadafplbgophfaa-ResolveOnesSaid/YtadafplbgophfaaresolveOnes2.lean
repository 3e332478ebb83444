/- Part 2 of what the row of the law ResolveOnes rests on: walks of functions, and plain lemmas (in part printed by the kit's print, what is not reached left out). -/
import Derived.Test.YtadafplbgophfaaresolveOnes1
import Derived.Outline
import Derived.Lib.SliceRun
import Derived.Laws.CopyOwn
import Derived.Deep.RegionLaw
section
namespace Go.Proofs.Ytadafplbgophfaa.PA
open Go.RowKit Go.Proofs.YtadafplbgophfaaW.PrintWords Go.Proofs.YtadafplbgophfaaW.PrintLast Go.Proofs.YtadafplbgophfaaW.PrintMore
attribute [local go_sem] max2_int min2_int max_two min_two max_three min_three max_four min_four   -- for this text's walks alone
set_option linter.unusedVariables false
set_option linter.unusedSimpArgs false
attribute [local go_sem high] eqA120
def doc_Of.l0 : Nat → List (S120) → List (S120) → Int → Int → Option ((List (S120)))
 | 0, _, _, _, _ => none
 | k + 1, x3, x7, x8, x9 => if x9 < x8 then (if 0 ≤ x9 then (if x9 < (x7.length : Int) then (if (((((rd_T120 x7 x9).f0.f0).toList) == ([] : List UInt8) && ((((rd_T120 x7 x9).f0.f1).toList) == ([] : List UInt8) && ((((rd_T120 x7 x9).f0.f2).toList) == ([] : List UInt8)))) && (!((rd_T120 x7 x9).f1) && ((((rd_T120 x7 x9).f2).toList) == ([] : List UInt8) && ((((rd_T120 x7 x9).f3).toList) == ([] : List UInt8) && ((((rd_T120 x7 x9).f4).toList) == ([] : List UInt8) && ((((rd_T120 x7 x9).f5).toList) == ([] : List UInt8) && (!((rd_T120 x7 x9).f6)))))))) = true then (doc_Of.l0 k x3 x7 x8 (wrap64 (x9 + 1))) else ((doc_Part_isText.f ((rd_T120 x7 x9).f0.f0) ((rd_T120 x7 x9).f0.f1) ((rd_T120 x7 x9).f0.f2) ((rd_T120 x7 x9).f1) ((rd_T120 x7 x9).f2) ((rd_T120 x7 x9).f3) ((rd_T120 x7 x9).f4) ((rd_T120 x7 x9).f5) ((rd_T120 x7 x9).f6)).bind fun t103 => (if t103 = true then (if (x3.length : Int) > 0 then (if 0 ≤ (wrap64 ((x3.length : Int) - 1)) then (if (wrap64 ((x3.length : Int) - 1)) < (x3.length : Int) then ((doc_Part_isText.f ((rd_T120 x3 (wrap64 ((x3.length : Int) - 1))).f0.f0) ((rd_T120 x3 (wrap64 ((x3.length : Int) - 1))).f0.f1) ((rd_T120 x3 (wrap64 ((x3.length : Int) - 1))).f0.f2) ((rd_T120 x3 (wrap64 ((x3.length : Int) - 1))).f1) ((rd_T120 x3 (wrap64 ((x3.length : Int) - 1))).f2) ((rd_T120 x3 (wrap64 ((x3.length : Int) - 1))).f3) ((rd_T120 x3 (wrap64 ((x3.length : Int) - 1))).f4) ((rd_T120 x3 (wrap64 ((x3.length : Int) - 1))).f5) ((rd_T120 x3 (wrap64 ((x3.length : Int) - 1))).f6)).bind fun t105 => (if t105 = true then (if ((rd_T120 x3 (wrap64 ((x3.length : Int) - 1))).f2).size + ((rd_T120 x7 x9).f2).size ≤ 9223372036854775807 then (doc_Of.l0 k (x3.set ((wrap64 ((x3.length : Int) - 1)) : Int).toNat (⟨(⟨(rd_T120 x3 (wrap64 ((x3.length : Int) - 1))).f0.f0, (rd_T120 x3 (wrap64 ((x3.length : Int) - 1))).f0.f1, (rd_T120 x3 (wrap64 ((x3.length : Int) - 1))).f0.f2⟩ : S116), (rd_T120 x3 (wrap64 ((x3.length : Int) - 1))).f1, ((rd_T120 x3 (wrap64 ((x3.length : Int) - 1))).f2) ++ ((rd_T120 x7 x9).f2), (rd_T120 x3 (wrap64 ((x3.length : Int) - 1))).f3, (rd_T120 x3 (wrap64 ((x3.length : Int) - 1))).f4, (rd_T120 x3 (wrap64 ((x3.length : Int) - 1))).f5, (rd_T120 x3 (wrap64 ((x3.length : Int) - 1))).f6⟩ : S120)) x7 x8 (wrap64 (x9 + 1))) else (none)) else (if x3.length < 1099511627776 then (doc_Of.l0 k (x3 ++ [(⟨(⟨(rd_T120 x7 x9).f0.f0, (rd_T120 x7 x9).f0.f1, (rd_T120 x7 x9).f0.f2⟩ : S116), (rd_T120 x7 x9).f1, (rd_T120 x7 x9).f2, (rd_T120 x7 x9).f3, (rd_T120 x7 x9).f4, (rd_T120 x7 x9).f5, (rd_T120 x7 x9).f6⟩ : S120)]) x7 x8 (wrap64 (x9 + 1))) else (none)))) else (none)) else (none)) else (if x3.length < 1099511627776 then (doc_Of.l0 k (x3 ++ [(⟨(⟨(rd_T120 x7 x9).f0.f0, (rd_T120 x7 x9).f0.f1, (rd_T120 x7 x9).f0.f2⟩ : S116), (rd_T120 x7 x9).f1, (rd_T120 x7 x9).f2, (rd_T120 x7 x9).f3, (rd_T120 x7 x9).f4, (rd_T120 x7 x9).f5, (rd_T120 x7 x9).f6⟩ : S120)]) x7 x8 (wrap64 (x9 + 1))) else (none))) else (if x3.length < 1099511627776 then (doc_Of.l0 k (x3 ++ [(⟨(⟨(rd_T120 x7 x9).f0.f0, (rd_T120 x7 x9).f0.f1, (rd_T120 x7 x9).f0.f2⟩ : S116), (rd_T120 x7 x9).f1, (rd_T120 x7 x9).f2, (rd_T120 x7 x9).f3, (rd_T120 x7 x9).f4, (rd_T120 x7 x9).f5, (rd_T120 x7 x9).f6⟩ : S120)]) x7 x8 (wrap64 (x9 + 1))) else (none))))) else (none)) else (none)) else (some x3)
def doc_Of.f (k : Nat) (l0 : List (S120)) : Option ((List (S120))) := doc_Of.l0 k ([] : List (S120)) l0 (l0.length : Int) 0
theorem doc_Of.mono_l : ∀ k, (∀ y0 y1 y2 y3, LeO (doc_Of.l0 k y0 y1 y2 y3) (doc_Of.l0 (k + 1) y0 y1 y2 y3))
 | 0 => fun _ _ _ _ r h => by simp [doc_Of.l0] at h
 | k + 1 => by
  have ih0 := doc_Of.mono_l k
  ·intro y0 y1 y2 y3
   unfold doc_Of.l0
   repeat' first
   | (with_reducible exact ih0 _ _ _ _)
   | (with_reducible exact LeO.refl _)
   | (with_reducible exact LeO.none _)
   | (with_reducible refine LeO.ite ?_ ?_)
   | (with_reducible refine LeO.bind ?_ (fun _ => ?_))
   | exact ih0 _ _ _ _
   | exact LeO.none _
   | refine LeO.ite ?_ ?_
   | refine LeO.bind ?_ (fun _ => ?_)
theorem doc_Of.mono : ∀ a0 k, LeO (doc_Of.f k a0) (doc_Of.f (k + 1) a0) := by
 intro a0 k
 have ih0 := doc_Of.mono_l k
 unfold doc_Of.f
 repeat' first
   | (with_reducible exact ih0 _ _ _ _)
   | (with_reducible exact LeO.refl _)
   | (with_reducible exact LeO.none _)
   | (with_reducible refine LeO.ite ?_ ?_)
   | (with_reducible refine LeO.bind ?_ (fun _ => ?_))
   | exact ih0 _ _ _ _
   | exact LeO.none _
   | refine LeO.ite ?_ ?_
   | refine LeO.bind ?_ (fun _ => ?_)
def doc_Of.T9 : Bool × List (List Nat × List Nat) := (true, [([], []), ([], []), ([1], [1]), ([0, 2], [0, 2]), ([3], [3]), ([4], [4]), ([], []), ([6], [6]), ([5, 7], [5, 7]), ([0, 2, 0, 1, 2, 3, 4, 5, 6, 7, 8], [0, 2]), ([9, 0, 1, 2, 3, 4, 5, 6, 7, 8], [9]), ([10, 8, 0, 1, 2, 3, 4, 5, 6, 7, 8], [8, 10])])
def doc_Of.B9 : List Nat := [0, 0, 2, 7, 15, 31, 0, 64, 255, 511, 1023, 2047]
theorem doc_Of.tab9 : rtab .any (opsOf Try.f111 9) = doc_Of.T9 := by kernel_rfl
theorem doc_Of.bits9 : waitsOk doc_Of.T9.2 doc_Of.B9 = true := by kernel_rfl
set_option maxHeartbeats 8000000 in
set_option maxRecDepth 100000 in
theorem doc_Of.calls (k : Nat) (A0 : Option Addr) (c0 : Nat) (l0 : List (S120)) (r : List (S120)) (w : World) (hr0 : Kd.C k120 w A0 l0.length l0) (hc0 : l0.length ≤ c0) (h : doc_Of.f k l0 = some r) :
  Calls Try.prog 111 #[.slice A0 l0.length c0] w fun e w' => ∃ v0_ : Value, e = .returned (v0_) ∧ Kd.R k120 120 w' w.heap.size (fun _ => True) v0_ r ∧ Below w.heap.size w w' := by
 have hu120 := Try.underlying120
 have HR0 := Aside0.mk hr0
 have HC0 := Aside0.mk hc0
 clear hr0 hc0
 have HB := Aside0.mk (Below.refl w.heap.size w)
 have H : (doc_Of.l0 k ([] : List (S120)) l0 (l0.length : Int) 0) = some r := h
 clear h
 have H' := Aside0.mk H
 clear H
 go_enter Try.func111, Try.ntmps111
 go_wp2
 go_loopg [3, 9] k (fun kq v3 v9 w' => ∃ (x3_1 : List (S120)) (x9_1 : Int), v9 = .int .i64 x9_1 ∧ Aside0 (doc_Of.l0 kq x3_1 l0 (l0.length : Int) x9_1 = some r) ∧ Aside0 (kq ≤ k) ∧ Aside0 (Kd.R k120 120 w' w.heap.size (fun _ => True) v3 x3_1) ∧ Aside0 (Below w.heap.size w w'))
 case atStart => exact ⟨(([] : List (S120))), (0), (by first | rfl | (simp; done) | (simp [*]; done)), H', ⟨Nat.le_refl _⟩, ⟨by first | exact Kd.R_nil _ _ _ _ _ | exact Kd.N_nil _ _ _ _ _ | exact Kd.V_nil _ _ _ _ _ | exact Kd.Q_nil _ _ _ _ _ | exact Kd.S_nil _ _ _ _ _⟩, ⟨by repeat (first | (with_reducible first | exact HB.out | apply below_alloc | apply pw_below_drewN | apply below_drew1) | exact HB.out)⟩⟩
 case round =>
  clear H'
  try clear c1
  obtain ⟨x3_1, x9_1, rfl, HA, HK1, HO_3, HB⟩ := hrel
  cases gk with
  | zero => exact absurd HA.out (by simp [doc_Of.l0])
  | succ k1 =>
   have H := HA.out
   clear HA
   simp only [doc_Of.l0] at H
   by_cases c2 : x9_1 < (l0.length : Int)
   ·rw [if_pos c2] at H
    have c2b0 : decide (x9_1 < (l0.length : Int)) = true := decide_eq_true c2
    clear c2
    by_cases c3 : 0 ≤ x9_1
    ·rw [if_pos c3] at H
     have c3b0 : decide (0 ≤ x9_1) = true := decide_eq_true c3
     clear c3
     by_cases c4 : x9_1 < (l0.length : Int)
     ·rw [if_pos c4] at H
      have c4b0 : decide (x9_1 < (l0.length : Int)) = true := decide_eq_true c4
      clear c4
      by_cases c5 : (((((rd_T120 l0 x9_1).f0.f0).toList) == ([] : List UInt8) && ((((rd_T120 l0 x9_1).f0.f1).toList) == ([] : List UInt8) && ((((rd_T120 l0 x9_1).f0.f2).toList) == ([] : List UInt8)))) && (!((rd_T120 l0 x9_1).f1) && ((((rd_T120 l0 x9_1).f2).toList) == ([] : List UInt8) && ((((rd_T120 l0 x9_1).f3).toList) == ([] : List UInt8) && ((((rd_T120 l0 x9_1).f4).toList) == ([] : List UInt8) && ((((rd_T120 l0 x9_1).f5).toList) == ([] : List UInt8) && (!((rd_T120 l0 x9_1).f6)))))))) = true
      ·rw [if_pos c5] at H
       have c5b0 : (((((rd_T120 l0 x9_1).f0.f0).toList) == ([] : List UInt8) && ((((rd_T120 l0 x9_1).f0.f1).toList) == ([] : List UInt8) && ((((rd_T120 l0 x9_1).f0.f2).toList) == ([] : List UInt8)))) && (!((rd_T120 l0 x9_1).f1) && ((((rd_T120 l0 x9_1).f2).toList) == ([] : List UInt8) && ((((rd_T120 l0 x9_1).f3).toList) == ([] : List UInt8) && ((((rd_T120 l0 x9_1).f4).toList) == ([] : List UInt8) && ((((rd_T120 l0 x9_1).f5).toList) == ([] : List UInt8) && (!((rd_T120 l0 x9_1).f6)))))))) = true := c5
       (try simp only [List.beq_nil_eq] at c5b0)
       clear c5
       have H' := Aside0.mk H
       clear H
       have p101 : 0 ≤ (x9_1 : Int) := of_decide_eq_true (by first | (with_reducible assumption) | assumption)
       have q101 : x9_1 < (l0.length : Int) := of_decide_eq_true (by first | (with_reducible assumption) | assumption)
       obtain ⟨ad101, e101, hx101_0, hx101_1, hx101_2, hx101_3, hx101_4, hx101_5, hx101_6, hx101_7, hx101_8⟩ := at_T120 HR0.out x9_1 p101 q101
       cases e101
       replace hx101_0 := (HB.out.cell (World.block_lt_of_cell? w _ hx101_0)).trans hx101_0
       replace hx101_1 := (HB.out.cell (World.block_lt_of_cell? w _ hx101_1)).trans hx101_1
       replace hx101_2 := (HB.out.cell (World.block_lt_of_cell? w _ hx101_2)).trans hx101_2
       replace hx101_3 := (HB.out.cell (World.block_lt_of_cell? w _ hx101_3)).trans hx101_3
       replace hx101_4 := (HB.out.cell (World.block_lt_of_cell? w _ hx101_4)).trans hx101_4
       replace hx101_5 := (HB.out.cell (World.block_lt_of_cell? w _ hx101_5)).trans hx101_5
       replace hx101_6 := (HB.out.cell (World.block_lt_of_cell? w _ hx101_6)).trans hx101_6
       replace hx101_7 := (HB.out.cell (World.block_lt_of_cell? w _ hx101_7)).trans hx101_7
       replace hx101_8 := (HB.out.cell (World.block_lt_of_cell? w _ hx101_8)).trans hx101_8
       replace p101 := eq_true p101
       replace q101 := eq_true q101
       go_wp2_with (first | ((with_reducible refine gate_dst (N := 5) rfl ?_); refine box_event ?hg (N := 5) ?hd (cs := #[.string (⟨#[]⟩ : ByteArray), .string (⟨#[]⟩ : ByteArray), .string (⟨#[]⟩ : ByteArray), .bool false, .string (⟨#[]⟩ : ByteArray), .string (⟨#[]⟩ : ByteArray), .string (⟨#[]⟩ : ByteArray), .string (⟨#[]⟩ : ByteArray), .bool false]) (t := 120) ?hr ?_; (case hd => rfl); (case hg => rfl); (case hr => first | (go_simp; done) | (go_simp; rfl)); intro gb102 hg w6 hbox hb; have n0_ := Aside0.mk (Kd.R_below (Kd.R_elderB (by (with_reducible repeat (first | apply Kd.R_alloc | apply Kd.R_drewN | apply Kd.R_drew)); exact HO_3.out) gb102 (Nat.le_of_eq hg.symm)) hb); have n1_ := Aside0.mk (below_step (by repeat (first | (with_reducible first | exact HB.out | apply below_alloc | apply pw_below_drewN | apply below_drew1) | exact HB.out)) hb); have n2_ := Aside0.mk (hbox); have n3_ := Aside0.mk ((by rw [hg]; exact (below_size (by repeat (first | (with_reducible first | exact HB.out | apply below_alloc | apply pw_below_drewN | apply below_drew1) | exact HB.out))) : w.heap.size ≤ gb102)); have n4_ := Aside0.mk ((by rw [hg]; exact (below_size (by repeat (first | (with_reducible first | exact HB.out | apply below_alloc | apply pw_below_drewN | apply below_drew1) | exact HB.out))) : w.heap.size ≤ gb102)); clear HO_3; clear HB; have HO_3 := n0_; have HB := n1_; have BK102 := n2_; have GW102 := n3_; have GE102 := n4_; clear n0_ n1_ n2_ n3_ n4_; clear hb hbox hg; have hcz7_0 : w6.cell? ⟨gb102, 0, none⟩ = some (.string (⟨#[]⟩ : ByteArray)) := (blk_cell BK102.out 0).trans rfl; have hcz7_1 : w6.cell? ⟨gb102, 1, none⟩ = some (.string (⟨#[]⟩ : ByteArray)) := (blk_cell BK102.out 1).trans rfl; have hcz7_2 : w6.cell? ⟨gb102, 2, none⟩ = some (.string (⟨#[]⟩ : ByteArray)) := (blk_cell BK102.out 2).trans rfl; have hcz7_3 : w6.cell? ⟨gb102, 3, none⟩ = some (.bool false) := (blk_cell BK102.out 3).trans rfl; have hcz7_4 : w6.cell? ⟨gb102, 4, none⟩ = some (.string (⟨#[]⟩ : ByteArray)) := (blk_cell BK102.out 4).trans rfl; have hcz7_5 : w6.cell? ⟨gb102, 5, none⟩ = some (.string (⟨#[]⟩ : ByteArray)) := (blk_cell BK102.out 5).trans rfl; have hcz7_6 : w6.cell? ⟨gb102, 6, none⟩ = some (.string (⟨#[]⟩ : ByteArray)) := (blk_cell BK102.out 6).trans rfl; have hcz7_7 : w6.cell? ⟨gb102, 7, none⟩ = some (.string (⟨#[]⟩ : ByteArray)) := (blk_cell BK102.out 7).trans rfl; have hcz7_8 : w6.cell? ⟨gb102, 8, none⟩ = some (.bool false) := (blk_cell BK102.out 8).trans rfl; have hfz7_0 := blk_frozen BK102.out 0; have hfz7_1 := blk_frozen BK102.out 1; have hfz7_2 := blk_frozen BK102.out 2; have hfz7_3 := blk_frozen BK102.out 3; have hfz7_4 := blk_frozen BK102.out 4; have hfz7_5 := blk_frozen BK102.out 5; have hfz7_6 := blk_frozen BK102.out 6; have hfz7_7 := blk_frozen BK102.out 7; have hfz7_8 := blk_frozen BK102.out 8; obtain ⟨Ao8, co8, eo8⟩ := Kd.R_slice HO_3.out; subst eo8))
       go_roundg k1
       case measure => have := HK1.out; omega
       case rel => exact ⟨(x3_1), (wrap64 (x9_1 + 1)), (by first | rfl | (simp; done) | (simp [*]; done)), H', ⟨by have := HK1.out; omega⟩, ⟨by (with_reducible repeat (first | apply Kd.R_alloc | apply Kd.R_drewN | apply Kd.R_drew)); exact Kd.R_mono (Kd.R_far (p := ⟨gb102, 8, none⟩) (Kd.R_far (p := ⟨gb102, 7, none⟩) (Kd.R_far (p := ⟨gb102, 6, none⟩) (Kd.R_far (p := ⟨gb102, 5, none⟩) (Kd.R_far (p := ⟨gb102, 4, none⟩) (Kd.R_far (p := ⟨gb102, 3, none⟩) (Kd.R_far (p := ⟨gb102, 2, none⟩) (Kd.R_far (p := ⟨gb102, 1, none⟩) (Kd.R_far (p := ⟨gb102, 0, none⟩) (Kd.R_mono HO_3.out (fun k_ hk => (⟨hk, hk.2⟩ : _ ∧ k_ ≠ gb102))) (fun _ hk => hk.2) (.string ((rd_T120 l0 x9_1).f0.f0))) (fun _ hk => hk.2) (.string ((rd_T120 l0 x9_1).f0.f1))) (fun _ hk => hk.2) (.string ((rd_T120 l0 x9_1).f0.f2))) (fun _ hk => hk.2) (.bool ((rd_T120 l0 x9_1).f1))) (fun _ hk => hk.2) (.string ((rd_T120 l0 x9_1).f2))) (fun _ hk => hk.2) (.string ((rd_T120 l0 x9_1).f3))) (fun _ hk => hk.2) (.string ((rd_T120 l0 x9_1).f4))) (fun _ hk => hk.2) (.string ((rd_T120 l0 x9_1).f5))) (fun _ hk => hk.2) (.bool ((rd_T120 l0 x9_1).f6))) (fun _ hk => trivial)⟩, ⟨by repeat (first | (with_reducible first | exact HB.out | apply below_alloc | apply pw_below_drewN | apply below_drew1 | refine below_set ?_ GE102.out) | exact HB.out)⟩⟩
      ·rw [if_neg c5] at H
       have c5b0 : (((((rd_T120 l0 x9_1).f0.f0).toList) == ([] : List UInt8) && ((((rd_T120 l0 x9_1).f0.f1).toList) == ([] : List UInt8) && ((((rd_T120 l0 x9_1).f0.f2).toList) == ([] : List UInt8)))) && (!((rd_T120 l0 x9_1).f1) && ((((rd_T120 l0 x9_1).f2).toList) == ([] : List UInt8) && ((((rd_T120 l0 x9_1).f3).toList) == ([] : List UInt8) && ((((rd_T120 l0 x9_1).f4).toList) == ([] : List UInt8) && ((((rd_T120 l0 x9_1).f5).toList) == ([] : List UInt8) && (!((rd_T120 l0 x9_1).f6)))))))) = false := by simpa using c5
       (try simp only [List.beq_nil_eq] at c5b0)
       clear c5
       replace H := Option.bind_eq_some_iff.mp H
       obtain ⟨t103, A90, H⟩ := H
       replace H : (if t103 = true then (if (x3_1.length : Int) > 0 then (if 0 ≤ (wrap64 ((x3_1.length : Int) - 1)) then (if (wrap64 ((x3_1.length : Int) - 1)) < (x3_1.length : Int) then ((doc_Part_isText.f ((rd_T120 x3_1 (wrap64 ((x3_1.length : Int) - 1))).f0.f0) ((rd_T120 x3_1 (wrap64 ((x3_1.length : Int) - 1))).f0.f1) ((rd_T120 x3_1 (wrap64 ((x3_1.length : Int) - 1))).f0.f2) ((rd_T120 x3_1 (wrap64 ((x3_1.length : Int) - 1))).f1) ((rd_T120 x3_1 (wrap64 ((x3_1.length : Int) - 1))).f2) ((rd_T120 x3_1 (wrap64 ((x3_1.length : Int) - 1))).f3) ((rd_T120 x3_1 (wrap64 ((x3_1.length : Int) - 1))).f4) ((rd_T120 x3_1 (wrap64 ((x3_1.length : Int) - 1))).f5) ((rd_T120 x3_1 (wrap64 ((x3_1.length : Int) - 1))).f6)).bind fun t105 => (if t105 = true then (if ((rd_T120 x3_1 (wrap64 ((x3_1.length : Int) - 1))).f2).size + ((rd_T120 l0 x9_1).f2).size ≤ 9223372036854775807 then (doc_Of.l0 k1 (x3_1.set ((wrap64 ((x3_1.length : Int) - 1)) : Int).toNat (⟨(⟨(rd_T120 x3_1 (wrap64 ((x3_1.length : Int) - 1))).f0.f0, (rd_T120 x3_1 (wrap64 ((x3_1.length : Int) - 1))).f0.f1, (rd_T120 x3_1 (wrap64 ((x3_1.length : Int) - 1))).f0.f2⟩ : S116), (rd_T120 x3_1 (wrap64 ((x3_1.length : Int) - 1))).f1, ((rd_T120 x3_1 (wrap64 ((x3_1.length : Int) - 1))).f2) ++ ((rd_T120 l0 x9_1).f2), (rd_T120 x3_1 (wrap64 ((x3_1.length : Int) - 1))).f3, (rd_T120 x3_1 (wrap64 ((x3_1.length : Int) - 1))).f4, (rd_T120 x3_1 (wrap64 ((x3_1.length : Int) - 1))).f5, (rd_T120 x3_1 (wrap64 ((x3_1.length : Int) - 1))).f6⟩ : S120)) l0 (l0.length : Int) (wrap64 (x9_1 + 1))) else (none)) else (if x3_1.length < 1099511627776 then (doc_Of.l0 k1 (x3_1 ++ [(⟨(⟨(rd_T120 l0 x9_1).f0.f0, (rd_T120 l0 x9_1).f0.f1, (rd_T120 l0 x9_1).f0.f2⟩ : S116), (rd_T120 l0 x9_1).f1, (rd_T120 l0 x9_1).f2, (rd_T120 l0 x9_1).f3, (rd_T120 l0 x9_1).f4, (rd_T120 l0 x9_1).f5, (rd_T120 l0 x9_1).f6⟩ : S120)]) l0 (l0.length : Int) (wrap64 (x9_1 + 1))) else (none)))) else (none)) else (none)) else (if x3_1.length < 1099511627776 then (doc_Of.l0 k1 (x3_1 ++ [(⟨(⟨(rd_T120 l0 x9_1).f0.f0, (rd_T120 l0 x9_1).f0.f1, (rd_T120 l0 x9_1).f0.f2⟩ : S116), (rd_T120 l0 x9_1).f1, (rd_T120 l0 x9_1).f2, (rd_T120 l0 x9_1).f3, (rd_T120 l0 x9_1).f4, (rd_T120 l0 x9_1).f5, (rd_T120 l0 x9_1).f6⟩ : S120)]) l0 (l0.length : Int) (wrap64 (x9_1 + 1))) else (none))) else (if x3_1.length < 1099511627776 then (doc_Of.l0 k1 (x3_1 ++ [(⟨(⟨(rd_T120 l0 x9_1).f0.f0, (rd_T120 l0 x9_1).f0.f1, (rd_T120 l0 x9_1).f0.f2⟩ : S116), (rd_T120 l0 x9_1).f1, (rd_T120 l0 x9_1).f2, (rd_T120 l0 x9_1).f3, (rd_T120 l0 x9_1).f4, (rd_T120 l0 x9_1).f5, (rd_T120 l0 x9_1).f6⟩ : S120)]) l0 (l0.length : Int) (wrap64 (x9_1 + 1))) else (none))) = some r := H
       have A9 := Aside0.mk A90
       clear A90
       by_cases c10 : t103 = true
       ·subst c10
        have H1 : (if (x3_1.length : Int) > 0 then (if 0 ≤ (wrap64 ((x3_1.length : Int) - 1)) then (if (wrap64 ((x3_1.length : Int) - 1)) < (x3_1.length : Int) then ((doc_Part_isText.f ((rd_T120 x3_1 (wrap64 ((x3_1.length : Int) - 1))).f0.f0) ((rd_T120 x3_1 (wrap64 ((x3_1.length : Int) - 1))).f0.f1) ((rd_T120 x3_1 (wrap64 ((x3_1.length : Int) - 1))).f0.f2) ((rd_T120 x3_1 (wrap64 ((x3_1.length : Int) - 1))).f1) ((rd_T120 x3_1 (wrap64 ((x3_1.length : Int) - 1))).f2) ((rd_T120 x3_1 (wrap64 ((x3_1.length : Int) - 1))).f3) ((rd_T120 x3_1 (wrap64 ((x3_1.length : Int) - 1))).f4) ((rd_T120 x3_1 (wrap64 ((x3_1.length : Int) - 1))).f5) ((rd_T120 x3_1 (wrap64 ((x3_1.length : Int) - 1))).f6)).bind fun t105 => (if t105 = true then (if ((rd_T120 x3_1 (wrap64 ((x3_1.length : Int) - 1))).f2).size + ((rd_T120 l0 x9_1).f2).size ≤ 9223372036854775807 then (doc_Of.l0 k1 (x3_1.set ((wrap64 ((x3_1.length : Int) - 1)) : Int).toNat (⟨(⟨(rd_T120 x3_1 (wrap64 ((x3_1.length : Int) - 1))).f0.f0, (rd_T120 x3_1 (wrap64 ((x3_1.length : Int) - 1))).f0.f1, (rd_T120 x3_1 (wrap64 ((x3_1.length : Int) - 1))).f0.f2⟩ : S116), (rd_T120 x3_1 (wrap64 ((x3_1.length : Int) - 1))).f1, ((rd_T120 x3_1 (wrap64 ((x3_1.length : Int) - 1))).f2) ++ ((rd_T120 l0 x9_1).f2), (rd_T120 x3_1 (wrap64 ((x3_1.length : Int) - 1))).f3, (rd_T120 x3_1 (wrap64 ((x3_1.length : Int) - 1))).f4, (rd_T120 x3_1 (wrap64 ((x3_1.length : Int) - 1))).f5, (rd_T120 x3_1 (wrap64 ((x3_1.length : Int) - 1))).f6⟩ : S120)) l0 (l0.length : Int) (wrap64 (x9_1 + 1))) else (none)) else (if x3_1.length < 1099511627776 then (doc_Of.l0 k1 (x3_1 ++ [(⟨(⟨(rd_T120 l0 x9_1).f0.f0, (rd_T120 l0 x9_1).f0.f1, (rd_T120 l0 x9_1).f0.f2⟩ : S116), (rd_T120 l0 x9_1).f1, (rd_T120 l0 x9_1).f2, (rd_T120 l0 x9_1).f3, (rd_T120 l0 x9_1).f4, (rd_T120 l0 x9_1).f5, (rd_T120 l0 x9_1).f6⟩ : S120)]) l0 (l0.length : Int) (wrap64 (x9_1 + 1))) else (none)))) else (none)) else (none)) else (if x3_1.length < 1099511627776 then (doc_Of.l0 k1 (x3_1 ++ [(⟨(⟨(rd_T120 l0 x9_1).f0.f0, (rd_T120 l0 x9_1).f0.f1, (rd_T120 l0 x9_1).f0.f2⟩ : S116), (rd_T120 l0 x9_1).f1, (rd_T120 l0 x9_1).f2, (rd_T120 l0 x9_1).f3, (rd_T120 l0 x9_1).f4, (rd_T120 l0 x9_1).f5, (rd_T120 l0 x9_1).f6⟩ : S120)]) l0 (l0.length : Int) (wrap64 (x9_1 + 1))) else (none))) = some r := by rw [if_pos rfl] at H; exact H
        clear H
        have H := H1
        clear H1
        by_cases c11 : (x3_1.length : Int) > 0
        ·rw [if_pos c11] at H
         have c11b0 : decide (0 < (x3_1.length : Int)) = true := decide_eq_true c11
         have c11b1 : decide (0 < x3_1.length) = true := decide_eq_true (by omega)
         clear c11
         obtain ⟨ji12, hji12⟩ : ∃ j_ : Int, (wrap64 ((x3_1.length : Int) - 1)) = j_ := ⟨_, rfl⟩
         replace H : (if 0 ≤ (ji12) then (if (ji12) < (x3_1.length : Int) then ((doc_Part_isText.f ((rd_T120 x3_1 (ji12)).f0.f0) ((rd_T120 x3_1 (ji12)).f0.f1) ((rd_T120 x3_1 (ji12)).f0.f2) ((rd_T120 x3_1 (ji12)).f1) ((rd_T120 x3_1 (ji12)).f2) ((rd_T120 x3_1 (ji12)).f3) ((rd_T120 x3_1 (ji12)).f4) ((rd_T120 x3_1 (ji12)).f5) ((rd_T120 x3_1 (ji12)).f6)).bind fun t105 => (if t105 = true then (if ((rd_T120 x3_1 (ji12)).f2).size + ((rd_T120 l0 x9_1).f2).size ≤ 9223372036854775807 then (doc_Of.l0 k1 (x3_1.set ((ji12) : Int).toNat (⟨(⟨(rd_T120 x3_1 (ji12)).f0.f0, (rd_T120 x3_1 (ji12)).f0.f1, (rd_T120 x3_1 (ji12)).f0.f2⟩ : S116), (rd_T120 x3_1 (ji12)).f1, ((rd_T120 x3_1 (ji12)).f2) ++ ((rd_T120 l0 x9_1).f2), (rd_T120 x3_1 (ji12)).f3, (rd_T120 x3_1 (ji12)).f4, (rd_T120 x3_1 (ji12)).f5, (rd_T120 x3_1 (ji12)).f6⟩ : S120)) l0 (l0.length : Int) (wrap64 (x9_1 + 1))) else (none)) else (if x3_1.length < 1099511627776 then (doc_Of.l0 k1 (x3_1 ++ [(⟨(⟨(rd_T120 l0 x9_1).f0.f0, (rd_T120 l0 x9_1).f0.f1, (rd_T120 l0 x9_1).f0.f2⟩ : S116), (rd_T120 l0 x9_1).f1, (rd_T120 l0 x9_1).f2, (rd_T120 l0 x9_1).f3, (rd_T120 l0 x9_1).f4, (rd_T120 l0 x9_1).f5, (rd_T120 l0 x9_1).f6⟩ : S120)]) l0 (l0.length : Int) (wrap64 (x9_1 + 1))) else (none)))) else (none)) else (none)) = some r := by first | (rw [hji12] at H; exact H) | (simp only [hji12] at H ⊢; exact H)
         (try rw [hji12] at A9)
         have hji12w : (IntKind.i64.wrap ((x3_1.length : Int) - 1)) = ji12 := (i64_w _).trans hji12
         by_cases c13 : 0 ≤ (ji12)
         ·rw [if_pos c13] at H
          have c13b0 : decide (0 ≤ (ji12)) = true := decide_eq_true c13
          clear c13
          by_cases c14 : (ji12) < (x3_1.length : Int)
          ·rw [if_pos c14] at H
           have c14b0 : decide ((ji12) < (x3_1.length : Int)) = true := decide_eq_true c14
           clear c14
           replace H := Option.bind_eq_some_iff.mp H
           obtain ⟨t105, A150, H⟩ := H
           replace H : (if t105 = true then (if ((rd_T120 x3_1 (ji12)).f2).size + ((rd_T120 l0 x9_1).f2).size ≤ 9223372036854775807 then (doc_Of.l0 k1 (x3_1.set ((ji12) : Int).toNat (⟨(⟨(rd_T120 x3_1 (ji12)).f0.f0, (rd_T120 x3_1 (ji12)).f0.f1, (rd_T120 x3_1 (ji12)).f0.f2⟩ : S116), (rd_T120 x3_1 (ji12)).f1, ((rd_T120 x3_1 (ji12)).f2) ++ ((rd_T120 l0 x9_1).f2), (rd_T120 x3_1 (ji12)).f3, (rd_T120 x3_1 (ji12)).f4, (rd_T120 x3_1 (ji12)).f5, (rd_T120 x3_1 (ji12)).f6⟩ : S120)) l0 (l0.length : Int) (wrap64 (x9_1 + 1))) else (none)) else (if x3_1.length < 1099511627776 then (doc_Of.l0 k1 (x3_1 ++ [(⟨(⟨(rd_T120 l0 x9_1).f0.f0, (rd_T120 l0 x9_1).f0.f1, (rd_T120 l0 x9_1).f0.f2⟩ : S116), (rd_T120 l0 x9_1).f1, (rd_T120 l0 x9_1).f2, (rd_T120 l0 x9_1).f3, (rd_T120 l0 x9_1).f4, (rd_T120 l0 x9_1).f5, (rd_T120 l0 x9_1).f6⟩ : S120)]) l0 (l0.length : Int) (wrap64 (x9_1 + 1))) else (none))) = some r := H
           have A15 := Aside0.mk A150
           clear A150
           by_cases c16 : t105 = true
           ·subst c16
            have H1 : (if ((rd_T120 x3_1 (ji12)).f2).size + ((rd_T120 l0 x9_1).f2).size ≤ 9223372036854775807 then (doc_Of.l0 k1 (x3_1.set ((ji12) : Int).toNat (⟨(⟨(rd_T120 x3_1 (ji12)).f0.f0, (rd_T120 x3_1 (ji12)).f0.f1, (rd_T120 x3_1 (ji12)).f0.f2⟩ : S116), (rd_T120 x3_1 (ji12)).f1, ((rd_T120 x3_1 (ji12)).f2) ++ ((rd_T120 l0 x9_1).f2), (rd_T120 x3_1 (ji12)).f3, (rd_T120 x3_1 (ji12)).f4, (rd_T120 x3_1 (ji12)).f5, (rd_T120 x3_1 (ji12)).f6⟩ : S120)) l0 (l0.length : Int) (wrap64 (x9_1 + 1))) else (none)) = some r := by rw [if_pos rfl] at H; exact H
            clear H
            have H := H1
            clear H1
            by_cases c17 : ((rd_T120 x3_1 (ji12)).f2).size + ((rd_T120 l0 x9_1).f2).size ≤ 9223372036854775807
            ·rw [if_pos c17] at H
             have c17b0 := eq_true c17
             have c17b1 : decide (((rd_T120 x3_1 (ji12)).f2).size + ((rd_T120 l0 x9_1).f2).size ≤ 9223372036854775807) = true := decide_eq_true c17
             try have c17b2 : (9223372036854775807 < ((rd_T120 x3_1 (ji12)).f2).size + ((rd_T120 l0 x9_1).f2).size) = False := eq_false (Nat.not_lt.2 c17)
             obtain ⟨y107, hy107⟩ : ∃ y_ : List (S120), y_ = (x3_1.set ((ji12) : Int).toNat (⟨(⟨(rd_T120 x3_1 (ji12)).f0.f0, (rd_T120 x3_1 (ji12)).f0.f1, (rd_T120 x3_1 (ji12)).f0.f2⟩ : S116), (rd_T120 x3_1 (ji12)).f1, ((rd_T120 x3_1 (ji12)).f2) ++ ((rd_T120 l0 x9_1).f2), (rd_T120 x3_1 (ji12)).f3, (rd_T120 x3_1 (ji12)).f4, (rd_T120 x3_1 (ji12)).f5, (rd_T120 x3_1 (ji12)).f6⟩ : S120)) := ⟨_, rfl⟩
             replace H : (doc_Of.l0 k1 y107 l0 (l0.length : Int) (wrap64 (x9_1 + 1))) = some r := by first | (rw [hy107]; with_reducible exact H) | (have H2_ := (Option.bind_some _ _).symm.trans H; rw [hy107]; with_reducible exact H2_) | (have H2_ := (Option.bind_some _ _).symm.trans H; with_reducible exact H2_) | with_reducible exact H | (rw [hy107]; exact H) | exact H
             have Ny107 := Aside0.mk hy107
             clear hy107
             have H' := Aside0.mk H
             clear H
             have p101 : 0 ≤ (x9_1 : Int) := of_decide_eq_true (by first | (with_reducible assumption) | assumption)
             have q101 : x9_1 < (l0.length : Int) := of_decide_eq_true (by first | (with_reducible assumption) | assumption)
             obtain ⟨ad101, e101, hx101_0, hx101_1, hx101_2, hx101_3, hx101_4, hx101_5, hx101_6, hx101_7, hx101_8⟩ := at_T120 HR0.out x9_1 p101 q101
             cases e101
             replace hx101_0 := (HB.out.cell (World.block_lt_of_cell? w _ hx101_0)).trans hx101_0
             replace hx101_1 := (HB.out.cell (World.block_lt_of_cell? w _ hx101_1)).trans hx101_1
             replace hx101_2 := (HB.out.cell (World.block_lt_of_cell? w _ hx101_2)).trans hx101_2
             replace hx101_3 := (HB.out.cell (World.block_lt_of_cell? w _ hx101_3)).trans hx101_3
             replace hx101_4 := (HB.out.cell (World.block_lt_of_cell? w _ hx101_4)).trans hx101_4
             replace hx101_5 := (HB.out.cell (World.block_lt_of_cell? w _ hx101_5)).trans hx101_5
             replace hx101_6 := (HB.out.cell (World.block_lt_of_cell? w _ hx101_6)).trans hx101_6
             replace hx101_7 := (HB.out.cell (World.block_lt_of_cell? w _ hx101_7)).trans hx101_7
             replace hx101_8 := (HB.out.cell (World.block_lt_of_cell? w _ hx101_8)).trans hx101_8
             replace p101 := eq_true p101
             replace q101 := eq_true q101
             try go_wp2_with (first | ((with_reducible refine gate_dst (N := 5) rfl ?_); refine box_event ?hg (N := 5) ?hd (cs := #[.string (⟨#[]⟩ : ByteArray), .string (⟨#[]⟩ : ByteArray), .string (⟨#[]⟩ : ByteArray), .bool false, .string (⟨#[]⟩ : ByteArray), .string (⟨#[]⟩ : ByteArray), .string (⟨#[]⟩ : ByteArray), .string (⟨#[]⟩ : ByteArray), .bool false]) (t := 120) ?hr ?_; (case hd => rfl); (case hg => rfl); (case hr => first | (go_simp; done) | (go_simp; rfl)); intro gb102 hg w19 hbox hb; have n0_ := Aside0.mk (Kd.R_below (Kd.R_elderB (by (with_reducible repeat (first | apply Kd.R_alloc | apply Kd.R_drewN | apply Kd.R_drew)); exact HO_3.out) gb102 (Nat.le_of_eq hg.symm)) hb); have n1_ := Aside0.mk (below_step (by repeat (first | (with_reducible first | exact HB.out | apply below_alloc | apply pw_below_drewN | apply below_drew1) | exact HB.out)) hb); have n2_ := Aside0.mk (hbox); have n3_ := Aside0.mk ((by rw [hg]; exact (below_size (by repeat (first | (with_reducible first | exact HB.out | apply below_alloc | apply pw_below_drewN | apply below_drew1) | exact HB.out))) : w.heap.size ≤ gb102)); have n4_ := Aside0.mk ((by rw [hg]; exact (below_size (by repeat (first | (with_reducible first | exact HB.out | apply below_alloc | apply pw_below_drewN | apply below_drew1) | exact HB.out))) : w.heap.size ≤ gb102)); clear HO_3; clear HB; have HO_3 := n0_; have HB := n1_; have BK102 := n2_; have GW102 := n3_; have GE102 := n4_; clear n0_ n1_ n2_ n3_ n4_; clear hb hbox hg; have hcz20_0 : w19.cell? ⟨gb102, 0, none⟩ = some (.string (⟨#[]⟩ : ByteArray)) := (blk_cell BK102.out 0).trans rfl; have hcz20_1 : w19.cell? ⟨gb102, 1, none⟩ = some (.string (⟨#[]⟩ : ByteArray)) := (blk_cell BK102.out 1).trans rfl; have hcz20_2 : w19.cell? ⟨gb102, 2, none⟩ = some (.string (⟨#[]⟩ : ByteArray)) := (blk_cell BK102.out 2).trans rfl; have hcz20_3 : w19.cell? ⟨gb102, 3, none⟩ = some (.bool false) := (blk_cell BK102.out 3).trans rfl; have hcz20_4 : w19.cell? ⟨gb102, 4, none⟩ = some (.string (⟨#[]⟩ : ByteArray)) := (blk_cell BK102.out 4).trans rfl; have hcz20_5 : w19.cell? ⟨gb102, 5, none⟩ = some (.string (⟨#[]⟩ : ByteArray)) := (blk_cell BK102.out 5).trans rfl; have hcz20_6 : w19.cell? ⟨gb102, 6, none⟩ = some (.string (⟨#[]⟩ : ByteArray)) := (blk_cell BK102.out 6).trans rfl; have hcz20_7 : w19.cell? ⟨gb102, 7, none⟩ = some (.string (⟨#[]⟩ : ByteArray)) := (blk_cell BK102.out 7).trans rfl; have hcz20_8 : w19.cell? ⟨gb102, 8, none⟩ = some (.bool false) := (blk_cell BK102.out 8).trans rfl; have hfz20_0 := blk_frozen BK102.out 0; have hfz20_1 := blk_frozen BK102.out 1; have hfz20_2 := blk_frozen BK102.out 2; have hfz20_3 := blk_frozen BK102.out 3; have hfz20_4 := blk_frozen BK102.out 4; have hfz20_5 := blk_frozen BK102.out 5; have hfz20_6 := blk_frozen BK102.out 6; have hfz20_7 := blk_frozen BK102.out 7; have hfz20_8 := blk_frozen BK102.out 8; obtain ⟨Ao21, co21, eo21⟩ := Kd.R_slice HO_3.out; subst eo21) | ((with_reducible refine gate_callee (f := 114) rfl ?_); refine goesL_ (some 25) rfl rfl Try.func114 (by kernel_rfl) rfl #[.agg #[.string ((rd_T120 l0 x9_1).f0.f0), .string ((rd_T120 l0 x9_1).f0.f1), .string ((rd_T120 l0 x9_1).f0.f2), .bool ((rd_T120 l0 x9_1).f1), .string ((rd_T120 l0 x9_1).f2), .string ((rd_T120 l0 x9_1).f3), .string ((rd_T120 l0 x9_1).f4), .string ((rd_T120 l0 x9_1).f5), .bool ((rd_T120 l0 x9_1).f6)]] rfl (by (try simp only [List.map_toArray, List.map_cons, List.map_nil]); first | done | rfl | (simp only [List.length_drop, List.length_take]; rfl)) ?_; (with_reducible refine (doc_Part_isText.calls ((rd_T120 l0 x9_1).f0.f0) ((rd_T120 l0 x9_1).f0.f1) ((rd_T120 l0 x9_1).f0.f2) ((rd_T120 l0 x9_1).f1) ((rd_T120 l0 x9_1).f2) ((rd_T120 l0 x9_1).f3) ((rd_T120 l0 x9_1).f4) ((rd_T120 l0 x9_1).f5) ((rd_T120 l0 x9_1).f6) true _ A9.out).mono ?_); rintro e w22 ⟨rfl, hb⟩; refine ⟨_, rfl, ?_⟩; have n0_ := Aside0.mk (Kd.R_below (by (with_reducible repeat (first | apply Kd.R_alloc | apply Kd.R_drewN | apply Kd.R_drew)); exact (Kd.R_mono (Kd.R_far (p := ⟨gb102, 8, none⟩) (Kd.R_far (p := ⟨gb102, 7, none⟩) (Kd.R_far (p := ⟨gb102, 6, none⟩) (Kd.R_far (p := ⟨gb102, 5, none⟩) (Kd.R_far (p := ⟨gb102, 4, none⟩) (Kd.R_far (p := ⟨gb102, 3, none⟩) (Kd.R_far (p := ⟨gb102, 2, none⟩) (Kd.R_far (p := ⟨gb102, 1, none⟩) (Kd.R_far (p := ⟨gb102, 0, none⟩) (Kd.R_mono HO_3.out (fun k_ hk => (⟨hk, hk.2⟩ : _ ∧ k_ ≠ gb102))) (fun _ hk => hk.2) (.string ((rd_T120 l0 x9_1).f0.f0))) (fun _ hk => hk.2) (.string ((rd_T120 l0 x9_1).f0.f1))) (fun _ hk => hk.2) (.string ((rd_T120 l0 x9_1).f0.f2))) (fun _ hk => hk.2) (.bool ((rd_T120 l0 x9_1).f1))) (fun _ hk => hk.2) (.string ((rd_T120 l0 x9_1).f2))) (fun _ hk => hk.2) (.string ((rd_T120 l0 x9_1).f3))) (fun _ hk => hk.2) (.string ((rd_T120 l0 x9_1).f4))) (fun _ hk => hk.2) (.string ((rd_T120 l0 x9_1).f5))) (fun _ hk => hk.2) (.bool ((rd_T120 l0 x9_1).f6))) (fun _ h_ => h_.1))) hb); have n1_ := Aside0.mk (blk_below (g := gb102) (o := .cells #[.string ((rd_T120 l0 x9_1).f0.f0), .string ((rd_T120 l0 x9_1).f0.f1), .string ((rd_T120 l0 x9_1).f0.f2), .bool ((rd_T120 l0 x9_1).f1), .string ((rd_T120 l0 x9_1).f2), .string ((rd_T120 l0 x9_1).f3), .string ((rd_T120 l0 x9_1).f4), .string ((rd_T120 l0 x9_1).f5), .bool ((rd_T120 l0 x9_1).f6)] 120 (0, 0)) (by (with_reducible repeat (first | refine blk_drewN ?_ _ | refine blk_drew ?_ | refine blk_alloc ?_ _)); refine blk_put (cs := #[.string ((rd_T120 l0 x9_1).f0.f0), .string ((rd_T120 l0 x9_1).f0.f1), .string ((rd_T120 l0 x9_1).f0.f2), .bool ((rd_T120 l0 x9_1).f1), .string ((rd_T120 l0 x9_1).f2), .string ((rd_T120 l0 x9_1).f3), .string ((rd_T120 l0 x9_1).f4), .string ((rd_T120 l0 x9_1).f5), .bool false]) ?_ 8 _ rfl; (with_reducible repeat (first | refine blk_drewN ?_ _ | refine blk_drew ?_ | refine blk_alloc ?_ _)); refine blk_put (cs := #[.string ((rd_T120 l0 x9_1).f0.f0), .string ((rd_T120 l0 x9_1).f0.f1), .string ((rd_T120 l0 x9_1).f0.f2), .bool ((rd_T120 l0 x9_1).f1), .string ((rd_T120 l0 x9_1).f2), .string ((rd_T120 l0 x9_1).f3), .string ((rd_T120 l0 x9_1).f4), .string (⟨#[]⟩ : ByteArray), .bool false]) ?_ 7 _ rfl; (with_reducible repeat (first | refine blk_drewN ?_ _ | refine blk_drew ?_ | refine blk_alloc ?_ _)); refine blk_put (cs := #[.string ((rd_T120 l0 x9_1).f0.f0), .string ((rd_T120 l0 x9_1).f0.f1), .string ((rd_T120 l0 x9_1).f0.f2), .bool ((rd_T120 l0 x9_1).f1), .string ((rd_T120 l0 x9_1).f2), .string ((rd_T120 l0 x9_1).f3), .string (⟨#[]⟩ : ByteArray), .string (⟨#[]⟩ : ByteArray), .bool false]) ?_ 6 _ rfl; (with_reducible repeat (first | refine blk_drewN ?_ _ | refine blk_drew ?_ | refine blk_alloc ?_ _)); refine blk_put (cs := #[.string ((rd_T120 l0 x9_1).f0.f0), .string ((rd_T120 l0 x9_1).f0.f1), .string ((rd_T120 l0 x9_1).f0.f2), .bool ((rd_T120 l0 x9_1).f1), .string ((rd_T120 l0 x9_1).f2), .string (⟨#[]⟩ : ByteArray), .string (⟨#[]⟩ : ByteArray), .string (⟨#[]⟩ : ByteArray), .bool false]) ?_ 5 _ rfl; (with_reducible repeat (first | refine blk_drewN ?_ _ | refine blk_drew ?_ | refine blk_alloc ?_ _)); refine blk_put (cs := #[.string ((rd_T120 l0 x9_1).f0.f0), .string ((rd_T120 l0 x9_1).f0.f1), .string ((rd_T120 l0 x9_1).f0.f2), .bool ((rd_T120 l0 x9_1).f1), .string (⟨#[]⟩ : ByteArray), .string (⟨#[]⟩ : ByteArray), .string (⟨#[]⟩ : ByteArray), .string (⟨#[]⟩ : ByteArray), .bool false]) ?_ 4 _ rfl; (with_reducible repeat (first | refine blk_drewN ?_ _ | refine blk_drew ?_ | refine blk_alloc ?_ _)); refine blk_put (cs := #[.string ((rd_T120 l0 x9_1).f0.f0), .string ((rd_T120 l0 x9_1).f0.f1), .string ((rd_T120 l0 x9_1).f0.f2), .bool false, .string (⟨#[]⟩ : ByteArray), .string (⟨#[]⟩ : ByteArray), .string (⟨#[]⟩ : ByteArray), .string (⟨#[]⟩ : ByteArray), .bool false]) ?_ 3 _ rfl; (with_reducible repeat (first | refine blk_drewN ?_ _ | refine blk_drew ?_ | refine blk_alloc ?_ _)); refine blk_put (cs := #[.string ((rd_T120 l0 x9_1).f0.f0), .string ((rd_T120 l0 x9_1).f0.f1), .string (⟨#[]⟩ : ByteArray), .bool false, .string (⟨#[]⟩ : ByteArray), .string (⟨#[]⟩ : ByteArray), .string (⟨#[]⟩ : ByteArray), .string (⟨#[]⟩ : ByteArray), .bool false]) ?_ 2 _ rfl; (with_reducible repeat (first | refine blk_drewN ?_ _ | refine blk_drew ?_ | refine blk_alloc ?_ _)); refine blk_put (cs := #[.string ((rd_T120 l0 x9_1).f0.f0), .string (⟨#[]⟩ : ByteArray), .string (⟨#[]⟩ : ByteArray), .bool false, .string (⟨#[]⟩ : ByteArray), .string (⟨#[]⟩ : ByteArray), .string (⟨#[]⟩ : ByteArray), .string (⟨#[]⟩ : ByteArray), .bool false]) ?_ 1 _ rfl; (with_reducible repeat (first | refine blk_drewN ?_ _ | refine blk_drew ?_ | refine blk_alloc ?_ _)); refine blk_put (cs := #[.string (⟨#[]⟩ : ByteArray), .string (⟨#[]⟩ : ByteArray), .string (⟨#[]⟩ : ByteArray), .bool false, .string (⟨#[]⟩ : ByteArray), .string (⟨#[]⟩ : ByteArray), .string (⟨#[]⟩ : ByteArray), .string (⟨#[]⟩ : ByteArray), .bool false]) ?_ 0 _ rfl; (with_reducible repeat (first | refine blk_drewN ?_ _ | refine blk_drew ?_ | refine blk_alloc ?_ _)); exact BK102.out) hb); have n2_ := Aside0.mk (below_step (by repeat (first | (with_reducible first | exact HB.out | apply below_alloc | apply pw_below_drewN | apply below_drew1 | refine below_set ?_ GE102.out) | exact HB.out)) hb); clear HO_3; clear BK102; clear HB; have HO_3 := n0_; have BK102 := n1_; have HB := n2_; clear n0_ n1_ n2_; (try clear hb); (try clear hb2); (try clear hk); (try clear hi); have p104 : 0 ≤ ((ji12) : Int) := of_decide_eq_true (by first | (with_reducible assumption) | assumption); have q104 : (ji12) < (x3_1.length : Int) := of_decide_eq_true (by first | (with_reducible assumption) | assumption); obtain ⟨ad104, e104, hx104_0, hx104_1, hx104_2, hx104_3, hx104_4, hx104_5, hx104_6, hx104_7, hx104_8⟩ := at_T120 (Kd.R_reads' HO_3.out).2.2 (ji12) p104 q104; cases e104; replace p104 := eq_true p104; replace q104 := eq_true q104) | (go_at_call 114; (with_reducible refine (doc_Part_isText.calls ((rd_T120 x3_1 (ji12)).f0.f0) ((rd_T120 x3_1 (ji12)).f0.f1) ((rd_T120 x3_1 (ji12)).f0.f2) ((rd_T120 x3_1 (ji12)).f1) ((rd_T120 x3_1 (ji12)).f2) ((rd_T120 x3_1 (ji12)).f3) ((rd_T120 x3_1 (ji12)).f4) ((rd_T120 x3_1 (ji12)).f5) ((rd_T120 x3_1 (ji12)).f6) true _ A15.out).mono ?_); rintro e w23 ⟨rfl, hb⟩; have n0_ := Aside0.mk (Kd.R_below (by (with_reducible repeat (first | apply Kd.R_alloc | apply Kd.R_drewN | apply Kd.R_drew)); exact HO_3.out) hb); have n1_ := Aside0.mk (blk_below (g := gb102) (o := .cells #[.string ((rd_T120 l0 x9_1).f0.f0), .string ((rd_T120 l0 x9_1).f0.f1), .string ((rd_T120 l0 x9_1).f0.f2), .bool ((rd_T120 l0 x9_1).f1), .string ((rd_T120 l0 x9_1).f2), .string ((rd_T120 l0 x9_1).f3), .string ((rd_T120 l0 x9_1).f4), .string ((rd_T120 l0 x9_1).f5), .bool ((rd_T120 l0 x9_1).f6)] 120 (0, 0)) (by (with_reducible repeat (first | refine blk_drewN ?_ _ | refine blk_drew ?_ | refine blk_alloc ?_ _)); exact BK102.out) hb); have n2_ := Aside0.mk (below_step (by repeat (first | (with_reducible first | exact HB.out | apply below_alloc | apply pw_below_drewN | apply below_drew1 | refine below_set ?_ GE102.out) | exact HB.out)) hb); clear HO_3; clear BK102; clear HB; have HO_3 := n0_; have BK102 := n1_; have HB := n2_; clear n0_ n1_ n2_; (try clear hb); (try clear hb2); (try clear hk); (try clear hi)))
             have n0_ := Aside0.mk (Kd.R_drew HO_3.out)
             have n1_ := Aside0.mk (blk_drew BK102.out)
             have n2_ := Aside0.mk (below_drew1 HB.out)
             clear HO_3
             clear BK102
             clear HB
             have HO_3 := n0_
             have BK102 := n1_
             have HB := n2_
             clear n0_ n1_ n2_
             have p106 : 0 ≤ ((ji12) : Int) := of_decide_eq_true (by first | (with_reducible assumption) | assumption)
             have q106 : (ji12) < (x3_1.length : Int) := of_decide_eq_true (by first | (with_reducible assumption) | assumption)
             obtain ⟨ad106, e106, hx106_0, hx106_1, hx106_2, hx106_3, hx106_4, hx106_5, hx106_6, hx106_7, hx106_8⟩ := at_T120 (Kd.R_reads' HO_3.out).2.2 (ji12) p106 q106
             obtain rfl : ad104 = ad106 := (by injection e106)
             replace p106 := eq_true p106
             replace q106 := eq_true q106
             have p18 : 0 ≤ ((ji12) : Int) := of_decide_eq_true (by first | (with_reducible assumption) | assumption)
             have q18 : ((ji12) : Int) < ((x3_1.length : Int) : Int) := of_decide_eq_true (by first | (with_reducible assumption) | assumption)
             obtain ⟨go18, co18, eo18, gb18, gl18, cl18, HG18⟩ := Kd.R_form HO_3.out (by omega)
             (first | cases eo18 | (injection eo18 with ea_ en_ ec_; (first | subst ea_ | (injection ea_ with ea_; subst ea_)); subst ec_; clear en_))
             have GB18 := Aside0.mk gb18
             have GG18 := Aside0.mk HG18
             clear gb18 gl18 HG18
             (first | simp only [add_plain] at hx104_0 | skip)
             (first | simp only [add_plain] at hx104_1 | skip)
             (first | simp only [add_plain] at hx104_2 | skip)
             (first | simp only [add_plain] at hx104_3 | skip)
             (first | simp only [add_plain] at hx104_4 | skip)
             (first | simp only [add_plain] at hx104_5 | skip)
             (first | simp only [add_plain] at hx104_6 | skip)
             (first | simp only [add_plain] at hx104_7 | skip)
             (first | simp only [add_plain] at hx104_8 | skip)
             (first | simp only [add_plain] at hx106_0 | skip)
             (first | simp only [add_plain] at hx106_1 | skip)
             (first | simp only [add_plain] at hx106_2 | skip)
             (first | simp only [add_plain] at hx106_3 | skip)
             (first | simp only [add_plain] at hx106_4 | skip)
             (first | simp only [add_plain] at hx106_5 | skip)
             (first | simp only [add_plain] at hx106_6 | skip)
             (first | simp only [add_plain] at hx106_7 | skip)
             (first | simp only [add_plain] at hx106_8 | skip)
             obtain ⟨ce18, hcl18, hM18, hcc18, hfr18⟩ := Kd.R_elem HO_3.out z120 ((ji12) : Int) p18 q18
             obtain rfl := k120_openM hM18
             have hx18_0 : World.cell? _ ⟨go18, ((ji12) : Int).toNat * 9, none⟩ = some (.string ((rd_T120 x3_1 (ji12)).f0.f0)) := hcc18 0 _ rfl
             have hx18_1 : World.cell? _ ⟨go18, ((ji12) : Int).toNat * 9 + 1, none⟩ = some (.string ((rd_T120 x3_1 (ji12)).f0.f1)) := hcc18 1 _ rfl
             have hx18_2 : World.cell? _ ⟨go18, ((ji12) : Int).toNat * 9 + 2, none⟩ = some (.string ((rd_T120 x3_1 (ji12)).f0.f2)) := hcc18 2 _ rfl
             have hx18_3 : World.cell? _ ⟨go18, ((ji12) : Int).toNat * 9 + 3, none⟩ = some (.bool ((rd_T120 x3_1 (ji12)).f1)) := hcc18 3 _ rfl
             have hx18_4 : World.cell? _ ⟨go18, ((ji12) : Int).toNat * 9 + 4, none⟩ = some (.string ((rd_T120 x3_1 (ji12)).f2)) := hcc18 4 _ rfl
             have hx18_5 : World.cell? _ ⟨go18, ((ji12) : Int).toNat * 9 + 5, none⟩ = some (.string ((rd_T120 x3_1 (ji12)).f3)) := hcc18 5 _ rfl
             have hx18_6 : World.cell? _ ⟨go18, ((ji12) : Int).toNat * 9 + 6, none⟩ = some (.string ((rd_T120 x3_1 (ji12)).f4)) := hcc18 6 _ rfl
             have hx18_7 : World.cell? _ ⟨go18, ((ji12) : Int).toNat * 9 + 7, none⟩ = some (.string ((rd_T120 x3_1 (ji12)).f5)) := hcc18 7 _ rfl
             have hx18_8 : World.cell? _ ⟨go18, ((ji12) : Int).toNat * 9 + 8, none⟩ = some (.bool ((rd_T120 x3_1 (ji12)).f6)) := hcc18 8 _ rfl
             have hf18_0 : World.frozen? _ ⟨go18, ((ji12) : Int).toNat * 9, none⟩ = false := hfr18 0
             have hf18_1 : World.frozen? _ ⟨go18, ((ji12) : Int).toNat * 9 + 1, none⟩ = false := hfr18 1
             have hf18_2 : World.frozen? _ ⟨go18, ((ji12) : Int).toNat * 9 + 2, none⟩ = false := hfr18 2
             have hf18_3 : World.frozen? _ ⟨go18, ((ji12) : Int).toNat * 9 + 3, none⟩ = false := hfr18 3
             have hf18_4 : World.frozen? _ ⟨go18, ((ji12) : Int).toNat * 9 + 4, none⟩ = false := hfr18 4
             have hf18_5 : World.frozen? _ ⟨go18, ((ji12) : Int).toNat * 9 + 5, none⟩ = false := hfr18 5
             have hf18_6 : World.frozen? _ ⟨go18, ((ji12) : Int).toNat * 9 + 6, none⟩ = false := hfr18 6
             have hf18_7 : World.frozen? _ ⟨go18, ((ji12) : Int).toNat * 9 + 7, none⟩ = false := hfr18 7
             have hf18_8 : World.frozen? _ ⟨go18, ((ji12) : Int).toNat * 9 + 8, none⟩ = false := hfr18 8
             clear hcl18 hcc18 hfr18 hM18
             replace p18 := eq_true p18
             replace q18 := eq_true q18
             obtain ⟨ce25, hcl25, hM25, hcc25, hfr25⟩ := Kd.R_elem HO_3.out z120 ((ji12) : Int) (of_decide_eq_true (by first | (with_reducible assumption) | assumption)) (by have h_ : ((ji12) : Int) < ((x3_1.length : Int) : Int) := of_decide_eq_true (by first | (with_reducible assumption) | assumption); first | exact h_ | (have e_ := (Kd.R_reads' HO_3.out).1; omega) | simpa using h_)
             obtain rfl := k120_openM hM25
             have HP25 := (Kd.R_seg HO_3.out ((ji12) : Int) (of_decide_eq_true (by first | (with_reducible assumption) | assumption)) (by have h_ : ((ji12) : Int) < ((x3_1.length : Int) : Int) := of_decide_eq_true (by first | (with_reducible assumption) | assumption); first | exact h_ | (have e_ := (Kd.R_reads' HO_3.out).1; omega) | simpa using h_) (seg := [.string (((rd_T120 x3_1 (ji12)).f2) ++ ((rd_T120 l0 x9_1).f2))]) (j := 4) hcl25 hcc25 (show 5 ≤ 9 from by decide) (x' := (⟨(⟨(rd_T120 x3_1 (ji12)).f0.f0, (rd_T120 x3_1 (ji12)).f0.f1, (rd_T120 x3_1 (ji12)).f0.f2⟩ : S116), (rd_T120 x3_1 (ji12)).f1, ((rd_T120 x3_1 (ji12)).f2) ++ ((rd_T120 l0 x9_1).f2), (rd_T120 x3_1 (ji12)).f3, (rd_T120 x3_1 (ji12)).f4, (rd_T120 x3_1 (ji12)).f5, (rd_T120 x3_1 (ji12)).f6⟩ : S120)) (k120_mkM _ _ _ (⟨(⟨(rd_T120 x3_1 (ji12)).f0.f0, (rd_T120 x3_1 (ji12)).f0.f1, (rd_T120 x3_1 (ji12)).f0.f2⟩ : S116), (rd_T120 x3_1 (ji12)).f1, ((rd_T120 x3_1 (ji12)).f2) ++ ((rd_T120 l0 x9_1).f2), (rd_T120 x3_1 (ji12)).f3, (rd_T120 x3_1 (ji12)).f4, (rd_T120 x3_1 (ji12)).f5, (rd_T120 x3_1 (ji12)).f6⟩ : S120) ) (fun _ hk => hk)).1
             rw [← Ny107.out] at HP25
             have HQ25 := Aside0.mk HP25
             clear hcl25 hcc25 hfr25 hM25 HP25
             refine start_ (n := 12) (S := fun w' => w'.cell? ⟨gb102, 0, none⟩ = some (.string ((rd_T120 l0 x9_1).f0.f0)) ∧ w'.cell? ⟨gb102, 1, none⟩ = some (.string ((rd_T120 l0 x9_1).f0.f1)) ∧ w'.cell? ⟨gb102, 2, none⟩ = some (.string ((rd_T120 l0 x9_1).f0.f2)) ∧ w'.cell? ⟨gb102, 3, none⟩ = some (.bool ((rd_T120 l0 x9_1).f1)) ∧ w'.cell? ⟨gb102, 4, none⟩ = some (.string ((rd_T120 l0 x9_1).f2)) ∧ w'.cell? ⟨gb102, 5, none⟩ = some (.string ((rd_T120 l0 x9_1).f3)) ∧ w'.cell? ⟨gb102, 6, none⟩ = some (.string ((rd_T120 l0 x9_1).f4)) ∧ w'.cell? ⟨gb102, 7, none⟩ = some (.string ((rd_T120 l0 x9_1).f5)) ∧ w'.cell? ⟨gb102, 8, none⟩ = some (.bool ((rd_T120 l0 x9_1).f6)) ∧ w'.cell? ⟨go18, ((ji12) : Int).toNat * 9, none⟩ = some (.string ((rd_T120 x3_1 (ji12)).f0.f0)) ∧ w'.cell? ⟨go18, ((ji12) : Int).toNat * 9 + 1, none⟩ = some (.string ((rd_T120 x3_1 (ji12)).f0.f1)) ∧ w'.cell? ⟨go18, ((ji12) : Int).toNat * 9 + 2, none⟩ = some (.string ((rd_T120 x3_1 (ji12)).f0.f2)) ∧ w'.cell? ⟨go18, ((ji12) : Int).toNat * 9 + 3, none⟩ = some (.bool ((rd_T120 x3_1 (ji12)).f1)) ∧ w'.cell? ⟨go18, ((ji12) : Int).toNat * 9 + 4, none⟩ = some (.string ((rd_T120 x3_1 (ji12)).f2)) ∧ w'.cell? ⟨go18, ((ji12) : Int).toNat * 9 + 5, none⟩ = some (.string ((rd_T120 x3_1 (ji12)).f3)) ∧ w'.cell? ⟨go18, ((ji12) : Int).toNat * 9 + 6, none⟩ = some (.string ((rd_T120 x3_1 (ji12)).f4)) ∧ w'.cell? ⟨go18, ((ji12) : Int).toNat * 9 + 7, none⟩ = some (.string ((rd_T120 x3_1 (ji12)).f5)) ∧ w'.cell? ⟨go18, ((ji12) : Int).toNat * 9 + 8, none⟩ = some (.bool ((rd_T120 x3_1 (ji12)).f6))) (ds := [11]) #[false, false, false, false, false, false, false, false, false, false, false, false] (by kernel_rfl) rfl rfl ⟨(blk_cell BK102.out 0).trans rfl, (blk_cell BK102.out 1).trans rfl, (blk_cell BK102.out 2).trans rfl, (blk_cell BK102.out 3).trans rfl, (blk_cell BK102.out 4).trans rfl, (blk_cell BK102.out 5).trans rfl, (blk_cell BK102.out 6).trans rfl, (blk_cell BK102.out 7).trans rfl, (blk_cell BK102.out 8).trans rfl, hx18_0, hx18_1, hx18_2, hx18_3, hx18_4, hx18_5, hx18_6, hx18_7, hx18_8⟩ (fun hHeld => ?_); refine with_tabW doc_Of.tab9 doc_Of.bits9 (fun HT_ HW_ => ?_)
             generalize w23.drew = w24 at HO_3 BK102 HB GG18 HQ25 hf18_0 hf18_1 hf18_2 hf18_3 hf18_4 hf18_5 hf18_6 hf18_7 hf18_8 hx104_0 hx104_1 hx104_2 hx104_3 hx104_4 hx104_5 hx104_6 hx104_7 hx104_8 hx106_0 hx106_1 hx106_2 hx106_3 hx106_4 hx106_5 hx106_6 hx106_7 hx106_8 hx18_0 hx18_1 hx18_2 hx18_3 hx18_4 hx18_5 hx18_6 hx18_7 hx18_8 hHeld ⊢
             refine pure_ (i := 0) (N := some 38) (v := ?_) (a' := ?_) #[true, false, false, false, false, false, false, false, false, false, false, false] rfl rfl (any_of HT_.out (by kernel_rfl)) (fun _ _ _ h => h) (Or.inl ⟨by rfl, ?_⟩) ?_ ?_
             rotate_left
             ·intro w'
              go_simp
              with_reducible rfl
             rotate_left
             ·simp only [Act.put, List.setIfInBounds_toArray, List.set_cons_zero, List.set_cons_succ, i64_w, i32_w]
              rfl
             refine pure_ (i := 1) (N := some 39) (v := ?_) (a' := ?_) #[true, true, false, false, false, false, false, false, false, false, false, false] rfl rfl (any_of HT_.out (by kernel_rfl)) (fun _ _ _ h => h) (Or.inl ⟨by rfl, ?_⟩) ?_ ?_
             rotate_left
             ·intro w'
              go_simp
              with_reducible rfl
             rotate_left
             ·simp only [Act.put, List.setIfInBounds_toArray, List.set_cons_zero, List.set_cons_succ, i64_w, i32_w]
              rfl
             refine pure_ (i := 2) (N := some 40) (v := ?_) (a' := ?_) #[true, true, true, false, false, false, false, false, false, false, false, false] rfl rfl (any_of HT_.out (by kernel_rfl)) (fun _ _ _ h => h) (Or.inl ⟨by rfl, ?_⟩) ?_ ?_
             rotate_left
             ·intro w'
              go_simp
              with_reducible rfl
             rotate_left
             ·simp only [Act.put, List.setIfInBounds_toArray, List.set_cons_zero, List.set_cons_succ, i64_w, i32_w]
              rfl
             refine pure_ (i := 3) (N := some 41) (v := ?_) (a' := ?_) #[true, true, true, true, false, false, false, false, false, false, false, false] rfl rfl (any_of HT_.out (by kernel_rfl)) (fun _ _ _ h => h) (Or.inl ⟨by rfl, ?_⟩) ?_ ?_
             rotate_left
             ·intro w'
              go_simp
              with_reducible rfl
             rotate_left
             ·simp only [Act.put, List.setIfInBounds_toArray, List.set_cons_zero, List.set_cons_succ, i64_w, i32_w]
              rfl
             refine pure_ (i := 4) (N := some 42) (v := ?_) (a' := ?_) #[true, true, true, true, true, false, false, false, false, false, false, false] rfl rfl (any_of HT_.out (by kernel_rfl)) (fun _ _ _ h => h) (Or.inl ⟨by rfl, ?_⟩) ?_ ?_
             rotate_left
             ·intro w'
              go_simp
              with_reducible rfl
             rotate_left
             ·simp only [Act.put, List.setIfInBounds_toArray, List.set_cons_zero, List.set_cons_succ, i64_w, i32_w]
              rfl
             refine pure_ (i := 6) (N := some 44) (v := ?_) (a' := ?_) #[true, true, true, true, true, false, true, false, false, false, false, false] rfl rfl (any_of HT_.out (by kernel_rfl)) (fun _ _ _ h => h) (Or.inl ⟨by rfl, ?_⟩) ?_ ?_
             rotate_left
             ·intro w'
              go_simp
              with_reducible rfl
             rotate_left
             ·simp only [Act.put, List.setIfInBounds_toArray, List.set_cons_zero, List.set_cons_succ, i64_w, i32_w]
              rfl
             refine take_ (i := 5) (N := some 43) (v := ?_) (a' := ?_) #[true, true, true, true, true, true, true, false, false, false, false, false] rfl rfl (take_ofW HT_.out HW_.out (by kernel_rfl)) (fun _ _ _ h => h) (Or.inl ⟨by rfl, ?_⟩) hHeld ?_ ?_
             rotate_left
             ·rintro w' ⟨s0, s1, s2, s3, s4, s5, s6, s7, s8, s9, s10, s11, s12, s13, s14, s15, s16, s17⟩
              go_simp
              with_reducible rfl
             rotate_left
             ·simp only [Act.put, List.setIfInBounds_toArray, List.set_cons_zero, List.set_cons_succ, i64_w, i32_w]
              rfl
             refine take_ (i := 7) (N := some 45) (v := ?_) (a' := ?_) #[true, true, true, true, true, true, true, true, false, false, false, false] rfl rfl (take_ofW HT_.out HW_.out (by kernel_rfl)) (fun _ _ _ h => h) (Or.inl ⟨by rfl, ?_⟩) hHeld ?_ ?_
             rotate_left
             ·rintro w' ⟨s0, s1, s2, s3, s4, s5, s6, s7, s8, s9, s10, s11, s12, s13, s14, s15, s16, s17⟩
              go_simp
              with_reducible rfl
             rotate_left
             ·simp only [Act.put, List.setIfInBounds_toArray, List.set_cons_zero, List.set_cons_succ, i64_w, i32_w]
              rfl
             refine pure_ (i := 8) (N := some 46) (v := ?_) (a' := ?_) #[true, true, true, true, true, true, true, true, true, false, false, false] rfl rfl (any_of HT_.out (by kernel_rfl)) (fun _ _ _ h => h) (Or.inl ⟨by rfl, ?_⟩) ?_ ?_
             rotate_left
             ·intro w'
              go_simp
              with_reducible rfl
             rotate_left
             ·simp only [Act.put, List.setIfInBounds_toArray, List.set_cons_zero, List.set_cons_succ, i64_w, i32_w]
              rfl
             refine pure_ (i := 9) (N := some 47) (v := ?_) (a' := ?_) #[true, true, true, true, true, true, true, true, true, true, false, false] rfl rfl (any_of HT_.out (by kernel_rfl)) (fun _ _ _ h => h) (Or.inl ⟨by rfl, ?_⟩) ?_ ?_
             rotate_left
             ·intro w'
              go_simp
              with_reducible rfl
             rotate_left
             ·simp only [Act.put, List.setIfInBounds_toArray, List.set_cons_zero, List.set_cons_succ, i64_w, i32_w]
              rfl
             refine pure_ (i := 10) (N := some 48) (v := ?_) (a' := ?_) #[true, true, true, true, true, true, true, true, true, true, true, false] rfl rfl (any_of HT_.out (by kernel_rfl)) (fun _ _ _ h => h) (Or.inl ⟨by rfl, ?_⟩) ?_ ?_
             rotate_left
             ·intro w'
              go_simp
              with_reducible rfl
             rotate_left
             ·simp only [Act.put, List.setIfInBounds_toArray, List.set_cons_zero, List.set_cons_succ, i64_w, i32_w]
              rfl
             refine last_ (i := 11) (N := none) #[true, true, true, true, true, true, true, true, true, true, true, true] rfl rfl (one_of HT_.out (by kernel_rfl)) (by decide) (fun K hK => ?_)
             refine skip_ (w1 := ?_) (by rfl) rfl ?_ ?_
             rotate_left
             ·go_simp
              rfl
             refine hK.out _ _ ?_
             clear hK K
             refine done_ (done_of HT_.out (by kernel_rfl)) ?_
             try go_wp2
             go_roundg k1
             case measure => have := HK1.out; omega
             case rel => exact ⟨(y107), (wrap64 (x9_1 + 1)), (by first | rfl | (simp; done) | (simp [*]; done)), H', ⟨by have := HK1.out; omega⟩, ⟨by (with_reducible repeat (first | apply Kd.R_alloc | apply Kd.R_drewN | apply Kd.R_drew)); exact Kd.R_mono HQ25.out (fun _ hk => trivial)⟩, ⟨by repeat (first | (with_reducible first | exact HB.out | apply below_alloc | apply pw_below_drewN | apply below_drew1 | refine below_set ?_ GB18.out | refine below_set ?_ GE102.out) | exact HB.out)⟩⟩
            ·rw [if_neg c17] at H
             exact absurd H (by simp)
           ·replace c16 := Bool.eq_false_iff.mpr c16
            subst c16
            have H1 : (if x3_1.length < 1099511627776 then (doc_Of.l0 k1 (x3_1 ++ [(⟨(⟨(rd_T120 l0 x9_1).f0.f0, (rd_T120 l0 x9_1).f0.f1, (rd_T120 l0 x9_1).f0.f2⟩ : S116), (rd_T120 l0 x9_1).f1, (rd_T120 l0 x9_1).f2, (rd_T120 l0 x9_1).f3, (rd_T120 l0 x9_1).f4, (rd_T120 l0 x9_1).f5, (rd_T120 l0 x9_1).f6⟩ : S120)]) l0 (l0.length : Int) (wrap64 (x9_1 + 1))) else (none)) = some r := by rw [if_neg (show ¬ (false = true) by decide)] at H; exact H
            clear H
            have H := H1
            clear H1
            by_cases c26 : x3_1.length < 1099511627776
            ·rw [if_pos c26] at H
             have LMc26 := Aside0.mk c26
             clear c26
             obtain ⟨y108, hy108⟩ : ∃ y_ : List (S120), y_ = (x3_1 ++ [(⟨(⟨(rd_T120 l0 x9_1).f0.f0, (rd_T120 l0 x9_1).f0.f1, (rd_T120 l0 x9_1).f0.f2⟩ : S116), (rd_T120 l0 x9_1).f1, (rd_T120 l0 x9_1).f2, (rd_T120 l0 x9_1).f3, (rd_T120 l0 x9_1).f4, (rd_T120 l0 x9_1).f5, (rd_T120 l0 x9_1).f6⟩ : S120)]) := ⟨_, rfl⟩
             replace H : (doc_Of.l0 k1 y108 l0 (l0.length : Int) (wrap64 (x9_1 + 1))) = some r := by first | (rw [hy108]; with_reducible exact H) | (have H2_ := (Option.bind_some _ _).symm.trans H; rw [hy108]; with_reducible exact H2_) | (have H2_ := (Option.bind_some _ _).symm.trans H; with_reducible exact H2_) | with_reducible exact H | (rw [hy108]; exact H) | exact H
             have Ny108 := Aside0.mk hy108
             clear hy108
             have H' := Aside0.mk H
             clear H
             have p101 : 0 ≤ (x9_1 : Int) := of_decide_eq_true (by first | (with_reducible assumption) | assumption)
             have q101 : x9_1 < (l0.length : Int) := of_decide_eq_true (by first | (with_reducible assumption) | assumption)
             obtain ⟨ad101, e101, hx101_0, hx101_1, hx101_2, hx101_3, hx101_4, hx101_5, hx101_6, hx101_7, hx101_8⟩ := at_T120 HR0.out x9_1 p101 q101
             cases e101
             replace hx101_0 := (HB.out.cell (World.block_lt_of_cell? w _ hx101_0)).trans hx101_0
             replace hx101_1 := (HB.out.cell (World.block_lt_of_cell? w _ hx101_1)).trans hx101_1
             replace hx101_2 := (HB.out.cell (World.block_lt_of_cell? w _ hx101_2)).trans hx101_2
             replace hx101_3 := (HB.out.cell (World.block_lt_of_cell? w _ hx101_3)).trans hx101_3
             replace hx101_4 := (HB.out.cell (World.block_lt_of_cell? w _ hx101_4)).trans hx101_4
             replace hx101_5 := (HB.out.cell (World.block_lt_of_cell? w _ hx101_5)).trans hx101_5
             replace hx101_6 := (HB.out.cell (World.block_lt_of_cell? w _ hx101_6)).trans hx101_6
             replace hx101_7 := (HB.out.cell (World.block_lt_of_cell? w _ hx101_7)).trans hx101_7
             replace hx101_8 := (HB.out.cell (World.block_lt_of_cell? w _ hx101_8)).trans hx101_8
             replace p101 := eq_true p101
             replace q101 := eq_true q101
             go_wp2_with (first | ((with_reducible refine gate_dst (N := 5) rfl ?_); refine box_event ?hg (N := 5) ?hd (cs := #[.string (⟨#[]⟩ : ByteArray), .string (⟨#[]⟩ : ByteArray), .string (⟨#[]⟩ : ByteArray), .bool false, .string (⟨#[]⟩ : ByteArray), .string (⟨#[]⟩ : ByteArray), .string (⟨#[]⟩ : ByteArray), .string (⟨#[]⟩ : ByteArray), .bool false]) (t := 120) ?hr ?_; (case hd => rfl); (case hg => rfl); (case hr => first | (go_simp; done) | (go_simp; rfl)); intro gb102 hg w27 hbox hb; have n0_ := Aside0.mk (Kd.R_below (Kd.R_elderB (by (with_reducible repeat (first | apply Kd.R_alloc | apply Kd.R_drewN | apply Kd.R_drew)); exact HO_3.out) gb102 (Nat.le_of_eq hg.symm)) hb); have n1_ := Aside0.mk (below_step (by repeat (first | (with_reducible first | exact HB.out | apply below_alloc | apply pw_below_drewN | apply below_drew1) | exact HB.out)) hb); have n2_ := Aside0.mk (hbox); have n3_ := Aside0.mk ((by rw [hg]; exact (below_size (by repeat (first | (with_reducible first | exact HB.out | apply below_alloc | apply pw_below_drewN | apply below_drew1) | exact HB.out))) : w.heap.size ≤ gb102)); have n4_ := Aside0.mk ((by rw [hg]; exact (below_size (by repeat (first | (with_reducible first | exact HB.out | apply below_alloc | apply pw_below_drewN | apply below_drew1) | exact HB.out))) : w.heap.size ≤ gb102)); clear HO_3; clear HB; have HO_3 := n0_; have HB := n1_; have BK102 := n2_; have GW102 := n3_; have GE102 := n4_; clear n0_ n1_ n2_ n3_ n4_; clear hb hbox hg; have hcz28_0 : w27.cell? ⟨gb102, 0, none⟩ = some (.string (⟨#[]⟩ : ByteArray)) := (blk_cell BK102.out 0).trans rfl; have hcz28_1 : w27.cell? ⟨gb102, 1, none⟩ = some (.string (⟨#[]⟩ : ByteArray)) := (blk_cell BK102.out 1).trans rfl; have hcz28_2 : w27.cell? ⟨gb102, 2, none⟩ = some (.string (⟨#[]⟩ : ByteArray)) := (blk_cell BK102.out 2).trans rfl; have hcz28_3 : w27.cell? ⟨gb102, 3, none⟩ = some (.bool false) := (blk_cell BK102.out 3).trans rfl; have hcz28_4 : w27.cell? ⟨gb102, 4, none⟩ = some (.string (⟨#[]⟩ : ByteArray)) := (blk_cell BK102.out 4).trans rfl; have hcz28_5 : w27.cell? ⟨gb102, 5, none⟩ = some (.string (⟨#[]⟩ : ByteArray)) := (blk_cell BK102.out 5).trans rfl; have hcz28_6 : w27.cell? ⟨gb102, 6, none⟩ = some (.string (⟨#[]⟩ : ByteArray)) := (blk_cell BK102.out 6).trans rfl; have hcz28_7 : w27.cell? ⟨gb102, 7, none⟩ = some (.string (⟨#[]⟩ : ByteArray)) := (blk_cell BK102.out 7).trans rfl; have hcz28_8 : w27.cell? ⟨gb102, 8, none⟩ = some (.bool false) := (blk_cell BK102.out 8).trans rfl; have hfz28_0 := blk_frozen BK102.out 0; have hfz28_1 := blk_frozen BK102.out 1; have hfz28_2 := blk_frozen BK102.out 2; have hfz28_3 := blk_frozen BK102.out 3; have hfz28_4 := blk_frozen BK102.out 4; have hfz28_5 := blk_frozen BK102.out 5; have hfz28_6 := blk_frozen BK102.out 6; have hfz28_7 := blk_frozen BK102.out 7; have hfz28_8 := blk_frozen BK102.out 8; obtain ⟨Ao29, co29, eo29⟩ := Kd.R_slice HO_3.out; subst eo29) | ((with_reducible refine gate_callee (f := 114) rfl ?_); refine goesL_ (some 25) rfl rfl Try.func114 (by kernel_rfl) rfl #[.agg #[.string ((rd_T120 l0 x9_1).f0.f0), .string ((rd_T120 l0 x9_1).f0.f1), .string ((rd_T120 l0 x9_1).f0.f2), .bool ((rd_T120 l0 x9_1).f1), .string ((rd_T120 l0 x9_1).f2), .string ((rd_T120 l0 x9_1).f3), .string ((rd_T120 l0 x9_1).f4), .string ((rd_T120 l0 x9_1).f5), .bool ((rd_T120 l0 x9_1).f6)]] rfl (by (try simp only [List.map_toArray, List.map_cons, List.map_nil]); first | done | rfl | (simp only [List.length_drop, List.length_take]; rfl)) ?_; (with_reducible refine (doc_Part_isText.calls ((rd_T120 l0 x9_1).f0.f0) ((rd_T120 l0 x9_1).f0.f1) ((rd_T120 l0 x9_1).f0.f2) ((rd_T120 l0 x9_1).f1) ((rd_T120 l0 x9_1).f2) ((rd_T120 l0 x9_1).f3) ((rd_T120 l0 x9_1).f4) ((rd_T120 l0 x9_1).f5) ((rd_T120 l0 x9_1).f6) true _ A9.out).mono ?_); rintro e w30 ⟨rfl, hb⟩; refine ⟨_, rfl, ?_⟩; have n0_ := Aside0.mk (Kd.R_below (by (with_reducible repeat (first | apply Kd.R_alloc | apply Kd.R_drewN | apply Kd.R_drew)); exact (Kd.R_mono (Kd.R_far (p := ⟨gb102, 8, none⟩) (Kd.R_far (p := ⟨gb102, 7, none⟩) (Kd.R_far (p := ⟨gb102, 6, none⟩) (Kd.R_far (p := ⟨gb102, 5, none⟩) (Kd.R_far (p := ⟨gb102, 4, none⟩) (Kd.R_far (p := ⟨gb102, 3, none⟩) (Kd.R_far (p := ⟨gb102, 2, none⟩) (Kd.R_far (p := ⟨gb102, 1, none⟩) (Kd.R_far (p := ⟨gb102, 0, none⟩) (Kd.R_mono HO_3.out (fun k_ hk => (⟨hk, hk.2⟩ : _ ∧ k_ ≠ gb102))) (fun _ hk => hk.2) (.string ((rd_T120 l0 x9_1).f0.f0))) (fun _ hk => hk.2) (.string ((rd_T120 l0 x9_1).f0.f1))) (fun _ hk => hk.2) (.string ((rd_T120 l0 x9_1).f0.f2))) (fun _ hk => hk.2) (.bool ((rd_T120 l0 x9_1).f1))) (fun _ hk => hk.2) (.string ((rd_T120 l0 x9_1).f2))) (fun _ hk => hk.2) (.string ((rd_T120 l0 x9_1).f3))) (fun _ hk => hk.2) (.string ((rd_T120 l0 x9_1).f4))) (fun _ hk => hk.2) (.string ((rd_T120 l0 x9_1).f5))) (fun _ hk => hk.2) (.bool ((rd_T120 l0 x9_1).f6))) (fun _ h_ => h_.1))) hb); have n1_ := Aside0.mk (blk_below (g := gb102) (o := .cells #[.string ((rd_T120 l0 x9_1).f0.f0), .string ((rd_T120 l0 x9_1).f0.f1), .string ((rd_T120 l0 x9_1).f0.f2), .bool ((rd_T120 l0 x9_1).f1), .string ((rd_T120 l0 x9_1).f2), .string ((rd_T120 l0 x9_1).f3), .string ((rd_T120 l0 x9_1).f4), .string ((rd_T120 l0 x9_1).f5), .bool ((rd_T120 l0 x9_1).f6)] 120 (0, 0)) (by (with_reducible repeat (first | refine blk_drewN ?_ _ | refine blk_drew ?_ | refine blk_alloc ?_ _)); refine blk_put (cs := #[.string ((rd_T120 l0 x9_1).f0.f0), .string ((rd_T120 l0 x9_1).f0.f1), .string ((rd_T120 l0 x9_1).f0.f2), .bool ((rd_T120 l0 x9_1).f1), .string ((rd_T120 l0 x9_1).f2), .string ((rd_T120 l0 x9_1).f3), .string ((rd_T120 l0 x9_1).f4), .string ((rd_T120 l0 x9_1).f5), .bool false]) ?_ 8 _ rfl; (with_reducible repeat (first | refine blk_drewN ?_ _ | refine blk_drew ?_ | refine blk_alloc ?_ _)); refine blk_put (cs := #[.string ((rd_T120 l0 x9_1).f0.f0), .string ((rd_T120 l0 x9_1).f0.f1), .string ((rd_T120 l0 x9_1).f0.f2), .bool ((rd_T120 l0 x9_1).f1), .string ((rd_T120 l0 x9_1).f2), .string ((rd_T120 l0 x9_1).f3), .string ((rd_T120 l0 x9_1).f4), .string (⟨#[]⟩ : ByteArray), .bool false]) ?_ 7 _ rfl; (with_reducible repeat (first | refine blk_drewN ?_ _ | refine blk_drew ?_ | refine blk_alloc ?_ _)); refine blk_put (cs := #[.string ((rd_T120 l0 x9_1).f0.f0), .string ((rd_T120 l0 x9_1).f0.f1), .string ((rd_T120 l0 x9_1).f0.f2), .bool ((rd_T120 l0 x9_1).f1), .string ((rd_T120 l0 x9_1).f2), .string ((rd_T120 l0 x9_1).f3), .string (⟨#[]⟩ : ByteArray), .string (⟨#[]⟩ : ByteArray), .bool false]) ?_ 6 _ rfl; (with_reducible repeat (first | refine blk_drewN ?_ _ | refine blk_drew ?_ | refine blk_alloc ?_ _)); refine blk_put (cs := #[.string ((rd_T120 l0 x9_1).f0.f0), .string ((rd_T120 l0 x9_1).f0.f1), .string ((rd_T120 l0 x9_1).f0.f2), .bool ((rd_T120 l0 x9_1).f1), .string ((rd_T120 l0 x9_1).f2), .string (⟨#[]⟩ : ByteArray), .string (⟨#[]⟩ : ByteArray), .string (⟨#[]⟩ : ByteArray), .bool false]) ?_ 5 _ rfl; (with_reducible repeat (first | refine blk_drewN ?_ _ | refine blk_drew ?_ | refine blk_alloc ?_ _)); refine blk_put (cs := #[.string ((rd_T120 l0 x9_1).f0.f0), .string ((rd_T120 l0 x9_1).f0.f1), .string ((rd_T120 l0 x9_1).f0.f2), .bool ((rd_T120 l0 x9_1).f1), .string (⟨#[]⟩ : ByteArray), .string (⟨#[]⟩ : ByteArray), .string (⟨#[]⟩ : ByteArray), .string (⟨#[]⟩ : ByteArray), .bool false]) ?_ 4 _ rfl; (with_reducible repeat (first | refine blk_drewN ?_ _ | refine blk_drew ?_ | refine blk_alloc ?_ _)); refine blk_put (cs := #[.string ((rd_T120 l0 x9_1).f0.f0), .string ((rd_T120 l0 x9_1).f0.f1), .string ((rd_T120 l0 x9_1).f0.f2), .bool false, .string (⟨#[]⟩ : ByteArray), .string (⟨#[]⟩ : ByteArray), .string (⟨#[]⟩ : ByteArray), .string (⟨#[]⟩ : ByteArray), .bool false]) ?_ 3 _ rfl; (with_reducible repeat (first | refine blk_drewN ?_ _ | refine blk_drew ?_ | refine blk_alloc ?_ _)); refine blk_put (cs := #[.string ((rd_T120 l0 x9_1).f0.f0), .string ((rd_T120 l0 x9_1).f0.f1), .string (⟨#[]⟩ : ByteArray), .bool false, .string (⟨#[]⟩ : ByteArray), .string (⟨#[]⟩ : ByteArray), .string (⟨#[]⟩ : ByteArray), .string (⟨#[]⟩ : ByteArray), .bool false]) ?_ 2 _ rfl; (with_reducible repeat (first | refine blk_drewN ?_ _ | refine blk_drew ?_ | refine blk_alloc ?_ _)); refine blk_put (cs := #[.string ((rd_T120 l0 x9_1).f0.f0), .string (⟨#[]⟩ : ByteArray), .string (⟨#[]⟩ : ByteArray), .bool false, .string (⟨#[]⟩ : ByteArray), .string (⟨#[]⟩ : ByteArray), .string (⟨#[]⟩ : ByteArray), .string (⟨#[]⟩ : ByteArray), .bool false]) ?_ 1 _ rfl; (with_reducible repeat (first | refine blk_drewN ?_ _ | refine blk_drew ?_ | refine blk_alloc ?_ _)); refine blk_put (cs := #[.string (⟨#[]⟩ : ByteArray), .string (⟨#[]⟩ : ByteArray), .string (⟨#[]⟩ : ByteArray), .bool false, .string (⟨#[]⟩ : ByteArray), .string (⟨#[]⟩ : ByteArray), .string (⟨#[]⟩ : ByteArray), .string (⟨#[]⟩ : ByteArray), .bool false]) ?_ 0 _ rfl; (with_reducible repeat (first | refine blk_drewN ?_ _ | refine blk_drew ?_ | refine blk_alloc ?_ _)); exact BK102.out) hb); have n2_ := Aside0.mk (below_step (by repeat (first | (with_reducible first | exact HB.out | apply below_alloc | apply pw_below_drewN | apply below_drew1 | refine below_set ?_ GE102.out) | exact HB.out)) hb); clear HO_3; clear BK102; clear HB; have HO_3 := n0_; have BK102 := n1_; have HB := n2_; clear n0_ n1_ n2_; (try clear hb); (try clear hb2); (try clear hk); (try clear hi); have p104 : 0 ≤ ((ji12) : Int) := of_decide_eq_true (by first | (with_reducible assumption) | assumption); have q104 : (ji12) < (x3_1.length : Int) := of_decide_eq_true (by first | (with_reducible assumption) | assumption); obtain ⟨ad104, e104, hx104_0, hx104_1, hx104_2, hx104_3, hx104_4, hx104_5, hx104_6, hx104_7, hx104_8⟩ := at_T120 (Kd.R_reads' HO_3.out).2.2 (ji12) p104 q104; cases e104; replace p104 := eq_true p104; replace q104 := eq_true q104) | (go_at_call 114; (with_reducible refine (doc_Part_isText.calls ((rd_T120 x3_1 (ji12)).f0.f0) ((rd_T120 x3_1 (ji12)).f0.f1) ((rd_T120 x3_1 (ji12)).f0.f2) ((rd_T120 x3_1 (ji12)).f1) ((rd_T120 x3_1 (ji12)).f2) ((rd_T120 x3_1 (ji12)).f3) ((rd_T120 x3_1 (ji12)).f4) ((rd_T120 x3_1 (ji12)).f5) ((rd_T120 x3_1 (ji12)).f6) false _ A15.out).mono ?_); rintro e w31 ⟨rfl, hb⟩; have n0_ := Aside0.mk (Kd.R_below (by (with_reducible repeat (first | apply Kd.R_alloc | apply Kd.R_drewN | apply Kd.R_drew)); exact HO_3.out) hb); have n1_ := Aside0.mk (blk_below (g := gb102) (o := .cells #[.string ((rd_T120 l0 x9_1).f0.f0), .string ((rd_T120 l0 x9_1).f0.f1), .string ((rd_T120 l0 x9_1).f0.f2), .bool ((rd_T120 l0 x9_1).f1), .string ((rd_T120 l0 x9_1).f2), .string ((rd_T120 l0 x9_1).f3), .string ((rd_T120 l0 x9_1).f4), .string ((rd_T120 l0 x9_1).f5), .bool ((rd_T120 l0 x9_1).f6)] 120 (0, 0)) (by (with_reducible repeat (first | refine blk_drewN ?_ _ | refine blk_drew ?_ | refine blk_alloc ?_ _)); exact BK102.out) hb); have n2_ := Aside0.mk (below_step (by repeat (first | (with_reducible first | exact HB.out | apply below_alloc | apply pw_below_drewN | apply below_drew1 | refine below_set ?_ GE102.out) | exact HB.out)) hb); clear HO_3; clear BK102; clear HB; have HO_3 := n0_; have BK102 := n1_; have HB := n2_; clear n0_ n1_ n2_; (try clear hb); (try clear hb2); (try clear hk); (try clear hi); have hcz32_0 : w31.cell? ⟨gb102, 0, none⟩ = some (.string ((rd_T120 l0 x9_1).f0.f0)) := (blk_cell BK102.out 0).trans rfl; have hcz32_1 : w31.cell? ⟨gb102, 1, none⟩ = some (.string ((rd_T120 l0 x9_1).f0.f1)) := (blk_cell BK102.out 1).trans rfl; have hcz32_2 : w31.cell? ⟨gb102, 2, none⟩ = some (.string ((rd_T120 l0 x9_1).f0.f2)) := (blk_cell BK102.out 2).trans rfl; have hcz32_3 : w31.cell? ⟨gb102, 3, none⟩ = some (.bool ((rd_T120 l0 x9_1).f1)) := (blk_cell BK102.out 3).trans rfl; have hcz32_4 : w31.cell? ⟨gb102, 4, none⟩ = some (.string ((rd_T120 l0 x9_1).f2)) := (blk_cell BK102.out 4).trans rfl; have hcz32_5 : w31.cell? ⟨gb102, 5, none⟩ = some (.string ((rd_T120 l0 x9_1).f3)) := (blk_cell BK102.out 5).trans rfl; have hcz32_6 : w31.cell? ⟨gb102, 6, none⟩ = some (.string ((rd_T120 l0 x9_1).f4)) := (blk_cell BK102.out 6).trans rfl; have hcz32_7 : w31.cell? ⟨gb102, 7, none⟩ = some (.string ((rd_T120 l0 x9_1).f5)) := (blk_cell BK102.out 7).trans rfl; have hcz32_8 : w31.cell? ⟨gb102, 8, none⟩ = some (.bool ((rd_T120 l0 x9_1).f6)) := (blk_cell BK102.out 8).trans rfl; have hfz32_0 := blk_frozen BK102.out 0; have hfz32_1 := blk_frozen BK102.out 1; have hfz32_2 := blk_frozen BK102.out 2; have hfz32_3 := blk_frozen BK102.out 3; have hfz32_4 := blk_frozen BK102.out 4; have hfz32_5 := blk_frozen BK102.out 5; have hfz32_6 := blk_frozen BK102.out 6; have hfz32_7 := blk_frozen BK102.out 7; have hfz32_8 := blk_frozen BK102.out 8) | ((with_reducible refine gate_builtin (b := .append) (xs := #[.tmp 15, .tmp 17]) rfl ?_); at_builtin; refine Kd.R_append k120 (w0 := w) w.heap.size rfl (.tmp 15) (.tmp 17) 89 120 (.agg #[(.string ⟨#[]⟩), (.string ⟨#[]⟩), (.string ⟨#[]⟩), (.bool false), (.string ⟨#[]⟩), (.string ⟨#[]⟩), (.string ⟨#[]⟩), (.string ⟨#[]⟩), (.bool false)]) 128 rfl Try.underlying89 info120 rfl (by decide) (by omega) (.slice (some ad104) x3_1.length co29) x3_1 (⟨(⟨(rd_T120 l0 x9_1).f0.f0, (rd_T120 l0 x9_1).f0.f1, (rd_T120 l0 x9_1).f0.f2⟩ : S116), (rd_T120 l0 x9_1).f1, (rd_T120 l0 x9_1).f2, (rd_T120 l0 x9_1).f3, (rd_T120 l0 x9_1).f4, (rd_T120 l0 x9_1).f5, (rd_T120 l0 x9_1).f6⟩ : S120) [.string ((rd_T120 l0 x9_1).f0.f0), .string ((rd_T120 l0 x9_1).f0.f1), .string ((rd_T120 l0 x9_1).f0.f2), .bool ((rd_T120 l0 x9_1).f1), .string ((rd_T120 l0 x9_1).f2), .string ((rd_T120 l0 x9_1).f3), .string ((rd_T120 l0 x9_1).f4), .string ((rd_T120 l0 x9_1).f5), .bool ((rd_T120 l0 x9_1).f6)] (fun k_ => k_ ≠ gb102) (fun _ => False) rfl rfl ?aP (fun _ hk => hk.elim) ?aF ?aO ?aB ?aS ?aL ?_; (case aP => exact k120_mkM _ _ _ (⟨(⟨(rd_T120 l0 x9_1).f0.f0, (rd_T120 l0 x9_1).f0.f1, (rd_T120 l0 x9_1).f0.f2⟩ : S116), (rd_T120 l0 x9_1).f1, (rd_T120 l0 x9_1).f2, (rd_T120 l0 x9_1).f3, (rd_T120 l0 x9_1).f4, (rd_T120 l0 x9_1).f5, (rd_T120 l0 x9_1).f6⟩ : S120)); (case aB => exact (by repeat (first | (with_reducible first | exact HB.out | apply below_alloc | apply pw_below_drewN | apply below_drew1 | refine below_set ?_ GE102.out) | exact HB.out))); (case aF => exact (fun k_ hk => Kd.freshB (g := gb102) (o := .cells #[.string ((rd_T120 l0 x9_1).f0.f0), .string ((rd_T120 l0 x9_1).f0.f1), .string ((rd_T120 l0 x9_1).f0.f2), .bool ((rd_T120 l0 x9_1).f1), .string ((rd_T120 l0 x9_1).f2), .string ((rd_T120 l0 x9_1).f3), .string ((rd_T120 l0 x9_1).f4), .string ((rd_T120 l0 x9_1).f5), .bool ((rd_T120 l0 x9_1).f6)] 120 (0, 0)) (by (with_reducible repeat (first | refine blk_drewN ?_ _ | refine blk_drew ?_ | refine blk_alloc ?_ _)); exact BK102.out) k_ hk)); (case aO => exact (by (with_reducible repeat (first | apply Kd.R_alloc | apply Kd.R_drewN | apply Kd.R_drew)); exact Kd.R_mono HO_3.out (fun _ hk => hk.2))); (case aS => exact (below_size (by repeat (first | (with_reducible first | exact HB.out | apply below_alloc | apply pw_below_drewN | apply below_drew1 | refine below_set ?_ GE102.out) | exact HB.out)))); (case aL => have := LMc26.out; omega); intro v109 w33 ho hb hg hat; rw [← Ny108.out] at ho; have n0_ := Aside0.mk (blk_grown (g := gb102) (o := .cells #[.string ((rd_T120 l0 x9_1).f0.f0), .string ((rd_T120 l0 x9_1).f0.f1), .string ((rd_T120 l0 x9_1).f0.f2), .bool ((rd_T120 l0 x9_1).f1), .string ((rd_T120 l0 x9_1).f2), .string ((rd_T120 l0 x9_1).f3), .string ((rd_T120 l0 x9_1).f4), .string ((rd_T120 l0 x9_1).f5), .bool ((rd_T120 l0 x9_1).f6)] 120 (0, 0)) (by (with_reducible repeat (first | refine blk_drewN ?_ _ | refine blk_drew ?_ | refine blk_alloc ?_ _)); exact BK102.out) hg (Kd.R_away HO_3.out (fun _ hk => hk.2))); have n1_ := Aside0.mk (hb); have n2_ := Aside0.mk (ho); clear BK102; clear HB; clear HO_3; have BK102 := n0_; have HB := n1_; have HO110 := n2_; clear n0_ n1_ n2_; clear ho hb hg hat))
             go_roundg k1
             case measure => have := HK1.out; omega
             case rel => exact ⟨(y108), (wrap64 (x9_1 + 1)), (by first | rfl | (simp; done) | (simp [*]; done)), H', ⟨by have := HK1.out; omega⟩, ⟨by (with_reducible repeat (first | apply Kd.R_alloc | apply Kd.R_drewN | apply Kd.R_drew)); exact Kd.R_mono HO110.out (fun _ hk => trivial)⟩, ⟨by repeat (first | (with_reducible first | exact HB.out | apply below_alloc | apply pw_below_drewN | apply below_drew1 | refine below_set ?_ GE102.out) | exact HB.out)⟩⟩
            ·rw [if_neg c26] at H
             exact absurd H (by simp)
          ·rw [if_neg c14] at H
           exact absurd H (by simp)
         ·rw [if_neg c13] at H
          exact absurd H (by simp)
        ·rw [if_neg c11] at H
         have c11b0 : decide (0 < (x3_1.length : Int)) = false := decide_eq_false c11
         have c11b1 : decide (0 < x3_1.length) = false := decide_eq_false (by omega)
         clear c11
         by_cases c34 : x3_1.length < 1099511627776
         ·rw [if_pos c34] at H
          have LMc34 := Aside0.mk c34
          clear c34
          obtain ⟨y111, hy111⟩ : ∃ y_ : List (S120), y_ = (x3_1 ++ [(⟨(⟨(rd_T120 l0 x9_1).f0.f0, (rd_T120 l0 x9_1).f0.f1, (rd_T120 l0 x9_1).f0.f2⟩ : S116), (rd_T120 l0 x9_1).f1, (rd_T120 l0 x9_1).f2, (rd_T120 l0 x9_1).f3, (rd_T120 l0 x9_1).f4, (rd_T120 l0 x9_1).f5, (rd_T120 l0 x9_1).f6⟩ : S120)]) := ⟨_, rfl⟩
          replace H : (doc_Of.l0 k1 y111 l0 (l0.length : Int) (wrap64 (x9_1 + 1))) = some r := by first | (rw [hy111]; with_reducible exact H) | (have H2_ := (Option.bind_some _ _).symm.trans H; rw [hy111]; with_reducible exact H2_) | (have H2_ := (Option.bind_some _ _).symm.trans H; with_reducible exact H2_) | with_reducible exact H | (rw [hy111]; exact H) | exact H
          have Ny111 := Aside0.mk hy111
          clear hy111
          have H' := Aside0.mk H
          clear H
          have p101 : 0 ≤ (x9_1 : Int) := of_decide_eq_true (by first | (with_reducible assumption) | assumption)
          have q101 : x9_1 < (l0.length : Int) := of_decide_eq_true (by first | (with_reducible assumption) | assumption)
          obtain ⟨ad101, e101, hx101_0, hx101_1, hx101_2, hx101_3, hx101_4, hx101_5, hx101_6, hx101_7, hx101_8⟩ := at_T120 HR0.out x9_1 p101 q101
          cases e101
          replace hx101_0 := (HB.out.cell (World.block_lt_of_cell? w _ hx101_0)).trans hx101_0
          replace hx101_1 := (HB.out.cell (World.block_lt_of_cell? w _ hx101_1)).trans hx101_1
          replace hx101_2 := (HB.out.cell (World.block_lt_of_cell? w _ hx101_2)).trans hx101_2
          replace hx101_3 := (HB.out.cell (World.block_lt_of_cell? w _ hx101_3)).trans hx101_3
          replace hx101_4 := (HB.out.cell (World.block_lt_of_cell? w _ hx101_4)).trans hx101_4
          replace hx101_5 := (HB.out.cell (World.block_lt_of_cell? w _ hx101_5)).trans hx101_5
          replace hx101_6 := (HB.out.cell (World.block_lt_of_cell? w _ hx101_6)).trans hx101_6
          replace hx101_7 := (HB.out.cell (World.block_lt_of_cell? w _ hx101_7)).trans hx101_7
          replace hx101_8 := (HB.out.cell (World.block_lt_of_cell? w _ hx101_8)).trans hx101_8
          replace p101 := eq_true p101
          replace q101 := eq_true q101
          go_wp2_with (first | ((with_reducible refine gate_dst (N := 5) rfl ?_); refine box_event ?hg (N := 5) ?hd (cs := #[.string (⟨#[]⟩ : ByteArray), .string (⟨#[]⟩ : ByteArray), .string (⟨#[]⟩ : ByteArray), .bool false, .string (⟨#[]⟩ : ByteArray), .string (⟨#[]⟩ : ByteArray), .string (⟨#[]⟩ : ByteArray), .string (⟨#[]⟩ : ByteArray), .bool false]) (t := 120) ?hr ?_; (case hd => rfl); (case hg => rfl); (case hr => first | (go_simp; done) | (go_simp; rfl)); intro gb102 hg w35 hbox hb; have n0_ := Aside0.mk (Kd.R_below (Kd.R_elderB (by (with_reducible repeat (first | apply Kd.R_alloc | apply Kd.R_drewN | apply Kd.R_drew)); exact HO_3.out) gb102 (Nat.le_of_eq hg.symm)) hb); have n1_ := Aside0.mk (below_step (by repeat (first | (with_reducible first | exact HB.out | apply below_alloc | apply pw_below_drewN | apply below_drew1) | exact HB.out)) hb); have n2_ := Aside0.mk (hbox); have n3_ := Aside0.mk ((by rw [hg]; exact (below_size (by repeat (first | (with_reducible first | exact HB.out | apply below_alloc | apply pw_below_drewN | apply below_drew1) | exact HB.out))) : w.heap.size ≤ gb102)); have n4_ := Aside0.mk ((by rw [hg]; exact (below_size (by repeat (first | (with_reducible first | exact HB.out | apply below_alloc | apply pw_below_drewN | apply below_drew1) | exact HB.out))) : w.heap.size ≤ gb102)); clear HO_3; clear HB; have HO_3 := n0_; have HB := n1_; have BK102 := n2_; have GW102 := n3_; have GE102 := n4_; clear n0_ n1_ n2_ n3_ n4_; clear hb hbox hg; have hcz36_0 : w35.cell? ⟨gb102, 0, none⟩ = some (.string (⟨#[]⟩ : ByteArray)) := (blk_cell BK102.out 0).trans rfl; have hcz36_1 : w35.cell? ⟨gb102, 1, none⟩ = some (.string (⟨#[]⟩ : ByteArray)) := (blk_cell BK102.out 1).trans rfl; have hcz36_2 : w35.cell? ⟨gb102, 2, none⟩ = some (.string (⟨#[]⟩ : ByteArray)) := (blk_cell BK102.out 2).trans rfl; have hcz36_3 : w35.cell? ⟨gb102, 3, none⟩ = some (.bool false) := (blk_cell BK102.out 3).trans rfl; have hcz36_4 : w35.cell? ⟨gb102, 4, none⟩ = some (.string (⟨#[]⟩ : ByteArray)) := (blk_cell BK102.out 4).trans rfl; have hcz36_5 : w35.cell? ⟨gb102, 5, none⟩ = some (.string (⟨#[]⟩ : ByteArray)) := (blk_cell BK102.out 5).trans rfl; have hcz36_6 : w35.cell? ⟨gb102, 6, none⟩ = some (.string (⟨#[]⟩ : ByteArray)) := (blk_cell BK102.out 6).trans rfl; have hcz36_7 : w35.cell? ⟨gb102, 7, none⟩ = some (.string (⟨#[]⟩ : ByteArray)) := (blk_cell BK102.out 7).trans rfl; have hcz36_8 : w35.cell? ⟨gb102, 8, none⟩ = some (.bool false) := (blk_cell BK102.out 8).trans rfl; have hfz36_0 := blk_frozen BK102.out 0; have hfz36_1 := blk_frozen BK102.out 1; have hfz36_2 := blk_frozen BK102.out 2; have hfz36_3 := blk_frozen BK102.out 3; have hfz36_4 := blk_frozen BK102.out 4; have hfz36_5 := blk_frozen BK102.out 5; have hfz36_6 := blk_frozen BK102.out 6; have hfz36_7 := blk_frozen BK102.out 7; have hfz36_8 := blk_frozen BK102.out 8; obtain ⟨Ao37, co37, eo37⟩ := Kd.R_slice HO_3.out; subst eo37) | ((with_reducible refine gate_callee (f := 114) rfl ?_); refine goesL_ (some 25) rfl rfl Try.func114 (by kernel_rfl) rfl #[.agg #[.string ((rd_T120 l0 x9_1).f0.f0), .string ((rd_T120 l0 x9_1).f0.f1), .string ((rd_T120 l0 x9_1).f0.f2), .bool ((rd_T120 l0 x9_1).f1), .string ((rd_T120 l0 x9_1).f2), .string ((rd_T120 l0 x9_1).f3), .string ((rd_T120 l0 x9_1).f4), .string ((rd_T120 l0 x9_1).f5), .bool ((rd_T120 l0 x9_1).f6)]] rfl (by (try simp only [List.map_toArray, List.map_cons, List.map_nil]); first | done | rfl | (simp only [List.length_drop, List.length_take]; rfl)) ?_; (with_reducible refine (doc_Part_isText.calls ((rd_T120 l0 x9_1).f0.f0) ((rd_T120 l0 x9_1).f0.f1) ((rd_T120 l0 x9_1).f0.f2) ((rd_T120 l0 x9_1).f1) ((rd_T120 l0 x9_1).f2) ((rd_T120 l0 x9_1).f3) ((rd_T120 l0 x9_1).f4) ((rd_T120 l0 x9_1).f5) ((rd_T120 l0 x9_1).f6) true _ A9.out).mono ?_); rintro e w38 ⟨rfl, hb⟩; refine ⟨_, rfl, ?_⟩; have n0_ := Aside0.mk (Kd.R_below (by (with_reducible repeat (first | apply Kd.R_alloc | apply Kd.R_drewN | apply Kd.R_drew)); exact (Kd.R_mono (Kd.R_far (p := ⟨gb102, 8, none⟩) (Kd.R_far (p := ⟨gb102, 7, none⟩) (Kd.R_far (p := ⟨gb102, 6, none⟩) (Kd.R_far (p := ⟨gb102, 5, none⟩) (Kd.R_far (p := ⟨gb102, 4, none⟩) (Kd.R_far (p := ⟨gb102, 3, none⟩) (Kd.R_far (p := ⟨gb102, 2, none⟩) (Kd.R_far (p := ⟨gb102, 1, none⟩) (Kd.R_far (p := ⟨gb102, 0, none⟩) (Kd.R_mono HO_3.out (fun k_ hk => (⟨hk, hk.2⟩ : _ ∧ k_ ≠ gb102))) (fun _ hk => hk.2) (.string ((rd_T120 l0 x9_1).f0.f0))) (fun _ hk => hk.2) (.string ((rd_T120 l0 x9_1).f0.f1))) (fun _ hk => hk.2) (.string ((rd_T120 l0 x9_1).f0.f2))) (fun _ hk => hk.2) (.bool ((rd_T120 l0 x9_1).f1))) (fun _ hk => hk.2) (.string ((rd_T120 l0 x9_1).f2))) (fun _ hk => hk.2) (.string ((rd_T120 l0 x9_1).f3))) (fun _ hk => hk.2) (.string ((rd_T120 l0 x9_1).f4))) (fun _ hk => hk.2) (.string ((rd_T120 l0 x9_1).f5))) (fun _ hk => hk.2) (.bool ((rd_T120 l0 x9_1).f6))) (fun _ h_ => h_.1))) hb); have n1_ := Aside0.mk (blk_below (g := gb102) (o := .cells #[.string ((rd_T120 l0 x9_1).f0.f0), .string ((rd_T120 l0 x9_1).f0.f1), .string ((rd_T120 l0 x9_1).f0.f2), .bool ((rd_T120 l0 x9_1).f1), .string ((rd_T120 l0 x9_1).f2), .string ((rd_T120 l0 x9_1).f3), .string ((rd_T120 l0 x9_1).f4), .string ((rd_T120 l0 x9_1).f5), .bool ((rd_T120 l0 x9_1).f6)] 120 (0, 0)) (by (with_reducible repeat (first | refine blk_drewN ?_ _ | refine blk_drew ?_ | refine blk_alloc ?_ _)); refine blk_put (cs := #[.string ((rd_T120 l0 x9_1).f0.f0), .string ((rd_T120 l0 x9_1).f0.f1), .string ((rd_T120 l0 x9_1).f0.f2), .bool ((rd_T120 l0 x9_1).f1), .string ((rd_T120 l0 x9_1).f2), .string ((rd_T120 l0 x9_1).f3), .string ((rd_T120 l0 x9_1).f4), .string ((rd_T120 l0 x9_1).f5), .bool false]) ?_ 8 _ rfl; (with_reducible repeat (first | refine blk_drewN ?_ _ | refine blk_drew ?_ | refine blk_alloc ?_ _)); refine blk_put (cs := #[.string ((rd_T120 l0 x9_1).f0.f0), .string ((rd_T120 l0 x9_1).f0.f1), .string ((rd_T120 l0 x9_1).f0.f2), .bool ((rd_T120 l0 x9_1).f1), .string ((rd_T120 l0 x9_1).f2), .string ((rd_T120 l0 x9_1).f3), .string ((rd_T120 l0 x9_1).f4), .string (⟨#[]⟩ : ByteArray), .bool false]) ?_ 7 _ rfl; (with_reducible repeat (first | refine blk_drewN ?_ _ | refine blk_drew ?_ | refine blk_alloc ?_ _)); refine blk_put (cs := #[.string ((rd_T120 l0 x9_1).f0.f0), .string ((rd_T120 l0 x9_1).f0.f1), .string ((rd_T120 l0 x9_1).f0.f2), .bool ((rd_T120 l0 x9_1).f1), .string ((rd_T120 l0 x9_1).f2), .string ((rd_T120 l0 x9_1).f3), .string (⟨#[]⟩ : ByteArray), .string (⟨#[]⟩ : ByteArray), .bool false]) ?_ 6 _ rfl; (with_reducible repeat (first | refine blk_drewN ?_ _ | refine blk_drew ?_ | refine blk_alloc ?_ _)); refine blk_put (cs := #[.string ((rd_T120 l0 x9_1).f0.f0), .string ((rd_T120 l0 x9_1).f0.f1), .string ((rd_T120 l0 x9_1).f0.f2), .bool ((rd_T120 l0 x9_1).f1), .string ((rd_T120 l0 x9_1).f2), .string (⟨#[]⟩ : ByteArray), .string (⟨#[]⟩ : ByteArray), .string (⟨#[]⟩ : ByteArray), .bool false]) ?_ 5 _ rfl; (with_reducible repeat (first | refine blk_drewN ?_ _ | refine blk_drew ?_ | refine blk_alloc ?_ _)); refine blk_put (cs := #[.string ((rd_T120 l0 x9_1).f0.f0), .string ((rd_T120 l0 x9_1).f0.f1), .string ((rd_T120 l0 x9_1).f0.f2), .bool ((rd_T120 l0 x9_1).f1), .string (⟨#[]⟩ : ByteArray), .string (⟨#[]⟩ : ByteArray), .string (⟨#[]⟩ : ByteArray), .string (⟨#[]⟩ : ByteArray), .bool false]) ?_ 4 _ rfl; (with_reducible repeat (first | refine blk_drewN ?_ _ | refine blk_drew ?_ | refine blk_alloc ?_ _)); refine blk_put (cs := #[.string ((rd_T120 l0 x9_1).f0.f0), .string ((rd_T120 l0 x9_1).f0.f1), .string ((rd_T120 l0 x9_1).f0.f2), .bool false, .string (⟨#[]⟩ : ByteArray), .string (⟨#[]⟩ : ByteArray), .string (⟨#[]⟩ : ByteArray), .string (⟨#[]⟩ : ByteArray), .bool false]) ?_ 3 _ rfl; (with_reducible repeat (first | refine blk_drewN ?_ _ | refine blk_drew ?_ | refine blk_alloc ?_ _)); refine blk_put (cs := #[.string ((rd_T120 l0 x9_1).f0.f0), .string ((rd_T120 l0 x9_1).f0.f1), .string (⟨#[]⟩ : ByteArray), .bool false, .string (⟨#[]⟩ : ByteArray), .string (⟨#[]⟩ : ByteArray), .string (⟨#[]⟩ : ByteArray), .string (⟨#[]⟩ : ByteArray), .bool false]) ?_ 2 _ rfl; (with_reducible repeat (first | refine blk_drewN ?_ _ | refine blk_drew ?_ | refine blk_alloc ?_ _)); refine blk_put (cs := #[.string ((rd_T120 l0 x9_1).f0.f0), .string (⟨#[]⟩ : ByteArray), .string (⟨#[]⟩ : ByteArray), .bool false, .string (⟨#[]⟩ : ByteArray), .string (⟨#[]⟩ : ByteArray), .string (⟨#[]⟩ : ByteArray), .string (⟨#[]⟩ : ByteArray), .bool false]) ?_ 1 _ rfl; (with_reducible repeat (first | refine blk_drewN ?_ _ | refine blk_drew ?_ | refine blk_alloc ?_ _)); refine blk_put (cs := #[.string (⟨#[]⟩ : ByteArray), .string (⟨#[]⟩ : ByteArray), .string (⟨#[]⟩ : ByteArray), .bool false, .string (⟨#[]⟩ : ByteArray), .string (⟨#[]⟩ : ByteArray), .string (⟨#[]⟩ : ByteArray), .string (⟨#[]⟩ : ByteArray), .bool false]) ?_ 0 _ rfl; (with_reducible repeat (first | refine blk_drewN ?_ _ | refine blk_drew ?_ | refine blk_alloc ?_ _)); exact BK102.out) hb); have n2_ := Aside0.mk (below_step (by repeat (first | (with_reducible first | exact HB.out | apply below_alloc | apply pw_below_drewN | apply below_drew1 | refine below_set ?_ GE102.out) | exact HB.out)) hb); clear HO_3; clear BK102; clear HB; have HO_3 := n0_; have BK102 := n1_; have HB := n2_; clear n0_ n1_ n2_; (try clear hb); (try clear hb2); (try clear hk); (try clear hi); have hcz39_0 : w38.cell? ⟨gb102, 0, none⟩ = some (.string ((rd_T120 l0 x9_1).f0.f0)) := (blk_cell BK102.out 0).trans rfl; have hcz39_1 : w38.cell? ⟨gb102, 1, none⟩ = some (.string ((rd_T120 l0 x9_1).f0.f1)) := (blk_cell BK102.out 1).trans rfl; have hcz39_2 : w38.cell? ⟨gb102, 2, none⟩ = some (.string ((rd_T120 l0 x9_1).f0.f2)) := (blk_cell BK102.out 2).trans rfl; have hcz39_3 : w38.cell? ⟨gb102, 3, none⟩ = some (.bool ((rd_T120 l0 x9_1).f1)) := (blk_cell BK102.out 3).trans rfl; have hcz39_4 : w38.cell? ⟨gb102, 4, none⟩ = some (.string ((rd_T120 l0 x9_1).f2)) := (blk_cell BK102.out 4).trans rfl; have hcz39_5 : w38.cell? ⟨gb102, 5, none⟩ = some (.string ((rd_T120 l0 x9_1).f3)) := (blk_cell BK102.out 5).trans rfl; have hcz39_6 : w38.cell? ⟨gb102, 6, none⟩ = some (.string ((rd_T120 l0 x9_1).f4)) := (blk_cell BK102.out 6).trans rfl; have hcz39_7 : w38.cell? ⟨gb102, 7, none⟩ = some (.string ((rd_T120 l0 x9_1).f5)) := (blk_cell BK102.out 7).trans rfl; have hcz39_8 : w38.cell? ⟨gb102, 8, none⟩ = some (.bool ((rd_T120 l0 x9_1).f6)) := (blk_cell BK102.out 8).trans rfl; have hfz39_0 := blk_frozen BK102.out 0; have hfz39_1 := blk_frozen BK102.out 1; have hfz39_2 := blk_frozen BK102.out 2; have hfz39_3 := blk_frozen BK102.out 3; have hfz39_4 := blk_frozen BK102.out 4; have hfz39_5 := blk_frozen BK102.out 5; have hfz39_6 := blk_frozen BK102.out 6; have hfz39_7 := blk_frozen BK102.out 7; have hfz39_8 := blk_frozen BK102.out 8) | ((with_reducible refine gate_builtin (b := .append) (xs := #[.tmp 15, .tmp 17]) rfl ?_); at_builtin; refine Kd.R_append k120 (w0 := w) w.heap.size rfl (.tmp 15) (.tmp 17) 89 120 (.agg #[(.string ⟨#[]⟩), (.string ⟨#[]⟩), (.string ⟨#[]⟩), (.bool false), (.string ⟨#[]⟩), (.string ⟨#[]⟩), (.string ⟨#[]⟩), (.string ⟨#[]⟩), (.bool false)]) 128 rfl Try.underlying89 info120 rfl (by decide) (by omega) (.slice Ao37 x3_1.length co37) x3_1 (⟨(⟨(rd_T120 l0 x9_1).f0.f0, (rd_T120 l0 x9_1).f0.f1, (rd_T120 l0 x9_1).f0.f2⟩ : S116), (rd_T120 l0 x9_1).f1, (rd_T120 l0 x9_1).f2, (rd_T120 l0 x9_1).f3, (rd_T120 l0 x9_1).f4, (rd_T120 l0 x9_1).f5, (rd_T120 l0 x9_1).f6⟩ : S120) [.string ((rd_T120 l0 x9_1).f0.f0), .string ((rd_T120 l0 x9_1).f0.f1), .string ((rd_T120 l0 x9_1).f0.f2), .bool ((rd_T120 l0 x9_1).f1), .string ((rd_T120 l0 x9_1).f2), .string ((rd_T120 l0 x9_1).f3), .string ((rd_T120 l0 x9_1).f4), .string ((rd_T120 l0 x9_1).f5), .bool ((rd_T120 l0 x9_1).f6)] (fun k_ => k_ ≠ gb102) (fun _ => False) rfl rfl ?aP (fun _ hk => hk.elim) ?aF ?aO ?aB ?aS ?aL ?_; (case aP => exact k120_mkM _ _ _ (⟨(⟨(rd_T120 l0 x9_1).f0.f0, (rd_T120 l0 x9_1).f0.f1, (rd_T120 l0 x9_1).f0.f2⟩ : S116), (rd_T120 l0 x9_1).f1, (rd_T120 l0 x9_1).f2, (rd_T120 l0 x9_1).f3, (rd_T120 l0 x9_1).f4, (rd_T120 l0 x9_1).f5, (rd_T120 l0 x9_1).f6⟩ : S120)); (case aB => exact (by repeat (first | (with_reducible first | exact HB.out | apply below_alloc | apply pw_below_drewN | apply below_drew1 | refine below_set ?_ GE102.out) | exact HB.out))); (case aF => exact (fun k_ hk => Kd.freshB (g := gb102) (o := .cells #[.string ((rd_T120 l0 x9_1).f0.f0), .string ((rd_T120 l0 x9_1).f0.f1), .string ((rd_T120 l0 x9_1).f0.f2), .bool ((rd_T120 l0 x9_1).f1), .string ((rd_T120 l0 x9_1).f2), .string ((rd_T120 l0 x9_1).f3), .string ((rd_T120 l0 x9_1).f4), .string ((rd_T120 l0 x9_1).f5), .bool ((rd_T120 l0 x9_1).f6)] 120 (0, 0)) (by (with_reducible repeat (first | refine blk_drewN ?_ _ | refine blk_drew ?_ | refine blk_alloc ?_ _)); exact BK102.out) k_ hk)); (case aO => exact (by (with_reducible repeat (first | apply Kd.R_alloc | apply Kd.R_drewN | apply Kd.R_drew)); exact Kd.R_mono HO_3.out (fun _ hk => hk.2))); (case aS => exact (below_size (by repeat (first | (with_reducible first | exact HB.out | apply below_alloc | apply pw_below_drewN | apply below_drew1 | refine below_set ?_ GE102.out) | exact HB.out)))); (case aL => have := LMc34.out; omega); intro v112 w40 ho hb hg hat; rw [← Ny111.out] at ho; have n0_ := Aside0.mk (blk_grown (g := gb102) (o := .cells #[.string ((rd_T120 l0 x9_1).f0.f0), .string ((rd_T120 l0 x9_1).f0.f1), .string ((rd_T120 l0 x9_1).f0.f2), .bool ((rd_T120 l0 x9_1).f1), .string ((rd_T120 l0 x9_1).f2), .string ((rd_T120 l0 x9_1).f3), .string ((rd_T120 l0 x9_1).f4), .string ((rd_T120 l0 x9_1).f5), .bool ((rd_T120 l0 x9_1).f6)] 120 (0, 0)) (by (with_reducible repeat (first | refine blk_drewN ?_ _ | refine blk_drew ?_ | refine blk_alloc ?_ _)); exact BK102.out) hg (Kd.R_away HO_3.out (fun _ hk => hk.2))); have n1_ := Aside0.mk (hb); have n2_ := Aside0.mk (ho); clear BK102; clear HB; clear HO_3; have BK102 := n0_; have HB := n1_; have HO113 := n2_; clear n0_ n1_ n2_; clear ho hb hg hat))
          go_roundg k1
          case measure => have := HK1.out; omega
          case rel => exact ⟨(y111), (wrap64 (x9_1 + 1)), (by first | rfl | (simp; done) | (simp [*]; done)), H', ⟨by have := HK1.out; omega⟩, ⟨by (with_reducible repeat (first | apply Kd.R_alloc | apply Kd.R_drewN | apply Kd.R_drew)); exact Kd.R_mono HO113.out (fun _ hk => trivial)⟩, ⟨by repeat (first | (with_reducible first | exact HB.out | apply below_alloc | apply pw_below_drewN | apply below_drew1 | refine below_set ?_ GE102.out) | exact HB.out)⟩⟩
         ·rw [if_neg c34] at H
          exact absurd H (by simp)
       ·replace c10 := Bool.eq_false_iff.mpr c10
        subst c10
        have H1 : (if x3_1.length < 1099511627776 then (doc_Of.l0 k1 (x3_1 ++ [(⟨(⟨(rd_T120 l0 x9_1).f0.f0, (rd_T120 l0 x9_1).f0.f1, (rd_T120 l0 x9_1).f0.f2⟩ : S116), (rd_T120 l0 x9_1).f1, (rd_T120 l0 x9_1).f2, (rd_T120 l0 x9_1).f3, (rd_T120 l0 x9_1).f4, (rd_T120 l0 x9_1).f5, (rd_T120 l0 x9_1).f6⟩ : S120)]) l0 (l0.length : Int) (wrap64 (x9_1 + 1))) else (none)) = some r := by rw [if_neg (show ¬ (false = true) by decide)] at H; exact H
        clear H
        have H := H1
        clear H1
        by_cases c41 : x3_1.length < 1099511627776
        ·rw [if_pos c41] at H
         have LMc41 := Aside0.mk c41
         clear c41
         obtain ⟨y114, hy114⟩ : ∃ y_ : List (S120), y_ = (x3_1 ++ [(⟨(⟨(rd_T120 l0 x9_1).f0.f0, (rd_T120 l0 x9_1).f0.f1, (rd_T120 l0 x9_1).f0.f2⟩ : S116), (rd_T120 l0 x9_1).f1, (rd_T120 l0 x9_1).f2, (rd_T120 l0 x9_1).f3, (rd_T120 l0 x9_1).f4, (rd_T120 l0 x9_1).f5, (rd_T120 l0 x9_1).f6⟩ : S120)]) := ⟨_, rfl⟩
         replace H : (doc_Of.l0 k1 y114 l0 (l0.length : Int) (wrap64 (x9_1 + 1))) = some r := by first | (rw [hy114]; with_reducible exact H) | (have H2_ := (Option.bind_some _ _).symm.trans H; rw [hy114]; with_reducible exact H2_) | (have H2_ := (Option.bind_some _ _).symm.trans H; with_reducible exact H2_) | with_reducible exact H | (rw [hy114]; exact H) | exact H
         have Ny114 := Aside0.mk hy114
         clear hy114
         have H' := Aside0.mk H
         clear H
         have p101 : 0 ≤ (x9_1 : Int) := of_decide_eq_true (by first | (with_reducible assumption) | assumption)
         have q101 : x9_1 < (l0.length : Int) := of_decide_eq_true (by first | (with_reducible assumption) | assumption)
         obtain ⟨ad101, e101, hx101_0, hx101_1, hx101_2, hx101_3, hx101_4, hx101_5, hx101_6, hx101_7, hx101_8⟩ := at_T120 HR0.out x9_1 p101 q101
         cases e101
         replace hx101_0 := (HB.out.cell (World.block_lt_of_cell? w _ hx101_0)).trans hx101_0
         replace hx101_1 := (HB.out.cell (World.block_lt_of_cell? w _ hx101_1)).trans hx101_1
         replace hx101_2 := (HB.out.cell (World.block_lt_of_cell? w _ hx101_2)).trans hx101_2
         replace hx101_3 := (HB.out.cell (World.block_lt_of_cell? w _ hx101_3)).trans hx101_3
         replace hx101_4 := (HB.out.cell (World.block_lt_of_cell? w _ hx101_4)).trans hx101_4
         replace hx101_5 := (HB.out.cell (World.block_lt_of_cell? w _ hx101_5)).trans hx101_5
         replace hx101_6 := (HB.out.cell (World.block_lt_of_cell? w _ hx101_6)).trans hx101_6
         replace hx101_7 := (HB.out.cell (World.block_lt_of_cell? w _ hx101_7)).trans hx101_7
         replace hx101_8 := (HB.out.cell (World.block_lt_of_cell? w _ hx101_8)).trans hx101_8
         replace p101 := eq_true p101
         replace q101 := eq_true q101
         go_wp2_with (first | ((with_reducible refine gate_dst (N := 5) rfl ?_); refine box_event ?hg (N := 5) ?hd (cs := #[.string (⟨#[]⟩ : ByteArray), .string (⟨#[]⟩ : ByteArray), .string (⟨#[]⟩ : ByteArray), .bool false, .string (⟨#[]⟩ : ByteArray), .string (⟨#[]⟩ : ByteArray), .string (⟨#[]⟩ : ByteArray), .string (⟨#[]⟩ : ByteArray), .bool false]) (t := 120) ?hr ?_; (case hd => rfl); (case hg => rfl); (case hr => first | (go_simp; done) | (go_simp; rfl)); intro gb102 hg w42 hbox hb; have n0_ := Aside0.mk (Kd.R_below (Kd.R_elderB (by (with_reducible repeat (first | apply Kd.R_alloc | apply Kd.R_drewN | apply Kd.R_drew)); exact HO_3.out) gb102 (Nat.le_of_eq hg.symm)) hb); have n1_ := Aside0.mk (below_step (by repeat (first | (with_reducible first | exact HB.out | apply below_alloc | apply pw_below_drewN | apply below_drew1) | exact HB.out)) hb); have n2_ := Aside0.mk (hbox); have n3_ := Aside0.mk ((by rw [hg]; exact (below_size (by repeat (first | (with_reducible first | exact HB.out | apply below_alloc | apply pw_below_drewN | apply below_drew1) | exact HB.out))) : w.heap.size ≤ gb102)); have n4_ := Aside0.mk ((by rw [hg]; exact (below_size (by repeat (first | (with_reducible first | exact HB.out | apply below_alloc | apply pw_below_drewN | apply below_drew1) | exact HB.out))) : w.heap.size ≤ gb102)); clear HO_3; clear HB; have HO_3 := n0_; have HB := n1_; have BK102 := n2_; have GW102 := n3_; have GE102 := n4_; clear n0_ n1_ n2_ n3_ n4_; clear hb hbox hg; have hcz43_0 : w42.cell? ⟨gb102, 0, none⟩ = some (.string (⟨#[]⟩ : ByteArray)) := (blk_cell BK102.out 0).trans rfl; have hcz43_1 : w42.cell? ⟨gb102, 1, none⟩ = some (.string (⟨#[]⟩ : ByteArray)) := (blk_cell BK102.out 1).trans rfl; have hcz43_2 : w42.cell? ⟨gb102, 2, none⟩ = some (.string (⟨#[]⟩ : ByteArray)) := (blk_cell BK102.out 2).trans rfl; have hcz43_3 : w42.cell? ⟨gb102, 3, none⟩ = some (.bool false) := (blk_cell BK102.out 3).trans rfl; have hcz43_4 : w42.cell? ⟨gb102, 4, none⟩ = some (.string (⟨#[]⟩ : ByteArray)) := (blk_cell BK102.out 4).trans rfl; have hcz43_5 : w42.cell? ⟨gb102, 5, none⟩ = some (.string (⟨#[]⟩ : ByteArray)) := (blk_cell BK102.out 5).trans rfl; have hcz43_6 : w42.cell? ⟨gb102, 6, none⟩ = some (.string (⟨#[]⟩ : ByteArray)) := (blk_cell BK102.out 6).trans rfl; have hcz43_7 : w42.cell? ⟨gb102, 7, none⟩ = some (.string (⟨#[]⟩ : ByteArray)) := (blk_cell BK102.out 7).trans rfl; have hcz43_8 : w42.cell? ⟨gb102, 8, none⟩ = some (.bool false) := (blk_cell BK102.out 8).trans rfl; have hfz43_0 := blk_frozen BK102.out 0; have hfz43_1 := blk_frozen BK102.out 1; have hfz43_2 := blk_frozen BK102.out 2; have hfz43_3 := blk_frozen BK102.out 3; have hfz43_4 := blk_frozen BK102.out 4; have hfz43_5 := blk_frozen BK102.out 5; have hfz43_6 := blk_frozen BK102.out 6; have hfz43_7 := blk_frozen BK102.out 7; have hfz43_8 := blk_frozen BK102.out 8; obtain ⟨Ao44, co44, eo44⟩ := Kd.R_slice HO_3.out; subst eo44) | ((with_reducible refine gate_callee (f := 114) rfl ?_); refine goesL_ (some 25) rfl rfl Try.func114 (by kernel_rfl) rfl #[.agg #[.string ((rd_T120 l0 x9_1).f0.f0), .string ((rd_T120 l0 x9_1).f0.f1), .string ((rd_T120 l0 x9_1).f0.f2), .bool ((rd_T120 l0 x9_1).f1), .string ((rd_T120 l0 x9_1).f2), .string ((rd_T120 l0 x9_1).f3), .string ((rd_T120 l0 x9_1).f4), .string ((rd_T120 l0 x9_1).f5), .bool ((rd_T120 l0 x9_1).f6)]] rfl (by (try simp only [List.map_toArray, List.map_cons, List.map_nil]); first | done | rfl | (simp only [List.length_drop, List.length_take]; rfl)) ?_; (with_reducible refine (doc_Part_isText.calls ((rd_T120 l0 x9_1).f0.f0) ((rd_T120 l0 x9_1).f0.f1) ((rd_T120 l0 x9_1).f0.f2) ((rd_T120 l0 x9_1).f1) ((rd_T120 l0 x9_1).f2) ((rd_T120 l0 x9_1).f3) ((rd_T120 l0 x9_1).f4) ((rd_T120 l0 x9_1).f5) ((rd_T120 l0 x9_1).f6) false _ A9.out).mono ?_); rintro e w45 ⟨rfl, hb⟩; refine ⟨_, rfl, ?_⟩; have n0_ := Aside0.mk (Kd.R_below (by (with_reducible repeat (first | apply Kd.R_alloc | apply Kd.R_drewN | apply Kd.R_drew)); exact (Kd.R_mono (Kd.R_far (p := ⟨gb102, 8, none⟩) (Kd.R_far (p := ⟨gb102, 7, none⟩) (Kd.R_far (p := ⟨gb102, 6, none⟩) (Kd.R_far (p := ⟨gb102, 5, none⟩) (Kd.R_far (p := ⟨gb102, 4, none⟩) (Kd.R_far (p := ⟨gb102, 3, none⟩) (Kd.R_far (p := ⟨gb102, 2, none⟩) (Kd.R_far (p := ⟨gb102, 1, none⟩) (Kd.R_far (p := ⟨gb102, 0, none⟩) (Kd.R_mono HO_3.out (fun k_ hk => (⟨hk, hk.2⟩ : _ ∧ k_ ≠ gb102))) (fun _ hk => hk.2) (.string ((rd_T120 l0 x9_1).f0.f0))) (fun _ hk => hk.2) (.string ((rd_T120 l0 x9_1).f0.f1))) (fun _ hk => hk.2) (.string ((rd_T120 l0 x9_1).f0.f2))) (fun _ hk => hk.2) (.bool ((rd_T120 l0 x9_1).f1))) (fun _ hk => hk.2) (.string ((rd_T120 l0 x9_1).f2))) (fun _ hk => hk.2) (.string ((rd_T120 l0 x9_1).f3))) (fun _ hk => hk.2) (.string ((rd_T120 l0 x9_1).f4))) (fun _ hk => hk.2) (.string ((rd_T120 l0 x9_1).f5))) (fun _ hk => hk.2) (.bool ((rd_T120 l0 x9_1).f6))) (fun _ h_ => h_.1))) hb); have n1_ := Aside0.mk (blk_below (g := gb102) (o := .cells #[.string ((rd_T120 l0 x9_1).f0.f0), .string ((rd_T120 l0 x9_1).f0.f1), .string ((rd_T120 l0 x9_1).f0.f2), .bool ((rd_T120 l0 x9_1).f1), .string ((rd_T120 l0 x9_1).f2), .string ((rd_T120 l0 x9_1).f3), .string ((rd_T120 l0 x9_1).f4), .string ((rd_T120 l0 x9_1).f5), .bool ((rd_T120 l0 x9_1).f6)] 120 (0, 0)) (by (with_reducible repeat (first | refine blk_drewN ?_ _ | refine blk_drew ?_ | refine blk_alloc ?_ _)); refine blk_put (cs := #[.string ((rd_T120 l0 x9_1).f0.f0), .string ((rd_T120 l0 x9_1).f0.f1), .string ((rd_T120 l0 x9_1).f0.f2), .bool ((rd_T120 l0 x9_1).f1), .string ((rd_T120 l0 x9_1).f2), .string ((rd_T120 l0 x9_1).f3), .string ((rd_T120 l0 x9_1).f4), .string ((rd_T120 l0 x9_1).f5), .bool false]) ?_ 8 _ rfl; (with_reducible repeat (first | refine blk_drewN ?_ _ | refine blk_drew ?_ | refine blk_alloc ?_ _)); refine blk_put (cs := #[.string ((rd_T120 l0 x9_1).f0.f0), .string ((rd_T120 l0 x9_1).f0.f1), .string ((rd_T120 l0 x9_1).f0.f2), .bool ((rd_T120 l0 x9_1).f1), .string ((rd_T120 l0 x9_1).f2), .string ((rd_T120 l0 x9_1).f3), .string ((rd_T120 l0 x9_1).f4), .string (⟨#[]⟩ : ByteArray), .bool false]) ?_ 7 _ rfl; (with_reducible repeat (first | refine blk_drewN ?_ _ | refine blk_drew ?_ | refine blk_alloc ?_ _)); refine blk_put (cs := #[.string ((rd_T120 l0 x9_1).f0.f0), .string ((rd_T120 l0 x9_1).f0.f1), .string ((rd_T120 l0 x9_1).f0.f2), .bool ((rd_T120 l0 x9_1).f1), .string ((rd_T120 l0 x9_1).f2), .string ((rd_T120 l0 x9_1).f3), .string (⟨#[]⟩ : ByteArray), .string (⟨#[]⟩ : ByteArray), .bool false]) ?_ 6 _ rfl; (with_reducible repeat (first | refine blk_drewN ?_ _ | refine blk_drew ?_ | refine blk_alloc ?_ _)); refine blk_put (cs := #[.string ((rd_T120 l0 x9_1).f0.f0), .string ((rd_T120 l0 x9_1).f0.f1), .string ((rd_T120 l0 x9_1).f0.f2), .bool ((rd_T120 l0 x9_1).f1), .string ((rd_T120 l0 x9_1).f2), .string (⟨#[]⟩ : ByteArray), .string (⟨#[]⟩ : ByteArray), .string (⟨#[]⟩ : ByteArray), .bool false]) ?_ 5 _ rfl; (with_reducible repeat (first | refine blk_drewN ?_ _ | refine blk_drew ?_ | refine blk_alloc ?_ _)); refine blk_put (cs := #[.string ((rd_T120 l0 x9_1).f0.f0), .string ((rd_T120 l0 x9_1).f0.f1), .string ((rd_T120 l0 x9_1).f0.f2), .bool ((rd_T120 l0 x9_1).f1), .string (⟨#[]⟩ : ByteArray), .string (⟨#[]⟩ : ByteArray), .string (⟨#[]⟩ : ByteArray), .string (⟨#[]⟩ : ByteArray), .bool false]) ?_ 4 _ rfl; (with_reducible repeat (first | refine blk_drewN ?_ _ | refine blk_drew ?_ | refine blk_alloc ?_ _)); refine blk_put (cs := #[.string ((rd_T120 l0 x9_1).f0.f0), .string ((rd_T120 l0 x9_1).f0.f1), .string ((rd_T120 l0 x9_1).f0.f2), .bool false, .string (⟨#[]⟩ : ByteArray), .string (⟨#[]⟩ : ByteArray), .string (⟨#[]⟩ : ByteArray), .string (⟨#[]⟩ : ByteArray), .bool false]) ?_ 3 _ rfl; (with_reducible repeat (first | refine blk_drewN ?_ _ | refine blk_drew ?_ | refine blk_alloc ?_ _)); refine blk_put (cs := #[.string ((rd_T120 l0 x9_1).f0.f0), .string ((rd_T120 l0 x9_1).f0.f1), .string (⟨#[]⟩ : ByteArray), .bool false, .string (⟨#[]⟩ : ByteArray), .string (⟨#[]⟩ : ByteArray), .string (⟨#[]⟩ : ByteArray), .string (⟨#[]⟩ : ByteArray), .bool false]) ?_ 2 _ rfl; (with_reducible repeat (first | refine blk_drewN ?_ _ | refine blk_drew ?_ | refine blk_alloc ?_ _)); refine blk_put (cs := #[.string ((rd_T120 l0 x9_1).f0.f0), .string (⟨#[]⟩ : ByteArray), .string (⟨#[]⟩ : ByteArray), .bool false, .string (⟨#[]⟩ : ByteArray), .string (⟨#[]⟩ : ByteArray), .string (⟨#[]⟩ : ByteArray), .string (⟨#[]⟩ : ByteArray), .bool false]) ?_ 1 _ rfl; (with_reducible repeat (first | refine blk_drewN ?_ _ | refine blk_drew ?_ | refine blk_alloc ?_ _)); refine blk_put (cs := #[.string (⟨#[]⟩ : ByteArray), .string (⟨#[]⟩ : ByteArray), .string (⟨#[]⟩ : ByteArray), .bool false, .string (⟨#[]⟩ : ByteArray), .string (⟨#[]⟩ : ByteArray), .string (⟨#[]⟩ : ByteArray), .string (⟨#[]⟩ : ByteArray), .bool false]) ?_ 0 _ rfl; (with_reducible repeat (first | refine blk_drewN ?_ _ | refine blk_drew ?_ | refine blk_alloc ?_ _)); exact BK102.out) hb); have n2_ := Aside0.mk (below_step (by repeat (first | (with_reducible first | exact HB.out | apply below_alloc | apply pw_below_drewN | apply below_drew1 | refine below_set ?_ GE102.out) | exact HB.out)) hb); clear HO_3; clear BK102; clear HB; have HO_3 := n0_; have BK102 := n1_; have HB := n2_; clear n0_ n1_ n2_; (try clear hb); (try clear hb2); (try clear hk); (try clear hi); have hcz46_0 : w45.cell? ⟨gb102, 0, none⟩ = some (.string ((rd_T120 l0 x9_1).f0.f0)) := (blk_cell BK102.out 0).trans rfl; have hcz46_1 : w45.cell? ⟨gb102, 1, none⟩ = some (.string ((rd_T120 l0 x9_1).f0.f1)) := (blk_cell BK102.out 1).trans rfl; have hcz46_2 : w45.cell? ⟨gb102, 2, none⟩ = some (.string ((rd_T120 l0 x9_1).f0.f2)) := (blk_cell BK102.out 2).trans rfl; have hcz46_3 : w45.cell? ⟨gb102, 3, none⟩ = some (.bool ((rd_T120 l0 x9_1).f1)) := (blk_cell BK102.out 3).trans rfl; have hcz46_4 : w45.cell? ⟨gb102, 4, none⟩ = some (.string ((rd_T120 l0 x9_1).f2)) := (blk_cell BK102.out 4).trans rfl; have hcz46_5 : w45.cell? ⟨gb102, 5, none⟩ = some (.string ((rd_T120 l0 x9_1).f3)) := (blk_cell BK102.out 5).trans rfl; have hcz46_6 : w45.cell? ⟨gb102, 6, none⟩ = some (.string ((rd_T120 l0 x9_1).f4)) := (blk_cell BK102.out 6).trans rfl; have hcz46_7 : w45.cell? ⟨gb102, 7, none⟩ = some (.string ((rd_T120 l0 x9_1).f5)) := (blk_cell BK102.out 7).trans rfl; have hcz46_8 : w45.cell? ⟨gb102, 8, none⟩ = some (.bool ((rd_T120 l0 x9_1).f6)) := (blk_cell BK102.out 8).trans rfl; have hfz46_0 := blk_frozen BK102.out 0; have hfz46_1 := blk_frozen BK102.out 1; have hfz46_2 := blk_frozen BK102.out 2; have hfz46_3 := blk_frozen BK102.out 3; have hfz46_4 := blk_frozen BK102.out 4; have hfz46_5 := blk_frozen BK102.out 5; have hfz46_6 := blk_frozen BK102.out 6; have hfz46_7 := blk_frozen BK102.out 7; have hfz46_8 := blk_frozen BK102.out 8) | ((with_reducible refine gate_builtin (b := .append) (xs := #[.tmp 15, .tmp 17]) rfl ?_); at_builtin; refine Kd.R_append k120 (w0 := w) w.heap.size rfl (.tmp 15) (.tmp 17) 89 120 (.agg #[(.string ⟨#[]⟩), (.string ⟨#[]⟩), (.string ⟨#[]⟩), (.bool false), (.string ⟨#[]⟩), (.string ⟨#[]⟩), (.string ⟨#[]⟩), (.string ⟨#[]⟩), (.bool false)]) 128 rfl Try.underlying89 info120 rfl (by decide) (by omega) (.slice Ao44 x3_1.length co44) x3_1 (⟨(⟨(rd_T120 l0 x9_1).f0.f0, (rd_T120 l0 x9_1).f0.f1, (rd_T120 l0 x9_1).f0.f2⟩ : S116), (rd_T120 l0 x9_1).f1, (rd_T120 l0 x9_1).f2, (rd_T120 l0 x9_1).f3, (rd_T120 l0 x9_1).f4, (rd_T120 l0 x9_1).f5, (rd_T120 l0 x9_1).f6⟩ : S120) [.string ((rd_T120 l0 x9_1).f0.f0), .string ((rd_T120 l0 x9_1).f0.f1), .string ((rd_T120 l0 x9_1).f0.f2), .bool ((rd_T120 l0 x9_1).f1), .string ((rd_T120 l0 x9_1).f2), .string ((rd_T120 l0 x9_1).f3), .string ((rd_T120 l0 x9_1).f4), .string ((rd_T120 l0 x9_1).f5), .bool ((rd_T120 l0 x9_1).f6)] (fun k_ => k_ ≠ gb102) (fun _ => False) rfl rfl ?aP (fun _ hk => hk.elim) ?aF ?aO ?aB ?aS ?aL ?_; (case aP => exact k120_mkM _ _ _ (⟨(⟨(rd_T120 l0 x9_1).f0.f0, (rd_T120 l0 x9_1).f0.f1, (rd_T120 l0 x9_1).f0.f2⟩ : S116), (rd_T120 l0 x9_1).f1, (rd_T120 l0 x9_1).f2, (rd_T120 l0 x9_1).f3, (rd_T120 l0 x9_1).f4, (rd_T120 l0 x9_1).f5, (rd_T120 l0 x9_1).f6⟩ : S120)); (case aB => exact (by repeat (first | (with_reducible first | exact HB.out | apply below_alloc | apply pw_below_drewN | apply below_drew1 | refine below_set ?_ GE102.out) | exact HB.out))); (case aF => exact (fun k_ hk => Kd.freshB (g := gb102) (o := .cells #[.string ((rd_T120 l0 x9_1).f0.f0), .string ((rd_T120 l0 x9_1).f0.f1), .string ((rd_T120 l0 x9_1).f0.f2), .bool ((rd_T120 l0 x9_1).f1), .string ((rd_T120 l0 x9_1).f2), .string ((rd_T120 l0 x9_1).f3), .string ((rd_T120 l0 x9_1).f4), .string ((rd_T120 l0 x9_1).f5), .bool ((rd_T120 l0 x9_1).f6)] 120 (0, 0)) (by (with_reducible repeat (first | refine blk_drewN ?_ _ | refine blk_drew ?_ | refine blk_alloc ?_ _)); exact BK102.out) k_ hk)); (case aO => exact (by (with_reducible repeat (first | apply Kd.R_alloc | apply Kd.R_drewN | apply Kd.R_drew)); exact Kd.R_mono HO_3.out (fun _ hk => hk.2))); (case aS => exact (below_size (by repeat (first | (with_reducible first | exact HB.out | apply below_alloc | apply pw_below_drewN | apply below_drew1 | refine below_set ?_ GE102.out) | exact HB.out)))); (case aL => have := LMc41.out; omega); intro v115 w47 ho hb hg hat; rw [← Ny114.out] at ho; have n0_ := Aside0.mk (blk_grown (g := gb102) (o := .cells #[.string ((rd_T120 l0 x9_1).f0.f0), .string ((rd_T120 l0 x9_1).f0.f1), .string ((rd_T120 l0 x9_1).f0.f2), .bool ((rd_T120 l0 x9_1).f1), .string ((rd_T120 l0 x9_1).f2), .string ((rd_T120 l0 x9_1).f3), .string ((rd_T120 l0 x9_1).f4), .string ((rd_T120 l0 x9_1).f5), .bool ((rd_T120 l0 x9_1).f6)] 120 (0, 0)) (by (with_reducible repeat (first | refine blk_drewN ?_ _ | refine blk_drew ?_ | refine blk_alloc ?_ _)); exact BK102.out) hg (Kd.R_away HO_3.out (fun _ hk => hk.2))); have n1_ := Aside0.mk (hb); have n2_ := Aside0.mk (ho); clear BK102; clear HB; clear HO_3; have BK102 := n0_; have HB := n1_; have HO116 := n2_; clear n0_ n1_ n2_; clear ho hb hg hat))
         go_roundg k1
         case measure => have := HK1.out; omega
         case rel => exact ⟨(y114), (wrap64 (x9_1 + 1)), (by first | rfl | (simp; done) | (simp [*]; done)), H', ⟨by have := HK1.out; omega⟩, ⟨by (with_reducible repeat (first | apply Kd.R_alloc | apply Kd.R_drewN | apply Kd.R_drew)); exact Kd.R_mono HO116.out (fun _ hk => trivial)⟩, ⟨by repeat (first | (with_reducible first | exact HB.out | apply below_alloc | apply pw_below_drewN | apply below_drew1 | refine below_set ?_ GE102.out) | exact HB.out)⟩⟩
        ·rw [if_neg c41] at H
         exact absurd H (by simp)
     ·rw [if_neg c4] at H
      exact absurd H (by simp)
    ·rw [if_neg c3] at H
     exact absurd H (by simp)
   ·rw [if_neg c2] at H
    have c2b0 : decide (x9_1 < (l0.length : Int)) = false := decide_eq_false c2
    clear c2
    obtain rfl := Option.some.inj H
    go_wp2
    go_ret
    exact ⟨_, by first | rfl | (simp [errW_none, errW_some] <;> rfl) | (simp [*, errW_none, errW_some] <;> rfl), by (with_reducible repeat (first | apply Kd.R_alloc | apply Kd.R_drewN | apply Kd.R_drew)); exact HO_3.out, by repeat (first | (with_reducible first | exact HB.out | apply below_alloc | apply pw_below_drewN | apply below_drew1) | exact HB.out)⟩
end Go.Proofs.Ytadafplbgophfaa.PA
end
section
namespace Go.Proofs.Ytadafplbgophfaa.PA
open Go.RowKit Go.Proofs.YtadafplbgophfaaW.PrintWords Go.Proofs.YtadafplbgophfaaW.PrintLast Go.Proofs.YtadafplbgophfaaW.PrintMore
attribute [local go_sem] max2_int min2_int max_two min_two max_three min_three max_four min_four   -- for this text's walks alone
set_option linter.unusedVariables false
set_option linter.unusedSimpArgs false
def resolve_nth.l0 : Nat → Int → List (S120) → Int → Int → Option (Int)
 | 0, _, _, _, _ => none
 | k + 1, x1, x7, x8, x9 => if x9 < x8 then (if 0 ≤ x9 then (if x9 < (x7.length : Int) then (if ((rd_T120 x7 x9).f1 = true) then (if x1 = 0 then (some x9) else (resolve_nth.l0 k (wrap64 (x1 - 1)) x7 x8 (wrap64 (x9 + 1)))) else (resolve_nth.l0 k x1 x7 x8 (wrap64 (x9 + 1)))) else (none)) else (none)) else (some (-1))
def resolve_nth.f (k : Nat) (l0 : List (S120)) (a1 : Int) : Option (Int) := resolve_nth.l0 k a1 l0 (l0.length : Int) 0
theorem resolve_nth.mono_l : ∀ k, (∀ y0 y1 y2 y3, LeO (resolve_nth.l0 k y0 y1 y2 y3) (resolve_nth.l0 (k + 1) y0 y1 y2 y3))
 | 0 => fun _ _ _ _ r h => by simp [resolve_nth.l0] at h
 | k + 1 => by
  have ih0 := resolve_nth.mono_l k
  ·intro y0 y1 y2 y3
   unfold resolve_nth.l0
   repeat' first
   | (with_reducible exact ih0 _ _ _ _)
   | (with_reducible exact LeO.refl _)
   | (with_reducible exact LeO.none _)
   | (with_reducible refine LeO.ite ?_ ?_)
   | (with_reducible refine LeO.bind ?_ (fun _ => ?_))
   | exact ih0 _ _ _ _
   | exact LeO.none _
   | refine LeO.ite ?_ ?_
   | refine LeO.bind ?_ (fun _ => ?_)
theorem resolve_nth.mono : ∀ a0 a1 k, LeO (resolve_nth.f k a0 a1) (resolve_nth.f (k + 1) a0 a1) := by
 intro a0 a1 k
 have ih0 := resolve_nth.mono_l k
 unfold resolve_nth.f
 repeat' first
   | (with_reducible exact ih0 _ _ _ _)
   | (with_reducible exact LeO.refl _)
   | (with_reducible exact LeO.none _)
   | (with_reducible refine LeO.ite ?_ ?_)
   | (with_reducible refine LeO.bind ?_ (fun _ => ?_))
   | exact ih0 _ _ _ _
   | exact LeO.none _
   | refine LeO.ite ?_ ?_
   | refine LeO.bind ?_ (fun _ => ?_)
set_option maxHeartbeats 8000000 in
set_option maxRecDepth 100000 in
theorem resolve_nth.calls (k : Nat) (A0 : Option Addr) (c0 : Nat) (l0 : List (S120)) (a1 : Int) (r : Int) (w : World) (hr0 : Kd.C k120 w A0 l0.length l0) (hc0 : l0.length ≤ c0) (h : resolve_nth.f k l0 a1 = some r) :
  Calls Try.prog 108 #[.slice A0 l0.length c0, .int .i64 a1] w fun e w' => e = .returned (.int .i64 r) ∧ Below w.heap.size w w' := by
 have hu120 := Try.underlying120
 have HR0 := Aside0.mk hr0
 have HC0 := Aside0.mk hc0
 clear hr0 hc0
 have HB := Aside0.mk (Below.refl w.heap.size w)
 have H : (resolve_nth.l0 k a1 l0 (l0.length : Int) 0) = some r := h
 clear h
 have H' := Aside0.mk H
 clear H
 go_enter Try.func108, Try.ntmps108
 go_wp2
 go_loopg [1, 9] k (fun kq v1 v9 w' => ∃ (x1_1 : Int) (x9_1 : Int), v1 = .int .i64 x1_1 ∧ v9 = .int .i64 x9_1 ∧ Aside0 (resolve_nth.l0 kq x1_1 l0 (l0.length : Int) x9_1 = some r) ∧ Aside0 (kq ≤ k) ∧ Aside0 (Below w.heap.size w w'))
 case atStart => exact ⟨(a1), (0), (by first | rfl | (simp; done) | (simp [*]; done)), (by first | rfl | (simp; done) | (simp [*]; done)), H', ⟨Nat.le_refl _⟩, ⟨by repeat (first | (with_reducible first | exact HB.out | apply below_alloc | apply pw_below_drewN | apply below_drew1) | exact HB.out)⟩⟩
 case round =>
  clear H'
  try clear c1
  try clear p2
  obtain ⟨x1_1, x9_1, rfl, rfl, HA, HK1, HB⟩ := hrel
  cases gk with
  | zero => exact absurd HA.out (by simp [resolve_nth.l0])
  | succ k1 =>
   have H := HA.out
   clear HA
   simp only [resolve_nth.l0] at H
   by_cases c3 : x9_1 < (l0.length : Int)
   ·rw [if_pos c3] at H
    have c3b0 : decide (x9_1 < (l0.length : Int)) = true := decide_eq_true c3
    clear c3
    by_cases c4 : 0 ≤ x9_1
    ·rw [if_pos c4] at H
     have c4b0 : decide (0 ≤ x9_1) = true := decide_eq_true c4
     clear c4
     by_cases c5 : x9_1 < (l0.length : Int)
     ·rw [if_pos c5] at H
      have c5b0 : decide (x9_1 < (l0.length : Int)) = true := decide_eq_true c5
      clear c5
      obtain ⟨bq6, hbq6⟩ : ∃ b_ : Bool, b_ = ((rd_T120 l0 x9_1).f1) := ⟨_, rfl⟩
      replace H : (if (bq6 = true) then (if x1_1 = 0 then (some x9_1) else (resolve_nth.l0 k1 (wrap64 (x1_1 - 1)) l0 (l0.length : Int) (wrap64 (x9_1 + 1)))) else (resolve_nth.l0 k1 x1_1 l0 (l0.length : Int) (wrap64 (x9_1 + 1)))) = some r := by rw [← hbq6] at H; exact H
      have Nbq6 := Aside0.mk hbq6
      clear hbq6
      by_cases c7 : (bq6 = true)
      ·subst c7
       have H1 : (if x1_1 = 0 then (some x9_1) else (resolve_nth.l0 k1 (wrap64 (x1_1 - 1)) l0 (l0.length : Int) (wrap64 (x9_1 + 1)))) = some r := by rw [if_pos rfl] at H; exact H
       clear H
       have H := H1
       clear H1
       by_cases c8 : x1_1 = 0
       ·rw [if_pos c8] at H
        have c8b0 : (x1_1 == 0) = true := beq_iff_eq.mpr c8
        have c8b1 : (x1_1 != 0) = false := bne_eq_false_iff_eq.mpr c8
        clear c8
        obtain rfl := Option.some.inj H
        have p101 : 0 ≤ (x9_1 : Int) := of_decide_eq_true (by first | (with_reducible assumption) | assumption)
        have q101 : x9_1 < (l0.length : Int) := of_decide_eq_true (by first | (with_reducible assumption) | assumption)
        obtain ⟨ad101, e101, hx101_0, hx101_1, hx101_2, hx101_3, hx101_4, hx101_5, hx101_6, hx101_7, hx101_8⟩ := at_T120 HR0.out x9_1 p101 q101
        (try rw [← Nbq6.out] at hx101_3)
        (try rw [← Nbq6.out] at hx101_8)
        cases e101
        replace hx101_0 := (HB.out.cell (World.block_lt_of_cell? w _ hx101_0)).trans hx101_0
        replace hx101_1 := (HB.out.cell (World.block_lt_of_cell? w _ hx101_1)).trans hx101_1
        replace hx101_2 := (HB.out.cell (World.block_lt_of_cell? w _ hx101_2)).trans hx101_2
        replace hx101_3 := (HB.out.cell (World.block_lt_of_cell? w _ hx101_3)).trans hx101_3
        replace hx101_4 := (HB.out.cell (World.block_lt_of_cell? w _ hx101_4)).trans hx101_4
        replace hx101_5 := (HB.out.cell (World.block_lt_of_cell? w _ hx101_5)).trans hx101_5
        replace hx101_6 := (HB.out.cell (World.block_lt_of_cell? w _ hx101_6)).trans hx101_6
        replace hx101_7 := (HB.out.cell (World.block_lt_of_cell? w _ hx101_7)).trans hx101_7
        replace hx101_8 := (HB.out.cell (World.block_lt_of_cell? w _ hx101_8)).trans hx101_8
        replace p101 := eq_true p101
        replace q101 := eq_true q101
        go_wp2_with (first | ((with_reducible refine gate_dst (N := 6) rfl ?_); refine box_event ?hg (N := 6) ?hd (cs := #[.string (⟨#[]⟩ : ByteArray), .string (⟨#[]⟩ : ByteArray), .string (⟨#[]⟩ : ByteArray), .bool false, .string (⟨#[]⟩ : ByteArray), .string (⟨#[]⟩ : ByteArray), .string (⟨#[]⟩ : ByteArray), .string (⟨#[]⟩ : ByteArray), .bool false]) (t := 120) ?hr ?_; (case hd => rfl); (case hg => rfl); (case hr => first | (go_simp; done) | (go_simp; rfl)); intro gb102 hg w9 hbox hb; have n0_ := Aside0.mk (below_step (by repeat (first | (with_reducible first | exact HB.out | apply below_alloc | apply pw_below_drewN | apply below_drew1) | exact HB.out)) hb); have n1_ := Aside0.mk (hbox); have n2_ := Aside0.mk ((by rw [hg]; exact (below_size (by repeat (first | (with_reducible first | exact HB.out | apply below_alloc | apply pw_below_drewN | apply below_drew1) | exact HB.out))) : w.heap.size ≤ gb102)); have n3_ := Aside0.mk ((by rw [hg]; exact (below_size (by repeat (first | (with_reducible first | exact HB.out | apply below_alloc | apply pw_below_drewN | apply below_drew1) | exact HB.out))) : w.heap.size ≤ gb102)); clear HB; have HB := n0_; have BK102 := n1_; have GW102 := n2_; have GE102 := n3_; clear n0_ n1_ n2_ n3_; clear hb hbox hg; have hcz10_0 : w9.cell? ⟨gb102, 0, none⟩ = some (.string (⟨#[]⟩ : ByteArray)) := (blk_cell BK102.out 0).trans rfl; have hcz10_1 : w9.cell? ⟨gb102, 1, none⟩ = some (.string (⟨#[]⟩ : ByteArray)) := (blk_cell BK102.out 1).trans rfl; have hcz10_2 : w9.cell? ⟨gb102, 2, none⟩ = some (.string (⟨#[]⟩ : ByteArray)) := (blk_cell BK102.out 2).trans rfl; have hcz10_3 : w9.cell? ⟨gb102, 3, none⟩ = some (.bool false) := (blk_cell BK102.out 3).trans rfl; have hcz10_4 : w9.cell? ⟨gb102, 4, none⟩ = some (.string (⟨#[]⟩ : ByteArray)) := (blk_cell BK102.out 4).trans rfl; have hcz10_5 : w9.cell? ⟨gb102, 5, none⟩ = some (.string (⟨#[]⟩ : ByteArray)) := (blk_cell BK102.out 5).trans rfl; have hcz10_6 : w9.cell? ⟨gb102, 6, none⟩ = some (.string (⟨#[]⟩ : ByteArray)) := (blk_cell BK102.out 6).trans rfl; have hcz10_7 : w9.cell? ⟨gb102, 7, none⟩ = some (.string (⟨#[]⟩ : ByteArray)) := (blk_cell BK102.out 7).trans rfl; have hcz10_8 : w9.cell? ⟨gb102, 8, none⟩ = some (.bool false) := (blk_cell BK102.out 8).trans rfl; have hfz10_0 := blk_frozen BK102.out 0; have hfz10_1 := blk_frozen BK102.out 1; have hfz10_2 := blk_frozen BK102.out 2; have hfz10_3 := blk_frozen BK102.out 3; have hfz10_4 := blk_frozen BK102.out 4; have hfz10_5 := blk_frozen BK102.out 5; have hfz10_6 := blk_frozen BK102.out 6; have hfz10_7 := blk_frozen BK102.out 7; have hfz10_8 := blk_frozen BK102.out 8))
        go_ret
        exact ⟨by first | rfl | (simp [errW_none, errW_some] <;> rfl) | (simp [*, errW_none, errW_some] <;> rfl), by repeat (first | (with_reducible first | exact HB.out | apply below_alloc | apply pw_below_drewN | apply below_drew1 | refine below_set ?_ GE102.out) | exact HB.out)⟩
       ·rw [if_neg c8] at H
        have c8b0 : (x1_1 == 0) = false := beq_eq_false_iff_ne.mpr c8
        have c8b1 : (x1_1 != 0) = true := bne_iff_ne.mpr c8
        have H' := Aside0.mk H
        clear H
        have p101 : 0 ≤ (x9_1 : Int) := of_decide_eq_true (by first | (with_reducible assumption) | assumption)
        have q101 : x9_1 < (l0.length : Int) := of_decide_eq_true (by first | (with_reducible assumption) | assumption)
        obtain ⟨ad101, e101, hx101_0, hx101_1, hx101_2, hx101_3, hx101_4, hx101_5, hx101_6, hx101_7, hx101_8⟩ := at_T120 HR0.out x9_1 p101 q101
        (try rw [← Nbq6.out] at hx101_3)
        (try rw [← Nbq6.out] at hx101_8)
        cases e101
        replace hx101_0 := (HB.out.cell (World.block_lt_of_cell? w _ hx101_0)).trans hx101_0
        replace hx101_1 := (HB.out.cell (World.block_lt_of_cell? w _ hx101_1)).trans hx101_1
        replace hx101_2 := (HB.out.cell (World.block_lt_of_cell? w _ hx101_2)).trans hx101_2
        replace hx101_3 := (HB.out.cell (World.block_lt_of_cell? w _ hx101_3)).trans hx101_3
        replace hx101_4 := (HB.out.cell (World.block_lt_of_cell? w _ hx101_4)).trans hx101_4
        replace hx101_5 := (HB.out.cell (World.block_lt_of_cell? w _ hx101_5)).trans hx101_5
        replace hx101_6 := (HB.out.cell (World.block_lt_of_cell? w _ hx101_6)).trans hx101_6
        replace hx101_7 := (HB.out.cell (World.block_lt_of_cell? w _ hx101_7)).trans hx101_7
        replace hx101_8 := (HB.out.cell (World.block_lt_of_cell? w _ hx101_8)).trans hx101_8
        replace p101 := eq_true p101
        replace q101 := eq_true q101
        go_wp2_with (first | ((with_reducible refine gate_dst (N := 6) rfl ?_); refine box_event ?hg (N := 6) ?hd (cs := #[.string (⟨#[]⟩ : ByteArray), .string (⟨#[]⟩ : ByteArray), .string (⟨#[]⟩ : ByteArray), .bool false, .string (⟨#[]⟩ : ByteArray), .string (⟨#[]⟩ : ByteArray), .string (⟨#[]⟩ : ByteArray), .string (⟨#[]⟩ : ByteArray), .bool false]) (t := 120) ?hr ?_; (case hd => rfl); (case hg => rfl); (case hr => first | (go_simp; done) | (go_simp; rfl)); intro gb102 hg w11 hbox hb; have n0_ := Aside0.mk (below_step (by repeat (first | (with_reducible first | exact HB.out | apply below_alloc | apply pw_below_drewN | apply below_drew1) | exact HB.out)) hb); have n1_ := Aside0.mk (hbox); have n2_ := Aside0.mk ((by rw [hg]; exact (below_size (by repeat (first | (with_reducible first | exact HB.out | apply below_alloc | apply pw_below_drewN | apply below_drew1) | exact HB.out))) : w.heap.size ≤ gb102)); have n3_ := Aside0.mk ((by rw [hg]; exact (below_size (by repeat (first | (with_reducible first | exact HB.out | apply below_alloc | apply pw_below_drewN | apply below_drew1) | exact HB.out))) : w.heap.size ≤ gb102)); clear HB; have HB := n0_; have BK102 := n1_; have GW102 := n2_; have GE102 := n3_; clear n0_ n1_ n2_ n3_; clear hb hbox hg; have hcz12_0 : w11.cell? ⟨gb102, 0, none⟩ = some (.string (⟨#[]⟩ : ByteArray)) := (blk_cell BK102.out 0).trans rfl; have hcz12_1 : w11.cell? ⟨gb102, 1, none⟩ = some (.string (⟨#[]⟩ : ByteArray)) := (blk_cell BK102.out 1).trans rfl; have hcz12_2 : w11.cell? ⟨gb102, 2, none⟩ = some (.string (⟨#[]⟩ : ByteArray)) := (blk_cell BK102.out 2).trans rfl; have hcz12_3 : w11.cell? ⟨gb102, 3, none⟩ = some (.bool false) := (blk_cell BK102.out 3).trans rfl; have hcz12_4 : w11.cell? ⟨gb102, 4, none⟩ = some (.string (⟨#[]⟩ : ByteArray)) := (blk_cell BK102.out 4).trans rfl; have hcz12_5 : w11.cell? ⟨gb102, 5, none⟩ = some (.string (⟨#[]⟩ : ByteArray)) := (blk_cell BK102.out 5).trans rfl; have hcz12_6 : w11.cell? ⟨gb102, 6, none⟩ = some (.string (⟨#[]⟩ : ByteArray)) := (blk_cell BK102.out 6).trans rfl; have hcz12_7 : w11.cell? ⟨gb102, 7, none⟩ = some (.string (⟨#[]⟩ : ByteArray)) := (blk_cell BK102.out 7).trans rfl; have hcz12_8 : w11.cell? ⟨gb102, 8, none⟩ = some (.bool false) := (blk_cell BK102.out 8).trans rfl; have hfz12_0 := blk_frozen BK102.out 0; have hfz12_1 := blk_frozen BK102.out 1; have hfz12_2 := blk_frozen BK102.out 2; have hfz12_3 := blk_frozen BK102.out 3; have hfz12_4 := blk_frozen BK102.out 4; have hfz12_5 := blk_frozen BK102.out 5; have hfz12_6 := blk_frozen BK102.out 6; have hfz12_7 := blk_frozen BK102.out 7; have hfz12_8 := blk_frozen BK102.out 8))
        go_roundg k1
        case measure => have := HK1.out; omega
        case rel => exact ⟨(wrap64 (x1_1 - 1)), (wrap64 (x9_1 + 1)), (by first | rfl | (simp; done) | (simp [*]; done)), (by first | rfl | (simp; done) | (simp [*]; done)), H', ⟨by have := HK1.out; omega⟩, ⟨by repeat (first | (with_reducible first | exact HB.out | apply below_alloc | apply pw_below_drewN | apply below_drew1 | refine below_set ?_ GE102.out) | exact HB.out)⟩⟩
      ·replace c7 := Bool.eq_false_iff.mpr c7
       subst c7
       have H1 : (resolve_nth.l0 k1 x1_1 l0 (l0.length : Int) (wrap64 (x9_1 + 1))) = some r := by rw [if_neg (show ¬ (false = true) by decide)] at H; exact H
       clear H
       have H := H1
       clear H1
       have H' := Aside0.mk H
       clear H
       have p101 : 0 ≤ (x9_1 : Int) := of_decide_eq_true (by first | (with_reducible assumption) | assumption)
       have q101 : x9_1 < (l0.length : Int) := of_decide_eq_true (by first | (with_reducible assumption) | assumption)
       obtain ⟨ad101, e101, hx101_0, hx101_1, hx101_2, hx101_3, hx101_4, hx101_5, hx101_6, hx101_7, hx101_8⟩ := at_T120 HR0.out x9_1 p101 q101
       (try rw [← Nbq6.out] at hx101_3)
       (try rw [← Nbq6.out] at hx101_8)
       cases e101
       replace hx101_0 := (HB.out.cell (World.block_lt_of_cell? w _ hx101_0)).trans hx101_0
       replace hx101_1 := (HB.out.cell (World.block_lt_of_cell? w _ hx101_1)).trans hx101_1
       replace hx101_2 := (HB.out.cell (World.block_lt_of_cell? w _ hx101_2)).trans hx101_2
       replace hx101_3 := (HB.out.cell (World.block_lt_of_cell? w _ hx101_3)).trans hx101_3
       replace hx101_4 := (HB.out.cell (World.block_lt_of_cell? w _ hx101_4)).trans hx101_4
       replace hx101_5 := (HB.out.cell (World.block_lt_of_cell? w _ hx101_5)).trans hx101_5
       replace hx101_6 := (HB.out.cell (World.block_lt_of_cell? w _ hx101_6)).trans hx101_6
       replace hx101_7 := (HB.out.cell (World.block_lt_of_cell? w _ hx101_7)).trans hx101_7
       replace hx101_8 := (HB.out.cell (World.block_lt_of_cell? w _ hx101_8)).trans hx101_8
       replace p101 := eq_true p101
       replace q101 := eq_true q101
       go_wp2_with (first | ((with_reducible refine gate_dst (N := 6) rfl ?_); refine box_event ?hg (N := 6) ?hd (cs := #[.string (⟨#[]⟩ : ByteArray), .string (⟨#[]⟩ : ByteArray), .string (⟨#[]⟩ : ByteArray), .bool false, .string (⟨#[]⟩ : ByteArray), .string (⟨#[]⟩ : ByteArray), .string (⟨#[]⟩ : ByteArray), .string (⟨#[]⟩ : ByteArray), .bool false]) (t := 120) ?hr ?_; (case hd => rfl); (case hg => rfl); (case hr => first | (go_simp; done) | (go_simp; rfl)); intro gb102 hg w13 hbox hb; have n0_ := Aside0.mk (below_step (by repeat (first | (with_reducible first | exact HB.out | apply below_alloc | apply pw_below_drewN | apply below_drew1) | exact HB.out)) hb); have n1_ := Aside0.mk (hbox); have n2_ := Aside0.mk ((by rw [hg]; exact (below_size (by repeat (first | (with_reducible first | exact HB.out | apply below_alloc | apply pw_below_drewN | apply below_drew1) | exact HB.out))) : w.heap.size ≤ gb102)); have n3_ := Aside0.mk ((by rw [hg]; exact (below_size (by repeat (first | (with_reducible first | exact HB.out | apply below_alloc | apply pw_below_drewN | apply below_drew1) | exact HB.out))) : w.heap.size ≤ gb102)); clear HB; have HB := n0_; have BK102 := n1_; have GW102 := n2_; have GE102 := n3_; clear n0_ n1_ n2_ n3_; clear hb hbox hg; have hcz14_0 : w13.cell? ⟨gb102, 0, none⟩ = some (.string (⟨#[]⟩ : ByteArray)) := (blk_cell BK102.out 0).trans rfl; have hcz14_1 : w13.cell? ⟨gb102, 1, none⟩ = some (.string (⟨#[]⟩ : ByteArray)) := (blk_cell BK102.out 1).trans rfl; have hcz14_2 : w13.cell? ⟨gb102, 2, none⟩ = some (.string (⟨#[]⟩ : ByteArray)) := (blk_cell BK102.out 2).trans rfl; have hcz14_3 : w13.cell? ⟨gb102, 3, none⟩ = some (.bool false) := (blk_cell BK102.out 3).trans rfl; have hcz14_4 : w13.cell? ⟨gb102, 4, none⟩ = some (.string (⟨#[]⟩ : ByteArray)) := (blk_cell BK102.out 4).trans rfl; have hcz14_5 : w13.cell? ⟨gb102, 5, none⟩ = some (.string (⟨#[]⟩ : ByteArray)) := (blk_cell BK102.out 5).trans rfl; have hcz14_6 : w13.cell? ⟨gb102, 6, none⟩ = some (.string (⟨#[]⟩ : ByteArray)) := (blk_cell BK102.out 6).trans rfl; have hcz14_7 : w13.cell? ⟨gb102, 7, none⟩ = some (.string (⟨#[]⟩ : ByteArray)) := (blk_cell BK102.out 7).trans rfl; have hcz14_8 : w13.cell? ⟨gb102, 8, none⟩ = some (.bool false) := (blk_cell BK102.out 8).trans rfl; have hfz14_0 := blk_frozen BK102.out 0; have hfz14_1 := blk_frozen BK102.out 1; have hfz14_2 := blk_frozen BK102.out 2; have hfz14_3 := blk_frozen BK102.out 3; have hfz14_4 := blk_frozen BK102.out 4; have hfz14_5 := blk_frozen BK102.out 5; have hfz14_6 := blk_frozen BK102.out 6; have hfz14_7 := blk_frozen BK102.out 7; have hfz14_8 := blk_frozen BK102.out 8))
       go_roundg k1
       case measure => have := HK1.out; omega
       case rel => exact ⟨(x1_1), (wrap64 (x9_1 + 1)), (by first | rfl | (simp; done) | (simp [*]; done)), (by first | rfl | (simp; done) | (simp [*]; done)), H', ⟨by have := HK1.out; omega⟩, ⟨by repeat (first | (with_reducible first | exact HB.out | apply below_alloc | apply pw_below_drewN | apply below_drew1 | refine below_set ?_ GE102.out) | exact HB.out)⟩⟩
     ·rw [if_neg c5] at H
      exact absurd H (by simp)
    ·rw [if_neg c4] at H
     exact absurd H (by simp)
   ·rw [if_neg c3] at H
    have c3b0 : decide (x9_1 < (l0.length : Int)) = false := decide_eq_false c3
    clear c3
    obtain rfl := Option.some.inj H
    go_wp2
    go_ret
    exact ⟨by first | rfl | (simp [errW_none, errW_some] <;> rfl) | (simp [*, errW_none, errW_some] <;> rfl), by repeat (first | (with_reducible first | exact HB.out | apply below_alloc | apply pw_below_drewN | apply below_drew1) | exact HB.out)⟩
end Go.Proofs.Ytadafplbgophfaa.PA
end
section
namespace Go.Proofs.Ytadafplbgophfaa.PA
set_option linter.unusedSimpArgs false
set_option linter.unusedVariables false
open Go.RowKit Go.Proofs.YtadafplbgophfaaW.PrintWords Go.Proofs.YtadafplbgophfaaW.PrintLast Go.Proofs.YtadafplbgophfaaW.PrintMore
def pickF (p : S120) (side : Int) : ByteArray × Int :=
  if side < 1 ∨ 3 < side then (⟨#[]⟩, 5) else if side = 2 ∧ p.f6 = false then (⟨#[]⟩, 1) else (if side = 1 then p.f3 else if side = 2 then p.f4 else p.f5, 0)
set_option maxHeartbeats 4000000 in
set_option maxRecDepth 100000 in
theorem pick_calls (p : S120) (side : Int) (r1 : ByteArray) (r2 : Int) (w : World) (h : pickF p side = (r1, r2)) :
    Calls Try.prog 104 #[.agg #[.string p.f0.f0, .string p.f0.f1, .string p.f0.f2, .bool p.f1, .string p.f2, .string p.f3, .string p.f4, .string p.f5, .bool p.f6], .int .i64 side] w fun e w' => e = .returned (.tuple #[.string r1, .int .i64 r2]) ∧ Below w.heap.size w w' := by
  have hu120 := Try.underlying120
  have hu202 := Try.underlying202
  have HB := Aside0.mk (Below.refl w.heap.size w)
  have hx : ∀ (a b c d : ByteArray) (W : World), (Instr.index 202 (.agg #[.string a, .string b, .string c, .string d]) (.int .i64 1)).run Try.prog W = .ok (.string b) W ∧ (Instr.index 202 (.agg #[.string a, .string b, .string c, .string d]) (.int .i64 2)).run Try.prog W = .ok (.string c) W ∧ (Instr.index 202 (.agg #[.string a, .string b, .string c, .string d]) (.int .i64 3)).run Try.prog W = .ok (.string d) W := fun a b c d W => ⟨by kernel_rfl, by kernel_rfl, by kernel_rfl⟩
  have hx1 := fun a b c d W => (hx a b c d W).1
  have hx2 := fun a b c d W => (hx a b c d W).2.1
  have hx3 := fun a b c d W => (hx a b c d W).2.2
  clear hx
  unfold pickF at h
  by_cases h1 : side < 1
  · rw [if_pos (Or.inl h1)] at h
    cases h
    have d1 : decide (side < 1) = true := decide_eq_true h1
    go_enter Try.func104, Try.ntmps104
    go_wp2_with (first | ((with_reducible refine gate_dst (N := 2) rfl ?_); refine box_event ?hg (N := 2) ?hd (cs := #[.string p.f0.f0, .string p.f0.f1, .string p.f0.f2, .bool p.f1, .string p.f2, .string p.f3, .string p.f4, .string p.f5, .bool p.f6]) (t := 120) ?hr ?_; (case hd => rfl); (case hg => rfl); (case hr => first | (go_simp; done) | (go_simp; rfl)); intro g0 hg w1 hbox hb; have q0 := (blk_cell hbox 0).trans (show _ = some (Value.string p.f0.f0) from rfl); have q1 := (blk_cell hbox 1).trans (show _ = some (Value.string p.f0.f1) from rfl); have q2 := (blk_cell hbox 2).trans (show _ = some (Value.string p.f0.f2) from rfl); have q3 := (blk_cell hbox 3).trans (show _ = some (Value.bool p.f1) from rfl); have q4 := (blk_cell hbox 4).trans (show _ = some (Value.string p.f2) from rfl); have q5 := (blk_cell hbox 5).trans (show _ = some (Value.string p.f3) from rfl); have q6 := (blk_cell hbox 6).trans (show _ = some (Value.string p.f4) from rfl); have q7 := (blk_cell hbox 7).trans (show _ = some (Value.string p.f5) from rfl); have q8 := (blk_cell hbox 8).trans (show _ = some (Value.bool p.f6) from rfl); replace HB := Aside0.mk (below_step HB.out hb); clear hg hbox hb))
    go_ret2
    exact ⟨rfl, HB.out⟩
  by_cases h3 : 3 < side
  · rw [if_pos (Or.inr h3)] at h
    cases h
    have d1 : decide (side < 1) = false := decide_eq_false h1
    have d3 : decide (3 < side) = true := decide_eq_true h3
    go_enter Try.func104, Try.ntmps104
    go_wp2_with (first | ((with_reducible refine gate_dst (N := 2) rfl ?_); refine box_event ?hg (N := 2) ?hd (cs := #[.string p.f0.f0, .string p.f0.f1, .string p.f0.f2, .bool p.f1, .string p.f2, .string p.f3, .string p.f4, .string p.f5, .bool p.f6]) (t := 120) ?hr ?_; (case hd => rfl); (case hg => rfl); (case hr => first | (go_simp; done) | (go_simp; rfl)); intro g0 hg w1 hbox hb; have q0 := (blk_cell hbox 0).trans (show _ = some (Value.string p.f0.f0) from rfl); have q1 := (blk_cell hbox 1).trans (show _ = some (Value.string p.f0.f1) from rfl); have q2 := (blk_cell hbox 2).trans (show _ = some (Value.string p.f0.f2) from rfl); have q3 := (blk_cell hbox 3).trans (show _ = some (Value.bool p.f1) from rfl); have q4 := (blk_cell hbox 4).trans (show _ = some (Value.string p.f2) from rfl); have q5 := (blk_cell hbox 5).trans (show _ = some (Value.string p.f3) from rfl); have q6 := (blk_cell hbox 6).trans (show _ = some (Value.string p.f4) from rfl); have q7 := (blk_cell hbox 7).trans (show _ = some (Value.string p.f5) from rfl); have q8 := (blk_cell hbox 8).trans (show _ = some (Value.bool p.f6) from rfl); replace HB := Aside0.mk (below_step HB.out hb); clear hg hbox hb))
    go_ret2
    exact ⟨rfl, HB.out⟩
  rw [if_neg (by omega)] at h
  by_cases e2 : side = 2
  · subst e2
    by_cases h6 : p.f6 = false
    · rw [if_pos ⟨rfl, h6⟩] at h
      cases h
      go_enter Try.func104, Try.ntmps104
      go_wp2_with (first | ((with_reducible refine gate_dst (N := 2) rfl ?_); refine box_event ?hg (N := 2) ?hd (cs := #[.string p.f0.f0, .string p.f0.f1, .string p.f0.f2, .bool p.f1, .string p.f2, .string p.f3, .string p.f4, .string p.f5, .bool p.f6]) (t := 120) ?hr ?_; (case hd => rfl); (case hg => rfl); (case hr => first | (go_simp; done) | (go_simp; rfl)); intro g0 hg w1 hbox hb; have q0 := (blk_cell hbox 0).trans (show _ = some (Value.string p.f0.f0) from rfl); have q1 := (blk_cell hbox 1).trans (show _ = some (Value.string p.f0.f1) from rfl); have q2 := (blk_cell hbox 2).trans (show _ = some (Value.string p.f0.f2) from rfl); have q3 := (blk_cell hbox 3).trans (show _ = some (Value.bool p.f1) from rfl); have q4 := (blk_cell hbox 4).trans (show _ = some (Value.string p.f2) from rfl); have q5 := (blk_cell hbox 5).trans (show _ = some (Value.string p.f3) from rfl); have q6 := (blk_cell hbox 6).trans (show _ = some (Value.string p.f4) from rfl); have q7 := (blk_cell hbox 7).trans (show _ = some (Value.string p.f5) from rfl); have q8 := (blk_cell hbox 8).trans (show _ = some (Value.bool p.f6) from rfl); replace HB := Aside0.mk (below_step HB.out hb); clear hg hbox hb))
      go_ret2
      exact ⟨rfl, HB.out⟩
    · rw [if_neg (fun e => h6 e.2), if_neg (by decide), if_pos rfl] at h
      cases h
      have h6' : p.f6 = true := by simpa using h6
      go_enter Try.func104, Try.ntmps104
      go_wp2_with (first | ((with_reducible refine gate_dst (N := 2) rfl ?_); refine box_event ?hg (N := 2) ?hd (cs := #[.string p.f0.f0, .string p.f0.f1, .string p.f0.f2, .bool p.f1, .string p.f2, .string p.f3, .string p.f4, .string p.f5, .bool p.f6]) (t := 120) ?hr ?_; (case hd => rfl); (case hg => rfl); (case hr => first | (go_simp; done) | (go_simp; rfl)); intro g0 hg w1 hbox hb; have q0 := (blk_cell hbox 0).trans (show _ = some (Value.string p.f0.f0) from rfl); have q1 := (blk_cell hbox 1).trans (show _ = some (Value.string p.f0.f1) from rfl); have q2 := (blk_cell hbox 2).trans (show _ = some (Value.string p.f0.f2) from rfl); have q3 := (blk_cell hbox 3).trans (show _ = some (Value.bool p.f1) from rfl); have q4 := (blk_cell hbox 4).trans (show _ = some (Value.string p.f2) from rfl); have q5 := (blk_cell hbox 5).trans (show _ = some (Value.string p.f3) from rfl); have q6 := (blk_cell hbox 6).trans (show _ = some (Value.string p.f4) from rfl); have q7 := (blk_cell hbox 7).trans (show _ = some (Value.string p.f5) from rfl); have q8 := (blk_cell hbox 8).trans (show _ = some (Value.bool p.f6) from rfl); replace HB := Aside0.mk (below_step HB.out hb); clear hg hbox hb))
      go_ret2
      exact ⟨rfl, HB.out⟩
  rw [if_neg (fun e => e2 e.1)] at h
  by_cases e1 : side = 1
  · subst e1
    rw [if_pos rfl] at h
    cases h
    go_enter Try.func104, Try.ntmps104
    go_wp2_with (first | ((with_reducible refine gate_dst (N := 2) rfl ?_); refine box_event ?hg (N := 2) ?hd (cs := #[.string p.f0.f0, .string p.f0.f1, .string p.f0.f2, .bool p.f1, .string p.f2, .string p.f3, .string p.f4, .string p.f5, .bool p.f6]) (t := 120) ?hr ?_; (case hd => rfl); (case hg => rfl); (case hr => first | (go_simp; done) | (go_simp; rfl)); intro g0 hg w1 hbox hb; have q0 := (blk_cell hbox 0).trans (show _ = some (Value.string p.f0.f0) from rfl); have q1 := (blk_cell hbox 1).trans (show _ = some (Value.string p.f0.f1) from rfl); have q2 := (blk_cell hbox 2).trans (show _ = some (Value.string p.f0.f2) from rfl); have q3 := (blk_cell hbox 3).trans (show _ = some (Value.bool p.f1) from rfl); have q4 := (blk_cell hbox 4).trans (show _ = some (Value.string p.f2) from rfl); have q5 := (blk_cell hbox 5).trans (show _ = some (Value.string p.f3) from rfl); have q6 := (blk_cell hbox 6).trans (show _ = some (Value.string p.f4) from rfl); have q7 := (blk_cell hbox 7).trans (show _ = some (Value.string p.f5) from rfl); have q8 := (blk_cell hbox 8).trans (show _ = some (Value.bool p.f6) from rfl); replace HB := Aside0.mk (below_step HB.out hb); clear hg hbox hb))
    go_ret2
    exact ⟨rfl, HB.out⟩
  · obtain rfl : side = 3 := by omega
    rw [if_neg (by decide), if_neg (by decide)] at h
    cases h
    go_enter Try.func104, Try.ntmps104
    go_wp2_with (first | ((with_reducible refine gate_dst (N := 2) rfl ?_); refine box_event ?hg (N := 2) ?hd (cs := #[.string p.f0.f0, .string p.f0.f1, .string p.f0.f2, .bool p.f1, .string p.f2, .string p.f3, .string p.f4, .string p.f5, .bool p.f6]) (t := 120) ?hr ?_; (case hd => rfl); (case hg => rfl); (case hr => first | (go_simp; done) | (go_simp; rfl)); intro g0 hg w1 hbox hb; have q0 := (blk_cell hbox 0).trans (show _ = some (Value.string p.f0.f0) from rfl); have q1 := (blk_cell hbox 1).trans (show _ = some (Value.string p.f0.f1) from rfl); have q2 := (blk_cell hbox 2).trans (show _ = some (Value.string p.f0.f2) from rfl); have q3 := (blk_cell hbox 3).trans (show _ = some (Value.bool p.f1) from rfl); have q4 := (blk_cell hbox 4).trans (show _ = some (Value.string p.f2) from rfl); have q5 := (blk_cell hbox 5).trans (show _ = some (Value.string p.f3) from rfl); have q6 := (blk_cell hbox 6).trans (show _ = some (Value.string p.f4) from rfl); have q7 := (blk_cell hbox 7).trans (show _ = some (Value.string p.f5) from rfl); have q8 := (blk_cell hbox 8).trans (show _ = some (Value.bool p.f6) from rfl); replace HB := Aside0.mk (below_step HB.out hb); clear hg hbox hb))
    go_ret2
    exact ⟨rfl, HB.out⟩
def resolve_pick.f (_k : Nat) (a0 a1 a2 : ByteArray) (a3 : Bool) (a4 a5 a6 a7 : ByteArray) (a8 : Bool) (side : Int) : Option (ByteArray × Int) := some (pickF ⟨⟨a0, a1, a2⟩, a3, a4, a5, a6, a7, a8⟩ side)
theorem resolve_pick.mono : ∀ a0 a1 a2 a3 a4 a5 a6 a7 a8 s k, LeO (resolve_pick.f k a0 a1 a2 a3 a4 a5 a6 a7 a8 s) (resolve_pick.f (k + 1) a0 a1 a2 a3 a4 a5 a6 a7 a8 s) := fun _ _ _ _ _ _ _ _ _ _ _ => LeO.refl _
theorem resolve_pick.calls (k : Nat) (a0 a1 a2 : ByteArray) (a3 : Bool) (a4 a5 a6 a7 : ByteArray) (a8 : Bool) (side : Int) (r1 : ByteArray) (r2 : Int) (w : World) (h : resolve_pick.f k a0 a1 a2 a3 a4 a5 a6 a7 a8 side = some (r1, r2)) :
    Calls Try.prog 104 #[.agg #[.string a0, .string a1, .string a2, .bool a3, .string a4, .string a5, .string a6, .string a7, .bool a8], .int .i64 side] w fun e w' => e = .returned (.tuple #[.string r1, .int .i64 r2]) ∧ Below w.heap.size w w' :=
  pick_calls ⟨⟨a0, a1, a2⟩, a3, a4, a5, a6, a7, a8⟩ side r1 r2 w (Option.some.inj h)
end Go.Proofs.Ytadafplbgophfaa.PA
end
section
namespace Go.Proofs.Ytadafplbgophfaa.PA
open Go.RowKit Go.Proofs.YtadafplbgophfaaW.PrintWords Go.Proofs.YtadafplbgophfaaW.PrintLast Go.Proofs.YtadafplbgophfaaW.PrintMore
def doc_Part.f (_k : Nat) (l0 : List S120) : Option (List S120) := if l0.length < 1000000000 then some l0 else none
theorem doc_Part.mono : ∀ a0 k, LeO (doc_Part.f k a0) (doc_Part.f (k + 1) a0) := fun _ _ => LeO.refl _
set_option maxHeartbeats 4000000 in
set_option maxRecDepth 100000 in
theorem doc_Part.calls (k : Nat) (A0 : Option Addr) (c0 : Nat) (l0 : List S120) (r : List S120) (w : World) (hr0 : Kd.C k120 w A0 l0.length l0) (hc0 : l0.length ≤ c0) (h : doc_Part.f k l0 = some r) :
    Calls Try.prog 110 #[.slice A0 l0.length c0] w fun e w' => ∃ v0_ : Value, e = .returned v0_ ∧ Kd.R k120 120 w' w.heap.size (fun _ => True) v0_ r ∧ Below w.heap.size w w' := by
  unfold doc_Part.f at h
  split at h
  case isFalse => cases h
  rename_i hl
  simp only [Option.some.injEq] at h
  subst h
  have HR0 := Aside0.mk hr0
  have HC0 := Aside0.mk hc0
  have HL := Aside0.mk hl
  clear hr0 hc0 hl
  have q89 : ∀ (w : World) (a : Option Addr) (n c n' c' : Nat), (binOp .eql 89 (.slice a n c) (.slice none n' c')).run Try.prog w = .ok (.bool a.isNone) w := fun w a n c n' c' => Lib.run_eql_slice_nil w _ _ a n c n' c' Try.underlying89
  go_enter Try.func110, Try.ntmps110
  rcases A0 with _ | ad
  · have e0 : l0 = [] := by
      rcases Nat.eq_zero_or_pos l0.length with h | h
      · exact List.eq_nil_of_length_eq_zero h
      · obtain ⟨_, h, _⟩ := HR0.out.2.2 h; cases h
    subst e0
    go_wp2
    go_ret
    exact ⟨_, rfl, Kd.R_nil _ _ _ _ _, Below.refl _ _⟩
  · go_wp2_with (first | ((with_reducible refine gate_dst (N := 5) rfl ?_); (try (refine gate_guard (by rfl) ?_; dsimp only)); refine Kd.R_lit k120 _ 120 ?hg (N := 5) ?hd (xs := ([] : List S120)) (inner := []) (ok := fun _ => True) (okp := fun _ => True) ?hr ?hp (fun _ hk => hk) trivial (Below.refl _ _) (Nat.le_refl _) (by simp) ?_; (case hd => rfl); (case hg => rfl); (case hr => first | (go_simp; done) | (go_simp; rfl)); (case hp => exact (Reps.none _ _)); intro v5 w5 ho hb hg_ hnew_; clear hg_ hnew_; have HO5 := Aside0.mk ho; have HB5 := Aside0.mk hb; clear ho hb) | ((with_reducible refine gate_builtin (b := .append) (xs := #[.tmp 5, .tmp 6]) rfl ?_); (try (refine gate_guard (by rfl) ?_; dsimp only)); at_builtin; refine Kd.R_append_rows k120 (w0 := w) w.heap.size rfl (.tmp 5) (.tmp 6) 89 120 (.agg #[(.string ⟨#[]⟩), (.string ⟨#[]⟩), (.string ⟨#[]⟩), (.bool false), (.string ⟨#[]⟩), (.string ⟨#[]⟩), (.string ⟨#[]⟩), (.string ⟨#[]⟩), (.bool false)]) 128 rfl Try.underlying89 info120 rfl (by decide) (by omega) v5 [] l0 _ _ _ (fun _ => True) (fun _ => False) rfl rfl HO5.out (Kd.C_below HR0.out HB5.out) (fun _ _ h => h) (fun _ h => h.elim) (fun _ _ => trivial) HB5.out HB5.out.size ?aL ?_; (case aL => have := HL.out; simp only [List.length_nil]; omega); intro v7 w7 ho hb hg hat; have HO7 := Aside0.mk ho; have HB7 := Aside0.mk hb; clear ho hb hg hat))
    go_ret
    exact ⟨_, rfl, by simpa using HO7.out, HB7.out⟩
end Go.Proofs.Ytadafplbgophfaa.PA
end
section
namespace Go.Proofs.Ytadafplbgophfaa.PA
open Go.RowKit Go.Proofs.YtadafplbgophfaaW.PrintWords Go.Proofs.YtadafplbgophfaaW.PrintLast Go.Proofs.YtadafplbgophfaaW.PrintMore
attribute [local go_sem] max2_int min2_int max_two min_two max_three min_three max_four min_four   -- for this text's walks alone
set_option linter.unusedVariables false
set_option linter.unusedSimpArgs false
def doc_Doc_Conflicts.l0 : Nat → Int → List (S120) → Int → Int → Option (Int)
 | 0, _, _, _, _ => none
 | k + 1, x3, x6, x7, x8 => if x8 < x7 then (if 0 ≤ x8 then (if x8 < (x6.length : Int) then (if (rd_T120 x6 x8).f1 = true then (doc_Doc_Conflicts.l0 k (wrap64 (x3 + 1)) x6 x7 (wrap64 (x8 + 1))) else (doc_Doc_Conflicts.l0 k x3 x6 x7 (wrap64 (x8 + 1)))) else (none)) else (none)) else (some x3)
def doc_Doc_Conflicts.f (k : Nat) (l0 : List (S120)) : Option (Int) := doc_Doc_Conflicts.l0 k 0 l0 (l0.length : Int) 0
theorem doc_Doc_Conflicts.mono_l : ∀ k, (∀ y0 y1 y2 y3, LeO (doc_Doc_Conflicts.l0 k y0 y1 y2 y3) (doc_Doc_Conflicts.l0 (k + 1) y0 y1 y2 y3))
 | 0 => fun _ _ _ _ r h => by simp [doc_Doc_Conflicts.l0] at h
 | k + 1 => by
  have ih0 := doc_Doc_Conflicts.mono_l k
  ·intro y0 y1 y2 y3
   unfold doc_Doc_Conflicts.l0
   repeat' first
   | (with_reducible exact ih0 _ _ _ _)
   | (with_reducible exact LeO.refl _)
   | (with_reducible exact LeO.none _)
   | (with_reducible refine LeO.ite ?_ ?_)
   | (with_reducible refine LeO.bind ?_ (fun _ => ?_))
   | exact ih0 _ _ _ _
   | exact LeO.none _
   | refine LeO.ite ?_ ?_
   | refine LeO.bind ?_ (fun _ => ?_)
theorem doc_Doc_Conflicts.mono : ∀ a0 k, LeO (doc_Doc_Conflicts.f k a0) (doc_Doc_Conflicts.f (k + 1) a0) := by
 intro a0 k
 have ih0 := doc_Doc_Conflicts.mono_l k
 unfold doc_Doc_Conflicts.f
 repeat' first
   | (with_reducible exact ih0 _ _ _ _)
   | (with_reducible exact LeO.refl _)
   | (with_reducible exact LeO.none _)
   | (with_reducible refine LeO.ite ?_ ?_)
   | (with_reducible refine LeO.bind ?_ (fun _ => ?_))
   | exact ih0 _ _ _ _
   | exact LeO.none _
   | refine LeO.ite ?_ ?_
   | refine LeO.bind ?_ (fun _ => ?_)
set_option maxHeartbeats 8000000 in
set_option maxRecDepth 100000 in
theorem doc_Doc_Conflicts.calls (k : Nat) (A0 : Option Addr) (c0 : Nat) (l0 : List (S120)) (r : Int) (w : World) (hr0 : Kd.C k120 w A0 l0.length l0) (hc0 : l0.length ≤ c0) (h : doc_Doc_Conflicts.f k l0 = some r) :
  Calls Try.prog 76 #[.slice A0 l0.length c0] w fun e w' => e = .returned (.int .i64 r) ∧ Below w.heap.size w w' := by
 have hu120 := Try.underlying120
 have HR0 := Aside0.mk hr0
 have HC0 := Aside0.mk hc0
 clear hr0 hc0
 have HB := Aside0.mk (Below.refl w.heap.size w)
 have H : (doc_Doc_Conflicts.l0 k 0 l0 (l0.length : Int) 0) = some r := h
 clear h
 have H' := Aside0.mk H
 clear H
 go_enter Try.func76, Try.ntmps76
 go_wp2
 go_loopg [3, 8] k (fun kq v3 v8 w' => ∃ (x3_1 : Int) (x8_1 : Int), v3 = .int .i64 x3_1 ∧ v8 = .int .i64 x8_1 ∧ Aside0 (doc_Doc_Conflicts.l0 kq x3_1 l0 (l0.length : Int) x8_1 = some r) ∧ Aside0 (kq ≤ k) ∧ Aside0 (Below w.heap.size w w'))
 case atStart => exact ⟨(0), (0), (by first | rfl | (simp; done) | (simp [*]; done)), (by first | rfl | (simp; done) | (simp [*]; done)), H', ⟨Nat.le_refl _⟩, ⟨by repeat (first | (with_reducible first | exact HB.out | apply below_alloc | apply pw_below_drewN | apply below_drew1) | exact HB.out)⟩⟩
 case round =>
  clear H'
  obtain ⟨x3_1, x8_1, rfl, rfl, HA, HK1, HB⟩ := hrel
  cases gk with
  | zero => exact absurd HA.out (by simp [doc_Doc_Conflicts.l0])
  | succ k1 =>
   have H := HA.out
   clear HA
   simp only [doc_Doc_Conflicts.l0] at H
   by_cases c2 : x8_1 < (l0.length : Int)
   ·rw [if_pos c2] at H
    have c2b0 : decide (x8_1 < (l0.length : Int)) = true := decide_eq_true c2
    clear c2
    by_cases c3 : 0 ≤ x8_1
    ·rw [if_pos c3] at H
     have c3b0 : decide (0 ≤ x8_1) = true := decide_eq_true c3
     clear c3
     by_cases c4 : x8_1 < (l0.length : Int)
     ·rw [if_pos c4] at H
      have c4b0 : decide (x8_1 < (l0.length : Int)) = true := decide_eq_true c4
      clear c4
      obtain ⟨bq5, hbq5⟩ : ∃ b_ : Bool, b_ = ((rd_T120 l0 x8_1).f1) := ⟨_, rfl⟩
      replace H : (if bq5 = true then (doc_Doc_Conflicts.l0 k1 (wrap64 (x3_1 + 1)) l0 (l0.length : Int) (wrap64 (x8_1 + 1))) else (doc_Doc_Conflicts.l0 k1 x3_1 l0 (l0.length : Int) (wrap64 (x8_1 + 1)))) = some r := by rw [← hbq5] at H; exact H
      have Nbq5 := Aside0.mk hbq5
      clear hbq5
      by_cases c6 : bq5 = true
      ·subst c6
       have H1 : (doc_Doc_Conflicts.l0 k1 (wrap64 (x3_1 + 1)) l0 (l0.length : Int) (wrap64 (x8_1 + 1))) = some r := by rw [if_pos rfl] at H; exact H
       clear H
       have H := H1
       clear H1
       have H' := Aside0.mk H
       clear H
       have p101 : 0 ≤ (x8_1 : Int) := of_decide_eq_true (by first | (with_reducible assumption) | assumption)
       have q101 : x8_1 < (l0.length : Int) := of_decide_eq_true (by first | (with_reducible assumption) | assumption)
       obtain ⟨ad101, e101, hx101_0, hx101_1, hx101_2, hx101_3, hx101_4, hx101_5, hx101_6, hx101_7, hx101_8⟩ := at_T120 HR0.out x8_1 p101 q101
       (try rw [← Nbq5.out] at hx101_3)
       (try rw [← Nbq5.out] at hx101_8)
       cases e101
       replace hx101_0 := (HB.out.cell (World.block_lt_of_cell? w _ hx101_0)).trans hx101_0
       replace hx101_1 := (HB.out.cell (World.block_lt_of_cell? w _ hx101_1)).trans hx101_1
       replace hx101_2 := (HB.out.cell (World.block_lt_of_cell? w _ hx101_2)).trans hx101_2
       replace hx101_3 := (HB.out.cell (World.block_lt_of_cell? w _ hx101_3)).trans hx101_3
       replace hx101_4 := (HB.out.cell (World.block_lt_of_cell? w _ hx101_4)).trans hx101_4
       replace hx101_5 := (HB.out.cell (World.block_lt_of_cell? w _ hx101_5)).trans hx101_5
       replace hx101_6 := (HB.out.cell (World.block_lt_of_cell? w _ hx101_6)).trans hx101_6
       replace hx101_7 := (HB.out.cell (World.block_lt_of_cell? w _ hx101_7)).trans hx101_7
       replace hx101_8 := (HB.out.cell (World.block_lt_of_cell? w _ hx101_8)).trans hx101_8
       replace p101 := eq_true p101
       replace q101 := eq_true q101
       go_wp2_with (first | ((with_reducible refine gate_dst (N := 5) rfl ?_); refine box_event ?hg (N := 5) ?hd (cs := #[.string (⟨#[]⟩ : ByteArray), .string (⟨#[]⟩ : ByteArray), .string (⟨#[]⟩ : ByteArray), .bool false, .string (⟨#[]⟩ : ByteArray), .string (⟨#[]⟩ : ByteArray), .string (⟨#[]⟩ : ByteArray), .string (⟨#[]⟩ : ByteArray), .bool false]) (t := 120) ?hr ?_; (case hd => rfl); (case hg => rfl); (case hr => first | (go_simp; done) | (go_simp; rfl)); intro gb102 hg w7 hbox hb; have n0_ := Aside0.mk (below_step (by repeat (first | (with_reducible first | exact HB.out | apply below_alloc | apply pw_below_drewN | apply below_drew1) | exact HB.out)) hb); have n1_ := Aside0.mk (hbox); have n2_ := Aside0.mk ((by rw [hg]; exact (below_size (by repeat (first | (with_reducible first | exact HB.out | apply below_alloc | apply pw_below_drewN | apply below_drew1) | exact HB.out))) : w.heap.size ≤ gb102)); have n3_ := Aside0.mk ((by rw [hg]; exact (below_size (by repeat (first | (with_reducible first | exact HB.out | apply below_alloc | apply pw_below_drewN | apply below_drew1) | exact HB.out))) : w.heap.size ≤ gb102)); clear HB; have HB := n0_; have BK102 := n1_; have GW102 := n2_; have GE102 := n3_; clear n0_ n1_ n2_ n3_; clear hb hbox hg; have hcz8_0 : w7.cell? ⟨gb102, 0, none⟩ = some (.string (⟨#[]⟩ : ByteArray)) := (blk_cell BK102.out 0).trans rfl; have hcz8_1 : w7.cell? ⟨gb102, 1, none⟩ = some (.string (⟨#[]⟩ : ByteArray)) := (blk_cell BK102.out 1).trans rfl; have hcz8_2 : w7.cell? ⟨gb102, 2, none⟩ = some (.string (⟨#[]⟩ : ByteArray)) := (blk_cell BK102.out 2).trans rfl; have hcz8_3 : w7.cell? ⟨gb102, 3, none⟩ = some (.bool false) := (blk_cell BK102.out 3).trans rfl; have hcz8_4 : w7.cell? ⟨gb102, 4, none⟩ = some (.string (⟨#[]⟩ : ByteArray)) := (blk_cell BK102.out 4).trans rfl; have hcz8_5 : w7.cell? ⟨gb102, 5, none⟩ = some (.string (⟨#[]⟩ : ByteArray)) := (blk_cell BK102.out 5).trans rfl; have hcz8_6 : w7.cell? ⟨gb102, 6, none⟩ = some (.string (⟨#[]⟩ : ByteArray)) := (blk_cell BK102.out 6).trans rfl; have hcz8_7 : w7.cell? ⟨gb102, 7, none⟩ = some (.string (⟨#[]⟩ : ByteArray)) := (blk_cell BK102.out 7).trans rfl; have hcz8_8 : w7.cell? ⟨gb102, 8, none⟩ = some (.bool false) := (blk_cell BK102.out 8).trans rfl; have hfz8_0 := blk_frozen BK102.out 0; have hfz8_1 := blk_frozen BK102.out 1; have hfz8_2 := blk_frozen BK102.out 2; have hfz8_3 := blk_frozen BK102.out 3; have hfz8_4 := blk_frozen BK102.out 4; have hfz8_5 := blk_frozen BK102.out 5; have hfz8_6 := blk_frozen BK102.out 6; have hfz8_7 := blk_frozen BK102.out 7; have hfz8_8 := blk_frozen BK102.out 8))
       go_roundg k1
       case measure => have := HK1.out; omega
       case rel => exact ⟨(wrap64 (x3_1 + 1)), (wrap64 (x8_1 + 1)), (by first | rfl | (simp; done) | (simp [*]; done)), (by first | rfl | (simp; done) | (simp [*]; done)), H', ⟨by have := HK1.out; omega⟩, ⟨by repeat (first | (with_reducible first | exact HB.out | apply below_alloc | apply pw_below_drewN | apply below_drew1 | refine below_set ?_ GE102.out) | exact HB.out)⟩⟩
      ·replace c6 := Bool.eq_false_iff.mpr c6
       subst c6
       have H1 : (doc_Doc_Conflicts.l0 k1 x3_1 l0 (l0.length : Int) (wrap64 (x8_1 + 1))) = some r := by rw [if_neg (show ¬ (false = true) by decide)] at H; exact H
       clear H
       have H := H1
       clear H1
       have H' := Aside0.mk H
       clear H
       have p101 : 0 ≤ (x8_1 : Int) := of_decide_eq_true (by first | (with_reducible assumption) | assumption)
       have q101 : x8_1 < (l0.length : Int) := of_decide_eq_true (by first | (with_reducible assumption) | assumption)
       obtain ⟨ad101, e101, hx101_0, hx101_1, hx101_2, hx101_3, hx101_4, hx101_5, hx101_6, hx101_7, hx101_8⟩ := at_T120 HR0.out x8_1 p101 q101
       (try rw [← Nbq5.out] at hx101_3)
       (try rw [← Nbq5.out] at hx101_8)
       cases e101
       replace hx101_0 := (HB.out.cell (World.block_lt_of_cell? w _ hx101_0)).trans hx101_0
       replace hx101_1 := (HB.out.cell (World.block_lt_of_cell? w _ hx101_1)).trans hx101_1
       replace hx101_2 := (HB.out.cell (World.block_lt_of_cell? w _ hx101_2)).trans hx101_2
       replace hx101_3 := (HB.out.cell (World.block_lt_of_cell? w _ hx101_3)).trans hx101_3
       replace hx101_4 := (HB.out.cell (World.block_lt_of_cell? w _ hx101_4)).trans hx101_4
       replace hx101_5 := (HB.out.cell (World.block_lt_of_cell? w _ hx101_5)).trans hx101_5
       replace hx101_6 := (HB.out.cell (World.block_lt_of_cell? w _ hx101_6)).trans hx101_6
       replace hx101_7 := (HB.out.cell (World.block_lt_of_cell? w _ hx101_7)).trans hx101_7
       replace hx101_8 := (HB.out.cell (World.block_lt_of_cell? w _ hx101_8)).trans hx101_8
       replace p101 := eq_true p101
       replace q101 := eq_true q101
       go_wp2_with (first | ((with_reducible refine gate_dst (N := 5) rfl ?_); refine box_event ?hg (N := 5) ?hd (cs := #[.string (⟨#[]⟩ : ByteArray), .string (⟨#[]⟩ : ByteArray), .string (⟨#[]⟩ : ByteArray), .bool false, .string (⟨#[]⟩ : ByteArray), .string (⟨#[]⟩ : ByteArray), .string (⟨#[]⟩ : ByteArray), .string (⟨#[]⟩ : ByteArray), .bool false]) (t := 120) ?hr ?_; (case hd => rfl); (case hg => rfl); (case hr => first | (go_simp; done) | (go_simp; rfl)); intro gb102 hg w9 hbox hb; have n0_ := Aside0.mk (below_step (by repeat (first | (with_reducible first | exact HB.out | apply below_alloc | apply pw_below_drewN | apply below_drew1) | exact HB.out)) hb); have n1_ := Aside0.mk (hbox); have n2_ := Aside0.mk ((by rw [hg]; exact (below_size (by repeat (first | (with_reducible first | exact HB.out | apply below_alloc | apply pw_below_drewN | apply below_drew1) | exact HB.out))) : w.heap.size ≤ gb102)); have n3_ := Aside0.mk ((by rw [hg]; exact (below_size (by repeat (first | (with_reducible first | exact HB.out | apply below_alloc | apply pw_below_drewN | apply below_drew1) | exact HB.out))) : w.heap.size ≤ gb102)); clear HB; have HB := n0_; have BK102 := n1_; have GW102 := n2_; have GE102 := n3_; clear n0_ n1_ n2_ n3_; clear hb hbox hg; have hcz10_0 : w9.cell? ⟨gb102, 0, none⟩ = some (.string (⟨#[]⟩ : ByteArray)) := (blk_cell BK102.out 0).trans rfl; have hcz10_1 : w9.cell? ⟨gb102, 1, none⟩ = some (.string (⟨#[]⟩ : ByteArray)) := (blk_cell BK102.out 1).trans rfl; have hcz10_2 : w9.cell? ⟨gb102, 2, none⟩ = some (.string (⟨#[]⟩ : ByteArray)) := (blk_cell BK102.out 2).trans rfl; have hcz10_3 : w9.cell? ⟨gb102, 3, none⟩ = some (.bool false) := (blk_cell BK102.out 3).trans rfl; have hcz10_4 : w9.cell? ⟨gb102, 4, none⟩ = some (.string (⟨#[]⟩ : ByteArray)) := (blk_cell BK102.out 4).trans rfl; have hcz10_5 : w9.cell? ⟨gb102, 5, none⟩ = some (.string (⟨#[]⟩ : ByteArray)) := (blk_cell BK102.out 5).trans rfl; have hcz10_6 : w9.cell? ⟨gb102, 6, none⟩ = some (.string (⟨#[]⟩ : ByteArray)) := (blk_cell BK102.out 6).trans rfl; have hcz10_7 : w9.cell? ⟨gb102, 7, none⟩ = some (.string (⟨#[]⟩ : ByteArray)) := (blk_cell BK102.out 7).trans rfl; have hcz10_8 : w9.cell? ⟨gb102, 8, none⟩ = some (.bool false) := (blk_cell BK102.out 8).trans rfl; have hfz10_0 := blk_frozen BK102.out 0; have hfz10_1 := blk_frozen BK102.out 1; have hfz10_2 := blk_frozen BK102.out 2; have hfz10_3 := blk_frozen BK102.out 3; have hfz10_4 := blk_frozen BK102.out 4; have hfz10_5 := blk_frozen BK102.out 5; have hfz10_6 := blk_frozen BK102.out 6; have hfz10_7 := blk_frozen BK102.out 7; have hfz10_8 := blk_frozen BK102.out 8))
       go_roundg k1
       case measure => have := HK1.out; omega
       case rel => exact ⟨(x3_1), (wrap64 (x8_1 + 1)), (by first | rfl | (simp; done) | (simp [*]; done)), (by first | rfl | (simp; done) | (simp [*]; done)), H', ⟨by have := HK1.out; omega⟩, ⟨by repeat (first | (with_reducible first | exact HB.out | apply below_alloc | apply pw_below_drewN | apply below_drew1 | refine below_set ?_ GE102.out) | exact HB.out)⟩⟩
     ·rw [if_neg c4] at H
      exact absurd H (by simp)
    ·rw [if_neg c3] at H
     exact absurd H (by simp)
   ·rw [if_neg c2] at H
    have c2b0 : decide (x8_1 < (l0.length : Int)) = false := decide_eq_false c2
    clear c2
    obtain rfl := Option.some.inj H
    go_wp2
    go_ret
    exact ⟨by first | rfl | (simp [errW_none, errW_some] <;> rfl) | (simp [*, errW_none, errW_some] <;> rfl), by repeat (first | (with_reducible first | exact HB.out | apply below_alloc | apply pw_below_drewN | apply below_drew1) | exact HB.out)⟩
end Go.Proofs.Ytadafplbgophfaa.PA
end
section
namespace Go.Proofs.Ytadafplbgophfaa.PA
open Go.RowKit Go.Proofs.YtadafplbgophfaaW.PrintWords Go.Proofs.YtadafplbgophfaaW.PrintLast Go.Proofs.YtadafplbgophfaaW.PrintMore
attribute [local go_sem] max2_int min2_int max_two min_two max_three min_three max_four min_four   -- for this text's walks alone
set_option linter.unusedVariables false
set_option linter.unusedSimpArgs false
def bits_Mul64.f (a0 : Int) (a1 : Int) : Option (Int × Int) := some (IntKind.u64.wrap ((IntKind.u64.wrap ((IntKind.u64.wrap ((a0 / 4294967296) * (a1 / 4294967296))) + ((IntKind.u64.wrap ((IntKind.u64.wrap ((a0 / 4294967296) * (Go.bits .and .u64 a1 4294967295))) + ((IntKind.u64.wrap ((Go.bits .and .u64 a0 4294967295) * (Go.bits .and .u64 a1 4294967295))) / 4294967296))) / 4294967296))) + ((IntKind.u64.wrap ((Go.bits .and .u64 (IntKind.u64.wrap ((IntKind.u64.wrap ((a0 / 4294967296) * (Go.bits .and .u64 a1 4294967295))) + ((IntKind.u64.wrap ((Go.bits .and .u64 a0 4294967295) * (Go.bits .and .u64 a1 4294967295))) / 4294967296))) 4294967295) + (IntKind.u64.wrap ((Go.bits .and .u64 a0 4294967295) * (a1 / 4294967296))))) / 4294967296)), IntKind.u64.wrap (a0 * a1))
set_option maxHeartbeats 8000000 in
set_option maxRecDepth 100000 in
theorem bits_Mul64.calls (a0 : Int) (a1 : Int) (r1 : Int) (r2 : Int) (w : World) (h : bits_Mul64.f a0 a1 = some (r1, r2)) :
  Calls Try.prog 143 #[.int .u64 a0, .int .u64 a1] w fun e w' => e = .returned (.tuple #[.int .u64 r1, .int .u64 r2]) ∧ Drawn0 w w' := by
 have H : (some (IntKind.u64.wrap ((IntKind.u64.wrap ((IntKind.u64.wrap ((a0 / 4294967296) * (a1 / 4294967296))) + ((IntKind.u64.wrap ((IntKind.u64.wrap ((a0 / 4294967296) * (Go.bits .and .u64 a1 4294967295))) + ((IntKind.u64.wrap ((Go.bits .and .u64 a0 4294967295) * (Go.bits .and .u64 a1 4294967295))) / 4294967296))) / 4294967296))) + ((IntKind.u64.wrap ((Go.bits .and .u64 (IntKind.u64.wrap ((IntKind.u64.wrap ((a0 / 4294967296) * (Go.bits .and .u64 a1 4294967295))) + ((IntKind.u64.wrap ((Go.bits .and .u64 a0 4294967295) * (Go.bits .and .u64 a1 4294967295))) / 4294967296))) 4294967295) + (IntKind.u64.wrap ((Go.bits .and .u64 a0 4294967295) * (a1 / 4294967296))))) / 4294967296)), IntKind.u64.wrap (a0 * a1))) = some (r1, r2) := h
 clear h
 simp only [Option.some.injEq, Prod.mk.injEq] at H
 obtain ⟨rfl, rfl⟩ := H
 go_enter Try.func143, Try.ntmps143
 go_wp2
 go_ret2
 exact ⟨by first | rfl | (simp; done) | (simp [*]; done), by repeat (first | exact Drawn0.refl _ | apply Drawn0.step)⟩
end Go.Proofs.Ytadafplbgophfaa.PA
end
section
namespace Go.Proofs.Ytadafplbgophfaa.PA
open Go.RowKit Go.Proofs.YtadafplbgophfaaW.PrintWords Go.Proofs.YtadafplbgophfaaW.PrintLast Go.Proofs.YtadafplbgophfaaW.PrintMore
attribute [local go_sem] max2_int min2_int max_two min_two max_three min_three max_four min_four   -- for this text's walks alone
set_option linter.unusedVariables false
set_option linter.unusedSimpArgs false
def bits_Mul.f (a0 : Int) (a1 : Int) : Option (Int × Int) := (bits_Mul64.f a0 a1).bind fun bt101 => (some (bt101.1, bt101.2))
set_option maxHeartbeats 8000000 in
set_option maxRecDepth 100000 in
theorem bits_Mul.calls (a0 : Int) (a1 : Int) (r1 : Int) (r2 : Int) (w : World) (h : bits_Mul.f a0 a1 = some (r1, r2)) :
  Calls Try.prog 130 #[.int .u64 a0, .int .u64 a1] w fun e w' => e = .returned (.tuple #[.int .u64 r1, .int .u64 r2]) ∧ Drawn0 w w' := by
 have H : ((bits_Mul64.f a0 a1).bind fun bt101 => (some (bt101.1, bt101.2))) = some (r1, r2) := h
 clear h
 replace H := Option.bind_eq_some_iff.mp H
 obtain ⟨⟨t101, t102⟩, A30, H⟩ := H
 replace H : (some (t101, t102)) = some (r1, r2) := H
 have A3 := Aside0.mk A30
 clear A30
 simp only [Option.some.injEq, Prod.mk.injEq] at H
 obtain ⟨rfl, rfl⟩ := H
 go_enter Try.func130, Try.ntmps130
 go_wp2_with (first | ((with_reducible refine gate_callee (f := 143) rfl ?_); refine goesL_ (some 25) rfl rfl Try.func143 (by kernel_rfl) rfl #[.int .u64 a0, .int .u64 a1] rfl (by (try simp only [List.map_toArray, List.map_cons, List.map_nil]); first | done | rfl | (simp only [List.length_drop, List.length_take]; rfl)) ?_; (with_reducible refine (bits_Mul64.calls a0 a1 t101 t102 _ A3.out).mono ?_); rintro e w' ⟨rfl, ⟨nd, rfl⟩⟩; refine ⟨_, rfl, ?_⟩))
 go_ret2
 exact ⟨by first | rfl | (simp; done) | (simp [*]; done), by repeat (first | exact Drawn0.refl _ | apply Drawn0.step)⟩
end Go.Proofs.Ytadafplbgophfaa.PA
end
section
namespace Go.Proofs.Ytadafplbgophfaa.PA
set_option linter.unusedSimpArgs false
set_option linter.unusedVariables false
open Go.RowKit Go.Proofs.YtadafplbgophfaaW.PrintWords Go.Proofs.YtadafplbgophfaaW.PrintLast Go.Proofs.YtadafplbgophfaaW.PrintMore
def slices_Repeat_int_int.f (_k : Nat) (l0 : List Int) (a1 : Int) : Option (List Int) := if l0.length = 1 ∧ 0 ≤ a1 ∧ a1 ≤ 1000000000 then some (List.replicate a1.toNat (rd l0 0)) else none
theorem slices_Repeat_int_int.mono : ∀ a0 a1 k, LeO (slices_Repeat_int_int.f k a0 a1) (slices_Repeat_int_int.f (k + 1) a0 a1) := fun _ _ _ => LeO.refl _
theorem u64_small (x : Int) (h0 : 0 ≤ x) (h1 : x ≤ 1000000000000) : IntKind.u64.wrap x = x := by
  rw [IntKind.wrap_u64]; omega
theorem mul_one_u64 (n : Int) (h0 : 0 ≤ n) (h1 : n ≤ 1000000000) : bits_Mul.f 1 n = some (0, n) := by
  have w0 : ∀ x : Int, 0 ≤ x → x ≤ 1000000000000 → IntKind.u64.wrap x = x := fun x a b => u64_small x a b
  have m1 : Go.bits .and .u64 1 4294967295 = 1 := by decide +kernel
  have m0 : Go.bits .and .u64 0 4294967295 = 0 := by decide +kernel
  have mn' : Go.bits .and .u64 n 4294967295 = n := by
    have h := bits_mask .u64 64 (by decide) (fun n a b => by rw [IntKind.wrap_u64]; omega) 32 (by decide) n h0 (by omega)
    have e : ((2 : Int) ^ 32) - 1 = 4294967295 := by decide
    rw [e] at h
    rw [h]; omega
  have d1 : (1 : Int) / 4294967296 = 0 := by decide
  have dn : n / 4294967296 = 0 := by omega
  unfold bits_Mul.f bits_Mul64.f
  rw [m1, mn', d1, dn]
  simp only [Int.zero_mul, Int.mul_zero, Int.one_mul, Option.bind_some, Option.some.injEq, Prod.mk.injEq]
  rw [w0 0 (by omega) (by omega), w0 n (by omega) (by omega), dn]
  simp only [Int.add_zero, Int.zero_add]
  rw [w0 0 (by omega) (by omega), m0]
  simp only [Int.add_zero, Int.zero_add, Int.zero_ediv]
  rw [w0 0 (by omega) (by omega)]
  simp only [Int.zero_ediv, Int.add_zero]
  rw [w0 0 (by omega) (by omega)]
  exact ⟨rfl, trivial⟩
def rep99 (v : Int) (m z : Nat) : List Value := List.replicate m (.int .i64 v) ++ List.replicate z (.int .i64 0)
theorem rep99_len (v : Int) (m z : Nat) : (rep99 v m z).length = m + z := by simp [rep99]
theorem rep99_splice (v : Int) (m z c : Nat) (h : c ≤ z) : splice (rep99 v m z) m (List.replicate c (.int .i64 v)) = rep99 v (m + c) (z - c) := by
  unfold splice rep99
  rw [List.take_append_of_le_length (by simp), List.take_of_length_le (by simp), List.drop_append, List.length_replicate, List.length_replicate, List.drop_of_length_le (by simp), show m + c - m = c by omega, List.drop_replicate, ← List.append_assoc, List.replicate_append_replicate]
  simp
theorem rep99_at (v : Int) (m z j : Nat) (h : j < m) : (rep99 v m z)[j]? = some (.int .i64 v) := by
  unfold rep99
  rw [List.getElem?_append_left (by simpa using h)]
  simp [h]
theorem made99 (n : Nat) (h : n ≤ 9223372036854775807) (W : World) : (W.alloc (.cells (madeCells #[.int .i64 0] n) 3)).heap[W.heap.size]? = some (.cells (rep99 0 0 n).toArray 3 (0, 0)) := by
  have ho := (own_made W W.heap.size 3 .i64 n (Nat.le_refl _) h).2
  rcases ho with ⟨h1, _⟩ | ⟨g, cap, cur, e, _, hh, hc1, hc2, hs, ht⟩
  · cases h1
  · injection e with e1 e2 e3
    injection e1 with e1
    injection e1 with e1
    subst e1 e3
    rw [hh]
    have : cur.toList = nums .i64 (List.replicate n 0) := by
      rw [← ht, List.take_of_length_le (by rw [Array.length_toList, hs]; exact Nat.le_refl _)]
    have h2 : cur = (rep99 0 0 n).toArray := by
      apply Array.ext'
      rw [this]
      simp [rep99, nums]
    rw [h2]
theorem R_of_blk {W : World} {base g n : Nat} {xs : List Int} (hb : base ≤ g) (hn : n ≤ 9223372036854775807) (hl : xs.length = n) (h : W.heap[g]? = some (.cells (nums .i64 xs).toArray 3 (0, 0))) : Kd.R (Kd.int .i64) 3 W base (fun _ => True) (.slice (some ⟨g, 0, none⟩) n n) xs := by
  refine Kd.R_of_own ?_ (fun _ _ => trivial)
  refine ⟨by simp [encs], .inr ⟨g, n, (nums .i64 xs).toArray, by rw [hl], hb, h, by omega, hn, by simp [nums, hl], ?_⟩⟩
  rw [List.take_of_length_le (by simp [nums])]
  rfl
theorem copy99 (W : World) (g m z : Nat) (v : Int) (ad : Addr) (dLen dCap sLen sCap c : Nat) (h : W.heap[g]? = some (.cells (rep99 v m z).toArray 3 (0, 0))) (hc : c = Nat.min sLen dLen) (hz : c ≤ z) (hsrc : ∀ j, j < c → W.cell? (ad.add j) = some (.int .i64 v)) :
    ∃ W2, (Builtin.copy_ #[22, 22] 3 #[.slice (some ⟨g, m, none⟩) dLen dCap, .slice (some ad) sLen sCap]).run Try.prog W = .ok (.int .i64 (c : Int)) W2 ∧ W2.heap[g]? = some (.cells (rep99 v (m + c) (z - c)).toArray 3 (0, 0)) ∧ ∀ B w0, Below B w0 W → B ≤ g → Below B w0 W2 := by
  have hrun := run_copy_row (P := Try.prog) W 22 22 3 3 g m dLen dCap ad sLen sCap (rep99 v m z).toArray 3 (List.replicate c (.int .i64 v)) Try.underlying22 (by kernel_rfl) h (by rw [List.length_replicate]; exact hc)
    (fun j u hu => by
      obtain ⟨hj, rfl⟩ := List.getElem?_eq_some_iff.1 hu
      rw [List.getElem_replicate]
      exact hsrc j (by simpa using hj))
    (by rw [List.size_toArray, rep99_len, List.length_replicate]; omega) (fun u hu => by rw [List.eq_of_mem_replicate hu]; rfl)
  rw [List.length_replicate] at hrun
  refine ⟨_, hrun, ?_, fun B w0 hb hB => below_setRow hb hB _⟩
  rw [setRow_heap W g _ _ 3 _ h, ← rep99_splice v m z c hz]
  unfold splice
  rw [List.length_replicate, List.append_assoc]
set_option maxHeartbeats 4000000 in
set_option maxRecDepth 100000 in
theorem slices_Repeat_int_int.calls (k : Nat) (A0 : Option Addr) (c0 : Nat) (l0 : List Int) (a1 : Int) (r : List Int) (w : World) (hr0 : Kd.C (Kd.int .i64) w A0 l0.length l0) (hc0 : l0.length ≤ c0) (h : slices_Repeat_int_int.f k l0 a1 = some r) :
    Calls Try.prog 99 #[.slice A0 l0.length c0, .int .i64 a1] w fun e w' => ∃ v0_ : Value, e = .returned v0_ ∧ Kd.R (Kd.int .i64) 3 w' w.heap.size (fun _ => True) v0_ r ∧ Below w.heap.size w w' := by
  unfold slices_Repeat_int_int.f at h
  split at h
  case isFalse => cases h
  rename_i hG
  obtain ⟨h1, ha0, ha1⟩ := hG
  simp only [Option.some.injEq] at h
  subst h
  obtain ⟨n, rfl⟩ := Int.eq_ofNat_of_zero_le ha0
  obtain ⟨v, rfl⟩ : ∃ v, l0 = [v] := by
    cases l0 with
    | nil => simp at h1
    | cons v l => cases l with
      | nil => exact ⟨v, rfl⟩
      | cons _ _ => simp at h1
  have hMul := mul_one_u64 (n : Int) ha0 ha1
  have HM := Aside0.mk hMul
  have HR0 := Aside0.mk hr0
  have HC0 := Aside0.mk hc0
  obtain ⟨ad, eA, hx0⟩ := Kd.at_int hr0 (0 : Int) (by decide) (by simp)
  cases eA
  clear hr0 hc0 hMul h1
  have hneg : decide ((n : Int) < 0) = false := decide_eq_false (by omega)
  have hbig : decide ((9223372036854775807 : Int) < (n : Int)) = false := decide_eq_false (by omega)
  have hu1 : IntKind.u64.wrap 1 = 1 := by decide
  have hu2 : IntKind.u64.wrap (n : Int) = (n : Int) := u64_small _ ha0 (by omega)
  have hu3 : IntKind.i64.wrap (n : Int) = (n : Int) := by rw [i64_w]; unfold wrap64; omega
  have hmk := print_make (P := Try.prog) 22 3 .i64 8 Try.underlying22 info3 (by decide) n (by omega)
  go_enter Try.func99, Try.ntmps99
  go_wp2_with fail
  refine (bits_Mul.calls 1 (n : Int) 0 (n : Int) w HM.out).mono ?_
  rintro e W1 ⟨rfl, ⟨m1, rfl⟩⟩
  have hsz : (Try.prog.info? 3).map (fun i => i.size) = some 1 := by kernel_rfl
  have HSZ := Aside0.mk hsz
  have HNEW := Aside0.mk (made99 n (by omega) (w.drewN m1))
  have HBN := Aside0.mk (below_alloc (pw_below_drewN (Below.refl w.heap.size w) m1) (.cells (madeCells #[.int .i64 0] n) 3))
  have HX0 : Aside0 (∀ W, Below w.heap.size w W → W.cell? ad = some (.int .i64 v)) := ⟨fun W hb => pw_cell_below hb (by simpa [Addr.add, rd] using hx0)⟩
  have hdrew : (w.drewN m1).heap.size = w.heap.size := rfl
  rw [hdrew] at HNEW
  clear hdrew hsz hx0
  have hmin : Nat.min 1 n ≤ n := Nat.min_le_right _ _
  obtain ⟨W2, hcp, hh2, hb2⟩ := copy99 ((w.drewN m1).alloc (.cells (madeCells #[.int .i64 0] n) 3)) w.heap.size 0 n v ad n n 1 c0 (Nat.min 1 n) HNEW.out rfl hmin (fun j hj => by
    obtain rfl : j = 0 := by have : Nat.min 1 n ≤ 1 := Nat.min_le_left 1 n; omega
    simpa [Addr.add] using HX0.out _ HBN.out)
  have HB2 := Aside0.mk (hb2 w.heap.size w HBN.out (Nat.le_refl _))
  obtain ⟨m0, hm0⟩ : ∃ m0, m0 = Nat.min 1 n := ⟨_, rfl⟩
  rw [← hm0] at hcp hh2 hmin
  have hpos : 0 < n → 0 < m0 := fun h => by rw [hm0]; exact Nat.lt_min.2 ⟨Nat.one_pos, h⟩
  rw [Nat.zero_add] at hh2
  have HH2 := Aside0.mk hh2
  have HPOS := Aside0.mk hpos
  clear hh2 hb2 hm0 hpos
  go_wp2_with fail
  go_loopw [8] (fun v8 wr => ∃ m : Nat, v8 = .int .i64 (m : Int) ∧ m ≤ n ∧ Aside0 (0 < n → 0 < m) ∧ Aside0 (wr.heap[w.heap.size]? = some (.cells (rep99 v m (n - m)).toArray 3 (0, 0))) ∧ Aside0 (Below w.heap.size w wr)) (fun v8 _ => n - (intOf v8).toNat)
  case atStart => exact ⟨m0, rfl, hmin, HPOS, HH2, HB2⟩
  case round =>
    obtain ⟨m, rfl, hmn, HP, HH, HB⟩ := hrel
    by_cases hlt : m < n
    · have hcut : decide ((m : Int) < (n : Int)) = true := decide_eq_true (by omega)
      have hcn : decide (m < n) = true := decide_eq_true hlt
      have hmp : 0 < m := HP.out (by omega)
      have hs1 : ∀ W : World, (Instr.slice 22 (.slice (some ⟨w.heap.size, 0, none⟩) n n) (some (.int .i64 (m : Int))) none none).run Try.prog W = .ok (.slice (some ⟨w.heap.size, m, none⟩) (n - m) (n - m)) W := fun W => by
        obtain ⟨i0, hinfo, _, hsz, _⟩ := info_parts info3
        have hel : Try.prog.elem 22 = 3 := by simp [Program.elem, Try.underlying22]
        have hu : Try.prog.underlying 22 = some (.slice (Try.prog.elem 22)) := by rw [hel]; exact Try.underlying22
        rw [run_slice_l W 22 _ n n hu .i64 m (by omega) (by omega), hel]
        simp [sizeOf, typeInfo, hinfo, hsz, sliced, Result.andThen, show ¬ n = m by omega, add_plain]
      have hs2 : ∀ W : World, (Instr.slice 22 (.slice (some ⟨w.heap.size, 0, none⟩) n n) none (some (.int .i64 (m : Int))) none).run Try.prog W = .ok (.slice (some ⟨w.heap.size, 0, none⟩) m n) W := fun W => by
        obtain ⟨i0, hinfo, _, hsz, _⟩ := info_parts info3
        have hel : Try.prog.elem 22 = 3 := by simp [Program.elem, Try.underlying22]
        have hu : Try.prog.underlying 22 = some (.slice (Try.prog.elem 22)) := by rw [hel]; exact Try.underlying22
        rw [run_slice_h W 22 _ n n hu .i64 m (by omega) (by omega), hel]
        simp [sizeOf, typeInfo, hinfo, hsz, sliced, Result.andThen, add_plain]
      obtain ⟨W3, hcp3, hh3, hb3⟩ := copy99 wr.drew w.heap.size m (n - m) v ⟨w.heap.size, 0, none⟩ (n - m) (n - m) m n (Nat.min m (n - m)) HH.out rfl (Nat.min_le_right _ _) (fun j hj => by
        rw [add_plain]
        refine (blk_cell (w := wr.drew) HH.out j).trans ?_
        have : Nat.min m (n - m) ≤ m := Nat.min_le_left m (n - m)
        simpa using rep99_at v m (n - m) j (by omega))
      have HB3 := Aside0.mk (hb3 w.heap.size w (below_drew HB.out) (Nat.le_refl _))
      obtain ⟨c, hc⟩ : ∃ c, c = Nat.min m (n - m) := ⟨_, rfl⟩
      rw [← hc] at hcp3 hh3
      have hc1 : c ≤ n - m := by rw [hc]; exact Nat.min_le_right _ _
      have hc2 : 0 < c := by rw [hc]; exact Nat.lt_min.2 ⟨hmp, by omega⟩
      have HH3 := Aside0.mk hh3
      clear hb3 hh3 hc
      have hadd : IntKind.i64.wrap ((m : Int) + (c : Int)) = (m : Int) + (c : Int) := by rw [i64_w]; unfold wrap64; omega
      go_wp2_with fail
      go_region_held3 (fun _ => True) (trivial) (fail)
      clear hadd
      go_wp2_with fail
      go_roundw
      case rel => exact ⟨m + c, by simp, by omega, ⟨fun _ => by omega⟩, ⟨by have := HH3.out; rwa [Nat.sub_sub] at this⟩, HB3⟩
      case measure => simp [intOf]; omega
    · have hcut : decide ((m : Int) < (n : Int)) = false := decide_eq_false (by omega)
      have hcn : decide (m < n) = false := decide_eq_false hlt
      obtain rfl : m = n := by omega
      go_wp2_with fail
      go_ret
      have hR : rd [v] 0 = v := rfl
      rw [hR, Int.toNat_natCast]
      refine ⟨_, rfl, R_of_blk (Nat.le_refl _) (by omega) (by simp) ?_, HB.out⟩
      have := HH.out
      simpa [rep99, nums] using this
end Go.Proofs.Ytadafplbgophfaa.PA
end
section
namespace Go.Proofs.Ytadafplbgophfaa.PA
open Go.RowKit Go.Proofs.YtadafplbgophfaaW.PrintWords Go.Proofs.YtadafplbgophfaaW.PrintLast Go.Proofs.YtadafplbgophfaaW.PrintMore
section
variable {α : Type} {P : Program}
theorem C_lit (d : Kd α) (hsz : d.sz = 1) (W : World) (e : TypeId) (xs : List α) (vs : List Value) (hl : vs.length = xs.length) (hmax : xs.length ≤ 9223372036854775807)
    (hK : ∀ (j : Nat) (p : α) (u : Value), xs[j]? = some p → vs[j]? = some u → d.K W p [u]) : d.C (W.alloc (.cells vs.toArray e (0, 0))) (some ⟨W.heap.size, 0, none⟩) xs.length xs := by
  refine ⟨rfl, hmax, fun _ => ⟨_, rfl, fun j p hj => ?_⟩⟩
  have hjl : j < vs.length := by have := (List.getElem?_eq_some_iff.1 hj).1; omega
  have hu : vs[j]? = some vs[j] := List.getElem?_eq_getElem hjl
  refine ⟨[vs[j]], by rw [hsz]; rfl, d.K_below (below_alloc (Below.refl _ _) _) (hK j p _ hj hu), fun i u hi => ?_⟩
  obtain rfl : i = 0 := by
    have := (List.getElem?_eq_some_iff.1 hi).1
    simpa using this
  obtain rfl : vs[j] = u := by simpa using hi
  rw [hsz, Nat.mul_one, Nat.add_zero, add_plain]
  refine (blk_cell (blk_new W _) j).trans ?_
  simp [hu]
end
end Go.Proofs.Ytadafplbgophfaa.PA
end
section
namespace Go.Proofs.Ytadafplbgophfaa.PA
open Go.RowKit Go.Proofs.YtadafplbgophfaaW.PrintWords Go.Proofs.YtadafplbgophfaaW.PrintLast Go.Proofs.YtadafplbgophfaaW.PrintMore
attribute [local go_sem] max2_int min2_int max_two min_two max_three min_three max_four min_four   -- for this text's walks alone
set_option linter.unusedVariables false
set_option linter.unusedSimpArgs false
def tripartitelaw07_part.f (a0_0 : ByteArray) (a0_1 : ByteArray) (a0_2 : ByteArray) (a0_3 : Bool) (a0_4 : ByteArray) (a0_5 : ByteArray) (a0_6 : ByteArray) (a0_7 : ByteArray) (a0_8 : Bool) : Option (ByteArray × ByteArray × ByteArray × Bool × ByteArray × ByteArray × ByteArray × ByteArray × Bool) := some (a0_0, a0_1, a0_2, a0_3, a0_4, a0_5, a0_6, a0_7, a0_8)
set_option maxHeartbeats 8000000 in
set_option maxRecDepth 100000 in
theorem tripartitelaw07_part.calls (a0_0 : ByteArray) (a0_1 : ByteArray) (a0_2 : ByteArray) (a0_3 : Bool) (a0_4 : ByteArray) (a0_5 : ByteArray) (a0_6 : ByteArray) (a0_7 : ByteArray) (a0_8 : Bool) (r1 : ByteArray) (r2 : ByteArray) (r3 : ByteArray) (r4 : Bool) (r5 : ByteArray) (r6 : ByteArray) (r7 : ByteArray) (r8 : ByteArray) (r9 : Bool) (w : World) (h : tripartitelaw07_part.f a0_0 a0_1 a0_2 a0_3 a0_4 a0_5 a0_6 a0_7 a0_8 = some (r1, r2, r3, r4, r5, r6, r7, r8, r9)) :
  Calls Try.prog 98 #[.agg #[.string a0_0, .string a0_1, .string a0_2, .bool a0_3, .string a0_4, .string a0_5, .string a0_6, .string a0_7, .bool a0_8]] w fun e w' => e = .returned (.agg #[.string r1, .string r2, .string r3, .bool r4, .string r5, .string r6, .string r7, .string r8, .bool r9]) ∧ Below w.heap.size w w' := by
 have hu123 := Try.underlying123
 have hu120 := Try.underlying120
 have hu116 := Try.underlying116
 have HB := Aside0.mk (Below.refl w.heap.size w)
 have H : (some (a0_0, a0_1, a0_2, a0_3, a0_4, a0_5, a0_6, a0_7, a0_8)) = some (r1, r2, r3, r4, r5, r6, r7, r8, r9) := h
 clear h
 simp only [Option.some.injEq, Prod.mk.injEq] at H
 obtain ⟨rfl, rfl, rfl, rfl, rfl, rfl, rfl, rfl, rfl⟩ := H
 go_enter Try.func98, Try.ntmps98
 go_wp2_with (first | ((with_reducible refine gate_dst (N := 1) rfl ?_); refine box_event ?hg (N := 1) ?hd (cs := #[.string a0_0, .string a0_1, .string a0_2, .bool a0_3, .string a0_4, .string a0_5, .string a0_6, .string a0_7, .bool a0_8]) (t := 123) ?hr ?_; (case hd => rfl); (case hg => rfl); (case hr => first | (go_simp; done) | (go_simp; rfl)); intro gb101 hg w2 hbox hb; have n0_ := Aside0.mk (below_step (by repeat (first | (with_reducible first | exact HB.out | apply below_alloc | apply pw_below_drewN | apply below_drew1) | exact HB.out)) hb); have n1_ := Aside0.mk (hbox); have n2_ := Aside0.mk ((by rw [hg]; exact (below_size (by repeat (first | (with_reducible first | exact HB.out | apply below_alloc | apply pw_below_drewN | apply below_drew1) | exact HB.out))) : w.heap.size ≤ gb101)); have n3_ := Aside0.mk ((by rw [hg]; exact (below_size (by repeat (first | (with_reducible first | exact HB.out | apply below_alloc | apply pw_below_drewN | apply below_drew1) | exact HB.out))) : w.heap.size ≤ gb101)); clear HB; have HB := n0_; have BK101 := n1_; have GW101 := n2_; have GE101 := n3_; clear n0_ n1_ n2_ n3_; clear hb hbox hg) | ((with_reducible refine gate_dst (N := 2) rfl ?_); refine box_event ?hg (N := 2) ?hd (cs := #[.string (⟨#[]⟩ : ByteArray), .string (⟨#[]⟩ : ByteArray), .string (⟨#[]⟩ : ByteArray), .bool false, .string (⟨#[]⟩ : ByteArray), .string (⟨#[]⟩ : ByteArray), .string (⟨#[]⟩ : ByteArray), .string (⟨#[]⟩ : ByteArray), .bool false]) (t := 120) ?hr ?_; (case hd => rfl); (case hg => rfl); (case hr => first | (go_simp; done) | (go_simp; rfl)); intro gb102 hg w3 hbox hb; have n0_ := Aside0.mk (blk_below (g := gb101) (o := .cells #[.string a0_0, .string a0_1, .string a0_2, .bool a0_3, .string a0_4, .string a0_5, .string a0_6, .string a0_7, .bool a0_8] 123 (0, 0)) (by (with_reducible repeat (first | refine blk_drewN ?_ _ | refine blk_drew ?_ | refine blk_alloc ?_ _)); exact BK101.out) hb); have n1_ := Aside0.mk (below_step (by repeat (first | (with_reducible first | exact HB.out | apply below_alloc | apply pw_below_drewN | apply below_drew1 | refine below_set ?_ GE101.out) | exact HB.out)) hb); have n2_ := Aside0.mk (hbox); have n3_ := Aside0.mk ((by rw [hg]; exact (below_size (by repeat (first | (with_reducible first | exact HB.out | apply below_alloc | apply pw_below_drewN | apply below_drew1 | refine below_set ?_ GE101.out) | exact HB.out))) : w.heap.size ≤ gb102)); have n4_ := Aside0.mk ((by rw [hg]; exact (below_size (by repeat (first | (with_reducible first | exact HB.out | apply below_alloc | apply pw_below_drewN | apply below_drew1 | refine below_set ?_ GE101.out) | exact HB.out))) : w.heap.size ≤ gb102)); have n5_ := Aside0.mk ((by rw [hg]; exact Nat.ne_of_lt (blk_lt (g := gb101) (o := .cells #[.string a0_0, .string a0_1, .string a0_2, .bool a0_3, .string a0_4, .string a0_5, .string a0_6, .string a0_7, .bool a0_8] 123 (0, 0)) (by (with_reducible repeat (first | refine blk_drewN ?_ _ | refine blk_drew ?_ | refine blk_alloc ?_ _)); exact BK101.out)) : gb101 ≠ gb102)); have n6_ := Aside0.mk ((by rw [hg]; exact Nat.ne_of_gt (blk_lt (g := gb101) (o := .cells #[.string a0_0, .string a0_1, .string a0_2, .bool a0_3, .string a0_4, .string a0_5, .string a0_6, .string a0_7, .bool a0_8] 123 (0, 0)) (by (with_reducible repeat (first | refine blk_drewN ?_ _ | refine blk_drew ?_ | refine blk_alloc ?_ _)); exact BK101.out)) : gb102 ≠ gb101)); clear BK101; clear HB; have BK101 := n0_; have HB := n1_; have BK102 := n2_; have GW102 := n3_; have GE102 := n4_; have NB101_102 := n5_; have NB102_101 := n6_; clear n0_ n1_ n2_ n3_ n4_ n5_ n6_; clear hb hbox hg; have hnb4 := NB101_102.out; have hnc4 := NB102_101.out; have hcz5_0 : w3.cell? ⟨gb101, 0, none⟩ = some (.string a0_0) := (blk_cell BK101.out 0).trans rfl; have hcz5_1 : w3.cell? ⟨gb101, 1, none⟩ = some (.string a0_1) := (blk_cell BK101.out 1).trans rfl; have hcz5_2 : w3.cell? ⟨gb101, 2, none⟩ = some (.string a0_2) := (blk_cell BK101.out 2).trans rfl; have hcz5_3 : w3.cell? ⟨gb101, 3, none⟩ = some (.bool a0_3) := (blk_cell BK101.out 3).trans rfl; have hcz5_4 : w3.cell? ⟨gb101, 4, none⟩ = some (.string a0_4) := (blk_cell BK101.out 4).trans rfl; have hcz5_5 : w3.cell? ⟨gb101, 5, none⟩ = some (.string a0_5) := (blk_cell BK101.out 5).trans rfl; have hcz5_6 : w3.cell? ⟨gb101, 6, none⟩ = some (.string a0_6) := (blk_cell BK101.out 6).trans rfl; have hcz5_7 : w3.cell? ⟨gb101, 7, none⟩ = some (.string a0_7) := (blk_cell BK101.out 7).trans rfl; have hcz5_8 : w3.cell? ⟨gb101, 8, none⟩ = some (.bool a0_8) := (blk_cell BK101.out 8).trans rfl; have hfz5_0 := blk_frozen BK101.out 0; have hfz5_1 := blk_frozen BK101.out 1; have hfz5_2 := blk_frozen BK101.out 2; have hfz5_3 := blk_frozen BK101.out 3; have hfz5_4 := blk_frozen BK101.out 4; have hfz5_5 := blk_frozen BK101.out 5; have hfz5_6 := blk_frozen BK101.out 6; have hfz5_7 := blk_frozen BK101.out 7; have hfz5_8 := blk_frozen BK101.out 8; have hcz6_0 : w3.cell? ⟨gb102, 0, none⟩ = some (.string (⟨#[]⟩ : ByteArray)) := (blk_cell BK102.out 0).trans rfl; have hcz6_1 : w3.cell? ⟨gb102, 1, none⟩ = some (.string (⟨#[]⟩ : ByteArray)) := (blk_cell BK102.out 1).trans rfl; have hcz6_2 : w3.cell? ⟨gb102, 2, none⟩ = some (.string (⟨#[]⟩ : ByteArray)) := (blk_cell BK102.out 2).trans rfl; have hcz6_3 : w3.cell? ⟨gb102, 3, none⟩ = some (.bool false) := (blk_cell BK102.out 3).trans rfl; have hcz6_4 : w3.cell? ⟨gb102, 4, none⟩ = some (.string (⟨#[]⟩ : ByteArray)) := (blk_cell BK102.out 4).trans rfl; have hcz6_5 : w3.cell? ⟨gb102, 5, none⟩ = some (.string (⟨#[]⟩ : ByteArray)) := (blk_cell BK102.out 5).trans rfl; have hcz6_6 : w3.cell? ⟨gb102, 6, none⟩ = some (.string (⟨#[]⟩ : ByteArray)) := (blk_cell BK102.out 6).trans rfl; have hcz6_7 : w3.cell? ⟨gb102, 7, none⟩ = some (.string (⟨#[]⟩ : ByteArray)) := (blk_cell BK102.out 7).trans rfl; have hcz6_8 : w3.cell? ⟨gb102, 8, none⟩ = some (.bool false) := (blk_cell BK102.out 8).trans rfl; have hfz6_0 := blk_frozen BK102.out 0; have hfz6_1 := blk_frozen BK102.out 1; have hfz6_2 := blk_frozen BK102.out 2; have hfz6_3 := blk_frozen BK102.out 3; have hfz6_4 := blk_frozen BK102.out 4; have hfz6_5 := blk_frozen BK102.out 5; have hfz6_6 := blk_frozen BK102.out 6; have hfz6_7 := blk_frozen BK102.out 7; have hfz6_8 := blk_frozen BK102.out 8))
 refine bodyPost_ret (results_cell_row rfl _ _ gb102 120 #[.string a0_0, .string a0_1, .string a0_2, .bool a0_3, .string a0_4, .string a0_5, .string a0_6, .string a0_7, .bool a0_8] (0, 0) _ rfl (by (with_reducible repeat (first | refine blk_drewN ?_ _ | refine blk_drew ?_ | refine blk_alloc ?_ _)); refine blk_put (cs := #[.string a0_0, .string a0_1, .string a0_2, .bool a0_3, .string a0_4, .string a0_5, .string a0_6, .string a0_7, .bool false]) ?_ 8 _ rfl; (with_reducible repeat (first | refine blk_drewN ?_ _ | refine blk_drew ?_ | refine blk_alloc ?_ _)); refine blk_put (cs := #[.string a0_0, .string a0_1, .string a0_2, .bool a0_3, .string a0_4, .string a0_5, .string a0_6, .string (⟨#[]⟩ : ByteArray), .bool false]) ?_ 7 _ rfl; (with_reducible repeat (first | refine blk_drewN ?_ _ | refine blk_drew ?_ | refine blk_alloc ?_ _)); refine blk_put (cs := #[.string a0_0, .string a0_1, .string a0_2, .bool a0_3, .string a0_4, .string a0_5, .string (⟨#[]⟩ : ByteArray), .string (⟨#[]⟩ : ByteArray), .bool false]) ?_ 6 _ rfl; (with_reducible repeat (first | refine blk_drewN ?_ _ | refine blk_drew ?_ | refine blk_alloc ?_ _)); refine blk_put (cs := #[.string a0_0, .string a0_1, .string a0_2, .bool a0_3, .string a0_4, .string (⟨#[]⟩ : ByteArray), .string (⟨#[]⟩ : ByteArray), .string (⟨#[]⟩ : ByteArray), .bool false]) ?_ 5 _ rfl; (with_reducible repeat (first | refine blk_drewN ?_ _ | refine blk_drew ?_ | refine blk_alloc ?_ _)); refine blk_put (cs := #[.string a0_0, .string a0_1, .string a0_2, .bool a0_3, .string (⟨#[]⟩ : ByteArray), .string (⟨#[]⟩ : ByteArray), .string (⟨#[]⟩ : ByteArray), .string (⟨#[]⟩ : ByteArray), .bool false]) ?_ 4 _ rfl; (with_reducible repeat (first | refine blk_drewN ?_ _ | refine blk_drew ?_ | refine blk_alloc ?_ _)); refine blk_put (cs := #[.string a0_0, .string a0_1, .string a0_2, .bool false, .string (⟨#[]⟩ : ByteArray), .string (⟨#[]⟩ : ByteArray), .string (⟨#[]⟩ : ByteArray), .string (⟨#[]⟩ : ByteArray), .bool false]) ?_ 3 _ rfl; (with_reducible repeat (first | refine blk_drewN ?_ _ | refine blk_drew ?_ | refine blk_alloc ?_ _)); refine blk_put (cs := #[.string a0_0, .string a0_1, .string (⟨#[]⟩ : ByteArray), .bool false, .string (⟨#[]⟩ : ByteArray), .string (⟨#[]⟩ : ByteArray), .string (⟨#[]⟩ : ByteArray), .string (⟨#[]⟩ : ByteArray), .bool false]) ?_ 2 _ rfl; (with_reducible repeat (first | refine blk_drewN ?_ _ | refine blk_drew ?_ | refine blk_alloc ?_ _)); refine blk_put (cs := #[.string a0_0, .string (⟨#[]⟩ : ByteArray), .string (⟨#[]⟩ : ByteArray), .bool false, .string (⟨#[]⟩ : ByteArray), .string (⟨#[]⟩ : ByteArray), .string (⟨#[]⟩ : ByteArray), .string (⟨#[]⟩ : ByteArray), .bool false]) ?_ 1 _ rfl; (with_reducible repeat (first | refine blk_drewN ?_ _ | refine blk_drew ?_ | refine blk_alloc ?_ _)); refine blk_put (cs := #[.string (⟨#[]⟩ : ByteArray), .string (⟨#[]⟩ : ByteArray), .string (⟨#[]⟩ : ByteArray), .bool false, .string (⟨#[]⟩ : ByteArray), .string (⟨#[]⟩ : ByteArray), .string (⟨#[]⟩ : ByteArray), .string (⟨#[]⟩ : ByteArray), .bool false]) ?_ 0 _ rfl; (with_reducible repeat (first | refine blk_drewN ?_ _ | refine blk_drew ?_ | refine blk_alloc ?_ _)); exact BK102.out) Try.underlying120 rfl (by kernel_rfl)) rfl ?_
 exact ⟨by first | rfl | (simp [errW_none, errW_some] <;> rfl) | (simp [*, errW_none, errW_some] <;> rfl), by repeat (first | (with_reducible first | exact HB.out | apply below_alloc | apply pw_below_drewN | apply below_drew1 | refine below_set ?_ GE101.out | refine below_set ?_ GE102.out) | exact HB.out)⟩
end Go.Proofs.Ytadafplbgophfaa.PA
end
section
namespace Go.Proofs.Ytadafplbgophfaa.PA
open Go.RowKit Go.Proofs.YtadafplbgophfaaW.PrintWords Go.Proofs.YtadafplbgophfaaW.PrintLast Go.Proofs.YtadafplbgophfaaW.PrintMore
attribute [local go_sem] max2_int min2_int max_two min_two max_three min_three max_four min_four   -- for this text's walks alone
set_option linter.unusedVariables false
set_option linter.unusedSimpArgs false
def tripartitelaw07_To.l0 : Nat → List (S123) → List (S120) → Int → Option ((List (S120)))
 | 0, _, _, _ => none
 | k + 1, x0, x3, x4 => if x4 < (x0.length : Int) then (if 0 ≤ x4 then ((tripartitelaw07_part.f ((rd_T123 x0 x4).f0) ((rd_T123 x0 x4).f1) ((rd_T123 x0 x4).f2) ((rd_T123 x0 x4).f3) ((rd_T123 x0 x4).f4) ((rd_T123 x0 x4).f5) ((rd_T123 x0 x4).f6) ((rd_T123 x0 x4).f7) ((rd_T123 x0 x4).f8)).bind fun bt102 => (if x3.length < 1099511627776 then (tripartitelaw07_To.l0 k x0 (x3 ++ [(⟨(⟨bt102.1, bt102.2.1, bt102.2.2.1⟩ : S116), bt102.2.2.2.1, bt102.2.2.2.2.1, bt102.2.2.2.2.2.1, bt102.2.2.2.2.2.2.1, bt102.2.2.2.2.2.2.2.1, bt102.2.2.2.2.2.2.2.2⟩ : S120)]) (wrap64 (x4 + 1))) else (none))) else (none)) else (some x3)
def tripartitelaw07_To.f (k : Nat) (l0 : List (S123)) : Option ((List (S120))) := tripartitelaw07_To.l0 k l0 ([] : List (S120)) 0
set_option maxHeartbeats 8000000 in
set_option maxRecDepth 100000 in
theorem tripartitelaw07_To.calls (k : Nat) (A0 : Option Addr) (c0 : Nat) (l0 : List (S123)) (r : List (S120)) (w : World) (hr0 : Kd.C k123 w A0 l0.length l0) (hc0 : l0.length ≤ c0) (h : tripartitelaw07_To.f k l0 = some r) :
  Calls Try.prog 61 #[.slice A0 l0.length c0] w fun e w' => ∃ v0_ : Value, e = .returned (v0_) ∧ Kd.R k120 120 w' w.heap.size (fun _ => True) v0_ r ∧ Below w.heap.size w w' := by
 have hu123 := Try.underlying123
 have HR0 := Aside0.mk hr0
 have HC0 := Aside0.mk hc0
 clear hr0 hc0
 have HB := Aside0.mk (Below.refl w.heap.size w)
 have H : (tripartitelaw07_To.l0 k l0 ([] : List (S120)) 0) = some r := h
 clear h
 have H' := Aside0.mk H
 clear H
 go_enter Try.func61, Try.ntmps61
 go_wp2
 go_loopg [3, 4] k (fun kq v3 v4 w' => ∃ (x3_1 : List (S120)) (x4_1 : Int), v4 = .int .i64 x4_1 ∧ Aside0 (tripartitelaw07_To.l0 kq l0 x3_1 x4_1 = some r) ∧ Aside0 (kq ≤ k) ∧ Aside0 (Kd.R k120 120 w' w.heap.size (fun _ => True) v3 x3_1) ∧ Aside0 (Below w.heap.size w w'))
 case atStart => exact ⟨(([] : List (S120))), (0), (by first | rfl | (simp; done) | (simp [*]; done)), H', ⟨Nat.le_refl _⟩, ⟨by first | exact Kd.R_nil _ _ _ _ _ | exact Kd.N_nil _ _ _ _ _ | exact Kd.V_nil _ _ _ _ _ | exact Kd.Q_nil _ _ _ _ _ | exact Kd.S_nil _ _ _ _ _⟩, ⟨by repeat (first | (with_reducible first | exact HB.out | apply below_alloc | apply pw_below_drewN | apply below_drew1) | exact HB.out)⟩⟩
 case round =>
  clear H'
  obtain ⟨x3_1, x4_1, rfl, HA, HK1, HO_3, HB⟩ := hrel
  cases gk with
  | zero => exact absurd HA.out (by simp [tripartitelaw07_To.l0])
  | succ k1 =>
   have H := HA.out
   clear HA
   simp only [tripartitelaw07_To.l0] at H
   by_cases c2 : x4_1 < (l0.length : Int)
   ·rw [if_pos c2] at H
    have c2b0 : decide (x4_1 < (l0.length : Int)) = true := decide_eq_true c2
    clear c2
    by_cases c3 : 0 ≤ x4_1
    ·rw [if_pos c3] at H
     have c3b0 : decide (0 ≤ x4_1) = true := decide_eq_true c3
     clear c3
     replace H := Option.bind_eq_some_iff.mp H
     obtain ⟨⟨t102, t103, t104, t105, t106, t107, t108, t109, t110⟩, A40, H⟩ := H
     replace H : (if x3_1.length < 1099511627776 then (tripartitelaw07_To.l0 k1 l0 (x3_1 ++ [(⟨(⟨t102, t103, t104⟩ : S116), t105, t106, t107, t108, t109, t110⟩ : S120)]) (wrap64 (x4_1 + 1))) else (none)) = some r := H
     have A4 := Aside0.mk A40
     clear A40
     by_cases c5 : x3_1.length < 1099511627776
     ·rw [if_pos c5] at H
      have LMc5 := Aside0.mk c5
      clear c5
      obtain ⟨y111, hy111⟩ : ∃ y_ : List (S120), y_ = (x3_1 ++ [(⟨(⟨t102, t103, t104⟩ : S116), t105, t106, t107, t108, t109, t110⟩ : S120)]) := ⟨_, rfl⟩
      replace H : (tripartitelaw07_To.l0 k1 l0 y111 (wrap64 (x4_1 + 1))) = some r := by first | (rw [hy111]; with_reducible exact H) | (have H2_ := (Option.bind_some _ _).symm.trans H; rw [hy111]; with_reducible exact H2_) | (have H2_ := (Option.bind_some _ _).symm.trans H; with_reducible exact H2_) | with_reducible exact H | (rw [hy111]; exact H) | exact H
      have Ny111 := Aside0.mk hy111
      clear hy111
      have H' := Aside0.mk H
      clear H
      have p101 : 0 ≤ (x4_1 : Int) := of_decide_eq_true (by first | (with_reducible assumption) | assumption)
      have q101 : x4_1 < (l0.length : Int) := of_decide_eq_true (by first | (with_reducible assumption) | assumption)
      obtain ⟨ad101, e101, hx101_0, hx101_1, hx101_2, hx101_3, hx101_4, hx101_5, hx101_6, hx101_7, hx101_8⟩ := at_T123 HR0.out x4_1 p101 q101
      cases e101
      replace hx101_0 := (HB.out.cell (World.block_lt_of_cell? w _ hx101_0)).trans hx101_0
      replace hx101_1 := (HB.out.cell (World.block_lt_of_cell? w _ hx101_1)).trans hx101_1
      replace hx101_2 := (HB.out.cell (World.block_lt_of_cell? w _ hx101_2)).trans hx101_2
      replace hx101_3 := (HB.out.cell (World.block_lt_of_cell? w _ hx101_3)).trans hx101_3
      replace hx101_4 := (HB.out.cell (World.block_lt_of_cell? w _ hx101_4)).trans hx101_4
      replace hx101_5 := (HB.out.cell (World.block_lt_of_cell? w _ hx101_5)).trans hx101_5
      replace hx101_6 := (HB.out.cell (World.block_lt_of_cell? w _ hx101_6)).trans hx101_6
      replace hx101_7 := (HB.out.cell (World.block_lt_of_cell? w _ hx101_7)).trans hx101_7
      replace hx101_8 := (HB.out.cell (World.block_lt_of_cell? w _ hx101_8)).trans hx101_8
      replace p101 := eq_true p101
      replace q101 := eq_true q101
      go_wp2_with (first | ((with_reducible refine gate_callee (f := 98) rfl ?_); refine goesL_ (some 16) rfl rfl Try.func98 (by kernel_rfl) rfl #[.agg #[.string ((rd_T123 l0 x4_1).f0), .string ((rd_T123 l0 x4_1).f1), .string ((rd_T123 l0 x4_1).f2), .bool ((rd_T123 l0 x4_1).f3), .string ((rd_T123 l0 x4_1).f4), .string ((rd_T123 l0 x4_1).f5), .string ((rd_T123 l0 x4_1).f6), .string ((rd_T123 l0 x4_1).f7), .bool ((rd_T123 l0 x4_1).f8)]] rfl (by (try simp only [List.map_toArray, List.map_cons, List.map_nil]); first | done | rfl | (simp only [List.length_drop, List.length_take]; rfl)) ?_; (with_reducible refine (tripartitelaw07_part.calls ((rd_T123 l0 x4_1).f0) ((rd_T123 l0 x4_1).f1) ((rd_T123 l0 x4_1).f2) ((rd_T123 l0 x4_1).f3) ((rd_T123 l0 x4_1).f4) ((rd_T123 l0 x4_1).f5) ((rd_T123 l0 x4_1).f6) ((rd_T123 l0 x4_1).f7) ((rd_T123 l0 x4_1).f8) t102 t103 t104 t105 t106 t107 t108 t109 t110 _ A4.out).mono ?_); rintro e w6 ⟨rfl, hb⟩; refine ⟨_, rfl, ?_⟩; have n0_ := Aside0.mk (Kd.R_below (by (with_reducible repeat (first | apply Kd.R_alloc | apply Kd.R_drewN | apply Kd.R_drew)); exact HO_3.out) hb); have n1_ := Aside0.mk (below_step (by repeat (first | (with_reducible first | exact HB.out | apply below_alloc | apply pw_below_drewN | apply below_drew1) | exact HB.out)) hb); clear HO_3; clear HB; have HO_3 := n0_; have HB := n1_; clear n0_ n1_; (try clear hb); (try clear hb2); (try clear hk); (try clear hi)) | ((with_reducible refine gate_builtin (b := .append) (xs := #[.tmp 11, .tmp 17]) rfl ?_); at_builtin; refine Kd.R_append k120 (w0 := w) w.heap.size rfl (.tmp 11) (.tmp 17) 89 120 (.agg #[(.string ⟨#[]⟩), (.string ⟨#[]⟩), (.string ⟨#[]⟩), (.bool false), (.string ⟨#[]⟩), (.string ⟨#[]⟩), (.string ⟨#[]⟩), (.string ⟨#[]⟩), (.bool false)]) 128 rfl Try.underlying89 info120 rfl (by decide) (by omega) u3 x3_1 (⟨(⟨t102, t103, t104⟩ : S116), t105, t106, t107, t108, t109, t110⟩ : S120) [.string t102, .string t103, .string t104, .bool t105, .string t106, .string t107, .string t108, .string t109, .bool t110] (fun _ => True) (fun _ => False) rfl rfl ?aP (fun _ hk => hk.elim) ?aF ?aO ?aB ?aS ?aL ?_; (case aP => exact k120_mkM _ _ _ (⟨(⟨t102, t103, t104⟩ : S116), t105, t106, t107, t108, t109, t110⟩ : S120)); (case aB => exact (by repeat (first | (with_reducible first | exact HB.out | apply below_alloc | apply pw_below_drewN | apply below_drew1) | exact HB.out))); (case aF => exact (fun _ _ => trivial)); (case aO => exact (by (with_reducible repeat (first | apply Kd.R_alloc | apply Kd.R_drewN | apply Kd.R_drew)); exact HO_3.out)); (case aS => exact (below_size (by repeat (first | (with_reducible first | exact HB.out | apply below_alloc | apply pw_below_drewN | apply below_drew1) | exact HB.out)))); (case aL => have := LMc5.out; omega); intro v112 w7 ho hb hg hat; rw [← Ny111.out] at ho; have n0_ := Aside0.mk (hb); have n1_ := Aside0.mk (ho); clear HB; clear HO_3; have HB := n0_; have HO113 := n1_; clear n0_ n1_; clear ho hb hg hat))
      go_roundg k1
      case measure => have := HK1.out; omega
      case rel => exact ⟨(y111), (wrap64 (x4_1 + 1)), (by first | rfl | (simp; done) | (simp [*]; done)), H', ⟨by have := HK1.out; omega⟩, ⟨by (with_reducible repeat (first | apply Kd.R_alloc | apply Kd.R_drewN | apply Kd.R_drew)); exact HO113.out⟩, ⟨by repeat (first | (with_reducible first | exact HB.out | apply below_alloc | apply pw_below_drewN | apply below_drew1) | exact HB.out)⟩⟩
     ·rw [if_neg c5] at H
      exact absurd H (by simp)
    ·rw [if_neg c3] at H
     exact absurd H (by simp)
   ·rw [if_neg c2] at H
    have c2b0 : decide (x4_1 < (l0.length : Int)) = false := decide_eq_false c2
    clear c2
    obtain rfl := Option.some.inj H
    go_wp2
    go_ret
    exact ⟨_, by first | rfl | (simp [errW_none, errW_some] <;> rfl) | (simp [*, errW_none, errW_some] <;> rfl), by (with_reducible repeat (first | apply Kd.R_alloc | apply Kd.R_drewN | apply Kd.R_drew)); exact HO_3.out, by repeat (first | (with_reducible first | exact HB.out | apply below_alloc | apply pw_below_drewN | apply below_drew1) | exact HB.out)⟩
end Go.Proofs.Ytadafplbgophfaa.PA
end
section
namespace Go.Proofs.Ytadafplbgophfaa.PA
open Go.RowKit Go.Proofs.YtadafplbgophfaaW.PrintWords Go.Proofs.YtadafplbgophfaaW.PrintLast Go.Proofs.YtadafplbgophfaaW.PrintMore
attribute [local go_sem] max2_int min2_int max_two min_two max_three min_three max_four min_four   -- for this text's walks alone
set_option linter.unusedVariables false
set_option linter.unusedSimpArgs false
def tripartiteref07_Conflicts.l0 : Nat → List (S123) → Int → Int → Option (Int)
 | 0, _, _, _ => none
 | k + 1, x0, x3, x4 => if x4 < (x0.length : Int) then (if 0 ≤ x4 then (if (rd_T123 x0 x4).f3 = true then (tripartiteref07_Conflicts.l0 k x0 (wrap64 (x3 + 1)) (wrap64 (x4 + 1))) else (tripartiteref07_Conflicts.l0 k x0 x3 (wrap64 (x4 + 1)))) else (none)) else (some x3)
def tripartiteref07_Conflicts.f (k : Nat) (l0 : List (S123)) : Option (Int) := tripartiteref07_Conflicts.l0 k l0 0 0
set_option maxHeartbeats 8000000 in
set_option maxRecDepth 100000 in
theorem tripartiteref07_Conflicts.calls (k : Nat) (A0 : Option Addr) (c0 : Nat) (l0 : List (S123)) (r : Int) (w : World) (hr0 : Kd.C k123 w A0 l0.length l0) (hc0 : l0.length ≤ c0) (h : tripartiteref07_Conflicts.f k l0 = some r) :
  Calls Try.prog 102 #[.slice A0 l0.length c0] w fun e w' => e = .returned (.int .i64 r) ∧ Drawn0 w w' := by
 have HR0 := Aside0.mk hr0
 have HC0 := Aside0.mk hc0
 clear hr0 hc0
 have H : (tripartiteref07_Conflicts.l0 k l0 0 0) = some r := h
 clear h
 have H' := Aside0.mk H
 clear H
 go_enter Try.func102, Try.ntmps102
 go_wp2
 go_loopg [3, 4] k (fun kq v3 v4 w' => ∃ (x3_1 : Int) (x4_1 : Int), v3 = .int .i64 x3_1 ∧ v4 = .int .i64 x4_1 ∧ Aside0 (tripartiteref07_Conflicts.l0 kq l0 x3_1 x4_1 = some r) ∧ Aside0 (kq ≤ k) ∧ Drawn0 w w')
 case atStart => exact ⟨(0), (0), (by first | rfl | (simp; done) | (simp [*]; done)), (by first | rfl | (simp; done) | (simp [*]; done)), H', ⟨Nat.le_refl _⟩, by repeat (first | exact Drawn0.refl _ | apply Drawn0.step)⟩
 case round =>
  clear H'
  try clear c1
  obtain ⟨x3_1, x4_1, rfl, rfl, HA, HK1, ⟨m1, rfl⟩⟩ := hrel
  cases gk with
  | zero => exact absurd HA.out (by simp [tripartiteref07_Conflicts.l0])
  | succ k1 =>
   have H := HA.out
   clear HA
   simp only [tripartiteref07_Conflicts.l0] at H
   by_cases c2 : x4_1 < (l0.length : Int)
   ·rw [if_pos c2] at H
    have c2b0 : decide (x4_1 < (l0.length : Int)) = true := decide_eq_true c2
    clear c2
    by_cases c3 : 0 ≤ x4_1
    ·rw [if_pos c3] at H
     have c3b0 : decide (0 ≤ x4_1) = true := decide_eq_true c3
     clear c3
     obtain ⟨bq4, hbq4⟩ : ∃ b_ : Bool, b_ = ((rd_T123 l0 x4_1).f3) := ⟨_, rfl⟩
     replace H : (if bq4 = true then (tripartiteref07_Conflicts.l0 k1 l0 (wrap64 (x3_1 + 1)) (wrap64 (x4_1 + 1))) else (tripartiteref07_Conflicts.l0 k1 l0 x3_1 (wrap64 (x4_1 + 1)))) = some r := by rw [← hbq4] at H; exact H
     have Nbq4 := Aside0.mk hbq4
     clear hbq4
     by_cases c5 : bq4 = true
     ·subst c5
      have H1 : (tripartiteref07_Conflicts.l0 k1 l0 (wrap64 (x3_1 + 1)) (wrap64 (x4_1 + 1))) = some r := by rw [if_pos rfl] at H; exact H
      clear H
      have H := H1
      clear H1
      have H' := Aside0.mk H
      clear H
      have p101 : 0 ≤ (x4_1 : Int) := of_decide_eq_true (by first | (with_reducible assumption) | assumption)
      have q101 : x4_1 < (l0.length : Int) := of_decide_eq_true (by first | (with_reducible assumption) | assumption)
      obtain ⟨ad101, e101, hx101_0, hx101_1, hx101_2, hx101_3, hx101_4, hx101_5, hx101_6, hx101_7, hx101_8⟩ := at_T123 HR0.out x4_1 p101 q101
      (try rw [← Nbq4.out] at hx101_3)
      (try rw [← Nbq4.out] at hx101_8)
      cases e101
      replace p101 := eq_true p101
      replace q101 := eq_true q101
      go_wp2
      go_roundg k1
      case measure => have := HK1.out; omega
      case rel => exact ⟨(wrap64 (x3_1 + 1)), (wrap64 (x4_1 + 1)), (by first | rfl | (simp; done) | (simp [*]; done)), (by first | rfl | (simp; done) | (simp [*]; done)), H', ⟨by have := HK1.out; omega⟩, by repeat (first | exact Drawn0.refl _ | apply Drawn0.step)⟩
     ·replace c5 := Bool.eq_false_iff.mpr c5
      subst c5
      have H1 : (tripartiteref07_Conflicts.l0 k1 l0 x3_1 (wrap64 (x4_1 + 1))) = some r := by rw [if_neg (show ¬ (false = true) by decide)] at H; exact H
      clear H
      have H := H1
      clear H1
      have H' := Aside0.mk H
      clear H
      have p101 : 0 ≤ (x4_1 : Int) := of_decide_eq_true (by first | (with_reducible assumption) | assumption)
      have q101 : x4_1 < (l0.length : Int) := of_decide_eq_true (by first | (with_reducible assumption) | assumption)
      obtain ⟨ad101, e101, hx101_0, hx101_1, hx101_2, hx101_3, hx101_4, hx101_5, hx101_6, hx101_7, hx101_8⟩ := at_T123 HR0.out x4_1 p101 q101
      (try rw [← Nbq4.out] at hx101_3)
      (try rw [← Nbq4.out] at hx101_8)
      cases e101
      replace p101 := eq_true p101
      replace q101 := eq_true q101
      go_wp2
      go_roundg k1
      case measure => have := HK1.out; omega
      case rel => exact ⟨(x3_1), (wrap64 (x4_1 + 1)), (by first | rfl | (simp; done) | (simp [*]; done)), (by first | rfl | (simp; done) | (simp [*]; done)), H', ⟨by have := HK1.out; omega⟩, by repeat (first | exact Drawn0.refl _ | apply Drawn0.step)⟩
    ·rw [if_neg c3] at H
     exact absurd H (by simp)
   ·rw [if_neg c2] at H
    have c2b0 : decide (x4_1 < (l0.length : Int)) = false := decide_eq_false c2
    clear c2
    obtain rfl := Option.some.inj H
    go_wp2
    go_ret
    exact ⟨by first | rfl | (simp; done) | (simp [*]; done), by repeat (first | exact Drawn0.refl _ | apply Drawn0.step)⟩
end Go.Proofs.Ytadafplbgophfaa.PA
end
section
namespace Go.Proofs.Ytadafplbgophfaa.PA
open Go.RowKit Go.Proofs.YtadafplbgophfaaW.PrintWords Go.Proofs.YtadafplbgophfaaW.PrintLast Go.Proofs.YtadafplbgophfaaW.PrintMore
attribute [local go_sem] max2_int min2_int max_two min_two max_three min_three max_four min_four   -- for this text's walks alone
set_option linter.unusedVariables false
set_option linter.unusedSimpArgs false
def tripartiteref11_pick.j0 : Nat → Int → Bool → ByteArray → ByteArray → ByteArray → Bool → ByteArray → ByteArray → ByteArray → ByteArray → Bool → Option (ByteArray × Int)
 | 0, _, _, _, _, _, _, _, _, _, _, _ => none
 | k + 1, x1, x11, x102000, x102001, x102002, x102003, x102004, x102005, x102006, x102007, x102008 => if x11 = true then (some ((⟨#[]⟩ : ByteArray), 5)) else (if x1 = 2 then (if x102008 = true then ((some (([(⟨#[]⟩ : ByteArray), x102005, x102006, x102007] : List ByteArray) : List ByteArray)).bind fun y102 => (if 0 ≤ x1 then (if x1 < (y102.length : Int) then (some (rdOf ByteArray.empty y102 x1, 0)) else (none)) else (none))) else (some ((⟨#[]⟩ : ByteArray), 1))) else ((some (([(⟨#[]⟩ : ByteArray), x102005, x102006, x102007] : List ByteArray) : List ByteArray)).bind fun y106 => (if 0 ≤ x1 then (if x1 < (y106.length : Int) then (some (rdOf ByteArray.empty y106 x1, 0)) else (none)) else (none))))
def tripartiteref11_pick.f (k : Nat) (a0_0 : ByteArray) (a0_1 : ByteArray) (a0_2 : ByteArray) (a0_3 : Bool) (a0_4 : ByteArray) (a0_5 : ByteArray) (a0_6 : ByteArray) (a0_7 : ByteArray) (a0_8 : Bool) (a1 : Int) : Option (ByteArray × Int) := if a1 < 1 then (tripartiteref11_pick.j0 k a1 true a0_0 a0_1 a0_2 a0_3 a0_4 a0_5 a0_6 a0_7 a0_8) else (tripartiteref11_pick.j0 k a1 (decide (a1 > 3)) a0_0 a0_1 a0_2 a0_3 a0_4 a0_5 a0_6 a0_7 a0_8)
set_option maxHeartbeats 8000000 in
set_option maxRecDepth 100000 in
theorem tripartiteref11_pick.calls (k : Nat) (a0_0 : ByteArray) (a0_1 : ByteArray) (a0_2 : ByteArray) (a0_3 : Bool) (a0_4 : ByteArray) (a0_5 : ByteArray) (a0_6 : ByteArray) (a0_7 : ByteArray) (a0_8 : Bool) (a1 : Int) (r1 : ByteArray) (r2 : Int) (w : World) (h : tripartiteref11_pick.f k a0_0 a0_1 a0_2 a0_3 a0_4 a0_5 a0_6 a0_7 a0_8 a1 = some (r1, r2)) :
  Calls Try.prog 106 #[.agg #[.string a0_0, .string a0_1, .string a0_2, .bool a0_3, .string a0_4, .string a0_5, .string a0_6, .string a0_7, .bool a0_8], .int .i64 a1] w fun e w' => e = .returned (.tuple #[.string r1, .int .i64 r2]) ∧ Below w.heap.size w w' := by
 have hu123 := Try.underlying123
 have HB := Aside0.mk (Below.refl w.heap.size w)
 have H : (if a1 < 1 then (tripartiteref11_pick.j0 k a1 true a0_0 a0_1 a0_2 a0_3 a0_4 a0_5 a0_6 a0_7 a0_8) else (tripartiteref11_pick.j0 k a1 (decide (a1 > 3)) a0_0 a0_1 a0_2 a0_3 a0_4 a0_5 a0_6 a0_7 a0_8)) = some (r1, r2) := h
 clear h
 have HC3 := Aside0.mk H
 clear H
 go_enter Try.func106, Try.ntmps106
 go_upto_region 1 with (first | ((with_reducible refine gate_dst (N := 2) rfl ?_); refine box_event ?hg (N := 2) ?hd (cs := #[.string a0_0, .string a0_1, .string a0_2, .bool a0_3, .string a0_4, .string a0_5, .string a0_6, .string a0_7, .bool a0_8]) (t := 123) ?hr ?_; (case hd => rfl); (case hg => rfl); (case hr => first | (go_simp; done) | (go_simp; rfl)); intro gb101 hg w4 hbox hb; have n0_ := Aside0.mk (below_step (by repeat (first | (with_reducible first | exact HB.out | apply below_alloc | apply pw_below_drewN | apply below_drew1) | exact HB.out)) hb); have n1_ := Aside0.mk (hbox); have n2_ := Aside0.mk ((by rw [hg]; exact (below_size (by repeat (first | (with_reducible first | exact HB.out | apply below_alloc | apply pw_below_drewN | apply below_drew1) | exact HB.out))) : w.heap.size ≤ gb101)); have n3_ := Aside0.mk ((by rw [hg]; exact (below_size (by repeat (first | (with_reducible first | exact HB.out | apply below_alloc | apply pw_below_drewN | apply below_drew1) | exact HB.out))) : w.heap.size ≤ gb101)); clear HB; have HB := n0_; have BK101 := n1_; have GW101 := n2_; have GE101 := n3_; clear n0_ n1_ n2_ n3_; clear hb hbox hg))
 (try simp only [Act.put, List.setIfInBounds_toArray, List.set_cons_zero, List.set_cons_succ])
 go_cut [11] (fun v11 wc => ∃ (kq : Nat) (x11_2 : Bool), v11 = .bool x11_2 ∧ Aside0 (tripartiteref11_pick.j0 kq a1 x11_2 a0_0 a0_1 a0_2 a0_3 a0_4 a0_5 a0_6 a0_7 a0_8 = some (r1, r2)) ∧ Aside0 (kq ≤ k) ∧ Aside0 (wc.heap[gb101]? = some (.cells #[.string a0_0, .string a0_1, .string a0_2, .bool a0_3, .string a0_4, .string a0_5, .string a0_6, .string a0_7, .bool a0_8] 123 (0, 0))) ∧ Aside0 (Below w.heap.size w wc))
 case first =>
  have H := HC3.out
  clear HC3
  by_cases c5 : a1 < 1
  ·rw [if_pos c5] at H
   have c5b0 : decide (a1 < 1) = true := decide_eq_true c5
   clear c5
   (first | rw [c5b0] | (simp only [i64_w, i32_w]; rw [c5b0]) | skip)
   have H' := Aside0.mk H
   clear H
   go_wp2
   go_meet
   case rel => exact ⟨_, (true), (by first | rfl | (simp; done) | (simp [*]; done)), H', ⟨by first | omega | exact Nat.le_refl _⟩, ⟨by (with_reducible repeat (first | refine blk_drewN ?_ _ | refine blk_drew ?_ | refine blk_alloc ?_ _)); exact BK101.out⟩, ⟨by repeat (first | (with_reducible first | exact HB.out | apply below_alloc | apply pw_below_drewN | apply below_drew1 | refine below_set ?_ GE101.out) | exact HB.out)⟩⟩
  ·rw [if_neg c5] at H
   have c5b0 : decide (a1 < 1) = false := decide_eq_false c5
   clear c5
   (first | rw [c5b0] | (simp only [i64_w, i32_w]; rw [c5b0]) | skip)
   have H' := Aside0.mk H
   clear H
   go_wp2
   go_meet
   case rel => exact ⟨_, (decide (a1 > 3)), (by first | rfl | (simp; done) | (simp [*]; done)), H', ⟨by first | omega | exact Nat.le_refl _⟩, ⟨by (with_reducible repeat (first | refine blk_drewN ?_ _ | refine blk_drew ?_ | refine blk_alloc ?_ _)); exact BK101.out⟩, ⟨by repeat (first | (with_reducible first | exact HB.out | apply below_alloc | apply pw_below_drewN | apply below_drew1 | refine below_set ?_ GE101.out) | exact HB.out)⟩⟩
 case rest =>
  clear HC3
  try clear c1
  try clear p2
  try clear c5
  try clear c5b0
  obtain ⟨kq, x11_2, rfl, HA, HJ2, BK101, HB⟩ := hcut
  cases kq with
  | zero => exact absurd HA.out (by simp [tripartiteref11_pick.j0])
  | succ kj2 =>
   have H := HA.out
   clear HA
   simp only [tripartiteref11_pick.j0] at H
   by_cases c6 : x11_2 = true
   ·subst c6
    have H1 : (some ((⟨#[]⟩ : ByteArray), 5)) = some (r1, r2) := by rw [if_pos rfl] at H; exact H
    clear H
    have H := H1
    clear H1
    simp only [Option.some.injEq, Prod.mk.injEq] at H
    obtain ⟨rfl, rfl⟩ := H
    go_wp2
    go_ret2
    exact ⟨by first | rfl | (simp [errW_none, errW_some] <;> rfl) | (simp [*, errW_none, errW_some] <;> rfl), by repeat (first | (with_reducible first | exact HB.out | apply below_alloc | apply pw_below_drewN | apply below_drew1 | refine below_set ?_ GE101.out) | exact HB.out)⟩
   ·replace c6 := Bool.eq_false_iff.mpr c6
    subst c6
    have H1 : (if a1 = 2 then (if a0_8 = true then ((some (([(⟨#[]⟩ : ByteArray), a0_5, a0_6, a0_7] : List ByteArray) : List ByteArray)).bind fun y102 => (if 0 ≤ a1 then (if a1 < (y102.length : Int) then (some (rdOf ByteArray.empty y102 a1, 0)) else (none)) else (none))) else (some ((⟨#[]⟩ : ByteArray), 1))) else ((some (([(⟨#[]⟩ : ByteArray), a0_5, a0_6, a0_7] : List ByteArray) : List ByteArray)).bind fun y106 => (if 0 ≤ a1 then (if a1 < (y106.length : Int) then (some (rdOf ByteArray.empty y106 a1, 0)) else (none)) else (none)))) = some (r1, r2) := by rw [if_neg (show ¬ (false = true) by decide)] at H; exact H
    clear H
    have H := H1
    clear H1
    by_cases c7 : a1 = 2
    ·rw [if_pos c7] at H
     have c7b0 : (a1 == 2) = true := beq_iff_eq.mpr c7
     have c7b1 : (a1 != 2) = false := bne_eq_false_iff_eq.mpr c7
     clear c7
     by_cases c8 : a0_8 = true
     ·subst c8
      have H1 : ((some (([(⟨#[]⟩ : ByteArray), a0_5, a0_6, a0_7] : List ByteArray) : List ByteArray)).bind fun y102 => (if 0 ≤ a1 then (if a1 < (y102.length : Int) then (some (rdOf ByteArray.empty y102 a1, 0)) else (none)) else (none))) = some (r1, r2) := by rw [if_pos rfl] at H; exact H
      clear H
      have H := H1
      clear H1
      obtain ⟨y102, hy102⟩ : ∃ y_ : List ByteArray, y_ = (([(⟨#[]⟩ : ByteArray), a0_5, a0_6, a0_7] : List ByteArray)) := ⟨_, rfl⟩
      replace H : (if 0 ≤ a1 then (if a1 < (y102.length : Int) then (some (rdOf ByteArray.empty y102 a1, 0)) else (none)) else (none)) = some (r1, r2) := by first | (rw [hy102]; with_reducible exact H) | (have H2_ := (Option.bind_some _ _).symm.trans H; rw [hy102]; with_reducible exact H2_) | (have H2_ := (Option.bind_some _ _).symm.trans H; with_reducible exact H2_) | with_reducible exact H | (rw [hy102]; exact H) | exact H
      have Ny102 := Aside0.mk hy102
      clear hy102
      by_cases c9 : 0 ≤ a1
      ·rw [if_pos c9] at H
       have c9b0 : decide (0 ≤ a1) = true := decide_eq_true c9
       clear c9
       by_cases c10 : a1 < (y102.length : Int)
       ·rw [if_pos c10] at H
        have c10b0 : decide (a1 < (y102.length : Int)) = true := decide_eq_true c10
        clear c10
        simp only [Option.some.injEq, Prod.mk.injEq] at H
        obtain ⟨rfl, rfl⟩ := H
        have hcz11_0 : wc.cell? ⟨gb101, 0, none⟩ = some (.string a0_0) := (blk_cell BK101.out 0).trans rfl
        have hcz11_1 : wc.cell? ⟨gb101, 1, none⟩ = some (.string a0_1) := (blk_cell BK101.out 1).trans rfl
        have hcz11_2 : wc.cell? ⟨gb101, 2, none⟩ = some (.string a0_2) := (blk_cell BK101.out 2).trans rfl
        have hcz11_3 : wc.cell? ⟨gb101, 3, none⟩ = some (.bool a0_3) := (blk_cell BK101.out 3).trans rfl
        have hcz11_4 : wc.cell? ⟨gb101, 4, none⟩ = some (.string a0_4) := (blk_cell BK101.out 4).trans rfl
        have hcz11_5 : wc.cell? ⟨gb101, 5, none⟩ = some (.string a0_5) := (blk_cell BK101.out 5).trans rfl
        have hcz11_6 : wc.cell? ⟨gb101, 6, none⟩ = some (.string a0_6) := (blk_cell BK101.out 6).trans rfl
        have hcz11_7 : wc.cell? ⟨gb101, 7, none⟩ = some (.string a0_7) := (blk_cell BK101.out 7).trans rfl
        have hcz11_8 : wc.cell? ⟨gb101, 8, none⟩ = some (.bool true) := (blk_cell BK101.out 8).trans rfl
        have hfz11_0 := blk_frozen BK101.out 0
        have hfz11_1 := blk_frozen BK101.out 1
        have hfz11_2 := blk_frozen BK101.out 2
        have hfz11_3 := blk_frozen BK101.out 3
        have hfz11_4 := blk_frozen BK101.out 4
        have hfz11_5 := blk_frozen BK101.out 5
        have hfz11_6 := blk_frozen BK101.out 6
        have hfz11_7 := blk_frozen BK101.out 7
        have hfz11_8 := blk_frozen BK101.out 8
        go_wp2_with (first | ((with_reducible refine gate_dst (N := 25) rfl ?_); refine Kd.R_lit Kd.string _ 9 ?hg (N := 25) ?hd (xs := ([(⟨#[]⟩ : ByteArray), a0_5, a0_6, a0_7] : List ByteArray)) (inner := [.string (⟨#[]⟩ : ByteArray), .string a0_5, .string a0_6, .string a0_7]) (ok := fun _ => True) (okp := fun _ => True) ?hr ?hp (fun _ hk => hk) trivial (Below.refl _ _) (Nat.le_refl _) (by simp) ?_; (case hd => rfl); (case hg => rfl); (case hr => first | (go_simp; done) | (go_simp; rfl)); (case hp => exact (Reps.one (show Kd.M Kd.string _ _ _ (⟨#[]⟩ : ByteArray) [.string (⟨#[]⟩ : ByteArray)] from rfl) (Reps.one (show Kd.M Kd.string _ _ _ a0_5 [.string a0_5] from rfl) (Reps.one (show Kd.M Kd.string _ _ _ a0_6 [.string a0_6] from rfl) (Reps.one (show Kd.M Kd.string _ _ _ a0_7 [.string a0_7] from rfl) (Reps.none _ _)))))); intro v103 w12 ho13 hb hg_ hnew_; clear hg_ hnew_; (first | rw [← Ny102.out] at ho13 | (simp only [Int.reduceToNat] at ho13; rw [← Ny102.out] at ho13)); have n0_ := Aside0.mk (Kd.R_lower ho13 (below_size (by repeat (first | (with_reducible first | exact HB.out | apply below_alloc | apply pw_below_drewN | apply below_drew1 | refine below_set ?_ GE101.out) | exact HB.out)))); have n1_ := Aside0.mk (blk_below (g := gb101) (o := .cells #[.string a0_0, .string a0_1, .string a0_2, .bool a0_3, .string a0_4, .string a0_5, .string a0_6, .string a0_7, .bool true] 123 (0, 0)) (by (with_reducible repeat (first | refine blk_drewN ?_ _ | refine blk_drew ?_ | refine blk_alloc ?_ _)); exact BK101.out) hb); have n2_ := Aside0.mk (below_step (by repeat (first | (with_reducible first | exact HB.out | apply below_alloc | apply pw_below_drewN | apply below_drew1 | refine below_set ?_ GE101.out) | exact HB.out)) hb); clear BK101; clear HB; have HO104 := n0_; have BK101 := n1_; have HB := n2_; clear n0_ n1_ n2_; clear hb ho13; obtain ⟨Ao14, co14, eo14⟩ := Kd.R_slice HO104.out; subst eo14; have p105 : 0 ≤ (a1 : Int) := of_decide_eq_true (by first | (with_reducible assumption) | assumption); have q105 : a1 < (y102.length : Int) := of_decide_eq_true (by first | (with_reducible assumption) | assumption); obtain ⟨ad105, e105, hx105_0⟩ := Kd.at_string (Kd.R_reads' HO104.out).2.2 a1 p105 q105; cases e105; replace p105 := eq_true p105; replace q105 := eq_true q105))
        go_ret2
        exact ⟨by first | rfl | (simp [errW_none, errW_some] <;> rfl) | (simp [*, errW_none, errW_some] <;> rfl), by repeat (first | (with_reducible first | exact HB.out | apply below_alloc | apply pw_below_drewN | apply below_drew1 | refine below_set ?_ GE101.out) | exact HB.out)⟩
       ·rw [if_neg c10] at H
        exact absurd H (by simp)
      ·rw [if_neg c9] at H
       exact absurd H (by simp)
     ·replace c8 := Bool.eq_false_iff.mpr c8
      subst c8
      have H1 : (some ((⟨#[]⟩ : ByteArray), 1)) = some (r1, r2) := by rw [if_neg (show ¬ (false = true) by decide)] at H; exact H
      clear H
      have H := H1
      clear H1
      simp only [Option.some.injEq, Prod.mk.injEq] at H
      obtain ⟨rfl, rfl⟩ := H
      have hcz15_0 : wc.cell? ⟨gb101, 0, none⟩ = some (.string a0_0) := (blk_cell BK101.out 0).trans rfl
      have hcz15_1 : wc.cell? ⟨gb101, 1, none⟩ = some (.string a0_1) := (blk_cell BK101.out 1).trans rfl
      have hcz15_2 : wc.cell? ⟨gb101, 2, none⟩ = some (.string a0_2) := (blk_cell BK101.out 2).trans rfl
      have hcz15_3 : wc.cell? ⟨gb101, 3, none⟩ = some (.bool a0_3) := (blk_cell BK101.out 3).trans rfl
      have hcz15_4 : wc.cell? ⟨gb101, 4, none⟩ = some (.string a0_4) := (blk_cell BK101.out 4).trans rfl
      have hcz15_5 : wc.cell? ⟨gb101, 5, none⟩ = some (.string a0_5) := (blk_cell BK101.out 5).trans rfl
      have hcz15_6 : wc.cell? ⟨gb101, 6, none⟩ = some (.string a0_6) := (blk_cell BK101.out 6).trans rfl
      have hcz15_7 : wc.cell? ⟨gb101, 7, none⟩ = some (.string a0_7) := (blk_cell BK101.out 7).trans rfl
      have hcz15_8 : wc.cell? ⟨gb101, 8, none⟩ = some (.bool false) := (blk_cell BK101.out 8).trans rfl
      have hfz15_0 := blk_frozen BK101.out 0
      have hfz15_1 := blk_frozen BK101.out 1
      have hfz15_2 := blk_frozen BK101.out 2
      have hfz15_3 := blk_frozen BK101.out 3
      have hfz15_4 := blk_frozen BK101.out 4
      have hfz15_5 := blk_frozen BK101.out 5
      have hfz15_6 := blk_frozen BK101.out 6
      have hfz15_7 := blk_frozen BK101.out 7
      have hfz15_8 := blk_frozen BK101.out 8
      go_wp2
      go_ret2
      exact ⟨by first | rfl | (simp [errW_none, errW_some] <;> rfl) | (simp [*, errW_none, errW_some] <;> rfl), by repeat (first | (with_reducible first | exact HB.out | apply below_alloc | apply pw_below_drewN | apply below_drew1 | refine below_set ?_ GE101.out) | exact HB.out)⟩
    ·rw [if_neg c7] at H
     have c7b0 : (a1 == 2) = false := beq_eq_false_iff_ne.mpr c7
     have c7b1 : (a1 != 2) = true := bne_iff_ne.mpr c7
     obtain ⟨y106, hy106⟩ : ∃ y_ : List ByteArray, y_ = (([(⟨#[]⟩ : ByteArray), a0_5, a0_6, a0_7] : List ByteArray)) := ⟨_, rfl⟩
     replace H : (if 0 ≤ a1 then (if a1 < (y106.length : Int) then (some (rdOf ByteArray.empty y106 a1, 0)) else (none)) else (none)) = some (r1, r2) := by first | (rw [hy106]; with_reducible exact H) | (have H2_ := (Option.bind_some _ _).symm.trans H; rw [hy106]; with_reducible exact H2_) | (have H2_ := (Option.bind_some _ _).symm.trans H; with_reducible exact H2_) | with_reducible exact H | (rw [hy106]; exact H) | exact H
     have Ny106 := Aside0.mk hy106
     clear hy106
     by_cases c16 : 0 ≤ a1
     ·rw [if_pos c16] at H
      have c16b0 : decide (0 ≤ a1) = true := decide_eq_true c16
      clear c16
      by_cases c17 : a1 < (y106.length : Int)
      ·rw [if_pos c17] at H
       have c17b0 : decide (a1 < (y106.length : Int)) = true := decide_eq_true c17
       clear c17
       simp only [Option.some.injEq, Prod.mk.injEq] at H
       obtain ⟨rfl, rfl⟩ := H
       have hcz18_0 : wc.cell? ⟨gb101, 0, none⟩ = some (.string a0_0) := (blk_cell BK101.out 0).trans rfl
       have hcz18_1 : wc.cell? ⟨gb101, 1, none⟩ = some (.string a0_1) := (blk_cell BK101.out 1).trans rfl
       have hcz18_2 : wc.cell? ⟨gb101, 2, none⟩ = some (.string a0_2) := (blk_cell BK101.out 2).trans rfl
       have hcz18_3 : wc.cell? ⟨gb101, 3, none⟩ = some (.bool a0_3) := (blk_cell BK101.out 3).trans rfl
       have hcz18_4 : wc.cell? ⟨gb101, 4, none⟩ = some (.string a0_4) := (blk_cell BK101.out 4).trans rfl
       have hcz18_5 : wc.cell? ⟨gb101, 5, none⟩ = some (.string a0_5) := (blk_cell BK101.out 5).trans rfl
       have hcz18_6 : wc.cell? ⟨gb101, 6, none⟩ = some (.string a0_6) := (blk_cell BK101.out 6).trans rfl
       have hcz18_7 : wc.cell? ⟨gb101, 7, none⟩ = some (.string a0_7) := (blk_cell BK101.out 7).trans rfl
       have hcz18_8 : wc.cell? ⟨gb101, 8, none⟩ = some (.bool a0_8) := (blk_cell BK101.out 8).trans rfl
       have hfz18_0 := blk_frozen BK101.out 0
       have hfz18_1 := blk_frozen BK101.out 1
       have hfz18_2 := blk_frozen BK101.out 2
       have hfz18_3 := blk_frozen BK101.out 3
       have hfz18_4 := blk_frozen BK101.out 4
       have hfz18_5 := blk_frozen BK101.out 5
       have hfz18_6 := blk_frozen BK101.out 6
       have hfz18_7 := blk_frozen BK101.out 7
       have hfz18_8 := blk_frozen BK101.out 8
       go_wp2_with (first | ((with_reducible refine gate_dst (N := 25) rfl ?_); refine Kd.R_lit Kd.string _ 9 ?hg (N := 25) ?hd (xs := ([(⟨#[]⟩ : ByteArray), a0_5, a0_6, a0_7] : List ByteArray)) (inner := [.string (⟨#[]⟩ : ByteArray), .string a0_5, .string a0_6, .string a0_7]) (ok := fun _ => True) (okp := fun _ => True) ?hr ?hp (fun _ hk => hk) trivial (Below.refl _ _) (Nat.le_refl _) (by simp) ?_; (case hd => rfl); (case hg => rfl); (case hr => first | (go_simp; done) | (go_simp; rfl)); (case hp => exact (Reps.one (show Kd.M Kd.string _ _ _ (⟨#[]⟩ : ByteArray) [.string (⟨#[]⟩ : ByteArray)] from rfl) (Reps.one (show Kd.M Kd.string _ _ _ a0_5 [.string a0_5] from rfl) (Reps.one (show Kd.M Kd.string _ _ _ a0_6 [.string a0_6] from rfl) (Reps.one (show Kd.M Kd.string _ _ _ a0_7 [.string a0_7] from rfl) (Reps.none _ _)))))); intro v107 w19 ho20 hb hg_ hnew_; clear hg_ hnew_; (first | rw [← Ny106.out] at ho20 | (simp only [Int.reduceToNat] at ho20; rw [← Ny106.out] at ho20)); have n0_ := Aside0.mk (Kd.R_lower ho20 (below_size (by repeat (first | (with_reducible first | exact HB.out | apply below_alloc | apply pw_below_drewN | apply below_drew1 | refine below_set ?_ GE101.out) | exact HB.out)))); have n1_ := Aside0.mk (blk_below (g := gb101) (o := .cells #[.string a0_0, .string a0_1, .string a0_2, .bool a0_3, .string a0_4, .string a0_5, .string a0_6, .string a0_7, .bool a0_8] 123 (0, 0)) (by (with_reducible repeat (first | refine blk_drewN ?_ _ | refine blk_drew ?_ | refine blk_alloc ?_ _)); exact BK101.out) hb); have n2_ := Aside0.mk (below_step (by repeat (first | (with_reducible first | exact HB.out | apply below_alloc | apply pw_below_drewN | apply below_drew1 | refine below_set ?_ GE101.out) | exact HB.out)) hb); clear BK101; clear HB; have HO108 := n0_; have BK101 := n1_; have HB := n2_; clear n0_ n1_ n2_; clear hb ho20; obtain ⟨Ao21, co21, eo21⟩ := Kd.R_slice HO108.out; subst eo21; have p109 : 0 ≤ (a1 : Int) := of_decide_eq_true (by first | (with_reducible assumption) | assumption); have q109 : a1 < (y106.length : Int) := of_decide_eq_true (by first | (with_reducible assumption) | assumption); obtain ⟨ad109, e109, hx109_0⟩ := Kd.at_string (Kd.R_reads' HO108.out).2.2 a1 p109 q109; cases e109; replace p109 := eq_true p109; replace q109 := eq_true q109))
       go_ret2
       exact ⟨by first | rfl | (simp [errW_none, errW_some] <;> rfl) | (simp [*, errW_none, errW_some] <;> rfl), by repeat (first | (with_reducible first | exact HB.out | apply below_alloc | apply pw_below_drewN | apply below_drew1 | refine below_set ?_ GE101.out) | exact HB.out)⟩
      ·rw [if_neg c17] at H
       exact absurd H (by simp)
     ·rw [if_neg c16] at H
      exact absurd H (by simp)
end Go.Proofs.Ytadafplbgophfaa.PA
end
section
namespace Go.Proofs.Ytadafplbgophfaa.PA
open Go.RowKit Go.Proofs.YtadafplbgophfaaW.PrintWords Go.Proofs.YtadafplbgophfaaW.PrintLast Go.Proofs.YtadafplbgophfaaW.PrintMore
attribute [local go_sem] max2_int min2_int max_two min_two max_three min_three max_four min_four   -- for this text's walks alone
set_option linter.unusedVariables false
set_option linter.unusedSimpArgs false
end Go.Proofs.Ytadafplbgophfaa.PA
end
section
namespace Go.Proofs.Ytadafplbgophfaa.PA
open Go.RowKit Go.Proofs.YtadafplbgophfaaW.PrintWords Go.Proofs.YtadafplbgophfaaW.PrintLast Go.Proofs.YtadafplbgophfaaW.PrintMore
attribute [local go_sem] max2_int min2_int max_two min_two max_three min_three max_four min_four   -- for this text's walks alone
set_option linter.unusedVariables false
set_option linter.unusedSimpArgs false
end Go.Proofs.Ytadafplbgophfaa.PA
end
section
namespace Go.Proofs.Ytadafplbgophfaa.PA
open Go.RowKit Go.Proofs.YtadafplbgophfaaW.PrintWords Go.Proofs.YtadafplbgophfaaW.PrintLast Go.Proofs.YtadafplbgophfaaW.PrintMore
attribute [local go_sem] max2_int min2_int max_two min_two max_three min_three max_four min_four   -- for this text's walks alone
set_option linter.unusedVariables false
set_option linter.unusedSimpArgs false
end Go.Proofs.Ytadafplbgophfaa.PA
end
section
namespace Go.Proofs.Ytadafplbgophfaa.PA
open Go.RowKit Go.Proofs.YtadafplbgophfaaW.PrintWords Go.Proofs.YtadafplbgophfaaW.PrintLast Go.Proofs.YtadafplbgophfaaW.PrintMore
attribute [local go_sem] max2_int min2_int max_two min_two max_three min_three max_four min_four   -- for this text's walks alone
set_option linter.unusedVariables false
set_option linter.unusedSimpArgs false
attribute [local go_sem high] eqA123
def tripartiteref07_Same.l0 : Nat → List (S123) → List (S123) → Int → Option (Bool)
 | 0, _, _, _ => none
 | k + 1, x0, x1, x5 => if x5 < (x0.length : Int) then (if 0 ≤ x5 then (if x5 < (x1.length : Int) then (if (!((((rd_T123 x0 x5).f0).toList) == (((rd_T123 x1 x5).f0).toList)) || (!((((rd_T123 x0 x5).f1).toList) == (((rd_T123 x1 x5).f1).toList)) || (!((((rd_T123 x0 x5).f2).toList) == (((rd_T123 x1 x5).f2).toList)) || (!(((rd_T123 x0 x5).f3) == ((rd_T123 x1 x5).f3)) || (!((((rd_T123 x0 x5).f4).toList) == (((rd_T123 x1 x5).f4).toList)) || (!((((rd_T123 x0 x5).f5).toList) == (((rd_T123 x1 x5).f5).toList)) || (!((((rd_T123 x0 x5).f6).toList) == (((rd_T123 x1 x5).f6).toList)) || (!((((rd_T123 x0 x5).f7).toList) == (((rd_T123 x1 x5).f7).toList)) || (!(((rd_T123 x0 x5).f8) == ((rd_T123 x1 x5).f8))))))))))) = true then (some false) else (tripartiteref07_Same.l0 k x0 x1 (wrap64 (x5 + 1)))) else (none)) else (none)) else (some true)
def tripartiteref07_Same.f (k : Nat) (l0 : List (S123)) (l1 : List (S123)) : Option (Bool) := if (l0.length : Int) = (l1.length : Int) then (tripartiteref07_Same.l0 k l0 l1 0) else (some false)
set_option maxHeartbeats 8000000 in
set_option maxRecDepth 100000 in
theorem tripartiteref07_Same.calls (k : Nat) (A0 : Option Addr) (c0 : Nat) (l0 : List (S123)) (A1 : Option Addr) (c1 : Nat) (l1 : List (S123)) (r : Bool) (w : World) (hr0 : Kd.C k123 w A0 l0.length l0) (hc0 : l0.length ≤ c0) (hr1 : Kd.C k123 w A1 l1.length l1) (hc1 : l1.length ≤ c1) (h : tripartiteref07_Same.f k l0 l1 = some r) :
  Calls Try.prog 66 #[.slice A0 l0.length c0, .slice A1 l1.length c1] w fun e w' => e = .returned (.bool r) ∧ Drawn0 w w' := by
 have hu123 := Try.underlying123
 have HR0 := Aside0.mk hr0
 have HC0 := Aside0.mk hc0
 clear hr0 hc0
 have HR1 := Aside0.mk hr1
 have HC1 := Aside0.mk hc1
 clear hr1 hc1
 have H : (if (l0.length : Int) = (l1.length : Int) then (tripartiteref07_Same.l0 k l0 l1 0) else (some false)) = some r := h
 clear h
 by_cases c3 : (l0.length : Int) = (l1.length : Int)
 ·rw [if_pos c3] at H
  have c3b0 : ((l0.length : Int) == (l1.length : Int)) = true := beq_iff_eq.mpr c3
  have c3b1 : ((l0.length : Int) != (l1.length : Int)) = false := bne_eq_false_iff_eq.mpr c3
  have c3b2 : (l0.length == l1.length) = true := by first | simpa using c3 | (simp at c3 ⊢; omega)
  clear c3
  have H' := Aside0.mk H
  clear H
  go_enter Try.func66, Try.ntmps66
  go_wp2
  repeat (go_quiet (fail); try go_wp2)
  go_loopg [5] k (fun kq v5 w' => ∃ (x5_1 : Int), v5 = .int .i64 x5_1 ∧ Aside0 (tripartiteref07_Same.l0 kq l0 l1 x5_1 = some r) ∧ Aside0 (kq ≤ k) ∧ Drawn0 w w')
  case atStart => exact ⟨(0), (by first | rfl | (simp; done) | (simp [*]; done)), H', ⟨Nat.le_refl _⟩, by repeat (first | exact Drawn0.refl _ | apply Drawn0.step)⟩
  case round =>
   clear H'
   try clear c1
   try clear p2
   try clear c3
   try clear c3b0
   try clear c3b1
   try clear c3b2
   obtain ⟨x5_1, rfl, HA, HK1, ⟨m1, rfl⟩⟩ := hrel
   cases gk with
   | zero => exact absurd HA.out (by simp [tripartiteref07_Same.l0])
   | succ k1 =>
    have H := HA.out
    clear HA
    simp only [tripartiteref07_Same.l0] at H
    by_cases c4 : x5_1 < (l0.length : Int)
    ·rw [if_pos c4] at H
     have c4b0 : decide (x5_1 < (l0.length : Int)) = true := decide_eq_true c4
     clear c4
     by_cases c5 : 0 ≤ x5_1
     ·rw [if_pos c5] at H
      have c5b0 : decide (0 ≤ x5_1) = true := decide_eq_true c5
      clear c5
      by_cases c6 : x5_1 < (l1.length : Int)
      ·rw [if_pos c6] at H
       have c6b0 : decide (x5_1 < (l1.length : Int)) = true := decide_eq_true c6
       clear c6
       by_cases c7 : (!((((rd_T123 l0 x5_1).f0).toList) == (((rd_T123 l1 x5_1).f0).toList)) || (!((((rd_T123 l0 x5_1).f1).toList) == (((rd_T123 l1 x5_1).f1).toList)) || (!((((rd_T123 l0 x5_1).f2).toList) == (((rd_T123 l1 x5_1).f2).toList)) || (!(((rd_T123 l0 x5_1).f3) == ((rd_T123 l1 x5_1).f3)) || (!((((rd_T123 l0 x5_1).f4).toList) == (((rd_T123 l1 x5_1).f4).toList)) || (!((((rd_T123 l0 x5_1).f5).toList) == (((rd_T123 l1 x5_1).f5).toList)) || (!((((rd_T123 l0 x5_1).f6).toList) == (((rd_T123 l1 x5_1).f6).toList)) || (!((((rd_T123 l0 x5_1).f7).toList) == (((rd_T123 l1 x5_1).f7).toList)) || (!(((rd_T123 l0 x5_1).f8) == ((rd_T123 l1 x5_1).f8))))))))))) = true
       ·rw [if_pos c7] at H
        have c7b0 : (!((((rd_T123 l0 x5_1).f0).toList) == (((rd_T123 l1 x5_1).f0).toList)) || (!((((rd_T123 l0 x5_1).f1).toList) == (((rd_T123 l1 x5_1).f1).toList)) || (!((((rd_T123 l0 x5_1).f2).toList) == (((rd_T123 l1 x5_1).f2).toList)) || (!(((rd_T123 l0 x5_1).f3) == ((rd_T123 l1 x5_1).f3)) || (!((((rd_T123 l0 x5_1).f4).toList) == (((rd_T123 l1 x5_1).f4).toList)) || (!((((rd_T123 l0 x5_1).f5).toList) == (((rd_T123 l1 x5_1).f5).toList)) || (!((((rd_T123 l0 x5_1).f6).toList) == (((rd_T123 l1 x5_1).f6).toList)) || (!((((rd_T123 l0 x5_1).f7).toList) == (((rd_T123 l1 x5_1).f7).toList)) || (!(((rd_T123 l0 x5_1).f8) == ((rd_T123 l1 x5_1).f8))))))))))) = true := c7
        clear c7
        obtain rfl := Option.some.inj H
        have p101 : 0 ≤ (x5_1 : Int) := of_decide_eq_true (by first | (with_reducible assumption) | assumption)
        have q101 : x5_1 < (l0.length : Int) := of_decide_eq_true (by first | (with_reducible assumption) | assumption)
        obtain ⟨ad101, e101, hx101_0, hx101_1, hx101_2, hx101_3, hx101_4, hx101_5, hx101_6, hx101_7, hx101_8⟩ := at_T123 HR0.out x5_1 p101 q101
        cases e101
        replace p101 := eq_true p101
        replace q101 := eq_true q101
        have p102 : 0 ≤ (x5_1 : Int) := of_decide_eq_true (by first | (with_reducible assumption) | assumption)
        have q102 : x5_1 < (l1.length : Int) := of_decide_eq_true (by first | (with_reducible assumption) | assumption)
        obtain ⟨ad102, e102, hx102_0, hx102_1, hx102_2, hx102_3, hx102_4, hx102_5, hx102_6, hx102_7, hx102_8⟩ := at_T123 HR1.out x5_1 p102 q102
        cases e102
        replace p102 := eq_true p102
        replace q102 := eq_true q102
        go_wp2
        repeat (go_quiet (fail); try go_wp2)
        go_ret
        exact ⟨by first | rfl | (simp; done) | (simp [*]; done), by repeat (first | exact Drawn0.refl _ | apply Drawn0.step)⟩
       ·rw [if_neg c7] at H
        have c7b0 : (!((((rd_T123 l0 x5_1).f0).toList) == (((rd_T123 l1 x5_1).f0).toList)) || (!((((rd_T123 l0 x5_1).f1).toList) == (((rd_T123 l1 x5_1).f1).toList)) || (!((((rd_T123 l0 x5_1).f2).toList) == (((rd_T123 l1 x5_1).f2).toList)) || (!(((rd_T123 l0 x5_1).f3) == ((rd_T123 l1 x5_1).f3)) || (!((((rd_T123 l0 x5_1).f4).toList) == (((rd_T123 l1 x5_1).f4).toList)) || (!((((rd_T123 l0 x5_1).f5).toList) == (((rd_T123 l1 x5_1).f5).toList)) || (!((((rd_T123 l0 x5_1).f6).toList) == (((rd_T123 l1 x5_1).f6).toList)) || (!((((rd_T123 l0 x5_1).f7).toList) == (((rd_T123 l1 x5_1).f7).toList)) || (!(((rd_T123 l0 x5_1).f8) == ((rd_T123 l1 x5_1).f8))))))))))) = false := by simpa using c7
        clear c7
        have H' := Aside0.mk H
        clear H
        have p101 : 0 ≤ (x5_1 : Int) := of_decide_eq_true (by first | (with_reducible assumption) | assumption)
        have q101 : x5_1 < (l0.length : Int) := of_decide_eq_true (by first | (with_reducible assumption) | assumption)
        obtain ⟨ad101, e101, hx101_0, hx101_1, hx101_2, hx101_3, hx101_4, hx101_5, hx101_6, hx101_7, hx101_8⟩ := at_T123 HR0.out x5_1 p101 q101
        cases e101
        replace p101 := eq_true p101
        replace q101 := eq_true q101
        have p102 : 0 ≤ (x5_1 : Int) := of_decide_eq_true (by first | (with_reducible assumption) | assumption)
        have q102 : x5_1 < (l1.length : Int) := of_decide_eq_true (by first | (with_reducible assumption) | assumption)
        obtain ⟨ad102, e102, hx102_0, hx102_1, hx102_2, hx102_3, hx102_4, hx102_5, hx102_6, hx102_7, hx102_8⟩ := at_T123 HR1.out x5_1 p102 q102
        cases e102
        replace p102 := eq_true p102
        replace q102 := eq_true q102
        go_wp2
        repeat (go_quiet (fail); try go_wp2)
        go_roundg k1
        case measure => have := HK1.out; omega
        case rel => exact ⟨(wrap64 (x5_1 + 1)), (by first | rfl | (simp; done) | (simp [*]; done)), H', ⟨by have := HK1.out; omega⟩, by repeat (first | exact Drawn0.refl _ | apply Drawn0.step)⟩
      ·rw [if_neg c6] at H
       exact absurd H (by simp)
     ·rw [if_neg c5] at H
      exact absurd H (by simp)
    ·rw [if_neg c4] at H
     have c4b0 : decide (x5_1 < (l0.length : Int)) = false := decide_eq_false c4
     clear c4
     obtain rfl := Option.some.inj H
     go_wp2
     repeat (go_quiet (fail); try go_wp2)
     go_ret
     exact ⟨by first | rfl | (simp; done) | (simp [*]; done), by repeat (first | exact Drawn0.refl _ | apply Drawn0.step)⟩
 ·rw [if_neg c3] at H
  have c3b0 : ((l0.length : Int) == (l1.length : Int)) = false := beq_eq_false_iff_ne.mpr c3
  have c3b1 : ((l0.length : Int) != (l1.length : Int)) = true := bne_iff_ne.mpr c3
  have c3b2 : (l0.length == l1.length) = false := by first | simpa using c3 | (simp at c3 ⊢; omega)
  obtain rfl := Option.some.inj H
  go_enter Try.func66, Try.ntmps66
  go_wp2
  repeat (go_quiet (fail); try go_wp2)
  go_ret
  exact ⟨by first | rfl | (simp; done) | (simp [*]; done), by repeat (first | exact Drawn0.refl _ | apply Drawn0.step)⟩
end Go.Proofs.Ytadafplbgophfaa.PA
end
section
namespace Go.Proofs.Ytadafplbgophfaa.PA
open Go.RowKit Go.Proofs.YtadafplbgophfaaW.PrintWords Go.Proofs.YtadafplbgophfaaW.PrintLast Go.Proofs.YtadafplbgophfaaW.PrintMore
attribute [local go_sem] max2_int min2_int max_two min_two max_three min_three max_four min_four   -- for this text's walks alone
set_option linter.unusedVariables false
set_option linter.unusedSimpArgs false
def tripartitelaw07_one.f (a0_0 : ByteArray) (a0_1 : ByteArray) (a0_2 : ByteArray) (a0_3 : Bool) (a0_4 : ByteArray) (a0_5 : ByteArray) (a0_6 : ByteArray) (a0_7 : ByteArray) (a0_8 : Bool) : Option (ByteArray × ByteArray × ByteArray × Bool × ByteArray × ByteArray × ByteArray × ByteArray × Bool) := some (a0_0, a0_1, a0_2, a0_3, a0_4, a0_5, a0_6, a0_7, a0_8)
set_option maxHeartbeats 8000000 in
set_option maxRecDepth 100000 in
theorem tripartitelaw07_one.calls (a0_0 : ByteArray) (a0_1 : ByteArray) (a0_2 : ByteArray) (a0_3 : Bool) (a0_4 : ByteArray) (a0_5 : ByteArray) (a0_6 : ByteArray) (a0_7 : ByteArray) (a0_8 : Bool) (r1 : ByteArray) (r2 : ByteArray) (r3 : ByteArray) (r4 : Bool) (r5 : ByteArray) (r6 : ByteArray) (r7 : ByteArray) (r8 : ByteArray) (r9 : Bool) (w : World) (h : tripartitelaw07_one.f a0_0 a0_1 a0_2 a0_3 a0_4 a0_5 a0_6 a0_7 a0_8 = some (r1, r2, r3, r4, r5, r6, r7, r8, r9)) :
  Calls Try.prog 107 #[.agg #[.string a0_0, .string a0_1, .string a0_2, .bool a0_3, .string a0_4, .string a0_5, .string a0_6, .string a0_7, .bool a0_8]] w fun e w' => e = .returned (.agg #[.string r1, .string r2, .string r3, .bool r4, .string r5, .string r6, .string r7, .string r8, .bool r9]) ∧ Below w.heap.size w w' := by
 have hu120 := Try.underlying120
 have hu123 := Try.underlying123
 have HB := Aside0.mk (Below.refl w.heap.size w)
 have H : (some (a0_0, a0_1, a0_2, a0_3, a0_4, a0_5, a0_6, a0_7, a0_8)) = some (r1, r2, r3, r4, r5, r6, r7, r8, r9) := h
 clear h
 simp only [Option.some.injEq, Prod.mk.injEq] at H
 obtain ⟨rfl, rfl, rfl, rfl, rfl, rfl, rfl, rfl, rfl⟩ := H
 go_enter Try.func107, Try.ntmps107
 go_wp2_with (first | ((with_reducible refine gate_dst (N := 1) rfl ?_); refine box_event ?hg (N := 1) ?hd (cs := #[.string a0_0, .string a0_1, .string a0_2, .bool a0_3, .string a0_4, .string a0_5, .string a0_6, .string a0_7, .bool a0_8]) (t := 120) ?hr ?_; (case hd => rfl); (case hg => rfl); (case hr => first | (go_simp; done) | (go_simp; rfl)); intro gb101 hg w2 hbox hb; have n0_ := Aside0.mk (below_step (by repeat (first | (with_reducible first | exact HB.out | apply below_alloc | apply pw_below_drewN | apply below_drew1) | exact HB.out)) hb); have n1_ := Aside0.mk (hbox); have n2_ := Aside0.mk ((by rw [hg]; exact (below_size (by repeat (first | (with_reducible first | exact HB.out | apply below_alloc | apply pw_below_drewN | apply below_drew1) | exact HB.out))) : w.heap.size ≤ gb101)); have n3_ := Aside0.mk ((by rw [hg]; exact (below_size (by repeat (first | (with_reducible first | exact HB.out | apply below_alloc | apply pw_below_drewN | apply below_drew1) | exact HB.out))) : w.heap.size ≤ gb101)); clear HB; have HB := n0_; have BK101 := n1_; have GW101 := n2_; have GE101 := n3_; clear n0_ n1_ n2_ n3_; clear hb hbox hg) | ((with_reducible refine gate_dst (N := 2) rfl ?_); refine box_event ?hg (N := 2) ?hd (cs := #[.string (⟨#[]⟩ : ByteArray), .string (⟨#[]⟩ : ByteArray), .string (⟨#[]⟩ : ByteArray), .bool false, .string (⟨#[]⟩ : ByteArray), .string (⟨#[]⟩ : ByteArray), .string (⟨#[]⟩ : ByteArray), .string (⟨#[]⟩ : ByteArray), .bool false]) (t := 123) ?hr ?_; (case hd => rfl); (case hg => rfl); (case hr => first | (go_simp; done) | (go_simp; rfl)); intro gb102 hg w3 hbox hb; have n0_ := Aside0.mk (blk_below (g := gb101) (o := .cells #[.string a0_0, .string a0_1, .string a0_2, .bool a0_3, .string a0_4, .string a0_5, .string a0_6, .string a0_7, .bool a0_8] 120 (0, 0)) (by (with_reducible repeat (first | refine blk_drewN ?_ _ | refine blk_drew ?_ | refine blk_alloc ?_ _)); exact BK101.out) hb); have n1_ := Aside0.mk (below_step (by repeat (first | (with_reducible first | exact HB.out | apply below_alloc | apply pw_below_drewN | apply below_drew1 | refine below_set ?_ GE101.out) | exact HB.out)) hb); have n2_ := Aside0.mk (hbox); have n3_ := Aside0.mk ((by rw [hg]; exact (below_size (by repeat (first | (with_reducible first | exact HB.out | apply below_alloc | apply pw_below_drewN | apply below_drew1 | refine below_set ?_ GE101.out) | exact HB.out))) : w.heap.size ≤ gb102)); have n4_ := Aside0.mk ((by rw [hg]; exact (below_size (by repeat (first | (with_reducible first | exact HB.out | apply below_alloc | apply pw_below_drewN | apply below_drew1 | refine below_set ?_ GE101.out) | exact HB.out))) : w.heap.size ≤ gb102)); have n5_ := Aside0.mk ((by rw [hg]; exact Nat.ne_of_lt (blk_lt (g := gb101) (o := .cells #[.string a0_0, .string a0_1, .string a0_2, .bool a0_3, .string a0_4, .string a0_5, .string a0_6, .string a0_7, .bool a0_8] 120 (0, 0)) (by (with_reducible repeat (first | refine blk_drewN ?_ _ | refine blk_drew ?_ | refine blk_alloc ?_ _)); exact BK101.out)) : gb101 ≠ gb102)); have n6_ := Aside0.mk ((by rw [hg]; exact Nat.ne_of_gt (blk_lt (g := gb101) (o := .cells #[.string a0_0, .string a0_1, .string a0_2, .bool a0_3, .string a0_4, .string a0_5, .string a0_6, .string a0_7, .bool a0_8] 120 (0, 0)) (by (with_reducible repeat (first | refine blk_drewN ?_ _ | refine blk_drew ?_ | refine blk_alloc ?_ _)); exact BK101.out)) : gb102 ≠ gb101)); clear BK101; clear HB; have BK101 := n0_; have HB := n1_; have BK102 := n2_; have GW102 := n3_; have GE102 := n4_; have NB101_102 := n5_; have NB102_101 := n6_; clear n0_ n1_ n2_ n3_ n4_ n5_ n6_; clear hb hbox hg; have hnb4 := NB101_102.out; have hnc4 := NB102_101.out; have hcz5_0 : w3.cell? ⟨gb101, 0, none⟩ = some (.string a0_0) := (blk_cell BK101.out 0).trans rfl; have hcz5_1 : w3.cell? ⟨gb101, 1, none⟩ = some (.string a0_1) := (blk_cell BK101.out 1).trans rfl; have hcz5_2 : w3.cell? ⟨gb101, 2, none⟩ = some (.string a0_2) := (blk_cell BK101.out 2).trans rfl; have hcz5_3 : w3.cell? ⟨gb101, 3, none⟩ = some (.bool a0_3) := (blk_cell BK101.out 3).trans rfl; have hcz5_4 : w3.cell? ⟨gb101, 4, none⟩ = some (.string a0_4) := (blk_cell BK101.out 4).trans rfl; have hcz5_5 : w3.cell? ⟨gb101, 5, none⟩ = some (.string a0_5) := (blk_cell BK101.out 5).trans rfl; have hcz5_6 : w3.cell? ⟨gb101, 6, none⟩ = some (.string a0_6) := (blk_cell BK101.out 6).trans rfl; have hcz5_7 : w3.cell? ⟨gb101, 7, none⟩ = some (.string a0_7) := (blk_cell BK101.out 7).trans rfl; have hcz5_8 : w3.cell? ⟨gb101, 8, none⟩ = some (.bool a0_8) := (blk_cell BK101.out 8).trans rfl; have hfz5_0 := blk_frozen BK101.out 0; have hfz5_1 := blk_frozen BK101.out 1; have hfz5_2 := blk_frozen BK101.out 2; have hfz5_3 := blk_frozen BK101.out 3; have hfz5_4 := blk_frozen BK101.out 4; have hfz5_5 := blk_frozen BK101.out 5; have hfz5_6 := blk_frozen BK101.out 6; have hfz5_7 := blk_frozen BK101.out 7; have hfz5_8 := blk_frozen BK101.out 8; have hcz6_0 : w3.cell? ⟨gb102, 0, none⟩ = some (.string (⟨#[]⟩ : ByteArray)) := (blk_cell BK102.out 0).trans rfl; have hcz6_1 : w3.cell? ⟨gb102, 1, none⟩ = some (.string (⟨#[]⟩ : ByteArray)) := (blk_cell BK102.out 1).trans rfl; have hcz6_2 : w3.cell? ⟨gb102, 2, none⟩ = some (.string (⟨#[]⟩ : ByteArray)) := (blk_cell BK102.out 2).trans rfl; have hcz6_3 : w3.cell? ⟨gb102, 3, none⟩ = some (.bool false) := (blk_cell BK102.out 3).trans rfl; have hcz6_4 : w3.cell? ⟨gb102, 4, none⟩ = some (.string (⟨#[]⟩ : ByteArray)) := (blk_cell BK102.out 4).trans rfl; have hcz6_5 : w3.cell? ⟨gb102, 5, none⟩ = some (.string (⟨#[]⟩ : ByteArray)) := (blk_cell BK102.out 5).trans rfl; have hcz6_6 : w3.cell? ⟨gb102, 6, none⟩ = some (.string (⟨#[]⟩ : ByteArray)) := (blk_cell BK102.out 6).trans rfl; have hcz6_7 : w3.cell? ⟨gb102, 7, none⟩ = some (.string (⟨#[]⟩ : ByteArray)) := (blk_cell BK102.out 7).trans rfl; have hcz6_8 : w3.cell? ⟨gb102, 8, none⟩ = some (.bool false) := (blk_cell BK102.out 8).trans rfl; have hfz6_0 := blk_frozen BK102.out 0; have hfz6_1 := blk_frozen BK102.out 1; have hfz6_2 := blk_frozen BK102.out 2; have hfz6_3 := blk_frozen BK102.out 3; have hfz6_4 := blk_frozen BK102.out 4; have hfz6_5 := blk_frozen BK102.out 5; have hfz6_6 := blk_frozen BK102.out 6; have hfz6_7 := blk_frozen BK102.out 7; have hfz6_8 := blk_frozen BK102.out 8))
 refine bodyPost_ret (results_cell_row rfl _ _ gb102 123 #[.string a0_0, .string a0_1, .string a0_2, .bool a0_3, .string a0_4, .string a0_5, .string a0_6, .string a0_7, .bool a0_8] (0, 0) _ rfl (by (with_reducible repeat (first | refine blk_drewN ?_ _ | refine blk_drew ?_ | refine blk_alloc ?_ _)); refine blk_put (cs := #[.string a0_0, .string a0_1, .string a0_2, .bool a0_3, .string a0_4, .string a0_5, .string a0_6, .string a0_7, .bool false]) ?_ 8 _ rfl; (with_reducible repeat (first | refine blk_drewN ?_ _ | refine blk_drew ?_ | refine blk_alloc ?_ _)); refine blk_put (cs := #[.string a0_0, .string a0_1, .string a0_2, .bool a0_3, .string a0_4, .string a0_5, .string a0_6, .string (⟨#[]⟩ : ByteArray), .bool false]) ?_ 7 _ rfl; (with_reducible repeat (first | refine blk_drewN ?_ _ | refine blk_drew ?_ | refine blk_alloc ?_ _)); refine blk_put (cs := #[.string a0_0, .string a0_1, .string a0_2, .bool a0_3, .string a0_4, .string a0_5, .string (⟨#[]⟩ : ByteArray), .string (⟨#[]⟩ : ByteArray), .bool false]) ?_ 6 _ rfl; (with_reducible repeat (first | refine blk_drewN ?_ _ | refine blk_drew ?_ | refine blk_alloc ?_ _)); refine blk_put (cs := #[.string a0_0, .string a0_1, .string a0_2, .bool a0_3, .string a0_4, .string (⟨#[]⟩ : ByteArray), .string (⟨#[]⟩ : ByteArray), .string (⟨#[]⟩ : ByteArray), .bool false]) ?_ 5 _ rfl; (with_reducible repeat (first | refine blk_drewN ?_ _ | refine blk_drew ?_ | refine blk_alloc ?_ _)); refine blk_put (cs := #[.string a0_0, .string a0_1, .string a0_2, .bool a0_3, .string (⟨#[]⟩ : ByteArray), .string (⟨#[]⟩ : ByteArray), .string (⟨#[]⟩ : ByteArray), .string (⟨#[]⟩ : ByteArray), .bool false]) ?_ 4 _ rfl; (with_reducible repeat (first | refine blk_drewN ?_ _ | refine blk_drew ?_ | refine blk_alloc ?_ _)); refine blk_put (cs := #[.string a0_0, .string a0_1, .string a0_2, .bool false, .string (⟨#[]⟩ : ByteArray), .string (⟨#[]⟩ : ByteArray), .string (⟨#[]⟩ : ByteArray), .string (⟨#[]⟩ : ByteArray), .bool false]) ?_ 3 _ rfl; (with_reducible repeat (first | refine blk_drewN ?_ _ | refine blk_drew ?_ | refine blk_alloc ?_ _)); refine blk_put (cs := #[.string a0_0, .string a0_1, .string (⟨#[]⟩ : ByteArray), .bool false, .string (⟨#[]⟩ : ByteArray), .string (⟨#[]⟩ : ByteArray), .string (⟨#[]⟩ : ByteArray), .string (⟨#[]⟩ : ByteArray), .bool false]) ?_ 2 _ rfl; (with_reducible repeat (first | refine blk_drewN ?_ _ | refine blk_drew ?_ | refine blk_alloc ?_ _)); refine blk_put (cs := #[.string a0_0, .string (⟨#[]⟩ : ByteArray), .string (⟨#[]⟩ : ByteArray), .bool false, .string (⟨#[]⟩ : ByteArray), .string (⟨#[]⟩ : ByteArray), .string (⟨#[]⟩ : ByteArray), .string (⟨#[]⟩ : ByteArray), .bool false]) ?_ 1 _ rfl; (with_reducible repeat (first | refine blk_drewN ?_ _ | refine blk_drew ?_ | refine blk_alloc ?_ _)); refine blk_put (cs := #[.string (⟨#[]⟩ : ByteArray), .string (⟨#[]⟩ : ByteArray), .string (⟨#[]⟩ : ByteArray), .bool false, .string (⟨#[]⟩ : ByteArray), .string (⟨#[]⟩ : ByteArray), .string (⟨#[]⟩ : ByteArray), .string (⟨#[]⟩ : ByteArray), .bool false]) ?_ 0 _ rfl; (with_reducible repeat (first | refine blk_drewN ?_ _ | refine blk_drew ?_ | refine blk_alloc ?_ _)); exact BK102.out) Try.underlying123 rfl (by kernel_rfl)) rfl ?_
 exact ⟨by first | rfl | (simp [errW_none, errW_some] <;> rfl) | (simp [*, errW_none, errW_some] <;> rfl), by repeat (first | (with_reducible first | exact HB.out | apply below_alloc | apply pw_below_drewN | apply below_drew1 | refine below_set ?_ GE101.out | refine below_set ?_ GE102.out) | exact HB.out)⟩
end Go.Proofs.Ytadafplbgophfaa.PA
end
section
namespace Go.Proofs.Ytadafplbgophfaa.PA
open Go.RowKit Go.Proofs.YtadafplbgophfaaW.PrintWords Go.Proofs.YtadafplbgophfaaW.PrintLast Go.Proofs.YtadafplbgophfaaW.PrintMore
attribute [local go_sem] max2_int min2_int max_two min_two max_three min_three max_four min_four   -- for this text's walks alone
set_option linter.unusedVariables false
set_option linter.unusedSimpArgs false
def tripartitelaw07_From.l0 : Nat → List (S120) → List (S123) → Int → Option ((List (S123)))
 | 0, _, _, _ => none
 | k + 1, x0, x3, x4 => if x4 < (x0.length : Int) then (if 0 ≤ x4 then ((tripartitelaw07_one.f ((rd_T120 x0 x4).f0.f0) ((rd_T120 x0 x4).f0.f1) ((rd_T120 x0 x4).f0.f2) ((rd_T120 x0 x4).f1) ((rd_T120 x0 x4).f2) ((rd_T120 x0 x4).f3) ((rd_T120 x0 x4).f4) ((rd_T120 x0 x4).f5) ((rd_T120 x0 x4).f6)).bind fun bt102 => (if x3.length < 1099511627776 then (tripartitelaw07_From.l0 k x0 (x3 ++ [(⟨bt102.1, bt102.2.1, bt102.2.2.1, bt102.2.2.2.1, bt102.2.2.2.2.1, bt102.2.2.2.2.2.1, bt102.2.2.2.2.2.2.1, bt102.2.2.2.2.2.2.2.1, bt102.2.2.2.2.2.2.2.2⟩ : S123)]) (wrap64 (x4 + 1))) else (none))) else (none)) else (some x3)
def tripartitelaw07_From.f (k : Nat) (l0 : List (S120)) : Option ((List (S123))) := tripartitelaw07_From.l0 k l0 ([] : List (S123)) 0
set_option maxHeartbeats 8000000 in
set_option maxRecDepth 100000 in
theorem tripartitelaw07_From.calls (k : Nat) (A0 : Option Addr) (c0 : Nat) (l0 : List (S120)) (r : List (S123)) (w : World) (hr0 : Kd.C k120 w A0 l0.length l0) (hc0 : l0.length ≤ c0) (h : tripartitelaw07_From.f k l0 = some r) :
  Calls Try.prog 67 #[.slice A0 l0.length c0] w fun e w' => ∃ v0_ : Value, e = .returned (v0_) ∧ Kd.R k123 123 w' w.heap.size (fun _ => True) v0_ r ∧ Below w.heap.size w w' := by
 have hu120 := Try.underlying120
 have HR0 := Aside0.mk hr0
 have HC0 := Aside0.mk hc0
 clear hr0 hc0
 have HB := Aside0.mk (Below.refl w.heap.size w)
 have H : (tripartitelaw07_From.l0 k l0 ([] : List (S123)) 0) = some r := h
 clear h
 have H' := Aside0.mk H
 clear H
 go_enter Try.func67, Try.ntmps67
 go_wp2
 go_loopg [3, 4] k (fun kq v3 v4 w' => ∃ (x3_1 : List (S123)) (x4_1 : Int), v4 = .int .i64 x4_1 ∧ Aside0 (tripartitelaw07_From.l0 kq l0 x3_1 x4_1 = some r) ∧ Aside0 (kq ≤ k) ∧ Aside0 (Kd.R k123 123 w' w.heap.size (fun _ => True) v3 x3_1) ∧ Aside0 (Below w.heap.size w w'))
 case atStart => exact ⟨(([] : List (S123))), (0), (by first | rfl | (simp; done) | (simp [*]; done)), H', ⟨Nat.le_refl _⟩, ⟨by first | exact Kd.R_nil _ _ _ _ _ | exact Kd.N_nil _ _ _ _ _ | exact Kd.V_nil _ _ _ _ _ | exact Kd.Q_nil _ _ _ _ _ | exact Kd.S_nil _ _ _ _ _⟩, ⟨by repeat (first | (with_reducible first | exact HB.out | apply below_alloc | apply pw_below_drewN | apply below_drew1) | exact HB.out)⟩⟩
 case round =>
  clear H'
  obtain ⟨x3_1, x4_1, rfl, HA, HK1, HO_3, HB⟩ := hrel
  cases gk with
  | zero => exact absurd HA.out (by simp [tripartitelaw07_From.l0])
  | succ k1 =>
   have H := HA.out
   clear HA
   simp only [tripartitelaw07_From.l0] at H
   by_cases c2 : x4_1 < (l0.length : Int)
   ·rw [if_pos c2] at H
    have c2b0 : decide (x4_1 < (l0.length : Int)) = true := decide_eq_true c2
    clear c2
    by_cases c3 : 0 ≤ x4_1
    ·rw [if_pos c3] at H
     have c3b0 : decide (0 ≤ x4_1) = true := decide_eq_true c3
     clear c3
     replace H := Option.bind_eq_some_iff.mp H
     obtain ⟨⟨t102, t103, t104, t105, t106, t107, t108, t109, t110⟩, A40, H⟩ := H
     replace H : (if x3_1.length < 1099511627776 then (tripartitelaw07_From.l0 k1 l0 (x3_1 ++ [(⟨t102, t103, t104, t105, t106, t107, t108, t109, t110⟩ : S123)]) (wrap64 (x4_1 + 1))) else (none)) = some r := H
     have A4 := Aside0.mk A40
     clear A40
     by_cases c5 : x3_1.length < 1099511627776
     ·rw [if_pos c5] at H
      have LMc5 := Aside0.mk c5
      clear c5
      obtain ⟨y111, hy111⟩ : ∃ y_ : List (S123), y_ = (x3_1 ++ [(⟨t102, t103, t104, t105, t106, t107, t108, t109, t110⟩ : S123)]) := ⟨_, rfl⟩
      replace H : (tripartitelaw07_From.l0 k1 l0 y111 (wrap64 (x4_1 + 1))) = some r := by first | (rw [hy111]; with_reducible exact H) | (have H2_ := (Option.bind_some _ _).symm.trans H; rw [hy111]; with_reducible exact H2_) | (have H2_ := (Option.bind_some _ _).symm.trans H; with_reducible exact H2_) | with_reducible exact H | (rw [hy111]; exact H) | exact H
      have Ny111 := Aside0.mk hy111
      clear hy111
      have H' := Aside0.mk H
      clear H
      have p101 : 0 ≤ (x4_1 : Int) := of_decide_eq_true (by first | (with_reducible assumption) | assumption)
      have q101 : x4_1 < (l0.length : Int) := of_decide_eq_true (by first | (with_reducible assumption) | assumption)
      obtain ⟨ad101, e101, hx101_0, hx101_1, hx101_2, hx101_3, hx101_4, hx101_5, hx101_6, hx101_7, hx101_8⟩ := at_T120 HR0.out x4_1 p101 q101
      cases e101
      replace hx101_0 := (HB.out.cell (World.block_lt_of_cell? w _ hx101_0)).trans hx101_0
      replace hx101_1 := (HB.out.cell (World.block_lt_of_cell? w _ hx101_1)).trans hx101_1
      replace hx101_2 := (HB.out.cell (World.block_lt_of_cell? w _ hx101_2)).trans hx101_2
      replace hx101_3 := (HB.out.cell (World.block_lt_of_cell? w _ hx101_3)).trans hx101_3
      replace hx101_4 := (HB.out.cell (World.block_lt_of_cell? w _ hx101_4)).trans hx101_4
      replace hx101_5 := (HB.out.cell (World.block_lt_of_cell? w _ hx101_5)).trans hx101_5
      replace hx101_6 := (HB.out.cell (World.block_lt_of_cell? w _ hx101_6)).trans hx101_6
      replace hx101_7 := (HB.out.cell (World.block_lt_of_cell? w _ hx101_7)).trans hx101_7
      replace hx101_8 := (HB.out.cell (World.block_lt_of_cell? w _ hx101_8)).trans hx101_8
      replace p101 := eq_true p101
      replace q101 := eq_true q101
      go_wp2_with (first | ((with_reducible refine gate_callee (f := 107) rfl ?_); refine goesL_ (some 16) rfl rfl Try.func107 (by kernel_rfl) rfl #[.agg #[.string ((rd_T120 l0 x4_1).f0.f0), .string ((rd_T120 l0 x4_1).f0.f1), .string ((rd_T120 l0 x4_1).f0.f2), .bool ((rd_T120 l0 x4_1).f1), .string ((rd_T120 l0 x4_1).f2), .string ((rd_T120 l0 x4_1).f3), .string ((rd_T120 l0 x4_1).f4), .string ((rd_T120 l0 x4_1).f5), .bool ((rd_T120 l0 x4_1).f6)]] rfl (by (try simp only [List.map_toArray, List.map_cons, List.map_nil]); first | done | rfl | (simp only [List.length_drop, List.length_take]; rfl)) ?_; (with_reducible refine (tripartitelaw07_one.calls ((rd_T120 l0 x4_1).f0.f0) ((rd_T120 l0 x4_1).f0.f1) ((rd_T120 l0 x4_1).f0.f2) ((rd_T120 l0 x4_1).f1) ((rd_T120 l0 x4_1).f2) ((rd_T120 l0 x4_1).f3) ((rd_T120 l0 x4_1).f4) ((rd_T120 l0 x4_1).f5) ((rd_T120 l0 x4_1).f6) t102 t103 t104 t105 t106 t107 t108 t109 t110 _ A4.out).mono ?_); rintro e w6 ⟨rfl, hb⟩; refine ⟨_, rfl, ?_⟩; have n0_ := Aside0.mk (Kd.R_below (by (with_reducible repeat (first | apply Kd.R_alloc | apply Kd.R_drewN | apply Kd.R_drew)); exact HO_3.out) hb); have n1_ := Aside0.mk (below_step (by repeat (first | (with_reducible first | exact HB.out | apply below_alloc | apply pw_below_drewN | apply below_drew1) | exact HB.out)) hb); clear HO_3; clear HB; have HO_3 := n0_; have HB := n1_; clear n0_ n1_; (try clear hb); (try clear hb2); (try clear hk); (try clear hi)) | ((with_reducible refine gate_builtin (b := .append) (xs := #[.tmp 11, .tmp 17]) rfl ?_); at_builtin; refine Kd.R_append k123 (w0 := w) w.heap.size rfl (.tmp 11) (.tmp 17) 86 123 (.agg #[(.string ⟨#[]⟩), (.string ⟨#[]⟩), (.string ⟨#[]⟩), (.bool false), (.string ⟨#[]⟩), (.string ⟨#[]⟩), (.string ⟨#[]⟩), (.string ⟨#[]⟩), (.bool false)]) 128 rfl Try.underlying86 info123 rfl (by decide) (by omega) u3 x3_1 (⟨t102, t103, t104, t105, t106, t107, t108, t109, t110⟩ : S123) [.string t102, .string t103, .string t104, .bool t105, .string t106, .string t107, .string t108, .string t109, .bool t110] (fun _ => True) (fun _ => False) rfl rfl ?aP (fun _ hk => hk.elim) ?aF ?aO ?aB ?aS ?aL ?_; (case aP => exact k123_mkM _ _ _ (⟨t102, t103, t104, t105, t106, t107, t108, t109, t110⟩ : S123)); (case aB => exact (by repeat (first | (with_reducible first | exact HB.out | apply below_alloc | apply pw_below_drewN | apply below_drew1) | exact HB.out))); (case aF => exact (fun _ _ => trivial)); (case aO => exact (by (with_reducible repeat (first | apply Kd.R_alloc | apply Kd.R_drewN | apply Kd.R_drew)); exact HO_3.out)); (case aS => exact (below_size (by repeat (first | (with_reducible first | exact HB.out | apply below_alloc | apply pw_below_drewN | apply below_drew1) | exact HB.out)))); (case aL => have := LMc5.out; omega); intro v112 w7 ho hb hg hat; rw [← Ny111.out] at ho; have n0_ := Aside0.mk (hb); have n1_ := Aside0.mk (ho); clear HB; clear HO_3; have HB := n0_; have HO113 := n1_; clear n0_ n1_; clear ho hb hg hat))
      go_roundg k1
      case measure => have := HK1.out; omega
      case rel => exact ⟨(y111), (wrap64 (x4_1 + 1)), (by first | rfl | (simp; done) | (simp [*]; done)), H', ⟨by have := HK1.out; omega⟩, ⟨by (with_reducible repeat (first | apply Kd.R_alloc | apply Kd.R_drewN | apply Kd.R_drew)); exact HO113.out⟩, ⟨by repeat (first | (with_reducible first | exact HB.out | apply below_alloc | apply pw_below_drewN | apply below_drew1) | exact HB.out)⟩⟩
     ·rw [if_neg c5] at H
      exact absurd H (by simp)
    ·rw [if_neg c3] at H
     exact absurd H (by simp)
   ·rw [if_neg c2] at H
    have c2b0 : decide (x4_1 < (l0.length : Int)) = false := decide_eq_false c2
    clear c2
    obtain rfl := Option.some.inj H
    go_wp2
    go_ret
    exact ⟨_, by first | rfl | (simp [errW_none, errW_some] <;> rfl) | (simp [*, errW_none, errW_some] <;> rfl), by (with_reducible repeat (first | apply Kd.R_alloc | apply Kd.R_drewN | apply Kd.R_drew)); exact HO_3.out, by repeat (first | (with_reducible first | exact HB.out | apply below_alloc | apply pw_below_drewN | apply below_drew1) | exact HB.out)⟩
end Go.Proofs.Ytadafplbgophfaa.PA
end
section
namespace Go.Proofs.Ytadafplbgophfaa.PA
open Go.RowKit Go.Proofs.YtadafplbgophfaaW.PrintWords Go.Proofs.YtadafplbgophfaaW.PrintLast Go.Proofs.YtadafplbgophfaaW.PrintMore
attribute [local go_sem] max2_int min2_int max_two min_two max_three min_three max_four min_four   -- for this text's walks alone
set_option linter.unusedVariables false
set_option linter.unusedSimpArgs false
attribute [local go_sem high] eqA123
def tripartiteref07_text.f (a0_0 : ByteArray) (a0_1 : ByteArray) (a0_2 : ByteArray) (a0_3 : Bool) (a0_4 : ByteArray) (a0_5 : ByteArray) (a0_6 : ByteArray) (a0_7 : ByteArray) (a0_8 : Bool) : Option (Bool) := some (a0_0.toList == ([] : List UInt8) && (a0_1.toList == ([] : List UInt8) && (a0_2.toList == ([] : List UInt8) && (!a0_3 && (a0_5.toList == ([] : List UInt8) && (a0_6.toList == ([] : List UInt8) && (a0_7.toList == ([] : List UInt8) && (!a0_8))))))))
set_option maxHeartbeats 8000000 in
set_option maxRecDepth 100000 in
theorem tripartiteref07_text.calls (a0_0 : ByteArray) (a0_1 : ByteArray) (a0_2 : ByteArray) (a0_3 : Bool) (a0_4 : ByteArray) (a0_5 : ByteArray) (a0_6 : ByteArray) (a0_7 : ByteArray) (a0_8 : Bool) (r : Bool) (w : World) (h : tripartiteref07_text.f a0_0 a0_1 a0_2 a0_3 a0_4 a0_5 a0_6 a0_7 a0_8 = some r) :
  Calls Try.prog 134 #[.agg #[.string a0_0, .string a0_1, .string a0_2, .bool a0_3, .string a0_4, .string a0_5, .string a0_6, .string a0_7, .bool a0_8]] w fun e w' => e = .returned (.bool r) ∧ Below w.heap.size w w' := by
 have hu123 := Try.underlying123
 have HB := Aside0.mk (Below.refl w.heap.size w)
 have H : (some (a0_0.toList == ([] : List UInt8) && (a0_1.toList == ([] : List UInt8) && (a0_2.toList == ([] : List UInt8) && (!a0_3 && (a0_5.toList == ([] : List UInt8) && (a0_6.toList == ([] : List UInt8) && (a0_7.toList == ([] : List UInt8) && (!a0_8))))))))) = some r := h
 clear h
 obtain rfl := Option.some.inj H
 go_enter Try.func134, Try.ntmps134
 go_wp2_with (first | ((with_reducible refine gate_dst (N := 1) rfl ?_); refine box_event ?hg (N := 1) ?hd (cs := #[.string a0_0, .string a0_1, .string a0_2, .bool a0_3, .string a0_4, .string a0_5, .string a0_6, .string a0_7, .bool a0_8]) (t := 123) ?hr ?_; (case hd => rfl); (case hg => rfl); (case hr => first | (go_simp; done) | (go_simp; rfl)); intro gb101 hg w2 hbox hb; have n0_ := Aside0.mk (below_step (by repeat (first | (with_reducible first | exact HB.out | apply below_alloc | apply pw_below_drewN | apply below_drew1) | exact HB.out)) hb); have n1_ := Aside0.mk (hbox); have n2_ := Aside0.mk ((by rw [hg]; exact (below_size (by repeat (first | (with_reducible first | exact HB.out | apply below_alloc | apply pw_below_drewN | apply below_drew1) | exact HB.out))) : w.heap.size ≤ gb101)); have n3_ := Aside0.mk ((by rw [hg]; exact (below_size (by repeat (first | (with_reducible first | exact HB.out | apply below_alloc | apply pw_below_drewN | apply below_drew1) | exact HB.out))) : w.heap.size ≤ gb101)); clear HB; have HB := n0_; have BK101 := n1_; have GW101 := n2_; have GE101 := n3_; clear n0_ n1_ n2_ n3_; clear hb hbox hg; have hcz3_0 : w2.cell? ⟨gb101, 0, none⟩ = some (.string a0_0) := (blk_cell BK101.out 0).trans rfl; have hcz3_1 : w2.cell? ⟨gb101, 1, none⟩ = some (.string a0_1) := (blk_cell BK101.out 1).trans rfl; have hcz3_2 : w2.cell? ⟨gb101, 2, none⟩ = some (.string a0_2) := (blk_cell BK101.out 2).trans rfl; have hcz3_3 : w2.cell? ⟨gb101, 3, none⟩ = some (.bool a0_3) := (blk_cell BK101.out 3).trans rfl; have hcz3_4 : w2.cell? ⟨gb101, 4, none⟩ = some (.string a0_4) := (blk_cell BK101.out 4).trans rfl; have hcz3_5 : w2.cell? ⟨gb101, 5, none⟩ = some (.string a0_5) := (blk_cell BK101.out 5).trans rfl; have hcz3_6 : w2.cell? ⟨gb101, 6, none⟩ = some (.string a0_6) := (blk_cell BK101.out 6).trans rfl; have hcz3_7 : w2.cell? ⟨gb101, 7, none⟩ = some (.string a0_7) := (blk_cell BK101.out 7).trans rfl; have hcz3_8 : w2.cell? ⟨gb101, 8, none⟩ = some (.bool a0_8) := (blk_cell BK101.out 8).trans rfl; have hfz3_0 := blk_frozen BK101.out 0; have hfz3_1 := blk_frozen BK101.out 1; have hfz3_2 := blk_frozen BK101.out 2; have hfz3_3 := blk_frozen BK101.out 3; have hfz3_4 := blk_frozen BK101.out 4; have hfz3_5 := blk_frozen BK101.out 5; have hfz3_6 := blk_frozen BK101.out 6; have hfz3_7 := blk_frozen BK101.out 7; have hfz3_8 := blk_frozen BK101.out 8))
 go_ret
 exact ⟨by first | rfl | (simp [errW_none, errW_some] <;> rfl) | (simp [*, errW_none, errW_some] <;> rfl), by repeat (first | (with_reducible first | exact HB.out | apply below_alloc | apply pw_below_drewN | apply below_drew1 | refine below_set ?_ GE101.out) | exact HB.out)⟩
end Go.Proofs.Ytadafplbgophfaa.PA
end
