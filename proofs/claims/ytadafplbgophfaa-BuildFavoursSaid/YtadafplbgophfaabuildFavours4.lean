/- Part 4 of what the row of the law BuildFavours rests on: walks of functions, and plain lemmas (in part printed by the kit's print, what is not reached left out). -/
import Derived.Test.YtadafplbgophfaabuildFavours3
section
namespace Go.Proofs.Ytadafplbgophfaa.PA
open Go.RowKit Go.Proofs.YtadafplbgophfaaW.PrintWords Go.Proofs.YtadafplbgophfaaW.PrintLast Go.Proofs.YtadafplbgophfaaW.PrintMore
attribute [local go_sem] max2_int min2_int max_two min_two max_three min_three max_four min_four   -- for this text's walks alone
set_option linter.unusedVariables false
set_option linter.unusedSimpArgs false
attribute [local go_sem high] eqA120
def doc_Of.l0 : Nat → List (S120) → List (S120) → Int → Int → Option ((List (S120)))
 | 0, _, _, _, _ => none
 | k + 1, x3, x7, x8, x9 => if x9 < x8 then (if 0 ≤ x9 then (if x9 < (x7.length : Int) then (if (((((rd_T120 x7 x9).f0.f0).toList) == ([] : List UInt8) && ((((rd_T120 x7 x9).f0.f1).toList) == ([] : List UInt8) && ((((rd_T120 x7 x9).f0.f2).toList) == ([] : List UInt8)))) && (!((rd_T120 x7 x9).f1) && ((((rd_T120 x7 x9).f2).toList) == ([] : List UInt8) && ((((rd_T120 x7 x9).f3).toList) == ([] : List UInt8) && ((((rd_T120 x7 x9).f4).toList) == ([] : List UInt8) && ((((rd_T120 x7 x9).f5).toList) == ([] : List UInt8) && (!((rd_T120 x7 x9).f6)))))))) = true then (doc_Of.l0 k x3 x7 x8 (wrap64 (x9 + 1))) else ((J11_.f ((rd_T120 x7 x9).f0.f0) ((rd_T120 x7 x9).f0.f1) ((rd_T120 x7 x9).f0.f2) ((rd_T120 x7 x9).f1) ((rd_T120 x7 x9).f2) ((rd_T120 x7 x9).f3) ((rd_T120 x7 x9).f4) ((rd_T120 x7 x9).f5) ((rd_T120 x7 x9).f6)).bind fun t103 => (if t103 = true then (if (x3.length : Int) > 0 then (if 0 ≤ (wrap64 ((x3.length : Int) - 1)) then (if (wrap64 ((x3.length : Int) - 1)) < (x3.length : Int) then ((J11_.f ((rd_T120 x3 (wrap64 ((x3.length : Int) - 1))).f0.f0) ((rd_T120 x3 (wrap64 ((x3.length : Int) - 1))).f0.f1) ((rd_T120 x3 (wrap64 ((x3.length : Int) - 1))).f0.f2) ((rd_T120 x3 (wrap64 ((x3.length : Int) - 1))).f1) ((rd_T120 x3 (wrap64 ((x3.length : Int) - 1))).f2) ((rd_T120 x3 (wrap64 ((x3.length : Int) - 1))).f3) ((rd_T120 x3 (wrap64 ((x3.length : Int) - 1))).f4) ((rd_T120 x3 (wrap64 ((x3.length : Int) - 1))).f5) ((rd_T120 x3 (wrap64 ((x3.length : Int) - 1))).f6)).bind fun t105 => (if t105 = true then (if ((rd_T120 x3 (wrap64 ((x3.length : Int) - 1))).f2).size + ((rd_T120 x7 x9).f2).size ≤ 9223372036854775807 then (doc_Of.l0 k (x3.set ((wrap64 ((x3.length : Int) - 1)) : Int).toNat (⟨(⟨(rd_T120 x3 (wrap64 ((x3.length : Int) - 1))).f0.f0, (rd_T120 x3 (wrap64 ((x3.length : Int) - 1))).f0.f1, (rd_T120 x3 (wrap64 ((x3.length : Int) - 1))).f0.f2⟩ : S116), (rd_T120 x3 (wrap64 ((x3.length : Int) - 1))).f1, ((rd_T120 x3 (wrap64 ((x3.length : Int) - 1))).f2) ++ ((rd_T120 x7 x9).f2), (rd_T120 x3 (wrap64 ((x3.length : Int) - 1))).f3, (rd_T120 x3 (wrap64 ((x3.length : Int) - 1))).f4, (rd_T120 x3 (wrap64 ((x3.length : Int) - 1))).f5, (rd_T120 x3 (wrap64 ((x3.length : Int) - 1))).f6⟩ : S120)) x7 x8 (wrap64 (x9 + 1))) else (none)) else (if x3.length < 1099511627776 then (doc_Of.l0 k (x3 ++ [(⟨(⟨(rd_T120 x7 x9).f0.f0, (rd_T120 x7 x9).f0.f1, (rd_T120 x7 x9).f0.f2⟩ : S116), (rd_T120 x7 x9).f1, (rd_T120 x7 x9).f2, (rd_T120 x7 x9).f3, (rd_T120 x7 x9).f4, (rd_T120 x7 x9).f5, (rd_T120 x7 x9).f6⟩ : S120)]) x7 x8 (wrap64 (x9 + 1))) else (none)))) else (none)) else (none)) else (if x3.length < 1099511627776 then (doc_Of.l0 k (x3 ++ [(⟨(⟨(rd_T120 x7 x9).f0.f0, (rd_T120 x7 x9).f0.f1, (rd_T120 x7 x9).f0.f2⟩ : S116), (rd_T120 x7 x9).f1, (rd_T120 x7 x9).f2, (rd_T120 x7 x9).f3, (rd_T120 x7 x9).f4, (rd_T120 x7 x9).f5, (rd_T120 x7 x9).f6⟩ : S120)]) x7 x8 (wrap64 (x9 + 1))) else (none))) else (if x3.length < 1099511627776 then (doc_Of.l0 k (x3 ++ [(⟨(⟨(rd_T120 x7 x9).f0.f0, (rd_T120 x7 x9).f0.f1, (rd_T120 x7 x9).f0.f2⟩ : S116), (rd_T120 x7 x9).f1, (rd_T120 x7 x9).f2, (rd_T120 x7 x9).f3, (rd_T120 x7 x9).f4, (rd_T120 x7 x9).f5, (rd_T120 x7 x9).f6⟩ : S120)]) x7 x8 (wrap64 (x9 + 1))) else (none))))) else (none)) else (none)) else (some x3)
def doc_Of.f (k : Nat) (l0 : List (S120)) : Option ((List (S120))) := doc_Of.l0 k ([] : List (S120)) l0 (l0.length : Int) 0
theorem doc_Of.mono_l : ∀ k, (∀ y0 y1 y2 y3, LeO (doc_Of.l0 k y0 y1 y2 y3) (doc_Of.l0 (k + 1) y0 y1 y2 y3))
 | 0 => fun _ _ _ _ r h => by simp [doc_Of.l0] at h
 | k + 1 => by
  have ih0 := doc_Of.mono_l k
  ·intro y0 y1 y2 y3
   unfold doc_Of.l0
   repeat' first
   | (with_reducible exact ih0 _ _ _ _)
   | (with_reducible exact LeO.refl _)
   | (with_reducible exact LeO.none _)
   | (with_reducible refine LeO.ite ?_ ?_)
   | (with_reducible refine LeO.bind ?_ (fun _ => ?_))
   | exact ih0 _ _ _ _
   | exact LeO.none _
   | refine LeO.ite ?_ ?_
   | refine LeO.bind ?_ (fun _ => ?_)
theorem doc_Of.mono : ∀ a0 k, LeO (doc_Of.f k a0) (doc_Of.f (k + 1) a0) := by
 intro a0 k
 have ih0 := doc_Of.mono_l k
 unfold doc_Of.f
 repeat' first
   | (with_reducible exact ih0 _ _ _ _)
   | (with_reducible exact LeO.refl _)
   | (with_reducible exact LeO.none _)
   | (with_reducible refine LeO.ite ?_ ?_)
   | (with_reducible refine LeO.bind ?_ (fun _ => ?_))
   | exact ih0 _ _ _ _
   | exact LeO.none _
   | refine LeO.ite ?_ ?_
   | refine LeO.bind ?_ (fun _ => ?_)
def doc_Of.T9 : Bool × List (List Nat × List Nat) := (true, [([], []), ([], []), ([1], [1]), ([0, 2], [0, 2]), ([3], [3]), ([4], [4]), ([], []), ([6], [6]), ([5, 7], [5, 7]), ([0, 2, 0, 1, 2, 3, 4, 5, 6, 7, 8], [0, 2]), ([9, 0, 1, 2, 3, 4, 5, 6, 7, 8], [9]), ([10, 8, 0, 1, 2, 3, 4, 5, 6, 7, 8], [8, 10])])
def doc_Of.B9 : List Nat := [0, 0, 2, 7, 15, 31, 0, 64, 255, 511, 1023, 2047]
theorem doc_Of.tab9 : rtab .any (opsOf Try.f111 9) = doc_Of.T9 := by kernel_rfl
theorem doc_Of.bits9 : waitsOk doc_Of.T9.2 doc_Of.B9 = true := by kernel_rfl
set_option maxHeartbeats 8000000 in
set_option maxRecDepth 100000 in
theorem doc_Of.calls (k : Nat) (A0 : Option Addr) (c0 : Nat) (l0 : List (S120)) (r : List (S120)) (w : World) (hr0 : Kd.C k120 w A0 l0.length l0) (hc0 : l0.length ≤ c0) (h : doc_Of.f k l0 = some r) :
  Calls Try.prog 111 #[.slice A0 l0.length c0] w fun e w' => ∃ v0_ : Value, e = .returned (v0_) ∧ Kd.R k120 120 w' w.heap.size (fun _ => True) v0_ r ∧ Below w.heap.size w w' := by
 have hu120 := Try.underlying120
 have HR0 := Ja38_.mk hr0
 have HC0 := Ja38_.mk hc0
 clear hr0 hc0
 have HB := Ja38_.mk (Below.refl w.heap.size w)
 have H : (doc_Of.l0 k ([] : List (S120)) l0 (l0.length : Int) 0) = some r := h
 clear h
 have H' := Ja38_.mk H
 clear H
 go_enter Try.func111, Try.ntmps111
 go_wp2
 go_loopg [3, 9] k (fun kq v3 v9 w' => ∃ (x3_1 : List (S120)) (x9_1 : Int), v9 = .int .i64 x9_1 ∧ Ja38_ (doc_Of.l0 kq x3_1 l0 (l0.length : Int) x9_1 = some r) ∧ Ja38_ (kq ≤ k) ∧ Ja38_ (Kd.R k120 120 w' w.heap.size (fun _ => True) v3 x3_1) ∧ Ja38_ (Below w.heap.size w w'))
 case atStart => exact ⟨(([] : List (S120))), (0), (by first | rfl | (simp; done) | (simp [*]; done)), H', ⟨Nat.le_refl _⟩, ⟨by first | exact Kd.R_nil _ _ _ _ _ | exact Kd.N_nil _ _ _ _ _ | exact Kd.V_nil _ _ _ _ _ | exact Kd.Q_nil _ _ _ _ _ | exact Kd.S_nil _ _ _ _ _⟩, ⟨by repeat (first | (with_reducible first | exact HB.out | apply Ja43_ | apply Ja41_ | apply Ja42_) | exact HB.out)⟩⟩
 case round =>
  clear H'
  try clear c1
  obtain ⟨x3_1, x9_1, rfl, HA, HK1, HO_3, HB⟩ := hrel
  cases gk with
  | zero => exact absurd HA.out (by simp [doc_Of.l0])
  | succ k1 =>
   have H := HA.out
   clear HA
   simp only [doc_Of.l0] at H
   by_cases c2 : x9_1 < (l0.length : Int)
   ·rw [if_pos c2] at H
    have c2b0 : decide (x9_1 < (l0.length : Int)) = true := decide_eq_true c2
    clear c2
    by_cases c3 : 0 ≤ x9_1
    ·rw [if_pos c3] at H
     have c3b0 : decide (0 ≤ x9_1) = true := decide_eq_true c3
     clear c3
     by_cases c4 : x9_1 < (l0.length : Int)
     ·rw [if_pos c4] at H
      have c4b0 : decide (x9_1 < (l0.length : Int)) = true := decide_eq_true c4
      clear c4
      by_cases c5 : (((((rd_T120 l0 x9_1).f0.f0).toList) == ([] : List UInt8) && ((((rd_T120 l0 x9_1).f0.f1).toList) == ([] : List UInt8) && ((((rd_T120 l0 x9_1).f0.f2).toList) == ([] : List UInt8)))) && (!((rd_T120 l0 x9_1).f1) && ((((rd_T120 l0 x9_1).f2).toList) == ([] : List UInt8) && ((((rd_T120 l0 x9_1).f3).toList) == ([] : List UInt8) && ((((rd_T120 l0 x9_1).f4).toList) == ([] : List UInt8) && ((((rd_T120 l0 x9_1).f5).toList) == ([] : List UInt8) && (!((rd_T120 l0 x9_1).f6)))))))) = true
      ·rw [if_pos c5] at H
       have c5b0 : (((((rd_T120 l0 x9_1).f0.f0).toList) == ([] : List UInt8) && ((((rd_T120 l0 x9_1).f0.f1).toList) == ([] : List UInt8) && ((((rd_T120 l0 x9_1).f0.f2).toList) == ([] : List UInt8)))) && (!((rd_T120 l0 x9_1).f1) && ((((rd_T120 l0 x9_1).f2).toList) == ([] : List UInt8) && ((((rd_T120 l0 x9_1).f3).toList) == ([] : List UInt8) && ((((rd_T120 l0 x9_1).f4).toList) == ([] : List UInt8) && ((((rd_T120 l0 x9_1).f5).toList) == ([] : List UInt8) && (!((rd_T120 l0 x9_1).f6)))))))) = true := c5
       (try simp only [List.beq_nil_eq] at c5b0)
       clear c5
       have H' := Ja38_.mk H
       clear H
       have p101 : 0 ≤ (x9_1 : Int) := of_decide_eq_true (by first | (with_reducible assumption) | assumption)
       have q101 : x9_1 < (l0.length : Int) := of_decide_eq_true (by first | (with_reducible assumption) | assumption)
       obtain ⟨ad101, e101, hx101_0, hx101_1, hx101_2, hx101_3, hx101_4, hx101_5, hx101_6, hx101_7, hx101_8⟩ := at_T120 HR0.out x9_1 p101 q101
       cases e101
       replace hx101_0 := (HB.out.cell (World.block_lt_of_cell? w _ hx101_0)).trans hx101_0
       replace hx101_1 := (HB.out.cell (World.block_lt_of_cell? w _ hx101_1)).trans hx101_1
       replace hx101_2 := (HB.out.cell (World.block_lt_of_cell? w _ hx101_2)).trans hx101_2
       replace hx101_3 := (HB.out.cell (World.block_lt_of_cell? w _ hx101_3)).trans hx101_3
       replace hx101_4 := (HB.out.cell (World.block_lt_of_cell? w _ hx101_4)).trans hx101_4
       replace hx101_5 := (HB.out.cell (World.block_lt_of_cell? w _ hx101_5)).trans hx101_5
       replace hx101_6 := (HB.out.cell (World.block_lt_of_cell? w _ hx101_6)).trans hx101_6
       replace hx101_7 := (HB.out.cell (World.block_lt_of_cell? w _ hx101_7)).trans hx101_7
       replace hx101_8 := (HB.out.cell (World.block_lt_of_cell? w _ hx101_8)).trans hx101_8
       replace p101 := eq_true p101
       replace q101 := eq_true q101
       go_wp2_with (first | ((with_reducible refine gate_dst (N := 5) rfl ?_); refine box_event ?hg (N := 5) ?hd (cs := #[.string (⟨#[]⟩ : ByteArray), .string (⟨#[]⟩ : ByteArray), .string (⟨#[]⟩ : ByteArray), .bool false, .string (⟨#[]⟩ : ByteArray), .string (⟨#[]⟩ : ByteArray), .string (⟨#[]⟩ : ByteArray), .string (⟨#[]⟩ : ByteArray), .bool false]) (t := 120) ?hr ?_; (case hd => rfl); (case hg => rfl); (case hr => first | (go_simp; done) | (go_simp; rfl)); intro gb102 hg w6 hbox hb; have n0_ := Ja38_.mk (Kd.R_below (Kd.R_elderB (by (with_reducible repeat (first | apply Kd.R_alloc | apply Kd.R_drewN | apply Kd.R_drew)); exact HO_3.out) gb102 (Nat.le_of_eq hg.symm)) hb); have n1_ := Ja38_.mk (Ja44_ (by repeat (first | (with_reducible first | exact HB.out | apply Ja43_ | apply Ja41_ | apply Ja42_) | exact HB.out)) hb); have n2_ := Ja38_.mk (hbox); have n3_ := Ja38_.mk ((by rw [hg]; exact (Ja45_ (by repeat (first | (with_reducible first | exact HB.out | apply Ja43_ | apply Ja41_ | apply Ja42_) | exact HB.out))) : w.heap.size ≤ gb102)); have n4_ := Ja38_.mk ((by rw [hg]; exact (Ja45_ (by repeat (first | (with_reducible first | exact HB.out | apply Ja43_ | apply Ja41_ | apply Ja42_) | exact HB.out))) : w.heap.size ≤ gb102)); clear HO_3; clear HB; have HO_3 := n0_; have HB := n1_; have BK102 := n2_; have GW102 := n3_; have GE102 := n4_; clear n0_ n1_ n2_ n3_ n4_; clear hb hbox hg; have hcz7_0 : w6.cell? ⟨gb102, 0, none⟩ = some (.string (⟨#[]⟩ : ByteArray)) := (Ja39_ BK102.out 0).trans rfl; have hcz7_1 : w6.cell? ⟨gb102, 1, none⟩ = some (.string (⟨#[]⟩ : ByteArray)) := (Ja39_ BK102.out 1).trans rfl; have hcz7_2 : w6.cell? ⟨gb102, 2, none⟩ = some (.string (⟨#[]⟩ : ByteArray)) := (Ja39_ BK102.out 2).trans rfl; have hcz7_3 : w6.cell? ⟨gb102, 3, none⟩ = some (.bool false) := (Ja39_ BK102.out 3).trans rfl; have hcz7_4 : w6.cell? ⟨gb102, 4, none⟩ = some (.string (⟨#[]⟩ : ByteArray)) := (Ja39_ BK102.out 4).trans rfl; have hcz7_5 : w6.cell? ⟨gb102, 5, none⟩ = some (.string (⟨#[]⟩ : ByteArray)) := (Ja39_ BK102.out 5).trans rfl; have hcz7_6 : w6.cell? ⟨gb102, 6, none⟩ = some (.string (⟨#[]⟩ : ByteArray)) := (Ja39_ BK102.out 6).trans rfl; have hcz7_7 : w6.cell? ⟨gb102, 7, none⟩ = some (.string (⟨#[]⟩ : ByteArray)) := (Ja39_ BK102.out 7).trans rfl; have hcz7_8 : w6.cell? ⟨gb102, 8, none⟩ = some (.bool false) := (Ja39_ BK102.out 8).trans rfl; have hfz7_0 := Ja40_ BK102.out 0; have hfz7_1 := Ja40_ BK102.out 1; have hfz7_2 := Ja40_ BK102.out 2; have hfz7_3 := Ja40_ BK102.out 3; have hfz7_4 := Ja40_ BK102.out 4; have hfz7_5 := Ja40_ BK102.out 5; have hfz7_6 := Ja40_ BK102.out 6; have hfz7_7 := Ja40_ BK102.out 7; have hfz7_8 := Ja40_ BK102.out 8; obtain ⟨Ao8, co8, eo8⟩ := Kd.R_slice HO_3.out; subst eo8))
       go_roundg k1
       case measure => have := HK1.out; omega
       case rel => exact ⟨(x3_1), (wrap64 (x9_1 + 1)), (by first | rfl | (simp; done) | (simp [*]; done)), H', ⟨by have := HK1.out; omega⟩, ⟨by (with_reducible repeat (first | apply Kd.R_alloc | apply Kd.R_drewN | apply Kd.R_drew)); exact Kd.R_mono (Kd.R_far (p := ⟨gb102, 8, none⟩) (Kd.R_far (p := ⟨gb102, 7, none⟩) (Kd.R_far (p := ⟨gb102, 6, none⟩) (Kd.R_far (p := ⟨gb102, 5, none⟩) (Kd.R_far (p := ⟨gb102, 4, none⟩) (Kd.R_far (p := ⟨gb102, 3, none⟩) (Kd.R_far (p := ⟨gb102, 2, none⟩) (Kd.R_far (p := ⟨gb102, 1, none⟩) (Kd.R_far (p := ⟨gb102, 0, none⟩) (Kd.R_mono HO_3.out (fun k_ hk => (⟨hk, hk.2⟩ : _ ∧ k_ ≠ gb102))) (fun _ hk => hk.2) (.string ((rd_T120 l0 x9_1).f0.f0))) (fun _ hk => hk.2) (.string ((rd_T120 l0 x9_1).f0.f1))) (fun _ hk => hk.2) (.string ((rd_T120 l0 x9_1).f0.f2))) (fun _ hk => hk.2) (.bool ((rd_T120 l0 x9_1).f1))) (fun _ hk => hk.2) (.string ((rd_T120 l0 x9_1).f2))) (fun _ hk => hk.2) (.string ((rd_T120 l0 x9_1).f3))) (fun _ hk => hk.2) (.string ((rd_T120 l0 x9_1).f4))) (fun _ hk => hk.2) (.string ((rd_T120 l0 x9_1).f5))) (fun _ hk => hk.2) (.bool ((rd_T120 l0 x9_1).f6))) (fun _ hk => trivial)⟩, ⟨by repeat (first | (with_reducible first | exact HB.out | apply Ja43_ | apply Ja41_ | apply Ja42_ | refine Ja46_ ?_ GE102.out) | exact HB.out)⟩⟩
      ·rw [if_neg c5] at H
       have c5b0 : (((((rd_T120 l0 x9_1).f0.f0).toList) == ([] : List UInt8) && ((((rd_T120 l0 x9_1).f0.f1).toList) == ([] : List UInt8) && ((((rd_T120 l0 x9_1).f0.f2).toList) == ([] : List UInt8)))) && (!((rd_T120 l0 x9_1).f1) && ((((rd_T120 l0 x9_1).f2).toList) == ([] : List UInt8) && ((((rd_T120 l0 x9_1).f3).toList) == ([] : List UInt8) && ((((rd_T120 l0 x9_1).f4).toList) == ([] : List UInt8) && ((((rd_T120 l0 x9_1).f5).toList) == ([] : List UInt8) && (!((rd_T120 l0 x9_1).f6)))))))) = false := by simpa using c5
       (try simp only [List.beq_nil_eq] at c5b0)
       clear c5
       replace H := Option.bind_eq_some_iff.mp H
       obtain ⟨t103, A90, H⟩ := H
       replace H : (if t103 = true then (if (x3_1.length : Int) > 0 then (if 0 ≤ (wrap64 ((x3_1.length : Int) - 1)) then (if (wrap64 ((x3_1.length : Int) - 1)) < (x3_1.length : Int) then ((J11_.f ((rd_T120 x3_1 (wrap64 ((x3_1.length : Int) - 1))).f0.f0) ((rd_T120 x3_1 (wrap64 ((x3_1.length : Int) - 1))).f0.f1) ((rd_T120 x3_1 (wrap64 ((x3_1.length : Int) - 1))).f0.f2) ((rd_T120 x3_1 (wrap64 ((x3_1.length : Int) - 1))).f1) ((rd_T120 x3_1 (wrap64 ((x3_1.length : Int) - 1))).f2) ((rd_T120 x3_1 (wrap64 ((x3_1.length : Int) - 1))).f3) ((rd_T120 x3_1 (wrap64 ((x3_1.length : Int) - 1))).f4) ((rd_T120 x3_1 (wrap64 ((x3_1.length : Int) - 1))).f5) ((rd_T120 x3_1 (wrap64 ((x3_1.length : Int) - 1))).f6)).bind fun t105 => (if t105 = true then (if ((rd_T120 x3_1 (wrap64 ((x3_1.length : Int) - 1))).f2).size + ((rd_T120 l0 x9_1).f2).size ≤ 9223372036854775807 then (doc_Of.l0 k1 (x3_1.set ((wrap64 ((x3_1.length : Int) - 1)) : Int).toNat (⟨(⟨(rd_T120 x3_1 (wrap64 ((x3_1.length : Int) - 1))).f0.f0, (rd_T120 x3_1 (wrap64 ((x3_1.length : Int) - 1))).f0.f1, (rd_T120 x3_1 (wrap64 ((x3_1.length : Int) - 1))).f0.f2⟩ : S116), (rd_T120 x3_1 (wrap64 ((x3_1.length : Int) - 1))).f1, ((rd_T120 x3_1 (wrap64 ((x3_1.length : Int) - 1))).f2) ++ ((rd_T120 l0 x9_1).f2), (rd_T120 x3_1 (wrap64 ((x3_1.length : Int) - 1))).f3, (rd_T120 x3_1 (wrap64 ((x3_1.length : Int) - 1))).f4, (rd_T120 x3_1 (wrap64 ((x3_1.length : Int) - 1))).f5, (rd_T120 x3_1 (wrap64 ((x3_1.length : Int) - 1))).f6⟩ : S120)) l0 (l0.length : Int) (wrap64 (x9_1 + 1))) else (none)) else (if x3_1.length < 1099511627776 then (doc_Of.l0 k1 (x3_1 ++ [(⟨(⟨(rd_T120 l0 x9_1).f0.f0, (rd_T120 l0 x9_1).f0.f1, (rd_T120 l0 x9_1).f0.f2⟩ : S116), (rd_T120 l0 x9_1).f1, (rd_T120 l0 x9_1).f2, (rd_T120 l0 x9_1).f3, (rd_T120 l0 x9_1).f4, (rd_T120 l0 x9_1).f5, (rd_T120 l0 x9_1).f6⟩ : S120)]) l0 (l0.length : Int) (wrap64 (x9_1 + 1))) else (none)))) else (none)) else (none)) else (if x3_1.length < 1099511627776 then (doc_Of.l0 k1 (x3_1 ++ [(⟨(⟨(rd_T120 l0 x9_1).f0.f0, (rd_T120 l0 x9_1).f0.f1, (rd_T120 l0 x9_1).f0.f2⟩ : S116), (rd_T120 l0 x9_1).f1, (rd_T120 l0 x9_1).f2, (rd_T120 l0 x9_1).f3, (rd_T120 l0 x9_1).f4, (rd_T120 l0 x9_1).f5, (rd_T120 l0 x9_1).f6⟩ : S120)]) l0 (l0.length : Int) (wrap64 (x9_1 + 1))) else (none))) else (if x3_1.length < 1099511627776 then (doc_Of.l0 k1 (x3_1 ++ [(⟨(⟨(rd_T120 l0 x9_1).f0.f0, (rd_T120 l0 x9_1).f0.f1, (rd_T120 l0 x9_1).f0.f2⟩ : S116), (rd_T120 l0 x9_1).f1, (rd_T120 l0 x9_1).f2, (rd_T120 l0 x9_1).f3, (rd_T120 l0 x9_1).f4, (rd_T120 l0 x9_1).f5, (rd_T120 l0 x9_1).f6⟩ : S120)]) l0 (l0.length : Int) (wrap64 (x9_1 + 1))) else (none))) = some r := H
       have A9 := Ja38_.mk A90
       clear A90
       by_cases c10 : t103 = true
       ·subst c10
        have H1 : (if (x3_1.length : Int) > 0 then (if 0 ≤ (wrap64 ((x3_1.length : Int) - 1)) then (if (wrap64 ((x3_1.length : Int) - 1)) < (x3_1.length : Int) then ((J11_.f ((rd_T120 x3_1 (wrap64 ((x3_1.length : Int) - 1))).f0.f0) ((rd_T120 x3_1 (wrap64 ((x3_1.length : Int) - 1))).f0.f1) ((rd_T120 x3_1 (wrap64 ((x3_1.length : Int) - 1))).f0.f2) ((rd_T120 x3_1 (wrap64 ((x3_1.length : Int) - 1))).f1) ((rd_T120 x3_1 (wrap64 ((x3_1.length : Int) - 1))).f2) ((rd_T120 x3_1 (wrap64 ((x3_1.length : Int) - 1))).f3) ((rd_T120 x3_1 (wrap64 ((x3_1.length : Int) - 1))).f4) ((rd_T120 x3_1 (wrap64 ((x3_1.length : Int) - 1))).f5) ((rd_T120 x3_1 (wrap64 ((x3_1.length : Int) - 1))).f6)).bind fun t105 => (if t105 = true then (if ((rd_T120 x3_1 (wrap64 ((x3_1.length : Int) - 1))).f2).size + ((rd_T120 l0 x9_1).f2).size ≤ 9223372036854775807 then (doc_Of.l0 k1 (x3_1.set ((wrap64 ((x3_1.length : Int) - 1)) : Int).toNat (⟨(⟨(rd_T120 x3_1 (wrap64 ((x3_1.length : Int) - 1))).f0.f0, (rd_T120 x3_1 (wrap64 ((x3_1.length : Int) - 1))).f0.f1, (rd_T120 x3_1 (wrap64 ((x3_1.length : Int) - 1))).f0.f2⟩ : S116), (rd_T120 x3_1 (wrap64 ((x3_1.length : Int) - 1))).f1, ((rd_T120 x3_1 (wrap64 ((x3_1.length : Int) - 1))).f2) ++ ((rd_T120 l0 x9_1).f2), (rd_T120 x3_1 (wrap64 ((x3_1.length : Int) - 1))).f3, (rd_T120 x3_1 (wrap64 ((x3_1.length : Int) - 1))).f4, (rd_T120 x3_1 (wrap64 ((x3_1.length : Int) - 1))).f5, (rd_T120 x3_1 (wrap64 ((x3_1.length : Int) - 1))).f6⟩ : S120)) l0 (l0.length : Int) (wrap64 (x9_1 + 1))) else (none)) else (if x3_1.length < 1099511627776 then (doc_Of.l0 k1 (x3_1 ++ [(⟨(⟨(rd_T120 l0 x9_1).f0.f0, (rd_T120 l0 x9_1).f0.f1, (rd_T120 l0 x9_1).f0.f2⟩ : S116), (rd_T120 l0 x9_1).f1, (rd_T120 l0 x9_1).f2, (rd_T120 l0 x9_1).f3, (rd_T120 l0 x9_1).f4, (rd_T120 l0 x9_1).f5, (rd_T120 l0 x9_1).f6⟩ : S120)]) l0 (l0.length : Int) (wrap64 (x9_1 + 1))) else (none)))) else (none)) else (none)) else (if x3_1.length < 1099511627776 then (doc_Of.l0 k1 (x3_1 ++ [(⟨(⟨(rd_T120 l0 x9_1).f0.f0, (rd_T120 l0 x9_1).f0.f1, (rd_T120 l0 x9_1).f0.f2⟩ : S116), (rd_T120 l0 x9_1).f1, (rd_T120 l0 x9_1).f2, (rd_T120 l0 x9_1).f3, (rd_T120 l0 x9_1).f4, (rd_T120 l0 x9_1).f5, (rd_T120 l0 x9_1).f6⟩ : S120)]) l0 (l0.length : Int) (wrap64 (x9_1 + 1))) else (none))) = some r := by rw [if_pos rfl] at H; exact H
        clear H
        have H := H1
        clear H1
        by_cases c11 : (x3_1.length : Int) > 0
        ·rw [if_pos c11] at H
         have c11b0 : decide (0 < (x3_1.length : Int)) = true := decide_eq_true c11
         have c11b1 : decide (0 < x3_1.length) = true := decide_eq_true (by omega)
         clear c11
         obtain ⟨ji12, hji12⟩ : ∃ j_ : Int, (wrap64 ((x3_1.length : Int) - 1)) = j_ := ⟨_, rfl⟩
         replace H : (if 0 ≤ (ji12) then (if (ji12) < (x3_1.length : Int) then ((J11_.f ((rd_T120 x3_1 (ji12)).f0.f0) ((rd_T120 x3_1 (ji12)).f0.f1) ((rd_T120 x3_1 (ji12)).f0.f2) ((rd_T120 x3_1 (ji12)).f1) ((rd_T120 x3_1 (ji12)).f2) ((rd_T120 x3_1 (ji12)).f3) ((rd_T120 x3_1 (ji12)).f4) ((rd_T120 x3_1 (ji12)).f5) ((rd_T120 x3_1 (ji12)).f6)).bind fun t105 => (if t105 = true then (if ((rd_T120 x3_1 (ji12)).f2).size + ((rd_T120 l0 x9_1).f2).size ≤ 9223372036854775807 then (doc_Of.l0 k1 (x3_1.set ((ji12) : Int).toNat (⟨(⟨(rd_T120 x3_1 (ji12)).f0.f0, (rd_T120 x3_1 (ji12)).f0.f1, (rd_T120 x3_1 (ji12)).f0.f2⟩ : S116), (rd_T120 x3_1 (ji12)).f1, ((rd_T120 x3_1 (ji12)).f2) ++ ((rd_T120 l0 x9_1).f2), (rd_T120 x3_1 (ji12)).f3, (rd_T120 x3_1 (ji12)).f4, (rd_T120 x3_1 (ji12)).f5, (rd_T120 x3_1 (ji12)).f6⟩ : S120)) l0 (l0.length : Int) (wrap64 (x9_1 + 1))) else (none)) else (if x3_1.length < 1099511627776 then (doc_Of.l0 k1 (x3_1 ++ [(⟨(⟨(rd_T120 l0 x9_1).f0.f0, (rd_T120 l0 x9_1).f0.f1, (rd_T120 l0 x9_1).f0.f2⟩ : S116), (rd_T120 l0 x9_1).f1, (rd_T120 l0 x9_1).f2, (rd_T120 l0 x9_1).f3, (rd_T120 l0 x9_1).f4, (rd_T120 l0 x9_1).f5, (rd_T120 l0 x9_1).f6⟩ : S120)]) l0 (l0.length : Int) (wrap64 (x9_1 + 1))) else (none)))) else (none)) else (none)) = some r := by first | (rw [hji12] at H; exact H) | (simp only [hji12] at H ⊢; exact H)
         (try rw [hji12] at A9)
         have hji12w : (IntKind.i64.wrap ((x3_1.length : Int) - 1)) = ji12 := (i64_w _).trans hji12
         by_cases c13 : 0 ≤ (ji12)
         ·rw [if_pos c13] at H
          have c13b0 : decide (0 ≤ (ji12)) = true := decide_eq_true c13
          clear c13
          by_cases c14 : (ji12) < (x3_1.length : Int)
          ·rw [if_pos c14] at H
           have c14b0 : decide ((ji12) < (x3_1.length : Int)) = true := decide_eq_true c14
           clear c14
           replace H := Option.bind_eq_some_iff.mp H
           obtain ⟨t105, A150, H⟩ := H
           replace H : (if t105 = true then (if ((rd_T120 x3_1 (ji12)).f2).size + ((rd_T120 l0 x9_1).f2).size ≤ 9223372036854775807 then (doc_Of.l0 k1 (x3_1.set ((ji12) : Int).toNat (⟨(⟨(rd_T120 x3_1 (ji12)).f0.f0, (rd_T120 x3_1 (ji12)).f0.f1, (rd_T120 x3_1 (ji12)).f0.f2⟩ : S116), (rd_T120 x3_1 (ji12)).f1, ((rd_T120 x3_1 (ji12)).f2) ++ ((rd_T120 l0 x9_1).f2), (rd_T120 x3_1 (ji12)).f3, (rd_T120 x3_1 (ji12)).f4, (rd_T120 x3_1 (ji12)).f5, (rd_T120 x3_1 (ji12)).f6⟩ : S120)) l0 (l0.length : Int) (wrap64 (x9_1 + 1))) else (none)) else (if x3_1.length < 1099511627776 then (doc_Of.l0 k1 (x3_1 ++ [(⟨(⟨(rd_T120 l0 x9_1).f0.f0, (rd_T120 l0 x9_1).f0.f1, (rd_T120 l0 x9_1).f0.f2⟩ : S116), (rd_T120 l0 x9_1).f1, (rd_T120 l0 x9_1).f2, (rd_T120 l0 x9_1).f3, (rd_T120 l0 x9_1).f4, (rd_T120 l0 x9_1).f5, (rd_T120 l0 x9_1).f6⟩ : S120)]) l0 (l0.length : Int) (wrap64 (x9_1 + 1))) else (none))) = some r := H
           have A15 := Ja38_.mk A150
           clear A150
           by_cases c16 : t105 = true
           ·subst c16
            have H1 : (if ((rd_T120 x3_1 (ji12)).f2).size + ((rd_T120 l0 x9_1).f2).size ≤ 9223372036854775807 then (doc_Of.l0 k1 (x3_1.set ((ji12) : Int).toNat (⟨(⟨(rd_T120 x3_1 (ji12)).f0.f0, (rd_T120 x3_1 (ji12)).f0.f1, (rd_T120 x3_1 (ji12)).f0.f2⟩ : S116), (rd_T120 x3_1 (ji12)).f1, ((rd_T120 x3_1 (ji12)).f2) ++ ((rd_T120 l0 x9_1).f2), (rd_T120 x3_1 (ji12)).f3, (rd_T120 x3_1 (ji12)).f4, (rd_T120 x3_1 (ji12)).f5, (rd_T120 x3_1 (ji12)).f6⟩ : S120)) l0 (l0.length : Int) (wrap64 (x9_1 + 1))) else (none)) = some r := by rw [if_pos rfl] at H; exact H
            clear H
            have H := H1
            clear H1
            by_cases c17 : ((rd_T120 x3_1 (ji12)).f2).size + ((rd_T120 l0 x9_1).f2).size ≤ 9223372036854775807
            ·rw [if_pos c17] at H
             have c17b0 := eq_true c17
             have c17b1 : decide (((rd_T120 x3_1 (ji12)).f2).size + ((rd_T120 l0 x9_1).f2).size ≤ 9223372036854775807) = true := decide_eq_true c17
             try have c17b2 : (9223372036854775807 < ((rd_T120 x3_1 (ji12)).f2).size + ((rd_T120 l0 x9_1).f2).size) = False := eq_false (Nat.not_lt.2 c17)
             obtain ⟨y107, hy107⟩ : ∃ y_ : List (S120), y_ = (x3_1.set ((ji12) : Int).toNat (⟨(⟨(rd_T120 x3_1 (ji12)).f0.f0, (rd_T120 x3_1 (ji12)).f0.f1, (rd_T120 x3_1 (ji12)).f0.f2⟩ : S116), (rd_T120 x3_1 (ji12)).f1, ((rd_T120 x3_1 (ji12)).f2) ++ ((rd_T120 l0 x9_1).f2), (rd_T120 x3_1 (ji12)).f3, (rd_T120 x3_1 (ji12)).f4, (rd_T120 x3_1 (ji12)).f5, (rd_T120 x3_1 (ji12)).f6⟩ : S120)) := ⟨_, rfl⟩
             replace H : (doc_Of.l0 k1 y107 l0 (l0.length : Int) (wrap64 (x9_1 + 1))) = some r := by first | (rw [hy107]; with_reducible exact H) | (have H2_ := (Option.bind_some _ _).symm.trans H; rw [hy107]; with_reducible exact H2_) | (have H2_ := (Option.bind_some _ _).symm.trans H; with_reducible exact H2_) | with_reducible exact H | (rw [hy107]; exact H) | exact H
             have Ny107 := Ja38_.mk hy107
             clear hy107
             have H' := Ja38_.mk H
             clear H
             have p101 : 0 ≤ (x9_1 : Int) := of_decide_eq_true (by first | (with_reducible assumption) | assumption)
             have q101 : x9_1 < (l0.length : Int) := of_decide_eq_true (by first | (with_reducible assumption) | assumption)
             obtain ⟨ad101, e101, hx101_0, hx101_1, hx101_2, hx101_3, hx101_4, hx101_5, hx101_6, hx101_7, hx101_8⟩ := at_T120 HR0.out x9_1 p101 q101
             cases e101
             replace hx101_0 := (HB.out.cell (World.block_lt_of_cell? w _ hx101_0)).trans hx101_0
             replace hx101_1 := (HB.out.cell (World.block_lt_of_cell? w _ hx101_1)).trans hx101_1
             replace hx101_2 := (HB.out.cell (World.block_lt_of_cell? w _ hx101_2)).trans hx101_2
             replace hx101_3 := (HB.out.cell (World.block_lt_of_cell? w _ hx101_3)).trans hx101_3
             replace hx101_4 := (HB.out.cell (World.block_lt_of_cell? w _ hx101_4)).trans hx101_4
             replace hx101_5 := (HB.out.cell (World.block_lt_of_cell? w _ hx101_5)).trans hx101_5
             replace hx101_6 := (HB.out.cell (World.block_lt_of_cell? w _ hx101_6)).trans hx101_6
             replace hx101_7 := (HB.out.cell (World.block_lt_of_cell? w _ hx101_7)).trans hx101_7
             replace hx101_8 := (HB.out.cell (World.block_lt_of_cell? w _ hx101_8)).trans hx101_8
             replace p101 := eq_true p101
             replace q101 := eq_true q101
             try go_wp2_with (first | ((with_reducible refine gate_dst (N := 5) rfl ?_); refine box_event ?hg (N := 5) ?hd (cs := #[.string (⟨#[]⟩ : ByteArray), .string (⟨#[]⟩ : ByteArray), .string (⟨#[]⟩ : ByteArray), .bool false, .string (⟨#[]⟩ : ByteArray), .string (⟨#[]⟩ : ByteArray), .string (⟨#[]⟩ : ByteArray), .string (⟨#[]⟩ : ByteArray), .bool false]) (t := 120) ?hr ?_; (case hd => rfl); (case hg => rfl); (case hr => first | (go_simp; done) | (go_simp; rfl)); intro gb102 hg w19 hbox hb; have n0_ := Ja38_.mk (Kd.R_below (Kd.R_elderB (by (with_reducible repeat (first | apply Kd.R_alloc | apply Kd.R_drewN | apply Kd.R_drew)); exact HO_3.out) gb102 (Nat.le_of_eq hg.symm)) hb); have n1_ := Ja38_.mk (Ja44_ (by repeat (first | (with_reducible first | exact HB.out | apply Ja43_ | apply Ja41_ | apply Ja42_) | exact HB.out)) hb); have n2_ := Ja38_.mk (hbox); have n3_ := Ja38_.mk ((by rw [hg]; exact (Ja45_ (by repeat (first | (with_reducible first | exact HB.out | apply Ja43_ | apply Ja41_ | apply Ja42_) | exact HB.out))) : w.heap.size ≤ gb102)); have n4_ := Ja38_.mk ((by rw [hg]; exact (Ja45_ (by repeat (first | (with_reducible first | exact HB.out | apply Ja43_ | apply Ja41_ | apply Ja42_) | exact HB.out))) : w.heap.size ≤ gb102)); clear HO_3; clear HB; have HO_3 := n0_; have HB := n1_; have BK102 := n2_; have GW102 := n3_; have GE102 := n4_; clear n0_ n1_ n2_ n3_ n4_; clear hb hbox hg; have hcz20_0 : w19.cell? ⟨gb102, 0, none⟩ = some (.string (⟨#[]⟩ : ByteArray)) := (Ja39_ BK102.out 0).trans rfl; have hcz20_1 : w19.cell? ⟨gb102, 1, none⟩ = some (.string (⟨#[]⟩ : ByteArray)) := (Ja39_ BK102.out 1).trans rfl; have hcz20_2 : w19.cell? ⟨gb102, 2, none⟩ = some (.string (⟨#[]⟩ : ByteArray)) := (Ja39_ BK102.out 2).trans rfl; have hcz20_3 : w19.cell? ⟨gb102, 3, none⟩ = some (.bool false) := (Ja39_ BK102.out 3).trans rfl; have hcz20_4 : w19.cell? ⟨gb102, 4, none⟩ = some (.string (⟨#[]⟩ : ByteArray)) := (Ja39_ BK102.out 4).trans rfl; have hcz20_5 : w19.cell? ⟨gb102, 5, none⟩ = some (.string (⟨#[]⟩ : ByteArray)) := (Ja39_ BK102.out 5).trans rfl; have hcz20_6 : w19.cell? ⟨gb102, 6, none⟩ = some (.string (⟨#[]⟩ : ByteArray)) := (Ja39_ BK102.out 6).trans rfl; have hcz20_7 : w19.cell? ⟨gb102, 7, none⟩ = some (.string (⟨#[]⟩ : ByteArray)) := (Ja39_ BK102.out 7).trans rfl; have hcz20_8 : w19.cell? ⟨gb102, 8, none⟩ = some (.bool false) := (Ja39_ BK102.out 8).trans rfl; have hfz20_0 := Ja40_ BK102.out 0; have hfz20_1 := Ja40_ BK102.out 1; have hfz20_2 := Ja40_ BK102.out 2; have hfz20_3 := Ja40_ BK102.out 3; have hfz20_4 := Ja40_ BK102.out 4; have hfz20_5 := Ja40_ BK102.out 5; have hfz20_6 := Ja40_ BK102.out 6; have hfz20_7 := Ja40_ BK102.out 7; have hfz20_8 := Ja40_ BK102.out 8; obtain ⟨Ao21, co21, eo21⟩ := Kd.R_slice HO_3.out; subst eo21) | ((with_reducible refine gate_callee (f := 114) rfl ?_); refine goesL_ (some 25) rfl rfl Try.func114 (by kernel_rfl) rfl #[.agg #[.string ((rd_T120 l0 x9_1).f0.f0), .string ((rd_T120 l0 x9_1).f0.f1), .string ((rd_T120 l0 x9_1).f0.f2), .bool ((rd_T120 l0 x9_1).f1), .string ((rd_T120 l0 x9_1).f2), .string ((rd_T120 l0 x9_1).f3), .string ((rd_T120 l0 x9_1).f4), .string ((rd_T120 l0 x9_1).f5), .bool ((rd_T120 l0 x9_1).f6)]] rfl (by (try simp only [List.map_toArray, List.map_cons, List.map_nil]); first | done | rfl | (simp only [List.length_drop, List.length_take]; rfl)) ?_; (with_reducible refine (J11_.calls ((rd_T120 l0 x9_1).f0.f0) ((rd_T120 l0 x9_1).f0.f1) ((rd_T120 l0 x9_1).f0.f2) ((rd_T120 l0 x9_1).f1) ((rd_T120 l0 x9_1).f2) ((rd_T120 l0 x9_1).f3) ((rd_T120 l0 x9_1).f4) ((rd_T120 l0 x9_1).f5) ((rd_T120 l0 x9_1).f6) true _ A9.out).mono ?_); rintro e w22 ⟨rfl, hb⟩; refine ⟨_, rfl, ?_⟩; have n0_ := Ja38_.mk (Kd.R_below (by (with_reducible repeat (first | apply Kd.R_alloc | apply Kd.R_drewN | apply Kd.R_drew)); exact (Kd.R_mono (Kd.R_far (p := ⟨gb102, 8, none⟩) (Kd.R_far (p := ⟨gb102, 7, none⟩) (Kd.R_far (p := ⟨gb102, 6, none⟩) (Kd.R_far (p := ⟨gb102, 5, none⟩) (Kd.R_far (p := ⟨gb102, 4, none⟩) (Kd.R_far (p := ⟨gb102, 3, none⟩) (Kd.R_far (p := ⟨gb102, 2, none⟩) (Kd.R_far (p := ⟨gb102, 1, none⟩) (Kd.R_far (p := ⟨gb102, 0, none⟩) (Kd.R_mono HO_3.out (fun k_ hk => (⟨hk, hk.2⟩ : _ ∧ k_ ≠ gb102))) (fun _ hk => hk.2) (.string ((rd_T120 l0 x9_1).f0.f0))) (fun _ hk => hk.2) (.string ((rd_T120 l0 x9_1).f0.f1))) (fun _ hk => hk.2) (.string ((rd_T120 l0 x9_1).f0.f2))) (fun _ hk => hk.2) (.bool ((rd_T120 l0 x9_1).f1))) (fun _ hk => hk.2) (.string ((rd_T120 l0 x9_1).f2))) (fun _ hk => hk.2) (.string ((rd_T120 l0 x9_1).f3))) (fun _ hk => hk.2) (.string ((rd_T120 l0 x9_1).f4))) (fun _ hk => hk.2) (.string ((rd_T120 l0 x9_1).f5))) (fun _ hk => hk.2) (.bool ((rd_T120 l0 x9_1).f6))) (fun _ h_ => h_.1))) hb); have n1_ := Ja38_.mk (Ja47_ (g := gb102) (o := .cells #[.string ((rd_T120 l0 x9_1).f0.f0), .string ((rd_T120 l0 x9_1).f0.f1), .string ((rd_T120 l0 x9_1).f0.f2), .bool ((rd_T120 l0 x9_1).f1), .string ((rd_T120 l0 x9_1).f2), .string ((rd_T120 l0 x9_1).f3), .string ((rd_T120 l0 x9_1).f4), .string ((rd_T120 l0 x9_1).f5), .bool ((rd_T120 l0 x9_1).f6)] 120 (0, 0)) (by (with_reducible repeat (first | refine Ja50_ ?_ _ | refine Ja49_ ?_ | refine Ja48_ ?_ _)); refine blk_put (cs := #[.string ((rd_T120 l0 x9_1).f0.f0), .string ((rd_T120 l0 x9_1).f0.f1), .string ((rd_T120 l0 x9_1).f0.f2), .bool ((rd_T120 l0 x9_1).f1), .string ((rd_T120 l0 x9_1).f2), .string ((rd_T120 l0 x9_1).f3), .string ((rd_T120 l0 x9_1).f4), .string ((rd_T120 l0 x9_1).f5), .bool false]) ?_ 8 _ rfl; (with_reducible repeat (first | refine Ja50_ ?_ _ | refine Ja49_ ?_ | refine Ja48_ ?_ _)); refine blk_put (cs := #[.string ((rd_T120 l0 x9_1).f0.f0), .string ((rd_T120 l0 x9_1).f0.f1), .string ((rd_T120 l0 x9_1).f0.f2), .bool ((rd_T120 l0 x9_1).f1), .string ((rd_T120 l0 x9_1).f2), .string ((rd_T120 l0 x9_1).f3), .string ((rd_T120 l0 x9_1).f4), .string (⟨#[]⟩ : ByteArray), .bool false]) ?_ 7 _ rfl; (with_reducible repeat (first | refine Ja50_ ?_ _ | refine Ja49_ ?_ | refine Ja48_ ?_ _)); refine blk_put (cs := #[.string ((rd_T120 l0 x9_1).f0.f0), .string ((rd_T120 l0 x9_1).f0.f1), .string ((rd_T120 l0 x9_1).f0.f2), .bool ((rd_T120 l0 x9_1).f1), .string ((rd_T120 l0 x9_1).f2), .string ((rd_T120 l0 x9_1).f3), .string (⟨#[]⟩ : ByteArray), .string (⟨#[]⟩ : ByteArray), .bool false]) ?_ 6 _ rfl; (with_reducible repeat (first | refine Ja50_ ?_ _ | refine Ja49_ ?_ | refine Ja48_ ?_ _)); refine blk_put (cs := #[.string ((rd_T120 l0 x9_1).f0.f0), .string ((rd_T120 l0 x9_1).f0.f1), .string ((rd_T120 l0 x9_1).f0.f2), .bool ((rd_T120 l0 x9_1).f1), .string ((rd_T120 l0 x9_1).f2), .string (⟨#[]⟩ : ByteArray), .string (⟨#[]⟩ : ByteArray), .string (⟨#[]⟩ : ByteArray), .bool false]) ?_ 5 _ rfl; (with_reducible repeat (first | refine Ja50_ ?_ _ | refine Ja49_ ?_ | refine Ja48_ ?_ _)); refine blk_put (cs := #[.string ((rd_T120 l0 x9_1).f0.f0), .string ((rd_T120 l0 x9_1).f0.f1), .string ((rd_T120 l0 x9_1).f0.f2), .bool ((rd_T120 l0 x9_1).f1), .string (⟨#[]⟩ : ByteArray), .string (⟨#[]⟩ : ByteArray), .string (⟨#[]⟩ : ByteArray), .string (⟨#[]⟩ : ByteArray), .bool false]) ?_ 4 _ rfl; (with_reducible repeat (first | refine Ja50_ ?_ _ | refine Ja49_ ?_ | refine Ja48_ ?_ _)); refine blk_put (cs := #[.string ((rd_T120 l0 x9_1).f0.f0), .string ((rd_T120 l0 x9_1).f0.f1), .string ((rd_T120 l0 x9_1).f0.f2), .bool false, .string (⟨#[]⟩ : ByteArray), .string (⟨#[]⟩ : ByteArray), .string (⟨#[]⟩ : ByteArray), .string (⟨#[]⟩ : ByteArray), .bool false]) ?_ 3 _ rfl; (with_reducible repeat (first | refine Ja50_ ?_ _ | refine Ja49_ ?_ | refine Ja48_ ?_ _)); refine blk_put (cs := #[.string ((rd_T120 l0 x9_1).f0.f0), .string ((rd_T120 l0 x9_1).f0.f1), .string (⟨#[]⟩ : ByteArray), .bool false, .string (⟨#[]⟩ : ByteArray), .string (⟨#[]⟩ : ByteArray), .string (⟨#[]⟩ : ByteArray), .string (⟨#[]⟩ : ByteArray), .bool false]) ?_ 2 _ rfl; (with_reducible repeat (first | refine Ja50_ ?_ _ | refine Ja49_ ?_ | refine Ja48_ ?_ _)); refine blk_put (cs := #[.string ((rd_T120 l0 x9_1).f0.f0), .string (⟨#[]⟩ : ByteArray), .string (⟨#[]⟩ : ByteArray), .bool false, .string (⟨#[]⟩ : ByteArray), .string (⟨#[]⟩ : ByteArray), .string (⟨#[]⟩ : ByteArray), .string (⟨#[]⟩ : ByteArray), .bool false]) ?_ 1 _ rfl; (with_reducible repeat (first | refine Ja50_ ?_ _ | refine Ja49_ ?_ | refine Ja48_ ?_ _)); refine blk_put (cs := #[.string (⟨#[]⟩ : ByteArray), .string (⟨#[]⟩ : ByteArray), .string (⟨#[]⟩ : ByteArray), .bool false, .string (⟨#[]⟩ : ByteArray), .string (⟨#[]⟩ : ByteArray), .string (⟨#[]⟩ : ByteArray), .string (⟨#[]⟩ : ByteArray), .bool false]) ?_ 0 _ rfl; (with_reducible repeat (first | refine Ja50_ ?_ _ | refine Ja49_ ?_ | refine Ja48_ ?_ _)); exact BK102.out) hb); have n2_ := Ja38_.mk (Ja44_ (by repeat (first | (with_reducible first | exact HB.out | apply Ja43_ | apply Ja41_ | apply Ja42_ | refine Ja46_ ?_ GE102.out) | exact HB.out)) hb); clear HO_3; clear BK102; clear HB; have HO_3 := n0_; have BK102 := n1_; have HB := n2_; clear n0_ n1_ n2_; (try clear hb); (try clear hb2); (try clear hk); (try clear hi); have p104 : 0 ≤ ((ji12) : Int) := of_decide_eq_true (by first | (with_reducible assumption) | assumption); have q104 : (ji12) < (x3_1.length : Int) := of_decide_eq_true (by first | (with_reducible assumption) | assumption); obtain ⟨ad104, e104, hx104_0, hx104_1, hx104_2, hx104_3, hx104_4, hx104_5, hx104_6, hx104_7, hx104_8⟩ := at_T120 (Kd.R_reads' HO_3.out).2.2 (ji12) p104 q104; cases e104; replace p104 := eq_true p104; replace q104 := eq_true q104) | (go_at_call 114; (with_reducible refine (J11_.calls ((rd_T120 x3_1 (ji12)).f0.f0) ((rd_T120 x3_1 (ji12)).f0.f1) ((rd_T120 x3_1 (ji12)).f0.f2) ((rd_T120 x3_1 (ji12)).f1) ((rd_T120 x3_1 (ji12)).f2) ((rd_T120 x3_1 (ji12)).f3) ((rd_T120 x3_1 (ji12)).f4) ((rd_T120 x3_1 (ji12)).f5) ((rd_T120 x3_1 (ji12)).f6) true _ A15.out).mono ?_); rintro e w23 ⟨rfl, hb⟩; have n0_ := Ja38_.mk (Kd.R_below (by (with_reducible repeat (first | apply Kd.R_alloc | apply Kd.R_drewN | apply Kd.R_drew)); exact HO_3.out) hb); have n1_ := Ja38_.mk (Ja47_ (g := gb102) (o := .cells #[.string ((rd_T120 l0 x9_1).f0.f0), .string ((rd_T120 l0 x9_1).f0.f1), .string ((rd_T120 l0 x9_1).f0.f2), .bool ((rd_T120 l0 x9_1).f1), .string ((rd_T120 l0 x9_1).f2), .string ((rd_T120 l0 x9_1).f3), .string ((rd_T120 l0 x9_1).f4), .string ((rd_T120 l0 x9_1).f5), .bool ((rd_T120 l0 x9_1).f6)] 120 (0, 0)) (by (with_reducible repeat (first | refine Ja50_ ?_ _ | refine Ja49_ ?_ | refine Ja48_ ?_ _)); exact BK102.out) hb); have n2_ := Ja38_.mk (Ja44_ (by repeat (first | (with_reducible first | exact HB.out | apply Ja43_ | apply Ja41_ | apply Ja42_ | refine Ja46_ ?_ GE102.out) | exact HB.out)) hb); clear HO_3; clear BK102; clear HB; have HO_3 := n0_; have BK102 := n1_; have HB := n2_; clear n0_ n1_ n2_; (try clear hb); (try clear hb2); (try clear hk); (try clear hi)))
             have n0_ := Ja38_.mk (Kd.R_drew HO_3.out)
             have n1_ := Ja38_.mk (Ja49_ BK102.out)
             have n2_ := Ja38_.mk (Ja42_ HB.out)
             clear HO_3
             clear BK102
             clear HB
             have HO_3 := n0_
             have BK102 := n1_
             have HB := n2_
             clear n0_ n1_ n2_
             have p106 : 0 ≤ ((ji12) : Int) := of_decide_eq_true (by first | (with_reducible assumption) | assumption)
             have q106 : (ji12) < (x3_1.length : Int) := of_decide_eq_true (by first | (with_reducible assumption) | assumption)
             obtain ⟨ad106, e106, hx106_0, hx106_1, hx106_2, hx106_3, hx106_4, hx106_5, hx106_6, hx106_7, hx106_8⟩ := at_T120 (Kd.R_reads' HO_3.out).2.2 (ji12) p106 q106
             obtain rfl : ad104 = ad106 := (by injection e106)
             replace p106 := eq_true p106
             replace q106 := eq_true q106
             have p18 : 0 ≤ ((ji12) : Int) := of_decide_eq_true (by first | (with_reducible assumption) | assumption)
             have q18 : ((ji12) : Int) < ((x3_1.length : Int) : Int) := of_decide_eq_true (by first | (with_reducible assumption) | assumption)
             obtain ⟨go18, co18, eo18, gb18, gl18, cl18, HG18⟩ := Kd.R_form HO_3.out (by omega)
             (first | cases eo18 | (injection eo18 with ea_ en_ ec_; (first | subst ea_ | (injection ea_ with ea_; subst ea_)); subst ec_; clear en_))
             have GB18 := Ja38_.mk gb18
             have GG18 := Ja38_.mk HG18
             clear gb18 gl18 HG18
             (first | simp only [add_plain] at hx104_0 | skip)
             (first | simp only [add_plain] at hx104_1 | skip)
             (first | simp only [add_plain] at hx104_2 | skip)
             (first | simp only [add_plain] at hx104_3 | skip)
             (first | simp only [add_plain] at hx104_4 | skip)
             (first | simp only [add_plain] at hx104_5 | skip)
             (first | simp only [add_plain] at hx104_6 | skip)
             (first | simp only [add_plain] at hx104_7 | skip)
             (first | simp only [add_plain] at hx104_8 | skip)
             (first | simp only [add_plain] at hx106_0 | skip)
             (first | simp only [add_plain] at hx106_1 | skip)
             (first | simp only [add_plain] at hx106_2 | skip)
             (first | simp only [add_plain] at hx106_3 | skip)
             (first | simp only [add_plain] at hx106_4 | skip)
             (first | simp only [add_plain] at hx106_5 | skip)
             (first | simp only [add_plain] at hx106_6 | skip)
             (first | simp only [add_plain] at hx106_7 | skip)
             (first | simp only [add_plain] at hx106_8 | skip)
             obtain ⟨ce18, hcl18, hM18, hcc18, hfr18⟩ := Kd.R_elem HO_3.out z120 ((ji12) : Int) p18 q18
             obtain rfl := k120_openM hM18
             have hx18_0 : World.cell? _ ⟨go18, ((ji12) : Int).toNat * 9, none⟩ = some (.string ((rd_T120 x3_1 (ji12)).f0.f0)) := hcc18 0 _ rfl
             have hx18_1 : World.cell? _ ⟨go18, ((ji12) : Int).toNat * 9 + 1, none⟩ = some (.string ((rd_T120 x3_1 (ji12)).f0.f1)) := hcc18 1 _ rfl
             have hx18_2 : World.cell? _ ⟨go18, ((ji12) : Int).toNat * 9 + 2, none⟩ = some (.string ((rd_T120 x3_1 (ji12)).f0.f2)) := hcc18 2 _ rfl
             have hx18_3 : World.cell? _ ⟨go18, ((ji12) : Int).toNat * 9 + 3, none⟩ = some (.bool ((rd_T120 x3_1 (ji12)).f1)) := hcc18 3 _ rfl
             have hx18_4 : World.cell? _ ⟨go18, ((ji12) : Int).toNat * 9 + 4, none⟩ = some (.string ((rd_T120 x3_1 (ji12)).f2)) := hcc18 4 _ rfl
             have hx18_5 : World.cell? _ ⟨go18, ((ji12) : Int).toNat * 9 + 5, none⟩ = some (.string ((rd_T120 x3_1 (ji12)).f3)) := hcc18 5 _ rfl
             have hx18_6 : World.cell? _ ⟨go18, ((ji12) : Int).toNat * 9 + 6, none⟩ = some (.string ((rd_T120 x3_1 (ji12)).f4)) := hcc18 6 _ rfl
             have hx18_7 : World.cell? _ ⟨go18, ((ji12) : Int).toNat * 9 + 7, none⟩ = some (.string ((rd_T120 x3_1 (ji12)).f5)) := hcc18 7 _ rfl
             have hx18_8 : World.cell? _ ⟨go18, ((ji12) : Int).toNat * 9 + 8, none⟩ = some (.bool ((rd_T120 x3_1 (ji12)).f6)) := hcc18 8 _ rfl
             have hf18_0 : World.frozen? _ ⟨go18, ((ji12) : Int).toNat * 9, none⟩ = false := hfr18 0
             have hf18_1 : World.frozen? _ ⟨go18, ((ji12) : Int).toNat * 9 + 1, none⟩ = false := hfr18 1
             have hf18_2 : World.frozen? _ ⟨go18, ((ji12) : Int).toNat * 9 + 2, none⟩ = false := hfr18 2
             have hf18_3 : World.frozen? _ ⟨go18, ((ji12) : Int).toNat * 9 + 3, none⟩ = false := hfr18 3
             have hf18_4 : World.frozen? _ ⟨go18, ((ji12) : Int).toNat * 9 + 4, none⟩ = false := hfr18 4
             have hf18_5 : World.frozen? _ ⟨go18, ((ji12) : Int).toNat * 9 + 5, none⟩ = false := hfr18 5
             have hf18_6 : World.frozen? _ ⟨go18, ((ji12) : Int).toNat * 9 + 6, none⟩ = false := hfr18 6
             have hf18_7 : World.frozen? _ ⟨go18, ((ji12) : Int).toNat * 9 + 7, none⟩ = false := hfr18 7
             have hf18_8 : World.frozen? _ ⟨go18, ((ji12) : Int).toNat * 9 + 8, none⟩ = false := hfr18 8
             clear hcl18 hcc18 hfr18 hM18
             replace p18 := eq_true p18
             replace q18 := eq_true q18
             obtain ⟨ce25, hcl25, hM25, hcc25, hfr25⟩ := Kd.R_elem HO_3.out z120 ((ji12) : Int) (of_decide_eq_true (by first | (with_reducible assumption) | assumption)) (by have h_ : ((ji12) : Int) < ((x3_1.length : Int) : Int) := of_decide_eq_true (by first | (with_reducible assumption) | assumption); first | exact h_ | (have e_ := (Kd.R_reads' HO_3.out).1; omega) | simpa using h_)
             obtain rfl := k120_openM hM25
             have HP25 := (Kd.R_seg HO_3.out ((ji12) : Int) (of_decide_eq_true (by first | (with_reducible assumption) | assumption)) (by have h_ : ((ji12) : Int) < ((x3_1.length : Int) : Int) := of_decide_eq_true (by first | (with_reducible assumption) | assumption); first | exact h_ | (have e_ := (Kd.R_reads' HO_3.out).1; omega) | simpa using h_) (seg := [.string (((rd_T120 x3_1 (ji12)).f2) ++ ((rd_T120 l0 x9_1).f2))]) (j := 4) hcl25 hcc25 (show 5 ≤ 9 from by decide) (x' := (⟨(⟨(rd_T120 x3_1 (ji12)).f0.f0, (rd_T120 x3_1 (ji12)).f0.f1, (rd_T120 x3_1 (ji12)).f0.f2⟩ : S116), (rd_T120 x3_1 (ji12)).f1, ((rd_T120 x3_1 (ji12)).f2) ++ ((rd_T120 l0 x9_1).f2), (rd_T120 x3_1 (ji12)).f3, (rd_T120 x3_1 (ji12)).f4, (rd_T120 x3_1 (ji12)).f5, (rd_T120 x3_1 (ji12)).f6⟩ : S120)) (k120_mkM _ _ _ (⟨(⟨(rd_T120 x3_1 (ji12)).f0.f0, (rd_T120 x3_1 (ji12)).f0.f1, (rd_T120 x3_1 (ji12)).f0.f2⟩ : S116), (rd_T120 x3_1 (ji12)).f1, ((rd_T120 x3_1 (ji12)).f2) ++ ((rd_T120 l0 x9_1).f2), (rd_T120 x3_1 (ji12)).f3, (rd_T120 x3_1 (ji12)).f4, (rd_T120 x3_1 (ji12)).f5, (rd_T120 x3_1 (ji12)).f6⟩ : S120) ) (fun _ hk => hk)).1
             rw [← Ny107.out] at HP25
             have HQ25 := Ja38_.mk HP25
             clear hcl25 hcc25 hfr25 hM25 HP25
             refine start_ (n := 12) (S := fun w' => w'.cell? ⟨gb102, 0, none⟩ = some (.string ((rd_T120 l0 x9_1).f0.f0)) ∧ w'.cell? ⟨gb102, 1, none⟩ = some (.string ((rd_T120 l0 x9_1).f0.f1)) ∧ w'.cell? ⟨gb102, 2, none⟩ = some (.string ((rd_T120 l0 x9_1).f0.f2)) ∧ w'.cell? ⟨gb102, 3, none⟩ = some (.bool ((rd_T120 l0 x9_1).f1)) ∧ w'.cell? ⟨gb102, 4, none⟩ = some (.string ((rd_T120 l0 x9_1).f2)) ∧ w'.cell? ⟨gb102, 5, none⟩ = some (.string ((rd_T120 l0 x9_1).f3)) ∧ w'.cell? ⟨gb102, 6, none⟩ = some (.string ((rd_T120 l0 x9_1).f4)) ∧ w'.cell? ⟨gb102, 7, none⟩ = some (.string ((rd_T120 l0 x9_1).f5)) ∧ w'.cell? ⟨gb102, 8, none⟩ = some (.bool ((rd_T120 l0 x9_1).f6)) ∧ w'.cell? ⟨go18, ((ji12) : Int).toNat * 9, none⟩ = some (.string ((rd_T120 x3_1 (ji12)).f0.f0)) ∧ w'.cell? ⟨go18, ((ji12) : Int).toNat * 9 + 1, none⟩ = some (.string ((rd_T120 x3_1 (ji12)).f0.f1)) ∧ w'.cell? ⟨go18, ((ji12) : Int).toNat * 9 + 2, none⟩ = some (.string ((rd_T120 x3_1 (ji12)).f0.f2)) ∧ w'.cell? ⟨go18, ((ji12) : Int).toNat * 9 + 3, none⟩ = some (.bool ((rd_T120 x3_1 (ji12)).f1)) ∧ w'.cell? ⟨go18, ((ji12) : Int).toNat * 9 + 4, none⟩ = some (.string ((rd_T120 x3_1 (ji12)).f2)) ∧ w'.cell? ⟨go18, ((ji12) : Int).toNat * 9 + 5, none⟩ = some (.string ((rd_T120 x3_1 (ji12)).f3)) ∧ w'.cell? ⟨go18, ((ji12) : Int).toNat * 9 + 6, none⟩ = some (.string ((rd_T120 x3_1 (ji12)).f4)) ∧ w'.cell? ⟨go18, ((ji12) : Int).toNat * 9 + 7, none⟩ = some (.string ((rd_T120 x3_1 (ji12)).f5)) ∧ w'.cell? ⟨go18, ((ji12) : Int).toNat * 9 + 8, none⟩ = some (.bool ((rd_T120 x3_1 (ji12)).f6))) (ds := [11]) (bz_ 12 0) (by kernel_rfl) rfl rfl ⟨(Ja39_ BK102.out 0).trans rfl, (Ja39_ BK102.out 1).trans rfl, (Ja39_ BK102.out 2).trans rfl, (Ja39_ BK102.out 3).trans rfl, (Ja39_ BK102.out 4).trans rfl, (Ja39_ BK102.out 5).trans rfl, (Ja39_ BK102.out 6).trans rfl, (Ja39_ BK102.out 7).trans rfl, (Ja39_ BK102.out 8).trans rfl, hx18_0, hx18_1, hx18_2, hx18_3, hx18_4, hx18_5, hx18_6, hx18_7, hx18_8⟩ (fun hHeld => ?_); refine with_tabW doc_Of.tab9 doc_Of.bits9 (fun HT_ HW_ => ?_)
             generalize w23.drew = w24 at HO_3 BK102 HB GG18 HQ25 hf18_0 hf18_1 hf18_2 hf18_3 hf18_4 hf18_5 hf18_6 hf18_7 hf18_8 hx104_0 hx104_1 hx104_2 hx104_3 hx104_4 hx104_5 hx104_6 hx104_7 hx104_8 hx106_0 hx106_1 hx106_2 hx106_3 hx106_4 hx106_5 hx106_6 hx106_7 hx106_8 hx18_0 hx18_1 hx18_2 hx18_3 hx18_4 hx18_5 hx18_6 hx18_7 hx18_8 hHeld ⊢
             refine pure_ (i := 0) (N := some 38) (v := ?_) (a' := ?_) (bz_ 12 1) rfl rfl (any_of HT_.out (by kernel_rfl)) (fun _ _ _ h => h) (Or.inl ⟨by rfl, ?_⟩) ?_ ?_
             rotate_left
             ·intro w'
              go_simp
              with_reducible rfl
             rotate_left
             ·simp only [Act.put, sA_, sB_, sC_, i64_w, i32_w]
              rfl
             refine pure_ (i := 1) (N := some 39) (v := ?_) (a' := ?_) (bz_ 12 3) rfl rfl (any_of HT_.out (by kernel_rfl)) (fun _ _ _ h => h) (Or.inl ⟨by rfl, ?_⟩) ?_ ?_
             rotate_left
             ·intro w'
              go_simp
              with_reducible rfl
             rotate_left
             ·simp only [Act.put, sA_, sB_, sC_, i64_w, i32_w]
              rfl
             refine pure_ (i := 2) (N := some 40) (v := ?_) (a' := ?_) (bz_ 12 7) rfl rfl (any_of HT_.out (by kernel_rfl)) (fun _ _ _ h => h) (Or.inl ⟨by rfl, ?_⟩) ?_ ?_
             rotate_left
             ·intro w'
              go_simp
              with_reducible rfl
             rotate_left
             ·simp only [Act.put, sA_, sB_, sC_, i64_w, i32_w]
              rfl
             refine pure_ (i := 3) (N := some 41) (v := ?_) (a' := ?_) (bz_ 12 15) rfl rfl (any_of HT_.out (by kernel_rfl)) (fun _ _ _ h => h) (Or.inl ⟨by rfl, ?_⟩) ?_ ?_
             rotate_left
             ·intro w'
              go_simp
              with_reducible rfl
             rotate_left
             ·simp only [Act.put, sA_, sB_, sC_, i64_w, i32_w]
              rfl
             refine pure_ (i := 4) (N := some 42) (v := ?_) (a' := ?_) (bz_ 12 31) rfl rfl (any_of HT_.out (by kernel_rfl)) (fun _ _ _ h => h) (Or.inl ⟨by rfl, ?_⟩) ?_ ?_
             rotate_left
             ·intro w'
              go_simp
              with_reducible rfl
             rotate_left
             ·simp only [Act.put, sA_, sB_, sC_, i64_w, i32_w]
              rfl
             refine pure_ (i := 6) (N := some 44) (v := ?_) (a' := ?_) (bz_ 12 95) rfl rfl (any_of HT_.out (by kernel_rfl)) (fun _ _ _ h => h) (Or.inl ⟨by rfl, ?_⟩) ?_ ?_
             rotate_left
             ·intro w'
              go_simp
              with_reducible rfl
             rotate_left
             ·simp only [Act.put, sA_, sB_, sC_, i64_w, i32_w]
              rfl
             refine take_ (i := 5) (N := some 43) (v := ?_) (a' := ?_) (bz_ 12 127) rfl rfl (Ja52_ HT_.out HW_.out (by kernel_rfl)) (fun _ _ _ h => h) (Or.inl ⟨by rfl, ?_⟩) hHeld ?_ ?_
             rotate_left
             ·rintro w' ⟨s0, s1, s2, s3, s4, s5, s6, s7, s8, s9, s10, s11, s12, s13, s14, s15, s16, s17⟩
              go_simp
              with_reducible rfl
             rotate_left
             ·simp only [Act.put, sA_, sB_, sC_, i64_w, i32_w]
              rfl
             refine take_ (i := 7) (N := some 45) (v := ?_) (a' := ?_) (bz_ 12 255) rfl rfl (Ja52_ HT_.out HW_.out (by kernel_rfl)) (fun _ _ _ h => h) (Or.inl ⟨by rfl, ?_⟩) hHeld ?_ ?_
             rotate_left
             ·rintro w' ⟨s0, s1, s2, s3, s4, s5, s6, s7, s8, s9, s10, s11, s12, s13, s14, s15, s16, s17⟩
              go_simp
              with_reducible rfl
             rotate_left
             ·simp only [Act.put, sA_, sB_, sC_, i64_w, i32_w]
              rfl
             refine pure_ (i := 8) (N := some 46) (v := ?_) (a' := ?_) (bz_ 12 511) rfl rfl (any_of HT_.out (by kernel_rfl)) (fun _ _ _ h => h) (Or.inl ⟨by rfl, ?_⟩) ?_ ?_
             rotate_left
             ·intro w'
              go_simp
              with_reducible rfl
             rotate_left
             ·simp only [Act.put, sA_, sB_, sC_, i64_w, i32_w]
              rfl
             refine pure_ (i := 9) (N := some 47) (v := ?_) (a' := ?_) (bz_ 12 1023) rfl rfl (any_of HT_.out (by kernel_rfl)) (fun _ _ _ h => h) (Or.inl ⟨by rfl, ?_⟩) ?_ ?_
             rotate_left
             ·intro w'
              go_simp
              with_reducible rfl
             rotate_left
             ·simp only [Act.put, sA_, sB_, sC_, i64_w, i32_w]
              rfl
             refine pure_ (i := 10) (N := some 48) (v := ?_) (a' := ?_) (bz_ 12 2047) rfl rfl (any_of HT_.out (by kernel_rfl)) (fun _ _ _ h => h) (Or.inl ⟨by rfl, ?_⟩) ?_ ?_
             rotate_left
             ·intro w'
              go_simp
              with_reducible rfl
             rotate_left
             ·simp only [Act.put, sA_, sB_, sC_, i64_w, i32_w]
              rfl
             refine last_ (i := 11) (N := none) (bz_ 12 4095) rfl rfl (one_of HT_.out (by kernel_rfl)) (by decide) (fun K hK => ?_)
             refine skip_ (w1 := ?_) (by rfl) rfl ?_ ?_
             rotate_left
             ·go_simp
              rfl
             refine hK.out _ _ ?_
             clear hK K
             refine done_ (done_of HT_.out (by kernel_rfl)) ?_
             try go_wp2
             go_roundg k1
             case measure => have := HK1.out; omega
             case rel => exact ⟨(y107), (wrap64 (x9_1 + 1)), (by first | rfl | (simp; done) | (simp [*]; done)), H', ⟨by have := HK1.out; omega⟩, ⟨by (with_reducible repeat (first | apply Kd.R_alloc | apply Kd.R_drewN | apply Kd.R_drew)); exact Kd.R_mono HQ25.out (fun _ hk => trivial)⟩, ⟨by repeat (first | (with_reducible first | exact HB.out | apply Ja43_ | apply Ja41_ | apply Ja42_ | refine Ja46_ ?_ GB18.out | refine Ja46_ ?_ GE102.out) | exact HB.out)⟩⟩
            ·rw [if_neg c17] at H
             exact absurd H (by simp)
           ·replace c16 := Bool.eq_false_iff.mpr c16
            subst c16
            have H1 : (if x3_1.length < 1099511627776 then (doc_Of.l0 k1 (x3_1 ++ [(⟨(⟨(rd_T120 l0 x9_1).f0.f0, (rd_T120 l0 x9_1).f0.f1, (rd_T120 l0 x9_1).f0.f2⟩ : S116), (rd_T120 l0 x9_1).f1, (rd_T120 l0 x9_1).f2, (rd_T120 l0 x9_1).f3, (rd_T120 l0 x9_1).f4, (rd_T120 l0 x9_1).f5, (rd_T120 l0 x9_1).f6⟩ : S120)]) l0 (l0.length : Int) (wrap64 (x9_1 + 1))) else (none)) = some r := by rw [if_neg (show ¬ (false = true) by decide)] at H; exact H
            clear H
            have H := H1
            clear H1
            by_cases c26 : x3_1.length < 1099511627776
            ·rw [if_pos c26] at H
             have LMc26 := Ja38_.mk c26
             clear c26
             obtain ⟨y108, hy108⟩ : ∃ y_ : List (S120), y_ = (x3_1 ++ [(⟨(⟨(rd_T120 l0 x9_1).f0.f0, (rd_T120 l0 x9_1).f0.f1, (rd_T120 l0 x9_1).f0.f2⟩ : S116), (rd_T120 l0 x9_1).f1, (rd_T120 l0 x9_1).f2, (rd_T120 l0 x9_1).f3, (rd_T120 l0 x9_1).f4, (rd_T120 l0 x9_1).f5, (rd_T120 l0 x9_1).f6⟩ : S120)]) := ⟨_, rfl⟩
             replace H : (doc_Of.l0 k1 y108 l0 (l0.length : Int) (wrap64 (x9_1 + 1))) = some r := by first | (rw [hy108]; with_reducible exact H) | (have H2_ := (Option.bind_some _ _).symm.trans H; rw [hy108]; with_reducible exact H2_) | (have H2_ := (Option.bind_some _ _).symm.trans H; with_reducible exact H2_) | with_reducible exact H | (rw [hy108]; exact H) | exact H
             have Ny108 := Ja38_.mk hy108
             clear hy108
             have H' := Ja38_.mk H
             clear H
             have p101 : 0 ≤ (x9_1 : Int) := of_decide_eq_true (by first | (with_reducible assumption) | assumption)
             have q101 : x9_1 < (l0.length : Int) := of_decide_eq_true (by first | (with_reducible assumption) | assumption)
             obtain ⟨ad101, e101, hx101_0, hx101_1, hx101_2, hx101_3, hx101_4, hx101_5, hx101_6, hx101_7, hx101_8⟩ := at_T120 HR0.out x9_1 p101 q101
             cases e101
             replace hx101_0 := (HB.out.cell (World.block_lt_of_cell? w _ hx101_0)).trans hx101_0
             replace hx101_1 := (HB.out.cell (World.block_lt_of_cell? w _ hx101_1)).trans hx101_1
             replace hx101_2 := (HB.out.cell (World.block_lt_of_cell? w _ hx101_2)).trans hx101_2
             replace hx101_3 := (HB.out.cell (World.block_lt_of_cell? w _ hx101_3)).trans hx101_3
             replace hx101_4 := (HB.out.cell (World.block_lt_of_cell? w _ hx101_4)).trans hx101_4
             replace hx101_5 := (HB.out.cell (World.block_lt_of_cell? w _ hx101_5)).trans hx101_5
             replace hx101_6 := (HB.out.cell (World.block_lt_of_cell? w _ hx101_6)).trans hx101_6
             replace hx101_7 := (HB.out.cell (World.block_lt_of_cell? w _ hx101_7)).trans hx101_7
             replace hx101_8 := (HB.out.cell (World.block_lt_of_cell? w _ hx101_8)).trans hx101_8
             replace p101 := eq_true p101
             replace q101 := eq_true q101
             go_wp2_with (first | ((with_reducible refine gate_dst (N := 5) rfl ?_); refine box_event ?hg (N := 5) ?hd (cs := #[.string (⟨#[]⟩ : ByteArray), .string (⟨#[]⟩ : ByteArray), .string (⟨#[]⟩ : ByteArray), .bool false, .string (⟨#[]⟩ : ByteArray), .string (⟨#[]⟩ : ByteArray), .string (⟨#[]⟩ : ByteArray), .string (⟨#[]⟩ : ByteArray), .bool false]) (t := 120) ?hr ?_; (case hd => rfl); (case hg => rfl); (case hr => first | (go_simp; done) | (go_simp; rfl)); intro gb102 hg w27 hbox hb; have n0_ := Ja38_.mk (Kd.R_below (Kd.R_elderB (by (with_reducible repeat (first | apply Kd.R_alloc | apply Kd.R_drewN | apply Kd.R_drew)); exact HO_3.out) gb102 (Nat.le_of_eq hg.symm)) hb); have n1_ := Ja38_.mk (Ja44_ (by repeat (first | (with_reducible first | exact HB.out | apply Ja43_ | apply Ja41_ | apply Ja42_) | exact HB.out)) hb); have n2_ := Ja38_.mk (hbox); have n3_ := Ja38_.mk ((by rw [hg]; exact (Ja45_ (by repeat (first | (with_reducible first | exact HB.out | apply Ja43_ | apply Ja41_ | apply Ja42_) | exact HB.out))) : w.heap.size ≤ gb102)); have n4_ := Ja38_.mk ((by rw [hg]; exact (Ja45_ (by repeat (first | (with_reducible first | exact HB.out | apply Ja43_ | apply Ja41_ | apply Ja42_) | exact HB.out))) : w.heap.size ≤ gb102)); clear HO_3; clear HB; have HO_3 := n0_; have HB := n1_; have BK102 := n2_; have GW102 := n3_; have GE102 := n4_; clear n0_ n1_ n2_ n3_ n4_; clear hb hbox hg; have hcz28_0 : w27.cell? ⟨gb102, 0, none⟩ = some (.string (⟨#[]⟩ : ByteArray)) := (Ja39_ BK102.out 0).trans rfl; have hcz28_1 : w27.cell? ⟨gb102, 1, none⟩ = some (.string (⟨#[]⟩ : ByteArray)) := (Ja39_ BK102.out 1).trans rfl; have hcz28_2 : w27.cell? ⟨gb102, 2, none⟩ = some (.string (⟨#[]⟩ : ByteArray)) := (Ja39_ BK102.out 2).trans rfl; have hcz28_3 : w27.cell? ⟨gb102, 3, none⟩ = some (.bool false) := (Ja39_ BK102.out 3).trans rfl; have hcz28_4 : w27.cell? ⟨gb102, 4, none⟩ = some (.string (⟨#[]⟩ : ByteArray)) := (Ja39_ BK102.out 4).trans rfl; have hcz28_5 : w27.cell? ⟨gb102, 5, none⟩ = some (.string (⟨#[]⟩ : ByteArray)) := (Ja39_ BK102.out 5).trans rfl; have hcz28_6 : w27.cell? ⟨gb102, 6, none⟩ = some (.string (⟨#[]⟩ : ByteArray)) := (Ja39_ BK102.out 6).trans rfl; have hcz28_7 : w27.cell? ⟨gb102, 7, none⟩ = some (.string (⟨#[]⟩ : ByteArray)) := (Ja39_ BK102.out 7).trans rfl; have hcz28_8 : w27.cell? ⟨gb102, 8, none⟩ = some (.bool false) := (Ja39_ BK102.out 8).trans rfl; have hfz28_0 := Ja40_ BK102.out 0; have hfz28_1 := Ja40_ BK102.out 1; have hfz28_2 := Ja40_ BK102.out 2; have hfz28_3 := Ja40_ BK102.out 3; have hfz28_4 := Ja40_ BK102.out 4; have hfz28_5 := Ja40_ BK102.out 5; have hfz28_6 := Ja40_ BK102.out 6; have hfz28_7 := Ja40_ BK102.out 7; have hfz28_8 := Ja40_ BK102.out 8; obtain ⟨Ao29, co29, eo29⟩ := Kd.R_slice HO_3.out; subst eo29) | ((with_reducible refine gate_callee (f := 114) rfl ?_); refine goesL_ (some 25) rfl rfl Try.func114 (by kernel_rfl) rfl #[.agg #[.string ((rd_T120 l0 x9_1).f0.f0), .string ((rd_T120 l0 x9_1).f0.f1), .string ((rd_T120 l0 x9_1).f0.f2), .bool ((rd_T120 l0 x9_1).f1), .string ((rd_T120 l0 x9_1).f2), .string ((rd_T120 l0 x9_1).f3), .string ((rd_T120 l0 x9_1).f4), .string ((rd_T120 l0 x9_1).f5), .bool ((rd_T120 l0 x9_1).f6)]] rfl (by (try simp only [List.map_toArray, List.map_cons, List.map_nil]); first | done | rfl | (simp only [List.length_drop, List.length_take]; rfl)) ?_; (with_reducible refine (J11_.calls ((rd_T120 l0 x9_1).f0.f0) ((rd_T120 l0 x9_1).f0.f1) ((rd_T120 l0 x9_1).f0.f2) ((rd_T120 l0 x9_1).f1) ((rd_T120 l0 x9_1).f2) ((rd_T120 l0 x9_1).f3) ((rd_T120 l0 x9_1).f4) ((rd_T120 l0 x9_1).f5) ((rd_T120 l0 x9_1).f6) true _ A9.out).mono ?_); rintro e w30 ⟨rfl, hb⟩; refine ⟨_, rfl, ?_⟩; have n0_ := Ja38_.mk (Kd.R_below (by (with_reducible repeat (first | apply Kd.R_alloc | apply Kd.R_drewN | apply Kd.R_drew)); exact (Kd.R_mono (Kd.R_far (p := ⟨gb102, 8, none⟩) (Kd.R_far (p := ⟨gb102, 7, none⟩) (Kd.R_far (p := ⟨gb102, 6, none⟩) (Kd.R_far (p := ⟨gb102, 5, none⟩) (Kd.R_far (p := ⟨gb102, 4, none⟩) (Kd.R_far (p := ⟨gb102, 3, none⟩) (Kd.R_far (p := ⟨gb102, 2, none⟩) (Kd.R_far (p := ⟨gb102, 1, none⟩) (Kd.R_far (p := ⟨gb102, 0, none⟩) (Kd.R_mono HO_3.out (fun k_ hk => (⟨hk, hk.2⟩ : _ ∧ k_ ≠ gb102))) (fun _ hk => hk.2) (.string ((rd_T120 l0 x9_1).f0.f0))) (fun _ hk => hk.2) (.string ((rd_T120 l0 x9_1).f0.f1))) (fun _ hk => hk.2) (.string ((rd_T120 l0 x9_1).f0.f2))) (fun _ hk => hk.2) (.bool ((rd_T120 l0 x9_1).f1))) (fun _ hk => hk.2) (.string ((rd_T120 l0 x9_1).f2))) (fun _ hk => hk.2) (.string ((rd_T120 l0 x9_1).f3))) (fun _ hk => hk.2) (.string ((rd_T120 l0 x9_1).f4))) (fun _ hk => hk.2) (.string ((rd_T120 l0 x9_1).f5))) (fun _ hk => hk.2) (.bool ((rd_T120 l0 x9_1).f6))) (fun _ h_ => h_.1))) hb); have n1_ := Ja38_.mk (Ja47_ (g := gb102) (o := .cells #[.string ((rd_T120 l0 x9_1).f0.f0), .string ((rd_T120 l0 x9_1).f0.f1), .string ((rd_T120 l0 x9_1).f0.f2), .bool ((rd_T120 l0 x9_1).f1), .string ((rd_T120 l0 x9_1).f2), .string ((rd_T120 l0 x9_1).f3), .string ((rd_T120 l0 x9_1).f4), .string ((rd_T120 l0 x9_1).f5), .bool ((rd_T120 l0 x9_1).f6)] 120 (0, 0)) (by (with_reducible repeat (first | refine Ja50_ ?_ _ | refine Ja49_ ?_ | refine Ja48_ ?_ _)); refine blk_put (cs := #[.string ((rd_T120 l0 x9_1).f0.f0), .string ((rd_T120 l0 x9_1).f0.f1), .string ((rd_T120 l0 x9_1).f0.f2), .bool ((rd_T120 l0 x9_1).f1), .string ((rd_T120 l0 x9_1).f2), .string ((rd_T120 l0 x9_1).f3), .string ((rd_T120 l0 x9_1).f4), .string ((rd_T120 l0 x9_1).f5), .bool false]) ?_ 8 _ rfl; (with_reducible repeat (first | refine Ja50_ ?_ _ | refine Ja49_ ?_ | refine Ja48_ ?_ _)); refine blk_put (cs := #[.string ((rd_T120 l0 x9_1).f0.f0), .string ((rd_T120 l0 x9_1).f0.f1), .string ((rd_T120 l0 x9_1).f0.f2), .bool ((rd_T120 l0 x9_1).f1), .string ((rd_T120 l0 x9_1).f2), .string ((rd_T120 l0 x9_1).f3), .string ((rd_T120 l0 x9_1).f4), .string (⟨#[]⟩ : ByteArray), .bool false]) ?_ 7 _ rfl; (with_reducible repeat (first | refine Ja50_ ?_ _ | refine Ja49_ ?_ | refine Ja48_ ?_ _)); refine blk_put (cs := #[.string ((rd_T120 l0 x9_1).f0.f0), .string ((rd_T120 l0 x9_1).f0.f1), .string ((rd_T120 l0 x9_1).f0.f2), .bool ((rd_T120 l0 x9_1).f1), .string ((rd_T120 l0 x9_1).f2), .string ((rd_T120 l0 x9_1).f3), .string (⟨#[]⟩ : ByteArray), .string (⟨#[]⟩ : ByteArray), .bool false]) ?_ 6 _ rfl; (with_reducible repeat (first | refine Ja50_ ?_ _ | refine Ja49_ ?_ | refine Ja48_ ?_ _)); refine blk_put (cs := #[.string ((rd_T120 l0 x9_1).f0.f0), .string ((rd_T120 l0 x9_1).f0.f1), .string ((rd_T120 l0 x9_1).f0.f2), .bool ((rd_T120 l0 x9_1).f1), .string ((rd_T120 l0 x9_1).f2), .string (⟨#[]⟩ : ByteArray), .string (⟨#[]⟩ : ByteArray), .string (⟨#[]⟩ : ByteArray), .bool false]) ?_ 5 _ rfl; (with_reducible repeat (first | refine Ja50_ ?_ _ | refine Ja49_ ?_ | refine Ja48_ ?_ _)); refine blk_put (cs := #[.string ((rd_T120 l0 x9_1).f0.f0), .string ((rd_T120 l0 x9_1).f0.f1), .string ((rd_T120 l0 x9_1).f0.f2), .bool ((rd_T120 l0 x9_1).f1), .string (⟨#[]⟩ : ByteArray), .string (⟨#[]⟩ : ByteArray), .string (⟨#[]⟩ : ByteArray), .string (⟨#[]⟩ : ByteArray), .bool false]) ?_ 4 _ rfl; (with_reducible repeat (first | refine Ja50_ ?_ _ | refine Ja49_ ?_ | refine Ja48_ ?_ _)); refine blk_put (cs := #[.string ((rd_T120 l0 x9_1).f0.f0), .string ((rd_T120 l0 x9_1).f0.f1), .string ((rd_T120 l0 x9_1).f0.f2), .bool false, .string (⟨#[]⟩ : ByteArray), .string (⟨#[]⟩ : ByteArray), .string (⟨#[]⟩ : ByteArray), .string (⟨#[]⟩ : ByteArray), .bool false]) ?_ 3 _ rfl; (with_reducible repeat (first | refine Ja50_ ?_ _ | refine Ja49_ ?_ | refine Ja48_ ?_ _)); refine blk_put (cs := #[.string ((rd_T120 l0 x9_1).f0.f0), .string ((rd_T120 l0 x9_1).f0.f1), .string (⟨#[]⟩ : ByteArray), .bool false, .string (⟨#[]⟩ : ByteArray), .string (⟨#[]⟩ : ByteArray), .string (⟨#[]⟩ : ByteArray), .string (⟨#[]⟩ : ByteArray), .bool false]) ?_ 2 _ rfl; (with_reducible repeat (first | refine Ja50_ ?_ _ | refine Ja49_ ?_ | refine Ja48_ ?_ _)); refine blk_put (cs := #[.string ((rd_T120 l0 x9_1).f0.f0), .string (⟨#[]⟩ : ByteArray), .string (⟨#[]⟩ : ByteArray), .bool false, .string (⟨#[]⟩ : ByteArray), .string (⟨#[]⟩ : ByteArray), .string (⟨#[]⟩ : ByteArray), .string (⟨#[]⟩ : ByteArray), .bool false]) ?_ 1 _ rfl; (with_reducible repeat (first | refine Ja50_ ?_ _ | refine Ja49_ ?_ | refine Ja48_ ?_ _)); refine blk_put (cs := #[.string (⟨#[]⟩ : ByteArray), .string (⟨#[]⟩ : ByteArray), .string (⟨#[]⟩ : ByteArray), .bool false, .string (⟨#[]⟩ : ByteArray), .string (⟨#[]⟩ : ByteArray), .string (⟨#[]⟩ : ByteArray), .string (⟨#[]⟩ : ByteArray), .bool false]) ?_ 0 _ rfl; (with_reducible repeat (first | refine Ja50_ ?_ _ | refine Ja49_ ?_ | refine Ja48_ ?_ _)); exact BK102.out) hb); have n2_ := Ja38_.mk (Ja44_ (by repeat (first | (with_reducible first | exact HB.out | apply Ja43_ | apply Ja41_ | apply Ja42_ | refine Ja46_ ?_ GE102.out) | exact HB.out)) hb); clear HO_3; clear BK102; clear HB; have HO_3 := n0_; have BK102 := n1_; have HB := n2_; clear n0_ n1_ n2_; (try clear hb); (try clear hb2); (try clear hk); (try clear hi); have p104 : 0 ≤ ((ji12) : Int) := of_decide_eq_true (by first | (with_reducible assumption) | assumption); have q104 : (ji12) < (x3_1.length : Int) := of_decide_eq_true (by first | (with_reducible assumption) | assumption); obtain ⟨ad104, e104, hx104_0, hx104_1, hx104_2, hx104_3, hx104_4, hx104_5, hx104_6, hx104_7, hx104_8⟩ := at_T120 (Kd.R_reads' HO_3.out).2.2 (ji12) p104 q104; cases e104; replace p104 := eq_true p104; replace q104 := eq_true q104) | (go_at_call 114; (with_reducible refine (J11_.calls ((rd_T120 x3_1 (ji12)).f0.f0) ((rd_T120 x3_1 (ji12)).f0.f1) ((rd_T120 x3_1 (ji12)).f0.f2) ((rd_T120 x3_1 (ji12)).f1) ((rd_T120 x3_1 (ji12)).f2) ((rd_T120 x3_1 (ji12)).f3) ((rd_T120 x3_1 (ji12)).f4) ((rd_T120 x3_1 (ji12)).f5) ((rd_T120 x3_1 (ji12)).f6) false _ A15.out).mono ?_); rintro e w31 ⟨rfl, hb⟩; have n0_ := Ja38_.mk (Kd.R_below (by (with_reducible repeat (first | apply Kd.R_alloc | apply Kd.R_drewN | apply Kd.R_drew)); exact HO_3.out) hb); have n1_ := Ja38_.mk (Ja47_ (g := gb102) (o := .cells #[.string ((rd_T120 l0 x9_1).f0.f0), .string ((rd_T120 l0 x9_1).f0.f1), .string ((rd_T120 l0 x9_1).f0.f2), .bool ((rd_T120 l0 x9_1).f1), .string ((rd_T120 l0 x9_1).f2), .string ((rd_T120 l0 x9_1).f3), .string ((rd_T120 l0 x9_1).f4), .string ((rd_T120 l0 x9_1).f5), .bool ((rd_T120 l0 x9_1).f6)] 120 (0, 0)) (by (with_reducible repeat (first | refine Ja50_ ?_ _ | refine Ja49_ ?_ | refine Ja48_ ?_ _)); exact BK102.out) hb); have n2_ := Ja38_.mk (Ja44_ (by repeat (first | (with_reducible first | exact HB.out | apply Ja43_ | apply Ja41_ | apply Ja42_ | refine Ja46_ ?_ GE102.out) | exact HB.out)) hb); clear HO_3; clear BK102; clear HB; have HO_3 := n0_; have BK102 := n1_; have HB := n2_; clear n0_ n1_ n2_; (try clear hb); (try clear hb2); (try clear hk); (try clear hi); have hcz32_0 : w31.cell? ⟨gb102, 0, none⟩ = some (.string ((rd_T120 l0 x9_1).f0.f0)) := (Ja39_ BK102.out 0).trans rfl; have hcz32_1 : w31.cell? ⟨gb102, 1, none⟩ = some (.string ((rd_T120 l0 x9_1).f0.f1)) := (Ja39_ BK102.out 1).trans rfl; have hcz32_2 : w31.cell? ⟨gb102, 2, none⟩ = some (.string ((rd_T120 l0 x9_1).f0.f2)) := (Ja39_ BK102.out 2).trans rfl; have hcz32_3 : w31.cell? ⟨gb102, 3, none⟩ = some (.bool ((rd_T120 l0 x9_1).f1)) := (Ja39_ BK102.out 3).trans rfl; have hcz32_4 : w31.cell? ⟨gb102, 4, none⟩ = some (.string ((rd_T120 l0 x9_1).f2)) := (Ja39_ BK102.out 4).trans rfl; have hcz32_5 : w31.cell? ⟨gb102, 5, none⟩ = some (.string ((rd_T120 l0 x9_1).f3)) := (Ja39_ BK102.out 5).trans rfl; have hcz32_6 : w31.cell? ⟨gb102, 6, none⟩ = some (.string ((rd_T120 l0 x9_1).f4)) := (Ja39_ BK102.out 6).trans rfl; have hcz32_7 : w31.cell? ⟨gb102, 7, none⟩ = some (.string ((rd_T120 l0 x9_1).f5)) := (Ja39_ BK102.out 7).trans rfl; have hcz32_8 : w31.cell? ⟨gb102, 8, none⟩ = some (.bool ((rd_T120 l0 x9_1).f6)) := (Ja39_ BK102.out 8).trans rfl; have hfz32_0 := Ja40_ BK102.out 0; have hfz32_1 := Ja40_ BK102.out 1; have hfz32_2 := Ja40_ BK102.out 2; have hfz32_3 := Ja40_ BK102.out 3; have hfz32_4 := Ja40_ BK102.out 4; have hfz32_5 := Ja40_ BK102.out 5; have hfz32_6 := Ja40_ BK102.out 6; have hfz32_7 := Ja40_ BK102.out 7; have hfz32_8 := Ja40_ BK102.out 8) | ((with_reducible refine gate_builtin (b := .append) (xs := #[.tmp 15, .tmp 17]) rfl ?_); at_builtin; refine Kd.R_append k120 (w0 := w) w.heap.size rfl (.tmp 15) (.tmp 17) 89 120 (.agg #[(.string ⟨#[]⟩), (.string ⟨#[]⟩), (.string ⟨#[]⟩), (.bool false), (.string ⟨#[]⟩), (.string ⟨#[]⟩), (.string ⟨#[]⟩), (.string ⟨#[]⟩), (.bool false)]) 128 rfl Try.underlying89 info120 rfl (by decide) (by omega) (.slice (some ad104) x3_1.length co29) x3_1 (⟨(⟨(rd_T120 l0 x9_1).f0.f0, (rd_T120 l0 x9_1).f0.f1, (rd_T120 l0 x9_1).f0.f2⟩ : S116), (rd_T120 l0 x9_1).f1, (rd_T120 l0 x9_1).f2, (rd_T120 l0 x9_1).f3, (rd_T120 l0 x9_1).f4, (rd_T120 l0 x9_1).f5, (rd_T120 l0 x9_1).f6⟩ : S120) [.string ((rd_T120 l0 x9_1).f0.f0), .string ((rd_T120 l0 x9_1).f0.f1), .string ((rd_T120 l0 x9_1).f0.f2), .bool ((rd_T120 l0 x9_1).f1), .string ((rd_T120 l0 x9_1).f2), .string ((rd_T120 l0 x9_1).f3), .string ((rd_T120 l0 x9_1).f4), .string ((rd_T120 l0 x9_1).f5), .bool ((rd_T120 l0 x9_1).f6)] (fun k_ => k_ ≠ gb102) (fun _ => False) rfl rfl ?aP (fun _ hk => hk.elim) ?aF ?aO ?aB ?aS ?aL ?_; (case aP => exact k120_mkM _ _ _ (⟨(⟨(rd_T120 l0 x9_1).f0.f0, (rd_T120 l0 x9_1).f0.f1, (rd_T120 l0 x9_1).f0.f2⟩ : S116), (rd_T120 l0 x9_1).f1, (rd_T120 l0 x9_1).f2, (rd_T120 l0 x9_1).f3, (rd_T120 l0 x9_1).f4, (rd_T120 l0 x9_1).f5, (rd_T120 l0 x9_1).f6⟩ : S120)); (case aB => exact (by repeat (first | (with_reducible first | exact HB.out | apply Ja43_ | apply Ja41_ | apply Ja42_ | refine Ja46_ ?_ GE102.out) | exact HB.out))); (case aF => exact (fun k_ hk => Kd.freshB (g := gb102) (o := .cells #[.string ((rd_T120 l0 x9_1).f0.f0), .string ((rd_T120 l0 x9_1).f0.f1), .string ((rd_T120 l0 x9_1).f0.f2), .bool ((rd_T120 l0 x9_1).f1), .string ((rd_T120 l0 x9_1).f2), .string ((rd_T120 l0 x9_1).f3), .string ((rd_T120 l0 x9_1).f4), .string ((rd_T120 l0 x9_1).f5), .bool ((rd_T120 l0 x9_1).f6)] 120 (0, 0)) (by (with_reducible repeat (first | refine Ja50_ ?_ _ | refine Ja49_ ?_ | refine Ja48_ ?_ _)); exact BK102.out) k_ hk)); (case aO => exact (by (with_reducible repeat (first | apply Kd.R_alloc | apply Kd.R_drewN | apply Kd.R_drew)); exact Kd.R_mono HO_3.out (fun _ hk => hk.2))); (case aS => exact (Ja45_ (by repeat (first | (with_reducible first | exact HB.out | apply Ja43_ | apply Ja41_ | apply Ja42_ | refine Ja46_ ?_ GE102.out) | exact HB.out)))); (case aL => have := LMc26.out; omega); intro v109 w33 ho hb hg hat; rw [← Ny108.out] at ho; have n0_ := Ja38_.mk (blk_grown (g := gb102) (o := .cells #[.string ((rd_T120 l0 x9_1).f0.f0), .string ((rd_T120 l0 x9_1).f0.f1), .string ((rd_T120 l0 x9_1).f0.f2), .bool ((rd_T120 l0 x9_1).f1), .string ((rd_T120 l0 x9_1).f2), .string ((rd_T120 l0 x9_1).f3), .string ((rd_T120 l0 x9_1).f4), .string ((rd_T120 l0 x9_1).f5), .bool ((rd_T120 l0 x9_1).f6)] 120 (0, 0)) (by (with_reducible repeat (first | refine Ja50_ ?_ _ | refine Ja49_ ?_ | refine Ja48_ ?_ _)); exact BK102.out) hg (Kd.R_away HO_3.out (fun _ hk => hk.2))); have n1_ := Ja38_.mk (hb); have n2_ := Ja38_.mk (ho); clear BK102; clear HB; clear HO_3; have BK102 := n0_; have HB := n1_; have HO110 := n2_; clear n0_ n1_ n2_; clear ho hb hg hat))
             go_roundg k1
             case measure => have := HK1.out; omega
             case rel => exact ⟨(y108), (wrap64 (x9_1 + 1)), (by first | rfl | (simp; done) | (simp [*]; done)), H', ⟨by have := HK1.out; omega⟩, ⟨by (with_reducible repeat (first | apply Kd.R_alloc | apply Kd.R_drewN | apply Kd.R_drew)); exact Kd.R_mono HO110.out (fun _ hk => trivial)⟩, ⟨by repeat (first | (with_reducible first | exact HB.out | apply Ja43_ | apply Ja41_ | apply Ja42_ | refine Ja46_ ?_ GE102.out) | exact HB.out)⟩⟩
            ·rw [if_neg c26] at H
             exact absurd H (by simp)
          ·rw [if_neg c14] at H
           exact absurd H (by simp)
         ·rw [if_neg c13] at H
          exact absurd H (by simp)
        ·rw [if_neg c11] at H
         have c11b0 : decide (0 < (x3_1.length : Int)) = false := decide_eq_false c11
         have c11b1 : decide (0 < x3_1.length) = false := decide_eq_false (by omega)
         clear c11
         by_cases c34 : x3_1.length < 1099511627776
         ·rw [if_pos c34] at H
          have LMc34 := Ja38_.mk c34
          clear c34
          obtain ⟨y111, hy111⟩ : ∃ y_ : List (S120), y_ = (x3_1 ++ [(⟨(⟨(rd_T120 l0 x9_1).f0.f0, (rd_T120 l0 x9_1).f0.f1, (rd_T120 l0 x9_1).f0.f2⟩ : S116), (rd_T120 l0 x9_1).f1, (rd_T120 l0 x9_1).f2, (rd_T120 l0 x9_1).f3, (rd_T120 l0 x9_1).f4, (rd_T120 l0 x9_1).f5, (rd_T120 l0 x9_1).f6⟩ : S120)]) := ⟨_, rfl⟩
          replace H : (doc_Of.l0 k1 y111 l0 (l0.length : Int) (wrap64 (x9_1 + 1))) = some r := by first | (rw [hy111]; with_reducible exact H) | (have H2_ := (Option.bind_some _ _).symm.trans H; rw [hy111]; with_reducible exact H2_) | (have H2_ := (Option.bind_some _ _).symm.trans H; with_reducible exact H2_) | with_reducible exact H | (rw [hy111]; exact H) | exact H
          have Ny111 := Ja38_.mk hy111
          clear hy111
          have H' := Ja38_.mk H
          clear H
          have p101 : 0 ≤ (x9_1 : Int) := of_decide_eq_true (by first | (with_reducible assumption) | assumption)
          have q101 : x9_1 < (l0.length : Int) := of_decide_eq_true (by first | (with_reducible assumption) | assumption)
          obtain ⟨ad101, e101, hx101_0, hx101_1, hx101_2, hx101_3, hx101_4, hx101_5, hx101_6, hx101_7, hx101_8⟩ := at_T120 HR0.out x9_1 p101 q101
          cases e101
          replace hx101_0 := (HB.out.cell (World.block_lt_of_cell? w _ hx101_0)).trans hx101_0
          replace hx101_1 := (HB.out.cell (World.block_lt_of_cell? w _ hx101_1)).trans hx101_1
          replace hx101_2 := (HB.out.cell (World.block_lt_of_cell? w _ hx101_2)).trans hx101_2
          replace hx101_3 := (HB.out.cell (World.block_lt_of_cell? w _ hx101_3)).trans hx101_3
          replace hx101_4 := (HB.out.cell (World.block_lt_of_cell? w _ hx101_4)).trans hx101_4
          replace hx101_5 := (HB.out.cell (World.block_lt_of_cell? w _ hx101_5)).trans hx101_5
          replace hx101_6 := (HB.out.cell (World.block_lt_of_cell? w _ hx101_6)).trans hx101_6
          replace hx101_7 := (HB.out.cell (World.block_lt_of_cell? w _ hx101_7)).trans hx101_7
          replace hx101_8 := (HB.out.cell (World.block_lt_of_cell? w _ hx101_8)).trans hx101_8
          replace p101 := eq_true p101
          replace q101 := eq_true q101
          go_wp2_with (first | ((with_reducible refine gate_dst (N := 5) rfl ?_); refine box_event ?hg (N := 5) ?hd (cs := #[.string (⟨#[]⟩ : ByteArray), .string (⟨#[]⟩ : ByteArray), .string (⟨#[]⟩ : ByteArray), .bool false, .string (⟨#[]⟩ : ByteArray), .string (⟨#[]⟩ : ByteArray), .string (⟨#[]⟩ : ByteArray), .string (⟨#[]⟩ : ByteArray), .bool false]) (t := 120) ?hr ?_; (case hd => rfl); (case hg => rfl); (case hr => first | (go_simp; done) | (go_simp; rfl)); intro gb102 hg w35 hbox hb; have n0_ := Ja38_.mk (Kd.R_below (Kd.R_elderB (by (with_reducible repeat (first | apply Kd.R_alloc | apply Kd.R_drewN | apply Kd.R_drew)); exact HO_3.out) gb102 (Nat.le_of_eq hg.symm)) hb); have n1_ := Ja38_.mk (Ja44_ (by repeat (first | (with_reducible first | exact HB.out | apply Ja43_ | apply Ja41_ | apply Ja42_) | exact HB.out)) hb); have n2_ := Ja38_.mk (hbox); have n3_ := Ja38_.mk ((by rw [hg]; exact (Ja45_ (by repeat (first | (with_reducible first | exact HB.out | apply Ja43_ | apply Ja41_ | apply Ja42_) | exact HB.out))) : w.heap.size ≤ gb102)); have n4_ := Ja38_.mk ((by rw [hg]; exact (Ja45_ (by repeat (first | (with_reducible first | exact HB.out | apply Ja43_ | apply Ja41_ | apply Ja42_) | exact HB.out))) : w.heap.size ≤ gb102)); clear HO_3; clear HB; have HO_3 := n0_; have HB := n1_; have BK102 := n2_; have GW102 := n3_; have GE102 := n4_; clear n0_ n1_ n2_ n3_ n4_; clear hb hbox hg; have hcz36_0 : w35.cell? ⟨gb102, 0, none⟩ = some (.string (⟨#[]⟩ : ByteArray)) := (Ja39_ BK102.out 0).trans rfl; have hcz36_1 : w35.cell? ⟨gb102, 1, none⟩ = some (.string (⟨#[]⟩ : ByteArray)) := (Ja39_ BK102.out 1).trans rfl; have hcz36_2 : w35.cell? ⟨gb102, 2, none⟩ = some (.string (⟨#[]⟩ : ByteArray)) := (Ja39_ BK102.out 2).trans rfl; have hcz36_3 : w35.cell? ⟨gb102, 3, none⟩ = some (.bool false) := (Ja39_ BK102.out 3).trans rfl; have hcz36_4 : w35.cell? ⟨gb102, 4, none⟩ = some (.string (⟨#[]⟩ : ByteArray)) := (Ja39_ BK102.out 4).trans rfl; have hcz36_5 : w35.cell? ⟨gb102, 5, none⟩ = some (.string (⟨#[]⟩ : ByteArray)) := (Ja39_ BK102.out 5).trans rfl; have hcz36_6 : w35.cell? ⟨gb102, 6, none⟩ = some (.string (⟨#[]⟩ : ByteArray)) := (Ja39_ BK102.out 6).trans rfl; have hcz36_7 : w35.cell? ⟨gb102, 7, none⟩ = some (.string (⟨#[]⟩ : ByteArray)) := (Ja39_ BK102.out 7).trans rfl; have hcz36_8 : w35.cell? ⟨gb102, 8, none⟩ = some (.bool false) := (Ja39_ BK102.out 8).trans rfl; have hfz36_0 := Ja40_ BK102.out 0; have hfz36_1 := Ja40_ BK102.out 1; have hfz36_2 := Ja40_ BK102.out 2; have hfz36_3 := Ja40_ BK102.out 3; have hfz36_4 := Ja40_ BK102.out 4; have hfz36_5 := Ja40_ BK102.out 5; have hfz36_6 := Ja40_ BK102.out 6; have hfz36_7 := Ja40_ BK102.out 7; have hfz36_8 := Ja40_ BK102.out 8; obtain ⟨Ao37, co37, eo37⟩ := Kd.R_slice HO_3.out; subst eo37) | ((with_reducible refine gate_callee (f := 114) rfl ?_); refine goesL_ (some 25) rfl rfl Try.func114 (by kernel_rfl) rfl #[.agg #[.string ((rd_T120 l0 x9_1).f0.f0), .string ((rd_T120 l0 x9_1).f0.f1), .string ((rd_T120 l0 x9_1).f0.f2), .bool ((rd_T120 l0 x9_1).f1), .string ((rd_T120 l0 x9_1).f2), .string ((rd_T120 l0 x9_1).f3), .string ((rd_T120 l0 x9_1).f4), .string ((rd_T120 l0 x9_1).f5), .bool ((rd_T120 l0 x9_1).f6)]] rfl (by (try simp only [List.map_toArray, List.map_cons, List.map_nil]); first | done | rfl | (simp only [List.length_drop, List.length_take]; rfl)) ?_; (with_reducible refine (J11_.calls ((rd_T120 l0 x9_1).f0.f0) ((rd_T120 l0 x9_1).f0.f1) ((rd_T120 l0 x9_1).f0.f2) ((rd_T120 l0 x9_1).f1) ((rd_T120 l0 x9_1).f2) ((rd_T120 l0 x9_1).f3) ((rd_T120 l0 x9_1).f4) ((rd_T120 l0 x9_1).f5) ((rd_T120 l0 x9_1).f6) true _ A9.out).mono ?_); rintro e w38 ⟨rfl, hb⟩; refine ⟨_, rfl, ?_⟩; have n0_ := Ja38_.mk (Kd.R_below (by (with_reducible repeat (first | apply Kd.R_alloc | apply Kd.R_drewN | apply Kd.R_drew)); exact (Kd.R_mono (Kd.R_far (p := ⟨gb102, 8, none⟩) (Kd.R_far (p := ⟨gb102, 7, none⟩) (Kd.R_far (p := ⟨gb102, 6, none⟩) (Kd.R_far (p := ⟨gb102, 5, none⟩) (Kd.R_far (p := ⟨gb102, 4, none⟩) (Kd.R_far (p := ⟨gb102, 3, none⟩) (Kd.R_far (p := ⟨gb102, 2, none⟩) (Kd.R_far (p := ⟨gb102, 1, none⟩) (Kd.R_far (p := ⟨gb102, 0, none⟩) (Kd.R_mono HO_3.out (fun k_ hk => (⟨hk, hk.2⟩ : _ ∧ k_ ≠ gb102))) (fun _ hk => hk.2) (.string ((rd_T120 l0 x9_1).f0.f0))) (fun _ hk => hk.2) (.string ((rd_T120 l0 x9_1).f0.f1))) (fun _ hk => hk.2) (.string ((rd_T120 l0 x9_1).f0.f2))) (fun _ hk => hk.2) (.bool ((rd_T120 l0 x9_1).f1))) (fun _ hk => hk.2) (.string ((rd_T120 l0 x9_1).f2))) (fun _ hk => hk.2) (.string ((rd_T120 l0 x9_1).f3))) (fun _ hk => hk.2) (.string ((rd_T120 l0 x9_1).f4))) (fun _ hk => hk.2) (.string ((rd_T120 l0 x9_1).f5))) (fun _ hk => hk.2) (.bool ((rd_T120 l0 x9_1).f6))) (fun _ h_ => h_.1))) hb); have n1_ := Ja38_.mk (Ja47_ (g := gb102) (o := .cells #[.string ((rd_T120 l0 x9_1).f0.f0), .string ((rd_T120 l0 x9_1).f0.f1), .string ((rd_T120 l0 x9_1).f0.f2), .bool ((rd_T120 l0 x9_1).f1), .string ((rd_T120 l0 x9_1).f2), .string ((rd_T120 l0 x9_1).f3), .string ((rd_T120 l0 x9_1).f4), .string ((rd_T120 l0 x9_1).f5), .bool ((rd_T120 l0 x9_1).f6)] 120 (0, 0)) (by (with_reducible repeat (first | refine Ja50_ ?_ _ | refine Ja49_ ?_ | refine Ja48_ ?_ _)); refine blk_put (cs := #[.string ((rd_T120 l0 x9_1).f0.f0), .string ((rd_T120 l0 x9_1).f0.f1), .string ((rd_T120 l0 x9_1).f0.f2), .bool ((rd_T120 l0 x9_1).f1), .string ((rd_T120 l0 x9_1).f2), .string ((rd_T120 l0 x9_1).f3), .string ((rd_T120 l0 x9_1).f4), .string ((rd_T120 l0 x9_1).f5), .bool false]) ?_ 8 _ rfl; (with_reducible repeat (first | refine Ja50_ ?_ _ | refine Ja49_ ?_ | refine Ja48_ ?_ _)); refine blk_put (cs := #[.string ((rd_T120 l0 x9_1).f0.f0), .string ((rd_T120 l0 x9_1).f0.f1), .string ((rd_T120 l0 x9_1).f0.f2), .bool ((rd_T120 l0 x9_1).f1), .string ((rd_T120 l0 x9_1).f2), .string ((rd_T120 l0 x9_1).f3), .string ((rd_T120 l0 x9_1).f4), .string (⟨#[]⟩ : ByteArray), .bool false]) ?_ 7 _ rfl; (with_reducible repeat (first | refine Ja50_ ?_ _ | refine Ja49_ ?_ | refine Ja48_ ?_ _)); refine blk_put (cs := #[.string ((rd_T120 l0 x9_1).f0.f0), .string ((rd_T120 l0 x9_1).f0.f1), .string ((rd_T120 l0 x9_1).f0.f2), .bool ((rd_T120 l0 x9_1).f1), .string ((rd_T120 l0 x9_1).f2), .string ((rd_T120 l0 x9_1).f3), .string (⟨#[]⟩ : ByteArray), .string (⟨#[]⟩ : ByteArray), .bool false]) ?_ 6 _ rfl; (with_reducible repeat (first | refine Ja50_ ?_ _ | refine Ja49_ ?_ | refine Ja48_ ?_ _)); refine blk_put (cs := #[.string ((rd_T120 l0 x9_1).f0.f0), .string ((rd_T120 l0 x9_1).f0.f1), .string ((rd_T120 l0 x9_1).f0.f2), .bool ((rd_T120 l0 x9_1).f1), .string ((rd_T120 l0 x9_1).f2), .string (⟨#[]⟩ : ByteArray), .string (⟨#[]⟩ : ByteArray), .string (⟨#[]⟩ : ByteArray), .bool false]) ?_ 5 _ rfl; (with_reducible repeat (first | refine Ja50_ ?_ _ | refine Ja49_ ?_ | refine Ja48_ ?_ _)); refine blk_put (cs := #[.string ((rd_T120 l0 x9_1).f0.f0), .string ((rd_T120 l0 x9_1).f0.f1), .string ((rd_T120 l0 x9_1).f0.f2), .bool ((rd_T120 l0 x9_1).f1), .string (⟨#[]⟩ : ByteArray), .string (⟨#[]⟩ : ByteArray), .string (⟨#[]⟩ : ByteArray), .string (⟨#[]⟩ : ByteArray), .bool false]) ?_ 4 _ rfl; (with_reducible repeat (first | refine Ja50_ ?_ _ | refine Ja49_ ?_ | refine Ja48_ ?_ _)); refine blk_put (cs := #[.string ((rd_T120 l0 x9_1).f0.f0), .string ((rd_T120 l0 x9_1).f0.f1), .string ((rd_T120 l0 x9_1).f0.f2), .bool false, .string (⟨#[]⟩ : ByteArray), .string (⟨#[]⟩ : ByteArray), .string (⟨#[]⟩ : ByteArray), .string (⟨#[]⟩ : ByteArray), .bool false]) ?_ 3 _ rfl; (with_reducible repeat (first | refine Ja50_ ?_ _ | refine Ja49_ ?_ | refine Ja48_ ?_ _)); refine blk_put (cs := #[.string ((rd_T120 l0 x9_1).f0.f0), .string ((rd_T120 l0 x9_1).f0.f1), .string (⟨#[]⟩ : ByteArray), .bool false, .string (⟨#[]⟩ : ByteArray), .string (⟨#[]⟩ : ByteArray), .string (⟨#[]⟩ : ByteArray), .string (⟨#[]⟩ : ByteArray), .bool false]) ?_ 2 _ rfl; (with_reducible repeat (first | refine Ja50_ ?_ _ | refine Ja49_ ?_ | refine Ja48_ ?_ _)); refine blk_put (cs := #[.string ((rd_T120 l0 x9_1).f0.f0), .string (⟨#[]⟩ : ByteArray), .string (⟨#[]⟩ : ByteArray), .bool false, .string (⟨#[]⟩ : ByteArray), .string (⟨#[]⟩ : ByteArray), .string (⟨#[]⟩ : ByteArray), .string (⟨#[]⟩ : ByteArray), .bool false]) ?_ 1 _ rfl; (with_reducible repeat (first | refine Ja50_ ?_ _ | refine Ja49_ ?_ | refine Ja48_ ?_ _)); refine blk_put (cs := #[.string (⟨#[]⟩ : ByteArray), .string (⟨#[]⟩ : ByteArray), .string (⟨#[]⟩ : ByteArray), .bool false, .string (⟨#[]⟩ : ByteArray), .string (⟨#[]⟩ : ByteArray), .string (⟨#[]⟩ : ByteArray), .string (⟨#[]⟩ : ByteArray), .bool false]) ?_ 0 _ rfl; (with_reducible repeat (first | refine Ja50_ ?_ _ | refine Ja49_ ?_ | refine Ja48_ ?_ _)); exact BK102.out) hb); have n2_ := Ja38_.mk (Ja44_ (by repeat (first | (with_reducible first | exact HB.out | apply Ja43_ | apply Ja41_ | apply Ja42_ | refine Ja46_ ?_ GE102.out) | exact HB.out)) hb); clear HO_3; clear BK102; clear HB; have HO_3 := n0_; have BK102 := n1_; have HB := n2_; clear n0_ n1_ n2_; (try clear hb); (try clear hb2); (try clear hk); (try clear hi); have hcz39_0 : w38.cell? ⟨gb102, 0, none⟩ = some (.string ((rd_T120 l0 x9_1).f0.f0)) := (Ja39_ BK102.out 0).trans rfl; have hcz39_1 : w38.cell? ⟨gb102, 1, none⟩ = some (.string ((rd_T120 l0 x9_1).f0.f1)) := (Ja39_ BK102.out 1).trans rfl; have hcz39_2 : w38.cell? ⟨gb102, 2, none⟩ = some (.string ((rd_T120 l0 x9_1).f0.f2)) := (Ja39_ BK102.out 2).trans rfl; have hcz39_3 : w38.cell? ⟨gb102, 3, none⟩ = some (.bool ((rd_T120 l0 x9_1).f1)) := (Ja39_ BK102.out 3).trans rfl; have hcz39_4 : w38.cell? ⟨gb102, 4, none⟩ = some (.string ((rd_T120 l0 x9_1).f2)) := (Ja39_ BK102.out 4).trans rfl; have hcz39_5 : w38.cell? ⟨gb102, 5, none⟩ = some (.string ((rd_T120 l0 x9_1).f3)) := (Ja39_ BK102.out 5).trans rfl; have hcz39_6 : w38.cell? ⟨gb102, 6, none⟩ = some (.string ((rd_T120 l0 x9_1).f4)) := (Ja39_ BK102.out 6).trans rfl; have hcz39_7 : w38.cell? ⟨gb102, 7, none⟩ = some (.string ((rd_T120 l0 x9_1).f5)) := (Ja39_ BK102.out 7).trans rfl; have hcz39_8 : w38.cell? ⟨gb102, 8, none⟩ = some (.bool ((rd_T120 l0 x9_1).f6)) := (Ja39_ BK102.out 8).trans rfl; have hfz39_0 := Ja40_ BK102.out 0; have hfz39_1 := Ja40_ BK102.out 1; have hfz39_2 := Ja40_ BK102.out 2; have hfz39_3 := Ja40_ BK102.out 3; have hfz39_4 := Ja40_ BK102.out 4; have hfz39_5 := Ja40_ BK102.out 5; have hfz39_6 := Ja40_ BK102.out 6; have hfz39_7 := Ja40_ BK102.out 7; have hfz39_8 := Ja40_ BK102.out 8) | ((with_reducible refine gate_builtin (b := .append) (xs := #[.tmp 15, .tmp 17]) rfl ?_); at_builtin; refine Kd.R_append k120 (w0 := w) w.heap.size rfl (.tmp 15) (.tmp 17) 89 120 (.agg #[(.string ⟨#[]⟩), (.string ⟨#[]⟩), (.string ⟨#[]⟩), (.bool false), (.string ⟨#[]⟩), (.string ⟨#[]⟩), (.string ⟨#[]⟩), (.string ⟨#[]⟩), (.bool false)]) 128 rfl Try.underlying89 info120 rfl (by decide) (by omega) (.slice Ao37 x3_1.length co37) x3_1 (⟨(⟨(rd_T120 l0 x9_1).f0.f0, (rd_T120 l0 x9_1).f0.f1, (rd_T120 l0 x9_1).f0.f2⟩ : S116), (rd_T120 l0 x9_1).f1, (rd_T120 l0 x9_1).f2, (rd_T120 l0 x9_1).f3, (rd_T120 l0 x9_1).f4, (rd_T120 l0 x9_1).f5, (rd_T120 l0 x9_1).f6⟩ : S120) [.string ((rd_T120 l0 x9_1).f0.f0), .string ((rd_T120 l0 x9_1).f0.f1), .string ((rd_T120 l0 x9_1).f0.f2), .bool ((rd_T120 l0 x9_1).f1), .string ((rd_T120 l0 x9_1).f2), .string ((rd_T120 l0 x9_1).f3), .string ((rd_T120 l0 x9_1).f4), .string ((rd_T120 l0 x9_1).f5), .bool ((rd_T120 l0 x9_1).f6)] (fun k_ => k_ ≠ gb102) (fun _ => False) rfl rfl ?aP (fun _ hk => hk.elim) ?aF ?aO ?aB ?aS ?aL ?_; (case aP => exact k120_mkM _ _ _ (⟨(⟨(rd_T120 l0 x9_1).f0.f0, (rd_T120 l0 x9_1).f0.f1, (rd_T120 l0 x9_1).f0.f2⟩ : S116), (rd_T120 l0 x9_1).f1, (rd_T120 l0 x9_1).f2, (rd_T120 l0 x9_1).f3, (rd_T120 l0 x9_1).f4, (rd_T120 l0 x9_1).f5, (rd_T120 l0 x9_1).f6⟩ : S120)); (case aB => exact (by repeat (first | (with_reducible first | exact HB.out | apply Ja43_ | apply Ja41_ | apply Ja42_ | refine Ja46_ ?_ GE102.out) | exact HB.out))); (case aF => exact (fun k_ hk => Kd.freshB (g := gb102) (o := .cells #[.string ((rd_T120 l0 x9_1).f0.f0), .string ((rd_T120 l0 x9_1).f0.f1), .string ((rd_T120 l0 x9_1).f0.f2), .bool ((rd_T120 l0 x9_1).f1), .string ((rd_T120 l0 x9_1).f2), .string ((rd_T120 l0 x9_1).f3), .string ((rd_T120 l0 x9_1).f4), .string ((rd_T120 l0 x9_1).f5), .bool ((rd_T120 l0 x9_1).f6)] 120 (0, 0)) (by (with_reducible repeat (first | refine Ja50_ ?_ _ | refine Ja49_ ?_ | refine Ja48_ ?_ _)); exact BK102.out) k_ hk)); (case aO => exact (by (with_reducible repeat (first | apply Kd.R_alloc | apply Kd.R_drewN | apply Kd.R_drew)); exact Kd.R_mono HO_3.out (fun _ hk => hk.2))); (case aS => exact (Ja45_ (by repeat (first | (with_reducible first | exact HB.out | apply Ja43_ | apply Ja41_ | apply Ja42_ | refine Ja46_ ?_ GE102.out) | exact HB.out)))); (case aL => have := LMc34.out; omega); intro v112 w40 ho hb hg hat; rw [← Ny111.out] at ho; have n0_ := Ja38_.mk (blk_grown (g := gb102) (o := .cells #[.string ((rd_T120 l0 x9_1).f0.f0), .string ((rd_T120 l0 x9_1).f0.f1), .string ((rd_T120 l0 x9_1).f0.f2), .bool ((rd_T120 l0 x9_1).f1), .string ((rd_T120 l0 x9_1).f2), .string ((rd_T120 l0 x9_1).f3), .string ((rd_T120 l0 x9_1).f4), .string ((rd_T120 l0 x9_1).f5), .bool ((rd_T120 l0 x9_1).f6)] 120 (0, 0)) (by (with_reducible repeat (first | refine Ja50_ ?_ _ | refine Ja49_ ?_ | refine Ja48_ ?_ _)); exact BK102.out) hg (Kd.R_away HO_3.out (fun _ hk => hk.2))); have n1_ := Ja38_.mk (hb); have n2_ := Ja38_.mk (ho); clear BK102; clear HB; clear HO_3; have BK102 := n0_; have HB := n1_; have HO113 := n2_; clear n0_ n1_ n2_; clear ho hb hg hat))
          go_roundg k1
          case measure => have := HK1.out; omega
          case rel => exact ⟨(y111), (wrap64 (x9_1 + 1)), (by first | rfl | (simp; done) | (simp [*]; done)), H', ⟨by have := HK1.out; omega⟩, ⟨by (with_reducible repeat (first | apply Kd.R_alloc | apply Kd.R_drewN | apply Kd.R_drew)); exact Kd.R_mono HO113.out (fun _ hk => trivial)⟩, ⟨by repeat (first | (with_reducible first | exact HB.out | apply Ja43_ | apply Ja41_ | apply Ja42_ | refine Ja46_ ?_ GE102.out) | exact HB.out)⟩⟩
         ·rw [if_neg c34] at H
          exact absurd H (by simp)
       ·replace c10 := Bool.eq_false_iff.mpr c10
        subst c10
        have H1 : (if x3_1.length < 1099511627776 then (doc_Of.l0 k1 (x3_1 ++ [(⟨(⟨(rd_T120 l0 x9_1).f0.f0, (rd_T120 l0 x9_1).f0.f1, (rd_T120 l0 x9_1).f0.f2⟩ : S116), (rd_T120 l0 x9_1).f1, (rd_T120 l0 x9_1).f2, (rd_T120 l0 x9_1).f3, (rd_T120 l0 x9_1).f4, (rd_T120 l0 x9_1).f5, (rd_T120 l0 x9_1).f6⟩ : S120)]) l0 (l0.length : Int) (wrap64 (x9_1 + 1))) else (none)) = some r := by rw [if_neg (show ¬ (false = true) by decide)] at H; exact H
        clear H
        have H := H1
        clear H1
        by_cases c41 : x3_1.length < 1099511627776
        ·rw [if_pos c41] at H
         have LMc41 := Ja38_.mk c41
         clear c41
         obtain ⟨y114, hy114⟩ : ∃ y_ : List (S120), y_ = (x3_1 ++ [(⟨(⟨(rd_T120 l0 x9_1).f0.f0, (rd_T120 l0 x9_1).f0.f1, (rd_T120 l0 x9_1).f0.f2⟩ : S116), (rd_T120 l0 x9_1).f1, (rd_T120 l0 x9_1).f2, (rd_T120 l0 x9_1).f3, (rd_T120 l0 x9_1).f4, (rd_T120 l0 x9_1).f5, (rd_T120 l0 x9_1).f6⟩ : S120)]) := ⟨_, rfl⟩
         replace H : (doc_Of.l0 k1 y114 l0 (l0.length : Int) (wrap64 (x9_1 + 1))) = some r := by first | (rw [hy114]; with_reducible exact H) | (have H2_ := (Option.bind_some _ _).symm.trans H; rw [hy114]; with_reducible exact H2_) | (have H2_ := (Option.bind_some _ _).symm.trans H; with_reducible exact H2_) | with_reducible exact H | (rw [hy114]; exact H) | exact H
         have Ny114 := Ja38_.mk hy114
         clear hy114
         have H' := Ja38_.mk H
         clear H
         have p101 : 0 ≤ (x9_1 : Int) := of_decide_eq_true (by first | (with_reducible assumption) | assumption)
         have q101 : x9_1 < (l0.length : Int) := of_decide_eq_true (by first | (with_reducible assumption) | assumption)
         obtain ⟨ad101, e101, hx101_0, hx101_1, hx101_2, hx101_3, hx101_4, hx101_5, hx101_6, hx101_7, hx101_8⟩ := at_T120 HR0.out x9_1 p101 q101
         cases e101
         replace hx101_0 := (HB.out.cell (World.block_lt_of_cell? w _ hx101_0)).trans hx101_0
         replace hx101_1 := (HB.out.cell (World.block_lt_of_cell? w _ hx101_1)).trans hx101_1
         replace hx101_2 := (HB.out.cell (World.block_lt_of_cell? w _ hx101_2)).trans hx101_2
         replace hx101_3 := (HB.out.cell (World.block_lt_of_cell? w _ hx101_3)).trans hx101_3
         replace hx101_4 := (HB.out.cell (World.block_lt_of_cell? w _ hx101_4)).trans hx101_4
         replace hx101_5 := (HB.out.cell (World.block_lt_of_cell? w _ hx101_5)).trans hx101_5
         replace hx101_6 := (HB.out.cell (World.block_lt_of_cell? w _ hx101_6)).trans hx101_6
         replace hx101_7 := (HB.out.cell (World.block_lt_of_cell? w _ hx101_7)).trans hx101_7
         replace hx101_8 := (HB.out.cell (World.block_lt_of_cell? w _ hx101_8)).trans hx101_8
         replace p101 := eq_true p101
         replace q101 := eq_true q101
         go_wp2_with (first | ((with_reducible refine gate_dst (N := 5) rfl ?_); refine box_event ?hg (N := 5) ?hd (cs := #[.string (⟨#[]⟩ : ByteArray), .string (⟨#[]⟩ : ByteArray), .string (⟨#[]⟩ : ByteArray), .bool false, .string (⟨#[]⟩ : ByteArray), .string (⟨#[]⟩ : ByteArray), .string (⟨#[]⟩ : ByteArray), .string (⟨#[]⟩ : ByteArray), .bool false]) (t := 120) ?hr ?_; (case hd => rfl); (case hg => rfl); (case hr => first | (go_simp; done) | (go_simp; rfl)); intro gb102 hg w42 hbox hb; have n0_ := Ja38_.mk (Kd.R_below (Kd.R_elderB (by (with_reducible repeat (first | apply Kd.R_alloc | apply Kd.R_drewN | apply Kd.R_drew)); exact HO_3.out) gb102 (Nat.le_of_eq hg.symm)) hb); have n1_ := Ja38_.mk (Ja44_ (by repeat (first | (with_reducible first | exact HB.out | apply Ja43_ | apply Ja41_ | apply Ja42_) | exact HB.out)) hb); have n2_ := Ja38_.mk (hbox); have n3_ := Ja38_.mk ((by rw [hg]; exact (Ja45_ (by repeat (first | (with_reducible first | exact HB.out | apply Ja43_ | apply Ja41_ | apply Ja42_) | exact HB.out))) : w.heap.size ≤ gb102)); have n4_ := Ja38_.mk ((by rw [hg]; exact (Ja45_ (by repeat (first | (with_reducible first | exact HB.out | apply Ja43_ | apply Ja41_ | apply Ja42_) | exact HB.out))) : w.heap.size ≤ gb102)); clear HO_3; clear HB; have HO_3 := n0_; have HB := n1_; have BK102 := n2_; have GW102 := n3_; have GE102 := n4_; clear n0_ n1_ n2_ n3_ n4_; clear hb hbox hg; have hcz43_0 : w42.cell? ⟨gb102, 0, none⟩ = some (.string (⟨#[]⟩ : ByteArray)) := (Ja39_ BK102.out 0).trans rfl; have hcz43_1 : w42.cell? ⟨gb102, 1, none⟩ = some (.string (⟨#[]⟩ : ByteArray)) := (Ja39_ BK102.out 1).trans rfl; have hcz43_2 : w42.cell? ⟨gb102, 2, none⟩ = some (.string (⟨#[]⟩ : ByteArray)) := (Ja39_ BK102.out 2).trans rfl; have hcz43_3 : w42.cell? ⟨gb102, 3, none⟩ = some (.bool false) := (Ja39_ BK102.out 3).trans rfl; have hcz43_4 : w42.cell? ⟨gb102, 4, none⟩ = some (.string (⟨#[]⟩ : ByteArray)) := (Ja39_ BK102.out 4).trans rfl; have hcz43_5 : w42.cell? ⟨gb102, 5, none⟩ = some (.string (⟨#[]⟩ : ByteArray)) := (Ja39_ BK102.out 5).trans rfl; have hcz43_6 : w42.cell? ⟨gb102, 6, none⟩ = some (.string (⟨#[]⟩ : ByteArray)) := (Ja39_ BK102.out 6).trans rfl; have hcz43_7 : w42.cell? ⟨gb102, 7, none⟩ = some (.string (⟨#[]⟩ : ByteArray)) := (Ja39_ BK102.out 7).trans rfl; have hcz43_8 : w42.cell? ⟨gb102, 8, none⟩ = some (.bool false) := (Ja39_ BK102.out 8).trans rfl; have hfz43_0 := Ja40_ BK102.out 0; have hfz43_1 := Ja40_ BK102.out 1; have hfz43_2 := Ja40_ BK102.out 2; have hfz43_3 := Ja40_ BK102.out 3; have hfz43_4 := Ja40_ BK102.out 4; have hfz43_5 := Ja40_ BK102.out 5; have hfz43_6 := Ja40_ BK102.out 6; have hfz43_7 := Ja40_ BK102.out 7; have hfz43_8 := Ja40_ BK102.out 8; obtain ⟨Ao44, co44, eo44⟩ := Kd.R_slice HO_3.out; subst eo44) | ((with_reducible refine gate_callee (f := 114) rfl ?_); refine goesL_ (some 25) rfl rfl Try.func114 (by kernel_rfl) rfl #[.agg #[.string ((rd_T120 l0 x9_1).f0.f0), .string ((rd_T120 l0 x9_1).f0.f1), .string ((rd_T120 l0 x9_1).f0.f2), .bool ((rd_T120 l0 x9_1).f1), .string ((rd_T120 l0 x9_1).f2), .string ((rd_T120 l0 x9_1).f3), .string ((rd_T120 l0 x9_1).f4), .string ((rd_T120 l0 x9_1).f5), .bool ((rd_T120 l0 x9_1).f6)]] rfl (by (try simp only [List.map_toArray, List.map_cons, List.map_nil]); first | done | rfl | (simp only [List.length_drop, List.length_take]; rfl)) ?_; (with_reducible refine (J11_.calls ((rd_T120 l0 x9_1).f0.f0) ((rd_T120 l0 x9_1).f0.f1) ((rd_T120 l0 x9_1).f0.f2) ((rd_T120 l0 x9_1).f1) ((rd_T120 l0 x9_1).f2) ((rd_T120 l0 x9_1).f3) ((rd_T120 l0 x9_1).f4) ((rd_T120 l0 x9_1).f5) ((rd_T120 l0 x9_1).f6) false _ A9.out).mono ?_); rintro e w45 ⟨rfl, hb⟩; refine ⟨_, rfl, ?_⟩; have n0_ := Ja38_.mk (Kd.R_below (by (with_reducible repeat (first | apply Kd.R_alloc | apply Kd.R_drewN | apply Kd.R_drew)); exact (Kd.R_mono (Kd.R_far (p := ⟨gb102, 8, none⟩) (Kd.R_far (p := ⟨gb102, 7, none⟩) (Kd.R_far (p := ⟨gb102, 6, none⟩) (Kd.R_far (p := ⟨gb102, 5, none⟩) (Kd.R_far (p := ⟨gb102, 4, none⟩) (Kd.R_far (p := ⟨gb102, 3, none⟩) (Kd.R_far (p := ⟨gb102, 2, none⟩) (Kd.R_far (p := ⟨gb102, 1, none⟩) (Kd.R_far (p := ⟨gb102, 0, none⟩) (Kd.R_mono HO_3.out (fun k_ hk => (⟨hk, hk.2⟩ : _ ∧ k_ ≠ gb102))) (fun _ hk => hk.2) (.string ((rd_T120 l0 x9_1).f0.f0))) (fun _ hk => hk.2) (.string ((rd_T120 l0 x9_1).f0.f1))) (fun _ hk => hk.2) (.string ((rd_T120 l0 x9_1).f0.f2))) (fun _ hk => hk.2) (.bool ((rd_T120 l0 x9_1).f1))) (fun _ hk => hk.2) (.string ((rd_T120 l0 x9_1).f2))) (fun _ hk => hk.2) (.string ((rd_T120 l0 x9_1).f3))) (fun _ hk => hk.2) (.string ((rd_T120 l0 x9_1).f4))) (fun _ hk => hk.2) (.string ((rd_T120 l0 x9_1).f5))) (fun _ hk => hk.2) (.bool ((rd_T120 l0 x9_1).f6))) (fun _ h_ => h_.1))) hb); have n1_ := Ja38_.mk (Ja47_ (g := gb102) (o := .cells #[.string ((rd_T120 l0 x9_1).f0.f0), .string ((rd_T120 l0 x9_1).f0.f1), .string ((rd_T120 l0 x9_1).f0.f2), .bool ((rd_T120 l0 x9_1).f1), .string ((rd_T120 l0 x9_1).f2), .string ((rd_T120 l0 x9_1).f3), .string ((rd_T120 l0 x9_1).f4), .string ((rd_T120 l0 x9_1).f5), .bool ((rd_T120 l0 x9_1).f6)] 120 (0, 0)) (by (with_reducible repeat (first | refine Ja50_ ?_ _ | refine Ja49_ ?_ | refine Ja48_ ?_ _)); refine blk_put (cs := #[.string ((rd_T120 l0 x9_1).f0.f0), .string ((rd_T120 l0 x9_1).f0.f1), .string ((rd_T120 l0 x9_1).f0.f2), .bool ((rd_T120 l0 x9_1).f1), .string ((rd_T120 l0 x9_1).f2), .string ((rd_T120 l0 x9_1).f3), .string ((rd_T120 l0 x9_1).f4), .string ((rd_T120 l0 x9_1).f5), .bool false]) ?_ 8 _ rfl; (with_reducible repeat (first | refine Ja50_ ?_ _ | refine Ja49_ ?_ | refine Ja48_ ?_ _)); refine blk_put (cs := #[.string ((rd_T120 l0 x9_1).f0.f0), .string ((rd_T120 l0 x9_1).f0.f1), .string ((rd_T120 l0 x9_1).f0.f2), .bool ((rd_T120 l0 x9_1).f1), .string ((rd_T120 l0 x9_1).f2), .string ((rd_T120 l0 x9_1).f3), .string ((rd_T120 l0 x9_1).f4), .string (⟨#[]⟩ : ByteArray), .bool false]) ?_ 7 _ rfl; (with_reducible repeat (first | refine Ja50_ ?_ _ | refine Ja49_ ?_ | refine Ja48_ ?_ _)); refine blk_put (cs := #[.string ((rd_T120 l0 x9_1).f0.f0), .string ((rd_T120 l0 x9_1).f0.f1), .string ((rd_T120 l0 x9_1).f0.f2), .bool ((rd_T120 l0 x9_1).f1), .string ((rd_T120 l0 x9_1).f2), .string ((rd_T120 l0 x9_1).f3), .string (⟨#[]⟩ : ByteArray), .string (⟨#[]⟩ : ByteArray), .bool false]) ?_ 6 _ rfl; (with_reducible repeat (first | refine Ja50_ ?_ _ | refine Ja49_ ?_ | refine Ja48_ ?_ _)); refine blk_put (cs := #[.string ((rd_T120 l0 x9_1).f0.f0), .string ((rd_T120 l0 x9_1).f0.f1), .string ((rd_T120 l0 x9_1).f0.f2), .bool ((rd_T120 l0 x9_1).f1), .string ((rd_T120 l0 x9_1).f2), .string (⟨#[]⟩ : ByteArray), .string (⟨#[]⟩ : ByteArray), .string (⟨#[]⟩ : ByteArray), .bool false]) ?_ 5 _ rfl; (with_reducible repeat (first | refine Ja50_ ?_ _ | refine Ja49_ ?_ | refine Ja48_ ?_ _)); refine blk_put (cs := #[.string ((rd_T120 l0 x9_1).f0.f0), .string ((rd_T120 l0 x9_1).f0.f1), .string ((rd_T120 l0 x9_1).f0.f2), .bool ((rd_T120 l0 x9_1).f1), .string (⟨#[]⟩ : ByteArray), .string (⟨#[]⟩ : ByteArray), .string (⟨#[]⟩ : ByteArray), .string (⟨#[]⟩ : ByteArray), .bool false]) ?_ 4 _ rfl; (with_reducible repeat (first | refine Ja50_ ?_ _ | refine Ja49_ ?_ | refine Ja48_ ?_ _)); refine blk_put (cs := #[.string ((rd_T120 l0 x9_1).f0.f0), .string ((rd_T120 l0 x9_1).f0.f1), .string ((rd_T120 l0 x9_1).f0.f2), .bool false, .string (⟨#[]⟩ : ByteArray), .string (⟨#[]⟩ : ByteArray), .string (⟨#[]⟩ : ByteArray), .string (⟨#[]⟩ : ByteArray), .bool false]) ?_ 3 _ rfl; (with_reducible repeat (first | refine Ja50_ ?_ _ | refine Ja49_ ?_ | refine Ja48_ ?_ _)); refine blk_put (cs := #[.string ((rd_T120 l0 x9_1).f0.f0), .string ((rd_T120 l0 x9_1).f0.f1), .string (⟨#[]⟩ : ByteArray), .bool false, .string (⟨#[]⟩ : ByteArray), .string (⟨#[]⟩ : ByteArray), .string (⟨#[]⟩ : ByteArray), .string (⟨#[]⟩ : ByteArray), .bool false]) ?_ 2 _ rfl; (with_reducible repeat (first | refine Ja50_ ?_ _ | refine Ja49_ ?_ | refine Ja48_ ?_ _)); refine blk_put (cs := #[.string ((rd_T120 l0 x9_1).f0.f0), .string (⟨#[]⟩ : ByteArray), .string (⟨#[]⟩ : ByteArray), .bool false, .string (⟨#[]⟩ : ByteArray), .string (⟨#[]⟩ : ByteArray), .string (⟨#[]⟩ : ByteArray), .string (⟨#[]⟩ : ByteArray), .bool false]) ?_ 1 _ rfl; (with_reducible repeat (first | refine Ja50_ ?_ _ | refine Ja49_ ?_ | refine Ja48_ ?_ _)); refine blk_put (cs := #[.string (⟨#[]⟩ : ByteArray), .string (⟨#[]⟩ : ByteArray), .string (⟨#[]⟩ : ByteArray), .bool false, .string (⟨#[]⟩ : ByteArray), .string (⟨#[]⟩ : ByteArray), .string (⟨#[]⟩ : ByteArray), .string (⟨#[]⟩ : ByteArray), .bool false]) ?_ 0 _ rfl; (with_reducible repeat (first | refine Ja50_ ?_ _ | refine Ja49_ ?_ | refine Ja48_ ?_ _)); exact BK102.out) hb); have n2_ := Ja38_.mk (Ja44_ (by repeat (first | (with_reducible first | exact HB.out | apply Ja43_ | apply Ja41_ | apply Ja42_ | refine Ja46_ ?_ GE102.out) | exact HB.out)) hb); clear HO_3; clear BK102; clear HB; have HO_3 := n0_; have BK102 := n1_; have HB := n2_; clear n0_ n1_ n2_; (try clear hb); (try clear hb2); (try clear hk); (try clear hi); have hcz46_0 : w45.cell? ⟨gb102, 0, none⟩ = some (.string ((rd_T120 l0 x9_1).f0.f0)) := (Ja39_ BK102.out 0).trans rfl; have hcz46_1 : w45.cell? ⟨gb102, 1, none⟩ = some (.string ((rd_T120 l0 x9_1).f0.f1)) := (Ja39_ BK102.out 1).trans rfl; have hcz46_2 : w45.cell? ⟨gb102, 2, none⟩ = some (.string ((rd_T120 l0 x9_1).f0.f2)) := (Ja39_ BK102.out 2).trans rfl; have hcz46_3 : w45.cell? ⟨gb102, 3, none⟩ = some (.bool ((rd_T120 l0 x9_1).f1)) := (Ja39_ BK102.out 3).trans rfl; have hcz46_4 : w45.cell? ⟨gb102, 4, none⟩ = some (.string ((rd_T120 l0 x9_1).f2)) := (Ja39_ BK102.out 4).trans rfl; have hcz46_5 : w45.cell? ⟨gb102, 5, none⟩ = some (.string ((rd_T120 l0 x9_1).f3)) := (Ja39_ BK102.out 5).trans rfl; have hcz46_6 : w45.cell? ⟨gb102, 6, none⟩ = some (.string ((rd_T120 l0 x9_1).f4)) := (Ja39_ BK102.out 6).trans rfl; have hcz46_7 : w45.cell? ⟨gb102, 7, none⟩ = some (.string ((rd_T120 l0 x9_1).f5)) := (Ja39_ BK102.out 7).trans rfl; have hcz46_8 : w45.cell? ⟨gb102, 8, none⟩ = some (.bool ((rd_T120 l0 x9_1).f6)) := (Ja39_ BK102.out 8).trans rfl; have hfz46_0 := Ja40_ BK102.out 0; have hfz46_1 := Ja40_ BK102.out 1; have hfz46_2 := Ja40_ BK102.out 2; have hfz46_3 := Ja40_ BK102.out 3; have hfz46_4 := Ja40_ BK102.out 4; have hfz46_5 := Ja40_ BK102.out 5; have hfz46_6 := Ja40_ BK102.out 6; have hfz46_7 := Ja40_ BK102.out 7; have hfz46_8 := Ja40_ BK102.out 8) | ((with_reducible refine gate_builtin (b := .append) (xs := #[.tmp 15, .tmp 17]) rfl ?_); at_builtin; refine Kd.R_append k120 (w0 := w) w.heap.size rfl (.tmp 15) (.tmp 17) 89 120 (.agg #[(.string ⟨#[]⟩), (.string ⟨#[]⟩), (.string ⟨#[]⟩), (.bool false), (.string ⟨#[]⟩), (.string ⟨#[]⟩), (.string ⟨#[]⟩), (.string ⟨#[]⟩), (.bool false)]) 128 rfl Try.underlying89 info120 rfl (by decide) (by omega) (.slice Ao44 x3_1.length co44) x3_1 (⟨(⟨(rd_T120 l0 x9_1).f0.f0, (rd_T120 l0 x9_1).f0.f1, (rd_T120 l0 x9_1).f0.f2⟩ : S116), (rd_T120 l0 x9_1).f1, (rd_T120 l0 x9_1).f2, (rd_T120 l0 x9_1).f3, (rd_T120 l0 x9_1).f4, (rd_T120 l0 x9_1).f5, (rd_T120 l0 x9_1).f6⟩ : S120) [.string ((rd_T120 l0 x9_1).f0.f0), .string ((rd_T120 l0 x9_1).f0.f1), .string ((rd_T120 l0 x9_1).f0.f2), .bool ((rd_T120 l0 x9_1).f1), .string ((rd_T120 l0 x9_1).f2), .string ((rd_T120 l0 x9_1).f3), .string ((rd_T120 l0 x9_1).f4), .string ((rd_T120 l0 x9_1).f5), .bool ((rd_T120 l0 x9_1).f6)] (fun k_ => k_ ≠ gb102) (fun _ => False) rfl rfl ?aP (fun _ hk => hk.elim) ?aF ?aO ?aB ?aS ?aL ?_; (case aP => exact k120_mkM _ _ _ (⟨(⟨(rd_T120 l0 x9_1).f0.f0, (rd_T120 l0 x9_1).f0.f1, (rd_T120 l0 x9_1).f0.f2⟩ : S116), (rd_T120 l0 x9_1).f1, (rd_T120 l0 x9_1).f2, (rd_T120 l0 x9_1).f3, (rd_T120 l0 x9_1).f4, (rd_T120 l0 x9_1).f5, (rd_T120 l0 x9_1).f6⟩ : S120)); (case aB => exact (by repeat (first | (with_reducible first | exact HB.out | apply Ja43_ | apply Ja41_ | apply Ja42_ | refine Ja46_ ?_ GE102.out) | exact HB.out))); (case aF => exact (fun k_ hk => Kd.freshB (g := gb102) (o := .cells #[.string ((rd_T120 l0 x9_1).f0.f0), .string ((rd_T120 l0 x9_1).f0.f1), .string ((rd_T120 l0 x9_1).f0.f2), .bool ((rd_T120 l0 x9_1).f1), .string ((rd_T120 l0 x9_1).f2), .string ((rd_T120 l0 x9_1).f3), .string ((rd_T120 l0 x9_1).f4), .string ((rd_T120 l0 x9_1).f5), .bool ((rd_T120 l0 x9_1).f6)] 120 (0, 0)) (by (with_reducible repeat (first | refine Ja50_ ?_ _ | refine Ja49_ ?_ | refine Ja48_ ?_ _)); exact BK102.out) k_ hk)); (case aO => exact (by (with_reducible repeat (first | apply Kd.R_alloc | apply Kd.R_drewN | apply Kd.R_drew)); exact Kd.R_mono HO_3.out (fun _ hk => hk.2))); (case aS => exact (Ja45_ (by repeat (first | (with_reducible first | exact HB.out | apply Ja43_ | apply Ja41_ | apply Ja42_ | refine Ja46_ ?_ GE102.out) | exact HB.out)))); (case aL => have := LMc41.out; omega); intro v115 w47 ho hb hg hat; rw [← Ny114.out] at ho; have n0_ := Ja38_.mk (blk_grown (g := gb102) (o := .cells #[.string ((rd_T120 l0 x9_1).f0.f0), .string ((rd_T120 l0 x9_1).f0.f1), .string ((rd_T120 l0 x9_1).f0.f2), .bool ((rd_T120 l0 x9_1).f1), .string ((rd_T120 l0 x9_1).f2), .string ((rd_T120 l0 x9_1).f3), .string ((rd_T120 l0 x9_1).f4), .string ((rd_T120 l0 x9_1).f5), .bool ((rd_T120 l0 x9_1).f6)] 120 (0, 0)) (by (with_reducible repeat (first | refine Ja50_ ?_ _ | refine Ja49_ ?_ | refine Ja48_ ?_ _)); exact BK102.out) hg (Kd.R_away HO_3.out (fun _ hk => hk.2))); have n1_ := Ja38_.mk (hb); have n2_ := Ja38_.mk (ho); clear BK102; clear HB; clear HO_3; have BK102 := n0_; have HB := n1_; have HO116 := n2_; clear n0_ n1_ n2_; clear ho hb hg hat))
         go_roundg k1
         case measure => have := HK1.out; omega
         case rel => exact ⟨(y114), (wrap64 (x9_1 + 1)), (by first | rfl | (simp; done) | (simp [*]; done)), H', ⟨by have := HK1.out; omega⟩, ⟨by (with_reducible repeat (first | apply Kd.R_alloc | apply Kd.R_drewN | apply Kd.R_drew)); exact Kd.R_mono HO116.out (fun _ hk => trivial)⟩, ⟨by repeat (first | (with_reducible first | exact HB.out | apply Ja43_ | apply Ja41_ | apply Ja42_ | refine Ja46_ ?_ GE102.out) | exact HB.out)⟩⟩
        ·rw [if_neg c41] at H
         exact absurd H (by simp)
     ·rw [if_neg c4] at H
      exact absurd H (by simp)
    ·rw [if_neg c3] at H
     exact absurd H (by simp)
   ·rw [if_neg c2] at H
    have c2b0 : decide (x9_1 < (l0.length : Int)) = false := decide_eq_false c2
    clear c2
    obtain rfl := Option.some.inj H
    go_wp2
    go_ret
    exact ⟨_, by first | rfl | (simp [errW_none, errW_some] <;> rfl) | (simp [*, errW_none, errW_some] <;> rfl), by (with_reducible repeat (first | apply Kd.R_alloc | apply Kd.R_drewN | apply Kd.R_drew)); exact HO_3.out, by repeat (first | (with_reducible first | exact HB.out | apply Ja43_ | apply Ja41_ | apply Ja42_) | exact HB.out)⟩
end Go.Proofs.Ytadafplbgophfaa.PA
end
section
namespace Go.Proofs.Ytadafplbgophfaa.PA
open Go.RowKit Go.Proofs.YtadafplbgophfaaW.PrintWords Go.Proofs.YtadafplbgophfaaW.PrintLast Go.Proofs.YtadafplbgophfaaW.PrintMore
attribute [local go_sem] max2_int min2_int max_two min_two max_three min_three max_four min_four   -- for this text's walks alone
set_option linter.unusedVariables false
set_option linter.unusedSimpArgs false
def J8_.f (k : Nat) (a0_0 : Int) (a0_1 : Int) (l1 : List ByteArray) : Option (List ByteArray) := if a0_0 < 0 then (some ([] : List ByteArray)) else (if a0_1 > (l1.length : Int) then (some ([] : List ByteArray)) else (if a0_1 < a0_0 then (some ([] : List ByteArray)) else (if 0 ≤ a0_0 then (if a0_0 ≤ a0_1 then (if a0_1 ≤ (l1.length : Int) then ((J13_.f k ((l1.take (a0_1 : Int).toNat).drop (a0_0 : Int).toNat)).bind fun t103 => (some t103)) else (none)) else (none)) else (none))))
set_option maxHeartbeats 8000000 in
set_option maxRecDepth 100000 in
theorem J8_.calls (k : Nat) (a0_0 : Int) (a0_1 : Int) (A1 : Option Addr) (c1 : Nat) (l1 : List ByteArray) (r : List ByteArray) (w : World) (hr1 : Kd.C Kd.string w A1 l1.length l1) (hc1 : l1.length ≤ c1) (h : J8_.f k a0_0 a0_1 l1 = some r) :
  Calls Try.prog 129 #[.agg #[.int .i64 a0_0, .int .i64 a0_1], .slice A1 l1.length c1] w fun e w' => ∃ v0_ : Value, e = .returned (v0_) ∧ Kd.R Kd.string 9 w' w.heap.size (fun _ => True) v0_ r ∧ Below w.heap.size w w' := by
 have hu76 := Try.underlying76
 have HR1 := Ja38_.mk hr1
 have HC1 := Ja38_.mk hc1
 clear hr1 hc1
 have HB := Ja38_.mk (Below.refl w.heap.size w)
 have H : (if a0_0 < 0 then (some ([] : List ByteArray)) else (if a0_1 > (l1.length : Int) then (some ([] : List ByteArray)) else (if a0_1 < a0_0 then (some ([] : List ByteArray)) else (if 0 ≤ a0_0 then (if a0_0 ≤ a0_1 then (if a0_1 ≤ (l1.length : Int) then ((J13_.f k ((l1.take (a0_1 : Int).toNat).drop (a0_0 : Int).toNat)).bind fun t103 => (some t103)) else (none)) else (none)) else (none))))) = some r := h
 clear h
 by_cases c3 : a0_0 < 0
 ·rw [if_pos c3] at H
  have c3b0 : decide (a0_0 < 0) = true := decide_eq_true c3
  clear c3
  obtain rfl := Option.some.inj H
  go_enter Try.func129, Try.ntmps129
  go_wp2_with (first | ((with_reducible refine gate_dst (N := 2) rfl ?_); (try (refine gate_guard (by rfl) ?_; dsimp only)); refine box_event ?hg (N := 2) ?hd (cs := #[.int .i64 a0_0, .int .i64 a0_1]) (t := 76) ?hr ?_; (case hd => rfl); (case hg => rfl); (case hr => first | (go_simp; done) | (go_simp; rfl)); intro gb101 hg w4 hbox hb; have n0_ := Ja38_.mk (Ja44_ (by repeat (first | (with_reducible first | exact HB.out | apply Ja43_ | apply Ja41_ | apply Ja42_) | exact HB.out)) hb); have n1_ := Ja38_.mk (hbox); have n2_ := Ja38_.mk ((by rw [hg]; exact (Ja45_ (by repeat (first | (with_reducible first | exact HB.out | apply Ja43_ | apply Ja41_ | apply Ja42_) | exact HB.out))) : w.heap.size ≤ gb101)); have n3_ := Ja38_.mk ((by rw [hg]; exact (Ja45_ (by repeat (first | (with_reducible first | exact HB.out | apply Ja43_ | apply Ja41_ | apply Ja42_) | exact HB.out))) : w.heap.size ≤ gb101)); clear HB; have HB := n0_; have BK101 := n1_; have GW101 := n2_; have GE101 := n3_; clear n0_ n1_ n2_ n3_; clear hb hbox hg; have hcz5_0 : w4.cell? ⟨gb101, 0, none⟩ = some (.int .i64 a0_0) := (Ja39_ BK101.out 0).trans rfl; have hcz5_1 : w4.cell? ⟨gb101, 1, none⟩ = some (.int .i64 a0_1) := (Ja39_ BK101.out 1).trans rfl; have hfz5_0 := Ja40_ BK101.out 0; have hfz5_1 := Ja40_ BK101.out 1))
  go_ret
  exact ⟨_, by first | rfl | (simp [errW_none, errW_some] <;> rfl) | (simp [*, errW_none, errW_some] <;> rfl), by first | exact Kd.R_nil _ _ _ _ _ | exact Kd.N_nil _ _ _ _ _ | exact Kd.V_nil _ _ _ _ _ | exact Kd.Q_nil _ _ _ _ _ | exact Kd.S_nil _ _ _ _ _, by repeat (first | (with_reducible first | exact HB.out | apply Ja43_ | apply Ja41_ | apply Ja42_ | refine Ja46_ ?_ GE101.out) | exact HB.out)⟩
 ·rw [if_neg c3] at H
  have c3b0 : decide (a0_0 < 0) = false := decide_eq_false c3
  clear c3
  by_cases c6 : a0_1 > (l1.length : Int)
  ·rw [if_pos c6] at H
   have c6b0 : decide ((l1.length : Int) < a0_1) = true := decide_eq_true c6
   clear c6
   obtain rfl := Option.some.inj H
   go_enter Try.func129, Try.ntmps129
   go_wp2_with (first | ((with_reducible refine gate_dst (N := 2) rfl ?_); (try (refine gate_guard (by rfl) ?_; dsimp only)); refine box_event ?hg (N := 2) ?hd (cs := #[.int .i64 a0_0, .int .i64 a0_1]) (t := 76) ?hr ?_; (case hd => rfl); (case hg => rfl); (case hr => first | (go_simp; done) | (go_simp; rfl)); intro gb101 hg w7 hbox hb; have n0_ := Ja38_.mk (Ja44_ (by repeat (first | (with_reducible first | exact HB.out | apply Ja43_ | apply Ja41_ | apply Ja42_) | exact HB.out)) hb); have n1_ := Ja38_.mk (hbox); have n2_ := Ja38_.mk ((by rw [hg]; exact (Ja45_ (by repeat (first | (with_reducible first | exact HB.out | apply Ja43_ | apply Ja41_ | apply Ja42_) | exact HB.out))) : w.heap.size ≤ gb101)); have n3_ := Ja38_.mk ((by rw [hg]; exact (Ja45_ (by repeat (first | (with_reducible first | exact HB.out | apply Ja43_ | apply Ja41_ | apply Ja42_) | exact HB.out))) : w.heap.size ≤ gb101)); clear HB; have HB := n0_; have BK101 := n1_; have GW101 := n2_; have GE101 := n3_; clear n0_ n1_ n2_ n3_; clear hb hbox hg; have hcz8_0 : w7.cell? ⟨gb101, 0, none⟩ = some (.int .i64 a0_0) := (Ja39_ BK101.out 0).trans rfl; have hcz8_1 : w7.cell? ⟨gb101, 1, none⟩ = some (.int .i64 a0_1) := (Ja39_ BK101.out 1).trans rfl; have hfz8_0 := Ja40_ BK101.out 0; have hfz8_1 := Ja40_ BK101.out 1))
   go_ret
   exact ⟨_, by first | rfl | (simp [errW_none, errW_some] <;> rfl) | (simp [*, errW_none, errW_some] <;> rfl), by first | exact Kd.R_nil _ _ _ _ _ | exact Kd.N_nil _ _ _ _ _ | exact Kd.V_nil _ _ _ _ _ | exact Kd.Q_nil _ _ _ _ _ | exact Kd.S_nil _ _ _ _ _, by repeat (first | (with_reducible first | exact HB.out | apply Ja43_ | apply Ja41_ | apply Ja42_ | refine Ja46_ ?_ GE101.out) | exact HB.out)⟩
  ·rw [if_neg c6] at H
   have c6b0 : decide ((l1.length : Int) < a0_1) = false := decide_eq_false c6
   clear c6
   by_cases c9 : a0_1 < a0_0
   ·rw [if_pos c9] at H
    have c9b0 : decide (a0_1 < a0_0) = true := decide_eq_true c9
    clear c9
    obtain rfl := Option.some.inj H
    go_enter Try.func129, Try.ntmps129
    go_wp2_with (first | ((with_reducible refine gate_dst (N := 2) rfl ?_); (try (refine gate_guard (by rfl) ?_; dsimp only)); refine box_event ?hg (N := 2) ?hd (cs := #[.int .i64 a0_0, .int .i64 a0_1]) (t := 76) ?hr ?_; (case hd => rfl); (case hg => rfl); (case hr => first | (go_simp; done) | (go_simp; rfl)); intro gb101 hg w10 hbox hb; have n0_ := Ja38_.mk (Ja44_ (by repeat (first | (with_reducible first | exact HB.out | apply Ja43_ | apply Ja41_ | apply Ja42_) | exact HB.out)) hb); have n1_ := Ja38_.mk (hbox); have n2_ := Ja38_.mk ((by rw [hg]; exact (Ja45_ (by repeat (first | (with_reducible first | exact HB.out | apply Ja43_ | apply Ja41_ | apply Ja42_) | exact HB.out))) : w.heap.size ≤ gb101)); have n3_ := Ja38_.mk ((by rw [hg]; exact (Ja45_ (by repeat (first | (with_reducible first | exact HB.out | apply Ja43_ | apply Ja41_ | apply Ja42_) | exact HB.out))) : w.heap.size ≤ gb101)); clear HB; have HB := n0_; have BK101 := n1_; have GW101 := n2_; have GE101 := n3_; clear n0_ n1_ n2_ n3_; clear hb hbox hg; have hcz11_0 : w10.cell? ⟨gb101, 0, none⟩ = some (.int .i64 a0_0) := (Ja39_ BK101.out 0).trans rfl; have hcz11_1 : w10.cell? ⟨gb101, 1, none⟩ = some (.int .i64 a0_1) := (Ja39_ BK101.out 1).trans rfl; have hfz11_0 := Ja40_ BK101.out 0; have hfz11_1 := Ja40_ BK101.out 1))
    go_ret
    exact ⟨_, by first | rfl | (simp [errW_none, errW_some] <;> rfl) | (simp [*, errW_none, errW_some] <;> rfl), by first | exact Kd.R_nil _ _ _ _ _ | exact Kd.N_nil _ _ _ _ _ | exact Kd.V_nil _ _ _ _ _ | exact Kd.Q_nil _ _ _ _ _ | exact Kd.S_nil _ _ _ _ _, by repeat (first | (with_reducible first | exact HB.out | apply Ja43_ | apply Ja41_ | apply Ja42_ | refine Ja46_ ?_ GE101.out) | exact HB.out)⟩
   ·rw [if_neg c9] at H
    have c9b0 : decide (a0_1 < a0_0) = false := decide_eq_false c9
    clear c9
    by_cases c12 : 0 ≤ a0_0
    ·rw [if_pos c12] at H
     have c12b0 := eq_true c12
     have c12b1 : decide (0 ≤ a0_0) = true := decide_eq_true c12
     clear c12
     by_cases c13 : a0_0 ≤ a0_1
     ·rw [if_pos c13] at H
      have c13b0 := eq_true c13
      have c13b1 : decide (a0_0 ≤ a0_1) = true := decide_eq_true c13
      clear c13
      by_cases c14 : a0_1 ≤ (l1.length : Int)
      ·rw [if_pos c14] at H
       have c14b0 := eq_true c14
       have c14b1 : decide (a0_1 ≤ (l1.length : Int)) = true := decide_eq_true c14
       clear c14
       replace H := Option.bind_eq_some_iff.mp H
       obtain ⟨t103, A150, H⟩ := H
       replace H : (some t103) = some r := H
       have A15 := Ja38_.mk A150
       clear A150
       obtain rfl := Option.some.inj H
       go_enter Try.func129, Try.ntmps129
       go_wp2_with (first | ((with_reducible refine gate_dst (N := 2) rfl ?_); (try (refine gate_guard (by rfl) ?_; dsimp only)); refine box_event ?hg (N := 2) ?hd (cs := #[.int .i64 a0_0, .int .i64 a0_1]) (t := 76) ?hr ?_; (case hd => rfl); (case hg => rfl); (case hr => first | (go_simp; done) | (go_simp; rfl)); intro gb101 hg w16 hbox hb; have n0_ := Ja38_.mk (Ja44_ (by repeat (first | (with_reducible first | exact HB.out | apply Ja43_ | apply Ja41_ | apply Ja42_) | exact HB.out)) hb); have n1_ := Ja38_.mk (hbox); have n2_ := Ja38_.mk ((by rw [hg]; exact (Ja45_ (by repeat (first | (with_reducible first | exact HB.out | apply Ja43_ | apply Ja41_ | apply Ja42_) | exact HB.out))) : w.heap.size ≤ gb101)); have n3_ := Ja38_.mk ((by rw [hg]; exact (Ja45_ (by repeat (first | (with_reducible first | exact HB.out | apply Ja43_ | apply Ja41_ | apply Ja42_) | exact HB.out))) : w.heap.size ≤ gb101)); clear HB; have HB := n0_; have BK101 := n1_; have GW101 := n2_; have GE101 := n3_; clear n0_ n1_ n2_ n3_; clear hb hbox hg; have hcz17_0 : w16.cell? ⟨gb101, 0, none⟩ = some (.int .i64 a0_0) := (Ja39_ BK101.out 0).trans rfl; have hcz17_1 : w16.cell? ⟨gb101, 1, none⟩ = some (.int .i64 a0_1) := (Ja39_ BK101.out 1).trans rfl; have hfz17_0 := Ja40_ BK101.out 0; have hfz17_1 := Ja40_ BK101.out 1; obtain ⟨i018, hi018, _, hsz18, _⟩ := info_parts info9; obtain ⟨A18, hcut18, hA18, hC18⟩ := print_mid_of (P := Try.prog) Value.string (⟨#[]⟩ : ByteArray) 27 9 .i64 .i64 Try.underlying27 hi018 hsz18 A1 c1 l1 a0_0 a0_1 (of_decide_eq_true (by first | (with_reducible assumption) | assumption)) (by first | omega | exact of_decide_eq_true (by first | (with_reducible assumption) | assumption)) (of_decide_eq_true (by first | (with_reducible assumption) | assumption)) HC1.out; have HR102 := Ja38_.mk (Kd.C_of_reads (h1 := fun _ => rfl) (hA18 _ (Kd.reads_of_C HR1.out))); have HC102 := Ja38_.mk hC18; clear hA18 hC18 hi018 hsz18) | ((with_reducible refine gate_callee (f := 127) rfl ?_); refine goesL_ (some 28) rfl rfl Try.func127 (by kernel_rfl) rfl #[.slice A18 ((l1.take (a0_1 : Int).toNat).drop (a0_0 : Int).toNat).length (c1 - a0_0.toNat)] rfl (by (try simp only [List.map_toArray, List.map_cons, List.map_nil]); first | done | (rw [show ((l1.take (a0_1 : Int).toNat).drop (a0_0 : Int).toNat).length = (a0_1.toNat - a0_0.toNat) from (by rw [List.length_drop, List.length_take]; have h_ : (a0_1 : Int) ≤ (l1.length : Int) := of_decide_eq_true (by first | (with_reducible assumption) | assumption); omega)] <;> rfl) | rfl | (simp only [List.length_drop, List.length_take]; rfl)) ?_; (with_reducible refine (J13_.calls k _ _ ((l1.take (a0_1 : Int).toNat).drop (a0_0 : Int).toNat) t103 _ ?side1 ?side2 A15.out).mono ?_); (case side1 => repeat (first | exact (Kd.C_below HR102.out HB.out) | (with_reducible refine Kd.C_alloc ?_ _) | (with_reducible refine Kd.C_drewN ?_ _) | (with_reducible refine Kd.C_drew ?_))); (case side2 => exact HC102.out); rintro e w19 ⟨v104, rfl, ho0, hb⟩; refine ⟨_, rfl, ?_⟩; have n0_ := Ja38_.mk (Kd.R_lower ho0 (Ja45_ (by repeat (first | (with_reducible first | exact HB.out | apply Ja43_ | apply Ja41_ | apply Ja42_ | refine Ja46_ ?_ GE101.out) | exact HB.out)))); have n1_ := Ja38_.mk (Ja47_ (g := gb101) (o := .cells #[.int .i64 a0_0, .int .i64 a0_1] 76 (0, 0)) (by (with_reducible repeat (first | refine Ja50_ ?_ _ | refine Ja49_ ?_ | refine Ja48_ ?_ _)); exact BK101.out) hb); have n2_ := Ja38_.mk (Ja44_ (by repeat (first | (with_reducible first | exact HB.out | apply Ja43_ | apply Ja41_ | apply Ja42_ | refine Ja46_ ?_ GE101.out) | exact HB.out)) hb); clear BK101; clear HB; have HO105 := n0_; have BK101 := n1_; have HB := n2_; clear n0_ n1_ n2_; (try clear hb); (try clear hb2); (try clear hk); (try clear hi); (try clear ho0)))
       go_ret
       exact ⟨_, by first | rfl | (simp [errW_none, errW_some] <;> rfl) | (simp [*, errW_none, errW_some] <;> rfl), by (with_reducible repeat (first | apply Kd.R_alloc | apply Kd.R_drewN | apply Kd.R_drew)); exact HO105.out, by repeat (first | (with_reducible first | exact HB.out | apply Ja43_ | apply Ja41_ | apply Ja42_ | refine Ja46_ ?_ GE101.out) | exact HB.out)⟩
      ·rw [if_neg c14] at H
       exact absurd H (by simp)
     ·rw [if_neg c13] at H
      exact absurd H (by simp)
    ·rw [if_neg c12] at H
     exact absurd H (by simp)
end Go.Proofs.Ytadafplbgophfaa.PA
end
section
namespace Go.Proofs.Ytadafplbgophfaa.PA
open Go.RowKit Go.Proofs.YtadafplbgophfaaW.PrintWords Go.Proofs.YtadafplbgophfaaW.PrintLast Go.Proofs.YtadafplbgophfaaW.PrintMore
attribute [local go_sem] max2_int min2_int max_two min_two max_three min_three max_four min_four   -- for this text's walks alone
set_option linter.unusedVariables false
set_option linter.unusedSimpArgs false
def J14_.l0 : Nat → List ByteArray → List ByteArray → Int → Int → Option (Bool)
 | 0, _, _, _, _ => none
 | k + 1, x0, x1, x12, x13 => if x13 < x12 then (if 0 ≤ x13 then (if x13 < (x0.length : Int) then (if x13 < (x1.length : Int) then (if (rdOf ByteArray.empty x0 x13).toList = (rdOf ByteArray.empty x1 x13).toList then (J14_.l0 k x0 x1 x12 (wrap64 (x13 + 1))) else (some false)) else (none)) else (none)) else (none)) else (some true)
def J14_.f (k : Nat) (l0 : List ByteArray) (l1 : List ByteArray) : Option (Bool) := if (l0.length : Int) = (l1.length : Int) then (J14_.l0 k l0 l1 (l0.length : Int) 0) else (some false)
set_option maxHeartbeats 8000000 in
set_option maxRecDepth 100000 in
theorem J14_.calls (k : Nat) (A0 : Option Addr) (c0 : Nat) (l0 : List ByteArray) (A1 : Option Addr) (c1 : Nat) (l1 : List ByteArray) (r : Bool) (w : World) (hr0 : Kd.C Kd.string w A0 l0.length l0) (hc0 : l0.length ≤ c0) (hr1 : Kd.C Kd.string w A1 l1.length l1) (hc1 : l1.length ≤ c1) (h : J14_.f k l0 l1 = some r) :
  Calls Try.prog 83 #[.slice A0 l0.length c0, .slice A1 l1.length c1] w fun e w' => e = .returned (.bool r) ∧ Drawn0 w w' := by
 have HR0 := Ja38_.mk hr0
 have HC0 := Ja38_.mk hc0
 clear hr0 hc0
 have HR1 := Ja38_.mk hr1
 have HC1 := Ja38_.mk hc1
 clear hr1 hc1
 have H : (if (l0.length : Int) = (l1.length : Int) then (J14_.l0 k l0 l1 (l0.length : Int) 0) else (some false)) = some r := h
 clear h
 by_cases c3 : (l0.length : Int) = (l1.length : Int)
 ·rw [if_pos c3] at H
  have c3b0 : ((l0.length : Int) == (l1.length : Int)) = true := beq_iff_eq.mpr c3
  have c3b1 : ((l0.length : Int) != (l1.length : Int)) = false := bne_eq_false_iff_eq.mpr c3
  have c3b2 : (l0.length == l1.length) = true := by first | simpa using c3 | (simp at c3 ⊢; omega)
  clear c3
  have H' := Ja38_.mk H
  clear H
  go_enter Try.func83, Try.ntmps83
  go_wp2
  repeat (go_quiet (fail); try go_wp2)
  go_loopg [13] k (fun kq v13 w' => ∃ (x13_1 : Int), v13 = .int .i64 x13_1 ∧ Ja38_ (J14_.l0 kq l0 l1 (l0.length : Int) x13_1 = some r) ∧ Ja38_ (kq ≤ k) ∧ Drawn0 w w')
  case atStart => exact ⟨(0), (by first | rfl | (simp; done) | (simp [*]; done)), H', ⟨Nat.le_refl _⟩, by repeat (first | exact Drawn0.refl _ | apply Drawn0.step)⟩
  case round =>
   clear H'
   try clear c1
   try clear p2
   try clear c3
   try clear c3b0
   try clear c3b1
   try clear c3b2
   obtain ⟨x13_1, rfl, HA, HK1, ⟨m1, rfl⟩⟩ := hrel
   cases gk with
   | zero => exact absurd HA.out (by simp [J14_.l0])
   | succ k1 =>
    have H := HA.out
    clear HA
    simp only [J14_.l0] at H
    by_cases c4 : x13_1 < (l0.length : Int)
    ·rw [if_pos c4] at H
     have c4b0 : decide (x13_1 < (l0.length : Int)) = true := decide_eq_true c4
     clear c4
     by_cases c5 : 0 ≤ x13_1
     ·rw [if_pos c5] at H
      have c5b0 : decide (0 ≤ x13_1) = true := decide_eq_true c5
      clear c5
      by_cases c6 : x13_1 < (l0.length : Int)
      ·rw [if_pos c6] at H
       have c6b0 : decide (x13_1 < (l0.length : Int)) = true := decide_eq_true c6
       clear c6
       by_cases c7 : x13_1 < (l1.length : Int)
       ·rw [if_pos c7] at H
        have c7b0 : decide (x13_1 < (l1.length : Int)) = true := decide_eq_true c7
        clear c7
        by_cases c8 : (rdOf ByteArray.empty l0 x13_1).toList = (rdOf ByteArray.empty l1 x13_1).toList
        ·rw [if_pos c8] at H
         have c8b0 : ((rdOf ByteArray.empty l0 x13_1).toList == (rdOf ByteArray.empty l1 x13_1).toList) = true := beq_iff_eq.mpr c8
         have c8b1 : ((rdOf ByteArray.empty l0 x13_1).toList != (rdOf ByteArray.empty l1 x13_1).toList) = false := bne_eq_false_iff_eq.mpr c8
         clear c8
         have H' := Ja38_.mk H
         clear H
         have p101 : 0 ≤ (x13_1 : Int) := of_decide_eq_true (by first | (with_reducible assumption) | assumption)
         have q101 : x13_1 < (l0.length : Int) := of_decide_eq_true (by first | (with_reducible assumption) | assumption)
         obtain ⟨ad101, e101, hx101_0⟩ := Kd.at_string HR0.out x13_1 p101 q101
         cases e101
         replace p101 := eq_true p101
         replace q101 := eq_true q101
         have p102 : 0 ≤ (x13_1 : Int) := of_decide_eq_true (by first | (with_reducible assumption) | assumption)
         have q102 : x13_1 < (l1.length : Int) := of_decide_eq_true (by first | (with_reducible assumption) | assumption)
         obtain ⟨ad102, e102, hx102_0⟩ := Kd.at_string HR1.out x13_1 p102 q102
         cases e102
         replace p102 := eq_true p102
         replace q102 := eq_true q102
         go_wp2
         repeat (go_quiet (fail); try go_wp2)
         go_roundg k1
         case measure => have := HK1.out; omega
         case rel => exact ⟨(wrap64 (x13_1 + 1)), (by first | rfl | (simp; done) | (simp [*]; done)), H', ⟨by have := HK1.out; omega⟩, by repeat (first | exact Drawn0.refl _ | apply Drawn0.step)⟩
        ·rw [if_neg c8] at H
         have c8b0 : ((rdOf ByteArray.empty l0 x13_1).toList == (rdOf ByteArray.empty l1 x13_1).toList) = false := beq_eq_false_iff_ne.mpr c8
         have c8b1 : ((rdOf ByteArray.empty l0 x13_1).toList != (rdOf ByteArray.empty l1 x13_1).toList) = true := bne_iff_ne.mpr c8
         obtain rfl := Option.some.inj H
         have p101 : 0 ≤ (x13_1 : Int) := of_decide_eq_true (by first | (with_reducible assumption) | assumption)
         have q101 : x13_1 < (l0.length : Int) := of_decide_eq_true (by first | (with_reducible assumption) | assumption)
         obtain ⟨ad101, e101, hx101_0⟩ := Kd.at_string HR0.out x13_1 p101 q101
         cases e101
         replace p101 := eq_true p101
         replace q101 := eq_true q101
         have p102 : 0 ≤ (x13_1 : Int) := of_decide_eq_true (by first | (with_reducible assumption) | assumption)
         have q102 : x13_1 < (l1.length : Int) := of_decide_eq_true (by first | (with_reducible assumption) | assumption)
         obtain ⟨ad102, e102, hx102_0⟩ := Kd.at_string HR1.out x13_1 p102 q102
         cases e102
         replace p102 := eq_true p102
         replace q102 := eq_true q102
         go_wp2
         repeat (go_quiet (fail); try go_wp2)
         go_ret
         exact ⟨by first | rfl | (simp; done) | (simp [*]; done), by repeat (first | exact Drawn0.refl _ | apply Drawn0.step)⟩
       ·rw [if_neg c7] at H
        exact absurd H (by simp)
      ·rw [if_neg c6] at H
       exact absurd H (by simp)
     ·rw [if_neg c5] at H
      exact absurd H (by simp)
    ·rw [if_neg c4] at H
     have c4b0 : decide (x13_1 < (l0.length : Int)) = false := decide_eq_false c4
     clear c4
     obtain rfl := Option.some.inj H
     go_wp2
     repeat (go_quiet (fail); try go_wp2)
     go_ret
     exact ⟨by first | rfl | (simp; done) | (simp [*]; done), by repeat (first | exact Drawn0.refl _ | apply Drawn0.step)⟩
 ·rw [if_neg c3] at H
  have c3b0 : ((l0.length : Int) == (l1.length : Int)) = false := beq_eq_false_iff_ne.mpr c3
  have c3b1 : ((l0.length : Int) != (l1.length : Int)) = true := bne_iff_ne.mpr c3
  have c3b2 : (l0.length == l1.length) = false := by first | simpa using c3 | (simp at c3 ⊢; omega)
  obtain rfl := Option.some.inj H
  go_enter Try.func83, Try.ntmps83
  go_wp2
  repeat (go_quiet (fail); try go_wp2)
  go_ret
  exact ⟨by first | rfl | (simp; done) | (simp [*]; done), by repeat (first | exact Drawn0.refl _ | apply Drawn0.step)⟩
end Go.Proofs.Ytadafplbgophfaa.PA
end
section
namespace Go.Proofs.Ytadafplbgophfaa.PA
open Go.RowKit Go.Proofs.YtadafplbgophfaaW.PrintWords Go.Proofs.YtadafplbgophfaaW.PrintLast Go.Proofs.YtadafplbgophfaaW.PrintMore
attribute [local go_sem] max2_int min2_int max_two min_two max_three min_three max_four min_four   -- for this text's walks alone
set_option linter.unusedVariables false
set_option linter.unusedSimpArgs false
def J18_.f (k : Nat) (l0 : List ByteArray) (l1 : List ByteArray) : Option (Bool) := (J14_.f k l0 l1).bind fun t101 => (some t101)
set_option maxHeartbeats 8000000 in
set_option maxRecDepth 100000 in
theorem J18_.calls (k : Nat) (A0 : Option Addr) (c0 : Nat) (l0 : List ByteArray) (A1 : Option Addr) (c1 : Nat) (l1 : List ByteArray) (r : Bool) (w : World) (hr0 : Kd.C Kd.string w A0 l0.length l0) (hc0 : l0.length ≤ c0) (hr1 : Kd.C Kd.string w A1 l1.length l1) (hc1 : l1.length ≤ c1) (h : J18_.f k l0 l1 = some r) :
  Calls Try.prog 24 #[.slice A0 l0.length c0, .slice A1 l1.length c1] w fun e w' => e = .returned (.bool r) ∧ Drawn0 w w' := by
 have HR0 := Ja38_.mk hr0
 have HC0 := Ja38_.mk hc0
 clear hr0 hc0
 have HR1 := Ja38_.mk hr1
 have HC1 := Ja38_.mk hc1
 clear hr1 hc1
 have H : ((J14_.f k l0 l1).bind fun t101 => (some t101)) = some r := h
 clear h
 replace H := Option.bind_eq_some_iff.mp H
 obtain ⟨t101, A30, H⟩ := H
 replace H : (some t101) = some r := H
 have A3 := Ja38_.mk A30
 clear A30
 obtain rfl := Option.some.inj H
 go_enter Try.func24, Try.ntmps24
 go_wp2_with (first | ((with_reducible refine gate_callee (f := 83) rfl ?_); refine goesL_ (some 7) rfl rfl Try.func83 (by kernel_rfl) rfl #[.slice A0 l0.length c0, .slice A1 l1.length c1] rfl (by (try simp only [List.map_toArray, List.map_cons, List.map_nil]); first | done | rfl | (simp only [List.length_drop, List.length_take]; rfl)) ?_; (with_reducible refine (J14_.calls k _ _ l0 _ _ l1 t101 _ ?side1 ?side2 ?side3 ?side4 A3.out).mono ?_); (case side1 => repeat (first | exact HR0.out | (with_reducible refine Kd.C_alloc ?_ _) | (with_reducible refine Kd.C_drewN ?_ _) | (with_reducible refine Kd.C_drew ?_))); (case side2 => exact HC0.out); (case side3 => repeat (first | exact HR1.out | (with_reducible refine Kd.C_alloc ?_ _) | (with_reducible refine Kd.C_drewN ?_ _) | (with_reducible refine Kd.C_drew ?_))); (case side4 => exact HC1.out); rintro e w' ⟨rfl, ⟨nd, rfl⟩⟩; refine ⟨_, rfl, ?_⟩))
 go_ret
 exact ⟨by first | rfl | (simp; done) | (simp [*]; done), by repeat (first | exact Drawn0.refl _ | apply Drawn0.step)⟩
end Go.Proofs.Ytadafplbgophfaa.PA
end
section
namespace Go.Proofs.Ytadafplbgophfaa.PA
open Go.RowKit Go.Proofs.YtadafplbgophfaaW.PrintWords Go.Proofs.YtadafplbgophfaaW.PrintLast Go.Proofs.YtadafplbgophfaaW.PrintMore
attribute [local go_sem] max2_int min2_int max_two min_two max_three min_three max_four min_four   -- for this text's walks alone
set_option linter.unusedVariables false
set_option linter.unusedSimpArgs false
def J7_.f (k : Nat) (a0_0 : Bool) (a0_1 : Int) (a0_2 : Int) (a0_3 : Int) (a0_4 : Int) (a0_5 : Int) (a0_6 : Int) (l1 : List ByteArray) (l2 : List ByteArray) (l3 : List ByteArray) : Option (Int) := (J8_.f k a0_1 a0_2 l1).bind fun t102 => ((J8_.f k a0_3 a0_4 l2).bind fun t105 => ((J8_.f k a0_5 a0_6 l3).bind fun t108 => (if a0_0 = true then (some 0) else ((J18_.f k t102 t105).bind fun t111 => (if t111 = true then (some 2) else ((J18_.f k t102 t108).bind fun t112 => (if t112 = true then (some 1) else ((J18_.f k t105 t108).bind fun t113 => (if t113 = true then (some 3) else (some 4))))))))))
def J7_.T1 : Bool × List (List Nat × List Nat) := (true, [([], []), ([0], [0]), ([], []), ([1, 2], [1, 2]), ([], []), ([4], [4]), ([], []), ([5, 6, 3], [5, 6]), ([], []), ([8], [8]), ([], []), ([9, 10, 7], [9, 10]), ([3, 11, 0, 1, 2, 3], [3]), ([7, 12, 0, 1, 2, 3, 4, 5, 6, 7, 12], [7]), ([11, 13, 0, 1, 2, 3, 4, 5, 6, 7, 8, 9, 10, 11, 12, 13], [11])])
def J7_.B1 : List Nat := [0, 1, 0, 7, 0, 16, 0, 127, 0, 256, 0, 2047, 4095, 8191, 16383]
theorem J7_.tab1 : rtab .any (opsOf Try.f96 1) = J7_.T1 := by kernel_rfl
theorem J7_.bits1 : waitsOk J7_.T1.2 J7_.B1 = true := by kernel_rfl
set_option maxHeartbeats 8000000 in
set_option maxRecDepth 100000 in
theorem J7_.calls (k : Nat) (a0 : Bool) (a1 : Int) (a2 : Int) (a3 : Int) (a4 : Int) (a5 : Int) (a6 : Int) (A1 : Option Addr) (c1 : Nat) (l1 : List ByteArray) (A2 : Option Addr) (c2 : Nat) (l2 : List ByteArray) (A3 : Option Addr) (c3 : Nat) (l3 : List ByteArray) (r : Int) (w : World) (hr1 : Kd.C Kd.string w A1 l1.length l1) (hc1 : l1.length ≤ c1) (hr2 : Kd.C Kd.string w A2 l2.length l2) (hc2 : l2.length ≤ c2) (hr3 : Kd.C Kd.string w A3 l3.length l3) (hc3 : l3.length ≤ c3) (h : J7_.f k a0 a1 a2 a3 a4 a5 a6 l1 l2 l3 = some r) :
  Calls Try.prog 96 #[.agg #[.bool a0, .int .i64 a1, .int .i64 a2, .int .i64 a3, .int .i64 a4, .int .i64 a5, .int .i64 a6], .slice A1 l1.length c1, .slice A2 l2.length c2, .slice A3 l3.length c3] w fun e w' => e = .returned (.int .i64 r) ∧ Below w.heap.size w w' := by
 have hu78 := Try.underlying78
 have hu76 := Try.underlying76
 have K1 := Ja38_.mk hr1
 have K2 := Ja38_.mk hr2
 have K3 := Ja38_.mk hr3
 have HC1 := Ja38_.mk hc1
 have HC2 := Ja38_.mk hc2
 have HC3 := Ja38_.mk hc3
 clear hr1 hc1 hr2 hc2 hr3 hc3
 have H0 := h
 unfold J7_.f at h
 replace h := Option.bind_eq_some_iff.1 h
 obtain ⟨x, hx, h⟩ := h
 replace h := Option.bind_eq_some_iff.1 h
 obtain ⟨y, hy, h⟩ := h
 replace h := Option.bind_eq_some_iff.1 h
 obtain ⟨z, hz, h⟩ := h
 have X1 := Ja38_.mk hx
 have X2 := Ja38_.mk hy
 have X3 := Ja38_.mk hz
 clear hx hy hz H0
 have H := Ja38_.mk h
 clear h
 go_enter Try.func96, Try.ntmps96
 go_wp2_with ((with_reducible refine gate_dst (N := 4) rfl ?_); refine box_event ?hg (N := 4) ?hd (cs := #[.bool a0, .int .i64 a1, .int .i64 a2, .int .i64 a3, .int .i64 a4, .int .i64 a5, .int .i64 a6]) (t := 78) ?hr ?_; (case hd => rfl); (case hg => rfl); (case hr => first | (go_simp; done) | (go_simp; rfl)); intro gb hg w1 hbox hb; have BK := Ja38_.mk hbox; have HB := Ja38_.mk hb; replace K1 := Ja38_.mk (Kd.C_below K1.out hb); replace K2 := Ja38_.mk (Kd.C_below K2.out hb); replace K3 := Ja38_.mk (Kd.C_below K3.out hb); clear hg hbox hb)
 refine start_ (n := 15) (S := fun w' => w'.cell? ⟨gb, 0, none⟩ = some (.bool a0) ∧ w'.cell? ⟨gb, 1, none⟩ = some (.int .i64 a1) ∧ w'.cell? ⟨gb, 2, none⟩ = some (.int .i64 a2) ∧ w'.cell? ⟨gb, 3, none⟩ = some (.int .i64 a3) ∧ w'.cell? ⟨gb, 4, none⟩ = some (.int .i64 a4) ∧ w'.cell? ⟨gb, 5, none⟩ = some (.int .i64 a5) ∧ w'.cell? ⟨gb, 6, none⟩ = some (.int .i64 a6)) (ds := []) (bz_ 15 0) (by kernel_rfl) rfl rfl ⟨(Ja39_ BK.out 0).trans rfl, (Ja39_ BK.out 1).trans rfl, (Ja39_ BK.out 2).trans rfl, (Ja39_ BK.out 3).trans rfl, (Ja39_ BK.out 4).trans rfl, (Ja39_ BK.out 5).trans rfl, (Ja39_ BK.out 6).trans rfl⟩ (fun hHeld => ?_); refine with_tabW J7_.tab1 J7_.bits1 (fun HT_ HW_ => ?_)
 replace K1 := Ja38_.mk (Kd.C_drew K1.out)
 replace K2 := Ja38_.mk (Kd.C_drew K2.out)
 replace K3 := Ja38_.mk (Kd.C_drew K3.out)
 replace BK := Ja38_.mk (Ja49_ BK.out)
 replace HB := Ja38_.mk (Ja42_ HB.out)
 generalize w1.drew = wd at K1 K2 K3 BK HB hHeld ⊢
 refine pure_ (i := 0) (N := some 12) (v := ?_) (a' := ?_) (bz_ 15 1) rfl rfl (any_of HT_.out (by kernel_rfl)) (fun _ _ _ h => h) (Or.inl ⟨by rfl, ?_⟩) ?_ ?_
 rotate_left
 ·intro w'
  go_simp
  with_reducible rfl
 rotate_left
 ·simp only [Act.put, sA_, sB_, sC_, i64_w, i32_w]
  rfl
 refine pure_ (i := 2) (N := some 14) (v := ?_) (a' := ?_) (bz_ 15 5) rfl rfl (any_of HT_.out (by kernel_rfl)) (fun _ _ _ h => h) (Or.inl ⟨by rfl, ?_⟩) ?_ ?_
 rotate_left
 ·intro w'
  go_simp
  with_reducible rfl
 rotate_left
 ·simp only [Act.put, sA_, sB_, sC_, i64_w, i32_w]
  rfl
 refine pure_ (i := 4) (N := some 16) (v := ?_) (a' := ?_) (bz_ 15 21) rfl rfl (any_of HT_.out (by kernel_rfl)) (fun _ _ _ h => h) (Or.inl ⟨by rfl, ?_⟩) ?_ ?_
 rotate_left
 ·intro w'
  go_simp
  with_reducible rfl
 rotate_left
 ·simp only [Act.put, sA_, sB_, sC_, i64_w, i32_w]
  rfl
 refine pure_ (i := 6) (N := some 18) (v := ?_) (a' := ?_) (bz_ 15 85) rfl rfl (any_of HT_.out (by kernel_rfl)) (fun _ _ _ h => h) (Or.inl ⟨by rfl, ?_⟩) ?_ ?_
 rotate_left
 ·intro w'
  go_simp
  with_reducible rfl
 rotate_left
 ·simp only [Act.put, sA_, sB_, sC_, i64_w, i32_w]
  rfl
 refine pure_ (i := 8) (N := some 20) (v := ?_) (a' := ?_) (bz_ 15 341) rfl rfl (any_of HT_.out (by kernel_rfl)) (fun _ _ _ h => h) (Or.inl ⟨by rfl, ?_⟩) ?_ ?_
 rotate_left
 ·intro w'
  go_simp
  with_reducible rfl
 rotate_left
 ·simp only [Act.put, sA_, sB_, sC_, i64_w, i32_w]
  rfl
 refine pure_ (i := 10) (N := some 22) (v := ?_) (a' := ?_) (bz_ 15 1365) rfl rfl (any_of HT_.out (by kernel_rfl)) (fun _ _ _ h => h) (Or.inl ⟨by rfl, ?_⟩) ?_ ?_
 rotate_left
 ·intro w'
  go_simp
  with_reducible rfl
 rotate_left
 ·simp only [Act.put, sA_, sB_, sC_, i64_w, i32_w]
  rfl
 refine take_ (i := 1) (N := some 13) (v := ?_) (a' := ?_) (bz_ 15 1367) rfl rfl (Ja52_ HT_.out HW_.out (by kernel_rfl)) (fun _ _ _ h => h) (Or.inl ⟨by rfl, ?_⟩) hHeld ?_ ?_
 rotate_left
 ·rintro w' ⟨s0, s1, s2, s3, s4, s5, s6⟩
  go_simp
  with_reducible rfl
 rotate_left
 ·simp only [Act.put, sA_, sB_, sC_, i64_w, i32_w]
  rfl
 refine take_ (i := 5) (N := some 17) (v := ?_) (a' := ?_) (bz_ 15 1399) rfl rfl (Ja52_ HT_.out HW_.out (by kernel_rfl)) (fun _ _ _ h => h) (Or.inl ⟨by rfl, ?_⟩) hHeld ?_ ?_
 rotate_left
 ·rintro w' ⟨s0, s1, s2, s3, s4, s5, s6⟩
  go_simp
  with_reducible rfl
 rotate_left
 ·simp only [Act.put, sA_, sB_, sC_, i64_w, i32_w]
  rfl
 refine take_ (i := 9) (N := some 21) (v := ?_) (a' := ?_) (bz_ 15 1911) rfl rfl (Ja52_ HT_.out HW_.out (by kernel_rfl)) (fun _ _ _ h => h) (Or.inl ⟨by rfl, ?_⟩) hHeld ?_ ?_
 rotate_left
 ·rintro w' ⟨s0, s1, s2, s3, s4, s5, s6⟩
  go_simp
  with_reducible rfl
 rotate_left
 ·simp only [Act.put, sA_, sB_, sC_, i64_w, i32_w]
  rfl
 refine one_ (i := 3) (N := some 15) (bz_ 15 1919) rfl rfl (one_of HT_.out (by kernel_rfl)) (by decide) (fun K hK => ?_)
 refine goes_ Try.func129 (by kernel_rfl) rfl #[.agg #[.int .i64 a1, .int .i64 a2], .slice A1 l1.length c1] (by rfl) rfl rfl (by (try simp only [List.map_toArray, List.map_cons, List.map_nil]); first | done | rfl) ?_
 refine (J8_.calls k a1 a2 A1 c1 l1 x _ K1.out HC1.out X1.out).mono ?_
 rintro e w2 ⟨v0_, rfl, hR, hb⟩
 obtain ⟨B1, d1, rfl, hd, hC⟩ := Kd.R_reads hR
 have E1 := Ja38_.mk hC
 have D1 := Ja38_.mk hd
 replace K1 := Ja38_.mk (Kd.C_below K1.out hb)
 replace K2 := Ja38_.mk (Kd.C_below K2.out hb)
 replace K3 := Ja38_.mk (Kd.C_below K3.out hb)
 replace BK := Ja38_.mk (Ja47_ BK.out hb)
 replace HB := Ja38_.mk (Ja44_ HB.out hb)
 refine ⟨_, rfl, ?_⟩
 clear hC hd hb hR hHeld
 refine hK.out _ _ ⟨(Ja39_ BK.out 0).trans rfl, (Ja39_ BK.out 1).trans rfl, (Ja39_ BK.out 2).trans rfl, (Ja39_ BK.out 3).trans rfl, (Ja39_ BK.out 4).trans rfl, (Ja39_ BK.out 5).trans rfl, (Ja39_ BK.out 6).trans rfl⟩ (fun hHeld => ?_)
 clear hK K
 refine norm_ (a' := ?_) ?_ ?_
 rotate_left
 ·show Act.put _ (some 15) _ = _
  simp only [Act.put, sA_, sB_, sC_, i64_w, i32_w]
  rfl
 refine one_ (i := 7) (N := some 19) (bz_ 15 2047) rfl rfl (one_of HT_.out (by kernel_rfl)) (by decide) (fun K hK => ?_)
 refine goes_ Try.func129 (by kernel_rfl) rfl #[.agg #[.int .i64 a3, .int .i64 a4], .slice A2 l2.length c2] (by rfl) rfl rfl (by (try simp only [List.map_toArray, List.map_cons, List.map_nil]); first | done | rfl) ?_
 refine (J8_.calls k a3 a4 A2 c2 l2 y _ K2.out HC2.out X2.out).mono ?_
 rintro e w3 ⟨v0_, rfl, hR, hb⟩
 obtain ⟨B2, d2, rfl, hd, hC⟩ := Kd.R_reads hR
 have E2 := Ja38_.mk hC
 have D2 := Ja38_.mk hd
 replace K1 := Ja38_.mk (Kd.C_below K1.out hb)
 replace K2 := Ja38_.mk (Kd.C_below K2.out hb)
 replace K3 := Ja38_.mk (Kd.C_below K3.out hb)
 replace E1 := Ja38_.mk (Kd.C_below E1.out hb)
 replace BK := Ja38_.mk (Ja47_ BK.out hb)
 replace HB := Ja38_.mk (Ja44_ HB.out hb)
 refine ⟨_, rfl, ?_⟩
 clear hC hd hb hR hHeld
 refine hK.out _ _ ⟨(Ja39_ BK.out 0).trans rfl, (Ja39_ BK.out 1).trans rfl, (Ja39_ BK.out 2).trans rfl, (Ja39_ BK.out 3).trans rfl, (Ja39_ BK.out 4).trans rfl, (Ja39_ BK.out 5).trans rfl, (Ja39_ BK.out 6).trans rfl⟩ (fun hHeld => ?_)
 clear hK K
 refine norm_ (a' := ?_) ?_ ?_
 rotate_left
 ·show Act.put _ (some 19) _ = _
  simp only [Act.put, sA_, sB_, sC_, i64_w, i32_w]
  rfl
 refine one_ (i := 11) (N := some 23) (bz_ 15 4095) rfl rfl (one_of HT_.out (by kernel_rfl)) (by decide) (fun K hK => ?_)
 refine goes_ Try.func129 (by kernel_rfl) rfl #[.agg #[.int .i64 a5, .int .i64 a6], .slice A3 l3.length c3] (by rfl) rfl rfl (by (try simp only [List.map_toArray, List.map_cons, List.map_nil]); first | done | rfl) ?_
 refine (J8_.calls k a5 a6 A3 c3 l3 z _ K3.out HC3.out X3.out).mono ?_
 rintro e w4 ⟨v0_, rfl, hR, hb⟩
 obtain ⟨B3, d3, rfl, hd, hC⟩ := Kd.R_reads hR
 have E3 := Ja38_.mk hC
 have D3 := Ja38_.mk hd
 replace K1 := Ja38_.mk (Kd.C_below K1.out hb)
 replace K2 := Ja38_.mk (Kd.C_below K2.out hb)
 replace K3 := Ja38_.mk (Kd.C_below K3.out hb)
 replace E1 := Ja38_.mk (Kd.C_below E1.out hb)
 replace E2 := Ja38_.mk (Kd.C_below E2.out hb)
 replace BK := Ja38_.mk (Ja47_ BK.out hb)
 replace HB := Ja38_.mk (Ja44_ HB.out hb)
 refine ⟨_, rfl, ?_⟩
 clear hC hd hb hR hHeld
 refine hK.out _ _ ⟨(Ja39_ BK.out 0).trans rfl, (Ja39_ BK.out 1).trans rfl, (Ja39_ BK.out 2).trans rfl, (Ja39_ BK.out 3).trans rfl, (Ja39_ BK.out 4).trans rfl, (Ja39_ BK.out 5).trans rfl, (Ja39_ BK.out 6).trans rfl⟩ (fun hHeld => ?_)
 clear hK K
 refine norm_ (a' := ?_) ?_ ?_
 rotate_left
 ·show Act.put _ (some 23) _ = _
  simp only [Act.put, sA_, sB_, sC_, i64_w, i32_w]
  rfl
 refine pure_ (i := 12) (N := some 9) (v := ?_) (a' := ?_) (bz_ 15 8191) rfl rfl (any_of HT_.out (by kernel_rfl)) (fun _ _ _ h => h) (Or.inl ⟨by rfl, ?_⟩) ?_ ?_
 rotate_left
 ·intro w'
  go_simp
  with_reducible rfl
 rotate_left
 ·simp only [Act.put, sA_, sB_, sC_, i64_w, i32_w]
  rfl
 refine pure_ (i := 13) (N := some 10) (v := ?_) (a' := ?_) (bz_ 15 16383) rfl rfl (any_of HT_.out (by kernel_rfl)) (fun _ _ _ h => h) (Or.inl ⟨by rfl, ?_⟩) ?_ ?_
 rotate_left
 ·intro w'
  go_simp
  with_reducible rfl
 rotate_left
 ·simp only [Act.put, sA_, sB_, sC_, i64_w, i32_w]
  rfl
 refine pure_ (i := 14) (N := some 11) (v := ?_) (a' := ?_) (bz_ 15 32767) rfl rfl (any_of HT_.out (by kernel_rfl)) (fun _ _ _ h => h) (Or.inl ⟨by rfl, ?_⟩) ?_ ?_
 rotate_left
 ·intro w'
  go_simp
  with_reducible rfl
 rotate_left
 ·simp only [Act.put, sA_, sB_, sC_, i64_w, i32_w]
  rfl
 refine done_ (done_of HT_.out (by kernel_rfl)) ?_
 clear hHeld K1 K2 K3 X1 X2 X3
 have z0 : w4.cell? ⟨gb, 0, none⟩ = some (.bool a0) := (Ja39_ BK.out 0).trans rfl
 have hh := H.out
 clear H
 cases a0 with
 | true =>
  rw [if_pos rfl] at hh
  obtain rfl := Option.some.inj hh
  go_wp2_with fail
  go_ret
  exact ⟨by first | rfl | (simp; done), HB.out⟩
 | false =>
  rw [if_neg (by decide)] at hh
  replace hh := Option.bind_eq_some_iff.1 hh
  obtain ⟨t, ht, hh⟩ := hh
  have G := Ja38_.mk ht
  have HH := Ja38_.mk hh
  clear ht hh
  go_wp2_with fail
  refine (J18_.calls k B1 d1 x B2 d2 y _ _ E1.out D1.out E2.out D2.out G.out).mono ?_
  rintro e w5 ⟨rfl, hD⟩
  have hb := Drawn0.below hD
  replace HB := Ja38_.mk (Ja44_ HB.out hb)
  replace E1 := Ja38_.mk (Kd.C_below E1.out hb)
  replace E2 := Ja38_.mk (Kd.C_below E2.out hb)
  replace E3 := Ja38_.mk (Kd.C_below E3.out hb)
  clear hb hD G
  have hh := HH.out
  clear HH
  cases t with
  | true =>
   rw [if_pos rfl] at hh
   obtain rfl := Option.some.inj hh
   go_wp2_with fail
   go_ret
   exact ⟨by first | rfl | (simp; done), HB.out⟩
  | false =>
   rw [if_neg (by decide)] at hh
   replace hh := Option.bind_eq_some_iff.1 hh
   obtain ⟨t, ht, hh⟩ := hh
   have G := Ja38_.mk ht
   have HH := Ja38_.mk hh
   clear ht hh
   go_wp2_with fail
   refine (J18_.calls k B1 d1 x B3 d3 z _ _ E1.out D1.out E3.out D3.out G.out).mono ?_
   rintro e w6 ⟨rfl, hD⟩
   have hb := Drawn0.below hD
   replace HB := Ja38_.mk (Ja44_ HB.out hb)
   replace E1 := Ja38_.mk (Kd.C_below E1.out hb)
   replace E2 := Ja38_.mk (Kd.C_below E2.out hb)
   replace E3 := Ja38_.mk (Kd.C_below E3.out hb)
   clear hb hD G
   have hh := HH.out
   clear HH
   cases t with
   | true =>
    rw [if_pos rfl] at hh
    obtain rfl := Option.some.inj hh
    go_wp2_with fail
    go_ret
    exact ⟨by first | rfl | (simp; done), HB.out⟩
   | false =>
    rw [if_neg (by decide)] at hh
    replace hh := Option.bind_eq_some_iff.1 hh
    obtain ⟨t, ht, hh⟩ := hh
    have G := Ja38_.mk ht
    have HH := Ja38_.mk hh
    clear ht hh
    go_wp2_with fail
    refine (J18_.calls k B2 d2 y B3 d3 z _ _ E2.out D2.out E3.out D3.out G.out).mono ?_
    rintro e w7 ⟨rfl, hD⟩
    have hb := Drawn0.below hD
    replace HB := Ja38_.mk (Ja44_ HB.out hb)
    replace E1 := Ja38_.mk (Kd.C_below E1.out hb)
    replace E2 := Ja38_.mk (Kd.C_below E2.out hb)
    replace E3 := Ja38_.mk (Kd.C_below E3.out hb)
    clear hb hD G
    have hh := HH.out
    clear HH
    cases t with
    | true =>
     rw [if_pos rfl] at hh
     obtain rfl := Option.some.inj hh
     go_wp2_with fail
     go_ret
     exact ⟨by first | rfl | (simp; done), HB.out⟩
    | false =>
     rw [if_neg (by decide)] at hh
     obtain rfl := Option.some.inj hh
     go_wp2_with fail
     go_ret
     exact ⟨by first | rfl | (simp; done), HB.out⟩
end Go.Proofs.Ytadafplbgophfaa.PA
end
section
namespace Go.Proofs.Ytadafplbgophfaa.PA
open Go.RowKit Go.Proofs.YtadafplbgophfaaW.PrintWords Go.Proofs.YtadafplbgophfaaW.PrintLast Go.Proofs.YtadafplbgophfaaW.PrintMore
attribute [local go_sem] max2_int min2_int max_two min_two max_three min_three max_four min_four   -- for this text's walks alone
set_option linter.unusedVariables false
set_option linter.unusedSimpArgs false
def J2_.f (k : Nat) (l0_0 : List ByteArray) (l0_1 : List ByteArray) (l0_2 : List ByteArray) (a1_0 : Bool) (a1_1 : Int) (a1_2 : Int) (a1_3 : Int) (a1_4 : Int) (a1_5 : Int) (a1_6 : Int) : Option (Bool × Int × Int × Int × Int × Int × Int × List ByteArray × List ByteArray × List ByteArray × Int) := (J8_.f k a1_1 a1_2 l0_0).bind fun t104 => ((J8_.f k a1_3 a1_4 l0_1).bind fun t107 => ((J8_.f k a1_5 a1_6 l0_2).bind fun t110 => ((J7_.f k a1_0 a1_1 a1_2 a1_3 a1_4 a1_5 a1_6 l0_0 l0_1 l0_2).bind fun t113 => (some (a1_0, a1_1, a1_2, a1_3, a1_4, a1_5, a1_6, t104, t107, t110, t113)))))
def J2_.T1 : Bool × List (List Nat × List Nat) := (true, [([], []), ([], []), ([1], [1]), ([], []), ([3], [3]), ([2, 4], [2, 4]), ([], []), ([6], [6]), ([], []), ([8], [8]), ([7, 9, 5], [7, 9]), ([], []), ([11], [11]), ([], []), ([13], [13]), ([12, 14, 10], [12, 14]), ([], []), ([], []), ([17], [17]), ([], []), ([19], [19]), ([], []), ([21], [21]), ([16, 18, 20, 22, 15], [16, 18, 20, 22]), ([0, 5, 10, 15, 23], [0, 5, 10, 15, 23]), ([24, 23, 0, 1, 2, 3, 4, 5, 6, 7, 8, 9, 10, 11, 12, 13, 14, 15, 16, 17, 18, 19, 20, 21, 22, 23, 24], [24])])
def J2_.B1 : List Nat := [0, 0, 2, 0, 8, 30, 0, 64, 0, 256, 1022, 0, 2048, 0, 8192, 32766, 0, 0, 131072, 0, 524288, 0, 2097152, 8388606, 16777215, 33554431]
theorem J2_.tab1 : rtab .any (opsOf Try.f120 1) = J2_.T1 := by kernel_rfl
theorem J2_.bits1 : waitsOk J2_.T1.2 J2_.B1 = true := by kernel_rfl
set_option maxHeartbeats 8000000 in
set_option maxRecDepth 100000 in
theorem J2_.calls (k : Nat) (A0_0 : Option Addr) (c0_0 : Nat) (l0_0 : List ByteArray) (A0_1 : Option Addr) (c0_1 : Nat) (l0_1 : List ByteArray) (A0_2 : Option Addr) (c0_2 : Nat) (l0_2 : List ByteArray) (a1_0 : Bool) (a1_1 : Int) (a1_2 : Int) (a1_3 : Int) (a1_4 : Int) (a1_5 : Int) (a1_6 : Int) (r1 : Bool) (r2 : Int) (r3 : Int) (r4 : Int) (r5 : Int) (r6 : Int) (r7 : Int) (r8 : List ByteArray) (r9 : List ByteArray) (r10 : List ByteArray) (r11 : Int) (w : World) (hr0_0 : Kd.C Kd.string w A0_0 l0_0.length l0_0) (hc0_0 : l0_0.length ≤ c0_0) (hr0_1 : Kd.C Kd.string w A0_1 l0_1.length l0_1) (hc0_1 : l0_1.length ≤ c0_1) (hr0_2 : Kd.C Kd.string w A0_2 l0_2.length l0_2) (hc0_2 : l0_2.length ≤ c0_2) (h : J2_.f k l0_0 l0_1 l0_2 a1_0 a1_1 a1_2 a1_3 a1_4 a1_5 a1_6 = some (r1, r2, r3, r4, r5, r6, r7, r8, r9, r10, r11)) :
  Calls Try.prog 120 #[.agg #[.slice A0_0 l0_0.length c0_0, .slice A0_1 l0_1.length c0_1, .slice A0_2 l0_2.length c0_2], .agg #[.bool a1_0, .int .i64 a1_1, .int .i64 a1_2, .int .i64 a1_3, .int .i64 a1_4, .int .i64 a1_5, .int .i64 a1_6]] w fun e w' => ∃ v7_ v8_ v9_ : Value, e = .returned (.agg #[.bool r1, .int .i64 r2, .int .i64 r3, .int .i64 r4, .int .i64 r5, .int .i64 r6, .int .i64 r7, v7_, v8_, v9_, .int .i64 r11]) ∧ Kd.R Kd.string 9 w' w.heap.size (fun k_ => some k_ ≠ (v8_ : Value).ownBlock ∧ some k_ ≠ (v9_ : Value).ownBlock) v7_ r8 ∧ Kd.R Kd.string 9 w' w.heap.size (fun k_ => some k_ ≠ (v7_ : Value).ownBlock ∧ some k_ ≠ (v9_ : Value).ownBlock) v8_ r9 ∧ Kd.R Kd.string 9 w' w.heap.size (fun k_ => some k_ ≠ (v7_ : Value).ownBlock ∧ some k_ ≠ (v8_ : Value).ownBlock) v9_ r10 ∧ Below w.heap.size w w' := by
 have hu112 := Try.underlying112
 have hu78 := Try.underlying78
 have hu184 := Try.underlying184
 have hu76 := Try.underlying76
 have HR0_0 := Ja38_.mk hr0_0
 have HC0_0 := Ja38_.mk hc0_0
 clear hr0_0 hc0_0
 have HR0_1 := Ja38_.mk hr0_1
 have HC0_1 := Ja38_.mk hc0_1
 clear hr0_1 hc0_1
 have HR0_2 := Ja38_.mk hr0_2
 have HC0_2 := Ja38_.mk hc0_2
 clear hr0_2 hc0_2
 have HB := Ja38_.mk (Below.refl w.heap.size w)
 have H : ((J8_.f k a1_1 a1_2 l0_0).bind fun t104 => ((J8_.f k a1_3 a1_4 l0_1).bind fun t107 => ((J8_.f k a1_5 a1_6 l0_2).bind fun t110 => ((J7_.f k a1_0 a1_1 a1_2 a1_3 a1_4 a1_5 a1_6 l0_0 l0_1 l0_2).bind fun t113 => (some (a1_0, a1_1, a1_2, a1_3, a1_4, a1_5, a1_6, t104, t107, t110, t113)))))) = some (r1, r2, r3, r4, r5, r6, r7, r8, r9, r10, r11) := h
 clear h
 replace H := Option.bind_eq_some_iff.mp H
 obtain ⟨t104, A30, H⟩ := H
 replace H : ((J8_.f k a1_3 a1_4 l0_1).bind fun t107 => ((J8_.f k a1_5 a1_6 l0_2).bind fun t110 => ((J7_.f k a1_0 a1_1 a1_2 a1_3 a1_4 a1_5 a1_6 l0_0 l0_1 l0_2).bind fun t113 => (some (a1_0, a1_1, a1_2, a1_3, a1_4, a1_5, a1_6, t104, t107, t110, t113))))) = some (r1, r2, r3, r4, r5, r6, r7, r8, r9, r10, r11) := H
 have A3 := Ja38_.mk A30
 clear A30
 replace H := Option.bind_eq_some_iff.mp H
 obtain ⟨t107, A40, H⟩ := H
 replace H : ((J8_.f k a1_5 a1_6 l0_2).bind fun t110 => ((J7_.f k a1_0 a1_1 a1_2 a1_3 a1_4 a1_5 a1_6 l0_0 l0_1 l0_2).bind fun t113 => (some (a1_0, a1_1, a1_2, a1_3, a1_4, a1_5, a1_6, t104, t107, t110, t113)))) = some (r1, r2, r3, r4, r5, r6, r7, r8, r9, r10, r11) := H
 have A4 := Ja38_.mk A40
 clear A40
 replace H := Option.bind_eq_some_iff.mp H
 obtain ⟨t110, A50, H⟩ := H
 replace H : ((J7_.f k a1_0 a1_1 a1_2 a1_3 a1_4 a1_5 a1_6 l0_0 l0_1 l0_2).bind fun t113 => (some (a1_0, a1_1, a1_2, a1_3, a1_4, a1_5, a1_6, t104, t107, t110, t113))) = some (r1, r2, r3, r4, r5, r6, r7, r8, r9, r10, r11) := H
 have A5 := Ja38_.mk A50
 clear A50
 replace H := Option.bind_eq_some_iff.mp H
 obtain ⟨t113, A60, H⟩ := H
 replace H : (some (a1_0, a1_1, a1_2, a1_3, a1_4, a1_5, a1_6, t104, t107, t110, t113)) = some (r1, r2, r3, r4, r5, r6, r7, r8, r9, r10, r11) := H
 have A6 := Ja38_.mk A60
 clear A60
 simp only [Option.some.injEq, Prod.mk.injEq] at H
 obtain ⟨rfl, rfl, rfl, rfl, rfl, rfl, rfl, rfl, rfl, rfl, rfl⟩ := H
 go_enter Try.func120, Try.ntmps120
 try go_wp2_with (first | ((with_reducible refine gate_dst (N := 2) rfl ?_); refine box_event ?hg (N := 2) ?hd (cs := #[.slice A0_0 l0_0.length c0_0, .slice A0_1 l0_1.length c0_1, .slice A0_2 l0_2.length c0_2]) (t := 112) ?hr ?_; (case hd => rfl); (case hg => rfl); (case hr => first | (go_simp; done) | (go_simp; rfl)); intro gb101 hg w7 hbox hb; have n0_ := Ja38_.mk (Ja44_ (by repeat (first | (with_reducible first | exact HB.out | apply Ja43_ | apply Ja41_ | apply Ja42_) | exact HB.out)) hb); have n1_ := Ja38_.mk (hbox); have n2_ := Ja38_.mk ((by rw [hg]; exact (Ja45_ (by repeat (first | (with_reducible first | exact HB.out | apply Ja43_ | apply Ja41_ | apply Ja42_) | exact HB.out))) : w.heap.size ≤ gb101)); have n3_ := Ja38_.mk ((by rw [hg]; exact (Ja45_ (by repeat (first | (with_reducible first | exact HB.out | apply Ja43_ | apply Ja41_ | apply Ja42_) | exact HB.out))) : w.heap.size ≤ gb101)); clear HB; have HB := n0_; have BK101 := n1_; have GW101 := n2_; have GE101 := n3_; clear n0_ n1_ n2_ n3_; clear hb hbox hg) | ((with_reducible refine gate_dst (N := 3) rfl ?_); refine box_event ?hg (N := 3) ?hd (cs := #[.bool a1_0, .int .i64 a1_1, .int .i64 a1_2, .int .i64 a1_3, .int .i64 a1_4, .int .i64 a1_5, .int .i64 a1_6]) (t := 78) ?hr ?_; (case hd => rfl); (case hg => rfl); (case hr => first | (go_simp; done) | (go_simp; rfl)); intro gb102 hg w8 hbox hb; have n0_ := Ja38_.mk (Ja47_ (g := gb101) (o := .cells #[.slice A0_0 l0_0.length c0_0, .slice A0_1 l0_1.length c0_1, .slice A0_2 l0_2.length c0_2] 112 (0, 0)) (by (with_reducible repeat (first | refine Ja50_ ?_ _ | refine Ja49_ ?_ | refine Ja48_ ?_ _)); exact BK101.out) hb); have n1_ := Ja38_.mk (Ja44_ (by repeat (first | (with_reducible first | exact HB.out | apply Ja43_ | apply Ja41_ | apply Ja42_ | refine Ja46_ ?_ GE101.out) | exact HB.out)) hb); have n2_ := Ja38_.mk (hbox); have n3_ := Ja38_.mk ((by rw [hg]; exact (Ja45_ (by repeat (first | (with_reducible first | exact HB.out | apply Ja43_ | apply Ja41_ | apply Ja42_ | refine Ja46_ ?_ GE101.out) | exact HB.out))) : w.heap.size ≤ gb102)); have n4_ := Ja38_.mk ((by rw [hg]; exact (Ja45_ (by repeat (first | (with_reducible first | exact HB.out | apply Ja43_ | apply Ja41_ | apply Ja42_ | refine Ja46_ ?_ GE101.out) | exact HB.out))) : w.heap.size ≤ gb102)); have n5_ := Ja38_.mk ((by rw [hg]; exact Nat.ne_of_lt (blk_lt (g := gb101) (o := .cells #[.slice A0_0 l0_0.length c0_0, .slice A0_1 l0_1.length c0_1, .slice A0_2 l0_2.length c0_2] 112 (0, 0)) (by (with_reducible repeat (first | refine Ja50_ ?_ _ | refine Ja49_ ?_ | refine Ja48_ ?_ _)); exact BK101.out)) : gb101 ≠ gb102)); have n6_ := Ja38_.mk ((by rw [hg]; exact Nat.ne_of_gt (blk_lt (g := gb101) (o := .cells #[.slice A0_0 l0_0.length c0_0, .slice A0_1 l0_1.length c0_1, .slice A0_2 l0_2.length c0_2] 112 (0, 0)) (by (with_reducible repeat (first | refine Ja50_ ?_ _ | refine Ja49_ ?_ | refine Ja48_ ?_ _)); exact BK101.out)) : gb102 ≠ gb101)); clear BK101; clear HB; have BK101 := n0_; have HB := n1_; have BK102 := n2_; have GW102 := n3_; have GE102 := n4_; have NB101_102 := n5_; have NB102_101 := n6_; clear n0_ n1_ n2_ n3_ n4_ n5_ n6_; clear hb hbox hg) | ((with_reducible refine gate_dst (N := 4) rfl ?_); refine box_event ?hg (N := 4) ?hd (cs := #[.bool false, .int .i64 0, .int .i64 0, .int .i64 0, .int .i64 0, .int .i64 0, .int .i64 0, .slice none 0 0, .slice none 0 0, .slice none 0 0, .int .i64 0]) (t := 184) ?hr ?_; (case hd => rfl); (case hg => rfl); (case hr => first | (go_simp; done) | (go_simp; rfl)); intro gb103 hg w9 hbox hb; have n0_ := Ja38_.mk (Ja47_ (g := gb101) (o := .cells #[.slice A0_0 l0_0.length c0_0, .slice A0_1 l0_1.length c0_1, .slice A0_2 l0_2.length c0_2] 112 (0, 0)) (by (with_reducible repeat (first | refine Ja50_ ?_ _ | refine Ja49_ ?_ | refine Ja48_ ?_ _)); exact BK101.out) hb); have n1_ := Ja38_.mk (Ja47_ (g := gb102) (o := .cells #[.bool a1_0, .int .i64 a1_1, .int .i64 a1_2, .int .i64 a1_3, .int .i64 a1_4, .int .i64 a1_5, .int .i64 a1_6] 78 (0, 0)) (by (with_reducible repeat (first | refine Ja50_ ?_ _ | refine Ja49_ ?_ | refine Ja48_ ?_ _)); exact BK102.out) hb); have n2_ := Ja38_.mk (Ja44_ (by repeat (first | (with_reducible first | exact HB.out | apply Ja43_ | apply Ja41_ | apply Ja42_ | refine Ja46_ ?_ GE101.out | refine Ja46_ ?_ GE102.out) | exact HB.out)) hb); have n3_ := Ja38_.mk (hbox); have n4_ := Ja38_.mk ((by rw [hg]; exact (Ja45_ (by repeat (first | (with_reducible first | exact HB.out | apply Ja43_ | apply Ja41_ | apply Ja42_ | refine Ja46_ ?_ GE101.out | refine Ja46_ ?_ GE102.out) | exact HB.out))) : w.heap.size ≤ gb103)); have n5_ := Ja38_.mk ((by rw [hg]; exact (Ja45_ (by repeat (first | (with_reducible first | exact HB.out | apply Ja43_ | apply Ja41_ | apply Ja42_ | refine Ja46_ ?_ GE101.out | refine Ja46_ ?_ GE102.out) | exact HB.out))) : w.heap.size ≤ gb103)); have n6_ := Ja38_.mk ((by rw [hg]; exact Nat.ne_of_lt (blk_lt (g := gb101) (o := .cells #[.slice A0_0 l0_0.length c0_0, .slice A0_1 l0_1.length c0_1, .slice A0_2 l0_2.length c0_2] 112 (0, 0)) (by (with_reducible repeat (first | refine Ja50_ ?_ _ | refine Ja49_ ?_ | refine Ja48_ ?_ _)); exact BK101.out)) : gb101 ≠ gb103)); have n7_ := Ja38_.mk ((by rw [hg]; exact Nat.ne_of_gt (blk_lt (g := gb101) (o := .cells #[.slice A0_0 l0_0.length c0_0, .slice A0_1 l0_1.length c0_1, .slice A0_2 l0_2.length c0_2] 112 (0, 0)) (by (with_reducible repeat (first | refine Ja50_ ?_ _ | refine Ja49_ ?_ | refine Ja48_ ?_ _)); exact BK101.out)) : gb103 ≠ gb101)); have n8_ := Ja38_.mk ((by rw [hg]; exact Nat.ne_of_lt (blk_lt (g := gb102) (o := .cells #[.bool a1_0, .int .i64 a1_1, .int .i64 a1_2, .int .i64 a1_3, .int .i64 a1_4, .int .i64 a1_5, .int .i64 a1_6] 78 (0, 0)) (by (with_reducible repeat (first | refine Ja50_ ?_ _ | refine Ja49_ ?_ | refine Ja48_ ?_ _)); exact BK102.out)) : gb102 ≠ gb103)); have n9_ := Ja38_.mk ((by rw [hg]; exact Nat.ne_of_gt (blk_lt (g := gb102) (o := .cells #[.bool a1_0, .int .i64 a1_1, .int .i64 a1_2, .int .i64 a1_3, .int .i64 a1_4, .int .i64 a1_5, .int .i64 a1_6] 78 (0, 0)) (by (with_reducible repeat (first | refine Ja50_ ?_ _ | refine Ja49_ ?_ | refine Ja48_ ?_ _)); exact BK102.out)) : gb103 ≠ gb102)); clear BK101; clear BK102; clear HB; have BK101 := n0_; have BK102 := n1_; have HB := n2_; have BK103 := n3_; have GW103 := n4_; have GE103 := n5_; have NB101_103 := n6_; have NB103_101 := n7_; have NB102_103 := n8_; have NB103_102 := n9_; clear n0_ n1_ n2_ n3_ n4_ n5_ n6_ n7_ n8_ n9_; clear hb hbox hg))
 have n0_ := Ja38_.mk (Ja49_ BK101.out)
 have n1_ := Ja38_.mk (Ja49_ BK102.out)
 have n2_ := Ja38_.mk (Ja49_ BK103.out)
 have n3_ := Ja38_.mk (Ja42_ HB.out)
 clear BK101
 clear BK102
 clear BK103
 clear HB
 have BK101 := n0_
 have BK102 := n1_
 have BK103 := n2_
 have HB := n3_
 clear n0_ n1_ n2_ n3_
 refine start_ (n := 26) (S := fun w' => w'.cell? ⟨gb102, 0, none⟩ = some (.bool a1_0) ∧ w'.cell? ⟨gb102, 1, none⟩ = some (.int .i64 a1_1) ∧ w'.cell? ⟨gb102, 2, none⟩ = some (.int .i64 a1_2) ∧ w'.cell? ⟨gb102, 3, none⟩ = some (.int .i64 a1_3) ∧ w'.cell? ⟨gb102, 4, none⟩ = some (.int .i64 a1_4) ∧ w'.cell? ⟨gb102, 5, none⟩ = some (.int .i64 a1_5) ∧ w'.cell? ⟨gb102, 6, none⟩ = some (.int .i64 a1_6) ∧ w'.cell? ⟨gb101, 0, none⟩ = some (.slice A0_0 l0_0.length c0_0) ∧ w'.cell? ⟨gb101, 1, none⟩ = some (.slice A0_1 l0_1.length c0_1) ∧ w'.cell? ⟨gb101, 2, none⟩ = some (.slice A0_2 l0_2.length c0_2)) (ds := []) (bz_ 26 0) (by kernel_rfl) rfl rfl ⟨(Ja39_ BK102.out 0).trans rfl, (Ja39_ BK102.out 1).trans rfl, (Ja39_ BK102.out 2).trans rfl, (Ja39_ BK102.out 3).trans rfl, (Ja39_ BK102.out 4).trans rfl, (Ja39_ BK102.out 5).trans rfl, (Ja39_ BK102.out 6).trans rfl, (Ja39_ BK101.out 0).trans rfl, (Ja39_ BK101.out 1).trans rfl, (Ja39_ BK101.out 2).trans rfl⟩ (fun hHeld => ?_); refine with_tabW J2_.tab1 J2_.bits1 (fun HT_ HW_ => ?_)
 generalize w9.drew = w10 at BK101 BK102 BK103 HB hHeld ⊢
 refine pure_ (i := 1) (N := some 6) (v := ?_) (a' := ?_) (bz_ 26 2) rfl rfl (any_of HT_.out (by kernel_rfl)) (fun _ _ _ h => h) (Or.inl ⟨by rfl, ?_⟩) ?_ ?_
 rotate_left
 ·intro w'
  go_simp
  with_reducible rfl
 rotate_left
 ·simp only [Act.put, sA_, sB_, sC_, i64_w, i32_w]
  rfl
 refine pure_ (i := 3) (N := some 8) (v := ?_) (a' := ?_) (bz_ 26 10) rfl rfl (any_of HT_.out (by kernel_rfl)) (fun _ _ _ h => h) (Or.inl ⟨by rfl, ?_⟩) ?_ ?_
 rotate_left
 ·intro w'
  go_simp
  with_reducible rfl
 rotate_left
 ·simp only [Act.put, sA_, sB_, sC_, i64_w, i32_w]
  rfl
 refine pure_ (i := 6) (N := some 11) (v := ?_) (a' := ?_) (bz_ 26 74) rfl rfl (any_of HT_.out (by kernel_rfl)) (fun _ _ _ h => h) (Or.inl ⟨by rfl, ?_⟩) ?_ ?_
 rotate_left
 ·intro w'
  go_simp
  with_reducible rfl
 rotate_left
 ·simp only [Act.put, sA_, sB_, sC_, i64_w, i32_w]
  rfl
 refine pure_ (i := 8) (N := some 13) (v := ?_) (a' := ?_) (bz_ 26 330) rfl rfl (any_of HT_.out (by kernel_rfl)) (fun _ _ _ h => h) (Or.inl ⟨by rfl, ?_⟩) ?_ ?_
 rotate_left
 ·intro w'
  go_simp
  with_reducible rfl
 rotate_left
 ·simp only [Act.put, sA_, sB_, sC_, i64_w, i32_w]
  rfl
 refine pure_ (i := 11) (N := some 16) (v := ?_) (a' := ?_) (bz_ 26 2378) rfl rfl (any_of HT_.out (by kernel_rfl)) (fun _ _ _ h => h) (Or.inl ⟨by rfl, ?_⟩) ?_ ?_
 rotate_left
 ·intro w'
  go_simp
  with_reducible rfl
 rotate_left
 ·simp only [Act.put, sA_, sB_, sC_, i64_w, i32_w]
  rfl
 refine pure_ (i := 13) (N := some 18) (v := ?_) (a' := ?_) (bz_ 26 10570) rfl rfl (any_of HT_.out (by kernel_rfl)) (fun _ _ _ h => h) (Or.inl ⟨by rfl, ?_⟩) ?_ ?_
 rotate_left
 ·intro w'
  go_simp
  with_reducible rfl
 rotate_left
 ·simp only [Act.put, sA_, sB_, sC_, i64_w, i32_w]
  rfl
 refine pure_ (i := 17) (N := some 22) (v := ?_) (a' := ?_) (bz_ 26 141642) rfl rfl (any_of HT_.out (by kernel_rfl)) (fun _ _ _ h => h) (Or.inl ⟨by rfl, ?_⟩) ?_ ?_
 rotate_left
 ·intro w'
  go_simp
  with_reducible rfl
 rotate_left
 ·simp only [Act.put, sA_, sB_, sC_, i64_w, i32_w]
  rfl
 refine pure_ (i := 19) (N := some 24) (v := ?_) (a' := ?_) (bz_ 26 665930) rfl rfl (any_of HT_.out (by kernel_rfl)) (fun _ _ _ h => h) (Or.inl ⟨by rfl, ?_⟩) ?_ ?_
 rotate_left
 ·intro w'
  go_simp
  with_reducible rfl
 rotate_left
 ·simp only [Act.put, sA_, sB_, sC_, i64_w, i32_w]
  rfl
 refine pure_ (i := 21) (N := some 26) (v := ?_) (a' := ?_) (bz_ 26 2763082) rfl rfl (any_of HT_.out (by kernel_rfl)) (fun _ _ _ h => h) (Or.inl ⟨by rfl, ?_⟩) ?_ ?_
 rotate_left
 ·intro w'
  go_simp
  with_reducible rfl
 rotate_left
 ·simp only [Act.put, sA_, sB_, sC_, i64_w, i32_w]
  rfl
 refine take_ (i := 0) (N := some 5) (v := ?_) (a' := ?_) (bz_ 26 2763083) rfl rfl (Ja52_ HT_.out HW_.out (by kernel_rfl)) (fun _ _ _ h => h) (Or.inl ⟨by rfl, ?_⟩) hHeld ?_ ?_
 rotate_left
 ·rintro w' ⟨s0, s1, s2, s3, s4, s5, s6, s7, s8, s9⟩
  go_simp
  with_reducible rfl
 rotate_left
 ·simp only [Act.put, sA_, sB_, sC_, i64_w, i32_w]
  rfl
 refine take_ (i := 2) (N := some 7) (v := ?_) (a' := ?_) (bz_ 26 2763087) rfl rfl (Ja52_ HT_.out HW_.out (by kernel_rfl)) (fun _ _ _ h => h) (Or.inl ⟨by rfl, ?_⟩) hHeld ?_ ?_
 rotate_left
 ·rintro w' ⟨s0, s1, s2, s3, s4, s5, s6, s7, s8, s9⟩
  go_simp
  with_reducible rfl
 rotate_left
 ·simp only [Act.put, sA_, sB_, sC_, i64_w, i32_w]
  rfl
 refine take_ (i := 4) (N := some 9) (v := ?_) (a' := ?_) (bz_ 26 2763103) rfl rfl (Ja52_ HT_.out HW_.out (by kernel_rfl)) (fun _ _ _ h => h) (Or.inl ⟨by rfl, ?_⟩) hHeld ?_ ?_
 rotate_left
 ·rintro w' ⟨s0, s1, s2, s3, s4, s5, s6, s7, s8, s9⟩
  go_simp
  with_reducible rfl
 rotate_left
 ·simp only [Act.put, sA_, sB_, sC_, i64_w, i32_w]
  rfl
 refine take_ (i := 7) (N := some 12) (v := ?_) (a' := ?_) (bz_ 26 2763231) rfl rfl (Ja52_ HT_.out HW_.out (by kernel_rfl)) (fun _ _ _ h => h) (Or.inl ⟨by rfl, ?_⟩) hHeld ?_ ?_
 rotate_left
 ·rintro w' ⟨s0, s1, s2, s3, s4, s5, s6, s7, s8, s9⟩
  go_simp
  with_reducible rfl
 rotate_left
 ·simp only [Act.put, sA_, sB_, sC_, i64_w, i32_w]
  rfl
 refine take_ (i := 9) (N := some 14) (v := ?_) (a' := ?_) (bz_ 26 2763743) rfl rfl (Ja52_ HT_.out HW_.out (by kernel_rfl)) (fun _ _ _ h => h) (Or.inl ⟨by rfl, ?_⟩) hHeld ?_ ?_
 rotate_left
 ·rintro w' ⟨s0, s1, s2, s3, s4, s5, s6, s7, s8, s9⟩
  go_simp
  with_reducible rfl
 rotate_left
 ·simp only [Act.put, sA_, sB_, sC_, i64_w, i32_w]
  rfl
 refine take_ (i := 12) (N := some 17) (v := ?_) (a' := ?_) (bz_ 26 2767839) rfl rfl (Ja52_ HT_.out HW_.out (by kernel_rfl)) (fun _ _ _ h => h) (Or.inl ⟨by rfl, ?_⟩) hHeld ?_ ?_
 rotate_left
 ·rintro w' ⟨s0, s1, s2, s3, s4, s5, s6, s7, s8, s9⟩
  go_simp
  with_reducible rfl
 rotate_left
 ·simp only [Act.put, sA_, sB_, sC_, i64_w, i32_w]
  rfl
 refine take_ (i := 14) (N := some 19) (v := ?_) (a' := ?_) (bz_ 26 2784223) rfl rfl (Ja52_ HT_.out HW_.out (by kernel_rfl)) (fun _ _ _ h => h) (Or.inl ⟨by rfl, ?_⟩) hHeld ?_ ?_
 rotate_left
 ·rintro w' ⟨s0, s1, s2, s3, s4, s5, s6, s7, s8, s9⟩
  go_simp
  with_reducible rfl
 rotate_left
 ·simp only [Act.put, sA_, sB_, sC_, i64_w, i32_w]
  rfl
 refine take_ (i := 16) (N := some 21) (v := ?_) (a' := ?_) (bz_ 26 2849759) rfl rfl (Ja52_ HT_.out HW_.out (by kernel_rfl)) (fun _ _ _ h => h) (Or.inl ⟨by rfl, ?_⟩) hHeld ?_ ?_
 rotate_left
 ·rintro w' ⟨s0, s1, s2, s3, s4, s5, s6, s7, s8, s9⟩
  go_simp
  with_reducible rfl
 rotate_left
 ·simp only [Act.put, sA_, sB_, sC_, i64_w, i32_w]
  rfl
 refine take_ (i := 18) (N := some 23) (v := ?_) (a' := ?_) (bz_ 26 3111903) rfl rfl (Ja52_ HT_.out HW_.out (by kernel_rfl)) (fun _ _ _ h => h) (Or.inl ⟨by rfl, ?_⟩) hHeld ?_ ?_
 rotate_left
 ·rintro w' ⟨s0, s1, s2, s3, s4, s5, s6, s7, s8, s9⟩
  go_simp
  with_reducible rfl
 rotate_left
 ·simp only [Act.put, sA_, sB_, sC_, i64_w, i32_w]
  rfl
 refine take_ (i := 20) (N := some 25) (v := ?_) (a' := ?_) (bz_ 26 4160479) rfl rfl (Ja52_ HT_.out HW_.out (by kernel_rfl)) (fun _ _ _ h => h) (Or.inl ⟨by rfl, ?_⟩) hHeld ?_ ?_
 rotate_left
 ·rintro w' ⟨s0, s1, s2, s3, s4, s5, s6, s7, s8, s9⟩
  go_simp
  with_reducible rfl
 rotate_left
 ·simp only [Act.put, sA_, sB_, sC_, i64_w, i32_w]
  rfl
 refine take_ (i := 22) (N := some 27) (v := ?_) (a' := ?_) (bz_ 26 8354783) rfl rfl (Ja52_ HT_.out HW_.out (by kernel_rfl)) (fun _ _ _ h => h) (Or.inl ⟨by rfl, ?_⟩) hHeld ?_ ?_
 rotate_left
 ·rintro w' ⟨s0, s1, s2, s3, s4, s5, s6, s7, s8, s9⟩
  go_simp
  with_reducible rfl
 rotate_left
 ·simp only [Act.put, sA_, sB_, sC_, i64_w, i32_w]
  rfl
 refine one_ (i := 5) (N := some 10) (bz_ 26 8354815) rfl rfl (one_of HT_.out (by kernel_rfl)) (by decide) (fun K hK => ?_)
 refine goes_ Try.func129 (by kernel_rfl) rfl #[.agg #[.int .i64 a1_1, .int .i64 a1_2], .slice A0_0 l0_0.length c0_0] (by rfl) rfl rfl (by (try simp only [List.map_toArray, List.map_cons, List.map_nil]); first | done | rfl | (simp only [List.length_drop, List.length_take]; rfl)) ?_
 with_reducible refine (J8_.calls k a1_1 a1_2 _ _ l0_0 t104 _ ?side1 ?side2 A3.out).mono ?_
 (case side1 => repeat (first | exact (Kd.C_below HR0_0.out HB.out) | (with_reducible refine Kd.C_alloc ?_ _) | (with_reducible refine Kd.C_drewN ?_ _) | (with_reducible refine Kd.C_drew ?_)))
 (case side2 => exact HC0_0.out)
 rintro e w11 ⟨v105, rfl, ho0, hb⟩
 refine ⟨_, rfl, ?_⟩
 have n0_ := Ja38_.mk (Kd.R_lower ho0 (Ja45_ (by repeat (first | (with_reducible first | exact HB.out | apply Ja43_ | apply Ja41_ | apply Ja42_ | refine Ja46_ ?_ GE101.out | refine Ja46_ ?_ GE102.out | refine Ja46_ ?_ GE103.out) | exact HB.out))))
 have n1_ := Ja38_.mk (Ja47_ (g := gb101) (o := .cells #[.slice A0_0 l0_0.length c0_0, .slice A0_1 l0_1.length c0_1, .slice A0_2 l0_2.length c0_2] 112 (0, 0)) (by (with_reducible repeat (first | refine Ja50_ ?_ _ | refine Ja49_ ?_ | refine Ja48_ ?_ _)); exact BK101.out) hb)
 have n2_ := Ja38_.mk (Ja47_ (g := gb102) (o := .cells #[.bool a1_0, .int .i64 a1_1, .int .i64 a1_2, .int .i64 a1_3, .int .i64 a1_4, .int .i64 a1_5, .int .i64 a1_6] 78 (0, 0)) (by (with_reducible repeat (first | refine Ja50_ ?_ _ | refine Ja49_ ?_ | refine Ja48_ ?_ _)); exact BK102.out) hb)
 have n3_ := Ja38_.mk (Ja47_ (g := gb103) (o := .cells #[.bool false, .int .i64 0, .int .i64 0, .int .i64 0, .int .i64 0, .int .i64 0, .int .i64 0, .slice none 0 0, .slice none 0 0, .slice none 0 0, .int .i64 0] 184 (0, 0)) (by (with_reducible repeat (first | refine Ja50_ ?_ _ | refine Ja49_ ?_ | refine Ja48_ ?_ _)); exact BK103.out) hb)
 have n4_ := Ja38_.mk (Ja44_ (by repeat (first | (with_reducible first | exact HB.out | apply Ja43_ | apply Ja41_ | apply Ja42_ | refine Ja46_ ?_ GE101.out | refine Ja46_ ?_ GE102.out | refine Ja46_ ?_ GE103.out) | exact HB.out)) hb)
 clear BK101
 clear BK102
 clear BK103
 clear HB
 have HO106 := n0_
 have BK101 := n1_
 have BK102 := n2_
 have BK103 := n3_
 have HB := n4_
 clear n0_ n1_ n2_ n3_ n4_
 (try clear hb)
 (try clear hb2)
 (try clear hk)
 (try clear hi)
 (try clear ho0)
 refine hK.out _ _ ⟨(Ja39_ BK102.out 0).trans rfl, (Ja39_ BK102.out 1).trans rfl, (Ja39_ BK102.out 2).trans rfl, (Ja39_ BK102.out 3).trans rfl, (Ja39_ BK102.out 4).trans rfl, (Ja39_ BK102.out 5).trans rfl, (Ja39_ BK102.out 6).trans rfl, (Ja39_ BK101.out 0).trans rfl, (Ja39_ BK101.out 1).trans rfl, (Ja39_ BK101.out 2).trans rfl⟩ (fun hHeld => ?_)
 clear hK K
 refine norm_ (a' := ?_) ?_ ?_
 rotate_left
 ·show Act.put _ (some 10) _ = _
  simp only [Act.put, sA_, sB_, sC_, i64_w, i32_w]
  rfl
 refine one_ (i := 10) (N := some 15) (bz_ 26 8355839) rfl rfl (one_of HT_.out (by kernel_rfl)) (by decide) (fun K hK => ?_)
 refine goes_ Try.func129 (by kernel_rfl) rfl #[.agg #[.int .i64 a1_3, .int .i64 a1_4], .slice A0_1 l0_1.length c0_1] (by rfl) rfl rfl (by (try simp only [List.map_toArray, List.map_cons, List.map_nil]); first | done | rfl | (simp only [List.length_drop, List.length_take]; rfl)) ?_
 with_reducible refine (J8_.calls k a1_3 a1_4 _ _ l0_1 t107 _ ?side1 ?side2 A4.out).mono ?_
 (case side1 => repeat (first | exact (Kd.C_below HR0_1.out HB.out) | (with_reducible refine Kd.C_alloc ?_ _) | (with_reducible refine Kd.C_drewN ?_ _) | (with_reducible refine Kd.C_drew ?_)))
 (case side2 => exact HC0_1.out)
 rintro e w12 ⟨v108, rfl, ho0, hb⟩
 refine ⟨_, rfl, ?_⟩
 have n0_ := Ja38_.mk (Kd.R_elder' (by (with_reducible repeat (first | apply Kd.R_alloc | apply Kd.R_drewN | apply Kd.R_drew)); exact HO106.out) (Kd.R_base ho0) hb)
 have n1_ := Ja38_.mk (Kd.R_lower (Kd.R_new' ho0 (Kd.R_lt (by (with_reducible repeat (first | apply Kd.R_alloc | apply Kd.R_drewN | apply Kd.R_drew)); exact HO106.out))) (Ja45_ (by repeat (first | (with_reducible first | exact HB.out | apply Ja43_ | apply Ja41_ | apply Ja42_ | refine Ja46_ ?_ GE101.out | refine Ja46_ ?_ GE102.out | refine Ja46_ ?_ GE103.out) | exact HB.out))))
 have n2_ := Ja38_.mk (Ja47_ (g := gb101) (o := .cells #[.slice A0_0 l0_0.length c0_0, .slice A0_1 l0_1.length c0_1, .slice A0_2 l0_2.length c0_2] 112 (0, 0)) (by (with_reducible repeat (first | refine Ja50_ ?_ _ | refine Ja49_ ?_ | refine Ja48_ ?_ _)); exact BK101.out) hb)
 have n3_ := Ja38_.mk (Ja47_ (g := gb102) (o := .cells #[.bool a1_0, .int .i64 a1_1, .int .i64 a1_2, .int .i64 a1_3, .int .i64 a1_4, .int .i64 a1_5, .int .i64 a1_6] 78 (0, 0)) (by (with_reducible repeat (first | refine Ja50_ ?_ _ | refine Ja49_ ?_ | refine Ja48_ ?_ _)); exact BK102.out) hb)
 have n4_ := Ja38_.mk (Ja47_ (g := gb103) (o := .cells #[.bool false, .int .i64 0, .int .i64 0, .int .i64 0, .int .i64 0, .int .i64 0, .int .i64 0, .slice none 0 0, .slice none 0 0, .slice none 0 0, .int .i64 0] 184 (0, 0)) (by (with_reducible repeat (first | refine Ja50_ ?_ _ | refine Ja49_ ?_ | refine Ja48_ ?_ _)); exact BK103.out) hb)
 have n5_ := Ja38_.mk (Ja44_ (by repeat (first | (with_reducible first | exact HB.out | apply Ja43_ | apply Ja41_ | apply Ja42_ | refine Ja46_ ?_ GE101.out | refine Ja46_ ?_ GE102.out | refine Ja46_ ?_ GE103.out) | exact HB.out)) hb)
 clear HO106
 clear BK101
 clear BK102
 clear BK103
 clear HB
 have HO106 := n0_
 have HO109 := n1_
 have BK101 := n2_
 have BK102 := n3_
 have BK103 := n4_
 have HB := n5_
 clear n0_ n1_ n2_ n3_ n4_ n5_
 (try clear hb)
 (try clear hb2)
 (try clear hk)
 (try clear hi)
 (try clear ho0)
 refine hK.out _ _ ⟨(Ja39_ BK102.out 0).trans rfl, (Ja39_ BK102.out 1).trans rfl, (Ja39_ BK102.out 2).trans rfl, (Ja39_ BK102.out 3).trans rfl, (Ja39_ BK102.out 4).trans rfl, (Ja39_ BK102.out 5).trans rfl, (Ja39_ BK102.out 6).trans rfl, (Ja39_ BK101.out 0).trans rfl, (Ja39_ BK101.out 1).trans rfl, (Ja39_ BK101.out 2).trans rfl⟩ (fun hHeld => ?_)
 clear hK K
 refine norm_ (a' := ?_) ?_ ?_
 rotate_left
 ·show Act.put _ (some 15) _ = _
  simp only [Act.put, sA_, sB_, sC_, i64_w, i32_w]
  rfl
 refine one_ (i := 15) (N := some 20) (bz_ 26 8388607) rfl rfl (one_of HT_.out (by kernel_rfl)) (by decide) (fun K hK => ?_)
 refine goes_ Try.func129 (by kernel_rfl) rfl #[.agg #[.int .i64 a1_5, .int .i64 a1_6], .slice A0_2 l0_2.length c0_2] (by rfl) rfl rfl (by (try simp only [List.map_toArray, List.map_cons, List.map_nil]); first | done | rfl | (simp only [List.length_drop, List.length_take]; rfl)) ?_
 with_reducible refine (J8_.calls k a1_5 a1_6 _ _ l0_2 t110 _ ?side1 ?side2 A5.out).mono ?_
 (case side1 => repeat (first | exact (Kd.C_below HR0_2.out HB.out) | (with_reducible refine Kd.C_alloc ?_ _) | (with_reducible refine Kd.C_drewN ?_ _) | (with_reducible refine Kd.C_drew ?_)))
 (case side2 => exact HC0_2.out)
 rintro e w13 ⟨v111, rfl, ho0, hb⟩
 refine ⟨_, rfl, ?_⟩
 have n0_ := Ja38_.mk (Kd.R_elder' (by (with_reducible repeat (first | apply Kd.R_alloc | apply Kd.R_drewN | apply Kd.R_drew)); exact HO106.out) (Kd.R_base ho0) hb)
 have n1_ := Ja38_.mk (Kd.R_elder' (by (with_reducible repeat (first | apply Kd.R_alloc | apply Kd.R_drewN | apply Kd.R_drew)); exact HO109.out) (Kd.R_base ho0) hb)
 have n2_ := Ja38_.mk (Kd.R_lower (Kd.R_new' (Kd.R_new' ho0 (Kd.R_lt (by (with_reducible repeat (first | apply Kd.R_alloc | apply Kd.R_drewN | apply Kd.R_drew)); exact HO106.out))) (Kd.R_lt (by (with_reducible repeat (first | apply Kd.R_alloc | apply Kd.R_drewN | apply Kd.R_drew)); exact HO109.out))) (Ja45_ (by repeat (first | (with_reducible first | exact HB.out | apply Ja43_ | apply Ja41_ | apply Ja42_ | refine Ja46_ ?_ GE101.out | refine Ja46_ ?_ GE102.out | refine Ja46_ ?_ GE103.out) | exact HB.out))))
 have n3_ := Ja38_.mk (Ja47_ (g := gb101) (o := .cells #[.slice A0_0 l0_0.length c0_0, .slice A0_1 l0_1.length c0_1, .slice A0_2 l0_2.length c0_2] 112 (0, 0)) (by (with_reducible repeat (first | refine Ja50_ ?_ _ | refine Ja49_ ?_ | refine Ja48_ ?_ _)); exact BK101.out) hb)
 have n4_ := Ja38_.mk (Ja47_ (g := gb102) (o := .cells #[.bool a1_0, .int .i64 a1_1, .int .i64 a1_2, .int .i64 a1_3, .int .i64 a1_4, .int .i64 a1_5, .int .i64 a1_6] 78 (0, 0)) (by (with_reducible repeat (first | refine Ja50_ ?_ _ | refine Ja49_ ?_ | refine Ja48_ ?_ _)); exact BK102.out) hb)
 have n5_ := Ja38_.mk (Ja47_ (g := gb103) (o := .cells #[.bool false, .int .i64 0, .int .i64 0, .int .i64 0, .int .i64 0, .int .i64 0, .int .i64 0, .slice none 0 0, .slice none 0 0, .slice none 0 0, .int .i64 0] 184 (0, 0)) (by (with_reducible repeat (first | refine Ja50_ ?_ _ | refine Ja49_ ?_ | refine Ja48_ ?_ _)); exact BK103.out) hb)
 have n6_ := Ja38_.mk (Ja44_ (by repeat (first | (with_reducible first | exact HB.out | apply Ja43_ | apply Ja41_ | apply Ja42_ | refine Ja46_ ?_ GE101.out | refine Ja46_ ?_ GE102.out | refine Ja46_ ?_ GE103.out) | exact HB.out)) hb)
 clear HO106
 clear HO109
 clear BK101
 clear BK102
 clear BK103
 clear HB
 have HO106 := n0_
 have HO109 := n1_
 have HO112 := n2_
 have BK101 := n3_
 have BK102 := n4_
 have BK103 := n5_
 have HB := n6_
 clear n0_ n1_ n2_ n3_ n4_ n5_ n6_
 (try clear hb)
 (try clear hb2)
 (try clear hk)
 (try clear hi)
 (try clear ho0)
 refine hK.out _ _ ⟨(Ja39_ BK102.out 0).trans rfl, (Ja39_ BK102.out 1).trans rfl, (Ja39_ BK102.out 2).trans rfl, (Ja39_ BK102.out 3).trans rfl, (Ja39_ BK102.out 4).trans rfl, (Ja39_ BK102.out 5).trans rfl, (Ja39_ BK102.out 6).trans rfl, (Ja39_ BK101.out 0).trans rfl, (Ja39_ BK101.out 1).trans rfl, (Ja39_ BK101.out 2).trans rfl⟩ (fun hHeld => ?_)
 clear hK K
 refine norm_ (a' := ?_) ?_ ?_
 rotate_left
 ·show Act.put _ (some 20) _ = _
  simp only [Act.put, sA_, sB_, sC_, i64_w, i32_w]
  rfl
 refine one_ (i := 23) (N := some 28) (bz_ 26 16777215) rfl rfl (one_of HT_.out (by kernel_rfl)) (by decide) (fun K hK => ?_)
 refine goes_ Try.func96 (by kernel_rfl) rfl #[.agg #[.bool a1_0, .int .i64 a1_1, .int .i64 a1_2, .int .i64 a1_3, .int .i64 a1_4, .int .i64 a1_5, .int .i64 a1_6], .slice A0_0 l0_0.length c0_0, .slice A0_1 l0_1.length c0_1, .slice A0_2 l0_2.length c0_2] (by rfl) rfl rfl (by (try simp only [List.map_toArray, List.map_cons, List.map_nil]); first | done | rfl | (simp only [List.length_drop, List.length_take]; rfl)) ?_
 with_reducible refine (J7_.calls k a1_0 a1_1 a1_2 a1_3 a1_4 a1_5 a1_6 _ _ l0_0 _ _ l0_1 _ _ l0_2 t113 _ ?side1 ?side2 ?side3 ?side4 ?side5 ?side6 A6.out).mono ?_
 (case side1 => repeat (first | exact (Kd.C_below HR0_0.out HB.out) | (with_reducible refine Kd.C_alloc ?_ _) | (with_reducible refine Kd.C_drewN ?_ _) | (with_reducible refine Kd.C_drew ?_)))
 (case side2 => exact HC0_0.out)
 (case side3 => repeat (first | exact (Kd.C_below HR0_1.out HB.out) | (with_reducible refine Kd.C_alloc ?_ _) | (with_reducible refine Kd.C_drewN ?_ _) | (with_reducible refine Kd.C_drew ?_)))
 (case side4 => exact HC0_1.out)
 (case side5 => repeat (first | exact (Kd.C_below HR0_2.out HB.out) | (with_reducible refine Kd.C_alloc ?_ _) | (with_reducible refine Kd.C_drewN ?_ _) | (with_reducible refine Kd.C_drew ?_)))
 (case side6 => exact HC0_2.out)
 rintro e w14 ⟨rfl, hb⟩
 refine ⟨_, rfl, ?_⟩
 have n0_ := Ja38_.mk (Kd.R_below (by (with_reducible repeat (first | apply Kd.R_alloc | apply Kd.R_drewN | apply Kd.R_drew)); exact HO106.out) hb)
 have n1_ := Ja38_.mk (Kd.R_below (by (with_reducible repeat (first | apply Kd.R_alloc | apply Kd.R_drewN | apply Kd.R_drew)); exact HO109.out) hb)
 have n2_ := Ja38_.mk (Kd.R_below (by (with_reducible repeat (first | apply Kd.R_alloc | apply Kd.R_drewN | apply Kd.R_drew)); exact HO112.out) hb)
 have n3_ := Ja38_.mk (Ja47_ (g := gb101) (o := .cells #[.slice A0_0 l0_0.length c0_0, .slice A0_1 l0_1.length c0_1, .slice A0_2 l0_2.length c0_2] 112 (0, 0)) (by (with_reducible repeat (first | refine Ja50_ ?_ _ | refine Ja49_ ?_ | refine Ja48_ ?_ _)); exact BK101.out) hb)
 have n4_ := Ja38_.mk (Ja47_ (g := gb102) (o := .cells #[.bool a1_0, .int .i64 a1_1, .int .i64 a1_2, .int .i64 a1_3, .int .i64 a1_4, .int .i64 a1_5, .int .i64 a1_6] 78 (0, 0)) (by (with_reducible repeat (first | refine Ja50_ ?_ _ | refine Ja49_ ?_ | refine Ja48_ ?_ _)); exact BK102.out) hb)
 have n5_ := Ja38_.mk (Ja47_ (g := gb103) (o := .cells #[.bool false, .int .i64 0, .int .i64 0, .int .i64 0, .int .i64 0, .int .i64 0, .int .i64 0, .slice none 0 0, .slice none 0 0, .slice none 0 0, .int .i64 0] 184 (0, 0)) (by (with_reducible repeat (first | refine Ja50_ ?_ _ | refine Ja49_ ?_ | refine Ja48_ ?_ _)); exact BK103.out) hb)
 have n6_ := Ja38_.mk (Ja44_ (by repeat (first | (with_reducible first | exact HB.out | apply Ja43_ | apply Ja41_ | apply Ja42_ | refine Ja46_ ?_ GE101.out | refine Ja46_ ?_ GE102.out | refine Ja46_ ?_ GE103.out) | exact HB.out)) hb)
 clear HO106
 clear HO109
 clear HO112
 clear BK101
 clear BK102
 clear BK103
 clear HB
 have HO106 := n0_
 have HO109 := n1_
 have HO112 := n2_
 have BK101 := n3_
 have BK102 := n4_
 have BK103 := n5_
 have HB := n6_
 clear n0_ n1_ n2_ n3_ n4_ n5_ n6_
 (try clear hb)
 (try clear hb2)
 (try clear hk)
 (try clear hi)
 obtain ⟨Ao15, co15, eo15⟩ := Kd.R_slice HO112.out
 (first | subst eo15 | (injection eo15 with f1_ f2_ f3_; have f4_ := f1_.symm; have f5_ := f3_.symm; clear f1_ f2_ f3_; subst f4_; subst f5_))
 obtain ⟨Ao16, co16, eo16⟩ := Kd.R_slice HO109.out
 (first | subst eo16 | (injection eo16 with f1_ f2_ f3_; have f4_ := f1_.symm; have f5_ := f3_.symm; clear f1_ f2_ f3_; subst f4_; subst f5_))
 obtain ⟨Ao17, co17, eo17⟩ := Kd.R_slice HO106.out
 (first | subst eo17 | (injection eo17 with f1_ f2_ f3_; have f4_ := f1_.symm; have f5_ := f3_.symm; clear f1_ f2_ f3_; subst f4_; subst f5_))
 refine hK.out _ _ ⟨(Ja39_ BK102.out 0).trans rfl, (Ja39_ BK102.out 1).trans rfl, (Ja39_ BK102.out 2).trans rfl, (Ja39_ BK102.out 3).trans rfl, (Ja39_ BK102.out 4).trans rfl, (Ja39_ BK102.out 5).trans rfl, (Ja39_ BK102.out 6).trans rfl, (Ja39_ BK101.out 0).trans rfl, (Ja39_ BK101.out 1).trans rfl, (Ja39_ BK101.out 2).trans rfl⟩ (fun hHeld => ?_)
 clear hK K
 refine norm_ (a' := ?_) ?_ ?_
 rotate_left
 ·show Act.put _ (some 28) _ = _
  simp only [Act.put, sA_, sB_, sC_, i64_w, i32_w]
  rfl
 refine pure_ (i := 24) (N := some 29) (v := ?_) (a' := ?_) (bz_ 26 33554431) rfl rfl (any_of HT_.out (by kernel_rfl)) (fun _ _ _ h => h) (Or.inl ⟨by rfl, ?_⟩) ?_ ?_
 rotate_left
 ·intro w'
  go_simp
  with_reducible rfl
 rotate_left
 ·simp only [Act.put, sA_, sB_, sC_, i64_w, i32_w]
  rfl
 refine one_ (i := 25) (N := none) (bz_ 26 67108863) rfl rfl (one_of HT_.out (by kernel_rfl)) (by decide) (fun K hK => ?_)
 have hs18 : w14.cell? ⟨gb103, 0, none⟩ = some (.bool false) := (Ja39_ BK103.out 0).trans rfl
 have hfs18 := Ja40_ BK103.out 0
 have hns18_0 := NB101_103.out
 have hns18_1 := NB102_103.out
 have hms18_0 := NB103_101.out
 have hms18_1 := NB103_102.out
 have hs19 : w14.cell? ⟨gb103, 1, none⟩ = some (.int .i64 0) := (Ja39_ BK103.out 1).trans rfl
 have hfs19 := Ja40_ BK103.out 1
 have hns19_0 := NB101_103.out
 have hns19_1 := NB102_103.out
 have hms19_0 := NB103_101.out
 have hms19_1 := NB103_102.out
 have hs20 : w14.cell? ⟨gb103, 2, none⟩ = some (.int .i64 0) := (Ja39_ BK103.out 2).trans rfl
 have hfs20 := Ja40_ BK103.out 2
 have hns20_0 := NB101_103.out
 have hns20_1 := NB102_103.out
 have hms20_0 := NB103_101.out
 have hms20_1 := NB103_102.out
 have hs21 : w14.cell? ⟨gb103, 3, none⟩ = some (.int .i64 0) := (Ja39_ BK103.out 3).trans rfl
 have hfs21 := Ja40_ BK103.out 3
 have hns21_0 := NB101_103.out
 have hns21_1 := NB102_103.out
 have hms21_0 := NB103_101.out
 have hms21_1 := NB103_102.out
 have hs22 : w14.cell? ⟨gb103, 4, none⟩ = some (.int .i64 0) := (Ja39_ BK103.out 4).trans rfl
 have hfs22 := Ja40_ BK103.out 4
 have hns22_0 := NB101_103.out
 have hns22_1 := NB102_103.out
 have hms22_0 := NB103_101.out
 have hms22_1 := NB103_102.out
 have hs23 : w14.cell? ⟨gb103, 5, none⟩ = some (.int .i64 0) := (Ja39_ BK103.out 5).trans rfl
 have hfs23 := Ja40_ BK103.out 5
 have hns23_0 := NB101_103.out
 have hns23_1 := NB102_103.out
 have hms23_0 := NB103_101.out
 have hms23_1 := NB103_102.out
 have hs24 : w14.cell? ⟨gb103, 6, none⟩ = some (.int .i64 0) := (Ja39_ BK103.out 6).trans rfl
 have hfs24 := Ja40_ BK103.out 6
 have hns24_0 := NB101_103.out
 have hns24_1 := NB102_103.out
 have hms24_0 := NB103_101.out
 have hms24_1 := NB103_102.out
 have hs25 : w14.cell? ⟨gb103, 7, none⟩ = some (.slice none 0 0) := (Ja39_ BK103.out 7).trans rfl
 have hfs25 := Ja40_ BK103.out 7
 have hns25_0 := NB101_103.out
 have hns25_1 := NB102_103.out
 have hms25_0 := NB103_101.out
 have hms25_1 := NB103_102.out
 have hs26 : w14.cell? ⟨gb103, 8, none⟩ = some (.slice none 0 0) := (Ja39_ BK103.out 8).trans rfl
 have hfs26 := Ja40_ BK103.out 8
 have hns26_0 := NB101_103.out
 have hns26_1 := NB102_103.out
 have hms26_0 := NB103_101.out
 have hms26_1 := NB103_102.out
 have hs27 : w14.cell? ⟨gb103, 9, none⟩ = some (.slice none 0 0) := (Ja39_ BK103.out 9).trans rfl
 have hfs27 := Ja40_ BK103.out 9
 have hns27_0 := NB101_103.out
 have hns27_1 := NB102_103.out
 have hms27_0 := NB103_101.out
 have hms27_1 := NB103_102.out
 have hs28 : w14.cell? ⟨gb103, 10, none⟩ = some (.int .i64 0) := (Ja39_ BK103.out 10).trans rfl
 have hfs28 := Ja40_ BK103.out 10
 have hns28_0 := NB101_103.out
 have hns28_1 := NB102_103.out
 have hms28_0 := NB103_101.out
 have hms28_1 := NB103_102.out
 refine skip_ (w1 := ?_) (by rfl) rfl ?_ ?_
 rotate_left
 ·go_simp
  rfl
 refine hK.out _ _ ⟨((Ja53_ (p := ⟨gb103, _, none⟩) NB102_103.out _).trans (((Ja53_ (p := ⟨gb103, _, none⟩) NB102_103.out _).trans (((Ja53_ (p := ⟨gb103, _, none⟩) NB102_103.out _).trans (((Ja53_ (p := ⟨gb103, _, none⟩) NB102_103.out _).trans (((Ja53_ (p := ⟨gb103, _, none⟩) NB102_103.out _).trans (((Ja53_ (p := ⟨gb103, _, none⟩) NB102_103.out _).trans (((Ja53_ (p := ⟨gb103, _, none⟩) NB102_103.out _).trans (((Ja53_ (p := ⟨gb103, _, none⟩) NB102_103.out _).trans (((Ja53_ (p := ⟨gb103, _, none⟩) NB102_103.out _).trans (((Ja53_ (p := ⟨gb103, _, none⟩) NB102_103.out _).trans (((Ja53_ (p := ⟨gb103, _, none⟩) NB102_103.out _).trans (hHeld.1)))))))))))))))))))))), ((Ja53_ (p := ⟨gb103, _, none⟩) NB102_103.out _).trans (((Ja53_ (p := ⟨gb103, _, none⟩) NB102_103.out _).trans (((Ja53_ (p := ⟨gb103, _, none⟩) NB102_103.out _).trans (((Ja53_ (p := ⟨gb103, _, none⟩) NB102_103.out _).trans (((Ja53_ (p := ⟨gb103, _, none⟩) NB102_103.out _).trans (((Ja53_ (p := ⟨gb103, _, none⟩) NB102_103.out _).trans (((Ja53_ (p := ⟨gb103, _, none⟩) NB102_103.out _).trans (((Ja53_ (p := ⟨gb103, _, none⟩) NB102_103.out _).trans (((Ja53_ (p := ⟨gb103, _, none⟩) NB102_103.out _).trans (((Ja53_ (p := ⟨gb103, _, none⟩) NB102_103.out _).trans (((Ja53_ (p := ⟨gb103, _, none⟩) NB102_103.out _).trans (hHeld.2.1)))))))))))))))))))))), ((Ja53_ (p := ⟨gb103, _, none⟩) NB102_103.out _).trans (((Ja53_ (p := ⟨gb103, _, none⟩) NB102_103.out _).trans (((Ja53_ (p := ⟨gb103, _, none⟩) NB102_103.out _).trans (((Ja53_ (p := ⟨gb103, _, none⟩) NB102_103.out _).trans (((Ja53_ (p := ⟨gb103, _, none⟩) NB102_103.out _).trans (((Ja53_ (p := ⟨gb103, _, none⟩) NB102_103.out _).trans (((Ja53_ (p := ⟨gb103, _, none⟩) NB102_103.out _).trans (((Ja53_ (p := ⟨gb103, _, none⟩) NB102_103.out _).trans (((Ja53_ (p := ⟨gb103, _, none⟩) NB102_103.out _).trans (((Ja53_ (p := ⟨gb103, _, none⟩) NB102_103.out _).trans (((Ja53_ (p := ⟨gb103, _, none⟩) NB102_103.out _).trans (hHeld.2.2.1)))))))))))))))))))))), ((Ja53_ (p := ⟨gb103, _, none⟩) NB102_103.out _).trans (((Ja53_ (p := ⟨gb103, _, none⟩) NB102_103.out _).trans (((Ja53_ (p := ⟨gb103, _, none⟩) NB102_103.out _).trans (((Ja53_ (p := ⟨gb103, _, none⟩) NB102_103.out _).trans (((Ja53_ (p := ⟨gb103, _, none⟩) NB102_103.out _).trans (((Ja53_ (p := ⟨gb103, _, none⟩) NB102_103.out _).trans (((Ja53_ (p := ⟨gb103, _, none⟩) NB102_103.out _).trans (((Ja53_ (p := ⟨gb103, _, none⟩) NB102_103.out _).trans (((Ja53_ (p := ⟨gb103, _, none⟩) NB102_103.out _).trans (((Ja53_ (p := ⟨gb103, _, none⟩) NB102_103.out _).trans (((Ja53_ (p := ⟨gb103, _, none⟩) NB102_103.out _).trans (hHeld.2.2.2.1)))))))))))))))))))))), ((Ja53_ (p := ⟨gb103, _, none⟩) NB102_103.out _).trans (((Ja53_ (p := ⟨gb103, _, none⟩) NB102_103.out _).trans (((Ja53_ (p := ⟨gb103, _, none⟩) NB102_103.out _).trans (((Ja53_ (p := ⟨gb103, _, none⟩) NB102_103.out _).trans (((Ja53_ (p := ⟨gb103, _, none⟩) NB102_103.out _).trans (((Ja53_ (p := ⟨gb103, _, none⟩) NB102_103.out _).trans (((Ja53_ (p := ⟨gb103, _, none⟩) NB102_103.out _).trans (((Ja53_ (p := ⟨gb103, _, none⟩) NB102_103.out _).trans (((Ja53_ (p := ⟨gb103, _, none⟩) NB102_103.out _).trans (((Ja53_ (p := ⟨gb103, _, none⟩) NB102_103.out _).trans (((Ja53_ (p := ⟨gb103, _, none⟩) NB102_103.out _).trans (hHeld.2.2.2.2.1)))))))))))))))))))))), ((Ja53_ (p := ⟨gb103, _, none⟩) NB102_103.out _).trans (((Ja53_ (p := ⟨gb103, _, none⟩) NB102_103.out _).trans (((Ja53_ (p := ⟨gb103, _, none⟩) NB102_103.out _).trans (((Ja53_ (p := ⟨gb103, _, none⟩) NB102_103.out _).trans (((Ja53_ (p := ⟨gb103, _, none⟩) NB102_103.out _).trans (((Ja53_ (p := ⟨gb103, _, none⟩) NB102_103.out _).trans (((Ja53_ (p := ⟨gb103, _, none⟩) NB102_103.out _).trans (((Ja53_ (p := ⟨gb103, _, none⟩) NB102_103.out _).trans (((Ja53_ (p := ⟨gb103, _, none⟩) NB102_103.out _).trans (((Ja53_ (p := ⟨gb103, _, none⟩) NB102_103.out _).trans (((Ja53_ (p := ⟨gb103, _, none⟩) NB102_103.out _).trans (hHeld.2.2.2.2.2.1)))))))))))))))))))))), ((Ja53_ (p := ⟨gb103, _, none⟩) NB102_103.out _).trans (((Ja53_ (p := ⟨gb103, _, none⟩) NB102_103.out _).trans (((Ja53_ (p := ⟨gb103, _, none⟩) NB102_103.out _).trans (((Ja53_ (p := ⟨gb103, _, none⟩) NB102_103.out _).trans (((Ja53_ (p := ⟨gb103, _, none⟩) NB102_103.out _).trans (((Ja53_ (p := ⟨gb103, _, none⟩) NB102_103.out _).trans (((Ja53_ (p := ⟨gb103, _, none⟩) NB102_103.out _).trans (((Ja53_ (p := ⟨gb103, _, none⟩) NB102_103.out _).trans (((Ja53_ (p := ⟨gb103, _, none⟩) NB102_103.out _).trans (((Ja53_ (p := ⟨gb103, _, none⟩) NB102_103.out _).trans (((Ja53_ (p := ⟨gb103, _, none⟩) NB102_103.out _).trans (hHeld.2.2.2.2.2.2.1)))))))))))))))))))))), ((Ja53_ (p := ⟨gb103, _, none⟩) NB101_103.out _).trans (((Ja53_ (p := ⟨gb103, _, none⟩) NB101_103.out _).trans (((Ja53_ (p := ⟨gb103, _, none⟩) NB101_103.out _).trans (((Ja53_ (p := ⟨gb103, _, none⟩) NB101_103.out _).trans (((Ja53_ (p := ⟨gb103, _, none⟩) NB101_103.out _).trans (((Ja53_ (p := ⟨gb103, _, none⟩) NB101_103.out _).trans (((Ja53_ (p := ⟨gb103, _, none⟩) NB101_103.out _).trans (((Ja53_ (p := ⟨gb103, _, none⟩) NB101_103.out _).trans (((Ja53_ (p := ⟨gb103, _, none⟩) NB101_103.out _).trans (((Ja53_ (p := ⟨gb103, _, none⟩) NB101_103.out _).trans (((Ja53_ (p := ⟨gb103, _, none⟩) NB101_103.out _).trans (hHeld.2.2.2.2.2.2.2.1)))))))))))))))))))))), ((Ja53_ (p := ⟨gb103, _, none⟩) NB101_103.out _).trans (((Ja53_ (p := ⟨gb103, _, none⟩) NB101_103.out _).trans (((Ja53_ (p := ⟨gb103, _, none⟩) NB101_103.out _).trans (((Ja53_ (p := ⟨gb103, _, none⟩) NB101_103.out _).trans (((Ja53_ (p := ⟨gb103, _, none⟩) NB101_103.out _).trans (((Ja53_ (p := ⟨gb103, _, none⟩) NB101_103.out _).trans (((Ja53_ (p := ⟨gb103, _, none⟩) NB101_103.out _).trans (((Ja53_ (p := ⟨gb103, _, none⟩) NB101_103.out _).trans (((Ja53_ (p := ⟨gb103, _, none⟩) NB101_103.out _).trans (((Ja53_ (p := ⟨gb103, _, none⟩) NB101_103.out _).trans (((Ja53_ (p := ⟨gb103, _, none⟩) NB101_103.out _).trans (hHeld.2.2.2.2.2.2.2.2.1)))))))))))))))))))))), ((Ja53_ (p := ⟨gb103, _, none⟩) NB101_103.out _).trans (((Ja53_ (p := ⟨gb103, _, none⟩) NB101_103.out _).trans (((Ja53_ (p := ⟨gb103, _, none⟩) NB101_103.out _).trans (((Ja53_ (p := ⟨gb103, _, none⟩) NB101_103.out _).trans (((Ja53_ (p := ⟨gb103, _, none⟩) NB101_103.out _).trans (((Ja53_ (p := ⟨gb103, _, none⟩) NB101_103.out _).trans (((Ja53_ (p := ⟨gb103, _, none⟩) NB101_103.out _).trans (((Ja53_ (p := ⟨gb103, _, none⟩) NB101_103.out _).trans (((Ja53_ (p := ⟨gb103, _, none⟩) NB101_103.out _).trans (((Ja53_ (p := ⟨gb103, _, none⟩) NB101_103.out _).trans (((Ja53_ (p := ⟨gb103, _, none⟩) NB101_103.out _).trans (hHeld.2.2.2.2.2.2.2.2.2))))))))))))))))))))))⟩ (fun hHeld => ?_)
 clear hK K
 refine done_ (done_of HT_.out (by kernel_rfl)) ?_
 try go_wp2
 refine bodyPost_ret (results_cell_row rfl _ _ gb103 184 #[.bool a1_0, .int .i64 a1_1, .int .i64 a1_2, .int .i64 a1_3, .int .i64 a1_4, .int .i64 a1_5, .int .i64 a1_6, .slice Ao17 t104.length co17, .slice Ao16 t107.length co16, .slice Ao15 t110.length co15, .int .i64 t113] (0, 0) _ rfl (by (with_reducible repeat (first | refine Ja50_ ?_ _ | refine Ja49_ ?_ | refine Ja48_ ?_ _)); refine blk_put (cs := #[.bool a1_0, .int .i64 a1_1, .int .i64 a1_2, .int .i64 a1_3, .int .i64 a1_4, .int .i64 a1_5, .int .i64 a1_6, .slice Ao17 t104.length co17, .slice Ao16 t107.length co16, .slice Ao15 t110.length co15, .int .i64 0]) ?_ 10 _ rfl; (with_reducible repeat (first | refine Ja50_ ?_ _ | refine Ja49_ ?_ | refine Ja48_ ?_ _)); refine blk_put (cs := #[.bool a1_0, .int .i64 a1_1, .int .i64 a1_2, .int .i64 a1_3, .int .i64 a1_4, .int .i64 a1_5, .int .i64 a1_6, .slice Ao17 t104.length co17, .slice Ao16 t107.length co16, .slice none 0 0, .int .i64 0]) ?_ 9 _ rfl; (with_reducible repeat (first | refine Ja50_ ?_ _ | refine Ja49_ ?_ | refine Ja48_ ?_ _)); refine blk_put (cs := #[.bool a1_0, .int .i64 a1_1, .int .i64 a1_2, .int .i64 a1_3, .int .i64 a1_4, .int .i64 a1_5, .int .i64 a1_6, .slice Ao17 t104.length co17, .slice none 0 0, .slice none 0 0, .int .i64 0]) ?_ 8 _ rfl; (with_reducible repeat (first | refine Ja50_ ?_ _ | refine Ja49_ ?_ | refine Ja48_ ?_ _)); refine blk_put (cs := #[.bool a1_0, .int .i64 a1_1, .int .i64 a1_2, .int .i64 a1_3, .int .i64 a1_4, .int .i64 a1_5, .int .i64 a1_6, .slice none 0 0, .slice none 0 0, .slice none 0 0, .int .i64 0]) ?_ 7 _ rfl; (with_reducible repeat (first | refine Ja50_ ?_ _ | refine Ja49_ ?_ | refine Ja48_ ?_ _)); refine blk_put (cs := #[.bool a1_0, .int .i64 a1_1, .int .i64 a1_2, .int .i64 a1_3, .int .i64 a1_4, .int .i64 a1_5, .int .i64 0, .slice none 0 0, .slice none 0 0, .slice none 0 0, .int .i64 0]) ?_ 6 _ rfl; (with_reducible repeat (first | refine Ja50_ ?_ _ | refine Ja49_ ?_ | refine Ja48_ ?_ _)); refine blk_put (cs := #[.bool a1_0, .int .i64 a1_1, .int .i64 a1_2, .int .i64 a1_3, .int .i64 a1_4, .int .i64 0, .int .i64 0, .slice none 0 0, .slice none 0 0, .slice none 0 0, .int .i64 0]) ?_ 5 _ rfl; (with_reducible repeat (first | refine Ja50_ ?_ _ | refine Ja49_ ?_ | refine Ja48_ ?_ _)); refine blk_put (cs := #[.bool a1_0, .int .i64 a1_1, .int .i64 a1_2, .int .i64 a1_3, .int .i64 0, .int .i64 0, .int .i64 0, .slice none 0 0, .slice none 0 0, .slice none 0 0, .int .i64 0]) ?_ 4 _ rfl; (with_reducible repeat (first | refine Ja50_ ?_ _ | refine Ja49_ ?_ | refine Ja48_ ?_ _)); refine blk_put (cs := #[.bool a1_0, .int .i64 a1_1, .int .i64 a1_2, .int .i64 0, .int .i64 0, .int .i64 0, .int .i64 0, .slice none 0 0, .slice none 0 0, .slice none 0 0, .int .i64 0]) ?_ 3 _ rfl; (with_reducible repeat (first | refine Ja50_ ?_ _ | refine Ja49_ ?_ | refine Ja48_ ?_ _)); refine blk_put (cs := #[.bool a1_0, .int .i64 a1_1, .int .i64 0, .int .i64 0, .int .i64 0, .int .i64 0, .int .i64 0, .slice none 0 0, .slice none 0 0, .slice none 0 0, .int .i64 0]) ?_ 2 _ rfl; (with_reducible repeat (first | refine Ja50_ ?_ _ | refine Ja49_ ?_ | refine Ja48_ ?_ _)); refine blk_put (cs := #[.bool a1_0, .int .i64 0, .int .i64 0, .int .i64 0, .int .i64 0, .int .i64 0, .int .i64 0, .slice none 0 0, .slice none 0 0, .slice none 0 0, .int .i64 0]) ?_ 1 _ rfl; (with_reducible repeat (first | refine Ja50_ ?_ _ | refine Ja49_ ?_ | refine Ja48_ ?_ _)); refine blk_put (cs := #[.bool false, .int .i64 0, .int .i64 0, .int .i64 0, .int .i64 0, .int .i64 0, .int .i64 0, .slice none 0 0, .slice none 0 0, .slice none 0 0, .int .i64 0]) ?_ 0 _ rfl; (with_reducible repeat (first | refine Ja50_ ?_ _ | refine Ja49_ ?_ | refine Ja48_ ?_ _)); exact BK103.out) Try.underlying184 rfl (by kernel_rfl)) rfl ?_
 exact ⟨_, _, _, by first | rfl | (simp [errW_none, errW_some] <;> rfl) | (simp [*, errW_none, errW_some] <;> rfl), by (with_reducible repeat (first | apply Kd.R_alloc | apply Kd.R_drewN | apply Kd.R_drew)); exact Kd.R_mono (Kd.R_far (p := ⟨gb103, 10, none⟩) (Kd.R_far (p := ⟨gb103, 9, none⟩) (Kd.R_far (p := ⟨gb103, 8, none⟩) (Kd.R_far (p := ⟨gb103, 7, none⟩) (Kd.R_far (p := ⟨gb103, 6, none⟩) (Kd.R_far (p := ⟨gb103, 5, none⟩) (Kd.R_far (p := ⟨gb103, 4, none⟩) (Kd.R_far (p := ⟨gb103, 3, none⟩) (Kd.R_far (p := ⟨gb103, 2, none⟩) (Kd.R_far (p := ⟨gb103, 1, none⟩) (Kd.R_far (p := ⟨gb103, 0, none⟩) (Kd.R_types HO106.out BK103.out (by decide)) (fun _ hk => hk.2) (.bool a1_0)) (fun _ hk => hk.2) (.int .i64 a1_1)) (fun _ hk => hk.2) (.int .i64 a1_2)) (fun _ hk => hk.2) (.int .i64 a1_3)) (fun _ hk => hk.2) (.int .i64 a1_4)) (fun _ hk => hk.2) (.int .i64 a1_5)) (fun _ hk => hk.2) (.int .i64 a1_6)) (fun _ hk => hk.2) (.slice Ao17 t104.length co17)) (fun _ hk => hk.2) (.slice Ao16 t107.length co16)) (fun _ hk => hk.2) (.slice Ao15 t110.length co15)) (fun _ hk => hk.2) (.int .i64 t113)) (fun _ hk => ⟨hk.1.1.2, hk.1.2⟩), by (with_reducible repeat (first | apply Kd.R_alloc | apply Kd.R_drewN | apply Kd.R_drew)); exact Kd.R_mono (Kd.R_far (p := ⟨gb103, 10, none⟩) (Kd.R_far (p := ⟨gb103, 9, none⟩) (Kd.R_far (p := ⟨gb103, 8, none⟩) (Kd.R_far (p := ⟨gb103, 7, none⟩) (Kd.R_far (p := ⟨gb103, 6, none⟩) (Kd.R_far (p := ⟨gb103, 5, none⟩) (Kd.R_far (p := ⟨gb103, 4, none⟩) (Kd.R_far (p := ⟨gb103, 3, none⟩) (Kd.R_far (p := ⟨gb103, 2, none⟩) (Kd.R_far (p := ⟨gb103, 1, none⟩) (Kd.R_far (p := ⟨gb103, 0, none⟩) (Kd.R_types HO109.out BK103.out (by decide)) (fun _ hk => hk.2) (.bool a1_0)) (fun _ hk => hk.2) (.int .i64 a1_1)) (fun _ hk => hk.2) (.int .i64 a1_2)) (fun _ hk => hk.2) (.int .i64 a1_3)) (fun _ hk => hk.2) (.int .i64 a1_4)) (fun _ hk => hk.2) (.int .i64 a1_5)) (fun _ hk => hk.2) (.int .i64 a1_6)) (fun _ hk => hk.2) (.slice Ao17 t104.length co17)) (fun _ hk => hk.2) (.slice Ao16 t107.length co16)) (fun _ hk => hk.2) (.slice Ao15 t110.length co15)) (fun _ hk => hk.2) (.int .i64 t113)) (fun _ hk => ⟨hk.1.1.2, hk.1.2⟩), by (with_reducible repeat (first | apply Kd.R_alloc | apply Kd.R_drewN | apply Kd.R_drew)); exact Kd.R_mono (Kd.R_far (p := ⟨gb103, 10, none⟩) (Kd.R_far (p := ⟨gb103, 9, none⟩) (Kd.R_far (p := ⟨gb103, 8, none⟩) (Kd.R_far (p := ⟨gb103, 7, none⟩) (Kd.R_far (p := ⟨gb103, 6, none⟩) (Kd.R_far (p := ⟨gb103, 5, none⟩) (Kd.R_far (p := ⟨gb103, 4, none⟩) (Kd.R_far (p := ⟨gb103, 3, none⟩) (Kd.R_far (p := ⟨gb103, 2, none⟩) (Kd.R_far (p := ⟨gb103, 1, none⟩) (Kd.R_far (p := ⟨gb103, 0, none⟩) (Kd.R_types HO112.out BK103.out (by decide)) (fun _ hk => hk.2) (.bool a1_0)) (fun _ hk => hk.2) (.int .i64 a1_1)) (fun _ hk => hk.2) (.int .i64 a1_2)) (fun _ hk => hk.2) (.int .i64 a1_3)) (fun _ hk => hk.2) (.int .i64 a1_4)) (fun _ hk => hk.2) (.int .i64 a1_5)) (fun _ hk => hk.2) (.int .i64 a1_6)) (fun _ hk => hk.2) (.slice Ao17 t104.length co17)) (fun _ hk => hk.2) (.slice Ao16 t107.length co16)) (fun _ hk => hk.2) (.slice Ao15 t110.length co15)) (fun _ hk => hk.2) (.int .i64 t113)) (fun _ hk => ⟨hk.1.1.2, hk.1.2⟩), by repeat (first | (with_reducible first | exact HB.out | apply Ja43_ | apply Ja41_ | apply Ja42_ | refine Ja46_ ?_ GE101.out | refine Ja46_ ?_ GE102.out | refine Ja46_ ?_ GE103.out) | exact HB.out)⟩
end Go.Proofs.Ytadafplbgophfaa.PA
end
