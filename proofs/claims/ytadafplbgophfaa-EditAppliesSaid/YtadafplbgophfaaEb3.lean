/- Part 3 of what the row of the law EditApplies rests on: walks of functions, and plain lemmas. -/
import Derived.Test.YtadafplbgophfaaEb1
import Derived.Test.YtadafplbgophfaaEb2
section
-- Written by a program of this seat out of the translation. Not trusted: Lean checks it.
namespace Go.Proofs.Ytadafplbgophfaa.PA
open Go.RowKit Go.Proofs.YtadafplbgophfaaW.PrintWords Go.Proofs.YtadafplbgophfaaW.PrintLast Go.Proofs.YtadafplbgophfaaW.PrintMore
attribute [local go_sem] max2_int min2_int max_two min_two max_three min_three max_four min_four   -- for this text's walks alone
set_option linter.unusedVariables false
set_option linter.unusedSimpArgs false

/-! ### tripartitelaw04_From: function 38 -/
def tripartitelaw04_From.l0 : Nat → List (S143) → List (S144) → Int → Option ((List (S144)))
  | 0, _, _, _ => none
  | k + 1, x0, x3, x4 => if x4 < (x0.length : Int) then (if 0 ≤ x4 then ((some (([] : List ByteArray) : List ByteArray)).bind fun y102 => (if y102.length + ((rd_T143 x0 x4).f1).length < 8796093022208 then (if x3.length < 4398046511104 then (tripartitelaw04_From.l0 k x0 (x3 ++ [(⟨(rd_T143 x0 x4).f0, (y102 ++ ((rd_T143 x0 x4).f1))⟩ : S144)]) (wrap64 (x4 + 1))) else (none)) else (none))) else (none)) else (some x3)
def tripartitelaw04_From.f (k : Nat) (l0 : List (S143)) : Option ((List (S144))) := tripartitelaw04_From.l0 k l0 ([] : List (S144)) 0
theorem tripartitelaw04_From.mono_l : ∀ k, (∀ y0 y1 y2, LeO (tripartitelaw04_From.l0 k y0 y1 y2) (tripartitelaw04_From.l0 (k + 1) y0 y1 y2))
  | 0 => fun _ _ _ r h => by simp [tripartitelaw04_From.l0] at h
  | k + 1 => by
    have ih0 := tripartitelaw04_From.mono_l k
    · intro y0 y1 y2
      unfold tripartitelaw04_From.l0
      repeat' first
      | (with_reducible exact ih0 _ _ _)
      | (with_reducible exact LeO.refl _)
      | (with_reducible exact LeO.none _)
      | (with_reducible refine LeO.ite ?_ ?_)
      | (with_reducible refine LeO.bind ?_ (fun _ => ?_))
      | exact ih0 _ _ _
      | exact LeO.none _
      | refine LeO.ite ?_ ?_
      | refine LeO.bind ?_ (fun _ => ?_)
theorem tripartitelaw04_From.mono : ∀ a0 k, LeO (tripartitelaw04_From.f k a0) (tripartitelaw04_From.f (k + 1) a0) := by
  intro a0 k
  have ih0 := tripartitelaw04_From.mono_l k
  unfold tripartitelaw04_From.f
  repeat' first
      | (with_reducible exact ih0 _ _ _)
      | (with_reducible exact LeO.refl _)
      | (with_reducible exact LeO.none _)
      | (with_reducible refine LeO.ite ?_ ?_)
      | (with_reducible refine LeO.bind ?_ (fun _ => ?_))
      | exact ih0 _ _ _
      | exact LeO.none _
      | refine LeO.ite ?_ ?_
      | refine LeO.bind ?_ (fun _ => ?_)
def tripartitelaw04_From.T5 : Bool × List (List Nat × List Nat) := (true, [([], []), ([], []), ([], []), ([1, 2], [1, 2]), ([3], [3]), ([4], [4]), ([], []), ([], []), ([], []), ([7, 8], [7, 8]), ([9], [9]), ([10], [10]), ([6, 11], [6, 11]), ([5, 12], [5, 12]), ([13], [13]), ([0, 14, 12], [0, 14]), ([15, 15, 0, 1, 2, 3, 4, 5, 6, 7, 8, 9, 10, 11, 12, 13, 14, 15], [0, 15])])
def tripartitelaw04_From.B5 : List Nat := [0, 0, 0, 6, 14, 30, 0, 0, 0, 384, 896, 1920, 4032, 8190, 16382, 32767, 65535]
theorem tripartitelaw04_From.tab5 : rtab .any (opsOf Try.f38 5) = tripartitelaw04_From.T5 := by kernel_rfl
theorem tripartitelaw04_From.bits5 : waitsOk tripartitelaw04_From.T5.2 tripartitelaw04_From.B5 = true := by kernel_rfl
set_option maxHeartbeats 8000000 in
set_option maxRecDepth 100000 in
theorem tripartitelaw04_From.calls (k : Nat) (A0 : Option Addr) (c0 : Nat) (l0 : List (S143)) (r : List (S144)) (w : World) (hr0 : Kd.C k143 w A0 l0.length l0) (hc0 : l0.length ≤ c0) (h : tripartitelaw04_From.f k l0 = some r) :
    Calls Try.prog 38 #[.slice A0 l0.length c0] w fun e w' => ∃ v0_ : Value, e = .returned (v0_) ∧ Kd.S k144 144 w' w.heap.size (fun _ => True) v0_ r ∧ Below w.heap.size w w' := by
  have hu144 := Try.underlying144
  have HR0 := Aside0.mk hr0
  have HC0 := Aside0.mk hc0
  clear hr0 hc0
  have HB := Aside0.mk (Below.refl w.heap.size w)
  have H : (tripartitelaw04_From.l0 k l0 ([] : List (S144)) 0) = some r := h
  clear h
  have H' := Aside0.mk H
  clear H
  go_enter Try.func38, Try.ntmps38
  go_wp2
  go_loopg [3, 4] k (fun kq v3 v4 w' => ∃ (x3_1 : List (S144)) (x4_1 : Int), v4 = .int .i64 x4_1 ∧ Aside0 (tripartitelaw04_From.l0 kq l0 x3_1 x4_1 = some r) ∧ Aside0 (kq ≤ k) ∧ Aside0 (Kd.S k144 144 w' w.heap.size (fun _ => True) v3 x3_1) ∧ Aside0 (Below w.heap.size w w'))
  case atStart => exact ⟨(([] : List (S144))), (0), (by first | rfl | (simp; done) | (simp [*]; done)), H', ⟨Nat.le_refl _⟩, ⟨by first | exact Kd.S_nil _ _ _ _ _ | exact Kd.N_nil _ _ _ _ _ | exact Kd.V_nil _ _ _ _ _ | exact Kd.Q_nil _ _ _ _ _ | exact Kd.R_nil _ _ _ _ _⟩, ⟨by repeat (first | (with_reducible first | exact HB.out | apply below_alloc | apply pw_below_drewN | apply below_drew1) | exact HB.out)⟩⟩
  case round =>
    clear H'
    obtain ⟨x3_1, x4_1, rfl, HA, HK1, HO_3, HB⟩ := hrel
    cases gk with
    | zero => exact absurd HA.out (by simp [tripartitelaw04_From.l0])
    | succ k1 =>
      have H := HA.out
      clear HA
      simp only [tripartitelaw04_From.l0] at H
      by_cases c2 : x4_1 < (l0.length : Int)
      · rw [if_pos c2] at H
        have c2b0 : decide (x4_1 < (l0.length : Int)) = true := decide_eq_true c2
        clear c2
        by_cases c3 : 0 ≤ x4_1
        · rw [if_pos c3] at H
          have c3b0 : decide (0 ≤ x4_1) = true := decide_eq_true c3
          clear c3
          obtain ⟨y102, hy102⟩ : ∃ y_ : List ByteArray, y_ = (([] : List ByteArray)) := ⟨_, rfl⟩
          replace H : (if y102.length + ((rd_T143 l0 x4_1).f1).length < 8796093022208 then (if x3_1.length < 4398046511104 then (tripartitelaw04_From.l0 k1 l0 (x3_1 ++ [(⟨(rd_T143 l0 x4_1).f0, (y102 ++ ((rd_T143 l0 x4_1).f1))⟩ : S144)]) (wrap64 (x4_1 + 1))) else (none)) else (none)) = some r := by first | (rw [hy102]; with_reducible exact H) | (have H2_ := (Option.bind_some _ _).symm.trans H; rw [hy102]; with_reducible exact H2_) | (have H2_ := (Option.bind_some _ _).symm.trans H; with_reducible exact H2_) | with_reducible exact H | (rw [hy102]; exact H) | exact H
          have Ny102 := Aside0.mk hy102
          clear hy102
          by_cases c4 : y102.length + ((rd_T143 l0 x4_1).f1).length < 8796093022208
          · rw [if_pos c4] at H
            have LMc4 := Aside0.mk c4
            clear c4
            obtain ⟨y106, hy106⟩ : ∃ y_ : List ByteArray, y_ = (y102 ++ ((rd_T143 l0 x4_1).f1)) := ⟨_, rfl⟩
            replace H : (if x3_1.length < 4398046511104 then (tripartitelaw04_From.l0 k1 l0 (x3_1 ++ [(⟨(rd_T143 l0 x4_1).f0, y106⟩ : S144)]) (wrap64 (x4_1 + 1))) else (none)) = some r := by first | (rw [hy106]; with_reducible exact H) | (have H2_ := (Option.bind_some _ _).symm.trans H; rw [hy106]; with_reducible exact H2_) | (have H2_ := (Option.bind_some _ _).symm.trans H; with_reducible exact H2_) | with_reducible exact H | (rw [hy106]; exact H) | exact H
            have Ny106 := Aside0.mk hy106
            clear hy106
            by_cases c5 : x3_1.length < 4398046511104
            · rw [if_pos c5] at H
              have LMc5 := Aside0.mk c5
              clear c5
              obtain ⟨y109, hy109⟩ : ∃ y_ : List (S144), y_ = (x3_1 ++ [(⟨(rd_T143 l0 x4_1).f0, y106⟩ : S144)]) := ⟨_, rfl⟩
              replace H : (tripartitelaw04_From.l0 k1 l0 y109 (wrap64 (x4_1 + 1))) = some r := by first | (rw [hy109]; with_reducible exact H) | (have H2_ := (Option.bind_some _ _).symm.trans H; rw [hy109]; with_reducible exact H2_) | (have H2_ := (Option.bind_some _ _).symm.trans H; with_reducible exact H2_) | with_reducible exact H | (rw [hy109]; exact H) | exact H
              have Ny109 := Aside0.mk hy109
              clear hy109
              have H' := Aside0.mk H
              clear H
              try go_wp2
              have n0_ := Aside0.mk (Kd.S_drew HO_3.out)
              have n1_ := Aside0.mk (below_drew1 HB.out)
              clear HO_3
              clear HB
              have HO_3 := n0_
              have HB := n1_
              clear n0_ n1_
              have p101 : 0 ≤ (x4_1 : Int) := of_decide_eq_true (by first | (with_reducible assumption) | assumption)
              have q101 : x4_1 < (l0.length : Int) := of_decide_eq_true (by first | (with_reducible assumption) | assumption)
              obtain ⟨ad101, A101_1, c101_1, e101, hx101_0, hx101_1, hl101_1, hi101_1⟩ := at_T143 HR0.out x4_1 p101 q101
              have hw101_1 := hx101_1
              have hw101_0 := hx101_0
              cases e101
              replace hx101_0 := (HB.out.cell (World.block_lt_of_cell? w _ hx101_0)).trans hx101_0
              replace hx101_1 := (HB.out.cell (World.block_lt_of_cell? w _ hx101_1)).trans hx101_1
              have HR101_1 := Aside0.mk hi101_1
              have HC101_1 := Aside0.mk hl101_1
              clear hi101_1 hl101_1
              replace p101 := eq_true p101
              replace q101 := eq_true q101
              have p105 : 0 ≤ (x4_1 : Int) := of_decide_eq_true (by first | (with_reducible assumption) | assumption)
              have q105 : x4_1 < (l0.length : Int) := of_decide_eq_true (by first | (with_reducible assumption) | assumption)
              obtain ⟨ad105, A105_1, c105_1, e105, hx105_0, hx105_1, hl105_1, hi105_1⟩ := at_T143 HR0.out x4_1 p105 q105
              have hw105_1 := hx105_1
              have hw105_0 := hx105_0
              obtain rfl : ad101 = ad105 := (by injection e105)
              replace hx105_0 := (HB.out.cell (World.block_lt_of_cell? w _ hx105_0)).trans hx105_0
              replace hx105_1 := (HB.out.cell (World.block_lt_of_cell? w _ hx105_1)).trans hx105_1
              have HR105_1 := Aside0.mk hi105_1
              have HC105_1 := Aside0.mk hl105_1
              clear hi105_1 hl105_1
              replace p105 := eq_true p105
              replace q105 := eq_true q105
              have ea_ := Option.some.inj (hx101_1.symm.trans hx105_1)
              injection ea_ with ea_ en_ ec_
              subst ea_
              subst ec_
              clear en_
              refine start_ (n := 17) (S := fun w' => w'.cell? (ad101.add ((x4_1).toNat * 2)) = some (.int .i64 ((rd_T143 l0 x4_1).f0)) ∧ w'.cell? ⟨(ad101.add ((x4_1).toNat * 2)).block, (ad101.add ((x4_1).toNat * 2)).off + 1, none⟩ = some (.slice A101_1 ((rd_T143 l0 x4_1).f1).length c101_1) ∧ w'.cell? (ad101.add ((x4_1).toNat * 2)) = some (.int .i64 ((rd_T143 l0 x4_1).f0)) ∧ w'.cell? ⟨(ad101.add ((x4_1).toNat * 2)).block, (ad101.add ((x4_1).toNat * 2)).off + 1, none⟩ = some (.slice A101_1 ((rd_T143 l0 x4_1).f1).length c101_1)) (ds := []) #[false, false, false, false, false, false, false, false, false, false, false, false, false, false, false, false, false] (by kernel_rfl) rfl rfl ⟨((HB.out.cell (World.block_lt_of_cell? w _ hw101_0)).trans hw101_0), ((HB.out.cell (World.block_lt_of_cell? w _ hw101_1)).trans hw101_1), ((HB.out.cell (World.block_lt_of_cell? w _ hw105_0)).trans hw105_0), ((HB.out.cell (World.block_lt_of_cell? w _ hw105_1)).trans hw105_1)⟩ (fun hHeld => ?_); refine with_tabW tripartitelaw04_From.tab5 tripartitelaw04_From.bits5 (fun HT_ HW_ => ?_)
              generalize wr.drew = w6 at HO_3 HB HR101_1 HR105_1 hx101_0 hx101_1 hx105_0 hx105_1 hHeld ⊢
              refine pure_ (i := 0) (N := some 11) (v := ?_) (a' := ?_) #[true, false, false, false, false, false, false, false, false, false, false, false, false, false, false, false, false] rfl rfl (any_of HT_.out (by kernel_rfl)) (fun _ _ _ h => h) (Or.inl ⟨by rfl, ?_⟩) ?_ ?_
              rotate_left
              · intro w'
                go_simp
                with_reducible rfl
              rotate_left
              · simp only [Act.put, List.setIfInBounds_toArray, List.set_cons_zero, List.set_cons_succ, i64_w, i32_w]
                rfl
              refine pure_ (i := 1) (N := some 12) (v := ?_) (a' := ?_) #[true, true, false, false, false, false, false, false, false, false, false, false, false, false, false, false, false] rfl rfl (any_of HT_.out (by kernel_rfl)) (fun _ _ _ h => h) (Or.inl ⟨by rfl, ?_⟩) ?_ ?_
              rotate_left
              · intro w'
                go_simp
                with_reducible rfl
              rotate_left
              · simp only [Act.put, List.setIfInBounds_toArray, List.set_cons_zero, List.set_cons_succ, i64_w, i32_w]
                rfl
              refine pure_ (i := 2) (N := some 13) (v := ?_) (a' := ?_) #[true, true, true, false, false, false, false, false, false, false, false, false, false, false, false, false, false] rfl rfl (any_of HT_.out (by kernel_rfl)) (fun _ _ _ h => h) (Or.inl ⟨by rfl, ?_⟩) ?_ ?_
              rotate_left
              · intro w'
                go_simp
                with_reducible rfl
              rotate_left
              · simp only [Act.put, List.setIfInBounds_toArray, List.set_cons_zero, List.set_cons_succ, i64_w, i32_w]
                rfl
              refine pure_ (i := 3) (N := some 14) (v := ?_) (a' := ?_) #[true, true, true, true, false, false, false, false, false, false, false, false, false, false, false, false, false] rfl rfl (any_of HT_.out (by kernel_rfl)) (fun _ _ _ h => h) (Or.inl ⟨by rfl, ?_⟩) ?_ ?_
              rotate_left
              · intro w'
                go_simp
                with_reducible rfl
              rotate_left
              · simp only [Act.put, List.setIfInBounds_toArray, List.set_cons_zero, List.set_cons_succ, i64_w, i32_w]
                rfl
              refine pure_ (i := 4) (N := some 15) (v := ?_) (a' := ?_) #[true, true, true, true, true, false, false, false, false, false, false, false, false, false, false, false, false] rfl rfl (any_of HT_.out (by kernel_rfl)) (fun _ _ _ h => h) (Or.inl ⟨by rfl, ?_⟩) ?_ ?_
              rotate_left
              · intro w'
                go_simp
                with_reducible rfl
              rotate_left
              · simp only [Act.put, List.setIfInBounds_toArray, List.set_cons_zero, List.set_cons_succ, i64_w, i32_w]
                rfl
              refine pure_ (i := 7) (N := some 18) (v := ?_) (a' := ?_) #[true, true, true, true, true, false, false, true, false, false, false, false, false, false, false, false, false] rfl rfl (any_of HT_.out (by kernel_rfl)) (fun _ _ _ h => h) (Or.inl ⟨by rfl, ?_⟩) ?_ ?_
              rotate_left
              · intro w'
                go_simp
                with_reducible rfl
              rotate_left
              · simp only [Act.put, List.setIfInBounds_toArray, List.set_cons_zero, List.set_cons_succ, i64_w, i32_w]
                rfl
              refine pure_ (i := 8) (N := some 19) (v := ?_) (a' := ?_) #[true, true, true, true, true, false, false, true, true, false, false, false, false, false, false, false, false] rfl rfl (any_of HT_.out (by kernel_rfl)) (fun _ _ _ h => h) (Or.inl ⟨by rfl, ?_⟩) ?_ ?_
              rotate_left
              · intro w'
                go_simp
                with_reducible rfl
              rotate_left
              · simp only [Act.put, List.setIfInBounds_toArray, List.set_cons_zero, List.set_cons_succ, i64_w, i32_w]
                rfl
              refine pure_ (i := 9) (N := some 20) (v := ?_) (a' := ?_) #[true, true, true, true, true, false, false, true, true, true, false, false, false, false, false, false, false] rfl rfl (any_of HT_.out (by kernel_rfl)) (fun _ _ _ h => h) (Or.inl ⟨by rfl, ?_⟩) ?_ ?_
              rotate_left
              · intro w'
                go_simp
                with_reducible rfl
              rotate_left
              · simp only [Act.put, List.setIfInBounds_toArray, List.set_cons_zero, List.set_cons_succ, i64_w, i32_w]
                rfl
              refine pure_ (i := 10) (N := some 21) (v := ?_) (a' := ?_) #[true, true, true, true, true, false, false, true, true, true, true, false, false, false, false, false, false] rfl rfl (any_of HT_.out (by kernel_rfl)) (fun _ _ _ h => h) (Or.inl ⟨by rfl, ?_⟩) ?_ ?_
              rotate_left
              · intro w'
                go_simp
                with_reducible rfl
              rotate_left
              · simp only [Act.put, List.setIfInBounds_toArray, List.set_cons_zero, List.set_cons_succ, i64_w, i32_w]
                rfl
              refine take_ (i := 5) (N := some 16) (v := ?_) (a' := ?_) #[true, true, true, true, true, true, false, true, true, true, true, false, false, false, false, false, false] rfl rfl (take_ofW HT_.out HW_.out (by kernel_rfl)) (fun _ _ _ h => h) (Or.inl ⟨by rfl, ?_⟩) hHeld ?_ ?_
              rotate_left
              · rintro w' ⟨s0, s1, s2, s3⟩
                go_simp
                with_reducible rfl
              rotate_left
              · simp only [Act.put, List.setIfInBounds_toArray, List.set_cons_zero, List.set_cons_succ, i64_w, i32_w]
                rfl
              refine take_ (i := 11) (N := some 22) (v := ?_) (a' := ?_) #[true, true, true, true, true, true, false, true, true, true, true, true, false, false, false, false, false] rfl rfl (take_ofW HT_.out HW_.out (by kernel_rfl)) (fun _ _ _ h => h) (Or.inl ⟨by rfl, ?_⟩) hHeld ?_ ?_
              rotate_left
              · rintro w' ⟨s0, s1, s2, s3⟩
                go_simp
                with_reducible rfl
              rotate_left
              · simp only [Act.put, List.setIfInBounds_toArray, List.set_cons_zero, List.set_cons_succ, i64_w, i32_w]
                rfl
              refine one_ (i := 6) (N := some 17) #[true, true, true, true, true, true, true, true, true, true, true, true, false, false, false, false, false] rfl rfl (one_of HT_.out (by kernel_rfl)) (by decide) (fun K hK => ?_)
              refine Kd.R_lit_step Kd.string _ 9 ?hg (N := 17) ?hd (xs := ([] : List ByteArray)) (inner := []) (ok := fun _ => True) (okp := fun _ => True) ?hr ?hp (fun _ hk => hk) trivial (Below.refl _ _) (Nat.le_refl _) (by simp) ?_; (case hd => rfl); (case hg => rfl); (case hr => first | (go_simp; done) | (go_simp; rfl)); (case hp => exact (Reps.none _ _))
              intro v103 w7 ho8 hb hg_ hnew_
              clear hg_ hnew_
              (first | rw [← Ny102.out] at ho8 | (simp only [Int.reduceToNat] at ho8; rw [← Ny102.out] at ho8))
              have n0_ := Aside0.mk (Kd.S_elder' (by (with_reducible repeat (first | apply Kd.S_alloc | apply Kd.S_drewN | apply Kd.S_drew)); exact HO_3.out) (Kd.R_base ho8) hb)
              have n1_ := Aside0.mk (Kd.R_lower ho8 (below_size (by repeat (first | (with_reducible first | exact HB.out | apply below_alloc | apply pw_below_drewN | apply below_drew1) | exact HB.out))))
              have n2_ := Aside0.mk (below_step (by repeat (first | (with_reducible first | exact HB.out | apply below_alloc | apply pw_below_drewN | apply below_drew1) | exact HB.out)) hb)
              clear HO_3
              clear HB
              have HO_3 := n0_
              have HO104 := n1_
              have HB := n2_
              clear n0_ n1_ n2_
              clear hb ho8
              refine hK.out _ _ ⟨((HB.out.cell (World.block_lt_of_cell? w _ hw101_0)).trans hw101_0), ((HB.out.cell (World.block_lt_of_cell? w _ hw101_1)).trans hw101_1), ((HB.out.cell (World.block_lt_of_cell? w _ hw105_0)).trans hw105_0), ((HB.out.cell (World.block_lt_of_cell? w _ hw105_1)).trans hw105_1)⟩ (fun hHeld => ?_)
              clear hK K
              refine norm_ (a' := ?_) ?_ ?_
              rotate_left
              · show Act.put _ (some 17) _ = _
                simp only [Act.put, List.setIfInBounds_toArray, List.set_cons_zero, List.set_cons_succ, i64_w, i32_w]
                rfl
              refine one_ (i := 12) (N := some 23) #[true, true, true, true, true, true, true, true, true, true, true, true, true, false, false, false, false] rfl rfl (one_of HT_.out (by kernel_rfl)) (by decide) (fun K hK => ?_)
              refine Kd.R_append_rows_step Kd.string (w0 := w) w.heap.size (by rfl) (.tmp 17) (.tmp 22) 27 9 (.string ⟨#[]⟩) 16 rfl Try.underlying27 info9 rfl (by decide) (by omega) v103 y102 ((rd_T143 l0 x4_1).f1) _ _ _ (fun _ => True) (fun _ => False) rfl rfl ?aO ?aR (fun _ _ h => h) (fun _ h => h.elim) ?aF ?aB ?aS ?aL ?_
              (case aR => repeat (first | exact (Kd.C_below HR105_1.out HB.out) | (with_reducible refine Kd.C_alloc ?_ _) | (with_reducible refine Kd.C_drewN ?_ _) | (with_reducible refine Kd.C_drew ?_)))
              (case aB => exact (by repeat (first | (with_reducible first | exact HB.out | apply below_alloc | apply pw_below_drewN | apply below_drew1) | exact HB.out)))
              (case aF => exact (fun _ _ => trivial))
              (case aO => exact (by (with_reducible repeat (first | apply Kd.R_alloc | apply Kd.R_drewN | apply Kd.R_drew)); exact HO104.out))
              (case aS => exact (below_size (by repeat (first | (with_reducible first | exact HB.out | apply below_alloc | apply pw_below_drewN | apply below_drew1) | exact HB.out))))
              (case aL => have := LMc4.out; omega)
              intro v107 w9 ho hb hg hat
              rw [← Ny106.out] at ho
              have n0_ := Aside0.mk (Kd.S_after (ok := (fun _ => True)) (by (with_reducible repeat (first | apply Kd.S_alloc | apply Kd.S_drewN | apply Kd.S_drew)); exact HO_3.out) hg hat)
              have n1_ := Aside0.mk (hb)
              have n2_ := Aside0.mk (ho)
              clear HO_3
              clear HB
              clear HO104
              have HO_3 := n0_
              have HB := n1_
              have HO108 := n2_
              clear n0_ n1_ n2_
              clear ho hb hg hat
              obtain ⟨Ao10, co10, eo10⟩ := Kd.R_slice HO108.out
              (first | subst eo10 | (injection eo10 with f1_ f2_ f3_; have f4_ := f1_.symm; have f5_ := f3_.symm; clear f1_ f2_ f3_; subst f4_; subst f5_))
              refine hK.out _ _ ⟨((HB.out.cell (World.block_lt_of_cell? w _ hw101_0)).trans hw101_0), ((HB.out.cell (World.block_lt_of_cell? w _ hw101_1)).trans hw101_1), ((HB.out.cell (World.block_lt_of_cell? w _ hw105_0)).trans hw105_0), ((HB.out.cell (World.block_lt_of_cell? w _ hw105_1)).trans hw105_1)⟩ (fun hHeld => ?_)
              clear hK K
              refine norm_ (a' := ?_) ?_ ?_
              rotate_left
              · show Act.put _ (some 23) _ = _
                simp only [Act.put, List.setIfInBounds_toArray, List.set_cons_zero, List.set_cons_succ, i64_w, i32_w]
                rfl
              refine pure_ (i := 13) (N := some 24) (v := ?_) (a' := ?_) #[true, true, true, true, true, true, true, true, true, true, true, true, true, true, false, false, false] rfl rfl (any_of HT_.out (by kernel_rfl)) (fun _ _ _ h => h) (Or.inl ⟨by rfl, ?_⟩) ?_ ?_
              rotate_left
              · intro w'
                go_simp
                with_reducible rfl
              rotate_left
              · simp only [Act.put, List.setIfInBounds_toArray, List.set_cons_zero, List.set_cons_succ, i64_w, i32_w]
                rfl
              refine one_ (i := 14) (N := some 25) #[true, true, true, true, true, true, true, true, true, true, true, true, true, true, true, false, false] rfl rfl (one_of HT_.out (by kernel_rfl)) (by decide) (fun K hK => ?_)
              refine value_ (w1 := ?_) (v := ?_) (by rfl) rfl ?_ ?_
              rotate_left 2
              · go_simp
                constructor
                · rfl
                · rfl
              refine hK.out _ _ ⟨(World.cell?_alloc_lt _ _ _ (World.block_lt_of_cell? _ _ (((HB.out.cell (World.block_lt_of_cell? w _ hw101_0)).trans hw101_0)))).trans (((HB.out.cell (World.block_lt_of_cell? w _ hw101_0)).trans hw101_0)), (World.cell?_alloc_lt _ _ _ (World.block_lt_of_cell? _ _ (((HB.out.cell (World.block_lt_of_cell? w _ hw101_1)).trans hw101_1)))).trans (((HB.out.cell (World.block_lt_of_cell? w _ hw101_1)).trans hw101_1)), (World.cell?_alloc_lt _ _ _ (World.block_lt_of_cell? _ _ (((HB.out.cell (World.block_lt_of_cell? w _ hw105_0)).trans hw105_0)))).trans (((HB.out.cell (World.block_lt_of_cell? w _ hw105_0)).trans hw105_0)), (World.cell?_alloc_lt _ _ _ (World.block_lt_of_cell? _ _ (((HB.out.cell (World.block_lt_of_cell? w _ hw105_1)).trans hw105_1)))).trans (((HB.out.cell (World.block_lt_of_cell? w _ hw105_1)).trans hw105_1))⟩ (fun hHeld => ?_)
              clear hK K
              refine norm_ (a' := ?_) ?_ ?_
              rotate_left
              · show Act.put _ (some 25) _ = _
                simp only [Act.put, List.setIfInBounds_toArray, List.set_cons_zero, List.set_cons_succ, i64_w, i32_w]
                rfl
              refine one_ (i := 15) (N := some 26) #[true, true, true, true, true, true, true, true, true, true, true, true, true, true, true, true, false] rfl rfl (one_of HT_.out (by kernel_rfl)) (by decide) (fun K hK => ?_)
              refine Kd.S_append_step k144 (w0 := w) w.heap.size (by rfl) (.tmp 11) (.tmp 25) 48 144 (.agg #[(.int .i64 0), (.slice none 0 0)]) 32 rfl Try.underlying48 info144 rfl (by decide) (by omega) u3 x3_1 (⟨(rd_T143 l0 x4_1).f0, y106⟩ : S144) [.int .i64 ((rd_T143 l0 x4_1).f0), .slice Ao10 y106.length co10] (fun _ => True) (fun k_ => some k_ = (.slice Ao10 y106.length co10 : Value).ownBlock) rfl rfl ?aP (fun k_ hk_ => ((Kd.R_mono (ok' := fun k_ => ((fun _ => True)) k_ ∧ some k_ ≠ (u3 : Value).ownBlock) (Kd.R_apart' (HO108.out) (Kd.S_typed HO_3.out) (by decide)) (fun k_ hk => ⟨trivial, hk.2⟩))).1 k_ hk_.symm) ?aF ?aO ?aB ?aS ?aL ?_
              (case aP => exact k144_mkM _ _ _ (⟨(rd_T143 l0 x4_1).f0, y106⟩ : S144) (Kd.R_mono (Kd.R_tight rfl (Kd.R_mono (ok' := fun k_ => ((fun _ => True)) k_ ∧ some k_ ≠ (u3 : Value).ownBlock) (Kd.R_apart' (HO108.out) (Kd.S_typed HO_3.out) (by decide)) (fun k_ hk => ⟨trivial, hk.2⟩))) (fun _ h_ => h_)))
              (case aB => exact (by repeat (first | (with_reducible first | exact HB.out | apply below_alloc | apply pw_below_drewN | apply below_drew1) | exact HB.out)))
              (case aF => exact (fun _ _ => trivial))
              (case aO => exact (by (with_reducible repeat (first | apply Kd.S_alloc | apply Kd.S_drewN | apply Kd.S_drew)); exact Kd.S_mono HO_3.out (fun k_ hk => ⟨trivial, fun e_ => hk.2 e_⟩)))
              (case aS => exact (below_size (by repeat (first | (with_reducible first | exact HB.out | apply below_alloc | apply pw_below_drewN | apply below_drew1) | exact HB.out))))
              (case aL => have := LMc5.out; omega)
              intro v110 w11 ho hb hg hat
              rw [← Ny109.out] at ho
              have n0_ := Aside0.mk (hb)
              have n1_ := Aside0.mk (ho)
              clear HB
              clear HO_3
              clear HO108
              have HB := n0_
              have HO111 := n1_
              clear n0_ n1_
              clear ho hb hg hat
              refine hK.out _ _ ⟨((HB.out.cell (World.block_lt_of_cell? w _ hw101_0)).trans hw101_0), ((HB.out.cell (World.block_lt_of_cell? w _ hw101_1)).trans hw101_1), ((HB.out.cell (World.block_lt_of_cell? w _ hw105_0)).trans hw105_0), ((HB.out.cell (World.block_lt_of_cell? w _ hw105_1)).trans hw105_1)⟩ (fun hHeld => ?_)
              clear hK K
              refine norm_ (a' := ?_) ?_ ?_
              rotate_left
              · show Act.put _ (some 26) _ = _
                simp only [Act.put, List.setIfInBounds_toArray, List.set_cons_zero, List.set_cons_succ, i64_w, i32_w]
                rfl
              refine pure_ (i := 16) (N := some 3) (v := ?_) (a' := ?_) #[true, true, true, true, true, true, true, true, true, true, true, true, true, true, true, true, true] rfl rfl (any_of HT_.out (by kernel_rfl)) (fun _ _ _ h => h) (Or.inl ⟨by rfl, ?_⟩) ?_ ?_
              rotate_left
              · intro w'
                go_simp
                with_reducible rfl
              rotate_left
              · simp only [Act.put, List.setIfInBounds_toArray, List.set_cons_zero, List.set_cons_succ, i64_w, i32_w]
                rfl
              refine done_ (done_of HT_.out (by kernel_rfl)) ?_
              try go_wp2
              go_roundg k1
              case measure => have := HK1.out; omega
              case rel => exact ⟨(y109), (wrap64 (x4_1 + 1)), (by first | rfl | (simp; done) | (simp [*]; done)), H', ⟨by have := HK1.out; omega⟩, ⟨by (with_reducible repeat (first | apply Kd.S_alloc | apply Kd.S_drewN | apply Kd.S_drew)); exact HO111.out⟩, ⟨by repeat (first | (with_reducible first | exact HB.out | apply below_alloc | apply pw_below_drewN | apply below_drew1) | exact HB.out)⟩⟩
            · rw [if_neg c5] at H
              exact absurd H (by simp)
          · rw [if_neg c4] at H
            exact absurd H (by simp)
        · rw [if_neg c3] at H
          exact absurd H (by simp)
      · rw [if_neg c2] at H
        have c2b0 : decide (x4_1 < (l0.length : Int)) = false := decide_eq_false c2
        clear c2
        obtain rfl := Option.some.inj H
        go_wp2
        go_ret
        exact ⟨_, by first | rfl | (simp [errW_none, errW_some] <;> rfl) | (simp [*, errW_none, errW_some] <;> rfl), by (with_reducible repeat (first | apply Kd.S_alloc | apply Kd.S_drewN | apply Kd.S_drew)); exact HO_3.out, by repeat (first | (with_reducible first | exact HB.out | apply below_alloc | apply pw_below_drewN | apply below_drew1) | exact HB.out)⟩

end Go.Proofs.Ytadafplbgophfaa.PA
end
section
/- What the small functions over scripts answer. -/
namespace Go.Proofs.Ytadafplbgophfaa.PA
set_option linter.unusedSimpArgs false
set_option linter.unusedVariables false
open Go.RowKit Go.Proofs.YtadafplbgophfaaW.PrintWords Go.Proofs.YtadafplbgophfaaW.PrintLast Go.Proofs.YtadafplbgophfaaW.PrintMore
open Jdg

/-- few enough: not too many steps, nor texts -/
def Few (l : List S144) : Prop := l.length ≤ 1000000 ∧ tot l ≤ 1000000
theorem Few.el {l : List S144} (h : Few l) {i : Nat} (hi : i < l.length) : l[i].f1.length ≤ 1000000 := Nat.le_trans (el_tot (List.getElem_mem hi)) h.2
theorem take_map {α β : Type} (f : α → β) (l : List α) {i : Nat} (h : i < l.length) : (l.take i).map f ++ [f l[i]] = (l.take (i + 1)).map f := by
  rw [List.take_succ_eq_append_getElem h, List.map_append]; rfl
theorem take_tot {l : List S144} {i : Nat} (h : i < l.length) : tot (l.take i) + l[i].f1.length = tot (l.take (i + 1)) := by
  rw [List.take_succ_eq_append_getElem h, tot_append, tot_one]
theorem take_tot_le (l : List S144) (i : Nat) : tot (l.take i) ≤ tot l := by
  conv => rhs; rw [← List.take_append_drop i l, tot_append]
  omega
theorem take_side (q : Int) {l : List S144} {i : Nat} (h : i < l.length) : side q (l.take (i + 1)) = side q (l.take i) ++ if l[i].f0 = 0 ∨ l[i].f0 = q then l[i].f1 else [] := by
  rw [List.take_succ_eq_append_getElem h, side_append, side_one]
theorem side_tot (q : Int) (l : List S144) : (side q l).length ≤ tot l := by
  induction l with
  | nil => simp [side]
  | cons x l ih =>
    have e1 : side q (x :: l) = side q [x] ++ side q l := side_append q [x] l
    have e2 : tot (x :: l) = tot [x] + tot l := tot_append [x] l
    rw [e1, e2, List.length_append, side_one, tot_one]
    split <;> simp <;> omega

theorem from4_ok {l : List S144} (h : Few l) : Ev (fun k => tripartitelaw04_From.f k (l.map t144)) l := by
  refine Ev.down (P := fun i => Ev (fun k => tripartitelaw04_From.l0 k (l.map t144) (l.take i) (i : Int)) l) l.length ?_ ?_
  · refine Ev.step (f := fun _ => some l) (fun k => ?_) (Ev.now _)
    simp only [tripartitelaw04_From.l0]
    rw [if_neg (by rw [List.length_map]; omega), List.take_length]
  · intro i hi hE
    have h1 := h.1
    have h2 := h.el hi
    refine Ev.step (fun k => ?_) hE
    have e : rd_T143 (l.map t144) (i : Int) = t144 l[i] := by rw [rdT143_nat' _ (by simpa using hi)]; simp
    simp only [tripartitelaw04_From.l0, Option.bind_some, List.length_nil, List.nil_append, Nat.zero_add]
    have h3 : (t144 l[i]).f1.length < 8796093022208 := by show l[i].f1.length < _; omega
    rw [if_pos (by rw [List.length_map]; omega), if_pos (by omega), e, if_pos h3, if_pos (by rw [List.length_take]; omega), next64 (by omega)]
    show tripartitelaw04_From.l0 k (l.map t144) (l.take i ++ [l[i]]) _ = _
    rw [← List.take_succ_eq_append_getElem hi]
theorem part_at {a b : List ByteArray} (hl : a.length = b.length) (he : a ≠ b) : ∃ n, n < a.length ∧ ¬ (rdOf ByteArray.empty a (n : Int)).toList = (rdOf ByteArray.empty b (n : Int)).toList ∧ ∀ m, m < n → (rdOf ByteArray.empty a (m : Int)).toList = (rdOf ByteArray.empty b (m : Int)).toList := by
  have hex : ∃ i, i < a.length ∧ a[i]? ≠ b[i]? := by
    apply Classical.byContradiction
    intro hn
    apply he
    refine List.ext_getElem? fun i => ?_
    apply Classical.byContradiction
    intro hne
    refine hn ⟨i, ?_, hne⟩
    rcases Nat.lt_or_ge i a.length with h | h
    · exact h
    · exact absurd (by rw [List.getElem?_eq_none h, List.getElem?_eq_none (by omega)]) hne
  obtain ⟨n, ⟨hn1, hn2⟩, hmin⟩ : ∃ n, (n < a.length ∧ a[n]? ≠ b[n]?) ∧ ∀ m, m < n → ¬ (m < a.length ∧ a[m]? ≠ b[m]?) := by
    obtain ⟨i, hi⟩ := hex
    induction i using Nat.strongRecOn with
    | ind i ih =>
      by_cases hm : ∃ m, m < i ∧ (m < a.length ∧ a[m]? ≠ b[m]?)
      · obtain ⟨m, h1, h2⟩ := hm
        exact ih m h1 h2
      · exact ⟨i, hi, fun m h1 h2 => hm ⟨m, h1, h2⟩⟩
  have hb : n < b.length := by omega
  refine ⟨n, hn1, ?_, fun i hi => ?_⟩
  · rw [str_eq]
    intro e
    apply hn2
    rw [List.getElem?_eq_getElem hn1, List.getElem?_eq_getElem hb]
    simpa [rdOf, List.getD_eq_getElem?_getD, hn1, hb] using e
  · have hia : i < a.length := by omega
    have hib : i < b.length := by omega
    have h1 : a[i]? = b[i]? := by
      apply Classical.byContradiction
      intro h; exact hmin i hi ⟨hia, h⟩
    rw [List.getElem?_eq_getElem hia, List.getElem?_eq_getElem hib] at h1
    have h2 : a[i] = b[i] := by simpa using h1
    simp [rdOf, List.getD_eq_getElem?_getD, hia, hib, h2]
theorem rsame_ok (a b : List ByteArray) (ha : a.length ≤ 1000000) : Ev (fun k => tripartiteref01_Same.f k a b) (decide (a = b)) := by
  by_cases hl : a.length = b.length
  · have hc : (a.length : Int) = (b.length : Int) := by omega
    refine Ev.congr (f := fun k => tripartiteref01_Same.l0 k a b ((0 : Nat) : Int)) (fun k => by unfold tripartiteref01_Same.f; rw [if_pos hc]; rfl) ?_
    by_cases he : a = b
    · subst he
      rw [decide_eq_true rfl]
      refine Ev.down (P := fun i => Ev (fun k => tripartiteref01_Same.l0 k a a (i : Int)) true) a.length ?_ ?_
      · refine Ev.step (f := fun _ => some true) (fun k => ?_) (Ev.now _)
        simp only [tripartiteref01_Same.l0]; rw [if_neg (by omega)]
      · intro i hi hE
        refine Ev.step (fun k => ?_) hE
        simp only [tripartiteref01_Same.l0]; rw [if_pos (by omega), if_pos (by omega), if_pos (by omega), if_pos trivial, next64 (by omega)]
    · rw [decide_eq_false he]
      obtain ⟨n, hn1, hn2, hmin⟩ := part_at hl he
      refine Ev.down (P := fun i => Ev (fun k => tripartiteref01_Same.l0 k a b (i : Int)) false) n ?_ ?_
      · refine Ev.step (f := fun _ => some false) (fun k => ?_) (Ev.now _)
        simp only [tripartiteref01_Same.l0]; rw [if_pos (by omega), if_pos (by omega), if_pos (by omega), if_neg hn2]
      · intro i hi hE
        refine Ev.step (fun k => ?_) hE
        simp only [tripartiteref01_Same.l0]; rw [if_pos (by omega), if_pos (by omega), if_pos (by omega), if_pos (hmin i hi), next64 (by omega)]
  · rw [decide_eq_false (fun h => hl (by rw [h]))]
    refine Ev.congr (f := fun _ => some false) (fun k => ?_) (Ev.now _)
    unfold tripartiteref01_Same.f; rw [if_neg (by omega)]
theorem equal_ok (a b : List ByteArray) (ha : a.length ≤ 1000000) : Ev (fun k => slices_Equal_string_string.f k a b) (decide (a = b)) := by
  by_cases hl : a.length = b.length
  · have hc : (a.length : Int) = (b.length : Int) := by omega
    refine Ev.congr (f := fun k => slices_Equal_string_string.l0 k a b a.length ((0 : Nat) : Int)) (fun k => by unfold slices_Equal_string_string.f; rw [if_pos hc]; rfl) ?_
    by_cases he : a = b
    · subst he
      rw [decide_eq_true rfl]
      refine Ev.down (P := fun i => Ev (fun k => slices_Equal_string_string.l0 k a a a.length (i : Int)) true) a.length ?_ ?_
      · refine Ev.step (f := fun _ => some true) (fun k => ?_) (Ev.now _)
        simp only [slices_Equal_string_string.l0]; rw [if_neg (by omega)]
      · intro i hi hE
        refine Ev.step (fun k => ?_) hE
        simp only [slices_Equal_string_string.l0]; rw [if_pos (by omega), if_pos (by omega), if_pos (by omega), if_pos (by omega), if_pos trivial, next64 (by omega)]
    · rw [decide_eq_false he]
      obtain ⟨n, hn1, hn2, hmin⟩ := part_at hl he
      refine Ev.down (P := fun i => Ev (fun k => slices_Equal_string_string.l0 k a b a.length (i : Int)) false) n ?_ ?_
      · refine Ev.step (f := fun _ => some false) (fun k => ?_) (Ev.now _)
        simp only [slices_Equal_string_string.l0]; rw [if_pos (by omega), if_pos (by omega), if_pos (by omega), if_pos (by omega), if_neg hn2]
      · intro i hi hE
        refine Ev.step (fun k => ?_) hE
        simp only [slices_Equal_string_string.l0]; rw [if_pos (by omega), if_pos (by omega), if_pos (by omega), if_pos (by omega), if_pos (hmin i hi), next64 (by omega)]
  · rw [decide_eq_false (fun h => hl (by rw [h]))]
    refine Ev.congr (f := fun _ => some false) (fun k => ?_) (Ev.now _)
    unfold slices_Equal_string_string.f; rw [if_neg (by omega)]
theorem same4_ok {l : List S144} (h : Few l) : Ev (fun k => tripartiteref04_Same.f k l l) true := by
  refine Ev.congr (f := fun k => tripartiteref04_Same.l0 k l l ((0 : Nat) : Int)) (fun k => by unfold tripartiteref04_Same.f; rw [if_pos rfl]; rfl) ?_
  refine Ev.down (P := fun i => Ev (fun k => tripartiteref04_Same.l0 k l l (i : Int)) true) l.length ?_ ?_
  · refine Ev.step (f := fun _ => some true) (fun k => ?_) (Ev.now _)
    simp only [tripartiteref04_Same.l0]; rw [if_neg (by omega)]
  · intro i hi hE
    have h1 := h.1
    refine Ev.step (f := fun k => (tripartiteref01_Same.f k l[i].f1 l[i].f1).bind fun t => if t = true then tripartiteref04_Same.l0 k l l ((i + 1 : Nat) : Int) else some false) (fun k => ?_) (Ev.bind (rsame_ok _ _ (h.el hi)) ?_)
    · simp only [tripartiteref04_Same.l0]; rw [if_pos (by omega), if_pos (by omega), if_pos (by omega), rdT144_nat l hi, if_pos trivial, next64 (by omega)]
    · refine Ev.congr (fun k => ?_) hE
      rw [if_pos (by simp)]
theorem eside_ok {l : List S144} (h : Few l) (q : Int) : Ev (fun k => edit_side.f k (l.map t144) q) (side q l) := by
  have h1 := h.1
  refine Ev.down (P := fun i => Ev (fun k => edit_side.l0 k q (side q (l.take i)) (l.map t144) ((l.map t144).length : Int) (i : Int)) (side q l)) l.length ?_ ?_
  · refine Ev.step (f := fun _ => some (side q l)) (fun k => ?_) (Ev.now _)
    simp only [edit_side.l0]; rw [if_neg (by rw [List.length_map]; omega), List.take_length]
  · intro i hi hE
    have h2 := h.el hi
    have h3 := side_tot q (l.take i)
    have h4 := take_tot_le l i
    have h5 := h.2
    have e : rd_T143 (l.map t144) (i : Int) = t144 l[i] := by rw [rdT143_nat' _ (by simpa using hi)]; simp
    have h6 : (side q (l.take i)).length + (t144 l[i]).f1.length < 8796093022208 := by show _ + l[i].f1.length < _; omega
    rw [take_side q hi] at hE
    refine Ev.step (fun k => ?_) hE
    simp only [edit_side.l0]
    rw [if_pos (by rw [List.length_map]; omega), if_pos (by omega), if_pos (by rw [List.length_map]; omega), e, next64 (by omega)]
    by_cases c0 : l[i].f0 = 0
    · rw [if_pos (show (t144 l[i]).f0 = 0 from c0), if_pos h6, if_pos (.inl c0)]; rfl
    · rw [if_neg (show ¬ (t144 l[i]).f0 = 0 from c0)]
      by_cases c1 : l[i].f0 = q
      · rw [if_pos (show (t144 l[i]).f0 = q from c1), if_pos h6, if_pos (.inr c1)]; rfl
      · rw [if_neg (show ¬ (t144 l[i]).f0 = q from c1), if_neg (fun h => h.elim c0 c1), List.append_nil]
theorem apply_ok {l : List S144} (h : Few l) (a : List ByteArray) : Ev (fun k => edit_Apply.f k (l.map t144) a) (if side 1 l = a then (side 2 l, 0) else ([], 12)) := by
  unfold edit_Apply.f
  have h3 := side_tot 1 l
  have h5 := h.2
  refine Ev.bind (eside_ok h 1) (Ev.bind (equal_ok _ a (by omega)) ?_)
  by_cases e : side 1 l = a
  · rw [if_pos e]
    refine Ev.congr (fun k => by rw [if_pos (decide_eq_true e)]) (Ev.bind (eside_ok h 2) (Ev.now _))
  · rw [if_neg e]
    refine Ev.congr (fun k => by rw [if_neg (by simp [e])]) (Ev.now _)
theorem bump_step (l : List S144) (p : Int × Int × Int) (h : tot l ≤ 1000000) (h0 : 0 ≤ p.1 ∧ p.1 ≤ 1000000000 ∧ 0 ≤ p.2.1 ∧ p.2.1 ≤ 1000000000 ∧ 0 ≤ p.2.2 ∧ p.2.2 ≤ 1000000000) :
    (l.map t144).foldl bump p = (p.1 + (cnt 0 l : Nat), p.2.1 + (cnt 1 l : Nat), p.2.2 + (cnt 2 l : Nat)) ∨ 1000000000 < p.1 + tot l ∨ 1000000000 < p.2.1 + tot l ∨ 1000000000 < p.2.2 + tot l := by
  induction l generalizing p with
  | nil => left; simp [cnt]
  | cons x l ih =>
    have e2 : ∀ r, cnt r (x :: l) = cnt r [x] + cnt r l := fun r => cnt_append r [x] l
    have e3 : tot (x :: l) = tot [x] + tot l := tot_append [x] l
    rw [tot_one] at e3
    by_cases hb : 1000000000 < p.1 + tot (x :: l) ∨ 1000000000 < p.2.1 + tot (x :: l) ∨ 1000000000 < p.2.2 + tot (x :: l)
    · right; exact hb
    left
    have hf : (t144 x).f1.length = x.f1.length := rfl
    have hk : (t144 x).f0 = x.f0 := rfl
    simp only [List.map_cons, List.foldl_cons, e2, cnt_one]
    unfold bump
    rw [hf, hk]
    rcases p with ⟨p0, p1, p2⟩
    simp only at hb h0 ⊢
    by_cases c0 : x.f0 = 0
    · rw [if_pos c0, w64 (by omega) (by omega)]
      rcases ih (p0 + x.f1.length, p1, p2) (by omega) (by simp only; omega) with h | h
      · rw [if_pos c0, if_neg (by omega), if_neg (by omega), ]
        refine h.trans ?_
        simp only [Prod.mk.injEq]; omega
      · simp only at h; omega
    · rw [if_neg c0, if_neg c0]
      by_cases c1 : x.f0 = 1
      · rw [if_pos c1, w64 (by omega) (by omega)]
        rcases ih (p0, p1 + x.f1.length, p2) (by omega) (by simp only; omega) with h | h
        · rw [if_pos c1, if_neg (by omega)]
          refine h.trans ?_
          simp only [Prod.mk.injEq]; omega
        · simp only at h; omega
      · rw [if_neg c1, if_neg c1]
        by_cases c2 : x.f0 = 2
        · rw [if_pos c2, if_pos c2, w64 (by omega) (by omega)]
          rcases ih (p0, p1, p2 + x.f1.length) (by omega) (by simp only; omega) with h | h
          · refine h.trans ?_
            simp only [Prod.mk.injEq]; omega
          · simp only at h; omega
        · rw [if_neg c2, if_neg c2]
          rcases ih (p0, p1, p2) (by omega) (by simp only; omega) with h | h
          · refine h.trans ?_
            simp only [Prod.mk.injEq]; omega
          · simp only at h; omega
theorem counts_ok {l : List S144} (h : tot l ≤ 1000000) : edit_Counts.f 0 (l.map t144) = some ((cnt 0 l : Int), (cnt 1 l : Int), (cnt 2 l : Int)) := by
  unfold edit_Counts.f
  rcases bump_step l (0, 0, 0) h (by simp) with e | e
  · rw [e]; simp
  · simp only at e; omega
end Go.Proofs.Ytadafplbgophfaa.PA
end
section
/- The way back of a script. -/
namespace Go.Proofs.Ytadafplbgophfaa.PA
set_option linter.unusedSimpArgs false
set_option linter.unusedVariables false
open Go.RowKit Go.Proofs.YtadafplbgophfaaW.PrintWords Go.Proofs.YtadafplbgophfaaW.PrintLast Go.Proofs.YtadafplbgophfaaW.PrintMore
open Jdg

def bkR : List S144 → List S144 → List ByteArray → List S144
  | [], out, late => pt out 2 late
  | s :: l, out, late => if s.f0 = 1 then bkR l out s.f1 else
      bkR l (if s.f0 = 0 then pt (pt (if s.f0 = 2 then pt out 1 s.f1 else out) 2 late) 0 s.f1 else pt (if s.f0 = 2 then pt out 1 s.f1 else out) 2 late) []
theorem tot_cons (x : S144) (l : List S144) : tot (x :: l) = x.f1.length + tot l := by simp [tot]
theorem side_cons (q : Int) (x : S144) (l : List S144) : side q (x :: l) = (if x.f0 = 0 ∨ x.f0 = q then x.f1 else []) ++ side q l := by rw [show x :: l = [x] ++ l from rfl, side_append, side_one]
theorem backR_eq : ∀ (l out : List S144) (late : List ByteArray), NE out → tot out + tot l + late.length ≤ 1000000 → backR (l.map t144) (out.map t144) late = some ((bkR l out late).map t144)
  | [], out, late, h, hb => by
    simp only [List.map_nil, backR, bkR]
    exact putO_pt h (by omega) (by omega)
  | s :: l, out, late, h, hb => by
    rw [tot_cons] at hb
    simp only [List.map_cons, backR, bkR]
    have e1 : (t144 s).f1 = s.f1 := rfl
    by_cases c1 : s.f0 = 1
    · rw [if_pos (show (t144 s).f0 = 1 from c1), if_pos c1, e1]
      exact backR_eq l out s.f1 h (by omega)
    · rw [if_neg (show ¬ (t144 s).f0 = 1 from c1), if_neg c1, e1]
      by_cases c2 : s.f0 = 2
      · have c0 : ¬ s.f0 = 0 := by omega
        rw [if_pos (show (t144 s).f0 = 2 from c2), if_neg c0, if_pos c2, putO_pt h (by omega) (by omega), Option.bind_some, putO_pt (pt_NE h _ _) (by rw [pt_tot]; omega) (by omega), Option.bind_some, if_neg (show ¬ (t144 s).f0 = 0 from c0), Option.bind_some]
        exact backR_eq l _ [] (pt_NE (pt_NE h _ _) _ _) (by rw [pt_tot, pt_tot]; simp; omega)
      · rw [if_neg (show ¬ (t144 s).f0 = 2 from c2), if_neg c2, Option.bind_some, putO_pt h (by omega) (by omega), Option.bind_some]
        by_cases c0 : s.f0 = 0
        · rw [if_pos (show (t144 s).f0 = 0 from c0), if_pos c0, putO_pt (pt_NE h _ _) (by rw [pt_tot]; omega) (by omega), Option.bind_some]
          exact backR_eq l _ [] (pt_NE (pt_NE h _ _) _ _) (by rw [pt_tot, pt_tot]; simp; omega)
        · rw [if_neg (show ¬ (t144 s).f0 = 0 from c0), if_neg c0, Option.bind_some]
          exact backR_eq l _ [] (pt_NE h _ _) (by rw [pt_tot]; simp; omega)
theorem bkR_NE : ∀ (l out : List S144) (late : List ByteArray), NE out → NE (bkR l out late)
  | [], out, late, h => pt_NE h _ _
  | s :: l, out, late, h => by
    simp only [bkR]
    split
    · exact bkR_NE l out _ h
    · refine bkR_NE l _ [] ?_
      split <;> split <;> first | exact pt_NE (pt_NE (pt_NE h _ _) _ _) _ _ | exact pt_NE (pt_NE h _ _) _ _ | exact pt_NE h _ _
theorem bkR_tot : ∀ (l out : List S144) (late : List ByteArray), tot (bkR l out late) ≤ tot out + tot l + late.length
  | [], out, late => by simp only [bkR]; rw [pt_tot]; omega
  | s :: l, out, late => by
    simp only [bkR]
    rw [tot_cons]
    split
    · have := bkR_tot l out s.f1; omega
    · refine Nat.le_trans (bkR_tot l _ []) ?_
      by_cases c0 : s.f0 = 0
      · rw [if_pos c0, if_neg (by omega), pt_tot, pt_tot]; simp; omega
      · rw [if_neg c0]
        by_cases c2 : s.f0 = 2
        · rw [if_pos c2, pt_tot, pt_tot]; simp; omega
        · rw [if_neg c2, pt_tot]; simp; omega
/-- the first step's kind, if there is one, is not q -/
def HeadNe (q : Int) : List S144 → Prop
  | [] => True
  | x :: _ => x.f0 ≠ q
theorem adj_tail {x : S144} {l : List S144} (h : Adj (x :: l)) : Adj l ∧ HeadNe x.f0 l := by
  cases l with
  | nil => exact ⟨trivial, trivial⟩
  | cons y l => exact ⟨h.2, fun e => h.1 e.symm⟩
theorem bkR_sides : ∀ (l out : List S144) (late : List ByteArray), Adj l → (late ≠ [] → HeadNe 1 l) → side 1 (bkR l out late) = side 1 out ++ side 2 l ∧ side 2 (bkR l out late) = side 2 out ++ late ++ side 1 l
  | [], out, late, _, _ => by
    simp only [bkR]
    rw [pt_side, pt_side]; simp [side]
  | s :: l, out, late, ha, hh => by
    obtain ⟨ha2, hn⟩ := adj_tail ha
    simp only [bkR]
    rw [side_cons, side_cons]
    by_cases c1 : s.f0 = 1
    · obtain rfl : late = [] := by
        apply Classical.byContradiction
        intro h; exact hh h c1
      obtain ⟨h1, h2⟩ := bkR_sides l out s.f1 ha2 (fun _ => by rw [c1] at hn; exact hn)
      rw [if_pos c1, h1, h2, if_neg (by omega), if_pos (by omega)]; simp
    · rw [if_neg c1]
      by_cases c0 : s.f0 = 0
      · obtain ⟨h1, h2⟩ := bkR_sides l (pt (pt out 2 late) 0 s.f1) [] ha2 (fun h => absurd rfl h)
        rw [if_pos c0, if_neg (show ¬ s.f0 = 2 by omega), h1, h2]
        simp [pt_side, c0]
      · rw [if_neg c0]
        by_cases c2 : s.f0 = 2
        · obtain ⟨h1, h2⟩ := bkR_sides l (pt (pt out 1 s.f1) 2 late) [] ha2 (fun h => absurd rfl h)
          rw [if_pos c2, h1, h2]
          simp [pt_side, c2]
        · obtain ⟨h1, h2⟩ := bkR_sides l (pt out 2 late) [] ha2 (fun h => absurd rfl h)
          rw [if_neg c2, h1, h2]
          simp [pt_side, c0, c1, c2]
theorem eback_ok {l : List S144} (h : tot l ≤ 1000000) : edit_Back.f 0 (l.map t144) = some ((bkR l [] []).map t144) := by
  unfold edit_Back.f
  exact backR_eq l [] [] (fun x hx => by simp at hx) (by simp [tot] at h ⊢; omega)

end Go.Proofs.Ytadafplbgophfaa.PA
end
section
-- Written by a program of this seat out of the translation. Not trusted: Lean checks it.
namespace Go.Proofs.Ytadafplbgophfaa.PA
open Go.RowKit Go.Proofs.YtadafplbgophfaaW.PrintWords Go.Proofs.YtadafplbgophfaaW.PrintLast Go.Proofs.YtadafplbgophfaaW.PrintMore
attribute [local go_sem] max2_int min2_int max_two min_two max_three min_three max_four min_four   -- for this text's walks alone
set_option linter.unusedVariables false
set_option linter.unusedSimpArgs false

/-! ### tripartitelaw04_few: function 42 -/
def tripartitelaw04_few.l0 : Nat → List (S144) → Int → Int → Option (Bool)
  | 0, _, _, _ => none
  | k + 1, x0, x3, x4 => if x4 < (x0.length : Int) then (if 0 ≤ x4 then (tripartitelaw04_few.l0 k x0 (wrap64 (x3 + (((rd_T144 x0 x4).f1).length : Int))) (wrap64 (x4 + 1))) else (none)) else (if (x0.length : Int) ≤ 100 then (some (decide (x3 ≤ 300))) else (some false))
def tripartitelaw04_few.f (k : Nat) (l0 : List (S144)) : Option (Bool) := tripartitelaw04_few.l0 k l0 0 0
theorem tripartitelaw04_few.mono_l : ∀ k, (∀ y0 y1 y2, LeO (tripartitelaw04_few.l0 k y0 y1 y2) (tripartitelaw04_few.l0 (k + 1) y0 y1 y2))
  | 0 => fun _ _ _ r h => by simp [tripartitelaw04_few.l0] at h
  | k + 1 => by
    have ih0 := tripartitelaw04_few.mono_l k
    · intro y0 y1 y2
      unfold tripartitelaw04_few.l0
      repeat' first
      | (with_reducible exact ih0 _ _ _)
      | (with_reducible exact LeO.refl _)
      | (with_reducible exact LeO.none _)
      | (with_reducible refine LeO.ite ?_ ?_)
      | (with_reducible refine LeO.bind ?_ (fun _ => ?_))
      | exact ih0 _ _ _
      | exact LeO.none _
      | refine LeO.ite ?_ ?_
      | refine LeO.bind ?_ (fun _ => ?_)
theorem tripartitelaw04_few.mono : ∀ a0 k, LeO (tripartitelaw04_few.f k a0) (tripartitelaw04_few.f (k + 1) a0) := by
  intro a0 k
  have ih0 := tripartitelaw04_few.mono_l k
  unfold tripartitelaw04_few.f
  repeat' first
      | (with_reducible exact ih0 _ _ _)
      | (with_reducible exact LeO.refl _)
      | (with_reducible exact LeO.none _)
      | (with_reducible refine LeO.ite ?_ ?_)
      | (with_reducible refine LeO.bind ?_ (fun _ => ?_))
      | exact ih0 _ _ _
      | exact LeO.none _
      | refine LeO.ite ?_ ?_
      | refine LeO.bind ?_ (fun _ => ?_)
set_option maxHeartbeats 8000000 in
set_option maxRecDepth 100000 in
theorem tripartitelaw04_few.calls (k : Nat) (A0 : Option Addr) (c0 : Nat) (l0 : List (S144)) (r : Bool) (w : World) (hr0 : Kd.C k144 w A0 l0.length l0) (hc0 : l0.length ≤ c0) (h : tripartitelaw04_few.f k l0 = some r) :
    Calls Try.prog 42 #[.slice A0 l0.length c0] w fun e w' => e = .returned (.bool r) ∧ Drawn0 w w' := by
  have HR0 := Aside0.mk hr0
  have HC0 := Aside0.mk hc0
  clear hr0 hc0
  have H : (tripartitelaw04_few.l0 k l0 0 0) = some r := h
  clear h
  have H' := Aside0.mk H
  clear H
  go_enter Try.func42, Try.ntmps42
  go_wp2
  go_loopg [3, 4] k (fun kq v3 v4 w' => ∃ (x3_1 : Int) (x4_1 : Int), v3 = .int .i64 x3_1 ∧ v4 = .int .i64 x4_1 ∧ Aside0 (tripartitelaw04_few.l0 kq l0 x3_1 x4_1 = some r) ∧ Aside0 (kq ≤ k) ∧ Drawn0 w w')
  case atStart => exact ⟨(0), (0), (by first | rfl | (simp; done) | (simp [*]; done)), (by first | rfl | (simp; done) | (simp [*]; done)), H', ⟨Nat.le_refl _⟩, by repeat (first | exact Drawn0.refl _ | apply Drawn0.step)⟩
  case round =>
    clear H'
    obtain ⟨x3_1, x4_1, rfl, rfl, HA, HK1, ⟨m1, rfl⟩⟩ := hrel
    cases gk with
    | zero => exact absurd HA.out (by simp [tripartitelaw04_few.l0])
    | succ k1 =>
      have H := HA.out
      clear HA
      simp only [tripartitelaw04_few.l0] at H
      by_cases c2 : x4_1 < (l0.length : Int)
      · rw [if_pos c2] at H
        have c2b0 : decide (x4_1 < (l0.length : Int)) = true := decide_eq_true c2
        clear c2
        by_cases c3 : 0 ≤ x4_1
        · rw [if_pos c3] at H
          have c3b0 : decide (0 ≤ x4_1) = true := decide_eq_true c3
          clear c3
          have H' := Aside0.mk H
          clear H
          have p101 : 0 ≤ (x4_1 : Int) := of_decide_eq_true (by first | (with_reducible assumption) | assumption)
          have q101 : x4_1 < (l0.length : Int) := of_decide_eq_true (by first | (with_reducible assumption) | assumption)
          obtain ⟨ad101, A101_1, c101_1, e101, hx101_0, hx101_1, hl101_1, hi101_1⟩ := at_T144 HR0.out x4_1 p101 q101
          cases e101
          have HR101_1 := Aside0.mk hi101_1
          have HC101_1 := Aside0.mk hl101_1
          clear hi101_1 hl101_1
          replace p101 := eq_true p101
          replace q101 := eq_true q101
          go_wp2
          go_roundg k1
          case measure => have := HK1.out; omega
          case rel => exact ⟨(wrap64 (x3_1 + (((rd_T144 l0 x4_1).f1).length : Int))), (wrap64 (x4_1 + 1)), (by first | rfl | (simp; done) | (simp [*]; done)), (by first | rfl | (simp; done) | (simp [*]; done)), H', ⟨by have := HK1.out; omega⟩, by repeat (first | exact Drawn0.refl _ | apply Drawn0.step)⟩
        · rw [if_neg c3] at H
          exact absurd H (by simp)
      · rw [if_neg c2] at H
        have c2b0 : decide (x4_1 < (l0.length : Int)) = false := decide_eq_false c2
        clear c2
        by_cases c4 : (l0.length : Int) ≤ 100
        · rw [if_pos c4] at H
          have c4b0 : decide ((l0.length : Int) ≤ 100) = true := decide_eq_true c4
          have c4b1 : decide (l0.length ≤ 100) = true := decide_eq_true (by omega)
          clear c4
          obtain rfl := Option.some.inj H
          go_wp2
          go_ret
          exact ⟨by first | rfl | (simp; done) | (simp [*]; done), by repeat (first | exact Drawn0.refl _ | apply Drawn0.step)⟩
        · rw [if_neg c4] at H
          have c4b0 : decide ((l0.length : Int) ≤ 100) = false := decide_eq_false c4
          have c4b1 : decide (l0.length ≤ 100) = false := decide_eq_false (by omega)
          clear c4
          obtain rfl := Option.some.inj H
          go_wp2
          go_ret
          exact ⟨by first | rfl | (simp; done) | (simp [*]; done), by repeat (first | exact Drawn0.refl _ | apply Drawn0.step)⟩

end Go.Proofs.Ytadafplbgophfaa.PA
end
section
-- Written by a program of this seat out of the translation. Not trusted: Lean checks it.
namespace Go.Proofs.Ytadafplbgophfaa.PA
open Go.RowKit Go.Proofs.YtadafplbgophfaaW.PrintWords Go.Proofs.YtadafplbgophfaaW.PrintLast Go.Proofs.YtadafplbgophfaaW.PrintMore
attribute [local go_sem] max2_int min2_int max_two min_two max_three min_three max_four min_four   -- for this text's walks alone
set_option linter.unusedVariables false
set_option linter.unusedSimpArgs false

/-! ### tripartitelaw04_To: function 43 -/
def tripartitelaw04_To.l0 : Nat → List (S144) → List (S143) → Int → Option ((List (S143)))
  | 0, _, _, _ => none
  | k + 1, x0, x3, x4 => if x4 < (x0.length : Int) then (if 0 ≤ x4 then ((some (([] : List ByteArray) : List ByteArray)).bind fun y102 => (if y102.length + ((rd_T144 x0 x4).f1).length < 8796093022208 then (if x3.length < 4398046511104 then (tripartitelaw04_To.l0 k x0 (x3 ++ [(⟨(rd_T144 x0 x4).f0, (y102 ++ ((rd_T144 x0 x4).f1))⟩ : S143)]) (wrap64 (x4 + 1))) else (none)) else (none))) else (none)) else (some x3)
def tripartitelaw04_To.f (k : Nat) (l0 : List (S144)) : Option ((List (S143))) := tripartitelaw04_To.l0 k l0 ([] : List (S143)) 0
theorem tripartitelaw04_To.mono_l : ∀ k, (∀ y0 y1 y2, LeO (tripartitelaw04_To.l0 k y0 y1 y2) (tripartitelaw04_To.l0 (k + 1) y0 y1 y2))
  | 0 => fun _ _ _ r h => by simp [tripartitelaw04_To.l0] at h
  | k + 1 => by
    have ih0 := tripartitelaw04_To.mono_l k
    · intro y0 y1 y2
      unfold tripartitelaw04_To.l0
      repeat' first
      | (with_reducible exact ih0 _ _ _)
      | (with_reducible exact LeO.refl _)
      | (with_reducible exact LeO.none _)
      | (with_reducible refine LeO.ite ?_ ?_)
      | (with_reducible refine LeO.bind ?_ (fun _ => ?_))
      | exact ih0 _ _ _
      | exact LeO.none _
      | refine LeO.ite ?_ ?_
      | refine LeO.bind ?_ (fun _ => ?_)
theorem tripartitelaw04_To.mono : ∀ a0 k, LeO (tripartitelaw04_To.f k a0) (tripartitelaw04_To.f (k + 1) a0) := by
  intro a0 k
  have ih0 := tripartitelaw04_To.mono_l k
  unfold tripartitelaw04_To.f
  repeat' first
      | (with_reducible exact ih0 _ _ _)
      | (with_reducible exact LeO.refl _)
      | (with_reducible exact LeO.none _)
      | (with_reducible refine LeO.ite ?_ ?_)
      | (with_reducible refine LeO.bind ?_ (fun _ => ?_))
      | exact ih0 _ _ _
      | exact LeO.none _
      | refine LeO.ite ?_ ?_
      | refine LeO.bind ?_ (fun _ => ?_)
def tripartitelaw04_To.T5 : Bool × List (List Nat × List Nat) := (true, [([], []), ([], []), ([], []), ([1, 2], [1, 2]), ([3], [3]), ([4], [4]), ([], []), ([], []), ([], []), ([7, 8], [7, 8]), ([9], [9]), ([10], [10]), ([6, 11], [6, 11]), ([5, 12], [5, 12]), ([13], [13]), ([0, 14, 12], [0, 14]), ([15, 15, 0, 1, 2, 3, 4, 5, 6, 7, 8, 9, 10, 11, 12, 13, 14, 15], [0, 15])])
def tripartitelaw04_To.B5 : List Nat := [0, 0, 0, 6, 14, 30, 0, 0, 0, 384, 896, 1920, 4032, 8190, 16382, 32767, 65535]
theorem tripartitelaw04_To.tab5 : rtab .any (opsOf Try.f43 5) = tripartitelaw04_To.T5 := by kernel_rfl
theorem tripartitelaw04_To.bits5 : waitsOk tripartitelaw04_To.T5.2 tripartitelaw04_To.B5 = true := by kernel_rfl
set_option maxHeartbeats 8000000 in
set_option maxRecDepth 100000 in
theorem tripartitelaw04_To.calls (k : Nat) (A0 : Option Addr) (c0 : Nat) (l0 : List (S144)) (r : List (S143)) (w : World) (hr0 : Kd.C k144 w A0 l0.length l0) (hc0 : l0.length ≤ c0) (h : tripartitelaw04_To.f k l0 = some r) :
    Calls Try.prog 43 #[.slice A0 l0.length c0] w fun e w' => ∃ v0_ : Value, e = .returned (v0_) ∧ Kd.S k143 143 w' w.heap.size (fun _ => True) v0_ r ∧ Below w.heap.size w w' := by
  have hu143 := Try.underlying143
  have HR0 := Aside0.mk hr0
  have HC0 := Aside0.mk hc0
  clear hr0 hc0
  have HB := Aside0.mk (Below.refl w.heap.size w)
  have H : (tripartitelaw04_To.l0 k l0 ([] : List (S143)) 0) = some r := h
  clear h
  have H' := Aside0.mk H
  clear H
  go_enter Try.func43, Try.ntmps43
  go_wp2
  go_loopg [3, 4] k (fun kq v3 v4 w' => ∃ (x3_1 : List (S143)) (x4_1 : Int), v4 = .int .i64 x4_1 ∧ Aside0 (tripartitelaw04_To.l0 kq l0 x3_1 x4_1 = some r) ∧ Aside0 (kq ≤ k) ∧ Aside0 (Kd.S k143 143 w' w.heap.size (fun _ => True) v3 x3_1) ∧ Aside0 (Below w.heap.size w w'))
  case atStart => exact ⟨(([] : List (S143))), (0), (by first | rfl | (simp; done) | (simp [*]; done)), H', ⟨Nat.le_refl _⟩, ⟨by first | exact Kd.S_nil _ _ _ _ _ | exact Kd.N_nil _ _ _ _ _ | exact Kd.V_nil _ _ _ _ _ | exact Kd.Q_nil _ _ _ _ _ | exact Kd.R_nil _ _ _ _ _⟩, ⟨by repeat (first | (with_reducible first | exact HB.out | apply below_alloc | apply pw_below_drewN | apply below_drew1) | exact HB.out)⟩⟩
  case round =>
    clear H'
    obtain ⟨x3_1, x4_1, rfl, HA, HK1, HO_3, HB⟩ := hrel
    cases gk with
    | zero => exact absurd HA.out (by simp [tripartitelaw04_To.l0])
    | succ k1 =>
      have H := HA.out
      clear HA
      simp only [tripartitelaw04_To.l0] at H
      by_cases c2 : x4_1 < (l0.length : Int)
      · rw [if_pos c2] at H
        have c2b0 : decide (x4_1 < (l0.length : Int)) = true := decide_eq_true c2
        clear c2
        by_cases c3 : 0 ≤ x4_1
        · rw [if_pos c3] at H
          have c3b0 : decide (0 ≤ x4_1) = true := decide_eq_true c3
          clear c3
          obtain ⟨y102, hy102⟩ : ∃ y_ : List ByteArray, y_ = (([] : List ByteArray)) := ⟨_, rfl⟩
          replace H : (if y102.length + ((rd_T144 l0 x4_1).f1).length < 8796093022208 then (if x3_1.length < 4398046511104 then (tripartitelaw04_To.l0 k1 l0 (x3_1 ++ [(⟨(rd_T144 l0 x4_1).f0, (y102 ++ ((rd_T144 l0 x4_1).f1))⟩ : S143)]) (wrap64 (x4_1 + 1))) else (none)) else (none)) = some r := by first | (rw [hy102]; with_reducible exact H) | (have H2_ := (Option.bind_some _ _).symm.trans H; rw [hy102]; with_reducible exact H2_) | (have H2_ := (Option.bind_some _ _).symm.trans H; with_reducible exact H2_) | with_reducible exact H | (rw [hy102]; exact H) | exact H
          have Ny102 := Aside0.mk hy102
          clear hy102
          by_cases c4 : y102.length + ((rd_T144 l0 x4_1).f1).length < 8796093022208
          · rw [if_pos c4] at H
            have LMc4 := Aside0.mk c4
            clear c4
            obtain ⟨y106, hy106⟩ : ∃ y_ : List ByteArray, y_ = (y102 ++ ((rd_T144 l0 x4_1).f1)) := ⟨_, rfl⟩
            replace H : (if x3_1.length < 4398046511104 then (tripartitelaw04_To.l0 k1 l0 (x3_1 ++ [(⟨(rd_T144 l0 x4_1).f0, y106⟩ : S143)]) (wrap64 (x4_1 + 1))) else (none)) = some r := by first | (rw [hy106]; with_reducible exact H) | (have H2_ := (Option.bind_some _ _).symm.trans H; rw [hy106]; with_reducible exact H2_) | (have H2_ := (Option.bind_some _ _).symm.trans H; with_reducible exact H2_) | with_reducible exact H | (rw [hy106]; exact H) | exact H
            have Ny106 := Aside0.mk hy106
            clear hy106
            by_cases c5 : x3_1.length < 4398046511104
            · rw [if_pos c5] at H
              have LMc5 := Aside0.mk c5
              clear c5
              obtain ⟨y109, hy109⟩ : ∃ y_ : List (S143), y_ = (x3_1 ++ [(⟨(rd_T144 l0 x4_1).f0, y106⟩ : S143)]) := ⟨_, rfl⟩
              replace H : (tripartitelaw04_To.l0 k1 l0 y109 (wrap64 (x4_1 + 1))) = some r := by first | (rw [hy109]; with_reducible exact H) | (have H2_ := (Option.bind_some _ _).symm.trans H; rw [hy109]; with_reducible exact H2_) | (have H2_ := (Option.bind_some _ _).symm.trans H; with_reducible exact H2_) | with_reducible exact H | (rw [hy109]; exact H) | exact H
              have Ny109 := Aside0.mk hy109
              clear hy109
              have H' := Aside0.mk H
              clear H
              try go_wp2
              have n0_ := Aside0.mk (Kd.S_drew HO_3.out)
              have n1_ := Aside0.mk (below_drew1 HB.out)
              clear HO_3
              clear HB
              have HO_3 := n0_
              have HB := n1_
              clear n0_ n1_
              have p101 : 0 ≤ (x4_1 : Int) := of_decide_eq_true (by first | (with_reducible assumption) | assumption)
              have q101 : x4_1 < (l0.length : Int) := of_decide_eq_true (by first | (with_reducible assumption) | assumption)
              obtain ⟨ad101, A101_1, c101_1, e101, hx101_0, hx101_1, hl101_1, hi101_1⟩ := at_T144 HR0.out x4_1 p101 q101
              have hw101_1 := hx101_1
              have hw101_0 := hx101_0
              cases e101
              replace hx101_0 := (HB.out.cell (World.block_lt_of_cell? w _ hx101_0)).trans hx101_0
              replace hx101_1 := (HB.out.cell (World.block_lt_of_cell? w _ hx101_1)).trans hx101_1
              have HR101_1 := Aside0.mk hi101_1
              have HC101_1 := Aside0.mk hl101_1
              clear hi101_1 hl101_1
              replace p101 := eq_true p101
              replace q101 := eq_true q101
              have p105 : 0 ≤ (x4_1 : Int) := of_decide_eq_true (by first | (with_reducible assumption) | assumption)
              have q105 : x4_1 < (l0.length : Int) := of_decide_eq_true (by first | (with_reducible assumption) | assumption)
              obtain ⟨ad105, A105_1, c105_1, e105, hx105_0, hx105_1, hl105_1, hi105_1⟩ := at_T144 HR0.out x4_1 p105 q105
              have hw105_1 := hx105_1
              have hw105_0 := hx105_0
              obtain rfl : ad101 = ad105 := (by injection e105)
              replace hx105_0 := (HB.out.cell (World.block_lt_of_cell? w _ hx105_0)).trans hx105_0
              replace hx105_1 := (HB.out.cell (World.block_lt_of_cell? w _ hx105_1)).trans hx105_1
              have HR105_1 := Aside0.mk hi105_1
              have HC105_1 := Aside0.mk hl105_1
              clear hi105_1 hl105_1
              replace p105 := eq_true p105
              replace q105 := eq_true q105
              have ea_ := Option.some.inj (hx101_1.symm.trans hx105_1)
              injection ea_ with ea_ en_ ec_
              subst ea_
              subst ec_
              clear en_
              refine start_ (n := 17) (S := fun w' => w'.cell? (ad101.add ((x4_1).toNat * 2)) = some (.int .i64 ((rd_T144 l0 x4_1).f0)) ∧ w'.cell? ⟨(ad101.add ((x4_1).toNat * 2)).block, (ad101.add ((x4_1).toNat * 2)).off + 1, none⟩ = some (.slice A101_1 ((rd_T144 l0 x4_1).f1).length c101_1) ∧ w'.cell? (ad101.add ((x4_1).toNat * 2)) = some (.int .i64 ((rd_T144 l0 x4_1).f0)) ∧ w'.cell? ⟨(ad101.add ((x4_1).toNat * 2)).block, (ad101.add ((x4_1).toNat * 2)).off + 1, none⟩ = some (.slice A101_1 ((rd_T144 l0 x4_1).f1).length c101_1)) (ds := []) #[false, false, false, false, false, false, false, false, false, false, false, false, false, false, false, false, false] (by kernel_rfl) rfl rfl ⟨((HB.out.cell (World.block_lt_of_cell? w _ hw101_0)).trans hw101_0), ((HB.out.cell (World.block_lt_of_cell? w _ hw101_1)).trans hw101_1), ((HB.out.cell (World.block_lt_of_cell? w _ hw105_0)).trans hw105_0), ((HB.out.cell (World.block_lt_of_cell? w _ hw105_1)).trans hw105_1)⟩ (fun hHeld => ?_); refine with_tabW tripartitelaw04_To.tab5 tripartitelaw04_To.bits5 (fun HT_ HW_ => ?_)
              generalize wr.drew = w6 at HO_3 HB HR101_1 HR105_1 hx101_0 hx101_1 hx105_0 hx105_1 hHeld ⊢
              refine pure_ (i := 0) (N := some 11) (v := ?_) (a' := ?_) #[true, false, false, false, false, false, false, false, false, false, false, false, false, false, false, false, false] rfl rfl (any_of HT_.out (by kernel_rfl)) (fun _ _ _ h => h) (Or.inl ⟨by rfl, ?_⟩) ?_ ?_
              rotate_left
              · intro w'
                go_simp
                with_reducible rfl
              rotate_left
              · simp only [Act.put, List.setIfInBounds_toArray, List.set_cons_zero, List.set_cons_succ, i64_w, i32_w]
                rfl
              refine pure_ (i := 1) (N := some 12) (v := ?_) (a' := ?_) #[true, true, false, false, false, false, false, false, false, false, false, false, false, false, false, false, false] rfl rfl (any_of HT_.out (by kernel_rfl)) (fun _ _ _ h => h) (Or.inl ⟨by rfl, ?_⟩) ?_ ?_
              rotate_left
              · intro w'
                go_simp
                with_reducible rfl
              rotate_left
              · simp only [Act.put, List.setIfInBounds_toArray, List.set_cons_zero, List.set_cons_succ, i64_w, i32_w]
                rfl
              refine pure_ (i := 2) (N := some 13) (v := ?_) (a' := ?_) #[true, true, true, false, false, false, false, false, false, false, false, false, false, false, false, false, false] rfl rfl (any_of HT_.out (by kernel_rfl)) (fun _ _ _ h => h) (Or.inl ⟨by rfl, ?_⟩) ?_ ?_
              rotate_left
              · intro w'
                go_simp
                with_reducible rfl
              rotate_left
              · simp only [Act.put, List.setIfInBounds_toArray, List.set_cons_zero, List.set_cons_succ, i64_w, i32_w]
                rfl
              refine pure_ (i := 3) (N := some 14) (v := ?_) (a' := ?_) #[true, true, true, true, false, false, false, false, false, false, false, false, false, false, false, false, false] rfl rfl (any_of HT_.out (by kernel_rfl)) (fun _ _ _ h => h) (Or.inl ⟨by rfl, ?_⟩) ?_ ?_
              rotate_left
              · intro w'
                go_simp
                with_reducible rfl
              rotate_left
              · simp only [Act.put, List.setIfInBounds_toArray, List.set_cons_zero, List.set_cons_succ, i64_w, i32_w]
                rfl
              refine pure_ (i := 4) (N := some 15) (v := ?_) (a' := ?_) #[true, true, true, true, true, false, false, false, false, false, false, false, false, false, false, false, false] rfl rfl (any_of HT_.out (by kernel_rfl)) (fun _ _ _ h => h) (Or.inl ⟨by rfl, ?_⟩) ?_ ?_
              rotate_left
              · intro w'
                go_simp
                with_reducible rfl
              rotate_left
              · simp only [Act.put, List.setIfInBounds_toArray, List.set_cons_zero, List.set_cons_succ, i64_w, i32_w]
                rfl
              refine pure_ (i := 7) (N := some 18) (v := ?_) (a' := ?_) #[true, true, true, true, true, false, false, true, false, false, false, false, false, false, false, false, false] rfl rfl (any_of HT_.out (by kernel_rfl)) (fun _ _ _ h => h) (Or.inl ⟨by rfl, ?_⟩) ?_ ?_
              rotate_left
              · intro w'
                go_simp
                with_reducible rfl
              rotate_left
              · simp only [Act.put, List.setIfInBounds_toArray, List.set_cons_zero, List.set_cons_succ, i64_w, i32_w]
                rfl
              refine pure_ (i := 8) (N := some 19) (v := ?_) (a' := ?_) #[true, true, true, true, true, false, false, true, true, false, false, false, false, false, false, false, false] rfl rfl (any_of HT_.out (by kernel_rfl)) (fun _ _ _ h => h) (Or.inl ⟨by rfl, ?_⟩) ?_ ?_
              rotate_left
              · intro w'
                go_simp
                with_reducible rfl
              rotate_left
              · simp only [Act.put, List.setIfInBounds_toArray, List.set_cons_zero, List.set_cons_succ, i64_w, i32_w]
                rfl
              refine pure_ (i := 9) (N := some 20) (v := ?_) (a' := ?_) #[true, true, true, true, true, false, false, true, true, true, false, false, false, false, false, false, false] rfl rfl (any_of HT_.out (by kernel_rfl)) (fun _ _ _ h => h) (Or.inl ⟨by rfl, ?_⟩) ?_ ?_
              rotate_left
              · intro w'
                go_simp
                with_reducible rfl
              rotate_left
              · simp only [Act.put, List.setIfInBounds_toArray, List.set_cons_zero, List.set_cons_succ, i64_w, i32_w]
                rfl
              refine pure_ (i := 10) (N := some 21) (v := ?_) (a' := ?_) #[true, true, true, true, true, false, false, true, true, true, true, false, false, false, false, false, false] rfl rfl (any_of HT_.out (by kernel_rfl)) (fun _ _ _ h => h) (Or.inl ⟨by rfl, ?_⟩) ?_ ?_
              rotate_left
              · intro w'
                go_simp
                with_reducible rfl
              rotate_left
              · simp only [Act.put, List.setIfInBounds_toArray, List.set_cons_zero, List.set_cons_succ, i64_w, i32_w]
                rfl
              refine take_ (i := 5) (N := some 16) (v := ?_) (a' := ?_) #[true, true, true, true, true, true, false, true, true, true, true, false, false, false, false, false, false] rfl rfl (take_ofW HT_.out HW_.out (by kernel_rfl)) (fun _ _ _ h => h) (Or.inl ⟨by rfl, ?_⟩) hHeld ?_ ?_
              rotate_left
              · rintro w' ⟨s0, s1, s2, s3⟩
                go_simp
                with_reducible rfl
              rotate_left
              · simp only [Act.put, List.setIfInBounds_toArray, List.set_cons_zero, List.set_cons_succ, i64_w, i32_w]
                rfl
              refine take_ (i := 11) (N := some 22) (v := ?_) (a' := ?_) #[true, true, true, true, true, true, false, true, true, true, true, true, false, false, false, false, false] rfl rfl (take_ofW HT_.out HW_.out (by kernel_rfl)) (fun _ _ _ h => h) (Or.inl ⟨by rfl, ?_⟩) hHeld ?_ ?_
              rotate_left
              · rintro w' ⟨s0, s1, s2, s3⟩
                go_simp
                with_reducible rfl
              rotate_left
              · simp only [Act.put, List.setIfInBounds_toArray, List.set_cons_zero, List.set_cons_succ, i64_w, i32_w]
                rfl
              refine one_ (i := 6) (N := some 17) #[true, true, true, true, true, true, true, true, true, true, true, true, false, false, false, false, false] rfl rfl (one_of HT_.out (by kernel_rfl)) (by decide) (fun K hK => ?_)
              refine Kd.R_lit_step Kd.string _ 9 ?hg (N := 17) ?hd (xs := ([] : List ByteArray)) (inner := []) (ok := fun _ => True) (okp := fun _ => True) ?hr ?hp (fun _ hk => hk) trivial (Below.refl _ _) (Nat.le_refl _) (by simp) ?_; (case hd => rfl); (case hg => rfl); (case hr => first | (go_simp; done) | (go_simp; rfl)); (case hp => exact (Reps.none _ _))
              intro v103 w7 ho8 hb hg_ hnew_
              clear hg_ hnew_
              (first | rw [← Ny102.out] at ho8 | (simp only [Int.reduceToNat] at ho8; rw [← Ny102.out] at ho8))
              have n0_ := Aside0.mk (Kd.S_elder' (by (with_reducible repeat (first | apply Kd.S_alloc | apply Kd.S_drewN | apply Kd.S_drew)); exact HO_3.out) (Kd.R_base ho8) hb)
              have n1_ := Aside0.mk (Kd.R_lower ho8 (below_size (by repeat (first | (with_reducible first | exact HB.out | apply below_alloc | apply pw_below_drewN | apply below_drew1) | exact HB.out))))
              have n2_ := Aside0.mk (below_step (by repeat (first | (with_reducible first | exact HB.out | apply below_alloc | apply pw_below_drewN | apply below_drew1) | exact HB.out)) hb)
              clear HO_3
              clear HB
              have HO_3 := n0_
              have HO104 := n1_
              have HB := n2_
              clear n0_ n1_ n2_
              clear hb ho8
              refine hK.out _ _ ⟨((HB.out.cell (World.block_lt_of_cell? w _ hw101_0)).trans hw101_0), ((HB.out.cell (World.block_lt_of_cell? w _ hw101_1)).trans hw101_1), ((HB.out.cell (World.block_lt_of_cell? w _ hw105_0)).trans hw105_0), ((HB.out.cell (World.block_lt_of_cell? w _ hw105_1)).trans hw105_1)⟩ (fun hHeld => ?_)
              clear hK K
              refine norm_ (a' := ?_) ?_ ?_
              rotate_left
              · show Act.put _ (some 17) _ = _
                simp only [Act.put, List.setIfInBounds_toArray, List.set_cons_zero, List.set_cons_succ, i64_w, i32_w]
                rfl
              refine one_ (i := 12) (N := some 23) #[true, true, true, true, true, true, true, true, true, true, true, true, true, false, false, false, false] rfl rfl (one_of HT_.out (by kernel_rfl)) (by decide) (fun K hK => ?_)
              refine Kd.R_append_rows_step Kd.string (w0 := w) w.heap.size (by rfl) (.tmp 17) (.tmp 22) 27 9 (.string ⟨#[]⟩) 16 rfl Try.underlying27 info9 rfl (by decide) (by omega) v103 y102 ((rd_T144 l0 x4_1).f1) _ _ _ (fun _ => True) (fun _ => False) rfl rfl ?aO ?aR (fun _ _ h => h) (fun _ h => h.elim) ?aF ?aB ?aS ?aL ?_
              (case aR => repeat (first | exact (Kd.C_below HR105_1.out HB.out) | (with_reducible refine Kd.C_alloc ?_ _) | (with_reducible refine Kd.C_drewN ?_ _) | (with_reducible refine Kd.C_drew ?_)))
              (case aB => exact (by repeat (first | (with_reducible first | exact HB.out | apply below_alloc | apply pw_below_drewN | apply below_drew1) | exact HB.out)))
              (case aF => exact (fun _ _ => trivial))
              (case aO => exact (by (with_reducible repeat (first | apply Kd.R_alloc | apply Kd.R_drewN | apply Kd.R_drew)); exact HO104.out))
              (case aS => exact (below_size (by repeat (first | (with_reducible first | exact HB.out | apply below_alloc | apply pw_below_drewN | apply below_drew1) | exact HB.out))))
              (case aL => have := LMc4.out; omega)
              intro v107 w9 ho hb hg hat
              rw [← Ny106.out] at ho
              have n0_ := Aside0.mk (Kd.S_after (ok := (fun _ => True)) (by (with_reducible repeat (first | apply Kd.S_alloc | apply Kd.S_drewN | apply Kd.S_drew)); exact HO_3.out) hg hat)
              have n1_ := Aside0.mk (hb)
              have n2_ := Aside0.mk (ho)
              clear HO_3
              clear HB
              clear HO104
              have HO_3 := n0_
              have HB := n1_
              have HO108 := n2_
              clear n0_ n1_ n2_
              clear ho hb hg hat
              obtain ⟨Ao10, co10, eo10⟩ := Kd.R_slice HO108.out
              (first | subst eo10 | (injection eo10 with f1_ f2_ f3_; have f4_ := f1_.symm; have f5_ := f3_.symm; clear f1_ f2_ f3_; subst f4_; subst f5_))
              refine hK.out _ _ ⟨((HB.out.cell (World.block_lt_of_cell? w _ hw101_0)).trans hw101_0), ((HB.out.cell (World.block_lt_of_cell? w _ hw101_1)).trans hw101_1), ((HB.out.cell (World.block_lt_of_cell? w _ hw105_0)).trans hw105_0), ((HB.out.cell (World.block_lt_of_cell? w _ hw105_1)).trans hw105_1)⟩ (fun hHeld => ?_)
              clear hK K
              refine norm_ (a' := ?_) ?_ ?_
              rotate_left
              · show Act.put _ (some 23) _ = _
                simp only [Act.put, List.setIfInBounds_toArray, List.set_cons_zero, List.set_cons_succ, i64_w, i32_w]
                rfl
              refine pure_ (i := 13) (N := some 24) (v := ?_) (a' := ?_) #[true, true, true, true, true, true, true, true, true, true, true, true, true, true, false, false, false] rfl rfl (any_of HT_.out (by kernel_rfl)) (fun _ _ _ h => h) (Or.inl ⟨by rfl, ?_⟩) ?_ ?_
              rotate_left
              · intro w'
                go_simp
                with_reducible rfl
              rotate_left
              · simp only [Act.put, List.setIfInBounds_toArray, List.set_cons_zero, List.set_cons_succ, i64_w, i32_w]
                rfl
              refine one_ (i := 14) (N := some 25) #[true, true, true, true, true, true, true, true, true, true, true, true, true, true, true, false, false] rfl rfl (one_of HT_.out (by kernel_rfl)) (by decide) (fun K hK => ?_)
              refine value_ (w1 := ?_) (v := ?_) (by rfl) rfl ?_ ?_
              rotate_left 2
              · go_simp
                constructor
                · rfl
                · rfl
              refine hK.out _ _ ⟨(World.cell?_alloc_lt _ _ _ (World.block_lt_of_cell? _ _ (((HB.out.cell (World.block_lt_of_cell? w _ hw101_0)).trans hw101_0)))).trans (((HB.out.cell (World.block_lt_of_cell? w _ hw101_0)).trans hw101_0)), (World.cell?_alloc_lt _ _ _ (World.block_lt_of_cell? _ _ (((HB.out.cell (World.block_lt_of_cell? w _ hw101_1)).trans hw101_1)))).trans (((HB.out.cell (World.block_lt_of_cell? w _ hw101_1)).trans hw101_1)), (World.cell?_alloc_lt _ _ _ (World.block_lt_of_cell? _ _ (((HB.out.cell (World.block_lt_of_cell? w _ hw105_0)).trans hw105_0)))).trans (((HB.out.cell (World.block_lt_of_cell? w _ hw105_0)).trans hw105_0)), (World.cell?_alloc_lt _ _ _ (World.block_lt_of_cell? _ _ (((HB.out.cell (World.block_lt_of_cell? w _ hw105_1)).trans hw105_1)))).trans (((HB.out.cell (World.block_lt_of_cell? w _ hw105_1)).trans hw105_1))⟩ (fun hHeld => ?_)
              clear hK K
              refine norm_ (a' := ?_) ?_ ?_
              rotate_left
              · show Act.put _ (some 25) _ = _
                simp only [Act.put, List.setIfInBounds_toArray, List.set_cons_zero, List.set_cons_succ, i64_w, i32_w]
                rfl
              refine one_ (i := 15) (N := some 26) #[true, true, true, true, true, true, true, true, true, true, true, true, true, true, true, true, false] rfl rfl (one_of HT_.out (by kernel_rfl)) (by decide) (fun K hK => ?_)
              refine Kd.S_append_step k143 (w0 := w) w.heap.size (by rfl) (.tmp 11) (.tmp 25) 44 143 (.agg #[(.int .i64 0), (.slice none 0 0)]) 32 rfl Try.underlying44 info143 rfl (by decide) (by omega) u3 x3_1 (⟨(rd_T144 l0 x4_1).f0, y106⟩ : S143) [.int .i64 ((rd_T144 l0 x4_1).f0), .slice Ao10 y106.length co10] (fun _ => True) (fun k_ => some k_ = (.slice Ao10 y106.length co10 : Value).ownBlock) rfl rfl ?aP (fun k_ hk_ => ((Kd.R_mono (ok' := fun k_ => ((fun _ => True)) k_ ∧ some k_ ≠ (u3 : Value).ownBlock) (Kd.R_apart' (HO108.out) (Kd.S_typed HO_3.out) (by decide)) (fun k_ hk => ⟨trivial, hk.2⟩))).1 k_ hk_.symm) ?aF ?aO ?aB ?aS ?aL ?_
              (case aP => exact k143_mkM _ _ _ (⟨(rd_T144 l0 x4_1).f0, y106⟩ : S143) (Kd.R_mono (Kd.R_tight rfl (Kd.R_mono (ok' := fun k_ => ((fun _ => True)) k_ ∧ some k_ ≠ (u3 : Value).ownBlock) (Kd.R_apart' (HO108.out) (Kd.S_typed HO_3.out) (by decide)) (fun k_ hk => ⟨trivial, hk.2⟩))) (fun _ h_ => h_)))
              (case aB => exact (by repeat (first | (with_reducible first | exact HB.out | apply below_alloc | apply pw_below_drewN | apply below_drew1) | exact HB.out)))
              (case aF => exact (fun _ _ => trivial))
              (case aO => exact (by (with_reducible repeat (first | apply Kd.S_alloc | apply Kd.S_drewN | apply Kd.S_drew)); exact Kd.S_mono HO_3.out (fun k_ hk => ⟨trivial, fun e_ => hk.2 e_⟩)))
              (case aS => exact (below_size (by repeat (first | (with_reducible first | exact HB.out | apply below_alloc | apply pw_below_drewN | apply below_drew1) | exact HB.out))))
              (case aL => have := LMc5.out; omega)
              intro v110 w11 ho hb hg hat
              rw [← Ny109.out] at ho
              have n0_ := Aside0.mk (hb)
              have n1_ := Aside0.mk (ho)
              clear HB
              clear HO_3
              clear HO108
              have HB := n0_
              have HO111 := n1_
              clear n0_ n1_
              clear ho hb hg hat
              refine hK.out _ _ ⟨((HB.out.cell (World.block_lt_of_cell? w _ hw101_0)).trans hw101_0), ((HB.out.cell (World.block_lt_of_cell? w _ hw101_1)).trans hw101_1), ((HB.out.cell (World.block_lt_of_cell? w _ hw105_0)).trans hw105_0), ((HB.out.cell (World.block_lt_of_cell? w _ hw105_1)).trans hw105_1)⟩ (fun hHeld => ?_)
              clear hK K
              refine norm_ (a' := ?_) ?_ ?_
              rotate_left
              · show Act.put _ (some 26) _ = _
                simp only [Act.put, List.setIfInBounds_toArray, List.set_cons_zero, List.set_cons_succ, i64_w, i32_w]
                rfl
              refine pure_ (i := 16) (N := some 3) (v := ?_) (a' := ?_) #[true, true, true, true, true, true, true, true, true, true, true, true, true, true, true, true, true] rfl rfl (any_of HT_.out (by kernel_rfl)) (fun _ _ _ h => h) (Or.inl ⟨by rfl, ?_⟩) ?_ ?_
              rotate_left
              · intro w'
                go_simp
                with_reducible rfl
              rotate_left
              · simp only [Act.put, List.setIfInBounds_toArray, List.set_cons_zero, List.set_cons_succ, i64_w, i32_w]
                rfl
              refine done_ (done_of HT_.out (by kernel_rfl)) ?_
              try go_wp2
              go_roundg k1
              case measure => have := HK1.out; omega
              case rel => exact ⟨(y109), (wrap64 (x4_1 + 1)), (by first | rfl | (simp; done) | (simp [*]; done)), H', ⟨by have := HK1.out; omega⟩, ⟨by (with_reducible repeat (first | apply Kd.S_alloc | apply Kd.S_drewN | apply Kd.S_drew)); exact HO111.out⟩, ⟨by repeat (first | (with_reducible first | exact HB.out | apply below_alloc | apply pw_below_drewN | apply below_drew1) | exact HB.out)⟩⟩
            · rw [if_neg c5] at H
              exact absurd H (by simp)
          · rw [if_neg c4] at H
            exact absurd H (by simp)
        · rw [if_neg c3] at H
          exact absurd H (by simp)
      · rw [if_neg c2] at H
        have c2b0 : decide (x4_1 < (l0.length : Int)) = false := decide_eq_false c2
        clear c2
        obtain rfl := Option.some.inj H
        go_wp2
        go_ret
        exact ⟨_, by first | rfl | (simp [errW_none, errW_some] <;> rfl) | (simp [*, errW_none, errW_some] <;> rfl), by (with_reducible repeat (first | apply Kd.S_alloc | apply Kd.S_drewN | apply Kd.S_drew)); exact HO_3.out, by repeat (first | (with_reducible first | exact HB.out | apply below_alloc | apply pw_below_drewN | apply below_drew1) | exact HB.out)⟩

end Go.Proofs.Ytadafplbgophfaa.PA
end
section
-- Written by a program of this seat out of the translation. Not trusted: Lean checks it.
namespace Go.Proofs.Ytadafplbgophfaa.PA
open Go.RowKit Go.Proofs.YtadafplbgophfaaW.PrintWords Go.Proofs.YtadafplbgophfaaW.PrintLast Go.Proofs.YtadafplbgophfaaW.PrintMore
attribute [local go_sem] max2_int min2_int max_two min_two max_three min_three max_four min_four   -- for this text's walks alone
set_option linter.unusedVariables false
set_option linter.unusedSimpArgs false

/-! ### tripartiteref04_Right: function 45 -/
mutual
def tripartiteref04_Right.l0 : Nat → List (S144) → Int → Option (Bool)
  | 0, _, _ => none
  | k + 1, x0, x3 => if x3 < (x0.length : Int) then (if 0 ≤ x3 then (if ((rd_T144 x0 x3).f0) < 0 then (tripartiteref04_Right.j1 k x0 x3 true) else (if ((rd_T144 x0 x3).f0) > 2 then (tripartiteref04_Right.j1 k x0 x3 true) else (tripartiteref04_Right.j1 k x0 x3 ((((rd_T144 x0 x3).f1).length : Int) == 0)))) else (none)) else (some true)
def tripartiteref04_Right.j1 : Nat → List (S144) → Int → Bool → Option (Bool)
  | 0, _, _, _ => none
  | k + 1, x0, x3, x32 => if x32 = true then (some false) else (if x3 > 0 then (if 0 ≤ (wrap64 (x3 - 1)) then (if (wrap64 (x3 - 1)) < (x0.length : Int) then (if 0 ≤ x3 then (if x3 < (x0.length : Int) then (if ((rd_T144 x0 (wrap64 (x3 - 1))).f0) = ((rd_T144 x0 x3).f0) then (some false) else (if ((rd_T144 x0 (wrap64 (x3 - 1))).f0) = 2 then (if ((rd_T144 x0 x3).f0) = 1 then (some false) else (tripartiteref04_Right.l0 k x0 (wrap64 (x3 + 1)))) else (tripartiteref04_Right.l0 k x0 (wrap64 (x3 + 1))))) else (none)) else (none)) else (none)) else (none)) else (tripartiteref04_Right.l0 k x0 (wrap64 (x3 + 1))))
end
def tripartiteref04_Right.f (k : Nat) (l0 : List (S144)) : Option (Bool) := tripartiteref04_Right.l0 k l0 0
theorem tripartiteref04_Right.mono_l : ∀ k, (∀ y0 y1, LeO (tripartiteref04_Right.l0 k y0 y1) (tripartiteref04_Right.l0 (k + 1) y0 y1)) ∧ (∀ y0 y1 y2, LeO (tripartiteref04_Right.j1 k y0 y1 y2) (tripartiteref04_Right.j1 (k + 1) y0 y1 y2))
  | 0 => ⟨fun _ _ r h => by simp [tripartiteref04_Right.l0] at h, fun _ _ _ r h => by simp [tripartiteref04_Right.j1] at h⟩
  | k + 1 => by
    obtain ⟨ih0, ih1⟩ := tripartiteref04_Right.mono_l k
    refine ⟨?_, ?_⟩
    · intro y0 y1
      unfold tripartiteref04_Right.l0
      repeat' first
      | (with_reducible exact ih0 _ _)
      | (with_reducible exact ih1 _ _ _)
      | (with_reducible exact LeO.refl _)
      | (with_reducible exact LeO.none _)
      | (with_reducible refine LeO.ite ?_ ?_)
      | (with_reducible refine LeO.bind ?_ (fun _ => ?_))
      | exact ih0 _ _
      | exact ih1 _ _ _
      | exact LeO.none _
      | refine LeO.ite ?_ ?_
      | refine LeO.bind ?_ (fun _ => ?_)
    · intro y0 y1 y2
      unfold tripartiteref04_Right.j1
      repeat' first
      | (with_reducible exact ih0 _ _)
      | (with_reducible exact ih1 _ _ _)
      | (with_reducible exact LeO.refl _)
      | (with_reducible exact LeO.none _)
      | (with_reducible refine LeO.ite ?_ ?_)
      | (with_reducible refine LeO.bind ?_ (fun _ => ?_))
      | exact ih0 _ _
      | exact ih1 _ _ _
      | exact LeO.none _
      | refine LeO.ite ?_ ?_
      | refine LeO.bind ?_ (fun _ => ?_)
theorem tripartiteref04_Right.mono : ∀ a0 k, LeO (tripartiteref04_Right.f k a0) (tripartiteref04_Right.f (k + 1) a0) := by
  intro a0 k
  obtain ⟨ih0, ih1⟩ := tripartiteref04_Right.mono_l k
  unfold tripartiteref04_Right.f
  repeat' first
      | (with_reducible exact ih0 _ _)
      | (with_reducible exact ih1 _ _ _)
      | (with_reducible exact LeO.refl _)
      | (with_reducible exact LeO.none _)
      | (with_reducible refine LeO.ite ?_ ?_)
      | (with_reducible refine LeO.bind ?_ (fun _ => ?_))
      | exact ih0 _ _
      | exact ih1 _ _ _
      | exact LeO.none _
      | refine LeO.ite ?_ ?_
      | refine LeO.bind ?_ (fun _ => ?_)
set_option maxHeartbeats 8000000 in
set_option maxRecDepth 100000 in
theorem tripartiteref04_Right.calls (k : Nat) (A0 : Option Addr) (c0 : Nat) (l0 : List (S144)) (r : Bool) (w : World) (hr0 : Kd.C k144 w A0 l0.length l0) (hc0 : l0.length ≤ c0) (h : tripartiteref04_Right.f k l0 = some r) :
    Calls Try.prog 45 #[.slice A0 l0.length c0] w fun e w' => e = .returned (.bool r) ∧ Drawn0 w w' := by
  have HR0 := Aside0.mk hr0
  have HC0 := Aside0.mk hc0
  clear hr0 hc0
  have H : (tripartiteref04_Right.l0 k l0 0) = some r := h
  clear h
  have H' := Aside0.mk H
  clear H
  go_enter Try.func45, Try.ntmps45
  go_wp2
  repeat (go_quiet (fail); try go_wp2)
  go_loopg [3] k (fun kq v3 w' => ∃ (x3_1 : Int), v3 = .int .i64 x3_1 ∧ Aside0 (tripartiteref04_Right.l0 kq l0 x3_1 = some r) ∧ Aside0 (kq ≤ k) ∧ Drawn0 w w')
  case atStart => exact ⟨(0), (by first | rfl | (simp; done) | (simp [*]; done)), H', ⟨Nat.le_refl _⟩, by repeat (first | exact Drawn0.refl _ | apply Drawn0.step)⟩
  case round =>
    clear H'
    obtain ⟨x3_1, rfl, HA, HK1, ⟨m1, rfl⟩⟩ := hrel
    cases gk with
    | zero => exact absurd HA.out (by simp [tripartiteref04_Right.l0])
    | succ k1 =>
      have H := HA.out
      clear HA
      simp only [tripartiteref04_Right.l0] at H
      by_cases c2 : x3_1 < (l0.length : Int)
      · rw [if_pos c2] at H
        have c2b0 : decide (x3_1 < (l0.length : Int)) = true := decide_eq_true c2
        clear c2
        have HC3 := Aside0.mk H
        clear H
        go_upto_region 4 with (fail)
        repeat (go_quiet (fail); go_upto_region 4 with (fail))
        go_cut [32] (fun v32 wc => ∃ (kq : Nat) (x32_2 : Bool), v32 = .bool x32_2 ∧ Aside0 (tripartiteref04_Right.j1 kq l0 x3_1 x32_2 = some r) ∧ Aside0 (kq ≤ k1) ∧ Drawn0 w wc)
        case first =>
          have H := HC3.out
          clear HC3
          by_cases c4 : 0 ≤ x3_1
          · rw [if_pos c4] at H
            have c4b0 : decide (0 ≤ x3_1) = true := decide_eq_true c4
            clear c4
            (first | rw [c4b0] | (simp only [i64_w, i32_w]; rw [c4b0]) | skip)
            by_cases c5 : ((rd_T144 l0 x3_1).f0) < 0
            · rw [if_pos c5] at H
              have c5b0 : decide (((rd_T144 l0 x3_1).f0) < 0) = true := decide_eq_true c5
              clear c5
              have H' := Aside0.mk H
              clear H
              have p101 : 0 ≤ (x3_1 : Int) := of_decide_eq_true (by first | (with_reducible assumption) | assumption)
              have q101 : x3_1 < (l0.length : Int) := of_decide_eq_true (by first | (with_reducible assumption) | assumption)
              obtain ⟨ad101, A101_1, c101_1, e101, hx101_0, hx101_1, hl101_1, hi101_1⟩ := at_T144 HR0.out x3_1 p101 q101
              cases e101
              have HR101_1 := Aside0.mk hi101_1
              have HC101_1 := Aside0.mk hl101_1
              clear hi101_1 hl101_1
              replace p101 := eq_true p101
              replace q101 := eq_true q101
              go_wp2
              repeat (go_quiet (fail); try go_wp2)
              go_meet
              case rel => exact ⟨_, (true), (by first | rfl | (simp; done) | (simp [*]; done)), H', ⟨by have := HK1.out; first | omega | exact Nat.le_refl _⟩, by repeat (first | exact Drawn0.refl _ | apply Drawn0.step)⟩
            · rw [if_neg c5] at H
              have c5b0 : decide (((rd_T144 l0 x3_1).f0) < 0) = false := decide_eq_false c5
              clear c5
              by_cases c6 : ((rd_T144 l0 x3_1).f0) > 2
              · rw [if_pos c6] at H
                have c6b0 : decide (2 < ((rd_T144 l0 x3_1).f0)) = true := decide_eq_true c6
                clear c6
                have H' := Aside0.mk H
                clear H
                have p101 : 0 ≤ (x3_1 : Int) := of_decide_eq_true (by first | (with_reducible assumption) | assumption)
                have q101 : x3_1 < (l0.length : Int) := of_decide_eq_true (by first | (with_reducible assumption) | assumption)
                obtain ⟨ad101, A101_1, c101_1, e101, hx101_0, hx101_1, hl101_1, hi101_1⟩ := at_T144 HR0.out x3_1 p101 q101
                cases e101
                have HR101_1 := Aside0.mk hi101_1
                have HC101_1 := Aside0.mk hl101_1
                clear hi101_1 hl101_1
                replace p101 := eq_true p101
                replace q101 := eq_true q101
                have p102 : 0 ≤ (x3_1 : Int) := of_decide_eq_true (by first | (with_reducible assumption) | assumption)
                have q102 : x3_1 < (l0.length : Int) := of_decide_eq_true (by first | (with_reducible assumption) | assumption)
                obtain ⟨ad102, A102_1, c102_1, e102, hx102_0, hx102_1, hl102_1, hi102_1⟩ := at_T144 HR0.out x3_1 p102 q102
                obtain rfl : ad101 = ad102 := (by injection e102)
                have HR102_1 := Aside0.mk hi102_1
                have HC102_1 := Aside0.mk hl102_1
                clear hi102_1 hl102_1
                replace p102 := eq_true p102
                replace q102 := eq_true q102
                have ea_ := Option.some.inj (hx101_1.symm.trans hx102_1)
                injection ea_ with ea_ en_ ec_
                subst ea_
                subst ec_
                clear en_
                go_wp2
                repeat (go_quiet (fail); try go_wp2)
                go_meet
                case rel => exact ⟨_, (true), (by first | rfl | (simp; done) | (simp [*]; done)), H', ⟨by have := HK1.out; first | omega | exact Nat.le_refl _⟩, by repeat (first | exact Drawn0.refl _ | apply Drawn0.step)⟩
              · rw [if_neg c6] at H
                have c6b0 : decide (2 < ((rd_T144 l0 x3_1).f0)) = false := decide_eq_false c6
                clear c6
                have H' := Aside0.mk H
                clear H
                have p101 : 0 ≤ (x3_1 : Int) := of_decide_eq_true (by first | (with_reducible assumption) | assumption)
                have q101 : x3_1 < (l0.length : Int) := of_decide_eq_true (by first | (with_reducible assumption) | assumption)
                obtain ⟨ad101, A101_1, c101_1, e101, hx101_0, hx101_1, hl101_1, hi101_1⟩ := at_T144 HR0.out x3_1 p101 q101
                cases e101
                have HR101_1 := Aside0.mk hi101_1
                have HC101_1 := Aside0.mk hl101_1
                clear hi101_1 hl101_1
                replace p101 := eq_true p101
                replace q101 := eq_true q101
                have p102 : 0 ≤ (x3_1 : Int) := of_decide_eq_true (by first | (with_reducible assumption) | assumption)
                have q102 : x3_1 < (l0.length : Int) := of_decide_eq_true (by first | (with_reducible assumption) | assumption)
                obtain ⟨ad102, A102_1, c102_1, e102, hx102_0, hx102_1, hl102_1, hi102_1⟩ := at_T144 HR0.out x3_1 p102 q102
                obtain rfl : ad101 = ad102 := (by injection e102)
                have HR102_1 := Aside0.mk hi102_1
                have HC102_1 := Aside0.mk hl102_1
                clear hi102_1 hl102_1
                replace p102 := eq_true p102
                replace q102 := eq_true q102
                have ea_ := Option.some.inj (hx101_1.symm.trans hx102_1)
                injection ea_ with ea_ en_ ec_
                subst ea_
                subst ec_
                clear en_
                have p103 : 0 ≤ (x3_1 : Int) := of_decide_eq_true (by first | (with_reducible assumption) | assumption)
                have q103 : x3_1 < (l0.length : Int) := of_decide_eq_true (by first | (with_reducible assumption) | assumption)
                obtain ⟨ad103, A103_1, c103_1, e103, hx103_0, hx103_1, hl103_1, hi103_1⟩ := at_T144 HR0.out x3_1 p103 q103
                obtain rfl : ad101 = ad103 := (by injection e103)
                have HR103_1 := Aside0.mk hi103_1
                have HC103_1 := Aside0.mk hl103_1
                clear hi103_1 hl103_1
                replace p103 := eq_true p103
                replace q103 := eq_true q103
                have ea_ := Option.some.inj (hx101_1.symm.trans hx103_1)
                injection ea_ with ea_ en_ ec_
                subst ea_
                subst ec_
                clear en_
                go_wp2
                repeat (go_quiet (fail); try go_wp2)
                go_meet
                case rel => exact ⟨_, (((((rd_T144 l0 x3_1).f1).length : Int) == 0)), (by first | rfl | (simp; done) | (simp [*]; done)), H', ⟨by have := HK1.out; first | omega | exact Nat.le_refl _⟩, by repeat (first | exact Drawn0.refl _ | apply Drawn0.step)⟩
          · rw [if_neg c4] at H
            exact absurd H (by simp)
        case rest =>
          clear HC3
          try clear c1
          try clear p1
          try clear q1
          try clear hx1
          try clear c2
          try clear c2b0
          try clear p2
          try clear c4
          try clear c4b0
          try clear c5
          try clear c5b0
          try clear c6
          try clear c6b0
          try clear hx101_0
          try clear hx101_1
          try clear hx102_0
          try clear hx102_1
          try clear hx103_0
          try clear hx103_1
          try clear p101
          try clear p102
          try clear p103
          try clear q101
          try clear q102
          try clear q103
          obtain ⟨kq, x32_2, rfl, HA, HJ2, ⟨mc2, rfl⟩⟩ := hcut
          cases kq with
          | zero => exact absurd HA.out (by simp [tripartiteref04_Right.j1])
          | succ kj2 =>
            have H := HA.out
            clear HA
            simp only [tripartiteref04_Right.j1] at H
            by_cases c7 : x32_2 = true
            · subst c7
              have H1 : (some false) = some r := by rw [if_pos rfl] at H; exact H
              clear H
              have H := H1
              clear H1
              obtain rfl := Option.some.inj H
              go_wp2
              repeat (go_quiet (fail); try go_wp2)
              go_ret
              exact ⟨by first | rfl | (simp; done) | (simp [*]; done), by repeat (first | exact Drawn0.refl _ | apply Drawn0.step)⟩
            · replace c7 := Bool.eq_false_iff.mpr c7
              subst c7
              have H1 : (if x3_1 > 0 then (if 0 ≤ (wrap64 (x3_1 - 1)) then (if (wrap64 (x3_1 - 1)) < (l0.length : Int) then (if 0 ≤ x3_1 then (if x3_1 < (l0.length : Int) then (if ((rd_T144 l0 (wrap64 (x3_1 - 1))).f0) = ((rd_T144 l0 x3_1).f0) then (some false) else (if ((rd_T144 l0 (wrap64 (x3_1 - 1))).f0) = 2 then (if ((rd_T144 l0 x3_1).f0) = 1 then (some false) else (tripartiteref04_Right.l0 kj2 l0 (wrap64 (x3_1 + 1)))) else (tripartiteref04_Right.l0 kj2 l0 (wrap64 (x3_1 + 1))))) else (none)) else (none)) else (none)) else (none)) else (tripartiteref04_Right.l0 kj2 l0 (wrap64 (x3_1 + 1)))) = some r := by rw [if_neg (show ¬ (false = true) by decide)] at H; exact H
              clear H
              have H := H1
              clear H1
              by_cases c8 : x3_1 > 0
              · rw [if_pos c8] at H
                have c8b0 : decide (0 < x3_1) = true := decide_eq_true c8
                clear c8
                obtain ⟨ji9, hji9⟩ : ∃ j_ : Int, (wrap64 (x3_1 - 1)) = j_ := ⟨_, rfl⟩
                replace H : (if 0 ≤ (ji9) then (if (ji9) < (l0.length : Int) then (if 0 ≤ x3_1 then (if x3_1 < (l0.length : Int) then (if ((rd_T144 l0 (ji9)).f0) = ((rd_T144 l0 x3_1).f0) then (some false) else (if ((rd_T144 l0 (ji9)).f0) = 2 then (if ((rd_T144 l0 x3_1).f0) = 1 then (some false) else (tripartiteref04_Right.l0 kj2 l0 (wrap64 (x3_1 + 1)))) else (tripartiteref04_Right.l0 kj2 l0 (wrap64 (x3_1 + 1))))) else (none)) else (none)) else (none)) else (none)) = some r := by first | (rw [hji9] at H; exact H) | (simp only [hji9] at H ⊢; exact H)
                have hji9w : (IntKind.i64.wrap (x3_1 - 1)) = ji9 := (i64_w _).trans hji9
                by_cases c10 : 0 ≤ (ji9)
                · rw [if_pos c10] at H
                  have c10b0 : decide (0 ≤ (ji9)) = true := decide_eq_true c10
                  clear c10
                  by_cases c11 : (ji9) < (l0.length : Int)
                  · rw [if_pos c11] at H
                    have c11b0 : decide ((ji9) < (l0.length : Int)) = true := decide_eq_true c11
                    clear c11
                    by_cases c12 : 0 ≤ x3_1
                    · rw [if_pos c12] at H
                      have c12b0 : decide (0 ≤ x3_1) = true := decide_eq_true c12
                      clear c12
                      by_cases c13 : x3_1 < (l0.length : Int)
                      · rw [if_pos c13] at H
                        have c13b0 : decide (x3_1 < (l0.length : Int)) = true := decide_eq_true c13
                        clear c13
                        by_cases c14 : ((rd_T144 l0 (ji9)).f0) = ((rd_T144 l0 x3_1).f0)
                        · rw [if_pos c14] at H
                          have c14b0 : (((rd_T144 l0 (ji9)).f0) == ((rd_T144 l0 x3_1).f0)) = true := beq_iff_eq.mpr c14
                          have c14b1 : (((rd_T144 l0 (ji9)).f0) != ((rd_T144 l0 x3_1).f0)) = false := bne_eq_false_iff_eq.mpr c14
                          clear c14
                          obtain rfl := Option.some.inj H
                          have p104 : 0 ≤ ((ji9) : Int) := of_decide_eq_true (by first | (with_reducible assumption) | assumption)
                          have q104 : (ji9) < (l0.length : Int) := of_decide_eq_true (by first | (with_reducible assumption) | assumption)
                          obtain ⟨ad104, A104_1, c104_1, e104, hx104_0, hx104_1, hl104_1, hi104_1⟩ := at_T144 HR0.out (ji9) p104 q104
                          cases e104
                          have HR104_1 := Aside0.mk hi104_1
                          have HC104_1 := Aside0.mk hl104_1
                          clear hi104_1 hl104_1
                          replace p104 := eq_true p104
                          replace q104 := eq_true q104
                          have p105 : 0 ≤ (x3_1 : Int) := of_decide_eq_true (by first | (with_reducible assumption) | assumption)
                          have q105 : x3_1 < (l0.length : Int) := of_decide_eq_true (by first | (with_reducible assumption) | assumption)
                          obtain ⟨ad105, A105_1, c105_1, e105, hx105_0, hx105_1, hl105_1, hi105_1⟩ := at_T144 HR0.out x3_1 p105 q105
                          obtain rfl : ad104 = ad105 := (by injection e105)
                          have HR105_1 := Aside0.mk hi105_1
                          have HC105_1 := Aside0.mk hl105_1
                          clear hi105_1 hl105_1
                          replace p105 := eq_true p105
                          replace q105 := eq_true q105
                          go_wp2
                          repeat (go_quiet (fail); try go_wp2)
                          go_ret
                          exact ⟨by first | rfl | (simp; done) | (simp only [← hji9] <;> (first | rfl | simp)) | (simp [*]; done), by repeat (first | exact Drawn0.refl _ | apply Drawn0.step)⟩
                        · rw [if_neg c14] at H
                          have c14b0 : (((rd_T144 l0 (ji9)).f0) == ((rd_T144 l0 x3_1).f0)) = false := beq_eq_false_iff_ne.mpr c14
                          have c14b1 : (((rd_T144 l0 (ji9)).f0) != ((rd_T144 l0 x3_1).f0)) = true := bne_iff_ne.mpr c14
                          by_cases c15 : ((rd_T144 l0 (ji9)).f0) = 2
                          · rw [if_pos c15] at H
                            have c15b0 : (((rd_T144 l0 (ji9)).f0) == 2) = true := beq_iff_eq.mpr c15
                            have c15b1 : (((rd_T144 l0 (ji9)).f0) != 2) = false := bne_eq_false_iff_eq.mpr c15
                            clear c15
                            by_cases c16 : ((rd_T144 l0 x3_1).f0) = 1
                            · rw [if_pos c16] at H
                              have c16b0 : (((rd_T144 l0 x3_1).f0) == 1) = true := beq_iff_eq.mpr c16
                              have c16b1 : (((rd_T144 l0 x3_1).f0) != 1) = false := bne_eq_false_iff_eq.mpr c16
                              clear c16
                              obtain rfl := Option.some.inj H
                              have p104 : 0 ≤ ((ji9) : Int) := of_decide_eq_true (by first | (with_reducible assumption) | assumption)
                              have q104 : (ji9) < (l0.length : Int) := of_decide_eq_true (by first | (with_reducible assumption) | assumption)
                              obtain ⟨ad104, A104_1, c104_1, e104, hx104_0, hx104_1, hl104_1, hi104_1⟩ := at_T144 HR0.out (ji9) p104 q104
                              cases e104
                              have HR104_1 := Aside0.mk hi104_1
                              have HC104_1 := Aside0.mk hl104_1
                              clear hi104_1 hl104_1
                              replace p104 := eq_true p104
                              replace q104 := eq_true q104
                              have p105 : 0 ≤ (x3_1 : Int) := of_decide_eq_true (by first | (with_reducible assumption) | assumption)
                              have q105 : x3_1 < (l0.length : Int) := of_decide_eq_true (by first | (with_reducible assumption) | assumption)
                              obtain ⟨ad105, A105_1, c105_1, e105, hx105_0, hx105_1, hl105_1, hi105_1⟩ := at_T144 HR0.out x3_1 p105 q105
                              obtain rfl : ad104 = ad105 := (by injection e105)
                              have HR105_1 := Aside0.mk hi105_1
                              have HC105_1 := Aside0.mk hl105_1
                              clear hi105_1 hl105_1
                              replace p105 := eq_true p105
                              replace q105 := eq_true q105
                              have p106 : 0 ≤ ((ji9) : Int) := of_decide_eq_true (by first | (with_reducible assumption) | assumption)
                              have q106 : (ji9) < (l0.length : Int) := of_decide_eq_true (by first | (with_reducible assumption) | assumption)
                              obtain ⟨ad106, A106_1, c106_1, e106, hx106_0, hx106_1, hl106_1, hi106_1⟩ := at_T144 HR0.out (ji9) p106 q106
                              obtain rfl : ad104 = ad106 := (by injection e106)
                              have HR106_1 := Aside0.mk hi106_1
                              have HC106_1 := Aside0.mk hl106_1
                              clear hi106_1 hl106_1
                              replace p106 := eq_true p106
                              replace q106 := eq_true q106
                              have ea_ := Option.some.inj (hx104_1.symm.trans hx106_1)
                              injection ea_ with ea_ en_ ec_
                              subst ea_
                              subst ec_
                              clear en_
                              have p107 : 0 ≤ (x3_1 : Int) := of_decide_eq_true (by first | (with_reducible assumption) | assumption)
                              have q107 : x3_1 < (l0.length : Int) := of_decide_eq_true (by first | (with_reducible assumption) | assumption)
                              obtain ⟨ad107, A107_1, c107_1, e107, hx107_0, hx107_1, hl107_1, hi107_1⟩ := at_T144 HR0.out x3_1 p107 q107
                              obtain rfl : ad104 = ad107 := (by injection e107)
                              have HR107_1 := Aside0.mk hi107_1
                              have HC107_1 := Aside0.mk hl107_1
                              clear hi107_1 hl107_1
                              replace p107 := eq_true p107
                              replace q107 := eq_true q107
                              have ea_ := Option.some.inj (hx105_1.symm.trans hx107_1)
                              injection ea_ with ea_ en_ ec_
                              subst ea_
                              subst ec_
                              clear en_
                              go_wp2
                              repeat (go_quiet (fail); try go_wp2)
                              go_ret
                              exact ⟨by first | rfl | (simp; done) | (simp only [← hji9] <;> (first | rfl | simp)) | (simp [*]; done), by repeat (first | exact Drawn0.refl _ | apply Drawn0.step)⟩
                            · rw [if_neg c16] at H
                              have c16b0 : (((rd_T144 l0 x3_1).f0) == 1) = false := beq_eq_false_iff_ne.mpr c16
                              have c16b1 : (((rd_T144 l0 x3_1).f0) != 1) = true := bne_iff_ne.mpr c16
                              have H' := Aside0.mk H
                              clear H
                              have p104 : 0 ≤ ((ji9) : Int) := of_decide_eq_true (by first | (with_reducible assumption) | assumption)
                              have q104 : (ji9) < (l0.length : Int) := of_decide_eq_true (by first | (with_reducible assumption) | assumption)
                              obtain ⟨ad104, A104_1, c104_1, e104, hx104_0, hx104_1, hl104_1, hi104_1⟩ := at_T144 HR0.out (ji9) p104 q104
                              cases e104
                              have HR104_1 := Aside0.mk hi104_1
                              have HC104_1 := Aside0.mk hl104_1
                              clear hi104_1 hl104_1
                              replace p104 := eq_true p104
                              replace q104 := eq_true q104
                              have p105 : 0 ≤ (x3_1 : Int) := of_decide_eq_true (by first | (with_reducible assumption) | assumption)
                              have q105 : x3_1 < (l0.length : Int) := of_decide_eq_true (by first | (with_reducible assumption) | assumption)
                              obtain ⟨ad105, A105_1, c105_1, e105, hx105_0, hx105_1, hl105_1, hi105_1⟩ := at_T144 HR0.out x3_1 p105 q105
                              obtain rfl : ad104 = ad105 := (by injection e105)
                              have HR105_1 := Aside0.mk hi105_1
                              have HC105_1 := Aside0.mk hl105_1
                              clear hi105_1 hl105_1
                              replace p105 := eq_true p105
                              replace q105 := eq_true q105
                              have p106 : 0 ≤ ((ji9) : Int) := of_decide_eq_true (by first | (with_reducible assumption) | assumption)
                              have q106 : (ji9) < (l0.length : Int) := of_decide_eq_true (by first | (with_reducible assumption) | assumption)
                              obtain ⟨ad106, A106_1, c106_1, e106, hx106_0, hx106_1, hl106_1, hi106_1⟩ := at_T144 HR0.out (ji9) p106 q106
                              obtain rfl : ad104 = ad106 := (by injection e106)
                              have HR106_1 := Aside0.mk hi106_1
                              have HC106_1 := Aside0.mk hl106_1
                              clear hi106_1 hl106_1
                              replace p106 := eq_true p106
                              replace q106 := eq_true q106
                              have ea_ := Option.some.inj (hx104_1.symm.trans hx106_1)
                              injection ea_ with ea_ en_ ec_
                              subst ea_
                              subst ec_
                              clear en_
                              have p107 : 0 ≤ (x3_1 : Int) := of_decide_eq_true (by first | (with_reducible assumption) | assumption)
                              have q107 : x3_1 < (l0.length : Int) := of_decide_eq_true (by first | (with_reducible assumption) | assumption)
                              obtain ⟨ad107, A107_1, c107_1, e107, hx107_0, hx107_1, hl107_1, hi107_1⟩ := at_T144 HR0.out x3_1 p107 q107
                              obtain rfl : ad104 = ad107 := (by injection e107)
                              have HR107_1 := Aside0.mk hi107_1
                              have HC107_1 := Aside0.mk hl107_1
                              clear hi107_1 hl107_1
                              replace p107 := eq_true p107
                              replace q107 := eq_true q107
                              have ea_ := Option.some.inj (hx105_1.symm.trans hx107_1)
                              injection ea_ with ea_ en_ ec_
                              subst ea_
                              subst ec_
                              clear en_
                              go_wp2
                              repeat (go_quiet (fail); try go_wp2)
                              go_roundg kj2
                              case measure => have := HK1.out; have := HJ2.out; omega
                              case rel => exact ⟨(wrap64 (x3_1 + 1)), (by first | rfl | (simp; done) | (simp [*]; done)), H', ⟨by have := HK1.out; have := HJ2.out; omega⟩, by repeat (first | exact Drawn0.refl _ | apply Drawn0.step)⟩
                          · rw [if_neg c15] at H
                            have c15b0 : (((rd_T144 l0 (ji9)).f0) == 2) = false := beq_eq_false_iff_ne.mpr c15
                            have c15b1 : (((rd_T144 l0 (ji9)).f0) != 2) = true := bne_iff_ne.mpr c15
                            have H' := Aside0.mk H
                            clear H
                            have p104 : 0 ≤ ((ji9) : Int) := of_decide_eq_true (by first | (with_reducible assumption) | assumption)
                            have q104 : (ji9) < (l0.length : Int) := of_decide_eq_true (by first | (with_reducible assumption) | assumption)
                            obtain ⟨ad104, A104_1, c104_1, e104, hx104_0, hx104_1, hl104_1, hi104_1⟩ := at_T144 HR0.out (ji9) p104 q104
                            cases e104
                            have HR104_1 := Aside0.mk hi104_1
                            have HC104_1 := Aside0.mk hl104_1
                            clear hi104_1 hl104_1
                            replace p104 := eq_true p104
                            replace q104 := eq_true q104
                            have p105 : 0 ≤ (x3_1 : Int) := of_decide_eq_true (by first | (with_reducible assumption) | assumption)
                            have q105 : x3_1 < (l0.length : Int) := of_decide_eq_true (by first | (with_reducible assumption) | assumption)
                            obtain ⟨ad105, A105_1, c105_1, e105, hx105_0, hx105_1, hl105_1, hi105_1⟩ := at_T144 HR0.out x3_1 p105 q105
                            obtain rfl : ad104 = ad105 := (by injection e105)
                            have HR105_1 := Aside0.mk hi105_1
                            have HC105_1 := Aside0.mk hl105_1
                            clear hi105_1 hl105_1
                            replace p105 := eq_true p105
                            replace q105 := eq_true q105
                            have p106 : 0 ≤ ((ji9) : Int) := of_decide_eq_true (by first | (with_reducible assumption) | assumption)
                            have q106 : (ji9) < (l0.length : Int) := of_decide_eq_true (by first | (with_reducible assumption) | assumption)
                            obtain ⟨ad106, A106_1, c106_1, e106, hx106_0, hx106_1, hl106_1, hi106_1⟩ := at_T144 HR0.out (ji9) p106 q106
                            obtain rfl : ad104 = ad106 := (by injection e106)
                            have HR106_1 := Aside0.mk hi106_1
                            have HC106_1 := Aside0.mk hl106_1
                            clear hi106_1 hl106_1
                            replace p106 := eq_true p106
                            replace q106 := eq_true q106
                            have ea_ := Option.some.inj (hx104_1.symm.trans hx106_1)
                            injection ea_ with ea_ en_ ec_
                            subst ea_
                            subst ec_
                            clear en_
                            go_wp2
                            repeat (go_quiet (fail); try go_wp2)
                            go_roundg kj2
                            case measure => have := HK1.out; have := HJ2.out; omega
                            case rel => exact ⟨(wrap64 (x3_1 + 1)), (by first | rfl | (simp; done) | (simp [*]; done)), H', ⟨by have := HK1.out; have := HJ2.out; omega⟩, by repeat (first | exact Drawn0.refl _ | apply Drawn0.step)⟩
                      · rw [if_neg c13] at H
                        exact absurd H (by simp)
                    · rw [if_neg c12] at H
                      exact absurd H (by simp)
                  · rw [if_neg c11] at H
                    exact absurd H (by simp)
                · rw [if_neg c10] at H
                  exact absurd H (by simp)
              · rw [if_neg c8] at H
                have c8b0 : decide (0 < x3_1) = false := decide_eq_false c8
                clear c8
                have H' := Aside0.mk H
                clear H
                go_wp2
                repeat (go_quiet (fail); try go_wp2)
                go_roundg kj2
                case measure => have := HK1.out; have := HJ2.out; omega
                case rel => exact ⟨(wrap64 (x3_1 + 1)), (by first | rfl | (simp; done) | (simp [*]; done)), H', ⟨by have := HK1.out; have := HJ2.out; omega⟩, by repeat (first | exact Drawn0.refl _ | apply Drawn0.step)⟩
      · rw [if_neg c2] at H
        have c2b0 : decide (x3_1 < (l0.length : Int)) = false := decide_eq_false c2
        clear c2
        obtain rfl := Option.some.inj H
        go_wp2
        repeat (go_quiet (fail); try go_wp2)
        go_ret
        exact ⟨by first | rfl | (simp; done) | (simp [*]; done), by repeat (first | exact Drawn0.refl _ | apply Drawn0.step)⟩

end Go.Proofs.Ytadafplbgophfaa.PA
end
section
-- Written by a program of this seat out of the translation. Not trusted: Lean checks it.
namespace Go.Proofs.Ytadafplbgophfaa.PA
open Go.RowKit Go.Proofs.YtadafplbgophfaaW.PrintWords Go.Proofs.YtadafplbgophfaaW.PrintLast Go.Proofs.YtadafplbgophfaaW.PrintMore
attribute [local go_sem] max2_int min2_int max_two min_two max_three min_three max_four min_four   -- for this text's walks alone
set_option linter.unusedVariables false
set_option linter.unusedSimpArgs false

/-! ### tripartiteref04_Side: function 46 -/
def tripartiteref04_Side.l0 : Nat → List (S144) → Int → List ByteArray → Int → Option (List ByteArray)
  | 0, _, _, _, _ => none
  | k + 1, x0, x1, x5, x6 => if x6 < (x0.length : Int) then (if 0 ≤ x6 then (if ((rd_T144 x0 x6).f0) = 0 then (if x5.length + ((rd_T144 x0 x6).f1).length < 8796093022208 then (tripartiteref04_Side.l0 k x0 x1 (x5 ++ ((rd_T144 x0 x6).f1)) (wrap64 (x6 + 1))) else (none)) else (if ((rd_T144 x0 x6).f0) = x1 then (if x5.length + ((rd_T144 x0 x6).f1).length < 8796093022208 then (tripartiteref04_Side.l0 k x0 x1 (x5 ++ ((rd_T144 x0 x6).f1)) (wrap64 (x6 + 1))) else (none)) else (tripartiteref04_Side.l0 k x0 x1 x5 (wrap64 (x6 + 1))))) else (none)) else (some x5)
def tripartiteref04_Side.f (k : Nat) (l0 : List (S144)) (a1 : Int) : Option (List ByteArray) := tripartiteref04_Side.l0 k l0 a1 ([] : List ByteArray) 0
theorem tripartiteref04_Side.mono_l : ∀ k, (∀ y0 y1 y2 y3, LeO (tripartiteref04_Side.l0 k y0 y1 y2 y3) (tripartiteref04_Side.l0 (k + 1) y0 y1 y2 y3))
  | 0 => fun _ _ _ _ r h => by simp [tripartiteref04_Side.l0] at h
  | k + 1 => by
    have ih0 := tripartiteref04_Side.mono_l k
    · intro y0 y1 y2 y3
      unfold tripartiteref04_Side.l0
      repeat' first
      | (with_reducible exact ih0 _ _ _ _)
      | (with_reducible exact LeO.refl _)
      | (with_reducible exact LeO.none _)
      | (with_reducible refine LeO.ite ?_ ?_)
      | (with_reducible refine LeO.bind ?_ (fun _ => ?_))
      | exact ih0 _ _ _ _
      | exact LeO.none _
      | refine LeO.ite ?_ ?_
      | refine LeO.bind ?_ (fun _ => ?_)
theorem tripartiteref04_Side.mono : ∀ a0 a1 k, LeO (tripartiteref04_Side.f k a0 a1) (tripartiteref04_Side.f (k + 1) a0 a1) := by
  intro a0 a1 k
  have ih0 := tripartiteref04_Side.mono_l k
  unfold tripartiteref04_Side.f
  repeat' first
      | (with_reducible exact ih0 _ _ _ _)
      | (with_reducible exact LeO.refl _)
      | (with_reducible exact LeO.none _)
      | (with_reducible refine LeO.ite ?_ ?_)
      | (with_reducible refine LeO.bind ?_ (fun _ => ?_))
      | exact ih0 _ _ _ _
      | exact LeO.none _
      | refine LeO.ite ?_ ?_
      | refine LeO.bind ?_ (fun _ => ?_)
set_option maxHeartbeats 8000000 in
set_option maxRecDepth 100000 in
theorem tripartiteref04_Side.calls (k : Nat) (A0 : Option Addr) (c0 : Nat) (l0 : List (S144)) (a1 : Int) (r : List ByteArray) (w : World) (hr0 : Kd.C k144 w A0 l0.length l0) (hc0 : l0.length ≤ c0) (h : tripartiteref04_Side.f k l0 a1 = some r) :
    Calls Try.prog 46 #[.slice A0 l0.length c0, .int .i64 a1] w fun e w' => ∃ v0_ : Value, e = .returned (v0_) ∧ Kd.R Kd.string 9 w' w.heap.size (fun _ => True) v0_ r ∧ Below w.heap.size w w' := by
  have HR0 := Aside0.mk hr0
  have HC0 := Aside0.mk hc0
  clear hr0 hc0
  have HB := Aside0.mk (Below.refl w.heap.size w)
  have H : (tripartiteref04_Side.l0 k l0 a1 ([] : List ByteArray) 0) = some r := h
  clear h
  have H' := Aside0.mk H
  clear H
  go_enter Try.func46, Try.ntmps46
  go_wp2
  go_loopg [5, 6] k (fun kq v5 v6 w' => ∃ (x5_1 : List ByteArray) (x6_1 : Int), v6 = .int .i64 x6_1 ∧ Aside0 (tripartiteref04_Side.l0 kq l0 a1 x5_1 x6_1 = some r) ∧ Aside0 (kq ≤ k) ∧ Aside0 (Kd.R Kd.string 9 w' w.heap.size (fun _ => True) v5 x5_1) ∧ Aside0 (Below w.heap.size w w'))
  case atStart => exact ⟨(([] : List ByteArray)), (0), (by first | rfl | (simp; done) | (simp [*]; done)), H', ⟨Nat.le_refl _⟩, ⟨by first | exact Kd.R_nil _ _ _ _ _ | exact Kd.N_nil _ _ _ _ _ | exact Kd.V_nil _ _ _ _ _ | exact Kd.Q_nil _ _ _ _ _ | exact Kd.S_nil _ _ _ _ _⟩, ⟨by repeat (first | (with_reducible first | exact HB.out | apply below_alloc | apply pw_below_drewN | apply below_drew1) | exact HB.out)⟩⟩
  case round =>
    clear H'
    try clear p2
    obtain ⟨x5_1, x6_1, rfl, HA, HK1, HO_5, HB⟩ := hrel
    cases gk with
    | zero => exact absurd HA.out (by simp [tripartiteref04_Side.l0])
    | succ k1 =>
      have H := HA.out
      clear HA
      simp only [tripartiteref04_Side.l0] at H
      by_cases c3 : x6_1 < (l0.length : Int)
      · rw [if_pos c3] at H
        have c3b0 : decide (x6_1 < (l0.length : Int)) = true := decide_eq_true c3
        clear c3
        by_cases c4 : 0 ≤ x6_1
        · rw [if_pos c4] at H
          have c4b0 : decide (0 ≤ x6_1) = true := decide_eq_true c4
          clear c4
          by_cases c5 : ((rd_T144 l0 x6_1).f0) = 0
          · rw [if_pos c5] at H
            have c5b0 : (((rd_T144 l0 x6_1).f0) == 0) = true := beq_iff_eq.mpr c5
            have c5b1 : (((rd_T144 l0 x6_1).f0) != 0) = false := bne_eq_false_iff_eq.mpr c5
            clear c5
            by_cases c6 : x5_1.length + ((rd_T144 l0 x6_1).f1).length < 8796093022208
            · rw [if_pos c6] at H
              have LMc6 := Aside0.mk c6
              clear c6
              obtain ⟨y103, hy103⟩ : ∃ y_ : List ByteArray, y_ = (x5_1 ++ ((rd_T144 l0 x6_1).f1)) := ⟨_, rfl⟩
              replace H : (tripartiteref04_Side.l0 k1 l0 a1 y103 (wrap64 (x6_1 + 1))) = some r := by first | (rw [hy103]; with_reducible exact H) | (have H2_ := (Option.bind_some _ _).symm.trans H; rw [hy103]; with_reducible exact H2_) | (have H2_ := (Option.bind_some _ _).symm.trans H; with_reducible exact H2_) | with_reducible exact H | (rw [hy103]; exact H) | exact H
              have Ny103 := Aside0.mk hy103
              clear hy103
              have H' := Aside0.mk H
              clear H
              have p101 : 0 ≤ (x6_1 : Int) := of_decide_eq_true (by first | (with_reducible assumption) | assumption)
              have q101 : x6_1 < (l0.length : Int) := of_decide_eq_true (by first | (with_reducible assumption) | assumption)
              obtain ⟨ad101, A101_1, c101_1, e101, hx101_0, hx101_1, hl101_1, hi101_1⟩ := at_T144 HR0.out x6_1 p101 q101
              cases e101
              replace hx101_0 := (HB.out.cell (World.block_lt_of_cell? w _ hx101_0)).trans hx101_0
              replace hx101_1 := (HB.out.cell (World.block_lt_of_cell? w _ hx101_1)).trans hx101_1
              have HR101_1 := Aside0.mk hi101_1
              have HC101_1 := Aside0.mk hl101_1
              clear hi101_1 hl101_1
              replace p101 := eq_true p101
              replace q101 := eq_true q101
              have p102 : 0 ≤ (x6_1 : Int) := of_decide_eq_true (by first | (with_reducible assumption) | assumption)
              have q102 : x6_1 < (l0.length : Int) := of_decide_eq_true (by first | (with_reducible assumption) | assumption)
              obtain ⟨ad102, A102_1, c102_1, e102, hx102_0, hx102_1, hl102_1, hi102_1⟩ := at_T144 HR0.out x6_1 p102 q102
              obtain rfl : ad101 = ad102 := (by injection e102)
              replace hx102_0 := (HB.out.cell (World.block_lt_of_cell? w _ hx102_0)).trans hx102_0
              replace hx102_1 := (HB.out.cell (World.block_lt_of_cell? w _ hx102_1)).trans hx102_1
              have HR102_1 := Aside0.mk hi102_1
              have HC102_1 := Aside0.mk hl102_1
              clear hi102_1 hl102_1
              replace p102 := eq_true p102
              replace q102 := eq_true q102
              have ea_ := Option.some.inj (hx101_1.symm.trans hx102_1)
              injection ea_ with ea_ en_ ec_
              subst ea_
              subst ec_
              clear en_
              go_wp2_with (first | ((with_reducible refine gate_builtin (b := .append) (xs := #[.tmp 28, .tmp 33]) rfl ?_); at_builtin; refine Kd.R_append_rows Kd.string (w0 := w) w.heap.size rfl (.tmp 28) (.tmp 33) 27 9 (.string ⟨#[]⟩) 16 rfl Try.underlying27 info9 rfl (by decide) (by omega) u5 x5_1 ((rd_T144 l0 x6_1).f1) _ _ _ (fun _ => True) (fun _ => False) rfl rfl ?aO ?aR (fun _ _ h => h) (fun _ h => h.elim) ?aF ?aB ?aS ?aL ?_; (case aR => repeat (first | exact (Kd.C_below HR102_1.out HB.out) | (with_reducible refine Kd.C_alloc ?_ _) | (with_reducible refine Kd.C_drewN ?_ _) | (with_reducible refine Kd.C_drew ?_))); (case aB => exact (by repeat (first | (with_reducible first | exact HB.out | apply below_alloc | apply pw_below_drewN | apply below_drew1) | exact HB.out))); (case aF => exact (fun _ _ => trivial)); (case aO => exact (by (with_reducible repeat (first | apply Kd.R_alloc | apply Kd.R_drewN | apply Kd.R_drew)); exact HO_5.out)); (case aS => exact (below_size (by repeat (first | (with_reducible first | exact HB.out | apply below_alloc | apply pw_below_drewN | apply below_drew1) | exact HB.out)))); (case aL => have := LMc6.out; omega); intro v104 w7 ho hb hg hat; rw [← Ny103.out] at ho; have n0_ := Aside0.mk (hb); have n1_ := Aside0.mk (ho); clear HB; clear HO_5; have HB := n0_; have HO105 := n1_; clear n0_ n1_; clear ho hb hg hat))
              go_roundg k1
              case measure => have := HK1.out; omega
              case rel => exact ⟨(y103), (wrap64 (x6_1 + 1)), (by first | rfl | (simp; done) | (simp [*]; done)), H', ⟨by have := HK1.out; omega⟩, ⟨by (with_reducible repeat (first | apply Kd.R_alloc | apply Kd.R_drewN | apply Kd.R_drew)); exact HO105.out⟩, ⟨by repeat (first | (with_reducible first | exact HB.out | apply below_alloc | apply pw_below_drewN | apply below_drew1) | exact HB.out)⟩⟩
            · rw [if_neg c6] at H
              exact absurd H (by simp)
          · rw [if_neg c5] at H
            have c5b0 : (((rd_T144 l0 x6_1).f0) == 0) = false := beq_eq_false_iff_ne.mpr c5
            have c5b1 : (((rd_T144 l0 x6_1).f0) != 0) = true := bne_iff_ne.mpr c5
            by_cases c8 : ((rd_T144 l0 x6_1).f0) = a1
            · rw [if_pos c8] at H
              have c8b0 : (((rd_T144 l0 x6_1).f0) == a1) = true := beq_iff_eq.mpr c8
              have c8b1 : (((rd_T144 l0 x6_1).f0) != a1) = false := bne_eq_false_iff_eq.mpr c8
              clear c8
              by_cases c9 : x5_1.length + ((rd_T144 l0 x6_1).f1).length < 8796093022208
              · rw [if_pos c9] at H
                have LMc9 := Aside0.mk c9
                clear c9
                obtain ⟨y108, hy108⟩ : ∃ y_ : List ByteArray, y_ = (x5_1 ++ ((rd_T144 l0 x6_1).f1)) := ⟨_, rfl⟩
                replace H : (tripartiteref04_Side.l0 k1 l0 a1 y108 (wrap64 (x6_1 + 1))) = some r := by first | (rw [hy108]; with_reducible exact H) | (have H2_ := (Option.bind_some _ _).symm.trans H; rw [hy108]; with_reducible exact H2_) | (have H2_ := (Option.bind_some _ _).symm.trans H; with_reducible exact H2_) | with_reducible exact H | (rw [hy108]; exact H) | exact H
                have Ny108 := Aside0.mk hy108
                clear hy108
                have H' := Aside0.mk H
                clear H
                have p101 : 0 ≤ (x6_1 : Int) := of_decide_eq_true (by first | (with_reducible assumption) | assumption)
                have q101 : x6_1 < (l0.length : Int) := of_decide_eq_true (by first | (with_reducible assumption) | assumption)
                obtain ⟨ad101, A101_1, c101_1, e101, hx101_0, hx101_1, hl101_1, hi101_1⟩ := at_T144 HR0.out x6_1 p101 q101
                cases e101
                replace hx101_0 := (HB.out.cell (World.block_lt_of_cell? w _ hx101_0)).trans hx101_0
                replace hx101_1 := (HB.out.cell (World.block_lt_of_cell? w _ hx101_1)).trans hx101_1
                have HR101_1 := Aside0.mk hi101_1
                have HC101_1 := Aside0.mk hl101_1
                clear hi101_1 hl101_1
                replace p101 := eq_true p101
                replace q101 := eq_true q101
                have p106 : 0 ≤ (x6_1 : Int) := of_decide_eq_true (by first | (with_reducible assumption) | assumption)
                have q106 : x6_1 < (l0.length : Int) := of_decide_eq_true (by first | (with_reducible assumption) | assumption)
                obtain ⟨ad106, A106_1, c106_1, e106, hx106_0, hx106_1, hl106_1, hi106_1⟩ := at_T144 HR0.out x6_1 p106 q106
                obtain rfl : ad101 = ad106 := (by injection e106)
                replace hx106_0 := (HB.out.cell (World.block_lt_of_cell? w _ hx106_0)).trans hx106_0
                replace hx106_1 := (HB.out.cell (World.block_lt_of_cell? w _ hx106_1)).trans hx106_1
                have HR106_1 := Aside0.mk hi106_1
                have HC106_1 := Aside0.mk hl106_1
                clear hi106_1 hl106_1
                replace p106 := eq_true p106
                replace q106 := eq_true q106
                have ea_ := Option.some.inj (hx101_1.symm.trans hx106_1)
                injection ea_ with ea_ en_ ec_
                subst ea_
                subst ec_
                clear en_
                have p107 : 0 ≤ (x6_1 : Int) := of_decide_eq_true (by first | (with_reducible assumption) | assumption)
                have q107 : x6_1 < (l0.length : Int) := of_decide_eq_true (by first | (with_reducible assumption) | assumption)
                obtain ⟨ad107, A107_1, c107_1, e107, hx107_0, hx107_1, hl107_1, hi107_1⟩ := at_T144 HR0.out x6_1 p107 q107
                obtain rfl : ad101 = ad107 := (by injection e107)
                replace hx107_0 := (HB.out.cell (World.block_lt_of_cell? w _ hx107_0)).trans hx107_0
                replace hx107_1 := (HB.out.cell (World.block_lt_of_cell? w _ hx107_1)).trans hx107_1
                have HR107_1 := Aside0.mk hi107_1
                have HC107_1 := Aside0.mk hl107_1
                clear hi107_1 hl107_1
                replace p107 := eq_true p107
                replace q107 := eq_true q107
                have ea_ := Option.some.inj (hx101_1.symm.trans hx107_1)
                injection ea_ with ea_ en_ ec_
                subst ea_
                subst ec_
                clear en_
                go_wp2_with (first | ((with_reducible refine gate_builtin (b := .append) (xs := #[.tmp 28, .tmp 33]) rfl ?_); at_builtin; refine Kd.R_append_rows Kd.string (w0 := w) w.heap.size rfl (.tmp 28) (.tmp 33) 27 9 (.string ⟨#[]⟩) 16 rfl Try.underlying27 info9 rfl (by decide) (by omega) u5 x5_1 ((rd_T144 l0 x6_1).f1) _ _ _ (fun _ => True) (fun _ => False) rfl rfl ?aO ?aR (fun _ _ h => h) (fun _ h => h.elim) ?aF ?aB ?aS ?aL ?_; (case aR => repeat (first | exact (Kd.C_below HR107_1.out HB.out) | (with_reducible refine Kd.C_alloc ?_ _) | (with_reducible refine Kd.C_drewN ?_ _) | (with_reducible refine Kd.C_drew ?_))); (case aB => exact (by repeat (first | (with_reducible first | exact HB.out | apply below_alloc | apply pw_below_drewN | apply below_drew1) | exact HB.out))); (case aF => exact (fun _ _ => trivial)); (case aO => exact (by (with_reducible repeat (first | apply Kd.R_alloc | apply Kd.R_drewN | apply Kd.R_drew)); exact HO_5.out)); (case aS => exact (below_size (by repeat (first | (with_reducible first | exact HB.out | apply below_alloc | apply pw_below_drewN | apply below_drew1) | exact HB.out)))); (case aL => have := LMc9.out; omega); intro v109 w10 ho hb hg hat; rw [← Ny108.out] at ho; have n0_ := Aside0.mk (hb); have n1_ := Aside0.mk (ho); clear HB; clear HO_5; have HB := n0_; have HO110 := n1_; clear n0_ n1_; clear ho hb hg hat))
                go_roundg k1
                case measure => have := HK1.out; omega
                case rel => exact ⟨(y108), (wrap64 (x6_1 + 1)), (by first | rfl | (simp; done) | (simp [*]; done)), H', ⟨by have := HK1.out; omega⟩, ⟨by (with_reducible repeat (first | apply Kd.R_alloc | apply Kd.R_drewN | apply Kd.R_drew)); exact HO110.out⟩, ⟨by repeat (first | (with_reducible first | exact HB.out | apply below_alloc | apply pw_below_drewN | apply below_drew1) | exact HB.out)⟩⟩
              · rw [if_neg c9] at H
                exact absurd H (by simp)
            · rw [if_neg c8] at H
              have c8b0 : (((rd_T144 l0 x6_1).f0) == a1) = false := beq_eq_false_iff_ne.mpr c8
              have c8b1 : (((rd_T144 l0 x6_1).f0) != a1) = true := bne_iff_ne.mpr c8
              have H' := Aside0.mk H
              clear H
              have p101 : 0 ≤ (x6_1 : Int) := of_decide_eq_true (by first | (with_reducible assumption) | assumption)
              have q101 : x6_1 < (l0.length : Int) := of_decide_eq_true (by first | (with_reducible assumption) | assumption)
              obtain ⟨ad101, A101_1, c101_1, e101, hx101_0, hx101_1, hl101_1, hi101_1⟩ := at_T144 HR0.out x6_1 p101 q101
              cases e101
              replace hx101_0 := (HB.out.cell (World.block_lt_of_cell? w _ hx101_0)).trans hx101_0
              replace hx101_1 := (HB.out.cell (World.block_lt_of_cell? w _ hx101_1)).trans hx101_1
              have HR101_1 := Aside0.mk hi101_1
              have HC101_1 := Aside0.mk hl101_1
              clear hi101_1 hl101_1
              replace p101 := eq_true p101
              replace q101 := eq_true q101
              have p106 : 0 ≤ (x6_1 : Int) := of_decide_eq_true (by first | (with_reducible assumption) | assumption)
              have q106 : x6_1 < (l0.length : Int) := of_decide_eq_true (by first | (with_reducible assumption) | assumption)
              obtain ⟨ad106, A106_1, c106_1, e106, hx106_0, hx106_1, hl106_1, hi106_1⟩ := at_T144 HR0.out x6_1 p106 q106
              obtain rfl : ad101 = ad106 := (by injection e106)
              replace hx106_0 := (HB.out.cell (World.block_lt_of_cell? w _ hx106_0)).trans hx106_0
              replace hx106_1 := (HB.out.cell (World.block_lt_of_cell? w _ hx106_1)).trans hx106_1
              have HR106_1 := Aside0.mk hi106_1
              have HC106_1 := Aside0.mk hl106_1
              clear hi106_1 hl106_1
              replace p106 := eq_true p106
              replace q106 := eq_true q106
              have ea_ := Option.some.inj (hx101_1.symm.trans hx106_1)
              injection ea_ with ea_ en_ ec_
              subst ea_
              subst ec_
              clear en_
              go_wp2
              go_roundg k1
              case measure => have := HK1.out; omega
              case rel => exact ⟨(x5_1), (wrap64 (x6_1 + 1)), (by first | rfl | (simp; done) | (simp [*]; done)), H', ⟨by have := HK1.out; omega⟩, ⟨by (with_reducible repeat (first | apply Kd.R_alloc | apply Kd.R_drewN | apply Kd.R_drew)); exact HO_5.out⟩, ⟨by repeat (first | (with_reducible first | exact HB.out | apply below_alloc | apply pw_below_drewN | apply below_drew1) | exact HB.out)⟩⟩
        · rw [if_neg c4] at H
          exact absurd H (by simp)
      · rw [if_neg c3] at H
        have c3b0 : decide (x6_1 < (l0.length : Int)) = false := decide_eq_false c3
        clear c3
        obtain rfl := Option.some.inj H
        go_wp2
        go_ret
        exact ⟨_, by first | rfl | (simp [errW_none, errW_some] <;> rfl) | (simp [*, errW_none, errW_some] <;> rfl), by (with_reducible repeat (first | apply Kd.R_alloc | apply Kd.R_drewN | apply Kd.R_drew)); exact HO_5.out, by repeat (first | (with_reducible first | exact HB.out | apply below_alloc | apply pw_below_drewN | apply below_drew1) | exact HB.out)⟩

end Go.Proofs.Ytadafplbgophfaa.PA
end
section
-- Written by a program of this seat out of the translation. Not trusted: Lean checks it.
namespace Go.Proofs.Ytadafplbgophfaa.PA
open Go.RowKit Go.Proofs.YtadafplbgophfaaW.PrintWords Go.Proofs.YtadafplbgophfaaW.PrintLast Go.Proofs.YtadafplbgophfaaW.PrintMore
attribute [local go_sem] max2_int min2_int max_two min_two max_three min_three max_four min_four   -- for this text's walks alone
set_option linter.unusedVariables false
set_option linter.unusedSimpArgs false

/-! ### tripartiteref04_Back: function 47 -/
def tripartiteref04_Back.l0 : Nat → List (S144) → List (S144) → Int → Option ((List (S144)))
  | 0, _, _, _ => none
  | k + 1, x0, x3, x4 => if x4 < (x0.length : Int) then (if 0 ≤ x4 then (if ((rd_T144 x0 x4).f0) = 1 then (if (wrap64 (x4 + 1)) < (x0.length : Int) then (if 0 ≤ (wrap64 (x4 + 1)) then (if ((rd_T144 x0 (wrap64 (x4 + 1))).f0) = 2 then ((some (([(⟨1, (rd_T144 x0 (wrap64 (x4 + 1))).f1⟩ : S144), (⟨2, (rd_T144 x0 x4).f1⟩ : S144)] : List (S144)) : List (S144))).bind fun y105 => (if x3.length + y105.length < 4398046511104 then (tripartiteref04_Back.l0 k x0 (x3 ++ y105) (wrap64 ((wrap64 (x4 + 1)) + 1))) else (none))) else ((some (([0, 2, 1] : List Int) : List Int)).bind fun y111 => (if 0 ≤ ((rd_T144 x0 x4).f0) then (if ((rd_T144 x0 x4).f0) < (y111.length : Int) then (if x3.length < 4398046511104 then (tripartiteref04_Back.l0 k x0 (x3 ++ [(⟨rd y111 ((rd_T144 x0 x4).f0), (rd_T144 x0 x4).f1⟩ : S144)]) (wrap64 (x4 + 1))) else (none)) else (none)) else (none)))) else (none)) else ((some (([0, 2, 1] : List Int) : List Int)).bind fun y120 => (if 0 ≤ ((rd_T144 x0 x4).f0) then (if ((rd_T144 x0 x4).f0) < (y120.length : Int) then (if x3.length < 4398046511104 then (tripartiteref04_Back.l0 k x0 (x3 ++ [(⟨rd y120 ((rd_T144 x0 x4).f0), (rd_T144 x0 x4).f1⟩ : S144)]) (wrap64 (x4 + 1))) else (none)) else (none)) else (none)))) else ((some (([0, 2, 1] : List Int) : List Int)).bind fun y129 => (if 0 ≤ ((rd_T144 x0 x4).f0) then (if ((rd_T144 x0 x4).f0) < (y129.length : Int) then (if x3.length < 4398046511104 then (tripartiteref04_Back.l0 k x0 (x3 ++ [(⟨rd y129 ((rd_T144 x0 x4).f0), (rd_T144 x0 x4).f1⟩ : S144)]) (wrap64 (x4 + 1))) else (none)) else (none)) else (none)))) else (none)) else (some x3)
def tripartiteref04_Back.f (k : Nat) (l0 : List (S144)) : Option ((List (S144))) := tripartiteref04_Back.l0 k l0 ([] : List (S144)) 0
theorem tripartiteref04_Back.mono_l : ∀ k, (∀ y0 y1 y2, LeO (tripartiteref04_Back.l0 k y0 y1 y2) (tripartiteref04_Back.l0 (k + 1) y0 y1 y2))
  | 0 => fun _ _ _ r h => by simp [tripartiteref04_Back.l0] at h
  | k + 1 => by
    have ih0 := tripartiteref04_Back.mono_l k
    · intro y0 y1 y2
      unfold tripartiteref04_Back.l0
      repeat' first
      | (with_reducible exact ih0 _ _ _)
      | (with_reducible exact LeO.refl _)
      | (with_reducible exact LeO.none _)
      | (with_reducible refine LeO.ite ?_ ?_)
      | (with_reducible refine LeO.bind ?_ (fun _ => ?_))
      | exact ih0 _ _ _
      | exact LeO.none _
      | refine LeO.ite ?_ ?_
      | refine LeO.bind ?_ (fun _ => ?_)
theorem tripartiteref04_Back.mono : ∀ a0 k, LeO (tripartiteref04_Back.f k a0) (tripartiteref04_Back.f (k + 1) a0) := by
  intro a0 k
  have ih0 := tripartiteref04_Back.mono_l k
  unfold tripartiteref04_Back.f
  repeat' first
      | (with_reducible exact ih0 _ _ _)
      | (with_reducible exact LeO.refl _)
      | (with_reducible exact LeO.none _)
      | (with_reducible refine LeO.ite ?_ ?_)
      | (with_reducible refine LeO.bind ?_ (fun _ => ?_))
      | exact ih0 _ _ _
      | exact LeO.none _
      | refine LeO.ite ?_ ?_
      | refine LeO.bind ?_ (fun _ => ?_)
def tripartiteref04_Back.T6 : Bool × List (List Nat × List Nat) := (true, [([], []), ([], []), ([], []), ([2], [2]), ([1, 3], [1, 3]), ([4], [4]), ([5], [5]), ([6], [6]), ([], []), ([], []), ([8, 9], [8, 9]), ([10], [10]), ([11], [11]), ([12], [12]), ([7, 13], [7, 13]), ([0, 14], [0, 14]), ([15, 15, 0, 1, 2, 3, 4, 5, 6, 7, 8, 9, 10, 11, 12, 13, 14, 15], [0, 15])])
def tripartiteref04_Back.B6 : List Nat := [0, 0, 0, 4, 14, 30, 62, 126, 0, 0, 768, 1792, 3840, 7936, 16382, 32767, 65535]
theorem tripartiteref04_Back.tab6 : rtab .any (opsOf Try.f47 6) = tripartiteref04_Back.T6 := by kernel_rfl
theorem tripartiteref04_Back.bits6 : waitsOk tripartiteref04_Back.T6.2 tripartiteref04_Back.B6 = true := by kernel_rfl
def tripartiteref04_Back.T8 : Bool × List (List Nat × List Nat) := (true, [([], []), ([], []), ([], []), ([], []), ([2, 3], [2, 3]), ([4], [4]), ([5], [5]), ([1, 6], [1, 6]), ([7], [7]), ([], []), ([], []), ([9, 10], [9, 10]), ([11], [11]), ([12], [12]), ([8, 13], [8, 13]), ([14], [14]), ([0, 15], [0, 15]), ([16, 16, 0, 1, 2, 3, 4, 5, 6, 7, 8, 9, 10, 11, 12, 13, 14, 15, 16], [0, 16])])
def tripartiteref04_Back.B8 : List Nat := [0, 0, 0, 0, 12, 28, 60, 126, 254, 0, 0, 1536, 3584, 7680, 16382, 32766, 65535, 131071]
theorem tripartiteref04_Back.tab8 : rtab .any (opsOf Try.f47 8) = tripartiteref04_Back.T8 := by kernel_rfl
theorem tripartiteref04_Back.bits8 : waitsOk tripartiteref04_Back.T8.2 tripartiteref04_Back.B8 = true := by kernel_rfl
set_option maxHeartbeats 8000000 in
set_option maxRecDepth 100000 in
theorem tripartiteref04_Back.calls (k : Nat) (P0_ : Nat → Prop) (A0 : Option Addr) (c0 : Nat) (l0 : List (S144)) (r : List (S144)) (w : World) (hs0 : Kd.V k144 144 w w.heap.size (fun k_ => P0_ k_) (.slice A0 l0.length c0) l0) (h : tripartiteref04_Back.f k l0 = some r) :
    Calls Try.prog 47 #[.slice A0 l0.length c0] w fun e w' => ∃ v0_ : Value, e = .returned (v0_) ∧ Kd.N k144 144 w' w.heap.size (fun k_ => (P0_ k_ ∨ w.heap.size ≤ k_)) v0_ r ∧ Below w.heap.size w w' := by
  have hu144 := Try.underlying144
  have HO0 := Aside0.mk (show Kd.V k144 144 w w.heap.size (fun k_ => (P0_ k_ ∨ w.heap.size ≤ k_)) (.slice A0 l0.length c0) l0 from Kd.V_mono hs0 (fun k_ hk => .inl hk))
  have HB := Aside0.mk (Below.refl w.heap.size w)
  have H : (tripartiteref04_Back.l0 k l0 ([] : List (S144)) 0) = some r := h
  clear h
  have H' := Aside0.mk H
  clear H
  go_enter Try.func47, Try.ntmps47
  go_wp2
  go_loopg [3, 4] k (fun kq v3 v4 w' => ∃ (x3_1 : List (S144)) (x4_1 : Int), v4 = .int .i64 x4_1 ∧ Aside0 (tripartiteref04_Back.l0 kq l0 x3_1 x4_1 = some r) ∧ Aside0 (kq ≤ k) ∧ Aside0 (Kd.V k144 144 w' w.heap.size (fun k_ => (P0_ k_ ∨ w.heap.size ≤ k_) ∧ some k_ ≠ (v3 : Value).ownBlock) (.slice A0 l0.length c0) l0) ∧ Aside0 (Kd.N k144 144 w' w.heap.size (fun k_ => (P0_ k_ ∨ w.heap.size ≤ k_)) v3 x3_1) ∧ Aside0 (Below w.heap.size w w'))
  case atStart => exact ⟨(([] : List (S144))), (0), (by first | rfl | (simp; done) | (simp [*]; done)), H', ⟨Nat.le_refl _⟩, ⟨by (with_reducible repeat (first | apply Kd.V_alloc | apply Kd.V_drewN | apply Kd.V_drew)); exact Kd.V_mono HO0.out (fun _ hk => ⟨hk, (by simp [Value.ownBlock])⟩)⟩, ⟨by first | exact Kd.S_nil _ _ _ _ _ | exact Kd.N_nil _ _ _ _ _ | exact Kd.V_nil _ _ _ _ _ | exact Kd.Q_nil _ _ _ _ _ | exact Kd.R_nil _ _ _ _ _⟩, ⟨by repeat (first | (with_reducible first | exact HB.out | apply below_alloc | apply pw_below_drewN | apply below_drew1) | exact HB.out)⟩⟩
  case round =>
    clear H'
    obtain ⟨x3_1, x4_1, rfl, HA, HK1, HO_0, HO_3, HB⟩ := hrel
    cases gk with
    | zero => exact absurd HA.out (by simp [tripartiteref04_Back.l0])
    | succ k1 =>
      have H := HA.out
      clear HA
      simp only [tripartiteref04_Back.l0] at H
      by_cases c2 : x4_1 < (l0.length : Int)
      · rw [if_pos c2] at H
        have c2b0 : decide (x4_1 < (l0.length : Int)) = true := decide_eq_true c2
        clear c2
        by_cases c3 : 0 ≤ x4_1
        · rw [if_pos c3] at H
          have c3b0 : decide (0 ≤ x4_1) = true := decide_eq_true c3
          clear c3
          by_cases c4 : ((rd_T144 l0 x4_1).f0) = 1
          · rw [if_pos c4] at H
            have c4b0 : (((rd_T144 l0 x4_1).f0) == 1) = true := beq_iff_eq.mpr c4
            have c4b1 : (((rd_T144 l0 x4_1).f0) != 1) = false := bne_eq_false_iff_eq.mpr c4
            clear c4
            by_cases c5 : (wrap64 (x4_1 + 1)) < (l0.length : Int)
            · rw [if_pos c5] at H
              have c5b0 : decide ((wrap64 (x4_1 + 1)) < (l0.length : Int)) = true := decide_eq_true c5
              clear c5
              obtain ⟨ji6, hji6⟩ : ∃ j_ : Int, (wrap64 (x4_1 + 1)) = j_ := ⟨_, rfl⟩
              replace H : (if 0 ≤ (ji6) then (if ((rd_T144 l0 (ji6)).f0) = 2 then ((some (([(⟨1, (rd_T144 l0 (ji6)).f1⟩ : S144), (⟨2, (rd_T144 l0 x4_1).f1⟩ : S144)] : List (S144)) : List (S144))).bind fun y105 => (if x3_1.length + y105.length < 4398046511104 then (tripartiteref04_Back.l0 k1 l0 (x3_1 ++ y105) (wrap64 ((ji6) + 1))) else (none))) else ((some (([0, 2, 1] : List Int) : List Int)).bind fun y111 => (if 0 ≤ ((rd_T144 l0 x4_1).f0) then (if ((rd_T144 l0 x4_1).f0) < (y111.length : Int) then (if x3_1.length < 4398046511104 then (tripartiteref04_Back.l0 k1 l0 (x3_1 ++ [(⟨rd y111 ((rd_T144 l0 x4_1).f0), (rd_T144 l0 x4_1).f1⟩ : S144)]) ji6) else (none)) else (none)) else (none)))) else (none)) = some r := by first | (rw [hji6] at H; exact H) | (simp only [hji6] at H ⊢; exact H)
              (try rw [hji6] at c5b0)
              have hji6w : (IntKind.i64.wrap (x4_1 + 1)) = ji6 := (i64_w _).trans hji6
              by_cases c7 : 0 ≤ (ji6)
              · rw [if_pos c7] at H
                have c7b0 : decide (0 ≤ (ji6)) = true := decide_eq_true c7
                clear c7
                by_cases c8 : ((rd_T144 l0 (ji6)).f0) = 2
                · rw [if_pos c8] at H
                  have c8b0 : (((rd_T144 l0 (ji6)).f0) == 2) = true := beq_iff_eq.mpr c8
                  have c8b1 : (((rd_T144 l0 (ji6)).f0) != 2) = false := bne_eq_false_iff_eq.mpr c8
                  clear c8
                  obtain ⟨y105, hy105⟩ : ∃ y_ : List (S144), y_ = (([(⟨1, (rd_T144 l0 (ji6)).f1⟩ : S144), (⟨2, (rd_T144 l0 x4_1).f1⟩ : S144)] : List (S144))) := ⟨_, rfl⟩
                  replace H : (if x3_1.length + y105.length < 4398046511104 then (tripartiteref04_Back.l0 k1 l0 (x3_1 ++ y105) (wrap64 ((ji6) + 1))) else (none)) = some r := by first | (rw [hy105]; with_reducible exact H) | (have H2_ := (Option.bind_some _ _).symm.trans H; rw [hy105]; with_reducible exact H2_) | (have H2_ := (Option.bind_some _ _).symm.trans H; with_reducible exact H2_) | with_reducible exact H | (rw [hy105]; exact H) | exact H
                  have Ny105 := Aside0.mk hy105
                  clear hy105
                  by_cases c9 : x3_1.length + y105.length < 4398046511104
                  · rw [if_pos c9] at H
                    have LMc9 := Aside0.mk c9
                    clear c9
                    obtain ⟨y108, hy108⟩ : ∃ y_ : List (S144), y_ = (x3_1 ++ y105) := ⟨_, rfl⟩
                    replace H : (tripartiteref04_Back.l0 k1 l0 y108 (wrap64 ((ji6) + 1))) = some r := by first | (rw [hy108]; with_reducible exact H) | (have H2_ := (Option.bind_some _ _).symm.trans H; rw [hy108]; with_reducible exact H2_) | (have H2_ := (Option.bind_some _ _).symm.trans H; with_reducible exact H2_) | with_reducible exact H | (rw [hy108]; exact H) | exact H
                    have Ny108 := Aside0.mk hy108
                    clear hy108
                    have H' := Aside0.mk H
                    clear H
                    have p101 : 0 ≤ (x4_1 : Int) := of_decide_eq_true (by first | (with_reducible assumption) | assumption)
                    have q101 : x4_1 < (l0.length : Int) := of_decide_eq_true (by first | (with_reducible assumption) | assumption)
                    obtain ⟨ad101, A101_1, c101_1, e101, hx101_0, hx101_1, hl101_1, hi101_1⟩ := at_T144 (Kd.V_reads' HO_0.out).2.2 x4_1 p101 q101
                    cases e101
                    obtain ⟨ce101, hce101, hMe101, hcc101⟩ := Kd.V_get HO_0.out z144 x4_1 p101 (by first | exact q101 | exact of_decide_eq_true (by first | (with_reducible assumption) | assumption) | (have e_ := (Kd.V_reads' HO_0.out).1; omega))
                    obtain ⟨ua101_1, uc101_1, rfl, ul101_1, ge101_1⟩ := k144_openF hMe101
                    have hv101_1 := hcc101 1 _ rfl
                    rw [add_field _ _ 1 (by omega)] at hv101_1
                    replace hv101_1 := Option.some.inj (hv101_1.symm.trans hx101_1)
                    injection hv101_1 with hva_ hvn_ hvc_
                    rw [hva_] at ge101_1
                    rw [hvc_] at ul101_1
                    have HL101_1 := Aside0.mk (show Kd.V Kd.string 9 _ w.heap.size _ _ ((rd_T144 l0 x4_1).f1) from Kd.V_mk ul101_1 ge101_1)
                    clear hva_ hvn_ hvc_ ge101_1 ul101_1
                    clear hcc101 hce101
                    have HR101_1 := Aside0.mk hi101_1
                    have HC101_1 := Aside0.mk hl101_1
                    clear hi101_1 hl101_1
                    replace p101 := eq_true p101
                    replace q101 := eq_true q101
                    have p102 : 0 ≤ ((ji6) : Int) := of_decide_eq_true (by first | (with_reducible assumption) | assumption)
                    have q102 : (ji6) < (l0.length : Int) := of_decide_eq_true (by first | (with_reducible assumption) | assumption)
                    obtain ⟨ad102, A102_1, c102_1, e102, hx102_0, hx102_1, hl102_1, hi102_1⟩ := at_T144 (Kd.V_reads' HO_0.out).2.2 (ji6) p102 q102
                    obtain rfl : ad101 = ad102 := (by injection e102)
                    obtain ⟨ce102, hce102, hMe102, hcc102⟩ := Kd.V_get HO_0.out z144 (ji6) p102 (by first | exact q102 | exact of_decide_eq_true (by first | (with_reducible assumption) | assumption) | (have e_ := (Kd.V_reads' HO_0.out).1; omega))
                    obtain ⟨ua102_1, uc102_1, rfl, ul102_1, ge102_1⟩ := k144_openF hMe102
                    have hv102_1 := hcc102 1 _ rfl
                    rw [add_field _ _ 1 (by omega)] at hv102_1
                    replace hv102_1 := Option.some.inj (hv102_1.symm.trans hx102_1)
                    injection hv102_1 with hva_ hvn_ hvc_
                    rw [hva_] at ge102_1
                    rw [hvc_] at ul102_1
                    have HL102_1 := Aside0.mk (show Kd.V Kd.string 9 _ w.heap.size _ _ ((rd_T144 l0 (ji6)).f1) from Kd.V_mk ul102_1 ge102_1)
                    clear hva_ hvn_ hvc_ ge102_1 ul102_1
                    clear hcc102 hce102
                    have HR102_1 := Aside0.mk hi102_1
                    have HC102_1 := Aside0.mk hl102_1
                    clear hi102_1 hl102_1
                    replace p102 := eq_true p102
                    replace q102 := eq_true q102
                    try go_wp2
                    have n0_ := Aside0.mk (Kd.V_drew HO_0.out)
                    have n1_ := Aside0.mk (Kd.N_drew HO_3.out)
                    have n2_ := Aside0.mk (Kd.V_drew HL101_1.out)
                    have n3_ := Aside0.mk (Kd.V_drew HL102_1.out)
                    have n4_ := Aside0.mk (Kd.C_drew HR101_1.out)
                    have n5_ := Aside0.mk (Kd.C_drew HR102_1.out)
                    have n6_ := Aside0.mk (below_drew1 HB.out)
                    clear HO_0
                    clear HO_3
                    clear HL101_1
                    clear HL102_1
                    clear HR101_1
                    clear HR102_1
                    clear HB
                    have HO_0 := n0_
                    have HO_3 := n1_
                    have HL101_1 := n2_
                    have HL102_1 := n3_
                    have HR101_1 := n4_
                    have HR102_1 := n5_
                    have HB := n6_
                    clear n0_ n1_ n2_ n3_ n4_ n5_ n6_
                    have p103 : 0 ≤ ((ji6) : Int) := of_decide_eq_true (by first | (with_reducible assumption) | assumption)
                    have q103 : (ji6) < (l0.length : Int) := of_decide_eq_true (by first | (with_reducible assumption) | assumption)
                    obtain ⟨ad103, A103_1, c103_1, e103, hx103_0, hx103_1, hl103_1, hi103_1⟩ := at_T144 (Kd.V_reads' HO_0.out).2.2 (ji6) p103 q103
                    obtain rfl : ad101 = ad103 := (by injection e103)
                    obtain ⟨ce103, hce103, hMe103, hcc103⟩ := Kd.V_get HO_0.out z144 (ji6) p103 (by first | exact q103 | exact of_decide_eq_true (by first | (with_reducible assumption) | assumption) | (have e_ := (Kd.V_reads' HO_0.out).1; omega))
                    obtain ⟨ua103_1, uc103_1, rfl, ul103_1, ge103_1⟩ := k144_openF hMe103
                    have hv103_1 := hcc103 1 _ rfl
                    rw [add_field _ _ 1 (by omega)] at hv103_1
                    replace hv103_1 := Option.some.inj (hv103_1.symm.trans hx103_1)
                    injection hv103_1 with hva_ hvn_ hvc_
                    rw [hva_] at ge103_1
                    rw [hvc_] at ul103_1
                    have HL103_1 := Aside0.mk (show Kd.V Kd.string 9 _ w.heap.size _ _ ((rd_T144 l0 (ji6)).f1) from Kd.V_mk ul103_1 ge103_1)
                    clear hva_ hvn_ hvc_ ge103_1 ul103_1
                    clear hcc103 hce103
                    have HR103_1 := Aside0.mk hi103_1
                    have HC103_1 := Aside0.mk hl103_1
                    clear hi103_1 hl103_1
                    replace p103 := eq_true p103
                    replace q103 := eq_true q103
                    have p104 : 0 ≤ (x4_1 : Int) := of_decide_eq_true (by first | (with_reducible assumption) | assumption)
                    have q104 : x4_1 < (l0.length : Int) := of_decide_eq_true (by first | (with_reducible assumption) | assumption)
                    obtain ⟨ad104, A104_1, c104_1, e104, hx104_0, hx104_1, hl104_1, hi104_1⟩ := at_T144 (Kd.V_reads' HO_0.out).2.2 x4_1 p104 q104
                    obtain rfl : ad101 = ad104 := (by injection e104)
                    obtain ⟨ce104, hce104, hMe104, hcc104⟩ := Kd.V_get HO_0.out z144 x4_1 p104 (by first | exact q104 | exact of_decide_eq_true (by first | (with_reducible assumption) | assumption) | (have e_ := (Kd.V_reads' HO_0.out).1; omega))
                    obtain ⟨ua104_1, uc104_1, rfl, ul104_1, ge104_1⟩ := k144_openF hMe104
                    have hv104_1 := hcc104 1 _ rfl
                    rw [add_field _ _ 1 (by omega)] at hv104_1
                    replace hv104_1 := Option.some.inj (hv104_1.symm.trans hx104_1)
                    injection hv104_1 with hva_ hvn_ hvc_
                    rw [hva_] at ge104_1
                    rw [hvc_] at ul104_1
                    have HL104_1 := Aside0.mk (show Kd.V Kd.string 9 _ w.heap.size _ _ ((rd_T144 l0 x4_1).f1) from Kd.V_mk ul104_1 ge104_1)
                    clear hva_ hvn_ hvc_ ge104_1 ul104_1
                    clear hcc104 hce104
                    have HR104_1 := Aside0.mk hi104_1
                    have HC104_1 := Aside0.mk hl104_1
                    clear hi104_1 hl104_1
                    replace p104 := eq_true p104
                    replace q104 := eq_true q104
                    refine start_ (n := 17) (S := fun w' => w'.cell? (ad101.add (((ji6)).toNat * 2)) = some (.int .i64 ((rd_T144 l0 (ji6)).f0)) ∧ w'.cell? ⟨(ad101.add (((ji6)).toNat * 2)).block, (ad101.add (((ji6)).toNat * 2)).off + 1, none⟩ = some (.slice A103_1 ((rd_T144 l0 (ji6)).f1).length c103_1) ∧ w'.cell? (ad101.add ((x4_1).toNat * 2)) = some (.int .i64 ((rd_T144 l0 x4_1).f0)) ∧ w'.cell? ⟨(ad101.add ((x4_1).toNat * 2)).block, (ad101.add ((x4_1).toNat * 2)).off + 1, none⟩ = some (.slice A104_1 ((rd_T144 l0 x4_1).f1).length c104_1)) (ds := [15]) #[false, false, false, false, false, false, false, false, false, false, false, false, false, false, false, false, false] (by kernel_rfl) rfl rfl ⟨hx103_0, hx103_1, hx104_0, hx104_1⟩ (fun hHeld => ?_); refine with_tabW tripartiteref04_Back.tab6 tripartiteref04_Back.bits6 (fun HT_ HW_ => ?_)
                    generalize wr.drew = w10 at HO_0 HO_3 HL101_1 HL102_1 HR101_1 HR102_1 HB HL103_1 HL104_1 HR103_1 HR104_1 hx103_0 hx103_1 hx104_0 hx104_1 hHeld ⊢
                    refine pure_ (i := 0) (N := some 33) (v := ?_) (a' := ?_) #[true, false, false, false, false, false, false, false, false, false, false, false, false, false, false, false, false] rfl rfl (any_of HT_.out (by kernel_rfl)) (fun _ _ _ h => h) (Or.inl ⟨by rfl, ?_⟩) ?_ ?_
                    rotate_left
                    · intro w'
                      go_simp
                      with_reducible rfl
                    rotate_left
                    · simp only [Act.put, List.setIfInBounds_toArray, List.set_cons_zero, List.set_cons_succ, i64_w, i32_w]
                      rfl
                    refine pure_ (i := 1) (N := some 34) (v := ?_) (a' := ?_) #[true, true, false, false, false, false, false, false, false, false, false, false, false, false, false, false, false] rfl rfl (any_of HT_.out (by kernel_rfl)) (fun _ _ _ h => h) (Or.inl ⟨by rfl, ?_⟩) ?_ ?_
                    rotate_left
                    · intro w'
                      go_simp
                      with_reducible rfl
                    rotate_left
                    · simp only [Act.put, List.setIfInBounds_toArray, List.set_cons_zero, List.set_cons_succ, i64_w, i32_w]
                      rfl
                    refine pure_ (i := 2) (N := some 35) (v := ?_) (a' := ?_) #[true, true, true, false, false, false, false, false, false, false, false, false, false, false, false, false, false] rfl rfl (any_of HT_.out (by kernel_rfl)) (fun _ _ _ h => h) (Or.inl ⟨by rfl, ?_⟩) ?_ ?_
                    rotate_left
                    · intro w'
                      go_simp
                      with_reducible rfl
                    rotate_left
                    · simp only [Act.put, List.setIfInBounds_toArray, List.set_cons_zero, List.set_cons_succ, i64_w, i32_w]
                      rfl
                    refine pure_ (i := 3) (N := some 36) (v := ?_) (a' := ?_) #[true, true, true, true, false, false, false, false, false, false, false, false, false, false, false, false, false] rfl rfl (any_of HT_.out (by kernel_rfl)) (fun _ _ _ h => h) (Or.inl ⟨by rfl, ?_⟩) ?_ ?_
                    rotate_left
                    · intro w'
                      go_simp
                      with_reducible rfl
                    rotate_left
                    · simp only [Act.put, List.setIfInBounds_toArray, List.set_cons_zero, List.set_cons_succ, i64_w, i32_w]
                      rfl
                    refine pure_ (i := 4) (N := some 37) (v := ?_) (a' := ?_) #[true, true, true, true, true, false, false, false, false, false, false, false, false, false, false, false, false] rfl rfl (any_of HT_.out (by kernel_rfl)) (fun _ _ _ h => h) (Or.inl ⟨by rfl, ?_⟩) ?_ ?_
                    rotate_left
                    · intro w'
                      go_simp
                      with_reducible rfl
                    rotate_left
                    · simp only [Act.put, List.setIfInBounds_toArray, List.set_cons_zero, List.set_cons_succ, i64_w, i32_w]
                      rfl
                    refine pure_ (i := 5) (N := some 38) (v := ?_) (a' := ?_) #[true, true, true, true, true, true, false, false, false, false, false, false, false, false, false, false, false] rfl rfl (any_of HT_.out (by kernel_rfl)) (fun _ _ _ h => h) (Or.inl ⟨by rfl, ?_⟩) ?_ ?_
                    rotate_left
                    · intro w'
                      go_simp
                      with_reducible rfl
                    rotate_left
                    · simp only [Act.put, List.setIfInBounds_toArray, List.set_cons_zero, List.set_cons_succ, i64_w, i32_w]
                      rfl
                    refine pure_ (i := 8) (N := some 41) (v := ?_) (a' := ?_) #[true, true, true, true, true, true, false, false, true, false, false, false, false, false, false, false, false] rfl rfl (any_of HT_.out (by kernel_rfl)) (fun _ _ _ h => h) (Or.inl ⟨by rfl, ?_⟩) ?_ ?_
                    rotate_left
                    · intro w'
                      go_simp
                      with_reducible rfl
                    rotate_left
                    · simp only [Act.put, List.setIfInBounds_toArray, List.set_cons_zero, List.set_cons_succ, i64_w, i32_w]
                      rfl
                    refine pure_ (i := 9) (N := some 42) (v := ?_) (a' := ?_) #[true, true, true, true, true, true, false, false, true, true, false, false, false, false, false, false, false] rfl rfl (any_of HT_.out (by kernel_rfl)) (fun _ _ _ h => h) (Or.inl ⟨by rfl, ?_⟩) ?_ ?_
                    rotate_left
                    · intro w'
                      go_simp
                      with_reducible rfl
                    rotate_left
                    · simp only [Act.put, List.setIfInBounds_toArray, List.set_cons_zero, List.set_cons_succ, i64_w, i32_w]
                      rfl
                    refine pure_ (i := 10) (N := some 43) (v := ?_) (a' := ?_) #[true, true, true, true, true, true, false, false, true, true, true, false, false, false, false, false, false] rfl rfl (any_of HT_.out (by kernel_rfl)) (fun _ _ _ h => h) (Or.inl ⟨by rfl, ?_⟩) ?_ ?_
                    rotate_left
                    · intro w'
                      go_simp
                      with_reducible rfl
                    rotate_left
                    · simp only [Act.put, List.setIfInBounds_toArray, List.set_cons_zero, List.set_cons_succ, i64_w, i32_w]
                      rfl
                    refine pure_ (i := 11) (N := some 44) (v := ?_) (a' := ?_) #[true, true, true, true, true, true, false, false, true, true, true, true, false, false, false, false, false] rfl rfl (any_of HT_.out (by kernel_rfl)) (fun _ _ _ h => h) (Or.inl ⟨by rfl, ?_⟩) ?_ ?_
                    rotate_left
                    · intro w'
                      go_simp
                      with_reducible rfl
                    rotate_left
                    · simp only [Act.put, List.setIfInBounds_toArray, List.set_cons_zero, List.set_cons_succ, i64_w, i32_w]
                      rfl
                    refine take_ (i := 6) (N := some 39) (v := ?_) (a' := ?_) #[true, true, true, true, true, true, true, false, true, true, true, true, false, false, false, false, false] rfl rfl (take_ofW HT_.out HW_.out (by kernel_rfl)) (fun _ _ _ h => h) (Or.inl ⟨by rfl, ?_⟩) hHeld ?_ ?_
                    rotate_left
                    · rintro w' ⟨s0, s1, s2, s3⟩
                      go_simp
                      with_reducible rfl
                    rotate_left
                    · simp only [Act.put, List.setIfInBounds_toArray, List.set_cons_zero, List.set_cons_succ, i64_w, i32_w]
                      rfl
                    refine pure_ (i := 7) (N := some 40) (v := ?_) (a' := ?_) #[true, true, true, true, true, true, true, true, true, true, true, true, false, false, false, false, false] rfl rfl (any_of HT_.out (by kernel_rfl)) (fun _ _ _ h => h) (Or.inl ⟨by rfl, ?_⟩) ?_ ?_
                    rotate_left
                    · intro w'
                      go_simp
                      with_reducible rfl
                    rotate_left
                    · simp only [Act.put, List.setIfInBounds_toArray, List.set_cons_zero, List.set_cons_succ, i64_w, i32_w]
                      rfl
                    refine take_ (i := 12) (N := some 45) (v := ?_) (a' := ?_) #[true, true, true, true, true, true, true, true, true, true, true, true, true, false, false, false, false] rfl rfl (take_ofW HT_.out HW_.out (by kernel_rfl)) (fun _ _ _ h => h) (Or.inl ⟨by rfl, ?_⟩) hHeld ?_ ?_
                    rotate_left
                    · rintro w' ⟨s0, s1, s2, s3⟩
                      go_simp
                      with_reducible rfl
                    rotate_left
                    · simp only [Act.put, List.setIfInBounds_toArray, List.set_cons_zero, List.set_cons_succ, i64_w, i32_w]
                      rfl
                    refine pure_ (i := 13) (N := some 46) (v := ?_) (a' := ?_) #[true, true, true, true, true, true, true, true, true, true, true, true, true, true, false, false, false] rfl rfl (any_of HT_.out (by kernel_rfl)) (fun _ _ _ h => h) (Or.inl ⟨by rfl, ?_⟩) ?_ ?_
                    rotate_left
                    · intro w'
                      go_simp
                      with_reducible rfl
                    rotate_left
                    · simp only [Act.put, List.setIfInBounds_toArray, List.set_cons_zero, List.set_cons_succ, i64_w, i32_w]
                      rfl
                    refine one_ (i := 14) (N := some 47) #[true, true, true, true, true, true, true, true, true, true, true, true, true, true, true, false, false] rfl rfl (one_of HT_.out (by kernel_rfl)) (by decide) (fun K hK => ?_)
                    refine Kd.N_lit_step k144 _ 144 ?hg (N' := 47) ?hd (xs := ([(⟨1, (rd_T144 l0 (ji6)).f1⟩ : S144), (⟨2, (rd_T144 l0 x4_1).f1⟩ : S144)] : List (S144))) (inner := [.int .i64 1, .slice A103_1 ((rd_T144 l0 (ji6)).f1).length c103_1, .int .i64 2, .slice A104_1 ((rd_T144 l0 x4_1).f1).length c104_1]) (ok := (fun k_ => (P0_ k_ ∨ w.heap.size ≤ k_) ∧ some k_ ≠ (u3 : Value).ownBlock)) (okp := (fun k_ => (P0_ k_ ∨ w.heap.size ≤ k_) ∧ some k_ ≠ (u3 : Value).ownBlock)) ?hr ?hp (fun _ hk => hk) ((show ∀ k_, w10.heap.size ≤ k_ → (fun k_ => (P0_ k_ ∨ w.heap.size ≤ k_) ∧ some k_ ≠ (u3 : Value).ownBlock) k_ from fun k_ hk => ⟨(.inr (Nat.le_trans (below_size (by repeat (first | (with_reducible first | exact HB.out | apply below_alloc | apply pw_below_drewN | apply below_drew1) | exact HB.out))) hk)), Kd.fresh' (Kd.N_lt (by (with_reducible repeat (first | apply Kd.N_alloc | apply Kd.N_drewN | apply Kd.N_drew)); exact HO_3.out)) k_ hk⟩) _ (Nat.le_refl _)) (Below.refl _ _) (Nat.le_refl _) (by simp) ?_; (case hd => rfl); (case hg => rfl); (case hr => first | (go_simp; done) | (go_simp; rfl)); (case hp => exact (Reps.c2 (show Kd.FK k144 _ _ (⟨1, (rd_T144 l0 (ji6)).f1⟩ : S144) [.int .i64 1, .slice A103_1 ((rd_T144 l0 (ji6)).f1).length c103_1] from (k144_mkF _ _ (⟨1, (rd_T144 l0 (ji6)).f1⟩ : S144) (Kd.V_reads' (Kd.V_mono (ok' := (fun k_ => (P0_ k_ ∨ w.heap.size ≤ k_) ∧ some k_ ≠ (u3 : Value).ownBlock)) (HL103_1.out) (fun k_ hk => ⟨hk.1, hk.2⟩))).2.1 (Kd.V_F (Kd.V_mono (ok' := (fun k_ => (P0_ k_ ∨ w.heap.size ≤ k_) ∧ some k_ ≠ (u3 : Value).ownBlock)) (HL103_1.out) (fun k_ hk => ⟨hk.1, hk.2⟩))))) (Reps.c2 (show Kd.FK k144 _ _ (⟨2, (rd_T144 l0 x4_1).f1⟩ : S144) [.int .i64 2, .slice A104_1 ((rd_T144 l0 x4_1).f1).length c104_1] from (k144_mkF _ _ (⟨2, (rd_T144 l0 x4_1).f1⟩ : S144) (Kd.V_reads' (Kd.V_mono (ok' := (fun k_ => (P0_ k_ ∨ w.heap.size ≤ k_) ∧ some k_ ≠ (u3 : Value).ownBlock)) (HL104_1.out) (fun k_ hk => ⟨hk.1, hk.2⟩))).2.1 (Kd.V_F (Kd.V_mono (ok' := (fun k_ => (P0_ k_ ∨ w.heap.size ≤ k_) ∧ some k_ ≠ (u3 : Value).ownBlock)) (HL104_1.out) (fun k_ hk => ⟨hk.1, hk.2⟩))))) (Reps.none _ _))))
                    intro v106 w11 ho12 hb hg_ hnew_
                    have HS0_ := (hb.cell (World.block_lt_of_cell? _ _ (hHeld.1))).trans (hHeld.1)
                    have HS1_ := (hb.cell (World.block_lt_of_cell? _ _ (hHeld.2.1))).trans (hHeld.2.1)
                    have HS2_ := (hb.cell (World.block_lt_of_cell? _ _ (hHeld.2.2.1))).trans (hHeld.2.2.1)
                    have HS3_ := (hb.cell (World.block_lt_of_cell? _ _ (hHeld.2.2.2))).trans (hHeld.2.2.2)
                    clear hg_ hnew_
                    (first | rw [← Ny105.out] at ho12 | (simp only [Int.reduceToNat] at ho12; rw [← Ny105.out] at ho12))
                    have n0_ := Aside0.mk (Kd.V_elder' (by (with_reducible repeat (first | apply Kd.V_alloc | apply Kd.V_drewN | apply Kd.V_drew)); exact HO_0.out) (Kd.N_base ho12) hb)
                    have n1_ := Aside0.mk (Kd.N_elder' (by (with_reducible repeat (first | apply Kd.N_alloc | apply Kd.N_drewN | apply Kd.N_drew)); exact HO_3.out) (Kd.N_base ho12) hb)
                    have n2_ := Aside0.mk (Kd.V_elder' (by (with_reducible repeat (first | apply Kd.V_alloc | apply Kd.V_drewN | apply Kd.V_drew)); exact HL101_1.out) (Kd.N_base ho12) hb)
                    have n3_ := Aside0.mk (Kd.V_elder' (by (with_reducible repeat (first | apply Kd.V_alloc | apply Kd.V_drewN | apply Kd.V_drew)); exact HL102_1.out) (Kd.N_base ho12) hb)
                    have n4_ := Aside0.mk (Kd.V_elder' (by (with_reducible repeat (first | apply Kd.V_alloc | apply Kd.V_drewN | apply Kd.V_drew)); exact HL103_1.out) (Kd.N_base ho12) hb)
                    have n5_ := Aside0.mk (Kd.V_elder' (by (with_reducible repeat (first | apply Kd.V_alloc | apply Kd.V_drewN | apply Kd.V_drew)); exact HL104_1.out) (Kd.N_base ho12) hb)
                    have n6_ := Aside0.mk (Kd.N_lower ho12 (below_size (by repeat (first | (with_reducible first | exact HB.out | apply below_alloc | apply pw_below_drewN | apply below_drew1) | exact HB.out))))
                    have n7_ := Aside0.mk (Kd.C_below (by repeat (first | (with_reducible exact HR101_1.out) | (with_reducible refine Kd.C_alloc ?_ _) | (with_reducible refine Kd.C_drewN ?_ _) | (with_reducible refine Kd.C_drew ?_) | exact HR101_1.out)) hb)
                    have n8_ := Aside0.mk (Kd.C_below (by repeat (first | (with_reducible exact HR102_1.out) | (with_reducible refine Kd.C_alloc ?_ _) | (with_reducible refine Kd.C_drewN ?_ _) | (with_reducible refine Kd.C_drew ?_) | exact HR102_1.out)) hb)
                    have n9_ := Aside0.mk (Kd.C_below (by repeat (first | (with_reducible exact HR103_1.out) | (with_reducible refine Kd.C_alloc ?_ _) | (with_reducible refine Kd.C_drewN ?_ _) | (with_reducible refine Kd.C_drew ?_) | exact HR103_1.out)) hb)
                    have n10_ := Aside0.mk (Kd.C_below (by repeat (first | (with_reducible exact HR104_1.out) | (with_reducible refine Kd.C_alloc ?_ _) | (with_reducible refine Kd.C_drewN ?_ _) | (with_reducible refine Kd.C_drew ?_) | exact HR104_1.out)) hb)
                    have n11_ := Aside0.mk (below_step (by repeat (first | (with_reducible first | exact HB.out | apply below_alloc | apply pw_below_drewN | apply below_drew1) | exact HB.out)) hb)
                    clear HO_0
                    clear HO_3
                    clear HL101_1
                    clear HL102_1
                    clear HL103_1
                    clear HL104_1
                    clear HR101_1
                    clear HR102_1
                    clear HR103_1
                    clear HR104_1
                    clear HB
                    have HO_0 := n0_
                    have HO_3 := n1_
                    have HL101_1 := n2_
                    have HL102_1 := n3_
                    have HL103_1 := n4_
                    have HL104_1 := n5_
                    have HO107 := n6_
                    have HR101_1 := n7_
                    have HR102_1 := n8_
                    have HR103_1 := n9_
                    have HR104_1 := n10_
                    have HB := n11_
                    clear n0_ n1_ n2_ n3_ n4_ n5_ n6_ n7_ n8_ n9_ n10_ n11_
                    clear hb ho12
                    obtain ⟨Ao14, co14, eo14⟩ := Kd.N_slice HO107.out
                    (first | subst eo14 | (injection eo14 with f1_ f2_ f3_; have f4_ := f1_.symm; have f5_ := f3_.symm; clear f1_ f2_ f3_; subst f4_; subst f5_))
                    refine hK.out _ _ ⟨HS0_, HS1_, HS2_, HS3_⟩ (fun hHeld => ?_)
                    clear hK K
                    refine norm_ (a' := ?_) ?_ ?_
                    rotate_left
                    · show Act.put _ (some 47) _ = _
                      simp only [Act.put, List.setIfInBounds_toArray, List.set_cons_zero, List.set_cons_succ, i64_w, i32_w]
                      rfl
                    refine last_ (i := 15) (N := some 48) #[true, true, true, true, true, true, true, true, true, true, true, true, true, true, true, true, false] rfl rfl (one_of HT_.out (by kernel_rfl)) (by decide) (fun K hK => ?_)
                    refine Kd.N_append_rows_step k144 (w0 := w) w.heap.size (by rfl) (.tmp 33) (.tmp 47) 48 144 (.agg #[(.int .i64 0), (.slice none 0 0)]) 32 rfl Try.underlying48 info144 rfl (by decide) (by omega) u3 x3_1 y105 _ _ _ (fun k_ => (P0_ k_ ∨ w.heap.size ≤ k_)) (fun k_ => ((fun k_ => (P0_ k_ ∨ w.heap.size ≤ k_))) k_ ∧ some k_ ≠ (u3 : Value).ownBlock) rfl rfl ?aO ?aR (fun _ hk => hk) ?aF ?aB ?aS ?aL ?_
                    (case aR => exact (by skip; exact Kd.N_F (Kd.N_mono (ok' := (fun k_ => ((fun k_ => (P0_ k_ ∨ w.heap.size ≤ k_))) k_ ∧ some k_ ≠ (u3 : Value).ownBlock)) (HO107.out) (fun k_ hk => ⟨hk.1, hk.2⟩))))
                    (case aB => exact (by repeat (first | (with_reducible first | exact HB.out | apply below_alloc | apply pw_below_drewN | apply below_drew1) | exact HB.out)))
                    (case aF => exact (fun k_ hk => (.inr (Nat.le_trans (below_size (by repeat (first | (with_reducible first | exact HB.out | apply below_alloc | apply pw_below_drewN | apply below_drew1) | exact HB.out))) hk))))
                    (case aO => exact (by (with_reducible repeat (first | apply Kd.N_alloc | apply Kd.N_drewN | apply Kd.N_drew)); exact Kd.N_mono HO_3.out (fun _ hk => hk.1)))
                    (case aS => exact (below_size (by repeat (first | (with_reducible first | exact HB.out | apply below_alloc | apply pw_below_drewN | apply below_drew1) | exact HB.out))))
                    (case aL => have := LMc9.out; omega)
                    intro v109 w13 ho hb hg hat
                    rw [← Ny108.out] at ho
                    have n0_ := Aside0.mk (Kd.V_afterv (ok := (fun k_ => (P0_ k_ ∨ w.heap.size ≤ k_) ∧ some k_ ≠ (.slice Ao14 y105.length co14 : Value).ownBlock)) (by (with_reducible repeat (first | apply Kd.V_alloc | apply Kd.V_drewN | apply Kd.V_drew)); exact Kd.V_mono HO_0.out (fun _ hk => ⟨⟨hk.1.1, hk.2⟩, hk.1.2⟩)) hg hat)
                    have n1_ := Aside0.mk (Kd.V_afterv (ok := (fun k_ => (P0_ k_ ∨ w.heap.size ≤ k_) ∧ some k_ ≠ (.slice Ao14 y105.length co14 : Value).ownBlock)) (by (with_reducible repeat (first | apply Kd.V_alloc | apply Kd.V_drewN | apply Kd.V_drew)); exact Kd.V_mono HL101_1.out (fun _ hk => ⟨⟨hk.1.1, hk.2⟩, hk.1.2⟩)) hg hat)
                    have n2_ := Aside0.mk (Kd.V_afterv (ok := (fun k_ => (P0_ k_ ∨ w.heap.size ≤ k_) ∧ some k_ ≠ (.slice Ao14 y105.length co14 : Value).ownBlock)) (by (with_reducible repeat (first | apply Kd.V_alloc | apply Kd.V_drewN | apply Kd.V_drew)); exact Kd.V_mono HL102_1.out (fun _ hk => ⟨⟨hk.1.1, hk.2⟩, hk.1.2⟩)) hg hat)
                    have n3_ := Aside0.mk (Kd.V_afterv (ok := (fun k_ => (P0_ k_ ∨ w.heap.size ≤ k_) ∧ some k_ ≠ (.slice Ao14 y105.length co14 : Value).ownBlock)) (by (with_reducible repeat (first | apply Kd.V_alloc | apply Kd.V_drewN | apply Kd.V_drew)); exact Kd.V_mono HL103_1.out (fun _ hk => ⟨⟨hk.1.1, hk.2⟩, hk.1.2⟩)) hg hat)
                    have n4_ := Aside0.mk (Kd.V_afterv (ok := (fun k_ => (P0_ k_ ∨ w.heap.size ≤ k_) ∧ some k_ ≠ (.slice Ao14 y105.length co14 : Value).ownBlock)) (by (with_reducible repeat (first | apply Kd.V_alloc | apply Kd.V_drewN | apply Kd.V_drew)); exact Kd.V_mono HL104_1.out (fun _ hk => ⟨⟨hk.1.1, hk.2⟩, hk.1.2⟩)) hg hat)
                    have n5_ := Aside0.mk (Kd.N_afterv (ok := (fun k_ => (P0_ k_ ∨ w.heap.size ≤ k_))) (by (with_reducible repeat (first | apply Kd.N_alloc | apply Kd.N_drewN | apply Kd.N_drew)); exact HO107.out) hg hat)
                    have n6_ := Aside0.mk (hb)
                    have n7_ := Aside0.mk (ho)
                    clear HO_0
                    clear HL101_1
                    clear HL102_1
                    clear HL103_1
                    clear HL104_1
                    clear HO107
                    clear HB
                    clear HO_3
                    have HO_0 := n0_
                    have HL101_1 := n1_
                    have HL102_1 := n2_
                    have HL103_1 := n3_
                    have HL104_1 := n4_
                    have HO107 := n5_
                    have HB := n6_
                    have HO110 := n7_
                    clear n0_ n1_ n2_ n3_ n4_ n5_ n6_ n7_
                    clear ho hb hg hat
                    refine hK.out _ _ ?_
                    clear hK K
                    refine norm_ (a' := ?_) ?_ ?_
                    rotate_left
                    · show Act.put _ (some 48) _ = _
                      simp only [Act.put, List.setIfInBounds_toArray, List.set_cons_zero, List.set_cons_succ, i64_w, i32_w]
                      rfl
                    refine pure_ (i := 16) (N := some 3) (v := ?_) (a' := ?_) #[true, true, true, true, true, true, true, true, true, true, true, true, true, true, true, true, true] rfl rfl (any_of HT_.out (by kernel_rfl)) (fun _ _ _ h => h) (Or.inl ⟨by rfl, ?_⟩) ?_ ?_
                    rotate_left
                    · intro w'
                      go_simp
                      with_reducible rfl
                    rotate_left
                    · simp only [Act.put, List.setIfInBounds_toArray, List.set_cons_zero, List.set_cons_succ, i64_w, i32_w]
                      rfl
                    refine done_ (done_of HT_.out (by kernel_rfl)) ?_
                    try go_wp2
                    go_roundg k1
                    case measure => have := HK1.out; omega
                    case rel => exact ⟨(y108), (wrap64 ((ji6) + 1)), (by first | rfl | (simp; done) | (simp only [← hji6] <;> (first | rfl | simp)) | (simp [*]; done)), H', ⟨by have := HK1.out; omega⟩, ⟨by (with_reducible repeat (first | apply Kd.V_alloc | apply Kd.V_drewN | apply Kd.V_drew)); exact Kd.V_mono HO_0.out (fun _ hk => ⟨hk.1.1, hk.2⟩)⟩, ⟨by (with_reducible repeat (first | apply Kd.N_alloc | apply Kd.N_drewN | apply Kd.N_drew)); exact HO110.out⟩, ⟨by repeat (first | (with_reducible first | exact HB.out | apply below_alloc | apply pw_below_drewN | apply below_drew1) | exact HB.out)⟩⟩
                  · rw [if_neg c9] at H
                    exact absurd H (by simp)
                · rw [if_neg c8] at H
                  have c8b0 : (((rd_T144 l0 (ji6)).f0) == 2) = false := beq_eq_false_iff_ne.mpr c8
                  have c8b1 : (((rd_T144 l0 (ji6)).f0) != 2) = true := bne_iff_ne.mpr c8
                  obtain ⟨y111, hy111⟩ : ∃ y_ : List Int, y_ = (([0, 2, 1] : List Int)) := ⟨_, rfl⟩
                  replace H : (if 0 ≤ ((rd_T144 l0 x4_1).f0) then (if ((rd_T144 l0 x4_1).f0) < (y111.length : Int) then (if x3_1.length < 4398046511104 then (tripartiteref04_Back.l0 k1 l0 (x3_1 ++ [(⟨rd y111 ((rd_T144 l0 x4_1).f0), (rd_T144 l0 x4_1).f1⟩ : S144)]) ji6) else (none)) else (none)) else (none)) = some r := by first | (rw [hy111]; with_reducible exact H) | (have H2_ := (Option.bind_some _ _).symm.trans H; rw [hy111]; with_reducible exact H2_) | (have H2_ := (Option.bind_some _ _).symm.trans H; with_reducible exact H2_) | with_reducible exact H | (rw [hy111]; exact H) | exact H
                  have Ny111 := Aside0.mk hy111
                  clear hy111
                  by_cases c15 : 0 ≤ ((rd_T144 l0 x4_1).f0)
                  · rw [if_pos c15] at H
                    have c15b0 : decide (0 ≤ ((rd_T144 l0 x4_1).f0)) = true := decide_eq_true c15
                    clear c15
                    by_cases c16 : ((rd_T144 l0 x4_1).f0) < (y111.length : Int)
                    · rw [if_pos c16] at H
                      have c16b0 : decide (((rd_T144 l0 x4_1).f0) < (y111.length : Int)) = true := decide_eq_true c16
                      clear c16
                      by_cases c17 : x3_1.length < 4398046511104
                      · rw [if_pos c17] at H
                        have LMc17 := Aside0.mk c17
                        clear c17
                        obtain ⟨y117, hy117⟩ : ∃ y_ : List (S144), y_ = (x3_1 ++ [(⟨rd y111 ((rd_T144 l0 x4_1).f0), (rd_T144 l0 x4_1).f1⟩ : S144)]) := ⟨_, rfl⟩
                        replace H : (tripartiteref04_Back.l0 k1 l0 y117 ji6) = some r := by first | (rw [hy117]; with_reducible exact H) | (have H2_ := (Option.bind_some _ _).symm.trans H; rw [hy117]; with_reducible exact H2_) | (have H2_ := (Option.bind_some _ _).symm.trans H; with_reducible exact H2_) | with_reducible exact H | (rw [hy117]; exact H) | exact H
                        have Ny117 := Aside0.mk hy117
                        clear hy117
                        have H' := Aside0.mk H
                        clear H
                        have p101 : 0 ≤ (x4_1 : Int) := of_decide_eq_true (by first | (with_reducible assumption) | assumption)
                        have q101 : x4_1 < (l0.length : Int) := of_decide_eq_true (by first | (with_reducible assumption) | assumption)
                        obtain ⟨ad101, A101_1, c101_1, e101, hx101_0, hx101_1, hl101_1, hi101_1⟩ := at_T144 (Kd.V_reads' HO_0.out).2.2 x4_1 p101 q101
                        cases e101
                        obtain ⟨ce101, hce101, hMe101, hcc101⟩ := Kd.V_get HO_0.out z144 x4_1 p101 (by first | exact q101 | exact of_decide_eq_true (by first | (with_reducible assumption) | assumption) | (have e_ := (Kd.V_reads' HO_0.out).1; omega))
                        obtain ⟨ua101_1, uc101_1, rfl, ul101_1, ge101_1⟩ := k144_openF hMe101
                        have hv101_1 := hcc101 1 _ rfl
                        rw [add_field _ _ 1 (by omega)] at hv101_1
                        replace hv101_1 := Option.some.inj (hv101_1.symm.trans hx101_1)
                        injection hv101_1 with hva_ hvn_ hvc_
                        rw [hva_] at ge101_1
                        rw [hvc_] at ul101_1
                        have HL101_1 := Aside0.mk (show Kd.V Kd.string 9 _ w.heap.size _ _ ((rd_T144 l0 x4_1).f1) from Kd.V_mk ul101_1 ge101_1)
                        clear hva_ hvn_ hvc_ ge101_1 ul101_1
                        clear hcc101 hce101
                        have HR101_1 := Aside0.mk hi101_1
                        have HC101_1 := Aside0.mk hl101_1
                        clear hi101_1 hl101_1
                        replace p101 := eq_true p101
                        replace q101 := eq_true q101
                        have p102 : 0 ≤ ((ji6) : Int) := of_decide_eq_true (by first | (with_reducible assumption) | assumption)
                        have q102 : (ji6) < (l0.length : Int) := of_decide_eq_true (by first | (with_reducible assumption) | assumption)
                        obtain ⟨ad102, A102_1, c102_1, e102, hx102_0, hx102_1, hl102_1, hi102_1⟩ := at_T144 (Kd.V_reads' HO_0.out).2.2 (ji6) p102 q102
                        obtain rfl : ad101 = ad102 := (by injection e102)
                        obtain ⟨ce102, hce102, hMe102, hcc102⟩ := Kd.V_get HO_0.out z144 (ji6) p102 (by first | exact q102 | exact of_decide_eq_true (by first | (with_reducible assumption) | assumption) | (have e_ := (Kd.V_reads' HO_0.out).1; omega))
                        obtain ⟨ua102_1, uc102_1, rfl, ul102_1, ge102_1⟩ := k144_openF hMe102
                        have hv102_1 := hcc102 1 _ rfl
                        rw [add_field _ _ 1 (by omega)] at hv102_1
                        replace hv102_1 := Option.some.inj (hv102_1.symm.trans hx102_1)
                        injection hv102_1 with hva_ hvn_ hvc_
                        rw [hva_] at ge102_1
                        rw [hvc_] at ul102_1
                        have HL102_1 := Aside0.mk (show Kd.V Kd.string 9 _ w.heap.size _ _ ((rd_T144 l0 (ji6)).f1) from Kd.V_mk ul102_1 ge102_1)
                        clear hva_ hvn_ hvc_ ge102_1 ul102_1
                        clear hcc102 hce102
                        have HR102_1 := Aside0.mk hi102_1
                        have HC102_1 := Aside0.mk hl102_1
                        clear hi102_1 hl102_1
                        replace p102 := eq_true p102
                        replace q102 := eq_true q102
                        try go_wp2
                        have pi115 : (0 ≤ (((rd_T144 l0 x4_1).f0) : Int)) = True := eq_true (of_decide_eq_true (by first | (with_reducible assumption) | assumption))
                        have qi115 : (((rd_T144 l0 x4_1).f0) < (y111.length : Int)) = True := eq_true (of_decide_eq_true (by first | (with_reducible assumption) | assumption))
                        have n0_ := Aside0.mk (Kd.V_drew HO_0.out)
                        have n1_ := Aside0.mk (Kd.N_drew HO_3.out)
                        have n2_ := Aside0.mk (Kd.V_drew HL101_1.out)
                        have n3_ := Aside0.mk (Kd.V_drew HL102_1.out)
                        have n4_ := Aside0.mk (Kd.C_drew HR101_1.out)
                        have n5_ := Aside0.mk (Kd.C_drew HR102_1.out)
                        have n6_ := Aside0.mk (below_drew1 HB.out)
                        clear HO_0
                        clear HO_3
                        clear HL101_1
                        clear HL102_1
                        clear HR101_1
                        clear HR102_1
                        clear HB
                        have HO_0 := n0_
                        have HO_3 := n1_
                        have HL101_1 := n2_
                        have HL102_1 := n3_
                        have HR101_1 := n4_
                        have HR102_1 := n5_
                        have HB := n6_
                        clear n0_ n1_ n2_ n3_ n4_ n5_ n6_
                        have p114 : 0 ≤ (x4_1 : Int) := of_decide_eq_true (by first | (with_reducible assumption) | assumption)
                        have q114 : x4_1 < (l0.length : Int) := of_decide_eq_true (by first | (with_reducible assumption) | assumption)
                        obtain ⟨ad114, A114_1, c114_1, e114, hx114_0, hx114_1, hl114_1, hi114_1⟩ := at_T144 (Kd.V_reads' HO_0.out).2.2 x4_1 p114 q114
                        obtain rfl : ad101 = ad114 := (by injection e114)
                        obtain ⟨ce114, hce114, hMe114, hcc114⟩ := Kd.V_get HO_0.out z144 x4_1 p114 (by first | exact q114 | exact of_decide_eq_true (by first | (with_reducible assumption) | assumption) | (have e_ := (Kd.V_reads' HO_0.out).1; omega))
                        obtain ⟨ua114_1, uc114_1, rfl, ul114_1, ge114_1⟩ := k144_openF hMe114
                        have hv114_1 := hcc114 1 _ rfl
                        rw [add_field _ _ 1 (by omega)] at hv114_1
                        replace hv114_1 := Option.some.inj (hv114_1.symm.trans hx114_1)
                        injection hv114_1 with hva_ hvn_ hvc_
                        rw [hva_] at ge114_1
                        rw [hvc_] at ul114_1
                        have HL114_1 := Aside0.mk (show Kd.V Kd.string 9 _ w.heap.size _ _ ((rd_T144 l0 x4_1).f1) from Kd.V_mk ul114_1 ge114_1)
                        clear hva_ hvn_ hvc_ ge114_1 ul114_1
                        clear hcc114 hce114
                        have HR114_1 := Aside0.mk hi114_1
                        have HC114_1 := Aside0.mk hl114_1
                        clear hi114_1 hl114_1
                        replace p114 := eq_true p114
                        replace q114 := eq_true q114
                        have p116 : 0 ≤ (x4_1 : Int) := of_decide_eq_true (by first | (with_reducible assumption) | assumption)
                        have q116 : x4_1 < (l0.length : Int) := of_decide_eq_true (by first | (with_reducible assumption) | assumption)
                        obtain ⟨ad116, A116_1, c116_1, e116, hx116_0, hx116_1, hl116_1, hi116_1⟩ := at_T144 (Kd.V_reads' HO_0.out).2.2 x4_1 p116 q116
                        obtain rfl : ad101 = ad116 := (by injection e116)
                        obtain ⟨ce116, hce116, hMe116, hcc116⟩ := Kd.V_get HO_0.out z144 x4_1 p116 (by first | exact q116 | exact of_decide_eq_true (by first | (with_reducible assumption) | assumption) | (have e_ := (Kd.V_reads' HO_0.out).1; omega))
                        obtain ⟨ua116_1, uc116_1, rfl, ul116_1, ge116_1⟩ := k144_openF hMe116
                        have hv116_1 := hcc116 1 _ rfl
                        rw [add_field _ _ 1 (by omega)] at hv116_1
                        replace hv116_1 := Option.some.inj (hv116_1.symm.trans hx116_1)
                        injection hv116_1 with hva_ hvn_ hvc_
                        rw [hva_] at ge116_1
                        rw [hvc_] at ul116_1
                        have HL116_1 := Aside0.mk (show Kd.V Kd.string 9 _ w.heap.size _ _ ((rd_T144 l0 x4_1).f1) from Kd.V_mk ul116_1 ge116_1)
                        clear hva_ hvn_ hvc_ ge116_1 ul116_1
                        clear hcc116 hce116
                        have HR116_1 := Aside0.mk hi116_1
                        have HC116_1 := Aside0.mk hl116_1
                        clear hi116_1 hl116_1
                        replace p116 := eq_true p116
                        replace q116 := eq_true q116
                        have ea_ := Option.some.inj (hx114_1.symm.trans hx116_1)
                        injection ea_ with ea_ en_ ec_
                        subst ea_
                        subst ec_
                        clear en_
                        refine start_ (n := 18) (S := fun w' => w'.cell? (ad101.add ((x4_1).toNat * 2)) = some (.int .i64 ((rd_T144 l0 x4_1).f0)) ∧ w'.cell? ⟨(ad101.add ((x4_1).toNat * 2)).block, (ad101.add ((x4_1).toNat * 2)).off + 1, none⟩ = some (.slice A114_1 ((rd_T144 l0 x4_1).f1).length c114_1) ∧ w'.cell? (ad101.add ((x4_1).toNat * 2)) = some (.int .i64 ((rd_T144 l0 x4_1).f0)) ∧ w'.cell? ⟨(ad101.add ((x4_1).toNat * 2)).block, (ad101.add ((x4_1).toNat * 2)).off + 1, none⟩ = some (.slice A114_1 ((rd_T144 l0 x4_1).f1).length c114_1)) (ds := [15, 16]) #[false, false, false, false, false, false, false, false, false, false, false, false, false, false, false, false, false, false] (by kernel_rfl) rfl rfl ⟨hx114_0, hx114_1, hx116_0, hx116_1⟩ (fun hHeld => ?_); refine with_tabW tripartiteref04_Back.tab8 tripartiteref04_Back.bits8 (fun HT_ HW_ => ?_)
                        generalize wr.drew = w18 at HO_0 HO_3 HL101_1 HL102_1 HR101_1 HR102_1 HB HL114_1 HL116_1 HR114_1 HR116_1 hx114_0 hx114_1 hx116_0 hx116_1 hHeld ⊢
                        refine pure_ (i := 0) (N := some 51) (v := ?_) (a' := ?_) #[true, false, false, false, false, false, false, false, false, false, false, false, false, false, false, false, false, false] rfl rfl (any_of HT_.out (by kernel_rfl)) (fun _ _ _ h => h) (Or.inl ⟨by rfl, ?_⟩) ?_ ?_
                        rotate_left
                        · intro w'
                          go_simp
                          with_reducible rfl
                        rotate_left
                        · simp only [Act.put, List.setIfInBounds_toArray, List.set_cons_zero, List.set_cons_succ, i64_w, i32_w]
                          rfl
                        refine pure_ (i := 2) (N := some 53) (v := ?_) (a' := ?_) #[true, false, true, false, false, false, false, false, false, false, false, false, false, false, false, false, false, false] rfl rfl (any_of HT_.out (by kernel_rfl)) (fun _ _ _ h => h) (Or.inl ⟨by rfl, ?_⟩) ?_ ?_
                        rotate_left
                        · intro w'
                          go_simp
                          with_reducible rfl
                        rotate_left
                        · simp only [Act.put, List.setIfInBounds_toArray, List.set_cons_zero, List.set_cons_succ, i64_w, i32_w]
                          rfl
                        refine pure_ (i := 3) (N := some 54) (v := ?_) (a' := ?_) #[true, false, true, true, false, false, false, false, false, false, false, false, false, false, false, false, false, false] rfl rfl (any_of HT_.out (by kernel_rfl)) (fun _ _ _ h => h) (Or.inl ⟨by rfl, ?_⟩) ?_ ?_
                        rotate_left
                        · intro w'
                          go_simp
                          with_reducible rfl
                        rotate_left
                        · simp only [Act.put, List.setIfInBounds_toArray, List.set_cons_zero, List.set_cons_succ, i64_w, i32_w]
                          rfl
                        refine pure_ (i := 4) (N := some 55) (v := ?_) (a' := ?_) #[true, false, true, true, true, false, false, false, false, false, false, false, false, false, false, false, false, false] rfl rfl (any_of HT_.out (by kernel_rfl)) (fun _ _ _ h => h) (Or.inl ⟨by rfl, ?_⟩) ?_ ?_
                        rotate_left
                        · intro w'
                          go_simp
                          with_reducible rfl
                        rotate_left
                        · simp only [Act.put, List.setIfInBounds_toArray, List.set_cons_zero, List.set_cons_succ, i64_w, i32_w]
                          rfl
                        refine pure_ (i := 5) (N := some 56) (v := ?_) (a' := ?_) #[true, false, true, true, true, true, false, false, false, false, false, false, false, false, false, false, false, false] rfl rfl (any_of HT_.out (by kernel_rfl)) (fun _ _ _ h => h) (Or.inl ⟨by rfl, ?_⟩) ?_ ?_
                        rotate_left
                        · intro w'
                          go_simp
                          with_reducible rfl
                        rotate_left
                        · simp only [Act.put, List.setIfInBounds_toArray, List.set_cons_zero, List.set_cons_succ, i64_w, i32_w]
                          rfl
                        refine pure_ (i := 9) (N := some 60) (v := ?_) (a' := ?_) #[true, false, true, true, true, true, false, false, false, true, false, false, false, false, false, false, false, false] rfl rfl (any_of HT_.out (by kernel_rfl)) (fun _ _ _ h => h) (Or.inl ⟨by rfl, ?_⟩) ?_ ?_
                        rotate_left
                        · intro w'
                          go_simp
                          with_reducible rfl
                        rotate_left
                        · simp only [Act.put, List.setIfInBounds_toArray, List.set_cons_zero, List.set_cons_succ, i64_w, i32_w]
                          rfl
                        refine pure_ (i := 10) (N := some 61) (v := ?_) (a' := ?_) #[true, false, true, true, true, true, false, false, false, true, true, false, false, false, false, false, false, false] rfl rfl (any_of HT_.out (by kernel_rfl)) (fun _ _ _ h => h) (Or.inl ⟨by rfl, ?_⟩) ?_ ?_
                        rotate_left
                        · intro w'
                          go_simp
                          with_reducible rfl
                        rotate_left
                        · simp only [Act.put, List.setIfInBounds_toArray, List.set_cons_zero, List.set_cons_succ, i64_w, i32_w]
                          rfl
                        refine pure_ (i := 11) (N := some 62) (v := ?_) (a' := ?_) #[true, false, true, true, true, true, false, false, false, true, true, true, false, false, false, false, false, false] rfl rfl (any_of HT_.out (by kernel_rfl)) (fun _ _ _ h => h) (Or.inl ⟨by rfl, ?_⟩) ?_ ?_
                        rotate_left
                        · intro w'
                          go_simp
                          with_reducible rfl
                        rotate_left
                        · simp only [Act.put, List.setIfInBounds_toArray, List.set_cons_zero, List.set_cons_succ, i64_w, i32_w]
                          rfl
                        refine pure_ (i := 12) (N := some 63) (v := ?_) (a' := ?_) #[true, false, true, true, true, true, false, false, false, true, true, true, true, false, false, false, false, false] rfl rfl (any_of HT_.out (by kernel_rfl)) (fun _ _ _ h => h) (Or.inl ⟨by rfl, ?_⟩) ?_ ?_
                        rotate_left
                        · intro w'
                          go_simp
                          with_reducible rfl
                        rotate_left
                        · simp only [Act.put, List.setIfInBounds_toArray, List.set_cons_zero, List.set_cons_succ, i64_w, i32_w]
                          rfl
                        refine take_ (i := 6) (N := some 57) (v := ?_) (a' := ?_) #[true, false, true, true, true, true, true, false, false, true, true, true, true, false, false, false, false, false] rfl rfl (take_ofW HT_.out HW_.out (by kernel_rfl)) (fun _ _ _ h => h) (Or.inl ⟨by rfl, ?_⟩) hHeld ?_ ?_
                        rotate_left
                        · rintro w' ⟨s0, s1, s2, s3⟩
                          go_simp
                          with_reducible rfl
                        rotate_left
                        · simp only [Act.put, List.setIfInBounds_toArray, List.set_cons_zero, List.set_cons_succ, i64_w, i32_w]
                          rfl
                        refine take_ (i := 13) (N := some 64) (v := ?_) (a' := ?_) #[true, false, true, true, true, true, true, false, false, true, true, true, true, true, false, false, false, false] rfl rfl (take_ofW HT_.out HW_.out (by kernel_rfl)) (fun _ _ _ h => h) (Or.inl ⟨by rfl, ?_⟩) hHeld ?_ ?_
                        rotate_left
                        · rintro w' ⟨s0, s1, s2, s3⟩
                          go_simp
                          with_reducible rfl
                        rotate_left
                        · simp only [Act.put, List.setIfInBounds_toArray, List.set_cons_zero, List.set_cons_succ, i64_w, i32_w]
                          rfl
                        refine one_ (i := 1) (N := some 52) #[true, true, true, true, true, true, true, false, false, true, true, true, true, true, false, false, false, false] rfl rfl (one_of HT_.out (by kernel_rfl)) (by decide) (fun K hK => ?_)
                        refine Kd.R_lit_step (Kd.int .i64) _ 3 ?hg (N := 52) ?hd (xs := ([0, 2, 1] : List Int)) (inner := [.int .i64 0, .int .i64 2, .int .i64 1]) (ok := fun _ => True) (okp := fun _ => True) ?hr ?hp (fun _ hk => hk) trivial (Below.refl _ _) (Nat.le_refl _) (by simp) ?_; (case hd => rfl); (case hg => rfl); (case hr => first | (go_simp; done) | (go_simp; rfl)); (case hp => exact (Reps.one (show Kd.M (Kd.int .i64) _ _ _ 0 [.int .i64 0] from rfl) (Reps.one (show Kd.M (Kd.int .i64) _ _ _ 2 [.int .i64 2] from rfl) (Reps.one (show Kd.M (Kd.int .i64) _ _ _ 1 [.int .i64 1] from rfl) (Reps.none _ _)))))
                        intro v112 w19 ho20 hb hg_ hnew_
                        have HS0_ := (hb.cell (World.block_lt_of_cell? _ _ (hHeld.1))).trans (hHeld.1)
                        have HS1_ := (hb.cell (World.block_lt_of_cell? _ _ (hHeld.2.1))).trans (hHeld.2.1)
                        have HS2_ := (hb.cell (World.block_lt_of_cell? _ _ (hHeld.2.2.1))).trans (hHeld.2.2.1)
                        have HS3_ := (hb.cell (World.block_lt_of_cell? _ _ (hHeld.2.2.2))).trans (hHeld.2.2.2)
                        clear hg_ hnew_
                        (first | rw [← Ny111.out] at ho20 | (simp only [Int.reduceToNat] at ho20; rw [← Ny111.out] at ho20))
                        have n0_ := Aside0.mk (Kd.V_elder' (by (with_reducible repeat (first | apply Kd.V_alloc | apply Kd.V_drewN | apply Kd.V_drew)); exact HO_0.out) (Kd.R_base ho20) hb)
                        have n1_ := Aside0.mk (Kd.N_elder' (by (with_reducible repeat (first | apply Kd.N_alloc | apply Kd.N_drewN | apply Kd.N_drew)); exact HO_3.out) (Kd.R_base ho20) hb)
                        have n2_ := Aside0.mk (Kd.V_elder' (by (with_reducible repeat (first | apply Kd.V_alloc | apply Kd.V_drewN | apply Kd.V_drew)); exact HL101_1.out) (Kd.R_base ho20) hb)
                        have n3_ := Aside0.mk (Kd.V_elder' (by (with_reducible repeat (first | apply Kd.V_alloc | apply Kd.V_drewN | apply Kd.V_drew)); exact HL102_1.out) (Kd.R_base ho20) hb)
                        have n4_ := Aside0.mk (Kd.V_elder' (by (with_reducible repeat (first | apply Kd.V_alloc | apply Kd.V_drewN | apply Kd.V_drew)); exact HL114_1.out) (Kd.R_base ho20) hb)
                        have n5_ := Aside0.mk (Kd.V_elder' (by (with_reducible repeat (first | apply Kd.V_alloc | apply Kd.V_drewN | apply Kd.V_drew)); exact HL116_1.out) (Kd.R_base ho20) hb)
                        have n6_ := Aside0.mk (Kd.R_lower (Kd.R_newM (M := fun k_ => (w.heap.size ≤ k_)) ho20 (below_size (by repeat (first | (with_reducible first | exact HB.out | apply below_alloc | apply pw_below_drewN | apply below_drew1) | exact HB.out))) (fun k_ h_ => h_)) (below_size (by repeat (first | (with_reducible first | exact HB.out | apply below_alloc | apply pw_below_drewN | apply below_drew1) | exact HB.out))))
                        have n7_ := Aside0.mk (Kd.C_below (by repeat (first | (with_reducible exact HR101_1.out) | (with_reducible refine Kd.C_alloc ?_ _) | (with_reducible refine Kd.C_drewN ?_ _) | (with_reducible refine Kd.C_drew ?_) | exact HR101_1.out)) hb)
                        have n8_ := Aside0.mk (Kd.C_below (by repeat (first | (with_reducible exact HR102_1.out) | (with_reducible refine Kd.C_alloc ?_ _) | (with_reducible refine Kd.C_drewN ?_ _) | (with_reducible refine Kd.C_drew ?_) | exact HR102_1.out)) hb)
                        have n9_ := Aside0.mk (Kd.C_below (by repeat (first | (with_reducible exact HR114_1.out) | (with_reducible refine Kd.C_alloc ?_ _) | (with_reducible refine Kd.C_drewN ?_ _) | (with_reducible refine Kd.C_drew ?_) | exact HR114_1.out)) hb)
                        have n10_ := Aside0.mk (Kd.C_below (by repeat (first | (with_reducible exact HR116_1.out) | (with_reducible refine Kd.C_alloc ?_ _) | (with_reducible refine Kd.C_drewN ?_ _) | (with_reducible refine Kd.C_drew ?_) | exact HR116_1.out)) hb)
                        have n11_ := Aside0.mk (below_step (by repeat (first | (with_reducible first | exact HB.out | apply below_alloc | apply pw_below_drewN | apply below_drew1) | exact HB.out)) hb)
                        clear HO_0
                        clear HO_3
                        clear HL101_1
                        clear HL102_1
                        clear HL114_1
                        clear HL116_1
                        clear HR101_1
                        clear HR102_1
                        clear HR114_1
                        clear HR116_1
                        clear HB
                        have HO_0 := n0_
                        have HO_3 := n1_
                        have HL101_1 := n2_
                        have HL102_1 := n3_
                        have HL114_1 := n4_
                        have HL116_1 := n5_
                        have HO113 := n6_
                        have HR101_1 := n7_
                        have HR102_1 := n8_
                        have HR114_1 := n9_
                        have HR116_1 := n10_
                        have HB := n11_
                        clear n0_ n1_ n2_ n3_ n4_ n5_ n6_ n7_ n8_ n9_ n10_ n11_
                        clear hb ho20
                        obtain ⟨Ao21, co21, eo21⟩ := Kd.R_slice HO113.out
                        subst eo21
                        obtain ⟨ado21, fo21, _⟩ := Kd.at_int (Kd.R_reads' HO113.out).2.2 0 (by decide) (by rw [Ny111.out]; simp)
                        cases fo21
                        refine hK.out _ _ ⟨HS0_, HS1_, HS2_, HS3_⟩ (fun hHeld => ?_)
                        clear hK K
                        refine norm_ (a' := ?_) ?_ ?_
                        rotate_left
                        · show Act.put _ (some 52) _ = _
                          simp only [Act.put, List.setIfInBounds_toArray, List.set_cons_zero, List.set_cons_succ, i64_w, i32_w]
                          rfl
                        refine pure_ (i := 7) (N := some 58) (v := ?_) (a' := ?_) #[true, true, true, true, true, true, true, true, false, true, true, true, true, true, false, false, false, false] rfl rfl (any_of HT_.out (by kernel_rfl)) (fun _ _ _ h => h) (Or.inl ⟨by rfl, ?_⟩) ?_ ?_
                        rotate_left
                        · intro w'
                          go_simp
                          with_reducible rfl
                        rotate_left
                        · simp only [Act.put, List.setIfInBounds_toArray, List.set_cons_zero, List.set_cons_succ, i64_w, i32_w]
                          rfl
                        refine one_ (i := 8) (N := some 59) #[true, true, true, true, true, true, true, true, true, true, true, true, true, true, false, false, false, false] rfl rfl (one_of HT_.out (by kernel_rfl)) (by decide) (fun K hK => ?_)
                        (have p115 : 0 ≤ (((rd_T144 l0 x4_1).f0) : Int) := of_decide_eq_true (by first | (with_reducible assumption) | assumption); have q115 : ((rd_T144 l0 x4_1).f0) < (y111.length : Int) := of_decide_eq_true (by first | (with_reducible assumption) | assumption); obtain ⟨ad115, e115, hx115_0⟩ := Kd.at_int (Kd.R_reads' HO113.out).2.2 ((rd_T144 l0 x4_1).f0) p115 q115; obtain rfl : ado21 = ad115 := (by injection e115))
                        refine value_ (w1 := ?_) (v := ?_) (by rfl) rfl ?_ ?_
                        rotate_left 2
                        · go_simp
                          constructor
                          · rfl
                          · rfl
                        clear hx115_0
                        refine hK.out _ _ ⟨hHeld.1, hHeld.2.1, hHeld.2.2.1, hHeld.2.2.2⟩ (fun hHeld => ?_)
                        clear hK K
                        refine norm_ (a' := ?_) ?_ ?_
                        rotate_left
                        · show Act.put _ (some 59) _ = _
                          simp only [Act.put, List.setIfInBounds_toArray, List.set_cons_zero, List.set_cons_succ, i64_w, i32_w]
                          rfl
                        refine pure_ (i := 14) (N := some 65) (v := ?_) (a' := ?_) #[true, true, true, true, true, true, true, true, true, true, true, true, true, true, true, false, false, false] rfl rfl (any_of HT_.out (by kernel_rfl)) (fun _ _ _ h => h) (Or.inl ⟨by rfl, ?_⟩) ?_ ?_
                        rotate_left
                        · intro w'
                          go_simp
                          with_reducible rfl
                        rotate_left
                        · simp only [Act.put, List.setIfInBounds_toArray, List.set_cons_zero, List.set_cons_succ, i64_w, i32_w]
                          rfl
                        refine last_ (i := 15) (N := some 66) #[true, true, true, true, true, true, true, true, true, true, true, true, true, true, true, true, false, false] rfl rfl (one_of HT_.out (by kernel_rfl)) (by decide) (fun K hK => ?_)
                        refine value_ (w1 := ?_) (v := ?_) (by rfl) rfl ?_ ?_
                        rotate_left 2
                        · go_simp
                          constructor
                          · rfl
                          · rfl
                        refine hK.out _ _ ?_
                        clear hK K
                        refine norm_ (a' := ?_) ?_ ?_
                        rotate_left
                        · show Act.put _ (some 66) _ = _
                          simp only [Act.put, List.setIfInBounds_toArray, List.set_cons_zero, List.set_cons_succ, i64_w, i32_w]
                          rfl
                        refine last_ (i := 16) (N := some 67) #[true, true, true, true, true, true, true, true, true, true, true, true, true, true, true, true, true, false] rfl rfl (one_of HT_.out (by kernel_rfl)) (by decide) (fun K hK => ?_)
                        refine Kd.N_append_step k144 (w0 := w) w.heap.size (by rfl) (.tmp 51) (.tmp 66) 48 144 (.agg #[(.int .i64 0), (.slice none 0 0)]) 32 rfl Try.underlying48 info144 rfl (by decide) (by omega) u3 x3_1 (⟨rd y111 ((rd_T144 l0 x4_1).f0), (rd_T144 l0 x4_1).f1⟩ : S144) [.int .i64 (rd y111 ((rd_T144 l0 x4_1).f0)), .slice A114_1 ((rd_T144 l0 x4_1).f1).length c114_1] (fun k_ => (P0_ k_ ∨ w.heap.size ≤ k_) ∧ some k_ ≠ (.slice (some ado21) y111.length co21 : Value).ownBlock) (fun k_ => ((fun k_ => (P0_ k_ ∨ w.heap.size ≤ k_) ∧ some k_ ≠ (.slice (some ado21) y111.length co21 : Value).ownBlock)) k_ ∧ some k_ ≠ (u3 : Value).ownBlock) rfl rfl ?aP (fun _ hk => hk) ?aF ?aO ?aB ?aS ?aL ?_
                        (case aP => exact (k144_mkF _ _ (⟨rd y111 ((rd_T144 l0 x4_1).f0), (rd_T144 l0 x4_1).f1⟩ : S144) (Kd.V_reads' (Kd.V_mono (ok' := (fun k_ => ((fun k_ => (P0_ k_ ∨ w.heap.size ≤ k_) ∧ some k_ ≠ (.slice (some ado21) y111.length co21 : Value).ownBlock)) k_ ∧ some k_ ≠ (u3 : Value).ownBlock)) (HL116_1.out) (fun k_ hk => ⟨⟨hk.1.1, hk.2⟩, hk.1.2⟩))).2.1 (Kd.V_F (Kd.V_mono (ok' := (fun k_ => ((fun k_ => (P0_ k_ ∨ w.heap.size ≤ k_) ∧ some k_ ≠ (.slice (some ado21) y111.length co21 : Value).ownBlock)) k_ ∧ some k_ ≠ (u3 : Value).ownBlock)) (HL116_1.out) (fun k_ hk => ⟨⟨hk.1.1, hk.2⟩, hk.1.2⟩)))))
                        (case aB => exact (by repeat (first | (with_reducible first | exact HB.out | apply below_alloc | apply pw_below_drewN | apply below_drew1) | exact HB.out)))
                        (case aF => exact (fun k_ hk => ⟨(.inr (Nat.le_trans (below_size (by repeat (first | (with_reducible first | exact HB.out | apply below_alloc | apply pw_below_drewN | apply below_drew1) | exact HB.out))) hk)), Kd.fresh' (Kd.R_lt (by (with_reducible repeat (first | apply Kd.R_alloc | apply Kd.R_drewN | apply Kd.R_drew)); exact HO113.out)) k_ hk⟩))
                        (case aO => exact (by (with_reducible repeat (first | apply Kd.N_alloc | apply Kd.N_drewN | apply Kd.N_drew)); exact HO_3.out))
                        (case aS => exact (below_size (by repeat (first | (with_reducible first | exact HB.out | apply below_alloc | apply pw_below_drewN | apply below_drew1) | exact HB.out))))
                        (case aL => have := LMc17.out; omega)
                        intro v118 w22 ho hb hg hat
                        rw [← Ny117.out] at ho
                        have n0_ := Aside0.mk (Kd.V_afterv (ok := (fun k_ => (P0_ k_ ∨ w.heap.size ≤ k_) ∧ some k_ ≠ (.slice (some ado21) y111.length co21 : Value).ownBlock)) (by (with_reducible repeat (first | apply Kd.V_alloc | apply Kd.V_drewN | apply Kd.V_drew)); exact Kd.V_mono HO_0.out (fun _ hk => ⟨⟨hk.1.1, hk.2⟩, hk.1.2⟩)) hg hat)
                        have n1_ := Aside0.mk (Kd.V_afterv (ok := (fun k_ => (P0_ k_ ∨ w.heap.size ≤ k_) ∧ some k_ ≠ (.slice (some ado21) y111.length co21 : Value).ownBlock)) (by (with_reducible repeat (first | apply Kd.V_alloc | apply Kd.V_drewN | apply Kd.V_drew)); exact Kd.V_mono HL101_1.out (fun _ hk => ⟨⟨hk.1.1, hk.2⟩, hk.1.2⟩)) hg hat)
                        have n2_ := Aside0.mk (Kd.V_afterv (ok := (fun k_ => (P0_ k_ ∨ w.heap.size ≤ k_) ∧ some k_ ≠ (.slice (some ado21) y111.length co21 : Value).ownBlock)) (by (with_reducible repeat (first | apply Kd.V_alloc | apply Kd.V_drewN | apply Kd.V_drew)); exact Kd.V_mono HL102_1.out (fun _ hk => ⟨⟨hk.1.1, hk.2⟩, hk.1.2⟩)) hg hat)
                        have n3_ := Aside0.mk (Kd.V_afterv (ok := (fun k_ => (P0_ k_ ∨ w.heap.size ≤ k_) ∧ some k_ ≠ (.slice (some ado21) y111.length co21 : Value).ownBlock)) (by (with_reducible repeat (first | apply Kd.V_alloc | apply Kd.V_drewN | apply Kd.V_drew)); exact Kd.V_mono HL114_1.out (fun _ hk => ⟨⟨hk.1.1, hk.2⟩, hk.1.2⟩)) hg hat)
                        have n4_ := Aside0.mk (Kd.V_afterv (ok := (fun k_ => (P0_ k_ ∨ w.heap.size ≤ k_) ∧ some k_ ≠ (.slice (some ado21) y111.length co21 : Value).ownBlock)) (by (with_reducible repeat (first | apply Kd.V_alloc | apply Kd.V_drewN | apply Kd.V_drew)); exact Kd.V_mono HL116_1.out (fun _ hk => ⟨⟨hk.1.1, hk.2⟩, hk.1.2⟩)) hg hat)
                        have n5_ := Aside0.mk (Kd.R_over' (by (with_reducible repeat (first | apply Kd.R_alloc | apply Kd.R_drewN | apply Kd.R_drew)); exact HO113.out) (Kd.N_typed (by (with_reducible repeat (first | apply Kd.N_alloc | apply Kd.N_drewN | apply Kd.N_drew)); exact HO_3.out)) (by decide) hg)
                        have n6_ := Aside0.mk (hb)
                        have n7_ := Aside0.mk (ho)
                        clear HO_0
                        clear HL101_1
                        clear HL102_1
                        clear HL114_1
                        clear HL116_1
                        clear HO113
                        clear HB
                        clear HO_3
                        have HO_0 := n0_
                        have HL101_1 := n1_
                        have HL102_1 := n2_
                        have HL114_1 := n3_
                        have HL116_1 := n4_
                        have HO113 := n5_
                        have HB := n6_
                        have HO119 := n7_
                        clear n0_ n1_ n2_ n3_ n4_ n5_ n6_ n7_
                        clear ho hb hg hat
                        refine hK.out _ _ ?_
                        clear hK K
                        refine norm_ (a' := ?_) ?_ ?_
                        rotate_left
                        · show Act.put _ (some 67) _ = _
                          simp only [Act.put, List.setIfInBounds_toArray, List.set_cons_zero, List.set_cons_succ, i64_w, i32_w]
                          rfl
                        refine pure_ (i := 17) (N := some 3) (v := ?_) (a' := ?_) #[true, true, true, true, true, true, true, true, true, true, true, true, true, true, true, true, true, true] rfl rfl (any_of HT_.out (by kernel_rfl)) (fun _ _ _ h => h) (Or.inl ⟨by rfl, ?_⟩) ?_ ?_
                        rotate_left
                        · intro w'
                          go_simp
                          with_reducible rfl
                        rotate_left
                        · simp only [Act.put, List.setIfInBounds_toArray, List.set_cons_zero, List.set_cons_succ, i64_w, i32_w]
                          rfl
                        refine done_ (done_of HT_.out (by kernel_rfl)) ?_
                        try go_wp2
                        go_roundg k1
                        case measure => have := HK1.out; omega
                        case rel => exact ⟨(y117), (ji6), (by first | rfl | (simp; done) | (simp only [← hji6] <;> (first | rfl | simp)) | (simp [*]; done)), H', ⟨by have := HK1.out; omega⟩, ⟨by (with_reducible repeat (first | apply Kd.V_alloc | apply Kd.V_drewN | apply Kd.V_drew)); exact Kd.V_mono HO_0.out (fun _ hk => ⟨hk.1.1, hk.2⟩)⟩, ⟨by (with_reducible repeat (first | apply Kd.N_alloc | apply Kd.N_drewN | apply Kd.N_drew)); exact Kd.N_mono HO119.out (fun _ hk => hk.1)⟩, ⟨by repeat (first | (with_reducible first | exact HB.out | apply below_alloc | apply pw_below_drewN | apply below_drew1) | exact HB.out)⟩⟩
                      · rw [if_neg c17] at H
                        exact absurd H (by simp)
                    · rw [if_neg c16] at H
                      exact absurd H (by simp)
                  · rw [if_neg c15] at H
                    exact absurd H (by simp)
              · rw [if_neg c7] at H
                exact absurd H (by simp)
            · rw [if_neg c5] at H
              have c5b0 : decide ((wrap64 (x4_1 + 1)) < (l0.length : Int)) = false := decide_eq_false c5
              clear c5
              obtain ⟨y120, hy120⟩ : ∃ y_ : List Int, y_ = (([0, 2, 1] : List Int)) := ⟨_, rfl⟩
              replace H : (if 0 ≤ ((rd_T144 l0 x4_1).f0) then (if ((rd_T144 l0 x4_1).f0) < (y120.length : Int) then (if x3_1.length < 4398046511104 then (tripartiteref04_Back.l0 k1 l0 (x3_1 ++ [(⟨rd y120 ((rd_T144 l0 x4_1).f0), (rd_T144 l0 x4_1).f1⟩ : S144)]) (wrap64 (x4_1 + 1))) else (none)) else (none)) else (none)) = some r := by first | (rw [hy120]; with_reducible exact H) | (have H2_ := (Option.bind_some _ _).symm.trans H; rw [hy120]; with_reducible exact H2_) | (have H2_ := (Option.bind_some _ _).symm.trans H; with_reducible exact H2_) | with_reducible exact H | (rw [hy120]; exact H) | exact H
              have Ny120 := Aside0.mk hy120
              clear hy120
              by_cases c23 : 0 ≤ ((rd_T144 l0 x4_1).f0)
              · rw [if_pos c23] at H
                have c23b0 : decide (0 ≤ ((rd_T144 l0 x4_1).f0)) = true := decide_eq_true c23
                clear c23
                by_cases c24 : ((rd_T144 l0 x4_1).f0) < (y120.length : Int)
                · rw [if_pos c24] at H
                  have c24b0 : decide (((rd_T144 l0 x4_1).f0) < (y120.length : Int)) = true := decide_eq_true c24
                  clear c24
                  by_cases c25 : x3_1.length < 4398046511104
                  · rw [if_pos c25] at H
                    have LMc25 := Aside0.mk c25
                    clear c25
                    obtain ⟨y126, hy126⟩ : ∃ y_ : List (S144), y_ = (x3_1 ++ [(⟨rd y120 ((rd_T144 l0 x4_1).f0), (rd_T144 l0 x4_1).f1⟩ : S144)]) := ⟨_, rfl⟩
                    replace H : (tripartiteref04_Back.l0 k1 l0 y126 (wrap64 (x4_1 + 1))) = some r := by first | (rw [hy126]; with_reducible exact H) | (have H2_ := (Option.bind_some _ _).symm.trans H; rw [hy126]; with_reducible exact H2_) | (have H2_ := (Option.bind_some _ _).symm.trans H; with_reducible exact H2_) | with_reducible exact H | (rw [hy126]; exact H) | exact H
                    have Ny126 := Aside0.mk hy126
                    clear hy126
                    have H' := Aside0.mk H
                    clear H
                    have p101 : 0 ≤ (x4_1 : Int) := of_decide_eq_true (by first | (with_reducible assumption) | assumption)
                    have q101 : x4_1 < (l0.length : Int) := of_decide_eq_true (by first | (with_reducible assumption) | assumption)
                    obtain ⟨ad101, A101_1, c101_1, e101, hx101_0, hx101_1, hl101_1, hi101_1⟩ := at_T144 (Kd.V_reads' HO_0.out).2.2 x4_1 p101 q101
                    cases e101
                    obtain ⟨ce101, hce101, hMe101, hcc101⟩ := Kd.V_get HO_0.out z144 x4_1 p101 (by first | exact q101 | exact of_decide_eq_true (by first | (with_reducible assumption) | assumption) | (have e_ := (Kd.V_reads' HO_0.out).1; omega))
                    obtain ⟨ua101_1, uc101_1, rfl, ul101_1, ge101_1⟩ := k144_openF hMe101
                    have hv101_1 := hcc101 1 _ rfl
                    rw [add_field _ _ 1 (by omega)] at hv101_1
                    replace hv101_1 := Option.some.inj (hv101_1.symm.trans hx101_1)
                    injection hv101_1 with hva_ hvn_ hvc_
                    rw [hva_] at ge101_1
                    rw [hvc_] at ul101_1
                    have HL101_1 := Aside0.mk (show Kd.V Kd.string 9 _ w.heap.size _ _ ((rd_T144 l0 x4_1).f1) from Kd.V_mk ul101_1 ge101_1)
                    clear hva_ hvn_ hvc_ ge101_1 ul101_1
                    clear hcc101 hce101
                    have HR101_1 := Aside0.mk hi101_1
                    have HC101_1 := Aside0.mk hl101_1
                    clear hi101_1 hl101_1
                    replace p101 := eq_true p101
                    replace q101 := eq_true q101
                    try go_wp2
                    have pi124 : (0 ≤ (((rd_T144 l0 x4_1).f0) : Int)) = True := eq_true (of_decide_eq_true (by first | (with_reducible assumption) | assumption))
                    have qi124 : (((rd_T144 l0 x4_1).f0) < (y120.length : Int)) = True := eq_true (of_decide_eq_true (by first | (with_reducible assumption) | assumption))
                    have n0_ := Aside0.mk (Kd.V_drew HO_0.out)
                    have n1_ := Aside0.mk (Kd.N_drew HO_3.out)
                    have n2_ := Aside0.mk (Kd.V_drew HL101_1.out)
                    have n3_ := Aside0.mk (Kd.C_drew HR101_1.out)
                    have n4_ := Aside0.mk (below_drew1 HB.out)
                    clear HO_0
                    clear HO_3
                    clear HL101_1
                    clear HR101_1
                    clear HB
                    have HO_0 := n0_
                    have HO_3 := n1_
                    have HL101_1 := n2_
                    have HR101_1 := n3_
                    have HB := n4_
                    clear n0_ n1_ n2_ n3_ n4_
                    have p123 : 0 ≤ (x4_1 : Int) := of_decide_eq_true (by first | (with_reducible assumption) | assumption)
                    have q123 : x4_1 < (l0.length : Int) := of_decide_eq_true (by first | (with_reducible assumption) | assumption)
                    obtain ⟨ad123, A123_1, c123_1, e123, hx123_0, hx123_1, hl123_1, hi123_1⟩ := at_T144 (Kd.V_reads' HO_0.out).2.2 x4_1 p123 q123
                    obtain rfl : ad101 = ad123 := (by injection e123)
                    obtain ⟨ce123, hce123, hMe123, hcc123⟩ := Kd.V_get HO_0.out z144 x4_1 p123 (by first | exact q123 | exact of_decide_eq_true (by first | (with_reducible assumption) | assumption) | (have e_ := (Kd.V_reads' HO_0.out).1; omega))
                    obtain ⟨ua123_1, uc123_1, rfl, ul123_1, ge123_1⟩ := k144_openF hMe123
                    have hv123_1 := hcc123 1 _ rfl
                    rw [add_field _ _ 1 (by omega)] at hv123_1
                    replace hv123_1 := Option.some.inj (hv123_1.symm.trans hx123_1)
                    injection hv123_1 with hva_ hvn_ hvc_
                    rw [hva_] at ge123_1
                    rw [hvc_] at ul123_1
                    have HL123_1 := Aside0.mk (show Kd.V Kd.string 9 _ w.heap.size _ _ ((rd_T144 l0 x4_1).f1) from Kd.V_mk ul123_1 ge123_1)
                    clear hva_ hvn_ hvc_ ge123_1 ul123_1
                    clear hcc123 hce123
                    have HR123_1 := Aside0.mk hi123_1
                    have HC123_1 := Aside0.mk hl123_1
                    clear hi123_1 hl123_1
                    replace p123 := eq_true p123
                    replace q123 := eq_true q123
                    have p125 : 0 ≤ (x4_1 : Int) := of_decide_eq_true (by first | (with_reducible assumption) | assumption)
                    have q125 : x4_1 < (l0.length : Int) := of_decide_eq_true (by first | (with_reducible assumption) | assumption)
                    obtain ⟨ad125, A125_1, c125_1, e125, hx125_0, hx125_1, hl125_1, hi125_1⟩ := at_T144 (Kd.V_reads' HO_0.out).2.2 x4_1 p125 q125
                    obtain rfl : ad101 = ad125 := (by injection e125)
                    obtain ⟨ce125, hce125, hMe125, hcc125⟩ := Kd.V_get HO_0.out z144 x4_1 p125 (by first | exact q125 | exact of_decide_eq_true (by first | (with_reducible assumption) | assumption) | (have e_ := (Kd.V_reads' HO_0.out).1; omega))
                    obtain ⟨ua125_1, uc125_1, rfl, ul125_1, ge125_1⟩ := k144_openF hMe125
                    have hv125_1 := hcc125 1 _ rfl
                    rw [add_field _ _ 1 (by omega)] at hv125_1
                    replace hv125_1 := Option.some.inj (hv125_1.symm.trans hx125_1)
                    injection hv125_1 with hva_ hvn_ hvc_
                    rw [hva_] at ge125_1
                    rw [hvc_] at ul125_1
                    have HL125_1 := Aside0.mk (show Kd.V Kd.string 9 _ w.heap.size _ _ ((rd_T144 l0 x4_1).f1) from Kd.V_mk ul125_1 ge125_1)
                    clear hva_ hvn_ hvc_ ge125_1 ul125_1
                    clear hcc125 hce125
                    have HR125_1 := Aside0.mk hi125_1
                    have HC125_1 := Aside0.mk hl125_1
                    clear hi125_1 hl125_1
                    replace p125 := eq_true p125
                    replace q125 := eq_true q125
                    have ea_ := Option.some.inj (hx123_1.symm.trans hx125_1)
                    injection ea_ with ea_ en_ ec_
                    subst ea_
                    subst ec_
                    clear en_
                    refine start_ (n := 18) (S := fun w' => w'.cell? (ad101.add ((x4_1).toNat * 2)) = some (.int .i64 ((rd_T144 l0 x4_1).f0)) ∧ w'.cell? ⟨(ad101.add ((x4_1).toNat * 2)).block, (ad101.add ((x4_1).toNat * 2)).off + 1, none⟩ = some (.slice A123_1 ((rd_T144 l0 x4_1).f1).length c123_1) ∧ w'.cell? (ad101.add ((x4_1).toNat * 2)) = some (.int .i64 ((rd_T144 l0 x4_1).f0)) ∧ w'.cell? ⟨(ad101.add ((x4_1).toNat * 2)).block, (ad101.add ((x4_1).toNat * 2)).off + 1, none⟩ = some (.slice A123_1 ((rd_T144 l0 x4_1).f1).length c123_1)) (ds := [15, 16]) #[false, false, false, false, false, false, false, false, false, false, false, false, false, false, false, false, false, false] (by kernel_rfl) rfl rfl ⟨hx123_0, hx123_1, hx125_0, hx125_1⟩ (fun hHeld => ?_); refine with_tabW tripartiteref04_Back.tab8 tripartiteref04_Back.bits8 (fun HT_ HW_ => ?_)
                    generalize wr.drew = w26 at HO_0 HO_3 HL101_1 HR101_1 HB HL123_1 HL125_1 HR123_1 HR125_1 hx123_0 hx123_1 hx125_0 hx125_1 hHeld ⊢
                    refine pure_ (i := 0) (N := some 51) (v := ?_) (a' := ?_) #[true, false, false, false, false, false, false, false, false, false, false, false, false, false, false, false, false, false] rfl rfl (any_of HT_.out (by kernel_rfl)) (fun _ _ _ h => h) (Or.inl ⟨by rfl, ?_⟩) ?_ ?_
                    rotate_left
                    · intro w'
                      go_simp
                      with_reducible rfl
                    rotate_left
                    · simp only [Act.put, List.setIfInBounds_toArray, List.set_cons_zero, List.set_cons_succ, i64_w, i32_w]
                      rfl
                    refine pure_ (i := 2) (N := some 53) (v := ?_) (a' := ?_) #[true, false, true, false, false, false, false, false, false, false, false, false, false, false, false, false, false, false] rfl rfl (any_of HT_.out (by kernel_rfl)) (fun _ _ _ h => h) (Or.inl ⟨by rfl, ?_⟩) ?_ ?_
                    rotate_left
                    · intro w'
                      go_simp
                      with_reducible rfl
                    rotate_left
                    · simp only [Act.put, List.setIfInBounds_toArray, List.set_cons_zero, List.set_cons_succ, i64_w, i32_w]
                      rfl
                    refine pure_ (i := 3) (N := some 54) (v := ?_) (a' := ?_) #[true, false, true, true, false, false, false, false, false, false, false, false, false, false, false, false, false, false] rfl rfl (any_of HT_.out (by kernel_rfl)) (fun _ _ _ h => h) (Or.inl ⟨by rfl, ?_⟩) ?_ ?_
                    rotate_left
                    · intro w'
                      go_simp
                      with_reducible rfl
                    rotate_left
                    · simp only [Act.put, List.setIfInBounds_toArray, List.set_cons_zero, List.set_cons_succ, i64_w, i32_w]
                      rfl
                    refine pure_ (i := 4) (N := some 55) (v := ?_) (a' := ?_) #[true, false, true, true, true, false, false, false, false, false, false, false, false, false, false, false, false, false] rfl rfl (any_of HT_.out (by kernel_rfl)) (fun _ _ _ h => h) (Or.inl ⟨by rfl, ?_⟩) ?_ ?_
                    rotate_left
                    · intro w'
                      go_simp
                      with_reducible rfl
                    rotate_left
                    · simp only [Act.put, List.setIfInBounds_toArray, List.set_cons_zero, List.set_cons_succ, i64_w, i32_w]
                      rfl
                    refine pure_ (i := 5) (N := some 56) (v := ?_) (a' := ?_) #[true, false, true, true, true, true, false, false, false, false, false, false, false, false, false, false, false, false] rfl rfl (any_of HT_.out (by kernel_rfl)) (fun _ _ _ h => h) (Or.inl ⟨by rfl, ?_⟩) ?_ ?_
                    rotate_left
                    · intro w'
                      go_simp
                      with_reducible rfl
                    rotate_left
                    · simp only [Act.put, List.setIfInBounds_toArray, List.set_cons_zero, List.set_cons_succ, i64_w, i32_w]
                      rfl
                    refine pure_ (i := 9) (N := some 60) (v := ?_) (a' := ?_) #[true, false, true, true, true, true, false, false, false, true, false, false, false, false, false, false, false, false] rfl rfl (any_of HT_.out (by kernel_rfl)) (fun _ _ _ h => h) (Or.inl ⟨by rfl, ?_⟩) ?_ ?_
                    rotate_left
                    · intro w'
                      go_simp
                      with_reducible rfl
                    rotate_left
                    · simp only [Act.put, List.setIfInBounds_toArray, List.set_cons_zero, List.set_cons_succ, i64_w, i32_w]
                      rfl
                    refine pure_ (i := 10) (N := some 61) (v := ?_) (a' := ?_) #[true, false, true, true, true, true, false, false, false, true, true, false, false, false, false, false, false, false] rfl rfl (any_of HT_.out (by kernel_rfl)) (fun _ _ _ h => h) (Or.inl ⟨by rfl, ?_⟩) ?_ ?_
                    rotate_left
                    · intro w'
                      go_simp
                      with_reducible rfl
                    rotate_left
                    · simp only [Act.put, List.setIfInBounds_toArray, List.set_cons_zero, List.set_cons_succ, i64_w, i32_w]
                      rfl
                    refine pure_ (i := 11) (N := some 62) (v := ?_) (a' := ?_) #[true, false, true, true, true, true, false, false, false, true, true, true, false, false, false, false, false, false] rfl rfl (any_of HT_.out (by kernel_rfl)) (fun _ _ _ h => h) (Or.inl ⟨by rfl, ?_⟩) ?_ ?_
                    rotate_left
                    · intro w'
                      go_simp
                      with_reducible rfl
                    rotate_left
                    · simp only [Act.put, List.setIfInBounds_toArray, List.set_cons_zero, List.set_cons_succ, i64_w, i32_w]
                      rfl
                    refine pure_ (i := 12) (N := some 63) (v := ?_) (a' := ?_) #[true, false, true, true, true, true, false, false, false, true, true, true, true, false, false, false, false, false] rfl rfl (any_of HT_.out (by kernel_rfl)) (fun _ _ _ h => h) (Or.inl ⟨by rfl, ?_⟩) ?_ ?_
                    rotate_left
                    · intro w'
                      go_simp
                      with_reducible rfl
                    rotate_left
                    · simp only [Act.put, List.setIfInBounds_toArray, List.set_cons_zero, List.set_cons_succ, i64_w, i32_w]
                      rfl
                    refine take_ (i := 6) (N := some 57) (v := ?_) (a' := ?_) #[true, false, true, true, true, true, true, false, false, true, true, true, true, false, false, false, false, false] rfl rfl (take_ofW HT_.out HW_.out (by kernel_rfl)) (fun _ _ _ h => h) (Or.inl ⟨by rfl, ?_⟩) hHeld ?_ ?_
                    rotate_left
                    · rintro w' ⟨s0, s1, s2, s3⟩
                      go_simp
                      with_reducible rfl
                    rotate_left
                    · simp only [Act.put, List.setIfInBounds_toArray, List.set_cons_zero, List.set_cons_succ, i64_w, i32_w]
                      rfl
                    refine take_ (i := 13) (N := some 64) (v := ?_) (a' := ?_) #[true, false, true, true, true, true, true, false, false, true, true, true, true, true, false, false, false, false] rfl rfl (take_ofW HT_.out HW_.out (by kernel_rfl)) (fun _ _ _ h => h) (Or.inl ⟨by rfl, ?_⟩) hHeld ?_ ?_
                    rotate_left
                    · rintro w' ⟨s0, s1, s2, s3⟩
                      go_simp
                      with_reducible rfl
                    rotate_left
                    · simp only [Act.put, List.setIfInBounds_toArray, List.set_cons_zero, List.set_cons_succ, i64_w, i32_w]
                      rfl
                    refine one_ (i := 1) (N := some 52) #[true, true, true, true, true, true, true, false, false, true, true, true, true, true, false, false, false, false] rfl rfl (one_of HT_.out (by kernel_rfl)) (by decide) (fun K hK => ?_)
                    refine Kd.R_lit_step (Kd.int .i64) _ 3 ?hg (N := 52) ?hd (xs := ([0, 2, 1] : List Int)) (inner := [.int .i64 0, .int .i64 2, .int .i64 1]) (ok := fun _ => True) (okp := fun _ => True) ?hr ?hp (fun _ hk => hk) trivial (Below.refl _ _) (Nat.le_refl _) (by simp) ?_; (case hd => rfl); (case hg => rfl); (case hr => first | (go_simp; done) | (go_simp; rfl)); (case hp => exact (Reps.one (show Kd.M (Kd.int .i64) _ _ _ 0 [.int .i64 0] from rfl) (Reps.one (show Kd.M (Kd.int .i64) _ _ _ 2 [.int .i64 2] from rfl) (Reps.one (show Kd.M (Kd.int .i64) _ _ _ 1 [.int .i64 1] from rfl) (Reps.none _ _)))))
                    intro v121 w27 ho28 hb hg_ hnew_
                    have HS0_ := (hb.cell (World.block_lt_of_cell? _ _ (hHeld.1))).trans (hHeld.1)
                    have HS1_ := (hb.cell (World.block_lt_of_cell? _ _ (hHeld.2.1))).trans (hHeld.2.1)
                    have HS2_ := (hb.cell (World.block_lt_of_cell? _ _ (hHeld.2.2.1))).trans (hHeld.2.2.1)
                    have HS3_ := (hb.cell (World.block_lt_of_cell? _ _ (hHeld.2.2.2))).trans (hHeld.2.2.2)
                    clear hg_ hnew_
                    (first | rw [← Ny120.out] at ho28 | (simp only [Int.reduceToNat] at ho28; rw [← Ny120.out] at ho28))
                    have n0_ := Aside0.mk (Kd.V_elder' (by (with_reducible repeat (first | apply Kd.V_alloc | apply Kd.V_drewN | apply Kd.V_drew)); exact HO_0.out) (Kd.R_base ho28) hb)
                    have n1_ := Aside0.mk (Kd.N_elder' (by (with_reducible repeat (first | apply Kd.N_alloc | apply Kd.N_drewN | apply Kd.N_drew)); exact HO_3.out) (Kd.R_base ho28) hb)
                    have n2_ := Aside0.mk (Kd.V_elder' (by (with_reducible repeat (first | apply Kd.V_alloc | apply Kd.V_drewN | apply Kd.V_drew)); exact HL101_1.out) (Kd.R_base ho28) hb)
                    have n3_ := Aside0.mk (Kd.V_elder' (by (with_reducible repeat (first | apply Kd.V_alloc | apply Kd.V_drewN | apply Kd.V_drew)); exact HL123_1.out) (Kd.R_base ho28) hb)
                    have n4_ := Aside0.mk (Kd.V_elder' (by (with_reducible repeat (first | apply Kd.V_alloc | apply Kd.V_drewN | apply Kd.V_drew)); exact HL125_1.out) (Kd.R_base ho28) hb)
                    have n5_ := Aside0.mk (Kd.R_lower (Kd.R_newM (M := fun k_ => (w.heap.size ≤ k_)) ho28 (below_size (by repeat (first | (with_reducible first | exact HB.out | apply below_alloc | apply pw_below_drewN | apply below_drew1) | exact HB.out))) (fun k_ h_ => h_)) (below_size (by repeat (first | (with_reducible first | exact HB.out | apply below_alloc | apply pw_below_drewN | apply below_drew1) | exact HB.out))))
                    have n6_ := Aside0.mk (Kd.C_below (by repeat (first | (with_reducible exact HR101_1.out) | (with_reducible refine Kd.C_alloc ?_ _) | (with_reducible refine Kd.C_drewN ?_ _) | (with_reducible refine Kd.C_drew ?_) | exact HR101_1.out)) hb)
                    have n7_ := Aside0.mk (Kd.C_below (by repeat (first | (with_reducible exact HR123_1.out) | (with_reducible refine Kd.C_alloc ?_ _) | (with_reducible refine Kd.C_drewN ?_ _) | (with_reducible refine Kd.C_drew ?_) | exact HR123_1.out)) hb)
                    have n8_ := Aside0.mk (Kd.C_below (by repeat (first | (with_reducible exact HR125_1.out) | (with_reducible refine Kd.C_alloc ?_ _) | (with_reducible refine Kd.C_drewN ?_ _) | (with_reducible refine Kd.C_drew ?_) | exact HR125_1.out)) hb)
                    have n9_ := Aside0.mk (below_step (by repeat (first | (with_reducible first | exact HB.out | apply below_alloc | apply pw_below_drewN | apply below_drew1) | exact HB.out)) hb)
                    clear HO_0
                    clear HO_3
                    clear HL101_1
                    clear HL123_1
                    clear HL125_1
                    clear HR101_1
                    clear HR123_1
                    clear HR125_1
                    clear HB
                    have HO_0 := n0_
                    have HO_3 := n1_
                    have HL101_1 := n2_
                    have HL123_1 := n3_
                    have HL125_1 := n4_
                    have HO122 := n5_
                    have HR101_1 := n6_
                    have HR123_1 := n7_
                    have HR125_1 := n8_
                    have HB := n9_
                    clear n0_ n1_ n2_ n3_ n4_ n5_ n6_ n7_ n8_ n9_
                    clear hb ho28
                    obtain ⟨Ao29, co29, eo29⟩ := Kd.R_slice HO122.out
                    subst eo29
                    obtain ⟨ado29, fo29, _⟩ := Kd.at_int (Kd.R_reads' HO122.out).2.2 0 (by decide) (by rw [Ny120.out]; simp)
                    cases fo29
                    refine hK.out _ _ ⟨HS0_, HS1_, HS2_, HS3_⟩ (fun hHeld => ?_)
                    clear hK K
                    refine norm_ (a' := ?_) ?_ ?_
                    rotate_left
                    · show Act.put _ (some 52) _ = _
                      simp only [Act.put, List.setIfInBounds_toArray, List.set_cons_zero, List.set_cons_succ, i64_w, i32_w]
                      rfl
                    refine pure_ (i := 7) (N := some 58) (v := ?_) (a' := ?_) #[true, true, true, true, true, true, true, true, false, true, true, true, true, true, false, false, false, false] rfl rfl (any_of HT_.out (by kernel_rfl)) (fun _ _ _ h => h) (Or.inl ⟨by rfl, ?_⟩) ?_ ?_
                    rotate_left
                    · intro w'
                      go_simp
                      with_reducible rfl
                    rotate_left
                    · simp only [Act.put, List.setIfInBounds_toArray, List.set_cons_zero, List.set_cons_succ, i64_w, i32_w]
                      rfl
                    refine one_ (i := 8) (N := some 59) #[true, true, true, true, true, true, true, true, true, true, true, true, true, true, false, false, false, false] rfl rfl (one_of HT_.out (by kernel_rfl)) (by decide) (fun K hK => ?_)
                    (have p124 : 0 ≤ (((rd_T144 l0 x4_1).f0) : Int) := of_decide_eq_true (by first | (with_reducible assumption) | assumption); have q124 : ((rd_T144 l0 x4_1).f0) < (y120.length : Int) := of_decide_eq_true (by first | (with_reducible assumption) | assumption); obtain ⟨ad124, e124, hx124_0⟩ := Kd.at_int (Kd.R_reads' HO122.out).2.2 ((rd_T144 l0 x4_1).f0) p124 q124; obtain rfl : ado29 = ad124 := (by injection e124))
                    refine value_ (w1 := ?_) (v := ?_) (by rfl) rfl ?_ ?_
                    rotate_left 2
                    · go_simp
                      constructor
                      · rfl
                      · rfl
                    clear hx124_0
                    refine hK.out _ _ ⟨hHeld.1, hHeld.2.1, hHeld.2.2.1, hHeld.2.2.2⟩ (fun hHeld => ?_)
                    clear hK K
                    refine norm_ (a' := ?_) ?_ ?_
                    rotate_left
                    · show Act.put _ (some 59) _ = _
                      simp only [Act.put, List.setIfInBounds_toArray, List.set_cons_zero, List.set_cons_succ, i64_w, i32_w]
                      rfl
                    refine pure_ (i := 14) (N := some 65) (v := ?_) (a' := ?_) #[true, true, true, true, true, true, true, true, true, true, true, true, true, true, true, false, false, false] rfl rfl (any_of HT_.out (by kernel_rfl)) (fun _ _ _ h => h) (Or.inl ⟨by rfl, ?_⟩) ?_ ?_
                    rotate_left
                    · intro w'
                      go_simp
                      with_reducible rfl
                    rotate_left
                    · simp only [Act.put, List.setIfInBounds_toArray, List.set_cons_zero, List.set_cons_succ, i64_w, i32_w]
                      rfl
                    refine last_ (i := 15) (N := some 66) #[true, true, true, true, true, true, true, true, true, true, true, true, true, true, true, true, false, false] rfl rfl (one_of HT_.out (by kernel_rfl)) (by decide) (fun K hK => ?_)
                    refine value_ (w1 := ?_) (v := ?_) (by rfl) rfl ?_ ?_
                    rotate_left 2
                    · go_simp
                      constructor
                      · rfl
                      · rfl
                    refine hK.out _ _ ?_
                    clear hK K
                    refine norm_ (a' := ?_) ?_ ?_
                    rotate_left
                    · show Act.put _ (some 66) _ = _
                      simp only [Act.put, List.setIfInBounds_toArray, List.set_cons_zero, List.set_cons_succ, i64_w, i32_w]
                      rfl
                    refine last_ (i := 16) (N := some 67) #[true, true, true, true, true, true, true, true, true, true, true, true, true, true, true, true, true, false] rfl rfl (one_of HT_.out (by kernel_rfl)) (by decide) (fun K hK => ?_)
                    refine Kd.N_append_step k144 (w0 := w) w.heap.size (by rfl) (.tmp 51) (.tmp 66) 48 144 (.agg #[(.int .i64 0), (.slice none 0 0)]) 32 rfl Try.underlying48 info144 rfl (by decide) (by omega) u3 x3_1 (⟨rd y120 ((rd_T144 l0 x4_1).f0), (rd_T144 l0 x4_1).f1⟩ : S144) [.int .i64 (rd y120 ((rd_T144 l0 x4_1).f0)), .slice A123_1 ((rd_T144 l0 x4_1).f1).length c123_1] (fun k_ => (P0_ k_ ∨ w.heap.size ≤ k_) ∧ some k_ ≠ (.slice (some ado29) y120.length co29 : Value).ownBlock) (fun k_ => ((fun k_ => (P0_ k_ ∨ w.heap.size ≤ k_) ∧ some k_ ≠ (.slice (some ado29) y120.length co29 : Value).ownBlock)) k_ ∧ some k_ ≠ (u3 : Value).ownBlock) rfl rfl ?aP (fun _ hk => hk) ?aF ?aO ?aB ?aS ?aL ?_
                    (case aP => exact (k144_mkF _ _ (⟨rd y120 ((rd_T144 l0 x4_1).f0), (rd_T144 l0 x4_1).f1⟩ : S144) (Kd.V_reads' (Kd.V_mono (ok' := (fun k_ => ((fun k_ => (P0_ k_ ∨ w.heap.size ≤ k_) ∧ some k_ ≠ (.slice (some ado29) y120.length co29 : Value).ownBlock)) k_ ∧ some k_ ≠ (u3 : Value).ownBlock)) (HL125_1.out) (fun k_ hk => ⟨⟨hk.1.1, hk.2⟩, hk.1.2⟩))).2.1 (Kd.V_F (Kd.V_mono (ok' := (fun k_ => ((fun k_ => (P0_ k_ ∨ w.heap.size ≤ k_) ∧ some k_ ≠ (.slice (some ado29) y120.length co29 : Value).ownBlock)) k_ ∧ some k_ ≠ (u3 : Value).ownBlock)) (HL125_1.out) (fun k_ hk => ⟨⟨hk.1.1, hk.2⟩, hk.1.2⟩)))))
                    (case aB => exact (by repeat (first | (with_reducible first | exact HB.out | apply below_alloc | apply pw_below_drewN | apply below_drew1) | exact HB.out)))
                    (case aF => exact (fun k_ hk => ⟨(.inr (Nat.le_trans (below_size (by repeat (first | (with_reducible first | exact HB.out | apply below_alloc | apply pw_below_drewN | apply below_drew1) | exact HB.out))) hk)), Kd.fresh' (Kd.R_lt (by (with_reducible repeat (first | apply Kd.R_alloc | apply Kd.R_drewN | apply Kd.R_drew)); exact HO122.out)) k_ hk⟩))
                    (case aO => exact (by (with_reducible repeat (first | apply Kd.N_alloc | apply Kd.N_drewN | apply Kd.N_drew)); exact HO_3.out))
                    (case aS => exact (below_size (by repeat (first | (with_reducible first | exact HB.out | apply below_alloc | apply pw_below_drewN | apply below_drew1) | exact HB.out))))
                    (case aL => have := LMc25.out; omega)
                    intro v127 w30 ho hb hg hat
                    rw [← Ny126.out] at ho
                    have n0_ := Aside0.mk (Kd.V_afterv (ok := (fun k_ => (P0_ k_ ∨ w.heap.size ≤ k_) ∧ some k_ ≠ (.slice (some ado29) y120.length co29 : Value).ownBlock)) (by (with_reducible repeat (first | apply Kd.V_alloc | apply Kd.V_drewN | apply Kd.V_drew)); exact Kd.V_mono HO_0.out (fun _ hk => ⟨⟨hk.1.1, hk.2⟩, hk.1.2⟩)) hg hat)
                    have n1_ := Aside0.mk (Kd.V_afterv (ok := (fun k_ => (P0_ k_ ∨ w.heap.size ≤ k_) ∧ some k_ ≠ (.slice (some ado29) y120.length co29 : Value).ownBlock)) (by (with_reducible repeat (first | apply Kd.V_alloc | apply Kd.V_drewN | apply Kd.V_drew)); exact Kd.V_mono HL101_1.out (fun _ hk => ⟨⟨hk.1.1, hk.2⟩, hk.1.2⟩)) hg hat)
                    have n2_ := Aside0.mk (Kd.V_afterv (ok := (fun k_ => (P0_ k_ ∨ w.heap.size ≤ k_) ∧ some k_ ≠ (.slice (some ado29) y120.length co29 : Value).ownBlock)) (by (with_reducible repeat (first | apply Kd.V_alloc | apply Kd.V_drewN | apply Kd.V_drew)); exact Kd.V_mono HL123_1.out (fun _ hk => ⟨⟨hk.1.1, hk.2⟩, hk.1.2⟩)) hg hat)
                    have n3_ := Aside0.mk (Kd.V_afterv (ok := (fun k_ => (P0_ k_ ∨ w.heap.size ≤ k_) ∧ some k_ ≠ (.slice (some ado29) y120.length co29 : Value).ownBlock)) (by (with_reducible repeat (first | apply Kd.V_alloc | apply Kd.V_drewN | apply Kd.V_drew)); exact Kd.V_mono HL125_1.out (fun _ hk => ⟨⟨hk.1.1, hk.2⟩, hk.1.2⟩)) hg hat)
                    have n4_ := Aside0.mk (Kd.R_over' (by (with_reducible repeat (first | apply Kd.R_alloc | apply Kd.R_drewN | apply Kd.R_drew)); exact HO122.out) (Kd.N_typed (by (with_reducible repeat (first | apply Kd.N_alloc | apply Kd.N_drewN | apply Kd.N_drew)); exact HO_3.out)) (by decide) hg)
                    have n5_ := Aside0.mk (hb)
                    have n6_ := Aside0.mk (ho)
                    clear HO_0
                    clear HL101_1
                    clear HL123_1
                    clear HL125_1
                    clear HO122
                    clear HB
                    clear HO_3
                    have HO_0 := n0_
                    have HL101_1 := n1_
                    have HL123_1 := n2_
                    have HL125_1 := n3_
                    have HO122 := n4_
                    have HB := n5_
                    have HO128 := n6_
                    clear n0_ n1_ n2_ n3_ n4_ n5_ n6_
                    clear ho hb hg hat
                    refine hK.out _ _ ?_
                    clear hK K
                    refine norm_ (a' := ?_) ?_ ?_
                    rotate_left
                    · show Act.put _ (some 67) _ = _
                      simp only [Act.put, List.setIfInBounds_toArray, List.set_cons_zero, List.set_cons_succ, i64_w, i32_w]
                      rfl
                    refine pure_ (i := 17) (N := some 3) (v := ?_) (a' := ?_) #[true, true, true, true, true, true, true, true, true, true, true, true, true, true, true, true, true, true] rfl rfl (any_of HT_.out (by kernel_rfl)) (fun _ _ _ h => h) (Or.inl ⟨by rfl, ?_⟩) ?_ ?_
                    rotate_left
                    · intro w'
                      go_simp
                      with_reducible rfl
                    rotate_left
                    · simp only [Act.put, List.setIfInBounds_toArray, List.set_cons_zero, List.set_cons_succ, i64_w, i32_w]
                      rfl
                    refine done_ (done_of HT_.out (by kernel_rfl)) ?_
                    try go_wp2
                    go_roundg k1
                    case measure => have := HK1.out; omega
                    case rel => exact ⟨(y126), (wrap64 (x4_1 + 1)), (by first | rfl | (simp; done) | (simp [*]; done)), H', ⟨by have := HK1.out; omega⟩, ⟨by (with_reducible repeat (first | apply Kd.V_alloc | apply Kd.V_drewN | apply Kd.V_drew)); exact Kd.V_mono HO_0.out (fun _ hk => ⟨hk.1.1, hk.2⟩)⟩, ⟨by (with_reducible repeat (first | apply Kd.N_alloc | apply Kd.N_drewN | apply Kd.N_drew)); exact Kd.N_mono HO128.out (fun _ hk => hk.1)⟩, ⟨by repeat (first | (with_reducible first | exact HB.out | apply below_alloc | apply pw_below_drewN | apply below_drew1) | exact HB.out)⟩⟩
                  · rw [if_neg c25] at H
                    exact absurd H (by simp)
                · rw [if_neg c24] at H
                  exact absurd H (by simp)
              · rw [if_neg c23] at H
                exact absurd H (by simp)
          · rw [if_neg c4] at H
            have c4b0 : (((rd_T144 l0 x4_1).f0) == 1) = false := beq_eq_false_iff_ne.mpr c4
            have c4b1 : (((rd_T144 l0 x4_1).f0) != 1) = true := bne_iff_ne.mpr c4
            obtain ⟨y129, hy129⟩ : ∃ y_ : List Int, y_ = (([0, 2, 1] : List Int)) := ⟨_, rfl⟩
            replace H : (if 0 ≤ ((rd_T144 l0 x4_1).f0) then (if ((rd_T144 l0 x4_1).f0) < (y129.length : Int) then (if x3_1.length < 4398046511104 then (tripartiteref04_Back.l0 k1 l0 (x3_1 ++ [(⟨rd y129 ((rd_T144 l0 x4_1).f0), (rd_T144 l0 x4_1).f1⟩ : S144)]) (wrap64 (x4_1 + 1))) else (none)) else (none)) else (none)) = some r := by first | (rw [hy129]; with_reducible exact H) | (have H2_ := (Option.bind_some _ _).symm.trans H; rw [hy129]; with_reducible exact H2_) | (have H2_ := (Option.bind_some _ _).symm.trans H; with_reducible exact H2_) | with_reducible exact H | (rw [hy129]; exact H) | exact H
            have Ny129 := Aside0.mk hy129
            clear hy129
            by_cases c31 : 0 ≤ ((rd_T144 l0 x4_1).f0)
            · rw [if_pos c31] at H
              have c31b0 : decide (0 ≤ ((rd_T144 l0 x4_1).f0)) = true := decide_eq_true c31
              clear c31
              by_cases c32 : ((rd_T144 l0 x4_1).f0) < (y129.length : Int)
              · rw [if_pos c32] at H
                have c32b0 : decide (((rd_T144 l0 x4_1).f0) < (y129.length : Int)) = true := decide_eq_true c32
                clear c32
                by_cases c33 : x3_1.length < 4398046511104
                · rw [if_pos c33] at H
                  have LMc33 := Aside0.mk c33
                  clear c33
                  obtain ⟨y135, hy135⟩ : ∃ y_ : List (S144), y_ = (x3_1 ++ [(⟨rd y129 ((rd_T144 l0 x4_1).f0), (rd_T144 l0 x4_1).f1⟩ : S144)]) := ⟨_, rfl⟩
                  replace H : (tripartiteref04_Back.l0 k1 l0 y135 (wrap64 (x4_1 + 1))) = some r := by first | (rw [hy135]; with_reducible exact H) | (have H2_ := (Option.bind_some _ _).symm.trans H; rw [hy135]; with_reducible exact H2_) | (have H2_ := (Option.bind_some _ _).symm.trans H; with_reducible exact H2_) | with_reducible exact H | (rw [hy135]; exact H) | exact H
                  have Ny135 := Aside0.mk hy135
                  clear hy135
                  have H' := Aside0.mk H
                  clear H
                  have p101 : 0 ≤ (x4_1 : Int) := of_decide_eq_true (by first | (with_reducible assumption) | assumption)
                  have q101 : x4_1 < (l0.length : Int) := of_decide_eq_true (by first | (with_reducible assumption) | assumption)
                  obtain ⟨ad101, A101_1, c101_1, e101, hx101_0, hx101_1, hl101_1, hi101_1⟩ := at_T144 (Kd.V_reads' HO_0.out).2.2 x4_1 p101 q101
                  cases e101
                  obtain ⟨ce101, hce101, hMe101, hcc101⟩ := Kd.V_get HO_0.out z144 x4_1 p101 (by first | exact q101 | exact of_decide_eq_true (by first | (with_reducible assumption) | assumption) | (have e_ := (Kd.V_reads' HO_0.out).1; omega))
                  obtain ⟨ua101_1, uc101_1, rfl, ul101_1, ge101_1⟩ := k144_openF hMe101
                  have hv101_1 := hcc101 1 _ rfl
                  rw [add_field _ _ 1 (by omega)] at hv101_1
                  replace hv101_1 := Option.some.inj (hv101_1.symm.trans hx101_1)
                  injection hv101_1 with hva_ hvn_ hvc_
                  rw [hva_] at ge101_1
                  rw [hvc_] at ul101_1
                  have HL101_1 := Aside0.mk (show Kd.V Kd.string 9 _ w.heap.size _ _ ((rd_T144 l0 x4_1).f1) from Kd.V_mk ul101_1 ge101_1)
                  clear hva_ hvn_ hvc_ ge101_1 ul101_1
                  clear hcc101 hce101
                  have HR101_1 := Aside0.mk hi101_1
                  have HC101_1 := Aside0.mk hl101_1
                  clear hi101_1 hl101_1
                  replace p101 := eq_true p101
                  replace q101 := eq_true q101
                  try go_wp2
                  have pi133 : (0 ≤ (((rd_T144 l0 x4_1).f0) : Int)) = True := eq_true (of_decide_eq_true (by first | (with_reducible assumption) | assumption))
                  have qi133 : (((rd_T144 l0 x4_1).f0) < (y129.length : Int)) = True := eq_true (of_decide_eq_true (by first | (with_reducible assumption) | assumption))
                  have n0_ := Aside0.mk (Kd.V_drew HO_0.out)
                  have n1_ := Aside0.mk (Kd.N_drew HO_3.out)
                  have n2_ := Aside0.mk (Kd.V_drew HL101_1.out)
                  have n3_ := Aside0.mk (Kd.C_drew HR101_1.out)
                  have n4_ := Aside0.mk (below_drew1 HB.out)
                  clear HO_0
                  clear HO_3
                  clear HL101_1
                  clear HR101_1
                  clear HB
                  have HO_0 := n0_
                  have HO_3 := n1_
                  have HL101_1 := n2_
                  have HR101_1 := n3_
                  have HB := n4_
                  clear n0_ n1_ n2_ n3_ n4_
                  have p132 : 0 ≤ (x4_1 : Int) := of_decide_eq_true (by first | (with_reducible assumption) | assumption)
                  have q132 : x4_1 < (l0.length : Int) := of_decide_eq_true (by first | (with_reducible assumption) | assumption)
                  obtain ⟨ad132, A132_1, c132_1, e132, hx132_0, hx132_1, hl132_1, hi132_1⟩ := at_T144 (Kd.V_reads' HO_0.out).2.2 x4_1 p132 q132
                  obtain rfl : ad101 = ad132 := (by injection e132)
                  obtain ⟨ce132, hce132, hMe132, hcc132⟩ := Kd.V_get HO_0.out z144 x4_1 p132 (by first | exact q132 | exact of_decide_eq_true (by first | (with_reducible assumption) | assumption) | (have e_ := (Kd.V_reads' HO_0.out).1; omega))
                  obtain ⟨ua132_1, uc132_1, rfl, ul132_1, ge132_1⟩ := k144_openF hMe132
                  have hv132_1 := hcc132 1 _ rfl
                  rw [add_field _ _ 1 (by omega)] at hv132_1
                  replace hv132_1 := Option.some.inj (hv132_1.symm.trans hx132_1)
                  injection hv132_1 with hva_ hvn_ hvc_
                  rw [hva_] at ge132_1
                  rw [hvc_] at ul132_1
                  have HL132_1 := Aside0.mk (show Kd.V Kd.string 9 _ w.heap.size _ _ ((rd_T144 l0 x4_1).f1) from Kd.V_mk ul132_1 ge132_1)
                  clear hva_ hvn_ hvc_ ge132_1 ul132_1
                  clear hcc132 hce132
                  have HR132_1 := Aside0.mk hi132_1
                  have HC132_1 := Aside0.mk hl132_1
                  clear hi132_1 hl132_1
                  replace p132 := eq_true p132
                  replace q132 := eq_true q132
                  have p134 : 0 ≤ (x4_1 : Int) := of_decide_eq_true (by first | (with_reducible assumption) | assumption)
                  have q134 : x4_1 < (l0.length : Int) := of_decide_eq_true (by first | (with_reducible assumption) | assumption)
                  obtain ⟨ad134, A134_1, c134_1, e134, hx134_0, hx134_1, hl134_1, hi134_1⟩ := at_T144 (Kd.V_reads' HO_0.out).2.2 x4_1 p134 q134
                  obtain rfl : ad101 = ad134 := (by injection e134)
                  obtain ⟨ce134, hce134, hMe134, hcc134⟩ := Kd.V_get HO_0.out z144 x4_1 p134 (by first | exact q134 | exact of_decide_eq_true (by first | (with_reducible assumption) | assumption) | (have e_ := (Kd.V_reads' HO_0.out).1; omega))
                  obtain ⟨ua134_1, uc134_1, rfl, ul134_1, ge134_1⟩ := k144_openF hMe134
                  have hv134_1 := hcc134 1 _ rfl
                  rw [add_field _ _ 1 (by omega)] at hv134_1
                  replace hv134_1 := Option.some.inj (hv134_1.symm.trans hx134_1)
                  injection hv134_1 with hva_ hvn_ hvc_
                  rw [hva_] at ge134_1
                  rw [hvc_] at ul134_1
                  have HL134_1 := Aside0.mk (show Kd.V Kd.string 9 _ w.heap.size _ _ ((rd_T144 l0 x4_1).f1) from Kd.V_mk ul134_1 ge134_1)
                  clear hva_ hvn_ hvc_ ge134_1 ul134_1
                  clear hcc134 hce134
                  have HR134_1 := Aside0.mk hi134_1
                  have HC134_1 := Aside0.mk hl134_1
                  clear hi134_1 hl134_1
                  replace p134 := eq_true p134
                  replace q134 := eq_true q134
                  have ea_ := Option.some.inj (hx132_1.symm.trans hx134_1)
                  injection ea_ with ea_ en_ ec_
                  subst ea_
                  subst ec_
                  clear en_
                  refine start_ (n := 18) (S := fun w' => w'.cell? (ad101.add ((x4_1).toNat * 2)) = some (.int .i64 ((rd_T144 l0 x4_1).f0)) ∧ w'.cell? ⟨(ad101.add ((x4_1).toNat * 2)).block, (ad101.add ((x4_1).toNat * 2)).off + 1, none⟩ = some (.slice A132_1 ((rd_T144 l0 x4_1).f1).length c132_1) ∧ w'.cell? (ad101.add ((x4_1).toNat * 2)) = some (.int .i64 ((rd_T144 l0 x4_1).f0)) ∧ w'.cell? ⟨(ad101.add ((x4_1).toNat * 2)).block, (ad101.add ((x4_1).toNat * 2)).off + 1, none⟩ = some (.slice A132_1 ((rd_T144 l0 x4_1).f1).length c132_1)) (ds := [15, 16]) #[false, false, false, false, false, false, false, false, false, false, false, false, false, false, false, false, false, false] (by kernel_rfl) rfl rfl ⟨hx132_0, hx132_1, hx134_0, hx134_1⟩ (fun hHeld => ?_); refine with_tabW tripartiteref04_Back.tab8 tripartiteref04_Back.bits8 (fun HT_ HW_ => ?_)
                  generalize wr.drew = w34 at HO_0 HO_3 HL101_1 HR101_1 HB HL132_1 HL134_1 HR132_1 HR134_1 hx132_0 hx132_1 hx134_0 hx134_1 hHeld ⊢
                  refine pure_ (i := 0) (N := some 51) (v := ?_) (a' := ?_) #[true, false, false, false, false, false, false, false, false, false, false, false, false, false, false, false, false, false] rfl rfl (any_of HT_.out (by kernel_rfl)) (fun _ _ _ h => h) (Or.inl ⟨by rfl, ?_⟩) ?_ ?_
                  rotate_left
                  · intro w'
                    go_simp
                    with_reducible rfl
                  rotate_left
                  · simp only [Act.put, List.setIfInBounds_toArray, List.set_cons_zero, List.set_cons_succ, i64_w, i32_w]
                    rfl
                  refine pure_ (i := 2) (N := some 53) (v := ?_) (a' := ?_) #[true, false, true, false, false, false, false, false, false, false, false, false, false, false, false, false, false, false] rfl rfl (any_of HT_.out (by kernel_rfl)) (fun _ _ _ h => h) (Or.inl ⟨by rfl, ?_⟩) ?_ ?_
                  rotate_left
                  · intro w'
                    go_simp
                    with_reducible rfl
                  rotate_left
                  · simp only [Act.put, List.setIfInBounds_toArray, List.set_cons_zero, List.set_cons_succ, i64_w, i32_w]
                    rfl
                  refine pure_ (i := 3) (N := some 54) (v := ?_) (a' := ?_) #[true, false, true, true, false, false, false, false, false, false, false, false, false, false, false, false, false, false] rfl rfl (any_of HT_.out (by kernel_rfl)) (fun _ _ _ h => h) (Or.inl ⟨by rfl, ?_⟩) ?_ ?_
                  rotate_left
                  · intro w'
                    go_simp
                    with_reducible rfl
                  rotate_left
                  · simp only [Act.put, List.setIfInBounds_toArray, List.set_cons_zero, List.set_cons_succ, i64_w, i32_w]
                    rfl
                  refine pure_ (i := 4) (N := some 55) (v := ?_) (a' := ?_) #[true, false, true, true, true, false, false, false, false, false, false, false, false, false, false, false, false, false] rfl rfl (any_of HT_.out (by kernel_rfl)) (fun _ _ _ h => h) (Or.inl ⟨by rfl, ?_⟩) ?_ ?_
                  rotate_left
                  · intro w'
                    go_simp
                    with_reducible rfl
                  rotate_left
                  · simp only [Act.put, List.setIfInBounds_toArray, List.set_cons_zero, List.set_cons_succ, i64_w, i32_w]
                    rfl
                  refine pure_ (i := 5) (N := some 56) (v := ?_) (a' := ?_) #[true, false, true, true, true, true, false, false, false, false, false, false, false, false, false, false, false, false] rfl rfl (any_of HT_.out (by kernel_rfl)) (fun _ _ _ h => h) (Or.inl ⟨by rfl, ?_⟩) ?_ ?_
                  rotate_left
                  · intro w'
                    go_simp
                    with_reducible rfl
                  rotate_left
                  · simp only [Act.put, List.setIfInBounds_toArray, List.set_cons_zero, List.set_cons_succ, i64_w, i32_w]
                    rfl
                  refine pure_ (i := 9) (N := some 60) (v := ?_) (a' := ?_) #[true, false, true, true, true, true, false, false, false, true, false, false, false, false, false, false, false, false] rfl rfl (any_of HT_.out (by kernel_rfl)) (fun _ _ _ h => h) (Or.inl ⟨by rfl, ?_⟩) ?_ ?_
                  rotate_left
                  · intro w'
                    go_simp
                    with_reducible rfl
                  rotate_left
                  · simp only [Act.put, List.setIfInBounds_toArray, List.set_cons_zero, List.set_cons_succ, i64_w, i32_w]
                    rfl
                  refine pure_ (i := 10) (N := some 61) (v := ?_) (a' := ?_) #[true, false, true, true, true, true, false, false, false, true, true, false, false, false, false, false, false, false] rfl rfl (any_of HT_.out (by kernel_rfl)) (fun _ _ _ h => h) (Or.inl ⟨by rfl, ?_⟩) ?_ ?_
                  rotate_left
                  · intro w'
                    go_simp
                    with_reducible rfl
                  rotate_left
                  · simp only [Act.put, List.setIfInBounds_toArray, List.set_cons_zero, List.set_cons_succ, i64_w, i32_w]
                    rfl
                  refine pure_ (i := 11) (N := some 62) (v := ?_) (a' := ?_) #[true, false, true, true, true, true, false, false, false, true, true, true, false, false, false, false, false, false] rfl rfl (any_of HT_.out (by kernel_rfl)) (fun _ _ _ h => h) (Or.inl ⟨by rfl, ?_⟩) ?_ ?_
                  rotate_left
                  · intro w'
                    go_simp
                    with_reducible rfl
                  rotate_left
                  · simp only [Act.put, List.setIfInBounds_toArray, List.set_cons_zero, List.set_cons_succ, i64_w, i32_w]
                    rfl
                  refine pure_ (i := 12) (N := some 63) (v := ?_) (a' := ?_) #[true, false, true, true, true, true, false, false, false, true, true, true, true, false, false, false, false, false] rfl rfl (any_of HT_.out (by kernel_rfl)) (fun _ _ _ h => h) (Or.inl ⟨by rfl, ?_⟩) ?_ ?_
                  rotate_left
                  · intro w'
                    go_simp
                    with_reducible rfl
                  rotate_left
                  · simp only [Act.put, List.setIfInBounds_toArray, List.set_cons_zero, List.set_cons_succ, i64_w, i32_w]
                    rfl
                  refine take_ (i := 6) (N := some 57) (v := ?_) (a' := ?_) #[true, false, true, true, true, true, true, false, false, true, true, true, true, false, false, false, false, false] rfl rfl (take_ofW HT_.out HW_.out (by kernel_rfl)) (fun _ _ _ h => h) (Or.inl ⟨by rfl, ?_⟩) hHeld ?_ ?_
                  rotate_left
                  · rintro w' ⟨s0, s1, s2, s3⟩
                    go_simp
                    with_reducible rfl
                  rotate_left
                  · simp only [Act.put, List.setIfInBounds_toArray, List.set_cons_zero, List.set_cons_succ, i64_w, i32_w]
                    rfl
                  refine take_ (i := 13) (N := some 64) (v := ?_) (a' := ?_) #[true, false, true, true, true, true, true, false, false, true, true, true, true, true, false, false, false, false] rfl rfl (take_ofW HT_.out HW_.out (by kernel_rfl)) (fun _ _ _ h => h) (Or.inl ⟨by rfl, ?_⟩) hHeld ?_ ?_
                  rotate_left
                  · rintro w' ⟨s0, s1, s2, s3⟩
                    go_simp
                    with_reducible rfl
                  rotate_left
                  · simp only [Act.put, List.setIfInBounds_toArray, List.set_cons_zero, List.set_cons_succ, i64_w, i32_w]
                    rfl
                  refine one_ (i := 1) (N := some 52) #[true, true, true, true, true, true, true, false, false, true, true, true, true, true, false, false, false, false] rfl rfl (one_of HT_.out (by kernel_rfl)) (by decide) (fun K hK => ?_)
                  refine Kd.R_lit_step (Kd.int .i64) _ 3 ?hg (N := 52) ?hd (xs := ([0, 2, 1] : List Int)) (inner := [.int .i64 0, .int .i64 2, .int .i64 1]) (ok := fun _ => True) (okp := fun _ => True) ?hr ?hp (fun _ hk => hk) trivial (Below.refl _ _) (Nat.le_refl _) (by simp) ?_; (case hd => rfl); (case hg => rfl); (case hr => first | (go_simp; done) | (go_simp; rfl)); (case hp => exact (Reps.one (show Kd.M (Kd.int .i64) _ _ _ 0 [.int .i64 0] from rfl) (Reps.one (show Kd.M (Kd.int .i64) _ _ _ 2 [.int .i64 2] from rfl) (Reps.one (show Kd.M (Kd.int .i64) _ _ _ 1 [.int .i64 1] from rfl) (Reps.none _ _)))))
                  intro v130 w35 ho36 hb hg_ hnew_
                  have HS0_ := (hb.cell (World.block_lt_of_cell? _ _ (hHeld.1))).trans (hHeld.1)
                  have HS1_ := (hb.cell (World.block_lt_of_cell? _ _ (hHeld.2.1))).trans (hHeld.2.1)
                  have HS2_ := (hb.cell (World.block_lt_of_cell? _ _ (hHeld.2.2.1))).trans (hHeld.2.2.1)
                  have HS3_ := (hb.cell (World.block_lt_of_cell? _ _ (hHeld.2.2.2))).trans (hHeld.2.2.2)
                  clear hg_ hnew_
                  (first | rw [← Ny129.out] at ho36 | (simp only [Int.reduceToNat] at ho36; rw [← Ny129.out] at ho36))
                  have n0_ := Aside0.mk (Kd.V_elder' (by (with_reducible repeat (first | apply Kd.V_alloc | apply Kd.V_drewN | apply Kd.V_drew)); exact HO_0.out) (Kd.R_base ho36) hb)
                  have n1_ := Aside0.mk (Kd.N_elder' (by (with_reducible repeat (first | apply Kd.N_alloc | apply Kd.N_drewN | apply Kd.N_drew)); exact HO_3.out) (Kd.R_base ho36) hb)
                  have n2_ := Aside0.mk (Kd.V_elder' (by (with_reducible repeat (first | apply Kd.V_alloc | apply Kd.V_drewN | apply Kd.V_drew)); exact HL101_1.out) (Kd.R_base ho36) hb)
                  have n3_ := Aside0.mk (Kd.V_elder' (by (with_reducible repeat (first | apply Kd.V_alloc | apply Kd.V_drewN | apply Kd.V_drew)); exact HL132_1.out) (Kd.R_base ho36) hb)
                  have n4_ := Aside0.mk (Kd.V_elder' (by (with_reducible repeat (first | apply Kd.V_alloc | apply Kd.V_drewN | apply Kd.V_drew)); exact HL134_1.out) (Kd.R_base ho36) hb)
                  have n5_ := Aside0.mk (Kd.R_lower (Kd.R_newM (M := fun k_ => (w.heap.size ≤ k_)) ho36 (below_size (by repeat (first | (with_reducible first | exact HB.out | apply below_alloc | apply pw_below_drewN | apply below_drew1) | exact HB.out))) (fun k_ h_ => h_)) (below_size (by repeat (first | (with_reducible first | exact HB.out | apply below_alloc | apply pw_below_drewN | apply below_drew1) | exact HB.out))))
                  have n6_ := Aside0.mk (Kd.C_below (by repeat (first | (with_reducible exact HR101_1.out) | (with_reducible refine Kd.C_alloc ?_ _) | (with_reducible refine Kd.C_drewN ?_ _) | (with_reducible refine Kd.C_drew ?_) | exact HR101_1.out)) hb)
                  have n7_ := Aside0.mk (Kd.C_below (by repeat (first | (with_reducible exact HR132_1.out) | (with_reducible refine Kd.C_alloc ?_ _) | (with_reducible refine Kd.C_drewN ?_ _) | (with_reducible refine Kd.C_drew ?_) | exact HR132_1.out)) hb)
                  have n8_ := Aside0.mk (Kd.C_below (by repeat (first | (with_reducible exact HR134_1.out) | (with_reducible refine Kd.C_alloc ?_ _) | (with_reducible refine Kd.C_drewN ?_ _) | (with_reducible refine Kd.C_drew ?_) | exact HR134_1.out)) hb)
                  have n9_ := Aside0.mk (below_step (by repeat (first | (with_reducible first | exact HB.out | apply below_alloc | apply pw_below_drewN | apply below_drew1) | exact HB.out)) hb)
                  clear HO_0
                  clear HO_3
                  clear HL101_1
                  clear HL132_1
                  clear HL134_1
                  clear HR101_1
                  clear HR132_1
                  clear HR134_1
                  clear HB
                  have HO_0 := n0_
                  have HO_3 := n1_
                  have HL101_1 := n2_
                  have HL132_1 := n3_
                  have HL134_1 := n4_
                  have HO131 := n5_
                  have HR101_1 := n6_
                  have HR132_1 := n7_
                  have HR134_1 := n8_
                  have HB := n9_
                  clear n0_ n1_ n2_ n3_ n4_ n5_ n6_ n7_ n8_ n9_
                  clear hb ho36
                  obtain ⟨Ao37, co37, eo37⟩ := Kd.R_slice HO131.out
                  subst eo37
                  obtain ⟨ado37, fo37, _⟩ := Kd.at_int (Kd.R_reads' HO131.out).2.2 0 (by decide) (by rw [Ny129.out]; simp)
                  cases fo37
                  refine hK.out _ _ ⟨HS0_, HS1_, HS2_, HS3_⟩ (fun hHeld => ?_)
                  clear hK K
                  refine norm_ (a' := ?_) ?_ ?_
                  rotate_left
                  · show Act.put _ (some 52) _ = _
                    simp only [Act.put, List.setIfInBounds_toArray, List.set_cons_zero, List.set_cons_succ, i64_w, i32_w]
                    rfl
                  refine pure_ (i := 7) (N := some 58) (v := ?_) (a' := ?_) #[true, true, true, true, true, true, true, true, false, true, true, true, true, true, false, false, false, false] rfl rfl (any_of HT_.out (by kernel_rfl)) (fun _ _ _ h => h) (Or.inl ⟨by rfl, ?_⟩) ?_ ?_
                  rotate_left
                  · intro w'
                    go_simp
                    with_reducible rfl
                  rotate_left
                  · simp only [Act.put, List.setIfInBounds_toArray, List.set_cons_zero, List.set_cons_succ, i64_w, i32_w]
                    rfl
                  refine one_ (i := 8) (N := some 59) #[true, true, true, true, true, true, true, true, true, true, true, true, true, true, false, false, false, false] rfl rfl (one_of HT_.out (by kernel_rfl)) (by decide) (fun K hK => ?_)
                  (have p133 : 0 ≤ (((rd_T144 l0 x4_1).f0) : Int) := of_decide_eq_true (by first | (with_reducible assumption) | assumption); have q133 : ((rd_T144 l0 x4_1).f0) < (y129.length : Int) := of_decide_eq_true (by first | (with_reducible assumption) | assumption); obtain ⟨ad133, e133, hx133_0⟩ := Kd.at_int (Kd.R_reads' HO131.out).2.2 ((rd_T144 l0 x4_1).f0) p133 q133; obtain rfl : ado37 = ad133 := (by injection e133))
                  refine value_ (w1 := ?_) (v := ?_) (by rfl) rfl ?_ ?_
                  rotate_left 2
                  · go_simp
                    constructor
                    · rfl
                    · rfl
                  clear hx133_0
                  refine hK.out _ _ ⟨hHeld.1, hHeld.2.1, hHeld.2.2.1, hHeld.2.2.2⟩ (fun hHeld => ?_)
                  clear hK K
                  refine norm_ (a' := ?_) ?_ ?_
                  rotate_left
                  · show Act.put _ (some 59) _ = _
                    simp only [Act.put, List.setIfInBounds_toArray, List.set_cons_zero, List.set_cons_succ, i64_w, i32_w]
                    rfl
                  refine pure_ (i := 14) (N := some 65) (v := ?_) (a' := ?_) #[true, true, true, true, true, true, true, true, true, true, true, true, true, true, true, false, false, false] rfl rfl (any_of HT_.out (by kernel_rfl)) (fun _ _ _ h => h) (Or.inl ⟨by rfl, ?_⟩) ?_ ?_
                  rotate_left
                  · intro w'
                    go_simp
                    with_reducible rfl
                  rotate_left
                  · simp only [Act.put, List.setIfInBounds_toArray, List.set_cons_zero, List.set_cons_succ, i64_w, i32_w]
                    rfl
                  refine last_ (i := 15) (N := some 66) #[true, true, true, true, true, true, true, true, true, true, true, true, true, true, true, true, false, false] rfl rfl (one_of HT_.out (by kernel_rfl)) (by decide) (fun K hK => ?_)
                  refine value_ (w1 := ?_) (v := ?_) (by rfl) rfl ?_ ?_
                  rotate_left 2
                  · go_simp
                    constructor
                    · rfl
                    · rfl
                  refine hK.out _ _ ?_
                  clear hK K
                  refine norm_ (a' := ?_) ?_ ?_
                  rotate_left
                  · show Act.put _ (some 66) _ = _
                    simp only [Act.put, List.setIfInBounds_toArray, List.set_cons_zero, List.set_cons_succ, i64_w, i32_w]
                    rfl
                  refine last_ (i := 16) (N := some 67) #[true, true, true, true, true, true, true, true, true, true, true, true, true, true, true, true, true, false] rfl rfl (one_of HT_.out (by kernel_rfl)) (by decide) (fun K hK => ?_)
                  refine Kd.N_append_step k144 (w0 := w) w.heap.size (by rfl) (.tmp 51) (.tmp 66) 48 144 (.agg #[(.int .i64 0), (.slice none 0 0)]) 32 rfl Try.underlying48 info144 rfl (by decide) (by omega) u3 x3_1 (⟨rd y129 ((rd_T144 l0 x4_1).f0), (rd_T144 l0 x4_1).f1⟩ : S144) [.int .i64 (rd y129 ((rd_T144 l0 x4_1).f0)), .slice A132_1 ((rd_T144 l0 x4_1).f1).length c132_1] (fun k_ => (P0_ k_ ∨ w.heap.size ≤ k_) ∧ some k_ ≠ (.slice (some ado37) y129.length co37 : Value).ownBlock) (fun k_ => ((fun k_ => (P0_ k_ ∨ w.heap.size ≤ k_) ∧ some k_ ≠ (.slice (some ado37) y129.length co37 : Value).ownBlock)) k_ ∧ some k_ ≠ (u3 : Value).ownBlock) rfl rfl ?aP (fun _ hk => hk) ?aF ?aO ?aB ?aS ?aL ?_
                  (case aP => exact (k144_mkF _ _ (⟨rd y129 ((rd_T144 l0 x4_1).f0), (rd_T144 l0 x4_1).f1⟩ : S144) (Kd.V_reads' (Kd.V_mono (ok' := (fun k_ => ((fun k_ => (P0_ k_ ∨ w.heap.size ≤ k_) ∧ some k_ ≠ (.slice (some ado37) y129.length co37 : Value).ownBlock)) k_ ∧ some k_ ≠ (u3 : Value).ownBlock)) (HL134_1.out) (fun k_ hk => ⟨⟨hk.1.1, hk.2⟩, hk.1.2⟩))).2.1 (Kd.V_F (Kd.V_mono (ok' := (fun k_ => ((fun k_ => (P0_ k_ ∨ w.heap.size ≤ k_) ∧ some k_ ≠ (.slice (some ado37) y129.length co37 : Value).ownBlock)) k_ ∧ some k_ ≠ (u3 : Value).ownBlock)) (HL134_1.out) (fun k_ hk => ⟨⟨hk.1.1, hk.2⟩, hk.1.2⟩)))))
                  (case aB => exact (by repeat (first | (with_reducible first | exact HB.out | apply below_alloc | apply pw_below_drewN | apply below_drew1) | exact HB.out)))
                  (case aF => exact (fun k_ hk => ⟨(.inr (Nat.le_trans (below_size (by repeat (first | (with_reducible first | exact HB.out | apply below_alloc | apply pw_below_drewN | apply below_drew1) | exact HB.out))) hk)), Kd.fresh' (Kd.R_lt (by (with_reducible repeat (first | apply Kd.R_alloc | apply Kd.R_drewN | apply Kd.R_drew)); exact HO131.out)) k_ hk⟩))
                  (case aO => exact (by (with_reducible repeat (first | apply Kd.N_alloc | apply Kd.N_drewN | apply Kd.N_drew)); exact HO_3.out))
                  (case aS => exact (below_size (by repeat (first | (with_reducible first | exact HB.out | apply below_alloc | apply pw_below_drewN | apply below_drew1) | exact HB.out))))
                  (case aL => have := LMc33.out; omega)
                  intro v136 w38 ho hb hg hat
                  rw [← Ny135.out] at ho
                  have n0_ := Aside0.mk (Kd.V_afterv (ok := (fun k_ => (P0_ k_ ∨ w.heap.size ≤ k_) ∧ some k_ ≠ (.slice (some ado37) y129.length co37 : Value).ownBlock)) (by (with_reducible repeat (first | apply Kd.V_alloc | apply Kd.V_drewN | apply Kd.V_drew)); exact Kd.V_mono HO_0.out (fun _ hk => ⟨⟨hk.1.1, hk.2⟩, hk.1.2⟩)) hg hat)
                  have n1_ := Aside0.mk (Kd.V_afterv (ok := (fun k_ => (P0_ k_ ∨ w.heap.size ≤ k_) ∧ some k_ ≠ (.slice (some ado37) y129.length co37 : Value).ownBlock)) (by (with_reducible repeat (first | apply Kd.V_alloc | apply Kd.V_drewN | apply Kd.V_drew)); exact Kd.V_mono HL101_1.out (fun _ hk => ⟨⟨hk.1.1, hk.2⟩, hk.1.2⟩)) hg hat)
                  have n2_ := Aside0.mk (Kd.V_afterv (ok := (fun k_ => (P0_ k_ ∨ w.heap.size ≤ k_) ∧ some k_ ≠ (.slice (some ado37) y129.length co37 : Value).ownBlock)) (by (with_reducible repeat (first | apply Kd.V_alloc | apply Kd.V_drewN | apply Kd.V_drew)); exact Kd.V_mono HL132_1.out (fun _ hk => ⟨⟨hk.1.1, hk.2⟩, hk.1.2⟩)) hg hat)
                  have n3_ := Aside0.mk (Kd.V_afterv (ok := (fun k_ => (P0_ k_ ∨ w.heap.size ≤ k_) ∧ some k_ ≠ (.slice (some ado37) y129.length co37 : Value).ownBlock)) (by (with_reducible repeat (first | apply Kd.V_alloc | apply Kd.V_drewN | apply Kd.V_drew)); exact Kd.V_mono HL134_1.out (fun _ hk => ⟨⟨hk.1.1, hk.2⟩, hk.1.2⟩)) hg hat)
                  have n4_ := Aside0.mk (Kd.R_over' (by (with_reducible repeat (first | apply Kd.R_alloc | apply Kd.R_drewN | apply Kd.R_drew)); exact HO131.out) (Kd.N_typed (by (with_reducible repeat (first | apply Kd.N_alloc | apply Kd.N_drewN | apply Kd.N_drew)); exact HO_3.out)) (by decide) hg)
                  have n5_ := Aside0.mk (hb)
                  have n6_ := Aside0.mk (ho)
                  clear HO_0
                  clear HL101_1
                  clear HL132_1
                  clear HL134_1
                  clear HO131
                  clear HB
                  clear HO_3
                  have HO_0 := n0_
                  have HL101_1 := n1_
                  have HL132_1 := n2_
                  have HL134_1 := n3_
                  have HO131 := n4_
                  have HB := n5_
                  have HO137 := n6_
                  clear n0_ n1_ n2_ n3_ n4_ n5_ n6_
                  clear ho hb hg hat
                  refine hK.out _ _ ?_
                  clear hK K
                  refine norm_ (a' := ?_) ?_ ?_
                  rotate_left
                  · show Act.put _ (some 67) _ = _
                    simp only [Act.put, List.setIfInBounds_toArray, List.set_cons_zero, List.set_cons_succ, i64_w, i32_w]
                    rfl
                  refine pure_ (i := 17) (N := some 3) (v := ?_) (a' := ?_) #[true, true, true, true, true, true, true, true, true, true, true, true, true, true, true, true, true, true] rfl rfl (any_of HT_.out (by kernel_rfl)) (fun _ _ _ h => h) (Or.inl ⟨by rfl, ?_⟩) ?_ ?_
                  rotate_left
                  · intro w'
                    go_simp
                    with_reducible rfl
                  rotate_left
                  · simp only [Act.put, List.setIfInBounds_toArray, List.set_cons_zero, List.set_cons_succ, i64_w, i32_w]
                    rfl
                  refine done_ (done_of HT_.out (by kernel_rfl)) ?_
                  try go_wp2
                  go_roundg k1
                  case measure => have := HK1.out; omega
                  case rel => exact ⟨(y135), (wrap64 (x4_1 + 1)), (by first | rfl | (simp; done) | (simp [*]; done)), H', ⟨by have := HK1.out; omega⟩, ⟨by (with_reducible repeat (first | apply Kd.V_alloc | apply Kd.V_drewN | apply Kd.V_drew)); exact Kd.V_mono HO_0.out (fun _ hk => ⟨hk.1.1, hk.2⟩)⟩, ⟨by (with_reducible repeat (first | apply Kd.N_alloc | apply Kd.N_drewN | apply Kd.N_drew)); exact Kd.N_mono HO137.out (fun _ hk => hk.1)⟩, ⟨by repeat (first | (with_reducible first | exact HB.out | apply below_alloc | apply pw_below_drewN | apply below_drew1) | exact HB.out)⟩⟩
                · rw [if_neg c33] at H
                  exact absurd H (by simp)
              · rw [if_neg c32] at H
                exact absurd H (by simp)
            · rw [if_neg c31] at H
              exact absurd H (by simp)
        · rw [if_neg c3] at H
          exact absurd H (by simp)
      · rw [if_neg c2] at H
        have c2b0 : decide (x4_1 < (l0.length : Int)) = false := decide_eq_false c2
        clear c2
        obtain rfl := Option.some.inj H
        go_wp2
        go_ret
        exact ⟨_, by first | rfl | (simp [errW_none, errW_some] <;> rfl) | (simp [*, errW_none, errW_some] <;> rfl), by (with_reducible repeat (first | apply Kd.N_alloc | apply Kd.N_drewN | apply Kd.N_drew)); exact HO_3.out, by repeat (first | (with_reducible first | exact HB.out | apply below_alloc | apply pw_below_drewN | apply below_drew1) | exact HB.out)⟩

end Go.Proofs.Ytadafplbgophfaa.PA
end
