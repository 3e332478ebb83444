/- Part 4 of what the row of the law PatchTurns rests on: walks of functions, and plain lemmas (in part printed by the kit's print, what is not reached left out). -/
import Derived.Test.YtadafplbgophfaaGreatDoorpatchTurns3
set_option linter.unusedVariables false
set_option linter.unusedSimpArgs false
section
namespace Go.Proofs.YtadafplbgophfaaGreatDoor.PA
open Go.RowKit Go.Proofs.YtadafplbgophfaaGreatDoorW.PrintWords Go.Proofs.YtadafplbgophfaaGreatDoorW.PrintLast Go.Proofs.YtadafplbgophfaaGreatDoorW.PrintMore
attribute [local go_sem] Xv Xx Yl Ym Xo Xp Xw Xy
def Qw.l0 : Nat → List (S49) → List (S68) → Int → Int → Option ((List (S49)))
 | 0, _, _, _, _ => none
 | k + 1, x3, x7, x8, x9 => if x9 < x8 then (if 0 ≤ x9 then (if x9 < (x7.length : Int) then (if (x3.length : Int) > 0 then (if 0 ≤ (wrap64 ((x3.length : Int) - 1)) then (if (wrap64 ((x3.length : Int) - 1)) < (x3.length : Int) then (if ((Qy x3 (wrap64 ((x3.length : Int) - 1))).f0) = ((Zd x7 x9).f0) then (if ((Qy x3 (wrap64 ((x3.length : Int) - 1))).f1).length < 8796093022208 then (Qw.l0 k (x3.set ((wrap64 ((x3.length : Int) - 1)) : Int).toNat (⟨(Qy x3 (wrap64 ((x3.length : Int) - 1))).f0, (((Qy x3 (wrap64 ((x3.length : Int) - 1))).f1) ++ [(Zd x7 x9).f1])⟩ : S49)) x7 x8 (wrap64 (x9 + 1))) else (none)) else (if x3.length < 4398046511104 then (Qw.l0 k (x3 ++ [(⟨(Zd x7 x9).f0, (([(Zd x7 x9).f1] : List ByteArray))⟩ : S49)]) x7 x8 (wrap64 (x9 + 1))) else (none))) else (none)) else (none)) else (if x3.length < 4398046511104 then (Qw.l0 k (x3 ++ [(⟨(Zd x7 x9).f0, (([(Zd x7 x9).f1] : List ByteArray))⟩ : S49)]) x7 x8 (wrap64 (x9 + 1))) else (none))) else (none)) else (none)) else (some x3)
def Qw.f (k : Nat) (l0 : List (S68)) : Option ((List (S49))) := Qw.l0 k ([] : List (S49)) l0 (l0.length : Int) 0
def Qw.T6 : Bool × List (List Nat × List Nat) := (true, [([], []), ([0], [0]), ([1], [1]), ([2], [2]), ([2], [2]), ([4, 2], [2, 4]), ([3, 5, 2], [2, 3, 5]), ([6, 2], [2, 6]), ([7, 2], [2, 7]), ([2], [2]), ([9, 2], [2, 9]), ([8, 10, 2], [2, 8, 10]), ([2, 11], [2, 11])])
def Qw.B6 : List Nat := [0, 1, 3, 7, 7, 23, 63, 127, 255, 7, 519, 2047, 4095]
theorem Qw.tab6 : Yu .any (Jj Tryz.f14 6) = Qw.T6 := by kernel_rfl
theorem Qw.bits6 : Ys Qw.T6.2 Qw.B6 = true := by kernel_rfl
def Qw.T7 : Bool × List (List Nat × List Nat) := (true, [([], []), ([], []), ([1], [1]), ([], []), ([], []), ([4], [4]), ([3, 5], [3, 5]), ([6], [6]), ([7], [7]), ([], []), ([9], [9]), ([10], [10]), ([8, 11], [8, 11]), ([0, 2, 0, 1, 2, 3, 4, 5, 6, 7, 8, 9, 10, 11, 12], [0, 2]), ([13, 0, 1, 2, 3, 4, 5, 6, 7, 8, 9, 10, 11, 12], [13]), ([14, 12, 12, 0, 1, 2, 3, 4, 5, 6, 7, 8, 9, 10, 11, 12], [12, 14])])
def Qw.B7 : List Nat := [0, 0, 2, 0, 0, 16, 56, 120, 248, 0, 512, 1536, 4088, 8191, 16383, 32767]
theorem Qw.tab7 : Yu .any (Jj Tryz.f14 7) = Qw.T7 := by kernel_rfl
theorem Qw.bits7 : Ys Qw.T7.2 Qw.B7 = true := by kernel_rfl
set_option maxHeartbeats 8000000 in
set_option maxRecDepth 100000 in
theorem Qw.calls (k : Nat) (A0 : Option Addr) (c0 : Nat) (l0 : List (S68)) (r : List (S49)) (w : World) (hr0 : Kd.C k68 w A0 l0.length l0) (hc0 : l0.length ≤ c0) (h : Qw.f k l0 = some r) :
  Calls Tryz.prog 14 #[.slice A0 l0.length c0] w fun e w' => ∃ v0_ : Value, e = .returned (v0_) ∧ Kd.S k49 49 w' w.heap.size (fun _ => True) v0_ r ∧ Below w.heap.size w w' := by
 have hu68 := Tryz.underlying68; have hu49 := Tryz.underlying49; have HR0 := Qa.mk hr0; have HC0 := Qa.mk hc0; clear hr0 hc0; have HB := Qa.mk (Below.refl w.heap.size w); have H : (Qw.l0 k ([] : List (S49)) l0 (l0.length : Int) 0) = some r := h; clear h; have H' := Qa.mk H; clear H
 go_enter Tryz.func14, Tryz.ntmps14
 go_wp2
 go_loopg [3, 9] k (fun kq v3 v9 w' => ∃ (a3 : List (S49)) (a0 : Int), v9 = .int .i64 a0 ∧ Qa (Qw.l0 kq a3 l0 (l0.length : Int) a0 = some r) ∧ Qa (kq ≤ k) ∧ Qa (Kd.S k49 49 w' w.heap.size (fun _ => True) v3 a3) ∧ Qa (Below w.heap.size w w'))
 case atStart => exact ⟨(([] : List (S49))), (0), (by first | rfl | (simp; done) | (simp [*]; done)), H', ⟨Nat.le_refl _⟩, ⟨by first | exact Kd.S_nil _ _ _ _ _ | exact Kd.N_nil _ _ _ _ _ | exact Kd.V_nil _ _ _ _ _ | exact Kd.Q_nil _ _ _ _ _ | exact Kd.R_nil _ _ _ _ _⟩, ⟨by repeat (first | (with_reducible first | exact HB.out | apply Qc | apply Qb | apply Qd) | exact HB.out)⟩⟩
 case round =>
  clear H'
  try clear c1
  obtain ⟨a3, a0, rfl, HA, HK1, a4, HB⟩ := hrel
  cases gk with
  | zero => exact absurd HA.out (by simp [Qw.l0])
  | succ k1 =>
   have H := HA.out; clear HA
   simp only [Qw.l0] at H
   by_cases c2 : a0 < (l0.length : Int)
   ·rw [if_pos c2] at H
    have h9 : decide (a0 < (l0.length : Int)) = true := decide_eq_true c2; clear c2
    by_cases c3 : 0 ≤ a0
    ·rw [if_pos c3] at H
     have l8 : decide (0 ≤ a0) = true := decide_eq_true c3; clear c3
     by_cases c4 : a0 < (l0.length : Int)
     ·rw [if_pos c4] at H
      have l9 : decide (a0 < (l0.length : Int)) = true := decide_eq_true c4; clear c4
      by_cases c5 : (a3.length : Int) > 0
      ·rw [if_pos c5] at H
       have i0 : decide (0 < (a3.length : Int)) = true := decide_eq_true c5; have i1 : decide (0 < a3.length) = true := decide_eq_true (by omega); clear c5; obtain ⟨ji6, e8⟩ : ∃ j_ : Int, (wrap64 ((a3.length : Int) - 1)) = j_ := ⟨_, rfl⟩
       replace H : (if 0 ≤ (ji6) then (if (ji6) < (a3.length : Int) then (if ((Qy a3 (ji6)).f0) = ((Zd l0 a0).f0) then (if ((Qy a3 (ji6)).f1).length < 8796093022208 then (Qw.l0 k1 (a3.set ((ji6) : Int).toNat (⟨(Qy a3 (ji6)).f0, (((Qy a3 (ji6)).f1) ++ [(Zd l0 a0).f1])⟩ : S49)) l0 (l0.length : Int) (wrap64 (a0 + 1))) else (none)) else (if a3.length < 4398046511104 then (Qw.l0 k1 (a3 ++ [(⟨(Zd l0 a0).f0, (([(Zd l0 a0).f1] : List ByteArray))⟩ : S49)]) l0 (l0.length : Int) (wrap64 (a0 + 1))) else (none))) else (none)) else (none)) = some r := by first | (rw [e8] at H; exact H) | (simp only [e8] at H ⊢; exact H)
       have l7 : (IntKind.i64.wrap ((a3.length : Int) - 1)) = ji6 := (Qp _).trans e8
       by_cases c7 : 0 ≤ (ji6)
       ·rw [if_pos c7] at H
        have m0 : decide (0 ≤ (ji6)) = true := decide_eq_true c7; clear c7
        by_cases c8 : (ji6) < (a3.length : Int)
        ·rw [if_pos c8] at H
         have m1 : decide ((ji6) < (a3.length : Int)) = true := decide_eq_true c8; clear c8
         by_cases c9 : ((Qy a3 (ji6)).f0) = ((Zd l0 a0).f0)
         ·rw [if_pos c9] at H
          have i2 : (((Qy a3 (ji6)).f0) == ((Zd l0 a0).f0)) = true := beq_iff_eq.mpr c9; have i3 : (((Qy a3 (ji6)).f0) != ((Zd l0 a0).f0)) = false := bne_eq_false_iff_eq.mpr c9; clear c9
          by_cases c10 : ((Qy a3 (ji6)).f1).length < 8796093022208
          ·rw [if_pos c10] at H
           have g8 := Qa.mk c10; clear c10; obtain ⟨d7, b7⟩ : ∃ y_ : List ByteArray, y_ = (((Qy a3 (ji6)).f1) ++ [(Zd l0 a0).f1]) := ⟨_, rfl⟩
           replace H : (Qw.l0 k1 (a3.set ((ji6) : Int).toNat (⟨(Qy a3 (ji6)).f0, d7⟩ : S49)) l0 (l0.length : Int) (wrap64 (a0 + 1))) = some r := by first | (rw [b7]; with_reducible exact H) | (have H2_ := (Option.bind_some _ _).symm.trans H; rw [b7]; with_reducible exact H2_) | (have H2_ := (Option.bind_some _ _).symm.trans H; with_reducible exact H2_) | with_reducible exact H | (rw [b7]; exact H) | exact H
           have g9 := Qa.mk b7; clear b7; obtain ⟨g1, b8⟩ : ∃ y_ : List (S49), y_ = (a3.set ((ji6) : Int).toNat (⟨(Qy a3 (ji6)).f0, d7⟩ : S49)) := ⟨_, rfl⟩
           replace H : (Qw.l0 k1 g1 l0 (l0.length : Int) (wrap64 (a0 + 1))) = some r := by first | (rw [b8]; with_reducible exact H) | (have H2_ := (Option.bind_some _ _).symm.trans H; rw [b8]; with_reducible exact H2_) | (have H2_ := (Option.bind_some _ _).symm.trans H; with_reducible exact H2_) | with_reducible exact H | (rw [b8]; exact H) | exact H
           have h0 := Qa.mk b8; clear b8; have H' := Qa.mk H; clear H; have b1 : 0 ≤ (a0 : Int) := of_decide_eq_true (by first | (with_reducible assumption) | assumption); have b2 : a0 < (l0.length : Int) := of_decide_eq_true (by first | (with_reducible assumption) | assumption); obtain ⟨f4, d8, a5, a6⟩ := Qah HR0.out a0 b1 b2
           cases d8; replace a5 := (HB.out.cell (World.block_lt_of_cell? w _ a5)).trans a5; replace a6 := (HB.out.cell (World.block_lt_of_cell? w _ a6)).trans a6; replace b1 := eq_true b1; replace b2 := eq_true b2
           try go_wp2_with (first | ((with_reducible refine Zs (N := 5) rfl ?_); refine Xd ?hg (N := 5) ?hd (cs := #[.int .i64 0, .string (⟨#[]⟩ : ByteArray)]) (t := 68) ?hr ?_; (case hd => rfl); (case hg => rfl); (case hr => first | (go_simp; done) | (go_simp; rfl)); intro a2 hg w12 hbox hb; have n0_ := Qa.mk (Kd.S_below (by (with_reducible repeat (first | apply Kd.S_alloc | apply Kd.S_drewN | apply Kd.S_drew)); exact a4.out) hb); have n1_ := Qa.mk (Qk (by repeat (first | (with_reducible first | exact HB.out | apply Qc | apply Qb | apply Qd) | exact HB.out)) hb); have n2_ := Qa.mk (hbox); have n3_ := Qa.mk ((by rw [hg]; exact (Qh (by repeat (first | (with_reducible first | exact HB.out | apply Qc | apply Qb | apply Qd) | exact HB.out))) : w.heap.size ≤ a2)); have n4_ := Qa.mk ((by rw [hg]; exact (Qh (by repeat (first | (with_reducible first | exact HB.out | apply Qc | apply Qb | apply Qd) | exact HB.out))) : w.heap.size ≤ a2)); clear a4; clear HB; have a4 := n0_; have HB := n1_; have a1 := n2_; have f5 := n3_; have GE102 := n4_; clear n0_ n1_ n2_ n3_ n4_; clear hb hbox hg; have j0 : w12.cell? ⟨a2, 0, none⟩ = some (.int .i64 0) := (Ql a1.out 0).trans rfl; have j2 : w12.cell? ⟨a2, 1, none⟩ = some (.string (⟨#[]⟩ : ByteArray)) := (Ql a1.out 1).trans rfl; have j3 := Qo a1.out 0; have j4 := Qo a1.out 1; obtain ⟨i4, i5, eo14⟩ := Kd.S_slice a4.out; subst eo14))
           have n0_ : Qa (Kd.S k49 49 ((w12.setCell ⟨a2, 0, none⟩ (.int .i64 ((Zd l0 a0).f0))).setCell ⟨a2, 1, none⟩ (.string ((Zd l0 a0).f1))) w.heap.size (fun _ => True) (.slice i4 a3.length i5) a3) := ⟨by (with_reducible repeat (first | apply Kd.S_alloc | apply Kd.S_drewN | apply Kd.S_drew)); exact Kd.S_mono (Kd.S_far (p := ⟨a2, 1, none⟩) (Kd.S_far (p := ⟨a2, 0, none⟩) (Kd.S_types a4.out a1.out (by decide)) (fun _ hk => hk.2) (.int .i64 ((Zd l0 a0).f0))) (fun _ hk => hk.2) (.string ((Zd l0 a0).f1))) (fun _ hk => trivial)⟩; have n1_ : Qa (((w12.setCell ⟨a2, 0, none⟩ (.int .i64 ((Zd l0 a0).f0))).setCell ⟨a2, 1, none⟩ (.string ((Zd l0 a0).f1))).heap[a2]? = some (.cells #[.int .i64 ((Zd l0 a0).f0), .string ((Zd l0 a0).f1)] 68 (0, 0))) := ⟨by (with_reducible repeat (first | refine Zf ?_ _ | refine Zg ?_ | refine Zb ?_ _)); refine Zu (cs := #[.int .i64 ((Zd l0 a0).f0), .string (⟨#[]⟩ : ByteArray)]) ?_ 1 _ rfl; (with_reducible repeat (first | refine Zf ?_ _ | refine Zg ?_ | refine Zb ?_ _)); refine Zu (cs := #[.int .i64 0, .string (⟨#[]⟩ : ByteArray)]) ?_ 0 _ rfl; (with_reducible repeat (first | refine Zf ?_ _ | refine Zg ?_ | refine Zb ?_ _)); exact a1.out⟩; have n2_ : Qa (Below w.heap.size w ((w12.setCell ⟨a2, 0, none⟩ (.int .i64 ((Zd l0 a0).f0))).setCell ⟨a2, 1, none⟩ (.string ((Zd l0 a0).f1)))) := ⟨by repeat (first | (with_reducible first | exact HB.out | apply Qc | apply Qb | apply Qd | refine Qu ?_ GE102.out) | exact HB.out)⟩
           (try clear a4)
           (try clear a1)
           (try clear HB)
           generalize ((w12.setCell ⟨a2, 0, none⟩ (.int .i64 ((Zd l0 a0).f0))).setCell ⟨a2, 1, none⟩ (.string ((Zd l0 a0).f1))) = w15 at n0_ n1_ n2_ ⊢
           have a4 := n0_; have a1 := n1_; have HB := n2_; clear n0_ n1_ n2_; have n0_ := Qa.mk (Kd.S_drew a4.out); have n1_ := Qa.mk (Zg a1.out); have n2_ := Qa.mk (Qd HB.out); clear a4; clear a1; clear HB; have a4 := n0_; have a1 := n1_; have HB := n2_; clear n0_ n1_ n2_; have b4 : 0 ≤ ((ji6) : Int) := of_decide_eq_true (by first | (with_reducible assumption) | assumption); have b5 : (ji6) < (a3.length : Int) := of_decide_eq_true (by first | (with_reducible assumption) | assumption); obtain ⟨a9, d9, e0, e9, b0, a7, hl103_1, hi103_1⟩ := Ug (Kd.S_reads' a4.out).2.2 (ji6) b4 b5
           cases e9; obtain ⟨ce103, hce103, hMe103, hcc103⟩ := Kd.S_get a4.out z49 (ji6) b4 (by first | exact b5 | exact of_decide_eq_true (by first | (with_reducible assumption) | assumption) | (have e_ := (Kd.S_reads' a4.out).1; omega)); obtain ⟨ve103_1, rfl, ge103_1⟩ := Qbh hMe103; have hv103_1 := hcc103 1 _ rfl
           rw [Xf _ _ 1 (by omega)] at hv103_1
           replace hv103_1 := Option.some.inj (hv103_1.symm.trans a7)
           rw [hv103_1] at ge103_1
           have HL103_1 := Qa.mk (show Kd.R Kd.string 9 _ _ _ _ ((Qy a3 (ji6)).f1) from ge103_1); clear hv103_1 ge103_1; have HX103_1 := Qa.mk a7; clear hcc103 hce103; have a8 := Qa.mk hi103_1; have f9 := Qa.mk hl103_1; clear hi103_1 hl103_1; replace b4 := eq_true b4; replace b5 := eq_true b5; refine Vo (n := 13) (S := fun w' => w'.cell? ⟨a2, 0, none⟩ = some (.int .i64 ((Zd l0 a0).f0)) ∧ w'.cell? ⟨a2, 1, none⟩ = some (.string ((Zd l0 a0).f1)) ∧ w'.cell? (a9.add (((ji6)).toNat * 2)) = some (.int .i64 ((Qy a3 (ji6)).f0)) ∧ w'.cell? ⟨(a9.add (((ji6)).toNat * 2)).block, (a9.add (((ji6)).toNat * 2)).off + 1, none⟩ = some (.slice d9 ((Qy a3 (ji6)).f1).length e0)) (ds := []) (bz_ 13 0) (by kernel_rfl) rfl rfl ⟨(Ql a1.out 0).trans rfl, (Ql a1.out 1).trans rfl, b0, a7⟩ (fun hHeld => ?_); refine Yd Qw.tab6 Qw.bits6 (fun HT_ HW_ => ?_)
           generalize w15.drew = w16 at a4 a1 HB HL103_1 a8 HX103_1 b0 a7 hHeld ⊢
           refine Qx (i := 0) (N := some 15) (v := ?_) (a' := ?_) (bz_ 13 1) rfl rfl (Qs HT_.out (by kernel_rfl)) (fun _ _ _ h => h) (Or.inl ⟨by rfl, ?_⟩) ?_ ?_; rotate_left
           ·intro w'
            go_simp
            with_reducible rfl
           rotate_left
           ·simp only [Act.put, sA_, sB_, sC_, Qp, Qr]
            rfl
           refine Qx (i := 1) (N := some 16) (v := ?_) (a' := ?_) (bz_ 13 3) rfl rfl (Qs HT_.out (by kernel_rfl)) (fun _ _ _ h => h) (Or.inl ⟨by rfl, ?_⟩) ?_ ?_; rotate_left
           ·intro w'
            go_simp
            with_reducible rfl
           rotate_left
           ·simp only [Act.put, sA_, sB_, sC_, Qp, Qr]
            rfl
           refine Qx (i := 2) (N := some 17) (v := ?_) (a' := ?_) (bz_ 13 7) rfl rfl (Qs HT_.out (by kernel_rfl)) (fun _ _ _ h => h) (Or.inl ⟨by rfl, ?_⟩) ?_ ?_; rotate_left
           ·intro w'
            go_simp
            with_reducible rfl
           rotate_left
           ·simp only [Act.put, sA_, sB_, sC_, Qp, Qr]
            rfl
           refine Qx (i := 3) (N := some 18) (v := ?_) (a' := ?_) (bz_ 13 15) rfl rfl (Qs HT_.out (by kernel_rfl)) (fun _ _ _ h => h) (Or.inl ⟨by rfl, ?_⟩) ?_ ?_; rotate_left
           ·intro w'
            go_simp
            with_reducible rfl
           rotate_left
           ·simp only [Act.put, sA_, sB_, sC_, Qp, Qr]
            rfl
           refine Qx (i := 4) (N := some 19) (v := ?_) (a' := ?_) (bz_ 13 31) rfl rfl (Qs HT_.out (by kernel_rfl)) (fun _ _ _ h => h) (Or.inl ⟨by rfl, ?_⟩) ?_ ?_; rotate_left
           ·intro w'
            go_simp
            with_reducible rfl
           rotate_left
           ·simp only [Act.put, sA_, sB_, sC_, Qp, Qr]
            rfl
           refine Qx (i := 5) (N := some 20) (v := ?_) (a' := ?_) (bz_ 13 63) rfl rfl (Qs HT_.out (by kernel_rfl)) (fun _ _ _ h => h) (Or.inl ⟨by rfl, ?_⟩) ?_ ?_; rotate_left
           ·intro w'
            go_simp
            with_reducible rfl
           rotate_left
           ·simp only [Act.put, sA_, sB_, sC_, Qp, Qr]
            rfl
           refine Qx (i := 6) (N := some 21) (v := ?_) (a' := ?_) (bz_ 13 127) rfl rfl (Qs HT_.out (by kernel_rfl)) (fun _ _ _ h => h) (Or.inl ⟨by rfl, ?_⟩) ?_ ?_; rotate_left
           ·intro w'
            go_simp
            with_reducible rfl
           rotate_left
           ·simp only [Act.put, sA_, sB_, sC_, Qp, Qr]
            rfl
           refine Qx (i := 7) (N := some 22) (v := ?_) (a' := ?_) (bz_ 13 255) rfl rfl (Qs HT_.out (by kernel_rfl)) (fun _ _ _ h => h) (Or.inl ⟨by rfl, ?_⟩) ?_ ?_; rotate_left
           ·intro w'
            go_simp
            with_reducible rfl
           rotate_left
           ·simp only [Act.put, sA_, sB_, sC_, Qp, Qr]
            rfl
           refine Qx (i := 9) (N := some 24) (v := ?_) (a' := ?_) (bz_ 13 767) rfl rfl (Qs HT_.out (by kernel_rfl)) (fun _ _ _ h => h) (Or.inl ⟨by rfl, ?_⟩) ?_ ?_; rotate_left
           ·intro w'
            go_simp
            with_reducible rfl
           rotate_left
           ·simp only [Act.put, sA_, sB_, sC_, Qp, Qr]
            rfl
           refine take_ (i := 8) (N := some 23) (v := ?_) (a' := ?_) (bz_ 13 1023) rfl rfl (Xb HT_.out HW_.out (by kernel_rfl)) (fun _ _ _ h => h) (Or.inl ⟨by rfl, ?_⟩) hHeld ?_ ?_; rotate_left
           ·rintro w' ⟨s0, s1, s2, s3⟩
            go_simp
            with_reducible rfl
           rotate_left
           ·simp only [Act.put, sA_, sB_, sC_, Qp, Qr]
            rfl
           refine take_ (i := 10) (N := some 25) (v := ?_) (a' := ?_) (bz_ 13 2047) rfl rfl (Xb HT_.out HW_.out (by kernel_rfl)) (fun _ _ _ h => h) (Or.inl ⟨by rfl, ?_⟩) hHeld ?_ ?_; rotate_left
           ·rintro w' ⟨s0, s1, s2, s3⟩
            go_simp
            with_reducible rfl
           rotate_left
           ·simp only [Act.put, sA_, sB_, sC_, Qp, Qr]
            rfl
           refine Qx (i := 11) (N := some 26) (v := ?_) (a' := ?_) (bz_ 13 4095) rfl rfl (Qs HT_.out (by kernel_rfl)) (fun _ _ _ h => h) (Or.inl ⟨by rfl, ?_⟩) ?_ ?_; rotate_left
           ·intro w'
            go_simp
            with_reducible rfl
           rotate_left
           ·simp only [Act.put, sA_, sB_, sC_, Qp, Qr]
            rfl
           refine Qx (i := 12) (N := some 27) (v := ?_) (a' := ?_) (bz_ 13 8191) rfl rfl (Qs HT_.out (by kernel_rfl)) (fun _ _ _ h => h) (Or.inl ⟨by rfl, ?_⟩) ?_ ?_; rotate_left
           ·intro w'
            go_simp
            with_reducible rfl
           rotate_left
           ·simp only [Act.put, sA_, sB_, sC_, Qp, Qr]
            rfl
           refine Un (Vb HT_.out (by kernel_rfl)) ?_
           try go_wp2
           have n0_ := Qa.mk (Kd.S_drew a4.out); have n1_ := Qa.mk (Kd.R_drew HL103_1.out); have n2_ := Qa.mk (Zg a1.out); have n3_ := Qa.mk (Kd.C_drew a8.out); have n4_ := Qa.mk (Qd HB.out); clear a4; clear HL103_1; clear a1; clear a8; clear HB; have a4 := n0_; have HL103_1 := n1_; have a1 := n2_; have a8 := n3_; have HB := n4_; clear n0_ n1_ n2_ n3_ n4_; have e3 : 0 ≤ ((ji6) : Int) := of_decide_eq_true (by first | (with_reducible assumption) | assumption); have e4 : (ji6) < (a3.length : Int) := of_decide_eq_true (by first | (with_reducible assumption) | assumption); obtain ⟨h2, e1, e2, i6, d3, b3, hl104_1, hi104_1⟩ := Ug (Kd.S_reads' a4.out).2.2 (ji6) e3 e4; obtain rfl : a9 = h2 := (by injection i6); obtain ⟨ce104, hce104, hMe104, hcc104⟩ := Kd.S_get a4.out z49 (ji6) e3 (by first | exact e4 | exact of_decide_eq_true (by first | (with_reducible assumption) | assumption) | (have e_ := (Kd.S_reads' a4.out).1; omega)); obtain ⟨ve104_1, rfl, ge104_1⟩ := Qbh hMe104; have hv104_1 := hcc104 1 _ rfl
           rw [Xf _ _ 1 (by omega)] at hv104_1
           replace hv104_1 := Option.some.inj (hv104_1.symm.trans b3)
           rw [hv104_1] at ge104_1
           have HL104_1 := Qa.mk (show Kd.R Kd.string 9 _ _ _ _ ((Qy a3 (ji6)).f1) from ge104_1); clear hv104_1 ge104_1; have HX104_1 := Qa.mk b3; clear hcc104 hce104; have g0 := Qa.mk hi104_1; have j5 := Qa.mk hl104_1; clear hi104_1 hl104_1; replace e3 := eq_true e3; replace e4 := eq_true e4; obtain ⟨go18, m2, eo18, g2, gl18, cl18, HG18⟩ := Kd.S_form a4.out (by have h_ : ((ji6) : Int) < ((a3.length : Int) : Int) := of_decide_eq_true (by first | (with_reducible assumption) | assumption); have h2_ : 0 ≤ ((ji6) : Int) := (of_decide_eq_true (by first | (with_reducible assumption) | assumption)); omega)
           (first | cases eo18 | (injection eo18 with ea_ en_ ec_; (first | subst ea_ | (injection ea_ with ea_; subst ea_)); subst ec_; clear en_))
           have GB18 := Qa.mk g2; have GG18 := Qa.mk HG18; clear g2 gl18 HG18
           (first | simp only [Yt] at b0 | skip)
           (first | simp only [Yt] at a7 | skip)
           (first | simp only [Yt] at d3 | skip)
           (first | simp only [Yt] at b3 | skip)
           obtain ⟨oki18, ce18, hcl18, hM18, hcc18, _, _, hH18⟩ := Kd.S_elem a4.out z49 ((ji6) : Int) (of_decide_eq_true (by first | (with_reducible assumption) | assumption)) (by have h_ : ((ji6) : Int) < ((a3.length : Int) : Int) := of_decide_eq_true (by first | (with_reducible assumption) | assumption); first | exact h_ | (have e_ := (Kd.S_reads' a4.out).1; omega) | simpa using h_); obtain ⟨ve18_1, rfl, ge18_1⟩ := Qbh hM18; have hv18 := hcc18 1 _ rfl; have hX18 := HX104_1.out
           (try simp only [Yt] at hX18)
           (try simp only [Nat.add_zero] at hv18)
           replace hv18 := Option.some.inj (hv18.symm.trans hX18); subst hv18; clear hX18 hcc18 hcl18; have UU18 := Qa.mk (show Kd.R Kd.string 9 _ w.heap.size oki18 (.slice e1 ((Qy a3 (ji6)).f1).length e2) ((Qy a3 (ji6)).f1) from ge18_1); have HH18 := Qa.mk hH18; have HN18 := Qa.mk (Kd.S_reads' a4.out).1; clear hH18 ge18_1; refine Vo (n := 16) (S := fun w' => w'.cell? ⟨a2, 0, none⟩ = some (.int .i64 ((Zd l0 a0).f0)) ∧ w'.cell? ⟨a2, 1, none⟩ = some (.string ((Zd l0 a0).f1)) ∧ w'.cell? ⟨go18, (ji6).toNat * 2, none⟩ = some (.int .i64 ((Qy a3 (ji6)).f0)) ∧ w'.cell? ⟨go18, (ji6).toNat * 2 + 1, none⟩ = some (.slice e1 ((Qy a3 (ji6)).f1).length e2)) (ds := [15]) (bz_ 16 0) (by kernel_rfl) rfl rfl ⟨(Ql a1.out 0).trans rfl, (Ql a1.out 1).trans rfl, d3, b3⟩ (fun hHeld => ?_); refine Yd Qw.tab7 Qw.bits7 (fun HT_ HW_ => ?_)
           generalize w16.drew = w17 at a4 HL103_1 a1 a8 HB GG18 HH18 HL104_1 g0 HX104_1 UU18 b0 a7 d3 b3 hHeld ⊢
           refine Qx (i := 0) (N := some 28) (v := ?_) (a' := ?_) (bz_ 16 1) rfl rfl (Qs HT_.out (by kernel_rfl)) (fun _ _ _ h => h) (Or.inl ⟨by rfl, ?_⟩) ?_ ?_; rotate_left
           ·intro w'
            go_simp
            with_reducible rfl
           rotate_left
           ·simp only [Act.put, sA_, sB_, sC_, Qp, Qr]
            rfl
           refine Qx (i := 1) (N := some 29) (v := ?_) (a' := ?_) (bz_ 16 3) rfl rfl (Qs HT_.out (by kernel_rfl)) (fun _ _ _ h => h) (Or.inl ⟨by rfl, ?_⟩) ?_ ?_; rotate_left
           ·intro w'
            go_simp
            with_reducible rfl
           rotate_left
           ·simp only [Act.put, sA_, sB_, sC_, Qp, Qr]
            rfl
           refine Qx (i := 2) (N := some 30) (v := ?_) (a' := ?_) (bz_ 16 7) rfl rfl (Qs HT_.out (by kernel_rfl)) (fun _ _ _ h => h) (Or.inl ⟨by rfl, ?_⟩) ?_ ?_; rotate_left
           ·intro w'
            go_simp
            with_reducible rfl
           rotate_left
           ·simp only [Act.put, sA_, sB_, sC_, Qp, Qr]
            rfl
           refine Qx (i := 3) (N := some 31) (v := ?_) (a' := ?_) (bz_ 16 15) rfl rfl (Qs HT_.out (by kernel_rfl)) (fun _ _ _ h => h) (Or.inl ⟨by rfl, ?_⟩) ?_ ?_; rotate_left
           ·intro w'
            go_simp
            with_reducible rfl
           rotate_left
           ·simp only [Act.put, sA_, sB_, sC_, Qp, Qr]
            rfl
           refine Qx (i := 4) (N := some 32) (v := ?_) (a' := ?_) (bz_ 16 31) rfl rfl (Qs HT_.out (by kernel_rfl)) (fun _ _ _ h => h) (Or.inl ⟨by rfl, ?_⟩) ?_ ?_; rotate_left
           ·intro w'
            go_simp
            with_reducible rfl
           rotate_left
           ·simp only [Act.put, sA_, sB_, sC_, Qp, Qr]
            rfl
           refine Qx (i := 5) (N := some 33) (v := ?_) (a' := ?_) (bz_ 16 63) rfl rfl (Qs HT_.out (by kernel_rfl)) (fun _ _ _ h => h) (Or.inl ⟨by rfl, ?_⟩) ?_ ?_; rotate_left
           ·intro w'
            go_simp
            with_reducible rfl
           rotate_left
           ·simp only [Act.put, sA_, sB_, sC_, Qp, Qr]
            rfl
           refine Qx (i := 6) (N := some 34) (v := ?_) (a' := ?_) (bz_ 16 127) rfl rfl (Qs HT_.out (by kernel_rfl)) (fun _ _ _ h => h) (Or.inl ⟨by rfl, ?_⟩) ?_ ?_; rotate_left
           ·intro w'
            go_simp
            with_reducible rfl
           rotate_left
           ·simp only [Act.put, sA_, sB_, sC_, Qp, Qr]
            rfl
           refine Qx (i := 7) (N := some 35) (v := ?_) (a' := ?_) (bz_ 16 255) rfl rfl (Qs HT_.out (by kernel_rfl)) (fun _ _ _ h => h) (Or.inl ⟨by rfl, ?_⟩) ?_ ?_; rotate_left
           ·intro w'
            go_simp
            with_reducible rfl
           rotate_left
           ·simp only [Act.put, sA_, sB_, sC_, Qp, Qr]
            rfl
           refine Qx (i := 9) (N := some 37) (v := ?_) (a' := ?_) (bz_ 16 767) rfl rfl (Qs HT_.out (by kernel_rfl)) (fun _ _ _ h => h) (Or.inl ⟨by rfl, ?_⟩) ?_ ?_; rotate_left
           ·intro w'
            go_simp
            with_reducible rfl
           rotate_left
           ·simp only [Act.put, sA_, sB_, sC_, Qp, Qr]
            rfl
           refine take_ (i := 8) (N := some 36) (v := ?_) (a' := ?_) (bz_ 16 1023) rfl rfl (Xb HT_.out HW_.out (by kernel_rfl)) (fun _ _ _ h => h) (Or.inl ⟨by rfl, ?_⟩) hHeld ?_ ?_; rotate_left
           ·rintro w' ⟨s0, s1, s2, s3⟩
            go_simp
            with_reducible rfl
           rotate_left
           ·simp only [Act.put, sA_, sB_, sC_, Qp, Qr]
            rfl
           refine take_ (i := 10) (N := some 38) (v := ?_) (a' := ?_) (bz_ 16 2047) rfl rfl (Xb HT_.out HW_.out (by kernel_rfl)) (fun _ _ _ h => h) (Or.inl ⟨by rfl, ?_⟩) hHeld ?_ ?_; rotate_left
           ·rintro w' ⟨s0, s1, s2, s3⟩
            go_simp
            with_reducible rfl
           rotate_left
           ·simp only [Act.put, sA_, sB_, sC_, Qp, Qr]
            rfl
           refine Jx (i := 11) (N := some 39) (bz_ 16 4095) rfl rfl (Ye HT_.out (by kernel_rfl)) (by decide) (fun K hK => ?_); refine Jp (w1 := ?_) (v := ?_) (by rfl) rfl ?_ ?_; rotate_left 2
           ·go_simp
            constructor
            ·rfl
            ·rfl
           refine hK.out _ _ ⟨(Ql (Zb a1.out _) 0).trans rfl, (Ql (Zb a1.out _) 1).trans rfl, (World.cell?_alloc_lt _ _ _ (World.block_lt_of_cell? _ _ (hHeld.2.2.1))).trans (hHeld.2.2.1), (World.cell?_alloc_lt _ _ _ (World.block_lt_of_cell? _ _ (hHeld.2.2.2))).trans (hHeld.2.2.2)⟩ (fun hHeld => ?_); clear hK K; refine Vn (a' := ?_) ?_ ?_; rotate_left
           ·show Act.put _ (some 39) _ = _
            simp only [Act.put, sA_, sB_, sC_, Qp, Qr]; rfl
           refine Jx (i := 12) (N := some 40) (bz_ 16 8191) rfl rfl (Ye HT_.out (by kernel_rfl)) (by decide) (fun K hK => ?_); refine Kd.R_append_step Kd.string (w0 := w) w.heap.size (by rfl) (.tmp 36) (.tmp 39) 46 9 (.string ⟨#[]⟩) 16 rfl Tryz.underlying46 Vy rfl (by decide) (by omega) (.slice e1 ((Qy a3 (ji6)).f1).length e2) ((Qy a3 (ji6)).f1) ((Zd l0 a0).f1) [.string ((Zd l0 a0).f1)] (fun k_ => oki18 k_ ∨ ((fun _ => True)) k_ ∧ w17.heap.size ≤ k_) (fun _ => False) rfl rfl ?aP (fun _ hk => hk.elim) ?aF ?aO ?aB ?aS ?aL ?_
           (case aP => exact rfl)
           (case aB => exact (by repeat (first | (with_reducible first | exact HB.out | apply Qc | apply Qb | apply Qd | refine Qu ?_ GE102.out) | exact HB.out)))
           (case aF => exact (fun k_ hk => .inr ⟨trivial, hk⟩))
           (case aO => exact (by (with_reducible repeat (first | apply Kd.R_alloc | apply Kd.R_drewN | apply Kd.R_drew)); exact Kd.R_mono UU18.out (fun _ hk => .inl hk)))
           (case aS => exact (Qh (by repeat (first | (with_reducible first | exact HB.out | apply Qc | apply Qb | apply Qd | refine Qu ?_ GE102.out) | exact HB.out))))
           (case aL => have := g8.out; omega)
           intro m3 w19 ho hb hg hat
           (first | have HS2_ := Qaj hg (hHeld.2.2.1) (by first | (rw [Xc]; exact (fun e_ => ((HL104_1.out.1 _ e_.symm).2) rfl)) | (show some (Addr.add _ _).block ≠ _; rw [Xc]; exact (fun e_ => ((HL104_1.out.1 _ e_.symm).2) rfl)) | exact (fun e_ => ((HL104_1.out.1 _ e_.symm).2) rfl)) | have HS2_ := Qaj hg (Qcg (hHeld.2.2.1) (by first | (rw [Xc]; exact Kd.S_lt a4.out _ rfl) | (show (Addr.add _ _).block < _; rw [Xc]; exact Kd.S_lt a4.out _ rfl) | exact Kd.S_lt a4.out _ rfl)) (by first | (rw [Xc]; exact (fun e_ => ((HL104_1.out.1 _ e_.symm).2) rfl)) | (show some (Addr.add _ _).block ≠ _; rw [Xc]; exact (fun e_ => ((HL104_1.out.1 _ e_.symm).2) rfl)) | exact (fun e_ => ((HL104_1.out.1 _ e_.symm).2) rfl)))
           (first | have HS3_ := Qaj hg (hHeld.2.2.2) (by first | (rw [Xc]; exact (fun e_ => ((HL104_1.out.1 _ e_.symm).2) rfl)) | (show some (Addr.add _ _).block ≠ _; rw [Xc]; exact (fun e_ => ((HL104_1.out.1 _ e_.symm).2) rfl)) | exact (fun e_ => ((HL104_1.out.1 _ e_.symm).2) rfl)) | have HS3_ := Qaj hg (Qcg (hHeld.2.2.2) (by first | (rw [Xc]; exact Kd.S_lt a4.out _ rfl) | (show (Addr.add _ _).block < _; rw [Xc]; exact Kd.S_lt a4.out _ rfl) | exact Kd.S_lt a4.out _ rfl)) (by first | (rw [Xc]; exact (fun e_ => ((HL104_1.out.1 _ e_.symm).2) rfl)) | (show some (Addr.add _ _).block ≠ _; rw [Xc]; exact (fun e_ => ((HL104_1.out.1 _ e_.symm).2) rfl)) | exact (fun e_ => ((HL104_1.out.1 _ e_.symm).2) rfl)))
           rw [← g9.out] at ho
           have n0_ := Qa.mk (Yv (g := a2) (o := .cells #[.int .i64 ((Zd l0 a0).f0), .string ((Zd l0 a0).f1)] 68 (0, 0)) (by (with_reducible repeat (first | refine Zf ?_ _ | refine Zg ?_ | refine Zb ?_ _)); exact a1.out) hg (Kd.R_ne HL104_1.out a1.out (by decide))); have n1_ := Qa.mk (hb); have n2_ := Qa.mk (Kd.H_grown (Kd.H_widen (by repeat (first | exact HH18.out | refine Kd.H_alloc ?_ _ | refine Kd.H_drewN ?_ _ | refine Kd.H_drew ?_))) hg (fun k_ e_ => .inl (UU18.out.1 k_ e_))); have n3_ := Qa.mk (ho); clear a1; clear HB; clear HH18; clear a4; clear UU18; clear HL103_1; clear HL104_1; have a1 := n0_; have HB := n1_; have HH18 := n2_; have f6 := n3_; clear n0_ n1_ n2_ n3_; clear ho hb hg hat; have p11 : 0 ≤ ((ji6) : Int) := of_decide_eq_true (by first | (with_reducible assumption) | assumption); have q11 : ((ji6) : Int) < ((a3.length : Int) : Int) := of_decide_eq_true (by first | (with_reducible assumption) | assumption); replace p11 := eq_true p11; replace q11 := eq_true q11; obtain ⟨i7, i8, eo22⟩ := Kd.R_slice f6.out
           (first | subst eo22 | (injection eo22 with f1_ f2_ f3_; have f4_ := f1_.symm; have f5_ := f3_.symm; clear f1_ f2_ f3_; subst f4_; subst f5_))
           obtain ⟨_, _, hraw20, _, _, hcc20, _⟩ := Kd.H_raw HH18.out (of_decide_eq_true (by first | (with_reducible assumption) | assumption)) (by have h_ : ((ji6) : Int) < ((a3.length : Int) : Int) := of_decide_eq_true (by first | (with_reducible assumption) | assumption); first | exact h_ | (have e_ := (HN18.out); omega) | simpa using h_); obtain ⟨_, hfr20⟩ := Kd.H_at HH18.out (of_decide_eq_true (by first | (with_reducible assumption) | assumption)) (by have h_ : ((ji6) : Int) < ((a3.length : Int) : Int) := of_decide_eq_true (by first | (with_reducible assumption) | assumption); first | exact h_ | (have e_ := (HN18.out); omega) | simpa using h_); have g3 := hcc20 1 _ rfl; have hf20_0 := hfr20 1
           (try rw [show (k49).sz = 2 from rfl] at g3)
           (try rw [show (k49).sz = 2 from rfl] at hf20_0)
           have HP20 := Kd.S_seg0 HH18.out (of_decide_eq_true (by first | (with_reducible assumption) | assumption)) (by have h_ : ((ji6) : Int) < ((a3.length : Int) : Int) := of_decide_eq_true (by first | (with_reducible assumption) | assumption); first | exact h_ | (have e_ := (HN18.out); omega) | simpa using h_) (seg := [.slice i7 d7.length i8]) (j := 1) (show 2 ≤ 2 from by decide) (x' := (⟨(Qy a3 (ji6)).f0, d7⟩ : S49)) (Qdz _ _ _ (⟨(Qy a3 (ji6)).f0, d7⟩ : S49) f6.out) (fun _ hk => hk); clear hcc20 hfr20; have HNB102_go18 := Qa.mk (show a2 ≠ go18 from by have h_ := Kd.R_ne hraw20 a1.out (by decide); intro e_; exact h_ (by rw [e_]; rfl)); have HS20 := HP20.1
           rw [← h0.out] at HS20
           have HQ20 := Qa.mk HS20; obtain ⟨_, hgg20⟩ := Kd.R_typed hraw20 go18 rfl; have GG20_ := Qa.mk hgg20; clear HP20 HS20 hgg20; refine hK.out _ _ ⟨(Ql a1.out 0).trans rfl, (Ql a1.out 1).trans rfl, HS2_, HS3_⟩ (fun hHeld => ?_); clear hK K; refine Vn (a' := ?_) ?_ ?_; rotate_left
           ·show Act.put _ (some 40) _ = _
            simp only [Act.put, sA_, sB_, sC_, Qp, Qr]; rfl
           refine Qx (i := 13) (N := some 41) (v := ?_) (a' := ?_) (bz_ 16 16383) rfl rfl (Qs HT_.out (by kernel_rfl)) (fun _ _ _ h => h) (Or.inl ⟨by rfl, ?_⟩) ?_ ?_; rotate_left
           ·intro w'
            go_simp
            with_reducible rfl
           rotate_left
           ·simp only [Act.put, sA_, sB_, sC_, Qp, Qr]
            rfl
           refine Qx (i := 14) (N := some 42) (v := ?_) (a' := ?_) (bz_ 16 32767) rfl rfl (Qs HT_.out (by kernel_rfl)) (fun _ _ _ h => h) (Or.inl ⟨by rfl, ?_⟩) ?_ ?_; rotate_left
           ·intro w'
            go_simp
            with_reducible rfl
           rotate_left
           ·simp only [Act.put, sA_, sB_, sC_, Qp, Qr]
            rfl
           refine Km (i := 15) (N := none) (bz_ 16 65535) rfl rfl (Ye HT_.out (by kernel_rfl)) (by decide) (fun K hK => ?_); refine Qfm (w1 := ?_) (by rfl) rfl ?_ ?_; rotate_left
           ·go_simp
            rfl
           refine hK.out _ _ ?_; clear hK K; refine Un (Vb HT_.out (by kernel_rfl)) ?_
           try go_wp2
           go_roundg k1
           case measure => have := HK1.out; omega
           case rel => exact ⟨(g1), (wrap64 (a0 + 1)), (by first | rfl | (simp; done) | (simp [*]; done)), H', ⟨by have := HK1.out; omega⟩, ⟨by (with_reducible repeat (first | apply Kd.S_alloc | apply Kd.S_drewN | apply Kd.S_drew)); exact HQ20.out⟩, ⟨by repeat (first | (with_reducible first | exact HB.out | apply Qc | apply Qb | apply Qd | refine Qu ?_ GB18.out | refine Qu ?_ GE102.out) | exact HB.out)⟩⟩
          ·rw [if_neg c10] at H
           exact absurd H (by simp)
         ·rw [if_neg c9] at H
          have i2 : (((Qy a3 (ji6)).f0) == ((Zd l0 a0).f0)) = false := beq_eq_false_iff_ne.mpr c9; have i3 : (((Qy a3 (ji6)).f0) != ((Zd l0 a0).f0)) = true := bne_iff_ne.mpr c9; obtain ⟨b6, b9⟩ : ∃ y_ : List ByteArray, y_ = (([(Zd l0 a0).f1] : List ByteArray)) := ⟨_, rfl⟩
          replace H : (if a3.length < 4398046511104 then (Qw.l0 k1 (a3 ++ [(⟨(Zd l0 a0).f0, b6⟩ : S49)]) l0 (l0.length : Int) (wrap64 (a0 + 1))) else (none)) = some r := by first | (rw [b9]; with_reducible exact H) | (have H2_ := (Option.bind_some _ _).symm.trans H; rw [b9]; with_reducible exact H2_) | (have H2_ := (Option.bind_some _ _).symm.trans H; with_reducible exact H2_) | with_reducible exact H | (rw [b9]; exact H) | exact H
          have f7 := Qa.mk b9; clear b9
          by_cases c23 : a3.length < 4398046511104
          ·rw [if_pos c23] at H
           have h3 := Qa.mk c23; clear c23; obtain ⟨g4, d0⟩ : ∃ y_ : List (S49), y_ = (a3 ++ [(⟨(Zd l0 a0).f0, b6⟩ : S49)]) := ⟨_, rfl⟩
           replace H : (Qw.l0 k1 g4 l0 (l0.length : Int) (wrap64 (a0 + 1))) = some r := by first | (rw [d0]; with_reducible exact H) | (have H2_ := (Option.bind_some _ _).symm.trans H; rw [d0]; with_reducible exact H2_) | (have H2_ := (Option.bind_some _ _).symm.trans H; with_reducible exact H2_) | with_reducible exact H | (rw [d0]; exact H) | exact H
           have h4 := Qa.mk d0; clear d0; have H' := Qa.mk H; clear H; have b1 : 0 ≤ (a0 : Int) := of_decide_eq_true (by first | (with_reducible assumption) | assumption); have b2 : a0 < (l0.length : Int) := of_decide_eq_true (by first | (with_reducible assumption) | assumption); obtain ⟨f4, d8, a5, a6⟩ := Qah HR0.out a0 b1 b2
           cases d8; replace a5 := (HB.out.cell (World.block_lt_of_cell? w _ a5)).trans a5; replace a6 := (HB.out.cell (World.block_lt_of_cell? w _ a6)).trans a6; replace b1 := eq_true b1; replace b2 := eq_true b2
           try go_wp2_with (first | ((with_reducible refine Zs (N := 5) rfl ?_); refine Xd ?hg (N := 5) ?hd (cs := #[.int .i64 0, .string (⟨#[]⟩ : ByteArray)]) (t := 68) ?hr ?_; (case hd => rfl); (case hg => rfl); (case hr => first | (go_simp; done) | (go_simp; rfl)); intro a2 hg w24 hbox hb; have n0_ := Qa.mk (Kd.S_below (by (with_reducible repeat (first | apply Kd.S_alloc | apply Kd.S_drewN | apply Kd.S_drew)); exact a4.out) hb); have n1_ := Qa.mk (Qk (by repeat (first | (with_reducible first | exact HB.out | apply Qc | apply Qb | apply Qd) | exact HB.out)) hb); have n2_ := Qa.mk (hbox); have n3_ := Qa.mk ((by rw [hg]; exact (Qh (by repeat (first | (with_reducible first | exact HB.out | apply Qc | apply Qb | apply Qd) | exact HB.out))) : w.heap.size ≤ a2)); have n4_ := Qa.mk ((by rw [hg]; exact (Qh (by repeat (first | (with_reducible first | exact HB.out | apply Qc | apply Qb | apply Qd) | exact HB.out))) : w.heap.size ≤ a2)); clear a4; clear HB; have a4 := n0_; have HB := n1_; have a1 := n2_; have f5 := n3_; have GE102 := n4_; clear n0_ n1_ n2_ n3_ n4_; clear hb hbox hg; have j6 : w24.cell? ⟨a2, 0, none⟩ = some (.int .i64 0) := (Ql a1.out 0).trans rfl; have j7 : w24.cell? ⟨a2, 1, none⟩ = some (.string (⟨#[]⟩ : ByteArray)) := (Ql a1.out 1).trans rfl; have j8 := Qo a1.out 0; have j9 := Qo a1.out 1; obtain ⟨i9, e5, eo26⟩ := Kd.S_slice a4.out; subst eo26))
           have n0_ : Qa (Kd.S k49 49 ((w24.setCell ⟨a2, 0, none⟩ (.int .i64 ((Zd l0 a0).f0))).setCell ⟨a2, 1, none⟩ (.string ((Zd l0 a0).f1))) w.heap.size (fun _ => True) (.slice i9 a3.length e5) a3) := ⟨by (with_reducible repeat (first | apply Kd.S_alloc | apply Kd.S_drewN | apply Kd.S_drew)); exact Kd.S_mono (Kd.S_far (p := ⟨a2, 1, none⟩) (Kd.S_far (p := ⟨a2, 0, none⟩) (Kd.S_types a4.out a1.out (by decide)) (fun _ hk => hk.2) (.int .i64 ((Zd l0 a0).f0))) (fun _ hk => hk.2) (.string ((Zd l0 a0).f1))) (fun _ hk => trivial)⟩; have n1_ : Qa (((w24.setCell ⟨a2, 0, none⟩ (.int .i64 ((Zd l0 a0).f0))).setCell ⟨a2, 1, none⟩ (.string ((Zd l0 a0).f1))).heap[a2]? = some (.cells #[.int .i64 ((Zd l0 a0).f0), .string ((Zd l0 a0).f1)] 68 (0, 0))) := ⟨by (with_reducible repeat (first | refine Zf ?_ _ | refine Zg ?_ | refine Zb ?_ _)); refine Zu (cs := #[.int .i64 ((Zd l0 a0).f0), .string (⟨#[]⟩ : ByteArray)]) ?_ 1 _ rfl; (with_reducible repeat (first | refine Zf ?_ _ | refine Zg ?_ | refine Zb ?_ _)); refine Zu (cs := #[.int .i64 0, .string (⟨#[]⟩ : ByteArray)]) ?_ 0 _ rfl; (with_reducible repeat (first | refine Zf ?_ _ | refine Zg ?_ | refine Zb ?_ _)); exact a1.out⟩; have n2_ : Qa (Below w.heap.size w ((w24.setCell ⟨a2, 0, none⟩ (.int .i64 ((Zd l0 a0).f0))).setCell ⟨a2, 1, none⟩ (.string ((Zd l0 a0).f1)))) := ⟨by repeat (first | (with_reducible first | exact HB.out | apply Qc | apply Qb | apply Qd | refine Qu ?_ GE102.out) | exact HB.out)⟩
           (try clear a4)
           (try clear a1)
           (try clear HB)
           generalize ((w24.setCell ⟨a2, 0, none⟩ (.int .i64 ((Zd l0 a0).f0))).setCell ⟨a2, 1, none⟩ (.string ((Zd l0 a0).f1))) = w27 at n0_ n1_ n2_ ⊢
           have a4 := n0_; have a1 := n1_; have HB := n2_; clear n0_ n1_ n2_; have n0_ := Qa.mk (Kd.S_drew a4.out); have n1_ := Qa.mk (Zg a1.out); have n2_ := Qa.mk (Qd HB.out); clear a4; clear a1; clear HB; have a4 := n0_; have a1 := n1_; have HB := n2_; clear n0_ n1_ n2_; have b4 : 0 ≤ ((ji6) : Int) := of_decide_eq_true (by first | (with_reducible assumption) | assumption); have b5 : (ji6) < (a3.length : Int) := of_decide_eq_true (by first | (with_reducible assumption) | assumption); obtain ⟨a9, d9, e0, e9, b0, a7, hl103_1, hi103_1⟩ := Ug (Kd.S_reads' a4.out).2.2 (ji6) b4 b5
           cases e9; obtain ⟨ce103, hce103, hMe103, hcc103⟩ := Kd.S_get a4.out z49 (ji6) b4 (by first | exact b5 | exact of_decide_eq_true (by first | (with_reducible assumption) | assumption) | (have e_ := (Kd.S_reads' a4.out).1; omega)); obtain ⟨ve103_1, rfl, ge103_1⟩ := Qbh hMe103; have hv103_1 := hcc103 1 _ rfl
           rw [Xf _ _ 1 (by omega)] at hv103_1
           replace hv103_1 := Option.some.inj (hv103_1.symm.trans a7)
           rw [hv103_1] at ge103_1
           have HL103_1 := Qa.mk (show Kd.R Kd.string 9 _ _ _ _ ((Qy a3 (ji6)).f1) from ge103_1); clear hv103_1 ge103_1; have HX103_1 := Qa.mk a7; clear hcc103 hce103; have a8 := Qa.mk hi103_1; have f9 := Qa.mk hl103_1; clear hi103_1 hl103_1; replace b4 := eq_true b4; replace b5 := eq_true b5; refine Vo (n := 13) (S := fun w' => w'.cell? ⟨a2, 0, none⟩ = some (.int .i64 ((Zd l0 a0).f0)) ∧ w'.cell? ⟨a2, 1, none⟩ = some (.string ((Zd l0 a0).f1)) ∧ w'.cell? (a9.add (((ji6)).toNat * 2)) = some (.int .i64 ((Qy a3 (ji6)).f0)) ∧ w'.cell? ⟨(a9.add (((ji6)).toNat * 2)).block, (a9.add (((ji6)).toNat * 2)).off + 1, none⟩ = some (.slice d9 ((Qy a3 (ji6)).f1).length e0)) (ds := []) (bz_ 13 0) (by kernel_rfl) rfl rfl ⟨(Ql a1.out 0).trans rfl, (Ql a1.out 1).trans rfl, b0, a7⟩ (fun hHeld => ?_); refine Yd Qw.tab6 Qw.bits6 (fun HT_ HW_ => ?_)
           generalize w27.drew = w28 at a4 a1 HB HL103_1 a8 HX103_1 b0 a7 hHeld ⊢
           refine Qx (i := 0) (N := some 15) (v := ?_) (a' := ?_) (bz_ 13 1) rfl rfl (Qs HT_.out (by kernel_rfl)) (fun _ _ _ h => h) (Or.inl ⟨by rfl, ?_⟩) ?_ ?_; rotate_left
           ·intro w'
            go_simp
            with_reducible rfl
           rotate_left
           ·simp only [Act.put, sA_, sB_, sC_, Qp, Qr]
            rfl
           refine Qx (i := 1) (N := some 16) (v := ?_) (a' := ?_) (bz_ 13 3) rfl rfl (Qs HT_.out (by kernel_rfl)) (fun _ _ _ h => h) (Or.inl ⟨by rfl, ?_⟩) ?_ ?_; rotate_left
           ·intro w'
            go_simp
            with_reducible rfl
           rotate_left
           ·simp only [Act.put, sA_, sB_, sC_, Qp, Qr]
            rfl
           refine Qx (i := 2) (N := some 17) (v := ?_) (a' := ?_) (bz_ 13 7) rfl rfl (Qs HT_.out (by kernel_rfl)) (fun _ _ _ h => h) (Or.inl ⟨by rfl, ?_⟩) ?_ ?_; rotate_left
           ·intro w'
            go_simp
            with_reducible rfl
           rotate_left
           ·simp only [Act.put, sA_, sB_, sC_, Qp, Qr]
            rfl
           refine Qx (i := 3) (N := some 18) (v := ?_) (a' := ?_) (bz_ 13 15) rfl rfl (Qs HT_.out (by kernel_rfl)) (fun _ _ _ h => h) (Or.inl ⟨by rfl, ?_⟩) ?_ ?_; rotate_left
           ·intro w'
            go_simp
            with_reducible rfl
           rotate_left
           ·simp only [Act.put, sA_, sB_, sC_, Qp, Qr]
            rfl
           refine Qx (i := 4) (N := some 19) (v := ?_) (a' := ?_) (bz_ 13 31) rfl rfl (Qs HT_.out (by kernel_rfl)) (fun _ _ _ h => h) (Or.inl ⟨by rfl, ?_⟩) ?_ ?_; rotate_left
           ·intro w'
            go_simp
            with_reducible rfl
           rotate_left
           ·simp only [Act.put, sA_, sB_, sC_, Qp, Qr]
            rfl
           refine Qx (i := 5) (N := some 20) (v := ?_) (a' := ?_) (bz_ 13 63) rfl rfl (Qs HT_.out (by kernel_rfl)) (fun _ _ _ h => h) (Or.inl ⟨by rfl, ?_⟩) ?_ ?_; rotate_left
           ·intro w'
            go_simp
            with_reducible rfl
           rotate_left
           ·simp only [Act.put, sA_, sB_, sC_, Qp, Qr]
            rfl
           refine Qx (i := 6) (N := some 21) (v := ?_) (a' := ?_) (bz_ 13 127) rfl rfl (Qs HT_.out (by kernel_rfl)) (fun _ _ _ h => h) (Or.inl ⟨by rfl, ?_⟩) ?_ ?_; rotate_left
           ·intro w'
            go_simp
            with_reducible rfl
           rotate_left
           ·simp only [Act.put, sA_, sB_, sC_, Qp, Qr]
            rfl
           refine Qx (i := 7) (N := some 22) (v := ?_) (a' := ?_) (bz_ 13 255) rfl rfl (Qs HT_.out (by kernel_rfl)) (fun _ _ _ h => h) (Or.inl ⟨by rfl, ?_⟩) ?_ ?_; rotate_left
           ·intro w'
            go_simp
            with_reducible rfl
           rotate_left
           ·simp only [Act.put, sA_, sB_, sC_, Qp, Qr]
            rfl
           refine Qx (i := 9) (N := some 24) (v := ?_) (a' := ?_) (bz_ 13 767) rfl rfl (Qs HT_.out (by kernel_rfl)) (fun _ _ _ h => h) (Or.inl ⟨by rfl, ?_⟩) ?_ ?_; rotate_left
           ·intro w'
            go_simp
            with_reducible rfl
           rotate_left
           ·simp only [Act.put, sA_, sB_, sC_, Qp, Qr]
            rfl
           refine take_ (i := 8) (N := some 23) (v := ?_) (a' := ?_) (bz_ 13 1023) rfl rfl (Xb HT_.out HW_.out (by kernel_rfl)) (fun _ _ _ h => h) (Or.inl ⟨by rfl, ?_⟩) hHeld ?_ ?_; rotate_left
           ·rintro w' ⟨s0, s1, s2, s3⟩
            go_simp
            with_reducible rfl
           rotate_left
           ·simp only [Act.put, sA_, sB_, sC_, Qp, Qr]
            rfl
           refine take_ (i := 10) (N := some 25) (v := ?_) (a' := ?_) (bz_ 13 2047) rfl rfl (Xb HT_.out HW_.out (by kernel_rfl)) (fun _ _ _ h => h) (Or.inl ⟨by rfl, ?_⟩) hHeld ?_ ?_; rotate_left
           ·rintro w' ⟨s0, s1, s2, s3⟩
            go_simp
            with_reducible rfl
           rotate_left
           ·simp only [Act.put, sA_, sB_, sC_, Qp, Qr]
            rfl
           refine Qx (i := 11) (N := some 26) (v := ?_) (a' := ?_) (bz_ 13 4095) rfl rfl (Qs HT_.out (by kernel_rfl)) (fun _ _ _ h => h) (Or.inl ⟨by rfl, ?_⟩) ?_ ?_; rotate_left
           ·intro w'
            go_simp
            with_reducible rfl
           rotate_left
           ·simp only [Act.put, sA_, sB_, sC_, Qp, Qr]
            rfl
           refine Qx (i := 12) (N := some 27) (v := ?_) (a' := ?_) (bz_ 13 8191) rfl rfl (Qs HT_.out (by kernel_rfl)) (fun _ _ _ h => h) (Or.inl ⟨by rfl, ?_⟩) ?_ ?_; rotate_left
           ·intro w'
            go_simp
            with_reducible rfl
           rotate_left
           ·simp only [Act.put, sA_, sB_, sC_, Qp, Qr]
            rfl
           refine Un (Vb HT_.out (by kernel_rfl)) ?_; have k0 : w28.cell? ⟨a2, 0, none⟩ = some (.int .i64 ((Zd l0 a0).f0)) := (Ql a1.out 0).trans rfl; have k2 : w28.cell? ⟨a2, 1, none⟩ = some (.string ((Zd l0 a0).f1)) := (Ql a1.out 1).trans rfl; have k4 := Qo a1.out 0; have k5 := Qo a1.out 1
           try go_wp2_with (first | ((with_reducible refine Zs (N := 48) rfl ?_); refine Kd.R_lit Kd.string _ 9 ?hg (N := 48) ?hd (xs := ([(Zd l0 a0).f1] : List ByteArray)) (inner := [.string ((Zd l0 a0).f1)]) (ok := fun _ => True) (okp := fun _ => True) ?hr ?hp (fun _ hk => hk) trivial (Below.refl _ _) (Nat.le_refl _) (by simp) ?_; (case hd => rfl); (case hg => rfl); (case hr => first | (go_simp; done) | (go_simp; rfl)); (case hp => exact (Zz.one (show Kd.M Kd.string _ _ _ ((Zd l0 a0).f1) [.string ((Zd l0 a0).f1)] from rfl) (Zz.none _ _))); intro m4 w30 ho31 hb hg_ hnew_; clear hg_ hnew_; (first | rw [← f7.out] at ho31 | (simp only [Int.reduceToNat] at ho31; rw [← f7.out] at ho31)); have n0_ := Qa.mk (Kd.S_elder' (by (with_reducible repeat (first | apply Kd.S_alloc | apply Kd.S_drewN | apply Kd.S_drew)); exact a4.out) (Kd.R_base ho31) hb); have n1_ := Qa.mk (Kd.R_elder' (by (with_reducible repeat (first | apply Kd.R_alloc | apply Kd.R_drewN | apply Kd.R_drew)); exact HL103_1.out) (Kd.R_base ho31) hb); have n2_ := Qa.mk (Kd.R_lower (Kd.R_new' ho31 (Kd.R_lt (by (with_reducible repeat (first | apply Kd.R_alloc | apply Kd.R_drewN | apply Kd.R_drew)); exact HL103_1.out))) (Qh (by repeat (first | (with_reducible first | exact HB.out | apply Qc | apply Qb | apply Qd | refine Qu ?_ GE102.out) | exact HB.out)))); have n3_ := Qa.mk (Xt (g := a2) (o := .cells #[.int .i64 ((Zd l0 a0).f0), .string ((Zd l0 a0).f1)] 68 (0, 0)) (by (with_reducible repeat (first | refine Zf ?_ _ | refine Zg ?_ | refine Zb ?_ _)); exact a1.out) hb); have n4_ := Qa.mk (Kd.C_below (by repeat (first | (with_reducible exact a8.out) | (with_reducible refine Kd.C_alloc ?_ _) | (with_reducible refine Kd.C_drewN ?_ _) | (with_reducible refine Kd.C_drew ?_) | exact a8.out)) hb); have n5_ := Qa.mk (Zh hb HX103_1.out); have n6_ := Qa.mk (Qk (by repeat (first | (with_reducible first | exact HB.out | apply Qc | apply Qb | apply Qd | refine Qu ?_ GE102.out) | exact HB.out)) hb); clear a4; clear HL103_1; clear a1; clear a8; clear HX103_1; clear HB; have a4 := n0_; have HL103_1 := n1_; have d5 := n2_; have a1 := n3_; have a8 := n4_; have HX103_1 := n5_; have HB := n6_; clear n0_ n1_ n2_ n3_ n4_ n5_ n6_; clear hb ho31; obtain ⟨f2, f3, eo32⟩ := Kd.R_slice d5.out; subst eo32) | ((with_reducible refine Zj (b := .append) (xs := #[.tmp 43, .tmp 50]) rfl ?_); at_builtin; refine Kd.S_append k49 (w0 := w) w.heap.size rfl (.tmp 43) (.tmp 50) 26 49 (.agg #[(.int .i64 0), (.slice none 0 0)]) 32 rfl Tryz.underlying26 Qjr rfl (by decide) (by omega) (.slice (some a9) a3.length e5) a3 (⟨(Zd l0 a0).f0, b6⟩ : S49) [.int .i64 ((Zd l0 a0).f0), .slice f2 b6.length f3] (fun _ => True) (fun k_ => some k_ = (.slice f2 b6.length f3 : Value).ownBlock) rfl rfl ?aP (fun k_ hk_ => ((Kd.R_mono (ok' := fun k_ => ((fun _ => True)) k_ ∧ some k_ ≠ (.slice (some a9) a3.length e5 : Value).ownBlock) (Kd.R_apart' (d5.out) (Kd.S_typed a4.out) (by decide)) (fun k_ hk => ⟨trivial, hk.2⟩))).1 k_ hk_.symm) ?aF ?aO ?aB ?aS ?aL ?_; (case aP => exact Qdz _ _ _ (⟨(Zd l0 a0).f0, b6⟩ : S49) (Kd.R_mono (Kd.R_tight rfl (Kd.R_mono (ok' := fun k_ => ((fun _ => True)) k_ ∧ some k_ ≠ (.slice (some a9) a3.length e5 : Value).ownBlock) (Kd.R_apart' (d5.out) (Kd.S_typed a4.out) (by decide)) (fun k_ hk => ⟨trivial, hk.2⟩))) (fun _ h_ => h_))); (case aB => exact (by repeat (first | (with_reducible first | exact HB.out | apply Qc | apply Qb | apply Qd | refine Qu ?_ GE102.out) | exact HB.out))); (case aF => exact (fun _ _ => trivial)); (case aO => exact (by (with_reducible repeat (first | apply Kd.S_alloc | apply Kd.S_drewN | apply Kd.S_drew)); exact Kd.S_mono a4.out (fun k_ hk => ⟨trivial, fun e_ => hk.2 e_⟩))); (case aS => exact (Qh (by repeat (first | (with_reducible first | exact HB.out | apply Qc | apply Qb | apply Qd | refine Qu ?_ GE102.out) | exact HB.out)))); (case aL => have := h3.out; omega); intro m5 w33 ho hb hg hat; rw [← h4.out] at ho; have n0_ := Qa.mk (Yv (g := a2) (o := .cells #[.int .i64 ((Zd l0 a0).f0), .string ((Zd l0 a0).f1)] 68 (0, 0)) (by (with_reducible repeat (first | refine Zf ?_ _ | refine Zg ?_ | refine Zb ?_ _)); exact a1.out) hg (Kd.S_ne a4.out a1.out (by decide))); have n1_ := Qa.mk (Kd.R_after (ok := (fun k_ => some k_ ≠ (.slice f2 b6.length f3 : Value).ownBlock)) (by (with_reducible repeat (first | apply Kd.R_alloc | apply Kd.R_drewN | apply Kd.R_drew)); exact Kd.R_mono HL103_1.out (fun _ hk => ⟨hk.2, hk.1.2⟩)) hg hat); have n2_ := Qa.mk (hb); have n3_ := Qa.mk (ho); clear a1; clear HL103_1; clear HB; clear a4; clear d5; have a1 := n0_; have HL103_1 := n1_; have HB := n2_; have h5 := n3_; clear n0_ n1_ n2_ n3_; clear ho hb hg hat))
           go_roundg k1
           case measure => have := HK1.out; omega
           case rel => exact ⟨(g4), (wrap64 (a0 + 1)), (by first | rfl | (simp; done) | (simp [*]; done)), H', ⟨by have := HK1.out; omega⟩, ⟨by (with_reducible repeat (first | apply Kd.S_alloc | apply Kd.S_drewN | apply Kd.S_drew)); exact h5.out⟩, ⟨by repeat (first | (with_reducible first | exact HB.out | apply Qc | apply Qb | apply Qd | refine Qu ?_ GE102.out) | exact HB.out)⟩⟩
          ·rw [if_neg c23] at H
           exact absurd H (by simp)
        ·rw [if_neg c8] at H
         exact absurd H (by simp)
       ·rw [if_neg c7] at H
        exact absurd H (by simp)
      ·rw [if_neg c5] at H
       have i0 : decide (0 < (a3.length : Int)) = false := decide_eq_false c5; have i1 : decide (0 < a3.length) = false := decide_eq_false (by omega); clear c5; obtain ⟨d4, d1⟩ : ∃ y_ : List ByteArray, y_ = (([(Zd l0 a0).f1] : List ByteArray)) := ⟨_, rfl⟩
       replace H : (if a3.length < 4398046511104 then (Qw.l0 k1 (a3 ++ [(⟨(Zd l0 a0).f0, d4⟩ : S49)]) l0 (l0.length : Int) (wrap64 (a0 + 1))) else (none)) = some r := by first | (rw [d1]; with_reducible exact H) | (have H2_ := (Option.bind_some _ _).symm.trans H; rw [d1]; with_reducible exact H2_) | (have H2_ := (Option.bind_some _ _).symm.trans H; with_reducible exact H2_) | with_reducible exact H | (rw [d1]; exact H) | exact H
       have f8 := Qa.mk d1; clear d1
       by_cases c34 : a3.length < 4398046511104
       ·rw [if_pos c34] at H
        have h6 := Qa.mk c34; clear c34; obtain ⟨g5, d2⟩ : ∃ y_ : List (S49), y_ = (a3 ++ [(⟨(Zd l0 a0).f0, d4⟩ : S49)]) := ⟨_, rfl⟩
        replace H : (Qw.l0 k1 g5 l0 (l0.length : Int) (wrap64 (a0 + 1))) = some r := by first | (rw [d2]; with_reducible exact H) | (have H2_ := (Option.bind_some _ _).symm.trans H; rw [d2]; with_reducible exact H2_) | (have H2_ := (Option.bind_some _ _).symm.trans H; with_reducible exact H2_) | with_reducible exact H | (rw [d2]; exact H) | exact H
        have h7 := Qa.mk d2; clear d2; have H' := Qa.mk H; clear H; have b1 : 0 ≤ (a0 : Int) := of_decide_eq_true (by first | (with_reducible assumption) | assumption); have b2 : a0 < (l0.length : Int) := of_decide_eq_true (by first | (with_reducible assumption) | assumption); obtain ⟨f4, d8, a5, a6⟩ := Qah HR0.out a0 b1 b2
        cases d8; replace a5 := (HB.out.cell (World.block_lt_of_cell? w _ a5)).trans a5; replace a6 := (HB.out.cell (World.block_lt_of_cell? w _ a6)).trans a6; replace b1 := eq_true b1; replace b2 := eq_true b2
        try go_wp2_with (first | ((with_reducible refine Zs (N := 5) rfl ?_); refine Xd ?hg (N := 5) ?hd (cs := #[.int .i64 0, .string (⟨#[]⟩ : ByteArray)]) (t := 68) ?hr ?_; (case hd => rfl); (case hg => rfl); (case hr => first | (go_simp; done) | (go_simp; rfl)); intro a2 hg w35 hbox hb; have n0_ := Qa.mk (Kd.S_below (by (with_reducible repeat (first | apply Kd.S_alloc | apply Kd.S_drewN | apply Kd.S_drew)); exact a4.out) hb); have n1_ := Qa.mk (Qk (by repeat (first | (with_reducible first | exact HB.out | apply Qc | apply Qb | apply Qd) | exact HB.out)) hb); have n2_ := Qa.mk (hbox); have n3_ := Qa.mk ((by rw [hg]; exact (Qh (by repeat (first | (with_reducible first | exact HB.out | apply Qc | apply Qb | apply Qd) | exact HB.out))) : w.heap.size ≤ a2)); have n4_ := Qa.mk ((by rw [hg]; exact (Qh (by repeat (first | (with_reducible first | exact HB.out | apply Qc | apply Qb | apply Qd) | exact HB.out))) : w.heap.size ≤ a2)); clear a4; clear HB; have a4 := n0_; have HB := n1_; have a1 := n2_; have f5 := n3_; have GE102 := n4_; clear n0_ n1_ n2_ n3_ n4_; clear hb hbox hg; have k6 : w35.cell? ⟨a2, 0, none⟩ = some (.int .i64 0) := (Ql a1.out 0).trans rfl; have k7 : w35.cell? ⟨a2, 1, none⟩ = some (.string (⟨#[]⟩ : ByteArray)) := (Ql a1.out 1).trans rfl; have k8 := Qo a1.out 0; have k9 := Qo a1.out 1; obtain ⟨e6, e7, eo37⟩ := Kd.S_slice a4.out; subst eo37))
        have n0_ : Qa (Kd.S k49 49 ((w35.setCell ⟨a2, 0, none⟩ (.int .i64 ((Zd l0 a0).f0))).setCell ⟨a2, 1, none⟩ (.string ((Zd l0 a0).f1))) w.heap.size (fun _ => True) (.slice e6 a3.length e7) a3) := ⟨by (with_reducible repeat (first | apply Kd.S_alloc | apply Kd.S_drewN | apply Kd.S_drew)); exact Kd.S_mono (Kd.S_far (p := ⟨a2, 1, none⟩) (Kd.S_far (p := ⟨a2, 0, none⟩) (Kd.S_types a4.out a1.out (by decide)) (fun _ hk => hk.2) (.int .i64 ((Zd l0 a0).f0))) (fun _ hk => hk.2) (.string ((Zd l0 a0).f1))) (fun _ hk => trivial)⟩; have n1_ : Qa (((w35.setCell ⟨a2, 0, none⟩ (.int .i64 ((Zd l0 a0).f0))).setCell ⟨a2, 1, none⟩ (.string ((Zd l0 a0).f1))).heap[a2]? = some (.cells #[.int .i64 ((Zd l0 a0).f0), .string ((Zd l0 a0).f1)] 68 (0, 0))) := ⟨by (with_reducible repeat (first | refine Zf ?_ _ | refine Zg ?_ | refine Zb ?_ _)); refine Zu (cs := #[.int .i64 ((Zd l0 a0).f0), .string (⟨#[]⟩ : ByteArray)]) ?_ 1 _ rfl; (with_reducible repeat (first | refine Zf ?_ _ | refine Zg ?_ | refine Zb ?_ _)); refine Zu (cs := #[.int .i64 0, .string (⟨#[]⟩ : ByteArray)]) ?_ 0 _ rfl; (with_reducible repeat (first | refine Zf ?_ _ | refine Zg ?_ | refine Zb ?_ _)); exact a1.out⟩; have n2_ : Qa (Below w.heap.size w ((w35.setCell ⟨a2, 0, none⟩ (.int .i64 ((Zd l0 a0).f0))).setCell ⟨a2, 1, none⟩ (.string ((Zd l0 a0).f1)))) := ⟨by repeat (first | (with_reducible first | exact HB.out | apply Qc | apply Qb | apply Qd | refine Qu ?_ GE102.out) | exact HB.out)⟩
        (try clear a4)
        (try clear a1)
        (try clear HB)
        generalize ((w35.setCell ⟨a2, 0, none⟩ (.int .i64 ((Zd l0 a0).f0))).setCell ⟨a2, 1, none⟩ (.string ((Zd l0 a0).f1))) = w38 at n0_ n1_ n2_ ⊢
        have a4 := n0_; have a1 := n1_; have HB := n2_; clear n0_ n1_ n2_; have n0_ := Qa.mk (Kd.S_drew a4.out); have n1_ := Qa.mk (Zg a1.out); have n2_ := Qa.mk (Qd HB.out); clear a4; clear a1; clear HB; have a4 := n0_; have a1 := n1_; have HB := n2_; clear n0_ n1_ n2_; refine Vo (n := 13) (S := fun w' => True) (ds := []) (bz_ 13 0) (by kernel_rfl) rfl rfl trivial (fun hHeld => ?_); refine Yd Qw.tab6 Qw.bits6 (fun HT_ HW_ => ?_)
        generalize w38.drew = w39 at a4 a1 HB hHeld ⊢
        refine Qx (i := 0) (N := some 15) (v := ?_) (a' := ?_) (bz_ 13 1) rfl rfl (Qs HT_.out (by kernel_rfl)) (fun _ _ _ h => h) (Or.inl ⟨by rfl, ?_⟩) ?_ ?_; rotate_left
        ·intro w'
         go_simp
         with_reducible rfl
        rotate_left
        ·simp only [Act.put, sA_, sB_, sC_, Qp, Qr]
         rfl
        refine Qx (i := 1) (N := some 16) (v := ?_) (a' := ?_) (bz_ 13 3) rfl rfl (Qs HT_.out (by kernel_rfl)) (fun _ _ _ h => h) (Or.inl ⟨by rfl, ?_⟩) ?_ ?_; rotate_left
        ·intro w'
         go_simp
         with_reducible rfl
        rotate_left
        ·simp only [Act.put, sA_, sB_, sC_, Qp, Qr]
         rfl
        refine Qx (i := 2) (N := some 17) (v := ?_) (a' := ?_) (bz_ 13 7) rfl rfl (Qs HT_.out (by kernel_rfl)) (fun _ _ _ h => h) (Or.inl ⟨by rfl, ?_⟩) ?_ ?_; rotate_left
        ·intro w'
         go_simp
         with_reducible rfl
        rotate_left
        ·simp only [Act.put, sA_, sB_, sC_, Qp, Qr]
         rfl
        refine Qx (i := 3) (N := some 18) (v := undef) (a' := ?_) (bz_ 13 15) rfl rfl (Qs HT_.out (by kernel_rfl)) (fun _ _ _ h => h) (Or.inr ⟨by rfl, rfl⟩) ?_ ?_; rotate_left
        ·simp only [Act.put, sA_, sB_, sC_, Qp, Qr]
         rfl
        refine Qx (i := 4) (N := some 19) (v := undef) (a' := ?_) (bz_ 13 31) rfl rfl (Qs HT_.out (by kernel_rfl)) (fun _ _ _ h => h) (Or.inr ⟨by rfl, rfl⟩) ?_ ?_; rotate_left
        ·simp only [Act.put, sA_, sB_, sC_, Qp, Qr]
         rfl
        refine Qx (i := 5) (N := some 20) (v := undef) (a' := ?_) (bz_ 13 63) rfl rfl (Qs HT_.out (by kernel_rfl)) (fun _ _ _ h => h) (Or.inr ⟨by rfl, rfl⟩) ?_ ?_; rotate_left
        ·simp only [Act.put, sA_, sB_, sC_, Qp, Qr]
         rfl
        refine Qx (i := 6) (N := some 21) (v := undef) (a' := ?_) (bz_ 13 127) rfl rfl (Qs HT_.out (by kernel_rfl)) (fun _ _ _ h => h) (Or.inr ⟨by rfl, rfl⟩) ?_ ?_; rotate_left
        ·simp only [Act.put, sA_, sB_, sC_, Qp, Qr]
         rfl
        refine Qx (i := 7) (N := some 22) (v := undef) (a' := ?_) (bz_ 13 255) rfl rfl (Qs HT_.out (by kernel_rfl)) (fun _ _ _ h => h) (Or.inr ⟨by rfl, rfl⟩) ?_ ?_; rotate_left
        ·simp only [Act.put, sA_, sB_, sC_, Qp, Qr]
         rfl
        refine Qx (i := 8) (N := some 23) (v := undef) (a' := ?_) (bz_ 13 511) rfl rfl (Qs HT_.out (by kernel_rfl)) (fun _ _ _ h => h) (Or.inr ⟨by rfl, rfl⟩) ?_ ?_; rotate_left
        ·simp only [Act.put, sA_, sB_, sC_, Qp, Qr]
         rfl
        refine Qx (i := 9) (N := some 24) (v := undef) (a' := ?_) (bz_ 13 1023) rfl rfl (Qs HT_.out (by kernel_rfl)) (fun _ _ _ h => h) (Or.inr ⟨by rfl, rfl⟩) ?_ ?_; rotate_left
        ·simp only [Act.put, sA_, sB_, sC_, Qp, Qr]
         rfl
        refine Qx (i := 10) (N := some 25) (v := undef) (a' := ?_) (bz_ 13 2047) rfl rfl (Qs HT_.out (by kernel_rfl)) (fun _ _ _ h => h) (Or.inr ⟨by rfl, rfl⟩) ?_ ?_; rotate_left
        ·simp only [Act.put, sA_, sB_, sC_, Qp, Qr]
         rfl
        refine Qx (i := 11) (N := some 26) (v := undef) (a' := ?_) (bz_ 13 4095) rfl rfl (Qs HT_.out (by kernel_rfl)) (fun _ _ _ h => h) (Or.inr ⟨by rfl, rfl⟩) ?_ ?_; rotate_left
        ·simp only [Act.put, sA_, sB_, sC_, Qp, Qr]
         rfl
        refine Qx (i := 12) (N := some 27) (v := ?_) (a' := ?_) (bz_ 13 8191) rfl rfl (Qs HT_.out (by kernel_rfl)) (fun _ _ _ h => h) (Or.inl ⟨by rfl, ?_⟩) ?_ ?_; rotate_left
        ·intro w'
         go_simp
         with_reducible rfl
        rotate_left
        ·simp only [Act.put, sA_, sB_, sC_, Qp, Qr]
         rfl
        refine Un (Vb HT_.out (by kernel_rfl)) ?_; have l3 : w39.cell? ⟨a2, 0, none⟩ = some (.int .i64 ((Zd l0 a0).f0)) := (Ql a1.out 0).trans rfl; have l4 : w39.cell? ⟨a2, 1, none⟩ = some (.string ((Zd l0 a0).f1)) := (Ql a1.out 1).trans rfl; have l5 := Qo a1.out 0; have l6 := Qo a1.out 1
        try go_wp2_with (first | ((with_reducible refine Zs (N := 48) rfl ?_); refine Kd.R_lit Kd.string _ 9 ?hg (N := 48) ?hd (xs := ([(Zd l0 a0).f1] : List ByteArray)) (inner := [.string ((Zd l0 a0).f1)]) (ok := fun _ => True) (okp := fun _ => True) ?hr ?hp (fun _ hk => hk) trivial (Below.refl _ _) (Nat.le_refl _) (by simp) ?_; (case hd => rfl); (case hg => rfl); (case hr => first | (go_simp; done) | (go_simp; rfl)); (case hp => exact (Zz.one (show Kd.M Kd.string _ _ _ ((Zd l0 a0).f1) [.string ((Zd l0 a0).f1)] from rfl) (Zz.none _ _))); intro m6 w41 ho42 hb hg_ hnew_; clear hg_ hnew_; (first | rw [← f8.out] at ho42 | (simp only [Int.reduceToNat] at ho42; rw [← f8.out] at ho42)); have n0_ := Qa.mk (Kd.S_elder' (by (with_reducible repeat (first | apply Kd.S_alloc | apply Kd.S_drewN | apply Kd.S_drew)); exact a4.out) (Kd.R_base ho42) hb); have n1_ := Qa.mk (Kd.R_lower ho42 (Qh (by repeat (first | (with_reducible first | exact HB.out | apply Qc | apply Qb | apply Qd | refine Qu ?_ GE102.out) | exact HB.out)))); have n2_ := Qa.mk (Xt (g := a2) (o := .cells #[.int .i64 ((Zd l0 a0).f0), .string ((Zd l0 a0).f1)] 68 (0, 0)) (by (with_reducible repeat (first | refine Zf ?_ _ | refine Zg ?_ | refine Zb ?_ _)); exact a1.out) hb); have n3_ := Qa.mk (Qk (by repeat (first | (with_reducible first | exact HB.out | apply Qc | apply Qb | apply Qd | refine Qu ?_ GE102.out) | exact HB.out)) hb); clear a4; clear a1; clear HB; have a4 := n0_; have d6 := n1_; have a1 := n2_; have HB := n3_; clear n0_ n1_ n2_ n3_; clear hb ho42; obtain ⟨g6, g7, eo43⟩ := Kd.R_slice d6.out; subst eo43) | ((with_reducible refine Zj (b := .append) (xs := #[.tmp 43, .tmp 50]) rfl ?_); at_builtin; refine Kd.S_append k49 (w0 := w) w.heap.size rfl (.tmp 43) (.tmp 50) 26 49 (.agg #[(.int .i64 0), (.slice none 0 0)]) 32 rfl Tryz.underlying26 Qjr rfl (by decide) (by omega) (.slice e6 a3.length e7) a3 (⟨(Zd l0 a0).f0, d4⟩ : S49) [.int .i64 ((Zd l0 a0).f0), .slice g6 d4.length g7] (fun _ => True) (fun k_ => some k_ = (.slice g6 d4.length g7 : Value).ownBlock) rfl rfl ?aP (fun k_ hk_ => ((Kd.R_mono (ok' := fun k_ => ((fun _ => True)) k_ ∧ some k_ ≠ (.slice e6 a3.length e7 : Value).ownBlock) (Kd.R_apart' (d6.out) (Kd.S_typed a4.out) (by decide)) (fun k_ hk => ⟨trivial, hk.2⟩))).1 k_ hk_.symm) ?aF ?aO ?aB ?aS ?aL ?_; (case aP => exact Qdz _ _ _ (⟨(Zd l0 a0).f0, d4⟩ : S49) (Kd.R_mono (Kd.R_tight rfl (Kd.R_mono (ok' := fun k_ => ((fun _ => True)) k_ ∧ some k_ ≠ (.slice e6 a3.length e7 : Value).ownBlock) (Kd.R_apart' (d6.out) (Kd.S_typed a4.out) (by decide)) (fun k_ hk => ⟨trivial, hk.2⟩))) (fun _ h_ => h_))); (case aB => exact (by repeat (first | (with_reducible first | exact HB.out | apply Qc | apply Qb | apply Qd | refine Qu ?_ GE102.out) | exact HB.out))); (case aF => exact (fun _ _ => trivial)); (case aO => exact (by (with_reducible repeat (first | apply Kd.S_alloc | apply Kd.S_drewN | apply Kd.S_drew)); exact Kd.S_mono a4.out (fun k_ hk => ⟨trivial, fun e_ => hk.2 e_⟩))); (case aS => exact (Qh (by repeat (first | (with_reducible first | exact HB.out | apply Qc | apply Qb | apply Qd | refine Qu ?_ GE102.out) | exact HB.out)))); (case aL => have := h6.out; omega); intro m7 w44 ho hb hg hat; rw [← h7.out] at ho; have n0_ := Qa.mk (Yv (g := a2) (o := .cells #[.int .i64 ((Zd l0 a0).f0), .string ((Zd l0 a0).f1)] 68 (0, 0)) (by (with_reducible repeat (first | refine Zf ?_ _ | refine Zg ?_ | refine Zb ?_ _)); exact a1.out) hg (Kd.S_ne a4.out a1.out (by decide))); have n1_ := Qa.mk (hb); have n2_ := Qa.mk (ho); clear a1; clear HB; clear a4; clear d6; have a1 := n0_; have HB := n1_; have h8 := n2_; clear n0_ n1_ n2_; clear ho hb hg hat))
        go_roundg k1
        case measure => have := HK1.out; omega
        case rel => exact ⟨(g5), (wrap64 (a0 + 1)), (by first | rfl | (simp; done) | (simp [*]; done)), H', ⟨by have := HK1.out; omega⟩, ⟨by (with_reducible repeat (first | apply Kd.S_alloc | apply Kd.S_drewN | apply Kd.S_drew)); exact h8.out⟩, ⟨by repeat (first | (with_reducible first | exact HB.out | apply Qc | apply Qb | apply Qd | refine Qu ?_ GE102.out) | exact HB.out)⟩⟩
       ·rw [if_neg c34] at H
        exact absurd H (by simp)
     ·rw [if_neg c4] at H
      exact absurd H (by simp)
    ·rw [if_neg c3] at H
     exact absurd H (by simp)
   ·rw [if_neg c2] at H
    have h9 : decide (a0 < (l0.length : Int)) = false := decide_eq_false c2; clear c2; obtain rfl := Option.some.inj H
    go_wp2
    go_ret; exact ⟨_, by first | rfl | (simp [Qz, Za] <;> rfl) | (simp [*, Qz, Za] <;> rfl), by (with_reducible repeat (first | apply Kd.S_alloc | apply Kd.S_drewN | apply Kd.S_drew)); exact a4.out, by repeat (first | (with_reducible first | exact HB.out | apply Qc | apply Qb | apply Qd) | exact HB.out)⟩
def Zv.l0 : Nat → List (S68) → List (S45) → List (S40) → Int → Int → Option ((List (S45)))
 | 0, _, _, _, _, _ => none
 | k + 1, x5, x6, x16, x17, x18 => if x18 < x17 then (if 0 ≤ x18 then (if x18 < (x16.length : Int) then (if 0 ≤ ((Zm x16 x18).f0) then (if ((Zm x16 x18).f0) ≤ (x5.length : Int) then ((Qw.f k (x5.take (((Zm x16 x18).f0) : Int).toNat)).bind fun b5 => ((Xi.f k b5).bind fun b3 => (if ((Zm x16 x18).f0) ≤ ((Zm x16 x18).f1) then (if ((Zm x16 x18).f1) ≤ (x5.length : Int) then ((Qw.f k ((x5.take (((Zm x16 x18).f1) : Int).toNat).drop (((Zm x16 x18).f0) : Int).toNat)).bind fun b2 => (if x6.length < 3518437208883 then (Zv.l0 k x5 (x6 ++ [(⟨b3.1, b3.2, b2⟩ : S45)]) x16 x17 (wrap64 (x18 + 1))) else (none))) else (none)) else (none)))) else (none)) else (none)) else (none)) else (none)) else (some x6)
def Zv.f (k : Nat) (l0 : List (S49)) (a1 : Int) : Option ((List (S45))) := (Ze.f k l0).bind fun a3 => ((Zc.f k a3 (mx a1 0)).bind fun a2 => (Zv.l0 k a3 ([] : List (S45)) a2 (a2.length : Int) 0))
set_option maxHeartbeats 8000000 in
set_option maxRecDepth 100000 in
theorem Zv.calls (k : Nat) (A0 : Option Addr) (c0 : Nat) (l0 : List (S49)) (a1 : Int) (r : List (S45)) (w : World) (hr0 : Kd.C k49 w A0 l0.length l0) (hc0 : l0.length ≤ c0) (h : Zv.f k l0 a1 = some r) :
  Calls Tryz.prog 5 #[.slice A0 l0.length c0, .int .i64 a1] w fun e w' => ∃ v0_ : Value, e = .returned (v0_) ∧ Kd.R k45 45 w' w.heap.size (fun _ => True) v0_ r ∧ Below w.heap.size w w' := by
 have hu40 := Tryz.underlying40; have hu45 := Tryz.underlying45; have HR0 := Qa.mk hr0; have HC0 := Qa.mk hc0; clear hr0 hc0; have HB := Qa.mk (Below.refl w.heap.size w); have H : ((Ze.f k l0).bind fun a3 => ((Zc.f k a3 (mx a1 0)).bind fun a2 => (Zv.l0 k a3 ([] : List (S45)) a2 (a2.length : Int) 0))) = some r := h; clear h; replace H := Option.bind_eq_some_iff.mp H; obtain ⟨a3, A30, H⟩ := H; replace H : ((Zc.f k a3 (mx a1 0)).bind fun a2 => (Zv.l0 k a3 ([] : List (S45)) a2 (a2.length : Int) 0)) = some r := H; have A3 := Qa.mk A30; clear A30; obtain ⟨ji4, d0⟩ : ∃ j_ : Int, (mx a1 0) = j_ := ⟨_, rfl⟩
 replace H : ((Zc.f k a3 (ji4)).bind fun a2 => (Zv.l0 k a3 ([] : List (S45)) a2 (a2.length : Int) 0)) = some r := by first | (rw [d0] at H; exact H) | (simp only [d0] at H ⊢; exact H)
 (try rw [d0] at A3)
 (try (have hji4l : 0 ≤ ji4 := by (rw [← d0]; unfold mx; (repeat' split) <;> omega)))
 (try (have hji4m : 0 ≤ ji4 := by omega))
 have h7 : (if a1 < 0 then 0 else a1) = ji4 := d0; replace H := Option.bind_eq_some_iff.mp H; obtain ⟨a2, A50, H⟩ := H; replace H : (Zv.l0 k a3 ([] : List (S45)) a2 (a2.length : Int) 0) = some r := H; have A5 := Qa.mk A50; clear A50; have H' := Qa.mk H; clear H
 go_enter Tryz.func5, Tryz.ntmps5
 go_wp2_with (first | ((with_reducible refine Zx (f := 11) rfl ?_); refine Yq (some 12) rfl rfl Tryz.func11 (by kernel_rfl) rfl #[.slice A0 l0.length c0] rfl (by (try simp only [List.map_toArray, List.map_cons, List.map_nil]); first | done | rfl | (simp only [List.length_drop, List.length_take]; rfl)) ?_; (with_reducible refine (Ze.calls k _ _ l0 a3 _ ?side1 ?side2 A3.out).mono ?_); (case side1 => repeat (first | exact HR0.out | (with_reducible refine Kd.C_alloc ?_ _) | (with_reducible refine Kd.C_drewN ?_ _) | (with_reducible refine Kd.C_drew ?_))); (case side2 => exact HC0.out); rintro e w6 ⟨j0, rfl, ho0, hb⟩; refine ⟨_, rfl, ?_⟩; have n0_ := Qa.mk (Kd.R_lower ho0 (Qh (by repeat (first | (with_reducible first | exact HB.out | apply Qc | apply Qb | apply Qd) | exact HB.out)))); have n1_ := Qa.mk (Qk (by repeat (first | (with_reducible first | exact HB.out | apply Qc | apply Qb | apply Qd) | exact HB.out)) hb); clear HB; have b7 := n0_; have HB := n1_; clear n0_ n1_; (try clear hb); (try clear hb2); (try clear hk); (try clear hi); (try clear ho0); obtain ⟨Ao7, co7, eo7⟩ := Kd.R_slice b7.out; subst eo7) | ((with_reducible refine Zx (f := 12) rfl ?_); refine Yq (some 16) rfl rfl Tryz.func12 (by kernel_rfl) rfl #[.slice Ao7 a3.length co7, .int .i64 ji4] rfl (by (try simp only [List.map_toArray, List.map_cons, List.map_nil]); first | done | (simp only [d0]; rfl) | rfl | (simp only [List.length_drop, List.length_take]; rfl)) ?_; (with_reducible refine (Zc.calls k _ _ a3 ji4 a2 _ ?side1 ?side2 A5.out).mono ?_); (case side1 => repeat (first | exact (Kd.R_reads' b7.out).2.2 | (with_reducible refine Kd.C_alloc ?_ _) | (with_reducible refine Kd.C_drewN ?_ _) | (with_reducible refine Kd.C_drew ?_))); (case side2 => exact (Kd.R_reads' b7.out).2.1); rintro e w8 ⟨j2, rfl, ho0, hb⟩; refine ⟨_, rfl, ?_⟩; have n0_ := Qa.mk (Kd.R_below (by (with_reducible repeat (first | apply Kd.R_alloc | apply Kd.R_drewN | apply Kd.R_drew)); exact b7.out) hb); have n1_ := Qa.mk (Kd.R_lower ho0 (Qh (by repeat (first | (with_reducible first | exact HB.out | apply Qc | apply Qb | apply Qd) | exact HB.out)))); have n2_ := Qa.mk (Qk (by repeat (first | (with_reducible first | exact HB.out | apply Qc | apply Qb | apply Qd) | exact HB.out)) hb); clear b7; clear HB; have b7 := n0_; have e4 := n1_; have HB := n2_; clear n0_ n1_ n2_; (try clear hb); (try clear hb2); (try clear hk); (try clear hi); (try clear ho0); obtain ⟨Ao9, co9, eo9⟩ := Kd.R_slice e4.out; subst eo9))
 go_loopg [6, 18] k (fun kq v6 v18 w' => ∃ (b1 : List (S45)) (a0 : Int), v18 = .int .i64 a0 ∧ Qa (Zv.l0 kq a3 b1 a2 (a2.length : Int) a0 = some r) ∧ Qa (kq ≤ k) ∧ Qa (Kd.R k68 68 w' w.heap.size (fun _ => True) (.slice Ao7 a3.length co7) a3) ∧ Qa (Kd.R k45 45 w' w.heap.size (fun _ => True) v6 b1) ∧ Qa (Kd.R k40 40 w' w.heap.size (fun _ => True) (.slice Ao9 a2.length co9) a2) ∧ Qa (Below w.heap.size w w'))
 case atStart => exact ⟨(([] : List (S45))), (0), (by first | rfl | (simp; done) | (simp [*]; done)), H', ⟨Nat.le_refl _⟩, ⟨by (with_reducible repeat (first | apply Kd.R_alloc | apply Kd.R_drewN | apply Kd.R_drew)); exact b7.out⟩, ⟨by first | exact Kd.R_nil _ _ _ _ _ | exact Kd.N_nil _ _ _ _ _ | exact Kd.V_nil _ _ _ _ _ | exact Kd.Q_nil _ _ _ _ _ | exact Kd.S_nil _ _ _ _ _⟩, ⟨by (with_reducible repeat (first | apply Kd.R_alloc | apply Kd.R_drewN | apply Kd.R_drew)); exact e4.out⟩, ⟨by repeat (first | (with_reducible first | exact HB.out | apply Qc | apply Qb | apply Qd) | exact HB.out)⟩⟩
 case round =>
  clear H'
  try clear c1
  try clear p2
  try clear c5
  obtain ⟨b1, a0, rfl, HA, HK1, a6, a7, a8, HB⟩ := hrel
  cases gk with
  | zero => exact absurd HA.out (by simp [Zv.l0])
  | succ k1 =>
   have H := HA.out; clear HA
   simp only [Zv.l0] at H
   by_cases c10 : a0 < (a2.length : Int)
   ·rw [if_pos c10] at H
    have e9 : decide (a0 < (a2.length : Int)) = true := decide_eq_true c10; clear c10
    by_cases c11 : 0 ≤ a0
    ·rw [if_pos c11] at H
     have h8 : decide (0 ≤ a0) = true := decide_eq_true c11; clear c11
     by_cases c12 : a0 < (a2.length : Int)
     ·rw [if_pos c12] at H
      have h9 : decide (a0 < (a2.length : Int)) = true := decide_eq_true c12; clear c12
      by_cases c13 : 0 ≤ ((Zm a2 a0).f0)
      ·rw [if_pos c13] at H
       have i0 := eq_true c13; have i1 : decide (0 ≤ ((Zm a2 a0).f0)) = true := decide_eq_true c13; clear c13
       by_cases c14 : ((Zm a2 a0).f0) ≤ (a3.length : Int)
       ·rw [if_pos c14] at H
        have i2 := eq_true c14; have i3 : decide (((Zm a2 a0).f0) ≤ (a3.length : Int)) = true := decide_eq_true c14; clear c14; obtain ⟨d1, d2⟩ : ∃ y_ : List (S68), y_ = (a3.take (((Zm a2 a0).f0) : Int).toNat) := ⟨_, rfl⟩
        replace H : ((Qw.f k1 d1).bind fun b5 => ((Xi.f k1 b5).bind fun b3 => (if ((Zm a2 a0).f0) ≤ ((Zm a2 a0).f1) then (if ((Zm a2 a0).f1) ≤ (a3.length : Int) then ((Qw.f k1 ((a3.take (((Zm a2 a0).f1) : Int).toNat).drop (((Zm a2 a0).f0) : Int).toNat)).bind fun b2 => (if b1.length < 3518437208883 then (Zv.l0 k1 a3 (b1 ++ [(⟨b3.1, b3.2, b2⟩ : S45)]) a2 (a2.length : Int) (wrap64 (a0 + 1))) else (none))) else (none)) else (none)))) = some r := by first | (rw [d2]; with_reducible exact H) | (have H2_ := (Option.bind_some _ _).symm.trans H; rw [d2]; with_reducible exact H2_) | (have H2_ := (Option.bind_some _ _).symm.trans H; with_reducible exact H2_) | with_reducible exact H | (rw [d2]; exact H) | exact H
        have d5 := Qa.mk d2; clear d2; replace H := Option.bind_eq_some_iff.mp H; obtain ⟨b5, e5, H⟩ := H; replace H : ((Xi.f k1 b5).bind fun b3 => (if ((Zm a2 a0).f0) ≤ ((Zm a2 a0).f1) then (if ((Zm a2 a0).f1) ≤ (a3.length : Int) then ((Qw.f k1 ((a3.take (((Zm a2 a0).f1) : Int).toNat).drop (((Zm a2 a0).f0) : Int).toNat)).bind fun b2 => (if b1.length < 3518437208883 then (Zv.l0 k1 a3 (b1 ++ [(⟨b3.1, b3.2, b2⟩ : S45)]) a2 (a2.length : Int) (wrap64 (a0 + 1))) else (none))) else (none)) else (none))) = some r := H; have A15 := Qa.mk e5; clear e5; replace H := Option.bind_eq_some_iff.mp H; obtain ⟨⟨b8, b9⟩, e6, H⟩ := H; replace H : (if ((Zm a2 a0).f0) ≤ ((Zm a2 a0).f1) then (if ((Zm a2 a0).f1) ≤ (a3.length : Int) then ((Qw.f k1 ((a3.take (((Zm a2 a0).f1) : Int).toNat).drop (((Zm a2 a0).f0) : Int).toNat)).bind fun b2 => (if b1.length < 3518437208883 then (Zv.l0 k1 a3 (b1 ++ [(⟨b8, b9, b2⟩ : S45)]) a2 (a2.length : Int) (wrap64 (a0 + 1))) else (none))) else (none)) else (none)) = some r := H; have A16 := Qa.mk e6; clear e6; have i4 := eq_true (of_decide_eq_true (by first | (with_reducible assumption) | assumption) : 0 ≤ ((Zm a2 a0).f0))
        by_cases c18 : ((Zm a2 a0).f0) ≤ ((Zm a2 a0).f1)
        ·rw [if_pos c18] at H
         have i5 := eq_true c18; have i6 : decide (((Zm a2 a0).f0) ≤ ((Zm a2 a0).f1)) = true := decide_eq_true c18; clear c18
         by_cases c19 : ((Zm a2 a0).f1) ≤ (a3.length : Int)
         ·rw [if_pos c19] at H
          have i7 := eq_true c19; have i8 : decide (((Zm a2 a0).f1) ≤ (a3.length : Int)) = true := decide_eq_true c19; clear c19; obtain ⟨b6, d3⟩ : ∃ y_ : List (S68), y_ = ((a3.take (((Zm a2 a0).f1) : Int).toNat).drop (((Zm a2 a0).f0) : Int).toNat) := ⟨_, rfl⟩
          replace H : ((Qw.f k1 b6).bind fun b2 => (if b1.length < 3518437208883 then (Zv.l0 k1 a3 (b1 ++ [(⟨b8, b9, b2⟩ : S45)]) a2 (a2.length : Int) (wrap64 (a0 + 1))) else (none))) = some r := by first | (rw [d3]; with_reducible exact H) | (have H2_ := (Option.bind_some _ _).symm.trans H; rw [d3]; with_reducible exact H2_) | (have H2_ := (Option.bind_some _ _).symm.trans H; with_reducible exact H2_) | with_reducible exact H | (rw [d3]; exact H) | exact H
          have d6 := Qa.mk d3; clear d3; replace H := Option.bind_eq_some_iff.mp H; obtain ⟨b2, e7, H⟩ := H; replace H : (if b1.length < 3518437208883 then (Zv.l0 k1 a3 (b1 ++ [(⟨b8, b9, b2⟩ : S45)]) a2 (a2.length : Int) (wrap64 (a0 + 1))) else (none)) = some r := H; have A20 := Qa.mk e7; clear e7
          by_cases c21 : b1.length < 3518437208883
          ·rw [if_pos c21] at H
           have f2 := Qa.mk c21; clear c21; obtain ⟨e8, d4⟩ : ∃ y_ : List (S45), y_ = (b1 ++ [(⟨b8, b9, b2⟩ : S45)]) := ⟨_, rfl⟩
           replace H : (Zv.l0 k1 a3 e8 a2 (a2.length : Int) (wrap64 (a0 + 1))) = some r := by first | (rw [d4]; with_reducible exact H) | (have H2_ := (Option.bind_some _ _).symm.trans H; rw [d4]; with_reducible exact H2_) | (have H2_ := (Option.bind_some _ _).symm.trans H; with_reducible exact H2_) | with_reducible exact H | (rw [d4]; exact H) | exact H
           have f3 := Qa.mk d4; clear d4; have H' := Qa.mk H; clear H; have d9 : 0 ≤ (a0 : Int) := of_decide_eq_true (by first | (with_reducible assumption) | assumption); have e0 : a0 < (a2.length : Int) := of_decide_eq_true (by first | (with_reducible assumption) | assumption); obtain ⟨f4, f8, g2, g3⟩ := Qpw (Kd.R_reads' a8.out).2.2 a0 d9 e0
           cases f8; replace d9 := eq_true d9; replace e0 := eq_true e0; go_wp2_with (first | ((with_reducible refine Zs (N := 8) rfl ?_); refine Xd ?hg (N := 8) ?hd (cs := #[.int .i64 0, .int .i64 0]) (t := 40) ?hr ?_; (case hd => rfl); (case hg => rfl); (case hr => first | (go_simp; done) | (go_simp; rfl)); intro a5 hg w22 hbox hb; have n0_ := Qa.mk (Kd.R_below (by (with_reducible repeat (first | apply Kd.R_alloc | apply Kd.R_drewN | apply Kd.R_drew)); exact a6.out) hb); have n1_ := Qa.mk (Kd.R_below (by (with_reducible repeat (first | apply Kd.R_alloc | apply Kd.R_drewN | apply Kd.R_drew)); exact a7.out) hb); have n2_ := Qa.mk (Kd.R_below (Kd.R_elderB (by (with_reducible repeat (first | apply Kd.R_alloc | apply Kd.R_drewN | apply Kd.R_drew)); exact a8.out) a5 (Nat.le_of_eq hg.symm)) hb); have n3_ := Qa.mk (Qk (by repeat (first | (with_reducible first | exact HB.out | apply Qc | apply Qb | apply Qd) | exact HB.out)) hb); have n4_ := Qa.mk (hbox); have n5_ := Qa.mk ((by rw [hg]; exact (Qh (by repeat (first | (with_reducible first | exact HB.out | apply Qc | apply Qb | apply Qd) | exact HB.out))) : w.heap.size ≤ a5)); have n6_ := Qa.mk ((by rw [hg]; exact (Qh (by repeat (first | (with_reducible first | exact HB.out | apply Qc | apply Qb | apply Qd) | exact HB.out))) : w.heap.size ≤ a5)); clear a6; clear a7; clear a8; clear HB; have a6 := n0_; have a7 := n1_; have a8 := n2_; have HB := n3_; have a4 := n4_; have i9 := n5_; have GE108 := n6_; clear n0_ n1_ n2_ n3_ n4_ n5_ n6_; clear hb hbox hg; have g4 : w22.cell? ⟨a5, 0, none⟩ = some (.int .i64 0) := (Ql a4.out 0).trans rfl; have g5 : w22.cell? ⟨a5, 1, none⟩ = some (.int .i64 0) := (Ql a4.out 1).trans rfl; have g6 := Qo a4.out 0; have g7 := Qo a4.out 1) | ((with_reducible refine Kw (t := 40) (p := 8) rfl ?_); refine Kj (t := 40) (p := 8) (v := ?vo_w24) (w1 := ((w22.setCell ⟨a5, 0, none⟩ (.int .i64 ((Zm a2 a0).f0))).setCell ⟨a5, 1, none⟩ (.int .i64 ((Zm a2 a0).f1)))) ?hg ?ho ?hn ?hr ?_; (case ho => rfl); (case hg => rfl); (case hn => rfl); (case hr => first | (go_simp; done) | (go_simp; rfl)); intro w24 hw; have n0_ : Qa (Kd.R k68 68 w24 w.heap.size (fun _ => True) (.slice Ao7 a3.length co7) a3) := ⟨(by rw [hw]; exact (by (with_reducible repeat (first | apply Kd.R_alloc | apply Kd.R_drewN | apply Kd.R_drew)); exact Kd.R_mono (Kd.R_far (p := ⟨a5, 1, none⟩) (Kd.R_far (p := ⟨a5, 0, none⟩) (Kd.R_types a6.out a4.out (by decide)) (fun _ hk => hk.2) (.int .i64 ((Zm a2 a0).f0))) (fun _ hk => hk.2) (.int .i64 ((Zm a2 a0).f1))) (fun _ hk => trivial)))⟩; have n1_ : Qa (Kd.R k45 45 w24 w.heap.size (fun _ => True) u6 b1) := ⟨(by rw [hw]; exact (by (with_reducible repeat (first | apply Kd.R_alloc | apply Kd.R_drewN | apply Kd.R_drew)); exact Kd.R_mono (Kd.R_far (p := ⟨a5, 1, none⟩) (Kd.R_far (p := ⟨a5, 0, none⟩) (Kd.R_types a7.out a4.out (by decide)) (fun _ hk => hk.2) (.int .i64 ((Zm a2 a0).f0))) (fun _ hk => hk.2) (.int .i64 ((Zm a2 a0).f1))) (fun _ hk => trivial)))⟩; have n2_ : Qa (Kd.R k40 40 w24 w.heap.size (fun k_ => k_ ≠ a5) (.slice (some f4) a2.length co9) a2) := ⟨(by rw [hw]; exact (by (with_reducible repeat (first | apply Kd.R_alloc | apply Kd.R_drewN | apply Kd.R_drew)); exact Kd.R_mono (Kd.R_far (p := ⟨a5, 1, none⟩) (Kd.R_far (p := ⟨a5, 0, none⟩) (Kd.R_mono a8.out (fun k_ hk => (⟨hk, hk.2⟩ : _ ∧ k_ ≠ a5))) (fun _ hk => hk.2) (.int .i64 ((Zm a2 a0).f0))) (fun _ hk => hk.2) (.int .i64 ((Zm a2 a0).f1))) (fun _ hk => hk.1.2)))⟩; have n3_ : Qa (w24.heap[a5]? = some (.cells #[.int .i64 ((Zm a2 a0).f0), .int .i64 ((Zm a2 a0).f1)] 40 (0, 0))) := ⟨(by rw [hw]; exact (by (with_reducible repeat (first | refine Zf ?_ _ | refine Zg ?_ | refine Zb ?_ _)); refine Zu (cs := #[.int .i64 ((Zm a2 a0).f0), .int .i64 0]) ?_ 1 _ rfl; (with_reducible repeat (first | refine Zf ?_ _ | refine Zg ?_ | refine Zb ?_ _)); refine Zu (cs := #[.int .i64 0, .int .i64 0]) ?_ 0 _ rfl; (with_reducible repeat (first | refine Zf ?_ _ | refine Zg ?_ | refine Zb ?_ _)); exact a4.out))⟩; have n4_ : Qa (Below w.heap.size w w24) := ⟨(by rw [hw]; exact (by repeat (first | (with_reducible first | exact HB.out | apply Qc | apply Qb | apply Qd | refine Qu ?_ GE108.out) | exact HB.out)))⟩; clear hw; clear a6; clear a7; clear a8; clear a4; clear HB; have a6 := n0_; have a7 := n1_; have a8 := n2_; have a4 := n3_; have HB := n4_; clear n0_ n1_ n2_ n3_ n4_; have g8 : w24.cell? ⟨a5, 0, none⟩ = some (.int .i64 ((Zm a2 a0).f0)) := (Ql a4.out 0).trans rfl; have g9 : w24.cell? ⟨a5, 1, none⟩ = some (.int .i64 ((Zm a2 a0).f1)) := (Ql a4.out 1).trans rfl; have h0 := Qo a4.out 0; have h2 := Qo a4.out 1; have q26 : (((Zm a2 a0).f0) : Int) ≤ ((a3.length : Int) : Int) := of_decide_eq_true (by first | (with_reducible assumption) | assumption); obtain ⟨i026, hi026, _, hsz26, _⟩ := info_parts Qex; have hroom26 : a3.length ≤ co7 := (Kd.R_reads' a6.out).2.1; have hC26 : Kd.C k68 _ Ao7 a3.length a3 := (Kd.R_reads' a6.out).2.2; have hcut26 := Um (P := Tryz.prog) 36 68 .i64 Tryz.underlying36 hi026 Ao7 a3.length co7 ((Zm a2 a0).f0) (of_decide_eq_true (by first | (with_reducible assumption) | assumption)) q26 hroom26; have hr26 := Kd.C_take (m := (((Zm a2 a0).f0) : Int).toNat) hC26 (by omega); have e1 : d1.length = (((Zm a2 a0).f0) : Int).toNat := (by rw [d5.out, List.length_take]; omega); rw [← d5.out] at hr26; rw [← e1] at hcut26; have a9 := Qa.mk hr26; have f5 := Qa.mk (show d1.length ≤ co7 from by omega); clear hr26 hC26 hroom26 hi026 hsz26; have KY26 := Qa.mk e1; clear e1; have KL26 := Qa.mk (show (((Zm a2 a0).f0) : Int).toNat ≤ a3.length from by omega); replace q26 := eq_true q26) | ((with_reducible refine Zx (f := 14) rfl ?_); refine Yq (some 27) rfl rfl Tryz.func14 (by kernel_rfl) rfl #[.slice Ao7 d1.length co7] rfl (by (try simp only [List.map_toArray, List.map_cons, List.map_nil]); first | done | rfl | (simp only [List.length_drop, List.length_take]; rfl)) ?_; (with_reducible refine (Qw.calls k1 _ _ d1 b5 _ ?side1 ?side2 A15.out).mono ?_); (case side1 => repeat (first | exact (by repeat (first | (with_reducible exact a9.out) | (with_reducible refine Kd.C_alloc ?_ _) | (with_reducible refine Kd.C_drewN ?_ _) | (with_reducible refine Kd.C_drew ?_) | exact a9.out)) | (with_reducible refine Kd.C_alloc ?_ _) | (with_reducible refine Kd.C_drewN ?_ _) | (with_reducible refine Kd.C_drew ?_))); (case side2 => exact f5.out); rintro e w27 ⟨j3, rfl, ho0, hb⟩; refine ⟨_, rfl, ?_⟩; have n0_ := Qa.mk (Kd.R_below (by (with_reducible repeat (first | apply Kd.R_alloc | apply Kd.R_drewN | apply Kd.R_drew)); exact a6.out) hb); have n1_ := Qa.mk (Kd.R_elder' (by (with_reducible repeat (first | apply Kd.R_alloc | apply Kd.R_drewN | apply Kd.R_drew)); exact a7.out) (Kd.S_base ho0) hb); have n2_ := Qa.mk (Kd.R_below (by (with_reducible repeat (first | apply Kd.R_alloc | apply Kd.R_drewN | apply Kd.R_drew)); exact a8.out) hb); have n3_ := Qa.mk (Kd.S_lower ho0 (Qh (by repeat (first | (with_reducible first | exact HB.out | apply Qc | apply Qb | apply Qd | refine Qu ?_ GE108.out) | exact HB.out)))); have n4_ := Qa.mk (Xt (g := a5) (o := .cells #[.int .i64 ((Zm a2 a0).f0), .int .i64 ((Zm a2 a0).f1)] 40 (0, 0)) (by (with_reducible repeat (first | refine Zf ?_ _ | refine Zg ?_ | refine Zb ?_ _)); exact a4.out) hb); have n5_ := Qa.mk (Kd.C_below (by repeat (first | (with_reducible exact a9.out) | (with_reducible refine Kd.C_alloc ?_ _) | (with_reducible refine Kd.C_drewN ?_ _) | (with_reducible refine Kd.C_drew ?_) | exact a9.out)) hb); have n6_ := Qa.mk (Qk (by repeat (first | (with_reducible first | exact HB.out | apply Qc | apply Qb | apply Qd | refine Qu ?_ GE108.out) | exact HB.out)) hb); clear a6; clear a7; clear a8; clear a4; clear a9; clear HB; have a6 := n0_; have a7 := n1_; have a8 := n2_; have b0 := n3_; have a4 := n4_; have a9 := n5_; have HB := n6_; clear n0_ n1_ n2_ n3_ n4_ n5_ n6_; (try clear hb); (try clear hb2); (try clear hk); (try clear hi); (try clear ho0); obtain ⟨e2, e3, eo28⟩ := Kd.S_slice b0.out; subst eo28) | ((with_reducible refine Zx (f := 13) rfl ?_); refine Yq (some 28) rfl rfl Tryz.func13 (by kernel_rfl) rfl #[.slice e2 b5.length e3] rfl (by (try simp only [List.map_toArray, List.map_cons, List.map_nil]); first | done | rfl | (simp only [List.length_drop, List.length_take]; rfl)) ?_; (with_reducible refine (Xi.calls k1 _ _ b5 b8 b9 _ ?side1 ?side2 A16.out).mono ?_); (case side1 => repeat (first | exact (Kd.S_reads' b0.out).2.2 | (with_reducible refine Kd.C_alloc ?_ _) | (with_reducible refine Kd.C_drewN ?_ _) | (with_reducible refine Kd.C_drew ?_))); (case side2 => exact (Kd.S_reads' b0.out).2.1); rintro e w29 ⟨rfl, hb⟩; refine ⟨_, rfl, ?_⟩; have n0_ := Qa.mk (Kd.R_below (by (with_reducible repeat (first | apply Kd.R_alloc | apply Kd.R_drewN | apply Kd.R_drew)); exact a6.out) hb); have n1_ := Qa.mk (Kd.R_below (by (with_reducible repeat (first | apply Kd.R_alloc | apply Kd.R_drewN | apply Kd.R_drew)); exact a7.out) hb); have n2_ := Qa.mk (Kd.R_below (by (with_reducible repeat (first | apply Kd.R_alloc | apply Kd.R_drewN | apply Kd.R_drew)); exact a8.out) hb); have n3_ := Qa.mk (Kd.S_below (by (with_reducible repeat (first | apply Kd.S_alloc | apply Kd.S_drewN | apply Kd.S_drew)); exact b0.out) hb); have n4_ := Qa.mk (Xt (g := a5) (o := .cells #[.int .i64 ((Zm a2 a0).f0), .int .i64 ((Zm a2 a0).f1)] 40 (0, 0)) (by (with_reducible repeat (first | refine Zf ?_ _ | refine Zg ?_ | refine Zb ?_ _)); exact a4.out) hb); have n5_ := Qa.mk (Kd.C_below (by repeat (first | (with_reducible exact a9.out) | (with_reducible refine Kd.C_alloc ?_ _) | (with_reducible refine Kd.C_drewN ?_ _) | (with_reducible refine Kd.C_drew ?_) | exact a9.out)) hb); have n6_ := Qa.mk (Qk (by repeat (first | (with_reducible first | exact HB.out | apply Qc | apply Qb | apply Qd | refine Qu ?_ GE108.out) | exact HB.out)) hb); clear a6; clear a7; clear a8; clear b0; clear a4; clear a9; clear HB; have a6 := n0_; have a7 := n1_; have a8 := n2_; have b0 := n3_; have a4 := n4_; have a9 := n5_; have HB := n6_; clear n0_ n1_ n2_ n3_ n4_ n5_ n6_; (try clear hb); (try clear hb2); (try clear hk); (try clear hi); have h3 : w29.cell? ⟨a5, 0, none⟩ = some (.int .i64 ((Zm a2 a0).f0)) := (Ql a4.out 0).trans rfl; have h4 : w29.cell? ⟨a5, 1, none⟩ = some (.int .i64 ((Zm a2 a0).f1)) := (Ql a4.out 1).trans rfl; have h5 := Qo a4.out 0; have h6 := Qo a4.out 1; have q31 : (((Zm a2 a0).f1) : Int) ≤ ((a3.length : Int) : Int) := of_decide_eq_true (by first | (with_reducible assumption) | assumption); obtain ⟨i031, hi031, _, hsz31, _⟩ := info_parts Qex; have hroom31 : a3.length ≤ co7 := (Kd.R_reads' a6.out).2.1; have hC31 : Kd.C k68 _ Ao7 a3.length a3 := (Kd.R_reads' a6.out).2.2; have ql31 : (((Zm a2 a0).f0) : Int) ≤ (((Zm a2 a0).f1) : Int) := of_decide_eq_true (by first | (with_reducible assumption) | assumption); have f9 : (0 : Int) ≤ (((Zm a2 a0).f0) : Int) := of_decide_eq_true (by first | (with_reducible assumption) | assumption); have hcut31 := Qch (P := Tryz.prog) 36 68 .i64 .i64 Tryz.underlying36 hi031 2 hsz31 Ao7 a3.length co7 ((Zm a2 a0).f0) ((Zm a2 a0).f1) f9 ql31 q31 hroom31; have hr31 := Kd.C_mid (lo := (((Zm a2 a0).f0) : Int).toNat) (hi := (((Zm a2 a0).f1) : Int).toNat) (c := co7) hC31 (by omega) (by omega) hroom31; obtain ⟨A31, hA31⟩ : ∃ A1, A1 = (if co7 = (((Zm a2 a0).f0) : Int).toNat then Ao7 else (Ao7 : Option Addr).map (·.add ((((Zm a2 a0).f0) : Int).toNat * 2))) := ⟨_, rfl⟩; obtain ⟨c31, hc31⟩ : ∃ c1, c1 = co7 - (((Zm a2 a0).f0) : Int).toNat := ⟨_, rfl⟩; have d7 : b6.length = (((Zm a2 a0).f1) : Int).toNat - (((Zm a2 a0).f0) : Int).toNat := (by rw [d6.out, List.length_drop, List.length_take] <;> omega); rw [show ((a3).take (((Zm a2 a0).f1) : Int).toNat).drop (((Zm a2 a0).f0) : Int).toNat = b6 from d6.out.symm] at hr31; replace hr31 : Kd.C k68 _ A31 b6.length b6 := (by rw [hA31]; exact hr31); rw [← d7, ← hA31, ← hc31] at hcut31; have b4 := Qa.mk hr31; have f6 := Qa.mk (show b6.length ≤ c31 from by rw [d7, hc31]; exact Nat.sub_le_sub_right (Nat.le_trans (by omega) hroom31) _); clear hr31 hC31 hroom31 hi031 hsz31 hc31; have KY31 := Qa.mk d7; have KA31 := Qa.mk hA31; clear d7 hA31; have KL31 := Qa.mk (show (((Zm a2 a0).f1) : Int).toNat ≤ a3.length from by omega); have KM31 := Qa.mk (show (((Zm a2 a0).f0) : Int).toNat ≤ (((Zm a2 a0).f1) : Int).toNat from by omega); replace q31 := eq_true q31) | ((with_reducible refine Zx (f := 14) rfl ?_); refine Yq (some 40) rfl rfl Tryz.func14 (by kernel_rfl) rfl #[.slice A31 b6.length c31] rfl (by (try simp only [List.map_toArray, List.map_cons, List.map_nil]); first | done | rfl | (simp only [List.length_drop, List.length_take]; rfl)) ?_; (with_reducible refine (Qw.calls k1 _ _ b6 b2 _ ?side1 ?side2 A20.out).mono ?_); (case side1 => repeat (first | exact (by repeat (first | (with_reducible exact b4.out) | (with_reducible refine Kd.C_alloc ?_ _) | (with_reducible refine Kd.C_drewN ?_ _) | (with_reducible refine Kd.C_drew ?_) | exact b4.out)) | (with_reducible refine Kd.C_alloc ?_ _) | (with_reducible refine Kd.C_drewN ?_ _) | (with_reducible refine Kd.C_drew ?_))); (case side2 => exact f6.out); rintro e w32 ⟨j4, rfl, ho0, hb⟩; refine ⟨_, rfl, ?_⟩; have n0_ := Qa.mk (Kd.R_below (by (with_reducible repeat (first | apply Kd.R_alloc | apply Kd.R_drewN | apply Kd.R_drew)); exact a6.out) hb); have n1_ := Qa.mk (Kd.R_elder' (by (with_reducible repeat (first | apply Kd.R_alloc | apply Kd.R_drewN | apply Kd.R_drew)); exact a7.out) (Kd.S_base ho0) hb); have n2_ := Qa.mk (Kd.R_below (by (with_reducible repeat (first | apply Kd.R_alloc | apply Kd.R_drewN | apply Kd.R_drew)); exact a8.out) hb); have n3_ := Qa.mk (Kd.S_elder' (by (with_reducible repeat (first | apply Kd.S_alloc | apply Kd.S_drewN | apply Kd.S_drew)); exact b0.out) (Kd.S_base ho0) hb); have n4_ := Qa.mk (Kd.S_lower (Kd.S_new' ho0 (Kd.S_lt (by (with_reducible repeat (first | apply Kd.S_alloc | apply Kd.S_drewN | apply Kd.S_drew)); exact b0.out))) (Qh (by repeat (first | (with_reducible first | exact HB.out | apply Qc | apply Qb | apply Qd | refine Qu ?_ GE108.out) | exact HB.out)))); have n5_ := Qa.mk (Xt (g := a5) (o := .cells #[.int .i64 ((Zm a2 a0).f0), .int .i64 ((Zm a2 a0).f1)] 40 (0, 0)) (by (with_reducible repeat (first | refine Zf ?_ _ | refine Zg ?_ | refine Zb ?_ _)); exact a4.out) hb); have n6_ := Qa.mk (Kd.C_below (by repeat (first | (with_reducible exact a9.out) | (with_reducible refine Kd.C_alloc ?_ _) | (with_reducible refine Kd.C_drewN ?_ _) | (with_reducible refine Kd.C_drew ?_) | exact a9.out)) hb); have n7_ := Qa.mk (Kd.C_below (by repeat (first | (with_reducible exact b4.out) | (with_reducible refine Kd.C_alloc ?_ _) | (with_reducible refine Kd.C_drewN ?_ _) | (with_reducible refine Kd.C_drew ?_) | exact b4.out)) hb); have n8_ := Qa.mk (Qk (by repeat (first | (with_reducible first | exact HB.out | apply Qc | apply Qb | apply Qd | refine Qu ?_ GE108.out) | exact HB.out)) hb); clear a6; clear a7; clear a8; clear b0; clear a4; clear a9; clear b4; clear HB; have a6 := n0_; have a7 := n1_; have a8 := n2_; have b0 := n3_; have d8 := n4_; have a4 := n5_; have a9 := n6_; have b4 := n7_; have HB := n8_; clear n0_ n1_ n2_ n3_ n4_ n5_ n6_ n7_ n8_; (try clear hb); (try clear hb2); (try clear hk); (try clear hi); (try clear ho0); obtain ⟨g0, g1, eo33⟩ := Kd.S_slice d8.out; subst eo33) | ((with_reducible refine Zj (b := .append) (xs := #[.tmp 31, .tmp 42]) rfl ?_); at_builtin; refine Kd.R_append k45 (w0 := w) w.heap.size rfl (.tmp 31) (.tmp 42) 24 45 (.agg #[(.int .i64 0), (.int .i64 0), (.slice none 0 0)]) 40 rfl Tryz.underlying24 Qnf rfl (by decide) (by omega) u6 b1 (⟨b8, b9, b2⟩ : S45) [.int .i64 b8, .int .i64 b9, .slice g0 b2.length g1] (fun k_ => some k_ ≠ (.slice e2 b5.length e3 : Value).ownBlock) (fun k_ => ((fun k_ => some k_ ≠ (.slice e2 b5.length e3 : Value).ownBlock)) k_ ∧ some k_ ≠ (u6 : Value).ownBlock) rfl rfl ?aP (fun _ hk => hk) ?aF ?aO ?aB ?aS ?aL ?_; (case aP => exact Qhc _ _ _ (⟨b8, b9, b2⟩ : S45) (Kd.R_mono (Kd.R_apart' ((Kd.S_R d8.out)) (Kd.R_typed a7.out) (by decide)) (fun k_ hk => ⟨hk.1.2, hk.2⟩))); (case aB => exact (by repeat (first | (with_reducible first | exact HB.out | apply Qc | apply Qb | apply Qd | refine Qu ?_ GE108.out) | exact HB.out))); (case aF => exact (fun k_ hk => Kd.fresh' (Kd.S_lt (by (with_reducible repeat (first | apply Kd.S_alloc | apply Kd.S_drewN | apply Kd.S_drew)); exact b0.out)) k_ hk)); (case aO => exact (by (with_reducible repeat (first | apply Kd.R_alloc | apply Kd.R_drewN | apply Kd.R_drew)); exact Kd.R_mono a7.out (fun _ hk => hk.1.2))); (case aS => exact (Qh (by repeat (first | (with_reducible first | exact HB.out | apply Qc | apply Qb | apply Qd | refine Qu ?_ GE108.out) | exact HB.out)))); (case aL => have := f2.out; omega); intro j5 w34 ho hb hg hat; rw [← f3.out] at ho; have n0_ := Qa.mk (Kd.R_over' (by (with_reducible repeat (first | apply Kd.R_alloc | apply Kd.R_drewN | apply Kd.R_drew)); exact a6.out) (Kd.R_typed (by (with_reducible repeat (first | apply Kd.R_alloc | apply Kd.R_drewN | apply Kd.R_drew)); exact a7.out)) (by decide) hg); have n1_ := Qa.mk (Kd.R_over' (by (with_reducible repeat (first | apply Kd.R_alloc | apply Kd.R_drewN | apply Kd.R_drew)); exact a8.out) (Kd.R_typed (by (with_reducible repeat (first | apply Kd.R_alloc | apply Kd.R_drewN | apply Kd.R_drew)); exact a7.out)) (by decide) hg); have n2_ := Qa.mk (Yv (g := a5) (o := .cells #[.int .i64 ((Zm a2 a0).f0), .int .i64 ((Zm a2 a0).f1)] 40 (0, 0)) (by (with_reducible repeat (first | refine Zf ?_ _ | refine Zg ?_ | refine Zb ?_ _)); exact a4.out) hg (Kd.R_ne a7.out a4.out (by decide))); have n3_ := Qa.mk (Kd.S_over' (by (with_reducible repeat (first | apply Kd.S_alloc | apply Kd.S_drewN | apply Kd.S_drew)); exact b0.out) (Kd.R_typed (by (with_reducible repeat (first | apply Kd.R_alloc | apply Kd.R_drewN | apply Kd.R_drew)); exact a7.out)) (by decide) hg); have n4_ := Qa.mk (hb); have n5_ := Qa.mk ((show Kd.C k68 w34 Ao7 d1.length d1 from by rw [d5.out]; exact Kd.C_take (m := (((Zm a2 a0).f0) : Int).toNat) ((Kd.R_reads' (Kd.R_over' (by (with_reducible repeat (first | apply Kd.R_alloc | apply Kd.R_drewN | apply Kd.R_drew)); exact a6.out) (Kd.R_typed (by (with_reducible repeat (first | apply Kd.R_alloc | apply Kd.R_drewN | apply Kd.R_drew)); exact a7.out)) (by decide) hg)).2.2) KL26.out)); have n6_ := Qa.mk ((show Kd.C k68 w34 A31 b6.length b6 from by rw [d6.out, KA31.out]; exact Kd.C_mid (lo := (((Zm a2 a0).f0) : Int).toNat) (hi := (((Zm a2 a0).f1) : Int).toNat) (c := co7) ((Kd.R_reads' (Kd.R_over' (by (with_reducible repeat (first | apply Kd.R_alloc | apply Kd.R_drewN | apply Kd.R_drew)); exact a6.out) (Kd.R_typed (by (with_reducible repeat (first | apply Kd.R_alloc | apply Kd.R_drewN | apply Kd.R_drew)); exact a7.out)) (by decide) hg)).2.2) KM31.out KL31.out ((Kd.R_reads' (Kd.R_over' (by (with_reducible repeat (first | apply Kd.R_alloc | apply Kd.R_drewN | apply Kd.R_drew)); exact a6.out) (Kd.R_typed (by (with_reducible repeat (first | apply Kd.R_alloc | apply Kd.R_drewN | apply Kd.R_drew)); exact a7.out)) (by decide) hg)).2.1))); have n7_ := Qa.mk (ho); clear a6; clear a8; clear a4; clear b0; clear HB; clear a9; clear b4; clear a7; clear d8; have a6 := n0_; have a8 := n1_; have a4 := n2_; have b0 := n3_; have HB := n4_; have a9 := n5_; have b4 := n6_; have f7 := n7_; clear n0_ n1_ n2_ n3_ n4_ n5_ n6_ n7_; clear ho hb hg hat))
           go_roundg k1
           case measure => have := HK1.out; omega
           case rel => exact ⟨(e8), (wrap64 (a0 + 1)), (by first | rfl | (simp; done) | (simp [*]; done)), H', ⟨by have := HK1.out; omega⟩, ⟨by (with_reducible repeat (first | apply Kd.R_alloc | apply Kd.R_drewN | apply Kd.R_drew)); exact a6.out⟩, ⟨by (with_reducible repeat (first | apply Kd.R_alloc | apply Kd.R_drewN | apply Kd.R_drew)); exact Kd.R_mono f7.out (fun _ hk => trivial)⟩, ⟨by (with_reducible repeat (first | apply Kd.R_alloc | apply Kd.R_drewN | apply Kd.R_drew)); exact Kd.R_mono a8.out (fun _ hk => trivial)⟩, ⟨by repeat (first | (with_reducible first | exact HB.out | apply Qc | apply Qb | apply Qd | refine Qu ?_ GE108.out) | exact HB.out)⟩⟩
          ·rw [if_neg c21] at H
           exact absurd H (by simp)
         ·rw [if_neg c19] at H
          exact absurd H (by simp)
        ·rw [if_neg c18] at H
         exact absurd H (by simp)
       ·rw [if_neg c14] at H
        exact absurd H (by simp)
      ·rw [if_neg c13] at H
       exact absurd H (by simp)
     ·rw [if_neg c12] at H
      exact absurd H (by simp)
    ·rw [if_neg c11] at H
     exact absurd H (by simp)
   ·rw [if_neg c10] at H
    have e9 : decide (a0 < (a2.length : Int)) = false := decide_eq_false c10; clear c10; obtain rfl := Option.some.inj H
    go_wp2
    go_ret; exact ⟨_, by first | rfl | (simp [Qz, Za] <;> rfl) | (simp only [← d0]; first | rfl | (simp [Qz, Za] <;> rfl)) | (simp [*, Qz, Za] <;> rfl), by (with_reducible repeat (first | apply Kd.R_alloc | apply Kd.R_drewN | apply Kd.R_drew)); exact a7.out, by repeat (first | (with_reducible first | exact HB.out | apply Qc | apply Qb | apply Qd) | exact HB.out)⟩
def Zo.l0 : Nat → Int → List ByteArray → List (S49) → Int → Int → Option (List ByteArray)
 | 0, _, _, _, _, _ => none
 | k + 1, x1, x5, x8, x9, x10 => if x10 < x9 then (if 0 ≤ x10 then (if x10 < (x8.length : Int) then (if ((Qy x8 x10).f0) = 0 then (if x5.length + ((Qy x8 x10).f1).length < 8796093022208 then (Zo.l0 k x1 (x5 ++ ((Qy x8 x10).f1)) x8 x9 (wrap64 (x10 + 1))) else (none)) else (if ((Qy x8 x10).f0) = x1 then (if x5.length + ((Qy x8 x10).f1).length < 8796093022208 then (Zo.l0 k x1 (x5 ++ ((Qy x8 x10).f1)) x8 x9 (wrap64 (x10 + 1))) else (none)) else (Zo.l0 k x1 x5 x8 x9 (wrap64 (x10 + 1))))) else (none)) else (none)) else (some x5)
def Zo.f (k : Nat) (l0 : List (S49)) (a1 : Int) : Option (List ByteArray) := Zo.l0 k a1 ([] : List ByteArray) l0 (l0.length : Int) 0
theorem Zo.mono_l : ∀ k, (∀ y0 y1 y2 y3 y4, LeO (Zo.l0 k y0 y1 y2 y3 y4) (Zo.l0 (k + 1) y0 y1 y2 y3 y4))
 | 0 => fun _ _ _ _ _ r h => by simp [Zo.l0] at h
 | k + 1 => by
  have ih0 := Zo.mono_l k
  ·intro y0 y1 y2 y3 y4
   unfold Zo.l0
   repeat' first
   | (with_reducible exact ih0 _ _ _ _ _)
   | (with_reducible exact LeO.refl _)
   | (with_reducible exact LeO.none _)
   | (with_reducible refine LeO.ite ?_ ?_)
   | (with_reducible refine LeO.bind ?_ (fun _ => ?_))
   | exact ih0 _ _ _ _ _
   | exact LeO.none _
   | refine LeO.ite ?_ ?_
   | refine LeO.bind ?_ (fun _ => ?_)
theorem Zo.mono : ∀ a0 a1 k, LeO (Zo.f k a0 a1) (Zo.f (k + 1) a0 a1) := by
 intro a0 a1 k; have ih0 := Zo.mono_l k; unfold Zo.f
 repeat' first
   | (with_reducible exact ih0 _ _ _ _ _)
   | (with_reducible exact LeO.refl _)
   | (with_reducible exact LeO.none _)
   | (with_reducible refine LeO.ite ?_ ?_)
   | (with_reducible refine LeO.bind ?_ (fun _ => ?_))
   | exact ih0 _ _ _ _ _
   | exact LeO.none _
   | refine LeO.ite ?_ ?_
   | refine LeO.bind ?_ (fun _ => ?_)
set_option maxHeartbeats 8000000 in
set_option maxRecDepth 100000 in
theorem Zo.calls (k : Nat) (A0 : Option Addr) (c0 : Nat) (l0 : List (S49)) (a1 : Int) (r : List ByteArray) (w : World) (hr0 : Kd.C k49 w A0 l0.length l0) (hc0 : l0.length ≤ c0) (h : Zo.f k l0 a1 = some r) :
  Calls Tryz.prog 21 #[.slice A0 l0.length c0, .int .i64 a1] w fun e w' => ∃ v0_ : Value, e = .returned (v0_) ∧ Kd.R Kd.string 9 w' w.heap.size (fun _ => True) v0_ r ∧ Below w.heap.size w w' := by
 have hu49 := Tryz.underlying49; have HR0 := Qa.mk hr0; have HC0 := Qa.mk hc0; clear hr0 hc0; have HB := Qa.mk (Below.refl w.heap.size w); have H : (Zo.l0 k a1 ([] : List ByteArray) l0 (l0.length : Int) 0) = some r := h; clear h; have H' := Qa.mk H; clear H
 go_enter Tryz.func21, Tryz.ntmps21
 go_wp2
 go_loopg [5, 10] k (fun kq v5 v10 w' => ∃ (b2 : List ByteArray) (a2 : Int), v10 = .int .i64 a2 ∧ Qa (Zo.l0 kq a1 b2 l0 (l0.length : Int) a2 = some r) ∧ Qa (kq ≤ k) ∧ Qa (Kd.R Kd.string 9 w' w.heap.size (fun _ => True) v5 b2) ∧ Qa (Below w.heap.size w w'))
 case atStart => exact ⟨(([] : List ByteArray)), (0), (by first | rfl | (simp; done) | (simp [*]; done)), H', ⟨Nat.le_refl _⟩, ⟨by first | exact Kd.R_nil _ _ _ _ _ | exact Kd.N_nil _ _ _ _ _ | exact Kd.V_nil _ _ _ _ _ | exact Kd.Q_nil _ _ _ _ _ | exact Kd.S_nil _ _ _ _ _⟩, ⟨by repeat (first | (with_reducible first | exact HB.out | apply Qc | apply Qb | apply Qd) | exact HB.out)⟩⟩
 case round =>
  clear H'
  try clear c2
  try clear p2
  obtain ⟨b2, a2, rfl, HA, HK1, a7, HB⟩ := hrel
  cases gk with
  | zero => exact absurd HA.out (by simp [Zo.l0])
  | succ k1 =>
   have H := HA.out; clear HA
   simp only [Zo.l0] at H
   by_cases c3 : a2 < (l0.length : Int)
   ·rw [if_pos c3] at H
    have d8 : decide (a2 < (l0.length : Int)) = true := decide_eq_true c3; clear c3
    by_cases c4 : 0 ≤ a2
    ·rw [if_pos c4] at H
     have f6 : decide (0 ≤ a2) = true := decide_eq_true c4; clear c4
     by_cases c5 : a2 < (l0.length : Int)
     ·rw [if_pos c5] at H
      have f7 : decide (a2 < (l0.length : Int)) = true := decide_eq_true c5; clear c5
      by_cases c6 : ((Qy l0 a2).f0) = 0
      ·rw [if_pos c6] at H
       have d9 : (((Qy l0 a2).f0) == 0) = true := beq_iff_eq.mpr c6; have e0 : (((Qy l0 a2).f0) != 0) = false := bne_eq_false_iff_eq.mpr c6; clear c6
       by_cases c7 : b2.length + ((Qy l0 a2).f1).length < 8796093022208
       ·rw [if_pos c7] at H
        have e1 := Qa.mk c7; clear c7; obtain ⟨c1, b4⟩ : ∃ y_ : List ByteArray, y_ = (b2 ++ ((Qy l0 a2).f1)) := ⟨_, rfl⟩
        replace H : (Zo.l0 k1 a1 c1 l0 (l0.length : Int) (wrap64 (a2 + 1))) = some r := by first | (rw [b4]; with_reducible exact H) | (have H2_ := (Option.bind_some _ _).symm.trans H; rw [b4]; with_reducible exact H2_) | (have H2_ := (Option.bind_some _ _).symm.trans H; with_reducible exact H2_) | with_reducible exact H | (rw [b4]; exact H) | exact H
        have d1 := Qa.mk b4; clear b4; have H' := Qa.mk H; clear H; have a8 : 0 ≤ (a2 : Int) := of_decide_eq_true (by first | (with_reducible assumption) | assumption); have a9 : a2 < (l0.length : Int) := of_decide_eq_true (by first | (with_reducible assumption) | assumption); obtain ⟨b8, b0, b1, b6, a5, a6, hl101_1, hi101_1⟩ := Ug HR0.out a2 a8 a9
        cases b6; replace a5 := (HB.out.cell (World.block_lt_of_cell? w _ a5)).trans a5; replace a6 := (HB.out.cell (World.block_lt_of_cell? w _ a6)).trans a6; have b3 := Qa.mk hi101_1; have b7 := Qa.mk hl101_1; clear hi101_1 hl101_1; replace a8 := eq_true a8; replace a9 := eq_true a9; go_wp2_with (first | ((with_reducible refine Zs (N := 7) rfl ?_); refine Xd ?hg (N := 7) ?hd (cs := #[.int .i64 0, .slice none 0 0]) (t := 49) ?hr ?_; (case hd => rfl); (case hg => rfl); (case hr => first | (go_simp; done) | (go_simp; rfl)); intro a4 hg w8 hbox hb; have n0_ := Qa.mk (Kd.R_below (by (with_reducible repeat (first | apply Kd.R_alloc | apply Kd.R_drewN | apply Kd.R_drew)); exact a7.out) hb); have n1_ := Qa.mk (Qk (by repeat (first | (with_reducible first | exact HB.out | apply Qc | apply Qb | apply Qd) | exact HB.out)) hb); have n2_ := Qa.mk (hbox); have n3_ := Qa.mk ((by rw [hg]; exact (Qh (by repeat (first | (with_reducible first | exact HB.out | apply Qc | apply Qb | apply Qd) | exact HB.out))) : w.heap.size ≤ a4)); have n4_ := Qa.mk ((by rw [hg]; exact (Qh (by repeat (first | (with_reducible first | exact HB.out | apply Qc | apply Qb | apply Qd) | exact HB.out))) : w.heap.size ≤ a4)); clear a7; clear HB; have a7 := n0_; have HB := n1_; have a3 := n2_; have b9 := n3_; have GE102 := n4_; clear n0_ n1_ n2_ n3_ n4_; clear hb hbox hg; have f2 : w8.cell? ⟨a4, 0, none⟩ = some (.int .i64 0) := (Ql a3.out 0).trans rfl; have f3 : w8.cell? ⟨a4, 1, none⟩ = some (.slice none 0 0) := (Ql a3.out 1).trans rfl; have f4 := Qo a3.out 0; have f5 := Qo a3.out 1) | ((with_reducible refine Zj (b := .append) (xs := #[.tmp 23, .tmp 25]) rfl ?_); at_builtin; refine Kd.R_append_rows Kd.string (w0 := w) w.heap.size rfl (.tmp 23) (.tmp 25) 46 9 (.string ⟨#[]⟩) 16 rfl Tryz.underlying46 Vy rfl (by decide) (by omega) u5 b2 ((Qy l0 a2).f1) _ _ _ (fun _ => True) (fun _ => False) rfl rfl ?aO ?aR (fun _ _ h => h) (fun _ h => h.elim) ?aF ?aB ?aS ?aL ?_; (case aR => exact Kd.C_below b3.out (by repeat (first | (with_reducible first | exact HB.out | apply Qc | apply Qb | apply Qd | refine Qu ?_ GE102.out) | exact HB.out))); (case aB => exact (by repeat (first | (with_reducible first | exact HB.out | apply Qc | apply Qb | apply Qd | refine Qu ?_ GE102.out) | exact HB.out))); (case aF => exact (fun _ _ => trivial)); (case aO => exact (by (with_reducible repeat (first | apply Kd.R_alloc | apply Kd.R_drewN | apply Kd.R_drew)); exact Kd.R_mono (Kd.R_far (p := ⟨a4, 1, none⟩) (Kd.R_far (p := ⟨a4, 0, none⟩) (Kd.R_types a7.out a3.out (by decide)) (fun _ hk => hk.2) (.int .i64 ((Qy l0 a2).f0))) (fun _ hk => hk.2) (.slice b0 ((Qy l0 a2).f1).length b1)) (fun _ hk => trivial))); (case aS => exact (Qh (by repeat (first | (with_reducible first | exact HB.out | apply Qc | apply Qb | apply Qd | refine Qu ?_ GE102.out) | exact HB.out)))); (case aL => have := e1.out; omega); intro f8 w10 ho hb hg hat; rw [← d1.out] at ho; have n0_ := Qa.mk (Yv (g := a4) (o := .cells #[.int .i64 ((Qy l0 a2).f0), .slice b0 ((Qy l0 a2).f1).length b1] 49 (0, 0)) (by (with_reducible repeat (first | refine Zf ?_ _ | refine Zg ?_ | refine Zb ?_ _)); refine Zu (cs := #[.int .i64 ((Qy l0 a2).f0), .slice none 0 0]) ?_ 1 _ rfl; (with_reducible repeat (first | refine Zf ?_ _ | refine Zg ?_ | refine Zb ?_ _)); refine Zu (cs := #[.int .i64 0, .slice none 0 0]) ?_ 0 _ rfl; (with_reducible repeat (first | refine Zf ?_ _ | refine Zg ?_ | refine Zb ?_ _)); exact a3.out) hg (Kd.R_ne a7.out a3.out (by decide))); have n1_ := Qa.mk (hb); have n2_ := Qa.mk (ho); clear a3; clear HB; clear a7; have a3 := n0_; have HB := n1_; have d2 := n2_; clear n0_ n1_ n2_; clear ho hb hg hat))
        go_roundg k1
        case measure => have := HK1.out; omega
        case rel => exact ⟨(c1), (wrap64 (a2 + 1)), (by first | rfl | (simp; done) | (simp [*]; done)), H', ⟨by have := HK1.out; omega⟩, ⟨by (with_reducible repeat (first | apply Kd.R_alloc | apply Kd.R_drewN | apply Kd.R_drew)); exact d2.out⟩, ⟨by repeat (first | (with_reducible first | exact HB.out | apply Qc | apply Qb | apply Qd | refine Qu ?_ GE102.out) | exact HB.out)⟩⟩
       ·rw [if_neg c7] at H
        exact absurd H (by simp)
      ·rw [if_neg c6] at H
       have d9 : (((Qy l0 a2).f0) == 0) = false := beq_eq_false_iff_ne.mpr c6; have e0 : (((Qy l0 a2).f0) != 0) = true := bne_iff_ne.mpr c6
       by_cases c11 : ((Qy l0 a2).f0) = a1
       ·rw [if_pos c11] at H
        have d3 : (((Qy l0 a2).f0) == a1) = true := beq_iff_eq.mpr c11; have d4 : (((Qy l0 a2).f0) != a1) = false := bne_eq_false_iff_eq.mpr c11; clear c11
        by_cases c12 : b2.length + ((Qy l0 a2).f1).length < 8796093022208
        ·rw [if_pos c12] at H
         have d5 := Qa.mk c12; clear c12; obtain ⟨d0, b5⟩ : ∃ y_ : List ByteArray, y_ = (b2 ++ ((Qy l0 a2).f1)) := ⟨_, rfl⟩
         replace H : (Zo.l0 k1 a1 d0 l0 (l0.length : Int) (wrap64 (a2 + 1))) = some r := by first | (rw [b5]; with_reducible exact H) | (have H2_ := (Option.bind_some _ _).symm.trans H; rw [b5]; with_reducible exact H2_) | (have H2_ := (Option.bind_some _ _).symm.trans H; with_reducible exact H2_) | with_reducible exact H | (rw [b5]; exact H) | exact H
         have d6 := Qa.mk b5; clear b5; have H' := Qa.mk H; clear H; have a8 : 0 ≤ (a2 : Int) := of_decide_eq_true (by first | (with_reducible assumption) | assumption); have a9 : a2 < (l0.length : Int) := of_decide_eq_true (by first | (with_reducible assumption) | assumption); obtain ⟨b8, b0, b1, b6, a5, a6, hl101_1, hi101_1⟩ := Ug HR0.out a2 a8 a9
         cases b6; replace a5 := (HB.out.cell (World.block_lt_of_cell? w _ a5)).trans a5; replace a6 := (HB.out.cell (World.block_lt_of_cell? w _ a6)).trans a6; have b3 := Qa.mk hi101_1; have b7 := Qa.mk hl101_1; clear hi101_1 hl101_1; replace a8 := eq_true a8; replace a9 := eq_true a9; go_wp2_with (first | ((with_reducible refine Zs (N := 7) rfl ?_); refine Xd ?hg (N := 7) ?hd (cs := #[.int .i64 0, .slice none 0 0]) (t := 49) ?hr ?_; (case hd => rfl); (case hg => rfl); (case hr => first | (go_simp; done) | (go_simp; rfl)); intro a4 hg w13 hbox hb; have n0_ := Qa.mk (Kd.R_below (by (with_reducible repeat (first | apply Kd.R_alloc | apply Kd.R_drewN | apply Kd.R_drew)); exact a7.out) hb); have n1_ := Qa.mk (Qk (by repeat (first | (with_reducible first | exact HB.out | apply Qc | apply Qb | apply Qd) | exact HB.out)) hb); have n2_ := Qa.mk (hbox); have n3_ := Qa.mk ((by rw [hg]; exact (Qh (by repeat (first | (with_reducible first | exact HB.out | apply Qc | apply Qb | apply Qd) | exact HB.out))) : w.heap.size ≤ a4)); have n4_ := Qa.mk ((by rw [hg]; exact (Qh (by repeat (first | (with_reducible first | exact HB.out | apply Qc | apply Qb | apply Qd) | exact HB.out))) : w.heap.size ≤ a4)); clear a7; clear HB; have a7 := n0_; have HB := n1_; have a3 := n2_; have b9 := n3_; have GE102 := n4_; clear n0_ n1_ n2_ n3_ n4_; clear hb hbox hg; have e2 : w13.cell? ⟨a4, 0, none⟩ = some (.int .i64 0) := (Ql a3.out 0).trans rfl; have e3 : w13.cell? ⟨a4, 1, none⟩ = some (.slice none 0 0) := (Ql a3.out 1).trans rfl; have e4 := Qo a3.out 0; have e5 := Qo a3.out 1) | ((with_reducible refine Zj (b := .append) (xs := #[.tmp 23, .tmp 25]) rfl ?_); at_builtin; refine Kd.R_append_rows Kd.string (w0 := w) w.heap.size rfl (.tmp 23) (.tmp 25) 46 9 (.string ⟨#[]⟩) 16 rfl Tryz.underlying46 Vy rfl (by decide) (by omega) u5 b2 ((Qy l0 a2).f1) _ _ _ (fun _ => True) (fun _ => False) rfl rfl ?aO ?aR (fun _ _ h => h) (fun _ h => h.elim) ?aF ?aB ?aS ?aL ?_; (case aR => exact Kd.C_below b3.out (by repeat (first | (with_reducible first | exact HB.out | apply Qc | apply Qb | apply Qd | refine Qu ?_ GE102.out) | exact HB.out))); (case aB => exact (by repeat (first | (with_reducible first | exact HB.out | apply Qc | apply Qb | apply Qd | refine Qu ?_ GE102.out) | exact HB.out))); (case aF => exact (fun _ _ => trivial)); (case aO => exact (by (with_reducible repeat (first | apply Kd.R_alloc | apply Kd.R_drewN | apply Kd.R_drew)); exact Kd.R_mono (Kd.R_far (p := ⟨a4, 1, none⟩) (Kd.R_far (p := ⟨a4, 0, none⟩) (Kd.R_types a7.out a3.out (by decide)) (fun _ hk => hk.2) (.int .i64 ((Qy l0 a2).f0))) (fun _ hk => hk.2) (.slice b0 ((Qy l0 a2).f1).length b1)) (fun _ hk => trivial))); (case aS => exact (Qh (by repeat (first | (with_reducible first | exact HB.out | apply Qc | apply Qb | apply Qd | refine Qu ?_ GE102.out) | exact HB.out)))); (case aL => have := d5.out; omega); intro f9 w15 ho hb hg hat; rw [← d6.out] at ho; have n0_ := Qa.mk (Yv (g := a4) (o := .cells #[.int .i64 ((Qy l0 a2).f0), .slice b0 ((Qy l0 a2).f1).length b1] 49 (0, 0)) (by (with_reducible repeat (first | refine Zf ?_ _ | refine Zg ?_ | refine Zb ?_ _)); refine Zu (cs := #[.int .i64 ((Qy l0 a2).f0), .slice none 0 0]) ?_ 1 _ rfl; (with_reducible repeat (first | refine Zf ?_ _ | refine Zg ?_ | refine Zb ?_ _)); refine Zu (cs := #[.int .i64 0, .slice none 0 0]) ?_ 0 _ rfl; (with_reducible repeat (first | refine Zf ?_ _ | refine Zg ?_ | refine Zb ?_ _)); exact a3.out) hg (Kd.R_ne a7.out a3.out (by decide))); have n1_ := Qa.mk (hb); have n2_ := Qa.mk (ho); clear a3; clear HB; clear a7; have a3 := n0_; have HB := n1_; have d7 := n2_; clear n0_ n1_ n2_; clear ho hb hg hat))
         go_roundg k1
         case measure => have := HK1.out; omega
         case rel => exact ⟨(d0), (wrap64 (a2 + 1)), (by first | rfl | (simp; done) | (simp [*]; done)), H', ⟨by have := HK1.out; omega⟩, ⟨by (with_reducible repeat (first | apply Kd.R_alloc | apply Kd.R_drewN | apply Kd.R_drew)); exact d7.out⟩, ⟨by repeat (first | (with_reducible first | exact HB.out | apply Qc | apply Qb | apply Qd | refine Qu ?_ GE102.out) | exact HB.out)⟩⟩
        ·rw [if_neg c12] at H
         exact absurd H (by simp)
       ·rw [if_neg c11] at H
        have d3 : (((Qy l0 a2).f0) == a1) = false := beq_eq_false_iff_ne.mpr c11; have d4 : (((Qy l0 a2).f0) != a1) = true := bne_iff_ne.mpr c11; have H' := Qa.mk H; clear H; have a8 : 0 ≤ (a2 : Int) := of_decide_eq_true (by first | (with_reducible assumption) | assumption); have a9 : a2 < (l0.length : Int) := of_decide_eq_true (by first | (with_reducible assumption) | assumption); obtain ⟨b8, b0, b1, b6, a5, a6, hl101_1, hi101_1⟩ := Ug HR0.out a2 a8 a9
        cases b6; replace a5 := (HB.out.cell (World.block_lt_of_cell? w _ a5)).trans a5; replace a6 := (HB.out.cell (World.block_lt_of_cell? w _ a6)).trans a6; have b3 := Qa.mk hi101_1; have b7 := Qa.mk hl101_1; clear hi101_1 hl101_1; replace a8 := eq_true a8; replace a9 := eq_true a9; go_wp2_with (first | ((with_reducible refine Zs (N := 7) rfl ?_); refine Xd ?hg (N := 7) ?hd (cs := #[.int .i64 0, .slice none 0 0]) (t := 49) ?hr ?_; (case hd => rfl); (case hg => rfl); (case hr => first | (go_simp; done) | (go_simp; rfl)); intro a4 hg w16 hbox hb; have n0_ := Qa.mk (Kd.R_below (by (with_reducible repeat (first | apply Kd.R_alloc | apply Kd.R_drewN | apply Kd.R_drew)); exact a7.out) hb); have n1_ := Qa.mk (Qk (by repeat (first | (with_reducible first | exact HB.out | apply Qc | apply Qb | apply Qd) | exact HB.out)) hb); have n2_ := Qa.mk (hbox); have n3_ := Qa.mk ((by rw [hg]; exact (Qh (by repeat (first | (with_reducible first | exact HB.out | apply Qc | apply Qb | apply Qd) | exact HB.out))) : w.heap.size ≤ a4)); have n4_ := Qa.mk ((by rw [hg]; exact (Qh (by repeat (first | (with_reducible first | exact HB.out | apply Qc | apply Qb | apply Qd) | exact HB.out))) : w.heap.size ≤ a4)); clear a7; clear HB; have a7 := n0_; have HB := n1_; have a3 := n2_; have b9 := n3_; have GE102 := n4_; clear n0_ n1_ n2_ n3_ n4_; clear hb hbox hg; have e6 : w16.cell? ⟨a4, 0, none⟩ = some (.int .i64 0) := (Ql a3.out 0).trans rfl; have e7 : w16.cell? ⟨a4, 1, none⟩ = some (.slice none 0 0) := (Ql a3.out 1).trans rfl; have e8 := Qo a3.out 0; have e9 := Qo a3.out 1))
        go_roundg k1
        case measure => have := HK1.out; omega
        case rel => exact ⟨(b2), (wrap64 (a2 + 1)), (by first | rfl | (simp; done) | (simp [*]; done)), H', ⟨by have := HK1.out; omega⟩, ⟨by (with_reducible repeat (first | apply Kd.R_alloc | apply Kd.R_drewN | apply Kd.R_drew)); exact Kd.R_mono (Kd.R_far (p := ⟨a4, 1, none⟩) (Kd.R_far (p := ⟨a4, 0, none⟩) (Kd.R_types a7.out a3.out (by decide)) (fun _ hk => hk.2) (.int .i64 ((Qy l0 a2).f0))) (fun _ hk => hk.2) (.slice b0 ((Qy l0 a2).f1).length b1)) (fun _ hk => trivial)⟩, ⟨by repeat (first | (with_reducible first | exact HB.out | apply Qc | apply Qb | apply Qd | refine Qu ?_ GE102.out) | exact HB.out)⟩⟩
     ·rw [if_neg c5] at H
      exact absurd H (by simp)
    ·rw [if_neg c4] at H
     exact absurd H (by simp)
   ·rw [if_neg c3] at H
    have d8 : decide (a2 < (l0.length : Int)) = false := decide_eq_false c3; clear c3; obtain rfl := Option.some.inj H
    go_wp2
    go_ret; exact ⟨_, by first | rfl | (simp [Qz, Za] <;> rfl) | (simp [*, Qz, Za] <;> rfl), by (with_reducible repeat (first | apply Kd.R_alloc | apply Kd.R_drewN | apply Kd.R_drew)); exact a7.out, by repeat (first | (with_reducible first | exact HB.out | apply Qc | apply Qb | apply Qd) | exact HB.out)⟩
def Yc.f (a0 : ByteArray) (a1 : ByteArray) : Option (Bool) := if (a0.size : Int) ≥ (a1.size : Int) then (if 0 ≤ (wrap64 ((a0.size : Int) - (a1.size : Int))) then (if (wrap64 ((a0.size : Int) - (a1.size : Int))) ≤ (a0.size : Int) then (some ((a0.extract ((wrap64 ((a0.size : Int) - (a1.size : Int))) : Int).toNat a0.size).toList == a1.toList)) else (none)) else (none)) else (some false)
set_option maxHeartbeats 8000000 in
set_option maxRecDepth 100000 in
theorem Yc.calls (a0 : ByteArray) (a1 : ByteArray) (r : Bool) (w : World) (h : Yc.f a0 a1 = some r) :
  Calls Tryz.prog 68 #[.string a0, .string a1] w fun e w' => e = .returned (.bool r) ∧ Xs w w' := by
 have H : (if (a0.size : Int) ≥ (a1.size : Int) then (if 0 ≤ (wrap64 ((a0.size : Int) - (a1.size : Int))) then (if (wrap64 ((a0.size : Int) - (a1.size : Int))) ≤ (a0.size : Int) then (some ((a0.extract ((wrap64 ((a0.size : Int) - (a1.size : Int))) : Int).toNat a0.size).toList == a1.toList)) else (none)) else (none)) else (some false)) = some r := h; clear h
 by_cases c3 : (a0.size : Int) ≥ (a1.size : Int)
 ·rw [if_pos c3] at H
  have a3 : decide ((a1.size : Int) ≤ (a0.size : Int)) = true := decide_eq_true c3; have a4 : decide (a1.size ≤ a0.size) = true := decide_eq_true (Int.ofNat_le.mp c3); clear c3; obtain ⟨ji4, a2⟩ : ∃ j_ : Int, (wrap64 ((a0.size : Int) - (a1.size : Int))) = j_ := ⟨_, rfl⟩
  replace H : (if 0 ≤ (ji4) then (if (ji4) ≤ (a0.size : Int) then (some ((a0.extract ((ji4) : Int).toNat a0.size).toList == a1.toList)) else (none)) else (none)) = some r := by first | (rw [a2] at H; exact H) | (simp only [a2] at H ⊢; exact H)
  have a5 : (IntKind.i64.wrap ((a0.size : Int) - (a1.size : Int))) = ji4 := (Qp _).trans a2
  by_cases c5 : 0 ≤ (ji4)
  ·rw [if_pos c5] at H
   have a6 := eq_true c5; have a7 : decide (0 ≤ (ji4)) = true := decide_eq_true c5; clear c5
   by_cases c6 : (ji4) ≤ (a0.size : Int)
   ·rw [if_pos c6] at H
    have a8 := eq_true c6; have a9 : decide ((ji4) ≤ (a0.size : Int)) = true := decide_eq_true c6; clear c6; obtain rfl := Option.some.inj H
    go_enter Tryz.func68, Tryz.ntmps68
    go_wp2
    go_ret; exact ⟨by first | rfl | (simp; done) | (simp only [← a2] <;> (first | rfl | simp)) | (simp [*]; done), by repeat (first | exact Xs.refl _ | apply Xs.step)⟩
   ·rw [if_neg c6] at H
    exact absurd H (by simp)
  ·rw [if_neg c5] at H
   exact absurd H (by simp)
 ·rw [if_neg c3] at H
  have a3 : decide ((a1.size : Int) ≤ (a0.size : Int)) = false := decide_eq_false c3; have a4 : decide (a1.size ≤ a0.size) = false := decide_eq_false (fun h => c3 (Int.ofNat_le.mpr h)); clear c3; obtain rfl := Option.some.inj H
  go_enter Tryz.func68, Tryz.ntmps68
  go_wp2
  go_ret; exact ⟨by first | rfl | (simp; done) | (simp [*]; done), by repeat (first | exact Xs.refl _ | apply Xs.step)⟩
def Yr.f (a0 : ByteArray) (a1 : ByteArray) : Option (Bool) := (Yc.f a0 a1).bind fun a2 => (some a2)
set_option maxHeartbeats 8000000 in
set_option maxRecDepth 100000 in
theorem Yr.calls (a0 : ByteArray) (a1 : ByteArray) (r : Bool) (w : World) (h : Yr.f a0 a1 = some r) :
  Calls Tryz.prog 55 #[.string a0, .string a1] w fun e w' => e = .returned (.bool r) ∧ Xs w w' := by
 have H : ((Yc.f a0 a1).bind fun a2 => (some a2)) = some r := h; clear h; replace H := Option.bind_eq_some_iff.mp H; obtain ⟨a2, A30, H⟩ := H; replace H : (some a2) = some r := H; have A3 := Qa.mk A30; clear A30; obtain rfl := Option.some.inj H
 go_enter Tryz.func55, Tryz.ntmps55
 go_wp2_with (first | ((with_reducible refine Zx (f := 68) rfl ?_); refine Yq (some 7) rfl rfl Tryz.func68 (by kernel_rfl) rfl #[.string a0, .string a1] rfl (by (try simp only [List.map_toArray, List.map_cons, List.map_nil]); first | done | rfl | (simp only [List.length_drop, List.length_take]; rfl)) ?_; (with_reducible refine (Yc.calls a0 a1 a2 _ A3.out).mono ?_); rintro e w' ⟨rfl, ⟨nd, rfl⟩⟩; refine ⟨_, rfl, ?_⟩)); go_ret; exact ⟨by first | rfl | (simp; done) | (simp [*]; done), by repeat (first | exact Xs.refl _ | apply Xs.step)⟩
def Yf.f (a0 : ByteArray) : Option (Bool) := (Yr.f a0 (⟨#[10]⟩ : ByteArray)).bind fun a1 => (some a1)
set_option maxHeartbeats 8000000 in
set_option maxRecDepth 100000 in
theorem Yf.calls (a0 : ByteArray) (r : Bool) (w : World) (h : Yf.f a0 = some r) :
  Calls Tryz.prog 40 #[.string a0] w fun e w' => e = .returned (.bool r) ∧ Xs w w' := by
 have H : ((Yr.f a0 (⟨#[10]⟩ : ByteArray)).bind fun a1 => (some a1)) = some r := h; clear h; replace H := Option.bind_eq_some_iff.mp H; obtain ⟨a1, A20, H⟩ := H; replace H : (some a1) = some r := H; have A2 := Qa.mk A20; clear A20; obtain rfl := Option.some.inj H
 go_enter Tryz.func40, Tryz.ntmps40
 go_wp2_with (first | ((with_reducible refine Zx (f := 55) rfl ?_); refine Yq (some 4) rfl rfl Tryz.func55 (by kernel_rfl) rfl #[.string a0, .string (⟨#[10]⟩ : ByteArray)] rfl (by (try simp only [List.map_toArray, List.map_cons, List.map_nil]); first | done | rfl | (simp only [List.length_drop, List.length_take]; rfl)) ?_; (with_reducible refine (Yr.calls a0 (⟨#[10]⟩ : ByteArray) a1 _ A2.out).mono ?_); rintro e w' ⟨rfl, ⟨nd, rfl⟩⟩; refine ⟨_, rfl, ?_⟩)); go_ret; exact ⟨by first | rfl | (simp; done) | (simp [*]; done), by repeat (first | exact Xs.refl _ | apply Xs.step)⟩
end Go.Proofs.YtadafplbgophfaaGreatDoor.PA
end
section
namespace Go.Proofs.YtadafplbgophfaaGreatDoor.PA
open Go.RowKit Go.Proofs.YtadafplbgophfaaGreatDoorW.PrintWords Go.Proofs.YtadafplbgophfaaGreatDoorW.PrintLast Go.Proofs.YtadafplbgophfaaGreatDoorW.PrintMore
theorem Qay.calls (s0 : Int) (A : Option Addr) (n c : Nat) (w : World) : Calls Tryz.prog 45 #[.agg #[.int .i64 s0, .slice A n c]] w fun e w' => e = .returned (.bool (s0 != 0)) ∧ Below w.heap.size w w' := by
 have hu49 := Tryz.underlying49
 go_enter Tryz.func45, Tryz.ntmps45
 go_wp2_with ((with_reducible refine Zs (N := 1) rfl ?_); refine Xd ?hg (N := 1) ?hd (cs := #[.int .i64 s0, .slice A n c]) (t := 49) ?hr ?_; (case hd => rfl); (case hg => rfl); (case hr => first | (go_simp; done) | (go_simp; rfl)); intro f1 hg w1 hbox hb; have HB := Qa.mk hb; have z0 := (Ql hbox 0).trans (show _ = some (Value.int .i64 s0) from rfl); clear hg hbox hb); go_ret; exact ⟨rfl, by repeat (first | (with_reducible first | exact HB.out | apply Qb | apply Qd))⟩
def Uq : List S49 → Nat → Int
 | [], _ => -1
 | s :: r, i => if s.f0 ≠ 0 then (i : Int) else Uq r (i + 1)
def Yz.f (_k : Nat) (l0 : List S49) : Option Bool := some (decide (0 ≤ Uq l0 0))
theorem Yz.mono : ∀ a0 k, LeO (Yz.f k a0) (Yz.f (k + 1) a0) := fun _ _ => LeO.refl _
theorem Qhz {l : List S49} {i : Nat} (h : i < l.length) (hz : ∀ j, (hj : j < i) → (l[j]'(by omega)).f0 = 0) : ∀ b, Uq l b = Uq (l.drop i) (b + i) := by
 induction i generalizing l with
 | zero => intro b; rfl
 | succ i ih =>
  intro b
  cases l with
  | nil => simp at h
  | cons s r =>
   have h0 : s.f0 = 0 := hz 0 (by omega); rw [Uq, if_neg (by simpa using h0), List.drop_succ_cons, ih (by simpa using h) (fun j hj => hz (j + 1) (by omega)) (b + 1)]
   congr 1; omega
theorem Qia {l : List S49} (hz : ∀ s ∈ l, s.f0 = 0) : ∀ b, Uq l b = -1 := by
 induction l with
 | nil => intro b; rfl
 | cons s r ih =>
  intro b; rw [Uq, if_neg (by simpa using hz s (List.mem_cons_self ..))]; exact ih (fun x hx => hz x (List.mem_cons_of_mem _ hx)) _
set_option maxHeartbeats 8000000 in
set_option maxRecDepth 100000 in
theorem Qbc.calls (A0 : Option Addr) (c0 : Nat) (l0 : List S49) (w : World) (hr0 : Kd.C k49 w A0 l0.length l0) (hc0 : l0.length ≤ c0) :
  Calls Tryz.prog 59 #[.slice A0 l0.length c0, .func (.func 45) #[] #[]] w fun e w' => e = .returned (.int .i64 (Uq l0 0)) ∧ Below w.heap.size w w' := by
 have hu49 := Tryz.underlying49; have HR := Qa.mk hr0; have HN : Qa (l0.length ≤ 9223372036854775807) := ⟨hr0.2.1⟩; clear hr0
 go_enter Tryz.func59, Tryz.ntmps59
 go_wp2_with fail
 go_loopg [8] l0.length (fun kq v8 W => ∃ i : Nat, v8 = .int .i64 (i : Int) ∧ Qa (i + kq = l0.length) ∧ Qa (Below w.heap.size w W) ∧ Qa (∀ j, (hj : j < l0.length) → j < i → (l0[j]).f0 = 0))
 case atStart => exact ⟨0, rfl, ⟨Nat.zero_add _⟩, ⟨Below.refl _ _⟩, ⟨fun j _ h => absurd h (Nat.not_lt_zero j)⟩⟩
 case round =>
  obtain ⟨i, rfl, HI, HB, HZ⟩ := hrel
  cases gk with
  | zero =>
   have hil : ¬ i < l0.length := by have := HI.out; omega
   have lt1 : decide ((i : Int) < (l0.length : Int)) = false := decide_eq_false (by omega); have lt1n : decide (i < l0.length) = false := decide_eq_false hil; have HV : Qa (Uq l0 0 = -1) := ⟨Qia (fun s hs => by obtain ⟨j, hj, rfl⟩ := List.getElem_of_mem hs; exact HZ.out j hj (by have := HI.out; omega)) 0⟩; go_wp2_with fail; go_ret; exact ⟨by rw [HV.out]; rfl, HB.out⟩
  | succ k1 =>
   have hil : i < l0.length := by have := HI.out; omega
   have LT0 : Qa ((i : Int) < (l0.length : Int)) := ⟨by omega⟩; have lt0 : decide ((i : Int) < (l0.length : Int)) = true := decide_eq_true LT0.out; have lt0n : decide (i < l0.length) = true := decide_eq_true hil; obtain ⟨ad, A1, c1, ea, hx0, hx1, _, _⟩ := Ug HR.out (i : Int) (by omega) LT0.out
   cases ea
   rw [Qda hil, Int.toNat_natCast] at hx0 hx1
   replace hx0 := Zh HB.out hx0; replace hx1 := Zh HB.out hx1
   have HS : Qa ((l0[i]).f0 = 0 → ∀ j, (hj : j < l0.length) → j < i + 1 → (l0[j]).f0 = 0) := ⟨fun h j hj hji => by
    by_cases e : j < i
    ·exact HZ.out j hj e
    ·obtain rfl : j = i := by omega
     exact h⟩
   have HE : Qa ((l0[i]).f0 ≠ 0 → Uq l0 0 = (i : Int)) := ⟨fun h => by
    rw [Qhz hil (fun j hj => HZ.out j (by omega) hj) 0, List.drop_eq_getElem_cons hil, Uq, if_pos h, Nat.zero_add]⟩
   generalize l0[i] = s at hx0 hx1 HS HE
   have HWI : Qa (wrap64 ((i : Int) + 1) = ((i + 1 : Nat) : Int)) := ⟨by have := HN.out; unfold wrap64; omega⟩; have p0t : ((0 : Int) ≤ (i : Int)) = True := eq_true (by omega); have lt0p := eq_true LT0.out; have lt0q : (i < l0.length) = True := eq_true hil; clear HZ
   by_cases hs : s.f0 = 0
   ·have hb0 : (s.f0 != 0) = false := by rw [hs]; rfl
    have H0 := Qa.mk hs; clear hs; go_wp2_with (go_at_call 45; refine (Qay.calls s.f0 A1 s.f1.length c1 _).mono ?_; rintro e W2 ⟨rfl, hb⟩; replace HB := Qa.mk (Qk HB.out hb); clear hb hx0 hx1)
    go_roundg k1
    case measure => omega
    case rel => exact ⟨i + 1, by rw [HWI.out], ⟨by have := HI.out; omega⟩, HB, ⟨HS.out H0.out⟩⟩
   ·have hb0 : (s.f0 != 0) = true := bne_iff_ne.mpr hs
    have H0 := Qa.mk hs; clear hs; go_wp2_with (go_at_call 45; refine (Qay.calls s.f0 A1 s.f1.length c1 _).mono ?_; rintro e W2 ⟨rfl, hb⟩; replace HB := Qa.mk (Qk HB.out hb); clear hb hx0 hx1); go_ret; exact ⟨by rw [HE.out H0.out]; rfl, HB.out⟩
theorem Qac.calls (A0 : Option Addr) (c0 : Nat) (l0 : List S49) (w : World) (hr0 : Kd.C k49 w A0 l0.length l0) (hc0 : l0.length ≤ c0) :
  Calls Tryz.prog 44 #[.slice A0 l0.length c0, .func (.func 45) #[] #[]] w fun e w' => e = .returned (.bool (decide (0 ≤ Uq l0 0))) ∧ Below w.heap.size w w' := by
 have HR := Qa.mk hr0; have HC := Qa.mk hc0; clear hr0 hc0
 go_enter Tryz.func44, Tryz.ntmps44
 go_wp2_with fail; refine (Qbc.calls A0 c0 l0 _ HR.out HC.out).mono ?_; rintro e w1 ⟨rfl, hb⟩; have HB := Qa.mk hb; clear hb; go_wp2_with fail; go_ret; exact ⟨by first | rfl | simp, HB.out⟩
theorem Yz.calls (k : Nat) (A0 : Option Addr) (c0 : Nat) (l0 : List S49) (r : Bool) (w : World) (hr0 : Kd.C k49 w A0 l0.length l0) (hc0 : l0.length ≤ c0) (h : Yz.f k l0 = some r) :
  Calls Tryz.prog 32 #[.slice A0 l0.length c0] w fun e w' => e = .returned (.bool r) ∧ Below w.heap.size w w' := by
 obtain rfl := Option.some.inj h; have HR := Qa.mk hr0; have HC := Qa.mk hc0; clear hr0 hc0 h
 go_enter Tryz.func32, Tryz.ntmps32
 go_wp2_with fail; refine (Qac.calls A0 c0 l0 _ HR.out HC.out).mono ?_; rintro e w1 ⟨rfl, hb⟩; have HB := Qa.mk hb; clear hb; go_wp2_with fail; go_ret; exact ⟨rfl, HB.out⟩
end Go.Proofs.YtadafplbgophfaaGreatDoor.PA
end
section
namespace TriLcs
def lcs : List Int → List Int → Nat
 | [], _ => 0
 | _ :: _, [] => 0
 | x :: xs, y :: ys => if x = y then lcs xs ys + 1 else max (lcs (x :: xs) ys) (lcs xs (y :: ys))
termination_by a b => a.length + b.length
theorem Ur (b : List Int) : lcs [] b = 0 := by unfold lcs; rfl
theorem Uh (a : List Int) : lcs a [] = 0 := by cases a <;> (unfold lcs; rfl)
theorem Kh (x : Int) (xs ys : List Int) : lcs (x :: xs) (x :: ys) = lcs xs ys + 1 := by
 rw [lcs]; simp
theorem Jh {x y : Int} (h : x ≠ y) (xs ys : List Int) :
  lcs (x :: xs) (y :: ys) = max (lcs (x :: xs) ys) (lcs xs (y :: ys)) := by
 rw [lcs]; simp [h]
theorem Uk (a b : List Int) : ∃ s : List Int, s.Sublist a ∧ s.Sublist b ∧ s.length = lcs a b := by
 match a, b with
 | [], b => exact ⟨[], by simp, by simp, by simp [Ur]⟩
 | x :: xs, [] => exact ⟨[], by simp, by simp, by simp [Uh]⟩
 | x :: xs, y :: ys =>
  by_cases h : x = y
  ·subst h
   obtain ⟨s, h1, h2, h3⟩ := Uk xs ys; exact ⟨x :: s, h1.cons_cons x, h2.cons_cons x, by rw [Kh]; simp [h3]⟩
  ·rw [Jh h]
   by_cases hm : lcs (x :: xs) ys ≤ lcs xs (y :: ys)
   ·obtain ⟨s, h1, h2, h3⟩ := Uk xs (y :: ys)
    exact ⟨s, h1.cons x, h2, by omega⟩
   ·obtain ⟨s, h1, h2, h3⟩ := Uk (x :: xs) ys
    exact ⟨s, h1, h2.cons y, by omega⟩
termination_by a.length + b.length
theorem Qao {c : Int} {s : List Int} {x : Int} {xs : List Int} (h : (c :: s).Sublist (x :: xs)) :
  (c :: s).Sublist xs ∨ (c = x ∧ s.Sublist xs) := by
 cases h with
 | cons _ h => exact Or.inl h
 | cons_cons _ h => exact Or.inr ⟨rfl, h⟩
theorem Qds {c : Int} {s xs : List Int} (h : (c :: s).Sublist xs) : s.Sublist xs :=
 (List.sublist_cons_self c s).trans h
theorem Qbd {c : Int} {s : List Int} {x : Int} {xs : List Int} (h : (c :: s).Sublist (x :: xs)) : s.Sublist xs := by
 rcases Qao h with h | ⟨_, h⟩
 ·exact Qds h
 ·exact h
theorem Ke (a b : List Int) : ∀ s : List Int, s.Sublist a → s.Sublist b → s.length ≤ lcs a b := by
 match a, b with
 | [], b => intro s h1 _; have := h1.length_le; simp only [List.length_nil] at this; omega
 | x :: xs, [] => intro s _ h2; have := h2.length_le; simp only [List.length_nil] at this; omega
 | x :: xs, y :: ys =>
  intro s h1 h2
  match s, h1, h2 with
  | [], _, _ => simp
  | c :: s, h1, h2 =>
   by_cases h : x = y
   ·subst h
    rw [Kh]; have := Ke xs ys s (Qbd h1) (Qbd h2); simp only [List.length_cons]; omega
   ·rw [Jh h]
    rcases Qao h1 with h1' | ⟨e1, _⟩
    ·have := Ke xs (y :: ys) _ h1' h2; omega
    ·rcases Qao h2 with h2' | ⟨e2, _⟩
     ·have := Ke (x :: xs) ys _ h1 h2'; omega
     ·exact absurd (e1.symm.trans e2) h
termination_by a.length + b.length
theorem Qbi {a b c d : List Int} (h : ∀ s : List Int, s.Sublist a → s.Sublist b → ∃ t : List Int, t.Sublist c ∧ t.Sublist d ∧ s.length ≤ t.length) :
  lcs a b ≤ lcs c d := by
 obtain ⟨s, h1, h2, h3⟩ := Uk a b; obtain ⟨t, g1, g2, g3⟩ := h s h1 h2; have := Ke c d t g1 g2
 omega
theorem Vh (a b : List Int) : lcs a.reverse b.reverse = lcs a b := by
 apply Nat.le_antisymm
 ·refine Qbi fun s h1 h2 => ⟨s.reverse, ?_, ?_, by simp⟩
  ·have := h1.reverse; simpa using this
  ·have := h2.reverse; simpa using this
 ·exact Qbi fun s h1 h2 => ⟨s.reverse, h1.reverse, h2.reverse, by simp⟩
theorem Ji (a b : List Int) : lcs a b ≤ a.length := by
 obtain ⟨s, h1, _, h3⟩ := Uk a b; have := h1.length_le; omega
theorem Qdk (a b : List Int) (x : Int) : lcs (a ++ [x]) (b ++ [x]) = lcs a b + 1 := by
 rw [← Vh, List.reverse_append, List.reverse_append]; simp only [List.reverse_cons, List.reverse_nil, List.nil_append, List.singleton_append]; rw [Kh, Vh]
theorem Qdl (a b : List Int) {x y : Int} (h : x ≠ y) :
  lcs (a ++ [x]) (b ++ [y]) = max (lcs (a ++ [x]) b) (lcs a (b ++ [y])) := by
 rw [← Vh, List.reverse_append, List.reverse_append]; simp only [List.reverse_cons, List.reverse_nil, List.nil_append, List.singleton_append]; rw [Jh h]
 congr 1
 ·rw [← Vh (a ++ [x]) b]; simp
 ·rw [← Vh a (b ++ [y])]; simp
def f (A B : List Int) (x y : Nat) : Int := (x : Int) + y - 2 * (lcs (A.take x) (B.take y) : Nat)
end TriLcs
end
section
namespace Go.Proofs.YtadafplbgophfaaGreatDoor.PA
open Go.RowKit Go.Proofs.YtadafplbgophfaaGreatDoorW.PrintWords Go.Proofs.YtadafplbgophfaaGreatDoorW.PrintLast Go.Proofs.YtadafplbgophfaaGreatDoorW.PrintMore
attribute [local go_sem] Xv Xx Yl Ym Xo Xp Xw Xy
mutual
def Qe.l0 : Nat → List Int → List Int → List Int → Int → Option (Int)
 | 0, _, _, _, _ => none
 | k + 1, x0, x1, x5, x6 => if x6 < (x0.length : Int) then (if 0 ≤ (wrap64 ((x1.length : Int) + 1)) then (if (wrap64 ((x1.length : Int) + 1) : Int).toNat ≤ 35184372088832 then (Qe.l1 k x0 x1 x5 x6 (List.replicate (wrap64 ((x1.length : Int) + 1) : Int).toNat 0) 0) else (none)) else (none)) else (if 0 ≤ (x1.length : Int) then (if (x1.length : Int) < (x5.length : Int) then (some (rd x5 (x1.length : Int))) else (none)) else (none))
def Qe.l1 : Nat → List Int → List Int → List Int → Int → List Int → Int → Option (Int)
 | 0, _, _, _, _, _, _ => none
 | k + 1, x0, x1, x5, x6, x7, x8 => if x8 < (x1.length : Int) then (if 0 ≤ (wrap64 (x8 + 1)) then (if (wrap64 (x8 + 1)) < (x5.length : Int) then (if 0 ≤ x8 then (if x8 < (x7.length : Int) then (if (wrap64 (x8 + 1)) < (x7.length : Int) then ((some (x7.set ((wrap64 (x8 + 1)) : Int).toNat (mx (rd x5 (wrap64 (x8 + 1))) (rd x7 x8)) : List Int)).bind fun a9 => (if 0 ≤ x6 then (if x6 < (x0.length : Int) then (if (rd x0 x6) = (rd x1 x8) then (if x8 < (x5.length : Int) then (Qe.l1 k x0 x1 x5 x6 (a9.set ((wrap64 (x8 + 1)) : Int).toNat (wrap64 ((rd x5 x8) + 1))) (wrap64 (x8 + 1))) else (none)) else (Qe.l1 k x0 x1 x5 x6 a9 (wrap64 (x8 + 1)))) else (none)) else (none))) else (none)) else (none)) else (none)) else (none)) else (none)) else (Qe.l0 k x0 x1 x7 (wrap64 (x6 + 1)))
end
def Qe.f (k : Nat) (l0 : List Int) (l1 : List Int) : Option (Int) := if 0 ≤ (wrap64 ((l1.length : Int) + 1)) then (if (wrap64 ((l1.length : Int) + 1) : Int).toNat ≤ 35184372088832 then (Qe.l0 k l0 l1 (List.replicate (wrap64 ((l1.length : Int) + 1) : Int).toNat 0) 0) else (none)) else (none)
def Qe.T9 : Bool × List (List Nat × List Nat) := (true, [([], []), ([], []), ([1], [1]), ([], []), ([], []), ([4], [4]), ([3, 5], [3, 5]), ([6], [6]), ([], []), ([], []), ([8, 9], [8, 9]), ([10], [10]), ([7, 11], [7, 11]), ([0, 2, 0, 1, 2, 3, 4, 5, 6, 7, 8, 9, 10, 11, 12], [0, 2]), ([13, 12, 0, 1, 2, 3, 4, 5, 6, 7, 8, 9, 10, 11, 12], [12, 13])])
def Qe.B9 : List Nat := [0, 0, 2, 0, 0, 16, 56, 120, 0, 0, 768, 1792, 4088, 8191, 16383]
theorem Qe.tab9 : Yu .any (Jj Tryz.f30 9) = Qe.T9 := by kernel_rfl
theorem Qe.bits9 : Ys Qe.T9.2 Qe.B9 = true := by kernel_rfl
def Qe.T10 : Bool × List (List Nat × List Nat) := (true, [([], []), ([], []), ([0, 1], [0, 1]), ([2], [2]), ([], []), ([], []), ([4, 5], [4, 5]), ([6], [6]), ([3, 7], [3, 7])])
def Qe.B10 : List Nat := [0, 0, 3, 7, 0, 0, 48, 112, 255]
theorem Qe.tab10 : Yu .any (Jj Tryz.f30 10) = Qe.T10 := by kernel_rfl
theorem Qe.bits10 : Ys Qe.T10.2 Qe.B10 = true := by kernel_rfl
set_option maxHeartbeats 8000000 in
set_option maxRecDepth 100000 in
theorem Qe.calls (k : Nat) (A0 : Option Addr) (c0 : Nat) (l0 : List Int) (A1 : Option Addr) (c1 : Nat) (l1 : List Int) (r : Int) (w : World) (hr0 : Kd.C (Kd.int .i64) w A0 l0.length l0) (hc0 : l0.length ≤ c0) (hr1 : Kd.C (Kd.int .i64) w A1 l1.length l1) (hc1 : l1.length ≤ c1) (h : Qe.f k l0 l1 = some r) :
  Calls Tryz.prog 30 #[.slice A0 l0.length c0, .slice A1 l1.length c1] w fun e w' => e = .returned (.int .i64 r) ∧ Below w.heap.size w w' := by
 have HR0 := Qa.mk hr0; have HC0 := Qa.mk hc0; clear hr0 hc0; have HR1 := Qa.mk hr1; have HC1 := Qa.mk hc1; clear hr1 hc1; have HB := Qa.mk (Below.refl w.heap.size w); have H : (if 0 ≤ (wrap64 ((l1.length : Int) + 1)) then (if (wrap64 ((l1.length : Int) + 1) : Int).toNat ≤ 35184372088832 then (Qe.l0 k l0 l1 (List.replicate (wrap64 ((l1.length : Int) + 1) : Int).toNat 0) 0) else (none)) else (none)) = some r := h; clear h; obtain ⟨ji3, d7⟩ : ∃ j_ : Int, (wrap64 ((l1.length : Int) + 1)) = j_ := ⟨_, rfl⟩
 replace H : (if 0 ≤ (ji3) then (if (ji3 : Int).toNat ≤ 35184372088832 then (Qe.l0 k l0 l1 (List.replicate (ji3 : Int).toNat 0) 0) else (none)) else (none)) = some r := by first | (rw [d7] at H; exact H) | (simp only [d7] at H ⊢; exact H)
 have i8 : (IntKind.i64.wrap ((l1.length : Int) + 1)) = ji3 := (Qp _).trans d7
 by_cases c4 : 0 ≤ (ji3)
 ·rw [if_pos c4] at H
  have f8 := eq_true c4; have f9 : decide (0 ≤ (ji3)) = true := decide_eq_true c4; clear c4
  by_cases c5 : (ji3 : Int).toNat ≤ 35184372088832
  ·rw [if_pos c5] at H
   have g0 := eq_true c5; have g1 : decide ((ji3 : Int).toNat ≤ 35184372088832) = true := decide_eq_true c5; clear c5; obtain ⟨g2, d2⟩ : ∃ y_ : List Int, y_ = (List.replicate (ji3 : Int).toNat 0) := ⟨_, rfl⟩
   replace H : (Qe.l0 k l0 l1 g2 0) = some r := by first | (rw [d2]; with_reducible exact H) | (have H2_ := (Option.bind_some _ _).symm.trans H; rw [d2]; with_reducible exact H2_) | (have H2_ := (Option.bind_some _ _).symm.trans H; with_reducible exact H2_) | with_reducible exact H | (rw [d2]; exact H) | exact H
   have f4 := Qa.mk d2; clear d2; have H' := Qa.mk H; clear H
   go_enter Tryz.func30, Tryz.ntmps30
   go_wp2_with (first | ((with_reducible refine Zs (N := 12) rfl ?_); refine Kd.R_make (Kd.int .i64) _ 3 rfl (N := 12) rfl 58 _ _ rfl ji3 rfl rfl Tryz.underlying58 (.int .i64 0) 8 Vm rfl (by decide) (by omega) 0 (ok := fun _ => True) (okp := fun _ => True) rfl (fun _ hk => hk) trivial (of_decide_eq_true (by first | (with_reducible assumption) | assumption)) (Nat.le_trans (Nat.mul_le_mul_right _ (of_decide_eq_true (by first | (with_reducible assumption) | assumption) : ji3.toNat ≤ 35184372088832)) (by omega)) (Below.refl _ _) (Nat.le_refl _) ?_; intro k7 w6 ho7 hb hg_ hnew_; clear hg_ hnew_; (first | rw [← f4.out] at ho7 | (simp only [Int.reduceToNat] at ho7; rw [← f4.out] at ho7)); have n0_ := Qa.mk (Kd.R_lower ho7 (Qh (by repeat (first | (with_reducible first | exact HB.out | apply Qc | apply Qb | apply Qd) | exact HB.out)))); have n1_ := Qa.mk (Qk (by repeat (first | (with_reducible first | exact HB.out | apply Qc | apply Qb | apply Qd) | exact HB.out)) hb); clear HB; have g8 := n0_; have HB := n1_; clear n0_ n1_; clear hb ho7))
   go_loopg [5, 6] k (fun kq v5 v6 w' => ∃ (a2 : List Int) (a3 : Int), v6 = .int .i64 a3 ∧ Qa (Qe.l0 kq l0 l1 a2 a3 = some r) ∧ Qa (kq ≤ k) ∧ Qa (Kd.R (Kd.int .i64) 3 w' w.heap.size (fun _ => True) v5 a2) ∧ Qa (Below w.heap.size w w'))
   case atStart => exact ⟨(g2), (0), (by first | rfl | (simp; done) | (simp [*]; done)), H', ⟨Nat.le_refl _⟩, ⟨by (with_reducible repeat (first | apply Kd.R_alloc | apply Kd.R_drewN | apply Kd.R_drew)); exact g8.out⟩, ⟨by repeat (first | (with_reducible first | exact HB.out | apply Qc | apply Qb | apply Qd) | exact HB.out)⟩⟩
   case round =>
    clear H'
    try clear c1
    try clear p2
    try clear c3
    try clear c4
    try clear f8
    try clear f9
    try clear c5
    try clear g0
    try clear g1
    try clear p6
    obtain ⟨a2, a3, rfl, HA, HK1, a4, HB⟩ := hrel
    cases gk with
    | zero => exact absurd HA.out (by simp [Qe.l0])
    | succ k1 =>
     have H := HA.out; clear HA
     simp only [Qe.l0] at H
     by_cases c8 : a3 < (l0.length : Int)
     ·rw [if_pos c8] at H
      have g3 : decide (a3 < (l0.length : Int)) = true := decide_eq_true c8; clear c8
      replace H : (if 0 ≤ (ji3) then (if (ji3 : Int).toNat ≤ 35184372088832 then (Qe.l1 k1 l0 l1 a2 a3 (List.replicate (ji3 : Int).toNat 0) 0) else (none)) else (none)) = some r := by first | (rw [d7] at H; exact H) | (simp only [d7] at H ⊢; exact H) | exact H
      by_cases c9 : 0 ≤ (ji3)
      ·rw [if_pos c9] at H
       have h9 := eq_true c9; have i0 : decide (0 ≤ (ji3)) = true := decide_eq_true c9; clear c9
       by_cases c10 : (ji3 : Int).toNat ≤ 35184372088832
       ·rw [if_pos c10] at H
        have g9 := eq_true c10; have h0 : decide ((ji3 : Int).toNat ≤ 35184372088832) = true := decide_eq_true c10; clear c10; obtain ⟨g4, d3⟩ : ∃ y_ : List Int, y_ = (List.replicate (ji3 : Int).toNat 0) := ⟨_, rfl⟩
        replace H : (Qe.l1 k1 l0 l1 a2 a3 g4 0) = some r := by first | (rw [d3]; with_reducible exact H) | (have H2_ := (Option.bind_some _ _).symm.trans H; rw [d3]; with_reducible exact H2_) | (have H2_ := (Option.bind_some _ _).symm.trans H; with_reducible exact H2_) | with_reducible exact H | (rw [d3]; exact H) | exact H
        have f5 := Qa.mk d3; clear d3; have H' := Qa.mk H; clear H; go_wp2_with (first | ((with_reducible refine Zs (N := 22) rfl ?_); refine Kd.R_make (Kd.int .i64) _ 3 rfl (N := 22) rfl 58 _ _ rfl ji3 rfl rfl Tryz.underlying58 (.int .i64 0) 8 Vm rfl (by decide) (by omega) 0 (ok := fun _ => True) (okp := fun _ => True) rfl (fun _ hk => hk) trivial (of_decide_eq_true (by first | (with_reducible assumption) | assumption)) (Nat.le_trans (Nat.mul_le_mul_right _ (of_decide_eq_true (by first | (with_reducible assumption) | assumption) : ji3.toNat ≤ 35184372088832)) (by omega)) (Below.refl _ _) (Nat.le_refl _) ?_; intro g5 w11 ho12 hb hg_ hnew_; clear hg_ hnew_; (first | rw [← f5.out] at ho12 | (simp only [Int.reduceToNat] at ho12; rw [← f5.out] at ho12)); have n0_ := Qa.mk (Kd.R_elder' (by (with_reducible repeat (first | apply Kd.R_alloc | apply Kd.R_drewN | apply Kd.R_drew)); exact a4.out) (Kd.R_base ho12) hb); have n1_ := Qa.mk (Kd.R_lower (Kd.R_new' ho12 (Kd.R_lt (by (with_reducible repeat (first | apply Kd.R_alloc | apply Kd.R_drewN | apply Kd.R_drew)); exact a4.out))) (Qh (by repeat (first | (with_reducible first | exact HB.out | apply Qc | apply Qb | apply Qd) | exact HB.out)))); have n2_ := Qa.mk (Qk (by repeat (first | (with_reducible first | exact HB.out | apply Qc | apply Qb | apply Qd) | exact HB.out)) hb); clear a4; clear HB; have a4 := n0_; have h2 := n1_; have HB := n2_; clear n0_ n1_ n2_; clear hb ho12))
        go_loopg [8] k1 (fun kq v8 w' => ∃ (a6 : List Int) (a1 : Int), v8 = .int .i64 a1 ∧ Qa (Qe.l1 kq l0 l1 a2 a3 a6 a1 = some r) ∧ Qa (kq ≤ k1) ∧ Qa (Kd.R (Kd.int .i64) 3 w' w.heap.size (fun k_ => some k_ ≠ (g5 : Value).ownBlock) u5 a2) ∧ Qa (Kd.R (Kd.int .i64) 3 w' w.heap.size (fun k_ => some k_ ≠ (u5 : Value).ownBlock) g5 a6) ∧ Qa (Below w.heap.size w w'))
        case atStart => exact ⟨(g4), (0), (by first | rfl | (simp; done) | (simp [*]; done)), H', ⟨Nat.le_refl _⟩, ⟨by (with_reducible repeat (first | apply Kd.R_alloc | apply Kd.R_drewN | apply Kd.R_drew)); exact Kd.R_mono a4.out (fun _ hk => hk.2)⟩, ⟨by (with_reducible repeat (first | apply Kd.R_alloc | apply Kd.R_drewN | apply Kd.R_drew)); exact Kd.R_mono h2.out (fun _ hk => hk.2)⟩, ⟨by repeat (first | (with_reducible first | exact HB.out | apply Qc | apply Qb | apply Qd) | exact HB.out)⟩⟩
        case round =>
         clear H'
         try clear c1
         try clear p2
         try clear c3
         try clear c4
         try clear f8
         try clear f9
         try clear c5
         try clear g0
         try clear g1
         try clear p6
         try clear c8
         try clear g3
         try clear c9
         try clear h9
         try clear i0
         try clear c10
         try clear g9
         try clear h0
         try clear p2
         try clear p6
         obtain ⟨a6, a1, rfl, HA, HK2, a4, a5, HB⟩ := hrel
         cases gk with
         | zero => exact absurd HA.out (by simp [Qe.l1])
         | succ k2 =>
          have H := HA.out; clear HA
          simp only [Qe.l1] at H
          by_cases c13 : a1 < (l1.length : Int)
          ·rw [if_pos c13] at H
           have h3 : decide (a1 < (l1.length : Int)) = true := decide_eq_true c13; clear c13; obtain ⟨a0, d4⟩ : ∃ j_ : Int, (wrap64 (a1 + 1)) = j_ := ⟨_, rfl⟩
           replace H : (if 0 ≤ (a0) then (if (a0) < (a2.length : Int) then (if 0 ≤ a1 then (if a1 < (a6.length : Int) then (if (a0) < (a6.length : Int) then ((some (a6.set ((a0) : Int).toNat (mx (rd a2 (a0)) (rd a6 a1)) : List Int)).bind fun a9 => (if 0 ≤ a3 then (if a3 < (l0.length : Int) then (if (rd l0 a3) = (rd l1 a1) then (if a1 < (a2.length : Int) then (Qe.l1 k2 l0 l1 a2 a3 (a9.set ((a0) : Int).toNat (wrap64 ((rd a2 a1) + 1))) a0) else (none)) else (Qe.l1 k2 l0 l1 a2 a3 a9 a0)) else (none)) else (none))) else (none)) else (none)) else (none)) else (none)) else (none)) = some r := by first | (rw [d4] at H; exact H) | (simp only [d4] at H ⊢; exact H)
           have i5 : (IntKind.i64.wrap (a1 + 1)) = a0 := (Qp _).trans d4
           by_cases c15 : 0 ≤ (a0)
           ·rw [if_pos c15] at H
            have i9 : decide (0 ≤ (a0)) = true := decide_eq_true c15; clear c15
            by_cases c16 : (a0) < (a2.length : Int)
            ·rw [if_pos c16] at H
             have j0 : decide ((a0) < (a2.length : Int)) = true := decide_eq_true c16; clear c16
             by_cases c17 : 0 ≤ a1
             ·rw [if_pos c17] at H
              have j2 : decide (0 ≤ a1) = true := decide_eq_true c17; clear c17
              by_cases c18 : a1 < (a6.length : Int)
              ·rw [if_pos c18] at H
               have j3 : decide (a1 < (a6.length : Int)) = true := decide_eq_true c18; clear c18; obtain ⟨b0, e1⟩ : ∃ j_ : Int, (mx (rd a2 (a0)) (rd a6 a1)) = j_ := ⟨_, rfl⟩
               replace H : (if (a0) < (a6.length : Int) then ((some (a6.set ((a0) : Int).toNat (b0) : List Int)).bind fun a9 => (if 0 ≤ a3 then (if a3 < (l0.length : Int) then (if (rd l0 a3) = (rd l1 a1) then (if a1 < (a2.length : Int) then (Qe.l1 k2 l0 l1 a2 a3 (a9.set ((a0) : Int).toNat (wrap64 ((rd a2 a1) + 1))) a0) else (none)) else (Qe.l1 k2 l0 l1 a2 a3 a9 a0)) else (none)) else (none))) else (none)) = some r := by first | (rw [e1] at H; exact H) | (simp only [e1] at H ⊢; exact H)
               have i6 : (if (rd a2 (a0)) < (rd a6 a1) then (rd a6 a1) else (rd a2 (a0))) = b0 := e1
               by_cases c20 : (a0) < (a6.length : Int)
               ·rw [if_pos c20] at H
                have j4 : decide ((a0) < (a6.length : Int)) = true := decide_eq_true c20; clear c20; obtain ⟨a9, d5⟩ : ∃ y_ : List Int, y_ = (a6.set ((a0) : Int).toNat (b0)) := ⟨_, rfl⟩
                replace H : (if 0 ≤ a3 then (if a3 < (l0.length : Int) then (if (rd l0 a3) = (rd l1 a1) then (if a1 < (a2.length : Int) then (Qe.l1 k2 l0 l1 a2 a3 (a9.set ((a0) : Int).toNat (wrap64 ((rd a2 a1) + 1))) a0) else (none)) else (Qe.l1 k2 l0 l1 a2 a3 a9 a0)) else (none)) else (none)) = some r := by first | (rw [d5]; with_reducible exact H) | (have H2_ := (Option.bind_some _ _).symm.trans H; rw [d5]; with_reducible exact H2_) | (have H2_ := (Option.bind_some _ _).symm.trans H; with_reducible exact H2_) | with_reducible exact H | (rw [d5]; exact H) | exact H
                have f6 := Qa.mk d5; clear d5
                by_cases c22 : 0 ≤ a3
                ·rw [if_pos c22] at H
                 have j5 : decide (0 ≤ a3) = true := decide_eq_true c22; clear c22
                 by_cases c23 : a3 < (l0.length : Int)
                 ·rw [if_pos c23] at H
                  have j6 : decide (a3 < (l0.length : Int)) = true := decide_eq_true c23; clear c23
                  by_cases c24 : (rd l0 a3) = (rd l1 a1)
                  ·rw [if_pos c24] at H
                   have h4 : ((rd l0 a3) == (rd l1 a1)) = true := beq_iff_eq.mpr c24; have h5 : ((rd l0 a3) != (rd l1 a1)) = false := bne_eq_false_iff_eq.mpr c24; clear c24
                   by_cases c25 : a1 < (a2.length : Int)
                   ·rw [if_pos c25] at H
                    have j7 : decide (a1 < (a2.length : Int)) = true := decide_eq_true c25; clear c25; obtain ⟨e4, d6⟩ : ∃ y_ : List Int, y_ = (a9.set ((a0) : Int).toNat (wrap64 ((rd a2 a1) + 1))) := ⟨_, rfl⟩
                    replace H : (Qe.l1 k2 l0 l1 a2 a3 e4 a0) = some r := by first | (rw [d6]; with_reducible exact H) | (have H2_ := (Option.bind_some _ _).symm.trans H; rw [d6]; with_reducible exact H2_) | (have H2_ := (Option.bind_some _ _).symm.trans H; with_reducible exact H2_) | with_reducible exact H | (rw [d6]; exact H) | exact H
                    have h6 := Qa.mk d6; clear d6; have H' := Qa.mk H; clear H
                    try go_wp2
                    have n0_ := Qa.mk (Kd.R_drew a4.out); have n1_ := Qa.mk (Kd.R_drew a5.out); have n2_ := Qa.mk (Qd HB.out); clear a4; clear a5; clear HB; have a4 := n0_; have a5 := n1_; have HB := n2_; clear n0_ n1_ n2_; obtain ⟨k8, e5, eo28⟩ := Kd.R_slice a4.out
                    (first | subst eo28 | (injection eo28 with f1_ f2_ f3_; have f4_ := f1_.symm; have f5_ := f3_.symm; clear f1_ f2_ f3_; subst f4_; subst f5_))
                    have b4 : 0 ≤ ((a0) : Int) := of_decide_eq_true (by first | (with_reducible assumption) | assumption); have b5 : (a0) < (a2.length : Int) := of_decide_eq_true (by first | (with_reducible assumption) | assumption); obtain ⟨b2, e6, b3⟩ := Kd.at_int (Kd.R_reads' a4.out).2.2 (a0) b4 b5
                    cases e6; replace b4 := eq_true b4; replace b5 := eq_true b5; obtain ⟨k9, d8, eo29⟩ := Kd.R_slice a5.out
                    (first | subst eo29 | (injection eo29 with f1_ f2_ f3_; have f4_ := f1_.symm; have f5_ := f3_.symm; clear f1_ f2_ f3_; subst f4_; subst f5_))
                    have b6 : 0 ≤ (a1 : Int) := of_decide_eq_true (by first | (with_reducible assumption) | assumption); have b7 : a1 < (a6.length : Int) := of_decide_eq_true (by first | (with_reducible assumption) | assumption); obtain ⟨h7, e7, b1⟩ := Kd.at_int (Kd.R_reads' a5.out).2.2 a1 b6 b7
                    cases e7; replace b6 := eq_true b6; replace b7 := eq_true b7; have p21 : 0 ≤ ((a0) : Int) := of_decide_eq_true (by first | (with_reducible assumption) | assumption); have q21 : ((a0) : Int) < ((a6.length : Int) : Int) := of_decide_eq_true (by first | (with_reducible assumption) | assumption); obtain ⟨go21, i1, eo21, d9, gl21, cl21, HG21⟩ := Kd.R_form a5.out (by omega)
                    (first | cases eo21 | (injection eo21 with ea_ en_ ec_; (first | subst ea_ | (injection ea_ with ea_; subst ea_)); subst ec_; clear en_))
                    have GB21 := Qa.mk d9; have GG21 := Qa.mk HG21; clear d9 gl21 HG21
                    (first | simp only [Yt] at b1 | skip)
                    obtain ⟨e0, hf21_0⟩ := Kd.R_celln 0 a5.out ((a0) : Int) p21 q21; replace p21 := eq_true p21; replace q21 := eq_true q21; have HP30 := Kd.R_putn a5.out ((a0) : Int) b0
                    rw [← f6.out] at HP30
                    have HQ30 := Qa.mk HP30; clear HP30; refine Vo (n := 15) (S := fun w' => w'.cell? (b2.add ((a0)).toNat) = some (.int .i64 (rd a2 (a0))) ∧ w'.cell? ⟨go21, (a1).toNat, none⟩ = some (.int .i64 (rd a6 a1))) (ds := [14]) (bz_ 15 0) (by kernel_rfl) rfl rfl ⟨b3, b1⟩ (fun hHeld => ?_); refine Yd Qe.tab9 Qe.bits9 (fun HT_ HW_ => ?_)
                    generalize wr.drew = w27 at a4 a5 HB GG21 HQ30 hf21_0 b3 b1 e0 hHeld ⊢
                    refine Qx (i := 0) (N := some 29) (v := ?_) (a' := ?_) (bz_ 15 1) rfl rfl (Qs HT_.out (by kernel_rfl)) (fun _ _ _ h => h) (Or.inl ⟨by rfl, ?_⟩) ?_ ?_; rotate_left
                    ·intro w'
                     go_simp
                     with_reducible rfl
                    rotate_left
                    ·simp only [Act.put, sA_, sB_, sC_, Qp, Qr]
                     rfl
                    refine Qx (i := 1) (N := some 30) (v := ?_) (a' := ?_) (bz_ 15 3) rfl rfl (Qs HT_.out (by kernel_rfl)) (fun _ _ _ h => h) (Or.inl ⟨by rfl, ?_⟩) ?_ ?_; rotate_left
                    ·intro w'
                     go_simp
                     with_reducible rfl
                    rotate_left
                    ·simp only [Act.put, sA_, sB_, sC_, Qp, Qr]
                     rfl
                    refine Qx (i := 2) (N := some 31) (v := ?_) (a' := ?_) (bz_ 15 7) rfl rfl (Qs HT_.out (by kernel_rfl)) (fun _ _ _ h => h) (Or.inl ⟨by rfl, ?_⟩) ?_ ?_; rotate_left
                    ·intro w'
                     go_simp
                     with_reducible rfl
                    rotate_left
                    ·simp only [Act.put, sA_, sB_, sC_, Qp, Qr]
                     rfl
                    refine Qx (i := 3) (N := some 32) (v := ?_) (a' := ?_) (bz_ 15 15) rfl rfl (Qs HT_.out (by kernel_rfl)) (fun _ _ _ h => h) (Or.inl ⟨by rfl, ?_⟩) ?_ ?_; rotate_left
                    ·intro w'
                     go_simp
                     with_reducible rfl
                    rotate_left
                    ·simp only [Act.put, sA_, sB_, sC_, Qp, Qr]
                     rfl
                    refine Qx (i := 4) (N := some 33) (v := ?_) (a' := ?_) (bz_ 15 31) rfl rfl (Qs HT_.out (by kernel_rfl)) (fun _ _ _ h => h) (Or.inl ⟨by rfl, ?_⟩) ?_ ?_; rotate_left
                    ·intro w'
                     go_simp
                     with_reducible rfl
                    rotate_left
                    ·simp only [Act.put, sA_, sB_, sC_, Qp, Qr]
                     rfl
                    refine Qx (i := 5) (N := some 34) (v := ?_) (a' := ?_) (bz_ 15 63) rfl rfl (Qs HT_.out (by kernel_rfl)) (fun _ _ _ h => h) (Or.inl ⟨by rfl, ?_⟩) ?_ ?_; rotate_left
                    ·intro w'
                     go_simp
                     with_reducible rfl
                    rotate_left
                    ·simp only [Act.put, sA_, sB_, sC_, Qp, Qr]
                     rfl
                    refine Qx (i := 6) (N := some 35) (v := ?_) (a' := ?_) (bz_ 15 127) rfl rfl (Qs HT_.out (by kernel_rfl)) (fun _ _ _ h => h) (Or.inl ⟨by rfl, ?_⟩) ?_ ?_; rotate_left
                    ·intro w'
                     go_simp
                     with_reducible rfl
                    rotate_left
                    ·simp only [Act.put, sA_, sB_, sC_, Qp, Qr]
                     rfl
                    refine Qx (i := 8) (N := some 37) (v := ?_) (a' := ?_) (bz_ 15 383) rfl rfl (Qs HT_.out (by kernel_rfl)) (fun _ _ _ h => h) (Or.inl ⟨by rfl, ?_⟩) ?_ ?_; rotate_left
                    ·intro w'
                     go_simp
                     with_reducible rfl
                    rotate_left
                    ·simp only [Act.put, sA_, sB_, sC_, Qp, Qr]
                     rfl
                    refine Qx (i := 9) (N := some 38) (v := ?_) (a' := ?_) (bz_ 15 895) rfl rfl (Qs HT_.out (by kernel_rfl)) (fun _ _ _ h => h) (Or.inl ⟨by rfl, ?_⟩) ?_ ?_; rotate_left
                    ·intro w'
                     go_simp
                     with_reducible rfl
                    rotate_left
                    ·simp only [Act.put, sA_, sB_, sC_, Qp, Qr]
                     rfl
                    refine Qx (i := 10) (N := some 39) (v := ?_) (a' := ?_) (bz_ 15 1919) rfl rfl (Qs HT_.out (by kernel_rfl)) (fun _ _ _ h => h) (Or.inl ⟨by rfl, ?_⟩) ?_ ?_; rotate_left
                    ·intro w'
                     go_simp
                     with_reducible rfl
                    rotate_left
                    ·simp only [Act.put, sA_, sB_, sC_, Qp, Qr]
                     rfl
                    refine take_ (i := 7) (N := some 36) (v := ?_) (a' := ?_) (bz_ 15 2047) rfl rfl (Xb HT_.out HW_.out (by kernel_rfl)) (fun _ _ _ h => h) (Or.inl ⟨by rfl, ?_⟩) hHeld ?_ ?_; rotate_left
                    ·rintro w' ⟨s0, s1⟩
                     go_simp
                     with_reducible rfl
                    rotate_left
                    ·simp only [Act.put, sA_, sB_, sC_, Qp, Qr]
                     rfl
                    refine take_ (i := 11) (N := some 40) (v := ?_) (a' := ?_) (bz_ 15 4095) rfl rfl (Xb HT_.out HW_.out (by kernel_rfl)) (fun _ _ _ h => h) (Or.inl ⟨by rfl, ?_⟩) hHeld ?_ ?_; rotate_left
                    ·rintro w' ⟨s0, s1⟩
                     go_simp
                     with_reducible rfl
                    rotate_left
                    ·simp only [Act.put, sA_, sB_, sC_, Qp, Qr]
                     rfl
                    refine Qx (i := 12) (N := some 41) (v := ?_) (a' := ?_) (bz_ 15 8191) rfl rfl (Qs HT_.out (by kernel_rfl)) (fun _ _ _ h => h) (Or.inl ⟨by rfl, ?_⟩) ?_ ?_; rotate_left
                    ·intro w'
                     go_simp
                     with_reducible rfl
                    rotate_left
                    ·simp only [Act.put, sA_, sB_, sC_, Qp, Qr]
                     rfl
                    refine Qx (i := 13) (N := some 42) (v := ?_) (a' := ?_) (bz_ 15 16383) rfl rfl (Qs HT_.out (by kernel_rfl)) (fun _ _ _ h => h) (Or.inl ⟨by rfl, ?_⟩) ?_ ?_; rotate_left
                    ·intro w'
                     go_simp
                     with_reducible rfl
                    rotate_left
                    ·simp only [Act.put, sA_, sB_, sC_, Qp, Qr]
                     rfl
                    refine Km (i := 14) (N := none) (bz_ 15 32767) rfl rfl (Ye HT_.out (by kernel_rfl)) (by decide) (fun K hK => ?_); refine Qfm (w1 := ?_) (by rfl) rfl ?_ ?_; rotate_left
                    ·go_simp
                     rfl
                    refine hK.out _ _ ?_; clear hK K; refine Un (Vb HT_.out (by kernel_rfl)) ?_
                    try go_wp2
                    have n0_ : Qa (Kd.R (Kd.int .i64) 3 (w27.setCell ⟨go21, ((a0) : Int).toNat, none⟩ (.int .i64 b0)) w.heap.size (fun k_ => some k_ ≠ (.slice (some ⟨go21, 0, none⟩) a6.length d8 : Value).ownBlock) (.slice (some b2) a2.length e5) a2) := ⟨by (with_reducible repeat (first | apply Kd.R_alloc | apply Kd.R_drewN | apply Kd.R_drew)); exact Kd.R_mono (Kd.R_far (p := ⟨go21, ((a0) : Int).toNat, none⟩) (Kd.R_mono a4.out (fun k_ hk => (⟨hk, fun e_ => hk (by rw [e_]; rfl)⟩ : _ ∧ k_ ≠ go21))) (fun _ hk => hk.2) (.int .i64 b0)) (fun _ hk => hk.1)⟩; have n1_ : Qa (Kd.R (Kd.int .i64) 3 (w27.setCell ⟨go21, ((a0) : Int).toNat, none⟩ (.int .i64 b0)) w.heap.size (fun k_ => some k_ ≠ (.slice (some b2) a2.length e5 : Value).ownBlock) (.slice (some ⟨go21, 0, none⟩) a6.length d8) a9) := ⟨by (with_reducible repeat (first | apply Kd.R_alloc | apply Kd.R_drewN | apply Kd.R_drew)); exact HQ30.out⟩; have n2_ : Qa (Below w.heap.size w (w27.setCell ⟨go21, ((a0) : Int).toNat, none⟩ (.int .i64 b0))) := ⟨by repeat (first | (with_reducible first | exact HB.out | apply Qc | apply Qb | apply Qd | refine Qu ?_ GB21.out) | exact HB.out)⟩
                    (try clear a4)
                    (try clear a5)
                    (try clear HB)
                    generalize (w27.setCell ⟨go21, ((a0) : Int).toNat, none⟩ (.int .i64 b0)) = w31 at n0_ n1_ n2_ ⊢
                    have a4 := n0_; have a5 := n1_; have HB := n2_; clear n0_ n1_ n2_; have n0_ := Qa.mk (Kd.R_drew a4.out); have n1_ := Qa.mk (Kd.R_drew a5.out); have n2_ := Qa.mk (Qd HB.out); clear a4; clear a5; clear HB; have a4 := n0_; have a5 := n1_; have HB := n2_; clear n0_ n1_ n2_; have b8 : 0 ≤ (a3 : Int) := of_decide_eq_true (by first | (with_reducible assumption) | assumption); have b9 : a3 < (l0.length : Int) := of_decide_eq_true (by first | (with_reducible assumption) | assumption); obtain ⟨e2, e8, a7⟩ := Kd.at_int HR0.out a3 b8 b9; have hw111_0 := a7
                    cases e8; replace a7 := (HB.out.cell (World.block_lt_of_cell? w _ a7)).trans a7; replace b8 := eq_true b8; replace b9 := eq_true b9; have d0 : 0 ≤ (a1 : Int) := of_decide_eq_true (by first | (with_reducible assumption) | assumption); have d1 : a1 < (l1.length : Int) := of_decide_eq_true (by first | (with_reducible assumption) | assumption); obtain ⟨e3, e9, a8⟩ := Kd.at_int HR1.out a1 d0 d1; have hw112_0 := a8
                    cases e9; replace a8 := (HB.out.cell (World.block_lt_of_cell? w _ a8)).trans a8; replace d0 := eq_true d0; replace d1 := eq_true d1; refine Vo (n := 9) (S := fun w' => w'.cell? (e2.add (a3).toNat) = some (.int .i64 (rd l0 a3)) ∧ w'.cell? (e3.add (a1).toNat) = some (.int .i64 (rd l1 a1))) (ds := []) (bz_ 9 0) (by kernel_rfl) rfl rfl ⟨((HB.out.cell (World.block_lt_of_cell? w _ hw111_0)).trans hw111_0), ((HB.out.cell (World.block_lt_of_cell? w _ hw112_0)).trans hw112_0)⟩ (fun hHeld => ?_); refine Yd Qe.tab10 Qe.bits10 (fun HT_ HW_ => ?_)
                    generalize w31.drew = w32 at a4 a5 HB HQ30 a7 a8 hHeld ⊢
                    refine Qx (i := 0) (N := some 43) (v := ?_) (a' := ?_) (bz_ 9 1) rfl rfl (Qs HT_.out (by kernel_rfl)) (fun _ _ _ h => h) (Or.inl ⟨by rfl, ?_⟩) ?_ ?_; rotate_left
                    ·intro w'
                     go_simp
                     with_reducible rfl
                    rotate_left
                    ·simp only [Act.put, sA_, sB_, sC_, Qp, Qr]
                     rfl
                    refine Qx (i := 1) (N := some 44) (v := ?_) (a' := ?_) (bz_ 9 3) rfl rfl (Qs HT_.out (by kernel_rfl)) (fun _ _ _ h => h) (Or.inl ⟨by rfl, ?_⟩) ?_ ?_; rotate_left
                    ·intro w'
                     go_simp
                     with_reducible rfl
                    rotate_left
                    ·simp only [Act.put, sA_, sB_, sC_, Qp, Qr]
                     rfl
                    refine Qx (i := 2) (N := some 45) (v := ?_) (a' := ?_) (bz_ 9 7) rfl rfl (Qs HT_.out (by kernel_rfl)) (fun _ _ _ h => h) (Or.inl ⟨by rfl, ?_⟩) ?_ ?_; rotate_left
                    ·intro w'
                     go_simp
                     with_reducible rfl
                    rotate_left
                    ·simp only [Act.put, sA_, sB_, sC_, Qp, Qr]
                     rfl
                    refine Qx (i := 4) (N := some 47) (v := ?_) (a' := ?_) (bz_ 9 23) rfl rfl (Qs HT_.out (by kernel_rfl)) (fun _ _ _ h => h) (Or.inl ⟨by rfl, ?_⟩) ?_ ?_; rotate_left
                    ·intro w'
                     go_simp
                     with_reducible rfl
                    rotate_left
                    ·simp only [Act.put, sA_, sB_, sC_, Qp, Qr]
                     rfl
                    refine Qx (i := 5) (N := some 48) (v := ?_) (a' := ?_) (bz_ 9 55) rfl rfl (Qs HT_.out (by kernel_rfl)) (fun _ _ _ h => h) (Or.inl ⟨by rfl, ?_⟩) ?_ ?_; rotate_left
                    ·intro w'
                     go_simp
                     with_reducible rfl
                    rotate_left
                    ·simp only [Act.put, sA_, sB_, sC_, Qp, Qr]
                     rfl
                    refine Qx (i := 6) (N := some 49) (v := ?_) (a' := ?_) (bz_ 9 119) rfl rfl (Qs HT_.out (by kernel_rfl)) (fun _ _ _ h => h) (Or.inl ⟨by rfl, ?_⟩) ?_ ?_; rotate_left
                    ·intro w'
                     go_simp
                     with_reducible rfl
                    rotate_left
                    ·simp only [Act.put, sA_, sB_, sC_, Qp, Qr]
                     rfl
                    refine take_ (i := 3) (N := some 46) (v := ?_) (a' := ?_) (bz_ 9 127) rfl rfl (Xb HT_.out HW_.out (by kernel_rfl)) (fun _ _ _ h => h) (Or.inl ⟨by rfl, ?_⟩) hHeld ?_ ?_; rotate_left
                    ·rintro w' ⟨s0, s1⟩
                     go_simp
                     with_reducible rfl
                    rotate_left
                    ·simp only [Act.put, sA_, sB_, sC_, Qp, Qr]
                     rfl
                    refine take_ (i := 7) (N := some 50) (v := ?_) (a' := ?_) (bz_ 9 255) rfl rfl (Xb HT_.out HW_.out (by kernel_rfl)) (fun _ _ _ h => h) (Or.inl ⟨by rfl, ?_⟩) hHeld ?_ ?_; rotate_left
                    ·rintro w' ⟨s0, s1⟩
                     go_simp
                     with_reducible rfl
                    rotate_left
                    ·simp only [Act.put, sA_, sB_, sC_, Qp, Qr]
                     rfl
                    refine Qx (i := 8) (N := some 51) (v := ?_) (a' := ?_) (bz_ 9 511) rfl rfl (Qs HT_.out (by kernel_rfl)) (fun _ _ _ h => h) (Or.inl ⟨by rfl, ?_⟩) ?_ ?_; rotate_left
                    ·intro w'
                     go_simp
                     with_reducible rfl
                    rotate_left
                    ·simp only [Act.put, sA_, sB_, sC_, Qp, Qr]
                     rfl
                    refine Un (Vb HT_.out (by kernel_rfl)) ?_; have f0 : 0 ≤ (a1 : Int) := of_decide_eq_true (by first | (with_reducible assumption) | assumption); have f1 : a1 < (a2.length : Int) := of_decide_eq_true (by first | (with_reducible assumption) | assumption); obtain ⟨h8, i2, i4⟩ := Kd.at_int (Kd.R_reads' a4.out).2.2 a1 f0 f1; obtain rfl : b2 = h8 := (by injection i2); replace f0 := eq_true f0; replace f1 := eq_true f1; have p26 : 0 ≤ ((a0) : Int) := of_decide_eq_true (by first | (with_reducible assumption) | assumption); have q26 : ((a0) : Int) < ((a6.length : Int) : Int) := of_decide_eq_true (by first | (with_reducible assumption) | assumption); obtain ⟨i7, hf26_0⟩ := Kd.R_celln 0 a5.out ((a0) : Int) p26 q26; replace p26 := eq_true p26; replace q26 := eq_true q26; obtain ⟨j8, hz33_⟩ := Kd.R_celln 0 a5.out ((a0) : Int) (of_decide_eq_true (by first | (with_reducible assumption) | assumption)) (of_decide_eq_true (by first | (with_reducible assumption) | assumption)); have HP33 := Kd.R_putg a5.out ((a0) : Int) (wrap64 ((rd a2 a1) + 1))
                    try go_wp2_with (first | ((with_reducible refine Kw (t := 3) (p := 60) rfl ?_); refine Kj (t := 3) (p := 60) (v := ?vo_w34) (w1 := (w32.setCell ⟨go21, ((a0) : Int).toNat, none⟩ (.int .i64 (wrap64 ((rd a2 a1) + 1))))) ?hg ?ho ?hn ?hr ?_; (case ho => rfl); (case hg => rfl); (case hn => rfl); (case hr => first | (go_simp; done) | (go_simp; rfl)); intro w34 hw; have hg : w32.grownBy w34 (some go21) := (by rw [hw]; exact HP33.2); have hp_ : Kd.R (Kd.int .i64) 3 w34 w.heap.size (fun k_ => some k_ ≠ (.slice (some b2) a2.length e5 : Value).ownBlock) (.slice (some ⟨go21, 0, none⟩) a6.length d8) e4 := (by rw [hw, h6.out]; exact HP33.1); clear HP33; have n0_ := Qa.mk (Kd.R_after (v := (.slice (some ⟨go21, 0, none⟩) a6.length d8)) (v1 := (.slice (some ⟨go21, 0, none⟩) a6.length d8)) (ok := (fun _ => True)) (by (with_reducible repeat (first | apply Kd.R_alloc | apply Kd.R_drewN | apply Kd.R_drew)); exact Kd.R_mono a4.out (fun _ hk => ⟨trivial, hk⟩)) hg (.inl rfl)); have n1_ := Qa.mk (hp_); have n2_ := Qa.mk ((by rw [hw]; exact Qu (HB.out) GB21.out : Below w.heap.size w w34)); clear a4; clear a5; clear HB; have a4 := n0_; have a5 := n1_; have HB := n2_; clear n0_ n1_ n2_; clear hg hw hp_))
                    go_roundg k2
                    case measure => have := HK1.out; have := HK2.out; omega
                    case rel => exact ⟨(e4), (a0), (by first | rfl | (simp; done) | (simp only [← d4] <;> (first | rfl | simp)) | (simp [*]; done)), H', ⟨by have := HK1.out; have := HK2.out; omega⟩, ⟨by (with_reducible repeat (first | apply Kd.R_alloc | apply Kd.R_drewN | apply Kd.R_drew)); exact Kd.R_mono a4.out (fun _ hk => hk.2)⟩, ⟨by (with_reducible repeat (first | apply Kd.R_alloc | apply Kd.R_drewN | apply Kd.R_drew)); exact a5.out⟩, ⟨by repeat (first | (with_reducible first | exact HB.out | apply Qc | apply Qb | apply Qd) | exact HB.out)⟩⟩
                   ·rw [if_neg c25] at H
                    exact absurd H (by simp)
                  ·rw [if_neg c24] at H
                   have h4 : ((rd l0 a3) == (rd l1 a1)) = false := beq_eq_false_iff_ne.mpr c24; have h5 : ((rd l0 a3) != (rd l1 a1)) = true := bne_iff_ne.mpr c24; have H' := Qa.mk H; clear H
                   try go_wp2
                   have n0_ := Qa.mk (Kd.R_drew a4.out); have n1_ := Qa.mk (Kd.R_drew a5.out); have n2_ := Qa.mk (Qd HB.out); clear a4; clear a5; clear HB; have a4 := n0_; have a5 := n1_; have HB := n2_; clear n0_ n1_ n2_; obtain ⟨l3, g6, eo36⟩ := Kd.R_slice a4.out
                   (first | subst eo36 | (injection eo36 with f1_ f2_ f3_; have f4_ := f1_.symm; have f5_ := f3_.symm; clear f1_ f2_ f3_; subst f4_; subst f5_))
                   have b4 : 0 ≤ ((a0) : Int) := of_decide_eq_true (by first | (with_reducible assumption) | assumption); have b5 : (a0) < (a2.length : Int) := of_decide_eq_true (by first | (with_reducible assumption) | assumption); obtain ⟨b2, e6, b3⟩ := Kd.at_int (Kd.R_reads' a4.out).2.2 (a0) b4 b5
                   cases e6; replace b4 := eq_true b4; replace b5 := eq_true b5; obtain ⟨l4, g7, eo37⟩ := Kd.R_slice a5.out
                   (first | subst eo37 | (injection eo37 with f1_ f2_ f3_; have f4_ := f1_.symm; have f5_ := f3_.symm; clear f1_ f2_ f3_; subst f4_; subst f5_))
                   have b6 : 0 ≤ (a1 : Int) := of_decide_eq_true (by first | (with_reducible assumption) | assumption); have b7 : a1 < (a6.length : Int) := of_decide_eq_true (by first | (with_reducible assumption) | assumption); obtain ⟨h7, e7, b1⟩ := Kd.at_int (Kd.R_reads' a5.out).2.2 a1 b6 b7
                   cases e7; replace b6 := eq_true b6; replace b7 := eq_true b7; have p21 : 0 ≤ ((a0) : Int) := of_decide_eq_true (by first | (with_reducible assumption) | assumption); have q21 : ((a0) : Int) < ((a6.length : Int) : Int) := of_decide_eq_true (by first | (with_reducible assumption) | assumption); obtain ⟨go21, i1, eo21, d9, gl21, cl21, HG21⟩ := Kd.R_form a5.out (by omega)
                   (first | cases eo21 | (injection eo21 with ea_ en_ ec_; (first | subst ea_ | (injection ea_ with ea_; subst ea_)); subst ec_; clear en_))
                   have GB21 := Qa.mk d9; have GG21 := Qa.mk HG21; clear d9 gl21 HG21
                   (first | simp only [Yt] at b1 | skip)
                   obtain ⟨e0, hf21_0⟩ := Kd.R_celln 0 a5.out ((a0) : Int) p21 q21; replace p21 := eq_true p21; replace q21 := eq_true q21; have HP38 := Kd.R_putn a5.out ((a0) : Int) b0
                   rw [← f6.out] at HP38
                   have HQ38 := Qa.mk HP38; clear HP38; refine Vo (n := 15) (S := fun w' => w'.cell? (b2.add ((a0)).toNat) = some (.int .i64 (rd a2 (a0))) ∧ w'.cell? ⟨go21, (a1).toNat, none⟩ = some (.int .i64 (rd a6 a1))) (ds := [14]) (bz_ 15 0) (by kernel_rfl) rfl rfl ⟨b3, b1⟩ (fun hHeld => ?_); refine Yd Qe.tab9 Qe.bits9 (fun HT_ HW_ => ?_)
                   generalize wr.drew = w35 at a4 a5 HB GG21 HQ38 hf21_0 b3 b1 e0 hHeld ⊢
                   refine Qx (i := 0) (N := some 29) (v := ?_) (a' := ?_) (bz_ 15 1) rfl rfl (Qs HT_.out (by kernel_rfl)) (fun _ _ _ h => h) (Or.inl ⟨by rfl, ?_⟩) ?_ ?_; rotate_left
                   ·intro w'
                    go_simp
                    with_reducible rfl
                   rotate_left
                   ·simp only [Act.put, sA_, sB_, sC_, Qp, Qr]
                    rfl
                   refine Qx (i := 1) (N := some 30) (v := ?_) (a' := ?_) (bz_ 15 3) rfl rfl (Qs HT_.out (by kernel_rfl)) (fun _ _ _ h => h) (Or.inl ⟨by rfl, ?_⟩) ?_ ?_; rotate_left
                   ·intro w'
                    go_simp
                    with_reducible rfl
                   rotate_left
                   ·simp only [Act.put, sA_, sB_, sC_, Qp, Qr]
                    rfl
                   refine Qx (i := 2) (N := some 31) (v := ?_) (a' := ?_) (bz_ 15 7) rfl rfl (Qs HT_.out (by kernel_rfl)) (fun _ _ _ h => h) (Or.inl ⟨by rfl, ?_⟩) ?_ ?_; rotate_left
                   ·intro w'
                    go_simp
                    with_reducible rfl
                   rotate_left
                   ·simp only [Act.put, sA_, sB_, sC_, Qp, Qr]
                    rfl
                   refine Qx (i := 3) (N := some 32) (v := ?_) (a' := ?_) (bz_ 15 15) rfl rfl (Qs HT_.out (by kernel_rfl)) (fun _ _ _ h => h) (Or.inl ⟨by rfl, ?_⟩) ?_ ?_; rotate_left
                   ·intro w'
                    go_simp
                    with_reducible rfl
                   rotate_left
                   ·simp only [Act.put, sA_, sB_, sC_, Qp, Qr]
                    rfl
                   refine Qx (i := 4) (N := some 33) (v := ?_) (a' := ?_) (bz_ 15 31) rfl rfl (Qs HT_.out (by kernel_rfl)) (fun _ _ _ h => h) (Or.inl ⟨by rfl, ?_⟩) ?_ ?_; rotate_left
                   ·intro w'
                    go_simp
                    with_reducible rfl
                   rotate_left
                   ·simp only [Act.put, sA_, sB_, sC_, Qp, Qr]
                    rfl
                   refine Qx (i := 5) (N := some 34) (v := ?_) (a' := ?_) (bz_ 15 63) rfl rfl (Qs HT_.out (by kernel_rfl)) (fun _ _ _ h => h) (Or.inl ⟨by rfl, ?_⟩) ?_ ?_; rotate_left
                   ·intro w'
                    go_simp
                    with_reducible rfl
                   rotate_left
                   ·simp only [Act.put, sA_, sB_, sC_, Qp, Qr]
                    rfl
                   refine Qx (i := 6) (N := some 35) (v := ?_) (a' := ?_) (bz_ 15 127) rfl rfl (Qs HT_.out (by kernel_rfl)) (fun _ _ _ h => h) (Or.inl ⟨by rfl, ?_⟩) ?_ ?_; rotate_left
                   ·intro w'
                    go_simp
                    with_reducible rfl
                   rotate_left
                   ·simp only [Act.put, sA_, sB_, sC_, Qp, Qr]
                    rfl
                   refine Qx (i := 8) (N := some 37) (v := ?_) (a' := ?_) (bz_ 15 383) rfl rfl (Qs HT_.out (by kernel_rfl)) (fun _ _ _ h => h) (Or.inl ⟨by rfl, ?_⟩) ?_ ?_; rotate_left
                   ·intro w'
                    go_simp
                    with_reducible rfl
                   rotate_left
                   ·simp only [Act.put, sA_, sB_, sC_, Qp, Qr]
                    rfl
                   refine Qx (i := 9) (N := some 38) (v := ?_) (a' := ?_) (bz_ 15 895) rfl rfl (Qs HT_.out (by kernel_rfl)) (fun _ _ _ h => h) (Or.inl ⟨by rfl, ?_⟩) ?_ ?_; rotate_left
                   ·intro w'
                    go_simp
                    with_reducible rfl
                   rotate_left
                   ·simp only [Act.put, sA_, sB_, sC_, Qp, Qr]
                    rfl
                   refine Qx (i := 10) (N := some 39) (v := ?_) (a' := ?_) (bz_ 15 1919) rfl rfl (Qs HT_.out (by kernel_rfl)) (fun _ _ _ h => h) (Or.inl ⟨by rfl, ?_⟩) ?_ ?_; rotate_left
                   ·intro w'
                    go_simp
                    with_reducible rfl
                   rotate_left
                   ·simp only [Act.put, sA_, sB_, sC_, Qp, Qr]
                    rfl
                   refine take_ (i := 7) (N := some 36) (v := ?_) (a' := ?_) (bz_ 15 2047) rfl rfl (Xb HT_.out HW_.out (by kernel_rfl)) (fun _ _ _ h => h) (Or.inl ⟨by rfl, ?_⟩) hHeld ?_ ?_; rotate_left
                   ·rintro w' ⟨s0, s1⟩
                    go_simp
                    with_reducible rfl
                   rotate_left
                   ·simp only [Act.put, sA_, sB_, sC_, Qp, Qr]
                    rfl
                   refine take_ (i := 11) (N := some 40) (v := ?_) (a' := ?_) (bz_ 15 4095) rfl rfl (Xb HT_.out HW_.out (by kernel_rfl)) (fun _ _ _ h => h) (Or.inl ⟨by rfl, ?_⟩) hHeld ?_ ?_; rotate_left
                   ·rintro w' ⟨s0, s1⟩
                    go_simp
                    with_reducible rfl
                   rotate_left
                   ·simp only [Act.put, sA_, sB_, sC_, Qp, Qr]
                    rfl
                   refine Qx (i := 12) (N := some 41) (v := ?_) (a' := ?_) (bz_ 15 8191) rfl rfl (Qs HT_.out (by kernel_rfl)) (fun _ _ _ h => h) (Or.inl ⟨by rfl, ?_⟩) ?_ ?_; rotate_left
                   ·intro w'
                    go_simp
                    with_reducible rfl
                   rotate_left
                   ·simp only [Act.put, sA_, sB_, sC_, Qp, Qr]
                    rfl
                   refine Qx (i := 13) (N := some 42) (v := ?_) (a' := ?_) (bz_ 15 16383) rfl rfl (Qs HT_.out (by kernel_rfl)) (fun _ _ _ h => h) (Or.inl ⟨by rfl, ?_⟩) ?_ ?_; rotate_left
                   ·intro w'
                    go_simp
                    with_reducible rfl
                   rotate_left
                   ·simp only [Act.put, sA_, sB_, sC_, Qp, Qr]
                    rfl
                   refine Km (i := 14) (N := none) (bz_ 15 32767) rfl rfl (Ye HT_.out (by kernel_rfl)) (by decide) (fun K hK => ?_); refine Qfm (w1 := ?_) (by rfl) rfl ?_ ?_; rotate_left
                   ·go_simp
                    rfl
                   refine hK.out _ _ ?_; clear hK K; refine Un (Vb HT_.out (by kernel_rfl)) ?_
                   try go_wp2
                   have n0_ : Qa (Kd.R (Kd.int .i64) 3 (w35.setCell ⟨go21, ((a0) : Int).toNat, none⟩ (.int .i64 b0)) w.heap.size (fun k_ => some k_ ≠ (.slice (some ⟨go21, 0, none⟩) a6.length g7 : Value).ownBlock) (.slice (some b2) a2.length g6) a2) := ⟨by (with_reducible repeat (first | apply Kd.R_alloc | apply Kd.R_drewN | apply Kd.R_drew)); exact Kd.R_mono (Kd.R_far (p := ⟨go21, ((a0) : Int).toNat, none⟩) (Kd.R_mono a4.out (fun k_ hk => (⟨hk, fun e_ => hk (by rw [e_]; rfl)⟩ : _ ∧ k_ ≠ go21))) (fun _ hk => hk.2) (.int .i64 b0)) (fun _ hk => hk.1)⟩; have n1_ : Qa (Kd.R (Kd.int .i64) 3 (w35.setCell ⟨go21, ((a0) : Int).toNat, none⟩ (.int .i64 b0)) w.heap.size (fun k_ => some k_ ≠ (.slice (some b2) a2.length g6 : Value).ownBlock) (.slice (some ⟨go21, 0, none⟩) a6.length g7) a9) := ⟨by (with_reducible repeat (first | apply Kd.R_alloc | apply Kd.R_drewN | apply Kd.R_drew)); exact HQ38.out⟩; have n2_ : Qa (Below w.heap.size w (w35.setCell ⟨go21, ((a0) : Int).toNat, none⟩ (.int .i64 b0))) := ⟨by repeat (first | (with_reducible first | exact HB.out | apply Qc | apply Qb | apply Qd | refine Qu ?_ GB21.out) | exact HB.out)⟩
                   (try clear a4)
                   (try clear a5)
                   (try clear HB)
                   generalize (w35.setCell ⟨go21, ((a0) : Int).toNat, none⟩ (.int .i64 b0)) = w39 at n0_ n1_ n2_ ⊢
                   have a4 := n0_; have a5 := n1_; have HB := n2_; clear n0_ n1_ n2_; have n0_ := Qa.mk (Kd.R_drew a4.out); have n1_ := Qa.mk (Kd.R_drew a5.out); have n2_ := Qa.mk (Qd HB.out); clear a4; clear a5; clear HB; have a4 := n0_; have a5 := n1_; have HB := n2_; clear n0_ n1_ n2_; have b8 : 0 ≤ (a3 : Int) := of_decide_eq_true (by first | (with_reducible assumption) | assumption); have b9 : a3 < (l0.length : Int) := of_decide_eq_true (by first | (with_reducible assumption) | assumption); obtain ⟨e2, e8, a7⟩ := Kd.at_int HR0.out a3 b8 b9; have hw111_0 := a7
                   cases e8; replace a7 := (HB.out.cell (World.block_lt_of_cell? w _ a7)).trans a7; replace b8 := eq_true b8; replace b9 := eq_true b9; have d0 : 0 ≤ (a1 : Int) := of_decide_eq_true (by first | (with_reducible assumption) | assumption); have d1 : a1 < (l1.length : Int) := of_decide_eq_true (by first | (with_reducible assumption) | assumption); obtain ⟨e3, e9, a8⟩ := Kd.at_int HR1.out a1 d0 d1; have hw112_0 := a8
                   cases e9; replace a8 := (HB.out.cell (World.block_lt_of_cell? w _ a8)).trans a8; replace d0 := eq_true d0; replace d1 := eq_true d1; refine Vo (n := 9) (S := fun w' => w'.cell? (e2.add (a3).toNat) = some (.int .i64 (rd l0 a3)) ∧ w'.cell? (e3.add (a1).toNat) = some (.int .i64 (rd l1 a1))) (ds := []) (bz_ 9 0) (by kernel_rfl) rfl rfl ⟨((HB.out.cell (World.block_lt_of_cell? w _ hw111_0)).trans hw111_0), ((HB.out.cell (World.block_lt_of_cell? w _ hw112_0)).trans hw112_0)⟩ (fun hHeld => ?_); refine Yd Qe.tab10 Qe.bits10 (fun HT_ HW_ => ?_)
                   generalize w39.drew = w40 at a4 a5 HB HQ38 a7 a8 hHeld ⊢
                   refine Qx (i := 0) (N := some 43) (v := ?_) (a' := ?_) (bz_ 9 1) rfl rfl (Qs HT_.out (by kernel_rfl)) (fun _ _ _ h => h) (Or.inl ⟨by rfl, ?_⟩) ?_ ?_; rotate_left
                   ·intro w'
                    go_simp
                    with_reducible rfl
                   rotate_left
                   ·simp only [Act.put, sA_, sB_, sC_, Qp, Qr]
                    rfl
                   refine Qx (i := 1) (N := some 44) (v := ?_) (a' := ?_) (bz_ 9 3) rfl rfl (Qs HT_.out (by kernel_rfl)) (fun _ _ _ h => h) (Or.inl ⟨by rfl, ?_⟩) ?_ ?_; rotate_left
                   ·intro w'
                    go_simp
                    with_reducible rfl
                   rotate_left
                   ·simp only [Act.put, sA_, sB_, sC_, Qp, Qr]
                    rfl
                   refine Qx (i := 2) (N := some 45) (v := ?_) (a' := ?_) (bz_ 9 7) rfl rfl (Qs HT_.out (by kernel_rfl)) (fun _ _ _ h => h) (Or.inl ⟨by rfl, ?_⟩) ?_ ?_; rotate_left
                   ·intro w'
                    go_simp
                    with_reducible rfl
                   rotate_left
                   ·simp only [Act.put, sA_, sB_, sC_, Qp, Qr]
                    rfl
                   refine Qx (i := 4) (N := some 47) (v := ?_) (a' := ?_) (bz_ 9 23) rfl rfl (Qs HT_.out (by kernel_rfl)) (fun _ _ _ h => h) (Or.inl ⟨by rfl, ?_⟩) ?_ ?_; rotate_left
                   ·intro w'
                    go_simp
                    with_reducible rfl
                   rotate_left
                   ·simp only [Act.put, sA_, sB_, sC_, Qp, Qr]
                    rfl
                   refine Qx (i := 5) (N := some 48) (v := ?_) (a' := ?_) (bz_ 9 55) rfl rfl (Qs HT_.out (by kernel_rfl)) (fun _ _ _ h => h) (Or.inl ⟨by rfl, ?_⟩) ?_ ?_; rotate_left
                   ·intro w'
                    go_simp
                    with_reducible rfl
                   rotate_left
                   ·simp only [Act.put, sA_, sB_, sC_, Qp, Qr]
                    rfl
                   refine Qx (i := 6) (N := some 49) (v := ?_) (a' := ?_) (bz_ 9 119) rfl rfl (Qs HT_.out (by kernel_rfl)) (fun _ _ _ h => h) (Or.inl ⟨by rfl, ?_⟩) ?_ ?_; rotate_left
                   ·intro w'
                    go_simp
                    with_reducible rfl
                   rotate_left
                   ·simp only [Act.put, sA_, sB_, sC_, Qp, Qr]
                    rfl
                   refine take_ (i := 3) (N := some 46) (v := ?_) (a' := ?_) (bz_ 9 127) rfl rfl (Xb HT_.out HW_.out (by kernel_rfl)) (fun _ _ _ h => h) (Or.inl ⟨by rfl, ?_⟩) hHeld ?_ ?_; rotate_left
                   ·rintro w' ⟨s0, s1⟩
                    go_simp
                    with_reducible rfl
                   rotate_left
                   ·simp only [Act.put, sA_, sB_, sC_, Qp, Qr]
                    rfl
                   refine take_ (i := 7) (N := some 50) (v := ?_) (a' := ?_) (bz_ 9 255) rfl rfl (Xb HT_.out HW_.out (by kernel_rfl)) (fun _ _ _ h => h) (Or.inl ⟨by rfl, ?_⟩) hHeld ?_ ?_; rotate_left
                   ·rintro w' ⟨s0, s1⟩
                    go_simp
                    with_reducible rfl
                   rotate_left
                   ·simp only [Act.put, sA_, sB_, sC_, Qp, Qr]
                    rfl
                   refine Qx (i := 8) (N := some 51) (v := ?_) (a' := ?_) (bz_ 9 511) rfl rfl (Qs HT_.out (by kernel_rfl)) (fun _ _ _ h => h) (Or.inl ⟨by rfl, ?_⟩) ?_ ?_; rotate_left
                   ·intro w'
                    go_simp
                    with_reducible rfl
                   rotate_left
                   ·simp only [Act.put, sA_, sB_, sC_, Qp, Qr]
                    rfl
                   refine Un (Vb HT_.out (by kernel_rfl)) ?_
                   try go_wp2
                   go_roundg k2
                   case measure => have := HK1.out; have := HK2.out; omega
                   case rel => exact ⟨(a9), (a0), (by first | rfl | (simp; done) | (simp only [← d4] <;> (first | rfl | simp)) | (simp [*]; done)), H', ⟨by have := HK1.out; have := HK2.out; omega⟩, ⟨by (with_reducible repeat (first | apply Kd.R_alloc | apply Kd.R_drewN | apply Kd.R_drew)); exact a4.out⟩, ⟨by (with_reducible repeat (first | apply Kd.R_alloc | apply Kd.R_drewN | apply Kd.R_drew)); exact a5.out⟩, ⟨by repeat (first | (with_reducible first | exact HB.out | apply Qc | apply Qb | apply Qd) | exact HB.out)⟩⟩
                 ·rw [if_neg c23] at H
                  exact absurd H (by simp)
                ·rw [if_neg c22] at H
                 exact absurd H (by simp)
               ·rw [if_neg c20] at H
                exact absurd H (by simp)
              ·rw [if_neg c18] at H
               exact absurd H (by simp)
             ·rw [if_neg c17] at H
              exact absurd H (by simp)
            ·rw [if_neg c16] at H
             exact absurd H (by simp)
           ·rw [if_neg c15] at H
            exact absurd H (by simp)
          ·rw [if_neg c13] at H
           have h3 : decide (a1 < (l1.length : Int)) = false := decide_eq_false c13; clear c13; have H' := Qa.mk H; clear H
           go_wp2
           go_roundg k2
           case measure => have := HK1.out; have := HK2.out; omega
           case rel => exact ⟨(a6), (wrap64 (a3 + 1)), (by first | rfl | (simp; done) | (simp [*]; done)), H', ⟨by have := HK1.out; have := HK2.out; omega⟩, ⟨by (with_reducible repeat (first | apply Kd.R_alloc | apply Kd.R_drewN | apply Kd.R_drew)); exact Kd.R_mono a5.out (fun _ hk => trivial)⟩, ⟨by repeat (first | (with_reducible first | exact HB.out | apply Qc | apply Qb | apply Qd) | exact HB.out)⟩⟩
       ·rw [if_neg c10] at H
        exact absurd H (by simp)
      ·rw [if_neg c9] at H
       exact absurd H (by simp)
     ·rw [if_neg c8] at H
      have g3 : decide (a3 < (l0.length : Int)) = false := decide_eq_false c8; clear c8
      by_cases c41 : 0 ≤ (l1.length : Int)
      ·rw [if_pos c41] at H
       have j9 : decide (0 ≤ (l1.length : Int)) = true := decide_eq_true c41; have k0 : decide (0 ≤ l1.length) = true := decide_eq_true (by omega); clear c41
       by_cases c42 : (l1.length : Int) < (a2.length : Int)
       ·rw [if_pos c42] at H
        have k4 : decide ((l1.length : Int) < (a2.length : Int)) = true := decide_eq_true c42; have k5 : decide (l1.length < a2.length) = true := decide_eq_true (Int.ofNat_lt.mp c42); clear c42; obtain rfl := Option.some.inj H; obtain ⟨l5, l6, eo43⟩ := Kd.R_slice a4.out; subst eo43; have f2 : 0 ≤ ((l1.length : Int) : Int) := of_decide_eq_true (by first | (with_reducible assumption) | assumption); have f3 : (l1.length : Int) < (a2.length : Int) := of_decide_eq_true (by first | (with_reducible assumption) | assumption); obtain ⟨k6, i3, f7⟩ := Kd.at_int (Kd.R_reads' a4.out).2.2 (l1.length : Int) f2 f3
        cases i3
        (try simp only [Go.IntWalk.toNatUp] at f7)
        replace f2 := eq_true f2; replace f3 := eq_true f3
        go_wp2
        go_ret; exact ⟨by first | rfl | (simp [Qz, Za] <;> rfl) | (simp only [← d7]; first | rfl | (simp [Qz, Za] <;> rfl)) | (simp [*, Qz, Za] <;> rfl), by repeat (first | (with_reducible first | exact HB.out | apply Qc | apply Qb | apply Qd) | exact HB.out)⟩
       ·rw [if_neg c42] at H
        exact absurd H (by simp)
      ·rw [if_neg c41] at H
       exact absurd H (by simp)
  ·rw [if_neg c5] at H
   exact absurd H (by simp)
 ·rw [if_neg c4] at H
  exact absurd H (by simp)
end Go.Proofs.YtadafplbgophfaaGreatDoor.PA
end
section
namespace Go.Proofs.YtadafplbgophfaaGreatDoor.PA
open Go.RowKit Go.Proofs.YtadafplbgophfaaGreatDoorW.PrintWords Go.Proofs.YtadafplbgophfaaGreatDoorW.PrintLast Go.Proofs.YtadafplbgophfaaGreatDoorW.PrintMore TriLcs
open Jdg
theorem Qgg {a b row next : List Int} {i j : Nat} (hb : b.length ≤ 1000000000) (hi : i < a.length) (hj : j < b.length) (hr : row.length = b.length + 1) (hn : next.length = b.length + 1) (k : Nat) : Qe.l1 (k + 1) a b row i next j = if rd a (i : Int) = rd b (j : Int) then Qe.l1 k a b row i ((next.set (j + 1) (mx (rd row ((j + 1 : Nat) : Int)) (rd next (j : Int)))).set (j + 1) (wrap64 (rd row (j : Int) + 1))) ((j + 1 : Nat) : Int) else Qe.l1 k a b row i (next.set (j + 1) (mx (rd row ((j + 1 : Nat) : Int)) (rd next (j : Int)))) ((j + 1 : Nat) : Int) := by
 have hw : wrap64 ((j : Int) + 1) = ((j + 1 : Nat) : Int) := by rw [w64 (by omega) (by omega)]; omega
 have c1 : (j : Int) < (b.length : Int) := by omega
 have c2 : (0 : Int) ≤ ((j + 1 : Nat) : Int) := by omega
 have c3 : ((j + 1 : Nat) : Int) < (row.length : Int) := by omega
 have c4 : (0 : Int) ≤ (j : Int) := by omega
 have c5 : (j : Int) < (next.length : Int) := by omega
 have c6 : ((j + 1 : Nat) : Int) < (next.length : Int) := by omega
 have c7 : (0 : Int) ≤ (i : Int) := by omega
 have c8 : (i : Int) < (a.length : Int) := by omega
 have c9 : (j : Int) < (row.length : Int) := by omega
 rw [Qe.l1, hw, if_pos c1, if_pos c2, if_pos c3, if_pos c4, if_pos c5, if_pos c6, Option.bind_some, if_pos c7, if_pos c8, if_pos c9, Int.toNat_natCast]
theorem Qfb {a b row next : List Int} {i j : Nat} (ha : a.length ≤ 1000000000) (hi : i < a.length) (hj : ¬ j < b.length) (k : Nat) : Qe.l1 (k + 1) a b row i next j = Qe.l0 k a b next ((i + 1 : Nat) : Int) := by
 have hw : wrap64 ((i : Int) + 1) = ((i + 1 : Nat) : Int) := by rw [w64 (by omega) (by omega)]; omega
 have c1 : ¬ (j : Int) < (b.length : Int) := by omega
 rw [Qe.l1, hw, if_neg c1]
theorem Qls {a b row : List Int} {i : Nat} (hb : b.length ≤ 1000000000) (hi : i < a.length) (k : Nat) : Qe.l0 (k + 1) a b row i = Qe.l1 k a b row i (List.replicate (b.length + 1) 0) ((0 : Nat) : Int) := by
 have hw : wrap64 ((b.length : Int) + 1) = ((b.length + 1 : Nat) : Int) := by rw [w64 (by omega) (by omega)]; omega
 have c1 : (i : Int) < (a.length : Int) := by omega
 have c2 : (0 : Int) ≤ ((b.length + 1 : Nat) : Int) := by omega
 have c3 : b.length + 1 ≤ 35184372088832 := by omega
 rw [Qe.l0, hw, if_pos c1, if_pos c2, Int.toNat_natCast, if_pos c3, Int.natCast_zero]
theorem Qju {a b row : List Int} {i : Nat} (hi : ¬ i < a.length) (hr : row.length = b.length + 1) (k : Nat) : Qe.l0 (k + 1) a b row i = some (rd row (b.length : Int)) := by
 have c1 : ¬ (i : Int) < (a.length : Int) := by omega
 have c2 : (0 : Int) ≤ (b.length : Int) := by omega
 have c3 : (b.length : Int) < (row.length : Int) := by omega
 rw [Qe.l0, if_neg c1, if_pos c2, if_pos c3]
theorem Qqv {a b : List Int} (hb : b.length ≤ 1000000000) (k : Nat) : Qe.f k a b = Qe.l0 k a b (List.replicate (b.length + 1) 0) ((0 : Nat) : Int) := by
 have hw : wrap64 ((b.length : Int) + 1) = ((b.length + 1 : Nat) : Int) := by rw [w64 (by omega) (by omega)]; omega
 have c2 : (0 : Int) ≤ ((b.length + 1 : Nat) : Int) := by omega
 have c3 : b.length + 1 ≤ 35184372088832 := by omega
 rw [Qe.f, hw, if_pos c2, Int.toNat_natCast, if_pos c3, Int.natCast_zero]
def Qdu (a b : List Int) (i : Nat) (L : List Int) (j : Nat) : Prop := L.length = b.length + 1 ∧ ∀ k : Nat, k ≤ j → rd L (k : Int) = (lcs (a.take i) (b.take k) : Nat)
theorem Qgi {a b row next : List Int} {i j : Nat} {v : Int} {L : List Int} (g3 : Qdu a b (i + 1) next j) (hj : j < b.length) (hv : v = (lcs (a.take (i + 1)) (b.take (j + 1)) : Nat)) (hL : L.length = b.length + 1) (hk : ∀ k : Nat, k ≤ j → rd L (k : Int) = rd next k) : Qdu a b (i + 1) (L.set (j + 1) v) (j + 1) := by
 refine ⟨by rw [List.length_set]; exact hL, fun k hkj => ?_⟩
 have e : rd (L.set (j + 1) v) (k : Int) = if k = j + 1 then v else rd L (k : Int) := by
  have hl : j + 1 < L.length := by omega
  unfold rd; rw [Int.toNat_natCast, List.getD_eq_getElem?_getD, List.getD_eq_getElem?_getD, List.getElem?_set]
  by_cases ek : k = j + 1
  ·subst ek; simp [hl]
  ·rw [if_neg (fun h => ek h.symm), if_neg ek]
 rw [e]
 by_cases ek : k = j + 1
 ·subst ek; rw [if_pos rfl, hv]
 ·have : k ≤ j := by omega
  rw [if_neg ek, hk k this, g3.2 k this]
theorem Qke (next : List Int) (j : Nat) (v : Int) {k : Nat} (hk : k ≤ j) : rd (next.set (j + 1) v) (k : Int) = rd next k := by
 have : j + 1 ≠ k := by omega
 unfold rd; rw [Int.toNat_natCast, List.getD_eq_getElem?_getD, List.getD_eq_getElem?_getD, List.getElem?_set, if_neg this]
theorem Qij {a b row : List Int} {i j : Nat} (ha : a.length ≤ 1000000000) (hi : i < a.length) (hj : j < b.length) (hrow : Qdu a b i row b.length) (hab : a[i] = b[j]) : wrap64 (rd row (j : Int) + 1) = (lcs (a.take (i + 1)) (b.take (j + 1)) : Nat) := by
 have sA := List.take_succ_eq_append_getElem hi; have sB := List.take_succ_eq_append_getElem hj; have hbd := Ji (a.take i) (b.take j); have hbd2 := List.length_take_le' i a; rw [hrow.2 j (by omega), sA, sB, hab, Qdk, w64 (by omega) (by omega)]
 omega
theorem Qik {a b row next : List Int} {i j : Nat} (hi : i < a.length) (hj : j < b.length) (hrow : Qdu a b i row b.length) (g3 : Qdu a b (i + 1) next j) (hab : ¬ a[i] = b[j]) : mx (rd row ((j + 1 : Nat) : Int)) (rd next (j : Int)) = (lcs (a.take (i + 1)) (b.take (j + 1)) : Nat) := by
 have sA := List.take_succ_eq_append_getElem hi; have sB := List.take_succ_eq_append_getElem hj; have h := Qdl (a.take i) (b.take j) hab
 rw [← sA, ← sB] at h
 rw [hrow.2 (j + 1) (by omega), g3.2 j (Nat.le_refl _), h]; unfold mx; generalize lcs (a.take i) (b.take (j + 1)) = p; generalize lcs (a.take (i + 1)) (b.take j) = q
 split <;> omega
theorem Qlr {a b : List Int} {i : Nat} {row : List Int} (ha : a.length ≤ 1000000000) (hb : b.length ≤ 1000000000) (hi : i < a.length) (hrow : Qdu a b i row b.length) (ih : ∀ next, Qdu a b (i + 1) next b.length → Ev (fun k => Qe.l0 k a b next ((i + 1 : Nat) : Int)) (lcs a b : Nat)) : ∀ (e j : Nat) (next : List Int), b.length - j ≤ e → j ≤ b.length → Qdu a b (i + 1) next j → Ev (fun k => Qe.l1 k a b row i next j) (lcs a b : Nat) := by
 intro e
 induction e with
 | zero =>
  intro j next g1 g2 g3
  obtain rfl : j = b.length := by omega
  exact Ev.step (fun k => Qfb ha hi (by omega) k) (ih next g3)
 | succ e ihe =>
  intro j next g1 g2 g3
  by_cases hj : j < b.length
  ·have ga : rd a (i : Int) = a[i] := by simp [rd, List.getD_eq_getElem?_getD, hi]
   have gb : rd b (j : Int) = b[j] := by simp [rd, List.getD_eq_getElem?_getD, hj]
   have d1 : b.length - (j + 1) ≤ e := by omega
   by_cases hab : a[i] = b[j]
   ·have hn := Qgi (row := row) g3 hj (Qij ha hi hj hrow hab) (L := next.set (j + 1) (mx (rd row ((j + 1 : Nat) : Int)) (rd next (j : Int)))) (by rw [List.length_set]; exact g3.1) (fun k hk => Qke next j _ hk)
    refine Ev.step (fun k => ?_) (ihe (j + 1) _ d1 hj hn); rw [Qgg hb hi hj hrow.1 g3.1, ga, gb, if_pos hab]
   ·have hn := Qgi (row := row) g3 hj (Qik hi hj hrow g3 hab) g3.1 (fun k hk => rfl)
    refine Ev.step (fun k => ?_) (ihe (j + 1) _ d1 hj hn); rw [Qgg hb hi hj hrow.1 g3.1, ga, gb, if_neg hab]
  ·obtain rfl : j = b.length := by omega
   exact Ev.step (fun k => Qfb ha hi (by omega) k) (ih next g3)
theorem Qlv (a b : List Int) : Qdu a b 0 (List.replicate (b.length + 1) 0) b.length := by
 refine ⟨by simp, fun k hk => ?_⟩
 have : rd (List.replicate (b.length + 1) 0) (k : Int) = 0 := by
  unfold rd; simp only [List.getD_eq_getElem?_getD, List.getElem?_replicate, Int.toNat_natCast]; split <;> rfl
 rw [this]; simp [Ur]
theorem Qjx (a b : List Int) (i : Nat) : Qdu a b i (List.replicate (b.length + 1) 0) 0 := by
 refine ⟨by simp, fun k hk => ?_⟩
 obtain rfl : k = 0 := by omega
 simp [rd, Uh]
theorem Qlt (a b : List Int) (ha : a.length ≤ 1000000000) (hb : b.length ≤ 1000000000) : ∀ (d i : Nat) (row : List Int), a.length - i ≤ d → i ≤ a.length → Qdu a b i row b.length → Ev (fun k => Qe.l0 k a b row i) (lcs a b : Nat) := by
 have fin : ∀ (i : Nat) (row : List Int), ¬ i < a.length → Qdu a b i row b.length → Ev (fun k => Qe.l0 k a b row i) (lcs a b : Nat) := by
  intro i row hi h3; refine Ev.step (f := fun _ => some ((lcs a b : Nat) : Int)) (fun k => ?_) (Ev.now _); have h := h3.2 b.length (Nat.le_refl _)
  rw [List.take_of_length_le (Nat.not_lt.mp hi), List.take_of_length_le (Nat.le_refl _)] at h
  rw [Qju hi h3.1, h]
 intro d
 induction d with
 | zero =>
  intro i row h1 h2 h3; exact fin i row (by omega) h3
 | succ d ih =>
  intro i row h1 h2 h3
  by_cases hi : i < a.length
  ·have d1 : a.length - (i + 1) ≤ d := by omega
   exact Ev.step (fun k => Qls hb hi k) (Qlr ha hb hi h3 (fun next hn => ih (i + 1) next d1 hi hn) b.length 0 _ (Nat.le_of_eq (Nat.sub_zero _)) (Nat.zero_le _) (Qjx a b (i + 1)))
  ·exact fin i row hi h3
theorem Qgh (a b : List Int) (ha : a.length ≤ 1000000000) (hb : b.length ≤ 1000000000) : Ev (fun k => Qe.f k a b) (lcs a b : Nat) :=
 Ev.congr (fun k => Qqv hb k) (Qlt a b ha hb a.length 0 _ (Nat.le_of_eq (Nat.sub_zero _)) (Nat.zero_le _) (Qlv a b))
end Go.Proofs.YtadafplbgophfaaGreatDoor.PA
end
section
namespace Go.Proofs.YtadafplbgophfaaGreatDoor.PA
open Go.RowKit Go.Proofs.YtadafplbgophfaaGreatDoorW.PrintWords Go.Proofs.YtadafplbgophfaaGreatDoorW.PrintLast Go.Proofs.YtadafplbgophfaaGreatDoorW.PrintMore
attribute [local go_sem] Xv Xx Yl Ym Xo Xp Xw Xy
mutual
def Qg.l0 : Nat → List Int → List Int → List (S73) → Option ((List (S73)))
 | 0, _, _, _ => none
 | k + 1, x0, x1, x5 => if (x0.length : Int) > 0 then (Qg.j1 k x0 x1 x5 (decide ((x1.length : Int) > 0))) else (Qg.j1 k x0 x1 x5 false)
def Qg.j1 : Nat → List Int → List Int → List (S73) → Bool → Option ((List (S73)))
 | 0, _, _, _, _ => none
 | k + 1, x0, x1, x5, x15 => if x15 = true then (if 0 ≤ (wrap64 ((x0.length : Int) - 1)) then (if (wrap64 ((x0.length : Int) - 1)) < (x0.length : Int) then (if 0 ≤ (wrap64 ((x1.length : Int) - 1)) then (if (wrap64 ((x1.length : Int) - 1)) < (x1.length : Int) then (if (rd x0 (wrap64 ((x0.length : Int) - 1))) = (rd x1 (wrap64 ((x1.length : Int) - 1))) then ((some (([(⟨wrap64 ((x0.length : Int) - 1), wrap64 ((x1.length : Int) - 1)⟩ : S73)] : List (S73)) : List (S73))).bind fun b2 => (if b2.length + x5.length < 8796093022208 then (if (wrap64 ((x0.length : Int) - 1)) ≤ (x0.length : Int) then (if (wrap64 ((x1.length : Int) - 1)) ≤ (x1.length : Int) then (Qg.l0 k (x0.take ((wrap64 ((x0.length : Int) - 1)) : Int).toNat) (x1.take ((wrap64 ((x1.length : Int) - 1)) : Int).toNat) (b2 ++ x5)) else (none)) else (none)) else (none))) else (if (wrap64 ((x0.length : Int) - 1)) ≤ (x0.length : Int) then ((Qe.f k (x0.take ((wrap64 ((x0.length : Int) - 1)) : Int).toNat) x1).bind fun b1 => ((Qe.f k x0 x1).bind fun b0 => (if b1 = b0 then (Qg.l0 k (x0.take ((wrap64 ((x0.length : Int) - 1)) : Int).toNat) x1 x5) else (if (wrap64 ((x1.length : Int) - 1)) ≤ (x1.length : Int) then (Qg.l0 k x0 (x1.take ((wrap64 ((x1.length : Int) - 1)) : Int).toNat) x5) else (none))))) else (none))) else (none)) else (none)) else (none)) else (none)) else (some x5)
end
def Qg.f (k : Nat) (l0 : List Int) (l1 : List Int) : Option ((List (S73))) := Qg.l0 k l0 l1 ([] : List (S73))
set_option maxHeartbeats 8000000 in
set_option maxRecDepth 100000 in
theorem Qg.calls (k : Nat) (P0_ : Nat → Prop) (A0 : Option Addr) (c0 : Nat) (l0 : List Int) (P1_ : Nat → Prop) (A1 : Option Addr) (c1 : Nat) (l1 : List Int) (r : List (S73)) (w : World) (hs0 : Kd.V (Kd.int .i64) 3 w w.heap.size (fun k_ => P0_ k_) (.slice A0 l0.length c0) l0) (hs1 : Kd.V (Kd.int .i64) 3 w w.heap.size (fun k_ => P1_ k_) (.slice A1 l1.length c1) l1) (h : Qg.f k l0 l1 = some r) :
  Calls Tryz.prog 18 #[.slice A0 l0.length c0, .slice A1 l1.length c1] w fun e w' => ∃ v0_ : Value, e = .returned (v0_) ∧ Kd.R k73 73 w' w.heap.size (fun k_ => (w.heap.size ≤ k_)) v0_ r ∧ Below w.heap.size w w' := by
 have hu73 := Tryz.underlying73; have HO0 := Qa.mk (show Kd.V (Kd.int .i64) 3 w w.heap.size (fun k_ => ((P0_ k_ ∨ P1_ k_) ∨ w.heap.size ≤ k_)) (.slice A0 l0.length c0) l0 from Kd.V_mono hs0 (fun k_ hk => .inl (.inl hk))); have HO1 := Qa.mk (show Kd.V (Kd.int .i64) 3 w w.heap.size (fun k_ => ((P0_ k_ ∨ P1_ k_) ∨ w.heap.size ≤ k_)) (.slice A1 l1.length c1) l1 from Kd.V_mono hs1 (fun k_ hk => .inl (.inr hk))); have HB := Qa.mk (Below.refl w.heap.size w); have H : (Qg.l0 k l0 l1 ([] : List (S73))) = some r := h; clear h; have H' := Qa.mk H; clear H
 go_enter Tryz.func18, Tryz.ntmps18
 go_wp2
 repeat (go_quiet (fail); try go_wp2)
 go_loopg [0, 1, 5] k (fun kq v0 v1 v5 w' => ∃ (a1 : List Int) (a0 : List Int) (a7 : List (S73)), Qa (Qg.l0 kq a1 a0 a7 = some r) ∧ Qa (kq ≤ k) ∧ Qa (Kd.V (Kd.int .i64) 3 w' w.heap.size (fun k_ => ((P0_ k_ ∨ P1_ k_) ∨ w.heap.size ≤ k_) ∧ some k_ ≠ (v5 : Value).ownBlock) v0 a1) ∧ Qa (Kd.V (Kd.int .i64) 3 w' w.heap.size (fun k_ => ((P0_ k_ ∨ P1_ k_) ∨ w.heap.size ≤ k_) ∧ some k_ ≠ (v5 : Value).ownBlock) v1 a0) ∧ Qa (Kd.R k73 73 w' w.heap.size (fun k_ => (w.heap.size ≤ k_)) v5 a7) ∧ Qa (Below w.heap.size w w'))
 case atStart => exact ⟨(l0), (l1), (([] : List (S73))), H', ⟨Nat.le_refl _⟩, ⟨by (with_reducible repeat (first | apply Kd.V_alloc | apply Kd.V_drewN | apply Kd.V_drew)); exact Kd.V_mono HO0.out (fun _ hk => ⟨hk, (by simp [Value.ownBlock])⟩)⟩, ⟨by (with_reducible repeat (first | apply Kd.V_alloc | apply Kd.V_drewN | apply Kd.V_drew)); exact Kd.V_mono HO1.out (fun _ hk => ⟨hk, (by simp [Value.ownBlock])⟩)⟩, ⟨by first | exact Kd.R_nil _ _ _ _ _ | exact Kd.N_nil _ _ _ _ _ | exact Kd.V_nil _ _ _ _ _ | exact Kd.Q_nil _ _ _ _ _ | exact Kd.S_nil _ _ _ _ _⟩, ⟨by repeat (first | (with_reducible first | exact HB.out | apply Qc | apply Qb | apply Qd) | exact HB.out)⟩⟩
 case round =>
  clear H'
  try clear c1
  try clear p2
  obtain ⟨a1, a0, a7, HA, HK1, a3, a2, a5, HB⟩ := hrel
  cases gk with
  | zero => exact absurd HA.out (by simp [Qg.l0])
  | succ k1 =>
   have H := HA.out; clear HA
   simp only [Qg.l0] at H
   have HC3 := Qa.mk H; clear H
   go_upto_region 2 with (fail)
   repeat (go_quiet (fail); go_upto_region 2 with (fail))
   go_cut [15] (fun v15 wc => ∃ (kq : Nat) (f7 : Bool), v15 = .bool f7 ∧ Qa (Qg.j1 kq a1 a0 a7 f7 = some r) ∧ Qa (kq ≤ k1) ∧ Qa (Kd.V (Kd.int .i64) 3 wc w.heap.size (fun k_ => ((P0_ k_ ∨ P1_ k_) ∨ w.heap.size ≤ k_) ∧ some k_ ≠ (u5 : Value).ownBlock) u0 a1) ∧ Qa (Kd.V (Kd.int .i64) 3 wc w.heap.size (fun k_ => ((P0_ k_ ∨ P1_ k_) ∨ w.heap.size ≤ k_) ∧ some k_ ≠ (u5 : Value).ownBlock) u1 a0) ∧ Qa (Kd.R k73 73 wc w.heap.size (fun k_ => (w.heap.size ≤ k_)) u5 a7) ∧ Qa (Below w.heap.size w wc))
   case first =>
    have H := HC3.out; clear HC3
    by_cases c4 : (a1.length : Int) > 0
    ·rw [if_pos c4] at H
     have f6 : decide (0 < (a1.length : Int)) = true := decide_eq_true c4; have i1 : decide (0 < a1.length) = true := decide_eq_true (by omega); clear c4
     (first | rw [f6] | (simp only [Qp, Qr]; rw [f6]) | skip)
     have H' := Qa.mk H; clear H; obtain ⟨Ao5, co5, eo5⟩ := Kd.V_slice a3.out; subst eo5; obtain ⟨Ao6, co6, eo6⟩ := Kd.V_slice a2.out; subst eo6
     go_wp2
     repeat (go_quiet (fail); try go_wp2)
     go_meet
     case rel => exact ⟨_, (decide ((a0.length : Int) > 0)), (by first | rfl | (simp; done) | (simp [*]; done)), H', ⟨by have := HK1.out; first | omega | exact Nat.le_refl _⟩, ⟨by (with_reducible repeat (first | apply Kd.V_alloc | apply Kd.V_drewN | apply Kd.V_drew)); exact a3.out⟩, ⟨by (with_reducible repeat (first | apply Kd.V_alloc | apply Kd.V_drewN | apply Kd.V_drew)); exact a2.out⟩, ⟨by (with_reducible repeat (first | apply Kd.R_alloc | apply Kd.R_drewN | apply Kd.R_drew)); exact a5.out⟩, ⟨by repeat (first | (with_reducible first | exact HB.out | apply Qc | apply Qb | apply Qd) | exact HB.out)⟩⟩
    ·rw [if_neg c4] at H
     have f6 : decide (0 < (a1.length : Int)) = false := decide_eq_false c4; have i1 : decide (0 < a1.length) = false := decide_eq_false (by omega); clear c4
     (first | rw [f6] | (simp only [Qp, Qr]; rw [f6]) | skip)
     have H' := Qa.mk H; clear H; obtain ⟨Ao7, co7, eo7⟩ := Kd.V_slice a3.out; subst eo7
     go_wp2
     repeat (go_quiet (fail); try go_wp2)
     go_meet
     case rel => exact ⟨_, (false), (by first | rfl | (simp; done) | (simp [*]; done)), H', ⟨by have := HK1.out; first | omega | exact Nat.le_refl _⟩, ⟨by (with_reducible repeat (first | apply Kd.V_alloc | apply Kd.V_drewN | apply Kd.V_drew)); exact a3.out⟩, ⟨by (with_reducible repeat (first | apply Kd.V_alloc | apply Kd.V_drewN | apply Kd.V_drew)); exact a2.out⟩, ⟨by (with_reducible repeat (first | apply Kd.R_alloc | apply Kd.R_drewN | apply Kd.R_drew)); exact a5.out⟩, ⟨by repeat (first | (with_reducible first | exact HB.out | apply Qc | apply Qb | apply Qd) | exact HB.out)⟩⟩
   case rest =>
    clear HC3
    try clear c1
    try clear p2
    try clear c4
    try clear f6
    try clear i1
    try clear p2
    obtain ⟨kq, f7, rfl, HA, HJ2, a3, a2, a5, HB⟩ := hcut
    cases kq with
    | zero => exact absurd HA.out (by simp [Qg.j1])
    | succ kj2 =>
     have H := HA.out; clear HA
     simp only [Qg.j1] at H
     by_cases c8 : f7 = true
     ·subst c8
      have H1 : (if 0 ≤ (wrap64 ((a1.length : Int) - 1)) then (if (wrap64 ((a1.length : Int) - 1)) < (a1.length : Int) then (if 0 ≤ (wrap64 ((a0.length : Int) - 1)) then (if (wrap64 ((a0.length : Int) - 1)) < (a0.length : Int) then (if (rd a1 (wrap64 ((a1.length : Int) - 1))) = (rd a0 (wrap64 ((a0.length : Int) - 1))) then ((some (([(⟨wrap64 ((a1.length : Int) - 1), wrap64 ((a0.length : Int) - 1)⟩ : S73)] : List (S73)) : List (S73))).bind fun b2 => (if b2.length + a7.length < 8796093022208 then (if (wrap64 ((a1.length : Int) - 1)) ≤ (a1.length : Int) then (if (wrap64 ((a0.length : Int) - 1)) ≤ (a0.length : Int) then (Qg.l0 kj2 (a1.take ((wrap64 ((a1.length : Int) - 1)) : Int).toNat) (a0.take ((wrap64 ((a0.length : Int) - 1)) : Int).toNat) (b2 ++ a7)) else (none)) else (none)) else (none))) else (if (wrap64 ((a1.length : Int) - 1)) ≤ (a1.length : Int) then ((Qe.f kj2 (a1.take ((wrap64 ((a1.length : Int) - 1)) : Int).toNat) a0).bind fun b1 => ((Qe.f kj2 a1 a0).bind fun b0 => (if b1 = b0 then (Qg.l0 kj2 (a1.take ((wrap64 ((a1.length : Int) - 1)) : Int).toNat) a0 a7) else (if (wrap64 ((a0.length : Int) - 1)) ≤ (a0.length : Int) then (Qg.l0 kj2 a1 (a0.take ((wrap64 ((a0.length : Int) - 1)) : Int).toNat) a7) else (none))))) else (none))) else (none)) else (none)) else (none)) else (none)) = some r := by rw [if_pos rfl] at H; exact H
      clear H; have H := H1; clear H1; obtain ⟨ji9, h4⟩ : ∃ j_ : Int, (wrap64 ((a1.length : Int) - 1)) = j_ := ⟨_, rfl⟩
      replace H : (if 0 ≤ (ji9) then (if (ji9) < (a1.length : Int) then (if 0 ≤ (wrap64 ((a0.length : Int) - 1)) then (if (wrap64 ((a0.length : Int) - 1)) < (a0.length : Int) then (if (rd a1 (ji9)) = (rd a0 (wrap64 ((a0.length : Int) - 1))) then ((some (([(⟨ji9, wrap64 ((a0.length : Int) - 1)⟩ : S73)] : List (S73)) : List (S73))).bind fun b2 => (if b2.length + a7.length < 8796093022208 then (if (ji9) ≤ (a1.length : Int) then (if (wrap64 ((a0.length : Int) - 1)) ≤ (a0.length : Int) then (Qg.l0 kj2 (a1.take ((ji9) : Int).toNat) (a0.take ((wrap64 ((a0.length : Int) - 1)) : Int).toNat) (b2 ++ a7)) else (none)) else (none)) else (none))) else (if (ji9) ≤ (a1.length : Int) then ((Qe.f kj2 (a1.take ((ji9) : Int).toNat) a0).bind fun b1 => ((Qe.f kj2 a1 a0).bind fun b0 => (if b1 = b0 then (Qg.l0 kj2 (a1.take ((ji9) : Int).toNat) a0 a7) else (if (wrap64 ((a0.length : Int) - 1)) ≤ (a0.length : Int) then (Qg.l0 kj2 a1 (a0.take ((wrap64 ((a0.length : Int) - 1)) : Int).toNat) a7) else (none))))) else (none))) else (none)) else (none)) else (none)) else (none)) = some r := by first | (rw [h4] at H; exact H) | (simp only [h4] at H ⊢; exact H)
      have j2 : (IntKind.i64.wrap ((a1.length : Int) - 1)) = ji9 := (Qp _).trans h4
      by_cases c10 : 0 ≤ (ji9)
      ·rw [if_pos c10] at H
       have j3 : decide (0 ≤ (ji9)) = true := decide_eq_true c10; clear c10
       by_cases c11 : (ji9) < (a1.length : Int)
       ·rw [if_pos c11] at H
        have j4 : decide ((ji9) < (a1.length : Int)) = true := decide_eq_true c11; clear c11; obtain ⟨a4, g4⟩ : ∃ j_ : Int, (wrap64 ((a0.length : Int) - 1)) = j_ := ⟨_, rfl⟩
        replace H : (if 0 ≤ (a4) then (if (a4) < (a0.length : Int) then (if (rd a1 (ji9)) = (rd a0 (a4)) then ((some (([(⟨ji9, a4⟩ : S73)] : List (S73)) : List (S73))).bind fun b2 => (if b2.length + a7.length < 8796093022208 then (if (ji9) ≤ (a1.length : Int) then (if (a4) ≤ (a0.length : Int) then (Qg.l0 kj2 (a1.take ((ji9) : Int).toNat) (a0.take ((a4) : Int).toNat) (b2 ++ a7)) else (none)) else (none)) else (none))) else (if (ji9) ≤ (a1.length : Int) then ((Qe.f kj2 (a1.take ((ji9) : Int).toNat) a0).bind fun b1 => ((Qe.f kj2 a1 a0).bind fun b0 => (if b1 = b0 then (Qg.l0 kj2 (a1.take ((ji9) : Int).toNat) a0 a7) else (if (a4) ≤ (a0.length : Int) then (Qg.l0 kj2 a1 (a0.take ((a4) : Int).toNat) a7) else (none))))) else (none))) else (none)) else (none)) = some r := by first | (rw [g4] at H; exact H) | (simp only [g4] at H ⊢; exact H)
        have j0 : (IntKind.i64.wrap ((a0.length : Int) - 1)) = a4 := (Qp _).trans g4
        by_cases c13 : 0 ≤ (a4)
        ·rw [if_pos c13] at H
         have j5 : decide (0 ≤ (a4)) = true := decide_eq_true c13; clear c13
         by_cases c14 : (a4) < (a0.length : Int)
         ·rw [if_pos c14] at H
          have j6 : decide ((a4) < (a0.length : Int)) = true := decide_eq_true c14; clear c14
          by_cases c15 : (rd a1 (ji9)) = (rd a0 (a4))
          ·rw [if_pos c15] at H
           have i5 : ((rd a1 (ji9)) == (rd a0 (a4))) = true := beq_iff_eq.mpr c15; have i6 : ((rd a1 (ji9)) != (rd a0 (a4))) = false := bne_eq_false_iff_eq.mpr c15; clear c15; obtain ⟨b2, e8⟩ : ∃ y_ : List (S73), y_ = (([(⟨ji9, a4⟩ : S73)] : List (S73))) := ⟨_, rfl⟩
           replace H : (if b2.length + a7.length < 8796093022208 then (if (ji9) ≤ (a1.length : Int) then (if (a4) ≤ (a0.length : Int) then (Qg.l0 kj2 (a1.take ((ji9) : Int).toNat) (a0.take ((a4) : Int).toNat) (b2 ++ a7)) else (none)) else (none)) else (none)) = some r := by first | (rw [e8]; with_reducible exact H) | (have H2_ := (Option.bind_some _ _).symm.trans H; rw [e8]; with_reducible exact H2_) | (have H2_ := (Option.bind_some _ _).symm.trans H; with_reducible exact H2_) | with_reducible exact H | (rw [e8]; exact H) | exact H
           have e4 := Qa.mk e8; clear e8
           by_cases c16 : b2.length + a7.length < 8796093022208
           ·rw [if_pos c16] at H
            have g5 := Qa.mk c16; clear c16; obtain ⟨g6, e9⟩ : ∃ y_ : List (S73), y_ = (b2 ++ a7) := ⟨_, rfl⟩
            replace H : (if (ji9) ≤ (a1.length : Int) then (if (a4) ≤ (a0.length : Int) then (Qg.l0 kj2 (a1.take ((ji9) : Int).toNat) (a0.take ((a4) : Int).toNat) g6) else (none)) else (none)) = some r := by first | (rw [e9]; with_reducible exact H) | (have H2_ := (Option.bind_some _ _).symm.trans H; rw [e9]; with_reducible exact H2_) | (have H2_ := (Option.bind_some _ _).symm.trans H; with_reducible exact H2_) | with_reducible exact H | (rw [e9]; exact H) | exact H
            have g7 := Qa.mk e9; clear e9; have j7 := eq_true (of_decide_eq_true (by first | (with_reducible assumption) | assumption) : 0 ≤ (ji9))
            by_cases c18 : (ji9) ≤ (a1.length : Int)
            ·rw [if_pos c18] at H
             have j8 := eq_true c18; have j9 : decide ((ji9) ≤ (a1.length : Int)) = true := decide_eq_true c18; clear c18; obtain ⟨b6, f0⟩ : ∃ y_ : List Int, y_ = (a1.take ((ji9) : Int).toNat) := ⟨_, rfl⟩
             replace H : (if (a4) ≤ (a0.length : Int) then (Qg.l0 kj2 b6 (a0.take ((a4) : Int).toNat) g6) else (none)) = some r := by first | (rw [f0]; with_reducible exact H) | (have H2_ := (Option.bind_some _ _).symm.trans H; rw [f0]; with_reducible exact H2_) | (have H2_ := (Option.bind_some _ _).symm.trans H; with_reducible exact H2_) | with_reducible exact H | (rw [f0]; exact H) | exact H
             have e5 := Qa.mk f0; clear f0; have k0 := eq_true (of_decide_eq_true (by first | (with_reducible assumption) | assumption) : 0 ≤ (a4))
             by_cases c20 : (a4) ≤ (a0.length : Int)
             ·rw [if_pos c20] at H
              have k2 := eq_true c20; have k4 : decide ((a4) ≤ (a0.length : Int)) = true := decide_eq_true c20; clear c20; obtain ⟨b7, f1⟩ : ∃ y_ : List Int, y_ = (a0.take ((a4) : Int).toNat) := ⟨_, rfl⟩
              replace H : (Qg.l0 kj2 b6 b7 g6) = some r := by first | (rw [f1]; with_reducible exact H) | (have H2_ := (Option.bind_some _ _).symm.trans H; rw [f1]; with_reducible exact H2_) | (have H2_ := (Option.bind_some _ _).symm.trans H; with_reducible exact H2_) | with_reducible exact H | (rw [f1]; exact H) | exact H
              have e6 := Qa.mk f1; clear f1; have H' := Qa.mk H; clear H; obtain ⟨l6, b9, eo21⟩ := Kd.V_slice a3.out; subst eo21; obtain ⟨l7, d0, eo22⟩ := Kd.V_slice a2.out; subst eo22; have d2 : 0 ≤ ((ji9) : Int) := of_decide_eq_true (by first | (with_reducible assumption) | assumption); have d3 : (ji9) < (a1.length : Int) := of_decide_eq_true (by first | (with_reducible assumption) | assumption); obtain ⟨a8, f9, g2⟩ := Kd.at_int (Kd.V_reads' a3.out).2.2 (ji9) d2 d3
              cases f9; replace d2 := eq_true d2; replace d3 := eq_true d3; have d4 : 0 ≤ ((a4) : Int) := of_decide_eq_true (by first | (with_reducible assumption) | assumption); have d5 : (a4) < (a0.length : Int) := of_decide_eq_true (by first | (with_reducible assumption) | assumption); obtain ⟨a9, g0, g3⟩ := Kd.at_int (Kd.V_reads' a2.out).2.2 (a4) d4 d5
              cases g0; replace d4 := eq_true d4; replace d5 := eq_true d5; go_wp2_with (first | ((with_reducible refine Zs (N := 34) rfl ?_); (try (refine Yb (by rfl) ?_; dsimp only)); refine Kd.R_lit k73 _ 73 ?hg (N := 34) ?hd (xs := ([(⟨ji9, a4⟩ : S73)] : List (S73))) (inner := [.int .i64 ji9, .int .i64 a4]) (ok := fun _ => True) (okp := fun _ => True) ?hr ?hp (fun _ hk => hk) trivial (Below.refl _ _) (Nat.le_refl _) (by simp) ?_; (case hd => rfl); (case hg => rfl); (case hr => first | (go_simp; done) | (go_simp; rfl)); (case hp => exact (Zz.c2 (show Kd.M k73 _ _ _ (⟨ji9, a4⟩ : S73) [.int .i64 ji9, .int .i64 a4] from (Qhd _ _ _ (⟨ji9, a4⟩ : S73) )) (Zz.none _ _))); intro g1 w23 ho24 hb hg_ hnew_; clear hg_ hnew_; (first | rw [← e4.out] at ho24 | (simp only [Int.reduceToNat] at ho24; rw [← e4.out] at ho24)); have n0_ := Qa.mk (Kd.V_elder' (by (with_reducible repeat (first | apply Kd.V_alloc | apply Kd.V_drewN | apply Kd.V_drew)); exact a3.out) (Kd.R_base ho24) hb); have n1_ := Qa.mk (Kd.V_elder' (by (with_reducible repeat (first | apply Kd.V_alloc | apply Kd.V_drewN | apply Kd.V_drew)); exact a2.out) (Kd.R_base ho24) hb); have n2_ := Qa.mk (Kd.R_elder' (by (with_reducible repeat (first | apply Kd.R_alloc | apply Kd.R_drewN | apply Kd.R_drew)); exact a5.out) (Kd.R_base ho24) hb); have n3_ := Qa.mk (Kd.R_lower (Kd.R_new' (Kd.R_newM (M := fun k_ => (w.heap.size ≤ k_)) ho24 (Qh (by repeat (first | (with_reducible first | exact HB.out | apply Qc | apply Qb | apply Qd) | exact HB.out))) (fun k_ h_ => h_)) (Kd.R_lt (by (with_reducible repeat (first | apply Kd.R_alloc | apply Kd.R_drewN | apply Kd.R_drew)); exact a5.out))) (Qh (by repeat (first | (with_reducible first | exact HB.out | apply Qc | apply Qb | apply Qd) | exact HB.out)))); have n4_ := Qa.mk (Qk (by repeat (first | (with_reducible first | exact HB.out | apply Qc | apply Qb | apply Qd) | exact HB.out)) hb); clear a3; clear a2; clear a5; clear HB; have a3 := n0_; have a2 := n1_; have a5 := n2_; have e2 := n3_; have HB := n4_; clear n0_ n1_ n2_ n3_ n4_; clear hb ho24; obtain ⟨d6, d7, eo26⟩ := Kd.R_slice a5.out; subst eo26) | ((with_reducible refine Zj (b := .append) (xs := #[.tmp 34, .tmp 35]) rfl ?_); (try (refine Yb (by rfl) ?_; dsimp only)); at_builtin; refine Kd.R_append_rows k73 (w0 := w) w.heap.size rfl (.tmp 34) (.tmp 35) 56 73 (.agg #[(.int .i64 0), (.int .i64 0)]) 16 rfl Tryz.underlying56 Qjt rfl (by decide) (by omega) g1 b2 a7 _ _ _ (fun k_ => (w.heap.size ≤ k_) ∧ some k_ ≠ (.slice d6 a7.length d7 : Value).ownBlock) (fun _ => False) rfl rfl ?aO ?aR (fun _ _ h => h) (fun _ h => h.elim) ?aF ?aB ?aS ?aL ?_; (case aR => repeat (first | exact (Kd.R_reads' a5.out).2.2 | (with_reducible refine Kd.C_alloc ?_ _) | (with_reducible refine Kd.C_drewN ?_ _) | (with_reducible refine Kd.C_drew ?_))); (case aB => exact (by repeat (first | (with_reducible first | exact HB.out | apply Qc | apply Qb | apply Qd) | exact HB.out))); (case aF => exact (fun k_ hk => ⟨(Nat.le_trans (Qh (by repeat (first | (with_reducible first | exact HB.out | apply Qc | apply Qb | apply Qd) | exact HB.out))) hk), Kd.fresh' (Kd.R_lt (by (with_reducible repeat (first | apply Kd.R_alloc | apply Kd.R_drewN | apply Kd.R_drew)); exact a5.out)) k_ hk⟩)); (case aO => exact (by (with_reducible repeat (first | apply Kd.R_alloc | apply Kd.R_drewN | apply Kd.R_drew)); exact Kd.R_mono e2.out (fun _ hk => ⟨hk.1.1, hk.2⟩))); (case aS => exact (Qh (by repeat (first | (with_reducible first | exact HB.out | apply Qc | apply Qb | apply Qd) | exact HB.out)))); (case aL => have := g5.out; omega); intro i2 w25 ho hb hg hat; rw [← g7.out] at ho; have n0_ := Qa.mk (Kd.V_afterv (ok := (fun k_ => ((P0_ k_ ∨ P1_ k_) ∨ w.heap.size ≤ k_) ∧ some k_ ≠ (.slice d6 a7.length d7 : Value).ownBlock)) (by (with_reducible repeat (first | apply Kd.V_alloc | apply Kd.V_drewN | apply Kd.V_drew)); exact a3.out) hg hat); have n1_ := Qa.mk (Kd.V_afterv (ok := (fun k_ => ((P0_ k_ ∨ P1_ k_) ∨ w.heap.size ≤ k_) ∧ some k_ ≠ (.slice d6 a7.length d7 : Value).ownBlock)) (by (with_reducible repeat (first | apply Kd.V_alloc | apply Kd.V_drewN | apply Kd.V_drew)); exact a2.out) hg hat); have n2_ := Qa.mk (Kd.R_after (ok := (fun k_ => (w.heap.size ≤ k_))) (by (with_reducible repeat (first | apply Kd.R_alloc | apply Kd.R_drewN | apply Kd.R_drew)); exact a5.out) hg hat); have n3_ := Qa.mk (hb); have n4_ := Qa.mk (ho); clear a3; clear a2; clear a5; clear HB; clear e2; have a3 := n0_; have a2 := n1_; have a5 := n2_; have HB := n3_; have g8 := n4_; clear n0_ n1_ n2_ n3_ n4_; clear ho hb hg hat; have q27 : ((ji9) : Int) ≤ ((a1.length : Int) : Int) := of_decide_eq_true (by first | (with_reducible assumption) | assumption); obtain ⟨i027, hi027, _, hsz27, _⟩ := info_parts Vm; have hroom27 : a1.length ≤ b9 := (Kd.V_reads' a3.out).2.1; have hC27 : Kd.F (Kd.int .i64) _ _ (some a8) a1.length a1 := (Kd.V_at (base := w.heap.size) a3.out).2.2; have hcut27 := Um (P := Tryz.prog) 58 3 .i64 Tryz.underlying58 hi027 (some a8) a1.length b9 (ji9) (of_decide_eq_true (by first | (with_reducible assumption) | assumption)) q27 hroom27; have hr27 := Kd.F_take (m := ((ji9) : Int).toNat) hC27 (by omega); have d8 : b6.length = ((ji9) : Int).toNat := (by rw [e5.out, List.length_take]; omega); rw [← e5.out] at hr27; rw [← d8] at hcut27; have g9 := Qa.mk (show Kd.V (Kd.int .i64) 3 _ w.heap.size _ (.slice (some a8) b6.length b9) b6 from Kd.V_mk (by omega) hr27); have h7 := Qa.mk (show b6.length ≤ b9 from by omega); clear hr27 hC27 hroom27 hi027 hsz27; have KY27 := Qa.mk d8; clear d8; replace q27 := eq_true q27; have q28 : ((a4) : Int) ≤ ((a0.length : Int) : Int) := of_decide_eq_true (by first | (with_reducible assumption) | assumption); obtain ⟨i028, hi028, _, hsz28, _⟩ := info_parts Vm; have hroom28 : a0.length ≤ d0 := (Kd.V_reads' a2.out).2.1; have hC28 : Kd.F (Kd.int .i64) _ _ (some a9) a0.length a0 := (Kd.V_at (base := w.heap.size) a2.out).2.2; have hcut28 := Um (P := Tryz.prog) 58 3 .i64 Tryz.underlying58 hi028 (some a9) a0.length d0 (a4) (of_decide_eq_true (by first | (with_reducible assumption) | assumption)) q28 hroom28; have hr28 := Kd.F_take (m := ((a4) : Int).toNat) hC28 (by omega); have d9 : b7.length = ((a4) : Int).toNat := (by rw [e6.out, List.length_take]; omega); rw [← e6.out] at hr28; rw [← d9] at hcut28; have h0 := Qa.mk (show Kd.V (Kd.int .i64) 3 _ w.heap.size _ (.slice (some a9) b7.length d0) b7 from Kd.V_mk (by omega) hr28); have h8 := Qa.mk (show b7.length ≤ d0 from by omega); clear hr28 hC28 hroom28 hi028 hsz28; have KY28 := Qa.mk d9; clear d9; replace q28 := eq_true q28))
              repeat (go_quiet (first | ((with_reducible refine Zs (N := 34) rfl ?_); (try (refine Yb (by rfl) ?_; dsimp only)); refine Kd.R_lit k73 _ 73 ?hg (N := 34) ?hd (xs := ([(⟨ji9, a4⟩ : S73)] : List (S73))) (inner := [.int .i64 ji9, .int .i64 a4]) (ok := fun _ => True) (okp := fun _ => True) ?hr ?hp (fun _ hk => hk) trivial (Below.refl _ _) (Nat.le_refl _) (by simp) ?_; (case hd => rfl); (case hg => rfl); (case hr => first | (go_simp; done) | (go_simp; rfl)); (case hp => exact (Zz.c2 (show Kd.M k73 _ _ _ (⟨ji9, a4⟩ : S73) [.int .i64 ji9, .int .i64 a4] from (Qhd _ _ _ (⟨ji9, a4⟩ : S73) )) (Zz.none _ _))); intro g1 w23 ho24 hb hg_ hnew_; clear hg_ hnew_; (first | rw [← e4.out] at ho24 | (simp only [Int.reduceToNat] at ho24; rw [← e4.out] at ho24)); have n0_ := Qa.mk (Kd.V_elder' (by (with_reducible repeat (first | apply Kd.V_alloc | apply Kd.V_drewN | apply Kd.V_drew)); exact a3.out) (Kd.R_base ho24) hb); have n1_ := Qa.mk (Kd.V_elder' (by (with_reducible repeat (first | apply Kd.V_alloc | apply Kd.V_drewN | apply Kd.V_drew)); exact a2.out) (Kd.R_base ho24) hb); have n2_ := Qa.mk (Kd.R_elder' (by (with_reducible repeat (first | apply Kd.R_alloc | apply Kd.R_drewN | apply Kd.R_drew)); exact a5.out) (Kd.R_base ho24) hb); have n3_ := Qa.mk (Kd.R_lower (Kd.R_new' (Kd.R_newM (M := fun k_ => (w.heap.size ≤ k_)) ho24 (Qh (by repeat (first | (with_reducible first | exact HB.out | apply Qc | apply Qb | apply Qd) | exact HB.out))) (fun k_ h_ => h_)) (Kd.R_lt (by (with_reducible repeat (first | apply Kd.R_alloc | apply Kd.R_drewN | apply Kd.R_drew)); exact a5.out))) (Qh (by repeat (first | (with_reducible first | exact HB.out | apply Qc | apply Qb | apply Qd) | exact HB.out)))); have n4_ := Qa.mk (Qk (by repeat (first | (with_reducible first | exact HB.out | apply Qc | apply Qb | apply Qd) | exact HB.out)) hb); clear a3; clear a2; clear a5; clear HB; have a3 := n0_; have a2 := n1_; have a5 := n2_; have e2 := n3_; have HB := n4_; clear n0_ n1_ n2_ n3_ n4_; clear hb ho24; obtain ⟨d6, d7, eo26⟩ := Kd.R_slice a5.out; subst eo26) | ((with_reducible refine Zj (b := .append) (xs := #[.tmp 34, .tmp 35]) rfl ?_); (try (refine Yb (by rfl) ?_; dsimp only)); at_builtin; refine Kd.R_append_rows k73 (w0 := w) w.heap.size rfl (.tmp 34) (.tmp 35) 56 73 (.agg #[(.int .i64 0), (.int .i64 0)]) 16 rfl Tryz.underlying56 Qjt rfl (by decide) (by omega) g1 b2 a7 _ _ _ (fun k_ => (w.heap.size ≤ k_) ∧ some k_ ≠ (.slice d6 a7.length d7 : Value).ownBlock) (fun _ => False) rfl rfl ?aO ?aR (fun _ _ h => h) (fun _ h => h.elim) ?aF ?aB ?aS ?aL ?_; (case aR => repeat (first | exact (Kd.R_reads' a5.out).2.2 | (with_reducible refine Kd.C_alloc ?_ _) | (with_reducible refine Kd.C_drewN ?_ _) | (with_reducible refine Kd.C_drew ?_))); (case aB => exact (by repeat (first | (with_reducible first | exact HB.out | apply Qc | apply Qb | apply Qd) | exact HB.out))); (case aF => exact (fun k_ hk => ⟨(Nat.le_trans (Qh (by repeat (first | (with_reducible first | exact HB.out | apply Qc | apply Qb | apply Qd) | exact HB.out))) hk), Kd.fresh' (Kd.R_lt (by (with_reducible repeat (first | apply Kd.R_alloc | apply Kd.R_drewN | apply Kd.R_drew)); exact a5.out)) k_ hk⟩)); (case aO => exact (by (with_reducible repeat (first | apply Kd.R_alloc | apply Kd.R_drewN | apply Kd.R_drew)); exact Kd.R_mono e2.out (fun _ hk => ⟨hk.1.1, hk.2⟩))); (case aS => exact (Qh (by repeat (first | (with_reducible first | exact HB.out | apply Qc | apply Qb | apply Qd) | exact HB.out)))); (case aL => have := g5.out; omega); intro i2 w25 ho hb hg hat; rw [← g7.out] at ho; have n0_ := Qa.mk (Kd.V_afterv (ok := (fun k_ => ((P0_ k_ ∨ P1_ k_) ∨ w.heap.size ≤ k_) ∧ some k_ ≠ (.slice d6 a7.length d7 : Value).ownBlock)) (by (with_reducible repeat (first | apply Kd.V_alloc | apply Kd.V_drewN | apply Kd.V_drew)); exact a3.out) hg hat); have n1_ := Qa.mk (Kd.V_afterv (ok := (fun k_ => ((P0_ k_ ∨ P1_ k_) ∨ w.heap.size ≤ k_) ∧ some k_ ≠ (.slice d6 a7.length d7 : Value).ownBlock)) (by (with_reducible repeat (first | apply Kd.V_alloc | apply Kd.V_drewN | apply Kd.V_drew)); exact a2.out) hg hat); have n2_ := Qa.mk (Kd.R_after (ok := (fun k_ => (w.heap.size ≤ k_))) (by (with_reducible repeat (first | apply Kd.R_alloc | apply Kd.R_drewN | apply Kd.R_drew)); exact a5.out) hg hat); have n3_ := Qa.mk (hb); have n4_ := Qa.mk (ho); clear a3; clear a2; clear a5; clear HB; clear e2; have a3 := n0_; have a2 := n1_; have a5 := n2_; have HB := n3_; have g8 := n4_; clear n0_ n1_ n2_ n3_ n4_; clear ho hb hg hat; have q27 : ((ji9) : Int) ≤ ((a1.length : Int) : Int) := of_decide_eq_true (by first | (with_reducible assumption) | assumption); obtain ⟨i027, hi027, _, hsz27, _⟩ := info_parts Vm; have hroom27 : a1.length ≤ b9 := (Kd.V_reads' a3.out).2.1; have hC27 : Kd.F (Kd.int .i64) _ _ (some a8) a1.length a1 := (Kd.V_at (base := w.heap.size) a3.out).2.2; have hcut27 := Um (P := Tryz.prog) 58 3 .i64 Tryz.underlying58 hi027 (some a8) a1.length b9 (ji9) (of_decide_eq_true (by first | (with_reducible assumption) | assumption)) q27 hroom27; have hr27 := Kd.F_take (m := ((ji9) : Int).toNat) hC27 (by omega); have d8 : b6.length = ((ji9) : Int).toNat := (by rw [e5.out, List.length_take]; omega); rw [← e5.out] at hr27; rw [← d8] at hcut27; have g9 := Qa.mk (show Kd.V (Kd.int .i64) 3 _ w.heap.size _ (.slice (some a8) b6.length b9) b6 from Kd.V_mk (by omega) hr27); have h7 := Qa.mk (show b6.length ≤ b9 from by omega); clear hr27 hC27 hroom27 hi027 hsz27; have KY27 := Qa.mk d8; clear d8; replace q27 := eq_true q27; have q28 : ((a4) : Int) ≤ ((a0.length : Int) : Int) := of_decide_eq_true (by first | (with_reducible assumption) | assumption); obtain ⟨i028, hi028, _, hsz28, _⟩ := info_parts Vm; have hroom28 : a0.length ≤ d0 := (Kd.V_reads' a2.out).2.1; have hC28 : Kd.F (Kd.int .i64) _ _ (some a9) a0.length a0 := (Kd.V_at (base := w.heap.size) a2.out).2.2; have hcut28 := Um (P := Tryz.prog) 58 3 .i64 Tryz.underlying58 hi028 (some a9) a0.length d0 (a4) (of_decide_eq_true (by first | (with_reducible assumption) | assumption)) q28 hroom28; have hr28 := Kd.F_take (m := ((a4) : Int).toNat) hC28 (by omega); have d9 : b7.length = ((a4) : Int).toNat := (by rw [e6.out, List.length_take]; omega); rw [← e6.out] at hr28; rw [← d9] at hcut28; have h0 := Qa.mk (show Kd.V (Kd.int .i64) 3 _ w.heap.size _ (.slice (some a9) b7.length d0) b7 from Kd.V_mk (by omega) hr28); have h8 := Qa.mk (show b7.length ≤ d0 from by omega); clear hr28 hC28 hroom28 hi028 hsz28; have KY28 := Qa.mk d9; clear d9; replace q28 := eq_true q28)); try go_wp2_with (first | ((with_reducible refine Zs (N := 34) rfl ?_); (try (refine Yb (by rfl) ?_; dsimp only)); refine Kd.R_lit k73 _ 73 ?hg (N := 34) ?hd (xs := ([(⟨ji9, a4⟩ : S73)] : List (S73))) (inner := [.int .i64 ji9, .int .i64 a4]) (ok := fun _ => True) (okp := fun _ => True) ?hr ?hp (fun _ hk => hk) trivial (Below.refl _ _) (Nat.le_refl _) (by simp) ?_; (case hd => rfl); (case hg => rfl); (case hr => first | (go_simp; done) | (go_simp; rfl)); (case hp => exact (Zz.c2 (show Kd.M k73 _ _ _ (⟨ji9, a4⟩ : S73) [.int .i64 ji9, .int .i64 a4] from (Qhd _ _ _ (⟨ji9, a4⟩ : S73) )) (Zz.none _ _))); intro g1 w23 ho24 hb hg_ hnew_; clear hg_ hnew_; (first | rw [← e4.out] at ho24 | (simp only [Int.reduceToNat] at ho24; rw [← e4.out] at ho24)); have n0_ := Qa.mk (Kd.V_elder' (by (with_reducible repeat (first | apply Kd.V_alloc | apply Kd.V_drewN | apply Kd.V_drew)); exact a3.out) (Kd.R_base ho24) hb); have n1_ := Qa.mk (Kd.V_elder' (by (with_reducible repeat (first | apply Kd.V_alloc | apply Kd.V_drewN | apply Kd.V_drew)); exact a2.out) (Kd.R_base ho24) hb); have n2_ := Qa.mk (Kd.R_elder' (by (with_reducible repeat (first | apply Kd.R_alloc | apply Kd.R_drewN | apply Kd.R_drew)); exact a5.out) (Kd.R_base ho24) hb); have n3_ := Qa.mk (Kd.R_lower (Kd.R_new' (Kd.R_newM (M := fun k_ => (w.heap.size ≤ k_)) ho24 (Qh (by repeat (first | (with_reducible first | exact HB.out | apply Qc | apply Qb | apply Qd) | exact HB.out))) (fun k_ h_ => h_)) (Kd.R_lt (by (with_reducible repeat (first | apply Kd.R_alloc | apply Kd.R_drewN | apply Kd.R_drew)); exact a5.out))) (Qh (by repeat (first | (with_reducible first | exact HB.out | apply Qc | apply Qb | apply Qd) | exact HB.out)))); have n4_ := Qa.mk (Qk (by repeat (first | (with_reducible first | exact HB.out | apply Qc | apply Qb | apply Qd) | exact HB.out)) hb); clear a3; clear a2; clear a5; clear HB; have a3 := n0_; have a2 := n1_; have a5 := n2_; have e2 := n3_; have HB := n4_; clear n0_ n1_ n2_ n3_ n4_; clear hb ho24; obtain ⟨d6, d7, eo26⟩ := Kd.R_slice a5.out; subst eo26) | ((with_reducible refine Zj (b := .append) (xs := #[.tmp 34, .tmp 35]) rfl ?_); (try (refine Yb (by rfl) ?_; dsimp only)); at_builtin; refine Kd.R_append_rows k73 (w0 := w) w.heap.size rfl (.tmp 34) (.tmp 35) 56 73 (.agg #[(.int .i64 0), (.int .i64 0)]) 16 rfl Tryz.underlying56 Qjt rfl (by decide) (by omega) g1 b2 a7 _ _ _ (fun k_ => (w.heap.size ≤ k_) ∧ some k_ ≠ (.slice d6 a7.length d7 : Value).ownBlock) (fun _ => False) rfl rfl ?aO ?aR (fun _ _ h => h) (fun _ h => h.elim) ?aF ?aB ?aS ?aL ?_; (case aR => repeat (first | exact (Kd.R_reads' a5.out).2.2 | (with_reducible refine Kd.C_alloc ?_ _) | (with_reducible refine Kd.C_drewN ?_ _) | (with_reducible refine Kd.C_drew ?_))); (case aB => exact (by repeat (first | (with_reducible first | exact HB.out | apply Qc | apply Qb | apply Qd) | exact HB.out))); (case aF => exact (fun k_ hk => ⟨(Nat.le_trans (Qh (by repeat (first | (with_reducible first | exact HB.out | apply Qc | apply Qb | apply Qd) | exact HB.out))) hk), Kd.fresh' (Kd.R_lt (by (with_reducible repeat (first | apply Kd.R_alloc | apply Kd.R_drewN | apply Kd.R_drew)); exact a5.out)) k_ hk⟩)); (case aO => exact (by (with_reducible repeat (first | apply Kd.R_alloc | apply Kd.R_drewN | apply Kd.R_drew)); exact Kd.R_mono e2.out (fun _ hk => ⟨hk.1.1, hk.2⟩))); (case aS => exact (Qh (by repeat (first | (with_reducible first | exact HB.out | apply Qc | apply Qb | apply Qd) | exact HB.out)))); (case aL => have := g5.out; omega); intro i2 w25 ho hb hg hat; rw [← g7.out] at ho; have n0_ := Qa.mk (Kd.V_afterv (ok := (fun k_ => ((P0_ k_ ∨ P1_ k_) ∨ w.heap.size ≤ k_) ∧ some k_ ≠ (.slice d6 a7.length d7 : Value).ownBlock)) (by (with_reducible repeat (first | apply Kd.V_alloc | apply Kd.V_drewN | apply Kd.V_drew)); exact a3.out) hg hat); have n1_ := Qa.mk (Kd.V_afterv (ok := (fun k_ => ((P0_ k_ ∨ P1_ k_) ∨ w.heap.size ≤ k_) ∧ some k_ ≠ (.slice d6 a7.length d7 : Value).ownBlock)) (by (with_reducible repeat (first | apply Kd.V_alloc | apply Kd.V_drewN | apply Kd.V_drew)); exact a2.out) hg hat); have n2_ := Qa.mk (Kd.R_after (ok := (fun k_ => (w.heap.size ≤ k_))) (by (with_reducible repeat (first | apply Kd.R_alloc | apply Kd.R_drewN | apply Kd.R_drew)); exact a5.out) hg hat); have n3_ := Qa.mk (hb); have n4_ := Qa.mk (ho); clear a3; clear a2; clear a5; clear HB; clear e2; have a3 := n0_; have a2 := n1_; have a5 := n2_; have HB := n3_; have g8 := n4_; clear n0_ n1_ n2_ n3_ n4_; clear ho hb hg hat; have q27 : ((ji9) : Int) ≤ ((a1.length : Int) : Int) := of_decide_eq_true (by first | (with_reducible assumption) | assumption); obtain ⟨i027, hi027, _, hsz27, _⟩ := info_parts Vm; have hroom27 : a1.length ≤ b9 := (Kd.V_reads' a3.out).2.1; have hC27 : Kd.F (Kd.int .i64) _ _ (some a8) a1.length a1 := (Kd.V_at (base := w.heap.size) a3.out).2.2; have hcut27 := Um (P := Tryz.prog) 58 3 .i64 Tryz.underlying58 hi027 (some a8) a1.length b9 (ji9) (of_decide_eq_true (by first | (with_reducible assumption) | assumption)) q27 hroom27; have hr27 := Kd.F_take (m := ((ji9) : Int).toNat) hC27 (by omega); have d8 : b6.length = ((ji9) : Int).toNat := (by rw [e5.out, List.length_take]; omega); rw [← e5.out] at hr27; rw [← d8] at hcut27; have g9 := Qa.mk (show Kd.V (Kd.int .i64) 3 _ w.heap.size _ (.slice (some a8) b6.length b9) b6 from Kd.V_mk (by omega) hr27); have h7 := Qa.mk (show b6.length ≤ b9 from by omega); clear hr27 hC27 hroom27 hi027 hsz27; have KY27 := Qa.mk d8; clear d8; replace q27 := eq_true q27; have q28 : ((a4) : Int) ≤ ((a0.length : Int) : Int) := of_decide_eq_true (by first | (with_reducible assumption) | assumption); obtain ⟨i028, hi028, _, hsz28, _⟩ := info_parts Vm; have hroom28 : a0.length ≤ d0 := (Kd.V_reads' a2.out).2.1; have hC28 : Kd.F (Kd.int .i64) _ _ (some a9) a0.length a0 := (Kd.V_at (base := w.heap.size) a2.out).2.2; have hcut28 := Um (P := Tryz.prog) 58 3 .i64 Tryz.underlying58 hi028 (some a9) a0.length d0 (a4) (of_decide_eq_true (by first | (with_reducible assumption) | assumption)) q28 hroom28; have hr28 := Kd.F_take (m := ((a4) : Int).toNat) hC28 (by omega); have d9 : b7.length = ((a4) : Int).toNat := (by rw [e6.out, List.length_take]; omega); rw [← e6.out] at hr28; rw [← d9] at hcut28; have h0 := Qa.mk (show Kd.V (Kd.int .i64) 3 _ w.heap.size _ (.slice (some a9) b7.length d0) b7 from Kd.V_mk (by omega) hr28); have h8 := Qa.mk (show b7.length ≤ d0 from by omega); clear hr28 hC28 hroom28 hi028 hsz28; have KY28 := Qa.mk d9; clear d9; replace q28 := eq_true q28)))
              go_roundg kj2
              case measure => have := HK1.out; have := HJ2.out; omega
              case rel => exact ⟨(b6), (b7), (g6), H', ⟨by have := HK1.out; have := HJ2.out; omega⟩, ⟨by (with_reducible repeat (first | apply Kd.V_alloc | apply Kd.V_drewN | apply Kd.V_drew)); exact Kd.V_mono g9.out (fun _ hk => ⟨hk.1.1, hk.2⟩)⟩, ⟨by (with_reducible repeat (first | apply Kd.V_alloc | apply Kd.V_drewN | apply Kd.V_drew)); exact Kd.V_mono h0.out (fun _ hk => ⟨hk.1.1, hk.2⟩)⟩, ⟨by (with_reducible repeat (first | apply Kd.R_alloc | apply Kd.R_drewN | apply Kd.R_drew)); exact Kd.R_mono g8.out (fun _ hk => hk.1)⟩, ⟨by repeat (first | (with_reducible first | exact HB.out | apply Qc | apply Qb | apply Qd) | exact HB.out)⟩⟩
             ·rw [if_neg c20] at H
              exact absurd H (by simp)
            ·rw [if_neg c18] at H
             exact absurd H (by simp)
           ·rw [if_neg c16] at H
            exact absurd H (by simp)
          ·rw [if_neg c15] at H
           have i5 : ((rd a1 (ji9)) == (rd a0 (a4))) = false := beq_eq_false_iff_ne.mpr c15; have i6 : ((rd a1 (ji9)) != (rd a0 (a4))) = true := bne_iff_ne.mpr c15; have k5 := eq_true (of_decide_eq_true (by first | (with_reducible assumption) | assumption) : 0 ≤ (ji9))
           by_cases c30 : (ji9) ≤ (a1.length : Int)
           ·rw [if_pos c30] at H
            have k6 := eq_true c30; have k7 : decide ((ji9) ≤ (a1.length : Int)) = true := decide_eq_true c30; clear c30; obtain ⟨b3, f2⟩ : ∃ y_ : List Int, y_ = (a1.take ((ji9) : Int).toNat) := ⟨_, rfl⟩
            replace H : ((Qe.f kj2 b3 a0).bind fun b1 => ((Qe.f kj2 a1 a0).bind fun b0 => (if b1 = b0 then (Qg.l0 kj2 (a1.take ((ji9) : Int).toNat) a0 a7) else (if (a4) ≤ (a0.length : Int) then (Qg.l0 kj2 a1 (a0.take ((a4) : Int).toNat) a7) else (none))))) = some r := by first | (rw [f2]; with_reducible exact H) | (have H2_ := (Option.bind_some _ _).symm.trans H; rw [f2]; with_reducible exact H2_) | (have H2_ := (Option.bind_some _ _).symm.trans H; with_reducible exact H2_) | with_reducible exact H | (rw [f2]; exact H) | exact H
            have f3 := Qa.mk f2; clear f2; replace H := Option.bind_eq_some_iff.mp H; obtain ⟨b1, i3, H⟩ := H; replace H : ((Qe.f kj2 a1 a0).bind fun b0 => (if b1 = b0 then (Qg.l0 kj2 (a1.take ((ji9) : Int).toNat) a0 a7) else (if (a4) ≤ (a0.length : Int) then (Qg.l0 kj2 a1 (a0.take ((a4) : Int).toNat) a7) else (none)))) = some r := H; have A31 := Qa.mk i3; clear i3; replace H := Option.bind_eq_some_iff.mp H; obtain ⟨b0, i4, H⟩ := H; replace H : (if b1 = b0 then (Qg.l0 kj2 (a1.take ((ji9) : Int).toNat) a0 a7) else (if (a4) ≤ (a0.length : Int) then (Qg.l0 kj2 a1 (a0.take ((a4) : Int).toNat) a7) else (none))) = some r := H; have A32 := Qa.mk i4; clear i4
            by_cases c33 : b1 = b0
            ·rw [if_pos c33] at H
             have i7 : (b1 == b0) = true := beq_iff_eq.mpr c33; have i8 : (b1 != b0) = false := bne_eq_false_iff_eq.mpr c33; clear c33; have k8 := eq_true (of_decide_eq_true (by first | (with_reducible assumption) | assumption) : 0 ≤ (ji9)); have k9 := eq_true (of_decide_eq_true (by first | (with_reducible assumption) | assumption) : (ji9) ≤ (a1.length : Int)); obtain ⟨b4, f4⟩ : ∃ y_ : List Int, y_ = (a1.take ((ji9) : Int).toNat) := ⟨_, rfl⟩
             replace H : (Qg.l0 kj2 b4 a0 a7) = some r := by first | (rw [f4]; with_reducible exact H) | (have H2_ := (Option.bind_some _ _).symm.trans H; rw [f4]; with_reducible exact H2_) | (have H2_ := (Option.bind_some _ _).symm.trans H; with_reducible exact H2_) | with_reducible exact H | (rw [f4]; exact H) | exact H
             have e3 := Qa.mk f4; clear f4; have H' := Qa.mk H; clear H; obtain ⟨l8, b5, eo36⟩ := Kd.V_slice a3.out; subst eo36; obtain ⟨l9, m0, eo37⟩ := Kd.V_slice a2.out; subst eo37; have d2 : 0 ≤ ((ji9) : Int) := of_decide_eq_true (by first | (with_reducible assumption) | assumption); have d3 : (ji9) < (a1.length : Int) := of_decide_eq_true (by first | (with_reducible assumption) | assumption); obtain ⟨a8, f9, g2⟩ := Kd.at_int (Kd.V_reads' a3.out).2.2 (ji9) d2 d3
             cases f9; replace d2 := eq_true d2; replace d3 := eq_true d3; have d4 : 0 ≤ ((a4) : Int) := of_decide_eq_true (by first | (with_reducible assumption) | assumption); have d5 : (a4) < (a0.length : Int) := of_decide_eq_true (by first | (with_reducible assumption) | assumption); obtain ⟨a9, g0, g3⟩ := Kd.at_int (Kd.V_reads' a2.out).2.2 (a4) d4 d5
             cases g0; replace d4 := eq_true d4; replace d5 := eq_true d5; have q38 : ((ji9) : Int) ≤ ((a1.length : Int) : Int) := of_decide_eq_true (by first | (with_reducible assumption) | assumption); obtain ⟨i038, hi038, _, hsz38, _⟩ := info_parts Vm; have hroom38 : a1.length ≤ b5 := (Kd.V_reads' a3.out).2.1; have hC38 : Kd.F (Kd.int .i64) _ _ (some a8) a1.length a1 := (Kd.V_at (base := w.heap.size) a3.out).2.2; have hcut38 := Um (P := Tryz.prog) 58 3 .i64 Tryz.underlying58 hi038 (some a8) a1.length b5 (ji9) (of_decide_eq_true (by first | (with_reducible assumption) | assumption)) q38 hroom38; have hr38 := Kd.F_take (m := ((ji9) : Int).toNat) hC38 (by omega); have h5 : b3.length = ((ji9) : Int).toNat := (by rw [f3.out, List.length_take]; omega)
             rw [← f3.out] at hr38
             rw [← h5] at hcut38
             have a6 := Qa.mk (show Kd.V (Kd.int .i64) 3 _ w.heap.size _ (.slice (some a8) b3.length b5) b3 from Kd.V_mk (by omega) hr38); have i9 := Qa.mk (show b3.length ≤ b5 from by omega); clear hr38 hC38 hroom38 hi038 hsz38; have KY38 := Qa.mk h5; clear h5; replace q38 := eq_true q38; go_wp2_with (first | (go_at_call 30; (with_reducible refine (Qe.calls kj2 _ _ b3 _ _ a0 b1 _ ?side1 ?side2 ?side3 ?side4 A31.out).mono ?_); (case side1 => repeat (first | exact (Kd.V_reads' a6.out).2.2 | (with_reducible refine Kd.C_alloc ?_ _) | (with_reducible refine Kd.C_drewN ?_ _) | (with_reducible refine Kd.C_drew ?_))); (case side2 => exact (Kd.V_reads' a6.out).2.1); (case side3 => repeat (first | exact (Kd.V_reads' a2.out).2.2 | (with_reducible refine Kd.C_alloc ?_ _) | (with_reducible refine Kd.C_drewN ?_ _) | (with_reducible refine Kd.C_drew ?_))); (case side4 => exact (Kd.V_reads' a2.out).2.1); rintro e w39 ⟨rfl, hb⟩; have n0_ := Qa.mk (Kd.V_below (by (with_reducible repeat (first | apply Kd.V_alloc | apply Kd.V_drewN | apply Kd.V_drew)); exact a3.out) hb); have n1_ := Qa.mk (Kd.V_below (by (with_reducible repeat (first | apply Kd.V_alloc | apply Kd.V_drewN | apply Kd.V_drew)); exact a2.out) hb); have n2_ := Qa.mk (Kd.R_below (by (with_reducible repeat (first | apply Kd.R_alloc | apply Kd.R_drewN | apply Kd.R_drew)); exact a5.out) hb); have n3_ := Qa.mk (Kd.V_below (by (with_reducible repeat (first | apply Kd.V_alloc | apply Kd.V_drewN | apply Kd.V_drew)); exact a6.out) hb); have n4_ := Qa.mk (Qk (by repeat (first | (with_reducible first | exact HB.out | apply Qc | apply Qb | apply Qd) | exact HB.out)) hb); clear a3; clear a2; clear a5; clear a6; clear HB; have a3 := n0_; have a2 := n1_; have a5 := n2_; have a6 := n3_; have HB := n4_; clear n0_ n1_ n2_ n3_ n4_; (try clear hb); (try clear hb2); (try clear hk); (try clear hi)) | (go_at_call 30; (with_reducible refine (Qe.calls kj2 _ _ a1 _ _ a0 b0 _ ?side1 ?side2 ?side3 ?side4 A32.out).mono ?_); (case side1 => repeat (first | exact (Kd.V_reads' a3.out).2.2 | (with_reducible refine Kd.C_alloc ?_ _) | (with_reducible refine Kd.C_drewN ?_ _) | (with_reducible refine Kd.C_drew ?_))); (case side2 => exact (Kd.V_reads' a3.out).2.1); (case side3 => repeat (first | exact (Kd.V_reads' a2.out).2.2 | (with_reducible refine Kd.C_alloc ?_ _) | (with_reducible refine Kd.C_drewN ?_ _) | (with_reducible refine Kd.C_drew ?_))); (case side4 => exact (Kd.V_reads' a2.out).2.1); rintro e w40 ⟨rfl, hb⟩; have n0_ := Qa.mk (Kd.V_below (by (with_reducible repeat (first | apply Kd.V_alloc | apply Kd.V_drewN | apply Kd.V_drew)); exact a3.out) hb); have n1_ := Qa.mk (Kd.V_below (by (with_reducible repeat (first | apply Kd.V_alloc | apply Kd.V_drewN | apply Kd.V_drew)); exact a2.out) hb); have n2_ := Qa.mk (Kd.R_below (by (with_reducible repeat (first | apply Kd.R_alloc | apply Kd.R_drewN | apply Kd.R_drew)); exact a5.out) hb); have n3_ := Qa.mk (Kd.V_below (by (with_reducible repeat (first | apply Kd.V_alloc | apply Kd.V_drewN | apply Kd.V_drew)); exact a6.out) hb); have n4_ := Qa.mk (Qk (by repeat (first | (with_reducible first | exact HB.out | apply Qc | apply Qb | apply Qd) | exact HB.out)) hb); clear a3; clear a2; clear a5; clear a6; clear HB; have a3 := n0_; have a2 := n1_; have a5 := n2_; have a6 := n3_; have HB := n4_; clear n0_ n1_ n2_ n3_ n4_; (try clear hb); (try clear hb2); (try clear hk); (try clear hi); have q41 : ((ji9) : Int) ≤ ((a1.length : Int) : Int) := of_decide_eq_true (by first | (with_reducible assumption) | assumption); obtain ⟨i041, hi041, _, hsz41, _⟩ := info_parts Vm; have hroom41 : a1.length ≤ b5 := (Kd.V_reads' a3.out).2.1; have hC41 : Kd.F (Kd.int .i64) _ _ (some a8) a1.length a1 := (Kd.V_at (base := w.heap.size) a3.out).2.2; have hcut41 := Um (P := Tryz.prog) 58 3 .i64 Tryz.underlying58 hi041 (some a8) a1.length b5 (ji9) (of_decide_eq_true (by first | (with_reducible assumption) | assumption)) q41 hroom41; have hr41 := Kd.F_take (m := ((ji9) : Int).toNat) hC41 (by omega); have e0 : b4.length = ((ji9) : Int).toNat := (by rw [e3.out, List.length_take]; omega); rw [← e3.out] at hr41; rw [← e0] at hcut41; have f8 := Qa.mk (show Kd.V (Kd.int .i64) 3 _ w.heap.size _ (.slice (some a8) b4.length b5) b4 from Kd.V_mk (by omega) hr41); have h9 := Qa.mk (show b4.length ≤ b5 from by omega); clear hr41 hC41 hroom41 hi041 hsz41; have KY41 := Qa.mk e0; clear e0; replace q41 := eq_true q41))
             repeat (go_quiet (first | (go_at_call 30; (with_reducible refine (Qe.calls kj2 _ _ b3 _ _ a0 b1 _ ?side1 ?side2 ?side3 ?side4 A31.out).mono ?_); (case side1 => repeat (first | exact (Kd.V_reads' a6.out).2.2 | (with_reducible refine Kd.C_alloc ?_ _) | (with_reducible refine Kd.C_drewN ?_ _) | (with_reducible refine Kd.C_drew ?_))); (case side2 => exact (Kd.V_reads' a6.out).2.1); (case side3 => repeat (first | exact (Kd.V_reads' a2.out).2.2 | (with_reducible refine Kd.C_alloc ?_ _) | (with_reducible refine Kd.C_drewN ?_ _) | (with_reducible refine Kd.C_drew ?_))); (case side4 => exact (Kd.V_reads' a2.out).2.1); rintro e w39 ⟨rfl, hb⟩; have n0_ := Qa.mk (Kd.V_below (by (with_reducible repeat (first | apply Kd.V_alloc | apply Kd.V_drewN | apply Kd.V_drew)); exact a3.out) hb); have n1_ := Qa.mk (Kd.V_below (by (with_reducible repeat (first | apply Kd.V_alloc | apply Kd.V_drewN | apply Kd.V_drew)); exact a2.out) hb); have n2_ := Qa.mk (Kd.R_below (by (with_reducible repeat (first | apply Kd.R_alloc | apply Kd.R_drewN | apply Kd.R_drew)); exact a5.out) hb); have n3_ := Qa.mk (Kd.V_below (by (with_reducible repeat (first | apply Kd.V_alloc | apply Kd.V_drewN | apply Kd.V_drew)); exact a6.out) hb); have n4_ := Qa.mk (Qk (by repeat (first | (with_reducible first | exact HB.out | apply Qc | apply Qb | apply Qd) | exact HB.out)) hb); clear a3; clear a2; clear a5; clear a6; clear HB; have a3 := n0_; have a2 := n1_; have a5 := n2_; have a6 := n3_; have HB := n4_; clear n0_ n1_ n2_ n3_ n4_; (try clear hb); (try clear hb2); (try clear hk); (try clear hi)) | (go_at_call 30; (with_reducible refine (Qe.calls kj2 _ _ a1 _ _ a0 b0 _ ?side1 ?side2 ?side3 ?side4 A32.out).mono ?_); (case side1 => repeat (first | exact (Kd.V_reads' a3.out).2.2 | (with_reducible refine Kd.C_alloc ?_ _) | (with_reducible refine Kd.C_drewN ?_ _) | (with_reducible refine Kd.C_drew ?_))); (case side2 => exact (Kd.V_reads' a3.out).2.1); (case side3 => repeat (first | exact (Kd.V_reads' a2.out).2.2 | (with_reducible refine Kd.C_alloc ?_ _) | (with_reducible refine Kd.C_drewN ?_ _) | (with_reducible refine Kd.C_drew ?_))); (case side4 => exact (Kd.V_reads' a2.out).2.1); rintro e w40 ⟨rfl, hb⟩; have n0_ := Qa.mk (Kd.V_below (by (with_reducible repeat (first | apply Kd.V_alloc | apply Kd.V_drewN | apply Kd.V_drew)); exact a3.out) hb); have n1_ := Qa.mk (Kd.V_below (by (with_reducible repeat (first | apply Kd.V_alloc | apply Kd.V_drewN | apply Kd.V_drew)); exact a2.out) hb); have n2_ := Qa.mk (Kd.R_below (by (with_reducible repeat (first | apply Kd.R_alloc | apply Kd.R_drewN | apply Kd.R_drew)); exact a5.out) hb); have n3_ := Qa.mk (Kd.V_below (by (with_reducible repeat (first | apply Kd.V_alloc | apply Kd.V_drewN | apply Kd.V_drew)); exact a6.out) hb); have n4_ := Qa.mk (Qk (by repeat (first | (with_reducible first | exact HB.out | apply Qc | apply Qb | apply Qd) | exact HB.out)) hb); clear a3; clear a2; clear a5; clear a6; clear HB; have a3 := n0_; have a2 := n1_; have a5 := n2_; have a6 := n3_; have HB := n4_; clear n0_ n1_ n2_ n3_ n4_; (try clear hb); (try clear hb2); (try clear hk); (try clear hi); have q41 : ((ji9) : Int) ≤ ((a1.length : Int) : Int) := of_decide_eq_true (by first | (with_reducible assumption) | assumption); obtain ⟨i041, hi041, _, hsz41, _⟩ := info_parts Vm; have hroom41 : a1.length ≤ b5 := (Kd.V_reads' a3.out).2.1; have hC41 : Kd.F (Kd.int .i64) _ _ (some a8) a1.length a1 := (Kd.V_at (base := w.heap.size) a3.out).2.2; have hcut41 := Um (P := Tryz.prog) 58 3 .i64 Tryz.underlying58 hi041 (some a8) a1.length b5 (ji9) (of_decide_eq_true (by first | (with_reducible assumption) | assumption)) q41 hroom41; have hr41 := Kd.F_take (m := ((ji9) : Int).toNat) hC41 (by omega); have e0 : b4.length = ((ji9) : Int).toNat := (by rw [e3.out, List.length_take]; omega); rw [← e3.out] at hr41; rw [← e0] at hcut41; have f8 := Qa.mk (show Kd.V (Kd.int .i64) 3 _ w.heap.size _ (.slice (some a8) b4.length b5) b4 from Kd.V_mk (by omega) hr41); have h9 := Qa.mk (show b4.length ≤ b5 from by omega); clear hr41 hC41 hroom41 hi041 hsz41; have KY41 := Qa.mk e0; clear e0; replace q41 := eq_true q41)); try go_wp2_with (first | (go_at_call 30; (with_reducible refine (Qe.calls kj2 _ _ b3 _ _ a0 b1 _ ?side1 ?side2 ?side3 ?side4 A31.out).mono ?_); (case side1 => repeat (first | exact (Kd.V_reads' a6.out).2.2 | (with_reducible refine Kd.C_alloc ?_ _) | (with_reducible refine Kd.C_drewN ?_ _) | (with_reducible refine Kd.C_drew ?_))); (case side2 => exact (Kd.V_reads' a6.out).2.1); (case side3 => repeat (first | exact (Kd.V_reads' a2.out).2.2 | (with_reducible refine Kd.C_alloc ?_ _) | (with_reducible refine Kd.C_drewN ?_ _) | (with_reducible refine Kd.C_drew ?_))); (case side4 => exact (Kd.V_reads' a2.out).2.1); rintro e w39 ⟨rfl, hb⟩; have n0_ := Qa.mk (Kd.V_below (by (with_reducible repeat (first | apply Kd.V_alloc | apply Kd.V_drewN | apply Kd.V_drew)); exact a3.out) hb); have n1_ := Qa.mk (Kd.V_below (by (with_reducible repeat (first | apply Kd.V_alloc | apply Kd.V_drewN | apply Kd.V_drew)); exact a2.out) hb); have n2_ := Qa.mk (Kd.R_below (by (with_reducible repeat (first | apply Kd.R_alloc | apply Kd.R_drewN | apply Kd.R_drew)); exact a5.out) hb); have n3_ := Qa.mk (Kd.V_below (by (with_reducible repeat (first | apply Kd.V_alloc | apply Kd.V_drewN | apply Kd.V_drew)); exact a6.out) hb); have n4_ := Qa.mk (Qk (by repeat (first | (with_reducible first | exact HB.out | apply Qc | apply Qb | apply Qd) | exact HB.out)) hb); clear a3; clear a2; clear a5; clear a6; clear HB; have a3 := n0_; have a2 := n1_; have a5 := n2_; have a6 := n3_; have HB := n4_; clear n0_ n1_ n2_ n3_ n4_; (try clear hb); (try clear hb2); (try clear hk); (try clear hi)) | (go_at_call 30; (with_reducible refine (Qe.calls kj2 _ _ a1 _ _ a0 b0 _ ?side1 ?side2 ?side3 ?side4 A32.out).mono ?_); (case side1 => repeat (first | exact (Kd.V_reads' a3.out).2.2 | (with_reducible refine Kd.C_alloc ?_ _) | (with_reducible refine Kd.C_drewN ?_ _) | (with_reducible refine Kd.C_drew ?_))); (case side2 => exact (Kd.V_reads' a3.out).2.1); (case side3 => repeat (first | exact (Kd.V_reads' a2.out).2.2 | (with_reducible refine Kd.C_alloc ?_ _) | (with_reducible refine Kd.C_drewN ?_ _) | (with_reducible refine Kd.C_drew ?_))); (case side4 => exact (Kd.V_reads' a2.out).2.1); rintro e w40 ⟨rfl, hb⟩; have n0_ := Qa.mk (Kd.V_below (by (with_reducible repeat (first | apply Kd.V_alloc | apply Kd.V_drewN | apply Kd.V_drew)); exact a3.out) hb); have n1_ := Qa.mk (Kd.V_below (by (with_reducible repeat (first | apply Kd.V_alloc | apply Kd.V_drewN | apply Kd.V_drew)); exact a2.out) hb); have n2_ := Qa.mk (Kd.R_below (by (with_reducible repeat (first | apply Kd.R_alloc | apply Kd.R_drewN | apply Kd.R_drew)); exact a5.out) hb); have n3_ := Qa.mk (Kd.V_below (by (with_reducible repeat (first | apply Kd.V_alloc | apply Kd.V_drewN | apply Kd.V_drew)); exact a6.out) hb); have n4_ := Qa.mk (Qk (by repeat (first | (with_reducible first | exact HB.out | apply Qc | apply Qb | apply Qd) | exact HB.out)) hb); clear a3; clear a2; clear a5; clear a6; clear HB; have a3 := n0_; have a2 := n1_; have a5 := n2_; have a6 := n3_; have HB := n4_; clear n0_ n1_ n2_ n3_ n4_; (try clear hb); (try clear hb2); (try clear hk); (try clear hi); have q41 : ((ji9) : Int) ≤ ((a1.length : Int) : Int) := of_decide_eq_true (by first | (with_reducible assumption) | assumption); obtain ⟨i041, hi041, _, hsz41, _⟩ := info_parts Vm; have hroom41 : a1.length ≤ b5 := (Kd.V_reads' a3.out).2.1; have hC41 : Kd.F (Kd.int .i64) _ _ (some a8) a1.length a1 := (Kd.V_at (base := w.heap.size) a3.out).2.2; have hcut41 := Um (P := Tryz.prog) 58 3 .i64 Tryz.underlying58 hi041 (some a8) a1.length b5 (ji9) (of_decide_eq_true (by first | (with_reducible assumption) | assumption)) q41 hroom41; have hr41 := Kd.F_take (m := ((ji9) : Int).toNat) hC41 (by omega); have e0 : b4.length = ((ji9) : Int).toNat := (by rw [e3.out, List.length_take]; omega); rw [← e3.out] at hr41; rw [← e0] at hcut41; have f8 := Qa.mk (show Kd.V (Kd.int .i64) 3 _ w.heap.size _ (.slice (some a8) b4.length b5) b4 from Kd.V_mk (by omega) hr41); have h9 := Qa.mk (show b4.length ≤ b5 from by omega); clear hr41 hC41 hroom41 hi041 hsz41; have KY41 := Qa.mk e0; clear e0; replace q41 := eq_true q41)))
             go_roundg kj2
             case measure => have := HK1.out; have := HJ2.out; omega
             case rel => exact ⟨(b4), (a0), (a7), H', ⟨by have := HK1.out; have := HJ2.out; omega⟩, ⟨by (with_reducible repeat (first | apply Kd.V_alloc | apply Kd.V_drewN | apply Kd.V_drew)); first | exact f8.out | (have e_ : b3 = b4 := (by rw [f3.out, e3.out]); rw [show b3.length = b4.length from congrArg List.length e_]; exact f8.out)⟩, ⟨by (with_reducible repeat (first | apply Kd.V_alloc | apply Kd.V_drewN | apply Kd.V_drew)); exact a2.out⟩, ⟨by (with_reducible repeat (first | apply Kd.R_alloc | apply Kd.R_drewN | apply Kd.R_drew)); exact a5.out⟩, ⟨by repeat (first | (with_reducible first | exact HB.out | apply Qc | apply Qb | apply Qd) | exact HB.out)⟩⟩
            ·rw [if_neg c33] at H
             have i7 : (b1 == b0) = false := beq_eq_false_iff_ne.mpr c33; have i8 : (b1 != b0) = true := bne_iff_ne.mpr c33; have l3 := eq_true (of_decide_eq_true (by first | (with_reducible assumption) | assumption) : 0 ≤ (a4))
             by_cases c43 : (a4) ≤ (a0.length : Int)
             ·rw [if_pos c43] at H
              have l4 := eq_true c43; have l5 : decide ((a4) ≤ (a0.length : Int)) = true := decide_eq_true c43; clear c43; obtain ⟨b8, f5⟩ : ∃ y_ : List Int, y_ = (a0.take ((a4) : Int).toNat) := ⟨_, rfl⟩
              replace H : (Qg.l0 kj2 a1 b8 a7) = some r := by first | (rw [f5]; with_reducible exact H) | (have H2_ := (Option.bind_some _ _).symm.trans H; rw [f5]; with_reducible exact H2_) | (have H2_ := (Option.bind_some _ _).symm.trans H; with_reducible exact H2_) | with_reducible exact H | (rw [f5]; exact H) | exact H
              have e7 := Qa.mk f5; clear f5; have H' := Qa.mk H; clear H; obtain ⟨m1, h2, eo44⟩ := Kd.V_slice a3.out; subst eo44; obtain ⟨m2, d1, eo45⟩ := Kd.V_slice a2.out; subst eo45; have d2 : 0 ≤ ((ji9) : Int) := of_decide_eq_true (by first | (with_reducible assumption) | assumption); have d3 : (ji9) < (a1.length : Int) := of_decide_eq_true (by first | (with_reducible assumption) | assumption); obtain ⟨a8, f9, g2⟩ := Kd.at_int (Kd.V_reads' a3.out).2.2 (ji9) d2 d3
              cases f9; replace d2 := eq_true d2; replace d3 := eq_true d3; have d4 : 0 ≤ ((a4) : Int) := of_decide_eq_true (by first | (with_reducible assumption) | assumption); have d5 : (a4) < (a0.length : Int) := of_decide_eq_true (by first | (with_reducible assumption) | assumption); obtain ⟨a9, g0, g3⟩ := Kd.at_int (Kd.V_reads' a2.out).2.2 (a4) d4 d5
              cases g0; replace d4 := eq_true d4; replace d5 := eq_true d5; have q46 : ((ji9) : Int) ≤ ((a1.length : Int) : Int) := of_decide_eq_true (by first | (with_reducible assumption) | assumption); obtain ⟨i046, hi046, _, hsz46, _⟩ := info_parts Vm; have hroom46 : a1.length ≤ h2 := (Kd.V_reads' a3.out).2.1; have hC46 : Kd.F (Kd.int .i64) _ _ (some a8) a1.length a1 := (Kd.V_at (base := w.heap.size) a3.out).2.2; have hcut46 := Um (P := Tryz.prog) 58 3 .i64 Tryz.underlying58 hi046 (some a8) a1.length h2 (ji9) (of_decide_eq_true (by first | (with_reducible assumption) | assumption)) q46 hroom46; have hr46 := Kd.F_take (m := ((ji9) : Int).toNat) hC46 (by omega); have h6 : b3.length = ((ji9) : Int).toNat := (by rw [f3.out, List.length_take]; omega)
              rw [← f3.out] at hr46
              rw [← h6] at hcut46
              have a6 := Qa.mk (show Kd.V (Kd.int .i64) 3 _ w.heap.size _ (.slice (some a8) b3.length h2) b3 from Kd.V_mk (by omega) hr46); have i9 := Qa.mk (show b3.length ≤ h2 from by omega); clear hr46 hC46 hroom46 hi046 hsz46; have KY46 := Qa.mk h6; clear h6; replace q46 := eq_true q46; go_wp2_with (first | (go_at_call 30; (with_reducible refine (Qe.calls kj2 _ _ b3 _ _ a0 b1 _ ?side1 ?side2 ?side3 ?side4 A31.out).mono ?_); (case side1 => repeat (first | exact (Kd.V_reads' a6.out).2.2 | (with_reducible refine Kd.C_alloc ?_ _) | (with_reducible refine Kd.C_drewN ?_ _) | (with_reducible refine Kd.C_drew ?_))); (case side2 => exact (Kd.V_reads' a6.out).2.1); (case side3 => repeat (first | exact (Kd.V_reads' a2.out).2.2 | (with_reducible refine Kd.C_alloc ?_ _) | (with_reducible refine Kd.C_drewN ?_ _) | (with_reducible refine Kd.C_drew ?_))); (case side4 => exact (Kd.V_reads' a2.out).2.1); rintro e w47 ⟨rfl, hb⟩; have n0_ := Qa.mk (Kd.V_below (by (with_reducible repeat (first | apply Kd.V_alloc | apply Kd.V_drewN | apply Kd.V_drew)); exact a3.out) hb); have n1_ := Qa.mk (Kd.V_below (by (with_reducible repeat (first | apply Kd.V_alloc | apply Kd.V_drewN | apply Kd.V_drew)); exact a2.out) hb); have n2_ := Qa.mk (Kd.R_below (by (with_reducible repeat (first | apply Kd.R_alloc | apply Kd.R_drewN | apply Kd.R_drew)); exact a5.out) hb); have n3_ := Qa.mk (Kd.V_below (by (with_reducible repeat (first | apply Kd.V_alloc | apply Kd.V_drewN | apply Kd.V_drew)); exact a6.out) hb); have n4_ := Qa.mk (Qk (by repeat (first | (with_reducible first | exact HB.out | apply Qc | apply Qb | apply Qd) | exact HB.out)) hb); clear a3; clear a2; clear a5; clear a6; clear HB; have a3 := n0_; have a2 := n1_; have a5 := n2_; have a6 := n3_; have HB := n4_; clear n0_ n1_ n2_ n3_ n4_; (try clear hb); (try clear hb2); (try clear hk); (try clear hi)) | (go_at_call 30; (with_reducible refine (Qe.calls kj2 _ _ a1 _ _ a0 b0 _ ?side1 ?side2 ?side3 ?side4 A32.out).mono ?_); (case side1 => repeat (first | exact (Kd.V_reads' a3.out).2.2 | (with_reducible refine Kd.C_alloc ?_ _) | (with_reducible refine Kd.C_drewN ?_ _) | (with_reducible refine Kd.C_drew ?_))); (case side2 => exact (Kd.V_reads' a3.out).2.1); (case side3 => repeat (first | exact (Kd.V_reads' a2.out).2.2 | (with_reducible refine Kd.C_alloc ?_ _) | (with_reducible refine Kd.C_drewN ?_ _) | (with_reducible refine Kd.C_drew ?_))); (case side4 => exact (Kd.V_reads' a2.out).2.1); rintro e w48 ⟨rfl, hb⟩; have n0_ := Qa.mk (Kd.V_below (by (with_reducible repeat (first | apply Kd.V_alloc | apply Kd.V_drewN | apply Kd.V_drew)); exact a3.out) hb); have n1_ := Qa.mk (Kd.V_below (by (with_reducible repeat (first | apply Kd.V_alloc | apply Kd.V_drewN | apply Kd.V_drew)); exact a2.out) hb); have n2_ := Qa.mk (Kd.R_below (by (with_reducible repeat (first | apply Kd.R_alloc | apply Kd.R_drewN | apply Kd.R_drew)); exact a5.out) hb); have n3_ := Qa.mk (Kd.V_below (by (with_reducible repeat (first | apply Kd.V_alloc | apply Kd.V_drewN | apply Kd.V_drew)); exact a6.out) hb); have n4_ := Qa.mk (Qk (by repeat (first | (with_reducible first | exact HB.out | apply Qc | apply Qb | apply Qd) | exact HB.out)) hb); clear a3; clear a2; clear a5; clear a6; clear HB; have a3 := n0_; have a2 := n1_; have a5 := n2_; have a6 := n3_; have HB := n4_; clear n0_ n1_ n2_ n3_ n4_; (try clear hb); (try clear hb2); (try clear hk); (try clear hi); have q49 : ((a4) : Int) ≤ ((a0.length : Int) : Int) := of_decide_eq_true (by first | (with_reducible assumption) | assumption); obtain ⟨i049, hi049, _, hsz49, _⟩ := info_parts Vm; have hroom49 : a0.length ≤ d1 := (Kd.V_reads' a2.out).2.1; have hC49 : Kd.F (Kd.int .i64) _ _ (some a9) a0.length a0 := (Kd.V_at (base := w.heap.size) a2.out).2.2; have hcut49 := Um (P := Tryz.prog) 58 3 .i64 Tryz.underlying58 hi049 (some a9) a0.length d1 (a4) (of_decide_eq_true (by first | (with_reducible assumption) | assumption)) q49 hroom49; have hr49 := Kd.F_take (m := ((a4) : Int).toNat) hC49 (by omega); have e1 : b8.length = ((a4) : Int).toNat := (by rw [e7.out, List.length_take]; omega); rw [← e7.out] at hr49; rw [← e1] at hcut49; have h3 := Qa.mk (show Kd.V (Kd.int .i64) 3 _ w.heap.size _ (.slice (some a9) b8.length d1) b8 from Kd.V_mk (by omega) hr49); have i0 := Qa.mk (show b8.length ≤ d1 from by omega); clear hr49 hC49 hroom49 hi049 hsz49; have KY49 := Qa.mk e1; clear e1; replace q49 := eq_true q49))
              repeat (go_quiet (first | (go_at_call 30; (with_reducible refine (Qe.calls kj2 _ _ b3 _ _ a0 b1 _ ?side1 ?side2 ?side3 ?side4 A31.out).mono ?_); (case side1 => repeat (first | exact (Kd.V_reads' a6.out).2.2 | (with_reducible refine Kd.C_alloc ?_ _) | (with_reducible refine Kd.C_drewN ?_ _) | (with_reducible refine Kd.C_drew ?_))); (case side2 => exact (Kd.V_reads' a6.out).2.1); (case side3 => repeat (first | exact (Kd.V_reads' a2.out).2.2 | (with_reducible refine Kd.C_alloc ?_ _) | (with_reducible refine Kd.C_drewN ?_ _) | (with_reducible refine Kd.C_drew ?_))); (case side4 => exact (Kd.V_reads' a2.out).2.1); rintro e w47 ⟨rfl, hb⟩; have n0_ := Qa.mk (Kd.V_below (by (with_reducible repeat (first | apply Kd.V_alloc | apply Kd.V_drewN | apply Kd.V_drew)); exact a3.out) hb); have n1_ := Qa.mk (Kd.V_below (by (with_reducible repeat (first | apply Kd.V_alloc | apply Kd.V_drewN | apply Kd.V_drew)); exact a2.out) hb); have n2_ := Qa.mk (Kd.R_below (by (with_reducible repeat (first | apply Kd.R_alloc | apply Kd.R_drewN | apply Kd.R_drew)); exact a5.out) hb); have n3_ := Qa.mk (Kd.V_below (by (with_reducible repeat (first | apply Kd.V_alloc | apply Kd.V_drewN | apply Kd.V_drew)); exact a6.out) hb); have n4_ := Qa.mk (Qk (by repeat (first | (with_reducible first | exact HB.out | apply Qc | apply Qb | apply Qd) | exact HB.out)) hb); clear a3; clear a2; clear a5; clear a6; clear HB; have a3 := n0_; have a2 := n1_; have a5 := n2_; have a6 := n3_; have HB := n4_; clear n0_ n1_ n2_ n3_ n4_; (try clear hb); (try clear hb2); (try clear hk); (try clear hi)) | (go_at_call 30; (with_reducible refine (Qe.calls kj2 _ _ a1 _ _ a0 b0 _ ?side1 ?side2 ?side3 ?side4 A32.out).mono ?_); (case side1 => repeat (first | exact (Kd.V_reads' a3.out).2.2 | (with_reducible refine Kd.C_alloc ?_ _) | (with_reducible refine Kd.C_drewN ?_ _) | (with_reducible refine Kd.C_drew ?_))); (case side2 => exact (Kd.V_reads' a3.out).2.1); (case side3 => repeat (first | exact (Kd.V_reads' a2.out).2.2 | (with_reducible refine Kd.C_alloc ?_ _) | (with_reducible refine Kd.C_drewN ?_ _) | (with_reducible refine Kd.C_drew ?_))); (case side4 => exact (Kd.V_reads' a2.out).2.1); rintro e w48 ⟨rfl, hb⟩; have n0_ := Qa.mk (Kd.V_below (by (with_reducible repeat (first | apply Kd.V_alloc | apply Kd.V_drewN | apply Kd.V_drew)); exact a3.out) hb); have n1_ := Qa.mk (Kd.V_below (by (with_reducible repeat (first | apply Kd.V_alloc | apply Kd.V_drewN | apply Kd.V_drew)); exact a2.out) hb); have n2_ := Qa.mk (Kd.R_below (by (with_reducible repeat (first | apply Kd.R_alloc | apply Kd.R_drewN | apply Kd.R_drew)); exact a5.out) hb); have n3_ := Qa.mk (Kd.V_below (by (with_reducible repeat (first | apply Kd.V_alloc | apply Kd.V_drewN | apply Kd.V_drew)); exact a6.out) hb); have n4_ := Qa.mk (Qk (by repeat (first | (with_reducible first | exact HB.out | apply Qc | apply Qb | apply Qd) | exact HB.out)) hb); clear a3; clear a2; clear a5; clear a6; clear HB; have a3 := n0_; have a2 := n1_; have a5 := n2_; have a6 := n3_; have HB := n4_; clear n0_ n1_ n2_ n3_ n4_; (try clear hb); (try clear hb2); (try clear hk); (try clear hi); have q49 : ((a4) : Int) ≤ ((a0.length : Int) : Int) := of_decide_eq_true (by first | (with_reducible assumption) | assumption); obtain ⟨i049, hi049, _, hsz49, _⟩ := info_parts Vm; have hroom49 : a0.length ≤ d1 := (Kd.V_reads' a2.out).2.1; have hC49 : Kd.F (Kd.int .i64) _ _ (some a9) a0.length a0 := (Kd.V_at (base := w.heap.size) a2.out).2.2; have hcut49 := Um (P := Tryz.prog) 58 3 .i64 Tryz.underlying58 hi049 (some a9) a0.length d1 (a4) (of_decide_eq_true (by first | (with_reducible assumption) | assumption)) q49 hroom49; have hr49 := Kd.F_take (m := ((a4) : Int).toNat) hC49 (by omega); have e1 : b8.length = ((a4) : Int).toNat := (by rw [e7.out, List.length_take]; omega); rw [← e7.out] at hr49; rw [← e1] at hcut49; have h3 := Qa.mk (show Kd.V (Kd.int .i64) 3 _ w.heap.size _ (.slice (some a9) b8.length d1) b8 from Kd.V_mk (by omega) hr49); have i0 := Qa.mk (show b8.length ≤ d1 from by omega); clear hr49 hC49 hroom49 hi049 hsz49; have KY49 := Qa.mk e1; clear e1; replace q49 := eq_true q49)); try go_wp2_with (first | (go_at_call 30; (with_reducible refine (Qe.calls kj2 _ _ b3 _ _ a0 b1 _ ?side1 ?side2 ?side3 ?side4 A31.out).mono ?_); (case side1 => repeat (first | exact (Kd.V_reads' a6.out).2.2 | (with_reducible refine Kd.C_alloc ?_ _) | (with_reducible refine Kd.C_drewN ?_ _) | (with_reducible refine Kd.C_drew ?_))); (case side2 => exact (Kd.V_reads' a6.out).2.1); (case side3 => repeat (first | exact (Kd.V_reads' a2.out).2.2 | (with_reducible refine Kd.C_alloc ?_ _) | (with_reducible refine Kd.C_drewN ?_ _) | (with_reducible refine Kd.C_drew ?_))); (case side4 => exact (Kd.V_reads' a2.out).2.1); rintro e w47 ⟨rfl, hb⟩; have n0_ := Qa.mk (Kd.V_below (by (with_reducible repeat (first | apply Kd.V_alloc | apply Kd.V_drewN | apply Kd.V_drew)); exact a3.out) hb); have n1_ := Qa.mk (Kd.V_below (by (with_reducible repeat (first | apply Kd.V_alloc | apply Kd.V_drewN | apply Kd.V_drew)); exact a2.out) hb); have n2_ := Qa.mk (Kd.R_below (by (with_reducible repeat (first | apply Kd.R_alloc | apply Kd.R_drewN | apply Kd.R_drew)); exact a5.out) hb); have n3_ := Qa.mk (Kd.V_below (by (with_reducible repeat (first | apply Kd.V_alloc | apply Kd.V_drewN | apply Kd.V_drew)); exact a6.out) hb); have n4_ := Qa.mk (Qk (by repeat (first | (with_reducible first | exact HB.out | apply Qc | apply Qb | apply Qd) | exact HB.out)) hb); clear a3; clear a2; clear a5; clear a6; clear HB; have a3 := n0_; have a2 := n1_; have a5 := n2_; have a6 := n3_; have HB := n4_; clear n0_ n1_ n2_ n3_ n4_; (try clear hb); (try clear hb2); (try clear hk); (try clear hi)) | (go_at_call 30; (with_reducible refine (Qe.calls kj2 _ _ a1 _ _ a0 b0 _ ?side1 ?side2 ?side3 ?side4 A32.out).mono ?_); (case side1 => repeat (first | exact (Kd.V_reads' a3.out).2.2 | (with_reducible refine Kd.C_alloc ?_ _) | (with_reducible refine Kd.C_drewN ?_ _) | (with_reducible refine Kd.C_drew ?_))); (case side2 => exact (Kd.V_reads' a3.out).2.1); (case side3 => repeat (first | exact (Kd.V_reads' a2.out).2.2 | (with_reducible refine Kd.C_alloc ?_ _) | (with_reducible refine Kd.C_drewN ?_ _) | (with_reducible refine Kd.C_drew ?_))); (case side4 => exact (Kd.V_reads' a2.out).2.1); rintro e w48 ⟨rfl, hb⟩; have n0_ := Qa.mk (Kd.V_below (by (with_reducible repeat (first | apply Kd.V_alloc | apply Kd.V_drewN | apply Kd.V_drew)); exact a3.out) hb); have n1_ := Qa.mk (Kd.V_below (by (with_reducible repeat (first | apply Kd.V_alloc | apply Kd.V_drewN | apply Kd.V_drew)); exact a2.out) hb); have n2_ := Qa.mk (Kd.R_below (by (with_reducible repeat (first | apply Kd.R_alloc | apply Kd.R_drewN | apply Kd.R_drew)); exact a5.out) hb); have n3_ := Qa.mk (Kd.V_below (by (with_reducible repeat (first | apply Kd.V_alloc | apply Kd.V_drewN | apply Kd.V_drew)); exact a6.out) hb); have n4_ := Qa.mk (Qk (by repeat (first | (with_reducible first | exact HB.out | apply Qc | apply Qb | apply Qd) | exact HB.out)) hb); clear a3; clear a2; clear a5; clear a6; clear HB; have a3 := n0_; have a2 := n1_; have a5 := n2_; have a6 := n3_; have HB := n4_; clear n0_ n1_ n2_ n3_ n4_; (try clear hb); (try clear hb2); (try clear hk); (try clear hi); have q49 : ((a4) : Int) ≤ ((a0.length : Int) : Int) := of_decide_eq_true (by first | (with_reducible assumption) | assumption); obtain ⟨i049, hi049, _, hsz49, _⟩ := info_parts Vm; have hroom49 : a0.length ≤ d1 := (Kd.V_reads' a2.out).2.1; have hC49 : Kd.F (Kd.int .i64) _ _ (some a9) a0.length a0 := (Kd.V_at (base := w.heap.size) a2.out).2.2; have hcut49 := Um (P := Tryz.prog) 58 3 .i64 Tryz.underlying58 hi049 (some a9) a0.length d1 (a4) (of_decide_eq_true (by first | (with_reducible assumption) | assumption)) q49 hroom49; have hr49 := Kd.F_take (m := ((a4) : Int).toNat) hC49 (by omega); have e1 : b8.length = ((a4) : Int).toNat := (by rw [e7.out, List.length_take]; omega); rw [← e7.out] at hr49; rw [← e1] at hcut49; have h3 := Qa.mk (show Kd.V (Kd.int .i64) 3 _ w.heap.size _ (.slice (some a9) b8.length d1) b8 from Kd.V_mk (by omega) hr49); have i0 := Qa.mk (show b8.length ≤ d1 from by omega); clear hr49 hC49 hroom49 hi049 hsz49; have KY49 := Qa.mk e1; clear e1; replace q49 := eq_true q49)))
              go_roundg kj2
              case measure => have := HK1.out; have := HJ2.out; omega
              case rel => exact ⟨(a1), (b8), (a7), H', ⟨by have := HK1.out; have := HJ2.out; omega⟩, ⟨by (with_reducible repeat (first | apply Kd.V_alloc | apply Kd.V_drewN | apply Kd.V_drew)); exact a3.out⟩, ⟨by (with_reducible repeat (first | apply Kd.V_alloc | apply Kd.V_drewN | apply Kd.V_drew)); exact h3.out⟩, ⟨by (with_reducible repeat (first | apply Kd.R_alloc | apply Kd.R_drewN | apply Kd.R_drew)); exact a5.out⟩, ⟨by repeat (first | (with_reducible first | exact HB.out | apply Qc | apply Qb | apply Qd) | exact HB.out)⟩⟩
             ·rw [if_neg c43] at H
              exact absurd H (by simp)
           ·rw [if_neg c30] at H
            exact absurd H (by simp)
         ·rw [if_neg c14] at H
          exact absurd H (by simp)
        ·rw [if_neg c13] at H
         exact absurd H (by simp)
       ·rw [if_neg c11] at H
        exact absurd H (by simp)
      ·rw [if_neg c10] at H
       exact absurd H (by simp)
     ·replace c8 := Bool.eq_false_iff.mpr c8
      subst c8
      have H1 : (some a7) = some r := by rw [if_neg (show ¬ (false = true) by decide)] at H; exact H
      clear H; have H := H1; clear H1; obtain rfl := Option.some.inj H
      go_wp2
      repeat (go_quiet (fail); try go_wp2)
      go_ret; exact ⟨_, by first | rfl | (simp [Qz, Za] <;> rfl) | (simp [*, Qz, Za] <;> rfl), by (with_reducible repeat (first | apply Kd.R_alloc | apply Kd.R_drewN | apply Kd.R_drew)); exact a5.out, by repeat (first | (with_reducible first | exact HB.out | apply Qc | apply Qb | apply Qd) | exact HB.out)⟩
end Go.Proofs.YtadafplbgophfaaGreatDoor.PA
end
section
namespace Go.Proofs.YtadafplbgophfaaGreatDoor.PA
open Go.RowKit Go.Proofs.YtadafplbgophfaaGreatDoorW.PrintWords Go.Proofs.YtadafplbgophfaaGreatDoorW.PrintLast Go.Proofs.YtadafplbgophfaaGreatDoorW.PrintMore
namespace FavT
open TriLcs
def Jl (a b : Int) : Int → Int → List S73 → Bool
 | _, _, [] => true
 | pa, pb, p :: l => decide (pa < p.f0 ∧ pb < p.f1 ∧ p.f0 < a ∧ p.f1 < b) && Jl a b p.f0 p.f1 l
theorem Uc {a b pa pb : Int} {p : S73} {l : List S73} : Jl a b pa pb (p :: l) = true ↔ (pa < p.f0 ∧ pb < p.f1 ∧ p.f0 < a ∧ p.f1 < b) ∧ Jl a b p.f0 p.f1 l = true := by
 simp [Jl, and_assoc]
theorem Qcq {a b : Int} : ∀ (l : List S73) (pa pb : Int), Jl a b pa pb l = true → ∀ p ∈ l, pa < p.f0 ∧ p.f0 < a ∧ pb < p.f1 ∧ p.f1 < b
 | [], _, _, _, p, hp => by simp at hp
 | q :: l, pa, pb, h, p, hp => by
  obtain ⟨⟨h1, h2, h3, h4⟩, h5⟩ := Uc.1 h
  rcases List.mem_cons.1 hp with e | e
  ·subst e; exact ⟨h1, h3, h2, h4⟩
  ·obtain ⟨g1, g2, g3, g4⟩ := Qcq l _ _ h5 p e
   exact ⟨by omega, g2, by omega, g4⟩
theorem Qde {a b a' b' : Int} (ha : a ≤ a') (hb : b ≤ b') : ∀ (l : List S73) (pa pb : Int), Jl a b pa pb l = true → Jl a' b' pa pb l = true
 | [], _, _, _ => rfl
 | q :: l, pa, pb, h => by
  obtain ⟨⟨h1, h2, h3, h4⟩, h5⟩ := Uc.1 h; exact Uc.2 ⟨⟨h1, h2, by omega, by omega⟩, Qde ha hb l _ _ h5⟩
theorem Qgo {n m : Int} : ∀ (l : List S73) (pa pb : Int), Jl n m pa pb l = true → pa < n → pb < m → Jl (n + 1) (m + 1) pa pb (l ++ [⟨n, m⟩]) = true
 | [], pa, pb, _, h1, h2 => Uc.2 ⟨⟨h1, h2, by show n < n + 1; omega, by show m < m + 1; omega⟩, rfl⟩
 | q :: l, pa, pb, h, _, _ => by
  obtain ⟨⟨h1, h2, h3, h4⟩, h5⟩ := Uc.1 h; exact Uc.2 ⟨⟨h1, h2, by omega, by omega⟩, Qgo l _ _ h5 h3 h4⟩
theorem Qec (a : List Int) (n : Nat) (i : Int) (h0 : 0 ≤ i) (h : i < n) : rd (a.take n) i = rd a i := by
 have : i.toNat < n := by omega
 simp [rd, List.getD_eq_getElem?_getD, List.getElem?_take, this]
theorem Qoy : ∀ (n : Nat) (a b : List Int) (acc : List S73), a.length + b.length ≤ n → n ≤ 10000 → acc.length + a.length ≤ 10000 →
  ∃ ps, Ev (fun k => Qg.l0 k a b acc) (ps ++ acc) ∧ Jl a.length b.length (-1) (-1) ps = true ∧ (∀ p ∈ ps, rd a p.f0 = rd b p.f1) ∧ ps.length ≤ a.length ∧ (a = b → ps.length = a.length) := by
 intro n
 induction n with
 | zero =>
  intro a b acc h1 h2 h3; refine ⟨[], Ev.step (f := fun k => Qg.j1 k a b acc false) (fun k => ?_) (Ev.step (f := fun _ => some acc) (fun k => ?_) (Ev.now _)), rfl, by simp, Nat.zero_le _, fun _ => by simp only [List.length_nil]; omega⟩
  ·simp only [Qg.l0]; rw [if_neg (by omega)]
  ·simp only [Qg.j1]; rw [if_neg (by simp)]
 | succ n ih =>
  intro a b acc h1 h2 h3
  by_cases ha : 0 < a.length
  ·by_cases hb : 0 < b.length
   ·have wa := Qqr ha (by omega)
    have wb := Qqr hb (by omega)
    have lta : (a.take (a.length - 1)).length = a.length - 1 := by rw [List.length_take]; omega
    have ltb : (b.take (b.length - 1)).length = b.length - 1 := by rw [List.length_take]; omega
    have p1 : (0 : Int) ≤ ((a.length - 1 : Nat) : Int) := by omega
    have p2 : ((a.length - 1 : Nat) : Int) < (a.length : Int) := by omega
    have p3 : (0 : Int) ≤ ((b.length - 1 : Nat) : Int) := by omega
    have p4 : ((b.length - 1 : Nat) : Int) < (b.length : Int) := by omega
    have p5 : ((a.length - 1 : Nat) : Int) ≤ (a.length : Int) := by omega
    have p6 : ((b.length - 1 : Nat) : Int) ≤ (b.length : Int) := by omega
    have start : ∀ {r}, Ev (fun k => Qg.j1 k a b acc true) r → Ev (fun k => Qg.l0 k a b acc) r := fun h => Ev.step (fun k => by
     simp only [Qg.l0]; rw [if_pos (by omega), show decide ((b.length : Int) > 0) = true from decide_eq_true (by omega)]) h
    by_cases he : rd a ((a.length - 1 : Nat) : Int) = rd b ((b.length - 1 : Nat) : Int)
    ·obtain ⟨ps, hE, hr, hq, hlen, hsame⟩ := ih (a.take (a.length - 1)) (b.take (b.length - 1)) ([(⟨((a.length - 1 : Nat) : Int), ((b.length - 1 : Nat) : Int)⟩ : S73)] ++ acc) (by rw [lta, ltb]; omega) (by omega) (by rw [lta, List.length_append, List.length_singleton]; omega)
     rw [lta, ltb] at hr
     rw [lta] at hlen
     have hm := Qcq ps _ _ hr; refine ⟨ps ++ [⟨((a.length - 1 : Nat) : Int), ((b.length - 1 : Nat) : Int)⟩], start (Ev.step (fun k => ?_) (by rw [List.append_assoc]; exact hE)), ?_, ?_, by rw [List.length_append, List.length_singleton]; omega, fun e => by rw [List.length_append, List.length_singleton, hsame (by rw [e]), lta]; omega⟩
     ·simp only [Qg.j1]
      rw [wa, wb, if_pos trivial, if_pos p1, if_pos p2, if_pos p3, if_pos p4, if_pos he, Option.bind_some, if_pos (by rw [List.length_singleton]; omega), if_pos p5, if_pos p6, Int.toNat_natCast, Int.toNat_natCast]
     ·have := Qgo ps (-1) (-1) hr (by omega) (by omega)
      rwa [show ((a.length - 1 : Nat) : Int) + 1 = (a.length : Int) by omega, show ((b.length - 1 : Nat) : Int) + 1 = (b.length : Int) by omega] at this
     ·intro p hp
      rcases List.mem_append.1 hp with e | e
      ·obtain ⟨g1, g2, g3, g4⟩ := hm p e
       have := hq p e
       rwa [Qec a _ _ (by omega) g2, Qec b _ _ (by omega) g4] at this
      ·rw [List.mem_singleton.1 e]; exact he
    ·have L1 := Qgh (a.take (a.length - 1)) b (by rw [lta]; omega) (by omega)
     have L2 := Qgh a b (by omega) (by omega)
     have go : ∀ {r}, Ev (fun k => if ((lcs (a.take (a.length - 1)) b : Nat) : Int) = ((lcs a b : Nat) : Int) then Qg.l0 k (a.take (a.length - 1)) b acc else Qg.l0 k a (b.take (b.length - 1)) acc) r → Ev (fun k => Qg.j1 k a b acc true) r := by
      intro r h; refine Ev.step (f := fun k => (Qe.f k (a.take (a.length - 1)) b).bind fun t => (Qe.f k a b).bind fun u => if t = u then Qg.l0 k (a.take (a.length - 1)) b acc else Qg.l0 k a (b.take (b.length - 1)) acc) (fun k => ?_) (Ev.bind L1 (Ev.bind L2 h)); simp only [Qg.j1]; rw [wa, wb, if_pos trivial, if_pos p1, if_pos p2, if_pos p3, if_pos p4, if_neg he, if_pos p5, if_pos p6, Int.toNat_natCast, Int.toNat_natCast]
     by_cases hc : ((lcs (a.take (a.length - 1)) b : Nat) : Int) = ((lcs a b : Nat) : Int)
     ·obtain ⟨ps, hE, hr, hq, hlen, hsame⟩ := ih (a.take (a.length - 1)) b acc (by rw [lta]; omega) (by omega) (by rw [lta]; omega)
      rw [lta] at hr hlen
      have hm := Qcq ps _ _ hr; refine ⟨ps, start (go (Ev.congr (fun k => if_pos hc) hE)), Qde (by omega) (Int.le_refl _) ps _ _ hr, fun p hp => ?_, by omega, fun e => absurd (by rw [e]) he⟩; obtain ⟨g1, g2, g3, g4⟩ := hm p hp; rw [← hq p hp, Qec a _ _ (by omega) g2]
     ·obtain ⟨ps, hE, hr, hq, hlen, hsame⟩ := ih a (b.take (b.length - 1)) acc (by rw [ltb]; omega) (by omega) (by omega)
      rw [ltb] at hr
      have hm := Qcq ps _ _ hr; refine ⟨ps, start (go (Ev.congr (fun k => if_neg hc) hE)), Qde (Int.le_refl _) (by omega) ps _ _ hr, fun p hp => ?_, hlen, fun e => absurd (by rw [e]) he⟩; obtain ⟨g1, g2, g3, g4⟩ := hm p hp; rw [hq p hp, Qec b _ _ (by omega) g4]
   ·refine ⟨[], Ev.step (f := fun k => Qg.j1 k a b acc false) (fun k => ?_) (Ev.step (f := fun _ => some acc) (fun k => ?_) (Ev.now _)), rfl, by simp, Nat.zero_le _, fun e => absurd (by rw [← e]; exact ha) hb⟩
    ·simp only [Qg.l0]; rw [if_pos (by omega), show decide ((b.length : Int) > 0) = false from decide_eq_false (by omega)]
    ·simp only [Qg.j1]; rw [if_neg (by simp)]
  ·refine ⟨[], Ev.step (f := fun k => Qg.j1 k a b acc false) (fun k => ?_) (Ev.step (f := fun _ => some acc) (fun k => ?_) (Ev.now _)), rfl, by simp, Nat.zero_le _, fun _ => by simp only [List.length_nil]; omega⟩
   ·simp only [Qg.l0]; rw [if_neg (by omega)]
   ·simp only [Qg.j1]; rw [if_neg (by simp)]
theorem Qoz (a b : List Int) (ha : a.length ≤ 1000) (hb : b.length ≤ 1000) : ∃ ps, Ev (fun k => Qg.f k a b) ps ∧ Jl a.length b.length (-1) (-1) ps = true ∧ (∀ p ∈ ps, rd a p.f0 = rd b p.f1) ∧ ps.length ≤ a.length ∧ (a = b → ps.length = a.length) := by
 obtain ⟨ps, h, r⟩ := Qoy (a.length + b.length) a b [] (Nat.le_refl _) (by omega) (by simp only [List.length_nil]; omega)
 rw [List.append_nil] at h
 exact ⟨ps, h, r⟩
end FavT
end Go.Proofs.YtadafplbgophfaaGreatDoor.PA
end
section
namespace Go.Proofs.YtadafplbgophfaaGreatDoor.PA
open Go.RowKit Go.Proofs.YtadafplbgophfaaGreatDoorW.PrintWords Go.Proofs.YtadafplbgophfaaGreatDoorW.PrintLast Go.Proofs.YtadafplbgophfaaGreatDoorW.PrintMore
open Jdg
namespace FavT
theorem Rt.ne {l : List S48} (h : Rt l) : NE l := fun x hx => (h.all x hx).2.2
theorem Qpl (a b : List ByteArray) (ha : a.length ≤ 1000) (hb : b.length ≤ 1000) : ∀ (l : List S73) (i k : Int) (out : List S48), Rng a b l i k → Rt out → Uf 2 out → tot out + (a.length - i.toNat) + (b.length - k.toNat) ≤ 10000 →
  ∃ r, Qba a b l i k out = some r ∧ Rt r
 | [], i, k, out, hr, hs, hL, hb2 => by
  have hr' : 0 ≤ i ∧ i ≤ a.length ∧ 0 ≤ k ∧ k ≤ b.length := hr; refine ⟨pt (pt out 1 (a.drop i.toNat)) 2 (b.drop k.toNat), ?_, Qga (Qga hs (by omega) (fun _ => hL)) (by omega) (fun h => by omega)⟩; simp only [Qba]; rw [if_pos hr', Kq _ (Rt.ne hs) (by rw [List.length_drop]; omega), Option.bind_some, Kq _ (Qaq (Rt.ne hs) _ _) (by rw [Ub, List.length_drop, List.length_drop]; omega)]
 | p :: l, i, k, out, hr, hs, hL, hb2 => by
  obtain ⟨hg, hm, hr2⟩ := hr
  have la : ((a.take p.f0.toNat).drop i.toNat).length = p.f0.toNat - i.toNat := by rw [List.length_drop, List.length_take]; omega
  have lb : ((b.take p.f1.toNat).drop k.toNat).length = p.f1.toNat - k.toNat := by rw [List.length_drop, List.length_take]; omega
  have t1 : tot (pt out 1 ((a.take p.f0.toNat).drop i.toNat)) = tot out + (p.f0.toNat - i.toNat) := by rw [Ub, la]
  have t2 : tot (pt (pt out 1 ((a.take p.f0.toNat).drop i.toNat)) 2 ((b.take p.f1.toNat).drop k.toNat)) = tot out + (p.f0.toNat - i.toNat) + (p.f1.toNat - k.toNat) := by rw [Ub, t1, lb]
  have s1 : Rt (pt out 1 ((a.take p.f0.toNat).drop i.toNat)) := Qga hs (by omega) (fun _ => hL); have s2 : Rt (pt (pt out 1 ((a.take p.f0.toNat).drop i.toNat)) 2 ((b.take p.f1.toNat).drop k.toNat)) := Qga s1 (by omega) (fun h => by omega); have s3 : Rt (pt (pt (pt out 1 ((a.take p.f0.toNat).drop i.toNat)) 2 ((b.take p.f1.toNat).drop k.toNat)) 0 [Zy ByteArray.empty a p.f0]) := Qga s2 (by omega) (fun h => by omega); obtain ⟨r, e2, hsr⟩ := Qpl a b ha hb l (p.f0 + 1) (p.f1 + 1) _ hr2 s3 (Qla (by simp) (by decide)) (by rw [Ub, t2]; simp only [List.length_cons, List.length_nil]; omega); refine ⟨r, ?_, hsr⟩; simp only [Qba]; rw [if_pos hg, Kq _ (Rt.ne hs) (by omega), Option.bind_some, Kq _ (Rt.ne s1) (by omega), Option.bind_some, Qjz (Rt.ne s2) (by omega), Option.bind_some, e2]
theorem Qhh (l : List ByteArray) (kn : List (List UInt8)) : (Xa (Xa kn l).2 l).1 = (Xa kn l).1 := by
 obtain ⟨_, h2, h3⟩ := Vv l kn; obtain ⟨⟨e, g1⟩, _, g3⟩ := Vv l (Xa kn l).2; rw [g3, h3, g1]
 refine List.map_congr_left fun s hs => ?_
 rw [List.idxOf_append, if_pos (h2 s hs)]
end FavT
end Go.Proofs.YtadafplbgophfaaGreatDoor.PA
end
