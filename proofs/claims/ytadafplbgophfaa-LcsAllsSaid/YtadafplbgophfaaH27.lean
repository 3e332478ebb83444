import Derived.Test.YtadafplbgophfaaPA0
import Derived.Test.YtadafplbgophfaaH84
import Derived.Outline
namespace Go.Proofs.Ytadafplbgophfaa.PA
open Go.RowKit Go.Proofs.YtadafplbgophfaaW.PrintWords Go.Proofs.YtadafplbgophfaaW.PrintLast Go.Proofs.YtadafplbgophfaaW.PrintMore

/-- what Match answers -/
def lcs_Match.f (k : Nat) (a b : List Int) : Option (List S39) :=
  (lcs_finder_find.f k a b 0 a.length 0 b.length).bind fun r => if r.length ≤ 1000000000 then some r else none

theorem lcs_finder_middle.mono_l : ∀ k, (∀ y0 y1 y2 y3 y4 y5 y6 y7 y8 y9 y10, LeO (lcs_finder_middle.l0 k y0 y1 y2 y3 y4 y5 y6 y7 y8 y9 y10) (lcs_finder_middle.l0 (k + 1) y0 y1 y2 y3 y4 y5 y6 y7 y8 y9 y10)) ∧
    (∀ y0 y1 y2 y3 y4 y5 y6 y7 y8 y9 y10 y11, LeO (lcs_finder_middle.l1 k y0 y1 y2 y3 y4 y5 y6 y7 y8 y9 y10 y11) (lcs_finder_middle.l1 (k + 1) y0 y1 y2 y3 y4 y5 y6 y7 y8 y9 y10 y11)) ∧
    (∀ y0 y1 y2 y3 y4 y5 y6 y7 y8 y9 y10 y11, LeO (lcs_finder_middle.l2 k y0 y1 y2 y3 y4 y5 y6 y7 y8 y9 y10 y11) (lcs_finder_middle.l2 (k + 1) y0 y1 y2 y3 y4 y5 y6 y7 y8 y9 y10 y11))
  | 0 => ⟨fun _ _ _ _ _ _ _ _ _ _ _ r h => by simp [lcs_finder_middle.l0] at h, fun _ _ _ _ _ _ _ _ _ _ _ _ r h => by simp [lcs_finder_middle.l1] at h, fun _ _ _ _ _ _ _ _ _ _ _ _ r h => by simp [lcs_finder_middle.l2] at h⟩
  | k + 1 => by
    obtain ⟨ih0, ih1, ih2⟩ := lcs_finder_middle.mono_l k
    refine ⟨?_, ?_, ?_⟩
    · intro y0 y1 y2 y3 y4 y5 y6 y7 y8 y9 y10
      unfold lcs_finder_middle.l0
      exact LeO.ite (ih1 _ _ _ _ _ _ _ _ _ _ _ _) (LeO.none _)
    · intro y0 y1 y2 y3 y4 y5 y6 y7 y8 y9 y10 y11
      unfold lcs_finder_middle.l1
      exact LeO.ite (LeO.bind (LeO.refl _) fun _ => LeO.bind (LeO.refl _) fun _ => LeO.ite (LeO.refl _) (ih1 _ _ _ _ _ _ _ _ _ _ _ _)) (ih2 _ _ _ _ _ _ _ _ _ _ _ _)
    · intro y0 y1 y2 y3 y4 y5 y6 y7 y8 y9 y10 y11
      unfold lcs_finder_middle.l2
      exact LeO.ite (LeO.bind (LeO.refl _) fun _ => LeO.bind (LeO.refl _) fun _ => LeO.ite (LeO.refl _) (ih2 _ _ _ _ _ _ _ _ _ _ _ _)) (ih0 _ _ _ _ _ _ _ _ _ _ _)
theorem lcs_finder_middle.mono (k : Nat) (a b : List Int) (a0 a1 b0 b1 : Int) : LeO (lcs_finder_middle.f k a b a0 a1 b0 b1) (lcs_finder_middle.f (k + 1) a b a0 a1 b0 b1) := by
  unfold lcs_finder_middle.f
  exact LeO.ite ((lcs_finder_middle.mono_l k).1 _ _ _ _ _ _ _ _ _ _ _) (LeO.none _)
theorem lcs_finder_find.mono : ∀ (k : Nat) (a b : List Int) (a0 a1 b0 b1 : Int), LeO (lcs_finder_find.f k a b a0 a1 b0 b1) (lcs_finder_find.f (k + 1) a b a0 a1 b0 b1)
  | 0, _, _, _, _, _, _ => fun r h => by simp [lcs_finder_find.f] at h
  | k + 1, a, b, a0, a1, b0, b1 => by
    have ih := lcs_finder_find.mono k
    unfold lcs_finder_find.f
    exact LeO.ite (LeO.bind (trim_Ends_int.mono _ _ _) fun _ => LeO.ite (LeO.ite (LeO.bind (lcs_finder_middle.mono _ _ _ _ _ _ _) fun _ => LeO.ite (LeO.bind (ih _ _ _ _ _ _) fun _ => LeO.bind (ih _ _ _ _ _ _) fun _ => LeO.refl _) (LeO.none _)) (LeO.refl _)) (LeO.none _)) (LeO.none _)
theorem lcs_Match.mono : ∀ a0 a1 k, LeO (lcs_Match.f k a0 a1) (lcs_Match.f (k + 1) a0 a1) := by
  intro a b k
  unfold lcs_Match.f
  exact LeO.bind (lcs_finder_find.mono _ _ _ _ _ _ _) fun _ => LeO.refl _

set_option maxHeartbeats 4000000 in
set_option maxRecDepth 100000 in
theorem lcs_Match.calls (k : Nat) (A0 : Option Addr) (c0 : Nat) (l0 : List Int) (A1 : Option Addr) (c1 : Nat) (l1 : List Int) (r : List S39) (w : World) (hr0 : Kd.C (Kd.int .i64) w A0 l0.length l0) (hc0 : l0.length ≤ c0) (hr1 : Kd.C (Kd.int .i64) w A1 l1.length l1) (hc1 : l1.length ≤ c1) (h : lcs_Match.f k l0 l1 = some r) :
    Calls Try.prog 27 #[.slice A0 l0.length c0, .slice A1 l1.length c1] w fun e w' => ∃ v0_ : Value, e = .returned v0_ ∧ Kd.R k39 39 w' w.heap.size (fun _ => True) v0_ r ∧ Below w.heap.size w w' := by
  unfold lcs_Match.f at h
  obtain ⟨r', hf, h2⟩ := Option.bind_eq_some_iff.1 h
  clear h
  split at h2
  case isFalse => cases h2
  rename_i hl
  simp only [Option.some.injEq] at h2
  subst h2
  have HF := Aside0.mk hf
  have HR0 := Aside0.mk hr0
  have HC0 := Aside0.mk hc0
  have HR1 := Aside0.mk hr1
  have HC1 := Aside0.mk hc1
  clear hf hr0 hc0 hr1 hc1
  have hu130 := Try.underlying130
  have hu133 := Try.underlying133
  have HN : Aside0 (Fnd w (w.alloc (.cells #[.slice A0 l0.length c0, .slice A1 l1.length c1, .slice none 0 0] 130 (0, 0))) w.heap.size (.slice A0 l0.length c0) (.slice A1 l1.length c1) (.slice none 0 0) []) :=
    ⟨⟨below_alloc (Below.refl _ _) _, Nat.le_refl _, blk_new w _, Kd.R_nil _ _ _ _ _⟩⟩
  go_enter Try.func27, Try.ntmps27
  go_wp2_with fail
  refine (lcs_finder_find.calls k w.heap.size A0 c0 A1 c1 _ [] l0 l1 0 l0.length 0 l1.length r' w _ HN.out HR0.out HC0.out HR1.out HC1.out (by simpa using hl) HF.out).mono ?_
  rintro e w2 ⟨rfl, hT⟩
  obtain ⟨v', hF, _⟩ := hT.fnd
  have HF2 := Aside0.mk hF
  clear hF hT HN
  have hc := (blk_cell HF2.out.blk 2).trans (show _ = some v' from rfl)
  obtain ⟨A2, n2, c2, rfl⟩ : ∃ A n c, v' = Value.slice A n c := by obtain ⟨A, c, h⟩ := Kd.R_slice HF2.out.own; exact ⟨A, _, c, h⟩
  go_wp2
  go_ret
  exact ⟨_, rfl, Kd.R_mono HF2.out.own (fun _ _ => trivial), HF2.out.below⟩

end Go.Proofs.Ytadafplbgophfaa.PA
