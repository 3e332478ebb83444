/- The statement LcsTurns, about numbers and lists alone: for all three lists of numbers that fit the row, the law's printed function answers true. -/
import Derived.Test.YtadafplbgophfaaPAf7
import Derived.Test.YtadafplbgophfaaLcs6
namespace Go.Proofs.Ytadafplbgophfaa.Pure
open Go.RowKit Go.Proofs.Ytadafplbgophfaa.PA Go.Proofs.YtadafplbgophfaaW.PrintWords Go.Proofs.YtadafplbgophfaaW.PrintLast Go.Proofs.YtadafplbgophfaaW.PrintMore
open Go.Proofs.Ytadafplbgophfaa.TriLcs

theorem LcsTurns : tripartitelaw03_LcsTurns.Pure := by
  intro l0 l1 l2 _ _ _ _ _ _ _ _ _
  refine Ev.rounds (g := fun k => tripartitelaw03_LcsTurns.f k l0 l1 l2) ?_
  obtain ⟨a0, a1, a2⟩ := cut_len (l := l0) (N := 100) (by omega)
  obtain ⟨b0, b1, b2⟩ := cut_len (l := l1) (N := 100) (by omega)
  obtain ⟨c0, c1, c2⟩ := cut_len (l := l2) (N := 100) (by omega)
  unfold tripartitelaw03_LcsTurns.f
  simp only [if_pos a0, if_pos a1, if_pos b0, if_pos b1, if_pos c0, if_pos c1, Option.bind_some]
  generalize l0.take (mn (l0.length : Int) 100).toNat = A at *
  generalize l1.take (mn (l1.length : Int) 100).toNat = B at *
  generalize l2.take (mn (l2.length : Int) 100).toNat = C at *
  refine Ev.bind lcs_told ?_
  simp only [if_pos]
  obtain ⟨r1, e1, n1, _⟩ := match_ok A B (by omega) (by omega)
  obtain ⟨r2, e2, n2, _⟩ := match_ok B A (by omega) (by omega)
  refine Ev.bind e1 (Ev.bind e2 ?_)
  have hl : (r1.length : Int) = (r2.length : Int) := by rw [n1, n2, lcs_comm]
  simp only [if_pos hl]
  refine Ev.bind (distance_ok A C (by omega) (by omega)) (Ev.bind (distance_ok A B (by omega) (by omega)) (Ev.bind (distance_ok B C (by omega) (by omega)) ?_))
  have ht := lcs_triangle A B C
  have s1 := dist_sum A B
  have s2 := dist_sum B C
  have s3 := lcs_le_left A B
  have s4 := lcs_le_right A B
  have s5 := lcs_le_left B C
  have s6 := lcs_le_right B C
  have hd : dist A C ≤ wrap64 (dist A B + dist B C) := by
    rw [w64 (by unfold dist; omega) (by omega)]
    unfold dist; omega
  simp only [if_pos hd]
  refine Ev.bind (distance_ok A B (by omega) (by omega)) (Ev.bind (ref_same A B (by omega)) ?_)
  have he : ((dist A B == 0) == decide (A = B)) = true := by
    rw [beq_iff_eq]
    by_cases h : A = B
    · rw [decide_eq_true h]; exact beq_iff_eq.mpr (dist_zero.2 h)
    · rw [decide_eq_false h]; exact beq_eq_false_iff_ne.mpr (fun e => h (dist_zero.1 e))
  rw [he]
  exact Ev.now _

end Go.Proofs.Ytadafplbgophfaa.Pure
