/- The statement LcsMatches, about numbers and lists alone: for all two lists of numbers that fit the row, the law's printed function answers true. -/
import Derived.Test.YtadafplbgophfaaPAf5
import Derived.Test.YtadafplbgophfaaLcs7
namespace Go.Proofs.Ytadafplbgophfaa.Pure
open Go.RowKit Go.Proofs.Ytadafplbgophfaa.PA Go.Proofs.YtadafplbgophfaaW.PrintWords Go.Proofs.YtadafplbgophfaaW.PrintLast Go.Proofs.YtadafplbgophfaaW.PrintMore
open Go.Proofs.Ytadafplbgophfaa.TriLcs

/-- the loop over two equal lists finds nothing that differs -/
theorem same_go (x : List S37) (hx : x.length ≤ 1000000000) : ∀ (d i : Nat), x.length - i ≤ d → i ≤ x.length → Ev (fun k => tripartitelaw03_LcsMatches.l0 k x x i) true := by
  have fin : ∀ i : Nat, ¬ i < x.length → Ev (fun k => tripartitelaw03_LcsMatches.l0 k x x i) true := by
    intro i hi
    refine Ev.step (f := fun _ => some true) (fun k => ?_) (Ev.now _)
    have c : ¬ (i : Int) < (x.length : Int) := by omega
    rw [tripartitelaw03_LcsMatches.l0, if_neg c]
  intro d
  induction d with
  | zero => intro i h1 h2; exact fin i (by omega)
  | succ d ih =>
    intro i h1 h2
    by_cases hi : i < x.length
    · have d1 : x.length - (i + 1) ≤ d := by omega
      refine Ev.step (fun k => ?_) (ih (i + 1) d1 hi)
      have hw : wrap64 ((i : Int) + 1) = ((i + 1 : Nat) : Int) := by rw [w64 (by omega) (by omega)]; omega
      have c1 : (i : Int) < (x.length : Int) := by omega
      have c2 : (0 : Int) ≤ (i : Int) := by omega
      rw [tripartitelaw03_LcsMatches.l0, if_pos c1, if_pos c2, if_pos c1, hw]
      simp
    · exact fin i hi

theorem LcsMatches : tripartitelaw03_LcsMatches.Pure := by
  intro l0 l1 _ _ _ _ _ _
  refine Ev.rounds (g := fun k => tripartitelaw03_LcsMatches.f k l0 l1) ?_
  obtain ⟨a0, a1, a2⟩ := cut_len (l := l0) (N := 200) (by omega)
  obtain ⟨b0, b1, b2⟩ := cut_len (l := l1) (N := 200) (by omega)
  unfold tripartitelaw03_LcsMatches.f
  simp only [if_pos a0, if_pos a1, if_pos b0, if_pos b1, Option.bind_some]
  generalize l0.take (mn (l0.length : Int) 200).toNat = A at *
  generalize l1.take (mn (l1.length : Int) 200).toNat = B at *
  have eA : ([] : List Int).length + A.length < 17592186044416 := by simp only [List.length_nil]; omega
  have eB : ([] : List Int).length + B.length < 17592186044416 := by simp only [List.length_nil]; omega
  simp only [if_pos eA, if_pos eB, List.nil_append]
  obtain ⟨r, e1, n1, m1⟩ := match_ok A B (by omega) (by omega)
  have hr : r.length ≤ 1000000000 := by have := lcs_le_left A B; omega
  refine Ev.bind e1 (Ev.bind (from_ok r hr) (Ev.bind e1 (Ev.bind (from_ok r hr) (Ev.bind lcs_told ?_))))
  simp only [if_pos]
  refine Ev.bind (longest_ok A B (by omega) (by omega) r m1 n1) ?_
  simp only [if_pos]
  refine Ev.bind (distance_ok A B (by omega) (by omega)) ?_
  have hd : dist A B = wrap64 (wrap64 ((A.length : Int) + (B.length : Int)) - wrap64 (2 * ((r.map to37).length : Int))) := by
    rw [List.length_map, n1, w64 (x := (A.length : Int) + B.length) (by omega) (by omega), w64 (x := 2 * _) (by omega) (by have := lcs_le_left A B; omega), w64 (by have := lcs_le_left A B; omega) (by omega)]
    rfl
  simp only [if_pos hd]
  refine Ev.bind (ref_same A A (by omega)) ?_
  have t1 : decide (A = A) = true := decide_eq_true rfl
  have t2 : decide (B = B) = true := decide_eq_true rfl
  rw [t1]
  simp only [if_pos]
  refine Ev.bind (ref_same B B (by omega)) ?_
  rw [t2]
  have hm : (r.map to37).length ≤ 1000000000 := by rw [List.length_map]; exact hr
  refine Ev.step (fun k => ?_) (same_go (r.map to37) hm (r.map to37).length 0 (by omega) (by omega))
  rw [tripartitelaw03_LcsMatches.j0, if_neg (by decide)]
  rfl

end Go.Proofs.Ytadafplbgophfaa.Pure
