/- The statement LcsRights, about numbers and lists alone: the two judges of a matching agree. -/
import Derived.Test.YtadafplbgophfaaPAf8
import Derived.Test.YtadafplbgophfaaLcs7
namespace Go.Proofs.Ytadafplbgophfaa.Pure
open Go.RowKit Go.Proofs.Ytadafplbgophfaa.PA Go.Proofs.YtadafplbgophfaaW.PrintWords Go.Proofs.YtadafplbgophfaaW.PrintLast Go.Proofs.YtadafplbgophfaaW.PrintMore
open Go.Proofs.Ytadafplbgophfaa.TriLcs

theorem LcsRights (l0 l1 : List Int) (l2 : List S37) : ∃ k, tripartitelaw03_LcsRights.f k l0 l1 l2 = some true := by
  refine Ev.rounds (g := fun k => tripartitelaw03_LcsRights.f k l0 l1 l2) ?_
  obtain ⟨a0, a1, a2⟩ := cut_len (l := l0) (N := 200) (by omega)
  obtain ⟨b0, b1, b2⟩ := cut_len (l := l1) (N := 200) (by omega)
  have c0 : 0 ≤ mn (l2.length : Int) 200 := by unfold mn; split <;> omega
  have c1 : mn (l2.length : Int) 200 ≤ (l2.length : Int) := by unfold mn; split <;> omega
  have c3 : mn (l2.length : Int) 200 ≤ 200 := by unfold mn; split <;> omega
  have c2 : (l2.take (mn (l2.length : Int) 200).toNat).length ≤ 1000000000 := by rw [List.length_take]; omega
  unfold tripartitelaw03_LcsRights.f
  simp only [if_pos a0, if_pos a1, if_pos b0, if_pos b1, if_pos c0, if_pos c1, Option.bind_some]
  generalize l0.take (mn (l0.length : Int) 200).toNat = A at *
  generalize l1.take (mn (l1.length : Int) 200).toNat = B at *
  generalize l2.take (mn (l2.length : Int) 200).toNat = C at *
  refine Ev.bind lcs_told ?_
  simp only [if_pos]
  refine Ev.bind (to_ok C c2) ?_
  obtain ⟨v, ev, iv⟩ := lcsRight_ok A B C c2
  obtain ⟨u, eu, iu⟩ := refRight_ok A B C c2
  refine Ev.bind ev (Ev.bind eu ?_)
  have : (v == u) = true := by
    rw [beq_iff_eq]
    exact Bool.eq_iff_iff.mpr (iv.trans iu.symm)
  rw [this]
  exact Ev.now _

end Go.Proofs.Ytadafplbgophfaa.Pure
