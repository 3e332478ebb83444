import Derived.Test.YtadafplbgophfaaLcs5
import Derived.Test.YtadafplbgophfaaPAf28
import Derived.Test.YtadafplbgophfaaPAf30
import Derived.Test.YtadafplbgophfaaPAf21
namespace Go.Proofs.Ytadafplbgophfaa.PA
set_option linter.unusedVariables false
open Go.RowKit Go.Proofs.YtadafplbgophfaaW.PrintWords Go.Proofs.YtadafplbgophfaaW.PrintLast Go.Proofs.YtadafplbgophfaaW.PrintMore
open Go.Proofs.Ytadafplbgophfaa.TriLcs

theorem ref_same_go (a b : List Int) (hl : a.length = b.length) (hb : a.length ≤ 1000000000000) : ∀ (d i : Nat), a.length - i ≤ d → i ≤ a.length → (∀ j, j < i → a.getD j 0 = b.getD j 0) →
    Ev (fun k => tripartiteref01_SameInts.l0 k a b i) (decide (a = b)) := by
  intro d
  induction d with
  | zero =>
    intro i h1 h2 h3
    have e : a = b := List.ext_getElem hl fun j g1 g2 => by have := h3 j (by omega); simpa [List.getD_eq_getElem?_getD, g1, g2] using this
    refine Ev.step (f := fun _ => some (decide (a = b))) (fun k => ?_) (Ev.now _)
    simp only [tripartiteref01_SameInts.l0]
    rw [if_neg (by omega), decide_eq_true e]
  | succ d ih =>
    intro i h1 h2 h3
    by_cases hi : i < a.length
    · by_cases he : a.getD i 0 = b.getD i 0
      · refine Ev.step (fun k => ?_) (ih (i + 1) (by omega) (by omega) (fun j hj => by
          rcases Nat.lt_succ_iff_lt_or_eq.1 hj with h | rfl
          · exact h3 j h
          · exact he))
        simp only [tripartiteref01_SameInts.l0]
        rw [if_pos (by omega), if_pos (by omega), if_pos (by omega), rd_nat, rd_nat, if_pos he, w64 (by omega) (by omega)]; rfl
      · refine Ev.step (f := fun _ => some (decide (a = b))) (fun k => ?_) (Ev.now _)
        simp only [tripartiteref01_SameInts.l0]
        rw [if_pos (by omega), if_pos (by omega), if_pos (by omega), rd_nat, rd_nat, if_neg he, decide_eq_false (fun h => he (by rw [h]))]
    · have e : a = b := List.ext_getElem hl fun j g1 g2 => by have := h3 j (by omega); simpa [List.getD_eq_getElem?_getD, g1, g2] using this
      refine Ev.step (f := fun _ => some (decide (a = b))) (fun k => ?_) (Ev.now _)
      simp only [tripartiteref01_SameInts.l0]
      rw [if_neg (by omega), decide_eq_true e]

theorem ref_same (a b : List Int) (hb : a.length ≤ 1000000000000) : Ev (fun k => tripartiteref01_SameInts.f k a b) (decide (a = b)) := by
  by_cases hl : a.length = b.length
  · refine Ev.congr (f := fun k => tripartiteref01_SameInts.l0 k a b (0 : Nat)) (fun k => ?_) (ref_same_go a b hl hb a.length 0 (by omega) (by omega) (fun j hj => by omega))
    unfold tripartiteref01_SameInts.f; rw [if_pos (by omega)]; rfl
  · refine Ev.congr (f := fun _ => some (decide (a = b))) (fun k => ?_) (Ev.now _)
    unfold tripartiteref01_SameInts.f; rw [if_neg (by omega), decide_eq_false (fun h => hl (by rw [h]))]

theorem distance_ok (a b : List Int) (hla : a.length ≤ 1000000000) (hlb : b.length ≤ 1000000000) : Ev (fun K => lcs_Distance.f K a b) (dist a b) := by
  obtain ⟨r, h1, h2, h3⟩ := match_ok a b hla hlb
  refine Ev.bind h1 ?_
  have q1 := lcs_le_left a b
  have : wrap64 ((wrap64 ((a.length : Int) + (b.length : Int))) - (wrap64 (2 * (r.length : Int)))) = dist a b := by
    rw [w64 (x := (a.length : Int) + b.length) (by omega) (by omega), w64 (x := 2 * (r.length : Int)) (by omega) (by omega), w64 (by omega) (by omega)]
    unfold dist; omega
  rw [this]
  exact Ev.now _

theorem lcs_told : Ev (fun k => tripartitelaw03_told.f k) true := Ev.of tripartitelaw03_told.mono (k := 40) (by decide +kernel)

theorem dist_zero {a b : List Int} : dist a b = 0 ↔ a = b := by
  constructor
  · intro h
    unfold dist at h
    exact lcs_full (by omega)
  · rintro rfl
    unfold dist; rw [lcs_self]; omega

theorem cut_len {l : List Int} {N : Int} (hN : 0 ≤ N) : 0 ≤ mn (l.length : Int) N ∧ mn (l.length : Int) N ≤ (l.length : Int) ∧ ((l.take (mn (l.length : Int) N).toNat).length : Int) ≤ N := by
  have h : 0 ≤ mn (l.length : Int) N ∧ mn (l.length : Int) N ≤ (l.length : Int) ∧ mn (l.length : Int) N ≤ N := by unfold mn; split <;> omega
  refine ⟨h.1, h.2.1, ?_⟩
  rw [List.length_take]; omega

end Go.Proofs.Ytadafplbgophfaa.PA
