/- The statement LcsAlls, about numbers and lists alone: for every list of numbers and every list of bools, the law's printed function answers true. -/
import Derived.Test.YtadafplbgophfaaPAf6
import Derived.Test.YtadafplbgophfaaLcs6
namespace Go.Proofs.Ytadafplbgophfaa.Pure
open Go.RowKit Go.Proofs.Ytadafplbgophfaa.PA Go.Proofs.YtadafplbgophfaaW.PrintWords Go.Proofs.YtadafplbgophfaaW.PrintLast Go.Proofs.YtadafplbgophfaaW.PrintMore
open Go.Proofs.Ytadafplbgophfaa.TriLcs

/-- numbers that rise, as many as there is room for: each is its own index -/
theorem rise_eq {r : List S39} {g : S39 → Int} (hp : r.Pairwise (fun p q => g p < g q)) (hr : ∀ p ∈ r, 0 ≤ g p ∧ g p < (r.length : Int)) : ∀ i (h : i < r.length), g r[i] = i := by
  have lo : ∀ i (h : i < r.length), (i : Int) ≤ g r[i] := by
    intro i
    induction i with
    | zero => intro h; exact (hr _ (List.getElem_mem h)).1
    | succ i ih =>
      intro h
      have h1 := ih (Nat.lt_of_succ_lt h)
      have h2 := List.pairwise_iff_getElem.1 hp i (i + 1) (Nat.lt_of_succ_lt h) h (Nat.lt_succ_self i)
      generalize g r[i] = p at *
      generalize g r[i + 1] = q at *
      omega
  have hi : ∀ t i (h : i < r.length), i + t + 1 = r.length → g r[i] ≤ (i : Int) := by
    intro t
    induction t with
    | zero =>
      intro i h e
      have h1 := (hr _ (List.getElem_mem h)).2
      generalize g r[i] = p at *
      omega
    | succ t ih =>
      intro i h e
      have h0 : i + 1 < r.length := by omega
      have h1 := ih (i + 1) h0 (by omega)
      have h2 := List.pairwise_iff_getElem.1 hp i (i + 1) h h0 (Nat.lt_succ_self i)
      generalize g r[i] = p at *
      generalize g r[i + 1] = q at *
      omega
  intro i h
  have h1 := lo i h
  have h2 := hi (r.length - 1 - i) i h (by omega)
  generalize g r[i] = p at *
  omega

theorem alls_last (r : List S39) (hl : r.length ≤ 1000000000) (h0 : ∀ i (h : i < r.length), (r[i]).f0 = i) (h1 : ∀ i (h : i < r.length), (r[i]).f1 = i) : ∀ (d i : Nat), r.length - i ≤ d → i ≤ r.length → Ev (fun k => tripartitelaw03_LcsAlls.l1 k r i) true := by
  have fin : ∀ i : Nat, ¬ i < r.length → Ev (fun k => tripartitelaw03_LcsAlls.l1 k r i) true := by
    intro i hi
    refine Ev.step (f := fun _ => some true) (fun k => ?_) (Ev.now _)
    have c : ¬ (i : Int) < (r.length : Int) := by omega
    rw [tripartitelaw03_LcsAlls.l1, if_neg c]
  intro d
  induction d with
  | zero => intro i g1 g2; exact fin i (by omega)
  | succ d ih =>
    intro i g1 g2
    by_cases hi : i < r.length
    · have d1 : r.length - (i + 1) ≤ d := by omega
      refine Ev.step (fun k => ?_) (ih (i + 1) d1 hi)
      have hw : wrap64 ((i : Int) + 1) = ((i + 1 : Nat) : Int) := by rw [w64 (by omega) (by omega)]; omega
      have c1 : (i : Int) < (r.length : Int) := by omega
      have c2 : (0 : Int) ≤ (i : Int) := by omega
      have e : rd_T39 r (i : Int) = r[i] := by simp [rd_T39, List.getD_eq_getElem?_getD, hi]
      rw [tripartitelaw03_LcsAlls.l1, if_pos c1, if_pos c2, hw, e, if_pos (h0 i hi), if_pos (h1 i hi)]
    · exact fin i hi

/-- the end of the law, whichever part of the list has been kept -/
theorem alls_end (A S : List Int) (hA : A.length ≤ 200) (hS : S.Sublist A) (l1 : List Bool) (i : Nat) (hi : ¬ i < A.length) : Ev (fun k => tripartitelaw03_LcsAlls.l0 k A l1 S i) true := by
  have hSl := hS.length_le
  obtain ⟨r, e1, n1, m1⟩ := match_ok A A (by omega) (by omega)
  obtain ⟨s, e2, n2, _⟩ := match_ok A S (by omega) (by omega)
  obtain ⟨t, e3, n3, _⟩ := match_ok S A (by omega) (by omega)
  rw [lcs_self] at n1
  rw [lcs_of_sub hS] at n2
  rw [lcs_comm, lcs_of_sub hS] at n3
  have c : ¬ (i : Int) < (A.length : Int) := by omega
  have hd := distance_ok A A (by omega) (by omega)
  rw [dist_zero.2 rfl] at hd
  have f0 := rise_eq (g := S39.f0) (m1.1.imp (fun h => h.1)) (fun p hp => by have := m1.2 p hp; rw [n1]; exact ⟨by omega, this.2.1⟩)
  have f1 := rise_eq (g := S39.f1) (m1.1.imp (fun h => h.2)) (fun p hp => by have := m1.2 p hp; rw [n1]; exact ⟨by omega, this.2.2.2.1⟩)
  refine Ev.step (fun k => by rw [tripartitelaw03_LcsAlls.l0, if_neg c]) ?_
  refine Ev.bind e1 (Ev.bind lcs_told ?_)
  have q1 : (r.length : Int) = (A.length : Int) := by rw [n1]
  have q2 : (s.length : Int) = (S.length : Int) := by rw [n2]
  have q3 : ((t.length : Int) != (S.length : Int)) = false := by rw [n3]; simp
  simp only [if_pos, if_pos q1]
  refine Ev.bind hd ?_
  simp only [if_pos]
  refine Ev.bind e2 ?_
  simp only [if_pos q2]
  refine Ev.bind e3 ?_
  rw [q3]
  refine Ev.step (fun k => ?_) (alls_last r (by omega) f0 f1 r.length 0 (by omega) (by omega))
  rw [tripartitelaw03_LcsAlls.j1, if_neg (by decide)]
  rfl

theorem alls_go (A : List Int) (l1 : List Bool) (hA : A.length ≤ 200) : ∀ (d i : Nat) (S : List Int), A.length - i ≤ d → i ≤ A.length → S.Sublist (A.take i) → Ev (fun k => tripartitelaw03_LcsAlls.l0 k A l1 S i) true := by
  intro d
  induction d with
  | zero => intro i S h1 h2 h3; exact alls_end A S hA (h3.trans (List.take_sublist i A)) l1 i (by omega)
  | succ d ih =>
    intro i S h1 h2 h3
    by_cases hi : i < A.length
    · have d1 : A.length - (i + 1) ≤ d := by omega
      have hw : wrap64 ((i : Int) + 1) = ((i + 1 : Nat) : Int) := by rw [w64 (by omega) (by omega)]; omega
      have c1 : (i : Int) < (A.length : Int) := by omega
      have c2 : (0 : Int) ≤ (i : Int) := by omega
      have sl := h3.length_le
      have hlen : S.length < 17592186044416 := by have := List.length_take_le i A; omega
      have ts := List.take_succ_eq_append_getElem hi
      have ga : rd A (i : Int) = A[i] := by simp [rd, List.getD_eq_getElem?_getD, hi]
      have keep : (S ++ [rd A (i : Int)]).Sublist (A.take (i + 1)) := by rw [ts, ga]; exact h3.append (List.Sublist.refl _)
      have drop : S.Sublist (A.take (i + 1)) := by rw [ts]; exact h3.trans (List.sublist_append_left _ _)
      by_cases hl : (i : Int) ≥ (l1.length : Int)
      · refine Ev.step (fun k => ?_) (ih (i + 1) _ d1 hi keep)
        rw [tripartitelaw03_LcsAlls.l0, if_pos c1, if_pos hl, if_pos c2, if_pos hlen, hw]
      · have c3 : (i : Int) < (l1.length : Int) := by omega
        by_cases hb : rdOf false l1 (i : Int) = true
        · refine Ev.step (fun k => ?_) (ih (i + 1) _ d1 hi drop)
          rw [tripartitelaw03_LcsAlls.l0, if_pos c1, if_neg hl, if_pos c2, if_pos c3, if_pos hb, hw]
        · refine Ev.step (fun k => ?_) (ih (i + 1) _ d1 hi keep)
          rw [tripartitelaw03_LcsAlls.l0, if_pos c1, if_neg hl, if_pos c2, if_pos c3, if_neg hb, if_pos hlen, hw]
    · exact alls_end A S hA (h3.trans (List.take_sublist i A)) l1 i hi

theorem LcsAlls (l0 : List Int) (l1 : List Bool) : ∃ k, tripartitelaw03_LcsAlls.f k l0 l1 = some true := by
  refine Ev.rounds (g := fun k => tripartitelaw03_LcsAlls.f k l0 l1) ?_
  obtain ⟨a0, a1, a2⟩ := cut_len (l := l0) (N := 200) (by omega)
  unfold tripartitelaw03_LcsAlls.f
  simp only [if_pos a0, if_pos a1]
  generalize l0.take (mn (l0.length : Int) 200).toNat = A at *
  exact alls_go A l1 (by omega) A.length 0 [] (by omega) (by omega) (List.nil_sublist _)

end Go.Proofs.Ytadafplbgophfaa.Pure
