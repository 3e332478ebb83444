import Derived.Test.YtadafplbgophfaaLcs4
namespace Go.Proofs.Ytadafplbgophfaa.PA
set_option linter.unusedVariables false
open Go.RowKit Go.Proofs.YtadafplbgophfaaW.PrintWords Go.Proofs.YtadafplbgophfaaW.PrintLast Go.Proofs.YtadafplbgophfaaW.PrintMore
open Go.Proofs.Ytadafplbgophfaa.TriLcs

/-- n is the least number at which p fails. -/
def Stops (p : Nat → Prop) (n : Nat) : Prop := (∀ i, i < n → p i) ∧ ¬ p n
/-- both have the same at i -/
def Fore (a b : List Int) (i : Nat) : Prop := i < a.length ∧ i < b.length ∧ a.getD i 0 = b.getD i 0
/-- both have the same at i from the end, behind the first n -/
def Rear (a b : List Int) (n i : Nat) : Prop := n + i < a.length ∧ n + i < b.length ∧ a.getD (a.length - 1 - i) 0 = b.getD (b.length - 1 - i) 0
theorem getD_drop (xs : List Int) (n i : Nat) : (xs.drop n).getD i 0 = xs.getD (n + i) 0 := by simp [List.getD_eq_getElem?_getD, List.getElem?_drop]

theorem ends_rear (a b : List Int) (n : Nat) (ha : a.length ≤ 1000000000000) (hb : b.length ≤ 1000000000000) (hna : n ≤ a.length) (hnb : n ≤ b.length) :
    ∀ (d j : Nat), a.length - j ≤ d → n + j ≤ a.length → n + j ≤ b.length → (∀ i, i < j → Rear a b n i) →
      ∃ m, Stops (Rear a b n) m ∧ Ev (fun k => trim_Ends_int.l1 k (a.drop n) (b.drop n) n j) (n, m) := by
  intro d
  induction d with
  | zero =>
    intro j h1 h2 h3 h4
    refine ⟨j, ⟨h4, fun h => by have := h.1; omega⟩, Ev.step (f := fun _ => some ((n : Int), (j : Int))) (fun k => ?_) (Ev.now _)⟩
    simp only [trim_Ends_int.l1]
    rw [if_neg (by simp only [List.length_drop]; unfold mn; split <;> omega)]
  | succ d ih =>
    intro j h1 h2 h3 h4
    by_cases hj : n + j < a.length ∧ n + j < b.length
    · have e1 : wrap64 (wrap64 (((a.drop n).length : Int) - 1) - j) = ((a.length - n - 1 - j : Nat) : Int) := by
        rw [List.length_drop, w64 (x := ((a.length - n : Nat) : Int) - 1) (by omega) (by omega), w64 (by omega) (by omega)]; omega
      have e2 : wrap64 (wrap64 (((b.drop n).length : Int) - 1) - j) = ((b.length - n - 1 - j : Nat) : Int) := by
        rw [List.length_drop, w64 (x := ((b.length - n : Nat) : Int) - 1) (by omega) (by omega), w64 (by omega) (by omega)]; omega
      by_cases he : a.getD (a.length - 1 - j) 0 = b.getD (b.length - 1 - j) 0
      · obtain ⟨m, hm, hE⟩ := ih (j + 1) (by omega) (by omega) (by omega) (fun i hi => by
          rcases Nat.lt_succ_iff_lt_or_eq.1 hi with h | rfl
          · exact h4 i h
          · exact ⟨hj.1, hj.2, he⟩)
        refine ⟨m, hm, Ev.step (fun k => ?_) hE⟩
        simp only [trim_Ends_int.l1]
        rw [e1, e2, if_pos (by simp only [List.length_drop]; unfold mn; split <;> omega), if_pos (by omega), if_pos (by simp only [List.length_drop]; omega), if_pos (by omega), if_pos (by simp only [List.length_drop]; omega), rd_nat, rd_nat, getD_drop, getD_drop,
          show n + (a.length - n - 1 - j) = a.length - 1 - j from by omega, show n + (b.length - n - 1 - j) = b.length - 1 - j from by omega, if_pos he, w64 (by omega) (by omega)]
        rfl
      · refine ⟨j, ⟨h4, fun h => he h.2.2⟩, Ev.step (f := fun _ => some ((n : Int), (j : Int))) (fun k => ?_) (Ev.now _)⟩
        simp only [trim_Ends_int.l1]
        rw [e1, e2, if_pos (by simp only [List.length_drop]; unfold mn; split <;> omega), if_pos (by omega), if_pos (by simp only [List.length_drop]; omega), if_pos (by omega), if_pos (by simp only [List.length_drop]; omega), rd_nat, rd_nat, getD_drop, getD_drop,
          show n + (a.length - n - 1 - j) = a.length - 1 - j from by omega, show n + (b.length - n - 1 - j) = b.length - 1 - j from by omega, if_neg he]
    · refine ⟨j, ⟨h4, fun h => hj ⟨h.1, h.2.1⟩⟩, Ev.step (f := fun _ => some ((n : Int), (j : Int))) (fun k => ?_) (Ev.now _)⟩
      simp only [trim_Ends_int.l1]
      rw [if_neg (by simp only [List.length_drop]; unfold mn; split <;> omega)]

theorem ends_fore (a b : List Int) (ha : a.length ≤ 1000000000000) (hb : b.length ≤ 1000000000000) :
    ∀ (d i : Nat), a.length - i ≤ d → i ≤ a.length → i ≤ b.length → (∀ j, j < i → Fore a b j) →
      ∃ n m, Stops (Fore a b) n ∧ Stops (Rear a b n) m ∧ Ev (fun k => trim_Ends_int.l0 k a b i) (n, m) := by
  intro d
  induction d with
  | zero =>
    intro i h1 h2 h3 h4
    obtain ⟨m, hm, hE⟩ := ends_rear a b i ha hb h2 h3 a.length 0 (by omega) (by omega) (by omega) (fun j hj => by omega)
    refine ⟨i, m, ⟨h4, fun h => by have := h.1; omega⟩, hm, Ev.step (fun k => ?_) (Ev.step (g := fun k => trim_Ends_int.j1 k a b i) (fun k => ?_) hE)⟩
    · simp only [trim_Ends_int.l0]
      rw [if_neg (by unfold mn; split <;> omega)]
    · simp only [trim_Ends_int.j1]
      rw [if_pos (by omega), if_pos (by omega), if_pos (by omega), Int.toNat_natCast]; rfl
  | succ d ih =>
    intro i h1 h2 h3 h4
    by_cases hf : Fore a b i
    · obtain ⟨n, m, hn, hm, hE⟩ := ih (i + 1) (by have := hf.1; omega) hf.1 hf.2.1 (fun j hj => by
        rcases Nat.lt_succ_iff_lt_or_eq.1 hj with h | rfl
        · exact h4 j h
        · exact hf)
      obtain ⟨f1, f2, f3⟩ := hf
      refine ⟨n, m, hn, hm, Ev.step (fun k => ?_) hE⟩
      simp only [trim_Ends_int.l0]
      rw [if_pos (by unfold mn; split <;> omega), if_pos (by omega), if_pos (by omega), if_pos (by omega), rd_nat, rd_nat, if_pos f3, w64 (by omega) (by omega)]
      rfl
    · obtain ⟨m, hm, hE⟩ := ends_rear a b i ha hb h2 h3 a.length 0 (by omega) (by omega) (by omega) (fun j hj => by omega)
      refine ⟨i, m, ⟨h4, hf⟩, hm, Ev.step (fun k => ?_) (Ev.step (g := fun k => trim_Ends_int.j1 k a b i) (fun k => ?_) hE)⟩
      · simp only [trim_Ends_int.l0]
        by_cases hl : i < a.length ∧ i < b.length
        · rw [if_pos (by unfold mn; split <;> omega), if_pos (by omega), if_pos (by omega), if_pos (by omega), rd_nat, rd_nat, if_neg (fun h => hf ⟨hl.1, hl.2, h⟩)]
        · rw [if_neg (by unfold mn; split <;> omega)]
      · simp only [trim_Ends_int.j1]
        rw [if_pos (by omega), if_pos (by omega), if_pos (by omega), Int.toNat_natCast]; rfl

theorem ends_int (a b : List Int) (ha : a.length ≤ 1000000000000) (hb : b.length ≤ 1000000000000) :
    ∃ n m, Stops (Fore a b) n ∧ Stops (Rear a b n) m ∧ Ev (fun k => trim_Ends_int.f k a b) (n, m) :=
  ends_fore a b ha hb a.length 0 (by omega) (by omega) (by omega) (fun j hj => by omega)

/-- pairs that rise, in a piece of both lists -/
def Mtch (a b : List Int) (a0 a1 b0 b1 : Nat) (r : List S39) : Prop :=
  r.Pairwise (fun p q => p.f0 < q.f0 ∧ p.f1 < q.f1) ∧ ∀ p ∈ r, (a0 : Int) ≤ p.f0 ∧ p.f0 < a1 ∧ (b0 : Int) ≤ p.f1 ∧ p.f1 < b1 ∧ a.getD p.f0.toNat 0 = b.getD p.f1.toNat 0

theorem Mtch.append {a b : List Int} {a0 x x' a1 b0 y y' b1 : Nat} {r1 r2 : List S39} (h1 : Mtch a b a0 x b0 y r1) (h2 : Mtch a b x' a1 y' b1 r2) (hx : x ≤ x') (hy : y ≤ y') (h0 : a0 ≤ x') (h00 : b0 ≤ y') (h3 : x ≤ a1) (h4 : y ≤ b1) : Mtch a b a0 a1 b0 b1 (r1 ++ r2) := by
  refine ⟨List.pairwise_append.2 ⟨h1.1, h2.1, fun p hp q hq => ?_⟩, fun p hp => ?_⟩
  · have g1 := h1.2 p hp
    have g2 := h2.2 q hq
    omega
  · rcases List.mem_append.1 hp with hp | hp
    · have g1 := h1.2 p hp; exact ⟨by omega, by omega, by omega, by omega, g1.2.2.2.2⟩
    · have g1 := h2.2 p hp; exact ⟨by omega, by omega, by omega, by omega, g1.2.2.2.2⟩
theorem Mtch.run {a b : List Int} (a0 b0 : Nat) : ∀ n : Nat, (∀ t, t < n → a.getD (a0 + t) 0 = b.getD (b0 + t) 0) → Mtch a b a0 (a0 + n) b0 (b0 + n) (runS a0 b0 n) := by
  intro n
  induction n with
  | zero => intro _; exact ⟨by simp [runS], by simp [runS]⟩
  | succ n ih =>
    intro h
    rw [runS_succ]
    refine Mtch.append (x := a0 + n) (x' := a0 + n) (y := b0 + n) (y' := b0 + n) (ih fun t ht => h t (by omega)) ⟨by simp, fun p hp => ?_⟩ (Nat.le_refl _) (Nat.le_refl _) (by omega) (by omega) (by omega) (by omega)
    rw [List.mem_singleton] at hp
    subst hp
    refine ⟨by simp only; omega, by simp only; omega, by simp only; omega, by simp only; omega, ?_⟩
    simp only
    rw [show ((a0 : Int) + (n : Int)).toNat = a0 + n from by omega, show ((b0 : Int) + (n : Int)).toNat = b0 + n from by omega]
    exact h n (by omega)

theorem lcs_front (p x y : List Int) : lcs (p ++ x) (p ++ y) = p.length + lcs x y := by
  induction p with
  | nil => simp
  | cons c p ih => simp only [List.cons_append, List.length_cons]; rw [lcs_cons_eq, ih]; omega
theorem lcs_back (s x y : List Int) : lcs (x ++ s) (y ++ s) = lcs x y + s.length := by
  rw [← lcs_reverse, List.reverse_append, List.reverse_append, lcs_front, lcs_reverse, List.length_reverse]; omega

theorem eq_of_getD {l m : List Int} (h : l.length = m.length) (he : ∀ i, i < l.length → l.getD i 0 = m.getD i 0) : l = m :=
  List.ext_getElem h fun j g1 g2 => by have := he j g1; simpa [List.getD_eq_getElem?_getD, g1, g2] using this
theorem getD_take (xs : List Int) {n i : Nat} (h : i < n) : (xs.take n).getD i 0 = xs.getD i 0 := by simp [List.getD_eq_getElem?_getD, h]

theorem lcs_trim {A B : List Int} {n m : Nat} (h1 : ∀ i, i < n → Fore A B i) (h2 : ∀ i, i < m → Rear A B n i) (hA : n + m ≤ A.length) (hB : n + m ≤ B.length) :
    lcs A B = n + lcs (seg A n (A.length - m)) (seg B n (B.length - m)) + m := by
  have eA : A = A.take n ++ (seg A n (A.length - m) ++ A.drop (A.length - m)) := by
    unfold seg
    have e1 : (A.take (A.length - m)).take n ++ (A.take (A.length - m)).drop n ++ A.drop (A.length - m) = A := by rw [List.take_append_drop, List.take_append_drop]
    rw [List.take_take, Nat.min_eq_left (by omega), List.append_assoc] at e1
    exact e1.symm
  have eB : B = A.take n ++ (seg B n (B.length - m) ++ A.drop (A.length - m)) := by
    have e0 : B.take n = A.take n := eq_of_getD (by rw [List.length_take, List.length_take]; omega) fun i hi => by
      rw [List.length_take] at hi
      rw [getD_take _ (by omega), getD_take _ (by omega)]
      exact ((h1 i (by omega)).2.2).symm
    have e2 : B.drop (B.length - m) = A.drop (A.length - m) := eq_of_getD (by rw [List.length_drop, List.length_drop]; omega) fun i hi => by
      rw [List.length_drop] at hi
      rw [getD_drop, getD_drop]
      have := (h2 (m - 1 - i) (by omega)).2.2
      rw [show A.length - 1 - (m - 1 - i) = A.length - m + i from by omega, show B.length - 1 - (m - 1 - i) = B.length - m + i from by omega] at this
      exact this.symm
    have e1 : (B.take (B.length - m)).take n ++ (B.take (B.length - m)).drop n ++ B.drop (B.length - m) = B := by rw [List.take_append_drop, List.take_append_drop]
    rw [List.take_take, Nat.min_eq_left (by omega), List.append_assoc, e0, e2] at e1
    exact e1.symm
  have hl : (A.take n).length = n := by rw [List.length_take]; omega
  have hl2 : (A.drop (A.length - m)).length = m := by rw [List.length_drop]; omega
  have key : lcs (A.take n ++ (seg A n (A.length - m) ++ A.drop (A.length - m))) (A.take n ++ (seg B n (B.length - m) ++ A.drop (A.length - m))) = n + lcs (seg A n (A.length - m)) (seg B n (B.length - m)) + m := by
    rw [lcs_front, lcs_back, hl, hl2]; omega
  rw [← eA, ← eB] at key
  exact key

theorem seg_seg (a : List Int) {i j p q : Nat} (hj : j ≤ a.length) (hq : i + q ≤ j) : seg (seg a i j) p q = seg a (i + p) (i + q) := by
  unfold seg
  rw [List.take_drop, List.take_take, Nat.min_eq_left (by omega), List.drop_drop]
theorem seg_take (a : List Int) {i j x : Nat} (h : i + x ≤ j) : (seg a i j).take x = seg a i (i + x) := by
  unfold seg
  rw [List.take_drop, List.take_take, Nat.min_eq_left (by omega)]
theorem seg_drop (a : List Int) {i j x : Nat} : (seg a i j).drop x = seg a (i + x) j := by unfold seg; rw [List.drop_drop]

theorem find_ok (a b : List Int) (hla : a.length ≤ 1000000000) (hlb : b.length ≤ 1000000000) : ∀ (t a0 a1 b0 b1 : Nat), (a1 - a0) + (b1 - b0) ≤ t → a0 ≤ a1 → a1 ≤ a.length → b0 ≤ b1 → b1 ≤ b.length →
    ∃ r, Ev (fun K => lcs_finder_find.f K a b a0 a1 b0 b1) r ∧ r.length = lcs (seg a a0 a1) (seg b b0 b1) ∧ Mtch a b a0 a1 b0 b1 r := by
  intro t
  induction t using Nat.strongRecOn with
  | _ t ih =>
  intro a0 a1 b0 b1 ht ha ha1 hb hb1
  have hA := seg_length a (i := a0) ha1
  have hB := seg_length b (i := b0) hb1
  obtain ⟨n, m, hn, hm, hE⟩ := ends_int (seg a a0 a1) (seg b b0 b1) (by omega) (by omega)
  have hnA : n ≤ a1 - a0 ∧ n ≤ b1 - b0 := by
    rcases Nat.eq_zero_or_pos n with h | h
    · omega
    · have := hn.1 (n - 1) (by omega); have h1 := this.1; have h2 := this.2.1; omega
  have hmA : n + m ≤ a1 - a0 ∧ n + m ≤ b1 - b0 := by
    rcases Nat.eq_zero_or_pos m with h | h
    · omega
    · have := hm.1 (m - 1) (by omega); have h1 := this.1; have h2 := this.2.1; omega
  have hl := lcs_trim hn.1 hm.1 (by omega) (by omega)
  rw [hA, hB, seg_seg a ha1 (by omega), seg_seg b hb1 (by omega), show a0 + (a1 - a0 - m) = a1 - m from by omega, show b0 + (b1 - b0 - m) = b1 - m from by omega] at hl
  have M1 : Mtch a b a0 (a0 + n) b0 (b0 + n) (runS a0 b0 n) := Mtch.run a0 b0 n fun i hi => by
    have := (hn.1 i hi).2.2
    rw [seg_getD a (by omega), seg_getD b (by omega)] at this
    exact this
  have M2 : Mtch a b (a1 - m) a1 (b1 - m) b1 (runS (a1 - m : Nat) (b1 - m : Nat) m) := by
    have h := Mtch.run (a := a) (b := b) (a1 - m) (b1 - m) m fun i hi => by
      have := (hm.1 (m - 1 - i) (by omega)).2.2
      rw [hA, hB, seg_getD a (by omega), seg_getD b (by omega)] at this
      rw [show a0 + (a1 - a0 - 1 - (m - 1 - i)) = a1 - m + i from by omega, show b0 + (b1 - b0 - 1 - (m - 1 - i)) = b1 - m + i from by omega] at this
      exact this
    rw [show a1 - m + m = a1 from by omega, show b1 - m + m = b1 from by omega] at h
    exact h
  have ea : (a1 : Int) - (m : Int) = ((a1 - m : Nat) : Int) := by omega
  have eb : (b1 : Int) - (m : Int) = ((b1 - m : Nat) : Int) := by omega
  have ea' : (a0 : Int) + (n : Int) = ((a0 + n : Nat) : Int) := by omega
  have eb' : (b0 : Int) + (n : Int) = ((b0 + n : Nat) : Int) := by omega
  have G : (0 : Int) ≤ a0 ∧ (a0 : Int) ≤ a1 ∧ (a1 : Int) ≤ a.length ∧ (0 : Int) ≤ b0 ∧ (b0 : Int) ≤ b1 ∧ (b1 : Int) ≤ b.length ∧ a.length ≤ 1000000000 ∧ b.length ≤ 1000000000 := ⟨by omega, by omega, by omega, by omega, by omega, by omega, hla, hlb⟩
  have G2 : (0 : Int) ≤ n ∧ (0 : Int) ≤ m ∧ (n : Int) + m ≤ (a1 : Int) - a0 ∧ (n : Int) + m ≤ (b1 : Int) - b0 := ⟨by omega, by omega, by omega, by omega⟩
  by_cases hin : a0 + n < a1 - m ∧ b0 + n < b1 - m
  · have hA' := seg_length a (i := a0 + n) (j := a1 - m) (by omega)
    have hB' := seg_length b (i := b0 + n) (j := b1 - m) (by omega)
    have h2 : 2 ≤ dist (seg a (a0 + n) (a1 - m)) (seg b (b0 + n) (b1 - m)) := by
      refine dist_two (by omega) (by omega) (fun h => hn.2 ?_) (fun h => hm.2 ?_)
      · refine ⟨by omega, by omega, ?_⟩
        have h' : (seg a (a0 + n) (a1 - m)).getD 0 0 = (seg b (b0 + n) (b1 - m)).getD 0 0 := by
          simp only [List.getD_eq_getElem?_getD]; rw [List.getElem?_eq_getElem (by omega), List.getElem?_eq_getElem (by omega)]; simpa using h
        rw [seg_getD a (by omega), seg_getD b (by omega)] at h'
        rw [seg_getD a (by omega), seg_getD b (by omega)]; simpa using h'
      · refine ⟨by omega, by omega, ?_⟩
        have h' : (seg a (a0 + n) (a1 - m)).getD ((seg a (a0 + n) (a1 - m)).length - 1) 0 = (seg b (b0 + n) (b1 - m)).getD ((seg b (b0 + n) (b1 - m)).length - 1) 0 := by
          simp only [List.getD_eq_getElem?_getD]; rw [List.getElem?_eq_getElem (by omega), List.getElem?_eq_getElem (by omega)]; simpa using h
        rw [hA', hB', seg_getD a (by omega), seg_getD b (by omega)] at h'
        rw [hA, hB, seg_getD a (by omega), seg_getD b (by omega)]
        rw [show a0 + (a1 - a0 - 1 - m) = a0 + n + (a1 - m - (a0 + n) - 1) from by omega, show b0 + (b1 - b0 - 1 - m) = b0 + n + (b1 - m - (b0 + n) - 1) from by omega]
        exact h'
    obtain ⟨⟨s1, s2, s3, s4⟩, hM, x, y, i, q1, q2, q3, q4, q5, q6, q7, q8, q9⟩ := middle_ok hin.1 (by omega) hin.2 (by omega) hla hlb h2
    simp only at q1 q2 q3
    subst q1 q2 q3
    rw [hA'] at q4 q8
    rw [hB'] at q5 q8
    obtain ⟨rA, eA, lA, mA⟩ := ih (x + y) (by omega) (a0 + n) (a0 + n + x) (b0 + n) (b0 + n + y) (by omega) (by omega) (by omega) (by omega) (by omega)
    obtain ⟨rB, eB, lB, mB⟩ := ih ((a1 - m - (a0 + n + x + i)) + (b1 - m - (b0 + n + y + i))) (by omega) (a0 + n + x + i) (a1 - m) (b0 + n + y + i) (b1 - m) (by omega) (by omega) (by omega) (by omega) (by omega)
    have Ms : Mtch a b (a0 + n + x) (a0 + n + x + i) (b0 + n + y) (b0 + n + y + i) (runS (a0 + n + x : Nat) (b0 + n + y : Nat) i) := Mtch.run _ _ i fun t ht => by
      have := (q6 t ht).2.2
      rw [seg_getD a (by omega), seg_getD b (by omega)] at this
      rw [show a0 + n + x + t = a0 + n + (x + t) from by omega, show b0 + n + y + t = b0 + n + (y + t) from by omega]
      exact this
    rw [seg_take a (by omega), seg_take b (by omega), seg_drop, seg_drop, ← Nat.add_assoc, ← Nat.add_assoc] at q7
    refine ⟨runS a0 b0 n ++ (rA ++ (runS (a0 + n + x : Nat) (b0 + n + y : Nat) i ++ (rB ++ runS (a1 - m : Nat) (b1 - m : Nat) m))), ?_, ?_, ?_⟩
    · refine Ev.step (f := fun K => (trim_Ends_int.f K ((a.take (a1 : Int).toNat).drop (a0 : Int).toNat) ((b.take (b1 : Int).toNat).drop (b0 : Int).toNat)).bind fun e => _) (fun K => by simp only [lcs_finder_find.f]; rw [if_pos G]) ?_
      refine Ev.bind (by rw [Int.toNat_natCast, Int.toNat_natCast, Int.toNat_natCast, Int.toNat_natCast]; exact hE) ?_
      refine Ev.congr (fun K => by rw [if_pos G2, if_pos ⟨by omega, by omega⟩]) ?_
      rw [ea, eb, ea', eb']
      refine Ev.bind hM ?_
      have G3 : (0 : Int) ≤ ((a0 + n : Nat) : Int) + (x : Int) ∧ ((a0 + n : Nat) : Int) + (x : Int) ≤ 1000000000 ∧ (0 : Int) ≤ ((b0 + n : Nat) : Int) + (y : Int) ∧ ((b0 + n : Nat) : Int) + (y : Int) ≤ 1000000000 ∧ (0 : Int) ≤ (i : Int) ∧ (i : Int) ≤ 1000000000 := ⟨by omega, by omega, by omega, by omega, by omega, by omega⟩
      refine Ev.congr (fun K => if_pos G3) ?_
      dsimp only
      rw [show ((a0 + n : Nat) : Int) + (x : Int) = ((a0 + n + x : Nat) : Int) from by omega, show ((b0 + n : Nat) : Int) + (y : Int) = ((b0 + n + y : Nat) : Int) from by omega]
      rw [show ((a0 + n + x : Nat) : Int) + (i : Int) = ((a0 + n + x + i : Nat) : Int) from by omega, show ((b0 + n + y : Nat) : Int) + (i : Int) = ((b0 + n + y + i : Nat) : Int) from by omega]
      refine Ev.bind eA (Ev.bind eB ?_)
      rw [Int.toNat_natCast, Int.toNat_natCast, Int.toNat_natCast]
      exact Ev.now _
    · simp only [List.length_append, runS_length]; omega
    · refine Mtch.append (x' := a0 + n) (y' := b0 + n) M1 ?_ (by omega) (by omega) (by omega) (by omega) (by omega) (by omega)
      refine Mtch.append (x' := a0 + n + x) (y' := b0 + n + y) mA ?_ (by omega) (by omega) (by omega) (by omega) (by omega) (by omega)
      refine Mtch.append (x' := a0 + n + x + i) (y' := b0 + n + y + i) Ms ?_ (by omega) (by omega) (by omega) (by omega) (by omega) (by omega)
      exact Mtch.append mB M2 (by omega) (by omega) (by omega) (by omega) (by omega) (by omega)
  · refine ⟨runS a0 b0 n ++ runS (a1 - m : Nat) (b1 - m : Nat) m, ?_, ?_, Mtch.append M1 M2 (by omega) (by omega) (by omega) (by omega) (by omega) (by omega)⟩
    · refine Ev.step (f := fun K => (trim_Ends_int.f K ((a.take (a1 : Int).toNat).drop (a0 : Int).toNat) ((b.take (b1 : Int).toNat).drop (b0 : Int).toNat)).bind fun e => _) (fun K => by simp only [lcs_finder_find.f]; rw [if_pos G]) ?_
      refine Ev.bind (by rw [Int.toNat_natCast, Int.toNat_natCast, Int.toNat_natCast, Int.toNat_natCast]; exact hE) ?_
      refine Ev.congr (fun K => by rw [if_pos G2, if_neg (by omega)]) ?_
      rw [ea, eb, Int.toNat_natCast, Int.toNat_natCast]
      exact Ev.now _
    · simp only [List.length_append, runS_length]
      have : lcs (seg a (a0 + n) (a1 - m)) (seg b (b0 + n) (b1 - m)) = 0 := by
        have h1 := lcs_le_left (seg a (a0 + n) (a1 - m)) (seg b (b0 + n) (b1 - m))
        have h2 := lcs_le_right (seg a (a0 + n) (a1 - m)) (seg b (b0 + n) (b1 - m))
        rw [seg_length a (by omega)] at h1
        rw [seg_length b (by omega)] at h2
        omega
      omega

theorem seg_all (a : List Int) : seg a 0 a.length = a := by simp [seg]

/-- Match tells a longest matching. -/
theorem match_ok (a b : List Int) (hla : a.length ≤ 1000000000) (hlb : b.length ≤ 1000000000) : ∃ r, Ev (fun K => lcs_Match.f K a b) r ∧ r.length = lcs a b ∧ Mtch a b 0 a.length 0 b.length r := by
  obtain ⟨r, h1, h2, h3⟩ := find_ok a b hla hlb _ 0 a.length 0 b.length (Nat.le_refl _) (by omega) (Nat.le_refl _) (by omega) (Nat.le_refl _)
  rw [seg_all, seg_all] at h2
  refine ⟨r, Ev.bind h1 ?_, h2, h3⟩
  have := lcs_le_left a b
  rw [if_pos (by omega)]
  exact Ev.now _

end Go.Proofs.Ytadafplbgophfaa.PA
