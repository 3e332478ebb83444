import Derived.Test.YtadafplbgophfaaLcs2
namespace Go.Proofs.Ytadafplbgophfaa.PA
set_option linter.unusedVariables false
open Go.RowKit Go.Proofs.YtadafplbgophfaaW.PrintWords Go.Proofs.YtadafplbgophfaaW.PrintLast Go.Proofs.YtadafplbgophfaaW.PrintMore
open Go.Proofs.Ytadafplbgophfaa.TriLcs

/-- the row ahead of stage d: how far one gets with d - 1 left out -/
def Row (A B : List Int) (N : Nat) (L : List Int) (d : Int) : Prop :=
  L.length = 2 * N + 3 ∧ (d = 0 → rd L ((N : Int) + 1 + 1) = 0) ∧ (d ≠ 0 → ∀ j : Int, -(d - 1) ≤ j → j ≤ d - 1 → (d - 1 - j) % 2 = 0 → Far A B (d - 1) j (rd L ((N : Int) + 1 + j)))
/-- what stage d has done, below k -/
def Done (A B : List Int) (N : Nat) (L : List Int) (d k : Int) : Prop := ∀ j : Int, -d ≤ j → j < k → (d - j) % 2 = 0 → Far A B d j (rd L ((N : Int) + 1 + j))

theorem rd_set {L : List Int} {i j u : Int} (hi : 0 ≤ i) (hj : 0 ≤ j) : rd (L.set i.toNat u) j = if i = j ∧ i < L.length then u else rd L j := by
  unfold rd
  by_cases e : i = j
  · subst e
    by_cases hl : i < L.length
    · rw [if_pos ⟨rfl, hl⟩]
      simp [List.getD_eq_getElem?_getD, show i.toNat < L.length by omega]
    · rw [if_neg (fun h => hl h.2)]
      rw [List.set_eq_of_length_le (by omega)]
  · rw [if_neg (fun h => e h.1)]
    simp only [List.getD_eq_getElem?_getD]
    rw [List.getElem?_set_ne (by omega)]

theorem Row.set {A B : List Int} {N : Nat} {L : List Int} {d k u : Int} (h : Row A B N L d) (hd : 0 ≤ d) (hdN : d ≤ N) (h0 : -d ≤ k) (h1 : k ≤ d) (hp : (d - k) % 2 = 0) : Row A B N (L.set ((N : Int) + 1 + k).toNat u) d := by
  obtain ⟨hl, hz, hf⟩ := h
  refine ⟨by rw [List.length_set]; exact hl, fun e => ?_, fun e j hj0 hj1 hjp => ?_⟩
  · rw [rd_set (by omega) (by omega), if_neg (by omega)]; exact hz e
  · rw [rd_set (by omega) (by omega), if_neg (by omega)]; exact hf e j hj0 hj1 hjp
theorem Done.set {A B : List Int} {N : Nat} {L : List Int} {d k u : Int} (h : Done A B N L d k) (hl : L.length = 2 * N + 3) (hd : 0 ≤ d) (hdN : d ≤ N) (h0 : -d ≤ k) (h1 : k ≤ d) (hp : (d - k) % 2 = 0) (hu : Far A B d k u) :
    Done A B N (L.set ((N : Int) + 1 + k).toNat u) d (k + 2) := by
  intro j hj0 hj1 hjp
  rw [rd_set (by omega) (by omega)]
  by_cases e : j = k
  · subst e; rw [if_pos ⟨rfl, by omega⟩]; exact hu
  · rw [if_neg (by omega)]; exact h j hj0 (by omega) hjp
theorem Done.row {A B : List Int} {N : Nat} {L : List Int} {d k : Int} (h : Done A B N L d k) (hl : L.length = 2 * N + 3) (hd : 0 ≤ d) (hk : d < k) : Row A B N L (d + 1) :=
  ⟨hl, fun e => by omega, fun _ j hj0 hj1 hjp => by
    have := h j (by omega) (by omega) (by omega)
    rw [show d + 1 - 1 = d from by omega]; exact this⟩

theorem begin_ok {A B : List Int} {N : Nat} {L : List Int} {d k : Int} (h : Row A B N L d) (hd : 0 ≤ d) (hdN : d ≤ N) (hN : N ≤ 2000000000) (hA : A.length ≤ 1000000000) (h0 : -d ≤ k) (h1 : k ≤ d) (hp : (d - k) % 2 = 0) :
    ∃ u0, lcs_run_begin.f L ((N : Int) + 1) k d = some u0 ∧ Begin A B d k u0 ∧ u0 ≤ 10000000000 := by
  obtain ⟨hl, hz, hf⟩ := h
  have eP : wrap64 (wrap64 ((N : Int) + 1 + k) + 1) = (N : Int) + 1 + (k + 1) := by rw [w64 (x := (N : Int) + 1 + k) (by omega) (by omega), w64 (by omega) (by omega)]; omega
  have eM : wrap64 (wrap64 ((N : Int) + 1 + k) - 1) = (N : Int) + 1 + (k - 1) := by rw [w64 (x := (N : Int) + 1 + k) (by omega) (by omega), w64 (by omega) (by omega)]; omega
  have eD : wrap64 (-d) = -d := w64 (by omega) (by omega)
  unfold lcs_run_begin.f
  rw [eP, eM, eD]
  by_cases hd0 : d = 0
  · subst hd0
    obtain rfl : k = 0 := by omega
    refine ⟨0, ?_, begin_zero A B, by omega⟩
    rw [if_pos rfl, if_pos (by omega)]
    have := hz rfl
    rw [show (N : Int) + 1 + (0 + 1) = (N : Int) + 1 + 1 from by omega, this]
    exact (if_pos (by omega)).trans (by first | rfl | exact if_pos (by omega))
  · have hf' := hf hd0
    by_cases hk0 : k = -d
    · rw [if_pos hk0, if_pos (by omega), if_pos (by omega)]
      have hq := hf' (k + 1) (by omega) (by omega) (by omega)
      have := far_le hq
      exact ⟨_, rfl, begin_right (by omega) hq (.inl hk0), by omega⟩
    · rw [if_neg hk0]
      have hpp := hf' (k - 1) (by omega) (by omega) (by omega)
      have bp := far_le hpp
      by_cases hk1 : k = d
      · rw [if_pos hk1, if_pos (by omega), if_pos (by omega), w64 (by omega) (by omega)]
        exact ⟨_, rfl, begin_left hpp (.inl hk1), by omega⟩
      · rw [if_neg hk1, if_pos (by omega), if_pos (by omega), if_pos (by omega), if_pos (by omega)]
        have hq := hf' (k + 1) (by omega) (by omega) (by omega)
        have bq := far_le hq
        by_cases hlt : rd L ((N : Int) + 1 + (k - 1)) < rd L ((N : Int) + 1 + (k + 1))
        · rw [if_pos hlt]
          exact ⟨_, rfl, begin_right (by omega) hq (.inr ⟨_, hpp, hlt⟩), by omega⟩
        · rw [if_neg hlt, w64 (by omega) (by omega)]
          exact ⟨_, rfl, begin_left hpp (.inr ⟨_, hq, by omega⟩), by omega⟩

/-- a way in the midst that parts a shortest one -/
def Good (A B : List Int) (a0 b0 : Nat) (r : Int × Int × Int × Int) : Prop :=
  ∃ x y i : Nat, r.1 = a0 + x ∧ r.2.1 = b0 + y ∧ r.2.2.1 = i ∧ x + i ≤ A.length ∧ y + i ≤ B.length ∧ (∀ t, t < i → M A B (x + t) (y + t)) ∧
    lcs A B = lcs (A.take x) (B.take y) + i + lcs (A.drop (x + i)) (B.drop (y + i)) ∧ x + y < A.length + B.length ∧ 0 < x + i + (y + i)

theorem way_f {A B : List Int} {x y : Nat} : ∀ i : Nat, (∀ t, t < i → M A B (x + t) (y + t)) → f A B (x + i) (y + i) = f A B x y := by
  intro i
  induction i with
  | zero => intro _; rfl
  | succ i ih =>
    intro hm
    have hi := hm i (by omega)
    have := f_match hi.1 hi.2.1 hi.get
    rw [← ih (fun t ht => hm t (by omega)), ← this]; rfl
theorem way_begin {A B : List Int} {k u0 u : Int} {x y i : Nat} (hw : Way A B k u0 u x y i) : f A B (x + i) (y + i) = f A B x y := way_f i hw.run

/-- a hit, forth -/
theorem good_fore {A B : List Int} {a0 b0 : Nat} {d k u0 u w D : Int} {x y i : Nat} (hd : 0 ≤ d) (h2 : 2 ≤ dist A B) (hD : 2 * d - 1 ≤ dist A B) (hw : Way A B k u0 u x y i) (hu : Far A B d k u) (hr : Far A.reverse B.reverse (d - 1) ((A.length : Int) - B.length - k) w)
    (hc1 : -(d - 1) ≤ (A.length : Int) - B.length - k) (hc2 : (A.length : Int) - B.length - k ≤ d - 1) (hn : (A.length : Int) ≤ u + w) : Good A B a0 b0 ((a0 : Int) + u0, (b0 : Int) + u0 - k, u - u0, D) := by
  have hwb := way_begin hw
  obtain ⟨e0, ek, e1, hm⟩ := hw
  obtain ⟨x1, y1, e2, ek1, hf1, _⟩ := hu
  obtain ⟨x2, y2, e3, ek2, hf2, _⟩ := hr
  obtain rfl : x1 = x + i := by omega
  obtain rfl : y1 = y + i := by omega
  obtain ⟨q1, q2, q3, q4, q5⟩ := overlap (A := A) (B := B) (d1 := d) (d2 := d - 1) (x := x + i) (y := y + i) (x' := x2) (y' := y2) (by omega) hf1 hf2 (by omega) (by omega) (by omega) (by omega)
  refine ⟨x, y, i, by simp only; omega, by simp only; omega, by simp only; omega, q1, q2, hm, ?_, ?_, ?_⟩
  · have h3 := hwb.symm.trans q3
    unfold f at h3
    unfold dist at q4 q5
    simp only [List.length_drop] at q4
    omega
  · have h3 := hwb.symm.trans q3
    by_cases he : x + y < A.length + B.length
    · exact he
    · obtain rfl : i = 0 := by omega
      obtain rfl : x = A.length := by omega
      obtain rfl : y = B.length := by omega
      rw [f_all] at h3; omega
  · by_cases he : 0 < x + i + (y + i)
    · exact he
    · have ex : x + i = 0 := by omega
      have ey : y + i = 0 := by omega
      rw [ex, ey] at q4
      simp only [List.drop_zero] at q4
      omega
/-- a hit, back -/
theorem good_rear {A B : List Int} {a0 b0 : Nat} {d k u0 u w D : Int} {x y i : Nat} (hd : 0 ≤ d) (h2 : 2 ≤ dist A B) (hD : 2 * d ≤ dist A B) (hw : Way A.reverse B.reverse k u0 u x y i) (hu : Far A.reverse B.reverse d k u) (hr : Far A B d ((A.length : Int) - B.length - k) w)
    (hc1 : -d ≤ (A.length : Int) - B.length - k) (hc2 : (A.length : Int) - B.length - k ≤ d) (hn : (A.length : Int) ≤ u + w) : Good A B a0 b0 ((a0 : Int) + A.length - u, (b0 : Int) + B.length - (u - k), u - u0, D) := by
  have hwb := way_begin hw
  obtain ⟨e0, ek, e1, hm⟩ := hw
  obtain ⟨x1, y1, e2, ek1, hf1, _⟩ := hu
  obtain ⟨x2, y2, e3, ek2, hf2, _⟩ := hr
  obtain rfl : x1 = x + i := by omega
  obtain rfl : y1 = y + i := by omega
  have hdr : dist A.reverse B.reverse = dist A B := by unfold dist; rw [lcs_reverse, List.length_reverse, List.length_reverse]
  obtain ⟨q1, q2, q3, q4, q5⟩ := overlap (A := A.reverse) (B := B.reverse) (d1 := d) (d2 := d) (x := x + i) (y := y + i) (x' := x2) (y' := y2) (by rw [List.length_reverse, List.length_reverse]; omega) hf1 (by rw [List.reverse_reverse, List.reverse_reverse]; exact hf2) (by omega) (by omega) (by rw [List.length_reverse]; omega) (by rw [hdr]; omega)
  rw [List.length_reverse] at q1 q2
  have rev : ∀ (l : List Int) (t : Nat), t < l.length → l.reverse.getD t 0 = l.getD (l.length - 1 - t) 0 := by
    intro l t ht
    simp [List.getD_eq_getElem?_getD, List.getElem?_reverse ht]
  refine ⟨A.length - (x + i), B.length - (y + i), i, by simp only; omega, by simp only; omega, by simp only; omega, by omega, by omega, fun t ht => ?_, ?_, ?_, ?_⟩
  · obtain ⟨m1, m2, m3⟩ := hm (i - 1 - t) (by omega)
    rw [List.length_reverse] at m1 m2
    rw [rev _ _ m1, rev _ _ m2] at m3
    rw [show A.length - 1 - (x + (i - 1 - t)) = A.length - (x + i) + t from by omega, show B.length - 1 - (y + (i - 1 - t)) = B.length - (y + i) + t from by omega] at m3
    exact ⟨by omega, by omega, m3⟩
  · have h3 := hwb.symm.trans q3
    have t1 : A.take (A.length - (x + i)) = (A.reverse.drop (x + i)).reverse := by rw [List.drop_reverse, List.reverse_reverse]
    have t2 : B.take (B.length - (y + i)) = (B.reverse.drop (y + i)).reverse := by rw [List.drop_reverse, List.reverse_reverse]
    have t3 : A.drop (A.length - (x + i) + i) = (A.reverse.take x).reverse := by rw [List.take_reverse, List.reverse_reverse, show A.length - x = A.length - (x + i) + i from by omega]
    have t4 : B.drop (B.length - (y + i) + i) = (B.reverse.take y).reverse := by rw [List.take_reverse, List.reverse_reverse, show B.length - y = B.length - (y + i) + i from by omega]
    rw [t1, t2, t3, t4, lcs_reverse, lcs_reverse]
    unfold f at h3
    rw [hdr] at q5
    unfold dist at q4 q5
    simp only [List.length_drop, List.length_reverse] at q4
    omega
  · by_cases he : A.length - (x + i) + (B.length - (y + i)) < A.length + B.length
    · exact he
    · have ex : x + i = 0 := by omega
      have ey : y + i = 0 := by omega
      rw [ex, ey] at q4
      simp only [List.drop_zero] at q4
      omega
  · have h3 := hwb.symm.trans q3
    by_cases he : 0 < A.length - (x + i) + i + (B.length - (y + i) + i)
    · exact he
    · obtain rfl : i = 0 := by omega
      obtain rfl : x = A.length := by omega
      obtain rfl : y = B.length := by omega
      have : f A.reverse B.reverse A.length B.length = dist A B := by
        have := f_all A.reverse B.reverse
        rw [List.length_reverse, List.length_reverse] at this
        rw [this, hdr]
      omega

end Go.Proofs.Ytadafplbgophfaa.PA
