import Derived.Test.YtadafplbgophfaaLcs0
namespace Go.Proofs.Ytadafplbgophfaa.TriLcs
set_option linter.unusedVariables false

def Begin (A B : List Int) (d k u : Int) : Prop :=
  ∃ x y : Nat, u = x ∧ (x : Int) - y = k ∧ f A B x y ≤ d ∧ ∀ i : Nat, d ≤ f A B (x + i + 1) (y + i) ∧ d ≤ f A B (x + i) (y + i + 1)

def Far (A B : List Int) (d k u : Int) : Prop :=
  ∃ x y : Nat, u = x ∧ (x : Int) - y = k ∧ f A B x y ≤ d ∧ d < f A B (x + 1) (y + 1)

theorem Far.le {A B : List Int} {d k u : Int} (h : Far A B d k u) {x y : Nat} (hk : (x : Int) - y = k) (hf : f A B x y ≤ d) : (x : Int) ≤ u := by
  obtain ⟨x', y', rfl, e, g1, g2⟩ := h
  by_cases hx : (x : Int) ≤ x'
  · exact hx
  · exfalso
    have := f_diag_add A B (x' + 1) (y' + 1) (x - (x' + 1))
    rw [show x' + 1 + (x - (x' + 1)) = x from by omega, show y' + 1 + (x - (x' + 1)) = y from by omega] at this
    omega

theorem Far.gt {A B : List Int} {d k u : Int} (h : Far A B d k u) {x y : Nat} (hk : (x : Int) - y = k) (hx : u < x) : d < f A B x y := by
  by_cases hf : f A B x y ≤ d
  · have := h.le hk hf; omega
  · omega

theorem Far.nonneg {A B : List Int} {d k u : Int} (h : Far A B d k u) : 0 ≤ u := by
  obtain ⟨x, y, rfl, _⟩ := h; omega

theorem begin_zero (A B : List Int) : Begin A B 0 0 0 := by
  refine ⟨0, 0, rfl, rfl, by rw [f_zero_left]; exact Int.le_refl _, fun i => ?_⟩
  have h1 := f_ge A B (0 + i + 1) (0 + i)
  have h2 := f_ge A B (0 + i) (0 + i + 1)
  omega

theorem begin_left {A B : List Int} {d k p : Int} (hp : Far A B (d - 1) (k - 1) p)
    (hq : k = d ∨ ∃ q, Far A B (d - 1) (k + 1) q ∧ q ≤ p) : Begin A B d k (p + 1) := by
  have hp' := hp
  obtain ⟨x, y, rfl, e, g1, g2⟩ := hp
  refine ⟨x + 1, y, by omega, by omega, ?_, fun i => ⟨?_, ?_⟩⟩
  · have := f_step_left A B x y; omega
  · rcases hq with rfl | ⟨q, hq, hle⟩
    · have := f_ge A B (x + 1 + i + 1) (y + i); omega
    · have := hq.gt (x := x + 1 + i + 1) (y := y + i) (by omega) (by omega); omega
  · have := hp'.gt (x := x + 1 + i) (y := y + i + 1) (by omega) (by omega); omega

theorem begin_right {A B : List Int} {d k q : Int} (hd : 1 ≤ d) (hq : Far A B (d - 1) (k + 1) q)
    (hp : k = -d ∨ ∃ p, Far A B (d - 1) (k - 1) p ∧ p < q) : Begin A B d k q := by
  have hq' := hq
  obtain ⟨x, y, rfl, e, g1, g2⟩ := hq
  refine ⟨x, y + 1, rfl, by omega, ?_, fun i => ⟨?_, ?_⟩⟩
  · have := f_step_right A B x y; omega
  · have := hq'.gt (x := x + i + 1) (y := y + 1 + i) (by omega) (by omega); omega
  · rcases hp with rfl | ⟨p, hp, hlt⟩
    · have := f_ge A B (x + i) (y + 1 + i + 1); omega
    · have := hp.gt (x := x + i) (y := y + 1 + i + 1) (by omega) (by omega); omega

theorem begin_on {A B : List Int} {d k : Int} {x y : Nat} (h : Begin A B d k x) (hk : (x : Int) - y = k) (hx : x < A.length) (hy : y < B.length) (he : A[x] = B[y]) :
    Begin A B d k ((x : Int) + 1) := by
  obtain ⟨x', y', e1, e2, g1, g2⟩ := h
  obtain rfl : x = x' := by omega
  obtain rfl : y = y' := by omega
  refine ⟨x + 1, y + 1, by omega, by omega, by rw [f_match hx hy he]; exact g1, fun i => ?_⟩
  have := g2 (i + 1)
  rw [show x + (i + 1) + 1 = x + 1 + i + 1 from by omega, show x + (i + 1) = x + 1 + i from by omega, show y + (i + 1) + 1 = y + 1 + i + 1 from by omega, show y + (i + 1) = y + 1 + i from by omega] at this
  exact this

theorem begin_end {A B : List Int} {d k : Int} {x y : Nat} (h : Begin A B d k x) (hk : (x : Int) - y = k)
    (he : ∀ (hx : x < A.length) (hy : y < B.length), A[x] ≠ B[y]) : Far A B d k x := by
  obtain ⟨x', y', e1, e2, g1, g2⟩ := h
  obtain rfl : x = x' := by omega
  obtain rfl : y = y' := by omega
  have := g2 0
  exact ⟨x, y, rfl, hk, g1, by have := f_unmatch he this.1 this.2; omega⟩

/-- the same from the end -/
theorem f_rev (A B : List Int) {x y : Nat} (hx : x ≤ A.length) (hy : y ≤ B.length) :
    f A.reverse B.reverse (A.length - x) (B.length - y) = dist (A.drop x) (B.drop y) := by
  unfold f dist
  rw [List.take_reverse, List.take_reverse, show A.length - (A.length - x) = x from by omega, show B.length - (B.length - y) = y from by omega, lcs_reverse]
  simp only [List.length_drop]

theorem f_over_left (A B : List Int) (i y : Nat) : f A B (A.length + i) y = f A B A.length y + i := by
  unfold f
  rw [List.take_of_length_le (by omega), List.take_of_length_le (Nat.le_refl _)]; omega

theorem f_over_right (A B : List Int) (x i : Nat) : f A B x (B.length + i) = f A B x B.length + i := by
  unfold f
  rw [List.take_of_length_le (l := B) (by omega), List.take_of_length_le (l := B) (Nat.le_refl _)]; omega

theorem dist_le_left (A B : List Int) {y : Nat} (hy : y ≤ B.length) : dist A B ≤ f A B A.length y + (B.length - y) := by
  have := dist_split A B A.length y (Nat.le_refl _) hy
  unfold dist at this ⊢
  simp only [List.drop_length, lcs_nil_left, List.length_nil, List.length_drop] at this
  omega

theorem dist_le_right (A B : List Int) {x : Nat} (hx : x ≤ A.length) : dist A B ≤ f A B x B.length + (A.length - x) := by
  have := dist_split A B x B.length hx (Nat.le_refl _)
  unfold dist at this ⊢
  simp only [List.drop_length, lcs_nil_right, List.length_nil, List.length_drop] at this
  omega

theorem overlap {A B : List Int} {d1 d2 : Int} {x y x' y' : Nat} (hk : (x' : Int) - y' = (A.length - B.length) - (x - y))
    (h1 : f A B x y ≤ d1) (h2 : f A.reverse B.reverse x' y' ≤ d2) (hc1 : (x' : Int) - y' ≤ d2) (hc2 : (y' : Int) - x' ≤ d2)
    (hov : (A.length : Int) ≤ x + x') (hD : d1 + d2 ≤ dist A B) :
    x ≤ A.length ∧ y ≤ B.length ∧ f A B x y = d1 ∧ dist (A.drop x) (B.drop y) = d2 ∧ dist A B = d1 + d2 := by
  by_cases hx : x ≤ A.length
  · by_cases hy : y ≤ B.length
    · have h3 := f_rev A B hx hy
      have h4 := f_diag_add A.reverse B.reverse (A.length - x) (B.length - y) (x' - (A.length - x))
      rw [show A.length - x + (x' - (A.length - x)) = x' from by omega, show B.length - y + (x' - (A.length - x)) = y' from by omega] at h4
      have h5 := dist_split A B x y hx hy
      refine ⟨hx, hy, by omega, by omega, by omega⟩
    · exfalso
      obtain ⟨i, rfl⟩ : ∃ i, y = B.length + i := ⟨y - B.length, by omega⟩
      rw [f_over_right] at h1
      have := dist_le_right A B hx
      omega
  · exfalso
    obtain ⟨i, rfl⟩ : ∃ i, x = A.length + i := ⟨x - A.length, by omega⟩
    rw [f_over_left] at h1
    by_cases hy : y ≤ B.length
    · have := dist_le_left A B hy
      omega
    · obtain ⟨j, rfl⟩ : ∃ j, y = B.length + j := ⟨y - B.length, by omega⟩
      rw [f_over_right, f_all] at h1
      omega

theorem f_parity (A B : List Int) (x y : Nat) : (f A B x y - ((x : Int) - y)) % 2 = 0 := by unfold f; omega

theorem meet {A B : List Int} {d1 d2 : Int} (h1 : 0 ≤ d1) (h2 : 0 ≤ d2) (hD : dist A B = d1 + d2) :
    ∃ k : Int, -d1 ≤ k ∧ k ≤ d1 ∧ (d1 - k) % 2 = 0 ∧ -d2 ≤ A.length - B.length - k ∧ A.length - B.length - k ≤ d2 ∧
      ∀ u w, Far A B d1 k u → Far A.reverse B.reverse d2 (A.length - B.length - k) w → (A.length : Int) ≤ u + w := by
  obtain ⟨x, y, hx, hy, hf, hr⟩ := dist_mid A B d1 h1 (by omega)
  have hr' := f_rev A B hx hy
  have g1 := f_ge A B x y
  have g2 := f_ge A.reverse B.reverse (A.length - x) (B.length - y)
  have g3 := f_parity A B x y
  refine ⟨(x : Int) - y, by omega, by omega, by omega, by omega, by omega, fun u w hu hw => ?_⟩
  have l1 := hu.le rfl (by omega)
  have l2 := hw.le (x := A.length - x) (y := B.length - y) (by omega) (by omega)
  omega

/-- with unlike ends of both something is left out on each side -/
theorem dist_two {A B : List Int} (ha : 0 < A.length) (hb : 0 < B.length) (h0 : A[0] ≠ B[0]) (h1 : A[A.length - 1] ≠ B[B.length - 1]) : 2 ≤ dist A B := by
  rw [← f_all]
  obtain ⟨n, hn⟩ : ∃ n, A.length = n + 1 := ⟨A.length - 1, by omega⟩
  obtain ⟨m, hm⟩ : ∃ m, B.length = m + 1 := ⟨B.length - 1, by omega⟩
  have key : ∀ (X Y : List Int) (x y : Nat), x ≤ X.length → y ≤ Y.length → 0 < x → 0 < y → (∀ (hx : 0 < X.length) (hy : 0 < Y.length), X[0] ≠ Y[0]) → 1 ≤ f X Y x y := by
    intro X Y x y hx hy h0x h0y hne
    have g := f_ge X Y x y
    by_cases hc : 1 ≤ f X Y x y
    · exact hc
    · exfalso
      have e : (X.take x).length + (Y.take y).length = 2 * lcs (X.take x) (Y.take y) := by
        unfold f at hc g; simp only [List.length_take]; omega
      have e2 := lcs_full e
      have e3 : (X.take x)[0]'(by simp; omega) = (Y.take y)[0]'(by simp; omega) := by simp only [e2]
      simp only [List.getElem_take] at e3
      exact hne (by omega) (by omega) e3
  rw [hn, hm]
  refine f_unmatch (d := 1) (fun hx hy => ?_) ?_ ?_
  · have h1' := h1; simp only [hn, hm, Nat.add_sub_cancel] at h1'; exact h1'
  · by_cases hm0 : m = 0
    · subst hm0; rw [f_zero_right]; omega
    · exact key A B (n + 1) m (by omega) (by omega) (by omega) (by omega) (fun _ _ => h0)
  · by_cases hn0 : n = 0
    · subst hn0; rw [f_zero_left]; omega
    · exact key A B n (m + 1) (by omega) (by omega) (by omega) (by omega) (fun _ _ => h0)

end Go.Proofs.Ytadafplbgophfaa.TriLcs
