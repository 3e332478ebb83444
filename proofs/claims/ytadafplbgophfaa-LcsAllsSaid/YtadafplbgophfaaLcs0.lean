namespace Go.Proofs.Ytadafplbgophfaa.TriLcs

def lcs : List Int → List Int → Nat
  | [], _ => 0
  | _ :: _, [] => 0
  | x :: xs, y :: ys => if x = y then lcs xs ys + 1 else max (lcs (x :: xs) ys) (lcs xs (y :: ys))
termination_by a b => a.length + b.length

theorem lcs_nil_left (b : List Int) : lcs [] b = 0 := by unfold lcs; rfl
theorem lcs_nil_right (a : List Int) : lcs a [] = 0 := by cases a <;> (unfold lcs; rfl)
theorem lcs_cons_eq (x : Int) (xs ys : List Int) : lcs (x :: xs) (x :: ys) = lcs xs ys + 1 := by
  rw [lcs]; simp
theorem lcs_cons_ne {x y : Int} (h : x ≠ y) (xs ys : List Int) :
    lcs (x :: xs) (y :: ys) = max (lcs (x :: xs) ys) (lcs xs (y :: ys)) := by
  rw [lcs]; simp [h]

theorem lcs_sub (a b : List Int) : ∃ s : List Int, s.Sublist a ∧ s.Sublist b ∧ s.length = lcs a b := by
  match a, b with
  | [], b => exact ⟨[], by simp, by simp, by simp [lcs_nil_left]⟩
  | x :: xs, [] => exact ⟨[], by simp, by simp, by simp [lcs_nil_right]⟩
  | x :: xs, y :: ys =>
    by_cases h : x = y
    · subst h
      obtain ⟨s, h1, h2, h3⟩ := lcs_sub xs ys
      exact ⟨x :: s, h1.cons_cons x, h2.cons_cons x, by rw [lcs_cons_eq]; simp [h3]⟩
    · rw [lcs_cons_ne h]
      by_cases hm : lcs (x :: xs) ys ≤ lcs xs (y :: ys)
      · obtain ⟨s, h1, h2, h3⟩ := lcs_sub xs (y :: ys)
        exact ⟨s, h1.cons x, h2, by omega⟩
      · obtain ⟨s, h1, h2, h3⟩ := lcs_sub (x :: xs) ys
        exact ⟨s, h1, h2.cons y, by omega⟩
termination_by a.length + b.length

theorem sub_cons_inv {c : Int} {s : List Int} {x : Int} {xs : List Int} (h : (c :: s).Sublist (x :: xs)) :
    (c :: s).Sublist xs ∨ (c = x ∧ s.Sublist xs) := by
  cases h with
  | cons _ h => exact Or.inl h
  | cons_cons _ h => exact Or.inr ⟨rfl, h⟩

theorem sub_of_cons {c : Int} {s xs : List Int} (h : (c :: s).Sublist xs) : s.Sublist xs :=
  (List.sublist_cons_self c s).trans h

theorem sub_tail {c : Int} {s : List Int} {x : Int} {xs : List Int} (h : (c :: s).Sublist (x :: xs)) : s.Sublist xs := by
  rcases sub_cons_inv h with h | ⟨_, h⟩
  · exact sub_of_cons h
  · exact h

theorem lcs_max (a b : List Int) : ∀ s : List Int, s.Sublist a → s.Sublist b → s.length ≤ lcs a b := by
  match a, b with
  | [], b => intro s h1 _; have := h1.length_le; simp only [List.length_nil] at this; omega
  | x :: xs, [] => intro s _ h2; have := h2.length_le; simp only [List.length_nil] at this; omega
  | x :: xs, y :: ys =>
    intro s h1 h2
    match s, h1, h2 with
    | [], _, _ => simp
    | c :: s, h1, h2 =>
      by_cases h : x = y
      · subst h
        rw [lcs_cons_eq]
        have := lcs_max xs ys s (sub_tail h1) (sub_tail h2)
        simp only [List.length_cons]; omega
      · rw [lcs_cons_ne h]
        rcases sub_cons_inv h1 with h1' | ⟨e1, _⟩
        · have := lcs_max xs (y :: ys) _ h1' h2; omega
        · rcases sub_cons_inv h2 with h2' | ⟨e2, _⟩
          · have := lcs_max (x :: xs) ys _ h1 h2'; omega
          · exact absurd (e1.symm.trans e2) h
termination_by a.length + b.length

theorem lcs_le_of {a b c d : List Int} (h : ∀ s : List Int, s.Sublist a → s.Sublist b → ∃ t : List Int, t.Sublist c ∧ t.Sublist d ∧ s.length ≤ t.length) :
    lcs a b ≤ lcs c d := by
  obtain ⟨s, h1, h2, h3⟩ := lcs_sub a b
  obtain ⟨t, g1, g2, g3⟩ := h s h1 h2
  have := lcs_max c d t g1 g2
  omega

theorem lcs_comm (a b : List Int) : lcs a b = lcs b a := by
  apply Nat.le_antisymm <;> exact lcs_le_of fun s h1 h2 => ⟨s, h2, h1, Nat.le_refl _⟩

theorem lcs_reverse (a b : List Int) : lcs a.reverse b.reverse = lcs a b := by
  apply Nat.le_antisymm
  · refine lcs_le_of fun s h1 h2 => ⟨s.reverse, ?_, ?_, by simp⟩
    · have := h1.reverse; simpa using this
    · have := h2.reverse; simpa using this
  · exact lcs_le_of fun s h1 h2 => ⟨s.reverse, h1.reverse, h2.reverse, by simp⟩

theorem lcs_append (a b c d : List Int) : lcs a b + lcs c d ≤ lcs (a ++ c) (b ++ d) := by
  obtain ⟨s, h1, h2, h3⟩ := lcs_sub a b
  obtain ⟨t, g1, g2, g3⟩ := lcs_sub c d
  have := lcs_max (a ++ c) (b ++ d) (s ++ t) (h1.append g1) (h2.append g2)
  simp at this; omega

theorem lcs_le_left (a b : List Int) : lcs a b ≤ a.length := by
  obtain ⟨s, h1, _, h3⟩ := lcs_sub a b
  have := h1.length_le; omega
theorem lcs_le_right (a b : List Int) : lcs a b ≤ b.length := by
  rw [lcs_comm]; exact lcs_le_left b a

theorem lcs_mono {a b c d : List Int} (h : a.Sublist c) (g : b.Sublist d) : lcs a b ≤ lcs c d :=
  lcs_le_of fun s h1 h2 => ⟨s, h1.trans h, h2.trans g, Nat.le_refl _⟩

theorem lcs_snoc_eq (a b : List Int) (x : Int) : lcs (a ++ [x]) (b ++ [x]) = lcs a b + 1 := by
  rw [← lcs_reverse, List.reverse_append, List.reverse_append]
  simp only [List.reverse_cons, List.reverse_nil, List.nil_append, List.singleton_append]
  rw [lcs_cons_eq, lcs_reverse]

theorem lcs_snoc_ne (a b : List Int) {x y : Int} (h : x ≠ y) :
    lcs (a ++ [x]) (b ++ [y]) = max (lcs (a ++ [x]) b) (lcs a (b ++ [y])) := by
  rw [← lcs_reverse, List.reverse_append, List.reverse_append]
  simp only [List.reverse_cons, List.reverse_nil, List.nil_append, List.singleton_append]
  rw [lcs_cons_ne h]
  congr 1
  · rw [← lcs_reverse (a ++ [x]) b]; simp
  · rw [← lcs_reverse a (b ++ [y])]; simp

theorem lcs_cons_cons_le (x y : Int) (a b : List Int) : lcs (x :: a) (y :: b) ≤ lcs a b + 1 := by
  obtain ⟨s, h1, h2, h3⟩ := lcs_sub (x :: a) (y :: b)
  match s, h1, h2, h3 with
  | [], _, _, h3 => simp at h3; omega
  | c :: s, h1, h2, h3 =>
    have := lcs_max a b s (sub_tail h1) (sub_tail h2)
    simp at h3; omega

theorem lcs_snoc_snoc_le (x y : Int) (a b : List Int) : lcs (a ++ [x]) (b ++ [y]) ≤ lcs a b + 1 := by
  rw [← lcs_reverse, List.reverse_append, List.reverse_append]
  simp only [List.reverse_cons, List.reverse_nil, List.nil_append, List.singleton_append]
  have := lcs_cons_cons_le x y a.reverse b.reverse
  rw [lcs_reverse] at this; exact this

theorem lcs_snoc_left_le (x : Int) (a b : List Int) : lcs (a ++ [x]) b ≤ lcs a b + 1 := by
  rw [← lcs_reverse, List.reverse_append]
  simp only [List.reverse_cons, List.reverse_nil, List.nil_append, List.singleton_append]
  rw [← lcs_reverse a b]
  obtain ⟨s, h1, h2, h3⟩ := lcs_sub (x :: a.reverse) b.reverse
  match s, h1, h2, h3 with
  | [], _, _, h3 => simp at h3; omega
  | c :: s, h1, h2, h3 =>
    have := lcs_max a.reverse b.reverse s (sub_tail h1) (sub_of_cons h2)
    simp at h3; omega

theorem lcs_snoc_right_le (x : Int) (a b : List Int) : lcs a (b ++ [x]) ≤ lcs a b + 1 := by
  rw [lcs_comm, lcs_comm a b]; exact lcs_snoc_left_le x b a

theorem lcs_self (a : List Int) : lcs a a = a.length :=
  Nat.le_antisymm (lcs_le_left a a) (lcs_max a a a (List.Sublist.refl a) (List.Sublist.refl a))

theorem lcs_of_sub {a b : List Int} (h : b.Sublist a) : lcs a b = b.length :=
  Nat.le_antisymm (lcs_le_right a b) (lcs_max a b b h (List.Sublist.refl b))

/-- two sublists of one list have much in common -/
theorem sub_meet (b : List Int) : ∀ s t : List Int, s.Sublist b → t.Sublist b →
    ∃ u : List Int, u.Sublist s ∧ u.Sublist t ∧ s.length + t.length ≤ u.length + b.length := by
  induction b with
  | nil => intro s t h1 h2; have a1 := h1.length_le; have a2 := h2.length_le; simp at a1 a2; exact ⟨[], by simp, by simp, by simp [a1, a2]⟩
  | cons x b ih =>
    intro s t h1 h2
    cases h1 with
    | cons _ h1 =>
      cases h2 with
      | cons _ h2 =>
        obtain ⟨u, g1, g2, g3⟩ := ih _ _ h1 h2
        exact ⟨u, g1, g2, by simp only [List.length_cons]; omega⟩
      | cons_cons _ h2 =>
        obtain ⟨u, g1, g2, g3⟩ := ih _ _ h1 h2
        exact ⟨u, g1, g2.cons x, by simp only [List.length_cons]; omega⟩
    | cons_cons _ h1 =>
      cases h2 with
      | cons _ h2 =>
        obtain ⟨u, g1, g2, g3⟩ := ih _ _ h1 h2
        exact ⟨u, g1.cons x, g2, by simp only [List.length_cons]; omega⟩
      | cons_cons _ h2 =>
        obtain ⟨u, g1, g2, g3⟩ := ih _ _ h1 h2
        exact ⟨x :: u, g1.cons_cons x, g2.cons_cons x, by simp only [List.length_cons]; omega⟩

theorem lcs_triangle (a b c : List Int) : lcs a b + lcs b c ≤ lcs a c + b.length := by
  obtain ⟨s, h1, h2, h3⟩ := lcs_sub a b
  obtain ⟨t, g1, g2, g3⟩ := lcs_sub b c
  obtain ⟨u, k1, k2, k3⟩ := sub_meet b s t h2 g1
  have := lcs_max a c u (k1.trans h1) (k2.trans g2)
  omega

theorem lcs_full {a b : List Int} (h : a.length + b.length = 2 * lcs a b) : a = b := by
  obtain ⟨s, h1, h2, h3⟩ := lcs_sub a b
  have g1 := h1.length_le
  have g2 := h2.length_le
  rw [← h1.eq_of_length (by omega), ← h2.eq_of_length (by omega)]

/-- how many are left out, of the first x and the first y -/
def f (A B : List Int) (x y : Nat) : Int := (x : Int) + y - 2 * (lcs (A.take x) (B.take y) : Nat)

theorem f_zero_left (A B : List Int) (y : Nat) : f A B 0 y = y := by unfold f; simp [lcs_nil_left]
theorem f_zero_right (A B : List Int) (x : Nat) : f A B x 0 = x := by unfold f; simp [lcs_nil_right]

theorem f_ge (A B : List Int) (x y : Nat) : (x : Int) - y ≤ f A B x y ∧ (y : Int) - x ≤ f A B x y := by
  unfold f
  have h1 := lcs_le_left (A.take x) (B.take y)
  have h2 := lcs_le_right (A.take x) (B.take y)
  have h3 := List.length_take_le x A
  have h4 := List.length_take_le y B
  omega

theorem take_snoc {A : List Int} {x : Nat} (h : x < A.length) : A.take (x + 1) = A.take x ++ [A[x]] := by
  rw [List.take_succ_eq_append_getElem h]

theorem take_over {A : List Int} {x : Nat} (h : A.length ≤ x) : A.take (x + 1) = A.take x := by
  rw [List.take_of_length_le h, List.take_of_length_le (by omega)]

theorem f_step_left (A B : List Int) (x y : Nat) : f A B (x + 1) y ≤ f A B x y + 1 ∧ f A B x y ≤ f A B (x + 1) y + 1 := by
  unfold f
  by_cases h : x < A.length
  · rw [take_snoc h]
    have h1 := lcs_snoc_left_le A[x] (A.take x) (B.take y)
    have h2 := lcs_mono (List.sublist_append_left (A.take x) [A[x]]) (List.Sublist.refl (B.take y))
    omega
  · rw [take_over (by omega)]; omega

theorem f_step_right (A B : List Int) (x y : Nat) : f A B x (y + 1) ≤ f A B x y + 1 ∧ f A B x y ≤ f A B x (y + 1) + 1 := by
  unfold f
  by_cases h : y < B.length
  · rw [take_snoc h]
    have h1 := lcs_snoc_right_le B[y] (A.take x) (B.take y)
    have h2 := lcs_mono (List.Sublist.refl (A.take x)) (List.sublist_append_left (B.take y) [B[y]])
    omega
  · rw [take_over (A := B) (by omega)]; omega

theorem f_diag (A B : List Int) (x y : Nat) : f A B x y ≤ f A B (x + 1) (y + 1) := by
  unfold f
  by_cases hx : x < A.length
  · by_cases hy : y < B.length
    · rw [take_snoc hx, take_snoc hy]
      have := lcs_snoc_snoc_le A[x] B[y] (A.take x) (B.take y)
      omega
    · rw [take_snoc hx, take_over (A := B) (by omega)]
      have := lcs_snoc_left_le A[x] (A.take x) (B.take y)
      omega
  · rw [take_over (A := A) (by omega)]
    by_cases hy : y < B.length
    · rw [take_snoc hy]
      have := lcs_snoc_right_le B[y] (A.take x) (B.take y)
      omega
    · rw [take_over (A := B) (by omega)]; omega

theorem f_diag_add (A B : List Int) (x y i : Nat) : f A B x y ≤ f A B (x + i) (y + i) := by
  induction i with
  | zero => exact Int.le_refl _
  | succ i ih => exact Int.le_trans ih (f_diag A B (x + i) (y + i))

theorem f_match {A B : List Int} {x y : Nat} (hx : x < A.length) (hy : y < B.length) (h : A[x] = B[y]) :
    f A B (x + 1) (y + 1) = f A B x y := by
  unfold f
  rw [take_snoc hx, take_snoc hy, h, lcs_snoc_eq]; omega

theorem f_unmatch {A B : List Int} {x y : Nat} {d : Int} (h : ∀ (hx : x < A.length) (hy : y < B.length), A[x] ≠ B[y])
    (h1 : d ≤ f A B (x + 1) y) (h2 : d ≤ f A B x (y + 1)) : d + 1 ≤ f A B (x + 1) (y + 1) := by
  unfold f at *
  by_cases hx : x < A.length
  · by_cases hy : y < B.length
    · rw [take_snoc hx, take_snoc hy, lcs_snoc_ne _ _ (h hx hy)]
      rw [take_snoc hx] at h1
      rw [take_snoc hy] at h2
      omega
    · rw [take_over (A := B) (by omega)]; omega
  · rw [take_over (A := A) (by omega)]
    omega

/-- all of both: what is left out -/
def dist (A B : List Int) : Int := (A.length : Int) + B.length - 2 * (lcs A B : Nat)

theorem f_all (A B : List Int) : f A B A.length B.length = dist A B := by unfold f dist; simp

theorem dist_split (A B : List Int) (x y : Nat) (hx : x ≤ A.length) (hy : y ≤ B.length) :
    dist A B ≤ f A B x y + dist (A.drop x) (B.drop y) := by
  unfold f dist
  have := lcs_append (A.take x) (B.take y) (A.drop x) (B.drop y)
  simp only [List.take_append_drop] at this
  simp only [List.length_drop]
  omega

theorem dist_cons (x : Int) (a b : List Int) : dist (x :: a) (x :: b) = dist a b := by
  unfold dist; rw [lcs_cons_eq]; simp only [List.length_cons]; omega

/-- on a shortest way there is a place of each number of steps -/
theorem dist_mid (A B : List Int) : ∀ t : Int, 0 ≤ t → t ≤ dist A B → ∃ x y : Nat, x ≤ A.length ∧ y ≤ B.length ∧ f A B x y = t ∧ dist (A.drop x) (B.drop y) = dist A B - t := by
  match A, B with
  | [], B =>
    intro t h0 h1
    unfold dist at h1 ⊢
    simp only [lcs_nil_left, List.length_nil] at h1
    refine ⟨0, t.toNat, by simp, by omega, by rw [f_zero_left]; omega, ?_⟩
    simp only [lcs_nil_left, List.length_nil, List.drop_zero, List.length_drop]; omega
  | a :: A, [] =>
    intro t h0 h1
    unfold dist at h1 ⊢
    simp only [lcs_nil_right, List.length_nil] at h1
    refine ⟨t.toNat, 0, by omega, by simp, by rw [f_zero_right]; omega, ?_⟩
    simp only [lcs_nil_right, List.length_nil, List.drop_zero, List.length_drop]; omega
  | a :: A, b :: B =>
    intro t h0 h1
    by_cases h : a = b
    · subst h
      rw [dist_cons] at h1 ⊢
      obtain ⟨x, y, hx, hy, hf, hd⟩ := dist_mid A B t h0 h1
      refine ⟨x + 1, y + 1, by simp only [List.length_cons]; omega, by simp only [List.length_cons]; omega, ?_, by simpa using hd⟩
      rw [← hf]; unfold f
      simp only [List.take_succ_cons, lcs_cons_eq]; omega
    · by_cases ht : t = 0
      · subst ht; exact ⟨0, 0, by simp, by simp, by rw [f_zero_left]; rfl, by simp⟩
      · have hne := lcs_cons_ne h A B
        by_cases hm : lcs (a :: A) B ≤ lcs A (b :: B)
        · have e : dist (a :: A) (b :: B) = dist A (b :: B) + 1 := by
            unfold dist; rw [hne]; simp only [List.length_cons]; omega
          obtain ⟨x, y, hx, hy, hf, hd⟩ := dist_mid A (b :: B) (t - 1) (by omega) (by omega)
          have s := dist_split (a :: A) (b :: B) (x + 1) y (by simp only [List.length_cons]; omega) hy
          simp only [List.drop_succ_cons] at s
          refine ⟨x + 1, y, by simp only [List.length_cons]; omega, hy, ?_, by simp only [List.drop_succ_cons]; omega⟩
          have hle : f (a :: A) (b :: B) (x + 1) y ≤ f A (b :: B) x y + 1 := by
            unfold f
            simp only [List.take_succ_cons]
            have := lcs_mono (List.sublist_cons_self a (A.take x)) (List.Sublist.refl ((b :: B).take y))
            omega
          omega
        · have e : dist (a :: A) (b :: B) = dist (a :: A) B + 1 := by
            unfold dist; rw [hne]; simp only [List.length_cons]; omega
          obtain ⟨x, y, hx, hy, hf, hd⟩ := dist_mid (a :: A) B (t - 1) (by omega) (by omega)
          have s := dist_split (a :: A) (b :: B) x (y + 1) hx (by simp only [List.length_cons]; omega)
          simp only [List.drop_succ_cons] at s
          refine ⟨x, y + 1, hx, by simp only [List.length_cons]; omega, ?_, by simp only [List.drop_succ_cons]; omega⟩
          have hle : f (a :: A) (b :: B) x (y + 1) ≤ f (a :: A) B x y + 1 := by
            unfold f
            simp only [List.take_succ_cons]
            have := lcs_mono (List.Sublist.refl ((a :: A).take x)) (List.sublist_cons_self b (B.take y))
            omega
          omega
termination_by A.length + B.length

end Go.Proofs.Ytadafplbgophfaa.TriLcs
