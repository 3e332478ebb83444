/- Part 6 of what the row of the law BuildHoists rests on: walks of functions, and plain lemmas (in part printed by the kit's print, what is not reached left out). -/
import Derived.Test.YtadafplbgophfaabuildHoists5
import Derived.Deep.Strs
import Derived.Deep.Grids
import Derived.Deep.SlicePairs
import Derived.OpenShut
section
namespace Go.Proofs.Ytadafplbgophfaa.Pure
namespace Txt
open Go.RowKit Go.Proofs.Ytadafplbgophfaa.PA Go.Proofs.YtadafplbgophfaaW.PrintWords Go.Proofs.YtadafplbgophfaaW.PrintLast Go.Proofs.YtadafplbgophfaaW.PrintMore
def Stops (p : Nat → Prop) (n : Nat) : Prop := (∀ i, i < n → p i) ∧ ¬ p n
theorem Stops.uniq {p : Nat → Prop} {n m : Nat} (h : Stops p n) (g : Stops p m) : n = m := by
  rcases Nat.lt_trichotomy n m with hl | he | hg
  · exact absurd (g.1 n hl) h.2
  · exact he
  · exact absurd (h.1 m hg) g.2
def Fore (a b : List ByteArray) (i : Nat) : Prop := i < a.length ∧ i < b.length ∧ (a.getD i ByteArray.empty).toList = (b.getD i ByteArray.empty).toList
def Rear (a b : List ByteArray) (n i : Nat) : Prop := n + i < a.length ∧ n + i < b.length ∧ (a.getD (a.length - 1 - i) ByteArray.empty).toList = (b.getD (b.length - 1 - i) ByteArray.empty).toList
theorem w64 {x : Int} (h0 : -9223372036854775808 ≤ x) (h1 : x ≤ 9223372036854775807) : wrap64 x = x := by unfold wrap64; omega
theorem rd_nat (xs : List ByteArray) (i : Nat) : rdOf ByteArray.empty xs (i : Int) = xs.getD i ByteArray.empty := by simp [rdOf]
theorem getD_drop (xs : List ByteArray) (n i : Nat) : (xs.drop n).getD i ByteArray.empty = xs.getD (n + i) ByteArray.empty := by simp [List.getD_eq_getElem?_getD, List.getElem?_drop]
theorem ends_rear (a b : List ByteArray) (n : Nat) (ha : a.length ≤ 1000000000000) (hb : b.length ≤ 1000000000000) (hna : n ≤ a.length) (hnb : n ≤ b.length) :
    ∀ (d j : Nat), a.length - j ≤ d → n + j ≤ a.length → n + j ≤ b.length → (∀ i, i < j → Rear a b n i) →
      ∃ m, Stops (Rear a b n) m ∧ Ev (fun k => trim_Ends_string.l1 k (a.drop n) (b.drop n) n j) (n, m) := by
  intro d
  induction d with
  | zero =>
    intro j h1 h2 h3 h4
    refine ⟨j, ⟨h4, fun h => by have := h.1; omega⟩, Ev.step (f := fun _ => some ((n : Int), (j : Int))) (fun k => ?_) (Ev.now _)⟩
    simp only [trim_Ends_string.l1]
    rw [if_neg (by simp only [List.length_drop]; unfold mn; split <;> omega)]
  | succ d ih =>
    intro j h1 h2 h3 h4
    by_cases hj : n + j < a.length ∧ n + j < b.length
    · have e1 : wrap64 (wrap64 (((a.drop n).length : Int) - 1) - j) = ((a.length - n - 1 - j : Nat) : Int) := by
        rw [List.length_drop, w64 (x := ((a.length - n : Nat) : Int) - 1) (by omega) (by omega), w64 (by omega) (by omega)]; omega
      have e2 : wrap64 (wrap64 (((b.drop n).length : Int) - 1) - j) = ((b.length - n - 1 - j : Nat) : Int) := by
        rw [List.length_drop, w64 (x := ((b.length - n : Nat) : Int) - 1) (by omega) (by omega), w64 (by omega) (by omega)]; omega
      by_cases he : (a.getD (a.length - 1 - j) ByteArray.empty).toList = (b.getD (b.length - 1 - j) ByteArray.empty).toList
      · obtain ⟨m, hm, hE⟩ := ih (j + 1) (by omega) (by omega) (by omega) (fun i hi => by
          rcases Nat.lt_succ_iff_lt_or_eq.1 hi with h | rfl
          · exact h4 i h
          · exact ⟨hj.1, hj.2, he⟩)
        refine ⟨m, hm, Ev.step (fun k => ?_) hE⟩
        simp only [trim_Ends_string.l1]
        rw [e1, e2, if_pos (by simp only [List.length_drop]; unfold mn; split <;> omega), if_pos (by omega), if_pos (by simp only [List.length_drop]; omega), if_pos (by omega), if_pos (by simp only [List.length_drop]; omega), rd_nat, rd_nat, getD_drop, getD_drop,
          show n + (a.length - n - 1 - j) = a.length - 1 - j from by omega, show n + (b.length - n - 1 - j) = b.length - 1 - j from by omega, if_pos he, w64 (by omega) (by omega)]
        rfl
      · refine ⟨j, ⟨h4, fun h => he h.2.2⟩, Ev.step (f := fun _ => some ((n : Int), (j : Int))) (fun k => ?_) (Ev.now _)⟩
        simp only [trim_Ends_string.l1]
        rw [e1, e2, if_pos (by simp only [List.length_drop]; unfold mn; split <;> omega), if_pos (by omega), if_pos (by simp only [List.length_drop]; omega), if_pos (by omega), if_pos (by simp only [List.length_drop]; omega), rd_nat, rd_nat, getD_drop, getD_drop,
          show n + (a.length - n - 1 - j) = a.length - 1 - j from by omega, show n + (b.length - n - 1 - j) = b.length - 1 - j from by omega, if_neg he]
    · refine ⟨j, ⟨h4, fun h => hj ⟨h.1, h.2.1⟩⟩, Ev.step (f := fun _ => some ((n : Int), (j : Int))) (fun k => ?_) (Ev.now _)⟩
      simp only [trim_Ends_string.l1]
      rw [if_neg (by simp only [List.length_drop]; unfold mn; split <;> omega)]
theorem ends_fore (a b : List ByteArray) (ha : a.length ≤ 1000000000000) (hb : b.length ≤ 1000000000000) :
    ∀ (d i : Nat), a.length - i ≤ d → i ≤ a.length → i ≤ b.length → (∀ j, j < i → Fore a b j) →
      ∃ n m, Stops (Fore a b) n ∧ Stops (Rear a b n) m ∧ Ev (fun k => trim_Ends_string.l0 k a b i) (n, m) := by
  intro d
  induction d with
  | zero =>
    intro i h1 h2 h3 h4
    obtain ⟨m, hm, hE⟩ := ends_rear a b i ha hb h2 h3 a.length 0 (by omega) (by omega) (by omega) (fun j hj => by omega)
    refine ⟨i, m, ⟨h4, fun h => by have := h.1; omega⟩, hm, Ev.step (fun k => ?_) (Ev.step (g := fun k => trim_Ends_string.j1 k a b i) (fun k => ?_) hE)⟩
    · simp only [trim_Ends_string.l0]
      rw [if_neg (by unfold mn; split <;> omega)]
    · simp only [trim_Ends_string.j1]
      rw [if_pos (by omega), if_pos (by omega), if_pos (by omega), Int.toNat_natCast]; rfl
  | succ d ih =>
    intro i h1 h2 h3 h4
    by_cases hf : Fore a b i
    · obtain ⟨n, m, hn, hm, hE⟩ := ih (i + 1) (by have := hf.1; omega) hf.1 hf.2.1 (fun j hj => by
        rcases Nat.lt_succ_iff_lt_or_eq.1 hj with h | rfl
        · exact h4 j h
        · exact hf)
      obtain ⟨f1, f2, f3⟩ := hf
      refine ⟨n, m, hn, hm, Ev.step (fun k => ?_) hE⟩
      simp only [trim_Ends_string.l0]
      rw [if_pos (by unfold mn; split <;> omega), if_pos (by omega), if_pos (by omega), if_pos (by omega), rd_nat, rd_nat, if_pos f3, w64 (by omega) (by omega)]
      rfl
    · obtain ⟨m, hm, hE⟩ := ends_rear a b i ha hb h2 h3 a.length 0 (by omega) (by omega) (by omega) (fun j hj => by omega)
      refine ⟨i, m, ⟨h4, hf⟩, hm, Ev.step (fun k => ?_) (Ev.step (g := fun k => trim_Ends_string.j1 k a b i) (fun k => ?_) hE)⟩
      · simp only [trim_Ends_string.l0]
        by_cases hl : i < a.length ∧ i < b.length
        · rw [if_pos (by unfold mn; split <;> omega), if_pos (by omega), if_pos (by omega), if_pos (by omega), rd_nat, rd_nat, if_neg (fun h => hf ⟨hl.1, hl.2, h⟩)]
        · rw [if_neg (by unfold mn; split <;> omega)]
      · simp only [trim_Ends_string.j1]
        rw [if_pos (by omega), if_pos (by omega), if_pos (by omega), Int.toNat_natCast]; rfl
theorem ends_int (a b : List ByteArray) (ha : a.length ≤ 1000000000000) (hb : b.length ≤ 1000000000000) :
    ∃ n m, Stops (Fore a b) n ∧ Stops (Rear a b n) m ∧ Ev (fun k => trim_Ends_string.f k a b) (n, m) :=
  ends_fore a b ha hb a.length 0 (by omega) (by omega) (by omega) (fun j hj => by omega)
theorem ref_rear (a b : List ByteArray) (n : Nat) (ha : a.length ≤ 1000000000000) (hb : b.length ≤ 1000000000000) :
    ∀ (d j : Nat), a.length - j ≤ d → n + j ≤ a.length → n + j ≤ b.length → (∀ i, i < j → Rear a b n i) →
      ∃ m, Stops (Rear a b n) m ∧ Ev (fun k => tripartiteref02_EndsText.l1 k a b n j) (n, m) := by
  intro d
  induction d with
  | zero =>
    intro j h1 h2 h3 h4
    refine ⟨j, ⟨h4, fun h => by have := h.1; omega⟩, Ev.step (f := fun _ => some ((n : Int), (j : Int))) (fun k => ?_) (Ev.now _)⟩
    simp only [tripartiteref02_EndsText.l1]
    rw [w64 (by omega) (by omega), if_neg (by omega)]
  | succ d ih =>
    intro j h1 h2 h3 h4
    have e0 : wrap64 ((n : Int) + j) = ((n + j : Nat) : Int) := by rw [w64 (by omega) (by omega)]; omega
    by_cases hj : n + j < a.length ∧ n + j < b.length
    · have e1 : wrap64 (wrap64 ((a.length : Int) - 1) - j) = ((a.length - 1 - j : Nat) : Int) := by
        rw [w64 (x := (a.length : Int) - 1) (by omega) (by omega), w64 (by omega) (by omega)]; omega
      have e2 : wrap64 (wrap64 ((b.length : Int) - 1) - j) = ((b.length - 1 - j : Nat) : Int) := by
        rw [w64 (x := (b.length : Int) - 1) (by omega) (by omega), w64 (by omega) (by omega)]; omega
      by_cases he : (a.getD (a.length - 1 - j) ByteArray.empty).toList = (b.getD (b.length - 1 - j) ByteArray.empty).toList
      · obtain ⟨m, hm, hE⟩ := ih (j + 1) (by omega) (by omega) (by omega) (fun i hi => by
          rcases Nat.lt_succ_iff_lt_or_eq.1 hi with h | rfl
          · exact h4 i h
          · exact ⟨hj.1, hj.2, he⟩)
        refine ⟨m, hm, Ev.step (fun k => ?_) hE⟩
        simp only [tripartiteref02_EndsText.l1]
        rw [e0, e1, e2, if_pos (by omega), if_pos (by omega), if_pos (by omega), if_pos (by omega), if_pos (by omega), if_pos (by omega), rd_nat, rd_nat, if_pos he, w64 (by omega) (by omega)]
        rfl
      · refine ⟨j, ⟨h4, fun h => he h.2.2⟩, Ev.step (f := fun _ => some ((n : Int), (j : Int))) (fun k => ?_) (Ev.now _)⟩
        simp only [tripartiteref02_EndsText.l1]
        rw [e0, e1, e2, if_pos (by omega), if_pos (by omega), if_pos (by omega), if_pos (by omega), if_pos (by omega), if_pos (by omega), rd_nat, rd_nat, if_neg he]
    · refine ⟨j, ⟨h4, fun h => hj ⟨h.1, h.2.1⟩⟩, Ev.step (f := fun _ => some ((n : Int), (j : Int))) (fun k => ?_) (Ev.now _)⟩
      simp only [tripartiteref02_EndsText.l1]
      rw [e0]
      by_cases ha' : n + j < a.length
      · rw [if_pos (by omega), if_neg (by omega)]
      · rw [if_neg (by omega)]
theorem ref_fore (a b : List ByteArray) (ha : a.length ≤ 1000000000000) (hb : b.length ≤ 1000000000000) :
    ∀ (d i : Nat), a.length - i ≤ d → i ≤ a.length → i ≤ b.length → (∀ j, j < i → Fore a b j) →
      ∃ n m, Stops (Fore a b) n ∧ Stops (Rear a b n) m ∧ Ev (fun k => tripartiteref02_EndsText.l0 k a b i 0) (n, m) := by
  intro d
  induction d with
  | zero =>
    intro i h1 h2 h3 h4
    obtain ⟨m, hm, hE⟩ := ref_rear a b i ha hb a.length 0 (by omega) (by omega) (by omega) (fun j hj => by omega)
    refine ⟨i, m, ⟨h4, fun h => by have := h.1; omega⟩, hm, Ev.step (fun k => ?_) (Ev.step (g := fun k => tripartiteref02_EndsText.j1 k a b i 0) (fun k => ?_) hE)⟩
    · simp only [tripartiteref02_EndsText.l0]
      rw [if_neg (by omega)]
    · simp only [tripartiteref02_EndsText.j1]; rfl
  | succ d ih =>
    intro i h1 h2 h3 h4
    by_cases hf : Fore a b i
    · obtain ⟨n, m, hn, hm, hE⟩ := ih (i + 1) (by have := hf.1; omega) hf.1 hf.2.1 (fun j hj => by
        rcases Nat.lt_succ_iff_lt_or_eq.1 hj with h | rfl
        · exact h4 j h
        · exact hf)
      obtain ⟨f1, f2, f3⟩ := hf
      refine ⟨n, m, hn, hm, Ev.step (fun k => ?_) hE⟩
      simp only [tripartiteref02_EndsText.l0]
      rw [if_pos (by omega), if_pos (by omega), if_pos (by omega), rd_nat, rd_nat, if_pos f3, w64 (by omega) (by omega)]
      rfl
    · obtain ⟨m, hm, hE⟩ := ref_rear a b i ha hb a.length 0 (by omega) (by omega) (by omega) (fun j hj => by omega)
      refine ⟨i, m, ⟨h4, hf⟩, hm, Ev.step (fun k => ?_) (Ev.step (g := fun k => tripartiteref02_EndsText.j1 k a b i 0) (fun k => ?_) hE)⟩
      · simp only [tripartiteref02_EndsText.l0]
        by_cases hl : i < a.length
        · by_cases hl2 : i < b.length
          · rw [if_pos (by omega), if_pos (by omega), if_pos (by omega), rd_nat, rd_nat, if_neg (fun h => hf ⟨hl, hl2, h⟩)]
          · rw [if_pos (by omega), if_neg (by omega)]
        · rw [if_neg (by omega)]
      · simp only [tripartiteref02_EndsText.j1]; rfl
theorem ref_int (a b : List ByteArray) (ha : a.length ≤ 1000000000000) (hb : b.length ≤ 1000000000000) :
    ∃ n m, Stops (Fore a b) n ∧ Stops (Rear a b n) m ∧ Ev (fun k => tripartiteref02_EndsText.f k a b) (n, m) :=
  ref_fore a b ha hb a.length 0 (by omega) (by omega) (by omega) (fun j hj => by omega)
theorem ends_same {a b : List ByteArray} {n m p q : Nat} (h1 : Stops (Fore a b) n) (h2 : Stops (Rear a b n) m) (h3 : Stops (Fore a b) p) (h4 : Stops (Rear a b p) q) : n = p ∧ m = q := by
  obtain rfl := h1.uniq h3
  exact ⟨rfl, h2.uniq h4⟩
theorem facts12 (a b : List ByteArray) (ha : a.length ≤ 1000000000000) (hb : b.length ≤ 1000000000000) :
    ∃ n m, (∃ k, build_Hoist.f k a b = some (n, m)) ∧ (∃ k, tripartiteref02_EndsText.f k a b = some (n, m)) := by
  obtain ⟨n, m, h1, h2, h3⟩ := ends_int a b ha hb
  obtain ⟨p, q, h4, h5, h6⟩ := ref_int a b ha hb
  obtain ⟨rfl, rfl⟩ := ends_same h1 h2 h4 h5
  obtain ⟨k, hk⟩ := h3.rounds
  exact ⟨_, _, ⟨k, by unfold build_Hoist.f; rw [hk]; rfl⟩, h6.rounds⟩
end Txt
end Go.Proofs.Ytadafplbgophfaa.Pure
end
section
namespace Go.Proofs.Ytadafplbgophfaa.PA
open Go.ChangeShapes Go.WideShapes Go.Deep
open Go.RowKit Go.Proofs.YtadafplbgophfaaW.PrintWords Go.Proofs.YtadafplbgophfaaW.PrintLast Go.Proofs.YtadafplbgophfaaW.PrintMore
section
variable {H : Type} {enc : TypeId × Value → H} {P : Program} {w : World} {base : Nat} {held : Bool} {t e : TypeId} {a : Option Addr} {len cap : Nat} {d : DataW H} {ps : List MemPlace}
theorem nil_C {α : Type} (k : Kd α) (w : World) : Kd.C k w none ([] : List α).length [] := ⟨rfl, by simp, fun h => by simp at h⟩
theorem range_C {α : Type} {k : Kd α} {x : Addr} (n : Nat) (hn : n ≤ maxLen) (f : Nat → α) (h : ∀ i, i < n → ∃ c, c.length = k.sz ∧ k.K w (f i) c ∧ ∀ j u, c[j]? = some u → w.cell? (x.add (i * k.sz + j)) = some u) :
    Kd.C k w (some x) ((List.range n).map f).length ((List.range n).map f) := by
  refine ⟨rfl, by rw [List.length_map, List.length_range]; exact hn, fun _ => ⟨x, rfl, fun j p hj => ?_⟩⟩
  rw [List.getElem?_map] at hj
  obtain ⟨i, hi, rfl⟩ := Option.map_eq_some_iff.1 hj
  obtain ⟨hl, he⟩ := List.getElem?_eq_some_iff.1 hi
  rw [List.getElem_range] at he
  subst he
  rw [List.length_range] at hl
  exact h _ hl
theorem row_strs (ht : P.underlying t = some (.slice e)) (he : P.underlying e = some .string) (hc : P.cellsOf e = 1) (h : DataW.Trod enc P w base (fun _ => true) held t (.slice a len cap) d ps) :
    ∃ l : List ByteArray, len = l.length ∧ Kd.C Kd.string w a l.length l ∧ l.length ≤ maxLen ∧ l.length ≤ cap ∧ ∀ s ∈ l, s.size ≤ maxLen := by
  obtain ⟨fuel, hf⟩ := h
  rcases open_strs ht he hc hf with ⟨hcs, _⟩ | ⟨x, n, c, m, Sx, hcs, _, hl, hm, hmm, _, hx⟩
  · simp [Value.cells] at hcs
    obtain ⟨rfl, rfl, rfl⟩ := hcs
    exact ⟨[], rfl, nil_C _ _, by simp, by simp, by simp⟩
  · simp [Value.cells] at hcs
    obtain ⟨rfl, rfl, rfl⟩ := hcs
    simp only [if_true] at hmm
    subst hmm
    refine ⟨(List.range len).map Sx, by simp, range_C _ (Nat.le_trans hl hm) Sx (fun i hi => ⟨[.string (Sx i)], rfl, rfl, fun j u hu => ?_⟩), by simpa using Nat.le_trans hl hm, by simpa using hl, ?_⟩
    · obtain ⟨hj, rfl⟩ := List.getElem?_eq_some_iff.1 hu
      obtain rfl : j = 0 := by simpa using hj
      have := (hx i (Nat.lt_of_lt_of_le hi hl)).1
      simpa [Kd.string, Kd.scalar] using this
    · intro s hs
      obtain ⟨i, hi, rfl⟩ := List.mem_map.1 hs
      exact (hx i (Nat.lt_of_lt_of_le (List.mem_range.1 hi) hl)).2
end
end Go.Proofs.Ytadafplbgophfaa.PA
end
