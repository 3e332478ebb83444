/- An argument that is a slice, opened as a row that the printed functions read: of whole numbers, of strings, of bools, of pairs. -/
import Derived.Test.YtadafplbgophfaaPA0
import Derived.Deep.Strs
import Derived.Deep.Grids
import Derived.Deep.SlicePairs
import Derived.OpenShut
namespace Go.Proofs.Ytadafplbgophfaa.PA
open Go.ChangeShapes Go.WideShapes Go.Deep
open Go.RowKit Go.Proofs.YtadafplbgophfaaW.PrintWords Go.Proofs.YtadafplbgophfaaW.PrintLast Go.Proofs.YtadafplbgophfaaW.PrintMore
section
variable {H : Type} {enc : TypeId × Value → H} {P : Program} {w : World} {base : Nat} {held : Bool} {t e : TypeId} {a : Option Addr} {len cap : Nat} {d : DataW H} {ps : List MemPlace}

theorem nil_C {α : Type} (k : Kd α) (w : World) : Kd.C k w none ([] : List α).length [] := ⟨rfl, by simp, fun h => by simp at h⟩
theorem range_C {α : Type} {k : Kd α} {x : Addr} (n : Nat) (hn : n ≤ maxLen) (f : Nat → α) (h : ∀ i, i < n → ∃ c, c.length = k.sz ∧ k.K w (f i) c ∧ ∀ j u, c[j]? = some u → w.cell? (x.add (i * k.sz + j)) = some u) :
    Kd.C k w (some x) ((List.range n).map f).length ((List.range n).map f) := by
  refine ⟨rfl, by rw [List.length_map, List.length_range]; exact hn, fun _ => ⟨x, rfl, fun j p hj => ?_⟩⟩
  rw [List.getElem?_map] at hj
  obtain ⟨i, hi, rfl⟩ := Option.map_eq_some_iff.1 hj
  obtain ⟨hl, he⟩ := List.getElem?_eq_some_iff.1 hi
  rw [List.getElem_range] at he
  subst he
  rw [List.length_range] at hl
  exact h _ hl
theorem row_strs (ht : P.underlying t = some (.slice e)) (he : P.underlying e = some .string) (hc : P.cellsOf e = 1) (h : DataW.Trod enc P w base (fun _ => true) held t (.slice a len cap) d ps) :
    ∃ l : List ByteArray, len = l.length ∧ Kd.C Kd.string w a l.length l ∧ l.length ≤ maxLen ∧ l.length ≤ cap ∧ ∀ s ∈ l, s.size ≤ maxLen := by
  obtain ⟨fuel, hf⟩ := h
  rcases open_strs ht he hc hf with ⟨hcs, _⟩ | ⟨x, n, c, m, Sx, hcs, _, hl, hm, hmm, _, hx⟩
  · simp [Value.cells] at hcs
    obtain ⟨rfl, rfl, rfl⟩ := hcs
    exact ⟨[], rfl, nil_C _ _, by simp, by simp, by simp⟩
  · simp [Value.cells] at hcs
    obtain ⟨rfl, rfl, rfl⟩ := hcs
    simp only [if_true] at hmm
    subst hmm
    refine ⟨(List.range len).map Sx, by simp, range_C _ (Nat.le_trans hl hm) Sx (fun i hi => ⟨[.string (Sx i)], rfl, rfl, fun j u hu => ?_⟩), by simpa using Nat.le_trans hl hm, by simpa using hl, ?_⟩
    · obtain ⟨hj, rfl⟩ := List.getElem?_eq_some_iff.1 hu
      obtain rfl : j = 0 := by simpa using hj
      have := (hx i (Nat.lt_of_lt_of_le hi hl)).1
      simpa [Kd.string, Kd.scalar] using this
    · intro s hs
      obtain ⟨i, hi, rfl⟩ := List.mem_map.1 hs
      exact (hx i (Nat.lt_of_lt_of_le (List.mem_range.1 hi) hl)).2
theorem row_bools (ht : P.underlying t = some (.slice e)) (he : P.underlying e = some .bool) (hc : P.cellsOf e = 1) (h : DataW.Trod enc P w base (fun _ => true) held t (.slice a len cap) d ps) :
    ∃ l : List Bool, len = l.length ∧ Kd.C Kd.bool w a l.length l ∧ l.length ≤ maxLen ∧ l.length ≤ cap := by
  obtain ⟨fuel, hf⟩ := h
  rcases open_bools ht he hc hf with ⟨hcs, _⟩ | ⟨x, n, c, Sx, hcs, _, hl, hm, _, hx⟩
  · simp [Value.cells] at hcs
    obtain ⟨rfl, rfl, rfl⟩ := hcs
    exact ⟨[], rfl, nil_C _ _, by simp, by simp⟩
  · simp [Value.cells] at hcs
    obtain ⟨rfl, rfl, rfl⟩ := hcs
    refine ⟨(List.range len).map Sx, by simp, range_C _ (Nat.le_trans hl hm) Sx (fun i hi => ⟨[.bool (Sx i)], rfl, rfl, fun j u hu => ?_⟩), by simpa using Nat.le_trans hl hm, by simpa using hl⟩
    obtain ⟨hj, rfl⟩ := List.getElem?_eq_some_iff.1 hu
    obtain rfl : j = 0 := by simpa using hj
    have := hx i (Nat.lt_of_lt_of_le hi hl)
    simpa [Kd.bool, Kd.scalar] using this
theorem row_ints {q : IntKind} (ht : P.underlying t = some (.slice e)) (he : P.underlying e = some (.int q)) (hc : P.cellsOf e = 1) (h : DataW.Trod enc P w base (fun _ => true) held t (.slice a len cap) d ps) :
    ∃ l : List Int, len = l.length ∧ Kd.C (Kd.int q) w a l.length l ∧ l.length ≤ maxLen ∧ l.length ≤ cap ∧ ∀ x ∈ l, (Lit.int q x).wf = true := by
  obtain ⟨fuel, hf⟩ := h
  rcases open_ints ht he hc hf with ⟨hcs, _⟩ | ⟨x, n, c, zs, hcs, _, hl, hm, hz, _, hx, hw⟩
  · simp [Value.cells] at hcs
    obtain ⟨rfl, rfl, rfl⟩ := hcs
    exact ⟨[], rfl, nil_C _ _, by simp, by simp, by simp⟩
  · simp [Value.cells] at hcs
    obtain ⟨rfl, rfl, rfl⟩ := hcs
    simp only [if_true] at hz
    refine ⟨(List.range len).map (fun i => zs.getD i 0), by simp, range_C _ (Nat.le_trans hl hm) _ (fun i hi => ⟨[.int q (zs.getD i 0)], rfl, rfl, fun j u hu => ?_⟩), by simpa using Nat.le_trans hl hm, by simpa using hl, ?_⟩
    · obtain ⟨hj, rfl⟩ := List.getElem?_eq_some_iff.1 hu
      obtain rfl : j = 0 := by simpa using hj
      have := hx i (by rw [hz]; exact Nat.lt_of_lt_of_le hi hl)
      simpa [Kd.int, Kd.scalar] using this
    · intro s hs
      obtain ⟨i, hi, rfl⟩ := List.mem_map.1 hs
      have hi' : i < zs.length := by rw [hz]; exact Nat.lt_of_lt_of_le (List.mem_range.1 hi) hl
      have : zs.getD i 0 = zs[i] := by simp [List.getD_eq_getElem?_getD, hi']
      rw [this]
      exact hw _ (List.getElem_mem hi')
theorem row_pairs {f0 f1 : Field} (ht : P.underlying t = some (.slice e)) (he : P.underlying e = some (.struct #[f0, f1])) (ce : P.cellsOf e = 2) (o0 : f0.offset = 0) (o1 : f1.offset = 1)
    (u0 : P.underlying f0.type = some (.int .i64)) (u1 : P.underlying f1.type = some (.int .i64)) (c0 : P.cellsOf f0.type = 1) (c1 : P.cellsOf f1.type = 1) (h : DataW.Trod enc P w base (fun _ => true) held t (.slice a len cap) d ps) :
    ∃ l : List S37, len = l.length ∧ Kd.C k37 w a l.length l ∧ l.length ≤ maxLen ∧ l.length ≤ cap ∧ ∀ x ∈ l, (Lit.int .i64 x.f0).wf = true ∧ (Lit.int .i64 x.f1).wf = true := by
  obtain ⟨fuel, hf⟩ := h
  rcases open_slice_pairs ht he ce o0 o1 c0 c1 hf with ⟨hcs, _⟩ | ⟨x, n, c, m, r, V0, V1, D0, D1, P0, P1, hcs, _, hl, hm, hmm, _, hx⟩
  · simp [Value.cells] at hcs
    obtain ⟨rfl, rfl, rfl⟩ := hcs
    exact ⟨[], rfl, nil_C _ _, by simp, by simp, by simp⟩
  · simp [Value.cells] at hcs
    obtain ⟨rfl, rfl, rfl⟩ := hcs
    simp only [if_true] at hmm
    subst hmm
    have each : ∀ i, i < len → ∃ s : S37, V0 i = .int .i64 s.f0 ∧ V1 i = .int .i64 s.f1 ∧ (Lit.int .i64 s.f0).wf = true ∧ (Lit.int .i64 s.f1).wf = true := by
      intro i hi
      obtain ⟨_, _, h0, h1⟩ := hx i (Nat.lt_of_lt_of_le hi hl)
      obtain ⟨p, e0, _, w0⟩ := DataW.trod_int u0 h0
      obtain ⟨q, e1, _, w1⟩ := DataW.trod_int u1 h1
      exact ⟨⟨p, q⟩, by simpa using e0, by simpa using e1, w0, w1⟩
    haveI : Inhabited S37 := ⟨⟨0, 0⟩⟩
    obtain ⟨Sx, hS⟩ := choose_lt each
    refine ⟨(List.range len).map Sx, by simp, range_C _ (Nat.le_trans hl hm) Sx (fun i hi => ⟨_, rfl, k37_mk w (Sx i), fun j u hu => ?_⟩), by simpa using Nat.le_trans hl hm, by simpa using hl, ?_⟩
    · obtain ⟨e0, e1, _, _⟩ := hx i (Nat.lt_of_lt_of_le hi hl)
      rw [(hS i hi).1] at e0
      rw [(hS i hi).2.1] at e1
      match j, hu with
      | 0, hu => simp at hu; subst hu; exact e0
      | 1, hu => simp at hu; subst hu; exact e1
    · intro s hs
      obtain ⟨i, hi, rfl⟩ := List.mem_map.1 hs
      exact (hS i (List.mem_range.1 hi)).2.2
end
end Go.Proofs.Ytadafplbgophfaa.PA
