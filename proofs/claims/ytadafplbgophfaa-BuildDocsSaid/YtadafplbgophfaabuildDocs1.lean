/- Part 1 of what the row of the law BuildDocs rests on: walks of functions, and plain lemmas (in part printed by the kit's print, what is not reached left out). -/
import Derived.Below
import Derived.Deep.Draws
import Derived.Deep.AppendLies
import Derived.Maps.AppendAt
import Derived.OwnWalk
import Derived.Laws.BytesArg
import Derived.Laws.MakeOwn
import Derived.Laws.OwnMore
import Derived.Deep.OwnRows
import Derived.Tactics
import Derived.Lib.ConvBytes
import Derived.Laws.Slices
import Derived.WalkKit
import Derived.KernelRfl
import Derived.RowKit3
import Derived.Deep.LoopGhost
import Derived.Deep.QuietTactic
import Derived.BigQuiet
import Derived.WideLaws
import Derived.Deep.DeepCutAuto
import Derived.Deep.CutBlock
import Derived.Deep.RegionHeld3
import Derived.Laws.Rows
import Derived.Lib.AppendStr
import Derived.ArgAppend
import Derived.Laws.IdiomCopy
import Derived.RowKit
import Derived.OrdersHeld
import Derived.Laws.BitsLemmas
import Derived.Laws.StructEq
import Derived.Test.YtadafplbgophfaaProg
import Derived.Deep.Cut
import Derived.Outline
import Derived.Lib.SliceRun
import Derived.Maps.OwnSet
import Derived.Carry
import Derived.Maps.Keyed
namespace Go.Proofs.YtadafplbgophfaaW.PrintWords
def bz_ (n m : Nat) : Array Bool := ((List.range n).map (fun i => m.testBit i)).toArray
theorem sA_ {α : Type} (l : List α) (i : Nat) (a : α) : l.toArray.setIfInBounds i a = (l.set i a).toArray := by simp only [List.setIfInBounds_toArray]
theorem sB_ {α : Type} (x : α) (xs : List α) (a : α) : (x :: xs).set 0 a = a :: xs := rfl
theorem sC_ {α : Type} (x : α) (xs : List α) (n : Nat) (a : α) : (x :: xs).set (n + 1) a = x :: xs.set n a := rfl
end Go.Proofs.YtadafplbgophfaaW.PrintWords
set_option linter.unusedVariables false
set_option linter.unusedSimpArgs false
section
namespace Go.Proofs.YtadafplbgophfaaW.PrintWords
open Go.RowKit
structure Qa (p : Prop) : Prop where mk :: (out : p)
structure Zl (w w' : World) : Prop where mk :: (out : ∃ n, w' = w.drewN n)
theorem Zl.refl (w : World) : Zl w w := ⟨⟨0, rfl⟩⟩
theorem Zl.step {w w' : World} (h : Zl w w') (n : Nat) : Zl w (w'.drewN n) := by
  obtain ⟨m, rfl⟩ := h; exact ⟨⟨m + n, World.drewN_drewN ..⟩⟩
theorem Zl.grown {w w' : World} (h : Zl w w') : Grown w w' := by
  obtain ⟨n, rfl⟩ := h
  induction n with
  | zero => exact Grown.refl _
  | succ n ih => rw [← World.drew_drewN]; exact Grown.drew ih
theorem Zl.below {w w' : World} (h : Zl w w') : Below w.heap.size w w' := by
  obtain ⟨n, rfl⟩ := h
  induction n with
  | zero => exact Below.refl _ _
  | succ n ih => rw [← World.drew_drewN]; exact ih.drew
def rd (xs : List Int) (i : Int) : Int := xs.getD i.toNat 0
def bt (s : ByteArray) (i : Int) : Int := if h : i.toNat < s.size then ((s[i.toNat]'h).toNat : Int) else 0
theorem Qgh (s : ByteArray) (i : Int) : ∀ h : i.toNat < s.size, ((s[i.toNat]'h).toNat : Int) = bt s i := fun h => by simp [bt, h]
theorem Qh {w W : World} (h : Below w.heap.size w W) (o : Obj) : Below w.heap.size w (W.alloc o) := h.alloc h.size o
theorem Vv {B : Nat} {w W : World} (h : Below B w W) : Below B w W.drew := ⟨h.os, h.tape, h.output, h.size, h.block⟩
theorem Qf {B : Nat} {w W : World} (h : Below B w W) (n : Nat) : Below B w (W.drewN n) := ⟨h.os, h.tape, h.output, h.size, h.block⟩
theorem Js {B : Nat} {w w1 w2 : World} (h : Below B w w1) (hB : B ≤ w1.heap.size) (k : Below w1.heap.size w1 w2) : Below B w w2 :=
  h.trans ⟨k.os, k.tape, k.output, k.size, fun i hi => k.block i (Nat.lt_of_lt_of_le hi hB)⟩
theorem Qbg {B : Nat} {w w1 : World} (h : Below B w w1) (row : Option Nat) (hB : B ≤ w1.heap.size) {w2 : World} (hg : w1.grownBy w2 row) (hr : ∀ k, row = some k → B ≤ k) : Below B w w2 := h.grown hg hB hr
theorem Qay {w w1 : World} (h : Below w.heap.size w w1) (row : Option Nat) : w.grownBy w1 row := ⟨h.os, h.tape, h.output, h.size, fun i hi _ => h.block i hi⟩
theorem Qg {w w1 : World} (h : Below w.heap.size w w1) {a : Addr} {v : Value} (hc : w.cell? a = some v) : w1.cell? a = some v := (h.cell (World.block_lt_of_cell? w a hc)).trans hc
theorem Yf (g j : Nat) : (⟨g, 0, none⟩ : Addr).add j = ⟨g, j, none⟩ := by unfold Addr.add; split <;> simp_all
def Yq (w : World) (k : IntKind) (A : Option Addr) (n : Nat) (xs : List Int) : Prop :=
  xs.length = n ∧ n ≤ 9223372036854775807 ∧ (0 < n → ∃ ad, A = some ad ∧ ∀ j, j < n → w.cell? (ad.add j) = some (.int k (xs.getD j 0)))
theorem Yq.at_ {w : World} {k : IntKind} {A : Option Addr} {n : Nat} {xs : List Int} (h : Yq w k A n xs) (i : Int) (h0 : 0 ≤ i) (h1 : i < n) : ∃ ad, A = some ad ∧ w.cell? (ad.add i.toNat) = some (.int k (rd xs i)) := by
  obtain ⟨ad, e, hc⟩ := h.2.2 (by omega); exact ⟨ad, e, hc _ (by omega)⟩
theorem Yq.below {w w1 : World} {k : IntKind} {A : Option Addr} {n : Nat} {xs : List Int} (h : Yq w k A n xs) (hb : Below w.heap.size w w1) : Yq w1 k A n xs :=
  ⟨h.1, h.2.1, fun hn => by
    obtain ⟨ad, e, hc⟩ := h.2.2 hn
    exact ⟨ad, e, fun j hj => Qg hb (hc j hj)⟩⟩
theorem Qom (W : World) (base : Nat) (e : TypeId) (size : Nat) : W.ownsRow base e size (.slice none 0 0) 0 [] := ⟨by simp, .inl ⟨rfl, rfl⟩⟩
theorem Kb {w : World} {base : Nat} {e : TypeId} {size n : Nat} {v : Value} {xs : List Value} (h : w.ownsRow base e size v n xs) (k : Nat) (hk : v.ownBlock = some k) : base ≤ k := by
  rcases h.2 with ⟨rfl, _⟩ | ⟨g, cap, cur, rfl, hb, _⟩
  · simp [Value.ownBlock] at hk
  · have : g = k := by simpa [Value.ownBlock] using hk
    omega
theorem Qdq {w : World} {base : Nat} {e : TypeId} {size n : Nat} {v : Value} {xs : List Value} (h : w.ownsRow base e size v n xs) (k : Nat) (hk : v.ownBlock = some k) : k < w.heap.size := by
  rcases h.2 with ⟨rfl, _⟩ | ⟨g, cap, cur, rfl, hb, hh, _⟩
  · simp [Value.ownBlock] at hk
  · have : g = k := by simpa [Value.ownBlock] using hk
    subst this; exact (Array.getElem?_eq_some_iff.1 hh).1
theorem Qiz {w w1 : World} {base : Nat} {e : TypeId} {size n : Nat} {v : Value} {xs : List Value} (h : w.ownsRow base e size v n xs) (hb : Below w.heap.size w w1) : w1.ownsRow base e size v n xs :=
  h.kept (Qay hb none) (by cases v.ownBlock <;> simp)
theorem Yq.take_ {w : World} {k : IntKind} {A : Option Addr} {n : Nat} {xs : List Int} (h : Yq w k A n xs) (i : Nat) (hi : i ≤ n) : Yq w k A i (xs.take i) := by
  refine ⟨by rw [List.length_take, h.1]; omega, by have := h.2.1; omega, fun hp => ?_⟩; obtain ⟨ad, e, hc⟩ := h.2.2 (by omega); refine ⟨ad, e, fun j hj => ?_⟩; rw [hc j (by omega)]
  simp [List.getD_eq_getElem?_getD, hj]
theorem Yq.drop_ {w : World} {k : IntKind} {A : Option Addr} {n c : Nat} {xs : List Int} (h : Yq w k A n xs) (i : Nat) (hi : i ≤ n) (hc : n ≤ c) : Yq w k (if c = i then A else A.map (·.add i)) (n - i) (xs.drop i) := by
  refine ⟨by rw [List.length_drop, h.1], by have := h.2.1; omega, fun hp => ?_⟩; obtain ⟨ad, rfl, hcell⟩ := h.2.2 (by omega); rw [if_neg (by omega)]; refine ⟨ad.add i, rfl, fun j hj => ?_⟩
  have ha : (ad.add i).add j = ad.add (i + j) := by
    unfold Addr.add
    by_cases h1 : i = 0 <;> by_cases h2 : j = 0 <;> simp [h1, h2, Nat.add_assoc]
  rw [ha, hcell (i + j) (by omega)]
  simp [List.getD_eq_getElem?_getD, List.getElem?_drop]
def LeO {α : Type} (a b : Option α) : Prop := ∀ r, a = some r → b = some r
theorem LeO.refl {α : Type} (a : Option α) : LeO a a := fun _ h => h
theorem LeO.none {α : Type} (b : Option α) : LeO Option.none b := fun _ h => by cases h
theorem LeO.trans {α : Type} {a b c : Option α} (h : LeO a b) (k : LeO b c) : LeO a c := fun r hr => k r (h r hr)
theorem LeO.ite {α : Type} {c : Prop} [Decidable c] {a a' b b' : Option α} (h : LeO a a') (k : LeO b b') : LeO (if c then a else b) (if c then a' else b') := by
  split
  · exact h
  · exact k
theorem LeO.bind {α β : Type} {a a' : Option α} {f f' : α → Option β} (h : LeO a a') (k : ∀ x, LeO (f x) (f' x)) : LeO (a.bind f) (a'.bind f') := by
  intro r hr; obtain ⟨x, hx, hf⟩ := Option.bind_eq_some_iff.1 hr; exact Option.bind_eq_some_iff.2 ⟨x, h x hx, k x r hf⟩
theorem LeO.map {α β : Type} {a a' : Option α} (f : α → β) (h : LeO a a') : LeO (a.map f) (a'.map f) := by
  intro r hr; obtain ⟨x, hx, hf⟩ := Option.map_eq_some_iff.1 hr; exact Option.map_eq_some_iff.2 ⟨x, h x hx, hf⟩
theorem Qfh {α : Type} {g : Nat → Option α} (h : ∀ k, LeO (g k) (g (k + 1))) (k : Nat) : ∀ j, LeO (g k) (g (k + j))
  | 0 => LeO.refl _
  | j + 1 => (Qfh h k j).trans (h (k + j))
theorem Qel {α : Type} {g : Nat → Option α} (h : ∀ k, LeO (g k) (g (k + 1))) {k k' : Nat} (hk : k ≤ k') {r : α} (hr : g k = some r) : g k' = some r := by
  have := Qfh h k (k' - k) r hr
  rwa [Nat.add_sub_cancel' hk] at this
def Yi {α : Type} (R : α → List Value → Prop) (size : Nat) (ps : List α) (cs : List Value) : Prop :=
  cs.length = ps.length * size ∧ ∀ j p, ps[j]? = some p → R p ((cs.drop (j * size)).take size)
theorem Yi.none {α : Type} (R : α → List Value → Prop) (size : Nat) : Yi R size [] [] := ⟨by simp, fun j p h => by simp at h⟩
theorem Yi.snoc {α : Type} {R : α → List Value → Prop} {size : Nat} {ps : List α} {cs c : List Value} {p : α} (h : Yi R size ps cs) (hp : R p c) (hc : c.length = size) : Yi R size (ps ++ [p]) (cs ++ c) := by
  refine ⟨by rw [List.length_append, h.1, hc, List.length_append, List.length_singleton, Nat.add_mul, Nat.one_mul], fun j q hq => ?_⟩
  rcases Nat.lt_or_ge j ps.length with hj | hj
  · rw [List.getElem?_append_left hj] at hq
    have h1 : j * size + size ≤ cs.length := by rw [h.1, ← Nat.succ_mul]; exact Nat.mul_le_mul_right _ hj
    have h2 := h.2 j q hq; rw [List.drop_append_of_le_length (by omega), List.take_append_of_le_length (by rw [List.length_drop]; omega)]; exact h2
  · have hj' : j = ps.length := by
      have := (List.getElem?_eq_some_iff.1 hq).1
      rw [List.length_append, List.length_singleton] at this
      omega
    subst hj'
    have hq' : p = q := by simpa using hq
    subst hq'; rw [← h.1, List.drop_left, ← hc, List.take_length]; exact hp
theorem Yi.imp_ {α : Type} {R R' : α → List Value → Prop} {size : Nat} {ps : List α} {cs : List Value} (h : Yi R size ps cs) (hR : ∀ p c, R p c → R' p c) : Yi R' size ps cs := ⟨h.1, fun j p hj => hR _ _ (h.2 j p hj)⟩
def Ua {α : Type} (R : α → List Value → Prop) (size : Nat) (w : World) (A : Option Addr) (n : Nat) (ps : List α) : Prop :=
  ps.length = n ∧ n ≤ 9223372036854775807 ∧ (0 < n → ∃ ad, A = some ad ∧ ∀ j p, ps[j]? = some p → ∃ c, c.length = size ∧ R p c ∧ ∀ i u, c[i]? = some u → w.cell? (ad.add (j * size + i)) = some u)
theorem Ua.get_ {α : Type} {R : α → List Value → Prop} {size : Nat} {w : World} {A : Option Addr} {n : Nat} {ps : List α} (h : Ua R size w A n ps) (d : α) (i : Int) (h0 : 0 ≤ i) (h1 : i < n) :
    ∃ ad c, A = some ad ∧ c.length = size ∧ R (ps.getD i.toNat d) c ∧ ∀ j u, c[j]? = some u → w.cell? (ad.add (i.toNat * size + j)) = some u := by
  obtain ⟨ad, e, hc⟩ := h.2.2 (by omega)
  have hl : i.toNat < ps.length := by have := h.1; omega
  obtain ⟨c, hs, hr, hcell⟩ := hc i.toNat _ (List.getElem?_eq_getElem hl); refine ⟨ad, c, e, hs, ?_, hcell⟩; rw [List.getD_eq_getElem?_getD, List.getElem?_eq_getElem hl]; exact hr
theorem Ua.imp_ {α : Type} {R R' : α → List Value → Prop} {size : Nat} {w w1 : World} {A : Option Addr} {n : Nat} {ps : List α} (h : Ua R size w A n ps) (hb : Below w.heap.size w w1) (hR : ∀ p c, R p c → R' p c) : Ua R' size w1 A n ps :=
  ⟨h.1, h.2.1, fun hn => by
    obtain ⟨ad, e, hc⟩ := h.2.2 hn; refine ⟨ad, e, fun j p hj => ?_⟩; obtain ⟨c, hs, hr, hcell⟩ := hc j p hj
    exact ⟨c, hs, hR _ _ hr, fun i u hu => Qg hb (hcell i u hu)⟩⟩
theorem Qhq {α : Type} {R : α → List Value → Prop} {w : World} {base n size : Nat} {e : TypeId} {v : Value} {ps : List α} {cs : List Value} (h : w.ownsRow base e size v n cs) (hR : Yi R size ps cs) (hn : ps.length = n) :
    ∃ A c, v = .slice A n c ∧ Ua R size w A n ps := by
  rcases Nat.eq_zero_or_pos n with h0 | h0
  · rcases h.2 with ⟨rfl, rfl⟩ | ⟨g, cap, cur, rfl, _⟩
    · exact ⟨none, 0, rfl, hn, by omega, fun hp => absurd hp (by omega)⟩
    · exact ⟨_, cap, rfl, hn, by omega, fun hp => absurd hp (by omega)⟩
  · obtain ⟨g, cap, rfl, _, _⟩ := h.form h0
    have hm : n ≤ 9223372036854775807 := by
      rcases h.2 with ⟨_, h1⟩ | ⟨g', cap', cur, he, _, _, h1, h2, _⟩
      · omega
      · simp only [maxLen] at h2
        omega
    refine ⟨_, cap, rfl, hn, hm, fun _ => ⟨_, rfl, fun j p hj => ⟨(cs.drop (j * size)).take size, ?_, hR.2 j p hj, fun i u hu => ?_⟩⟩⟩
    · have hjl := (List.getElem?_eq_some_iff.1 hj).1
      have h1 : j * size + size ≤ cs.length := by rw [hR.1, ← Nat.succ_mul]; exact Nat.mul_le_mul_right _ hjl
      rw [List.length_take, List.length_drop]
      omega
    · refine h.cells (g := g) rfl _ u ?_
      rw [List.getElem?_take] at hu
      split at hu
      · rw [List.getElem?_drop] at hu
        exact hu
      · cases hu
theorem Xf (ad : Addr) (m j : Nat) (hj : 0 < j) : ad.add (m + j) = ⟨(ad.add m).block, (ad.add m).off + j, none⟩ := by
  unfold Addr.add
  by_cases hm : m = 0
  · subst hm
    simp [Nat.ne_of_gt hj]
  · simp [hm, Nat.add_assoc]
section
variable {P : Program} {ops : Array Oper} {rest : List Oper} {o : Oper} {a : Act} {Q : Exit → Act → World → Prop}
theorem Qbf {w0 W : World} (base : Nat) (hgd : o.guard = none) (s x : Operand) (t e : TypeId) (z : Value) (size bytes : Nat)
    (ho : o.op = .call { callee := .builtin .append, args := #[s, x], argTypes := #[t, t] })
    (ht : P.underlying t = some (.slice e)) (hinfo : (P.info? e).map (fun i => (i.zero, i.size, i.bytes)) = some (some z, size, bytes)) (hz : z.cells.size = size) (hs0 : 0 < size) (hb0 : 0 < bytes)
    (v : Value) (n : Nat) (xs ys : List Value) (hs : a.eval s = v) (hx : a.eval x = .slice (some ⟨W.heap.size, 0, none⟩) 1 1) (hys : ys.length = size) (h1 : ∀ u ∈ ys, u.oneCell' = true)
    (HO : W.ownsRow base e size v n xs) (HB : Below base w0 W) (hbase : base ≤ W.heap.size) (hl : (n + 1) * bytes ≤ 140737488355328)
    (h : ∀ v1 w1, w1.ownsRow base e size v1 (n + 1) (xs ++ ys) → Below base w0 w1 → W.grownBy w1 v.ownBlock → (v1.ownBlock = v.ownBlock ∨ ∃ b, v1.ownBlock = some b ∧ W.heap.size ≤ b) → wpList P ops Q rest (a.put o.dst v1) w1) :
    wpList P ops Q (o :: rest) a (W.alloc (.cells ys.toArray e)) := by
  obtain ⟨i0, hi, hzz⟩ := Option.map_eq_some_iff.1 hinfo
  simp only [Prod.mk.injEq] at hzz
  obtain ⟨hz0, hz1, hz2⟩ := hzz; have hlen : n + 1 ≤ 140737488355328 := Nat.le_trans (Nat.le_mul_of_pos_right _ hb0) hl
  refine wpList_append_own_at (W.alloc (.cells ys.toArray e)) hgd s x t ho base e i0 z size bytes ht hi hz0 hz1 hz2 hz hs0 v n xs hs (HO.alloc _) ⟨W.heap.size, 0, none⟩ 1 1 ys hx (by rw [hys]; simp)
    (by simpa using World.news_of_block (cs := ys.toArray) (t := e) (fr := (0, 0)) (heap_alloc_new W (.cells ys.toArray e))) h1 (by simp only [maxLen]; omega) hl (by simp; omega) ?_
  intro v1 w1 hown hg _ hat; refine h v1 w1 hown ((HB.alloc hbase _).grown hg (by simp; omega) (Kb HO)) (World.grownBy.trans (World.grownBy_alloc W _ _) hg) ?_
  rcases hat with hat | hat
  · exact .inl hat
  · exact .inr ⟨_, hat, by simp⟩
end
theorem own_ne {w : World} {base : Nat} {e t : TypeId} {size n g : Nat} {v : Value} {xs : List Value} {cs : Array Value} (h : w.ownsRow base e size v n xs) (hg : w.heap[g]? = some (.cells cs t (0, 0))) (hne : e ≠ t) : some g ≠ v.ownBlock := by
  rcases h.2 with ⟨rfl, _⟩ | ⟨g', cap, cur, rfl, _, hh, _⟩
  · simp [Value.ownBlock]
  · intro he
    have : g = g' := by simpa [Value.ownBlock] using he
    subst this
    rw [hg] at hh
    injection hh with hh
    injection hh with _ ht
    exact hne ht.symm
theorem Jo {w : World} {g : Nat} {t : TypeId} {cs : Array Value} (h : w.heap[g]? = some (.cells cs t (0, 0))) (i : Nat) (u : Value) : (w.setCell ⟨g, i, none⟩ u).heap[g]? = some (.cells (cs.setIfInBounds i u) t (0, 0)) := by
  simp [World.setCell, Array.getElem?_modify, h]
theorem Yt {w : World} {g : Nat} {t : TypeId} {cs : Array Value} (h : w.heap[g]? = some (.cells cs t (0, 0))) {p : Addr} (hp : g ≠ p.block) (u : Value) : (w.setCell p u).heap[g]? = some (.cells cs t (0, 0)) := (Below.heap_setCell w p u g hp).trans h
theorem Zu {w : World} {g : Nat} {o : Obj} (h : w.heap[g]? = some o) : g < w.heap.size := (Array.getElem?_eq_some_iff.1 h).1
theorem Qc {w : World} {g : Nat} {t : TypeId} {cs : Array Value} (h : w.heap[g]? = some (.cells cs t (0, 0))) (i : Nat) : w.cell? ⟨g, i, none⟩ = cs[i]? := cell_of_row w g i cs t (0, 0) h
theorem Qe {w : World} {g : Nat} {t : TypeId} {cs : Array Value} (h : w.heap[g]? = some (.cells cs t (0, 0))) (i : Nat) : w.frozen? ⟨g, i, none⟩ = false := by simp [World.frozen?, h]
theorem Ym {w w1 : World} {g : Nat} {o : Obj} {row : Option Nat} (h : w.heap[g]? = some o) (hg : w.grownBy w1 row) (hne : some g ≠ row) : w1.heap[g]? = some o := (hg.block g (Zu h) hne).trans h
def Xd (w w' : World) (g : Nat) (row : Option Nat) : Prop := w.heap.size ≤ w'.heap.size ∧ ∀ i, i < w.heap.size → i ≠ g → some i ≠ row → w'.heap[i]? = w.heap[i]?
theorem Xd.refl (w : World) (g : Nat) (row : Option Nat) : Xd w w g row := ⟨Nat.le_refl _, fun _ _ _ _ => rfl⟩
theorem Xd.of_below {w w1 : World} (h : Below w.heap.size w w1) (g : Nat) (row : Option Nat) : Xd w w1 g row := ⟨h.size, fun i hi _ _ => h.block i hi⟩
theorem Xd.trans {w w1 w2 : World} {g : Nat} {row row1 : Option Nat} (h : Xd w w1 g row) (k : Xd w1 w2 g row1) (hr : row1 = row ∨ ∃ b, row1 = some b ∧ w.heap.size ≤ b) : Xd w w2 g row :=
  ⟨Nat.le_trans h.1 k.1, fun i hi hg hn => by
    refine (k.2 i (Nat.lt_of_lt_of_le hi h.1) hg ?_).trans (h.2 i hi hg hn)
    rcases hr with rfl | ⟨b, rfl, hb⟩
    · exact hn
    · intro e
      injection e with e
      omega⟩
theorem Xd.blk {w w1 : World} {g g' : Nat} {row : Option Nat} {o : Obj} (h : Xd w w1 g row) (hb : w.heap[g']? = some o) (hg : g' ≠ g) (hr : some g' ≠ row) : w1.heap[g']? = some o := (h.2 g' (Zu hb) hg hr).trans hb
theorem Xd.own {w w1 : World} {g : Nat} {row : Option Nat} {base : Nat} {e : TypeId} {size n : Nat} {v : Value} {xs : List Value} (h : Xd w w1 g row) (ho : w.ownsRow base e size v n xs) (hg : v.ownBlock ≠ some g) (hr : v.ownBlock = none ∨ v.ownBlock ≠ row) : w1.ownsRow base e size v n xs := by
  obtain ⟨h1, h2⟩ := ho; refine ⟨h1, ?_⟩
  rcases h2 with h2 | ⟨b, cap, cur, rfl, hb, hh, r⟩
  · exact .inl h2
  · refine .inr ⟨b, cap, cur, rfl, hb, h.blk hh ?_ ?_, r⟩
    · intro e
      exact hg (by rw [← e]; rfl)
    · rcases hr with hr | hr
      · simp [Value.ownBlock] at hr
      · exact hr
def Ev {α : Type} (g : Nat → Option α) (r : α) : Prop := ∃ K, ∀ k, K ≤ k → g k = some r
theorem Ev.of {α : Type} {g : Nat → Option α} {r : α} (hg : ∀ k, LeO (g k) (g (k + 1))) {k : Nat} (h : g k = some r) : Ev g r := ⟨k, fun _ hk => Qel hg hk h⟩
theorem Ev.now {α : Type} (r : α) : Ev (fun _ => some r) r := ⟨0, fun _ _ => rfl⟩
theorem Ev.rounds {α : Type} {g : Nat → Option α} {r : α} (h : Ev g r) : ∃ k, g k = some r := by
  obtain ⟨K, h⟩ := h; exact ⟨K, h K (Nat.le_refl _)⟩
theorem Ev.bind {α β : Type} {g : Nat → Option α} {f : Nat → α → Option β} {a : α} {r : β} (h : Ev g a) (k : Ev (fun n => f n a) r) : Ev (fun n => (g n).bind (f n)) r := by
  obtain ⟨K, h⟩ := h; obtain ⟨K', k⟩ := k; refine ⟨max K K', fun n hn => ?_⟩; have h1 := h n (by omega); have h2 := k n (by omega); simp only [h1, Option.bind_some]; exact h2
theorem Ev.step {α : Type} {g f : Nat → Option α} {r : α} (h : ∀ k, g (k + 1) = f k) (k : Ev f r) : Ev g r := by
  obtain ⟨K, k⟩ := k; refine ⟨K + 1, fun n hn => ?_⟩; obtain ⟨m, rfl⟩ : ∃ m, n = m + 1 := ⟨n - 1, by omega⟩; rw [h]; exact k m (by omega)
theorem Ev.congr {α : Type} {g f : Nat → Option α} {r : α} (h : ∀ k, g k = f k) (k : Ev f r) : Ev g r := by
  obtain ⟨K, k⟩ := k; exact ⟨K, fun n hn => (h n).trans (k n hn)⟩
section
variable {P : Program} {ops : Array Oper} {o : Oper} {a : Act} {Q : Exit → Act → World → Prop} {K : Act → World → Prop}
theorem Qbq {w0 W : World} (base : Nat) (hw : Region.wanted o (yielded ops a.tmps) = true) (s x : Operand) (t e : TypeId) (z : Value) (size bytes : Nat)
    (ho : o.op = .call { callee := .builtin .append, args := #[s, x], argTypes := #[t, t] })
    (ht : P.underlying t = some (.slice e)) (hinfo : (P.info? e).map (fun i => (i.zero, i.size, i.bytes)) = some (some z, size, bytes)) (hz : z.cells.size = size) (hs0 : 0 < size) (hb0 : 0 < bytes)
    (v : Value) (n : Nat) (xs ys : List Value) (hs : a.eval s = v) (hx : a.eval x = .slice (some ⟨W.heap.size, 0, none⟩) 1 1) (hys : ys.length = size) (h1 : ∀ u ∈ ys, u.oneCell' = true)
    (HO : W.ownsRow base e size v n xs) (HB : Below base w0 W) (hbase : base ≤ W.heap.size) (hl : (n + 1) * bytes ≤ 140737488355328)
    (h : ∀ v1 w1, w1.ownsRow base e size v1 (n + 1) (xs ++ ys) → Below base w0 w1 → W.grownBy w1 v.ownBlock → (v1.ownBlock = v.ownBlock ∨ ∃ b, v1.ownBlock = some b ∧ W.heap.size ≤ b) → K (a.put o.dst v1) w1) :
    if Region.wanted o (yielded ops a.tmps) = true then Oper.wp P o a (W.alloc (.cells ys.toArray e)) K Q else K (a.put o.dst undef) (W.alloc (.cells ys.toArray e)) := by
  obtain ⟨i0, hi, hzz⟩ := Option.map_eq_some_iff.1 hinfo
  simp only [Prod.mk.injEq] at hzz
  obtain ⟨hz0, hz1, hz2⟩ := hzz; have hlen : n + 1 ≤ 140737488355328 := Nat.le_trans (Nat.le_mul_of_pos_right _ hb0) hl; rw [if_pos hw]
  obtain ⟨v1, w1, hr, hown, hg, _, hat⟩ := run_append_own_at (P := P) (W.alloc (.cells ys.toArray e)) base t o.type e i0 z size bytes ht hi hz0 hz1 hz2 hz hs0 v n xs (HO.alloc _) ⟨W.heap.size, 0, none⟩ 1 1 ys (by rw [hys]; simp)
    (by simpa using World.news_of_block (cs := ys.toArray) (t := e) (fr := (0, 0)) (heap_alloc_new W (.cells ys.toArray e))) h1 (by simp only [maxLen]; omega) hl (by simp; omega)
  unfold Oper.wp execOp; simp only [ho, resolve, invoke, builtin, Sem.run_bind, Sem.run_pure, Result.andThen_ok, List.map_toArray, List.map_cons, List.map_nil, hs, hx, hr]; refine h v1 w1 hown ((HB.alloc hbase _).grown hg (by simp; omega) (Kb HO)) (World.grownBy.trans (World.grownBy_alloc W _ _) hg) ?_
  rcases hat with hat | hat
  · exact .inl hat
  · exact .inr ⟨_, hat, by simp⟩
end
theorem Qgy {w : World} {base base' : Nat} {e : TypeId} {size n : Nat} {v : Value} {xs : List Value} (h : w.ownsRow base e size v n xs) (hb : base' ≤ base) : w.ownsRow base' e size v n xs := by
  obtain ⟨h1, h2⟩ := h; refine ⟨h1, ?_⟩
  rcases h2 with h2 | ⟨g, cap, cur, rfl, hg, r⟩
  · exact .inl h2
  · exact .inr ⟨g, cap, cur, rfl, Nat.le_trans hb hg, r⟩
section
variable {α : Type} {enc : α → Value} {d : α}
def Vu (enc : α → Value) (xs : List α) : List Value := xs.map enc
def Ye (d : α) (xs : List α) (i : Int) : α := xs.getD i.toNat d
theorem Kn (xs : List α) : (Vu enc xs).length = xs.length := by simp [Vu]
theorem Qdu (xs : List α) (j : Nat) (h : j < xs.length) : (Vu enc xs)[j]? = some (enc (xs.getD j d)) := by
  simp [Vu, List.getElem?_eq_getElem h, List.getD_eq_getElem?_getD]
def Yz (enc : α → Value) (d : α) (w : World) (A : Option Addr) (n : Nat) (xs : List α) : Prop :=
  xs.length = n ∧ n ≤ 9223372036854775807 ∧ (0 < n → ∃ ad, A = some ad ∧ ∀ j, j < n → w.cell? (ad.add j) = some (enc (xs.getD j d)))
theorem Yz.at_ {w : World} {A : Option Addr} {n : Nat} {xs : List α} (h : Yz enc d w A n xs) (i : Int) (h0 : 0 ≤ i) (h1 : i < n) : ∃ ad, A = some ad ∧ w.cell? (ad.add i.toNat) = some (enc (Ye d xs i)) := by
  obtain ⟨ad, e, hc⟩ := h.2.2 (by omega); exact ⟨ad, e, hc _ (by omega)⟩
theorem Yz.below {w w1 : World} {A : Option Addr} {n : Nat} {xs : List α} (h : Yz enc d w A n xs) (hb : Below w.heap.size w w1) : Yz enc d w1 A n xs :=
  ⟨h.1, h.2.1, fun hn => by
    obtain ⟨ad, e, hc⟩ := h.2.2 hn
    exact ⟨ad, e, fun j hj => Qg hb (hc j hj)⟩⟩
theorem Yz.take_ {w : World} {A : Option Addr} {n : Nat} {xs : List α} (h : Yz enc d w A n xs) (i : Nat) (hi : i ≤ n) : Yz enc d w A i (xs.take i) := by
  refine ⟨by rw [List.length_take, h.1]; omega, by have := h.2.1; omega, fun hp => ?_⟩; obtain ⟨ad, e, hc⟩ := h.2.2 (by omega); refine ⟨ad, e, fun j hj => ?_⟩; rw [hc j (by omega)]
  simp [List.getD_eq_getElem?_getD, hj]
theorem Yz.drop_ {w : World} {A : Option Addr} {n c : Nat} {xs : List α} (h : Yz enc d w A n xs) (i : Nat) (hi : i ≤ n) (hc : n ≤ c) : Yz enc d w (if c = i then A else A.map (·.add i)) (n - i) (xs.drop i) := by
  refine ⟨by rw [List.length_drop, h.1], by have := h.2.1; omega, fun hp => ?_⟩; obtain ⟨ad, rfl, hcell⟩ := h.2.2 (by omega); rw [if_neg (by omega)]; refine ⟨ad.add i, rfl, fun j hj => ?_⟩
  have ha : (ad.add i).add j = ad.add (i + j) := by
    unfold Addr.add
    by_cases h1 : i = 0 <;> by_cases h2 : j = 0 <;> simp [h1, h2, Nat.add_assoc]
  rw [ha, hcell (i + j) (by omega)]
  simp [List.getD_eq_getElem?_getD, List.getElem?_drop]
theorem Qiy {P : Program} (enc : α → Value) (d : α) (t e : TypeId) (kl : IntKind) {i : TypeInfo} (ht : P.underlying t = some (.slice e)) (hi : P.info? e = some i) (hsz : i.size = 1) (A : Option Addr) (n c m : Nat) (hm : m ≤ n) :
    ∃ A' : Option Addr, (∀ W : World, (Instr.slice t (.slice A n c) (some (.int kl (m : Int))) none none).run P W = .ok (.slice A' (n - m) (c - m)) W) ∧
      ∀ (w : World) (xs : List α), n ≤ c → Yz enc d w A n xs → Yz enc d w A' (n - m) (xs.drop m) := by
  refine ⟨if c = m then A else A.map (·.add m), fun W => ?_, fun w xs hc h => h.drop_ m hm hc⟩
  have hel : P.elem t = e := by simp [Program.elem, ht]
  have hu : P.underlying t = some (.slice (P.elem t)) := by rw [hel]; exact ht
  rw [run_slice_l W t A n c hu kl (m : Int) (Int.natCast_nonneg _) (by omega), hel]
  simp [sizeOf, typeInfo, hi, hsz, sliced, Result.andThen]
theorem Qlu {W : World} {base g n cap : Nat} {e : TypeId} {xs : List α} (h : W.ownsRow base e 1 (.slice (some ⟨g, 0, none⟩) n cap) n (Vu enc xs)) (i : Int) (h0 : 0 ≤ i) (h1 : i < n) :
    W.cell? ⟨g, i.toNat, none⟩ = some (enc (Ye d xs i)) ∧ W.frozen? ⟨g, i.toNat, none⟩ = false := by
  have hl : xs.length = n := by have := h.1; simp [Vu] at this; exact this
  constructor
  · have hc := h.cells (g := g) rfl i.toNat _ (Qdu (d := d) xs i.toNat (by omega))
    rwa [Yf] at hc
  · rcases h.2 with ⟨h', _⟩ | ⟨g', cap', cur, h', _, hh, _⟩
    · cases h'
    · have : g = g' := by injection h' with h'; injection h' with h'; injection h' with h'
      subst this
      simp [World.frozen?, hh]
theorem Qec {W : World} {base g n cap : Nat} {e : TypeId} {xs : List α} (h : W.ownsRow base e 1 (.slice (some ⟨g, 0, none⟩) n cap) n (Vu enc xs)) (i : Int) (x : α) :
    (W.setCell ⟨g, i.toNat, none⟩ (enc x)).ownsRow base e 1 (.slice (some ⟨g, 0, none⟩) n cap) n (Vu enc (xs.set i.toNat x)) ∧ W.grownBy (W.setCell ⟨g, i.toNat, none⟩ (enc x)) (some g) := by
  have hs := h.stored i.toNat (enc x)
  have he : (Vu enc xs).set i.toNat (enc x) = Vu enc (xs.set i.toNat x) := by simp [Vu, List.map_set]
  rwa [he] at hs
end
theorem Ql {w : World} {g : Nat} {o : Obj} (h : w.heap[g]? = some o) (o' : Obj) : (w.alloc o').heap[g]? = some o := (Below.heap_alloc w o' g (Zu h)).trans h
theorem Qp {w : World} {g : Nat} {o : Obj} (h : w.heap[g]? = some o) : w.drew.heap[g]? = some o := h
theorem Qn {w : World} {g : Nat} {o : Obj} (h : w.heap[g]? = some o) (n : Nat) : (w.drewN n).heap[g]? = some o := h
theorem Qq {w w1 : World} {g : Nat} {o : Obj} (h : w.heap[g]? = some o) (hb : Below w.heap.size w w1) : w1.heap[g]? = some o := (hb.block g (Zu h)).trans h
theorem Vg (w : World) (o : Obj) : (w.alloc o).heap[w.heap.size]? = some o := heap_alloc_new w o
section
variable {P : Program}
theorem Qkk {fn : Func} {p u : Tmp} {ty : TypeId} (h : fn.results = #[.cell p ty, .tmp u]) (tmps : Array Value) (w : World) (g : Nat) (t : TypeId) (cs : Array Value) (fr : Nat × Nat) (d : TypeDesc)
    (hp : tmps.getD p undef = .pointer (some ⟨g, 0, none⟩)) (hg : w.heap[g]? = some (.cells cs t fr))
    (hu : P.underlying ty = some d) (hd : (match d with | .struct _ | .array _ _ => true | _ => false) = true) (hi : (P.info? ty).map (·.size) = some cs.size) :
    (results fn tmps).run P w = .ok (.tuple #[.agg cs, tmps.getD u undef]) w := by
  have hp' : tmps[p]?.getD undef = .pointer (some ⟨g, 0, none⟩) := by simpa using hp
  simp [results, h, hp', asAddr, run_loadVar_row w g t ty cs fr d hg hu hd hi]
end
theorem Qkf {w : World} {base n m c size : Nat} {e : TypeId} {A : Option Addr} {xs : List Value} (h : w.ownsRow base e size (.slice A m c) n xs) : m ≤ c := by
  rcases h.2 with ⟨he, _⟩ | ⟨g, cap, cur, he, _, _, hnc, _⟩
  · injection he with _ h2 h3
    omega
  · injection he with _ h2 h3
    omega
def Vm {α : Type} (R : α → List Value → Prop) (e : TypeId) (size : Nat) (w : World) (base : Nat) (v : Value) (ps : List α) : Prop :=
  ∃ inner, w.ownsRow base e size v ps.length inner ∧ Yi R size ps inner
section
variable {α : Type} {R R' : α → List Value → Prop} {e : TypeId} {size : Nat} {w w1 : World} {base : Nat} {v : Value} {ps : List α}
theorem Vm.none_ (R : α → List Value → Prop) (e : TypeId) (size : Nat) (w : World) (base : Nat) : Vm R e size w base (.slice none 0 0) [] := ⟨[], Qom _ _ _ _, Yi.none _ _⟩
theorem Vm.imp_ (h : Vm R e size w base v ps) (hR : ∀ p c, R p c → R' p c) : Vm R' e size w base v ps := by
  obtain ⟨inner, ho, hr⟩ := h; exact ⟨inner, ho, hr.imp_ hR⟩
theorem Vm.below (h : Vm R e size w base v ps) (hb : Below w.heap.size w w1) : Vm R e size w1 base v ps := by
  obtain ⟨inner, ho, hr⟩ := h; exact ⟨inner, Qiz ho hb, hr⟩
theorem Vm.keep (h : Vm R e size w base v ps) {g : Nat} {t : TypeId} {cells : Array Value} (hb : w.heap[g]? = some (.cells cells t (0, 0))) (ht : e ≠ t) (hk : Xd w w1 g none) : Vm R e size w1 base v ps := by
  obtain ⟨inner, ho, hr⟩ := h; exact ⟨inner, hk.own ho (Ne.symm (own_ne ho hb ht)) (by cases v.ownBlock <;> simp), hr⟩
theorem Vm.reads (h : Vm R e size w base v ps) : ∃ A c, v = .slice A ps.length c ∧ ps.length ≤ c ∧ Ua R size w A ps.length ps := by
  obtain ⟨inner, ho, hr⟩ := h; obtain ⟨A, c, rfl, hrow⟩ := Qhq ho hr rfl; exact ⟨A, c, rfl, Qkf ho, hrow⟩
theorem Vm.ne_block (h : Vm R e size w base v ps) {g : Nat} {t : TypeId} {cells : Array Value} (hb : w.heap[g]? = some (.cells cells t (0, 0))) (ht : e ≠ t) : some g ≠ v.ownBlock := by
  obtain ⟨inner, ho, hr⟩ := h; exact own_ne ho hb ht
theorem Vm.lit (W : World) (base : Nat) {inner : List Value} (hr : Yi R size ps inner) (hb : base ≤ W.heap.size) (hm : ps.length ≤ 9223372036854775807) :
    Vm R e size (W.alloc (.cells inner.toArray e)) base (.slice (some ⟨W.heap.size, 0, none⟩) ps.length ps.length) ps := by
  have h := World.ownsRow_lit (base := base) (e := e) (size := size) W inner.toArray ps.length hb (by simpa [maxLen] using hm) (by simpa using hr.1); exact ⟨inner, by simpa using h, hr⟩
end
section
variable {P : Program} {ops : Array Oper} {rest : List Oper} {o : Oper} {a : Act} {Q : Exit → Act → World → Prop} {α : Type} {R : α → List Value → Prop}
theorem Vm.append {w0 W : World} (base : Nat) (hgd : o.guard = none) (s x : Operand) (t e : TypeId) (z : Value) (size bytes : Nat)
    (ho : o.op = .call { callee := .builtin .append, args := #[s, x], argTypes := #[t, t] })
    (ht : P.underlying t = some (.slice e)) (hinfo : (P.info? e).map (fun i => (i.zero, i.size, i.bytes)) = some (some z, size, bytes)) (hz : z.cells.size = size) (hs0 : 0 < size) (hb0 : 0 < bytes)
    (v : Value) (ps : List α) (p : α) (cs : List Value) (hs : a.eval s = v) (hx : a.eval x = .slice (some ⟨W.heap.size, 0, none⟩) 1 1) (hp : R p cs) (hcs : cs.length = size) (h1 : ∀ u ∈ cs, u.oneCell' = true)
    (HO : Vm R e size W base v ps) (HB : Below base w0 W) (hbase : base ≤ W.heap.size) (hl : (ps.length + 1) * bytes ≤ 140737488355328)
    (h : ∀ v1 w1, Vm R e size w1 base v1 (ps ++ [p]) → Below base w0 w1 → W.grownBy w1 v.ownBlock → (v1.ownBlock = v.ownBlock ∨ ∃ b, v1.ownBlock = some b ∧ W.heap.size ≤ b) → wpList P ops Q rest (a.put o.dst v1) w1) :
    wpList P ops Q (o :: rest) a (W.alloc (.cells cs.toArray e)) := by
  obtain ⟨inner, hown, hr⟩ := HO; refine Qbf base hgd s x t e z size bytes ho ht hinfo hz hs0 hb0 v ps.length inner cs hs hx hcs h1 hown HB hbase hl ?_; intro v1 w1 hown1 hb1 hg1 hat1; exact h v1 w1 ⟨inner ++ cs, by rw [List.length_append, List.length_singleton]; exact hown1, hr.snoc hp hcs⟩ hb1 hg1 hat1
end
theorem Ua.inner_ {α : Type} {R : α → List Value → Prop} {size : Nat} {w : World} {ad : Addr} {n : Nat} {ps : List α} (h : Ua R size w (some ad) n ps) :
    ∃ inner, Yi R size ps inner ∧ ∀ j u, inner[j]? = some u → w.cell? (ad.add j) = some u := by
  have key : ∀ m, m ≤ ps.length → ∃ inner, Yi R size (ps.take m) inner ∧ ∀ j u, inner[j]? = some u → w.cell? (ad.add j) = some u := by
    intro m
    induction m with
    | zero => exact fun _ => ⟨[], Yi.none _ _, fun j u hu => by simp at hu⟩
    | succ m ih =>
      intro hm; obtain ⟨inner, hr, hc⟩ := ih (by omega); obtain ⟨ad', he, hcell⟩ := h.2.2 (by have := h.1; omega)
      injection he with he
      subst he; obtain ⟨c, hcl, hp, hcc⟩ := hcell m _ (List.getElem?_eq_getElem (show m < ps.length by omega)); refine ⟨inner ++ c, ?_, fun j u hu => ?_⟩
      · rw [List.take_succ_eq_append_getElem (show m < ps.length by omega)]
        exact hr.snoc hp hcl
      · have hil : inner.length = m * size := by rw [hr.1, List.length_take, Nat.min_eq_left (by omega)]
        rcases Nat.lt_or_ge j inner.length with hj | hj
        · rw [List.getElem?_append_left hj] at hu
          exact hc j u hu
        · rw [List.getElem?_append_right hj] at hu
          have := hcc (j - inner.length) u hu
          rwa [hil, Nat.add_sub_cancel' (by omega)] at this
  obtain ⟨inner, hr, hc⟩ := key ps.length (Nat.le_refl _)
  rw [List.take_length] at hr
  exact ⟨inner, hr, hc⟩
section
variable {α : Type} {P : Program}
theorem Qaj (enc : α → Value) (d : α) (t e : TypeId) (kl : IntKind) {i : TypeInfo} (ht : P.underlying t = some (.slice e)) (hi : P.info? e = some i) (hsz : i.size = 1) (A : Option Addr) (c : Nat) (xs : List α) (j : Int) (h0 : 0 ≤ j) (hm : j ≤ xs.length) (hc : xs.length ≤ c) :
    ∃ A' : Option Addr, (∀ W : World, (Instr.slice t (.slice A xs.length c) (some (.int kl j)) none none).run P W = .ok (.slice A' (xs.drop j.toNat).length (c - j.toNat)) W) ∧
      (∀ w : World, Yz enc d w A xs.length xs → Yz enc d w A' (xs.drop j.toNat).length (xs.drop j.toNat)) ∧ (xs.drop j.toNat).length ≤ c - j.toNat := by
  obtain ⟨m, rfl⟩ := Int.eq_ofNat_of_zero_le h0; simp only [Int.toNat_natCast]
  have hmn : m ≤ xs.length := by omega
  obtain ⟨A', h1, h2⟩ := Qiy (P := P) enc d t e kl ht hi hsz A xs.length c m hmn; have hl : (xs.drop m).length = xs.length - m := List.length_drop; exact ⟨A', fun W => by rw [hl]; exact h1 W, fun w h => by rw [hl]; exact h2 w xs hc h, by rw [hl]; omega⟩
theorem Qed (enc : α → Value) (d : α) (t e : TypeId) (kl kh : IntKind) {i : TypeInfo} (ht : P.underlying t = some (.slice e)) (hi : P.info? e = some i) (hsz : i.size = 1) (A : Option Addr) (c : Nat) (xs : List α) (a b : Int) (h0 : 0 ≤ a) (h1 : a ≤ b) (hm : b ≤ xs.length) (hc : xs.length ≤ c) :
    ∃ A' : Option Addr, (∀ W : World, (Instr.slice t (.slice A xs.length c) (some (.int kl a)) (some (.int kh b)) none).run P W = .ok (.slice A' ((xs.take b.toNat).drop a.toNat).length (c - a.toNat)) W) ∧
      (∀ w : World, Yz enc d w A xs.length xs → Yz enc d w A' ((xs.take b.toNat).drop a.toNat).length ((xs.take b.toNat).drop a.toNat)) ∧ ((xs.take b.toNat).drop a.toNat).length ≤ c - a.toNat := by
  have hlt : (xs.take b.toNat).length = b.toNat := by rw [List.length_take]; omega
  have hl : ((xs.take b.toNat).drop a.toNat).length = b.toNat - a.toNat := by rw [List.length_drop, hlt]
  refine ⟨if c = a.toNat then A else A.map (·.add a.toNat), fun W => ?_, fun w h => ?_, by rw [hl]; omega⟩
  · have hel : P.elem t = e := by simp [Program.elem, ht]
    have hu : P.underlying t = some (.slice (P.elem t)) := by rw [hel]; exact ht
    rw [run_slice_lh W t A xs.length c hu kl kh a b h0 h1 (by omega), hel, hl]
    simp [sizeOf, typeInfo, hi, hsz, sliced, Result.andThen]
  · have h2 := (h.take_ b.toNat (by omega)).drop_ (c := c) a.toNat (by omega) (by omega)
    rw [hl]; exact h2
end
structure Kd (α : Type) where
  sz : Nat
  E : List Nat
  K : World → α → List Value → Prop
  M : World → Nat → (Nat → Prop) → α → List Value → Prop
  K_len : ∀ {w x cs}, K w x cs → cs.length = sz
  K_one : ∀ {w x cs}, K w x cs → ∀ u ∈ cs, u.oneCell' = true
  K_below : ∀ {w w1 : World} {x cs}, Below w.heap.size w w1 → K w x cs → K w1 x cs
  K_of_M : ∀ {w base ok x cs}, M w base ok x cs → K w x cs
  M_mono : ∀ {w base ok ok' x cs}, (∀ k, ok k → ok' k) → M w base ok x cs → M w base ok' x cs
  M_bound : ∀ {w : World} {base ok x cs}, M w base ok x cs → M w base (fun k => ok k ∧ base ≤ k ∧ k < w.heap.size ∧ ∃ q, q ∈ E ∧ ∃ cells, w.heap[k]? = some (.cells cells q (0, 0))) x cs
  M_move : ∀ {w w1 : World} {base ok x cs}, (∀ k, ok k → w1.heap[k]? = w.heap[k]?) → M w base ok x cs → M w1 base ok x cs
  M_lower : ∀ {w base base' ok x cs}, base' ≤ base → M w base ok x cs → M w base' ok x cs
theorem Qna {w w1 : World} {base : Nat} {e : TypeId} {size n : Nat} {v : Value} {xs : List Value} (h : w.ownsRow base e size v n xs) (hm : ∀ k, v.ownBlock = some k → w1.heap[k]? = w.heap[k]?) : w1.ownsRow base e size v n xs := by
  obtain ⟨h1, h2⟩ := h; refine ⟨h1, ?_⟩
  rcases h2 with h2 | ⟨g, cap, cur, rfl, hg, hh, r⟩
  · exact .inl h2
  · exact .inr ⟨g, cap, cur, rfl, hg, (hm g (by simp [Value.ownBlock])).trans hh, r⟩
theorem Qag {w : World} {base : Nat} {e : TypeId} {size n : Nat} {v : Value} {xs : List Value} (h : w.ownsRow base e size v n xs) (k : Nat) (hk : v.ownBlock = some k) : ∃ cells, w.heap[k]? = some (.cells cells e (0, 0)) := by
  rcases h.2 with ⟨rfl, _⟩ | ⟨g, cap, cur, rfl, hg, hh, r⟩
  · simp [Value.ownBlock] at hk
  · have : g = k := by simpa [Value.ownBlock] using hk
    subst this; exact ⟨cur, hh⟩
namespace Kd
def C {α : Type} (d : Kd α) (w : World) (A : Option Addr) (n : Nat) (xs : List α) : Prop := Ua (d.K w) d.sz w A n xs
def R {α : Type} (d : Kd α) (e : Nat) (w : World) (base : Nat) (ok : Nat → Prop) (v : Value) (xs : List α) : Prop :=
  (∀ k, v.ownBlock = some k → ok k) ∧ Vm (d.M w base (fun k => ok k ∧ some k ≠ v.ownBlock)) e d.sz w base v xs
section
variable {α : Type} {d : Kd α} {e : Nat} {w w1 : World} {base : Nat} {ok ok' : Nat → Prop} {v : Value} {xs : List α}
theorem C_below {A : Option Addr} {n : Nat} (h : d.C w A n xs) (hb : Below w.heap.size w w1) : d.C w1 A n xs := Ua.imp_ h hb (fun _ _ hp => d.K_below hb hp)
theorem R_nil (d : Kd α) (e : Nat) (w : World) (base : Nat) (ok : Nat → Prop) : d.R e w base ok (.slice none 0 0) [] := ⟨fun k hk => by simp [Value.ownBlock] at hk, Vm.none_ _ _ _ _ _⟩
theorem R_mono (h : d.R e w base ok v xs) (hok : ∀ k, ok k → ok' k) : d.R e w base ok' v xs := ⟨fun k hk => hok k (h.1 k hk), h.2.imp_ (fun _ _ hp => d.M_mono (fun k hk => ⟨hok k hk.1, hk.2⟩) hp)⟩
theorem R_bound (h : d.R e w base ok v xs) : d.R e w base (fun k => ok k ∧ base ≤ k ∧ k < w.heap.size ∧ ∃ q, q ∈ e :: d.E ∧ ∃ cells, w.heap[k]? = some (.cells cells q (0, 0))) v xs := by
  obtain ⟨h0, inner, ho, hr⟩ := h; refine ⟨fun k hk => ?_, inner, ho, hr.imp_ (fun _ _ hp => d.M_mono (fun k hk => ?_) (d.M_bound hp))⟩
  · obtain ⟨cells, hc⟩ := Qag ho k hk
    exact ⟨h0 k hk, Kb ho k hk, Qdq ho k hk, e, List.mem_cons_self, cells, hc⟩
  · obtain ⟨⟨h1, h2⟩, h3, h4, q, hq, hc⟩ := hk
    exact ⟨⟨h1, h3, h4, q, List.mem_cons_of_mem _ hq, hc⟩, h2⟩
theorem Qcl (h : d.R e w base ok v xs) (hm : ∀ k, ok k → w1.heap[k]? = w.heap[k]?) : d.R e w1 base ok v xs := by
  obtain ⟨h0, inner, ho, hr⟩ := h; exact ⟨h0, inner, Qna ho (fun k hk => hm k (h0 k hk)), hr.imp_ (fun _ _ hp => d.M_move (fun k hk => hm k hk.1) hp)⟩
theorem R_lower {base' : Nat} (h : d.R e w base ok v xs) (hb : base' ≤ base) : d.R e w base' ok v xs := by
  obtain ⟨h0, inner, ho, hr⟩ := h; exact ⟨h0, inner, Qgy ho hb, hr.imp_ (fun _ _ hp => d.M_lower hb hp)⟩
theorem Qcm (h : d.R e w base ok v xs) (hm : ∀ k, ok k → k < w.heap.size → w1.heap[k]? = w.heap[k]?) : d.R e w1 base ok v xs :=
  R_mono (Qcl (R_bound h) (fun k hk => hm k hk.1 hk.2.2.1)) (fun _ hk => hk.1)
theorem Qck {x : α} {cs : List Value} (h : d.M w base ok x cs) (hm : ∀ k, ok k → k < w.heap.size → w1.heap[k]? = w.heap[k]?) : d.M w1 base ok x cs :=
  d.M_mono (fun _ hk => hk.1) (d.M_move (fun k hk => hm k hk.1 hk.2.2.1) (d.M_bound h))
theorem R_below (h : d.R e w base ok v xs) (hb : Below w.heap.size w w1) : d.R e w1 base ok v xs := Qcm h (fun k _ hk => hb.block k hk)
theorem Qfr {x : α} {cs : List Value} (h : d.M w base ok x cs) (hb : Below w.heap.size w w1) : d.M w1 base ok x cs := Qck h (fun k _ hk => hb.block k hk)
theorem R_grown (h : d.R e w base ok v xs) {row : Option Nat} (hg : w.grownBy w1 row) (hok : ∀ k, ok k → some k ≠ row) : d.R e w1 base ok v xs := Qcm h (fun k ho hk => hg.block k hk (hok k ho))
theorem R_far (h : d.R e w base ok v xs) {p : Addr} (hok : ∀ k, ok k → k ≠ p.block) (u : Value) : d.R e (w.setCell p u) base ok v xs := Qcm h (fun k ho _ => Below.heap_setCell w p u k (hok k ho))
theorem R_types (h : d.R e w base ok v xs) {g t : Nat} {cells : Array Value} (hb : w.heap[g]? = some (.cells cells t (0, 0))) (ht : ∀ q, q ∈ e :: d.E → q ≠ t) : d.R e w base (fun k => ok k ∧ k ≠ g) v xs :=
  R_mono (R_bound h) (fun k hk => ⟨hk.1, by
    obtain ⟨_, _, _, q, hq, cells', hc⟩ := hk; rintro rfl
    rw [hc] at hb
    injection hb with hb
    injection hb with _ hb
    exact ht q hq hb⟩)
theorem R_reads (h : d.R e w base ok v xs) : ∃ A c, v = .slice A xs.length c ∧ xs.length ≤ c ∧ d.C w A xs.length xs := by
  obtain ⟨A, c, he, hl, hr⟩ := Vm.reads h.2; exact ⟨A, c, he, hl, hr.imp_ (Below.refl _ _) (fun _ _ hp => d.K_of_M hp)⟩
theorem R_slice (h : d.R e w base ok v xs) : ∃ A c, v = .slice A xs.length c := by
  obtain ⟨A, c, he, _⟩ := R_reads h; exact ⟨A, c, he⟩
theorem R_own (h : d.R e w base ok v xs) : ∃ inner, w.ownsRow base e d.sz v xs.length inner := by
  obtain ⟨_, inner, ho, _⟩ := h; exact ⟨inner, ho⟩
theorem R_ne (h : d.R e w base ok v xs) {g t : Nat} {cells : Array Value} (hb : w.heap[g]? = some (.cells cells t (0, 0))) (ht : e ≠ t) : some g ≠ v.ownBlock := Vm.ne_block h.2 hb ht
end
def scalar {α : Type} (enc : α → Value) (h1 : ∀ x, (enc x).oneCell' = true) : Kd α where
  sz := 1
  E := []
  K := fun _ x cs => cs = [enc x]
  M := fun _ _ _ x cs => cs = [enc x]
  K_len := fun h => by rw [h]; rfl
  K_one := fun h u hu => by
    rw [h] at hu
    rw [List.mem_singleton.1 hu]; exact h1 _
  K_below := fun _ h => h
  K_of_M := fun h => h
  M_mono := fun _ h => h
  M_bound := fun h => h
  M_move := fun _ h => h
  M_lower := fun _ h => h
def int (k : IntKind) : Kd Int := scalar (Value.int k) (fun _ => rfl)
def bool : Kd Bool := scalar Value.bool (fun _ => rfl)
def string : Kd ByteArray := scalar Value.string (fun _ => rfl)
def slice {α : Type} (e : Nat) (d : Kd α) : Kd (List α) where
  sz := 1
  E := e :: d.E
  K := fun w xs cs => ∃ A c, cs = [.slice A xs.length c] ∧ xs.length ≤ c ∧ d.C w A xs.length xs
  M := fun w base ok xs cs => ∃ v, cs = [v] ∧ d.R e w base ok v xs
  K_len := by
    rintro w x cs ⟨A, c, rfl, _⟩; rfl
  K_one := by
    rintro w x cs ⟨A, c, rfl, _⟩ u hu; rw [List.mem_singleton.1 hu]; rfl
  K_below := by
    rintro w w1 x cs hb ⟨A, c, rfl, hl, hr⟩; exact ⟨A, c, rfl, hl, C_below hr hb⟩
  K_of_M := by
    rintro w base ok x cs ⟨v, rfl, h⟩; obtain ⟨A, c, rfl, hl, hr⟩ := R_reads h; exact ⟨A, c, rfl, hl, hr⟩
  M_mono := by
    rintro w base ok ok' x cs hok ⟨v, rfl, h⟩; exact ⟨v, rfl, R_mono h hok⟩
  M_bound := by
    rintro w base ok x cs ⟨v, rfl, h⟩; exact ⟨v, rfl, R_bound h⟩
  M_move := by
    rintro w w1 base ok x cs hm ⟨v, rfl, h⟩; exact ⟨v, rfl, Qcl h hm⟩
  M_lower := by
    rintro w base base' ok x cs hb ⟨v, rfl, h⟩; exact ⟨v, rfl, R_lower h hb⟩
def pair {α β : Type} (a : Kd α) (b : Kd β) : Kd (α × β) where
  sz := a.sz + b.sz
  E := a.E ++ b.E
  K := fun w x cs => ∃ c0 c1, cs = c0 ++ c1 ∧ a.K w x.1 c0 ∧ b.K w x.2 c1
  M := fun w base ok x cs => ∃ c0 c1, cs = c0 ++ c1 ∧ a.M w base ok x.1 c0 ∧ b.M w base ok x.2 c1
  K_len := by
    rintro w x cs ⟨c0, c1, rfl, h0, h1⟩; rw [List.length_append, a.K_len h0, b.K_len h1]
  K_one := by
    rintro w x cs ⟨c0, c1, rfl, h0, h1⟩ u hu
    rcases List.mem_append.1 hu with hu | hu
    · exact a.K_one h0 u hu
    · exact b.K_one h1 u hu
  K_below := by
    rintro w w1 x cs hb ⟨c0, c1, rfl, h0, h1⟩; exact ⟨c0, c1, rfl, a.K_below hb h0, b.K_below hb h1⟩
  K_of_M := by
    rintro w base ok x cs ⟨c0, c1, rfl, h0, h1⟩; exact ⟨c0, c1, rfl, a.K_of_M h0, b.K_of_M h1⟩
  M_mono := by
    rintro w base ok ok' x cs hok ⟨c0, c1, rfl, h0, h1⟩; exact ⟨c0, c1, rfl, a.M_mono hok h0, b.M_mono hok h1⟩
  M_bound := by
    rintro w base ok x cs ⟨c0, c1, rfl, h0, h1⟩; refine ⟨c0, c1, rfl, a.M_mono ?_ (a.M_bound h0), b.M_mono ?_ (b.M_bound h1)⟩
    · rintro k ⟨h2, h3, h4, q, hq, hc⟩
      exact ⟨h2, h3, h4, q, List.mem_append_left _ hq, hc⟩
    · rintro k ⟨h2, h3, h4, q, hq, hc⟩
      exact ⟨h2, h3, h4, q, List.mem_append_right _ hq, hc⟩
  M_move := by
    rintro w w1 base ok x cs hm ⟨c0, c1, rfl, h0, h1⟩; exact ⟨c0, c1, rfl, a.M_move hm h0, b.M_move hm h1⟩
  M_lower := by
    rintro w base base' ok x cs hb ⟨c0, c1, rfl, h0, h1⟩; exact ⟨c0, c1, rfl, a.M_lower hb h0, b.M_lower hb h1⟩
def iso {α β : Type} (d : Kd α) (f : β → α) : Kd β where
  sz := d.sz
  E := d.E
  K := fun w x cs => d.K w (f x) cs
  M := fun w base ok x cs => d.M w base ok (f x) cs
  K_len := d.K_len
  K_one := d.K_one
  K_below := d.K_below
  K_of_M := d.K_of_M
  M_mono := d.M_mono
  M_bound := d.M_bound
  M_move := d.M_move
  M_lower := d.M_lower
def bot {α : Type} (sz : Nat) (E : List Nat) : Kd α where
  sz := sz
  E := E
  K := fun _ _ _ => False
  M := fun _ _ _ _ _ => False
  K_len := fun h => h.elim
  K_one := fun h => h.elim
  K_below := fun _ h => h
  K_of_M := fun h => h
  M_mono := fun _ h => h
  M_bound := fun h => h
  M_move := fun _ h => h
  M_lower := fun _ h => h
def Vp {α : Type} (F : Kd α → Kd α) (sz : Nat) (E : List Nat) : Nat → Kd α
  | 0 => bot sz E
  | n + 1 => F (Vp F sz E n)
theorem C_get {α : Type} {d : Kd α} {w : World} {A : Option Addr} {n : Nat} {xs : List α} (h : d.C w A n xs) (z : α) (i : Int) (h0 : 0 ≤ i) (h1 : i < n) :
    ∃ ad c, A = some ad ∧ c.length = d.sz ∧ d.K w (xs.getD i.toNat z) c ∧ ∀ j u, c[j]? = some u → w.cell? (ad.add (i.toNat * d.sz + j)) = some u := Ua.get_ h z i h0 h1
theorem Qge {α : Type} {d : Kd α} {e base : Nat} {ok okp : Nat → Prop} {W w1 : World} {v v1 : Value} {xs : List α} {p : α} {inner cs : List Value} (h0 : ∀ k, v.ownBlock = some k → ok k) (hr : Yi (d.M W base (fun k => ok k ∧ some k ≠ v.ownBlock)) d.sz xs inner) (hp : d.M W base okp p cs) (hokp : ∀ k, okp k → ok k ∧ some k ≠ v.ownBlock) (hfresh : ∀ k, W.heap.size ≤ k → ok k)
    (hown : w1.ownsRow base e d.sz v1 (xs.length + 1) (inner ++ cs)) (hg : W.grownBy w1 v.ownBlock) (hat : v1.ownBlock = v.ownBlock ∨ ∃ b, v1.ownBlock = some b ∧ W.heap.size ≤ b) : d.R e w1 base ok v1 (xs ++ [p]) := by
  have hne : ∀ k, some k ≠ v.ownBlock → k < W.heap.size → some k ≠ v1.ownBlock := by
    intro k hk hlt
    rcases hat with hat | ⟨b, hb, hle⟩
    · rw [hat]; exact hk
    · rw [hb]
      intro he
      injection he with he
      omega
  have step : ∀ {q : α} {c : List Value} {o : Nat → Prop}, d.M W base o q c → (∀ k, o k → ok k ∧ some k ≠ v.ownBlock) → d.M w1 base (fun k => ok k ∧ some k ≠ v1.ownBlock) q c := by
    intro q c o hq ho; have h1 := d.M_move (w1 := w1) (fun k hk => hg.block k hk.2.2.1 (ho k hk.1).2) (d.M_bound hq); exact d.M_mono (fun k hk => ⟨(ho k hk.1).1, hne k (ho k hk.1).2 hk.2.2.1⟩) h1
  refine ⟨fun k hk => ?_, inner ++ cs, by rw [List.length_append, List.length_singleton]; exact hown, ?_⟩
  · rcases hat with hat | ⟨b, hb, hle⟩
    · exact h0 k (hat ▸ hk)
    · rw [hb] at hk
      injection hk with hk
      exact hfresh k (by omega)
  · exact (hr.imp_ (fun _ _ hq => step hq (fun _ hk => hk))).snoc (step hp hokp) (d.K_len (d.K_of_M hp))
section
variable {P : Program} {ops : Array Oper} {rest : List Oper} {o : Oper} {a : Act} {Q : Exit → Act → World → Prop} {α : Type}
theorem R_append (d : Kd α) {w0 W : World} (base : Nat) (hgd : o.guard = none) (s x : Operand) (t e : TypeId) (z : Value) (bytes : Nat)
    (ho : o.op = .call { callee := .builtin .append, args := #[s, x], argTypes := #[t, t] })
    (ht : P.underlying t = some (.slice e)) (hinfo : (P.info? e).map (fun i => (i.zero, i.size, i.bytes)) = some (some z, d.sz, bytes)) (hz : z.cells.size = d.sz) (hs0 : 0 < d.sz) (hb0 : 0 < bytes)
    (v : Value) (xs : List α) (p : α) (cs : List Value) (ok okp : Nat → Prop) (hs : a.eval s = v) (hx : a.eval x = .slice (some ⟨W.heap.size, 0, none⟩) 1 1) (hp : d.M W base okp p cs) (hokp : ∀ k, okp k → ok k ∧ some k ≠ v.ownBlock) (hfresh : ∀ k, W.heap.size ≤ k → ok k)
    (HO : d.R e W base ok v xs) (HB : Below base w0 W) (hbase : base ≤ W.heap.size) (hl : (xs.length + 1) * bytes ≤ 140737488355328)
    (h : ∀ v1 w1, d.R e w1 base ok v1 (xs ++ [p]) → Below base w0 w1 → W.grownBy w1 v.ownBlock → (v1.ownBlock = v.ownBlock ∨ ∃ b, v1.ownBlock = some b ∧ W.heap.size ≤ b) → wpList P ops Q rest (a.put o.dst v1) w1) :
    wpList P ops Q (o :: rest) a (W.alloc (.cells cs.toArray e)) := by
  obtain ⟨h0, inner, hown, hr⟩ := HO; refine Qbf base hgd s x t e z d.sz bytes ho ht hinfo hz hs0 hb0 v xs.length inner cs hs hx (d.K_len (d.K_of_M hp)) (d.K_one (d.K_of_M hp)) hown HB hbase hl ?_; intro v1 w1 hown1 hb1 hg1 hat1; exact h v1 w1 (Qge h0 hr hp hokp hfresh hown1 hg1 hat1) hb1 hg1 hat1
end
section
variable {P : Program} {ops : Array Oper} {o : Oper} {a : Act} {Q : Exit → Act → World → Prop} {Kc : Act → World → Prop} {α : Type}
theorem R_append_step (d : Kd α) {w0 W : World} (base : Nat) (hw : Region.wanted o (yielded ops a.tmps) = true) (s x : Operand) (t e : TypeId) (z : Value) (bytes : Nat)
    (ho : o.op = .call { callee := .builtin .append, args := #[s, x], argTypes := #[t, t] })
    (ht : P.underlying t = some (.slice e)) (hinfo : (P.info? e).map (fun i => (i.zero, i.size, i.bytes)) = some (some z, d.sz, bytes)) (hz : z.cells.size = d.sz) (hs0 : 0 < d.sz) (hb0 : 0 < bytes)
    (v : Value) (xs : List α) (p : α) (cs : List Value) (ok okp : Nat → Prop) (hs : a.eval s = v) (hx : a.eval x = .slice (some ⟨W.heap.size, 0, none⟩) 1 1) (hp : d.M W base okp p cs) (hokp : ∀ k, okp k → ok k ∧ some k ≠ v.ownBlock) (hfresh : ∀ k, W.heap.size ≤ k → ok k)
    (HO : d.R e W base ok v xs) (HB : Below base w0 W) (hbase : base ≤ W.heap.size) (hl : (xs.length + 1) * bytes ≤ 140737488355328)
    (h : ∀ v1 w1, d.R e w1 base ok v1 (xs ++ [p]) → Below base w0 w1 → W.grownBy w1 v.ownBlock → (v1.ownBlock = v.ownBlock ∨ ∃ b, v1.ownBlock = some b ∧ W.heap.size ≤ b) → Kc (a.put o.dst v1) w1) :
    if Region.wanted o (yielded ops a.tmps) = true then Oper.wp P o a (W.alloc (.cells cs.toArray e)) Kc Q else Kc (a.put o.dst undef) (W.alloc (.cells cs.toArray e)) := by
  obtain ⟨h0, inner, hown, hr⟩ := HO; refine Qbq base hw s x t e z d.sz bytes ho ht hinfo hz hs0 hb0 v xs.length inner cs hs hx (d.K_len (d.K_of_M hp)) (d.K_one (d.K_of_M hp)) hown HB hbase hl ?_; intro v1 w1 hown1 hb1 hg1 hat1; exact h v1 w1 (Qge h0 hr hp hokp hfresh hown1 hg1 hat1) hb1 hg1 hat1
end
theorem Qfk {α : Type} {enc : α → Value} (xs : List α) : Yi (fun (x : α) (cs : List Value) => cs = [enc x]) 1 xs (Vu enc xs) := by
  refine ⟨by simp [Vu], fun j p hj => ?_⟩; obtain ⟨hl, hp⟩ := List.getElem?_eq_some_iff.1 hj
  have hl' : j < (Vu enc xs).length := by rw [Kn]; exact hl
  rw [Nat.mul_one, List.drop_eq_getElem_cons hl']
  simp [Vu, hp]
theorem R_of_own {α : Type} {enc : α → Value} {h1 : ∀ x, (enc x).oneCell' = true} {e : Nat} {w : World} {base : Nat} {ok : Nat → Prop} {v : Value} {xs : List α} (ho : w.ownsRow base e 1 v xs.length (Vu enc xs)) (hok : ∀ k, v.ownBlock = some k → ok k) : (scalar enc h1).R e w base ok v xs := ⟨hok, Vu enc xs, ho, Qfk xs⟩
theorem own_of_R {α : Type} {enc : α → Value} {h1 : ∀ x, (enc x).oneCell' = true} {e : Nat} {w : World} {base : Nat} {ok : Nat → Prop} {v : Value} {xs : List α} (h : (scalar enc h1).R e w base ok v xs) : w.ownsRow base e 1 v xs.length (Vu enc xs) := by
  obtain ⟨_, inner, ho, hr⟩ := h
  have : inner = Vu enc xs := by
    apply List.ext_getElem?
    intro j
    rcases Nat.lt_or_ge j xs.length with hj | hj
    · have h2 := hr.2 j _ (List.getElem?_eq_getElem hj)
      have hl : j < inner.length := by have := hr.1; simp [scalar] at this; omega
      have h3 : (inner.drop (j * 1)).take 1 = [enc xs[j]] := h2
      rw [Nat.mul_one, List.drop_eq_getElem_cons hl] at h3
      have h4 : inner[j] = enc xs[j] := by
        have h5 := congrArg List.head? h3
        rw [List.take_succ_cons] at h5
        exact Option.some.inj h5
      rw [List.getElem?_eq_getElem hl, h4]
      simp [Vu, List.getElem?_eq_getElem hj]
    · have h3 : inner.length = xs.length := by have := hr.1; simp [scalar] at this; omega
      rw [List.getElem?_eq_none (by omega), List.getElem?_eq_none (by rw [Kn]; omega)]
  rw [← this]; exact ho
theorem C_of_reads {α : Type} {enc : α → Value} {d : α} {h1 : ∀ x, (enc x).oneCell' = true} {w : World} {A : Option Addr} {n : Nat} {xs : List α} (h : Yz enc d w A n xs) : (scalar enc h1).C w A n xs := by
  refine ⟨h.1, h.2.1, fun hn => ?_⟩; obtain ⟨ad, e, hc⟩ := h.2.2 hn; refine ⟨ad, e, fun j p hj => ⟨[enc p], rfl, rfl, fun i u hu => ?_⟩⟩; obtain ⟨hl, hp⟩ := List.getElem?_eq_some_iff.1 hj; have h2 := hc j (by have := h.1; omega)
  rw [List.getD_eq_getElem?_getD, hj] at h2
  cases i with
  | zero =>
    have : enc p = u := by simpa using hu
    subst this
    simpa [scalar] using h2
  | succ i => simp at hu
theorem reads_of_C {α : Type} {enc : α → Value} {d : α} {h1 : ∀ x, (enc x).oneCell' = true} {w : World} {A : Option Addr} {n : Nat} {xs : List α} (h : (scalar enc h1).C w A n xs) : Yz enc d w A n xs := by
  refine ⟨h.1, h.2.1, fun hn => ?_⟩; obtain ⟨ad, e, hc⟩ := h.2.2 hn; refine ⟨ad, e, fun j hj => ?_⟩
  have hl : j < xs.length := by have := h.1; omega
  obtain ⟨c, _, hK, hcell⟩ := hc j _ (List.getElem?_eq_getElem hl); have hK' : c = [enc xs[j]] := hK; subst hK'; have := hcell 0 _ rfl
  simpa [scalar, List.getD_eq_getElem?_getD, List.getElem?_eq_getElem hl] using this
end Kd
namespace Kd
end Kd
namespace Kd
theorem R_after {α : Type} {d : Kd α} {e base : Nat} {ok : Nat → Prop} {W w1 : World} {u v v1 : Value} {xs : List α} (h : d.R e W base (fun k => ok k ∧ some k ≠ v.ownBlock) u xs) (hg : W.grownBy w1 v.ownBlock) (hat : v1.ownBlock = v.ownBlock ∨ ∃ b, v1.ownBlock = some b ∧ W.heap.size ≤ b) : d.R e w1 base (fun k => ok k ∧ some k ≠ v1.ownBlock) u xs := by
  refine R_mono (Qcl (R_bound h) (fun k hk => hg.block k hk.2.2.1 hk.1.2)) (fun k hk => ⟨hk.1.1, ?_⟩)
  rcases hat with hat | ⟨b, hb, hle⟩
  · rw [hat]; exact hk.1.2
  · rw [hb]
    intro he
    injection he with he
    have := hk.2.2.1
    omega
theorem M_row {α : Type} {d : Kd α} {e base : Nat} {ok : Nat → Prop} {w : World} {v : Value} {xs : List α} (h : d.R e w base ok v xs) : (slice e d).M w base ok xs [v] := ⟨v, rfl, h⟩
end Kd
namespace Kd
section
variable {α β : Type} {d : Kd α} {d' : Kd β} {e e' : Nat} {w w1 W : World} {base b b' : Nat} {ok ok' okv oku : Nat → Prop} {v u : Value} {xs : List α} {ys : List β}
theorem R_alloc (h : d.R e w base ok v xs) (o : Obj) : d.R e (w.alloc o) base ok v xs := R_below h (Qh (Below.refl _ _) o)
theorem R_drew (h : d.R e w base ok v xs) : d.R e w.drew base ok v xs := R_below h (Vv (Below.refl _ _))
theorem R_drewN (h : d.R e w base ok v xs) (m : Nat) : d.R e (w.drewN m) base ok v xs := R_below h (Qf (Below.refl _ _) m)
theorem C_alloc {A : Option Addr} {n : Nat} (h : d.C w A n xs) (o : Obj) : d.C (w.alloc o) A n xs := C_below h (Qh (Below.refl _ _) o)
theorem C_drew {A : Option Addr} {n : Nat} (h : d.C w A n xs) : d.C w.drew A n xs := C_below h (Vv (Below.refl _ _))
theorem C_drewN {A : Option Addr} {n : Nat} (h : d.C w A n xs) (m : Nat) : d.C (w.drewN m) A n xs := C_below h (Qf (Below.refl _ _) m)
theorem C_nil (d : Kd α) (w : World) : d.C w none ([] : List α).length [] := ⟨rfl, by simp, fun h => absurd h (Nat.lt_irrefl 0)⟩
theorem R_reads' {A : Option Addr} {n c : Nat} (h : d.R e w base ok (.slice A n c) xs) : n = xs.length ∧ n ≤ c ∧ d.C w A xs.length xs := by
  obtain ⟨A', c', he, hl, hr⟩ := R_reads h
  injection he with h1 h2 h3
  subst h1; exact ⟨h2, by omega, hr⟩
theorem R_lt (h : d.R e w base ok v xs) : ∀ k, v.ownBlock = some k → k < w.heap.size := by
  obtain ⟨inner, ho⟩ := R_own h; exact Qdq ho
theorem R_base (h : d.R e w base ok v xs) : ∀ k, v.ownBlock = some k → base ≤ k := by
  obtain ⟨inner, ho⟩ := R_own h; exact Kb ho
theorem R_away (h : d.R e w base ok v xs) {g : Nat} (hok : ∀ k, ok k → k ≠ g) : some g ≠ v.ownBlock := fun e => hok g (h.1 g e.symm) rfl
theorem R_form (h : d.R e w base ok v xs) (hp : 0 < xs.length) : ∃ g cap, v = .slice (some ⟨g, 0, none⟩) xs.length cap ∧ base ≤ g ∧ g < w.heap.size ∧ ∃ cells, w.heap[g]? = some (.cells cells e (0, 0)) := by
  obtain ⟨inner, ho⟩ := R_own h; obtain ⟨g, cap, he, hb, hl⟩ := ho.form hp; obtain ⟨cells, hc⟩ := Qag ho g (by rw [he]; simp [Value.ownBlock]); exact ⟨g, cap, he, hb, hl, cells, hc⟩
end
section
variable {w W : World} {A : Option Addr} {n : Nat}
theorem at_int {k : IntKind} {xs : List Int} (h : (Kd.int k).C w A n xs) (i : Int) (h0 : 0 ≤ i) (h1 : i < n) : ∃ ad, A = some ad ∧ w.cell? (ad.add i.toNat) = some (.int k (rd xs i)) :=
  Yz.at_ (reads_of_C (enc := Value.int k) (d := (0 : Int)) (h1 := fun _ => rfl) h) i h0 h1
theorem at_string {xs : List ByteArray} (h : Kd.string.C w A n xs) (i : Int) (h0 : 0 ≤ i) (h1 : i < n) : ∃ ad, A = some ad ∧ w.cell? (ad.add i.toNat) = some (.string (Ye ByteArray.empty xs i)) :=
  Yz.at_ (reads_of_C (enc := Value.string) (d := ByteArray.empty) (h1 := fun _ => rfl) h) i h0 h1
variable {α : Type} {enc : α → Value} {h1 : ∀ x, (enc x).oneCell' = true} {e base g cap : Nat} {ok : Nat → Prop} {xs : List α}
theorem R_cell (d : α) (h : (scalar enc h1).R e W base ok (.slice (some ⟨g, 0, none⟩) xs.length cap) xs) (i : Int) (h0 : 0 ≤ i) (hi : i < xs.length) : W.cell? ⟨g, i.toNat, none⟩ = some (enc (Ye d xs i)) ∧ W.frozen? ⟨g, i.toNat, none⟩ = false := Qlu (own_of_R h) i h0 hi
theorem R_put (h : (scalar enc h1).R e W base ok (.slice (some ⟨g, 0, none⟩) xs.length cap) xs) (i : Int) (x : α) : (scalar enc h1).R e (W.setCell ⟨g, i.toNat, none⟩ (enc x)) base ok (.slice (some ⟨g, 0, none⟩) xs.length cap) (xs.set i.toNat x) ∧ W.grownBy (W.setCell ⟨g, i.toNat, none⟩ (enc x)) (some g) := by
  obtain ⟨ho, hg⟩ := Qec (own_of_R h) i x; exact ⟨R_of_own (by rw [List.length_set]; exact ho) h.1, hg⟩
end
section
variable {P : Program} {ops : Array Oper} {rest : List Oper} {o : Oper} {a : Act} {Q : Exit → Act → World → Prop}
theorem event_run {W w1 : World} {v : Value} (hgd : o.guard = none) (hrun : (execOp a.eval o).run P W = .ok (.value v) w1) (h : wpList P ops Q rest (a.put o.dst v) w1) : wpList P ops Q (o :: rest) a W := by
  refine wpList_plain hgd fun K hK => ?_
  unfold Oper.wp; rw [hrun]; exact hK _ _ h
variable {α : Type}
theorem R_lit (d : Kd α) {w0 W : World} (base e : Nat) (hgd : o.guard = none) {N : Tmp} (_hd : o.dst = some N) {xs : List α} {inner : List Value} {ok okp : Nat → Prop}
    (hrun : (execOp a.eval o).run P W = .ok (.value (.slice (some ⟨W.heap.size, 0, none⟩) xs.length xs.length)) (W.alloc (.cells inner.toArray e)))
    (hrep : Yi (d.M W base okp) d.sz xs inner) (hok : ∀ k, okp k → ok k) (hfresh : ok W.heap.size) (HB : Below base w0 W) (hbase : base ≤ W.heap.size) (hm : xs.length ≤ 9223372036854775807)
    (h : ∀ v1 w1, d.R e w1 base ok v1 xs → Below base w0 w1 → W.grownBy w1 none → (∃ b, v1.ownBlock = some b ∧ W.heap.size ≤ b) → wpList P ops Q rest (a.put o.dst v1) w1) : wpList P ops Q (o :: rest) a W := by
  refine event_run hgd hrun (h _ _ ⟨fun k hk => ?_, inner, ?_, ?_⟩ (HB.alloc hbase _) (World.grownBy_alloc W _ none) ⟨W.heap.size, by simp [Value.ownBlock], Nat.le_refl _⟩)
  · have : W.heap.size = k := by simpa [Value.ownBlock] using hk
    subst this; exact hfresh
  · have h2 := World.ownsRow_lit (base := base) (e := e) (size := d.sz) W inner.toArray xs.length hbase (by simpa [maxLen] using hm) (by simpa using hrep.1)
    simpa using h2
  · refine hrep.imp_ (fun p c hp => d.M_mono (fun k hk => ⟨hok k hk.1, fun he => ?_⟩) (Qfr (d.M_bound hp) (Qh (Below.refl _ _) _)))
    have h3 : k = W.heap.size := by simpa [Value.ownBlock] using he
    have := hk.2.2.1
    omega
theorem Qfa {α : Type} {R : α → List Value → Prop} {z : Value} {size : Nat} {z0 : α} (hz : z.cells.size = size) (hs : 0 < size) (h0 : R z0 z.cells.toList) (m : Nat) : Yi R size (List.replicate m z0) (madeCells z.cells (m * size)).toList := by
  refine ⟨by simp [size_madeCells], fun j p hj => ?_⟩; obtain ⟨hjl, hp⟩ := List.getElem?_eq_some_iff.1 hj
  have hjm : j < m := by simpa using hjl
  have hp' : z0 = p := by simpa using hp
  subst hp'
  have hle : j * size + size ≤ m * size := by rw [← Nat.succ_mul]; exact Nat.mul_le_mul_right _ hjm
  have : ((madeCells z.cells (m * size)).toList.drop (j * size)).take size = z.cells.toList := by
    apply List.ext_getElem
    · simp [size_madeCells, hz]
      omega
    · intro i h1 h2
      have hi : i < size := by rw [Array.length_toList, hz] at h2; exact h2
      have hmod : (j * size + i) % size = i := by
        rw [Nat.mul_comm, Nat.mul_add_mod]; exact Nat.mod_eq_of_lt hi
      simp [madeCells, hz, hmod]
      rw [getElem!_pos z.cells i (by omega)]
  rw [this]; exact h0
theorem R_make (d : Kd α) {w0 W : World} (base e : Nat) (hgd : o.guard = none) {N : Tmp} (hd : o.dst = some N) (t : TypeId) (x y : Operand) (ho : o.op = .makeSlice t x y) (n : Int) (hx : a.eval x = .int .i64 n) (hy : a.eval y = .int .i64 n)
    (ht : P.underlying t = some (.slice e)) (z : Value) (bytes : Nat) (hinfo : (P.info? e).map (fun i => (i.zero, i.size, i.bytes)) = some (some z, d.sz, bytes)) (hz : z.cells.size = d.sz) (hs0 : 0 < d.sz) (hb0 : 0 < bytes)
    (z0 : α) {ok okp : Nat → Prop} (hzero : d.M W base okp z0 z.cells.toList) (hok : ∀ k, okp k → ok k) (hfresh : ok W.heap.size) (h0 : 0 ≤ n) (hl : n.toNat * bytes ≤ 281474976710656) (HB : Below base w0 W) (hbase : base ≤ W.heap.size)
    (h : ∀ v1 w1, d.R e w1 base ok v1 (List.replicate n.toNat z0) → Below base w0 w1 → W.grownBy w1 none → (∃ b, v1.ownBlock = some b ∧ W.heap.size ≤ b) → wpList P ops Q rest (a.put o.dst v1) w1) : wpList P ops Q (o :: rest) a W := by
  obtain ⟨m, rfl⟩ := Int.eq_ofNat_of_zero_le h0
  simp only [Int.toNat_natCast] at hl h
  obtain ⟨i0, hi, hzz⟩ := Option.map_eq_some_iff.1 hinfo
  simp only [Prod.mk.injEq] at hzz
  obtain ⟨hz0, hz1, hz2⟩ := hzz; have hm : m ≤ 281474976710656 := Nat.le_trans (Nat.le_mul_of_pos_right _ hb0) hl
  have hr := run_make (P := P) W t e i0 z ht hi hz0 .i64 .i64 (m : Int) (m : Int) (by omega) (by omega)
    (by
      have h3 : ((i0.bytes * m : Nat) : Int) ≤ 281474976710656 := by rw [hz2, Nat.mul_comm]; omega
      rwa [Int.natCast_mul] at h3) (by omega)
  simp only [Int.toNat_natCast] at hr
  rw [hz1] at hr
  refine R_lit d base e hgd hd (xs := List.replicate m z0) (inner := (madeCells z.cells (m * d.sz)).toList) (okp := okp) (ok := ok) ?_ (Qfa hz hs0 hzero m) hok hfresh HB hbase (by simp; omega) h
  simp [execOp, ho, hx, hy, hr]
end
end Kd
section
variable {P : Program}
theorem Qbs (t e : TypeId) (kh : IntKind) {i : TypeInfo} (ht : P.underlying t = some (.slice e)) (hi : P.info? e = some i) (A : Option Addr) (n c : Nat) (j : Int) (h0 : 0 ≤ j) (hm : j ≤ n) (hc : n ≤ c) :
    ∀ W : World, (Instr.slice t (.slice A n c) none (some (.int kh j)) none).run P W = .ok (.slice A j.toNat c) W := by
  intro W
  have hel : P.elem t = e := by simp [Program.elem, ht]
  have hu : P.underlying t = some (.slice (P.elem t)) := by rw [hel]; exact ht
  have ha : (A.map fun x => x.add 0) = A := by cases A <;> simp [Addr.add]
  rw [run_slice_h W t A n c hu kh j h0 (by omega), hel]
  simp [sizeOf, typeInfo, hi, sliced, Result.andThen, ha]
end
def Qbu (w : World) (base : Nat) (e : TypeId) (size : Nat) (v : Value) (n : Nat) (xs : List Value) : Prop :=
  xs.length = n * size ∧
  ((n = 0 ∧ ∃ A, v = .slice A 0 0 ∧ ∀ a, A = some a → base ≤ a.block ∧ ∃ cur, w.heap[a.block]? = some (.cells cur e (0, 0))) ∨
   ∃ g off cap cur, v = .slice (some ⟨g, off * size, none⟩) n cap ∧ base ≤ g ∧ w.heap[g]? = some (.cells cur e (0, 0)) ∧ n ≤ cap ∧ off + cap ≤ maxLen ∧ cur.size = (off + cap) * size ∧ (cur.toList.drop (off * size)).take (n * size) = xs)
section
variable {w w1 : World} {base n size : Nat} {e : TypeId} {v : Value} {xs : List Value}
theorem Qhb (h : w.ownsRow base e size v n xs) : Qbu w base e size v n xs := by
  obtain ⟨h1, h2⟩ := h; refine ⟨h1, ?_⟩
  rcases h2 with ⟨rfl, h0⟩ | ⟨g, cap, cur, rfl, hb, hh, hnc, hcm, hcs, ht⟩
  · exact .inl ⟨h0, none, rfl, fun a ha => by cases ha⟩
  · exact .inr ⟨g, 0, cap, cur, by rw [Nat.zero_mul], hb, hh, hnc, by rw [Nat.zero_add]; exact hcm, by rw [Nat.zero_add]; exact hcs, by rw [Nat.zero_mul, List.drop_zero]; exact ht⟩
theorem Ke {g : Nat} : ∀ (vs : List Value) (o : Nat) {w : World} (k : Nat), k ≠ g → (w.setCells g o vs).heap[k]? = w.heap[k]?
  | [], _, _, _, _ => rfl
  | v :: r, o, w, k, hk => by
    rw [World.setCells, Ke r (o + 1) k hk]; exact Below.heap_setCell w ⟨g, o, none⟩ v k hk
theorem Kg (g : Nat) : ∀ (vs : List Value) (o : Nat) (w : World), (w.setCells g o vs).os = w.os ∧ (w.setCells g o vs).tape = w.tape ∧ (w.setCells g o vs).output = w.output ∧ (w.setCells g o vs).heap.size = w.heap.size
  | [], _, _ => ⟨rfl, rfl, rfl, rfl⟩
  | v :: r, o, w => by
    obtain ⟨h1, h2, h3, h4⟩ := Kg g r (o + 1) (w.setCell ⟨g, o, none⟩ v); rw [World.setCells]; exact ⟨h1, h2, h3, by rw [h4]; simp [World.setCell]⟩
theorem Ks {g : Nat} {e : TypeId} : ∀ (vs : List Value) (o : Nat) (w : World) (cur : Array Value), w.heap[g]? = some (.cells cur e (0, 0)) → o + vs.length ≤ cur.size →
    ∃ cur', (w.setCells g o vs).heap[g]? = some (.cells cur' e (0, 0)) ∧ cur'.size = cur.size ∧ cur'.toList = cur.toList.take o ++ vs ++ cur.toList.drop (o + vs.length)
  | [], o, w, cur, h, _ => ⟨cur, h, rfl, by simp⟩
  | v :: r, o, w, cur, h, hl => by
    have h2 := Jo h o v
    simp only [List.length_cons] at hl
    obtain ⟨cur', h3, h4, h5⟩ := Ks r (o + 1) (w.setCell ⟨g, o, none⟩ v) _ h2 (by simp; omega); refine ⟨cur', h3, by rw [h4]; simp, ?_⟩; rw [h5, Array.toList_setIfInBounds]
    have ho : o < cur.toList.length := by rw [Array.length_toList]; omega
    rw [List.take_set, List.drop_set_of_lt (by omega)]; simp only [List.length_cons]; rw [show o + 1 + r.length = o + (r.length + 1) by omega]
    congr 1
    rw [List.take_succ_eq_append_getElem ho, List.set_append_right _ _ (by rw [List.length_take]; omega)]
    have ho' : o < cur.size := by omega
    simp [Nat.min_eq_left (Nat.le_of_lt ho')]
end
namespace Kd
def Q {α : Type} (d : Kd α) (e : Nat) (w : World) (base : Nat) (ok : Nat → Prop) (v : Value) (xs : List α) : Prop :=
  (∀ k, v.ownBlock = some k → ok k) ∧ ∃ inner, Qbu w base e d.sz v xs.length inner ∧ Yi (d.M w base (fun k => ok k ∧ some k ≠ v.ownBlock)) d.sz xs inner
section
variable {α : Type} {d : Kd α} {e : Nat} {w w1 W : World} {base : Nat} {ok ok' : Nat → Prop} {v : Value} {xs : List α}
theorem Qpg (h : d.R e w base ok v xs) : d.Q e w base ok v xs := by
  obtain ⟨h0, inner, ho, hr⟩ := h; exact ⟨h0, inner, Qhb ho, hr⟩
theorem Q_nil (d : Kd α) (e : Nat) (w : World) (base : Nat) (ok : Nat → Prop) : d.Q e w base ok (.slice none 0 0) [] := Qpg (R_nil d e w base ok)
end
end Kd
namespace Kd
section
variable {α : Type} {d : Kd α} {e e' : Nat} {w w1 W : World} {base : Nat} {ok : Nat → Prop} {u v : Value} {xs : List α}
theorem R_typed (h : d.R e w base ok v xs) : ∀ k, v.ownBlock = some k → ∃ cells, w.heap[k]? = some (.cells cells e (0, 0)) := by
  obtain ⟨inner, ho⟩ := R_own h
  exact fun k hk => Qag ho k hk
theorem R_over' (h : d.R e W base ok u xs) (hty : ∀ k, v.ownBlock = some k → ∃ cells, W.heap[k]? = some (.cells cells e' (0, 0))) (ht : ∀ q, q ∈ e :: d.E → q ≠ e') (hg : W.grownBy w1 v.ownBlock) : d.R e w1 base ok u xs := by
  refine R_mono (Qcl (R_bound h) (fun k hk => hg.block k hk.2.2.1 (fun he => ?_))) (fun _ hk => hk.1); obtain ⟨_, _, _, q, hq, cells, hc⟩ := hk; obtain ⟨cells', hc'⟩ := hty k he.symm
  rw [hc] at hc'
  injection hc' with hc'
  injection hc' with _ hc'
  exact ht q hq hc'
theorem R_apart' (h : d.R e W base ok u xs) (hty : ∀ k, v.ownBlock = some k → ∃ cells, W.heap[k]? = some (.cells cells e' (0, 0))) (ht : ∀ q, q ∈ e :: d.E → q ≠ e') : d.R e W base (fun k => ok k ∧ some k ≠ v.ownBlock) u xs := by
  refine R_mono (R_bound h) (fun k hk => ⟨hk.1, fun he => ?_⟩); obtain ⟨_, _, _, q, hq, cells, hc⟩ := hk; obtain ⟨cells', hc'⟩ := hty k he.symm
  rw [hc] at hc'
  injection hc' with hc'
  injection hc' with _ hc'
  exact ht q hq hc'
theorem R_elder' (hu : d.R e W base ok u xs) (hbase : ∀ k, v.ownBlock = some k → W.heap.size ≤ k) (hb : Below W.heap.size W w1) : d.R e w1 base (fun k => ok k ∧ some k ≠ v.ownBlock) u xs :=
  R_mono (Qcl (R_bound hu) (fun k hk => hb.block k hk.2.2.1)) (fun k hk => ⟨hk.1, fun he => by have := hbase k he.symm; have := hk.2.2.1; omega⟩)
theorem R_new' (h : d.R e w1 W.heap.size ok v xs) (hlt : ∀ k, u.ownBlock = some k → k < W.heap.size) : d.R e w1 W.heap.size (fun k => ok k ∧ some k ≠ u.ownBlock) v xs :=
  R_mono (R_bound h) (fun k hk => ⟨hk.1, fun he => by have := hlt k he.symm; have := hk.2.1; omega⟩)
theorem fresh' (hlt : ∀ k, u.ownBlock = some k → k < W.heap.size) : ∀ k, W.heap.size ≤ k → some k ≠ u.ownBlock := fun k hk he => by have := hlt k he.symm; omega
end
end Kd
theorem Jy {α : Type} (a seg : List α) (o : Nat) (h : o + seg.length ≤ a.length) (q : Nat) :
    (a.take o ++ seg ++ a.drop (o + seg.length))[q]? = if q < o then a[q]? else if q < o + seg.length then seg[q - o]? else a[q]? := by
  have hl : (a.take o).length = o := by rw [List.length_take]; omega
  rw [List.append_assoc]
  by_cases h1 : q < o
  · rw [if_pos h1, List.getElem?_append_left (by omega), List.getElem?_take, if_pos h1]
  · rw [if_neg h1, List.getElem?_append_right (by omega), hl]
    by_cases h2 : q < o + seg.length
    · rw [if_pos h2, List.getElem?_append_left (by omega)]
    · rw [if_neg h2, List.getElem?_append_right (by omega), List.getElem?_drop]
      congr 1
      omega
namespace Kd
section
variable {α : Type} {d : Kd α} {e base g n cap : Nat} {ok okp : Nat → Prop} {W : World} {xs : List α}
theorem R_elem (h : d.R e W base ok (.slice (some ⟨g, 0, none⟩) n cap) xs) (z : α) (i : Int) (h0 : 0 ≤ i) (h1 : i < n) :
    ∃ c, c.length = d.sz ∧ d.M W base (fun k => ok k ∧ k ≠ g) (xs.getD i.toNat z) c ∧ (∀ j u, c[j]? = some u → W.cell? ⟨g, i.toNat * d.sz + j, none⟩ = some u) ∧ ∀ j, W.frozen? ⟨g, i.toNat * d.sz + j, none⟩ = false := by
  obtain ⟨hn, hnc, hC⟩ := R_reads' h; obtain ⟨_, inner, ho, hr⟩ := h
  have hil : i.toNat < xs.length := by omega
  have hseg : i.toNat * d.sz + d.sz ≤ inner.length := by rw [hr.1, ← Nat.succ_mul]; exact Nat.mul_le_mul_right _ hil
  have hM := hr.2 i.toNat _ (List.getElem?_eq_getElem hil); refine ⟨(inner.drop (i.toNat * d.sz)).take d.sz, by rw [List.length_take, List.length_drop]; omega, ?_, fun j u hu => ?_, fun j => ?_⟩
  · rw [List.getD_eq_getElem?_getD, List.getElem?_eq_getElem hil]
    exact d.M_mono (fun k hk => ⟨hk.1, fun he => hk.2 (by rw [he]; simp [Value.ownBlock])⟩) hM
  · rw [List.getElem?_take] at hu
    split at hu
    · rw [List.getElem?_drop] at hu
      have := ho.cells (g := g) (by simp [Value.ownBlock]) _ u hu
      rwa [Yf] at this
    · cases hu
  · obtain ⟨cells, hc⟩ := Qag ho g (by simp [Value.ownBlock])
    exact Qe hc _
theorem R_seg (h : d.R e W base ok (.slice (some ⟨g, 0, none⟩) n cap) xs) (i : Int) (h0 : 0 ≤ i) (h1 : i < n) {c seg : List Value} {j : Nat} (hcl : c.length = d.sz) (hcc : ∀ j u, c[j]? = some u → W.cell? ⟨g, i.toNat * d.sz + j, none⟩ = some u)
    (hj : j + seg.length ≤ d.sz) {x' : α} (hM : d.M W base okp x' (c.take j ++ seg ++ c.drop (j + seg.length))) (hokp : ∀ k, okp k → ok k ∧ k ≠ g) :
    d.R e (W.setCells g (i.toNat * d.sz + j) seg) base ok (.slice (some ⟨g, 0, none⟩) n cap) (xs.set i.toNat x') ∧ W.grownBy (W.setCells g (i.toNat * d.sz + j) seg) (some g) := by
  obtain ⟨hn, hnc, _⟩ := R_reads' h; obtain ⟨hok, inner, ho, hr⟩ := h
  have hil : i.toNat < xs.length := by omega
  have hseg : i.toNat * d.sz + d.sz ≤ inner.length := by rw [hr.1, ← Nat.succ_mul]; exact Nat.mul_le_mul_right _ hil
  have hin : inner.length = n * d.sz := by rw [hr.1, hn]
  obtain ⟨ho1, ho2⟩ := ho
  rcases ho2 with ⟨hv, _⟩ | ⟨g', cap', cur, hv, hb, hh, hnc', hcm, hcs, ht⟩
  · cases hv
  injection hv with ha _ hc
  injection ha with ha
  injection ha with hg
  subst hg; subst hc
  have hfit : i.toNat * d.sz + j + seg.length ≤ cur.size := by
    have : n * d.sz ≤ cap * d.sz := Nat.mul_le_mul_right _ hnc
    omega
  obtain ⟨cur', h3, h4, h5⟩ := Ks seg (i.toNat * d.sz + j) W cur hh hfit; obtain ⟨s1, s2, s3, s4⟩ := Kg g seg (i.toNat * d.sz + j) W
  have hfar : ∀ k, k ≠ g → (W.setCells g (i.toNat * d.sz + j) seg).heap[k]? = W.heap[k]? := fun k hk => Ke seg _ k hk
  -- the element's cells before are what was read
  have hcin : ∀ q, q < d.sz → c[q]? = inner[i.toNat * d.sz + q]? := by
    intro q hq
    have hq' : q < c.length := by omega
    have h6 := hcc q _ (List.getElem?_eq_getElem hq')
    rw [cell_of_row W g _ cur e (0, 0) hh] at h6
    rw [List.getElem?_eq_getElem hq', ← h6, ← ht, List.getElem?_take, if_pos (by rw [← hn]; omega), Array.getElem?_toList]
  refine ⟨⟨hok, inner.take (i.toNat * d.sz + j) ++ seg ++ inner.drop (i.toNat * d.sz + j + seg.length), ⟨?_, .inr ⟨g, cap, cur', by rw [List.length_set, hn], hb, h3, by rw [List.length_set, ← hn]; exact hnc, hcm, by rw [h4, hcs], ?_⟩⟩, ?_⟩,
    ⟨s1, s2, s3, by rw [s4]; exact Nat.le_refl _, fun k _ hk => hfar k (fun he => hk (by rw [he]))⟩⟩
  · rw [List.length_set]
    simp only [List.length_append, List.length_take, List.length_drop]
    rw [hr.1] at hseg ⊢
    omega
  · rw [List.length_set, ← hn]
    apply List.ext_getElem?
    intro q; rw [List.getElem?_take, h5]; rw [Jy cur.toList seg (i.toNat * d.sz + j) (by rw [Array.length_toList]; omega) q, Jy inner seg (i.toNat * d.sz + j) (by omega) q]
    have hcur : ∀ q, q < n * d.sz → cur.toList[q]? = inner[q]? := by
      intro q hq; rw [← ht, List.getElem?_take, if_pos (by rw [← hn]; exact hq)]
    by_cases hq : q < n * d.sz
    · rw [if_pos hq, hcur q hq]
    · rw [if_neg hq, if_neg (by omega), if_neg (by omega), List.getElem?_eq_none (by omega)]
  · refine ⟨?_, fun m p hm => ?_⟩
    · rw [List.length_set]
      simp only [List.length_append, List.length_take, List.length_drop]
      rw [hr.1] at hseg ⊢
      omega
    · have hml : m < xs.length := by
        have := (List.getElem?_eq_some_iff.1 hm).1
        rwa [List.length_set] at this
      have hmfit : m * d.sz + d.sz ≤ inner.length := by rw [hr.1, ← Nat.succ_mul]; exact Nat.mul_le_mul_right _ hml
      have hgo : some g = (Value.slice (some ⟨g, 0, none⟩) n cap).ownBlock := by simp [Value.ownBlock]
      by_cases hmi : m = i.toNat
      · subst hmi
        rw [List.getElem?_set_self (by omega)] at hm
        injection hm with hm
        subst hm
        have hcells : ((inner.take (i.toNat * d.sz + j) ++ seg ++ inner.drop (i.toNat * d.sz + j + seg.length)).drop (i.toNat * d.sz)).take d.sz = c.take j ++ seg ++ c.drop (j + seg.length) := by
          apply List.ext_getElem?
          intro q; rw [List.getElem?_take, List.getElem?_drop, Jy inner seg _ (by omega), Jy c seg j (by omega) q]
          by_cases hq : q < d.sz
          · rw [if_pos hq, hcin q hq]
            by_cases hq1 : q < j
            · rw [if_pos (by omega), if_pos hq1]
            · rw [if_neg (by omega), if_neg hq1]
              by_cases hq2 : q < j + seg.length
              · rw [if_pos (by omega), if_pos hq2]
                congr 1
                omega
              · rw [if_neg (by omega), if_neg hq2]
          · rw [if_neg hq, if_neg (by omega), if_neg (by omega), List.getElem?_eq_none (by omega)]
        rw [hcells]; refine d.M_mono (fun k hk => ?_) (d.M_move (w1 := W.setCells g (i.toNat * d.sz + j) seg) (fun k hk => hfar k (hokp k hk).2) hM); exact ⟨(hokp k hk).1, fun he => (hokp k hk).2 (by rw [← hgo] at he; injection he)⟩
      · rw [List.getElem?_set_ne (by omega)] at hm
        have hold := hr.2 m p hm
        have hcells : ((inner.take (i.toNat * d.sz + j) ++ seg ++ inner.drop (i.toNat * d.sz + j + seg.length)).drop (m * d.sz)).take d.sz = (inner.drop (m * d.sz)).take d.sz := by
          apply List.ext_getElem?
          intro q; rw [List.getElem?_take, List.getElem?_take, List.getElem?_drop, List.getElem?_drop, Jy inner seg _ (by omega)]
          by_cases hq : q < d.sz
          · rw [if_pos hq, if_pos hq]
            rcases Nat.lt_or_gt_of_ne hmi with hlt | hgt
            · have : m * d.sz + d.sz ≤ i.toNat * d.sz := by rw [← Nat.succ_mul]; exact Nat.mul_le_mul_right _ hlt
              rw [if_pos (by omega)]
            · have : i.toNat * d.sz + d.sz ≤ m * d.sz := by rw [← Nat.succ_mul]; exact Nat.mul_le_mul_right _ hgt
              rw [if_neg (by omega), if_neg (by omega)]
          · rw [if_neg hq, if_neg hq]
        rw [hcells]; refine d.M_move (fun k hk => hfar k (fun he => hk.2 (by rw [he]; exact hgo))) hold
end
end Kd
namespace Kd
end Kd
namespace Kd
theorem Qbo {α : Type} {R : α → List Value → Prop} {size : Nat} {ps qs : List α} {cs ds : List Value} (h : Yi R size ps cs) (h' : Yi R size qs ds) : Yi R size (ps ++ qs) (cs ++ ds) := by
  refine ⟨by rw [List.length_append, List.length_append, h.1, h'.1, Nat.add_mul], fun j p hj => ?_⟩
  rcases Nat.lt_or_ge j ps.length with hlt | hge
  · rw [List.getElem?_append_left hlt] at hj
    have hle : j * size + size ≤ cs.length := by rw [h.1, ← Nat.succ_mul]; exact Nat.mul_le_mul_right _ hlt
    rw [List.drop_append_of_le_length (by omega), List.take_append_of_le_length (by rw [List.length_drop]; omega)]; exact h.2 j p hj
  · rw [List.getElem?_append_right hge] at hj
    have h2 := h'.2 (j - ps.length) p hj; have hle : ps.length * size ≤ j * size := Nat.mul_le_mul_right _ hge; rw [List.drop_append, List.drop_eq_nil_of_le (by rw [h.1]; exact hle), List.nil_append, h.1, ← Nat.sub_mul]; exact h2
section
variable {P : Program} {ops : Array Oper} {rest : List Oper} {o : Oper} {a : Act} {Q : Exit → Act → World → Prop} {α : Type}
theorem R_append_rows (d : Kd α) {Rr : α → List Value → Prop} {w0 W : World} (base : Nat) (hgd : o.guard = none) (s x : Operand) (t e : TypeId) (z : Value) (bytes : Nat)
    (ho : o.op = .call { callee := .builtin .append, args := #[s, x], argTypes := #[t, t] })
    (ht : P.underlying t = some (.slice e)) (hinfo : (P.info? e).map (fun i => (i.zero, i.size, i.bytes)) = some (some z, d.sz, bytes)) (hz : z.cells.size = d.sz) (hs0 : 0 < d.sz) (hb0 : 0 < bytes)
    (v : Value) (xs ys : List α) (A : Option Addr) (m c : Nat) (ok okp : Nat → Prop) (hs : a.eval s = v) (hx : a.eval x = .slice A m c)
    (HO : d.R e W base ok v xs) (HR : Ua Rr d.sz W A m ys) (hKM : ∀ x cs, Rr x cs → d.M W base okp x cs) (hokp : ∀ k, okp k → ok k ∧ some k ≠ v.ownBlock) (hfresh : ∀ k, W.heap.size ≤ k → ok k)
    (HB : Below base w0 W) (hbase : base ≤ W.heap.size) (hl : (xs.length + m) * bytes ≤ 140737488355328)
    (h : ∀ v1 w1, d.R e w1 base ok v1 (xs ++ ys) → Below base w0 w1 → W.grownBy w1 v.ownBlock → (v1.ownBlock = v.ownBlock ∨ ∃ b, v1.ownBlock = some b ∧ W.heap.size ≤ b) → wpList P ops Q rest (a.put o.dst v1) w1) :
    wpList P ops Q (o :: rest) a W := by
  obtain ⟨i0, hi, hzz⟩ := Option.map_eq_some_iff.1 hinfo
  simp only [Prod.mk.injEq] at hzz
  obtain ⟨hz0, hz1, hz2⟩ := hzz; have hm : ys.length = m := HR.1; have hlen : xs.length + m ≤ 140737488355328 := Nat.le_trans (Nat.le_mul_of_pos_right _ hb0) hl; obtain ⟨hok, inner, hown, hr⟩ := HO
  have hrun : ∃ v1 w1, (Builtin.append_ #[t, t] o.type #[v, .slice A m c]).run P W = .ok v1 w1 ∧ d.R e w1 base ok v1 (xs ++ ys) ∧ W.grownBy w1 v.ownBlock ∧ (v1.ownBlock = v.ownBlock ∨ ∃ b, v1.ownBlock = some b ∧ W.heap.size ≤ b) := by
    rcases A with _ | ad
    · have h0 : m = 0 := by
        rcases Nat.eq_zero_or_pos m with h0 | h0
        · exact h0
        · obtain ⟨ad, h, _⟩ := HR.2.2 h0
          cases h
      subst h0; obtain rfl : ys = [] := List.eq_nil_of_length_eq_zero hm; refine ⟨v, W, ?_, by rw [List.append_nil]; exact ⟨hok, inner, hown, hr⟩, World.grownBy.refl W _, .inl rfl⟩
      rcases hown.2 with ⟨rfl, hn⟩ | ⟨g, cap, cur, rfl, _, _, hnc, _⟩
      · simp [Builtin.append_, run_underlying ht, sizeOf, typeInfo, hi, Builtin.lenOf, Builtin.firstCells]
      · simp [Builtin.append_, run_underlying ht, sizeOf, typeInfo, hi, Builtin.lenOf, Builtin.firstCells, hnc, storeCells]
    · obtain ⟨news, hnr, hnc⟩ := Ua.inner_ HR
      have hnM : Yi (d.M W base okp) d.sz ys news := hnr.imp_ (fun p c hp => hKM p c hp)
      have hone : ∀ u ∈ news, u.oneCell' = true := by
        intro u hu; obtain ⟨q, hq, rfl⟩ := List.mem_iff_getElem.1 hu
        have hql : q / d.sz < ys.length := by
          rw [Nat.div_lt_iff_lt_mul hs0]; rw [← hnM.1]; exact hq
        have hc := hnM.2 (q / d.sz) _ (List.getElem?_eq_getElem hql); refine d.K_one (d.K_of_M hc) _ ?_; rw [List.mem_iff_getElem?]; refine ⟨q % d.sz, ?_⟩; rw [List.getElem?_take, if_pos (Nat.mod_lt _ hs0), List.getElem?_drop, Nat.mul_comm, Nat.div_add_mod, List.getElem?_eq_getElem hq]
      obtain ⟨v1, w1, hrun, h2, hg, _, hat⟩ := run_append_own_at (P := P) W base t o.type e i0 z d.sz bytes ht hi hz0 hz1 hz2 hz hs0 v xs.length inner hown ad m c news (by rw [hnM.1, hm]) hnc hone (by simp only [maxLen]; omega) hl hbase
      have hat' : v1.ownBlock = v.ownBlock ∨ ∃ b, v1.ownBlock = some b ∧ W.heap.size ≤ b := by
        rcases hat with hat | hat
        · exact .inl hat
        · exact .inr ⟨_, hat, Nat.le_refl _⟩
      have hne : ∀ k, some k ≠ v.ownBlock → k < W.heap.size → some k ≠ v1.ownBlock := by
        intro k hk hlt
        rcases hat' with hat | ⟨b, hb, hle⟩
        · rw [hat]; exact hk
        · rw [hb]
          intro he
          injection he with he
          omega
      have step : ∀ {q : α} {c : List Value} {o : Nat → Prop}, d.M W base o q c → (∀ k, o k → ok k ∧ some k ≠ v.ownBlock) → d.M w1 base (fun k => ok k ∧ some k ≠ v1.ownBlock) q c := by
        intro q c o hq ho; have h1 := d.M_move (w1 := w1) (fun k hk => hg.block k hk.2.2.1 (ho k hk.1).2) (d.M_bound hq); exact d.M_mono (fun k hk => ⟨(ho k hk.1).1, hne k (ho k hk.1).2 hk.2.2.1⟩) h1
      refine ⟨v1, w1, hrun, ⟨fun k hk => ?_, inner ++ news, by rw [List.length_append, hm]; exact h2, Qbo (hr.imp_ (fun _ _ hq => step hq (fun _ hk => hk))) (hnM.imp_ (fun _ _ hq => step hq hokp))⟩, hg, hat'⟩
      rcases hat' with hat | ⟨b, hb, hle⟩
      · exact hok k (hat ▸ hk)
      · rw [hb] at hk
        injection hk with hk
        exact hfresh k (by omega)
  obtain ⟨v1, w1, hr1, h1, hg, hat⟩ := hrun
  refine wpList_plain hgd fun K hK => ?_
  unfold Oper.wp execOp; simp only [ho, resolve, invoke, builtin, Sem.run_bind, Sem.run_pure, Result.andThen_ok, List.map_toArray, List.map_cons, List.map_nil, hs, hx, hr1]; exact hK _ _ (h v1 w1 h1 (HB.grown hg hbase (Kb hown)) hg hat)
end
end Kd
namespace Kd
end Kd
theorem add_add (a : Addr) (i j : Nat) : (a.add i).add j = a.add (i + j) := by
  unfold Addr.add
  by_cases h1 : i = 0 <;> by_cases h2 : j = 0 <;> simp [h1, h2, Nat.add_assoc]
namespace Kd
section
variable {α : Type} {k : Kd α} {w : World} {A : Option Addr} {xs : List α} {m c : Nat}
theorem C_take (h : k.C w A xs.length xs) (hm : m ≤ xs.length) : k.C w A (xs.take m).length (xs.take m) := by
  have hl : (xs.take m).length = m := by rw [List.length_take]; omega
  refine ⟨rfl, by rw [hl]; have := h.2.1; omega, fun hp => ?_⟩; obtain ⟨ad, e, hc⟩ := h.2.2 (by omega); refine ⟨ad, e, fun j p hj => hc j p ?_⟩
  rw [List.getElem?_take] at hj
  split at hj
  · exact hj
  · cases hj
theorem C_drop (h : k.C w A xs.length xs) (hm : m ≤ xs.length) (hc : xs.length ≤ c) : k.C w (if c = m then A else A.map (·.add (m * k.sz))) (xs.drop m).length (xs.drop m) := by
  have hl : (xs.drop m).length = xs.length - m := List.length_drop; refine ⟨rfl, by rw [hl]; have := h.2.1; omega, fun hp => ?_⟩
  rw [hl] at hp
  obtain ⟨ad, rfl, hcell⟩ := h.2.2 (by omega); rw [if_neg (by omega)]; refine ⟨ad.add (m * k.sz), rfl, fun j p hj => ?_⟩
  rw [List.getElem?_drop] at hj
  obtain ⟨cs, h1, h2, h3⟩ := hcell (m + j) p hj; refine ⟨cs, h1, h2, fun i u hu => ?_⟩; rw [add_add, show m * k.sz + (j * k.sz + i) = (m + j) * k.sz + i by rw [Nat.add_mul]; omega]; exact h3 i u hu
theorem C_mid {lo hi : Nat} (h : k.C w A xs.length xs) (h1 : lo ≤ hi) (h2 : hi ≤ xs.length) (hc : xs.length ≤ c) : k.C w (if c = lo then A else A.map (·.add (lo * k.sz))) ((xs.take hi).drop lo).length ((xs.take hi).drop lo) := by
  have hl : (xs.take hi).length = hi := by rw [List.length_take]; omega
  exact C_drop (C_take h h2) (by omega) (by omega)
end
end Kd
section
variable {P : Program}
theorem Qil (t e : TypeId) (kl kh : IntKind) {i : TypeInfo} (ht : P.underlying t = some (.slice e)) (hi : P.info? e = some i) (size : Nat) (hsz : i.size = size) (A : Option Addr) (n c : Nat) (lo hi' : Int) (h0 : 0 ≤ lo) (h1 : lo ≤ hi') (h2 : hi' ≤ n) (hc : n ≤ c) :
    ∀ W : World, (Instr.slice t (.slice A n c) (some (.int kl lo)) (some (.int kh hi')) none).run P W = .ok (.slice (if c = lo.toNat then A else A.map (·.add (lo.toNat * size))) (hi'.toNat - lo.toNat) (c - lo.toNat)) W := by
  intro W
  have hel : P.elem t = e := by simp [Program.elem, ht]
  have hu : P.underlying t = some (.slice (P.elem t)) := by rw [hel]; exact ht
  rw [run_slice_lh W t A n c hu kl kh lo hi' h0 h1 (by omega), hel]
  simp [sizeOf, typeInfo, hi, hsz, sliced, Result.andThen]
end
theorem Qo {w W : World} (h : Below w.heap.size w W) : w.heap.size ≤ W.heap.size := h.size
theorem Qj {w W w2 : World} (h : Below w.heap.size w W) (k : Below W.heap.size W w2) : Below w.heap.size w w2 := Js h h.size k
theorem Yq.nil (W : World) (k : IntKind) : Yq W k none ([] : List Int).length [] := ⟨rfl, by simp, fun h => absurd h (Nat.lt_irrefl 0)⟩
theorem Yq.drewN {W : World} {k : IntKind} {A : Option Addr} {n : Nat} {xs : List Int} (h : Yq W k A n xs) (m : Nat) : Yq (W.drewN m) k A n xs := h
theorem Qr {w W : World} {g j : Nat} {v : Value} (h : Below w.heap.size w W) (hg : w.heap.size ≤ g) : Below w.heap.size w (W.setCell ⟨g, j, none⟩ v) := h.setCell hg _
theorem Qeu {w W : World} {g : Nat} (h : Xd w W g none) {a : Addr} {v : Value} (hc : w.cell? a = some v) (hne : a.block ≠ g) : W.cell? a = some v := by
  have := h.2 a.block (World.block_lt_of_cell? w a hc) hne (by simp)
  simpa [World.cell?, this] using hc
theorem Zf (a : Addr) (i : Nat) : (a.add i).block = a.block := by unfold Addr.add; split <;> rfl
theorem Yz.nil {α : Type} (enc : α → Value) (d : α) (W : World) : Yz enc d W none ([] : List α).length [] := ⟨rfl, by simp, fun h => absurd h (Nat.lt_irrefl 0)⟩
theorem Yz.drewN {α : Type} {enc : α → Value} {d : α} {W : World} {A : Option Addr} {n : Nat} {xs : List α} (h : Yz enc d W A n xs) (m : Nat) : Yz enc d (W.drewN m) A n xs := h
theorem Yq.keep {w W : World} {k : IntKind} {A : Option Addr} {n g : Nat} {xs : List Int} (h : Yq w k A n xs) (hk : Xd w W g none) (hf : ∀ ad, A = some ad → 0 < n → ad.block ≠ g) : Yq W k A n xs :=
  ⟨h.1, h.2.1, fun hn => by
    obtain ⟨ad, e, hc⟩ := h.2.2 hn
    exact ⟨ad, e, fun j hj => Qeu hk (hc j hj) (by rw [Zf]; exact hf ad e hn)⟩⟩
theorem Yz.keep {α : Type} {enc : α → Value} {d : α} {w W : World} {A : Option Addr} {n g : Nat} {xs : List α} (h : Yz enc d w A n xs) (hk : Xd w W g none) (hf : ∀ ad, A = some ad → 0 < n → ad.block ≠ g) : Yz enc d W A n xs :=
  ⟨h.1, h.2.1, fun hn => by
    obtain ⟨ad, e, hc⟩ := h.2.2 hn
    exact ⟨ad, e, fun j hj => Qeu hk (hc j hj) (by rw [Zf]; exact hf ad e hn)⟩⟩
theorem Ze {W : World} {p a : Addr} (h : a.block ≠ p.block) (u : Value) : (W.setCell p u).cell? a = W.cell? a := by
  have := Below.heap_setCell W p u a.block h
  simp [World.cell?, this]
theorem Za {w : World} {g : Nat} {t : TypeId} {cs cs' : Array Value} (h : w.heap[g]? = some (.cells cs t (0, 0))) (i : Nat) (u : Value) (e : cs.setIfInBounds i u = cs') : (w.setCell ⟨g, i, none⟩ u).heap[g]? = some (.cells cs' t (0, 0)) := e ▸ Jo h i u
theorem Qi {base : Nat} {w W : World} (h : Below base w W) : Below base w W.drew := h.drew
namespace Kd
end Kd
namespace Kd
section
variable {α : Type} {d : Kd α} {e base g : Nat} {ok : Nat → Prop} {w w1 : World} {v : Value} {xs : List α} {o : Obj}
theorem R_elderB (h : d.R e w base ok v xs) (a : Nat) (ha : w.heap.size ≤ a) : d.R e w base (fun k => ok k ∧ k ≠ a) v xs := R_mono (R_bound h) (fun k hk => ⟨hk.1, by have := hk.2.2.1; omega⟩)
theorem freshB (hb : w.heap[g]? = some o) : ∀ k, w.heap.size ≤ k → k ≠ g := fun k hk => by have := Zu hb; omega
end
end Kd
section
variable {P : Program} {ops : Array Oper} {rest : List Oper} {o : Oper} {a : Act} {Q : Exit → Act → World → Prop}
theorem Zc {W : World} (hgd : o.guard = none) {N : Tmp} (_hd : o.dst = some N) {cs : Array Value} {t : TypeId}
    (hrun : (execOp a.eval o).run P W = .ok (.value (.pointer (some ⟨W.heap.size, 0, none⟩))) (W.alloc (.cells cs t (0, 0))))
    (h : ∀ g, g = W.heap.size → ∀ w1, w1.heap[g]? = some (.cells cs t (0, 0)) → Below W.heap.size W w1 → wpList P ops Q rest (a.put o.dst (.pointer (some ⟨g, 0, none⟩))) w1) : wpList P ops Q (o :: rest) a W :=
  Kd.event_run hgd hrun (h _ rfl _ (Vg W _) (Qh (Below.refl _ _) _))
end
namespace Kd
section
variable {α : Type} {enc : α → Value} {h1 : ∀ x, (enc x).oneCell' = true} {e base g n cap : Nat} {ok : Nat → Prop} {W : World} {xs : List α}
theorem R_celln (d : α) (h : (scalar enc h1).R e W base ok (.slice (some ⟨g, 0, none⟩) n cap) xs) (i : Int) (h0 : 0 ≤ i) (hi : i < n) : W.cell? ⟨g, i.toNat, none⟩ = some (enc (Ye d xs i)) ∧ W.frozen? ⟨g, i.toNat, none⟩ = false := by
  obtain ⟨rfl, _⟩ := R_reads' h; exact R_cell d h i h0 hi
theorem R_putn (h : (scalar enc h1).R e W base ok (.slice (some ⟨g, 0, none⟩) n cap) xs) (i : Int) (x : α) : (scalar enc h1).R e (W.setCell ⟨g, i.toNat, none⟩ (enc x)) base ok (.slice (some ⟨g, 0, none⟩) n cap) (xs.set i.toNat x) := by
  obtain ⟨rfl, _⟩ := R_reads' h; exact (R_put h i x).1
end
end Kd
section
variable {P : Program} {ops : Array Oper} {rest : List Oper} {o : Oper} {a : Act} {Q : Exit → Act → World → Prop}
theorem Qao {W w1 : World} (hgd : o.guard = none) {t : TypeId} {p : Tmp} {v : Operand} (_ho : o.op = .store t (.tmp p) v) (hN : o.dst = none)
    (hrun : (execOp a.eval o).run P W = .ok .skip w1) (h : ∀ w', w' = w1 → wpList P ops Q rest a w') : wpList P ops Q (o :: rest) a W := by
  refine wpList_plain hgd fun K hK => ?_
  unfold Oper.wp; rw [hrun]
  show K (a.put o.dst undef) w1
  rw [hN]; exact hK _ _ (h _ rfl)
end
namespace Kd
section
variable {α : Type} {enc : α → Value} {h1 : ∀ x, (enc x).oneCell' = true} {e base g n cap : Nat} {ok : Nat → Prop} {W : World} {xs : List α}
theorem R_putg (h : (scalar enc h1).R e W base ok (.slice (some ⟨g, 0, none⟩) n cap) xs) (i : Int) (x : α) : (scalar enc h1).R e (W.setCell ⟨g, i.toNat, none⟩ (enc x)) base ok (.slice (some ⟨g, 0, none⟩) n cap) (xs.set i.toNat x) ∧ W.grownBy (W.setCell ⟨g, i.toNat, none⟩ (enc x)) (some g) := by
  obtain ⟨rfl, _⟩ := R_reads' h; exact R_put h i x
end
end Kd
section
variable {P : Program} {ops : Array Oper} {rest : List Oper} {o : Oper} {a : Act} {Q : Exit → Act → World → Prop} {W : World}
theorem Zd {N : Tmp} (_hN : o.dst = some N) (h : wpList P ops Q (o :: rest) a W) : wpList P ops Q (o :: rest) a W := h
theorem Qax {t : TypeId} {p : Tmp} {v : Operand} (_ho : o.op = .store t (.tmp p) v) (h : wpList P ops Q (o :: rest) a W) : wpList P ops Q (o :: rest) a W := h
end
section
variable {P : Program} {ops : Array Oper} {o : Oper} {a : Act} {Q : Exit → Act → World → Prop} {Kc : Act → World → Prop}
theorem Qgm {W w1 : World} {v : Value} (hw : Region.wanted o (yielded ops a.tmps) = true) (hrun : (execOp a.eval o).run P W = .ok (.value v) w1) (h : Kc (a.put o.dst v) w1) : if Region.wanted o (yielded ops a.tmps) = true then Oper.wp P o a W Kc Q else Kc (a.put o.dst undef) W := by
  rw [if_pos hw]; unfold Oper.wp; rw [hrun]; exact h
namespace Kd
variable {α : Type}
theorem R_lit_step (d : Kd α) {w0 W : World} (base e : Nat) (hw : Region.wanted o (yielded ops a.tmps) = true) {N : Tmp} (_hd : o.dst = some N) {xs : List α} {inner : List Value} {ok okp : Nat → Prop}
    (hrun : (execOp a.eval o).run P W = .ok (.value (.slice (some ⟨W.heap.size, 0, none⟩) xs.length xs.length)) (W.alloc (.cells inner.toArray e)))
    (hrep : Yi (d.M W base okp) d.sz xs inner) (hok : ∀ k, okp k → ok k) (hfresh : ok W.heap.size) (HB : Below base w0 W) (hbase : base ≤ W.heap.size) (hm : xs.length ≤ 9223372036854775807)
    (h : ∀ v1 w1, d.R e w1 base ok v1 xs → Below base w0 w1 → W.grownBy w1 none → (∃ b, v1.ownBlock = some b ∧ W.heap.size ≤ b) → Kc (a.put o.dst v1) w1) : if Region.wanted o (yielded ops a.tmps) = true then Oper.wp P o a W Kc Q else Kc (a.put o.dst undef) W := by
  refine Qgm hw hrun (h _ _ ⟨fun k hk => ?_, inner, ?_, ?_⟩ (HB.alloc hbase _) (World.grownBy_alloc W _ none) ⟨W.heap.size, by simp [Value.ownBlock], Nat.le_refl _⟩)
  · have : W.heap.size = k := by simpa [Value.ownBlock] using hk
    subst this; exact hfresh
  · have h2 := World.ownsRow_lit (base := base) (e := e) (size := d.sz) W inner.toArray xs.length hbase (by simpa [maxLen] using hm) (by simpa using hrep.1)
    simpa using h2
  · refine hrep.imp_ (fun p c hp => d.M_mono (fun k hk => ⟨hok k hk.1, fun he => ?_⟩) (Qfr (d.M_bound hp) (Qh (Below.refl _ _) _)))
    have h3 : k = W.heap.size := by simpa [Value.ownBlock] using he
    have := hk.2.2.1
    omega
theorem R_append_rows_step (d : Kd α) {Rr : α → List Value → Prop} {w0 W : World} (base : Nat) (hw : Region.wanted o (yielded ops a.tmps) = true) (s x : Operand) (t e : TypeId) (z : Value) (bytes : Nat)
    (ho : o.op = .call { callee := .builtin .append, args := #[s, x], argTypes := #[t, t] })
    (ht : P.underlying t = some (.slice e)) (hinfo : (P.info? e).map (fun i => (i.zero, i.size, i.bytes)) = some (some z, d.sz, bytes)) (hz : z.cells.size = d.sz) (hs0 : 0 < d.sz) (hb0 : 0 < bytes)
    (v : Value) (xs ys : List α) (A : Option Addr) (m c : Nat) (ok okp : Nat → Prop) (hs : a.eval s = v) (hx : a.eval x = .slice A m c)
    (HO : d.R e W base ok v xs) (HR : Ua Rr d.sz W A m ys) (hKM : ∀ x cs, Rr x cs → d.M W base okp x cs) (hokp : ∀ k, okp k → ok k ∧ some k ≠ v.ownBlock) (hfresh : ∀ k, W.heap.size ≤ k → ok k)
    (HB : Below base w0 W) (hbase : base ≤ W.heap.size) (hl : (xs.length + m) * bytes ≤ 140737488355328)
    (h : ∀ v1 w1, d.R e w1 base ok v1 (xs ++ ys) → Below base w0 w1 → W.grownBy w1 v.ownBlock → (v1.ownBlock = v.ownBlock ∨ ∃ b, v1.ownBlock = some b ∧ W.heap.size ≤ b) → Kc (a.put o.dst v1) w1) :
    if Region.wanted o (yielded ops a.tmps) = true then Oper.wp P o a W Kc Q else Kc (a.put o.dst undef) W := by
  obtain ⟨i0, hi, hzz⟩ := Option.map_eq_some_iff.1 hinfo
  simp only [Prod.mk.injEq] at hzz
  obtain ⟨hz0, hz1, hz2⟩ := hzz; have hm : ys.length = m := HR.1; have hlen : xs.length + m ≤ 140737488355328 := Nat.le_trans (Nat.le_mul_of_pos_right _ hb0) hl; obtain ⟨hok, inner, hown, hr⟩ := HO
  have hrun : ∃ v1 w1, (Builtin.append_ #[t, t] o.type #[v, .slice A m c]).run P W = .ok v1 w1 ∧ d.R e w1 base ok v1 (xs ++ ys) ∧ W.grownBy w1 v.ownBlock ∧ (v1.ownBlock = v.ownBlock ∨ ∃ b, v1.ownBlock = some b ∧ W.heap.size ≤ b) := by
    rcases A with _ | ad
    · have h0 : m = 0 := by
        rcases Nat.eq_zero_or_pos m with h0 | h0
        · exact h0
        · obtain ⟨ad, h, _⟩ := HR.2.2 h0
          cases h
      subst h0; obtain rfl : ys = [] := List.eq_nil_of_length_eq_zero hm; refine ⟨v, W, ?_, by rw [List.append_nil]; exact ⟨hok, inner, hown, hr⟩, World.grownBy.refl W _, .inl rfl⟩
      rcases hown.2 with ⟨rfl, hn⟩ | ⟨g, cap, cur, rfl, _, _, hnc, _⟩
      · simp [Builtin.append_, run_underlying ht, sizeOf, typeInfo, hi, Builtin.lenOf, Builtin.firstCells]
      · simp [Builtin.append_, run_underlying ht, sizeOf, typeInfo, hi, Builtin.lenOf, Builtin.firstCells, hnc, storeCells]
    · obtain ⟨news, hnr, hnc⟩ := Ua.inner_ HR
      have hnM : Yi (d.M W base okp) d.sz ys news := hnr.imp_ (fun p c hp => hKM p c hp)
      have hone : ∀ u ∈ news, u.oneCell' = true := by
        intro u hu; obtain ⟨q, hq, rfl⟩ := List.mem_iff_getElem.1 hu
        have hql : q / d.sz < ys.length := by
          rw [Nat.div_lt_iff_lt_mul hs0]; rw [← hnM.1]; exact hq
        have hc := hnM.2 (q / d.sz) _ (List.getElem?_eq_getElem hql); refine d.K_one (d.K_of_M hc) _ ?_; rw [List.mem_iff_getElem?]; refine ⟨q % d.sz, ?_⟩; rw [List.getElem?_take, if_pos (Nat.mod_lt _ hs0), List.getElem?_drop, Nat.mul_comm, Nat.div_add_mod, List.getElem?_eq_getElem hq]
      obtain ⟨v1, w1, hrun, h2, hg, _, hat⟩ := run_append_own_at (P := P) W base t o.type e i0 z d.sz bytes ht hi hz0 hz1 hz2 hz hs0 v xs.length inner hown ad m c news (by rw [hnM.1, hm]) hnc hone (by simp only [maxLen]; omega) hl hbase
      have hat' : v1.ownBlock = v.ownBlock ∨ ∃ b, v1.ownBlock = some b ∧ W.heap.size ≤ b := by
        rcases hat with hat | hat
        · exact .inl hat
        · exact .inr ⟨_, hat, Nat.le_refl _⟩
      have hne : ∀ k, some k ≠ v.ownBlock → k < W.heap.size → some k ≠ v1.ownBlock := by
        intro k hk hlt
        rcases hat' with hat | ⟨b, hb, hle⟩
        · rw [hat]; exact hk
        · rw [hb]
          intro he
          injection he with he
          omega
      have step : ∀ {q : α} {c : List Value} {o : Nat → Prop}, d.M W base o q c → (∀ k, o k → ok k ∧ some k ≠ v.ownBlock) → d.M w1 base (fun k => ok k ∧ some k ≠ v1.ownBlock) q c := by
        intro q c o hq ho; have h1 := d.M_move (w1 := w1) (fun k hk => hg.block k hk.2.2.1 (ho k hk.1).2) (d.M_bound hq); exact d.M_mono (fun k hk => ⟨(ho k hk.1).1, hne k (ho k hk.1).2 hk.2.2.1⟩) h1
      refine ⟨v1, w1, hrun, ⟨fun k hk => ?_, inner ++ news, by rw [List.length_append, hm]; exact h2, Qbo (hr.imp_ (fun _ _ hq => step hq (fun _ hk => hk))) (hnM.imp_ (fun _ _ hq => step hq hokp))⟩, hg, hat'⟩
      rcases hat' with hat | ⟨b, hb, hle⟩
      · exact hok k (hat ▸ hk)
      · rw [hb] at hk
        injection hk with hk
        exact hfresh k (by omega)
  obtain ⟨v1, w1, hr1, h1, hg, hat⟩ := hrun; rw [if_pos hw]; unfold Oper.wp execOp; simp only [ho, resolve, invoke, builtin, Sem.run_bind, Sem.run_pure, Result.andThen_ok, List.map_toArray, List.map_cons, List.map_nil, hs, hx, hr1]; exact h v1 w1 h1 (HB.grown hg hbase (Kb hown)) hg hat
end Kd
end
namespace Kd
end Kd
end Go.Proofs.YtadafplbgophfaaW.PrintWords
end
section
namespace Go.Proofs.YtadafplbgophfaaW.PrintLast
section
variable {P : Program} {ops : Array Oper} {Q : Exit → Act → World → Prop} {md : Region.Mode} {S : World → Prop} {ds : List Nat}
def Region.reachB (md : Region.Mode) (ops : Array Oper) (i : Nat) : Nat → Nat → Bool
 | 0, _ => false
 | fuel + 1, d => match ops[d]? with
  | some o => o.after.any fun e => Region.binds md e && (e.on == i || Region.reachB md ops i fuel e.on)
  | none => false
def Region.closedB (md : Region.Mode) (ops : Array Oper) (listed : Array Bool) : Bool :=
 (List.range ops.size).all fun j => !listed.getD j false || match ops[j]? with
  | some o => o.after.all fun e => !Region.binds md e || listed.getD e.on false
  | none => true
def Region.lastB (md : Region.Mode) (ops : Array Oper) (listed : Array Bool) (ds : List Nat) (i : Nat) : Bool :=
 ds.all fun d => listed.getD d true || Region.reachB md ops i ops.size d
def Kr (md : Region.Mode) (ops : Array Oper) (listed : Array Bool) : Prop :=
 ∀ j oj, ops[j]? = some oj → listed.getD j false = true → ∀ e ∈ oj.after, Region.binds md e = true → listed.getD e.on false = true
theorem Region.closedB_spec {listed : Array Bool} (h : Region.closedB md ops listed = true) : Kr md ops listed := by
 intro j oj hj hl e he hb; have hlt : j < ops.size := (Array.getElem?_eq_some_iff.1 hj).1; have h1 := List.all_eq_true.1 h j (List.mem_range.2 hlt)
 simp only [hl, hj, Bool.not_true, Bool.false_or] at h1
 have h2 := Array.all_eq_true_iff_forall_mem.1 h1 e he
 simpa [hb] using h2
theorem Kr.set {listed : Array Bool} {i : Nat} (h : Kr md ops listed) (hi : i ∈ Region.ready md ops listed) : Kr md ops (listed.setIfInBounds i true) := by
 obtain ⟨_, oi, hoi, hall⟩ := mem_ready.1 hi; intro j oj hj hl e he hb
 by_cases hij : i = j
 ·subst hij
  have : oj = oi := Option.some.inj (hj.symm.trans hoi); subst this; exact getD_set_true (hall e he hb)
 ·rw [getD_set_ne false hij] at hl
  exact getD_set_true (h j oj hj hl e he hb)
theorem Region.reach_listed {listed : Array Bool} {i : Nat} (hc : Kr md ops listed) : ∀ (fuel d : Nat), Region.reachB md ops i fuel d = true → listed.getD d false = true → listed.getD i false = true
 | 0, _, h, _ => by simp [Region.reachB] at h
 | fuel + 1, d, h, hl => by
  unfold Region.reachB at h
  cases ho : ops[d]? with
  | none => rw [ho] at h; simp at h
  | some o =>
   rw [ho] at h
   obtain ⟨e, he, h1⟩ := Array.any_eq_true'.1 h
   simp only [Bool.and_eq_true, Bool.or_eq_true, beq_iff_eq] at h1
   have hle := hc d o ho hl e he h1.1
   rcases h1.2 with h2 | h2
   ·rw [← h2]; exact hle
   ·exact Region.reach_listed hc fuel e.on h2 hle
theorem Region.reach_not_ready {listed : Array Bool} {i d fuel : Nat} (hc : Kr md ops listed) (hr : Region.reachB md ops i fuel d = true) (hun : listed.getD i true = false) : d ∉ Region.ready md ops listed := by
 intro hd; obtain ⟨_, o, ho, hall⟩ := mem_ready.1 hd
 have hi : listed.getD i false = true := by
  cases fuel with
  | zero => simp [Region.reachB] at hr
  | succ n =>
   unfold Region.reachB at hr
   rw [ho] at hr
   obtain ⟨e, he, h1⟩ := Array.any_eq_true'.1 hr
   simp only [Bool.and_eq_true, Bool.or_eq_true, beq_iff_eq] at h1
   have hle := hall e he h1.1
   rcases h1.2 with h2 | h2
   ·rw [← h2]; exact hle
   ·exact Region.reach_listed hc n e.on h2 hle
 rcases Nat.lt_or_ge i listed.size with h' | h'
 ·simp [h'] at hun hi
  rw [hun] at hi
  cases hi
 ·simp [Array.getElem?_eq_none h'] at hun
def Xb (P : Program) (md : Region.Mode) (ops : Array Oper) (Q : Exit → Act → World → Prop) (S : World → Prop) (ds : List Nat) : Nat → Array Bool → Act → World → Prop
 | 0, listed, a, w => Region.ready md ops listed = [] ∧ Q .normal a w
 | fuel + 1, listed, a, w =>
  (Region.ready md ops listed = [] → Q .normal a w) ∧
  ∀ i ∈ Region.ready md ops listed, wpOp P ops Q i (fun a' w' => (i ∉ ds → S w → S w') ∧ Xb P md ops Q S ds fuel (listed.setIfInBounds i true) a' w') a w
theorem Qdm : ∀ (fuel : Nat) (listed : Array Bool) (a : Act) (w : World), Xb P md ops Q S ds fuel listed a w → wpAny P md ops Q fuel listed a w
 | 0, _, _, _, h => h
 | fuel + 1, _, _, _, h => ⟨h.1, fun i hi => wpOp_mono (fun a' w' h' => Qdm fuel _ a' w' h'.2) (h.2 i hi)⟩
theorem Qfo {i : Nat} {oi : Oper} {v : Value} (hi : ops[i]? = some oi) (hsel : ∀ (j : Nat) (o : Oper) cs b, ops[j]? = some o → o.op ≠ .select cs b)
  (hQ : ∀ c a w, Q (.panic c) (a.put oi.dst v) w → Q (.panic c) a w) (n : Nat) :
  ∀ (fuel : Nat) (listed : Array Bool) (a : Act) (w : World),
   (∀ j oj, ops[j]? = some oj → j ≠ i → listed.getD j true = false → (∀ e ∈ oj.after, Region.binds md e = true → e.on ≠ i) → oi.apart ops oj = true) →
   Kr md ops listed → (∀ d ∈ ds, listed.getD d true = false → Region.reachB md ops i n d = true) →
   i ∈ Region.ready md ops listed → YieldsIf P ops S oi v a → S w →
   Xb P md ops Q S ds fuel (listed.setIfInBounds i true) (a.put oi.dst v) w → Xb P md ops Q S ds (fuel + 1) listed a w := by
 intro fuel
 induction fuel with
 | zero =>
  intro listed a w _ _ _ hr hy hS H; refine ⟨fun h => (by rw [h] at hr; cases hr), fun j hj => ?_⟩
  by_cases hji : j = i
  ·subst hji; exact hy.wpOp hi hS ⟨fun _ h => h, H⟩
  ·have := ready_mono hj hji
   rw [H.1] at this
   cases this
 | succ fuel ih =>
  intro listed a w hfree hc hd hr hy hS H; refine ⟨fun h => (by rw [h] at hr; cases hr), fun j hj => ?_⟩
  by_cases hji : j = i
  ·subst hji; exact hy.wpOp hi hS ⟨fun _ h => h, H⟩
  ·have h1 := H.2 j (ready_mono hj hji)
   obtain ⟨hjun, oj, hoj, hall⟩ := mem_ready.1 hj; have hiun := (mem_ready.1 hr).1
   have hnot : ∀ e ∈ oj.after, Region.binds md e = true → e.on ≠ i := fun e he hb heq => by
    have h1 := hall e he hb
    rw [heq] at h1
    rcases Nat.lt_or_ge i listed.size with h' | h'
    ·simp [h'] at hiun h1; rw [hiun] at h1; cases h1
    ·simp [Array.getElem?_eq_none h'] at h1
   have hjd : j ∉ ds := fun hm => Region.reach_not_ready hc (hd j hm hjun) hiun hj
   have h2 := wpOp_putIf hoj (hfree j oj hoj hji hjun hnot) (fun cs b => hsel i oi cs b hi) (fun cs b => hsel j oj cs b hoj) hQ hy h1
   have hfree' : ∀ k ok, ops[k]? = some ok → k ≠ i → (listed.setIfInBounds j true).getD k true = false →
     (∀ e ∈ ok.after, Region.binds md e = true → e.on ≠ i) → oi.apart ops ok = true := fun k ok hk hki hun hno => by
    refine hfree k ok hk hki ?_ hno
    by_cases hjk : j = k
    ·subst hjk; exact hjun
    ·rw [getD_set_ne true hjk] at hun; exact hun
   have hd' : ∀ d ∈ ds, (listed.setIfInBounds j true).getD d true = false → Region.reachB md ops i n d = true := fun d hm hun => by
    refine hd d hm ?_
    by_cases hjk : j = d
    ·subst hjk; exact hjun
    ·rw [getD_set_ne true hjk] at hun; exact hun
   refine wpOp_mono (fun a' w' h3 => ⟨h3.2.1, ih (listed.setIfInBounds j true) a' w' hfree' (hc.set hj) hd' (ready_mono hr (Ne.symm hji)) h3.1 (h3.2.1 hjd hS) ?_⟩) h2; rw [Array.setIfInBounds_comm _ _ hji]; exact h3.2.2
theorem Qht {i : Nat} {oi : Oper} {v : Value} (hi : ops[i]? = some oi) (hsel : ∀ (j : Nat) (o : Oper) cs b, ops[j]? = some o → o.op ≠ .select cs b)
  (hQ : ∀ c a w, Q (.panic c) (a.put oi.dst v) w → Q (.panic c) a w) :
  ∀ (fuel : Nat) (listed : Array Bool) (a : Act) (w : World),
   (∀ j oj, ops[j]? = some oj → j ≠ i → listed.getD j true = false → (∀ e ∈ oj.after, Region.binds md e = true → e.on ≠ i) → oi.apart ops oj = true) →
   i ∈ Region.ready md ops listed → Yields P ops oi v a →
   Xb P md ops Q S ds fuel (listed.setIfInBounds i true) (a.put oi.dst v) w → Xb P md ops Q S ds (fuel + 1) listed a w := by
 intro fuel
 induction fuel with
 | zero =>
  intro listed a w _ hr hy H; refine ⟨fun h => (by rw [h] at hr; cases hr), fun j hj => ?_⟩
  by_cases hji : j = i
  ·subst hji; exact (hy.yieldsIf (S := fun _ => True)).wpOp hi trivial ⟨fun _ h => h, H⟩
  ·have := ready_mono hj hji
   rw [H.1] at this
   cases this
 | succ fuel ih =>
  intro listed a w hfree hr hy H; refine ⟨fun h => (by rw [h] at hr; cases hr), fun j hj => ?_⟩
  by_cases hji : j = i
  ·subst hji; exact (hy.yieldsIf (S := fun _ => True)).wpOp hi trivial ⟨fun _ h => h, H⟩
  ·have h1 := H.2 j (ready_mono hj hji)
   obtain ⟨hjun, oj, hoj, hall⟩ := mem_ready.1 hj; have hiun := (mem_ready.1 hr).1
   have hnot : ∀ e ∈ oj.after, Region.binds md e = true → e.on ≠ i := fun e he hb heq => by
    have h1 := hall e he hb
    rw [heq] at h1
    rcases Nat.lt_or_ge i listed.size with h' | h'
    ·simp [h'] at hiun h1; rw [hiun] at h1; cases h1
    ·simp [Array.getElem?_eq_none h'] at h1
   have h2 := wpOp_put hoj (hfree j oj hoj hji hjun hnot) (fun cs b => hsel i oi cs b hi) (fun cs b => hsel j oj cs b hoj) hQ hy h1
   have hfree' : ∀ k ok, ops[k]? = some ok → k ≠ i → (listed.setIfInBounds j true).getD k true = false →
     (∀ e ∈ ok.after, Region.binds md e = true → e.on ≠ i) → oi.apart ops ok = true := fun k ok hk hki hun hno => by
    refine hfree k ok hk hki ?_ hno
    by_cases hjk : j = k
    ·subst hjk; exact hjun
    ·rw [getD_set_ne true hjk] at hun; exact hun
   refine wpOp_mono (fun a' w' h3 => ⟨h3.2.1, ih (listed.setIfInBounds j true) a' w' hfree' (ready_mono hr (Ne.symm hji)) h3.1 ?_⟩) h2; rw [Array.setIfInBounds_comm _ _ hji]; exact h3.2.2
theorem Qhn {i : Nat} {oi : Oper} {v : Value} {fuel : Nat} {listed : Array Bool} {a : Act} {w : World} (hi : ops[i]? = some oi)
  (hs : Region.noSelect ops = true) (hf : Region.free md ops listed i = true) (hr : (Region.ready md ops listed).contains i = true)
  (hc : Region.closedB md ops listed = true) (hl : Region.lastB md ops listed ds i = true)
  (hQ : ∀ c a w, Q (.panic c) (a.put oi.dst v) w → Q (.panic c) a w) (hy : YieldsIf P ops S oi v a) (hS : S w)
  (h : Xb P md ops Q S ds fuel (listed.setIfInBounds i true) (a.put oi.dst v) w) : Xb P md ops Q S ds (fuel + 1) listed a w :=
 Qfo hi (Region.noSelect_spec hs) hQ ops.size fuel listed a w (Region.free_spec hi hf) (Region.closedB_spec hc)
  (fun d hm hun => by have := List.all_eq_true.1 hl d hm; rw [hun] at this; simpa using this) (by simpa using hr) hy hS h
theorem Qhs {rs : List Nat} {fuel : Nat} {listed : Array Bool} {a : Act} {w : World} (hr : Region.ready md ops listed = rs) (hne : rs ≠ [])
  (h : ∀ i ∈ rs, wpOp P ops Q i (fun a' w' => (i ∉ ds → S w → S w') ∧ Xb P md ops Q S ds fuel (listed.setIfInBounds i true) a' w') a w) : Xb P md ops Q S ds (fuel + 1) listed a w :=
 ⟨fun h0 => absurd (hr ▸ h0) hne, hr ▸ h⟩
theorem Qhm {listed : Array Bool} {a : Act} {w : World} (hr : Region.ready md ops listed = []) (h : Q .normal a w) :
  ∀ fuel, Xb P md ops Q S ds fuel listed a w
 | 0 => ⟨hr, h⟩
 | _ + 1 => ⟨fun _ => h, by rw [hr]; simp⟩
theorem Qcs {id : Nat} {a : Act} {w : World} (hm : P.follows .mixedOrders = true)
  (h : Xb P .any ops Q S ds ops.size (Array.replicate ops.size false) a { w with drawn := w.drawn + 1 }) : (Code.region id ops true).wp P Q a w :=
 wp_region_any hm (Qdm _ _ _ _ h)
end
section
variable {P : Program} {ops : Array Oper} {Q : Exit → Act → World → Prop} {md : Region.Mode} {S : World → Prop} {ds : List Nat}
def Yr (P : Program) (md : Region.Mode) (ops : Array Oper) (Q : Exit → Act → World → Prop) (S : World → Prop) (ds : List Nat) (fuel : Nat) (listed : Array Bool) (a : Act) (w : World) (rs : List Nat) : Prop :=
 ∀ i ∈ rs, wpOp P ops Q i (fun a' w' => (i ∉ ds → S w → S w') ∧ Xb P md ops Q S ds fuel (listed.setIfInBounds i true) a' w') a w
theorem Yr.nil {fuel : Nat} {listed : Array Bool} {a : Act} {w : World} : Yr P md ops Q S ds fuel listed a w [] := fun _ h => by cases h
theorem Yr.cons {fuel : Nat} {listed : Array Bool} {a : Act} {w : World} {i : Nat} {o : Oper} {rs : List Nat} (ho : ops[i]? = some o) (hd : i ∉ ds)
  (h : ∀ K' : Act → World → Prop, Shut (∀ a w, S w → (S w → Xb P md ops Q S ds fuel (listed.setIfInBounds i true) a w) → K' a w) → if Region.wanted o (yielded ops a.tmps) = true then Oper.wp P o a w K' Q else K' (a.put o.dst undef) w)
  (hs : Yr P md ops Q S ds fuel listed a w rs) : Yr P md ops Q S ds fuel listed a w (i :: rs) := fun j hj => by
 rcases List.mem_cons.1 hj with rfl | hj
 ·exact wpOp_step ho (fun K' hK => h K' (fun a w hS hW => hK a w ⟨fun _ _ => hS, hW hS⟩))
 ·exact hs j hj
theorem Yr.cons_last {fuel : Nat} {listed : Array Bool} {a : Act} {w : World} {i : Nat} {o : Oper} {rs : List Nat} (ho : ops[i]? = some o) (hd : i ∈ ds)
  (h : ∀ K' : Act → World → Prop, Shut (∀ a w, Xb P md ops Q S ds fuel (listed.setIfInBounds i true) a w → K' a w) → if Region.wanted o (yielded ops a.tmps) = true then Oper.wp P o a w K' Q else K' (a.put o.dst undef) w)
  (hs : Yr P md ops Q S ds fuel listed a w rs) : Yr P md ops Q S ds fuel listed a w (i :: rs) := fun j hj => by
 rcases List.mem_cons.1 hj with rfl | hj
 ·exact wpOp_step ho (fun K' hK => h K' (fun a w hW => hK a w ⟨fun hn => absurd hd hn, hW⟩))
 ·exact hs j hj
theorem Uo {rs : List Nat} {fuel : Nat} {listed : Array Bool} {a : Act} {w : World} (hr : Region.ready md ops listed = rs) (hne : rs ≠ [])
  (h : Yr P md ops Q S ds fuel listed a w rs) : Xb P md ops Q S ds (fuel + 1) listed a w := Qhs hr hne h
theorem Ug {id n : Nat} {a : Act} {w : World} (l : Array Bool) (hm : P.follows .mixedOrders = true) (hn : ops.size = n) (hl : Array.replicate n false = l) (hS : S w.drew)
  (h : S w.drew → Xb P .any ops Q S ds n l a w.drew) : (Code.region id ops true).wp P Q a w := by
 subst hn; subst hl; exact Qcs hm (h hS)
def Qig (md : Region.Mode) (ops : Array Oper) (ds : List Nat) (l l' : Array Bool) (i : Nat) : Bool :=
 Region.noSelect ops && Region.free md ops l i && (Region.ready md ops l).contains i && Region.closedB md ops l && Region.lastB md ops l ds i && (l.setIfInBounds i true == l')
theorem take_ {i : Nat} {N : Option Tmp} {oi : Oper} {v : Value} {fuel : Nat} {l : Array Bool} {a : Act} {w : World} (l' : Array Bool) (hi : ops[i]? = some oi) (hN : oi.dst = N) (hc : Qig md ops ds l l' i = true)
  (hQ : ∀ c a w, Q (.panic c) (a.put oi.dst v) w → Q (.panic c) a w) (hy : YieldsIf P ops S oi v a) (hS : S w) {a' : Act} (ha : a.put N v = a')
  (h : Xb P md ops Q S ds fuel l' a' w) : Xb P md ops Q S ds (fuel + 1) l a w := by
 subst ha; subst hN
 simp only [Qig, Bool.and_eq_true, beq_iff_eq] at hc
 obtain ⟨⟨⟨⟨⟨h1, h2⟩, h3⟩, h4⟩, h5⟩, h6⟩ := hc; subst h6; exact Qhn hi h1 h2 h3 h4 h5 hQ hy hS h
def Qmd (md : Region.Mode) (ops : Array Oper) (l l' : Array Bool) (i : Nat) : Bool :=
 Region.noSelect ops && Region.free md ops l i && (Region.ready md ops l).contains i && (l.setIfInBounds i true == l')
theorem Km {i : Nat} {N : Option Tmp} {oi : Oper} {v : Value} {fuel : Nat} {l : Array Bool} {a : Act} {w : World} (l' : Array Bool) (hi : ops[i]? = some oi) (hN : oi.dst = N) (hc : Qmd md ops l l' i = true)
  (hQ : ∀ c a w, Q (.panic c) (a.put oi.dst v) w → Q (.panic c) a w) (hy : Yields P ops oi v a) {a' : Act} (ha : a.put N v = a')
  (h : Xb P md ops Q S ds fuel l' a' w) : Xb P md ops Q S ds (fuel + 1) l a w := by
 subst ha; subst hN
 simp only [Qmd, Bool.and_eq_true, beq_iff_eq] at hc
 obtain ⟨⟨⟨h1, h2⟩, h3⟩, h6⟩ := hc; subst h6; exact Qht hi (Region.noSelect_spec h1) hQ fuel l a w (Region.free_spec hi h2) (by simpa using h3) hy h
def Qdr (md : Region.Mode) (ops : Array Oper) (l l' : Array Bool) (i : Nat) : Bool := (Region.ready md ops l == [i]) && (l.setIfInBounds i true == l')
theorem Qol {i : Nat} {N : Option Tmp} {oi : Oper} {fuel : Nat} {l : Array Bool} {a : Act} {w : World} (l' : Array Bool) (hi : ops[i]? = some oi) (hN : oi.dst = N) (hc : Qdr md ops l l' i = true) (hd : i ∉ ds)
  (h : ∀ K : Act → World → Prop, Shut (∀ a' w', S w' → (S w' → Xb P md ops Q S ds fuel l' a' w') → K a' w') → if Region.wanted oi (yielded ops a.tmps) = true then Oper.wp P oi a w K Q else K (a.put N undef) w) :
  Xb P md ops Q S ds (fuel + 1) l a w := by
 subst hN
 simp only [Qdr, Bool.and_eq_true, beq_iff_eq] at hc
 obtain ⟨h1, h2⟩ := hc; subst h2; exact Uo h1 (by simp) (Yr.cons hi hd (fun K hK => h K hK) Yr.nil)
theorem Qbb {i : Nat} {N : Option Tmp} {oi : Oper} {fuel : Nat} {l : Array Bool} {a : Act} {w : World} (l' : Array Bool) (hi : ops[i]? = some oi) (hN : oi.dst = N) (hc : Qdr md ops l l' i = true) (hd : i ∈ ds)
  (h : ∀ K : Act → World → Prop, Shut (∀ a' w', Xb P md ops Q S ds fuel l' a' w' → K a' w') → if Region.wanted oi (yielded ops a.tmps) = true then Oper.wp P oi a w K Q else K (a.put N undef) w) :
  Xb P md ops Q S ds (fuel + 1) l a w := by
 subst hN
 simp only [Qdr, Bool.and_eq_true, beq_iff_eq] at hc
 obtain ⟨h1, h2⟩ := hc; subst h2; exact Uo h1 (by simp) (Yr.cons_last hi hd (fun K hK => h K hK) Yr.nil)
theorem Ki {l : Array Bool} {a : Act} {w : World} {n : Nat} (hr : (Region.ready md ops l == []) = true) (h : Q .normal a w) : Xb P md ops Q S ds n l a w := Qhm (by simpa using hr) h n
theorem Qcr {i j : Nat} {Ni Nj : Option Tmp} {oi oj : Oper} {fuel : Nat} {l : Array Bool} {a : Act} {w : World} (li lj : Array Bool) (hi : ops[i]? = some oi) (hj : ops[j]? = some oj) (hNi : oi.dst = Ni) (hNj : oj.dst = Nj)
  (hc : (Region.ready md ops l == [i, j] && l.setIfInBounds i true == li && l.setIfInBounds j true == lj) = true) (hdi : i ∉ ds) (hdj : j ∉ ds)
  (h1 : ∀ K : Act → World → Prop, Shut (∀ a' w', S w' → (S w' → Xb P md ops Q S ds fuel li a' w') → K a' w') → if Region.wanted oi (yielded ops a.tmps) = true then Oper.wp P oi a w K Q else K (a.put Ni undef) w)
  (h2 : ∀ K : Act → World → Prop, Shut (∀ a' w', S w' → (S w' → Xb P md ops Q S ds fuel lj a' w') → K a' w') → if Region.wanted oj (yielded ops a.tmps) = true then Oper.wp P oj a w K Q else K (a.put Nj undef) w) :
  Xb P md ops Q S ds (fuel + 1) l a w := by
 subst hNi; subst hNj
 simp only [Bool.and_eq_true, beq_iff_eq] at hc
 obtain ⟨⟨h3, h4⟩, h5⟩ := hc; subst h4; subst h5; exact Uo h3 (by simp) (Yr.cons hi hdi (fun K hK => h1 K hK) (Yr.cons hj hdj (fun K hK => h2 K hK) Yr.nil))
theorem Qkm {i j k : Nat} {Ni Nj Nk : Option Tmp} {oi oj ok : Oper} {fuel : Nat} {l : Array Bool} {a : Act} {w : World} (li lj lk : Array Bool) (hi : ops[i]? = some oi) (hj : ops[j]? = some oj) (hk : ops[k]? = some ok) (hNi : oi.dst = Ni) (hNj : oj.dst = Nj) (hNk : ok.dst = Nk)
  (hc : (Region.ready md ops l == [i, j, k] && l.setIfInBounds i true == li && l.setIfInBounds j true == lj && l.setIfInBounds k true == lk) = true) (hdi : i ∉ ds) (hdj : j ∉ ds) (hdk : k ∉ ds)
  (h1 : ∀ K : Act → World → Prop, Shut (∀ a' w', S w' → (S w' → Xb P md ops Q S ds fuel li a' w') → K a' w') → if Region.wanted oi (yielded ops a.tmps) = true then Oper.wp P oi a w K Q else K (a.put Ni undef) w)
  (h2 : ∀ K : Act → World → Prop, Shut (∀ a' w', S w' → (S w' → Xb P md ops Q S ds fuel lj a' w') → K a' w') → if Region.wanted oj (yielded ops a.tmps) = true then Oper.wp P oj a w K Q else K (a.put Nj undef) w)
  (h3 : ∀ K : Act → World → Prop, Shut (∀ a' w', S w' → (S w' → Xb P md ops Q S ds fuel lk a' w') → K a' w') → if Region.wanted ok (yielded ops a.tmps) = true then Oper.wp P ok a w K Q else K (a.put Nk undef) w) :
  Xb P md ops Q S ds (fuel + 1) l a w := by
 subst hNi; subst hNj; subst hNk
 simp only [Bool.and_eq_true, beq_iff_eq] at hc
 obtain ⟨⟨⟨h4, h5⟩, h6⟩, h7⟩ := hc; subst h5; subst h6; subst h7; exact Uo h4 (by simp) (Yr.cons hi hdi (fun K hK => h1 K hK) (Yr.cons hj hdj (fun K hK => h2 K hK) (Yr.cons hk hdk (fun K hK => h3 K hK) Yr.nil)))
def Qha : Act → List (Tmp × Value) → Act
 | a, [] => a
 | a, (n, v) :: r => Qha (a.put (some n) v) r
theorem Jl {σ : Type} {fuel : Nat} {l : Array Bool} {a : Act} {w : World} (fuel' : Nat) (l' : Array Bool) (ns : σ → List (Tmp × Value)) (F : σ → World → Prop)
  (hcont : ∀ s w', F s w' → Xb P md ops Q S ds fuel' l' (Qha a (ns s)) w')
  (h : (∀ s w', F s w' → Xb P md ops Q S ds fuel' l' (Qha a (ns s)) w') → Xb P md ops Q S ds fuel l a w) : Xb P md ops Q S ds fuel l a w := h hcont
theorem Qjn {fuel : Nat} {l : Array Bool} {a a' : Act} {w : World} (ha : a = a') (h : Xb P md ops Q S ds fuel l a' w) : Xb P md ops Q S ds fuel l a w := by
 subst ha; exact h
theorem Qqb {oi : Oper} {N : Option Tmp} {a : Act} {w : World} {K : Act → World → Prop} (f : FuncId) (args : Array Value) (hw : Region.wanted oi (yielded ops a.tmps) = true) (hN : oi.dst = N) (hrun : (execOp a.eval oi).run P w = .ok (.enter f args) w)
  (h : Calls P f args w fun e w' => ∃ v, e = .returned v ∧ K (a.put N v) w') : if Region.wanted oi (yielded ops a.tmps) = true then Oper.wp P oi a w K Q else K (a.put N undef) w := by
 rw [if_pos hw]; subst hN; unfold Oper.wp; rw [hrun, Oper.upon_enter]
 refine h.mono fun e w'' hh => ?_
 obtain ⟨v, rfl, hk⟩ := hh; exact hk
theorem Qku {f : FuncId} {fn : Func} (hf : P.funcs[f]? = some fn) (hname : (fn.name == "runtime.NumGoroutine") = false) (hb : fn.body.isSome = true) (args : Array Value) (w : World) : (callFunc f args).run P w = .ok (.enter f args) w := by
 have h1 : fn.name ≠ "runtime.NumGoroutine" := by simpa using hname
 obtain ⟨c, hc⟩ := Option.isSome_iff_exists.1 hb
 simp [callFunc, hf, h1, hc]
theorem Vr {oi : Oper} {N : Option Tmp} {a : Act} {w : World} {K : Act → World → Prop} {f : FuncId} {fn : Func} {as1 : Array Operand} {ts : Array TypeId} (hf : P.funcs[f]? = some fn) (hname : (fn.name == "runtime.NumGoroutine") = false) (hb : fn.body.isSome = true) (args : Array Value)
  (hw : Region.wanted oi (yielded ops a.tmps) = true) (hN : oi.dst = N) (hop : oi.op = .call { callee := .value (.func f), args := as1, argTypes := ts }) (hargs : as1.map a.eval = args)
  (h : Calls P f args w fun e w' => ∃ v, e = .returned v ∧ K (a.put N v) w') : if Region.wanted oi (yielded ops a.tmps) = true then Oper.wp P oi a w K Q else K (a.put N undef) w := by
 refine Qqb f args hw hN ?_ h; have he := Qku hf hname hb args w; unfold execOp
 simp [hop, resolve, Deferred.ofValue, invoke, Act.eval, hargs, he]
theorem Vb {rest : List Oper} {oi : Oper} {a : Act} {w : World} (N : Option Tmp) (hd : oi.dst = N) (hg : oi.guard = none) {f : FuncId} {fn : Func} {as1 : Array Operand} {ts : Array TypeId} (hf : P.funcs[f]? = some fn) (hname : (fn.name == "runtime.NumGoroutine") = false) (hb : fn.body.isSome = true) (args : Array Value)
  (hop : oi.op = .call { callee := .value (.func f), args := as1, argTypes := ts }) (hargs : as1.map a.eval = args)
  (h : Calls P f args w fun e w' => ∃ v, e = .returned v ∧ wpList P ops Q rest (a.put N v) w') : wpList P ops Q (oi :: rest) a w := by
 refine wpList_plain hg fun K hK => ?_
 have he := Qku hf hname hb args w
 have hrun : (execOp a.eval oi).run P w = .ok (.enter f args) w := by
  unfold execOp
  simp [hop, resolve, Deferred.ofValue, invoke, Act.eval, hargs, he]
 unfold Oper.wp; rw [hrun, Oper.upon_enter]
 refine h.mono fun e w'' hh => ?_
 obtain ⟨v, rfl, hk⟩ := hh; subst hd; exact hK _ _ hk
theorem Kh {oi : Oper} {N : Option Tmp} {a : Act} {w w1 : World} {v : Value} {K : Act → World → Prop} (hw : Region.wanted oi (yielded ops a.tmps) = true) (hN : oi.dst = N) (hrun : (execOp a.eval oi).run P w = .ok (.value v) w1)
  (h : K (a.put N v) w1) : if Region.wanted oi (yielded ops a.tmps) = true then Oper.wp P oi a w K Q else K (a.put N undef) w := by
 rw [if_pos hw]; subst hN; unfold Oper.wp; rw [hrun]; exact h
theorem Jz {oi : Oper} {a : Act} {w w1 : World} {K : Act → World → Prop} (hw : Region.wanted oi (yielded ops a.tmps) = true) (hN : oi.dst = none) (hrun : (execOp a.eval oi).run P w = .ok .skip w1)
  (h : K a w1) : if Region.wanted oi (yielded ops a.tmps) = true then Oper.wp P oi a w K Q else K (a.put none undef) w := by
 rw [if_pos hw]; unfold Oper.wp; rw [hrun]
 show K (a.put oi.dst undef) w1
 rw [hN]; exact h
theorem Yx (n : Int) : IntKind.i64.wrap n = Go.RowKit.wrap64 n := by unfold Go.RowKit.wrap64; exact IntKind.wrap_i64 n
theorem Vi (n : Int) : IntKind.i32.wrap n = Go.RowKit.wrap32 n := by unfold Go.RowKit.wrap32; exact IntKind.wrap_i32 n
end
end Go.Proofs.YtadafplbgophfaaW.PrintLast
end
section
namespace Go.Proofs.YtadafplbgophfaaW.PrintLast
open Go.Proofs.YtadafplbgophfaaW.PrintWords (Qa)
def Qda (md : Region.Mode) (o : Oper) : List Nat := (o.after.toList.filter (fun e => Region.binds md e)).map (fun e => e.on)
def Qik (md : Region.Mode) (ops : Array Oper) (i : Nat) (oi : Oper) : List Nat := (List.range ops.size).filter fun j => !(j == i) && match ops[j]? with
 | some oj => !(oj.after.any (fun e => Region.binds md e && e.on == i) || oi.apart ops oj)
 | none => false
def Vx (md : Region.Mode) (ops : Array Oper) : Bool × List (List Nat × List Nat) := (Region.noSelect ops, (List.range ops.size).map fun i => match ops[i]? with
 | some o => (Qda md o, Qik md ops i o)
 | none => ([], []))
def Qak (T : List (List Nat × List Nat)) (l : List Bool) (i : Nat) : Bool := !l.getD i true && match T[i]? with
 | some r => r.1.all (fun j => l.getD j false)
 | none => false
def Qaq (T : List (List Nat × List Nat)) (l : List Bool) : List Nat := (List.range T.length).filter (Qak T l)
def Qjf (T : List (List Nat × List Nat)) (l : List Bool) (i : Nat) : Bool := match T[i]? with
 | some r => r.2.all (fun j => l.getD j true)
 | none => false
def Qft (T : List (List Nat × List Nat)) (l : List Bool) : Bool := (List.range T.length).all fun j => !l.getD j false || match T[j]? with
 | some r => r.1.all (fun k => l.getD k false)
 | none => true
def Qez (T : List (List Nat × List Nat)) (i : Nat) : Nat → Nat → Bool
 | 0, _ => false
 | fuel + 1, d => match T[d]? with
  | some r => r.1.any fun j => j == i || Qez T i fuel j
  | none => false
def Qdk (T : List (List Nat × List Nat)) (l : List Bool) (ds : List Nat) (i : Nat) : Bool := ds.all fun d => l.getD d true || Qez T i T.length d
section
variable {md : Region.Mode} {ops : Array Oper} {T : Bool × List (List Nat × List Nat)} {l l' li lj lk : Array Bool} {ds : List Nat} {i j k : Nat}
theorem gd (l : Array Bool) (j : Nat) (b : Bool) : l.getD j b = l.toList.getD j b := by simp [Array.getD_eq_getD_getElem?, List.getD_eq_getElem?_getD]
theorem Qia (o : Oper) (p : Nat → Bool) : o.after.all (fun e => !Region.binds md e || p e.on) = (Qda md o).all p := by
 unfold Qda; rw [← Array.all_toList]
 induction o.after.toList with
 | nil => rfl
 | cons e r ih =>
  rw [List.all_cons, ih, List.filter_cons]
  cases h : Region.binds md e <;> simp
theorem Qls (o : Oper) (p : Nat → Bool) : o.after.any (fun e => Region.binds md e && p e.on) = (Qda md o).any p := by
 unfold Qda; rw [← Array.any_toList]
 induction o.after.toList with
 | nil => rfl
 | cons e r ih =>
  rw [List.any_cons, ih, List.filter_cons]
  cases h : Region.binds md e <;> simp
theorem Qbp : (Vx md ops).2.length = ops.size := by simp [Vx]
theorem Qdc {o : Oper} (h : ops[i]? = some o) : (Vx md ops).2[i]? = some (Qda md o, Qik md ops i o) := by
 have hi := (Array.getElem?_eq_some_iff.1 h).1; unfold Vx; rw [List.getElem?_map, List.getElem?_range hi, Option.map_some, h]
theorem Qdb (h : ops[i]? = none) : (Vx md ops).2[i]? = none := by
 have hi : ops.size ≤ i := Array.getElem?_eq_none_iff.1 h; exact List.getElem?_eq_none (by rw [Qbp]; exact hi)
theorem Qkj : Qak (Vx md ops).2 l.toList i = (!l.getD i true && ((ops[i]?).map (·.after.all fun e => !Region.binds md e || l.getD e.on false)).getD false) := by
 unfold Qak; rw [gd]
 cases h : ops[i]? with
 | none => rw [Qdb h]; rfl
 | some o =>
  rw [Qdc h]; simp only [Option.map_some, Option.getD_some]; rw [← Qia]; simp only [gd]
theorem Jm : Region.ready md ops l = Qaq (Vx md ops).2 l.toList := by
 unfold Region.ready Qaq; rw [Qbp]; refine List.filter_congr (fun i _ => ?_); rw [Qkj]
theorem Qkv : Region.free md ops l i = Qjf (Vx md ops).2 l.toList i := by
 unfold Region.free Qjf
 cases h : ops[i]? with
 | none => rw [Qdb h]
 | some oi =>
  rw [Qdc h]; simp only [Qik]; rw [List.all_filter]
  congr 1
  funext j
  rw [gd]
  cases hj : ops[j]? with
  | none => cases (j == i) <;> cases (l.toList.getD j true) <;> simp
  | some oj =>
   cases (j == i) <;> cases (l.toList.getD j true) <;> cases (oj.after.any (fun e => Region.binds md e && e.on == i) || oi.apart ops oj) <;> simp_all
theorem Qlh : Region.closedB md ops l = Qft (Vx md ops).2 l.toList := by
 unfold Region.closedB Qft; rw [Qbp]
 congr 1
 funext j
 rw [gd]
 cases h : ops[j]? with
 | none => rw [Qdb h]
 | some o =>
  rw [Qdc h]; simp only; rw [← Qia]; simp only [gd]
theorem Qjo : ∀ (fuel d : Nat), Region.reachB md ops i fuel d = Qez (Vx md ops).2 i fuel d
 | 0, _ => rfl
 | fuel + 1, d => by
  unfold Region.reachB Qez
  cases h : ops[d]? with
  | none => rw [Qdb h]
  | some o =>
   rw [Qdc h]; simp only; rw [← Qls]
   congr 1
   funext e
   rw [Qjo fuel]
theorem Qoh : Region.lastB md ops l ds i = Qdk (Vx md ops).2 l.toList ds i := by
 unfold Region.lastB Qdk; rw [Qbp]
 congr 1
 funext d
 rw [gd, Qjo]
theorem Qfj (h : Qak T.2 l.toList i = true) (hT : Vx md ops = T) : (Region.ready md ops l).contains i = true := by
 subst hT; rw [Jm]; unfold Qaq; rw [List.contains_iff_mem, List.mem_filter, List.mem_range]; refine ⟨?_, h⟩
 unfold Qak at h
 rw [Bool.and_eq_true] at h
 cases hq : (Vx md ops).2[i]? with
 | none => rw [hq] at h; simp at h
 | some r => exact (List.getElem?_eq_some_iff.1 hq).1
theorem Us (h : (l.toList.set i true == l'.toList) = true) : (l.setIfInBounds i true == l') = true := by
 rw [beq_iff_eq] at h ⊢
 apply Array.ext'
 rw [Array.toList_setIfInBounds]; exact h
def Qqa (T : Bool × List (List Nat × List Nat)) (l l' : List Bool) (i : Nat) : Bool := T.1 && Qjf T.2 l i && Qak T.2 l i && (l.set i true == l')
theorem Uj (hT : Vx md ops = T) (h : Qqa T l.toList l'.toList i = true) : Qmd md ops l l' i = true := by
 simp only [Qqa, Bool.and_eq_true] at h
 obtain ⟨⟨⟨h1, h2⟩, h3⟩, h4⟩ := h; have h5 := Qfj h3 hT; have h6 := Us h4; subst hT; simp only [Qmd, Bool.and_eq_true]; exact ⟨⟨⟨h1, by rw [Qkv]; exact h2⟩, h5⟩, h6⟩
def Qnm (T : Bool × List (List Nat × List Nat)) (ds : List Nat) (l l' : List Bool) (i : Nat) : Bool := T.1 && Qjf T.2 l i && Qak T.2 l i && Qft T.2 l && Qdk T.2 l ds i && (l.set i true == l')
theorem Qos (hT : Vx md ops = T) (h : Qnm T ds l.toList l'.toList i = true) : Qig md ops ds l l' i = true := by
 simp only [Qnm, Bool.and_eq_true] at h
 obtain ⟨⟨⟨⟨⟨h1, h2⟩, h3⟩, h4⟩, h5⟩, h6⟩ := h; have h7 := Qfj h3 hT; have h8 := Us h6; subst hT; simp only [Qig, Bool.and_eq_true]; exact ⟨⟨⟨⟨⟨h1, by rw [Qkv]; exact h2⟩, h7⟩, by rw [Qlh]; exact h4⟩, by rw [Qoh]; exact h5⟩, h8⟩
theorem Kx (hT : Vx md ops = T) (h : (Qaq T.2 l.toList == [i] && l.toList.set i true == l'.toList) = true) : Qdr md ops l l' i = true := by
 simp only [Bool.and_eq_true] at h
 obtain ⟨h1, h2⟩ := h; subst hT; simp only [Qdr, Bool.and_eq_true]; exact ⟨by rw [Jm]; exact h1, Us h2⟩
theorem Jk (hT : Vx md ops = T) (h : (Qaq T.2 l.toList == [i, j] && l.toList.set i true == li.toList && l.toList.set j true == lj.toList) = true) : (Region.ready md ops l == [i, j] && l.setIfInBounds i true == li && l.setIfInBounds j true == lj) = true := by
 simp only [Bool.and_eq_true] at h ⊢
 obtain ⟨⟨h1, h2⟩, h3⟩ := h; subst hT; exact ⟨⟨by rw [Jm]; exact h1, Us h2⟩, Us h3⟩
theorem Qjs (hT : Vx md ops = T) (h : (Qaq T.2 l.toList == [i, j, k] && l.toList.set i true == li.toList && l.toList.set j true == lj.toList && l.toList.set k true == lk.toList) = true) :
  (Region.ready md ops l == [i, j, k] && l.setIfInBounds i true == li && l.setIfInBounds j true == lj && l.setIfInBounds k true == lk) = true := by
 simp only [Bool.and_eq_true] at h ⊢
 obtain ⟨⟨⟨h1, h2⟩, h3⟩, h4⟩ := h; subst hT; exact ⟨⟨⟨by rw [Jm]; exact h1, Us h2⟩, Us h3⟩, Us h4⟩
theorem Vq (hT : Vx md ops = T) (h : (Qaq T.2 l.toList == []) = true) : (Region.ready md ops l == []) = true := by
 subst hT; rw [Jm]; exact h
def upM (B : List Nat) (d : Nat) : List Nat → Nat
 | [] => 0
 | n :: r => (2 ^ n ||| (if n < d then B.getD n 0 else 0)) ||| upM B d r
def Vk (T : List (List Nat × List Nat)) (B : List Nat) : Bool := (List.range T.length).all fun d => match T[d]? with
 | some r => (B.getD d 0 ||| upM B d r.1) == upM B d r.1
 | none => false
theorem Qch {B : List Nat} {d i : Nat} : ∀ {ns : List Nat}, (upM B d ns).testBit i = true → ∃ n ∈ ns, n = i ∨ (n < d ∧ (B.getD n 0).testBit i = true)
 | [], h => by simp [upM] at h
 | n :: r, h => by
  unfold upM at h
  rw [Nat.testBit_or, Nat.testBit_or, Bool.or_eq_true, Bool.or_eq_true] at h
  rcases h with (h | h) | h
  ·rw [Nat.testBit_two_pow] at h
   exact ⟨n, List.mem_cons_self, .inl (by simpa using h)⟩
  ·by_cases hn : n < d
   ·rw [if_pos hn] at h
    exact ⟨n, List.mem_cons_self, .inr ⟨hn, h⟩⟩
   ·rw [if_neg hn] at h
    simp at h
  ·obtain ⟨m, hm, h2⟩ := Qch h
   exact ⟨m, List.mem_cons_of_mem _ hm, h2⟩
theorem Qid {T : List (List Nat × List Nat)} {B : List Nat} (hB : Vk T B = true) : ∀ (fuel d : Nat), d < fuel → d < T.length → (B.getD d 0).testBit i = true → Qez T i fuel d = true
 | 0, d, h, _, _ => by omega
 | fuel + 1, d, h, hd, hb => by
  have h1 := List.all_eq_true.1 hB d (List.mem_range.2 hd)
  cases hr : T[d]? with
  | none => rw [hr] at h1; simp at h1
  | some r =>
   rw [hr] at h1
   simp only [beq_iff_eq] at h1
   have h2 : (upM B d r.1).testBit i = true := by rw [← h1, Nat.testBit_or, hb, Bool.true_or]
   obtain ⟨n, hn, h3⟩ := Qch h2; unfold Qez; rw [hr]; simp only; rw [List.any_eq_true]; refine ⟨n, hn, ?_⟩
   rcases h3 with rfl | ⟨h4, h5⟩
   ·simp
   ·rw [Qid hB fuel n (by omega) (by omega) h5, Bool.or_true]
def Qpa (T : List (List Nat × List Nat)) (B : List Nat) (l : List Bool) (ds : List Nat) (i : Nat) : Bool := ds.all fun d => l.getD d true || (decide (d < T.length) && (B.getD d 0).testBit i)
def Qpd (T : Bool × List (List Nat × List Nat)) (B : List Nat) (ds : List Nat) (l l' : List Bool) (i : Nat) : Bool := T.1 && Qjf T.2 l i && Qak T.2 l i && Qft T.2 l && Qpa T.2 B l ds i && (l.set i true == l')
theorem Qhk {B : List Nat} (hT : Vx md ops = T) (hB : Vk T.2 B = true) (h : Qpd T B ds l.toList l'.toList i = true) : Qig md ops ds l l' i = true := by
 refine Qos hT ?_
 simp only [Qpd, Qnm, Bool.and_eq_true] at h ⊢
 obtain ⟨⟨⟨⟨⟨h1, h2⟩, h3⟩, h4⟩, h5⟩, h6⟩ := h; refine ⟨⟨⟨⟨⟨h1, h2⟩, h3⟩, h4⟩, ?_⟩, h6⟩
 unfold Qpa at h5
 unfold Qdk
 rw [List.all_eq_true] at h5 ⊢
 intro d hd; have h7 := h5 d hd
 rw [Bool.or_eq_true, Bool.and_eq_true, decide_eq_true_eq] at h7
 rcases h7 with h7 | ⟨h8, h9⟩
 ·rw [h7, Bool.true_or]
 ·rw [Qid hB _ d h8 h8 h9, Bool.or_true]
theorem Va {P : Program} {Q : Exit → Act → World → Prop} {S : World → Prop} {n : Nat} {a : Act} {w : World} {B : List Nat} (hT : Vx md ops = T) (hB : Vk T.2 B = true) (h : Qa (Vx md ops = T) → Qa (Vk T.2 B = true) → Xb P md ops Q S ds n l a w) : Xb P md ops Q S ds n l a w := h ⟨hT⟩ ⟨hB⟩
end
def Qdl : Code → Nat → Option (Array Oper)
 | .region id ops _, k => if id == k then some ops else none
 | .seq a b, k => match Qdl a k with
  | some o => some o
  | none => Qdl b k
 | .cond _ a b, k => match Qdl a k with
  | some o => some o
  | none => Qdl b k
 | .block _ c, k => Qdl c k
 | .loop c, k => Qdl c k
 | .scope c, k => Qdl c k
 | .rangeFunc _ _ a b, k => match Qdl a k with
  | some o => some o
  | none => Qdl b k
 | _, _ => none
def Jb (f : Func) (k : Nat) : Array Oper := ((f.body.bind fun c => Qdl c k)).getD #[]
end Go.Proofs.YtadafplbgophfaaW.PrintLast
end
section
namespace Go.Proofs.YtadafplbgophfaaW.PrintWords
open Go.RowKit
namespace Kd
def tag {α : Type} (f : Nat → Nat) (d : Kd α) : Kd (α × Nat) where
 sz := d.sz
 E := d.E
 K := fun w x cs => d.K w x.1 cs
 M := fun w base ok x cs => d.M w base (fun k => ok k ∧ f k = x.2) x.1 cs
 K_len := fun h => d.K_len h
 K_one := fun h => d.K_one h
 K_below := fun hb h => d.K_below hb h
 K_of_M := fun h => d.K_of_M h
 M_mono := fun hok h => d.M_mono (fun k hk => ⟨hok k hk.1, hk.2⟩) h
 M_bound := fun h => d.M_mono (fun _ hk => ⟨⟨hk.1.1, hk.2⟩, hk.1.2⟩) (d.M_bound h)
 M_move := fun hm h => d.M_move (fun k hk => hm k hk.1) h
 M_lower := fun hb h => d.M_lower hb h
def raw (sz : Nat) : Kd (List Value) where
 sz := sz
 E := []
 K := fun _ x cs => cs = x ∧ cs.length = sz ∧ ∀ u ∈ cs, u.oneCell' = true
 M := fun _ _ _ x cs => cs = x ∧ cs.length = sz ∧ ∀ u ∈ cs, u.oneCell' = true
 K_len := fun h => h.2.1
 K_one := fun h => h.2.2
 K_below := fun _ h => h
 K_of_M := fun h => h
 M_mono := fun _ h => h
 M_bound := fun h => h
 M_move := fun _ h => h
 M_lower := fun _ h => h
def S {α : Type} (d : Kd α) (e : Nat) (w : World) (base : Nat) (ok : Nat → Prop) (v : Value) (xs : List α) : Prop := ∃ f, (tag f d).R e w base ok v xs.zipIdx
section
variable {α β : Type} {d : Kd α} {d' : Kd β} {e e' : Nat} {w w1 W : World} {base b : Nat} {ok ok' okv oku : Nat → Prop} {u v : Value} {xs : List α} {ys : List β}
theorem Qbh {xs : List α} {j : Nat} {p : α} (h : xs[j]? = some p) : xs.zipIdx[j]? = some (p, j) := by rw [List.getElem?_zipIdx, h, Nat.zero_add]; rfl
theorem S_R (h : S d e w base ok v xs) : d.R e w base ok v xs := by
 obtain ⟨f, h0, inner, ho, hr⟩ := h
 rw [List.length_zipIdx] at ho
 exact ⟨h0, inner, ho, by have := hr.1; rw [List.length_zipIdx] at this; exact this, fun j p hj => d.M_mono (fun _ hk => hk.1) (hr.2 j (p, j) (Qbh hj))⟩
theorem R_tight (hE : d.E = []) (h : d.R e w base ok v xs) : d.R e w base (fun k => some k = v.ownBlock) v xs := by
 obtain ⟨h0, inner, ho, hr⟩ := h; refine ⟨fun k hk => hk.symm, inner, ho, hr.imp_ (fun p c hp => d.M_mono (fun k hk => ?_) (d.M_bound hp))⟩; obtain ⟨_, _, _, q, hq, _⟩ := hk
 rw [hE] at hq
 cases hq
theorem S_nil (d : Kd α) (e : Nat) (w : World) (base : Nat) (ok : Nat → Prop) : S d e w base ok (.slice none 0 0) [] := ⟨fun _ => 0, R_nil _ _ _ _ _⟩
theorem S_mono (h : S d e w base ok v xs) (hok : ∀ k, ok k → ok' k) : S d e w base ok' v xs := by
 obtain ⟨f, h⟩ := h; exact ⟨f, R_mono h hok⟩
theorem Qbl (h : S d e w base ok v xs) : S d e w base (fun k => ok k ∧ base ≤ k ∧ k < w.heap.size ∧ ∃ q, q ∈ e :: d.E ∧ ∃ cells, w.heap[k]? = some (.cells cells q (0, 0))) v xs := by
 obtain ⟨f, h⟩ := h; exact ⟨f, R_bound h⟩
theorem Qph (h : S d e w base ok v xs) (hm : ∀ k, ok k → w1.heap[k]? = w.heap[k]?) : S d e w1 base ok v xs := by
 obtain ⟨f, h⟩ := h; exact ⟨f, Qcl h hm⟩
theorem Qgf (h : S d e w base ok v xs) (hm : ∀ k, ok k → k < w.heap.size → w1.heap[k]? = w.heap[k]?) : S d e w1 base ok v xs :=
 S_mono (Qph (Qbl h) (fun k hk => hm k hk.1 hk.2.2.1)) (fun _ hk => hk.1)
theorem S_below (h : S d e w base ok v xs) (hb : Below w.heap.size w w1) : S d e w1 base ok v xs := Qgf h (fun k _ hk => hb.block k hk)
theorem S_alloc (h : S d e w base ok v xs) (o : Obj) : S d e (w.alloc o) base ok v xs := S_below h (Qh (Below.refl _ _) o)
theorem S_drew (h : S d e w base ok v xs) : S d e w.drew base ok v xs := S_below h (Vv (Below.refl _ _))
theorem S_drewN (h : S d e w base ok v xs) (m : Nat) : S d e (w.drewN m) base ok v xs := S_below h (Qf (Below.refl _ _) m)
theorem S_typed (h : S d e w base ok v xs) : ∀ k, v.ownBlock = some k → ∃ cells, w.heap[k]? = some (.cells cells e (0, 0)) := R_typed (S_R h)
theorem S_over' (h : S d e W base ok u xs) (hty : ∀ k, v.ownBlock = some k → ∃ cells, W.heap[k]? = some (.cells cells e' (0, 0))) (ht : ∀ q, q ∈ e :: d.E → q ≠ e') (hg : W.grownBy w1 v.ownBlock) : S d e w1 base ok u xs := by
 obtain ⟨f, h⟩ := h; exact ⟨f, R_over' h hty ht hg⟩
theorem S_after {v1 : Value} (h : S d e W base (fun k => ok k ∧ some k ≠ v.ownBlock) u xs) (hg : W.grownBy w1 v.ownBlock) (hat : v1.ownBlock = v.ownBlock ∨ ∃ b, v1.ownBlock = some b ∧ W.heap.size ≤ b) : S d e w1 base (fun k => ok k ∧ some k ≠ v1.ownBlock) u xs := by
 obtain ⟨f, h⟩ := h; exact ⟨f, R_after h hg hat⟩
theorem Qpy {f f' : Nat → Nat} {zs : List (α × Nat)} (h : (tag f d).R e w base ok v zs) (hf : ∀ k, ok k → k < w.heap.size → f' k = f k) : (tag f' d).R e w base ok v zs := by
 obtain ⟨h0, inner, ho, hr⟩ := R_bound h; exact ⟨fun k hk => (h0 k hk).1, inner, ho, hr.1, fun j p hj => d.M_mono (fun k hk => ⟨⟨hk.1.1.1, hk.1.2⟩, (hf k hk.1.1.1 hk.1.1.2.2.1).trans hk.2⟩) (hr.2 j p hj)⟩
end
section
variable {α β : Type} {d : Kd α} {d' : Kd β} {e e' g : Nat} {w w1 W : World} {base b : Nat} {ok ok' okv oku : Nat → Prop} {u v : Value} {xs : List α} {ys : List β}
theorem Qju (xs : List α) (p : α) : (xs ++ [p]).zipIdx = xs.zipIdx ++ [(p, xs.length)] := by rw [List.zipIdx_append]; simp
end
section
open Classical in
theorem Qov {α : Type} {d : Kd α} {e base : Nat} {okv : Nat → Prop} {w : World} {v : Value} {xs : List α} (h : S d e w base okv v xs) (m : Nat) (okp : Nat → Prop) (hap : ∀ k, okp k → ¬ okv k) : ∃ f, (∀ k, okp k → f k = m) ∧ (tag f d).R e w base okv v xs.zipIdx := by
 obtain ⟨f, h⟩ := h; exact ⟨fun k => if okp k then m else f k, fun k hk => if_pos hk, Qpy h (fun k hk _ => if_neg (fun h2 => hap k h2 hk))⟩
variable {P : Program} {ops : Array Oper} {rest : List Oper} {o : Oper} {a : Act} {Q : Exit → Act → World → Prop} {Kc : Act → World → Prop} {α : Type}
theorem S_append (d : Kd α) {w0 W : World} (base : Nat) (hgd : o.guard = none) (s x : Operand) (t e : TypeId) (z : Value) (bytes : Nat)
  (ho : o.op = .call { callee := .builtin .append, args := #[s, x], argTypes := #[t, t] })
  (ht : P.underlying t = some (.slice e)) (hinfo : (P.info? e).map (fun i => (i.zero, i.size, i.bytes)) = some (some z, d.sz, bytes)) (hz : z.cells.size = d.sz) (hs0 : 0 < d.sz) (hb0 : 0 < bytes)
  (v : Value) (xs : List α) (p : α) (cs : List Value) (ok okp : Nat → Prop) (hs : a.eval s = v) (hx : a.eval x = .slice (some ⟨W.heap.size, 0, none⟩) 1 1) (hp : d.M W base okp p cs) (hokp : ∀ k, okp k → ok k ∧ some k ≠ v.ownBlock) (hfresh : ∀ k, W.heap.size ≤ k → ok k)
  (HO : S d e W base (fun k => ok k ∧ ¬ okp k) v xs) (HB : Below base w0 W) (hbase : base ≤ W.heap.size) (hl : (xs.length + 1) * bytes ≤ 140737488355328)
  (h : ∀ v1 w1, S d e w1 base ok v1 (xs ++ [p]) → Below base w0 w1 → W.grownBy w1 v.ownBlock → (v1.ownBlock = v.ownBlock ∨ ∃ b, v1.ownBlock = some b ∧ W.heap.size ≤ b) → wpList P ops Q rest (a.put o.dst v1) w1) :
  wpList P ops Q (o :: rest) a (W.alloc (.cells cs.toArray e)) := by
 obtain ⟨f, hf, hR⟩ := Qov HO xs.length okp (fun _ hk h2 => h2.2 hk); refine R_append (tag f d) base hgd s x t e z bytes ho ht hinfo hz hs0 hb0 v xs.zipIdx (p, xs.length) cs ok okp hs hx (d.M_mono (fun k hk => ⟨hk, hf k hk⟩) hp) hokp hfresh (R_mono hR (fun _ hk => hk.1)) HB hbase (by rw [List.length_zipIdx]; exact hl) ?_; intro v1 w1 hr
 rw [← Qju] at hr
 exact h v1 w1 ⟨f, hr⟩
end
def gap {α : Type} (f : Nat → Nat) (d : Kd α) (i : Nat) (c : List Value) : Kd (α × Nat) where
 sz := d.sz
 E := d.E
 K := fun w x cs => (x.2 = i → cs = c ∧ cs.length = d.sz ∧ ∀ u ∈ cs, u.oneCell' = true) ∧ (x.2 ≠ i → d.K w x.1 cs)
 M := fun w base ok x cs => (x.2 = i → cs = c ∧ cs.length = d.sz ∧ ∀ u ∈ cs, u.oneCell' = true) ∧ (x.2 ≠ i → d.M w base (fun k => ok k ∧ f k = x.2) x.1 cs)
 K_len := fun {w x cs} h => by
  by_cases hx : x.2 = i
  ·exact (h.1 hx).2.1
  ·exact d.K_len (h.2 hx)
 K_one := fun {w x cs} h => by
  by_cases hx : x.2 = i
  ·exact (h.1 hx).2.2
  ·exact d.K_one (h.2 hx)
 K_below := fun hb h => ⟨h.1, fun hx => d.K_below hb (h.2 hx)⟩
 K_of_M := fun h => ⟨h.1, fun hx => d.K_of_M (h.2 hx)⟩
 M_mono := fun hok h => ⟨h.1, fun hx => d.M_mono (fun k hk => ⟨hok k hk.1, hk.2⟩) (h.2 hx)⟩
 M_bound := fun h => ⟨h.1, fun hx => d.M_mono (fun _ hk => ⟨⟨hk.1.1, hk.2⟩, hk.1.2⟩) (d.M_bound (h.2 hx))⟩
 M_move := fun hm h => ⟨h.1, fun hx => d.M_move (fun k hk => hm k hk.1) (h.2 hx)⟩
 M_lower := fun hb h => ⟨h.1, fun hx => d.M_lower hb (h.2 hx)⟩
def H {α : Type} (d : Kd α) (e : Nat) (w : World) (base : Nat) (ok : Nat → Prop) (v : Value) (xs : List α) (i : Int) (oki : Nat → Prop) (c : List Value) : Prop :=
 (∀ k, oki k → ok k) ∧ ∃ f, (gap f d i.toNat c).R e w base (fun k => ok k ∧ ¬ oki k) v xs.zipIdx
structure Heap {α : Type} (d : Kd α) : Prop where
 K : ∀ {w w1 : World} {x : α} {cs : List Value}, (∀ k, k < w.heap.size → w1.heap[k]? = w.heap[k]?) → d.K w x cs → d.K w1 x cs
theorem Qld {w w1 : World} (hb : ∀ k, k < w.heap.size → w1.heap[k]? = w.heap[k]?) {a : Addr} {v : Value} (h : w.cell? a = some v) : w1.cell? a = some v := by
 have := hb a.block (World.block_lt_of_cell? w a h)
 simpa [World.cell?, this] using h
theorem Heap.C {α : Type} {d : Kd α} (hd : Heap d) {w w1 : World} {A : Option Addr} {n : Nat} {xs : List α} (hb : ∀ k, k < w.heap.size → w1.heap[k]? = w.heap[k]?) (h : d.C w A n xs) : d.C w1 A n xs :=
 ⟨h.1, h.2.1, fun hn => by
  obtain ⟨ad, e, hc⟩ := h.2.2 hn; refine ⟨ad, e, fun j p hj => ?_⟩; obtain ⟨c, hs, hr, hcell⟩ := hc j p hj
  exact ⟨c, hs, hd.K hb hr, fun i u hu => Qld hb (hcell i u hu)⟩⟩
theorem heap_int (k : IntKind) : Heap (Kd.int k) := ⟨fun _ h => h⟩
end Kd
end Go.Proofs.YtadafplbgophfaaW.PrintWords
end
section
namespace Go.Proofs.YtadafplbgophfaaW.PrintWords
open Go.RowKit
def Vl (w W : World) (S : Nat → Prop) : Prop := w.heap.size ≤ W.heap.size ∧ ∀ i, i < w.heap.size → ¬ S i → W.heap[i]? = w.heap[i]?
section
variable {w W W2 : World} {S S2 S' : Nat → Prop}
theorem Vl.refl (w : World) (S : Nat → Prop) : Vl w w S := ⟨Nat.le_refl _, fun _ _ _ => rfl⟩
theorem Vl.of_below (h : Below w.heap.size w W) (S : Nat → Prop) : Vl w W S := ⟨h.size, fun i hi _ => h.block i hi⟩
theorem Vl.mono (h : Vl w W S) (hs : ∀ k, S k → S' k) : Vl w W S' := ⟨h.1, fun i hi hn => h.2 i hi (fun hk => hn (hs i hk))⟩
theorem Vl.then_ (h : Vl w W S) (k : Vl W W2 S2) (hs : ∀ k, S2 k → S k ∨ w.heap.size ≤ k) : Vl w W2 S :=
 ⟨Nat.le_trans h.1 k.1, fun i hi hn => (k.2 i (Nat.lt_of_lt_of_le hi h.1) (fun h2 => (hs i h2).elim hn (fun h3 => by omega))).trans (h.2 i hi hn)⟩
theorem Vl.below (h : Vl w W S) (hb : Below W.heap.size W W2) : Vl w W2 S := h.then_ (Vl.of_below hb (fun _ => False)) (fun _ hk => hk.elim)
theorem Vl.alloc (h : Vl w W S) (o : Obj) : Vl w (W.alloc o) S := h.below (Qh (Below.refl _ _) o)
theorem Vl.drew (h : Vl w W S) : Vl w W.drew S := h
theorem Vl.drewN (h : Vl w W S) (m : Nat) : Vl w (W.drewN m) S := h
theorem Vl.setCell (h : Vl w W S) {p : Addr} (hp : S p.block ∨ w.heap.size ≤ p.block) (u : Value) : Vl w (W.setCell p u) S :=
 h.then_ (S2 := fun k => k = p.block) ⟨by simp [World.setCell], fun i _ hn => Below.heap_setCell W p u i hn⟩ (fun k hk => by rw [hk]; exact hp)
theorem Vl.keep {g : Nat} (h : Xd w W g none) (k : Vl W W2 S2) (hs : ∀ k, S2 k → w.heap.size ≤ k) : Xd w W2 g none :=
 ⟨Nat.le_trans h.1 k.1, fun i hi hg hr => (k.2 i (Nat.lt_of_lt_of_le hi h.1) (fun h2 => by have := hs i h2; omega)).trans (h.2 i hi hg hr)⟩
theorem Qme {g : Nat} {o : Obj} (hb : W.heap[g]? = some o) (hk : Vl W W2 S) (hne : ¬ S g) : W2.heap[g]? = some o := (hk.2 g (Zu hb) hne).trans hb
end
namespace Kd
end Kd
def Qaa (P : World → Prop) (W : World) (ok : Nat → Prop) : Prop := ∀ W' : World, (∀ k, ok k → k < W.heap.size → W'.heap[k]? = W.heap[k]?) → P W'
theorem Qof {W W1 : World} {k : Nat} (h : W1.heap[k]? = W.heap[k]?) (hlt : k < W.heap.size) : k < W1.heap.size := by
 rw [Array.getElem?_eq_getElem hlt] at h
 exact (Array.getElem?_eq_some_iff.1 h).1
namespace Qaa
variable {P Q : World → Prop} {W W1 : World} {ok ok' : Nat → Prop}
theorem now (h : Qaa P W ok) : P W := h W (fun _ _ _ => rfl)
theorem mono (h : Qaa P W ok) (hok : ∀ k, ok k → ok' k) : Qaa P W ok' := fun W' hW => h W' (fun k hk hlt => hW k (hok k hk) hlt)
theorem bound (h : Qaa P W ok) : Qaa P W (fun k => ok k ∧ k < W.heap.size) := fun W' hW => h W' (fun k hk hlt => hW k ⟨hk, hlt⟩ hlt)
theorem step (h : Qaa P W ok) (hm : ∀ k, ok k → k < W.heap.size → W1.heap[k]? = W.heap[k]?) : Qaa P W1 ok := fun W' hW => h W' (fun k hk hlt => (hW k hk (Qof (hm k hk hlt) hlt)).trans (hm k hk hlt))
theorem imp (h : Qaa P W ok) (hi : ∀ W', P W' → Q W') : Qaa Q W ok := fun W' hW => hi W' (h W' hW)
theorem old (h : Qaa P W ok) (hb : Below W.heap.size W W1) : Qaa P W1 (fun k => ok k ∧ k < W.heap.size) := (h.bound).step (fun k _ hlt => hb.block k hlt)
end Qaa
namespace Kd
def F {α : Type} (d : Kd α) (W : World) (ok : Nat → Prop) (A : Option Addr) (n : Nat) (xs : List α) : Prop := Qaa (fun W => d.C W A n xs) W ok
def FK {α : Type} (d : Kd α) (W : World) (ok : Nat → Prop) (x : α) (c : List Value) : Prop := Qaa (fun W => d.K W x c) W ok
section
variable {α β : Type} {d : Kd α} {e base n n' cc g N : Nat} {ok ok' okp S : Nat → Prop} {w w0 w1 W W1 : World} {A A' : Option Addr} {u v v1 : Value} {xs : List α} {xs' : List β} {d' : Kd β} {x : α} {c : List Value}
theorem F_now (h : F d W ok A n xs) : d.C W A n xs := Qaa.now h
theorem F_mono (h : F d W ok A n xs) (hok : ∀ k, ok k → ok' k) : F d W ok' A n xs := Qaa.mono h hok
theorem Qds (h : F d W ok A n xs) : F d W (fun k => ok k ∧ k < W.heap.size) A n xs := Qaa.bound h
theorem Qei (h : F d W ok A n xs) (hm : ∀ k, ok k → k < W.heap.size → W1.heap[k]? = W.heap[k]?) : F d W1 ok A n xs := Qaa.step h hm
theorem Qmb (h : F d W ok A n xs) (hi : ∀ W', d.C W' A n xs → d'.C W' A' n' xs') : F d' W ok A' n' xs' := Qaa.imp h hi
theorem Qfp (h : F d W ok A n xs) (hb : Below W.heap.size W W1) : F d W1 ok A n xs := Qei h (fun k _ hlt => hb.block k hlt)
theorem Qnr (h : F d W ok A n xs) (o : Obj) : F d (W.alloc o) ok A n xs := Qfp h (Qh (Below.refl _ _) o)
theorem F_drew (h : F d W ok A n xs) : F d W.drew ok A n xs := Qfp h (Vv (Below.refl _ _))
theorem Qko (h : F d W ok A n xs) (m : Nat) : F d (W.drewN m) ok A n xs := Qfp h (Qf (Below.refl _ _) m)
theorem Qpx (d : Kd α) (W : World) (ok : Nat → Prop) : F d W ok none ([] : List α).length [] := fun W' _ => C_nil d W'
theorem F_max (h : F d W ok A n xs) : n ≤ 9223372036854775807 := (F_now h).2.1
theorem F_elder' (h : F d W ok A n xs) (hbase : ∀ k, v.ownBlock = some k → W.heap.size ≤ k) (hb : Below W.heap.size W W1) : F d W1 (fun k => ok k ∧ some k ≠ v.ownBlock) A n xs :=
 F_mono (Qaa.old h hb) (fun k hk => ⟨hk.1, fun he => by have := hbase k he.symm; have := hk.2; omega⟩)
theorem Qnq (h : F d W (fun k => ok k ∧ some k ≠ v.ownBlock) A n xs) (hg : W.grownBy W1 v.ownBlock) (hat : v1.ownBlock = v.ownBlock ∨ ∃ b, v1.ownBlock = some b ∧ W.heap.size ≤ b) : F d W1 (fun k => ok k ∧ some k ≠ v1.ownBlock) A n xs := by
 refine F_mono (Qaa.step (Qds h) (fun k hk hlt => hg.block k hlt hk.1.2)) (fun k hk => ⟨hk.1.1, ?_⟩)
 rcases hat with hat | ⟨b, hb, hle⟩
 ·rw [hat]; exact hk.1.2
 ·rw [hb]
  intro he
  injection he with he
  have := hk.2
  omega
theorem F_old (h : F d W ok A n xs) (hb : Below W.heap.size W W1) : F d W1 (fun k => ok k ∧ k < W.heap.size) A n xs := Qaa.old h hb
theorem C_F (hd : Heap d) (h : d.C w A n xs) : F d w (fun k => k < w.heap.size) A n xs := fun _ hW => hd.C (fun k hlt => hW k hlt hlt) h
theorem R_F (h : d.R e W base ok (.slice A n cc) xs) : F d W ok A n xs := fun W' hW => by
 have h2 := R_reads' (Qcm h hW); rw [h2.1]; exact h2.2.2
theorem Qbj (h : FK d W ok x c) (hok : ∀ k, ok k → ok' k) : FK d W ok' x c := Qaa.mono h hok
theorem Qbk (h : FK d W ok x c) (hm : ∀ k, ok k → k < W.heap.size → W1.heap[k]? = W.heap[k]?) : FK d W1 ok x c := Qaa.step h hm
theorem Qnp (h : d.M W base ok x c) : FK d W ok x c := fun _ hW => d.K_of_M (Qck h hW)
end
end Kd
end Go.Proofs.YtadafplbgophfaaW.PrintWords
end
section
namespace Go.Proofs.YtadafplbgophfaaW.PrintWords
open Go.RowKit
namespace Kd
def Jg (sz : Nat) (n : Nat) (inner : List Value) : List (List Value) := (List.range n).map fun j => (inner.drop (j * sz)).take sz
theorem Vj (sz n : Nat) (inner : List Value) : (Jg sz n inner).length = n := by simp [Jg]
theorem Qle {sz n : Nat} {inner : List Value} {j : Nat} (hj : j < n) : (Jg sz n inner)[j]? = some ((inner.drop (j * sz)).take sz) := by simp [Jg, hj]
theorem Qae {sz n : Nat} {inner : List Value} {j : Nat} {c : List Value} (h : (Jg sz n inner)[j]? = some c) : c = (inner.drop (j * sz)).take sz := by
 have hj : j < n := by have := (List.getElem?_eq_some_iff.1 h).1; rwa [Vj] at this
 rw [Qle hj] at h
 injection h with h
 exact h.symm
theorem Qhd {α : Type} {Rr : α → List Value → Prop} {sz : Nat} {xs : List α} {inner : List Value} (h : Yi Rr sz xs inner) (hR : ∀ x c, Rr x c → c.length = sz ∧ ∀ u ∈ c, u.oneCell' = true) : Yi (fun x cs => cs = x ∧ cs.length = sz ∧ ∀ u ∈ cs, u.oneCell' = true) sz (Jg sz xs.length inner) inner := by
 refine ⟨by rw [Vj]; exact h.1, fun j p hj => ?_⟩
 have hjl : j < xs.length := by have := (List.getElem?_eq_some_iff.1 hj).1; rwa [Vj] at this
 have hp := Qae hj; exact ⟨hp.symm, hR _ _ (h.2 j _ (List.getElem?_eq_getElem hjl))⟩
section
variable {α : Type} {d : Kd α} {e base n cc g : Nat} {ok ok' okp S : Nat → Prop} {w w1 W W1 : World} {A : Option Addr} {u v v1 : Value} {xs : List α} {x : α} {c : List Value}
def N {α : Type} (d : Kd α) (e : Nat) (w : World) (base : Nat) (ok : Nat → Prop) (v : Value) (xs : List α) : Prop :=
 (∀ k, v.ownBlock = some k → ok k) ∧ ∃ rows : List (List Value), rows.length = xs.length ∧ (raw d.sz).R e w base (fun k => some k = v.ownBlock) v rows ∧ ∀ (j : Nat) (x : α) (c : List Value), xs[j]? = some x → rows[j]? = some c → FK d w (fun k => ok k ∧ some k ≠ v.ownBlock) x c
theorem R_N (h : d.R e w base ok v xs) : N d e w base ok v xs := by
 obtain ⟨h0, inner, ho, hr⟩ := h; refine ⟨h0, Jg d.sz xs.length inner, Vj _ _ _, ⟨fun k hk => hk.symm, inner, by rw [Vj]; exact ho, Qhd hr (fun x c hp => ⟨d.K_len (d.K_of_M hp), d.K_one (d.K_of_M hp)⟩)⟩, fun j x c hx hc => ?_⟩; rw [Qae hc]; exact Qnp (hr.2 j x hx)
theorem N_nil (d : Kd α) (e : Nat) (w : World) (base : Nat) (ok : Nat → Prop) : N d e w base ok (.slice none 0 0) [] := R_N (R_nil _ _ _ _ _)
theorem N_mono (h : N d e w base ok v xs) (hok : ∀ k, ok k → ok' k) : N d e w base ok' v xs := by
 obtain ⟨h0, rows, hl, hR, hf⟩ := h; exact ⟨fun k hk => hok k (h0 k hk), rows, hl, hR, fun j x c hx hc => Qbj (hf j x c hx hc) (fun k hk => ⟨hok k hk.1, hk.2⟩)⟩
theorem N_lower {base' : Nat} (h : N d e w base ok v xs) (hb : base' ≤ base) : N d e w base' ok v xs := by
 obtain ⟨h0, rows, hl, hR, hf⟩ := h; exact ⟨h0, rows, hl, R_lower hR hb, hf⟩
theorem Qdn (h : N d e w base ok v xs) (hm : ∀ k, ok k → k < w.heap.size → w1.heap[k]? = w.heap[k]?) : N d e w1 base ok v xs := by
 obtain ⟨h0, rows, hl, hR, hf⟩ := h; exact ⟨h0, rows, hl, Qcm hR (fun k hk hlt => hm k (h0 k hk.symm) hlt), fun j x c hx hc => Qbk (hf j x c hx hc) (fun k hk hlt => hm k hk.1 hlt)⟩
theorem N_below (h : N d e w base ok v xs) (hb : Below w.heap.size w w1) : N d e w1 base ok v xs := Qdn h (fun k _ hk => hb.block k hk)
theorem N_alloc (h : N d e w base ok v xs) (o : Obj) : N d e (w.alloc o) base ok v xs := N_below h (Qh (Below.refl _ _) o)
end
end Kd
end Go.Proofs.YtadafplbgophfaaW.PrintWords
end
section
namespace Go.Proofs.YtadafplbgophfaaW.PrintWords
open Go.RowKit
section
variable {P : Program} {d : Nat} {xs ys : Array Value} {f : Field} {fs : List Field} {a b : Value} {r s : Bool} {w : World}
theorem Qdv (hn : (f.name == "_") = false) (ha : (part f.type xs f.offset).run P w = .ok a w) (hb : (part f.type ys f.offset).run P w = .ok b w) (he : (Op.equalIn d f.type a b).run P w = .ok r w) : (Op.eqFields d xs ys [f]).run P w = .ok r w := by
 have hn' : f.name ≠ "_" := by simpa using hn
 simp only [Op.eqFields, if_pos hn', Sem.run_bind, ha, hb, he, Result.andThen_ok]
 cases r <;> simp
theorem Ui (hn : (f.name == "_") = false) (ha : (part f.type xs f.offset).run P w = .ok a w) (hb : (part f.type ys f.offset).run P w = .ok b w) (he : (Op.equalIn d f.type a b).run P w = .ok r w) (hr : (Op.eqFields d xs ys fs).run P w = .ok s w) : (Op.eqFields d xs ys (f :: fs)).run P w = .ok (r && s) w := by
 have hn' : f.name ≠ "_" := by simpa using hn
 rw [Op.eqFields]; simp only [if_pos hn', Sem.run_bind, ha, hb, he, Result.andThen_ok]
 cases r
 ·simp
 ·simpa using hr
theorem Qin {t : TypeId} {fs : Array Field} (hu : P.underlying t = some (.struct fs)) (hp : P.stoodInHeld t = false) (h : (Op.eqFields d xs ys fs.toList).run P w = .ok r w) : (Op.equalIn (d + 1) t (.agg xs) (.agg ys)).run P w = .ok r w := by
 have hf : P.fieldsOf t = fs := by simp [Program.fieldsOf, hu]
 rw [run_equalIn_struct (P := P) w d t xs ys (by rw [hf]; exact hu) hp, hf]; exact h
end
end Go.Proofs.YtadafplbgophfaaW.PrintWords
end
section
namespace Go.Proofs.YtadafplbgophfaaW.PrintWords
theorem Yi.one {α : Type} {R : α → List Value → Prop} {ps : List α} {cs : List Value} {p : α} {v : Value} (hp : R p [v]) (h : Yi R 1 ps cs) : Yi R 1 (p :: ps) (v :: cs) := by
 refine ⟨by simp [h.1], fun j q hq => ?_⟩
 cases j with
 | zero =>
  simp only [List.getElem?_cons_zero, Option.some.injEq] at hq
  subst hq
  simpa using hp
 | succ j =>
  simp only [List.getElem?_cons_succ] at hq
  have h1 := h.2 j q hq
  simpa [Nat.mul_one] using h1
theorem Yi.front {α : Type} {R : α → List Value → Prop} {size : Nat} {ps : List α} {cs c all : List Value} {p : α} (hp : R p c) (hc : c.length = size) (h : Yi R size ps cs) (ha : c ++ cs = all) : Yi R size (p :: ps) all := by
 subst ha; refine ⟨by rw [List.length_append, hc, h.1, List.length_cons, Nat.succ_mul, Nat.add_comm], fun j q hq => ?_⟩
 cases j with
 | zero =>
  simp only [List.getElem?_cons_zero, Option.some.injEq] at hq
  subst hq; rw [Nat.zero_mul, List.drop_zero, List.take_append_of_le_length (by omega), List.take_of_length_le (by omega)]; exact hp
 | succ j =>
  simp only [List.getElem?_cons_succ] at hq
  have h1 := h.2 j q hq; rw [Nat.succ_mul, List.drop_append, List.drop_of_length_le (by rw [hc]; exact Nat.le_add_left _ _), List.nil_append, hc, Nat.add_sub_cancel]; exact h1
theorem Yi.c2 {α : Type} {R : α → List Value → Prop} {ps : List α} {cs : List Value} {p : α} {va vb : Value} (hp : R p [va, vb]) (h : Yi R 2 ps cs) : Yi R 2 (p :: ps) (va :: vb :: cs) := Yi.front hp rfl h rfl
theorem Yi.c3 {α : Type} {R : α → List Value → Prop} {ps : List α} {cs : List Value} {p : α} {va vb vc : Value} (hp : R p [va, vb, vc]) (h : Yi R 3 ps cs) : Yi R 3 (p :: ps) (va :: vb :: vc :: cs) := Yi.front hp rfl h rfl
theorem Yi.c4 {α : Type} {R : α → List Value → Prop} {ps : List α} {cs : List Value} {p : α} {va vb vc vd : Value} (hp : R p [va, vb, vc, vd]) (h : Yi R 4 ps cs) : Yi R 4 (p :: ps) (va :: vb :: vc :: vd :: cs) := Yi.front hp rfl h rfl
theorem Yi.c5 {α : Type} {R : α → List Value → Prop} {ps : List α} {cs : List Value} {p : α} {va vb vc vd ve : Value} (hp : R p [va, vb, vc, vd, ve]) (h : Yi R 5 ps cs) : Yi R 5 (p :: ps) (va :: vb :: vc :: vd :: ve :: cs) := Yi.front hp rfl h rfl
theorem Yi.c6 {α : Type} {R : α → List Value → Prop} {ps : List α} {cs : List Value} {p : α} {va vb vc vd ve vf : Value} (hp : R p [va, vb, vc, vd, ve, vf]) (h : Yi R 6 ps cs) : Yi R 6 (p :: ps) (va :: vb :: vc :: vd :: ve :: vf :: cs) := Yi.front hp rfl h rfl
theorem Yi.c7 {α : Type} {R : α → List Value → Prop} {ps : List α} {cs : List Value} {p : α} {va vb vc vd ve vf vg : Value} (hp : R p [va, vb, vc, vd, ve, vf, vg]) (h : Yi R 7 ps cs) : Yi R 7 (p :: ps) (va :: vb :: vc :: vd :: ve :: vf :: vg :: cs) := Yi.front hp rfl h rfl
theorem Yi.c8 {α : Type} {R : α → List Value → Prop} {ps : List α} {cs : List Value} {p : α} {va vb vc vd ve vf vg vh : Value} (hp : R p [va, vb, vc, vd, ve, vf, vg, vh]) (h : Yi R 8 ps cs) : Yi R 8 (p :: ps) (va :: vb :: vc :: vd :: ve :: vf :: vg :: vh :: cs) := Yi.front hp rfl h rfl
theorem Yi.c9 {α : Type} {R : α → List Value → Prop} {ps : List α} {cs : List Value} {p : α} {va vb vc vd ve vf vg vh vi : Value} (hp : R p [va, vb, vc, vd, ve, vf, vg, vh, vi]) (h : Yi R 9 ps cs) : Yi R 9 (p :: ps) (va :: vb :: vc :: vd :: ve :: vf :: vg :: vh :: vi :: cs) := Yi.front hp rfl h rfl
theorem Yi.c10 {α : Type} {R : α → List Value → Prop} {ps : List α} {cs : List Value} {p : α} {va vb vc vd ve vf vg vh vi vj : Value} (hp : R p [va, vb, vc, vd, ve, vf, vg, vh, vi, vj]) (h : Yi R 10 ps cs) : Yi R 10 (p :: ps) (va :: vb :: vc :: vd :: ve :: vf :: vg :: vh :: vi :: vj :: cs) := Yi.front hp rfl h rfl
end Go.Proofs.YtadafplbgophfaaW.PrintWords
end
section
namespace Go.Proofs.YtadafplbgophfaaW.PrintLast
def up (b : Nat → Bool) (i : Nat) : Nat → Bool := fun j => if j = i then true else b j
end Go.Proofs.YtadafplbgophfaaW.PrintLast
end
section
namespace Go.Proofs.YtadafplbgophfaaW.PrintWords
open Go.RowKit
section
variable {P : Program} {ops : Array Oper} {rest : List Oper} {o : Oper} {a : Act} {Q : Exit → Act → World → Prop} {W : World}
theorem Xq (hw : Region.wanted o (yielded ops a.tmps) = true) (h : wpList P ops Q ({ o with guard := none } :: rest) a W) : wpList P ops Q (o :: rest) a W := by
 have h1 : Region.wanted { o with guard := none } (yielded ops a.tmps) = true := rfl
 unfold wpList at h ⊢
 rw [if_pos h1] at h
 rw [if_pos hw]; exact h
end
end Go.Proofs.YtadafplbgophfaaW.PrintWords
end
section
namespace Go.Proofs.YtadafplbgophfaaW.PrintMore
open Go.RowKit Go.Proofs.YtadafplbgophfaaW.PrintWords
namespace Kd
open Go.Proofs.YtadafplbgophfaaW.PrintWords.Kd
end Kd
namespace Kd
open Go.Proofs.YtadafplbgophfaaW.PrintWords.Kd
end Kd
theorem Xx (k k' : IntKind) (x y : Int) : Builtin.max2 (.int k x) (.int k' y) = pure (.int k (if x < y then y else x)) := by simp only [Builtin.max2, gt_iff_lt]
theorem Xz (k k' : IntKind) (x y : Int) : Builtin.min2 (.int k x) (.int k' y) = pure (.int k (if y < x then y else x)) := by simp only [Builtin.min2]
theorem Yk (ats : Array TypeId) (ty : TypeId) (a b : Value) : Builtin.max_ ats ty #[a, b] = (Builtin.max2 a b >>= fun s => pure s) := by simp only [Builtin.max_, List.foldlM_cons, List.foldlM_nil]
theorem Yl (ats : Array TypeId) (ty : TypeId) (a b : Value) : Builtin.min_ ats ty #[a, b] = (Builtin.min2 a b >>= fun s => pure s) := by simp only [Builtin.min_, List.foldlM_cons, List.foldlM_nil]
theorem Xj (ats : Array TypeId) (ty : TypeId) (a b c : Value) : Builtin.max_ ats ty #[a, b, c] = (Builtin.max2 a b >>= fun s => Builtin.max2 s c >>= fun s => pure s) := by simp only [Builtin.max_, List.foldlM_cons, List.foldlM_nil]
theorem Xk (ats : Array TypeId) (ty : TypeId) (a b c : Value) : Builtin.min_ ats ty #[a, b, c] = (Builtin.min2 a b >>= fun s => Builtin.min2 s c >>= fun s => pure s) := by simp only [Builtin.min_, List.foldlM_cons, List.foldlM_nil]
theorem Xy (ats : Array TypeId) (ty : TypeId) (a b c d : Value) : Builtin.max_ ats ty #[a, b, c, d] = (Builtin.max2 a b >>= fun s => Builtin.max2 s c >>= fun s => Builtin.max2 s d >>= fun s => pure s) := by simp only [Builtin.max_, List.foldlM_cons, List.foldlM_nil]
theorem Ya (ats : Array TypeId) (ty : TypeId) (a b c d : Value) : Builtin.min_ ats ty #[a, b, c, d] = (Builtin.min2 a b >>= fun s => Builtin.min2 s c >>= fun s => Builtin.min2 s d >>= fun s => pure s) := by simp only [Builtin.min_, List.foldlM_cons, List.foldlM_nil]
end Go.Proofs.YtadafplbgophfaaW.PrintMore
namespace Go.Proofs.YtadafplbgophfaaW.PrintWords
open Go.RowKit
section
variable {P : Program} {ops : Array Oper} {rest : List Oper} {o : Oper} {a : Act} {Q : Exit → Act → World → Prop} {W : World}
theorem Xo {f : FuncId} {as1 : Array Operand} {ts : Array TypeId} (_ho : o.op = .call { callee := .value (.func f), args := as1, argTypes := ts }) (h : wpList P ops Q (o :: rest) a W) : wpList P ops Q (o :: rest) a W := h
theorem Xl {b : Builtin} {xs : Array Operand} {ts : Array TypeId} (_ho : o.op = .call { callee := .builtin b, args := xs, argTypes := ts }) (h : wpList P ops Q (o :: rest) a W) : wpList P ops Q (o :: rest) a W := h
end
def mx (a b : Int) : Int := if a < b then b else a
def mn (a b : Int) : Int := if b < a then b else a
theorem Qgl (w : World) (n : Nat) : w.drewN n = w.drewN n := rfl
namespace Kd
end Kd
end Go.Proofs.YtadafplbgophfaaW.PrintWords
namespace Go.Proofs.YtadafplbgophfaaW.PrintWords
open Go.RowKit
namespace Kd
def V {α : Type} (d : Kd α) (_e : Nat) (W : World) (_base : Nat) (ok : Nat → Prop) (v : Value) (xs : List α) : Prop := ∃ A c, v = .slice A xs.length c ∧ xs.length ≤ c ∧ F d W ok A xs.length xs
section
variable {α β : Type} {d : Kd α} {e base base' n m c g N' lo hi : Nat} {ok ok' S : Nat → Prop} {w W w1 : World} {A : Option Addr} {ad : Addr} {u v v1 : Value} {xs : List α}
theorem Qad (h : V d e W base ok v xs) (hF : ∀ A, F d W ok A xs.length xs → F d w1 ok' A xs.length xs) : V d e w1 base' ok' v xs := by
 obtain ⟨A, c, hv, hl, hf⟩ := h; exact ⟨A, c, hv, hl, hF A hf⟩
theorem V_mk (hl : xs.length ≤ c) (hf : F d W ok A xs.length xs) : V d e W base ok (.slice A xs.length c) xs := ⟨A, c, rfl, hl, hf⟩
theorem V_slice (h : V d e W base ok v xs) : ∃ A c, v = .slice A xs.length c := by
 obtain ⟨A, c, hv, _⟩ := h; exact ⟨A, c, hv⟩
theorem V_at (h : V d e W base ok (.slice A n c) xs) : n = xs.length ∧ n ≤ c ∧ F d W ok A xs.length xs := by
 obtain ⟨A', c', hv, hl, hf⟩ := h
 injection hv with ha hn hc
 subst ha; subst hc; exact ⟨hn, by rw [hn]; exact hl, hf⟩
theorem V_reads' (h : V d e W base ok (.slice A n c) xs) : n = xs.length ∧ n ≤ c ∧ d.C W A xs.length xs := ⟨(V_at h).1, (V_at h).2.1, F_now (V_at h).2.2⟩
theorem V_nil (d : Kd α) (e : Nat) (W : World) (base : Nat) (ok : Nat → Prop) : V d e W base ok (.slice none 0 0) [] := ⟨none, 0, rfl, Nat.le_refl _, Qpx d W ok⟩
theorem V_mono (h : V d e W base ok v xs) (hok : ∀ k, ok k → ok' k) : V d e W base ok' v xs := Qad h (fun _ hf => F_mono hf hok)
theorem V_below (h : V d e W base ok v xs) (hb : Below W.heap.size W w1) : V d e w1 base ok v xs := Qad h (fun _ hf => Qfp hf hb)
theorem V_alloc (h : V d e W base ok v xs) (o : Obj) : V d e (W.alloc o) base ok v xs := Qad h (fun _ hf => Qnr hf o)
theorem V_drew (h : V d e W base ok v xs) : V d e W.drew base ok v xs := Qad h (fun _ hf => F_drew hf)
theorem V_drewN (h : V d e W base ok v xs) (m : Nat) : V d e (W.drewN m) base ok v xs := Qad h (fun _ hf => Qko hf m)
theorem Qnw (h : V d e W base (fun k => ok k ∧ some k ≠ u.ownBlock) v xs) (hg : W.grownBy w1 u.ownBlock) (hat : v1.ownBlock = u.ownBlock ∨ ∃ b, v1.ownBlock = some b ∧ W.heap.size ≤ b) : V d e w1 base (fun k => ok k ∧ some k ≠ v1.ownBlock) v xs := Qad h (fun _ hf => Qnq hf hg hat)
theorem V_afterv (h : V d e W base (fun k => ok k ∧ some k ≠ v.ownBlock) u xs) (hg : W.grownBy w1 v.ownBlock) (hat : v1.ownBlock = v.ownBlock ∨ ∃ b, v1.ownBlock = some b ∧ W.heap.size ≤ b) : V d e w1 base (fun k => ok k ∧ some k ≠ v1.ownBlock) u xs := Qnw h hg hat
theorem V_elder' (h : V d e W base ok v xs) (hbase : ∀ k, u.ownBlock = some k → W.heap.size ≤ k) (hb : Below W.heap.size W w1) : V d e w1 base (fun k => ok k ∧ some k ≠ u.ownBlock) v xs := Qad h (fun _ hf => F_elder' hf hbase hb)
theorem F_take (h : F d W ok A xs.length xs) (hm : m ≤ xs.length) : F d W ok A (xs.take m).length (xs.take m) := Qmb h (fun _ hC => C_take hC hm)
theorem Qbt (h : F d W ok A xs.length xs) (hm : m ≤ xs.length) (hc : xs.length ≤ c) : F d W ok (if c = m then A else A.map (·.add (m * d.sz))) (xs.drop m).length (xs.drop m) := Qmb h (fun _ hC => C_drop hC hm hc)
theorem R_newM {M : Nat → Prop} (h : d.R e w1 W.heap.size ok v xs) (hle : w.heap.size ≤ W.heap.size) (hM : ∀ k, w.heap.size ≤ k → M k) : d.R e w1 W.heap.size (fun k => M k ∧ ok k) v xs := R_mono (R_bound h) (fun k hk => ⟨hM k (Nat.le_trans hle hk.2.1), hk.1⟩)
end
end Kd
end Go.Proofs.YtadafplbgophfaaW.PrintWords
end
section
namespace Go.Proofs.Ytadafplbgophfaa.PA
open Go.RowKit Go.Proofs.YtadafplbgophfaaW.PrintWords Go.Proofs.YtadafplbgophfaaW.PrintLast Go.Proofs.YtadafplbgophfaaW.PrintMore
attribute [local go_sem] Xx Xz Yk Yl Xj Xk Xy Ya
def Qqf : Option Int → Value
 | none => .nilIface
 | some c => .iface 0 (.int .i64 c)
theorem Qt : Qqf none = .nilIface := rfl
theorem Qu (c : Int) : Qqf (some c) = .iface 0 (.int .i64 c) := rfl
theorem Uy : (Try.prog.info? 3).map (fun i => (i.zero, i.size, i.bytes)) = some (some (.int .i64 0), 1, 8) := by kernel_rfl
theorem Ko : (Try.prog.info? 9).map (fun i => (i.zero, i.size, i.bytes)) = some (some (.string ⟨#[]⟩), 1, 16) := by kernel_rfl
theorem Qjy : (Try.prog.info? 22).map (fun i => (i.zero, i.size, i.bytes)) = some (some (.slice none 0 0), 1, 24) := by kernel_rfl
theorem Qjz : (Try.prog.info? 37).map (fun i => (i.zero, i.size, i.bytes)) = some (some (.agg #[(.int .i64 0), (.int .i64 0)]), 2, 16) := by kernel_rfl
theorem Qpp : (Try.prog.info? 78).map (fun i => (i.zero, i.size, i.bytes)) = some (some (.agg #[(.bool false), (.int .i64 0), (.int .i64 0), (.int .i64 0), (.int .i64 0), (.int .i64 0), (.int .i64 0)]), 7, 56) := by kernel_rfl
theorem Qio : (Try.prog.info? 81).map (fun i => (i.zero, i.size, i.bytes)) = some (some (.agg #[(.bool false), (.int .i64 0), (.int .i64 0), (.int .i64 0), (.int .i64 0), (.int .i64 0), (.int .i64 0)]), 7, 56) := by kernel_rfl
theorem Qcy : (Try.prog.info? 120).map (fun i => (i.zero, i.size, i.bytes)) = some (some (.agg #[(.string ⟨#[]⟩), (.string ⟨#[]⟩), (.string ⟨#[]⟩), (.bool false), (.string ⟨#[]⟩), (.string ⟨#[]⟩), (.string ⟨#[]⟩), (.string ⟨#[]⟩), (.bool false)]), 9, 128) := by kernel_rfl
theorem Jp : (Try.prog.info? 123).map (fun i => (i.zero, i.size, i.bytes)) = some (some (.agg #[(.string ⟨#[]⟩), (.string ⟨#[]⟩), (.string ⟨#[]⟩), (.bool false), (.string ⟨#[]⟩), (.string ⟨#[]⟩), (.string ⟨#[]⟩), (.string ⟨#[]⟩), (.bool false)]), 9, 128) := by kernel_rfl
def Qam (xs : List (List Int)) (i : Int) : (List Int) := xs.getD i.toNat ([] : List Int)
theorem Qgg {w : World} {A : Option Addr} {n : Nat} {xs : List (List Int)} (h : Kd.C (Kd.slice 3 (Kd.int .i64)) w A n xs) (i : Int) (h0 : 0 ≤ i) (h1 : i < n) : ∃ ad A0 c0, A = some ad ∧ w.cell? (ad.add i.toNat) = some (.slice A0 (Qam xs i).length c0) ∧ (Qam xs i).length ≤ c0 ∧ (Kd.int .i64).C w A0 (Qam xs i).length (Qam xs i) := by
 obtain ⟨ad, c, e, _, hK, hc0⟩ := Kd.C_get h ([] : List Int) i h0 h1; have hc : ∀ j u, c[j]? = some u → w.cell? (ad.add (i.toNat * 1 + j)) = some u := hc0; obtain ⟨A0, c0, rfl, l0, g0⟩ := hK; exact ⟨ad, A0, c0, e, by have hq := hc 0 _ rfl; rwa [Nat.mul_one, Nat.add_zero] at hq, l0, g0⟩
def Vw (xs : List (List ByteArray)) (i : Int) : (List ByteArray) := xs.getD i.toNat ([] : List ByteArray)
theorem Qfd {w : World} {A : Option Addr} {n : Nat} {xs : List (List ByteArray)} (h : Kd.C (Kd.slice 9 Kd.string) w A n xs) (i : Int) (h0 : 0 ≤ i) (h1 : i < n) : ∃ ad A0 c0, A = some ad ∧ w.cell? (ad.add i.toNat) = some (.slice A0 (Vw xs i).length c0) ∧ (Vw xs i).length ≤ c0 ∧ Kd.string.C w A0 (Vw xs i).length (Vw xs i) := by
 obtain ⟨ad, c, e, _, hK, hc0⟩ := Kd.C_get h ([] : List ByteArray) i h0 h1; have hc : ∀ j u, c[j]? = some u → w.cell? (ad.add (i.toNat * 1 + j)) = some u := hc0; obtain ⟨A0, c0, rfl, l0, g0⟩ := hK; exact ⟨ad, A0, c0, e, by have hq := hc 0 _ rfl; rwa [Nat.mul_one, Nat.add_zero] at hq, l0, g0⟩
structure S37 where
 f0 : Int
 f1 : Int
def z37 : S37 := ⟨(0 : Int), (0 : Int)⟩
def k37 : Kd S37 := Kd.iso (Kd.pair (Kd.int .i64) (Kd.int .i64)) (fun x : S37 => (x.f0, x.f1))
theorem Qmt {w : World} {x : S37} {cs : List Value} (h : k37.K w x cs) : cs = [.int .i64 x.f0, .int .i64 x.f1] := by
 obtain ⟨_, _, rfl, rfl, rfl⟩ := h; exact rfl
theorem Qir (w : World) (base : Nat) (ok : Nat → Prop) (x : S37)  : k37.M w base ok x [.int .i64 x.f0, .int .i64 x.f1] := ⟨[.int .i64 x.f0], [.int .i64 x.f1], rfl, rfl, rfl⟩
def Zm (xs : List S37) (i : Int) : S37 := xs.getD i.toNat z37
theorem Un {w : World} {A : Option Addr} {n : Nat} {xs : List S37} (h : Kd.C k37 w A n xs) (i : Int) (h0 : 0 ≤ i) (h1 : i < n) : ∃ ad , A = some ad ∧ w.cell? (ad.add (i.toNat * 2)) = some (.int .i64 (Zm xs i).f0) ∧ w.cell? ⟨(ad.add (i.toNat * 2)).block, (ad.add (i.toNat * 2)).off + 1, none⟩ = some (.int .i64 (Zm xs i).f1) := by
 obtain ⟨ad, c, e, _, hK, hc0⟩ := Kd.C_get h z37 i h0 h1; have hc : ∀ j u, c[j]? = some u → w.cell? (ad.add (i.toNat * 2 + j)) = some u := hc0; obtain rfl := Qmt hK; exact ⟨ad, e, hc 0 _ rfl, by rw [← Xf _ _ 1 (by omega)]; exact hc 1 _ rfl⟩
structure S39 where
 f0 : Int
 f1 : Int
def k39 : Kd S39 := Kd.iso (Kd.pair (Kd.int .i64) (Kd.int .i64)) (fun x : S39 => (x.f0, x.f1))
structure Uc where
 f0 : Int
 f1 : (List ByteArray)
def Qac : Kd Uc := Kd.iso (Kd.pair (Kd.int .i64) (Kd.slice 9 Kd.string)) (fun x : Uc => (x.f0, x.f1))
structure Ys where
 f0 : Int
 f1 : (List ByteArray)
def Jh : Kd Ys := Kd.iso (Kd.pair (Kd.int .i64) (Kd.slice 9 Kd.string)) (fun x : Ys => (x.f0, x.f1))
structure S76 where
 f0 : Int
 f1 : Int
def z76 : S76 := ⟨(0 : Int), (0 : Int)⟩
def k76 : Kd S76 := Kd.iso (Kd.pair (Kd.int .i64) (Kd.int .i64)) (fun x : S76 => (x.f0, x.f1))
theorem Qdz {w : World} {x : S76} {cs : List Value} (h : k76.K w x cs) : cs = [.int .i64 x.f0, .int .i64 x.f1] := by
 obtain ⟨_, _, rfl, rfl, rfl⟩ := h; exact rfl
theorem Qis (w : World) (base : Nat) (ok : Nat → Prop) (x : S76)  : k76.M w base ok x [.int .i64 x.f0, .int .i64 x.f1] := ⟨[.int .i64 x.f0], [.int .i64 x.f1], rfl, rfl, rfl⟩
structure S78 where
 f0 : Bool
 f1 : S76
 f2 : S76
 f3 : S76
def z78 : S78 := ⟨false, z76, z76, z76⟩
def k78 : Kd S78 := Kd.iso (Kd.pair Kd.bool (Kd.pair k76 (Kd.pair k76 k76))) (fun x : S78 => (x.f0, x.f1, x.f2, x.f3))
theorem Qjj {w : World} {x : S78} {cs : List Value} (h : k78.K w x cs) : cs = [.bool x.f0, .int .i64 x.f1.f0, .int .i64 x.f1.f1, .int .i64 x.f2.f0, .int .i64 x.f2.f1, .int .i64 x.f3.f0, .int .i64 x.f3.f1] := by
 obtain ⟨_, _, rfl, rfl, ⟨_, _, rfl, s1, ⟨_, _, rfl, s3, s5⟩⟩⟩ := h; obtain rfl := Qdz s1; obtain rfl := Qdz s3; obtain rfl := Qdz s5; exact rfl
theorem Qkx (w : World) (base : Nat) (ok : Nat → Prop) (x : S78)  : k78.M w base ok x [.bool x.f0, .int .i64 x.f1.f0, .int .i64 x.f1.f1, .int .i64 x.f2.f0, .int .i64 x.f2.f1, .int .i64 x.f3.f0, .int .i64 x.f3.f1] := ⟨[.bool x.f0], [.int .i64 x.f1.f0, .int .i64 x.f1.f1, .int .i64 x.f2.f0, .int .i64 x.f2.f1, .int .i64 x.f3.f0, .int .i64 x.f3.f1], rfl, rfl, ⟨[.int .i64 x.f1.f0, .int .i64 x.f1.f1], [.int .i64 x.f2.f0, .int .i64 x.f2.f1, .int .i64 x.f3.f0, .int .i64 x.f3.f1], rfl, (Qis w base ok x.f1 ), ⟨[.int .i64 x.f2.f0, .int .i64 x.f2.f1], [.int .i64 x.f3.f0, .int .i64 x.f3.f1], rfl, (Qis w base ok x.f2 ), (Qis w base ok x.f3 )⟩⟩⟩
def Xm (xs : List S78) (i : Int) : S78 := xs.getD i.toNat z78
theorem Qek {w : World} {A : Option Addr} {n : Nat} {xs : List S78} (h : Kd.C k78 w A n xs) (i : Int) (h0 : 0 ≤ i) (h1 : i < n) : ∃ ad , A = some ad ∧ w.cell? (ad.add (i.toNat * 7)) = some (.bool (Xm xs i).f0) ∧ w.cell? ⟨(ad.add (i.toNat * 7)).block, (ad.add (i.toNat * 7)).off + 1, none⟩ = some (.int .i64 (Xm xs i).f1.f0) ∧ w.cell? ⟨(ad.add (i.toNat * 7)).block, (ad.add (i.toNat * 7)).off + 2, none⟩ = some (.int .i64 (Xm xs i).f1.f1) ∧ w.cell? ⟨(ad.add (i.toNat * 7)).block, (ad.add (i.toNat * 7)).off + 3, none⟩ = some (.int .i64 (Xm xs i).f2.f0) ∧ w.cell? ⟨(ad.add (i.toNat * 7)).block, (ad.add (i.toNat * 7)).off + 4, none⟩ = some (.int .i64 (Xm xs i).f2.f1) ∧ w.cell? ⟨(ad.add (i.toNat * 7)).block, (ad.add (i.toNat * 7)).off + 5, none⟩ = some (.int .i64 (Xm xs i).f3.f0) ∧ w.cell? ⟨(ad.add (i.toNat * 7)).block, (ad.add (i.toNat * 7)).off + 6, none⟩ = some (.int .i64 (Xm xs i).f3.f1) := by
 obtain ⟨ad, c, e, _, hK, hc0⟩ := Kd.C_get h z78 i h0 h1; have hc : ∀ j u, c[j]? = some u → w.cell? (ad.add (i.toNat * 7 + j)) = some u := hc0; obtain rfl := Qjj hK; exact ⟨ad, e, hc 0 _ rfl, by rw [← Xf _ _ 1 (by omega)]; exact hc 1 _ rfl, by rw [← Xf _ _ 2 (by omega)]; exact hc 2 _ rfl, by rw [← Xf _ _ 3 (by omega)]; exact hc 3 _ rfl, by rw [← Xf _ _ 4 (by omega)]; exact hc 4 _ rfl, by rw [← Xf _ _ 5 (by omega)]; exact hc 5 _ rfl, by rw [← Xf _ _ 6 (by omega)]; exact hc 6 _ rfl⟩
structure S79 where
 f0 : Int
 f1 : Int
def z79 : S79 := ⟨(0 : Int), (0 : Int)⟩
def k79 : Kd S79 := Kd.iso (Kd.pair (Kd.int .i64) (Kd.int .i64)) (fun x : S79 => (x.f0, x.f1))
theorem Qea {w : World} {x : S79} {cs : List Value} (h : k79.K w x cs) : cs = [.int .i64 x.f0, .int .i64 x.f1] := by
 obtain ⟨_, _, rfl, rfl, rfl⟩ := h; exact rfl
theorem Qit (w : World) (base : Nat) (ok : Nat → Prop) (x : S79)  : k79.M w base ok x [.int .i64 x.f0, .int .i64 x.f1] := ⟨[.int .i64 x.f0], [.int .i64 x.f1], rfl, rfl, rfl⟩
structure S81 where
 f0 : Bool
 f1 : S79
 f2 : S79
 f3 : S79
def z81 : S81 := ⟨false, z79, z79, z79⟩
def k81 : Kd S81 := Kd.iso (Kd.pair Kd.bool (Kd.pair k79 (Kd.pair k79 k79))) (fun x : S81 => (x.f0, x.f1, x.f2, x.f3))
theorem Qmu {w : World} {x : S81} {cs : List Value} (h : k81.K w x cs) : cs = [.bool x.f0, .int .i64 x.f1.f0, .int .i64 x.f1.f1, .int .i64 x.f2.f0, .int .i64 x.f2.f1, .int .i64 x.f3.f0, .int .i64 x.f3.f1] := by
 obtain ⟨_, _, rfl, rfl, ⟨_, _, rfl, s1, ⟨_, _, rfl, s3, s5⟩⟩⟩ := h; obtain rfl := Qea s1; obtain rfl := Qea s3; obtain rfl := Qea s5; exact rfl
theorem Qfw (w : World) (base : Nat) (ok : Nat → Prop) (x : S81)  : k81.M w base ok x [.bool x.f0, .int .i64 x.f1.f0, .int .i64 x.f1.f1, .int .i64 x.f2.f0, .int .i64 x.f2.f1, .int .i64 x.f3.f0, .int .i64 x.f3.f1] := ⟨[.bool x.f0], [.int .i64 x.f1.f0, .int .i64 x.f1.f1, .int .i64 x.f2.f0, .int .i64 x.f2.f1, .int .i64 x.f3.f0, .int .i64 x.f3.f1], rfl, rfl, ⟨[.int .i64 x.f1.f0, .int .i64 x.f1.f1], [.int .i64 x.f2.f0, .int .i64 x.f2.f1, .int .i64 x.f3.f0, .int .i64 x.f3.f1], rfl, (Qit w base ok x.f1 ), ⟨[.int .i64 x.f2.f0, .int .i64 x.f2.f1], [.int .i64 x.f3.f0, .int .i64 x.f3.f1], rfl, (Qit w base ok x.f2 ), (Qit w base ok x.f3 )⟩⟩⟩
def Vt (xs : List S81) (i : Int) : S81 := xs.getD i.toNat z81
theorem Qjv {w : World} {A : Option Addr} {n : Nat} {xs : List S81} (h : Kd.C k81 w A n xs) (i : Int) (h0 : 0 ≤ i) (h1 : i < n) : ∃ ad , A = some ad ∧ w.cell? (ad.add (i.toNat * 7)) = some (.bool (Vt xs i).f0) ∧ w.cell? ⟨(ad.add (i.toNat * 7)).block, (ad.add (i.toNat * 7)).off + 1, none⟩ = some (.int .i64 (Vt xs i).f1.f0) ∧ w.cell? ⟨(ad.add (i.toNat * 7)).block, (ad.add (i.toNat * 7)).off + 2, none⟩ = some (.int .i64 (Vt xs i).f1.f1) ∧ w.cell? ⟨(ad.add (i.toNat * 7)).block, (ad.add (i.toNat * 7)).off + 3, none⟩ = some (.int .i64 (Vt xs i).f2.f0) ∧ w.cell? ⟨(ad.add (i.toNat * 7)).block, (ad.add (i.toNat * 7)).off + 4, none⟩ = some (.int .i64 (Vt xs i).f2.f1) ∧ w.cell? ⟨(ad.add (i.toNat * 7)).block, (ad.add (i.toNat * 7)).off + 5, none⟩ = some (.int .i64 (Vt xs i).f3.f0) ∧ w.cell? ⟨(ad.add (i.toNat * 7)).block, (ad.add (i.toNat * 7)).off + 6, none⟩ = some (.int .i64 (Vt xs i).f3.f1) := by
 obtain ⟨ad, c, e, _, hK, hc0⟩ := Kd.C_get h z81 i h0 h1; have hc : ∀ j u, c[j]? = some u → w.cell? (ad.add (i.toNat * 7 + j)) = some u := hc0; obtain rfl := Qmu hK; exact ⟨ad, e, hc 0 _ rfl, by rw [← Xf _ _ 1 (by omega)]; exact hc 1 _ rfl, by rw [← Xf _ _ 2 (by omega)]; exact hc 2 _ rfl, by rw [← Xf _ _ 3 (by omega)]; exact hc 3 _ rfl, by rw [← Xf _ _ 4 (by omega)]; exact hc 4 _ rfl, by rw [← Xf _ _ 5 (by omega)]; exact hc 5 _ rfl, by rw [← Xf _ _ 6 (by omega)]; exact hc 6 _ rfl⟩
structure Xi where
 f0 : ByteArray
 f1 : ByteArray
 f2 : ByteArray
 f3 : Bool
 f4 : ByteArray
 f5 : ByteArray
 f6 : ByteArray
 f7 : ByteArray
 f8 : Bool
def Qno : Xi := ⟨(⟨#[]⟩ : ByteArray), (⟨#[]⟩ : ByteArray), (⟨#[]⟩ : ByteArray), false, (⟨#[]⟩ : ByteArray), (⟨#[]⟩ : ByteArray), (⟨#[]⟩ : ByteArray), (⟨#[]⟩ : ByteArray), false⟩
def Kf : Kd Xi := Kd.iso (Kd.pair Kd.string (Kd.pair Kd.string (Kd.pair Kd.string (Kd.pair Kd.bool (Kd.pair Kd.string (Kd.pair Kd.string (Kd.pair Kd.string (Kd.pair Kd.string Kd.bool)))))))) (fun x : Xi => (x.f0, x.f1, x.f2, x.f3, x.f4, x.f5, x.f6, x.f7, x.f8))
theorem Qhx {w : World} {x : Xi} {cs : List Value} (h : Kf.K w x cs) : cs = [.string x.f0, .string x.f1, .string x.f2, .bool x.f3, .string x.f4, .string x.f5, .string x.f6, .string x.f7, .bool x.f8] := by
 obtain ⟨_, _, rfl, rfl, ⟨_, _, rfl, rfl, ⟨_, _, rfl, rfl, ⟨_, _, rfl, rfl, ⟨_, _, rfl, rfl, ⟨_, _, rfl, rfl, ⟨_, _, rfl, rfl, ⟨_, _, rfl, rfl, rfl⟩⟩⟩⟩⟩⟩⟩⟩ := h; exact rfl
theorem Qgu {w : World} {base : Nat} {ok : Nat → Prop} {x : Xi} {cs : List Value} (h : Kf.M w base ok x cs) : cs = [.string x.f0, .string x.f1, .string x.f2, .bool x.f3, .string x.f4, .string x.f5, .string x.f6, .string x.f7, .bool x.f8] := by
 obtain ⟨_, _, rfl, rfl, ⟨_, _, rfl, rfl, ⟨_, _, rfl, rfl, ⟨_, _, rfl, rfl, ⟨_, _, rfl, rfl, ⟨_, _, rfl, rfl, ⟨_, _, rfl, rfl, ⟨_, _, rfl, rfl, rfl⟩⟩⟩⟩⟩⟩⟩⟩ := h; exact rfl
theorem Ul (w : World) (base : Nat) (ok : Nat → Prop) (x : Xi)  : Kf.M w base ok x [.string x.f0, .string x.f1, .string x.f2, .bool x.f3, .string x.f4, .string x.f5, .string x.f6, .string x.f7, .bool x.f8] := ⟨[.string x.f0], [.string x.f1, .string x.f2, .bool x.f3, .string x.f4, .string x.f5, .string x.f6, .string x.f7, .bool x.f8], rfl, rfl, ⟨[.string x.f1], [.string x.f2, .bool x.f3, .string x.f4, .string x.f5, .string x.f6, .string x.f7, .bool x.f8], rfl, rfl, ⟨[.string x.f2], [.bool x.f3, .string x.f4, .string x.f5, .string x.f6, .string x.f7, .bool x.f8], rfl, rfl, ⟨[.bool x.f3], [.string x.f4, .string x.f5, .string x.f6, .string x.f7, .bool x.f8], rfl, rfl, ⟨[.string x.f4], [.string x.f5, .string x.f6, .string x.f7, .bool x.f8], rfl, rfl, ⟨[.string x.f5], [.string x.f6, .string x.f7, .bool x.f8], rfl, rfl, ⟨[.string x.f6], [.string x.f7, .bool x.f8], rfl, rfl, ⟨[.string x.f7], [.bool x.f8], rfl, rfl, rfl⟩⟩⟩⟩⟩⟩⟩⟩
def Qd (xs : List Xi) (i : Int) : Xi := xs.getD i.toNat Qno
theorem Ub {w : World} {A : Option Addr} {n : Nat} {xs : List Xi} (h : Kd.C Kf w A n xs) (i : Int) (h0 : 0 ≤ i) (h1 : i < n) : ∃ ad , A = some ad ∧ w.cell? (ad.add (i.toNat * 9)) = some (.string (Qd xs i).f0) ∧ w.cell? ⟨(ad.add (i.toNat * 9)).block, (ad.add (i.toNat * 9)).off + 1, none⟩ = some (.string (Qd xs i).f1) ∧ w.cell? ⟨(ad.add (i.toNat * 9)).block, (ad.add (i.toNat * 9)).off + 2, none⟩ = some (.string (Qd xs i).f2) ∧ w.cell? ⟨(ad.add (i.toNat * 9)).block, (ad.add (i.toNat * 9)).off + 3, none⟩ = some (.bool (Qd xs i).f3) ∧ w.cell? ⟨(ad.add (i.toNat * 9)).block, (ad.add (i.toNat * 9)).off + 4, none⟩ = some (.string (Qd xs i).f4) ∧ w.cell? ⟨(ad.add (i.toNat * 9)).block, (ad.add (i.toNat * 9)).off + 5, none⟩ = some (.string (Qd xs i).f5) ∧ w.cell? ⟨(ad.add (i.toNat * 9)).block, (ad.add (i.toNat * 9)).off + 6, none⟩ = some (.string (Qd xs i).f6) ∧ w.cell? ⟨(ad.add (i.toNat * 9)).block, (ad.add (i.toNat * 9)).off + 7, none⟩ = some (.string (Qd xs i).f7) ∧ w.cell? ⟨(ad.add (i.toNat * 9)).block, (ad.add (i.toNat * 9)).off + 8, none⟩ = some (.bool (Qd xs i).f8) := by
 obtain ⟨ad, c, e, _, hK, hc0⟩ := Kd.C_get h Qno i h0 h1; have hc : ∀ j u, c[j]? = some u → w.cell? (ad.add (i.toNat * 9 + j)) = some u := hc0; obtain rfl := Qhx hK; exact ⟨ad, e, hc 0 _ rfl, by rw [← Xf _ _ 1 (by omega)]; exact hc 1 _ rfl, by rw [← Xf _ _ 2 (by omega)]; exact hc 2 _ rfl, by rw [← Xf _ _ 3 (by omega)]; exact hc 3 _ rfl, by rw [← Xf _ _ 4 (by omega)]; exact hc 4 _ rfl, by rw [← Xf _ _ 5 (by omega)]; exact hc 5 _ rfl, by rw [← Xf _ _ 6 (by omega)]; exact hc 6 _ rfl, by rw [← Xf _ _ 7 (by omega)]; exact hc 7 _ rfl, by rw [← Xf _ _ 8 (by omega)]; exact hc 8 _ rfl⟩
structure Vz where
 f0 : ByteArray
 f1 : ByteArray
 f2 : ByteArray
def Qeh : Vz := ⟨(⟨#[]⟩ : ByteArray), (⟨#[]⟩ : ByteArray), (⟨#[]⟩ : ByteArray)⟩
def Qiq : Kd Vz := Kd.iso (Kd.pair Kd.string (Kd.pair Kd.string Kd.string)) (fun x : Vz => (x.f0, x.f1, x.f2))
theorem Qet {w : World} {x : Vz} {cs : List Value} (h : Qiq.K w x cs) : cs = [.string x.f0, .string x.f1, .string x.f2] := by
 obtain ⟨_, _, rfl, rfl, ⟨_, _, rfl, rfl, rfl⟩⟩ := h; exact rfl
theorem Qgs {w : World} {base : Nat} {ok : Nat → Prop} {x : Vz} {cs : List Value} (h : Qiq.M w base ok x cs) : cs = [.string x.f0, .string x.f1, .string x.f2] := by
 obtain ⟨_, _, rfl, rfl, ⟨_, _, rfl, rfl, rfl⟩⟩ := h; exact rfl
theorem Qji (w : World) (base : Nat) (ok : Nat → Prop) (x : Vz)  : Qiq.M w base ok x [.string x.f0, .string x.f1, .string x.f2] := ⟨[.string x.f0], [.string x.f1, .string x.f2], rfl, rfl, ⟨[.string x.f1], [.string x.f2], rfl, rfl, rfl⟩⟩
structure Yv where
 f0 : Vz
 f1 : Bool
 f2 : ByteArray
 f3 : ByteArray
 f4 : ByteArray
 f5 : ByteArray
 f6 : Bool
def Qou : Yv := ⟨Qeh, false, (⟨#[]⟩ : ByteArray), (⟨#[]⟩ : ByteArray), (⟨#[]⟩ : ByteArray), (⟨#[]⟩ : ByteArray), false⟩
def Je : Kd Yv := Kd.iso (Kd.pair Qiq (Kd.pair Kd.bool (Kd.pair Kd.string (Kd.pair Kd.string (Kd.pair Kd.string (Kd.pair Kd.string Kd.bool)))))) (fun x : Yv => (x.f0, x.f1, x.f2, x.f3, x.f4, x.f5, x.f6))
theorem Qln {w : World} {x : Yv} {cs : List Value} (h : Je.K w x cs) : cs = [.string x.f0.f0, .string x.f0.f1, .string x.f0.f2, .bool x.f1, .string x.f2, .string x.f3, .string x.f4, .string x.f5, .bool x.f6] := by
 obtain ⟨_, _, rfl, s0, ⟨_, _, rfl, rfl, ⟨_, _, rfl, rfl, ⟨_, _, rfl, rfl, ⟨_, _, rfl, rfl, ⟨_, _, rfl, rfl, rfl⟩⟩⟩⟩⟩⟩ := h; obtain rfl := Qet s0; exact rfl
theorem Qgt {w : World} {base : Nat} {ok : Nat → Prop} {x : Yv} {cs : List Value} (h : Je.M w base ok x cs) : cs = [.string x.f0.f0, .string x.f0.f1, .string x.f0.f2, .bool x.f1, .string x.f2, .string x.f3, .string x.f4, .string x.f5, .bool x.f6] := by
 obtain ⟨_, _, rfl, s0, ⟨_, _, rfl, rfl, ⟨_, _, rfl, rfl, ⟨_, _, rfl, rfl, ⟨_, _, rfl, rfl, ⟨_, _, rfl, rfl, rfl⟩⟩⟩⟩⟩⟩ := h; obtain rfl := Qgs s0; exact rfl
theorem Qba (w : World) (base : Nat) (ok : Nat → Prop) (x : Yv)  : Je.M w base ok x [.string x.f0.f0, .string x.f0.f1, .string x.f0.f2, .bool x.f1, .string x.f2, .string x.f3, .string x.f4, .string x.f5, .bool x.f6] := ⟨[.string x.f0.f0, .string x.f0.f1, .string x.f0.f2], [.bool x.f1, .string x.f2, .string x.f3, .string x.f4, .string x.f5, .bool x.f6], rfl, (Qji w base ok x.f0 ), ⟨[.bool x.f1], [.string x.f2, .string x.f3, .string x.f4, .string x.f5, .bool x.f6], rfl, rfl, ⟨[.string x.f2], [.string x.f3, .string x.f4, .string x.f5, .bool x.f6], rfl, rfl, ⟨[.string x.f3], [.string x.f4, .string x.f5, .bool x.f6], rfl, rfl, ⟨[.string x.f4], [.string x.f5, .bool x.f6], rfl, rfl, ⟨[.string x.f5], [.bool x.f6], rfl, rfl, rfl⟩⟩⟩⟩⟩⟩
def Qb (xs : List Yv) (i : Int) : Yv := xs.getD i.toNat Qou
theorem Ky {w : World} {A : Option Addr} {n : Nat} {xs : List Yv} (h : Kd.C Je w A n xs) (i : Int) (h0 : 0 ≤ i) (h1 : i < n) : ∃ ad , A = some ad ∧ w.cell? (ad.add (i.toNat * 9)) = some (.string (Qb xs i).f0.f0) ∧ w.cell? ⟨(ad.add (i.toNat * 9)).block, (ad.add (i.toNat * 9)).off + 1, none⟩ = some (.string (Qb xs i).f0.f1) ∧ w.cell? ⟨(ad.add (i.toNat * 9)).block, (ad.add (i.toNat * 9)).off + 2, none⟩ = some (.string (Qb xs i).f0.f2) ∧ w.cell? ⟨(ad.add (i.toNat * 9)).block, (ad.add (i.toNat * 9)).off + 3, none⟩ = some (.bool (Qb xs i).f1) ∧ w.cell? ⟨(ad.add (i.toNat * 9)).block, (ad.add (i.toNat * 9)).off + 4, none⟩ = some (.string (Qb xs i).f2) ∧ w.cell? ⟨(ad.add (i.toNat * 9)).block, (ad.add (i.toNat * 9)).off + 5, none⟩ = some (.string (Qb xs i).f3) ∧ w.cell? ⟨(ad.add (i.toNat * 9)).block, (ad.add (i.toNat * 9)).off + 6, none⟩ = some (.string (Qb xs i).f4) ∧ w.cell? ⟨(ad.add (i.toNat * 9)).block, (ad.add (i.toNat * 9)).off + 7, none⟩ = some (.string (Qb xs i).f5) ∧ w.cell? ⟨(ad.add (i.toNat * 9)).block, (ad.add (i.toNat * 9)).off + 8, none⟩ = some (.bool (Qb xs i).f6) := by
 obtain ⟨ad, c, e, _, hK, hc0⟩ := Kd.C_get h Qou i h0 h1; have hc : ∀ j u, c[j]? = some u → w.cell? (ad.add (i.toNat * 9 + j)) = some u := hc0; obtain rfl := Qln hK; exact ⟨ad, e, hc 0 _ rfl, by rw [← Xf _ _ 1 (by omega)]; exact hc 1 _ rfl, by rw [← Xf _ _ 2 (by omega)]; exact hc 2 _ rfl, by rw [← Xf _ _ 3 (by omega)]; exact hc 3 _ rfl, by rw [← Xf _ _ 4 (by omega)]; exact hc 4 _ rfl, by rw [← Xf _ _ 5 (by omega)]; exact hc 5 _ rfl, by rw [← Xf _ _ 6 (by omega)]; exact hc 6 _ rfl, by rw [← Xf _ _ 7 (by omega)]; exact hc 7 _ rfl, by rw [← Xf _ _ 8 (by omega)]; exact hc 8 _ rfl⟩
end Go.Proofs.Ytadafplbgophfaa.PA
end
section
namespace Go.Proofs.Ytadafplbgophfaa.PA
open Go.RowKit Go.Proofs.YtadafplbgophfaaW.PrintWords Go.Proofs.YtadafplbgophfaaW.PrintLast Go.Proofs.YtadafplbgophfaaW.PrintMore
section
variable {P : Program} {ops : Array Oper} {Q : Exit → Act → World → Prop} {md : Region.Mode} {S : World → Prop} {ds : List Nat}
theorem pu_ {i : Nat} {N : Option Tmp} {oi : Oper} {v : Value} {fuel : Nat} {l : Array Bool} {a : Act} {w : World} {a' : Act} (l' : Array Bool) (h : Xb P md ops Q S ds fuel l' a' w) (hi : ops[i]? = some oi := by rfl) (hN : oi.dst = N := by rfl) (hc : Qmd md ops l l' i = true := by exact Uj HT_.out (by kernel_rfl))
  (hQ : ∀ c a w, Q (.panic c) (a.put oi.dst v) w → Q (.panic c) a w := by exact fun _ _ _ h => h) (hw : Region.wanted oi (yielded ops a.tmps) = true := by rfl) (hy : ∀ w, (execOp a.eval oi).run P w = .ok (.value v) w := by intro w'; go_simp; with_reducible rfl)
  (ha : a.put N v = a' := by simp only [Act.put, sA_, sB_, sC_, Yx, Vi]; rfl) : Xb P md ops Q S ds (fuel + 1) l a w :=
 Km l' hi hN hc hQ (Or.inl ⟨hw, hy⟩) ha h
theorem ta_ {i : Nat} {N : Option Tmp} {oi : Oper} {v : Value} {fuel : Nat} {l : Array Bool} {a : Act} {w : World} {a' : Act} (l' : Array Bool) (h : Xb P md ops Q S ds fuel l' a' w) (hi : ops[i]? = some oi := by rfl) (hN : oi.dst = N := by rfl) (hc : Qig md ops ds l l' i = true := by exact Qhk HT_.out HW_.out (by kernel_rfl))
  (hQ : ∀ c a w, Q (.panic c) (a.put oi.dst v) w → Q (.panic c) a w := by exact fun _ _ _ h => h) (hS : S w := by exact hHeld) (hw : Region.wanted oi (yielded ops a.tmps) = true := by rfl) (hy : ∀ w, S w → (execOp a.eval oi).run P w = .ok (.value v) w := by intro w' hs_; (repeat (obtain ⟨_, hs_⟩ := hs_)); go_simp; with_reducible rfl)
  (ha : a.put N v = a' := by simp only [Act.put, sA_, sB_, sC_, Yx, Vi]; rfl) : Xb P md ops Q S ds (fuel + 1) l a w :=
 take_ l' hi hN hc hQ (Or.inl ⟨hw, hy⟩) hS ha h
theorem on_ {i : Nat} {N : Option Tmp} {oi : Oper} {fuel : Nat} {l : Array Bool} {a : Act} {w : World} (l' : Array Bool)
  (h : ∀ K : Act → World → Prop, Shut (∀ a' w', S w' → (S w' → Xb P md ops Q S ds fuel l' a' w') → K a' w') → if Region.wanted oi (yielded ops a.tmps) = true then Oper.wp P oi a w K Q else K (a.put N undef) w)
  (hi : ops[i]? = some oi := by rfl) (hN : oi.dst = N := by rfl) (hc : Qdr md ops l l' i = true := by exact Kx HT_.out (by kernel_rfl)) (hd : i ∉ ds := by decide) : Xb P md ops Q S ds (fuel + 1) l a w := Qol l' hi hN hc hd h
theorem nN_ (N : Nat) {fuel : Nat} {l : Array Bool} {a a' a0 : Act} {v : Value} {w : World} (h : Xb P md ops Q S ds fuel l a' w) (h0 : a = Act.put a0 (some N) v := by rfl) (ha : Act.put a0 (some N) v = a' := by simp only [Act.put, sA_, sB_, sC_, Yx, Vi]; rfl) : Xb P md ops Q S ds fuel l a w := Qjn (h0.trans ha) h
theorem np_ {fuel : Nat} {l : Array Bool} {a a' : Act} {w : World} (h : Xb P md ops Q S ds fuel l a' w) (ha : a = a' := by first | (simp only [Qha, Act.put, sA_, sB_, sC_]; done) | (simp only [Qha, Act.put, sA_, sB_, sC_]; rfl)) : Xb P md ops Q S ds fuel l a w := Qjn ha h
theorem wt_ {i : Nat} {oi : Oper} {v : Value} {fuel : Nat} {listed l' : Array Bool} {a a' : Act} {w : World} (h : wpAnyH P md ops Q S fuel l' a' w) (hi : ops[i]? = some oi := by (try simp only [List.getElem?_toArray, List.getElem?_cons_succ, List.getElem?_cons_zero]); exact rfl)
  (hs : Region.noSelect ops = true := by kernel_rfl) (hf : Region.free md ops listed i = true := by kernel_rfl) (hr : (Region.ready md ops listed).contains i = true := by kernel_rfl)
  (hQ : ∀ c a w, Q (.panic c) (a.put oi.dst v) w → Q (.panic c) a w := by exact fun _ _ _ h => h) (hw : Region.wanted oi (yielded ops a.tmps) = true := by rfl) (hy : ∀ w, S w → (execOp a.eval oi).run P w = .ok (.value v) w := by intro w hSw; (try dsimp only at hSw); go_simp; try with_reducible rfl) (hS : S w := by exact hHeld)
  (hl : listed.setIfInBounds i true = l' := by simp only [sA_, sB_, sC_]) (ha : a.put oi.dst v = a' := by simp only [Act.put, sA_, sB_, sC_]) : wpAnyH P md ops Q S (fuel + 1) listed a w := by
 subst hl; subst ha; exact wpAnyH_take hi hs hf hr hQ (Or.inl ⟨hw, hy⟩) hS h
theorem wu_ {i : Nat} {oi : Oper} {fuel : Nat} {listed l' : Array Bool} {a a' : Act} {w : World} (h : wpAnyH P md ops Q S fuel l' a' w) (hi : ops[i]? = some oi := by (try simp only [List.getElem?_toArray, List.getElem?_cons_succ, List.getElem?_cons_zero]); exact rfl)
  (hs : Region.noSelect ops = true := by kernel_rfl) (hf : Region.free md ops listed i = true := by kernel_rfl) (hr : (Region.ready md ops listed).contains i = true := by kernel_rfl)
  (hQ : ∀ c a w, Q (.panic c) (a.put oi.dst undef) w → Q (.panic c) a w := by exact fun _ _ _ h => h) (hw : Region.wanted oi (yielded ops a.tmps) = false := by rfl) (hS : S w := by exact hHeld)
  (hl : listed.setIfInBounds i true = l' := by simp only [sA_, sB_, sC_]) (ha : a.put oi.dst undef = a' := by simp only [Act.put, sA_, sB_, sC_]) : wpAnyH P md ops Q S (fuel + 1) listed a w := by
 subst hl; subst ha; exact wpAnyH_take hi hs hf hr hQ (Or.inr ⟨hw, rfl⟩) hS h
end
theorem Zx {p : Prop} (h : p := by first | (with_reducible assumption) | assumption) : p := h
theorem sm_ {p : Prop} (h : p := by first | rfl | (simp; done) | (simp [*]; done)) : p := h
theorem bw_ {p : Prop} (h : p := by repeat (first | (with_reducible first | exact HB.out | apply Qh | apply Qf | apply Qi | refine Qr ?_ GE101.out | refine Qr ?_ GE102.out | refine Qr ?_ GE103.out | refine Qr ?_ GE104.out | refine Qr ?_ GE105.out | refine Qr ?_ GE106.out | refine Qr ?_ GE107.out | refine Qr ?_ GE108.out | refine Qr ?_ GE109.out | refine Qr ?_ GE110.out | refine Qr ?_ GE111.out | refine Qr ?_ GE112.out) | exact HB.out)) : p := h
theorem gw_ {w W : World} {g : Nat} (hg : g = W.heap.size) (hb : Below w.heap.size w W := by exact bw_) : w.heap.size ≤ g := by rw [hg]; exact Qo hb
theorem bk_ {w W : World} {g : Nat} {o : Obj} (h : w.heap[g]? = some o) (hb : Below w.heap.size w W := by (with_reducible repeat (first | apply Qh | apply Qf | apply Qi)); exact Below.refl _ _) : W.heap[g]? = some o := Qq h hb
theorem dr_ {w0 w W : World} (h : Below w0.heap.size w0 w) (hb : Below w.heap.size w W := by (with_reducible repeat (first | apply Qh | apply Qf | apply Qi)); exact Below.refl _ _) : Below w0.heap.size w0 W := Qj h hb
theorem ro_ {α : Type} {d : Kd α} {e base : Nat} {ok : Nat → Prop} {w W : World} {v : Value} {xs : List α} (h : d.R e w base ok v xs) (hb : Below w.heap.size w W := by (with_reducible repeat (first | apply Qh | apply Qf | apply Qi)); exact Below.refl _ _) : d.R e W base ok v xs := Kd.R_below h hb
theorem so_ {α : Type} {d : Kd α} {e base : Nat} {ok : Nat → Prop} {w W : World} {v : Value} {xs : List α} (h : d.S e w base ok v xs) (hb : Below w.heap.size w W := by (with_reducible repeat (first | apply Qh | apply Qf | apply Qi)); exact Below.refl _ _) : d.S e W base ok v xs := Kd.S_below h hb
theorem vo_ {α : Type} {d : Kd α} {e base : Nat} {ok : Nat → Prop} {w W : World} {v : Value} {xs : List α} (h : d.V e w base ok v xs) (hb : Below w.heap.size w W := by (with_reducible repeat (first | apply Qh | apply Qf | apply Qi)); exact Below.refl _ _) : d.V e W base ok v xs := Kd.V_below h hb
theorem Qfn {w : World} {g : Nat} {t : TypeId} {v0 v1 : Value} (h : w.heap[g]? = some (.cells #[v0, v1] t (0, 0))) : w.cell? ⟨g, 0, none⟩ = some v0 ∧ w.cell? ⟨g, 1, none⟩ = some v1 := ⟨(Qc h 0).trans rfl, (Qc h 1).trans rfl⟩
theorem Qdh {w : World} {g : Nat} {t : TypeId} {cs : Array Value} (h : w.heap[g]? = some (.cells cs t (0, 0))) : w.frozen? ⟨g, 0, none⟩ = false ∧ w.frozen? ⟨g, 1, none⟩ = false := ⟨Qe h 0, Qe h 1⟩
theorem Kj {w : World} {g : Nat} {t : TypeId} {v0 v1 v2 : Value} (h : w.heap[g]? = some (.cells #[v0, v1, v2] t (0, 0))) : w.cell? ⟨g, 0, none⟩ = some v0 ∧ w.cell? ⟨g, 1, none⟩ = some v1 ∧ w.cell? ⟨g, 2, none⟩ = some v2 := ⟨(Qc h 0).trans rfl, (Qc h 1).trans rfl, (Qc h 2).trans rfl⟩
theorem Qll {w : World} {g : Nat} {t : TypeId} {cs : Array Value} (h : w.heap[g]? = some (.cells cs t (0, 0))) : w.frozen? ⟨g, 0, none⟩ = false ∧ w.frozen? ⟨g, 1, none⟩ = false ∧ w.frozen? ⟨g, 2, none⟩ = false := ⟨Qe h 0, Qe h 1, Qe h 2⟩
theorem Qbv {w : World} {g : Nat} {t : TypeId} {v0 v1 v2 v3 v4 v5 v6 : Value} (h : w.heap[g]? = some (.cells #[v0, v1, v2, v3, v4, v5, v6] t (0, 0))) : w.cell? ⟨g, 0, none⟩ = some v0 ∧ w.cell? ⟨g, 1, none⟩ = some v1 ∧ w.cell? ⟨g, 2, none⟩ = some v2 ∧ w.cell? ⟨g, 3, none⟩ = some v3 ∧ w.cell? ⟨g, 4, none⟩ = some v4 ∧ w.cell? ⟨g, 5, none⟩ = some v5 ∧ w.cell? ⟨g, 6, none⟩ = some v6 := ⟨(Qc h 0).trans rfl, (Qc h 1).trans rfl, (Qc h 2).trans rfl, (Qc h 3).trans rfl, (Qc h 4).trans rfl, (Qc h 5).trans rfl, (Qc h 6).trans rfl⟩
theorem Qdx {w : World} {g : Nat} {t : TypeId} {cs : Array Value} (h : w.heap[g]? = some (.cells cs t (0, 0))) : w.frozen? ⟨g, 0, none⟩ = false ∧ w.frozen? ⟨g, 1, none⟩ = false ∧ w.frozen? ⟨g, 2, none⟩ = false ∧ w.frozen? ⟨g, 3, none⟩ = false ∧ w.frozen? ⟨g, 4, none⟩ = false ∧ w.frozen? ⟨g, 5, none⟩ = false ∧ w.frozen? ⟨g, 6, none⟩ = false := ⟨Qe h 0, Qe h 1, Qe h 2, Qe h 3, Qe h 4, Qe h 5, Qe h 6⟩
theorem Ju {w : World} {g : Nat} {t : TypeId} {v0 v1 v2 v3 v4 v5 v6 v7 v8 : Value} (h : w.heap[g]? = some (.cells #[v0, v1, v2, v3, v4, v5, v6, v7, v8] t (0, 0))) : w.cell? ⟨g, 0, none⟩ = some v0 ∧ w.cell? ⟨g, 1, none⟩ = some v1 ∧ w.cell? ⟨g, 2, none⟩ = some v2 ∧ w.cell? ⟨g, 3, none⟩ = some v3 ∧ w.cell? ⟨g, 4, none⟩ = some v4 ∧ w.cell? ⟨g, 5, none⟩ = some v5 ∧ w.cell? ⟨g, 6, none⟩ = some v6 ∧ w.cell? ⟨g, 7, none⟩ = some v7 ∧ w.cell? ⟨g, 8, none⟩ = some v8 := ⟨(Qc h 0).trans rfl, (Qc h 1).trans rfl, (Qc h 2).trans rfl, (Qc h 3).trans rfl, (Qc h 4).trans rfl, (Qc h 5).trans rfl, (Qc h 6).trans rfl, (Qc h 7).trans rfl, (Qc h 8).trans rfl⟩
theorem Jv {w : World} {g : Nat} {t : TypeId} {cs : Array Value} (h : w.heap[g]? = some (.cells cs t (0, 0))) : w.frozen? ⟨g, 0, none⟩ = false ∧ w.frozen? ⟨g, 1, none⟩ = false ∧ w.frozen? ⟨g, 2, none⟩ = false ∧ w.frozen? ⟨g, 3, none⟩ = false ∧ w.frozen? ⟨g, 4, none⟩ = false ∧ w.frozen? ⟨g, 5, none⟩ = false ∧ w.frozen? ⟨g, 6, none⟩ = false ∧ w.frozen? ⟨g, 7, none⟩ = false ∧ w.frozen? ⟨g, 8, none⟩ = false := ⟨Qe h 0, Qe h 1, Qe h 2, Qe h 3, Qe h 4, Qe h 5, Qe h 6, Qe h 7, Qe h 8⟩
end Go.Proofs.Ytadafplbgophfaa.PA
end
section
namespace Go.Proofs.Ytadafplbgophfaa.PA
open Go.RowKit Go.Proofs.YtadafplbgophfaaW.PrintWords Go.Proofs.YtadafplbgophfaaW.PrintLast Go.Proofs.YtadafplbgophfaaW.PrintMore
attribute [local go_sem] Xx Xz Yk Yl Xj Xk Xy Ya
mutual
def Zo.j1 : Nat → List Int → List Int → Int → Option (Int × Int)
 | 0, _, _, _ => none
 | k + 1, x0, x1, x6 => if 0 ≤ x6 then (if x6 ≤ (x0.length : Int) then (if x6 ≤ (x1.length : Int) then (Zo.l1 k (x0.drop (x6 : Int).toNat) (x1.drop (x6 : Int).toNat) x6 0) else (none)) else (none)) else (none)
def Zo.l1 : Nat → List Int → List Int → Int → Int → Option (Int × Int)
 | 0, _, _, _, _ => none
 | k + 1, x0, x1, x6, x7 => if x7 < (mn (x0.length : Int) (x1.length : Int)) then (if 0 ≤ (wrap64 ((wrap64 ((x0.length : Int) - 1)) - x7)) then (if (wrap64 ((wrap64 ((x0.length : Int) - 1)) - x7)) < (x0.length : Int) then (if 0 ≤ (wrap64 ((wrap64 ((x1.length : Int) - 1)) - x7)) then (if (wrap64 ((wrap64 ((x1.length : Int) - 1)) - x7)) < (x1.length : Int) then (if (rd x0 (wrap64 ((wrap64 ((x0.length : Int) - 1)) - x7))) = (rd x1 (wrap64 ((wrap64 ((x1.length : Int) - 1)) - x7))) then (Zo.l1 k x0 x1 x6 (wrap64 (x7 + 1))) else (some (x6, x7))) else (none)) else (none)) else (none)) else (none)) else (some (x6, x7))
def Zo.l0 : Nat → List Int → List Int → Int → Option (Int × Int)
 | 0, _, _, _ => none
 | k + 1, x0, x1, x6 => if x6 < (mn (x0.length : Int) (x1.length : Int)) then (if 0 ≤ x6 then (if x6 < (x0.length : Int) then (if x6 < (x1.length : Int) then (if (rd x0 x6) = (rd x1 x6) then (Zo.l0 k x0 x1 (wrap64 (x6 + 1))) else (Zo.j1 k x0 x1 x6)) else (none)) else (none)) else (none)) else (Zo.j1 k x0 x1 x6)
end
def Zo.f (k : Nat) (l0 : List Int) (l1 : List Int) : Option (Int × Int) := Zo.l0 k l0 l1 0
end Go.Proofs.Ytadafplbgophfaa.PA
end
section
namespace Go.Proofs.Ytadafplbgophfaa.PA
open Go.RowKit Go.Proofs.YtadafplbgophfaaW.PrintWords Go.Proofs.YtadafplbgophfaaW.PrintLast Go.Proofs.YtadafplbgophfaaW.PrintMore
structure Fnd (w0 w : World) (g : Nat) (s0 s1 v : Value) (l : List S39) : Prop where
 below : Below w0.heap.size w0 w
 ge : w0.heap.size ≤ g
 blk : w.heap[g]? = some (.cells #[s0, s1, v] 130 (0, 0))
 own : Kd.R k39 39 w w0.heap.size (fun k => k ≠ g) v l
def Jj (a b : Int) (n : Nat) : List S39 := (List.range n).map fun (i : Nat) => (⟨a + (i : Int), b + (i : Int)⟩ : S39)
theorem Qif (a b : Int) (n : Nat) : Jj a b (n + 1) = Jj a b n ++ [⟨a + (n : Int), b + (n : Int)⟩] := by simp [Jj, List.range_succ]
structure Kk (w0 w w' : World) (g : Nat) (s0 s1 v : Value) (l : List S39) : Prop where
 fnd : ∃ v', Fnd w0 w' g s0 s1 v' l ∧ (v'.ownBlock = v.ownBlock ∨ ∃ b, v'.ownBlock = some b ∧ w.heap.size ≤ b)
 keep : Xd w w' g v.ownBlock
def Vp (p : Nat → Bool) : Nat → Nat → Nat
 | 0, i => i
 | f + 1, i => if p i = true then Vp p f (i + 1) else i
theorem Fnd.on {w0 w w1 : World} {g : Nat} {s0 s1 v : Value} {l : List S39} (h : Fnd w0 w g s0 s1 v l) (hb : Below w.heap.size w w1) : Fnd w0 w1 g s0 s1 v l :=
 ⟨Js h.below h.below.size hb, h.ge, Qq h.blk hb, Kd.R_below h.own hb⟩
theorem Kk.on {w0 w w1 w2 : World} {g : Nat} {s0 s1 v : Value} {l : List S39} (h : Kk w0 w w1 g s0 s1 v l) (hb : Below w1.heap.size w1 w2) : Kk w0 w w2 g s0 s1 v l := by
 obtain ⟨v', hf, ha⟩ := h.fnd; exact ⟨⟨v', hf.on hb, ha⟩, ⟨Nat.le_trans h.keep.1 hb.size, fun i hi hg hr => (hb.block i (Nat.lt_of_lt_of_le hi h.keep.1)).trans (h.keep.2 i hi hg hr)⟩⟩
theorem Kk.start {w0 w w1 : World} {g : Nat} {s0 s1 v : Value} {l : List S39} (h : Fnd w0 w g s0 s1 v l) (hb : Below w.heap.size w w1) : Kk w0 w w1 g s0 s1 v l :=
 ⟨⟨v, h.on hb, .inl rfl⟩, Xd.of_below hb g _⟩
theorem Kk.then_ {w0 w w1 w2 : World} {g : Nat} {s0 s1 v v1 : Value} {l2 : List S39} (ha : v1.ownBlock = v.ownBlock ∨ ∃ b, v1.ownBlock = some b ∧ w.heap.size ≤ b) (hk : Xd w w1 g v.ownBlock)
  (h2 : Kk w0 w1 w2 g s0 s1 v1 l2) : Kk w0 w w2 g s0 s1 v l2 := by
 obtain ⟨v2, hf2, ha2⟩ := h2.fnd; refine ⟨⟨v2, hf2, ?_⟩, hk.trans h2.keep ha⟩
 rcases ha2 with h | ⟨b, h, hb⟩
 ·rw [h]; exact ha
 ·exact .inr ⟨b, h, Nat.le_trans hk.1 hb⟩
where
 own_ne_R {w : World} {b0 : Nat} {ok : Nat → Prop} {v : Value} {l : List S39} {bx : Nat} {cs : Array Value} {t : TypeId} (h : Kd.R k39 39 w b0 ok v l) (hb : w.heap[bx]? = some (.cells cs t (0, 0))) (ht : 39 ≠ t) : some bx ≠ v.ownBlock := by
  obtain ⟨inner, ho⟩ := Kd.R_own h; exact own_ne ho hb ht
end Go.Proofs.Ytadafplbgophfaa.PA
end
section
namespace Go.Proofs.Ytadafplbgophfaa.TriLcs
def lcs : List Int → List Int → Nat
 | [], _ => 0
 | _ :: _, [] => 0
 | x :: xs, y :: ys => if x = y then lcs xs ys + 1 else max (lcs (x :: xs) ys) (lcs xs (y :: ys))
termination_by a b => a.length + b.length
theorem Jf (b : List Int) : lcs [] b = 0 := by unfold lcs; rfl
theorem Ku (a : List Int) : lcs a [] = 0 := by cases a <;> (unfold lcs; rfl)
theorem Jt (x : Int) (xs ys : List Int) : lcs (x :: xs) (x :: ys) = lcs xs ys + 1 := by
 rw [lcs]; simp
theorem Qbm {x y : Int} (h : x ≠ y) (xs ys : List Int) :
  lcs (x :: xs) (y :: ys) = max (lcs (x :: xs) ys) (lcs xs (y :: ys)) := by
 rw [lcs]; simp [h]
theorem Jq (a b : List Int) : ∃ s : List Int, s.Sublist a ∧ s.Sublist b ∧ s.length = lcs a b := by
 match a, b with
 | [], b => exact ⟨[], by simp, by simp, by simp [Jf]⟩
 | x :: xs, [] => exact ⟨[], by simp, by simp, by simp [Ku]⟩
 | x :: xs, y :: ys =>
  by_cases h : x = y
  ·subst h
   obtain ⟨s, h1, h2, h3⟩ := Jq xs ys; exact ⟨x :: s, h1.cons_cons x, h2.cons_cons x, by rw [Jt]; simp [h3]⟩
  ·rw [Qbm h]
   by_cases hm : lcs (x :: xs) ys ≤ lcs xs (y :: ys)
   ·obtain ⟨s, h1, h2, h3⟩ := Jq xs (y :: ys)
    exact ⟨s, h1.cons x, h2, by omega⟩
   ·obtain ⟨s, h1, h2, h3⟩ := Jq (x :: xs) ys
    exact ⟨s, h1, h2.cons y, by omega⟩
termination_by a.length + b.length
theorem Qcg {c : Int} {s : List Int} {x : Int} {xs : List Int} (h : (c :: s).Sublist (x :: xs)) :
  (c :: s).Sublist xs ∨ (c = x ∧ s.Sublist xs) := by
 cases h with
 | cons _ h => exact Or.inl h
 | cons_cons _ h => exact Or.inr ⟨rfl, h⟩
theorem Qfl {c : Int} {s xs : List Int} (h : (c :: s).Sublist xs) : s.Sublist xs :=
 (List.sublist_cons_self c s).trans h
theorem Qcq {c : Int} {s : List Int} {x : Int} {xs : List Int} (h : (c :: s).Sublist (x :: xs)) : s.Sublist xs := by
 rcases Qcg h with h | ⟨_, h⟩
 ·exact Qfl h
 ·exact h
theorem Qai (a b : List Int) : ∀ s : List Int, s.Sublist a → s.Sublist b → s.length ≤ lcs a b := by
 match a, b with
 | [], b => intro s h1 _; have := h1.length_le; simp only [List.length_nil] at this; omega
 | x :: xs, [] => intro s _ h2; have := h2.length_le; simp only [List.length_nil] at this; omega
 | x :: xs, y :: ys =>
  intro s h1 h2
  match s, h1, h2 with
  | [], _, _ => simp
  | c :: s, h1, h2 =>
   by_cases h : x = y
   ·subst h
    rw [Jt]; have := Qai xs ys s (Qcq h1) (Qcq h2); simp only [List.length_cons]; omega
   ·rw [Qbm h]
    rcases Qcg h1 with h1' | ⟨e1, _⟩
    ·have := Qai xs (y :: ys) _ h1' h2; omega
    ·rcases Qcg h2 with h2' | ⟨e2, _⟩
     ·have := Qai (x :: xs) ys _ h1 h2'; omega
     ·exact absurd (e1.symm.trans e2) h
termination_by a.length + b.length
theorem Qcz {a b c d : List Int} (h : ∀ s : List Int, s.Sublist a → s.Sublist b → ∃ t : List Int, t.Sublist c ∧ t.Sublist d ∧ s.length ≤ t.length) :
  lcs a b ≤ lcs c d := by
 obtain ⟨s, h1, h2, h3⟩ := Jq a b; obtain ⟨t, g1, g2, g3⟩ := h s h1 h2; have := Qai c d t g1 g2
 omega
theorem Qgv (a b : List Int) : lcs a b = lcs b a := by
 apply Nat.le_antisymm <;> exact Qcz fun s h1 h2 => ⟨s, h2, h1, Nat.le_refl _⟩
theorem Vs (a b : List Int) : lcs a.reverse b.reverse = lcs a b := by
 apply Nat.le_antisymm
 ·refine Qcz fun s h1 h2 => ⟨s.reverse, ?_, ?_, by simp⟩
  ·have := h1.reverse; simpa using this
  ·have := h2.reverse; simpa using this
 ·exact Qcz fun s h1 h2 => ⟨s.reverse, h1.reverse, h2.reverse, by simp⟩
theorem Uz (a b : List Int) : lcs a b ≤ a.length := by
 obtain ⟨s, h1, _, h3⟩ := Jq a b; have := h1.length_le; omega
theorem Qff (a b : List Int) (x : Int) : lcs (a ++ [x]) (b ++ [x]) = lcs a b + 1 := by
 rw [← Vs, List.reverse_append, List.reverse_append]; simp only [List.reverse_cons, List.reverse_nil, List.nil_append, List.singleton_append]; rw [Jt, Vs]
theorem Qfg (a b : List Int) {x y : Int} (h : x ≠ y) :
  lcs (a ++ [x]) (b ++ [y]) = max (lcs (a ++ [x]) b) (lcs a (b ++ [y])) := by
 rw [← Vs, List.reverse_append, List.reverse_append]; simp only [List.reverse_cons, List.reverse_nil, List.nil_append, List.singleton_append]; rw [Qbm h]
 congr 1
 ·rw [← Vs (a ++ [x]) b]; simp
 ·rw [← Vs a (b ++ [y])]; simp
theorem Qev (x y : Int) (a b : List Int) : lcs (x :: a) (y :: b) ≤ lcs a b + 1 := by
 obtain ⟨s, h1, h2, h3⟩ := Jq (x :: a) (y :: b)
 match s, h1, h2, h3 with
 | [], _, _, h3 => simp at h3; omega
 | c :: s, h1, h2, h3 =>
  have := Qai a b s (Qcq h1) (Qcq h2)
  simp at h3; omega
theorem Qew (x y : Int) (a b : List Int) : lcs (a ++ [x]) (b ++ [y]) ≤ lcs a b + 1 := by
 rw [← Vs, List.reverse_append, List.reverse_append]; simp only [List.reverse_cons, List.reverse_nil, List.nil_append, List.singleton_append]; have := Qev x y a.reverse b.reverse
 rw [Vs] at this; exact this
theorem Qaf (x : Int) (a b : List Int) : lcs (a ++ [x]) b ≤ lcs a b + 1 := by
 rw [← Vs, List.reverse_append]; simp only [List.reverse_cons, List.reverse_nil, List.nil_append, List.singleton_append]; rw [← Vs a b]; obtain ⟨s, h1, h2, h3⟩ := Jq (x :: a.reverse) b.reverse
 match s, h1, h2, h3 with
 | [], _, _, h3 => simp at h3; omega
 | c :: s, h1, h2, h3 =>
  have := Qai a.reverse b.reverse s (Qcq h1) (Qfl h2)
  simp at h3; omega
theorem Qbn (x : Int) (a b : List Int) : lcs a (b ++ [x]) ≤ lcs a b + 1 := by
 rw [Qgv, Qgv a b]; exact Qaf x b a
def f (A B : List Int) (x y : Nat) : Int := (x : Int) + y - 2 * (lcs (A.take x) (B.take y) : Nat)
theorem Ux {A : List Int} {x : Nat} (h : x < A.length) : A.take (x + 1) = A.take x ++ [A[x]] := by
 rw [List.take_succ_eq_append_getElem h]
theorem Qah {A : List Int} {x : Nat} (h : A.length ≤ x) : A.take (x + 1) = A.take x := by
 rw [List.take_of_length_le h, List.take_of_length_le (by omega)]
theorem Qpm (A B : List Int) (x y : Nat) : f A B x y ≤ f A B (x + 1) (y + 1) := by
 unfold f
 by_cases hx : x < A.length
 ·by_cases hy : y < B.length
  ·rw [Ux hx, Ux hy]
   have := Qew A[x] B[y] (A.take x) (B.take y)
   omega
  ·rw [Ux hx, Qah (A := B) (by omega)]
   have := Qaf A[x] (A.take x) (B.take y)
   omega
 ·rw [Qah (A := A) (by omega)]
  by_cases hy : y < B.length
  ·rw [Ux hy]
   have := Qbn B[y] (A.take x) (B.take y)
   omega
  ·rw [Qah (A := B) (by omega)]; omega
theorem Qgp (A B : List Int) (x y i : Nat) : f A B x y ≤ f A B (x + i) (y + i) := by
 induction i with
 | zero => exact Int.le_refl _
 | succ i ih => exact Int.le_trans ih (Qpm A B (x + i) (y + i))
def Far (A B : List Int) (d k u : Int) : Prop :=
 ∃ x y : Nat, u = x ∧ (x : Int) - y = k ∧ f A B x y ≤ d ∧ d < f A B (x + 1) (y + 1)
theorem Far.le {A B : List Int} {d k u : Int} (h : Far A B d k u) {x y : Nat} (hk : (x : Int) - y = k) (hf : f A B x y ≤ d) : (x : Int) ≤ u := by
 obtain ⟨x', y', rfl, e, g1, g2⟩ := h
 by_cases hx : (x : Int) ≤ x'
 ·exact hx
 ·exfalso
  have := Qgp A B (x' + 1) (y' + 1) (x - (x' + 1))
  rw [show x' + 1 + (x - (x' + 1)) = x from by omega, show y' + 1 + (x - (x' + 1)) = y from by omega] at this
  omega
theorem Far.gt {A B : List Int} {d k u : Int} (h : Far A B d k u) {x y : Nat} (hk : (x : Int) - y = k) (hx : u < x) : d < f A B x y := by
 by_cases hf : f A B x y ≤ d
 ·have := h.le hk hf; omega
 ·omega
end Go.Proofs.Ytadafplbgophfaa.TriLcs
end
section
namespace Go.Proofs.Ytadafplbgophfaa.PA
open Go.RowKit Go.Proofs.YtadafplbgophfaaW.PrintWords Go.Proofs.YtadafplbgophfaaW.PrintLast Go.Proofs.YtadafplbgophfaaW.PrintMore
open Go.Proofs.Ytadafplbgophfaa.TriLcs
theorem w64 {x : Int} (h0 : -9223372036854775808 ≤ x) (h1 : x ≤ 9223372036854775807) : wrap64 x = x := by unfold wrap64; omega
theorem Vn (xs : List Int) (i : Nat) : rd xs (i : Int) = xs.getD i 0 := by simp [rd]
def seg (a : List Int) (i j : Nat) : List Int := (a.take j).drop i
def M (A B : List Int) (x y : Nat) : Prop := x < A.length ∧ y < B.length ∧ A.getD x 0 = B.getD y 0
theorem M.of {A B : List Int} {x y : Nat} (hx : x < A.length) (hy : y < B.length) (h : A[x] = B[y]) : M A B x y := ⟨hx, hy, by simp [List.getD_eq_getElem?_getD, hx, hy, h]⟩
def Row (A B : List Int) (N : Nat) (L : List Int) (d : Int) : Prop :=
 L.length = 2 * N + 3 ∧ (d = 0 → rd L ((N : Int) + 1 + 1) = 0) ∧ (d ≠ 0 → ∀ j : Int, -(d - 1) ≤ j → j ≤ d - 1 → (d - 1 - j) % 2 = 0 → Far A B (d - 1) j (rd L ((N : Int) + 1 + j)))
def Qga (A B : List Int) (N : Nat) (L : List Int) (d k : Int) : Prop := ∀ j : Int, -d ≤ j → j < k → (d - j) % 2 = 0 → Far A B d j (rd L ((N : Int) + 1 + j))
theorem Qhc {L : List Int} {i j u : Int} (hi : 0 ≤ i) (hj : 0 ≤ j) : rd (L.set i.toNat u) j = if i = j ∧ i < L.length then u else rd L j := by
 unfold rd
 by_cases e : i = j
 ·subst e
  by_cases hl : i < L.length
  ·rw [if_pos ⟨rfl, hl⟩]
   simp [List.getD_eq_getElem?_getD, show i.toNat < L.length by omega]
  ·rw [if_neg (fun h => hl h.2)]
   rw [List.set_eq_of_length_le (by omega)]
 ·rw [if_neg (fun h => e h.1)]
  simp only [List.getD_eq_getElem?_getD]; rw [List.getElem?_set_ne (by omega)]
theorem Row.set {A B : List Int} {N : Nat} {L : List Int} {d k u : Int} (h : Row A B N L d) (hd : 0 ≤ d) (hdN : d ≤ N) (h0 : -d ≤ k) (h1 : k ≤ d) (hp : (d - k) % 2 = 0) : Row A B N (L.set ((N : Int) + 1 + k).toNat u) d := by
 obtain ⟨hl, hz, hf⟩ := h; refine ⟨by rw [List.length_set]; exact hl, fun e => ?_, fun e j hj0 hj1 hjp => ?_⟩
 ·rw [Qhc (by omega) (by omega), if_neg (by omega)]; exact hz e
 ·rw [Qhc (by omega) (by omega), if_neg (by omega)]; exact hf e j hj0 hj1 hjp
theorem Qga.set {A B : List Int} {N : Nat} {L : List Int} {d k u : Int} (h : Qga A B N L d k) (hl : L.length = 2 * N + 3) (hd : 0 ≤ d) (hdN : d ≤ N) (h0 : -d ≤ k) (h1 : k ≤ d) (hp : (d - k) % 2 = 0) (hu : Far A B d k u) :
  Qga A B N (L.set ((N : Int) + 1 + k).toNat u) d (k + 2) := by
 intro j hj0 hj1 hjp; rw [Qhc (by omega) (by omega)]
 by_cases e : j = k
 ·subst e; rw [if_pos ⟨rfl, by omega⟩]; exact hu
 ·rw [if_neg (by omega)]; exact h j hj0 (by omega) hjp
theorem Qga.row {A B : List Int} {N : Nat} {L : List Int} {d k : Int} (h : Qga A B N L d k) (hl : L.length = 2 * N + 3) (hd : 0 ≤ d) (hk : d < k) : Row A B N L (d + 1) :=
 ⟨hl, fun e => by omega, fun _ j hj0 hj1 hjp => by
  have := h j (by omega) (by omega) (by omega)
  rw [show d + 1 - 1 = d from by omega]; exact this⟩
def Kz (p : Nat → Prop) (n : Nat) : Prop := (∀ i, i < n → p i) ∧ ¬ p n
def Qde (a b : List Int) (i : Nat) : Prop := i < a.length ∧ i < b.length ∧ a.getD i 0 = b.getD i 0
def Qdf (a b : List Int) (n i : Nat) : Prop := n + i < a.length ∧ n + i < b.length ∧ a.getD (a.length - 1 - i) 0 = b.getD (b.length - 1 - i) 0
theorem Kl (xs : List Int) (n i : Nat) : (xs.drop n).getD i 0 = xs.getD (n + i) 0 := by simp [List.getD_eq_getElem?_getD, List.getElem?_drop]
theorem Qbw (a b : List Int) (n : Nat) (ha : a.length ≤ 1000000000000) (hb : b.length ≤ 1000000000000) (hna : n ≤ a.length) (hnb : n ≤ b.length) :
  ∀ (d j : Nat), a.length - j ≤ d → n + j ≤ a.length → n + j ≤ b.length → (∀ i, i < j → Qdf a b n i) →
   ∃ m, Kz (Qdf a b n) m ∧ Ev (fun k => Zo.l1 k (a.drop n) (b.drop n) n j) (n, m) := by
 intro d
 induction d with
 | zero =>
  intro j h1 h2 h3 h4; refine ⟨j, ⟨h4, fun h => by have := h.1; omega⟩, Ev.step (f := fun _ => some ((n : Int), (j : Int))) (fun k => ?_) (Ev.now _)⟩; simp only [Zo.l1]; rw [if_neg (by simp only [List.length_drop]; unfold mn; split <;> omega)]
 | succ d ih =>
  intro j h1 h2 h3 h4
  by_cases hj : n + j < a.length ∧ n + j < b.length
  ·have e1 : wrap64 (wrap64 (((a.drop n).length : Int) - 1) - j) = ((a.length - n - 1 - j : Nat) : Int) := by
    rw [List.length_drop, w64 (x := ((a.length - n : Nat) : Int) - 1) (by omega) (by omega), w64 (by omega) (by omega)]; omega
   have e2 : wrap64 (wrap64 (((b.drop n).length : Int) - 1) - j) = ((b.length - n - 1 - j : Nat) : Int) := by
    rw [List.length_drop, w64 (x := ((b.length - n : Nat) : Int) - 1) (by omega) (by omega), w64 (by omega) (by omega)]; omega
   by_cases he : a.getD (a.length - 1 - j) 0 = b.getD (b.length - 1 - j) 0
   ·obtain ⟨m, hm, hE⟩ := ih (j + 1) (by omega) (by omega) (by omega) (fun i hi => by
     rcases Nat.lt_succ_iff_lt_or_eq.1 hi with h | rfl
     ·exact h4 i h
     ·exact ⟨hj.1, hj.2, he⟩)
    refine ⟨m, hm, Ev.step (fun k => ?_) hE⟩; simp only [Zo.l1]
    rw [e1, e2, if_pos (by simp only [List.length_drop]; unfold mn; split <;> omega), if_pos (by omega), if_pos (by simp only [List.length_drop]; omega), if_pos (by omega), if_pos (by simp only [List.length_drop]; omega), Vn, Vn, Kl, Kl,
     show n + (a.length - n - 1 - j) = a.length - 1 - j from by omega, show n + (b.length - n - 1 - j) = b.length - 1 - j from by omega, if_pos he, w64 (by omega) (by omega)]
    rfl
   ·refine ⟨j, ⟨h4, fun h => he h.2.2⟩, Ev.step (f := fun _ => some ((n : Int), (j : Int))) (fun k => ?_) (Ev.now _)⟩
    simp only [Zo.l1]
    rw [e1, e2, if_pos (by simp only [List.length_drop]; unfold mn; split <;> omega), if_pos (by omega), if_pos (by simp only [List.length_drop]; omega), if_pos (by omega), if_pos (by simp only [List.length_drop]; omega), Vn, Vn, Kl, Kl,
     show n + (a.length - n - 1 - j) = a.length - 1 - j from by omega, show n + (b.length - n - 1 - j) = b.length - 1 - j from by omega, if_neg he]
  ·refine ⟨j, ⟨h4, fun h => hj ⟨h.1, h.2.1⟩⟩, Ev.step (f := fun _ => some ((n : Int), (j : Int))) (fun k => ?_) (Ev.now _)⟩
   simp only [Zo.l1]; rw [if_neg (by simp only [List.length_drop]; unfold mn; split <;> omega)]
theorem Qer (a b : List Int) (ha : a.length ≤ 1000000000000) (hb : b.length ≤ 1000000000000) :
  ∀ (d i : Nat), a.length - i ≤ d → i ≤ a.length → i ≤ b.length → (∀ j, j < i → Qde a b j) →
   ∃ n m, Kz (Qde a b) n ∧ Kz (Qdf a b n) m ∧ Ev (fun k => Zo.l0 k a b i) (n, m) := by
 intro d
 induction d with
 | zero =>
  intro i h1 h2 h3 h4; obtain ⟨m, hm, hE⟩ := Qbw a b i ha hb h2 h3 a.length 0 (by omega) (by omega) (by omega) (fun j hj => by omega); refine ⟨i, m, ⟨h4, fun h => by have := h.1; omega⟩, hm, Ev.step (fun k => ?_) (Ev.step (g := fun k => Zo.j1 k a b i) (fun k => ?_) hE)⟩
  ·simp only [Zo.l0]
   rw [if_neg (by unfold mn; split <;> omega)]
  ·simp only [Zo.j1]
   rw [if_pos (by omega), if_pos (by omega), if_pos (by omega), Int.toNat_natCast]; rfl
 | succ d ih =>
  intro i h1 h2 h3 h4
  by_cases hf : Qde a b i
  ·obtain ⟨n, m, hn, hm, hE⟩ := ih (i + 1) (by have := hf.1; omega) hf.1 hf.2.1 (fun j hj => by
    rcases Nat.lt_succ_iff_lt_or_eq.1 hj with h | rfl
    ·exact h4 j h
    ·exact hf)
   obtain ⟨f1, f2, f3⟩ := hf; refine ⟨n, m, hn, hm, Ev.step (fun k => ?_) hE⟩; simp only [Zo.l0]; rw [if_pos (by unfold mn; split <;> omega), if_pos (by omega), if_pos (by omega), if_pos (by omega), Vn, Vn, if_pos f3, w64 (by omega) (by omega)]; rfl
  ·obtain ⟨m, hm, hE⟩ := Qbw a b i ha hb h2 h3 a.length 0 (by omega) (by omega) (by omega) (fun j hj => by omega)
   refine ⟨i, m, ⟨h4, hf⟩, hm, Ev.step (fun k => ?_) (Ev.step (g := fun k => Zo.j1 k a b i) (fun k => ?_) hE)⟩
   ·simp only [Zo.l0]
    by_cases hl : i < a.length ∧ i < b.length
    ·rw [if_pos (by unfold mn; split <;> omega), if_pos (by omega), if_pos (by omega), if_pos (by omega), Vn, Vn, if_neg (fun h => hf ⟨hl.1, hl.2, h⟩)]
    ·rw [if_neg (by unfold mn; split <;> omega)]
   ·simp only [Zo.j1]
    rw [if_pos (by omega), if_pos (by omega), if_pos (by omega), Int.toNat_natCast]; rfl
theorem ends_int (a b : List Int) (ha : a.length ≤ 1000000000000) (hb : b.length ≤ 1000000000000) :
  ∃ n m, Kz (Qde a b) n ∧ Kz (Qdf a b n) m ∧ Ev (fun k => Zo.f k a b) (n, m) :=
 Qer a b ha hb a.length 0 (by omega) (by omega) (by omega) (fun j hj => by omega)
def Qbi (a b : List Int) (a0 a1 b0 b1 : Nat) (r : List S39) : Prop :=
 r.Pairwise (fun p q => p.f0 < q.f0 ∧ p.f1 < q.f1) ∧ ∀ p ∈ r, (a0 : Int) ≤ p.f0 ∧ p.f0 < a1 ∧ (b0 : Int) ≤ p.f1 ∧ p.f1 < b1 ∧ a.getD p.f0.toNat 0 = b.getD p.f1.toNat 0
theorem Qbi.append {a b : List Int} {a0 x x' a1 b0 y y' b1 : Nat} {r1 r2 : List S39} (h1 : Qbi a b a0 x b0 y r1) (h2 : Qbi a b x' a1 y' b1 r2) (hx : x ≤ x') (hy : y ≤ y') (h0 : a0 ≤ x') (h00 : b0 ≤ y') (h3 : x ≤ a1) (h4 : y ≤ b1) : Qbi a b a0 a1 b0 b1 (r1 ++ r2) := by
 refine ⟨List.pairwise_append.2 ⟨h1.1, h2.1, fun p hp q hq => ?_⟩, fun p hp => ?_⟩
 ·have g1 := h1.2 p hp
  have g2 := h2.2 q hq
  omega
 ·rcases List.mem_append.1 hp with hp | hp
  ·have g1 := h1.2 p hp; exact ⟨by omega, by omega, by omega, by omega, g1.2.2.2.2⟩
  ·have g1 := h2.2 p hp; exact ⟨by omega, by omega, by omega, by omega, g1.2.2.2.2⟩
theorem Qbi.run {a b : List Int} (a0 b0 : Nat) : ∀ n : Nat, (∀ t, t < n → a.getD (a0 + t) 0 = b.getD (b0 + t) 0) → Qbi a b a0 (a0 + n) b0 (b0 + n) (Jj a0 b0 n) := by
 intro n
 induction n with
 | zero => intro _; exact ⟨by simp [Jj], by simp [Jj]⟩
 | succ n ih =>
  intro h; rw [Qif]; refine Qbi.append (x := a0 + n) (x' := a0 + n) (y := b0 + n) (y' := b0 + n) (ih fun t ht => h t (by omega)) ⟨by simp, fun p hp => ?_⟩ (Nat.le_refl _) (Nat.le_refl _) (by omega) (by omega) (by omega) (by omega)
  rw [List.mem_singleton] at hp
  subst hp; refine ⟨by simp only; omega, by simp only; omega, by simp only; omega, by simp only; omega, ?_⟩; simp only; rw [show ((a0 : Int) + (n : Int)).toNat = a0 + n from by omega, show ((b0 : Int) + (n : Int)).toNat = b0 + n from by omega]; exact h n (by omega)
end Go.Proofs.Ytadafplbgophfaa.PA
end
section
namespace Go.Proofs.Ytadafplbgophfaa.PA
open Go.RowKit Go.Proofs.YtadafplbgophfaaW.PrintWords Go.Proofs.YtadafplbgophfaaW.PrintLast Go.Proofs.YtadafplbgophfaaW.PrintMore
attribute [local go_sem] Xx Xz Yk Yl Xj Xk Xy Ya
theorem Qqd (d : Nat) (w : World) (x0 y0 : Int) (x1 y1 : Int) :
  (Op.equalIn (d + 2) 39 (.agg #[.int .i64 x0, .int .i64 x1]) (.agg #[.int .i64 y0, .int .i64 y1])).run Try.prog w = .ok (x0 == y0 && (x1 == y1)) w := by
 refine Qin Try.underlying39 (by kernel_rfl) ?_; refine Ui (by rfl) (by go_simp; rfl) (by go_simp; rfl) (by go_simp) ?_; exact Qdv (by rfl) (by go_simp; rfl) (by go_simp; rfl) (by go_simp)
end Go.Proofs.Ytadafplbgophfaa.PA
end
section
namespace Go.Proofs.Ytadafplbgophfaa.PA
open Go.RowKit Go.Proofs.YtadafplbgophfaaW.PrintWords Go.Proofs.YtadafplbgophfaaW.PrintLast Go.Proofs.YtadafplbgophfaaW.PrintMore
open Go.Proofs.Ytadafplbgophfaa.TriLcs
theorem cut_len {l : List Int} {N : Int} (hN : 0 ≤ N) : 0 ≤ mn (l.length : Int) N ∧ mn (l.length : Int) N ≤ (l.length : Int) ∧ ((l.take (mn (l.length : Int) N).toNat).length : Int) ≤ N := by
 have h : 0 ≤ mn (l.length : Int) N ∧ mn (l.length : Int) N ≤ (l.length : Int) ∧ mn (l.length : Int) N ≤ N := by unfold mn; split <;> omega
 refine ⟨h.1, h.2.1, ?_⟩; rw [List.length_take]; omega
end Go.Proofs.Ytadafplbgophfaa.PA
end
section
namespace Go.Proofs.Ytadafplbgophfaa.PA
open Go.RowKit Go.Proofs.YtadafplbgophfaaW.PrintWords Go.Proofs.YtadafplbgophfaaW.PrintLast Go.Proofs.YtadafplbgophfaaW.PrintMore
attribute [local go_sem] Xx Xz Yk Yl Xj Xk Xy Ya
mutual
def Qm.l0 : Nat → List Int → List Int → List Int → Int → Option (Int)
 | 0, _, _, _, _ => none
 | k + 1, x0, x1, x5, x6 => if x6 < (x0.length : Int) then (if 0 ≤ (wrap64 ((x1.length : Int) + 1)) then (if (wrap64 ((x1.length : Int) + 1) : Int).toNat ≤ 35184372088832 then (Qm.l1 k x0 x1 x5 x6 (List.replicate (wrap64 ((x1.length : Int) + 1) : Int).toNat 0) 0) else (none)) else (none)) else (if 0 ≤ (x1.length : Int) then (if (x1.length : Int) < (x5.length : Int) then (some (rd x5 (x1.length : Int))) else (none)) else (none))
def Qm.l1 : Nat → List Int → List Int → List Int → Int → List Int → Int → Option (Int)
 | 0, _, _, _, _, _, _ => none
 | k + 1, x0, x1, x5, x6, x7, x8 => if x8 < (x1.length : Int) then (if 0 ≤ (wrap64 (x8 + 1)) then (if (wrap64 (x8 + 1)) < (x5.length : Int) then (if 0 ≤ x8 then (if x8 < (x7.length : Int) then (if (wrap64 (x8 + 1)) < (x7.length : Int) then ((some (x7.set ((wrap64 (x8 + 1)) : Int).toNat (mx (rd x5 (wrap64 (x8 + 1))) (rd x7 x8)) : List Int)).bind fun a9 => (if 0 ≤ x6 then (if x6 < (x0.length : Int) then (if (rd x0 x6) = (rd x1 x8) then (if x8 < (x5.length : Int) then (Qm.l1 k x0 x1 x5 x6 (a9.set ((wrap64 (x8 + 1)) : Int).toNat (wrap64 ((rd x5 x8) + 1))) (wrap64 (x8 + 1))) else (none)) else (Qm.l1 k x0 x1 x5 x6 a9 (wrap64 (x8 + 1)))) else (none)) else (none))) else (none)) else (none)) else (none)) else (none)) else (none)) else (Qm.l0 k x0 x1 x7 (wrap64 (x6 + 1)))
end
def Qm.f (k : Nat) (l0 : List Int) (l1 : List Int) : Option (Int) := if 0 ≤ (wrap64 ((l1.length : Int) + 1)) then (if (wrap64 ((l1.length : Int) + 1) : Int).toNat ≤ 35184372088832 then (Qm.l0 k l0 l1 (List.replicate (wrap64 ((l1.length : Int) + 1) : Int).toNat 0) 0) else (none)) else (none)
def Qm.T9 : Bool × List (List Nat × List Nat) := (true, [([], []), ([], []), ([1], [1]), ([], []), ([], []), ([4], [4]), ([3, 5], [3, 5]), ([6], [6]), ([], []), ([], []), ([8, 9], [8, 9]), ([10], [10]), ([7, 11], [7, 11]), ([0, 2, 0, 1, 2, 3, 4, 5, 6, 7, 8, 9, 10, 11, 12], [0, 2]), ([13, 12, 0, 1, 2, 3, 4, 5, 6, 7, 8, 9, 10, 11, 12], [12, 13])])
def Qm.B9 : List Nat := [0, 0, 2, 0, 0, 16, 56, 120, 0, 0, 768, 1792, 4088, 8191, 16383]
theorem Qm.tab9 : Vx .any (Jb Try.f85 9) = Qm.T9 := by kernel_rfl
theorem Qm.bits9 : Vk Qm.T9.2 Qm.B9 = true := by kernel_rfl
def Qm.T10 : Bool × List (List Nat × List Nat) := (true, [([], []), ([], []), ([0, 1], [0, 1]), ([2], [2]), ([], []), ([], []), ([4, 5], [4, 5]), ([6], [6]), ([3, 7], [3, 7])])
def Qm.B10 : List Nat := [0, 0, 3, 7, 0, 0, 48, 112, 255]
theorem Qm.tab10 : Vx .any (Jb Try.f85 10) = Qm.T10 := by kernel_rfl
theorem Qm.bits10 : Vk Qm.T10.2 Qm.B10 = true := by kernel_rfl
set_option maxHeartbeats 8000000 in
set_option maxRecDepth 100000 in
theorem Qm.calls (k : Nat) (A0 : Option Addr) (c0 : Nat) (l0 : List Int) (A1 : Option Addr) (c1 : Nat) (l1 : List Int) (r : Int) (w : World) (hr0 : Kd.C (Kd.int .i64) w A0 l0.length l0) (hc0 : l0.length ≤ c0) (hr1 : Kd.C (Kd.int .i64) w A1 l1.length l1) (hc1 : l1.length ≤ c1) (h : Qm.f k l0 l1 = some r) :
  Calls Try.prog 85 #[.slice A0 l0.length c0, .slice A1 l1.length c1] w fun e w' => e = .returned (.int .i64 r) ∧ Below w.heap.size w w' := by
 have HR0 := Qa.mk hr0; have HC0 := Qa.mk hc0; clear hr0 hc0; have HR1 := Qa.mk hr1; have HC1 := Qa.mk hc1; clear hr1 hc1; have HB := Qa.mk (Below.refl w.heap.size w); have H : (if 0 ≤ (wrap64 ((l1.length : Int) + 1)) then (if (wrap64 ((l1.length : Int) + 1) : Int).toNat ≤ 35184372088832 then (Qm.l0 k l0 l1 (List.replicate (wrap64 ((l1.length : Int) + 1) : Int).toNat 0) 0) else (none)) else (none)) = some r := h; clear h; obtain ⟨ji3, d9⟩ : ∃ j_ : Int, (wrap64 ((l1.length : Int) + 1)) = j_ := ⟨_, rfl⟩
 replace H : (if 0 ≤ (ji3) then (if (ji3 : Int).toNat ≤ 35184372088832 then (Qm.l0 k l0 l1 (List.replicate (ji3 : Int).toNat 0) 0) else (none)) else (none)) = some r := by first | (rw [d9] at H; exact H) | (simp only [d9] at H ⊢; exact H)
 have j3 : (IntKind.i64.wrap ((l1.length : Int) + 1)) = ji3 := (Yx _).trans d9
 by_cases c4 : 0 ≤ (ji3)
 ·rw [if_pos c4] at H
  have g0 := eq_true c4; have g1 : decide (0 ≤ (ji3)) = true := decide_eq_true c4; clear c4
  by_cases c5 : (ji3 : Int).toNat ≤ 35184372088832
  ·rw [if_pos c5] at H
   have g2 := eq_true c5; have g3 : decide ((ji3 : Int).toNat ≤ 35184372088832) = true := decide_eq_true c5; clear c5; obtain ⟨g4, d4⟩ : ∃ y_ : List Int, y_ = (List.replicate (ji3 : Int).toNat 0) := ⟨_, rfl⟩
   replace H : (Qm.l0 k l0 l1 g4 0) = some r := by first | (rw [d4]; with_reducible exact H) | (have H2_ := (Option.bind_some _ _).symm.trans H; rw [d4]; with_reducible exact H2_) | (have H2_ := (Option.bind_some _ _).symm.trans H; with_reducible exact H2_) | with_reducible exact H | (rw [d4]; exact H) | exact H
   have f6 := Qa.mk d4; clear d4; have H' := Qa.mk H; clear H
   go_enter Try.func85, Try.ntmps85
   go_wp2_with (first | ((with_reducible refine Zd (N := 12) rfl ?_); refine Kd.R_make (Kd.int .i64) _ 3 rfl (N := 12) rfl 22 _ _ rfl ji3 rfl rfl Try.underlying22 (.int .i64 0) 8 Uy rfl (by decide) (by omega) 0 (ok := fun _ => True) (okp := fun _ => True) rfl (fun _ hk => hk) trivial (of_decide_eq_true Zx) (Nat.le_trans (Nat.mul_le_mul_right _ (of_decide_eq_true Zx : ji3.toNat ≤ 35184372088832)) (by omega)) (Below.refl _ _) (Nat.le_refl _) ?_; intro l5 w6 ho7 hb hg_ hnew_; clear hg_ hnew_; (first | rw [← f6.out] at ho7 | (simp only [Int.reduceToNat] at ho7; rw [← f6.out] at ho7)); have n0_ := Qa.mk (Kd.R_lower ho7 (Qo bw_)); have n1_ := Qa.mk (Qj bw_ hb); clear HB; have h0 := n0_; have HB := n1_; clear n0_ n1_; clear hb ho7))
   go_loopg [5, 6] k (fun kq v5 v6 w' => ∃ (a2 : List Int) (a3 : Int), v6 = .int .i64 a3 ∧ Qa (Qm.l0 kq l0 l1 a2 a3 = some r) ∧ Qa (kq ≤ k) ∧ Qa (Kd.R (Kd.int .i64) 3 w' w.heap.size (fun _ => True) v5 a2) ∧ Qa (Below w.heap.size w w'))
   case atStart => exact ⟨(g4), (0), sm_, H', ⟨Nat.le_refl _⟩, ⟨ro_ h0.out⟩, ⟨bw_⟩⟩
   case round =>
    clear H'
    try clear c1
    try clear p2
    try clear c4
    try clear g0
    try clear g1
    try clear c5
    try clear g2
    try clear g3
    try clear p6
    obtain ⟨a2, a3, rfl, HA, HK1, a4, HB⟩ := hrel
    cases gk with
    | zero => exact absurd HA.out (by simp [Qm.l0])
    | succ k1 =>
     have H := HA.out; clear HA
     simp only [Qm.l0] at H
     by_cases c8 : a3 < (l0.length : Int)
     ·rw [if_pos c8] at H
      have g5 : decide (a3 < (l0.length : Int)) = true := decide_eq_true c8; clear c8
      replace H : (if 0 ≤ (ji3) then (if (ji3 : Int).toNat ≤ 35184372088832 then (Qm.l1 k1 l0 l1 a2 a3 (List.replicate (ji3 : Int).toNat 0) 0) else (none)) else (none)) = some r := by first | (rw [d9] at H; exact H) | (simp only [d9] at H ⊢; exact H) | exact H
      by_cases c9 : 0 ≤ (ji3)
      ·rw [if_pos c9] at H
       have i1 := eq_true c9; have i2 : decide (0 ≤ (ji3)) = true := decide_eq_true c9; clear c9
       by_cases c10 : (ji3 : Int).toNat ≤ 35184372088832
       ·rw [if_pos c10] at H
        have h2 := eq_true c10; have h3 : decide ((ji3 : Int).toNat ≤ 35184372088832) = true := decide_eq_true c10; clear c10; obtain ⟨g6, d5⟩ : ∃ y_ : List Int, y_ = (List.replicate (ji3 : Int).toNat 0) := ⟨_, rfl⟩
        replace H : (Qm.l1 k1 l0 l1 a2 a3 g6 0) = some r := by first | (rw [d5]; with_reducible exact H) | (have H2_ := (Option.bind_some _ _).symm.trans H; rw [d5]; with_reducible exact H2_) | (have H2_ := (Option.bind_some _ _).symm.trans H; with_reducible exact H2_) | with_reducible exact H | (rw [d5]; exact H) | exact H
        have f7 := Qa.mk d5; clear d5; have H' := Qa.mk H; clear H; go_wp2_with (first | ((with_reducible refine Zd (N := 22) rfl ?_); refine Kd.R_make (Kd.int .i64) _ 3 rfl (N := 22) rfl 22 _ _ rfl ji3 rfl rfl Try.underlying22 (.int .i64 0) 8 Uy rfl (by decide) (by omega) 0 (ok := fun _ => True) (okp := fun _ => True) rfl (fun _ hk => hk) trivial (of_decide_eq_true Zx) (Nat.le_trans (Nat.mul_le_mul_right _ (of_decide_eq_true Zx : ji3.toNat ≤ 35184372088832)) (by omega)) (Below.refl _ _) (Nat.le_refl _) ?_; intro g7 w11 ho12 hb hg_ hnew_; clear hg_ hnew_; (first | rw [← f7.out] at ho12 | (simp only [Int.reduceToNat] at ho12; rw [← f7.out] at ho12)); have n0_ := Qa.mk (Kd.R_elder' (ro_ a4.out) (Kd.R_base ho12) hb); have n1_ := Qa.mk (Kd.R_lower (Kd.R_new' ho12 (Kd.R_lt (ro_ a4.out))) (Qo bw_)); have n2_ := Qa.mk (Qj bw_ hb); clear a4; clear HB; have a4 := n0_; have h4 := n1_; have HB := n2_; clear n0_ n1_ n2_; clear hb ho12))
        go_loopg [8] k1 (fun kq v8 w' => ∃ (a6 : List Int) (a1 : Int), v8 = .int .i64 a1 ∧ Qa (Qm.l1 kq l0 l1 a2 a3 a6 a1 = some r) ∧ Qa (kq ≤ k1) ∧ Qa (Kd.R (Kd.int .i64) 3 w' w.heap.size (fun k_ => some k_ ≠ (g7 : Value).ownBlock) u5 a2) ∧ Qa (Kd.R (Kd.int .i64) 3 w' w.heap.size (fun k_ => some k_ ≠ (u5 : Value).ownBlock) g7 a6) ∧ Qa (Below w.heap.size w w'))
        case atStart => exact ⟨(g6), (0), sm_, H', ⟨Nat.le_refl _⟩, ⟨by (with_reducible repeat (first | apply Kd.R_alloc | apply Kd.R_drewN | apply Kd.R_drew)); exact Kd.R_mono a4.out (fun _ hk => hk.2)⟩, ⟨by (with_reducible repeat (first | apply Kd.R_alloc | apply Kd.R_drewN | apply Kd.R_drew)); exact Kd.R_mono h4.out (fun _ hk => hk.2)⟩, ⟨bw_⟩⟩
        case round =>
         clear H'
         try clear c1
         try clear p2
         try clear c4
         try clear g0
         try clear g1
         try clear c5
         try clear g2
         try clear g3
         try clear p6
         try clear c8
         try clear g5
         try clear c9
         try clear i1
         try clear i2
         try clear c10
         try clear h2
         try clear h3
         try clear p2
         try clear p6
         obtain ⟨a6, a1, rfl, HA, HK2, a4, a5, HB⟩ := hrel
         cases gk with
         | zero => exact absurd HA.out (by simp [Qm.l1])
         | succ k2 =>
          have H := HA.out; clear HA
          simp only [Qm.l1] at H
          by_cases c13 : a1 < (l1.length : Int)
          ·rw [if_pos c13] at H
           have h5 : decide (a1 < (l1.length : Int)) = true := decide_eq_true c13; clear c13; obtain ⟨a0, d6⟩ : ∃ j_ : Int, (wrap64 (a1 + 1)) = j_ := ⟨_, rfl⟩
           replace H : (if 0 ≤ (a0) then (if (a0) < (a2.length : Int) then (if 0 ≤ a1 then (if a1 < (a6.length : Int) then (if (a0) < (a6.length : Int) then ((some (a6.set ((a0) : Int).toNat (mx (rd a2 (a0)) (rd a6 a1)) : List Int)).bind fun a9 => (if 0 ≤ a3 then (if a3 < (l0.length : Int) then (if (rd l0 a3) = (rd l1 a1) then (if a1 < (a2.length : Int) then (Qm.l1 k2 l0 l1 a2 a3 (a9.set ((a0) : Int).toNat (wrap64 ((rd a2 a1) + 1))) a0) else (none)) else (Qm.l1 k2 l0 l1 a2 a3 a9 a0)) else (none)) else (none))) else (none)) else (none)) else (none)) else (none)) else (none)) = some r := by first | (rw [d6] at H; exact H) | (simp only [d6] at H ⊢; exact H)
           have i7 : (IntKind.i64.wrap (a1 + 1)) = a0 := (Yx _).trans d6
           by_cases c15 : 0 ≤ (a0)
           ·rw [if_pos c15] at H
            have j5 : decide (0 ≤ (a0)) = true := decide_eq_true c15; clear c15
            by_cases c16 : (a0) < (a2.length : Int)
            ·rw [if_pos c16] at H
             have j7 : decide ((a0) < (a2.length : Int)) = true := decide_eq_true c16; clear c16
             by_cases c17 : 0 ≤ a1
             ·rw [if_pos c17] at H
              have j8 : decide (0 ≤ a1) = true := decide_eq_true c17; clear c17
              by_cases c18 : a1 < (a6.length : Int)
              ·rw [if_pos c18] at H
               have j9 : decide (a1 < (a6.length : Int)) = true := decide_eq_true c18; clear c18; obtain ⟨b0, e3⟩ : ∃ j_ : Int, (mx (rd a2 (a0)) (rd a6 a1)) = j_ := ⟨_, rfl⟩
               replace H : (if (a0) < (a6.length : Int) then ((some (a6.set ((a0) : Int).toNat (b0) : List Int)).bind fun a9 => (if 0 ≤ a3 then (if a3 < (l0.length : Int) then (if (rd l0 a3) = (rd l1 a1) then (if a1 < (a2.length : Int) then (Qm.l1 k2 l0 l1 a2 a3 (a9.set ((a0) : Int).toNat (wrap64 ((rd a2 a1) + 1))) a0) else (none)) else (Qm.l1 k2 l0 l1 a2 a3 a9 a0)) else (none)) else (none))) else (none)) = some r := by first | (rw [e3] at H; exact H) | (simp only [e3] at H ⊢; exact H)
               have i8 : (if (rd a2 (a0)) < (rd a6 a1) then (rd a6 a1) else (rd a2 (a0))) = b0 := e3
               by_cases c20 : (a0) < (a6.length : Int)
               ·rw [if_pos c20] at H
                have k0 : decide ((a0) < (a6.length : Int)) = true := decide_eq_true c20; clear c20; obtain ⟨a9, d7⟩ : ∃ y_ : List Int, y_ = (a6.set ((a0) : Int).toNat (b0)) := ⟨_, rfl⟩
                replace H : (if 0 ≤ a3 then (if a3 < (l0.length : Int) then (if (rd l0 a3) = (rd l1 a1) then (if a1 < (a2.length : Int) then (Qm.l1 k2 l0 l1 a2 a3 (a9.set ((a0) : Int).toNat (wrap64 ((rd a2 a1) + 1))) a0) else (none)) else (Qm.l1 k2 l0 l1 a2 a3 a9 a0)) else (none)) else (none)) = some r := by first | (rw [d7]; with_reducible exact H) | (have H2_ := (Option.bind_some _ _).symm.trans H; rw [d7]; with_reducible exact H2_) | (have H2_ := (Option.bind_some _ _).symm.trans H; with_reducible exact H2_) | with_reducible exact H | (rw [d7]; exact H) | exact H
                have f8 := Qa.mk d7; clear d7
                by_cases c22 : 0 ≤ a3
                ·rw [if_pos c22] at H
                 have k3 : decide (0 ≤ a3) = true := decide_eq_true c22; clear c22
                 by_cases c23 : a3 < (l0.length : Int)
                 ·rw [if_pos c23] at H
                  have k4 : decide (a3 < (l0.length : Int)) = true := decide_eq_true c23; clear c23
                  by_cases c24 : (rd l0 a3) = (rd l1 a1)
                  ·rw [if_pos c24] at H
                   have h6 : ((rd l0 a3) == (rd l1 a1)) = true := beq_iff_eq.mpr c24; have h7 : ((rd l0 a3) != (rd l1 a1)) = false := bne_eq_false_iff_eq.mpr c24; clear c24
                   by_cases c25 : a1 < (a2.length : Int)
                   ·rw [if_pos c25] at H
                    have k5 : decide (a1 < (a2.length : Int)) = true := decide_eq_true c25; clear c25; obtain ⟨e6, d8⟩ : ∃ y_ : List Int, y_ = (a9.set ((a0) : Int).toNat (wrap64 ((rd a2 a1) + 1))) := ⟨_, rfl⟩
                    replace H : (Qm.l1 k2 l0 l1 a2 a3 e6 a0) = some r := by first | (rw [d8]; with_reducible exact H) | (have H2_ := (Option.bind_some _ _).symm.trans H; rw [d8]; with_reducible exact H2_) | (have H2_ := (Option.bind_some _ _).symm.trans H; with_reducible exact H2_) | with_reducible exact H | (rw [d8]; exact H) | exact H
                    have h8 := Qa.mk d8; clear d8; have H' := Qa.mk H; clear H
                    try go_wp2
                    have n0_ := Qa.mk (Kd.R_drew a4.out); have n1_ := Qa.mk (Kd.R_drew a5.out); have n2_ := Qa.mk (Qi HB.out); clear a4; clear a5; clear HB; have a4 := n0_; have a5 := n1_; have HB := n2_; clear n0_ n1_ n2_; obtain ⟨l6, e7, eo28⟩ := Kd.R_slice a4.out
                    (first | subst eo28 | (injection eo28 with f1_ f2_ f3_; have f4_ := f1_.symm; have f5_ := f3_.symm; clear f1_ f2_ f3_; subst f4_; subst f5_))
                    have b4 : 0 ≤ ((a0) : Int) := of_decide_eq_true Zx; have b5 : (a0) < (a2.length : Int) := of_decide_eq_true Zx; obtain ⟨b2, e8, b3⟩ := Kd.at_int (Kd.R_reads' a4.out).2.2 (a0) b4 b5
                    cases e8; replace b4 := eq_true b4; replace b5 := eq_true b5; obtain ⟨l7, e0, eo29⟩ := Kd.R_slice a5.out
                    (first | subst eo29 | (injection eo29 with f1_ f2_ f3_; have f4_ := f1_.symm; have f5_ := f3_.symm; clear f1_ f2_ f3_; subst f4_; subst f5_))
                    have b6 : 0 ≤ (a1 : Int) := of_decide_eq_true Zx; have b7 : a1 < (a6.length : Int) := of_decide_eq_true Zx; obtain ⟨h9, e9, b1⟩ := Kd.at_int (Kd.R_reads' a5.out).2.2 a1 b6 b7
                    cases e9; replace b6 := eq_true b6; replace b7 := eq_true b7; have p21 : 0 ≤ ((a0) : Int) := of_decide_eq_true Zx; have q21 : ((a0) : Int) < ((a6.length : Int) : Int) := of_decide_eq_true Zx; obtain ⟨go21, i3, eo21, e1, gl21, cl21, HG21⟩ := Kd.R_form a5.out (by omega)
                    (first | cases eo21 | (injection eo21 with ea_ en_ ec_; (first | subst ea_ | (injection ea_ with ea_; subst ea_)); subst ec_; clear en_))
                    have GB21 := Qa.mk e1; have GG21 := Qa.mk HG21; clear e1 gl21 HG21
                    (first | simp only [Yf] at b1 | skip)
                    obtain ⟨e2, hf21_0⟩ := Kd.R_celln 0 a5.out ((a0) : Int) p21 q21; replace p21 := eq_true p21; replace q21 := eq_true q21; have HP30 := Kd.R_putn a5.out ((a0) : Int) b0
                    rw [← f8.out] at HP30
                    have HQ30 := Qa.mk HP30; clear HP30; refine Ug (n := 15) (S := fun w' => w'.cell? (b2.add ((a0)).toNat) = some (.int .i64 (rd a2 (a0))) ∧ w'.cell? ⟨go21, (a1).toNat, none⟩ = some (.int .i64 (rd a6 a1))) (ds := [14]) (bz_ 15 0) (by kernel_rfl) rfl rfl ⟨b3, b1⟩ (fun hHeld => ?_); refine Va Qm.tab9 Qm.bits9 (fun HT_ HW_ => ?_)
                    generalize wr.drew = w27 at a4 a5 HB GG21 HQ30 hf21_0 b3 b1 e2 hHeld ⊢
                    refine pu_ (i := 0) (N := some 29) #[true, false, false, false, false, false, false, false, false, false, false, false, false, false, false] ?_; refine pu_ (i := 1) (N := some 30) #[true, true, false, false, false, false, false, false, false, false, false, false, false, false, false] ?_; refine pu_ (i := 2) (N := some 31) #[true, true, true, false, false, false, false, false, false, false, false, false, false, false, false] ?_; refine pu_ (i := 3) (N := some 32) #[true, true, true, true, false, false, false, false, false, false, false, false, false, false, false] ?_; refine pu_ (i := 4) (N := some 33) #[true, true, true, true, true, false, false, false, false, false, false, false, false, false, false] ?_; refine pu_ (i := 5) (N := some 34) #[true, true, true, true, true, true, false, false, false, false, false, false, false, false, false] ?_; refine pu_ (i := 6) (N := some 35) #[true, true, true, true, true, true, true, false, false, false, false, false, false, false, false] ?_; refine pu_ (i := 8) (N := some 37) #[true, true, true, true, true, true, true, false, true, false, false, false, false, false, false] ?_; refine pu_ (i := 9) (N := some 38) #[true, true, true, true, true, true, true, false, true, true, false, false, false, false, false] ?_; refine pu_ (i := 10) (N := some 39) #[true, true, true, true, true, true, true, false, true, true, true, false, false, false, false] ?_; refine ta_ (i := 7) (N := some 36) #[true, true, true, true, true, true, true, true, true, true, true, false, false, false, false] ?_; refine ta_ (i := 11) (N := some 40) #[true, true, true, true, true, true, true, true, true, true, true, true, false, false, false] ?_; refine pu_ (i := 12) (N := some 41) #[true, true, true, true, true, true, true, true, true, true, true, true, true, false, false] ?_; refine pu_ (i := 13) (N := some 42) #[true, true, true, true, true, true, true, true, true, true, true, true, true, true, false] ?_; refine Qbb (i := 14) (N := none) (bz_ 15 32767) rfl rfl (Kx HT_.out (by kernel_rfl)) (by decide) (fun K hK => ?_); refine Jz (w1 := ?_) (by rfl) rfl ?_ ?_; rotate_left
                    ·go_simp
                     rfl
                    refine hK.out _ _ ?_; clear hK K; refine Ki (Vq HT_.out (by kernel_rfl)) ?_
                    try go_wp2
                    have n0_ : Qa (Kd.R (Kd.int .i64) 3 (w27.setCell ⟨go21, ((a0) : Int).toNat, none⟩ (.int .i64 b0)) w.heap.size (fun k_ => some k_ ≠ (.slice (some ⟨go21, 0, none⟩) a6.length e0 : Value).ownBlock) (.slice (some b2) a2.length e7) a2) := ⟨by (with_reducible repeat (first | apply Kd.R_alloc | apply Kd.R_drewN | apply Kd.R_drew)); exact Kd.R_mono (Kd.R_far (p := ⟨go21, ((a0) : Int).toNat, none⟩) (Kd.R_mono a4.out (fun k_ hk => (⟨hk, fun e_ => hk (by rw [e_]; rfl)⟩ : _ ∧ k_ ≠ go21))) (fun _ hk => hk.2) (.int .i64 b0)) (fun _ hk => hk.1)⟩; have n1_ : Qa (Kd.R (Kd.int .i64) 3 (w27.setCell ⟨go21, ((a0) : Int).toNat, none⟩ (.int .i64 b0)) w.heap.size (fun k_ => some k_ ≠ (.slice (some b2) a2.length e7 : Value).ownBlock) (.slice (some ⟨go21, 0, none⟩) a6.length e0) a9) := ⟨ro_ HQ30.out⟩; have n2_ : Qa (Below w.heap.size w (w27.setCell ⟨go21, ((a0) : Int).toNat, none⟩ (.int .i64 b0))) := ⟨by repeat (first | (with_reducible first | exact HB.out | apply Qh | apply Qf | apply Qi | refine Qr ?_ GB21.out) | exact HB.out)⟩
                    (try clear a4)
                    (try clear a5)
                    (try clear HB)
                    generalize (w27.setCell ⟨go21, ((a0) : Int).toNat, none⟩ (.int .i64 b0)) = w31 at n0_ n1_ n2_ ⊢
                    have a4 := n0_; have a5 := n1_; have HB := n2_; clear n0_ n1_ n2_; have n0_ := Qa.mk (Kd.R_drew a4.out); have n1_ := Qa.mk (Kd.R_drew a5.out); have n2_ := Qa.mk (Qi HB.out); clear a4; clear a5; clear HB; have a4 := n0_; have a5 := n1_; have HB := n2_; clear n0_ n1_ n2_; have b8 : 0 ≤ (a3 : Int) := of_decide_eq_true Zx; have b9 : a3 < (l0.length : Int) := of_decide_eq_true Zx; obtain ⟨e4, f0, a7⟩ := Kd.at_int HR0.out a3 b8 b9; have hw111_0 := a7
                    cases f0; replace a7 := Qg HB.out a7; replace b8 := eq_true b8; replace b9 := eq_true b9; have d0 : 0 ≤ (a1 : Int) := of_decide_eq_true Zx; have d3 : a1 < (l1.length : Int) := of_decide_eq_true Zx; obtain ⟨e5, f1, a8⟩ := Kd.at_int HR1.out a1 d0 d3; have hw112_0 := a8
                    cases f1; replace a8 := Qg HB.out a8; replace d0 := eq_true d0; replace d3 := eq_true d3; refine Ug (n := 9) (S := fun w' => w'.cell? (e4.add (a3).toNat) = some (.int .i64 (rd l0 a3)) ∧ w'.cell? (e5.add (a1).toNat) = some (.int .i64 (rd l1 a1))) (ds := []) (bz_ 9 0) (by kernel_rfl) rfl rfl ⟨(Qg HB.out hw111_0), (Qg HB.out hw112_0)⟩ (fun hHeld => ?_); refine Va Qm.tab10 Qm.bits10 (fun HT_ HW_ => ?_)
                    generalize w31.drew = w32 at a4 a5 HB HQ30 a7 a8 hHeld ⊢
                    refine pu_ (i := 0) (N := some 43) #[true, false, false, false, false, false, false, false, false] ?_; refine pu_ (i := 1) (N := some 44) #[true, true, false, false, false, false, false, false, false] ?_; refine pu_ (i := 2) (N := some 45) #[true, true, true, false, false, false, false, false, false] ?_; refine pu_ (i := 4) (N := some 47) #[true, true, true, false, true, false, false, false, false] ?_; refine pu_ (i := 5) (N := some 48) #[true, true, true, false, true, true, false, false, false] ?_; refine pu_ (i := 6) (N := some 49) #[true, true, true, false, true, true, true, false, false] ?_; refine ta_ (i := 3) (N := some 46) #[true, true, true, true, true, true, true, false, false] ?_; refine ta_ (i := 7) (N := some 50) #[true, true, true, true, true, true, true, true, false] ?_; refine pu_ (i := 8) (N := some 51) #[true, true, true, true, true, true, true, true, true] ?_; refine Ki (Vq HT_.out (by kernel_rfl)) ?_; have f2 : 0 ≤ (a1 : Int) := of_decide_eq_true Zx; have f3 : a1 < (a2.length : Int) := of_decide_eq_true Zx; obtain ⟨i0, i4, i6⟩ := Kd.at_int (Kd.R_reads' a4.out).2.2 a1 f2 f3; obtain rfl : b2 = i0 := (by injection i4); replace f2 := eq_true f2; replace f3 := eq_true f3; have p26 : 0 ≤ ((a0) : Int) := of_decide_eq_true Zx; have q26 : ((a0) : Int) < ((a6.length : Int) : Int) := of_decide_eq_true Zx; obtain ⟨i9, hf26_0⟩ := Kd.R_celln 0 a5.out ((a0) : Int) p26 q26; replace p26 := eq_true p26; replace q26 := eq_true q26; obtain ⟨k6, hz33_⟩ := Kd.R_celln 0 a5.out ((a0) : Int) (of_decide_eq_true Zx) (of_decide_eq_true Zx); have HP33 := Kd.R_putg a5.out ((a0) : Int) (wrap64 ((rd a2 a1) + 1))
                    try go_wp2_with (first | ((with_reducible refine Qax (t := 3) (p := 60) rfl ?_); refine Qao (t := 3) (p := 60) (v := ?vo_w34) (w1 := (w32.setCell ⟨go21, ((a0) : Int).toNat, none⟩ (.int .i64 (wrap64 ((rd a2 a1) + 1))))) ?hg ?ho ?hn ?hr ?_; (case ho => rfl); (case hg => rfl); (case hn => rfl); (case hr => first | (go_simp; done) | (go_simp; rfl)); intro w34 hw; have hg : w32.grownBy w34 (some go21) := (by rw [hw]; exact HP33.2); have hp_ : Kd.R (Kd.int .i64) 3 w34 w.heap.size (fun k_ => some k_ ≠ (.slice (some b2) a2.length e7 : Value).ownBlock) (.slice (some ⟨go21, 0, none⟩) a6.length e0) e6 := (by rw [hw, h8.out]; exact HP33.1); clear HP33; have n0_ := Qa.mk (Kd.R_after (v := (.slice (some ⟨go21, 0, none⟩) a6.length e0)) (v1 := (.slice (some ⟨go21, 0, none⟩) a6.length e0)) (ok := (fun _ => True)) (ro_ (Kd.R_mono a4.out (fun _ hk => ⟨trivial, hk⟩))) hg (.inl rfl)); have n1_ := Qa.mk (hp_); have n2_ := Qa.mk ((by rw [hw]; exact Qr (HB.out) GB21.out : Below w.heap.size w w34)); clear a4; clear a5; clear HB; have a4 := n0_; have a5 := n1_; have HB := n2_; clear n0_ n1_ n2_; clear hg hw hp_))
                    go_roundg k2
                    case measure => have := HK1.out; have := HK2.out; omega
                    case rel => exact ⟨(e6), (a0), (by first | rfl | (simp; done) | (simp only [← d6] <;> (first | rfl | simp)) | (simp [*]; done)), H', ⟨by have := HK1.out; have := HK2.out; omega⟩, ⟨by (with_reducible repeat (first | apply Kd.R_alloc | apply Kd.R_drewN | apply Kd.R_drew)); exact Kd.R_mono a4.out (fun _ hk => hk.2)⟩, ⟨ro_ a5.out⟩, ⟨bw_⟩⟩
                   ·rw [if_neg c25] at H
                    exact absurd H (by simp)
                  ·rw [if_neg c24] at H
                   have h6 : ((rd l0 a3) == (rd l1 a1)) = false := beq_eq_false_iff_ne.mpr c24; have h7 : ((rd l0 a3) != (rd l1 a1)) = true := bne_iff_ne.mpr c24; have H' := Qa.mk H; clear H
                   try go_wp2
                   have n0_ := Qa.mk (Kd.R_drew a4.out); have n1_ := Qa.mk (Kd.R_drew a5.out); have n2_ := Qa.mk (Qi HB.out); clear a4; clear a5; clear HB; have a4 := n0_; have a5 := n1_; have HB := n2_; clear n0_ n1_ n2_; obtain ⟨l8, g8, eo36⟩ := Kd.R_slice a4.out
                   (first | subst eo36 | (injection eo36 with f1_ f2_ f3_; have f4_ := f1_.symm; have f5_ := f3_.symm; clear f1_ f2_ f3_; subst f4_; subst f5_))
                   have b4 : 0 ≤ ((a0) : Int) := of_decide_eq_true Zx; have b5 : (a0) < (a2.length : Int) := of_decide_eq_true Zx; obtain ⟨b2, e8, b3⟩ := Kd.at_int (Kd.R_reads' a4.out).2.2 (a0) b4 b5
                   cases e8; replace b4 := eq_true b4; replace b5 := eq_true b5; obtain ⟨l9, g9, eo37⟩ := Kd.R_slice a5.out
                   (first | subst eo37 | (injection eo37 with f1_ f2_ f3_; have f4_ := f1_.symm; have f5_ := f3_.symm; clear f1_ f2_ f3_; subst f4_; subst f5_))
                   have b6 : 0 ≤ (a1 : Int) := of_decide_eq_true Zx; have b7 : a1 < (a6.length : Int) := of_decide_eq_true Zx; obtain ⟨h9, e9, b1⟩ := Kd.at_int (Kd.R_reads' a5.out).2.2 a1 b6 b7
                   cases e9; replace b6 := eq_true b6; replace b7 := eq_true b7; have p21 : 0 ≤ ((a0) : Int) := of_decide_eq_true Zx; have q21 : ((a0) : Int) < ((a6.length : Int) : Int) := of_decide_eq_true Zx; obtain ⟨go21, i3, eo21, e1, gl21, cl21, HG21⟩ := Kd.R_form a5.out (by omega)
                   (first | cases eo21 | (injection eo21 with ea_ en_ ec_; (first | subst ea_ | (injection ea_ with ea_; subst ea_)); subst ec_; clear en_))
                   have GB21 := Qa.mk e1; have GG21 := Qa.mk HG21; clear e1 gl21 HG21
                   (first | simp only [Yf] at b1 | skip)
                   obtain ⟨e2, hf21_0⟩ := Kd.R_celln 0 a5.out ((a0) : Int) p21 q21; replace p21 := eq_true p21; replace q21 := eq_true q21; have HP38 := Kd.R_putn a5.out ((a0) : Int) b0
                   rw [← f8.out] at HP38
                   have HQ38 := Qa.mk HP38; clear HP38; refine Ug (n := 15) (S := fun w' => w'.cell? (b2.add ((a0)).toNat) = some (.int .i64 (rd a2 (a0))) ∧ w'.cell? ⟨go21, (a1).toNat, none⟩ = some (.int .i64 (rd a6 a1))) (ds := [14]) (bz_ 15 0) (by kernel_rfl) rfl rfl ⟨b3, b1⟩ (fun hHeld => ?_); refine Va Qm.tab9 Qm.bits9 (fun HT_ HW_ => ?_)
                   generalize wr.drew = w35 at a4 a5 HB GG21 HQ38 hf21_0 b3 b1 e2 hHeld ⊢
                   refine pu_ (i := 0) (N := some 29) #[true, false, false, false, false, false, false, false, false, false, false, false, false, false, false] ?_; refine pu_ (i := 1) (N := some 30) #[true, true, false, false, false, false, false, false, false, false, false, false, false, false, false] ?_; refine pu_ (i := 2) (N := some 31) #[true, true, true, false, false, false, false, false, false, false, false, false, false, false, false] ?_; refine pu_ (i := 3) (N := some 32) #[true, true, true, true, false, false, false, false, false, false, false, false, false, false, false] ?_; refine pu_ (i := 4) (N := some 33) #[true, true, true, true, true, false, false, false, false, false, false, false, false, false, false] ?_; refine pu_ (i := 5) (N := some 34) #[true, true, true, true, true, true, false, false, false, false, false, false, false, false, false] ?_; refine pu_ (i := 6) (N := some 35) #[true, true, true, true, true, true, true, false, false, false, false, false, false, false, false] ?_; refine pu_ (i := 8) (N := some 37) #[true, true, true, true, true, true, true, false, true, false, false, false, false, false, false] ?_; refine pu_ (i := 9) (N := some 38) #[true, true, true, true, true, true, true, false, true, true, false, false, false, false, false] ?_; refine pu_ (i := 10) (N := some 39) #[true, true, true, true, true, true, true, false, true, true, true, false, false, false, false] ?_; refine ta_ (i := 7) (N := some 36) #[true, true, true, true, true, true, true, true, true, true, true, false, false, false, false] ?_; refine ta_ (i := 11) (N := some 40) #[true, true, true, true, true, true, true, true, true, true, true, true, false, false, false] ?_; refine pu_ (i := 12) (N := some 41) #[true, true, true, true, true, true, true, true, true, true, true, true, true, false, false] ?_; refine pu_ (i := 13) (N := some 42) #[true, true, true, true, true, true, true, true, true, true, true, true, true, true, false] ?_; refine Qbb (i := 14) (N := none) (bz_ 15 32767) rfl rfl (Kx HT_.out (by kernel_rfl)) (by decide) (fun K hK => ?_); refine Jz (w1 := ?_) (by rfl) rfl ?_ ?_; rotate_left
                   ·go_simp
                    rfl
                   refine hK.out _ _ ?_; clear hK K; refine Ki (Vq HT_.out (by kernel_rfl)) ?_
                   try go_wp2
                   have n0_ : Qa (Kd.R (Kd.int .i64) 3 (w35.setCell ⟨go21, ((a0) : Int).toNat, none⟩ (.int .i64 b0)) w.heap.size (fun k_ => some k_ ≠ (.slice (some ⟨go21, 0, none⟩) a6.length g9 : Value).ownBlock) (.slice (some b2) a2.length g8) a2) := ⟨by (with_reducible repeat (first | apply Kd.R_alloc | apply Kd.R_drewN | apply Kd.R_drew)); exact Kd.R_mono (Kd.R_far (p := ⟨go21, ((a0) : Int).toNat, none⟩) (Kd.R_mono a4.out (fun k_ hk => (⟨hk, fun e_ => hk (by rw [e_]; rfl)⟩ : _ ∧ k_ ≠ go21))) (fun _ hk => hk.2) (.int .i64 b0)) (fun _ hk => hk.1)⟩; have n1_ : Qa (Kd.R (Kd.int .i64) 3 (w35.setCell ⟨go21, ((a0) : Int).toNat, none⟩ (.int .i64 b0)) w.heap.size (fun k_ => some k_ ≠ (.slice (some b2) a2.length g8 : Value).ownBlock) (.slice (some ⟨go21, 0, none⟩) a6.length g9) a9) := ⟨ro_ HQ38.out⟩; have n2_ : Qa (Below w.heap.size w (w35.setCell ⟨go21, ((a0) : Int).toNat, none⟩ (.int .i64 b0))) := ⟨by repeat (first | (with_reducible first | exact HB.out | apply Qh | apply Qf | apply Qi | refine Qr ?_ GB21.out) | exact HB.out)⟩
                   (try clear a4)
                   (try clear a5)
                   (try clear HB)
                   generalize (w35.setCell ⟨go21, ((a0) : Int).toNat, none⟩ (.int .i64 b0)) = w39 at n0_ n1_ n2_ ⊢
                   have a4 := n0_; have a5 := n1_; have HB := n2_; clear n0_ n1_ n2_; have n0_ := Qa.mk (Kd.R_drew a4.out); have n1_ := Qa.mk (Kd.R_drew a5.out); have n2_ := Qa.mk (Qi HB.out); clear a4; clear a5; clear HB; have a4 := n0_; have a5 := n1_; have HB := n2_; clear n0_ n1_ n2_; have b8 : 0 ≤ (a3 : Int) := of_decide_eq_true Zx; have b9 : a3 < (l0.length : Int) := of_decide_eq_true Zx; obtain ⟨e4, f0, a7⟩ := Kd.at_int HR0.out a3 b8 b9; have hw111_0 := a7
                   cases f0; replace a7 := Qg HB.out a7; replace b8 := eq_true b8; replace b9 := eq_true b9; have d0 : 0 ≤ (a1 : Int) := of_decide_eq_true Zx; have d3 : a1 < (l1.length : Int) := of_decide_eq_true Zx; obtain ⟨e5, f1, a8⟩ := Kd.at_int HR1.out a1 d0 d3; have hw112_0 := a8
                   cases f1; replace a8 := Qg HB.out a8; replace d0 := eq_true d0; replace d3 := eq_true d3; refine Ug (n := 9) (S := fun w' => w'.cell? (e4.add (a3).toNat) = some (.int .i64 (rd l0 a3)) ∧ w'.cell? (e5.add (a1).toNat) = some (.int .i64 (rd l1 a1))) (ds := []) (bz_ 9 0) (by kernel_rfl) rfl rfl ⟨(Qg HB.out hw111_0), (Qg HB.out hw112_0)⟩ (fun hHeld => ?_); refine Va Qm.tab10 Qm.bits10 (fun HT_ HW_ => ?_)
                   generalize w39.drew = w40 at a4 a5 HB HQ38 a7 a8 hHeld ⊢
                   refine pu_ (i := 0) (N := some 43) #[true, false, false, false, false, false, false, false, false] ?_; refine pu_ (i := 1) (N := some 44) #[true, true, false, false, false, false, false, false, false] ?_; refine pu_ (i := 2) (N := some 45) #[true, true, true, false, false, false, false, false, false] ?_; refine pu_ (i := 4) (N := some 47) #[true, true, true, false, true, false, false, false, false] ?_; refine pu_ (i := 5) (N := some 48) #[true, true, true, false, true, true, false, false, false] ?_; refine pu_ (i := 6) (N := some 49) #[true, true, true, false, true, true, true, false, false] ?_; refine ta_ (i := 3) (N := some 46) #[true, true, true, true, true, true, true, false, false] ?_; refine ta_ (i := 7) (N := some 50) #[true, true, true, true, true, true, true, true, false] ?_; refine pu_ (i := 8) (N := some 51) #[true, true, true, true, true, true, true, true, true] ?_; refine Ki (Vq HT_.out (by kernel_rfl)) ?_
                   try go_wp2
                   go_roundg k2
                   case measure => have := HK1.out; have := HK2.out; omega
                   case rel => exact ⟨(a9), (a0), (by first | rfl | (simp; done) | (simp only [← d6] <;> (first | rfl | simp)) | (simp [*]; done)), H', ⟨by have := HK1.out; have := HK2.out; omega⟩, ⟨ro_ a4.out⟩, ⟨ro_ a5.out⟩, ⟨bw_⟩⟩
                 ·rw [if_neg c23] at H
                  exact absurd H (by simp)
                ·rw [if_neg c22] at H
                 exact absurd H (by simp)
               ·rw [if_neg c20] at H
                exact absurd H (by simp)
              ·rw [if_neg c18] at H
               exact absurd H (by simp)
             ·rw [if_neg c17] at H
              exact absurd H (by simp)
            ·rw [if_neg c16] at H
             exact absurd H (by simp)
           ·rw [if_neg c15] at H
            exact absurd H (by simp)
          ·rw [if_neg c13] at H
           have h5 : decide (a1 < (l1.length : Int)) = false := decide_eq_false c13; clear c13; have H' := Qa.mk H; clear H
           go_wp2
           go_roundg k2
           case measure => have := HK1.out; have := HK2.out; omega
           case rel => exact ⟨(a6), (wrap64 (a3 + 1)), sm_, H', ⟨by have := HK1.out; have := HK2.out; omega⟩, ⟨by (with_reducible repeat (first | apply Kd.R_alloc | apply Kd.R_drewN | apply Kd.R_drew)); exact Kd.R_mono a5.out (fun _ hk => trivial)⟩, ⟨bw_⟩⟩
       ·rw [if_neg c10] at H
        exact absurd H (by simp)
      ·rw [if_neg c9] at H
       exact absurd H (by simp)
     ·rw [if_neg c8] at H
      have g5 : decide (a3 < (l0.length : Int)) = false := decide_eq_false c8; clear c8
      by_cases c41 : 0 ≤ (l1.length : Int)
      ·rw [if_pos c41] at H
       have k7 : decide (0 ≤ (l1.length : Int)) = true := decide_eq_true c41; have k8 : decide (0 ≤ l1.length) = true := decide_eq_true (by omega); clear c41
       by_cases c42 : (l1.length : Int) < (a2.length : Int)
       ·rw [if_pos c42] at H
        have k9 : decide ((l1.length : Int) < (a2.length : Int)) = true := decide_eq_true c42; have l3 : decide (l1.length < a2.length) = true := decide_eq_true (Int.ofNat_lt.mp c42); clear c42; obtain rfl := Option.some.inj H; obtain ⟨m0, m1, eo43⟩ := Kd.R_slice a4.out; subst eo43; have f4 : 0 ≤ ((l1.length : Int) : Int) := of_decide_eq_true Zx; have f5 : (l1.length : Int) < (a2.length : Int) := of_decide_eq_true Zx; obtain ⟨l4, i5, f9⟩ := Kd.at_int (Kd.R_reads' a4.out).2.2 (l1.length : Int) f4 f5
        cases i5
        (try simp only [Go.IntWalk.toNatUp] at f9)
        replace f4 := eq_true f4; replace f5 := eq_true f5
        go_wp2
        go_ret; exact ⟨by first | rfl | (simp [Qt, Qu] <;> rfl) | (simp only [← d9]; first | rfl | (simp [Qt, Qu] <;> rfl)) | (simp [*, Qt, Qu] <;> rfl), bw_⟩
       ·rw [if_neg c42] at H
        exact absurd H (by simp)
      ·rw [if_neg c41] at H
       exact absurd H (by simp)
  ·rw [if_neg c5] at H
   exact absurd H (by simp)
 ·rw [if_neg c4] at H
  exact absurd H (by simp)
def Zr.l0 : Nat → List (S37) → List (S39) → Int → Option ((List (S39)))
 | 0, _, _, _ => none
 | k + 1, x0, x3, x4 => if x4 < (x0.length : Int) then (if 0 ≤ x4 then (if x3.length < 8796093022208 then (Zr.l0 k x0 (x3 ++ [(⟨(Zm x0 x4).f0, (Zm x0 x4).f1⟩ : S39)]) (wrap64 (x4 + 1))) else (none)) else (none)) else (some x3)
def Zr.f (k : Nat) (l0 : List (S37)) : Option ((List (S39))) := Zr.l0 k l0 ([] : List (S39)) 0
end Go.Proofs.Ytadafplbgophfaa.PA
end
section
namespace Go.Proofs.Ytadafplbgophfaa.PA
open Go.RowKit Go.Proofs.YtadafplbgophfaaW.PrintWords Go.Proofs.YtadafplbgophfaaW.PrintLast Go.Proofs.YtadafplbgophfaaW.PrintMore
open Go.Proofs.Ytadafplbgophfaa.TriLcs
def Ut (p : S37) : S39 := ⟨p.f0, p.f1⟩
theorem Uw (xs : List S37) {i : Nat} (h : i < xs.length) : Zm xs (i : Int) = xs[i] := by simp [Zm, List.getD_eq_getElem?_getD, h]
theorem Qnn (r : List S37) (hr : r.length ≤ 1000000000) : ∀ (d i : Nat), r.length - i ≤ d → i ≤ r.length → Ev (fun k => Zr.l0 k r ((r.take i).map Ut) i) (r.map Ut) := by
 intro d
 induction d with
 | zero =>
  intro i h1 h2; refine Ev.step (f := fun _ => some (r.map Ut)) (fun k => ?_) (Ev.now _); simp only [Zr.l0]; rw [if_neg (by omega), List.take_of_length_le (by omega)]
 | succ d ih =>
  intro i h1 h2
  by_cases hi : i < r.length
  ·refine Ev.step (fun k => ?_) (ih (i + 1) (by omega) (by omega))
   simp only [Zr.l0]; rw [if_pos (by omega), if_pos (by omega), if_pos (by rw [List.length_map, List.length_take]; omega), w64 (by omega) (by omega), Uw r hi, List.take_succ_eq_append_getElem hi, List.map_append]; rfl
  ·refine Ev.step (f := fun _ => some (r.map Ut)) (fun k => ?_) (Ev.now _)
   simp only [Zr.l0]; rw [if_neg (by omega), List.take_of_length_le (by omega)]
theorem to_ok (r : List S37) (hr : r.length ≤ 1000000000) : Ev (fun k => Zr.f k r) (r.map Ut) := by
 have := Qnn r hr r.length 0 (by omega) (by omega); exact this
theorem Qhy {a b row next : List Int} {i j : Nat} (hb : b.length ≤ 1000000000) (hi : i < a.length) (hj : j < b.length) (hr : row.length = b.length + 1) (hn : next.length = b.length + 1) (k : Nat) : Qm.l1 (k + 1) a b row i next j = if rd a (i : Int) = rd b (j : Int) then Qm.l1 k a b row i ((next.set (j + 1) (mx (rd row ((j + 1 : Nat) : Int)) (rd next (j : Int)))).set (j + 1) (wrap64 (rd row (j : Int) + 1))) ((j + 1 : Nat) : Int) else Qm.l1 k a b row i (next.set (j + 1) (mx (rd row ((j + 1 : Nat) : Int)) (rd next (j : Int)))) ((j + 1 : Nat) : Int) := by
 have hw : wrap64 ((j : Int) + 1) = ((j + 1 : Nat) : Int) := by rw [w64 (by omega) (by omega)]; omega
 have c1 : (j : Int) < (b.length : Int) := by omega
 have c2 : (0 : Int) ≤ ((j + 1 : Nat) : Int) := by omega
 have c3 : ((j + 1 : Nat) : Int) < (row.length : Int) := by omega
 have c4 : (0 : Int) ≤ (j : Int) := by omega
 have c5 : (j : Int) < (next.length : Int) := by omega
 have c6 : ((j + 1 : Nat) : Int) < (next.length : Int) := by omega
 have c7 : (0 : Int) ≤ (i : Int) := by omega
 have c8 : (i : Int) < (a.length : Int) := by omega
 have c9 : (j : Int) < (row.length : Int) := by omega
 rw [Qm.l1, hw, if_pos c1, if_pos c2, if_pos c3, if_pos c4, if_pos c5, if_pos c6, Option.bind_some, if_pos c7, if_pos c8, if_pos c9, Int.toNat_natCast]
theorem Qgw {a b row next : List Int} {i j : Nat} (ha : a.length ≤ 1000000000) (hi : i < a.length) (hj : ¬ j < b.length) (k : Nat) : Qm.l1 (k + 1) a b row i next j = Qm.l0 k a b next ((i + 1 : Nat) : Int) := by
 have hw : wrap64 ((i : Int) + 1) = ((i + 1 : Nat) : Int) := by rw [w64 (by omega) (by omega)]; omega
 have c1 : ¬ (j : Int) < (b.length : Int) := by omega
 rw [Qm.l1, hw, if_neg c1]
theorem Qlp {a b row : List Int} {i : Nat} (hb : b.length ≤ 1000000000) (hi : i < a.length) (k : Nat) : Qm.l0 (k + 1) a b row i = Qm.l1 k a b row i (List.replicate (b.length + 1) 0) ((0 : Nat) : Int) := by
 have hw : wrap64 ((b.length : Int) + 1) = ((b.length + 1 : Nat) : Int) := by rw [w64 (by omega) (by omega)]; omega
 have c1 : (i : Int) < (a.length : Int) := by omega
 have c2 : (0 : Int) ≤ ((b.length + 1 : Nat) : Int) := by omega
 have c3 : b.length + 1 ≤ 35184372088832 := by omega
 rw [Qm.l0, hw, if_pos c1, if_pos c2, Int.toNat_natCast, if_pos c3, Int.natCast_zero]
theorem Qkc {a b row : List Int} {i : Nat} (hi : ¬ i < a.length) (hr : row.length = b.length + 1) (k : Nat) : Qm.l0 (k + 1) a b row i = some (rd row (b.length : Int)) := by
 have c1 : ¬ (i : Int) < (a.length : Int) := by omega
 have c2 : (0 : Int) ≤ (b.length : Int) := by omega
 have c3 : (b.length : Int) < (row.length : Int) := by omega
 rw [Qm.l0, if_neg c1, if_pos c2, if_pos c3]
theorem Qqh {a b : List Int} (hb : b.length ≤ 1000000000) (k : Nat) : Qm.f k a b = Qm.l0 k a b (List.replicate (b.length + 1) 0) ((0 : Nat) : Int) := by
 have hw : wrap64 ((b.length : Int) + 1) = ((b.length + 1 : Nat) : Int) := by rw [w64 (by omega) (by omega)]; omega
 have c2 : (0 : Int) ≤ ((b.length + 1 : Nat) : Int) := by omega
 have c3 : b.length + 1 ≤ 35184372088832 := by omega
 rw [Qm.f, hw, if_pos c2, Int.toNat_natCast, if_pos c3, Int.natCast_zero]
def Qfm (a b : List Int) (i : Nat) (L : List Int) (j : Nat) : Prop := L.length = b.length + 1 ∧ ∀ k : Nat, k ≤ j → rd L (k : Int) = (lcs (a.take i) (b.take k) : Nat)
theorem Qhz {a b row next : List Int} {i j : Nat} {v : Int} {L : List Int} (g3 : Qfm a b (i + 1) next j) (hj : j < b.length) (hv : v = (lcs (a.take (i + 1)) (b.take (j + 1)) : Nat)) (hL : L.length = b.length + 1) (hk : ∀ k : Nat, k ≤ j → rd L (k : Int) = rd next k) : Qfm a b (i + 1) (L.set (j + 1) v) (j + 1) := by
 refine ⟨by rw [List.length_set]; exact hL, fun k hkj => ?_⟩
 have e : rd (L.set (j + 1) v) (k : Int) = if k = j + 1 then v else rd L (k : Int) := by
  have hl : j + 1 < L.length := by omega
  unfold rd; rw [Int.toNat_natCast, List.getD_eq_getElem?_getD, List.getD_eq_getElem?_getD, List.getElem?_set]
  by_cases ek : k = j + 1
  ·subst ek; simp [hl]
  ·rw [if_neg (fun h => ek h.symm), if_neg ek]
 rw [e]
 by_cases ek : k = j + 1
 ·subst ek; rw [if_pos rfl, hv]
 ·have : k ≤ j := by omega
  rw [if_neg ek, hk k this, g3.2 k this]
theorem Qki (next : List Int) (j : Nat) (v : Int) {k : Nat} (hk : k ≤ j) : rd (next.set (j + 1) v) (k : Int) = rd next k := by
 have : j + 1 ≠ k := by omega
 unfold rd; rw [Int.toNat_natCast, List.getD_eq_getElem?_getD, List.getD_eq_getElem?_getD, List.getElem?_set, if_neg this]
theorem Qjl {a b row : List Int} {i j : Nat} (ha : a.length ≤ 1000000000) (hi : i < a.length) (hj : j < b.length) (hrow : Qfm a b i row b.length) (hab : a[i] = b[j]) : wrap64 (rd row (j : Int) + 1) = (lcs (a.take (i + 1)) (b.take (j + 1)) : Nat) := by
 have sA := List.take_succ_eq_append_getElem hi; have sB := List.take_succ_eq_append_getElem hj; have hbd := Uz (a.take i) (b.take j); have hbd2 := List.length_take_le' i a; rw [hrow.2 j (by omega), sA, sB, hab, Qff, w64 (by omega) (by omega)]
 omega
theorem Qjm {a b row next : List Int} {i j : Nat} (hi : i < a.length) (hj : j < b.length) (hrow : Qfm a b i row b.length) (g3 : Qfm a b (i + 1) next j) (hab : ¬ a[i] = b[j]) : mx (rd row ((j + 1 : Nat) : Int)) (rd next (j : Int)) = (lcs (a.take (i + 1)) (b.take (j + 1)) : Nat) := by
 have sA := List.take_succ_eq_append_getElem hi; have sB := List.take_succ_eq_append_getElem hj; have h := Qfg (a.take i) (b.take j) hab
 rw [← sA, ← sB] at h
 rw [hrow.2 (j + 1) (by omega), g3.2 j (Nat.le_refl _), h]; unfold mx; generalize lcs (a.take i) (b.take (j + 1)) = p; generalize lcs (a.take (i + 1)) (b.take j) = q
 split <;> omega
theorem Qlo {a b : List Int} {i : Nat} {row : List Int} (ha : a.length ≤ 1000000000) (hb : b.length ≤ 1000000000) (hi : i < a.length) (hrow : Qfm a b i row b.length) (ih : ∀ next, Qfm a b (i + 1) next b.length → Ev (fun k => Qm.l0 k a b next ((i + 1 : Nat) : Int)) (lcs a b : Nat)) : ∀ (e j : Nat) (next : List Int), b.length - j ≤ e → j ≤ b.length → Qfm a b (i + 1) next j → Ev (fun k => Qm.l1 k a b row i next j) (lcs a b : Nat) := by
 intro e
 induction e with
 | zero =>
  intro j next g1 g2 g3
  obtain rfl : j = b.length := by omega
  exact Ev.step (fun k => Qgw ha hi (by omega) k) (ih next g3)
 | succ e ihe =>
  intro j next g1 g2 g3
  by_cases hj : j < b.length
  ·have ga : rd a (i : Int) = a[i] := by simp [rd, List.getD_eq_getElem?_getD, hi]
   have gb : rd b (j : Int) = b[j] := by simp [rd, List.getD_eq_getElem?_getD, hj]
   have d1 : b.length - (j + 1) ≤ e := by omega
   by_cases hab : a[i] = b[j]
   ·have hn := Qhz (row := row) g3 hj (Qjl ha hi hj hrow hab) (L := next.set (j + 1) (mx (rd row ((j + 1 : Nat) : Int)) (rd next (j : Int)))) (by rw [List.length_set]; exact g3.1) (fun k hk => Qki next j _ hk)
    refine Ev.step (fun k => ?_) (ihe (j + 1) _ d1 hj hn); rw [Qhy hb hi hj hrow.1 g3.1, ga, gb, if_pos hab]
   ·have hn := Qhz (row := row) g3 hj (Qjm hi hj hrow g3 hab) g3.1 (fun k hk => rfl)
    refine Ev.step (fun k => ?_) (ihe (j + 1) _ d1 hj hn); rw [Qhy hb hi hj hrow.1 g3.1, ga, gb, if_neg hab]
  ·obtain rfl : j = b.length := by omega
   exact Ev.step (fun k => Qgw ha hi (by omega) k) (ih next g3)
theorem Qlr (a b : List Int) : Qfm a b 0 (List.replicate (b.length + 1) 0) b.length := by
 refine ⟨by simp, fun k hk => ?_⟩
 have : rd (List.replicate (b.length + 1) 0) (k : Int) = 0 := by
  unfold rd; simp only [List.getD_eq_getElem?_getD, List.getElem?_replicate, Int.toNat_natCast]; split <;> rfl
 rw [this]; simp [Jf]
theorem Qkd (a b : List Int) (i : Nat) : Qfm a b i (List.replicate (b.length + 1) 0) 0 := by
 refine ⟨by simp, fun k hk => ?_⟩
 obtain rfl : k = 0 := by omega
 simp [rd, Ku]
theorem Qlq (a b : List Int) (ha : a.length ≤ 1000000000) (hb : b.length ≤ 1000000000) : ∀ (d i : Nat) (row : List Int), a.length - i ≤ d → i ≤ a.length → Qfm a b i row b.length → Ev (fun k => Qm.l0 k a b row i) (lcs a b : Nat) := by
 have fin : ∀ (i : Nat) (row : List Int), ¬ i < a.length → Qfm a b i row b.length → Ev (fun k => Qm.l0 k a b row i) (lcs a b : Nat) := by
  intro i row hi h3; refine Ev.step (f := fun _ => some ((lcs a b : Nat) : Int)) (fun k => ?_) (Ev.now _); have h := h3.2 b.length (Nat.le_refl _)
  rw [List.take_of_length_le (Nat.not_lt.mp hi), List.take_of_length_le (Nat.le_refl _)] at h
  rw [Qkc hi h3.1, h]
 intro d
 induction d with
 | zero =>
  intro i row h1 h2 h3; exact fin i row (by omega) h3
 | succ d ih =>
  intro i row h1 h2 h3
  by_cases hi : i < a.length
  ·have d1 : a.length - (i + 1) ≤ d := by omega
   exact Ev.step (fun k => Qlp hb hi k) (Qlo ha hb hi h3 (fun next hn => ih (i + 1) next d1 hi hn) b.length 0 _ (Nat.le_of_eq (Nat.sub_zero _)) (Nat.zero_le _) (Qkd a b (i + 1)))
  ·exact fin i row hi h3
theorem Qex (a b : List Int) (ha : a.length ≤ 1000000000) (hb : b.length ≤ 1000000000) : Ev (fun k => Qm.f k a b) (lcs a b : Nat) :=
 Ev.congr (fun k => Qqh hb k) (Qlq a b ha hb a.length 0 _ (Nat.le_of_eq (Nat.sub_zero _)) (Nat.zero_le _) (Qlr a b))
end Go.Proofs.Ytadafplbgophfaa.PA
end
section
namespace Go.Proofs.Ytadafplbgophfaa.PA
open Go.RowKit Go.Proofs.YtadafplbgophfaaW.PrintWords Go.Proofs.YtadafplbgophfaaW.PrintLast Go.Proofs.YtadafplbgophfaaW.PrintMore
def Xw.f (_k : Nat) (l0 : List ByteArray) : Option (List ByteArray) := if l0.length < 8796093022208 then some l0 else none
set_option maxHeartbeats 4000000 in
set_option maxRecDepth 100000 in
theorem Xw.calls (k : Nat) (A0 : Option Addr) (c0 : Nat) (l0 : List ByteArray) (r : List ByteArray) (w : World) (hr0 : Kd.C Kd.string w A0 l0.length l0) (hc0 : l0.length ≤ c0) (h : Xw.f k l0 = some r) :
  Calls Try.prog 127 #[.slice A0 l0.length c0] w fun e w' => ∃ v0_ : Value, e = .returned v0_ ∧ Kd.R Kd.string 9 w' w.heap.size (fun _ => True) v0_ r ∧ Below w.heap.size w w' := by
 unfold Xw.f at h
 split at h
 case isFalse => cases h
 rename_i hl
 simp only [Option.some.injEq] at h
 subst h; have HR0 := Qa.mk hr0; have HC0 := Qa.mk hc0; have HL := Qa.mk hl; clear hr0 hc0 hl
 have q27 : ∀ (w : World) (a : Option Addr) (n c n' c' : Nat), (binOp .eql 27 (.slice a n c) (.slice none n' c')).run Try.prog w = .ok (.bool a.isNone) w := fun w a n c n' c' => Lib.run_eql_slice_nil w _ _ a n c n' c' Try.underlying27
 go_enter Try.func127, Try.ntmps127
 rcases A0 with _ | ad
 ·have e0 : l0 = [] := by
   rcases Nat.eq_zero_or_pos l0.length with h | h
   ·exact List.eq_nil_of_length_eq_zero h
   ·obtain ⟨_, h, _⟩ := HR0.out.2.2 h; cases h
  subst e0
  go_wp2
  go_ret; exact ⟨_, rfl, Kd.R_nil _ _ _ _ _, Below.refl _ _⟩
 ·go_wp2_with (first | ((with_reducible refine Zd (N := 5) rfl ?_); (try (refine Xq (by rfl) ?_; dsimp only)); refine Kd.R_lit Kd.string _ 9 ?hg (N := 5) ?hd (xs := ([] : List ByteArray)) (inner := []) (ok := fun _ => True) (okp := fun _ => True) ?hr ?hp (fun _ hk => hk) trivial (Below.refl _ _) (Nat.le_refl _) (by simp) ?_; (case hd => rfl); (case hg => rfl); (case hr => first | (go_simp; done) | (go_simp; rfl)); (case hp => exact (Yi.none _ _)); intro v5 w5 ho hb hg_ hnew_; clear hg_ hnew_; have HO5 := Qa.mk ho; have HB5 := Qa.mk hb; clear ho hb) | ((with_reducible refine Xl (b := .append) (xs := #[.tmp 5, .tmp 6]) rfl ?_); (try (refine Xq (by rfl) ?_; dsimp only)); at_builtin; refine Kd.R_append_rows Kd.string (w0 := w) w.heap.size rfl (.tmp 5) (.tmp 6) 27 9 (.string ⟨#[]⟩) 16 rfl Try.underlying27 Ko rfl (by decide) (by omega) v5 [] l0 _ _ _ (fun _ => True) (fun _ => False) rfl rfl HO5.out (Kd.C_below HR0.out HB5.out) (fun _ _ h => h) (fun _ h => h.elim) (fun _ _ => trivial) HB5.out HB5.out.size ?aL ?_; (case aL => have := HL.out; simp only [List.length_nil]; omega); intro v7 w7 ho hb hg hat; have HO7 := Qa.mk ho; have HB7 := Qa.mk hb; clear ho hb hg hat))
  go_ret; exact ⟨_, rfl, by simpa using HO7.out, HB7.out⟩
structure Wrt (w0 w : World) (g : Nat) (ok : Nat → Prop) (v : Value) (l : List Uc) : Prop where
 below : Below w0.heap.size w0 w
 ge : w0.heap.size ≤ g
 blk : w.heap[g]? = some (.cells #[v] 137 (0, 0))
 own : Kd.S Qac 143 w w0.heap.size ok v l
 nog : ¬ ok g
 fresh : ∀ k, w.heap.size ≤ k → ok k
theorem Wrt.on {w0 w w1 : World} {g : Nat} {ok : Nat → Prop} {v : Value} {l : List Uc} (h : Wrt w0 w g ok v l) (hb : Below w.heap.size w w1) : Wrt w0 w1 g ok v l := ⟨Qj h.below hb, h.ge, (hb.block g (Zu h.blk)).trans h.blk, Kd.S_below h.own hb, h.nog, fun k hk => h.fresh k (Nat.le_trans hb.size hk)⟩
theorem Wrt.drew {w0 w : World} {g : Nat} {ok : Nat → Prop} {v : Value} {l : List Uc} (h : Wrt w0 w g ok v l) : Wrt w0 w.drew g ok v l := ⟨Vv h.below, h.ge, h.blk, Kd.S_drew h.own, h.nog, h.fresh⟩
theorem Wrt.drop {w0 w : World} {g : Nat} {P : Nat → Prop} {v : Value} {l : List Uc} (h : Wrt w0 w g (fun k => k ≠ g ∧ P k) v l) : Wrt w0 w g (fun k => k ≠ g) v l :=
 ⟨h.below, h.ge, h.blk, Kd.S_mono h.own (fun _ hk => hk.1), fun e => e rfl, fun k hk => (h.fresh k hk).1⟩
end Go.Proofs.Ytadafplbgophfaa.PA
end
section
namespace Go.Proofs.Ytadafplbgophfaa.PA
open Go.Maps
section
variable {H : Type}
structure Qdt (D : DataW H) (known : List (List UInt8)) : Prop where
 tidy : Tidy D
 isMap : IsMap D
 size : Maps.size D = known.length
 has : ∀ s, Maps.has D (.string s) = decide (s ∈ known)
 at_ : ∀ j (h : j < known.length), D.atKey (.string known[j]) (.lit (.int .i64 0)) = .lit (.int .i64 j)
theorem Qdt.put {D : DataW H} {known : List (List UInt8)} (h : Qdt D known) {s : List UInt8} (hs : s ∉ known) (ht : Tidy (D.put (.string s) (.lit (.int .i64 (known.length : Int))))) (hm : IsMap (D.put (.string s) (.lit (.int .i64 (known.length : Int))))) : Qdt (D.put (.string s) (.lit (.int .i64 (known.length : Int)))) (known ++ [s]) := by
 refine ⟨ht, hm, ?_, fun u => ?_, fun j hj => ?_⟩
 ·rw [size_put h.tidy, h.has, decide_eq_false hs, h.size]; simp
 ·by_cases e : u = s
  ·subst e
   rw [has_put_same h.isMap (by first | trivial | exact ⟨_, rfl⟩ | simp [WideAt.IsKeyLit])]
   simp
  ·rw [has_put_other (by intro h; injection h with h; exact e h), h.has]
   simp [e]
 ·by_cases hj' : j < known.length
  ·have e : known[j] ≠ s := fun e => hs (e ▸ List.getElem_mem hj')
   rw [List.getElem_append_left hj', atKey_put_other (by intro h; injection h with h; exact e h)]; exact h.at_ j hj'
  ·have : j = known.length := by simp at hj; omega
   subst this; rw [List.getElem_append_right (Nat.le_refl _)]; simp only [Nat.sub_self, List.getElem_cons_zero]; rw [atKey_put_same h.isMap (by first | trivial | exact ⟨_, rfl⟩ | simp [WideAt.IsKeyLit])]
end
end Go.Proofs.Ytadafplbgophfaa.PA
end
section
namespace Go.Proofs.Ytadafplbgophfaa.PA
open Go.RowKit Go.Proofs.YtadafplbgophfaaW.PrintWords Go.Proofs.YtadafplbgophfaaW.PrintLast Go.Proofs.YtadafplbgophfaaW.PrintMore
def grow (known : List (List UInt8)) (s : ByteArray) : List (List UInt8) := if s.data.toList ∈ known then known else known ++ [s.data.toList]
def Yg (known : List (List UInt8)) : List ByteArray → List Int × List (List UInt8)
 | [] => ([], known)
 | s :: l =>
  let r := Yg (grow known s) l
  ((known.idxOf s.data.toList : Int) :: r.1, r.2)
def Ja (known : List (List UInt8)) : List (List ByteArray) → List (List Int)
 | [] => []
 | f :: fs => (Yg known f).1 :: Ja (Yg known f).2 fs
def Kq : List (List ByteArray) → Nat
 | [] => 0
 | f :: fs => f.length + Kq fs
theorem Qfi : ∀ (f : List ByteArray) (known : List (List UInt8)), (Yg known f).2.length ≤ known.length + f.length
 | [], known => by simp [Yg]
 | s :: l, known => by
  have := Qfi l (grow known s)
  have h2 : (grow known s).length ≤ known.length + 1 := by unfold grow; split <;> simp
  simp only [Yg, List.length_cons]
  omega
def Qgb (l0 : List (List ByteArray)) : Prop := l0.length ≤ 1000000000 ∧ Kq l0 ≤ 1000000000 ∧ ∀ f ∈ l0, ∀ s ∈ f, s.size ≤ maxLen
instance (l0 : List (List ByteArray)) : Decidable (Qgb l0) := by unfold Qgb; exact inferInstance
structure Qej (w W : World) (N : Nat) (f : List ByteArray) (out : List (List Int)) (v4 v7 : Value) (kn0 kn : List (List UInt8)) (j : Nat) (l : List Int) (rest : Nat) (D : DataW Unit) : Prop where
 below : Below w.heap.size w W
 size : N ≤ W.heap.size
 base : w.heap.size < N
 map : W.ownsMap Try.prog 9 (plainElem Try.prog 3) w.heap.size kn.length D
 knows : Qdt D kn
 outR : Kd.R (Kd.slice 3 (Kd.int .i64)) 22 W w.heap.size (fun k => k ≠ w.heap.size ∧ k < N) v4 out
 row : Kd.R (Kd.int .i64) 3 W N (fun k => k ≠ w.heap.size) v7 l
 len : l.length = j
 room : kn.length + (f.length - j) + rest ≤ 1000000000
 flen : f.length ≤ 1000000000
 one : l ++ (Yg kn (f.drop j)).1 = (Yg kn0 f).1
 two : (Yg kn (f.drop j)).2 = (Yg kn0 f).2
theorem Qej.start {w W : World} {f : List ByteArray} {out : List (List Int)} {v4 : Value} {kn : List (List UInt8)} {rest : Nat} {D : DataW Unit} (hb : Below w.heap.size w W) (hm : W.ownsMap Try.prog 9 (plainElem Try.prog 3) w.heap.size kn.length D) (hk : Qdt D kn)
  (ho : Kd.R (Kd.slice 3 (Kd.int .i64)) 22 W w.heap.size (fun k => k ≠ w.heap.size) v4 out) (hr : kn.length + (f.length + rest) ≤ 1000000000) : Qej w W W.heap.size f out v4 (.slice none 0 0) kn kn 0 [] rest D :=
 ⟨hb, Nat.le_refl _, hm.lt, hm, hk, Kd.R_mono (Kd.R_bound ho) (fun k hk => ⟨hk.1, hk.2.2.1⟩), Kd.R_nil _ _ _ _ _, rfl, by omega, by omega, rfl, rfl⟩
theorem Qej.step {w W W1 : World} {N : Nat} {f : List ByteArray} {out : List (List Int)} {v4 v7 v8 : Value} {kn0 kn : List (List UInt8)} {j : Nat} {l l1 : List Int} {rest : Nat} {D : DataW Unit} (h : Qej w W N f out v4 v7 kn0 kn j l rest D)
  (hrow : Kd.R (Kd.int .i64) 3 W1 N (fun k => k ≠ w.heap.size) v8 l1) (hb : Below N W W1) (hg : W.grownBy W1 v7.ownBlock) : Below w.heap.size w W1 ∧ N ≤ W1.heap.size ∧ W1.ownsMap Try.prog 9 (plainElem Try.prog 3) w.heap.size kn.length D ∧ Kd.R (Kd.slice 3 (Kd.int .i64)) 22 W1 w.heap.size (fun k => k ≠ w.heap.size ∧ k < N) v4 out := by
 have hb7 := Kd.R_base h.row; have h1 := h.base; refine ⟨Qbg h.below _ h.below.size hg (fun k hk => by have := hb7 k hk; omega), Nat.le_trans h.size hg.size, h.map.kept hg (fun e => by have := hb7 _ e.symm; omega), Kd.R_grown h.outR hg (fun k hk e => by have := hb7 _ e.symm; omega)⟩
theorem Qej.next {w W W1 W2 : World} {N : Nat} {f : List ByteArray} {out : List (List Int)} {v4 v7 v8 : Value} {kn0 kn : List (List UInt8)} {j : Nat} {l : List Int} {rest : Nat} {D D1 : DataW Unit} {s : ByteArray} (h : Qej w W N f out v4 v7 kn0 kn j l rest D) (hj : j < f.length)
  (hd : f.drop j = s :: f.drop (j + 1)) (hb1 : Below w.heap.size w W1) (hz1 : N ≤ W1.heap.size) (hm1 : W1.ownsMap Try.prog 9 (plainElem Try.prog 3) w.heap.size (grow kn s).length D1) (hk1 : Qdt D1 (grow kn s)) (ho1 : Kd.R (Kd.slice 3 (Kd.int .i64)) 22 W1 w.heap.size (fun k => k ≠ w.heap.size ∧ k < N) v4 out)
  (hr1 : Kd.R (Kd.int .i64) 3 W1 N (fun k => k ≠ w.heap.size) v7 l) (hr2 : Kd.R (Kd.int .i64) 3 W2 N (fun k => k ≠ w.heap.size) v8 (l ++ [(kn.idxOf s.data.toList : Int)])) (hb2 : Below N W1 W2) (hg2 : W1.grownBy W2 v7.ownBlock) :
  Qej w W2 N f out v4 v8 kn0 (grow kn s) (j + 1) (l ++ [(kn.idxOf s.data.toList : Int)]) rest D1 := by
 have hb7 := Kd.R_base hr1; have h1 := h.base
 have hgl : (grow kn s).length ≤ kn.length + 1 := by unfold grow; split <;> simp
 have hone := h.one; have htwo := h.two
 rw [hd] at hone htwo
 refine ⟨Qbg hb1 _ hb1.size hg2 (fun k hk => by have := hb7 k hk; omega), Nat.le_trans hz1 hg2.size, h.base, hm1.kept hg2 (fun e => by have := hb7 _ e.symm; omega), hk1, Kd.R_grown ho1 hg2 (fun k hk e => by have := hb7 _ e.symm; omega), hr2, by simp [h.len], by have := h.room; omega, h.flen, ?_, ?_⟩
 ·rw [List.append_assoc]; exact hone
 ·exact htwo
theorem Qej.stop {w W : World} {N : Nat} {f : List ByteArray} {out : List (List Int)} {v4 v7 : Value} {kn0 kn : List (List UInt8)} {l : List Int} {rest : Nat} {D : DataW Unit} (h : Qej w W N f out v4 v7 kn0 kn f.length l rest D) : l = (Yg kn0 f).1 ∧ kn = (Yg kn0 f).2 := by
 have h1 := h.one; have h2 := h.two
 rw [List.drop_of_length_le (Nat.le_refl _)] at h1 h2
 simp only [Yg, List.append_nil] at h1 h2
 exact ⟨h1, h2⟩
end Go.Proofs.Ytadafplbgophfaa.PA
end
