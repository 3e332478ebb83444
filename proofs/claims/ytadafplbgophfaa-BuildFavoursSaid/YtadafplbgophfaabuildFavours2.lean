/- Part 2 of what the row of the law BuildFavours rests on: walks of functions, and plain lemmas (in part printed by the kit's print, what is not reached left out). -/
import Derived.Test.YtadafplbgophfaabuildFavours1
import Derived.Outline
import Derived.Lib.SliceRun
import Derived.Maps.OwnSet
import Derived.Carry
import Derived.Maps.Keyed
import Derived.Laws.CopyOwn
import Derived.Deep.RegionLaw
section
namespace Go.Proofs.Ytadafplbgophfaa.PA
open Go.RowKit Go.Proofs.YtadafplbgophfaaW.PrintWords Go.Proofs.YtadafplbgophfaaW.PrintLast Go.Proofs.YtadafplbgophfaaW.PrintMore
def J13_.f (_k : Nat) (l0 : List ByteArray) : Option (List ByteArray) := if l0.length < 8796093022208 then some l0 else none
set_option maxHeartbeats 4000000 in
set_option maxRecDepth 100000 in
theorem J13_.calls (k : Nat) (A0 : Option Addr) (c0 : Nat) (l0 : List ByteArray) (r : List ByteArray) (w : World) (hr0 : Kd.C Kd.string w A0 l0.length l0) (hc0 : l0.length ≤ c0) (h : J13_.f k l0 = some r) :
    Calls Try.prog 127 #[.slice A0 l0.length c0] w fun e w' => ∃ v0_ : Value, e = .returned v0_ ∧ Kd.R Kd.string 9 w' w.heap.size (fun _ => True) v0_ r ∧ Below w.heap.size w w' := by
  unfold J13_.f at h
  split at h
  case isFalse => cases h
  rename_i hl
  simp only [Option.some.injEq] at h
  subst h
  have HR0 := Ja38_.mk hr0
  have HC0 := Ja38_.mk hc0
  have HL := Ja38_.mk hl
  clear hr0 hc0 hl
  have q27 : ∀ (w : World) (a : Option Addr) (n c n' c' : Nat), (binOp .eql 27 (.slice a n c) (.slice none n' c')).run Try.prog w = .ok (.bool a.isNone) w := fun w a n c n' c' => Lib.run_eql_slice_nil w _ _ a n c n' c' Try.underlying27
  go_enter Try.func127, Try.ntmps127
  rcases A0 with _ | ad
  · have e0 : l0 = [] := by
      rcases Nat.eq_zero_or_pos l0.length with h | h
      · exact List.eq_nil_of_length_eq_zero h
      · obtain ⟨_, h, _⟩ := HR0.out.2.2 h; cases h
    subst e0
    go_wp2
    go_ret
    exact ⟨_, rfl, Kd.R_nil _ _ _ _ _, Below.refl _ _⟩
  · go_wp2_with (first | ((with_reducible refine gate_dst (N := 5) rfl ?_); (try (refine gate_guard (by rfl) ?_; dsimp only)); refine Kd.R_lit Kd.string _ 9 ?hg (N := 5) ?hd (xs := ([] : List ByteArray)) (inner := []) (ok := fun _ => True) (okp := fun _ => True) ?hr ?hp (fun _ hk => hk) trivial (Below.refl _ _) (Nat.le_refl _) (by simp) ?_; (case hd => rfl); (case hg => rfl); (case hr => first | (go_simp; done) | (go_simp; rfl)); (case hp => exact (Reps.none _ _)); intro v5 w5 ho hb hg_ hnew_; clear hg_ hnew_; have HO5 := Ja38_.mk ho; have HB5 := Ja38_.mk hb; clear ho hb) | ((with_reducible refine gate_builtin (b := .append) (xs := #[.tmp 5, .tmp 6]) rfl ?_); (try (refine gate_guard (by rfl) ?_; dsimp only)); at_builtin; refine Kd.R_append_rows Kd.string (w0 := w) w.heap.size rfl (.tmp 5) (.tmp 6) 27 9 (.string ⟨#[]⟩) 16 rfl Try.underlying27 info9 rfl (by decide) (by omega) v5 [] l0 _ _ _ (fun _ => True) (fun _ => False) rfl rfl HO5.out (Kd.C_below HR0.out HB5.out) (fun _ _ h => h) (fun _ h => h.elim) (fun _ _ => trivial) HB5.out HB5.out.size ?aL ?_; (case aL => have := HL.out; simp only [List.length_nil]; omega); intro v7 w7 ho hb hg hat; have HO7 := Ja38_.mk ho; have HB7 := Ja38_.mk hb; clear ho hb hg hat))
    go_ret
    exact ⟨_, rfl, by simpa using HO7.out, HB7.out⟩
end Go.Proofs.Ytadafplbgophfaa.PA
end
section
namespace Go.Proofs.Ytadafplbgophfaa.PA
set_option linter.unusedSimpArgs false
set_option linter.unusedVariables false
open Go.RowKit Go.Proofs.YtadafplbgophfaaW.PrintWords Go.Proofs.YtadafplbgophfaaW.PrintLast Go.Proofs.YtadafplbgophfaaW.PrintMore
structure Wrt (w0 w : World) (g : Nat) (ok : Nat → Prop) (v : Value) (l : List S143) : Prop where
  below : Below w0.heap.size w0 w
  ge : w0.heap.size ≤ g
  blk : w.heap[g]? = some (.cells #[v] 137 (0, 0))
  own : Kd.S k143 143 w w0.heap.size ok v l
  nog : ¬ ok g
  fresh : ∀ k, w.heap.size ≤ k → ok k
theorem Wrt.on {w0 w w1 : World} {g : Nat} {ok : Nat → Prop} {v : Value} {l : List S143} (h : Wrt w0 w g ok v l) (hb : Below w.heap.size w w1) : Wrt w0 w1 g ok v l := ⟨Ja44_ h.below hb, h.ge, (hb.block g (blk_lt h.blk)).trans h.blk, Kd.S_below h.own hb, h.nog, fun k hk => h.fresh k (Nat.le_trans hb.size hk)⟩
theorem Wrt.drew {w0 w : World} {g : Nat} {ok : Nat → Prop} {v : Value} {l : List S143} (h : Wrt w0 w g ok v l) : Wrt w0 w.drew g ok v l := ⟨below_drew h.below, h.ge, h.blk, Kd.S_drew h.own, h.nog, h.fresh⟩
end Go.Proofs.Ytadafplbgophfaa.PA
end
section
namespace Go.Proofs.Ytadafplbgophfaa.PA
set_option linter.unusedSimpArgs false
set_option linter.unusedVariables false
open Go.RowKit Go.Proofs.YtadafplbgophfaaW.PrintWords Go.Proofs.YtadafplbgophfaaW.PrintLast Go.Proofs.YtadafplbgophfaaW.PrintMore
theorem Wrt.drop {w0 w : World} {g : Nat} {P : Nat → Prop} {v : Value} {l : List S143} (h : Wrt w0 w g (fun k => k ≠ g ∧ P k) v l) : Wrt w0 w g (fun k => k ≠ g) v l :=
  ⟨h.below, h.ge, h.blk, Kd.S_mono h.own (fun _ hk => hk.1), fun e => e rfl, fun k hk => (h.fresh k hk).1⟩
end Go.Proofs.Ytadafplbgophfaa.PA
end
section
namespace Go.Proofs.Ytadafplbgophfaa.PA
open Go.Maps
section
variable {H : Type}
structure Knows (D : DataW H) (known : List (List UInt8)) : Prop where
  tidy : Tidy D
  isMap : IsMap D
  size : Maps.size D = known.length
  has : ∀ s, Maps.has D (.string s) = decide (s ∈ known)
  at_ : ∀ j (h : j < known.length), D.atKey (.string known[j]) (.lit (.int .i64 0)) = .lit (.int .i64 j)
theorem Knows.put {D : DataW H} {known : List (List UInt8)} (h : Knows D known) {s : List UInt8} (hs : s ∉ known) (ht : Tidy (D.put (.string s) (.lit (.int .i64 (known.length : Int))))) (hm : IsMap (D.put (.string s) (.lit (.int .i64 (known.length : Int))))) : Knows (D.put (.string s) (.lit (.int .i64 (known.length : Int)))) (known ++ [s]) := by
  refine ⟨ht, hm, ?_, fun u => ?_, fun j hj => ?_⟩
  · rw [size_put h.tidy, h.has, decide_eq_false hs, h.size]; simp
  · by_cases e : u = s
    · subst e
      rw [has_put_same h.isMap (by first | trivial | exact ⟨_, rfl⟩ | simp [WideAt.IsKeyLit])]
      simp
    · rw [has_put_other (by intro h; injection h with h; exact e h), h.has]
      simp [e]
  · by_cases hj' : j < known.length
    · have e : known[j] ≠ s := fun e => hs (e ▸ List.getElem_mem hj')
      rw [List.getElem_append_left hj', atKey_put_other (by intro h; injection h with h; exact e h)]
      exact h.at_ j hj'
    · have : j = known.length := by simp at hj; omega
      subst this
      rw [List.getElem_append_right (Nat.le_refl _)]
      simp only [Nat.sub_self, List.getElem_cons_zero]
      rw [atKey_put_same h.isMap (by first | trivial | exact ⟨_, rfl⟩ | simp [WideAt.IsKeyLit])]
end
end Go.Proofs.Ytadafplbgophfaa.PA
end
section
namespace Go.Proofs.Ytadafplbgophfaa.PA
set_option linter.unusedSimpArgs false
set_option linter.unusedVariables false
open Go.RowKit Go.Proofs.YtadafplbgophfaaW.PrintWords Go.Proofs.YtadafplbgophfaaW.PrintLast Go.Proofs.YtadafplbgophfaaW.PrintMore
def grow (known : List (List UInt8)) (s : ByteArray) : List (List UInt8) := if s.data.toList ∈ known then known else known ++ [s.data.toList]
def numFile (known : List (List UInt8)) : List ByteArray → List Int × List (List UInt8)
  | [] => ([], known)
  | s :: l =>
    let r := numFile (grow known s) l
    ((known.idxOf s.data.toList : Int) :: r.1, r.2)
def numAll (known : List (List UInt8)) : List (List ByteArray) → List (List Int)
  | [] => []
  | f :: fs => (numFile known f).1 :: numAll (numFile known f).2 fs
def texts : List (List ByteArray) → Nat
  | [] => 0
  | f :: fs => f.length + texts fs
theorem numFile_len : ∀ (f : List ByteArray) (known : List (List UInt8)), (numFile known f).2.length ≤ known.length + f.length
  | [], known => by simp [numFile]
  | s :: l, known => by
    have := numFile_len l (grow known s)
    have h2 : (grow known s).length ≤ known.length + 1 := by unfold grow; split <;> simp
    simp only [numFile, List.length_cons]
    omega
def Fits86 (l0 : List (List ByteArray)) : Prop := l0.length ≤ 1000000000 ∧ texts l0 ≤ 1000000000 ∧ ∀ f ∈ l0, ∀ s ∈ f, s.size ≤ maxLen
instance (l0 : List (List ByteArray)) : Decidable (Fits86 l0) := by unfold Fits86; exact inferInstance
structure In86 (w W : World) (N : Nat) (f : List ByteArray) (out : List (List Int)) (v4 v7 : Value) (kn0 kn : List (List UInt8)) (j : Nat) (l : List Int) (rest : Nat) (D : DataW Unit) : Prop where
  below : Below w.heap.size w W
  size : N ≤ W.heap.size
  base : w.heap.size < N
  map : W.ownsMap Try.prog 9 (plainElem Try.prog 3) w.heap.size kn.length D
  knows : Knows D kn
  outR : Kd.R (Kd.slice 3 (Kd.int .i64)) 22 W w.heap.size (fun k => k ≠ w.heap.size ∧ k < N) v4 out
  row : Kd.R (Kd.int .i64) 3 W N (fun k => k ≠ w.heap.size) v7 l
  len : l.length = j
  room : kn.length + (f.length - j) + rest ≤ 1000000000
  flen : f.length ≤ 1000000000
  one : l ++ (numFile kn (f.drop j)).1 = (numFile kn0 f).1
  two : (numFile kn (f.drop j)).2 = (numFile kn0 f).2
theorem In86.start {w W : World} {f : List ByteArray} {out : List (List Int)} {v4 : Value} {kn : List (List UInt8)} {rest : Nat} {D : DataW Unit} (hb : Below w.heap.size w W) (hm : W.ownsMap Try.prog 9 (plainElem Try.prog 3) w.heap.size kn.length D) (hk : Knows D kn)
    (ho : Kd.R (Kd.slice 3 (Kd.int .i64)) 22 W w.heap.size (fun k => k ≠ w.heap.size) v4 out) (hr : kn.length + (f.length + rest) ≤ 1000000000) : In86 w W W.heap.size f out v4 (.slice none 0 0) kn kn 0 [] rest D :=
  ⟨hb, Nat.le_refl _, hm.lt, hm, hk, Kd.R_mono (Kd.R_bound ho) (fun k hk => ⟨hk.1, hk.2.2.1⟩), Kd.R_nil _ _ _ _ _, rfl, by omega, by omega, rfl, rfl⟩
theorem In86.step {w W W1 : World} {N : Nat} {f : List ByteArray} {out : List (List Int)} {v4 v7 v8 : Value} {kn0 kn : List (List UInt8)} {j : Nat} {l l1 : List Int} {rest : Nat} {D : DataW Unit} (h : In86 w W N f out v4 v7 kn0 kn j l rest D)
    (hrow : Kd.R (Kd.int .i64) 3 W1 N (fun k => k ≠ w.heap.size) v8 l1) (hb : Below N W W1) (hg : W.grownBy W1 v7.ownBlock) : Below w.heap.size w W1 ∧ N ≤ W1.heap.size ∧ W1.ownsMap Try.prog 9 (plainElem Try.prog 3) w.heap.size kn.length D ∧ Kd.R (Kd.slice 3 (Kd.int .i64)) 22 W1 w.heap.size (fun k => k ≠ w.heap.size ∧ k < N) v4 out := by
  have hb7 := Kd.R_base h.row
  have h1 := h.base
  refine ⟨pw_below_grown h.below _ h.below.size hg (fun k hk => by have := hb7 k hk; omega), Nat.le_trans h.size hg.size, h.map.kept hg (fun e => by have := hb7 _ e.symm; omega), Kd.R_grown h.outR hg (fun k hk e => by have := hb7 _ e.symm; omega)⟩
theorem In86.next {w W W1 W2 : World} {N : Nat} {f : List ByteArray} {out : List (List Int)} {v4 v7 v8 : Value} {kn0 kn : List (List UInt8)} {j : Nat} {l : List Int} {rest : Nat} {D D1 : DataW Unit} {s : ByteArray} (h : In86 w W N f out v4 v7 kn0 kn j l rest D) (hj : j < f.length)
    (hd : f.drop j = s :: f.drop (j + 1)) (hb1 : Below w.heap.size w W1) (hz1 : N ≤ W1.heap.size) (hm1 : W1.ownsMap Try.prog 9 (plainElem Try.prog 3) w.heap.size (grow kn s).length D1) (hk1 : Knows D1 (grow kn s)) (ho1 : Kd.R (Kd.slice 3 (Kd.int .i64)) 22 W1 w.heap.size (fun k => k ≠ w.heap.size ∧ k < N) v4 out)
    (hr1 : Kd.R (Kd.int .i64) 3 W1 N (fun k => k ≠ w.heap.size) v7 l) (hr2 : Kd.R (Kd.int .i64) 3 W2 N (fun k => k ≠ w.heap.size) v8 (l ++ [(kn.idxOf s.data.toList : Int)])) (hb2 : Below N W1 W2) (hg2 : W1.grownBy W2 v7.ownBlock) :
    In86 w W2 N f out v4 v8 kn0 (grow kn s) (j + 1) (l ++ [(kn.idxOf s.data.toList : Int)]) rest D1 := by
  have hb7 := Kd.R_base hr1
  have h1 := h.base
  have hgl : (grow kn s).length ≤ kn.length + 1 := by unfold grow; split <;> simp
  have hone := h.one
  have htwo := h.two
  rw [hd] at hone htwo
  refine ⟨pw_below_grown hb1 _ hb1.size hg2 (fun k hk => by have := hb7 k hk; omega), Nat.le_trans hz1 hg2.size, h.base, hm1.kept hg2 (fun e => by have := hb7 _ e.symm; omega), hk1, Kd.R_grown ho1 hg2 (fun k hk e => by have := hb7 _ e.symm; omega), hr2, by simp [h.len], by have := h.room; omega, h.flen, ?_, ?_⟩
  · rw [List.append_assoc]; exact hone
  · exact htwo
theorem In86.stop {w W : World} {N : Nat} {f : List ByteArray} {out : List (List Int)} {v4 v7 : Value} {kn0 kn : List (List UInt8)} {l : List Int} {rest : Nat} {D : DataW Unit} (h : In86 w W N f out v4 v7 kn0 kn f.length l rest D) : l = (numFile kn0 f).1 ∧ kn = (numFile kn0 f).2 := by
  have h1 := h.one
  have h2 := h.two
  rw [List.drop_of_length_le (Nat.le_refl _)] at h1 h2
  simp only [numFile, List.append_nil] at h1 h2
  exact ⟨h1, h2⟩
end Go.Proofs.Ytadafplbgophfaa.PA
end
section
namespace Go.Proofs.Ytadafplbgophfaa.PA
open Go.RowKit Go.Proofs.YtadafplbgophfaaW.PrintWords Go.Proofs.YtadafplbgophfaaW.PrintLast Go.Proofs.YtadafplbgophfaaW.PrintMore
section
variable {α : Type} {P : Program}
theorem cut_lh (k : Kd α) (t e : TypeId) {i : TypeInfo} (ht : P.underlying t = some (.slice e)) (hi : P.info? e = some i) (hsz : i.size = k.sz) (A : Option Addr) (c : Nat) (xs : List α) (a b : Int) (h0 : 0 ≤ a) (h1 : a ≤ b) (hm : b ≤ xs.length) (hc : xs.length ≤ c) :
    ∃ (A' : Option Addr) (c' : Nat), (∀ W : World, (Instr.slice t (.slice A xs.length c) (some (.int .i64 a)) (some (.int .i64 b)) none).run P W = .ok (.slice A' ((xs.take b.toNat).drop a.toNat).length c') W) ∧
      (∀ w : World, k.C w A xs.length xs → k.C w A' ((xs.take b.toNat).drop a.toNat).length ((xs.take b.toNat).drop a.toNat)) ∧ ((xs.take b.toNat).drop a.toNat).length ≤ c' := by
  have hlt : (xs.take b.toNat).length = b.toNat := by rw [List.length_take]; omega
  have hl : ((xs.take b.toNat).drop a.toNat).length = b.toNat - a.toNat := by rw [List.length_drop, hlt]
  refine ⟨if c = a.toNat then A else A.map (·.add (a.toNat * k.sz)), c - a.toNat, fun W => ?_, fun w h => ?_, by rw [hl]; omega⟩
  · rw [hl]; exact cut_mid t e .i64 .i64 ht hi k.sz hsz A xs.length c a b h0 h1 hm hc W
  · exact Kd.C_mid h (by omega) (by omega) hc
theorem cut_l (k : Kd α) (t e : TypeId) {i : TypeInfo} (ht : P.underlying t = some (.slice e)) (hi : P.info? e = some i) (hsz : i.size = k.sz) (A : Option Addr) (c : Nat) (xs : List α) (a : Int) (h0 : 0 ≤ a) (hm : a ≤ xs.length) (hc : xs.length ≤ c) :
    ∃ (A' : Option Addr) (c' : Nat), (∀ W : World, (Instr.slice t (.slice A xs.length c) (some (.int .i64 a)) none none).run P W = .ok (.slice A' (xs.drop a.toNat).length c') W) ∧
      (∀ w : World, k.C w A xs.length xs → k.C w A' (xs.drop a.toNat).length (xs.drop a.toNat)) ∧ (xs.drop a.toNat).length ≤ c' := by
  have hl : (xs.drop a.toNat).length = xs.length - a.toNat := List.length_drop
  refine ⟨if c = a.toNat then A else A.map (·.add (a.toNat * k.sz)), c - a.toNat, fun W => ?_, fun w h => Kd.C_drop h (by omega) hc, by rw [hl]; omega⟩
  have hel : P.elem t = e := by simp [Program.elem, ht]
  have hu : P.underlying t = some (.slice (P.elem t)) := by rw [hel]; exact ht
  rw [run_slice_l W t A xs.length c hu .i64 a h0 (by omega), hel, hl]
  simp [sizeOf, typeInfo, hi, hsz, sliced, Result.andThen]
theorem cut_h (k : Kd α) (t e : TypeId) {i : TypeInfo} (ht : P.underlying t = some (.slice e)) (hi : P.info? e = some i) (hsz : i.size = k.sz) (A : Option Addr) (c : Nat) (xs : List α) (b : Int) (h0 : 0 ≤ b) (hm : b ≤ xs.length) (hc : xs.length ≤ c) :
    (∀ W : World, (Instr.slice t (.slice A xs.length c) none (some (.int .i64 b)) none).run P W = .ok (.slice A (xs.take b.toNat).length c) W) ∧
      (∀ w : World, k.C w A xs.length xs → k.C w A (xs.take b.toNat).length (xs.take b.toNat)) ∧ (xs.take b.toNat).length ≤ c := by
  have hl : (xs.take b.toNat).length = b.toNat := by rw [List.length_take]; omega
  refine ⟨fun W => ?_, fun w h => Kd.C_take h (by omega), by rw [hl]; omega⟩
  have hel : P.elem t = e := by simp [Program.elem, ht]
  have hu : P.underlying t = some (.slice (P.elem t)) := by rw [hel]; exact ht
  have ha : (A.map fun x => x.add 0) = A := by cases A <;> simp [Addr.add]
  rw [run_slice_h W t A xs.length c hu .i64 b h0 (by omega), hel, hl]
  simp [sizeOf, typeInfo, hi, hsz, sliced, Result.andThen, ha]
theorem C_lit (d : Kd α) (hsz : d.sz = 1) (W : World) (e : TypeId) (xs : List α) (vs : List Value) (hl : vs.length = xs.length) (hmax : xs.length ≤ 9223372036854775807)
    (hK : ∀ (j : Nat) (p : α) (u : Value), xs[j]? = some p → vs[j]? = some u → d.K W p [u]) : d.C (W.alloc (.cells vs.toArray e (0, 0))) (some ⟨W.heap.size, 0, none⟩) xs.length xs := by
  refine ⟨rfl, hmax, fun _ => ⟨_, rfl, fun j p hj => ?_⟩⟩
  have hjl : j < vs.length := by have := (List.getElem?_eq_some_iff.1 hj).1; omega
  have hu : vs[j]? = some vs[j] := List.getElem?_eq_getElem hjl
  refine ⟨[vs[j]], by rw [hsz]; rfl, d.K_below (Ja43_ (Below.refl _ _) _) (hK j p _ hj hu), fun i u hi => ?_⟩
  obtain rfl : i = 0 := by
    have := (List.getElem?_eq_some_iff.1 hi).1
    simpa using this
  obtain rfl : vs[j] = u := by simpa using hi
  rw [hsz, Nat.mul_one, Nat.add_zero, add_plain]
  refine (Ja39_ (blk_new W _) j).trans ?_
  simp [hu]
end
end Go.Proofs.Ytadafplbgophfaa.PA
end
section
namespace Go.Proofs.Ytadafplbgophfaa.PA
open Go.RowKit
namespace Jdg
theorem w64 {x : Int} (h0 : -9223372036854775808 ≤ x) (h1 : x ≤ 9223372036854775807) : wrap64 x = x := by unfold wrap64; omega
end Jdg
end Go.Proofs.Ytadafplbgophfaa.PA
end
section
namespace Go.Proofs.Ytadafplbgophfaa.PA
set_option linter.unusedSimpArgs false
set_option linter.unusedVariables false
open Go.RowKit Go.Proofs.YtadafplbgophfaaW.PrintWords Go.Proofs.YtadafplbgophfaaW.PrintLast Go.Proofs.YtadafplbgophfaaW.PrintMore
open Jdg
theorem Ev.down {P : Nat → Prop} (n : Nat) (hend : P n) (hstep : ∀ i, i < n → P (i + 1) → P i) : P 0 := by
  have : ∀ d i, n - i ≤ d → i ≤ n → P i := by
    intro d
    induction d with
    | zero => intro i h1 h2; obtain rfl : i = n := by omega
              exact hend
    | succ d ih =>
      intro i h1 h2
      by_cases h : i < n
      · exact hstep i h (ih (i + 1) (by omega) (by omega))
      · obtain rfl : i = n := by omega
        exact hend
  exact this n 0 (by omega) (by omega)
theorem next64 {i : Nat} (h : i ≤ 1000000000000000) : wrap64 ((i : Int) + 1) = ((i + 1 : Nat) : Int) := by rw [w64 (by omega) (by omega)]; omega
theorem str_eq {a b : ByteArray} : a.toList = b.toList ↔ a = b := by
  rw [ByteArray.toList_eq, ByteArray.toList_eq]
  constructor
  · intro h
    exact ByteArray.ext (Array.toList_inj.1 h)
  · intro h; rw [h]
theorem data_eq {a b : ByteArray} : a.data.toList = b.data.toList ↔ a = b := by rw [← ByteArray.toList_eq, ← ByteArray.toList_eq]; exact str_eq
def Adj : List S144 → Prop
  | [] => True
  | [_] => True
  | x :: y :: l => x.f0 ≠ y.f0 ∧ Adj (y :: l)
def NE (l : List S144) : Prop := ∀ x ∈ l, x.f1 ≠ []
def Kinds (l : List S144) : Prop := ∀ x ∈ l, 0 ≤ x.f0 ∧ x.f0 ≤ 2
end Go.Proofs.Ytadafplbgophfaa.PA
end
section
namespace Go.Proofs.Ytadafplbgophfaa.PA
open Go.RowKit Go.Proofs.YtadafplbgophfaaW.PrintWords Go.Proofs.YtadafplbgophfaaW.PrintLast Go.Proofs.YtadafplbgophfaaW.PrintMore
attribute [local go_sem] max2_int min2_int max_two min_two max_three min_three max_four min_four   -- for this text's walks alone
set_option linter.unusedVariables false
set_option linter.unusedSimpArgs false
mutual
def J28_.l0 : Nat → List (List ByteArray) → List ByteArray → List (List Int) → Int → Option ((List (List Int)))
 | 0, _, _, _, _ => none
 | k + 1, x0, x3, x4, x5 => if x5 < (x0.length : Int) then (J28_.l1 k x0 x3 x4 x5 ([] : List Int) 0) else (some x4)
def J28_.l1 : Nat → List (List ByteArray) → List ByteArray → List (List Int) → Int → List Int → Int → Option ((List (List Int)))
 | 0, _, _, _, _, _, _ => none
 | k + 1, x0, x3, x4, x5, x6, x7 => if 0 ≤ x5 then (if x5 < (x0.length : Int) then (if x7 < ((rd_L7 x0 x5).length : Int) then (J28_.l2 k x0 x3 x4 x5 x6 x7 0) else (if x4.length < 5864062014805 then (J28_.l0 k x0 x3 (x4 ++ [x6]) (wrap64 (x5 + 1))) else (none))) else (none)) else (none)
def J28_.l2 : Nat → List (List ByteArray) → List ByteArray → List (List Int) → Int → List Int → Int → Int → Option ((List (List Int)))
 | 0, _, _, _, _, _, _, _ => none
 | k + 1, x0, x3, x4, x5, x6, x7, x8 => if x8 < (x3.length : Int) then (if 0 ≤ x8 then (if 0 ≤ x5 then (if x5 < (x0.length : Int) then (if 0 ≤ x7 then (if x7 < ((rd_L7 x0 x5).length : Int) then (if (rdOf ByteArray.empty x3 x8).toList = (rdOf ByteArray.empty (rd_L7 x0 x5) x7).toList then (if x8 = (x3.length : Int) then (if x3.length < 8796093022208 then (if x6.length < 17592186044416 then (J28_.l1 k x0 (x3 ++ [rdOf ByteArray.empty (rd_L7 x0 x5) x7]) x4 x5 (x6 ++ [x8]) (wrap64 (x7 + 1))) else (none)) else (none)) else (if x6.length < 17592186044416 then (J28_.l1 k x0 x3 x4 x5 (x6 ++ [x8]) (wrap64 (x7 + 1))) else (none))) else (J28_.l2 k x0 x3 x4 x5 x6 x7 (wrap64 (x8 + 1)))) else (none)) else (none)) else (none)) else (none)) else (none)) else (if x8 = (x3.length : Int) then (if 0 ≤ x5 then (if x5 < (x0.length : Int) then (if 0 ≤ x7 then (if x7 < ((rd_L7 x0 x5).length : Int) then (if x3.length < 8796093022208 then (if x6.length < 17592186044416 then (J28_.l1 k x0 (x3 ++ [rdOf ByteArray.empty (rd_L7 x0 x5) x7]) x4 x5 (x6 ++ [x8]) (wrap64 (x7 + 1))) else (none)) else (none)) else (none)) else (none)) else (none)) else (none)) else (if x6.length < 17592186044416 then (J28_.l1 k x0 x3 x4 x5 (x6 ++ [x8]) (wrap64 (x7 + 1))) else (none)))
end
def J28_.f (k : Nat) (l0 : List (List ByteArray)) : Option ((List (List Int))) := J28_.l0 k l0 ([] : List ByteArray) ([] : List (List Int)) 0
set_option maxHeartbeats 8000000 in
set_option maxRecDepth 100000 in
theorem J28_.calls (k : Nat) (A0 : Option Addr) (c0 : Nat) (l0 : List (List ByteArray)) (r : List (List Int)) (w : World) (hr0 : Kd.C (Kd.slice 9 Kd.string) w A0 l0.length l0) (hc0 : l0.length ≤ c0) (h : J28_.f k l0 = some r) :
  Calls Try.prog 88 #[.slice A0 l0.length c0] w fun e w' => ∃ v0_ : Value, e = .returned (v0_) ∧ Kd.S (Kd.slice 3 (Kd.int .i64)) 22 w' w.heap.size (fun _ => True) v0_ r ∧ Below w.heap.size w w' := by
 have HR0 := Ja38_.mk hr0
 have HC0 := Ja38_.mk hc0
 clear hr0 hc0
 have HB := Ja38_.mk (Below.refl w.heap.size w)
 have H : (J28_.l0 k l0 ([] : List ByteArray) ([] : List (List Int)) 0) = some r := h
 clear h
 have H' := Ja38_.mk H
 clear H
 go_enter Try.func88, Try.ntmps88
 go_wp2
 repeat (go_quiet (fail); try go_wp2)
 go_loopg [3, 4, 5] k (fun kq v3 v4 v5 w' => ∃ (x3_1 : List ByteArray) (x4_1 : List (List Int)) (x5_1 : Int), v5 = .int .i64 x5_1 ∧ Ja38_ (J28_.l0 kq l0 x3_1 x4_1 x5_1 = some r) ∧ Ja38_ (kq ≤ k) ∧ Ja38_ (Kd.R Kd.string 9 w' w.heap.size (fun _ => True) v3 x3_1) ∧ Ja38_ (Kd.S (Kd.slice 3 (Kd.int .i64)) 22 w' w.heap.size (fun _ => True) v4 x4_1) ∧ Ja38_ (Below w.heap.size w w'))
 case atStart => exact ⟨(([] : List ByteArray)), (([] : List (List Int))), (0), (by first | rfl | (simp; done) | (simp [*]; done)), H', ⟨Nat.le_refl _⟩, ⟨by first | exact Kd.R_nil _ _ _ _ _ | exact Kd.N_nil _ _ _ _ _ | exact Kd.V_nil _ _ _ _ _ | exact Kd.Q_nil _ _ _ _ _ | exact Kd.S_nil _ _ _ _ _⟩, ⟨by first | exact Kd.S_nil _ _ _ _ _ | exact Kd.N_nil _ _ _ _ _ | exact Kd.V_nil _ _ _ _ _ | exact Kd.Q_nil _ _ _ _ _ | exact Kd.R_nil _ _ _ _ _⟩, ⟨by repeat (first | (with_reducible first | exact HB.out | apply Ja43_ | apply Ja41_ | apply Ja42_) | exact HB.out)⟩⟩
 case round =>
  clear H'
  obtain ⟨x3_1, x4_1, x5_1, rfl, HA, HK1, HO_3, HO_4, HB⟩ := hrel
  cases gk with
  | zero => exact absurd HA.out (by simp [J28_.l0])
  | succ k1 =>
   have H := HA.out
   clear HA
   simp only [J28_.l0] at H
   by_cases c2 : x5_1 < (l0.length : Int)
   ·rw [if_pos c2] at H
    have c2b0 : decide (x5_1 < (l0.length : Int)) = true := decide_eq_true c2
    clear c2
    have H' := Ja38_.mk H
    clear H
    go_wp2
    repeat (go_quiet (fail); try go_wp2)
    go_loopg [3, 6, 7] k1 (fun kq v3 v6 v7 w' => ∃ (x3_2 : List ByteArray) (x6_2 : List Int) (x7_2 : Int), v7 = .int .i64 x7_2 ∧ Ja38_ (J28_.l1 kq l0 x3_2 x4_1 x5_1 x6_2 x7_2 = some r) ∧ Ja38_ (kq ≤ k1) ∧ Ja38_ (Kd.R Kd.string 9 w' w.heap.size (fun _ => True) v3 x3_2) ∧ Ja38_ (Kd.S (Kd.slice 3 (Kd.int .i64)) 22 w' w.heap.size (fun k_ => some k_ ≠ (v6 : Value).ownBlock) u4 x4_1) ∧ Ja38_ (Kd.R (Kd.int .i64) 3 w' w.heap.size (fun _ => True) v6 x6_2) ∧ Ja38_ (Below w.heap.size w w'))
    case atStart => exact ⟨(x3_1), (([] : List Int)), (0), (by first | rfl | (simp; done) | (simp [*]; done)), H', ⟨Nat.le_refl _⟩, ⟨by (with_reducible repeat (first | apply Kd.R_alloc | apply Kd.R_drewN | apply Kd.R_drew)); exact HO_3.out⟩, ⟨by (with_reducible repeat (first | apply Kd.S_alloc | apply Kd.S_drewN | apply Kd.S_drew)); exact Kd.S_mono HO_4.out (fun _ hk => (by simp [Value.ownBlock]))⟩, ⟨by first | exact Kd.R_nil _ _ _ _ _ | exact Kd.N_nil _ _ _ _ _ | exact Kd.V_nil _ _ _ _ _ | exact Kd.Q_nil _ _ _ _ _ | exact Kd.S_nil _ _ _ _ _⟩, ⟨by repeat (first | (with_reducible first | exact HB.out | apply Ja43_ | apply Ja41_ | apply Ja42_) | exact HB.out)⟩⟩
    case round =>
     clear H'
     try clear c2
     try clear c2b0
     try clear p2
     obtain ⟨x3_2, x6_2, x7_2, rfl, HA, HK2, HO_3, HO_4, HO_6, HB⟩ := hrel
     cases gk with
     | zero => exact absurd HA.out (by simp [J28_.l1])
     | succ k2 =>
      have H := HA.out
      clear HA
      simp only [J28_.l1] at H
      by_cases c3 : 0 ≤ x5_1
      ·rw [if_pos c3] at H
       have c3b0 : decide (0 ≤ x5_1) = true := decide_eq_true c3
       clear c3
       by_cases c4 : x5_1 < (l0.length : Int)
       ·rw [if_pos c4] at H
        have c4b0 : decide (x5_1 < (l0.length : Int)) = true := decide_eq_true c4
        clear c4
        by_cases c5 : x7_2 < ((rd_L7 l0 x5_1).length : Int)
        ·rw [if_pos c5] at H
         have c5b0 : decide (x7_2 < ((rd_L7 l0 x5_1).length : Int)) = true := decide_eq_true c5
         clear c5
         have H' := Ja38_.mk H
         clear H
         have p101 : 0 ≤ (x5_1 : Int) := of_decide_eq_true (by first | (with_reducible assumption) | assumption)
         have q101 : x5_1 < (l0.length : Int) := of_decide_eq_true (by first | (with_reducible assumption) | assumption)
         obtain ⟨ad101, A101_0, c101_0, e101, hx101_0, hl101_0, hi101_0⟩ := at_L7 HR0.out x5_1 p101 q101
         cases e101
         replace hx101_0 := (HB.out.cell (World.block_lt_of_cell? w _ hx101_0)).trans hx101_0
         have HR101_0 := Ja38_.mk hi101_0
         have HC101_0 := Ja38_.mk hl101_0
         clear hi101_0 hl101_0
         replace p101 := eq_true p101
         replace q101 := eq_true q101
         go_wp2
         repeat (go_quiet (fail); try go_wp2)
         go_loopg [8] k2 (fun kq v8 w' => ∃ (x8_3 : Int), v8 = .int .i64 x8_3 ∧ Ja38_ (J28_.l2 kq l0 x3_2 x4_1 x5_1 x6_2 x7_2 x8_3 = some r) ∧ Ja38_ (kq ≤ k2) ∧ Ja38_ (Kd.R Kd.string 9 w' w.heap.size (fun _ => True) u3 x3_2) ∧ Ja38_ (Kd.S (Kd.slice 3 (Kd.int .i64)) 22 w' w.heap.size (fun k_ => some k_ ≠ (u6 : Value).ownBlock) u4 x4_1) ∧ Ja38_ (Kd.R (Kd.int .i64) 3 w' w.heap.size (fun _ => True) u6 x6_2) ∧ Ja38_ (Below w.heap.size w w'))
         case atStart => exact ⟨(0), (by first | rfl | (simp; done) | (simp [*]; done)), H', ⟨Nat.le_refl _⟩, ⟨by (with_reducible repeat (first | apply Kd.R_alloc | apply Kd.R_drewN | apply Kd.R_drew)); exact HO_3.out⟩, ⟨by (with_reducible repeat (first | apply Kd.S_alloc | apply Kd.S_drewN | apply Kd.S_drew)); exact HO_4.out⟩, ⟨by (with_reducible repeat (first | apply Kd.R_alloc | apply Kd.R_drewN | apply Kd.R_drew)); exact HO_6.out⟩, ⟨by repeat (first | (with_reducible first | exact HB.out | apply Ja43_ | apply Ja41_ | apply Ja42_) | exact HB.out)⟩⟩
         case round =>
          clear H'
          try clear c1
          try clear p1
          try clear q1
          try clear hx1
          try clear c2
          try clear c2b0
          try clear p2
          try clear c3
          try clear c3b0
          try clear c4
          try clear c4b0
          try clear c5
          try clear c5b0
          try clear hx101_0
          try clear p101
          try clear p2
          try clear q101
          obtain ⟨x8_3, rfl, HA, HK3, HO_3, HO_4, HO_6, HB⟩ := hrel
          cases gk with
          | zero => exact absurd HA.out (by simp [J28_.l2])
          | succ k3 =>
           have H := HA.out
           clear HA
           simp only [J28_.l2] at H
           by_cases c6 : x8_3 < (x3_2.length : Int)
           ·rw [if_pos c6] at H
            have c6b0 : decide (x8_3 < (x3_2.length : Int)) = true := decide_eq_true c6
            clear c6
            by_cases c7 : 0 ≤ x8_3
            ·rw [if_pos c7] at H
             have c7b0 : decide (0 ≤ x8_3) = true := decide_eq_true c7
             clear c7
             by_cases c8 : 0 ≤ x5_1
             ·rw [if_pos c8] at H
              have c8b0 : decide (0 ≤ x5_1) = true := decide_eq_true c8
              clear c8
              by_cases c9 : x5_1 < (l0.length : Int)
              ·rw [if_pos c9] at H
               have c9b0 : decide (x5_1 < (l0.length : Int)) = true := decide_eq_true c9
               clear c9
               by_cases c10 : 0 ≤ x7_2
               ·rw [if_pos c10] at H
                have c10b0 : decide (0 ≤ x7_2) = true := decide_eq_true c10
                clear c10
                by_cases c11 : x7_2 < ((rd_L7 l0 x5_1).length : Int)
                ·rw [if_pos c11] at H
                 have c11b0 : decide (x7_2 < ((rd_L7 l0 x5_1).length : Int)) = true := decide_eq_true c11
                 clear c11
                 by_cases c12 : (rdOf ByteArray.empty x3_2 x8_3).toList = (rdOf ByteArray.empty (rd_L7 l0 x5_1) x7_2).toList
                 ·rw [if_pos c12] at H
                  have c12b0 : ((rdOf ByteArray.empty x3_2 x8_3).toList == (rdOf ByteArray.empty (rd_L7 l0 x5_1) x7_2).toList) = true := beq_iff_eq.mpr c12
                  have c12b1 : ((rdOf ByteArray.empty x3_2 x8_3).toList != (rdOf ByteArray.empty (rd_L7 l0 x5_1) x7_2).toList) = false := bne_eq_false_iff_eq.mpr c12
                  clear c12
                  by_cases c13 : x8_3 = (x3_2.length : Int)
                  ·rw [if_pos c13] at H
                   have c13b0 : (x8_3 == (x3_2.length : Int)) = true := beq_iff_eq.mpr c13
                   have c13b1 : (x8_3 != (x3_2.length : Int)) = false := bne_eq_false_iff_eq.mpr c13
                   clear c13
                   by_cases c14 : x3_2.length < 8796093022208
                   ·rw [if_pos c14] at H
                    have LMc14 := Ja38_.mk c14
                    clear c14
                    obtain ⟨y110, hy110⟩ : ∃ y_ : List ByteArray, y_ = (x3_2 ++ [rdOf ByteArray.empty (rd_L7 l0 x5_1) x7_2]) := ⟨_, rfl⟩
                    replace H : (if x6_2.length < 17592186044416 then (J28_.l1 k3 l0 y110 x4_1 x5_1 (x6_2 ++ [x8_3]) (wrap64 (x7_2 + 1))) else (none)) = some r := by first | (rw [hy110]; with_reducible exact H) | (have H2_ := (Option.bind_some _ _).symm.trans H; rw [hy110]; with_reducible exact H2_) | (have H2_ := (Option.bind_some _ _).symm.trans H; with_reducible exact H2_) | with_reducible exact H | (rw [hy110]; exact H) | exact H
                    have Ny110 := Ja38_.mk hy110
                    clear hy110
                    by_cases c15 : x6_2.length < 17592186044416
                    ·rw [if_pos c15] at H
                     have LMc15 := Ja38_.mk c15
                     clear c15
                     obtain ⟨y113, hy113⟩ : ∃ y_ : List Int, y_ = (x6_2 ++ [x8_3]) := ⟨_, rfl⟩
                     replace H : (J28_.l1 k3 l0 y110 x4_1 x5_1 y113 (wrap64 (x7_2 + 1))) = some r := by first | (rw [hy113]; with_reducible exact H) | (have H2_ := (Option.bind_some _ _).symm.trans H; rw [hy113]; with_reducible exact H2_) | (have H2_ := (Option.bind_some _ _).symm.trans H; with_reducible exact H2_) | with_reducible exact H | (rw [hy113]; exact H) | exact H
                     have Ny113 := Ja38_.mk hy113
                     clear hy113
                     have H' := Ja38_.mk H
                     clear H
                     obtain ⟨Ao16, co16, eo16⟩ := Kd.R_slice HO_3.out
                     subst eo16
                     have p105 : 0 ≤ (x8_3 : Int) := of_decide_eq_true (by first | (with_reducible assumption) | assumption)
                     have q105 : x8_3 < (x3_2.length : Int) := of_decide_eq_true (by first | (with_reducible assumption) | assumption)
                     obtain ⟨ad105, e105, hx105_0⟩ := Kd.at_string (Kd.R_reads' HO_3.out).2.2 x8_3 p105 q105
                     cases e105
                     replace p105 := eq_true p105
                     replace q105 := eq_true q105
                     have p106 : 0 ≤ (x5_1 : Int) := of_decide_eq_true (by first | (with_reducible assumption) | assumption)
                     have q106 : x5_1 < (l0.length : Int) := of_decide_eq_true (by first | (with_reducible assumption) | assumption)
                     obtain ⟨ad106, A106_0, c106_0, e106, hx106_0, hl106_0, hi106_0⟩ := at_L7 HR0.out x5_1 p106 q106
                     obtain rfl : ad101 = ad106 := (by injection e106)
                     replace hx106_0 := (HB.out.cell (World.block_lt_of_cell? w _ hx106_0)).trans hx106_0
                     have HR106_0 := Ja38_.mk hi106_0
                     have HC106_0 := Ja38_.mk hl106_0
                     clear hi106_0 hl106_0
                     replace p106 := eq_true p106
                     replace q106 := eq_true q106
                     have p107 : 0 ≤ (x7_2 : Int) := of_decide_eq_true (by first | (with_reducible assumption) | assumption)
                     have q107 : x7_2 < ((rd_L7 l0 x5_1).length : Int) := of_decide_eq_true (by first | (with_reducible assumption) | assumption)
                     obtain ⟨ad107, e107, hx107_0⟩ := Kd.at_string HR106_0.out x7_2 p107 q107
                     cases e107
                     replace hx107_0 := (HB.out.cell (World.block_lt_of_cell? w _ hx107_0)).trans hx107_0
                     replace p107 := eq_true p107
                     replace q107 := eq_true q107
                     have p108 : 0 ≤ (x5_1 : Int) := of_decide_eq_true (by first | (with_reducible assumption) | assumption)
                     have q108 : x5_1 < (l0.length : Int) := of_decide_eq_true (by first | (with_reducible assumption) | assumption)
                     obtain ⟨ad108, A108_0, c108_0, e108, hx108_0, hl108_0, hi108_0⟩ := at_L7 HR0.out x5_1 p108 q108
                     obtain rfl : ad101 = ad108 := (by injection e108)
                     replace hx108_0 := (HB.out.cell (World.block_lt_of_cell? w _ hx108_0)).trans hx108_0
                     have HR108_0 := Ja38_.mk hi108_0
                     have HC108_0 := Ja38_.mk hl108_0
                     clear hi108_0 hl108_0
                     replace p108 := eq_true p108
                     replace q108 := eq_true q108
                     have ea_ := Option.some.inj (hx106_0.symm.trans hx108_0)
                     injection ea_ with ea_ en_ ec_
                     subst ea_
                     subst ec_
                     clear en_
                     have p109 : 0 ≤ (x7_2 : Int) := of_decide_eq_true (by first | (with_reducible assumption) | assumption)
                     have q109 : x7_2 < ((rd_L7 l0 x5_1).length : Int) := of_decide_eq_true (by first | (with_reducible assumption) | assumption)
                     obtain ⟨ad109, e109, hx109_0⟩ := Kd.at_string HR108_0.out x7_2 p109 q109
                     cases e109
                     replace hx109_0 := (HB.out.cell (World.block_lt_of_cell? w _ hx109_0)).trans hx109_0
                     replace p109 := eq_true p109
                     replace q109 := eq_true q109
                     go_wp2_with (first | ((with_reducible refine gate_builtin (b := .append) (xs := #[.tmp 48, .tmp 56]) rfl ?_); at_builtin; refine Kd.R_append Kd.string (w0 := w) w.heap.size rfl (.tmp 48) (.tmp 56) 27 9 (.string ⟨#[]⟩) 16 rfl Try.underlying27 info9 rfl (by decide) (by omega) (.slice (some ad105) x3_2.length co16) x3_2 (rdOf ByteArray.empty (rd_L7 l0 x5_1) x7_2) [.string (rdOf ByteArray.empty (rd_L7 l0 x5_1) x7_2)] (fun _ => True) (fun _ => False) rfl rfl ?aP (fun _ hk => hk.elim) ?aF ?aO ?aB ?aS ?aL ?_; (case aP => exact rfl); (case aB => exact (by repeat (first | (with_reducible first | exact HB.out | apply Ja43_ | apply Ja41_ | apply Ja42_) | exact HB.out))); (case aF => exact (fun _ _ => trivial)); (case aO => exact (by (with_reducible repeat (first | apply Kd.R_alloc | apply Kd.R_drewN | apply Kd.R_drew)); exact HO_3.out)); (case aS => exact (Ja45_ (by repeat (first | (with_reducible first | exact HB.out | apply Ja43_ | apply Ja41_ | apply Ja42_) | exact HB.out)))); (case aL => have := LMc14.out; omega); intro v111 w17 ho hb hg hat; rw [← Ny110.out] at ho; have n0_ := Ja38_.mk (Kd.S_over' (by (with_reducible repeat (first | apply Kd.S_alloc | apply Kd.S_drewN | apply Kd.S_drew)); exact HO_4.out) (Kd.R_typed (by (with_reducible repeat (first | apply Kd.R_alloc | apply Kd.R_drewN | apply Kd.R_drew)); exact HO_3.out)) (by decide) hg); have n1_ := Ja38_.mk (Kd.R_over' (by (with_reducible repeat (first | apply Kd.R_alloc | apply Kd.R_drewN | apply Kd.R_drew)); exact HO_6.out) (Kd.R_typed (by (with_reducible repeat (first | apply Kd.R_alloc | apply Kd.R_drewN | apply Kd.R_drew)); exact HO_3.out)) (by decide) hg); have n2_ := Ja38_.mk (hb); have n3_ := Ja38_.mk (ho); clear HO_4; clear HO_6; clear HB; clear HO_3; have HO_4 := n0_; have HO_6 := n1_; have HB := n2_; have HO112 := n3_; clear n0_ n1_ n2_ n3_; clear ho hb hg hat) | ((with_reducible refine gate_builtin (b := .append) (xs := #[.tmp 58, .tmp 60]) rfl ?_); at_builtin; refine Kd.R_append (Kd.int .i64) (w0 := w) w.heap.size rfl (.tmp 58) (.tmp 60) 22 3 (.int .i64 0) 8 rfl Try.underlying22 info3 rfl (by decide) (by omega) u6 x6_2 x8_3 [.int .i64 x8_3] (fun _ => True) (fun _ => False) rfl rfl ?aP (fun _ hk => hk.elim) ?aF ?aO ?aB ?aS ?aL ?_; (case aP => exact rfl); (case aB => exact (by repeat (first | (with_reducible first | exact HB.out | apply Ja43_ | apply Ja41_ | apply Ja42_) | exact HB.out))); (case aF => exact (fun _ _ => trivial)); (case aO => exact (by (with_reducible repeat (first | apply Kd.R_alloc | apply Kd.R_drewN | apply Kd.R_drew)); exact HO_6.out)); (case aS => exact (Ja45_ (by repeat (first | (with_reducible first | exact HB.out | apply Ja43_ | apply Ja41_ | apply Ja42_) | exact HB.out)))); (case aL => have := LMc15.out; omega); intro v114 w18 ho hb hg hat; rw [← Ny113.out] at ho; have n0_ := Ja38_.mk (Kd.S_after (ok := (fun _ => True)) (by (with_reducible repeat (first | apply Kd.S_alloc | apply Kd.S_drewN | apply Kd.S_drew)); exact Kd.S_mono HO_4.out (fun _ hk => ⟨trivial, hk⟩)) hg hat); have n1_ := Ja38_.mk (Kd.R_over' (by (with_reducible repeat (first | apply Kd.R_alloc | apply Kd.R_drewN | apply Kd.R_drew)); exact HO112.out) (Kd.R_typed (by (with_reducible repeat (first | apply Kd.R_alloc | apply Kd.R_drewN | apply Kd.R_drew)); exact HO_6.out)) (by decide) hg); have n2_ := Ja38_.mk (hb); have n3_ := Ja38_.mk (ho); clear HO_4; clear HO112; clear HB; clear HO_6; have HO_4 := n0_; have HO112 := n1_; have HB := n2_; have HO115 := n3_; clear n0_ n1_ n2_ n3_; clear ho hb hg hat))
                     repeat (go_quiet (first | ((with_reducible refine gate_builtin (b := .append) (xs := #[.tmp 48, .tmp 56]) rfl ?_); at_builtin; refine Kd.R_append Kd.string (w0 := w) w.heap.size rfl (.tmp 48) (.tmp 56) 27 9 (.string ⟨#[]⟩) 16 rfl Try.underlying27 info9 rfl (by decide) (by omega) (.slice (some ad105) x3_2.length co16) x3_2 (rdOf ByteArray.empty (rd_L7 l0 x5_1) x7_2) [.string (rdOf ByteArray.empty (rd_L7 l0 x5_1) x7_2)] (fun _ => True) (fun _ => False) rfl rfl ?aP (fun _ hk => hk.elim) ?aF ?aO ?aB ?aS ?aL ?_; (case aP => exact rfl); (case aB => exact (by repeat (first | (with_reducible first | exact HB.out | apply Ja43_ | apply Ja41_ | apply Ja42_) | exact HB.out))); (case aF => exact (fun _ _ => trivial)); (case aO => exact (by (with_reducible repeat (first | apply Kd.R_alloc | apply Kd.R_drewN | apply Kd.R_drew)); exact HO_3.out)); (case aS => exact (Ja45_ (by repeat (first | (with_reducible first | exact HB.out | apply Ja43_ | apply Ja41_ | apply Ja42_) | exact HB.out)))); (case aL => have := LMc14.out; omega); intro v111 w17 ho hb hg hat; rw [← Ny110.out] at ho; have n0_ := Ja38_.mk (Kd.S_over' (by (with_reducible repeat (first | apply Kd.S_alloc | apply Kd.S_drewN | apply Kd.S_drew)); exact HO_4.out) (Kd.R_typed (by (with_reducible repeat (first | apply Kd.R_alloc | apply Kd.R_drewN | apply Kd.R_drew)); exact HO_3.out)) (by decide) hg); have n1_ := Ja38_.mk (Kd.R_over' (by (with_reducible repeat (first | apply Kd.R_alloc | apply Kd.R_drewN | apply Kd.R_drew)); exact HO_6.out) (Kd.R_typed (by (with_reducible repeat (first | apply Kd.R_alloc | apply Kd.R_drewN | apply Kd.R_drew)); exact HO_3.out)) (by decide) hg); have n2_ := Ja38_.mk (hb); have n3_ := Ja38_.mk (ho); clear HO_4; clear HO_6; clear HB; clear HO_3; have HO_4 := n0_; have HO_6 := n1_; have HB := n2_; have HO112 := n3_; clear n0_ n1_ n2_ n3_; clear ho hb hg hat) | ((with_reducible refine gate_builtin (b := .append) (xs := #[.tmp 58, .tmp 60]) rfl ?_); at_builtin; refine Kd.R_append (Kd.int .i64) (w0 := w) w.heap.size rfl (.tmp 58) (.tmp 60) 22 3 (.int .i64 0) 8 rfl Try.underlying22 info3 rfl (by decide) (by omega) u6 x6_2 x8_3 [.int .i64 x8_3] (fun _ => True) (fun _ => False) rfl rfl ?aP (fun _ hk => hk.elim) ?aF ?aO ?aB ?aS ?aL ?_; (case aP => exact rfl); (case aB => exact (by repeat (first | (with_reducible first | exact HB.out | apply Ja43_ | apply Ja41_ | apply Ja42_) | exact HB.out))); (case aF => exact (fun _ _ => trivial)); (case aO => exact (by (with_reducible repeat (first | apply Kd.R_alloc | apply Kd.R_drewN | apply Kd.R_drew)); exact HO_6.out)); (case aS => exact (Ja45_ (by repeat (first | (with_reducible first | exact HB.out | apply Ja43_ | apply Ja41_ | apply Ja42_) | exact HB.out)))); (case aL => have := LMc15.out; omega); intro v114 w18 ho hb hg hat; rw [← Ny113.out] at ho; have n0_ := Ja38_.mk (Kd.S_after (ok := (fun _ => True)) (by (with_reducible repeat (first | apply Kd.S_alloc | apply Kd.S_drewN | apply Kd.S_drew)); exact Kd.S_mono HO_4.out (fun _ hk => ⟨trivial, hk⟩)) hg hat); have n1_ := Ja38_.mk (Kd.R_over' (by (with_reducible repeat (first | apply Kd.R_alloc | apply Kd.R_drewN | apply Kd.R_drew)); exact HO112.out) (Kd.R_typed (by (with_reducible repeat (first | apply Kd.R_alloc | apply Kd.R_drewN | apply Kd.R_drew)); exact HO_6.out)) (by decide) hg); have n2_ := Ja38_.mk (hb); have n3_ := Ja38_.mk (ho); clear HO_4; clear HO112; clear HB; clear HO_6; have HO_4 := n0_; have HO112 := n1_; have HB := n2_; have HO115 := n3_; clear n0_ n1_ n2_ n3_; clear ho hb hg hat)); try go_wp2_with (first | ((with_reducible refine gate_builtin (b := .append) (xs := #[.tmp 48, .tmp 56]) rfl ?_); at_builtin; refine Kd.R_append Kd.string (w0 := w) w.heap.size rfl (.tmp 48) (.tmp 56) 27 9 (.string ⟨#[]⟩) 16 rfl Try.underlying27 info9 rfl (by decide) (by omega) (.slice (some ad105) x3_2.length co16) x3_2 (rdOf ByteArray.empty (rd_L7 l0 x5_1) x7_2) [.string (rdOf ByteArray.empty (rd_L7 l0 x5_1) x7_2)] (fun _ => True) (fun _ => False) rfl rfl ?aP (fun _ hk => hk.elim) ?aF ?aO ?aB ?aS ?aL ?_; (case aP => exact rfl); (case aB => exact (by repeat (first | (with_reducible first | exact HB.out | apply Ja43_ | apply Ja41_ | apply Ja42_) | exact HB.out))); (case aF => exact (fun _ _ => trivial)); (case aO => exact (by (with_reducible repeat (first | apply Kd.R_alloc | apply Kd.R_drewN | apply Kd.R_drew)); exact HO_3.out)); (case aS => exact (Ja45_ (by repeat (first | (with_reducible first | exact HB.out | apply Ja43_ | apply Ja41_ | apply Ja42_) | exact HB.out)))); (case aL => have := LMc14.out; omega); intro v111 w17 ho hb hg hat; rw [← Ny110.out] at ho; have n0_ := Ja38_.mk (Kd.S_over' (by (with_reducible repeat (first | apply Kd.S_alloc | apply Kd.S_drewN | apply Kd.S_drew)); exact HO_4.out) (Kd.R_typed (by (with_reducible repeat (first | apply Kd.R_alloc | apply Kd.R_drewN | apply Kd.R_drew)); exact HO_3.out)) (by decide) hg); have n1_ := Ja38_.mk (Kd.R_over' (by (with_reducible repeat (first | apply Kd.R_alloc | apply Kd.R_drewN | apply Kd.R_drew)); exact HO_6.out) (Kd.R_typed (by (with_reducible repeat (first | apply Kd.R_alloc | apply Kd.R_drewN | apply Kd.R_drew)); exact HO_3.out)) (by decide) hg); have n2_ := Ja38_.mk (hb); have n3_ := Ja38_.mk (ho); clear HO_4; clear HO_6; clear HB; clear HO_3; have HO_4 := n0_; have HO_6 := n1_; have HB := n2_; have HO112 := n3_; clear n0_ n1_ n2_ n3_; clear ho hb hg hat) | ((with_reducible refine gate_builtin (b := .append) (xs := #[.tmp 58, .tmp 60]) rfl ?_); at_builtin; refine Kd.R_append (Kd.int .i64) (w0 := w) w.heap.size rfl (.tmp 58) (.tmp 60) 22 3 (.int .i64 0) 8 rfl Try.underlying22 info3 rfl (by decide) (by omega) u6 x6_2 x8_3 [.int .i64 x8_3] (fun _ => True) (fun _ => False) rfl rfl ?aP (fun _ hk => hk.elim) ?aF ?aO ?aB ?aS ?aL ?_; (case aP => exact rfl); (case aB => exact (by repeat (first | (with_reducible first | exact HB.out | apply Ja43_ | apply Ja41_ | apply Ja42_) | exact HB.out))); (case aF => exact (fun _ _ => trivial)); (case aO => exact (by (with_reducible repeat (first | apply Kd.R_alloc | apply Kd.R_drewN | apply Kd.R_drew)); exact HO_6.out)); (case aS => exact (Ja45_ (by repeat (first | (with_reducible first | exact HB.out | apply Ja43_ | apply Ja41_ | apply Ja42_) | exact HB.out)))); (case aL => have := LMc15.out; omega); intro v114 w18 ho hb hg hat; rw [← Ny113.out] at ho; have n0_ := Ja38_.mk (Kd.S_after (ok := (fun _ => True)) (by (with_reducible repeat (first | apply Kd.S_alloc | apply Kd.S_drewN | apply Kd.S_drew)); exact Kd.S_mono HO_4.out (fun _ hk => ⟨trivial, hk⟩)) hg hat); have n1_ := Ja38_.mk (Kd.R_over' (by (with_reducible repeat (first | apply Kd.R_alloc | apply Kd.R_drewN | apply Kd.R_drew)); exact HO112.out) (Kd.R_typed (by (with_reducible repeat (first | apply Kd.R_alloc | apply Kd.R_drewN | apply Kd.R_drew)); exact HO_6.out)) (by decide) hg); have n2_ := Ja38_.mk (hb); have n3_ := Ja38_.mk (ho); clear HO_4; clear HO112; clear HB; clear HO_6; have HO_4 := n0_; have HO112 := n1_; have HB := n2_; have HO115 := n3_; clear n0_ n1_ n2_ n3_; clear ho hb hg hat)))
                     go_roundg k3
                     case measure => have := HK1.out; have := HK2.out; have := HK3.out; omega
                     case rel => exact ⟨(y110), (y113), (wrap64 (x7_2 + 1)), (by first | rfl | (simp; done) | (simp [*]; done)), H', ⟨by have := HK1.out; have := HK2.out; have := HK3.out; omega⟩, ⟨by (with_reducible repeat (first | apply Kd.R_alloc | apply Kd.R_drewN | apply Kd.R_drew)); exact HO112.out⟩, ⟨by (with_reducible repeat (first | apply Kd.S_alloc | apply Kd.S_drewN | apply Kd.S_drew)); exact Kd.S_mono HO_4.out (fun _ hk => hk.2)⟩, ⟨by (with_reducible repeat (first | apply Kd.R_alloc | apply Kd.R_drewN | apply Kd.R_drew)); exact HO115.out⟩, ⟨by repeat (first | (with_reducible first | exact HB.out | apply Ja43_ | apply Ja41_ | apply Ja42_) | exact HB.out)⟩⟩
                    ·rw [if_neg c15] at H
                     exact absurd H (by simp)
                   ·rw [if_neg c14] at H
                    exact absurd H (by simp)
                  ·rw [if_neg c13] at H
                   have c13b0 : (x8_3 == (x3_2.length : Int)) = false := beq_eq_false_iff_ne.mpr c13
                   have c13b1 : (x8_3 != (x3_2.length : Int)) = true := bne_iff_ne.mpr c13
                   by_cases c19 : x6_2.length < 17592186044416
                   ·rw [if_pos c19] at H
                    have LMc19 := Ja38_.mk c19
                    clear c19
                    obtain ⟨y116, hy116⟩ : ∃ y_ : List Int, y_ = (x6_2 ++ [x8_3]) := ⟨_, rfl⟩
                    replace H : (J28_.l1 k3 l0 x3_2 x4_1 x5_1 y116 (wrap64 (x7_2 + 1))) = some r := by first | (rw [hy116]; with_reducible exact H) | (have H2_ := (Option.bind_some _ _).symm.trans H; rw [hy116]; with_reducible exact H2_) | (have H2_ := (Option.bind_some _ _).symm.trans H; with_reducible exact H2_) | with_reducible exact H | (rw [hy116]; exact H) | exact H
                    have Ny116 := Ja38_.mk hy116
                    clear hy116
                    have H' := Ja38_.mk H
                    clear H
                    obtain ⟨Ao20, co20, eo20⟩ := Kd.R_slice HO_3.out
                    subst eo20
                    have p105 : 0 ≤ (x8_3 : Int) := of_decide_eq_true (by first | (with_reducible assumption) | assumption)
                    have q105 : x8_3 < (x3_2.length : Int) := of_decide_eq_true (by first | (with_reducible assumption) | assumption)
                    obtain ⟨ad105, e105, hx105_0⟩ := Kd.at_string (Kd.R_reads' HO_3.out).2.2 x8_3 p105 q105
                    cases e105
                    replace p105 := eq_true p105
                    replace q105 := eq_true q105
                    have p106 : 0 ≤ (x5_1 : Int) := of_decide_eq_true (by first | (with_reducible assumption) | assumption)
                    have q106 : x5_1 < (l0.length : Int) := of_decide_eq_true (by first | (with_reducible assumption) | assumption)
                    obtain ⟨ad106, A106_0, c106_0, e106, hx106_0, hl106_0, hi106_0⟩ := at_L7 HR0.out x5_1 p106 q106
                    obtain rfl : ad101 = ad106 := (by injection e106)
                    replace hx106_0 := (HB.out.cell (World.block_lt_of_cell? w _ hx106_0)).trans hx106_0
                    have HR106_0 := Ja38_.mk hi106_0
                    have HC106_0 := Ja38_.mk hl106_0
                    clear hi106_0 hl106_0
                    replace p106 := eq_true p106
                    replace q106 := eq_true q106
                    have p107 : 0 ≤ (x7_2 : Int) := of_decide_eq_true (by first | (with_reducible assumption) | assumption)
                    have q107 : x7_2 < ((rd_L7 l0 x5_1).length : Int) := of_decide_eq_true (by first | (with_reducible assumption) | assumption)
                    obtain ⟨ad107, e107, hx107_0⟩ := Kd.at_string HR106_0.out x7_2 p107 q107
                    cases e107
                    replace hx107_0 := (HB.out.cell (World.block_lt_of_cell? w _ hx107_0)).trans hx107_0
                    replace p107 := eq_true p107
                    replace q107 := eq_true q107
                    go_wp2_with (first | ((with_reducible refine gate_builtin (b := .append) (xs := #[.tmp 58, .tmp 60]) rfl ?_); at_builtin; refine Kd.R_append (Kd.int .i64) (w0 := w) w.heap.size rfl (.tmp 58) (.tmp 60) 22 3 (.int .i64 0) 8 rfl Try.underlying22 info3 rfl (by decide) (by omega) u6 x6_2 x8_3 [.int .i64 x8_3] (fun _ => True) (fun _ => False) rfl rfl ?aP (fun _ hk => hk.elim) ?aF ?aO ?aB ?aS ?aL ?_; (case aP => exact rfl); (case aB => exact (by repeat (first | (with_reducible first | exact HB.out | apply Ja43_ | apply Ja41_ | apply Ja42_) | exact HB.out))); (case aF => exact (fun _ _ => trivial)); (case aO => exact (by (with_reducible repeat (first | apply Kd.R_alloc | apply Kd.R_drewN | apply Kd.R_drew)); exact HO_6.out)); (case aS => exact (Ja45_ (by repeat (first | (with_reducible first | exact HB.out | apply Ja43_ | apply Ja41_ | apply Ja42_) | exact HB.out)))); (case aL => have := LMc19.out; omega); intro v117 w21 ho hb hg hat; rw [← Ny116.out] at ho; have n0_ := Ja38_.mk (Kd.R_over' (by (with_reducible repeat (first | apply Kd.R_alloc | apply Kd.R_drewN | apply Kd.R_drew)); exact HO_3.out) (Kd.R_typed (by (with_reducible repeat (first | apply Kd.R_alloc | apply Kd.R_drewN | apply Kd.R_drew)); exact HO_6.out)) (by decide) hg); have n1_ := Ja38_.mk (Kd.S_after (ok := (fun _ => True)) (by (with_reducible repeat (first | apply Kd.S_alloc | apply Kd.S_drewN | apply Kd.S_drew)); exact Kd.S_mono HO_4.out (fun _ hk => ⟨trivial, hk⟩)) hg hat); have n2_ := Ja38_.mk (hb); have n3_ := Ja38_.mk (ho); clear HO_3; clear HO_4; clear HB; clear HO_6; have HO_3 := n0_; have HO_4 := n1_; have HB := n2_; have HO118 := n3_; clear n0_ n1_ n2_ n3_; clear ho hb hg hat))
                    repeat (go_quiet (first | ((with_reducible refine gate_builtin (b := .append) (xs := #[.tmp 58, .tmp 60]) rfl ?_); at_builtin; refine Kd.R_append (Kd.int .i64) (w0 := w) w.heap.size rfl (.tmp 58) (.tmp 60) 22 3 (.int .i64 0) 8 rfl Try.underlying22 info3 rfl (by decide) (by omega) u6 x6_2 x8_3 [.int .i64 x8_3] (fun _ => True) (fun _ => False) rfl rfl ?aP (fun _ hk => hk.elim) ?aF ?aO ?aB ?aS ?aL ?_; (case aP => exact rfl); (case aB => exact (by repeat (first | (with_reducible first | exact HB.out | apply Ja43_ | apply Ja41_ | apply Ja42_) | exact HB.out))); (case aF => exact (fun _ _ => trivial)); (case aO => exact (by (with_reducible repeat (first | apply Kd.R_alloc | apply Kd.R_drewN | apply Kd.R_drew)); exact HO_6.out)); (case aS => exact (Ja45_ (by repeat (first | (with_reducible first | exact HB.out | apply Ja43_ | apply Ja41_ | apply Ja42_) | exact HB.out)))); (case aL => have := LMc19.out; omega); intro v117 w21 ho hb hg hat; rw [← Ny116.out] at ho; have n0_ := Ja38_.mk (Kd.R_over' (by (with_reducible repeat (first | apply Kd.R_alloc | apply Kd.R_drewN | apply Kd.R_drew)); exact HO_3.out) (Kd.R_typed (by (with_reducible repeat (first | apply Kd.R_alloc | apply Kd.R_drewN | apply Kd.R_drew)); exact HO_6.out)) (by decide) hg); have n1_ := Ja38_.mk (Kd.S_after (ok := (fun _ => True)) (by (with_reducible repeat (first | apply Kd.S_alloc | apply Kd.S_drewN | apply Kd.S_drew)); exact Kd.S_mono HO_4.out (fun _ hk => ⟨trivial, hk⟩)) hg hat); have n2_ := Ja38_.mk (hb); have n3_ := Ja38_.mk (ho); clear HO_3; clear HO_4; clear HB; clear HO_6; have HO_3 := n0_; have HO_4 := n1_; have HB := n2_; have HO118 := n3_; clear n0_ n1_ n2_ n3_; clear ho hb hg hat)); try go_wp2_with (first | ((with_reducible refine gate_builtin (b := .append) (xs := #[.tmp 58, .tmp 60]) rfl ?_); at_builtin; refine Kd.R_append (Kd.int .i64) (w0 := w) w.heap.size rfl (.tmp 58) (.tmp 60) 22 3 (.int .i64 0) 8 rfl Try.underlying22 info3 rfl (by decide) (by omega) u6 x6_2 x8_3 [.int .i64 x8_3] (fun _ => True) (fun _ => False) rfl rfl ?aP (fun _ hk => hk.elim) ?aF ?aO ?aB ?aS ?aL ?_; (case aP => exact rfl); (case aB => exact (by repeat (first | (with_reducible first | exact HB.out | apply Ja43_ | apply Ja41_ | apply Ja42_) | exact HB.out))); (case aF => exact (fun _ _ => trivial)); (case aO => exact (by (with_reducible repeat (first | apply Kd.R_alloc | apply Kd.R_drewN | apply Kd.R_drew)); exact HO_6.out)); (case aS => exact (Ja45_ (by repeat (first | (with_reducible first | exact HB.out | apply Ja43_ | apply Ja41_ | apply Ja42_) | exact HB.out)))); (case aL => have := LMc19.out; omega); intro v117 w21 ho hb hg hat; rw [← Ny116.out] at ho; have n0_ := Ja38_.mk (Kd.R_over' (by (with_reducible repeat (first | apply Kd.R_alloc | apply Kd.R_drewN | apply Kd.R_drew)); exact HO_3.out) (Kd.R_typed (by (with_reducible repeat (first | apply Kd.R_alloc | apply Kd.R_drewN | apply Kd.R_drew)); exact HO_6.out)) (by decide) hg); have n1_ := Ja38_.mk (Kd.S_after (ok := (fun _ => True)) (by (with_reducible repeat (first | apply Kd.S_alloc | apply Kd.S_drewN | apply Kd.S_drew)); exact Kd.S_mono HO_4.out (fun _ hk => ⟨trivial, hk⟩)) hg hat); have n2_ := Ja38_.mk (hb); have n3_ := Ja38_.mk (ho); clear HO_3; clear HO_4; clear HB; clear HO_6; have HO_3 := n0_; have HO_4 := n1_; have HB := n2_; have HO118 := n3_; clear n0_ n1_ n2_ n3_; clear ho hb hg hat)))
                    go_roundg k3
                    case measure => have := HK1.out; have := HK2.out; have := HK3.out; omega
                    case rel => exact ⟨(x3_2), (y116), (wrap64 (x7_2 + 1)), (by first | rfl | (simp; done) | (simp [*]; done)), H', ⟨by have := HK1.out; have := HK2.out; have := HK3.out; omega⟩, ⟨by (with_reducible repeat (first | apply Kd.R_alloc | apply Kd.R_drewN | apply Kd.R_drew)); exact HO_3.out⟩, ⟨by (with_reducible repeat (first | apply Kd.S_alloc | apply Kd.S_drewN | apply Kd.S_drew)); exact Kd.S_mono HO_4.out (fun _ hk => hk.2)⟩, ⟨by (with_reducible repeat (first | apply Kd.R_alloc | apply Kd.R_drewN | apply Kd.R_drew)); exact HO118.out⟩, ⟨by repeat (first | (with_reducible first | exact HB.out | apply Ja43_ | apply Ja41_ | apply Ja42_) | exact HB.out)⟩⟩
                   ·rw [if_neg c19] at H
                    exact absurd H (by simp)
                 ·rw [if_neg c12] at H
                  have c12b0 : ((rdOf ByteArray.empty x3_2 x8_3).toList == (rdOf ByteArray.empty (rd_L7 l0 x5_1) x7_2).toList) = false := beq_eq_false_iff_ne.mpr c12
                  have c12b1 : ((rdOf ByteArray.empty x3_2 x8_3).toList != (rdOf ByteArray.empty (rd_L7 l0 x5_1) x7_2).toList) = true := bne_iff_ne.mpr c12
                  have H' := Ja38_.mk H
                  clear H
                  obtain ⟨Ao22, co22, eo22⟩ := Kd.R_slice HO_3.out
                  subst eo22
                  have p105 : 0 ≤ (x8_3 : Int) := of_decide_eq_true (by first | (with_reducible assumption) | assumption)
                  have q105 : x8_3 < (x3_2.length : Int) := of_decide_eq_true (by first | (with_reducible assumption) | assumption)
                  obtain ⟨ad105, e105, hx105_0⟩ := Kd.at_string (Kd.R_reads' HO_3.out).2.2 x8_3 p105 q105
                  cases e105
                  replace p105 := eq_true p105
                  replace q105 := eq_true q105
                  have p106 : 0 ≤ (x5_1 : Int) := of_decide_eq_true (by first | (with_reducible assumption) | assumption)
                  have q106 : x5_1 < (l0.length : Int) := of_decide_eq_true (by first | (with_reducible assumption) | assumption)
                  obtain ⟨ad106, A106_0, c106_0, e106, hx106_0, hl106_0, hi106_0⟩ := at_L7 HR0.out x5_1 p106 q106
                  obtain rfl : ad101 = ad106 := (by injection e106)
                  replace hx106_0 := (HB.out.cell (World.block_lt_of_cell? w _ hx106_0)).trans hx106_0
                  have HR106_0 := Ja38_.mk hi106_0
                  have HC106_0 := Ja38_.mk hl106_0
                  clear hi106_0 hl106_0
                  replace p106 := eq_true p106
                  replace q106 := eq_true q106
                  have p107 : 0 ≤ (x7_2 : Int) := of_decide_eq_true (by first | (with_reducible assumption) | assumption)
                  have q107 : x7_2 < ((rd_L7 l0 x5_1).length : Int) := of_decide_eq_true (by first | (with_reducible assumption) | assumption)
                  obtain ⟨ad107, e107, hx107_0⟩ := Kd.at_string HR106_0.out x7_2 p107 q107
                  cases e107
                  replace hx107_0 := (HB.out.cell (World.block_lt_of_cell? w _ hx107_0)).trans hx107_0
                  replace p107 := eq_true p107
                  replace q107 := eq_true q107
                  go_wp2
                  repeat (go_quiet (fail); try go_wp2)
                  go_roundg k3
                  case measure => have := HK1.out; have := HK2.out; have := HK3.out; omega
                  case rel => exact ⟨(wrap64 (x8_3 + 1)), (by first | rfl | (simp; done) | (simp [*]; done)), H', ⟨by have := HK1.out; have := HK2.out; have := HK3.out; omega⟩, ⟨by (with_reducible repeat (first | apply Kd.R_alloc | apply Kd.R_drewN | apply Kd.R_drew)); exact HO_3.out⟩, ⟨by (with_reducible repeat (first | apply Kd.S_alloc | apply Kd.S_drewN | apply Kd.S_drew)); exact HO_4.out⟩, ⟨by (with_reducible repeat (first | apply Kd.R_alloc | apply Kd.R_drewN | apply Kd.R_drew)); exact HO_6.out⟩, ⟨by repeat (first | (with_reducible first | exact HB.out | apply Ja43_ | apply Ja41_ | apply Ja42_) | exact HB.out)⟩⟩
                ·rw [if_neg c11] at H
                 exact absurd H (by simp)
               ·rw [if_neg c10] at H
                exact absurd H (by simp)
              ·rw [if_neg c9] at H
               exact absurd H (by simp)
             ·rw [if_neg c8] at H
              exact absurd H (by simp)
            ·rw [if_neg c7] at H
             exact absurd H (by simp)
           ·rw [if_neg c6] at H
            have c6b0 : decide (x8_3 < (x3_2.length : Int)) = false := decide_eq_false c6
            clear c6
            by_cases c23 : x8_3 = (x3_2.length : Int)
            ·rw [if_pos c23] at H
             have c23b0 : (x8_3 == (x3_2.length : Int)) = true := beq_iff_eq.mpr c23
             have c23b1 : (x8_3 != (x3_2.length : Int)) = false := bne_eq_false_iff_eq.mpr c23
             clear c23
             by_cases c24 : 0 ≤ x5_1
             ·rw [if_pos c24] at H
              have c24b0 : decide (0 ≤ x5_1) = true := decide_eq_true c24
              clear c24
              by_cases c25 : x5_1 < (l0.length : Int)
              ·rw [if_pos c25] at H
               have c25b0 : decide (x5_1 < (l0.length : Int)) = true := decide_eq_true c25
               clear c25
               by_cases c26 : 0 ≤ x7_2
               ·rw [if_pos c26] at H
                have c26b0 : decide (0 ≤ x7_2) = true := decide_eq_true c26
                clear c26
                by_cases c27 : x7_2 < ((rd_L7 l0 x5_1).length : Int)
                ·rw [if_pos c27] at H
                 have c27b0 : decide (x7_2 < ((rd_L7 l0 x5_1).length : Int)) = true := decide_eq_true c27
                 clear c27
                 by_cases c28 : x3_2.length < 8796093022208
                 ·rw [if_pos c28] at H
                  have LMc28 := Ja38_.mk c28
                  clear c28
                  obtain ⟨y121, hy121⟩ : ∃ y_ : List ByteArray, y_ = (x3_2 ++ [rdOf ByteArray.empty (rd_L7 l0 x5_1) x7_2]) := ⟨_, rfl⟩
                  replace H : (if x6_2.length < 17592186044416 then (J28_.l1 k3 l0 y121 x4_1 x5_1 (x6_2 ++ [x8_3]) (wrap64 (x7_2 + 1))) else (none)) = some r := by first | (rw [hy121]; with_reducible exact H) | (have H2_ := (Option.bind_some _ _).symm.trans H; rw [hy121]; with_reducible exact H2_) | (have H2_ := (Option.bind_some _ _).symm.trans H; with_reducible exact H2_) | with_reducible exact H | (rw [hy121]; exact H) | exact H
                  have Ny121 := Ja38_.mk hy121
                  clear hy121
                  by_cases c29 : x6_2.length < 17592186044416
                  ·rw [if_pos c29] at H
                   have LMc29 := Ja38_.mk c29
                   clear c29
                   obtain ⟨y124, hy124⟩ : ∃ y_ : List Int, y_ = (x6_2 ++ [x8_3]) := ⟨_, rfl⟩
                   replace H : (J28_.l1 k3 l0 y121 x4_1 x5_1 y124 (wrap64 (x7_2 + 1))) = some r := by first | (rw [hy124]; with_reducible exact H) | (have H2_ := (Option.bind_some _ _).symm.trans H; rw [hy124]; with_reducible exact H2_) | (have H2_ := (Option.bind_some _ _).symm.trans H; with_reducible exact H2_) | with_reducible exact H | (rw [hy124]; exact H) | exact H
                   have Ny124 := Ja38_.mk hy124
                   clear hy124
                   have H' := Ja38_.mk H
                   clear H
                   obtain ⟨Ao30, co30, eo30⟩ := Kd.R_slice HO_3.out
                   subst eo30
                   have p119 : 0 ≤ (x5_1 : Int) := of_decide_eq_true (by first | (with_reducible assumption) | assumption)
                   have q119 : x5_1 < (l0.length : Int) := of_decide_eq_true (by first | (with_reducible assumption) | assumption)
                   obtain ⟨ad119, A119_0, c119_0, e119, hx119_0, hl119_0, hi119_0⟩ := at_L7 HR0.out x5_1 p119 q119
                   obtain rfl : ad101 = ad119 := (by injection e119)
                   replace hx119_0 := (HB.out.cell (World.block_lt_of_cell? w _ hx119_0)).trans hx119_0
                   have HR119_0 := Ja38_.mk hi119_0
                   have HC119_0 := Ja38_.mk hl119_0
                   clear hi119_0 hl119_0
                   replace p119 := eq_true p119
                   replace q119 := eq_true q119
                   have p120 : 0 ≤ (x7_2 : Int) := of_decide_eq_true (by first | (with_reducible assumption) | assumption)
                   have q120 : x7_2 < ((rd_L7 l0 x5_1).length : Int) := of_decide_eq_true (by first | (with_reducible assumption) | assumption)
                   obtain ⟨ad120, e120, hx120_0⟩ := Kd.at_string HR119_0.out x7_2 p120 q120
                   cases e120
                   replace hx120_0 := (HB.out.cell (World.block_lt_of_cell? w _ hx120_0)).trans hx120_0
                   replace p120 := eq_true p120
                   replace q120 := eq_true q120
                   go_wp2_with (first | ((with_reducible refine gate_builtin (b := .append) (xs := #[.tmp 48, .tmp 56]) rfl ?_); at_builtin; refine Kd.R_append Kd.string (w0 := w) w.heap.size rfl (.tmp 48) (.tmp 56) 27 9 (.string ⟨#[]⟩) 16 rfl Try.underlying27 info9 rfl (by decide) (by omega) (.slice Ao30 x3_2.length co30) x3_2 (rdOf ByteArray.empty (rd_L7 l0 x5_1) x7_2) [.string (rdOf ByteArray.empty (rd_L7 l0 x5_1) x7_2)] (fun _ => True) (fun _ => False) rfl rfl ?aP (fun _ hk => hk.elim) ?aF ?aO ?aB ?aS ?aL ?_; (case aP => exact rfl); (case aB => exact (by repeat (first | (with_reducible first | exact HB.out | apply Ja43_ | apply Ja41_ | apply Ja42_) | exact HB.out))); (case aF => exact (fun _ _ => trivial)); (case aO => exact (by (with_reducible repeat (first | apply Kd.R_alloc | apply Kd.R_drewN | apply Kd.R_drew)); exact HO_3.out)); (case aS => exact (Ja45_ (by repeat (first | (with_reducible first | exact HB.out | apply Ja43_ | apply Ja41_ | apply Ja42_) | exact HB.out)))); (case aL => have := LMc28.out; omega); intro v122 w31 ho hb hg hat; rw [← Ny121.out] at ho; have n0_ := Ja38_.mk (Kd.S_over' (by (with_reducible repeat (first | apply Kd.S_alloc | apply Kd.S_drewN | apply Kd.S_drew)); exact HO_4.out) (Kd.R_typed (by (with_reducible repeat (first | apply Kd.R_alloc | apply Kd.R_drewN | apply Kd.R_drew)); exact HO_3.out)) (by decide) hg); have n1_ := Ja38_.mk (Kd.R_over' (by (with_reducible repeat (first | apply Kd.R_alloc | apply Kd.R_drewN | apply Kd.R_drew)); exact HO_6.out) (Kd.R_typed (by (with_reducible repeat (first | apply Kd.R_alloc | apply Kd.R_drewN | apply Kd.R_drew)); exact HO_3.out)) (by decide) hg); have n2_ := Ja38_.mk (hb); have n3_ := Ja38_.mk (ho); clear HO_4; clear HO_6; clear HB; clear HO_3; have HO_4 := n0_; have HO_6 := n1_; have HB := n2_; have HO123 := n3_; clear n0_ n1_ n2_ n3_; clear ho hb hg hat) | ((with_reducible refine gate_builtin (b := .append) (xs := #[.tmp 58, .tmp 60]) rfl ?_); at_builtin; refine Kd.R_append (Kd.int .i64) (w0 := w) w.heap.size rfl (.tmp 58) (.tmp 60) 22 3 (.int .i64 0) 8 rfl Try.underlying22 info3 rfl (by decide) (by omega) u6 x6_2 x8_3 [.int .i64 x8_3] (fun _ => True) (fun _ => False) rfl rfl ?aP (fun _ hk => hk.elim) ?aF ?aO ?aB ?aS ?aL ?_; (case aP => exact rfl); (case aB => exact (by repeat (first | (with_reducible first | exact HB.out | apply Ja43_ | apply Ja41_ | apply Ja42_) | exact HB.out))); (case aF => exact (fun _ _ => trivial)); (case aO => exact (by (with_reducible repeat (first | apply Kd.R_alloc | apply Kd.R_drewN | apply Kd.R_drew)); exact HO_6.out)); (case aS => exact (Ja45_ (by repeat (first | (with_reducible first | exact HB.out | apply Ja43_ | apply Ja41_ | apply Ja42_) | exact HB.out)))); (case aL => have := LMc29.out; omega); intro v125 w32 ho hb hg hat; rw [← Ny124.out] at ho; have n0_ := Ja38_.mk (Kd.S_after (ok := (fun _ => True)) (by (with_reducible repeat (first | apply Kd.S_alloc | apply Kd.S_drewN | apply Kd.S_drew)); exact Kd.S_mono HO_4.out (fun _ hk => ⟨trivial, hk⟩)) hg hat); have n1_ := Ja38_.mk (Kd.R_over' (by (with_reducible repeat (first | apply Kd.R_alloc | apply Kd.R_drewN | apply Kd.R_drew)); exact HO123.out) (Kd.R_typed (by (with_reducible repeat (first | apply Kd.R_alloc | apply Kd.R_drewN | apply Kd.R_drew)); exact HO_6.out)) (by decide) hg); have n2_ := Ja38_.mk (hb); have n3_ := Ja38_.mk (ho); clear HO_4; clear HO123; clear HB; clear HO_6; have HO_4 := n0_; have HO123 := n1_; have HB := n2_; have HO126 := n3_; clear n0_ n1_ n2_ n3_; clear ho hb hg hat))
                   repeat (go_quiet (first | ((with_reducible refine gate_builtin (b := .append) (xs := #[.tmp 48, .tmp 56]) rfl ?_); at_builtin; refine Kd.R_append Kd.string (w0 := w) w.heap.size rfl (.tmp 48) (.tmp 56) 27 9 (.string ⟨#[]⟩) 16 rfl Try.underlying27 info9 rfl (by decide) (by omega) (.slice Ao30 x3_2.length co30) x3_2 (rdOf ByteArray.empty (rd_L7 l0 x5_1) x7_2) [.string (rdOf ByteArray.empty (rd_L7 l0 x5_1) x7_2)] (fun _ => True) (fun _ => False) rfl rfl ?aP (fun _ hk => hk.elim) ?aF ?aO ?aB ?aS ?aL ?_; (case aP => exact rfl); (case aB => exact (by repeat (first | (with_reducible first | exact HB.out | apply Ja43_ | apply Ja41_ | apply Ja42_) | exact HB.out))); (case aF => exact (fun _ _ => trivial)); (case aO => exact (by (with_reducible repeat (first | apply Kd.R_alloc | apply Kd.R_drewN | apply Kd.R_drew)); exact HO_3.out)); (case aS => exact (Ja45_ (by repeat (first | (with_reducible first | exact HB.out | apply Ja43_ | apply Ja41_ | apply Ja42_) | exact HB.out)))); (case aL => have := LMc28.out; omega); intro v122 w31 ho hb hg hat; rw [← Ny121.out] at ho; have n0_ := Ja38_.mk (Kd.S_over' (by (with_reducible repeat (first | apply Kd.S_alloc | apply Kd.S_drewN | apply Kd.S_drew)); exact HO_4.out) (Kd.R_typed (by (with_reducible repeat (first | apply Kd.R_alloc | apply Kd.R_drewN | apply Kd.R_drew)); exact HO_3.out)) (by decide) hg); have n1_ := Ja38_.mk (Kd.R_over' (by (with_reducible repeat (first | apply Kd.R_alloc | apply Kd.R_drewN | apply Kd.R_drew)); exact HO_6.out) (Kd.R_typed (by (with_reducible repeat (first | apply Kd.R_alloc | apply Kd.R_drewN | apply Kd.R_drew)); exact HO_3.out)) (by decide) hg); have n2_ := Ja38_.mk (hb); have n3_ := Ja38_.mk (ho); clear HO_4; clear HO_6; clear HB; clear HO_3; have HO_4 := n0_; have HO_6 := n1_; have HB := n2_; have HO123 := n3_; clear n0_ n1_ n2_ n3_; clear ho hb hg hat) | ((with_reducible refine gate_builtin (b := .append) (xs := #[.tmp 58, .tmp 60]) rfl ?_); at_builtin; refine Kd.R_append (Kd.int .i64) (w0 := w) w.heap.size rfl (.tmp 58) (.tmp 60) 22 3 (.int .i64 0) 8 rfl Try.underlying22 info3 rfl (by decide) (by omega) u6 x6_2 x8_3 [.int .i64 x8_3] (fun _ => True) (fun _ => False) rfl rfl ?aP (fun _ hk => hk.elim) ?aF ?aO ?aB ?aS ?aL ?_; (case aP => exact rfl); (case aB => exact (by repeat (first | (with_reducible first | exact HB.out | apply Ja43_ | apply Ja41_ | apply Ja42_) | exact HB.out))); (case aF => exact (fun _ _ => trivial)); (case aO => exact (by (with_reducible repeat (first | apply Kd.R_alloc | apply Kd.R_drewN | apply Kd.R_drew)); exact HO_6.out)); (case aS => exact (Ja45_ (by repeat (first | (with_reducible first | exact HB.out | apply Ja43_ | apply Ja41_ | apply Ja42_) | exact HB.out)))); (case aL => have := LMc29.out; omega); intro v125 w32 ho hb hg hat; rw [← Ny124.out] at ho; have n0_ := Ja38_.mk (Kd.S_after (ok := (fun _ => True)) (by (with_reducible repeat (first | apply Kd.S_alloc | apply Kd.S_drewN | apply Kd.S_drew)); exact Kd.S_mono HO_4.out (fun _ hk => ⟨trivial, hk⟩)) hg hat); have n1_ := Ja38_.mk (Kd.R_over' (by (with_reducible repeat (first | apply Kd.R_alloc | apply Kd.R_drewN | apply Kd.R_drew)); exact HO123.out) (Kd.R_typed (by (with_reducible repeat (first | apply Kd.R_alloc | apply Kd.R_drewN | apply Kd.R_drew)); exact HO_6.out)) (by decide) hg); have n2_ := Ja38_.mk (hb); have n3_ := Ja38_.mk (ho); clear HO_4; clear HO123; clear HB; clear HO_6; have HO_4 := n0_; have HO123 := n1_; have HB := n2_; have HO126 := n3_; clear n0_ n1_ n2_ n3_; clear ho hb hg hat)); try go_wp2_with (first | ((with_reducible refine gate_builtin (b := .append) (xs := #[.tmp 48, .tmp 56]) rfl ?_); at_builtin; refine Kd.R_append Kd.string (w0 := w) w.heap.size rfl (.tmp 48) (.tmp 56) 27 9 (.string ⟨#[]⟩) 16 rfl Try.underlying27 info9 rfl (by decide) (by omega) (.slice Ao30 x3_2.length co30) x3_2 (rdOf ByteArray.empty (rd_L7 l0 x5_1) x7_2) [.string (rdOf ByteArray.empty (rd_L7 l0 x5_1) x7_2)] (fun _ => True) (fun _ => False) rfl rfl ?aP (fun _ hk => hk.elim) ?aF ?aO ?aB ?aS ?aL ?_; (case aP => exact rfl); (case aB => exact (by repeat (first | (with_reducible first | exact HB.out | apply Ja43_ | apply Ja41_ | apply Ja42_) | exact HB.out))); (case aF => exact (fun _ _ => trivial)); (case aO => exact (by (with_reducible repeat (first | apply Kd.R_alloc | apply Kd.R_drewN | apply Kd.R_drew)); exact HO_3.out)); (case aS => exact (Ja45_ (by repeat (first | (with_reducible first | exact HB.out | apply Ja43_ | apply Ja41_ | apply Ja42_) | exact HB.out)))); (case aL => have := LMc28.out; omega); intro v122 w31 ho hb hg hat; rw [← Ny121.out] at ho; have n0_ := Ja38_.mk (Kd.S_over' (by (with_reducible repeat (first | apply Kd.S_alloc | apply Kd.S_drewN | apply Kd.S_drew)); exact HO_4.out) (Kd.R_typed (by (with_reducible repeat (first | apply Kd.R_alloc | apply Kd.R_drewN | apply Kd.R_drew)); exact HO_3.out)) (by decide) hg); have n1_ := Ja38_.mk (Kd.R_over' (by (with_reducible repeat (first | apply Kd.R_alloc | apply Kd.R_drewN | apply Kd.R_drew)); exact HO_6.out) (Kd.R_typed (by (with_reducible repeat (first | apply Kd.R_alloc | apply Kd.R_drewN | apply Kd.R_drew)); exact HO_3.out)) (by decide) hg); have n2_ := Ja38_.mk (hb); have n3_ := Ja38_.mk (ho); clear HO_4; clear HO_6; clear HB; clear HO_3; have HO_4 := n0_; have HO_6 := n1_; have HB := n2_; have HO123 := n3_; clear n0_ n1_ n2_ n3_; clear ho hb hg hat) | ((with_reducible refine gate_builtin (b := .append) (xs := #[.tmp 58, .tmp 60]) rfl ?_); at_builtin; refine Kd.R_append (Kd.int .i64) (w0 := w) w.heap.size rfl (.tmp 58) (.tmp 60) 22 3 (.int .i64 0) 8 rfl Try.underlying22 info3 rfl (by decide) (by omega) u6 x6_2 x8_3 [.int .i64 x8_3] (fun _ => True) (fun _ => False) rfl rfl ?aP (fun _ hk => hk.elim) ?aF ?aO ?aB ?aS ?aL ?_; (case aP => exact rfl); (case aB => exact (by repeat (first | (with_reducible first | exact HB.out | apply Ja43_ | apply Ja41_ | apply Ja42_) | exact HB.out))); (case aF => exact (fun _ _ => trivial)); (case aO => exact (by (with_reducible repeat (first | apply Kd.R_alloc | apply Kd.R_drewN | apply Kd.R_drew)); exact HO_6.out)); (case aS => exact (Ja45_ (by repeat (first | (with_reducible first | exact HB.out | apply Ja43_ | apply Ja41_ | apply Ja42_) | exact HB.out)))); (case aL => have := LMc29.out; omega); intro v125 w32 ho hb hg hat; rw [← Ny124.out] at ho; have n0_ := Ja38_.mk (Kd.S_after (ok := (fun _ => True)) (by (with_reducible repeat (first | apply Kd.S_alloc | apply Kd.S_drewN | apply Kd.S_drew)); exact Kd.S_mono HO_4.out (fun _ hk => ⟨trivial, hk⟩)) hg hat); have n1_ := Ja38_.mk (Kd.R_over' (by (with_reducible repeat (first | apply Kd.R_alloc | apply Kd.R_drewN | apply Kd.R_drew)); exact HO123.out) (Kd.R_typed (by (with_reducible repeat (first | apply Kd.R_alloc | apply Kd.R_drewN | apply Kd.R_drew)); exact HO_6.out)) (by decide) hg); have n2_ := Ja38_.mk (hb); have n3_ := Ja38_.mk (ho); clear HO_4; clear HO123; clear HB; clear HO_6; have HO_4 := n0_; have HO123 := n1_; have HB := n2_; have HO126 := n3_; clear n0_ n1_ n2_ n3_; clear ho hb hg hat)))
                   go_roundg k3
                   case measure => have := HK1.out; have := HK2.out; have := HK3.out; omega
                   case rel => exact ⟨(y121), (y124), (wrap64 (x7_2 + 1)), (by first | rfl | (simp; done) | (simp [*]; done)), H', ⟨by have := HK1.out; have := HK2.out; have := HK3.out; omega⟩, ⟨by (with_reducible repeat (first | apply Kd.R_alloc | apply Kd.R_drewN | apply Kd.R_drew)); exact HO123.out⟩, ⟨by (with_reducible repeat (first | apply Kd.S_alloc | apply Kd.S_drewN | apply Kd.S_drew)); exact Kd.S_mono HO_4.out (fun _ hk => hk.2)⟩, ⟨by (with_reducible repeat (first | apply Kd.R_alloc | apply Kd.R_drewN | apply Kd.R_drew)); exact HO126.out⟩, ⟨by repeat (first | (with_reducible first | exact HB.out | apply Ja43_ | apply Ja41_ | apply Ja42_) | exact HB.out)⟩⟩
                  ·rw [if_neg c29] at H
                   exact absurd H (by simp)
                 ·rw [if_neg c28] at H
                  exact absurd H (by simp)
                ·rw [if_neg c27] at H
                 exact absurd H (by simp)
               ·rw [if_neg c26] at H
                exact absurd H (by simp)
              ·rw [if_neg c25] at H
               exact absurd H (by simp)
             ·rw [if_neg c24] at H
              exact absurd H (by simp)
            ·rw [if_neg c23] at H
             have c23b0 : (x8_3 == (x3_2.length : Int)) = false := beq_eq_false_iff_ne.mpr c23
             have c23b1 : (x8_3 != (x3_2.length : Int)) = true := bne_iff_ne.mpr c23
             by_cases c33 : x6_2.length < 17592186044416
             ·rw [if_pos c33] at H
              have LMc33 := Ja38_.mk c33
              clear c33
              obtain ⟨y127, hy127⟩ : ∃ y_ : List Int, y_ = (x6_2 ++ [x8_3]) := ⟨_, rfl⟩
              replace H : (J28_.l1 k3 l0 x3_2 x4_1 x5_1 y127 (wrap64 (x7_2 + 1))) = some r := by first | (rw [hy127]; with_reducible exact H) | (have H2_ := (Option.bind_some _ _).symm.trans H; rw [hy127]; with_reducible exact H2_) | (have H2_ := (Option.bind_some _ _).symm.trans H; with_reducible exact H2_) | with_reducible exact H | (rw [hy127]; exact H) | exact H
              have Ny127 := Ja38_.mk hy127
              clear hy127
              have H' := Ja38_.mk H
              clear H
              obtain ⟨Ao34, co34, eo34⟩ := Kd.R_slice HO_3.out
              subst eo34
              go_wp2_with (first | ((with_reducible refine gate_builtin (b := .append) (xs := #[.tmp 58, .tmp 60]) rfl ?_); at_builtin; refine Kd.R_append (Kd.int .i64) (w0 := w) w.heap.size rfl (.tmp 58) (.tmp 60) 22 3 (.int .i64 0) 8 rfl Try.underlying22 info3 rfl (by decide) (by omega) u6 x6_2 x8_3 [.int .i64 x8_3] (fun _ => True) (fun _ => False) rfl rfl ?aP (fun _ hk => hk.elim) ?aF ?aO ?aB ?aS ?aL ?_; (case aP => exact rfl); (case aB => exact (by repeat (first | (with_reducible first | exact HB.out | apply Ja43_ | apply Ja41_ | apply Ja42_) | exact HB.out))); (case aF => exact (fun _ _ => trivial)); (case aO => exact (by (with_reducible repeat (first | apply Kd.R_alloc | apply Kd.R_drewN | apply Kd.R_drew)); exact HO_6.out)); (case aS => exact (Ja45_ (by repeat (first | (with_reducible first | exact HB.out | apply Ja43_ | apply Ja41_ | apply Ja42_) | exact HB.out)))); (case aL => have := LMc33.out; omega); intro v128 w35 ho hb hg hat; rw [← Ny127.out] at ho; have n0_ := Ja38_.mk (Kd.R_over' (by (with_reducible repeat (first | apply Kd.R_alloc | apply Kd.R_drewN | apply Kd.R_drew)); exact HO_3.out) (Kd.R_typed (by (with_reducible repeat (first | apply Kd.R_alloc | apply Kd.R_drewN | apply Kd.R_drew)); exact HO_6.out)) (by decide) hg); have n1_ := Ja38_.mk (Kd.S_after (ok := (fun _ => True)) (by (with_reducible repeat (first | apply Kd.S_alloc | apply Kd.S_drewN | apply Kd.S_drew)); exact Kd.S_mono HO_4.out (fun _ hk => ⟨trivial, hk⟩)) hg hat); have n2_ := Ja38_.mk (hb); have n3_ := Ja38_.mk (ho); clear HO_3; clear HO_4; clear HB; clear HO_6; have HO_3 := n0_; have HO_4 := n1_; have HB := n2_; have HO129 := n3_; clear n0_ n1_ n2_ n3_; clear ho hb hg hat))
              repeat (go_quiet (first | ((with_reducible refine gate_builtin (b := .append) (xs := #[.tmp 58, .tmp 60]) rfl ?_); at_builtin; refine Kd.R_append (Kd.int .i64) (w0 := w) w.heap.size rfl (.tmp 58) (.tmp 60) 22 3 (.int .i64 0) 8 rfl Try.underlying22 info3 rfl (by decide) (by omega) u6 x6_2 x8_3 [.int .i64 x8_3] (fun _ => True) (fun _ => False) rfl rfl ?aP (fun _ hk => hk.elim) ?aF ?aO ?aB ?aS ?aL ?_; (case aP => exact rfl); (case aB => exact (by repeat (first | (with_reducible first | exact HB.out | apply Ja43_ | apply Ja41_ | apply Ja42_) | exact HB.out))); (case aF => exact (fun _ _ => trivial)); (case aO => exact (by (with_reducible repeat (first | apply Kd.R_alloc | apply Kd.R_drewN | apply Kd.R_drew)); exact HO_6.out)); (case aS => exact (Ja45_ (by repeat (first | (with_reducible first | exact HB.out | apply Ja43_ | apply Ja41_ | apply Ja42_) | exact HB.out)))); (case aL => have := LMc33.out; omega); intro v128 w35 ho hb hg hat; rw [← Ny127.out] at ho; have n0_ := Ja38_.mk (Kd.R_over' (by (with_reducible repeat (first | apply Kd.R_alloc | apply Kd.R_drewN | apply Kd.R_drew)); exact HO_3.out) (Kd.R_typed (by (with_reducible repeat (first | apply Kd.R_alloc | apply Kd.R_drewN | apply Kd.R_drew)); exact HO_6.out)) (by decide) hg); have n1_ := Ja38_.mk (Kd.S_after (ok := (fun _ => True)) (by (with_reducible repeat (first | apply Kd.S_alloc | apply Kd.S_drewN | apply Kd.S_drew)); exact Kd.S_mono HO_4.out (fun _ hk => ⟨trivial, hk⟩)) hg hat); have n2_ := Ja38_.mk (hb); have n3_ := Ja38_.mk (ho); clear HO_3; clear HO_4; clear HB; clear HO_6; have HO_3 := n0_; have HO_4 := n1_; have HB := n2_; have HO129 := n3_; clear n0_ n1_ n2_ n3_; clear ho hb hg hat)); try go_wp2_with (first | ((with_reducible refine gate_builtin (b := .append) (xs := #[.tmp 58, .tmp 60]) rfl ?_); at_builtin; refine Kd.R_append (Kd.int .i64) (w0 := w) w.heap.size rfl (.tmp 58) (.tmp 60) 22 3 (.int .i64 0) 8 rfl Try.underlying22 info3 rfl (by decide) (by omega) u6 x6_2 x8_3 [.int .i64 x8_3] (fun _ => True) (fun _ => False) rfl rfl ?aP (fun _ hk => hk.elim) ?aF ?aO ?aB ?aS ?aL ?_; (case aP => exact rfl); (case aB => exact (by repeat (first | (with_reducible first | exact HB.out | apply Ja43_ | apply Ja41_ | apply Ja42_) | exact HB.out))); (case aF => exact (fun _ _ => trivial)); (case aO => exact (by (with_reducible repeat (first | apply Kd.R_alloc | apply Kd.R_drewN | apply Kd.R_drew)); exact HO_6.out)); (case aS => exact (Ja45_ (by repeat (first | (with_reducible first | exact HB.out | apply Ja43_ | apply Ja41_ | apply Ja42_) | exact HB.out)))); (case aL => have := LMc33.out; omega); intro v128 w35 ho hb hg hat; rw [← Ny127.out] at ho; have n0_ := Ja38_.mk (Kd.R_over' (by (with_reducible repeat (first | apply Kd.R_alloc | apply Kd.R_drewN | apply Kd.R_drew)); exact HO_3.out) (Kd.R_typed (by (with_reducible repeat (first | apply Kd.R_alloc | apply Kd.R_drewN | apply Kd.R_drew)); exact HO_6.out)) (by decide) hg); have n1_ := Ja38_.mk (Kd.S_after (ok := (fun _ => True)) (by (with_reducible repeat (first | apply Kd.S_alloc | apply Kd.S_drewN | apply Kd.S_drew)); exact Kd.S_mono HO_4.out (fun _ hk => ⟨trivial, hk⟩)) hg hat); have n2_ := Ja38_.mk (hb); have n3_ := Ja38_.mk (ho); clear HO_3; clear HO_4; clear HB; clear HO_6; have HO_3 := n0_; have HO_4 := n1_; have HB := n2_; have HO129 := n3_; clear n0_ n1_ n2_ n3_; clear ho hb hg hat)))
              go_roundg k3
              case measure => have := HK1.out; have := HK2.out; have := HK3.out; omega
              case rel => exact ⟨(x3_2), (y127), (wrap64 (x7_2 + 1)), (by first | rfl | (simp; done) | (simp [*]; done)), H', ⟨by have := HK1.out; have := HK2.out; have := HK3.out; omega⟩, ⟨by (with_reducible repeat (first | apply Kd.R_alloc | apply Kd.R_drewN | apply Kd.R_drew)); exact HO_3.out⟩, ⟨by (with_reducible repeat (first | apply Kd.S_alloc | apply Kd.S_drewN | apply Kd.S_drew)); exact Kd.S_mono HO_4.out (fun _ hk => hk.2)⟩, ⟨by (with_reducible repeat (first | apply Kd.R_alloc | apply Kd.R_drewN | apply Kd.R_drew)); exact HO129.out⟩, ⟨by repeat (first | (with_reducible first | exact HB.out | apply Ja43_ | apply Ja41_ | apply Ja42_) | exact HB.out)⟩⟩
             ·rw [if_neg c33] at H
              exact absurd H (by simp)
        ·rw [if_neg c5] at H
         have c5b0 : decide (x7_2 < ((rd_L7 l0 x5_1).length : Int)) = false := decide_eq_false c5
         clear c5
         by_cases c36 : x4_1.length < 5864062014805
         ·rw [if_pos c36] at H
          have LMc36 := Ja38_.mk c36
          clear c36
          obtain ⟨y102, hy102⟩ : ∃ y_ : List (List Int), y_ = (x4_1 ++ [x6_2]) := ⟨_, rfl⟩
          replace H : (J28_.l0 k2 l0 x3_2 y102 (wrap64 (x5_1 + 1))) = some r := by first | (rw [hy102]; with_reducible exact H) | (have H2_ := (Option.bind_some _ _).symm.trans H; rw [hy102]; with_reducible exact H2_) | (have H2_ := (Option.bind_some _ _).symm.trans H; with_reducible exact H2_) | with_reducible exact H | (rw [hy102]; exact H) | exact H
          have Ny102 := Ja38_.mk hy102
          clear hy102
          have H' := Ja38_.mk H
          clear H
          have p101 : 0 ≤ (x5_1 : Int) := of_decide_eq_true (by first | (with_reducible assumption) | assumption)
          have q101 : x5_1 < (l0.length : Int) := of_decide_eq_true (by first | (with_reducible assumption) | assumption)
          obtain ⟨ad101, A101_0, c101_0, e101, hx101_0, hl101_0, hi101_0⟩ := at_L7 HR0.out x5_1 p101 q101
          cases e101
          replace hx101_0 := (HB.out.cell (World.block_lt_of_cell? w _ hx101_0)).trans hx101_0
          have HR101_0 := Ja38_.mk hi101_0
          have HC101_0 := Ja38_.mk hl101_0
          clear hi101_0 hl101_0
          replace p101 := eq_true p101
          replace q101 := eq_true q101
          obtain ⟨Ao38, co38, eo38⟩ := Kd.R_slice HO_6.out
          subst eo38
          go_wp2_with (first | ((with_reducible refine gate_builtin (b := .append) (xs := #[.tmp 62, .tmp 64]) rfl ?_); at_builtin; refine Kd.S_append (Kd.slice 3 (Kd.int .i64)) (w0 := w) w.heap.size rfl (.tmp 62) (.tmp 64) 134 22 (.slice none 0 0) 24 rfl Try.underlying134 info22 rfl (by decide) (by omega) u4 x4_1 x6_2 [.slice Ao38 x6_2.length co38] (fun _ => True) (fun k_ => some k_ = (.slice Ao38 x6_2.length co38 : Value).ownBlock) rfl rfl ?aP (fun k_ hk_ => ((Kd.R_mono (ok' := fun k_ => ((fun _ => True)) k_ ∧ some k_ ≠ (u4 : Value).ownBlock) (Kd.R_apart' (HO_6.out) (Kd.S_typed HO_4.out) (by decide)) (fun k_ hk => ⟨trivial, hk.2⟩))).1 k_ hk_.symm) ?aF ?aO ?aB ?aS ?aL ?_; (case aP => exact Kd.M_row (Kd.R_mono (Kd.R_tight rfl (Kd.R_mono (ok' := fun k_ => ((fun _ => True)) k_ ∧ some k_ ≠ (u4 : Value).ownBlock) (Kd.R_apart' (HO_6.out) (Kd.S_typed HO_4.out) (by decide)) (fun k_ hk => ⟨trivial, hk.2⟩))) (fun _ h_ => h_))); (case aB => exact (by repeat (first | (with_reducible first | exact HB.out | apply Ja43_ | apply Ja41_ | apply Ja42_) | exact HB.out))); (case aF => exact (fun _ _ => trivial)); (case aO => exact (by (with_reducible repeat (first | apply Kd.S_alloc | apply Kd.S_drewN | apply Kd.S_drew)); exact Kd.S_mono HO_4.out (fun k_ hk => ⟨trivial, fun e_ => hk e_⟩))); (case aS => exact (Ja45_ (by repeat (first | (with_reducible first | exact HB.out | apply Ja43_ | apply Ja41_ | apply Ja42_) | exact HB.out)))); (case aL => have := LMc36.out; omega); intro v103 w37 ho hb hg hat; rw [← Ny102.out] at ho; have n0_ := Ja38_.mk (Kd.R_over' (by (with_reducible repeat (first | apply Kd.R_alloc | apply Kd.R_drewN | apply Kd.R_drew)); exact HO_3.out) (Kd.S_typed (by (with_reducible repeat (first | apply Kd.S_alloc | apply Kd.S_drewN | apply Kd.S_drew)); exact HO_4.out)) (by decide) hg); have n1_ := Ja38_.mk (hb); have n2_ := Ja38_.mk (ho); clear HO_3; clear HB; clear HO_4; clear HO_6; have HO_3 := n0_; have HB := n1_; have HO104 := n2_; clear n0_ n1_ n2_; clear ho hb hg hat))
          repeat (go_quiet (first | ((with_reducible refine gate_builtin (b := .append) (xs := #[.tmp 62, .tmp 64]) rfl ?_); at_builtin; refine Kd.S_append (Kd.slice 3 (Kd.int .i64)) (w0 := w) w.heap.size rfl (.tmp 62) (.tmp 64) 134 22 (.slice none 0 0) 24 rfl Try.underlying134 info22 rfl (by decide) (by omega) u4 x4_1 x6_2 [.slice Ao38 x6_2.length co38] (fun _ => True) (fun k_ => some k_ = (.slice Ao38 x6_2.length co38 : Value).ownBlock) rfl rfl ?aP (fun k_ hk_ => ((Kd.R_mono (ok' := fun k_ => ((fun _ => True)) k_ ∧ some k_ ≠ (u4 : Value).ownBlock) (Kd.R_apart' (HO_6.out) (Kd.S_typed HO_4.out) (by decide)) (fun k_ hk => ⟨trivial, hk.2⟩))).1 k_ hk_.symm) ?aF ?aO ?aB ?aS ?aL ?_; (case aP => exact Kd.M_row (Kd.R_mono (Kd.R_tight rfl (Kd.R_mono (ok' := fun k_ => ((fun _ => True)) k_ ∧ some k_ ≠ (u4 : Value).ownBlock) (Kd.R_apart' (HO_6.out) (Kd.S_typed HO_4.out) (by decide)) (fun k_ hk => ⟨trivial, hk.2⟩))) (fun _ h_ => h_))); (case aB => exact (by repeat (first | (with_reducible first | exact HB.out | apply Ja43_ | apply Ja41_ | apply Ja42_) | exact HB.out))); (case aF => exact (fun _ _ => trivial)); (case aO => exact (by (with_reducible repeat (first | apply Kd.S_alloc | apply Kd.S_drewN | apply Kd.S_drew)); exact Kd.S_mono HO_4.out (fun k_ hk => ⟨trivial, fun e_ => hk e_⟩))); (case aS => exact (Ja45_ (by repeat (first | (with_reducible first | exact HB.out | apply Ja43_ | apply Ja41_ | apply Ja42_) | exact HB.out)))); (case aL => have := LMc36.out; omega); intro v103 w37 ho hb hg hat; rw [← Ny102.out] at ho; have n0_ := Ja38_.mk (Kd.R_over' (by (with_reducible repeat (first | apply Kd.R_alloc | apply Kd.R_drewN | apply Kd.R_drew)); exact HO_3.out) (Kd.S_typed (by (with_reducible repeat (first | apply Kd.S_alloc | apply Kd.S_drewN | apply Kd.S_drew)); exact HO_4.out)) (by decide) hg); have n1_ := Ja38_.mk (hb); have n2_ := Ja38_.mk (ho); clear HO_3; clear HB; clear HO_4; clear HO_6; have HO_3 := n0_; have HB := n1_; have HO104 := n2_; clear n0_ n1_ n2_; clear ho hb hg hat)); try go_wp2_with (first | ((with_reducible refine gate_builtin (b := .append) (xs := #[.tmp 62, .tmp 64]) rfl ?_); at_builtin; refine Kd.S_append (Kd.slice 3 (Kd.int .i64)) (w0 := w) w.heap.size rfl (.tmp 62) (.tmp 64) 134 22 (.slice none 0 0) 24 rfl Try.underlying134 info22 rfl (by decide) (by omega) u4 x4_1 x6_2 [.slice Ao38 x6_2.length co38] (fun _ => True) (fun k_ => some k_ = (.slice Ao38 x6_2.length co38 : Value).ownBlock) rfl rfl ?aP (fun k_ hk_ => ((Kd.R_mono (ok' := fun k_ => ((fun _ => True)) k_ ∧ some k_ ≠ (u4 : Value).ownBlock) (Kd.R_apart' (HO_6.out) (Kd.S_typed HO_4.out) (by decide)) (fun k_ hk => ⟨trivial, hk.2⟩))).1 k_ hk_.symm) ?aF ?aO ?aB ?aS ?aL ?_; (case aP => exact Kd.M_row (Kd.R_mono (Kd.R_tight rfl (Kd.R_mono (ok' := fun k_ => ((fun _ => True)) k_ ∧ some k_ ≠ (u4 : Value).ownBlock) (Kd.R_apart' (HO_6.out) (Kd.S_typed HO_4.out) (by decide)) (fun k_ hk => ⟨trivial, hk.2⟩))) (fun _ h_ => h_))); (case aB => exact (by repeat (first | (with_reducible first | exact HB.out | apply Ja43_ | apply Ja41_ | apply Ja42_) | exact HB.out))); (case aF => exact (fun _ _ => trivial)); (case aO => exact (by (with_reducible repeat (first | apply Kd.S_alloc | apply Kd.S_drewN | apply Kd.S_drew)); exact Kd.S_mono HO_4.out (fun k_ hk => ⟨trivial, fun e_ => hk e_⟩))); (case aS => exact (Ja45_ (by repeat (first | (with_reducible first | exact HB.out | apply Ja43_ | apply Ja41_ | apply Ja42_) | exact HB.out)))); (case aL => have := LMc36.out; omega); intro v103 w37 ho hb hg hat; rw [← Ny102.out] at ho; have n0_ := Ja38_.mk (Kd.R_over' (by (with_reducible repeat (first | apply Kd.R_alloc | apply Kd.R_drewN | apply Kd.R_drew)); exact HO_3.out) (Kd.S_typed (by (with_reducible repeat (first | apply Kd.S_alloc | apply Kd.S_drewN | apply Kd.S_drew)); exact HO_4.out)) (by decide) hg); have n1_ := Ja38_.mk (hb); have n2_ := Ja38_.mk (ho); clear HO_3; clear HB; clear HO_4; clear HO_6; have HO_3 := n0_; have HB := n1_; have HO104 := n2_; clear n0_ n1_ n2_; clear ho hb hg hat)))
          go_roundg k2
          case measure => have := HK1.out; have := HK2.out; omega
          case rel => exact ⟨(x3_2), (y102), (wrap64 (x5_1 + 1)), (by first | rfl | (simp; done) | (simp [*]; done)), H', ⟨by have := HK1.out; have := HK2.out; omega⟩, ⟨by (with_reducible repeat (first | apply Kd.R_alloc | apply Kd.R_drewN | apply Kd.R_drew)); exact HO_3.out⟩, ⟨by (with_reducible repeat (first | apply Kd.S_alloc | apply Kd.S_drewN | apply Kd.S_drew)); exact HO104.out⟩, ⟨by repeat (first | (with_reducible first | exact HB.out | apply Ja43_ | apply Ja41_ | apply Ja42_) | exact HB.out)⟩⟩
         ·rw [if_neg c36] at H
          exact absurd H (by simp)
       ·rw [if_neg c4] at H
        exact absurd H (by simp)
      ·rw [if_neg c3] at H
       exact absurd H (by simp)
   ·rw [if_neg c2] at H
    have c2b0 : decide (x5_1 < (l0.length : Int)) = false := decide_eq_false c2
    clear c2
    obtain rfl := Option.some.inj H
    go_wp2
    repeat (go_quiet (fail); try go_wp2)
    go_ret
    exact ⟨_, by first | rfl | (simp [errW_none, errW_some] <;> rfl) | (simp [*, errW_none, errW_some] <;> rfl), by (with_reducible repeat (first | apply Kd.S_alloc | apply Kd.S_drewN | apply Kd.S_drew)); exact HO_4.out, by repeat (first | (with_reducible first | exact HB.out | apply Ja43_ | apply Ja41_ | apply Ja42_) | exact HB.out)⟩
end Go.Proofs.Ytadafplbgophfaa.PA
end
section
namespace Go.Proofs.Ytadafplbgophfaa.PA
set_option linter.unusedSimpArgs false
set_option linter.unusedVariables false
open Go.RowKit Go.Proofs.YtadafplbgophfaaW.PrintWords Go.Proofs.YtadafplbgophfaaW.PrintLast Go.Proofs.YtadafplbgophfaaW.PrintMore
abbrev N35 (w wr : World) (v : Value) (out : List S144) : Prop := Kd.N k144 144 wr w.heap.size (fun _ => True) v out
theorem N35.then_ {w wr w2 : World} {v : Value} {out : List S144} (hb : w.heap.size ≤ wr.heap.size) (h : Kd.N k144 144 w2 wr.heap.size (fun k_ => ((fun _ => True) k_ ∨ wr.heap.size ≤ k_)) v out) : N35 w w2 v out :=
  Kd.N_lower (Kd.N_mono h (fun _ _ => trivial)) hb
structure In35 (w W : World) (gt : Nat) (tA tB : Int) (v : Value) (out : List S144) : Prop where
  below : Below w.heap.size w W
  blk : W.heap[gt]? = some (.cells #[.int .i64 tA, .int .i64 tB] 37 (0, 0))
  row : N35 w W v out
theorem In35.start {w wr : World} {tA tB : Int} {v : Value} {out : List S144} (hb : Below w.heap.size w wr) (hn : N35 w wr v out) : In35 w (wr.alloc (.cells #[.int .i64 tA, .int .i64 tB] 37 (0, 0))) wr.heap.size tA tB v out :=
  ⟨Ja43_ hb _, blk_new wr _, Kd.N_alloc hn _⟩
theorem In35.step {w W W2 : World} {gt : Nat} {tA tB : Int} {v v2 : Value} {out out2 : List S144} (h : In35 w W gt tA tB v out) (hN : Kd.N k144 144 W2 W.heap.size (fun k_ => ((fun _ => True) k_ ∨ W.heap.size ≤ k_)) v2 out2) (hB : Below W.heap.size W W2) : In35 w W2 gt tA tB v2 out2 :=
  ⟨Ja44_ h.below hB, Ja47_ h.blk hB, N35.then_ h.below.size hN⟩
end Go.Proofs.Ytadafplbgophfaa.PA
end
section
namespace Go.Proofs.Ytadafplbgophfaa.PA
set_option linter.unusedVariables false
open Go.RowKit Go.Proofs.YtadafplbgophfaaW.PrintWords Go.Proofs.YtadafplbgophfaaW.PrintLast Go.Proofs.YtadafplbgophfaaW.PrintMore
namespace Jdg
def to39 (p : S37) : S39 := ⟨p.f0, p.f1⟩
theorem rdT37_nat (xs : List S37) {i : Nat} (h : i < xs.length) : rd_T37 xs (i : Int) = xs[i] := by simp [rd_T37, List.getD_eq_getElem?_getD, h]
theorem to_go (r : List S37) (hr : r.length ≤ 1000000000) : ∀ (d i : Nat), r.length - i ≤ d → i ≤ r.length → Ev (fun k => J19_.l0 k r ((r.take i).map to39) i) (r.map to39) := by
  intro d
  induction d with
  | zero =>
    intro i h1 h2
    refine Ev.step (f := fun _ => some (r.map to39)) (fun k => ?_) (Ev.now _)
    simp only [J19_.l0]
    rw [if_neg (by omega), List.take_of_length_le (by omega)]
  | succ d ih =>
    intro i h1 h2
    by_cases hi : i < r.length
    · refine Ev.step (fun k => ?_) (ih (i + 1) (by omega) (by omega))
      simp only [J19_.l0]
      rw [if_pos (by omega), if_pos (by omega), if_pos (by rw [List.length_map, List.length_take]; omega), w64 (by omega) (by omega), rdT37_nat r hi, List.take_succ_eq_append_getElem hi, List.map_append]
      rfl
    · refine Ev.step (f := fun _ => some (r.map to39)) (fun k => ?_) (Ev.now _)
      simp only [J19_.l0]
      rw [if_neg (by omega), List.take_of_length_le (by omega)]
theorem to_ok (r : List S37) (hr : r.length ≤ 1000000000) : Ev (fun k => J19_.f k r) (r.map to39) := by
  have := to_go r hr r.length 0 (by omega) (by omega)
  exact this
end Jdg
end Go.Proofs.Ytadafplbgophfaa.PA
end
section
namespace Go.Proofs.Ytadafplbgophfaa.PA
set_option linter.unusedSimpArgs false
set_option linter.unusedVariables false
open Go.RowKit Go.Proofs.YtadafplbgophfaaW.PrintWords Go.Proofs.YtadafplbgophfaaW.PrintLast Go.Proofs.YtadafplbgophfaaW.PrintMore
open Jdg
structure Scr (r : List S144) : Prop where
  ne : NE r
  adj : Adj r
  kinds : Kinds r
theorem Scr.nil : Scr [] := ⟨fun x hx => by simp at hx, trivial, fun x hx => by simp at hx⟩
end Go.Proofs.Ytadafplbgophfaa.PA
end
section
namespace Go.Proofs.Ytadafplbgophfaa.PA
set_option linter.unusedSimpArgs false
set_option linter.unusedVariables false
open Go.RowKit Go.Proofs.YtadafplbgophfaaW.PrintWords Go.Proofs.YtadafplbgophfaaW.PrintLast Go.Proofs.YtadafplbgophfaaW.PrintMore
open Jdg
theorem grow_mem (kn : List (List UInt8)) (s : ByteArray) : s.data.toList ∈ grow kn s := by unfold grow; split <;> simp_all
theorem grow_idx (kn : List (List UInt8)) (s : ByteArray) : (grow kn s).idxOf s.data.toList = kn.idxOf s.data.toList := by
  unfold grow
  split
  · rfl
  · rename_i h
    rw [List.idxOf_append, if_neg h, List.idxOf_eq_length h]; simp
theorem grow_ext (kn : List (List UInt8)) (s : ByteArray) : ∃ e, grow kn s = kn ++ e := by
  unfold grow
  split
  · exact ⟨[], by simp⟩
  · exact ⟨_, rfl⟩
theorem numFile_spec : ∀ (f : List ByteArray) (kn : List (List UInt8)), (∃ e, (numFile kn f).2 = kn ++ e) ∧ (∀ s ∈ f, s.data.toList ∈ (numFile kn f).2) ∧ (numFile kn f).1 = f.map (fun s => ((numFile kn f).2.idxOf s.data.toList : Int))
  | [], kn => ⟨⟨[], by simp [numFile]⟩, fun s hs => by simp at hs, rfl⟩
  | s :: f, kn => by
    obtain ⟨⟨e, h1⟩, h2, h3⟩ := numFile_spec f (grow kn s)
    obtain ⟨e', hg⟩ := grow_ext kn s
    refine ⟨⟨e' ++ e, ?_⟩, ?_, ?_⟩
    · simp only [numFile]; rw [h1, hg, List.append_assoc]
    · intro u hu
      simp only [numFile]
      rcases List.mem_cons.1 hu with rfl | hu
      · rw [h1]; exact List.mem_append_left _ (grow_mem kn u)
      · exact h2 u hu
    · simp only [numFile, List.map_cons]
      rw [← h3]
      congr 1
      rw [h1, List.idxOf_append, if_pos (grow_mem kn s), grow_idx]
theorem idx_inj {K : List (List UInt8)} {s u : List UInt8} (hs : s ∈ K) (hu : u ∈ K) (h : K.idxOf s = K.idxOf u) : s = u := by
  have h1 := List.getElem_idxOf (List.idxOf_lt_length_of_mem hs)
  have h2 := List.getElem_idxOf (List.idxOf_lt_length_of_mem hu)
  rw [← h1, ← h2]
  simp only [h]
theorem numFile_len1 (f : List ByteArray) (kn : List (List UInt8)) : (numFile kn f).1.length = f.length := by rw [(numFile_spec f kn).2.2, List.length_map]
theorem rd_numFile (f : List ByteArray) (kn : List (List UInt8)) {i : Int} (h0 : 0 ≤ i) (h1 : i < f.length) : rd (numFile kn f).1 i = ((numFile kn f).2.idxOf (rdOf ByteArray.empty f i).data.toList : Int) := by
  have hlt : i.toNat < f.length := by omega
  rw [(numFile_spec f kn).2.2]
  simp [rd, rdOf, List.getD_eq_getElem?_getD, hlt]
theorem kn_at {K : List ByteArray} {j : Nat} (h : j < K.length) : (K.map (·.data.toList))[j]'(by simpa using h) = K[j].data.toList := by simp
theorem rnum_l2 {x0 : List (List ByteArray)} {x4 : List (List Int)} {x6 : List Int} {f K : List ByteArray} {s : ByteArray} {i j n : Nat} {r : List (List Int)} (hi : i < x0.length) (hf : rd_L7 x0 (i : Int) = f) (hj : j < f.length) (hs : rdOf ByteArray.empty f (j : Int) = s)
    (hK : K.length ≤ 1000000000) (h6 : x6.length ≤ 1000000000) (hjb : j ≤ 1000000000) (hn : n = (K.map (·.data.toList)).idxOf s.data.toList)
    (hgo : Ev (fun k => J28_.l1 k x0 (if n < K.length then K else K ++ [s]) x4 i (x6 ++ [(n : Int)]) ((j + 1 : Nat) : Int)) r) : Ev (fun k => J28_.l2 k x0 K x4 i x6 j (0 : Nat)) r := by
  have c1 : (0 : Int) ≤ (i : Int) := by omega
  have c2 : (i : Int) < (x0.length : Int) := by omega
  have c3 : (0 : Int) ≤ (j : Int) := by omega
  have c4 : (j : Int) < (f.length : Int) := by omega
  have c5 : x6.length < 17592186044416 := by omega
  have c6 : K.length < 8796093022208 := by omega
  have hle : n ≤ K.length := by rw [hn]; simpa using List.idxOf_le_length (l := K.map (·.data.toList)) (a := s.data.toList)
  refine Ev.down (P := fun m => Ev (fun k => J28_.l2 k x0 K x4 i x6 j (m : Int)) r) n ?_ ?_
  · refine Ev.step (fun k => ?_) hgo
    by_cases hlt : n < K.length
    · have e : K[n] = s := by
        refine data_eq.1 ?_
        rw [← kn_at hlt]
        simp only [hn]
        exact List.getElem_idxOf _
      have e2 : rdOf ByteArray.empty K (n : Int) = s := by simp [rdOf, List.getD_eq_getElem?_getD, hlt, e]
      rw [if_pos hlt]
      simp only [J28_.l2]
      rw [if_pos (by omega), if_pos (by omega), if_pos c1, if_pos c2, if_pos c3, hf, if_pos c4, e2, hs, if_pos rfl, if_neg (by omega), if_pos c5, next64 (by omega)]
    · obtain rfl : n = K.length := by omega
      rw [if_neg hlt]
      simp only [J28_.l2]
      rw [if_neg (by omega), if_pos trivial, if_pos c1, if_pos c2, if_pos c3, hf, if_pos c4, if_pos c6, if_pos c5, hs, next64 (by omega)]
  · intro m hm h
    have hlt : m < K.length := by omega
    have hne : K[m] ≠ s := by
      intro e
      have h1 : m < (K.map (·.data.toList)).findIdx (· == s.data.toList) := by rw [hn] at hm; exact hm
      have h2 := List.not_of_lt_findIdx h1
      simp [e] at h2
    refine Ev.step (fun k => ?_) h
    have e2 : rdOf ByteArray.empty K (m : Int) = K[m] := by simp [rdOf, List.getD_eq_getElem?_getD, hlt]
    simp only [J28_.l2]
    rw [if_pos (by omega), if_pos (by omega), if_pos c1, if_pos c2, if_pos c3, hf, if_pos c4, e2, hs, if_neg (fun h => hne (str_eq.1 h)), next64 (by omega)]
theorem growB {K : List ByteArray} {s : ByteArray} : ((if (K.map (·.data.toList)).idxOf s.data.toList < K.length then K else K ++ [s]).map (·.data.toList)) = grow (K.map (·.data.toList)) s := by
  unfold grow
  by_cases h : s.data.toList ∈ K.map (·.data.toList)
  · rw [if_pos h, if_pos (by have := List.idxOf_lt_length_of_mem h; simpa using this)]
  · rw [if_neg h, if_neg (by rw [List.idxOf_eq_length h]; simp)]; simp
theorem rnum_l1 {x0 : List (List ByteArray)} {x4 : List (List Int)} {f : List ByteArray} {i : Nat} {r : List (List Int)} (hi : i < x0.length) (hf : rd_L7 x0 (i : Int) = f) (hfl : f.length ≤ 1000000) (h4 : x4.length ≤ 1000000) (hib : i ≤ 1000000) :
    ∀ (d j : Nat) (K : List ByteArray) (x6 : List Int), f.length - j ≤ d → j ≤ f.length → K.length + (f.length - j) ≤ 10000000 → x6.length = j →
      (∀ K' : List ByteArray, K'.map (·.data.toList) = (numFile (K.map (·.data.toList)) (f.drop j)).2 → Ev (fun k => J28_.l0 k x0 K' (x4 ++ [x6 ++ (numFile (K.map (·.data.toList)) (f.drop j)).1]) ((i + 1 : Nat) : Int)) r) →
      Ev (fun k => J28_.l1 k x0 K x4 i x6 j) r := by
  have fin : ∀ (K : List ByteArray) (x6 : List Int), (∀ K' : List ByteArray, K'.map (·.data.toList) = (numFile (K.map (·.data.toList)) (f.drop f.length)).2 → Ev (fun k => J28_.l0 k x0 K' (x4 ++ [x6 ++ (numFile (K.map (·.data.toList)) (f.drop f.length)).1]) ((i + 1 : Nat) : Int)) r) →
      Ev (fun k => J28_.l1 k x0 K x4 i x6 (f.length : Nat)) r := by
    intro K x6 h
    have h := h K (by rw [List.drop_length]; rfl)
    rw [List.drop_length] at h
    simp only [numFile, List.append_nil] at h
    refine Ev.step (fun k => ?_) h
    simp only [J28_.l1]
    rw [if_pos (by omega), if_pos (by omega), hf, if_neg (by omega), if_pos (by omega), next64 (by omega)]
  intro d
  induction d with
  | zero => intro j K x6 h1 h2 h3 h5 h; obtain rfl : j = f.length := by omega
            exact fin K x6 h
  | succ d ih =>
    intro j K x6 h1 h2 h3 h5 h
    by_cases hj : j < f.length
    · have hs : rdOf ByteArray.empty f (j : Int) = f[j] := by simp [rdOf, List.getD_eq_getElem?_getD, hj]
      have hgl : (if (K.map (·.data.toList)).idxOf f[j].data.toList < K.length then K else K ++ [f[j]]).length ≤ K.length + 1 := by split <;> simp
      have hih := ih (j + 1) (if (K.map (·.data.toList)).idxOf f[j].data.toList < K.length then K else K ++ [f[j]]) (x6 ++ [(((K.map (·.data.toList)).idxOf f[j].data.toList : Nat) : Int)]) (by omega) (by omega) (by omega) (by simp [h5]) (by
        intro K' hK'
        rw [List.drop_eq_getElem_cons hj] at h
        rw [growB] at hK'
        have := h K' hK'
        rw [growB]
        simp only [numFile] at this
        rw [List.append_assoc]
        exact this)
      refine Ev.step (fun k => ?_) (rnum_l2 (x4 := x4) (x6 := x6) (K := K) hi hf hj hs (by omega) (by omega) (by omega) rfl hih)
      simp only [J28_.l1]
      rw [if_pos (by omega), if_pos (by omega), hf, if_pos (by omega)]; rfl
    · obtain rfl : j = f.length := by omega
      exact fin K x6 h
theorem rnum_ok (fs : List (List ByteArray)) (hl : fs.length ≤ 1000000) (ht : texts fs ≤ 1000000) : Ev (fun k => J28_.f k fs) (numAll [] fs) := by
  have key : ∀ (d i : Nat) (K : List ByteArray) (x4 : List (List Int)), fs.length - i ≤ d → i ≤ fs.length → x4.length = i → K.length + texts (fs.drop i) ≤ 1000000 → Ev (fun k => J28_.l0 k fs K x4 i) (x4 ++ numAll (K.map (·.data.toList)) (fs.drop i)) := by
    have fin : ∀ (K : List ByteArray) (x4 : List (List Int)), Ev (fun k => J28_.l0 k fs K x4 (fs.length : Nat)) (x4 ++ numAll (K.map (·.data.toList)) (fs.drop fs.length)) := by
      intro K x4
      refine Ev.step (f := fun _ => some (x4 ++ numAll (K.map (·.data.toList)) (fs.drop fs.length))) (fun k => ?_) (Ev.now _)
      simp only [J28_.l0]
      rw [if_neg (by omega), List.drop_length]; simp [numAll]
    intro d
    induction d with
    | zero => intro i K x4 h1 h2 h3 h4; obtain rfl : i = fs.length := by omega
              exact fin K x4
    | succ d ih =>
      intro i K x4 h1 h2 h3 h4
      by_cases hi : i < fs.length
      · have hf : rd_L7 fs (i : Int) = fs[i] := by simp [rd_L7, List.getD_eq_getElem?_getD, hi]
        rw [List.drop_eq_getElem_cons hi] at h4
        simp only [texts] at h4
        refine Ev.step (fun k => ?_) (rnum_l1 (x4 := x4) hi hf (by omega) (by omega) (by omega) fs[i].length 0 K [] (by omega) (by omega) (by omega) rfl ?_)
        · simp only [J28_.l0]
          rw [if_pos (by omega)]; rfl
        · intro K' hK'
          rw [List.drop_zero] at hK' ⊢
          have hkl := numFile_len fs[i] (K.map (·.data.toList))
          rw [← hK', List.length_map, List.length_map] at hkl
          have := ih (i + 1) K' (x4 ++ [(numFile (K.map (·.data.toList)) fs[i]).1]) (by omega) (by omega) (by simp [h3]) (by omega)
          rw [List.drop_eq_getElem_cons hi]
          simp only [numAll]
          rw [hK', List.append_assoc] at this
          exact this
      · obtain rfl : i = fs.length := by omega
        exact fin K x4
  exact key fs.length 0 [] [] (by omega) (by omega) rfl (by simp; omega)
end Go.Proofs.Ytadafplbgophfaa.PA
end
section
namespace Go.Proofs.Ytadafplbgophfaa.PA
set_option linter.unusedSimpArgs false
set_option linter.unusedVariables false
open Go.RowKit Go.Proofs.YtadafplbgophfaaW.PrintWords Go.Proofs.YtadafplbgophfaaW.PrintLast Go.Proofs.YtadafplbgophfaaW.PrintMore
namespace Chk
structure Pos (base left right o a b : Int) : Prop where
  o0 : 0 ≤ o
  o1 : o ≤ base
  a0 : 0 ≤ a
  a1 : a ≤ left
  b0 : 0 ≤ b
  b1 : b ≤ right
def At (f g : Int → Int) (base o a b : Int) : Prop := o < base ∧ f o = a ∧ g o = b
structure IsRun (f g : Int → Int) (base o a b n : Int) : Prop where
  n0 : 0 ≤ n
  all : ∀ i, 0 ≤ i → i < n → At f g base (o + i) (a + i) (b + i)
  stop : ¬ At f g base (o + n) (a + n) (b + n)
structure IsNxt (f g : Int → Int) (base o a b t : Int) : Prop where
  t0 : o ≤ t
  t1 : t ≤ base
  all : ∀ i, o ≤ i → i < t → f i < a ∨ g i < b
  stop : t < base → a ≤ f t ∧ b ≤ g t
def More (base left right o a b : Int) : Prop := o < base ∨ a < left ∨ b < right
inductive Sw (f g : Int → Int) (base left right : Int) : Int → Int → Int → List S81 → Prop
  | done (o a b : Int) : Pos base left right o a b → ¬ More base left right o a b → Sw f g base left right o a b []
  | run (o a b n : Int) (cs : List S81) : Pos base left right o a b → More base left right o a b → IsRun f g base o a b n → 0 < n → Sw f g base left right (o + n) (a + n) (b + n) cs →
      Sw f g base left right o a b (⟨true, ⟨o, o + n⟩, ⟨a, a + n⟩, ⟨b, b + n⟩⟩ :: cs)
  | gap (o a b t : Int) (cs : List S81) : Pos base left right o a b → More base left right o a b → IsRun f g base o a b 0 → IsNxt f g base o a b t → t < base → Sw f g base left right t (f t) (g t) cs →
      Sw f g base left right o a b (⟨false, ⟨o, t⟩, ⟨a, f t⟩, ⟨b, g t⟩⟩ :: cs)
  | last (o a b : Int) : Pos base left right o a b → More base left right o a b → IsRun f g base o a b 0 → IsNxt f g base o a b base →
      Sw f g base left right o a b [⟨false, ⟨o, base⟩, ⟨a, left⟩, ⟨b, right⟩⟩]
theorem run_is (f g : Int → Int) (base : Int) : ∀ (d : Nat) (o a b : Int), base - o ≤ d → ∃ n, IsRun f g base o a b n
  | 0, o, a, b, h => ⟨0, Int.le_refl _, fun i h0 h1 => by omega, fun hA => by have := hA.1; omega⟩
  | d + 1, o, a, b, h => by
    by_cases hA : At f g base o a b
    · obtain ⟨n, hn⟩ := run_is f g base d (o + 1) (a + 1) (b + 1) (by omega)
      refine ⟨n + 1, by have := hn.n0; omega, fun i h0 h1 => ?_, ?_⟩
      · by_cases hi : i = 0
        · subst hi
          rw [Int.add_zero, Int.add_zero, Int.add_zero]; exact hA
        · have := hn.all (i - 1) (by omega) (by omega)
          rw [show o + 1 + (i - 1) = o + i by omega, show a + 1 + (i - 1) = a + i by omega, show b + 1 + (i - 1) = b + i by omega] at this
          exact this
      · have := hn.stop
        rw [show o + 1 + n = o + (n + 1) by omega, show a + 1 + n = a + (n + 1) by omega, show b + 1 + n = b + (n + 1) by omega] at this
        exact this
    · exact ⟨0, Int.le_refl _, fun i h0 h1 => by omega, by rw [Int.add_zero, Int.add_zero, Int.add_zero]; exact hA⟩
theorem nxt_is (f g : Int → Int) (base a b : Int) : ∀ (d : Nat) (o : Int), base - o ≤ d → o ≤ base → ∃ t, IsNxt f g base o a b t
  | 0, o, h, h2 => ⟨o, Int.le_refl _, h2, fun i h0 h1 => by omega, fun h => by omega⟩
  | d + 1, o, h, h2 => by
    by_cases hA : o < base ∧ (f o < a ∨ g o < b)
    · obtain ⟨t, ht⟩ := nxt_is f g base a b d (o + 1) (by omega) (by omega)
      refine ⟨t, by have := ht.t0; omega, ht.t1, fun i h0 h1 => ?_, ht.stop⟩
      by_cases hi : i = o
      · subst hi; exact hA.2
      · exact ht.all i (by omega) h1
    · refine ⟨o, Int.le_refl _, h2, fun i h0 h1 => by omega, fun h => ?_⟩
      constructor
      · by_cases h3 : a ≤ f o
        · exact h3
        · exact absurd ⟨h, .inl (by omega)⟩ hA
      · by_cases h3 : b ≤ g o
        · exact h3
        · exact absurd ⟨h, .inr (by omega)⟩ hA
theorem IsRun.pos {f g : Int → Int} {base left right o a b n : Int} (h : IsRun f g base o a b n) (hp : Pos base left right o a b) (hf : ∀ i, f i < left) (hg : ∀ i, g i < right) : Pos base left right (o + n) (a + n) (b + n) := by
  obtain ⟨o0, o1, a0, a1, b0, b1⟩ := hp
  have n0 := h.n0
  by_cases hn : n = 0
  · subst hn
    exact ⟨by omega, by omega, by omega, by omega, by omega, by omega⟩
  · obtain ⟨x, y, z⟩ := h.all (n - 1) (by omega) (by omega)
    have u := hf (o + (n - 1))
    have v := hg (o + (n - 1))
    exact ⟨by omega, by omega, by omega, by omega, by omega, by omega⟩
theorem sw_is (f g : Int → Int) (base left right : Int) (hf : ∀ i, f i < left) (hg : ∀ i, g i < right) : ∀ (d : Nat) (o a b : Int), (base - o) + (left - a) + (right - b) ≤ d → Pos base left right o a b → ∃ cs, Sw f g base left right o a b cs ∧ cs.length ≤ d
  | d, o, a, b, hd, hp => by
    obtain ⟨o0, o1, a0, a1, b0, b1⟩ := id hp
    by_cases hm : More base left right o a b
    · have hd1 : 1 ≤ d := by rcases hm with h | h | h <;> omega
      obtain ⟨n, hn⟩ := run_is f g base (base - o).toNat o a b (by omega)
      by_cases h0 : n = 0
      · subst h0
        obtain ⟨t, ht⟩ := nxt_is f g base a b (base - o).toNat o (by omega) o1
        by_cases hb : t < base
        · have hp2 : Pos base left right t (f t) (g t) := by
            obtain ⟨x, y⟩ := ht.stop hb
            have u := hf t
            have v := hg t
            have w := ht.t0
            exact ⟨by omega, by omega, by omega, by omega, by omega, by omega⟩
          obtain ⟨cs, h1, h2⟩ := sw_is f g base left right hf hg (d - 1) t (f t) (g t) (by
            obtain ⟨x, y⟩ := ht.stop hb
            have u := hf t
            have v := hg t
            have w := ht.t0
            have z : ¬ (t = o ∧ f t = a ∧ g t = b) := fun ⟨e1, e2, e3⟩ => by
              subst e1
              refine hn.stop ?_
              rw [Int.add_zero, Int.add_zero, Int.add_zero]
              exact ⟨hb, e2, e3⟩
            omega) hp2
          exact ⟨_, .gap o a b t cs hp hm hn ht hb h1, by rw [List.length_cons]; omega⟩
        · have : t = base := by have := ht.t1; omega
          subst this
          exact ⟨_, .last o a b hp hm hn ht, by simpa using hd1⟩
      · have n0 := hn.n0
        obtain ⟨cs, h1, h2⟩ := sw_is f g base left right hf hg (d - 1) (o + n) (a + n) (b + n) (by omega) (hn.pos hp hf hg)
        exact ⟨_, .run o a b n cs hp hm hn (by omega) h1, by rw [List.length_cons]; omega⟩
    · exact ⟨[], .done o a b hp hm, by simp⟩
termination_by d => d
decreasing_by all_goals omega
theorem Sw.pos {f g : Int → Int} {base left right o a b : Int} {cs : List S81} (h : Sw f g base left right o a b cs) : Pos base left right o a b := by
  cases h <;> assumption
end Chk
end Go.Proofs.Ytadafplbgophfaa.PA
end
section
namespace Go.Proofs.Ytadafplbgophfaa.PA
open Go.RowKit Go.Proofs.YtadafplbgophfaaW.PrintWords Go.Proofs.YtadafplbgophfaaW.PrintLast Go.Proofs.YtadafplbgophfaaW.PrintMore
attribute [local go_sem] max2_int min2_int max_two min_two max_three min_three max_four min_four   -- for this text's walks alone
set_option linter.unusedVariables false
set_option linter.unusedSimpArgs false
def IsS150 (w0 W : World) (g : Nat) (f0 : List Int) (f1 : List Int) (f2 : Int) (f3 : Int) (f4 : Int) : Prop := ∃ A0 c0, ∃ A1 c1, W.heap[g]? = some (.cells #[.slice A0 f0.length c0, .slice A1 f1.length c1, .int .i64 f2, .int .i64 f3, .int .i64 f4] 150 (0, 0)) ∧ w0.heap.size ≤ g ∧ Kd.C (Kd.int .i64) w0 A0 f0.length f0 ∧ Kd.C (Kd.int .i64) w0 A1 f1.length f1
theorem IsS150.grown {w0 W : World} {g : Nat} {f0 : List Int} {f1 : List Int} {f2 : Int} {f3 : Int} {f4 : Int} {W1 : World} {row : Option Nat} (h : IsS150 w0 W g f0 f1 f2 f3 f4) (hw : W.grownBy W1 row) (hne : some g ≠ row) : IsS150 w0 W1 g f0 f1 f2 f3 f4 := by
 obtain ⟨A0, c0, A1, c1, hb, hg, hr0, hr1⟩ := h
 exact ⟨A0, c0, A1, c1, blk_grown hb hw hne, hg, hr0, hr1⟩
theorem IsS150.fresh {w0 W : World} {g : Nat} {f0 : List Int} {f1 : List Int} {f2 : Int} {f3 : Int} {f4 : Int} (h : IsS150 w0 W g f0 f1 f2 f3 f4) : ∀ k, W.heap.size ≤ k → k ≠ g := by
 obtain ⟨A0, c0, A1, c1, hb, hg, hr0, hr1⟩ := h
 exact Kd.freshB hb
theorem IsS150.kept {w0 W : World} {g : Nat} {f0 : List Int} {f1 : List Int} {f2 : Int} {f3 : Int} {f4 : Int} {W1 : World} {S : Nat → Prop} (h : IsS150 w0 W g f0 f1 f2 f3 f4) (hk : Kept W W1 S) (hne : ¬ S g) : IsS150 w0 W1 g f0 f1 f2 f3 f4 := by
 obtain ⟨A0, c0, A1, c1, hb, hg, hr0, hr1⟩ := h
 exact ⟨A0, c0, A1, c1, blk_kept hb hk hne, hg, hr0, hr1⟩
theorem IsS150.below {w0 W : World} {g : Nat} {f0 : List Int} {f1 : List Int} {f2 : Int} {f3 : Int} {f4 : Int} {W1 : World} (h : IsS150 w0 W g f0 f1 f2 f3 f4) (hw : Below W.heap.size W W1) : IsS150 w0 W1 g f0 f1 f2 f3 f4 := h.grown (grown_of_below hw none) (by simp)
theorem IsS150.alloc {w0 W : World} {g : Nat} {f0 : List Int} {f1 : List Int} {f2 : Int} {f3 : Int} {f4 : Int} (h : IsS150 w0 W g f0 f1 f2 f3 f4) (o : Obj) : IsS150 w0 (W.alloc o) g f0 f1 f2 f3 f4 := h.below (Ja43_ (Below.refl _ _) o)
theorem IsS150.drewN {w0 W : World} {g : Nat} {f0 : List Int} {f1 : List Int} {f2 : Int} {f3 : Int} {f4 : Int} (h : IsS150 w0 W g f0 f1 f2 f3 f4) (m : Nat) : IsS150 w0 (W.drewN m) g f0 f1 f2 f3 f4 := h
theorem IsS150.drew {w0 W : World} {g : Nat} {f0 : List Int} {f1 : List Int} {f2 : Int} {f3 : Int} {f4 : Int} (h : IsS150 w0 W g f0 f1 f2 f3 f4) : IsS150 w0 W.drew g f0 f1 f2 f3 f4 := h
theorem IsS150.at_ {w0 W : World} {g : Nat} {f0 : List Int} {f1 : List Int} {f2 : Int} {f3 : Int} {f4 : Int} {w' : World} {m : Nat} (hq : W.drewN m = w') (h : IsS150 w0 W g f0 f1 f2 f3 f4) : IsS150 w0 w' g f0 f1 f2 f3 f4 := by subst hq; exact IsS150.drewN h m
theorem IsS150.apart {w0 W : World} {g : Nat} {f0 : List Int} {f1 : List Int} {f2 : Int} {f3 : Int} {f4 : Int} {α : Type} {d : Kd α} {e : Nat} {base : Nat} {ok : Nat → Prop} {v : Value} {xs : List α} (h : IsS150 w0 W g f0 f1 f2 f3 f4) (ho : d.R e W base ok v xs) (ht : ∀ q, q ∈ e :: d.E → q ≠ 150) : d.R e W base (fun k => ok k ∧ k ≠ g) v xs := by
 obtain ⟨A0, c0, A1, c1, hb, hg, hr0, hr1⟩ := h
 exact Kd.R_types ho hb ht
theorem IsS150.own_ne {w0 W : World} {g : Nat} {f0 : List Int} {f1 : List Int} {f2 : Int} {f3 : Int} {f4 : Int} {α : Type} {d : Kd α} {e : Nat} {base : Nat} {ok : Nat → Prop} {v : Value} {xs : List α} (h : IsS150 w0 W g f0 f1 f2 f3 f4) (ho : d.R e W base ok v xs) (ht : e ≠ 150) : some g ≠ v.ownBlock := by
 obtain ⟨A0, c0, A1, c1, hb, hg, hr0, hr1⟩ := h
 exact Kd.R_ne ho hb ht
theorem IsS150.lt {w0 W : World} {g : Nat} {f0 : List Int} {f1 : List Int} {f2 : Int} {f3 : Int} {f4 : Int} (h : IsS150 w0 W g f0 f1 f2 f3 f4) : g < W.heap.size := by
 obtain ⟨A0, c0, A1, c1, hb, hg, hr0, hr1⟩ := h
 exact blk_lt hb
theorem IsS150.ge {w0 W : World} {g : Nat} {f0 : List Int} {f1 : List Int} {f2 : Int} {f3 : Int} {f4 : Int} (h : IsS150 w0 W g f0 f1 f2 f3 f4) : w0.heap.size ≤ g := by
 obtain ⟨A0, c0, A1, c1, hb, hg, hr0, hr1⟩ := h
 exact hg
theorem IsS150.far {w0 W : World} {g : Nat} {f0 : List Int} {f1 : List Int} {f2 : Int} {f3 : Int} {f4 : Int} {p : Addr} (h : IsS150 w0 W g f0 f1 f2 f3 f4) (hne : g ≠ p.block) (u : Value) : IsS150 w0 (W.setCell p u) g f0 f1 f2 f3 f4 := by
 obtain ⟨A0, c0, A1, c1, hb, hg, hr0, hr1⟩ := h
 exact ⟨A0, c0, A1, c1, blk_far hb hne u, hg, hr0, hr1⟩
end Go.Proofs.Ytadafplbgophfaa.PA
end
section
namespace Go.Proofs.Ytadafplbgophfaa.PA
open Go.RowKit Go.Proofs.YtadafplbgophfaaW.PrintWords Go.Proofs.YtadafplbgophfaaW.PrintLast Go.Proofs.YtadafplbgophfaaW.PrintMore
attribute [local go_sem] max2_int min2_int max_two min_two max_three min_three max_four min_four   -- for this text's walks alone
set_option linter.unusedVariables false
set_option linter.unusedSimpArgs false
def J37_.l0 : Nat → Int → Int → List (S37) → Int → Option (Bool)
 | 0, _, _, _, _ => none
 | k + 1, x0, x1, x2, x7 => if x7 < (x2.length : Int) then (if 0 ≤ x7 then (if ((rd_T37 x2 x7).f0) < 0 then (some false) else (if ((rd_T37 x2 x7).f0) ≥ x0 then (some false) else (if ((rd_T37 x2 x7).f1) < 0 then (some false) else (if ((rd_T37 x2 x7).f1) ≥ x1 then (some false) else (if x7 > 0 then (if 0 ≤ (wrap64 (x7 - 1)) then (if (wrap64 (x7 - 1)) < (x2.length : Int) then (if ((rd_T37 x2 (wrap64 (x7 - 1))).f0) ≥ ((rd_T37 x2 x7).f0) then (some false) else (if ((rd_T37 x2 (wrap64 (x7 - 1))).f1) ≥ ((rd_T37 x2 x7).f1) then (some false) else (J37_.l0 k x0 x1 x2 (wrap64 (x7 + 1))))) else (none)) else (none)) else (J37_.l0 k x0 x1 x2 (wrap64 (x7 + 1)))))))) else (none)) else (some true)
def J37_.f (k : Nat) (a0 : Int) (a1 : Int) (l2 : List (S37)) : Option (Bool) := J37_.l0 k a0 a1 l2 0
set_option maxHeartbeats 8000000 in
set_option maxRecDepth 100000 in
theorem J37_.calls (k : Nat) (a0 : Int) (a1 : Int) (A2 : Option Addr) (c2 : Nat) (l2 : List (S37)) (r : Bool) (w : World) (hr2 : Kd.C k37 w A2 l2.length l2) (hc2 : l2.length ≤ c2) (h : J37_.f k a0 a1 l2 = some r) :
  Calls Try.prog 94 #[.int .i64 a0, .int .i64 a1, .slice A2 l2.length c2] w fun e w' => e = .returned (.bool r) ∧ Below w.heap.size w w' := by
 have hu37 := Try.underlying37
 have HR2 := Ja38_.mk hr2
 have HC2 := Ja38_.mk hc2
 clear hr2 hc2
 have HB := Ja38_.mk (Below.refl w.heap.size w)
 have H : (J37_.l0 k a0 a1 l2 0) = some r := h
 clear h
 have H' := Ja38_.mk H
 clear H
 go_enter Try.func94, Try.ntmps94
 go_wp2
 repeat (go_quiet (fail); try go_wp2)
 go_loopg [7] k (fun kq v7 w' => ∃ (x7_1 : Int), v7 = .int .i64 x7_1 ∧ Ja38_ (J37_.l0 kq a0 a1 l2 x7_1 = some r) ∧ Ja38_ (kq ≤ k) ∧ Ja38_ (Below w.heap.size w w'))
 case atStart => exact ⟨(0), (by first | rfl | (simp; done) | (simp [*]; done)), H', ⟨Nat.le_refl _⟩, ⟨by repeat (first | (with_reducible first | exact HB.out | apply Ja43_ | apply Ja41_ | apply Ja42_) | exact HB.out)⟩⟩
 case round =>
  clear H'
  try clear c2
  try clear p2
  obtain ⟨x7_1, rfl, HA, HK1, HB⟩ := hrel
  cases gk with
  | zero => exact absurd HA.out (by simp [J37_.l0])
  | succ k1 =>
   have H := HA.out
   clear HA
   simp only [J37_.l0] at H
   by_cases c4 : x7_1 < (l2.length : Int)
   ·rw [if_pos c4] at H
    have c4b0 : decide (x7_1 < (l2.length : Int)) = true := decide_eq_true c4
    clear c4
    by_cases c5 : 0 ≤ x7_1
    ·rw [if_pos c5] at H
     have c5b0 : decide (0 ≤ x7_1) = true := decide_eq_true c5
     clear c5
     by_cases c6 : ((rd_T37 l2 x7_1).f0) < 0
     ·rw [if_pos c6] at H
      have c6b0 : decide (((rd_T37 l2 x7_1).f0) < 0) = true := decide_eq_true c6
      clear c6
      obtain rfl := Option.some.inj H
      have p101 : 0 ≤ (x7_1 : Int) := of_decide_eq_true (by first | (with_reducible assumption) | assumption)
      have q101 : x7_1 < (l2.length : Int) := of_decide_eq_true (by first | (with_reducible assumption) | assumption)
      obtain ⟨ad101, e101, hx101_0, hx101_1⟩ := at_T37 HR2.out x7_1 p101 q101
      cases e101
      replace hx101_0 := (HB.out.cell (World.block_lt_of_cell? w _ hx101_0)).trans hx101_0
      replace hx101_1 := (HB.out.cell (World.block_lt_of_cell? w _ hx101_1)).trans hx101_1
      replace p101 := eq_true p101
      replace q101 := eq_true q101
      go_wp2_with (first | ((with_reducible refine gate_dst (N := 8) rfl ?_); refine box_event ?hg (N := 8) ?hd (cs := #[.int .i64 0, .int .i64 0]) (t := 37) ?hr ?_; (case hd => rfl); (case hg => rfl); (case hr => first | (go_simp; done) | (go_simp; rfl)); intro gb102 hg w7 hbox hb; have n0_ := Ja38_.mk (Ja44_ (by repeat (first | (with_reducible first | exact HB.out | apply Ja43_ | apply Ja41_ | apply Ja42_) | exact HB.out)) hb); have n1_ := Ja38_.mk (hbox); have n2_ := Ja38_.mk ((by rw [hg]; exact (Ja45_ (by repeat (first | (with_reducible first | exact HB.out | apply Ja43_ | apply Ja41_ | apply Ja42_) | exact HB.out))) : w.heap.size ≤ gb102)); have n3_ := Ja38_.mk ((by rw [hg]; exact (Ja45_ (by repeat (first | (with_reducible first | exact HB.out | apply Ja43_ | apply Ja41_ | apply Ja42_) | exact HB.out))) : w.heap.size ≤ gb102)); clear HB; have HB := n0_; have BK102 := n1_; have GW102 := n2_; have GE102 := n3_; clear n0_ n1_ n2_ n3_; clear hb hbox hg; have hcz8_0 : w7.cell? ⟨gb102, 0, none⟩ = some (.int .i64 0) := (Ja39_ BK102.out 0).trans rfl; have hcz8_1 : w7.cell? ⟨gb102, 1, none⟩ = some (.int .i64 0) := (Ja39_ BK102.out 1).trans rfl; have hfz8_0 := Ja40_ BK102.out 0; have hfz8_1 := Ja40_ BK102.out 1))
      repeat (go_quiet (fail); try go_wp2_with fail)
      go_ret
      exact ⟨by first | rfl | (simp [errW_none, errW_some] <;> rfl) | (simp [*, errW_none, errW_some] <;> rfl), by repeat (first | (with_reducible first | exact HB.out | apply Ja43_ | apply Ja41_ | apply Ja42_ | refine Ja46_ ?_ GE102.out) | exact HB.out)⟩
     ·rw [if_neg c6] at H
      have c6b0 : decide (((rd_T37 l2 x7_1).f0) < 0) = false := decide_eq_false c6
      clear c6
      by_cases c9 : ((rd_T37 l2 x7_1).f0) ≥ a0
      ·rw [if_pos c9] at H
       have c9b0 : decide (a0 ≤ ((rd_T37 l2 x7_1).f0)) = true := decide_eq_true c9
       clear c9
       obtain rfl := Option.some.inj H
       have p101 : 0 ≤ (x7_1 : Int) := of_decide_eq_true (by first | (with_reducible assumption) | assumption)
       have q101 : x7_1 < (l2.length : Int) := of_decide_eq_true (by first | (with_reducible assumption) | assumption)
       obtain ⟨ad101, e101, hx101_0, hx101_1⟩ := at_T37 HR2.out x7_1 p101 q101
       cases e101
       replace hx101_0 := (HB.out.cell (World.block_lt_of_cell? w _ hx101_0)).trans hx101_0
       replace hx101_1 := (HB.out.cell (World.block_lt_of_cell? w _ hx101_1)).trans hx101_1
       replace p101 := eq_true p101
       replace q101 := eq_true q101
       go_wp2_with (first | ((with_reducible refine gate_dst (N := 8) rfl ?_); refine box_event ?hg (N := 8) ?hd (cs := #[.int .i64 0, .int .i64 0]) (t := 37) ?hr ?_; (case hd => rfl); (case hg => rfl); (case hr => first | (go_simp; done) | (go_simp; rfl)); intro gb102 hg w10 hbox hb; have n0_ := Ja38_.mk (Ja44_ (by repeat (first | (with_reducible first | exact HB.out | apply Ja43_ | apply Ja41_ | apply Ja42_) | exact HB.out)) hb); have n1_ := Ja38_.mk (hbox); have n2_ := Ja38_.mk ((by rw [hg]; exact (Ja45_ (by repeat (first | (with_reducible first | exact HB.out | apply Ja43_ | apply Ja41_ | apply Ja42_) | exact HB.out))) : w.heap.size ≤ gb102)); have n3_ := Ja38_.mk ((by rw [hg]; exact (Ja45_ (by repeat (first | (with_reducible first | exact HB.out | apply Ja43_ | apply Ja41_ | apply Ja42_) | exact HB.out))) : w.heap.size ≤ gb102)); clear HB; have HB := n0_; have BK102 := n1_; have GW102 := n2_; have GE102 := n3_; clear n0_ n1_ n2_ n3_; clear hb hbox hg; have hcz11_0 : w10.cell? ⟨gb102, 0, none⟩ = some (.int .i64 0) := (Ja39_ BK102.out 0).trans rfl; have hcz11_1 : w10.cell? ⟨gb102, 1, none⟩ = some (.int .i64 0) := (Ja39_ BK102.out 1).trans rfl; have hfz11_0 := Ja40_ BK102.out 0; have hfz11_1 := Ja40_ BK102.out 1))
       repeat (go_quiet (fail); try go_wp2_with fail)
       go_ret
       exact ⟨by first | rfl | (simp [errW_none, errW_some] <;> rfl) | (simp [*, errW_none, errW_some] <;> rfl), by repeat (first | (with_reducible first | exact HB.out | apply Ja43_ | apply Ja41_ | apply Ja42_ | refine Ja46_ ?_ GE102.out) | exact HB.out)⟩
      ·rw [if_neg c9] at H
       have c9b0 : decide (a0 ≤ ((rd_T37 l2 x7_1).f0)) = false := decide_eq_false c9
       clear c9
       by_cases c12 : ((rd_T37 l2 x7_1).f1) < 0
       ·rw [if_pos c12] at H
        have c12b0 : decide (((rd_T37 l2 x7_1).f1) < 0) = true := decide_eq_true c12
        clear c12
        obtain rfl := Option.some.inj H
        have p101 : 0 ≤ (x7_1 : Int) := of_decide_eq_true (by first | (with_reducible assumption) | assumption)
        have q101 : x7_1 < (l2.length : Int) := of_decide_eq_true (by first | (with_reducible assumption) | assumption)
        obtain ⟨ad101, e101, hx101_0, hx101_1⟩ := at_T37 HR2.out x7_1 p101 q101
        cases e101
        replace hx101_0 := (HB.out.cell (World.block_lt_of_cell? w _ hx101_0)).trans hx101_0
        replace hx101_1 := (HB.out.cell (World.block_lt_of_cell? w _ hx101_1)).trans hx101_1
        replace p101 := eq_true p101
        replace q101 := eq_true q101
        go_wp2_with (first | ((with_reducible refine gate_dst (N := 8) rfl ?_); refine box_event ?hg (N := 8) ?hd (cs := #[.int .i64 0, .int .i64 0]) (t := 37) ?hr ?_; (case hd => rfl); (case hg => rfl); (case hr => first | (go_simp; done) | (go_simp; rfl)); intro gb102 hg w13 hbox hb; have n0_ := Ja38_.mk (Ja44_ (by repeat (first | (with_reducible first | exact HB.out | apply Ja43_ | apply Ja41_ | apply Ja42_) | exact HB.out)) hb); have n1_ := Ja38_.mk (hbox); have n2_ := Ja38_.mk ((by rw [hg]; exact (Ja45_ (by repeat (first | (with_reducible first | exact HB.out | apply Ja43_ | apply Ja41_ | apply Ja42_) | exact HB.out))) : w.heap.size ≤ gb102)); have n3_ := Ja38_.mk ((by rw [hg]; exact (Ja45_ (by repeat (first | (with_reducible first | exact HB.out | apply Ja43_ | apply Ja41_ | apply Ja42_) | exact HB.out))) : w.heap.size ≤ gb102)); clear HB; have HB := n0_; have BK102 := n1_; have GW102 := n2_; have GE102 := n3_; clear n0_ n1_ n2_ n3_; clear hb hbox hg; have hcz14_0 : w13.cell? ⟨gb102, 0, none⟩ = some (.int .i64 0) := (Ja39_ BK102.out 0).trans rfl; have hcz14_1 : w13.cell? ⟨gb102, 1, none⟩ = some (.int .i64 0) := (Ja39_ BK102.out 1).trans rfl; have hfz14_0 := Ja40_ BK102.out 0; have hfz14_1 := Ja40_ BK102.out 1))
        repeat (go_quiet (fail); try go_wp2_with fail)
        go_ret
        exact ⟨by first | rfl | (simp [errW_none, errW_some] <;> rfl) | (simp [*, errW_none, errW_some] <;> rfl), by repeat (first | (with_reducible first | exact HB.out | apply Ja43_ | apply Ja41_ | apply Ja42_ | refine Ja46_ ?_ GE102.out) | exact HB.out)⟩
       ·rw [if_neg c12] at H
        have c12b0 : decide (((rd_T37 l2 x7_1).f1) < 0) = false := decide_eq_false c12
        clear c12
        by_cases c15 : ((rd_T37 l2 x7_1).f1) ≥ a1
        ·rw [if_pos c15] at H
         have c15b0 : decide (a1 ≤ ((rd_T37 l2 x7_1).f1)) = true := decide_eq_true c15
         clear c15
         obtain rfl := Option.some.inj H
         have p101 : 0 ≤ (x7_1 : Int) := of_decide_eq_true (by first | (with_reducible assumption) | assumption)
         have q101 : x7_1 < (l2.length : Int) := of_decide_eq_true (by first | (with_reducible assumption) | assumption)
         obtain ⟨ad101, e101, hx101_0, hx101_1⟩ := at_T37 HR2.out x7_1 p101 q101
         cases e101
         replace hx101_0 := (HB.out.cell (World.block_lt_of_cell? w _ hx101_0)).trans hx101_0
         replace hx101_1 := (HB.out.cell (World.block_lt_of_cell? w _ hx101_1)).trans hx101_1
         replace p101 := eq_true p101
         replace q101 := eq_true q101
         go_wp2_with (first | ((with_reducible refine gate_dst (N := 8) rfl ?_); refine box_event ?hg (N := 8) ?hd (cs := #[.int .i64 0, .int .i64 0]) (t := 37) ?hr ?_; (case hd => rfl); (case hg => rfl); (case hr => first | (go_simp; done) | (go_simp; rfl)); intro gb102 hg w16 hbox hb; have n0_ := Ja38_.mk (Ja44_ (by repeat (first | (with_reducible first | exact HB.out | apply Ja43_ | apply Ja41_ | apply Ja42_) | exact HB.out)) hb); have n1_ := Ja38_.mk (hbox); have n2_ := Ja38_.mk ((by rw [hg]; exact (Ja45_ (by repeat (first | (with_reducible first | exact HB.out | apply Ja43_ | apply Ja41_ | apply Ja42_) | exact HB.out))) : w.heap.size ≤ gb102)); have n3_ := Ja38_.mk ((by rw [hg]; exact (Ja45_ (by repeat (first | (with_reducible first | exact HB.out | apply Ja43_ | apply Ja41_ | apply Ja42_) | exact HB.out))) : w.heap.size ≤ gb102)); clear HB; have HB := n0_; have BK102 := n1_; have GW102 := n2_; have GE102 := n3_; clear n0_ n1_ n2_ n3_; clear hb hbox hg; have hcz17_0 : w16.cell? ⟨gb102, 0, none⟩ = some (.int .i64 0) := (Ja39_ BK102.out 0).trans rfl; have hcz17_1 : w16.cell? ⟨gb102, 1, none⟩ = some (.int .i64 0) := (Ja39_ BK102.out 1).trans rfl; have hfz17_0 := Ja40_ BK102.out 0; have hfz17_1 := Ja40_ BK102.out 1))
         repeat (go_quiet (fail); try go_wp2_with fail)
         go_ret
         exact ⟨by first | rfl | (simp [errW_none, errW_some] <;> rfl) | (simp [*, errW_none, errW_some] <;> rfl), by repeat (first | (with_reducible first | exact HB.out | apply Ja43_ | apply Ja41_ | apply Ja42_ | refine Ja46_ ?_ GE102.out) | exact HB.out)⟩
        ·rw [if_neg c15] at H
         have c15b0 : decide (a1 ≤ ((rd_T37 l2 x7_1).f1)) = false := decide_eq_false c15
         clear c15
         by_cases c18 : x7_1 > 0
         ·rw [if_pos c18] at H
          have c18b0 : decide (0 < x7_1) = true := decide_eq_true c18
          clear c18
          obtain ⟨ji19, hji19⟩ : ∃ j_ : Int, (wrap64 (x7_1 - 1)) = j_ := ⟨_, rfl⟩
          replace H : (if 0 ≤ (ji19) then (if (ji19) < (l2.length : Int) then (if ((rd_T37 l2 (ji19)).f0) ≥ ((rd_T37 l2 x7_1).f0) then (some false) else (if ((rd_T37 l2 (ji19)).f1) ≥ ((rd_T37 l2 x7_1).f1) then (some false) else (J37_.l0 k1 a0 a1 l2 (wrap64 (x7_1 + 1))))) else (none)) else (none)) = some r := by first | (rw [hji19] at H; exact H) | (simp only [hji19] at H ⊢; exact H)
          have hji19w : (IntKind.i64.wrap (x7_1 - 1)) = ji19 := (i64_w _).trans hji19
          by_cases c20 : 0 ≤ (ji19)
          ·rw [if_pos c20] at H
           have c20b0 : decide (0 ≤ (ji19)) = true := decide_eq_true c20
           clear c20
           by_cases c21 : (ji19) < (l2.length : Int)
           ·rw [if_pos c21] at H
            have c21b0 : decide ((ji19) < (l2.length : Int)) = true := decide_eq_true c21
            clear c21
            by_cases c22 : ((rd_T37 l2 (ji19)).f0) ≥ ((rd_T37 l2 x7_1).f0)
            ·rw [if_pos c22] at H
             have c22b0 : decide (((rd_T37 l2 x7_1).f0) ≤ ((rd_T37 l2 (ji19)).f0)) = true := decide_eq_true c22
             clear c22
             obtain rfl := Option.some.inj H
             have p101 : 0 ≤ (x7_1 : Int) := of_decide_eq_true (by first | (with_reducible assumption) | assumption)
             have q101 : x7_1 < (l2.length : Int) := of_decide_eq_true (by first | (with_reducible assumption) | assumption)
             obtain ⟨ad101, e101, hx101_0, hx101_1⟩ := at_T37 HR2.out x7_1 p101 q101
             cases e101
             replace hx101_0 := (HB.out.cell (World.block_lt_of_cell? w _ hx101_0)).trans hx101_0
             replace hx101_1 := (HB.out.cell (World.block_lt_of_cell? w _ hx101_1)).trans hx101_1
             replace p101 := eq_true p101
             replace q101 := eq_true q101
             go_wp2_with (first | ((with_reducible refine gate_dst (N := 8) rfl ?_); refine box_event ?hg (N := 8) ?hd (cs := #[.int .i64 0, .int .i64 0]) (t := 37) ?hr ?_; (case hd => rfl); (case hg => rfl); (case hr => first | (go_simp; done) | (go_simp; rfl)); intro gb102 hg w23 hbox hb; have n0_ := Ja38_.mk (Ja44_ (by repeat (first | (with_reducible first | exact HB.out | apply Ja43_ | apply Ja41_ | apply Ja42_) | exact HB.out)) hb); have n1_ := Ja38_.mk (hbox); have n2_ := Ja38_.mk ((by rw [hg]; exact (Ja45_ (by repeat (first | (with_reducible first | exact HB.out | apply Ja43_ | apply Ja41_ | apply Ja42_) | exact HB.out))) : w.heap.size ≤ gb102)); have n3_ := Ja38_.mk ((by rw [hg]; exact (Ja45_ (by repeat (first | (with_reducible first | exact HB.out | apply Ja43_ | apply Ja41_ | apply Ja42_) | exact HB.out))) : w.heap.size ≤ gb102)); clear HB; have HB := n0_; have BK102 := n1_; have GW102 := n2_; have GE102 := n3_; clear n0_ n1_ n2_ n3_; clear hb hbox hg; have hcz24_0 : w23.cell? ⟨gb102, 0, none⟩ = some (.int .i64 0) := (Ja39_ BK102.out 0).trans rfl; have hcz24_1 : w23.cell? ⟨gb102, 1, none⟩ = some (.int .i64 0) := (Ja39_ BK102.out 1).trans rfl; have hfz24_0 := Ja40_ BK102.out 0; have hfz24_1 := Ja40_ BK102.out 1; have p103 : 0 ≤ ((ji19) : Int) := of_decide_eq_true (by first | (with_reducible assumption) | assumption); have q103 : (ji19) < (l2.length : Int) := of_decide_eq_true (by first | (with_reducible assumption) | assumption); obtain ⟨ad103, e103, hx103_0, hx103_1⟩ := at_T37 HR2.out (ji19) p103 q103; obtain rfl : ad101 = ad103 := (by injection e103); have hn103_0 : ad101.block ≠ gb102 := Nat.ne_of_lt (Nat.lt_of_lt_of_le (by have := World.block_lt_of_cell? _ _ hx103_0; first | rwa [add_block] at this | exact this) GW102.out); have hn103_1 : ad101.block ≠ gb102 := Nat.ne_of_lt (Nat.lt_of_lt_of_le (by have := World.block_lt_of_cell? _ _ hx103_0; first | rwa [add_block] at this | exact this) GW102.out); replace hx103_0 := (HB.out.cell (World.block_lt_of_cell? w _ hx103_0)).trans hx103_0; replace hx103_1 := (HB.out.cell (World.block_lt_of_cell? w _ hx103_1)).trans hx103_1; replace hx103_0 := (Ja53_ (p := ⟨gb102, 0, none⟩) (by first | (rw [add_block]; exact hn103_0) | (show (Addr.add _ _).block ≠ _; rw [add_block]; exact hn103_0) | exact hn103_0) (.int .i64 ((rd_T37 l2 x7_1).f0))).trans hx103_0; replace hx103_1 := (Ja53_ (p := ⟨gb102, 0, none⟩) (by first | (rw [add_block]; exact hn103_0) | (show (Addr.add _ _).block ≠ _; rw [add_block]; exact hn103_0) | exact hn103_0) (.int .i64 ((rd_T37 l2 x7_1).f0))).trans hx103_1; replace hx103_0 := (Ja53_ (p := ⟨gb102, 1, none⟩) (by first | (rw [add_block]; exact hn103_1) | (show (Addr.add _ _).block ≠ _; rw [add_block]; exact hn103_1) | exact hn103_1) (.int .i64 ((rd_T37 l2 x7_1).f1))).trans hx103_0; replace hx103_1 := (Ja53_ (p := ⟨gb102, 1, none⟩) (by first | (rw [add_block]; exact hn103_1) | (show (Addr.add _ _).block ≠ _; rw [add_block]; exact hn103_1) | exact hn103_1) (.int .i64 ((rd_T37 l2 x7_1).f1))).trans hx103_1; (try have hy103_0 := fun (n_ : Nat) => (show ((((w23.drewN n_).setCell ⟨gb102, 0, none⟩ (.int .i64 ((rd_T37 l2 x7_1).f0))).setCell ⟨gb102, 1, none⟩ (.int .i64 ((rd_T37 l2 x7_1).f1)))).cell? _ = some _ from hx103_0)); (try have hy103_1 := fun (n_ : Nat) => (show ((((w23.drewN n_).setCell ⟨gb102, 0, none⟩ (.int .i64 ((rd_T37 l2 x7_1).f0))).setCell ⟨gb102, 1, none⟩ (.int .i64 ((rd_T37 l2 x7_1).f1)))).cell? _ = some _ from hx103_1)); clear hn103_0; clear hn103_1; replace p103 := eq_true p103; replace q103 := eq_true q103))
             repeat (go_quiet (fail); try go_wp2_with fail)
             go_ret
             exact ⟨by first | rfl | (simp [errW_none, errW_some] <;> rfl) | (simp only [← hji19]; first | rfl | (simp [errW_none, errW_some] <;> rfl)) | (simp [*, errW_none, errW_some] <;> rfl), by repeat (first | (with_reducible first | exact HB.out | apply Ja43_ | apply Ja41_ | apply Ja42_ | refine Ja46_ ?_ GE102.out) | exact HB.out)⟩
            ·rw [if_neg c22] at H
             have c22b0 : decide (((rd_T37 l2 x7_1).f0) ≤ ((rd_T37 l2 (ji19)).f0)) = false := decide_eq_false c22
             clear c22
             by_cases c25 : ((rd_T37 l2 (ji19)).f1) ≥ ((rd_T37 l2 x7_1).f1)
             ·rw [if_pos c25] at H
              have c25b0 : decide (((rd_T37 l2 x7_1).f1) ≤ ((rd_T37 l2 (ji19)).f1)) = true := decide_eq_true c25
              clear c25
              obtain rfl := Option.some.inj H
              have p101 : 0 ≤ (x7_1 : Int) := of_decide_eq_true (by first | (with_reducible assumption) | assumption)
              have q101 : x7_1 < (l2.length : Int) := of_decide_eq_true (by first | (with_reducible assumption) | assumption)
              obtain ⟨ad101, e101, hx101_0, hx101_1⟩ := at_T37 HR2.out x7_1 p101 q101
              cases e101
              replace hx101_0 := (HB.out.cell (World.block_lt_of_cell? w _ hx101_0)).trans hx101_0
              replace hx101_1 := (HB.out.cell (World.block_lt_of_cell? w _ hx101_1)).trans hx101_1
              replace p101 := eq_true p101
              replace q101 := eq_true q101
              go_wp2_with (first | ((with_reducible refine gate_dst (N := 8) rfl ?_); refine box_event ?hg (N := 8) ?hd (cs := #[.int .i64 0, .int .i64 0]) (t := 37) ?hr ?_; (case hd => rfl); (case hg => rfl); (case hr => first | (go_simp; done) | (go_simp; rfl)); intro gb102 hg w26 hbox hb; have n0_ := Ja38_.mk (Ja44_ (by repeat (first | (with_reducible first | exact HB.out | apply Ja43_ | apply Ja41_ | apply Ja42_) | exact HB.out)) hb); have n1_ := Ja38_.mk (hbox); have n2_ := Ja38_.mk ((by rw [hg]; exact (Ja45_ (by repeat (first | (with_reducible first | exact HB.out | apply Ja43_ | apply Ja41_ | apply Ja42_) | exact HB.out))) : w.heap.size ≤ gb102)); have n3_ := Ja38_.mk ((by rw [hg]; exact (Ja45_ (by repeat (first | (with_reducible first | exact HB.out | apply Ja43_ | apply Ja41_ | apply Ja42_) | exact HB.out))) : w.heap.size ≤ gb102)); clear HB; have HB := n0_; have BK102 := n1_; have GW102 := n2_; have GE102 := n3_; clear n0_ n1_ n2_ n3_; clear hb hbox hg; have hcz27_0 : w26.cell? ⟨gb102, 0, none⟩ = some (.int .i64 0) := (Ja39_ BK102.out 0).trans rfl; have hcz27_1 : w26.cell? ⟨gb102, 1, none⟩ = some (.int .i64 0) := (Ja39_ BK102.out 1).trans rfl; have hfz27_0 := Ja40_ BK102.out 0; have hfz27_1 := Ja40_ BK102.out 1; have p103 : 0 ≤ ((ji19) : Int) := of_decide_eq_true (by first | (with_reducible assumption) | assumption); have q103 : (ji19) < (l2.length : Int) := of_decide_eq_true (by first | (with_reducible assumption) | assumption); obtain ⟨ad103, e103, hx103_0, hx103_1⟩ := at_T37 HR2.out (ji19) p103 q103; obtain rfl : ad101 = ad103 := (by injection e103); have hn103_0 : ad101.block ≠ gb102 := Nat.ne_of_lt (Nat.lt_of_lt_of_le (by have := World.block_lt_of_cell? _ _ hx103_0; first | rwa [add_block] at this | exact this) GW102.out); have hn103_1 : ad101.block ≠ gb102 := Nat.ne_of_lt (Nat.lt_of_lt_of_le (by have := World.block_lt_of_cell? _ _ hx103_0; first | rwa [add_block] at this | exact this) GW102.out); replace hx103_0 := (HB.out.cell (World.block_lt_of_cell? w _ hx103_0)).trans hx103_0; replace hx103_1 := (HB.out.cell (World.block_lt_of_cell? w _ hx103_1)).trans hx103_1; replace hx103_0 := (Ja53_ (p := ⟨gb102, 0, none⟩) (by first | (rw [add_block]; exact hn103_0) | (show (Addr.add _ _).block ≠ _; rw [add_block]; exact hn103_0) | exact hn103_0) (.int .i64 ((rd_T37 l2 x7_1).f0))).trans hx103_0; replace hx103_1 := (Ja53_ (p := ⟨gb102, 0, none⟩) (by first | (rw [add_block]; exact hn103_0) | (show (Addr.add _ _).block ≠ _; rw [add_block]; exact hn103_0) | exact hn103_0) (.int .i64 ((rd_T37 l2 x7_1).f0))).trans hx103_1; replace hx103_0 := (Ja53_ (p := ⟨gb102, 1, none⟩) (by first | (rw [add_block]; exact hn103_1) | (show (Addr.add _ _).block ≠ _; rw [add_block]; exact hn103_1) | exact hn103_1) (.int .i64 ((rd_T37 l2 x7_1).f1))).trans hx103_0; replace hx103_1 := (Ja53_ (p := ⟨gb102, 1, none⟩) (by first | (rw [add_block]; exact hn103_1) | (show (Addr.add _ _).block ≠ _; rw [add_block]; exact hn103_1) | exact hn103_1) (.int .i64 ((rd_T37 l2 x7_1).f1))).trans hx103_1; (try have hy103_0 := fun (n_ : Nat) => (show ((((w26.drewN n_).setCell ⟨gb102, 0, none⟩ (.int .i64 ((rd_T37 l2 x7_1).f0))).setCell ⟨gb102, 1, none⟩ (.int .i64 ((rd_T37 l2 x7_1).f1)))).cell? _ = some _ from hx103_0)); (try have hy103_1 := fun (n_ : Nat) => (show ((((w26.drewN n_).setCell ⟨gb102, 0, none⟩ (.int .i64 ((rd_T37 l2 x7_1).f0))).setCell ⟨gb102, 1, none⟩ (.int .i64 ((rd_T37 l2 x7_1).f1)))).cell? _ = some _ from hx103_1)); clear hn103_0; clear hn103_1; replace p103 := eq_true p103; replace q103 := eq_true q103; have p104 : 0 ≤ ((ji19) : Int) := of_decide_eq_true (by first | (with_reducible assumption) | assumption); have q104 : (ji19) < (l2.length : Int) := of_decide_eq_true (by first | (with_reducible assumption) | assumption); obtain ⟨ad104, e104, hx104_0, hx104_1⟩ := at_T37 HR2.out (ji19) p104 q104; obtain rfl : ad101 = ad104 := (by injection e104); have hn104_0 : ad101.block ≠ gb102 := Nat.ne_of_lt (Nat.lt_of_lt_of_le (by have := World.block_lt_of_cell? _ _ hx104_0; first | rwa [add_block] at this | exact this) GW102.out); have hn104_1 : ad101.block ≠ gb102 := Nat.ne_of_lt (Nat.lt_of_lt_of_le (by have := World.block_lt_of_cell? _ _ hx104_0; first | rwa [add_block] at this | exact this) GW102.out); replace hx104_0 := (HB.out.cell (World.block_lt_of_cell? w _ hx104_0)).trans hx104_0; replace hx104_1 := (HB.out.cell (World.block_lt_of_cell? w _ hx104_1)).trans hx104_1; replace hx104_0 := (Ja53_ (p := ⟨gb102, 0, none⟩) (by first | (rw [add_block]; exact hn104_0) | (show (Addr.add _ _).block ≠ _; rw [add_block]; exact hn104_0) | exact hn104_0) (.int .i64 ((rd_T37 l2 x7_1).f0))).trans hx104_0; replace hx104_1 := (Ja53_ (p := ⟨gb102, 0, none⟩) (by first | (rw [add_block]; exact hn104_0) | (show (Addr.add _ _).block ≠ _; rw [add_block]; exact hn104_0) | exact hn104_0) (.int .i64 ((rd_T37 l2 x7_1).f0))).trans hx104_1; replace hx104_0 := (Ja53_ (p := ⟨gb102, 1, none⟩) (by first | (rw [add_block]; exact hn104_1) | (show (Addr.add _ _).block ≠ _; rw [add_block]; exact hn104_1) | exact hn104_1) (.int .i64 ((rd_T37 l2 x7_1).f1))).trans hx104_0; replace hx104_1 := (Ja53_ (p := ⟨gb102, 1, none⟩) (by first | (rw [add_block]; exact hn104_1) | (show (Addr.add _ _).block ≠ _; rw [add_block]; exact hn104_1) | exact hn104_1) (.int .i64 ((rd_T37 l2 x7_1).f1))).trans hx104_1; (try have hy104_0 := fun (n_ : Nat) => (show ((((w26.drewN n_).setCell ⟨gb102, 0, none⟩ (.int .i64 ((rd_T37 l2 x7_1).f0))).setCell ⟨gb102, 1, none⟩ (.int .i64 ((rd_T37 l2 x7_1).f1)))).cell? _ = some _ from hx104_0)); (try have hy104_1 := fun (n_ : Nat) => (show ((((w26.drewN n_).setCell ⟨gb102, 0, none⟩ (.int .i64 ((rd_T37 l2 x7_1).f0))).setCell ⟨gb102, 1, none⟩ (.int .i64 ((rd_T37 l2 x7_1).f1)))).cell? _ = some _ from hx104_1)); clear hn104_0; clear hn104_1; replace p104 := eq_true p104; replace q104 := eq_true q104))
              repeat (go_quiet (fail); try go_wp2_with fail)
              go_ret
              exact ⟨by first | rfl | (simp [errW_none, errW_some] <;> rfl) | (simp only [← hji19]; first | rfl | (simp [errW_none, errW_some] <;> rfl)) | (simp [*, errW_none, errW_some] <;> rfl), by repeat (first | (with_reducible first | exact HB.out | apply Ja43_ | apply Ja41_ | apply Ja42_ | refine Ja46_ ?_ GE102.out) | exact HB.out)⟩
             ·rw [if_neg c25] at H
              have c25b0 : decide (((rd_T37 l2 x7_1).f1) ≤ ((rd_T37 l2 (ji19)).f1)) = false := decide_eq_false c25
              clear c25
              have H' := Ja38_.mk H
              clear H
              have p101 : 0 ≤ (x7_1 : Int) := of_decide_eq_true (by first | (with_reducible assumption) | assumption)
              have q101 : x7_1 < (l2.length : Int) := of_decide_eq_true (by first | (with_reducible assumption) | assumption)
              obtain ⟨ad101, e101, hx101_0, hx101_1⟩ := at_T37 HR2.out x7_1 p101 q101
              cases e101
              replace hx101_0 := (HB.out.cell (World.block_lt_of_cell? w _ hx101_0)).trans hx101_0
              replace hx101_1 := (HB.out.cell (World.block_lt_of_cell? w _ hx101_1)).trans hx101_1
              replace p101 := eq_true p101
              replace q101 := eq_true q101
              go_wp2_with (first | ((with_reducible refine gate_dst (N := 8) rfl ?_); refine box_event ?hg (N := 8) ?hd (cs := #[.int .i64 0, .int .i64 0]) (t := 37) ?hr ?_; (case hd => rfl); (case hg => rfl); (case hr => first | (go_simp; done) | (go_simp; rfl)); intro gb102 hg w28 hbox hb; have n0_ := Ja38_.mk (Ja44_ (by repeat (first | (with_reducible first | exact HB.out | apply Ja43_ | apply Ja41_ | apply Ja42_) | exact HB.out)) hb); have n1_ := Ja38_.mk (hbox); have n2_ := Ja38_.mk ((by rw [hg]; exact (Ja45_ (by repeat (first | (with_reducible first | exact HB.out | apply Ja43_ | apply Ja41_ | apply Ja42_) | exact HB.out))) : w.heap.size ≤ gb102)); have n3_ := Ja38_.mk ((by rw [hg]; exact (Ja45_ (by repeat (first | (with_reducible first | exact HB.out | apply Ja43_ | apply Ja41_ | apply Ja42_) | exact HB.out))) : w.heap.size ≤ gb102)); clear HB; have HB := n0_; have BK102 := n1_; have GW102 := n2_; have GE102 := n3_; clear n0_ n1_ n2_ n3_; clear hb hbox hg; have hcz29_0 : w28.cell? ⟨gb102, 0, none⟩ = some (.int .i64 0) := (Ja39_ BK102.out 0).trans rfl; have hcz29_1 : w28.cell? ⟨gb102, 1, none⟩ = some (.int .i64 0) := (Ja39_ BK102.out 1).trans rfl; have hfz29_0 := Ja40_ BK102.out 0; have hfz29_1 := Ja40_ BK102.out 1; have p103 : 0 ≤ ((ji19) : Int) := of_decide_eq_true (by first | (with_reducible assumption) | assumption); have q103 : (ji19) < (l2.length : Int) := of_decide_eq_true (by first | (with_reducible assumption) | assumption); obtain ⟨ad103, e103, hx103_0, hx103_1⟩ := at_T37 HR2.out (ji19) p103 q103; obtain rfl : ad101 = ad103 := (by injection e103); have hn103_0 : ad101.block ≠ gb102 := Nat.ne_of_lt (Nat.lt_of_lt_of_le (by have := World.block_lt_of_cell? _ _ hx103_0; first | rwa [add_block] at this | exact this) GW102.out); have hn103_1 : ad101.block ≠ gb102 := Nat.ne_of_lt (Nat.lt_of_lt_of_le (by have := World.block_lt_of_cell? _ _ hx103_0; first | rwa [add_block] at this | exact this) GW102.out); replace hx103_0 := (HB.out.cell (World.block_lt_of_cell? w _ hx103_0)).trans hx103_0; replace hx103_1 := (HB.out.cell (World.block_lt_of_cell? w _ hx103_1)).trans hx103_1; replace hx103_0 := (Ja53_ (p := ⟨gb102, 0, none⟩) (by first | (rw [add_block]; exact hn103_0) | (show (Addr.add _ _).block ≠ _; rw [add_block]; exact hn103_0) | exact hn103_0) (.int .i64 ((rd_T37 l2 x7_1).f0))).trans hx103_0; replace hx103_1 := (Ja53_ (p := ⟨gb102, 0, none⟩) (by first | (rw [add_block]; exact hn103_0) | (show (Addr.add _ _).block ≠ _; rw [add_block]; exact hn103_0) | exact hn103_0) (.int .i64 ((rd_T37 l2 x7_1).f0))).trans hx103_1; replace hx103_0 := (Ja53_ (p := ⟨gb102, 1, none⟩) (by first | (rw [add_block]; exact hn103_1) | (show (Addr.add _ _).block ≠ _; rw [add_block]; exact hn103_1) | exact hn103_1) (.int .i64 ((rd_T37 l2 x7_1).f1))).trans hx103_0; replace hx103_1 := (Ja53_ (p := ⟨gb102, 1, none⟩) (by first | (rw [add_block]; exact hn103_1) | (show (Addr.add _ _).block ≠ _; rw [add_block]; exact hn103_1) | exact hn103_1) (.int .i64 ((rd_T37 l2 x7_1).f1))).trans hx103_1; (try have hy103_0 := fun (n_ : Nat) => (show ((((w28.drewN n_).setCell ⟨gb102, 0, none⟩ (.int .i64 ((rd_T37 l2 x7_1).f0))).setCell ⟨gb102, 1, none⟩ (.int .i64 ((rd_T37 l2 x7_1).f1)))).cell? _ = some _ from hx103_0)); (try have hy103_1 := fun (n_ : Nat) => (show ((((w28.drewN n_).setCell ⟨gb102, 0, none⟩ (.int .i64 ((rd_T37 l2 x7_1).f0))).setCell ⟨gb102, 1, none⟩ (.int .i64 ((rd_T37 l2 x7_1).f1)))).cell? _ = some _ from hx103_1)); clear hn103_0; clear hn103_1; replace p103 := eq_true p103; replace q103 := eq_true q103; have p104 : 0 ≤ ((ji19) : Int) := of_decide_eq_true (by first | (with_reducible assumption) | assumption); have q104 : (ji19) < (l2.length : Int) := of_decide_eq_true (by first | (with_reducible assumption) | assumption); obtain ⟨ad104, e104, hx104_0, hx104_1⟩ := at_T37 HR2.out (ji19) p104 q104; obtain rfl : ad101 = ad104 := (by injection e104); have hn104_0 : ad101.block ≠ gb102 := Nat.ne_of_lt (Nat.lt_of_lt_of_le (by have := World.block_lt_of_cell? _ _ hx104_0; first | rwa [add_block] at this | exact this) GW102.out); have hn104_1 : ad101.block ≠ gb102 := Nat.ne_of_lt (Nat.lt_of_lt_of_le (by have := World.block_lt_of_cell? _ _ hx104_0; first | rwa [add_block] at this | exact this) GW102.out); replace hx104_0 := (HB.out.cell (World.block_lt_of_cell? w _ hx104_0)).trans hx104_0; replace hx104_1 := (HB.out.cell (World.block_lt_of_cell? w _ hx104_1)).trans hx104_1; replace hx104_0 := (Ja53_ (p := ⟨gb102, 0, none⟩) (by first | (rw [add_block]; exact hn104_0) | (show (Addr.add _ _).block ≠ _; rw [add_block]; exact hn104_0) | exact hn104_0) (.int .i64 ((rd_T37 l2 x7_1).f0))).trans hx104_0; replace hx104_1 := (Ja53_ (p := ⟨gb102, 0, none⟩) (by first | (rw [add_block]; exact hn104_0) | (show (Addr.add _ _).block ≠ _; rw [add_block]; exact hn104_0) | exact hn104_0) (.int .i64 ((rd_T37 l2 x7_1).f0))).trans hx104_1; replace hx104_0 := (Ja53_ (p := ⟨gb102, 1, none⟩) (by first | (rw [add_block]; exact hn104_1) | (show (Addr.add _ _).block ≠ _; rw [add_block]; exact hn104_1) | exact hn104_1) (.int .i64 ((rd_T37 l2 x7_1).f1))).trans hx104_0; replace hx104_1 := (Ja53_ (p := ⟨gb102, 1, none⟩) (by first | (rw [add_block]; exact hn104_1) | (show (Addr.add _ _).block ≠ _; rw [add_block]; exact hn104_1) | exact hn104_1) (.int .i64 ((rd_T37 l2 x7_1).f1))).trans hx104_1; (try have hy104_0 := fun (n_ : Nat) => (show ((((w28.drewN n_).setCell ⟨gb102, 0, none⟩ (.int .i64 ((rd_T37 l2 x7_1).f0))).setCell ⟨gb102, 1, none⟩ (.int .i64 ((rd_T37 l2 x7_1).f1)))).cell? _ = some _ from hx104_0)); (try have hy104_1 := fun (n_ : Nat) => (show ((((w28.drewN n_).setCell ⟨gb102, 0, none⟩ (.int .i64 ((rd_T37 l2 x7_1).f0))).setCell ⟨gb102, 1, none⟩ (.int .i64 ((rd_T37 l2 x7_1).f1)))).cell? _ = some _ from hx104_1)); clear hn104_0; clear hn104_1; replace p104 := eq_true p104; replace q104 := eq_true q104))
              repeat (go_quiet (fail); try go_wp2_with fail)
              go_roundg k1
              case measure => have := HK1.out; omega
              case rel => exact ⟨(wrap64 (x7_1 + 1)), (by first | rfl | (simp; done) | (simp [*]; done)), H', ⟨by have := HK1.out; omega⟩, ⟨by repeat (first | (with_reducible first | exact HB.out | apply Ja43_ | apply Ja41_ | apply Ja42_ | refine Ja46_ ?_ GE102.out) | exact HB.out)⟩⟩
           ·rw [if_neg c21] at H
            exact absurd H (by simp)
          ·rw [if_neg c20] at H
           exact absurd H (by simp)
         ·rw [if_neg c18] at H
          have c18b0 : decide (0 < x7_1) = false := decide_eq_false c18
          clear c18
          have H' := Ja38_.mk H
          clear H
          have p101 : 0 ≤ (x7_1 : Int) := of_decide_eq_true (by first | (with_reducible assumption) | assumption)
          have q101 : x7_1 < (l2.length : Int) := of_decide_eq_true (by first | (with_reducible assumption) | assumption)
          obtain ⟨ad101, e101, hx101_0, hx101_1⟩ := at_T37 HR2.out x7_1 p101 q101
          cases e101
          replace hx101_0 := (HB.out.cell (World.block_lt_of_cell? w _ hx101_0)).trans hx101_0
          replace hx101_1 := (HB.out.cell (World.block_lt_of_cell? w _ hx101_1)).trans hx101_1
          replace p101 := eq_true p101
          replace q101 := eq_true q101
          go_wp2_with (first | ((with_reducible refine gate_dst (N := 8) rfl ?_); refine box_event ?hg (N := 8) ?hd (cs := #[.int .i64 0, .int .i64 0]) (t := 37) ?hr ?_; (case hd => rfl); (case hg => rfl); (case hr => first | (go_simp; done) | (go_simp; rfl)); intro gb102 hg w30 hbox hb; have n0_ := Ja38_.mk (Ja44_ (by repeat (first | (with_reducible first | exact HB.out | apply Ja43_ | apply Ja41_ | apply Ja42_) | exact HB.out)) hb); have n1_ := Ja38_.mk (hbox); have n2_ := Ja38_.mk ((by rw [hg]; exact (Ja45_ (by repeat (first | (with_reducible first | exact HB.out | apply Ja43_ | apply Ja41_ | apply Ja42_) | exact HB.out))) : w.heap.size ≤ gb102)); have n3_ := Ja38_.mk ((by rw [hg]; exact (Ja45_ (by repeat (first | (with_reducible first | exact HB.out | apply Ja43_ | apply Ja41_ | apply Ja42_) | exact HB.out))) : w.heap.size ≤ gb102)); clear HB; have HB := n0_; have BK102 := n1_; have GW102 := n2_; have GE102 := n3_; clear n0_ n1_ n2_ n3_; clear hb hbox hg; have hcz31_0 : w30.cell? ⟨gb102, 0, none⟩ = some (.int .i64 0) := (Ja39_ BK102.out 0).trans rfl; have hcz31_1 : w30.cell? ⟨gb102, 1, none⟩ = some (.int .i64 0) := (Ja39_ BK102.out 1).trans rfl; have hfz31_0 := Ja40_ BK102.out 0; have hfz31_1 := Ja40_ BK102.out 1))
          repeat (go_quiet (fail); try go_wp2_with fail)
          go_roundg k1
          case measure => have := HK1.out; omega
          case rel => exact ⟨(wrap64 (x7_1 + 1)), (by first | rfl | (simp; done) | (simp [*]; done)), H', ⟨by have := HK1.out; omega⟩, ⟨by repeat (first | (with_reducible first | exact HB.out | apply Ja43_ | apply Ja41_ | apply Ja42_ | refine Ja46_ ?_ GE102.out) | exact HB.out)⟩⟩
    ·rw [if_neg c5] at H
     exact absurd H (by simp)
   ·rw [if_neg c4] at H
    have c4b0 : decide (x7_1 < (l2.length : Int)) = false := decide_eq_false c4
    clear c4
    obtain rfl := Option.some.inj H
    go_wp2
    repeat (go_quiet (fail); try go_wp2)
    go_ret
    exact ⟨by first | rfl | (simp [errW_none, errW_some] <;> rfl) | (simp [*, errW_none, errW_some] <;> rfl), by repeat (first | (with_reducible first | exact HB.out | apply Ja43_ | apply Ja41_ | apply Ja42_) | exact HB.out)⟩
end Go.Proofs.Ytadafplbgophfaa.PA
end
section
namespace Go.Proofs.Ytadafplbgophfaa.PA
open Go.RowKit Go.Proofs.YtadafplbgophfaaW.PrintWords Go.Proofs.YtadafplbgophfaaW.PrintLast Go.Proofs.YtadafplbgophfaaW.PrintMore
attribute [local go_sem] max2_int min2_int max_two min_two max_three min_three max_four min_four   -- for this text's walks alone
set_option linter.unusedVariables false
set_option linter.unusedSimpArgs false
def J36_.l0 : Nat → List (S37) → Int → Int → Option (Int)
 | 0, _, _, _ => none
 | k + 1, x0, x1, x5 => if x5 < (x0.length : Int) then (if 0 ≤ x5 then (if ((rd_T37 x0 x5).f0) = x1 then (some ((rd_T37 x0 x5).f1)) else (J36_.l0 k x0 x1 (wrap64 (x5 + 1)))) else (none)) else (some (-1))
def J36_.f (k : Nat) (l0 : List (S37)) (a1 : Int) : Option (Int) := J36_.l0 k l0 a1 0
set_option maxHeartbeats 8000000 in
set_option maxRecDepth 100000 in
theorem J36_.calls (k : Nat) (A0 : Option Addr) (c0 : Nat) (l0 : List (S37)) (a1 : Int) (r : Int) (w : World) (hr0 : Kd.C k37 w A0 l0.length l0) (hc0 : l0.length ≤ c0) (h : J36_.f k l0 a1 = some r) :
  Calls Try.prog 95 #[.slice A0 l0.length c0, .int .i64 a1] w fun e w' => e = .returned (.int .i64 r) ∧ Drawn0 w w' := by
 have HR0 := Ja38_.mk hr0
 have HC0 := Ja38_.mk hc0
 clear hr0 hc0
 have H : (J36_.l0 k l0 a1 0) = some r := h
 clear h
 have H' := Ja38_.mk H
 clear H
 go_enter Try.func95, Try.ntmps95
 go_wp2
 go_loopg [5] k (fun kq v5 w' => ∃ (x5_1 : Int), v5 = .int .i64 x5_1 ∧ Ja38_ (J36_.l0 kq l0 a1 x5_1 = some r) ∧ Ja38_ (kq ≤ k) ∧ Drawn0 w w')
 case atStart => exact ⟨(0), (by first | rfl | (simp; done) | (simp [*]; done)), H', ⟨Nat.le_refl _⟩, by repeat (first | exact Drawn0.refl _ | apply Drawn0.step)⟩
 case round =>
  clear H'
  try clear p2
  obtain ⟨x5_1, rfl, HA, HK1, ⟨m1, rfl⟩⟩ := hrel
  cases gk with
  | zero => exact absurd HA.out (by simp [J36_.l0])
  | succ k1 =>
   have H := HA.out
   clear HA
   simp only [J36_.l0] at H
   by_cases c3 : x5_1 < (l0.length : Int)
   ·rw [if_pos c3] at H
    have c3b0 : decide (x5_1 < (l0.length : Int)) = true := decide_eq_true c3
    clear c3
    by_cases c4 : 0 ≤ x5_1
    ·rw [if_pos c4] at H
     have c4b0 : decide (0 ≤ x5_1) = true := decide_eq_true c4
     clear c4
     by_cases c5 : ((rd_T37 l0 x5_1).f0) = a1
     ·rw [if_pos c5] at H
      have c5b0 : (((rd_T37 l0 x5_1).f0) == a1) = true := beq_iff_eq.mpr c5
      have c5b1 : (((rd_T37 l0 x5_1).f0) != a1) = false := bne_eq_false_iff_eq.mpr c5
      clear c5
      obtain rfl := Option.some.inj H
      have p101 : 0 ≤ (x5_1 : Int) := of_decide_eq_true (by first | (with_reducible assumption) | assumption)
      have q101 : x5_1 < (l0.length : Int) := of_decide_eq_true (by first | (with_reducible assumption) | assumption)
      obtain ⟨ad101, e101, hx101_0, hx101_1⟩ := at_T37 HR0.out x5_1 p101 q101
      cases e101
      replace p101 := eq_true p101
      replace q101 := eq_true q101
      have p102 : 0 ≤ (x5_1 : Int) := of_decide_eq_true (by first | (with_reducible assumption) | assumption)
      have q102 : x5_1 < (l0.length : Int) := of_decide_eq_true (by first | (with_reducible assumption) | assumption)
      obtain ⟨ad102, e102, hx102_0, hx102_1⟩ := at_T37 HR0.out x5_1 p102 q102
      obtain rfl : ad101 = ad102 := (by injection e102)
      replace p102 := eq_true p102
      replace q102 := eq_true q102
      go_wp2
      go_ret
      exact ⟨by first | rfl | (simp; done) | (simp [*]; done), by repeat (first | exact Drawn0.refl _ | apply Drawn0.step)⟩
     ·rw [if_neg c5] at H
      have c5b0 : (((rd_T37 l0 x5_1).f0) == a1) = false := beq_eq_false_iff_ne.mpr c5
      have c5b1 : (((rd_T37 l0 x5_1).f0) != a1) = true := bne_iff_ne.mpr c5
      have H' := Ja38_.mk H
      clear H
      have p101 : 0 ≤ (x5_1 : Int) := of_decide_eq_true (by first | (with_reducible assumption) | assumption)
      have q101 : x5_1 < (l0.length : Int) := of_decide_eq_true (by first | (with_reducible assumption) | assumption)
      obtain ⟨ad101, e101, hx101_0, hx101_1⟩ := at_T37 HR0.out x5_1 p101 q101
      cases e101
      replace p101 := eq_true p101
      replace q101 := eq_true q101
      go_wp2
      go_roundg k1
      case measure => have := HK1.out; omega
      case rel => exact ⟨(wrap64 (x5_1 + 1)), (by first | rfl | (simp; done) | (simp [*]; done)), H', ⟨by have := HK1.out; omega⟩, by repeat (first | exact Drawn0.refl _ | apply Drawn0.step)⟩
    ·rw [if_neg c4] at H
     exact absurd H (by simp)
   ·rw [if_neg c3] at H
    have c3b0 : decide (x5_1 < (l0.length : Int)) = false := decide_eq_false c3
    clear c3
    obtain rfl := Option.some.inj H
    go_wp2
    go_ret
    exact ⟨by first | rfl | (simp; done) | (simp [*]; done), by repeat (first | exact Drawn0.refl _ | apply Drawn0.step)⟩
end Go.Proofs.Ytadafplbgophfaa.PA
end
section
namespace Go.Proofs.Ytadafplbgophfaa.PA
set_option linter.unusedSimpArgs false
set_option linter.unusedVariables false
open Go.RowKit Go.Proofs.YtadafplbgophfaaW.PrintWords Go.Proofs.YtadafplbgophfaaW.PrintLast Go.Proofs.YtadafplbgophfaaW.PrintMore
open Jdg
namespace Chk
theorem down {P : Nat → Prop} (n : Nat) (hend : P n) (hstep : ∀ i, i < n → P (i + 1) → P i) : ∀ i, i ≤ n → P i := by
  have : ∀ d i, n - i ≤ d → i ≤ n → P i := by
    intro d
    induction d with
    | zero => intro i h1 h2; obtain rfl : i = n := by omega
              exact hend
    | succ d ih =>
      intro i h1 h2
      by_cases h : i < n
      · exact hstep i h (ih (i + 1) (by omega) (by omega))
      · obtain rfl : i = n := by omega
        exact hend
  exact fun i hi => this n i (by omega) hi
theorem next64 {i : Nat} (h : i ≤ 1000000000000000) : wrap64 ((i : Int) + 1) = ((i + 1 : Nat) : Int) := by rw [w64 (by omega) (by omega)]; omega
def matD (d : Int) : List S37 → Int → Int
  | [], _ => d
  | p :: l, i => if p.f0 = i then p.f1 else matD d l i
def riseB (a b : Int) : Int → Int → List S37 → Bool
  | _, _, [] => true
  | pa, pb, p :: l => decide (pa < p.f0 ∧ pb < p.f1 ∧ p.f0 < a ∧ p.f1 < b) && riseB a b p.f0 p.f1 l
theorem riseB_cons {a b pa pb : Int} {p : S37} {l : List S37} : riseB a b pa pb (p :: l) = true ↔ (pa < p.f0 ∧ pb < p.f1 ∧ p.f0 < a ∧ p.f1 < b) ∧ riseB a b p.f0 p.f1 l = true := by
  simp [riseB, and_assoc]
theorem at_ok (l : List S37) (x : Int) (hl : l.length ≤ 1000000) : Ev (fun k => J36_.f k l x) (matD (-1) l x) := by
  have := down (P := fun i => Ev (fun k => J36_.l0 k l x (i : Int)) (matD (-1) (l.drop i) x)) l.length (by
    refine Ev.step (f := fun _ => some (-1)) (fun k => ?_) (by rw [List.drop_of_length_le (Nat.le_refl _)]; exact Ev.now _)
    simp only [J36_.l0]; rw [if_neg (by omega)]) (fun i hi ih => by
    have e := rdT37_nat l hi
    rw [List.drop_eq_getElem_cons hi, matD]
    by_cases h : l[i].f0 = x
    · rw [if_pos h]
      refine Ev.step (f := fun _ => some l[i].f1) (fun k => ?_) (Ev.now _)
      simp only [J36_.l0]; rw [if_pos (by omega), if_pos (by omega), e, if_pos h]
    · rw [if_neg h]
      refine Ev.step (fun k => ?_) ih
      simp only [J36_.l0]; rw [if_pos (by omega), if_pos (by omega), e, if_neg h, next64 (by omega)]) 0 (by omega)
  exact this
theorem rises_ok (a b : Int) (l : List S37) (hl : l.length ≤ 1000000) : Ev (fun k => J37_.f k a b l) (riseB a b (-1) (-1) l) := by
  have := down (P := fun i => ∀ pa pb, (i = 0 ∧ pa = -1 ∧ pb = -1 ∨ ∃ h : 0 < i ∧ i ≤ l.length, pa = (l[i - 1]'(by omega)).f0 ∧ pb = (l[i - 1]'(by omega)).f1 ∧ 0 ≤ pa ∧ 0 ≤ pb) → Ev (fun k => J37_.l0 k a b l (i : Int)) (riseB a b pa pb (l.drop i))) l.length (by
    intro pa pb _
    refine Ev.step (f := fun _ => some true) (fun k => ?_) (by rw [List.drop_of_length_le (Nat.le_refl _)]; exact Ev.now _)
    simp only [J37_.l0]; rw [if_neg (by omega)]) (fun i hi ih pa pb hp => by
    have e := rdT37_nat l hi
    have f1 : (i : Int) < (l.length : Int) := by omega
    have f2 : (0 : Int) ≤ (i : Int) := by omega
    have hlow : -1 ≤ pa ∧ -1 ≤ pb := by
      rcases hp with ⟨_, h1, h2⟩ | ⟨h, _, _, h3, h4⟩ <;> omega
    rw [List.drop_eq_getElem_cons hi]
    by_cases hb : riseB a b pa pb (l[i] :: l.drop (i + 1)) = true
    · rw [hb]
      obtain ⟨⟨b1, b2, b3, b4⟩, b5⟩ := riseB_cons.1 hb
      have hn := ih l[i].f0 l[i].f1 (.inr ⟨⟨by omega, by omega⟩, rfl, rfl, by omega, by omega⟩)
      rw [b5] at hn
      refine Ev.step (fun k => ?_) hn
      simp only [J37_.l0]
      rw [if_pos f1, if_pos f2, e, if_neg (by omega), if_neg (by omega), if_neg (by omega), if_neg (by omega), next64 (by omega)]
      rcases hp with ⟨h0, _, _⟩ | ⟨h, h1, h2, _, _⟩
      · rw [if_neg (by omega)]
      · have e2 : wrap64 ((i : Int) - 1) = ((i - 1 : Nat) : Int) := by rw [w64 (by omega) (by omega)]; omega
        rw [if_pos (by omega), e2, if_pos (by omega), if_pos (by omega), rdT37_nat l (by omega : i - 1 < l.length), if_neg (by omega), if_neg (by omega)]
    · rw [Bool.not_eq_true] at hb
      rw [hb]
      by_cases ho : pa < l[i].f0 ∧ pb < l[i].f1 ∧ l[i].f0 < a ∧ l[i].f1 < b
      · have b5 : riseB a b l[i].f0 l[i].f1 (l.drop (i + 1)) = false := by
          cases h : riseB a b l[i].f0 l[i].f1 (l.drop (i + 1)) with
          | false => rfl
          | true => rw [riseB_cons.2 ⟨ho, h⟩] at hb; cases hb
        obtain ⟨b1, b2, b3, b4⟩ := ho
        have hn := ih l[i].f0 l[i].f1 (.inr ⟨⟨by omega, by omega⟩, rfl, rfl, by omega, by omega⟩)
        rw [b5] at hn
        refine Ev.step (fun k => ?_) hn
        simp only [J37_.l0]
        rw [if_pos f1, if_pos f2, e, if_neg (by omega), if_neg (by omega), if_neg (by omega), if_neg (by omega), next64 (by omega)]
        rcases hp with ⟨h0, _, _⟩ | ⟨h, h1, h2, _, _⟩
        · rw [if_neg (by omega)]
        · have e2 : wrap64 ((i : Int) - 1) = ((i - 1 : Nat) : Int) := by rw [w64 (by omega) (by omega)]; omega
          rw [if_pos (by omega), e2, if_pos (by omega), if_pos (by omega), rdT37_nat l (by omega : i - 1 < l.length), if_neg (by omega), if_neg (by omega)]
      · refine Ev.step (f := fun _ => some false) (fun k => ?_) (Ev.now _)
        simp only [J37_.l0]
        rw [if_pos f1, if_pos f2, e]
        by_cases c1 : l[i].f0 < 0
        · rw [if_pos c1]
        rw [if_neg c1]
        by_cases c2 : l[i].f0 ≥ a
        · rw [if_pos c2]
        rw [if_neg c2]
        by_cases c3 : l[i].f1 < 0
        · rw [if_pos c3]
        rw [if_neg c3]
        by_cases c4 : l[i].f1 ≥ b
        · rw [if_pos c4]
        rw [if_neg c4]
        rcases hp with ⟨h0, h1, h2⟩ | ⟨h, h1, h2, _, _⟩
        · omega
        · have e2 : wrap64 ((i : Int) - 1) = ((i - 1 : Nat) : Int) := by rw [w64 (by omega) (by omega)]; omega
          rw [if_pos (by omega), e2, if_pos (by omega), if_pos (by omega), rdT37_nat l (by omega : i - 1 < l.length)]
          by_cases c5 : (l[i - 1]'(by omega)).f0 ≥ l[i].f0
          · rw [if_pos c5]
          · rw [if_neg c5, if_pos (by omega)]) 0 (by omega) (-1) (-1) (.inl ⟨rfl, rfl, rfl⟩)
  exact this
theorem matD_lt {a b : Int} (d : Int) (hd : d < b) : ∀ (l : List S37) (pa pb i : Int), riseB a b pa pb l = true → matD d l i < b
  | [], _, _, _, _ => hd
  | p :: l, pa, pb, i, h => by
    obtain ⟨⟨h1, h2, h3, h4⟩, h5⟩ := riseB_cons.1 h
    rw [matD]
    split
    · exact h4
    · exact matD_lt d hd l p.f0 p.f1 i h5
theorem rd_set {t : List Int} {i j v : Int} (hi : 0 ≤ i) (hi2 : i < t.length) (hj : 0 ≤ j) : rd (t.set i.toNat v) j = if i = j then v else rd t j := by
  obtain ⟨m, rfl⟩ := Int.eq_ofNat_of_zero_le hi
  obtain ⟨n, rfl⟩ := Int.eq_ofNat_of_zero_le hj
  simp only [rd, Int.toNat_natCast, List.getD_eq_getElem?_getD, List.getElem?_set]
  by_cases h : m = n
  · subst h
    have : m < t.length := by omega
    simp [this]
  · rw [if_neg h, if_neg (by omega)]
end Chk
end Go.Proofs.Ytadafplbgophfaa.PA
end
section
namespace Go.Proofs.Ytadafplbgophfaa.PA
open Go.RowKit Go.Proofs.YtadafplbgophfaaW.PrintWords Go.Proofs.YtadafplbgophfaaW.PrintLast Go.Proofs.YtadafplbgophfaaW.PrintMore
attribute [local go_sem] max2_int min2_int max_two min_two max_three min_three max_four min_four   -- for this text's walks alone
set_option linter.unusedVariables false
set_option linter.unusedSimpArgs false
mutual
def J35_.j0 : Nat → Int → Int → Int → List (S37) → List (S37) → Bool → Option ((List (S81)) × Bool)
  | 0, _, _, _, _, _, _ => none
  | k + 1, x0, x1, x2, x3, x4, x42 => if x42 = true then (some (([] : List (S81)), false)) else (J35_.l0 k x0 x1 x2 x3 x4 ([] : List (S81)) 0 0 0)
def J35_.l0 : Nat → Int → Int → Int → List (S37) → List (S37) → List (S81) → Int → Int → Int → Option ((List (S81)) × Bool)
  | 0, _, _, _, _, _, _, _, _, _ => none
  | k + 1, x0, x1, x2, x3, x4, x12, x13, x14, x15 => if x13 < x0 then (J35_.j2 k x0 x1 x2 x3 x4 x12 x13 x14 x15 true) else (if x14 < x1 then (J35_.j2 k x0 x1 x2 x3 x4 x12 x13 x14 x15 true) else (J35_.j2 k x0 x1 x2 x3 x4 x12 x13 x14 x15 (decide (x15 < x2))))
def J35_.j2 : Nat → Int → Int → Int → List (S37) → List (S37) → List (S81) → Int → Int → Int → Bool → Option ((List (S81)) × Bool)
  | 0, _, _, _, _, _, _, _, _, _, _ => none
  | k + 1, x0, x1, x2, x3, x4, x12, x13, x14, x15, x55 => if x55 = true then (J35_.l1 k x0 x1 x2 x3 x4 x12 x13 x14 x15 0) else (some (x12, true))
def J35_.j4 : Nat → Int → Int → Int → List (S37) → List (S37) → List (S81) → Int → Int → Int → Int → Option ((List (S81)) × Bool)
  | 0, _, _, _, _, _, _, _, _, _, _ => none
  | k + 1, x0, x1, x2, x3, x4, x12, x13, x14, x15, x16 => if x16 = 0 then (J35_.l2 k x0 x1 x2 x3 x4 x12 x14 x15 x13 (decide (x16 > 0)) x13 (wrap64 (x13 + x16)) x14 (wrap64 (x14 + x16)) x15 (wrap64 (x15 + x16))) else (if x12.length < 2513169434916 then (J35_.l0 k x0 x1 x2 x3 x4 (x12 ++ [(⟨decide (x16 > 0), (⟨x13, wrap64 (x13 + x16)⟩ : S79), (⟨x14, wrap64 (x14 + x16)⟩ : S79), (⟨x15, wrap64 (x15 + x16)⟩ : S79)⟩ : S81)]) (wrap64 (x13 + x16)) (wrap64 (x14 + x16)) (wrap64 (x15 + x16))) else (none))
def J35_.j6 : Nat → Int → Int → Int → List (S37) → List (S37) → List (S81) → Int → Bool → Int → Int → Int → Int → Int → Int → Option ((List (S81)) × Bool)
  | 0, _, _, _, _, _, _, _, _, _, _, _, _, _, _ => none
  | k + 1, x0, x1, x2, x3, x4, x12, x18, x106000, x106001, x106002, x106003, x106004, x106005, x106006 => if x18 < x0 then ((J36_.f k x3 x18).bind fun t108 => ((J36_.f k x4 x18).bind fun t109 => (if x12.length < 2513169434916 then (J35_.l0 k x0 x1 x2 x3 x4 (x12 ++ [(⟨x106000, (⟨x106001, x18⟩ : S79), (⟨x106003, t108⟩ : S79), (⟨x106005, t109⟩ : S79)⟩ : S81)]) x18 t108 t109) else (none)))) else (if x12.length < 2513169434916 then (J35_.l0 k x0 x1 x2 x3 x4 (x12 ++ [(⟨x106000, (⟨x106001, x0⟩ : S79), (⟨x106003, x1⟩ : S79), (⟨x106005, x2⟩ : S79)⟩ : S81)]) x0 x1 x2) else (none))
def J35_.l2 : Nat → Int → Int → Int → List (S37) → List (S37) → List (S81) → Int → Int → Int → Bool → Int → Int → Int → Int → Int → Int → Option ((List (S81)) × Bool)
  | 0, _, _, _, _, _, _, _, _, _, _, _, _, _, _, _, _ => none
  | k + 1, x0, x1, x2, x3, x4, x12, x14, x15, x18, x106000, x106001, x106002, x106003, x106004, x106005, x106006 => if x18 < x0 then ((J36_.f k x3 x18).bind fun t106 => (if t106 < x14 then (J35_.l2 k x0 x1 x2 x3 x4 x12 x14 x15 (wrap64 (x18 + 1)) x106000 x106001 x106002 x106003 x106004 x106005 x106006) else ((J36_.f k x4 x18).bind fun t107 => (if t107 < x15 then (J35_.l2 k x0 x1 x2 x3 x4 x12 x14 x15 (wrap64 (x18 + 1)) x106000 x106001 x106002 x106003 x106004 x106005 x106006) else (J35_.j6 k x0 x1 x2 x3 x4 x12 x18 x106000 x106001 x106002 x106003 x106004 x106005 x106006))))) else (J35_.j6 k x0 x1 x2 x3 x4 x12 x18 x106000 x106001 x106002 x106003 x106004 x106005 x106006)
def J35_.l1 : Nat → Int → Int → Int → List (S37) → List (S37) → List (S81) → Int → Int → Int → Int → Option ((List (S81)) × Bool)
  | 0, _, _, _, _, _, _, _, _, _, _ => none
  | k + 1, x0, x1, x2, x3, x4, x12, x13, x14, x15, x16 => if (wrap64 (x13 + x16)) < x0 then ((J36_.f k x3 (wrap64 (x13 + x16))).bind fun t103 => (if t103 = (wrap64 (x14 + x16)) then ((J36_.f k x4 (wrap64 (x13 + x16))).bind fun t104 => (if t104 = (wrap64 (x15 + x16)) then (J35_.l1 k x0 x1 x2 x3 x4 x12 x13 x14 x15 (wrap64 (x16 + 1))) else (J35_.j4 k x0 x1 x2 x3 x4 x12 x13 x14 x15 x16))) else (J35_.j4 k x0 x1 x2 x3 x4 x12 x13 x14 x15 x16))) else (J35_.j4 k x0 x1 x2 x3 x4 x12 x13 x14 x15 x16)
end
def J35_.f (k : Nat) (a0 : Int) (a1 : Int) (a2 : Int) (l3 : List (S37)) (l4 : List (S37)) : Option ((List (S81)) × Bool) := if a0 < 0 then (J35_.j0 k a0 a1 a2 l3 l4 true) else (if a1 < 0 then (J35_.j0 k a0 a1 a2 l3 l4 true) else (if a2 < 0 then (J35_.j0 k a0 a1 a2 l3 l4 true) else ((J37_.f k a0 a1 l3).bind fun t101 => (if t101 = true then ((J37_.f k a0 a2 l4).bind fun t102 => (J35_.j0 k a0 a1 a2 l3 l4 (!t102))) else (J35_.j0 k a0 a1 a2 l3 l4 true)))))
end Go.Proofs.Ytadafplbgophfaa.PA
end
section
namespace Go.Proofs.Ytadafplbgophfaa.PA
set_option linter.unusedSimpArgs false
set_option linter.unusedVariables false
open Go.RowKit Go.Proofs.YtadafplbgophfaaW.PrintWords Go.Proofs.YtadafplbgophfaaW.PrintLast Go.Proofs.YtadafplbgophfaaW.PrintMore
open Jdg
namespace Chk
theorem evstep {α : Type} {g f : Nat → Option α} {r : α} (K0 : Nat) (h : ∀ k, K0 ≤ k → g (k + 1) = f k) (hf : Ev f r) : Ev g r := by
  obtain ⟨K, hK⟩ := hf
  refine ⟨K + K0 + 1, fun k hk => ?_⟩
  obtain ⟨m, rfl⟩ : ∃ m, k = m + 1 := ⟨k - 1, by omega⟩
  rw [h m (by omega)]
  exact hK m (by omega)
variable {base left right : Int} {l r : List S37}
theorem l1_ok {o a b n : Int} {out : List S81} {v : List S81 × Bool} (hl : l.length ≤ 1000000) (hr' : r.length ≤ 1000000) (hr : IsRun (matD (-1) l) (matD (-1) r) base o a b n) (hp : Pos base left right o a b) (hq : Pos base left right (o + n) (a + n) (b + n))
    (s1 : base ≤ 1000000) (s2 : left ≤ 1000000) (s3 : right ≤ 1000000)
    (hv : Ev (fun k => J35_.j4 k base left right l r out o a b n) v) : Ev (fun k => J35_.l1 k base left right l r out o a b 0) v := by
  obtain ⟨o0, o1, a0, a1, b0, b1⟩ := hp
  obtain ⟨p0, p1, q0, q1, r0, r1⟩ := hq
  have n0 := hr.n0
  obtain ⟨N, rfl⟩ := Int.eq_ofNat_of_zero_le n0
  have := down (P := fun i => Ev (fun k => J35_.l1 k base left right l r out o a b (i : Int)) v) N (by
    obtain ⟨K1, h1⟩ := at_ok l (o + N) hl
    obtain ⟨K2, h2⟩ := at_ok r (o + N) hr'
    refine evstep (K1 + K2) (fun k hk => ?_) hv
    simp only [J35_.l1]
    rw [w64 (x := o + N) (by omega) (by omega), w64 (x := a + N) (by omega) (by omega), w64 (x := b + N) (by omega) (by omega)]
    by_cases c1 : o + (N : Int) < base
    · rw [if_pos c1, show J36_.f k l (o + N) = _ from h1 k (by omega), Option.bind_some, show J36_.f k r (o + N) = _ from h2 k (by omega), Option.bind_some]
      by_cases c2 : matD (-1) l (o + N) = a + N
      · rw [if_pos c2, if_neg (fun c3 => hr.stop ⟨c1, c2, c3⟩)]
      · rw [if_neg c2]
    · rw [if_neg c1]) (fun i hi ih => by
    obtain ⟨K1, h1⟩ := at_ok l (o + i) hl
    obtain ⟨K2, h2⟩ := at_ok r (o + i) hr'
    refine evstep (K1 + K2) (fun k hk => ?_) ih
    obtain ⟨c1, c2, c3⟩ := hr.all (i : Int) (by omega) (by omega)
    simp only [J35_.l1]
    rw [w64 (x := o + i) (by omega) (by omega), w64 (x := a + i) (by omega) (by omega), w64 (x := b + i) (by omega) (by omega)]
    rw [if_pos c1, show J36_.f k l (o + i) = _ from h1 k (by omega), Option.bind_some, show J36_.f k r (o + i) = _ from h2 k (by omega), Option.bind_some, if_pos c2, if_pos c3, next64 (by omega)]) 0 (by omega)
  exact this
theorem l2_ok {o a b t : Int} {out : List S81} {v : List S81 × Bool} {B : Bool} {y1 y2 y3 y4 y5 y6 : Int} (hl : l.length ≤ 1000000) (hr' : r.length ≤ 1000000) (hn : IsNxt (matD (-1) l) (matD (-1) r) base o a b t) (o0 : 0 ≤ o)
    (s1 : base ≤ 1000000)
    (hv : Ev (fun k => J35_.j6 k base left right l r out t B y1 y2 y3 y4 y5 y6) v) : Ev (fun k => J35_.l2 k base left right l r out a b o B y1 y2 y3 y4 y5 y6) v := by
  have t0 := hn.t0
  have t1 := hn.t1
  obtain ⟨N, rfl⟩ := Int.eq_ofNat_of_zero_le o0
  obtain ⟨M, rfl⟩ := Int.eq_ofNat_of_zero_le (show 0 ≤ t by omega)
  have := down (P := fun i => N ≤ i → Ev (fun k => J35_.l2 k base left right l r out a b (i : Int) B y1 y2 y3 y4 y5 y6) v) M (by
    intro _
    obtain ⟨K1, h1⟩ := at_ok l M hl
    obtain ⟨K2, h2⟩ := at_ok r M hr'
    refine evstep (K1 + K2) (fun k hk => ?_) hv
    simp only [J35_.l2]
    by_cases c1 : (M : Int) < base
    · obtain ⟨x1, x2⟩ := hn.stop c1
      rw [if_pos c1, show J36_.f k l M = _ from h1 k (by omega), Option.bind_some, if_neg (by omega), show J36_.f k r M = _ from h2 k (by omega), Option.bind_some, if_neg (by omega)]
    · rw [if_neg c1]) (fun i hi ih hN => by
    obtain ⟨K1, h1⟩ := at_ok l i hl
    obtain ⟨K2, h2⟩ := at_ok r i hr'
    refine evstep (K1 + K2) (fun k hk => ?_) (ih (by omega))
    simp only [J35_.l2]
    rw [if_pos (show (i : Int) < base by omega), show J36_.f k l i = _ from h1 k (by omega), Option.bind_some, next64 (by omega)]
    by_cases c1 : matD (-1) l i < a
    · rw [if_pos c1]
    · have h2' : matD (-1) r i < b := by
        rcases hn.all (i : Int) (by omega) (by omega) with h | h
        · exact absurd h c1
        · exact h
      rw [if_neg c1, show J36_.f k r i = _ from h2 k (by omega), Option.bind_some, if_pos h2']) N (by omega) (Nat.le_refl _)
  exact this
theorem l0_more {o a b : Int} {out : List S81} {v : List S81 × Bool} (hm : More base left right o a b) (hv : Ev (fun k => J35_.l1 k base left right l r out o a b 0) v) : Ev (fun k => J35_.l0 k base left right l r out o a b) v := by
  refine Ev.step (f := fun k => J35_.j2 k base left right l r out o a b true) (fun k => ?_) (Ev.step (fun k => ?_) hv)
  · simp only [J35_.l0]
    by_cases c1 : o < base
    · rw [if_pos c1]
    by_cases c2 : a < left
    · rw [if_neg c1, if_pos c2]
    rcases hm with h | h | h
    · exact absurd h c1
    · exact absurd h c2
    · rw [if_neg c1, if_neg c2, decide_eq_true h]
  · simp only [J35_.j2]
    rw [if_pos trivial]
theorem rsweep_ok (hl : l.length ≤ 1000000) (hr' : r.length ≤ 1000000)
    (s1 : base ≤ 1000000) (s2 : left ≤ 1000000) (s3 : right ≤ 1000000) {o a b : Int} {cs : List S81} (h : Sw (matD (-1) l) (matD (-1) r) base left right o a b cs) :
    ∀ out : List S81, out.length + cs.length ≤ 1000000 → Ev (fun k => J35_.l0 k base left right l r out o a b) (out ++ cs, true) := by
  induction h with
  | done o a b hp hm =>
    intro out ho
    rw [List.append_nil]
    refine Ev.step (f := fun k => J35_.j2 k base left right l r out o a b false) (fun k => ?_) (Ev.step (f := fun _ => some (out, true)) (fun k => ?_) (Ev.now _))
    · simp only [J35_.l0]
      unfold More at hm
      rw [if_neg (by omega), if_neg (by omega), decide_eq_false (by omega)]
    · simp only [J35_.j2]
      rw [if_neg Bool.false_ne_true]
  | run o a b n cs hp hm hr hn h ih =>
    intro out ho
    rw [List.length_cons] at ho
    have hq := h.pos
    refine l0_more hm (l1_ok hl hr' hr hp hq s1 s2 s3 ?_)
    have hi := ih (out ++ [⟨true, ⟨o, o + n⟩, ⟨a, a + n⟩, ⟨b, b + n⟩⟩]) (by rw [List.length_append, List.length_singleton]; omega)
    rw [List.append_assoc] at hi
    obtain ⟨o0, o1, a0, a1, b0, b1⟩ := hp
    obtain ⟨p0, p1, q0, q1, r0, r1⟩ := hq
    refine Ev.step (fun k => ?_) hi
    simp only [J35_.j4]
    rw [if_neg (by omega), if_pos (by omega), w64 (x := o + n) (by omega) (by omega), w64 (x := a + n) (by omega) (by omega), w64 (x := b + n) (by omega) (by omega), decide_eq_true (show n > 0 from hn)]
  | gap o a b t cs hp hm hr hn ht h ih =>
    intro out ho
    rw [List.length_cons] at ho
    obtain ⟨K1, h1⟩ := at_ok l t hl
    obtain ⟨K2, h2⟩ := at_ok r t hr'
    refine l0_more hm (l1_ok hl hr' hr hp (by rw [Int.add_zero, Int.add_zero, Int.add_zero]; exact hp) s1 s2 s3 ?_)
    refine Ev.step (fun k => ?_) (l2_ok (B := false) (y1 := o) (y2 := wrap64 (o + 0)) (y3 := a) (y4 := wrap64 (a + 0)) (y5 := b) (y6 := wrap64 (b + 0)) (left := left) (right := right) (out := out) (v := (out ++ ⟨false, ⟨o, t⟩, ⟨a, matD (-1) l t⟩, ⟨b, matD (-1) r t⟩⟩ :: cs, true)) hl hr' hn hp.o0 s1 ?_)
    · simp only [J35_.j4]
      rw [if_pos trivial]; rfl
    · have hi := ih (out ++ [⟨false, ⟨o, t⟩, ⟨a, matD (-1) l t⟩, ⟨b, matD (-1) r t⟩⟩]) (by rw [List.length_append, List.length_singleton]; omega)
      rw [List.append_assoc] at hi
      refine evstep (K1 + K2) (fun k hk => ?_) hi
      simp only [J35_.j6]
      rw [if_pos ht, show J36_.f k l t = _ from h1 k (by omega), Option.bind_some, show J36_.f k r t = _ from h2 k (by omega), Option.bind_some, if_pos (by omega)]
  | last o a b hp hm hr hn =>
    intro out ho
    refine l0_more hm (l1_ok hl hr' hr hp (by rw [Int.add_zero, Int.add_zero, Int.add_zero]; exact hp) s1 s2 s3 ?_)
    refine Ev.step (fun k => ?_) (l2_ok (B := false) (y1 := o) (y2 := wrap64 (o + 0)) (y3 := a) (y4 := wrap64 (a + 0)) (y5 := b) (y6 := wrap64 (b + 0)) (left := left) (right := right) (out := out) (v := (out ++ [⟨false, ⟨o, base⟩, ⟨a, left⟩, ⟨b, right⟩⟩], true)) hl hr' hn hp.o0 s1 ?_)
    · simp only [J35_.j4]
      rw [if_pos trivial]; rfl
    · refine Ev.step (f := fun k => J35_.l0 k base left right l r (out ++ [⟨false, ⟨o, base⟩, ⟨a, left⟩, ⟨b, right⟩⟩]) base left right) (fun k => ?_) ?_
      · simp only [J35_.j6]
        rw [if_neg (by omega), if_pos (by simp at ho; omega)]
      · refine Ev.step (f := fun k => J35_.j2 k base left right l r (out ++ [⟨false, ⟨o, base⟩, ⟨a, left⟩, ⟨b, right⟩⟩]) base left right false) (fun k => ?_) (Ev.step (f := fun _ => some (out ++ [⟨false, ⟨o, base⟩, ⟨a, left⟩, ⟨b, right⟩⟩], true)) (fun k => ?_) (Ev.now _))
        · simp only [J35_.l0]
          rw [if_neg (by omega), if_neg (by omega), decide_eq_false (by omega)]
        · simp only [J35_.j2]
          rw [if_neg Bool.false_ne_true]
theorem rof_yes (hl : l.length ≤ 1000000) (hr' : r.length ≤ 1000000) (s1 : base ≤ 1000000) (s2 : left ≤ 1000000) (s3 : right ≤ 1000000) (h : (0 ≤ base ∧ 0 ≤ left ∧ 0 ≤ right) ∧ riseB base left (-1) (-1) l = true ∧ riseB base right (-1) (-1) r = true) {cs : List S81}
    (hs : Sw (matD (-1) l) (matD (-1) r) base left right 0 0 0 cs) (hc : cs.length ≤ 1000000) : Ev (fun k => J35_.f k base left right l r) (cs, true) := by
  obtain ⟨K1, h1⟩ := rises_ok base left l hl
  obtain ⟨K2, h2⟩ := rises_ok base right r hr'
  obtain ⟨K3, h3⟩ : Ev (fun k => J35_.j0 k base left right l r false) (cs, true) := by
    refine Ev.step (fun k => ?_) (rsweep_ok hl hr' s1 s2 s3 hs [] (by simpa using hc))
    simp only [J35_.j0]; rw [if_neg Bool.false_ne_true]
  refine ⟨K1 + K2 + K3, fun k hk => ?_⟩
  have h3' : J35_.j0 k base left right l r false = some (cs, true) := h3 k (by omega)
  obtain ⟨⟨c1, c2, c3⟩, c4, c5⟩ := h
  show J35_.f k base left right l r = some (cs, true)
  unfold J35_.f
  rw [if_neg (by omega), if_neg (by omega), if_neg (by omega), show J37_.f k base left l = _ from h1 k (by omega), Option.bind_some, if_pos c4, show J37_.f k base right r = _ from h2 k (by omega), Option.bind_some, c5, Bool.not_true, h3']
end Chk
end Go.Proofs.Ytadafplbgophfaa.PA
end
section
namespace Go.Proofs.Ytadafplbgophfaa.PA
open Go.RowKit Go.Proofs.YtadafplbgophfaaW.PrintWords Go.Proofs.YtadafplbgophfaaW.PrintLast Go.Proofs.YtadafplbgophfaaW.PrintMore
attribute [local go_sem] max2_int min2_int max_two min_two max_three min_three max_four min_four   -- for this text's walks alone
set_option linter.unusedVariables false
set_option linter.unusedSimpArgs false
def J25_.f (a0 : ByteArray) : Option (ByteArray) := if 0 ≤ (mn (a0.size : Int) 200) then (if (mn (a0.size : Int) 200) ≤ (a0.size : Int) then (some (a0.extract 0 ((mn (a0.size : Int) 200) : Int).toNat)) else (none)) else (none)
set_option maxHeartbeats 8000000 in
set_option maxRecDepth 100000 in
theorem J25_.calls (a0 : ByteArray) (r : ByteArray) (w : World) (h : J25_.f a0 = some r) :
  Calls Try.prog 72 #[.string a0] w fun e w' => e = .returned (.string r) ∧ Drawn0 w w' := by
 have H : (if 0 ≤ (mn (a0.size : Int) 200) then (if (mn (a0.size : Int) 200) ≤ (a0.size : Int) then (some (a0.extract 0 ((mn (a0.size : Int) 200) : Int).toNat)) else (none)) else (none)) = some r := h
 clear h
 obtain ⟨ji2, hji2⟩ : ∃ j_ : Int, (mn (a0.size : Int) 200) = j_ := ⟨_, rfl⟩
 replace H : (if 0 ≤ (ji2) then (if (ji2) ≤ (a0.size : Int) then (some (a0.extract 0 ((ji2) : Int).toNat)) else (none)) else (none)) = some r := by first | (rw [hji2] at H; exact H) | (simp only [hji2] at H ⊢; exact H)
 (try (have hji2h : ji2 ≤ 200 := by (rw [← hji2]; unfold mn; (repeat' split) <;> omega)))
 (try (have hji2g : ji2 ≤ 64 := by omega))
 (try (have hji2l : 0 ≤ ji2 := by (rw [← hji2]; unfold mn; (repeat' split) <;> omega)))
 (try (have hji2m : 0 ≤ ji2 := by omega))
 have hji2_ : (if 200 < (a0.size : Int) then 200 else (a0.size : Int)) = ji2 := hji2
 have hji2_n : (if 200 < a0.size then 200 else (a0.size : Int)) = ji2 := by first | exact_mod_cast hji2_ | (rw [← hji2_]; simp only [Int.ofNat_lt]; done) | (rw [← hji2_]; (repeat' split) <;> omega)
 by_cases c3 : 0 ≤ (ji2)
 ·rw [if_pos c3] at H
  have c3b0 := eq_true c3
  have c3b1 : decide (0 ≤ (ji2)) = true := decide_eq_true c3
  clear c3
  by_cases c4 : (ji2) ≤ (a0.size : Int)
  ·rw [if_pos c4] at H
   have c4b0 := eq_true c4
   have c4b1 : decide ((ji2) ≤ (a0.size : Int)) = true := decide_eq_true c4
   clear c4
   obtain rfl := Option.some.inj H
   go_enter Try.func72, Try.ntmps72
   go_wp2
   go_ret
   exact ⟨by first | rfl | (simp; done) | (simp only [← hji2] <;> (first | rfl | simp)) | (simp [*]; done), by repeat (first | exact Drawn0.refl _ | apply Drawn0.step)⟩
  ·rw [if_neg c4] at H
   exact absurd H (by simp)
 ·rw [if_neg c3] at H
  exact absurd H (by simp)
end Go.Proofs.Ytadafplbgophfaa.PA
end
section
namespace Go.Proofs.Ytadafplbgophfaa.PA
open Go.RowKit Go.Proofs.YtadafplbgophfaaW.PrintWords Go.Proofs.YtadafplbgophfaaW.PrintLast Go.Proofs.YtadafplbgophfaaW.PrintMore
attribute [local go_sem] max2_int min2_int max_two min_two max_three min_three max_four min_four   -- for this text's walks alone
set_option linter.unusedVariables false
set_option linter.unusedSimpArgs false
def J30_.l0 : Nat → ByteArray → List ByteArray → Int → Int → Option (List ByteArray)
 | 0, _, _, _, _ => none
 | k + 1, x0, x3, x4, x5 => if x5 < (x0.size : Int) then (if 0 ≤ x5 then (if (bt x0 x5) = 10 then (if 0 ≤ x4 then (if x4 ≤ (wrap64 (x5 + 1)) then (if (wrap64 (x5 + 1)) ≤ (x0.size : Int) then (if x3.length < 8796093022208 then (J30_.l0 k x0 (x3 ++ [x0.extract (x4 : Int).toNat ((wrap64 (x5 + 1)) : Int).toNat]) (wrap64 (x5 + 1)) (wrap64 (x5 + 1))) else (none)) else (none)) else (none)) else (none)) else (if (wrap64 (x5 + 1)) = (x0.size : Int) then (if 0 ≤ x4 then (if x4 ≤ (wrap64 (x5 + 1)) then (if (wrap64 (x5 + 1)) ≤ (x0.size : Int) then (if x3.length < 8796093022208 then (J30_.l0 k x0 (x3 ++ [x0.extract (x4 : Int).toNat ((wrap64 (x5 + 1)) : Int).toNat]) (wrap64 (x5 + 1)) (wrap64 (x5 + 1))) else (none)) else (none)) else (none)) else (none)) else (J30_.l0 k x0 x3 x4 (wrap64 (x5 + 1))))) else (none)) else (some x3)
def J30_.f (k : Nat) (a0 : ByteArray) : Option (List ByteArray) := J30_.l0 k a0 ([] : List ByteArray) 0 0
set_option maxHeartbeats 8000000 in
set_option maxRecDepth 100000 in
theorem J30_.calls (k : Nat) (a0 : ByteArray) (r : List ByteArray) (w : World) (h : J30_.f k a0 = some r) :
  Calls Try.prog 117 #[.string a0] w fun e w' => ∃ v0_ : Value, e = .returned (v0_) ∧ Kd.R Kd.string 9 w' w.heap.size (fun _ => True) v0_ r ∧ Below w.heap.size w w' := by
 have HB := Ja38_.mk (Below.refl w.heap.size w)
 have H : (J30_.l0 k a0 ([] : List ByteArray) 0 0) = some r := h
 clear h
 have H' := Ja38_.mk H
 clear H
 go_enter Try.func117, Try.ntmps117
 go_wp2
 go_loopg [3, 4, 5] k (fun kq v3 v4 v5 w' => ∃ (x3_1 : List ByteArray) (x4_1 : Int) (x5_1 : Int), v4 = .int .i64 x4_1 ∧ v5 = .int .i64 x5_1 ∧ Ja38_ (J30_.l0 kq a0 x3_1 x4_1 x5_1 = some r) ∧ Ja38_ (kq ≤ k) ∧ Ja38_ (Kd.R Kd.string 9 w' w.heap.size (fun _ => True) v3 x3_1) ∧ Ja38_ (Below w.heap.size w w'))
 case atStart => exact ⟨(([] : List ByteArray)), (0), (0), (by first | rfl | (simp; done) | (simp [*]; done)), (by first | rfl | (simp; done) | (simp [*]; done)), H', ⟨Nat.le_refl _⟩, ⟨by first | exact Kd.R_nil _ _ _ _ _ | exact Kd.N_nil _ _ _ _ _ | exact Kd.V_nil _ _ _ _ _ | exact Kd.Q_nil _ _ _ _ _ | exact Kd.S_nil _ _ _ _ _⟩, ⟨by repeat (first | (with_reducible first | exact HB.out | apply Ja43_ | apply Ja41_ | apply Ja42_) | exact HB.out)⟩⟩
 case round =>
  clear H'
  try clear c1
  obtain ⟨x3_1, x4_1, x5_1, rfl, rfl, HA, HK1, HO_3, HB⟩ := hrel
  cases gk with
  | zero => exact absurd HA.out (by simp [J30_.l0])
  | succ k1 =>
   have H := HA.out
   clear HA
   simp only [J30_.l0] at H
   by_cases c2 : x5_1 < (a0.size : Int)
   ·rw [if_pos c2] at H
    have c2b0 : decide (x5_1 < (a0.size : Int)) = true := decide_eq_true c2
    clear c2
    by_cases c3 : 0 ≤ x5_1
    ·rw [if_pos c3] at H
     have c3b0 : decide (0 ≤ x5_1) = true := decide_eq_true c3
     clear c3
     by_cases c5 : (bt a0 x5_1) = 10
     ·rw [if_pos c5] at H
      have c5b0 : ((bt a0 x5_1) == 10) = true := beq_iff_eq.mpr c5
      have c5b1 : ((bt a0 x5_1) != 10) = false := bne_eq_false_iff_eq.mpr c5
      clear c5
      by_cases c6 : 0 ≤ x4_1
      ·rw [if_pos c6] at H
       have c6b0 := eq_true c6
       have c6b1 : decide (0 ≤ x4_1) = true := decide_eq_true c6
       clear c6
       by_cases c7 : x4_1 ≤ (wrap64 (x5_1 + 1))
       ·rw [if_pos c7] at H
        have c7b0 := eq_true c7
        have c7b1 : decide (x4_1 ≤ (wrap64 (x5_1 + 1))) = true := decide_eq_true c7
        by_cases c8 : (wrap64 (x5_1 + 1)) ≤ (a0.size : Int)
        ·rw [if_pos c8] at H
         have c8b0 := eq_true c8
         have c8b1 : decide ((wrap64 (x5_1 + 1)) ≤ (a0.size : Int)) = true := decide_eq_true c8
         by_cases c9 : x3_1.length < 8796093022208
         ·rw [if_pos c9] at H
          have LMc9 := Ja38_.mk c9
          clear c9
          obtain ⟨y101, hy101⟩ : ∃ y_ : List ByteArray, y_ = (x3_1 ++ [a0.extract (x4_1 : Int).toNat ((wrap64 (x5_1 + 1)) : Int).toNat]) := ⟨_, rfl⟩
          replace H : (J30_.l0 k1 a0 y101 (wrap64 (x5_1 + 1)) (wrap64 (x5_1 + 1))) = some r := by first | (rw [hy101]; with_reducible exact H) | (have H2_ := (Option.bind_some _ _).symm.trans H; rw [hy101]; with_reducible exact H2_) | (have H2_ := (Option.bind_some _ _).symm.trans H; with_reducible exact H2_) | with_reducible exact H | (rw [hy101]; exact H) | exact H
          have Ny101 := Ja38_.mk hy101
          clear hy101
          have H' := Ja38_.mk H
          clear H
          have p4 : 0 ≤ (x5_1 : Int) := of_decide_eq_true (by first | (with_reducible assumption) | assumption)
          have q4 : x5_1 < (a0.size : Int) := of_decide_eq_true (by first | (with_reducible assumption) | assumption)
          have hx4 := bt_at a0 x5_1
          replace p4 := eq_true p4
          replace q4 := eq_true q4
          go_wp2_with (first | ((with_reducible refine gate_builtin (b := .append) (xs := #[.tmp 23, .tmp 29]) rfl ?_); (try (refine gate_guard (by rfl) ?_; dsimp only)); at_builtin; refine Kd.R_append Kd.string (w0 := w) w.heap.size rfl (.tmp 23) (.tmp 29) 27 9 (.string ⟨#[]⟩) 16 rfl Try.underlying27 info9 rfl (by decide) (by omega) u3 x3_1 (a0.extract (x4_1 : Int).toNat ((wrap64 (x5_1 + 1)) : Int).toNat) [.string (a0.extract (x4_1 : Int).toNat ((wrap64 (x5_1 + 1)) : Int).toNat)] (fun _ => True) (fun _ => False) rfl rfl ?aP (fun _ hk => hk.elim) ?aF ?aO ?aB ?aS ?aL ?_; (case aP => exact rfl); (case aB => exact (by repeat (first | (with_reducible first | exact HB.out | apply Ja43_ | apply Ja41_ | apply Ja42_) | exact HB.out))); (case aF => exact (fun _ _ => trivial)); (case aO => exact (by (with_reducible repeat (first | apply Kd.R_alloc | apply Kd.R_drewN | apply Kd.R_drew)); exact HO_3.out)); (case aS => exact (Ja45_ (by repeat (first | (with_reducible first | exact HB.out | apply Ja43_ | apply Ja41_ | apply Ja42_) | exact HB.out)))); (case aL => have := LMc9.out; omega); intro v102 w10 ho hb hg hat; rw [← Ny101.out] at ho; have n0_ := Ja38_.mk (hb); have n1_ := Ja38_.mk (ho); clear HB; clear HO_3; have HB := n0_; have HO103 := n1_; clear n0_ n1_; clear ho hb hg hat))
          go_roundg k1
          case measure => have := HK1.out; omega
          case rel => exact ⟨(y101), (wrap64 (x5_1 + 1)), (wrap64 (x5_1 + 1)), (by first | rfl | (simp; done) | (simp [*]; done)), (by first | rfl | (simp; done) | (simp [*]; done)), H', ⟨by have := HK1.out; omega⟩, ⟨by (with_reducible repeat (first | apply Kd.R_alloc | apply Kd.R_drewN | apply Kd.R_drew)); exact HO103.out⟩, ⟨by repeat (first | (with_reducible first | exact HB.out | apply Ja43_ | apply Ja41_ | apply Ja42_) | exact HB.out)⟩⟩
         ·rw [if_neg c9] at H
          exact absurd H (by simp)
        ·rw [if_neg c8] at H
         exact absurd H (by simp)
       ·rw [if_neg c7] at H
        exact absurd H (by simp)
      ·rw [if_neg c6] at H
       exact absurd H (by simp)
     ·rw [if_neg c5] at H
      have c5b0 : ((bt a0 x5_1) == 10) = false := beq_eq_false_iff_ne.mpr c5
      have c5b1 : ((bt a0 x5_1) != 10) = true := bne_iff_ne.mpr c5
      by_cases c11 : (wrap64 (x5_1 + 1)) = (a0.size : Int)
      ·rw [if_pos c11] at H
       have c11b0 : ((wrap64 (x5_1 + 1)) == (a0.size : Int)) = true := beq_iff_eq.mpr c11
       have c11b1 : ((wrap64 (x5_1 + 1)) != (a0.size : Int)) = false := bne_eq_false_iff_eq.mpr c11
       clear c11
       by_cases c12 : 0 ≤ x4_1
       ·rw [if_pos c12] at H
        have c12b0 := eq_true c12
        have c12b1 : decide (0 ≤ x4_1) = true := decide_eq_true c12
        clear c12
        by_cases c13 : x4_1 ≤ (wrap64 (x5_1 + 1))
        ·rw [if_pos c13] at H
         have c13b0 := eq_true c13
         have c13b1 : decide (x4_1 ≤ (wrap64 (x5_1 + 1))) = true := decide_eq_true c13
         by_cases c14 : (wrap64 (x5_1 + 1)) ≤ (a0.size : Int)
         ·rw [if_pos c14] at H
          have c14b0 := eq_true c14
          have c14b1 : decide ((wrap64 (x5_1 + 1)) ≤ (a0.size : Int)) = true := decide_eq_true c14
          by_cases c15 : x3_1.length < 8796093022208
          ·rw [if_pos c15] at H
           have LMc15 := Ja38_.mk c15
           clear c15
           obtain ⟨y104, hy104⟩ : ∃ y_ : List ByteArray, y_ = (x3_1 ++ [a0.extract (x4_1 : Int).toNat ((wrap64 (x5_1 + 1)) : Int).toNat]) := ⟨_, rfl⟩
           replace H : (J30_.l0 k1 a0 y104 (wrap64 (x5_1 + 1)) (wrap64 (x5_1 + 1))) = some r := by first | (rw [hy104]; with_reducible exact H) | (have H2_ := (Option.bind_some _ _).symm.trans H; rw [hy104]; with_reducible exact H2_) | (have H2_ := (Option.bind_some _ _).symm.trans H; with_reducible exact H2_) | with_reducible exact H | (rw [hy104]; exact H) | exact H
           have Ny104 := Ja38_.mk hy104
           clear hy104
           have H' := Ja38_.mk H
           clear H
           have p4 : 0 ≤ (x5_1 : Int) := of_decide_eq_true (by first | (with_reducible assumption) | assumption)
           have q4 : x5_1 < (a0.size : Int) := of_decide_eq_true (by first | (with_reducible assumption) | assumption)
           have hx4 := bt_at a0 x5_1
           replace p4 := eq_true p4
           replace q4 := eq_true q4
           go_wp2_with (first | ((with_reducible refine gate_builtin (b := .append) (xs := #[.tmp 23, .tmp 29]) rfl ?_); (try (refine gate_guard (by rfl) ?_; dsimp only)); at_builtin; refine Kd.R_append Kd.string (w0 := w) w.heap.size rfl (.tmp 23) (.tmp 29) 27 9 (.string ⟨#[]⟩) 16 rfl Try.underlying27 info9 rfl (by decide) (by omega) u3 x3_1 (a0.extract (x4_1 : Int).toNat ((wrap64 (x5_1 + 1)) : Int).toNat) [.string (a0.extract (x4_1 : Int).toNat ((wrap64 (x5_1 + 1)) : Int).toNat)] (fun _ => True) (fun _ => False) rfl rfl ?aP (fun _ hk => hk.elim) ?aF ?aO ?aB ?aS ?aL ?_; (case aP => exact rfl); (case aB => exact (by repeat (first | (with_reducible first | exact HB.out | apply Ja43_ | apply Ja41_ | apply Ja42_) | exact HB.out))); (case aF => exact (fun _ _ => trivial)); (case aO => exact (by (with_reducible repeat (first | apply Kd.R_alloc | apply Kd.R_drewN | apply Kd.R_drew)); exact HO_3.out)); (case aS => exact (Ja45_ (by repeat (first | (with_reducible first | exact HB.out | apply Ja43_ | apply Ja41_ | apply Ja42_) | exact HB.out)))); (case aL => have := LMc15.out; omega); intro v105 w16 ho hb hg hat; rw [← Ny104.out] at ho; have n0_ := Ja38_.mk (hb); have n1_ := Ja38_.mk (ho); clear HB; clear HO_3; have HB := n0_; have HO106 := n1_; clear n0_ n1_; clear ho hb hg hat))
           go_roundg k1
           case measure => have := HK1.out; omega
           case rel => exact ⟨(y104), (wrap64 (x5_1 + 1)), (wrap64 (x5_1 + 1)), (by first | rfl | (simp; done) | (simp [*]; done)), (by first | rfl | (simp; done) | (simp [*]; done)), H', ⟨by have := HK1.out; omega⟩, ⟨by (with_reducible repeat (first | apply Kd.R_alloc | apply Kd.R_drewN | apply Kd.R_drew)); exact HO106.out⟩, ⟨by repeat (first | (with_reducible first | exact HB.out | apply Ja43_ | apply Ja41_ | apply Ja42_) | exact HB.out)⟩⟩
          ·rw [if_neg c15] at H
           exact absurd H (by simp)
         ·rw [if_neg c14] at H
          exact absurd H (by simp)
        ·rw [if_neg c13] at H
         exact absurd H (by simp)
       ·rw [if_neg c12] at H
        exact absurd H (by simp)
      ·rw [if_neg c11] at H
       have c11b0 : ((wrap64 (x5_1 + 1)) == (a0.size : Int)) = false := beq_eq_false_iff_ne.mpr c11
       have c11b1 : ((wrap64 (x5_1 + 1)) != (a0.size : Int)) = true := bne_iff_ne.mpr c11
       have H' := Ja38_.mk H
       clear H
       have p4 : 0 ≤ (x5_1 : Int) := of_decide_eq_true (by first | (with_reducible assumption) | assumption)
       have q4 : x5_1 < (a0.size : Int) := of_decide_eq_true (by first | (with_reducible assumption) | assumption)
       have hx4 := bt_at a0 x5_1
       replace p4 := eq_true p4
       replace q4 := eq_true q4
       go_wp2
       go_roundg k1
       case measure => have := HK1.out; omega
       case rel => exact ⟨(x3_1), (x4_1), (wrap64 (x5_1 + 1)), (by first | rfl | (simp; done) | (simp [*]; done)), (by first | rfl | (simp; done) | (simp [*]; done)), H', ⟨by have := HK1.out; omega⟩, ⟨by (with_reducible repeat (first | apply Kd.R_alloc | apply Kd.R_drewN | apply Kd.R_drew)); exact HO_3.out⟩, ⟨by repeat (first | (with_reducible first | exact HB.out | apply Ja43_ | apply Ja41_ | apply Ja42_) | exact HB.out)⟩⟩
    ·rw [if_neg c3] at H
     exact absurd H (by simp)
   ·rw [if_neg c2] at H
    have c2b0 : decide (x5_1 < (a0.size : Int)) = false := decide_eq_false c2
    clear c2
    obtain rfl := Option.some.inj H
    go_wp2
    go_ret
    exact ⟨_, by first | rfl | (simp [errW_none, errW_some] <;> rfl) | (simp [*, errW_none, errW_some] <;> rfl), by (with_reducible repeat (first | apply Kd.R_alloc | apply Kd.R_drewN | apply Kd.R_drew)); exact HO_3.out, by repeat (first | (with_reducible first | exact HB.out | apply Ja43_ | apply Ja41_ | apply Ja42_) | exact HB.out)⟩
end Go.Proofs.Ytadafplbgophfaa.PA
end
section
namespace Go.Proofs.Ytadafplbgophfaa.PA
open Go.RowKit Go.Proofs.YtadafplbgophfaaW.PrintWords Go.Proofs.YtadafplbgophfaaW.PrintLast Go.Proofs.YtadafplbgophfaaW.PrintMore
attribute [local go_sem] max2_int min2_int max_two min_two max_three min_three max_four min_four   -- for this text's walks alone
set_option linter.unusedVariables false
set_option linter.unusedSimpArgs false
mutual
def J32_.l0 : Nat → List Int → List Int → List (S37) → Option ((List (S37)))
 | 0, _, _, _ => none
 | k + 1, x0, x1, x5 => if (x0.length : Int) > 0 then (J32_.j1 k x0 x1 x5 (decide ((x1.length : Int) > 0))) else (J32_.j1 k x0 x1 x5 false)
def J32_.j1 : Nat → List Int → List Int → List (S37) → Bool → Option ((List (S37)))
 | 0, _, _, _, _ => none
 | k + 1, x0, x1, x5, x15 => if x15 = true then (if 0 ≤ (wrap64 ((x0.length : Int) - 1)) then (if (wrap64 ((x0.length : Int) - 1)) < (x0.length : Int) then (if 0 ≤ (wrap64 ((x1.length : Int) - 1)) then (if (wrap64 ((x1.length : Int) - 1)) < (x1.length : Int) then (if (rd x0 (wrap64 ((x0.length : Int) - 1))) = (rd x1 (wrap64 ((x1.length : Int) - 1))) then ((some (([(⟨wrap64 ((x0.length : Int) - 1), wrap64 ((x1.length : Int) - 1)⟩ : S37)] : List (S37)) : List (S37))).bind fun y103 => (if y103.length + x5.length < 8796093022208 then (if (wrap64 ((x0.length : Int) - 1)) ≤ (x0.length : Int) then (if (wrap64 ((x1.length : Int) - 1)) ≤ (x1.length : Int) then (J32_.l0 k (x0.take ((wrap64 ((x0.length : Int) - 1)) : Int).toNat) (x1.take ((wrap64 ((x1.length : Int) - 1)) : Int).toNat) (y103 ++ x5)) else (none)) else (none)) else (none))) else (if (wrap64 ((x0.length : Int) - 1)) ≤ (x0.length : Int) then ((J31_.f k (x0.take ((wrap64 ((x0.length : Int) - 1)) : Int).toNat) x1).bind fun t124 => ((J31_.f k x0 x1).bind fun t125 => (if t124 = t125 then (J32_.l0 k (x0.take ((wrap64 ((x0.length : Int) - 1)) : Int).toNat) x1 x5) else (if (wrap64 ((x1.length : Int) - 1)) ≤ (x1.length : Int) then (J32_.l0 k x0 (x1.take ((wrap64 ((x1.length : Int) - 1)) : Int).toNat) x5) else (none))))) else (none))) else (none)) else (none)) else (none)) else (none)) else (some x5)
end
def J32_.f (k : Nat) (l0 : List Int) (l1 : List Int) : Option ((List (S37))) := J32_.l0 k l0 l1 ([] : List (S37))
set_option maxHeartbeats 8000000 in
set_option maxRecDepth 100000 in
theorem J32_.calls (k : Nat) (P0_ : Nat → Prop) (A0 : Option Addr) (c0 : Nat) (l0 : List Int) (P1_ : Nat → Prop) (A1 : Option Addr) (c1 : Nat) (l1 : List Int) (r : List (S37)) (w : World) (hs0 : Kd.V (Kd.int .i64) 3 w w.heap.size (fun k_ => P0_ k_) (.slice A0 l0.length c0) l0) (hs1 : Kd.V (Kd.int .i64) 3 w w.heap.size (fun k_ => P1_ k_) (.slice A1 l1.length c1) l1) (h : J32_.f k l0 l1 = some r) :
  Calls Try.prog 118 #[.slice A0 l0.length c0, .slice A1 l1.length c1] w fun e w' => ∃ v0_ : Value, e = .returned (v0_) ∧ Kd.R k37 37 w' w.heap.size (fun k_ => (w.heap.size ≤ k_)) v0_ r ∧ Below w.heap.size w w' := by
 have hu37 := Try.underlying37
 have HO0 := Ja38_.mk (show Kd.V (Kd.int .i64) 3 w w.heap.size (fun k_ => ((P0_ k_ ∨ P1_ k_) ∨ w.heap.size ≤ k_)) (.slice A0 l0.length c0) l0 from Kd.V_mono hs0 (fun k_ hk => .inl (.inl hk)))
 have HO1 := Ja38_.mk (show Kd.V (Kd.int .i64) 3 w w.heap.size (fun k_ => ((P0_ k_ ∨ P1_ k_) ∨ w.heap.size ≤ k_)) (.slice A1 l1.length c1) l1 from Kd.V_mono hs1 (fun k_ hk => .inl (.inr hk)))
 have HB := Ja38_.mk (Below.refl w.heap.size w)
 have H : (J32_.l0 k l0 l1 ([] : List (S37))) = some r := h
 clear h
 have H' := Ja38_.mk H
 clear H
 go_enter Try.func118, Try.ntmps118
 go_wp2
 repeat (go_quiet (fail); try go_wp2)
 go_loopg [0, 1, 5] k (fun kq v0 v1 v5 w' => ∃ (x0_1 : List Int) (x1_1 : List Int) (x5_1 : List (S37)), Ja38_ (J32_.l0 kq x0_1 x1_1 x5_1 = some r) ∧ Ja38_ (kq ≤ k) ∧ Ja38_ (Kd.V (Kd.int .i64) 3 w' w.heap.size (fun k_ => ((P0_ k_ ∨ P1_ k_) ∨ w.heap.size ≤ k_) ∧ some k_ ≠ (v5 : Value).ownBlock) v0 x0_1) ∧ Ja38_ (Kd.V (Kd.int .i64) 3 w' w.heap.size (fun k_ => ((P0_ k_ ∨ P1_ k_) ∨ w.heap.size ≤ k_) ∧ some k_ ≠ (v5 : Value).ownBlock) v1 x1_1) ∧ Ja38_ (Kd.R k37 37 w' w.heap.size (fun k_ => (w.heap.size ≤ k_)) v5 x5_1) ∧ Ja38_ (Below w.heap.size w w'))
 case atStart => exact ⟨(l0), (l1), (([] : List (S37))), H', ⟨Nat.le_refl _⟩, ⟨by (with_reducible repeat (first | apply Kd.V_alloc | apply Kd.V_drewN | apply Kd.V_drew)); exact Kd.V_mono HO0.out (fun _ hk => ⟨hk, (by simp [Value.ownBlock])⟩)⟩, ⟨by (with_reducible repeat (first | apply Kd.V_alloc | apply Kd.V_drewN | apply Kd.V_drew)); exact Kd.V_mono HO1.out (fun _ hk => ⟨hk, (by simp [Value.ownBlock])⟩)⟩, ⟨by first | exact Kd.R_nil _ _ _ _ _ | exact Kd.N_nil _ _ _ _ _ | exact Kd.V_nil _ _ _ _ _ | exact Kd.Q_nil _ _ _ _ _ | exact Kd.S_nil _ _ _ _ _⟩, ⟨by repeat (first | (with_reducible first | exact HB.out | apply Ja43_ | apply Ja41_ | apply Ja42_) | exact HB.out)⟩⟩
 case round =>
  clear H'
  try clear c1
  try clear p2
  obtain ⟨x0_1, x1_1, x5_1, HA, HK1, HO_0, HO_1, HO_5, HB⟩ := hrel
  cases gk with
  | zero => exact absurd HA.out (by simp [J32_.l0])
  | succ k1 =>
   have H := HA.out
   clear HA
   simp only [J32_.l0] at H
   have HC3 := Ja38_.mk H
   clear H
   go_upto_region 2 with (fail)
   repeat (go_quiet (fail); go_upto_region 2 with (fail))
   go_cut [15] (fun v15 wc => ∃ (kq : Nat) (x15_2 : Bool), v15 = .bool x15_2 ∧ Ja38_ (J32_.j1 kq x0_1 x1_1 x5_1 x15_2 = some r) ∧ Ja38_ (kq ≤ k1) ∧ Ja38_ (Kd.V (Kd.int .i64) 3 wc w.heap.size (fun k_ => ((P0_ k_ ∨ P1_ k_) ∨ w.heap.size ≤ k_) ∧ some k_ ≠ (u5 : Value).ownBlock) u0 x0_1) ∧ Ja38_ (Kd.V (Kd.int .i64) 3 wc w.heap.size (fun k_ => ((P0_ k_ ∨ P1_ k_) ∨ w.heap.size ≤ k_) ∧ some k_ ≠ (u5 : Value).ownBlock) u1 x1_1) ∧ Ja38_ (Kd.R k37 37 wc w.heap.size (fun k_ => (w.heap.size ≤ k_)) u5 x5_1) ∧ Ja38_ (Below w.heap.size w wc))
   case first =>
    have H := HC3.out
    clear HC3
    by_cases c4 : (x0_1.length : Int) > 0
    ·rw [if_pos c4] at H
     have c4b0 : decide (0 < (x0_1.length : Int)) = true := decide_eq_true c4
     have c4b1 : decide (0 < x0_1.length) = true := decide_eq_true (by omega)
     clear c4
     (first | rw [c4b0] | (simp only [i64_w, i32_w]; rw [c4b0]) | skip)
     have H' := Ja38_.mk H
     clear H
     obtain ⟨Ao5, co5, eo5⟩ := Kd.V_slice HO_0.out
     subst eo5
     obtain ⟨Ao6, co6, eo6⟩ := Kd.V_slice HO_1.out
     subst eo6
     go_wp2
     repeat (go_quiet (fail); try go_wp2)
     go_meet
     case rel => exact ⟨_, (decide ((x1_1.length : Int) > 0)), (by first | rfl | (simp; done) | (simp [*]; done)), H', ⟨by have := HK1.out; first | omega | exact Nat.le_refl _⟩, ⟨by (with_reducible repeat (first | apply Kd.V_alloc | apply Kd.V_drewN | apply Kd.V_drew)); exact HO_0.out⟩, ⟨by (with_reducible repeat (first | apply Kd.V_alloc | apply Kd.V_drewN | apply Kd.V_drew)); exact HO_1.out⟩, ⟨by (with_reducible repeat (first | apply Kd.R_alloc | apply Kd.R_drewN | apply Kd.R_drew)); exact HO_5.out⟩, ⟨by repeat (first | (with_reducible first | exact HB.out | apply Ja43_ | apply Ja41_ | apply Ja42_) | exact HB.out)⟩⟩
    ·rw [if_neg c4] at H
     have c4b0 : decide (0 < (x0_1.length : Int)) = false := decide_eq_false c4
     have c4b1 : decide (0 < x0_1.length) = false := decide_eq_false (by omega)
     clear c4
     (first | rw [c4b0] | (simp only [i64_w, i32_w]; rw [c4b0]) | skip)
     have H' := Ja38_.mk H
     clear H
     obtain ⟨Ao7, co7, eo7⟩ := Kd.V_slice HO_0.out
     subst eo7
     go_wp2
     repeat (go_quiet (fail); try go_wp2)
     go_meet
     case rel => exact ⟨_, (false), (by first | rfl | (simp; done) | (simp [*]; done)), H', ⟨by have := HK1.out; first | omega | exact Nat.le_refl _⟩, ⟨by (with_reducible repeat (first | apply Kd.V_alloc | apply Kd.V_drewN | apply Kd.V_drew)); exact HO_0.out⟩, ⟨by (with_reducible repeat (first | apply Kd.V_alloc | apply Kd.V_drewN | apply Kd.V_drew)); exact HO_1.out⟩, ⟨by (with_reducible repeat (first | apply Kd.R_alloc | apply Kd.R_drewN | apply Kd.R_drew)); exact HO_5.out⟩, ⟨by repeat (first | (with_reducible first | exact HB.out | apply Ja43_ | apply Ja41_ | apply Ja42_) | exact HB.out)⟩⟩
   case rest =>
    clear HC3
    try clear c1
    try clear p2
    try clear c4
    try clear c4b0
    try clear c4b1
    try clear p2
    obtain ⟨kq, x15_2, rfl, HA, HJ2, HO_0, HO_1, HO_5, HB⟩ := hcut
    cases kq with
    | zero => exact absurd HA.out (by simp [J32_.j1])
    | succ kj2 =>
     have H := HA.out
     clear HA
     simp only [J32_.j1] at H
     by_cases c8 : x15_2 = true
     ·subst c8
      have H1 : (if 0 ≤ (wrap64 ((x0_1.length : Int) - 1)) then (if (wrap64 ((x0_1.length : Int) - 1)) < (x0_1.length : Int) then (if 0 ≤ (wrap64 ((x1_1.length : Int) - 1)) then (if (wrap64 ((x1_1.length : Int) - 1)) < (x1_1.length : Int) then (if (rd x0_1 (wrap64 ((x0_1.length : Int) - 1))) = (rd x1_1 (wrap64 ((x1_1.length : Int) - 1))) then ((some (([(⟨wrap64 ((x0_1.length : Int) - 1), wrap64 ((x1_1.length : Int) - 1)⟩ : S37)] : List (S37)) : List (S37))).bind fun y103 => (if y103.length + x5_1.length < 8796093022208 then (if (wrap64 ((x0_1.length : Int) - 1)) ≤ (x0_1.length : Int) then (if (wrap64 ((x1_1.length : Int) - 1)) ≤ (x1_1.length : Int) then (J32_.l0 kj2 (x0_1.take ((wrap64 ((x0_1.length : Int) - 1)) : Int).toNat) (x1_1.take ((wrap64 ((x1_1.length : Int) - 1)) : Int).toNat) (y103 ++ x5_1)) else (none)) else (none)) else (none))) else (if (wrap64 ((x0_1.length : Int) - 1)) ≤ (x0_1.length : Int) then ((J31_.f kj2 (x0_1.take ((wrap64 ((x0_1.length : Int) - 1)) : Int).toNat) x1_1).bind fun t124 => ((J31_.f kj2 x0_1 x1_1).bind fun t125 => (if t124 = t125 then (J32_.l0 kj2 (x0_1.take ((wrap64 ((x0_1.length : Int) - 1)) : Int).toNat) x1_1 x5_1) else (if (wrap64 ((x1_1.length : Int) - 1)) ≤ (x1_1.length : Int) then (J32_.l0 kj2 x0_1 (x1_1.take ((wrap64 ((x1_1.length : Int) - 1)) : Int).toNat) x5_1) else (none))))) else (none))) else (none)) else (none)) else (none)) else (none)) = some r := by rw [if_pos rfl] at H; exact H
      clear H
      have H := H1
      clear H1
      obtain ⟨ji9, hji9⟩ : ∃ j_ : Int, (wrap64 ((x0_1.length : Int) - 1)) = j_ := ⟨_, rfl⟩
      replace H : (if 0 ≤ (ji9) then (if (ji9) < (x0_1.length : Int) then (if 0 ≤ (wrap64 ((x1_1.length : Int) - 1)) then (if (wrap64 ((x1_1.length : Int) - 1)) < (x1_1.length : Int) then (if (rd x0_1 (ji9)) = (rd x1_1 (wrap64 ((x1_1.length : Int) - 1))) then ((some (([(⟨ji9, wrap64 ((x1_1.length : Int) - 1)⟩ : S37)] : List (S37)) : List (S37))).bind fun y103 => (if y103.length + x5_1.length < 8796093022208 then (if (ji9) ≤ (x0_1.length : Int) then (if (wrap64 ((x1_1.length : Int) - 1)) ≤ (x1_1.length : Int) then (J32_.l0 kj2 (x0_1.take ((ji9) : Int).toNat) (x1_1.take ((wrap64 ((x1_1.length : Int) - 1)) : Int).toNat) (y103 ++ x5_1)) else (none)) else (none)) else (none))) else (if (ji9) ≤ (x0_1.length : Int) then ((J31_.f kj2 (x0_1.take ((ji9) : Int).toNat) x1_1).bind fun t124 => ((J31_.f kj2 x0_1 x1_1).bind fun t125 => (if t124 = t125 then (J32_.l0 kj2 (x0_1.take ((ji9) : Int).toNat) x1_1 x5_1) else (if (wrap64 ((x1_1.length : Int) - 1)) ≤ (x1_1.length : Int) then (J32_.l0 kj2 x0_1 (x1_1.take ((wrap64 ((x1_1.length : Int) - 1)) : Int).toNat) x5_1) else (none))))) else (none))) else (none)) else (none)) else (none)) else (none)) = some r := by first | (rw [hji9] at H; exact H) | (simp only [hji9] at H ⊢; exact H)
      have hji9w : (IntKind.i64.wrap ((x0_1.length : Int) - 1)) = ji9 := (i64_w _).trans hji9
      by_cases c10 : 0 ≤ (ji9)
      ·rw [if_pos c10] at H
       have c10b0 : decide (0 ≤ (ji9)) = true := decide_eq_true c10
       clear c10
       by_cases c11 : (ji9) < (x0_1.length : Int)
       ·rw [if_pos c11] at H
        have c11b0 : decide ((ji9) < (x0_1.length : Int)) = true := decide_eq_true c11
        clear c11
        obtain ⟨ji12, hji12⟩ : ∃ j_ : Int, (wrap64 ((x1_1.length : Int) - 1)) = j_ := ⟨_, rfl⟩
        replace H : (if 0 ≤ (ji12) then (if (ji12) < (x1_1.length : Int) then (if (rd x0_1 (ji9)) = (rd x1_1 (ji12)) then ((some (([(⟨ji9, ji12⟩ : S37)] : List (S37)) : List (S37))).bind fun y103 => (if y103.length + x5_1.length < 8796093022208 then (if (ji9) ≤ (x0_1.length : Int) then (if (ji12) ≤ (x1_1.length : Int) then (J32_.l0 kj2 (x0_1.take ((ji9) : Int).toNat) (x1_1.take ((ji12) : Int).toNat) (y103 ++ x5_1)) else (none)) else (none)) else (none))) else (if (ji9) ≤ (x0_1.length : Int) then ((J31_.f kj2 (x0_1.take ((ji9) : Int).toNat) x1_1).bind fun t124 => ((J31_.f kj2 x0_1 x1_1).bind fun t125 => (if t124 = t125 then (J32_.l0 kj2 (x0_1.take ((ji9) : Int).toNat) x1_1 x5_1) else (if (ji12) ≤ (x1_1.length : Int) then (J32_.l0 kj2 x0_1 (x1_1.take ((ji12) : Int).toNat) x5_1) else (none))))) else (none))) else (none)) else (none)) = some r := by first | (rw [hji12] at H; exact H) | (simp only [hji12] at H ⊢; exact H)
        have hji12w : (IntKind.i64.wrap ((x1_1.length : Int) - 1)) = ji12 := (i64_w _).trans hji12
        by_cases c13 : 0 ≤ (ji12)
        ·rw [if_pos c13] at H
         have c13b0 : decide (0 ≤ (ji12)) = true := decide_eq_true c13
         clear c13
         by_cases c14 : (ji12) < (x1_1.length : Int)
         ·rw [if_pos c14] at H
          have c14b0 : decide ((ji12) < (x1_1.length : Int)) = true := decide_eq_true c14
          clear c14
          by_cases c15 : (rd x0_1 (ji9)) = (rd x1_1 (ji12))
          ·rw [if_pos c15] at H
           have c15b0 : ((rd x0_1 (ji9)) == (rd x1_1 (ji12))) = true := beq_iff_eq.mpr c15
           have c15b1 : ((rd x0_1 (ji9)) != (rd x1_1 (ji12))) = false := bne_eq_false_iff_eq.mpr c15
           clear c15
           obtain ⟨y103, hy103⟩ : ∃ y_ : List (S37), y_ = (([(⟨ji9, ji12⟩ : S37)] : List (S37))) := ⟨_, rfl⟩
           replace H : (if y103.length + x5_1.length < 8796093022208 then (if (ji9) ≤ (x0_1.length : Int) then (if (ji12) ≤ (x1_1.length : Int) then (J32_.l0 kj2 (x0_1.take ((ji9) : Int).toNat) (x1_1.take ((ji12) : Int).toNat) (y103 ++ x5_1)) else (none)) else (none)) else (none)) = some r := by first | (rw [hy103]; with_reducible exact H) | (have H2_ := (Option.bind_some _ _).symm.trans H; rw [hy103]; with_reducible exact H2_) | (have H2_ := (Option.bind_some _ _).symm.trans H; with_reducible exact H2_) | with_reducible exact H | (rw [hy103]; exact H) | exact H
           have Ny103 := Ja38_.mk hy103
           clear hy103
           by_cases c16 : y103.length + x5_1.length < 8796093022208
           ·rw [if_pos c16] at H
            have LMc16 := Ja38_.mk c16
            clear c16
            obtain ⟨y106, hy106⟩ : ∃ y_ : List (S37), y_ = (y103 ++ x5_1) := ⟨_, rfl⟩
            replace H : (if (ji9) ≤ (x0_1.length : Int) then (if (ji12) ≤ (x1_1.length : Int) then (J32_.l0 kj2 (x0_1.take ((ji9) : Int).toNat) (x1_1.take ((ji12) : Int).toNat) y106) else (none)) else (none)) = some r := by first | (rw [hy106]; with_reducible exact H) | (have H2_ := (Option.bind_some _ _).symm.trans H; rw [hy106]; with_reducible exact H2_) | (have H2_ := (Option.bind_some _ _).symm.trans H; with_reducible exact H2_) | with_reducible exact H | (rw [hy106]; exact H) | exact H
            have Ny106 := Ja38_.mk hy106
            clear hy106
            have c17b0 := eq_true (of_decide_eq_true (by first | (with_reducible assumption) | assumption) : 0 ≤ (ji9))
            by_cases c18 : (ji9) ≤ (x0_1.length : Int)
            ·rw [if_pos c18] at H
             have c18b0 := eq_true c18
             have c18b1 : decide ((ji9) ≤ (x0_1.length : Int)) = true := decide_eq_true c18
             clear c18
             obtain ⟨y109, hy109⟩ : ∃ y_ : List Int, y_ = (x0_1.take ((ji9) : Int).toNat) := ⟨_, rfl⟩
             replace H : (if (ji12) ≤ (x1_1.length : Int) then (J32_.l0 kj2 y109 (x1_1.take ((ji12) : Int).toNat) y106) else (none)) = some r := by first | (rw [hy109]; with_reducible exact H) | (have H2_ := (Option.bind_some _ _).symm.trans H; rw [hy109]; with_reducible exact H2_) | (have H2_ := (Option.bind_some _ _).symm.trans H; with_reducible exact H2_) | with_reducible exact H | (rw [hy109]; exact H) | exact H
             have Ny109 := Ja38_.mk hy109
             clear hy109
             have c19b0 := eq_true (of_decide_eq_true (by first | (with_reducible assumption) | assumption) : 0 ≤ (ji12))
             by_cases c20 : (ji12) ≤ (x1_1.length : Int)
             ·rw [if_pos c20] at H
              have c20b0 := eq_true c20
              have c20b1 : decide ((ji12) ≤ (x1_1.length : Int)) = true := decide_eq_true c20
              clear c20
              obtain ⟨y114, hy114⟩ : ∃ y_ : List Int, y_ = (x1_1.take ((ji12) : Int).toNat) := ⟨_, rfl⟩
              replace H : (J32_.l0 kj2 y109 y114 y106) = some r := by first | (rw [hy114]; with_reducible exact H) | (have H2_ := (Option.bind_some _ _).symm.trans H; rw [hy114]; with_reducible exact H2_) | (have H2_ := (Option.bind_some _ _).symm.trans H; with_reducible exact H2_) | with_reducible exact H | (rw [hy114]; exact H) | exact H
              have Ny114 := Ja38_.mk hy114
              clear hy114
              have H' := Ja38_.mk H
              clear H
              obtain ⟨Ao21, co21, eo21⟩ := Kd.V_slice HO_0.out
              subst eo21
              obtain ⟨Ao22, co22, eo22⟩ := Kd.V_slice HO_1.out
              subst eo22
              have p101 : 0 ≤ ((ji9) : Int) := of_decide_eq_true (by first | (with_reducible assumption) | assumption)
              have q101 : (ji9) < (x0_1.length : Int) := of_decide_eq_true (by first | (with_reducible assumption) | assumption)
              obtain ⟨ad101, e101, hx101_0⟩ := Kd.at_int (Kd.V_reads' HO_0.out).2.2 (ji9) p101 q101
              cases e101
              replace p101 := eq_true p101
              replace q101 := eq_true q101
              have p102 : 0 ≤ ((ji12) : Int) := of_decide_eq_true (by first | (with_reducible assumption) | assumption)
              have q102 : (ji12) < (x1_1.length : Int) := of_decide_eq_true (by first | (with_reducible assumption) | assumption)
              obtain ⟨ad102, e102, hx102_0⟩ := Kd.at_int (Kd.V_reads' HO_1.out).2.2 (ji12) p102 q102
              cases e102
              replace p102 := eq_true p102
              replace q102 := eq_true q102
              go_wp2_with (first | ((with_reducible refine gate_dst (N := 34) rfl ?_); (try (refine gate_guard (by rfl) ?_; dsimp only)); refine Kd.R_lit k37 _ 37 ?hg (N := 34) ?hd (xs := ([(⟨ji9, ji12⟩ : S37)] : List (S37))) (inner := [.int .i64 ji9, .int .i64 ji12]) (ok := fun _ => True) (okp := fun _ => True) ?hr ?hp (fun _ hk => hk) trivial (Below.refl _ _) (Nat.le_refl _) (by simp) ?_; (case hd => rfl); (case hg => rfl); (case hr => first | (go_simp; done) | (go_simp; rfl)); (case hp => exact (Reps.c2 (show Kd.M k37 _ _ _ (⟨ji9, ji12⟩ : S37) [.int .i64 ji9, .int .i64 ji12] from (k37_mkM _ _ _ (⟨ji9, ji12⟩ : S37) )) (Reps.none _ _))); intro v104 w23 ho24 hb hg_ hnew_; clear hg_ hnew_; (first | rw [← Ny103.out] at ho24 | (simp only [Int.reduceToNat] at ho24; rw [← Ny103.out] at ho24)); have n0_ := Ja38_.mk (Kd.V_elder' (by (with_reducible repeat (first | apply Kd.V_alloc | apply Kd.V_drewN | apply Kd.V_drew)); exact HO_0.out) (Kd.R_base ho24) hb); have n1_ := Ja38_.mk (Kd.V_elder' (by (with_reducible repeat (first | apply Kd.V_alloc | apply Kd.V_drewN | apply Kd.V_drew)); exact HO_1.out) (Kd.R_base ho24) hb); have n2_ := Ja38_.mk (Kd.R_elder' (by (with_reducible repeat (first | apply Kd.R_alloc | apply Kd.R_drewN | apply Kd.R_drew)); exact HO_5.out) (Kd.R_base ho24) hb); have n3_ := Ja38_.mk (Kd.R_lower (Kd.R_new' (Kd.R_newM (M := fun k_ => (w.heap.size ≤ k_)) ho24 (Ja45_ (by repeat (first | (with_reducible first | exact HB.out | apply Ja43_ | apply Ja41_ | apply Ja42_) | exact HB.out))) (fun k_ h_ => h_)) (Kd.R_lt (by (with_reducible repeat (first | apply Kd.R_alloc | apply Kd.R_drewN | apply Kd.R_drew)); exact HO_5.out))) (Ja45_ (by repeat (first | (with_reducible first | exact HB.out | apply Ja43_ | apply Ja41_ | apply Ja42_) | exact HB.out)))); have n4_ := Ja38_.mk (Ja44_ (by repeat (first | (with_reducible first | exact HB.out | apply Ja43_ | apply Ja41_ | apply Ja42_) | exact HB.out)) hb); clear HO_0; clear HO_1; clear HO_5; clear HB; have HO_0 := n0_; have HO_1 := n1_; have HO_5 := n2_; have HO105 := n3_; have HB := n4_; clear n0_ n1_ n2_ n3_ n4_; clear hb ho24; obtain ⟨Ao26, co26, eo26⟩ := Kd.R_slice HO_5.out; subst eo26) | ((with_reducible refine gate_builtin (b := .append) (xs := #[.tmp 34, .tmp 35]) rfl ?_); (try (refine gate_guard (by rfl) ?_; dsimp only)); at_builtin; refine Kd.R_append_rows k37 (w0 := w) w.heap.size rfl (.tmp 34) (.tmp 35) 30 37 (.agg #[(.int .i64 0), (.int .i64 0)]) 16 rfl Try.underlying30 info37 rfl (by decide) (by omega) v104 y103 x5_1 _ _ _ (fun k_ => (w.heap.size ≤ k_) ∧ some k_ ≠ (.slice Ao26 x5_1.length co26 : Value).ownBlock) (fun _ => False) rfl rfl ?aO ?aR (fun _ _ h => h) (fun _ h => h.elim) ?aF ?aB ?aS ?aL ?_; (case aR => repeat (first | exact (Kd.R_reads' HO_5.out).2.2 | (with_reducible refine Kd.C_alloc ?_ _) | (with_reducible refine Kd.C_drewN ?_ _) | (with_reducible refine Kd.C_drew ?_))); (case aB => exact (by repeat (first | (with_reducible first | exact HB.out | apply Ja43_ | apply Ja41_ | apply Ja42_) | exact HB.out))); (case aF => exact (fun k_ hk => ⟨(Nat.le_trans (Ja45_ (by repeat (first | (with_reducible first | exact HB.out | apply Ja43_ | apply Ja41_ | apply Ja42_) | exact HB.out))) hk), Kd.fresh' (Kd.R_lt (by (with_reducible repeat (first | apply Kd.R_alloc | apply Kd.R_drewN | apply Kd.R_drew)); exact HO_5.out)) k_ hk⟩)); (case aO => exact (by (with_reducible repeat (first | apply Kd.R_alloc | apply Kd.R_drewN | apply Kd.R_drew)); exact Kd.R_mono HO105.out (fun _ hk => ⟨hk.1.1, hk.2⟩))); (case aS => exact (Ja45_ (by repeat (first | (with_reducible first | exact HB.out | apply Ja43_ | apply Ja41_ | apply Ja42_) | exact HB.out)))); (case aL => have := LMc16.out; omega); intro v107 w25 ho hb hg hat; rw [← Ny106.out] at ho; have n0_ := Ja38_.mk (Kd.V_afterv (ok := (fun k_ => ((P0_ k_ ∨ P1_ k_) ∨ w.heap.size ≤ k_) ∧ some k_ ≠ (.slice Ao26 x5_1.length co26 : Value).ownBlock)) (by (with_reducible repeat (first | apply Kd.V_alloc | apply Kd.V_drewN | apply Kd.V_drew)); exact HO_0.out) hg hat); have n1_ := Ja38_.mk (Kd.V_afterv (ok := (fun k_ => ((P0_ k_ ∨ P1_ k_) ∨ w.heap.size ≤ k_) ∧ some k_ ≠ (.slice Ao26 x5_1.length co26 : Value).ownBlock)) (by (with_reducible repeat (first | apply Kd.V_alloc | apply Kd.V_drewN | apply Kd.V_drew)); exact HO_1.out) hg hat); have n2_ := Ja38_.mk (Kd.R_after (ok := (fun k_ => (w.heap.size ≤ k_))) (by (with_reducible repeat (first | apply Kd.R_alloc | apply Kd.R_drewN | apply Kd.R_drew)); exact HO_5.out) hg hat); have n3_ := Ja38_.mk (hb); have n4_ := Ja38_.mk (ho); clear HO_0; clear HO_1; clear HO_5; clear HB; clear HO105; have HO_0 := n0_; have HO_1 := n1_; have HO_5 := n2_; have HB := n3_; have HO108 := n4_; clear n0_ n1_ n2_ n3_ n4_; clear ho hb hg hat; have q27 : ((ji9) : Int) ≤ ((x0_1.length : Int) : Int) := of_decide_eq_true (by first | (with_reducible assumption) | assumption); obtain ⟨i027, hi027, _, hsz27, _⟩ := info_parts info3; have hroom27 : x0_1.length ≤ co21 := (Kd.V_reads' HO_0.out).2.1; have hC27 : Kd.F (Kd.int .i64) _ _ (some ad101) x0_1.length x0_1 := (Kd.V_at (base := w.heap.size) HO_0.out).2.2; have hcut27 := cut_to (P := Try.prog) 22 3 .i64 Try.underlying22 hi027 (some ad101) x0_1.length co21 (ji9) (of_decide_eq_true (by first | (with_reducible assumption) | assumption)) q27 hroom27; have hr27 := Kd.F_take (m := ((ji9) : Int).toNat) hC27 (by omega); have hy27 : y109.length = ((ji9) : Int).toNat := (by rw [Ny109.out, List.length_take]; omega); rw [← Ny109.out] at hr27; rw [← hy27] at hcut27; have HO113 := Ja38_.mk (show Kd.V (Kd.int .i64) 3 _ w.heap.size _ (.slice (some ad101) y109.length co21) y109 from Kd.V_mk (by omega) hr27); have HC113 := Ja38_.mk (show y109.length ≤ co21 from by omega); clear hr27 hC27 hroom27 hi027 hsz27; have KY27 := Ja38_.mk hy27; clear hy27; replace q27 := eq_true q27; have q28 : ((ji12) : Int) ≤ ((x1_1.length : Int) : Int) := of_decide_eq_true (by first | (with_reducible assumption) | assumption); obtain ⟨i028, hi028, _, hsz28, _⟩ := info_parts info3; have hroom28 : x1_1.length ≤ co22 := (Kd.V_reads' HO_1.out).2.1; have hC28 : Kd.F (Kd.int .i64) _ _ (some ad102) x1_1.length x1_1 := (Kd.V_at (base := w.heap.size) HO_1.out).2.2; have hcut28 := cut_to (P := Try.prog) 22 3 .i64 Try.underlying22 hi028 (some ad102) x1_1.length co22 (ji12) (of_decide_eq_true (by first | (with_reducible assumption) | assumption)) q28 hroom28; have hr28 := Kd.F_take (m := ((ji12) : Int).toNat) hC28 (by omega); have hy28 : y114.length = ((ji12) : Int).toNat := (by rw [Ny114.out, List.length_take]; omega); rw [← Ny114.out] at hr28; rw [← hy28] at hcut28; have HO118 := Ja38_.mk (show Kd.V (Kd.int .i64) 3 _ w.heap.size _ (.slice (some ad102) y114.length co22) y114 from Kd.V_mk (by omega) hr28); have HC118 := Ja38_.mk (show y114.length ≤ co22 from by omega); clear hr28 hC28 hroom28 hi028 hsz28; have KY28 := Ja38_.mk hy28; clear hy28; replace q28 := eq_true q28))
              repeat (go_quiet (first | ((with_reducible refine gate_dst (N := 34) rfl ?_); (try (refine gate_guard (by rfl) ?_; dsimp only)); refine Kd.R_lit k37 _ 37 ?hg (N := 34) ?hd (xs := ([(⟨ji9, ji12⟩ : S37)] : List (S37))) (inner := [.int .i64 ji9, .int .i64 ji12]) (ok := fun _ => True) (okp := fun _ => True) ?hr ?hp (fun _ hk => hk) trivial (Below.refl _ _) (Nat.le_refl _) (by simp) ?_; (case hd => rfl); (case hg => rfl); (case hr => first | (go_simp; done) | (go_simp; rfl)); (case hp => exact (Reps.c2 (show Kd.M k37 _ _ _ (⟨ji9, ji12⟩ : S37) [.int .i64 ji9, .int .i64 ji12] from (k37_mkM _ _ _ (⟨ji9, ji12⟩ : S37) )) (Reps.none _ _))); intro v104 w23 ho24 hb hg_ hnew_; clear hg_ hnew_; (first | rw [← Ny103.out] at ho24 | (simp only [Int.reduceToNat] at ho24; rw [← Ny103.out] at ho24)); have n0_ := Ja38_.mk (Kd.V_elder' (by (with_reducible repeat (first | apply Kd.V_alloc | apply Kd.V_drewN | apply Kd.V_drew)); exact HO_0.out) (Kd.R_base ho24) hb); have n1_ := Ja38_.mk (Kd.V_elder' (by (with_reducible repeat (first | apply Kd.V_alloc | apply Kd.V_drewN | apply Kd.V_drew)); exact HO_1.out) (Kd.R_base ho24) hb); have n2_ := Ja38_.mk (Kd.R_elder' (by (with_reducible repeat (first | apply Kd.R_alloc | apply Kd.R_drewN | apply Kd.R_drew)); exact HO_5.out) (Kd.R_base ho24) hb); have n3_ := Ja38_.mk (Kd.R_lower (Kd.R_new' (Kd.R_newM (M := fun k_ => (w.heap.size ≤ k_)) ho24 (Ja45_ (by repeat (first | (with_reducible first | exact HB.out | apply Ja43_ | apply Ja41_ | apply Ja42_) | exact HB.out))) (fun k_ h_ => h_)) (Kd.R_lt (by (with_reducible repeat (first | apply Kd.R_alloc | apply Kd.R_drewN | apply Kd.R_drew)); exact HO_5.out))) (Ja45_ (by repeat (first | (with_reducible first | exact HB.out | apply Ja43_ | apply Ja41_ | apply Ja42_) | exact HB.out)))); have n4_ := Ja38_.mk (Ja44_ (by repeat (first | (with_reducible first | exact HB.out | apply Ja43_ | apply Ja41_ | apply Ja42_) | exact HB.out)) hb); clear HO_0; clear HO_1; clear HO_5; clear HB; have HO_0 := n0_; have HO_1 := n1_; have HO_5 := n2_; have HO105 := n3_; have HB := n4_; clear n0_ n1_ n2_ n3_ n4_; clear hb ho24; obtain ⟨Ao26, co26, eo26⟩ := Kd.R_slice HO_5.out; subst eo26) | ((with_reducible refine gate_builtin (b := .append) (xs := #[.tmp 34, .tmp 35]) rfl ?_); (try (refine gate_guard (by rfl) ?_; dsimp only)); at_builtin; refine Kd.R_append_rows k37 (w0 := w) w.heap.size rfl (.tmp 34) (.tmp 35) 30 37 (.agg #[(.int .i64 0), (.int .i64 0)]) 16 rfl Try.underlying30 info37 rfl (by decide) (by omega) v104 y103 x5_1 _ _ _ (fun k_ => (w.heap.size ≤ k_) ∧ some k_ ≠ (.slice Ao26 x5_1.length co26 : Value).ownBlock) (fun _ => False) rfl rfl ?aO ?aR (fun _ _ h => h) (fun _ h => h.elim) ?aF ?aB ?aS ?aL ?_; (case aR => repeat (first | exact (Kd.R_reads' HO_5.out).2.2 | (with_reducible refine Kd.C_alloc ?_ _) | (with_reducible refine Kd.C_drewN ?_ _) | (with_reducible refine Kd.C_drew ?_))); (case aB => exact (by repeat (first | (with_reducible first | exact HB.out | apply Ja43_ | apply Ja41_ | apply Ja42_) | exact HB.out))); (case aF => exact (fun k_ hk => ⟨(Nat.le_trans (Ja45_ (by repeat (first | (with_reducible first | exact HB.out | apply Ja43_ | apply Ja41_ | apply Ja42_) | exact HB.out))) hk), Kd.fresh' (Kd.R_lt (by (with_reducible repeat (first | apply Kd.R_alloc | apply Kd.R_drewN | apply Kd.R_drew)); exact HO_5.out)) k_ hk⟩)); (case aO => exact (by (with_reducible repeat (first | apply Kd.R_alloc | apply Kd.R_drewN | apply Kd.R_drew)); exact Kd.R_mono HO105.out (fun _ hk => ⟨hk.1.1, hk.2⟩))); (case aS => exact (Ja45_ (by repeat (first | (with_reducible first | exact HB.out | apply Ja43_ | apply Ja41_ | apply Ja42_) | exact HB.out)))); (case aL => have := LMc16.out; omega); intro v107 w25 ho hb hg hat; rw [← Ny106.out] at ho; have n0_ := Ja38_.mk (Kd.V_afterv (ok := (fun k_ => ((P0_ k_ ∨ P1_ k_) ∨ w.heap.size ≤ k_) ∧ some k_ ≠ (.slice Ao26 x5_1.length co26 : Value).ownBlock)) (by (with_reducible repeat (first | apply Kd.V_alloc | apply Kd.V_drewN | apply Kd.V_drew)); exact HO_0.out) hg hat); have n1_ := Ja38_.mk (Kd.V_afterv (ok := (fun k_ => ((P0_ k_ ∨ P1_ k_) ∨ w.heap.size ≤ k_) ∧ some k_ ≠ (.slice Ao26 x5_1.length co26 : Value).ownBlock)) (by (with_reducible repeat (first | apply Kd.V_alloc | apply Kd.V_drewN | apply Kd.V_drew)); exact HO_1.out) hg hat); have n2_ := Ja38_.mk (Kd.R_after (ok := (fun k_ => (w.heap.size ≤ k_))) (by (with_reducible repeat (first | apply Kd.R_alloc | apply Kd.R_drewN | apply Kd.R_drew)); exact HO_5.out) hg hat); have n3_ := Ja38_.mk (hb); have n4_ := Ja38_.mk (ho); clear HO_0; clear HO_1; clear HO_5; clear HB; clear HO105; have HO_0 := n0_; have HO_1 := n1_; have HO_5 := n2_; have HB := n3_; have HO108 := n4_; clear n0_ n1_ n2_ n3_ n4_; clear ho hb hg hat; have q27 : ((ji9) : Int) ≤ ((x0_1.length : Int) : Int) := of_decide_eq_true (by first | (with_reducible assumption) | assumption); obtain ⟨i027, hi027, _, hsz27, _⟩ := info_parts info3; have hroom27 : x0_1.length ≤ co21 := (Kd.V_reads' HO_0.out).2.1; have hC27 : Kd.F (Kd.int .i64) _ _ (some ad101) x0_1.length x0_1 := (Kd.V_at (base := w.heap.size) HO_0.out).2.2; have hcut27 := cut_to (P := Try.prog) 22 3 .i64 Try.underlying22 hi027 (some ad101) x0_1.length co21 (ji9) (of_decide_eq_true (by first | (with_reducible assumption) | assumption)) q27 hroom27; have hr27 := Kd.F_take (m := ((ji9) : Int).toNat) hC27 (by omega); have hy27 : y109.length = ((ji9) : Int).toNat := (by rw [Ny109.out, List.length_take]; omega); rw [← Ny109.out] at hr27; rw [← hy27] at hcut27; have HO113 := Ja38_.mk (show Kd.V (Kd.int .i64) 3 _ w.heap.size _ (.slice (some ad101) y109.length co21) y109 from Kd.V_mk (by omega) hr27); have HC113 := Ja38_.mk (show y109.length ≤ co21 from by omega); clear hr27 hC27 hroom27 hi027 hsz27; have KY27 := Ja38_.mk hy27; clear hy27; replace q27 := eq_true q27; have q28 : ((ji12) : Int) ≤ ((x1_1.length : Int) : Int) := of_decide_eq_true (by first | (with_reducible assumption) | assumption); obtain ⟨i028, hi028, _, hsz28, _⟩ := info_parts info3; have hroom28 : x1_1.length ≤ co22 := (Kd.V_reads' HO_1.out).2.1; have hC28 : Kd.F (Kd.int .i64) _ _ (some ad102) x1_1.length x1_1 := (Kd.V_at (base := w.heap.size) HO_1.out).2.2; have hcut28 := cut_to (P := Try.prog) 22 3 .i64 Try.underlying22 hi028 (some ad102) x1_1.length co22 (ji12) (of_decide_eq_true (by first | (with_reducible assumption) | assumption)) q28 hroom28; have hr28 := Kd.F_take (m := ((ji12) : Int).toNat) hC28 (by omega); have hy28 : y114.length = ((ji12) : Int).toNat := (by rw [Ny114.out, List.length_take]; omega); rw [← Ny114.out] at hr28; rw [← hy28] at hcut28; have HO118 := Ja38_.mk (show Kd.V (Kd.int .i64) 3 _ w.heap.size _ (.slice (some ad102) y114.length co22) y114 from Kd.V_mk (by omega) hr28); have HC118 := Ja38_.mk (show y114.length ≤ co22 from by omega); clear hr28 hC28 hroom28 hi028 hsz28; have KY28 := Ja38_.mk hy28; clear hy28; replace q28 := eq_true q28)); try go_wp2_with (first | ((with_reducible refine gate_dst (N := 34) rfl ?_); (try (refine gate_guard (by rfl) ?_; dsimp only)); refine Kd.R_lit k37 _ 37 ?hg (N := 34) ?hd (xs := ([(⟨ji9, ji12⟩ : S37)] : List (S37))) (inner := [.int .i64 ji9, .int .i64 ji12]) (ok := fun _ => True) (okp := fun _ => True) ?hr ?hp (fun _ hk => hk) trivial (Below.refl _ _) (Nat.le_refl _) (by simp) ?_; (case hd => rfl); (case hg => rfl); (case hr => first | (go_simp; done) | (go_simp; rfl)); (case hp => exact (Reps.c2 (show Kd.M k37 _ _ _ (⟨ji9, ji12⟩ : S37) [.int .i64 ji9, .int .i64 ji12] from (k37_mkM _ _ _ (⟨ji9, ji12⟩ : S37) )) (Reps.none _ _))); intro v104 w23 ho24 hb hg_ hnew_; clear hg_ hnew_; (first | rw [← Ny103.out] at ho24 | (simp only [Int.reduceToNat] at ho24; rw [← Ny103.out] at ho24)); have n0_ := Ja38_.mk (Kd.V_elder' (by (with_reducible repeat (first | apply Kd.V_alloc | apply Kd.V_drewN | apply Kd.V_drew)); exact HO_0.out) (Kd.R_base ho24) hb); have n1_ := Ja38_.mk (Kd.V_elder' (by (with_reducible repeat (first | apply Kd.V_alloc | apply Kd.V_drewN | apply Kd.V_drew)); exact HO_1.out) (Kd.R_base ho24) hb); have n2_ := Ja38_.mk (Kd.R_elder' (by (with_reducible repeat (first | apply Kd.R_alloc | apply Kd.R_drewN | apply Kd.R_drew)); exact HO_5.out) (Kd.R_base ho24) hb); have n3_ := Ja38_.mk (Kd.R_lower (Kd.R_new' (Kd.R_newM (M := fun k_ => (w.heap.size ≤ k_)) ho24 (Ja45_ (by repeat (first | (with_reducible first | exact HB.out | apply Ja43_ | apply Ja41_ | apply Ja42_) | exact HB.out))) (fun k_ h_ => h_)) (Kd.R_lt (by (with_reducible repeat (first | apply Kd.R_alloc | apply Kd.R_drewN | apply Kd.R_drew)); exact HO_5.out))) (Ja45_ (by repeat (first | (with_reducible first | exact HB.out | apply Ja43_ | apply Ja41_ | apply Ja42_) | exact HB.out)))); have n4_ := Ja38_.mk (Ja44_ (by repeat (first | (with_reducible first | exact HB.out | apply Ja43_ | apply Ja41_ | apply Ja42_) | exact HB.out)) hb); clear HO_0; clear HO_1; clear HO_5; clear HB; have HO_0 := n0_; have HO_1 := n1_; have HO_5 := n2_; have HO105 := n3_; have HB := n4_; clear n0_ n1_ n2_ n3_ n4_; clear hb ho24; obtain ⟨Ao26, co26, eo26⟩ := Kd.R_slice HO_5.out; subst eo26) | ((with_reducible refine gate_builtin (b := .append) (xs := #[.tmp 34, .tmp 35]) rfl ?_); (try (refine gate_guard (by rfl) ?_; dsimp only)); at_builtin; refine Kd.R_append_rows k37 (w0 := w) w.heap.size rfl (.tmp 34) (.tmp 35) 30 37 (.agg #[(.int .i64 0), (.int .i64 0)]) 16 rfl Try.underlying30 info37 rfl (by decide) (by omega) v104 y103 x5_1 _ _ _ (fun k_ => (w.heap.size ≤ k_) ∧ some k_ ≠ (.slice Ao26 x5_1.length co26 : Value).ownBlock) (fun _ => False) rfl rfl ?aO ?aR (fun _ _ h => h) (fun _ h => h.elim) ?aF ?aB ?aS ?aL ?_; (case aR => repeat (first | exact (Kd.R_reads' HO_5.out).2.2 | (with_reducible refine Kd.C_alloc ?_ _) | (with_reducible refine Kd.C_drewN ?_ _) | (with_reducible refine Kd.C_drew ?_))); (case aB => exact (by repeat (first | (with_reducible first | exact HB.out | apply Ja43_ | apply Ja41_ | apply Ja42_) | exact HB.out))); (case aF => exact (fun k_ hk => ⟨(Nat.le_trans (Ja45_ (by repeat (first | (with_reducible first | exact HB.out | apply Ja43_ | apply Ja41_ | apply Ja42_) | exact HB.out))) hk), Kd.fresh' (Kd.R_lt (by (with_reducible repeat (first | apply Kd.R_alloc | apply Kd.R_drewN | apply Kd.R_drew)); exact HO_5.out)) k_ hk⟩)); (case aO => exact (by (with_reducible repeat (first | apply Kd.R_alloc | apply Kd.R_drewN | apply Kd.R_drew)); exact Kd.R_mono HO105.out (fun _ hk => ⟨hk.1.1, hk.2⟩))); (case aS => exact (Ja45_ (by repeat (first | (with_reducible first | exact HB.out | apply Ja43_ | apply Ja41_ | apply Ja42_) | exact HB.out)))); (case aL => have := LMc16.out; omega); intro v107 w25 ho hb hg hat; rw [← Ny106.out] at ho; have n0_ := Ja38_.mk (Kd.V_afterv (ok := (fun k_ => ((P0_ k_ ∨ P1_ k_) ∨ w.heap.size ≤ k_) ∧ some k_ ≠ (.slice Ao26 x5_1.length co26 : Value).ownBlock)) (by (with_reducible repeat (first | apply Kd.V_alloc | apply Kd.V_drewN | apply Kd.V_drew)); exact HO_0.out) hg hat); have n1_ := Ja38_.mk (Kd.V_afterv (ok := (fun k_ => ((P0_ k_ ∨ P1_ k_) ∨ w.heap.size ≤ k_) ∧ some k_ ≠ (.slice Ao26 x5_1.length co26 : Value).ownBlock)) (by (with_reducible repeat (first | apply Kd.V_alloc | apply Kd.V_drewN | apply Kd.V_drew)); exact HO_1.out) hg hat); have n2_ := Ja38_.mk (Kd.R_after (ok := (fun k_ => (w.heap.size ≤ k_))) (by (with_reducible repeat (first | apply Kd.R_alloc | apply Kd.R_drewN | apply Kd.R_drew)); exact HO_5.out) hg hat); have n3_ := Ja38_.mk (hb); have n4_ := Ja38_.mk (ho); clear HO_0; clear HO_1; clear HO_5; clear HB; clear HO105; have HO_0 := n0_; have HO_1 := n1_; have HO_5 := n2_; have HB := n3_; have HO108 := n4_; clear n0_ n1_ n2_ n3_ n4_; clear ho hb hg hat; have q27 : ((ji9) : Int) ≤ ((x0_1.length : Int) : Int) := of_decide_eq_true (by first | (with_reducible assumption) | assumption); obtain ⟨i027, hi027, _, hsz27, _⟩ := info_parts info3; have hroom27 : x0_1.length ≤ co21 := (Kd.V_reads' HO_0.out).2.1; have hC27 : Kd.F (Kd.int .i64) _ _ (some ad101) x0_1.length x0_1 := (Kd.V_at (base := w.heap.size) HO_0.out).2.2; have hcut27 := cut_to (P := Try.prog) 22 3 .i64 Try.underlying22 hi027 (some ad101) x0_1.length co21 (ji9) (of_decide_eq_true (by first | (with_reducible assumption) | assumption)) q27 hroom27; have hr27 := Kd.F_take (m := ((ji9) : Int).toNat) hC27 (by omega); have hy27 : y109.length = ((ji9) : Int).toNat := (by rw [Ny109.out, List.length_take]; omega); rw [← Ny109.out] at hr27; rw [← hy27] at hcut27; have HO113 := Ja38_.mk (show Kd.V (Kd.int .i64) 3 _ w.heap.size _ (.slice (some ad101) y109.length co21) y109 from Kd.V_mk (by omega) hr27); have HC113 := Ja38_.mk (show y109.length ≤ co21 from by omega); clear hr27 hC27 hroom27 hi027 hsz27; have KY27 := Ja38_.mk hy27; clear hy27; replace q27 := eq_true q27; have q28 : ((ji12) : Int) ≤ ((x1_1.length : Int) : Int) := of_decide_eq_true (by first | (with_reducible assumption) | assumption); obtain ⟨i028, hi028, _, hsz28, _⟩ := info_parts info3; have hroom28 : x1_1.length ≤ co22 := (Kd.V_reads' HO_1.out).2.1; have hC28 : Kd.F (Kd.int .i64) _ _ (some ad102) x1_1.length x1_1 := (Kd.V_at (base := w.heap.size) HO_1.out).2.2; have hcut28 := cut_to (P := Try.prog) 22 3 .i64 Try.underlying22 hi028 (some ad102) x1_1.length co22 (ji12) (of_decide_eq_true (by first | (with_reducible assumption) | assumption)) q28 hroom28; have hr28 := Kd.F_take (m := ((ji12) : Int).toNat) hC28 (by omega); have hy28 : y114.length = ((ji12) : Int).toNat := (by rw [Ny114.out, List.length_take]; omega); rw [← Ny114.out] at hr28; rw [← hy28] at hcut28; have HO118 := Ja38_.mk (show Kd.V (Kd.int .i64) 3 _ w.heap.size _ (.slice (some ad102) y114.length co22) y114 from Kd.V_mk (by omega) hr28); have HC118 := Ja38_.mk (show y114.length ≤ co22 from by omega); clear hr28 hC28 hroom28 hi028 hsz28; have KY28 := Ja38_.mk hy28; clear hy28; replace q28 := eq_true q28)))
              go_roundg kj2
              case measure => have := HK1.out; have := HJ2.out; omega
              case rel => exact ⟨(y109), (y114), (y106), H', ⟨by have := HK1.out; have := HJ2.out; omega⟩, ⟨by (with_reducible repeat (first | apply Kd.V_alloc | apply Kd.V_drewN | apply Kd.V_drew)); exact Kd.V_mono HO113.out (fun _ hk => ⟨hk.1.1, hk.2⟩)⟩, ⟨by (with_reducible repeat (first | apply Kd.V_alloc | apply Kd.V_drewN | apply Kd.V_drew)); exact Kd.V_mono HO118.out (fun _ hk => ⟨hk.1.1, hk.2⟩)⟩, ⟨by (with_reducible repeat (first | apply Kd.R_alloc | apply Kd.R_drewN | apply Kd.R_drew)); exact Kd.R_mono HO108.out (fun _ hk => hk.1)⟩, ⟨by repeat (first | (with_reducible first | exact HB.out | apply Ja43_ | apply Ja41_ | apply Ja42_) | exact HB.out)⟩⟩
             ·rw [if_neg c20] at H
              exact absurd H (by simp)
            ·rw [if_neg c18] at H
             exact absurd H (by simp)
           ·rw [if_neg c16] at H
            exact absurd H (by simp)
          ·rw [if_neg c15] at H
           have c15b0 : ((rd x0_1 (ji9)) == (rd x1_1 (ji12))) = false := beq_eq_false_iff_ne.mpr c15
           have c15b1 : ((rd x0_1 (ji9)) != (rd x1_1 (ji12))) = true := bne_iff_ne.mpr c15
           have c29b0 := eq_true (of_decide_eq_true (by first | (with_reducible assumption) | assumption) : 0 ≤ (ji9))
           by_cases c30 : (ji9) ≤ (x0_1.length : Int)
           ·rw [if_pos c30] at H
            have c30b0 := eq_true c30
            have c30b1 : decide ((ji9) ≤ (x0_1.length : Int)) = true := decide_eq_true c30
            clear c30
            obtain ⟨y119, hy119⟩ : ∃ y_ : List Int, y_ = (x0_1.take ((ji9) : Int).toNat) := ⟨_, rfl⟩
            replace H : ((J31_.f kj2 y119 x1_1).bind fun t124 => ((J31_.f kj2 x0_1 x1_1).bind fun t125 => (if t124 = t125 then (J32_.l0 kj2 (x0_1.take ((ji9) : Int).toNat) x1_1 x5_1) else (if (ji12) ≤ (x1_1.length : Int) then (J32_.l0 kj2 x0_1 (x1_1.take ((ji12) : Int).toNat) x5_1) else (none))))) = some r := by first | (rw [hy119]; with_reducible exact H) | (have H2_ := (Option.bind_some _ _).symm.trans H; rw [hy119]; with_reducible exact H2_) | (have H2_ := (Option.bind_some _ _).symm.trans H; with_reducible exact H2_) | with_reducible exact H | (rw [hy119]; exact H) | exact H
            have Ny119 := Ja38_.mk hy119
            clear hy119
            replace H := Option.bind_eq_some_iff.mp H
            obtain ⟨t124, A310, H⟩ := H
            replace H : ((J31_.f kj2 x0_1 x1_1).bind fun t125 => (if t124 = t125 then (J32_.l0 kj2 (x0_1.take ((ji9) : Int).toNat) x1_1 x5_1) else (if (ji12) ≤ (x1_1.length : Int) then (J32_.l0 kj2 x0_1 (x1_1.take ((ji12) : Int).toNat) x5_1) else (none)))) = some r := H
            have A31 := Ja38_.mk A310
            clear A310
            replace H := Option.bind_eq_some_iff.mp H
            obtain ⟨t125, A320, H⟩ := H
            replace H : (if t124 = t125 then (J32_.l0 kj2 (x0_1.take ((ji9) : Int).toNat) x1_1 x5_1) else (if (ji12) ≤ (x1_1.length : Int) then (J32_.l0 kj2 x0_1 (x1_1.take ((ji12) : Int).toNat) x5_1) else (none))) = some r := H
            have A32 := Ja38_.mk A320
            clear A320
            by_cases c33 : t124 = t125
            ·rw [if_pos c33] at H
             have c33b0 : (t124 == t125) = true := beq_iff_eq.mpr c33
             have c33b1 : (t124 != t125) = false := bne_eq_false_iff_eq.mpr c33
             clear c33
             have c34b0 := eq_true (of_decide_eq_true (by first | (with_reducible assumption) | assumption) : 0 ≤ (ji9))
             have c35b0 := eq_true (of_decide_eq_true (by first | (with_reducible assumption) | assumption) : (ji9) ≤ (x0_1.length : Int))
             obtain ⟨y126, hy126⟩ : ∃ y_ : List Int, y_ = (x0_1.take ((ji9) : Int).toNat) := ⟨_, rfl⟩
             replace H : (J32_.l0 kj2 y126 x1_1 x5_1) = some r := by first | (rw [hy126]; with_reducible exact H) | (have H2_ := (Option.bind_some _ _).symm.trans H; rw [hy126]; with_reducible exact H2_) | (have H2_ := (Option.bind_some _ _).symm.trans H; with_reducible exact H2_) | with_reducible exact H | (rw [hy126]; exact H) | exact H
             have Ny126 := Ja38_.mk hy126
             clear hy126
             have H' := Ja38_.mk H
             clear H
             obtain ⟨Ao36, co36, eo36⟩ := Kd.V_slice HO_0.out
             subst eo36
             obtain ⟨Ao37, co37, eo37⟩ := Kd.V_slice HO_1.out
             subst eo37
             have p101 : 0 ≤ ((ji9) : Int) := of_decide_eq_true (by first | (with_reducible assumption) | assumption)
             have q101 : (ji9) < (x0_1.length : Int) := of_decide_eq_true (by first | (with_reducible assumption) | assumption)
             obtain ⟨ad101, e101, hx101_0⟩ := Kd.at_int (Kd.V_reads' HO_0.out).2.2 (ji9) p101 q101
             cases e101
             replace p101 := eq_true p101
             replace q101 := eq_true q101
             have p102 : 0 ≤ ((ji12) : Int) := of_decide_eq_true (by first | (with_reducible assumption) | assumption)
             have q102 : (ji12) < (x1_1.length : Int) := of_decide_eq_true (by first | (with_reducible assumption) | assumption)
             obtain ⟨ad102, e102, hx102_0⟩ := Kd.at_int (Kd.V_reads' HO_1.out).2.2 (ji12) p102 q102
             cases e102
             replace p102 := eq_true p102
             replace q102 := eq_true q102
             have q38 : ((ji9) : Int) ≤ ((x0_1.length : Int) : Int) := of_decide_eq_true (by first | (with_reducible assumption) | assumption)
             obtain ⟨i038, hi038, _, hsz38, _⟩ := info_parts info3
             have hroom38 : x0_1.length ≤ co36 := (Kd.V_reads' HO_0.out).2.1
             have hC38 : Kd.F (Kd.int .i64) _ _ (some ad101) x0_1.length x0_1 := (Kd.V_at (base := w.heap.size) HO_0.out).2.2
             have hcut38 := cut_to (P := Try.prog) 22 3 .i64 Try.underlying22 hi038 (some ad101) x0_1.length co36 (ji9) (of_decide_eq_true (by first | (with_reducible assumption) | assumption)) q38 hroom38
             have hr38 := Kd.F_take (m := ((ji9) : Int).toNat) hC38 (by omega)
             have hy38 : y119.length = ((ji9) : Int).toNat := (by rw [Ny119.out, List.length_take]; omega)
             rw [← Ny119.out] at hr38
             rw [← hy38] at hcut38
             have HO123 := Ja38_.mk (show Kd.V (Kd.int .i64) 3 _ w.heap.size _ (.slice (some ad101) y119.length co36) y119 from Kd.V_mk (by omega) hr38)
             have HC123 := Ja38_.mk (show y119.length ≤ co36 from by omega)
             clear hr38 hC38 hroom38 hi038 hsz38
             have KY38 := Ja38_.mk hy38
             clear hy38
             replace q38 := eq_true q38
             go_wp2_with (first | (go_at_call 85; (with_reducible refine (J31_.calls kj2 _ _ y119 _ _ x1_1 t124 _ ?side1 ?side2 ?side3 ?side4 A31.out).mono ?_); (case side1 => repeat (first | exact (Kd.V_reads' HO123.out).2.2 | (with_reducible refine Kd.C_alloc ?_ _) | (with_reducible refine Kd.C_drewN ?_ _) | (with_reducible refine Kd.C_drew ?_))); (case side2 => exact (Kd.V_reads' HO123.out).2.1); (case side3 => repeat (first | exact (Kd.V_reads' HO_1.out).2.2 | (with_reducible refine Kd.C_alloc ?_ _) | (with_reducible refine Kd.C_drewN ?_ _) | (with_reducible refine Kd.C_drew ?_))); (case side4 => exact (Kd.V_reads' HO_1.out).2.1); rintro e w39 ⟨rfl, hb⟩; have n0_ := Ja38_.mk (Kd.V_below (by (with_reducible repeat (first | apply Kd.V_alloc | apply Kd.V_drewN | apply Kd.V_drew)); exact HO_0.out) hb); have n1_ := Ja38_.mk (Kd.V_below (by (with_reducible repeat (first | apply Kd.V_alloc | apply Kd.V_drewN | apply Kd.V_drew)); exact HO_1.out) hb); have n2_ := Ja38_.mk (Kd.R_below (by (with_reducible repeat (first | apply Kd.R_alloc | apply Kd.R_drewN | apply Kd.R_drew)); exact HO_5.out) hb); have n3_ := Ja38_.mk (Kd.V_below (by (with_reducible repeat (first | apply Kd.V_alloc | apply Kd.V_drewN | apply Kd.V_drew)); exact HO123.out) hb); have n4_ := Ja38_.mk (Ja44_ (by repeat (first | (with_reducible first | exact HB.out | apply Ja43_ | apply Ja41_ | apply Ja42_) | exact HB.out)) hb); clear HO_0; clear HO_1; clear HO_5; clear HO123; clear HB; have HO_0 := n0_; have HO_1 := n1_; have HO_5 := n2_; have HO123 := n3_; have HB := n4_; clear n0_ n1_ n2_ n3_ n4_; (try clear hb); (try clear hb2); (try clear hk); (try clear hi)) | (go_at_call 85; (with_reducible refine (J31_.calls kj2 _ _ x0_1 _ _ x1_1 t125 _ ?side1 ?side2 ?side3 ?side4 A32.out).mono ?_); (case side1 => repeat (first | exact (Kd.V_reads' HO_0.out).2.2 | (with_reducible refine Kd.C_alloc ?_ _) | (with_reducible refine Kd.C_drewN ?_ _) | (with_reducible refine Kd.C_drew ?_))); (case side2 => exact (Kd.V_reads' HO_0.out).2.1); (case side3 => repeat (first | exact (Kd.V_reads' HO_1.out).2.2 | (with_reducible refine Kd.C_alloc ?_ _) | (with_reducible refine Kd.C_drewN ?_ _) | (with_reducible refine Kd.C_drew ?_))); (case side4 => exact (Kd.V_reads' HO_1.out).2.1); rintro e w40 ⟨rfl, hb⟩; have n0_ := Ja38_.mk (Kd.V_below (by (with_reducible repeat (first | apply Kd.V_alloc | apply Kd.V_drewN | apply Kd.V_drew)); exact HO_0.out) hb); have n1_ := Ja38_.mk (Kd.V_below (by (with_reducible repeat (first | apply Kd.V_alloc | apply Kd.V_drewN | apply Kd.V_drew)); exact HO_1.out) hb); have n2_ := Ja38_.mk (Kd.R_below (by (with_reducible repeat (first | apply Kd.R_alloc | apply Kd.R_drewN | apply Kd.R_drew)); exact HO_5.out) hb); have n3_ := Ja38_.mk (Kd.V_below (by (with_reducible repeat (first | apply Kd.V_alloc | apply Kd.V_drewN | apply Kd.V_drew)); exact HO123.out) hb); have n4_ := Ja38_.mk (Ja44_ (by repeat (first | (with_reducible first | exact HB.out | apply Ja43_ | apply Ja41_ | apply Ja42_) | exact HB.out)) hb); clear HO_0; clear HO_1; clear HO_5; clear HO123; clear HB; have HO_0 := n0_; have HO_1 := n1_; have HO_5 := n2_; have HO123 := n3_; have HB := n4_; clear n0_ n1_ n2_ n3_ n4_; (try clear hb); (try clear hb2); (try clear hk); (try clear hi); have q41 : ((ji9) : Int) ≤ ((x0_1.length : Int) : Int) := of_decide_eq_true (by first | (with_reducible assumption) | assumption); obtain ⟨i041, hi041, _, hsz41, _⟩ := info_parts info3; have hroom41 : x0_1.length ≤ co36 := (Kd.V_reads' HO_0.out).2.1; have hC41 : Kd.F (Kd.int .i64) _ _ (some ad101) x0_1.length x0_1 := (Kd.V_at (base := w.heap.size) HO_0.out).2.2; have hcut41 := cut_to (P := Try.prog) 22 3 .i64 Try.underlying22 hi041 (some ad101) x0_1.length co36 (ji9) (of_decide_eq_true (by first | (with_reducible assumption) | assumption)) q41 hroom41; have hr41 := Kd.F_take (m := ((ji9) : Int).toNat) hC41 (by omega); have hy41 : y126.length = ((ji9) : Int).toNat := (by rw [Ny126.out, List.length_take]; omega); rw [← Ny126.out] at hr41; rw [← hy41] at hcut41; have HO130 := Ja38_.mk (show Kd.V (Kd.int .i64) 3 _ w.heap.size _ (.slice (some ad101) y126.length co36) y126 from Kd.V_mk (by omega) hr41); have HC130 := Ja38_.mk (show y126.length ≤ co36 from by omega); clear hr41 hC41 hroom41 hi041 hsz41; have KY41 := Ja38_.mk hy41; clear hy41; replace q41 := eq_true q41))
             repeat (go_quiet (first | (go_at_call 85; (with_reducible refine (J31_.calls kj2 _ _ y119 _ _ x1_1 t124 _ ?side1 ?side2 ?side3 ?side4 A31.out).mono ?_); (case side1 => repeat (first | exact (Kd.V_reads' HO123.out).2.2 | (with_reducible refine Kd.C_alloc ?_ _) | (with_reducible refine Kd.C_drewN ?_ _) | (with_reducible refine Kd.C_drew ?_))); (case side2 => exact (Kd.V_reads' HO123.out).2.1); (case side3 => repeat (first | exact (Kd.V_reads' HO_1.out).2.2 | (with_reducible refine Kd.C_alloc ?_ _) | (with_reducible refine Kd.C_drewN ?_ _) | (with_reducible refine Kd.C_drew ?_))); (case side4 => exact (Kd.V_reads' HO_1.out).2.1); rintro e w39 ⟨rfl, hb⟩; have n0_ := Ja38_.mk (Kd.V_below (by (with_reducible repeat (first | apply Kd.V_alloc | apply Kd.V_drewN | apply Kd.V_drew)); exact HO_0.out) hb); have n1_ := Ja38_.mk (Kd.V_below (by (with_reducible repeat (first | apply Kd.V_alloc | apply Kd.V_drewN | apply Kd.V_drew)); exact HO_1.out) hb); have n2_ := Ja38_.mk (Kd.R_below (by (with_reducible repeat (first | apply Kd.R_alloc | apply Kd.R_drewN | apply Kd.R_drew)); exact HO_5.out) hb); have n3_ := Ja38_.mk (Kd.V_below (by (with_reducible repeat (first | apply Kd.V_alloc | apply Kd.V_drewN | apply Kd.V_drew)); exact HO123.out) hb); have n4_ := Ja38_.mk (Ja44_ (by repeat (first | (with_reducible first | exact HB.out | apply Ja43_ | apply Ja41_ | apply Ja42_) | exact HB.out)) hb); clear HO_0; clear HO_1; clear HO_5; clear HO123; clear HB; have HO_0 := n0_; have HO_1 := n1_; have HO_5 := n2_; have HO123 := n3_; have HB := n4_; clear n0_ n1_ n2_ n3_ n4_; (try clear hb); (try clear hb2); (try clear hk); (try clear hi)) | (go_at_call 85; (with_reducible refine (J31_.calls kj2 _ _ x0_1 _ _ x1_1 t125 _ ?side1 ?side2 ?side3 ?side4 A32.out).mono ?_); (case side1 => repeat (first | exact (Kd.V_reads' HO_0.out).2.2 | (with_reducible refine Kd.C_alloc ?_ _) | (with_reducible refine Kd.C_drewN ?_ _) | (with_reducible refine Kd.C_drew ?_))); (case side2 => exact (Kd.V_reads' HO_0.out).2.1); (case side3 => repeat (first | exact (Kd.V_reads' HO_1.out).2.2 | (with_reducible refine Kd.C_alloc ?_ _) | (with_reducible refine Kd.C_drewN ?_ _) | (with_reducible refine Kd.C_drew ?_))); (case side4 => exact (Kd.V_reads' HO_1.out).2.1); rintro e w40 ⟨rfl, hb⟩; have n0_ := Ja38_.mk (Kd.V_below (by (with_reducible repeat (first | apply Kd.V_alloc | apply Kd.V_drewN | apply Kd.V_drew)); exact HO_0.out) hb); have n1_ := Ja38_.mk (Kd.V_below (by (with_reducible repeat (first | apply Kd.V_alloc | apply Kd.V_drewN | apply Kd.V_drew)); exact HO_1.out) hb); have n2_ := Ja38_.mk (Kd.R_below (by (with_reducible repeat (first | apply Kd.R_alloc | apply Kd.R_drewN | apply Kd.R_drew)); exact HO_5.out) hb); have n3_ := Ja38_.mk (Kd.V_below (by (with_reducible repeat (first | apply Kd.V_alloc | apply Kd.V_drewN | apply Kd.V_drew)); exact HO123.out) hb); have n4_ := Ja38_.mk (Ja44_ (by repeat (first | (with_reducible first | exact HB.out | apply Ja43_ | apply Ja41_ | apply Ja42_) | exact HB.out)) hb); clear HO_0; clear HO_1; clear HO_5; clear HO123; clear HB; have HO_0 := n0_; have HO_1 := n1_; have HO_5 := n2_; have HO123 := n3_; have HB := n4_; clear n0_ n1_ n2_ n3_ n4_; (try clear hb); (try clear hb2); (try clear hk); (try clear hi); have q41 : ((ji9) : Int) ≤ ((x0_1.length : Int) : Int) := of_decide_eq_true (by first | (with_reducible assumption) | assumption); obtain ⟨i041, hi041, _, hsz41, _⟩ := info_parts info3; have hroom41 : x0_1.length ≤ co36 := (Kd.V_reads' HO_0.out).2.1; have hC41 : Kd.F (Kd.int .i64) _ _ (some ad101) x0_1.length x0_1 := (Kd.V_at (base := w.heap.size) HO_0.out).2.2; have hcut41 := cut_to (P := Try.prog) 22 3 .i64 Try.underlying22 hi041 (some ad101) x0_1.length co36 (ji9) (of_decide_eq_true (by first | (with_reducible assumption) | assumption)) q41 hroom41; have hr41 := Kd.F_take (m := ((ji9) : Int).toNat) hC41 (by omega); have hy41 : y126.length = ((ji9) : Int).toNat := (by rw [Ny126.out, List.length_take]; omega); rw [← Ny126.out] at hr41; rw [← hy41] at hcut41; have HO130 := Ja38_.mk (show Kd.V (Kd.int .i64) 3 _ w.heap.size _ (.slice (some ad101) y126.length co36) y126 from Kd.V_mk (by omega) hr41); have HC130 := Ja38_.mk (show y126.length ≤ co36 from by omega); clear hr41 hC41 hroom41 hi041 hsz41; have KY41 := Ja38_.mk hy41; clear hy41; replace q41 := eq_true q41)); try go_wp2_with (first | (go_at_call 85; (with_reducible refine (J31_.calls kj2 _ _ y119 _ _ x1_1 t124 _ ?side1 ?side2 ?side3 ?side4 A31.out).mono ?_); (case side1 => repeat (first | exact (Kd.V_reads' HO123.out).2.2 | (with_reducible refine Kd.C_alloc ?_ _) | (with_reducible refine Kd.C_drewN ?_ _) | (with_reducible refine Kd.C_drew ?_))); (case side2 => exact (Kd.V_reads' HO123.out).2.1); (case side3 => repeat (first | exact (Kd.V_reads' HO_1.out).2.2 | (with_reducible refine Kd.C_alloc ?_ _) | (with_reducible refine Kd.C_drewN ?_ _) | (with_reducible refine Kd.C_drew ?_))); (case side4 => exact (Kd.V_reads' HO_1.out).2.1); rintro e w39 ⟨rfl, hb⟩; have n0_ := Ja38_.mk (Kd.V_below (by (with_reducible repeat (first | apply Kd.V_alloc | apply Kd.V_drewN | apply Kd.V_drew)); exact HO_0.out) hb); have n1_ := Ja38_.mk (Kd.V_below (by (with_reducible repeat (first | apply Kd.V_alloc | apply Kd.V_drewN | apply Kd.V_drew)); exact HO_1.out) hb); have n2_ := Ja38_.mk (Kd.R_below (by (with_reducible repeat (first | apply Kd.R_alloc | apply Kd.R_drewN | apply Kd.R_drew)); exact HO_5.out) hb); have n3_ := Ja38_.mk (Kd.V_below (by (with_reducible repeat (first | apply Kd.V_alloc | apply Kd.V_drewN | apply Kd.V_drew)); exact HO123.out) hb); have n4_ := Ja38_.mk (Ja44_ (by repeat (first | (with_reducible first | exact HB.out | apply Ja43_ | apply Ja41_ | apply Ja42_) | exact HB.out)) hb); clear HO_0; clear HO_1; clear HO_5; clear HO123; clear HB; have HO_0 := n0_; have HO_1 := n1_; have HO_5 := n2_; have HO123 := n3_; have HB := n4_; clear n0_ n1_ n2_ n3_ n4_; (try clear hb); (try clear hb2); (try clear hk); (try clear hi)) | (go_at_call 85; (with_reducible refine (J31_.calls kj2 _ _ x0_1 _ _ x1_1 t125 _ ?side1 ?side2 ?side3 ?side4 A32.out).mono ?_); (case side1 => repeat (first | exact (Kd.V_reads' HO_0.out).2.2 | (with_reducible refine Kd.C_alloc ?_ _) | (with_reducible refine Kd.C_drewN ?_ _) | (with_reducible refine Kd.C_drew ?_))); (case side2 => exact (Kd.V_reads' HO_0.out).2.1); (case side3 => repeat (first | exact (Kd.V_reads' HO_1.out).2.2 | (with_reducible refine Kd.C_alloc ?_ _) | (with_reducible refine Kd.C_drewN ?_ _) | (with_reducible refine Kd.C_drew ?_))); (case side4 => exact (Kd.V_reads' HO_1.out).2.1); rintro e w40 ⟨rfl, hb⟩; have n0_ := Ja38_.mk (Kd.V_below (by (with_reducible repeat (first | apply Kd.V_alloc | apply Kd.V_drewN | apply Kd.V_drew)); exact HO_0.out) hb); have n1_ := Ja38_.mk (Kd.V_below (by (with_reducible repeat (first | apply Kd.V_alloc | apply Kd.V_drewN | apply Kd.V_drew)); exact HO_1.out) hb); have n2_ := Ja38_.mk (Kd.R_below (by (with_reducible repeat (first | apply Kd.R_alloc | apply Kd.R_drewN | apply Kd.R_drew)); exact HO_5.out) hb); have n3_ := Ja38_.mk (Kd.V_below (by (with_reducible repeat (first | apply Kd.V_alloc | apply Kd.V_drewN | apply Kd.V_drew)); exact HO123.out) hb); have n4_ := Ja38_.mk (Ja44_ (by repeat (first | (with_reducible first | exact HB.out | apply Ja43_ | apply Ja41_ | apply Ja42_) | exact HB.out)) hb); clear HO_0; clear HO_1; clear HO_5; clear HO123; clear HB; have HO_0 := n0_; have HO_1 := n1_; have HO_5 := n2_; have HO123 := n3_; have HB := n4_; clear n0_ n1_ n2_ n3_ n4_; (try clear hb); (try clear hb2); (try clear hk); (try clear hi); have q41 : ((ji9) : Int) ≤ ((x0_1.length : Int) : Int) := of_decide_eq_true (by first | (with_reducible assumption) | assumption); obtain ⟨i041, hi041, _, hsz41, _⟩ := info_parts info3; have hroom41 : x0_1.length ≤ co36 := (Kd.V_reads' HO_0.out).2.1; have hC41 : Kd.F (Kd.int .i64) _ _ (some ad101) x0_1.length x0_1 := (Kd.V_at (base := w.heap.size) HO_0.out).2.2; have hcut41 := cut_to (P := Try.prog) 22 3 .i64 Try.underlying22 hi041 (some ad101) x0_1.length co36 (ji9) (of_decide_eq_true (by first | (with_reducible assumption) | assumption)) q41 hroom41; have hr41 := Kd.F_take (m := ((ji9) : Int).toNat) hC41 (by omega); have hy41 : y126.length = ((ji9) : Int).toNat := (by rw [Ny126.out, List.length_take]; omega); rw [← Ny126.out] at hr41; rw [← hy41] at hcut41; have HO130 := Ja38_.mk (show Kd.V (Kd.int .i64) 3 _ w.heap.size _ (.slice (some ad101) y126.length co36) y126 from Kd.V_mk (by omega) hr41); have HC130 := Ja38_.mk (show y126.length ≤ co36 from by omega); clear hr41 hC41 hroom41 hi041 hsz41; have KY41 := Ja38_.mk hy41; clear hy41; replace q41 := eq_true q41)))
             go_roundg kj2
             case measure => have := HK1.out; have := HJ2.out; omega
             case rel => exact ⟨(y126), (x1_1), (x5_1), H', ⟨by have := HK1.out; have := HJ2.out; omega⟩, ⟨by (with_reducible repeat (first | apply Kd.V_alloc | apply Kd.V_drewN | apply Kd.V_drew)); first | exact HO130.out | (have e_ : y119 = y126 := (by rw [Ny119.out, Ny126.out]); rw [show y119.length = y126.length from congrArg List.length e_]; exact HO130.out)⟩, ⟨by (with_reducible repeat (first | apply Kd.V_alloc | apply Kd.V_drewN | apply Kd.V_drew)); exact HO_1.out⟩, ⟨by (with_reducible repeat (first | apply Kd.R_alloc | apply Kd.R_drewN | apply Kd.R_drew)); exact HO_5.out⟩, ⟨by repeat (first | (with_reducible first | exact HB.out | apply Ja43_ | apply Ja41_ | apply Ja42_) | exact HB.out)⟩⟩
            ·rw [if_neg c33] at H
             have c33b0 : (t124 == t125) = false := beq_eq_false_iff_ne.mpr c33
             have c33b1 : (t124 != t125) = true := bne_iff_ne.mpr c33
             have c42b0 := eq_true (of_decide_eq_true (by first | (with_reducible assumption) | assumption) : 0 ≤ (ji12))
             by_cases c43 : (ji12) ≤ (x1_1.length : Int)
             ·rw [if_pos c43] at H
              have c43b0 := eq_true c43
              have c43b1 : decide ((ji12) ≤ (x1_1.length : Int)) = true := decide_eq_true c43
              clear c43
              obtain ⟨y131, hy131⟩ : ∃ y_ : List Int, y_ = (x1_1.take ((ji12) : Int).toNat) := ⟨_, rfl⟩
              replace H : (J32_.l0 kj2 x0_1 y131 x5_1) = some r := by first | (rw [hy131]; with_reducible exact H) | (have H2_ := (Option.bind_some _ _).symm.trans H; rw [hy131]; with_reducible exact H2_) | (have H2_ := (Option.bind_some _ _).symm.trans H; with_reducible exact H2_) | with_reducible exact H | (rw [hy131]; exact H) | exact H
              have Ny131 := Ja38_.mk hy131
              clear hy131
              have H' := Ja38_.mk H
              clear H
              obtain ⟨Ao44, co44, eo44⟩ := Kd.V_slice HO_0.out
              subst eo44
              obtain ⟨Ao45, co45, eo45⟩ := Kd.V_slice HO_1.out
              subst eo45
              have p101 : 0 ≤ ((ji9) : Int) := of_decide_eq_true (by first | (with_reducible assumption) | assumption)
              have q101 : (ji9) < (x0_1.length : Int) := of_decide_eq_true (by first | (with_reducible assumption) | assumption)
              obtain ⟨ad101, e101, hx101_0⟩ := Kd.at_int (Kd.V_reads' HO_0.out).2.2 (ji9) p101 q101
              cases e101
              replace p101 := eq_true p101
              replace q101 := eq_true q101
              have p102 : 0 ≤ ((ji12) : Int) := of_decide_eq_true (by first | (with_reducible assumption) | assumption)
              have q102 : (ji12) < (x1_1.length : Int) := of_decide_eq_true (by first | (with_reducible assumption) | assumption)
              obtain ⟨ad102, e102, hx102_0⟩ := Kd.at_int (Kd.V_reads' HO_1.out).2.2 (ji12) p102 q102
              cases e102
              replace p102 := eq_true p102
              replace q102 := eq_true q102
              have q46 : ((ji9) : Int) ≤ ((x0_1.length : Int) : Int) := of_decide_eq_true (by first | (with_reducible assumption) | assumption)
              obtain ⟨i046, hi046, _, hsz46, _⟩ := info_parts info3
              have hroom46 : x0_1.length ≤ co44 := (Kd.V_reads' HO_0.out).2.1
              have hC46 : Kd.F (Kd.int .i64) _ _ (some ad101) x0_1.length x0_1 := (Kd.V_at (base := w.heap.size) HO_0.out).2.2
              have hcut46 := cut_to (P := Try.prog) 22 3 .i64 Try.underlying22 hi046 (some ad101) x0_1.length co44 (ji9) (of_decide_eq_true (by first | (with_reducible assumption) | assumption)) q46 hroom46
              have hr46 := Kd.F_take (m := ((ji9) : Int).toNat) hC46 (by omega)
              have hy46 : y119.length = ((ji9) : Int).toNat := (by rw [Ny119.out, List.length_take]; omega)
              rw [← Ny119.out] at hr46
              rw [← hy46] at hcut46
              have HO123 := Ja38_.mk (show Kd.V (Kd.int .i64) 3 _ w.heap.size _ (.slice (some ad101) y119.length co44) y119 from Kd.V_mk (by omega) hr46)
              have HC123 := Ja38_.mk (show y119.length ≤ co44 from by omega)
              clear hr46 hC46 hroom46 hi046 hsz46
              have KY46 := Ja38_.mk hy46
              clear hy46
              replace q46 := eq_true q46
              go_wp2_with (first | (go_at_call 85; (with_reducible refine (J31_.calls kj2 _ _ y119 _ _ x1_1 t124 _ ?side1 ?side2 ?side3 ?side4 A31.out).mono ?_); (case side1 => repeat (first | exact (Kd.V_reads' HO123.out).2.2 | (with_reducible refine Kd.C_alloc ?_ _) | (with_reducible refine Kd.C_drewN ?_ _) | (with_reducible refine Kd.C_drew ?_))); (case side2 => exact (Kd.V_reads' HO123.out).2.1); (case side3 => repeat (first | exact (Kd.V_reads' HO_1.out).2.2 | (with_reducible refine Kd.C_alloc ?_ _) | (with_reducible refine Kd.C_drewN ?_ _) | (with_reducible refine Kd.C_drew ?_))); (case side4 => exact (Kd.V_reads' HO_1.out).2.1); rintro e w47 ⟨rfl, hb⟩; have n0_ := Ja38_.mk (Kd.V_below (by (with_reducible repeat (first | apply Kd.V_alloc | apply Kd.V_drewN | apply Kd.V_drew)); exact HO_0.out) hb); have n1_ := Ja38_.mk (Kd.V_below (by (with_reducible repeat (first | apply Kd.V_alloc | apply Kd.V_drewN | apply Kd.V_drew)); exact HO_1.out) hb); have n2_ := Ja38_.mk (Kd.R_below (by (with_reducible repeat (first | apply Kd.R_alloc | apply Kd.R_drewN | apply Kd.R_drew)); exact HO_5.out) hb); have n3_ := Ja38_.mk (Kd.V_below (by (with_reducible repeat (first | apply Kd.V_alloc | apply Kd.V_drewN | apply Kd.V_drew)); exact HO123.out) hb); have n4_ := Ja38_.mk (Ja44_ (by repeat (first | (with_reducible first | exact HB.out | apply Ja43_ | apply Ja41_ | apply Ja42_) | exact HB.out)) hb); clear HO_0; clear HO_1; clear HO_5; clear HO123; clear HB; have HO_0 := n0_; have HO_1 := n1_; have HO_5 := n2_; have HO123 := n3_; have HB := n4_; clear n0_ n1_ n2_ n3_ n4_; (try clear hb); (try clear hb2); (try clear hk); (try clear hi)) | (go_at_call 85; (with_reducible refine (J31_.calls kj2 _ _ x0_1 _ _ x1_1 t125 _ ?side1 ?side2 ?side3 ?side4 A32.out).mono ?_); (case side1 => repeat (first | exact (Kd.V_reads' HO_0.out).2.2 | (with_reducible refine Kd.C_alloc ?_ _) | (with_reducible refine Kd.C_drewN ?_ _) | (with_reducible refine Kd.C_drew ?_))); (case side2 => exact (Kd.V_reads' HO_0.out).2.1); (case side3 => repeat (first | exact (Kd.V_reads' HO_1.out).2.2 | (with_reducible refine Kd.C_alloc ?_ _) | (with_reducible refine Kd.C_drewN ?_ _) | (with_reducible refine Kd.C_drew ?_))); (case side4 => exact (Kd.V_reads' HO_1.out).2.1); rintro e w48 ⟨rfl, hb⟩; have n0_ := Ja38_.mk (Kd.V_below (by (with_reducible repeat (first | apply Kd.V_alloc | apply Kd.V_drewN | apply Kd.V_drew)); exact HO_0.out) hb); have n1_ := Ja38_.mk (Kd.V_below (by (with_reducible repeat (first | apply Kd.V_alloc | apply Kd.V_drewN | apply Kd.V_drew)); exact HO_1.out) hb); have n2_ := Ja38_.mk (Kd.R_below (by (with_reducible repeat (first | apply Kd.R_alloc | apply Kd.R_drewN | apply Kd.R_drew)); exact HO_5.out) hb); have n3_ := Ja38_.mk (Kd.V_below (by (with_reducible repeat (first | apply Kd.V_alloc | apply Kd.V_drewN | apply Kd.V_drew)); exact HO123.out) hb); have n4_ := Ja38_.mk (Ja44_ (by repeat (first | (with_reducible first | exact HB.out | apply Ja43_ | apply Ja41_ | apply Ja42_) | exact HB.out)) hb); clear HO_0; clear HO_1; clear HO_5; clear HO123; clear HB; have HO_0 := n0_; have HO_1 := n1_; have HO_5 := n2_; have HO123 := n3_; have HB := n4_; clear n0_ n1_ n2_ n3_ n4_; (try clear hb); (try clear hb2); (try clear hk); (try clear hi); have q49 : ((ji12) : Int) ≤ ((x1_1.length : Int) : Int) := of_decide_eq_true (by first | (with_reducible assumption) | assumption); obtain ⟨i049, hi049, _, hsz49, _⟩ := info_parts info3; have hroom49 : x1_1.length ≤ co45 := (Kd.V_reads' HO_1.out).2.1; have hC49 : Kd.F (Kd.int .i64) _ _ (some ad102) x1_1.length x1_1 := (Kd.V_at (base := w.heap.size) HO_1.out).2.2; have hcut49 := cut_to (P := Try.prog) 22 3 .i64 Try.underlying22 hi049 (some ad102) x1_1.length co45 (ji12) (of_decide_eq_true (by first | (with_reducible assumption) | assumption)) q49 hroom49; have hr49 := Kd.F_take (m := ((ji12) : Int).toNat) hC49 (by omega); have hy49 : y131.length = ((ji12) : Int).toNat := (by rw [Ny131.out, List.length_take]; omega); rw [← Ny131.out] at hr49; rw [← hy49] at hcut49; have HO135 := Ja38_.mk (show Kd.V (Kd.int .i64) 3 _ w.heap.size _ (.slice (some ad102) y131.length co45) y131 from Kd.V_mk (by omega) hr49); have HC135 := Ja38_.mk (show y131.length ≤ co45 from by omega); clear hr49 hC49 hroom49 hi049 hsz49; have KY49 := Ja38_.mk hy49; clear hy49; replace q49 := eq_true q49))
              repeat (go_quiet (first | (go_at_call 85; (with_reducible refine (J31_.calls kj2 _ _ y119 _ _ x1_1 t124 _ ?side1 ?side2 ?side3 ?side4 A31.out).mono ?_); (case side1 => repeat (first | exact (Kd.V_reads' HO123.out).2.2 | (with_reducible refine Kd.C_alloc ?_ _) | (with_reducible refine Kd.C_drewN ?_ _) | (with_reducible refine Kd.C_drew ?_))); (case side2 => exact (Kd.V_reads' HO123.out).2.1); (case side3 => repeat (first | exact (Kd.V_reads' HO_1.out).2.2 | (with_reducible refine Kd.C_alloc ?_ _) | (with_reducible refine Kd.C_drewN ?_ _) | (with_reducible refine Kd.C_drew ?_))); (case side4 => exact (Kd.V_reads' HO_1.out).2.1); rintro e w47 ⟨rfl, hb⟩; have n0_ := Ja38_.mk (Kd.V_below (by (with_reducible repeat (first | apply Kd.V_alloc | apply Kd.V_drewN | apply Kd.V_drew)); exact HO_0.out) hb); have n1_ := Ja38_.mk (Kd.V_below (by (with_reducible repeat (first | apply Kd.V_alloc | apply Kd.V_drewN | apply Kd.V_drew)); exact HO_1.out) hb); have n2_ := Ja38_.mk (Kd.R_below (by (with_reducible repeat (first | apply Kd.R_alloc | apply Kd.R_drewN | apply Kd.R_drew)); exact HO_5.out) hb); have n3_ := Ja38_.mk (Kd.V_below (by (with_reducible repeat (first | apply Kd.V_alloc | apply Kd.V_drewN | apply Kd.V_drew)); exact HO123.out) hb); have n4_ := Ja38_.mk (Ja44_ (by repeat (first | (with_reducible first | exact HB.out | apply Ja43_ | apply Ja41_ | apply Ja42_) | exact HB.out)) hb); clear HO_0; clear HO_1; clear HO_5; clear HO123; clear HB; have HO_0 := n0_; have HO_1 := n1_; have HO_5 := n2_; have HO123 := n3_; have HB := n4_; clear n0_ n1_ n2_ n3_ n4_; (try clear hb); (try clear hb2); (try clear hk); (try clear hi)) | (go_at_call 85; (with_reducible refine (J31_.calls kj2 _ _ x0_1 _ _ x1_1 t125 _ ?side1 ?side2 ?side3 ?side4 A32.out).mono ?_); (case side1 => repeat (first | exact (Kd.V_reads' HO_0.out).2.2 | (with_reducible refine Kd.C_alloc ?_ _) | (with_reducible refine Kd.C_drewN ?_ _) | (with_reducible refine Kd.C_drew ?_))); (case side2 => exact (Kd.V_reads' HO_0.out).2.1); (case side3 => repeat (first | exact (Kd.V_reads' HO_1.out).2.2 | (with_reducible refine Kd.C_alloc ?_ _) | (with_reducible refine Kd.C_drewN ?_ _) | (with_reducible refine Kd.C_drew ?_))); (case side4 => exact (Kd.V_reads' HO_1.out).2.1); rintro e w48 ⟨rfl, hb⟩; have n0_ := Ja38_.mk (Kd.V_below (by (with_reducible repeat (first | apply Kd.V_alloc | apply Kd.V_drewN | apply Kd.V_drew)); exact HO_0.out) hb); have n1_ := Ja38_.mk (Kd.V_below (by (with_reducible repeat (first | apply Kd.V_alloc | apply Kd.V_drewN | apply Kd.V_drew)); exact HO_1.out) hb); have n2_ := Ja38_.mk (Kd.R_below (by (with_reducible repeat (first | apply Kd.R_alloc | apply Kd.R_drewN | apply Kd.R_drew)); exact HO_5.out) hb); have n3_ := Ja38_.mk (Kd.V_below (by (with_reducible repeat (first | apply Kd.V_alloc | apply Kd.V_drewN | apply Kd.V_drew)); exact HO123.out) hb); have n4_ := Ja38_.mk (Ja44_ (by repeat (first | (with_reducible first | exact HB.out | apply Ja43_ | apply Ja41_ | apply Ja42_) | exact HB.out)) hb); clear HO_0; clear HO_1; clear HO_5; clear HO123; clear HB; have HO_0 := n0_; have HO_1 := n1_; have HO_5 := n2_; have HO123 := n3_; have HB := n4_; clear n0_ n1_ n2_ n3_ n4_; (try clear hb); (try clear hb2); (try clear hk); (try clear hi); have q49 : ((ji12) : Int) ≤ ((x1_1.length : Int) : Int) := of_decide_eq_true (by first | (with_reducible assumption) | assumption); obtain ⟨i049, hi049, _, hsz49, _⟩ := info_parts info3; have hroom49 : x1_1.length ≤ co45 := (Kd.V_reads' HO_1.out).2.1; have hC49 : Kd.F (Kd.int .i64) _ _ (some ad102) x1_1.length x1_1 := (Kd.V_at (base := w.heap.size) HO_1.out).2.2; have hcut49 := cut_to (P := Try.prog) 22 3 .i64 Try.underlying22 hi049 (some ad102) x1_1.length co45 (ji12) (of_decide_eq_true (by first | (with_reducible assumption) | assumption)) q49 hroom49; have hr49 := Kd.F_take (m := ((ji12) : Int).toNat) hC49 (by omega); have hy49 : y131.length = ((ji12) : Int).toNat := (by rw [Ny131.out, List.length_take]; omega); rw [← Ny131.out] at hr49; rw [← hy49] at hcut49; have HO135 := Ja38_.mk (show Kd.V (Kd.int .i64) 3 _ w.heap.size _ (.slice (some ad102) y131.length co45) y131 from Kd.V_mk (by omega) hr49); have HC135 := Ja38_.mk (show y131.length ≤ co45 from by omega); clear hr49 hC49 hroom49 hi049 hsz49; have KY49 := Ja38_.mk hy49; clear hy49; replace q49 := eq_true q49)); try go_wp2_with (first | (go_at_call 85; (with_reducible refine (J31_.calls kj2 _ _ y119 _ _ x1_1 t124 _ ?side1 ?side2 ?side3 ?side4 A31.out).mono ?_); (case side1 => repeat (first | exact (Kd.V_reads' HO123.out).2.2 | (with_reducible refine Kd.C_alloc ?_ _) | (with_reducible refine Kd.C_drewN ?_ _) | (with_reducible refine Kd.C_drew ?_))); (case side2 => exact (Kd.V_reads' HO123.out).2.1); (case side3 => repeat (first | exact (Kd.V_reads' HO_1.out).2.2 | (with_reducible refine Kd.C_alloc ?_ _) | (with_reducible refine Kd.C_drewN ?_ _) | (with_reducible refine Kd.C_drew ?_))); (case side4 => exact (Kd.V_reads' HO_1.out).2.1); rintro e w47 ⟨rfl, hb⟩; have n0_ := Ja38_.mk (Kd.V_below (by (with_reducible repeat (first | apply Kd.V_alloc | apply Kd.V_drewN | apply Kd.V_drew)); exact HO_0.out) hb); have n1_ := Ja38_.mk (Kd.V_below (by (with_reducible repeat (first | apply Kd.V_alloc | apply Kd.V_drewN | apply Kd.V_drew)); exact HO_1.out) hb); have n2_ := Ja38_.mk (Kd.R_below (by (with_reducible repeat (first | apply Kd.R_alloc | apply Kd.R_drewN | apply Kd.R_drew)); exact HO_5.out) hb); have n3_ := Ja38_.mk (Kd.V_below (by (with_reducible repeat (first | apply Kd.V_alloc | apply Kd.V_drewN | apply Kd.V_drew)); exact HO123.out) hb); have n4_ := Ja38_.mk (Ja44_ (by repeat (first | (with_reducible first | exact HB.out | apply Ja43_ | apply Ja41_ | apply Ja42_) | exact HB.out)) hb); clear HO_0; clear HO_1; clear HO_5; clear HO123; clear HB; have HO_0 := n0_; have HO_1 := n1_; have HO_5 := n2_; have HO123 := n3_; have HB := n4_; clear n0_ n1_ n2_ n3_ n4_; (try clear hb); (try clear hb2); (try clear hk); (try clear hi)) | (go_at_call 85; (with_reducible refine (J31_.calls kj2 _ _ x0_1 _ _ x1_1 t125 _ ?side1 ?side2 ?side3 ?side4 A32.out).mono ?_); (case side1 => repeat (first | exact (Kd.V_reads' HO_0.out).2.2 | (with_reducible refine Kd.C_alloc ?_ _) | (with_reducible refine Kd.C_drewN ?_ _) | (with_reducible refine Kd.C_drew ?_))); (case side2 => exact (Kd.V_reads' HO_0.out).2.1); (case side3 => repeat (first | exact (Kd.V_reads' HO_1.out).2.2 | (with_reducible refine Kd.C_alloc ?_ _) | (with_reducible refine Kd.C_drewN ?_ _) | (with_reducible refine Kd.C_drew ?_))); (case side4 => exact (Kd.V_reads' HO_1.out).2.1); rintro e w48 ⟨rfl, hb⟩; have n0_ := Ja38_.mk (Kd.V_below (by (with_reducible repeat (first | apply Kd.V_alloc | apply Kd.V_drewN | apply Kd.V_drew)); exact HO_0.out) hb); have n1_ := Ja38_.mk (Kd.V_below (by (with_reducible repeat (first | apply Kd.V_alloc | apply Kd.V_drewN | apply Kd.V_drew)); exact HO_1.out) hb); have n2_ := Ja38_.mk (Kd.R_below (by (with_reducible repeat (first | apply Kd.R_alloc | apply Kd.R_drewN | apply Kd.R_drew)); exact HO_5.out) hb); have n3_ := Ja38_.mk (Kd.V_below (by (with_reducible repeat (first | apply Kd.V_alloc | apply Kd.V_drewN | apply Kd.V_drew)); exact HO123.out) hb); have n4_ := Ja38_.mk (Ja44_ (by repeat (first | (with_reducible first | exact HB.out | apply Ja43_ | apply Ja41_ | apply Ja42_) | exact HB.out)) hb); clear HO_0; clear HO_1; clear HO_5; clear HO123; clear HB; have HO_0 := n0_; have HO_1 := n1_; have HO_5 := n2_; have HO123 := n3_; have HB := n4_; clear n0_ n1_ n2_ n3_ n4_; (try clear hb); (try clear hb2); (try clear hk); (try clear hi); have q49 : ((ji12) : Int) ≤ ((x1_1.length : Int) : Int) := of_decide_eq_true (by first | (with_reducible assumption) | assumption); obtain ⟨i049, hi049, _, hsz49, _⟩ := info_parts info3; have hroom49 : x1_1.length ≤ co45 := (Kd.V_reads' HO_1.out).2.1; have hC49 : Kd.F (Kd.int .i64) _ _ (some ad102) x1_1.length x1_1 := (Kd.V_at (base := w.heap.size) HO_1.out).2.2; have hcut49 := cut_to (P := Try.prog) 22 3 .i64 Try.underlying22 hi049 (some ad102) x1_1.length co45 (ji12) (of_decide_eq_true (by first | (with_reducible assumption) | assumption)) q49 hroom49; have hr49 := Kd.F_take (m := ((ji12) : Int).toNat) hC49 (by omega); have hy49 : y131.length = ((ji12) : Int).toNat := (by rw [Ny131.out, List.length_take]; omega); rw [← Ny131.out] at hr49; rw [← hy49] at hcut49; have HO135 := Ja38_.mk (show Kd.V (Kd.int .i64) 3 _ w.heap.size _ (.slice (some ad102) y131.length co45) y131 from Kd.V_mk (by omega) hr49); have HC135 := Ja38_.mk (show y131.length ≤ co45 from by omega); clear hr49 hC49 hroom49 hi049 hsz49; have KY49 := Ja38_.mk hy49; clear hy49; replace q49 := eq_true q49)))
              go_roundg kj2
              case measure => have := HK1.out; have := HJ2.out; omega
              case rel => exact ⟨(x0_1), (y131), (x5_1), H', ⟨by have := HK1.out; have := HJ2.out; omega⟩, ⟨by (with_reducible repeat (first | apply Kd.V_alloc | apply Kd.V_drewN | apply Kd.V_drew)); exact HO_0.out⟩, ⟨by (with_reducible repeat (first | apply Kd.V_alloc | apply Kd.V_drewN | apply Kd.V_drew)); exact HO135.out⟩, ⟨by (with_reducible repeat (first | apply Kd.R_alloc | apply Kd.R_drewN | apply Kd.R_drew)); exact HO_5.out⟩, ⟨by repeat (first | (with_reducible first | exact HB.out | apply Ja43_ | apply Ja41_ | apply Ja42_) | exact HB.out)⟩⟩
             ·rw [if_neg c43] at H
              exact absurd H (by simp)
           ·rw [if_neg c30] at H
            exact absurd H (by simp)
         ·rw [if_neg c14] at H
          exact absurd H (by simp)
        ·rw [if_neg c13] at H
         exact absurd H (by simp)
       ·rw [if_neg c11] at H
        exact absurd H (by simp)
      ·rw [if_neg c10] at H
       exact absurd H (by simp)
     ·replace c8 := Bool.eq_false_iff.mpr c8
      subst c8
      have H1 : (some x5_1) = some r := by rw [if_neg (show ¬ (false = true) by decide)] at H; exact H
      clear H
      have H := H1
      clear H1
      obtain rfl := Option.some.inj H
      go_wp2
      repeat (go_quiet (fail); try go_wp2)
      go_ret
      exact ⟨_, by first | rfl | (simp [errW_none, errW_some] <;> rfl) | (simp [*, errW_none, errW_some] <;> rfl), by (with_reducible repeat (first | apply Kd.R_alloc | apply Kd.R_drewN | apply Kd.R_drew)); exact HO_5.out, by repeat (first | (with_reducible first | exact HB.out | apply Ja43_ | apply Ja41_ | apply Ja42_) | exact HB.out)⟩
end Go.Proofs.Ytadafplbgophfaa.PA
end
