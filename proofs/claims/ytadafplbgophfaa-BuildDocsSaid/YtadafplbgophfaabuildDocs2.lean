/- Part 2 of what the row of the law BuildDocs rests on: walks of functions, and plain lemmas (in part printed by the kit's print, what is not reached left out). -/
import Derived.Test.YtadafplbgophfaabuildDocs1
import Derived.Outline
import Derived.Laws.CopyOwn
import Derived.Deep.RegionLaw
set_option linter.unusedVariables false
set_option linter.unusedSimpArgs false
section
namespace Go.Proofs.Ytadafplbgophfaa.PA
open Go.RowKit Go.Proofs.YtadafplbgophfaaW.PrintWords Go.Proofs.YtadafplbgophfaaW.PrintLast Go.Proofs.YtadafplbgophfaaW.PrintMore
section
variable {α : Type} {P : Program}
theorem Qcc (k : Kd α) (t e : TypeId) {i : TypeInfo} (ht : P.underlying t = some (.slice e)) (hi : P.info? e = some i) (hsz : i.size = k.sz) (A : Option Addr) (c : Nat) (xs : List α) (a b : Int) (h0 : 0 ≤ a) (h1 : a ≤ b) (hm : b ≤ xs.length) (hc : xs.length ≤ c) :
  ∃ (A' : Option Addr) (c' : Nat), (∀ W : World, (Instr.slice t (.slice A xs.length c) (some (.int .i64 a)) (some (.int .i64 b)) none).run P W = .ok (.slice A' ((xs.take b.toNat).drop a.toNat).length c') W) ∧
   (∀ w : World, k.C w A xs.length xs → k.C w A' ((xs.take b.toNat).drop a.toNat).length ((xs.take b.toNat).drop a.toNat)) ∧ ((xs.take b.toNat).drop a.toNat).length ≤ c' := by
 have hlt : (xs.take b.toNat).length = b.toNat := by rw [List.length_take]; omega
 have hl : ((xs.take b.toNat).drop a.toNat).length = b.toNat - a.toNat := by rw [List.length_drop, hlt]
 refine ⟨if c = a.toNat then A else A.map (·.add (a.toNat * k.sz)), c - a.toNat, fun W => ?_, fun w h => ?_, by rw [hl]; omega⟩
 ·rw [hl]; exact Qil t e .i64 .i64 ht hi k.sz hsz A xs.length c a b h0 h1 hm hc W
 ·exact Kd.C_mid h (by omega) (by omega) hc
theorem Qjd (k : Kd α) (t e : TypeId) {i : TypeInfo} (ht : P.underlying t = some (.slice e)) (hi : P.info? e = some i) (hsz : i.size = k.sz) (A : Option Addr) (c : Nat) (xs : List α) (a : Int) (h0 : 0 ≤ a) (hm : a ≤ xs.length) (hc : xs.length ≤ c) :
  ∃ (A' : Option Addr) (c' : Nat), (∀ W : World, (Instr.slice t (.slice A xs.length c) (some (.int .i64 a)) none none).run P W = .ok (.slice A' (xs.drop a.toNat).length c') W) ∧
   (∀ w : World, k.C w A xs.length xs → k.C w A' (xs.drop a.toNat).length (xs.drop a.toNat)) ∧ (xs.drop a.toNat).length ≤ c' := by
 have hl : (xs.drop a.toNat).length = xs.length - a.toNat := List.length_drop; refine ⟨if c = a.toNat then A else A.map (·.add (a.toNat * k.sz)), c - a.toNat, fun W => ?_, fun w h => Kd.C_drop h (by omega) hc, by rw [hl]; omega⟩
 have hel : P.elem t = e := by simp [Program.elem, ht]
 have hu : P.underlying t = some (.slice (P.elem t)) := by rw [hel]; exact ht
 rw [run_slice_l W t A xs.length c hu .i64 a h0 (by omega), hel, hl]
 simp [sizeOf, typeInfo, hi, hsz, sliced, Result.andThen]
theorem Qml (k : Kd α) (t e : TypeId) {i : TypeInfo} (ht : P.underlying t = some (.slice e)) (hi : P.info? e = some i) (hsz : i.size = k.sz) (A : Option Addr) (c : Nat) (xs : List α) (b : Int) (h0 : 0 ≤ b) (hm : b ≤ xs.length) (hc : xs.length ≤ c) :
  (∀ W : World, (Instr.slice t (.slice A xs.length c) none (some (.int .i64 b)) none).run P W = .ok (.slice A (xs.take b.toNat).length c) W) ∧
   (∀ w : World, k.C w A xs.length xs → k.C w A (xs.take b.toNat).length (xs.take b.toNat)) ∧ (xs.take b.toNat).length ≤ c := by
 have hl : (xs.take b.toNat).length = b.toNat := by rw [List.length_take]; omega
 refine ⟨fun W => ?_, fun w h => Kd.C_take h (by omega), by rw [hl]; omega⟩
 have hel : P.elem t = e := by simp [Program.elem, ht]
 have hu : P.underlying t = some (.slice (P.elem t)) := by rw [hel]; exact ht
 have ha : (A.map fun x => x.add 0) = A := by cases A <;> simp [Addr.add]
 rw [run_slice_h W t A xs.length c hu .i64 b h0 (by omega), hel, hl]
 simp [sizeOf, typeInfo, hi, hsz, sliced, Result.andThen, ha]
theorem Qkn (d : Kd α) (hsz : d.sz = 1) (W : World) (e : TypeId) (xs : List α) (vs : List Value) (hl : vs.length = xs.length) (hmax : xs.length ≤ 9223372036854775807)
  (hK : ∀ (j : Nat) (p : α) (u : Value), xs[j]? = some p → vs[j]? = some u → d.K W p [u]) : d.C (W.alloc (.cells vs.toArray e (0, 0))) (some ⟨W.heap.size, 0, none⟩) xs.length xs := by
 refine ⟨rfl, hmax, fun _ => ⟨_, rfl, fun j p hj => ?_⟩⟩
 have hjl : j < vs.length := by have := (List.getElem?_eq_some_iff.1 hj).1; omega
 have hu : vs[j]? = some vs[j] := List.getElem?_eq_getElem hjl; refine ⟨[vs[j]], by rw [hsz]; rfl, d.K_below (Qh (Below.refl _ _) _) (hK j p _ hj hu), fun i u hi => ?_⟩
 obtain rfl : i = 0 := by
  have := (List.getElem?_eq_some_iff.1 hi).1
  simpa using this
 obtain rfl : vs[j] = u := by simpa using hi
 rw [hsz, Nat.mul_one, Nat.add_zero, Yf]; refine (Qc (Vg W _) j).trans ?_
 simp [hu]
end
end Go.Proofs.Ytadafplbgophfaa.PA
end
section
namespace Go.Proofs.Ytadafplbgophfaa.PA
open Go.RowKit
namespace Jdg
theorem w64 {x : Int} (h0 : -9223372036854775808 ≤ x) (h1 : x ≤ 9223372036854775807) : wrap64 x = x := by unfold wrap64; omega
end Jdg
end Go.Proofs.Ytadafplbgophfaa.PA
end
section
namespace Go.Proofs.Ytadafplbgophfaa.PA
open Go.RowKit Go.Proofs.YtadafplbgophfaaW.PrintWords Go.Proofs.YtadafplbgophfaaW.PrintLast Go.Proofs.YtadafplbgophfaaW.PrintMore
open Jdg
theorem Ev.down {P : Nat → Prop} (n : Nat) (hend : P n) (hstep : ∀ i, i < n → P (i + 1) → P i) : P 0 := by
  have : ∀ d i, n - i ≤ d → i ≤ n → P i := by
    intro d
    induction d with
    | zero => intro i h1 h2; obtain rfl : i = n := by omega
              exact hend
    | succ d ih =>
      intro i h1 h2
      by_cases h : i < n
      · exact hstep i h (ih (i + 1) (by omega) (by omega))
      · obtain rfl : i = n := by omega
        exact hend
  exact this n 0 (by omega) (by omega)
theorem Qbd {i : Nat} (h : i ≤ 1000000000000000) : wrap64 ((i : Int) + 1) = ((i + 1 : Nat) : Int) := by rw [w64 (by omega) (by omega)]; omega
theorem Qhj {a b : ByteArray} : a.toList = b.toList ↔ a = b := by
  rw [ByteArray.toList_eq, ByteArray.toList_eq]
  constructor
  · intro h
    exact ByteArray.ext (Array.toList_inj.1 h)
  · intro h; rw [h]
theorem Qim {a b : ByteArray} : a.data.toList = b.data.toList ↔ a = b := by rw [← ByteArray.toList_eq, ← ByteArray.toList_eq]; exact Qhj
def cnt (q : Int) (l : List Ys) : Nat := (l.map fun s => if s.f0 = q then s.f1.length else 0).sum
def Adj : List Ys → Prop
  | [] => True
  | [_] => True
  | x :: y :: l => x.f0 ≠ y.f0 ∧ Adj (y :: l)
def NE (l : List Ys) : Prop := ∀ x ∈ l, x.f1 ≠ []
def Qkp (l : List Ys) : Prop := ∀ x ∈ l, 0 ≤ x.f0 ∧ x.f0 ≤ 2
end Go.Proofs.Ytadafplbgophfaa.PA
end
section
namespace Go.Proofs.Ytadafplbgophfaa.PA
open Go.RowKit Go.Proofs.YtadafplbgophfaaW.PrintWords Go.Proofs.YtadafplbgophfaaW.PrintLast Go.Proofs.YtadafplbgophfaaW.PrintMore
attribute [local go_sem] Xx Xz Yk Yl Xj Xk Xy Ya
mutual
def Qs.l0 : Nat → List (List ByteArray) → List ByteArray → List (List Int) → Int → Option ((List (List Int)))
 | 0, _, _, _, _ => none
 | k + 1, x0, x3, x4, x5 => if x5 < (x0.length : Int) then (Qs.l1 k x0 x3 x4 x5 ([] : List Int) 0) else (some x4)
def Qs.l1 : Nat → List (List ByteArray) → List ByteArray → List (List Int) → Int → List Int → Int → Option ((List (List Int)))
 | 0, _, _, _, _, _, _ => none
 | k + 1, x0, x3, x4, x5, x6, x7 => if 0 ≤ x5 then (if x5 < (x0.length : Int) then (if x7 < ((Vw x0 x5).length : Int) then (Qs.l2 k x0 x3 x4 x5 x6 x7 0) else (if x4.length < 5864062014805 then (Qs.l0 k x0 x3 (x4 ++ [x6]) (wrap64 (x5 + 1))) else (none))) else (none)) else (none)
def Qs.l2 : Nat → List (List ByteArray) → List ByteArray → List (List Int) → Int → List Int → Int → Int → Option ((List (List Int)))
 | 0, _, _, _, _, _, _, _ => none
 | k + 1, x0, x3, x4, x5, x6, x7, x8 => if x8 < (x3.length : Int) then (if 0 ≤ x8 then (if 0 ≤ x5 then (if x5 < (x0.length : Int) then (if 0 ≤ x7 then (if x7 < ((Vw x0 x5).length : Int) then (if (Ye ByteArray.empty x3 x8).toList = (Ye ByteArray.empty (Vw x0 x5) x7).toList then (if x8 = (x3.length : Int) then (if x3.length < 8796093022208 then (if x6.length < 17592186044416 then (Qs.l1 k x0 (x3 ++ [Ye ByteArray.empty (Vw x0 x5) x7]) x4 x5 (x6 ++ [x8]) (wrap64 (x7 + 1))) else (none)) else (none)) else (if x6.length < 17592186044416 then (Qs.l1 k x0 x3 x4 x5 (x6 ++ [x8]) (wrap64 (x7 + 1))) else (none))) else (Qs.l2 k x0 x3 x4 x5 x6 x7 (wrap64 (x8 + 1)))) else (none)) else (none)) else (none)) else (none)) else (none)) else (if x8 = (x3.length : Int) then (if 0 ≤ x5 then (if x5 < (x0.length : Int) then (if 0 ≤ x7 then (if x7 < ((Vw x0 x5).length : Int) then (if x3.length < 8796093022208 then (if x6.length < 17592186044416 then (Qs.l1 k x0 (x3 ++ [Ye ByteArray.empty (Vw x0 x5) x7]) x4 x5 (x6 ++ [x8]) (wrap64 (x7 + 1))) else (none)) else (none)) else (none)) else (none)) else (none)) else (none)) else (if x6.length < 17592186044416 then (Qs.l1 k x0 x3 x4 x5 (x6 ++ [x8]) (wrap64 (x7 + 1))) else (none)))
end
def Qs.f (k : Nat) (l0 : List (List ByteArray)) : Option ((List (List Int))) := Qs.l0 k l0 ([] : List ByteArray) ([] : List (List Int)) 0
set_option maxHeartbeats 8000000 in
set_option maxRecDepth 100000 in
theorem Qs.calls (k : Nat) (A0 : Option Addr) (c0 : Nat) (l0 : List (List ByteArray)) (r : List (List Int)) (w : World) (hr0 : Kd.C (Kd.slice 9 Kd.string) w A0 l0.length l0) (hc0 : l0.length ≤ c0) (h : Qs.f k l0 = some r) :
  Calls Try.prog 88 #[.slice A0 l0.length c0] w fun e w' => ∃ v0_ : Value, e = .returned (v0_) ∧ Kd.S (Kd.slice 3 (Kd.int .i64)) 22 w' w.heap.size (fun _ => True) v0_ r ∧ Below w.heap.size w w' := by
 have HR0 := Qa.mk hr0; have HC0 := Qa.mk hc0; clear hr0 hc0; have HB := Qa.mk (Below.refl w.heap.size w); have H : (Qs.l0 k l0 ([] : List ByteArray) ([] : List (List Int)) 0) = some r := h; clear h; have H' := Qa.mk H; clear H
 go_enter Try.func88, Try.ntmps88
 go_wp2
 repeat (go_quiet (fail); try go_wp2)
 go_loopg [3, 4, 5] k (fun kq v3 v4 v5 w' => ∃ (f4 : List ByteArray) (a8 : List (List Int)) (a0 : Int), v5 = .int .i64 a0 ∧ Qa (Qs.l0 kq l0 f4 a8 a0 = some r) ∧ Qa (kq ≤ k) ∧ Qa (Kd.R Kd.string 9 w' w.heap.size (fun _ => True) v3 f4) ∧ Qa (Kd.S (Kd.slice 3 (Kd.int .i64)) 22 w' w.heap.size (fun _ => True) v4 a8) ∧ Qa (Below w.heap.size w w'))
 case atStart => exact ⟨(([] : List ByteArray)), (([] : List (List Int))), (0), sm_, H', ⟨Nat.le_refl _⟩, ⟨by first | exact Kd.R_nil _ _ _ _ _ | exact Kd.N_nil _ _ _ _ _ | exact Kd.V_nil _ _ _ _ _ | exact Kd.Q_nil _ _ _ _ _ | exact Kd.S_nil _ _ _ _ _⟩, ⟨by first | exact Kd.S_nil _ _ _ _ _ | exact Kd.N_nil _ _ _ _ _ | exact Kd.V_nil _ _ _ _ _ | exact Kd.Q_nil _ _ _ _ _ | exact Kd.R_nil _ _ _ _ _⟩, ⟨bw_⟩⟩
 case round =>
  clear H'; obtain ⟨f4, a8, a0, rfl, HA, HK1, a4, a1, HB⟩ := hrel
  cases gk with
  | zero => exact absurd HA.out (by simp [Qs.l0])
  | succ k1 =>
   have H := HA.out; clear HA
   simp only [Qs.l0] at H
   by_cases c2 : a0 < (l0.length : Int)
   ·rw [if_pos c2] at H
    have f9 : decide (a0 < (l0.length : Int)) = true := decide_eq_true c2; clear c2; have H' := Qa.mk H; clear H
    go_wp2
    repeat (go_quiet (fail); try go_wp2)
    go_loopg [3, 6, 7] k1 (fun kq v3 v6 v7 w' => ∃ (a6 : List ByteArray) (a7 : List Int) (a2 : Int), v7 = .int .i64 a2 ∧ Qa (Qs.l1 kq l0 a6 a8 a0 a7 a2 = some r) ∧ Qa (kq ≤ k1) ∧ Qa (Kd.R Kd.string 9 w' w.heap.size (fun _ => True) v3 a6) ∧ Qa (Kd.S (Kd.slice 3 (Kd.int .i64)) 22 w' w.heap.size (fun k_ => some k_ ≠ (v6 : Value).ownBlock) u4 a8) ∧ Qa (Kd.R (Kd.int .i64) 3 w' w.heap.size (fun _ => True) v6 a7) ∧ Qa (Below w.heap.size w w'))
    case atStart => exact ⟨(f4), (([] : List Int)), (0), sm_, H', ⟨Nat.le_refl _⟩, ⟨ro_ a4.out⟩, ⟨by (with_reducible repeat (first | apply Kd.S_alloc | apply Kd.S_drewN | apply Kd.S_drew)); exact Kd.S_mono a1.out (fun _ hk => (by simp [Value.ownBlock]))⟩, ⟨by first | exact Kd.R_nil _ _ _ _ _ | exact Kd.N_nil _ _ _ _ _ | exact Kd.V_nil _ _ _ _ _ | exact Kd.Q_nil _ _ _ _ _ | exact Kd.S_nil _ _ _ _ _⟩, ⟨bw_⟩⟩
    case round =>
     clear H'
     try clear c2
     try clear f9
     try clear p2
     obtain ⟨a6, a7, a2, rfl, HA, HK2, a4, a1, a5, HB⟩ := hrel
     cases gk with
     | zero => exact absurd HA.out (by simp [Qs.l1])
     | succ k2 =>
      have H := HA.out; clear HA
      simp only [Qs.l1] at H
      by_cases c3 : 0 ≤ a0
      ·rw [if_pos c3] at H
       have m6 : decide (0 ≤ a0) = true := decide_eq_true c3; clear c3
       by_cases c4 : a0 < (l0.length : Int)
       ·rw [if_pos c4] at H
        have m7 : decide (a0 < (l0.length : Int)) = true := decide_eq_true c4; clear c4
        by_cases c5 : a2 < ((Vw l0 a0).length : Int)
        ·rw [if_pos c5] at H
         have k4 : decide (a2 < ((Vw l0 a0).length : Int)) = true := decide_eq_true c5; clear c5; have H' := Qa.mk H; clear H; have d3 : 0 ≤ (a0 : Int) := of_decide_eq_true Zx; have d4 : a0 < (l0.length : Int) := of_decide_eq_true Zx; obtain ⟨d5, k5, k6, g0, b1, hl101_0, hi101_0⟩ := Qfd HR0.out a0 d3 d4
         cases g0; replace b1 := Qg HB.out b1; have j7 := Qa.mk hi101_0; have j8 := Qa.mk hl101_0; clear hi101_0 hl101_0; replace d3 := eq_true d3; replace d4 := eq_true d4
         go_wp2
         repeat (go_quiet (fail); try go_wp2)
         go_loopg [8] k2 (fun kq v8 w' => ∃ (a3 : Int), v8 = .int .i64 a3 ∧ Qa (Qs.l2 kq l0 a6 a8 a0 a7 a2 a3 = some r) ∧ Qa (kq ≤ k2) ∧ Qa (Kd.R Kd.string 9 w' w.heap.size (fun _ => True) u3 a6) ∧ Qa (Kd.S (Kd.slice 3 (Kd.int .i64)) 22 w' w.heap.size (fun k_ => some k_ ≠ (u6 : Value).ownBlock) u4 a8) ∧ Qa (Kd.R (Kd.int .i64) 3 w' w.heap.size (fun _ => True) u6 a7) ∧ Qa (Below w.heap.size w w'))
         case atStart => exact ⟨(0), sm_, H', ⟨Nat.le_refl _⟩, ⟨ro_ a4.out⟩, ⟨so_ a1.out⟩, ⟨ro_ a5.out⟩, ⟨bw_⟩⟩
         case round =>
          clear H'
          try clear c1
          try clear p1
          try clear q1
          try clear hx1
          try clear c2
          try clear f9
          try clear p2
          try clear c3
          try clear m6
          try clear c4
          try clear m7
          try clear c5
          try clear k4
          try clear b1
          try clear d3
          try clear p2
          try clear d4
          obtain ⟨a3, rfl, HA, HK3, a4, a1, a5, HB⟩ := hrel
          cases gk with
          | zero => exact absurd HA.out (by simp [Qs.l2])
          | succ k3 =>
           have H := HA.out; clear HA
           simp only [Qs.l2] at H
           by_cases c6 : a3 < (a6.length : Int)
           ·rw [if_pos c6] at H
            have m8 : decide (a3 < (a6.length : Int)) = true := decide_eq_true c6; clear c6
            by_cases c7 : 0 ≤ a3
            ·rw [if_pos c7] at H
             have p6 : decide (0 ≤ a3) = true := decide_eq_true c7; clear c7
             by_cases c8 : 0 ≤ a0
             ·rw [if_pos c8] at H
              have p7 : decide (0 ≤ a0) = true := decide_eq_true c8; clear c8
              by_cases c9 : a0 < (l0.length : Int)
              ·rw [if_pos c9] at H
               have p8 : decide (a0 < (l0.length : Int)) = true := decide_eq_true c9; clear c9
               by_cases c10 : 0 ≤ a2
               ·rw [if_pos c10] at H
                have o6 : decide (0 ≤ a2) = true := decide_eq_true c10; clear c10
                by_cases c11 : a2 < ((Vw l0 a0).length : Int)
                ·rw [if_pos c11] at H
                 have o7 : decide (a2 < ((Vw l0 a0).length : Int)) = true := decide_eq_true c11; clear c11
                 by_cases c12 : (Ye ByteArray.empty a6 a3).toList = (Ye ByteArray.empty (Vw l0 a0) a2).toList
                 ·rw [if_pos c12] at H
                  have l8 : ((Ye ByteArray.empty a6 a3).toList == (Ye ByteArray.empty (Vw l0 a0) a2).toList) = true := beq_iff_eq.mpr c12; have l9 : ((Ye ByteArray.empty a6 a3).toList != (Ye ByteArray.empty (Vw l0 a0) a2).toList) = false := bne_eq_false_iff_eq.mpr c12; clear c12
                  by_cases c13 : a3 = (a6.length : Int)
                  ·rw [if_pos c13] at H
                   have m0 : (a3 == (a6.length : Int)) = true := beq_iff_eq.mpr c13; have m1 : (a3 != (a6.length : Int)) = false := bne_eq_false_iff_eq.mpr c13; clear c13
                   by_cases c14 : a6.length < 8796093022208
                   ·rw [if_pos c14] at H
                    have h2 := Qa.mk c14; clear c14; obtain ⟨g1, d6⟩ : ∃ y_ : List ByteArray, y_ = (a6 ++ [Ye ByteArray.empty (Vw l0 a0) a2]) := ⟨_, rfl⟩
                    replace H : (if a7.length < 17592186044416 then (Qs.l1 k3 l0 g1 a8 a0 (a7 ++ [a3]) (wrap64 (a2 + 1))) else (none)) = some r := by first | (rw [d6]; with_reducible exact H) | (have H2_ := (Option.bind_some _ _).symm.trans H; rw [d6]; with_reducible exact H2_) | (have H2_ := (Option.bind_some _ _).symm.trans H; with_reducible exact H2_) | with_reducible exact H | (rw [d6]; exact H) | exact H
                    have h3 := Qa.mk d6; clear d6
                    by_cases c15 : a7.length < 17592186044416
                    ·rw [if_pos c15] at H
                     have h4 := Qa.mk c15; clear c15; obtain ⟨k7, d7⟩ : ∃ y_ : List Int, y_ = (a7 ++ [a3]) := ⟨_, rfl⟩
                     replace H : (Qs.l1 k3 l0 g1 a8 a0 k7 (wrap64 (a2 + 1))) = some r := by first | (rw [d7]; with_reducible exact H) | (have H2_ := (Option.bind_some _ _).symm.trans H; rw [d7]; with_reducible exact H2_) | (have H2_ := (Option.bind_some _ _).symm.trans H; with_reducible exact H2_) | with_reducible exact H | (rw [d7]; exact H) | exact H
                     have h5 := Qa.mk d7; clear d7; have H' := Qa.mk H; clear H; obtain ⟨p9, k8, eo16⟩ := Kd.R_slice a4.out; subst eo16; have b2 : 0 ≤ (a3 : Int) := of_decide_eq_true Zx; have b3 : a3 < (a6.length : Int) := of_decide_eq_true Zx; obtain ⟨e5, e6, e9⟩ := Kd.at_string (Kd.R_reads' a4.out).2.2 a3 b2 b3
                     cases e6; replace b2 := eq_true b2; replace b3 := eq_true b3; have b4 : 0 ≤ (a0 : Int) := of_decide_eq_true Zx; have b5 : a0 < (l0.length : Int) := of_decide_eq_true Zx; obtain ⟨d8, f7, f8, e7, a9, hl106_0, hi106_0⟩ := Qfd HR0.out a0 b4 b5; obtain rfl : d5 = d8 := (by injection e7); replace a9 := Qg HB.out a9; have d0 := Qa.mk hi106_0; have f0 := Qa.mk hl106_0; clear hi106_0 hl106_0; replace b4 := eq_true b4; replace b5 := eq_true b5; have b6 : 0 ≤ (a2 : Int) := of_decide_eq_true Zx; have b7 : a2 < ((Vw l0 a0).length : Int) := of_decide_eq_true Zx; obtain ⟨h6, e8, b0⟩ := Kd.at_string d0.out a2 b6 b7
                     cases e8; replace b0 := Qg HB.out b0; replace b6 := eq_true b6; replace b7 := eq_true b7; have g2 : 0 ≤ (a0 : Int) := of_decide_eq_true Zx; have g3 : a0 < (l0.length : Int) := of_decide_eq_true Zx; obtain ⟨m2, o2, o3, m9, e4, hl108_0, hi108_0⟩ := Qfd HR0.out a0 g2 g3; obtain rfl : d5 = m2 := (by injection m9); replace e4 := Qg HB.out e4; have j9 := Qa.mk hi108_0; have o0 := Qa.mk hl108_0; clear hi108_0 hl108_0; replace g2 := eq_true g2; replace g3 := eq_true g3; have ea_ := Option.some.inj (a9.symm.trans e4)
                     injection ea_ with ea_ en_ ec_
                     subst ea_; subst ec_; clear en_; have g4 : 0 ≤ (a2 : Int) := of_decide_eq_true Zx; have g5 : a2 < ((Vw l0 a0).length : Int) := of_decide_eq_true Zx; obtain ⟨o8, n0, f1⟩ := Kd.at_string j9.out a2 g4 g5
                     cases n0; replace f1 := Qg HB.out f1; replace g4 := eq_true g4; replace g5 := eq_true g5; go_wp2_with (first | ((with_reducible refine Xl (b := .append) (xs := #[.tmp 48, .tmp 56]) rfl ?_); at_builtin; refine Kd.R_append Kd.string (w0 := w) w.heap.size rfl (.tmp 48) (.tmp 56) 27 9 (.string ⟨#[]⟩) 16 rfl Try.underlying27 Ko rfl (by decide) (by omega) (.slice (some e5) a6.length k8) a6 (Ye ByteArray.empty (Vw l0 a0) a2) [.string (Ye ByteArray.empty (Vw l0 a0) a2)] (fun _ => True) (fun _ => False) rfl rfl ?aP (fun _ hk => hk.elim) ?aF ?aO ?aB ?aS ?aL ?_; (case aP => exact rfl); (case aB => exact bw_); (case aF => exact (fun _ _ => trivial)); (case aO => exact (ro_ a4.out)); (case aS => exact (Qo bw_)); (case aL => have := h2.out; omega); intro n1 w17 ho hb hg hat; rw [← h3.out] at ho; have n0_ := Qa.mk (Kd.S_over' (so_ a1.out) (Kd.R_typed (ro_ a4.out)) (by decide) hg); have n1_ := Qa.mk (Kd.R_over' (ro_ a5.out) (Kd.R_typed (ro_ a4.out)) (by decide) hg); have n2_ := Qa.mk (hb); have n3_ := Qa.mk (ho); clear a1; clear a5; clear HB; clear a4; have a1 := n0_; have a5 := n1_; have HB := n2_; have b8 := n3_; clear n0_ n1_ n2_ n3_; clear ho hb hg hat) | ((with_reducible refine Xl (b := .append) (xs := #[.tmp 58, .tmp 60]) rfl ?_); at_builtin; refine Kd.R_append (Kd.int .i64) (w0 := w) w.heap.size rfl (.tmp 58) (.tmp 60) 22 3 (.int .i64 0) 8 rfl Try.underlying22 Uy rfl (by decide) (by omega) u6 a7 a3 [.int .i64 a3] (fun _ => True) (fun _ => False) rfl rfl ?aP (fun _ hk => hk.elim) ?aF ?aO ?aB ?aS ?aL ?_; (case aP => exact rfl); (case aB => exact bw_); (case aF => exact (fun _ _ => trivial)); (case aO => exact (ro_ a5.out)); (case aS => exact (Qo bw_)); (case aL => have := h4.out; omega); intro n2 w18 ho hb hg hat; rw [← h5.out] at ho; have n0_ := Qa.mk (Kd.S_after (ok := (fun _ => True)) (so_ (Kd.S_mono a1.out (fun _ hk => ⟨trivial, hk⟩))) hg hat); have n1_ := Qa.mk (Kd.R_over' (ro_ b8.out) (Kd.R_typed (ro_ a5.out)) (by decide) hg); have n2_ := Qa.mk (hb); have n3_ := Qa.mk (ho); clear a1; clear b8; clear HB; clear a5; have a1 := n0_; have b8 := n1_; have HB := n2_; have h7 := n3_; clear n0_ n1_ n2_ n3_; clear ho hb hg hat))
                     repeat (go_quiet (fail); try go_wp2_with (first | ((with_reducible refine Xl (b := .append) (xs := #[.tmp 48, .tmp 56]) rfl ?_); at_builtin; refine Kd.R_append Kd.string (w0 := w) w.heap.size rfl (.tmp 48) (.tmp 56) 27 9 (.string ⟨#[]⟩) 16 rfl Try.underlying27 Ko rfl (by decide) (by omega) (.slice (some e5) a6.length k8) a6 (Ye ByteArray.empty (Vw l0 a0) a2) [.string (Ye ByteArray.empty (Vw l0 a0) a2)] (fun _ => True) (fun _ => False) rfl rfl ?aP (fun _ hk => hk.elim) ?aF ?aO ?aB ?aS ?aL ?_; (case aP => exact rfl); (case aB => exact bw_); (case aF => exact (fun _ _ => trivial)); (case aO => exact (ro_ a4.out)); (case aS => exact (Qo bw_)); (case aL => have := h2.out; omega); intro n1 w17 ho hb hg hat; rw [← h3.out] at ho; have n0_ := Qa.mk (Kd.S_over' (so_ a1.out) (Kd.R_typed (ro_ a4.out)) (by decide) hg); have n1_ := Qa.mk (Kd.R_over' (ro_ a5.out) (Kd.R_typed (ro_ a4.out)) (by decide) hg); have n2_ := Qa.mk (hb); have n3_ := Qa.mk (ho); clear a1; clear a5; clear HB; clear a4; have a1 := n0_; have a5 := n1_; have HB := n2_; have b8 := n3_; clear n0_ n1_ n2_ n3_; clear ho hb hg hat) | ((with_reducible refine Xl (b := .append) (xs := #[.tmp 58, .tmp 60]) rfl ?_); at_builtin; refine Kd.R_append (Kd.int .i64) (w0 := w) w.heap.size rfl (.tmp 58) (.tmp 60) 22 3 (.int .i64 0) 8 rfl Try.underlying22 Uy rfl (by decide) (by omega) u6 a7 a3 [.int .i64 a3] (fun _ => True) (fun _ => False) rfl rfl ?aP (fun _ hk => hk.elim) ?aF ?aO ?aB ?aS ?aL ?_; (case aP => exact rfl); (case aB => exact bw_); (case aF => exact (fun _ _ => trivial)); (case aO => exact (ro_ a5.out)); (case aS => exact (Qo bw_)); (case aL => have := h4.out; omega); intro n2 w18 ho hb hg hat; rw [← h5.out] at ho; have n0_ := Qa.mk (Kd.S_after (ok := (fun _ => True)) (so_ (Kd.S_mono a1.out (fun _ hk => ⟨trivial, hk⟩))) hg hat); have n1_ := Qa.mk (Kd.R_over' (ro_ b8.out) (Kd.R_typed (ro_ a5.out)) (by decide) hg); have n2_ := Qa.mk (hb); have n3_ := Qa.mk (ho); clear a1; clear b8; clear HB; clear a5; have a1 := n0_; have b8 := n1_; have HB := n2_; have h7 := n3_; clear n0_ n1_ n2_ n3_; clear ho hb hg hat)))
                     go_roundg k3
                     case measure => have := HK1.out; have := HK2.out; have := HK3.out; omega
                     case rel => exact ⟨(g1), (k7), (wrap64 (a2 + 1)), sm_, H', ⟨by have := HK1.out; have := HK2.out; have := HK3.out; omega⟩, ⟨ro_ b8.out⟩, ⟨by (with_reducible repeat (first | apply Kd.S_alloc | apply Kd.S_drewN | apply Kd.S_drew)); exact Kd.S_mono a1.out (fun _ hk => hk.2)⟩, ⟨ro_ h7.out⟩, ⟨bw_⟩⟩
                    ·rw [if_neg c15] at H
                     exact absurd H (by simp)
                   ·rw [if_neg c14] at H
                    exact absurd H (by simp)
                  ·rw [if_neg c13] at H
                   have m0 : (a3 == (a6.length : Int)) = false := beq_eq_false_iff_ne.mpr c13; have m1 : (a3 != (a6.length : Int)) = true := bne_iff_ne.mpr c13
                   by_cases c19 : a7.length < 17592186044416
                   ·rw [if_pos c19] at H
                    have h8 := Qa.mk c19; clear c19; obtain ⟨k9, d9⟩ : ∃ y_ : List Int, y_ = (a7 ++ [a3]) := ⟨_, rfl⟩
                    replace H : (Qs.l1 k3 l0 a6 a8 a0 k9 (wrap64 (a2 + 1))) = some r := by first | (rw [d9]; with_reducible exact H) | (have H2_ := (Option.bind_some _ _).symm.trans H; rw [d9]; with_reducible exact H2_) | (have H2_ := (Option.bind_some _ _).symm.trans H; with_reducible exact H2_) | with_reducible exact H | (rw [d9]; exact H) | exact H
                    have h9 := Qa.mk d9; clear d9; have H' := Qa.mk H; clear H; obtain ⟨q0, q2, eo20⟩ := Kd.R_slice a4.out; subst eo20; have b2 : 0 ≤ (a3 : Int) := of_decide_eq_true Zx; have b3 : a3 < (a6.length : Int) := of_decide_eq_true Zx; obtain ⟨e5, e6, e9⟩ := Kd.at_string (Kd.R_reads' a4.out).2.2 a3 b2 b3
                    cases e6; replace b2 := eq_true b2; replace b3 := eq_true b3; have b4 : 0 ≤ (a0 : Int) := of_decide_eq_true Zx; have b5 : a0 < (l0.length : Int) := of_decide_eq_true Zx; obtain ⟨d8, f7, f8, e7, a9, hl106_0, hi106_0⟩ := Qfd HR0.out a0 b4 b5; obtain rfl : d5 = d8 := (by injection e7); replace a9 := Qg HB.out a9; have d0 := Qa.mk hi106_0; have f0 := Qa.mk hl106_0; clear hi106_0 hl106_0; replace b4 := eq_true b4; replace b5 := eq_true b5; have b6 : 0 ≤ (a2 : Int) := of_decide_eq_true Zx; have b7 : a2 < ((Vw l0 a0).length : Int) := of_decide_eq_true Zx; obtain ⟨h6, e8, b0⟩ := Kd.at_string d0.out a2 b6 b7
                    cases e8; replace b0 := Qg HB.out b0; replace b6 := eq_true b6; replace b7 := eq_true b7; go_wp2_with (first | ((with_reducible refine Xl (b := .append) (xs := #[.tmp 58, .tmp 60]) rfl ?_); at_builtin; refine Kd.R_append (Kd.int .i64) (w0 := w) w.heap.size rfl (.tmp 58) (.tmp 60) 22 3 (.int .i64 0) 8 rfl Try.underlying22 Uy rfl (by decide) (by omega) u6 a7 a3 [.int .i64 a3] (fun _ => True) (fun _ => False) rfl rfl ?aP (fun _ hk => hk.elim) ?aF ?aO ?aB ?aS ?aL ?_; (case aP => exact rfl); (case aB => exact bw_); (case aF => exact (fun _ _ => trivial)); (case aO => exact (ro_ a5.out)); (case aS => exact (Qo bw_)); (case aL => have := h8.out; omega); intro n3 w21 ho hb hg hat; rw [← h9.out] at ho; have n0_ := Qa.mk (Kd.R_over' (ro_ a4.out) (Kd.R_typed (ro_ a5.out)) (by decide) hg); have n1_ := Qa.mk (Kd.S_after (ok := (fun _ => True)) (so_ (Kd.S_mono a1.out (fun _ hk => ⟨trivial, hk⟩))) hg hat); have n2_ := Qa.mk (hb); have n3_ := Qa.mk (ho); clear a4; clear a1; clear HB; clear a5; have a4 := n0_; have a1 := n1_; have HB := n2_; have i0 := n3_; clear n0_ n1_ n2_ n3_; clear ho hb hg hat))
                    repeat (go_quiet (fail); try go_wp2_with (first | ((with_reducible refine Xl (b := .append) (xs := #[.tmp 58, .tmp 60]) rfl ?_); at_builtin; refine Kd.R_append (Kd.int .i64) (w0 := w) w.heap.size rfl (.tmp 58) (.tmp 60) 22 3 (.int .i64 0) 8 rfl Try.underlying22 Uy rfl (by decide) (by omega) u6 a7 a3 [.int .i64 a3] (fun _ => True) (fun _ => False) rfl rfl ?aP (fun _ hk => hk.elim) ?aF ?aO ?aB ?aS ?aL ?_; (case aP => exact rfl); (case aB => exact bw_); (case aF => exact (fun _ _ => trivial)); (case aO => exact (ro_ a5.out)); (case aS => exact (Qo bw_)); (case aL => have := h8.out; omega); intro n3 w21 ho hb hg hat; rw [← h9.out] at ho; have n0_ := Qa.mk (Kd.R_over' (ro_ a4.out) (Kd.R_typed (ro_ a5.out)) (by decide) hg); have n1_ := Qa.mk (Kd.S_after (ok := (fun _ => True)) (so_ (Kd.S_mono a1.out (fun _ hk => ⟨trivial, hk⟩))) hg hat); have n2_ := Qa.mk (hb); have n3_ := Qa.mk (ho); clear a4; clear a1; clear HB; clear a5; have a4 := n0_; have a1 := n1_; have HB := n2_; have i0 := n3_; clear n0_ n1_ n2_ n3_; clear ho hb hg hat)))
                    go_roundg k3
                    case measure => have := HK1.out; have := HK2.out; have := HK3.out; omega
                    case rel => exact ⟨(a6), (k9), (wrap64 (a2 + 1)), sm_, H', ⟨by have := HK1.out; have := HK2.out; have := HK3.out; omega⟩, ⟨ro_ a4.out⟩, ⟨by (with_reducible repeat (first | apply Kd.S_alloc | apply Kd.S_drewN | apply Kd.S_drew)); exact Kd.S_mono a1.out (fun _ hk => hk.2)⟩, ⟨ro_ i0.out⟩, ⟨bw_⟩⟩
                   ·rw [if_neg c19] at H
                    exact absurd H (by simp)
                 ·rw [if_neg c12] at H
                  have l8 : ((Ye ByteArray.empty a6 a3).toList == (Ye ByteArray.empty (Vw l0 a0) a2).toList) = false := beq_eq_false_iff_ne.mpr c12; have l9 : ((Ye ByteArray.empty a6 a3).toList != (Ye ByteArray.empty (Vw l0 a0) a2).toList) = true := bne_iff_ne.mpr c12; have H' := Qa.mk H; clear H; obtain ⟨q3, q4, eo22⟩ := Kd.R_slice a4.out; subst eo22; have b2 : 0 ≤ (a3 : Int) := of_decide_eq_true Zx; have b3 : a3 < (a6.length : Int) := of_decide_eq_true Zx; obtain ⟨e5, e6, e9⟩ := Kd.at_string (Kd.R_reads' a4.out).2.2 a3 b2 b3
                  cases e6; replace b2 := eq_true b2; replace b3 := eq_true b3; have b4 : 0 ≤ (a0 : Int) := of_decide_eq_true Zx; have b5 : a0 < (l0.length : Int) := of_decide_eq_true Zx; obtain ⟨d8, f7, f8, e7, a9, hl106_0, hi106_0⟩ := Qfd HR0.out a0 b4 b5; obtain rfl : d5 = d8 := (by injection e7); replace a9 := Qg HB.out a9; have d0 := Qa.mk hi106_0; have f0 := Qa.mk hl106_0; clear hi106_0 hl106_0; replace b4 := eq_true b4; replace b5 := eq_true b5; have b6 : 0 ≤ (a2 : Int) := of_decide_eq_true Zx; have b7 : a2 < ((Vw l0 a0).length : Int) := of_decide_eq_true Zx; obtain ⟨h6, e8, b0⟩ := Kd.at_string d0.out a2 b6 b7
                  cases e8; replace b0 := Qg HB.out b0; replace b6 := eq_true b6; replace b7 := eq_true b7
                  go_wp2
                  repeat (go_quiet (fail); try go_wp2)
                  go_roundg k3
                  case measure => have := HK1.out; have := HK2.out; have := HK3.out; omega
                  case rel => exact ⟨(wrap64 (a3 + 1)), sm_, H', ⟨by have := HK1.out; have := HK2.out; have := HK3.out; omega⟩, ⟨ro_ a4.out⟩, ⟨so_ a1.out⟩, ⟨ro_ a5.out⟩, ⟨bw_⟩⟩
                ·rw [if_neg c11] at H
                 exact absurd H (by simp)
               ·rw [if_neg c10] at H
                exact absurd H (by simp)
              ·rw [if_neg c9] at H
               exact absurd H (by simp)
             ·rw [if_neg c8] at H
              exact absurd H (by simp)
            ·rw [if_neg c7] at H
             exact absurd H (by simp)
           ·rw [if_neg c6] at H
            have m8 : decide (a3 < (a6.length : Int)) = false := decide_eq_false c6; clear c6
            by_cases c23 : a3 = (a6.length : Int)
            ·rw [if_pos c23] at H
             have m3 : (a3 == (a6.length : Int)) = true := beq_iff_eq.mpr c23; have m4 : (a3 != (a6.length : Int)) = false := bne_eq_false_iff_eq.mpr c23; clear c23
             by_cases c24 : 0 ≤ a0
             ·rw [if_pos c24] at H
              have o9 : decide (0 ≤ a0) = true := decide_eq_true c24; clear c24
              by_cases c25 : a0 < (l0.length : Int)
              ·rw [if_pos c25] at H
               have p0 : decide (a0 < (l0.length : Int)) = true := decide_eq_true c25; clear c25
               by_cases c26 : 0 ≤ a2
               ·rw [if_pos c26] at H
                have p3 : decide (0 ≤ a2) = true := decide_eq_true c26; clear c26
                by_cases c27 : a2 < ((Vw l0 a0).length : Int)
                ·rw [if_pos c27] at H
                 have p4 : decide (a2 < ((Vw l0 a0).length : Int)) = true := decide_eq_true c27; clear c27
                 by_cases c28 : a6.length < 8796093022208
                 ·rw [if_pos c28] at H
                  have i1 := Qa.mk c28; clear c28; obtain ⟨g6, e0⟩ : ∃ y_ : List ByteArray, y_ = (a6 ++ [Ye ByteArray.empty (Vw l0 a0) a2]) := ⟨_, rfl⟩
                  replace H : (if a7.length < 17592186044416 then (Qs.l1 k3 l0 g6 a8 a0 (a7 ++ [a3]) (wrap64 (a2 + 1))) else (none)) = some r := by first | (rw [e0]; with_reducible exact H) | (have H2_ := (Option.bind_some _ _).symm.trans H; rw [e0]; with_reducible exact H2_) | (have H2_ := (Option.bind_some _ _).symm.trans H; with_reducible exact H2_) | with_reducible exact H | (rw [e0]; exact H) | exact H
                  have i2 := Qa.mk e0; clear e0
                  by_cases c29 : a7.length < 17592186044416
                  ·rw [if_pos c29] at H
                   have i3 := Qa.mk c29; clear c29; obtain ⟨l3, e1⟩ : ∃ y_ : List Int, y_ = (a7 ++ [a3]) := ⟨_, rfl⟩
                   replace H : (Qs.l1 k3 l0 g6 a8 a0 l3 (wrap64 (a2 + 1))) = some r := by first | (rw [e1]; with_reducible exact H) | (have H2_ := (Option.bind_some _ _).symm.trans H; rw [e1]; with_reducible exact H2_) | (have H2_ := (Option.bind_some _ _).symm.trans H; with_reducible exact H2_) | with_reducible exact H | (rw [e1]; exact H) | exact H
                   have i4 := Qa.mk e1; clear e1; have H' := Qa.mk H; clear H; obtain ⟨l4, l5, eo30⟩ := Kd.R_slice a4.out; subst eo30; have g7 : 0 ≤ (a0 : Int) := of_decide_eq_true Zx; have g8 : a0 < (l0.length : Int) := of_decide_eq_true Zx; obtain ⟨m5, o4, o5, n4, f2, hl119_0, hi119_0⟩ := Qfd HR0.out a0 g7 g8; obtain rfl : d5 = m5 := (by injection n4); replace f2 := Qg HB.out f2; have k0 := Qa.mk hi119_0; have o1 := Qa.mk hl119_0; clear hi119_0 hl119_0; replace g7 := eq_true g7; replace g8 := eq_true g8; have g9 : 0 ≤ (a2 : Int) := of_decide_eq_true Zx; have h0 : a2 < ((Vw l0 a0).length : Int) := of_decide_eq_true Zx; obtain ⟨p5, n5, f3⟩ := Kd.at_string k0.out a2 g9 h0
                   cases n5; replace f3 := Qg HB.out f3; replace g9 := eq_true g9; replace h0 := eq_true h0; go_wp2_with (first | ((with_reducible refine Xl (b := .append) (xs := #[.tmp 48, .tmp 56]) rfl ?_); at_builtin; refine Kd.R_append Kd.string (w0 := w) w.heap.size rfl (.tmp 48) (.tmp 56) 27 9 (.string ⟨#[]⟩) 16 rfl Try.underlying27 Ko rfl (by decide) (by omega) (.slice l4 a6.length l5) a6 (Ye ByteArray.empty (Vw l0 a0) a2) [.string (Ye ByteArray.empty (Vw l0 a0) a2)] (fun _ => True) (fun _ => False) rfl rfl ?aP (fun _ hk => hk.elim) ?aF ?aO ?aB ?aS ?aL ?_; (case aP => exact rfl); (case aB => exact bw_); (case aF => exact (fun _ _ => trivial)); (case aO => exact (ro_ a4.out)); (case aS => exact (Qo bw_)); (case aL => have := i1.out; omega); intro n6 w31 ho hb hg hat; rw [← i2.out] at ho; have n0_ := Qa.mk (Kd.S_over' (so_ a1.out) (Kd.R_typed (ro_ a4.out)) (by decide) hg); have n1_ := Qa.mk (Kd.R_over' (ro_ a5.out) (Kd.R_typed (ro_ a4.out)) (by decide) hg); have n2_ := Qa.mk (hb); have n3_ := Qa.mk (ho); clear a1; clear a5; clear HB; clear a4; have a1 := n0_; have a5 := n1_; have HB := n2_; have b9 := n3_; clear n0_ n1_ n2_ n3_; clear ho hb hg hat) | ((with_reducible refine Xl (b := .append) (xs := #[.tmp 58, .tmp 60]) rfl ?_); at_builtin; refine Kd.R_append (Kd.int .i64) (w0 := w) w.heap.size rfl (.tmp 58) (.tmp 60) 22 3 (.int .i64 0) 8 rfl Try.underlying22 Uy rfl (by decide) (by omega) u6 a7 a3 [.int .i64 a3] (fun _ => True) (fun _ => False) rfl rfl ?aP (fun _ hk => hk.elim) ?aF ?aO ?aB ?aS ?aL ?_; (case aP => exact rfl); (case aB => exact bw_); (case aF => exact (fun _ _ => trivial)); (case aO => exact (ro_ a5.out)); (case aS => exact (Qo bw_)); (case aL => have := i3.out; omega); intro n7 w32 ho hb hg hat; rw [← i4.out] at ho; have n0_ := Qa.mk (Kd.S_after (ok := (fun _ => True)) (so_ (Kd.S_mono a1.out (fun _ hk => ⟨trivial, hk⟩))) hg hat); have n1_ := Qa.mk (Kd.R_over' (ro_ b9.out) (Kd.R_typed (ro_ a5.out)) (by decide) hg); have n2_ := Qa.mk (hb); have n3_ := Qa.mk (ho); clear a1; clear b9; clear HB; clear a5; have a1 := n0_; have b9 := n1_; have HB := n2_; have i5 := n3_; clear n0_ n1_ n2_ n3_; clear ho hb hg hat))
                   repeat (go_quiet (fail); try go_wp2_with (first | ((with_reducible refine Xl (b := .append) (xs := #[.tmp 48, .tmp 56]) rfl ?_); at_builtin; refine Kd.R_append Kd.string (w0 := w) w.heap.size rfl (.tmp 48) (.tmp 56) 27 9 (.string ⟨#[]⟩) 16 rfl Try.underlying27 Ko rfl (by decide) (by omega) (.slice l4 a6.length l5) a6 (Ye ByteArray.empty (Vw l0 a0) a2) [.string (Ye ByteArray.empty (Vw l0 a0) a2)] (fun _ => True) (fun _ => False) rfl rfl ?aP (fun _ hk => hk.elim) ?aF ?aO ?aB ?aS ?aL ?_; (case aP => exact rfl); (case aB => exact bw_); (case aF => exact (fun _ _ => trivial)); (case aO => exact (ro_ a4.out)); (case aS => exact (Qo bw_)); (case aL => have := i1.out; omega); intro n6 w31 ho hb hg hat; rw [← i2.out] at ho; have n0_ := Qa.mk (Kd.S_over' (so_ a1.out) (Kd.R_typed (ro_ a4.out)) (by decide) hg); have n1_ := Qa.mk (Kd.R_over' (ro_ a5.out) (Kd.R_typed (ro_ a4.out)) (by decide) hg); have n2_ := Qa.mk (hb); have n3_ := Qa.mk (ho); clear a1; clear a5; clear HB; clear a4; have a1 := n0_; have a5 := n1_; have HB := n2_; have b9 := n3_; clear n0_ n1_ n2_ n3_; clear ho hb hg hat) | ((with_reducible refine Xl (b := .append) (xs := #[.tmp 58, .tmp 60]) rfl ?_); at_builtin; refine Kd.R_append (Kd.int .i64) (w0 := w) w.heap.size rfl (.tmp 58) (.tmp 60) 22 3 (.int .i64 0) 8 rfl Try.underlying22 Uy rfl (by decide) (by omega) u6 a7 a3 [.int .i64 a3] (fun _ => True) (fun _ => False) rfl rfl ?aP (fun _ hk => hk.elim) ?aF ?aO ?aB ?aS ?aL ?_; (case aP => exact rfl); (case aB => exact bw_); (case aF => exact (fun _ _ => trivial)); (case aO => exact (ro_ a5.out)); (case aS => exact (Qo bw_)); (case aL => have := i3.out; omega); intro n7 w32 ho hb hg hat; rw [← i4.out] at ho; have n0_ := Qa.mk (Kd.S_after (ok := (fun _ => True)) (so_ (Kd.S_mono a1.out (fun _ hk => ⟨trivial, hk⟩))) hg hat); have n1_ := Qa.mk (Kd.R_over' (ro_ b9.out) (Kd.R_typed (ro_ a5.out)) (by decide) hg); have n2_ := Qa.mk (hb); have n3_ := Qa.mk (ho); clear a1; clear b9; clear HB; clear a5; have a1 := n0_; have b9 := n1_; have HB := n2_; have i5 := n3_; clear n0_ n1_ n2_ n3_; clear ho hb hg hat)))
                   go_roundg k3
                   case measure => have := HK1.out; have := HK2.out; have := HK3.out; omega
                   case rel => exact ⟨(g6), (l3), (wrap64 (a2 + 1)), sm_, H', ⟨by have := HK1.out; have := HK2.out; have := HK3.out; omega⟩, ⟨ro_ b9.out⟩, ⟨by (with_reducible repeat (first | apply Kd.S_alloc | apply Kd.S_drewN | apply Kd.S_drew)); exact Kd.S_mono a1.out (fun _ hk => hk.2)⟩, ⟨ro_ i5.out⟩, ⟨bw_⟩⟩
                  ·rw [if_neg c29] at H
                   exact absurd H (by simp)
                 ·rw [if_neg c28] at H
                  exact absurd H (by simp)
                ·rw [if_neg c27] at H
                 exact absurd H (by simp)
               ·rw [if_neg c26] at H
                exact absurd H (by simp)
              ·rw [if_neg c25] at H
               exact absurd H (by simp)
             ·rw [if_neg c24] at H
              exact absurd H (by simp)
            ·rw [if_neg c23] at H
             have m3 : (a3 == (a6.length : Int)) = false := beq_eq_false_iff_ne.mpr c23; have m4 : (a3 != (a6.length : Int)) = true := bne_iff_ne.mpr c23
             by_cases c33 : a7.length < 17592186044416
             ·rw [if_pos c33] at H
              have i6 := Qa.mk c33; clear c33; obtain ⟨l6, e2⟩ : ∃ y_ : List Int, y_ = (a7 ++ [a3]) := ⟨_, rfl⟩
              replace H : (Qs.l1 k3 l0 a6 a8 a0 l6 (wrap64 (a2 + 1))) = some r := by first | (rw [e2]; with_reducible exact H) | (have H2_ := (Option.bind_some _ _).symm.trans H; rw [e2]; with_reducible exact H2_) | (have H2_ := (Option.bind_some _ _).symm.trans H; with_reducible exact H2_) | with_reducible exact H | (rw [e2]; exact H) | exact H
              have i7 := Qa.mk e2; clear e2; have H' := Qa.mk H; clear H; obtain ⟨q5, q6, eo34⟩ := Kd.R_slice a4.out; subst eo34; go_wp2_with (first | ((with_reducible refine Xl (b := .append) (xs := #[.tmp 58, .tmp 60]) rfl ?_); at_builtin; refine Kd.R_append (Kd.int .i64) (w0 := w) w.heap.size rfl (.tmp 58) (.tmp 60) 22 3 (.int .i64 0) 8 rfl Try.underlying22 Uy rfl (by decide) (by omega) u6 a7 a3 [.int .i64 a3] (fun _ => True) (fun _ => False) rfl rfl ?aP (fun _ hk => hk.elim) ?aF ?aO ?aB ?aS ?aL ?_; (case aP => exact rfl); (case aB => exact bw_); (case aF => exact (fun _ _ => trivial)); (case aO => exact (ro_ a5.out)); (case aS => exact (Qo bw_)); (case aL => have := i6.out; omega); intro n8 w35 ho hb hg hat; rw [← i7.out] at ho; have n0_ := Qa.mk (Kd.R_over' (ro_ a4.out) (Kd.R_typed (ro_ a5.out)) (by decide) hg); have n1_ := Qa.mk (Kd.S_after (ok := (fun _ => True)) (so_ (Kd.S_mono a1.out (fun _ hk => ⟨trivial, hk⟩))) hg hat); have n2_ := Qa.mk (hb); have n3_ := Qa.mk (ho); clear a4; clear a1; clear HB; clear a5; have a4 := n0_; have a1 := n1_; have HB := n2_; have i8 := n3_; clear n0_ n1_ n2_ n3_; clear ho hb hg hat))
              repeat (go_quiet (fail); try go_wp2_with (first | ((with_reducible refine Xl (b := .append) (xs := #[.tmp 58, .tmp 60]) rfl ?_); at_builtin; refine Kd.R_append (Kd.int .i64) (w0 := w) w.heap.size rfl (.tmp 58) (.tmp 60) 22 3 (.int .i64 0) 8 rfl Try.underlying22 Uy rfl (by decide) (by omega) u6 a7 a3 [.int .i64 a3] (fun _ => True) (fun _ => False) rfl rfl ?aP (fun _ hk => hk.elim) ?aF ?aO ?aB ?aS ?aL ?_; (case aP => exact rfl); (case aB => exact bw_); (case aF => exact (fun _ _ => trivial)); (case aO => exact (ro_ a5.out)); (case aS => exact (Qo bw_)); (case aL => have := i6.out; omega); intro n8 w35 ho hb hg hat; rw [← i7.out] at ho; have n0_ := Qa.mk (Kd.R_over' (ro_ a4.out) (Kd.R_typed (ro_ a5.out)) (by decide) hg); have n1_ := Qa.mk (Kd.S_after (ok := (fun _ => True)) (so_ (Kd.S_mono a1.out (fun _ hk => ⟨trivial, hk⟩))) hg hat); have n2_ := Qa.mk (hb); have n3_ := Qa.mk (ho); clear a4; clear a1; clear HB; clear a5; have a4 := n0_; have a1 := n1_; have HB := n2_; have i8 := n3_; clear n0_ n1_ n2_ n3_; clear ho hb hg hat)))
              go_roundg k3
              case measure => have := HK1.out; have := HK2.out; have := HK3.out; omega
              case rel => exact ⟨(a6), (l6), (wrap64 (a2 + 1)), sm_, H', ⟨by have := HK1.out; have := HK2.out; have := HK3.out; omega⟩, ⟨ro_ a4.out⟩, ⟨by (with_reducible repeat (first | apply Kd.S_alloc | apply Kd.S_drewN | apply Kd.S_drew)); exact Kd.S_mono a1.out (fun _ hk => hk.2)⟩, ⟨ro_ i8.out⟩, ⟨bw_⟩⟩
             ·rw [if_neg c33] at H
              exact absurd H (by simp)
        ·rw [if_neg c5] at H
         have k4 : decide (a2 < ((Vw l0 a0).length : Int)) = false := decide_eq_false c5; clear c5
         by_cases c36 : a8.length < 5864062014805
         ·rw [if_pos c36] at H
          have i9 := Qa.mk c36; clear c36; obtain ⟨l7, e3⟩ : ∃ y_ : List (List Int), y_ = (a8 ++ [a7]) := ⟨_, rfl⟩
          replace H : (Qs.l0 k2 l0 a6 l7 (wrap64 (a0 + 1))) = some r := by first | (rw [e3]; with_reducible exact H) | (have H2_ := (Option.bind_some _ _).symm.trans H; rw [e3]; with_reducible exact H2_) | (have H2_ := (Option.bind_some _ _).symm.trans H; with_reducible exact H2_) | with_reducible exact H | (rw [e3]; exact H) | exact H
          have j3 := Qa.mk e3; clear e3; have H' := Qa.mk H; clear H; have d3 : 0 ≤ (a0 : Int) := of_decide_eq_true Zx; have d4 : a0 < (l0.length : Int) := of_decide_eq_true Zx; obtain ⟨d5, k5, k6, g0, b1, hl101_0, hi101_0⟩ := Qfd HR0.out a0 d3 d4
          cases g0; replace b1 := Qg HB.out b1; have j7 := Qa.mk hi101_0; have j8 := Qa.mk hl101_0; clear hi101_0 hl101_0; replace d3 := eq_true d3; replace d4 := eq_true d4; obtain ⟨f5, f6, eo38⟩ := Kd.R_slice a5.out; subst eo38; go_wp2_with (first | ((with_reducible refine Xl (b := .append) (xs := #[.tmp 62, .tmp 64]) rfl ?_); at_builtin; refine Kd.S_append (Kd.slice 3 (Kd.int .i64)) (w0 := w) w.heap.size rfl (.tmp 62) (.tmp 64) 134 22 (.slice none 0 0) 24 rfl Try.underlying134 Qjy rfl (by decide) (by omega) u4 a8 a7 [.slice f5 a7.length f6] (fun _ => True) (fun k_ => some k_ = (.slice f5 a7.length f6 : Value).ownBlock) rfl rfl ?aP (fun k_ hk_ => ((Kd.R_mono (ok' := fun k_ => ((fun _ => True)) k_ ∧ some k_ ≠ (u4 : Value).ownBlock) (Kd.R_apart' (a5.out) (Kd.S_typed a1.out) (by decide)) (fun k_ hk => ⟨trivial, hk.2⟩))).1 k_ hk_.symm) ?aF ?aO ?aB ?aS ?aL ?_; (case aP => exact Kd.M_row (Kd.R_mono (Kd.R_tight rfl (Kd.R_mono (ok' := fun k_ => ((fun _ => True)) k_ ∧ some k_ ≠ (u4 : Value).ownBlock) (Kd.R_apart' (a5.out) (Kd.S_typed a1.out) (by decide)) (fun k_ hk => ⟨trivial, hk.2⟩))) (fun _ h_ => h_))); (case aB => exact bw_); (case aF => exact (fun _ _ => trivial)); (case aO => exact (so_ (Kd.S_mono a1.out (fun k_ hk => ⟨trivial, fun e_ => hk e_⟩)))); (case aS => exact (Qo bw_)); (case aL => have := i9.out; omega); intro n9 w37 ho hb hg hat; rw [← j3.out] at ho; have n0_ := Qa.mk (Kd.R_over' (ro_ a4.out) (Kd.S_typed (so_ a1.out)) (by decide) hg); have n1_ := Qa.mk (hb); have n2_ := Qa.mk (ho); clear a4; clear HB; clear a1; clear a5; have a4 := n0_; have HB := n1_; have j5 := n2_; clear n0_ n1_ n2_; clear ho hb hg hat))
          repeat (go_quiet (fail); try go_wp2_with (first | ((with_reducible refine Xl (b := .append) (xs := #[.tmp 62, .tmp 64]) rfl ?_); at_builtin; refine Kd.S_append (Kd.slice 3 (Kd.int .i64)) (w0 := w) w.heap.size rfl (.tmp 62) (.tmp 64) 134 22 (.slice none 0 0) 24 rfl Try.underlying134 Qjy rfl (by decide) (by omega) u4 a8 a7 [.slice f5 a7.length f6] (fun _ => True) (fun k_ => some k_ = (.slice f5 a7.length f6 : Value).ownBlock) rfl rfl ?aP (fun k_ hk_ => ((Kd.R_mono (ok' := fun k_ => ((fun _ => True)) k_ ∧ some k_ ≠ (u4 : Value).ownBlock) (Kd.R_apart' (a5.out) (Kd.S_typed a1.out) (by decide)) (fun k_ hk => ⟨trivial, hk.2⟩))).1 k_ hk_.symm) ?aF ?aO ?aB ?aS ?aL ?_; (case aP => exact Kd.M_row (Kd.R_mono (Kd.R_tight rfl (Kd.R_mono (ok' := fun k_ => ((fun _ => True)) k_ ∧ some k_ ≠ (u4 : Value).ownBlock) (Kd.R_apart' (a5.out) (Kd.S_typed a1.out) (by decide)) (fun k_ hk => ⟨trivial, hk.2⟩))) (fun _ h_ => h_))); (case aB => exact bw_); (case aF => exact (fun _ _ => trivial)); (case aO => exact (so_ (Kd.S_mono a1.out (fun k_ hk => ⟨trivial, fun e_ => hk e_⟩)))); (case aS => exact (Qo bw_)); (case aL => have := i9.out; omega); intro n9 w37 ho hb hg hat; rw [← j3.out] at ho; have n0_ := Qa.mk (Kd.R_over' (ro_ a4.out) (Kd.S_typed (so_ a1.out)) (by decide) hg); have n1_ := Qa.mk (hb); have n2_ := Qa.mk (ho); clear a4; clear HB; clear a1; clear a5; have a4 := n0_; have HB := n1_; have j5 := n2_; clear n0_ n1_ n2_; clear ho hb hg hat)))
          go_roundg k2
          case measure => have := HK1.out; have := HK2.out; omega
          case rel => exact ⟨(a6), (l7), (wrap64 (a0 + 1)), sm_, H', ⟨by have := HK1.out; have := HK2.out; omega⟩, ⟨ro_ a4.out⟩, ⟨so_ j5.out⟩, ⟨bw_⟩⟩
         ·rw [if_neg c36] at H
          exact absurd H (by simp)
       ·rw [if_neg c4] at H
        exact absurd H (by simp)
      ·rw [if_neg c3] at H
       exact absurd H (by simp)
   ·rw [if_neg c2] at H
    have f9 : decide (a0 < (l0.length : Int)) = false := decide_eq_false c2; clear c2; obtain rfl := Option.some.inj H
    go_wp2
    repeat (go_quiet (fail); try go_wp2)
    go_ret; exact ⟨_, by first | rfl | (simp [Qt, Qu] <;> rfl) | (simp [*, Qt, Qu] <;> rfl), so_ a1.out, bw_⟩
end Go.Proofs.Ytadafplbgophfaa.PA
end
section
namespace Go.Proofs.Ytadafplbgophfaa.PA
open Go.RowKit Go.Proofs.YtadafplbgophfaaW.PrintWords Go.Proofs.YtadafplbgophfaaW.PrintLast Go.Proofs.YtadafplbgophfaaW.PrintMore
abbrev N35 (w wr : World) (v : Value) (out : List Ys) : Prop := Kd.N Jh 144 wr w.heap.size (fun _ => True) v out
theorem N35.then_ {w wr w2 : World} {v : Value} {out : List Ys} (hb : w.heap.size ≤ wr.heap.size) (h : Kd.N Jh 144 w2 wr.heap.size (fun k_ => ((fun _ => True) k_ ∨ wr.heap.size ≤ k_)) v out) : N35 w w2 v out :=
 Kd.N_lower (Kd.N_mono h (fun _ _ => trivial)) hb
structure Qgc (w W : World) (gt : Nat) (tA tB : Int) (v : Value) (out : List Ys) : Prop where
 below : Below w.heap.size w W
 blk : W.heap[gt]? = some (.cells #[.int .i64 tA, .int .i64 tB] 37 (0, 0))
 row : N35 w W v out
theorem Qgc.start {w wr : World} {tA tB : Int} {v : Value} {out : List Ys} (hb : Below w.heap.size w wr) (hn : N35 w wr v out) : Qgc w (wr.alloc (.cells #[.int .i64 tA, .int .i64 tB] 37 (0, 0))) wr.heap.size tA tB v out :=
 ⟨Qh hb _, Vg wr _, Kd.N_alloc hn _⟩
theorem Qgc.step {w W W2 : World} {gt : Nat} {tA tB : Int} {v v2 : Value} {out out2 : List Ys} (h : Qgc w W gt tA tB v out) (hN : Kd.N Jh 144 W2 W.heap.size (fun k_ => ((fun _ => True) k_ ∨ W.heap.size ≤ k_)) v2 out2) (hB : Below W.heap.size W W2) : Qgc w W2 gt tA tB v2 out2 :=
 ⟨Qj h.below hB, Qq h.blk hB, N35.then_ h.below.size hN⟩
end Go.Proofs.Ytadafplbgophfaa.PA
end
section
namespace Go.Proofs.Ytadafplbgophfaa.PA
open Go.RowKit Go.Proofs.YtadafplbgophfaaW.PrintWords Go.Proofs.YtadafplbgophfaaW.PrintLast Go.Proofs.YtadafplbgophfaaW.PrintMore
namespace Jdg
def Ut (p : S37) : S39 := ⟨p.f0, p.f1⟩
theorem Uw (xs : List S37) {i : Nat} (h : i < xs.length) : Zm xs (i : Int) = xs[i] := by simp [Zm, List.getD_eq_getElem?_getD, h]
theorem Qnn (r : List S37) (hr : r.length ≤ 1000000000) : ∀ (d i : Nat), r.length - i ≤ d → i ≤ r.length → Ev (fun k => Zr.l0 k r ((r.take i).map Ut) i) (r.map Ut) := by
 intro d
 induction d with
 | zero =>
  intro i h1 h2; refine Ev.step (f := fun _ => some (r.map Ut)) (fun k => ?_) (Ev.now _); simp only [Zr.l0]; rw [if_neg (by omega), List.take_of_length_le (by omega)]
 | succ d ih =>
  intro i h1 h2
  by_cases hi : i < r.length
  ·refine Ev.step (fun k => ?_) (ih (i + 1) (by omega) (by omega))
   simp only [Zr.l0]; rw [if_pos (by omega), if_pos (by omega), if_pos (by rw [List.length_map, List.length_take]; omega), w64 (by omega) (by omega), Uw r hi, List.take_succ_eq_append_getElem hi, List.map_append]; rfl
  ·refine Ev.step (f := fun _ => some (r.map Ut)) (fun k => ?_) (Ev.now _)
   simp only [Zr.l0]; rw [if_neg (by omega), List.take_of_length_le (by omega)]
theorem to_ok (r : List S37) (hr : r.length ≤ 1000000000) : Ev (fun k => Zr.f k r) (r.map Ut) := by
 have := Qnn r hr r.length 0 (by omega) (by omega); exact this
end Jdg
end Go.Proofs.Ytadafplbgophfaa.PA
end
section
namespace Go.Proofs.Ytadafplbgophfaa.PA
open Go.RowKit Go.Proofs.YtadafplbgophfaaW.PrintWords Go.Proofs.YtadafplbgophfaaW.PrintLast Go.Proofs.YtadafplbgophfaaW.PrintMore
open Jdg
structure Scr (r : List Ys) : Prop where
 ne : NE r
 adj : Adj r
 kinds : Qkp r
theorem Scr.nil : Scr [] := ⟨fun x hx => by simp at hx, trivial, fun x hx => by simp at hx⟩
theorem Qjh (kn : List (List UInt8)) (s : ByteArray) : s.data.toList ∈ grow kn s := by unfold grow; split <;> simp_all
theorem Qms (kn : List (List UInt8)) (s : ByteArray) : (grow kn s).idxOf s.data.toList = kn.idxOf s.data.toList := by
  unfold grow
  split
  · rfl
  · rename_i h
    rw [List.idxOf_append, if_neg h, List.idxOf_eq_length h]; simp
theorem Qmr (kn : List (List UInt8)) (s : ByteArray) : ∃ e, grow kn s = kn ++ e := by
  unfold grow
  split
  · exact ⟨[], by simp⟩
  · exact ⟨_, rfl⟩
theorem Ka : ∀ (f : List ByteArray) (kn : List (List UInt8)), (∃ e, (Yg kn f).2 = kn ++ e) ∧ (∀ s ∈ f, s.data.toList ∈ (Yg kn f).2) ∧ (Yg kn f).1 = f.map (fun s => ((Yg kn f).2.idxOf s.data.toList : Int))
  | [], kn => ⟨⟨[], by simp [Yg]⟩, fun s hs => by simp at hs, rfl⟩
  | s :: f, kn => by
    obtain ⟨⟨e, h1⟩, h2, h3⟩ := Ka f (grow kn s)
    obtain ⟨e', hg⟩ := Qmr kn s
    refine ⟨⟨e' ++ e, ?_⟩, ?_, ?_⟩
    · simp only [Yg]; rw [h1, hg, List.append_assoc]
    · intro u hu
      simp only [Yg]
      rcases List.mem_cons.1 hu with rfl | hu
      · rw [h1]; exact List.mem_append_left _ (Qjh kn u)
      · exact h2 u hu
    · simp only [Yg, List.map_cons]
      rw [← h3]
      congr 1
      rw [h1, List.idxOf_append, if_pos (Qjh kn s), Qms]
theorem Qkw {K : List (List UInt8)} {s u : List UInt8} (hs : s ∈ K) (hu : u ∈ K) (h : K.idxOf s = K.idxOf u) : s = u := by
  have h1 := List.getElem_idxOf (List.idxOf_lt_length_of_mem hs)
  have h2 := List.getElem_idxOf (List.idxOf_lt_length_of_mem hu)
  rw [← h1, ← h2]
  simp only [h]
theorem Jw (f : List ByteArray) (kn : List (List UInt8)) : (Yg kn f).1.length = f.length := by rw [(Ka f kn).2.2, List.length_map]
theorem Qcf (f : List ByteArray) (kn : List (List UInt8)) {i : Int} (h0 : 0 ≤ i) (h1 : i < f.length) : rd (Yg kn f).1 i = ((Yg kn f).2.idxOf (Ye ByteArray.empty f i).data.toList : Int) := by
  have hlt : i.toNat < f.length := by omega
  rw [(Ka f kn).2.2]
  simp [rd, Ye, List.getD_eq_getElem?_getD, hlt]
theorem Qqg {K : List ByteArray} {j : Nat} (h : j < K.length) : (K.map (·.data.toList))[j]'(by simpa using h) = K[j].data.toList := by simp
theorem Qoo {x0 : List (List ByteArray)} {x4 : List (List Int)} {x6 : List Int} {f K : List ByteArray} {s : ByteArray} {i j n : Nat} {r : List (List Int)} (hi : i < x0.length) (hf : Vw x0 (i : Int) = f) (hj : j < f.length) (hs : Ye ByteArray.empty f (j : Int) = s)
    (hK : K.length ≤ 1000000000) (h6 : x6.length ≤ 1000000000) (hjb : j ≤ 1000000000) (hn : n = (K.map (·.data.toList)).idxOf s.data.toList)
    (hgo : Ev (fun k => Qs.l1 k x0 (if n < K.length then K else K ++ [s]) x4 i (x6 ++ [(n : Int)]) ((j + 1 : Nat) : Int)) r) : Ev (fun k => Qs.l2 k x0 K x4 i x6 j (0 : Nat)) r := by
  have c1 : (0 : Int) ≤ (i : Int) := by omega
  have c2 : (i : Int) < (x0.length : Int) := by omega
  have c3 : (0 : Int) ≤ (j : Int) := by omega
  have c4 : (j : Int) < (f.length : Int) := by omega
  have c5 : x6.length < 17592186044416 := by omega
  have c6 : K.length < 8796093022208 := by omega
  have hle : n ≤ K.length := by rw [hn]; simpa using List.idxOf_le_length (l := K.map (·.data.toList)) (a := s.data.toList)
  refine Ev.down (P := fun m => Ev (fun k => Qs.l2 k x0 K x4 i x6 j (m : Int)) r) n ?_ ?_
  · refine Ev.step (fun k => ?_) hgo
    by_cases hlt : n < K.length
    · have e : K[n] = s := by
        refine Qim.1 ?_
        rw [← Qqg hlt]
        simp only [hn]
        exact List.getElem_idxOf _
      have e2 : Ye ByteArray.empty K (n : Int) = s := by simp [Ye, List.getD_eq_getElem?_getD, hlt, e]
      rw [if_pos hlt]
      simp only [Qs.l2]
      rw [if_pos (by omega), if_pos (by omega), if_pos c1, if_pos c2, if_pos c3, hf, if_pos c4, e2, hs, if_pos rfl, if_neg (by omega), if_pos c5, Qbd (by omega)]
    · obtain rfl : n = K.length := by omega
      rw [if_neg hlt]
      simp only [Qs.l2]
      rw [if_neg (by omega), if_pos trivial, if_pos c1, if_pos c2, if_pos c3, hf, if_pos c4, if_pos c6, if_pos c5, hs, Qbd (by omega)]
  · intro m hm h
    have hlt : m < K.length := by omega
    have hne : K[m] ≠ s := by
      intro e
      have h1 : m < (K.map (·.data.toList)).findIdx (· == s.data.toList) := by rw [hn] at hm; exact hm
      have h2 := List.not_of_lt_findIdx h1
      simp [e] at h2
    refine Ev.step (fun k => ?_) h
    have e2 : Ye ByteArray.empty K (m : Int) = K[m] := by simp [Ye, List.getD_eq_getElem?_getD, hlt]
    simp only [Qs.l2]
    rw [if_pos (by omega), if_pos (by omega), if_pos c1, if_pos c2, if_pos c3, hf, if_pos c4, e2, hs, if_neg (fun h => hne (Qhj.1 h)), Qbd (by omega)]
theorem Qoy {K : List ByteArray} {s : ByteArray} : ((if (K.map (·.data.toList)).idxOf s.data.toList < K.length then K else K ++ [s]).map (·.data.toList)) = grow (K.map (·.data.toList)) s := by
  unfold grow
  by_cases h : s.data.toList ∈ K.map (·.data.toList)
  · rw [if_pos h, if_pos (by have := List.idxOf_lt_length_of_mem h; simpa using this)]
  · rw [if_neg h, if_neg (by rw [List.idxOf_eq_length h]; simp)]; simp
theorem Qon {x0 : List (List ByteArray)} {x4 : List (List Int)} {f : List ByteArray} {i : Nat} {r : List (List Int)} (hi : i < x0.length) (hf : Vw x0 (i : Int) = f) (hfl : f.length ≤ 1000000) (h4 : x4.length ≤ 1000000) (hib : i ≤ 1000000) :
    ∀ (d j : Nat) (K : List ByteArray) (x6 : List Int), f.length - j ≤ d → j ≤ f.length → K.length + (f.length - j) ≤ 10000000 → x6.length = j →
      (∀ K' : List ByteArray, K'.map (·.data.toList) = (Yg (K.map (·.data.toList)) (f.drop j)).2 → Ev (fun k => Qs.l0 k x0 K' (x4 ++ [x6 ++ (Yg (K.map (·.data.toList)) (f.drop j)).1]) ((i + 1 : Nat) : Int)) r) →
      Ev (fun k => Qs.l1 k x0 K x4 i x6 j) r := by
  have fin : ∀ (K : List ByteArray) (x6 : List Int), (∀ K' : List ByteArray, K'.map (·.data.toList) = (Yg (K.map (·.data.toList)) (f.drop f.length)).2 → Ev (fun k => Qs.l0 k x0 K' (x4 ++ [x6 ++ (Yg (K.map (·.data.toList)) (f.drop f.length)).1]) ((i + 1 : Nat) : Int)) r) →
      Ev (fun k => Qs.l1 k x0 K x4 i x6 (f.length : Nat)) r := by
    intro K x6 h
    have h := h K (by rw [List.drop_length]; rfl)
    rw [List.drop_length] at h
    simp only [Yg, List.append_nil] at h
    refine Ev.step (fun k => ?_) h
    simp only [Qs.l1]
    rw [if_pos (by omega), if_pos (by omega), hf, if_neg (by omega), if_pos (by omega), Qbd (by omega)]
  intro d
  induction d with
  | zero => intro j K x6 h1 h2 h3 h5 h; obtain rfl : j = f.length := by omega
            exact fin K x6 h
  | succ d ih =>
    intro j K x6 h1 h2 h3 h5 h
    by_cases hj : j < f.length
    · have hs : Ye ByteArray.empty f (j : Int) = f[j] := by simp [Ye, List.getD_eq_getElem?_getD, hj]
      have hgl : (if (K.map (·.data.toList)).idxOf f[j].data.toList < K.length then K else K ++ [f[j]]).length ≤ K.length + 1 := by split <;> simp
      have hih := ih (j + 1) (if (K.map (·.data.toList)).idxOf f[j].data.toList < K.length then K else K ++ [f[j]]) (x6 ++ [(((K.map (·.data.toList)).idxOf f[j].data.toList : Nat) : Int)]) (by omega) (by omega) (by omega) (by simp [h5]) (by
        intro K' hK'
        rw [List.drop_eq_getElem_cons hj] at h
        rw [Qoy] at hK'
        have := h K' hK'
        rw [Qoy]
        simp only [Yg] at this
        rw [List.append_assoc]
        exact this)
      refine Ev.step (fun k => ?_) (Qoo (x4 := x4) (x6 := x6) (K := K) hi hf hj hs (by omega) (by omega) (by omega) rfl hih)
      simp only [Qs.l1]
      rw [if_pos (by omega), if_pos (by omega), hf, if_pos (by omega)]; rfl
    · obtain rfl : j = f.length := by omega
      exact fin K x6 h
theorem Qop (fs : List (List ByteArray)) (hl : fs.length ≤ 1000000) (ht : Kq fs ≤ 1000000) : Ev (fun k => Qs.f k fs) (Ja [] fs) := by
  have key : ∀ (d i : Nat) (K : List ByteArray) (x4 : List (List Int)), fs.length - i ≤ d → i ≤ fs.length → x4.length = i → K.length + Kq (fs.drop i) ≤ 1000000 → Ev (fun k => Qs.l0 k fs K x4 i) (x4 ++ Ja (K.map (·.data.toList)) (fs.drop i)) := by
    have fin : ∀ (K : List ByteArray) (x4 : List (List Int)), Ev (fun k => Qs.l0 k fs K x4 (fs.length : Nat)) (x4 ++ Ja (K.map (·.data.toList)) (fs.drop fs.length)) := by
      intro K x4
      refine Ev.step (f := fun _ => some (x4 ++ Ja (K.map (·.data.toList)) (fs.drop fs.length))) (fun k => ?_) (Ev.now _)
      simp only [Qs.l0]
      rw [if_neg (by omega), List.drop_length]; simp [Ja]
    intro d
    induction d with
    | zero => intro i K x4 h1 h2 h3 h4; obtain rfl : i = fs.length := by omega
              exact fin K x4
    | succ d ih =>
      intro i K x4 h1 h2 h3 h4
      by_cases hi : i < fs.length
      · have hf : Vw fs (i : Int) = fs[i] := by simp [Vw, List.getD_eq_getElem?_getD, hi]
        rw [List.drop_eq_getElem_cons hi] at h4
        simp only [Kq] at h4
        refine Ev.step (fun k => ?_) (Qon (x4 := x4) hi hf (by omega) (by omega) (by omega) fs[i].length 0 K [] (by omega) (by omega) (by omega) rfl ?_)
        · simp only [Qs.l0]
          rw [if_pos (by omega)]; rfl
        · intro K' hK'
          rw [List.drop_zero] at hK' ⊢
          have hkl := Qfi fs[i] (K.map (·.data.toList))
          rw [← hK', List.length_map, List.length_map] at hkl
          have := ih (i + 1) K' (x4 ++ [(Yg (K.map (·.data.toList)) fs[i]).1]) (by omega) (by omega) (by simp [h3]) (by omega)
          rw [List.drop_eq_getElem_cons hi]
          simp only [Ja]
          rw [hK', List.append_assoc] at this
          exact this
      · obtain rfl : i = fs.length := by omega
        exact fin K x4
  exact key fs.length 0 [] [] (by omega) (by omega) rfl (by simp; omega)
end Go.Proofs.Ytadafplbgophfaa.PA
end
section
namespace Go.Proofs.Ytadafplbgophfaa.PA
open Go.RowKit Go.Proofs.YtadafplbgophfaaW.PrintWords Go.Proofs.YtadafplbgophfaaW.PrintLast Go.Proofs.YtadafplbgophfaaW.PrintMore
namespace Chk
structure Pos (base left right o a b : Int) : Prop where
 o0 : 0 ≤ o
 o1 : o ≤ base
 a0 : 0 ≤ a
 a1 : a ≤ left
 b0 : 0 ≤ b
 b1 : b ≤ right
def At (f g : Int → Int) (base o a b : Int) : Prop := o < base ∧ f o = a ∧ g o = b
structure Qdi (f g : Int → Int) (base o a b n : Int) : Prop where
 n0 : 0 ≤ n
 all : ∀ i, 0 ≤ i → i < n → At f g base (o + i) (a + i) (b + i)
 stop : ¬ At f g base (o + n) (a + n) (b + n)
structure Qgd (f g : Int → Int) (base o a b t : Int) : Prop where
 t0 : o ≤ t
 t1 : t ≤ base
 all : ∀ i, o ≤ i → i < t → f i < a ∨ g i < b
 stop : t < base → a ≤ f t ∧ b ≤ g t
def Qci (base left right o a b : Int) : Prop := o < base ∨ a < left ∨ b < right
inductive Sw (f g : Int → Int) (base left right : Int) : Int → Int → Int → List S81 → Prop
 | done (o a b : Int) : Pos base left right o a b → ¬ Qci base left right o a b → Sw f g base left right o a b []
 | run (o a b n : Int) (cs : List S81) : Pos base left right o a b → Qci base left right o a b → Qdi f g base o a b n → 0 < n → Sw f g base left right (o + n) (a + n) (b + n) cs →
   Sw f g base left right o a b (⟨true, ⟨o, o + n⟩, ⟨a, a + n⟩, ⟨b, b + n⟩⟩ :: cs)
 | gap (o a b t : Int) (cs : List S81) : Pos base left right o a b → Qci base left right o a b → Qdi f g base o a b 0 → Qgd f g base o a b t → t < base → Sw f g base left right t (f t) (g t) cs →
   Sw f g base left right o a b (⟨false, ⟨o, t⟩, ⟨a, f t⟩, ⟨b, g t⟩⟩ :: cs)
 | last (o a b : Int) : Pos base left right o a b → Qci base left right o a b → Qdi f g base o a b 0 → Qgd f g base o a b base →
   Sw f g base left right o a b [⟨false, ⟨o, base⟩, ⟨a, left⟩, ⟨b, right⟩⟩]
theorem Qni (f g : Int → Int) (base : Int) : ∀ (d : Nat) (o a b : Int), base - o ≤ d → ∃ n, Qdi f g base o a b n
 | 0, o, a, b, h => ⟨0, Int.le_refl _, fun i h0 h1 => by omega, fun hA => by have := hA.1; omega⟩
 | d + 1, o, a, b, h => by
  by_cases hA : At f g base o a b
  ·obtain ⟨n, hn⟩ := Qni f g base d (o + 1) (a + 1) (b + 1) (by omega)
   refine ⟨n + 1, by have := hn.n0; omega, fun i h0 h1 => ?_, ?_⟩
   ·by_cases hi : i = 0
    ·subst hi
     rw [Int.add_zero, Int.add_zero, Int.add_zero]; exact hA
    ·have := hn.all (i - 1) (by omega) (by omega)
     rw [show o + 1 + (i - 1) = o + i by omega, show a + 1 + (i - 1) = a + i by omega, show b + 1 + (i - 1) = b + i by omega] at this
     exact this
   ·have := hn.stop
    rw [show o + 1 + n = o + (n + 1) by omega, show a + 1 + n = a + (n + 1) by omega, show b + 1 + n = b + (n + 1) by omega] at this
    exact this
  ·exact ⟨0, Int.le_refl _, fun i h0 h1 => by omega, by rw [Int.add_zero, Int.add_zero, Int.add_zero]; exact hA⟩
theorem Qmy (f g : Int → Int) (base a b : Int) : ∀ (d : Nat) (o : Int), base - o ≤ d → o ≤ base → ∃ t, Qgd f g base o a b t
 | 0, o, h, h2 => ⟨o, Int.le_refl _, h2, fun i h0 h1 => by omega, fun h => by omega⟩
 | d + 1, o, h, h2 => by
  by_cases hA : o < base ∧ (f o < a ∨ g o < b)
  ·obtain ⟨t, ht⟩ := Qmy f g base a b d (o + 1) (by omega) (by omega)
   refine ⟨t, by have := ht.t0; omega, ht.t1, fun i h0 h1 => ?_, ht.stop⟩
   by_cases hi : i = o
   ·subst hi; exact hA.2
   ·exact ht.all i (by omega) h1
  ·refine ⟨o, Int.le_refl _, h2, fun i h0 h1 => by omega, fun h => ?_⟩
   constructor
   ·by_cases h3 : a ≤ f o
    ·exact h3
    ·exact absurd ⟨h, .inl (by omega)⟩ hA
   ·by_cases h3 : b ≤ g o
    ·exact h3
    ·exact absurd ⟨h, .inr (by omega)⟩ hA
theorem Qdi.pos {f g : Int → Int} {base left right o a b n : Int} (h : Qdi f g base o a b n) (hp : Pos base left right o a b) (hf : ∀ i, f i < left) (hg : ∀ i, g i < right) : Pos base left right (o + n) (a + n) (b + n) := by
 obtain ⟨o0, o1, a0, a1, b0, b1⟩ := hp; have n0 := h.n0
 by_cases hn : n = 0
 ·subst hn
  exact ⟨by omega, by omega, by omega, by omega, by omega, by omega⟩
 ·obtain ⟨x, y, z⟩ := h.all (n - 1) (by omega) (by omega)
  have u := hf (o + (n - 1)); have v := hg (o + (n - 1)); exact ⟨by omega, by omega, by omega, by omega, by omega, by omega⟩
theorem Qnl (f g : Int → Int) (base left right : Int) (hf : ∀ i, f i < left) (hg : ∀ i, g i < right) : ∀ (d : Nat) (o a b : Int), (base - o) + (left - a) + (right - b) ≤ d → Pos base left right o a b → ∃ cs, Sw f g base left right o a b cs ∧ cs.length ≤ d
 | d, o, a, b, hd, hp => by
  obtain ⟨o0, o1, a0, a1, b0, b1⟩ := id hp
  by_cases hm : Qci base left right o a b
  ·have hd1 : 1 ≤ d := by rcases hm with h | h | h <;> omega
   obtain ⟨n, hn⟩ := Qni f g base (base - o).toNat o a b (by omega)
   by_cases h0 : n = 0
   ·subst h0
    obtain ⟨t, ht⟩ := Qmy f g base a b (base - o).toNat o (by omega) o1
    by_cases hb : t < base
    ·have hp2 : Pos base left right t (f t) (g t) := by
      obtain ⟨x, y⟩ := ht.stop hb; have u := hf t; have v := hg t; have w := ht.t0; exact ⟨by omega, by omega, by omega, by omega, by omega, by omega⟩
     obtain ⟨cs, h1, h2⟩ := Qnl f g base left right hf hg (d - 1) t (f t) (g t) (by
      obtain ⟨x, y⟩ := ht.stop hb; have u := hf t; have v := hg t; have w := ht.t0
      have z : ¬ (t = o ∧ f t = a ∧ g t = b) := fun ⟨e1, e2, e3⟩ => by
       subst e1; refine hn.stop ?_; rw [Int.add_zero, Int.add_zero, Int.add_zero]; exact ⟨hb, e2, e3⟩
      omega) hp2
     exact ⟨_, .gap o a b t cs hp hm hn ht hb h1, by rw [List.length_cons]; omega⟩
    ·have : t = base := by have := ht.t1; omega
     subst this; exact ⟨_, .last o a b hp hm hn ht, by simpa using hd1⟩
   ·have n0 := hn.n0
    obtain ⟨cs, h1, h2⟩ := Qnl f g base left right hf hg (d - 1) (o + n) (a + n) (b + n) (by omega) (hn.pos hp hf hg); exact ⟨_, .run o a b n cs hp hm hn (by omega) h1, by rw [List.length_cons]; omega⟩
  ·exact ⟨[], .done o a b hp hm, by simp⟩
termination_by d => d
decreasing_by all_goals omega
theorem Sw.pos {f g : Int → Int} {base left right o a b : Int} {cs : List S81} (h : Sw f g base left right o a b cs) : Pos base left right o a b := by
 cases h <;> assumption
end Chk
end Go.Proofs.Ytadafplbgophfaa.PA
end
section
namespace Go.Proofs.Ytadafplbgophfaa.PA
open Go.RowKit Go.Proofs.YtadafplbgophfaaW.PrintWords Go.Proofs.YtadafplbgophfaaW.PrintLast Go.Proofs.YtadafplbgophfaaW.PrintMore
attribute [local go_sem] Xx Xz Yk Yl Xj Xk Xy Ya
def Zw (w0 W : World) (g : Nat) (f0 : List Int) (f1 : List Int) (f2 : Int) (f3 : Int) (f4 : Int) : Prop := ∃ A0 c0, ∃ A1 c1, W.heap[g]? = some (.cells #[.slice A0 f0.length c0, .slice A1 f1.length c1, .int .i64 f2, .int .i64 f3, .int .i64 f4] 150 (0, 0)) ∧ w0.heap.size ≤ g ∧ Kd.C (Kd.int .i64) w0 A0 f0.length f0 ∧ Kd.C (Kd.int .i64) w0 A1 f1.length f1
theorem Zw.grown {w0 W : World} {g : Nat} {f0 : List Int} {f1 : List Int} {f2 : Int} {f3 : Int} {f4 : Int} {W1 : World} {row : Option Nat} (h : Zw w0 W g f0 f1 f2 f3 f4) (hw : W.grownBy W1 row) (hne : some g ≠ row) : Zw w0 W1 g f0 f1 f2 f3 f4 := by
 obtain ⟨A0, c0, A1, c1, hb, hg, hr0, hr1⟩ := h; exact ⟨A0, c0, A1, c1, Ym hb hw hne, hg, hr0, hr1⟩
theorem Zw.fresh {w0 W : World} {g : Nat} {f0 : List Int} {f1 : List Int} {f2 : Int} {f3 : Int} {f4 : Int} (h : Zw w0 W g f0 f1 f2 f3 f4) : ∀ k, W.heap.size ≤ k → k ≠ g := by
 obtain ⟨A0, c0, A1, c1, hb, hg, hr0, hr1⟩ := h; exact Kd.freshB hb
theorem Zw.kept {w0 W : World} {g : Nat} {f0 : List Int} {f1 : List Int} {f2 : Int} {f3 : Int} {f4 : Int} {W1 : World} {S : Nat → Prop} (h : Zw w0 W g f0 f1 f2 f3 f4) (hk : Vl W W1 S) (hne : ¬ S g) : Zw w0 W1 g f0 f1 f2 f3 f4 := by
 obtain ⟨A0, c0, A1, c1, hb, hg, hr0, hr1⟩ := h; exact ⟨A0, c0, A1, c1, Qme hb hk hne, hg, hr0, hr1⟩
theorem Zw.below {w0 W : World} {g : Nat} {f0 : List Int} {f1 : List Int} {f2 : Int} {f3 : Int} {f4 : Int} {W1 : World} (h : Zw w0 W g f0 f1 f2 f3 f4) (hw : Below W.heap.size W W1) : Zw w0 W1 g f0 f1 f2 f3 f4 := h.grown (Qay hw none) (by simp)
theorem Zw.alloc {w0 W : World} {g : Nat} {f0 : List Int} {f1 : List Int} {f2 : Int} {f3 : Int} {f4 : Int} (h : Zw w0 W g f0 f1 f2 f3 f4) (o : Obj) : Zw w0 (W.alloc o) g f0 f1 f2 f3 f4 := h.below (Qh (Below.refl _ _) o)
theorem Zw.drewN {w0 W : World} {g : Nat} {f0 : List Int} {f1 : List Int} {f2 : Int} {f3 : Int} {f4 : Int} (h : Zw w0 W g f0 f1 f2 f3 f4) (m : Nat) : Zw w0 (W.drewN m) g f0 f1 f2 f3 f4 := h
theorem Zw.drew {w0 W : World} {g : Nat} {f0 : List Int} {f1 : List Int} {f2 : Int} {f3 : Int} {f4 : Int} (h : Zw w0 W g f0 f1 f2 f3 f4) : Zw w0 W.drew g f0 f1 f2 f3 f4 := h
theorem Zw.at_ {w0 W : World} {g : Nat} {f0 : List Int} {f1 : List Int} {f2 : Int} {f3 : Int} {f4 : Int} {w' : World} {m : Nat} (hq : W.drewN m = w') (h : Zw w0 W g f0 f1 f2 f3 f4) : Zw w0 w' g f0 f1 f2 f3 f4 := by subst hq; exact Zw.drewN h m
theorem Zw.apart {w0 W : World} {g : Nat} {f0 : List Int} {f1 : List Int} {f2 : Int} {f3 : Int} {f4 : Int} {α : Type} {d : Kd α} {e : Nat} {base : Nat} {ok : Nat → Prop} {v : Value} {xs : List α} (h : Zw w0 W g f0 f1 f2 f3 f4) (ho : d.R e W base ok v xs) (ht : ∀ q, q ∈ e :: d.E → q ≠ 150) : d.R e W base (fun k => ok k ∧ k ≠ g) v xs := by
 obtain ⟨A0, c0, A1, c1, hb, hg, hr0, hr1⟩ := h; exact Kd.R_types ho hb ht
theorem Zw.own_ne {w0 W : World} {g : Nat} {f0 : List Int} {f1 : List Int} {f2 : Int} {f3 : Int} {f4 : Int} {α : Type} {d : Kd α} {e : Nat} {base : Nat} {ok : Nat → Prop} {v : Value} {xs : List α} (h : Zw w0 W g f0 f1 f2 f3 f4) (ho : d.R e W base ok v xs) (ht : e ≠ 150) : some g ≠ v.ownBlock := by
 obtain ⟨A0, c0, A1, c1, hb, hg, hr0, hr1⟩ := h; exact Kd.R_ne ho hb ht
theorem Zw.lt {w0 W : World} {g : Nat} {f0 : List Int} {f1 : List Int} {f2 : Int} {f3 : Int} {f4 : Int} (h : Zw w0 W g f0 f1 f2 f3 f4) : g < W.heap.size := by
 obtain ⟨A0, c0, A1, c1, hb, hg, hr0, hr1⟩ := h; exact Zu hb
theorem Zw.ge {w0 W : World} {g : Nat} {f0 : List Int} {f1 : List Int} {f2 : Int} {f3 : Int} {f4 : Int} (h : Zw w0 W g f0 f1 f2 f3 f4) : w0.heap.size ≤ g := by
 obtain ⟨A0, c0, A1, c1, hb, hg, hr0, hr1⟩ := h; exact hg
theorem Zw.far {w0 W : World} {g : Nat} {f0 : List Int} {f1 : List Int} {f2 : Int} {f3 : Int} {f4 : Int} {p : Addr} (h : Zw w0 W g f0 f1 f2 f3 f4) (hne : g ≠ p.block) (u : Value) : Zw w0 (W.setCell p u) g f0 f1 f2 f3 f4 := by
 obtain ⟨A0, c0, A1, c1, hb, hg, hr0, hr1⟩ := h; exact ⟨A0, c0, A1, c1, Yt hb hne u, hg, hr0, hr1⟩
def Qz.l0 : Nat → Int → Int → List (S37) → Int → Option (Bool)
 | 0, _, _, _, _ => none
 | k + 1, x0, x1, x2, x7 => if x7 < (x2.length : Int) then (if 0 ≤ x7 then (if ((Zm x2 x7).f0) < 0 then (some false) else (if ((Zm x2 x7).f0) ≥ x0 then (some false) else (if ((Zm x2 x7).f1) < 0 then (some false) else (if ((Zm x2 x7).f1) ≥ x1 then (some false) else (if x7 > 0 then (if 0 ≤ (wrap64 (x7 - 1)) then (if (wrap64 (x7 - 1)) < (x2.length : Int) then (if ((Zm x2 (wrap64 (x7 - 1))).f0) ≥ ((Zm x2 x7).f0) then (some false) else (if ((Zm x2 (wrap64 (x7 - 1))).f1) ≥ ((Zm x2 x7).f1) then (some false) else (Qz.l0 k x0 x1 x2 (wrap64 (x7 + 1))))) else (none)) else (none)) else (Qz.l0 k x0 x1 x2 (wrap64 (x7 + 1)))))))) else (none)) else (some true)
def Qz.f (k : Nat) (a0 : Int) (a1 : Int) (l2 : List (S37)) : Option (Bool) := Qz.l0 k a0 a1 l2 0
set_option maxHeartbeats 8000000 in
set_option maxRecDepth 100000 in
theorem Qz.calls (k : Nat) (a0 : Int) (a1 : Int) (A2 : Option Addr) (c2 : Nat) (l2 : List (S37)) (r : Bool) (w : World) (hr2 : Kd.C k37 w A2 l2.length l2) (hc2 : l2.length ≤ c2) (h : Qz.f k a0 a1 l2 = some r) :
  Calls Try.prog 94 #[.int .i64 a0, .int .i64 a1, .slice A2 l2.length c2] w fun e w' => e = .returned (.bool r) ∧ Below w.heap.size w w' := by
 have hu37 := Try.underlying37; have HR2 := Qa.mk hr2; have HC2 := Qa.mk hc2; clear hr2 hc2; have HB := Qa.mk (Below.refl w.heap.size w); have H : (Qz.l0 k a0 a1 l2 0) = some r := h; clear h; have H' := Qa.mk H; clear H
 go_enter Try.func94, Try.ntmps94
 go_wp2
 repeat (go_quiet (fail); try go_wp2)
 go_loopg [7] k (fun kq v7 w' => ∃ (a2 : Int), v7 = .int .i64 a2 ∧ Qa (Qz.l0 kq a0 a1 l2 a2 = some r) ∧ Qa (kq ≤ k) ∧ Qa (Below w.heap.size w w'))
 case atStart => exact ⟨(0), sm_, H', ⟨Nat.le_refl _⟩, ⟨bw_⟩⟩
 case round =>
  clear H'
  try clear c2
  try clear p2
  obtain ⟨a2, rfl, HA, HK1, HB⟩ := hrel
  cases gk with
  | zero => exact absurd HA.out (by simp [Qz.l0])
  | succ k1 =>
   have H := HA.out; clear HA
   simp only [Qz.l0] at H
   by_cases c4 : a2 < (l2.length : Int)
   ·rw [if_pos c4] at H
    have f3 : decide (a2 < (l2.length : Int)) = true := decide_eq_true c4; clear c4
    by_cases c5 : 0 ≤ a2
    ·rw [if_pos c5] at H
     have j7 : decide (0 ≤ a2) = true := decide_eq_true c5; clear c5
     by_cases c6 : ((Zm l2 a2).f0) < 0
     ·rw [if_pos c6] at H
      have f4 : decide (((Zm l2 a2).f0) < 0) = true := decide_eq_true c6; clear c6; obtain rfl := Option.some.inj H; have b1 : 0 ≤ (a2 : Int) := of_decide_eq_true Zx; have b2 : a2 < (l2.length : Int) := of_decide_eq_true Zx; obtain ⟨b5, d0, a5, a6⟩ := Un HR2.out a2 b1 b2
      cases d0; replace a5 := Qg HB.out a5; replace a6 := Qg HB.out a6; replace b1 := eq_true b1; replace b2 := eq_true b2; go_wp2_with (first | ((with_reducible refine Zd (N := 8) rfl ?_); refine Zc ?hg (N := 8) ?hd (cs := #[.int .i64 0, .int .i64 0]) (t := 37) ?hr ?_; (case hd => rfl); (case hg => rfl); (case hr => first | (go_simp; done) | (go_simp; rfl)); intro a3 hg w7 hbox hb; have n0_ := Qa.mk (Qj bw_ hb); have n1_ := Qa.mk (hbox); have n2_ := Qa.mk ((gw_ hg : w.heap.size ≤ a3)); have n3_ := Qa.mk ((gw_ hg : w.heap.size ≤ a3)); clear HB; have HB := n0_; have b4 := n1_; have b9 := n2_; have GE102 := n3_; clear n0_ n1_ n2_ n3_; clear hb hbox hg; obtain ⟨i5, i6⟩ := Qfn b4.out; obtain ⟨i7, i8⟩ := Qdh b4.out))
      repeat (go_quiet (fail); try go_wp2_with fail)
      go_ret; exact ⟨by first | rfl | (simp [Qt, Qu] <;> rfl) | (simp [*, Qt, Qu] <;> rfl), bw_⟩
     ·rw [if_neg c6] at H
      have f4 : decide (((Zm l2 a2).f0) < 0) = false := decide_eq_false c6; clear c6
      by_cases c9 : ((Zm l2 a2).f0) ≥ a0
      ·rw [if_pos c9] at H
       have f5 : decide (a0 ≤ ((Zm l2 a2).f0)) = true := decide_eq_true c9; clear c9; obtain rfl := Option.some.inj H; have b1 : 0 ≤ (a2 : Int) := of_decide_eq_true Zx; have b2 : a2 < (l2.length : Int) := of_decide_eq_true Zx; obtain ⟨b5, d0, a5, a6⟩ := Un HR2.out a2 b1 b2
       cases d0; replace a5 := Qg HB.out a5; replace a6 := Qg HB.out a6; replace b1 := eq_true b1; replace b2 := eq_true b2; go_wp2_with (first | ((with_reducible refine Zd (N := 8) rfl ?_); refine Zc ?hg (N := 8) ?hd (cs := #[.int .i64 0, .int .i64 0]) (t := 37) ?hr ?_; (case hd => rfl); (case hg => rfl); (case hr => first | (go_simp; done) | (go_simp; rfl)); intro a3 hg w10 hbox hb; have n0_ := Qa.mk (Qj bw_ hb); have n1_ := Qa.mk (hbox); have n2_ := Qa.mk ((gw_ hg : w.heap.size ≤ a3)); have n3_ := Qa.mk ((gw_ hg : w.heap.size ≤ a3)); clear HB; have HB := n0_; have b4 := n1_; have b9 := n2_; have GE102 := n3_; clear n0_ n1_ n2_ n3_; clear hb hbox hg; obtain ⟨f6, f7⟩ := Qfn b4.out; obtain ⟨f8, f9⟩ := Qdh b4.out))
       repeat (go_quiet (fail); try go_wp2_with fail)
       go_ret; exact ⟨by first | rfl | (simp [Qt, Qu] <;> rfl) | (simp [*, Qt, Qu] <;> rfl), bw_⟩
      ·rw [if_neg c9] at H
       have f5 : decide (a0 ≤ ((Zm l2 a2).f0)) = false := decide_eq_false c9; clear c9
       by_cases c12 : ((Zm l2 a2).f1) < 0
       ·rw [if_pos c12] at H
        have e6 : decide (((Zm l2 a2).f1) < 0) = true := decide_eq_true c12; clear c12; obtain rfl := Option.some.inj H; have b1 : 0 ≤ (a2 : Int) := of_decide_eq_true Zx; have b2 : a2 < (l2.length : Int) := of_decide_eq_true Zx; obtain ⟨b5, d0, a5, a6⟩ := Un HR2.out a2 b1 b2
        cases d0; replace a5 := Qg HB.out a5; replace a6 := Qg HB.out a6; replace b1 := eq_true b1; replace b2 := eq_true b2; go_wp2_with (first | ((with_reducible refine Zd (N := 8) rfl ?_); refine Zc ?hg (N := 8) ?hd (cs := #[.int .i64 0, .int .i64 0]) (t := 37) ?hr ?_; (case hd => rfl); (case hg => rfl); (case hr => first | (go_simp; done) | (go_simp; rfl)); intro a3 hg w13 hbox hb; have n0_ := Qa.mk (Qj bw_ hb); have n1_ := Qa.mk (hbox); have n2_ := Qa.mk ((gw_ hg : w.heap.size ≤ a3)); have n3_ := Qa.mk ((gw_ hg : w.heap.size ≤ a3)); clear HB; have HB := n0_; have b4 := n1_; have b9 := n2_; have GE102 := n3_; clear n0_ n1_ n2_ n3_; clear hb hbox hg; obtain ⟨g0, g1⟩ := Qfn b4.out; obtain ⟨g2, g3⟩ := Qdh b4.out))
        repeat (go_quiet (fail); try go_wp2_with fail)
        go_ret; exact ⟨by first | rfl | (simp [Qt, Qu] <;> rfl) | (simp [*, Qt, Qu] <;> rfl), bw_⟩
       ·rw [if_neg c12] at H
        have e6 : decide (((Zm l2 a2).f1) < 0) = false := decide_eq_false c12; clear c12
        by_cases c15 : ((Zm l2 a2).f1) ≥ a1
        ·rw [if_pos c15] at H
         have e7 : decide (a1 ≤ ((Zm l2 a2).f1)) = true := decide_eq_true c15; clear c15; obtain rfl := Option.some.inj H; have b1 : 0 ≤ (a2 : Int) := of_decide_eq_true Zx; have b2 : a2 < (l2.length : Int) := of_decide_eq_true Zx; obtain ⟨b5, d0, a5, a6⟩ := Un HR2.out a2 b1 b2
         cases d0; replace a5 := Qg HB.out a5; replace a6 := Qg HB.out a6; replace b1 := eq_true b1; replace b2 := eq_true b2; go_wp2_with (first | ((with_reducible refine Zd (N := 8) rfl ?_); refine Zc ?hg (N := 8) ?hd (cs := #[.int .i64 0, .int .i64 0]) (t := 37) ?hr ?_; (case hd => rfl); (case hg => rfl); (case hr => first | (go_simp; done) | (go_simp; rfl)); intro a3 hg w16 hbox hb; have n0_ := Qa.mk (Qj bw_ hb); have n1_ := Qa.mk (hbox); have n2_ := Qa.mk ((gw_ hg : w.heap.size ≤ a3)); have n3_ := Qa.mk ((gw_ hg : w.heap.size ≤ a3)); clear HB; have HB := n0_; have b4 := n1_; have b9 := n2_; have GE102 := n3_; clear n0_ n1_ n2_ n3_; clear hb hbox hg; obtain ⟨g4, g5⟩ := Qfn b4.out; obtain ⟨g6, g7⟩ := Qdh b4.out))
         repeat (go_quiet (fail); try go_wp2_with fail)
         go_ret; exact ⟨by first | rfl | (simp [Qt, Qu] <;> rfl) | (simp [*, Qt, Qu] <;> rfl), bw_⟩
        ·rw [if_neg c15] at H
         have e7 : decide (a1 ≤ ((Zm l2 a2).f1)) = false := decide_eq_false c15; clear c15
         by_cases c18 : a2 > 0
         ·rw [if_pos c18] at H
          have e8 : decide (0 < a2) = true := decide_eq_true c18; clear c18; obtain ⟨b3, d7⟩ : ∃ j_ : Int, (wrap64 (a2 - 1)) = j_ := ⟨_, rfl⟩
          replace H : (if 0 ≤ (b3) then (if (b3) < (l2.length : Int) then (if ((Zm l2 (b3)).f0) ≥ ((Zm l2 a2).f0) then (some false) else (if ((Zm l2 (b3)).f1) ≥ ((Zm l2 a2).f1) then (some false) else (Qz.l0 k1 a0 a1 l2 (wrap64 (a2 + 1))))) else (none)) else (none)) = some r := by first | (rw [d7] at H; exact H) | (simp only [d7] at H ⊢; exact H)
          have i9 : (IntKind.i64.wrap (a2 - 1)) = b3 := (Yx _).trans d7
          by_cases c20 : 0 ≤ (b3)
          ·rw [if_pos c20] at H
           have j3 : decide (0 ≤ (b3)) = true := decide_eq_true c20; clear c20
           by_cases c21 : (b3) < (l2.length : Int)
           ·rw [if_pos c21] at H
            have j5 : decide ((b3) < (l2.length : Int)) = true := decide_eq_true c21; clear c21
            by_cases c22 : ((Zm l2 (b3)).f0) ≥ ((Zm l2 a2).f0)
            ·rw [if_pos c22] at H
             have e9 : decide (((Zm l2 a2).f0) ≤ ((Zm l2 (b3)).f0)) = true := decide_eq_true c22; clear c22; obtain rfl := Option.some.inj H; have b1 : 0 ≤ (a2 : Int) := of_decide_eq_true Zx; have b2 : a2 < (l2.length : Int) := of_decide_eq_true Zx; obtain ⟨b5, d0, a5, a6⟩ := Un HR2.out a2 b1 b2
             cases d0; replace a5 := Qg HB.out a5; replace a6 := Qg HB.out a6; replace b1 := eq_true b1; replace b2 := eq_true b2; go_wp2_with (first | ((with_reducible refine Zd (N := 8) rfl ?_); refine Zc ?hg (N := 8) ?hd (cs := #[.int .i64 0, .int .i64 0]) (t := 37) ?hr ?_; (case hd => rfl); (case hg => rfl); (case hr => first | (go_simp; done) | (go_simp; rfl)); intro a3 hg w23 hbox hb; have n0_ := Qa.mk (Qj bw_ hb); have n1_ := Qa.mk (hbox); have n2_ := Qa.mk ((gw_ hg : w.heap.size ≤ a3)); have n3_ := Qa.mk ((gw_ hg : w.heap.size ≤ a3)); clear HB; have HB := n0_; have b4 := n1_; have b9 := n2_; have GE102 := n3_; clear n0_ n1_ n2_ n3_; clear hb hbox hg; obtain ⟨g8, g9⟩ := Qfn b4.out; obtain ⟨h0, h2⟩ := Qdh b4.out; have d3 : 0 ≤ ((b3) : Int) := of_decide_eq_true Zx; have d4 : (b3) < (l2.length : Int) := of_decide_eq_true Zx; obtain ⟨d8, d9, a4, a7⟩ := Un HR2.out (b3) d3 d4; obtain rfl : b5 = d8 := (by injection d9); have a8 : b5.block ≠ a3 := Nat.ne_of_lt (Nat.lt_of_lt_of_le (by have := World.block_lt_of_cell? _ _ a4; first | rwa [Zf] at this | exact this) b9.out); have a9 : b5.block ≠ a3 := Nat.ne_of_lt (Nat.lt_of_lt_of_le (by have := World.block_lt_of_cell? _ _ a4; first | rwa [Zf] at this | exact this) b9.out); replace a4 := Qg HB.out a4; replace a7 := Qg HB.out a7; replace a4 := (Ze (p := ⟨a3, 0, none⟩) (by first | (rw [Zf]; exact a8) | (show (Addr.add _ _).block ≠ _; rw [Zf]; exact a8) | exact a8) (.int .i64 ((Zm l2 a2).f0))).trans a4; replace a7 := (Ze (p := ⟨a3, 0, none⟩) (by first | (rw [Zf]; exact a8) | (show (Addr.add _ _).block ≠ _; rw [Zf]; exact a8) | exact a8) (.int .i64 ((Zm l2 a2).f0))).trans a7; replace a4 := (Ze (p := ⟨a3, 1, none⟩) (by first | (rw [Zf]; exact a9) | (show (Addr.add _ _).block ≠ _; rw [Zf]; exact a9) | exact a9) (.int .i64 ((Zm l2 a2).f1))).trans a4; replace a7 := (Ze (p := ⟨a3, 1, none⟩) (by first | (rw [Zf]; exact a9) | (show (Addr.add _ _).block ≠ _; rw [Zf]; exact a9) | exact a9) (.int .i64 ((Zm l2 a2).f1))).trans a7; (try have e0 := fun (n_ : Nat) => (show ((((w23.drewN n_).setCell ⟨a3, 0, none⟩ (.int .i64 ((Zm l2 a2).f0))).setCell ⟨a3, 1, none⟩ (.int .i64 ((Zm l2 a2).f1)))).cell? _ = some _ from a4)); (try have e1 := fun (n_ : Nat) => (show ((((w23.drewN n_).setCell ⟨a3, 0, none⟩ (.int .i64 ((Zm l2 a2).f0))).setCell ⟨a3, 1, none⟩ (.int .i64 ((Zm l2 a2).f1)))).cell? _ = some _ from a7)); clear a8; clear a9; replace d3 := eq_true d3; replace d4 := eq_true d4))
             repeat (go_quiet (fail); try go_wp2_with fail)
             go_ret; exact ⟨by first | rfl | (simp [Qt, Qu] <;> rfl) | (simp only [← d7]; first | rfl | (simp [Qt, Qu] <;> rfl)) | (simp [*, Qt, Qu] <;> rfl), bw_⟩
            ·rw [if_neg c22] at H
             have e9 : decide (((Zm l2 a2).f0) ≤ ((Zm l2 (b3)).f0)) = false := decide_eq_false c22; clear c22
             by_cases c25 : ((Zm l2 (b3)).f1) ≥ ((Zm l2 a2).f1)
             ·rw [if_pos c25] at H
              have f2 : decide (((Zm l2 a2).f1) ≤ ((Zm l2 (b3)).f1)) = true := decide_eq_true c25; clear c25; obtain rfl := Option.some.inj H; have b1 : 0 ≤ (a2 : Int) := of_decide_eq_true Zx; have b2 : a2 < (l2.length : Int) := of_decide_eq_true Zx; obtain ⟨b5, d0, a5, a6⟩ := Un HR2.out a2 b1 b2
              cases d0; replace a5 := Qg HB.out a5; replace a6 := Qg HB.out a6; replace b1 := eq_true b1; replace b2 := eq_true b2; go_wp2_with (first | ((with_reducible refine Zd (N := 8) rfl ?_); refine Zc ?hg (N := 8) ?hd (cs := #[.int .i64 0, .int .i64 0]) (t := 37) ?hr ?_; (case hd => rfl); (case hg => rfl); (case hr => first | (go_simp; done) | (go_simp; rfl)); intro a3 hg w26 hbox hb; have n0_ := Qa.mk (Qj bw_ hb); have n1_ := Qa.mk (hbox); have n2_ := Qa.mk ((gw_ hg : w.heap.size ≤ a3)); have n3_ := Qa.mk ((gw_ hg : w.heap.size ≤ a3)); clear HB; have HB := n0_; have b4 := n1_; have b9 := n2_; have GE102 := n3_; clear n0_ n1_ n2_ n3_; clear hb hbox hg; obtain ⟨h3, h4⟩ := Qfn b4.out; obtain ⟨h5, h6⟩ := Qdh b4.out; have d3 : 0 ≤ ((b3) : Int) := of_decide_eq_true Zx; have d4 : (b3) < (l2.length : Int) := of_decide_eq_true Zx; obtain ⟨d8, d9, a4, a7⟩ := Un HR2.out (b3) d3 d4; obtain rfl : b5 = d8 := (by injection d9); have a8 : b5.block ≠ a3 := Nat.ne_of_lt (Nat.lt_of_lt_of_le (by have := World.block_lt_of_cell? _ _ a4; first | rwa [Zf] at this | exact this) b9.out); have a9 : b5.block ≠ a3 := Nat.ne_of_lt (Nat.lt_of_lt_of_le (by have := World.block_lt_of_cell? _ _ a4; first | rwa [Zf] at this | exact this) b9.out); replace a4 := Qg HB.out a4; replace a7 := Qg HB.out a7; replace a4 := (Ze (p := ⟨a3, 0, none⟩) (by first | (rw [Zf]; exact a8) | (show (Addr.add _ _).block ≠ _; rw [Zf]; exact a8) | exact a8) (.int .i64 ((Zm l2 a2).f0))).trans a4; replace a7 := (Ze (p := ⟨a3, 0, none⟩) (by first | (rw [Zf]; exact a8) | (show (Addr.add _ _).block ≠ _; rw [Zf]; exact a8) | exact a8) (.int .i64 ((Zm l2 a2).f0))).trans a7; replace a4 := (Ze (p := ⟨a3, 1, none⟩) (by first | (rw [Zf]; exact a9) | (show (Addr.add _ _).block ≠ _; rw [Zf]; exact a9) | exact a9) (.int .i64 ((Zm l2 a2).f1))).trans a4; replace a7 := (Ze (p := ⟨a3, 1, none⟩) (by first | (rw [Zf]; exact a9) | (show (Addr.add _ _).block ≠ _; rw [Zf]; exact a9) | exact a9) (.int .i64 ((Zm l2 a2).f1))).trans a7; (try have e0 := fun (n_ : Nat) => (show ((((w26.drewN n_).setCell ⟨a3, 0, none⟩ (.int .i64 ((Zm l2 a2).f0))).setCell ⟨a3, 1, none⟩ (.int .i64 ((Zm l2 a2).f1)))).cell? _ = some _ from a4)); (try have e1 := fun (n_ : Nat) => (show ((((w26.drewN n_).setCell ⟨a3, 0, none⟩ (.int .i64 ((Zm l2 a2).f0))).setCell ⟨a3, 1, none⟩ (.int .i64 ((Zm l2 a2).f1)))).cell? _ = some _ from a7)); clear a8; clear a9; replace d3 := eq_true d3; replace d4 := eq_true d4; have d5 : 0 ≤ ((b3) : Int) := of_decide_eq_true Zx; have d6 : (b3) < (l2.length : Int) := of_decide_eq_true Zx; obtain ⟨e2, e3, b0, b6⟩ := Un HR2.out (b3) d5 d6; obtain rfl : b5 = e2 := (by injection e3); have b7 : b5.block ≠ a3 := Nat.ne_of_lt (Nat.lt_of_lt_of_le (by have := World.block_lt_of_cell? _ _ b0; first | rwa [Zf] at this | exact this) b9.out); have b8 : b5.block ≠ a3 := Nat.ne_of_lt (Nat.lt_of_lt_of_le (by have := World.block_lt_of_cell? _ _ b0; first | rwa [Zf] at this | exact this) b9.out); replace b0 := Qg HB.out b0; replace b6 := Qg HB.out b6; replace b0 := (Ze (p := ⟨a3, 0, none⟩) (by first | (rw [Zf]; exact b7) | (show (Addr.add _ _).block ≠ _; rw [Zf]; exact b7) | exact b7) (.int .i64 ((Zm l2 a2).f0))).trans b0; replace b6 := (Ze (p := ⟨a3, 0, none⟩) (by first | (rw [Zf]; exact b7) | (show (Addr.add _ _).block ≠ _; rw [Zf]; exact b7) | exact b7) (.int .i64 ((Zm l2 a2).f0))).trans b6; replace b0 := (Ze (p := ⟨a3, 1, none⟩) (by first | (rw [Zf]; exact b8) | (show (Addr.add _ _).block ≠ _; rw [Zf]; exact b8) | exact b8) (.int .i64 ((Zm l2 a2).f1))).trans b0; replace b6 := (Ze (p := ⟨a3, 1, none⟩) (by first | (rw [Zf]; exact b8) | (show (Addr.add _ _).block ≠ _; rw [Zf]; exact b8) | exact b8) (.int .i64 ((Zm l2 a2).f1))).trans b6; (try have e4 := fun (n_ : Nat) => (show ((((w26.drewN n_).setCell ⟨a3, 0, none⟩ (.int .i64 ((Zm l2 a2).f0))).setCell ⟨a3, 1, none⟩ (.int .i64 ((Zm l2 a2).f1)))).cell? _ = some _ from b0)); (try have e5 := fun (n_ : Nat) => (show ((((w26.drewN n_).setCell ⟨a3, 0, none⟩ (.int .i64 ((Zm l2 a2).f0))).setCell ⟨a3, 1, none⟩ (.int .i64 ((Zm l2 a2).f1)))).cell? _ = some _ from b6)); clear b7; clear b8; replace d5 := eq_true d5; replace d6 := eq_true d6))
              repeat (go_quiet (fail); try go_wp2_with fail)
              go_ret; exact ⟨by first | rfl | (simp [Qt, Qu] <;> rfl) | (simp only [← d7]; first | rfl | (simp [Qt, Qu] <;> rfl)) | (simp [*, Qt, Qu] <;> rfl), bw_⟩
             ·rw [if_neg c25] at H
              have f2 : decide (((Zm l2 a2).f1) ≤ ((Zm l2 (b3)).f1)) = false := decide_eq_false c25; clear c25; have H' := Qa.mk H; clear H; have b1 : 0 ≤ (a2 : Int) := of_decide_eq_true Zx; have b2 : a2 < (l2.length : Int) := of_decide_eq_true Zx; obtain ⟨b5, d0, a5, a6⟩ := Un HR2.out a2 b1 b2
              cases d0; replace a5 := Qg HB.out a5; replace a6 := Qg HB.out a6; replace b1 := eq_true b1; replace b2 := eq_true b2; go_wp2_with (first | ((with_reducible refine Zd (N := 8) rfl ?_); refine Zc ?hg (N := 8) ?hd (cs := #[.int .i64 0, .int .i64 0]) (t := 37) ?hr ?_; (case hd => rfl); (case hg => rfl); (case hr => first | (go_simp; done) | (go_simp; rfl)); intro a3 hg w28 hbox hb; have n0_ := Qa.mk (Qj bw_ hb); have n1_ := Qa.mk (hbox); have n2_ := Qa.mk ((gw_ hg : w.heap.size ≤ a3)); have n3_ := Qa.mk ((gw_ hg : w.heap.size ≤ a3)); clear HB; have HB := n0_; have b4 := n1_; have b9 := n2_; have GE102 := n3_; clear n0_ n1_ n2_ n3_; clear hb hbox hg; obtain ⟨h7, h8⟩ := Qfn b4.out; obtain ⟨h9, i0⟩ := Qdh b4.out; have d3 : 0 ≤ ((b3) : Int) := of_decide_eq_true Zx; have d4 : (b3) < (l2.length : Int) := of_decide_eq_true Zx; obtain ⟨d8, d9, a4, a7⟩ := Un HR2.out (b3) d3 d4; obtain rfl : b5 = d8 := (by injection d9); have a8 : b5.block ≠ a3 := Nat.ne_of_lt (Nat.lt_of_lt_of_le (by have := World.block_lt_of_cell? _ _ a4; first | rwa [Zf] at this | exact this) b9.out); have a9 : b5.block ≠ a3 := Nat.ne_of_lt (Nat.lt_of_lt_of_le (by have := World.block_lt_of_cell? _ _ a4; first | rwa [Zf] at this | exact this) b9.out); replace a4 := Qg HB.out a4; replace a7 := Qg HB.out a7; replace a4 := (Ze (p := ⟨a3, 0, none⟩) (by first | (rw [Zf]; exact a8) | (show (Addr.add _ _).block ≠ _; rw [Zf]; exact a8) | exact a8) (.int .i64 ((Zm l2 a2).f0))).trans a4; replace a7 := (Ze (p := ⟨a3, 0, none⟩) (by first | (rw [Zf]; exact a8) | (show (Addr.add _ _).block ≠ _; rw [Zf]; exact a8) | exact a8) (.int .i64 ((Zm l2 a2).f0))).trans a7; replace a4 := (Ze (p := ⟨a3, 1, none⟩) (by first | (rw [Zf]; exact a9) | (show (Addr.add _ _).block ≠ _; rw [Zf]; exact a9) | exact a9) (.int .i64 ((Zm l2 a2).f1))).trans a4; replace a7 := (Ze (p := ⟨a3, 1, none⟩) (by first | (rw [Zf]; exact a9) | (show (Addr.add _ _).block ≠ _; rw [Zf]; exact a9) | exact a9) (.int .i64 ((Zm l2 a2).f1))).trans a7; (try have e0 := fun (n_ : Nat) => (show ((((w28.drewN n_).setCell ⟨a3, 0, none⟩ (.int .i64 ((Zm l2 a2).f0))).setCell ⟨a3, 1, none⟩ (.int .i64 ((Zm l2 a2).f1)))).cell? _ = some _ from a4)); (try have e1 := fun (n_ : Nat) => (show ((((w28.drewN n_).setCell ⟨a3, 0, none⟩ (.int .i64 ((Zm l2 a2).f0))).setCell ⟨a3, 1, none⟩ (.int .i64 ((Zm l2 a2).f1)))).cell? _ = some _ from a7)); clear a8; clear a9; replace d3 := eq_true d3; replace d4 := eq_true d4; have d5 : 0 ≤ ((b3) : Int) := of_decide_eq_true Zx; have d6 : (b3) < (l2.length : Int) := of_decide_eq_true Zx; obtain ⟨e2, e3, b0, b6⟩ := Un HR2.out (b3) d5 d6; obtain rfl : b5 = e2 := (by injection e3); have b7 : b5.block ≠ a3 := Nat.ne_of_lt (Nat.lt_of_lt_of_le (by have := World.block_lt_of_cell? _ _ b0; first | rwa [Zf] at this | exact this) b9.out); have b8 : b5.block ≠ a3 := Nat.ne_of_lt (Nat.lt_of_lt_of_le (by have := World.block_lt_of_cell? _ _ b0; first | rwa [Zf] at this | exact this) b9.out); replace b0 := Qg HB.out b0; replace b6 := Qg HB.out b6; replace b0 := (Ze (p := ⟨a3, 0, none⟩) (by first | (rw [Zf]; exact b7) | (show (Addr.add _ _).block ≠ _; rw [Zf]; exact b7) | exact b7) (.int .i64 ((Zm l2 a2).f0))).trans b0; replace b6 := (Ze (p := ⟨a3, 0, none⟩) (by first | (rw [Zf]; exact b7) | (show (Addr.add _ _).block ≠ _; rw [Zf]; exact b7) | exact b7) (.int .i64 ((Zm l2 a2).f0))).trans b6; replace b0 := (Ze (p := ⟨a3, 1, none⟩) (by first | (rw [Zf]; exact b8) | (show (Addr.add _ _).block ≠ _; rw [Zf]; exact b8) | exact b8) (.int .i64 ((Zm l2 a2).f1))).trans b0; replace b6 := (Ze (p := ⟨a3, 1, none⟩) (by first | (rw [Zf]; exact b8) | (show (Addr.add _ _).block ≠ _; rw [Zf]; exact b8) | exact b8) (.int .i64 ((Zm l2 a2).f1))).trans b6; (try have e4 := fun (n_ : Nat) => (show ((((w28.drewN n_).setCell ⟨a3, 0, none⟩ (.int .i64 ((Zm l2 a2).f0))).setCell ⟨a3, 1, none⟩ (.int .i64 ((Zm l2 a2).f1)))).cell? _ = some _ from b0)); (try have e5 := fun (n_ : Nat) => (show ((((w28.drewN n_).setCell ⟨a3, 0, none⟩ (.int .i64 ((Zm l2 a2).f0))).setCell ⟨a3, 1, none⟩ (.int .i64 ((Zm l2 a2).f1)))).cell? _ = some _ from b6)); clear b7; clear b8; replace d5 := eq_true d5; replace d6 := eq_true d6))
              repeat (go_quiet (fail); try go_wp2_with fail)
              go_roundg k1
              case measure => have := HK1.out; omega
              case rel => exact ⟨(wrap64 (a2 + 1)), sm_, H', ⟨by have := HK1.out; omega⟩, ⟨bw_⟩⟩
           ·rw [if_neg c21] at H
            exact absurd H (by simp)
          ·rw [if_neg c20] at H
           exact absurd H (by simp)
         ·rw [if_neg c18] at H
          have e8 : decide (0 < a2) = false := decide_eq_false c18; clear c18; have H' := Qa.mk H; clear H; have b1 : 0 ≤ (a2 : Int) := of_decide_eq_true Zx; have b2 : a2 < (l2.length : Int) := of_decide_eq_true Zx; obtain ⟨b5, d0, a5, a6⟩ := Un HR2.out a2 b1 b2
          cases d0; replace a5 := Qg HB.out a5; replace a6 := Qg HB.out a6; replace b1 := eq_true b1; replace b2 := eq_true b2; go_wp2_with (first | ((with_reducible refine Zd (N := 8) rfl ?_); refine Zc ?hg (N := 8) ?hd (cs := #[.int .i64 0, .int .i64 0]) (t := 37) ?hr ?_; (case hd => rfl); (case hg => rfl); (case hr => first | (go_simp; done) | (go_simp; rfl)); intro a3 hg w30 hbox hb; have n0_ := Qa.mk (Qj bw_ hb); have n1_ := Qa.mk (hbox); have n2_ := Qa.mk ((gw_ hg : w.heap.size ≤ a3)); have n3_ := Qa.mk ((gw_ hg : w.heap.size ≤ a3)); clear HB; have HB := n0_; have b4 := n1_; have b9 := n2_; have GE102 := n3_; clear n0_ n1_ n2_ n3_; clear hb hbox hg; obtain ⟨i1, i2⟩ := Qfn b4.out; obtain ⟨i3, i4⟩ := Qdh b4.out))
          repeat (go_quiet (fail); try go_wp2_with fail)
          go_roundg k1
          case measure => have := HK1.out; omega
          case rel => exact ⟨(wrap64 (a2 + 1)), sm_, H', ⟨by have := HK1.out; omega⟩, ⟨bw_⟩⟩
    ·rw [if_neg c5] at H
     exact absurd H (by simp)
   ·rw [if_neg c4] at H
    have f3 : decide (a2 < (l2.length : Int)) = false := decide_eq_false c4; clear c4; obtain rfl := Option.some.inj H
    go_wp2
    repeat (go_quiet (fail); try go_wp2)
    go_ret; exact ⟨by first | rfl | (simp [Qt, Qu] <;> rfl) | (simp [*, Qt, Qu] <;> rfl), bw_⟩
def Qx.l0 : Nat → List (S37) → Int → Int → Option (Int)
 | 0, _, _, _ => none
 | k + 1, x0, x1, x5 => if x5 < (x0.length : Int) then (if 0 ≤ x5 then (if ((Zm x0 x5).f0) = x1 then (some ((Zm x0 x5).f1)) else (Qx.l0 k x0 x1 (wrap64 (x5 + 1)))) else (none)) else (some (-1))
def Qx.f (k : Nat) (l0 : List (S37)) (a1 : Int) : Option (Int) := Qx.l0 k l0 a1 0
set_option maxHeartbeats 8000000 in
set_option maxRecDepth 100000 in
theorem Qx.calls (k : Nat) (A0 : Option Addr) (c0 : Nat) (l0 : List (S37)) (a1 : Int) (r : Int) (w : World) (hr0 : Kd.C k37 w A0 l0.length l0) (hc0 : l0.length ≤ c0) (h : Qx.f k l0 a1 = some r) :
  Calls Try.prog 95 #[.slice A0 l0.length c0, .int .i64 a1] w fun e w' => e = .returned (.int .i64 r) ∧ Zl w w' := by
 have HR0 := Qa.mk hr0; have HC0 := Qa.mk hc0; clear hr0 hc0; have H : (Qx.l0 k l0 a1 0) = some r := h; clear h; have H' := Qa.mk H; clear H
 go_enter Try.func95, Try.ntmps95
 go_wp2
 go_loopg [5] k (fun kq v5 w' => ∃ (a0 : Int), v5 = .int .i64 a0 ∧ Qa (Qx.l0 kq l0 a1 a0 = some r) ∧ Qa (kq ≤ k) ∧ Zl w w')
 case atStart => exact ⟨(0), sm_, H', ⟨Nat.le_refl _⟩, by repeat (first | exact Zl.refl _ | apply Zl.step)⟩
 case round =>
  clear H'
  try clear p2
  obtain ⟨a0, rfl, HA, HK1, ⟨m1, rfl⟩⟩ := hrel
  cases gk with
  | zero => exact absurd HA.out (by simp [Qx.l0])
  | succ k1 =>
   have H := HA.out; clear HA
   simp only [Qx.l0] at H
   by_cases c3 : a0 < (l0.length : Int)
   ·rw [if_pos c3] at H
    have b1 : decide (a0 < (l0.length : Int)) = true := decide_eq_true c3; clear c3
    by_cases c4 : 0 ≤ a0
    ·rw [if_pos c4] at H
     have b7 : decide (0 ≤ a0) = true := decide_eq_true c4; clear c4
     by_cases c5 : ((Zm l0 a0).f0) = a1
     ·rw [if_pos c5] at H
      have b2 : (((Zm l0 a0).f0) == a1) = true := beq_iff_eq.mpr c5; have b3 : (((Zm l0 a0).f0) != a1) = false := bne_eq_false_iff_eq.mpr c5; clear c5; obtain rfl := Option.some.inj H; have a2 : 0 ≤ (a0 : Int) := of_decide_eq_true Zx; have a3 : a0 < (l0.length : Int) := of_decide_eq_true Zx; obtain ⟨a7, a4, a8, a9⟩ := Un HR0.out a0 a2 a3
      cases a4; replace a2 := eq_true a2; replace a3 := eq_true a3; have a5 : 0 ≤ (a0 : Int) := of_decide_eq_true Zx; have a6 : a0 < (l0.length : Int) := of_decide_eq_true Zx; obtain ⟨b0, b4, b5, b6⟩ := Un HR0.out a0 a5 a6; obtain rfl : a7 = b0 := (by injection b4); replace a5 := eq_true a5; replace a6 := eq_true a6
      go_wp2
      go_ret; exact ⟨sm_, by repeat (first | exact Zl.refl _ | apply Zl.step)⟩
     ·rw [if_neg c5] at H
      have b2 : (((Zm l0 a0).f0) == a1) = false := beq_eq_false_iff_ne.mpr c5; have b3 : (((Zm l0 a0).f0) != a1) = true := bne_iff_ne.mpr c5; have H' := Qa.mk H; clear H; have a2 : 0 ≤ (a0 : Int) := of_decide_eq_true Zx; have a3 : a0 < (l0.length : Int) := of_decide_eq_true Zx; obtain ⟨a7, a4, a8, a9⟩ := Un HR0.out a0 a2 a3
      cases a4; replace a2 := eq_true a2; replace a3 := eq_true a3
      go_wp2
      go_roundg k1
      case measure => have := HK1.out; omega
      case rel => exact ⟨(wrap64 (a0 + 1)), sm_, H', ⟨by have := HK1.out; omega⟩, by repeat (first | exact Zl.refl _ | apply Zl.step)⟩
    ·rw [if_neg c4] at H
     exact absurd H (by simp)
   ·rw [if_neg c3] at H
    have b1 : decide (a0 < (l0.length : Int)) = false := decide_eq_false c3; clear c3; obtain rfl := Option.some.inj H
    go_wp2
    go_ret; exact ⟨sm_, by repeat (first | exact Zl.refl _ | apply Zl.step)⟩
end Go.Proofs.Ytadafplbgophfaa.PA
end
section
namespace Go.Proofs.Ytadafplbgophfaa.PA
open Go.RowKit Go.Proofs.YtadafplbgophfaaW.PrintWords Go.Proofs.YtadafplbgophfaaW.PrintLast Go.Proofs.YtadafplbgophfaaW.PrintMore
open Jdg
namespace Chk
theorem down {P : Nat → Prop} (n : Nat) (hend : P n) (hstep : ∀ i, i < n → P (i + 1) → P i) : ∀ i, i ≤ n → P i := by
  have : ∀ d i, n - i ≤ d → i ≤ n → P i := by
    intro d
    induction d with
    | zero => intro i h1 h2; obtain rfl : i = n := by omega
              exact hend
    | succ d ih =>
      intro i h1 h2
      by_cases h : i < n
      · exact hstep i h (ih (i + 1) (by omega) (by omega))
      · obtain rfl : i = n := by omega
        exact hend
  exact fun i hi => this n i (by omega) hi
theorem Qbd {i : Nat} (h : i ≤ 1000000000000000) : wrap64 ((i : Int) + 1) = ((i + 1 : Nat) : Int) := by rw [w64 (by omega) (by omega)]; omega
def Ji (d : Int) : List S37 → Int → Int
  | [], _ => d
  | p :: l, i => if p.f0 = i then p.f1 else Ji d l i
def Uk (a b : Int) : Int → Int → List S37 → Bool
  | _, _, [] => true
  | pa, pb, p :: l => decide (pa < p.f0 ∧ pb < p.f1 ∧ p.f0 < a ∧ p.f1 < b) && Uk a b p.f0 p.f1 l
theorem Ur {a b pa pb : Int} {p : S37} {l : List S37} : Uk a b pa pb (p :: l) = true ↔ (pa < p.f0 ∧ pb < p.f1 ∧ p.f0 < a ∧ p.f1 < b) ∧ Uk a b p.f0 p.f1 l = true := by
  simp [Uk, and_assoc]
theorem Qdj (l : List S37) (x : Int) (hl : l.length ≤ 1000000) : Ev (fun k => Qx.f k l x) (Ji (-1) l x) := by
  have := down (P := fun i => Ev (fun k => Qx.l0 k l x (i : Int)) (Ji (-1) (l.drop i) x)) l.length (by
    refine Ev.step (f := fun _ => some (-1)) (fun k => ?_) (by rw [List.drop_of_length_le (Nat.le_refl _)]; exact Ev.now _)
    simp only [Qx.l0]; rw [if_neg (by omega)]) (fun i hi ih => by
    have e := Uw l hi
    rw [List.drop_eq_getElem_cons hi, Ji]
    by_cases h : l[i].f0 = x
    · rw [if_pos h]
      refine Ev.step (f := fun _ => some l[i].f1) (fun k => ?_) (Ev.now _)
      simp only [Qx.l0]; rw [if_pos (by omega), if_pos (by omega), e, if_pos h]
    · rw [if_neg h]
      refine Ev.step (fun k => ?_) ih
      simp only [Qx.l0]; rw [if_pos (by omega), if_pos (by omega), e, if_neg h, Qbd (by omega)]) 0 (by omega)
  exact this
theorem Qee (a b : Int) (l : List S37) (hl : l.length ≤ 1000000) : Ev (fun k => Qz.f k a b l) (Uk a b (-1) (-1) l) := by
  have := down (P := fun i => ∀ pa pb, (i = 0 ∧ pa = -1 ∧ pb = -1 ∨ ∃ h : 0 < i ∧ i ≤ l.length, pa = (l[i - 1]'(by omega)).f0 ∧ pb = (l[i - 1]'(by omega)).f1 ∧ 0 ≤ pa ∧ 0 ≤ pb) → Ev (fun k => Qz.l0 k a b l (i : Int)) (Uk a b pa pb (l.drop i))) l.length (by
    intro pa pb _
    refine Ev.step (f := fun _ => some true) (fun k => ?_) (by rw [List.drop_of_length_le (Nat.le_refl _)]; exact Ev.now _)
    simp only [Qz.l0]; rw [if_neg (by omega)]) (fun i hi ih pa pb hp => by
    have e := Uw l hi
    have f1 : (i : Int) < (l.length : Int) := by omega
    have f2 : (0 : Int) ≤ (i : Int) := by omega
    have hlow : -1 ≤ pa ∧ -1 ≤ pb := by
      rcases hp with ⟨_, h1, h2⟩ | ⟨h, _, _, h3, h4⟩ <;> omega
    rw [List.drop_eq_getElem_cons hi]
    by_cases hb : Uk a b pa pb (l[i] :: l.drop (i + 1)) = true
    · rw [hb]
      obtain ⟨⟨b1, b2, b3, b4⟩, b5⟩ := Ur.1 hb
      have hn := ih l[i].f0 l[i].f1 (.inr ⟨⟨by omega, by omega⟩, rfl, rfl, by omega, by omega⟩)
      rw [b5] at hn
      refine Ev.step (fun k => ?_) hn
      simp only [Qz.l0]
      rw [if_pos f1, if_pos f2, e, if_neg (by omega), if_neg (by omega), if_neg (by omega), if_neg (by omega), Qbd (by omega)]
      rcases hp with ⟨h0, _, _⟩ | ⟨h, h1, h2, _, _⟩
      · rw [if_neg (by omega)]
      · have e2 : wrap64 ((i : Int) - 1) = ((i - 1 : Nat) : Int) := by rw [w64 (by omega) (by omega)]; omega
        rw [if_pos (by omega), e2, if_pos (by omega), if_pos (by omega), Uw l (by omega : i - 1 < l.length), if_neg (by omega), if_neg (by omega)]
    · rw [Bool.not_eq_true] at hb
      rw [hb]
      by_cases ho : pa < l[i].f0 ∧ pb < l[i].f1 ∧ l[i].f0 < a ∧ l[i].f1 < b
      · have b5 : Uk a b l[i].f0 l[i].f1 (l.drop (i + 1)) = false := by
          cases h : Uk a b l[i].f0 l[i].f1 (l.drop (i + 1)) with
          | false => rfl
          | true => rw [Ur.2 ⟨ho, h⟩] at hb; cases hb
        obtain ⟨b1, b2, b3, b4⟩ := ho
        have hn := ih l[i].f0 l[i].f1 (.inr ⟨⟨by omega, by omega⟩, rfl, rfl, by omega, by omega⟩)
        rw [b5] at hn
        refine Ev.step (fun k => ?_) hn
        simp only [Qz.l0]
        rw [if_pos f1, if_pos f2, e, if_neg (by omega), if_neg (by omega), if_neg (by omega), if_neg (by omega), Qbd (by omega)]
        rcases hp with ⟨h0, _, _⟩ | ⟨h, h1, h2, _, _⟩
        · rw [if_neg (by omega)]
        · have e2 : wrap64 ((i : Int) - 1) = ((i - 1 : Nat) : Int) := by rw [w64 (by omega) (by omega)]; omega
          rw [if_pos (by omega), e2, if_pos (by omega), if_pos (by omega), Uw l (by omega : i - 1 < l.length), if_neg (by omega), if_neg (by omega)]
      · refine Ev.step (f := fun _ => some false) (fun k => ?_) (Ev.now _)
        simp only [Qz.l0]
        rw [if_pos f1, if_pos f2, e]
        by_cases c1 : l[i].f0 < 0
        · rw [if_pos c1]
        rw [if_neg c1]
        by_cases c2 : l[i].f0 ≥ a
        · rw [if_pos c2]
        rw [if_neg c2]
        by_cases c3 : l[i].f1 < 0
        · rw [if_pos c3]
        rw [if_neg c3]
        by_cases c4 : l[i].f1 ≥ b
        · rw [if_pos c4]
        rw [if_neg c4]
        rcases hp with ⟨h0, h1, h2⟩ | ⟨h, h1, h2, _, _⟩
        · omega
        · have e2 : wrap64 ((i : Int) - 1) = ((i - 1 : Nat) : Int) := by rw [w64 (by omega) (by omega)]; omega
          rw [if_pos (by omega), e2, if_pos (by omega), if_pos (by omega), Uw l (by omega : i - 1 < l.length)]
          by_cases c5 : (l[i - 1]'(by omega)).f0 ≥ l[i].f0
          · rw [if_pos c5]
          · rw [if_neg c5, if_pos (by omega)]) 0 (by omega) (-1) (-1) (.inl ⟨rfl, rfl, rfl⟩)
  exact this
theorem Qiv {a b : Int} (d : Int) (hd : d < b) : ∀ (l : List S37) (pa pb i : Int), Uk a b pa pb l = true → Ji d l i < b
  | [], _, _, _, _ => hd
  | p :: l, pa, pb, i, h => by
    obtain ⟨⟨h1, h2, h3, h4⟩, h5⟩ := Ur.1 h
    rw [Ji]
    split
    · exact h4
    · exact Qiv d hd l p.f0 p.f1 i h5
theorem Qhc {t : List Int} {i j v : Int} (hi : 0 ≤ i) (hi2 : i < t.length) (hj : 0 ≤ j) : rd (t.set i.toNat v) j = if i = j then v else rd t j := by
  obtain ⟨m, rfl⟩ := Int.eq_ofNat_of_zero_le hi
  obtain ⟨n, rfl⟩ := Int.eq_ofNat_of_zero_le hj
  simp only [rd, Int.toNat_natCast, List.getD_eq_getElem?_getD, List.getElem?_set]
  by_cases h : m = n
  · subst h
    have : m < t.length := by omega
    simp [this]
  · rw [if_neg h, if_neg (by omega)]
end Chk
end Go.Proofs.Ytadafplbgophfaa.PA
end
section
namespace Go.Proofs.Ytadafplbgophfaa.PA
open Go.RowKit Go.Proofs.YtadafplbgophfaaW.PrintWords Go.Proofs.YtadafplbgophfaaW.PrintLast Go.Proofs.YtadafplbgophfaaW.PrintMore
attribute [local go_sem] Xx Xz Yk Yl Xj Xk Xy Ya
mutual
def Qk.j0 : Nat → Int → Int → Int → List (S37) → List (S37) → Bool → Option ((List (S81)) × Bool)
 | 0, _, _, _, _, _, _ => none
 | k + 1, x0, x1, x2, x3, x4, x42 => if x42 = true then (some (([] : List (S81)), false)) else (Qk.l0 k x0 x1 x2 x3 x4 ([] : List (S81)) 0 0 0)
def Qk.l0 : Nat → Int → Int → Int → List (S37) → List (S37) → List (S81) → Int → Int → Int → Option ((List (S81)) × Bool)
 | 0, _, _, _, _, _, _, _, _, _ => none
 | k + 1, x0, x1, x2, x3, x4, x12, x13, x14, x15 => if x13 < x0 then (Qk.j2 k x0 x1 x2 x3 x4 x12 x13 x14 x15 true) else (if x14 < x1 then (Qk.j2 k x0 x1 x2 x3 x4 x12 x13 x14 x15 true) else (Qk.j2 k x0 x1 x2 x3 x4 x12 x13 x14 x15 (decide (x15 < x2))))
def Qk.j2 : Nat → Int → Int → Int → List (S37) → List (S37) → List (S81) → Int → Int → Int → Bool → Option ((List (S81)) × Bool)
 | 0, _, _, _, _, _, _, _, _, _, _ => none
 | k + 1, x0, x1, x2, x3, x4, x12, x13, x14, x15, x55 => if x55 = true then (Qk.l1 k x0 x1 x2 x3 x4 x12 x13 x14 x15 0) else (some (x12, true))
def Qk.j4 : Nat → Int → Int → Int → List (S37) → List (S37) → List (S81) → Int → Int → Int → Int → Option ((List (S81)) × Bool)
 | 0, _, _, _, _, _, _, _, _, _, _ => none
 | k + 1, x0, x1, x2, x3, x4, x12, x13, x14, x15, x16 => if x16 = 0 then (Qk.l2 k x0 x1 x2 x3 x4 x12 x14 x15 x13 (decide (x16 > 0)) x13 (wrap64 (x13 + x16)) x14 (wrap64 (x14 + x16)) x15 (wrap64 (x15 + x16))) else (if x12.length < 2513169434916 then (Qk.l0 k x0 x1 x2 x3 x4 (x12 ++ [(⟨decide (x16 > 0), (⟨x13, wrap64 (x13 + x16)⟩ : S79), (⟨x14, wrap64 (x14 + x16)⟩ : S79), (⟨x15, wrap64 (x15 + x16)⟩ : S79)⟩ : S81)]) (wrap64 (x13 + x16)) (wrap64 (x14 + x16)) (wrap64 (x15 + x16))) else (none))
def Qk.j6 : Nat → Int → Int → Int → List (S37) → List (S37) → List (S81) → Int → Bool → Int → Int → Int → Int → Int → Int → Option ((List (S81)) × Bool)
 | 0, _, _, _, _, _, _, _, _, _, _, _, _, _, _ => none
 | k + 1, x0, x1, x2, x3, x4, x12, x18, a3, a4, a7, a5, a8, a6, a9 => if x18 < x0 then ((Qx.f k x3 x18).bind fun b0 => ((Qx.f k x4 x18).bind fun b1 => (if x12.length < 2513169434916 then (Qk.l0 k x0 x1 x2 x3 x4 (x12 ++ [(⟨a3, (⟨a4, x18⟩ : S79), (⟨a5, b0⟩ : S79), (⟨a6, b1⟩ : S79)⟩ : S81)]) x18 b0 b1) else (none)))) else (if x12.length < 2513169434916 then (Qk.l0 k x0 x1 x2 x3 x4 (x12 ++ [(⟨a3, (⟨a4, x0⟩ : S79), (⟨a5, x1⟩ : S79), (⟨a6, x2⟩ : S79)⟩ : S81)]) x0 x1 x2) else (none))
def Qk.l2 : Nat → Int → Int → Int → List (S37) → List (S37) → List (S81) → Int → Int → Int → Bool → Int → Int → Int → Int → Int → Int → Option ((List (S81)) × Bool)
 | 0, _, _, _, _, _, _, _, _, _, _, _, _, _, _, _, _ => none
 | k + 1, x0, x1, x2, x3, x4, x12, x14, x15, x18, a3, a4, a7, a5, a8, a6, a9 => if x18 < x0 then ((Qx.f k x3 x18).bind fun b2 => (if b2 < x14 then (Qk.l2 k x0 x1 x2 x3 x4 x12 x14 x15 (wrap64 (x18 + 1)) a3 a4 a7 a5 a8 a6 a9) else ((Qx.f k x4 x18).bind fun b3 => (if b3 < x15 then (Qk.l2 k x0 x1 x2 x3 x4 x12 x14 x15 (wrap64 (x18 + 1)) a3 a4 a7 a5 a8 a6 a9) else (Qk.j6 k x0 x1 x2 x3 x4 x12 x18 a3 a4 a7 a5 a8 a6 a9))))) else (Qk.j6 k x0 x1 x2 x3 x4 x12 x18 a3 a4 a7 a5 a8 a6 a9)
def Qk.l1 : Nat → Int → Int → Int → List (S37) → List (S37) → List (S81) → Int → Int → Int → Int → Option ((List (S81)) × Bool)
 | 0, _, _, _, _, _, _, _, _, _, _ => none
 | k + 1, x0, x1, x2, x3, x4, x12, x13, x14, x15, x16 => if (wrap64 (x13 + x16)) < x0 then ((Qx.f k x3 (wrap64 (x13 + x16))).bind fun b4 => (if b4 = (wrap64 (x14 + x16)) then ((Qx.f k x4 (wrap64 (x13 + x16))).bind fun b5 => (if b5 = (wrap64 (x15 + x16)) then (Qk.l1 k x0 x1 x2 x3 x4 x12 x13 x14 x15 (wrap64 (x16 + 1))) else (Qk.j4 k x0 x1 x2 x3 x4 x12 x13 x14 x15 x16))) else (Qk.j4 k x0 x1 x2 x3 x4 x12 x13 x14 x15 x16))) else (Qk.j4 k x0 x1 x2 x3 x4 x12 x13 x14 x15 x16)
end
def Qk.f (k : Nat) (a0 : Int) (a1 : Int) (a2 : Int) (l3 : List (S37)) (l4 : List (S37)) : Option ((List (S81)) × Bool) := if a0 < 0 then (Qk.j0 k a0 a1 a2 l3 l4 true) else (if a1 < 0 then (Qk.j0 k a0 a1 a2 l3 l4 true) else (if a2 < 0 then (Qk.j0 k a0 a1 a2 l3 l4 true) else ((Qz.f k a0 a1 l3).bind fun b6 => (if b6 = true then ((Qz.f k a0 a2 l4).bind fun b7 => (Qk.j0 k a0 a1 a2 l3 l4 (!b7))) else (Qk.j0 k a0 a1 a2 l3 l4 true)))))
end Go.Proofs.Ytadafplbgophfaa.PA
end
section
namespace Go.Proofs.Ytadafplbgophfaa.PA
open Go.RowKit Go.Proofs.YtadafplbgophfaaW.PrintWords Go.Proofs.YtadafplbgophfaaW.PrintLast Go.Proofs.YtadafplbgophfaaW.PrintMore
open Jdg
namespace Chk
theorem Qgn {α : Type} {g f : Nat → Option α} {r : α} (K0 : Nat) (h : ∀ k, K0 ≤ k → g (k + 1) = f k) (hf : Ev f r) : Ev g r := by
 obtain ⟨K, hK⟩ := hf; refine ⟨K + K0 + 1, fun k hk => ?_⟩; obtain ⟨m, rfl⟩ : ∃ m, k = m + 1 := ⟨k - 1, by omega⟩; rw [h m (by omega)]; exact hK m (by omega)
variable {base left right : Int} {l r : List S37}
theorem Qmv {o a b n : Int} {out : List S81} {v : List S81 × Bool} (hl : l.length ≤ 1000000) (hr' : r.length ≤ 1000000) (hr : Qdi (Ji (-1) l) (Ji (-1) r) base o a b n) (hp : Pos base left right o a b) (hq : Pos base left right (o + n) (a + n) (b + n))
  (s1 : base ≤ 1000000) (s2 : left ≤ 1000000) (s3 : right ≤ 1000000)
  (hv : Ev (fun k => Qk.j4 k base left right l r out o a b n) v) : Ev (fun k => Qk.l1 k base left right l r out o a b 0) v := by
 obtain ⟨o0, o1, a0, a1, b0, b1⟩ := hp; obtain ⟨p0, p1, q0, q1, r0, r1⟩ := hq; have n0 := hr.n0; obtain ⟨N, rfl⟩ := Int.eq_ofNat_of_zero_le n0
 have := down (P := fun i => Ev (fun k => Qk.l1 k base left right l r out o a b (i : Int)) v) N (by
  obtain ⟨K1, h1⟩ := Qdj l (o + N) hl; obtain ⟨K2, h2⟩ := Qdj r (o + N) hr'; refine Qgn (K1 + K2) (fun k hk => ?_) hv; simp only [Qk.l1]; rw [w64 (x := o + N) (by omega) (by omega), w64 (x := a + N) (by omega) (by omega), w64 (x := b + N) (by omega) (by omega)]
  by_cases c1 : o + (N : Int) < base
  ·rw [if_pos c1, show Qx.f k l (o + N) = _ from h1 k (by omega), Option.bind_some, show Qx.f k r (o + N) = _ from h2 k (by omega), Option.bind_some]
   by_cases c2 : Ji (-1) l (o + N) = a + N
   ·rw [if_pos c2, if_neg (fun c3 => hr.stop ⟨c1, c2, c3⟩)]
   ·rw [if_neg c2]
  ·rw [if_neg c1]) (fun i hi ih => by
  obtain ⟨K1, h1⟩ := Qdj l (o + i) hl; obtain ⟨K2, h2⟩ := Qdj r (o + i) hr'; refine Qgn (K1 + K2) (fun k hk => ?_) ih; obtain ⟨c1, c2, c3⟩ := hr.all (i : Int) (by omega) (by omega); simp only [Qk.l1]; rw [w64 (x := o + i) (by omega) (by omega), w64 (x := a + i) (by omega) (by omega), w64 (x := b + i) (by omega) (by omega)]
  rw [if_pos c1, show Qx.f k l (o + i) = _ from h1 k (by omega), Option.bind_some, show Qx.f k r (o + i) = _ from h2 k (by omega), Option.bind_some, if_pos c2, if_pos c3, Qbd (by omega)]) 0 (by omega)
 exact this
theorem Qoz {o a b t : Int} {out : List S81} {v : List S81 × Bool} {B : Bool} {y1 y2 y3 y4 y5 y6 : Int} (hl : l.length ≤ 1000000) (hr' : r.length ≤ 1000000) (hn : Qgd (Ji (-1) l) (Ji (-1) r) base o a b t) (o0 : 0 ≤ o)
  (s1 : base ≤ 1000000)
  (hv : Ev (fun k => Qk.j6 k base left right l r out t B y1 y2 y3 y4 y5 y6) v) : Ev (fun k => Qk.l2 k base left right l r out a b o B y1 y2 y3 y4 y5 y6) v := by
 have t0 := hn.t0; have t1 := hn.t1; obtain ⟨N, rfl⟩ := Int.eq_ofNat_of_zero_le o0; obtain ⟨M, rfl⟩ := Int.eq_ofNat_of_zero_le (show 0 ≤ t by omega)
 have := down (P := fun i => N ≤ i → Ev (fun k => Qk.l2 k base left right l r out a b (i : Int) B y1 y2 y3 y4 y5 y6) v) M (by
  intro _; obtain ⟨K1, h1⟩ := Qdj l M hl; obtain ⟨K2, h2⟩ := Qdj r M hr'; refine Qgn (K1 + K2) (fun k hk => ?_) hv; simp only [Qk.l2]
  by_cases c1 : (M : Int) < base
  ·obtain ⟨x1, x2⟩ := hn.stop c1
   rw [if_pos c1, show Qx.f k l M = _ from h1 k (by omega), Option.bind_some, if_neg (by omega), show Qx.f k r M = _ from h2 k (by omega), Option.bind_some, if_neg (by omega)]
  ·rw [if_neg c1]) (fun i hi ih hN => by
  obtain ⟨K1, h1⟩ := Qdj l i hl; obtain ⟨K2, h2⟩ := Qdj r i hr'; refine Qgn (K1 + K2) (fun k hk => ?_) (ih (by omega)); simp only [Qk.l2]; rw [if_pos (show (i : Int) < base by omega), show Qx.f k l i = _ from h1 k (by omega), Option.bind_some, Qbd (by omega)]
  by_cases c1 : Ji (-1) l i < a
  ·rw [if_pos c1]
  ·have h2' : Ji (-1) r i < b := by
    rcases hn.all (i : Int) (by omega) (by omega) with h | h
    ·exact absurd h c1
    ·exact h
   rw [if_neg c1, show Qx.f k r i = _ from h2 k (by omega), Option.bind_some, if_pos h2']) N (by omega) (Nat.le_refl _)
 exact this
theorem Qiu {o a b : Int} {out : List S81} {v : List S81 × Bool} (hm : Qci base left right o a b) (hv : Ev (fun k => Qk.l1 k base left right l r out o a b 0) v) : Ev (fun k => Qk.l0 k base left right l r out o a b) v := by
 refine Ev.step (f := fun k => Qk.j2 k base left right l r out o a b true) (fun k => ?_) (Ev.step (fun k => ?_) hv)
 ·simp only [Qk.l0]
  by_cases c1 : o < base
  ·rw [if_pos c1]
  by_cases c2 : a < left
  ·rw [if_neg c1, if_pos c2]
  rcases hm with h | h | h
  ·exact absurd h c1
  ·exact absurd h c2
  ·rw [if_neg c1, if_neg c2, decide_eq_true h]
 ·simp only [Qk.j2]
  rw [if_pos trivial]
theorem Qlz (hl : l.length ≤ 1000000) (hr' : r.length ≤ 1000000)
  (s1 : base ≤ 1000000) (s2 : left ≤ 1000000) (s3 : right ≤ 1000000) {o a b : Int} {cs : List S81} (h : Sw (Ji (-1) l) (Ji (-1) r) base left right o a b cs) :
  ∀ out : List S81, out.length + cs.length ≤ 1000000 → Ev (fun k => Qk.l0 k base left right l r out o a b) (out ++ cs, true) := by
 induction h with
 | done o a b hp hm =>
  intro out ho; rw [List.append_nil]; refine Ev.step (f := fun k => Qk.j2 k base left right l r out o a b false) (fun k => ?_) (Ev.step (f := fun _ => some (out, true)) (fun k => ?_) (Ev.now _))
  ·simp only [Qk.l0]
   unfold Qci at hm
   rw [if_neg (by omega), if_neg (by omega), decide_eq_false (by omega)]
  ·simp only [Qk.j2]
   rw [if_neg Bool.false_ne_true]
 | run o a b n cs hp hm hr hn h ih =>
  intro out ho
  rw [List.length_cons] at ho
  have hq := h.pos; refine Qiu hm (Qmv hl hr' hr hp hq s1 s2 s3 ?_); have hi := ih (out ++ [⟨true, ⟨o, o + n⟩, ⟨a, a + n⟩, ⟨b, b + n⟩⟩]) (by rw [List.length_append, List.length_singleton]; omega)
  rw [List.append_assoc] at hi
  obtain ⟨o0, o1, a0, a1, b0, b1⟩ := hp; obtain ⟨p0, p1, q0, q1, r0, r1⟩ := hq; refine Ev.step (fun k => ?_) hi; simp only [Qk.j4]; rw [if_neg (by omega), if_pos (by omega), w64 (x := o + n) (by omega) (by omega), w64 (x := a + n) (by omega) (by omega), w64 (x := b + n) (by omega) (by omega), decide_eq_true (show n > 0 from hn)]
 | gap o a b t cs hp hm hr hn ht h ih =>
  intro out ho
  rw [List.length_cons] at ho
  obtain ⟨K1, h1⟩ := Qdj l t hl; obtain ⟨K2, h2⟩ := Qdj r t hr'; refine Qiu hm (Qmv hl hr' hr hp (by rw [Int.add_zero, Int.add_zero, Int.add_zero]; exact hp) s1 s2 s3 ?_); refine Ev.step (fun k => ?_) (Qoz (B := false) (y1 := o) (y2 := wrap64 (o + 0)) (y3 := a) (y4 := wrap64 (a + 0)) (y5 := b) (y6 := wrap64 (b + 0)) (left := left) (right := right) (out := out) (v := (out ++ ⟨false, ⟨o, t⟩, ⟨a, Ji (-1) l t⟩, ⟨b, Ji (-1) r t⟩⟩ :: cs, true)) hl hr' hn hp.o0 s1 ?_)
  ·simp only [Qk.j4]
   rw [if_pos trivial]; rfl
  ·have hi := ih (out ++ [⟨false, ⟨o, t⟩, ⟨a, Ji (-1) l t⟩, ⟨b, Ji (-1) r t⟩⟩]) (by rw [List.length_append, List.length_singleton]; omega)
   rw [List.append_assoc] at hi
   refine Qgn (K1 + K2) (fun k hk => ?_) hi; simp only [Qk.j6]; rw [if_pos ht, show Qx.f k l t = _ from h1 k (by omega), Option.bind_some, show Qx.f k r t = _ from h2 k (by omega), Option.bind_some, if_pos (by omega)]
 | last o a b hp hm hr hn =>
  intro out ho; refine Qiu hm (Qmv hl hr' hr hp (by rw [Int.add_zero, Int.add_zero, Int.add_zero]; exact hp) s1 s2 s3 ?_); refine Ev.step (fun k => ?_) (Qoz (B := false) (y1 := o) (y2 := wrap64 (o + 0)) (y3 := a) (y4 := wrap64 (a + 0)) (y5 := b) (y6 := wrap64 (b + 0)) (left := left) (right := right) (out := out) (v := (out ++ [⟨false, ⟨o, base⟩, ⟨a, left⟩, ⟨b, right⟩⟩], true)) hl hr' hn hp.o0 s1 ?_)
  ·simp only [Qk.j4]
   rw [if_pos trivial]; rfl
  ·refine Ev.step (f := fun k => Qk.l0 k base left right l r (out ++ [⟨false, ⟨o, base⟩, ⟨a, left⟩, ⟨b, right⟩⟩]) base left right) (fun k => ?_) ?_
   ·simp only [Qk.j6]
    rw [if_neg (by omega), if_pos (by simp at ho; omega)]
   ·refine Ev.step (f := fun k => Qk.j2 k base left right l r (out ++ [⟨false, ⟨o, base⟩, ⟨a, left⟩, ⟨b, right⟩⟩]) base left right false) (fun k => ?_) (Ev.step (f := fun _ => some (out ++ [⟨false, ⟨o, base⟩, ⟨a, left⟩, ⟨b, right⟩⟩], true)) (fun k => ?_) (Ev.now _))
    ·simp only [Qk.l0]
     rw [if_neg (by omega), if_neg (by omega), decide_eq_false (by omega)]
    ·simp only [Qk.j2]
     rw [if_neg Bool.false_ne_true]
theorem Qoq (hl : l.length ≤ 1000000) (hr' : r.length ≤ 1000000) (s1 : base ≤ 1000000) (s2 : left ≤ 1000000) (s3 : right ≤ 1000000) (h : (0 ≤ base ∧ 0 ≤ left ∧ 0 ≤ right) ∧ Uk base left (-1) (-1) l = true ∧ Uk base right (-1) (-1) r = true) {cs : List S81}
  (hs : Sw (Ji (-1) l) (Ji (-1) r) base left right 0 0 0 cs) (hc : cs.length ≤ 1000000) : Ev (fun k => Qk.f k base left right l r) (cs, true) := by
 obtain ⟨K1, h1⟩ := Qee base left l hl; obtain ⟨K2, h2⟩ := Qee base right r hr'
 obtain ⟨K3, h3⟩ : Ev (fun k => Qk.j0 k base left right l r false) (cs, true) := by
  refine Ev.step (fun k => ?_) (Qlz hl hr' s1 s2 s3 hs [] (by simpa using hc)); simp only [Qk.j0]; rw [if_neg Bool.false_ne_true]
 refine ⟨K1 + K2 + K3, fun k hk => ?_⟩; have h3' : Qk.j0 k base left right l r false = some (cs, true) := h3 k (by omega); obtain ⟨⟨c1, c2, c3⟩, c4, c5⟩ := h
 show Qk.f k base left right l r = some (cs, true)
 unfold Qk.f; rw [if_neg (by omega), if_neg (by omega), if_neg (by omega), show Qz.f k base left l = _ from h1 k (by omega), Option.bind_some, if_pos c4, show Qz.f k base right r = _ from h2 k (by omega), Option.bind_some, c5, Bool.not_true, h3']
end Chk
end Go.Proofs.Ytadafplbgophfaa.PA
end
section
namespace Go.Proofs.Ytadafplbgophfaa.PA
open Go.RowKit Go.Proofs.YtadafplbgophfaaW.PrintWords Go.Proofs.YtadafplbgophfaaW.PrintLast Go.Proofs.YtadafplbgophfaaW.PrintMore
attribute [local go_sem] Xx Xz Yk Yl Xj Xk Xy Ya
def Yp.f (a0 : ByteArray) : Option (ByteArray) := if 0 ≤ (mn (a0.size : Int) 200) then (if (mn (a0.size : Int) 200) ≤ (a0.size : Int) then (some (a0.extract 0 ((mn (a0.size : Int) 200) : Int).toNat)) else (none)) else (none)
set_option maxHeartbeats 8000000 in
set_option maxRecDepth 100000 in
theorem Yp.calls (a0 : ByteArray) (r : ByteArray) (w : World) (h : Yp.f a0 = some r) :
  Calls Try.prog 72 #[.string a0] w fun e w' => e = .returned (.string r) ∧ Zl w w' := by
 have H : (if 0 ≤ (mn (a0.size : Int) 200) then (if (mn (a0.size : Int) 200) ≤ (a0.size : Int) then (some (a0.extract 0 ((mn (a0.size : Int) 200) : Int).toNat)) else (none)) else (none)) = some r := h; clear h; obtain ⟨ji2, a1⟩ : ∃ j_ : Int, (mn (a0.size : Int) 200) = j_ := ⟨_, rfl⟩
 replace H : (if 0 ≤ (ji2) then (if (ji2) ≤ (a0.size : Int) then (some (a0.extract 0 ((ji2) : Int).toNat)) else (none)) else (none)) = some r := by first | (rw [a1] at H; exact H) | (simp only [a1] at H ⊢; exact H)
 (try (have hji2h : ji2 ≤ 200 := by (rw [← a1]; unfold mn; (repeat' split) <;> omega)))
 (try (have hji2g : ji2 ≤ 64 := by omega))
 (try (have hji2l : 0 ≤ ji2 := by (rw [← a1]; unfold mn; (repeat' split) <;> omega)))
 (try (have hji2m : 0 ≤ ji2 := by omega))
 have a2 : (if 200 < (a0.size : Int) then 200 else (a0.size : Int)) = ji2 := a1
 have hji2_n : (if 200 < a0.size then 200 else (a0.size : Int)) = ji2 := by first | exact_mod_cast a2 | (rw [← a2]; simp only [Int.ofNat_lt]; done) | (rw [← a2]; (repeat' split) <;> omega)
 by_cases c3 : 0 ≤ (ji2)
 ·rw [if_pos c3] at H
  have a3 := eq_true c3; have a4 : decide (0 ≤ (ji2)) = true := decide_eq_true c3; clear c3
  by_cases c4 : (ji2) ≤ (a0.size : Int)
  ·rw [if_pos c4] at H
   have a5 := eq_true c4; have a6 : decide ((ji2) ≤ (a0.size : Int)) = true := decide_eq_true c4; clear c4; obtain rfl := Option.some.inj H
   go_enter Try.func72, Try.ntmps72
   go_wp2
   go_ret; exact ⟨by first | rfl | (simp; done) | (simp only [← a1] <;> (first | rfl | simp)) | (simp [*]; done), by repeat (first | exact Zl.refl _ | apply Zl.step)⟩
  ·rw [if_neg c4] at H
   exact absurd H (by simp)
 ·rw [if_neg c3] at H
  exact absurd H (by simp)
def Zn.l0 : Nat → ByteArray → List ByteArray → Int → Int → Option (List ByteArray)
 | 0, _, _, _, _ => none
 | k + 1, x0, x3, x4, x5 => if x5 < (x0.size : Int) then (if 0 ≤ x5 then (if (bt x0 x5) = 10 then (if 0 ≤ x4 then (if x4 ≤ (wrap64 (x5 + 1)) then (if (wrap64 (x5 + 1)) ≤ (x0.size : Int) then (if x3.length < 8796093022208 then (Zn.l0 k x0 (x3 ++ [x0.extract (x4 : Int).toNat ((wrap64 (x5 + 1)) : Int).toNat]) (wrap64 (x5 + 1)) (wrap64 (x5 + 1))) else (none)) else (none)) else (none)) else (none)) else (if (wrap64 (x5 + 1)) = (x0.size : Int) then (if 0 ≤ x4 then (if x4 ≤ (wrap64 (x5 + 1)) then (if (wrap64 (x5 + 1)) ≤ (x0.size : Int) then (if x3.length < 8796093022208 then (Zn.l0 k x0 (x3 ++ [x0.extract (x4 : Int).toNat ((wrap64 (x5 + 1)) : Int).toNat]) (wrap64 (x5 + 1)) (wrap64 (x5 + 1))) else (none)) else (none)) else (none)) else (none)) else (Zn.l0 k x0 x3 x4 (wrap64 (x5 + 1))))) else (none)) else (some x3)
def Zn.f (k : Nat) (a0 : ByteArray) : Option (List ByteArray) := Zn.l0 k a0 ([] : List ByteArray) 0 0
set_option maxHeartbeats 8000000 in
set_option maxRecDepth 100000 in
theorem Zn.calls (k : Nat) (a0 : ByteArray) (r : List ByteArray) (w : World) (h : Zn.f k a0 = some r) :
  Calls Try.prog 117 #[.string a0] w fun e w' => ∃ v0_ : Value, e = .returned (v0_) ∧ Kd.R Kd.string 9 w' w.heap.size (fun _ => True) v0_ r ∧ Below w.heap.size w w' := by
 have HB := Qa.mk (Below.refl w.heap.size w); have H : (Zn.l0 k a0 ([] : List ByteArray) 0 0) = some r := h; clear h; have H' := Qa.mk H; clear H
 go_enter Try.func117, Try.ntmps117
 go_wp2
 go_loopg [3, 4, 5] k (fun kq v3 v4 v5 w' => ∃ (a3 : List ByteArray) (a2 : Int) (a1 : Int), v4 = .int .i64 a2 ∧ v5 = .int .i64 a1 ∧ Qa (Zn.l0 kq a0 a3 a2 a1 = some r) ∧ Qa (kq ≤ k) ∧ Qa (Kd.R Kd.string 9 w' w.heap.size (fun _ => True) v3 a3) ∧ Qa (Below w.heap.size w w'))
 case atStart => exact ⟨(([] : List ByteArray)), (0), (0), sm_, sm_, H', ⟨Nat.le_refl _⟩, ⟨by first | exact Kd.R_nil _ _ _ _ _ | exact Kd.N_nil _ _ _ _ _ | exact Kd.V_nil _ _ _ _ _ | exact Kd.Q_nil _ _ _ _ _ | exact Kd.S_nil _ _ _ _ _⟩, ⟨bw_⟩⟩
 case round =>
  clear H'
  try clear c1
  obtain ⟨a3, a2, a1, rfl, rfl, HA, HK1, a6, HB⟩ := hrel
  cases gk with
  | zero => exact absurd HA.out (by simp [Zn.l0])
  | succ k1 =>
   have H := HA.out; clear HA
   simp only [Zn.l0] at H
   by_cases c2 : a1 < (a0.size : Int)
   ·rw [if_pos c2] at H
    have b6 : decide (a1 < (a0.size : Int)) = true := decide_eq_true c2; clear c2
    by_cases c3 : 0 ≤ a1
    ·rw [if_pos c3] at H
     have d8 : decide (0 ≤ a1) = true := decide_eq_true c3; clear c3
     by_cases c5 : (bt a0 a1) = 10
     ·rw [if_pos c5] at H
      have b7 : ((bt a0 a1) == 10) = true := beq_iff_eq.mpr c5; have b8 : ((bt a0 a1) != 10) = false := bne_eq_false_iff_eq.mpr c5; clear c5
      by_cases c6 : 0 ≤ a2
      ·rw [if_pos c6] at H
       have d9 := eq_true c6; have e0 : decide (0 ≤ a2) = true := decide_eq_true c6; clear c6
       by_cases c7 : a2 ≤ (wrap64 (a1 + 1))
       ·rw [if_pos c7] at H
        have e1 := eq_true c7; have e2 : decide (a2 ≤ (wrap64 (a1 + 1))) = true := decide_eq_true c7
        by_cases c8 : (wrap64 (a1 + 1)) ≤ (a0.size : Int)
        ·rw [if_pos c8] at H
         have e3 := eq_true c8; have e4 : decide ((wrap64 (a1 + 1)) ≤ (a0.size : Int)) = true := decide_eq_true c8
         by_cases c9 : a3.length < 8796093022208
         ·rw [if_pos c9] at H
          have b9 := Qa.mk c9; clear c9; obtain ⟨a7, a4⟩ : ∃ y_ : List ByteArray, y_ = (a3 ++ [a0.extract (a2 : Int).toNat ((wrap64 (a1 + 1)) : Int).toNat]) := ⟨_, rfl⟩
          replace H : (Zn.l0 k1 a0 a7 (wrap64 (a1 + 1)) (wrap64 (a1 + 1))) = some r := by first | (rw [a4]; with_reducible exact H) | (have H2_ := (Option.bind_some _ _).symm.trans H; rw [a4]; with_reducible exact H2_) | (have H2_ := (Option.bind_some _ _).symm.trans H; with_reducible exact H2_) | with_reducible exact H | (rw [a4]; exact H) | exact H
          have a9 := Qa.mk a4; clear a4; have H' := Qa.mk H; clear H; have p4 : 0 ≤ (a1 : Int) := of_decide_eq_true Zx; have q4 : a1 < (a0.size : Int) := of_decide_eq_true Zx; have hx4 := Qgh a0 a1; replace p4 := eq_true p4; replace q4 := eq_true q4; go_wp2_with (first | ((with_reducible refine Xl (b := .append) (xs := #[.tmp 23, .tmp 29]) rfl ?_); (try (refine Xq (by rfl) ?_; dsimp only)); at_builtin; refine Kd.R_append Kd.string (w0 := w) w.heap.size rfl (.tmp 23) (.tmp 29) 27 9 (.string ⟨#[]⟩) 16 rfl Try.underlying27 Ko rfl (by decide) (by omega) u3 a3 (a0.extract (a2 : Int).toNat ((wrap64 (a1 + 1)) : Int).toNat) [.string (a0.extract (a2 : Int).toNat ((wrap64 (a1 + 1)) : Int).toNat)] (fun _ => True) (fun _ => False) rfl rfl ?aP (fun _ hk => hk.elim) ?aF ?aO ?aB ?aS ?aL ?_; (case aP => exact rfl); (case aB => exact bw_); (case aF => exact (fun _ _ => trivial)); (case aO => exact (ro_ a6.out)); (case aS => exact (Qo bw_)); (case aL => have := b9.out; omega); intro e5 w10 ho hb hg hat; rw [← a9.out] at ho; have n0_ := Qa.mk (hb); have n1_ := Qa.mk (ho); clear HB; clear a6; have HB := n0_; have b0 := n1_; clear n0_ n1_; clear ho hb hg hat))
          go_roundg k1
          case measure => have := HK1.out; omega
          case rel => exact ⟨(a7), (wrap64 (a1 + 1)), (wrap64 (a1 + 1)), sm_, sm_, H', ⟨by have := HK1.out; omega⟩, ⟨ro_ b0.out⟩, ⟨bw_⟩⟩
         ·rw [if_neg c9] at H
          exact absurd H (by simp)
        ·rw [if_neg c8] at H
         exact absurd H (by simp)
       ·rw [if_neg c7] at H
        exact absurd H (by simp)
      ·rw [if_neg c6] at H
       exact absurd H (by simp)
     ·rw [if_neg c5] at H
      have b7 : ((bt a0 a1) == 10) = false := beq_eq_false_iff_ne.mpr c5; have b8 : ((bt a0 a1) != 10) = true := bne_iff_ne.mpr c5
      by_cases c11 : (wrap64 (a1 + 1)) = (a0.size : Int)
      ·rw [if_pos c11] at H
       have b1 : ((wrap64 (a1 + 1)) == (a0.size : Int)) = true := beq_iff_eq.mpr c11; have b2 : ((wrap64 (a1 + 1)) != (a0.size : Int)) = false := bne_eq_false_iff_eq.mpr c11; clear c11
       by_cases c12 : 0 ≤ a2
       ·rw [if_pos c12] at H
        have d0 := eq_true c12; have d3 : decide (0 ≤ a2) = true := decide_eq_true c12; clear c12
        by_cases c13 : a2 ≤ (wrap64 (a1 + 1))
        ·rw [if_pos c13] at H
         have d4 := eq_true c13; have d5 : decide (a2 ≤ (wrap64 (a1 + 1))) = true := decide_eq_true c13
         by_cases c14 : (wrap64 (a1 + 1)) ≤ (a0.size : Int)
         ·rw [if_pos c14] at H
          have d6 := eq_true c14; have d7 : decide ((wrap64 (a1 + 1)) ≤ (a0.size : Int)) = true := decide_eq_true c14
          by_cases c15 : a3.length < 8796093022208
          ·rw [if_pos c15] at H
           have b3 := Qa.mk c15; clear c15; obtain ⟨a8, a5⟩ : ∃ y_ : List ByteArray, y_ = (a3 ++ [a0.extract (a2 : Int).toNat ((wrap64 (a1 + 1)) : Int).toNat]) := ⟨_, rfl⟩
           replace H : (Zn.l0 k1 a0 a8 (wrap64 (a1 + 1)) (wrap64 (a1 + 1))) = some r := by first | (rw [a5]; with_reducible exact H) | (have H2_ := (Option.bind_some _ _).symm.trans H; rw [a5]; with_reducible exact H2_) | (have H2_ := (Option.bind_some _ _).symm.trans H; with_reducible exact H2_) | with_reducible exact H | (rw [a5]; exact H) | exact H
           have b4 := Qa.mk a5; clear a5; have H' := Qa.mk H; clear H; have p4 : 0 ≤ (a1 : Int) := of_decide_eq_true Zx; have q4 : a1 < (a0.size : Int) := of_decide_eq_true Zx; have hx4 := Qgh a0 a1; replace p4 := eq_true p4; replace q4 := eq_true q4; go_wp2_with (first | ((with_reducible refine Xl (b := .append) (xs := #[.tmp 23, .tmp 29]) rfl ?_); (try (refine Xq (by rfl) ?_; dsimp only)); at_builtin; refine Kd.R_append Kd.string (w0 := w) w.heap.size rfl (.tmp 23) (.tmp 29) 27 9 (.string ⟨#[]⟩) 16 rfl Try.underlying27 Ko rfl (by decide) (by omega) u3 a3 (a0.extract (a2 : Int).toNat ((wrap64 (a1 + 1)) : Int).toNat) [.string (a0.extract (a2 : Int).toNat ((wrap64 (a1 + 1)) : Int).toNat)] (fun _ => True) (fun _ => False) rfl rfl ?aP (fun _ hk => hk.elim) ?aF ?aO ?aB ?aS ?aL ?_; (case aP => exact rfl); (case aB => exact bw_); (case aF => exact (fun _ _ => trivial)); (case aO => exact (ro_ a6.out)); (case aS => exact (Qo bw_)); (case aL => have := b3.out; omega); intro e6 w16 ho hb hg hat; rw [← b4.out] at ho; have n0_ := Qa.mk (hb); have n1_ := Qa.mk (ho); clear HB; clear a6; have HB := n0_; have b5 := n1_; clear n0_ n1_; clear ho hb hg hat))
           go_roundg k1
           case measure => have := HK1.out; omega
           case rel => exact ⟨(a8), (wrap64 (a1 + 1)), (wrap64 (a1 + 1)), sm_, sm_, H', ⟨by have := HK1.out; omega⟩, ⟨ro_ b5.out⟩, ⟨bw_⟩⟩
          ·rw [if_neg c15] at H
           exact absurd H (by simp)
         ·rw [if_neg c14] at H
          exact absurd H (by simp)
        ·rw [if_neg c13] at H
         exact absurd H (by simp)
       ·rw [if_neg c12] at H
        exact absurd H (by simp)
      ·rw [if_neg c11] at H
       have b1 : ((wrap64 (a1 + 1)) == (a0.size : Int)) = false := beq_eq_false_iff_ne.mpr c11; have b2 : ((wrap64 (a1 + 1)) != (a0.size : Int)) = true := bne_iff_ne.mpr c11; have H' := Qa.mk H; clear H; have p4 : 0 ≤ (a1 : Int) := of_decide_eq_true Zx; have q4 : a1 < (a0.size : Int) := of_decide_eq_true Zx; have hx4 := Qgh a0 a1; replace p4 := eq_true p4; replace q4 := eq_true q4
       go_wp2
       go_roundg k1
       case measure => have := HK1.out; omega
       case rel => exact ⟨(a3), (a2), (wrap64 (a1 + 1)), sm_, sm_, H', ⟨by have := HK1.out; omega⟩, ⟨ro_ a6.out⟩, ⟨bw_⟩⟩
    ·rw [if_neg c3] at H
     exact absurd H (by simp)
   ·rw [if_neg c2] at H
    have b6 : decide (a1 < (a0.size : Int)) = false := decide_eq_false c2; clear c2; obtain rfl := Option.some.inj H
    go_wp2
    go_ret; exact ⟨_, by first | rfl | (simp [Qt, Qu] <;> rfl) | (simp [*, Qt, Qu] <;> rfl), ro_ a6.out, bw_⟩
mutual
def Qv.l0 : Nat → List Int → List Int → List (S37) → Option ((List (S37)))
 | 0, _, _, _ => none
 | k + 1, x0, x1, x5 => if (x0.length : Int) > 0 then (Qv.j1 k x0 x1 x5 (decide ((x1.length : Int) > 0))) else (Qv.j1 k x0 x1 x5 false)
def Qv.j1 : Nat → List Int → List Int → List (S37) → Bool → Option ((List (S37)))
 | 0, _, _, _, _ => none
 | k + 1, x0, x1, x5, x15 => if x15 = true then (if 0 ≤ (wrap64 ((x0.length : Int) - 1)) then (if (wrap64 ((x0.length : Int) - 1)) < (x0.length : Int) then (if 0 ≤ (wrap64 ((x1.length : Int) - 1)) then (if (wrap64 ((x1.length : Int) - 1)) < (x1.length : Int) then (if (rd x0 (wrap64 ((x0.length : Int) - 1))) = (rd x1 (wrap64 ((x1.length : Int) - 1))) then ((some (([(⟨wrap64 ((x0.length : Int) - 1), wrap64 ((x1.length : Int) - 1)⟩ : S37)] : List (S37)) : List (S37))).bind fun b1 => (if b1.length + x5.length < 8796093022208 then (if (wrap64 ((x0.length : Int) - 1)) ≤ (x0.length : Int) then (if (wrap64 ((x1.length : Int) - 1)) ≤ (x1.length : Int) then (Qv.l0 k (x0.take ((wrap64 ((x0.length : Int) - 1)) : Int).toNat) (x1.take ((wrap64 ((x1.length : Int) - 1)) : Int).toNat) (b1 ++ x5)) else (none)) else (none)) else (none))) else (if (wrap64 ((x0.length : Int) - 1)) ≤ (x0.length : Int) then ((Qm.f k (x0.take ((wrap64 ((x0.length : Int) - 1)) : Int).toNat) x1).bind fun b0 => ((Qm.f k x0 x1).bind fun a9 => (if b0 = a9 then (Qv.l0 k (x0.take ((wrap64 ((x0.length : Int) - 1)) : Int).toNat) x1 x5) else (if (wrap64 ((x1.length : Int) - 1)) ≤ (x1.length : Int) then (Qv.l0 k x0 (x1.take ((wrap64 ((x1.length : Int) - 1)) : Int).toNat) x5) else (none))))) else (none))) else (none)) else (none)) else (none)) else (none)) else (some x5)
end
def Qv.f (k : Nat) (l0 : List Int) (l1 : List Int) : Option ((List (S37))) := Qv.l0 k l0 l1 ([] : List (S37))
set_option maxHeartbeats 8000000 in
set_option maxRecDepth 100000 in
theorem Qv.calls (k : Nat) (P0_ : Nat → Prop) (A0 : Option Addr) (c0 : Nat) (l0 : List Int) (P1_ : Nat → Prop) (A1 : Option Addr) (c1 : Nat) (l1 : List Int) (r : List (S37)) (w : World) (hs0 : Kd.V (Kd.int .i64) 3 w w.heap.size (fun k_ => P0_ k_) (.slice A0 l0.length c0) l0) (hs1 : Kd.V (Kd.int .i64) 3 w w.heap.size (fun k_ => P1_ k_) (.slice A1 l1.length c1) l1) (h : Qv.f k l0 l1 = some r) :
  Calls Try.prog 118 #[.slice A0 l0.length c0, .slice A1 l1.length c1] w fun e w' => ∃ v0_ : Value, e = .returned (v0_) ∧ Kd.R k37 37 w' w.heap.size (fun k_ => (w.heap.size ≤ k_)) v0_ r ∧ Below w.heap.size w w' := by
 have hu37 := Try.underlying37; have HO0 := Qa.mk (show Kd.V (Kd.int .i64) 3 w w.heap.size (fun k_ => ((P0_ k_ ∨ P1_ k_) ∨ w.heap.size ≤ k_)) (.slice A0 l0.length c0) l0 from Kd.V_mono hs0 (fun k_ hk => .inl (.inl hk))); have HO1 := Qa.mk (show Kd.V (Kd.int .i64) 3 w w.heap.size (fun k_ => ((P0_ k_ ∨ P1_ k_) ∨ w.heap.size ≤ k_)) (.slice A1 l1.length c1) l1 from Kd.V_mono hs1 (fun k_ hk => .inl (.inr hk))); have HB := Qa.mk (Below.refl w.heap.size w); have H : (Qv.l0 k l0 l1 ([] : List (S37))) = some r := h; clear h; have H' := Qa.mk H; clear H
 go_enter Try.func118, Try.ntmps118
 go_wp2
 repeat (go_quiet (fail); try go_wp2)
 go_loopg [0, 1, 5] k (fun kq v0 v1 v5 w' => ∃ (a1 : List Int) (a0 : List Int) (a7 : List (S37)), Qa (Qv.l0 kq a1 a0 a7 = some r) ∧ Qa (kq ≤ k) ∧ Qa (Kd.V (Kd.int .i64) 3 w' w.heap.size (fun k_ => ((P0_ k_ ∨ P1_ k_) ∨ w.heap.size ≤ k_) ∧ some k_ ≠ (v5 : Value).ownBlock) v0 a1) ∧ Qa (Kd.V (Kd.int .i64) 3 w' w.heap.size (fun k_ => ((P0_ k_ ∨ P1_ k_) ∨ w.heap.size ≤ k_) ∧ some k_ ≠ (v5 : Value).ownBlock) v1 a0) ∧ Qa (Kd.R k37 37 w' w.heap.size (fun k_ => (w.heap.size ≤ k_)) v5 a7) ∧ Qa (Below w.heap.size w w'))
 case atStart => exact ⟨(l0), (l1), (([] : List (S37))), H', ⟨Nat.le_refl _⟩, ⟨by (with_reducible repeat (first | apply Kd.V_alloc | apply Kd.V_drewN | apply Kd.V_drew)); exact Kd.V_mono HO0.out (fun _ hk => ⟨hk, (by simp [Value.ownBlock])⟩)⟩, ⟨by (with_reducible repeat (first | apply Kd.V_alloc | apply Kd.V_drewN | apply Kd.V_drew)); exact Kd.V_mono HO1.out (fun _ hk => ⟨hk, (by simp [Value.ownBlock])⟩)⟩, ⟨by first | exact Kd.R_nil _ _ _ _ _ | exact Kd.N_nil _ _ _ _ _ | exact Kd.V_nil _ _ _ _ _ | exact Kd.Q_nil _ _ _ _ _ | exact Kd.S_nil _ _ _ _ _⟩, ⟨bw_⟩⟩
 case round =>
  clear H'
  try clear c1
  try clear p2
  obtain ⟨a1, a0, a7, HA, HK1, a4, a3, a5, HB⟩ := hrel
  cases gk with
  | zero => exact absurd HA.out (by simp [Qv.l0])
  | succ k1 =>
   have H := HA.out; clear HA
   simp only [Qv.l0] at H
   have HC3 := Qa.mk H; clear H
   go_upto_region 2 with (fail)
   repeat (go_quiet (fail); go_upto_region 2 with (fail))
   go_cut [15] (fun v15 wc => ∃ (kq : Nat) (f5 : Bool), v15 = .bool f5 ∧ Qa (Qv.j1 kq a1 a0 a7 f5 = some r) ∧ Qa (kq ≤ k1) ∧ Qa (Kd.V (Kd.int .i64) 3 wc w.heap.size (fun k_ => ((P0_ k_ ∨ P1_ k_) ∨ w.heap.size ≤ k_) ∧ some k_ ≠ (u5 : Value).ownBlock) u0 a1) ∧ Qa (Kd.V (Kd.int .i64) 3 wc w.heap.size (fun k_ => ((P0_ k_ ∨ P1_ k_) ∨ w.heap.size ≤ k_) ∧ some k_ ≠ (u5 : Value).ownBlock) u1 a0) ∧ Qa (Kd.R k37 37 wc w.heap.size (fun k_ => (w.heap.size ≤ k_)) u5 a7) ∧ Qa (Below w.heap.size w wc))
   case first =>
    have H := HC3.out; clear HC3
    by_cases c4 : (a1.length : Int) > 0
    ·rw [if_pos c4] at H
     have f4 : decide (0 < (a1.length : Int)) = true := decide_eq_true c4; have h9 : decide (0 < a1.length) = true := decide_eq_true (by omega); clear c4
     (first | rw [f4] | (simp only [Yx, Vi]; rw [f4]) | skip)
     have H' := Qa.mk H; clear H; obtain ⟨Ao5, co5, eo5⟩ := Kd.V_slice a4.out; subst eo5; obtain ⟨Ao6, co6, eo6⟩ := Kd.V_slice a3.out; subst eo6
     go_wp2
     repeat (go_quiet (fail); try go_wp2)
     go_meet
     case rel => exact ⟨_, (decide ((a0.length : Int) > 0)), sm_, H', ⟨by have := HK1.out; first | omega | exact Nat.le_refl _⟩, ⟨vo_ a4.out⟩, ⟨vo_ a3.out⟩, ⟨ro_ a5.out⟩, ⟨bw_⟩⟩
    ·rw [if_neg c4] at H
     have f4 : decide (0 < (a1.length : Int)) = false := decide_eq_false c4; have h9 : decide (0 < a1.length) = false := decide_eq_false (by omega); clear c4
     (first | rw [f4] | (simp only [Yx, Vi]; rw [f4]) | skip)
     have H' := Qa.mk H; clear H; obtain ⟨Ao7, co7, eo7⟩ := Kd.V_slice a4.out; subst eo7
     go_wp2
     repeat (go_quiet (fail); try go_wp2)
     go_meet
     case rel => exact ⟨_, (false), sm_, H', ⟨by have := HK1.out; first | omega | exact Nat.le_refl _⟩, ⟨vo_ a4.out⟩, ⟨vo_ a3.out⟩, ⟨ro_ a5.out⟩, ⟨bw_⟩⟩
   case rest =>
    clear HC3
    try clear c1
    try clear p2
    try clear c4
    try clear f4
    try clear h9
    try clear p2
    obtain ⟨kq, f5, rfl, HA, HJ2, a4, a3, a5, HB⟩ := hcut
    cases kq with
    | zero => exact absurd HA.out (by simp [Qv.j1])
    | succ kj2 =>
     have H := HA.out; clear HA
     simp only [Qv.j1] at H
     by_cases c8 : f5 = true
     ·subst c8
      have H1 : (if 0 ≤ (wrap64 ((a1.length : Int) - 1)) then (if (wrap64 ((a1.length : Int) - 1)) < (a1.length : Int) then (if 0 ≤ (wrap64 ((a0.length : Int) - 1)) then (if (wrap64 ((a0.length : Int) - 1)) < (a0.length : Int) then (if (rd a1 (wrap64 ((a1.length : Int) - 1))) = (rd a0 (wrap64 ((a0.length : Int) - 1))) then ((some (([(⟨wrap64 ((a1.length : Int) - 1), wrap64 ((a0.length : Int) - 1)⟩ : S37)] : List (S37)) : List (S37))).bind fun b1 => (if b1.length + a7.length < 8796093022208 then (if (wrap64 ((a1.length : Int) - 1)) ≤ (a1.length : Int) then (if (wrap64 ((a0.length : Int) - 1)) ≤ (a0.length : Int) then (Qv.l0 kj2 (a1.take ((wrap64 ((a1.length : Int) - 1)) : Int).toNat) (a0.take ((wrap64 ((a0.length : Int) - 1)) : Int).toNat) (b1 ++ a7)) else (none)) else (none)) else (none))) else (if (wrap64 ((a1.length : Int) - 1)) ≤ (a1.length : Int) then ((Qm.f kj2 (a1.take ((wrap64 ((a1.length : Int) - 1)) : Int).toNat) a0).bind fun b0 => ((Qm.f kj2 a1 a0).bind fun a9 => (if b0 = a9 then (Qv.l0 kj2 (a1.take ((wrap64 ((a1.length : Int) - 1)) : Int).toNat) a0 a7) else (if (wrap64 ((a0.length : Int) - 1)) ≤ (a0.length : Int) then (Qv.l0 kj2 a1 (a0.take ((wrap64 ((a0.length : Int) - 1)) : Int).toNat) a7) else (none))))) else (none))) else (none)) else (none)) else (none)) else (none)) = some r := by rw [if_pos rfl] at H; exact H
      clear H; have H := H1; clear H1; obtain ⟨ji9, g8⟩ : ∃ j_ : Int, (wrap64 ((a1.length : Int) - 1)) = j_ := ⟨_, rfl⟩
      replace H : (if 0 ≤ (ji9) then (if (ji9) < (a1.length : Int) then (if 0 ≤ (wrap64 ((a0.length : Int) - 1)) then (if (wrap64 ((a0.length : Int) - 1)) < (a0.length : Int) then (if (rd a1 (ji9)) = (rd a0 (wrap64 ((a0.length : Int) - 1))) then ((some (([(⟨ji9, wrap64 ((a0.length : Int) - 1)⟩ : S37)] : List (S37)) : List (S37))).bind fun b1 => (if b1.length + a7.length < 8796093022208 then (if (ji9) ≤ (a1.length : Int) then (if (wrap64 ((a0.length : Int) - 1)) ≤ (a0.length : Int) then (Qv.l0 kj2 (a1.take ((ji9) : Int).toNat) (a0.take ((wrap64 ((a0.length : Int) - 1)) : Int).toNat) (b1 ++ a7)) else (none)) else (none)) else (none))) else (if (ji9) ≤ (a1.length : Int) then ((Qm.f kj2 (a1.take ((ji9) : Int).toNat) a0).bind fun b0 => ((Qm.f kj2 a1 a0).bind fun a9 => (if b0 = a9 then (Qv.l0 kj2 (a1.take ((ji9) : Int).toNat) a0 a7) else (if (wrap64 ((a0.length : Int) - 1)) ≤ (a0.length : Int) then (Qv.l0 kj2 a1 (a0.take ((wrap64 ((a0.length : Int) - 1)) : Int).toNat) a7) else (none))))) else (none))) else (none)) else (none)) else (none)) else (none)) = some r := by first | (rw [g8] at H; exact H) | (simp only [g8] at H ⊢; exact H)
      have j8 : (IntKind.i64.wrap ((a1.length : Int) - 1)) = ji9 := (Yx _).trans g8
      by_cases c10 : 0 ≤ (ji9)
      ·rw [if_pos c10] at H
       have j9 : decide (0 ≤ (ji9)) = true := decide_eq_true c10; clear c10
       by_cases c11 : (ji9) < (a1.length : Int)
       ·rw [if_pos c11] at H
        have k0 : decide ((ji9) < (a1.length : Int)) = true := decide_eq_true c11; clear c11; obtain ⟨a2, g4⟩ : ∃ j_ : Int, (wrap64 ((a0.length : Int) - 1)) = j_ := ⟨_, rfl⟩
        replace H : (if 0 ≤ (a2) then (if (a2) < (a0.length : Int) then (if (rd a1 (ji9)) = (rd a0 (a2)) then ((some (([(⟨ji9, a2⟩ : S37)] : List (S37)) : List (S37))).bind fun b1 => (if b1.length + a7.length < 8796093022208 then (if (ji9) ≤ (a1.length : Int) then (if (a2) ≤ (a0.length : Int) then (Qv.l0 kj2 (a1.take ((ji9) : Int).toNat) (a0.take ((a2) : Int).toNat) (b1 ++ a7)) else (none)) else (none)) else (none))) else (if (ji9) ≤ (a1.length : Int) then ((Qm.f kj2 (a1.take ((ji9) : Int).toNat) a0).bind fun b0 => ((Qm.f kj2 a1 a0).bind fun a9 => (if b0 = a9 then (Qv.l0 kj2 (a1.take ((ji9) : Int).toNat) a0 a7) else (if (a2) ≤ (a0.length : Int) then (Qv.l0 kj2 a1 (a0.take ((a2) : Int).toNat) a7) else (none))))) else (none))) else (none)) else (none)) = some r := by first | (rw [g4] at H; exact H) | (simp only [g4] at H ⊢; exact H)
        have j7 : (IntKind.i64.wrap ((a0.length : Int) - 1)) = a2 := (Yx _).trans g4
        by_cases c13 : 0 ≤ (a2)
        ·rw [if_pos c13] at H
         have k2 : decide (0 ≤ (a2)) = true := decide_eq_true c13; clear c13
         by_cases c14 : (a2) < (a0.length : Int)
         ·rw [if_pos c14] at H
          have k3 : decide ((a2) < (a0.length : Int)) = true := decide_eq_true c14; clear c14
          by_cases c15 : (rd a1 (ji9)) = (rd a0 (a2))
          ·rw [if_pos c15] at H
           have i2 : ((rd a1 (ji9)) == (rd a0 (a2))) = true := beq_iff_eq.mpr c15; have i3 : ((rd a1 (ji9)) != (rd a0 (a2))) = false := bne_eq_false_iff_eq.mpr c15; clear c15; obtain ⟨b1, e4⟩ : ∃ y_ : List (S37), y_ = (([(⟨ji9, a2⟩ : S37)] : List (S37))) := ⟨_, rfl⟩
           replace H : (if b1.length + a7.length < 8796093022208 then (if (ji9) ≤ (a1.length : Int) then (if (a2) ≤ (a0.length : Int) then (Qv.l0 kj2 (a1.take ((ji9) : Int).toNat) (a0.take ((a2) : Int).toNat) (b1 ++ a7)) else (none)) else (none)) else (none)) = some r := by first | (rw [e4]; with_reducible exact H) | (have H2_ := (Option.bind_some _ _).symm.trans H; rw [e4]; with_reducible exact H2_) | (have H2_ := (Option.bind_some _ _).symm.trans H; with_reducible exact H2_) | with_reducible exact H | (rw [e4]; exact H) | exact H
           have f6 := Qa.mk e4; clear e4
           by_cases c16 : b1.length + a7.length < 8796093022208
           ·rw [if_pos c16] at H
            have h3 := Qa.mk c16; clear c16; obtain ⟨g5, e5⟩ : ∃ y_ : List (S37), y_ = (b1 ++ a7) := ⟨_, rfl⟩
            replace H : (if (ji9) ≤ (a1.length : Int) then (if (a2) ≤ (a0.length : Int) then (Qv.l0 kj2 (a1.take ((ji9) : Int).toNat) (a0.take ((a2) : Int).toNat) g5) else (none)) else (none)) = some r := by first | (rw [e5]; with_reducible exact H) | (have H2_ := (Option.bind_some _ _).symm.trans H; rw [e5]; with_reducible exact H2_) | (have H2_ := (Option.bind_some _ _).symm.trans H; with_reducible exact H2_) | with_reducible exact H | (rw [e5]; exact H) | exact H
            have h4 := Qa.mk e5; clear e5; have k4 := eq_true (of_decide_eq_true Zx : 0 ≤ (ji9))
            by_cases c18 : (ji9) ≤ (a1.length : Int)
            ·rw [if_pos c18] at H
             have k5 := eq_true c18; have k6 : decide ((ji9) ≤ (a1.length : Int)) = true := decide_eq_true c18; clear c18; obtain ⟨b6, e6⟩ : ∃ y_ : List Int, y_ = (a1.take ((ji9) : Int).toNat) := ⟨_, rfl⟩
             replace H : (if (a2) ≤ (a0.length : Int) then (Qv.l0 kj2 b6 (a0.take ((a2) : Int).toNat) g5) else (none)) = some r := by first | (rw [e6]; with_reducible exact H) | (have H2_ := (Option.bind_some _ _).symm.trans H; rw [e6]; with_reducible exact H2_) | (have H2_ := (Option.bind_some _ _).symm.trans H; with_reducible exact H2_) | with_reducible exact H | (rw [e6]; exact H) | exact H
             have f7 := Qa.mk e6; clear e6; have k7 := eq_true (of_decide_eq_true Zx : 0 ≤ (a2))
             by_cases c20 : (a2) ≤ (a0.length : Int)
             ·rw [if_pos c20] at H
              have k8 := eq_true c20; have k9 : decide ((a2) ≤ (a0.length : Int)) = true := decide_eq_true c20; clear c20; obtain ⟨d3, e7⟩ : ∃ y_ : List Int, y_ = (a0.take ((a2) : Int).toNat) := ⟨_, rfl⟩
              replace H : (Qv.l0 kj2 b6 d3 g5) = some r := by first | (rw [e7]; with_reducible exact H) | (have H2_ := (Option.bind_some _ _).symm.trans H; rw [e7]; with_reducible exact H2_) | (have H2_ := (Option.bind_some _ _).symm.trans H; with_reducible exact H2_) | with_reducible exact H | (rw [e7]; exact H) | exact H
              have f8 := Qa.mk e7; clear e7; have H' := Qa.mk H; clear H; obtain ⟨m1, d5, eo21⟩ := Kd.V_slice a4.out; subst eo21; obtain ⟨m2, d6, eo22⟩ := Kd.V_slice a3.out; subst eo22; have b7 : 0 ≤ ((ji9) : Int) := of_decide_eq_true Zx; have b8 : (ji9) < (a1.length : Int) := of_decide_eq_true Zx; obtain ⟨a8, g0, g2⟩ := Kd.at_int (Kd.V_reads' a4.out).2.2 (ji9) b7 b8
              cases g0; replace b7 := eq_true b7; replace b8 := eq_true b8; have b9 : 0 ≤ ((a2) : Int) := of_decide_eq_true Zx; have d0 : (a2) < (a0.length : Int) := of_decide_eq_true Zx; obtain ⟨b2, g1, g3⟩ := Kd.at_int (Kd.V_reads' a3.out).2.2 (a2) b9 d0
              cases g1; replace b9 := eq_true b9; replace d0 := eq_true d0; go_wp2_with (first | ((with_reducible refine Zd (N := 34) rfl ?_); (try (refine Xq (by rfl) ?_; dsimp only)); refine Kd.R_lit k37 _ 37 ?hg (N := 34) ?hd (xs := ([(⟨ji9, a2⟩ : S37)] : List (S37))) (inner := [.int .i64 ji9, .int .i64 a2]) (ok := fun _ => True) (okp := fun _ => True) ?hr ?hp (fun _ hk => hk) trivial (Below.refl _ _) (Nat.le_refl _) (by simp) ?_; (case hd => rfl); (case hg => rfl); (case hr => first | (go_simp; done) | (go_simp; rfl)); (case hp => exact (Yi.c2 (show Kd.M k37 _ _ _ (⟨ji9, a2⟩ : S37) [.int .i64 ji9, .int .i64 a2] from (Qir _ _ _ (⟨ji9, a2⟩ : S37) )) (Yi.none _ _))); intro g9 w23 ho24 hb hg_ hnew_; clear hg_ hnew_; (first | rw [← f6.out] at ho24 | (simp only [Int.reduceToNat] at ho24; rw [← f6.out] at ho24)); have n0_ := Qa.mk (Kd.V_elder' (vo_ a4.out) (Kd.R_base ho24) hb); have n1_ := Qa.mk (Kd.V_elder' (vo_ a3.out) (Kd.R_base ho24) hb); have n2_ := Qa.mk (Kd.R_elder' (ro_ a5.out) (Kd.R_base ho24) hb); have n3_ := Qa.mk (Kd.R_lower (Kd.R_new' (Kd.R_newM (M := fun k_ => (w.heap.size ≤ k_)) ho24 (Qo bw_) (fun k_ h_ => h_)) (Kd.R_lt (ro_ a5.out))) (Qo bw_)); have n4_ := Qa.mk (Qj bw_ hb); clear a4; clear a3; clear a5; clear HB; have a4 := n0_; have a3 := n1_; have a5 := n2_; have e8 := n3_; have HB := n4_; clear n0_ n1_ n2_ n3_ n4_; clear hb ho24; obtain ⟨d8, d9, eo26⟩ := Kd.R_slice a5.out; subst eo26) | ((with_reducible refine Xl (b := .append) (xs := #[.tmp 34, .tmp 35]) rfl ?_); (try (refine Xq (by rfl) ?_; dsimp only)); at_builtin; refine Kd.R_append_rows k37 (w0 := w) w.heap.size rfl (.tmp 34) (.tmp 35) 30 37 (.agg #[(.int .i64 0), (.int .i64 0)]) 16 rfl Try.underlying30 Qjz rfl (by decide) (by omega) g9 b1 a7 _ _ _ (fun k_ => (w.heap.size ≤ k_) ∧ some k_ ≠ (.slice d8 a7.length d9 : Value).ownBlock) (fun _ => False) rfl rfl ?aO ?aR (fun _ _ h => h) (fun _ h => h.elim) ?aF ?aB ?aS ?aL ?_; (case aR => repeat (first | exact (Kd.R_reads' a5.out).2.2 | (with_reducible refine Kd.C_alloc ?_ _) | (with_reducible refine Kd.C_drewN ?_ _) | (with_reducible refine Kd.C_drew ?_))); (case aB => exact bw_); (case aF => exact (fun k_ hk => ⟨(Nat.le_trans (Qo bw_) hk), Kd.fresh' (Kd.R_lt (ro_ a5.out)) k_ hk⟩)); (case aO => exact (ro_ (Kd.R_mono e8.out (fun _ hk => ⟨hk.1.1, hk.2⟩)))); (case aS => exact (Qo bw_)); (case aL => have := h3.out; omega); intro j5 w25 ho hb hg hat; rw [← h4.out] at ho; have n0_ := Qa.mk (Kd.V_afterv (ok := (fun k_ => ((P0_ k_ ∨ P1_ k_) ∨ w.heap.size ≤ k_) ∧ some k_ ≠ (.slice d8 a7.length d9 : Value).ownBlock)) (vo_ a4.out) hg hat); have n1_ := Qa.mk (Kd.V_afterv (ok := (fun k_ => ((P0_ k_ ∨ P1_ k_) ∨ w.heap.size ≤ k_) ∧ some k_ ≠ (.slice d8 a7.length d9 : Value).ownBlock)) (vo_ a3.out) hg hat); have n2_ := Qa.mk (Kd.R_after (ok := (fun k_ => (w.heap.size ≤ k_))) (ro_ a5.out) hg hat); have n3_ := Qa.mk (hb); have n4_ := Qa.mk (ho); clear a4; clear a3; clear a5; clear HB; clear e8; have a4 := n0_; have a3 := n1_; have a5 := n2_; have HB := n3_; have h5 := n4_; clear n0_ n1_ n2_ n3_ n4_; clear ho hb hg hat; have q27 : ((ji9) : Int) ≤ ((a1.length : Int) : Int) := of_decide_eq_true Zx; obtain ⟨i027, hi027, _, hsz27, _⟩ := info_parts Uy; have hroom27 : a1.length ≤ d5 := (Kd.V_reads' a4.out).2.1; have hC27 : Kd.F (Kd.int .i64) _ _ (some a8) a1.length a1 := (Kd.V_at (base := w.heap.size) a4.out).2.2; have hcut27 := Qbs (P := Try.prog) 22 3 .i64 Try.underlying22 hi027 (some a8) a1.length d5 (ji9) (of_decide_eq_true Zx) q27 hroom27; have hr27 := Kd.F_take (m := ((ji9) : Int).toNat) hC27 (by omega); have e0 : b6.length = ((ji9) : Int).toNat := (by rw [f7.out, List.length_take]; omega); rw [← f7.out] at hr27; rw [← e0] at hcut27; have h6 := Qa.mk (show Kd.V (Kd.int .i64) 3 _ w.heap.size _ (.slice (some a8) b6.length d5) b6 from Kd.V_mk (by omega) hr27); have i4 := Qa.mk (show b6.length ≤ d5 from by omega); clear hr27 hC27 hroom27 hi027 hsz27; have KY27 := Qa.mk e0; clear e0; replace q27 := eq_true q27; have q28 : ((a2) : Int) ≤ ((a0.length : Int) : Int) := of_decide_eq_true Zx; obtain ⟨i028, hi028, _, hsz28, _⟩ := info_parts Uy; have hroom28 : a0.length ≤ d6 := (Kd.V_reads' a3.out).2.1; have hC28 : Kd.F (Kd.int .i64) _ _ (some b2) a0.length a0 := (Kd.V_at (base := w.heap.size) a3.out).2.2; have hcut28 := Qbs (P := Try.prog) 22 3 .i64 Try.underlying22 hi028 (some b2) a0.length d6 (a2) (of_decide_eq_true Zx) q28 hroom28; have hr28 := Kd.F_take (m := ((a2) : Int).toNat) hC28 (by omega); have e1 : d3.length = ((a2) : Int).toNat := (by rw [f8.out, List.length_take]; omega); rw [← f8.out] at hr28; rw [← e1] at hcut28; have h7 := Qa.mk (show Kd.V (Kd.int .i64) 3 _ w.heap.size _ (.slice (some b2) d3.length d6) d3 from Kd.V_mk (by omega) hr28); have i5 := Qa.mk (show d3.length ≤ d6 from by omega); clear hr28 hC28 hroom28 hi028 hsz28; have KY28 := Qa.mk e1; clear e1; replace q28 := eq_true q28))
              repeat (go_quiet (fail); try go_wp2_with (first | ((with_reducible refine Zd (N := 34) rfl ?_); (try (refine Xq (by rfl) ?_; dsimp only)); refine Kd.R_lit k37 _ 37 ?hg (N := 34) ?hd (xs := ([(⟨ji9, a2⟩ : S37)] : List (S37))) (inner := [.int .i64 ji9, .int .i64 a2]) (ok := fun _ => True) (okp := fun _ => True) ?hr ?hp (fun _ hk => hk) trivial (Below.refl _ _) (Nat.le_refl _) (by simp) ?_; (case hd => rfl); (case hg => rfl); (case hr => first | (go_simp; done) | (go_simp; rfl)); (case hp => exact (Yi.c2 (show Kd.M k37 _ _ _ (⟨ji9, a2⟩ : S37) [.int .i64 ji9, .int .i64 a2] from (Qir _ _ _ (⟨ji9, a2⟩ : S37) )) (Yi.none _ _))); intro g9 w23 ho24 hb hg_ hnew_; clear hg_ hnew_; (first | rw [← f6.out] at ho24 | (simp only [Int.reduceToNat] at ho24; rw [← f6.out] at ho24)); have n0_ := Qa.mk (Kd.V_elder' (vo_ a4.out) (Kd.R_base ho24) hb); have n1_ := Qa.mk (Kd.V_elder' (vo_ a3.out) (Kd.R_base ho24) hb); have n2_ := Qa.mk (Kd.R_elder' (ro_ a5.out) (Kd.R_base ho24) hb); have n3_ := Qa.mk (Kd.R_lower (Kd.R_new' (Kd.R_newM (M := fun k_ => (w.heap.size ≤ k_)) ho24 (Qo bw_) (fun k_ h_ => h_)) (Kd.R_lt (ro_ a5.out))) (Qo bw_)); have n4_ := Qa.mk (Qj bw_ hb); clear a4; clear a3; clear a5; clear HB; have a4 := n0_; have a3 := n1_; have a5 := n2_; have e8 := n3_; have HB := n4_; clear n0_ n1_ n2_ n3_ n4_; clear hb ho24; obtain ⟨d8, d9, eo26⟩ := Kd.R_slice a5.out; subst eo26) | ((with_reducible refine Xl (b := .append) (xs := #[.tmp 34, .tmp 35]) rfl ?_); (try (refine Xq (by rfl) ?_; dsimp only)); at_builtin; refine Kd.R_append_rows k37 (w0 := w) w.heap.size rfl (.tmp 34) (.tmp 35) 30 37 (.agg #[(.int .i64 0), (.int .i64 0)]) 16 rfl Try.underlying30 Qjz rfl (by decide) (by omega) g9 b1 a7 _ _ _ (fun k_ => (w.heap.size ≤ k_) ∧ some k_ ≠ (.slice d8 a7.length d9 : Value).ownBlock) (fun _ => False) rfl rfl ?aO ?aR (fun _ _ h => h) (fun _ h => h.elim) ?aF ?aB ?aS ?aL ?_; (case aR => repeat (first | exact (Kd.R_reads' a5.out).2.2 | (with_reducible refine Kd.C_alloc ?_ _) | (with_reducible refine Kd.C_drewN ?_ _) | (with_reducible refine Kd.C_drew ?_))); (case aB => exact bw_); (case aF => exact (fun k_ hk => ⟨(Nat.le_trans (Qo bw_) hk), Kd.fresh' (Kd.R_lt (ro_ a5.out)) k_ hk⟩)); (case aO => exact (ro_ (Kd.R_mono e8.out (fun _ hk => ⟨hk.1.1, hk.2⟩)))); (case aS => exact (Qo bw_)); (case aL => have := h3.out; omega); intro j5 w25 ho hb hg hat; rw [← h4.out] at ho; have n0_ := Qa.mk (Kd.V_afterv (ok := (fun k_ => ((P0_ k_ ∨ P1_ k_) ∨ w.heap.size ≤ k_) ∧ some k_ ≠ (.slice d8 a7.length d9 : Value).ownBlock)) (vo_ a4.out) hg hat); have n1_ := Qa.mk (Kd.V_afterv (ok := (fun k_ => ((P0_ k_ ∨ P1_ k_) ∨ w.heap.size ≤ k_) ∧ some k_ ≠ (.slice d8 a7.length d9 : Value).ownBlock)) (vo_ a3.out) hg hat); have n2_ := Qa.mk (Kd.R_after (ok := (fun k_ => (w.heap.size ≤ k_))) (ro_ a5.out) hg hat); have n3_ := Qa.mk (hb); have n4_ := Qa.mk (ho); clear a4; clear a3; clear a5; clear HB; clear e8; have a4 := n0_; have a3 := n1_; have a5 := n2_; have HB := n3_; have h5 := n4_; clear n0_ n1_ n2_ n3_ n4_; clear ho hb hg hat; have q27 : ((ji9) : Int) ≤ ((a1.length : Int) : Int) := of_decide_eq_true Zx; obtain ⟨i027, hi027, _, hsz27, _⟩ := info_parts Uy; have hroom27 : a1.length ≤ d5 := (Kd.V_reads' a4.out).2.1; have hC27 : Kd.F (Kd.int .i64) _ _ (some a8) a1.length a1 := (Kd.V_at (base := w.heap.size) a4.out).2.2; have hcut27 := Qbs (P := Try.prog) 22 3 .i64 Try.underlying22 hi027 (some a8) a1.length d5 (ji9) (of_decide_eq_true Zx) q27 hroom27; have hr27 := Kd.F_take (m := ((ji9) : Int).toNat) hC27 (by omega); have e0 : b6.length = ((ji9) : Int).toNat := (by rw [f7.out, List.length_take]; omega); rw [← f7.out] at hr27; rw [← e0] at hcut27; have h6 := Qa.mk (show Kd.V (Kd.int .i64) 3 _ w.heap.size _ (.slice (some a8) b6.length d5) b6 from Kd.V_mk (by omega) hr27); have i4 := Qa.mk (show b6.length ≤ d5 from by omega); clear hr27 hC27 hroom27 hi027 hsz27; have KY27 := Qa.mk e0; clear e0; replace q27 := eq_true q27; have q28 : ((a2) : Int) ≤ ((a0.length : Int) : Int) := of_decide_eq_true Zx; obtain ⟨i028, hi028, _, hsz28, _⟩ := info_parts Uy; have hroom28 : a0.length ≤ d6 := (Kd.V_reads' a3.out).2.1; have hC28 : Kd.F (Kd.int .i64) _ _ (some b2) a0.length a0 := (Kd.V_at (base := w.heap.size) a3.out).2.2; have hcut28 := Qbs (P := Try.prog) 22 3 .i64 Try.underlying22 hi028 (some b2) a0.length d6 (a2) (of_decide_eq_true Zx) q28 hroom28; have hr28 := Kd.F_take (m := ((a2) : Int).toNat) hC28 (by omega); have e1 : d3.length = ((a2) : Int).toNat := (by rw [f8.out, List.length_take]; omega); rw [← f8.out] at hr28; rw [← e1] at hcut28; have h7 := Qa.mk (show Kd.V (Kd.int .i64) 3 _ w.heap.size _ (.slice (some b2) d3.length d6) d3 from Kd.V_mk (by omega) hr28); have i5 := Qa.mk (show d3.length ≤ d6 from by omega); clear hr28 hC28 hroom28 hi028 hsz28; have KY28 := Qa.mk e1; clear e1; replace q28 := eq_true q28)))
              go_roundg kj2
              case measure => have := HK1.out; have := HJ2.out; omega
              case rel => exact ⟨(b6), (d3), (g5), H', ⟨by have := HK1.out; have := HJ2.out; omega⟩, ⟨by (with_reducible repeat (first | apply Kd.V_alloc | apply Kd.V_drewN | apply Kd.V_drew)); exact Kd.V_mono h6.out (fun _ hk => ⟨hk.1.1, hk.2⟩)⟩, ⟨by (with_reducible repeat (first | apply Kd.V_alloc | apply Kd.V_drewN | apply Kd.V_drew)); exact Kd.V_mono h7.out (fun _ hk => ⟨hk.1.1, hk.2⟩)⟩, ⟨by (with_reducible repeat (first | apply Kd.R_alloc | apply Kd.R_drewN | apply Kd.R_drew)); exact Kd.R_mono h5.out (fun _ hk => hk.1)⟩, ⟨bw_⟩⟩
             ·rw [if_neg c20] at H
              exact absurd H (by simp)
            ·rw [if_neg c18] at H
             exact absurd H (by simp)
           ·rw [if_neg c16] at H
            exact absurd H (by simp)
          ·rw [if_neg c15] at H
           have i2 : ((rd a1 (ji9)) == (rd a0 (a2))) = false := beq_eq_false_iff_ne.mpr c15; have i3 : ((rd a1 (ji9)) != (rd a0 (a2))) = true := bne_iff_ne.mpr c15; have l3 := eq_true (of_decide_eq_true Zx : 0 ≤ (ji9))
           by_cases c30 : (ji9) ≤ (a1.length : Int)
           ·rw [if_pos c30] at H
            have l4 := eq_true c30; have l5 : decide ((ji9) ≤ (a1.length : Int)) = true := decide_eq_true c30; clear c30; obtain ⟨b3, e9⟩ : ∃ y_ : List Int, y_ = (a1.take ((ji9) : Int).toNat) := ⟨_, rfl⟩
            replace H : ((Qm.f kj2 b3 a0).bind fun b0 => ((Qm.f kj2 a1 a0).bind fun a9 => (if b0 = a9 then (Qv.l0 kj2 (a1.take ((ji9) : Int).toNat) a0 a7) else (if (a2) ≤ (a0.length : Int) then (Qv.l0 kj2 a1 (a0.take ((a2) : Int).toNat) a7) else (none))))) = some r := by first | (rw [e9]; with_reducible exact H) | (have H2_ := (Option.bind_some _ _).symm.trans H; rw [e9]; with_reducible exact H2_) | (have H2_ := (Option.bind_some _ _).symm.trans H; with_reducible exact H2_) | with_reducible exact H | (rw [e9]; exact H) | exact H
            have f0 := Qa.mk e9; clear e9; replace H := Option.bind_eq_some_iff.mp H; obtain ⟨b0, i0, H⟩ := H; replace H : ((Qm.f kj2 a1 a0).bind fun a9 => (if b0 = a9 then (Qv.l0 kj2 (a1.take ((ji9) : Int).toNat) a0 a7) else (if (a2) ≤ (a0.length : Int) then (Qv.l0 kj2 a1 (a0.take ((a2) : Int).toNat) a7) else (none)))) = some r := H; have A31 := Qa.mk i0; clear i0; replace H := Option.bind_eq_some_iff.mp H; obtain ⟨a9, i1, H⟩ := H; replace H : (if b0 = a9 then (Qv.l0 kj2 (a1.take ((ji9) : Int).toNat) a0 a7) else (if (a2) ≤ (a0.length : Int) then (Qv.l0 kj2 a1 (a0.take ((a2) : Int).toNat) a7) else (none))) = some r := H; have A32 := Qa.mk i1; clear i1
            by_cases c33 : b0 = a9
            ·rw [if_pos c33] at H
             have i6 : (b0 == a9) = true := beq_iff_eq.mpr c33; have i7 : (b0 != a9) = false := bne_eq_false_iff_eq.mpr c33; clear c33; have l6 := eq_true (of_decide_eq_true Zx : 0 ≤ (ji9)); have l7 := eq_true (of_decide_eq_true Zx : (ji9) ≤ (a1.length : Int)); obtain ⟨b4, f1⟩ : ∃ y_ : List Int, y_ = (a1.take ((ji9) : Int).toNat) := ⟨_, rfl⟩
             replace H : (Qv.l0 kj2 b4 a0 a7) = some r := by first | (rw [f1]; with_reducible exact H) | (have H2_ := (Option.bind_some _ _).symm.trans H; rw [f1]; with_reducible exact H2_) | (have H2_ := (Option.bind_some _ _).symm.trans H; with_reducible exact H2_) | with_reducible exact H | (rw [f1]; exact H) | exact H
             have f2 := Qa.mk f1; clear f1; have H' := Qa.mk H; clear H; obtain ⟨m3, b5, eo36⟩ := Kd.V_slice a4.out; subst eo36; obtain ⟨m4, m5, eo37⟩ := Kd.V_slice a3.out; subst eo37; have b7 : 0 ≤ ((ji9) : Int) := of_decide_eq_true Zx; have b8 : (ji9) < (a1.length : Int) := of_decide_eq_true Zx; obtain ⟨a8, g0, g2⟩ := Kd.at_int (Kd.V_reads' a4.out).2.2 (ji9) b7 b8
             cases g0; replace b7 := eq_true b7; replace b8 := eq_true b8; have b9 : 0 ≤ ((a2) : Int) := of_decide_eq_true Zx; have d0 : (a2) < (a0.length : Int) := of_decide_eq_true Zx; obtain ⟨b2, g1, g3⟩ := Kd.at_int (Kd.V_reads' a3.out).2.2 (a2) b9 d0
             cases g1; replace b9 := eq_true b9; replace d0 := eq_true d0; have q38 : ((ji9) : Int) ≤ ((a1.length : Int) : Int) := of_decide_eq_true Zx; obtain ⟨i038, hi038, _, hsz38, _⟩ := info_parts Uy; have hroom38 : a1.length ≤ b5 := (Kd.V_reads' a4.out).2.1; have hC38 : Kd.F (Kd.int .i64) _ _ (some a8) a1.length a1 := (Kd.V_at (base := w.heap.size) a4.out).2.2; have hcut38 := Qbs (P := Try.prog) 22 3 .i64 Try.underlying22 hi038 (some a8) a1.length b5 (ji9) (of_decide_eq_true Zx) q38 hroom38; have hr38 := Kd.F_take (m := ((ji9) : Int).toNat) hC38 (by omega); have h0 : b3.length = ((ji9) : Int).toNat := (by rw [f0.out, List.length_take]; omega)
             rw [← f0.out] at hr38
             rw [← h0] at hcut38
             have a6 := Qa.mk (show Kd.V (Kd.int .i64) 3 _ w.heap.size _ (.slice (some a8) b3.length b5) b3 from Kd.V_mk (by omega) hr38); have i8 := Qa.mk (show b3.length ≤ b5 from by omega); clear hr38 hC38 hroom38 hi038 hsz38; have KY38 := Qa.mk h0; clear h0; replace q38 := eq_true q38; go_wp2_with (first | (go_at_call 85; (with_reducible refine (Qm.calls kj2 _ _ b3 _ _ a0 b0 _ ?side1 ?side2 ?side3 ?side4 A31.out).mono ?_); (case side1 => repeat (first | exact (Kd.V_reads' a6.out).2.2 | (with_reducible refine Kd.C_alloc ?_ _) | (with_reducible refine Kd.C_drewN ?_ _) | (with_reducible refine Kd.C_drew ?_))); (case side2 => exact (Kd.V_reads' a6.out).2.1); (case side3 => repeat (first | exact (Kd.V_reads' a3.out).2.2 | (with_reducible refine Kd.C_alloc ?_ _) | (with_reducible refine Kd.C_drewN ?_ _) | (with_reducible refine Kd.C_drew ?_))); (case side4 => exact (Kd.V_reads' a3.out).2.1); rintro e w39 ⟨rfl, hb⟩; have n0_ := Qa.mk (Kd.V_below (vo_ a4.out) hb); have n1_ := Qa.mk (Kd.V_below (vo_ a3.out) hb); have n2_ := Qa.mk (Kd.R_below (ro_ a5.out) hb); have n3_ := Qa.mk (Kd.V_below (vo_ a6.out) hb); have n4_ := Qa.mk (Qj bw_ hb); clear a4; clear a3; clear a5; clear a6; clear HB; have a4 := n0_; have a3 := n1_; have a5 := n2_; have a6 := n3_; have HB := n4_; clear n0_ n1_ n2_ n3_ n4_; (try clear hb); (try clear hb2); (try clear hk); (try clear hi)) | (go_at_call 85; (with_reducible refine (Qm.calls kj2 _ _ a1 _ _ a0 a9 _ ?side1 ?side2 ?side3 ?side4 A32.out).mono ?_); (case side1 => repeat (first | exact (Kd.V_reads' a4.out).2.2 | (with_reducible refine Kd.C_alloc ?_ _) | (with_reducible refine Kd.C_drewN ?_ _) | (with_reducible refine Kd.C_drew ?_))); (case side2 => exact (Kd.V_reads' a4.out).2.1); (case side3 => repeat (first | exact (Kd.V_reads' a3.out).2.2 | (with_reducible refine Kd.C_alloc ?_ _) | (with_reducible refine Kd.C_drewN ?_ _) | (with_reducible refine Kd.C_drew ?_))); (case side4 => exact (Kd.V_reads' a3.out).2.1); rintro e w40 ⟨rfl, hb⟩; have n0_ := Qa.mk (Kd.V_below (vo_ a4.out) hb); have n1_ := Qa.mk (Kd.V_below (vo_ a3.out) hb); have n2_ := Qa.mk (Kd.R_below (ro_ a5.out) hb); have n3_ := Qa.mk (Kd.V_below (vo_ a6.out) hb); have n4_ := Qa.mk (Qj bw_ hb); clear a4; clear a3; clear a5; clear a6; clear HB; have a4 := n0_; have a3 := n1_; have a5 := n2_; have a6 := n3_; have HB := n4_; clear n0_ n1_ n2_ n3_ n4_; (try clear hb); (try clear hb2); (try clear hk); (try clear hi); have q41 : ((ji9) : Int) ≤ ((a1.length : Int) : Int) := of_decide_eq_true Zx; obtain ⟨i041, hi041, _, hsz41, _⟩ := info_parts Uy; have hroom41 : a1.length ≤ b5 := (Kd.V_reads' a4.out).2.1; have hC41 : Kd.F (Kd.int .i64) _ _ (some a8) a1.length a1 := (Kd.V_at (base := w.heap.size) a4.out).2.2; have hcut41 := Qbs (P := Try.prog) 22 3 .i64 Try.underlying22 hi041 (some a8) a1.length b5 (ji9) (of_decide_eq_true Zx) q41 hroom41; have hr41 := Kd.F_take (m := ((ji9) : Int).toNat) hC41 (by omega); have e2 : b4.length = ((ji9) : Int).toNat := (by rw [f2.out, List.length_take]; omega); rw [← f2.out] at hr41; rw [← e2] at hcut41; have g6 := Qa.mk (show Kd.V (Kd.int .i64) 3 _ w.heap.size _ (.slice (some a8) b4.length b5) b4 from Kd.V_mk (by omega) hr41); have i9 := Qa.mk (show b4.length ≤ b5 from by omega); clear hr41 hC41 hroom41 hi041 hsz41; have KY41 := Qa.mk e2; clear e2; replace q41 := eq_true q41))
             repeat (go_quiet (fail); try go_wp2_with (first | (go_at_call 85; (with_reducible refine (Qm.calls kj2 _ _ b3 _ _ a0 b0 _ ?side1 ?side2 ?side3 ?side4 A31.out).mono ?_); (case side1 => repeat (first | exact (Kd.V_reads' a6.out).2.2 | (with_reducible refine Kd.C_alloc ?_ _) | (with_reducible refine Kd.C_drewN ?_ _) | (with_reducible refine Kd.C_drew ?_))); (case side2 => exact (Kd.V_reads' a6.out).2.1); (case side3 => repeat (first | exact (Kd.V_reads' a3.out).2.2 | (with_reducible refine Kd.C_alloc ?_ _) | (with_reducible refine Kd.C_drewN ?_ _) | (with_reducible refine Kd.C_drew ?_))); (case side4 => exact (Kd.V_reads' a3.out).2.1); rintro e w39 ⟨rfl, hb⟩; have n0_ := Qa.mk (Kd.V_below (vo_ a4.out) hb); have n1_ := Qa.mk (Kd.V_below (vo_ a3.out) hb); have n2_ := Qa.mk (Kd.R_below (ro_ a5.out) hb); have n3_ := Qa.mk (Kd.V_below (vo_ a6.out) hb); have n4_ := Qa.mk (Qj bw_ hb); clear a4; clear a3; clear a5; clear a6; clear HB; have a4 := n0_; have a3 := n1_; have a5 := n2_; have a6 := n3_; have HB := n4_; clear n0_ n1_ n2_ n3_ n4_; (try clear hb); (try clear hb2); (try clear hk); (try clear hi)) | (go_at_call 85; (with_reducible refine (Qm.calls kj2 _ _ a1 _ _ a0 a9 _ ?side1 ?side2 ?side3 ?side4 A32.out).mono ?_); (case side1 => repeat (first | exact (Kd.V_reads' a4.out).2.2 | (with_reducible refine Kd.C_alloc ?_ _) | (with_reducible refine Kd.C_drewN ?_ _) | (with_reducible refine Kd.C_drew ?_))); (case side2 => exact (Kd.V_reads' a4.out).2.1); (case side3 => repeat (first | exact (Kd.V_reads' a3.out).2.2 | (with_reducible refine Kd.C_alloc ?_ _) | (with_reducible refine Kd.C_drewN ?_ _) | (with_reducible refine Kd.C_drew ?_))); (case side4 => exact (Kd.V_reads' a3.out).2.1); rintro e w40 ⟨rfl, hb⟩; have n0_ := Qa.mk (Kd.V_below (vo_ a4.out) hb); have n1_ := Qa.mk (Kd.V_below (vo_ a3.out) hb); have n2_ := Qa.mk (Kd.R_below (ro_ a5.out) hb); have n3_ := Qa.mk (Kd.V_below (vo_ a6.out) hb); have n4_ := Qa.mk (Qj bw_ hb); clear a4; clear a3; clear a5; clear a6; clear HB; have a4 := n0_; have a3 := n1_; have a5 := n2_; have a6 := n3_; have HB := n4_; clear n0_ n1_ n2_ n3_ n4_; (try clear hb); (try clear hb2); (try clear hk); (try clear hi); have q41 : ((ji9) : Int) ≤ ((a1.length : Int) : Int) := of_decide_eq_true Zx; obtain ⟨i041, hi041, _, hsz41, _⟩ := info_parts Uy; have hroom41 : a1.length ≤ b5 := (Kd.V_reads' a4.out).2.1; have hC41 : Kd.F (Kd.int .i64) _ _ (some a8) a1.length a1 := (Kd.V_at (base := w.heap.size) a4.out).2.2; have hcut41 := Qbs (P := Try.prog) 22 3 .i64 Try.underlying22 hi041 (some a8) a1.length b5 (ji9) (of_decide_eq_true Zx) q41 hroom41; have hr41 := Kd.F_take (m := ((ji9) : Int).toNat) hC41 (by omega); have e2 : b4.length = ((ji9) : Int).toNat := (by rw [f2.out, List.length_take]; omega); rw [← f2.out] at hr41; rw [← e2] at hcut41; have g6 := Qa.mk (show Kd.V (Kd.int .i64) 3 _ w.heap.size _ (.slice (some a8) b4.length b5) b4 from Kd.V_mk (by omega) hr41); have i9 := Qa.mk (show b4.length ≤ b5 from by omega); clear hr41 hC41 hroom41 hi041 hsz41; have KY41 := Qa.mk e2; clear e2; replace q41 := eq_true q41)))
             go_roundg kj2
             case measure => have := HK1.out; have := HJ2.out; omega
             case rel => exact ⟨(b4), (a0), (a7), H', ⟨by have := HK1.out; have := HJ2.out; omega⟩, ⟨by (with_reducible repeat (first | apply Kd.V_alloc | apply Kd.V_drewN | apply Kd.V_drew)); first | exact g6.out | (have e_ : b3 = b4 := (by rw [f0.out, f2.out]); rw [show b3.length = b4.length from congrArg List.length e_]; exact g6.out)⟩, ⟨vo_ a3.out⟩, ⟨ro_ a5.out⟩, ⟨bw_⟩⟩
            ·rw [if_neg c33] at H
             have i6 : (b0 == a9) = false := beq_eq_false_iff_ne.mpr c33; have i7 : (b0 != a9) = true := bne_iff_ne.mpr c33; have l8 := eq_true (of_decide_eq_true Zx : 0 ≤ (a2))
             by_cases c43 : (a2) ≤ (a0.length : Int)
             ·rw [if_pos c43] at H
              have l9 := eq_true c43; have m0 : decide ((a2) ≤ (a0.length : Int)) = true := decide_eq_true c43; clear c43; obtain ⟨d4, f3⟩ : ∃ y_ : List Int, y_ = (a0.take ((a2) : Int).toNat) := ⟨_, rfl⟩
              replace H : (Qv.l0 kj2 a1 d4 a7) = some r := by first | (rw [f3]; with_reducible exact H) | (have H2_ := (Option.bind_some _ _).symm.trans H; rw [f3]; with_reducible exact H2_) | (have H2_ := (Option.bind_some _ _).symm.trans H; with_reducible exact H2_) | with_reducible exact H | (rw [f3]; exact H) | exact H
              have f9 := Qa.mk f3; clear f3; have H' := Qa.mk H; clear H; obtain ⟨m6, g7, eo44⟩ := Kd.V_slice a4.out; subst eo44; obtain ⟨m7, d7, eo45⟩ := Kd.V_slice a3.out; subst eo45; have b7 : 0 ≤ ((ji9) : Int) := of_decide_eq_true Zx; have b8 : (ji9) < (a1.length : Int) := of_decide_eq_true Zx; obtain ⟨a8, g0, g2⟩ := Kd.at_int (Kd.V_reads' a4.out).2.2 (ji9) b7 b8
              cases g0; replace b7 := eq_true b7; replace b8 := eq_true b8; have b9 : 0 ≤ ((a2) : Int) := of_decide_eq_true Zx; have d0 : (a2) < (a0.length : Int) := of_decide_eq_true Zx; obtain ⟨b2, g1, g3⟩ := Kd.at_int (Kd.V_reads' a3.out).2.2 (a2) b9 d0
              cases g1; replace b9 := eq_true b9; replace d0 := eq_true d0; have q46 : ((ji9) : Int) ≤ ((a1.length : Int) : Int) := of_decide_eq_true Zx; obtain ⟨i046, hi046, _, hsz46, _⟩ := info_parts Uy; have hroom46 : a1.length ≤ g7 := (Kd.V_reads' a4.out).2.1; have hC46 : Kd.F (Kd.int .i64) _ _ (some a8) a1.length a1 := (Kd.V_at (base := w.heap.size) a4.out).2.2; have hcut46 := Qbs (P := Try.prog) 22 3 .i64 Try.underlying22 hi046 (some a8) a1.length g7 (ji9) (of_decide_eq_true Zx) q46 hroom46; have hr46 := Kd.F_take (m := ((ji9) : Int).toNat) hC46 (by omega); have h2 : b3.length = ((ji9) : Int).toNat := (by rw [f0.out, List.length_take]; omega)
              rw [← f0.out] at hr46
              rw [← h2] at hcut46
              have a6 := Qa.mk (show Kd.V (Kd.int .i64) 3 _ w.heap.size _ (.slice (some a8) b3.length g7) b3 from Kd.V_mk (by omega) hr46); have i8 := Qa.mk (show b3.length ≤ g7 from by omega); clear hr46 hC46 hroom46 hi046 hsz46; have KY46 := Qa.mk h2; clear h2; replace q46 := eq_true q46; go_wp2_with (first | (go_at_call 85; (with_reducible refine (Qm.calls kj2 _ _ b3 _ _ a0 b0 _ ?side1 ?side2 ?side3 ?side4 A31.out).mono ?_); (case side1 => repeat (first | exact (Kd.V_reads' a6.out).2.2 | (with_reducible refine Kd.C_alloc ?_ _) | (with_reducible refine Kd.C_drewN ?_ _) | (with_reducible refine Kd.C_drew ?_))); (case side2 => exact (Kd.V_reads' a6.out).2.1); (case side3 => repeat (first | exact (Kd.V_reads' a3.out).2.2 | (with_reducible refine Kd.C_alloc ?_ _) | (with_reducible refine Kd.C_drewN ?_ _) | (with_reducible refine Kd.C_drew ?_))); (case side4 => exact (Kd.V_reads' a3.out).2.1); rintro e w47 ⟨rfl, hb⟩; have n0_ := Qa.mk (Kd.V_below (vo_ a4.out) hb); have n1_ := Qa.mk (Kd.V_below (vo_ a3.out) hb); have n2_ := Qa.mk (Kd.R_below (ro_ a5.out) hb); have n3_ := Qa.mk (Kd.V_below (vo_ a6.out) hb); have n4_ := Qa.mk (Qj bw_ hb); clear a4; clear a3; clear a5; clear a6; clear HB; have a4 := n0_; have a3 := n1_; have a5 := n2_; have a6 := n3_; have HB := n4_; clear n0_ n1_ n2_ n3_ n4_; (try clear hb); (try clear hb2); (try clear hk); (try clear hi)) | (go_at_call 85; (with_reducible refine (Qm.calls kj2 _ _ a1 _ _ a0 a9 _ ?side1 ?side2 ?side3 ?side4 A32.out).mono ?_); (case side1 => repeat (first | exact (Kd.V_reads' a4.out).2.2 | (with_reducible refine Kd.C_alloc ?_ _) | (with_reducible refine Kd.C_drewN ?_ _) | (with_reducible refine Kd.C_drew ?_))); (case side2 => exact (Kd.V_reads' a4.out).2.1); (case side3 => repeat (first | exact (Kd.V_reads' a3.out).2.2 | (with_reducible refine Kd.C_alloc ?_ _) | (with_reducible refine Kd.C_drewN ?_ _) | (with_reducible refine Kd.C_drew ?_))); (case side4 => exact (Kd.V_reads' a3.out).2.1); rintro e w48 ⟨rfl, hb⟩; have n0_ := Qa.mk (Kd.V_below (vo_ a4.out) hb); have n1_ := Qa.mk (Kd.V_below (vo_ a3.out) hb); have n2_ := Qa.mk (Kd.R_below (ro_ a5.out) hb); have n3_ := Qa.mk (Kd.V_below (vo_ a6.out) hb); have n4_ := Qa.mk (Qj bw_ hb); clear a4; clear a3; clear a5; clear a6; clear HB; have a4 := n0_; have a3 := n1_; have a5 := n2_; have a6 := n3_; have HB := n4_; clear n0_ n1_ n2_ n3_ n4_; (try clear hb); (try clear hb2); (try clear hk); (try clear hi); have q49 : ((a2) : Int) ≤ ((a0.length : Int) : Int) := of_decide_eq_true Zx; obtain ⟨i049, hi049, _, hsz49, _⟩ := info_parts Uy; have hroom49 : a0.length ≤ d7 := (Kd.V_reads' a3.out).2.1; have hC49 : Kd.F (Kd.int .i64) _ _ (some b2) a0.length a0 := (Kd.V_at (base := w.heap.size) a3.out).2.2; have hcut49 := Qbs (P := Try.prog) 22 3 .i64 Try.underlying22 hi049 (some b2) a0.length d7 (a2) (of_decide_eq_true Zx) q49 hroom49; have hr49 := Kd.F_take (m := ((a2) : Int).toNat) hC49 (by omega); have e3 : d4.length = ((a2) : Int).toNat := (by rw [f9.out, List.length_take]; omega); rw [← f9.out] at hr49; rw [← e3] at hcut49; have h8 := Qa.mk (show Kd.V (Kd.int .i64) 3 _ w.heap.size _ (.slice (some b2) d4.length d7) d4 from Kd.V_mk (by omega) hr49); have j3 := Qa.mk (show d4.length ≤ d7 from by omega); clear hr49 hC49 hroom49 hi049 hsz49; have KY49 := Qa.mk e3; clear e3; replace q49 := eq_true q49))
              repeat (go_quiet (fail); try go_wp2_with (first | (go_at_call 85; (with_reducible refine (Qm.calls kj2 _ _ b3 _ _ a0 b0 _ ?side1 ?side2 ?side3 ?side4 A31.out).mono ?_); (case side1 => repeat (first | exact (Kd.V_reads' a6.out).2.2 | (with_reducible refine Kd.C_alloc ?_ _) | (with_reducible refine Kd.C_drewN ?_ _) | (with_reducible refine Kd.C_drew ?_))); (case side2 => exact (Kd.V_reads' a6.out).2.1); (case side3 => repeat (first | exact (Kd.V_reads' a3.out).2.2 | (with_reducible refine Kd.C_alloc ?_ _) | (with_reducible refine Kd.C_drewN ?_ _) | (with_reducible refine Kd.C_drew ?_))); (case side4 => exact (Kd.V_reads' a3.out).2.1); rintro e w47 ⟨rfl, hb⟩; have n0_ := Qa.mk (Kd.V_below (vo_ a4.out) hb); have n1_ := Qa.mk (Kd.V_below (vo_ a3.out) hb); have n2_ := Qa.mk (Kd.R_below (ro_ a5.out) hb); have n3_ := Qa.mk (Kd.V_below (vo_ a6.out) hb); have n4_ := Qa.mk (Qj bw_ hb); clear a4; clear a3; clear a5; clear a6; clear HB; have a4 := n0_; have a3 := n1_; have a5 := n2_; have a6 := n3_; have HB := n4_; clear n0_ n1_ n2_ n3_ n4_; (try clear hb); (try clear hb2); (try clear hk); (try clear hi)) | (go_at_call 85; (with_reducible refine (Qm.calls kj2 _ _ a1 _ _ a0 a9 _ ?side1 ?side2 ?side3 ?side4 A32.out).mono ?_); (case side1 => repeat (first | exact (Kd.V_reads' a4.out).2.2 | (with_reducible refine Kd.C_alloc ?_ _) | (with_reducible refine Kd.C_drewN ?_ _) | (with_reducible refine Kd.C_drew ?_))); (case side2 => exact (Kd.V_reads' a4.out).2.1); (case side3 => repeat (first | exact (Kd.V_reads' a3.out).2.2 | (with_reducible refine Kd.C_alloc ?_ _) | (with_reducible refine Kd.C_drewN ?_ _) | (with_reducible refine Kd.C_drew ?_))); (case side4 => exact (Kd.V_reads' a3.out).2.1); rintro e w48 ⟨rfl, hb⟩; have n0_ := Qa.mk (Kd.V_below (vo_ a4.out) hb); have n1_ := Qa.mk (Kd.V_below (vo_ a3.out) hb); have n2_ := Qa.mk (Kd.R_below (ro_ a5.out) hb); have n3_ := Qa.mk (Kd.V_below (vo_ a6.out) hb); have n4_ := Qa.mk (Qj bw_ hb); clear a4; clear a3; clear a5; clear a6; clear HB; have a4 := n0_; have a3 := n1_; have a5 := n2_; have a6 := n3_; have HB := n4_; clear n0_ n1_ n2_ n3_ n4_; (try clear hb); (try clear hb2); (try clear hk); (try clear hi); have q49 : ((a2) : Int) ≤ ((a0.length : Int) : Int) := of_decide_eq_true Zx; obtain ⟨i049, hi049, _, hsz49, _⟩ := info_parts Uy; have hroom49 : a0.length ≤ d7 := (Kd.V_reads' a3.out).2.1; have hC49 : Kd.F (Kd.int .i64) _ _ (some b2) a0.length a0 := (Kd.V_at (base := w.heap.size) a3.out).2.2; have hcut49 := Qbs (P := Try.prog) 22 3 .i64 Try.underlying22 hi049 (some b2) a0.length d7 (a2) (of_decide_eq_true Zx) q49 hroom49; have hr49 := Kd.F_take (m := ((a2) : Int).toNat) hC49 (by omega); have e3 : d4.length = ((a2) : Int).toNat := (by rw [f9.out, List.length_take]; omega); rw [← f9.out] at hr49; rw [← e3] at hcut49; have h8 := Qa.mk (show Kd.V (Kd.int .i64) 3 _ w.heap.size _ (.slice (some b2) d4.length d7) d4 from Kd.V_mk (by omega) hr49); have j3 := Qa.mk (show d4.length ≤ d7 from by omega); clear hr49 hC49 hroom49 hi049 hsz49; have KY49 := Qa.mk e3; clear e3; replace q49 := eq_true q49)))
              go_roundg kj2
              case measure => have := HK1.out; have := HJ2.out; omega
              case rel => exact ⟨(a1), (d4), (a7), H', ⟨by have := HK1.out; have := HJ2.out; omega⟩, ⟨vo_ a4.out⟩, ⟨vo_ h8.out⟩, ⟨ro_ a5.out⟩, ⟨bw_⟩⟩
             ·rw [if_neg c43] at H
              exact absurd H (by simp)
           ·rw [if_neg c30] at H
            exact absurd H (by simp)
         ·rw [if_neg c14] at H
          exact absurd H (by simp)
        ·rw [if_neg c13] at H
         exact absurd H (by simp)
       ·rw [if_neg c11] at H
        exact absurd H (by simp)
      ·rw [if_neg c10] at H
       exact absurd H (by simp)
     ·replace c8 := Bool.eq_false_iff.mpr c8
      subst c8
      have H1 : (some a7) = some r := by rw [if_neg (show ¬ (false = true) by decide)] at H; exact H
      clear H; have H := H1; clear H1; obtain rfl := Option.some.inj H
      go_wp2
      repeat (go_quiet (fail); try go_wp2)
      go_ret; exact ⟨_, by first | rfl | (simp [Qt, Qu] <;> rfl) | (simp [*, Qt, Qu] <;> rfl), ro_ a5.out, bw_⟩
def Zi.l0 : Nat → ByteArray → Int → Option (Bool)
 | 0, _, _ => none
 | k + 1, x0, x3 => if x3 < (x0.size : Int) then (if 0 ≤ x3 then (if (bt x0 x3) = 10 then (some false) else (Zi.l0 k x0 (wrap64 (x3 + 1)))) else (none)) else (some true)
def Zi.f (k : Nat) (a0 : ByteArray) : Option (Bool) := Zi.l0 k a0 0
set_option maxHeartbeats 8000000 in
set_option maxRecDepth 100000 in
theorem Zi.calls (k : Nat) (a0 : ByteArray) (r : Bool) (w : World) (h : Zi.f k a0 = some r) :
  Calls Try.prog 138 #[.string a0] w fun e w' => e = .returned (.bool r) ∧ Zl w w' := by
 have H : (Zi.l0 k a0 0) = some r := h; clear h; have H' := Qa.mk H; clear H
 go_enter Try.func138, Try.ntmps138
 go_wp2
 go_loopg [3] k (fun kq v3 w' => ∃ (a1 : Int), v3 = .int .i64 a1 ∧ Qa (Zi.l0 kq a0 a1 = some r) ∧ Qa (kq ≤ k) ∧ Zl w w')
 case atStart => exact ⟨(0), sm_, H', ⟨Nat.le_refl _⟩, by repeat (first | exact Zl.refl _ | apply Zl.step)⟩
 case round =>
  clear H'
  try clear c1
  obtain ⟨a1, rfl, HA, HK1, ⟨m1, rfl⟩⟩ := hrel
  cases gk with
  | zero => exact absurd HA.out (by simp [Zi.l0])
  | succ k1 =>
   have H := HA.out; clear HA
   simp only [Zi.l0] at H
   by_cases c2 : a1 < (a0.size : Int)
   ·rw [if_pos c2] at H
    have a2 : decide (a1 < (a0.size : Int)) = true := decide_eq_true c2; clear c2
    by_cases c3 : 0 ≤ a1
    ·rw [if_pos c3] at H
     have a5 : decide (0 ≤ a1) = true := decide_eq_true c3; clear c3
     by_cases c5 : (bt a0 a1) = 10
     ·rw [if_pos c5] at H
      have a3 : ((bt a0 a1) == 10) = true := beq_iff_eq.mpr c5; have a4 : ((bt a0 a1) != 10) = false := bne_eq_false_iff_eq.mpr c5; clear c5; obtain rfl := Option.some.inj H; have p4 : 0 ≤ (a1 : Int) := of_decide_eq_true Zx; have q4 : a1 < (a0.size : Int) := of_decide_eq_true Zx; have hx4 := Qgh a0 a1; replace p4 := eq_true p4; replace q4 := eq_true q4
      go_wp2
      go_ret; exact ⟨sm_, by repeat (first | exact Zl.refl _ | apply Zl.step)⟩
     ·rw [if_neg c5] at H
      have a3 : ((bt a0 a1) == 10) = false := beq_eq_false_iff_ne.mpr c5; have a4 : ((bt a0 a1) != 10) = true := bne_iff_ne.mpr c5; have H' := Qa.mk H; clear H; have p4 : 0 ≤ (a1 : Int) := of_decide_eq_true Zx; have q4 : a1 < (a0.size : Int) := of_decide_eq_true Zx; have hx4 := Qgh a0 a1; replace p4 := eq_true p4; replace q4 := eq_true q4
      go_wp2
      go_roundg k1
      case measure => have := HK1.out; omega
      case rel => exact ⟨(wrap64 (a1 + 1)), sm_, H', ⟨by have := HK1.out; omega⟩, by repeat (first | exact Zl.refl _ | apply Zl.step)⟩
    ·rw [if_neg c3] at H
     exact absurd H (by simp)
   ·rw [if_neg c2] at H
    have a2 : decide (a1 < (a0.size : Int)) = false := decide_eq_false c2; clear c2; obtain rfl := Option.some.inj H
    go_wp2
    go_ret; exact ⟨sm_, by repeat (first | exact Zl.refl _ | apply Zl.step)⟩
def Xu.f (k : Nat) (a0 : ByteArray) (a3 : ByteArray) (a2 : ByteArray) (a7 : Bool) (a8 : ByteArray) (a9 : ByteArray) (b0 : ByteArray) (b1 : ByteArray) (b2 : Bool) : Option (Bool) := (Zi.f k a0).bind fun b3 => (if b3 = true then ((Zi.f k a3).bind fun a6 => (if a6 = true then ((Zi.f k a2).bind fun a1 => (some a1)) else (some false))) else (some false))
set_option maxHeartbeats 8000000 in
set_option maxRecDepth 100000 in
theorem Xu.calls (k : Nat) (a0 : ByteArray) (a3 : ByteArray) (a2 : ByteArray) (a7 : Bool) (a8 : ByteArray) (a9 : ByteArray) (b0 : ByteArray) (b1 : ByteArray) (b2 : Bool) (r : Bool) (w : World) (h : Xu.f k a0 a3 a2 a7 a8 a9 b0 b1 b2 = some r) :
  Calls Try.prog 123 #[.agg #[.string a0, .string a3, .string a2, .bool a7, .string a8, .string a9, .string b0, .string b1, .bool b2]] w fun e w' => e = .returned (.bool r) ∧ Below w.heap.size w w' := by
 have hu123 := Try.underlying123; have HB := Qa.mk (Below.refl w.heap.size w); have H : ((Zi.f k a0).bind fun b3 => (if b3 = true then ((Zi.f k a3).bind fun a6 => (if a6 = true then ((Zi.f k a2).bind fun a1 => (some a1)) else (some false))) else (some false))) = some r := h; clear h; replace H := Option.bind_eq_some_iff.mp H; obtain ⟨b3, A20, H⟩ := H; replace H : (if b3 = true then ((Zi.f k a3).bind fun a6 => (if a6 = true then ((Zi.f k a2).bind fun a1 => (some a1)) else (some false))) else (some false)) = some r := H; have A2 := Qa.mk A20; clear A20
 by_cases c3 : b3 = true
 ·subst c3
  have H1 : ((Zi.f k a3).bind fun a6 => (if a6 = true then ((Zi.f k a2).bind fun a1 => (some a1)) else (some false))) = some r := by rw [if_pos rfl] at H; exact H
  clear H; have H := H1; clear H1; replace H := Option.bind_eq_some_iff.mp H; obtain ⟨a6, A40, H⟩ := H; replace H : (if a6 = true then ((Zi.f k a2).bind fun a1 => (some a1)) else (some false)) = some r := H; have A4 := Qa.mk A40; clear A40
  by_cases c5 : a6 = true
  ·subst c5
   have H1 : ((Zi.f k a2).bind fun a1 => (some a1)) = some r := by rw [if_pos rfl] at H; exact H
   clear H; have H := H1; clear H1; replace H := Option.bind_eq_some_iff.mp H; obtain ⟨a1, A60, H⟩ := H; replace H : (some a1) = some r := H; have A6 := Qa.mk A60; clear A60; obtain rfl := Option.some.inj H
   go_enter Try.func123, Try.ntmps123
   go_wp2_with (first | ((with_reducible refine Zd (N := 1) rfl ?_); refine Zc ?hg (N := 1) ?hd (cs := #[.string a0, .string a3, .string a2, .bool a7, .string a8, .string a9, .string b0, .string b1, .bool b2]) (t := 123) ?hr ?_; (case hd => rfl); (case hg => rfl); (case hr => first | (go_simp; done) | (go_simp; rfl)); intro a4 hg w7 hbox hb; have n0_ := Qa.mk (Qj bw_ hb); have n1_ := Qa.mk (hbox); have n2_ := Qa.mk ((gw_ hg : w.heap.size ≤ a4)); have n3_ := Qa.mk ((gw_ hg : w.heap.size ≤ a4)); clear HB; have HB := n0_; have a5 := n1_; have b4 := n2_; have GE101 := n3_; clear n0_ n1_ n2_ n3_; clear hb hbox hg; obtain ⟨g3, g4, g5, g6, g7, g8, g9, h0, h2⟩ := Ju a5.out; obtain ⟨h3, h4, h5, h6, h7, h8, h9, i0, i1⟩ := Jv a5.out) | ((with_reducible refine Xo (f := 138) rfl ?_); refine Vb (some 5) rfl rfl Try.func138 (by kernel_rfl) rfl #[.string a0] rfl (by (try simp only [List.map_toArray, List.map_cons, List.map_nil]); first | done | rfl | (simp only [List.length_drop, List.length_take]; rfl)) ?_; (with_reducible refine (Zi.calls k a0 true _ A2.out).mono ?_); rintro e w' ⟨rfl, ⟨nd, rfl⟩⟩; refine ⟨_, rfl, ?_⟩) | (go_at_call 138; (with_reducible refine (Zi.calls k a3 true _ A4.out).mono ?_); rintro e w' ⟨rfl, ⟨nd, rfl⟩⟩) | (go_at_call 138; (with_reducible refine (Zi.calls k a2 a1 _ A6.out).mono ?_); rintro e w' ⟨rfl, ⟨nd, rfl⟩⟩)); go_ret; exact ⟨by first | rfl | (simp [Qt, Qu] <;> rfl) | (simp [*, Qt, Qu] <;> rfl), bw_⟩
  ·replace c5 := Bool.eq_false_iff.mpr c5
   subst c5
   have H1 : (some false) = some r := by rw [if_neg (show ¬ (false = true) by decide)] at H; exact H
   clear H; have H := H1; clear H1; obtain rfl := Option.some.inj H
   go_enter Try.func123, Try.ntmps123
   go_wp2_with (first | ((with_reducible refine Zd (N := 1) rfl ?_); refine Zc ?hg (N := 1) ?hd (cs := #[.string a0, .string a3, .string a2, .bool a7, .string a8, .string a9, .string b0, .string b1, .bool b2]) (t := 123) ?hr ?_; (case hd => rfl); (case hg => rfl); (case hr => first | (go_simp; done) | (go_simp; rfl)); intro a4 hg w9 hbox hb; have n0_ := Qa.mk (Qj bw_ hb); have n1_ := Qa.mk (hbox); have n2_ := Qa.mk ((gw_ hg : w.heap.size ≤ a4)); have n3_ := Qa.mk ((gw_ hg : w.heap.size ≤ a4)); clear HB; have HB := n0_; have a5 := n1_; have b4 := n2_; have GE101 := n3_; clear n0_ n1_ n2_ n3_; clear hb hbox hg; obtain ⟨b5, b6, b7, b8, b9, d0, d3, d4, d5⟩ := Ju a5.out; obtain ⟨d6, d7, d8, d9, e0, e1, e2, e3, e4⟩ := Jv a5.out) | ((with_reducible refine Xo (f := 138) rfl ?_); refine Vb (some 5) rfl rfl Try.func138 (by kernel_rfl) rfl #[.string a0] rfl (by (try simp only [List.map_toArray, List.map_cons, List.map_nil]); first | done | rfl | (simp only [List.length_drop, List.length_take]; rfl)) ?_; (with_reducible refine (Zi.calls k a0 true _ A2.out).mono ?_); rintro e w' ⟨rfl, ⟨nd, rfl⟩⟩; refine ⟨_, rfl, ?_⟩) | (go_at_call 138; (with_reducible refine (Zi.calls k a3 false _ A4.out).mono ?_); rintro e w' ⟨rfl, ⟨nd, rfl⟩⟩)); go_ret; exact ⟨by first | rfl | (simp [Qt, Qu] <;> rfl) | (simp [*, Qt, Qu] <;> rfl), bw_⟩
 ·replace c3 := Bool.eq_false_iff.mpr c3
  subst c3
  have H1 : (some false) = some r := by rw [if_neg (show ¬ (false = true) by decide)] at H; exact H
  clear H; have H := H1; clear H1; obtain rfl := Option.some.inj H
  go_enter Try.func123, Try.ntmps123
  go_wp2_with (first | ((with_reducible refine Zd (N := 1) rfl ?_); refine Zc ?hg (N := 1) ?hd (cs := #[.string a0, .string a3, .string a2, .bool a7, .string a8, .string a9, .string b0, .string b1, .bool b2]) (t := 123) ?hr ?_; (case hd => rfl); (case hg => rfl); (case hr => first | (go_simp; done) | (go_simp; rfl)); intro a4 hg w11 hbox hb; have n0_ := Qa.mk (Qj bw_ hb); have n1_ := Qa.mk (hbox); have n2_ := Qa.mk ((gw_ hg : w.heap.size ≤ a4)); have n3_ := Qa.mk ((gw_ hg : w.heap.size ≤ a4)); clear HB; have HB := n0_; have a5 := n1_; have b4 := n2_; have GE101 := n3_; clear n0_ n1_ n2_ n3_; clear hb hbox hg; obtain ⟨e5, e6, e7, e8, e9, f0, f1, f2, f3⟩ := Ju a5.out; obtain ⟨f4, f5, f6, f7, f8, f9, g0, g1, g2⟩ := Jv a5.out) | ((with_reducible refine Xo (f := 138) rfl ?_); refine Vb (some 5) rfl rfl Try.func138 (by kernel_rfl) rfl #[.string a0] rfl (by (try simp only [List.map_toArray, List.map_cons, List.map_nil]); first | done | rfl | (simp only [List.length_drop, List.length_take]; rfl)) ?_; (with_reducible refine (Zi.calls k a0 false _ A2.out).mono ?_); rintro e w' ⟨rfl, ⟨nd, rfl⟩⟩; refine ⟨_, rfl, ?_⟩)); go_ret; exact ⟨by first | rfl | (simp [Qt, Qu] <;> rfl) | (simp [*, Qt, Qu] <;> rfl), bw_⟩
theorem Qjx (d : Nat) (w : World) (x0 y0 : ByteArray) (x1 y1 : ByteArray) (x2 y2 : ByteArray) (x3 y3 : Bool) (x4 y4 : ByteArray) (x5 y5 : ByteArray) (x6 y6 : ByteArray) (x7 y7 : ByteArray) (x8 y8 : Bool) :
  (Op.equalIn (d + 2) 123 (.agg #[.string x0, .string x1, .string x2, .bool x3, .string x4, .string x5, .string x6, .string x7, .bool x8]) (.agg #[.string y0, .string y1, .string y2, .bool y3, .string y4, .string y5, .string y6, .string y7, .bool y8])).run Try.prog w = .ok (x0.toList == y0.toList && (x1.toList == y1.toList && (x2.toList == y2.toList && (x3 == y3 && (x4.toList == y4.toList && (x5.toList == y5.toList && (x6.toList == y6.toList && (x7.toList == y7.toList && (x8 == y8))))))))) w := by
 refine Qin Try.underlying123 (by kernel_rfl) ?_; refine Ui (by rfl) (by go_simp; rfl) (by go_simp; rfl) (by go_simp) ?_; refine Ui (by rfl) (by go_simp; rfl) (by go_simp; rfl) (by go_simp) ?_; refine Ui (by rfl) (by go_simp; rfl) (by go_simp; rfl) (by go_simp) ?_; refine Ui (by rfl) (by go_simp; rfl) (by go_simp; rfl) (by go_simp) ?_; refine Ui (by rfl) (by go_simp; rfl) (by go_simp; rfl) (by go_simp) ?_; refine Ui (by rfl) (by go_simp; rfl) (by go_simp; rfl) (by go_simp) ?_; refine Ui (by rfl) (by go_simp; rfl) (by go_simp; rfl) (by go_simp) ?_; refine Ui (by rfl) (by go_simp; rfl) (by go_simp; rfl) (by go_simp) ?_; exact Qdv (by rfl) (by go_simp; rfl) (by go_simp; rfl) (by go_simp)
theorem Qpl (d : Nat) (w : World) (x0 y0 : ByteArray) (x1 y1 : ByteArray) (x2 y2 : ByteArray) :
  (Op.equalIn (d + 2) 116 (.agg #[.string x0, .string x1, .string x2]) (.agg #[.string y0, .string y1, .string y2])).run Try.prog w = .ok (x0.toList == y0.toList && (x1.toList == y1.toList && (x2.toList == y2.toList))) w := by
 refine Qin Try.underlying116 (by kernel_rfl) ?_; refine Ui (by rfl) (by go_simp; rfl) (by go_simp; rfl) (by go_simp) ?_; refine Ui (by rfl) (by go_simp; rfl) (by go_simp; rfl) (by go_simp) ?_; exact Qdv (by rfl) (by go_simp; rfl) (by go_simp; rfl) (by go_simp)
theorem Qmq (d : Nat) (w : World) (x0 y0 : ByteArray) (x1 y1 : ByteArray) (x2 y2 : ByteArray) (x3 y3 : Bool) (x4 y4 : ByteArray) (x5 y5 : ByteArray) (x6 y6 : ByteArray) (x7 y7 : ByteArray) (x8 y8 : Bool) :
  (Op.equalIn (d + 3) 120 (.agg #[.string x0, .string x1, .string x2, .bool x3, .string x4, .string x5, .string x6, .string x7, .bool x8]) (.agg #[.string y0, .string y1, .string y2, .bool y3, .string y4, .string y5, .string y6, .string y7, .bool y8])).run Try.prog w = .ok ((x0.toList == y0.toList && (x1.toList == y1.toList && (x2.toList == y2.toList))) && (x3 == y3 && (x4.toList == y4.toList && (x5.toList == y5.toList && (x6.toList == y6.toList && (x7.toList == y7.toList && (x8 == y8))))))) w := by
 refine Qin Try.underlying120 (by kernel_rfl) ?_; refine Ui (by rfl) (by go_simp) (by go_simp) (Qpl (d + 0) w _ _ _ _ _ _) ?_; refine Ui (by rfl) (by go_simp; rfl) (by go_simp; rfl) (by go_simp) ?_; refine Ui (by rfl) (by go_simp; rfl) (by go_simp; rfl) (by go_simp) ?_; refine Ui (by rfl) (by go_simp; rfl) (by go_simp; rfl) (by go_simp) ?_; refine Ui (by rfl) (by go_simp; rfl) (by go_simp; rfl) (by go_simp) ?_; refine Ui (by rfl) (by go_simp; rfl) (by go_simp; rfl) (by go_simp) ?_; exact Qdv (by rfl) (by go_simp; rfl) (by go_simp; rfl) (by go_simp)
end Go.Proofs.Ytadafplbgophfaa.PA
end
section
namespace Go.Proofs.Ytadafplbgophfaa.PA
open Go.RowKit Go.Proofs.YtadafplbgophfaaW.PrintWords Go.Proofs.YtadafplbgophfaaW.PrintLast Go.Proofs.YtadafplbgophfaaW.PrintMore
attribute [local go_sem] Xx Xz Yk Yl Xj Xk Xy Ya
attribute [local go_sem high] Qmq
def Zv.f (a0 : ByteArray) (a1 : ByteArray) (a2 : ByteArray) (a3 : Bool) (a8 : ByteArray) (a4 : ByteArray) (a5 : ByteArray) (a6 : ByteArray) (a7 : Bool) : Option (Bool) := some ((a0.toList == ([] : List UInt8) && (a1.toList == ([] : List UInt8) && (a2.toList == ([] : List UInt8)))) && (!a3 && (a4.toList == ([] : List UInt8) && (a5.toList == ([] : List UInt8) && (a6.toList == ([] : List UInt8) && (!a7))))))
set_option maxHeartbeats 8000000 in
set_option maxRecDepth 100000 in
theorem Zv.calls (a0 : ByteArray) (a1 : ByteArray) (a2 : ByteArray) (a3 : Bool) (a8 : ByteArray) (a4 : ByteArray) (a5 : ByteArray) (a6 : ByteArray) (a7 : Bool) (r : Bool) (w : World) (h : Zv.f a0 a1 a2 a3 a8 a4 a5 a6 a7 = some r) :
  Calls Try.prog 114 #[.agg #[.string a0, .string a1, .string a2, .bool a3, .string a8, .string a4, .string a5, .string a6, .bool a7]] w fun e w' => e = .returned (.bool r) ∧ Below w.heap.size w w' := by
 have hu120 := Try.underlying120; have HB := Qa.mk (Below.refl w.heap.size w); have H : (some ((a0.toList == ([] : List UInt8) && (a1.toList == ([] : List UInt8) && (a2.toList == ([] : List UInt8)))) && (!a3 && (a4.toList == ([] : List UInt8) && (a5.toList == ([] : List UInt8) && (a6.toList == ([] : List UInt8) && (!a7))))))) = some r := h; clear h; obtain rfl := Option.some.inj H
 go_enter Try.func114, Try.ntmps114
 go_wp2_with (first | ((with_reducible refine Zd (N := 1) rfl ?_); refine Zc ?hg (N := 1) ?hd (cs := #[.string a0, .string a1, .string a2, .bool a3, .string a8, .string a4, .string a5, .string a6, .bool a7]) (t := 120) ?hr ?_; (case hd => rfl); (case hg => rfl); (case hr => first | (go_simp; done) | (go_simp; rfl)); intro a9 hg w2 hbox hb; have n0_ := Qa.mk (Qj bw_ hb); have n1_ := Qa.mk (hbox); have n2_ := Qa.mk ((gw_ hg : w.heap.size ≤ a9)); have n3_ := Qa.mk ((gw_ hg : w.heap.size ≤ a9)); clear HB; have HB := n0_; have b0 := n1_; have e1 := n2_; have GE101 := n3_; clear n0_ n1_ n2_ n3_; clear hb hbox hg; obtain ⟨b1, b2, b3, b4, b5, b6, b7, b8, b9⟩ := Ju b0.out; obtain ⟨d0, d3, d4, d5, d6, d7, d8, d9, e0⟩ := Jv b0.out)); go_ret; exact ⟨by first | rfl | (simp [Qt, Qu] <;> rfl) | (simp [*, Qt, Qu] <;> rfl), bw_⟩
end Go.Proofs.Ytadafplbgophfaa.PA
end
section
namespace Go.Proofs.Ytadafplbgophfaa.PA
open Go.RowKit Go.Proofs.YtadafplbgophfaaW.PrintWords Go.Proofs.YtadafplbgophfaaW.PrintLast Go.Proofs.YtadafplbgophfaaW.PrintMore
attribute [local go_sem] Xx Xz Yk Yl Xj Xk Xy Ya
def Vo.f (a0 : ByteArray) (a1 : ByteArray) : Option (Bool) := if (a0.size : Int) ≥ (a1.size : Int) then (if 0 ≤ (wrap64 ((a0.size : Int) - (a1.size : Int))) then (if (wrap64 ((a0.size : Int) - (a1.size : Int))) ≤ (a0.size : Int) then (some ((a0.extract ((wrap64 ((a0.size : Int) - (a1.size : Int))) : Int).toNat a0.size).toList == a1.toList)) else (none)) else (none)) else (some false)
set_option maxHeartbeats 8000000 in
set_option maxRecDepth 100000 in
theorem Vo.calls (a0 : ByteArray) (a1 : ByteArray) (r : Bool) (w : World) (h : Vo.f a0 a1 = some r) :
  Calls Try.prog 133 #[.string a0, .string a1] w fun e w' => e = .returned (.bool r) ∧ Zl w w' := by
 have H : (if (a0.size : Int) ≥ (a1.size : Int) then (if 0 ≤ (wrap64 ((a0.size : Int) - (a1.size : Int))) then (if (wrap64 ((a0.size : Int) - (a1.size : Int))) ≤ (a0.size : Int) then (some ((a0.extract ((wrap64 ((a0.size : Int) - (a1.size : Int))) : Int).toNat a0.size).toList == a1.toList)) else (none)) else (none)) else (some false)) = some r := h; clear h
 by_cases c3 : (a0.size : Int) ≥ (a1.size : Int)
 ·rw [if_pos c3] at H
  have a3 : decide ((a1.size : Int) ≤ (a0.size : Int)) = true := decide_eq_true c3; have a4 : decide (a1.size ≤ a0.size) = true := decide_eq_true (Int.ofNat_le.mp c3); clear c3; obtain ⟨ji4, a2⟩ : ∃ j_ : Int, (wrap64 ((a0.size : Int) - (a1.size : Int))) = j_ := ⟨_, rfl⟩
  replace H : (if 0 ≤ (ji4) then (if (ji4) ≤ (a0.size : Int) then (some ((a0.extract ((ji4) : Int).toNat a0.size).toList == a1.toList)) else (none)) else (none)) = some r := by first | (rw [a2] at H; exact H) | (simp only [a2] at H ⊢; exact H)
  have a5 : (IntKind.i64.wrap ((a0.size : Int) - (a1.size : Int))) = ji4 := (Yx _).trans a2
  by_cases c5 : 0 ≤ (ji4)
  ·rw [if_pos c5] at H
   have a6 := eq_true c5; have a7 : decide (0 ≤ (ji4)) = true := decide_eq_true c5; clear c5
   by_cases c6 : (ji4) ≤ (a0.size : Int)
   ·rw [if_pos c6] at H
    have a8 := eq_true c6; have a9 : decide ((ji4) ≤ (a0.size : Int)) = true := decide_eq_true c6; clear c6; obtain rfl := Option.some.inj H
    go_enter Try.func133, Try.ntmps133
    go_wp2
    go_ret; exact ⟨by first | rfl | (simp; done) | (simp only [← a2] <;> (first | rfl | simp)) | (simp [*]; done), by repeat (first | exact Zl.refl _ | apply Zl.step)⟩
   ·rw [if_neg c6] at H
    exact absurd H (by simp)
  ·rw [if_neg c5] at H
   exact absurd H (by simp)
 ·rw [if_neg c3] at H
  have a3 : decide ((a1.size : Int) ≤ (a0.size : Int)) = false := decide_eq_false c3; have a4 : decide (a1.size ≤ a0.size) = false := decide_eq_false (fun h => c3 (Int.ofNat_le.mpr h)); clear c3; obtain rfl := Option.some.inj H
  go_enter Try.func133, Try.ntmps133
  go_wp2
  go_ret; exact ⟨sm_, by repeat (first | exact Zl.refl _ | apply Zl.step)⟩
def Ve.f (a0 : ByteArray) (a1 : ByteArray) : Option (Bool) := (Vo.f a0 a1).bind fun a2 => (some a2)
set_option maxHeartbeats 8000000 in
set_option maxRecDepth 100000 in
theorem Ve.calls (a0 : ByteArray) (a1 : ByteArray) (r : Bool) (w : World) (h : Ve.f a0 a1 = some r) :
  Calls Try.prog 109 #[.string a0, .string a1] w fun e w' => e = .returned (.bool r) ∧ Zl w w' := by
 have H : ((Vo.f a0 a1).bind fun a2 => (some a2)) = some r := h; clear h; replace H := Option.bind_eq_some_iff.mp H; obtain ⟨a2, A30, H⟩ := H; replace H : (some a2) = some r := H; have A3 := Qa.mk A30; clear A30; obtain rfl := Option.some.inj H
 go_enter Try.func109, Try.ntmps109
 go_wp2_with (first | ((with_reducible refine Xo (f := 133) rfl ?_); refine Vb (some 7) rfl rfl Try.func133 (by kernel_rfl) rfl #[.string a0, .string a1] rfl (by (try simp only [List.map_toArray, List.map_cons, List.map_nil]); first | done | rfl | (simp only [List.length_drop, List.length_take]; rfl)) ?_; (with_reducible refine (Vo.calls a0 a1 a2 _ A3.out).mono ?_); rintro e w' ⟨rfl, ⟨nd, rfl⟩⟩; refine ⟨_, rfl, ?_⟩)); go_ret; exact ⟨sm_, by repeat (first | exact Zl.refl _ | apply Zl.step)⟩
def Vh.f (a6 : ByteArray) (a0 : ByteArray) (a7 : ByteArray) (b0 : Bool) (a2 : ByteArray) (a8 : ByteArray) (a1 : ByteArray) (a9 : ByteArray) (a5 : Bool) : Option (Bool) := if b0 = true then (if a2.toList = ([] : List UInt8) then (if a5 = true then (some true) else (if a1.size + a0.size ≤ 9223372036854775807 then (some ((a1 ++ a0).toList == ([] : List UInt8))) else (none))) else (some false)) else (some false)
set_option maxHeartbeats 8000000 in
set_option maxRecDepth 100000 in
theorem Vh.calls (a6 : ByteArray) (a0 : ByteArray) (a7 : ByteArray) (b0 : Bool) (a2 : ByteArray) (a8 : ByteArray) (a1 : ByteArray) (a9 : ByteArray) (a5 : Bool) (r : Bool) (w : World) (h : Vh.f a6 a0 a7 b0 a2 a8 a1 a9 a5 = some r) :
  Calls Try.prog 115 #[.agg #[.string a6, .string a0, .string a7, .bool b0, .string a2, .string a8, .string a1, .string a9, .bool a5]] w fun e w' => e = .returned (.bool r) ∧ Below w.heap.size w w' := by
 have hu120 := Try.underlying120; have HB := Qa.mk (Below.refl w.heap.size w); have H : (if b0 = true then (if a2.toList = ([] : List UInt8) then (if a5 = true then (some true) else (if a1.size + a0.size ≤ 9223372036854775807 then (some ((a1 ++ a0).toList == ([] : List UInt8))) else (none))) else (some false)) else (some false)) = some r := h; clear h
 by_cases c2 : b0 = true
 ·subst c2
  have H1 : (if a2.toList = ([] : List UInt8) then (if a5 = true then (some true) else (if a1.size + a0.size ≤ 9223372036854775807 then (some ((a1 ++ a0).toList == ([] : List UInt8))) else (none))) else (some false)) = some r := by rw [if_pos rfl] at H; exact H
  clear H; have H := H1; clear H1
  by_cases c3 : a2.toList = ([] : List UInt8)
  ·rw [if_pos c3] at H
   have b2 : (a2.toList == ([] : List UInt8)) = true := beq_iff_eq.mpr c3; have b3 : (a2.toList != ([] : List UInt8)) = false := bne_eq_false_iff_eq.mpr c3; clear c3
   by_cases c4 : a5 = true
   ·subst c4
    have H1 : (some true) = some r := by rw [if_pos rfl] at H; exact H
    clear H; have H := H1; clear H1; obtain rfl := Option.some.inj H
    go_enter Try.func115, Try.ntmps115
    go_wp2_with (first | ((with_reducible refine Zd (N := 1) rfl ?_); refine Zc ?hg (N := 1) ?hd (cs := #[.string a6, .string a0, .string a7, .bool true, .string a2, .string a8, .string a1, .string a9, .bool true]) (t := 120) ?hr ?_; (case hd => rfl); (case hg => rfl); (case hr => first | (go_simp; done) | (go_simp; rfl)); intro a3 hg w5 hbox hb; have n0_ := Qa.mk (Qj bw_ hb); have n1_ := Qa.mk (hbox); have n2_ := Qa.mk ((gw_ hg : w.heap.size ≤ a3)); have n3_ := Qa.mk ((gw_ hg : w.heap.size ≤ a3)); clear HB; have HB := n0_; have a4 := n1_; have b1 := n2_; have GE101 := n3_; clear n0_ n1_ n2_ n3_; clear hb hbox hg; obtain ⟨g2, g3, g4, g5, g6, g7, g8, g9, h0⟩ := Ju a4.out; obtain ⟨h2, h3, h4, h5, h6, h7, h8, h9, i0⟩ := Jv a4.out)); go_ret; exact ⟨by first | rfl | (simp [Qt, Qu] <;> rfl) | (simp [*, Qt, Qu] <;> rfl), bw_⟩
   ·replace c4 := Bool.eq_false_iff.mpr c4
    subst c4
    have H1 : (if a1.size + a0.size ≤ 9223372036854775807 then (some ((a1 ++ a0).toList == ([] : List UInt8))) else (none)) = some r := by rw [if_neg (show ¬ (false = true) by decide)] at H; exact H
    clear H; have H := H1; clear H1
    by_cases c7 : a1.size + a0.size ≤ 9223372036854775807
    ·rw [if_pos c7] at H
     have k4 := eq_true c7; have k5 : decide (a1.size + a0.size ≤ 9223372036854775807) = true := decide_eq_true c7
     try have k6 : (9223372036854775807 < a1.size + a0.size) = False := eq_false (Nat.not_lt.2 c7)
     obtain rfl := Option.some.inj H
     go_enter Try.func115, Try.ntmps115
     go_wp2_with (first | ((with_reducible refine Zd (N := 1) rfl ?_); refine Zc ?hg (N := 1) ?hd (cs := #[.string a6, .string a0, .string a7, .bool true, .string a2, .string a8, .string a1, .string a9, .bool false]) (t := 120) ?hr ?_; (case hd => rfl); (case hg => rfl); (case hr => first | (go_simp; done) | (go_simp; rfl)); intro a3 hg w8 hbox hb; have n0_ := Qa.mk (Qj bw_ hb); have n1_ := Qa.mk (hbox); have n2_ := Qa.mk ((gw_ hg : w.heap.size ≤ a3)); have n3_ := Qa.mk ((gw_ hg : w.heap.size ≤ a3)); clear HB; have HB := n0_; have a4 := n1_; have b1 := n2_; have GE101 := n3_; clear n0_ n1_ n2_ n3_; clear hb hbox hg; obtain ⟨i1, i2, i3, i4, i5, i6, i7, i8, i9⟩ := Ju a4.out; obtain ⟨j3, j5, j7, j8, j9, k0, k1, k2, k3⟩ := Jv a4.out)); go_ret; exact ⟨by first | rfl | (simp [Qt, Qu] <;> rfl) | (simp [*, Qt, Qu] <;> rfl), bw_⟩
    ·rw [if_neg c7] at H
     exact absurd H (by simp)
  ·rw [if_neg c3] at H
   have b2 : (a2.toList == ([] : List UInt8)) = false := beq_eq_false_iff_ne.mpr c3; have b3 : (a2.toList != ([] : List UInt8)) = true := bne_iff_ne.mpr c3; obtain rfl := Option.some.inj H
   go_enter Try.func115, Try.ntmps115
   go_wp2_with (first | ((with_reducible refine Zd (N := 1) rfl ?_); refine Zc ?hg (N := 1) ?hd (cs := #[.string a6, .string a0, .string a7, .bool true, .string a2, .string a8, .string a1, .string a9, .bool a5]) (t := 120) ?hr ?_; (case hd => rfl); (case hg => rfl); (case hr => first | (go_simp; done) | (go_simp; rfl)); intro a3 hg w10 hbox hb; have n0_ := Qa.mk (Qj bw_ hb); have n1_ := Qa.mk (hbox); have n2_ := Qa.mk ((gw_ hg : w.heap.size ≤ a3)); have n3_ := Qa.mk ((gw_ hg : w.heap.size ≤ a3)); clear HB; have HB := n0_; have a4 := n1_; have b1 := n2_; have GE101 := n3_; clear n0_ n1_ n2_ n3_; clear hb hbox hg; obtain ⟨b4, b5, b6, b7, b8, b9, d0, d3, d4⟩ := Ju a4.out; obtain ⟨d5, d6, d7, d8, d9, e0, e1, e2, e3⟩ := Jv a4.out)); go_ret; exact ⟨by first | rfl | (simp [Qt, Qu] <;> rfl) | (simp [*, Qt, Qu] <;> rfl), bw_⟩
 ·replace c2 := Bool.eq_false_iff.mpr c2
  subst c2
  have H1 : (some false) = some r := by rw [if_neg (show ¬ (false = true) by decide)] at H; exact H
  clear H; have H := H1; clear H1; obtain rfl := Option.some.inj H
  go_enter Try.func115, Try.ntmps115
  go_wp2_with (first | ((with_reducible refine Zd (N := 1) rfl ?_); refine Zc ?hg (N := 1) ?hd (cs := #[.string a6, .string a0, .string a7, .bool false, .string a2, .string a8, .string a1, .string a9, .bool a5]) (t := 120) ?hr ?_; (case hd => rfl); (case hg => rfl); (case hr => first | (go_simp; done) | (go_simp; rfl)); intro a3 hg w12 hbox hb; have n0_ := Qa.mk (Qj bw_ hb); have n1_ := Qa.mk (hbox); have n2_ := Qa.mk ((gw_ hg : w.heap.size ≤ a3)); have n3_ := Qa.mk ((gw_ hg : w.heap.size ≤ a3)); clear HB; have HB := n0_; have a4 := n1_; have b1 := n2_; have GE101 := n3_; clear n0_ n1_ n2_ n3_; clear hb hbox hg; obtain ⟨e4, e5, e6, e7, e8, e9, f0, f1, f2⟩ := Ju a4.out; obtain ⟨f3, f4, f5, f6, f7, f8, f9, g0, g1⟩ := Jv a4.out)); go_ret; exact ⟨by first | rfl | (simp [Qt, Qu] <;> rfl) | (simp [*, Qt, Qu] <;> rfl), bw_⟩
set_option maxHeartbeats 40000000 in
set_option maxRecDepth 100000 in
theorem Qk.calls (k : Nat) (a0 : Int) (a1 : Int) (a2 : Int) (A3 : Option Addr) (c3 : Nat) (l3 : List (S37)) (A4 : Option Addr) (c4 : Nat) (l4 : List (S37)) (r1 : List (S81)) (r2 : Bool) (w : World) (hr3 : Kd.C k37 w A3 l3.length l3) (hc3 : l3.length ≤ c3) (hr4 : Kd.C k37 w A4 l4.length l4) (hc4 : l4.length ≤ c4) (h : Qk.f k a0 a1 a2 l3 l4 = some (r1, r2)) :
  Calls Try.prog 50 #[.int .i64 a0, .int .i64 a1, .int .i64 a2, .slice A3 l3.length c3, .slice A4 l4.length c4] w fun e w' => ∃ v0_ : Value, e = .returned (.tuple #[v0_, .bool r2]) ∧ Kd.R k81 81 w' w.heap.size (fun _ => True) v0_ r1 ∧ Below w.heap.size w w' := by
 have hu79 := Try.underlying79; have hu81 := Try.underlying81; have HR3 := Qa.mk hr3; have HC3 := Qa.mk hc3; clear hr3 hc3; have HR4 := Qa.mk hr4; have HC4 := Qa.mk hc4; clear hr4 hc4; have HB := Qa.mk (Below.refl w.heap.size w); have H : (if a0 < 0 then (Qk.j0 k a0 a1 a2 l3 l4 true) else (if a1 < 0 then (Qk.j0 k a0 a1 a2 l3 l4 true) else (if a2 < 0 then (Qk.j0 k a0 a1 a2 l3 l4 true) else ((Qz.f k a0 a1 l3).bind fun g5 => (if g5 = true then ((Qz.f k a0 a2 l4).bind fun d3 => (Qk.j0 k a0 a1 a2 l3 l4 (!d3))) else (Qk.j0 k a0 a1 a2 l3 l4 true)))))) = some (r1, r2) := h; clear h; have HC6 := Qa.mk H; clear H
 go_enter Try.func50, Try.ntmps50
 go_upto_region 1 with (fail)
 repeat (go_quiet (fail); go_upto_region 1 with (fail))
 go_cut [42] (fun v42 wc => ∃ (kq : Nat) (f9 : Bool), v42 = .bool f9 ∧ Qa (Qk.j0 kq a0 a1 a2 l3 l4 f9 = some (r1, r2)) ∧ Qa (kq ≤ k) ∧ Qa (Below w.heap.size w wc))
 case first =>
  have H := HC6.out; clear HC6
  by_cases c7 : a0 < 0
  ·rw [if_pos c7] at H
   have b7 : decide (a0 < 0) = true := decide_eq_true c7; clear c7
   (first | rw [b7] | (simp only [Yx, Vi]; rw [b7]) | skip)
   have H' := Qa.mk H; clear H
   go_wp2
   repeat (go_quiet (fail); try go_wp2)
   go_meet
   case rel => exact ⟨_, (true), sm_, H', ⟨by first | omega | exact Nat.le_refl _⟩, ⟨bw_⟩⟩
  ·rw [if_neg c7] at H
   have b7 : decide (a0 < 0) = false := decide_eq_false c7; clear c7
   (first | rw [b7] | (simp only [Yx, Vi]; rw [b7]) | skip)
   by_cases c8 : a1 < 0
   ·rw [if_pos c8] at H
    have d7 : decide (a1 < 0) = true := decide_eq_true c8; clear c8; have H' := Qa.mk H; clear H
    go_wp2
    repeat (go_quiet (fail); try go_wp2)
    go_meet
    case rel => exact ⟨_, (true), sm_, H', ⟨by first | omega | exact Nat.le_refl _⟩, ⟨bw_⟩⟩
   ·rw [if_neg c8] at H
    have d7 : decide (a1 < 0) = false := decide_eq_false c8; clear c8
    by_cases c9 : a2 < 0
    ·rw [if_pos c9] at H
     have d8 : decide (a2 < 0) = true := decide_eq_true c9; clear c9; have H' := Qa.mk H; clear H
     go_wp2
     repeat (go_quiet (fail); try go_wp2)
     go_meet
     case rel => exact ⟨_, (true), sm_, H', ⟨by first | omega | exact Nat.le_refl _⟩, ⟨bw_⟩⟩
    ·rw [if_neg c9] at H
     have d8 : decide (a2 < 0) = false := decide_eq_false c9; clear c9; replace H := Option.bind_eq_some_iff.mp H; obtain ⟨g5, n4, H⟩ := H; replace H : (if g5 = true then ((Qz.f k a0 a2 l4).bind fun d3 => (Qk.j0 k a0 a1 a2 l3 l4 (!d3))) else (Qk.j0 k a0 a1 a2 l3 l4 true)) = some (r1, r2) := H; have A10 := Qa.mk n4; clear n4
     by_cases c11 : g5 = true
     ·subst c11
      have H1 : ((Qz.f k a0 a2 l4).bind fun d3 => (Qk.j0 k a0 a1 a2 l3 l4 (!d3))) = some (r1, r2) := by rw [if_pos rfl] at H; exact H
      clear H; have H := H1; clear H1; replace H := Option.bind_eq_some_iff.mp H; obtain ⟨d3, n5, H⟩ := H; replace H : (Qk.j0 k a0 a1 a2 l3 l4 (!d3)) = some (r1, r2) := H; have A12 := Qa.mk n5; clear n5; have H' := Qa.mk H; clear H; go_wp2_with (first | (go_at_call 94; (with_reducible refine (Qz.calls k a0 a1 _ _ l3 true _ ?side1 ?side2 A10.out).mono ?_); (case side1 => repeat (first | exact (Kd.C_below HR3.out HB.out) | (with_reducible refine Kd.C_alloc ?_ _) | (with_reducible refine Kd.C_drewN ?_ _) | (with_reducible refine Kd.C_drew ?_))); (case side2 => exact HC3.out); rintro e w13 ⟨rfl, hb⟩; have n0_ := Qa.mk (Qj bw_ hb); clear HB; have HB := n0_; clear n0_; (try clear hb); (try clear hb2); (try clear hk); (try clear hi)) | (go_at_call 94; (with_reducible refine (Qz.calls k a0 a2 _ _ l4 d3 _ ?side1 ?side2 A12.out).mono ?_); (case side1 => repeat (first | exact (Kd.C_below HR4.out HB.out) | (with_reducible refine Kd.C_alloc ?_ _) | (with_reducible refine Kd.C_drewN ?_ _) | (with_reducible refine Kd.C_drew ?_))); (case side2 => exact HC4.out); rintro e w14 ⟨rfl, hb⟩; have n0_ := Qa.mk (Qj bw_ hb); clear HB; have HB := n0_; clear n0_; (try clear hb); (try clear hb2); (try clear hk); (try clear hi)))
      repeat (go_quiet (fail); try go_wp2_with (first | (go_at_call 94; (with_reducible refine (Qz.calls k a0 a1 _ _ l3 true _ ?side1 ?side2 A10.out).mono ?_); (case side1 => repeat (first | exact (Kd.C_below HR3.out HB.out) | (with_reducible refine Kd.C_alloc ?_ _) | (with_reducible refine Kd.C_drewN ?_ _) | (with_reducible refine Kd.C_drew ?_))); (case side2 => exact HC3.out); rintro e w13 ⟨rfl, hb⟩; have n0_ := Qa.mk (Qj bw_ hb); clear HB; have HB := n0_; clear n0_; (try clear hb); (try clear hb2); (try clear hk); (try clear hi)) | (go_at_call 94; (with_reducible refine (Qz.calls k a0 a2 _ _ l4 d3 _ ?side1 ?side2 A12.out).mono ?_); (case side1 => repeat (first | exact (Kd.C_below HR4.out HB.out) | (with_reducible refine Kd.C_alloc ?_ _) | (with_reducible refine Kd.C_drewN ?_ _) | (with_reducible refine Kd.C_drew ?_))); (case side2 => exact HC4.out); rintro e w14 ⟨rfl, hb⟩; have n0_ := Qa.mk (Qj bw_ hb); clear HB; have HB := n0_; clear n0_; (try clear hb); (try clear hb2); (try clear hk); (try clear hi))))
      go_meet
      case rel => exact ⟨_, (!d3), sm_, H', ⟨by first | omega | exact Nat.le_refl _⟩, ⟨bw_⟩⟩
     ·replace c11 := Bool.eq_false_iff.mpr c11
      subst c11
      have H1 : (Qk.j0 k a0 a1 a2 l3 l4 true) = some (r1, r2) := by rw [if_neg (show ¬ (false = true) by decide)] at H; exact H
      clear H; have H := H1; clear H1; have H' := Qa.mk H; clear H; go_wp2_with (first | (go_at_call 94; (with_reducible refine (Qz.calls k a0 a1 _ _ l3 false _ ?side1 ?side2 A10.out).mono ?_); (case side1 => repeat (first | exact (Kd.C_below HR3.out HB.out) | (with_reducible refine Kd.C_alloc ?_ _) | (with_reducible refine Kd.C_drewN ?_ _) | (with_reducible refine Kd.C_drew ?_))); (case side2 => exact HC3.out); rintro e w15 ⟨rfl, hb⟩; have n0_ := Qa.mk (Qj bw_ hb); clear HB; have HB := n0_; clear n0_; (try clear hb); (try clear hb2); (try clear hk); (try clear hi)))
      repeat (go_quiet (fail); try go_wp2_with (first | (go_at_call 94; (with_reducible refine (Qz.calls k a0 a1 _ _ l3 false _ ?side1 ?side2 A10.out).mono ?_); (case side1 => repeat (first | exact (Kd.C_below HR3.out HB.out) | (with_reducible refine Kd.C_alloc ?_ _) | (with_reducible refine Kd.C_drewN ?_ _) | (with_reducible refine Kd.C_drew ?_))); (case side2 => exact HC3.out); rintro e w15 ⟨rfl, hb⟩; have n0_ := Qa.mk (Qj bw_ hb); clear HB; have HB := n0_; clear n0_; (try clear hb); (try clear hb2); (try clear hk); (try clear hi))))
      go_meet
      case rel => exact ⟨_, (true), sm_, H', ⟨by first | omega | exact Nat.le_refl _⟩, ⟨bw_⟩⟩
 case rest =>
  clear HC6
  try clear c1
  try clear p2
  try clear c3
  try clear c4
  try clear c5
  try clear c7
  try clear b7
  try clear c8
  try clear d7
  try clear c9
  try clear d8
  try clear c11
  obtain ⟨kq, f9, rfl, HA, HJ5, HB⟩ := hcut
  cases kq with
  | zero => exact absurd HA.out (by simp [Qk.j0])
  | succ kj5 =>
   have H := HA.out; clear HA
   simp only [Qk.j0] at H
   by_cases c16 : f9 = true
   ·subst c16
    have H1 : (some (([] : List (S81)), false)) = some (r1, r2) := by rw [if_pos rfl] at H; exact H
    clear H; have H := H1; clear H1
    simp only [Option.some.injEq, Prod.mk.injEq] at H
    obtain ⟨rfl, rfl⟩ := H
    go_wp2
    repeat (go_quiet (fail); try go_wp2)
    go_ret2
    exact ⟨_, by first | rfl | (simp [Qt, Qu] <;> rfl) | (simp [*, Qt, Qu] <;> rfl), by first | exact Kd.R_nil _ _ _ _ _ | exact Kd.N_nil _ _ _ _ _ | exact Kd.V_nil _ _ _ _ _ | exact Kd.Q_nil _ _ _ _ _ | exact Kd.S_nil _ _ _ _ _, bw_⟩
   ·replace c16 := Bool.eq_false_iff.mpr c16
    subst c16
    have H1 : (Qk.l0 kj5 a0 a1 a2 l3 l4 ([] : List (S81)) 0 0 0) = some (r1, r2) := by rw [if_neg (show ¬ (false = true) by decide)] at H; exact H
    clear H; have H := H1; clear H1; have H' := Qa.mk H; clear H
    go_wp2
    repeat (go_quiet (fail); try go_wp2)
    go_loopg [12, 13, 14, 15] kj5 (fun kq v12 v13 v14 v15 w' => ∃ (b0 : List (S81)) (a4 : Int) (a5 : Int) (a6 : Int), v13 = .int .i64 a4 ∧ v14 = .int .i64 a5 ∧ v15 = .int .i64 a6 ∧ Qa (Qk.l0 kq a0 a1 a2 l3 l4 b0 a4 a5 a6 = some (r1, r2)) ∧ Qa (kq ≤ kj5) ∧ Qa (Kd.R k81 81 w' w.heap.size (fun _ => True) v12 b0) ∧ Qa (Below w.heap.size w w'))
    case atStart => exact ⟨(([] : List (S81))), (0), (0), (0), sm_, sm_, sm_, H', ⟨Nat.le_refl _⟩, ⟨by first | exact Kd.R_nil _ _ _ _ _ | exact Kd.N_nil _ _ _ _ _ | exact Kd.V_nil _ _ _ _ _ | exact Kd.Q_nil _ _ _ _ _ | exact Kd.S_nil _ _ _ _ _⟩, ⟨bw_⟩⟩
    case round =>
     clear H'
     try clear c1
     try clear p2
     try clear c3
     try clear c4
     try clear c5
     try clear c7
     try clear b7
     try clear c8
     try clear d7
     try clear c9
     try clear d8
     try clear c11
     try clear c16
     try clear p2
     obtain ⟨b0, a4, a5, a6, rfl, rfl, rfl, HA, HK2, a9, HB⟩ := hrel
     cases gk with
     | zero => exact absurd HA.out (by simp [Qk.l0])
     | succ k2 =>
      have H := HA.out; clear HA
      simp only [Qk.l0] at H
      have h0 := Qa.mk H; clear H
      go_upto_region 5 with (fail)
      repeat (go_quiet (fail); go_upto_region 5 with (fail))
      go_cut [55] (fun v55 wc => ∃ (kq : Nat) (e1 : Bool), v55 = .bool e1 ∧ Qa (Qk.j2 kq a0 a1 a2 l3 l4 b0 a4 a5 a6 e1 = some (r1, r2)) ∧ Qa (kq ≤ k2) ∧ Qa (Kd.R k81 81 wc w.heap.size (fun _ => True) u12 b0) ∧ Qa (Below w.heap.size w wc))
      case first =>
       have H := h0.out; clear h0
       by_cases c18 : a4 < a0
       ·rw [if_pos c18] at H
        have b6 : decide (a4 < a0) = true := decide_eq_true c18; clear c18
        (first | rw [b6] | (simp only [Yx, Vi]; rw [b6]) | skip)
        have H' := Qa.mk H; clear H
        go_wp2
        repeat (go_quiet (fail); try go_wp2)
        go_meet
        case rel => exact ⟨_, (true), sm_, H', ⟨by have := HJ5.out; have := HK2.out; first | omega | exact Nat.le_refl _⟩, ⟨ro_ a9.out⟩, ⟨bw_⟩⟩
       ·rw [if_neg c18] at H
        have b6 : decide (a4 < a0) = false := decide_eq_false c18; clear c18
        (first | rw [b6] | (simp only [Yx, Vi]; rw [b6]) | skip)
        by_cases c19 : a5 < a1
        ·rw [if_pos c19] at H
         have d9 : decide (a5 < a1) = true := decide_eq_true c19; clear c19; have H' := Qa.mk H; clear H
         go_wp2
         repeat (go_quiet (fail); try go_wp2)
         go_meet
         case rel => exact ⟨_, (true), sm_, H', ⟨by have := HJ5.out; have := HK2.out; first | omega | exact Nat.le_refl _⟩, ⟨ro_ a9.out⟩, ⟨bw_⟩⟩
        ·rw [if_neg c19] at H
         have d9 : decide (a5 < a1) = false := decide_eq_false c19; clear c19; have H' := Qa.mk H; clear H
         go_wp2
         repeat (go_quiet (fail); try go_wp2)
         go_meet
         case rel => exact ⟨_, (decide (a6 < a2)), sm_, H', ⟨by have := HJ5.out; have := HK2.out; first | omega | exact Nat.le_refl _⟩, ⟨ro_ a9.out⟩, ⟨bw_⟩⟩
      case rest =>
       clear h0
       try clear c1
       try clear p2
       try clear c3
       try clear c4
       try clear c5
       try clear c7
       try clear b7
       try clear c8
       try clear d7
       try clear c9
       try clear d8
       try clear c11
       try clear c16
       try clear c18
       try clear b6
       try clear c19
       try clear d9
       try clear p2
       obtain ⟨kq, e1, rfl, HA, HJ16, a9, HB⟩ := hcut
       cases kq with
       | zero => exact absurd HA.out (by simp [Qk.j2])
       | succ g6 =>
        have H := HA.out; clear HA
        simp only [Qk.j2] at H
        by_cases c20 : e1 = true
        ·subst c20
         have H1 : (Qk.l1 g6 a0 a1 a2 l3 l4 b0 a4 a5 a6 0) = some (r1, r2) := by rw [if_pos rfl] at H; exact H
         clear H; have H := H1; clear H1; have h2 := Qa.mk H; clear H
         go_upto_block 2 with (fail)
         repeat (go_quiet (fail); go_upto_block 2 with (fail))
         go_cut [16] (fun v16 wc => ∃ (kq : Nat) (a3 : Int), v16 = .int .i64 a3 ∧ Qa (Qk.j4 kq a0 a1 a2 l3 l4 b0 a4 a5 a6 a3 = some (r1, r2)) ∧ Qa (kq ≤ g6) ∧ Qa (Kd.R k81 81 wc w.heap.size (fun _ => True) u12 b0) ∧ Qa (Below w.heap.size w wc))
         case first =>
          have H := h2.out; clear h2; have H' := Qa.mk H; clear H
          go_wp2
          repeat (go_quiet (fail); try go_wp2)
          go_loopg [16] g6 (fun kq v16 w' => ∃ (b1 : Int), v16 = .int .i64 b1 ∧ Qa (Qk.l1 kq a0 a1 a2 l3 l4 b0 a4 a5 a6 b1 = some (r1, r2)) ∧ Qa (kq ≤ g6) ∧ Qa (Kd.R k81 81 w' w.heap.size (fun _ => True) u12 b0) ∧ Qa (Below w.heap.size w w'))
          case atStart => exact ⟨(0), sm_, H', ⟨Nat.le_refl _⟩, ⟨ro_ a9.out⟩, ⟨bw_⟩⟩
          case round =>
           clear H'
           try clear c1
           try clear c2
           try clear p2
           try clear c3
           try clear c4
           try clear c5
           try clear c7
           try clear b7
           try clear c8
           try clear d7
           try clear c9
           try clear d8
           try clear c11
           try clear c16
           try clear c18
           try clear b6
           try clear c19
           try clear d9
           try clear c20
           try clear p2
           obtain ⟨b1, rfl, HA, HK4, a9, HB⟩ := hrel
           cases gk with
           | zero => exact absurd HA.out (by simp [Qk.l1])
           | succ k4 =>
            have H := HA.out; clear HA
            simp only [Qk.l1] at H
            by_cases c22 : (wrap64 (a4 + b1)) < a0
            ·rw [if_pos c22] at H
             have d0 : decide ((wrap64 (a4 + b1)) < a0) = true := decide_eq_true c22; clear c22
             (first | rw [d0] | (simp only [Yx, Vi]; rw [d0]) | skip)
             replace H := Option.bind_eq_some_iff.mp H; obtain ⟨b8, n6, H⟩ := H; replace H : (if b8 = (wrap64 (a5 + b1)) then ((Qx.f k4 l4 (wrap64 (a4 + b1))).bind fun b9 => (if b9 = (wrap64 (a6 + b1)) then (Qk.l1 k4 a0 a1 a2 l3 l4 b0 a4 a5 a6 (wrap64 (b1 + 1))) else (Qk.j4 k4 a0 a1 a2 l3 l4 b0 a4 a5 a6 b1))) else (Qk.j4 k4 a0 a1 a2 l3 l4 b0 a4 a5 a6 b1)) = some (r1, r2) := H; have A23 := Qa.mk n6; clear n6
             by_cases c24 : b8 = (wrap64 (a5 + b1))
             ·rw [if_pos c24] at H
              have g0 : (b8 == (wrap64 (a5 + b1))) = true := beq_iff_eq.mpr c24; have g1 : (b8 != (wrap64 (a5 + b1))) = false := bne_eq_false_iff_eq.mpr c24; clear c24; replace H := Option.bind_eq_some_iff.mp H; obtain ⟨b9, n7, H⟩ := H; replace H : (if b9 = (wrap64 (a6 + b1)) then (Qk.l1 k4 a0 a1 a2 l3 l4 b0 a4 a5 a6 (wrap64 (b1 + 1))) else (Qk.j4 k4 a0 a1 a2 l3 l4 b0 a4 a5 a6 b1)) = some (r1, r2) := H; have A25 := Qa.mk n7; clear n7
              by_cases c26 : b9 = (wrap64 (a6 + b1))
              ·rw [if_pos c26] at H
               have g2 : (b9 == (wrap64 (a6 + b1))) = true := beq_iff_eq.mpr c26; have g3 : (b9 != (wrap64 (a6 + b1))) = false := bne_eq_false_iff_eq.mpr c26; clear c26; have H' := Qa.mk H; clear H; go_wp2_with (first | (go_at_call 95; (with_reducible refine (Qx.calls k4 _ _ l3 (wrap64 (a4 + b1)) b8 _ ?side1 ?side2 A23.out).mono ?_); (case side1 => repeat (first | exact (Kd.C_below HR3.out HB.out) | (with_reducible refine Kd.C_alloc ?_ _) | (with_reducible refine Kd.C_drewN ?_ _) | (with_reducible refine Kd.C_drew ?_))); (case side2 => exact HC3.out); rintro e w' ⟨rfl, ⟨nd, rfl⟩⟩; (try first | exact ⟨rfl, _, World.drewN_drewN _ _ _⟩ | exact ⟨rfl, _, Eq.trans (World.drewN_drewN _ _ _) (congrArg (World.drewN _) (Nat.add_assoc _ _ _))⟩)) | (go_at_call 95; (with_reducible refine (Qx.calls k4 _ _ l4 (wrap64 (a4 + b1)) b9 _ ?side1 ?side2 A25.out).mono ?_); (case side1 => repeat (first | exact (Kd.C_below HR4.out bw_) | (with_reducible refine Kd.C_alloc ?_ _) | (with_reducible refine Kd.C_drewN ?_ _) | (with_reducible refine Kd.C_drew ?_))); (case side2 => exact HC4.out); rintro e w' ⟨rfl, ⟨nd, rfl⟩⟩; (try first | exact ⟨rfl, _, World.drewN_drewN _ _ _⟩ | exact ⟨rfl, _, Eq.trans (World.drewN_drewN _ _ _) (congrArg (World.drewN _) (Nat.add_assoc _ _ _))⟩)))
               repeat (go_quiet (fail); try go_wp2_with (first | (go_at_call 95; (with_reducible refine (Qx.calls k4 _ _ l3 (wrap64 (a4 + b1)) b8 _ ?side1 ?side2 A23.out).mono ?_); (case side1 => repeat (first | exact (Kd.C_below HR3.out HB.out) | (with_reducible refine Kd.C_alloc ?_ _) | (with_reducible refine Kd.C_drewN ?_ _) | (with_reducible refine Kd.C_drew ?_))); (case side2 => exact HC3.out); rintro e w' ⟨rfl, ⟨nd, rfl⟩⟩; (try first | exact ⟨rfl, _, World.drewN_drewN _ _ _⟩ | exact ⟨rfl, _, Eq.trans (World.drewN_drewN _ _ _) (congrArg (World.drewN _) (Nat.add_assoc _ _ _))⟩)) | (go_at_call 95; (with_reducible refine (Qx.calls k4 _ _ l4 (wrap64 (a4 + b1)) b9 _ ?side1 ?side2 A25.out).mono ?_); (case side1 => repeat (first | exact (Kd.C_below HR4.out bw_) | (with_reducible refine Kd.C_alloc ?_ _) | (with_reducible refine Kd.C_drewN ?_ _) | (with_reducible refine Kd.C_drew ?_))); (case side2 => exact HC4.out); rintro e w' ⟨rfl, ⟨nd, rfl⟩⟩; (try first | exact ⟨rfl, _, World.drewN_drewN _ _ _⟩ | exact ⟨rfl, _, Eq.trans (World.drewN_drewN _ _ _) (congrArg (World.drewN _) (Nat.add_assoc _ _ _))⟩))))
               go_roundg k4
               case measure => have := HJ5.out; have := HK2.out; have := HJ16.out; have := HK4.out; omega
               case rel => exact ⟨(wrap64 (b1 + 1)), sm_, H', ⟨by have := HJ5.out; have := HK2.out; have := HJ16.out; have := HK4.out; omega⟩, ⟨ro_ a9.out⟩, ⟨bw_⟩⟩
              ·rw [if_neg c26] at H
               have g2 : (b9 == (wrap64 (a6 + b1))) = false := beq_eq_false_iff_ne.mpr c26; have g3 : (b9 != (wrap64 (a6 + b1))) = true := bne_iff_ne.mpr c26; have H' := Qa.mk H; clear H; go_wp2_with (first | (go_at_call 95; (with_reducible refine (Qx.calls k4 _ _ l3 (wrap64 (a4 + b1)) b8 _ ?side1 ?side2 A23.out).mono ?_); (case side1 => repeat (first | exact (Kd.C_below HR3.out HB.out) | (with_reducible refine Kd.C_alloc ?_ _) | (with_reducible refine Kd.C_drewN ?_ _) | (with_reducible refine Kd.C_drew ?_))); (case side2 => exact HC3.out); rintro e w' ⟨rfl, ⟨nd, rfl⟩⟩; (try first | exact ⟨rfl, _, World.drewN_drewN _ _ _⟩ | exact ⟨rfl, _, Eq.trans (World.drewN_drewN _ _ _) (congrArg (World.drewN _) (Nat.add_assoc _ _ _))⟩)) | (go_at_call 95; (with_reducible refine (Qx.calls k4 _ _ l4 (wrap64 (a4 + b1)) b9 _ ?side1 ?side2 A25.out).mono ?_); (case side1 => repeat (first | exact (Kd.C_below HR4.out bw_) | (with_reducible refine Kd.C_alloc ?_ _) | (with_reducible refine Kd.C_drewN ?_ _) | (with_reducible refine Kd.C_drew ?_))); (case side2 => exact HC4.out); rintro e w' ⟨rfl, ⟨nd, rfl⟩⟩; (try first | exact ⟨rfl, _, World.drewN_drewN _ _ _⟩ | exact ⟨rfl, _, Eq.trans (World.drewN_drewN _ _ _) (congrArg (World.drewN _) (Nat.add_assoc _ _ _))⟩)))
               repeat (go_quiet (fail); try go_wp2_with (first | (go_at_call 95; (with_reducible refine (Qx.calls k4 _ _ l3 (wrap64 (a4 + b1)) b8 _ ?side1 ?side2 A23.out).mono ?_); (case side1 => repeat (first | exact (Kd.C_below HR3.out HB.out) | (with_reducible refine Kd.C_alloc ?_ _) | (with_reducible refine Kd.C_drewN ?_ _) | (with_reducible refine Kd.C_drew ?_))); (case side2 => exact HC3.out); rintro e w' ⟨rfl, ⟨nd, rfl⟩⟩; (try first | exact ⟨rfl, _, World.drewN_drewN _ _ _⟩ | exact ⟨rfl, _, Eq.trans (World.drewN_drewN _ _ _) (congrArg (World.drewN _) (Nat.add_assoc _ _ _))⟩)) | (go_at_call 95; (with_reducible refine (Qx.calls k4 _ _ l4 (wrap64 (a4 + b1)) b9 _ ?side1 ?side2 A25.out).mono ?_); (case side1 => repeat (first | exact (Kd.C_below HR4.out bw_) | (with_reducible refine Kd.C_alloc ?_ _) | (with_reducible refine Kd.C_drewN ?_ _) | (with_reducible refine Kd.C_drew ?_))); (case side2 => exact HC4.out); rintro e w' ⟨rfl, ⟨nd, rfl⟩⟩; (try first | exact ⟨rfl, _, World.drewN_drewN _ _ _⟩ | exact ⟨rfl, _, Eq.trans (World.drewN_drewN _ _ _) (congrArg (World.drewN _) (Nat.add_assoc _ _ _))⟩))))
               go_meet
               case rel => exact ⟨_, (b1), sm_, H', ⟨by have := HJ5.out; have := HK2.out; have := HJ16.out; have := HK4.out; first | omega | exact Nat.le_refl _⟩, ⟨ro_ a9.out⟩, ⟨bw_⟩⟩
             ·rw [if_neg c24] at H
              have g0 : (b8 == (wrap64 (a5 + b1))) = false := beq_eq_false_iff_ne.mpr c24; have g1 : (b8 != (wrap64 (a5 + b1))) = true := bne_iff_ne.mpr c24; have H' := Qa.mk H; clear H; go_wp2_with (first | (go_at_call 95; (with_reducible refine (Qx.calls k4 _ _ l3 (wrap64 (a4 + b1)) b8 _ ?side1 ?side2 A23.out).mono ?_); (case side1 => repeat (first | exact (Kd.C_below HR3.out HB.out) | (with_reducible refine Kd.C_alloc ?_ _) | (with_reducible refine Kd.C_drewN ?_ _) | (with_reducible refine Kd.C_drew ?_))); (case side2 => exact HC3.out); rintro e w' ⟨rfl, ⟨nd, rfl⟩⟩; (try first | exact ⟨rfl, _, World.drewN_drewN _ _ _⟩ | exact ⟨rfl, _, Eq.trans (World.drewN_drewN _ _ _) (congrArg (World.drewN _) (Nat.add_assoc _ _ _))⟩)))
              repeat (go_quiet (fail); try go_wp2_with (first | (go_at_call 95; (with_reducible refine (Qx.calls k4 _ _ l3 (wrap64 (a4 + b1)) b8 _ ?side1 ?side2 A23.out).mono ?_); (case side1 => repeat (first | exact (Kd.C_below HR3.out HB.out) | (with_reducible refine Kd.C_alloc ?_ _) | (with_reducible refine Kd.C_drewN ?_ _) | (with_reducible refine Kd.C_drew ?_))); (case side2 => exact HC3.out); rintro e w' ⟨rfl, ⟨nd, rfl⟩⟩; (try first | exact ⟨rfl, _, World.drewN_drewN _ _ _⟩ | exact ⟨rfl, _, Eq.trans (World.drewN_drewN _ _ _) (congrArg (World.drewN _) (Nat.add_assoc _ _ _))⟩))))
              go_meet
              case rel => exact ⟨_, (b1), sm_, H', ⟨by have := HJ5.out; have := HK2.out; have := HJ16.out; have := HK4.out; first | omega | exact Nat.le_refl _⟩, ⟨ro_ a9.out⟩, ⟨bw_⟩⟩
            ·rw [if_neg c22] at H
             have d0 : decide ((wrap64 (a4 + b1)) < a0) = false := decide_eq_false c22; clear c22
             (first | rw [d0] | (simp only [Yx, Vi]; rw [d0]) | skip)
             have H' := Qa.mk H; clear H
             go_wp2
             repeat (go_quiet (fail); try go_wp2)
             go_meet
             case rel => exact ⟨_, (b1), sm_, H', ⟨by have := HJ5.out; have := HK2.out; have := HJ16.out; have := HK4.out; first | omega | exact Nat.le_refl _⟩, ⟨ro_ a9.out⟩, ⟨bw_⟩⟩
         case rest =>
          clear h2
          try clear c1
          try clear c2
          try clear p2
          try clear c3
          try clear c4
          try clear c5
          try clear p6
          try clear c7
          try clear b7
          try clear c8
          try clear d7
          try clear c9
          try clear d8
          try clear c11
          try clear c16
          try clear c18
          try clear b6
          try clear c19
          try clear d9
          try clear c20
          try clear c22
          try clear d0
          try clear c24
          try clear g0
          try clear g1
          try clear c26
          try clear g2
          try clear g3
          try clear p2
          obtain ⟨kq, a3, rfl, HA, HJ20, a9, HB⟩ := hcut
          cases kq with
          | zero => exact absurd HA.out (by simp [Qk.j4])
          | succ g4 =>
           have H := HA.out; clear HA
           simp only [Qk.j4] at H
           by_cases c27 : a3 = 0
           ·rw [if_pos c27] at H
            have g7 : (a3 == 0) = true := beq_iff_eq.mpr c27; have g8 : (a3 != 0) = false := bne_eq_false_iff_eq.mpr c27; clear c27; have h3 := Qa.mk H; clear H
            go_upto_block 4 with (first | ((with_reducible refine Zd (N := 17) rfl ?_); refine Zc ?hg (N := 17) ?hd (cs := #[.bool false, .int .i64 0, .int .i64 0, .int .i64 0, .int .i64 0, .int .i64 0, .int .i64 0]) (t := 81) ?hr ?_; (case hd => rfl); (case hg => rfl); (case hr => first | (go_simp; done) | (go_simp; rfl)); intro a7 hg w29 hbox hb; have n0_ := Qa.mk (Kd.R_below (Kd.R_elderB (ro_ a9.out) a7 (Nat.le_of_eq hg.symm)) hb); have n1_ := Qa.mk (Qj bw_ hb); have n2_ := Qa.mk (hbox); have n3_ := Qa.mk ((gw_ hg : w.heap.size ≤ a7)); have n4_ := Qa.mk ((gw_ hg : w.heap.size ≤ a7)); clear a9; clear HB; have a9 := n0_; have HB := n1_; have a8 := n2_; have g9 := n3_; have GE105 := n4_; clear n0_ n1_ n2_ n3_ n4_; clear hb hbox hg; obtain ⟨e5, e6, e7, e8, e9, f0, f1⟩ := Qbv a8.out; obtain ⟨f2, f3, f4, f5, f6, f7, f8⟩ := Qdx a8.out))
            repeat (go_quiet (fail); go_upto_block 4 with (first | ((with_reducible refine Zd (N := 17) rfl ?_); refine Zc ?hg (N := 17) ?hd (cs := #[.bool false, .int .i64 0, .int .i64 0, .int .i64 0, .int .i64 0, .int .i64 0, .int .i64 0]) (t := 81) ?hr ?_; (case hd => rfl); (case hg => rfl); (case hr => first | (go_simp; done) | (go_simp; rfl)); intro a7 hg w29 hbox hb; have n0_ := Qa.mk (Kd.R_below (Kd.R_elderB (ro_ a9.out) a7 (Nat.le_of_eq hg.symm)) hb); have n1_ := Qa.mk (Qj bw_ hb); have n2_ := Qa.mk (hbox); have n3_ := Qa.mk ((gw_ hg : w.heap.size ≤ a7)); have n4_ := Qa.mk ((gw_ hg : w.heap.size ≤ a7)); clear a9; clear HB; have a9 := n0_; have HB := n1_; have a8 := n2_; have g9 := n3_; have GE105 := n4_; clear n0_ n1_ n2_ n3_ n4_; clear hb hbox hg; obtain ⟨e5, e6, e7, e8, e9, f0, f1⟩ := Qbv a8.out; obtain ⟨f2, f3, f4, f5, f6, f7, f8⟩ := Qdx a8.out)))
            (try simp only [Act.put, sA_, sB_, sC_])
            go_cut [18] (fun v18 wc => ∃ (kq : Nat) (b2 : Int), v18 = .int .i64 b2 ∧ Qa (Qk.j6 kq a0 a1 a2 l3 l4 b0 b2 (decide (a3 > 0)) a4 (wrap64 (a4 + a3)) a5 (wrap64 (a5 + a3)) a6 (wrap64 (a6 + a3)) = some (r1, r2)) ∧ Qa (kq ≤ g4) ∧ Qa (Kd.R k81 81 wc w.heap.size (fun k_ => k_ ≠ a7) u12 b0) ∧ Qa (wc.heap[a7]? = some (.cells #[.bool (decide (a3 > 0)), .int .i64 a4, .int .i64 (wrap64 (a4 + a3)), .int .i64 a5, .int .i64 (wrap64 (a5 + a3)), .int .i64 a6, .int .i64 (wrap64 (a6 + a3))] 81 (0, 0))) ∧ Qa (Below w.heap.size w wc))
            case first =>
             have H := h3.out; clear h3; have H' := Qa.mk H; clear H
             go_wp2
             repeat (go_quiet (fail); try go_wp2)
             go_loopg [18] g4 (fun kq v18 w' => ∃ (b3 : Int), v18 = .int .i64 b3 ∧ Qa (Qk.l2 kq a0 a1 a2 l3 l4 b0 a5 a6 b3 (decide (a3 > 0)) a4 (wrap64 (a4 + a3)) a5 (wrap64 (a5 + a3)) a6 (wrap64 (a6 + a3)) = some (r1, r2)) ∧ Qa (kq ≤ g4) ∧ Qa (Kd.R k81 81 w' w.heap.size (fun k_ => k_ ≠ a7) u12 b0) ∧ Qa (w'.heap[a7]? = some (.cells #[.bool (decide (a3 > 0)), .int .i64 a4, .int .i64 (wrap64 (a4 + a3)), .int .i64 a5, .int .i64 (wrap64 (a5 + a3)), .int .i64 a6, .int .i64 (wrap64 (a6 + a3))] 81 (0, 0))) ∧ Qa (Below w.heap.size w w'))
             case atStart => exact ⟨(a4), sm_, H', ⟨Nat.le_refl _⟩, ⟨by (with_reducible repeat (first | apply Kd.R_alloc | apply Kd.R_drewN | apply Kd.R_drew)); exact Kd.R_mono (Kd.R_far (p := ⟨a7, 6, none⟩) (Kd.R_far (p := ⟨a7, 5, none⟩) (Kd.R_far (p := ⟨a7, 4, none⟩) (Kd.R_far (p := ⟨a7, 3, none⟩) (Kd.R_far (p := ⟨a7, 2, none⟩) (Kd.R_far (p := ⟨a7, 1, none⟩) (Kd.R_far (p := ⟨a7, 0, none⟩) (Kd.R_mono a9.out (fun k_ hk => (⟨hk, hk.2⟩ : _ ∧ k_ ≠ a7))) (fun _ hk => hk.2) (.bool (decide (a3 > 0)))) (fun _ hk => hk.2) (.int .i64 a4)) (fun _ hk => hk.2) (.int .i64 (wrap64 (a4 + a3)))) (fun _ hk => hk.2) (.int .i64 a5)) (fun _ hk => hk.2) (.int .i64 (wrap64 (a5 + a3)))) (fun _ hk => hk.2) (.int .i64 a6)) (fun _ hk => hk.2) (.int .i64 (wrap64 (a6 + a3)))) (fun _ hk => hk.1.2)⟩, ⟨by (with_reducible repeat (first | refine Qn ?_ _ | refine Qp ?_ | refine Ql ?_ _)); refine Za (cs := #[.bool (decide (a3 > 0)), .int .i64 a4, .int .i64 (wrap64 (a4 + a3)), .int .i64 a5, .int .i64 (wrap64 (a5 + a3)), .int .i64 a6, .int .i64 0]) ?_ 6 _ rfl; (with_reducible repeat (first | refine Qn ?_ _ | refine Qp ?_ | refine Ql ?_ _)); refine Za (cs := #[.bool (decide (a3 > 0)), .int .i64 a4, .int .i64 (wrap64 (a4 + a3)), .int .i64 a5, .int .i64 (wrap64 (a5 + a3)), .int .i64 0, .int .i64 0]) ?_ 5 _ rfl; (with_reducible repeat (first | refine Qn ?_ _ | refine Qp ?_ | refine Ql ?_ _)); refine Za (cs := #[.bool (decide (a3 > 0)), .int .i64 a4, .int .i64 (wrap64 (a4 + a3)), .int .i64 a5, .int .i64 0, .int .i64 0, .int .i64 0]) ?_ 4 _ rfl; (with_reducible repeat (first | refine Qn ?_ _ | refine Qp ?_ | refine Ql ?_ _)); refine Za (cs := #[.bool (decide (a3 > 0)), .int .i64 a4, .int .i64 (wrap64 (a4 + a3)), .int .i64 0, .int .i64 0, .int .i64 0, .int .i64 0]) ?_ 3 _ rfl; (with_reducible repeat (first | refine Qn ?_ _ | refine Qp ?_ | refine Ql ?_ _)); refine Za (cs := #[.bool (decide (a3 > 0)), .int .i64 a4, .int .i64 0, .int .i64 0, .int .i64 0, .int .i64 0, .int .i64 0]) ?_ 2 _ rfl; (with_reducible repeat (first | refine Qn ?_ _ | refine Qp ?_ | refine Ql ?_ _)); refine Za (cs := #[.bool (decide (a3 > 0)), .int .i64 0, .int .i64 0, .int .i64 0, .int .i64 0, .int .i64 0, .int .i64 0]) ?_ 1 _ rfl; (with_reducible repeat (first | refine Qn ?_ _ | refine Qp ?_ | refine Ql ?_ _)); refine Za (cs := #[.bool false, .int .i64 0, .int .i64 0, .int .i64 0, .int .i64 0, .int .i64 0, .int .i64 0]) ?_ 0 _ rfl; (with_reducible repeat (first | refine Qn ?_ _ | refine Qp ?_ | refine Ql ?_ _)); exact a8.out⟩, ⟨bw_⟩⟩
             case round =>
              clear H'
              try clear c1
              try clear c2
              try clear p2
              try clear c3
              try clear c4
              try clear c5
              try clear p6
              try clear c7
              try clear b7
              try clear c8
              try clear d7
              try clear c9
              try clear d8
              try clear c11
              try clear c16
              try clear c18
              try clear b6
              try clear c19
              try clear d9
              try clear c20
              try clear c22
              try clear d0
              try clear c24
              try clear g0
              try clear g1
              try clear c26
              try clear g2
              try clear g3
              try clear c27
              try clear g7
              try clear g8
              try clear e5
              try clear e6
              try clear e7
              try clear e8
              try clear e9
              try clear f0
              try clear f1
              try clear f2
              try clear f3
              try clear f4
              try clear f5
              try clear f6
              try clear f7
              try clear f8
              try clear p2
              try clear p6
              obtain ⟨b3, rfl, HA, HK5, a9, a8, HB⟩ := hrel
              cases gk with
              | zero => exact absurd HA.out (by simp [Qk.l2])
              | succ k5 =>
               have H := HA.out; clear HA
               simp only [Qk.l2] at H
               by_cases c31 : b3 < a0
               ·rw [if_pos c31] at H
                have e0 : decide (b3 < a0) = true := decide_eq_true c31; clear c31
                (first | rw [e0] | (simp only [Yx, Vi]; rw [e0]) | skip)
                replace H := Option.bind_eq_some_iff.mp H; obtain ⟨d4, n8, H⟩ := H; replace H : (if d4 < a5 then (Qk.l2 k5 a0 a1 a2 l3 l4 b0 a5 a6 (wrap64 (b3 + 1)) (decide (a3 > 0)) a4 (wrap64 (a4 + a3)) a5 (wrap64 (a5 + a3)) a6 (wrap64 (a6 + a3))) else ((Qx.f k5 l4 b3).bind fun d5 => (if d5 < a6 then (Qk.l2 k5 a0 a1 a2 l3 l4 b0 a5 a6 (wrap64 (b3 + 1)) (decide (a3 > 0)) a4 (wrap64 (a4 + a3)) a5 (wrap64 (a5 + a3)) a6 (wrap64 (a6 + a3))) else (Qk.j6 k5 a0 a1 a2 l3 l4 b0 b3 (decide (a3 > 0)) a4 (wrap64 (a4 + a3)) a5 (wrap64 (a5 + a3)) a6 (wrap64 (a6 + a3)))))) = some (r1, r2) := H; have A32 := Qa.mk n8; clear n8
                by_cases c33 : d4 < a5
                ·rw [if_pos c33] at H
                 have h4 : decide (d4 < a5) = true := decide_eq_true c33; clear c33; have H' := Qa.mk H; clear H; go_wp2_with (first | (go_at_call 95; (with_reducible refine (Qx.calls k5 _ _ l3 b3 d4 _ ?side1 ?side2 A32.out).mono ?_); (case side1 => repeat (first | exact (Kd.C_below HR3.out HB.out) | (with_reducible refine Kd.C_alloc ?_ _) | (with_reducible refine Kd.C_drewN ?_ _) | (with_reducible refine Kd.C_drew ?_))); (case side2 => exact HC3.out); rintro e w' ⟨rfl, ⟨nd, rfl⟩⟩; (try first | exact ⟨rfl, _, World.drewN_drewN _ _ _⟩ | exact ⟨rfl, _, Eq.trans (World.drewN_drewN _ _ _) (congrArg (World.drewN _) (Nat.add_assoc _ _ _))⟩)))
                 repeat (go_quiet (fail); try go_wp2_with (first | (go_at_call 95; (with_reducible refine (Qx.calls k5 _ _ l3 b3 d4 _ ?side1 ?side2 A32.out).mono ?_); (case side1 => repeat (first | exact (Kd.C_below HR3.out HB.out) | (with_reducible refine Kd.C_alloc ?_ _) | (with_reducible refine Kd.C_drewN ?_ _) | (with_reducible refine Kd.C_drew ?_))); (case side2 => exact HC3.out); rintro e w' ⟨rfl, ⟨nd, rfl⟩⟩; (try first | exact ⟨rfl, _, World.drewN_drewN _ _ _⟩ | exact ⟨rfl, _, Eq.trans (World.drewN_drewN _ _ _) (congrArg (World.drewN _) (Nat.add_assoc _ _ _))⟩))))
                 go_roundg k5
                 case measure => have := HJ5.out; have := HK2.out; have := HJ16.out; have := HJ20.out; have := HK5.out; omega
                 case rel => exact ⟨(wrap64 (b3 + 1)), sm_, H', ⟨by have := HJ5.out; have := HK2.out; have := HJ16.out; have := HJ20.out; have := HK5.out; omega⟩, ⟨ro_ a9.out⟩, ⟨by (with_reducible repeat (first | refine Qn ?_ _ | refine Qp ?_ | refine Ql ?_ _)); exact a8.out⟩, ⟨bw_⟩⟩
                ·rw [if_neg c33] at H
                 have h4 : decide (d4 < a5) = false := decide_eq_false c33; clear c33; replace H := Option.bind_eq_some_iff.mp H; obtain ⟨d5, n9, H⟩ := H; replace H : (if d5 < a6 then (Qk.l2 k5 a0 a1 a2 l3 l4 b0 a5 a6 (wrap64 (b3 + 1)) (decide (a3 > 0)) a4 (wrap64 (a4 + a3)) a5 (wrap64 (a5 + a3)) a6 (wrap64 (a6 + a3))) else (Qk.j6 k5 a0 a1 a2 l3 l4 b0 b3 (decide (a3 > 0)) a4 (wrap64 (a4 + a3)) a5 (wrap64 (a5 + a3)) a6 (wrap64 (a6 + a3)))) = some (r1, r2) := H; have A34 := Qa.mk n9; clear n9
                 by_cases c35 : d5 < a6
                 ·rw [if_pos c35] at H
                  have h5 : decide (d5 < a6) = true := decide_eq_true c35; clear c35; have H' := Qa.mk H; clear H; go_wp2_with (first | (go_at_call 95; (with_reducible refine (Qx.calls k5 _ _ l3 b3 d4 _ ?side1 ?side2 A32.out).mono ?_); (case side1 => repeat (first | exact (Kd.C_below HR3.out HB.out) | (with_reducible refine Kd.C_alloc ?_ _) | (with_reducible refine Kd.C_drewN ?_ _) | (with_reducible refine Kd.C_drew ?_))); (case side2 => exact HC3.out); rintro e w' ⟨rfl, ⟨nd, rfl⟩⟩; (try first | exact ⟨rfl, _, World.drewN_drewN _ _ _⟩ | exact ⟨rfl, _, Eq.trans (World.drewN_drewN _ _ _) (congrArg (World.drewN _) (Nat.add_assoc _ _ _))⟩)) | (go_at_call 95; (with_reducible refine (Qx.calls k5 _ _ l4 b3 d5 _ ?side1 ?side2 A34.out).mono ?_); (case side1 => repeat (first | exact (Kd.C_below HR4.out bw_) | (with_reducible refine Kd.C_alloc ?_ _) | (with_reducible refine Kd.C_drewN ?_ _) | (with_reducible refine Kd.C_drew ?_))); (case side2 => exact HC4.out); rintro e w' ⟨rfl, ⟨nd, rfl⟩⟩; (try first | exact ⟨rfl, _, World.drewN_drewN _ _ _⟩ | exact ⟨rfl, _, Eq.trans (World.drewN_drewN _ _ _) (congrArg (World.drewN _) (Nat.add_assoc _ _ _))⟩)))
                  repeat (go_quiet (fail); try go_wp2_with (first | (go_at_call 95; (with_reducible refine (Qx.calls k5 _ _ l3 b3 d4 _ ?side1 ?side2 A32.out).mono ?_); (case side1 => repeat (first | exact (Kd.C_below HR3.out HB.out) | (with_reducible refine Kd.C_alloc ?_ _) | (with_reducible refine Kd.C_drewN ?_ _) | (with_reducible refine Kd.C_drew ?_))); (case side2 => exact HC3.out); rintro e w' ⟨rfl, ⟨nd, rfl⟩⟩; (try first | exact ⟨rfl, _, World.drewN_drewN _ _ _⟩ | exact ⟨rfl, _, Eq.trans (World.drewN_drewN _ _ _) (congrArg (World.drewN _) (Nat.add_assoc _ _ _))⟩)) | (go_at_call 95; (with_reducible refine (Qx.calls k5 _ _ l4 b3 d5 _ ?side1 ?side2 A34.out).mono ?_); (case side1 => repeat (first | exact (Kd.C_below HR4.out bw_) | (with_reducible refine Kd.C_alloc ?_ _) | (with_reducible refine Kd.C_drewN ?_ _) | (with_reducible refine Kd.C_drew ?_))); (case side2 => exact HC4.out); rintro e w' ⟨rfl, ⟨nd, rfl⟩⟩; (try first | exact ⟨rfl, _, World.drewN_drewN _ _ _⟩ | exact ⟨rfl, _, Eq.trans (World.drewN_drewN _ _ _) (congrArg (World.drewN _) (Nat.add_assoc _ _ _))⟩))))
                  go_roundg k5
                  case measure => have := HJ5.out; have := HK2.out; have := HJ16.out; have := HJ20.out; have := HK5.out; omega
                  case rel => exact ⟨(wrap64 (b3 + 1)), sm_, H', ⟨by have := HJ5.out; have := HK2.out; have := HJ16.out; have := HJ20.out; have := HK5.out; omega⟩, ⟨ro_ a9.out⟩, ⟨by (with_reducible repeat (first | refine Qn ?_ _ | refine Qp ?_ | refine Ql ?_ _)); exact a8.out⟩, ⟨bw_⟩⟩
                 ·rw [if_neg c35] at H
                  have h5 : decide (d5 < a6) = false := decide_eq_false c35; clear c35; have H' := Qa.mk H; clear H; go_wp2_with (first | (go_at_call 95; (with_reducible refine (Qx.calls k5 _ _ l3 b3 d4 _ ?side1 ?side2 A32.out).mono ?_); (case side1 => repeat (first | exact (Kd.C_below HR3.out HB.out) | (with_reducible refine Kd.C_alloc ?_ _) | (with_reducible refine Kd.C_drewN ?_ _) | (with_reducible refine Kd.C_drew ?_))); (case side2 => exact HC3.out); rintro e w' ⟨rfl, ⟨nd, rfl⟩⟩; (try first | exact ⟨rfl, _, World.drewN_drewN _ _ _⟩ | exact ⟨rfl, _, Eq.trans (World.drewN_drewN _ _ _) (congrArg (World.drewN _) (Nat.add_assoc _ _ _))⟩)) | (go_at_call 95; (with_reducible refine (Qx.calls k5 _ _ l4 b3 d5 _ ?side1 ?side2 A34.out).mono ?_); (case side1 => repeat (first | exact (Kd.C_below HR4.out bw_) | (with_reducible refine Kd.C_alloc ?_ _) | (with_reducible refine Kd.C_drewN ?_ _) | (with_reducible refine Kd.C_drew ?_))); (case side2 => exact HC4.out); rintro e w' ⟨rfl, ⟨nd, rfl⟩⟩; (try first | exact ⟨rfl, _, World.drewN_drewN _ _ _⟩ | exact ⟨rfl, _, Eq.trans (World.drewN_drewN _ _ _) (congrArg (World.drewN _) (Nat.add_assoc _ _ _))⟩)))
                  repeat (go_quiet (fail); try go_wp2_with (first | (go_at_call 95; (with_reducible refine (Qx.calls k5 _ _ l3 b3 d4 _ ?side1 ?side2 A32.out).mono ?_); (case side1 => repeat (first | exact (Kd.C_below HR3.out HB.out) | (with_reducible refine Kd.C_alloc ?_ _) | (with_reducible refine Kd.C_drewN ?_ _) | (with_reducible refine Kd.C_drew ?_))); (case side2 => exact HC3.out); rintro e w' ⟨rfl, ⟨nd, rfl⟩⟩; (try first | exact ⟨rfl, _, World.drewN_drewN _ _ _⟩ | exact ⟨rfl, _, Eq.trans (World.drewN_drewN _ _ _) (congrArg (World.drewN _) (Nat.add_assoc _ _ _))⟩)) | (go_at_call 95; (with_reducible refine (Qx.calls k5 _ _ l4 b3 d5 _ ?side1 ?side2 A34.out).mono ?_); (case side1 => repeat (first | exact (Kd.C_below HR4.out bw_) | (with_reducible refine Kd.C_alloc ?_ _) | (with_reducible refine Kd.C_drewN ?_ _) | (with_reducible refine Kd.C_drew ?_))); (case side2 => exact HC4.out); rintro e w' ⟨rfl, ⟨nd, rfl⟩⟩; (try first | exact ⟨rfl, _, World.drewN_drewN _ _ _⟩ | exact ⟨rfl, _, Eq.trans (World.drewN_drewN _ _ _) (congrArg (World.drewN _) (Nat.add_assoc _ _ _))⟩))))
                  go_meet
                  case rel => exact ⟨_, (b3), sm_, H', ⟨by have := HJ5.out; have := HK2.out; have := HJ16.out; have := HJ20.out; have := HK5.out; first | omega | exact Nat.le_refl _⟩, ⟨ro_ a9.out⟩, ⟨by (with_reducible repeat (first | refine Qn ?_ _ | refine Qp ?_ | refine Ql ?_ _)); exact a8.out⟩, ⟨bw_⟩⟩
               ·rw [if_neg c31] at H
                have e0 : decide (b3 < a0) = false := decide_eq_false c31; clear c31
                (first | rw [e0] | (simp only [Yx, Vi]; rw [e0]) | skip)
                have H' := Qa.mk H; clear H
                go_wp2
                repeat (go_quiet (fail); try go_wp2)
                go_meet
                case rel => exact ⟨_, (b3), sm_, H', ⟨by have := HJ5.out; have := HK2.out; have := HJ16.out; have := HJ20.out; have := HK5.out; first | omega | exact Nat.le_refl _⟩, ⟨ro_ a9.out⟩, ⟨by (with_reducible repeat (first | refine Qn ?_ _ | refine Qp ?_ | refine Ql ?_ _)); exact a8.out⟩, ⟨bw_⟩⟩
            case rest =>
             clear h3
             try clear c1
             try clear c2
             try clear p2
             try clear c3
             try clear c4
             try clear c5
             try clear p6
             try clear c7
             try clear b7
             try clear c8
             try clear d7
             try clear c9
             try clear d8
             try clear c11
             try clear c16
             try clear c18
             try clear b6
             try clear c19
             try clear d9
             try clear c20
             try clear c22
             try clear d0
             try clear c24
             try clear g0
             try clear g1
             try clear c26
             try clear g2
             try clear g3
             try clear c27
             try clear g7
             try clear g8
             try clear c31
             try clear e0
             try clear c33
             try clear h4
             try clear c35
             try clear h5
             try clear e5
             try clear e6
             try clear e7
             try clear e8
             try clear e9
             try clear f0
             try clear f1
             try clear f2
             try clear f3
             try clear f4
             try clear f5
             try clear f6
             try clear f7
             try clear f8
             try clear p2
             try clear p6
             obtain ⟨kq, b2, rfl, HA, HJ27, a9, a8, HB⟩ := hcut
             cases kq with
             | zero => exact absurd HA.out (by simp [Qk.j6])
             | succ d6 =>
              have H := HA.out; clear HA
              simp only [Qk.j6] at H
              by_cases c36 : b2 < a0
              ·rw [if_pos c36] at H
               have o5 : decide (b2 < a0) = true := decide_eq_true c36; clear c36; replace H := Option.bind_eq_some_iff.mp H; obtain ⟨b5, o0, H⟩ := H; replace H : ((Qx.f d6 l4 b2).bind fun b4 => (if b0.length < 2513169434916 then (Qk.l0 d6 a0 a1 a2 l3 l4 (b0 ++ [(⟨(decide (a3 > 0)), (⟨a4, b2⟩ : S79), (⟨a5, b5⟩ : S79), (⟨a6, b4⟩ : S79)⟩ : S81)]) b2 b5 b4) else (none))) = some (r1, r2) := H; have A37 := Qa.mk o0; clear o0; replace H := Option.bind_eq_some_iff.mp H; obtain ⟨b4, o1, H⟩ := H; replace H : (if b0.length < 2513169434916 then (Qk.l0 d6 a0 a1 a2 l3 l4 (b0 ++ [(⟨(decide (a3 > 0)), (⟨a4, b2⟩ : S79), (⟨a5, b5⟩ : S79), (⟨a6, b4⟩ : S79)⟩ : S81)]) b2 b5 b4) else (none)) = some (r1, r2) := H; have A38 := Qa.mk o1; clear o1
               by_cases c39 : b0.length < 2513169434916
               ·rw [if_pos c39] at H
                have o6 := Qa.mk c39; clear c39; obtain ⟨o2, e2⟩ : ∃ y_ : List (S81), y_ = (b0 ++ [(⟨(decide (a3 > 0)), (⟨a4, b2⟩ : S79), (⟨a5, b5⟩ : S79), (⟨a6, b4⟩ : S79)⟩ : S81)]) := ⟨_, rfl⟩
                replace H : (Qk.l0 d6 a0 a1 a2 l3 l4 o2 b2 b5 b4) = some (r1, r2) := by first | (rw [e2]; with_reducible exact H) | (have H2_ := (Option.bind_some _ _).symm.trans H; rw [e2]; with_reducible exact H2_) | (have H2_ := (Option.bind_some _ _).symm.trans H; with_reducible exact H2_) | with_reducible exact H | (rw [e2]; exact H) | exact H
                have o7 := Qa.mk e2; clear e2; have H' := Qa.mk H; clear H; have h9 : wc.cell? ⟨a7, 0, none⟩ = some (.bool (decide (a3 > 0))) := (Qc a8.out 0).trans rfl; have i0 : wc.cell? ⟨a7, 1, none⟩ = some (.int .i64 a4) := (Qc a8.out 1).trans rfl; have i1 : wc.cell? ⟨a7, 2, none⟩ = some (.int .i64 (wrap64 (a4 + a3))) := (Qc a8.out 2).trans rfl; have i2 : wc.cell? ⟨a7, 3, none⟩ = some (.int .i64 a5) := (Qc a8.out 3).trans rfl; have i3 : wc.cell? ⟨a7, 4, none⟩ = some (.int .i64 (wrap64 (a5 + a3))) := (Qc a8.out 4).trans rfl; have i4 : wc.cell? ⟨a7, 5, none⟩ = some (.int .i64 a6) := (Qc a8.out 5).trans rfl; have i5 : wc.cell? ⟨a7, 6, none⟩ = some (.int .i64 (wrap64 (a6 + a3))) := (Qc a8.out 6).trans rfl; have i6 := Qe a8.out 0; have i7 := Qe a8.out 1; have i8 := Qe a8.out 2; have i9 := Qe a8.out 3; have j3 := Qe a8.out 4; have j5 := Qe a8.out 5; have j7 := Qe a8.out 6; go_wp2_with fail; have BK2 := Qa.mk (Za (Za (Za a8.out 2 (.int .i64 a0) rfl) 4 (.int .i64 a1) rfl) 6 (.int .i64 a2) rfl); have HB2 := Qa.mk (Qr (j := 6) (v := .int .i64 a2) (Qr (j := 4) (v := .int .i64 a1) (Qr (j := 2) (v := .int .i64 a0) HB.out GE105.out) GE105.out) GE105.out); have HO2 := Qa.mk (Kd.R_far (p := ⟨a7, 6, none⟩) (Kd.R_far (p := ⟨a7, 4, none⟩) (Kd.R_far (p := ⟨a7, 2, none⟩) a9.out (fun _ hk => hk) (.int .i64 a0)) (fun _ hk => hk) (.int .i64 a1)) (fun _ hk => hk) (.int .i64 a2))
                generalize (((wc.setCell ⟨a7, 2, none⟩ (.int .i64 a0)).setCell ⟨a7, 4, none⟩ (.int .i64 a1)).setCell ⟨a7, 6, none⟩ (.int .i64 a2)) = W2 at BK2 HB2 HO2 ⊢
                clear a8 HB a9 h9 i6 i0 i7 i1 i8 i2 i9 i3 j3 i4 j5 i5 j7; refine (Qx.calls d6 A3 c3 l3 b2 b5 W2 (Kd.C_below HR3.out HB2.out) HC3.out A37.out).mono ?_; rintro e w' ⟨rfl, ⟨nd, rfl⟩⟩; have BK3 := Qa.mk (Qn BK2.out nd); have HB3 := Qa.mk (Qf HB2.out nd); have HO3 := Qa.mk (Kd.R_drewN HO2.out nd)
                generalize W2.drewN nd = W3 at BK3 HB3 HO3 ⊢
                clear BK2 HB2 HO2; go_wp2_with fail; refine (Qx.calls d6 A4 c4 l4 b2 b4 W3 (Kd.C_below HR4.out HB3.out) HC4.out A38.out).mono ?_; rintro e w' ⟨rfl, ⟨nd, rfl⟩⟩; have BK4 := Qa.mk (Qn BK3.out nd); have HB4 := Qa.mk (Qf HB3.out nd); have HO4 := Qa.mk (Kd.R_drewN HO3.out nd)
                generalize W3.drewN nd = W4 at BK4 HB4 HO4 ⊢
                clear BK3 HB3 HO3; have hc0 : W4.cell? ⟨a7, 0, none⟩ = some (.bool (decide (a3 > 0))) := (Qc BK4.out 0).trans rfl; have hc1 : W4.cell? ⟨a7, 1, none⟩ = some (.int .i64 a4) := (Qc BK4.out 1).trans rfl; have hc2 : W4.cell? ⟨a7, 2, none⟩ = some (.int .i64 a0) := (Qc BK4.out 2).trans rfl; have hc3 : W4.cell? ⟨a7, 3, none⟩ = some (.int .i64 a5) := (Qc BK4.out 3).trans rfl; have hc4 : W4.cell? ⟨a7, 4, none⟩ = some (.int .i64 a1) := (Qc BK4.out 4).trans rfl; have hc5 : W4.cell? ⟨a7, 5, none⟩ = some (.int .i64 a6) := (Qc BK4.out 5).trans rfl; have hc6 : W4.cell? ⟨a7, 6, none⟩ = some (.int .i64 a2) := (Qc BK4.out 6).trans rfl; have hf0 := Qe BK4.out 0; have hf1 := Qe BK4.out 1; have hf2 := Qe BK4.out 2; have hf3 := Qe BK4.out 3; have hf4 := Qe BK4.out 4; have hf5 := Qe BK4.out 5; have hf6 := Qe BK4.out 6; have BK5 := Qa.mk (Za (Za (Za BK4.out 2 (.int .i64 b2) rfl) 4 (.int .i64 b5) rfl) 6 (.int .i64 b4) rfl); have HB5 := Qa.mk (Qr (j := 6) (v := .int .i64 b4) (Qr (j := 4) (v := .int .i64 b5) (Qr (j := 2) (v := .int .i64 b2) HB4.out GE105.out) GE105.out) GE105.out); have HO5 := Qa.mk (Kd.R_far (p := ⟨a7, 6, none⟩) (Kd.R_far (p := ⟨a7, 4, none⟩) (Kd.R_far (p := ⟨a7, 2, none⟩) HO4.out (fun _ hk => hk) (.int .i64 b2)) (fun _ hk => hk) (.int .i64 b5)) (fun _ hk => hk) (.int .i64 b4)); go_wp2_with (first | ((with_reducible refine Xl (b := .append) (xs := #[.tmp 150, .tmp 152]) rfl ?_); at_builtin; refine Kd.R_append k81 (w0 := w) w.heap.size rfl (.tmp 150) (.tmp 152) 70 81 (.agg #[(.bool false), (.int .i64 0), (.int .i64 0), (.int .i64 0), (.int .i64 0), (.int .i64 0), (.int .i64 0)]) 56 rfl Try.underlying70 Qio rfl (by decide) (by omega) u12 b0 (⟨(decide (a3 > 0)), (⟨a4, b2⟩ : S79), (⟨a5, b5⟩ : S79), (⟨a6, b4⟩ : S79)⟩ : S81) [.bool (decide (a3 > 0)), .int .i64 a4, .int .i64 b2, .int .i64 a5, .int .i64 b5, .int .i64 a6, .int .i64 b4] (fun k_ => k_ ≠ a7) (fun _ => False) rfl (by first | (go_simp; done) | (go_simp; rfl)) ?aP (fun _ hk => hk.elim) ?aF ?aO ?aB ?aS ?aL ?_; (case aP => exact Qfw _ _ _ (⟨(decide (a3 > 0)), (⟨a4, b2⟩ : S79), (⟨a5, b5⟩ : S79), (⟨a6, b4⟩ : S79)⟩ : S81)); (case aB => exact HB5.out); (case aF => exact (fun k_ hk => Kd.freshB (g := a7) (o := .cells #[.bool (decide (a3 > 0)), .int .i64 a4, .int .i64 b2, .int .i64 a5, .int .i64 b5, .int .i64 a6, .int .i64 b4] 81 (0, 0)) BK5.out k_ hk)); (case aO => exact HO5.out); (case aS => exact Qo HB5.out); (case aL => have := o6.out; omega); intro v6 w6 ho hb hg hat; rw [← o7.out] at ho; have BK6 := Qa.mk (Ym (g := a7) (o := .cells #[.bool (decide (a3 > 0)), .int .i64 a4, .int .i64 b2, .int .i64 a5, .int .i64 b5, .int .i64 a6, .int .i64 b4] 81 (0, 0)) BK5.out hg (Kd.R_away HO5.out (fun _ hk => hk))); have HB6 := Qa.mk hb; have HO6 := Qa.mk ho; clear ho hb hg hat; obtain ⟨gc0, gc1, gc2, gc3, gc4, gc5, gc6⟩ := Qbv BK6.out; obtain ⟨gf0, gf1, gf2, gf3, gf4, gf5, gf6⟩ := Qdx BK6.out))
                go_quiet (fail)
                go_wp2_with fail
                go_roundg d6
                case measure => have := HJ5.out; have := HK2.out; have := HJ16.out; have := HJ20.out; have := HJ27.out; omega
                case rel => exact ⟨(o2), (b2), (b5), (b4), sm_, sm_, sm_, H', ⟨by have := HJ5.out; have := HK2.out; have := HJ16.out; have := HJ20.out; have := HJ27.out; omega⟩, ⟨by (with_reducible repeat (first | apply Kd.R_alloc | apply Kd.R_drewN | apply Kd.R_drew)); exact Kd.R_mono HO6.out (fun _ hk => trivial)⟩, ⟨by repeat (first | (with_reducible first | exact HB6.out | apply Qh | apply Qf | apply Qi | refine Qr ?_ GE105.out) | exact HB6.out)⟩⟩
               ·rw [if_neg c39] at H
                exact absurd H (by simp)
              ·rw [if_neg c36] at H
               have o5 : decide (b2 < a0) = false := decide_eq_false c36; clear c36
               by_cases c43 : b0.length < 2513169434916
               ·rw [if_pos c43] at H
                have o8 := Qa.mk c43; clear c43; obtain ⟨o3, e3⟩ : ∃ y_ : List (S81), y_ = (b0 ++ [(⟨(decide (a3 > 0)), (⟨a4, a0⟩ : S79), (⟨a5, a1⟩ : S79), (⟨a6, a2⟩ : S79)⟩ : S81)]) := ⟨_, rfl⟩
                replace H : (Qk.l0 d6 a0 a1 a2 l3 l4 o3 a0 a1 a2) = some (r1, r2) := by first | (rw [e3]; with_reducible exact H) | (have H2_ := (Option.bind_some _ _).symm.trans H; rw [e3]; with_reducible exact H2_) | (have H2_ := (Option.bind_some _ _).symm.trans H; with_reducible exact H2_) | with_reducible exact H | (rw [e3]; exact H) | exact H
                have o9 := Qa.mk e3; clear e3; have H' := Qa.mk H; clear H; have p1 : wc.cell? ⟨a7, 0, none⟩ = some (.bool (decide (a3 > 0))) := (Qc a8.out 0).trans rfl; have p3 : wc.cell? ⟨a7, 1, none⟩ = some (.int .i64 a4) := (Qc a8.out 1).trans rfl; have p4 : wc.cell? ⟨a7, 2, none⟩ = some (.int .i64 (wrap64 (a4 + a3))) := (Qc a8.out 2).trans rfl; have p5 : wc.cell? ⟨a7, 3, none⟩ = some (.int .i64 a5) := (Qc a8.out 3).trans rfl; have p7 : wc.cell? ⟨a7, 4, none⟩ = some (.int .i64 (wrap64 (a5 + a3))) := (Qc a8.out 4).trans rfl; have p8 : wc.cell? ⟨a7, 5, none⟩ = some (.int .i64 a6) := (Qc a8.out 5).trans rfl; have p9 : wc.cell? ⟨a7, 6, none⟩ = some (.int .i64 (wrap64 (a6 + a3))) := (Qc a8.out 6).trans rfl; have q0 := Qe a8.out 0; have q1 := Qe a8.out 1; have q2 := Qe a8.out 2; have q3 := Qe a8.out 3; have q4 := Qe a8.out 4; have q5 := Qe a8.out 5; have q6 := Qe a8.out 6; have BK5 := Qa.mk (Za (Za (Za a8.out 2 (.int .i64 a0) rfl) 4 (.int .i64 a1) rfl) 6 (.int .i64 a2) rfl); have HB5 := Qa.mk (Qr (j := 6) (v := .int .i64 a2) (Qr (j := 4) (v := .int .i64 a1) (Qr (j := 2) (v := .int .i64 a0) HB.out GE105.out) GE105.out) GE105.out); have HO5 := Qa.mk (Kd.R_far (p := ⟨a7, 6, none⟩) (Kd.R_far (p := ⟨a7, 4, none⟩) (Kd.R_far (p := ⟨a7, 2, none⟩) a9.out (fun _ hk => hk) (.int .i64 a0)) (fun _ hk => hk) (.int .i64 a1)) (fun _ hk => hk) (.int .i64 a2)); go_wp2_with (first | ((with_reducible refine Xl (b := .append) (xs := #[.tmp 150, .tmp 152]) rfl ?_); at_builtin; refine Kd.R_append k81 (w0 := w) w.heap.size rfl (.tmp 150) (.tmp 152) 70 81 (.agg #[(.bool false), (.int .i64 0), (.int .i64 0), (.int .i64 0), (.int .i64 0), (.int .i64 0), (.int .i64 0)]) 56 rfl Try.underlying70 Qio rfl (by decide) (by omega) u12 b0 (⟨(decide (a3 > 0)), (⟨a4, a0⟩ : S79), (⟨a5, a1⟩ : S79), (⟨a6, a2⟩ : S79)⟩ : S81) [.bool (decide (a3 > 0)), .int .i64 a4, .int .i64 a0, .int .i64 a5, .int .i64 a1, .int .i64 a6, .int .i64 a2] (fun k_ => k_ ≠ a7) (fun _ => False) rfl (by first | (go_simp; done) | (go_simp; rfl)) ?aP (fun _ hk => hk.elim) ?aF ?aO ?aB ?aS ?aL ?_; (case aP => exact Qfw _ _ _ (⟨(decide (a3 > 0)), (⟨a4, a0⟩ : S79), (⟨a5, a1⟩ : S79), (⟨a6, a2⟩ : S79)⟩ : S81)); (case aB => exact HB5.out); (case aF => exact (fun k_ hk => Kd.freshB (g := a7) (o := .cells #[.bool (decide (a3 > 0)), .int .i64 a4, .int .i64 a0, .int .i64 a5, .int .i64 a1, .int .i64 a6, .int .i64 a2] 81 (0, 0)) BK5.out k_ hk)); (case aO => exact HO5.out); (case aS => exact Qo HB5.out); (case aL => have := o8.out; omega); intro v6 w6 ho hb hg hat; rw [← o9.out] at ho; have BK6 := Qa.mk (Ym (g := a7) (o := .cells #[.bool (decide (a3 > 0)), .int .i64 a4, .int .i64 a0, .int .i64 a5, .int .i64 a1, .int .i64 a6, .int .i64 a2] 81 (0, 0)) BK5.out hg (Kd.R_away HO5.out (fun _ hk => hk))); have HB6 := Qa.mk hb; have HO6 := Qa.mk ho; clear ho hb hg hat; obtain ⟨gc0, gc1, gc2, gc3, gc4, gc5, gc6⟩ := Qbv BK6.out; obtain ⟨gf0, gf1, gf2, gf3, gf4, gf5, gf6⟩ := Qdx BK6.out))
                go_quiet (fail)
                go_wp2_with fail
                go_roundg d6
                case measure => have := HJ5.out; have := HK2.out; have := HJ16.out; have := HJ20.out; have := HJ27.out; omega
                case rel => exact ⟨(o3), (a0), (a1), (a2), sm_, sm_, sm_, H', ⟨by have := HJ5.out; have := HK2.out; have := HJ16.out; have := HJ20.out; have := HJ27.out; omega⟩, ⟨by (with_reducible repeat (first | apply Kd.R_alloc | apply Kd.R_drewN | apply Kd.R_drew)); exact Kd.R_mono HO6.out (fun _ hk => trivial)⟩, ⟨by repeat (first | (with_reducible first | exact HB6.out | apply Qh | apply Qf | apply Qi | refine Qr ?_ GE105.out) | exact HB6.out)⟩⟩
               ·rw [if_neg c43] at H
                exact absurd H (by simp)
           ·rw [if_neg c27] at H
            have g7 : (a3 == 0) = false := beq_eq_false_iff_ne.mpr c27; have g8 : (a3 != 0) = true := bne_iff_ne.mpr c27
            by_cases c47 : b0.length < 2513169434916
            ·rw [if_pos c47] at H
             have h6 := Qa.mk c47; clear c47; obtain ⟨o4, e4⟩ : ∃ y_ : List (S81), y_ = (b0 ++ [(⟨decide (a3 > 0), (⟨a4, wrap64 (a4 + a3)⟩ : S79), (⟨a5, wrap64 (a5 + a3)⟩ : S79), (⟨a6, wrap64 (a6 + a3)⟩ : S79)⟩ : S81)]) := ⟨_, rfl⟩
             replace H : (Qk.l0 g4 a0 a1 a2 l3 l4 o4 (wrap64 (a4 + a3)) (wrap64 (a5 + a3)) (wrap64 (a6 + a3))) = some (r1, r2) := by first | (rw [e4]; with_reducible exact H) | (have H2_ := (Option.bind_some _ _).symm.trans H; rw [e4]; with_reducible exact H2_) | (have H2_ := (Option.bind_some _ _).symm.trans H; with_reducible exact H2_) | with_reducible exact H | (rw [e4]; exact H) | exact H
             have h7 := Qa.mk e4; clear e4; have H' := Qa.mk H; clear H; go_wp2_with (first | ((with_reducible refine Zd (N := 17) rfl ?_); refine Zc ?hg (N := 17) ?hd (cs := #[.bool false, .int .i64 0, .int .i64 0, .int .i64 0, .int .i64 0, .int .i64 0, .int .i64 0]) (t := 81) ?hr ?_; (case hd => rfl); (case hg => rfl); (case hr => first | (go_simp; done) | (go_simp; rfl)); intro a7 hg w48 hbox hb; have n0_ := Qa.mk (Kd.R_below (Kd.R_elderB (ro_ a9.out) a7 (Nat.le_of_eq hg.symm)) hb); have n1_ := Qa.mk (Qj bw_ hb); have n2_ := Qa.mk (hbox); have n3_ := Qa.mk ((gw_ hg : w.heap.size ≤ a7)); have n4_ := Qa.mk ((gw_ hg : w.heap.size ≤ a7)); clear a9; clear HB; have a9 := n0_; have HB := n1_; have a8 := n2_; have g9 := n3_; have GE105 := n4_; clear n0_ n1_ n2_ n3_ n4_; clear hb hbox hg; obtain ⟨j8, j9, k0, k1, k3, k6, k7⟩ := Qbv a8.out; obtain ⟨k8, k9, l5, l6, l7, l8, l9⟩ := Qdx a8.out) | ((with_reducible refine Xl (b := .append) (xs := #[.tmp 150, .tmp 152]) rfl ?_); at_builtin; refine Kd.R_append k81 (w0 := w) w.heap.size rfl (.tmp 150) (.tmp 152) 70 81 (.agg #[(.bool false), (.int .i64 0), (.int .i64 0), (.int .i64 0), (.int .i64 0), (.int .i64 0), (.int .i64 0)]) 56 rfl Try.underlying70 Qio rfl (by decide) (by omega) u12 b0 (⟨decide (a3 > 0), (⟨a4, wrap64 (a4 + a3)⟩ : S79), (⟨a5, wrap64 (a5 + a3)⟩ : S79), (⟨a6, wrap64 (a6 + a3)⟩ : S79)⟩ : S81) [.bool (decide (a3 > 0)), .int .i64 a4, .int .i64 (wrap64 (a4 + a3)), .int .i64 a5, .int .i64 (wrap64 (a5 + a3)), .int .i64 a6, .int .i64 (wrap64 (a6 + a3))] (fun k_ => k_ ≠ a7) (fun _ => False) rfl (by first | (go_simp; done) | (go_simp; rfl)) ?aP (fun _ hk => hk.elim) ?aF ?aO ?aB ?aS ?aL ?_; (case aP => exact Qfw _ _ _ (⟨decide (a3 > 0), (⟨a4, wrap64 (a4 + a3)⟩ : S79), (⟨a5, wrap64 (a5 + a3)⟩ : S79), (⟨a6, wrap64 (a6 + a3)⟩ : S79)⟩ : S81)); (case aB => exact bw_); (case aF => exact (fun k_ hk => Kd.freshB (g := a7) (o := .cells #[.bool (decide (a3 > 0)), .int .i64 a4, .int .i64 (wrap64 (a4 + a3)), .int .i64 a5, .int .i64 (wrap64 (a5 + a3)), .int .i64 a6, .int .i64 (wrap64 (a6 + a3))] 81 (0, 0)) (by (with_reducible repeat (first | refine Qn ?_ _ | refine Qp ?_ | refine Ql ?_ _)); refine Za (cs := #[.bool (decide (a3 > 0)), .int .i64 a4, .int .i64 (wrap64 (a4 + a3)), .int .i64 a5, .int .i64 (wrap64 (a5 + a3)), .int .i64 a6, .int .i64 0]) ?_ 6 _ rfl; (with_reducible repeat (first | refine Qn ?_ _ | refine Qp ?_ | refine Ql ?_ _)); refine Za (cs := #[.bool (decide (a3 > 0)), .int .i64 a4, .int .i64 (wrap64 (a4 + a3)), .int .i64 a5, .int .i64 (wrap64 (a5 + a3)), .int .i64 0, .int .i64 0]) ?_ 5 _ rfl; (with_reducible repeat (first | refine Qn ?_ _ | refine Qp ?_ | refine Ql ?_ _)); refine Za (cs := #[.bool (decide (a3 > 0)), .int .i64 a4, .int .i64 (wrap64 (a4 + a3)), .int .i64 a5, .int .i64 0, .int .i64 0, .int .i64 0]) ?_ 4 _ rfl; (with_reducible repeat (first | refine Qn ?_ _ | refine Qp ?_ | refine Ql ?_ _)); refine Za (cs := #[.bool (decide (a3 > 0)), .int .i64 a4, .int .i64 (wrap64 (a4 + a3)), .int .i64 0, .int .i64 0, .int .i64 0, .int .i64 0]) ?_ 3 _ rfl; (with_reducible repeat (first | refine Qn ?_ _ | refine Qp ?_ | refine Ql ?_ _)); refine Za (cs := #[.bool (decide (a3 > 0)), .int .i64 a4, .int .i64 0, .int .i64 0, .int .i64 0, .int .i64 0, .int .i64 0]) ?_ 2 _ rfl; (with_reducible repeat (first | refine Qn ?_ _ | refine Qp ?_ | refine Ql ?_ _)); refine Za (cs := #[.bool (decide (a3 > 0)), .int .i64 0, .int .i64 0, .int .i64 0, .int .i64 0, .int .i64 0, .int .i64 0]) ?_ 1 _ rfl; (with_reducible repeat (first | refine Qn ?_ _ | refine Qp ?_ | refine Ql ?_ _)); refine Za (cs := #[.bool false, .int .i64 0, .int .i64 0, .int .i64 0, .int .i64 0, .int .i64 0, .int .i64 0]) ?_ 0 _ rfl; (with_reducible repeat (first | refine Qn ?_ _ | refine Qp ?_ | refine Ql ?_ _)); exact a8.out) k_ hk)); (case aO => exact (ro_ (Kd.R_mono (Kd.R_far (p := ⟨a7, 6, none⟩) (Kd.R_far (p := ⟨a7, 5, none⟩) (Kd.R_far (p := ⟨a7, 4, none⟩) (Kd.R_far (p := ⟨a7, 3, none⟩) (Kd.R_far (p := ⟨a7, 2, none⟩) (Kd.R_far (p := ⟨a7, 1, none⟩) (Kd.R_far (p := ⟨a7, 0, none⟩) (Kd.R_mono a9.out (fun k_ hk => (⟨hk, hk.2⟩ : _ ∧ k_ ≠ a7))) (fun _ hk => hk.2) (.bool (decide (a3 > 0)))) (fun _ hk => hk.2) (.int .i64 a4)) (fun _ hk => hk.2) (.int .i64 (wrap64 (a4 + a3)))) (fun _ hk => hk.2) (.int .i64 a5)) (fun _ hk => hk.2) (.int .i64 (wrap64 (a5 + a3)))) (fun _ hk => hk.2) (.int .i64 a6)) (fun _ hk => hk.2) (.int .i64 (wrap64 (a6 + a3)))) (fun _ hk => hk.1.2)))); (case aS => exact (Qo bw_)); (case aL => have := h6.out; omega); intro p0 w50 ho hb hg hat; rw [← h7.out] at ho; have n0_ := Qa.mk (Ym (g := a7) (o := .cells #[.bool (decide (a3 > 0)), .int .i64 a4, .int .i64 (wrap64 (a4 + a3)), .int .i64 a5, .int .i64 (wrap64 (a5 + a3)), .int .i64 a6, .int .i64 (wrap64 (a6 + a3))] 81 (0, 0)) (by (with_reducible repeat (first | refine Qn ?_ _ | refine Qp ?_ | refine Ql ?_ _)); refine Za (cs := #[.bool (decide (a3 > 0)), .int .i64 a4, .int .i64 (wrap64 (a4 + a3)), .int .i64 a5, .int .i64 (wrap64 (a5 + a3)), .int .i64 a6, .int .i64 0]) ?_ 6 _ rfl; (with_reducible repeat (first | refine Qn ?_ _ | refine Qp ?_ | refine Ql ?_ _)); refine Za (cs := #[.bool (decide (a3 > 0)), .int .i64 a4, .int .i64 (wrap64 (a4 + a3)), .int .i64 a5, .int .i64 (wrap64 (a5 + a3)), .int .i64 0, .int .i64 0]) ?_ 5 _ rfl; (with_reducible repeat (first | refine Qn ?_ _ | refine Qp ?_ | refine Ql ?_ _)); refine Za (cs := #[.bool (decide (a3 > 0)), .int .i64 a4, .int .i64 (wrap64 (a4 + a3)), .int .i64 a5, .int .i64 0, .int .i64 0, .int .i64 0]) ?_ 4 _ rfl; (with_reducible repeat (first | refine Qn ?_ _ | refine Qp ?_ | refine Ql ?_ _)); refine Za (cs := #[.bool (decide (a3 > 0)), .int .i64 a4, .int .i64 (wrap64 (a4 + a3)), .int .i64 0, .int .i64 0, .int .i64 0, .int .i64 0]) ?_ 3 _ rfl; (with_reducible repeat (first | refine Qn ?_ _ | refine Qp ?_ | refine Ql ?_ _)); refine Za (cs := #[.bool (decide (a3 > 0)), .int .i64 a4, .int .i64 0, .int .i64 0, .int .i64 0, .int .i64 0, .int .i64 0]) ?_ 2 _ rfl; (with_reducible repeat (first | refine Qn ?_ _ | refine Qp ?_ | refine Ql ?_ _)); refine Za (cs := #[.bool (decide (a3 > 0)), .int .i64 0, .int .i64 0, .int .i64 0, .int .i64 0, .int .i64 0, .int .i64 0]) ?_ 1 _ rfl; (with_reducible repeat (first | refine Qn ?_ _ | refine Qp ?_ | refine Ql ?_ _)); refine Za (cs := #[.bool false, .int .i64 0, .int .i64 0, .int .i64 0, .int .i64 0, .int .i64 0, .int .i64 0]) ?_ 0 _ rfl; (with_reducible repeat (first | refine Qn ?_ _ | refine Qp ?_ | refine Ql ?_ _)); exact a8.out) hg (Kd.R_away a9.out (fun _ hk => hk.2))); have n1_ := Qa.mk (hb); have n2_ := Qa.mk (ho); clear a8; clear HB; clear a9; have a8 := n0_; have HB := n1_; have h8 := n2_; clear n0_ n1_ n2_; clear ho hb hg hat; obtain ⟨m0, m1, m2, m3, m4, m5, m6⟩ := Qbv a8.out; obtain ⟨m7, m8, m9, n0, n1, n2, n3⟩ := Qdx a8.out))
             repeat (go_quiet (fail); try go_wp2_with (first | ((with_reducible refine Zd (N := 17) rfl ?_); refine Zc ?hg (N := 17) ?hd (cs := #[.bool false, .int .i64 0, .int .i64 0, .int .i64 0, .int .i64 0, .int .i64 0, .int .i64 0]) (t := 81) ?hr ?_; (case hd => rfl); (case hg => rfl); (case hr => first | (go_simp; done) | (go_simp; rfl)); intro a7 hg w48 hbox hb; have n0_ := Qa.mk (Kd.R_below (Kd.R_elderB (ro_ a9.out) a7 (Nat.le_of_eq hg.symm)) hb); have n1_ := Qa.mk (Qj bw_ hb); have n2_ := Qa.mk (hbox); have n3_ := Qa.mk ((gw_ hg : w.heap.size ≤ a7)); have n4_ := Qa.mk ((gw_ hg : w.heap.size ≤ a7)); clear a9; clear HB; have a9 := n0_; have HB := n1_; have a8 := n2_; have g9 := n3_; have GE105 := n4_; clear n0_ n1_ n2_ n3_ n4_; clear hb hbox hg; obtain ⟨j8, j9, k0, k1, k3, k6, k7⟩ := Qbv a8.out; obtain ⟨k8, k9, l5, l6, l7, l8, l9⟩ := Qdx a8.out) | ((with_reducible refine Xl (b := .append) (xs := #[.tmp 150, .tmp 152]) rfl ?_); at_builtin; refine Kd.R_append k81 (w0 := w) w.heap.size rfl (.tmp 150) (.tmp 152) 70 81 (.agg #[(.bool false), (.int .i64 0), (.int .i64 0), (.int .i64 0), (.int .i64 0), (.int .i64 0), (.int .i64 0)]) 56 rfl Try.underlying70 Qio rfl (by decide) (by omega) u12 b0 (⟨decide (a3 > 0), (⟨a4, wrap64 (a4 + a3)⟩ : S79), (⟨a5, wrap64 (a5 + a3)⟩ : S79), (⟨a6, wrap64 (a6 + a3)⟩ : S79)⟩ : S81) [.bool (decide (a3 > 0)), .int .i64 a4, .int .i64 (wrap64 (a4 + a3)), .int .i64 a5, .int .i64 (wrap64 (a5 + a3)), .int .i64 a6, .int .i64 (wrap64 (a6 + a3))] (fun k_ => k_ ≠ a7) (fun _ => False) rfl (by first | (go_simp; done) | (go_simp; rfl)) ?aP (fun _ hk => hk.elim) ?aF ?aO ?aB ?aS ?aL ?_; (case aP => exact Qfw _ _ _ (⟨decide (a3 > 0), (⟨a4, wrap64 (a4 + a3)⟩ : S79), (⟨a5, wrap64 (a5 + a3)⟩ : S79), (⟨a6, wrap64 (a6 + a3)⟩ : S79)⟩ : S81)); (case aB => exact bw_); (case aF => exact (fun k_ hk => Kd.freshB (g := a7) (o := .cells #[.bool (decide (a3 > 0)), .int .i64 a4, .int .i64 (wrap64 (a4 + a3)), .int .i64 a5, .int .i64 (wrap64 (a5 + a3)), .int .i64 a6, .int .i64 (wrap64 (a6 + a3))] 81 (0, 0)) (by (with_reducible repeat (first | refine Qn ?_ _ | refine Qp ?_ | refine Ql ?_ _)); refine Za (cs := #[.bool (decide (a3 > 0)), .int .i64 a4, .int .i64 (wrap64 (a4 + a3)), .int .i64 a5, .int .i64 (wrap64 (a5 + a3)), .int .i64 a6, .int .i64 0]) ?_ 6 _ rfl; (with_reducible repeat (first | refine Qn ?_ _ | refine Qp ?_ | refine Ql ?_ _)); refine Za (cs := #[.bool (decide (a3 > 0)), .int .i64 a4, .int .i64 (wrap64 (a4 + a3)), .int .i64 a5, .int .i64 (wrap64 (a5 + a3)), .int .i64 0, .int .i64 0]) ?_ 5 _ rfl; (with_reducible repeat (first | refine Qn ?_ _ | refine Qp ?_ | refine Ql ?_ _)); refine Za (cs := #[.bool (decide (a3 > 0)), .int .i64 a4, .int .i64 (wrap64 (a4 + a3)), .int .i64 a5, .int .i64 0, .int .i64 0, .int .i64 0]) ?_ 4 _ rfl; (with_reducible repeat (first | refine Qn ?_ _ | refine Qp ?_ | refine Ql ?_ _)); refine Za (cs := #[.bool (decide (a3 > 0)), .int .i64 a4, .int .i64 (wrap64 (a4 + a3)), .int .i64 0, .int .i64 0, .int .i64 0, .int .i64 0]) ?_ 3 _ rfl; (with_reducible repeat (first | refine Qn ?_ _ | refine Qp ?_ | refine Ql ?_ _)); refine Za (cs := #[.bool (decide (a3 > 0)), .int .i64 a4, .int .i64 0, .int .i64 0, .int .i64 0, .int .i64 0, .int .i64 0]) ?_ 2 _ rfl; (with_reducible repeat (first | refine Qn ?_ _ | refine Qp ?_ | refine Ql ?_ _)); refine Za (cs := #[.bool (decide (a3 > 0)), .int .i64 0, .int .i64 0, .int .i64 0, .int .i64 0, .int .i64 0, .int .i64 0]) ?_ 1 _ rfl; (with_reducible repeat (first | refine Qn ?_ _ | refine Qp ?_ | refine Ql ?_ _)); refine Za (cs := #[.bool false, .int .i64 0, .int .i64 0, .int .i64 0, .int .i64 0, .int .i64 0, .int .i64 0]) ?_ 0 _ rfl; (with_reducible repeat (first | refine Qn ?_ _ | refine Qp ?_ | refine Ql ?_ _)); exact a8.out) k_ hk)); (case aO => exact (ro_ (Kd.R_mono (Kd.R_far (p := ⟨a7, 6, none⟩) (Kd.R_far (p := ⟨a7, 5, none⟩) (Kd.R_far (p := ⟨a7, 4, none⟩) (Kd.R_far (p := ⟨a7, 3, none⟩) (Kd.R_far (p := ⟨a7, 2, none⟩) (Kd.R_far (p := ⟨a7, 1, none⟩) (Kd.R_far (p := ⟨a7, 0, none⟩) (Kd.R_mono a9.out (fun k_ hk => (⟨hk, hk.2⟩ : _ ∧ k_ ≠ a7))) (fun _ hk => hk.2) (.bool (decide (a3 > 0)))) (fun _ hk => hk.2) (.int .i64 a4)) (fun _ hk => hk.2) (.int .i64 (wrap64 (a4 + a3)))) (fun _ hk => hk.2) (.int .i64 a5)) (fun _ hk => hk.2) (.int .i64 (wrap64 (a5 + a3)))) (fun _ hk => hk.2) (.int .i64 a6)) (fun _ hk => hk.2) (.int .i64 (wrap64 (a6 + a3)))) (fun _ hk => hk.1.2)))); (case aS => exact (Qo bw_)); (case aL => have := h6.out; omega); intro p0 w50 ho hb hg hat; rw [← h7.out] at ho; have n0_ := Qa.mk (Ym (g := a7) (o := .cells #[.bool (decide (a3 > 0)), .int .i64 a4, .int .i64 (wrap64 (a4 + a3)), .int .i64 a5, .int .i64 (wrap64 (a5 + a3)), .int .i64 a6, .int .i64 (wrap64 (a6 + a3))] 81 (0, 0)) (by (with_reducible repeat (first | refine Qn ?_ _ | refine Qp ?_ | refine Ql ?_ _)); refine Za (cs := #[.bool (decide (a3 > 0)), .int .i64 a4, .int .i64 (wrap64 (a4 + a3)), .int .i64 a5, .int .i64 (wrap64 (a5 + a3)), .int .i64 a6, .int .i64 0]) ?_ 6 _ rfl; (with_reducible repeat (first | refine Qn ?_ _ | refine Qp ?_ | refine Ql ?_ _)); refine Za (cs := #[.bool (decide (a3 > 0)), .int .i64 a4, .int .i64 (wrap64 (a4 + a3)), .int .i64 a5, .int .i64 (wrap64 (a5 + a3)), .int .i64 0, .int .i64 0]) ?_ 5 _ rfl; (with_reducible repeat (first | refine Qn ?_ _ | refine Qp ?_ | refine Ql ?_ _)); refine Za (cs := #[.bool (decide (a3 > 0)), .int .i64 a4, .int .i64 (wrap64 (a4 + a3)), .int .i64 a5, .int .i64 0, .int .i64 0, .int .i64 0]) ?_ 4 _ rfl; (with_reducible repeat (first | refine Qn ?_ _ | refine Qp ?_ | refine Ql ?_ _)); refine Za (cs := #[.bool (decide (a3 > 0)), .int .i64 a4, .int .i64 (wrap64 (a4 + a3)), .int .i64 0, .int .i64 0, .int .i64 0, .int .i64 0]) ?_ 3 _ rfl; (with_reducible repeat (first | refine Qn ?_ _ | refine Qp ?_ | refine Ql ?_ _)); refine Za (cs := #[.bool (decide (a3 > 0)), .int .i64 a4, .int .i64 0, .int .i64 0, .int .i64 0, .int .i64 0, .int .i64 0]) ?_ 2 _ rfl; (with_reducible repeat (first | refine Qn ?_ _ | refine Qp ?_ | refine Ql ?_ _)); refine Za (cs := #[.bool (decide (a3 > 0)), .int .i64 0, .int .i64 0, .int .i64 0, .int .i64 0, .int .i64 0, .int .i64 0]) ?_ 1 _ rfl; (with_reducible repeat (first | refine Qn ?_ _ | refine Qp ?_ | refine Ql ?_ _)); refine Za (cs := #[.bool false, .int .i64 0, .int .i64 0, .int .i64 0, .int .i64 0, .int .i64 0, .int .i64 0]) ?_ 0 _ rfl; (with_reducible repeat (first | refine Qn ?_ _ | refine Qp ?_ | refine Ql ?_ _)); exact a8.out) hg (Kd.R_away a9.out (fun _ hk => hk.2))); have n1_ := Qa.mk (hb); have n2_ := Qa.mk (ho); clear a8; clear HB; clear a9; have a8 := n0_; have HB := n1_; have h8 := n2_; clear n0_ n1_ n2_; clear ho hb hg hat; obtain ⟨m0, m1, m2, m3, m4, m5, m6⟩ := Qbv a8.out; obtain ⟨m7, m8, m9, n0, n1, n2, n3⟩ := Qdx a8.out)))
             go_roundg g4
             case measure => have := HJ5.out; have := HK2.out; have := HJ16.out; have := HJ20.out; omega
             case rel => exact ⟨(o4), (wrap64 (a4 + a3)), (wrap64 (a5 + a3)), (wrap64 (a6 + a3)), sm_, sm_, sm_, H', ⟨by have := HJ5.out; have := HK2.out; have := HJ16.out; have := HJ20.out; omega⟩, ⟨by (with_reducible repeat (first | apply Kd.R_alloc | apply Kd.R_drewN | apply Kd.R_drew)); exact Kd.R_mono h8.out (fun _ hk => trivial)⟩, ⟨bw_⟩⟩
            ·rw [if_neg c47] at H
             exact absurd H (by simp)
        ·replace c20 := Bool.eq_false_iff.mpr c20
         subst c20
         have H1 : (some (b0, true)) = some (r1, r2) := by rw [if_neg (show ¬ (false = true) by decide)] at H; exact H
         clear H; have H := H1; clear H1
         simp only [Option.some.injEq, Prod.mk.injEq] at H
         obtain ⟨rfl, rfl⟩ := H
         go_wp2
         repeat (go_quiet (fail); try go_wp2)
         go_ret2
         exact ⟨_, by first | rfl | (simp [Qt, Qu] <;> rfl) | (simp [*, Qt, Qu] <;> rfl), ro_ a9.out, bw_⟩
end Go.Proofs.Ytadafplbgophfaa.PA
end
