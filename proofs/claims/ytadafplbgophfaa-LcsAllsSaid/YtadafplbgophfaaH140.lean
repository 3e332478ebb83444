import Derived.Test.YtadafplbgophfaaPA0
import Derived.Test.YtadafplbgophfaaPAf147
import Derived.Outline
namespace Go.Proofs.Ytadafplbgophfaa.PA
open Go.RowKit Go.Proofs.YtadafplbgophfaaW.PrintWords Go.Proofs.YtadafplbgophfaaW.PrintLast Go.Proofs.YtadafplbgophfaaW.PrintMore

/-- from i on, as long as p holds -/
def upto (p : Nat → Bool) : Nat → Nat → Nat
  | 0, i => i
  | f + 1, i => if p i = true then upto p f (i + 1) else i
theorem upto_spec (p : Nat → Bool) (N : Nat) (hN : ∀ i, N ≤ i → p i = false) : ∀ (f i : Nat), N ≤ f + i →
    i ≤ upto p f i ∧ (∀ t, i ≤ t → t < upto p f i → p t = true) ∧ p (upto p f i) = false := by
  intro f
  induction f with
  | zero => intro i h; exact ⟨Nat.le_refl _, fun t h1 h2 => by unfold upto at h2; omega, hN _ (by unfold upto; omega)⟩
  | succ f ih =>
    intro i h
    unfold upto
    by_cases hp : p i = true
    · rw [if_pos hp]
      obtain ⟨h1, h2, h3⟩ := ih (i + 1) (by omega)
      refine ⟨by omega, fun t ht1 ht2 => ?_, h3⟩
      rcases Nat.lt_or_ge i t with h | h
      · exact h2 t (by omega) ht2
      · rwa [show t = i from by omega]
    · rw [if_neg hp]
      exact ⟨Nat.le_refl _, fun t h1 h2 => by omega, by simpa using hp⟩

/-- forth's test -/
def fp (a b : List Int) (a0 a1 b0 b1 k : Int) (u : Nat) : Bool := decide ((u : Int) < a1 - a0 ∧ (u : Int) - k < b1 - b0 ∧ rd a (a0 + u) = rd b (b0 + u - k))
/-- what forth answers -/
def lcs_finder_forth.f (a b : List Int) (a0 a1 b0 b1 : Int) (L : List Int) (off k d : Int) : Option (Int × Int) :=
  if (0 ≤ a0 ∧ a0 ≤ a1 ∧ a1 ≤ a.length ∧ 0 ≤ b0 ∧ b0 ≤ b1 ∧ b1 ≤ b.length ∧ a.length ≤ 1000000000 ∧ b.length ≤ 1000000000) ∧ (-10000000000 ≤ k ∧ k ≤ 10000000000 ∧ 0 ≤ off ∧ off ≤ 10000000000) ∧ 0 ≤ off + k ∧ off + k < L.length then
    (lcs_run_begin.f L off k d).bind fun u0 => if 0 ≤ u0 ∧ u0 ≤ 10000000000 ∧ 0 ≤ u0 - k then some (u0, ((upto (fp a b a0 a1 b0 b1 k) (a1 - a0).toNat u0.toNat : Nat) : Int)) else none
  else none

theorem fp_true {a b : List Int} {a0 a1 b0 b1 k : Int} {u : Nat} (h : fp a b a0 a1 b0 b1 k u = true) : (u : Int) < a1 - a0 ∧ (u : Int) - k < b1 - b0 ∧ rd a (a0 + u) = rd b (b0 + u - k) := of_decide_eq_true h
theorem fp_false {a b : List Int} {a0 a1 b0 b1 k : Int} {u : Nat} (h : fp a b a0 a1 b0 b1 k u = false) : ¬ ((u : Int) < a1 - a0 ∧ (u : Int) - k < b1 - b0 ∧ rd a (a0 + u) = rd b (b0 + u - k)) := of_decide_eq_false h

theorem forth_end {w w1 : World} {base p cap : Nat} {ok : Nat → Prop} {L : List Int} (hL : Kd.R (Kd.int .i64) 3 w1 base ok (.slice (some ⟨p, 0, none⟩) L.length cap) L) (hb : Below w.heap.size w w1) (n : Nat) (i j : Int) :
    Kd.R (Kd.int .i64) 3 ((w1.drewN n).setCell ⟨p, i.toNat, none⟩ (.int .i64 j)) base ok (.slice (some ⟨p, 0, none⟩) L.length cap) (L.set i.toNat j) ∧ w.grownBy ((w1.drewN n).setCell ⟨p, i.toNat, none⟩ (.int .i64 j)) (some p) := by
  have h := Kd.R_put (Kd.R_drewN hL n) i j
  exact ⟨h.1, World.grownBy.trans (grown_of_below (pw_below_drewN hb n) (some p)) h.2⟩

set_option maxHeartbeats 4000000 in
set_option maxRecDepth 100000 in
theorem lcs_finder_forth.calls (g p cap A0 c0 A1 c1 : _) (v : Value) (a b : List Int) (a0 a1 b0 b1 : Int) (L : List Int) (off k d u0 u : Int) (base : Nat) (ok : Nat → Prop) (w : World)
    (hblk : w.heap[g]? = some (.cells #[.slice A0 a.length c0, .slice A1 b.length c1, v] 130 (0, 0))) (hr0 : Kd.C (Kd.int .i64) w A0 a.length a) (hr1 : Kd.C (Kd.int .i64) w A1 b.length b)
    (hL : Kd.R (Kd.int .i64) 3 w base ok (.slice (some ⟨p, 0, none⟩) L.length cap) L) (h : lcs_finder_forth.f a b a0 a1 b0 b1 L off k d = some (u0, u)) :
    Calls Try.prog 140 #[.pointer (some ⟨g, 0, none⟩), .agg #[.int .i64 a0, .int .i64 a1, .int .i64 b0, .int .i64 b1], .agg #[.slice (some ⟨p, 0, none⟩) L.length cap, .int .i64 off], .int .i64 k, .int .i64 d] w fun e w' =>
      e = .returned (.tuple #[.int .i64 u0, .int .i64 u]) ∧ Kd.R (Kd.int .i64) 3 w' base ok (.slice (some ⟨p, 0, none⟩) L.length cap) (L.set (off + k).toNat u) ∧ w.grownBy w' (some p) := by
  unfold lcs_finder_forth.f at h
  split at h
  case isFalse => cases h
  rename_i hG
  obtain ⟨⟨g1, g2, g3, g4, g5, g6, g7, g8⟩, ⟨g9, g10, g11, g12⟩, g13, g14⟩ := hG
  obtain ⟨u0', hu, h2⟩ := Option.bind_eq_some_iff.1 h
  clear h
  split at h2
  case isFalse => cases h2
  rename_i hG
  obtain ⟨g15, g16, g17⟩ := hG
  simp only [Option.some.injEq, Prod.mk.injEq] at h2
  obtain ⟨rfl, h⟩ := h2
  have HU := Aside0.mk h
  have HBEG := Aside0.mk hu
  have HBLK := Aside0.mk hblk
  have HR0 := Aside0.mk hr0
  have HR1 := Aside0.mk hr1
  have HL := Aside0.mk hL
  clear h hu hblk hr0 hr1 hL
  have hu206 := Try.underlying206
  have hu133 := Try.underlying133
  go_enter Try.func140, Try.ntmps140
  go_wp2_with fail
  have HL2 := Aside0.mk (Kd.R_reads' (Kd.R_alloc (Kd.R_alloc HL.out (.cells #[.int .i64 a0, .int .i64 a1, .int .i64 b0, .int .i64 b1] 133 (0, 0))) (.cells #[.slice (some ⟨p, 0, none⟩) L.length cap, .int .i64 off] 206 (0, 0))))
  refine (lcs_run_begin.calls _ _ L off k d u0' _ HL2.out.2.2 HL2.out.2.1 HBEG.out).mono ?_
  rintro e w1 ⟨rfl, hb1⟩
  have HB1 := Aside0.mk hb1
  clear hb1
  have HX := Aside0.mk (blk_below (blk_alloc (blk_new w (.cells #[.int .i64 a0, .int .i64 a1, .int .i64 b0, .int .i64 b1] 133 (0, 0))) _) HB1.out)
  have HY := Aside0.mk (blk_below (blk_new (w.alloc (.cells #[.int .i64 a0, .int .i64 a1, .int .i64 b0, .int .i64 b1] 133 (0, 0))) (.cells #[.slice (some ⟨p, 0, none⟩) L.length cap, .int .i64 off] 206 (0, 0))) HB1.out)
  have HBw : Aside0 (Below w.heap.size w w1) := ⟨below_step (below_alloc (below_alloc (Below.refl _ _) _) _) HB1.out⟩
  simp only [World.size_alloc] at HY
  have HR0w := Aside0.mk (Kd.C_below HR0.out HBw.out)
  have HR1w := Aside0.mk (Kd.C_below HR1.out HBw.out)
  have HLw := Aside0.mk (Kd.R_below HL.out HBw.out)
  have HGw := Aside0.mk ((HBw.out.block g (blk_lt HBLK.out)).trans HBLK.out)
  have HS := Aside0.mk (upto_spec (fp a b a0 a1 b0 b1 k) (a1 - a0).toNat (fun i hi => by unfold fp; exact decide_eq_false (fun h => by have := h.1; omega)) (a1 - a0).toNat u0'.toNat (by omega))
  obtain ⟨U, hU⟩ : ∃ U : Nat, upto (fp a b a0 a1 b0 b1 k) (a1 - a0).toNat u0'.toNat = U := ⟨_, rfl⟩
  rw [hU] at HS HU
  have HU2 := Aside0.mk hU
  clear hU HL2 HB1 HL HR0 HR1 HBLK
  have hx0 := (blk_cell HX.out 0).trans (show _ = some (.int .i64 a0) from rfl)
  have hx1 := (blk_cell HX.out 1).trans (show _ = some (.int .i64 a1) from rfl)
  have hx2 := (blk_cell HX.out 2).trans (show _ = some (.int .i64 b0) from rfl)
  have hx3 := (blk_cell HX.out 3).trans (show _ = some (.int .i64 b1) from rfl)
  have hy0 := (blk_cell HY.out 0).trans (show _ = some (.slice (some ⟨p, 0, none⟩) L.length cap) from rfl)
  have hy1 := (blk_cell HY.out 1).trans (show _ = some (.int .i64 off) from rfl)
  have hg0 := (blk_cell HGw.out 0).trans (show _ = some (.slice A0 a.length c0) from rfl)
  have hg1 := (blk_cell HGw.out 1).trans (show _ = some (.slice A1 b.length c1) from rfl)
  obtain ⟨bx, hbx⟩ : ∃ bx : Nat, w.heap.size = bx := ⟨_, rfl⟩
  rw [hbx] at HX HY hx0 hx1 hx2 hx3 hy0 hy1
  simp only [hbx]
  have HBX := Aside0.mk hbx
  clear hbx
  go_wp2
  go_loopw [12] (fun v12 wr => ∃ j : Nat, v12 = .int .i64 (j : Int) ∧ u0'.toNat ≤ j ∧ j ≤ U ∧ Aside0 (∃ q, wr = w1.drewN q)) (fun v12 _ => U - (intOf v12).toNat)
  case atStart => exact ⟨u0'.toNat, by rw [Int.toNat_of_nonneg g15], Nat.le_refl _, HS.out.1, ⟨0, rfl⟩⟩
  case round =>
    obtain ⟨j, rfl, hj0, hj1, HW⟩ := hrel
    obtain ⟨q, rfl⟩ := HW.out
    by_cases hj : j < U
    · have t3 := (fp_true (HS.out.2.1 j hj0 hj))
      obtain ⟨t1, t2, t4⟩ := t3
      have d1 : decide ((j : Int) < a1 - a0) = true := decide_eq_true t1
      have d2 : decide ((j : Int) - k < b1 - b0) = true := decide_eq_true t2
      have d4 : (rd a (a0 + j) == rd b (b0 + j - k)) = true := beq_iff_eq.mpr t4
      obtain ⟨ada, rfl, ca⟩ := Kd.at_int HR0w.out (a0 + j) (by omega) (by omega)
      obtain ⟨adb, rfl, cb⟩ := Kd.at_int HR1w.out (b0 + j - k) (by omega) (by omega)
      have p1 : 0 ≤ a0 + (j : Int) := by omega
      have p2 : a0 + (j : Int) < (a.length : Int) := by omega
      have p3 : 0 ≤ b0 + (j : Int) - k := by omega
      have p4 : b0 + (j : Int) - k < (b.length : Int) := by omega
      go_wp2
      go_quiet (fail)
      go_wp2
      go_roundw
      case rel => exact ⟨j + 1, by go_num, by omega, by omega, ⟨_, rfl⟩⟩
      case measure => simp [intOf]; omega
    · obtain rfl : j = U := by omega
      obtain rfl := HU.out
      have t3 := fp_false HS.out.2.2
      have HC1 := Aside0.mk (Kd.R_cell 0 HLw.out (off + k) g13 g14)
      have hc1 := HC1.out.1
      have hf1 := HC1.out.2
      have q1 : 0 ≤ off + k := g13
      have q2 : off + k < (L.length : Int) := g14
      by_cases t1 : (j : Int) < a1 - a0
      · have d1 : decide ((j : Int) < a1 - a0) = true := decide_eq_true t1
        by_cases t2 : (j : Int) - k < b1 - b0
        · have d2 : decide ((j : Int) - k < b1 - b0) = true := decide_eq_true t2
          have t4 : ¬ rd a (a0 + j) = rd b (b0 + j - k) := fun h => t3 ⟨t1, t2, h⟩
          have d4 : (rd a (a0 + j) == rd b (b0 + j - k)) = false := beq_eq_false_iff_ne.mpr t4
          clear t3 t4
          obtain ⟨ada, rfl, ca⟩ := Kd.at_int HR0w.out (a0 + j) (by omega) (by omega)
          obtain ⟨adb, rfl, cb⟩ := Kd.at_int HR1w.out (b0 + j - k) (by omega) (by omega)
          have p1 : 0 ≤ a0 + (j : Int) := by omega
          have p2 : a0 + (j : Int) < (a.length : Int) := by omega
          have p3 : 0 ≤ b0 + (j : Int) - k := by omega
          have p4 : b0 + (j : Int) - k < (b.length : Int) := by omega
          go_wp2
          go_quiet (fail)
          go_wp2
          go_ret2
          exact ⟨rfl, forth_end HLw.out HBw.out _ _ _⟩
        · have d2 : decide ((j : Int) - k < b1 - b0) = false := decide_eq_false t2
          clear t3
          go_wp2
          go_quiet (fail)
          go_wp2
          go_ret2
          exact ⟨rfl, forth_end HLw.out HBw.out _ _ _⟩
      · have d1 : decide ((j : Int) < a1 - a0) = false := decide_eq_false t1
        clear t3
        go_wp2
        go_quiet (fail)
        go_wp2
        go_ret2
        exact ⟨rfl, forth_end HLw.out HBw.out _ _ _⟩

end Go.Proofs.Ytadafplbgophfaa.PA
