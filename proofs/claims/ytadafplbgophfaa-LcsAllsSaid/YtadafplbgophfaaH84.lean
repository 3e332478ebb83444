import Derived.Test.YtadafplbgophfaaPA0
import Derived.Test.YtadafplbgophfaaPAf17
import Derived.Test.YtadafplbgophfaaH125
import Derived.Test.YtadafplbgophfaaH126
import Derived.Outline
namespace Go.Proofs.Ytadafplbgophfaa.PA
open Go.RowKit Go.Proofs.YtadafplbgophfaaW.PrintWords Go.Proofs.YtadafplbgophfaaW.PrintLast Go.Proofs.YtadafplbgophfaaW.PrintMore

/-- what find lets come -/
def lcs_finder_find.f : Nat → List Int → List Int → Int → Int → Int → Int → Option (List S39)
  | 0, _, _, _, _, _, _ => none
  | K + 1, a, b, a0, a1, b0, b1 =>
    if 0 ≤ a0 ∧ a0 ≤ a1 ∧ a1 ≤ a.length ∧ 0 ≤ b0 ∧ b0 ≤ b1 ∧ b1 ≤ b.length ∧ a.length ≤ 1000000000 ∧ b.length ≤ 1000000000 then
      (trim_Ends_int.f K ((a.take a1.toNat).drop a0.toNat) ((b.take b1.toNat).drop b0.toNat)).bind fun e =>
        if 0 ≤ e.1 ∧ 0 ≤ e.2 ∧ e.1 + e.2 ≤ a1 - a0 ∧ e.1 + e.2 ≤ b1 - b0 then
          if a0 + e.1 < a1 - e.2 ∧ b0 + e.1 < b1 - e.2 then
            (lcs_finder_middle.f K a b (a0 + e.1) (a1 - e.2) (b0 + e.1) (b1 - e.2)).bind fun s =>
              if 0 ≤ s.1 ∧ s.1 ≤ 1000000000 ∧ 0 ≤ s.2.1 ∧ s.2.1 ≤ 1000000000 ∧ 0 ≤ s.2.2.1 ∧ s.2.2.1 ≤ 1000000000 then
                (lcs_finder_find.f K a b (a0 + e.1) s.1 (b0 + e.1) s.2.1).bind fun l1 =>
                  (lcs_finder_find.f K a b (s.1 + s.2.2.1) (a1 - e.2) (s.2.1 + s.2.2.1) (b1 - e.2)).bind fun l2 =>
                    some (runS a0 b0 e.1.toNat ++ (l1 ++ (runS s.1 s.2.1 s.2.2.1.toNat ++ (l2 ++ runS (a1 - e.2) (b1 - e.2) e.2.toNat))))
              else none
          else some (runS a0 b0 e.1.toNat ++ runS (a1 - e.2) (b1 - e.2) e.2.toNat)
        else none
    else none

theorem Fnd.on {w0 w w1 : World} {g : Nat} {s0 s1 v : Value} {l : List S39} (h : Fnd w0 w g s0 s1 v l) (hb : Below w.heap.size w w1) : Fnd w0 w1 g s0 s1 v l :=
  ⟨below_then h.below h.below.size hb, h.ge, blk_below h.blk hb, Kd.R_below h.own hb⟩
theorem FndTo.on {w0 w w1 w2 : World} {g : Nat} {s0 s1 v : Value} {l : List S39} (h : FndTo w0 w w1 g s0 s1 v l) (hb : Below w1.heap.size w1 w2) : FndTo w0 w w2 g s0 s1 v l := by
  obtain ⟨v', hf, ha⟩ := h.fnd
  exact ⟨⟨v', hf.on hb, ha⟩, ⟨Nat.le_trans h.keep.1 hb.size, fun i hi hg hr => (hb.block i (Nat.lt_of_lt_of_le hi h.keep.1)).trans (h.keep.2 i hi hg hr)⟩⟩
theorem FndTo.start {w0 w w1 : World} {g : Nat} {s0 s1 v : Value} {l : List S39} (h : Fnd w0 w g s0 s1 v l) (hb : Below w.heap.size w w1) : FndTo w0 w w1 g s0 s1 v l :=
  ⟨⟨v, h.on hb, .inl rfl⟩, KeepBut.of_below hb g _⟩
/-- one call behind the other -/
theorem FndTo.then_ {w0 w w1 w2 : World} {g : Nat} {s0 s1 v v1 : Value} {l2 : List S39} (ha : v1.ownBlock = v.ownBlock ∨ ∃ b, v1.ownBlock = some b ∧ w.heap.size ≤ b) (hk : KeepBut w w1 g v.ownBlock)
    (h2 : FndTo w0 w1 w2 g s0 s1 v1 l2) : FndTo w0 w w2 g s0 s1 v l2 := by
  obtain ⟨v2, hf2, ha2⟩ := h2.fnd
  refine ⟨⟨v2, hf2, ?_⟩, hk.trans h2.keep ha⟩
  rcases ha2 with h | ⟨b, h, hb⟩
  · rw [h]; exact ha
  · exact .inr ⟨b, h, Nat.le_trans hk.1 hb⟩
/-- a block of the call's own stays -/
theorem FndTo.stay {w0 w1 w2 : World} {g bx : Nat} {s0 s1 v1 : Value} {l1 l2 : List S39} {cs : Array Value} {t : TypeId} (hf : Fnd w0 w1 g s0 s1 v1 l1) (h2 : FndTo w0 w1 w2 g s0 s1 v1 l2)
    (hb : w1.heap[bx]? = some (.cells cs t (0, 0))) (ht1 : t ≠ 130) (ht2 : 39 ≠ t) : w2.heap[bx]? = some (.cells cs t (0, 0)) :=
  h2.keep.blk hb (blk_ne hb hf.blk ht1) (own_ne_R hf.own hb ht2)
where
  own_ne_R {w : World} {b0 : Nat} {ok : Nat → Prop} {v : Value} {l : List S39} {bx : Nat} {cs : Array Value} {t : TypeId} (h : Kd.R k39 39 w b0 ok v l) (hb : w.heap[bx]? = some (.cells cs t (0, 0))) (ht : 39 ≠ t) : some bx ≠ v.ownBlock := by
    obtain ⟨inner, ho⟩ := Kd.R_own h
    exact own_ne ho hb ht

theorem ends_n (k n0 n1 : Nat) (A0 : Option Addr) (c0 : Nat) (l0 : List Int) (A1 : Option Addr) (c1 : Nat) (l1 : List Int) (r1 : Int) (r2 : Int) (w : World) (h0 : l0.length = n0) (h1 : l1.length = n1) (hr0 : Kd.C (Kd.int .i64) w A0 n0 l0) (hc0 : n0 ≤ c0) (hr1 : Kd.C (Kd.int .i64) w A1 n1 l1) (hc1 : n1 ≤ c1)
    (h : trim_Ends_int.f k l0 l1 = some (r1, r2)) :
    Calls Try.prog 17 #[.slice A0 n0 c0, .slice A1 n1 c1] w fun e w' => e = .returned (.tuple #[.int .i64 r1, .int .i64 r2]) ∧ ∃ m, w' = w.drewN m := by
  subst h0; subst h1
  exact (trim_Ends_int.calls k A0 c0 l0 A1 c1 l1 r1 r2 w hr0 hc0 hr1 hc1 h).mono fun e w' ⟨he, hd⟩ => ⟨he, hd.out⟩

set_option maxHeartbeats 16000000 in
set_option maxRecDepth 100000 in
theorem lcs_finder_find.calls (K : Nat) : ∀ (g A0 c0 A1 c1 : _) (v : Value) (l : List S39) (a b : List Int) (a0 a1 b0 b1 : Int) (r : List S39) (w0 w : World)
    (_ : Fnd w0 w g (.slice A0 a.length c0) (.slice A1 b.length c1) v l) (_ : Kd.C (Kd.int .i64) w0 A0 a.length a) (_ : a.length ≤ c0) (_ : Kd.C (Kd.int .i64) w0 A1 b.length b) (_ : b.length ≤ c1)
    (_ : l.length + r.length ≤ 1000000000) (_ : lcs_finder_find.f K a b a0 a1 b0 b1 = some r),
    Calls Try.prog 84 #[.pointer (some ⟨g, 0, none⟩), .agg #[.int .i64 a0, .int .i64 a1, .int .i64 b0, .int .i64 b1]] w fun e w' =>
      e = .returned (.tuple #[]) ∧ FndTo w0 w w' g (.slice A0 a.length c0) (.slice A1 b.length c1) v (l ++ r) := by
  induction K with
  | zero => intro g A0 c0 A1 c1 v l a b a0 a1 b0 b1 r w0 w _ _ _ _ _ _ h; exact absurd h (by simp [lcs_finder_find.f])
  | succ K ih =>
  intro g A0 c0 A1 c1 v l a b a0 a1 b0 b1 r w0 w hF hr0 hc0 hr1 hc1 hlen h
  simp only [lcs_finder_find.f] at h
  split at h
  case isFalse => cases h
  rename_i hG
  obtain ⟨g1, g2, g3, g4, g5, g6, g7, g8⟩ := hG
  obtain ⟨⟨n, m⟩, hE, h2⟩ := Option.bind_eq_some_iff.1 h
  clear h
  simp only at h2
  split at h2
  case isFalse => cases h2
  rename_i hG
  obtain ⟨g9, g10, g11, g12⟩ := hG
  obtain ⟨n, rfl⟩ := Int.eq_ofNat_of_zero_le g9
  obtain ⟨m, rfl⟩ := Int.eq_ofNat_of_zero_le g10
  simp only [Int.toNat_natCast] at h2
  have IH := Aside0.mk ih
  have HF := Aside0.mk hF
  have HR0 := Aside0.mk hr0
  have HC0 := Aside0.mk hc0
  have HR1 := Aside0.mk hr1
  have HC1 := Aside0.mk hc1
  have HE := Aside0.mk hE
  have HH := Aside0.mk h2
  have HLEN := Aside0.mk hlen
  clear ih hF hr0 hc0 hr1 hc1 hE h2 hlen
  obtain ⟨i0, hi, hi0, hsz, _⟩ := info_parts info3
  obtain ⟨A0', hA0⟩ : ∃ A' : Option Addr, A' = (if c0 = a0.toNat then A0 else A0.map (·.add (a0.toNat * 1))) := ⟨_, rfl⟩
  obtain ⟨A1', hA1⟩ : ∃ A' : Option Addr, A' = (if c1 = b0.toNat then A1 else A1.map (·.add (b0.toNat * 1))) := ⟨_, rfl⟩
  obtain ⟨c0', hc0'⟩ : ∃ c' : Nat, c' = c0 - a0.toNat := ⟨_, rfl⟩
  obtain ⟨c1', hc1'⟩ : ∃ c' : Nat, c' = c1 - b0.toNat := ⟨_, rfl⟩
  obtain ⟨n0, hn0⟩ : ∃ n' : Nat, n' = a1.toNat - a0.toNat := ⟨_, rfl⟩
  obtain ⟨n1, hn1⟩ : ∃ n' : Nat, n' = b1.toNat - b0.toNat := ⟨_, rfl⟩
  have hcut0 := cut_mid (P := Try.prog) 22 3 .i64 .i64 Try.underlying22 hi 1 hsz A0 a.length c0 a0 a1 g1 g2 g3 HC0.out
  have hcut1 := cut_mid (P := Try.prog) 22 3 .i64 .i64 Try.underlying22 hi 1 hsz A1 b.length c1 b0 b1 g4 g5 g6 HC1.out
  rw [← hA0, ← hc0', ← hn0] at hcut0
  rw [← hA1, ← hc1', ← hn1] at hcut1
  have hl0 : ((a.take a1.toNat).drop a0.toNat).length = n0 := by rw [List.length_drop, List.length_take]; omega
  have hl1 : ((b.take b1.toNat).drop b0.toNat).length = n1 := by rw [List.length_drop, List.length_take]; omega
  have hm0 : Kd.C (Kd.int .i64) w A0' n0 ((a.take a1.toNat).drop a0.toNat) := by
    have := Kd.C_mid (lo := a0.toNat) (hi := a1.toNat) (Kd.C_below HR0.out HF.out.below) (by omega) (by omega) HC0.out
    rw [hl0] at this
    rw [hA0]; exact this
  have hm1 : Kd.C (Kd.int .i64) w A1' n1 ((b.take b1.toNat).drop b0.toNat) := by
    have := Kd.C_mid (lo := b0.toNat) (hi := b1.toNat) (Kd.C_below HR1.out HF.out.below) (by omega) (by omega) HC1.out
    rw [hl1] at this
    rw [hA1]; exact this
  have HM0 := Aside0.mk hm0
  have HM1 := Aside0.mk hm1
  have HL0 := Aside0.mk hl0
  have HL1 := Aside0.mk hl1
  have HN0 : Aside0 (n0 ≤ c0') := ⟨by have := HC0.out; omega⟩
  have HN1 : Aside0 (n1 ≤ c1') := ⟨by have := HC1.out; omega⟩
  clear hm0 hm1 hl0 hl1 hA0 hA1 hc0' hc1' hn0 hn1 hi hsz hi0
  have hu133 := Try.underlying133
  have hu192 := Try.underlying192
  have hg0 := (blk_cell (blk_alloc HF.out.blk (.cells #[.int .i64 a0, .int .i64 a1, .int .i64 b0, .int .i64 b1] 133 (0, 0))) 0).trans (show _ = some (Value.slice A0 a.length c0) from rfl)
  have hg1 := (blk_cell (blk_alloc HF.out.blk (.cells #[.int .i64 a0, .int .i64 a1, .int .i64 b0, .int .i64 b1] 133 (0, 0))) 1).trans (show _ = some (Value.slice A1 b.length c1) from rfl)
  go_enter Try.func84, Try.ntmps84
  go_wp2_with fail
  go_quiet ((go_at_call 17; exact Calls.quiet_of (ends_n K n0 n1 A0' c0' _ A1' c1' _ n m _ HL0.out HL1.out (Kd.C_drewN (Kd.C_alloc HM0.out _) _) HN0.out (Kd.C_drewN (Kd.C_alloc HM1.out _) _) HN1.out HE.out)))
  go_wp2_with fail
  have HF1 := Aside0.mk (HF.out.on (pw_below_drewN (below_alloc (Below.refl _ _) (.cells #[.int .i64 a0, .int .i64 a1, .int .i64 b0, .int .i64 b1] 133 (0, 0))) nq))
  have HK1 : Aside0 (KeepBut w ((w.alloc (.cells #[.int .i64 a0, .int .i64 a1, .int .i64 b0, .int .i64 b1] 133 (0, 0))).drewN nq) g v.ownBlock) := ⟨KeepBut.of_below (pw_below_drewN (below_alloc (Below.refl _ _) _) nq) g _⟩
  have HX1 := Aside0.mk (blk_drewN (blk_new w (.cells #[.int .i64 a0, .int .i64 a1, .int .i64 b0, .int .i64 b1] 133 (0, 0))) nq)
  have hl0 : l.length ≤ 1000000000 := by have := HLEN.out; omega
  refine (lcs_finder_same.calls g _ _ v l a0 b0 n w0 _ HF1.out ⟨g1, by omega⟩ ⟨g4, by omega⟩ (by omega) hl0).mono ?_
  rintro e w2 ⟨rfl, hT1⟩
  have HX2 := Aside0.mk (FndTo.stay HF1.out hT1 HX1.out (by decide) (by decide))
  have HT2 := Aside0.mk (FndTo.then_ (.inl rfl) HK1.out hT1)
  clear hT1 HF1 HK1 HX1 hl0 hg0 hg1 hcut0 hcut1 HM0 HM1 HL0 HL1 HN0 HN1 HE
  have hx0 := (blk_cell HX2.out 0).trans (show _ = some (Value.int .i64 a0) from rfl)
  have hx1 := (blk_cell HX2.out 1).trans (show _ = some (Value.int .i64 a1) from rfl)
  have hx2 := (blk_cell HX2.out 2).trans (show _ = some (Value.int .i64 b0) from rfl)
  have hx3 := (blk_cell HX2.out 3).trans (show _ = some (Value.int .i64 b1) from rfl)
  obtain ⟨bx, hbx⟩ : ∃ bx : Nat, w.heap.size = bx := ⟨_, rfl⟩
  rw [hbx] at hx0 hx1 hx2 hx3
  simp only [hbx]
  clear HX2
  by_cases hin : a0 + (n : Int) < a1 - m ∧ b0 + (n : Int) < b1 - m
  · have hr := HH.out
    rw [if_pos hin] at hr
    obtain ⟨⟨sa, sb, sn, sd⟩, hMd, hr⟩ := Option.bind_eq_some_iff.1 hr
    simp only at hr
    split at hr
    case isFalse => cases hr
    rename_i hG
    obtain ⟨s1, s2, s3, s4, s5, s6⟩ := hG
    obtain ⟨lA, hA, hr⟩ := Option.bind_eq_some_iff.1 hr
    obtain ⟨lB, hB, hr⟩ := Option.bind_eq_some_iff.1 hr
    obtain ⟨sn, rfl⟩ := Int.eq_ofNat_of_zero_le s5
    simp only [Int.toNat_natCast, Option.some.injEq] at hr
    subst hr
    have HMd := Aside0.mk hMd
    have HA := Aside0.mk hA
    have HB := Aside0.mk hB
    clear hMd hA hB HH
    obtain ⟨hin1, hin2⟩ := hin
    have d1 : decide (a0 + (n : Int) < a1 - m) = true := decide_eq_true hin1
    have d2 : decide (b0 + (n : Int) < b1 - m) = true := decide_eq_true hin2
    simp only [List.length_append, runS_length] at HLEN
    obtain ⟨v2, hF2, hA2⟩ := HT2.out.fnd
    have HF2 := Aside0.mk hF2
    clear hF2 hA2
    go_wp2_with fail
    refine (lcs_finder_middle.calls K g A0 c0 A1 c1 v2 a b _ _ _ _ sa sb sn sd _ (blk_alloc HF2.out.blk _) (Kd.C_alloc (Kd.C_below HR0.out HF2.out.below) _) (Kd.C_alloc (Kd.C_below HR1.out HF2.out.below) _) HMd.out).mono ?_
    rintro e w4 ⟨rfl, hb4⟩
    have HI4 := Aside0.mk (blk_below (blk_new w2 (.cells #[.int .i64 (a0 + (n : Int)), .int .i64 (a1 - m), .int .i64 (b0 + (n : Int)), .int .i64 (b1 - m)] 133 (0, 0))) hb4)
    have HT4 := Aside0.mk (HT2.out.on (below_step (below_alloc (Below.refl _ _) _) hb4))
    clear hb4 hx0 hx1 hx2 hx3 HT2 HF2
    have hi0 := (blk_cell (blk_alloc HI4.out (.cells #[.int .i64 sa, .int .i64 sb, .int .i64 (sn : Int), .int .i64 sd] 192 (0, 0))) 0).trans (show _ = some (Value.int .i64 (a0 + (n : Int))) from rfl)
    have hi2 := (blk_cell (blk_alloc HI4.out (.cells #[.int .i64 sa, .int .i64 sb, .int .i64 (sn : Int), .int .i64 sd] 192 (0, 0))) 2).trans (show _ = some (Value.int .i64 (b0 + (n : Int))) from rfl)
    go_wp2_with fail
    have HI5 := Aside0.mk (blk_alloc HI4.out (.cells #[.int .i64 sa, .int .i64 sb, .int .i64 (sn : Int), .int .i64 sd] 192 (0, 0)))
    have HS5 := Aside0.mk (blk_new w4 (.cells #[.int .i64 sa, .int .i64 sb, .int .i64 (sn : Int), .int .i64 sd] 192 (0, 0)))
    have HT5 := Aside0.mk (HT4.out.on (below_alloc (Below.refl _ _) (.cells #[.int .i64 sa, .int .i64 sb, .int .i64 (sn : Int), .int .i64 sd] 192 (0, 0))))
    clear HI4 HT4
    obtain ⟨v5, hF5, hA5⟩ := HT5.out.fnd
    have HF5 := Aside0.mk hF5
    have HA5 := Aside0.mk hA5
    clear hF5 hA5
    refine (IH.out g A0 c0 A1 c1 v5 (l ++ runS a0 b0 n) a b _ _ _ _ lA w0 _ HF5.out HR0.out HC0.out HR1.out HC1.out (by simp only [List.length_append, runS_length]; have := HLEN.out; omega) HA.out).mono ?_
    rintro e w6 ⟨rfl, hT6⟩
    have HI6 := Aside0.mk (FndTo.stay HF5.out hT6 HI5.out (by decide) (by decide))
    have HS6 := Aside0.mk (FndTo.stay HF5.out hT6 HS5.out (by decide) (by decide))
    have HT6 := Aside0.mk (FndTo.then_ HA5.out HT5.out.keep hT6)
    clear hT6 HI5 HS5 HT5 HF5 HA5 hi0 hi2
    obtain ⟨v6, hF6, hA6⟩ := HT6.out.fnd
    have HF6 := Aside0.mk hF6
    have HA6 := Aside0.mk hA6
    clear hF6 hA6
    have hi1 := (blk_cell HI6.out 1).trans (show _ = some (Value.int .i64 (a1 - m)) from rfl)
    have hi3 := (blk_cell HI6.out 3).trans (show _ = some (Value.int .i64 (b1 - m)) from rfl)
    have hs0 := (blk_cell HS6.out 0).trans (show _ = some (Value.int .i64 sa) from rfl)
    have hs1 := (blk_cell HS6.out 1).trans (show _ = some (Value.int .i64 sb) from rfl)
    have hs2 := (blk_cell HS6.out 2).trans (show _ = some (Value.int .i64 (sn : Int)) from rfl)
    go_wp2_with fail
    refine (lcs_finder_same.calls g _ _ v6 (l ++ runS a0 b0 n ++ lA) sa sb sn w0 _ HF6.out ⟨s1, s2⟩ ⟨s3, s4⟩ (by omega) (by simp only [List.length_append, runS_length]; have := HLEN.out; omega)).mono ?_
    rintro e w7 ⟨rfl, hT7⟩
    have HI7 := Aside0.mk (FndTo.stay HF6.out hT7 HI6.out (by decide) (by decide))
    have HS7 := Aside0.mk (FndTo.stay HF6.out hT7 HS6.out (by decide) (by decide))
    have HT7 := Aside0.mk (FndTo.then_ HA6.out HT6.out.keep hT7)
    clear hT7 HI6 HS6 HT6 HF6 HA6 hi1 hi3 hs0 hs1 hs2
    obtain ⟨v7, hF7, hA7⟩ := HT7.out.fnd
    have HF7 := Aside0.mk hF7
    have HA7 := Aside0.mk hA7
    clear hF7 hA7
    have hi1 := (blk_cell HI7.out 1).trans (show _ = some (Value.int .i64 (a1 - m)) from rfl)
    have hi3 := (blk_cell HI7.out 3).trans (show _ = some (Value.int .i64 (b1 - m)) from rfl)
    have hs0 := (blk_cell HS7.out 0).trans (show _ = some (Value.int .i64 sa) from rfl)
    have hs1 := (blk_cell HS7.out 1).trans (show _ = some (Value.int .i64 sb) from rfl)
    have hs2 := (blk_cell HS7.out 2).trans (show _ = some (Value.int .i64 (sn : Int)) from rfl)
    go_wp2_with fail
    refine (IH.out g A0 c0 A1 c1 v7 (l ++ runS a0 b0 n ++ lA ++ runS sa sb sn) a b _ _ _ _ lB w0 _ HF7.out HR0.out HC0.out HR1.out HC1.out (by simp only [List.length_append, runS_length]; have := HLEN.out; omega) HB.out).mono ?_
    rintro e w8 ⟨rfl, hT8⟩
    have HI8 := Aside0.mk (FndTo.stay HF7.out hT8 HI7.out (by decide) (by decide))
    have HT8 := Aside0.mk (FndTo.then_ HA7.out HT7.out.keep hT8)
    clear hT8 HI7 HS7 HT7 HF7 HA7 hi1 hi3 hs0 hs1 hs2
    obtain ⟨v8, hF8, hA8⟩ := HT8.out.fnd
    have HF8 := Aside0.mk hF8
    have HA8 := Aside0.mk hA8
    clear hF8 hA8
    have hi1 := (blk_cell HI8.out 1).trans (show _ = some (Value.int .i64 (a1 - m)) from rfl)
    have hi3 := (blk_cell HI8.out 3).trans (show _ = some (Value.int .i64 (b1 - m)) from rfl)
    go_wp2_with fail
    refine (lcs_finder_same.calls g _ _ v8 (l ++ runS a0 b0 n ++ lA ++ runS sa sb sn ++ lB) (a1 - m) (b1 - m) m w0 _ HF8.out ⟨by omega, by omega⟩ ⟨by omega, by omega⟩ (by omega) (by simp only [List.length_append, runS_length]; have := HLEN.out; omega)).mono ?_
    rintro e w9 ⟨rfl, hT9⟩
    have HT9 := Aside0.mk (FndTo.then_ HA8.out HT8.out.keep hT9)
    clear hT9 HI8 HT8 HF8 HA8 hi1 hi3
    go_wp2
    go_end0
    exact ⟨rfl, by have := HT9.out; simp only [List.append_assoc] at this ⊢; exact this⟩
  · have hr := HH.out
    rw [if_neg hin] at hr
    simp only [Option.some.injEq] at hr
    subst hr
    clear HH
    simp only [List.length_append, runS_length] at HLEN
    obtain ⟨v2, hF2, hA2⟩ := HT2.out.fnd
    have HF2 := Aside0.mk hF2
    have HA2 := Aside0.mk hA2
    clear hF2 hA2
    have HI3 := Aside0.mk (blk_new w2 (.cells #[.int .i64 (a0 + (n : Int)), .int .i64 (a1 - m), .int .i64 (b0 + (n : Int)), .int .i64 (b1 - m)] 133 (0, 0)))
    have HF3 := Aside0.mk (HF2.out.on (below_alloc (Below.refl _ _) (.cells #[.int .i64 (a0 + (n : Int)), .int .i64 (a1 - m), .int .i64 (b0 + (n : Int)), .int .i64 (b1 - m)] 133 (0, 0))))
    have HT3 := Aside0.mk (HT2.out.on (below_alloc (Below.refl _ _) (.cells #[.int .i64 (a0 + (n : Int)), .int .i64 (a1 - m), .int .i64 (b0 + (n : Int)), .int .i64 (b1 - m)] 133 (0, 0))))
    by_cases hin1 : a0 + (n : Int) < a1 - m
    · have d1 : decide (a0 + (n : Int) < a1 - m) = true := decide_eq_true hin1
      have d2 : decide (b0 + (n : Int) < b1 - m) = false := decide_eq_false (fun h => hin ⟨hin1, h⟩)
      have d3 : ¬ (b0 + (n : Int) < b1 - m) := fun h => hin ⟨hin1, h⟩
      clear hin
      go_wp2_with fail
      refine (lcs_finder_same.calls g _ _ v2 (l ++ runS a0 b0 n) (a1 - m) (b1 - m) m w0 _ HF3.out ⟨by omega, by omega⟩ ⟨by omega, by omega⟩ (by omega) (by simp only [List.length_append, runS_length]; have := HLEN.out; omega)).mono ?_
      rintro e w9 ⟨rfl, hT9⟩
      have HT9 := Aside0.mk (FndTo.then_ HA2.out HT3.out.keep hT9)
      clear hT9 HI3 HT3 HF3 HA2
      go_wp2
      go_end0
      exact ⟨rfl, by have := HT9.out; simp only [List.append_assoc] at this ⊢; exact this⟩
    · have d1 : decide (a0 + (n : Int) < a1 - m) = false := decide_eq_false hin1
      clear hin
      go_wp2_with fail
      refine (lcs_finder_same.calls g _ _ v2 (l ++ runS a0 b0 n) (a1 - m) (b1 - m) m w0 _ HF3.out ⟨by omega, by omega⟩ ⟨by omega, by omega⟩ (by omega) (by simp only [List.length_append, runS_length]; have := HLEN.out; omega)).mono ?_
      rintro e w9 ⟨rfl, hT9⟩
      have HT9 := Aside0.mk (FndTo.then_ HA2.out HT3.out.keep hT9)
      clear hT9 HI3 HT3 HF3 HA2
      go_wp2
      go_end0
      exact ⟨rfl, by have := HT9.out; simp only [List.append_assoc] at this ⊢; exact this⟩

end Go.Proofs.Ytadafplbgophfaa.PA
