import Derived.Test.YtadafplbgophfaaPA0
import Derived.Outline
namespace Go.Proofs.Ytadafplbgophfaa.PA
open Go.RowKit Go.Proofs.YtadafplbgophfaaW.PrintWords Go.Proofs.YtadafplbgophfaaW.PrintLast Go.Proofs.YtadafplbgophfaaW.PrintMore

/-- The finder at block g: its two lists' values, and the row of its pairs. -/
structure Fnd (w0 w : World) (g : Nat) (s0 s1 v : Value) (l : List S39) : Prop where
  below : Below w0.heap.size w0 w
  ge : w0.heap.size ≤ g
  blk : w.heap[g]? = some (.cells #[s0, s1, v] 130 (0, 0))
  own : Kd.R k39 39 w w0.heap.size (fun k => k ≠ g) v l

/-- so many pairs from a place of both on -/
def runS (a b : Int) (n : Nat) : List S39 := (List.range n).map fun (i : Nat) => (⟨a + (i : Int), b + (i : Int)⟩ : S39)
theorem runS_succ (a b : Int) (n : Nat) : runS a b (n + 1) = runS a b n ++ [⟨a + (n : Int), b + (n : Int)⟩] := by simp [runS, List.range_succ]
theorem runS_length (a b : Int) (n : Nat) : (runS a b n).length = n := by simp [runS]

/-- what a call on the finder leaves: more pairs -/
structure FndTo (w0 w w' : World) (g : Nat) (s0 s1 v : Value) (l : List S39) : Prop where
  fnd : ∃ v', Fnd w0 w' g s0 s1 v' l ∧ (v'.ownBlock = v.ownBlock ∨ ∃ b, v'.ownBlock = some b ∧ w.heap.size ≤ b)
  keep : KeepBut w w' g v.ownBlock

theorem fnd_stored {w0 w wr w2 : World} {g : Nat} {s0 s1 v v1 v2 : Value} {l1 l2 : List S39} (hv : Fnd w0 wr g s0 s1 v1 l1) (hat1 : v1.ownBlock = v.ownBlock ∨ ∃ b, v1.ownBlock = some b ∧ w.heap.size ≤ b)
    (hk : KeepBut w wr g v.ownBlock) (ho : Kd.R k39 39 w2 w0.heap.size (fun k => k ≠ g) v2 l2) (hb2 : Below w0.heap.size w0 w2) (hg2 : wr.grownBy w2 v1.ownBlock)
    (hat2 : v2.ownBlock = v1.ownBlock ∨ ∃ b, v2.ownBlock = some b ∧ wr.heap.size ≤ b) : FndTo w0 w (w2.setCell ⟨g, 2, none⟩ v2) g s0 s1 v l2 := by
  refine ⟨⟨v2, ⟨hb2.setCell hv.ge _, hv.ge, ?_, Kd.R_far ho (fun k hk => hk) v2⟩, ?_⟩, (hk.trans (KeepBut.of_grown hg2 g) hat1).set_ 2 v2⟩
  · exact blk_set (blk_grown hv.blk hg2 (fun e => hv.own.1 g e.symm rfl)) 2 v2
  · rcases hat2 with h | ⟨b, h, hb⟩
    · rw [h]; exact hat1
    · exact .inr ⟨b, h, Nat.le_trans hk.1 hb⟩

set_option maxHeartbeats 4000000 in
set_option maxRecDepth 100000 in
theorem lcs_finder_same.calls (g : Nat) (s0 s1 v : Value) (l : List S39) (a b : Int) (n : Nat) (w0 w : World) (hF : Fnd w0 w g s0 s1 v l)
    (ha : 0 ≤ a ∧ a ≤ 1000000000) (hb : 0 ≤ b ∧ b ≤ 1000000000) (hn : n ≤ 1000000000) (hl : l.length ≤ 1000000000) :
    Calls Try.prog 125 #[.pointer (some ⟨g, 0, none⟩), .int .i64 a, .int .i64 b, .int .i64 (n : Int)] w fun e w' => e = .returned (.tuple #[]) ∧ FndTo w0 w w' g s0 s1 v (l ++ runS a b n) := by
  have HF := Aside0.mk hF
  clear hF
  obtain ⟨ha0, ha1⟩ := ha
  obtain ⟨hb0, hb1⟩ := hb
  go_enter Try.func125, Try.ntmps125
  go_wp2
  go_loopw [10] (fun v10 wr => ∃ k : Nat, k ≤ n ∧ v10 = .int .i64 (k : Int) ∧ Aside0 (FndTo w0 w wr g s0 s1 v (l ++ runS a b k))) (fun v10 _ => n - (intOf v10).toNat)
  case atStart => exact ⟨0, Nat.zero_le _, rfl, ⟨⟨⟨v, by simpa [runS] using HF.out, .inl rfl⟩, KeepBut.refl _ _ _⟩⟩⟩
  case round =>
    obtain ⟨k, hk, rfl, HR⟩ := hrel
    obtain ⟨v1, HV, hat1⟩ := HR.out.fnd
    have HK := Aside0.mk HR.out.keep
    have HA1 := Aside0.mk hat1
    have HVV := Aside0.mk HV
    clear HR HV hat1
    have hc := (blk_cell HVV.out.blk 2).trans (show _ = some v1 from rfl)
    by_cases hlt : k < n
    · go_wp2_with (at_builtin; refine Kd.R_append k39 (w0 := w0) w0.heap.size rfl (.tmp 17) (.tmp 25) 32 39 (.agg #[(.int .i64 0), (.int .i64 0)]) 16 rfl Try.underlying32 info39 rfl (by decide) (by omega) v1 (l ++ runS a b k) (⟨a + (k : Int), b + (k : Int)⟩ : S39) [.int .i64 (a + (k : Int)), .int .i64 (b + (k : Int))] (fun j => j ≠ g) (fun _ => False) rfl rfl (k39_mkM _ _ _ (⟨a + (k : Int), b + (k : Int)⟩ : S39)) (fun _ hk => hk.elim) ?aF HVV.out.own HVV.out.below HVV.out.below.size ?aL ?_; (case aF => exact fun j hj => by have := blk_lt HVV.out.blk; omega); (case aL => rw [List.length_append, runS_length]; omega); intro v2 w2 ho hb2 hg2 hat2; obtain ⟨A2, n2, c2, rfl⟩ : ∃ A n c, v2 = Value.slice A n c := (by obtain ⟨A, c, h⟩ := Kd.R_slice ho; exact ⟨A, _, c, h⟩); have HO2 := Aside0.mk ho; have HB2 := Aside0.mk hb2; have HG2 := Aside0.mk hg2; have HA2 := Aside0.mk hat2; clear ho hb2 hg2 hat2; have hblk2 := Aside0.mk (blk_grown HVV.out.blk HG2.out (fun e => HVV.out.own.1 g e.symm rfl)); have hc2 := (blk_cell hblk2.out 2).trans (show _ = some v1 from rfl); have hf2 := blk_frozen hblk2.out 2)
      go_roundw
      case rel =>
        refine ⟨k + 1, by omega, by go_num, ⟨fnd_stored HVV.out HA1.out HK.out ?_ HB2.out HG2.out HA2.out⟩⟩
        rw [runS_succ, ← List.append_assoc]; exact HO2.out
      case measure => simp [intOf]; omega
    · go_wp2
      obtain rfl : k = n := by omega
      go_end0
      exact ⟨rfl, ⟨v1, HVV.out, HA1.out⟩, HK.out⟩

end Go.Proofs.Ytadafplbgophfaa.PA
