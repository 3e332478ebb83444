import Derived.Test.YtadafplbgophfaaPA0
import Derived.Outline
namespace Go.Proofs.Ytadafplbgophfaa.PA
open Go.RowKit Go.Proofs.YtadafplbgophfaaW.PrintWords Go.Proofs.YtadafplbgophfaaW.PrintLast Go.Proofs.YtadafplbgophfaaW.PrintMore

/-- what newRun's row holds -/
def newL (N : Nat) : List Int := (List.replicate (2 * N + 3) (-1)).set (N + 2) 0
theorem newL_length (N : Nat) : (newL N).length = 2 * N + 3 := by simp [newL]
/-- the row while it is filled -/
def filL (M k : Nat) : List Int := List.replicate k (-1) ++ List.replicate (M - k) 0
theorem filL_length (M k : Nat) (h : k ≤ M) : (filL M k).length = M := by simp [filL]; omega
theorem filL_set (M k : Nat) (h : k < M) : (filL M k).set k (-1) = filL M (k + 1) := by
  unfold filL
  rw [List.set_append]
  simp only [List.length_replicate, Nat.lt_irrefl, ↓reduceIte, Nat.sub_self]
  obtain ⟨m, hm⟩ : ∃ m, M - k = m + 1 := ⟨M - k - 1, by omega⟩
  rw [hm, show M - (k + 1) = m from by omega, List.replicate_succ, List.set_cons_zero, List.replicate_succ' (n := k), List.append_assoc]
  rfl
theorem filL_end (M : Nat) : filL M M = List.replicate M (-1) := by simp [filL]

set_option maxHeartbeats 4000000 in
set_option maxRecDepth 100000 in
theorem lcs_newRun.hcalls (N : Nat) (w : World) (hN : N ≤ 2000000000) :
    Calls Try.prog 139 #[.int .i64 (N : Int)] w fun e w' => ∃ p cap : Nat, e = .returned (.agg #[.slice (some ⟨p, 0, none⟩) (2 * N + 3) cap, .int .i64 ((N : Int) + 1)]) ∧
      Kd.R (Kd.int .i64) 3 w' w.heap.size (fun k => k = p) (.slice (some ⟨p, 0, none⟩) (2 * N + 3) cap) (newL N) ∧ Below w.heap.size w w' := by
  have hu206 := Try.underlying206
  have e1 : (2 * (N : Int) + 3).toNat = 2 * N + 3 := by omega
  have E1 := Aside0.mk e1
  clear e1
  have hz0 : 0 ≤ 2 * (N : Int) + 3 := by omega
  go_enter Try.func139, Try.ntmps139
  go_wp2_with ((with_reducible refine gate_dst (N := 9) rfl ?_); refine Kd.R_make (Kd.int .i64) (w0 := w) w.heap.size 3 rfl (N := 9) rfl 22 _ _ rfl (2 * (N : Int) + 3) rfl rfl Try.underlying22 (.int .i64 0) 8 info3 rfl (by decide) (by omega) 0 (ok := fun k => w.heap.size + 1 ≤ k) (okp := fun _ => False) rfl (fun _ hk => hk.elim) (by simp) (by omega) (by omega) (below_alloc (Below.refl _ _) _) (by simp) ?_; intro v1 w1 ho hb hg hat; rw [E1.out] at ho; obtain ⟨p, cap, hv, hpb, _⟩ := Kd.R_form ho (by simp); rw [List.length_replicate] at hv; subst hv; have HP := Aside0.mk hpb; clear hpb; have HO := Aside0.mk ho; have HB := Aside0.mk hb; have HG := Aside0.mk hg; clear ho hb hg hat)
  have HBZ := Aside0.mk (blk_grown (blk_new w (.cells #[.slice none 0 0, .int .i64 0] 206 (0, 0))) HG.out (by simp))
  have HPN : Aside0 (w.heap.size + 1 ≤ p) := ⟨HO.out.1 p rfl⟩
  clear HG
  go_loopw [4, 12] (fun v4 v12 wr => ∃ k : Nat, k ≤ 2 * N + 3 ∧ v12 = .int .i64 (k : Int) ∧ Aside0 (Kd.R (Kd.int .i64) 3 wr w.heap.size (fun k => w.heap.size + 1 ≤ k) (.slice (some ⟨p, 0, none⟩) (2 * N + 3) cap) (filL (2 * N + 3) k)) ∧ Aside0 (Below w.heap.size w wr) ∧ Aside0 (wr.heap[w.heap.size]? = some (.cells #[.slice none 0 0, .int .i64 0] 206 (0, 0)))) (fun _ v12 _ => 2 * N + 3 - (intOf v12).toNat)
  case atStart => exact ⟨0, by omega, rfl, ⟨by simpa [filL] using HO.out⟩, HB, HBZ⟩
  case round =>
    obtain ⟨k, hk, rfl, HR, HBr, HZ⟩ := hrel
    clear HO HB HBZ
    by_cases hlt : k < 2 * N + 3
    · have HC := Aside0.mk (Kd.R_cell 0 (xs := filL (2 * N + 3) k) (g := p) (cap := cap) (by rw [filL_length _ _ hk]; exact HR.out) (k : Int) (by omega) (by rw [filL_length _ _ hk]; omega))
      have HPu := Aside0.mk (Kd.R_put (xs := filL (2 * N + 3) k) (g := p) (cap := cap) (by rw [filL_length _ _ hk]; exact HR.out) (k : Int) (-1))
      rw [filL_length _ _ hk, Int.toNat_natCast, filL_set _ _ hlt] at HPu
      rw [Int.toNat_natCast] at HC
      have hc1 := HC.out.1
      have hf1 := HC.out.2
      go_wp2
      go_roundw
      case rel => exact ⟨k + 1, by omega, by go_num, ⟨HPu.out.1⟩, ⟨below_set HBr.out HP.out⟩, ⟨blk_far HZ.out (by have := HPN.out; simp; omega) _⟩⟩
      case measure => simp [intOf]; omega
    · obtain rfl : k = 2 * N + 3 := by omega
      rw [filL_end] at HR
      have HW := Aside0.mk (Kd.R_alloc HR.out (.cells #[.slice (some ⟨p, 0, none⟩) (2 * N + 3) cap, .int .i64 ((N : Int) + 1)] 206 (0, 0)))
      have HBW := Aside0.mk (below_alloc HBr.out (.cells #[.slice (some ⟨p, 0, none⟩) (2 * N + 3) cap, .int .i64 ((N : Int) + 1)] 206 (0, 0)))
      have HZW := Aside0.mk (blk_alloc HZ.out (.cells #[.slice (some ⟨p, 0, none⟩) (2 * N + 3) cap, .int .i64 ((N : Int) + 1)] 206 (0, 0)))
      have HNW := Aside0.mk (blk_new wr (.cells #[.slice (some ⟨p, 0, none⟩) (2 * N + 3) cap, .int .i64 ((N : Int) + 1)] 206 (0, 0)))
      have HC := Aside0.mk (Kd.R_cell 0 (xs := List.replicate (2 * N + 3) (-1)) (g := p) (cap := cap) (by rw [List.length_replicate]; exact HW.out) ((N + 1 + 1 : Nat) : Int) (by omega) (by rw [List.length_replicate]; omega))
      have HPu := Aside0.mk (Kd.R_put (xs := List.replicate (2 * N + 3) (-1)) (g := p) (cap := cap) (by rw [List.length_replicate]; exact HW.out) ((N + 1 + 1 : Nat) : Int) 0)
      rw [List.length_replicate, Int.toNat_natCast] at HPu
      rw [Int.toNat_natCast] at HC
      have hc1 := HC.out.1
      have hf1 := HC.out.2
      have i1 : 0 ≤ (N : Int) + 1 + 1 := by omega
      have i2 : (N : Int) + 1 + 1 < 2 * (N : Int) + 3 := by omega
      have HSZ := Aside0.mk HBr.out.size
      clear HR HBr HZ
      go_wp2_with ((with_reducible refine gate_store (t := 3) (p := 28) rfl ?_); refine store_event (t := 3) (p := 28) (v := ?vo) (w1 := ((wr.alloc (.cells #[.slice (some ⟨p, 0, none⟩) (2 * N + 3) cap, .int .i64 ((N : Int) + 1)] 206 (0, 0))).setCell ⟨p, N + 1 + 1, none⟩ (.int .i64 0))) ?hg ?ho ?hn ?hr ?_; (case ho => rfl); (case hg => rfl); (case hn => rfl); (case hr => first | (go_simp; done) | (go_simp; rfl)); intro w8 hw; have HB8 : Aside0 (Below w.heap.size w w8) := ⟨by rw [hw]; exact below_set HBW.out HP.out⟩; have HZ8 : Aside0 (w8.heap[w.heap.size]? = some (.cells #[.slice none 0 0, .int .i64 0] 206 (0, 0))) := ⟨by rw [hw]; exact blk_far HZW.out (by have := HPN.out; simp; omega) _⟩; have HR8 : Aside0 (Kd.R (Kd.int .i64) 3 w8 w.heap.size (fun k => w.heap.size + 1 ≤ k) (.slice (some ⟨p, 0, none⟩) (2 * N + 3) cap) (newL N)) := ⟨by rw [hw]; exact HPu.out.1⟩; have HN8 : Aside0 (w8.heap[wr.heap.size]? = some (.cells #[.slice (some ⟨p, 0, none⟩) (2 * N + 3) cap, .int .i64 ((N : Int) + 1)] 206 (0, 0))) := ⟨by rw [hw]; exact blk_far HNW.out (fun e => Kd.R_ne HW.out HNW.out (by decide) (by rw [e]; rfl)) _⟩; clear hw HW HBW HZW HNW HC HPu; have n0 := (blk_cell HN8.out 0).trans (show _ = some (Value.slice (some ⟨p, 0, none⟩) (2 * N + 3) cap) from rfl); have n1 := (blk_cell HN8.out 1).trans (show _ = some (Value.int .i64 ((N : Int) + 1)) from rfl); have z0 := (blk_cell HZ8.out 0).trans (show _ = some (Value.slice none 0 0) from rfl); have z1 := (blk_cell HZ8.out 1).trans (show _ = some (Value.int .i64 0) from rfl); have f0 := blk_frozen HZ8.out 0; have f1 := blk_frozen HZ8.out 1)
      refine bodyPost_ret (results_cell_row rfl _ _ w.heap.size 206 #[.slice (some ⟨p, 0, none⟩) (2 * N + 3) cap, .int .i64 ((N : Int) + 1)] (0, 0) _ rfl (blk_put (cs := #[.slice (some ⟨p, 0, none⟩) (2 * N + 3) cap, .int .i64 0]) (blk_put (cs := #[.slice none 0 0, .int .i64 0]) HZ8.out 0 _ rfl) 1 _ rfl) Try.underlying206 rfl (by kernel_rfl)) rfl ?_
      refine ⟨p, cap, rfl, ?_, below_set (below_set HB8.out (Nat.le_refl _)) (Nat.le_refl _)⟩
      have h1 := Kd.R_tight rfl HR8.out
      have h2 := Kd.R_mono (ok' := fun k => k = p) h1 (fun k hk => by simpa [Value.ownBlock, eq_comm] using hk)
      exact Kd.R_far (p := ⟨w.heap.size, 1, none⟩) (Kd.R_far (p := ⟨w.heap.size, 0, none⟩) h2 (fun k hk => by have := HPN.out; simp; omega) _) (fun k hk => by have := HPN.out; simp; omega) _

end Go.Proofs.Ytadafplbgophfaa.PA
