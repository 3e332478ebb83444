/- Part 7 of what the row of the law PatchTurns rests on: walks of functions, and plain lemmas (in part printed by the kit's print, what is not reached left out). -/
import Derived.Test.YtadafplbgophfaaGreatDoorpatchTurns6
set_option linter.unusedVariables false
set_option linter.unusedSimpArgs false
section
namespace Go.Proofs.YtadafplbgophfaaGreatDoor.PA
open Go.RowKit Go.Proofs.YtadafplbgophfaaGreatDoorW.PrintWords Go.Proofs.YtadafplbgophfaaGreatDoorW.PrintLast Go.Proofs.YtadafplbgophfaaGreatDoorW.PrintMore
def Qpc (x : Int) : ByteArray := if x = 0 then ⟨#[32]⟩ else if x = 1 then ⟨#[45]⟩ else ⟨#[43]⟩
def Qew (p1 p2 : ByteArray) : ByteArray := ((((((⟨#[37, 37, 32, 45]⟩ ++ p1) ++ ⟨#[32, 43]⟩) ++ p2) ++ ⟨#[32]⟩) ++ ⟨#[37, 37]⟩) ++ ⟨#[10]⟩)
def Qbx : List S68 → List UInt8
 | [] => []
 | s :: m => (Qpc s.f0 ++ s.f1).data.toList ++ Qbx m
inductive Qaf (k : Nat) : List S45 → List UInt8 → Prop where
 | nil : Qaf k [] []
 | cons {h : S45} {r : List S45} {f t : Int} {p1 p2 : ByteArray} {m : List S68} {out : List UInt8} (sd : Xi.f k h.f2 = some (f, t)) (h1 : Ve.f k (wrap64 (h.f0 + 1)) f = some p1) (h2 : Ve.f k (wrap64 (h.f1 + 1)) t = some p2)
   (z1 : p1.size ≤ 100) (z2 : p2.size ≤ 100) (hm : Ze.f k h.f2 = some m) (hk : ∀ s ∈ m, (s.f0 = 0 ∨ s.f0 = 1 ∨ s.f0 = 2) ∧ s.f1.size ≤ 1000000 ∧ Yf.f s.f1 = some true) (ho : Qaf k r out) :
   Qaf k (h :: r) ((Qew p1 p2).data.toList ++ (Qbx m ++ out))
theorem Qml {α : Type} {d : Kd α} {e b base : Nat} {w w1 : World} {ok : Nat → Prop} {v : Value} {xs : List α} {cs : Array Value} (h : d.R e w base ok v xs) (ho : Lib.OthersKept 5 (some b) w w1) (hb : w.heap[b]? = some (.cells cs 87 (0, 0))) (ht : ∀ q, q ∈ e :: d.E → q ≠ 5 ∧ q ≠ 87) : d.R e w1 base (fun _ => True) v xs := by
 refine Kd.R_mono (Kd.R_move (Kd.R_bound h) (fun k hk => ?_)) (fun _ _ => trivial); obtain ⟨_, _, hlt, q, hq, cells, hc⟩ := hk; refine (ho k _ hc (fun e => ?_) (fun c fz e => ?_)).trans hc.symm
 ·obtain rfl := Option.some.inj e
  rw [hb] at hc
  injection hc with hc
  injection hc with _ hc
  exact (ht q hq).2 hc.symm
 ·injection e with _ e
  exact (ht q hq).1 e
theorem Qhw {T e B b : Nat} {bs : List Value} {w : World} (h : Lib.IsBuilderF T e B b bs w) : ∃ cs, w.heap[b]? = some (.cells cs T (0, 0)) := by
 rcases h with ⟨_, v, hv, _⟩ | ⟨_, v, hv, _⟩ <;> exact ⟨_, hv⟩
theorem Qna {w : World} {s : Nat} {z0 z1 : Value} (h : w.heap[s]? = some (.cells #[z0, z1] 68 (0, 0))) (v0 v1 : Value) :
  ((w.setCell ⟨s, 0, none⟩ v0).setCell ⟨s, 1, none⟩ v1).heap[s]? = some (.cells #[v0, v1] 68 (0, 0)) := by
 have h0 : (w.setCell ⟨s, 0, none⟩ v0).heap[s]? = some (.cells #[v0, z1] 68 (0, 0)) := Zu h 0 v0 rfl; exact Zu h0 1 v1 rfl
def Xq.T8 : Bool × List (List Nat × List Nat) := (true, [([], []), ([0], [0]), ([1], [1]), ([], []), ([2, 3], [2, 3]), ([4], [4]), ([5], [5]), ([], []), ([7], [7]), ([8], [8]), ([], []), ([9, 10, 4], [9, 10]), ([6, 11], [6, 11]), ([12], [12]), ([13], [13]), ([14], [14]), ([15, 11], [15])])
def Xq.B8 : List Nat := [0, 1, 3, 0, 15, 31, 63, 0, 128, 384, 0, 1951, 4095, 8191, 16383, 32767, 65535]
theorem Xq.tab8 : Yu .any (Jj Tryz.f25 8) = Xq.T8 := by kernel_rfl
theorem Xq.bits8 : Ys Xq.T8.2 Xq.B8 = true := by kernel_rfl
def Xq.T12 : Bool × List (List Nat × List Nat) := (true, [([], []), ([0], [0]), ([], []), ([2], [2]), ([3], [3]), ([1, 4], [1, 4]), ([], []), ([6], [6]), ([5, 7], [5, 7]), ([8], [8])])
def Xq.B12 : List Nat := [0, 1, 0, 4, 12, 31, 0, 64, 255, 511]
theorem Xq.tab12 : Yu .any (Jj Tryz.f25 12) = Xq.T12 := by kernel_rfl
theorem Xq.bits12 : Ys Xq.T12.2 Xq.B12 = true := by kernel_rfl
theorem Qnk {b p : Nat} {cs : Array Value} {t : TypeId} {w w' : World} (h : Lib.OthersKept 5 (some b) w w') (hp : w.heap[p]? = some (.cells cs t (0, 0))) (hne : p ≠ b) (ht : t ≠ 5) : w'.heap[p]? = some (.cells cs t (0, 0)) :=
 h p _ hp (fun e => hne (Option.some.inj e)) (fun c fz e => ht (by injection e))
set_option maxHeartbeats 8000000 in
set_option maxRecDepth 100000 in
theorem Xq.calls (k : Nat) (A0 : Option Addr) (c0 : Nat) (l0 : List S45) (out : List UInt8) (w : World) (hr0 : Kd.C k45 w A0 l0.length l0) (hc0 : l0.length ≤ c0) (hok : Xh.f k l0 = some true) (hT : Qaf k l0 out) (hz : out.length ≤ 1000000) :
  Calls Tryz.prog 25 #[.slice A0 l0.length c0] w fun e w' => e = .returned (.string ⟨out.toArray⟩) ∧ Below w.heap.size w w' := by
 have hu45 := Tryz.underlying45; have hu68 := Tryz.underlying68; have HR := Qa.mk hr0; have HC := Qa.mk hc0; have HN : Qa (l0.length ≤ 9223372036854775807) := ⟨hr0.2.1⟩; have HO := Qa.mk hok; have HT := Qa.mk hT; have HZ := Qa.mk hz; clear hr0 hc0 hok hT hz
 go_enter Tryz.func25, Tryz.ntmps25
 go_wp2_with fail; refine (Xh.calls k A0 c0 l0 true _ HR.out HC.out HO.out).mono ?_; rintro e w1 ⟨rfl, hb⟩; have HB := Qa.mk hb; clear hb; go_wp2_with ((with_reducible refine Zs (N := 3) rfl ?_); refine Xd ?hg (N := 3) ?hd (cs := #[.pointer none, .slice none 0 0]) (t := 87) ?hr ?_; (case hd => rfl); (case hg => rfl); (case hr => first | (go_simp; done) | (go_simp; rfl)); intro b hg w3 hbox hb; have GB := Qa.mk ((by rw [hg]; exact Qh HB.out) : w.heap.size ≤ b); have BB := Qa.mk hbox; replace HB := Qa.mk (Qk HB.out hb); clear hg hbox hb); have HBU : Qa (Lib.IsBuilderF 87 5 w.heap.size b (Lib.byteCells []) w3) := ⟨Lib.IsBuilderF.of (.inl ⟨GB.out, _, BB.out, ⟨rfl, .inl ⟨rfl, rfl⟩⟩, by simp [Value.ownBlock]⟩)⟩; have HLT := Qa.mk (Ul BB.out); clear BB
 go_loopg [15] l0.length (fun kq v15 wr => ∃ (i : Nat) (acc rest : List UInt8), v15 = .int .i64 (i : Int) ∧ Qa (i + kq = l0.length) ∧ Qa (Lib.IsBuilderF 87 5 w.heap.size b (Lib.byteCells acc) wr) ∧ Qa (Below w.heap.size w wr) ∧ Qa (b < wr.heap.size) ∧ Qa (Qaf k (l0.drop i) rest) ∧ Qa (acc ++ rest = out))
 case atStart => exact ⟨0, [], out, rfl, ⟨Nat.zero_add _⟩, HBU, HB, HLT, HT, ⟨rfl⟩⟩
 case round =>
  obtain ⟨i, acc, rest, rfl, HI, HU, HW, HL, HG, HE⟩ := hrel; clear HBU HB HLT
  cases gk with
  | zero =>
   have hil : ¬ i < l0.length := by have := HI.out; omega
   have lt1 : decide ((i : Int) < (l0.length : Int)) = false := decide_eq_false (by omega); have lt1n : decide (i < l0.length) = false := decide_eq_false hil; have hg := HG.out
   rw [List.drop_of_length_le (by omega)] at hg
   have he := HE.out
   cases hg
   rw [List.append_nil] at he
   have HE2 := Qa.mk he; clear he HE HG; go_wp2_with fail; refine (Tryz.Builder_String_kb w.heap.size b acc wr HU.out HW.out.size).mono ?_; rintro e w9 ⟨rfl, hb⟩; have HB9 := Qa.mk (HW.out.trans hb); clear hb; go_wp2_with fail; go_ret; exact ⟨by rw [← HE2.out]; rfl, HB9.out⟩
  | succ k1 =>
   have hil : i < l0.length := by have := HI.out; omega
   have LT0 : Qa ((i : Int) < (l0.length : Int)) := ⟨by omega⟩; have lt0 : decide ((i : Int) < (l0.length : Int)) = true := decide_eq_true LT0.out; have lt0n : decide (i < l0.length) = true := decide_eq_true hil; obtain ⟨ad, A2, c2, ea, hx0, hx1, hx2, hl2, hC2⟩ := Qen HR.out (i : Int) (by omega) LT0.out
   cases ea
   rw [Jz hil, Int.toNat_natCast] at hx0 hx1 hx2
   rw [Jz hil] at hl2 hC2
   replace hx0 := Zh HW.out hx0; replace hx1 := Zh HW.out hx1; replace hx2 := Zh HW.out hx2; have hg := HG.out
   rw [List.drop_eq_getElem_cons hil] at hg
   generalize l0[i] = h at hx0 hx1 hx2 hl2 hC2 hg
   have he := HE.out
   obtain _ | @⟨_, _, f, t, p1, p2, m, out2, sd, h1, h2, z1, z2, hm, hk, ho⟩ := hg
   have SD := Qa.mk sd; have P1 := Qa.mk h1; have P2 := Qa.mk h2; have Z1 := Qa.mk z1; have Z2 := Qa.mk z2; have MM := Qa.mk hm; have MK := Qa.mk hk; have MO := Qa.mk ho; have HE2 := Qa.mk he; have L2 := Qa.mk hl2; have C2 := Qa.mk hC2; have HWI : Qa (wrap64 ((i : Int) + 1) = ((i + 1 : Nat) : Int)) := ⟨by have := HN.out; unfold wrap64; omega⟩; have p0t : ((0 : Int) ≤ (i : Int)) = True := eq_true (by omega); have lt0p := eq_true LT0.out; have lt0q : (i < l0.length) = True := eq_true hil; clear sd h1 h2 z1 z2 hm hk ho he hl2 hC2 HG HE
   go_upto_region 7 with ((with_reducible refine Zs (N := 5) rfl ?_); refine Xd ?hg (N := 5) ?hd (cs := #[.int .i64 0, .int .i64 0, .slice none 0 0]) (t := 45) ?hr ?_; (case hd => rfl); (case hg => rfl); (case hr => first | (go_simp; done) | (go_simp; rfl)); intro f5 hg w6 hbox hb; have BK := Qa.mk hbox; have HB6 := Qa.mk hb; have GE := Qa.mk (Nat.le_of_eq hg.symm); obtain ⟨y0, y1, y2⟩ := And.intro ((Ql hbox 0).trans (show _ = some (Value.int .i64 0) from rfl)) (And.intro ((Ql hbox 1).trans (show _ = some (Value.int .i64 0) from rfl)) ((Ql hbox 2).trans (show _ = some (Value.slice none 0 0) from rfl))); have x0 := Qo hbox 0; have x1 := Qo hbox 1; have x2 := Qo hbox 2; clear hg hbox hb)
   have BK1 := Qa.mk (Qid BK.out (.int .i64 h.f0) (.int .i64 h.f1) (.slice A2 h.f2.length c2)); have HB7 := Qa.mk (Qko HB6.out GE.out (.int .i64 h.f0) (.int .i64 h.f1) (.slice A2 h.f2.length c2)); clear BK HB6 y0 y1 y2 x0 x1 x2 hx0 hx1 hx2
   generalize ((w6.setCell ⟨f5, 0, none⟩ (.int .i64 h.f0)).setCell ⟨f5, 1, none⟩ (.int .i64 h.f1)).setCell ⟨f5, 2, none⟩ (.slice A2 h.f2.length c2) = wA at BK1 HB7 ⊢
   have NE : Qa (f5 ≠ b) := ⟨fun e => by have := HL.out; have := GE.out; omega⟩; replace HU := Qa.mk (Yg HU.out HB7.out); replace HW := Qa.mk (Qk HW.out HB7.out); replace HL : Qa (b < wA.heap.size) := ⟨Nat.lt_of_lt_of_le HL.out HB7.out.size⟩; clear HB7 GE; have z2 := (Ql BK1.out 2).trans (show _ = some (Value.slice A2 h.f2.length c2) from rfl); go_wp2_with fail; refine (Xi.calls k A2 c2 h.f2 f t _ (Kd.C_below C2.out HW.out) L2.out SD.out).mono ?_; rintro e w7 ⟨rfl, hb⟩; replace BK1 := Qa.mk (Xt BK1.out hb); replace HU := Qa.mk (Yg HU.out hb); replace HW := Qa.mk (Qk HW.out hb); replace HL : Qa (b < w7.heap.size) := ⟨Nat.lt_of_lt_of_le HL.out hb.size⟩; clear hb z2; have z0 := (Ql BK1.out 0).trans (show _ = some (Value.int .i64 h.f0) from rfl); have z1 := (Ql BK1.out 1).trans (show _ = some (Value.int .i64 h.f1) from rfl); have z2 := (Ql BK1.out 2).trans (show _ = some (Value.slice A2 h.f2.length c2) from rfl); go_wp2_with fail; have zz1 := Z1.out; have zz2 := Z2.out; have s1 : (9223372036854775807 < 4 + p1.size) = False := eq_false (by omega); have s2 : (9223372036854775807 < 4 + p1.size + 2) = False := eq_false (by omega); have s3 : (9223372036854775807 < 4 + p1.size + 2 + p2.size) = False := eq_false (by omega); have s4 : (9223372036854775807 < 4 + p1.size + 2 + p2.size + 1) = False := eq_false (by omega); have s5 : (9223372036854775807 < 4 + p1.size + 2 + p2.size + 1 + 2) = False := eq_false (by omega); have s6 : (9223372036854775807 < 4 + p1.size + 2 + p2.size + 1 + 2 + 1) = False := eq_false (by omega)
   have LEN : Qa ((Lib.byteCells acc).length + (Qew p1 p2).size ≤ 140737488355328) := ⟨by
    rw [Lib.byteCells_length]; have := congrArg List.length HE2.out; have hz := HZ.out; have e : (Qew p1 p2).data.toList.length = (Qew p1 p2).size := Array.length_toList
    simp only [List.length_append, e] at this
    omega⟩
   clear zz1 zz2; refine Vo (n := 17) (S := fun w' => w'.cell? ⟨f5, 0, none⟩ = some (.int .i64 h.f0) ∧ w'.cell? ⟨f5, 1, none⟩ = some (.int .i64 h.f1)) (ds := [16]) (bz_ 17 0) (by kernel_rfl) rfl rfl ⟨z0, z1⟩ (fun hHeld => ?_); refine Yd Xq.tab8 Xq.bits8 (fun HT_ HW_ => ?_); replace HU := Qa.mk (Yg HU.out (Qd (Below.refl _ _))); replace HW := Qa.mk (Qd HW.out); replace BK1 := Qa.mk (Zg BK1.out); replace HL : Qa (b < w7.drew.heap.size) := HL; clear z0 z1 z2
   generalize w7.drew = w8 at HU HW BK1 HL hHeld ⊢
   refine Qx (i := 0) (N := some 25) (v := ?_) (a' := ?_) (bz_ 17 1) rfl rfl (Qs HT_.out (by kernel_rfl)) (fun _ _ _ h => h) (Or.inl ⟨by rfl, ?_⟩) ?_ ?_; rotate_left
   ·intro w'
    go_simp
    with_reducible rfl
   rotate_left
   ·simp only [Act.put, sA_, sB_, sC_, Qp, Qr]
    rfl
   refine take_ (i := 1) (N := some 26) (v := ?_) (a' := ?_) (bz_ 17 3) rfl rfl (Xb HT_.out HW_.out (by kernel_rfl)) (fun _ _ _ h => h) (Or.inl ⟨by rfl, ?_⟩) hHeld ?_ ?_; rotate_left
   ·rintro w' ⟨s0_, s1_⟩
    go_simp
    with_reducible rfl
   rotate_left
   ·simp only [Act.put, sA_, sB_, sC_, Qp, Qr]
    rfl
   refine Qx (i := 2) (N := some 27) (v := ?_) (a' := ?_) (bz_ 17 7) rfl rfl (Qs HT_.out (by kernel_rfl)) (fun _ _ _ h => h) (Or.inl ⟨by rfl, ?_⟩) ?_ ?_; rotate_left
   ·intro w'
    go_simp
    with_reducible rfl
   rotate_left
   ·simp only [Act.put, sA_, sB_, sC_, Qp, Qr]
    rfl
   refine Qx (i := 3) (N := some 28) (v := ?_) (a' := ?_) (bz_ 17 15) rfl rfl (Qs HT_.out (by kernel_rfl)) (fun _ _ _ h => h) (Or.inl ⟨by rfl, ?_⟩) ?_ ?_; rotate_left
   ·intro w'
    go_simp
    with_reducible rfl
   rotate_left
   ·simp only [Act.put, sA_, sB_, sC_, Qp, Qr]
    rfl
   refine Qx (i := 7) (N := some 32) (v := ?_) (a' := ?_) (bz_ 17 143) rfl rfl (Qs HT_.out (by kernel_rfl)) (fun _ _ _ h => h) (Or.inl ⟨by rfl, ?_⟩) ?_ ?_; rotate_left
   ·intro w'
    go_simp
    with_reducible rfl
   rotate_left
   ·simp only [Act.put, sA_, sB_, sC_, Qp, Qr]
    rfl
   refine take_ (i := 8) (N := some 33) (v := ?_) (a' := ?_) (bz_ 17 399) rfl rfl (Xb HT_.out HW_.out (by kernel_rfl)) (fun _ _ _ h => h) (Or.inl ⟨by rfl, ?_⟩) hHeld ?_ ?_; rotate_left
   ·rintro w' ⟨s0_, s1_⟩
    go_simp
    with_reducible rfl
   rotate_left
   ·simp only [Act.put, sA_, sB_, sC_, Qp, Qr]
    rfl
   refine Qx (i := 9) (N := some 34) (v := ?_) (a' := ?_) (bz_ 17 911) rfl rfl (Qs HT_.out (by kernel_rfl)) (fun _ _ _ h => h) (Or.inl ⟨by rfl, ?_⟩) ?_ ?_; rotate_left
   ·intro w'
    go_simp
    with_reducible rfl
   rotate_left
   ·simp only [Act.put, sA_, sB_, sC_, Qp, Qr]
    rfl
   refine Qx (i := 10) (N := some 35) (v := ?_) (a' := ?_) (bz_ 17 1935) rfl rfl (Qs HT_.out (by kernel_rfl)) (fun _ _ _ h => h) (Or.inl ⟨by rfl, ?_⟩) ?_ ?_; rotate_left
   ·intro w'
    go_simp
    with_reducible rfl
   rotate_left
   ·simp only [Act.put, sA_, sB_, sC_, Qp, Qr]
    rfl
   refine Jx (i := 4) (N := some 29) (bz_ 17 1951) rfl rfl (Ye HT_.out (by kernel_rfl)) (by decide) (fun K hK => ?_); refine Qkv Tryz.func39 (by kernel_rfl) rfl #[.int .i64 (wrap64 (h.f0 + 1)), .int .i64 f] (by rfl) rfl rfl (by (try simp only [List.map_toArray, List.map_cons, List.map_nil]); first | done | rfl) ?_; refine (Ve.calls k (wrap64 (h.f0 + 1)) f p1 _ P1.out).mono ?_; rintro e w9 ⟨rfl, hb⟩; refine ⟨_, rfl, ?_⟩; replace BK1 := Qa.mk (Xt BK1.out hb); replace HU := Qa.mk (Yg HU.out hb); replace HW := Qa.mk (Qk HW.out hb); replace HL : Qa (b < w9.heap.size) := ⟨Nat.lt_of_lt_of_le HL.out hb.size⟩; refine hK.out _ _ ⟨Zh hb hHeld.1, Zh hb hHeld.2⟩ (fun hHeld => ?_); clear hb; clear hK K; refine Vn (a' := ?_) ?_ ?_; rotate_left
   ·show Act.put _ (some 29) _ = _
    simp only [Act.put, sA_, sB_, sC_, Qp, Qr]; rfl
   refine Qx (i := 5) (N := some 30) (v := ?_) (a' := ?_) (bz_ 17 1983) rfl rfl (Qs HT_.out (by kernel_rfl)) (fun _ _ _ h => h) (Or.inl ⟨by rfl, ?_⟩) ?_ ?_; rotate_left
   ·intro w'
    go_simp
    with_reducible rfl
   rotate_left
   ·simp only [Act.put, sA_, sB_, sC_, Qp, Qr]
    rfl
   refine Qx (i := 6) (N := some 31) (v := ?_) (a' := ?_) (bz_ 17 2047) rfl rfl (Qs HT_.out (by kernel_rfl)) (fun _ _ _ h => h) (Or.inl ⟨by rfl, ?_⟩) ?_ ?_; rotate_left
   ·intro w'
    go_simp
    with_reducible rfl
   rotate_left
   ·simp only [Act.put, sA_, sB_, sC_, Qp, Qr]
    rfl
   refine Jx (i := 11) (N := some 36) (bz_ 17 4095) rfl rfl (Ye HT_.out (by kernel_rfl)) (by decide) (fun K hK => ?_); refine Qkv Tryz.func39 (by kernel_rfl) rfl #[.int .i64 (wrap64 (h.f1 + 1)), .int .i64 t] (by rfl) rfl rfl (by (try simp only [List.map_toArray, List.map_cons, List.map_nil]); first | done | rfl) ?_; refine (Ve.calls k (wrap64 (h.f1 + 1)) t p2 _ P2.out).mono ?_; rintro e w10 ⟨rfl, hb⟩; refine ⟨_, rfl, ?_⟩; replace BK1 := Qa.mk (Xt BK1.out hb); replace HU := Qa.mk (Yg HU.out hb); replace HW := Qa.mk (Qk HW.out hb); replace HL : Qa (b < w10.heap.size) := ⟨Nat.lt_of_lt_of_le HL.out hb.size⟩; refine hK.out _ _ ⟨Zh hb hHeld.1, Zh hb hHeld.2⟩ (fun hHeld => ?_); clear hb; clear hK K; refine Vn (a' := ?_) ?_ ?_; rotate_left
   ·show Act.put _ (some 36) _ = _
    simp only [Act.put, sA_, sB_, sC_, Qp, Qr]; rfl
   refine Qx (i := 12) (N := some 37) (v := ?_) (a' := ?_) (bz_ 17 8191) rfl rfl (Qs HT_.out (by kernel_rfl)) (fun _ _ _ h => h) (Or.inl ⟨by rfl, ?_⟩) ?_ ?_; rotate_left
   ·intro w'
    go_simp
    with_reducible rfl
   rotate_left
   ·simp only [Act.put, sA_, sB_, sC_, Qp, Qr]
    rfl
   refine Qx (i := 13) (N := some 38) (v := ?_) (a' := ?_) (bz_ 17 16383) rfl rfl (Qs HT_.out (by kernel_rfl)) (fun _ _ _ h => h) (Or.inl ⟨by rfl, ?_⟩) ?_ ?_; rotate_left
   ·intro w'
    go_simp
    with_reducible rfl
   rotate_left
   ·simp only [Act.put, sA_, sB_, sC_, Qp, Qr]
    rfl
   refine Qx (i := 14) (N := some 39) (v := ?_) (a' := ?_) (bz_ 17 32767) rfl rfl (Qs HT_.out (by kernel_rfl)) (fun _ _ _ h => h) (Or.inl ⟨by rfl, ?_⟩) ?_ ?_; rotate_left
   ·intro w'
    go_simp
    with_reducible rfl
   rotate_left
   ·simp only [Act.put, sA_, sB_, sC_, Qp, Qr]
    rfl
   refine Qx (i := 15) (N := some 40) (v := ?_) (a' := ?_) (bz_ 17 65535) rfl rfl (Qs HT_.out (by kernel_rfl)) (fun _ _ _ h => h) (Or.inl ⟨by rfl, ?_⟩) ?_ ?_; rotate_left
   ·intro w'
    go_simp
    with_reducible rfl
   rotate_left
   ·simp only [Act.put, sA_, sB_, sC_, Qp, Qr]
    rfl
   refine Km (i := 16) (N := some 41) (bz_ 17 131071) rfl rfl (Ye HT_.out (by kernel_rfl)) (by decide) (fun K hK => ?_); refine Qkv Tryz.func38 (by kernel_rfl) rfl #[.pointer (some ⟨b, 0, none⟩), .string (Qew p1 p2)] (by rfl) rfl rfl (by (try simp only [List.map_toArray, List.map_cons, List.map_nil]); first | done | rfl) ?_; refine (Tryz.Builder_WriteString_k w.heap.size b _ (Qew p1 p2) _ HU.out LEN.out HW.out.size).mono ?_; rintro e w11 ⟨rfl, hbu, hb, hkp⟩; refine ⟨_, rfl, ?_⟩
   rw [Qgb] at hbu
   replace BK1 := Qa.mk (Qnk hkp BK1.out NE.out (by decide)); replace HL : Qa (b < w11.heap.size) := ⟨Lib.BuilderAtF.lt hbu⟩; replace HU := Qa.mk (Or.inr hbu : Lib.IsBuilderF 87 5 w.heap.size b _ w11); replace HW := Qa.mk (HW.out.trans hb); clear hbu hb hkp; refine hK.out _ _ ?_; clear hK K; refine Vn (a' := ?_) ?_ ?_; rotate_left
   ·show Act.put _ (some 41) _ = _
    simp only [Act.put, sA_, sB_, sC_, Qp, Qr]; rfl
   refine Un (Vb HT_.out (by kernel_rfl)) ?_; clear hHeld HT_ HW_ LEN s1 s2 s3 s4 s5 s6 SD P1 P2 Z1 Z2; have z2 := (Ql BK1.out 2).trans (show _ = some (Value.slice A2 h.f2.length c2) from rfl); go_wp2_with fail; refine (Ze.calls k A2 c2 h.f2 m _ (Kd.C_below C2.out HW.out) L2.out MM.out).mono ?_; rintro e w12 ⟨v0_, rfl, hRm, hb⟩; obtain ⟨M, mc, rfl, hcM, _⟩ := Kd.R_reads hRm; have RM := Qa.mk hRm; replace HU := Qa.mk (Yg HU.out hb); replace HW := Qa.mk (Qk HW.out hb); replace HL : Qa (b < w12.heap.size) := ⟨Nat.lt_of_lt_of_le HL.out hb.size⟩; clear hRm hb z2 hcM BK1 NE; have ML : Qa (m.length ≤ 9223372036854775807) := ⟨by obtain ⟨_, _, _, _, hC⟩ := Kd.R_reads RM.out; exact hC.2.1⟩; go_wp2_with fail
   go_loopg [46] m.length (fun kq v46 wr => ∃ (j : Nat) (acc2 : List UInt8), v46 = .int .i64 (j : Int) ∧ Qa (j + kq = m.length) ∧ Qa (Lib.IsBuilderF 87 5 w.heap.size b (Lib.byteCells acc2) wr) ∧ Qa (Below w.heap.size w wr) ∧ Qa (b < wr.heap.size) ∧ Qa (Kd.R k68 68 wr w11.heap.size (fun _ => True) (.slice M m.length mc) m) ∧ Qa (acc2 ++ (Qbx (m.drop j) ++ out2) = out))
   case atStart => exact ⟨0, _, rfl, ⟨Nat.zero_add _⟩, HU, HW, HL, RM, ⟨by rw [List.drop_zero, List.append_assoc]; exact HE2.out⟩⟩
   case round =>
    obtain ⟨j, acc2, rfl, HJ, HU, HW, HL, RM, HE⟩ := hrel
    cases gk with
    | zero =>
     have hjl : ¬ j < m.length := by have := HJ.out; omega
     have lm1 : decide ((j : Int) < (m.length : Int)) = false := decide_eq_false (by omega); have lm1n : decide (j < m.length) = false := decide_eq_false hjl; have he := HE.out
     rw [List.drop_of_length_le (by omega)] at he
     have HE3 : Qa (acc2 ++ out2 = out) := ⟨he⟩; clear he; go_wp2_with fail
     go_roundg k1
     case measure => omega
     case rel => exact ⟨i + 1, acc2, out2, by rw [HWI.out], ⟨by have := HI.out; omega⟩, HU, HW, HL, MO, HE3⟩
    | succ k2 =>
     have hjl : j < m.length := by have := HJ.out; omega
     have LJ0 : Qa ((j : Int) < (m.length : Int)) := ⟨by omega⟩; have lj0 : decide ((j : Int) < (m.length : Int)) = true := decide_eq_true LJ0.out; have lj0n : decide (j < m.length) = true := decide_eq_true hjl; obtain ⟨_, _, eM, _, hCM⟩ := Kd.R_reads RM.out
     injection eM with eM1 _ eM2
     subst eM1; subst eM2; obtain ⟨am, eam, hm0, hm1⟩ := Qah hCM (j : Int) (by omega) LJ0.out
     cases eam
     have e68 : Zd m (j : Int) = m[j] := by simp [Zd, List.getD_eq_getElem?_getD, hjl]
     rw [e68, Int.toNat_natCast] at hm0 hm1
     have KK := Qa.mk (MK.out _ (List.getElem_mem hjl)); have he := HE.out
     rw [List.drop_eq_getElem_cons hjl] at he
     generalize m[j] = s at hm0 hm1 KK he
     have HE3 := Qa.mk he; have HWJ : Qa (wrap64 ((j : Int) + 1) = ((j + 1 : Nat) : Int)) := ⟨by have := ML.out; unfold wrap64; omega⟩; have q0t : ((0 : Int) ≤ (j : Int)) = True := eq_true (by omega); have lj0p := eq_true LJ0.out; have lj0q : (j < m.length) = True := eq_true hjl; clear he HE hCM e68
     go_upto_region 12 with ((with_reducible refine Zs (N := 9) rfl ?_); refine Xd ?hg (N := 9) ?hd (cs := #[.int .i64 0, .string ⟨#[]⟩]) (t := 68) ?hr ?_; (case hd => rfl); (case hg => rfl); (case hr => first | (go_simp; done) | (go_simp; rfl)); intro f9 hg w13 hbox hb; have BK := Qa.mk hbox; have HB6 := Qa.mk hb; have GE := Qa.mk (Nat.le_of_eq hg.symm); obtain ⟨y0, y1⟩ := And.intro ((Ql hbox 0).trans (show _ = some (Value.int .i64 0) from rfl)) ((Ql hbox 1).trans (show _ = some (Value.string ⟨#[]⟩) from rfl)); have x0 := Qo hbox 0; have x1 := Qo hbox 1; clear hg hbox hb)
     have BK1 := Qa.mk (Qna BK.out (.int .i64 s.f0) (.string s.f1)); have HB7 : Qa (Below wr.heap.size wr ((w13.setCell ⟨f9, 0, none⟩ (.int .i64 s.f0)).setCell ⟨f9, 1, none⟩ (.string s.f1))) := ⟨Qu (Qu HB6.out GE.out) GE.out⟩; clear BK HB6 y0 y1 x0 x1 hm0 hm1
     generalize (w13.setCell ⟨f9, 0, none⟩ (.int .i64 s.f0)).setCell ⟨f9, 1, none⟩ (.string s.f1) = wB at BK1 HB7 ⊢
     have NE : Qa (f9 ≠ b) := ⟨fun e => by have := HL.out; have := GE.out; omega⟩; replace RM := Qa.mk (Kd.R_below RM.out HB7.out); replace HU := Qa.mk (Yg HU.out HB7.out); replace HW := Qa.mk (Qk HW.out HB7.out); replace HL : Qa (b < wB.heap.size) := ⟨Nat.lt_of_lt_of_le HL.out HB7.out.size⟩; clear HB7 GE; obtain ⟨kd, sx⟩ := s
     simp only at BK1 HE3 KK ⊢
     obtain ⟨hk, hzx, hen⟩ := KK.out; have EN := Qa.mk hen
     have hw1 : wrap64 (kd + 1) = kd + 1 := by unfold wrap64; omega
     have r1 : ((0 : Int) ≤ kd) = True := eq_true (by rcases hk with rfl | rfl | rfl <;> decide); have r2 : (kd ≤ wrap64 (kd + 1)) = True := eq_true (by rw [hw1]; omega); have r3 : (wrap64 (kd + 1) ≤ 3) = True := eq_true (by rw [hw1]; rcases hk with rfl | rfl | rfl <;> decide)
     have eT : (ByteArray.extract ⟨#[32, 45, 43]⟩ kd.toNat (wrap64 (kd + 1)).toNat) = Qpc kd := by rw [hw1]; rcases hk with rfl | rfl | rfl <;> rfl
     obtain ⟨ext, hext⟩ : ∃ x, ByteArray.extract ⟨#[32, 45, 43]⟩ kd.toNat (wrap64 (kd + 1)).toNat = x := ⟨_, rfl⟩
     have hes : ext.size = 1 := by rw [← hext, eT]; rcases hk with rfl | rfl | rfl <;> rfl
     have r4 : (9223372036854775807 < ext.size + sx.size) = False := eq_false (by omega); have r5 : (9223372036854775807 < 1 + sx.size) = False := eq_false (by omega)
     have LEN : Qa ((Lib.byteCells acc2).length + (ext ++ sx).size ≤ 140737488355328) := ⟨by
      rw [Lib.byteCells_length, ← hext, eT]; have := congrArg List.length HE3.out; have hz := HZ.out; have e : (Qpc kd ++ sx).data.toList.length = (Qpc kd ++ sx).size := Array.length_toList
      simp only [Qbx, List.length_append, e] at this
      omega⟩
     have ET := Qa.mk (hext.symm.trans eT); clear hk hw1 eT hzx hen hes KK; have z0 := (Ql BK1.out 0).trans (show _ = some (Value.int .i64 kd) from rfl); have z1 := (Ql BK1.out 1).trans (show _ = some (Value.string sx) from rfl); go_wp2_with fail; refine Vo (n := 10) (S := fun w' => w'.cell? ⟨f9, 0, none⟩ = some (.int .i64 kd) ∧ w'.cell? ⟨f9, 1, none⟩ = some (.string sx)) (ds := [9]) (bz_ 10 0) (by kernel_rfl) rfl rfl ⟨z0, z1⟩ (fun hHeld => ?_); refine Yd Xq.tab12 Xq.bits12 (fun HT_ HW_ => ?_); replace HU := Qa.mk (Yg HU.out (Qd (Below.refl _ _))); replace HW := Qa.mk (Qd HW.out); replace BK1 := Qa.mk (Zg BK1.out); replace RM := Qa.mk (Kd.R_drew RM.out); replace HL : Qa (b < wB.drew.heap.size) := HL; clear z0 z1
     generalize wB.drew = w14 at HU HW BK1 RM HL hHeld ⊢
     refine Qx (i := 0) (N := some 50) (v := ?_) (a' := ?_) (bz_ 10 1) rfl rfl (Qs HT_.out (by kernel_rfl)) (fun _ _ _ h => h) (Or.inl ⟨by rfl, ?_⟩) ?_ ?_; rotate_left
     ·intro w'
      go_simp
      with_reducible rfl
     rotate_left
     ·simp only [Act.put, sA_, sB_, sC_, Qp, Qr]
      rfl
     refine take_ (i := 1) (N := some 51) (v := ?_) (a' := ?_) (bz_ 10 3) rfl rfl (Xb HT_.out HW_.out (by kernel_rfl)) (fun _ _ _ h => h) (Or.inl ⟨by rfl, ?_⟩) hHeld ?_ ?_; rotate_left
     ·rintro w' ⟨s0_, s1_⟩
      go_simp
      with_reducible rfl
     rotate_left
     ·simp only [Act.put, sA_, sB_, sC_, Qp, Qr]
      rfl
     refine Qx (i := 2) (N := some 52) (v := ?_) (a' := ?_) (bz_ 10 7) rfl rfl (Qs HT_.out (by kernel_rfl)) (fun _ _ _ h => h) (Or.inl ⟨by rfl, ?_⟩) ?_ ?_; rotate_left
     ·intro w'
      go_simp
      with_reducible rfl
     rotate_left
     ·simp only [Act.put, sA_, sB_, sC_, Qp, Qr]
      rfl
     refine take_ (i := 3) (N := some 53) (v := ?_) (a' := ?_) (bz_ 10 15) rfl rfl (Xb HT_.out HW_.out (by kernel_rfl)) (fun _ _ _ h => h) (Or.inl ⟨by rfl, ?_⟩) hHeld ?_ ?_; rotate_left
     ·rintro w' ⟨s0_, s1_⟩
      go_simp
      with_reducible rfl
     rotate_left
     ·simp only [Act.put, sA_, sB_, sC_, Qp, Qr]
      rfl
     refine Qx (i := 4) (N := some 54) (v := ?_) (a' := ?_) (bz_ 10 31) rfl rfl (Qs HT_.out (by kernel_rfl)) (fun _ _ _ h => h) (Or.inl ⟨by rfl, ?_⟩) ?_ ?_; rotate_left
     ·intro w'
      go_simp
      with_reducible rfl
     rotate_left
     ·simp only [Act.put, sA_, sB_, sC_, Qp, Qr]
      rfl
     refine Qx (i := 5) (N := some 55) (v := ?_) (a' := ?_) (bz_ 10 63) rfl rfl (Qs HT_.out (by kernel_rfl)) (fun _ _ _ h => h) (Or.inl ⟨by rfl, ?_⟩) ?_ ?_; rotate_left
     ·intro w'
      go_simp
      with_reducible rfl
     rotate_left
     ·simp only [Act.put, sA_, sB_, sC_, Qp, Qr]
      rfl
     refine Qx (i := 6) (N := some 56) (v := ?_) (a' := ?_) (bz_ 10 127) rfl rfl (Qs HT_.out (by kernel_rfl)) (fun _ _ _ h => h) (Or.inl ⟨by rfl, ?_⟩) ?_ ?_; rotate_left
     ·intro w'
      go_simp
      with_reducible rfl
     rotate_left
     ·simp only [Act.put, sA_, sB_, sC_, Qp, Qr]
      rfl
     refine take_ (i := 7) (N := some 57) (v := ?_) (a' := ?_) (bz_ 10 255) rfl rfl (Xb HT_.out HW_.out (by kernel_rfl)) (fun _ _ _ h => h) (Or.inl ⟨by rfl, ?_⟩) hHeld ?_ ?_; rotate_left
     ·rintro w' ⟨s0_, s1_⟩
      go_simp
      with_reducible rfl
     rotate_left
     ·simp only [Act.put, sA_, sB_, sC_, Qp, Qr]
      rfl
     refine Qx (i := 8) (N := some 58) (v := ?_) (a' := ?_) (bz_ 10 511) rfl rfl (Qs HT_.out (by kernel_rfl)) (fun _ _ _ h => h) (Or.inl ⟨by rfl, ?_⟩) ?_ ?_; rotate_left
     ·intro w'
      go_simp
      with_reducible rfl
     rotate_left
     ·simp only [Act.put, sA_, sB_, sC_, Qp, Qr]
      rfl
     refine Km (i := 9) (N := some 59) (bz_ 10 1023) rfl rfl (Ye HT_.out (by kernel_rfl)) (by decide) (fun K hK => ?_); refine Qkv Tryz.func38 (by kernel_rfl) rfl #[.pointer (some ⟨b, 0, none⟩), .string (ext ++ sx)] (by rfl) rfl rfl (by (try simp only [List.map_toArray, List.map_cons, List.map_nil]); first | done | rfl) ?_; obtain ⟨cs_, hbk_⟩ := Qhw HU.out; refine (Tryz.Builder_WriteString_k w.heap.size b _ (ext ++ sx) _ HU.out LEN.out HW.out.size).mono ?_; rintro e w15 ⟨rfl, hbu, hb, hkp⟩; refine ⟨_, rfl, ?_⟩
     rw [Qgb] at hbu
     replace BK1 := Qa.mk (Qnk hkp BK1.out NE.out (by decide)); replace RM := Qa.mk (Qml RM.out hkp hbk_ (by decide)); replace HL : Qa (b < w15.heap.size) := ⟨Lib.BuilderAtF.lt hbu⟩; replace HU := Qa.mk (Or.inr hbu : Lib.IsBuilderF 87 5 w.heap.size b _ w15); replace HW := Qa.mk (HW.out.trans hb); clear hbu hb hkp hbk_; refine hK.out _ _ ?_; clear hK K; refine Vn (a' := ?_) ?_ ?_; rotate_left
     ·show Act.put _ (some 59) _ = _
      simp only [Act.put, sA_, sB_, sC_, Qp, Qr]; rfl
     refine Un (Vb HT_.out (by kernel_rfl)) ?_; clear hHeld HT_ HW_ LEN; have z1 := (Ql BK1.out 1).trans (show _ = some (Value.string sx) from rfl); go_wp2_with fail; refine (Yf.calls sx true _ EN.out).mono ?_; rintro e w16 ⟨rfl, hD⟩; have hb := Xs.below hD; replace HU := Qa.mk (Yg HU.out hb); replace HW := Qa.mk (Qk HW.out hb); replace HL : Qa (b < w16.heap.size) := ⟨Nat.lt_of_lt_of_le HL.out hb.size⟩; replace RM := Qa.mk (Kd.R_below RM.out hb)
     have HE4 : Qa ((acc2 ++ (ext ++ sx).data.toList) ++ (Qbx (m.drop (j + 1)) ++ out2) = out) := ⟨by
      have := HE3.out; rw [ET.out]
      simp only [Qbx] at this
      rw [← this]
      simp only [List.append_assoc]⟩
     clear hb hD z1 BK1 NE HE3 ET EN; go_wp2_with fail
     go_roundg k2
     case measure => omega
     case rel => exact ⟨j + 1, _, by rw [HWJ.out], ⟨by have := HJ.out; omega⟩, HU, HW, HL, RM, HE4⟩
structure Qjk (s : ByteArray) (a b : Int) : Prop where
 hP : Lib.hasPrefix s.data.toList (⟨#[37]⟩ : ByteArray).data.toList = true
 hs : s.size < 1000
 hc : Lib.countB s ⟨#[32]⟩ = 3
 ex : ∃ x0 x1 x2 x3 d1 d2 : ByteArray, ∃ n1 n2 : Int, Lib.splitB ⟨#[32]⟩ 0 3 s = [x0, x1, x2, x3] ∧ x1.size < 1000 ∧ x2.size < 1000 ∧
  (Lib.cut (Lib.trimPrefix x1.data.toList (⟨#[45]⟩ : ByteArray).data.toList) [44]).1 = d1.data.toList ∧ d1.size ≤ 18 ∧ Lib.atoi d1.data.toList = some n1 ∧
  (Lib.cut (Lib.trimPrefix x2.data.toList (⟨#[43]⟩ : ByteArray).data.toList) [44]).1 = d2.data.toList ∧ d2.size ≤ 18 ∧ Lib.atoi d2.data.toList = some n2 ∧ a = wrap64 (n1 - 1) ∧ b = wrap64 (n2 - 1)
structure Qhs (s : ByteArray) (mk : S68) : Prop where
 hP : Lib.hasPrefix s.data.toList (⟨#[37]⟩ : ByteArray).data.toList = false
 hE : (s.toList == [92, 32, 110, 111, 32, 101, 110, 100, 10]) = false
 hs : 1 ≤ s.size
 ex : ∃ x : UInt8, s.extract 0 1 = ⟨#[x]⟩ ∧ Lib.indexByte (⟨#[32, 45, 43]⟩ : ByteArray).data.toList x = mk.f0
 hr : s.extract 1 s.size = mk.f1
 hk : 0 ≤ mk.f0
set_option maxHeartbeats 4000000 in
set_option maxRecDepth 100000 in
theorem reader_lineHead.calls (w0 W : World) (g : Nat) (a b a' b' : Int) (A : Option Addr) (c : Nat) (m : List S68) (s : ByteArray) (mm : Int) (h : Rdr w0 W g false a b A c m) (hm : w0.cell? ⟨0, 0, none⟩ = some (.int .i64 mm)) (hh : Qjk s a' b') :
  Calls Tryz.prog 42 #[.pointer (some ⟨g, 0, none⟩), .string s] W fun e W' => e = .returned (.bool true) ∧ Rdr w0 W' g true a' b' none 0 [] ∧ Vl W W' := by
 have H := Qa.mk h; have HM := Qa.mk hm; have HH := Qa.mk hh
 have C56 : ∀ w, Calls Tryz.prog 56 #[.string s, .string ⟨#[37]⟩] w fun e w' => e = .returned (.bool true) ∧ w' = w := fun w => by have := Tryz.strings_HasPrefix s ⟨#[37]⟩ w; rw [hh.hP] at this; exact this
 have C56' := Qa.mk C56; have y5 := (Ql h.blk 5).trans (show _ = some (Value.slice A m.length c) from rfl); clear h hm hh C56
 go_enter Tryz.func42, Tryz.ntmps42
 go_wp2_with fail; refine (C56'.out _).mono ?_; rintro e w1 ⟨rfl, rfl⟩; go_wp2_with fail; obtain ⟨x0, x1, x2, x3, d1, d2, n1, n2, e1, e2, e3, e4, e5, e6, e7, e8, e9, ea, eb⟩ := HH.out.ex; refine (reader_head.calls w0 w1 g a b A c m s x0 x1 x2 x3 d1 d2 n1 n2 mm H.out HM.out HH.out.hs HH.out.hc e1 e2 e3 e4 e5 e6 e7 e8 e9).mono ?_; rintro e w2 ⟨rfl, hr, hk⟩
 rw [← ea, ← eb] at hr
 have HR := Qa.mk hr; have HK := Qa.mk hk; clear hr hk e1 e2 e3 e4 e5 e6 e7 e8 e9 ea eb; go_wp2_with fail; go_ret; exact ⟨rfl, HR.out, HK.out⟩
set_option maxHeartbeats 8000000 in
set_option maxRecDepth 100000 in
theorem Qip.calls (k : Nat) (s l0 : ByteArray) (ts : List ByteArray) (ms : List S68) (a b : Int) (st : List S49) (mm : Int) (w : World) (hm : w.cell? ⟨0, 0, none⟩ = some (.int .i64 mm)) (hz : s.size ≤ 1000000) (hsp : Xl.f k s = some (l0 :: ts)) (hh : Qjk l0 a b)
  (htl : ts.length = ms.length) (hml : ms.length ≤ 1000) (hts : ∀ (j : Nat) (h1 : j < ts.length) (h2 : j < ms.length), Qhs ts[j] ms[j]) (hst : Qw.f k ms = some st) (hok : Xh.f k [⟨a, b, st⟩] = some true) (hT : Qaf k [⟨a, b, st⟩] s.data.toList) :
  Calls Tryz.prog 26 #[.string s] w fun e w' => ∃ A c, e = .returned (.tuple #[.slice A 1 c, .int .i64 0]) ∧ 1 ≤ c ∧ Kd.C k45 w' A 1 [⟨a, b, st⟩] ∧ Below w.heap.size w w' := by
 have HM := Qa.mk hm; have HZ := Qa.mk hz; have SP := Qa.mk hsp; have HH := Qa.mk hh; have TL := Qa.mk htl; have ML := Qa.mk hml; have TS := Qa.mk hts; have ST := Qa.mk hst; have OK := Qa.mk hok; have TX := Qa.mk hT; clear hm hz hsp hh htl hml hts hst hok hT
 go_enter Tryz.func26, Tryz.ntmps26
 go_wp2_with fail
 have R0 : Rdr w (w.alloc (.cells #[.slice none 0 0, .bool false, .int .i64 0, .int .i64 0, .slice none 0 0, .slice none 0 0] 97)) w.heap.size false 0 0 none 0 [] :=
  ⟨Qc (Below.refl _ _) _, Nat.le_refl _, Kb w _, Kd.R_nil _ _ _ _ _⟩
 have H0 := Qa.mk R0; clear R0
 generalize w.alloc (.cells #[.slice none 0 0, .bool false, .int .i64 0, .int .i64 0, .slice none 0 0, .slice none 0 0] 97) = wa at H0 ⊢
 obtain ⟨g, hg⟩ : ∃ g, w.heap.size = g := ⟨_, rfl⟩
 rw [hg] at H0 ⊢
 clear hg; obtain ⟨ls, hls⟩ : ∃ ls, l0 :: ts = ls := ⟨_, rfl⟩; have sp := SP.out
 rw [hls] at sp
 have ELS := Qa.mk hls; have SP2 := Qa.mk sp; clear sp SP hls; refine (Xl.calls k s ls _ SP2.out).mono ?_; rintro e w1 ⟨v0_, rfl, hR, hb⟩; obtain ⟨A, c, rfl, hcl, _⟩ := Kd.R_reads hR; have RL := Qa.mk hR; replace H0 := Qa.mk (H0.out.to hb); clear hR hb hcl; have LL : Qa (ls.length ≤ 1001) := ⟨by rw [← ELS.out, List.length_cons, TL.out]; have := ML.out; omega⟩; go_wp2_with fail
 go_loopg [12] ls.length (fun kq v12 wr => ∃ (i : Nat), v12 = .int .i64 (i : Int) ∧ Qa (i + kq = ls.length) ∧ Qa (Kd.R Kd.string 9 wr wa.heap.size (fun _ => True) (.slice A ls.length c) ls) ∧ Qa ((i = 0 ∧ Rdr w wr g false 0 0 none 0 []) ∨ (∃ A' c', 0 < i ∧ Rdr w wr g true a b A' c' (ms.take (i - 1)))))
 case atStart => exact ⟨0, rfl, ⟨Nat.zero_add _⟩, RL, ⟨.inl ⟨rfl, H0.out⟩⟩⟩
 case round =>
  clear RL H0; obtain ⟨i, rfl, HI, RL, HD⟩ := hrel
  cases gk with
  | zero =>
   have hil : ¬ i < ls.length := by have := HI.out; omega
   have lt1 : decide ((i : Int) < (ls.length : Int)) = false := decide_eq_false (by omega); have lt1n : decide (i < ls.length) = false := decide_eq_false hil
   obtain ⟨A', c', H1⟩ : ∃ A' c', Qa (Rdr w wr g true a b A' c' ms) := by
    have e : ls.length = ms.length + 1 := by rw [← ELS.out, List.length_cons, TL.out]
    rcases HD.out with ⟨h0, _⟩ | ⟨A', c', _, h⟩
    ·have := HI.out; omega
    ·rw [List.take_of_length_le (by have := HI.out; omega)] at h
     exact ⟨A', c', ⟨h⟩⟩
   clear HD; go_wp2_with fail; refine (reader_flush1.calls k w wr g a b A' c' ms st H1.out ST.out).mono ?_; rintro e w2 ⟨⟨v, rfl⟩, A2, c2, hD⟩; have z0 := hD.c0; have DD := Qa.mk hD; clear hD H1; go_wp2_with fail; refine (Xh.calls k A2 c2 [⟨a, b, st⟩] true w2 DD.out.row DD.out.le OK.out).mono ?_; rintro e w3 ⟨rfl, hb⟩; replace z0 := Zh hb z0; have C3 := Qa.mk (Kd.C_below DD.out.row hb); have B3 := Qa.mk (Qk DD.out.below hb); clear hb; go_wp2_with fail; have HT := Xq.calls k A2 c2 [⟨a, b, st⟩] s.data.toList w3 C3.out DD.out.le OK.out TX.out (by rw [Array.length_toList]; exact HZ.out)
   rw [show (⟨s.data.toList.toArray⟩ : ByteArray) = s by cases s; simp] at HT
   refine HT.mono ?_; rintro e w4 ⟨rfl, hb⟩; replace z0 := Zh hb z0; replace C3 := Qa.mk (Kd.C_below C3.out hb); replace B3 := Qa.mk (Qk B3.out hb); clear hb HT; go_wp2_with fail
   go_ret2
   exact ⟨A2, c2, rfl, DD.out.le, C3.out, B3.out⟩
  | succ k1 =>
   have hil : i < ls.length := by have := HI.out; omega
   have LT0 : Qa ((i : Int) < (ls.length : Int)) := ⟨by omega⟩; have lt0 : decide ((i : Int) < (ls.length : Int)) = true := decide_eq_true LT0.out; have lt0n : decide (i < ls.length) = true := decide_eq_true hil; obtain ⟨_, _, eA, _, hC⟩ := Kd.R_reads RL.out
   injection eA with eA1 _ eA2
   subst eA1; subst eA2; obtain ⟨ad, ea, hx⟩ := Kd.at_string hC (i : Int) (by omega) LT0.out
   cases ea
   have erd : Zy ByteArray.empty ls (i : Int) = ls[i] := by simp [Zy, List.getD_eq_getElem?_getD, hil]
   rw [erd, Int.toNat_natCast] at hx
   obtain ⟨x, hxe⟩ : ∃ x, ls[i] = x := ⟨_, rfl⟩
   rw [hxe] at hx
   have HXE := Qa.mk hxe; have HWI : Qa (wrap64 ((i : Int) + 1) = ((i + 1 : Nat) : Int)) := ⟨by have := LL.out; unfold wrap64; omega⟩; have p0t : ((0 : Int) ≤ (i : Int)) = True := eq_true (by omega); have lt0p := eq_true LT0.out; have lt0q : (i < ls.length) = True := eq_true hil
   have CALL : Calls Tryz.prog 42 #[.pointer (some ⟨g, 0, none⟩), .string x] wr fun e W' => e = .returned (.bool true) ∧ (∃ A' c', Rdr w W' g true a b A' c' (ms.take i)) ∧ Vl wr W' := by
    rcases HD.out with ⟨h0, h⟩ | ⟨A', c', h0, h⟩
    ·subst h0
     have ex : x = l0 := by
      have := HXE.out; have e := ELS.out; subst e; exact this.symm
     rw [ex]; refine (reader_lineHead.calls w wr g 0 0 a b none 0 [] l0 mm h HM.out HH.out).mono ?_; rintro e W' ⟨he, hr, hk⟩; exact ⟨he, ⟨_, _, hr⟩, hk⟩
    ·obtain ⟨j, rfl⟩ : ∃ j, i = j + 1 := ⟨i - 1, by omega⟩
     have e := ELS.out; have hxe := HXE.out; subst e
     simp only [List.length_cons] at hil
     have hj : j < ts.length := by omega
     have hj2 : j < ms.length := by rw [← TL.out]; exact hj
     have ex : x = ts[j] := hxe.symm; have T := TS.out j hj hj2
     rw [← ex] at T
     obtain ⟨y, hy1, hy2⟩ := T.ex; refine (reader_line.calls w wr g a b A' c' (ms.take (j + 1 - 1)) x ms[j].f1 y ms[j].f0 h (by rw [List.length_take]; have := ML.out; omega) T.hP T.hE T.hs hy1 T.hr hy2 T.hk).mono ?_; rintro e W' ⟨he, A2, c2, hr, hk⟩; refine ⟨he, ⟨A2, c2, ?_⟩, hk⟩
     have e3 : ms.take (j + 1) = ms.take (j + 1 - 1) ++ [⟨ms[j].f0, ms[j].f1⟩] := by rw [Nat.add_sub_cancel, List.take_succ_eq_append_getElem hj2]
     rw [e3]; exact hr
   have CALL' := Qa.mk CALL; clear CALL hC HD HXE erd hxe; go_wp2_with fail; refine CALL'.out.mono ?_; rintro e W2 ⟨rfl, ⟨A2, c2, hr⟩, hk⟩; replace RL := Qa.mk (Vl.C RL.out hk); have HD2 : Qa ((i + 1 = 0 ∧ Rdr w W2 g false 0 0 none 0 []) ∨ (∃ A' c', 0 < i + 1 ∧ Rdr w W2 g true a b A' c' (ms.take (i + 1 - 1)))) := ⟨.inr ⟨A2, c2, by omega, hr⟩⟩; clear hr hk hx CALL'; go_wp2_with fail
   go_roundg k1
   case measure => omega
   case rel => exact ⟨i + 1, by rw [HWI.out], ⟨by have := HI.out; omega⟩, RL, HD2⟩
end Go.Proofs.YtadafplbgophfaaGreatDoor.PA
end
section
namespace Go.Proofs.YtadafplbgophfaaGreatDoor.PA
open Go.RowKit Go.Proofs.YtadafplbgophfaaGreatDoorW.PrintWords Go.Proofs.YtadafplbgophfaaGreatDoorW.PrintLast Go.Proofs.YtadafplbgophfaaGreatDoorW.PrintMore
namespace Told
def ta : ByteArray := ⟨#[97, 10, 98, 10]⟩
def tc : ByteArray := ⟨#[97, 10, 99, 10]⟩
def la : ByteArray := ⟨#[97, 10]⟩
def lb : ByteArray := ⟨#[98, 10]⟩
def lc : ByteArray := ⟨#[99, 10]⟩
def sc : List S48 := [⟨0, [la]⟩, ⟨1, [lb]⟩, ⟨2, [lc]⟩]
def st : List S49 := [⟨0, [la]⟩, ⟨1, [lb]⟩, ⟨2, [lc]⟩]
def ms : List S68 := [⟨0, la⟩, ⟨1, lb⟩, ⟨2, lc⟩]
def hk : S45 := ⟨0, 0, st⟩
def tx : ByteArray := ⟨#[37, 37, 32, 45, 49, 44, 50, 32, 43, 49, 44, 50, 32, 37, 37, 10, 32, 97, 10, 45, 98, 10, 43, 99, 10]⟩
set_option maxRecDepth 100000
theorem script_is : Xk.f 40 ta tc = some sc := by kernel_rfl
theorem to_is : Qv.f 40 sc = some st := by kernel_rfl
theorem of_is : Zv.f 40 st 1 = some [hk] := by kernel_rfl
theorem steps_is : Qw.f 40 ms = some st := by kernel_rfl
theorem Qim : Ze.f 40 st = some ms := by kernel_rfl
theorem Qja : Xi.f 40 st = some (2, 2) := by kernel_rfl
theorem side1 : Kt 40 st 1 true [la, lb] := ⟨by kernel_rfl, by kernel_rfl, fun h => by cases h⟩
theorem side2 : Kt 40 st 2 true [la, lc] := ⟨by kernel_rfl, by kernel_rfl, fun h => by cases h⟩
theorem Qrb : Yf.f la = some true := by kernel_rfl
theorem Qgy : Yf.f lb = some true := by kernel_rfl
theorem Qrc : Yf.f lc = some true := by kernel_rfl
theorem Qkq : ∀ x ∈ ms, Yf.f x.f1 = some true := by
 intro x hx
 simp only [ms, List.mem_cons, List.not_mem_nil, or_false] at hx
 rcases hx with rfl | rfl | rfl
 ·exact Qrb
 ·exact Qgy
 ·exact Qrc
theorem Qol : Qeh 40 hk true 0 0 2 2 :=
 ⟨by kernel_rfl, by kernel_rfl, ⟨_, side1⟩, ⟨_, side2⟩, ⟨ms, Qim, by decide, fun x hx _ => Qkq x (List.mem_of_mem_take hx)⟩, by decide, by decide, by kernel_rfl, Qja⟩
theorem right_is : Xh.f 40 [hk] = some true := if_pos ⟨2, 2, Qol, trivial⟩
theorem text_ok : Qaf 40 [hk] tx.data.toList := by
 have h := Qaf.cons (k := 40) (h := hk) (r := []) (f := 2) (t := 2) (p1 := ⟨#[49, 44, 50]⟩) (p2 := ⟨#[49, 44, 50]⟩) (m := ms) (out := []) Qja (by kernel_rfl) (by kernel_rfl) (by decide) (by decide) Qim
  (fun x hx => ⟨by
   simp only [ms, List.mem_cons, List.not_mem_nil, or_false] at hx
   rcases hx with rfl | rfl | rfl <;> simp, by
   simp only [ms, List.mem_cons, List.not_mem_nil, or_false] at hx
   rcases hx with rfl | rfl | rfl <;> decide, Qkq x hx⟩) Qaf.nil
 have e : (Qew ⟨#[49, 44, 50]⟩ ⟨#[49, 44, 50]⟩).data.toList ++ (Qbx ms ++ []) = tx.data.toList := by kernel_rfl
 rw [← e]; exact h
def l0 : ByteArray := ⟨#[37, 37, 32, 45, 49, 44, 50, 32, 43, 49, 44, 50, 32, 37, 37, 10]⟩
def ts : List ByteArray := [⟨#[32, 97, 10]⟩, ⟨#[45, 98, 10]⟩, ⟨#[43, 99, 10]⟩]
theorem split_tx : Xl.f 40 tx = some (l0 :: ts) := by kernel_rfl
theorem head_ok : Qjk l0 0 0 :=
 ⟨by kernel_rfl, by decide, by kernel_rfl, ⟨#[37, 37]⟩, ⟨#[45, 49, 44, 50]⟩, ⟨#[43, 49, 44, 50]⟩, ⟨#[37, 37, 10]⟩, ⟨#[49]⟩, ⟨#[49]⟩, 1, 1, by kernel_rfl, by decide, by decide, by kernel_rfl, by decide, by kernel_rfl, by kernel_rfl, by decide, by kernel_rfl, by kernel_rfl, by kernel_rfl⟩
theorem Qrd : Qhs ⟨#[32, 97, 10]⟩ ⟨0, la⟩ := ⟨by kernel_rfl, by kernel_rfl, by decide, ⟨32, by kernel_rfl, by kernel_rfl⟩, by kernel_rfl, by decide⟩
theorem Qre : Qhs ⟨#[45, 98, 10]⟩ ⟨1, lb⟩ := ⟨by kernel_rfl, by kernel_rfl, by decide, ⟨45, by kernel_rfl, by kernel_rfl⟩, by kernel_rfl, by decide⟩
theorem Qrf : Qhs ⟨#[43, 99, 10]⟩ ⟨2, lc⟩ := ⟨by kernel_rfl, by kernel_rfl, by decide, ⟨43, by kernel_rfl, by kernel_rfl⟩, by kernel_rfl, by decide⟩
theorem tags_ok : ∀ (j : Nat) (h1 : j < ts.length) (h2 : j < ms.length), Qhs ts[j] ms[j] := by
 intro j h1 h2
 match j, h1, h2 with
 | 0, _, _ => exact Qrd
 | 1, _, _ => exact Qre
 | 2, _, _ => exact Qrf
 | j + 3, h, _ => exact absurd (show j + 3 < 3 from h) (by omega)
theorem apply_is : Zl.f 40 [hk] ta = some (tc, 0, -1) := by
 unfold Zl.f; rw [right_is]
 kernel_rfl
end Told
end Go.Proofs.YtadafplbgophfaaGreatDoor.PA
end
section
namespace Go.Proofs.YtadafplbgophfaaGreatDoor.PA
open Go.RowKit Go.Proofs.YtadafplbgophfaaGreatDoorW.PrintWords Go.Proofs.YtadafplbgophfaaGreatDoorW.PrintLast Go.Proofs.YtadafplbgophfaaGreatDoorW.PrintMore
set_option maxHeartbeats 4000000 in
set_option maxRecDepth 100000 in
theorem Qbe.calls (mm : Int) (w : World) (hm : w.cell? ⟨0, 0, none⟩ = some (.int .i64 mm)) :
  Calls Tryz.prog 10 #[] w fun e w' => e = .returned (.bool true) ∧ Below w.heap.size w w' := by
 have HM := Qa.mk hm; clear hm
 go_enter Tryz.func10, Tryz.ntmps10
 go_wp2_with fail; refine (Xk.calls 40 Told.ta Told.tc Told.sc _ Told.script_is).mono ?_; rintro e w1 ⟨v0_, rfl, hN, hb⟩; obtain ⟨A1, c1, rfl, hl1, hC1⟩ := Kd.N_reads hN; have C1 := Qa.mk hC1; have L1 := Qa.mk hl1; have HB := Qa.mk hb; clear hN hb hC1 hl1; go_wp2_with fail; refine (Qv.calls 40 A1 c1 Told.sc Told.st _ C1.out L1.out Told.to_is).mono ?_; rintro e w2 ⟨v0_, rfl, hS, hb⟩; obtain ⟨A2, c2, rfl, hl2, hC2⟩ := Kd.R_reads (Kd.S_R hS); have C2 := Qa.mk hC2; have L2 := Qa.mk hl2; replace HB := Qa.mk (Qk HB.out hb); clear hS hb hC2 hl2 C1 L1; go_wp2_with fail; refine (Zv.calls 40 A2 c2 Told.st 1 [Told.hk] _ C2.out L2.out Told.of_is).mono ?_; rintro e w3 ⟨v0_, rfl, hS, hb⟩; obtain ⟨A3, c3, rfl, hl3, hC3⟩ := Kd.R_reads hS; have C3 := Qa.mk hC3; have L3 := Qa.mk hl3; replace HB := Qa.mk (Qk HB.out hb); clear hS hb hC3 hl3 C2 L2; go_wp2_with fail; have HT := Xq.calls 40 A3 c3 [Told.hk] Told.tx.data.toList w3 C3.out L3.out Told.right_is Told.text_ok (by decide)
 rw [show (⟨Told.tx.data.toList.toArray⟩ : ByteArray) = Told.tx from rfl] at HT
 refine HT.mono ?_; rintro e w4 ⟨rfl, hb⟩; replace HB := Qa.mk (Qk HB.out hb); clear hb HT C3 L3; go_wp2_with fail; refine (Qip.calls 40 Told.tx Told.l0 Told.ts Told.ms 0 0 Told.st mm w4 (Zh HB.out HM.out) (by decide) Told.split_tx Told.head_ok rfl (by decide) Told.tags_ok Told.steps_is Told.right_is Told.text_ok).mono ?_; rintro e w5 ⟨A5, c5, rfl, hl5, hC5, hb⟩; have C5 := Qa.mk hC5; have L5 := Qa.mk hl5; replace HB := Qa.mk (Qk HB.out hb); clear hb hC5 hl5; go_wp2_with fail; refine (Zl.calls 40 A5 c5 [Told.hk] Told.ta Told.tc 0 (-1) w5 C5.out L5.out Told.apply_is).mono ?_; rintro e w6 ⟨rfl, hb⟩; replace HB := Qa.mk (Qk HB.out hb); clear hb; have q1 : (Told.tx.toList = [37, 37, 32, 45, 49, 44, 50, 32, 43, 49, 44, 50, 32, 37, 37, 10, 32, 97, 10, 45, 98, 10, 43, 99, 10]) = True := eq_true (by kernel_rfl)
 have q2 : (Told.tx.toList == [37, 37, 32, 45, 49, 44, 50, 32, 43, 49, 44, 50, 32, 37, 37, 10, 32, 97, 10, 45, 98, 10, 43, 99, 10]) = true := by kernel_rfl
 have q3 : (Told.tc.toList = [97, 10, 99, 10]) = True := eq_true (by kernel_rfl)
 have q4 : (Told.tc.toList == [97, 10, 99, 10]) = true := by kernel_rfl
 go_wp2_with fail; go_ret; exact ⟨rfl, HB.out⟩
structure Qpi (k : Nat) (a0 b0 : ByteArray) (n : Int) (a b : ByteArray) (sc sb : List S48) (st st2 : List S49) (l kk : List S45) (x1 x2 : Int) : Prop where
 hsa : Xm.f a0 = some a
 hsb : Xm.f b0 = some b
 hsc : Xk.f k a b = some sc
 to1 : Qv.f k sc = some st
 of1 : Zv.f k st n = some l
 bk : Qi.f k sc = some sb
 to2 : Qv.f k sb = some st2
 of2 : Zv.f k st2 n = some kk
 ap1 : Zl.f k l a = some (b, 0, x1)
 ap2 : Zl.f k kk b = some (a, 0, x2)
 len : l.length = kk.length
 same : decide (l.length = 0) = (a.toList == b.toList)
set_option maxHeartbeats 8000000 in
set_option maxRecDepth 100000 in
theorem PatchTurns_walk (k : Nat) (a0 b0 : ByteArray) (ar : Int) (a b : ByteArray) (sc sb : List S48) (st st2 : List S49) (l kk : List S45) (x1 x2 mm : Int) (w : World) (hm : w.cell? ⟨0, 0, none⟩ = some (.int .i64 mm)) (F : Qpi k a0 b0 (wrap64 ((IntKind.u64.wrap ar).tmod 101)) a b sc sb st st2 l kk x1 x2) :
  Calls Tryz.prog 3 #[.string a0, .string b0, .int .i64 ar] w fun e w' => e = .returned (.bool true) ∧ Below w.heap.size w w' := by
 have FF := Qa.mk F; have HM := Qa.mk hm; clear F hm
 go_enter Tryz.func3, Tryz.ntmps3
 go_wp2_with fail; refine (Xm.calls a0 a _ FF.out.hsa).mono ?_; rintro e w1 ⟨rfl, hD⟩; have hb := Xs.below hD; have HB := Qa.mk hb; clear hb hD; go_wp2_with fail; refine (Xm.calls b0 b _ FF.out.hsb).mono ?_; rintro e w2 ⟨rfl, hD⟩; have hb := Xs.below hD; replace HB := Qa.mk (Qk HB.out hb); clear hb hD; go_wp2_with fail
 generalize wrap64 ((IntKind.u64.wrap ar).tmod 101) = n at FF ⊢
 refine (Xk.calls k a b sc _ FF.out.hsc).mono ?_; rintro e w3 ⟨v0_, rfl, hN, hb⟩; obtain ⟨A1, c1, rfl, hl1, hC1⟩ := Kd.N_reads hN; have C1 := Qa.mk hC1; have L1 := Qa.mk hl1; replace HB := Qa.mk (Qk HB.out hb); clear hN hb hC1 hl1; go_wp2_with fail; refine (Qv.calls k A1 c1 sc st _ C1.out L1.out FF.out.to1).mono ?_; rintro e w4 ⟨v0_, rfl, hS, hb⟩; obtain ⟨A2, c2, rfl, hl2, hC2⟩ := Kd.R_reads (Kd.S_R hS); have C2 := Qa.mk hC2; have L2 := Qa.mk hl2; replace HB := Qa.mk (Qk HB.out hb); clear hS hb hC2 hl2 C1 L1; go_wp2_with fail; refine (Zv.calls k A2 c2 st n l _ C2.out L2.out FF.out.of1).mono ?_; rintro e w5 ⟨v0_, rfl, hS, hb⟩; obtain ⟨A3, c3, rfl, hl, hC⟩ := Kd.R_reads hS; have C3 := Qa.mk hC; have L3 := Qa.mk hl; replace HB := Qa.mk (Qk HB.out hb); clear hS hb hC hl C2 L2; go_wp2_with fail; refine (Xk.calls k a b sc _ FF.out.hsc).mono ?_; rintro e w6 ⟨v0_, rfl, hN, hb⟩; obtain ⟨A1, c1, rfl, hl1, hC1⟩ := Kd.N_reads hN; have C1 := Qa.mk hC1; have L1 := Qa.mk hl1; replace HB := Qa.mk (Qk HB.out hb); replace C3 := Qa.mk (Kd.C_below C3.out hb); clear hN hb hC1 hl1; go_wp2_with fail; refine (Qi.calls k (fun k => k < _) A1 c1 sc sb _ (Kd.V_mk L1.out (Kd.C_F Qnh C1.out)) FF.out.bk).mono ?_; rintro e w7 ⟨v0_, rfl, hN, hb⟩; clear C1 L1; obtain ⟨A1, c1, rfl, hl1, hC1⟩ := Kd.N_reads hN; have C1 := Qa.mk hC1; have L1 := Qa.mk hl1; replace HB := Qa.mk (Qk HB.out hb); replace C3 := Qa.mk (Kd.C_below C3.out hb); clear hN hb hC1 hl1; go_wp2_with fail; refine (Qv.calls k A1 c1 sb st2 _ C1.out L1.out FF.out.to2).mono ?_; rintro e w8 ⟨v0_, rfl, hS, hb⟩; obtain ⟨A2, c2, rfl, hl2, hC2⟩ := Kd.R_reads (Kd.S_R hS); have C2 := Qa.mk hC2; have L2 := Qa.mk hl2; replace HB := Qa.mk (Qk HB.out hb); replace C3 := Qa.mk (Kd.C_below C3.out hb); clear hS hb hC2 hl2 C1 L1; go_wp2_with fail; refine (Zv.calls k A2 c2 st2 n kk _ C2.out L2.out FF.out.of2).mono ?_; rintro e w9 ⟨v0_, rfl, hS, hb⟩; obtain ⟨A4, c4, rfl, hl, hC⟩ := Kd.R_reads hS; have C4 := Qa.mk hC; have L4 := Qa.mk hl; replace HB := Qa.mk (Qk HB.out hb); replace C3 := Qa.mk (Kd.C_below C3.out hb); clear hS hb hC hl C2 L2; go_wp2_with fail; refine (Zl.calls k A3 c3 l a b 0 x1 _ C3.out L3.out FF.out.ap1).mono ?_; rintro e w10 ⟨rfl, hb⟩; replace HB := Qa.mk (Qk HB.out hb); replace C4 := Qa.mk (Kd.C_below C4.out hb); clear hb; go_wp2_with fail; refine (Zl.calls k A4 c4 kk b a 0 x2 _ C4.out L4.out FF.out.ap2).mono ?_; rintro e w11 ⟨rfl, hb⟩; replace HB := Qa.mk (Qk HB.out hb); clear hb; go_wp2_with fail; refine (Qbe.calls mm w11 (Zh HB.out HM.out)).mono ?_; rintro e w12 ⟨rfl, hb⟩; replace HB := Qa.mk (Qk HB.out hb); clear hb; have q1 := FF.out.len; have q2 := FF.out.same
 rw [q1] at *
 have q3 : (((kk.length : Int) == 0) == (a.toList == b.toList)) = true := by
  rw [← q2]
  by_cases h : kk.length = 0
  ·simp [h]
  ·simp [h]
 clear q1 q2; go_wp2_with fail; go_ret; exact ⟨rfl, by repeat (first | (with_reducible first | exact HB.out | apply Qb | apply Qd))⟩
end Go.Proofs.YtadafplbgophfaaGreatDoor.PA
end
section
namespace Go.Proofs.YtadafplbgophfaaGreatDoor.PA
open Go.RowKit Go.Proofs.YtadafplbgophfaaGreatDoorW.PrintWords Go.Proofs.YtadafplbgophfaaGreatDoorW.PrintLast Go.Proofs.YtadafplbgophfaaGreatDoorW.PrintMore
open Jdg
namespace FavT
theorem Ev.uniq {α : Type} {g : Nat → Option α} {r s : α} (h1 : Ev g r) (h2 : Ev g s) : r = s := by
 obtain ⟨K1, h1⟩ := h1; obtain ⟨K2, h2⟩ := h2; have e1 := h1 (max K1 K2) (by omega); have e2 := h2 (max K1 K2) (by omega); exact Option.some.inj (e1.symm.trans e2)
theorem Qlg (ar : Int) : ∃ N : Nat, N ≤ 100 ∧ wrap64 ((IntKind.u64.wrap ar).tmod 101) = (N : Int) := by
 have h0 : 0 ≤ IntKind.u64.wrap ar := by
  show 0 ≤ ar % (2 ^ 64 : Int)
  exact Int.emod_nonneg _ (by decide)
 have h1 := Int.tmod_nonneg 101 h0; have h2 : (IntKind.u64.wrap ar).tmod 101 < 101 := Int.tmod_lt_of_pos _ (by decide)
 generalize (IntKind.u64.wrap ar).tmod 101 = x at h1 h2
 refine ⟨x.toNat, by omega, ?_⟩; rw [w64 (by omega) (by omega)]
 omega
theorem Rt.adj : ∀ {l : List S48}, Rt l → Adj l
 | [], _ => trivial
 | [_], _ => trivial
 | x :: y :: l, h => ⟨h.2.1, Rt.adj h.2.2.2⟩
theorem Qmr {l : List S48} (h : Rt l) : Yk 1 (bk l) = Yk 2 l ∧ Yk 2 (bk l) = Yk 1 l := by
 have := Jr l [] [] (Rt.adj h) (fun h => absurd rfl h)
 rw [Qoi h] at this
 simpa [Yk] using this
theorem Qpx (l : List S48) : tot (bk l) = tot l := by
 have := congrArg List.length (Qcm l.length l (Nat.le_refl _))
 rwa [Yw, Yw, Qbj, Qbj] at this
theorem Qkg {l : List S48} (h : Rt l) (ht : tot l ≤ 10000) : Few l := by
 have := Qhe (Rt.ne h); exact ⟨by omega, by omega⟩
structure Qjm (a : ByteArray) (la : List ByteArray) : Prop where
 of : Vg a la
 split : ∀ k, Xl.f k a = some la
 size : a.size ≤ 300
 small : ∀ x ∈ la, x.size ≤ 300
 few : la.length ≤ 300
theorem Qop {sc : List S48} (hrt : Rt sc) (ht : tot sc ≤ 10000) {a b : ByteArray} {la lb : List ByteArray} (s1 : Yk 1 sc = la) (s2 : Yk 2 sc = lb) (ta : Qjm a la) (tb : Qjm b lb) : Qas (mks sc) := by
 have h1 := Qaw ta.of; have h2 := Qaw tb.of; refine ⟨Qlq (Rt.all hrt), Qhr sc hrt, by rw [Qbj]; omega, fun q hq x hx => ?_, fun q hq x hx => ?_, fun q hq x hx => ?_⟩
 all_goals rw [Qdf] at hx
 ·rcases hq with rfl | rfl
  ·rw [s1] at hx; exact h1.1 x hx
  ·rw [s2] at hx; exact h2.1 x hx
 ·rcases hq with rfl | rfl
  ·rw [s1] at hx; have := ta.small x hx; omega
  ·rw [s2] at hx; have := tb.small x hx; omega
 ·rcases hq with rfl | rfl
  ·rw [s1] at hx; exact h1.2 x hx
  ·rw [s2] at hx; exact h2.2 x hx
def hks (N : Nat) (sc : List S48) : List S45 := (Qho N (Yi (mks sc))).map (hk (mks sc))
theorem Qqt {sc : List S48} (hrt : Rt sc) (ht : tot sc ≤ 10000) {a b : ByteArray} {la lb : List ByteArray} (s1 : Yk 1 sc = la) (s2 : Yk 2 sc = lb) (ta : Qjm a la) (tb : Qjm b lb) (N : Nat) (hN : N ≤ 100) :
  Ev (fun k => Zv.f k (sc.map Yo) (N : Int)) (hks N sc) ∧ Ev (fun k => Zl.f k (hks N sc) a) (b, 0, -1) := by
 have F := Qop hrt ht s1 s2 ta tb; have hw := Qhp N (Yi (mks sc)); have hwl := Qjh N (Yi (mks sc))
 rw [Yw] at hwl
 have hfew := F.few; refine ⟨Qqx (Qkg hrt ht) N (by omega), ?_⟩; obtain ⟨K, hR⟩ := Qiv F _ 0 hw (Nat.zero_le _)
 have e0 : ∀ q, (sd q ((mks sc).take 0)) = [] := fun q => by simp [sd]
 rw [e0, e0] at hR
 have hRt : Ev (fun k => Xh.f k (hks N sc)) true := ⟨K, fun k hk => by
  unfold Xh.f
  exact if_pos (hR k hk)⟩
 have d2 : sd 2 (mks sc) = lb := by rw [Qdf, s2]
 have d1 : sd 1 (mks sc) = la := by rw [Qdf, s1]
 have hb := Qaw tb.of
 have hW : Ev (fun k => Zk.f k (sd 2 (mks sc))) true := by
  rw [d2]; exact Qjg (by have := tb.few; omega) hb.1 hb.2 (fun x hx => by have := tb.small x hx; omega)
 have hJ : ∀ k, Xn.f k (sd 2 (mks sc)) = some b := fun k => by
  rw [d2]; exact Qon lb b (Qal tb.of) (by have := tb.few; omega) (by have := tb.size; omega) k
 have hgo := Qhv F (Qho N (Yi (mks sc))) (by omega) b hW hJ _ [] 0 rfl hw (Nat.zero_le _)
 rw [e0, e0, d1] at hgo
 unfold Zl.f; refine Ev.bind hRt (Ev.congr (fun k => by rw [if_pos rfl, ta.split k, Option.bind_some]; rfl) hgo)
theorem Qmv {a b : ByteArray} (h : a.data.toList = b.data.toList) : a = b := Qgw.1 h
theorem Qer {q : Int} : ∀ {l : List S48}, cnt q l = 0 → ∀ x ∈ l, x.f0 = q → x.f1 = []
 | [], _, x, hx, _ => by simp at hx
 | y :: l, h, x, hx, hq => by
  have e : cnt q (y :: l) = cnt q [y] + cnt q l := Kv q [y] l
  rw [e, Qbg] at h
  rcases List.mem_cons.1 hx with rfl | hx
  ·rw [if_pos hq] at h
   exact List.eq_nil_of_length_eq_zero (by omega)
  ·exact Qer (by omega) x hx hq
theorem Qov {sc : List S48} (hrt : Rt sc) (ht : tot sc ≤ 10000) {a b : ByteArray} {la lb : List ByteArray} (s1 : Yk 1 sc = la) (s2 : Yk 2 sc = lb) (ta : Qjm a la) (tb : Qjm b lb) (hc : la = lb → cnt 0 sc = la.length) (N : Nat) :
  decide ((hks N sc).length = 0) = (a.toList == b.toList) := by
 have hw := Qhp N (Yi (mks sc))
 have key : (hks N sc).length = 0 ↔ a = b := by
  constructor
  ·intro h
   have h0 : Qho N (Yi (mks sc)) = [] := by
    refine List.eq_nil_of_length_eq_zero ?_
    unfold hks at h
    rwa [List.length_map] at h
   rw [h0] at hw
   have hk := Qge (m := mks sc) (a := 0) hw
   rw [List.drop_zero] at hk
   have e : la = lb := by rw [← s1, ← s2, ← Qdf, ← Qdf, Ki hk, Ki hk]
   refine Qmv ?_; rw [← Qal ta.of, ← Qal tb.of, e]
  ·intro h
   subst h; have e := Qdm ta.of tb.of; have hcc := hc e; have n1 := Qcs sc (q := 1) (by decide); have n2 := Qcs sc (q := 2) (by decide)
   rw [s1] at n1
   rw [s2, ← e] at n2
   have z1 := Qer (q := 1) (l := sc) (by omega); have z2 := Qer (q := 2) (l := sc) (by omega); have hall := Rt.all hrt
   have hk : ∀ x ∈ sc, x.f0 = 0 := fun x hx => by
    have ho := hall x hx
    rcases k3 ho with e | e | e
    ·exact e
    ·exact absurd (z1 x hx e) ho.2.2
    ·exact absurd (z2 x hx e) ho.2.2
   have hm : ∀ y ∈ mks sc, y.f0 = 0 := fun y hy => by
    unfold mks at hy
    obtain ⟨x, hx, hy⟩ := List.mem_flatMap.1 hy; rw [Jw hy]; exact hk x hx
   have : Qho N (Yi (mks sc)) = [] := hw.none (fun i _ hi => by
    rw [Yw] at hi
    rw [Ju hi]
    exact decide_eq_true (hm _ (List.getElem_mem hi)))
   unfold hks; rw [this]; rfl
 by_cases h : a = b
 ·rw [decide_eq_true (key.2 h), h]; simp
 ·rw [decide_eq_false (fun e => h (key.1 e))]
  refine (beq_eq_false_iff_ne.2 (fun e => h (Qhn.1 e))).symm
theorem Qnz {a : ByteArray} {la : List ByteArray} (h : a.size ≤ 300) (hs : Ev (fun k => Qn.f k a) la) (hz : ∀ x ∈ la, x.size ≤ 300) (hn : la.length ≤ 300) : Qjm a la := by
 obtain ⟨ls, e1, e2, e3⟩ := Qki a (by omega); obtain rfl := Ev.uniq hs e1; exact ⟨e2, e3, h, hz, hn⟩
theorem turn_ok (a0 b0 : ByteArray) (ar : Int) : ∃ k a b sc sb st st2 l kk x1 x2, Qpi k a0 b0 (wrap64 ((IntKind.u64.wrap ar).tmod 101)) a b sc sb st st2 l kk x1 x2 := by
 obtain ⟨N, hN, en⟩ := Qlg ar; obtain ⟨a, ha, za⟩ := Qiy a0; obtain ⟨b, hb, zb⟩ := Qiy b0; obtain ⟨la, lb, sc, F⟩ := Qme a b za zb; have ta := Qnz za F.sa F.za F.na; have tb := Qnz zb F.sb F.zb F.nb; obtain ⟨g1, g2⟩ := Qmp sc.length sc (Nat.le_refl _) F.ok; obtain ⟨q1, q2⟩ := Qmr F.ok
 have hbt : tot (bk sc) ≤ 10000 := by rw [Qpx]; exact F.few
 obtain ⟨⟨K1, o1⟩, ⟨K2, p1⟩⟩ := Qqt F.ok F.few F.s1 F.s2 ta tb N hN; obtain ⟨⟨K3, o2⟩, ⟨K4, p2⟩⟩ := Qqt g2 hbt (q1.trans F.s2) (q2.trans F.s1) tb ta N hN; obtain ⟨K5, hsc⟩ := F.scr; have fw := Qkg F.ok F.few; obtain ⟨K6, t1⟩ := Qny fw; obtain ⟨K7, t2⟩ := Qny (Qkg g2 hbt); obtain ⟨K8, hbk⟩ := Qns fw.1 (Rt.all F.ok)
 have hlen : (hks N sc).length = (hks N (bk sc)).length := by
  unfold hks; rw [List.length_map, List.length_map, Qcm sc.length sc (Nat.le_refl _)]
 have hsame := Qov F.ok F.few F.s1 F.s2 ta tb F.same N; obtain ⟨k, h1, h2, h3, h4, h5, h6, h7, h8⟩ : ∃ k, K1 ≤ k ∧ K2 ≤ k ∧ K3 ≤ k ∧ K4 ≤ k ∧ K5 ≤ k ∧ K6 ≤ k ∧ K7 ≤ k ∧ K8 ≤ k := ⟨K1 + K2 + K3 + K4 + K5 + K6 + K7 + K8, by omega, by omega, by omega, by omega, by omega, by omega, by omega, by omega⟩; rw [en]; exact ⟨k, a, b, sc, bk sc, _, _, _, _, -1, -1, ha, hb, hsc k h5, t1 k h6, o1 k h1, hbk k h8, t2 k h7, o2 k h3, p1 k h2, p2 k h4, hlen, hsame⟩
end FavT
end Go.Proofs.YtadafplbgophfaaGreatDoor.PA
end
