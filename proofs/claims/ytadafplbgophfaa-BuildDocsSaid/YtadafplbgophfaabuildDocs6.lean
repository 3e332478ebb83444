/- Part 6 of what the row of the law BuildDocs rests on: walks of functions, and plain lemmas (in part printed by the kit's print, what is not reached left out). -/
import Derived.Test.YtadafplbgophfaabuildDocs5
import Derived.Deep.CutRange
set_option linter.unusedVariables false
set_option linter.unusedSimpArgs false
section
namespace Go.Proofs.Ytadafplbgophfaa.PA
open Go.RowKit Go.Proofs.YtadafplbgophfaaW.PrintWords Go.Proofs.YtadafplbgophfaaW.PrintLast Go.Proofs.YtadafplbgophfaaW.PrintMore
section
variable {P : Program} {ops : Array Oper} {Q : Exit → Act → World → Prop} {md : Region.Mode} {S : World → Prop} {ds : List Nat}
theorem wtB_ {i : Nat} {oi : Oper} {v : Value} {fuel : Nat} {listed : Array Bool} {a : Act} {w : World} (h : wpAnyH P md ops Q S fuel (listed.setIfInBounds i true) (a.put oi.dst v) w) (hi : ops[i]? = some oi := by (try simp only [List.getElem?_toArray, List.getElem?_cons_succ, List.getElem?_cons_zero]); exact rfl)
    (hs : Region.noSelect ops = true := by kernel_rfl) (hf : Region.free md ops listed i = true := by kernel_rfl) (hr : (Region.ready md ops listed).contains i = true := by kernel_rfl)
    (hQ : ∀ c a w, Q (.panic c) (a.put oi.dst v) w → Q (.panic c) a w := by exact fun _ _ _ h => h) (hw : Region.wanted oi (yielded ops a.tmps) = true := by rfl) (hy : ∀ w, S w → (execOp a.eval oi).run P w = .ok (.value v) w := by intro w hSw; (try dsimp only at hSw); go_simp; try with_reducible rfl) (hS : S w := by exact hHeld) : wpAnyH P md ops Q S (fuel + 1) listed a w := wpAnyH_take hi hs hf hr hQ (Or.inl ⟨hw, hy⟩) hS h
theorem wuB_ {i : Nat} {oi : Oper} {fuel : Nat} {listed : Array Bool} {a : Act} {w : World} (h : wpAnyH P md ops Q S fuel (listed.setIfInBounds i true) (a.put oi.dst undef) w) (hi : ops[i]? = some oi := by (try simp only [List.getElem?_toArray, List.getElem?_cons_succ, List.getElem?_cons_zero]); exact rfl)
    (hs : Region.noSelect ops = true := by kernel_rfl) (hf : Region.free md ops listed i = true := by kernel_rfl) (hr : (Region.ready md ops listed).contains i = true := by kernel_rfl)
    (hQ : ∀ c a w, Q (.panic c) (a.put oi.dst undef) w → Q (.panic c) a w := by exact fun _ _ _ h => h) (hw : Region.wanted oi (yielded ops a.tmps) = false := by rfl) (hS : S w := by exact hHeld) : wpAnyH P md ops Q S (fuel + 1) listed a w := wpAnyH_take hi hs hf hr hQ (Or.inr ⟨hw, rfl⟩) hS h
end
end Go.Proofs.Ytadafplbgophfaa.PA
end
section
namespace Go.Proofs.Ytadafplbgophfaa.PA
open Go.RowKit Go.Proofs.YtadafplbgophfaaW.PrintWords Go.Proofs.YtadafplbgophfaaW.PrintLast Go.Proofs.YtadafplbgophfaaW.PrintMore
def rtp (s : ByteArray) : Xi := ⟨⟨#[]⟩, ⟨#[]⟩, ⟨#[]⟩, false, s, ⟨#[]⟩, ⟨#[]⟩, ⟨#[]⟩, false⟩
def Kt (lb : Xi) (style : Int) (jb jl jr : ByteArray) : Xi := if style > 0 then ⟨lb.f0, lb.f1, lb.f2, true, ⟨#[]⟩, jl, jb, jr, true⟩ else ⟨lb.f0, ⟨#[]⟩, lb.f2, true, ⟨#[]⟩, jl, ⟨#[]⟩, jr, false⟩
def Qkz (k : Nat) (lb : Xi) (style n m : Int) (b1 b2 b3 : List ByteArray) : Option (List Xi) :=
 if 0 ≤ n ∧ 0 ≤ m ∧ n + m ≤ (b2.length : Int) ∧ n + m ≤ (b3.length : Int) then
  (Zg.f k b1).bind fun jb => (Zg.f k ((b2.take ((b2.length : Int) - m).toNat).drop n.toNat)).bind fun jl => (Zg.f k ((b3.take ((b3.length : Int) - m).toNat).drop n.toNat)).bind fun jr =>
  (Zg.f k (b2.take n.toNat)).bind fun s1 => (Zg.f k (b2.drop ((b2.length : Int) - m).toNat)).bind fun s3 => some [rtp s1, Kt lb style jb jl jr, rtp s3]
 else none
def Qhf (k : Nat) (lb : Xi) (style favour kc : Int) (b1 b2 b3 : List ByteArray) : Option (List Xi) :=
 if kc = 0 then (Zg.f k b1).bind fun s => some [rtp s]
 else if kc = 1 ∨ kc = 3 ∨ (kc = 4 ∧ favour = 1) then (Zg.f k b2).bind fun s => some [rtp s]
 else if kc = 2 ∨ favour = 3 then (Zg.f k b3).bind fun s => some [rtp s]
 else (if style = 2 then Qw.f k b2 b3 else some (0, 0)).bind fun nm => Qkz k lb style nm.1 nm.2 b1 b2 b3
def rgo (k : Nat) (lb : Xi) (style favour : Int) (l0 l1 l2 : List ByteArray) : List S81 → List Xi → Option (List Xi)
 | [], acc => some acc
 | c :: r, acc => if acc.length ≤ 900000000 then (Xp.f k c.f0 c.f1.f0 c.f1.f1 c.f2.f0 c.f2.f1 c.f3.f0 c.f3.f1 l0 l1 l2).bind fun kc =>
   (Qhf k lb style favour kc (Zs.f c.f1.f0 c.f1.f1 l0) (Zs.f c.f2.f0 c.f2.f1 l1) (Zs.f c.f3.f0 c.f3.f1 l2)).bind fun s => rgo k lb style favour l0 l1 l2 r (acc ++ s)
  else none
def Zj.f (k : Nat) (l0 l1 l2 : List ByteArray) (cs : List S81) (style : Int) (lb : Xi) (favour : Int) : Option (List Xi × Int) :=
 if Ud style favour = true then some ([], 5) else (Xu.f k lb.f0 lb.f1 lb.f2 lb.f3 lb.f4 lb.f5 lb.f6 lb.f7 lb.f8).bind fun p => if p = false then some ([], 3) else
  (rgo k lb style favour l0 l1 l2 cs []).bind fun ps => (Qy.f k ps).bind fun d => some (d, 0)
theorem Qcn {P : World → Prop} {W : World} {cs : Array Value} {t : TypeId} (h : ∀ W', W'.heap[W.heap.size]? = some (.cells cs t (0, 0)) → Below W.heap.size W W' → P W') : P (W.alloc (.cells cs t (0, 0))) := h _ (Vg W _) (Qh (Below.refl _ _) _)
theorem Qar (k : Nat) (l : List ByteArray) (s : ByteArray) (h : Zg.f k l = some s) : Yh.f k l = some (⟨#[]⟩, ⟨#[]⟩, ⟨#[]⟩, false, s, ⟨#[]⟩, ⟨#[]⟩, ⟨#[]⟩, false) := by unfold Yh.f; rw [h]; rfl
theorem Qpo {t : TypeId} {w : World} {s : Nat} {z0 z1 z2 z3 z4 z5 z6 z7 z8 : Value} (h : w.heap[s]? = some (.cells #[z0, z1, z2, z3, z4, z5, z6, z7, z8] t (0, 0))) (v0 v1 v2 v3 v4 v5 v6 v7 v8 : Value) :
  (((((((((w.setCell ⟨s, 0, none⟩ v0).setCell ⟨s, 1, none⟩ v1).setCell ⟨s, 2, none⟩ v2).setCell ⟨s, 3, none⟩ v3).setCell ⟨s, 4, none⟩ v4).setCell ⟨s, 5, none⟩ v5).setCell ⟨s, 6, none⟩ v6).setCell ⟨s, 7, none⟩ v7).setCell ⟨s, 8, none⟩ v8).heap[s]? = some (.cells #[v0, v1, v2, v3, v4, v5, v6, v7, v8] t (0, 0)) := by
 have h0 : (w.setCell ⟨s, 0, none⟩ v0).heap[s]? = some (.cells #[v0, z1, z2, z3, z4, z5, z6, z7, z8] t (0, 0)) := Za h 0 v0 rfl; have h1 : ((w.setCell ⟨s, 0, none⟩ v0).setCell ⟨s, 1, none⟩ v1).heap[s]? = some (.cells #[v0, v1, z2, z3, z4, z5, z6, z7, z8] t (0, 0)) := Za h0 1 v1 rfl; have h2 : (((w.setCell ⟨s, 0, none⟩ v0).setCell ⟨s, 1, none⟩ v1).setCell ⟨s, 2, none⟩ v2).heap[s]? = some (.cells #[v0, v1, v2, z3, z4, z5, z6, z7, z8] t (0, 0)) := Za h1 2 v2 rfl; have h3 : ((((w.setCell ⟨s, 0, none⟩ v0).setCell ⟨s, 1, none⟩ v1).setCell ⟨s, 2, none⟩ v2).setCell ⟨s, 3, none⟩ v3).heap[s]? = some (.cells #[v0, v1, v2, v3, z4, z5, z6, z7, z8] t (0, 0)) := Za h2 3 v3 rfl; have h4 : (((((w.setCell ⟨s, 0, none⟩ v0).setCell ⟨s, 1, none⟩ v1).setCell ⟨s, 2, none⟩ v2).setCell ⟨s, 3, none⟩ v3).setCell ⟨s, 4, none⟩ v4).heap[s]? = some (.cells #[v0, v1, v2, v3, v4, z5, z6, z7, z8] t (0, 0)) := Za h3 4 v4 rfl; have h5 : ((((((w.setCell ⟨s, 0, none⟩ v0).setCell ⟨s, 1, none⟩ v1).setCell ⟨s, 2, none⟩ v2).setCell ⟨s, 3, none⟩ v3).setCell ⟨s, 4, none⟩ v4).setCell ⟨s, 5, none⟩ v5).heap[s]? = some (.cells #[v0, v1, v2, v3, v4, v5, z6, z7, z8] t (0, 0)) := Za h4 5 v5 rfl; have h6 : (((((((w.setCell ⟨s, 0, none⟩ v0).setCell ⟨s, 1, none⟩ v1).setCell ⟨s, 2, none⟩ v2).setCell ⟨s, 3, none⟩ v3).setCell ⟨s, 4, none⟩ v4).setCell ⟨s, 5, none⟩ v5).setCell ⟨s, 6, none⟩ v6).heap[s]? = some (.cells #[v0, v1, v2, v3, v4, v5, v6, z7, z8] t (0, 0)) := Za h5 6 v6 rfl; have h7 : ((((((((w.setCell ⟨s, 0, none⟩ v0).setCell ⟨s, 1, none⟩ v1).setCell ⟨s, 2, none⟩ v2).setCell ⟨s, 3, none⟩ v3).setCell ⟨s, 4, none⟩ v4).setCell ⟨s, 5, none⟩ v5).setCell ⟨s, 6, none⟩ v6).setCell ⟨s, 7, none⟩ v7).heap[s]? = some (.cells #[v0, v1, v2, v3, v4, v5, v6, v7, z8] t (0, 0)) := Za h6 7 v7 rfl; have h8 : (((((((((w.setCell ⟨s, 0, none⟩ v0).setCell ⟨s, 1, none⟩ v1).setCell ⟨s, 2, none⟩ v2).setCell ⟨s, 3, none⟩ v3).setCell ⟨s, 4, none⟩ v4).setCell ⟨s, 5, none⟩ v5).setCell ⟨s, 6, none⟩ v6).setCell ⟨s, 7, none⟩ v7).setCell ⟨s, 8, none⟩ v8).heap[s]? = some (.cells #[v0, v1, v2, v3, v4, v5, v6, v7, v8] t (0, 0)) := Za h7 8 v8 rfl; exact h8
theorem Qpn {w : World} {s : Nat} {z0 z1 z2 z3 z4 z5 z6 z7 z8 : Value} (h : w.heap[s]? = some (.cells #[z0, z1, z2, z3, z4, z5, z6, z7, z8] 123 (0, 0))) (jb l1 : ByteArray) :
  (((w.setCell ⟨s, 8, none⟩ (.bool true)).setCell ⟨s, 6, none⟩ (.string jb)).setCell ⟨s, 1, none⟩ (.string l1)).heap[s]? = some (.cells #[z0, .string l1, z2, z3, z4, z5, .string jb, z7, .bool true] 123 (0, 0)) := by
 have h0 : (w.setCell ⟨s, 8, none⟩ (.bool true)).heap[s]? = some (.cells #[z0, z1, z2, z3, z4, z5, z6, z7, .bool true] 123 (0, 0)) := Za h 8 _ rfl; have h1 : ((w.setCell ⟨s, 8, none⟩ (.bool true)).setCell ⟨s, 6, none⟩ (.string jb)).heap[s]? = some (.cells #[z0, z1, z2, z3, z4, z5, .string jb, z7, .bool true] 123 (0, 0)) := Za h0 6 _ rfl; exact Za h1 1 _ rfl
theorem Qog (w : World) (base : Nat) (x : Xi) (cs : List Value) (h : Kf.K w x cs) : Kf.M w base (fun _ => False) x cs := by
 rw [Qhx h]; exact Ul w base _ x
theorem Qcx {W w' : World} {a0 a1 a2 a3 a4 a5 a6 a7 a8 a9 : Addr} {v0 v1 v2 v3 v4 v5 v6 v7 v8 v9 : Value} (hb : Below W.heap.size W w') (h : W.cell? a0 = some v0 ∧ W.cell? a1 = some v1 ∧ W.cell? a2 = some v2 ∧ W.cell? a3 = some v3 ∧ W.cell? a4 = some v4 ∧ W.cell? a5 = some v5 ∧ W.cell? a6 = some v6 ∧ W.cell? a7 = some v7 ∧ W.cell? a8 = some v8 ∧ W.cell? a9 = some v9) : w'.cell? a0 = some v0 ∧ w'.cell? a1 = some v1 ∧ w'.cell? a2 = some v2 ∧ w'.cell? a3 = some v3 ∧ w'.cell? a4 = some v4 ∧ w'.cell? a5 = some v5 ∧ w'.cell? a6 = some v6 ∧ w'.cell? a7 = some v7 ∧ w'.cell? a8 = some v8 ∧ w'.cell? a9 = some v9 := ⟨Qg hb h.1, Qg hb h.2.1, Qg hb h.2.2.1, Qg hb h.2.2.2.1, Qg hb h.2.2.2.2.1, Qg hb h.2.2.2.2.2.1, Qg hb h.2.2.2.2.2.2.1, Qg hb h.2.2.2.2.2.2.2.1, Qg hb h.2.2.2.2.2.2.2.2.1, Qg hb h.2.2.2.2.2.2.2.2.2⟩
def Zj.T9 : Bool × List (List Nat × List Nat) := (true, [([], []), ([], []), ([0, 1], [0, 1]), ([2], [2]), ([3], [3]), ([], []), ([5], [5]), ([4, 6], [4, 6]), ([], []), ([], []), ([8, 9], [8, 9]), ([10], [10]), ([11], [11]), ([], []), ([13], [13]), ([12, 14, 7], [12, 14]), ([], []), ([], []), ([16, 17], [16, 17]), ([18], [18]), ([19], [19]), ([], []), ([21], [21]), ([20, 22, 15], [20, 22]), ([7, 23, 0, 1, 2, 3, 4, 5, 6, 7], [7]), ([15, 24, 0, 1, 2, 3, 4, 5, 6, 7, 8, 9, 10, 11, 12, 13, 14, 15, 24], [15]), ([23, 25, 0, 1, 2, 3, 4, 5, 6, 7, 8, 9, 10, 11, 12, 13, 14, 15, 16, 17, 18, 19, 20, 21, 22, 23, 24, 25], [23])])
def Zj.B9 : List Nat := [0, 0, 3, 7, 15, 0, 32, 127, 0, 0, 768, 1792, 3840, 0, 8192, 32767, 0, 0, 196608, 458752, 983040, 0, 2097152, 8388607, 16777215, 33554431, 67108863]
theorem Zj.tab9 : Vx .any (Jb Try.f79 9) = Zj.T9 := by kernel_rfl
theorem Zj.bits9 : Vk Zj.T9.2 Zj.B9 = true := by kernel_rfl
def Zj.T10 : Bool × List (List Nat × List Nat) := (true, [([], []), ([], []), ([0, 1], [0, 1]), ([2], [2]), ([], []), ([4], [4]), ([], []), ([6], [6]), ([], []), ([8], [8]), ([3, 5, 7, 9], [3, 5, 7, 9]), ([10, 10, 0, 1, 2, 3, 4, 5, 6, 7, 8, 9, 10], [10])])
def Zj.B10 : List Nat := [0, 0, 3, 7, 0, 16, 0, 64, 0, 256, 1023, 2047]
theorem Zj.tab10 : Vx .any (Jb Try.f79 10) = Zj.T10 := by kernel_rfl
theorem Zj.bits10 : Vk Zj.T10.2 Zj.B10 = true := by kernel_rfl
def Zj.T20 : Bool × List (List Nat × List Nat) := (true, [([], []), ([0], [0]), ([], []), ([2], [2]), ([], []), ([], []), ([], []), ([6], [6]), ([], []), ([7, 8], [7, 8]), ([4, 5, 9], [4, 5, 9]), ([10], [10]), ([], []), ([], []), ([], []), ([14], [14]), ([], []), ([15, 16], [15, 16]), ([12, 13, 17], [12, 13, 17]), ([18, 11], [18]), ([1, 3, 11, 19], [1, 3, 11, 19]), ([], []), ([21, 20, 19, 0, 1, 2, 3, 4, 5, 6, 7, 8, 9, 10, 11, 12, 13, 14, 15, 16, 17, 18, 19, 20, 21], [20, 21])])
def Zj.B20 : List Nat := [0, 1, 0, 4, 0, 0, 0, 64, 0, 448, 1008, 2032, 0, 0, 0, 16384, 0, 114688, 258048, 524272, 1048575, 0, 4194303]
theorem Zj.tab20 : Vx .any (Jb Try.f79 20) = Zj.T20 := by kernel_rfl
theorem Zj.bits20 : Vk Zj.T20.2 Zj.B20 = true := by kernel_rfl
def Zj.T22 : Bool × List (List Nat × List Nat) := (true, [([], []), ([0], [0]), ([], []), ([2], [2]), ([], []), ([4, 1], [4]), ([0, 1, 4, 5], []), ([6, 1, 5, 0, 1, 4, 5], [1, 6]), ([0, 1, 2, 3, 4, 5, 6, 7], []), ([8, 3, 7, 0, 1, 2, 3, 4, 5, 6, 7], [3, 8])])
def Zj.B22 : List Nat := [0, 1, 0, 4, 0, 19, 51, 115, 255, 511]
theorem Zj.tab22 : Vx .any (Jb Try.f79 22) = Zj.T22 := by kernel_rfl
theorem Zj.bits22 : Vk Zj.T22.2 Zj.B22 = true := by kernel_rfl
def Zj.T23 : Bool × List (List Nat × List Nat) := (true, [([], []), ([], []), ([], []), ([1, 2], [1, 2]), ([3], [3]), ([], []), ([], []), ([], []), ([7], [7]), ([], []), ([8, 9], [8, 9]), ([6, 10], [6, 10]), ([11, 4], [11]), ([4, 5, 12], [4, 5, 12]), ([0, 13, 12], [0, 13]), ([14, 14, 0, 1, 2, 3, 4, 5, 6, 7, 8, 9, 10, 11, 12, 13, 14], [0, 14])])
def Zj.B23 : List Nat := [0, 0, 0, 6, 14, 0, 0, 0, 128, 0, 896, 1984, 4062, 8190, 16383, 32767]
theorem Zj.tab23 : Vx .any (Jb Try.f79 23) = Zj.T23 := by kernel_rfl
theorem Zj.bits23 : Vk Zj.T23.2 Zj.B23 = true := by kernel_rfl
set_option maxHeartbeats 8000000 in
set_option maxRecDepth 100000 in
theorem Zj.calls (k : Nat) (A0 : Option Addr) (c0 : Nat) (l0 : List ByteArray) (A1 : Option Addr) (c1 : Nat) (l1 : List ByteArray) (A2 : Option Addr) (c2 : Nat) (l2 : List ByteArray) (A3 : Option Addr) (c3 : Nat) (cs : List S81) (style : Int) (lb : Xi) (favour : Int) (d : List Xi) (er : Int) (w : World) (hr0 : Kd.C Kd.string w A0 l0.length l0) (hc0 : l0.length ≤ c0) (hr1 : Kd.C Kd.string w A1 l1.length l1) (hc1 : l1.length ≤ c1) (hr2 : Kd.C Kd.string w A2 l2.length l2) (hc2 : l2.length ≤ c2) (hr3 : Kd.C k81 w A3 cs.length cs) (h : Zj.f k l0 l1 l2 cs style lb favour = some (d, er)) :
  Calls Try.prog 79 #[.agg #[.slice A0 l0.length c0, .slice A1 l1.length c1, .slice A2 l2.length c2], .slice A3 cs.length c3, .int .i64 style, .agg #[.string lb.f0, .string lb.f1, .string lb.f2, .bool lb.f3, .string lb.f4, .string lb.f5, .string lb.f6, .string lb.f7, .bool lb.f8], .int .i64 favour] w fun e w' => ∃ v0_ : Value, e = .returned (.tuple #[v0_, .int .i64 er]) ∧ Kd.R Kf 123 w' w.heap.size (fun _ => True) v0_ d ∧ Below w.heap.size w w' := by
 have hu107 := Try.underlying107; have hu81 := Try.underlying81; have hu79 := Try.underlying79; have hu123 := Try.underlying123; have C0 := Qa.mk hr0; have C1 := Qa.mk hr1; have C2 := Qa.mk hr2; have C3 := Qa.mk hr3; have LC0 := Qa.mk hc0; have LC1 := Qa.mk hc1; have LC2 := Qa.mk hc2
 unfold Zj.f at h
 have HH := Qa.mk h; clear hr0 hr1 hr2 hr3 hc0 hc1 hc2 h; have HN : Qa (cs.length ≤ 9223372036854775807) := ⟨C3.out.2.1⟩
 go_enter Try.func79, Try.ntmps79
 go_upto_region 1 with (first | ((with_reducible refine Zd (N := 5) rfl ?_); refine Zc ?hg (N := 5) ?hd (cs := #[.slice A0 l0.length c0, .slice A1 l1.length c1, .slice A2 l2.length c2]) (t := 107) ?hr ?_; (case hd => rfl); (case hg => rfl); (case hr => first | (go_simp; done) | (go_simp; rfl)); intro f5 hg w1 hbox hb; have BF1 := Qa.mk hbox; have HB1 := Qa.mk hb; clear hg hbox hb) | ((with_reducible refine Zd (N := 8) rfl ?_); refine Zc ?hg (N := 8) ?hd (cs := #[.string lb.f0, .string lb.f1, .string lb.f2, .bool lb.f3, .string lb.f4, .string lb.f5, .string lb.f6, .string lb.f7, .bool lb.f8]) (t := 123) ?hr ?_; (case hd => rfl); (case hg => rfl); (case hr => first | (go_simp; done) | (go_simp; rfl)); intro f8 hg w2 hbox hb; have BL2 := Qa.mk hbox; have BF2 := Qa.mk (Qq BF1.out hb); have HB2 := Qa.mk (Qj HB1.out hb); clear hg hbox hb BF1 HB1))
 go_cut [38] from 21 (fun v38 W => v38 = .bool (Ud style favour) ∧ Qa (W.heap[f5]? = some (.cells #[.slice A0 l0.length c0, .slice A1 l1.length c1, .slice A2 l2.length c2] 107 (0, 0))) ∧ Qa (W.heap[f8]? = some (.cells #[.string lb.f0, .string lb.f1, .string lb.f2, .bool lb.f3, .string lb.f4, .string lb.f5, .string lb.f6, .string lb.f7, .bool lb.f8] 123 (0, 0))) ∧ Qa (Below w.heap.size w W))
 case first =>
  by_cases s1 : style < 0
  ·have hbad : Ud style favour = true := decide_eq_true (.inl s1)
   have t1 : decide (style < 0) = true := decide_eq_true s1; go_wp2_with fail
   go_meet
   case rel => exact ⟨by rw [hbad], ⟨bk_ BF2.out⟩, ⟨bk_ BL2.out⟩, ⟨dr_ HB2.out⟩⟩
  ·have t1 : decide (style < 0) = false := decide_eq_false s1
   by_cases s2 : 2 < style
   ·have hbad : Ud style favour = true := decide_eq_true (.inr (.inl s2))
    have t2 : decide (2 < style) = true := decide_eq_true s2; go_wp2_with fail
    go_meet
    case rel => exact ⟨by rw [hbad], ⟨bk_ BF2.out⟩, ⟨bk_ BL2.out⟩, ⟨dr_ HB2.out⟩⟩
   ·have t2 : decide (2 < style) = false := decide_eq_false s2
    by_cases g0 : favour = 0
    ·subst g0
     have hbad : Ud style 0 = false := decide_eq_false (by omega); go_wp2_with fail
     go_meet
     case rel => exact ⟨by rw [hbad], ⟨bk_ BF2.out⟩, ⟨bk_ BL2.out⟩, ⟨dr_ HB2.out⟩⟩
    ·by_cases g1 : favour = 1
     ·subst g1
      have hbad : Ud style 1 = false := decide_eq_false (by omega); go_wp2_with fail
      go_meet
      case rel => exact ⟨by rw [hbad], ⟨bk_ BF2.out⟩, ⟨bk_ BL2.out⟩, ⟨dr_ HB2.out⟩⟩
     ·by_cases g3 : favour = 3
      ·subst g3
       have hbad : Ud style 3 = false := decide_eq_false (by omega); go_wp2_with fail
       go_meet
       case rel => exact ⟨by rw [hbad], ⟨bk_ BF2.out⟩, ⟨bk_ BL2.out⟩, ⟨dr_ HB2.out⟩⟩
      ·have hbad : Ud style favour = true := decide_eq_true (.inr (.inr ⟨g0, g1, g3⟩))
       have qf0a : decide (favour = 0) = false := decide_eq_false g0; have qf0b : (favour != 0) = true := bne_iff_ne.mpr g0; have qf0c : (favour == 0) = false := beq_eq_false_iff_ne.mpr g0; have qf1a : decide (favour = 1) = false := decide_eq_false g1; have qf1b : (favour != 1) = true := bne_iff_ne.mpr g1; have qf1c : (favour == 1) = false := beq_eq_false_iff_ne.mpr g1; have qf3a : decide (favour = 3) = false := decide_eq_false g3; have qf3b : (favour != 3) = true := bne_iff_ne.mpr g3; have qf3c : (favour == 3) = false := beq_eq_false_iff_ne.mpr g3; go_wp2_with fail
       go_meet
       case rel => exact ⟨by rw [hbad], ⟨bk_ BF2.out⟩, ⟨bk_ BL2.out⟩, ⟨dr_ HB2.out⟩⟩
 case rest =>
 clear BF2 BL2 HB2; obtain ⟨rfl, BF2, BL2, HB2⟩ := hcut; have z0 := (Qc BL2.out 0).trans (show _ = some (Value.string lb.f0) from rfl); have z1 := (Qc BL2.out 1).trans (show _ = some (Value.string lb.f1) from rfl); have z2 := (Qc BL2.out 2).trans (show _ = some (Value.string lb.f2) from rfl); have z3 := (Qc BL2.out 3).trans (show _ = some (Value.bool lb.f3) from rfl); have z4 := (Qc BL2.out 4).trans (show _ = some (Value.string lb.f4) from rfl); have z5 := (Qc BL2.out 5).trans (show _ = some (Value.string lb.f5) from rfl); have z6 := (Qc BL2.out 6).trans (show _ = some (Value.string lb.f6) from rfl); have z7 := (Qc BL2.out 7).trans (show _ = some (Value.string lb.f7) from rfl); have z8 := (Qc BL2.out 8).trans (show _ = some (Value.bool lb.f8) from rfl); have h := HH.out; clear HH
 cases hbad : Ud style favour with
 | true =>
  rw [if_pos hbad] at h
  obtain ⟨rfl, rfl⟩ : ([] : List Xi) = d ∧ (5 : Int) = er := by simpa using h
  go_wp2_with fail
  go_ret2
  exact ⟨_, rfl, Kd.R_nil _ _ _ _ _, HB2.out⟩
 | false =>
 rw [if_neg (by rw [hbad]; decide)] at h
 replace h := Option.bind_eq_some_iff.1 h; obtain ⟨p, hp, h⟩ := h; have HP := Qa.mk hp; have HH := Qa.mk h; clear hp h; go_wp2_with fail; refine (Xu.calls k lb.f0 lb.f1 lb.f2 lb.f3 lb.f4 lb.f5 lb.f6 lb.f7 lb.f8 p wc HP.out).mono ?_; rintro e w3 ⟨rfl, hb⟩; have BF3 := Qa.mk (Qq BF2.out hb); have BL3 := Qa.mk (Qq BL2.out hb); have HB3 := Qa.mk (Qj HB2.out hb); clear hb BF2 BL2 HB2 z0 z1 z2 z3 z4 z5 z6 z7 z8; have h := HH.out; clear HH
 cases p with
 | false =>
  rw [if_pos rfl] at h
  obtain ⟨rfl, rfl⟩ : ([] : List Xi) = d ∧ (3 : Int) = er := by simpa using h
  go_wp2_with fail
  go_ret2
  exact ⟨_, rfl, Kd.R_nil _ _ _ _ _, HB3.out⟩
 | true =>
 rw [if_neg (by decide)] at h
 replace h := Option.bind_eq_some_iff.1 h; obtain ⟨ps, hgo, h⟩ := h; replace h := Option.bind_eq_some_iff.1 h; obtain ⟨dd, hd, h⟩ := h
 obtain ⟨rfl, rfl⟩ : dd = d ∧ (0 : Int) = er := by simpa using h
 have HD := Qa.mk hd; have HGO := Qa.mk hgo; clear h hd hgo; go_wp2_with fail
 go_loopg [12, 13] cs.length (fun kq v12 v13 W => ∃ (l : List Xi) (i : Nat), v13 = .int .i64 (i : Int) ∧ Qa (i + kq = cs.length) ∧ Qa (Kd.R Kf 123 W w3.heap.size (fun _ => True) v12 l) ∧ Qa (Below w3.heap.size w3 W) ∧ Qa (rgo k lb style favour l0 l1 l2 (cs.drop i) l = some ps))
 case atStart => exact ⟨[], 0, rfl, ⟨Nat.zero_add _⟩, ⟨Kd.R_nil _ _ _ _ _⟩, ⟨Below.refl _ _⟩, HGO⟩
 case round =>
  obtain ⟨l, i, rfl, HI, HO, HW, HG⟩ := hrel; have BF := Qa.mk (Qq BF3.out HW.out); have BL := Qa.mk (Qq BL3.out HW.out); have HBW := Qa.mk (Qj HB3.out HW.out); have K0 := Qa.mk (Kd.C_below C0.out HBW.out); have K1 := Qa.mk (Kd.C_below C1.out HBW.out); have K2 := Qa.mk (Kd.C_below C2.out HBW.out); have K3 := Qa.mk (Kd.C_below C3.out HBW.out)
  cases gk with
  | succ k1 =>
   have hil : i < cs.length := by have := HI.out; omega
   have LT0 : Qa ((i : Int) < (cs.length : Int)) := ⟨by omega⟩; have lt0 : decide ((i : Int) < (cs.length : Int)) = true := decide_eq_true LT0.out; have lt0n : decide (i < cs.length) = true := decide_eq_true hil; obtain ⟨ad, ea, hx0, hx1, hx2, hx3, hx4, hx5, hx6⟩ := Qjv K3.out (i : Int) (by omega) LT0.out
   cases ea
   have hrd : Vt cs (i : Int) = cs[i] := by simp [Vt, List.getD_eq_getElem?_getD, hil]
   rw [hrd, Int.toNat_natCast] at hx0 hx1 hx2 hx3 hx4 hx5 hx6
   have hg := HG.out
   rw [List.drop_eq_getElem_cons hil] at hg
   unfold rgo at hg
   split at hg
   case isFalse => cases hg
   rename_i hll
   have HLL := Qa.mk hll; replace hg := Option.bind_eq_some_iff.1 hg; obtain ⟨kc, hkc, hg⟩ := hg; replace hg := Option.bind_eq_some_iff.1 hg; obtain ⟨out, hout, hg⟩ := hg
   generalize cs[i] = x at hx0 hx1 hx2 hx3 hx4 hx5 hx6 hkc hout
   have HKC := Qa.mk hkc; have HGN := Qa.mk hg; have HWI : Qa (wrap64 ((i : Int) + 1) = ((i + 1 : Nat) : Int)) := ⟨by have := HN.out; unfold wrap64; omega⟩; have p0t : ((0 : Int) ≤ (i : Int)) = True := eq_true (by omega); have lt0p := eq_true LT0.out; have lt0q : (i < cs.length) = True := eq_true hil; clear hkc hrd HG hg hll; have X1 := Qa.mk (Zs.calls x.f1.f0 x.f1.f1 A0 c0 l0 (hc1 := LC0.out))
   generalize Zs.f x.f1.f0 x.f1.f1 l0 = b1 at X1 hout
   have X2 := Qa.mk (Zs.calls x.f2.f0 x.f2.f1 A1 c1 l1 (hc1 := LC1.out))
   generalize Zs.f x.f2.f0 x.f2.f1 l1 = b2 at X2 hout
   have X3 := Qa.mk (Zs.calls x.f3.f0 x.f3.f1 A2 c2 l2 (hc1 := LC2.out))
   generalize Zs.f x.f3.f0 x.f3.f1 l2 = b3 at X3 hout
   have HOUT := Qa.mk hout; clear hout; have q0 := (Qc BF.out 0).trans (show _ = some (Value.slice A0 l0.length c0) from rfl); have q1 := (Qc BF.out 1).trans (show _ = some (Value.slice A1 l1.length c1) from rfl); have q2 := (Qc BF.out 2).trans (show _ = some (Value.slice A2 l2.length c2) from rfl); go_wp2_with fail; refine Ug (n := 27) (S := fun w' => w'.cell? ⟨f5, 0, none⟩ = some (.slice A0 l0.length c0) ∧ w'.cell? ⟨f5, 1, none⟩ = some (.slice A1 l1.length c1) ∧ w'.cell? ⟨f5, 2, none⟩ = some (.slice A2 l2.length c2) ∧ w'.cell? (ad.add (i * 7)) = some (.bool x.f0) ∧ w'.cell? ⟨(ad.add (i * 7)).block, (ad.add (i * 7)).off + 1, none⟩ = some (.int .i64 x.f1.f0) ∧ w'.cell? ⟨(ad.add (i * 7)).block, (ad.add (i * 7)).off + 2, none⟩ = some (.int .i64 x.f1.f1) ∧ w'.cell? ⟨(ad.add (i * 7)).block, (ad.add (i * 7)).off + 3, none⟩ = some (.int .i64 x.f2.f0) ∧ w'.cell? ⟨(ad.add (i * 7)).block, (ad.add (i * 7)).off + 4, none⟩ = some (.int .i64 x.f2.f1) ∧ w'.cell? ⟨(ad.add (i * 7)).block, (ad.add (i * 7)).off + 5, none⟩ = some (.int .i64 x.f3.f0) ∧ w'.cell? ⟨(ad.add (i * 7)).block, (ad.add (i * 7)).off + 6, none⟩ = some (.int .i64 x.f3.f1)) (ds := []) (bz_ 27 0) (by kernel_rfl) rfl rfl ⟨q0, q1, q2, hx0, hx1, hx2, hx3, hx4, hx5, hx6⟩ (fun hHeld => ?_); refine Va Zj.tab9 Zj.bits9 (fun HT_ HW_ => ?_); replace HW := Qa.mk (Qi HW.out); replace HO := Qa.mk (Kd.R_drew HO.out); clear BF BL HBW K0 K1 K2 K3 q0 q1 q2 hx0 hx1 hx2 hx3 hx4 hx5 hx6
   generalize wr.drew = wx at HW HO hHeld ⊢
   refine pu_ (i := 0) (N := some 48) #[true, false, false, false, false, false, false, false, false, false, false, false, false, false, false, false, false, false, false, false, false, false, false, false, false, false, false] ?_; refine pu_ (i := 1) (N := some 49) #[true, true, false, false, false, false, false, false, false, false, false, false, false, false, false, false, false, false, false, false, false, false, false, false, false, false, false] ?_; refine pu_ (i := 2) (N := some 50) #[true, true, true, false, false, false, false, false, false, false, false, false, false, false, false, false, false, false, false, false, false, false, false, false, false, false, false] ?_; refine pu_ (i := 3) (N := some 51) #[true, true, true, true, false, false, false, false, false, false, false, false, false, false, false, false, false, false, false, false, false, false, false, false, false, false, false] ?_; refine ta_ (i := 4) (N := some 52) #[true, true, true, true, true, false, false, false, false, false, false, false, false, false, false, false, false, false, false, false, false, false, false, false, false, false, false] ?_; refine pu_ (i := 5) (N := some 53) #[true, true, true, true, true, true, false, false, false, false, false, false, false, false, false, false, false, false, false, false, false, false, false, false, false, false, false] ?_; refine ta_ (i := 6) (N := some 54) #[true, true, true, true, true, true, true, false, false, false, false, false, false, false, false, false, false, false, false, false, false, false, false, false, false, false, false] ?_; refine pu_ (i := 8) (N := some 56) #[true, true, true, true, true, true, true, false, true, false, false, false, false, false, false, false, false, false, false, false, false, false, false, false, false, false, false] ?_; refine pu_ (i := 9) (N := some 57) #[true, true, true, true, true, true, true, false, true, true, false, false, false, false, false, false, false, false, false, false, false, false, false, false, false, false, false] ?_; refine pu_ (i := 10) (N := some 58) #[true, true, true, true, true, true, true, false, true, true, true, false, false, false, false, false, false, false, false, false, false, false, false, false, false, false, false] ?_; refine pu_ (i := 11) (N := some 59) #[true, true, true, true, true, true, true, false, true, true, true, true, false, false, false, false, false, false, false, false, false, false, false, false, false, false, false] ?_; refine ta_ (i := 12) (N := some 60) #[true, true, true, true, true, true, true, false, true, true, true, true, true, false, false, false, false, false, false, false, false, false, false, false, false, false, false] ?_; refine pu_ (i := 13) (N := some 61) #[true, true, true, true, true, true, true, false, true, true, true, true, true, true, false, false, false, false, false, false, false, false, false, false, false, false, false] ?_; refine ta_ (i := 14) (N := some 62) #[true, true, true, true, true, true, true, false, true, true, true, true, true, true, true, false, false, false, false, false, false, false, false, false, false, false, false] ?_; refine pu_ (i := 16) (N := some 64) #[true, true, true, true, true, true, true, false, true, true, true, true, true, true, true, false, true, false, false, false, false, false, false, false, false, false, false] ?_; refine pu_ (i := 17) (N := some 65) #[true, true, true, true, true, true, true, false, true, true, true, true, true, true, true, false, true, true, false, false, false, false, false, false, false, false, false] ?_; refine pu_ (i := 18) (N := some 66) #[true, true, true, true, true, true, true, false, true, true, true, true, true, true, true, false, true, true, true, false, false, false, false, false, false, false, false] ?_; refine pu_ (i := 19) (N := some 67) #[true, true, true, true, true, true, true, false, true, true, true, true, true, true, true, false, true, true, true, true, false, false, false, false, false, false, false] ?_; refine ta_ (i := 20) (N := some 68) #[true, true, true, true, true, true, true, false, true, true, true, true, true, true, true, false, true, true, true, true, true, false, false, false, false, false, false] ?_; refine pu_ (i := 21) (N := some 69) #[true, true, true, true, true, true, true, false, true, true, true, true, true, true, true, false, true, true, true, true, true, true, false, false, false, false, false] ?_; refine ta_ (i := 22) (N := some 70) #[true, true, true, true, true, true, true, false, true, true, true, true, true, true, true, false, true, true, true, true, true, true, true, false, false, false, false] ?_; refine on_ (i := 7) (N := some 55) #[true, true, true, true, true, true, true, true, true, true, true, true, true, true, true, false, true, true, true, true, true, true, true, false, false, false, false] (fun K hK => ?_); refine Vr Try.func122 (by kernel_rfl) rfl #[.agg #[.int .i64 x.f1.f0, .int .i64 x.f1.f1], .slice A0 l0.length c0] (by rfl) rfl rfl (by (try simp only [List.map_toArray, List.map_cons, List.map_nil]); first | done | rfl) ?_; refine (X1.out _).mono ?_; rintro e w' ⟨B1, d1, rfl, hC, hd, hb⟩; have E1 := Qa.mk hC; have D1 := Qa.mk hd; replace HW := Qa.mk (Qj HW.out hb); replace HO := Qa.mk (Kd.R_below HO.out hb); have hH := Qcx hb hHeld; refine ⟨_, rfl, ?_⟩; clear hC hd hb hHeld; refine hK.out _ _ hH (fun hHeld => ?_); clear hH; clear hK K; refine nN_ 55 ?_; refine on_ (i := 15) (N := some 63) #[true, true, true, true, true, true, true, true, true, true, true, true, true, true, true, true, true, true, true, true, true, true, true, false, false, false, false] (fun K hK => ?_); refine Vr Try.func122 (by kernel_rfl) rfl #[.agg #[.int .i64 x.f2.f0, .int .i64 x.f2.f1], .slice A1 l1.length c1] (by rfl) rfl rfl (by (try simp only [List.map_toArray, List.map_cons, List.map_nil]); first | done | rfl) ?_; refine (X2.out _).mono ?_; rintro e w' ⟨B2, d2, rfl, hC, hd, hb⟩; have E2 := Qa.mk hC; have D2 := Qa.mk hd; replace HW := Qa.mk (Qj HW.out hb); replace HO := Qa.mk (Kd.R_below HO.out hb); have hH := Qcx hb hHeld; refine ⟨_, rfl, ?_⟩; clear hC hd hb hHeld; refine hK.out _ _ hH (fun hHeld => ?_); clear hH; clear hK K; refine nN_ 63 ?_; refine on_ (i := 23) (N := some 71) #[true, true, true, true, true, true, true, true, true, true, true, true, true, true, true, true, true, true, true, true, true, true, true, true, false, false, false] (fun K hK => ?_); refine Vr Try.func122 (by kernel_rfl) rfl #[.agg #[.int .i64 x.f3.f0, .int .i64 x.f3.f1], .slice A2 l2.length c2] (by rfl) rfl rfl (by (try simp only [List.map_toArray, List.map_cons, List.map_nil]); first | done | rfl) ?_; refine (X3.out _).mono ?_; rintro e w' ⟨B3, d3, rfl, hC, hd, hb⟩; have E3 := Qa.mk hC; have D3 := Qa.mk hd; replace HW := Qa.mk (Qj HW.out hb); replace HO := Qa.mk (Kd.R_below HO.out hb); have hH := Qcx hb hHeld; refine ⟨_, rfl, ?_⟩; clear hC hd hb hHeld; refine hK.out _ _ hH (fun hHeld => ?_); clear hH; clear hK K; refine nN_ 71 ?_; refine pu_ (i := 24) (N := some 14) #[true, true, true, true, true, true, true, true, true, true, true, true, true, true, true, true, true, true, true, true, true, true, true, true, true, false, false] ?_; refine pu_ (i := 25) (N := some 15) #[true, true, true, true, true, true, true, true, true, true, true, true, true, true, true, true, true, true, true, true, true, true, true, true, true, true, false] ?_; refine pu_ (i := 26) (N := some 16) #[true, true, true, true, true, true, true, true, true, true, true, true, true, true, true, true, true, true, true, true, true, true, true, true, true, true, true] ?_; refine Ki (Vq HT_.out (by kernel_rfl)) ?_; clear HT_ HW_ X1 X2 X3; obtain ⟨q0, q1, q2, hx0, hx1, hx2, hx3, hx4, hx5, hx6⟩ := hHeld; go_wp2_with fail; refine Ug (n := 12) (S := fun w' => w'.cell? ⟨f5, 0, none⟩ = some (.slice A0 l0.length c0) ∧ w'.cell? ⟨f5, 1, none⟩ = some (.slice A1 l1.length c1) ∧ w'.cell? ⟨f5, 2, none⟩ = some (.slice A2 l2.length c2) ∧ w'.cell? (ad.add (i * 7)) = some (.bool x.f0) ∧ w'.cell? ⟨(ad.add (i * 7)).block, (ad.add (i * 7)).off + 1, none⟩ = some (.int .i64 x.f1.f0) ∧ w'.cell? ⟨(ad.add (i * 7)).block, (ad.add (i * 7)).off + 2, none⟩ = some (.int .i64 x.f1.f1) ∧ w'.cell? ⟨(ad.add (i * 7)).block, (ad.add (i * 7)).off + 3, none⟩ = some (.int .i64 x.f2.f0) ∧ w'.cell? ⟨(ad.add (i * 7)).block, (ad.add (i * 7)).off + 4, none⟩ = some (.int .i64 x.f2.f1) ∧ w'.cell? ⟨(ad.add (i * 7)).block, (ad.add (i * 7)).off + 5, none⟩ = some (.int .i64 x.f3.f0) ∧ w'.cell? ⟨(ad.add (i * 7)).block, (ad.add (i * 7)).off + 6, none⟩ = some (.int .i64 x.f3.f1)) (ds := []) (bz_ 12 0) (by kernel_rfl) rfl rfl ⟨q0, q1, q2, hx0, hx1, hx2, hx3, hx4, hx5, hx6⟩ (fun hHeld => ?_); refine Va Zj.tab10 Zj.bits10 (fun HT_ HW_ => ?_); replace HW := Qa.mk (Qi HW.out); replace HO := Qa.mk (Kd.R_drew HO.out); clear q0 q1 q2 hx0 hx1 hx2 hx3 hx4 hx5 hx6; refine pu_ (i := 0) (N := some 72) #[true, false, false, false, false, false, false, false, false, false, false, false] ?_; refine pu_ (i := 1) (N := some 73) #[true, true, false, false, false, false, false, false, false, false, false, false] ?_; refine pu_ (i := 2) (N := some 74) #[true, true, true, false, false, false, false, false, false, false, false, false] ?_; refine ta_ (i := 3) (N := some 75) #[true, true, true, true, false, false, false, false, false, false, false, false] ?_; refine pu_ (i := 4) (N := some 76) #[true, true, true, true, true, false, false, false, false, false, false, false] ?_; refine ta_ (i := 5) (N := some 77) #[true, true, true, true, true, true, false, false, false, false, false, false] ?_; refine pu_ (i := 6) (N := some 78) #[true, true, true, true, true, true, true, false, false, false, false, false] ?_; refine ta_ (i := 7) (N := some 79) #[true, true, true, true, true, true, true, true, false, false, false, false] ?_; refine pu_ (i := 8) (N := some 80) #[true, true, true, true, true, true, true, true, true, false, false, false] ?_; refine ta_ (i := 9) (N := some 81) #[true, true, true, true, true, true, true, true, true, true, false, false] ?_; refine on_ (i := 10) (N := some 82) #[true, true, true, true, true, true, true, true, true, true, true, false] (fun K hK => ?_); refine Vr Try.func77 (by kernel_rfl) rfl #[.agg #[.bool x.f0, .int .i64 x.f1.f0, .int .i64 x.f1.f1, .int .i64 x.f2.f0, .int .i64 x.f2.f1, .int .i64 x.f3.f0, .int .i64 x.f3.f1], .slice A0 l0.length c0, .slice A1 l1.length c1, .slice A2 l2.length c2] (by rfl) rfl rfl (by (try simp only [List.map_toArray, List.map_cons, List.map_nil]); first | done | rfl) ?_; refine (Xp.calls k x.f0 x.f1.f0 x.f1.f1 x.f2.f0 x.f2.f1 x.f3.f0 x.f3.f1 A0 c0 l0 A1 c1 l1 A2 c2 l2 kc _ (Kd.C_below C0.out (Qj HB3.out HW.out)) LC0.out (Kd.C_below C1.out (Qj HB3.out HW.out)) LC1.out (Kd.C_below C2.out (Qj HB3.out HW.out)) LC2.out HKC.out).mono ?_; rintro e w5 ⟨rfl, hb⟩; replace HW := Qa.mk (Qj HW.out hb); replace HO := Qa.mk (Kd.R_below HO.out hb); have hH := Qcx hb hHeld; refine ⟨_, rfl, ?_⟩; clear hb hHeld; refine hK.out _ _ hH (fun hHeld => ?_); clear hH; clear hK K; refine nN_ 82 ?_; refine pu_ (i := 11) (N := some 17) #[true, true, true, true, true, true, true, true, true, true, true, true] ?_; refine Ki (Vq HT_.out (by kernel_rfl)) ?_; clear hHeld HT_ HW_ HKC; have RW := Qa.mk (fun (n : Nat) (W : World) (h : Below w3.heap.size w3 W) => And.intro (E1.out W (Kd.C_below C0.out (Qj HB3.out h))) (And.intro (E2.out W (Kd.C_below C1.out (Qj HB3.out h))) (E3.out W (Kd.C_below C2.out (Qj HB3.out h))))); clear E1 E2 E3; have ho := HOUT.out
   unfold Qhf at ho
   by_cases k0 : kc = 0
   ·subst k0
    rw [if_pos rfl] at ho
    replace ho := Option.bind_eq_some_iff.1 ho; obtain ⟨s, hj, ho⟩ := ho; obtain rfl := Option.some.inj ho; have HT := Qa.mk (Qar k b1 s hj); clear ho hj; go_wp2_with fail; refine (Yh.calls k B1 d1 b1 _ _ _ _ _ _ _ _ _ w5 (RW.out 0 w5 HW.out).1 D1.out HT.out).mono ?_; rintro e w6 ⟨rfl, hb⟩; have HO6 := Qa.mk (Kd.R_below HO.out hb); have HW6 := Qa.mk (Qj HW.out hb); clear hb; go_wp2_with (first | ((with_reducible refine Xl (b := .append) (xs := #[.tmp 85, .tmp 88]) rfl ?_); at_builtin; refine Kd.R_append Kf (w0 := w3) w3.heap.size rfl (.tmp 85) (.tmp 88) 86 123 (.agg #[(.string ⟨#[]⟩), (.string ⟨#[]⟩), (.string ⟨#[]⟩), (.bool false), (.string ⟨#[]⟩), (.string ⟨#[]⟩), (.string ⟨#[]⟩), (.string ⟨#[]⟩), (.bool false)]) 128 rfl Try.underlying86 Jp rfl (by decide) (by omega) u12 l (rtp s : Xi) [.string ⟨#[]⟩, .string ⟨#[]⟩, .string ⟨#[]⟩, .bool false, .string s, .string ⟨#[]⟩, .string ⟨#[]⟩, .string ⟨#[]⟩, .bool false] (fun _ => True) (fun _ => False) rfl rfl ?aP (fun _ hk => hk.elim) ?aF ?aO ?aB ?aS ?aL ?_; (case aP => exact Ul _ _ _ (rtp s : Xi)); (case aB => exact HW6.out); (case aF => exact (fun _ _ => trivial)); (case aO => exact HO6.out); (case aS => exact (Qo HW6.out)); (case aL => have := HLL.out; omega); intro v9 w9 ho hb hg hat; have HO9 := Qa.mk ho; have HB9 := Qa.mk hb; clear ho hb hg hat))
    go_roundg k1
    case measure => omega
    case rel => exact ⟨_, i + 1, by rw [HWI.out], ⟨by have := HI.out; omega⟩, HO9, HB9, HGN⟩
   ·rw [if_neg k0] at ho
    have qk0a : decide (kc = 0) = false := decide_eq_false k0; have qk0b : (kc != 0) = true := bne_iff_ne.mpr k0; have qk0c : (kc == 0) = false := beq_eq_false_iff_ne.mpr k0
    by_cases kl : kc = 1 ∨ kc = 3 ∨ (kc = 4 ∧ favour = 1)
    ·rw [if_pos kl] at ho
     rcases kl with rfl | rfl | ⟨rfl, rfl⟩
     ·replace ho := Option.bind_eq_some_iff.1 ho
      obtain ⟨s, hj, ho⟩ := ho; obtain rfl := Option.some.inj ho; have HT := Qa.mk (Qar k b2 s hj); clear ho hj; go_wp2_with fail; refine (Yh.calls k B2 d2 b2 _ _ _ _ _ _ _ _ _ w5 (RW.out 0 w5 HW.out).2.1 D2.out HT.out).mono ?_; rintro e w6 ⟨rfl, hb⟩; have HO6 := Qa.mk (Kd.R_below HO.out hb); have HW6 := Qa.mk (Qj HW.out hb); clear hb; go_wp2_with (first | ((with_reducible refine Xl (b := .append) (xs := #[.tmp 104, .tmp 107]) rfl ?_); at_builtin; refine Kd.R_append Kf (w0 := w3) w3.heap.size rfl (.tmp 104) (.tmp 107) 86 123 (.agg #[(.string ⟨#[]⟩), (.string ⟨#[]⟩), (.string ⟨#[]⟩), (.bool false), (.string ⟨#[]⟩), (.string ⟨#[]⟩), (.string ⟨#[]⟩), (.string ⟨#[]⟩), (.bool false)]) 128 rfl Try.underlying86 Jp rfl (by decide) (by omega) u12 l (rtp s : Xi) [.string ⟨#[]⟩, .string ⟨#[]⟩, .string ⟨#[]⟩, .bool false, .string s, .string ⟨#[]⟩, .string ⟨#[]⟩, .string ⟨#[]⟩, .bool false] (fun _ => True) (fun _ => False) rfl rfl ?aP (fun _ hk => hk.elim) ?aF ?aO ?aB ?aS ?aL ?_; (case aP => exact Ul _ _ _ (rtp s : Xi)); (case aB => exact HW6.out); (case aF => exact (fun _ _ => trivial)); (case aO => exact HO6.out); (case aS => exact (Qo HW6.out)); (case aL => have := HLL.out; omega); intro v9 w9 ho hb hg hat; have HO9 := Qa.mk ho; have HB9 := Qa.mk hb; clear ho hb hg hat))
      go_roundg k1
      case measure => omega
      case rel => exact ⟨_, i + 1, by rw [HWI.out], ⟨by have := HI.out; omega⟩, HO9, HB9, HGN⟩
     ·replace ho := Option.bind_eq_some_iff.1 ho
      obtain ⟨s, hj, ho⟩ := ho; obtain rfl := Option.some.inj ho; have HT := Qa.mk (Qar k b2 s hj); clear ho hj; go_wp2_with fail; refine (Yh.calls k B2 d2 b2 _ _ _ _ _ _ _ _ _ w5 (RW.out 0 w5 HW.out).2.1 D2.out HT.out).mono ?_; rintro e w6 ⟨rfl, hb⟩; have HO6 := Qa.mk (Kd.R_below HO.out hb); have HW6 := Qa.mk (Qj HW.out hb); clear hb; go_wp2_with (first | ((with_reducible refine Xl (b := .append) (xs := #[.tmp 104, .tmp 107]) rfl ?_); at_builtin; refine Kd.R_append Kf (w0 := w3) w3.heap.size rfl (.tmp 104) (.tmp 107) 86 123 (.agg #[(.string ⟨#[]⟩), (.string ⟨#[]⟩), (.string ⟨#[]⟩), (.bool false), (.string ⟨#[]⟩), (.string ⟨#[]⟩), (.string ⟨#[]⟩), (.string ⟨#[]⟩), (.bool false)]) 128 rfl Try.underlying86 Jp rfl (by decide) (by omega) u12 l (rtp s : Xi) [.string ⟨#[]⟩, .string ⟨#[]⟩, .string ⟨#[]⟩, .bool false, .string s, .string ⟨#[]⟩, .string ⟨#[]⟩, .string ⟨#[]⟩, .bool false] (fun _ => True) (fun _ => False) rfl rfl ?aP (fun _ hk => hk.elim) ?aF ?aO ?aB ?aS ?aL ?_; (case aP => exact Ul _ _ _ (rtp s : Xi)); (case aB => exact HW6.out); (case aF => exact (fun _ _ => trivial)); (case aO => exact HO6.out); (case aS => exact (Qo HW6.out)); (case aL => have := HLL.out; omega); intro v9 w9 ho hb hg hat; have HO9 := Qa.mk ho; have HB9 := Qa.mk hb; clear ho hb hg hat))
      go_roundg k1
      case measure => omega
      case rel => exact ⟨_, i + 1, by rw [HWI.out], ⟨by have := HI.out; omega⟩, HO9, HB9, HGN⟩
     ·replace ho := Option.bind_eq_some_iff.1 ho
      obtain ⟨s, hj, ho⟩ := ho; obtain rfl := Option.some.inj ho; have HT := Qa.mk (Qar k b2 s hj); clear ho hj; go_wp2_with fail; refine (Yh.calls k B2 d2 b2 _ _ _ _ _ _ _ _ _ w5 (RW.out 0 w5 HW.out).2.1 D2.out HT.out).mono ?_; rintro e w6 ⟨rfl, hb⟩; have HO6 := Qa.mk (Kd.R_below HO.out hb); have HW6 := Qa.mk (Qj HW.out hb); clear hb; go_wp2_with (first | ((with_reducible refine Xl (b := .append) (xs := #[.tmp 104, .tmp 107]) rfl ?_); at_builtin; refine Kd.R_append Kf (w0 := w3) w3.heap.size rfl (.tmp 104) (.tmp 107) 86 123 (.agg #[(.string ⟨#[]⟩), (.string ⟨#[]⟩), (.string ⟨#[]⟩), (.bool false), (.string ⟨#[]⟩), (.string ⟨#[]⟩), (.string ⟨#[]⟩), (.string ⟨#[]⟩), (.bool false)]) 128 rfl Try.underlying86 Jp rfl (by decide) (by omega) u12 l (rtp s : Xi) [.string ⟨#[]⟩, .string ⟨#[]⟩, .string ⟨#[]⟩, .bool false, .string s, .string ⟨#[]⟩, .string ⟨#[]⟩, .string ⟨#[]⟩, .bool false] (fun _ => True) (fun _ => False) rfl rfl ?aP (fun _ hk => hk.elim) ?aF ?aO ?aB ?aS ?aL ?_; (case aP => exact Ul _ _ _ (rtp s : Xi)); (case aB => exact HW6.out); (case aF => exact (fun _ _ => trivial)); (case aO => exact HO6.out); (case aS => exact (Qo HW6.out)); (case aL => have := HLL.out; omega); intro v9 w9 ho hb hg hat; have HO9 := Qa.mk ho; have HB9 := Qa.mk hb; clear ho hb hg hat))
      go_roundg k1
      case measure => omega
      case rel => exact ⟨_, i + 1, by rw [HWI.out], ⟨by have := HI.out; omega⟩, HO9, HB9, HGN⟩
    ·rw [if_neg kl] at ho
     have k1n : kc ≠ 1 := fun h => kl (.inl h)
     have k3n : kc ≠ 3 := fun h => kl (.inr (.inl h))
     have qk1a : decide (kc = 1) = false := decide_eq_false k1n; have qk1b : (kc != 1) = true := bne_iff_ne.mpr k1n; have qk1c : (kc == 1) = false := beq_eq_false_iff_ne.mpr k1n; have qk3a : decide (kc = 3) = false := decide_eq_false k3n; have qk3b : (kc != 3) = true := bne_iff_ne.mpr k3n; have qk3c : (kc == 3) = false := beq_eq_false_iff_ne.mpr k3n
     go_upto_region 13 with (fail)
     go_cut [103] from 83 to 172 (fun b0 W => b0 = .bool false ∧ Qa (Kd.R Kf 123 W w3.heap.size (fun _ => True) u12 l) ∧ Qa (Below w3.heap.size w3 W))
     case first =>
      by_cases k4 : kc = 4
      ·subst k4
       have g1 : favour ≠ 1 := fun h => kl (.inr (.inr ⟨rfl, h⟩))
       have qf1a : decide (favour = 1) = false := decide_eq_false g1; have qf1b : (favour != 1) = true := bne_iff_ne.mpr g1; have qf1c : (favour == 1) = false := beq_eq_false_iff_ne.mpr g1; go_wp2_with fail
       go_meet
       case rel => exact ⟨by simp, HO, HW⟩
      ·have k4n := k4
       have qk4a : decide (kc = 4) = false := decide_eq_false k4n; have qk4b : (kc != 4) = true := bne_iff_ne.mpr k4n; have qk4c : (kc == 4) = false := beq_eq_false_iff_ne.mpr k4n; go_wp2_with fail
       go_meet
       case rel => exact ⟨by simp, HO, HW⟩
     case rest =>
     clear HO HW; obtain ⟨rfl, HO, HW⟩ := hcut
     by_cases kr : kc = 2 ∨ favour = 3
     ·rw [if_pos kr] at ho
      rcases kr with rfl | rfl
      ·replace ho := Option.bind_eq_some_iff.1 ho
       obtain ⟨s, hj, ho⟩ := ho; obtain rfl := Option.some.inj ho; have HT := Qa.mk (Qar k b3 s hj); clear ho hj; go_wp2_with fail; refine (Yh.calls k B3 d3 b3 _ _ _ _ _ _ _ _ _ wc (RW.out 0 wc HW.out).2.2 D3.out HT.out).mono ?_; rintro e w6 ⟨rfl, hb⟩; have HO6 := Qa.mk (Kd.R_below HO.out hb); have HW6 := Qa.mk (Qj HW.out hb); clear hb; go_wp2_with (first | ((with_reducible refine Xl (b := .append) (xs := #[.tmp 115, .tmp 118]) rfl ?_); at_builtin; refine Kd.R_append Kf (w0 := w3) w3.heap.size rfl (.tmp 115) (.tmp 118) 86 123 (.agg #[(.string ⟨#[]⟩), (.string ⟨#[]⟩), (.string ⟨#[]⟩), (.bool false), (.string ⟨#[]⟩), (.string ⟨#[]⟩), (.string ⟨#[]⟩), (.string ⟨#[]⟩), (.bool false)]) 128 rfl Try.underlying86 Jp rfl (by decide) (by omega) u12 l (rtp s : Xi) [.string ⟨#[]⟩, .string ⟨#[]⟩, .string ⟨#[]⟩, .bool false, .string s, .string ⟨#[]⟩, .string ⟨#[]⟩, .string ⟨#[]⟩, .bool false] (fun _ => True) (fun _ => False) rfl rfl ?aP (fun _ hk => hk.elim) ?aF ?aO ?aB ?aS ?aL ?_; (case aP => exact Ul _ _ _ (rtp s : Xi)); (case aB => exact HW6.out); (case aF => exact (fun _ _ => trivial)); (case aO => exact HO6.out); (case aS => exact (Qo HW6.out)); (case aL => have := HLL.out; omega); intro v9 w9 ho hb hg hat; have HO9 := Qa.mk ho; have HB9 := Qa.mk hb; clear ho hb hg hat))
       go_roundg k1
       case measure => omega
       case rel => exact ⟨_, i + 1, by rw [HWI.out], ⟨by have := HI.out; omega⟩, HO9, HB9, HGN⟩
      ·by_cases k2 : kc = 2
       ·subst k2
        replace ho := Option.bind_eq_some_iff.1 ho; obtain ⟨s, hj, ho⟩ := ho; obtain rfl := Option.some.inj ho; have HT := Qa.mk (Qar k b3 s hj); clear ho hj; go_wp2_with fail; refine (Yh.calls k B3 d3 b3 _ _ _ _ _ _ _ _ _ wc (RW.out 0 wc HW.out).2.2 D3.out HT.out).mono ?_; rintro e w6 ⟨rfl, hb⟩; have HO6 := Qa.mk (Kd.R_below HO.out hb); have HW6 := Qa.mk (Qj HW.out hb); clear hb; go_wp2_with (first | ((with_reducible refine Xl (b := .append) (xs := #[.tmp 115, .tmp 118]) rfl ?_); at_builtin; refine Kd.R_append Kf (w0 := w3) w3.heap.size rfl (.tmp 115) (.tmp 118) 86 123 (.agg #[(.string ⟨#[]⟩), (.string ⟨#[]⟩), (.string ⟨#[]⟩), (.bool false), (.string ⟨#[]⟩), (.string ⟨#[]⟩), (.string ⟨#[]⟩), (.string ⟨#[]⟩), (.bool false)]) 128 rfl Try.underlying86 Jp rfl (by decide) (by omega) u12 l (rtp s : Xi) [.string ⟨#[]⟩, .string ⟨#[]⟩, .string ⟨#[]⟩, .bool false, .string s, .string ⟨#[]⟩, .string ⟨#[]⟩, .string ⟨#[]⟩, .bool false] (fun _ => True) (fun _ => False) rfl rfl ?aP (fun _ hk => hk.elim) ?aF ?aO ?aB ?aS ?aL ?_; (case aP => exact Ul _ _ _ (rtp s : Xi)); (case aB => exact HW6.out); (case aF => exact (fun _ _ => trivial)); (case aO => exact HO6.out); (case aS => exact (Qo HW6.out)); (case aL => have := HLL.out; omega); intro v9 w9 ho hb hg hat; have HO9 := Qa.mk ho; have HB9 := Qa.mk hb; clear ho hb hg hat))
        go_roundg k1
        case measure => omega
        case rel => exact ⟨_, i + 1, by rw [HWI.out], ⟨by have := HI.out; omega⟩, HO9, HB9, HGN⟩
       ·have k2n := k2
        have qk2a : decide (kc = 2) = false := decide_eq_false k2n; have qk2b : (kc != 2) = true := bne_iff_ne.mpr k2n; have qk2c : (kc == 2) = false := beq_eq_false_iff_ne.mpr k2n; replace ho := Option.bind_eq_some_iff.1 ho; obtain ⟨s, hj, ho⟩ := ho; obtain rfl := Option.some.inj ho; have HT := Qa.mk (Qar k b3 s hj); clear ho hj; go_wp2_with fail; refine (Yh.calls k B3 d3 b3 _ _ _ _ _ _ _ _ _ wc (RW.out 0 wc HW.out).2.2 D3.out HT.out).mono ?_; rintro e w6 ⟨rfl, hb⟩; have HO6 := Qa.mk (Kd.R_below HO.out hb); have HW6 := Qa.mk (Qj HW.out hb); clear hb; go_wp2_with (first | ((with_reducible refine Xl (b := .append) (xs := #[.tmp 115, .tmp 118]) rfl ?_); at_builtin; refine Kd.R_append Kf (w0 := w3) w3.heap.size rfl (.tmp 115) (.tmp 118) 86 123 (.agg #[(.string ⟨#[]⟩), (.string ⟨#[]⟩), (.string ⟨#[]⟩), (.bool false), (.string ⟨#[]⟩), (.string ⟨#[]⟩), (.string ⟨#[]⟩), (.string ⟨#[]⟩), (.bool false)]) 128 rfl Try.underlying86 Jp rfl (by decide) (by omega) u12 l (rtp s : Xi) [.string ⟨#[]⟩, .string ⟨#[]⟩, .string ⟨#[]⟩, .bool false, .string s, .string ⟨#[]⟩, .string ⟨#[]⟩, .string ⟨#[]⟩, .bool false] (fun _ => True) (fun _ => False) rfl rfl ?aP (fun _ hk => hk.elim) ?aF ?aO ?aB ?aS ?aL ?_; (case aP => exact Ul _ _ _ (rtp s : Xi)); (case aB => exact HW6.out); (case aF => exact (fun _ _ => trivial)); (case aO => exact HO6.out); (case aS => exact (Qo HW6.out)); (case aL => have := HLL.out; omega); intro v9 w9 ho hb hg hat; have HO9 := Qa.mk ho; have HB9 := Qa.mk hb; clear ho hb hg hat))
        go_roundg k1
        case measure => omega
        case rel => exact ⟨_, i + 1, by rw [HWI.out], ⟨by have := HI.out; omega⟩, HO9, HB9, HGN⟩
     ·rw [if_neg kr] at ho
      have k2n : kc ≠ 2 := fun h => kr (.inl h)
      have g3n : favour ≠ 3 := fun h => kr (.inr h)
      have qk2a : decide (kc = 2) = false := decide_eq_false k2n; have qk2b : (kc != 2) = true := bne_iff_ne.mpr k2n; have qk2c : (kc == 2) = false := beq_eq_false_iff_ne.mpr k2n; have qf3a : decide (favour = 3) = false := decide_eq_false g3n; have qf3b : (favour != 3) = true := bne_iff_ne.mpr g3n; have qf3c : (favour == 3) = false := beq_eq_false_iff_ne.mpr g3n; replace ho := Option.bind_eq_some_iff.1 ho; obtain ⟨⟨n, m⟩, hn, ho⟩ := ho
      unfold Qkz at ho
      split at ho
      case isFalse => cases ho
      rename_i hnm
      obtain ⟨hn0, hm0, hnm2, hnm3⟩ := hnm; replace ho := Option.bind_eq_some_iff.1 ho; obtain ⟨jb, hjb, ho⟩ := ho; replace ho := Option.bind_eq_some_iff.1 ho; obtain ⟨jl, hjl, ho⟩ := ho; replace ho := Option.bind_eq_some_iff.1 ho; obtain ⟨jr, hjr, ho⟩ := ho; replace ho := Option.bind_eq_some_iff.1 ho; obtain ⟨s1, hs1, ho⟩ := ho; replace ho := Option.bind_eq_some_iff.1 ho; obtain ⟨s3, hs3, ho⟩ := ho; obtain rfl := Option.some.inj ho; clear ho
      go_upto_if 121 with (fail)
      go_cut [2, 18, 19] from 83 to 172 (fun v2 v18 v19 W => v2 = .int .i64 style ∧ v18 = .int .i64 n ∧ v19 = .int .i64 m ∧ Qa (Kd.R Kf 123 W w3.heap.size (fun _ => True) u12 l) ∧ Qa (Below w3.heap.size w3 W))
      case first =>
       by_cases h2 : style = 2
       ·have hs2 : (style == 2) = true := beq_iff_eq.mpr h2
        have hs2b : decide (style = 2) = true := decide_eq_true h2
        rw [if_pos h2] at hn
        go_wp2_with fail; refine (Qw.calls k B2 d2 b2 B3 d3 b3 n m _ (RW.out 0 _ HW.out).2.1 D2.out (RW.out 0 _ HW.out).2.2 D3.out hn).mono ?_; rintro e w6 ⟨rfl, hD⟩; have hb := Zl.below hD; replace HO := Qa.mk (Kd.R_below HO.out hb); replace HW := Qa.mk (Qj HW.out hb); clear hD hb; go_wp2_with fail
        go_meet
        case rel => exact ⟨by rw [h2], rfl, rfl, HO, HW⟩
       ·have hs2 : (style == 2) = false := beq_eq_false_iff_ne.mpr h2
        have hs2b : decide (style = 2) = false := decide_eq_false h2
        rw [if_neg h2] at hn
        obtain ⟨rfl, rfl⟩ : (0 : Int) = n ∧ (0 : Int) = m := by simpa using hn
        go_wp2_with fail
        go_meet
        case rel => exact ⟨rfl, rfl, rfl, HO, HW⟩
      case rest =>
      clear HO HW; obtain ⟨rfl, rfl, rfl, HO, HW⟩ := hcut; obtain ⟨iz, hinfo, _, hsz, _⟩ := info_parts Ko; obtain ⟨e2, he2⟩ : ∃ e, wrap64 ((b2.length : Int) - m) = e := ⟨_, rfl⟩; obtain ⟨e3, he3⟩ : ∃ e, wrap64 ((b3.length : Int) - m) = e := ⟨_, rfl⟩
      have he2' : (b2.length : Int) - m = e2 := by have := (RW.out 0 _ HW.out).2.1.2.1; rw [← he2]; unfold wrap64; omega
      have he3' : (b3.length : Int) - m = e3 := by have := (RW.out 0 _ HW.out).2.2.2.1; rw [← he3]; unfold wrap64; omega
      rw [he2'] at hjl hs3
      rw [he3'] at hjr
      obtain ⟨P2, g2, hcut2, hC2, hL2⟩ := Qcc Kd.string 27 9 Try.underlying27 hinfo hsz B2 d2 b2 n e2 hn0 (by omega) (by omega) D2.out; obtain ⟨P3, g3, hcut3, hC3, hL3⟩ := Qcc Kd.string 27 9 Try.underlying27 hinfo hsz B3 d3 b3 n e3 hn0 (by omega) (by omega) D3.out; obtain ⟨hcut4, hC4, hL4⟩ := Qml Kd.string 27 9 Try.underlying27 hinfo hsz B2 d2 b2 n hn0 (by omega) D2.out; obtain ⟨P5, g5, hcut5, hC5, hL5⟩ := Qjd Kd.string 27 9 Try.underlying27 hinfo hsz B2 d2 b2 e2 (by omega) (by omega) D2.out
      generalize b2.take n.toNat = t4 at hcut4 hC4 hL4 hs1
      generalize b2.drop e2.toNat = t5 at hcut5 hC5 hL5 hs3
      generalize (b2.take e2.toNat).drop n.toNat = t2 at hcut2 hC2 hL2 hjl
      generalize (b3.take e3.toNat).drop n.toNat = t3 at hcut3 hC3 hL3 hjr
      have HT1 := Qa.mk (fun (W : World) (h : Below w3.heap.size w3 W) => (RW.out 0 W h).1); have HT2 := Qa.mk (fun (W : World) (h : Below w3.heap.size w3 W) => hC2 W (RW.out 0 W h).2.1); have HL2 := Qa.mk hL2; have HT3 := Qa.mk (fun (W : World) (h : Below w3.heap.size w3 W) => hC3 W (RW.out 0 W h).2.2); have HL3 := Qa.mk hL3; have HT4 := Qa.mk (fun (W : World) (h : Below w3.heap.size w3 W) => hC4 W (RW.out 0 W h).2.1); have HL4 := Qa.mk hL4; have HT5 := Qa.mk (fun (W : World) (h : Below w3.heap.size w3 W) => hC5 W (RW.out 0 W h).2.1); have HL5 := Qa.mk hL5; have HJ := Qa.mk (And.intro hjb (And.intro hjl (And.intro hjr (And.intro hs1 hs3)))); have HE := Qa.mk (And.intro hn0 (And.intro hm0 (And.intro hnm2 (And.intro hnm3 (And.intro he2' he3'))))); clear hC2 hC3 hC4 hC5 hL2 hL3 hL4 hL5 hjb hjl hjr hs1 hs3 hn0 hm0 hnm2 hnm3 he2' he3' hn RW HOUT; have BL := Qa.mk (Qq BL3.out HW.out); have z0 := (Qc BL.out 0).trans (show _ = some (Value.string lb.f0) from rfl); have z2 := (Qc BL.out 2).trans (show _ = some (Value.string lb.f2) from rfl); go_wp2_with fail; refine Ug (n := 23) (S := fun w' => w'.cell? ⟨f8, 0, none⟩ = some (.string lb.f0) ∧ w'.cell? ⟨f8, 2, none⟩ = some (.string lb.f2)) (ds := [22]) (bz_ 23 0) (by kernel_rfl) rfl rfl ⟨z0, z2⟩ (fun hHeld => ?_); refine Va Zj.tab20 Zj.bits20 (fun HT_ HW_ => ?_); replace HW := Qa.mk (Qi HW.out); replace HO := Qa.mk (Kd.R_drew HO.out); clear BL z0 z2
      generalize wc.drew = wd at HW HO hHeld ⊢
      refine pu_ (i := 0) (N := some 128) #[true, false, false, false, false, false, false, false, false, false, false, false, false, false, false, false, false, false, false, false, false, false, false] ?_; refine ta_ (i := 1) (N := some 129) #[true, true, false, false, false, false, false, false, false, false, false, false, false, false, false, false, false, false, false, false, false, false, false] ?_; refine pu_ (i := 2) (N := some 130) #[true, true, true, false, false, false, false, false, false, false, false, false, false, false, false, false, false, false, false, false, false, false, false] ?_; refine ta_ (i := 3) (N := some 131) #[true, true, true, true, false, false, false, false, false, false, false, false, false, false, false, false, false, false, false, false, false, false, false] ?_; refine pu_ (i := 4) (N := some 132) #[true, true, true, true, true, false, false, false, false, false, false, false, false, false, false, false, false, false, false, false, false, false, false] ?_; refine pu_ (i := 5) (N := some 133) #[true, true, true, true, true, true, false, false, false, false, false, false, false, false, false, false, false, false, false, false, false, false, false] ?_; refine pu_ (i := 6) (N := some 134) #[true, true, true, true, true, true, true, false, false, false, false, false, false, false, false, false, false, false, false, false, false, false, false] ?_; refine pu_ (i := 7) (N := some 135) #[true, true, true, true, true, true, true, true, false, false, false, false, false, false, false, false, false, false, false, false, false, false, false] ?_; refine pu_ (i := 8) (N := some 136) #[true, true, true, true, true, true, true, true, true, false, false, false, false, false, false, false, false, false, false, false, false, false, false] ?_; refine Km (i := 9) (N := some 137) (v := ?_) (a' := ?_) (bz_ 23 1023) rfl rfl (Uj HT_.out (by kernel_rfl)) (fun _ _ _ h => h) (Or.inl ⟨by rfl, ?_⟩) ?_ ?_; rotate_left
      ·intro w'
       go_simp
       with_reducible rfl
      rotate_left
      ·simp only [Act.put, sA_, sB_, sC_, Yx, Vi, he2]
       rfl
      refine Km (i := 10) (N := some 138) (v := ?_) (a' := ?_) (bz_ 23 2047) rfl rfl (Uj HT_.out (by kernel_rfl)) (fun _ _ _ h => h) (Or.inl ⟨by rfl, ?_⟩) ?_ ?_; rotate_left
      ·intro w'
       go_simp
       first | with_reducible rfl | exact hcut2 _ | (rw [hcut2]; rfl)
      rotate_left
      ·simp only [Act.put, sA_, sB_, sC_, Yx, Vi]
       rfl
      refine pu_ (i := 12) (N := some 140) #[true, true, true, true, true, true, true, true, true, true, true, false, true, false, false, false, false, false, false, false, false, false, false] ?_; refine pu_ (i := 13) (N := some 141) #[true, true, true, true, true, true, true, true, true, true, true, false, true, true, false, false, false, false, false, false, false, false, false] ?_; refine pu_ (i := 14) (N := some 142) #[true, true, true, true, true, true, true, true, true, true, true, false, true, true, true, false, false, false, false, false, false, false, false] ?_; refine pu_ (i := 15) (N := some 143) #[true, true, true, true, true, true, true, true, true, true, true, false, true, true, true, true, false, false, false, false, false, false, false] ?_; refine pu_ (i := 16) (N := some 144) #[true, true, true, true, true, true, true, true, true, true, true, false, true, true, true, true, true, false, false, false, false, false, false] ?_; refine Km (i := 17) (N := some 145) (v := ?_) (a' := ?_) (bz_ 23 260095) rfl rfl (Uj HT_.out (by kernel_rfl)) (fun _ _ _ h => h) (Or.inl ⟨by rfl, ?_⟩) ?_ ?_; rotate_left
      ·intro w'
       go_simp
       with_reducible rfl
      rotate_left
      ·simp only [Act.put, sA_, sB_, sC_, Yx, Vi, he3]
       rfl
      refine Km (i := 18) (N := some 146) (v := ?_) (a' := ?_) (bz_ 23 522239) rfl rfl (Uj HT_.out (by kernel_rfl)) (fun _ _ _ h => h) (Or.inl ⟨by rfl, ?_⟩) ?_ ?_; rotate_left
      ·intro w'
       go_simp
       first | with_reducible rfl | exact hcut3 _ | (rw [hcut3]; rfl)
      rotate_left
      ·simp only [Act.put, sA_, sB_, sC_, Yx, Vi]
       rfl
      refine Jl (σ := Nat) 1 (bz_ 23 4194303) (fun s => [(139, .string jl), (147, .string jr), (148, .agg #[.string lb.f0, .string ⟨#[]⟩, .string lb.f2, .bool true, .string ⟨#[]⟩, .string jl, .string ⟨#[]⟩, .string jr, .bool false]), (20, .pointer (some ⟨s, 0, none⟩))]) (fun s w' => w'.cell? ⟨f8, 0, none⟩ = some (.string lb.f0) ∧ w'.cell? ⟨f8, 2, none⟩ = some (.string lb.f2) ∧ Kd.R Kf 123 w' w3.heap.size (fun k => k ≠ s) u12 l ∧ w'.heap[s]? = some (.cells #[.string ⟨#[]⟩, .string ⟨#[]⟩, .string ⟨#[]⟩, .bool false, .string ⟨#[]⟩, .string ⟨#[]⟩, .string ⟨#[]⟩, .string ⟨#[]⟩, .bool false] 123 (0, 0)) ∧ Below w3.heap.size w3 w' ∧ w3.heap.size ≤ s) ?_ ?_; rotate_left
      ·intro hJ
       refine Qcr (i := 11) (j := 21) (Ni := some 139) (Nj := some 20) (bz_ 23 524287) (bz_ 23 2619391) rfl rfl rfl rfl (Jk HT_.out (by kernel_rfl)) (by decide) (by decide) (fun K hK => ?_) (fun K hK => ?_)
       ·skip
        refine Vr Try.func78 (by kernel_rfl) rfl #[.slice P2 t2.length g2] (by rfl) rfl rfl (by (try simp only [List.map_toArray, List.map_cons, List.map_nil]); first | done | rfl) ?_; refine (Zg.calls k P2 g2 t2 jl _ (HT2.out _ HW.out) HL2.out HJ.out.2.1).mono ?_; rintro e w' ⟨rfl, hD⟩; have hb := Zl.below hD; refine ⟨_, rfl, ?_⟩; have HOq1 := Qa.mk (Kd.R_below HO.out hb); have HWq1 := Qa.mk (Qj HW.out hb); have hH := And.intro (Qg hb hHeld.1) (Qg hb hHeld.2); clear hb hD hHeld; refine hK.out _ _ hH (fun hHeld => ?_); clear hH; clear hK K; refine nN_ 139 ?_; refine Qcr (i := 19) (j := 21) (Ni := some 147) (Nj := some 20) (bz_ 23 1048575) (bz_ 23 2621439) rfl rfl rfl rfl (Jk HT_.out (by kernel_rfl)) (by decide) (by decide) (fun K hK => ?_) (fun K hK => ?_)
        ·skip
         refine Vr Try.func78 (by kernel_rfl) rfl #[.slice P3 t3.length g3] (by rfl) rfl rfl (by (try simp only [List.map_toArray, List.map_cons, List.map_nil]); first | done | rfl) ?_; refine (Zg.calls k P3 g3 t3 jr _ (HT3.out _ HWq1.out) HL3.out HJ.out.2.2.1).mono ?_; rintro e w' ⟨rfl, hD⟩; have hb := Zl.below hD; refine ⟨_, rfl, ?_⟩; have HOq2 := Qa.mk (Kd.R_below HOq1.out hb); have HWq2 := Qa.mk (Qj HWq1.out hb); have hH := And.intro (Qg hb hHeld.1) (Qg hb hHeld.2); clear hb hD hHeld; refine hK.out _ _ hH (fun hHeld => ?_); clear hH; clear hK K; refine nN_ 147 ?_; refine pu_ (i := 20) (N := some 148) #[true, true, true, true, true, true, true, true, true, true, true, true, true, true, true, true, true, true, true, true, true, false, false] ?_; refine on_ (i := 21) (N := some 20) #[true, true, true, true, true, true, true, true, true, true, true, true, true, true, true, true, true, true, true, true, true, true, false] (fun K hK => ?_); refine Kh (w1 := ?_) (v := ?_) (by rfl) rfl ?_ ?_; rotate_left 2
         ·go_simp
          constructor
          ·rfl
          ·rfl
         refine Qcn (P := fun W => K _ W) (fun W' hs hba => ?_); have HOq3 := Qa.mk (Kd.R_mono (Kd.R_below (Kd.R_elderB HOq2.out _ (Nat.le_refl _)) hba) (fun k hk => hk.2)); have HWq3 := Qa.mk (Qj HWq2.out hba); have BSq3 := Qa.mk hs; have GE := Qa.mk (Qo HWq2.out); have hH := And.intro (Qg hba hHeld.1) (Qg hba hHeld.2); clear hs hba hHeld; refine hK.out _ _ hH (fun hHeld => ?_); clear hH; clear hK K; refine nN_ 20 ?_; exact np_ (hJ _ _ ⟨hHeld.1, hHeld.2, HOq3.out, BSq3.out, HWq3.out, GE.out⟩)
        ·skip
         refine Kh (w1 := ?_) (v := ?_) (by rfl) rfl ?_ ?_; rotate_left 2
         ·go_simp
          constructor
          ·rfl
          ·rfl
         refine Qcn (P := fun W => K _ W) (fun W' hs hba => ?_); have HOq4 := Qa.mk (Kd.R_mono (Kd.R_below (Kd.R_elderB HOq1.out _ (Nat.le_refl _)) hba) (fun k hk => hk.2)); have HWq4 := Qa.mk (Qj HWq1.out hba); have BSq4 := Qa.mk hs; have GE := Qa.mk (Qo HWq1.out); have hH := And.intro (Qg hba hHeld.1) (Qg hba hHeld.2); clear hs hba hHeld; refine hK.out _ _ hH (fun hHeld => ?_); clear hH; clear hK K; refine nN_ 20 ?_; refine on_ (i := 19) (N := some 147) #[true, true, true, true, true, true, true, true, true, true, true, true, true, true, true, true, true, true, true, true, false, true, false] (fun K hK => ?_); refine Vr Try.func78 (by kernel_rfl) rfl #[.slice P3 t3.length g3] (by rfl) rfl rfl (by (try simp only [List.map_toArray, List.map_cons, List.map_nil]); first | done | rfl) ?_; refine (Zg.calls k P3 g3 t3 jr _ (HT3.out _ HWq4.out) HL3.out HJ.out.2.2.1).mono ?_; rintro e w' ⟨rfl, hD⟩; have hb := Zl.below hD; refine ⟨_, rfl, ?_⟩; have HOq5 := Qa.mk (Kd.R_below HOq4.out hb); have HWq5 := Qa.mk (Qj HWq4.out hb); have hH := And.intro (Qg hb hHeld.1) (Qg hb hHeld.2); have BSq5 := Qa.mk (Qq BSq4.out hb); clear hb hD hHeld; refine hK.out _ _ hH (fun hHeld => ?_); clear hH; clear hK K; refine nN_ 147 ?_; refine pu_ (i := 20) (N := some 148) #[true, true, true, true, true, true, true, true, true, true, true, true, true, true, true, true, true, true, true, true, true, true, false] ?_; exact np_ (hJ _ _ ⟨hHeld.1, hHeld.2, HOq5.out, BSq5.out, HWq5.out, GE.out⟩)
       ·skip
        refine Kh (w1 := ?_) (v := ?_) (by rfl) rfl ?_ ?_; rotate_left 2
        ·go_simp
         constructor
         ·rfl
         ·rfl
        refine Qcn (P := fun W => K _ W) (fun W' hs hba => ?_); have HOq6 := Qa.mk (Kd.R_mono (Kd.R_below (Kd.R_elderB HO.out _ (Nat.le_refl _)) hba) (fun k hk => hk.2)); have HWq6 := Qa.mk (Qj HW.out hba); have BSq6 := Qa.mk hs; have GE := Qa.mk (Qo HW.out); have hH := And.intro (Qg hba hHeld.1) (Qg hba hHeld.2); clear hs hba hHeld; refine hK.out _ _ hH (fun hHeld => ?_); clear hH; clear hK K; refine nN_ 20 ?_; refine on_ (i := 11) (N := some 139) #[true, true, true, true, true, true, true, true, true, true, true, true, true, true, true, true, true, true, true, false, false, true, false] (fun K hK => ?_); refine Vr Try.func78 (by kernel_rfl) rfl #[.slice P2 t2.length g2] (by rfl) rfl rfl (by (try simp only [List.map_toArray, List.map_cons, List.map_nil]); first | done | rfl) ?_; refine (Zg.calls k P2 g2 t2 jl _ (HT2.out _ HWq6.out) HL2.out HJ.out.2.1).mono ?_; rintro e w' ⟨rfl, hD⟩; have hb := Zl.below hD; refine ⟨_, rfl, ?_⟩; have HOq7 := Qa.mk (Kd.R_below HOq6.out hb); have HWq7 := Qa.mk (Qj HWq6.out hb); have hH := And.intro (Qg hb hHeld.1) (Qg hb hHeld.2); have BSq7 := Qa.mk (Qq BSq6.out hb); clear hb hD hHeld; refine hK.out _ _ hH (fun hHeld => ?_); clear hH; clear hK K; refine nN_ 139 ?_; refine on_ (i := 19) (N := some 147) #[true, true, true, true, true, true, true, true, true, true, true, true, true, true, true, true, true, true, true, true, false, true, false] (fun K hK => ?_); refine Vr Try.func78 (by kernel_rfl) rfl #[.slice P3 t3.length g3] (by rfl) rfl rfl (by (try simp only [List.map_toArray, List.map_cons, List.map_nil]); first | done | rfl) ?_; refine (Zg.calls k P3 g3 t3 jr _ (HT3.out _ HWq7.out) HL3.out HJ.out.2.2.1).mono ?_; rintro e w' ⟨rfl, hD⟩; have hb := Zl.below hD; refine ⟨_, rfl, ?_⟩; have HOq8 := Qa.mk (Kd.R_below HOq7.out hb); have HWq8 := Qa.mk (Qj HWq7.out hb); have hH := And.intro (Qg hb hHeld.1) (Qg hb hHeld.2); have BSq8 := Qa.mk (Qq BSq7.out hb); clear hb hD hHeld; refine hK.out _ _ hH (fun hHeld => ?_); clear hH; clear hK K; refine nN_ 147 ?_; refine pu_ (i := 20) (N := some 148) #[true, true, true, true, true, true, true, true, true, true, true, true, true, true, true, true, true, true, true, true, true, true, false] ?_; exact np_ (hJ _ _ ⟨hHeld.1, hHeld.2, HOq8.out, BSq8.out, HWq8.out, GE.out⟩)
      rintro s wj ⟨_, _, ho, hs, hw, hge⟩; clear HO HW; have HO := Qa.mk ho; have BS := Qa.mk hs; have HW := Qa.mk hw; have GS := Qa.mk hge; clear ho hs hw hge; refine np_ ?_; have y0 := (Qc BS.out 0).trans (show _ = some _ from rfl); have x0 := Qe BS.out 0; have y1 := (Qc BS.out 1).trans (show _ = some _ from rfl); have x1 := Qe BS.out 1; have y2 := (Qc BS.out 2).trans (show _ = some _ from rfl); have x2 := Qe BS.out 2; have y3 := (Qc BS.out 3).trans (show _ = some _ from rfl); have x3 := Qe BS.out 3; have y4 := (Qc BS.out 4).trans (show _ = some _ from rfl); have x4 := Qe BS.out 4; have y5 := (Qc BS.out 5).trans (show _ = some _ from rfl); have x5 := Qe BS.out 5; have y6 := (Qc BS.out 6).trans (show _ = some _ from rfl); have x6 := Qe BS.out 6; have y7 := (Qc BS.out 7).trans (show _ = some _ from rfl); have x7 := Qe BS.out 7; have y8 := (Qc BS.out 8).trans (show _ = some _ from rfl); have x8 := Qe BS.out 8; refine Qbb (i := 22) (N := none) (bz_ 23 8388607) rfl rfl (Kx HT_.out (by kernel_rfl)) (by decide) (fun K hK => ?_); refine Jz (w1 := ?_) (by rfl) rfl ?_ ?_; rotate_left
      ·go_simp
       rfl
      refine hK.out _ _ ?_; clear hK K; refine Ki (Vq HT_.out (by kernel_rfl)) ?_; have HO5 := Qa.mk (Kd.R_far (p := ⟨s, 8, none⟩) (Kd.R_far (p := ⟨s, 7, none⟩) (Kd.R_far (p := ⟨s, 6, none⟩) (Kd.R_far (p := ⟨s, 5, none⟩) (Kd.R_far (p := ⟨s, 4, none⟩) (Kd.R_far (p := ⟨s, 3, none⟩) (Kd.R_far (p := ⟨s, 2, none⟩) (Kd.R_far (p := ⟨s, 1, none⟩) (Kd.R_far (p := ⟨s, 0, none⟩) HO.out (fun _ hk => hk) (.string lb.f0)) (fun _ hk => hk) (.string ⟨#[]⟩)) (fun _ hk => hk) (.string lb.f2)) (fun _ hk => hk) (.bool true)) (fun _ hk => hk) (.string ⟨#[]⟩)) (fun _ hk => hk) (.string jl)) (fun _ hk => hk) (.string ⟨#[]⟩)) (fun _ hk => hk) (.string jr)) (fun _ hk => hk) (.bool false)); have HW5 := Qa.mk (Qr (j := 8) (v := (.bool false)) (Qr (j := 7) (v := (.string jr)) (Qr (j := 6) (v := (.string ⟨#[]⟩)) (Qr (j := 5) (v := (.string jl)) (Qr (j := 4) (v := (.string ⟨#[]⟩)) (Qr (j := 3) (v := (.bool true)) (Qr (j := 2) (v := (.string lb.f2)) (Qr (j := 1) (v := (.string ⟨#[]⟩)) (Qr (j := 0) (v := (.string lb.f0)) HW.out GS.out) GS.out) GS.out) GS.out) GS.out) GS.out) GS.out) GS.out) GS.out); have BS5 := Qa.mk (Qpo BS.out (.string lb.f0) (.string ⟨#[]⟩) (.string lb.f2) (.bool true) (.string ⟨#[]⟩) (.string jl) (.string ⟨#[]⟩) (.string jr) (.bool false)); clear HO HW BS HT_ HW_ y0 x0 y1 x1 y2 x2 y3 x3 y4 x4 y5 x5 y6 x6 y7 x7 y8 x8
      generalize (((((((((wj.setCell ⟨s, 0, none⟩ (.string lb.f0)).setCell ⟨s, 1, none⟩ (.string ⟨#[]⟩)).setCell ⟨s, 2, none⟩ (.string lb.f2)).setCell ⟨s, 3, none⟩ (.bool true)).setCell ⟨s, 4, none⟩ (.string ⟨#[]⟩)).setCell ⟨s, 5, none⟩ (.string jl)).setCell ⟨s, 6, none⟩ (.string ⟨#[]⟩)).setCell ⟨s, 7, none⟩ (.string jr)).setCell ⟨s, 8, none⟩ (.bool false)) = w5_ at HO5 HW5 BS5 ⊢
      have BL := Qa.mk (Qq BL3.out HW5.out); have z1 := (Qc BL.out 1).trans (show _ = some (Value.string lb.f1) from rfl)
      go_upto_if 150 with (fail)
      go_cut [] from 83 to 172 (fun W => Qa (Kd.R Kf 123 W w3.heap.size (fun k => k ≠ s) u12 l) ∧ Qa (Below w3.heap.size w3 W) ∧ Qa (W.heap[s]? = some (.cells #[.string (Kt lb style jb jl jr).f0, .string (Kt lb style jb jl jr).f1, .string (Kt lb style jb jl jr).f2, .bool (Kt lb style jb jl jr).f3, .string (Kt lb style jb jl jr).f4, .string (Kt lb style jb jl jr).f5, .string (Kt lb style jb jl jr).f6, .string (Kt lb style jb jl jr).f7, .bool (Kt lb style jb jl jr).f8] 123 (0, 0))))
      case first =>
       by_cases hp : style > 0
       ·have hp1 : decide (style > 0) = true := decide_eq_true hp
        have hp2 : decide (0 < style) = true := decide_eq_true hp; go_wp2_with fail; refine Ug (n := 10) (S := fun w' => w'.cell? ⟨f8, 1, none⟩ = some (.string lb.f1)) (ds := [9]) (bz_ 10 0) (by kernel_rfl) rfl rfl z1 (fun hHeld => ?_); refine Va Zj.tab22 Zj.bits22 (fun HT_ HW_ => ?_); replace HW5 := Qa.mk (Qi HW5.out); replace HO5 := Qa.mk (Kd.R_drew HO5.out); replace BS5 := Qa.mk (Qp BS5.out); clear BL z1
        generalize w5_.drew = w6_ at HW5 HO5 BS5 hHeld ⊢
        refine pu_ (i := 0) (N := some 151) #[true, false, false, false, false, false, false, false, false, false] ?_; refine pu_ (i := 2) (N := some 153) #[true, false, true, false, false, false, false, false, false, false] ?_; refine ta_ (i := 3) (N := some 154) #[true, false, true, true, false, false, false, false, false, false] ?_; refine pu_ (i := 4) (N := some 155) #[true, false, true, true, true, false, false, false, false, false] ?_; refine on_ (i := 1) (N := some 152) #[true, true, true, true, true, false, false, false, false, false] (fun K hK => ?_); refine Vr Try.func78 (by kernel_rfl) rfl #[.slice B1 b1.length d1] (by rfl) rfl rfl (by (try simp only [List.map_toArray, List.map_cons, List.map_nil]); first | done | rfl) ?_; refine (Zg.calls k B1 d1 b1 jb _ (HT1.out _ HW5.out) D1.out HJ.out.1).mono ?_; rintro e w7_ ⟨rfl, hD⟩; have hb := Zl.below hD; refine ⟨_, rfl, ?_⟩; replace HO5 := Qa.mk (Kd.R_below HO5.out hb); replace HW5 := Qa.mk (Qj HW5.out hb); replace BS5 := Qa.mk (Qq BS5.out hb); have hH := Qg hb hHeld; clear hb hD hHeld; refine hK.out _ _ hH (fun hHeld => ?_); clear hH; clear hK K; refine nN_ 152 ?_; have y1 := (Qc BS5.out 1).trans (show _ = some _ from rfl); have x1 := Qe BS5.out 1; have y6 := (Qc BS5.out 6).trans (show _ = some _ from rfl); have x6 := Qe BS5.out 6; have y8 := (Qc BS5.out 8).trans (show _ = some _ from rfl); have x8 := Qe BS5.out 8; have NE8 : f8 ≠ s := Nat.ne_of_lt (Nat.lt_of_lt_of_le (Zu BL3.out) GS.out); refine on_ (i := 5) (N := none) #[true, true, true, true, true, true, false, false, false, false] (fun K hK => ?_); refine Jz (w1 := ?_) (by rfl) rfl ?_ ?_; rotate_left
        ·go_simp
         rfl
        have hH := (Ze (p := ⟨s, 8, none⟩) NE8 (.bool true)).trans hHeld; clear hHeld; refine hK.out _ _ hH (fun hHeld => ?_); clear hK K hH; refine pu_ (i := 6) (N := some 156) #[true, true, true, true, true, true, true, false, false, false] ?_; refine on_ (i := 7) (N := none) #[true, true, true, true, true, true, true, true, false, false] (fun K hK => ?_); refine Jz (w1 := ?_) (by rfl) rfl ?_ ?_; rotate_left
        ·go_simp
         rfl
        have hH := (Ze (p := ⟨s, 6, none⟩) NE8 (.string jb)).trans hHeld; clear hHeld; refine hK.out _ _ hH (fun hHeld => ?_); clear hK K hH; refine pu_ (i := 8) (N := some 157) #[true, true, true, true, true, true, true, true, true, false] ?_; refine Qbb (i := 9) (N := none) (bz_ 10 1023) rfl rfl (Kx HT_.out (by kernel_rfl)) (by decide) (fun K hK => ?_); refine Jz (w1 := ?_) (by rfl) rfl ?_ ?_; rotate_left
        ·go_simp
         rfl
        refine hK.out _ _ ?_; clear hK K; refine Ki (Vq HT_.out (by kernel_rfl)) ?_; have eh : Kt lb style jb jl jr = ⟨lb.f0, lb.f1, lb.f2, true, ⟨#[]⟩, jl, jb, jr, true⟩ := if_pos hp; go_wp2_with fail
        go_meet
        case rel =>
         refine ⟨⟨(Kd.R_far (p := ⟨s, 1, none⟩) (Kd.R_far (p := ⟨s, 6, none⟩) (Kd.R_far (p := ⟨s, 8, none⟩) HO5.out (fun _ hk => hk) (.bool true)) (fun _ hk => hk) (.string jb)) (fun _ hk => hk) (.string lb.f1))⟩, ⟨(Qr (j := 1) (v := (.string lb.f1)) (Qr (j := 6) (v := (.string jb)) (Qr (j := 8) (v := (.bool true)) HW5.out GS.out) GS.out) GS.out)⟩, ⟨?_⟩⟩; rw [eh]; exact Qpn BS5.out jb lb.f1
       ·have hp1 : decide (style > 0) = false := decide_eq_false hp
        have hp2 : decide (0 < style) = false := decide_eq_false hp; have eh : Kt lb style jb jl jr = ⟨lb.f0, ⟨#[]⟩, lb.f2, true, ⟨#[]⟩, jl, ⟨#[]⟩, jr, false⟩ := if_neg hp; go_wp2_with fail
        go_meet
        case rel => exact ⟨HO5, HW5, ⟨by rw [eh]; exact BS5.out⟩⟩
      case rest =>
      clear HO5 HW5 BS5 BL z1; obtain ⟨HO5, HW5, BS5⟩ := hcut; obtain ⟨h_, eh_⟩ : ∃ h, Kt lb style jb jl jr = h := ⟨_, rfl⟩
      rw [eh_] at BS5
      have y0 := (Qc BS5.out 0).trans (show _ = some (Value.string h_.f0) from rfl); have y1 := (Qc BS5.out 1).trans (show _ = some (Value.string h_.f1) from rfl); have y2 := (Qc BS5.out 2).trans (show _ = some (Value.string h_.f2) from rfl); have y3 := (Qc BS5.out 3).trans (show _ = some (Value.bool h_.f3) from rfl); have y4 := (Qc BS5.out 4).trans (show _ = some (Value.string h_.f4) from rfl); have y5 := (Qc BS5.out 5).trans (show _ = some (Value.string h_.f5) from rfl); have y6 := (Qc BS5.out 6).trans (show _ = some (Value.string h_.f6) from rfl); have y7 := (Qc BS5.out 7).trans (show _ = some (Value.string h_.f7) from rfl); have y8 := (Qc BS5.out 8).trans (show _ = some (Value.bool h_.f8) from rfl); go_wp2_with fail; refine Ug (n := 16) (S := fun w' => w'.cell? ⟨s, 0, none⟩ = some (.string h_.f0) ∧ w'.cell? ⟨s, 1, none⟩ = some (.string h_.f1) ∧ w'.cell? ⟨s, 2, none⟩ = some (.string h_.f2) ∧ w'.cell? ⟨s, 3, none⟩ = some (.bool h_.f3) ∧ w'.cell? ⟨s, 4, none⟩ = some (.string h_.f4) ∧ w'.cell? ⟨s, 5, none⟩ = some (.string h_.f5) ∧ w'.cell? ⟨s, 6, none⟩ = some (.string h_.f6) ∧ w'.cell? ⟨s, 7, none⟩ = some (.string h_.f7) ∧ w'.cell? ⟨s, 8, none⟩ = some (.bool h_.f8)) (ds := []) (bz_ 16 0) (by kernel_rfl) rfl rfl ⟨y0, y1, y2, y3, y4, y5, y6, y7, y8⟩ (fun hHeld => ?_); refine Va Zj.tab23 Zj.bits23 (fun HT_ HW_ => ?_); replace HW5 := Qa.mk (Qi HW5.out); replace HO5 := Qa.mk (Kd.R_drew HO5.out); replace BS5 := Qa.mk (Qp BS5.out); clear y0 y1 y2 y3 y4 y5 y6 y7 y8
      generalize wc.drew = wd at HW5 HO5 BS5 hHeld ⊢
      refine pu_ (i := 0) (N := some 158) #[true, false, false, false, false, false, false, false, false, false, false, false, false, false, false, false] ?_; refine pu_ (i := 1) (N := some 159) #[true, true, false, false, false, false, false, false, false, false, false, false, false, false, false, false] ?_; refine pu_ (i := 2) (N := some 160) #[true, true, true, false, false, false, false, false, false, false, false, false, false, false, false, false] ?_; refine Km (i := 3) (N := some 161) (v := ?_) (a' := ?_) (bz_ 16 15) rfl rfl (Uj HT_.out (by kernel_rfl)) (fun _ _ _ h => h) (Or.inl ⟨by rfl, ?_⟩) ?_ ?_; rotate_left
      ·intro w'
       go_simp
       first | with_reducible rfl | exact hcut4 _ | (rw [hcut4]; rfl)
      rotate_left
      ·simp only [Act.put, sA_, sB_, sC_, Yx, Vi]
       rfl
      refine ta_ (i := 5) (N := some 163) #[true, true, true, true, false, true, false, false, false, false, false, false, false, false, false, false] ?_; refine pu_ (i := 6) (N := some 164) #[true, true, true, true, false, true, true, false, false, false, false, false, false, false, false, false] ?_; refine pu_ (i := 7) (N := some 165) #[true, true, true, true, false, true, true, true, false, false, false, false, false, false, false, false] ?_; refine pu_ (i := 8) (N := some 166) #[true, true, true, true, false, true, true, true, true, false, false, false, false, false, false, false] ?_; refine pu_ (i := 9) (N := some 167) #[true, true, true, true, false, true, true, true, true, true, false, false, false, false, false, false] ?_; refine Km (i := 10) (N := some 168) (v := ?_) (a' := ?_) (bz_ 16 2031) rfl rfl (Uj HT_.out (by kernel_rfl)) (fun _ _ _ h => h) (Or.inl ⟨by rfl, ?_⟩) ?_ ?_; rotate_left
      ·intro w'
       go_simp
       with_reducible rfl
      rotate_left
      ·simp only [Act.put, sA_, sB_, sC_, Yx, Vi, he2]
       rfl
      refine Km (i := 11) (N := some 169) (v := ?_) (a' := ?_) (bz_ 16 4079) rfl rfl (Uj HT_.out (by kernel_rfl)) (fun _ _ _ h => h) (Or.inl ⟨by rfl, ?_⟩) ?_ ?_; rotate_left
      ·intro w'
       go_simp
       first | with_reducible rfl | exact hcut5 _ | (rw [hcut5]; rfl)
      rotate_left
      ·simp only [Act.put, sA_, sB_, sC_, Yx, Vi]
       rfl
      refine on_ (i := 4) (N := some 162) #[true, true, true, true, true, true, true, true, true, true, true, true, false, false, false, false] (fun K hK => ?_); refine Vr Try.func124 (by kernel_rfl) rfl #[.slice B2 t4.length d2] (by rfl) rfl rfl (by (try simp only [List.map_toArray, List.map_cons, List.map_nil]); first | done | rfl) ?_; refine (Yh.calls k B2 d2 t4 _ _ _ _ _ _ _ _ _ _ (HT4.out _ HW5.out) HL4.out (Qar k t4 s1 HJ.out.2.2.2.1)).mono ?_; rintro e w' ⟨rfl, hb⟩; refine ⟨_, rfl, ?_⟩; replace HO5 := Qa.mk (Kd.R_below HO5.out hb); replace HW5 := Qa.mk (Qj HW5.out hb); replace BS5 := Qa.mk (Qq BS5.out hb); clear hb hHeld; refine hK.out _ _ ⟨(Qc BS5.out 0).trans (show _ = some _ from rfl), (Qc BS5.out 1).trans (show _ = some _ from rfl), (Qc BS5.out 2).trans (show _ = some _ from rfl), (Qc BS5.out 3).trans (show _ = some _ from rfl), (Qc BS5.out 4).trans (show _ = some _ from rfl), (Qc BS5.out 5).trans (show _ = some _ from rfl), (Qc BS5.out 6).trans (show _ = some _ from rfl), (Qc BS5.out 7).trans (show _ = some _ from rfl), (Qc BS5.out 8).trans (show _ = some _ from rfl)⟩ (fun hHeld => ?_); clear hK K; refine nN_ 162 ?_; refine on_ (i := 12) (N := some 170) #[true, true, true, true, true, true, true, true, true, true, true, true, true, false, false, false] (fun K hK => ?_); refine Vr Try.func124 (by kernel_rfl) rfl #[.slice P5 t5.length g5] (by rfl) rfl rfl (by (try simp only [List.map_toArray, List.map_cons, List.map_nil]); first | done | rfl) ?_; refine (Yh.calls k P5 g5 t5 _ _ _ _ _ _ _ _ _ _ (HT5.out _ HW5.out) HL5.out (Qar k t5 s3 HJ.out.2.2.2.2)).mono ?_; rintro e w' ⟨rfl, hb⟩; refine ⟨_, rfl, ?_⟩; replace HO5 := Qa.mk (Kd.R_below HO5.out hb); replace HW5 := Qa.mk (Qj HW5.out hb); replace BS5 := Qa.mk (Qq BS5.out hb); clear hb hHeld; refine hK.out _ _ ⟨(Qc BS5.out 0).trans (show _ = some _ from rfl), (Qc BS5.out 1).trans (show _ = some _ from rfl), (Qc BS5.out 2).trans (show _ = some _ from rfl), (Qc BS5.out 3).trans (show _ = some _ from rfl), (Qc BS5.out 4).trans (show _ = some _ from rfl), (Qc BS5.out 5).trans (show _ = some _ from rfl), (Qc BS5.out 6).trans (show _ = some _ from rfl), (Qc BS5.out 7).trans (show _ = some _ from rfl), (Qc BS5.out 8).trans (show _ = some _ from rfl)⟩ (fun hHeld => ?_); clear hK K; refine nN_ 170 ?_; refine on_ (i := 13) (N := some 171) #[true, true, true, true, true, true, true, true, true, true, true, true, true, true, false, false] (fun K hK => ?_); refine Kd.R_lit_step Kf _ 123 ?hg (N := 171) ?hd (xs := [rtp s1, h_, rtp s3]) (inner := [.string ⟨#[]⟩, .string ⟨#[]⟩, .string ⟨#[]⟩, .bool false, .string s1, .string ⟨#[]⟩, .string ⟨#[]⟩, .string ⟨#[]⟩, .bool false, .string h_.f0, .string h_.f1, .string h_.f2, .bool h_.f3, .string h_.f4, .string h_.f5, .string h_.f6, .string h_.f7, .bool h_.f8, .string ⟨#[]⟩, .string ⟨#[]⟩, .string ⟨#[]⟩, .bool false, .string s3, .string ⟨#[]⟩, .string ⟨#[]⟩, .string ⟨#[]⟩, .bool false]) (ok := fun _ => True) (okp := fun _ => True) ?hr ?hp (fun _ hk => hk) trivial (Below.refl _ _) (Nat.le_refl _) (by simp) ?_
      case hd => rfl
      case hg => rfl
      case hr => first | (go_simp; done) | (go_simp; rfl)
      case hp => exact Yi.c9 (Ul _ _ _ (rtp s1)) (Yi.c9 (Ul _ _ _ h_) (Yi.c9 (Ul _ _ _ (rtp s3)) (Yi.none _ _)))
      intro v1 w8_ ho1 hb hg1 hnew; obtain ⟨Q1, y1_, rfl, hl1, hC1⟩ := Kd.R_reads ho1; have HO6 := Qa.mk (Kd.R_below HO5.out hb); have HW6 := Qa.mk (Qj HW5.out hb); have BS6 := Qa.mk (Qq BS5.out hb); have HC6 := Qa.mk hC1; clear ho1 hb hg1 hnew hl1 hC1 HO5 HW5 BS5 hHeld; refine hK.out _ _ ⟨(Qc BS6.out 0).trans (show _ = some _ from rfl), (Qc BS6.out 1).trans (show _ = some _ from rfl), (Qc BS6.out 2).trans (show _ = some _ from rfl), (Qc BS6.out 3).trans (show _ = some _ from rfl), (Qc BS6.out 4).trans (show _ = some _ from rfl), (Qc BS6.out 5).trans (show _ = some _ from rfl), (Qc BS6.out 6).trans (show _ = some _ from rfl), (Qc BS6.out 7).trans (show _ = some _ from rfl), (Qc BS6.out 8).trans (show _ = some _ from rfl)⟩ (fun hHeld => ?_); clear hK K; refine nN_ 171 ?_; refine on_ (i := 14) (N := some 172) #[true, true, true, true, true, true, true, true, true, true, true, true, true, true, true, false] (fun K hK => ?_); refine Kd.R_append_rows_step Kf (Rr := Kf.K w8_) (w0 := w3) w3.heap.size (by rfl) (.tmp 158) (.tmp 171) 86 123 (.agg #[(.string ⟨#[]⟩), (.string ⟨#[]⟩), (.string ⟨#[]⟩), (.bool false), (.string ⟨#[]⟩), (.string ⟨#[]⟩), (.string ⟨#[]⟩), (.string ⟨#[]⟩), (.bool false)]) 128 rfl Try.underlying86 Jp rfl (by decide) (by decide) u12 l [rtp s1, h_, rtp s3] Q1 _ y1_ (fun _ => True) (fun _ => False) rfl rfl (Kd.R_mono HO6.out (fun _ _ => trivial)) HC6.out (fun x c h => Qog _ _ x c h) (fun _ hk => hk.elim) (fun _ _ => trivial) HW6.out (Qo HW6.out) (by have := HLL.out; simp only [List.length_cons, List.length_nil]; omega) ?_; intro v9 w9 ho hb hg hat; have HO9 := Qa.mk ho; have HB9 := Qa.mk hb; have BS9 := Qa.mk (Ym BS6.out hg (Kd.R_away HO6.out (fun _ hk => hk))); clear ho hb hg hat hHeld; refine hK.out _ _ ⟨(Qc BS9.out 0).trans (show _ = some _ from rfl), (Qc BS9.out 1).trans (show _ = some _ from rfl), (Qc BS9.out 2).trans (show _ = some _ from rfl), (Qc BS9.out 3).trans (show _ = some _ from rfl), (Qc BS9.out 4).trans (show _ = some _ from rfl), (Qc BS9.out 5).trans (show _ = some _ from rfl), (Qc BS9.out 6).trans (show _ = some _ from rfl), (Qc BS9.out 7).trans (show _ = some _ from rfl), (Qc BS9.out 8).trans (show _ = some _ from rfl)⟩ (fun hHeld => ?_); clear hK K; refine nN_ 172 ?_; refine pu_ (i := 15) (N := some 12) #[true, true, true, true, true, true, true, true, true, true, true, true, true, true, true, true] ?_; refine Ki (Vq HT_.out (by kernel_rfl)) ?_; clear hHeld HT_ HW_; go_wp2_with fail
      go_roundg k1
      case measure => omega
      case rel => exact ⟨_, i + 1, by rw [HWI.out], ⟨by have := HI.out; omega⟩, HO9, HB9, ⟨by have := HGN.out; rw [eh_] at this; exact this⟩⟩
  | zero =>
   have hil : ¬ i < cs.length := by have := HI.out; omega
   have lt1 : decide ((i : Int) < (cs.length : Int)) = false := decide_eq_false (by omega); have lt1n : decide (i < cs.length) = false := decide_eq_false hil; have hg := HG.out
   rw [List.drop_of_length_le (by omega)] at hg
   unfold rgo at hg
   obtain rfl := Option.some.inj hg; obtain ⟨Av, cv, rfl, hlv, hCv⟩ := Kd.R_reads HO.out; have HCv := Qa.mk (And.intro hlv hCv); clear hlv hCv hil hg; go_wp2_with fail; refine (Qy.calls k Av cv _ _ wr HCv.out.2 HCv.out.1 HD.out).mono ?_; rintro e w9 ⟨v0, rfl, hR, hb⟩; have HRR := Qa.mk (Kd.R_lower hR (Qo HBW.out)); have HBB := Qa.mk (Qj HBW.out hb); clear hR hb; go_wp2_with fail
   go_ret2
   exact ⟨v0, rfl, HRR.out, HBB.out⟩
end Go.Proofs.Ytadafplbgophfaa.PA
end
section
namespace Go.Proofs.Ytadafplbgophfaa.PA
open Go.RowKit Go.Proofs.YtadafplbgophfaaW.PrintWords Go.Proofs.YtadafplbgophfaaW.PrintLast Go.Proofs.YtadafplbgophfaaW.PrintMore
namespace DocT
def lab (how : Xi) : Vz := ⟨how.f0, how.f1, how.f2⟩
def Qdw (how : Xi) : Int := (if how.f8 = true then 1 else 0) + (if how.f3 = true then 2 else 0)
structure Qpe (k : Nat) (t0 t1 t2 s0 s1 s2 : ByteArray) (style : Int) (how : Xi) (fav : Int) (l0 l1 l2 : List ByteArray) (cs : List S81) (ch : List S78) (d : List Yv) (er : Int) (v w : List Xi) (n : Int) : Prop where
 h0 : Yp.f t0 = some s0
 h1 : Yp.f t1 = some s1
 h2 : Yp.f t2 = some s2
 hs : Xv.f k s0 s1 s2 = some (l0, l1, l2, cs)
 ht : Yj.f l0 l1 l2 = some (l0, l1, l2)
 hc : Zq.f k cs = some ch
 hd : Qeq k l0 l1 l2 ch style (lab how) fav = some (d, er)
 hr : Zj.f k l0 l1 l2 cs style how fav = some (w, er)
 hv : Zz.f k d = some v
 hvw : Xa.f k v w = some true
 hp : Yd.f k l0 l1 l2 ch = some n
 hq : Xg.f k l0 l1 l2 cs = some n
 hl0 : Zp.f k l0 l0 = some true
 hl1 : Zp.f k l1 l1 = some true
 he : er = 0 → Zb.f k d = some true
 hn : er = 0 → fav = 0 → Zt.f k d = some n
end DocT
end Go.Proofs.Ytadafplbgophfaa.PA
end
section
namespace Go.Proofs.Ytadafplbgophfaa.PA
open Go.RowKit Go.Proofs.YtadafplbgophfaaW.PrintWords Go.Proofs.YtadafplbgophfaaW.PrintLast Go.Proofs.YtadafplbgophfaaW.PrintMore
namespace DocT
open FavT Chk Pure.Res Pure.D7
theorem Qks : emp ⟨#[]⟩ = true := Qcd.1 (by rw [ByteArray.toList_eq])
theorem Qmz (how : Xi) (style : Int) (h0 : 0 ≤ style) (jb jl jr : ByteArray) : Yu (Kt how style jb jl jr) = Qdo (lab how) style jb jl jr := by
 unfold Kt Qdo
 by_cases h : style = 0
 ·rw [if_neg (by omega), if_pos h]; rfl
 ·rw [if_pos (by omega), if_neg h]; rfl
theorem Qdd (s : ByteArray) : Um (rtp s) = true := by
 unfold Um rtp; simp only [Qks]; rfl
theorem Qfc (s : ByteArray) : plP (rtp s) = true := rfl
theorem Qja (s : ByteArray) : szs (rtp s) = s.size := by
 have : (⟨#[]⟩ : ByteArray).size = 0 := rfl; unfold szs rtp; simp only [this]
 omega
theorem Qhe (how : Xi) (style : Int) (jb jl jr : ByteArray) : Qdg (Kt how style jb jl jr) = true ∧ Um (Kt how style jb jl jr) = false := by
 unfold Kt
 split
 ·exact ⟨by simp only [Qdg, Qks]; rfl, by simp only [Um, Bool.not_true, Bool.false_and, Bool.and_false]⟩
 ·exact ⟨by simp only [Qdg, Qks]; rfl, by simp only [Um, Bool.not_true, Bool.false_and, Bool.and_false]⟩
theorem Qpc (how : Xi) (style : Int) (jb jl jr : ByteArray) (h : plP how = true) : plP (Kt how style jb jl jr) = true := by
 unfold plP at h
 obtain ⟨h0, h1, h2⟩ : plB how.f0 = true ∧ plB how.f1 = true ∧ plB how.f2 = true := by simpa using h
 unfold Kt
 split
 ·unfold plP; simp only [h0, h1, h2]; rfl
 ·unfold plP; simp only [h0, h2]; rfl
theorem Qpv (how : Xi) (style : Int) (jb jl jr : ByteArray) (h : szs how ≤ 3000) : szs (Kt how style jb jl jr) ≤ 3000 + jb.size + jl.size + jr.size := by
 have : (⟨#[]⟩ : ByteArray).size = 0 := rfl
 unfold szs at h
 unfold Kt
 split
 ·unfold szs; simp only [this]; omega
 ·unfold szs; simp only [this]; omega
theorem Qmp {s : ByteArray} (h : Up s = true) : emp s = false := by
 unfold Up at h
 cases e : emp s
 ·rfl
 ·have h2 := Qcd.2 e
  rw [ByteArray.toList_eq] at h2
  have : s.size = 0 := by have := congrArg List.length h2; simpa using this
  rw [decide_eq_false (by omega), Bool.false_and] at h; cases h
theorem Qmf (x : ByteArray) (l : List ByteArray) : cat (x :: l) = x ++ cat l := Qij (by
 rw [Qem]
 show (Qbr (x :: l)).toArray.toList = x.data.toList ++ (Qbr l).toArray.toList
 rw [Qat])
theorem Qav (l : List ByteArray) (h : l.length ≤ 200) (hz : ∀ x ∈ l, x.size ≤ 200) : (cat l).size ≤ 40000 := by
 have := Qgi 200 l hz
 show (Qbr l).toArray.size ≤ _
 rw [List.size_toArray]; omega
theorem Qkr : ∀ (l : List ByteArray), l ≠ [] → (∀ x ∈ l, Up x = true) → (∀ x ∈ l, x.size ≤ 200) → l.length ≤ 200 → Up (cat l) = true
 | [], h, _, _, _ => absurd rfl h
 | [x], _, he, _, _ => by
  have : cat [x] = x := Qij (by show (Qbr [x]).toArray.toList = _; rw [Qat, Qcp, List.append_nil]); rw [this]; exact he x (List.mem_cons_self ..)
 | x :: y :: l, _, he, hz, hl => by
  have h1 := Qkr (y :: l) (by simp) (fun z h => he z (List.mem_cons_of_mem _ h)) (fun z h => hz z (List.mem_cons_of_mem _ h)) (by simp only [List.length_cons] at hl ⊢; omega); have h2 := Qav (y :: l) (by simp only [List.length_cons] at hl ⊢; omega) (fun z h => hz z (List.mem_cons_of_mem _ h)); have h3 := hz x (List.mem_cons_self ..); rw [Qmf, Qje x _ (Qmp h1) (by omega) (by omega)]; exact h1
theorem Qgj (l : List ByteArray) (he : ∀ x ∈ l, Up x = true) (hz : ∀ x ∈ l, x.size ≤ 200) (hl : l.length ≤ 200) (h : emp (cat l) = false) : Up (cat l) = true := by
 by_cases hn : l = []
 ·subst hn
  rw [show cat [] = ⟨#[]⟩ from rfl, Qks] at h; cases h
 ·exact Qkr l hn he hz hl
theorem Qjg : ∀ (qs r : List Xi), (∀ p ∈ qs, plP p = true ∧ (Um p = true ∨ Qdg p = true)) → (∀ p ∈ qs, Um p = true → emp p.f4 = false → Up p.f4 = true) → Qfe r → Qfe (qs ++ r)
 | [], r, _, _, h => h
 | p :: qs, r, h1, h2, h => by
  obtain ⟨a, b⟩ := h1 p (List.mem_cons_self ..); exact ⟨⟨a, b, fun c d _ => h2 p (List.mem_cons_self ..) c d⟩, Qjg qs r (fun q hq => h1 q (List.mem_cons_of_mem _ hq)) (fun q hq => h2 q (List.mem_cons_of_mem _ hq)) h⟩
theorem Qoc (a b : List ByteArray) (ha : a.length ≤ 200) (hb : b.length ≤ 200) : ∃ n m : Nat, Ev (fun k => Vd.f k a b) ((n : Int), (m : Int)) ∧ Ev (fun k => Qw.f k a b) ((n : Int), (m : Int)) ∧ n + m ≤ a.length ∧ n + m ≤ b.length ∧ ∀ i, i < n → a[i]? = b[i]? := by
 obtain ⟨n, m, h1, h2, h3⟩ := Pure.Txt.ends_int a b (by omega) (by omega); obtain ⟨p, q, h4, h5, h6⟩ := Pure.Txt.ref_int a b (by omega) (by omega); obtain ⟨rfl, rfl⟩ := Pure.Txt.ends_same h1 h2 h4 h5; refine ⟨n, m, Ev.bind h3 (Ev.now _), h6, ?_, ?_, fun i hi => ?_⟩
 ·by_cases hm : m = 0
  ·subst hm
   by_cases hn : n = 0
   ·omega
   ·have := (h1.1 (n - 1) (by omega)).1; omega
  ·have := (h2.1 (m - 1) (by omega)).1; omega
 ·by_cases hm : m = 0
  ·subst hm
   by_cases hn : n = 0
   ·omega
   ·have := (h1.1 (n - 1) (by omega)).2.1; omega
  ·have := (h2.1 (m - 1) (by omega)).2.1; omega
 ·obtain ⟨x, y, z⟩ := h1.1 i hi
  rw [List.getD_eq_getElem?_getD, List.getD_eq_getElem?_getD, List.getElem?_eq_getElem x, List.getElem?_eq_getElem y] at z
  rw [List.getElem?_eq_getElem x, List.getElem?_eq_getElem y]; exact congrArg some (Qhj.1 z)
structure Pc (how : Xi) (style fav kc : Int) (b1 b2 b3 : List ByteArray) (qs : List Xi) : Prop where
 ev : Ev (fun k => Qbz k (lab how) style fav kc b1 b2 b3) (qs.map Yu)
 rv : Ev (fun k => Qhf k how style fav kc b1 b2 b3) qs
 len : qs.length ≤ 3
 sz : Uh qs ≤ 400000
 cf : fav = 0 → Qab qs = if kc = 4 then 1 else 0
 all : ∀ p ∈ qs, plP p = true ∧ (Um p = true ∨ Qdg p = true)
 fin : (kc = 0 → ∀ x ∈ b1, Up x = true) → (kc ≠ 0 → (∀ x ∈ b2, Up x = true) ∧ (∀ x ∈ b3, Up x = true)) → ∀ p ∈ qs, Um p = true → emp p.f4 = false → Up p.f4 = true
 lst : (kc = 4 → b2 ≠ b3) → (∀ x ∈ b2.dropLast, Up x = true) → (∀ x ∈ b3.dropLast, Up x = true) → Qfe qs
theorem Qke (how : Xi) (style fav kc : Int) (b1 b2 b3 b : List ByteArray) (n1 : b.length ≤ 200) (z1 : ∀ x ∈ b, x.size ≤ 200)
  (hb : (kc = 0 → b = b1) ∧ (kc ≠ 0 → b = b2 ∨ b = b3)) (h4 : ¬ (kc = 4 ∧ fav = 0)) (hc : Qen kc fav b1 b2 b3 = b) (hr : ∀ k, Qhf k how style fav kc b1 b2 b3 = (Zg.f k b).bind fun s => some [rtp s]) :
  Pc how style fav kc b1 b2 b3 [rtp (cat b)] := by
 have hs := Qav b n1 z1; refine ⟨?_, ?_, by simp, ?_, ?_, ?_, ?_, ?_⟩
 ·refine Ev.congr (f := fun k => (Zy.f k b).bind fun s => some [Yn s]) (fun k => ?_) (Ev.bind (Ev.congr (fun k => Qip k b (by omega) z1) (Ev.now _)) (Ev.now _))
  unfold Qbz; rw [if_neg h4, hc]
 ·exact Ev.congr hr (Ev.bind (Qjr b (by omega) (fun t ht => by have := z1 t ht; omega)) (Ev.now _))
 ·rw [Jn, Qfz, Qja]; omega
 ·intro hf
  rw [if_neg (fun h => h4 ⟨h, hf⟩)]; rfl
 ·intro p hp
  rw [List.mem_singleton.1 hp]; exact ⟨Qfc _, .inl (Qdd _)⟩
 ·intro h0 h1 p hp _ he
  rw [List.mem_singleton.1 hp] at he ⊢
  refine Qgj b ?_ z1 n1 he
  by_cases hk : kc = 0
  ·rw [hb.1 hk]; exact h0 hk
  ·obtain ⟨x, y⟩ := h1 hk
   rcases hb.2 hk with e | e
   ·rw [e]; exact x
   ·rw [e]; exact y
 ·intro _ _ _
  exact ⟨⟨Qfc _, .inl (Qdd _), fun _ _ h => by cases h⟩, trivial⟩
theorem Qby {α : Type} {l : List α} {n : Nat} {x : α} (h : x ∈ l.take n) : x ∈ l := List.mem_of_mem_take h
theorem Qbx {α : Type} {l : List α} {n : Nat} {x : α} (h : x ∈ l.drop n) : x ∈ l := List.mem_of_mem_drop h
theorem Qeb {l : List ByteArray} {x : ByteArray} {i : Nat} (h : l[i]? = some x) (hd : ∀ y ∈ l.dropLast, Up y = true) (hx : Up x = false) : i + 1 = l.length := by
 obtain ⟨hl, e⟩ := List.getElem?_eq_some_iff.1 h
 by_cases hi : i + 1 = l.length
 ·exact hi
 ·exfalso
  have : x ∈ l.dropLast := by
   rw [List.dropLast_eq_take]; exact List.mem_iff_getElem?.2 ⟨i, by rw [List.getElem?_take, if_pos (by omega)]; exact h⟩
  rw [hd x this] at hx; cases hx
theorem Qlk (a b : List ByteArray) (n : Nat) (ha : n ≤ a.length) (hb : n ≤ b.length) (h : ∀ i, i < n → a[i]? = b[i]?) (hne : a ≠ b) (da : ∀ y ∈ a.dropLast, Up y = true) (db : ∀ y ∈ b.dropLast, Up y = true) : ∀ x ∈ a.take n, Up x = true := by
 intro x hx; obtain ⟨i, hi⟩ := List.mem_iff_getElem?.1 hx
 rw [List.getElem?_take] at hi
 by_cases hin : i < n
 ·rw [if_pos hin] at hi
  cases he : Up x
  ·exfalso
   have e1 := Qeb hi da he; have e2 := Qeb ((h i hin).symm.trans hi) db he; refine hne (List.ext_getElem? (fun j => ?_))
   by_cases hj : j < n
   ·exact h j hj
   ·rw [List.getElem?_eq_none (by omega), List.getElem?_eq_none (by omega)]
  ·rfl
 ·rw [if_neg hin] at hi; cases hi
theorem Qoa (how : Xi) (style : Int) (b1 b2 b3 : List ByteArray) (hs0 : 0 ≤ style) (hs2 : style ≤ 2) (hp : plP how = true) (hsz : szs how ≤ 3000)
  (n1 : b1.length ≤ 200) (n2 : b2.length ≤ 200) (n3 : b3.length ≤ 200) (z1 : ∀ x ∈ b1, x.size ≤ 200) (z2 : ∀ x ∈ b2, x.size ≤ 200) (z3 : ∀ x ∈ b3, x.size ≤ 200) :
  ∃ qs, Pc how style 0 4 b1 b2 b3 qs := by
 obtain ⟨n, m, e1, e2, h2, h3, hf⟩ : ∃ n m : Nat, Ev (fun k => if style = 2 then Vd.f k b2 b3 else some (0, 0)) ((n : Int), (m : Int)) ∧ Ev (fun k => if style = 2 then Qw.f k b2 b3 else some (0, 0)) ((n : Int), (m : Int)) ∧ n + m ≤ b2.length ∧ n + m ≤ b3.length ∧ ∀ i, i < n → b2[i]? = b3[i]? := by
  by_cases h : style = 2
  ·obtain ⟨n, m, x, y, z⟩ := Qoc b2 b3 n2 n3
   exact ⟨n, m, Ev.congr (fun k => if_pos h) x, Ev.congr (fun k => if_pos h) y, z⟩
  ·exact ⟨0, 0, Ev.congr (fun k => if_neg h) (Ev.now _), Ev.congr (fun k => if_neg h) (Ev.now _), by omega, by omega, fun i hi => by omega⟩
 have w2 : ((b2.length : Int) - (m : Int)).toNat = b2.length - m := by omega
 have w3 : ((b3.length : Int) - (m : Int)).toNat = b3.length - m := by omega
 have J : ∀ l : List ByteArray, l.length ≤ 200 → (∀ x ∈ l, x.size ≤ 200) → Ev (fun k => Zy.f k l) (cat l) ∧ Ev (fun k => Zg.f k l) (cat l) := fun l hl hz =>
  ⟨Ev.congr (fun k => Qip k l (by omega) hz) (Ev.now _), Qjr l (by omega) (fun t ht => by have := hz t ht; omega)⟩
 obtain ⟨p1, r1⟩ := J b1 n1 z1; obtain ⟨p2, r2⟩ := J ((b2.take (b2.length - m)).drop n) (by rw [List.length_drop, List.length_take]; omega) (fun x hx => z2 x (Qby (Qbx hx))); obtain ⟨p3, r3⟩ := J ((b3.take (b3.length - m)).drop n) (by rw [List.length_drop, List.length_take]; omega) (fun x hx => z3 x (Qby (Qbx hx)))
 have zt : ∀ x ∈ b2.take n, x.size ≤ 200 := fun x hx => z2 x (Qby hx)
 have lt_ : (b2.take n).length ≤ 200 := by rw [List.length_take]; omega
 have zd : ∀ x ∈ b2.drop (b2.length - m), x.size ≤ 200 := fun x hx => z2 x (Qbx hx)
 have ld : (b2.drop (b2.length - m)).length ≤ 200 := by rw [List.length_drop]; omega
 obtain ⟨p4, r4⟩ := J (b2.take n) lt_ zt; obtain ⟨p5, r5⟩ := J (b2.drop (b2.length - m)) ld zd; have s1 := Qav b1 n1 z1; have s2 := Qav ((b2.take (b2.length - m)).drop n) (by rw [List.length_drop, List.length_take]; omega) (fun x hx => z2 x (Qby (Qbx hx))); have s3 := Qav ((b3.take (b3.length - m)).drop n) (by rw [List.length_drop, List.length_take]; omega) (fun x hx => z3 x (Qby (Qbx hx))); have s4 := Qav _ lt_ zt; have s5 := Qav _ ld zd; have E4 := Qgj (b2.take n); have E5 := Qgj (b2.drop (b2.length - m)); have g : 0 ≤ (n : Int) ∧ 0 ≤ (m : Int) ∧ (n : Int) + (m : Int) ≤ (b2.length : Int) ∧ (n : Int) + (m : Int) ≤ (b3.length : Int) := ⟨by omega, by omega, by omega, by omega⟩; refine ⟨[rtp (cat (b2.take n)), Kt how style (cat b1) (cat ((b2.take (b2.length - m)).drop n)) (cat ((b3.take (b3.length - m)).drop n)), rtp (cat (b2.drop (b2.length - m)))], ?_, ?_, by simp, ?_, ?_, ?_, ?_, ?_⟩
 ·refine Ev.congr (f := fun k => (if style = 2 then Vd.f k b2 b3 else some (0, 0)).bind fun nm => Qfu k (lab how) style nm.1 nm.2 b1 b2 b3) (fun k => by unfold Qbz; rw [if_pos ⟨rfl, rfl⟩]) (Ev.bind e1 ?_)
  refine Ev.congr (f := fun k => (Zy.f k b1).bind fun jb => (Zy.f k ((b2.take (b2.length - m)).drop n)).bind fun jl => (Zy.f k ((b3.take (b3.length - m)).drop n)).bind fun jr =>
   (Zy.f k (b2.take n)).bind fun s1 => (Zy.f k (b2.drop (b2.length - m))).bind fun s3 => some [Yn s1, Qdo (lab how) style jb jl jr, Yn s3]) (fun k => ?_) ?_
  ·unfold Qfu
   rw [if_pos g, w2, w3, Int.toNat_natCast]
  ·refine Ev.bind p1 (Ev.bind p2 (Ev.bind p3 (Ev.bind p4 (Ev.bind p5 ?_))))
   rw [← Qmz how style hs0]; exact Ev.now _
 ·refine Ev.congr (f := fun k => (if style = 2 then Qw.f k b2 b3 else some (0, 0)).bind fun nm => Qkz k how style nm.1 nm.2 b1 b2 b3) (fun k => by unfold Qhf; rw [if_neg (by decide), if_neg (by simp), if_neg (by simp)]) (Ev.bind e2 ?_)
  refine Ev.congr (f := fun k => (Zg.f k b1).bind fun jb => (Zg.f k ((b2.take (b2.length - m)).drop n)).bind fun jl => (Zg.f k ((b3.take (b3.length - m)).drop n)).bind fun jr =>
   (Zg.f k (b2.take n)).bind fun s1 => (Zg.f k (b2.drop (b2.length - m))).bind fun s3 => some [rtp s1, Kt how style jb jl jr, rtp s3]) (fun k => ?_) ?_
  ·unfold Qkz
   rw [if_pos g, w2, w3, Int.toNat_natCast]
  ·exact Ev.bind r1 (Ev.bind r2 (Ev.bind r3 (Ev.bind r4 (Ev.bind r5 (Ev.now _)))))
 ·have := Qpv how style (cat b1) (cat ((b2.take (b2.length - m)).drop n)) (cat ((b3.take (b3.length - m)).drop n)) hsz
  rw [Jn, Jn, Jn, Qfz, Qja, Qja]
  omega
 ·intro _
  rw [if_pos rfl]; have : (Kt how style (cat b1) (cat ((b2.take (b2.length - m)).drop n)) (cat ((b3.take (b3.length - m)).drop n))).f3 = true := Qpj (Qhe ..).1; simp only [Qab, this, rtp]; rfl
 ·intro p hp'
  simp only [List.mem_cons, List.not_mem_nil, or_false] at hp'
  rcases hp' with rfl | rfl | rfl
  ·exact ⟨Qfc _, .inl (Qdd _)⟩
  ·exact ⟨Qpc _ _ _ _ _ hp, .inr (Qhe ..).1⟩
  ·exact ⟨Qfc _, .inl (Qdd _)⟩
 ·intro _ h1 p hp' ht he
  obtain ⟨x, y⟩ := h1 (by decide)
  simp only [List.mem_cons, List.not_mem_nil, or_false] at hp'
  rcases hp' with rfl | rfl | rfl
  ·exact E4 (fun z hz => x z (Qby hz)) zt lt_ he
  ·rw [(Qhe ..).2] at ht; cases ht
  ·exact E5 (fun z hz => x z (Qbx hz)) zd ld he
 ·intro hne d2 d3
  refine ⟨⟨Qfc _, .inl (Qdd _), fun _ he _ => E4 (Qlk b2 b3 n (by omega) (by omega) hf (hne rfl) d2 d3) zt lt_ he⟩, ⟨Qpc _ _ _ _ _ hp, .inr (Qhe ..).1, fun ht => by rw [(Qhe ..).2] at ht; cases ht⟩, ⟨Qfc _, .inl (Qdd _), fun _ _ h => by cases h⟩, trivial⟩
theorem Qne (how : Xi) (style fav kc : Int) (b1 b2 b3 : List ByteArray) (hs0 : 0 ≤ style) (hs2 : style ≤ 2) (hf : fav = 0 ∨ fav = 1 ∨ fav = 3) (hk : kc = 0 ∨ kc = 1 ∨ kc = 2 ∨ kc = 3 ∨ kc = 4) (hp : plP how = true) (hsz : szs how ≤ 3000)
  (n1 : b1.length ≤ 200) (n2 : b2.length ≤ 200) (n3 : b3.length ≤ 200) (z1 : ∀ x ∈ b1, x.size ≤ 200) (z2 : ∀ x ∈ b2, x.size ≤ 200) (z3 : ∀ x ∈ b3, x.size ≤ 200) :
  ∃ qs, Pc how style fav kc b1 b2 b3 qs := by
 by_cases h4 : kc = 4 ∧ fav = 0
 ·obtain ⟨rfl, rfl⟩ := h4
  exact Qoa how style b1 b2 b3 hs0 hs2 hp hsz n1 n2 n3 z1 z2 z3
 ·by_cases k0 : kc = 0
  ·exact ⟨_, Qke how style fav kc b1 b2 b3 b1 n1 z1 ⟨fun _ => rfl, fun h => absurd k0 h⟩ h4 (if_pos k0) (fun k => if_pos k0)⟩
  ·by_cases k1 : kc = 1 ∨ kc = 3 ∨ (kc = 4 ∧ fav = 1)
   ·exact ⟨_, Qke how style fav kc b1 b2 b3 b2 n2 z2 ⟨fun h => absurd h k0, fun _ => .inl rfl⟩ h4 ((if_neg k0).trans (if_pos k1)) (fun k => (if_neg k0).trans (if_pos k1))⟩
   ·have k2 : kc = 2 ∨ fav = 3 := by omega
    exact ⟨_, Qke how style fav kc b1 b2 b3 b3 n3 z3 ⟨fun h => absurd h k0, fun _ => .inr rfl⟩ h4 ((if_neg k0).trans (if_neg k1)) (fun k => (if_neg k0).trans ((if_neg k1).trans (if_pos k2)))⟩
def cnt (l0 l1 l2 : List ByteArray) : List S81 → Nat
 | [] => 0
 | c :: r => (if kls l0 l1 l2 c = 4 then 1 else 0) + cnt l0 l1 l2 r
theorem Qau (p : Xi) (d : List Xi) : Qab (p :: d) = (if p.f3 = true then 1 else 0) + Qab d := rfl
theorem Qaw : ∀ (a b : List Xi), Qab (a ++ b) = Qab a + Qab b
 | [], b => by rw [List.nil_append]; exact (Nat.zero_add _).symm
 | p :: a, b => by rw [List.cons_append, Qau, Qau, Qaw a b]; omega
theorem Qeo (a b : Int) (l : List ByteArray) : Zs.f a b l = [] ∨ (0 ≤ a ∧ a ≤ b ∧ b ≤ l.length ∧ Zs.f a b l = (l.take b.toNat).drop a.toNat) := by
 unfold Zs.f
 repeat' split
 all_goals first | exact .inl rfl | exact .inr ⟨by omega, by omega, by omega, rfl⟩
theorem Qnj {l : List ByteArray} {x y : Nat} {z : ByteArray} (h : z ∈ (l.take y).drop x) : ∃ i, x + i < y ∧ l[x + i]? = some z := by
 obtain ⟨i, hi⟩ := List.mem_iff_getElem?.1 h
 rw [List.getElem?_drop, List.getElem?_take] at hi
 by_cases hx : x + i < y
 ·rw [if_pos hx] at hi; exact ⟨i, hx, hi⟩
 ·rw [if_neg hx] at hi; cases hi
theorem Qmw {l : List ByteArray} {i : Nat} {x : ByteArray} (h : l[i]? = some x) (hi : i + 1 < l.length) : x ∈ l.dropLast := by
 rw [List.dropLast_eq_take]; exact List.mem_iff_getElem?.2 ⟨i, by rw [List.getElem?_take, if_pos (by omega)]; exact h⟩
theorem Qmk (a b : Int) (l : List ByteArray) : ∀ x ∈ (Zs.f a b l).dropLast, x ∈ l.dropLast := by
 intro x hx
 rcases Qeo a b l with e | ⟨h0, h1, h2, e⟩
 ·rw [e] at hx; cases hx
 ·rw [e, List.dropLast_eq_take, List.length_drop, List.length_take] at hx
  obtain ⟨i, hi⟩ := List.mem_iff_getElem?.1 hx
  rw [List.getElem?_take] at hi
  split at hi
  ·rw [List.getElem?_drop, List.getElem?_take] at hi
   split at hi
   ·exact Qmw hi (by omega)
   ·cases hi
  ·cases hi
theorem Qmj (a b : Int) (l : List ByteArray) (h : b < l.length) : ∀ x ∈ Zs.f a b l, x ∈ l.dropLast := by
 intro x hx
 rcases Qeo a b l with e | ⟨h0, h1, h2, e⟩
 ·rw [e] at hx; cases hx
 ·rw [e] at hx
  obtain ⟨i, hi, hz⟩ := Qnj hx; exact Qmw hz (by omega)
theorem Qkh (l : List ByteArray) {i : Int} (h0 : 0 ≤ i) (h : i < l.length) : l[i.toNat]? = some (Ye ByteArray.empty l i) := by
 have : i.toNat < l.length := by omega
 simp [Ye, List.getD_eq_getElem?_getD, this]
theorem Qny {st : Bool} {x y z : List ByteArray} (h : cls st x y z = 4) : y ≠ z := by
 intro e
 unfold cls at h
 rw [if_pos e] at h
 repeat' split at h
 all_goals omega
theorem Qnz (x y z : List ByteArray) : cls true x y z = 0 := if_pos rfl
theorem Qnx (x y z : List ByteArray) : cls false x y z ≠ 0 := by
 unfold cls; repeat' split
 all_goals simp_all
structure Dc (how : Xi) (style fav : Int) (l0 l1 l2 : List ByteArray) (cs : List S81) (ps : List Xi) : Prop where
 ev : ∀ acc : List Yv, acc.length + 3 * cs.length ≤ 100000 → Ev (fun k => Qhv k (lab how) style fav l0 l1 l2 (cs.map up) acc) (acc ++ ps.map Yu)
 rv : ∀ acc : List Xi, acc.length + 3 * cs.length ≤ 100000 → Ev (fun k => rgo k how style fav l0 l1 l2 cs acc) (acc ++ ps)
 len : ps.length ≤ 3 * cs.length
 sz : Uh ps ≤ cs.length * 400000
 cf : fav = 0 → Qab ps = cnt l0 l1 l2 cs
 good : Qfe ps
theorem Qpw {f g : Int → Int} {x y z o a b : Int} {cs : List S81} (h : Sw f g x y z o a b cs) (hm : ¬ Qci x y z o a b) : cs = [] := by
 cases h with
 | done => rfl
 | run _ _ _ _ _ _ h => exact absurd h hm
 | gap _ _ _ _ _ _ h => exact absurd h hm
 | last _ _ _ _ h => exact absurd h hm
section
variable {l0 l1 l2 : List ByteArray} (n0 : l0.length ≤ 200) (n1 : l1.length ≤ 200) (n2 : l2.length ≤ 200) (z0 : ∀ x ∈ l0, x.size ≤ 200) (z1 : ∀ x ∈ l1, x.size ≤ 200) (z2 : ∀ x ∈ l2, x.size ≤ 200)
include n0 n1 n2
theorem Qcu {how : Xi} {style fav : Int} {c : S81} {cs : List S81} {qs ps : List Xi}
  (hq : Pc how style fav (kls l0 l1 l2 c) (cA l0 c) (cB l1 c) (cC l2 c) qs) (hp : Dc how style fav l0 l1 l2 cs ps)
  (hg : (cs = [] ∧ Qfe qs) ∨ (∀ p ∈ qs, Um p = true → emp p.f4 = false → Up p.f4 = true)) : Dc how style fav l0 l1 l2 (c :: cs) (qs ++ ps) := by
 have hql := hq.len; have hpl := hp.len; have hqs := hq.sz; have hps := hp.sz; refine ⟨fun acc ha => ?_, fun acc ha => ?_, ?_, ?_, fun hf => ?_, ?_⟩
 ·rw [List.length_cons] at ha
  have ih := hp.ev (acc ++ qs.map Yu) (by rw [List.length_append, List.length_map]; omega)
  rw [List.append_assoc, ← List.map_append] at ih
  rw [List.map_cons]; refine Ev.congr (fun k => if_pos (by omega)) (Ev.bind (Qix n0 n1 n2 c) (Ev.congr (fun k => if_pos (Qgk _ _ _ _)) ?_)); exact Ev.bind hq.ev ih
 ·rw [List.length_cons] at ha
  have ih := hp.rv (acc ++ qs) (by rw [List.length_append]; omega)
  rw [List.append_assoc] at ih
  refine Ev.congr (fun k => if_pos (by omega)) (Ev.bind (Qic n0 n1 c) ?_); exact Ev.bind hq.rv ih
 ·rw [List.length_append, List.length_cons]; omega
 ·rw [Qas, List.length_cons]; omega
 ·rw [Qaw, hq.cf hf, hp.cf hf]; rfl
 ·rcases hg with ⟨rfl, h⟩ | h
  ·have : ps = [] := List.eq_nil_of_length_eq_zero (by simpa using hpl)
   rw [this, List.append_nil]; exact h
  ·exact Qjg qs ps hq.all h hp.good
include z0 z1 z2
theorem Qnd (how : Xi) (style fav : Int) (hs0 : 0 ≤ style) (hs2 : style ≤ 2) (hf : fav = 0 ∨ fav = 1 ∨ fav = 3) (hp : plP how = true) (hsz : szs how ≤ 3000) (c : S81) : ∃ qs, Pc how style fav (kls l0 l1 l2 c) (cA l0 c) (cB l1 c) (cC l2 c) qs := by
 have ha : (cA l0 c).length ≤ l0.length := FavT.cut_len _ _ _; have hb : (cB l1 c).length ≤ l1.length := FavT.cut_len _ _ _; have hc : (cC l2 c).length ≤ l2.length := FavT.cut_len _ _ _; exact Qne how style fav _ _ _ _ hs0 hs2 hf (Qgk _ _ _ _) hp hsz (by omega) (by omega) (by omega) (fun x hx => z0 x (Qct _ _ _ x hx)) (fun x hx => z1 x (Qct _ _ _ x hx)) (fun x hx => z2 x (Qct _ _ _ x hx))
theorem Qob {f g : Int → Int} (e0 : ∀ x ∈ l0.dropLast, Up x = true) (e1 : ∀ x ∈ l1.dropLast, Up x = true) (e2 : ∀ x ∈ l2.dropLast, Up x = true)
  (hf : ∀ o, 0 ≤ f o → 0 ≤ o ∧ o < l0.length ∧ f o < l1.length ∧ Ye ByteArray.empty l0 o = Ye ByteArray.empty l1 (f o))
  (hg : ∀ o, 0 ≤ g o → 0 ≤ o ∧ o < l0.length ∧ g o < l2.length ∧ Ye ByteArray.empty l0 o = Ye ByteArray.empty l2 (g o))
  (how : Xi) (style fav : Int) (hs0 : 0 ≤ style) (hs2 : style ≤ 2) (hfv : fav = 0 ∨ fav = 1 ∨ fav = 3) (hp : plP how = true) (hsz : szs how ≤ 3000)
  {o a b : Int} {cs : List S81} (h : Sw f g l0.length l1.length l2.length o a b cs) : ∃ ps, Dc how style fav l0 l1 l2 cs ps := by
 have PO := Qnd n0 n1 n2 z0 z1 z2 how style fav hs0 hs2 hfv hp hsz
 have L2 : ∀ c : S81, ∀ x ∈ (cB l1 c).dropLast, Up x = true := fun c x hx => e1 x (Qmk _ _ _ x hx)
 have L3 : ∀ c : S81, ∀ x ∈ (cC l2 c).dropLast, Up x = true := fun c x hx => e2 x (Qmk _ _ _ x hx)
 have nilD : Dc how style fav l0 l1 l2 [] [] := ⟨fun acc _ => by show Ev _ (acc ++ []); rw [List.append_nil]; exact Ev.now _, fun acc _ => by rw [List.append_nil]; exact Ev.now _, Nat.le_refl _, Nat.zero_le _, fun _ => rfl, trivial⟩
 induction h with
 | done o a b hp hm => exact ⟨[], nilD⟩
 | run o a b n cs hp hm hr hn h ih =>
  obtain ⟨ps, hps⟩ := ih; obtain ⟨qs, hq⟩ := PO ⟨true, ⟨o, o + n⟩, ⟨a, a + n⟩, ⟨b, b + n⟩⟩; have k0 : kls l0 l1 l2 ⟨true, ⟨o, o + n⟩, ⟨a, a + n⟩, ⟨b, b + n⟩⟩ = 0 := Qnz _ _ _
  by_cases hmm : Qci l0.length l1.length l2.length (o + n) (a + n) (b + n)
  ·refine ⟨_, Qcu n0 n1 n2 hq hps (.inr (hq.fin (fun _ x hx => ?_) (fun hk => absurd k0 hk)))⟩
   obtain ⟨o0, o1, a0, a1, b0, b1⟩ := hp; obtain ⟨p0, p1, q0, q1, r0, r1⟩ := h.pos
   rcases Qeo o (o + n) l0 with e | ⟨h0, h1, h2, e⟩
   ·rw [show cA l0 ⟨true, ⟨o, o + n⟩, ⟨a, a + n⟩, ⟨b, b + n⟩⟩ = [] from e] at hx; cases hx
   rw [show cA l0 ⟨true, ⟨o, o + n⟩, ⟨a, a + n⟩, ⟨b, b + n⟩⟩ = (l0.take (o + n).toNat).drop o.toNat from e] at hx
   obtain ⟨i, hi, hz⟩ := Qnj hx
   cases he : Up x
   ·exfalso
    have i0 := Qeb hz e0 he; obtain ⟨x1, x2, x3⟩ := hr.all (i : Int) (by omega) (by omega); obtain ⟨y1, y2, y3, y4⟩ := hf (o + i) (by omega); obtain ⟨v1, v2, v3, v4⟩ := hg (o + i) (by omega); have u0 := Qkh l0 y1 y2; have u1 := Qkh l1 (i := f (o + i)) (by omega) y3; have u2 := Qkh l2 (i := g (o + i)) (by omega) v3
    rw [show (o + (i : Int)).toNat = o.toNat + i by omega] at u0
    rw [← y4] at u1
    rw [← v4] at u2
    rw [hz] at u0
    rw [← u0] at u1 u2
    have i1 := Qeb u1 e1 he; have i2 := Qeb u2 e2 he
    rcases hmm with hh | hh | hh <;> omega
   ·rfl
  ·obtain rfl := Qpw h hmm
   exact ⟨_, Qcu n0 n1 n2 hq hps (.inl ⟨rfl, hq.lst (fun hk => by rw [k0] at hk; cases hk) (L2 _) (L3 _)⟩)⟩
 | gap o a b t cs hp hm hr hn ht h ih =>
  obtain ⟨ps, hps⟩ := ih; obtain ⟨qs, hq⟩ := PO ⟨false, ⟨o, t⟩, ⟨a, f t⟩, ⟨b, g t⟩⟩; have k0 : kls l0 l1 l2 ⟨false, ⟨o, t⟩, ⟨a, f t⟩, ⟨b, g t⟩⟩ ≠ 0 := Qnx _ _ _; obtain ⟨o0, o1, a0, a1, b0, b1⟩ := hp; obtain ⟨w1, w2⟩ := hn.stop ht; have hf3 := (hf t (by omega)).2.2.1; have hg3 := (hg t (by omega)).2.2.1; exact ⟨_, Qcu n0 n1 n2 hq hps (.inr (hq.fin (fun hk => absurd hk k0) (fun _ => ⟨fun x hx => e1 x (Qmj _ _ _ hf3 x hx), fun x hx => e2 x (Qmj _ _ _ hg3 x hx)⟩)))⟩
 | last o a b hp hm hr hn =>
  obtain ⟨qs, hq⟩ := PO ⟨false, ⟨o, l0.length⟩, ⟨a, l1.length⟩, ⟨b, l2.length⟩⟩; exact ⟨_, Qcu n0 n1 n2 hq nilD (.inl ⟨rfl, hq.lst (fun hk => Qny hk) (L2 _) (L3 _)⟩)⟩
omit z0 z1 z2 n2
theorem Qey : ∀ (cs : List S81) (n : Nat), n + cs.length ≤ 100000 → Ev (fun k => Xg.g k l0 l1 l2 cs (n : Int)) ((n + cnt l0 l1 l2 cs : Nat) : Int)
 | [], n, _ => Ev.now _
 | c :: cs, n, h => by
  rw [List.length_cons] at h
  refine Ev.bind (Qic n0 n1 c) ?_; unfold cnt
  by_cases h4 : kls l0 l1 l2 c = 4
  ·refine Ev.congr (f := fun k => Xg.g k l0 l1 l2 cs ((n + 1 : Nat) : Int)) (fun k => by rw [if_pos h4, Qjt (by omega)]) ?_
   rw [if_pos h4, ← Nat.add_assoc]; exact Qey cs (n + 1) (by omega)
  ·refine Ev.congr (f := fun k => Xg.g k l0 l1 l2 cs (n : Int)) (fun k => by rw [if_neg h4]) ?_
   rw [if_neg h4, Nat.zero_add]; exact Qey cs n (by omega)
include n2
theorem Qlw (cs : List S81) (hc : cs.length ≤ 10000) : ∀ (m i n : Nat), cs.length - i ≤ m → i ≤ cs.length → n ≤ i → Ev (fun k => Yd.l0 k (n : Int) (cs.map FavT.up) ((cs.map FavT.up).length : Int) (i : Int) l0 l1 l2) ((n + cnt l0 l1 l2 (cs.drop i) : Nat) : Int) := by
 have hx : (cs.map FavT.up).length = cs.length := List.length_map _; intro m
 induction m with
 | zero =>
  intro i n h1 h2 h3; refine Ev.step (f := fun _ => some (n : Int)) (fun k => ?_) ?_
  ·simp only [Yd.l0]; rw [if_neg (by omega)]
  ·rw [List.drop_of_length_le (by omega)]; exact Ev.now _
 | succ m ih =>
  intro i n h1 h2 h3
  by_cases hi : i < cs.length
  ·have e : Xm (cs.map FavT.up) (i : Int) = FavT.up cs[i] := by simp [Xm, List.getD_eq_getElem?_getD, hi]
   have ih1 := fun n => ih (i + 1) n (by omega) (by omega)
   rw [List.drop_eq_getElem_cons hi]
   generalize cs[i] = c at e
   unfold cnt
   have st : ∀ {r}, Ev (fun k => if kls l0 l1 l2 c = 4 then Yd.l0 k ((n + 1 : Nat) : Int) (cs.map FavT.up) ((cs.map FavT.up).length : Int) ((i + 1 : Nat) : Int) l0 l1 l2 else Yd.l0 k (n : Int) (cs.map FavT.up) ((cs.map FavT.up).length : Int) ((i + 1 : Nat) : Int) l0 l1 l2) r → Ev (fun k => Yd.l0 k (n : Int) (cs.map FavT.up) ((cs.map FavT.up).length : Int) (i : Int) l0 l1 l2) r := by
    intro r hr; refine Ev.step (f := fun k => (Xn.f k l0 l1 l2 (FavT.up c).f0 (FavT.up c).f1.f0 (FavT.up c).f1.f1 (FavT.up c).f2.f0 (FavT.up c).f2.f1 (FavT.up c).f3.f0 (FavT.up c).f3.f1).bind fun t => if t.2.2.2.2.2.2.2.2.2.2 = 4 then Yd.l0 k ((n + 1 : Nat) : Int) (cs.map FavT.up) ((cs.map FavT.up).length : Int) ((i + 1 : Nat) : Int) l0 l1 l2 else Yd.l0 k (n : Int) (cs.map FavT.up) ((cs.map FavT.up).length : Int) ((i + 1 : Nat) : Int) l0 l1 l2) (fun k => ?_) (Ev.bind (Qix n0 n1 n2 c) hr); simp only [Yd.l0]; rw [if_pos (by omega), if_pos (by omega), if_pos (by omega), e, Qjt (i := i) (by omega), Qjt (i := n) (by omega)]
   by_cases h4 : kls l0 l1 l2 c = 4
   ·rw [if_pos h4, ← Nat.add_assoc]
    exact st (Ev.congr (fun k => if_pos h4) (ih1 (n + 1) (by omega)))
   ·rw [if_neg h4, Nat.zero_add]
    exact st (Ev.congr (fun k => if_neg h4) (ih1 n (by omega)))
  ·refine Ev.step (f := fun _ => some (n : Int)) (fun k => ?_) ?_
   ·simp only [Yd.l0]; rw [if_neg (by omega)]
   ·rw [List.drop_of_length_le (by omega)]; exact Ev.now _
theorem Qlx (cs : List S81) (hc : cs.length ≤ 10000) : Ev (fun k => Yd.f k l0 l1 l2 (cs.map FavT.up)) (cnt l0 l1 l2 cs : Int) := by
 have := Qlw n0 n1 n2 cs hc cs.length 0 0 (by omega) (by omega) (by omega)
 rw [List.drop_zero, Nat.zero_add] at this
 exact this
end
theorem Qli (acc : List Xi) (p : Xi) : Qab (Kw acc p) = Qab acc + (if p.f3 = true then 1 else 0) := by
 have one : Qab [p] = if p.f3 = true then 1 else 0 := by rw [Qau]; exact Nat.add_zero _
 unfold Kw
 split
 ·rename_i h
  have : Um p = true := by cases e : Um p with | true => rfl | false => rw [e] at h; simp at h
  rw [if_neg (by rw [Qjb this]; decide), Nat.add_zero]
 ·split
  ·rename_i ht
   split
   ·rename_i q hq
    split
    ·rename_i hqt
     have e := Qbc hq
     have : Qab acc = Qab acc.dropLast + Qab [q] := by
      conv => lhs; rw [e]
      exact Qaw _ _
     have cq : Qab [q] = 0 := by rw [Qau, show Qab [] = 0 from rfl, if_neg (by rw [Qjb hqt]; decide)]
     have cm : Qab [Qcj q p.f4] = 0 := by rw [Qau, show Qab [] = 0 from rfl, if_neg (by show ¬ q.f3 = true; rw [Qjb hqt]; decide)]
     rw [Qaw, this, cq, cm, if_neg (by rw [Qjb ht]; decide)]
    ·rw [Qaw, one]
   ·rw [Qaw, one]
  ·rw [Qaw, one]
theorem Qjc : ∀ (l acc : List Xi), Qab (ofS acc l) = Qab acc + Qab l
 | [], acc => rfl
 | p :: l, acc => by
  unfold ofS; rw [Qjc l, Qli]; rw [Qau]; omega
theorem Qmm (t0 t1 t2 : ByteArray) (style : Int) (how : Xi) (fav : Int) (hsz : szs how ≤ 3000) : ∃ k s0 s1 s2 l0 l1 l2 cs ch d er v w n, Qpe k t0 t1 t2 s0 s1 s2 style how fav l0 l1 l2 cs ch d er v w n := by
 obtain ⟨s0, e0, z0⟩ := Qhg t0; obtain ⟨s1, e1, z1⟩ := Qhg t1; obtain ⟨s2, e2, z2⟩ := Qhg t2; obtain ⟨l0, l1, l2, cs, f, g, F⟩ := Qkl s0 s1 s2 z0 z1 z2; have hz := hsz
 unfold szs at hz
 have hnc := F.nc
 obtain ⟨w, er, D1, D2, hwl, D3, D4⟩ : ∃ (w : List Xi) (er : Int), Ev (fun k => Qeq k l0 l1 l2 (cs.map up) style (lab how) fav) (w.map Yu, er) ∧ Ev (fun k => Zj.f k l0 l1 l2 cs style how fav) (w, er) ∧ w.length ≤ 10000 ∧
   (er = 0 → Ev (fun k => Zb.f k (w.map Yu)) true) ∧ (er = 0 → fav = 0 → Ev (fun k => Zt.f k (w.map Yu)) (cnt l0 l1 l2 cs : Int)) := by
  by_cases hbad : Ud style fav = true
  ·exact ⟨[], 5, Ev.congr (fun k => if_pos hbad) (Ev.now _), Ev.congr (fun k => if_pos hbad) (Ev.now _), Nat.zero_le _, fun h => absurd h (by decide), fun h => absurd h (by decide)⟩
  ·have hok : ¬ (style < 0 ∨ 2 < style ∨ (fav ≠ 0 ∧ fav ≠ 1 ∧ fav ≠ 3)) := fun h => hbad (decide_eq_true h)
   have P1 := Qhu how (by omega) (by omega) (by omega); have P2 := Qmc how (by omega) (by omega) (by omega)
   by_cases hpl : plP how = true
   ·obtain ⟨ps, H⟩ := Qob F.n0 F.n1 F.n2 F.z0 F.z1 F.z2 F.e0 F.e1 F.e2 F.hf F.hg how style fav (by omega) (by omega) (by omega) hpl hsz F.sw
    have hl := H.len; have ht := H.sz; have E1 := H.ev [] (by simp only [List.length_nil]; omega); have E2 := H.rv [] (by simp only [List.length_nil]; omega)
    rw [List.nil_append] at E1 E2
    have hol := Qoj ps []; have hot := Qok ps []
    rw [Qfz] at hot
    simp only [List.length_nil] at hol
    rw [hpl] at P1 P2
    refine ⟨ofS [] ps, 0, ?_, ?_, by omega, fun _ => ?_, fun _ h0 => ?_⟩
    ·refine Ev.congr (fun k => if_neg hbad) (Ev.bind P1 (Ev.congr (fun k => if_neg (by decide)) ?_))
     exact Ev.bind E1 (Ev.bind (Qps ps (by omega) (by omega)) (Ev.now _))
    ·refine Ev.congr (fun k => if_neg hbad) (Ev.bind P2 (Ev.congr (fun k => if_neg (by decide)) ?_))
     exact Ev.bind E2 (Ev.bind (Qpu ps (by omega) (by omega)) (Ev.now _))
    ·have R := Qhr (ofS [] ps) (by omega) (fun p hp => Nat.le_trans (Qot p hp) (by omega))
     have := (Qly _ false).2 (Qlt ps [] H.good trivial (by rw [Qfz]; omega))
     rw [this] at R
     exact R
    ·have R := Qnc (ofS [] ps) (by omega)
     rw [Qjc, H.cf h0] at R
     simpa [Qab] using R
   ·have hpf : plP how = false := by simpa using hpl
    rw [hpf] at P1 P2
    refine ⟨[], 3, ?_, ?_, Nat.zero_le _, fun h => absurd h (by decide), fun h => absurd h (by decide)⟩
    ·exact Ev.congr (fun k => if_neg hbad) (Ev.bind P1 (Ev.congr (fun k => if_pos rfl) (Ev.now _)))
    ·exact Ev.congr (fun k => if_neg hbad) (Ev.bind P2 (Ev.congr (fun k => if_pos rfl) (Ev.now _)))
 have D5 := Qnt (w.map Yu) (by rw [List.length_map]; omega)
 rw [Qoe] at D5
 have D6 := Qnv w (by omega); have D7 := Qlx F.n0 F.n1 F.n2 cs (by omega); have D8 := Qey F.n0 F.n1 (l2 := l2) cs 0 (by omega)
 rw [Nat.zero_add] at D8
 have D9 := Qef l0 l0 (by have := F.n0; omega); have D10 := Qef l1 l1 (by have := F.n1; omega)
 rw [decide_eq_true rfl] at D9 D10
 obtain ⟨K1, k1⟩ := F.some; obtain ⟨K2, k2⟩ := Qlf cs (by omega); obtain ⟨K3, k3⟩ := D1; obtain ⟨K4, k4⟩ := D2; obtain ⟨K5, k5⟩ := D5; obtain ⟨K6, k6⟩ := D6; obtain ⟨K7, k7⟩ := D7; obtain ⟨K8, k8⟩ := D8; obtain ⟨K9, k9⟩ := D9; obtain ⟨K10, k10⟩ := D10
 obtain ⟨K11, k11⟩ : ∃ K, ∀ k, K ≤ k → er = 0 → Zb.f k (w.map Yu) = some true := by
  by_cases h : er = 0
  ·obtain ⟨K, hK⟩ := D3 h; exact ⟨K, fun k hk _ => hK k hk⟩
  ·exact ⟨0, fun _ _ h' => absurd h' h⟩
 obtain ⟨K12, k12⟩ : ∃ K, ∀ k, K ≤ k → er = 0 → fav = 0 → Zt.f k (w.map Yu) = some (cnt l0 l1 l2 cs : Int) := by
  by_cases h : er = 0 ∧ fav = 0
  ·obtain ⟨K, hK⟩ := D4 h.1 h.2; exact ⟨K, fun k hk _ _ => hK k hk⟩
  ·exact ⟨0, fun _ _ h' h'' => absurd ⟨h', h''⟩ h⟩
 refine ⟨K1 + K2 + K3 + K4 + K5 + K6 + K7 + K8 + K9 + K10 + K11 + K12, s0, s1, s2, l0, l1, l2, cs, cs.map up, w.map Yu, er, w, w, (cnt l0 l1 l2 cs : Int), ?_⟩; exact ⟨e0, e1, e2, k1 _ (by omega), FavT.to_ok l0 l1 l2 F.n0 F.n1 F.n2, k2 _ (by omega), k3 _ (by omega), k4 _ (by omega), k5 _ (by omega), k6 _ (by omega), k7 _ (by omega), k8 _ (by omega), k9 _ (by omega), k10 _ (by omega), k11 _ (by omega), k12 _ (by omega)⟩
end DocT
end Go.Proofs.Ytadafplbgophfaa.PA
end
section
namespace Go.Proofs.Ytadafplbgophfaa.PA
open Go.RowKit
namespace T58g
def a : ByteArray := ⟨#[97, 10]⟩
def x : ByteArray := ⟨#[120, 10]⟩
def y : ByteArray := ⟨#[121, 10]⟩
def z : ByteArray := ⟨#[122, 10]⟩
def cs : List S81 := [⟨false, ⟨0, 1⟩, ⟨0, 2⟩, ⟨0, 2⟩⟩]
def ch : List S78 := [⟨false, ⟨0, 1⟩, ⟨0, 2⟩, ⟨0, 2⟩⟩]
def e : ByteArray := ⟨#[]⟩
def d : List Yv := [⟨⟨e, e, e⟩, false, x, e, e, e, false⟩, ⟨⟨⟨#[111]⟩, e, e⟩, true, e, y, a, z, true⟩]
theorem Qfy : Xv.f 40 ⟨#[97, 10]⟩ ⟨#[120, 10, 121, 10]⟩ ⟨#[120, 10, 122, 10]⟩ = some ([a], [x, y], [x, z], cs) := by kernel_rfl
theorem to_ok : Yj.f [a] [x, y] [x, z] = some ([a], [x, y], [x, z]) := by kernel_rfl
theorem Qlg : Zq.f 40 cs = some ch := by kernel_rfl
theorem Qpk : Qeq 40 [a] [x, y] [x, z] ch 2 ⟨⟨#[111]⟩, ⟨#[]⟩, ⟨#[]⟩⟩ 0 = some (d, 0) := by kernel_rfl
theorem Qmi : Yd.f 40 [a] [x, y] [x, z] ch = some 1 := by kernel_rfl
theorem facts : ∃ (l0 l1 l2 : List ByteArray) (cs : List S81) (ch : List S78) (d : List Yv), Xv.f 40 ⟨#[97, 10]⟩ ⟨#[120, 10, 121, 10]⟩ ⟨#[120, 10, 122, 10]⟩ = some (l0, l1, l2, cs) ∧ Yj.f l0 l1 l2 = some (l0, l1, l2) ∧ Zq.f 40 cs = some ch ∧ Qeq 40 l0 l1 l2 ch 2 ⟨⟨#[111]⟩, ⟨#[]⟩, ⟨#[]⟩⟩ 0 = some (d, 0) ∧ Yd.f 40 l0 l1 l2 ch = some 1 ∧
  d.length = 2 ∧ (Qb d 0).f2 = ⟨#[120, 10]⟩ ∧ (Qb d 1).f1 = true ∧ (Qb d 1).f3 = ⟨#[121, 10]⟩ ∧ (Qb d 1).f5 = ⟨#[122, 10]⟩ ∧ (Qb d 1).f4 = ⟨#[97, 10]⟩ ∧ (Qb d 1).f0.f0 = ⟨#[111]⟩ :=
 ⟨_, _, _, _, _, _, Qfy, to_ok, Qlg, Qpk, Qmi, rfl, rfl, rfl, rfl, rfl, rfl, rfl⟩
end T58g
end Go.Proofs.Ytadafplbgophfaa.PA
end
section
namespace Go.Proofs.Ytadafplbgophfaa.PA
open Go.RowKit Go.Proofs.YtadafplbgophfaaW.PrintWords Go.Proofs.YtadafplbgophfaaW.PrintLast Go.Proofs.YtadafplbgophfaaW.PrintMore
set_option maxHeartbeats 8000000 in
set_option maxRecDepth 100000 in
theorem Qap.all (w : World) : Calls Try.prog 58 #[] w fun e w' => e = .returned (.bool true) ∧ Below w.heap.size w w' := by
 obtain ⟨l0, l1, l2, cs, ch, d, h1, h2, h3, h4, h5, hd, g0, g1, g2, g3, g4, g5⟩ := T58g.facts; have F1 := Qa.mk h1; have F2 := Qa.mk h2; have F3 := Qa.mk h3; have F4 := Qa.mk h4; have F5 := Qa.mk h5; have FD := Qa.mk (And.intro hd (And.intro g0 (And.intro g1 (And.intro g2 (And.intro g3 (And.intro g4 g5)))))); clear h1 h2 h3 h4 h5 hd g0 g1 g2 g3 g4 g5; have hu107 := Try.underlying107; have hu116 := Try.underlying116; have hu120 := Try.underlying120
 go_enter Try.func58, Try.ntmps58
 go_wp2_with fail; refine (Xv.calls 40 _ _ _ l0 l1 l2 cs w F1.out).mono ?_; rintro e w1 ⟨A0, A1, A2, A3, c0, c1, c2, c3, rfl, ⟨hC0, hL0⟩, ⟨hC1, hL1⟩, ⟨hC2, hL2⟩, ⟨hC3, hL3⟩, hB⟩; have HA0 := Qa.mk hC0; have HA1 := Qa.mk hC1; have HA2 := Qa.mk hC2; have HA3 := Qa.mk hC3; have LA0 := Qa.mk hL0; have LA1 := Qa.mk hL1; have LA2 := Qa.mk hL2; have LA3 := Qa.mk hL3; have HB := Qa.mk hB; clear hC0 hC1 hC2 hC3 hL0 hL1 hL2 hL3 hB; go_wp2_with (first | ((with_reducible refine Zd (N := 1) rfl ?_); refine Zc ?hg (N := 1) ?hd (cs := #[.slice none 0 0, .slice none 0 0, .slice none 0 0]) (t := 107) ?hr ?_; (case hd => rfl); (case hg => rfl); (case hr => first | (go_simp; done) | (go_simp; rfl)); intro f1 hg w2 hbox hb; have B1 := Qa.mk hbox; have HB12 := Qa.mk hb; have GE1 := Qa.mk ((by rw [hg]; exact Qo HB.out) : w.heap.size ≤ f1); have GE12 := Qa.mk (Nat.le_of_eq hg.symm : w1.heap.size ≤ f1); replace HB := Qa.mk (Qj HB.out hb); have y0 := (Qc hbox 0).trans (show _ = some (Value.slice none 0 0) from rfl); have y1 := (Qc hbox 1).trans (show _ = some (Value.slice none 0 0) from rfl); have y2 := (Qc hbox 2).trans (show _ = some (Value.slice none 0 0) from rfl); obtain ⟨x0, x1, x2⟩ := Qll hbox; clear hg hbox hb)); have hb13 := Qcb HB12.out GE12.out (.slice A0 l0.length c0) (.slice A1 l1.length c1) (.slice A2 l2.length c2); replace HA0 := Qa.mk (Kd.C_below HA0.out hb13); replace HA1 := Qa.mk (Kd.C_below HA1.out hb13); replace HA2 := Qa.mk (Kd.C_below HA2.out hb13); replace HA3 := Qa.mk (Kd.C_below HA3.out hb13); replace B1 := Qa.mk (Qcv B1.out (.slice A0 l0.length c0) (.slice A1 l1.length c1) (.slice A2 l2.length c2)); replace HB := Qa.mk (Qcb HB.out GE1.out (.slice A0 l0.length c0) (.slice A1 l1.length c1) (.slice A2 l2.length c2)); clear hb13 HB12 GE12 GE1 y0 y1 y2 x0 x1 x2
 generalize (((w2.setCell ⟨f1, 0, none⟩ (.slice A0 l0.length c0)).setCell ⟨f1, 1, none⟩ (.slice A1 l1.length c1)).setCell ⟨f1, 2, none⟩ (.slice A2 l2.length c2)) = w3 at HA0 HA1 HA2 HA3 B1 HB ⊢
 refine (Yj.calls A0 c0 l0 A1 c1 l1 A2 c2 l2 l0 l1 l2 _ HA0.out LA0.out HA1.out LA1.out HA2.out LA2.out F2.out).mono ?_; rintro e w4 ⟨v0, v1, v2, rfl, hR0, hR1, hR2, hb⟩; obtain ⟨X0, Xc0, rfl, hc, hC⟩ := Kd.R_reads hR0; have HX0 := Qa.mk hC; have LX0 := Qa.mk hc; clear hc hC; obtain ⟨X1, Xc1, rfl, hc, hC⟩ := Kd.R_reads hR1; have HX1 := Qa.mk hC; have LX1 := Qa.mk hc; clear hc hC; obtain ⟨X2, Xc2, rfl, hc, hC⟩ := Kd.R_reads hR2; have HX2 := Qa.mk hC; have LX2 := Qa.mk hc; clear hc hC; replace HA0 := Qa.mk (Kd.C_below HA0.out hb); replace HA1 := Qa.mk (Kd.C_below HA1.out hb); replace HA2 := Qa.mk (Kd.C_below HA2.out hb); replace HA3 := Qa.mk (Kd.C_below HA3.out hb); replace B1 := Qa.mk (Qq B1.out hb); replace HB := Qa.mk (Qj HB.out hb); clear hR0 hR1 hR2 hb; go_wp2_with fail; refine (Zq.calls 40 A3 c3 cs ch _ HA3.out LA3.out F3.out).mono ?_; rintro e w5 ⟨v0, rfl, hR, hb⟩; obtain ⟨Y, Yc, rfl, hc, hC⟩ := Kd.R_reads hR; have HY := Qa.mk hC; have LY := Qa.mk hc; replace HA0 := Qa.mk (Kd.C_below HA0.out hb); replace HA1 := Qa.mk (Kd.C_below HA1.out hb); replace HA2 := Qa.mk (Kd.C_below HA2.out hb); replace HA3 := Qa.mk (Kd.C_below HA3.out hb); replace HX0 := Qa.mk (Kd.C_below HX0.out hb); replace HX1 := Qa.mk (Kd.C_below HX1.out hb); replace HX2 := Qa.mk (Kd.C_below HX2.out hb); replace B1 := Qa.mk (Qq B1.out hb); replace HB := Qa.mk (Qj HB.out hb); clear hR hb hc hC; go_wp2_with fail; refine (Uv.all 40 X0 Xc0 l0 X1 Xc1 l1 X2 Xc2 l2 Y Yc ch 2 ⟨⟨#[111]⟩, ⟨#[]⟩, ⟨#[]⟩⟩ 0 d 0 _ HX0.out LX0.out HX1.out LX1.out HX2.out LX2.out HY.out LY.out F4.out).mono ?_; rintro e w6 ⟨v0, rfl, hR, hb⟩; obtain ⟨D, Dc, rfl, hc, hC⟩ := Kd.R_reads hR; replace HA0 := Qa.mk (Kd.C_below HA0.out hb); replace HA1 := Qa.mk (Kd.C_below HA1.out hb); replace HA2 := Qa.mk (Kd.C_below HA2.out hb); replace HA3 := Qa.mk (Kd.C_below HA3.out hb); replace HX0 := Qa.mk (Kd.C_below HX0.out hb); replace HX1 := Qa.mk (Kd.C_below HX1.out hb); replace HX2 := Qa.mk (Kd.C_below HX2.out hb); replace HY := Qa.mk (Kd.C_below HY.out hb); replace B1 := Qa.mk (Qq B1.out hb); replace HB := Qa.mk (Qj HB.out hb); clear hR hb hc; obtain ⟨hd, g0, g1, g2, g3, g4, g5⟩ := FD.out; obtain ⟨ad, ea, u0, u1, u2, u3, u4, u5, u6, u7, u8⟩ := Ky hC 0 (Int.le_refl _) (by omega)
 cases ea; obtain ⟨ad', ea, z0, z1, z2, z3, z4, z5, z6, z7, z8⟩ := Ky hC 1 (by decide) (by omega)
 cases ea
 have e0 : ad.add ((0 : Int).toNat * 9) = ad := by simp [Addr.add]
 rw [e0, g0] at u4
 clear u0 u1 u2 u3 u5 u6 u7 u8 z1 z2 z4 z8 e0 hC
 rw [g5] at z0
 rw [g1] at z3
 rw [g2] at z5
 rw [g4] at z6
 rw [g3] at z7
 rw [hd]; clear hd g0 g1 g2 g3 g4 g5; have e1 : (1 : Int).toNat * 9 = 9 := rfl
 rw [e1] at z0 z3 z5 z6 z7
 clear e1
 replace z0 : w6.cell? ⟨ad.block, ad.off + 9, none⟩ = some (.string ⟨#[111]⟩) := by simpa [Addr.add] using z0
 replace z3 : w6.cell? ⟨ad.block, ad.off + 9 + 3, none⟩ = some (.bool true) := by simpa [Addr.add] using z3
 replace z5 : w6.cell? ⟨ad.block, ad.off + 9 + 5, none⟩ = some (.string ⟨#[121, 10]⟩) := by simpa [Addr.add] using z5
 replace z6 : w6.cell? ⟨ad.block, ad.off + 9 + 6, none⟩ = some (.string ⟨#[97, 10]⟩) := by simpa [Addr.add] using z6
 replace z7 : w6.cell? ⟨ad.block, ad.off + 9 + 7, none⟩ = some (.string ⟨#[122, 10]⟩) := by simpa [Addr.add] using z7
 have p0 := (Qc B1.out 0).trans (show _ = some (Value.slice A0 l0.length c0) from rfl); have p1 := (Qc B1.out 1).trans (show _ = some (Value.slice A1 l1.length c1) from rfl); have p2 := (Qc B1.out 2).trans (show _ = some (Value.slice A2 l2.length c2) from rfl); go_wp2_with fail; refine (Yj.calls A0 c0 l0 A1 c1 l1 A2 c2 l2 l0 l1 l2 _ HA0.out LA0.out HA1.out LA1.out HA2.out LA2.out F2.out).mono ?_; rintro e w7 ⟨v0, v1, v2, rfl, hR0, hR1, hR2, hb⟩; obtain ⟨Z0, Zc0, rfl, hc, hC⟩ := Kd.R_reads hR0; have HZ0 := Qa.mk hC; have LZ0 := Qa.mk hc; clear hc hC; obtain ⟨Z1, Zc1, rfl, hc, hC⟩ := Kd.R_reads hR1; have HZ1 := Qa.mk hC; have LZ1 := Qa.mk hc; clear hc hC; obtain ⟨Z2, Zc2, rfl, hc, hC⟩ := Kd.R_reads hR2; have HZ2 := Qa.mk hC; have LZ2 := Qa.mk hc; clear hc hC; replace HA0 := Qa.mk (Kd.C_below HA0.out hb); replace HA1 := Qa.mk (Kd.C_below HA1.out hb); replace HA2 := Qa.mk (Kd.C_below HA2.out hb); replace HA3 := Qa.mk (Kd.C_below HA3.out hb); replace HX0 := Qa.mk (Kd.C_below HX0.out hb); replace HX1 := Qa.mk (Kd.C_below HX1.out hb); replace HX2 := Qa.mk (Kd.C_below HX2.out hb); replace HY := Qa.mk (Kd.C_below HY.out hb); replace B1 := Qa.mk (Qq B1.out hb); replace HB := Qa.mk (Qj HB.out hb); clear hR0 hR1 hR2 hb; clear u4 z0 z3 z5 z6 z7 p0 p1 p2; go_wp2_with fail; refine (Zq.calls 40 A3 c3 cs ch _ HA3.out LA3.out F3.out).mono ?_; rintro e w8 ⟨v0, rfl, hR, hb⟩; obtain ⟨V, Vc, rfl, hc, hC⟩ := Kd.R_reads hR; have HV := Qa.mk hC; have LV := Qa.mk hc; replace HA0 := Qa.mk (Kd.C_below HA0.out hb); replace HA1 := Qa.mk (Kd.C_below HA1.out hb); replace HA2 := Qa.mk (Kd.C_below HA2.out hb); replace HA3 := Qa.mk (Kd.C_below HA3.out hb); replace HX0 := Qa.mk (Kd.C_below HX0.out hb); replace HX1 := Qa.mk (Kd.C_below HX1.out hb); replace HX2 := Qa.mk (Kd.C_below HX2.out hb); replace HY := Qa.mk (Kd.C_below HY.out hb); replace HZ0 := Qa.mk (Kd.C_below HZ0.out hb); replace HZ1 := Qa.mk (Kd.C_below HZ1.out hb); replace HZ2 := Qa.mk (Kd.C_below HZ2.out hb); replace B1 := Qa.mk (Qq B1.out hb); replace HB := Qa.mk (Qj HB.out hb); clear hR hb hc hC; go_wp2_with fail; refine (Yd.calls 40 Z0 Zc0 l0 Z1 Zc1 l1 Z2 Zc2 l2 V Vc ch 1 _ HZ0.out LZ0.out HZ1.out LZ1.out HZ2.out LZ2.out HV.out LV.out F5.out).mono ?_; rintro e w9 ⟨rfl, hb⟩; replace HA0 := Qa.mk (Kd.C_below HA0.out hb); replace HA1 := Qa.mk (Kd.C_below HA1.out hb); replace HA2 := Qa.mk (Kd.C_below HA2.out hb); replace HA3 := Qa.mk (Kd.C_below HA3.out hb); replace HX0 := Qa.mk (Kd.C_below HX0.out hb); replace HX1 := Qa.mk (Kd.C_below HX1.out hb); replace HX2 := Qa.mk (Kd.C_below HX2.out hb); replace HY := Qa.mk (Kd.C_below HY.out hb); replace HZ0 := Qa.mk (Kd.C_below HZ0.out hb); replace HZ1 := Qa.mk (Kd.C_below HZ1.out hb); replace HZ2 := Qa.mk (Kd.C_below HZ2.out hb); replace HV := Qa.mk (Kd.C_below HV.out hb); replace B1 := Qa.mk (Qq B1.out hb); replace HB := Qa.mk (Qj HB.out hb); clear hb; go_wp2_with fail; go_ret; exact ⟨rfl, HB.out⟩
end Go.Proofs.Ytadafplbgophfaa.PA
end
section
namespace Go.Proofs.Ytadafplbgophfaa.PA
open Go.RowKit Go.Proofs.YtadafplbgophfaaW.PrintWords Go.Proofs.YtadafplbgophfaaW.PrintLast Go.Proofs.YtadafplbgophfaaW.PrintMore
open DocT (lab Qdw Qpe)
structure J16 where
 s : Nat
 A0 : Option Addr
 c0 : Nat
 A1 : Option Addr
 c1 : Nat
 A2 : Option Addr
 c2 : Nat
 A3 : Option Addr
 c3 : Nat
theorem Qal {P : World → Prop} {W : World} {cs : Array Value} {t : TypeId} (h : ∀ W', W'.heap[W.heap.size]? = some (.cells cs t (0, 0)) → Below W.heap.size W W' → P W') : P (W.alloc (.cells cs t (0, 0))) := h _ (Vg W _) (Qh (Below.refl _ _) _)
theorem Qlj {w : World} {s : Nat} {z0 z1 z2 : Value} (h : w.heap[s]? = some (.cells #[z0, z1, z2] 112 (0, 0))) (v0 v1 v2 : Value) :
  (((w.setCell ⟨s, 0, none⟩ v0).setCell ⟨s, 1, none⟩ v1).setCell ⟨s, 2, none⟩ v2).heap[s]? = some (.cells #[v0, v1, v2] 112 (0, 0)) := by
 have h0 : (w.setCell ⟨s, 0, none⟩ v0).heap[s]? = some (.cells #[v0, z1, z2] 112 (0, 0)) := Za h 0 v0 rfl; have h1 : ((w.setCell ⟨s, 0, none⟩ v0).setCell ⟨s, 1, none⟩ v1).heap[s]? = some (.cells #[v0, v1, z2] 112 (0, 0)) := Za h0 1 v1 rfl; exact Za h1 2 v2 rfl
theorem Qaz {W w' : World} {a0 a1 a2 a3 a4 a5 : Addr} {v0 v1 v2 v3 v4 v5 : Value} (hb : Below W.heap.size W w') (h : W.cell? a0 = some v0 ∧ W.cell? a1 = some v1 ∧ W.cell? a2 = some v2 ∧ W.cell? a3 = some v3 ∧ W.cell? a4 = some v4 ∧ W.cell? a5 = some v5) : w'.cell? a0 = some v0 ∧ w'.cell? a1 = some v1 ∧ w'.cell? a2 = some v2 ∧ w'.cell? a3 = some v3 ∧ w'.cell? a4 = some v4 ∧ w'.cell? a5 = some v5 := ⟨Qg hb h.1, Qg hb h.2.1, Qg hb h.2.2.1, Qg hb h.2.2.2.1, Qg hb h.2.2.2.2.1, Qg hb h.2.2.2.2.2⟩
theorem Qdy {W w' : World} {a0 a1 a2 : Addr} {v0 v1 v2 : Value} (hb : Below W.heap.size W w') (h : W.cell? a0 = some v0 ∧ W.cell? a1 = some v1 ∧ W.cell? a2 = some v2) : w'.cell? a0 = some v0 ∧ w'.cell? a1 = some v1 ∧ w'.cell? a2 = some v2 := ⟨Qg hb h.1, Qg hb h.2.1, Qg hb h.2.2⟩
def Yw.T3 : Bool × List (List Nat × List Nat) := (true, [([], []), ([0], [0]), ([1], [1]), ([], []), ([3], [3]), ([4, 2], [4]), ([], []), ([6], [6]), ([7, 5], [7]), ([2, 5, 8, 8], [2, 5, 8]), ([9], [9]), ([10], [10]), ([10], [10]), ([], []), ([13, 11, 9, 0, 1, 2, 3, 4, 5, 6, 7, 8, 9, 10, 11, 13], [11, 13]), ([12, 14, 0, 1, 2, 3, 4, 5, 6, 7, 8, 9, 10, 11, 12, 13, 14], [12])])
def Yw.B3 : List Nat := [0, 1, 3, 0, 8, 31, 0, 64, 255, 511, 1023, 2047, 2047, 0, 12287, 32767]
theorem Yw.tab3 : Vx .any (Jb Try.f16 3) = Yw.T3 := by kernel_rfl
theorem Yw.bits3 : Vk Yw.T3.2 Yw.B3 = true := by kernel_rfl
set_option maxHeartbeats 8000000 in
set_option maxRecDepth 100000 in
theorem Yw.calls (kf : Nat) (b : Bool) (t0 t1 t2 : ByteArray) (style : Int) (how : Xi) (w : World) (hfew : Xe.f kf [how] = some b)
  (h : b = true → ∃ k s0 s1 s2 l0 l1 l2 cs ch d er v wv n, Qpe k t0 t1 t2 s0 s1 s2 style how (Qdw how) l0 l1 l2 cs ch d er v wv n) :
  Calls Try.prog 16 #[.agg #[.string t0, .string t1, .string t2], .int .i64 style, .agg #[.string how.f0, .string how.f1, .string how.f2, .bool how.f3, .string how.f4, .string how.f5, .string how.f6, .string how.f7, .bool how.f8]] w fun e w' => e = .returned (.bool true) ∧ Below w.heap.size w w' := by
 have hu105 := Try.underlying105; have hu107 := Try.underlying107; have hu112 := Try.underlying112; have hu116 := Try.underlying116; have hu120 := Try.underlying120; have hu123 := Try.underlying123; have hu81 := Try.underlying81; have hu78 := Try.underlying78; have H := Qa.mk h; have HF := Qa.mk hfew; clear h hfew
 go_enter Try.func16, Try.ntmps16
 go_upto_region 1 with (first | ((with_reducible refine Zd (N := 3) rfl ?_); refine Zc ?hg (N := 3) ?hd (cs := #[.string t0, .string t1, .string t2]) (t := 105) ?hr ?_; (case hd => rfl); (case hg => rfl); (case hr => first | (go_simp; done) | (go_simp; rfl)); intro f3 hg w1 hbox hb; have BK1 := Qa.mk hbox; have HB1 := Qa.mk hb; clear hg hbox hb) | ((with_reducible refine Zd (N := 5) rfl ?_); refine Zc ?hg (N := 5) ?hd (cs := #[.string how.f0, .string how.f1, .string how.f2, .bool how.f3, .string how.f4, .string how.f5, .string how.f6, .string how.f7, .bool how.f8]) (t := 123) ?hr ?_; (case hd => rfl); (case hg => rfl); (case hr => first | (go_simp; done) | (go_simp; rfl)); intro f5 hg w2 hbox hb; have BL := Qa.mk hbox; have BK := Qa.mk (Qq BK1.out hb); have HB0 := Qa.mk (Qj HB1.out hb); clear hg hbox hb BK1 HB1))
 have z0 := (Qc BL.out 0).trans (show _ = some (Value.string how.f0) from rfl); have z1 := (Qc BL.out 1).trans (show _ = some (Value.string how.f1) from rfl); have z2 := (Qc BL.out 2).trans (show _ = some (Value.string how.f2) from rfl); have z3 := (Qc BL.out 3).trans (show _ = some (Value.bool how.f3) from rfl); have z4 := (Qc BL.out 4).trans (show _ = some (Value.string how.f4) from rfl); have z5 := (Qc BL.out 5).trans (show _ = some (Value.string how.f5) from rfl); have z6 := (Qc BL.out 6).trans (show _ = some (Value.string how.f6) from rfl); have z7 := (Qc BL.out 7).trans (show _ = some (Value.string how.f7) from rfl); have z8 := (Qc BL.out 8).trans (show _ = some (Value.bool how.f8) from rfl); go_wp2_with ((with_reducible refine Zd (N := 17) rfl ?_); refine Kd.R_lit Kf _ 123 ?hg (N := 17) ?hd (xs := [how]) (inner := [.string how.f0, .string how.f1, .string how.f2, .bool how.f3, .string how.f4, .string how.f5, .string how.f6, .string how.f7, .bool how.f8]) (ok := fun _ => True) (okp := fun _ => True) ?hr ?hp (fun _ hk => hk) trivial (Below.refl _ _) (Nat.le_refl _) (by simp) ?_; (case hd => rfl); (case hg => rfl); (case hr => first | (go_simp; done) | (go_simp; rfl)); (case hp => exact Yi.c9 (Ul _ _ _ how) (Yi.none _ _)); intro v17 w3 ho hb hg_ hnew_; obtain ⟨P, y_, rfl, hl_, hC_⟩ := Kd.R_reads ho; have HP := Qa.mk hC_; have LP := Qa.mk hl_; replace BK := Qa.mk (Qq BK.out hb); replace BL := Qa.mk (Qq BL.out hb); replace HB0 := Qa.mk (Qj HB0.out hb); clear hg_ hnew_ ho hb hl_ hC_ z0 z1 z2 z3 z4 z5 z6 z7 z8); refine (Xe.calls kf P y_ [how] b _ HP.out LP.out HF.out).mono ?_; rintro e wa ⟨rfl, hb⟩; replace BK := Qa.mk (Qq BK.out hb); replace BL := Qa.mk (Qq BL.out hb); replace HB0 := Qa.mk (Qj HB0.out hb); clear hb HP LP HF
 cases b with
 | false =>
  go_wp2_with fail; refine (Qap.all _).mono ?_; rintro e w5 ⟨rfl, hb⟩; go_wp2_with fail; go_ret; exact ⟨rfl, Qj HB0.out hb⟩
 | true =>
 obtain ⟨k, s0, s1, s2, l0, l1, l2, cs, ch, d, er, v, wv, n, hd⟩ := H.out rfl; clear H; have H := Qa.mk hd; clear hd
 go_upto_region 3 with (fail)
 refine Ug (n := 16) (S := fun w' => w'.cell? ⟨f3, 0, none⟩ = some (.string t0) ∧ w'.cell? ⟨f3, 1, none⟩ = some (.string t1) ∧ w'.cell? ⟨f3, 2, none⟩ = some (.string t2)) (ds := [14]) (bz_ 16 0) (by kernel_rfl) rfl rfl (Kj BK.out) (fun hHeld => ?_); refine Va Yw.tab3 Yw.bits3 (fun HT_ HW_ => ?_); replace BK := Qa.mk (Qp BK.out); have HB := Qa.mk (Qi (Below.refl wa.heap.size wa))
 generalize wa.drew = wd at BK HB hHeld ⊢
 refine pu_ (i := 0) (N := some 22) #[true, false, false, false, false, false, false, false, false, false, false, false, false, false, false, false] ?_; refine pu_ (i := 3) (N := some 25) #[true, false, false, true, false, false, false, false, false, false, false, false, false, false, false, false] ?_; refine pu_ (i := 6) (N := some 28) #[true, false, false, true, false, false, true, false, false, false, false, false, false, false, false, false] ?_; refine ta_ (i := 1) (N := some 23) #[true, true, false, true, false, false, true, false, false, false, false, false, false, false, false, false] ?_; refine ta_ (i := 4) (N := some 26) #[true, true, false, true, true, false, true, false, false, false, false, false, false, false, false, false] ?_; refine ta_ (i := 7) (N := some 29) #[true, true, false, true, true, false, true, true, false, false, false, false, false, false, false, false] ?_; refine Jl (σ := J16) 2 (bz_ 16 16383) (fun s => [(24, .string s0), (27, .string s1), (30, .string s2), (31, .tuple #[.agg #[.slice s.A0 l0.length s.c0, .slice s.A1 l1.length s.c1, .slice s.A2 l2.length s.c2], .slice s.A3 cs.length s.c3]), (21, .tuple #[.agg #[.slice s.A0 l0.length s.c0, .slice s.A1 l1.length s.c1, .slice s.A2 l2.length s.c2], .slice s.A3 cs.length s.c3]), (32, .agg #[.slice s.A0 l0.length s.c0, .slice s.A1 l1.length s.c1, .slice s.A2 l2.length s.c2]), (33, .slice s.A3 cs.length s.c3), (7, .pointer (some ⟨s.s, 0, none⟩))]) (fun s w' => w'.heap[f3]? = some (.cells #[.string t0, .string t1, .string t2] 105 (0, 0)) ∧ w'.heap[s.s]? = some (.cells #[.slice none 0 0, .slice none 0 0, .slice none 0 0] 107 (0, 0)) ∧ Below wa.heap.size wa w' ∧ wa.heap.size ≤ s.s ∧ f3 ≠ s.s ∧ (Kd.F Kd.string w' (fun k => k ≠ s.s) s.A0 l0.length l0 ∧ l0.length ≤ s.c0) ∧ (Kd.F Kd.string w' (fun k => k ≠ s.s) s.A1 l1.length l1 ∧ l1.length ≤ s.c1) ∧ (Kd.F Kd.string w' (fun k => k ≠ s.s) s.A2 l2.length l2 ∧ l2.length ≤ s.c2) ∧ (Kd.F k81 w' (fun k => k ≠ s.s) s.A3 cs.length cs ∧ cs.length ≤ s.c3)) ?_ ?_; rotate_left
 ·intro hJ4
  refine Jl (σ := Nat) 6 (bz_ 16 8703) (fun s => [(24, .string s0), (27, .string s1), (30, .string s2), (7, .pointer (some ⟨s, 0, none⟩))]) (fun s w' => w'.heap[f3]? = some (.cells #[.string t0, .string t1, .string t2] 105 (0, 0)) ∧ w'.heap[s]? = some (.cells #[.slice none 0 0, .slice none 0 0, .slice none 0 0] 107 (0, 0)) ∧ Below wa.heap.size wa w' ∧ wa.heap.size ≤ s ∧ f3 ≠ s) ?_ ?_; rotate_left
  ·intro hJ3
   refine Jl (σ := Nat) 7 (bz_ 16 8447) (fun s => [(24, .string s0), (27, .string s1), (7, .pointer (some ⟨s, 0, none⟩))]) (fun s w' => w'.heap[f3]? = some (.cells #[.string t0, .string t1, .string t2] 105 (0, 0)) ∧ w'.heap[s]? = some (.cells #[.slice none 0 0, .slice none 0 0, .slice none 0 0] 107 (0, 0)) ∧ Below wa.heap.size wa w' ∧ wa.heap.size ≤ s ∧ f3 ≠ s) ?_ ?_; rotate_left
   ·intro hJ2
    refine Jl (σ := Nat) 8 (bz_ 16 8415) (fun s => [(24, .string s0), (7, .pointer (some ⟨s, 0, none⟩))]) (fun s w' => w'.heap[f3]? = some (.cells #[.string t0, .string t1, .string t2] 105 (0, 0)) ∧ w'.heap[s]? = some (.cells #[.slice none 0 0, .slice none 0 0, .slice none 0 0] 107 (0, 0)) ∧ Below wa.heap.size wa w' ∧ wa.heap.size ≤ s ∧ f3 ≠ s) ?_ ?_; rotate_left
    ·intro hJ1
     refine Qcr (i := 2) (j := 13) (Ni := some 24) (Nj := some 7) (bz_ 16 223) (bz_ 16 8411) rfl rfl rfl rfl (Jk HT_.out (by kernel_rfl)) (by decide) (by decide) (fun K hK => ?_) (fun K hK => ?_)
     ·skip
      refine Vr Try.func72 (by kernel_rfl) rfl #[.string t0] (by rfl) rfl rfl (by (try simp only [List.map_toArray, List.map_cons, List.map_nil]); first | done | rfl) ?_; refine (Yp.calls t0 s0 _ H.out.h0).mono ?_; rintro e w' ⟨rfl, hD⟩; have hb := Zl.below hD; refine ⟨_, rfl, ?_⟩; have BKq1 := Qa.mk (Qq BK.out hb); have HBq1 := Qa.mk (Qj HB.out hb); clear hb; refine hK.out _ _ (Kj BKq1.out) (fun hHeld => ?_); clear hK K; refine nN_ 24 ?_; refine Qcr (i := 5) (j := 13) (Ni := some 27) (Nj := some 7) (bz_ 16 255) (bz_ 16 8415) rfl rfl rfl rfl (Jk HT_.out (by kernel_rfl)) (by decide) (by decide) (fun K hK => ?_) (fun K hK => ?_)
      ·skip
       refine Vr Try.func72 (by kernel_rfl) rfl #[.string t1] (by rfl) rfl rfl (by (try simp only [List.map_toArray, List.map_cons, List.map_nil]); first | done | rfl) ?_; refine (Yp.calls t1 s1 _ H.out.h1).mono ?_; rintro e w' ⟨rfl, hD⟩; have hb := Zl.below hD; refine ⟨_, rfl, ?_⟩; have BKq2 := Qa.mk (Qq BKq1.out hb); have HBq2 := Qa.mk (Qj HBq1.out hb); clear hb; refine hK.out _ _ (Kj BKq2.out) (fun hHeld => ?_); clear hK K; refine nN_ 27 ?_; refine Qcr (i := 8) (j := 13) (Ni := some 30) (Nj := some 7) (bz_ 16 511) (bz_ 16 8447) rfl rfl rfl rfl (Jk HT_.out (by kernel_rfl)) (by decide) (by decide) (fun K hK => ?_) (fun K hK => ?_)
       ·skip
        refine Vr Try.func72 (by kernel_rfl) rfl #[.string t2] (by rfl) rfl rfl (by (try simp only [List.map_toArray, List.map_cons, List.map_nil]); first | done | rfl) ?_; refine (Yp.calls t2 s2 _ H.out.h2).mono ?_; rintro e w' ⟨rfl, hD⟩; have hb := Zl.below hD; refine ⟨_, rfl, ?_⟩; have BKq3 := Qa.mk (Qq BKq2.out hb); have HBq3 := Qa.mk (Qj HBq2.out hb); clear hb; refine hK.out _ _ (Kj BKq3.out) (fun hHeld => ?_); clear hK K; refine nN_ 30 ?_; refine Qcr (i := 9) (j := 13) (Ni := some 31) (Nj := some 7) (bz_ 16 1023) (bz_ 16 8703) rfl rfl rfl rfl (Jk HT_.out (by kernel_rfl)) (by decide) (by decide) (fun K hK => ?_) (fun K hK => ?_)
        ·skip
         refine Vr Try.func71 (by kernel_rfl) rfl #[.string s0, .string s1, .string s2] (by rfl) rfl rfl (by (try simp only [List.map_toArray, List.map_cons, List.map_nil]); first | done | rfl) ?_; refine (Xv.callsF k s0 s1 s2 l0 l1 l2 cs _ H.out.hs).mono ?_; rintro e w' ⟨A0, A1, A2, A3, c0, c1, c2, c3, rfl, ⟨hC0, hL0⟩, ⟨hC1, hL1⟩, ⟨hC2, hL2⟩, ⟨hC3, hL3⟩, hb⟩; refine ⟨_, rfl, ?_⟩; have C0q4 := Qa.mk hC0; have LC0 := Qa.mk hL0; have C1q4 := Qa.mk hC1; have LC1 := Qa.mk hL1; have C2q4 := Qa.mk hC2; have LC2 := Qa.mk hL2; have C3q4 := Qa.mk hC3; have LC3 := Qa.mk hL3; clear hC0 hL0 hC1 hL1 hC2 hL2 hC3 hL3; have BKq4 := Qa.mk (Qq BKq3.out hb); have HBq4 := Qa.mk (Qj HBq3.out hb); clear hb; refine hK.out _ _ (Kj BKq4.out) (fun hHeld => ?_); clear hK K; refine nN_ 31 ?_; refine pu_ (i := 10) (N := some 21) #[true, true, true, true, true, true, true, true, true, true, true, false, false, false, false, false] ?_; refine pu_ (i := 11) (N := some 32) #[true, true, true, true, true, true, true, true, true, true, true, true, false, false, false, false] ?_; refine pu_ (i := 12) (N := some 33) #[true, true, true, true, true, true, true, true, true, true, true, true, true, false, false, false] ?_; refine on_ (i := 13) (N := some 7) #[true, true, true, true, true, true, true, true, true, true, true, true, true, true, false, false] (fun K hK => ?_); refine Kh (w1 := ?_) (v := ?_) (by rfl) rfl ?_ ?_; rotate_left 2
         ·go_simp
          constructor
          ·rfl
          ·rfl
         refine Qal (P := fun W => K _ W) (fun W' hs hba => ?_); have BKq5 := Qa.mk (Qq BKq4.out hba); have BSq5 := Qa.mk hs; have GSq5 := Qa.mk (Qo HBq4.out); have NEq5 := Qa.mk (Nat.ne_of_lt (Zu BKq4.out)); have HBq5 := Qa.mk (Qj HBq4.out hba); have C0q5 := Qa.mk (Kd.F_mono (Kd.F_old C0q4.out hba) (fun k hk => Nat.ne_of_lt hk.2)); have C1q5 := Qa.mk (Kd.F_mono (Kd.F_old C1q4.out hba) (fun k hk => Nat.ne_of_lt hk.2)); have C2q5 := Qa.mk (Kd.F_mono (Kd.F_old C2q4.out hba) (fun k hk => Nat.ne_of_lt hk.2)); have C3q5 := Qa.mk (Kd.F_mono (Kd.F_old C3q4.out hba) (fun k hk => Nat.ne_of_lt hk.2)); clear hs hba; refine hK.out _ _ (Kj BKq5.out) (fun hHeld => ?_); clear hK K; refine nN_ 7 ?_; exact np_ (hJ4 ⟨_, A0, c0, A1, c1, A2, c2, A3, c3⟩ _ ⟨BKq5.out, BSq5.out, HBq5.out, GSq5.out, NEq5.out, ⟨C0q5.out, LC0.out⟩, ⟨C1q5.out, LC1.out⟩, ⟨C2q5.out, LC2.out⟩, ⟨C3q5.out, LC3.out⟩⟩)
        ·skip
         refine Kh (w1 := ?_) (v := ?_) (by rfl) rfl ?_ ?_; rotate_left 2
         ·go_simp
          constructor
          ·rfl
          ·rfl
         refine Qal (P := fun W => K _ W) (fun W' hs hba => ?_); have BKq6 := Qa.mk (Qq BKq3.out hba); have BSq6 := Qa.mk hs; have GSq6 := Qa.mk (Qo HBq3.out); have NEq6 := Qa.mk (Nat.ne_of_lt (Zu BKq3.out)); have HBq6 := Qa.mk (Qj HBq3.out hba); clear hs hba; refine hK.out _ _ (Kj BKq6.out) (fun hHeld => ?_); clear hK K; refine nN_ 7 ?_; exact np_ (hJ3 _ _ ⟨BKq6.out, BSq6.out, HBq6.out, GSq6.out, NEq6.out⟩)
       ·skip
        refine Kh (w1 := ?_) (v := ?_) (by rfl) rfl ?_ ?_; rotate_left 2
        ·go_simp
         constructor
         ·rfl
         ·rfl
        refine Qal (P := fun W => K _ W) (fun W' hs hba => ?_); have BKq7 := Qa.mk (Qq BKq2.out hba); have BSq7 := Qa.mk hs; have GSq7 := Qa.mk (Qo HBq2.out); have NEq7 := Qa.mk (Nat.ne_of_lt (Zu BKq2.out)); have HBq7 := Qa.mk (Qj HBq2.out hba); clear hs hba; refine hK.out _ _ (Kj BKq7.out) (fun hHeld => ?_); clear hK K; refine nN_ 7 ?_; exact np_ (hJ2 _ _ ⟨BKq7.out, BSq7.out, HBq7.out, GSq7.out, NEq7.out⟩)
      ·skip
       refine Kh (w1 := ?_) (v := ?_) (by rfl) rfl ?_ ?_; rotate_left 2
       ·go_simp
        constructor
        ·rfl
        ·rfl
       refine Qal (P := fun W => K _ W) (fun W' hs hba => ?_); have BKq8 := Qa.mk (Qq BKq1.out hba); have BSq8 := Qa.mk hs; have GSq8 := Qa.mk (Qo HBq1.out); have NEq8 := Qa.mk (Nat.ne_of_lt (Zu BKq1.out)); have HBq8 := Qa.mk (Qj HBq1.out hba); clear hs hba; refine hK.out _ _ (Kj BKq8.out) (fun hHeld => ?_); clear hK K; refine nN_ 7 ?_; exact np_ (hJ1 _ _ ⟨BKq8.out, BSq8.out, HBq8.out, GSq8.out, NEq8.out⟩)
     ·skip
      refine Kh (w1 := ?_) (v := ?_) (by rfl) rfl ?_ ?_; rotate_left 2
      ·go_simp
       constructor
       ·rfl
       ·rfl
      refine Qal (P := fun W => K _ W) (fun W' hs hba => ?_); have BKq9 := Qa.mk (Qq BK.out hba); have BSq9 := Qa.mk hs; have GSq9 := Qa.mk (Qo HB.out); have NEq9 := Qa.mk (Nat.ne_of_lt (Zu BK.out)); have HBq9 := Qa.mk (Qj HB.out hba); clear hs hba; refine hK.out _ _ (Kj BKq9.out) (fun hHeld => ?_); clear hK K; refine nN_ 7 ?_; refine on_ (i := 2) (N := some 24) #[true, true, true, true, true, false, true, true, false, false, false, false, false, true, false, false] (fun K hK => ?_); refine Vr Try.func72 (by kernel_rfl) rfl #[.string t0] (by rfl) rfl rfl (by (try simp only [List.map_toArray, List.map_cons, List.map_nil]); first | done | rfl) ?_; refine (Yp.calls t0 s0 _ H.out.h0).mono ?_; rintro e w' ⟨rfl, hD⟩; have hb := Zl.below hD; refine ⟨_, rfl, ?_⟩; have BKq10 := Qa.mk (Qq BKq9.out hb); have HBq10 := Qa.mk (Qj HBq9.out hb); have BSq10 := Qa.mk (Qq BSq9.out hb); have GSq10 := GSq9; have NEq10 := NEq9; clear hb; refine hK.out _ _ (Kj BKq10.out) (fun hHeld => ?_); clear hK K; refine nN_ 24 ?_; exact np_ (hJ1 _ _ ⟨BKq10.out, BSq10.out, HBq10.out, GSq10.out, NEq10.out⟩)
    ·skip
     rintro sj wj ⟨hb1, hb2, hb3, hb4, hb5⟩; have BKj1 := Qa.mk hb1; have BSj1 := Qa.mk hb2; have HBj1 := Qa.mk hb3; have GSj1 := Qa.mk hb4; have NEj1 := Qa.mk hb5; clear hb1 hb2 hb3 hb4 hb5; refine np_ ?_; refine on_ (i := 5) (N := some 27) #[true, true, true, true, true, true, true, true, false, false, false, false, false, true, false, false] (fun K hK => ?_); refine Vr Try.func72 (by kernel_rfl) rfl #[.string t1] (by rfl) rfl rfl (by (try simp only [List.map_toArray, List.map_cons, List.map_nil]); first | done | rfl) ?_; refine (Yp.calls t1 s1 _ H.out.h1).mono ?_; rintro e w' ⟨rfl, hD⟩; have hb := Zl.below hD; refine ⟨_, rfl, ?_⟩; have BKq11 := Qa.mk (Qq BKj1.out hb); have HBq11 := Qa.mk (Qj HBj1.out hb); have BSq11 := Qa.mk (Qq BSj1.out hb); have GSq11 := GSj1; have NEq11 := NEj1; clear hb; refine hK.out _ _ (Kj BKq11.out) (fun hHeld => ?_); clear hK K; refine nN_ 27 ?_; exact np_ (hJ2 _ _ ⟨BKq11.out, BSq11.out, HBq11.out, GSq11.out, NEq11.out⟩)
   ·skip
    rintro sj wj ⟨hb1, hb2, hb3, hb4, hb5⟩; have BKj2 := Qa.mk hb1; have BSj2 := Qa.mk hb2; have HBj2 := Qa.mk hb3; have GSj2 := Qa.mk hb4; have NEj2 := Qa.mk hb5; clear hb1 hb2 hb3 hb4 hb5; refine np_ ?_; refine on_ (i := 8) (N := some 30) #[true, true, true, true, true, true, true, true, true, false, false, false, false, true, false, false] (fun K hK => ?_); refine Vr Try.func72 (by kernel_rfl) rfl #[.string t2] (by rfl) rfl rfl (by (try simp only [List.map_toArray, List.map_cons, List.map_nil]); first | done | rfl) ?_; refine (Yp.calls t2 s2 _ H.out.h2).mono ?_; rintro e w' ⟨rfl, hD⟩; have hb := Zl.below hD; refine ⟨_, rfl, ?_⟩; have BKq12 := Qa.mk (Qq BKj2.out hb); have HBq12 := Qa.mk (Qj HBj2.out hb); have BSq12 := Qa.mk (Qq BSj2.out hb); have GSq12 := GSj2; have NEq12 := NEj2; clear hb; refine hK.out _ _ (Kj BKq12.out) (fun hHeld => ?_); clear hK K; refine nN_ 30 ?_; exact np_ (hJ3 _ _ ⟨BKq12.out, BSq12.out, HBq12.out, GSq12.out, NEq12.out⟩)
  ·skip
   rintro sj wj ⟨hb1, hb2, hb3, hb4, hb5⟩; have BKj3 := Qa.mk hb1; have BSj3 := Qa.mk hb2; have HBj3 := Qa.mk hb3; have GSj3 := Qa.mk hb4; have NEj3 := Qa.mk hb5; clear hb1 hb2 hb3 hb4 hb5; refine np_ ?_; refine on_ (i := 9) (N := some 31) #[true, true, true, true, true, true, true, true, true, true, false, false, false, true, false, false] (fun K hK => ?_); refine Vr Try.func71 (by kernel_rfl) rfl #[.string s0, .string s1, .string s2] (by rfl) rfl rfl (by (try simp only [List.map_toArray, List.map_cons, List.map_nil]); first | done | rfl) ?_; refine (Xv.callsF k s0 s1 s2 l0 l1 l2 cs _ H.out.hs).mono ?_; rintro e w' ⟨A0, A1, A2, A3, c0, c1, c2, c3, rfl, ⟨hC0, hL0⟩, ⟨hC1, hL1⟩, ⟨hC2, hL2⟩, ⟨hC3, hL3⟩, hb⟩; refine ⟨_, rfl, ?_⟩; have C0q13 := Qa.mk (Kd.F_mono hC0 (fun k hk => Nat.ne_of_gt (Nat.lt_of_lt_of_le (Zu BSj3.out) hk))); have LC0 := Qa.mk hL0; have C1q13 := Qa.mk (Kd.F_mono hC1 (fun k hk => Nat.ne_of_gt (Nat.lt_of_lt_of_le (Zu BSj3.out) hk))); have LC1 := Qa.mk hL1; have C2q13 := Qa.mk (Kd.F_mono hC2 (fun k hk => Nat.ne_of_gt (Nat.lt_of_lt_of_le (Zu BSj3.out) hk))); have LC2 := Qa.mk hL2; have C3q13 := Qa.mk (Kd.F_mono hC3 (fun k hk => Nat.ne_of_gt (Nat.lt_of_lt_of_le (Zu BSj3.out) hk))); have LC3 := Qa.mk hL3; clear hC0 hL0 hC1 hL1 hC2 hL2 hC3 hL3; have BKq13 := Qa.mk (Qq BKj3.out hb); have HBq13 := Qa.mk (Qj HBj3.out hb); have BSq13 := Qa.mk (Qq BSj3.out hb); have GSq13 := GSj3; have NEq13 := NEj3; clear hb; refine hK.out _ _ (Kj BKq13.out) (fun hHeld => ?_); clear hK K; refine nN_ 31 ?_; refine pu_ (i := 10) (N := some 21) #[true, true, true, true, true, true, true, true, true, true, true, false, false, true, false, false] ?_; refine pu_ (i := 11) (N := some 32) #[true, true, true, true, true, true, true, true, true, true, true, true, false, true, false, false] ?_; refine pu_ (i := 12) (N := some 33) #[true, true, true, true, true, true, true, true, true, true, true, true, true, true, false, false] ?_; exact np_ (hJ4 ⟨_, A0, c0, A1, c1, A2, c2, A3, c3⟩ _ ⟨BKq13.out, BSq13.out, HBq13.out, GSq13.out, NEq13.out, ⟨C0q13.out, LC0.out⟩, ⟨C1q13.out, LC1.out⟩, ⟨C2q13.out, LC2.out⟩, ⟨C3q13.out, LC3.out⟩⟩)
 rintro ⟨fs, A0, c0, A1, c1, A2, c2, A3, c3⟩ wj ⟨hb1, hb2, hb3, hb4, hb5, ⟨hC0, hL0⟩, ⟨hC1, hL1⟩, ⟨hC2, hL2⟩, ⟨hC3, hL3⟩⟩; clear BK HB
 dsimp only at hb1 hb2 hb3 hb4 hb5 hC0 hC1 hC2 hC3 hL0 hL1 hL2 hL3
 have BS := Qa.mk hb2; have HB := Qa.mk hb3; have GS := Qa.mk hb4; have C0 := Qa.mk hC0; have LC0 := Qa.mk hL0; have C1 := Qa.mk hC1; have LC1 := Qa.mk hL1; have C2 := Qa.mk hC2; have LC2 := Qa.mk hL2; have C3 := Qa.mk hC3; have LC3 := Qa.mk hL3; clear hb1 hb2 hb3 hb4 hb5 hC0 hL0 hC1 hL1 hC2 hL2 hC3 hL3; refine np_ ?_; have y0 := (Qc BS.out 0).trans (show _ = some (Value.slice none 0 0) from rfl); have y1 := (Qc BS.out 1).trans (show _ = some (Value.slice none 0 0) from rfl); have y2 := (Qc BS.out 2).trans (show _ = some (Value.slice none 0 0) from rfl); have x0 := Qe BS.out 0; have x1 := Qe BS.out 1; have x2 := Qe BS.out 2; refine Qbb (i := 14) (N := none) (bz_ 16 32767) rfl rfl (Kx HT_.out (by kernel_rfl)) (by decide) (fun K hK => ?_); refine Jz (w1 := ?_) (by rfl) rfl ?_ ?_; rotate_left
 ·go_simp
  rfl
 refine hK.out _ _ ?_; clear hK K; refine pu_ (i := 15) (N := some 8) #[true, true, true, true, true, true, true, true, true, true, true, true, true, true, true, true] ?_; refine Ki (Vq HT_.out (by kernel_rfl)) ?_; clear y0 y1 y2 x0 x1 x2; replace BS := Qa.mk (Qcv BS.out (.slice A0 l0.length c0) (.slice A1 l1.length c1) (.slice A2 l2.length c2)); replace HB := Qa.mk (Qcb HB.out GS.out (.slice A0 l0.length c0) (.slice A1 l1.length c1) (.slice A2 l2.length c2)); replace C0 := Qa.mk (Qii C0.out (.slice A0 l0.length c0) (.slice A1 l1.length c1) (.slice A2 l2.length c2)); replace C1 := Qa.mk (Qii C1.out (.slice A0 l0.length c0) (.slice A1 l1.length c1) (.slice A2 l2.length c2)); replace C2 := Qa.mk (Qii C2.out (.slice A0 l0.length c0) (.slice A1 l1.length c1) (.slice A2 l2.length c2)); replace C3 := Qa.mk (Qii C3.out (.slice A0 l0.length c0) (.slice A1 l1.length c1) (.slice A2 l2.length c2))
 generalize (((wj.setCell ⟨fs, 0, none⟩ (.slice A0 l0.length c0)).setCell ⟨fs, 1, none⟩ (.slice A1 l1.length c1)).setCell ⟨fs, 2, none⟩ (.slice A2 l2.length c2)) = wk at BS HB C0 C1 C2 C3 ⊢
 clear GS HT_ HW_; replace BL := Qa.mk (Qq BL.out HB.out); replace HB := Qa.mk (Qj HB0.out HB.out); clear HB0; have z3 := (Qc BL.out 3).trans (show _ = some (Value.bool how.f3) from rfl); have z8 := (Qc BL.out 8).trans (show _ = some (Value.bool how.f8) from rfl)
 go_upto_if 35 with (fail)
 go_cut [2, 9] from 16 (fun v2 v9 W => v2 = .agg #[.string how.f0, .string how.f1, .string how.f2, .bool how.f3, .string how.f4, .string how.f5, .string how.f6, .string how.f7, .bool how.f8] ∧ v9 = .int .i64 (if how.f8 = true then 1 else 0) ∧ Qa (Below wk.heap.size wk W))
 case first =>
  cases h8 : how.f8
  ·rw [h8] at z8
   go_wp2_with fail
   go_meet
   case rel => exact ⟨by first | rfl | simp [h8], by first | rfl | simp [h8], ⟨by repeat (first | (with_reducible first | exact Below.refl _ _ | apply Qf | apply Qi))⟩⟩
  ·rw [h8] at z8
   go_wp2_with fail
   go_meet
   case rel => exact ⟨by first | rfl | simp [h8], by first | rfl | simp [h8], ⟨by repeat (first | (with_reducible first | exact Below.refl _ _ | apply Qf | apply Qi))⟩⟩
 case rest =>
 obtain ⟨rfl, rfl, hb⟩ := hcut; clear z3 z8; replace BL := Qa.mk (Qq BL.out hb.out); replace BS := Qa.mk (Qq BS.out hb.out); replace C0 := Qa.mk (Kd.C_below C0.out hb.out); replace C1 := Qa.mk (Kd.C_below C1.out hb.out); replace C2 := Qa.mk (Kd.C_below C2.out hb.out); replace C3 := Qa.mk (Kd.C_below C3.out hb.out); replace HB := Qa.mk (Qj HB.out hb.out); clear hb; obtain ⟨g8, hg8⟩ : ∃ g : Int, (if how.f8 = true then (1 : Int) else 0) = g := ⟨_, rfl⟩; rw [hg8]; have z3 := (Qc BL.out 3).trans (show _ = some (Value.bool how.f3) from rfl)
 go_upto_if 37 with (fail)
 go_cut [2, 9] from 16 (fun v2 v9 W => v2 = .agg #[.string how.f0, .string how.f1, .string how.f2, .bool how.f3, .string how.f4, .string how.f5, .string how.f6, .string how.f7, .bool how.f8] ∧ v9 = .int .i64 (Qdw how) ∧ Qa (Below wc.heap.size wc W))
 case first =>
  cases h3 : how.f3
  ·rw [h3] at z3
   have e9 : g8 = Qdw how := by rw [← hg8]; unfold Qdw; rw [h3]; simp
   rw [e9]; go_wp2_with fail
   go_meet
   case rel => exact ⟨by first | rfl | simp [h3], rfl, ⟨by repeat (first | (with_reducible first | exact Below.refl _ _ | apply Qf | apply Qi))⟩⟩
  ·rw [h3] at z3
   have e9 : g8 + 2 = Qdw how := by rw [← hg8]; unfold Qdw; rw [h3]; simp
   go_wp2_with fail
   go_meet
   case rel => exact ⟨by first | rfl | simp [h3], by first | rfl | rw [e9], ⟨by repeat (first | (with_reducible first | exact Below.refl _ _ | apply Qf | apply Qi))⟩⟩
 case rest =>
 obtain ⟨rfl, rfl, hb⟩ := hcut; clear z3 hg8; replace BL := Qa.mk (Qq BL.out hb.out); replace BS := Qa.mk (Qq BS.out hb.out); replace C0 := Qa.mk (Kd.C_below C0.out hb.out); replace C1 := Qa.mk (Kd.C_below C1.out hb.out); replace C2 := Qa.mk (Kd.C_below C2.out hb.out); replace C3 := Qa.mk (Kd.C_below C3.out hb.out); replace HB := Qa.mk (Qj HB.out hb.out); clear hb
 generalize Qdw how = fav at H ⊢
 have q0 := (Qc BS.out 0).trans (show _ = some (Value.slice A0 l0.length c0) from rfl); have q1 := (Qc BS.out 1).trans (show _ = some (Value.slice A1 l1.length c1) from rfl); have q2 := (Qc BS.out 2).trans (show _ = some (Value.slice A2 l2.length c2) from rfl); go_wp2_with fail; refine (Yj.calls A0 c0 l0 A1 c1 l1 A2 c2 l2 l0 l1 l2 _ C0.out LC0.out C1.out LC1.out C2.out LC2.out H.out.ht).mono ?_; rintro e w4 ⟨v0, v1, v2, rfl, hR0, hR1, hR2, hb⟩; obtain ⟨X0, x0, rfl, hc, hC⟩ := Kd.R_reads hR0; have HX0 := Qa.mk hC; have LX0 := Qa.mk hc; clear hc hC; obtain ⟨X1, x1, rfl, hc, hC⟩ := Kd.R_reads hR1; have HX1 := Qa.mk hC; have LX1 := Qa.mk hc; clear hc hC; obtain ⟨X2, x2, rfl, hc, hC⟩ := Kd.R_reads hR2; have HX2 := Qa.mk hC; have LX2 := Qa.mk hc; clear hc hC; replace BL := Qa.mk (Qq BL.out hb); replace BS := Qa.mk (Qq BS.out hb); replace C0 := Qa.mk (Kd.C_below C0.out hb); replace C1 := Qa.mk (Kd.C_below C1.out hb); replace C2 := Qa.mk (Kd.C_below C2.out hb); replace C3 := Qa.mk (Kd.C_below C3.out hb); replace HB := Qa.mk (Qj HB.out hb); clear hR0 hR1 hR2 hb q0 q1 q2; go_wp2_with fail; refine (Zq.calls k A3 c3 cs ch _ C3.out LC3.out H.out.hc).mono ?_; rintro e w5 ⟨v0, rfl, hR, hb⟩; obtain ⟨Y, y, rfl, hc, hC⟩ := Kd.R_reads hR; have HY := Qa.mk hC; have LY := Qa.mk hc; replace BL := Qa.mk (Qq BL.out hb); replace BS := Qa.mk (Qq BS.out hb); replace C0 := Qa.mk (Kd.C_below C0.out hb); replace C1 := Qa.mk (Kd.C_below C1.out hb); replace C2 := Qa.mk (Kd.C_below C2.out hb); replace C3 := Qa.mk (Kd.C_below C3.out hb); replace HX0 := Qa.mk (Kd.C_below HX0.out hb); replace HX1 := Qa.mk (Kd.C_below HX1.out hb); replace HX2 := Qa.mk (Kd.C_below HX2.out hb); replace HB := Qa.mk (Qj HB.out hb); clear hR hb hc hC
 go_upto_region 10 with (((with_reducible refine Zd (N := 10) rfl ?_); refine Zc ?hg (N := 10) ?hd (cs := #[.slice none 0 0, .slice none 0 0, .slice none 0 0]) (t := 112) ?hr ?_; (case hd => rfl); (case hg => rfl); (case hr => first | (go_simp; done) | (go_simp; rfl)); intro f10 hg w6 hbox hb; have BB := Qa.mk hbox; have HB6 := Qa.mk hb; have GB := Qa.mk (Nat.le_of_eq hg.symm : w5.heap.size ≤ f10); have y0 := (Qc hbox 0).trans (show _ = some (Value.slice none 0 0) from rfl); have y1 := (Qc hbox 1).trans (show _ = some (Value.slice none 0 0) from rfl); have y2 := (Qc hbox 2).trans (show _ = some (Value.slice none 0 0) from rfl); obtain ⟨x_0, x_1, x_2⟩ := Qll hbox; clear hg hbox hb))
 have hb := Qcb HB6.out GB.out (.slice X0 l0.length x0) (.slice X1 l1.length x1) (.slice X2 l2.length x2); replace BB := Qa.mk (Qlj BB.out (.slice X0 l0.length x0) (.slice X1 l1.length x1) (.slice X2 l2.length x2)); replace BL := Qa.mk (Qq BL.out hb); replace BS := Qa.mk (Qq BS.out hb); replace C0 := Qa.mk (Kd.C_below C0.out hb); replace C1 := Qa.mk (Kd.C_below C1.out hb); replace C2 := Qa.mk (Kd.C_below C2.out hb); replace C3 := Qa.mk (Kd.C_below C3.out hb); replace HY := Qa.mk (Kd.C_below HY.out hb); replace HX0 := Qa.mk (Kd.C_below HX0.out hb); replace HX1 := Qa.mk (Kd.C_below HX1.out hb); replace HX2 := Qa.mk (Kd.C_below HX2.out hb); replace HB := Qa.mk (Qj HB.out hb); clear hb HB6 GB y0 y1 y2 x_0 x_1 x_2
 generalize (((w6.setCell ⟨f10, 0, none⟩ (.slice X0 l0.length x0)).setCell ⟨f10, 1, none⟩ (.slice X1 l1.length x1)).setCell ⟨f10, 2, none⟩ (.slice X2 l2.length x2)) = w7 at BB BL BS C0 C1 C2 C3 HX0 HX1 HX2 HY HB ⊢
 have q0 := (Qc BB.out 0).trans (show _ = some (Value.slice X0 l0.length x0) from rfl); have q1 := (Qc BB.out 1).trans (show _ = some (Value.slice X1 l1.length x1) from rfl); have q2 := (Qc BB.out 2).trans (show _ = some (Value.slice X2 l2.length x2) from rfl); have z0 := (Qc BL.out 0).trans (show _ = some (Value.string how.f0) from rfl); have z1 := (Qc BL.out 1).trans (show _ = some (Value.string how.f1) from rfl); have z2 := (Qc BL.out 2).trans (show _ = some (Value.string how.f2) from rfl); go_wp2_with fail; refine (Uv.all k X0 x0 l0 X1 x1 l1 X2 x2 l2 Y y ch style (lab how) fav d er _ HX0.out LX0.out HX1.out LX1.out HX2.out LX2.out HY.out LY.out H.out.hd).mono ?_; rintro e w8 ⟨v0, rfl, hR, hb⟩; obtain ⟨D, Dc, rfl, hc, hC⟩ := Kd.R_reads hR; have HD := Qa.mk hC; have LD := Qa.mk hc; replace BL := Qa.mk (Qq BL.out hb); replace BS := Qa.mk (Qq BS.out hb); replace BB := Qa.mk (Qq BB.out hb); replace C0 := Qa.mk (Kd.C_below C0.out hb); replace C1 := Qa.mk (Kd.C_below C1.out hb); replace C2 := Qa.mk (Kd.C_below C2.out hb); replace C3 := Qa.mk (Kd.C_below C3.out hb); replace HY := Qa.mk (Kd.C_below HY.out hb); replace HX0 := Qa.mk (Kd.C_below HX0.out hb); replace HX1 := Qa.mk (Kd.C_below HX1.out hb); replace HX2 := Qa.mk (Kd.C_below HX2.out hb); replace HB := Qa.mk (Qj HB.out hb); clear hR hb hc hC q0 q1 q2 z0 z1 z2; have z0 := (Qc BL.out 0).trans (show _ = some (Value.string how.f0) from rfl); have z1 := (Qc BL.out 1).trans (show _ = some (Value.string how.f1) from rfl); have z2 := (Qc BL.out 2).trans (show _ = some (Value.string how.f2) from rfl); have z3 := (Qc BL.out 3).trans (show _ = some (Value.bool how.f3) from rfl); have z4 := (Qc BL.out 4).trans (show _ = some (Value.string how.f4) from rfl); have z5 := (Qc BL.out 5).trans (show _ = some (Value.string how.f5) from rfl); have z6 := (Qc BL.out 6).trans (show _ = some (Value.string how.f6) from rfl); have z7 := (Qc BL.out 7).trans (show _ = some (Value.string how.f7) from rfl); have z8 := (Qc BL.out 8).trans (show _ = some (Value.bool how.f8) from rfl); have q0 := (Qc BS.out 0).trans (show _ = some (Value.slice A0 l0.length c0) from rfl); have q1 := (Qc BS.out 1).trans (show _ = some (Value.slice A1 l1.length c1) from rfl); have q2 := (Qc BS.out 2).trans (show _ = some (Value.slice A2 l2.length c2) from rfl); go_wp2_with fail; refine (Zj.calls k A0 c0 l0 A1 c1 l1 A2 c2 l2 A3 c3 cs style how fav wv er _ C0.out LC0.out C1.out LC1.out C2.out LC2.out C3.out H.out.hr).mono ?_; rintro e w9 ⟨v0, rfl, hR, hb⟩; obtain ⟨E, Ec, rfl, hc, hC⟩ := Kd.R_reads hR; have HE := Qa.mk hC; have LE := Qa.mk hc; replace BS := Qa.mk (Qq BS.out hb); replace BB := Qa.mk (Qq BB.out hb); replace C0 := Qa.mk (Kd.C_below C0.out hb); replace C1 := Qa.mk (Kd.C_below C1.out hb); replace C2 := Qa.mk (Kd.C_below C2.out hb); replace C3 := Qa.mk (Kd.C_below C3.out hb); replace HY := Qa.mk (Kd.C_below HY.out hb); replace HD := Qa.mk (Kd.C_below HD.out hb); replace HX0 := Qa.mk (Kd.C_below HX0.out hb); replace HX1 := Qa.mk (Kd.C_below HX1.out hb); replace HX2 := Qa.mk (Kd.C_below HX2.out hb); replace HB := Qa.mk (Qj HB.out hb); clear hR hb hc hC q0 q1 q2 BL z0 z1 z2 z3 z4 z5 z6 z7 z8
 go_upto_region 12 with (fail)
 have q0 := (Qc BS.out 0).trans (show _ = some (Value.slice A0 l0.length c0) from rfl); have q1 := (Qc BS.out 1).trans (show _ = some (Value.slice A1 l1.length c1) from rfl); have q2 := (Qc BS.out 2).trans (show _ = some (Value.slice A2 l2.length c2) from rfl); have p0 := (Qc BB.out 0).trans (show _ = some (Value.slice X0 l0.length x0) from rfl); have p1 := (Qc BB.out 1).trans (show _ = some (Value.slice X1 l1.length x1) from rfl); have p2 := (Qc BB.out 2).trans (show _ = some (Value.slice X2 l2.length x2) from rfl); refine wp_region_held_drew (S := fun w' => w'.cell? ⟨fs, 0, none⟩ = some (.slice A0 l0.length c0) ∧ w'.cell? ⟨fs, 1, none⟩ = some (.slice A1 l1.length c1) ∧ w'.cell? ⟨fs, 2, none⟩ = some (.slice A2 l2.length c2) ∧ w'.cell? ⟨f10, 0, none⟩ = some (.slice X0 l0.length x0) ∧ w'.cell? ⟨f10, 1, none⟩ = some (.slice X1 l1.length x1) ∧ w'.cell? ⟨f10, 2, none⟩ = some (.slice X2 l2.length x2)) (by kernel_rfl) ⟨q0, q1, q2, p0, p1, p2⟩ (fun hHeld => ?_); clear q0 q1 q2 p0 p1 p2; have hb := Vv (Below.refl w9.heap.size w9); replace BS := Qa.mk (Qq BS.out hb); replace BB := Qa.mk (Qq BB.out hb); replace C0 := Qa.mk (Kd.C_below C0.out hb); replace C1 := Qa.mk (Kd.C_below C1.out hb); replace C2 := Qa.mk (Kd.C_below C2.out hb); replace C3 := Qa.mk (Kd.C_below C3.out hb); replace HY := Qa.mk (Kd.C_below HY.out hb); replace HD := Qa.mk (Kd.C_below HD.out hb); replace HE := Qa.mk (Kd.C_below HE.out hb); replace HX0 := Qa.mk (Kd.C_below HX0.out hb); replace HX1 := Qa.mk (Kd.C_below HX1.out hb); replace HX2 := Qa.mk (Kd.C_below HX2.out hb); replace HB := Qa.mk (Qj HB.out hb); clear hb
 generalize w9.drew = wx at BS BB C0 C1 C2 C3 HY HD HE HX0 HX1 HX2 HB hHeld ⊢
 refine wpAnyH_ready (rs := [0]) (by kernel_rfl) (by simp) ?_; refine AllReadyH.cons rfl (fun K hK => ?_) AllReadyH.nil; go_simp
 go_at_call 58
 refine (Qap.all _).mono ?_; rintro e wy ⟨rfl, hb⟩; replace BS := Qa.mk (Qq BS.out hb); replace BB := Qa.mk (Qq BB.out hb); replace C0 := Qa.mk (Kd.C_below C0.out hb); replace C1 := Qa.mk (Kd.C_below C1.out hb); replace C2 := Qa.mk (Kd.C_below C2.out hb); replace C3 := Qa.mk (Kd.C_below C3.out hb); replace HY := Qa.mk (Kd.C_below HY.out hb); replace HD := Qa.mk (Kd.C_below HD.out hb); replace HE := Qa.mk (Kd.C_below HE.out hb); replace HX0 := Qa.mk (Kd.C_below HX0.out hb); replace HX1 := Qa.mk (Kd.C_below HX1.out hb); replace HX2 := Qa.mk (Kd.C_below HX2.out hb); replace HB := Qa.mk (Qj HB.out hb); refine hK.out _ _ (Qaz hb hHeld) (fun hHeld => ?_); clear hb hK K
 try simp only [Act.put, sA_, sB_, sC_]
 refine wtB_ (i := 1) ?_
 try simp only [Act.put, sA_, sB_, sC_]
 refine wtB_ (i := 2) ?_
 try simp only [Act.put, sA_, sB_, sC_]
 refine wtB_ (i := 3) ?_
 try simp only [Act.put, sA_, sB_, sC_]
 refine wtB_ (i := 4) ?_
 try simp only [Act.put, sA_, sB_, sC_]
 refine wtB_ (i := 5) ?_
 try simp only [Act.put, sA_, sB_, sC_]
 refine wtB_ (i := 6) ?_
 try simp only [Act.put, sA_, sB_, sC_]
 refine wtB_ (i := 7) ?_
 try simp only [Act.put, sA_, sB_, sC_]
 refine wtB_ (i := 8) ?_
 try simp only [Act.put, sA_, sB_, sC_]
 refine wtB_ (i := 10) ?_
 try simp only [Act.put, sA_, sB_, sC_]
 refine wpAnyH_ready (rs := [9]) (by kernel_rfl) (by simp) ?_; refine AllReadyH.cons rfl (fun K hK => ?_) AllReadyH.nil; go_simp
 go_at_call 67
 refine (Zz.calls k D Dc d v _ HD.out LD.out H.out.hv).mono ?_; rintro e wy ⟨v0, rfl, hR, hb⟩; obtain ⟨V, Vc, rfl, hc, hC⟩ := Kd.R_reads hR; have HV := Qa.mk hC; have LV := Qa.mk hc; clear hR hc hC; replace BS := Qa.mk (Qq BS.out hb); replace BB := Qa.mk (Qq BB.out hb); replace C0 := Qa.mk (Kd.C_below C0.out hb); replace C1 := Qa.mk (Kd.C_below C1.out hb); replace C2 := Qa.mk (Kd.C_below C2.out hb); replace C3 := Qa.mk (Kd.C_below C3.out hb); replace HY := Qa.mk (Kd.C_below HY.out hb); replace HD := Qa.mk (Kd.C_below HD.out hb); replace HE := Qa.mk (Kd.C_below HE.out hb); replace HX0 := Qa.mk (Kd.C_below HX0.out hb); replace HX1 := Qa.mk (Kd.C_below HX1.out hb); replace HX2 := Qa.mk (Kd.C_below HX2.out hb); replace HB := Qa.mk (Qj HB.out hb); refine hK.out _ _ (Qaz hb hHeld) (fun hHeld => ?_); clear hb hK K
 try simp only [Act.put, sA_, sB_, sC_]
 refine wpAnyH_ready (rs := [11]) (by kernel_rfl) (by simp) ?_; refine AllReadyH.cons rfl (fun K hK => ?_) AllReadyH.nil; go_simp
 go_at_call 66
 refine (Xa.calls k V Vc v E Ec wv true _ HV.out LV.out HE.out LE.out H.out.hvw).mono ?_; rintro e wy ⟨rfl, hD⟩; have hb := Zl.below hD; clear hD HV LV HE LE; replace BS := Qa.mk (Qq BS.out hb); replace BB := Qa.mk (Qq BB.out hb); replace C0 := Qa.mk (Kd.C_below C0.out hb); replace C1 := Qa.mk (Kd.C_below C1.out hb); replace C2 := Qa.mk (Kd.C_below C2.out hb); replace C3 := Qa.mk (Kd.C_below C3.out hb); replace HY := Qa.mk (Kd.C_below HY.out hb); replace HD := Qa.mk (Kd.C_below HD.out hb); replace HX0 := Qa.mk (Kd.C_below HX0.out hb); replace HX1 := Qa.mk (Kd.C_below HX1.out hb); replace HX2 := Qa.mk (Kd.C_below HX2.out hb); replace HB := Qa.mk (Qj HB.out hb); refine hK.out _ _ (Qaz hb hHeld) (fun hHeld => ?_); clear hb hK K
 try simp only [Act.put, sA_, sB_, sC_]
 refine wtB_ (i := 12) ?_
 try simp only [Act.put, sA_, sB_, sC_]
 refine wtB_ (i := 13) ?_
 try simp only [Act.put, sA_, sB_, sC_]
 refine wtB_ (i := 14) ?_
 try simp only [Act.put, sA_, sB_, sC_]
 refine wtB_ (i := 15) ?_
 try simp only [Act.put, sA_, sB_, sC_]
 refine wtB_ (i := 16) ?_
 try simp only [Act.put, sA_, sB_, sC_]
 refine wtB_ (i := 18) ?_
 try simp only [Act.put, sA_, sB_, sC_]
 refine wtB_ (i := 19) ?_
 try simp only [Act.put, sA_, sB_, sC_]
 refine wpAnyH_ready (rs := [17]) (by kernel_rfl) (by simp) ?_; refine AllReadyH.cons rfl (fun K hK => ?_) AllReadyH.nil; go_simp
 go_at_call 80
 refine (Yd.calls k X0 x0 l0 X1 x1 l1 X2 x2 l2 Y y ch n _ HX0.out LX0.out HX1.out LX1.out HX2.out LX2.out HY.out LY.out H.out.hp).mono ?_; rintro e wy ⟨rfl, hb⟩; replace BS := Qa.mk (Qq BS.out hb); replace BB := Qa.mk (Qq BB.out hb); replace C0 := Qa.mk (Kd.C_below C0.out hb); replace C1 := Qa.mk (Kd.C_below C1.out hb); replace C2 := Qa.mk (Kd.C_below C2.out hb); replace C3 := Qa.mk (Kd.C_below C3.out hb); replace HY := Qa.mk (Kd.C_below HY.out hb); replace HD := Qa.mk (Kd.C_below HD.out hb); replace HX0 := Qa.mk (Kd.C_below HX0.out hb); replace HX1 := Qa.mk (Kd.C_below HX1.out hb); replace HX2 := Qa.mk (Kd.C_below HX2.out hb); replace HB := Qa.mk (Qj HB.out hb); refine hK.out _ _ (Qaz hb hHeld) (fun hHeld => ?_); clear hb hK K
 try simp only [Act.put, sA_, sB_, sC_]
 refine wpAnyH_ready (rs := [20]) (by kernel_rfl) (by simp) ?_; refine AllReadyH.cons rfl (fun K hK => ?_) AllReadyH.nil; go_simp
 go_at_call 81
 refine (Xg.calls k A0 c0 l0 A1 c1 l1 A2 c2 l2 A3 c3 cs n _ C0.out LC0.out C1.out LC1.out C2.out LC2.out C3.out H.out.hq).mono ?_; rintro e wy ⟨rfl, hb⟩; replace BS := Qa.mk (Qq BS.out hb); replace BB := Qa.mk (Qq BB.out hb); replace C0 := Qa.mk (Kd.C_below C0.out hb); replace C1 := Qa.mk (Kd.C_below C1.out hb); replace C2 := Qa.mk (Kd.C_below C2.out hb); replace C3 := Qa.mk (Kd.C_below C3.out hb); replace HY := Qa.mk (Kd.C_below HY.out hb); replace HD := Qa.mk (Kd.C_below HD.out hb); replace HX0 := Qa.mk (Kd.C_below HX0.out hb); replace HX1 := Qa.mk (Kd.C_below HX1.out hb); replace HX2 := Qa.mk (Kd.C_below HX2.out hb); replace HB := Qa.mk (Qj HB.out hb); refine hK.out _ _ (Qaz hb hHeld) (fun hHeld => ?_); clear hb hK K
 try simp only [Act.put, sA_, sB_, sC_]
 refine wtB_ (i := 21) ?_
 try simp only [Act.put, sA_, sB_, sC_]
 refine wtB_ (i := 22) ?_
 try simp only [Act.put, sA_, sB_, sC_]
 refine wtB_ (i := 23) ?_
 try simp only [Act.put, sA_, sB_, sC_]
 refine wtB_ (i := 24) ?_
 try simp only [Act.put, sA_, sB_, sC_]
 refine wtB_ (i := 25) ?_
 try simp only [Act.put, sA_, sB_, sC_]
 refine wtB_ (i := 26) ?_
 try simp only [Act.put, sA_, sB_, sC_]
 refine wtB_ (i := 27) ?_
 try simp only [Act.put, sA_, sB_, sC_]
 refine wpAnyH_ready (rs := [28]) (by kernel_rfl) (by simp) ?_; refine AllReadyH.cons rfl (fun K hK => ?_) AllReadyH.nil; go_simp
 go_at_call 25
 refine (Zp.calls k X1 x1 l1 A1 c1 l1 true _ HX1.out LX1.out C1.out LC1.out H.out.hl1).mono ?_; rintro e wy ⟨rfl, hD⟩; have hb := Zl.below hD; clear hD; replace BS := Qa.mk (Qq BS.out hb); replace BB := Qa.mk (Qq BB.out hb); replace C0 := Qa.mk (Kd.C_below C0.out hb); replace C1 := Qa.mk (Kd.C_below C1.out hb); replace C2 := Qa.mk (Kd.C_below C2.out hb); replace C3 := Qa.mk (Kd.C_below C3.out hb); replace HY := Qa.mk (Kd.C_below HY.out hb); replace HD := Qa.mk (Kd.C_below HD.out hb); replace HX0 := Qa.mk (Kd.C_below HX0.out hb); replace HX1 := Qa.mk (Kd.C_below HX1.out hb); replace HX2 := Qa.mk (Kd.C_below HX2.out hb); replace HB := Qa.mk (Qj HB.out hb); refine hK.out _ _ (Qaz hb hHeld) (fun hHeld => ?_); clear hb hK K
 try simp only [Act.put, sA_, sB_, sC_]
 refine wtB_ (i := 29) ?_
 try simp only [Act.put, sA_, sB_, sC_]
 refine wtB_ (i := 30) ?_
 try simp only [Act.put, sA_, sB_, sC_]
 refine wtB_ (i := 31) ?_
 try simp only [Act.put, sA_, sB_, sC_]
 refine wtB_ (i := 32) ?_
 try simp only [Act.put, sA_, sB_, sC_]
 refine wtB_ (i := 33) ?_
 try simp only [Act.put, sA_, sB_, sC_]
 refine wtB_ (i := 34) ?_
 try simp only [Act.put, sA_, sB_, sC_]
 refine wtB_ (i := 35) ?_
 try simp only [Act.put, sA_, sB_, sC_]
 refine wpAnyH_ready (rs := [36]) (by kernel_rfl) (by simp) ?_; refine AllReadyH.cons rfl (fun K hK => ?_) AllReadyH.nil; go_simp
 go_at_call 25
 refine (Zp.calls k X0 x0 l0 A0 c0 l0 true _ HX0.out LX0.out C0.out LC0.out H.out.hl0).mono ?_; rintro e wy ⟨rfl, hD⟩; have hb := Zl.below hD; clear hD; replace BS := Qa.mk (Qq BS.out hb); replace BB := Qa.mk (Qq BB.out hb); replace C0 := Qa.mk (Kd.C_below C0.out hb); replace C1 := Qa.mk (Kd.C_below C1.out hb); replace C2 := Qa.mk (Kd.C_below C2.out hb); replace C3 := Qa.mk (Kd.C_below C3.out hb); replace HY := Qa.mk (Kd.C_below HY.out hb); replace HD := Qa.mk (Kd.C_below HD.out hb); replace HX0 := Qa.mk (Kd.C_below HX0.out hb); replace HX1 := Qa.mk (Kd.C_below HX1.out hb); replace HX2 := Qa.mk (Kd.C_below HX2.out hb); replace HB := Qa.mk (Qj HB.out hb); refine hK.out _ _ (Qaz hb hHeld) (fun hHeld => ?_); clear hb hK K
 try simp only [Act.put, sA_, sB_, sC_]
 refine wtB_ (i := 37) ?_
 try simp only [Act.put, sA_, sB_, sC_]
 refine wtB_ (i := 38) ?_
 try simp only [Act.put, sA_, sB_, sC_]
 refine wpAnyH_done (by kernel_rfl) ?_ _; clear hHeld HY LY HX0 HX1 HX2 LX0 LX1 LX2 BB
 go_upto_region 14 with (fail)
 have q0 := (Qc BS.out 0).trans (show _ = some (Value.slice A0 l0.length c0) from rfl); have q1 := (Qc BS.out 1).trans (show _ = some (Value.slice A1 l1.length c1) from rfl); have q2 := (Qc BS.out 2).trans (show _ = some (Value.slice A2 l2.length c2) from rfl)
 by_cases her : er = 0
 ·subst her
  by_cases hfv : fav = 0
  ·subst hfv
   refine wp_region_held_drew (S := fun w' => w'.cell? ⟨fs, 0, none⟩ = some (.slice A0 l0.length c0) ∧ w'.cell? ⟨fs, 1, none⟩ = some (.slice A1 l1.length c1) ∧ w'.cell? ⟨fs, 2, none⟩ = some (.slice A2 l2.length c2)) (by kernel_rfl) ⟨q0, q1, q2⟩ (fun hHeld => ?_); clear q0 q1 q2; have hb := Vv (Below.refl wy.heap.size wy); replace BS := Qa.mk (Qq BS.out hb); replace C0 := Qa.mk (Kd.C_below C0.out hb); replace C1 := Qa.mk (Kd.C_below C1.out hb); replace C2 := Qa.mk (Kd.C_below C2.out hb); replace C3 := Qa.mk (Kd.C_below C3.out hb); replace HD := Qa.mk (Kd.C_below HD.out hb); replace HB := Qa.mk (Qj HB.out hb); clear hb
   generalize wy.drew = wx at BS C0 C1 C2 C3 HD HB hHeld ⊢
   refine wtB_ (i := 0) ?_
   try simp only [Act.put, sA_, sB_, sC_]
   refine wtB_ (i := 1) ?_
   try simp only [Act.put, sA_, sB_, sC_]
   refine wtB_ (i := 2) ?_
   try simp only [Act.put, sA_, sB_, sC_]
   refine wtB_ (i := 3) ?_
   try simp only [Act.put, sA_, sB_, sC_]
   refine wpAnyH_ready (rs := [4]) (by kernel_rfl) (by simp) ?_; refine AllReadyH.cons rfl (fun K hK => ?_) AllReadyH.nil; go_simp
   go_at_call 70
   refine (Zb.calls k D Dc d true _ HD.out LD.out (H.out.he rfl)).mono ?_; rintro e wy ⟨rfl, hb⟩; replace BS := Qa.mk (Qq BS.out hb); replace C0 := Qa.mk (Kd.C_below C0.out hb); replace C1 := Qa.mk (Kd.C_below C1.out hb); replace C2 := Qa.mk (Kd.C_below C2.out hb); replace C3 := Qa.mk (Kd.C_below C3.out hb); replace HD := Qa.mk (Kd.C_below HD.out hb); replace HB := Qa.mk (Qj HB.out hb); refine hK.out _ _ (Qdy hb hHeld) (fun hHeld => ?_); clear hb hK K
   try simp only [Act.put, sA_, sB_, sC_]
   refine wtB_ (i := 5) ?_
   try simp only [Act.put, sA_, sB_, sC_]
   refine wtB_ (i := 6) ?_
   try simp only [Act.put, sA_, sB_, sC_]
   refine wtB_ (i := 7) ?_
   try simp only [Act.put, sA_, sB_, sC_]
   refine wtB_ (i := 8) ?_
   try simp only [Act.put, sA_, sB_, sC_]
   refine wtB_ (i := 9) ?_
   try simp only [Act.put, sA_, sB_, sC_]
   refine wtB_ (i := 11) ?_
   try simp only [Act.put, sA_, sB_, sC_]
   refine wtB_ (i := 12) ?_
   try simp only [Act.put, sA_, sB_, sC_]
   refine wpAnyH_ready (rs := [10]) (by kernel_rfl) (by simp) ?_; refine AllReadyH.cons rfl (fun K hK => ?_) AllReadyH.nil; go_simp
   go_at_call 76
   refine (Zt.calls k D Dc d n _ HD.out LD.out (H.out.hn rfl rfl)).mono ?_; rintro e wy ⟨rfl, hb⟩; replace BS := Qa.mk (Qq BS.out hb); replace C0 := Qa.mk (Kd.C_below C0.out hb); replace C1 := Qa.mk (Kd.C_below C1.out hb); replace C2 := Qa.mk (Kd.C_below C2.out hb); replace C3 := Qa.mk (Kd.C_below C3.out hb); replace HD := Qa.mk (Kd.C_below HD.out hb); replace HB := Qa.mk (Qj HB.out hb); refine hK.out _ _ (Qdy hb hHeld) (fun hHeld => ?_); clear hb hK K
   try simp only [Act.put, sA_, sB_, sC_]
   refine wpAnyH_ready (rs := [13]) (by kernel_rfl) (by simp) ?_; refine AllReadyH.cons rfl (fun K hK => ?_) AllReadyH.nil; go_simp
   go_at_call 81
   refine (Xg.calls k A0 c0 l0 A1 c1 l1 A2 c2 l2 A3 c3 cs n _ C0.out LC0.out C1.out LC1.out C2.out LC2.out C3.out H.out.hq).mono ?_; rintro e wy ⟨rfl, hb⟩; replace BS := Qa.mk (Qq BS.out hb); replace C0 := Qa.mk (Kd.C_below C0.out hb); replace C1 := Qa.mk (Kd.C_below C1.out hb); replace C2 := Qa.mk (Kd.C_below C2.out hb); replace C3 := Qa.mk (Kd.C_below C3.out hb); replace HD := Qa.mk (Kd.C_below HD.out hb); replace HB := Qa.mk (Qj HB.out hb); refine hK.out _ _ (Qdy hb hHeld) (fun hHeld => ?_); clear hb hK K
   try simp only [Act.put, sA_, sB_, sC_]
   refine wtB_ (i := 14) ?_
   try simp only [Act.put, sA_, sB_, sC_]
   refine wtB_ (i := 15) ?_
   try simp only [Act.put, sA_, sB_, sC_]
   refine wtB_ (i := 16) ?_
   try simp only [Act.put, sA_, sB_, sC_]
   refine wtB_ (i := 17) ?_
   try simp only [Act.put, sA_, sB_, sC_]
   refine wtB_ (i := 18) ?_
   try simp only [Act.put, sA_, sB_, sC_]
   refine wpAnyH_done (by kernel_rfl) ?_ _; clear hHeld; go_wp2_with fail; go_ret; exact ⟨by first | rfl | simp, HB.out⟩
  ·skip
   have qf0a : decide (fav = 0) = false := decide_eq_false hfv; have qf0b : (fav != 0) = true := bne_iff_ne.mpr hfv; have qf0c : (fav == 0) = false := beq_eq_false_iff_ne.mpr hfv; refine wp_region_held_drew (S := fun w' => w'.cell? ⟨fs, 0, none⟩ = some (.slice A0 l0.length c0) ∧ w'.cell? ⟨fs, 1, none⟩ = some (.slice A1 l1.length c1) ∧ w'.cell? ⟨fs, 2, none⟩ = some (.slice A2 l2.length c2)) (by kernel_rfl) ⟨q0, q1, q2⟩ (fun hHeld => ?_); clear q0 q1 q2; have hb := Vv (Below.refl wy.heap.size wy); replace BS := Qa.mk (Qq BS.out hb); replace C0 := Qa.mk (Kd.C_below C0.out hb); replace C1 := Qa.mk (Kd.C_below C1.out hb); replace C2 := Qa.mk (Kd.C_below C2.out hb); replace C3 := Qa.mk (Kd.C_below C3.out hb); replace HD := Qa.mk (Kd.C_below HD.out hb); replace HB := Qa.mk (Qj HB.out hb); clear hb
   generalize wy.drew = wx at BS C0 C1 C2 C3 HD HB hHeld ⊢
   refine wtB_ (i := 0) ?_
   try simp only [Act.put, sA_, sB_, sC_]
   refine wtB_ (i := 1) ?_
   try simp only [Act.put, sA_, sB_, sC_]
   refine wtB_ (i := 2) ?_
   try simp only [Act.put, sA_, sB_, sC_]
   refine wtB_ (i := 3) ?_
   try simp only [Act.put, sA_, sB_, sC_]
   refine wpAnyH_ready (rs := [4]) (by kernel_rfl) (by simp) ?_; refine AllReadyH.cons rfl (fun K hK => ?_) AllReadyH.nil; go_simp
   go_at_call 70
   refine (Zb.calls k D Dc d true _ HD.out LD.out (H.out.he rfl)).mono ?_; rintro e wy ⟨rfl, hb⟩; replace BS := Qa.mk (Qq BS.out hb); replace C0 := Qa.mk (Kd.C_below C0.out hb); replace C1 := Qa.mk (Kd.C_below C1.out hb); replace C2 := Qa.mk (Kd.C_below C2.out hb); replace C3 := Qa.mk (Kd.C_below C3.out hb); replace HD := Qa.mk (Kd.C_below HD.out hb); replace HB := Qa.mk (Qj HB.out hb); refine hK.out _ _ (Qdy hb hHeld) (fun hHeld => ?_); clear hb hK K
   try simp only [Act.put, sA_, sB_, sC_]
   refine wtB_ (i := 5) ?_
   try simp only [Act.put, sA_, sB_, sC_]
   refine wtB_ (i := 6) ?_
   try simp only [Act.put, sA_, sB_, sC_]
   refine wtB_ (i := 7) ?_
   try simp only [Act.put, sA_, sB_, sC_]
   refine wtB_ (i := 8) ?_
   try simp only [Act.put, sA_, sB_, sC_]
   refine wuB_ (i := 9) ?_
   try simp only [Act.put, sA_, sB_, sC_]
   refine wuB_ (i := 10) ?_
   try simp only [Act.put, sA_, sB_, sC_]
   refine wuB_ (i := 11) ?_
   try simp only [Act.put, sA_, sB_, sC_]
   refine wuB_ (i := 12) ?_
   try simp only [Act.put, sA_, sB_, sC_]
   refine wuB_ (i := 13) ?_
   try simp only [Act.put, sA_, sB_, sC_]
   refine wuB_ (i := 14) ?_
   try simp only [Act.put, sA_, sB_, sC_]
   refine wtB_ (i := 15) ?_
   try simp only [Act.put, sA_, sB_, sC_]
   refine wtB_ (i := 16) ?_
   try simp only [Act.put, sA_, sB_, sC_]
   refine wtB_ (i := 17) ?_
   try simp only [Act.put, sA_, sB_, sC_]
   refine wtB_ (i := 18) ?_
   try simp only [Act.put, sA_, sB_, sC_]
   refine wpAnyH_done (by kernel_rfl) ?_ _; clear hHeld; go_wp2_with fail; go_ret; exact ⟨by first | rfl | simp, HB.out⟩
 ·skip
  have qe0a : decide (er = 0) = false := decide_eq_false her; have qe0b : (er != 0) = true := bne_iff_ne.mpr her; have qe0c : (er == 0) = false := beq_eq_false_iff_ne.mpr her; refine wp_region_held_drew (S := fun w' => w'.cell? ⟨fs, 0, none⟩ = some (.slice A0 l0.length c0) ∧ w'.cell? ⟨fs, 1, none⟩ = some (.slice A1 l1.length c1) ∧ w'.cell? ⟨fs, 2, none⟩ = some (.slice A2 l2.length c2)) (by kernel_rfl) ⟨q0, q1, q2⟩ (fun hHeld => ?_); clear q0 q1 q2; have hb := Vv (Below.refl wy.heap.size wy); replace BS := Qa.mk (Qq BS.out hb); replace C0 := Qa.mk (Kd.C_below C0.out hb); replace C1 := Qa.mk (Kd.C_below C1.out hb); replace C2 := Qa.mk (Kd.C_below C2.out hb); replace C3 := Qa.mk (Kd.C_below C3.out hb); replace HD := Qa.mk (Kd.C_below HD.out hb); replace HB := Qa.mk (Qj HB.out hb); clear hb
  generalize wy.drew = wx at BS C0 C1 C2 C3 HD HB hHeld ⊢
  refine wtB_ (i := 0) ?_
  try simp only [Act.put, sA_, sB_, sC_]
  refine wtB_ (i := 1) ?_
  try simp only [Act.put, sA_, sB_, sC_]
  refine wtB_ (i := 2) ?_
  try simp only [Act.put, sA_, sB_, sC_]
  refine wuB_ (i := 3) ?_
  try simp only [Act.put, sA_, sB_, sC_]
  refine wuB_ (i := 4) ?_
  try simp only [Act.put, sA_, sB_, sC_]
  refine wuB_ (i := 5) ?_
  try simp only [Act.put, sA_, sB_, sC_]
  refine wuB_ (i := 6) ?_
  try simp only [Act.put, sA_, sB_, sC_]
  refine wuB_ (i := 7) ?_
  try simp only [Act.put, sA_, sB_, sC_]
  refine wuB_ (i := 8) ?_
  try simp only [Act.put, sA_, sB_, sC_]
  refine wuB_ (i := 9) ?_
  try simp only [Act.put, sA_, sB_, sC_]
  refine wuB_ (i := 10) ?_
  try simp only [Act.put, sA_, sB_, sC_]
  refine wuB_ (i := 11) ?_
  try simp only [Act.put, sA_, sB_, sC_]
  refine wuB_ (i := 12) ?_
  try simp only [Act.put, sA_, sB_, sC_]
  refine wuB_ (i := 13) ?_
  try simp only [Act.put, sA_, sB_, sC_]
  refine wuB_ (i := 14) ?_
  try simp only [Act.put, sA_, sB_, sC_]
  refine wuB_ (i := 15) ?_
  try simp only [Act.put, sA_, sB_, sC_]
  refine wuB_ (i := 16) ?_
  try simp only [Act.put, sA_, sB_, sC_]
  refine wtB_ (i := 17) ?_
  try simp only [Act.put, sA_, sB_, sC_]
  refine wtB_ (i := 18) ?_
  try simp only [Act.put, sA_, sB_, sC_]
  refine wpAnyH_done (by kernel_rfl) ?_ _; clear hHeld; go_wp2_with fail; go_ret; exact ⟨by first | rfl | simp, HB.out⟩
end Go.Proofs.Ytadafplbgophfaa.PA
end
section
namespace Go.Proofs.Ytadafplbgophfaa.PA
open Go.RowKit Go.Proofs.YtadafplbgophfaaW.PrintWords Go.Proofs.YtadafplbgophfaaW.PrintLast Go.Proofs.YtadafplbgophfaaW.PrintMore
open DocT Pure.Res Pure.D7
theorem Qod (how : Xi) (hs : szs how ≤ 1000000000000000) : Ev (fun k => Xe.f k [how]) (decide (szs how ≤ 3000)) := by
 have := Qpf [how] (by simp) (by intro p hp; rw [List.mem_singleton.1 hp]; exact hs) 1 0 0 (by simp) (by simp) (by simp)
 have e : (0 + Uh ([how].drop 0)) = szs how := by simp [Uh]
 rw [e] at this
 exact this
theorem BuildDocs_walk (t0 t1 t2 : ByteArray) (style : Int) (how : Xi) (w : World) (hs : szs how ≤ 1000000000000000) : Calls Try.prog 16 #[.agg #[.string t0, .string t1, .string t2], .int .i64 style, .agg #[.string how.f0, .string how.f1, .string how.f2, .bool how.f3, .string how.f4, .string how.f5, .string how.f6, .string how.f7, .bool how.f8]] w fun e w' => e = .returned (.bool true) ∧ Below w.heap.size w w' := by
 obtain ⟨kf, hk⟩ := (Qod how hs).rounds; exact Yw.calls kf _ t0 t1 t2 style how w hk (fun hb => Qmm t0 t1 t2 style how (Qdw how) (of_decide_eq_true hb))
end Go.Proofs.Ytadafplbgophfaa.PA
end
