import Derived.Test.YtimlfmklbfgliaaDoorCb
import Derived.Great.BuildSlice
import Derived.Deep.OwnRows
set_option linter.unusedVariables false
namespace Mq
def NeB (b k : Nat) : Prop := k ≠ b
end Mq
namespace Go.Proofs.YtimlfmklbfgliaaDoor
open Go.RowKit Mq

theorem Ar.keepNe {W W' : World} {X : Nat → Prop} {a mb : Nat} {ns : List Nd} {most : Nat} (h : Ar W X a ns most) (hx : X mb) (hk : Keep (NeB mb) W W') : Ar W' X a ns most := by
  obtain ⟨sb, g, cap, cur, h⟩ := h
  exact ⟨sb, g, cap, cur, h.moved (fun k hk1 hk2 => hk.block k (by rintro rfl; exact h.not_x hk2 hx) hk1) (fun k hk1 => Nat.lt_of_lt_of_le (h.low k hk1) hk.size) (fun k _ hk => h.not_x hk)⟩
/-- The rows' cells, when i of them are there. -/
def rowsC (R : Nat → Att) (i : Nat) : Array Value := ((List.range 16).flatMap fun t => attc (if t < i then R t else noAtt)).toArray
set_option maxRecDepth 100000 in
theorem rowsC_set (R : Nat → Att) (i : Nat) (hi : i < 16) :
    ((((rowsC R i).setIfInBounds (i * 4) (.bool (R i).ok)).setIfInBounds (i * 4 + 1) (.int .i64 (R i).pref)).setIfInBounds (i * 4 + 2) (.int .i64 (R i).cost)).setIfInBounds (i * 4 + 3) (.int .u8 (R i).tags) = rowsC R (i + 1) := by
  have h : i = 0 ∨ i = 1 ∨ i = 2 ∨ i = 3 ∨ i = 4 ∨ i = 5 ∨ i = 6 ∨ i = 7 ∨ i = 8 ∨ i = 9 ∨ i = 10 ∨ i = 11 ∨ i = 12 ∨ i = 13 ∨ i = 14 ∨ i = 15 := by omega
  rcases h with rfl | rfl | rfl | rfl | rfl | rfl | rfl | rfl | rfl | rfl | rfl | rfl | rfl | rfl | rfl | rfl <;> (show _ = _; kernel_rfl)
theorem rowsC_index (W : World) (R : Nat → Att) (i : Nat) (hi : i < 16) : (Instr.index 50 (.agg (rowsC R 16)) (.int .i64 i)).run Tryd.prog W = .ok (.agg #[.bool (R i).ok, .int .i64 (R i).pref, .int .i64 (R i).cost, .int .u8 (R i).tags]) W := by
  have h : i = 0 ∨ i = 1 ∨ i = 2 ∨ i = 3 ∨ i = 4 ∨ i = 5 ∨ i = 6 ∨ i = 7 ∨ i = 8 ∨ i = 9 ∨ i = 10 ∨ i = 11 ∨ i = 12 ∨ i = 13 ∨ i = 14 ∨ i = 15 := by omega
  rcases h with rfl | rfl | rfl | rfl | rfl | rfl | rfl | rfl | rfl | rfl | rfl | rfl | rfl | rfl | rfl | rfl <;> (show _ = _; kernel_rfl)
theorem rowsC_size (R : Nat → Att) (i : Nat) : (rowsC R i).size = 64 := by simp [rowsC, attc, List.range, List.range.loop]
/-- The numbers' cells. -/
def outC (L : List Nat) : Array Value := ((List.range 24).map fun j => Value.int .i64 (L.getD j 0 : Nat)).toArray
theorem outC_set (L : List Nat) (u : Nat) (h : L.length < 24) : (outC L).setIfInBounds L.length (.int .i64 u) = outC (L ++ [u]) := by
  apply Array.ext
  · simp [outC]
  · intro j h1 h2
    simp [outC] at h1
    rw [Array.getElem_setIfInBounds (by simpa [outC] using h1)]
    simp only [outC, List.getElem_toArray, List.getElem_map, List.getElem_range]
    by_cases e : L.length = j
    · subst e; simp
    · rw [if_neg e]
      by_cases q : j < L.length
      · simp [List.getD_eq_getElem?_getD, List.getElem?_append_left q]
      · simp [List.getD_eq_getElem?_getD, List.getElem?_eq_none (show L.length ≤ j by omega), List.getElem?_eq_none (show (L ++ [u]).length ≤ j by simp; omega)]
/-- The policy, to the number: so many of its diagrams. -/
def polP (most : Nat) (T : Nat → Nat → Bool) : Nat → List Nd → List Nd × List Nat × Nat
  | 0, ns => (ns, [], 0)
  | k + 1, ns =>
    if (polP most T k ns).2.2 = 0 then
      (if (tbP most (T k) 4 0 0 (polP most T k ns).1).2.2 = 0 then
        ((tbP most (T k) 4 0 0 (polP most T k ns).1).1, (polP most T k ns).2.1 ++ [(tbP most (T k) 4 0 0 (polP most T k ns).1).2.1], 0)
      else ((tbP most (T k) 4 0 0 (polP most T k ns).1).1, [], (tbP most (T k) 4 0 0 (polP most T k ns).1).2.2))
    else polP most T k ns
theorem pol_stop {most : Nat} {T : Nat → Nat → Bool} {ns : List Nd} {k : Nat} (h : (polP most T k ns).2.2 ≠ 0) (m : Nat) (hm : k ≤ m) : polP most T m ns = polP most T k ns := by
  obtain ⟨d, rfl⟩ : ∃ d, m = k + d := ⟨m - k, by omega⟩
  clear hm
  induction d with
  | zero => rfl
  | succ d ih => rw [← Nat.add_assoc, polP, ih, if_neg h]
set_option maxRecDepth 100000 in
theorem rowsC_at (R : Nat → Att) (i : Nat) (hi : i < 16) : (rowsC R i)[i * 4]? = some (.bool false) ∧ (rowsC R i)[i * 4 + 1]? = some (.int .i64 0) ∧ (rowsC R i)[i * 4 + 2]? = some (.int .i64 0) ∧ (rowsC R i)[i * 4 + 3]? = some (.int .u8 0) := by
  have h : i = 0 ∨ i = 1 ∨ i = 2 ∨ i = 3 ∨ i = 4 ∨ i = 5 ∨ i = 6 ∨ i = 7 ∨ i = 8 ∨ i = 9 ∨ i = 10 ∨ i = 11 ∨ i = 12 ∨ i = 13 ∨ i = 14 ∨ i = 15 := by omega
  rcases h with rfl | rfl | rfl | rfl | rfl | rfl | rfl | rfl | rfl | rfl | rfl | rfl | rfl | rfl | rfl | rfl <;> exact ⟨rfl, rfl, rfl, rfl⟩
theorem heap4c (w : World) (o1 o2 o3 o4 : Obj) : ((((w.alloc o1).alloc o2).alloc o3).alloc o4).heap[w.heap.size]? = some o1 ∧ ((((w.alloc o1).alloc o2).alloc o3).alloc o4).heap[w.heap.size + 1]? = some o2 ∧
    ((((w.alloc o1).alloc o2).alloc o3).alloc o4).heap[w.heap.size + 1 + 1]? = some o3 ∧ ((((w.alloc o1).alloc o2).alloc o3).alloc o4).heap[w.heap.size + 1 + 1 + 1]? = some o4 ∧ ((((w.alloc o1).alloc o2).alloc o3).alloc o4).heap.size = w.heap.size + 4 := by
  have g1 := gb_new w o1
  have g2 := gb_new (w.alloc o1) o2
  have g3 := gb_new ((w.alloc o1).alloc o2) o3
  have g4 := gb_new (((w.alloc o1).alloc o2).alloc o3) o4
  simp only [World.size_alloc] at g2 g3 g4
  exact ⟨gb_old _ _ (gb_old _ _ (gb_old _ _ g1)), gb_old _ _ (gb_old _ _ g2), gb_old _ _ g3, g4, by simp⟩
def edT (e : EdV) (k t : Nat) : Bool := bitN (edRow e t) k
theorem kp_set {W : World} {X : Nat → Prop} {p : Addr} (h : ¬ X p.block) (v : Value) : Keep X W (W.setCell p v) :=
  ⟨rfl, rfl, rfl, by simp [World.setCell], fun k hk _ => Below.heap_setCell _ _ _ _ (by rintro rfl; exact h hk)⟩
theorem bool_info14 : (Tryd.prog.info? 4).map (fun i => (i.zero, i.size, i.bytes)) = some (some (.bool false), 1, 1) := by kernel_rfl
theorem outC_size (L : List Nat) : (outC L).size = 24 := by simp [outC]
theorem outC_at (L : List Nat) (k : Nat) (h : L.length = k) (hk : k < 24) : (outC L)[k]? = some (.int .i64 0) := by
  subst h
  simp [outC, hk]
theorem outC_one (L : List Nat) : (outC L).all (·.oneCell') = true := by
  simp [outC, Value.oneCell']
theorem co_results (W : World) (tmps : Array Value) (b : Nat) (v : Value) (L : List Nat) (h4 : tmps.getD 4 undef = .pointer (some ⟨b, 0, none⟩)) (h5 : tmps.getD 5 undef = v)
    (hb : W.heap[b]? = some (.cells (outC L) 29 (0, 0))) : (results Tryd.f6 tmps).run Tryd.prog W = .ok (.tuple #[.agg (outC L), v]) W := by
  have h4' : tmps[4]?.getD undef = .pointer (some ⟨b, 0, none⟩) := by simpa using h4
  have h5' : tmps[5]?.getD undef = v := by simpa using h5
  have hl := run_loadVar_row (P := Tryd.prog) W b 29 29 (outC L) (0, 0) _ hb Tryd.underlying29 rfl (by rw [outC_size]; kernel_rfl)
  simp [results, Tryd.results6, asAddr, h4', h5', hl]
theorem row_keep {W : World} {X : Nat → Prop} {g : Nat} (h : ¬ X g) (cs : Array Value) : Keep X W (W.setRow g cs) :=
  ⟨rfl, rfl, rfl, by simp [World.setRow], fun k hk _ => setRow_other W g k cs (by rintro rfl; exact h hk)⟩
structure CoRel (X : Nat → Prop) (a most : Nat) (ns : List Nd) (e : EdV) (W1 wr : World) (ob k : Nat) : Prop where
  fine : (polP most (edT e) k ns).2.2 = 0
  ar : Ar wr X a (polP most (edT e) k ns).1 most
  keep : Keep (fun q => X q ∧ q ≠ ob) W1 wr
  out : wr.heap[ob]? = some (.cells (outC (polP most (edT e) k ns).2.1) 29 (0, 0))
  len : (polP most (edT e) k ns).2.1.length = k
def OfPost14 (X : Nat → Prop) (a most : Nat) (W : World) (p : List Nd × List Nat × Nat) (e : Ending) (W' : World) : Prop :=
  e = .returned (.tuple #[.agg (outC p.2.1), errv p.2.2]) ∧ Ar W' X a p.1 most ∧ Keep X W W'
/-- What lies in memory while a policy is made. -/
structure CoBox (e : EdV) (W : World) (B : Nat) : Prop where
  eb : W.heap[B]? = some (.cells #[.int .i64 e.from_, .int .i64 e.cost, .slice e.ex.A e.ex.l.length e.ex.cap, .slice e.im.A e.im.l.length e.im.cap] 36)
  pb : W.heap[B + 1]? = some (.cells (outC []) 29 (0, 0))
set_option maxRecDepth 100000 in
set_option maxHeartbeats 8000000 in
theorem compOf_any {w : World} {X : Nat → Prop} {a : Nat} {ns : List Nd} {most : Nat} (h : Ar w X a ns most) (e : EdV) (he : EdOk w e) :
    Calls Tryd.prog 6 #[.pointer (some ⟨a, 0, none⟩), .agg #[.int .i64 e.from_, .int .i64 e.cost, .slice e.ex.A e.ex.l.length e.ex.cap, .slice e.im.A e.im.l.length e.im.cap]] w (OfPost14 X a most w (polP most (edT e) 24 ns)) := by
  have H := Lib.hid h
  have HE := Lib.hid he
  clear h he
  go_enter Tryd.func6, Tryd.ntmps6
  go_wp2_with fail
  obtain ⟨e1, e2, e3, e4, e5⟩ := heap4c w (.cells #[.int .i64 e.from_, .int .i64 e.cost, .slice e.ex.A e.ex.l.length e.ex.cap, .slice e.im.A e.im.l.length e.im.cap] 36) (.cells #[.int .i64 0, .int .i64 0, .int .i64 0, .int .i64 0, .int .i64 0, .int .i64 0, .int .i64 0, .int .i64 0, .int .i64 0, .int .i64 0, .int .i64 0, .int .i64 0, .int .i64 0, .int .i64 0, .int .i64 0, .int .i64 0, .int .i64 0, .int .i64 0, .int .i64 0, .int .i64 0, .int .i64 0, .int .i64 0, .int .i64 0, .int .i64 0] 29) (.cells #[.int .i64 0, .int .i64 0, .int .i64 0, .int .i64 0, .int .i64 0, .int .i64 0, .int .i64 0, .int .i64 0, .int .i64 0, .int .i64 0, .int .i64 0, .int .i64 0, .int .i64 0, .int .i64 0, .int .i64 0, .int .i64 0, .int .i64 0, .int .i64 0, .int .i64 0, .int .i64 0, .int .i64 0, .int .i64 0, .int .i64 0, .int .i64 0] 29) (.cells #[.bool false, .int .i64 0, .int .i64 0, .int .u8 0, .bool false, .int .i64 0, .int .i64 0, .int .u8 0, .bool false, .int .i64 0, .int .i64 0, .int .u8 0, .bool false, .int .i64 0, .int .i64 0, .int .u8 0, .bool false, .int .i64 0, .int .i64 0, .int .u8 0, .bool false, .int .i64 0, .int .i64 0, .int .u8 0, .bool false, .int .i64 0, .int .i64 0, .int .u8 0, .bool false, .int .i64 0, .int .i64 0, .int .u8 0, .bool false, .int .i64 0, .int .i64 0, .int .u8 0, .bool false, .int .i64 0, .int .i64 0, .int .u8 0, .bool false, .int .i64 0, .int .i64 0, .int .u8 0, .bool false, .int .i64 0, .int .i64 0, .int .u8 0, .bool false, .int .i64 0, .int .i64 0, .int .u8 0, .bool false, .int .i64 0, .int .i64 0, .int .u8 0, .bool false, .int .i64 0, .int .i64 0, .int .u8 0, .bool false, .int .i64 0, .int .i64 0, .int .u8 0] 50)
  have hB := gb_alloc (gb_alloc (gb_alloc (gb_alloc (Below.refl w.heap.size w) (.cells #[.int .i64 e.from_, .int .i64 e.cost, .slice e.ex.A e.ex.l.length e.ex.cap, .slice e.im.A e.im.l.length e.im.cap] 36)) (.cells #[.int .i64 0, .int .i64 0, .int .i64 0, .int .i64 0, .int .i64 0, .int .i64 0, .int .i64 0, .int .i64 0, .int .i64 0, .int .i64 0, .int .i64 0, .int .i64 0, .int .i64 0, .int .i64 0, .int .i64 0, .int .i64 0, .int .i64 0, .int .i64 0, .int .i64 0, .int .i64 0, .int .i64 0, .int .i64 0, .int .i64 0, .int .i64 0] 29)) (.cells #[.int .i64 0, .int .i64 0, .int .i64 0, .int .i64 0, .int .i64 0, .int .i64 0, .int .i64 0, .int .i64 0, .int .i64 0, .int .i64 0, .int .i64 0, .int .i64 0, .int .i64 0, .int .i64 0, .int .i64 0, .int .i64 0, .int .i64 0, .int .i64 0, .int .i64 0, .int .i64 0, .int .i64 0, .int .i64 0, .int .i64 0, .int .i64 0] 29)) (.cells #[.bool false, .int .i64 0, .int .i64 0, .int .u8 0, .bool false, .int .i64 0, .int .i64 0, .int .u8 0, .bool false, .int .i64 0, .int .i64 0, .int .u8 0, .bool false, .int .i64 0, .int .i64 0, .int .u8 0, .bool false, .int .i64 0, .int .i64 0, .int .u8 0, .bool false, .int .i64 0, .int .i64 0, .int .u8 0, .bool false, .int .i64 0, .int .i64 0, .int .u8 0, .bool false, .int .i64 0, .int .i64 0, .int .u8 0, .bool false, .int .i64 0, .int .i64 0, .int .u8 0, .bool false, .int .i64 0, .int .i64 0, .int .u8 0, .bool false, .int .i64 0, .int .i64 0, .int .u8 0, .bool false, .int .i64 0, .int .i64 0, .int .u8 0, .bool false, .int .i64 0, .int .i64 0, .int .u8 0, .bool false, .int .i64 0, .int .i64 0, .int .u8 0, .bool false, .int .i64 0, .int .i64 0, .int .u8 0, .bool false, .int .i64 0, .int .i64 0, .int .u8 0] 50)
  have hA := H.out.below_more hB
  generalize ((((w.alloc (.cells #[.int .i64 e.from_, .int .i64 e.cost, .slice e.ex.A e.ex.l.length e.ex.cap, .slice e.im.A e.im.l.length e.im.cap] 36)).alloc (.cells #[.int .i64 0, .int .i64 0, .int .i64 0, .int .i64 0, .int .i64 0, .int .i64 0, .int .i64 0, .int .i64 0, .int .i64 0, .int .i64 0, .int .i64 0, .int .i64 0, .int .i64 0, .int .i64 0, .int .i64 0, .int .i64 0, .int .i64 0, .int .i64 0, .int .i64 0, .int .i64 0, .int .i64 0, .int .i64 0, .int .i64 0, .int .i64 0] 29)).alloc (.cells #[.int .i64 0, .int .i64 0, .int .i64 0, .int .i64 0, .int .i64 0, .int .i64 0, .int .i64 0, .int .i64 0, .int .i64 0, .int .i64 0, .int .i64 0, .int .i64 0, .int .i64 0, .int .i64 0, .int .i64 0, .int .i64 0, .int .i64 0, .int .i64 0, .int .i64 0, .int .i64 0, .int .i64 0, .int .i64 0, .int .i64 0, .int .i64 0] 29)).alloc (.cells #[.bool false, .int .i64 0, .int .i64 0, .int .u8 0, .bool false, .int .i64 0, .int .i64 0, .int .u8 0, .bool false, .int .i64 0, .int .i64 0, .int .u8 0, .bool false, .int .i64 0, .int .i64 0, .int .u8 0, .bool false, .int .i64 0, .int .i64 0, .int .u8 0, .bool false, .int .i64 0, .int .i64 0, .int .u8 0, .bool false, .int .i64 0, .int .i64 0, .int .u8 0, .bool false, .int .i64 0, .int .i64 0, .int .u8 0, .bool false, .int .i64 0, .int .i64 0, .int .u8 0, .bool false, .int .i64 0, .int .i64 0, .int .u8 0, .bool false, .int .i64 0, .int .i64 0, .int .u8 0, .bool false, .int .i64 0, .int .i64 0, .int .u8 0, .bool false, .int .i64 0, .int .i64 0, .int .u8 0, .bool false, .int .i64 0, .int .i64 0, .int .u8 0, .bool false, .int .i64 0, .int .i64 0, .int .u8 0, .bool false, .int .i64 0, .int .i64 0, .int .u8 0] 50)) = W at *
  have E1 := Lib.hid e1
  have E2 : Hid (W.heap[w.heap.size + 1]? = some (.cells (outC []) 29 (0, 0))) := Lib.hid e2
  have E3 : Hid (W.heap[w.heap.size + 1 + 1]? = some (.cells (outC []) 29 (0, 0))) := Lib.hid e3
  have E4 : Hid (W.heap[w.heap.size + 1 + 1 + 1]? = some (.cells (rowsC (edRow e) 0) 50 (0, 0))) := Lib.hid e4
  have E5 := Lib.hid e5
  have BW := Lib.hid hB
  have AW := Lib.hid hA
  clear e1 e2 e3 e4 e5 hB hA
  go_loopw [15] (fun j wr => ∃ i : Nat, j = .int .i64 i ∧ i ≤ 16 ∧ Keep (NeB (w.heap.size + 1 + 1 + 1)) W wr ∧ wr.heap[w.heap.size + 1 + 1 + 1]? = some (.cells (rowsC (edRow e) i) 50 (0, 0))) (fun j _ => 16 - (intOf j).toNat)
  case atStart => exact ⟨0, rfl, by omega, Keep.refl _ _, E4.out⟩
  case round =>
    obtain ⟨i, rfl, hi, hK, hr⟩ := hrel
    have KK := Lib.hid hK
    have RR := Lib.hid hr
    clear hK hr
    have eb : wr.heap[w.heap.size]? = _ := (KK.out.block w.heap.size (show w.heap.size ≠ w.heap.size + 1 + 1 + 1 by omega) (gb_lt E1.out)).trans E1.out
    have BR : Hid (Below w.heap.size w wr) := Lib.hid ⟨KK.out.os.trans BW.out.os, KK.out.tape.trans BW.out.tape, KK.out.output.trans BW.out.output, Nat.le_trans BW.out.size KK.out.size, fun q hq => (KK.out.block q (show q ≠ _ by omega) (Nat.lt_of_lt_of_le hq BW.out.size)).trans (BW.out.block q hq)⟩
    by_cases hlt : i < 16
    · obtain ⟨q0, q1, q2, q3⟩ := gb_cells4 eb
      clear eb
      go_wp2_with fail
      refine (row_any e i (by omega) wr (HE.out.below BR.out)).mono ?_
      rintro en w2 ⟨rfl, hb2⟩
      have r2 := gb_blk hb2 RR.out (gb_lt RR.out)
      have R2 := Lib.hid r2
      obtain ⟨z0, z1, z2, z3⟩ := rowsC_at (edRow e) i hlt
      have c0 := (gb_cell r2 (i * 4)).trans z0
      have c1 := (gb_cell r2 (i * 4 + 1)).trans z1
      have c2 := (gb_cell r2 (i * 4 + 2)).trans z2
      have c3 := (gb_cell r2 (i * 4 + 3)).trans z3
      have f0 := gb_free r2 (i * 4)
      have f1 := gb_free r2 (i * 4 + 1)
      have f2 := gb_free r2 (i * 4 + 2)
      have f3 := gb_free r2 (i * 4 + 3)
      have HS := Lib.hid (rowsC_set (edRow e) i hlt)
      have K2 := Lib.hid (KK.out.trans (Keep.below (X := NeB (w.heap.size + 1 + 1 + 1)) hb2))
      generalize hq : edRow e i = q at *
      clear q0 q1 q2 q3 r2 z0 z1 z2 z3 hb2 hq
      go_wp2_with fail
      go_roundw
      case rel => exact ⟨i + 1, by go_num, by omega, (((K2.out.trans (kp_set (fun h => h rfl) _)).trans (kp_set (fun h => h rfl) _)).trans (kp_set (fun h => h rfl) _)).trans (kp_set (fun h => h rfl) _), by rw [gb_set (gb_set (gb_set (gb_set R2.out _ _) _ _) _ _) _ _, HS.out]⟩
      case measure => simp [intOf] <;> omega
    · have hi' : i = 16 := by omega
      subst hi'
      have hne : ∀ q, X q → q ≠ w.heap.size + 1 + 1 + 1 := fun q hq => by have := H.out.low q hq; omega
      have A1 := Lib.hid (AW.out.keepNe (mb := w.heap.size + 1 + 1 + 1) (.inr ⟨by omega, by have := E5.out; omega⟩) KK.out)
      have K1 : Hid (Keep X w wr) := Lib.hid ((Keep.below BW.out).trans (KK.out.mono hne))
      have P1 := Lib.hid ((KK.out.block (w.heap.size + 1) (show w.heap.size + 1 ≠ _ by omega) (gb_lt E2.out)).trans E2.out)
      have Q1 := Lib.hid ((KK.out.block (w.heap.size + 1 + 1) (show w.heap.size + 1 + 1 ≠ _ by omega) (gb_lt E3.out)).trans E3.out)
      clear eb BR KK hne
      obtain ⟨W1, hW1⟩ : ∃ W1, W1 = wr := ⟨_, rfl⟩
      subst hW1
      go_wp2_with fail
      go_loopw [28] (fun j wr => ∃ k : Nat, j = .int .i64 k ∧ k ≤ 24 ∧ CoRel (fun q => X q ∨ w.heap.size ≤ q ∧ q < W.heap.size) a most ns e W1 wr (w.heap.size + 1 + 1) k) (fun j _ => 24 - (intOf j).toNat)
      case atStart => exact ⟨0, rfl, by omega, rfl, A1.out, Keep.refl _ _, Q1.out, rfl⟩
      case round =>
        obtain ⟨k, rfl, hk, hrel⟩ := hrel
        have R := Lib.hid hrel
        clear hrel
        have hX : ∀ q, w.heap.size ≤ q → q < w.heap.size + 4 → (X q ∨ w.heap.size ≤ q ∧ q < W.heap.size) := fun q h1 h2 => .inr ⟨h1, by have := E5.out; omega⟩
        have HX := Lib.hid hX
        clear hX
        by_cases hlt : k < 24
        · have hmk : ∀ w, (Instr.makeSlice 53 (.int .i64 16) (.int .i64 16)).run Tryd.prog w = .ok (.slice (some ⟨w.heap.size, 0, none⟩) 16 16) (w.alloc (.cells (madeCells #[.bool false] 16) 4)) :=
            fun w => run_make_row' (P := Tryd.prog) 53 4 (.bool false) 1 Tryd.underlying53 bool_info14 rfl .i64 .i64 16 (by omega) (by omega) w
          go_upto_region 12 with fail
          clear hmk
          have hR := World.rowIs_made wr (.bool false) 16 4
          have hA := R.out.ar.alloc (.cells (madeCells #[.bool false] 16) 4)
          have hb := gb_alloc (Below.refl wr.heap.size wr) (.cells (madeCells #[.bool false] 16) 4)
          generalize wr.alloc (.cells (madeCells #[.bool false] 16) 4) = W2 at *
          generalize htb : wr.heap.size = tb at *
          have hr2 : W2.heap[w.heap.size + 1 + 1 + 1]? = some (.cells (rowsC (edRow e) 16) 50 (0, 0)) :=
            ((hb.block _ (by have := gb_lt RR.out; have := R.out.keep.size; omega)).trans (R.out.keep.block _ ⟨HX.out _ (by omega) (by omega), by omega⟩ (gb_lt RR.out))).trans RR.out
          have HR2 := Lib.hid hr2
          have TR0 := Lib.hid hR
          have A2 := Lib.hid hA
          have B2 := Lib.hid hb
          have HTB := Lib.hid htb
          clear hR hA hb htb hr2
          go_upto_region 13 with (refine wpList_load_row rfl 50 _ rfl (w.heap.size + 1 + 1 + 1) rfl 50 (rowsC (edRow e) 16) (0, 0) _ HR2.out Tryd.underlying50 rfl (by rw [rowsC_size]; kernel_rfl) ?_)
          have KF : Hid (w.heap.size + 4 ≤ W1.heap.size) := Lib.hid (by have := gb_lt RR.out; omega)
          have HI := Lib.hid (fun W i hi => rowsC_index W (edRow e) i hi)
          generalize rowsC (edRow e) 16 = RA at *
          go_wp2_with fail
          have htw : w.heap.size + 4 ≤ tb := by have := R.out.keep.size; have := KF.out; have := HTB.out; omega
          go_loopw [33] (fun j wr => ∃ i : Nat, j = .int .i64 i ∧ i ≤ 16 ∧ Keep (NeB tb) W2 wr ∧ wr.rowIs tb 4 16 (fun t => .bool (decide (t < i) && edT e k t))) (fun j _ => 16 - (intOf j).toNat)
          case atStart => exact ⟨0, rfl, by omega, Keep.refl _ _, TR0.out.congr fun j hj => by simp⟩
          case round =>
            obtain ⟨i, rfl, hi, hk3, hr3⟩ := hrel
            have K3 := Lib.hid hk3
            have R3 := Lib.hid hr3
            clear hk3 hr3
            by_cases hli : i < 16
            · have hix := fun W => HI.out W i hli
              have HQ := Lib.hid (edRow_row e i)
              have HT : Hid (edT e k i = bitN (edRow e i) k) := Lib.hid rfl
              go_upto_region 15 with fail
              have n0 := gb_new wr (.cells #[.bool (edRow e i).ok, .int .i64 (edRow e i).pref, .int .i64 (edRow e i).cost, .int .u8 (edRow e i).tags] 49)
              have hb4 := gb_alloc (Below.refl wr.heap.size wr) (.cells #[.bool (edRow e i).ok, .int .i64 (edRow e i).pref, .int .i64 (edRow e i).cost, .int .u8 (edRow e i).tags] 49)
              generalize edRow e i = q at *
              generalize wr.alloc (.cells #[.bool q.ok, .int .i64 q.pref, .int .i64 q.cost, .int .u8 q.tags] 49) = W4 at *
              obtain ⟨q0, q1, q2, q3⟩ := gb_cells4 n0
              have B4 := Lib.hid hb4
              clear n0 hb4 hix
              go_wp2_with fail
              refine (bit_any q HQ.out k hlt W4).mono ?_
              rintro en w5 ⟨rfl, hb5⟩
              have K5 := Lib.hid ((K3.out.trans (Keep.below (X := NeB tb) B4.out)).trans (Keep.below (X := NeB tb) hb5))
              have R5 := Lib.hid ((R3.out.of_block (B4.out.block tb R3.out.lt)).of_block (hb5.block tb (Nat.lt_of_lt_of_le R3.out.lt B4.out.size)))
              have d0 := R5.out.cell hli
              have d1 := R5.out.frozen i
              clear q0 q1 q2 q3 hb5
              rw [← HT.out]
              go_wp2_with fail
              go_roundw
              case rel =>
                refine ⟨i + 1, by go_num, by omega, K5.out.trans (kp_set (fun h => h rfl) _), (R5.out.set i _).congr fun j hj => ?_⟩
                by_cases e' : j = i
                · subst e'; simp
                · rw [if_neg e']
                  have : decide (j < i) = decide (j < i + 1) := by rw [decide_eq_decide]; omega
                  rw [this]
              case measure => simp [intOf] <;> omega
            · have hi' : i = 16 := by omega
              subst hi'
              have A3 : Hid (Ar wr (fun q => (X q ∨ w.heap.size ≤ q ∧ q < W.heap.size) ∨ q = tb) a (polP most (edT e) k ns).1 most) := Lib.hid (by have := A2.out.keepNe (mb := tb) (.inr rfl) K3.out; exact this)
              have K13 : Hid (Keep (fun q => (X q ∨ w.heap.size ≤ q ∧ q < W.heap.size) ∧ q ≠ w.heap.size + 1 + 1) W1 wr) := Lib.hid ((R.out.keep.trans (Keep.below (show Below _ _ _ by have := B2.out; rw [← HTB.out] at this; exact this))).trans (K3.out.mono fun q hq => by
                have := HX.out
                have := E5.out
                rcases hq.1 with h | h
                · have := H.out.low q h; show q ≠ tb; omega
                · show q ≠ tb; omega))
              have RA3 : Hid (RowsAt wr tb 0 16 (edT e k)) := Lib.hid fun j hj => by rw [Nat.zero_add, R3.out.cell hj]; simp [hj]
              have O3 : Hid (wr.heap[w.heap.size + 1 + 1]? = some (.cells (outC (polP most (edT e) k ns).2.1) 29 (0, 0))) := Lib.hid (((K3.out.block _ (show w.heap.size + 1 + 1 ≠ tb by omega) (by have := gb_lt R.out.out; have := B2.out.size; omega)).trans (B2.out.block _ (by have := gb_lt R.out.out; omega))).trans R.out.out)
              have PN : Hid (polP most (edT e) (k + 1) ns = _) := Lib.hid (by rw [polP, if_pos R.out.fine])
              have FN := Lib.hid R.out.fine
              have LN := Lib.hid R.out.len
              generalize hpl : polP most (edT e) k ns = pl at *
              obtain ⟨nk, Lk, ek⟩ := pl
              simp only at *
              go_wp2_with fail
              refine (tbuildX A3.out (rb := tb) (.inr rfl) 0 4 16 16 rfl (by omega) (edT e k) (by omega) (by omega) RA3.out).mono ?_
              generalize tbP most (edT e k) 4 0 0 nk = tp at *
              obtain ⟨n5, u, er⟩ := tp
              rintro en w5 ⟨rfl, hA5, hk5⟩
              simp only at hA5 hk5 ⊢
              have P5 := Lib.hid ((hk5.block (w.heap.size + 1) (.inl (HX.out _ (by omega) (by omega))) (by have := gb_lt P1.out; have := K13.out.size; omega)).trans ((K13.out.block (w.heap.size + 1) ⟨HX.out _ (by omega) (by omega), by omega⟩ (gb_lt P1.out)).trans P1.out))
              have O5 := Lib.hid ((hk5.block (w.heap.size + 1 + 1) (.inl (HX.out _ (by omega) (by omega))) (gb_lt O3.out)).trans O3.out)
              have A5 := Lib.hid (hA5.mono fun q hq => Or.inl hq)
              have K5 := Lib.hid (K13.out.trans (hk5.mono fun q hq => .inl hq.1))
              clear hA5 hk5
              by_cases hz : er = 0
              · subst hz
                simp only [if_true] at PN
                have he0 : errv 0 = .nilIface := rfl
                rw [he0]
                have d0 := (gb_cell O5.out k).trans (outC_at Lk k LN.out hlt)
                have f0 := gb_free O5.out k
                have hs := gb_set O5.out k (.int .i64 u)
                have hset := outC_set Lk u (by rw [LN.out]; exact hlt)
                rw [LN.out] at hset
                rw [hset] at hs
                have HS := Lib.hid hs
                clear hs hset he0
                have A6 := Lib.hid (A5.out.keepNe (W' := w5.setCell ⟨w.heap.size + 1 + 1, k, none⟩ (.int .i64 u)) (mb := w.heap.size + 1 + 1) (HX.out _ (by omega) (by omega)) (kp_set (fun h => h rfl) _))
                have HREL : Hid (CoRel (fun q => X q ∨ w.heap.size ≤ q ∧ q < W.heap.size) a most ns e W1 (w5.setCell ⟨w.heap.size + 1 + 1, k, none⟩ (.int .i64 u)) (w.heap.size + 1 + 1) (k + 1)) := Lib.hid
                  ⟨by rw [PN.out], by rw [PN.out]; exact A6.out, K5.out.trans (kp_set (fun h => h.2 rfl) _), by rw [PN.out]; exact HS.out, by rw [PN.out, List.length_append, LN.out]; rfl⟩
                go_wp2_with fail
                go_roundw
                case rel => ((repeat apply Exists.intro); exact ⟨⟨k + 1, by go_num, by omega, HREL.out⟩, rfl⟩)
                case measure => simp [intOf] <;> omega
              · simp only [if_neg hz] at PN
                have he : errv er = .iface 38 (.int .i64 er) := if_neg hz
                rw [he]
                have HEV := Lib.hid he
                have PF := Lib.hid (pol_stop (most := most) (T := edT e) (ns := ns) (k := k + 1) (by rw [PN.out]; exact hz) 24 (by omega))
                clear he hz
                go_wp2_with (refine wpList_store_rowTo rfl 29 _ _ rfl rfl (w.heap.size + 1) (outC []) rfl rfl 29 (outC []) P5.out (by kernel_rfl) rfl (by kernel_rfl) ?_)
                refine bodyPost_ret (co_results _ _ (w.heap.size + 1) _ [] rfl rfl (setRow_heap _ _ _ _ _ _ P5.out)) rfl ?_
                unfold OfPost14
                rw [PF.out, PN.out]
                refine ⟨by rw [HEV.out]; rfl, ?_, ?_⟩
                · have := A5.out.keepNe (mb := w.heap.size + 1) (HX.out _ (by omega) (by omega)) (row_keep (W := w5) (fun h => h rfl) (outC []))
                  exact this.mono fun q hq => .inl hq
                · refine (K1.out.trans (K5.out.mono fun q hq => ⟨.inl hq, by have := H.out.low q hq; omega⟩)).trans (row_keep (fun hq => by have := H.out.low _ hq; omega) _)
        · have hk' : k = 24 := by omega
          subst hk'
          have O5 := Lib.hid R.out.out
          have P5 := Lib.hid ((R.out.keep.block (w.heap.size + 1) ⟨HX.out _ (by omega) (by omega), by omega⟩ (gb_lt P1.out)).trans P1.out)
          have AF := Lib.hid R.out.ar
          have KF := Lib.hid (K1.out.trans (R.out.keep.mono fun q hq => ⟨.inl hq, by have := H.out.low q hq; omega⟩))
          have FF := Lib.hid R.out.fine
          obtain ⟨LL, hLL⟩ : ∃ LL, LL = (polP most (edT e) 24 ns).2.1 := ⟨_, rfl⟩
          rw [← hLL] at O5
          have HLL := Lib.hid hLL
          clear hLL
          go_wp2_with (first
            | (refine wpList_load_row rfl 29 _ rfl (w.heap.size + 1 + 1) rfl 29 (outC LL) (0, 0) _ O5.out Tryd.underlying29 rfl (by rw [outC_size]; kernel_rfl) ?_)
            | (refine wpList_store_rowTo rfl 29 _ _ rfl rfl (w.heap.size + 1) (outC LL) rfl rfl 29 (outC []) P5.out (by rw [outC_size]; kernel_rfl) (by rw [outC_size, outC_size]) (outC_one LL) ?_))
          refine bodyPost_ret (co_results _ _ (w.heap.size + 1) _ LL rfl rfl (setRow_heap _ _ _ _ _ _ P5.out)) rfl ?_
          unfold OfPost14
          refine ⟨by rw [FF.out, ← HLL.out]; rfl, ?_, ?_⟩
          · have := AF.out.keepNe (mb := w.heap.size + 1) (HX.out _ (by omega) (by omega)) (row_keep (W := wr) (fun h => h rfl) (outC LL))
            exact this.mono fun q hq => .inl hq
          · exact KF.out.trans (row_keep (fun hq => by have := H.out.low _ hq; omega) _)
end Go.Proofs.YtimlfmklbfgliaaDoor
