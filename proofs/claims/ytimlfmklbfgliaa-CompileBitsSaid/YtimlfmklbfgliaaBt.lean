import Derived.Test.YtimlfmklbfgliaaEi
import Derived.Test.YtimlfmklbfgliaaEvB
import Derived.Deep.MidRow
set_option linter.unusedVariables false
namespace Go.Proofs.Ytimlfmklbfgliaa
open Go.RowKit Mq

theorem setCells_blk {b : Nat} {t : TypeId} : ∀ (vs : List Value) (o : Nat) (w : World) (cs : Array Value), w.heap[b]? = some (.cells cs t (0, 0)) →
    ∃ cs', (w.setCells b o vs).heap[b]? = some (.cells cs' t (0, 0)) ∧ cs'.size = cs.size ∧ ∀ i, i < cs.size → cs'[i]? = if o ≤ i ∧ i < o + vs.length then vs[i - o]? else cs[i]? := by
  intro vs
  induction vs with
  | nil => intro o w cs h; exact ⟨cs, h, rfl, fun i hi => by rw [if_neg (by simp <;> omega)]⟩
  | cons v r ih =>
    intro o w cs h
    obtain ⟨cs', h1, h2, h3⟩ := ih (o + 1) _ _ (gb_set h o v)
    refine ⟨cs', h1, by rw [h2]; simp, fun i hi => ?_⟩
    rw [h3 i (by simpa using hi)]
    by_cases he : i = o
    · subst he
      rw [if_neg (by omega), if_pos (by simp)]
      simp [hi]
    · by_cases hr : o + 1 ≤ i ∧ i < o + 1 + r.length
      · rw [if_pos hr, if_pos (by simp; omega)]
        obtain ⟨d, rfl⟩ : ∃ d, i = o + 1 + d := ⟨i - (o + 1), by omega⟩
        rw [show o + 1 + d - (o + 1) = d by omega, show o + 1 + d - o = d + 1 by omega]; rfl
      · rw [if_neg hr, if_neg (by simp; omega), Array.getElem?_setIfInBounds_ne (by omega)]
/-- A whole block is laid anew. -/
theorem setCells_all {b : Nat} {t : TypeId} {w : World} {cs : Array Value} (vs : List Value) (h : w.heap[b]? = some (.cells cs t (0, 0))) (hl : vs.length = cs.size) : (w.setCells b 0 vs).heap[b]? = some (.cells vs.toArray t (0, 0)) := by
  obtain ⟨cs', h1, h2, h3⟩ := setCells_blk vs 0 w cs h
  rw [h1]
  congr 2
  refine Array.ext_getElem? fun i => ?_
  by_cases hi : i < cs.size
  · rw [h3 i hi, if_pos ⟨by omega, by omega⟩]; simp
  · rw [Array.getElem?_eq_none (by omega), Array.getElem?_eq_none (by simp; omega)]
theorem setCells_far (b : Nat) : ∀ (vs : List Value) (o : Nat) (w : World), (w.setCells b o vs).os = w.os ∧ (w.setCells b o vs).tape = w.tape ∧ (w.setCells b o vs).output = w.output ∧ (w.setCells b o vs).heap.size = w.heap.size ∧ ∀ k, k ≠ b → (w.setCells b o vs).heap[k]? = w.heap[k]?
  | [], _, w => ⟨rfl, rfl, rfl, rfl, fun _ _ => rfl⟩
  | v :: r, o, w => by
    obtain ⟨h1, h2, h3, h4, h5⟩ := setCells_far b r (o + 1) (w.setCell ⟨b, o, none⟩ v)
    exact ⟨h1, h2, h3, h4.trans (by simp), fun k hk => (h5 k hk).trans (Below.heap_setCell _ _ _ _ hk)⟩
theorem gb_setCells {B b : Nat} {w0 w : World} (hb : Below B w0 w) (h : B ≤ b) (o : Nat) (vs : List Value) : Below B w0 (w.setCells b o vs) := by
  obtain ⟨h1, h2, h3, h4, h5⟩ := setCells_far b vs o w
  exact hb.trans ⟨h1, h2, h3, by omega, fun k hk => h5 k (by omega)⟩
theorem there_new {w : World} {b : Nat} {cs : Array Value} {t : TypeId} (h : w.heap[b]? = some (.cells cs t (0, 0))) : w.there b 0 cs.size := fun j hj => by
  refine ⟨?_, gb_free h _⟩
  rw [gb_cell h]; simpa using hj
/-! ### what bits are asked -/
theorem and_u8 : ∀ s, s < 4 → ∀ m : Nat, m < 16 → decide (bits BinOp.and .u8 (m : Int) (2 ^ s % 256) = 0) = !m.testBit s := by decide +kernel
theorem nat_and : ∀ s, s < 11 → ∀ p : Nat, p < 2048 → decide (p &&& 2 ^ s = 0) = !p.testBit s := by decide +kernel
theorem and_i64 {p s : Nat} (hp : p < 2048) (hs : s < 11) : decide (bits BinOp.and .i64 (p : Int) (wrap64 (2 ^ s)) = 0) = !p.testBit s := by
  have e : (2 : Int) ^ s = ((2 ^ s : Nat) : Int) := by simp
  have h2 : 2 ^ s ≤ 2 ^ 10 := Nat.pow_le_pow_right (by omega) (by omega)
  have h3 := nat_and s hs p hp
  rw [e, ← h3]
  generalize 2 ^ s = c at *
  rw [show wrap64 ((c : Nat) : Int) = ((c : Nat) : Int) by unfold wrap64; omega, cbi_and p c (by omega) (by omega)]
  congr 1
  simp
theorem bt1_any (W : World) (b : Nat) (v : Nat) (m : Nat) (hv : v < 1024) (hm : m < 256) (hb : W.heap[b]? = some (.cells #[.int .u8 m] 5 (0, 0))) :
    Calls Try.prog 15 #[.int .i64 v, .pointer (some ⟨b, 0, none⟩)] W fun e W' => e = .returned (.bool (rowT m v)) ∧ Below W.heap.size W W' := by
  have c3 := gb_cell hb 0
  clear hb
  by_cases h4 : v < 4
  · have h3 : v = 0 ∨ v = 1 ∨ v = 2 ∨ v = 3 := by omega
    rcases h3 with rfl | rfl | rfl | rfl
    · go_enter Try.func15, Try.ntmps15
      go_wp2_with fail
      go_ret
      exact ⟨rt_bool ((bit_u8 _ m 3 (by omega) hm).trans (by simp [rowT])), Below.refl _ _⟩
    · go_enter Try.func15, Try.ntmps15
      go_wp2_with fail
      go_ret
      exact ⟨rt_bool ((bit_u8 _ m 2 (by omega) hm).trans (by simp [rowT])), Below.refl _ _⟩
    · go_enter Try.func15, Try.ntmps15
      go_wp2_with fail
      go_ret
      exact ⟨rt_bool ((bit_u8 _ m 1 (by omega) hm).trans (by simp [rowT])), Below.refl _ _⟩
    · go_enter Try.func15, Try.ntmps15
      go_wp2_with fail
      go_ret
      exact ⟨rt_bool ((bit_u8 _ m 0 (by omega) hm).trans (by simp [rowT])), Below.refl _ _⟩
  · have hd : decide ((v : Int) < 4) = false := by simp; omega
    go_enter Try.func15, Try.ntmps15
    go_wp2_with fail
    go_ret
    exact ⟨rt_bool (by simp [rowT, h4]), Below.refl _ _⟩

set_option maxRecDepth 100000 in
set_option maxHeartbeats 1000000 in
/-- The closure that asks a diagram of a policy. -/
theorem btIs_any {W : World} {X : Nat → Prop} {a ab pb rb : Nat} {ns : List Nd} {most : Nat} (h : Ar W X a ns most) (T : Nat → Nat → Bool) (L : List Nat) (hL : PolOk ns T L) (m : Nat) (hm : m < 256)
    (ha : W.heap[ab]? = some (.cells #[.pointer (some ⟨a, 0, none⟩)] 26 (0, 0))) (hp : W.heap[pb]? = some (.cells (outC L) 33 (0, 0)))
    (hr : W.heap[rb]? = some (.cells #[.int .u8 m] 5 (0, 0))) (k : Nat) (hk : k < 24) :
    Calls Try.prog 13 #[.int .i64 k, .pointer (some ⟨ab, 0, none⟩), .pointer (some ⟨pb, 0, none⟩), .pointer (some ⟨rb, 0, none⟩)] W fun e W' => e = .returned (.bool (T k (m % 16))) ∧ Below W.heap.size W W' := by
  obtain ⟨u, hu⟩ : ∃ u, L[k]? = some u := ⟨_, List.getElem?_eq_getElem (by rw [hL.len]; exact hk)⟩
  have hlt := hL.lt k u hu
  have he : ev ns (rowT m) u = T k (m % 16) := by rw [hL.ev k u hu, idx_rowT _ hm]
  have y0 : ∀ x : InW (Below W.heap.size W), x.val.cell? ⟨ab, 0, none⟩ = some (.pointer (some ⟨a, 0, none⟩)) := fun x => in_cell ha 0 x
  have y1 : ∀ x : InW (Below W.heap.size W), x.val.cell? ⟨pb, k, none⟩ = some (.int .i64 u) := fun x => (in_cell hp k x).trans (outC_get L hu hk)
  have k1 : ∀ x : InW (Below W.heap.size W), Calls Try.prog 14 #[.pointer (some ⟨a, 0, none⟩), .int .i64 u, .func (.func 15) #[] #[.pointer (some ⟨rb, 0, none⟩)]] x.val fun e w' => e = .returned (.bool (ev ns (rowT m) u)) ∧ ∃ y : InW (Below W.heap.size W), w' = y.val :=
    calls_in fun w' hb => eval_CBits (h.below hb) u hlt (.pointer (some ⟨rb, 0, none⟩)) (rowT m) fun W2 v hb2 hv => bt1_any W2 rb v m hv hm (gb_blk hb2 (gb_blk hb hr (gb_lt hr)) (Nat.lt_of_lt_of_le (gb_lt hr) hb.size))
  rw [he] at k1
  have Q1 := Lib.hid k1
  have kb : (k : Int) < 24 := by omega
  have kb0 : (0 : Int) ≤ (k : Int) := by omega
  clear k1 he hlt hu h hL ha hp hr
  go_enter Try.func13, Try.ntmps13
  go_wp2_with fail
  refine wp_region_in (Below W.heap.size W) (by kernel_rfl) (by kernel_rfl) (Below.refl _ _).drew ?_
  repeat (go_big_quiet_step (first | (with_reducible exact Q1.out _)))
  refine wpQuiet_nil ?_
  rintro _ ⟨⟨w9, hb9⟩, rfl⟩
  have B9 := Lib.hid hb9
  clear hb9 y0 y1
  go_wp2_with fail
  go_ret
  exact ⟨rfl, B9.out⟩
theorem Ar.setCells {a : Nat} {X : Nat → Prop} {ns : List Nd} {most b : Nat} (hb : X b) : ∀ (vs : List Value) (o : Nat) (w : World), Ar w X a ns most → Ar (w.setCells b o vs) X a ns most
  | [], _, _, h => h
  | v :: r, o, w, h => Ar.setCells hb r (o + 1) _ (h.setCell (p := ⟨b, o, none⟩) hb v)
theorem keep_setCells {X : Nat → Prop} {w w' : World} (h : Keep X w w') {b : Nat} (hb : ¬ X b) (o : Nat) (vs : List Value) : Keep X w (w'.setCells b o vs) := by
  obtain ⟨h1, h2, h3, h4, h5⟩ := setCells_far b vs o w'
  exact h.trans ⟨h1, h2, h3, by omega, fun k hk _ => h5 k (by rintro rfl; exact hb hk)⟩
/-- A policy that was made in an arena. -/
structure PolSt (w2 wx : World) (X2 X : Nat → Prop) (a pb most : Nat) (ns : List Nd) (L : List Nat) : Prop where
  ar : Ar wx X a ns most
  keep : Keep X2 w2 wx
  pol : wx.heap[pb]? = some (.cells (outC L) 33 (0, 0))
  sub : ∀ q, X2 q → X q
  xp : X pb
theorem polSt_old {w2 cur w9 : World} {X2 : Nat → Prop} {a pb most : Nat} {ns : List Nd} {L : List Nat} {cs : Array Value} (hA : Ar w9 (fun q => X2 q ∨ w2.heap.size ≤ q ∧ q < cur.heap.size) a ns most) (hk : Keep X2 w2 w9)
    (T : w9.heap[pb]? = some (.cells cs 33 (0, 0))) (hc : cs.size = 24) (lo : w2.heap.size ≤ pb) (hi : pb < cur.heap.size) (hn : ∀ q, X2 q → q < w2.heap.size) :
    ∃ X, Hid (PolSt w2 (w9.setCells pb 0 ((List.range 24).map fun j => Value.int .i64 (L.getD j 0 : Nat))) X2 X a pb most ns L) :=
  ⟨fun q => X2 q ∨ w2.heap.size ≤ q ∧ q < cur.heap.size, Lib.hid ⟨Ar.setCells (.inr ⟨lo, hi⟩) _ _ _ hA, keep_setCells hk (fun h => by have := hn _ h; omega) _ _, by
    have := setCells_all ((List.range 24).map fun j => Value.int .i64 (L.getD j 0 : Nat)) T (by rw [hc]; simp); simpa [outC] using this, fun q h => .inl h, .inr ⟨lo, hi⟩⟩⟩
theorem polSt_new {w2 cur w9 : World} {X2 : Nat → Prop} {a most : Nat} {ns : List Nd} {L : List Nat} {cs : Array Value} (hA : Ar w9 (fun q => X2 q ∨ w2.heap.size ≤ q ∧ q < cur.heap.size) a ns most) (hk : Keep X2 w2 w9)
    (hc : cs.size = 24) (hn : ∀ q, X2 q → q < w2.heap.size) :
    ∃ X, Hid (PolSt w2 ((w9.alloc (.cells cs 33)).setCells w9.heap.size 0 ((List.range 24).map fun j => Value.int .i64 (L.getD j 0 : Nat))) X2 X a w9.heap.size most ns L) :=
  ⟨fun q => (X2 q ∨ w2.heap.size ≤ q ∧ q < cur.heap.size) ∨ q = w9.heap.size, Lib.hid ⟨Ar.setCells (.inr rfl) _ _ _ (hA.alloc _), keep_setCells (hk.alloc _) (fun h => by have := hn _ h; have := hk.size; omega) _ _, by
    have := setCells_all ((List.range 24).map fun j => Value.int .i64 (L.getD j 0 : Nat)) (gb_new w9 (.cells cs 33)) (by rw [hc]; simp); simpa [outC] using this, fun q h => .inl (.inl h), .inr rfl⟩⟩
theorem gb_set4 {w : World} {b : Nat} {x0 x1 x2 x3 y0 y1 y2 y3 : Value} {t : TypeId} (h : w.heap[b]? = some (.cells #[x0, x1, x2, x3] t (0, 0))) : ((((w.setCell ⟨b, 0, none⟩ y0).setCell ⟨b, 1, none⟩ y1).setCell ⟨b, 2, none⟩ y2).setCell ⟨b, 3, none⟩ y3).heap[b]? = some (.cells #[y0, y1, y2, y3] t (0, 0)) := by
  simpa using gb_set (gb_set (gb_set (gb_set h 0 y0) 1 y1) 2 y2) 3 y3
theorem gb_new' {w : World} {n : Nat} {o : Obj} (h : w.heap.size = n) : (w.alloc o).heap[n]? = some o := by subst h; exact gb_new w o
/-- A route in a box of its own. -/
structure RowSt (w2 wx : World) (b : Nat) (q : Att) : Prop where
  below : Below w2.heap.size w2 wx
  lo : w2.heap.size ≤ b
  blk : wx.heap[b]? = some (.cells #[.bool q.ok, .int .i64 q.pref, .int .i64 q.cost, .int .u8 q.tags] 41 (0, 0))
theorem rowSt_old {w2 w9 : World} {b : Nat} {q : Att} {x0 x1 x2 x3 : Value} (hb : Below w2.heap.size w2 w9) (h : w9.heap[b]? = some (.cells #[x0, x1, x2, x3] 41 (0, 0))) (lo : w2.heap.size ≤ b) :
    RowSt w2 ((((w9.setCell ⟨b, 0, none⟩ (.bool q.ok)).setCell ⟨b, 1, none⟩ (.int .i64 q.pref)).setCell ⟨b, 2, none⟩ (.int .i64 q.cost)).setCell ⟨b, 3, none⟩ (.int .u8 q.tags)) b q :=
  ⟨(((hb.setCell (p := ⟨b, 0, none⟩) lo _).setCell (p := ⟨b, 1, none⟩) lo _).setCell (p := ⟨b, 2, none⟩) lo _).setCell (p := ⟨b, 3, none⟩) lo _, lo, gb_set4 h⟩
theorem bare_size : (#[.int .i64 0, .int .i64 0, .int .i64 0, .int .i64 0, .int .i64 0, .int .i64 0, .int .i64 0, .int .i64 0, .int .i64 0, .int .i64 0, .int .i64 0, .int .i64 0, .int .i64 0, .int .i64 0, .int .i64 0, .int .i64 0, .int .i64 0, .int .i64 0, .int .i64 0, .int .i64 0, .int .i64 0, .int .i64 0, .int .i64 0, .int .i64 0] : Array Value).size = 24 := rfl
theorem edT_congr {e f : EdV} (h1 : e.cost = f.cost) (h2 : e.ex.l = f.ex.l) (h3 : e.im.l = f.im.l) (t : Nat) : edRow e t = edRow f t := by
  unfold edRow edTake; rw [h1, h2, h3]
end Go.Proofs.Ytimlfmklbfgliaa
