import Derived.Test.YtimlfmklbfgliaaCo
import Derived.Test.YtimlfmklbfgliaaEvC
import Derived.Test.YtimlfmklbfgliaaEq
set_option linter.unusedVariables false
namespace Mq
/-- The values of four variables of a route's tags. -/
def rowT (m v : Nat) : Bool := decide (v < 4) && m.testBit (3 - v)
theorem idx_rowT : ∀ m, m < 256 → idx 4 0 (rowT m) = m % 16 := by decide +kernel
/-- Two lists of diagrams say what tables say. -/
structure PolOk (ns : List Nd) (T : Nat → Nat → Bool) (L : List Nat) : Prop where
  len : L.length = 24
  lt : ∀ (k u : Nat), L[k]? = some u → u < ns.length
  ev : ∀ (k u : Nat), L[k]? = some u → ∀ r, ev ns r u = T k (idx 4 0 r)
end Mq
namespace Go.Proofs.Ytimlfmklbfgliaa
open Go.RowKit Mq

theorem ct1_any (W : World) (b : Nat) (v : Nat) (q : Att) (hv : v < 1024) (hm : q.tags < 256) (hb : W.heap[b]? = some (.cells #[.bool q.ok, .int .i64 q.pref, .int .i64 q.cost, .int .u8 q.tags] 41 (0, 0))) :
    Calls Try.prog 25 #[.int .i64 v, .pointer (some ⟨b, 0, none⟩)] W fun e W' => e = .returned (.bool (rowT q.tags v)) ∧ Below W.heap.size W W' := by
  have c3 := (gb_cells4 hb).2.2.2
  clear hb
  generalize q.tags = m at *
  by_cases h4 : v < 4
  · have h3 : v = 0 ∨ v = 1 ∨ v = 2 ∨ v = 3 := by omega
    rcases h3 with rfl | rfl | rfl | rfl
    · go_enter Try.func25, Try.ntmps25
      go_wp2_with fail
      go_ret
      exact ⟨rt_bool ((bit_u8 _ m 3 (by omega) hm).trans (by simp [rowT])), Below.refl _ _⟩
    · go_enter Try.func25, Try.ntmps25
      go_wp2_with fail
      go_ret
      exact ⟨rt_bool ((bit_u8 _ m 2 (by omega) hm).trans (by simp [rowT])), Below.refl _ _⟩
    · go_enter Try.func25, Try.ntmps25
      go_wp2_with fail
      go_ret
      exact ⟨rt_bool ((bit_u8 _ m 1 (by omega) hm).trans (by simp [rowT])), Below.refl _ _⟩
    · go_enter Try.func25, Try.ntmps25
      go_wp2_with fail
      go_ret
      exact ⟨rt_bool ((bit_u8 _ m 0 (by omega) hm).trans (by simp [rowT])), Below.refl _ _⟩
  · have hd : decide ((v : Int) < 4) = false := by simp; omega
    go_enter Try.func25, Try.ntmps25
    go_wp2_with fail
    go_ret
    exact ⟨rt_bool (by simp [rowT, h4]), Below.refl _ _⟩

theorem outC_get (L : List Nat) {k u : Nat} (h : L[k]? = some u) (hk : k < 24) : (outC L)[k]? = some (.int .i64 u) := by
  simp [outC, hk, List.getD_eq_getElem?_getD, h]
set_option maxRecDepth 100000 in
set_option maxHeartbeats 1000000 in
/-- The closure that asks a diagram of a policy. -/
theorem ctIs_any {W : World} {X : Nat → Prop} {a ab pb rb : Nat} {ns : List Nd} {most : Nat} (h : Ar W X a ns most) (T : Nat → Nat → Bool) (L : List Nat) (hL : PolOk ns T L) (q : Att) (hm : q.tags < 256)
    (ha : W.heap[ab]? = some (.cells #[.pointer (some ⟨a, 0, none⟩)] 26 (0, 0))) (hp : W.heap[pb]? = some (.cells (outC L) 33 (0, 0)))
    (hr : W.heap[rb]? = some (.cells #[.bool q.ok, .int .i64 q.pref, .int .i64 q.cost, .int .u8 q.tags] 41 (0, 0))) (k : Nat) (hk : k < 24) :
    Calls Try.prog 24 #[.int .i64 k, .pointer (some ⟨ab, 0, none⟩), .pointer (some ⟨pb, 0, none⟩), .pointer (some ⟨rb, 0, none⟩)] W fun e W' => e = .returned (.bool (T k (q.tags % 16))) ∧ Below W.heap.size W W' := by
  obtain ⟨u, hu⟩ : ∃ u, L[k]? = some u := ⟨_, List.getElem?_eq_getElem (by rw [hL.len]; exact hk)⟩
  have hlt := hL.lt k u hu
  have he : ev ns (rowT q.tags) u = T k (q.tags % 16) := by rw [hL.ev k u hu, idx_rowT _ hm]
  have y0 : ∀ x : InW (Below W.heap.size W), x.val.cell? ⟨ab, 0, none⟩ = some (.pointer (some ⟨a, 0, none⟩)) := fun x => in_cell ha 0 x
  have y1 : ∀ x : InW (Below W.heap.size W), x.val.cell? ⟨pb, k, none⟩ = some (.int .i64 u) := fun x => (in_cell hp k x).trans (outC_get L hu hk)
  have k1 : ∀ x : InW (Below W.heap.size W), Calls Try.prog 14 #[.pointer (some ⟨a, 0, none⟩), .int .i64 u, .func (.func 25) #[] #[.pointer (some ⟨rb, 0, none⟩)]] x.val fun e w' => e = .returned (.bool (ev ns (rowT q.tags) u)) ∧ ∃ y : InW (Below W.heap.size W), w' = y.val :=
    calls_in fun w' hb => eval_CTake (h.below hb) u hlt (.pointer (some ⟨rb, 0, none⟩)) (rowT q.tags) fun W2 v hb2 hv => ct1_any W2 rb v q hv hm (gb_blk hb2 (gb_blk hb hr (gb_lt hr)) (Nat.lt_of_lt_of_le (gb_lt hr) hb.size))
  rw [he] at k1
  have Q1 := Lib.hid k1
  have kb : (k : Int) < 24 := by omega
  have kb0 : (0 : Int) ≤ (k : Int) := by omega
  clear k1 he hlt hu h hL ha hp hr
  go_enter Try.func24, Try.ntmps24
  go_wp2_with fail
  refine wp_region_in (Below W.heap.size W) (by kernel_rfl) (by kernel_rfl) (Below.refl _ _).drew ?_
  repeat (go_big_quiet_step (first | (with_reducible exact Q1.out _)))
  refine wpQuiet_nil ?_
  rintro _ ⟨⟨w9, hb9⟩, rfl⟩
  have B9 := Lib.hid hb9
  clear hb9 y0 y1
  go_wp2_with fail
  go_ret
  exact ⟨rfl, B9.out⟩
end Go.Proofs.Ytimlfmklbfgliaa
