import Derived.Test.YtbbgiockmblamaaT12
import Derived.Test.YtbbgiockmblamaaEs
set_option linter.unusedVariables false
namespace Go.Proofs.Ytbbgiockmblamaa
open Go.RowKit Mq

theorem and15_small {k : Nat} (h : k < 16) : k &&& 15 = k := by rw [show (15 : Nat) = 2 ^ 4 - 1 by rfl, Nat.and_two_pow_sub_one_eq_mod]; omega
theorem and15_mod (k : Nat) : k &&& 15 = k % 16 := by rw [show (15 : Nat) = 2 ^ 4 - 1 by rfl, Nat.and_two_pow_sub_one_eq_mod]
theorem Sli.both {α : Type} {enc : α → List Value} {size B b : Nat} {w : World} {u v : α} {t : TypeId} (h : w.heap[b]? = some (.cells ((enc u).toArray ++ (enc v).toArray) t (0, 0))) (hb : b < B) (hs : ∀ a, (enc a).length = size) : Sli enc size w B (some ⟨b, 0, none⟩) [u, v] :=
  fun _ => ⟨b, 0, rfl, hb, fun k x hk j hj => by
    rw [gb_cell h]
    match k, hk with
    | 0, hk =>
      simp at hk; subst hk
      simp only [List.append_toArray, List.getElem?_toArray, Nat.zero_mul, Nat.zero_add]
      rw [List.getElem?_append_left (by rw [hs]; exact hj)]
    | 1, hk =>
      simp at hk; subst hk
      simp only [List.append_toArray, List.getElem?_toArray, Nat.one_mul, Nat.zero_add]
      rw [List.getElem?_append_right (by rw [hs]; omega), hs]
      congr 1; omega
    | k + 2, hk => simp at hk⟩
theorem eds_get {w : World} {B b : Nat} {es : List EdV} (h : Sli edc 4 w B (some ⟨b, 0, none⟩) es) {k : Nat} {e : EdV} (hk : es[k]? = some e) :
    w.cell? ⟨b, k * 4, none⟩ = some (.int .i64 e.from_) ∧ w.cell? ⟨b, k * 4 + 1, none⟩ = some (.int .i64 e.cost) ∧ w.cell? ⟨b, k * 4 + 2, none⟩ = some (.slice e.ex.A e.ex.l.length e.ex.cap) ∧ w.cell? ⟨b, k * 4 + 3, none⟩ = some (.slice e.im.A e.im.l.length e.im.cap) := by
  obtain ⟨b', off, hA, hB, hc⟩ := h (by have := (List.getElem?_eq_some_iff.1 hk).1; omega)
  injection hA with hA
  injection hA with h1 h2
  subst h1; subst h2
  have := hc k e hk
  simp only [Nat.zero_add] at this
  exact ⟨this 0 (by omega), this 1 (by omega), this 2 (by omega), this 3 (by omega)⟩
end Go.Proofs.Ytbbgiockmblamaa
