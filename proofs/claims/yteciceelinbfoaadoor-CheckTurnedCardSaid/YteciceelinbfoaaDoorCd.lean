import Derived.Test.YteciceelinbfoaaDoorCx
set_option linter.unusedVariables false
namespace Go.Proofs.YteciceelinbfoaaDoor
open Go.RowKit Mq
attribute [local go_sem high] max2_ii min2_ii

/-- An element's cells, and the address. -/
theorem ClsAt.get {w : World} {B : Nat} {A : Option Addr} {cs : List Cl} (h : ClsAt w B A cs) {k : Nat} {c : Cl} (hk : cs[k]? = some c) : ∃ b off, A = some ⟨b, off, none⟩ ∧ b < B ∧
    w.cell? ⟨b, off + k * 10, none⟩ = some (.bool c.any) ∧ w.cell? ⟨b, off + k * 10 + 1, none⟩ = some (.int .u32 c.px.addr) ∧ w.cell? ⟨b, off + k * 10 + 2, none⟩ = some (.int .i64 c.px.bits) ∧ w.cell? ⟨b, off + k * 10 + 3, none⟩ = some (.int .u8 c.wi) ∧ w.cell? ⟨b, off + k * 10 + 4, none⟩ = some (.int .u8 c.out) ∧
    w.cell? ⟨b, off + k * 10 + 5, none⟩ = some (.bool c.drop) ∧ w.cell? ⟨b, off + k * 10 + 6, none⟩ = some (.int .u8 c.set) ∧ w.cell? ⟨b, off + k * 10 + 7, none⟩ = some (.int .u8 c.clr) ∧ w.cell? ⟨b, off + k * 10 + 8, none⟩ = some (.int .i64 c.more) ∧ w.cell? ⟨b, off + k * 10 + 9, none⟩ = some (.int .i64 c.pref) := by
  obtain ⟨b, off, hA, hB, hc⟩ := h (by have := (List.getElem?_eq_some_iff.1 hk).1; omega)
  have := hc k c hk
  exact ⟨b, off, hA, hB, this 0 (by omega), this 1 (by omega), this 2 (by omega), this 3 (by omega), this 4 (by omega), this 5 (by omega), this 6 (by omega), this 7 (by omega), this 8 (by omega), this 9 (by omega)⟩

theorem act_tags {t x y : Nat} (ht : t < 256) (hx : x < 256) (hy : y < 256) : bits .and .u8 (bits .andNot .u8 (bits .or .u8 (t : Int) (x : Int)) (y : Int)) 15 = (((t ||| x) &&& (255 - y) &&& 15 : Nat) : Int) := by
  have h1 := or_lt8 ht hx
  rw [u8_or_nat _ _ ht hx, u8_andNot_nat _ _ h1 hy]
  exact u8_and_nat _ 15 (and_lt h1) (by omega)
theorem w64_wrap (x : Int) : wrap64 x = w64 x := by unfold wrap64 w64; rfl
def DoPost (w : World) (r : Att) (e : Ending) (w' : World) : Prop := e = .returned (attv r) ∧ Below w.heap.size w w'

end Go.Proofs.YteciceelinbfoaaDoor
