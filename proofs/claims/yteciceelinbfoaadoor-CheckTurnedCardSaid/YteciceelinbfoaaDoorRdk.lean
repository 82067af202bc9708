import Derived.Test.YteciceelinbfoaaDoorGn
import Derived.ChangeSame
import Derived.ProofKit
import Derived.OpenShut
import Derived.Deep.Slices
import Derived.Lib.SmallJoins
import Derived.Carry
import Derived.SizedLaws
set_option linter.unusedVariables false
namespace Go.Proofs.YteciceelinbfoaaDoor
open Go.RowKit Go.WideShapes Go.ChangeShapes Go.Deep Mq

/-! ### arguments as data -/
section
variable {P : Program}
/-- What cells of a type hold, whatever they are read for. -/
def Rdr {α : Type} (P : Program) (t : TypeId) (ec : α → List Value) (Ok : World → α → Prop) : Prop :=
  ∀ {H : Type} {enc : TypeId × Value → H} {w : World} {base : Nat} {spare : Nat → Bool} {held : Bool} {n : Nat} {cs : List Value} {x : DataW H × List MemPlace}, DataW.trod enc P w base spare held n t cs = some x → ∃ u, cs = ec u ∧ Ok w u
theorem rd_bool {t : TypeId} (ht : P.underlying t = some .bool) : Rdr P t (fun b : Bool => [.bool b]) (fun _ _ => True) := by
  intro H enc w base spare held n cs x h
  obtain ⟨b, hb, -⟩ := DataW.trod_bool ht h
  exact ⟨b, hb, trivial⟩
theorem rd_u8 {t : TypeId} (ht : P.underlying t = some (.int .u8)) : Rdr P t (fun b : Nat => [.int .u8 b]) (fun _ b => b < 256) := by
  intro H enc w base spare held n cs x h
  obtain ⟨b, hb, -, hw⟩ := DataW.trod_int ht h
  have := bounds_u8 hw
  exact ⟨b.toNat, by rw [hb]; simp only [Int.toNat_of_nonneg this.1], by omega⟩
theorem rd_u32 {t : TypeId} (ht : P.underlying t = some (.int .u32)) : Rdr P t (fun b : Nat => [.int .u32 b]) (fun _ b => b < 4294967296) := by
  intro H enc w base spare held n cs x h
  obtain ⟨b, hb, -, hw⟩ := DataW.trod_int ht h
  have := bounds_u32 hw
  exact ⟨b.toNat, by rw [hb]; simp only [Int.toNat_of_nonneg this.1], by omega⟩
theorem rd_u16 {t : TypeId} (ht : P.underlying t = some (.int .u16)) : Rdr P t (fun b : Nat => [.int .u16 b]) (fun _ b => b < 65536) := by
  intro H enc w base spare held n cs x h
  obtain ⟨b, hb, -, hw⟩ := DataW.trod_int ht h
  have := bounds_u16 hw
  exact ⟨b.toNat, by rw [hb]; simp only [Int.toNat_of_nonneg this.1], by omega⟩
theorem rd_i64 {t : TypeId} (ht : P.underlying t = some (.int .i64)) : Rdr P t (fun b : Int => [.int .i64 b]) (fun _ b => is64 b) := by
  intro H enc w base spare held n cs x h
  obtain ⟨b, hb, -, hw⟩ := DataW.trod_int ht h
  have := bounds_i64 hw
  exact ⟨b, hb, by unfold is64; omega⟩
/-- A slice's value, and what it reads as. -/
structure SlV (α : Type) where
  A : Option Addr
  cap : Nat
  l : List α
def slv {α : Type} (s : SlV α) : Value := .slice s.A s.l.length s.cap
structure SlOk {α : Type} (ec : α → List Value) (size : Nat) (Ok : World → α → Prop) (w : World) (s : SlV α) : Prop where
  at_ : Sli ec size w w.heap.size s.A s.l
  ok : ∀ u ∈ s.l, Ok w u
  fits : s.l.length ≤ s.cap
  cap : s.cap ≤ maxLen
theorem SlOk.len_le {α : Type} {ec : α → List Value} {size : Nat} {Ok : World → α → Prop} {w : World} {s : SlV α} (h : SlOk ec size Ok w s) : s.l.length ≤ 9223372036854775807 := by have := h.fits; have := h.cap; unfold maxLen at this; omega
theorem rd_slice {α : Type} {t e : TypeId} {ec : α → List Value} {size : Nat} {Ok : World → α → Prop} (ht : P.underlying t = some (.slice e)) (hC : P.cellsOf e = size) (hp : 0 < size) (R : Rdr P e ec Ok) :
    Rdr P t (fun s : SlV α => [slv s]) (SlOk ec size Ok) := by
  intro H enc w base spare held n cs x h
  rcases open_slice ht h with ⟨hcs, -⟩ | ⟨a, len, cap, m, k, D, Pl, hcs, hb, hl, hm, hmm, hx, hi⟩
  · exact ⟨⟨none, 0, []⟩, hcs, ⟨Sli.nil _ _ _, fun u hu => by simp at hu, by simp, by simp [maxLen]⟩⟩
  · have hlm : len ≤ m := by rw [hmm]; split <;> omega
    rw [hC] at hi
    have hu : ∀ i : Fin len, ∃ u, (∀ j, j < size → w.cell? ((a.add (i.val * size)).add j) = (ec u)[j]?) ∧ (ec u).length = size ∧ Ok w u := fun i => by
      obtain ⟨cs', hc, ht'⟩ := hi i.val (by omega)
      obtain ⟨-, hcl, hat⟩ := World.cells?_some hc
      obtain ⟨u, rfl, hok⟩ := R ht'
      exact ⟨u, hat, hcl, hok⟩
    obtain ⟨f, hf⟩ := Classical.axiomOfChoice hu
    refine ⟨⟨some a, cap, List.ofFn f⟩, by rw [hcs]; simp [slv], ⟨fun hl0 => ?_, fun u hu' => ?_, by simpa using hl, hm⟩⟩
    · simp only [List.length_ofFn] at hl0
      obtain ⟨b, off, spot⟩ := a
      have h0 := (hf ⟨0, hl0⟩).1 0 hp
      have hlen := (hf ⟨0, hl0⟩).2.1
      rw [List.getElem?_eq_getElem (by omega)] at h0
      have hspot : spot = none := by simpa [Addr.add] using World.cell?_spot h0
      subst hspot
      refine ⟨b, off, rfl, ?_, fun k u hk j hj => ?_⟩
      · have := World.block_lt_of_cell? w _ h0
        simp only [add_plain] at this; exact this
      · rw [List.getElem?_ofFn] at hk
        split at hk
        · rename_i hkl
          injection hk with hk
          subst hk
          have := (hf ⟨k, hkl⟩).1 j hj
          rw [add_plain, add_plain] at this
          exact this
        · cases hk
    · obtain ⟨i, rfl⟩ := (List.mem_ofFn).1 hu'
      exact (hf i).2.2
/-- One field of a struct. -/
theorem rd_at {H : Type} {enc : TypeId × Value → H} {w : World} {base : Nat} {spare : Nat → Bool} {held : Bool} {n : Nat} {cs : List Value} {fs : Array Field} {xs : List (DataW H × List MemPlace)} (hl : xs.length = fs.size)
    (hf : ∀ (i : Nat) (f : Field), fs[i]? = some f → DataW.trod enc P w base spare held n f.type ((cs.drop f.offset).take (P.cellsOf f.type)) = xs[i]?) {i : Nat} {f : Field} (hi : fs[i]? = some f) {k : Nat} (hk : P.cellsOf f.type = k) :
    ∃ y, DataW.trod enc P w base spare held n f.type ((cs.drop f.offset).take k) = some y := by
  have h := hf i f hi
  rw [hk, List.getElem?_eq_getElem (by rw [hl]; exact (Array.getElem?_eq_some_iff.1 hi).1)] at h
  exact ⟨_, h⟩
/-- A struct by value. -/
theorem op_agg {α : Type} {t : TypeId} {ec : α → List Value} {Ok : World → α → Prop} {fs : Array Field} (ht : P.underlying t = some (.struct fs)) (R : Rdr P t ec Ok) {H : Type} {enc : TypeId × Value → H} {w : World} {r : Reach} {base b0 : Nat} {spare : Nat → Bool} {held : Bool} {v : Value} {d : DataW H} {p : List MemPlace}
    (hv : Value.okWide P w r b0 t v) (h : DataW.Trod enc P w base spare held t v d p) : ∃ u, v = .agg (ec u).toArray ∧ Ok w u := by
  obtain ⟨cs, rfl, -⟩ := okWide_struct ht hv
  obtain ⟨fuel, hf⟩ := h
  obtain ⟨u, hu, hok⟩ := R hf
  exact ⟨u, by rw [← hu]; simp [Value.cells], hok⟩
theorem op_slice {α : Type} {t e : TypeId} {ec : α → List Value} {size : Nat} {Ok : World → α → Prop} (ht : P.underlying t = some (.slice e)) (R : Rdr P t (fun s : SlV α => [slv s]) (SlOk ec size Ok)) {H : Type} {enc : TypeId × Value → H} {w : World} {r : Reach} {base b0 : Nat} {spare : Nat → Bool} {held : Bool} {v : Value} {d : DataW H} {p : List MemPlace}
    (hv : Value.okWide P w r b0 t v) (h : DataW.Trod enc P w base spare held t v d p) : ∃ s : SlV α, v = .slice s.A s.l.length s.cap ∧ SlOk ec size Ok w s := by
  obtain ⟨a, len, cap, rfl⟩ := okWide_slice ht hv
  obtain ⟨fuel, hf⟩ := h
  obtain ⟨s, hs, hok⟩ := R hf
  simp [Value.cells, slv] at hs
  exact ⟨s, by rw [hs.1, hs.2.1, hs.2.2], hok⟩
/-- A slice's length is its datum's. -/
theorem sl_reach {t e : TypeId} (ht : P.underlying t = some (.slice e)) {H : Type} {enc : TypeId × Value → H} {w : World} {base : Nat} {spare : Nat → Bool} {held : Bool} {v : Value} {d : DataW H} {p : List MemPlace}
    (h : DataW.Trod enc P w base spare held t v d p) : ∀ A n c, v = .slice A n c → n = 0 ∨ ∃ xs ys, d = .slice xs ys ∧ xs.length = n := by
  rintro A n c rfl
  obtain ⟨fuel, hf⟩ := h
  rcases open_slice ht hf with ⟨hcs, -⟩ | ⟨a, len, cap, m, k, D, Pl, hcs, hb, hl, hm, hmm, hx, hi⟩
  · simp [Value.cells] at hcs
    exact .inl hcs.2.1
  · simp [Value.cells] at hcs
    obtain ⟨rfl, rfl, rfl⟩ := hcs
    simp only [Prod.mk.injEq] at hx
    exact .inr ⟨_, _, hx.1, by simp⟩
theorem sl_bytes {H : Type} {ts : List TypeId} {ds : List (DataW H)} (h : (DataW.weightsEach P ts ds).all (· ≤ reachBytes) = true) {j : Nat} {t e : TypeId} {d : DataW H} {n : Nat} (ht : ts[j]? = some t) (hd : ds[j]? = some d) (hu : P.underlying t = some (.slice e))
    (hn : n = 0 ∨ ∃ xs ys, d = .slice xs ys ∧ xs.length = n) : n * P.bytesOf e ≤ reachBytes := by
  rcases hn with rfl | ⟨xs, ys, rfl, rfl⟩
  · simp
  · have := sized_slice h ht hd hu
    rw [Nat.add_mul] at this
    omega
theorem trodAll_stays {H : Type} {enc : TypeId × Value → H} (hl : laidOutB P = true) {W W' : World} {sp : Nat → Bool} : ∀ {ts : List TypeId} {vs : List Value} {ds : List (DataW H)} {ps : List MemPlace}, (∀ t ∈ ts, P.readableRec t = true ∧ t < P.types.size) →
    DataW.TrodAll enc P W 0 (fun _ => true) true ts vs ds ps → (∀ p ∈ ps, W.sameAt W' p) → (∀ p ∈ ps, sp p.block = true) → DataW.TrodAll enc P W' 0 sp true ts vs ds ps
  | [], [], [], _, _, h, _, _ => h
  | t :: ts, v :: vs, d :: ds, ps, hr, h, hs, hp => by
    obtain ⟨p, q, h1, h2, rfl⟩ := h
    exact ⟨p, q, Go.WideElems.Trod_stays hl (hr t (by simp)).1 (hr t (by simp)).2 h1 (fun x hx => hs x (by simp [hx])) (fun x hx => hp x (by simp [hx])),
      trodAll_stays hl (fun t ht => hr t (by simp [ht])) h2 (fun x hx => hs x (by simp [hx])) (fun x hx => hp x (by simp [hx])), rfl⟩
  | [], [], _ :: _, _, _, h, _, _ => h.elim
  | [], _ :: _, _, _, _, h, _, _ => by cases h
  | _ :: _, [], _, _, _, h, _, _ => by cases h
  | _ :: _, _ :: _, [], _, _, h, _, _ => h.elim
/-- All parameters' types can be read. -/
def parsRead (P : Program) (ts : List TypeId) : Bool := ts.all fun t => P.readableRec t && decide (t < P.types.size)
theorem parsRead_at {ts : List TypeId} (h : parsRead P ts = true) : ∀ t ∈ ts, P.readableRec t = true ∧ t < P.types.size := by
  intro t ht
  have := List.all_eq_true.1 h t ht
  simp only [Bool.and_eq_true, decide_eq_true_eq] at this
  exact this
end
end Go.Proofs.YteciceelinbfoaaDoor
