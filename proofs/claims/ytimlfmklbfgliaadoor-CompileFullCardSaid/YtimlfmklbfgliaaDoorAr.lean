import Derived.Test.YtimlfmklbfgliaaDoorProg
import Derived.Test.YtimlfmklbfgliaaDoorMp
import Derived.WalkKit
import Derived.WalkLawsBesides
import Derived.KernelRfl
import Derived.Deep.QuietTactic
import Derived.BigQuiet
import Derived.Lib.Hide
import Derived.StillTailTactics
set_option linter.unusedVariables false
namespace Go.Proofs.YtimlfmklbfgliaaDoor
open Go.RowKit Mq

def ndv (n : Nd) : Value := .agg #[.int .i64 n.v, .int .i64 n.lo, .int .i64 n.hi]
def ndc (n : Nd) : List Value := [.int .i64 n.v, .int .i64 n.lo, .int .i64 n.hi]
def cellsOf (ns : List Nd) : List Value := ns.flatMap ndc
def numv (k : Nat) : Value := .int .i64 k
theorem cellsOf_length (ns : List Nd) : (cellsOf ns).length = ns.length * 3 := by
  induction ns with
  | nil => rfl
  | cons n l ih => simp only [cellsOf, List.flatMap_cons, List.length_append, List.length_cons] at *; rw [ih]; simp [ndc]; omega
theorem cellsOf_push (ns : List Nd) (n : Nd) : cellsOf (ns ++ [n]) = cellsOf ns ++ ndc n := by simp [cellsOf]
theorem cellsOf_at (ns : List Nd) : ∀ k j, k < ns.length → j < 3 → (cellsOf ns)[k * 3 + j]? = (ndc (nd ns k))[j]? := by
  induction ns with
  | nil => intro k j h; simp at h
  | cons n l ih =>
    intro k j hk hj
    cases k with
    | zero =>
      simp only [cellsOf, List.flatMap_cons, Nat.zero_mul, Nat.zero_add]
      rw [List.getElem?_append_left (by simp [ndc]; omega)]
      simp [nd]
    | succ k =>
      simp only [cellsOf, List.flatMap_cons]
      rw [List.getElem?_append_right (by simp [ndc]; omega)]
      have e : (k + 1) * 3 + j - (ndc n).length = k * 3 + j := by simp [ndc]; omega
      rw [e]
      have := ih k j (by simpa using hk) hj
      simp only [cellsOf] at this
      rw [this]
      simp [nd]

/-- What is at these blocks stays as it is. -/
structure Keep (X : Nat → Prop) (w w' : World) : Prop where
  os : w'.os = w.os
  tape : w'.tape = w.tape
  output : w'.output = w.output
  size : w.heap.size ≤ w'.heap.size
  block : ∀ k, X k → k < w.heap.size → w'.heap[k]? = w.heap[k]?

theorem Keep.refl (X : Nat → Prop) (w : World) : Keep X w w := ⟨rfl, rfl, rfl, Nat.le_refl _, fun _ _ _ => rfl⟩
theorem Keep.trans {X : Nat → Prop} {a b c : World} (h : Keep X a b) (k : Keep X b c) : Keep X a c :=
  ⟨k.os.trans h.os, k.tape.trans h.tape, k.output.trans h.output, Nat.le_trans h.size k.size, fun i hi hs => (k.block i hi (Nat.lt_of_lt_of_le hs h.size)).trans (h.block i hi hs)⟩
theorem Keep.mono {X Y : Nat → Prop} {a b : World} (h : Keep X a b) (hy : ∀ k, Y k → X k) : Keep Y a b := ⟨h.os, h.tape, h.output, h.size, fun k hk hs => h.block k (hy k hk) hs⟩
theorem Keep.below {X : Nat → Prop} {w w' : World} (h : Below w.heap.size w w') : Keep X w w' := ⟨h.os, h.tape, h.output, h.size, fun k _ hs => h.block k hs⟩
theorem Keep.alloc {X : Nat → Prop} {w w' : World} (h : Keep X w w') (o : Obj) : Keep X w (w'.alloc o) :=
  h.trans ⟨rfl, rfl, rfl, by simp, fun k _ hs => Below.heap_alloc _ _ _ hs⟩
theorem Keep.drewN {X : Nat → Prop} {w w' : World} (h : Keep X w w') (n : Nat) : Keep X w (w'.drewN n) := h.trans ⟨rfl, rfl, rfl, Nat.le_refl _, fun _ _ _ => rfl⟩
theorem Keep.drew {X : Nat → Prop} {w w' : World} (h : Keep X w w') : Keep X w w'.drew := h.trans ⟨rfl, rfl, rfl, Nat.le_refl _, fun _ _ _ => rfl⟩
theorem Keep.cell {X : Nat → Prop} {w w' : World} (h : Keep X w w') {p : Addr} (hx : X p.block) (hp : p.block < w.heap.size) : w'.cell? p = w.cell? p := World.cell?_of_block (w := w) (h.block p.block hx hp)
theorem Keep.frozen {X : Nat → Prop} {w w' : World} (h : Keep X w w') {p : Addr} (hx : X p.block) (hp : p.block < w.heap.size) : w'.frozen? p = w.frozen? p := World.frozen?_of_block (w := w) (h.block p.block hx hp)

/-- An arena's memory: its struct, its nodes' array, its map. -/
structure ArM (w : World) (X : Nat → Prop) (a sb g cap : Nat) (cur : Array Value) (ns : List Nd) (L : List (Nd × Nat)) (most : Nat) : Prop where
  low : ∀ k, X k → k < w.heap.size
  head : w.heap[a]? = some (.cells #[.slice (some ⟨g, 0, none⟩) ns.length cap, .map (some sb), .int .i64 most] 47 (0, 0))
  row : w.heap[g]? = some (.cells cur 43 (0, 0))
  fits : ns.length ≤ cap
  cap_le : cap ≤ maxLen
  size : cur.size = cap * 3
  cells : cur.toList.take (ns.length * 3) = cellsOf ns
  seen : w.heap[sb]? = some (mapObj ndv numv L)
  xa : ¬ X a
  xg : ¬ X g
  xs : ¬ X sb
structure ArAt (w : World) (X : Nat → Prop) (a sb g cap : Nat) (cur : Array Value) (ns : List Nd) (most : Nat) : Prop extends ArM w X a sb g cap cur ns (seenL ns) most where
  wf : WF ns
  room : ns.length ≤ most
  most_le : most ≤ 131072
def Ar (w : World) (X : Nat → Prop) (a : Nat) (ns : List Nd) (most : Nat) : Prop := ∃ sb g cap cur, ArAt w X a sb g cap cur ns most

/-- The same blocks in another world. -/
theorem ArM.moved {w w' : World} {X Y : Nat → Prop} {a sb g cap : Nat} {cur : Array Value} {ns : List Nd} {L : List (Nd × Nat)} {most : Nat} (h : ArM w X a sb g cap cur ns L most)
    (hb : ∀ k, k < w.heap.size → (k = a ∨ k = g ∨ k = sb) → w'.heap[k]? = w.heap[k]?) (hl : ∀ k, Y k → k < w'.heap.size) (hy : ∀ k, k < w.heap.size → (k = a ∨ k = g ∨ k = sb) → ¬ Y k) : ArM w' Y a sb g cap cur ns L most := by
  have ha := (Array.getElem?_eq_some_iff.1 h.head).1
  have hg := (Array.getElem?_eq_some_iff.1 h.row).1
  have hs := (Array.getElem?_eq_some_iff.1 h.seen).1
  exact { h with low := hl, head := (hb a ha (.inl rfl)).trans h.head, row := (hb g hg (.inr (.inl rfl))).trans h.row, seen := (hb sb hs (.inr (.inr rfl))).trans h.seen,
                 xa := hy a ha (.inl rfl), xg := hy g hg (.inr (.inl rfl)), xs := hy sb hs (.inr (.inr rfl)) }
theorem ArAt.moved {w w' : World} {X Y : Nat → Prop} {a sb g cap : Nat} {cur : Array Value} {ns : List Nd} {most : Nat} (h : ArAt w X a sb g cap cur ns most)
    (hb : ∀ k, k < w.heap.size → (k = a ∨ k = g ∨ k = sb) → w'.heap[k]? = w.heap[k]?) (hl : ∀ k, Y k → k < w'.heap.size) (hy : ∀ k, k < w.heap.size → (k = a ∨ k = g ∨ k = sb) → ¬ Y k) : ArAt w' Y a sb g cap cur ns most :=
  { h with toArM := h.toArM.moved hb hl hy }
theorem ArM.not_x {w : World} {X : Nat → Prop} {a sb g cap : Nat} {cur : Array Value} {ns : List Nd} {L : List (Nd × Nat)} {most : Nat} (h : ArM w X a sb g cap cur ns L most) {k : Nat} (hk : k = a ∨ k = g ∨ k = sb) : ¬ X k := by
  rcases hk with rfl | rfl | rfl
  · exact h.xa
  · exact h.xg
  · exact h.xs
section
variable {w w' : World} {X Y : Nat → Prop} {a : Nat} {ns : List Nd} {most : Nat}
theorem Ar.wf (h : Ar w X a ns most) : WF ns := by obtain ⟨_, _, _, _, h⟩ := h; exact h.wf
theorem Ar.room (h : Ar w X a ns most) : ns.length ≤ most := by obtain ⟨_, _, _, _, h⟩ := h; exact h.room
theorem Ar.most_le (h : Ar w X a ns most) : most ≤ 131072 := by obtain ⟨_, _, _, _, h⟩ := h; exact h.most_le
theorem Ar.len_le (h : Ar w X a ns most) : ns.length ≤ 131072 := Nat.le_trans h.room h.most_le
theorem Ar.low (h : Ar w X a ns most) : ∀ k, X k → k < w.heap.size := by obtain ⟨_, _, _, _, h⟩ := h; exact h.low
theorem Ar.lt (h : Ar w X a ns most) : a < w.heap.size := by obtain ⟨_, _, _, _, h⟩ := h; exact (Array.getElem?_eq_some_iff.1 h.head).1
theorem Ar.xa (h : Ar w X a ns most) : ¬ X a := by obtain ⟨_, _, _, _, h⟩ := h; exact h.xa
theorem Ar.mono (h : Ar w X a ns most) (hy : ∀ k, Y k → X k) : Ar w Y a ns most := by
  obtain ⟨sb, g, cap, cur, h⟩ := h
  exact ⟨sb, g, cap, cur, h.moved (fun _ _ _ => rfl) (fun k hk => h.low k (hy k hk)) (fun k _ hk hY => h.not_x hk (hy k hY))⟩
theorem Ar.below (h : Ar w X a ns most) (hb : Below w.heap.size w w') : Ar w' X a ns most := by
  obtain ⟨sb, g, cap, cur, h⟩ := h
  exact ⟨sb, g, cap, cur, h.moved (fun k hk _ => hb.block k hk) (fun k hk => Nat.lt_of_lt_of_le (h.low k hk) hb.size) (fun k _ hk => h.not_x hk)⟩
/-- All that is there by now, and was not there at B, may be taken for foreign as well. -/
theorem Ar.below_more (h : Ar w X a ns most) (hb : Below w.heap.size w w') : Ar w' (fun k => X k ∨ w.heap.size ≤ k ∧ k < w'.heap.size) a ns most := by
  obtain ⟨sb, g, cap, cur, h⟩ := h
  refine ⟨sb, g, cap, cur, h.moved (fun k hk _ => hb.block k hk) (fun k hk => ?_) (fun k hl hk hY => ?_)⟩
  · rcases hk with hk | hk
    · exact Nat.lt_of_lt_of_le (h.low k hk) hb.size
    · exact hk.2
  · rcases hY with hY | hY
    · exact h.not_x hk hY
    · omega
theorem Ar.alloc (h : Ar w X a ns most) (o : Obj) : Ar (w.alloc o) (fun k => X k ∨ k = w.heap.size) a ns most := by
  have h1 := h.below_more (w' := w.alloc o) ((Below.refl _ _).alloc (Nat.le_refl _) o)
  exact h1.mono fun k hk => by
    rcases hk with hk | rfl
    · exact .inl hk
    · exact .inr ⟨Nat.le_refl _, by simp⟩
theorem Ar.alloc' (h : Ar w X a ns most) (o : Obj) : Ar (w.alloc o) X a ns most := (h.alloc o).mono fun _ hk => .inl hk
theorem Ar.drewN (h : Ar w X a ns most) (n : Nat) : Ar (w.drewN n) X a ns most := h.below ⟨rfl, rfl, rfl, Nat.le_refl _, fun _ _ => rfl⟩
theorem Ar.drew (h : Ar w X a ns most) : Ar w.drew X a ns most := h.below ⟨rfl, rfl, rfl, Nat.le_refl _, fun _ _ => rfl⟩
theorem Ar.setCell (h : Ar w X a ns most) {p : Addr} (hp : X p.block) (v : Value) : Ar (w.setCell p v) X a ns most := by
  obtain ⟨sb, g, cap, cur, h⟩ := h
  refine ⟨sb, g, cap, cur, h.moved (fun k _ hk => Below.heap_setCell _ _ _ _ ?_) (fun k hk => by simpa [World.setCell] using h.low k hk) (fun k _ hk => h.not_x hk)⟩
  rintro rfl
  exact h.not_x hk hp

theorem Ar.setBlock (h : Ar w X a ns most) {b : Nat} (hb : X b) (o : Obj) : Ar (ChangeMaps.setBlock w b o) X a ns most := by
  obtain ⟨sb, g, cap, cur, h⟩ := h
  refine ⟨sb, g, cap, cur, h.moved (fun k _ hk => ?_) (fun k hk => by simpa [ChangeMaps.setBlock] using h.low k hk) (fun k _ hk => h.not_x hk)⟩
  simp only [ChangeMaps.setBlock]
  have hne : b ≠ k := by rintro rfl; exact h.not_x hk hb
  exact Array.getElem?_setIfInBounds_ne hne
/-- Node k as Go finds it. -/
def geti (ns : List Nd) (k : Int) : Nd := if k < 0 then no else nd ns k.toNat
theorem geti_nat (ns : List Nd) (k : Nat) : geti ns k = nd ns k := by simp [geti]; omega

theorem ArM.node {sb g cap : Nat} {cur : Array Value} {L : List (Nd × Nat)} (h : ArM w X a sb g cap cur ns L most) {k : Nat} (hk : k < ns.length) :
    w.cell? ⟨g, k * 3, none⟩ = some (.int .i64 (nd ns k).v) ∧ w.cell? ⟨g, k * 3 + 1, none⟩ = some (.int .i64 (nd ns k).lo) ∧ w.cell? ⟨g, k * 3 + 2, none⟩ = some (.int .i64 (nd ns k).hi) := by
  have c : ∀ j, j < 3 → w.cell? ⟨g, k * 3 + j, none⟩ = (ndc (nd ns k))[j]? := fun j hj => by
    rw [cell_of_row w g (k * 3 + j) cur _ (0, 0) h.row, ← cellsOf_at ns k j hk hj, ← h.cells, List.getElem?_take, if_pos (by omega)]
    simp
  exact ⟨c 0 (by omega), c 1 (by omega), c 2 (by omega)⟩
theorem ArM.fields {sb g cap : Nat} {cur : Array Value} {L : List (Nd × Nat)} (h : ArM w X a sb g cap cur ns L most) :
    w.cell? ⟨a, 0, none⟩ = some (.slice (some ⟨g, 0, none⟩) ns.length cap) ∧ w.cell? ⟨a, 1, none⟩ = some (.map (some sb)) ∧ w.cell? ⟨a, 2, none⟩ = some (.int .i64 most) ∧
    w.frozen? ⟨a, 0, none⟩ = false := by
  refine ⟨?_, ?_, ?_, ?_⟩
  · rw [cell_of_row w a 0 _ _ (0, 0) h.head]; rfl
  · rw [cell_of_row w a 1 _ _ (0, 0) h.head]; rfl
  · rw [cell_of_row w a 2 _ _ (0, 0) h.head]; rfl
  · simp [World.frozen?, h.head]
end

/-! ### Len, Get -/
theorem len_any {w : World} {X : Nat → Prop} {a : Nat} {ns : List Nd} {most : Nat} (h : Ar w X a ns most) :
    Calls Tryd.prog 9 #[.pointer (some ⟨a, 0, none⟩)] w fun e w' => e = .returned (.int .i64 ns.length) ∧ w = w' := by
  obtain ⟨sb, g, cap, cur, h⟩ := h
  obtain ⟨h0, -, -, -⟩ := h.fields
  clear h
  go_enter Tryd.func9, Tryd.ntmps9
  go_wp2
  go_ret
  exact ⟨rfl, rfl⟩

end Go.Proofs.YtimlfmklbfgliaaDoor
