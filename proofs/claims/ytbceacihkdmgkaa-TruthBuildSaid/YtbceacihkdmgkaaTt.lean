import Derived.Test.YtbceacihkdmgkaaTb
import Derived.Test.YtbceacihkdmgkaaEvT
import Derived.Deep.OwnRows
set_option linter.unusedVariables false
namespace Go.Proofs.Ytbceacihkdmgkaa
open Go.RowKit Mq

/-- The values of n variables in row j. -/
def rowN (n j v : Nat) : Bool := decide (v < n) && ((j >>> (n - 1 - v)) % 2 == 1)

set_option maxRecDepth 100000 in
theorem tt1_any (W : World) (kb vb j n v : Nat) (hj : j < 1024) (hn : n ≤ 10) (hv : v < 1024) (hc : W.cell? ⟨kb, 0, none⟩ = some (.int .i64 j)) (hd : W.cell? ⟨vb, 0, none⟩ = some (.int .i64 n)) :
    Calls Try.prog 58 #[.int .i64 v, .pointer (some ⟨vb, 0, none⟩), .pointer (some ⟨kb, 0, none⟩)] W fun e W' => e = .returned (.bool (rowN n j v)) ∧ Below W.heap.size W W' := by
  by_cases h : v < n
  · have e1 : ((n : Int) - 1 - (v : Int)) = ((n - 1 - v : Nat) : Int) := by omega
    have e2 : ((j : Int) / 2 ^ (n - 1 - v)) = ((j / 2 ^ (n - 1 - v) : Nat) : Int) := by simp
    have e3 : j / 2 ^ (n - 1 - v) < 1024 := Nat.lt_of_le_of_lt (Nat.div_le_self _ _) hj
    have E3 := Lib.hid (And.intro e2 e3)
    have hs : n - 1 - v ≤ 10 := by omega
    clear e2 e3
    go_enter Try.func58, Try.ntmps58
    go_wp2_with fail
    go_ret
    exact ⟨ret_bool ((and_one _ (j / 2 ^ (n - 1 - v)) E3.out.1 (by have := E3.out.2; omega)).trans (by simp [rowN, h, Nat.shiftRight_eq_div_pow])), Below.refl _ _⟩
  · go_enter Try.func58, Try.ntmps58
    go_wp2_with fail
    go_ret
    exact ⟨ret_bool (by simp [rowN, h]), Below.refl _ _⟩

theorem bool_info : (Try.prog.info? 4).map (fun i => (i.zero, i.size, i.bytes)) = some (some (.bool false), 1, 1) := by kernel_rfl
theorem max2_i (ats : Array TypeId) (ty : TypeId) (k : IntKind) (a b : Int) : Builtin.max_ ats ty #[.int k a, .int k b] = pure (.int k (max a b)) := by
  simp only [Builtin.max_, List.foldlM_cons, List.foldlM_nil, Builtin.max2]
  have : max a b = if b > a then b else a := by omega
  rw [this]; rfl
theorem min2_i (ats : Array TypeId) (ty : TypeId) (k : IntKind) (a b : Int) : Builtin.min_ ats ty #[.int k a, .int k b] = pure (.int k (min a b)) := by
  simp only [Builtin.min_, List.foldlM_cons, List.foldlM_nil, Builtin.min2]
  have : min a b = if b < a then b else a := by omega
  rw [this]; rfl
attribute [local go_sem high] max2_i min2_i
theorem hbelow_of {B C : Nat} {w w' : World} (h : Below C w w') (hb : B ≤ C) : Below B w w' := ⟨h.os, h.tape, h.output, h.size, fun k hk => h.block k (by omega)⟩
/-- A table that is made: k of its rows are done. -/
structure TtRel (w wr : World) (n m : Nat) (T : Nat → Bool) (i : Nat) : Prop where
  below : Below w.heap.size w wr
  vars : wr.heap[w.heap.size]? = some (.cells #[.int .i64 n] 3 (0, 0))
  rows : wr.rowIs (w.heap.size + 1) 4 m (fun j => .bool (decide (j < i) && T j))
theorem TtRel.step {w wr w2 : World} {n m i : Nat} {T : Nat → Bool} (h : TtRel w wr n m T i) (hb : Below wr.heap.size wr w2) : TtRel w (w2.setCell ⟨w.heap.size + 1, i, none⟩ (.bool (T i))) n m T (i + 1) := by
  have s0 := (Array.getElem?_eq_some_iff.1 h.vars).1
  have s1 := h.rows.lt
  refine ⟨(h.below.trans (hbelow_of hb (by omega))).setCell (p := ⟨w.heap.size + 1, i, none⟩) (by simp) _, ?_, ?_⟩
  · rw [Below.heap_setCell _ _ _ _ (by simp)]; exact blk_below hb h.vars s0
  · refine ((h.rows.of_block (hb.block _ s1)).set i (.bool (T i))).congr fun j hj => ?_
    by_cases e : j = i
    · subst e; simp
    · rw [if_neg e]
      have : decide (j < i) = decide (j < i + 1) := by rw [decide_eq_decide]; omega
      rw [this]
/-- What Table leaves: its rows, in a block of their own. -/
def TtPost (w : World) (m : Nat) (T : Nat → Bool) (e : Ending) (w' : World) : Prop :=
  ∃ b, e = .returned (.slice (some ⟨b, 0, none⟩) m m) ∧ w.heap.size ≤ b ∧ Below w.heap.size w w' ∧ w'.rowIs b 4 m (fun j => .bool (T j))
set_option maxRecDepth 100000 in
theorem ttable_any {w : World} {X : Nat → Prop} {a : Nat} {ns : List Nd} {most : Nat} (h : Ar w X a ns most) (f : Nat) (hf : f < ns.length) (vars : Int) (n m : Nat) (hn : max 0 (min vars 10) = (n : Int)) (hm : m = 2 ^ n) :
    Calls Try.prog 38 #[.pointer (some ⟨a, 0, none⟩), .int .i64 f, .int .i64 vars] w (TtPost w m (fun i => ev ns (rowN n i) f)) := by
  obtain ⟨T, hT⟩ : ∃ T : Nat → Bool, T = fun i => ev ns (rowN n i) f := ⟨_, rfl⟩
  have HT := Lib.hid hT
  rw [← hT]
  clear hT
  have H := Lib.hid h
  clear h
  have hn10 : n ≤ 10 := by omega
  have hm2 : m ≤ 1024 := by
    have : 2 ^ n ≤ 2 ^ 10 := Nat.pow_le_pow_right (by omega) hn10
    omega
  have hm3 : 1 ≤ m := by have := Nat.two_pow_pos n; omega
  have hsh : ((2 : Int) ^ n) = (m : Int) := by rw [hm]; simp
  have hmk := fun w => run_make_row' (P := Try.prog) 49 4 (.bool false) 1 Try.underlying49 bool_info rfl .i64 .i64 m (by omega) (by omega) w
  clear hm
  go_enter Try.func38, Try.ntmps38
  go_wp2_with fail
  go_loopw [17] (fun k wr => ∃ i : Nat, k = .int .i64 i ∧ i ≤ m ∧ TtRel w wr n m T i) (fun k _ => m - (intOf k).toNat)
  case atStart =>
    refine ⟨0, rfl, by omega, below_alloc (below_alloc (Below.refl _ _) _) _, ?_, ?_⟩
    · rw [Below.heap_alloc _ _ _ (by simp)]; exact heap_alloc_new w _
    · have := World.rowIs_made (w.alloc (.cells #[.int .i64 n] 3)) (.bool false) m 4
      simpa using this
  case round =>
    obtain ⟨i, rfl, hi, hrel⟩ := hrel
    have R := Lib.hid hrel
    by_cases hlt : i < m
    · go_upto_region 6 with fail
      have hhw := H.out.below R.out.below
      have s0 := (Array.getElem?_eq_some_iff.1 R.out.vars).1
      have s1 := R.out.rows.lt
      have k0 := R.out.rows.cell hlt
      have e0 := R.out.rows.frozen i
      have i0 : (0 : Int) ≤ (i : Int) := by omega
      have i1 : (i : Int) < (m : Int) := by omega
      clear hrel
      go_region_with (go_at_call 51; refine (eval_TruthTable ((hhw.alloc' _).drewN 1) f hf _ _ (rowN n i) (fun W' v hb' hv => tt1_any W' wr.heap.size w.heap.size i n v (by omega) hn10 hv ((cells1 (blk_below hb' (heap_alloc_new wr _) (by simp))).1) ((cells1 (blk_below hb' ((Below.heap_alloc wr _ _ s0).trans R.out.vars) (Nat.lt_of_lt_of_le s0 (by simp)))).1))).mono ?_; rintro e w2 ⟨rfl, hb2⟩; have hbb : Below wr.heap.size wr w2 := below_trans (pw_below_drewN (below_alloc (Below.refl _ _) _) 1) hb2; have d0 := (R.out.rows.of_block (hbb.block _ s1)).cell hlt; have d1 := (R.out.rows.of_block (hbb.block _ s1)).frozen i; have d2 := (cells1 (blk_below hb2 (heap_alloc_new wr _) (by simp))).1)
      all_goals (go_wp2; go_roundw)
      all_goals first
        | (case rel => exact ⟨i + 1, by go_num, by omega, by have := R.out.step hbb; rw [HT.out] at this; rw [HT.out]; exact this⟩)
        | (case measure => (simp [intOf] <;> omega))
    · obtain rfl : i = m := by omega
      go_wp2_with fail
      go_ret
      exact ⟨w.heap.size + 1, rfl, by omega, R.out.below, R.out.rows.congr fun j hj => by simp [hj]⟩
end Go.Proofs.Ytbceacihkdmgkaa
