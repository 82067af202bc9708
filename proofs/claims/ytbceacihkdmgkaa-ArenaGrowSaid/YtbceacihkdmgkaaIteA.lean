import Derived.Test.YtbceacihkdmgkaaIteW
set_option linter.unusedVariables false
namespace Go.Proofs.Ytbceacihkdmgkaa
open Go.RowKit Mq

theorem MkBox.setErr {w : World} {mb db a err : Nat} {D : List (Key × Nat)} (h : MkBox w mb db a err D) (hne : mb ≠ db) (e : Nat) : MkBox (w.setCell ⟨mb, 2, none⟩ (errv e)) mb db a e D := by
  refine ⟨?_, ?_⟩
  · simp [World.setCell, Array.getElem?_modify, h.head]
  · rw [Below.heap_setCell _ _ _ _ (Ne.symm hne)]; exact h.done
theorem MkBox.store {w : World} {mb db a err : Nat} {D D' : List (Key × Nat)} (h : MkBox w mb db a err D) (hne : mb ≠ db) : MkBox (ChangeMaps.setBlock w db (mapObj keyv numv D')) mb db a err D' := by
  have hl := h.lt.2
  refine ⟨?_, ?_⟩
  · simp only [ChangeMaps.setBlock]; rw [Array.getElem?_setIfInBounds_ne (Ne.symm hne)]; exact h.head
  · simp [ChangeMaps.setBlock, hl]
theorem keep_setCell {X : Nat → Prop} {w : World} {p : Addr} (hp : ¬ X p.block) (v : Value) : Keep X w (w.setCell p v) :=
  ⟨rfl, rfl, rfl, by simp [World.setCell], fun k hk _ => Below.heap_setCell _ _ _ _ (by rintro rfl; exact hp hk)⟩
theorem keep_setBlock {X : Nat → Prop} {w : World} {b : Nat} (hb : ¬ X b) (o : Obj) : Keep X w (ChangeMaps.setBlock w b o) :=
  ⟨rfl, rfl, rfl, by simp [ChangeMaps.setBlock], fun k hk _ => by
    have hne : b ≠ k := by rintro rfl; exact hb hk
    simp only [ChangeMaps.setBlock]
    exact Array.getElem?_setIfInBounds_ne hne⟩

def IteOut (X : Nat → Prop) (a most mb db : Nat) (W : World) (ns : List Nd) (n v : Nat) (F : (Nat → Bool) → Bool) (e : Ending) (W' : World) : Prop :=
  ∃ ns' k D' err, e = .returned (.int .i64 (k : Nat)) ∧ Ar W' (fun b => X b ∨ b = mb ∨ b = db) a ns' most ∧ Keep X W W' ∧ MkBox W' mb db a err D' ∧ Ext ns ns' ∧
    ((err = 0 ∧ Memo ns' D' ∧ Dia ns n v F ns' k) ∨ (err = 8 ∧ k = 0 ∧ Lack most ns n F))

section
variable {X : Nat → Prop} {a most mb db : Nat} {W : World} {ns : List Nd} {D : List (Key × Nat)}

set_option maxRecDepth 100000 in
/-- There was no room before. -/
theorem ite_err (hM : MkBox W mb db a 8 D) (f g h : Nat) :
    Calls Try.prog 55 #[.pointer (some ⟨mb, 0, none⟩), .int .i64 f, .int .i64 g, .int .i64 h] W fun e W' => e = .returned (.int .i64 0) ∧ W = W' := by
  obtain ⟨-, -, c2, -⟩ := cells3 hM.head
  have he : errv 8 = .iface 79 (.int .i64 8) := rfl
  rw [he] at c2
  clear hM he
  go_enter Try.func55, Try.ntmps55
  go_wp2_with fail
  go_ret
  exact ⟨rfl, rfl⟩

set_option maxRecDepth 100000 in
theorem ite_one (hM : MkBox W mb db a 0 D) (g h : Nat) :
    Calls Try.prog 55 #[.pointer (some ⟨mb, 0, none⟩), .int .i64 1, .int .i64 g, .int .i64 h] W fun e W' => e = .returned (.int .i64 g) ∧ W = W' := by
  obtain ⟨-, -, c2, -⟩ := cells3 hM.head
  have he : errv 0 = .nilIface := rfl
  rw [he] at c2
  clear hM he
  go_enter Try.func55, Try.ntmps55
  go_wp2_with fail
  go_ret
  exact ⟨rfl, rfl⟩
set_option maxRecDepth 100000 in
theorem ite_same (hM : MkBox W mb db a 0 D) (f g : Nat) (h1 : f ≠ 1) :
    Calls Try.prog 55 #[.pointer (some ⟨mb, 0, none⟩), .int .i64 f, .int .i64 g, .int .i64 g] W fun e W' => e = .returned (.int .i64 g) ∧ W = W' := by
  obtain ⟨-, -, c2, -⟩ := cells3 hM.head
  have he : errv 0 = .nilIface := rfl
  rw [he] at c2
  have e1 : ((f : Int) == 1) = false := by rw [beq_eq_false_iff_ne]; omega
  clear hM he h1
  go_enter Try.func55, Try.ntmps55
  go_wp2_with fail
  go_ret
  exact ⟨rfl, rfl⟩
set_option maxRecDepth 100000 in
theorem ite_zero (hM : MkBox W mb db a 0 D) (g h : Nat) (hgh : g ≠ h) :
    Calls Try.prog 55 #[.pointer (some ⟨mb, 0, none⟩), .int .i64 0, .int .i64 g, .int .i64 h] W fun e W' => e = .returned (.int .i64 h) ∧ W = W' := by
  obtain ⟨-, -, c2, -⟩ := cells3 hM.head
  have he : errv 0 = .nilIface := rfl
  rw [he] at c2
  have e1 : ((g : Int) == (h : Int)) = false := by rw [beq_eq_false_iff_ne]; omega
  clear hM he hgh
  go_enter Try.func55, Try.ntmps55
  go_wp2_with fail
  go_ret
  exact ⟨rfl, rfl⟩

set_option maxRecDepth 100000 in
set_option maxHeartbeats 1000000 in
theorem ite_memo (hM : MkBox W mb db a 0 D) (f g h r : Nat) (h0 : f ≠ 0) (h1 : f ≠ 1) (hgh : g ≠ h) (hl : Mq.look ⟨f, g, h⟩ D = some r) :
    Calls Try.prog 55 #[.pointer (some ⟨mb, 0, none⟩), .int .i64 f, .int .i64 g, .int .i64 h] W fun e W' => e = .returned (.int .i64 r) ∧ Below W.heap.size W W' := by
  obtain ⟨c0, c1, c2, -⟩ := cells3 hM.head
  have hseen := fun (o : Obj) (q : Nat) => run_done_look ((W.alloc o).drewN q) (db := db) (D := D) (by
    rw [World.heap_drewN, Below.heap_alloc _ _ _ hM.lt.2]; exact hM.done) ⟨f, g, h⟩
  simp only [hl, Option.getD_some, Option.isSome_some] at hseen
  unfold keyv numv at hseen
  have hlt := hM.lt.1
  have he : errv 0 = .nilIface := rfl
  rw [he] at c2
  have e0 : ((f : Int) == 0) = false := by rw [beq_eq_false_iff_ne]; omega
  have e1 : ((f : Int) == 1) = false := by rw [beq_eq_false_iff_ne]; omega
  have e2 : ((g : Int) == (h : Int)) = false := by rw [beq_eq_false_iff_ne]; omega
  clear hM he hgh h0 h1 hl
  go_enter Try.func55, Try.ntmps55
  go_wp2_with fail
  go_quiet (fail)
  go_wp2_with fail
  go_ret
  exact ⟨rfl, pw_below_drewN (below_alloc (Below.refl _ _) _) _⟩
end
end Go.Proofs.Ytbceacihkdmgkaa
