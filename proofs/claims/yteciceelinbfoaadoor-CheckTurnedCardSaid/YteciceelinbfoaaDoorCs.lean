import Derived.Test.YteciceelinbfoaaDoorCn
set_option linter.unusedVariables false
namespace Mq
open Go
theorem look_names (x : ByteArray) : ∀ ns : List ByteArray, Mq.look x (ns.map fun n => (n, true)) = cond (ns.any fun s => decide (s = x)) (some true) none
  | [] => rfl
  | n :: ns => by
    have ih := look_names x ns
    simp only [List.map_cons, Mq.look, ih, List.any_cons]
    by_cases h : n = x
    · subst h; simp
    · rw [if_neg h, decide_eq_false h, Bool.false_or]
theorem look_idx (x : ByteArray) : ∀ (ns : List ByteArray) (i : Nat), (Mq.look x ((ns.zipIdx i).map fun p => (p.1, (p.2 : Int)))).isSome = ns.any (fun s => decide (s = x))
  | [], _ => rfl
  | n :: ns, i => by
    have ih := look_idx x ns (i + 1)
    simp only [List.zipIdx_cons, List.map_cons, Mq.look, List.any_cons]
    by_cases h : n = x
    · subst h; simp
    · rw [if_neg h, decide_eq_false h, Bool.false_or, ih]
end Mq
namespace Go.Proofs.YteciceelinbfoaaDoor
open Go.RowKit Mq

theorem sb_store (w : World) {b : Nat} {L : List (ByteArray × Bool)} (hb : w.heap[b]? = some (sbObj L)) (x : ByteArray) :
    (Instr.mapUpdate 59 (.map (some b)) (.string x) (.bool true)).run Tryd.prog w = .ok () (ChangeMaps.setBlock w b (sbObj (Mq.put x true L))) :=
  Mq.run_store (keyT_str (P := Tryd.prog) (kt := 9) Tryd.underlying9) (encv := fun b : Bool => Value.bool b) smap_info w hb x true
theorem si_store (w : World) {b : Nat} {L : List (ByteArray × Int)} (hb : w.heap[b]? = some (siObj L)) (x : ByteArray) (k : Int) :
    (Instr.mapUpdate 60 (.map (some b)) (.string x) (.int .i64 k)).run Tryd.prog w = .ok () (ChangeMaps.setBlock w b (siObj (Mq.put x k L))) :=
  Mq.run_store (keyT_str (P := Tryd.prog) (kt := 9) Tryd.underlying9) (encv := fun b : Int => Value.int .i64 b) imap_info w hb x k
theorem setBlock_same {w : World} {b : Nat} (h : b < w.heap.size) (o' : Obj) : (ChangeMaps.setBlock w b o').heap[b]? = some o' := by
  simp [ChangeMaps.setBlock, h]
theorem setBlock_far {w : World} {b k : Nat} (h : k ≠ b) (o' : Obj) : (ChangeMaps.setBlock w b o').heap[k]? = w.heap[k]? := by
  simp [ChangeMaps.setBlock, Ne.symm h]
theorem gb_setBlock {B b : Nat} {w0 w : World} (hb : Below B w0 w) (h : B ≤ b) (o : Obj) : Below B w0 (ChangeMaps.setBlock w b o) :=
  hb.trans ⟨rfl, rfl, rfl, by simp [ChangeMaps.setBlock], fun k hk => setBlock_far (by omega) o⟩
end Go.Proofs.YteciceelinbfoaaDoor
