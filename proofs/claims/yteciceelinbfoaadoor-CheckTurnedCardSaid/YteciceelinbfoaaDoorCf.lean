import Derived.Test.YteciceelinbfoaaDoorCd
set_option linter.unusedVariables false
namespace Go.Proofs.YteciceelinbfoaaDoor
open Go.RowKit Mq

theorem clause_info : (Tryd.prog.info? 88).map (fun i => (i.zero, i.size, i.bytes)) = some (some (clv ⟨false, noPfx, 0, 0, false, 0, 0, 0, 0⟩), 10, 48) := by kernel_rfl
/-- What For leaves: its clauses, in a row of its own. -/
def OwnsCls (w : World) (base : Nat) (v : Value) (cs : List Cl) : Prop := w.ownsRow base 88 10 v cs.length (cs.flatMap clc)
def ForPost (w : World) (r : List Cl) (e : Ending) (w' : World) : Prop := ∃ A c, e = .returned (.slice A r.length c) ∧ OwnsCls w' w.heap.size (.slice A r.length c) r ∧ Below w.heap.size w w'
theorem OwnsCls.form {w : World} {base : Nat} {v : Value} {cs : List Cl} (h : OwnsCls w base v cs) : ∃ A c, v = .slice A cs.length c := by
  rcases h.2 with ⟨rfl, hn⟩ | ⟨g, cap, cur, rfl, -⟩
  · exact ⟨none, 0, by rw [hn]⟩
  · exact ⟨_, _, rfl⟩
theorem OwnsCls.at_ {w : World} {base : Nat} {A : Option Addr} {n c : Nat} {cs : List Cl} (h : OwnsCls w base (.slice A n c) cs) : ClsAt w w.heap.size A cs := by
  obtain ⟨A', c', e⟩ := h.form
  injection e with e1 e2 e3
  subst e2
  exact Sli.of_own (fun a => rfl) (by omega) h
def bareCells (c : Cl) : Array Value := #[.bool true, .int .u32 0, .int .i64 0, .int .u8 c.wi, .int .u8 c.out, .bool c.drop, .int .u8 c.set, .int .u8 c.clr, .int .i64 c.more, .int .i64 c.pref]
theorem clc_bare (c : Cl) : clc (bareCl c) = (bareCells c).toList := rfl
theorem forL_skip {cs : List Cl} {o : Pfx} {k : Nat} {c : Cl} (hk : cs[k]? = some c) (h : forB c o = false) {pre : List Cl} (e : forL cs o = pre ++ forL (cs.drop k) o) : forL cs o = pre ++ forL (cs.drop (k + 1)) o := by
  obtain ⟨hl, rfl⟩ := List.getElem?_eq_some_iff.1 hk
  rw [e, List.drop_eq_getElem_cons hl, forL, if_neg (by simp [h])]
theorem forL_take {cs : List Cl} {o : Pfx} {k : Nat} {c : Cl} (hk : cs[k]? = some c) (h : forB c o = true) (hz : ¬ (c.wi = 0 ∧ c.out = 0)) {pre : List Cl} (e : forL cs o = pre ++ forL (cs.drop k) o) : forL cs o = (pre ++ [bareCl c]) ++ forL (cs.drop (k + 1)) o := by
  obtain ⟨hl, rfl⟩ := List.getElem?_eq_some_iff.1 hk
  rw [e, List.drop_eq_getElem_cons hl, forL, if_pos h, if_neg hz, List.append_assoc]; rfl
theorem forL_stop {cs : List Cl} {o : Pfx} {k : Nat} {c : Cl} (hk : cs[k]? = some c) (h : forB c o = true) (hz : c.wi = 0 ∧ c.out = 0) {pre : List Cl} (e : forL cs o = pre ++ forL (cs.drop k) o) : forL cs o = pre ++ [bareCl c] := by
  obtain ⟨hl, rfl⟩ := List.getElem?_eq_some_iff.1 hk
  rw [e, List.drop_eq_getElem_cons hl, forL, if_pos h, if_pos hz]
theorem own_base {w : World} {b b' : Nat} {v : Value} {cs : List Cl} (h : OwnsCls w b v cs) (hb : b' ≤ b) : OwnsCls w b' v cs := by
  obtain ⟨h1, h2⟩ := h
  refine ⟨h1, ?_⟩
  rcases h2 with h2 | ⟨g, cap, cur, h2, h3, h4⟩
  · exact .inl h2
  · exact .inr ⟨g, cap, cur, h2, by omega, h4⟩
/-- The state of For's loop. -/
structure ForRel (cs : List Cl) (o : Pfx) (W wr : World) (v : Value) (k : Nat) (pre : List Cl) : Prop where
  done : forL cs o = pre ++ forL (cs.drop k) o
  few : pre.length ≤ k
  below : Below W.heap.size W wr
  owns : OwnsCls wr W.heap.size v pre

end Go.Proofs.YteciceelinbfoaaDoor
