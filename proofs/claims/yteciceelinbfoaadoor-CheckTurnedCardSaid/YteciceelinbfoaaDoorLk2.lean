import Derived.Test.YteciceelinbfoaaDoorLk
set_option linter.unusedVariables false
namespace Go.Proofs.YteciceelinbfoaaDoor
open Go.RowKit Mq

theorem find_at {rts : List RtV} {nm : ByteArray} (h : (rts.any fun r => decide (r.name = nm)) = true) : ∃ j p, (rts.findIdx? fun r => decide (r.name = nm)) = some j ∧ rts[j]? = some p ∧ (rts.find? fun r => decide (r.name = nm)) = some p := by
  induction rts with
  | nil => simp at h
  | cons r rs ih =>
    by_cases hr : r.name = nm
    · exact ⟨0, r, by simp [List.findIdx?_cons, hr], by simp, by simp [hr]⟩
    · rw [List.any_cons, decide_eq_false hr, Bool.false_or] at h
      obtain ⟨j, p, h1, h2, h3⟩ := ih h
      exact ⟨j + 1, p, by simp [List.findIdx?_cons, hr, h1], by simpa using h2, by simp [hr, h3]⟩
theorem slok_below {α : Type} {ec : α → List Value} {size : Nat} {Ok : World → α → Prop} {w w' : World} {s : SlV α} (h : SlOk ec size Ok w s) (hb : Below w.heap.size w w') (hok : ∀ u, Ok w u → Ok w' u) : SlOk ec size Ok w' s :=
  ⟨(h.at_.below hb).more hb.size, fun u hu => hok u (h.ok u hu), h.fits, h.cap⟩
theorem peer_any2 (r : RtV) (nm : ByteArray) (w : World) (hl : SlOk lkc 5 (fun _ _ => True) w r.links) :
    Calls Tryd.prog 15 #[.agg #[.string r.name, .slice r.nets.A r.nets.l.length r.nets.cap, .slice r.links.A r.links.l.length r.links.cap, .slice r.stats.A r.stats.l.length r.stats.cap, .int .i64 r.at_], .string nm] w
      fun e w' => ∃ q : LkV, q = (peerL r.links.l nm).getD noLk ∧ e = .returned (.tuple #[.agg #[.string q.peer, .int .i64 q.cost, .string q.imp, .string q.exp, .int .i64 q.at_], .bool (peerL r.links.l nm).isSome]) ∧ Below w.heap.size w w' :=
  (peer_any r nm w hl).mono fun e w' h => ⟨_, rfl, h.1, h.2⟩
end Go.Proofs.YteciceelinbfoaaDoor
