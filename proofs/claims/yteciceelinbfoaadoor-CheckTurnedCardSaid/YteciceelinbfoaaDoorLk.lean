import Derived.Test.YteciceelinbfoaaDoorCs2
set_option linter.unusedVariables false
namespace Go.Proofs.YteciceelinbfoaaDoor
open Go.RowKit Mq

/-- What is wrong of a router's links: the number and the place. -/
def emptyB (s : ByteArray) : Bool := s.toList == (⟨#[]⟩ : ByteArray).toList
def linkBad (rts : List RtV) (maps : List ByteArray) (me : ByteArray) (seen : List ByteArray) : List LkV → Option (Int × Int)
  | [] => none
  | l :: ls =>
    if !(rts.any fun r => decide (r.name = l.peer)) || (l.peer.toList == me.toList) || (!(l.imp.toList.isEmpty) && !(maps.any fun s => decide (s = l.imp))) || (!(l.exp.toList.isEmpty) && !(maps.any fun s => decide (s = l.exp))) then some (3, l.at_)
    else if seen.any (fun s => decide (s = l.peer)) then some (4, l.at_)
    else match (rts.find? fun r => decide (r.name = l.peer)) with
      | none => some (0, 0)
      | some p => if (peerL p.links.l me).isSome then linkBad rts maps me (seen ++ [l.peer]) ls else some (5, l.at_)
theorem linkBad_drop {rts : List RtV} {maps : List ByteArray} {me : ByteArray} {seen : List ByteArray} {ls : List LkV} {k : Nat} {l : LkV} (hk : ls[k]? = some l) : linkBad rts maps me seen (ls.drop k) = linkBad rts maps me seen (l :: ls.drop (k + 1)) := by
  have hlt := (List.getElem?_eq_some_iff.1 hk).1
  have he : ls[k] = l := (List.getElem?_eq_some_iff.1 hk).2
  rw [List.drop_eq_getElem_cons hlt, he]
/-- Where a name stands among distinct ones: the number that the map holds is the place of the first router of the name. -/
theorem look_first (nm : ByteArray) : ∀ (rts : List RtV) (i : Nat), Mq.look nm (((rts.map (·.name)).zipIdx i).map fun p => (p.1, (p.2 : Int))) = ((rts.findIdx? fun r => decide (r.name = nm)).map fun j => ((j + i : Nat) : Int))
  | [], _ => rfl
  | r :: rs, i => by
    have ih := look_first nm rs (i + 1)
    simp only [List.map_cons, List.zipIdx_cons, Mq.look, List.findIdx?_cons]
    by_cases h : r.name = nm
    · rw [if_pos h, decide_eq_true h]; simp
    · rw [if_neg h, decide_eq_false h, ih]
      cases rs.findIdx? fun r => decide (r.name = nm) with
      | none => rfl
      | some j => simp; omega
end Go.Proofs.YteciceelinbfoaaDoor
