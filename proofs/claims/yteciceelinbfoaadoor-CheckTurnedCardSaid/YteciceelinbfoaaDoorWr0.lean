import Derived.Test.YteciceelinbfoaaDoorCg
import Derived.Test.YteciceelinbfoaaDoorCq
import Derived.Test.YteciceelinbfoaaDoorCm
set_option linter.unusedVariables false
namespace Go.Proofs.YteciceelinbfoaaDoor
open Go.RowKit Mq

theorem routerL_eq (l : List RtV) (nm : ByteArray) : routerL l nm = l.find? fun r => decide (r.name = nm) := by
  unfold routerL
  congr 1
  funext r
  exact ba_toList _ _
theorem routerL_some (l : List RtV) (nm : ByteArray) : (routerL l nm).isSome = l.any fun r => decide (r.name = nm) := by
  rw [routerL_eq]
  induction l with
  | nil => rfl
  | cons r l ih =>
    rw [List.find?_cons, List.any_cons]
    cases decide (r.name = nm) <;> simp [ih]
theorem peerL_some (l : List LkV) (nm : ByteArray) : (peerL l nm).isSome = l.any fun x => x.peer.toList == nm.toList := by
  unfold peerL
  induction l with
  | nil => rfl
  | cons r l ih =>
    rw [List.find?_cons, List.any_cons]
    cases (r.peer.toList == nm.toList) <;> simp [ih]
theorem mappedL_eq (l : List MpV) (nm : ByteArray) : mappedL l nm = !(!(nm.toList.isEmpty) && !((l.map (·.name)).any fun s => decide (s = nm))) := by
  unfold mappedL
  rw [← empty_eq, List.any_map, Bool.not_and, Bool.not_not, Bool.not_not, Bool.or_comm]
  congr 1
  congr 1
  funext r
  exact ba_toList _ _
theorem bad_eq (c : CfV) (me : ByteArray) (l : LkV) : (!(c.rts.l.any fun r => decide (r.name = l.peer)) || (l.peer.toList == me.toList) || (!(l.imp.toList.isEmpty) && !((c.maps.l.map (·.name)).any fun s => decide (s = l.imp))) || (!(l.exp.toList.isEmpty) && !((c.maps.l.map (·.name)).any fun s => decide (s = l.exp)))) =
    (!(routerL c.rts.l l.peer).isSome || (l.peer.toList == me.toList) || !(mappedL c.maps.l l.imp) || !(mappedL c.maps.l l.exp)) := by
  rw [routerL_some, mappedL_eq, mappedL_eq, Bool.not_not, Bool.not_not]
theorem router_any2 (c : CfV) (nm : ByteArray) (w : World) (hl : SlOk rtc 5 (fun _ _ => True) w c.rts) :
    Calls Tryd.prog 24 #[.agg #[.slice c.maps.A c.maps.l.length c.maps.cap, .slice c.rts.A c.rts.l.length c.rts.cap], .string nm] w
      fun e w' => ∃ q : RtV, q = (routerL c.rts.l nm).getD noRt ∧ e = .returned (.tuple #[.agg #[.string q.name, .slice q.nets.A q.nets.l.length q.nets.cap, .slice q.links.A q.links.l.length q.links.cap, .slice q.stats.A q.stats.l.length q.stats.cap, .int .i64 q.at_], .bool (routerL c.rts.l nm).isSome]) ∧ Below w.heap.size w w' :=
  (router_any c nm w hl).mono fun e w' h => ⟨_, rfl, h.1, h.2⟩
theorem gb_cells3 {W : World} {b : Nat} {x0 x1 x2 : Value} {t : TypeId} (h : W.heap[b]? = some (.cells #[x0, x1, x2] t (0, 0))) : W.cell? ⟨b, 0, none⟩ = some x0 ∧ W.cell? ⟨b, 1, none⟩ = some x1 ∧ W.cell? ⟨b, 2, none⟩ = some x2 :=
  ⟨gb_cell h 0, gb_cell h 1, gb_cell h 2⟩
theorem eq_pxD (w : World) (d : Nat) (x y : Pfx) : (Op.equalIn (d + 2) 66 (.agg #[.int .u32 x.addr, .int .i64 x.bits]) (.agg #[.int .u32 y.addr, .int .i64 y.bits])).run Tryd.prog w = .ok (decide (x = y)) w := by
  have e : decide (x = y) = ((x.addr : Int) == y.addr && (x.bits == y.bits)) := by
    cases x; cases y; simp; rw [Bool.eq_iff_iff]; simp; omega
  rw [e]; exact eq_px w d _ _ _ _
/-- What the law's own function says. -/
def wrongV (c : CfV) : Int × Int := (cfgBad c).getD (0, -1)
theorem take_any_next {α : Type} {l : List α} {p : α → Bool} {k : Nat} {x : α} {b : Bool} (h : (l.take k).any p = b) (hk : l[k]? = some x) : (l.take (k + 1)).any p = (b || p x) := by
  rw [List.take_add_one, hk, List.any_append, h]; simp
theorem take_any_found {α : Type} {l : List α} {p : α → Bool} {k i : Nat} {x : α} (hk : l[i]? = some x) (hi : i < k) (hx : p x = true) : (l.take k).any p = true :=
  List.any_eq_true.2 ⟨x, List.mem_of_getElem? (i := i) (by rw [List.getElem?_take, if_pos hi]; exact hk), hx⟩
end Go.Proofs.YteciceelinbfoaaDoor
