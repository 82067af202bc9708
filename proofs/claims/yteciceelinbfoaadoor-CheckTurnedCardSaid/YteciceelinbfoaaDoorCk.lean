import Derived.Test.YteciceelinbfoaaDoorNf
import Derived.Test.YteciceelinbfoaaDoorRdk
import Derived.Test.YteciceelinbfoaaDoorCl
set_option linter.unusedVariables false
namespace Go.Proofs.YteciceelinbfoaaDoor
open Go.RowKit Mq

/-- A link, a way, a router. -/
structure LkV where
  peer : ByteArray
  cost : Int
  imp : ByteArray
  exp : ByteArray
  at_ : Int
def lkc (l : LkV) : List Value := [.string l.peer, .int .i64 l.cost, .string l.imp, .string l.exp, .int .i64 l.at_]
def noLk : LkV := ⟨⟨#[]⟩, 0, ⟨#[]⟩, ⟨#[]⟩, 0⟩
structure StV where
  px : Pfx
  via : ByteArray
  at_ : Int
structure RtV where
  name : ByteArray
  nets : SlV Pfx
  links : SlV LkV
  stats : SlV StV
  at_ : Int
/-- The first link to a name. -/
def peerL (l : List LkV) (nm : ByteArray) : Option LkV := l.find? fun x => x.peer.toList == nm.toList
theorem lks_get {w : World} {B : Nat} {A : Option Addr} {es : List LkV} (h : Sli lkc 5 w B A es) {k : Nat} {e : LkV} (hk : es[k]? = some e) :
    ∃ b off, A = some ⟨b, off, none⟩ ∧ b < B ∧ w.cell? ⟨b, off + k * 5, none⟩ = some (.string e.peer) ∧ w.cell? ⟨b, off + k * 5 + 1, none⟩ = some (.int .i64 e.cost) ∧ w.cell? ⟨b, off + k * 5 + 2, none⟩ = some (.string e.imp) ∧ w.cell? ⟨b, off + k * 5 + 3, none⟩ = some (.string e.exp) ∧ w.cell? ⟨b, off + k * 5 + 4, none⟩ = some (.int .i64 e.at_) := by
  obtain ⟨b, off, hA, hB, hc⟩ := h (by have := (List.getElem?_eq_some_iff.1 hk).1; omega)
  exact ⟨b, off, hA, hB, hc k e hk 0 (by omega), hc k e hk 1 (by omega), hc k e hk 2 (by omega), hc k e hk 3 (by omega), hc k e hk 4 (by omega)⟩
theorem gb_cells5 {W : World} {b : Nat} {x0 x1 x2 x3 x4 : Value} {t : TypeId} (h : W.heap[b]? = some (.cells #[x0, x1, x2, x3, x4] t (0, 0))) : W.cell? ⟨b, 0, none⟩ = some x0 ∧ W.cell? ⟨b, 1, none⟩ = some x1 ∧ W.cell? ⟨b, 2, none⟩ = some x2 ∧ W.cell? ⟨b, 3, none⟩ = some x3 ∧ W.cell? ⟨b, 4, none⟩ = some x4 :=
  ⟨gb_cell h 0, gb_cell h 1, gb_cell h 2, gb_cell h 3, gb_cell h 4⟩
theorem peerL_next {l : List LkV} {nm : ByteArray} {k : Nat} {x : LkV} (h : peerL (l.take k) nm = none) (hk : l[k]? = some x) : peerL (l.take (k + 1)) nm = if x.peer.toList == nm.toList then some x else none := by
  unfold peerL at *
  rw [List.take_add_one, hk, List.find?_append, h]
  simp only [List.find?, Option.toList]
  cases hq : (x.peer.toList == nm.toList) <;> simp [hq]
theorem peerL_found {l : List LkV} {nm : ByteArray} {k : Nat} {x : LkV} (h : peerL (l.take k) nm = none) (hk : l[k]? = some x) (hx : (x.peer.toList == nm.toList) = true) : peerL l nm = some x := by
  have h2 := peerL_next h hk
  rw [if_pos hx] at h2
  unfold peerL at *
  rw [← List.take_append_drop (k + 1) l, List.find?_append, h2]; rfl
set_option maxRecDepth 100000 in
set_option maxHeartbeats 4000000 in
theorem peer_any (r : RtV) (nm : ByteArray) (w : World) (hl : SlOk lkc 5 (fun _ _ => True) w r.links) :
    Calls Tryd.prog 15 #[.agg #[.string r.name, .slice r.nets.A r.nets.l.length r.nets.cap, .slice r.links.A r.links.l.length r.links.cap, .slice r.stats.A r.stats.l.length r.stats.cap, .int .i64 r.at_], .string nm] w
      fun e w' => e = .returned (.tuple #[.agg (lkc ((peerL r.links.l nm).getD noLk)).toArray, .bool (peerL r.links.l nm).isSome]) ∧ Below w.heap.size w w' := by
  have HL := Lib.hid hl
  have hle := hl.len_le
  clear hl
  go_enter Tryd.func15, Tryd.ntmps15
  go_wp2_with fail
  have b1 := gb_old _ (.cells #[.string ⟨#[]⟩, .int .i64 0, .string ⟨#[]⟩, .string ⟨#[]⟩, .int .i64 0] 50) (gb_new w (.cells #[.string r.name, .slice r.nets.A r.nets.l.length r.nets.cap, .slice r.links.A r.links.l.length r.links.cap, .slice r.stats.A r.stats.l.length r.stats.cap, .int .i64 r.at_] 48))
  have b2 := gb_new (w.alloc (.cells #[.string r.name, .slice r.nets.A r.nets.l.length r.nets.cap, .slice r.links.A r.links.l.length r.links.cap, .slice r.stats.A r.stats.l.length r.stats.cap, .int .i64 r.at_] 48)) (.cells #[.string ⟨#[]⟩, .int .i64 0, .string ⟨#[]⟩, .string ⟨#[]⟩, .int .i64 0] 50)
  have hB := gb_alloc (gb_alloc (Below.refl w.heap.size w) (.cells #[.string r.name, .slice r.nets.A r.nets.l.length r.nets.cap, .slice r.links.A r.links.l.length r.links.cap, .slice r.stats.A r.stats.l.length r.stats.cap, .int .i64 r.at_] 48)) (.cells #[.string ⟨#[]⟩, .int .i64 0, .string ⟨#[]⟩, .string ⟨#[]⟩, .int .i64 0] 50)
  simp only [World.size_alloc] at b2
  have hsz : w.heap.size + 1 < ((w.alloc (.cells #[.string r.name, .slice r.nets.A r.nets.l.length r.nets.cap, .slice r.links.A r.links.l.length r.links.cap, .slice r.stats.A r.stats.l.length r.stats.cap, .int .i64 r.at_] 48)).alloc (.cells #[.string ⟨#[]⟩, .int .i64 0, .string ⟨#[]⟩, .string ⟨#[]⟩, .int .i64 0] 50)).heap.size := by simp
  generalize (w.alloc (.cells #[.string r.name, .slice r.nets.A r.nets.l.length r.nets.cap, .slice r.links.A r.links.l.length r.links.cap, .slice r.stats.A r.stats.l.length r.stats.cap, .int .i64 r.at_] 48)).alloc (.cells #[.string ⟨#[]⟩, .int .i64 0, .string ⟨#[]⟩, .string ⟨#[]⟩, .int .i64 0] 50) = W0 at *
  have C2 := Lib.hid b2
  have B0 := Lib.hid hB
  clear b1 b2 hB
  go_loopw [11] (fun j wr => ∃ k : Nat, j = .int .i64 k ∧ k ≤ r.links.l.length ∧ Hid (peerL (r.links.l.take k) nm = none) ∧ Below W0.heap.size W0 wr) (fun j _ => r.links.l.length - (intOf j).toNat)
  case atStart => exact ⟨0, rfl, by omega, Lib.hid rfl, Below.refl _ _⟩
  case round =>
    obtain ⟨k, rfl, hk, HN, hb⟩ := hrel
    have BQ := Lib.hid hb
    by_cases hlt : k < r.links.l.length
    · obtain ⟨x, hx⟩ : ∃ x, r.links.l[k]? = some x := ⟨_, List.getElem?_eq_getElem hlt⟩
      obtain ⟨b, off, hA, hbb, e0, e1, e2, e3, e4⟩ := lks_get ((HL.out.at_.below B0.out).below (hb.mono B0.out.size)) hx
      have HX := Lib.hid hx
      rw [hA]
      clear hx hb
      go_upto_region 4 with fail
      have t0 := gb_new wr (.cells #[.string x.peer, .int .i64 x.cost, .string x.imp, .string x.exp, .int .i64 x.at_] 50)
      have hbq := gb_trans BQ.out (gb_alloc (Below.refl wr.heap.size wr) (.cells #[.string x.peer, .int .i64 x.cost, .string x.imp, .string x.exp, .int .i64 x.at_] 50))
      obtain ⟨xb, hxb⟩ : ∃ n, n = wr.heap.size := ⟨_, rfl⟩
      have hxl : W0.heap.size ≤ xb := by rw [hxb]; exact BQ.out.size
      rw [← hxb] at t0 ⊢
      generalize wr.alloc (.cells #[.string x.peer, .int .i64 x.cost, .string x.imp, .string x.exp, .int .i64 x.at_] 50) = wu at *
      have T0 := Lib.hid t0
      have BU := Lib.hid hbq
      obtain ⟨z0, z1, z2, z3, z4⟩ := gb_cells5 t0
      clear t0 hbq e0 e1 e2 e3 e4 hxb
      cases hq : x.peer.toList == nm.toList with
      | true =>
        have HF := Lib.hid (peerL_found HN.out HX.out hq)
        have D2 := Lib.hid (gb_blk BU.out C2.out (gb_lt C2.out))
        obtain ⟨y0, y1, y2, y3, y4⟩ := gb_cells5 D2.out
        have f0 := gb_free D2.out 0
        have f1 := gb_free D2.out 1
        have f2 := gb_free D2.out 2
        have f3 := gb_free D2.out 3
        have f4 := gb_free D2.out 4
        go_wp2_with fail
        have hE : (((((wu.setCell ⟨w.heap.size + 1, 0, none⟩ (.string x.peer)).setCell ⟨w.heap.size + 1, 1, none⟩ (.int .i64 x.cost)).setCell ⟨w.heap.size + 1, 2, none⟩ (.string x.imp)).setCell ⟨w.heap.size + 1, 3, none⟩ (.string x.exp)).setCell ⟨w.heap.size + 1, 4, none⟩ (.int .i64 x.at_)).heap[w.heap.size + 1]? = some (.cells #[.string x.peer, .int .i64 x.cost, .string x.imp, .string x.exp, .int .i64 x.at_] 50 (0, 0)) := by
          simpa using gb_set (gb_set (gb_set (gb_set (gb_set D2.out 0 (.string x.peer)) 1 (.int .i64 x.cost)) 2 (.string x.imp)) 3 (.string x.exp)) 4 (.int .i64 x.at_)
        have hBE : Below w.heap.size w (((((wu.setCell ⟨w.heap.size + 1, 0, none⟩ (.string x.peer)).setCell ⟨w.heap.size + 1, 1, none⟩ (.int .i64 x.cost)).setCell ⟨w.heap.size + 1, 2, none⟩ (.string x.imp)).setCell ⟨w.heap.size + 1, 3, none⟩ (.string x.exp)).setCell ⟨w.heap.size + 1, 4, none⟩ (.int .i64 x.at_)) := by
          repeat (refine Below.setCell ?_ (by simp) _)
          exact gb_trans B0.out BU.out
        generalize ((((wu.setCell ⟨w.heap.size + 1, 0, none⟩ (.string x.peer)).setCell ⟨w.heap.size + 1, 1, none⟩ (.int .i64 x.cost)).setCell ⟨w.heap.size + 1, 2, none⟩ (.string x.imp)).setCell ⟨w.heap.size + 1, 3, none⟩ (.string x.exp)).setCell ⟨w.heap.size + 1, 4, none⟩ (.int .i64 x.at_) = w5 at *
        clear y0 y1 y2 y3 y4 z0 z1 z2 z3 z4 D2
        obtain ⟨y0, y1, y2, y3, y4⟩ := gb_cells5 hE
        refine bodyPost_ret (v := .tuple #[.agg (lkc x).toArray, .bool true]) (by simp [results, Tryd.results15, go_sem, lkc, y0, y1, y2, y3, y4]) rfl ⟨by rw [HF.out]; rfl, hBE⟩
      | false =>
        have HF := Lib.hid (peerL_next HN.out HX.out)
        go_wp2_with fail
        go_roundw
        case rel => exact ⟨k + 1, by go_num, by omega, Lib.hid (by rw [HF.out, hq]; rfl), BU.out⟩
        case measure => simp [intOf] <;> omega
    · have hk' : k = r.links.l.length := by omega
      subst hk'
      have HF : Hid (peerL r.links.l nm = none) := Lib.hid (by have := HN.out; rwa [List.take_length] at this)
      have D2 := Lib.hid (gb_blk BQ.out C2.out (gb_lt C2.out))
      obtain ⟨y0, y1, y2, y3, y4⟩ := gb_cells5 D2.out
      have f0 := gb_free D2.out 0
      have f1 := gb_free D2.out 1
      have f2 := gb_free D2.out 2
      have f3 := gb_free D2.out 3
      have f4 := gb_free D2.out 4
      have hlw : w.heap.size + 1 < wr.heap.size := gb_lt D2.out
      clear hb
      go_wp2_with fail
      have hE : (((((wr.setCell ⟨w.heap.size + 1, 0, none⟩ (.string ⟨#[]⟩)).setCell ⟨w.heap.size + 1, 1, none⟩ (.int .i64 0)).setCell ⟨w.heap.size + 1, 2, none⟩ (.string ⟨#[]⟩)).setCell ⟨w.heap.size + 1, 3, none⟩ (.string ⟨#[]⟩)).setCell ⟨w.heap.size + 1, 4, none⟩ (.int .i64 0)).heap[w.heap.size + 1]? = some (.cells #[.string ⟨#[]⟩, .int .i64 0, .string ⟨#[]⟩, .string ⟨#[]⟩, .int .i64 0] 50 (0, 0)) := by
        simpa using gb_set (gb_set (gb_set (gb_set (gb_set D2.out 0 (.string ⟨#[]⟩)) 1 (.int .i64 0)) 2 (.string ⟨#[]⟩)) 3 (.string ⟨#[]⟩)) 4 (.int .i64 0)
      have hBE : Below w.heap.size w (((((wr.setCell ⟨w.heap.size + 1, 0, none⟩ (.string ⟨#[]⟩)).setCell ⟨w.heap.size + 1, 1, none⟩ (.int .i64 0)).setCell ⟨w.heap.size + 1, 2, none⟩ (.string ⟨#[]⟩)).setCell ⟨w.heap.size + 1, 3, none⟩ (.string ⟨#[]⟩)).setCell ⟨w.heap.size + 1, 4, none⟩ (.int .i64 0)) := by
        repeat (refine Below.setCell ?_ (by simp) _)
        exact gb_trans B0.out BQ.out
      generalize ((((wr.setCell ⟨w.heap.size + 1, 0, none⟩ (.string ⟨#[]⟩)).setCell ⟨w.heap.size + 1, 1, none⟩ (.int .i64 0)).setCell ⟨w.heap.size + 1, 2, none⟩ (.string ⟨#[]⟩)).setCell ⟨w.heap.size + 1, 3, none⟩ (.string ⟨#[]⟩)).setCell ⟨w.heap.size + 1, 4, none⟩ (.int .i64 0) = w5 at *
      clear y0 y1 y2 y3 y4 D2
      obtain ⟨y0, y1, y2, y3, y4⟩ := gb_cells5 hE
      refine bodyPost_ret (v := .tuple #[.agg (lkc noLk).toArray, .bool false]) (by simp [results, Tryd.results15, go_sem, lkc, noLk, y0, y1, y2, y3, y4]) rfl ⟨by rw [HF.out]; rfl, hBE⟩
end Go.Proofs.YteciceelinbfoaaDoor
