import Derived.Test.YteciceelinbfoaaDoorCn
set_option linter.unusedVariables false
namespace Go.Proofs.YteciceelinbfoaaDoor
open Go.RowKit Mq

theorem empty_eq (nm : ByteArray) : nm.toList.isEmpty = (nm.toList == (⟨#[]⟩ : ByteArray).toList) := by
  rw [show (⟨#[]⟩ : ByteArray).toList = [] by simp [ByteArray.toList_eq]]
  cases nm.toList <;> rfl
/-- Is there a map of a name? -/
def mappedL (l : List MpV) (nm : ByteArray) : Bool := l.any (fun x => x.name.toList == nm.toList) || (nm.toList == (⟨#[]⟩ : ByteArray).toList)
theorem any_next {l : List MpV} {nm : ByteArray} {k : Nat} {x : MpV} (h : (l.take k).any (fun x => x.name.toList == nm.toList) = false) (hk : l[k]? = some x) : (l.take (k + 1)).any (fun x => x.name.toList == nm.toList) = (x.name.toList == nm.toList) := by
  rw [List.take_add_one, hk, List.any_append, h]; simp
theorem any_found {l : List MpV} {nm : ByteArray} {k : Nat} {x : MpV} (hk : l[k]? = some x) (hx : (x.name.toList == nm.toList) = true) : l.any (fun x => x.name.toList == nm.toList) = true :=
  List.any_eq_true.2 ⟨x, List.mem_of_getElem? hk, hx⟩
set_option maxRecDepth 100000 in
set_option maxHeartbeats 4000000 in
theorem mapped_any (c : CfV) (nm : ByteArray) (w : World) (hl : SlOk mpc 3 (fun _ _ => True) w c.maps) :
    Calls Tryd.prog 25 #[.agg #[.slice c.maps.A c.maps.l.length c.maps.cap, .slice c.rts.A c.rts.l.length c.rts.cap], .string nm] w
      fun e w' => e = .returned (.bool (mappedL c.maps.l nm)) ∧ Below w.heap.size w w' := by
  have HL := Lib.hid hl
  have hle := hl.len_le
  clear hl
  go_enter Tryd.func25, Tryd.ntmps25
  go_wp2_with fail
  have hB := gb_alloc (Below.refl w.heap.size w) (.cells #[.slice c.maps.A c.maps.l.length c.maps.cap, .slice c.rts.A c.rts.l.length c.rts.cap] 33)
  generalize w.alloc (.cells #[.slice c.maps.A c.maps.l.length c.maps.cap, .slice c.rts.A c.rts.l.length c.rts.cap] 33) = W0 at *
  have B0 := Lib.hid hB
  clear hB
  go_loopw [10] (fun j wr => ∃ k : Nat, j = .int .i64 k ∧ k ≤ c.maps.l.length ∧ Hid ((c.maps.l.take k).any (fun x => x.name.toList == nm.toList) = false) ∧ Below w.heap.size w wr) (fun j _ => c.maps.l.length - (intOf j).toNat)
  case atStart => exact ⟨0, rfl, by omega, Lib.hid rfl, B0.out⟩
  case round =>
    obtain ⟨k, rfl, hk, HN, hb⟩ := hrel
    have BQ := Lib.hid hb
    by_cases hlt : k < c.maps.l.length
    · obtain ⟨x, hx⟩ : ∃ x, c.maps.l[k]? = some x := ⟨_, List.getElem?_eq_getElem hlt⟩
      obtain ⟨b, off, hA, hbb, e0, e1, e2⟩ := mps_get (HL.out.at_.below hb) hx
      have HX := Lib.hid hx
      rw [hA]
      clear hx hb
      go_upto_region 4 with fail
      have t0 := gb_new wr (.cells #[.string x.name, .slice x.cls.1 x.cls.2.1 x.cls.2.2, .int .i64 x.at_] 57)
      have hbq := gb_trans BQ.out (gb_alloc (Below.refl wr.heap.size wr) (.cells #[.string x.name, .slice x.cls.1 x.cls.2.1 x.cls.2.2, .int .i64 x.at_] 57))
      obtain ⟨xb, hxb⟩ : ∃ n, n = wr.heap.size := ⟨_, rfl⟩
      rw [← hxb] at t0 ⊢
      generalize wr.alloc (.cells #[.string x.name, .slice x.cls.1 x.cls.2.1 x.cls.2.2, .int .i64 x.at_] 57) = wu at *
      have BU := Lib.hid hbq
      have z0 := gb_cell t0 0
      simp only [List.getElem?_toArray, List.getElem?_cons_zero, List.getElem?_cons_succ] at z0
      clear t0 hbq e0 e1 e2 hxb
      cases hq : x.name.toList == nm.toList with
      | true =>
        have HF : Hid (mappedL c.maps.l nm = true) := Lib.hid (by unfold mappedL; rw [any_found HX.out hq]; rfl)
        go_wp2_with fail
        go_ret
        exact ⟨by rw [HF.out]; rfl, BU.out⟩
      | false =>
        have HF := Lib.hid (any_next HN.out HX.out)
        go_wp2_with fail
        go_roundw
        case rel => exact ⟨k + 1, by go_num, by omega, Lib.hid (by rw [HF.out, hq]), BU.out⟩
        case measure => simp [intOf] <;> omega
    · have hk' : k = c.maps.l.length := by omega
      subst hk'
      have HF : Hid (mappedL c.maps.l nm = (nm.toList == (⟨#[]⟩ : ByteArray).toList)) := Lib.hid (by have := HN.out; rw [List.take_length] at this; unfold mappedL; rw [this]; rfl)
      clear hb
      go_wp2_with fail
      go_ret
      exact ⟨by rw [HF.out]; exact congrArg (fun b => Ending.returned (.bool b)) (empty_eq nm), BQ.out⟩
end Go.Proofs.YteciceelinbfoaaDoor
