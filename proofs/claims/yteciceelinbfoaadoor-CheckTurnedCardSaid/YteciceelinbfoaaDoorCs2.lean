import Derived.Test.YteciceelinbfoaaDoorCs
set_option linter.unusedVariables false
namespace Go.Proofs.YteciceelinbfoaaDoor
open Go.RowKit Mq

theorem dup_step {seen : List ByteArray} {l : List (ByteArray × Int)} {k : Nat} {p : ByteArray × Int} (hk : l[k]? = some p) : dupL seen (l.drop k) = if seen.any (fun s => decide (s = p.1)) then some p.2 else dupL (seen ++ [p.1]) (l.drop (k + 1)) := by
  have hlt := (List.getElem?_eq_some_iff.1 hk).1
  have he : l[k] = p := (List.getElem?_eq_some_iff.1 hk).2
  rw [List.drop_eq_getElem_cons hlt, he]; rfl
def mapN (c : CfV) : List (ByteArray × Int) := c.maps.l.map fun m => (m.name, m.at_)
def rtN (c : CfV) : List (ByteArray × Int) := c.rts.l.map fun m => (m.name, m.at_)
/-- What check.names hands back. -/
def NamesIs (c : CfV) (w w' : World) (v1 v2 v3 : Value) : Prop :=
  match dupL [] (mapN c), dupL [] (rtN c) with
  | some p, _ => v1 = .map none ∧ v2 = .map none ∧ v3 = .iface 82 (.agg #[.int .i64 4, .int .i64 p])
  | none, some p => v1 = .map none ∧ v2 = .map none ∧ v3 = .iface 82 (.agg #[.int .i64 4, .int .i64 p])
  | none, none => ∃ bm bt, v1 = .map (some bm) ∧ v2 = .map (some bt) ∧ v3 = .nilIface ∧ w.heap.size ≤ bm ∧ w.heap.size ≤ bt ∧ w'.heap[bm]? = some (sbObj (c.maps.l.map fun m => (m.name, true))) ∧ w'.heap[bt]? = some (siObj ((c.rts.l.map (·.name)).zipIdx.map fun p => (p.1, (p.2 : Int))))
set_option maxRecDepth 100000 in
set_option maxHeartbeats 4000000 in
theorem names_any (c : CfV) (w : World) (hm : SlOk mpc 3 (fun _ _ => True) w c.maps) (hr : SlOk rtc 5 (fun _ _ => True) w c.rts) :
    Calls Tryd.prog 17 #[.agg #[.slice c.maps.A c.maps.l.length c.maps.cap, .slice c.rts.A c.rts.l.length c.rts.cap]] w
      fun e w' => (∃ v1 v2 v3, e = .returned (.tuple #[v1, v2, v3]) ∧ NamesIs c w w' v1 v2 v3) ∧ Below w.heap.size w w' := by
  have HM := Lib.hid hm
  have HR := Lib.hid hr
  have hle := hm.len_le
  have hle2 := hr.len_le
  have hmm := @run_makeMap Tryd.prog
  clear hm hr
  go_enter Tryd.func17, Tryd.ntmps17
  go_wp2_with fail
  have b0 := gb_old _ (.map #[] 0) (gb_old _ (.map #[] 0) (gb_new w (.cells #[.slice c.maps.A c.maps.l.length c.maps.cap, .slice c.rts.A c.rts.l.length c.rts.cap] 33)))
  have b1 : (((w.alloc (.cells #[.slice c.maps.A c.maps.l.length c.maps.cap, .slice c.rts.A c.rts.l.length c.rts.cap] 33)).alloc (.map #[] 0)).alloc (.map #[] 0)).heap[w.heap.size + 1]? = some (sbObj []) := gb_old _ (.map #[] 0) (by have := gb_new (w.alloc (.cells #[.slice c.maps.A c.maps.l.length c.maps.cap, .slice c.rts.A c.rts.l.length c.rts.cap] 33)) (.map #[] 0); simp only [World.size_alloc] at this; exact this)
  have b2 : (((w.alloc (.cells #[.slice c.maps.A c.maps.l.length c.maps.cap, .slice c.rts.A c.rts.l.length c.rts.cap] 33)).alloc (.map #[] 0)).alloc (.map #[] 0)).heap[w.heap.size + 1 + 1]? = some (siObj []) := (by have := gb_new ((w.alloc (.cells #[.slice c.maps.A c.maps.l.length c.maps.cap, .slice c.rts.A c.rts.l.length c.rts.cap] 33)).alloc (.map #[] 0)) (.map #[] 0); simp only [World.size_alloc] at this; exact this)
  have hB := gb_alloc (gb_alloc (gb_alloc (Below.refl w.heap.size w) (.cells #[.slice c.maps.A c.maps.l.length c.maps.cap, .slice c.rts.A c.rts.l.length c.rts.cap] 33)) (.map #[] 0)) (.map #[] 0)
  generalize ((w.alloc (.cells #[.slice c.maps.A c.maps.l.length c.maps.cap, .slice c.rts.A c.rts.l.length c.rts.cap] 33)).alloc (.map #[] 0)).alloc (.map #[] 0) = W0 at *
  have C0 := Lib.hid b0; have C1 := Lib.hid b1; have C2 := Lib.hid b2; have B0 := Lib.hid hB
  clear b0 b1 b2 hB hmm
  go_loopw [18] (fun j wr => ∃ k : Nat, j = .int .i64 k ∧ k ≤ c.maps.l.length ∧ Hid (dupL ((c.maps.l.take k).map (·.name)) ((mapN c).drop k) = dupL [] (mapN c)) ∧ wr.heap[w.heap.size]? = some (.cells #[.slice c.maps.A c.maps.l.length c.maps.cap, .slice c.rts.A c.rts.l.length c.rts.cap] 33) ∧ wr.heap[w.heap.size + 1]? = some (sbObj ((c.maps.l.take k).map fun m => (m.name, true))) ∧ wr.heap[w.heap.size + 1 + 1]? = some (siObj []) ∧ Below w.heap.size w wr) (fun j _ => c.maps.l.length - (intOf j).toNat)
  case atStart => exact ⟨0, rfl, by omega, Lib.hid (by simp), C0.out, C1.out, C2.out, B0.out⟩
  case round =>
    obtain ⟨k, rfl, hk, HD, h0, h1, h2, hb⟩ := hrel
    have T0 := Lib.hid h0; have T1 := Lib.hid h1; have T2 := Lib.hid h2; have BQ := Lib.hid hb
    by_cases hlt : k < c.maps.l.length
    · obtain ⟨x, hx⟩ : ∃ x, c.maps.l[k]? = some x := ⟨_, List.getElem?_eq_getElem hlt⟩
      obtain ⟨b, off, hA, hbb, e0, e1, e2⟩ := mps_get (HM.out.at_.below hb) hx
      have HX := Lib.hid hx
      rw [hA]
      clear hx hb h0 h1 h2
      go_upto_region 5 with fail
      have t0 := gb_new wr (.cells #[.string x.name, .slice x.cls.1 x.cls.2.1 x.cls.2.2, .int .i64 x.at_] 57)
      have hbq := gb_alloc (Below.refl wr.heap.size wr) (.cells #[.string x.name, .slice x.cls.1 x.cls.2.1 x.cls.2.2, .int .i64 x.at_] 57)
      obtain ⟨xb, hxb⟩ : ∃ n, n = wr.heap.size := ⟨_, rfl⟩
      rw [← hxb] at t0 ⊢
      generalize wr.alloc (.cells #[.string x.name, .slice x.cls.1 x.cls.2.1 x.cls.2.2, .int .i64 x.at_] 57) = wu at *
      have U0 := Lib.hid (gb_blk hbq T0.out (gb_lt T0.out))
      have U1 := Lib.hid (gb_blk hbq T1.out (gb_lt T1.out))
      have U2 := Lib.hid (gb_blk hbq T2.out (gb_lt T2.out))
      have BU := Lib.hid (gb_trans BQ.out hbq)
      have z0 := gb_cell t0 0
      have z1 := gb_cell t0 1
      have z2 := gb_cell t0 2
      simp only [List.getElem?_toArray, List.getElem?_cons_zero, List.getElem?_cons_succ] at z0 z1 z2
      clear t0 hbq e0 e1 e2 hxb
      have hp : (mapN c)[k]? = some (x.name, x.at_) := by simp [mapN, HX.out]
      have HS := Lib.hid (dup_step (seen := (c.maps.l.take k).map (·.name)) hp)
      have lk := sb_look wu U1.out x.name
      have hlk : (Mq.look x.name ((c.maps.l.take k).map fun m => (m.name, true))).getD false = ((c.maps.l.take k).map (·.name)).any (fun s => decide (s = x.name)) := by
        have := look_names x.name ((c.maps.l.take k).map (·.name))
        rw [List.map_map] at this
        rw [show ((c.maps.l.take k).map fun m => (m.name, true)) = (c.maps.l.take k).map ((fun n => (n, true)) ∘ fun m => m.name) from rfl, this]
        cases ((c.maps.l.take k).map (·.name)).any (fun s => decide (s = x.name)) <;> rfl
      rw [hlk] at lk
      clear hp
      cases hd : ((c.maps.l.take k).map (·.name)).any (fun s => decide (s = x.name)) with
      | true =>
        rw [hd] at lk
        have HF : Hid (dupL [] (mapN c) = some x.at_) := Lib.hid (by rw [← HD.out, HS.out, hd]; rfl)
        clear hlk
        go_wp2_with fail
        refine (wrap_any 4 x.at_ wu).mono ?_
        rintro en w3 ⟨rfl, rfl⟩
        go_wp2_with fail
        refine bodyPost_ret (v := .tuple #[.map none, .map none, .iface 82 (.agg #[.int .i64 4, .int .i64 x.at_])]) (by simp [results, Tryd.results17, go_sem]) rfl ?_
        exact ⟨⟨_, _, _, rfl, by unfold NamesIs; rw [HF.out]; exact ⟨rfl, rfl, rfl⟩⟩, BU.out⟩
      | false =>
        rw [hd] at lk
        have hst := sb_store wu U1.out x.name
        have hput : Mq.put x.name true ((c.maps.l.take k).map fun m => (m.name, true)) = (c.maps.l.take (k + 1)).map fun m => (m.name, true) := by
          rw [put_new, List.take_add_one, HX.out]
          · simp
          · have := look_names x.name ((c.maps.l.take k).map (·.name))
            rw [List.map_map, hd] at this
            exact this
        rw [hput] at hst
        have HN : Hid (dupL ((c.maps.l.take (k + 1)).map (·.name)) ((mapN c).drop (k + 1)) = dupL [] (mapN c)) := Lib.hid (by
          rw [← HD.out, HS.out, hd, List.take_add_one, HX.out]; simp)
        clear hlk hput
        go_wp2_with fail
        go_roundw
        case rel => exact ⟨k + 1, by go_num, by omega, HN, by rw [← hA]; exact (setBlock_far (by omega) _).trans U0.out, by rw [List.map_take]; exact setBlock_same (gb_lt U1.out) _, (setBlock_far (by omega) _).trans U2.out, gb_setBlock BU.out (by omega) _⟩
        case measure => simp [intOf] <;> omega
    · have hk' : k = c.maps.l.length := by omega
      subst hk'
      have HM0 : Hid (dupL [] (mapN c) = none) := Lib.hid (by rw [← HD.out, List.drop_of_length_le (by simp [mapN])]; rfl)
      rw [List.take_length] at h1
      have M1 := Lib.hid h1
      have z0 := gb_cell h0 1
      simp only [List.getElem?_toArray, List.getElem?_cons_zero, List.getElem?_cons_succ] at z0
      obtain ⟨W1, hW1⟩ : ∃ W1, W1 = wr := ⟨_, rfl⟩
      subst hW1
      clear hb h0 h1 h2 T1 HD
      go_wp2_with fail
      go_loopw [36] (fun j wr => ∃ k : Nat, j = .int .i64 k ∧ k ≤ c.rts.l.length ∧ Hid (dupL ((c.rts.l.take k).map (·.name)) ((rtN c).drop k) = dupL [] (rtN c)) ∧ wr.heap[w.heap.size + 1]? = some (sbObj (c.maps.l.map fun m => (m.name, true))) ∧ wr.heap[w.heap.size + 1 + 1]? = some (siObj (((c.rts.l.take k).map (·.name)).zipIdx.map fun p => (p.1, (p.2 : Int)))) ∧ Below w.heap.size w wr) (fun j _ => c.rts.l.length - (intOf j).toNat)
      case atStart => exact ⟨0, rfl, by omega, Lib.hid (by simp), M1.out, T2.out, BQ.out⟩
      case round =>
        obtain ⟨k, rfl, hk, HD, h1, h2, hb⟩ := hrel
        have T1 := Lib.hid h1; have T2 := Lib.hid h2; have BQ := Lib.hid hb
        by_cases hlt : k < c.rts.l.length
        · obtain ⟨x, hx⟩ : ∃ x, c.rts.l[k]? = some x := ⟨_, List.getElem?_eq_getElem hlt⟩
          obtain ⟨b, off, hA, hbb, e0, e1, e2, e3, e4⟩ := rts_get (HR.out.at_.below hb) hx
          have HX := Lib.hid hx
          rw [hA]
          clear hx hb h1 h2 z0
          go_upto_region 12 with fail
          have t0 := gb_new wr (.cells #[.string x.name, .slice x.nets.A x.nets.l.length x.nets.cap, .slice x.links.A x.links.l.length x.links.cap, .slice x.stats.A x.stats.l.length x.stats.cap, .int .i64 x.at_] 48)
          have hbq := gb_alloc (Below.refl wr.heap.size wr) (.cells #[.string x.name, .slice x.nets.A x.nets.l.length x.nets.cap, .slice x.links.A x.links.l.length x.links.cap, .slice x.stats.A x.stats.l.length x.stats.cap, .int .i64 x.at_] 48)
          obtain ⟨xb, hxb⟩ : ∃ n, n = wr.heap.size := ⟨_, rfl⟩
          rw [← hxb] at t0 ⊢
          generalize wr.alloc (.cells #[.string x.name, .slice x.nets.A x.nets.l.length x.nets.cap, .slice x.links.A x.links.l.length x.links.cap, .slice x.stats.A x.stats.l.length x.stats.cap, .int .i64 x.at_] 48) = wu at *
          have U1 := Lib.hid (gb_blk hbq T1.out (gb_lt T1.out))
          have U2 := Lib.hid (gb_blk hbq T2.out (gb_lt T2.out))
          have BU := Lib.hid (gb_trans BQ.out hbq)
          obtain ⟨z0, z1, z2, z3, z4⟩ := gb_cells5 t0
          clear t0 hbq e0 e1 e2 e3 e4 hxb
          have hp : (rtN c)[k]? = some (x.name, x.at_) := by simp [rtN, HX.out]
          have HS := Lib.hid (dup_step (seen := (c.rts.l.take k).map (·.name)) hp)
          have lk := si_look wu U2.out x.name
          have hlk := look_idx x.name ((c.rts.l.take k).map (·.name)) 0
          generalize hLL : ((c.rts.l.take k).map (·.name)).zipIdx.map (fun p => (p.1, (p.2 : Int))) = LL at *
          rw [hlk] at lk
          clear hp
          generalize (Mq.look x.name LL).getD 0 = gz at *
          cases hd : ((c.rts.l.take k).map (·.name)).any (fun s => decide (s = x.name)) with
          | true =>
            rw [hd] at lk
            have HF : Hid (dupL [] (rtN c) = some x.at_) := Lib.hid (by rw [← HD.out, HS.out, hd]; rfl)
            clear hlk hLL
            go_wp2_with fail
            refine (wrap_any 4 x.at_ wu).mono ?_
            rintro en w3 ⟨rfl, rfl⟩
            go_wp2_with fail
            refine bodyPost_ret (v := .tuple #[.map none, .map none, .iface 82 (.agg #[.int .i64 4, .int .i64 x.at_])]) (by simp [results, Tryd.results17, go_sem]) rfl ?_
            exact ⟨⟨_, _, _, rfl, by unfold NamesIs; rw [HM0.out, HF.out]; exact ⟨rfl, rfl, rfl⟩⟩, BU.out⟩
          | false =>
            rw [hd] at lk hlk
            have hst := si_store wu U2.out x.name k
            have hput : Mq.put x.name (k : Int) LL = ((c.rts.l.take (k + 1)).map (·.name)).zipIdx.map (fun p => (p.1, (p.2 : Int))) := by
              rw [put_new (Option.isNone_iff_eq_none.1 (by rw [Option.isNone_iff_eq_none]; simpa using hlk)), ← hLL, List.take_add_one, HX.out]
              simp only [Option.toList, List.map_append, List.map_cons, List.map_nil, List.zipIdx_append, List.zipIdx_cons, List.zipIdx_nil, List.length_map, List.length_take]
              rw [show min k c.rts.l.length = k by omega]; simp
            have HN : Hid (dupL ((c.rts.l.take (k + 1)).map (·.name)) ((rtN c).drop (k + 1)) = dupL [] (rtN c)) := Lib.hid (by
              rw [← HD.out, HS.out, hd, List.take_add_one, HX.out]; simp)
            generalize hL2 : ((c.rts.l.take (k + 1)).map (·.name)).zipIdx.map (fun p => (p.1, (p.2 : Int))) = L2 at *
            rw [hput] at hst
            have HL2 := Lib.hid hL2
            clear hlk hput hLL hL2
            go_wp2_with fail
            go_roundw
            case rel => exact ⟨k + 1, by go_num, by omega, HN, (setBlock_far (by omega) _).trans U1.out, by rw [HL2.out]; exact setBlock_same (gb_lt U2.out) _, gb_setBlock BU.out (by omega) _⟩
            case measure => simp [intOf] <;> omega
        · have hk' : k = c.rts.l.length := by omega
          subst hk'
          have HR0 : Hid (dupL [] (rtN c) = none) := Lib.hid (by rw [← HD.out, List.drop_of_length_le (by simp [rtN])]; rfl)
          rw [List.take_length] at h2
          have M2 := Lib.hid h2
          clear hb h1 h2 z0
          go_wp2_with fail
          refine bodyPost_ret (v := .tuple #[.map (some (w.heap.size + 1)), .map (some (w.heap.size + 1 + 1)), .nilIface]) (by simp [results, Tryd.results17, go_sem]) rfl ?_
          exact ⟨⟨_, _, _, rfl, by unfold NamesIs; rw [HM0.out, HR0.out]; exact ⟨_, _, rfl, rfl, rfl, by omega, by omega, T1.out, M2.out⟩⟩, BQ.out⟩
end Go.Proofs.YteciceelinbfoaaDoor
