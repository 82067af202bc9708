import Derived.Test.YteciceelinbfoaaDoorWr0
set_option linter.unusedVariables false
namespace Go.Proofs.YteciceelinbfoaaDoor
open Go.RowKit Mq
theorem sli_at {α : Type} {enc : α → List Value} {size : Nat} {w : World} {B : Nat} {A : Option Addr} {l : List α} (h : Sli enc size w B A l) (hpos : 0 < l.length) : ∃ b off, A = some ⟨b, off, none⟩ ∧ b < B ∧ ∀ w', Below B w w' → ∀ k u, l[k]? = some u → ∀ j, j < size → w'.cell? ⟨b, off + k * size + j, none⟩ = (enc u)[j]? := by
  obtain ⟨b, off, hA, hB, hc⟩ := h hpos
  exact ⟨b, off, hA, hB, fun w' hb k u hk j hj => (hb.cell (p := ⟨b, off + k * size + j, none⟩) hB).trans (hc k u hk j hj)⟩
theorem mp_cells {w : World} {b o : Nat} {e : MpV} (h : ∀ j, j < 3 → w.cell? ⟨b, o + j, none⟩ = (mpc e)[j]?) : w.cell? ⟨b, o, none⟩ = some (.string e.name) ∧ w.cell? ⟨b, o + 1, none⟩ = some (.slice e.cls.1 e.cls.2.1 e.cls.2.2) ∧ w.cell? ⟨b, o + 2, none⟩ = some (.int .i64 e.at_) := ⟨h 0 (by omega), h 1 (by omega), h 2 (by omega)⟩
theorem rt_cells {w : World} {b o : Nat} {e : RtV} (h : ∀ j, j < 5 → w.cell? ⟨b, o + j, none⟩ = (rtc e)[j]?) : w.cell? ⟨b, o, none⟩ = some (.string e.name) ∧ w.cell? ⟨b, o + 1, none⟩ = some (.slice e.nets.A e.nets.l.length e.nets.cap) ∧ w.cell? ⟨b, o + 2, none⟩ = some (.slice e.links.A e.links.l.length e.links.cap) ∧ w.cell? ⟨b, o + 3, none⟩ = some (.slice e.stats.A e.stats.l.length e.stats.cap) ∧ w.cell? ⟨b, o + 4, none⟩ = some (.int .i64 e.at_) := ⟨h 0 (by omega), h 1 (by omega), h 2 (by omega), h 3 (by omega), h 4 (by omega)⟩
theorem lk_cells {w : World} {b o : Nat} {e : LkV} (h : ∀ j, j < 5 → w.cell? ⟨b, o + j, none⟩ = (lkc e)[j]?) : w.cell? ⟨b, o, none⟩ = some (.string e.peer) ∧ w.cell? ⟨b, o + 1, none⟩ = some (.int .i64 e.cost) ∧ w.cell? ⟨b, o + 2, none⟩ = some (.string e.imp) ∧ w.cell? ⟨b, o + 3, none⟩ = some (.string e.exp) ∧ w.cell? ⟨b, o + 4, none⟩ = some (.int .i64 e.at_) := ⟨h 0 (by omega), h 1 (by omega), h 2 (by omega), h 3 (by omega), h 4 (by omega)⟩
theorem st_cells {w : World} {b o : Nat} {e : StV} (h : ∀ j, j < 4 → w.cell? ⟨b, o + j, none⟩ = (stc e)[j]?) : w.cell? ⟨b, o, none⟩ = some (.int .u32 e.px.addr) ∧ w.cell? ⟨b, o + 1, none⟩ = some (.int .i64 e.px.bits) ∧ w.cell? ⟨b, o + 2, none⟩ = some (.string e.via) ∧ w.cell? ⟨b, o + 3, none⟩ = some (.int .i64 e.at_) := ⟨h 0 (by omega), h 1 (by omega), h 2 (by omega), h 3 (by omega)⟩
theorem px_cells {w : World} {b o : Nat} {e : Pfx} (h : ∀ j, j < 2 → w.cell? ⟨b, o + j, none⟩ = (pfc e)[j]?) : w.cell? ⟨b, o, none⟩ = some (.int .u32 e.addr) ∧ w.cell? ⟨b, o + 1, none⟩ = some (.int .i64 e.bits) := ⟨h 0 (by omega), h 1 (by omega)⟩
theorem seen_any {α : Type} (l : List α) (f : α → ByteArray) (nm : ByteArray) : (l.map f).any (fun s => decide (s = nm)) = l.any fun s => (f s).toList == nm.toList := by
  rw [List.any_map]
  congr 1
  funext s
  exact (ba_toList _ _).symm
theorem dup_found {l : List (ByteArray × Int)} {L : List (ByteArray × Int)} {seen : List ByteArray} {k : Nat} {p : ByteArray × Int} (hk : l[k]? = some p) (hd : dupL seen (l.drop k) = dupL [] L) (hs : seen.any (fun s => decide (s = p.1)) = true) : dupL [] L = some p.2 := by
  rw [← hd, dup_step hk, if_pos hs]
theorem dup_next {l : List (ByteArray × Int)} {L : List (ByteArray × Int)} {seen : List ByteArray} {k : Nat} {p : ByteArray × Int} (hk : l[k]? = some p) (hd : dupL seen (l.drop k) = dupL [] L) (hs : seen.any (fun s => decide (s = p.1)) = false) : dupL (seen ++ [p.1]) (l.drop (k + 1)) = dupL [] L := by
  rw [← hd, dup_step hk, if_neg (by rw [hs]; simp)]
theorem take_map_succ {α β : Type} {l : List α} {f : α → β} {k : Nat} {x : α} (h : l[k]? = some x) : (l.take (k + 1)).map f = (l.take k).map f ++ [f x] := by
  rw [List.take_add_one, h]; simp
theorem lb_step (c : CfV) (me : ByteArray) (seen : List ByteArray) {ls : List LkV} {k : Nat} {x : LkV} (hx : ls[k]? = some x) : linkBad c.rts.l (c.maps.l.map (·.name)) me seen (ls.drop k) = if (!(routerL c.rts.l x.peer).isSome || (x.peer.toList == me.toList) || !(mappedL c.maps.l x.imp) || !(mappedL c.maps.l x.exp)) then some (3, x.at_) else if seen.any (fun s => decide (s = x.peer)) then some (4, x.at_) else match routerL c.rts.l x.peer with | none => some (0, 0) | some p => if (peerL p.links.l me).isSome then linkBad c.rts.l (c.maps.l.map (·.name)) me (seen ++ [x.peer]) (ls.drop (k + 1)) else some (5, x.at_) := by
  rw [linkBad_drop hx, linkBad, bad_eq, routerL_eq]
  rfl
theorem getD_some {α : Type} {o : Option α} {p d : α} (hp : p = o.getD d) (h : o.isSome = true) : o = some p := by
  subst hp; cases o <;> simp at h ⊢
set_option maxRecDepth 100000 in
set_option maxHeartbeats 8000000 in
theorem wrong_any (c : CfV) (w : World) (hc : CfOk w c) :
    Calls Tryd.prog 12 #[.agg #[.slice c.maps.A c.maps.l.length c.maps.cap, .slice c.rts.A c.rts.l.length c.rts.cap]] w
      fun e w' => e = .returned (.tuple #[.int .i64 (wrongV c).1, .int .i64 (wrongV c).2]) ∧ Below w.heap.size w w' := by
  have HC := Lib.hid hc
  have hl1 := hc.maps.len_le
  have hl2 := hc.rts.len_le
  have hf1 := hc.maps.fits
  have hf2 := hc.rts.fits
  have hc1 := hc.maps.cap
  have hc2 := hc.rts.cap
  unfold maxLen at hc1 hc2
  clear hc
  go_enter Tryd.func12, Tryd.ntmps12
  go_wp2_with fail
  have b0 := gb_new w (.cells #[.slice c.maps.A c.maps.l.length c.maps.cap, .slice c.rts.A c.rts.l.length c.rts.cap] 33)
  have hB := gb_alloc (Below.refl w.heap.size w) (.cells #[.slice c.maps.A c.maps.l.length c.maps.cap, .slice c.rts.A c.rts.l.length c.rts.cap] 33)
  generalize w.alloc (.cells #[.slice c.maps.A c.maps.l.length c.maps.cap, .slice c.rts.A c.rts.l.length c.rts.cap] 33) = W0 at *
  have C0 := Lib.hid b0; have B0 := Lib.hid hB
  clear b0 hB
  go_loopw [37] (fun j wr => ∃ k : Nat, j = .int .i64 k ∧ k ≤ c.maps.l.length ∧ Hid (dupL ((c.maps.l.take k).map (·.name)) ((mapN c).drop k) = dupL [] (mapN c)) ∧ Hid (Below W0.heap.size W0 wr)) (fun j _ => c.maps.l.length - (intOf j).toNat)
  case atStart => exact ⟨0, rfl, by omega, Lib.hid (by simp), Lib.hid (Below.refl _ _)⟩
  case round =>
    obtain ⟨k, rfl, hk, HD, HB⟩ := hrel
    by_cases hlt : k < c.maps.l.length
    · obtain ⟨x, hx⟩ : ∃ x, c.maps.l[k]? = some x := ⟨_, List.getElem?_eq_getElem hlt⟩
      have HX := Lib.hid hx
      have BW := Lib.hid (gb_trans B0.out HB.out)
      obtain ⟨b, off, hA, hbb, hcs⟩ := sli_at HC.out.maps.at_ (by omega)
      have HCS := Lib.hid hcs
      obtain ⟨e0, e1, e2⟩ := mp_cells (hcs _ BW.out _ _ hx)
      have HNX : Hid ((mapN c)[k]? = some (x.name, x.at_)) := Lib.hid (by simp [mapN, hx])
      rw [hA]
      have HA := Lib.hid hA
      clear hx hcs hA
      go_upto_region 4 with fail
      have t0 := gb_new wr (.cells #[.string x.name, .slice x.cls.1 x.cls.2.1 x.cls.2.2, .int .i64 x.at_] 57)
      have hbq := gb_alloc (Below.refl wr.heap.size wr) (.cells #[.string x.name, .slice x.cls.1 x.cls.2.1 x.cls.2.2, .int .i64 x.at_] 57)
      obtain ⟨xb, hxb⟩ : ∃ n, n = wr.heap.size := ⟨_, rfl⟩
      rw [← hxb] at t0 ⊢
      generalize wr.alloc (.cells #[.string x.name, .slice x.cls.1 x.cls.2.1 x.cls.2.2, .int .i64 x.at_] 57) = wa at *
      have HB2 := Lib.hid (gb_trans HB.out hbq)
      clear hbq hxb
      have XA := Lib.hid t0
      have BA := Lib.hid (gb_trans B0.out HB2.out)
      obtain ⟨q0, q1⟩ := gb_cells2 (gb_blk HB2.out C0.out (gb_lt C0.out))
      rw [HA.out] at q0
      have i0 : (0 : Int) ≤ (k : Int) := by omega
      have i1 : (k : Int) ≤ (c.maps.cap : Int) := by omega
      clear t0 e0 e1 e2
      go_wp2_with fail
      clear q0 q1 i0 i1
      go_loopw [47] (fun j wr => ∃ i : Nat, j = .int .i64 i ∧ i ≤ k ∧ Hid (((c.maps.l.take i).any fun s => s.name.toList == x.name.toList) = false) ∧ Hid (Below wa.heap.size wa wr)) (fun j _ => k - (intOf j).toNat)
      case atStart => exact ⟨0, rfl, by omega, Lib.hid rfl, Lib.hid (Below.refl _ _)⟩
      case round =>
        obtain ⟨i, rfl, hi, HANY, HBI⟩ := hrel
        have BW := Lib.hid (gb_trans BA.out HBI.out)
        by_cases hlti : i < k
        · obtain ⟨y, hy⟩ : ∃ y, c.maps.l[i]? = some y := ⟨_, List.getElem?_eq_getElem (by omega)⟩
          have HY := Lib.hid hy
          obtain ⟨e0, e1, e2⟩ := mp_cells (HCS.out _ BW.out _ _ hy)
          clear hy
          go_upto_region 7 with fail
          have t0 := gb_new wr (.cells #[.string y.name, .slice y.cls.1 y.cls.2.1 y.cls.2.2, .int .i64 y.at_] 57)
          have hbq := gb_alloc (Below.refl wr.heap.size wr) (.cells #[.string y.name, .slice y.cls.1 y.cls.2.1 y.cls.2.2, .int .i64 y.at_] 57)
          obtain ⟨yb, hyb⟩ : ∃ n, n = wr.heap.size := ⟨_, rfl⟩
          rw [← hyb] at t0 ⊢
          generalize wr.alloc (.cells #[.string y.name, .slice y.cls.1 y.cls.2.1 y.cls.2.2, .int .i64 y.at_] 57) = wy at *
          have BY := Lib.hid (gb_trans HBI.out hbq)
          clear hbq hyb
          obtain ⟨z0, z1, z2⟩ := gb_cells3 t0
          obtain ⟨y0, y1, y2⟩ := gb_cells3 (gb_blk BY.out XA.out (gb_lt XA.out))

          clear t0 e0 e1 e2
          cases hq : y.name.toList == x.name.toList with
          | true =>
            have HF2 : Hid (cfgBad c = some (4, x.at_)) := Lib.hid (by unfold cfgBad; rw [dup_found HNX.out HD.out ((seen_any _ _ _).trans (take_any_found HY.out hlti hq))])

            go_upto_region 8 with fail
            go_quiet (fail)
            go_wp2_with fail
            go_ret2
            exact ⟨by unfold wrongV; rw [HF2.out]; rfl, gb_drewN (gb_trans BA.out BY.out) _⟩
          | false =>
            have HN := Lib.hid (take_any_next (x := y) HANY.out HY.out)

            go_wp2_with fail
            go_roundw
            case rel => exact ⟨i + 1, by go_num, by omega, Lib.hid (by rw [HN.out, hq]; rfl), BY⟩
            case measure => simp [intOf] <;> omega
        · obtain rfl : k = i := by omega
          have HN : Hid (dupL ((c.maps.l.take (k + 1)).map (·.name)) ((mapN c).drop (k + 1)) = dupL [] (mapN c)) := Lib.hid (by rw [take_map_succ HX.out]; exact dup_next HNX.out HD.out ((seen_any _ _ _).trans HANY.out))
          have HBN := Lib.hid (gb_trans HB2.out HBI.out)
          go_wp2_with fail
          go_roundw
          case rel => exact ⟨k + 1, by go_num, by omega, HN, HBN⟩
          case measure => simp [intOf] <;> omega
    · obtain rfl : c.maps.l.length = k := by omega
      have HM0 : Hid (dupL [] (mapN c) = none) := Lib.hid (by rw [← HD.out, List.drop_of_length_le (by simp [mapN])]; rfl)
      have B1 := Lib.hid (gb_trans B0.out HB.out)
      have C1 := Lib.hid (gb_blk HB.out C0.out (gb_lt C0.out))
      obtain ⟨W1, hW1⟩ : ∃ W1, W1 = wr := ⟨_, rfl⟩
      subst hW1
      obtain ⟨q0, q1⟩ := gb_cells2 C1.out
      clear HD HB C0 B0
      go_wp2_with fail
      clear q0 q1
      go_loopw [63] (fun j wr => ∃ k : Nat, j = .int .i64 k ∧ k ≤ c.rts.l.length ∧ Hid (dupL ((c.rts.l.take k).map (·.name)) ((rtN c).drop k) = dupL [] (rtN c)) ∧ Hid (Below W1.heap.size W1 wr)) (fun j _ => c.rts.l.length - (intOf j).toNat)
      case atStart => exact ⟨0, rfl, by omega, Lib.hid (by simp), Lib.hid (Below.refl _ _)⟩
      case round =>
        obtain ⟨k, rfl, hk, HD, HB⟩ := hrel
        by_cases hlt : k < c.rts.l.length
        · obtain ⟨x, hx⟩ : ∃ x, c.rts.l[k]? = some x := ⟨_, List.getElem?_eq_getElem hlt⟩
          have HX := Lib.hid hx
          have BW := Lib.hid (gb_trans B1.out HB.out)
          obtain ⟨b, off, hA, hbb, hcs⟩ := sli_at HC.out.rts.at_ (by omega)
          have HCS := Lib.hid hcs
          obtain ⟨e0, e1, e2, e3, e4⟩ := rt_cells (hcs _ BW.out _ _ hx)
          have HNX : Hid ((rtN c)[k]? = some (x.name, x.at_)) := Lib.hid (by simp [rtN, hx])
          rw [hA]
          have HA := Lib.hid hA
          clear hx hcs hA
          go_upto_region 14 with fail
          have t0 := gb_new wr (.cells #[.string x.name, .slice x.nets.A x.nets.l.length x.nets.cap, .slice x.links.A x.links.l.length x.links.cap, .slice x.stats.A x.stats.l.length x.stats.cap, .int .i64 x.at_] 48)
          have hbq := gb_alloc (Below.refl wr.heap.size wr) (.cells #[.string x.name, .slice x.nets.A x.nets.l.length x.nets.cap, .slice x.links.A x.links.l.length x.links.cap, .slice x.stats.A x.stats.l.length x.stats.cap, .int .i64 x.at_] 48)
          obtain ⟨xb, hxb⟩ : ∃ n, n = wr.heap.size := ⟨_, rfl⟩
          rw [← hxb] at t0 ⊢
          generalize wr.alloc (.cells #[.string x.name, .slice x.nets.A x.nets.l.length x.nets.cap, .slice x.links.A x.links.l.length x.links.cap, .slice x.stats.A x.stats.l.length x.stats.cap, .int .i64 x.at_] 48) = wa at *
          have HB2 := Lib.hid (gb_trans HB.out hbq)
          clear hbq hxb
          have XA := Lib.hid t0
          have BA := Lib.hid (gb_trans B1.out HB2.out)
          obtain ⟨q0, q1⟩ := gb_cells2 (gb_blk HB2.out C1.out (gb_lt C1.out))
          rw [HA.out] at q1
          have i0 : (0 : Int) ≤ (k : Int) := by omega
          have i1 : (k : Int) ≤ (c.rts.cap : Int) := by omega
          clear t0 e0 e1 e2 e3 e4
          go_wp2_with fail
          clear q0 q1 i0 i1
          go_loopw [73] (fun j wr => ∃ i : Nat, j = .int .i64 i ∧ i ≤ k ∧ Hid (((c.rts.l.take i).any fun s => s.name.toList == x.name.toList) = false) ∧ Hid (Below wa.heap.size wa wr)) (fun j _ => k - (intOf j).toNat)
          case atStart => exact ⟨0, rfl, by omega, Lib.hid rfl, Lib.hid (Below.refl _ _)⟩
          case round =>
            obtain ⟨i, rfl, hi, HANY, HBI⟩ := hrel
            have BW := Lib.hid (gb_trans BA.out HBI.out)
            by_cases hlti : i < k
            · obtain ⟨y, hy⟩ : ∃ y, c.rts.l[i]? = some y := ⟨_, List.getElem?_eq_getElem (by omega)⟩
              have HY := Lib.hid hy
              obtain ⟨e0, e1, e2, e3, e4⟩ := rt_cells (HCS.out _ BW.out _ _ hy)
              clear hy
              go_upto_region 17 with fail
              have t0 := gb_new wr (.cells #[.string y.name, .slice y.nets.A y.nets.l.length y.nets.cap, .slice y.links.A y.links.l.length y.links.cap, .slice y.stats.A y.stats.l.length y.stats.cap, .int .i64 y.at_] 48)
              have hbq := gb_alloc (Below.refl wr.heap.size wr) (.cells #[.string y.name, .slice y.nets.A y.nets.l.length y.nets.cap, .slice y.links.A y.links.l.length y.links.cap, .slice y.stats.A y.stats.l.length y.stats.cap, .int .i64 y.at_] 48)
              obtain ⟨yb, hyb⟩ : ∃ n, n = wr.heap.size := ⟨_, rfl⟩
              rw [← hyb] at t0 ⊢
              generalize wr.alloc (.cells #[.string y.name, .slice y.nets.A y.nets.l.length y.nets.cap, .slice y.links.A y.links.l.length y.links.cap, .slice y.stats.A y.stats.l.length y.stats.cap, .int .i64 y.at_] 48) = wy at *
              have BY := Lib.hid (gb_trans HBI.out hbq)
              clear hbq hyb
              obtain ⟨z0, z1, z2, z3, z4⟩ := gb_cells5 t0
              obtain ⟨y0, y1, y2, y3, y4⟩ := gb_cells5 (gb_blk BY.out XA.out (gb_lt XA.out))

              clear t0 e0 e1 e2 e3 e4
              cases hq : y.name.toList == x.name.toList with
              | true =>
                have HF2 : Hid (cfgBad c = some (4, x.at_)) := Lib.hid (by unfold cfgBad; rw [HM0.out, dup_found HNX.out HD.out ((seen_any _ _ _).trans (take_any_found HY.out hlti hq))])

                go_upto_region 18 with fail
                go_quiet (fail)
                go_wp2_with fail
                go_ret2
                exact ⟨by unfold wrongV; rw [HF2.out]; rfl, gb_drewN (gb_trans BA.out BY.out) _⟩
              | false =>
                have HN := Lib.hid (take_any_next (x := y) HANY.out HY.out)

                go_wp2_with fail
                go_roundw
                case rel => exact ⟨i + 1, by go_num, by omega, Lib.hid (by rw [HN.out, hq]; rfl), BY⟩
                case measure => simp [intOf] <;> omega
            · obtain rfl : k = i := by omega
              have HN : Hid (dupL ((c.rts.l.take (k + 1)).map (·.name)) ((rtN c).drop (k + 1)) = dupL [] (rtN c)) := Lib.hid (by rw [take_map_succ HX.out]; exact dup_next HNX.out HD.out ((seen_any _ _ _).trans HANY.out))
              have HBN := Lib.hid (gb_trans HB2.out HBI.out)
              go_wp2_with fail
              go_roundw
              case rel => exact ⟨k + 1, by go_num, by omega, HN, HBN⟩
              case measure => simp [intOf] <;> omega
        · obtain rfl : c.rts.l.length = k := by omega
          have HR0 : Hid (dupL [] (rtN c) = none) := Lib.hid (by rw [← HD.out, List.drop_of_length_le (by simp [rtN])]; rfl)
          have HF : Hid (cfgBad c = rtsBad c.rts.l (c.maps.l.map (·.name)) c.rts.l) := Lib.hid (by unfold cfgBad; rw [HM0.out, HR0.out])
          have B2 := Lib.hid (gb_trans B1.out HB.out)
          have C2 := Lib.hid (gb_blk HB.out C1.out (gb_lt C1.out))
          obtain ⟨W2, hW2⟩ : ∃ W2, W2 = wr := ⟨_, rfl⟩
          subst hW2
          obtain ⟨q0, q1⟩ := gb_cells2 C2.out
          clear HD HB HM0 HR0 C1 B1
          go_wp2_with fail
          clear q0 q1
          go_loopw [89] (fun j wr => ∃ n : Nat, j = .int .i64 n ∧ n ≤ c.rts.l.length ∧ Hid (rtsBad c.rts.l (c.maps.l.map (·.name)) (c.rts.l.drop n) = rtsBad c.rts.l (c.maps.l.map (·.name)) c.rts.l) ∧ Hid (Below W2.heap.size W2 wr)) (fun j _ => c.rts.l.length - (intOf j).toNat)
          case atStart => exact ⟨0, rfl, by omega, Lib.hid rfl, Lib.hid (Below.refl _ _)⟩
          case round =>
            obtain ⟨n, rfl, hn, HD, HB⟩ := hrel
            by_cases hlt : n < c.rts.l.length
            · obtain ⟨r, hx⟩ : ∃ x, c.rts.l[n]? = some x := ⟨_, List.getElem?_eq_getElem hlt⟩
              have HR := Lib.hid (HC.out.rts.ok r (List.mem_of_getElem? hx))
              have BW := Lib.hid (gb_trans B2.out HB.out)
              obtain ⟨b, off, hA, hbb, hcs⟩ := sli_at HC.out.rts.at_ (by omega)
              obtain ⟨e0, e1, e2, e3, e4⟩ := rt_cells (hcs _ BW.out _ _ hx)
              have HRD := Lib.hid (rtsBad_drop (rts := c.rts.l) (ms := c.maps.l.map (·.name)) hx)
              have HK : Hid (∀ q, rtBad c.rts.l (c.maps.l.map (·.name)) r = some q → cfgBad c = some q) := Lib.hid (fun q hq => by rw [HF.out, ← HD.out, HRD.out, hq]; rfl)
              have HK2 : Hid (rtBad c.rts.l (c.maps.l.map (·.name)) r = none → rtsBad c.rts.l (c.maps.l.map (·.name)) (c.rts.l.drop (n + 1)) = rtsBad c.rts.l (c.maps.l.map (·.name)) c.rts.l) := Lib.hid (fun hq => by rw [← HD.out, HRD.out, hq]; rfl)
              have g1 := HR.out.nets.fits
              have g2 := HR.out.nets.cap
              have g3 := HR.out.links.fits
              have g4 := HR.out.links.cap
              have g5 := HR.out.stats.fits
              have g6 := HR.out.stats.cap
              unfold maxLen at g2 g4 g6
              rw [hA]
              have HA := Lib.hid hA
              clear hx hcs hA HRD HD
              go_upto_region 24 with fail
              have t0 := gb_new wr (.cells #[.string r.name, .slice r.nets.A r.nets.l.length r.nets.cap, .slice r.links.A r.links.l.length r.links.cap, .slice r.stats.A r.stats.l.length r.stats.cap, .int .i64 r.at_] 48)
              have hbq := gb_alloc (Below.refl wr.heap.size wr) (.cells #[.string r.name, .slice r.nets.A r.nets.l.length r.nets.cap, .slice r.links.A r.links.l.length r.links.cap, .slice r.stats.A r.stats.l.length r.stats.cap, .int .i64 r.at_] 48)
              obtain ⟨rb, hrb⟩ : ∃ n, n = wr.heap.size := ⟨_, rfl⟩
              rw [← hrb] at t0 ⊢
              generalize wr.alloc (.cells #[.string r.name, .slice r.nets.A r.nets.l.length r.nets.cap, .slice r.links.A r.links.l.length r.links.cap, .slice r.stats.A r.stats.l.length r.stats.cap, .int .i64 r.at_] 48) = wa at *
              have HB2 := Lib.hid (gb_trans HB.out hbq)
              clear hbq hrb
              have XA := Lib.hid t0
              have BA := Lib.hid (gb_trans B2.out HB2.out)
              have CA := Lib.hid (gb_blk HB2.out C2.out (gb_lt C2.out))
              clear t0 e0 e1 e2 e3 e4
              obtain ⟨q0, q1, q2, q3, q4⟩ := gb_cells5 XA.out
              go_wp2_with fail
              clear q0 q1 q2 q3 q4
              go_loopw [96] (fun j wr => ∃ k : Nat, j = .int .i64 k ∧ k ≤ r.nets.l.length ∧ Hid (dupP (r.nets.l.take k) (r.nets.l.drop k) = dupP [] r.nets.l) ∧ Hid (Below wa.heap.size wa wr)) (fun j _ => r.nets.l.length - (intOf j).toNat)
              case atStart => exact ⟨0, rfl, by omega, Lib.hid (by simp), Lib.hid (Below.refl _ _)⟩
              case round =>
                obtain ⟨k, rfl, hk, HD, HB⟩ := hrel
                by_cases hlt : k < r.nets.l.length
                · obtain ⟨x, hx⟩ : ∃ x, r.nets.l[k]? = some x := ⟨_, List.getElem?_eq_getElem hlt⟩
                  have HX := Lib.hid hx
                  have BW := Lib.hid (gb_trans BA.out HB.out)
                  obtain ⟨bl, ol, hAl, hbl, hcl⟩ := sli_at HR.out.nets.at_ (by omega)
                  have HCL := Lib.hid hcl
                  have HAL := Lib.hid hAl
                  obtain ⟨e0, e1⟩ := px_cells (hcl _ BW.out _ _ hx)
                  rw [hAl]
                  clear hx hcl hAl
                  go_upto_region 27 with fail
                  have t0 := gb_new wr (.cells #[.int .u32 x.addr, .int .i64 x.bits] 66)
                  have hbq := gb_alloc (Below.refl wr.heap.size wr) (.cells #[.int .u32 x.addr, .int .i64 x.bits] 66)
                  obtain ⟨xb, hxb⟩ : ∃ n, n = wr.heap.size := ⟨_, rfl⟩
                  rw [← hxb] at t0 ⊢
                  generalize wr.alloc (.cells #[.int .u32 x.addr, .int .i64 x.bits] 66) = wb at *
                  have HB3 := Lib.hid (gb_trans HB.out hbq)
                  clear hbq hxb
                  have XB := Lib.hid t0
                  have BB := Lib.hid (gb_trans BA.out HB3.out)
                  have XR := Lib.hid (gb_blk HB3.out XA.out (gb_lt XA.out))

                  have i0 : (0 : Int) ≤ (k : Int) := by omega
                  have i1 : (k : Int) ≤ (r.nets.cap : Int) := by omega
                  clear t0 e0 e1
                  obtain ⟨q0, q1, q2, q3, q4⟩ := gb_cells5 XR.out
                  rw [HAL.out] at q1
                  go_wp2_with fail
                  clear q0 q1 q2 q3 q4 i0 i1
                  go_loopw [106] (fun j wr => ∃ i : Nat, j = .int .i64 i ∧ i ≤ k ∧ Hid (((r.nets.l.take i).any fun s => decide (s = x)) = false) ∧ Hid (Below wb.heap.size wb wr)) (fun j _ => k - (intOf j).toNat)
                  case atStart => exact ⟨0, rfl, by omega, Lib.hid rfl, Lib.hid (Below.refl _ _)⟩
                  case round =>
                    obtain ⟨i, rfl, hi, HANY, HBI⟩ := hrel
                    have BW := Lib.hid (gb_trans BB.out HBI.out)
                    by_cases hlti : i < k
                    · obtain ⟨y, hy⟩ : ∃ y, r.nets.l[i]? = some y := ⟨_, List.getElem?_eq_getElem (by omega)⟩
                      have HY := Lib.hid hy
                      obtain ⟨e0, e1⟩ := px_cells (HCL.out _ BW.out _ _ hy)
                      clear hy
                      go_upto_region 30 with fail
                      have t0 := gb_new wr (.cells #[.int .u32 y.addr, .int .i64 y.bits] 66)
                      have hbq := gb_alloc (Below.refl wr.heap.size wr) (.cells #[.int .u32 y.addr, .int .i64 y.bits] 66)
                      obtain ⟨yb, hyb⟩ : ∃ n, n = wr.heap.size := ⟨_, rfl⟩
                      rw [← hyb] at t0 ⊢
                      generalize wr.alloc (.cells #[.int .u32 y.addr, .int .i64 y.bits] 66) = wy at *
                      have BY := Lib.hid (gb_trans HBI.out hbq)
                      clear hbq hyb
                      obtain ⟨z0, z1⟩ := gb_cells2 t0
                      obtain ⟨y0, y1⟩ := gb_cells2 (gb_blk BY.out XB.out (gb_lt XB.out))
                      obtain ⟨u0, u1, u2, u3, u4⟩ := gb_cells5 (gb_blk BY.out XR.out (gb_lt XR.out))
                      clear t0 e0 e1
                      cases hq : decide (y = x) with
                      | true =>
                        have HF2 : Hid (cfgBad c = some (4, r.at_)) := Lib.hid (HK.out _ (by unfold rtBad; rw [← HD.out, dupP_drop HX.out, if_pos (take_any_found HY.out hlti hq)]; rfl))
                        have HE := fun w d => eq_pxD w d y x
                        rw [hq] at HE
                        go_upto_region 31 with fail
                        go_quiet (fail)
                        go_wp2_with fail
                        go_ret2
                        exact ⟨by unfold wrongV; rw [HF2.out]; rfl, gb_drewN (gb_trans BB.out BY.out) _⟩
                      | false =>
                        have HN := Lib.hid (take_any_next (x := y) HANY.out HY.out)
                        have HE := fun w d => eq_pxD w d y x
                        rw [hq] at HE
                        go_wp2_with fail
                        go_roundw
                        case rel => exact ⟨i + 1, by go_num, by omega, Lib.hid (by rw [HN.out, hq]; rfl), BY⟩
                        case measure => simp [intOf] <;> omega
                    · obtain rfl : k = i := by omega
                      have HN : Hid (dupP (r.nets.l.take (k + 1)) (r.nets.l.drop (k + 1)) = dupP [] r.nets.l) := Lib.hid (by rw [← HD.out, dupP_drop HX.out, if_neg (by rw [HANY.out]; simp), List.take_add_one, HX.out]; rfl)
                      have HBN := Lib.hid (gb_trans HB3.out HBI.out)
                      go_wp2_with fail
                      go_roundw
                      case rel => exact ⟨k + 1, by go_num, by omega, HN, HBN⟩
                      case measure => simp [intOf] <;> omega
                · obtain rfl : r.nets.l.length = k := by omega
                  have HDP : Hid (dupP [] r.nets.l = false) := Lib.hid (by rw [← HD.out, List.drop_of_length_le (Nat.le_refl _)]; rfl)
                  have BE := Lib.hid (gb_trans BA.out HB.out)
                  have XE := Lib.hid (gb_blk HB.out XA.out (gb_lt XA.out))
                  have CE := Lib.hid (gb_blk HB.out CA.out (gb_lt CA.out))
                  have HBE := Lib.hid (gb_trans HB2.out HB.out)
                  obtain ⟨we, hwe⟩ : ∃ W2, W2 = wr := ⟨_, rfl⟩
                  subst hwe
                  obtain ⟨q0, q1, q2, q3, q4⟩ := gb_cells5 XE.out
                  clear HD HB
                  go_wp2_with fail
                  clear q0 q1 q2 q3 q4
                  go_loopw [120] (fun j wr => ∃ k : Nat, j = .int .i64 k ∧ k ≤ r.links.l.length ∧ Hid (linkBad c.rts.l (c.maps.l.map (·.name)) r.name ((r.links.l.take k).map (·.peer)) (r.links.l.drop k) = linkBad c.rts.l (c.maps.l.map (·.name)) r.name [] r.links.l) ∧ Hid (Below we.heap.size we wr)) (fun j _ => r.links.l.length - (intOf j).toNat)
                  case atStart => exact ⟨0, rfl, by omega, Lib.hid (by simp), Lib.hid (Below.refl _ _)⟩
                  case round =>
                    obtain ⟨k, rfl, hk, HD, HB⟩ := hrel
                    by_cases hlt : k < r.links.l.length
                    · obtain ⟨x, hx⟩ : ∃ x, r.links.l[k]? = some x := ⟨_, List.getElem?_eq_getElem hlt⟩
                      have HX := Lib.hid hx
                      have BW := Lib.hid (gb_trans BE.out HB.out)
                      obtain ⟨bl, ol, hAl, hbl, hcl⟩ := sli_at HR.out.links.at_ (by omega)
                      have HCL := Lib.hid hcl
                      have HAL := Lib.hid hAl
                      obtain ⟨e0, e1, e2, e3, e4⟩ := lk_cells (hcl _ BW.out _ _ hx)
                      rw [hAl]
                      clear hx hcl hAl
                      go_upto_region 37 with fail
                      have t0 := gb_new wr (.cells #[.string x.peer, .int .i64 x.cost, .string x.imp, .string x.exp, .int .i64 x.at_] 50)
                      have hbq := gb_alloc (Below.refl wr.heap.size wr) (.cells #[.string x.peer, .int .i64 x.cost, .string x.imp, .string x.exp, .int .i64 x.at_] 50)
                      obtain ⟨xb, hxb⟩ : ∃ n, n = wr.heap.size := ⟨_, rfl⟩
                      rw [← hxb] at t0 ⊢
                      generalize wr.alloc (.cells #[.string x.peer, .int .i64 x.cost, .string x.imp, .string x.exp, .int .i64 x.at_] 50) = wb at *
                      have HB3 := Lib.hid (gb_trans HB.out hbq)
                      clear hbq hxb
                      have XB := Lib.hid t0
                      have BB := Lib.hid (gb_trans BE.out HB3.out)
                      have XR := Lib.hid (gb_blk HB3.out XE.out (gb_lt XE.out))
                      have CB := Lib.hid (gb_blk HB3.out CE.out (gb_lt CE.out))
                      have i0 : (0 : Int) ≤ (k : Int) := by omega
                      have i1 : (k : Int) ≤ (r.links.cap : Int) := by omega
                      clear t0 e0 e1 e2 e3 e4
                      obtain ⟨q0, q1⟩ := gb_cells2 CB.out
                      obtain ⟨z0, z1, z2, z3, z4⟩ := gb_cells5 XB.out
                      go_wp2_with fail
                      refine (router_any2 c x.peer wb (slok_weak (HC.out.below BB.out).rts fun _ _ => trivial)).mono ?_
                      rintro en w8 ⟨p, hpq, rfl, hb8⟩
                      have HPQ := Lib.hid hpq
                      have B8 := Lib.hid hb8
                      clear hpq hb8 q0 q1 z0 z1 z2 z3 z4
                      have mc1 := fun w' (h : CfOk w' c) => mapped_any c x.imp w' h.maps
                      have mc2 := fun w' (h : CfOk w' c) => mapped_any c x.exp w' h.maps
                      have hlb := lb_step c r.name ((r.links.l.take k).map (·.peer)) HX.out
                      have HRS : Hid ((routerL c.rts.l x.peer).isSome = true → routerL c.rts.l x.peer = some p) := Lib.hid (getD_some HPQ.out)
                      generalize hb1 : (routerL c.rts.l x.peer).isSome = B1 at *
                      generalize mappedL c.maps.l x.imp = M1 at mc1 hlb
                      generalize mappedL c.maps.l x.exp = M2 at mc2 hlb
                      have MC1 := Lib.hid mc1; have MC2 := Lib.hid mc2; have HLB := Lib.hid hlb; have HB1 := Lib.hid hb1
                      clear mc1 mc2 hlb hb1
                      go_upto_region 38 with fail
                      have t0 := gb_new w8 (.cells #[.string p.name, .slice p.nets.A p.nets.l.length p.nets.cap, .slice p.links.A p.links.l.length p.links.cap, .slice p.stats.A p.stats.l.length p.stats.cap, .int .i64 p.at_] 48)
                      have hbq := gb_alloc (Below.refl w8.heap.size w8) (.cells #[.string p.name, .slice p.nets.A p.nets.l.length p.nets.cap, .slice p.links.A p.links.l.length p.links.cap, .slice p.stats.A p.stats.l.length p.stats.cap, .int .i64 p.at_] 48)
                      obtain ⟨pb, hpb⟩ : ∃ n, n = w8.heap.size := ⟨_, rfl⟩
                      rw [← hpb] at t0 ⊢
                      generalize w8.alloc (.cells #[.string p.name, .slice p.nets.A p.nets.l.length p.nets.cap, .slice p.links.A p.links.l.length p.links.cap, .slice p.stats.A p.stats.l.length p.stats.cap, .int .i64 p.at_] 48) = wp at *
                      have B9 := Lib.hid (gb_trans B8.out hbq)
                      have BP := Lib.hid (gb_trans BB.out B9.out)
                      have HBP := Lib.hid (gb_trans HB3.out B9.out)
                      have PP := Lib.hid t0
                      have XP := Lib.hid (gb_blk B9.out XB.out (gb_lt XB.out))
                      have RP := Lib.hid (gb_blk B9.out XR.out (gb_lt XR.out))
                      have CP := Lib.hid (gb_blk B9.out CB.out (gb_lt CB.out))
                      clear t0 hbq hpb
                      go_cut [154] (fun s wx => s = .bool (!B1 || (x.peer.toList == r.name.toList) || !M1 || !M2) ∧ Hid (Below wp.heap.size wp wx))
                      case first =>
                        obtain ⟨q0, q1⟩ := gb_cells2 CP.out
                        obtain ⟨z0, z1, z2, z3, z4⟩ := gb_cells5 XP.out
                        obtain ⟨y0, y1, y2, y3, y4⟩ := gb_cells5 RP.out
                        cases B1
                        · go_wp2_with fail
                          go_meet
                          exact ⟨by simp, Lib.hid (Below.refl _ _)⟩
                        · cases e1 : x.peer.toList == r.name.toList
                          · cases M1
                            · go_wp2_with fail
                              refine (MC1.out _ (HC.out.below BP.out)).mono ?_
                              rintro en w9 ⟨rfl, hb9⟩
                              have D9 := Lib.hid hb9
                              clear hb9
                              go_wp2_with fail
                              go_meet
                              exact ⟨by simp [*], D9⟩
                            · go_wp2_with fail
                              refine (MC1.out _ (HC.out.below BP.out)).mono ?_
                              rintro en w9 ⟨rfl, hb9⟩
                              have D9 := Lib.hid hb9
                              obtain ⟨q0, q1⟩ := gb_cells2 (gb_blk hb9 CP.out (gb_lt CP.out))
                              obtain ⟨z0, z1, z2, z3, z4⟩ := gb_cells5 (gb_blk hb9 XP.out (gb_lt XP.out))
                              clear hb9
                              cases M2
                              all_goals
                                go_wp2_with fail
                                refine (MC2.out _ (HC.out.below (gb_trans BP.out D9.out))).mono ?_
                                rintro en w10 ⟨rfl, hb10⟩
                                have D10 := Lib.hid (gb_trans D9.out hb10)
                                clear hb10
                                go_wp2_with fail
                                go_meet
                                exact ⟨by simp [*], D10⟩
                          · go_wp2_with fail
                            go_meet
                            exact ⟨by simp [*], Lib.hid (Below.refl _ _)⟩
                      case rest =>
                        obtain ⟨rfl, HC8⟩ := hcut
                        have BP2 := Lib.hid (gb_trans BP.out HC8.out)
                        have HBP2 := Lib.hid (gb_trans HBP.out HC8.out)
                        have PP2 := Lib.hid (gb_blk HC8.out PP.out (gb_lt PP.out))
                        have XP2 := Lib.hid (gb_blk HC8.out XP.out (gb_lt XP.out))
                        have RP2 := Lib.hid (gb_blk HC8.out RP.out (gb_lt RP.out))
                        generalize hbd : (!B1 || (x.peer.toList == r.name.toList) || !M1 || !M2) = bd at *
                        have HBDX := Lib.hid hbd
                        cases bd with
                        | true =>
                          have HF2 : Hid (cfgBad c = some (3, x.at_)) := Lib.hid (HK.out _ (by unfold rtBad; rw [HDP.out, show linkBad c.rts.l (c.maps.l.map (·.name)) r.name [] r.links.l = some (3, x.at_) from by rw [← HD.out, HLB.out]; rfl]; rfl))
                          clear hbd
                          obtain ⟨z0, z1, z2, z3, z4⟩ := gb_cells5 XP2.out
                          go_upto_region 39 with fail
                          go_quiet (fail)
                          go_wp2_with fail
                          go_ret2
                          exact ⟨by unfold wrongV; rw [HF2.out]; rfl, gb_drewN BP2.out _⟩
                        | false =>
                          have hB1 : B1 = true := by
                            cases B1 with
                            | false => simp at hbd
                            | true => rfl
                          have HRP : Hid (routerL c.rts.l x.peer = some p) := Lib.hid (HRS.out hB1)
                          have HP := Lib.hid (HC.out.rts.ok p (List.mem_of_find?_eq_some HRP.out))
                          clear hbd hB1
                          obtain ⟨q0, q1, q2, q3, q4⟩ := gb_cells5 RP2.out
                          rw [HAL.out] at q2
                          go_wp2_with fail
                          clear q0 q1 q2 q3 q4 i0 i1
                          go_loopw [162] (fun j wr => ∃ i : Nat, j = .int .i64 i ∧ i ≤ k ∧ Hid (((r.links.l.take i).any fun s => s.peer.toList == x.peer.toList) = false) ∧ Hid (Below wc.heap.size wc wr)) (fun j _ => k - (intOf j).toNat)
                          case atStart => exact ⟨0, rfl, by omega, Lib.hid rfl, Lib.hid (Below.refl _ _)⟩
                          case round =>
                            obtain ⟨i, rfl, hi, HANY, HBI⟩ := hrel
                            have BW := Lib.hid (gb_trans BP2.out HBI.out)
                            by_cases hlti : i < k
                            · obtain ⟨y, hy⟩ : ∃ y, r.links.l[i]? = some y := ⟨_, List.getElem?_eq_getElem (by omega)⟩
                              have HY := Lib.hid hy
                              obtain ⟨e0, e1, e2, e3, e4⟩ := lk_cells (HCL.out _ BW.out _ _ hy)
                              clear hy
                              go_upto_region 43 with fail
                              have t0 := gb_new wr (.cells #[.string y.peer, .int .i64 y.cost, .string y.imp, .string y.exp, .int .i64 y.at_] 50)
                              have hbq := gb_alloc (Below.refl wr.heap.size wr) (.cells #[.string y.peer, .int .i64 y.cost, .string y.imp, .string y.exp, .int .i64 y.at_] 50)
                              obtain ⟨yb, hyb⟩ : ∃ n, n = wr.heap.size := ⟨_, rfl⟩
                              rw [← hyb] at t0 ⊢
                              generalize wr.alloc (.cells #[.string y.peer, .int .i64 y.cost, .string y.imp, .string y.exp, .int .i64 y.at_] 50) = wy at *
                              have BY := Lib.hid (gb_trans HBI.out hbq)
                              clear hbq hyb
                              obtain ⟨z0, z1, z2, z3, z4⟩ := gb_cells5 t0
                              obtain ⟨y0, y1, y2, y3, y4⟩ := gb_cells5 (gb_blk BY.out XP2.out (gb_lt XP2.out))

                              clear t0 e0 e1 e2 e3 e4
                              cases hq : y.peer.toList == x.peer.toList with
                              | true =>
                                have HF2 : Hid (cfgBad c = some (4, x.at_)) := Lib.hid (HK.out _ (by unfold rtBad; rw [HDP.out, show linkBad c.rts.l (c.maps.l.map (·.name)) r.name [] r.links.l = some (4, x.at_) from by rw [← HD.out, HLB.out, if_neg (by simp), if_pos ((seen_any _ _ _).trans (take_any_found HY.out hlti hq))]]; rfl))

                                go_upto_region 44 with fail
                                go_quiet (fail)
                                go_wp2_with fail
                                go_ret2
                                exact ⟨by unfold wrongV; rw [HF2.out]; rfl, gb_drewN (gb_trans BP2.out BY.out) _⟩
                              | false =>
                                have HN := Lib.hid (take_any_next (x := y) HANY.out HY.out)

                                go_wp2_with fail
                                go_roundw
                                case rel => exact ⟨i + 1, by go_num, by omega, Lib.hid (by rw [HN.out, hq]; rfl), BY⟩
                                case measure => simp [intOf] <;> omega
                            · obtain rfl : k = i := by omega
                              have HSN : Hid ((((r.links.l.take k).map (·.peer)).any fun s => decide (s = x.peer)) = false) := Lib.hid ((seen_any _ _ _).trans HANY.out)
                              have BK := Lib.hid (gb_trans BP2.out HBI.out)
                              have HBK := Lib.hid (gb_trans HBP2.out HBI.out)
                              have XK := Lib.hid (gb_blk HBI.out XP2.out (gb_lt XP2.out))
                              have RK := Lib.hid (gb_blk HBI.out RP2.out (gb_lt RP2.out))
                              have PK := Lib.hid (gb_blk HBI.out PP2.out (gb_lt PP2.out))
                              obtain ⟨wk, hwk⟩ : ∃ W2, W2 = wr := ⟨_, rfl⟩
                              subst hwk
                              have hpl := HP.out.links.len_le
                              obtain ⟨q0, q1, q2, q3, q4⟩ := gb_cells5 PK.out
                              clear HBI HANY
                              go_wp2_with fail
                              clear q0 q1 q2 q3 q4
                              go_loopw [24, 177] (fun s j wr => ∃ (i : Nat) (sb : Bool), s = .bool sb ∧ j = .int .i64 i ∧ i ≤ p.links.l.length ∧ Hid (((p.links.l.take i).any fun s => s.peer.toList == r.name.toList) = sb) ∧ Hid (Below wk.heap.size wk wr)) (fun _ j _ => p.links.l.length - (intOf j).toNat)
                              case atStart => exact ⟨0, false, rfl, rfl, by omega, Lib.hid rfl, Lib.hid (Below.refl _ _)⟩
                              case round =>
                                obtain ⟨i, sb, rfl, rfl, hi, HANY, HBI⟩ := hrel
                                have BW := Lib.hid (gb_trans BK.out HBI.out)
                                by_cases hlti : i < p.links.l.length
                                · obtain ⟨y, hy⟩ : ∃ y, p.links.l[i]? = some y := ⟨_, List.getElem?_eq_getElem hlti⟩
                                  have HY := Lib.hid hy
                                  obtain ⟨ba, oa, hAa, hba, hca⟩ := sli_at HP.out.links.at_ (by omega)
                                  obtain ⟨e0, e1, e2, e3, e4⟩ := lk_cells (hca _ BW.out _ _ hy)
                                  have HAA := Lib.hid hAa
                                  rw [hAa]
                                  clear hy hca hAa
                                  go_upto_region 50 with fail
                                  have t0 := gb_new wr (.cells #[.string y.peer, .int .i64 y.cost, .string y.imp, .string y.exp, .int .i64 y.at_] 50)
                                  have hbq := gb_alloc (Below.refl wr.heap.size wr) (.cells #[.string y.peer, .int .i64 y.cost, .string y.imp, .string y.exp, .int .i64 y.at_] 50)
                                  obtain ⟨yb, hyb⟩ : ∃ n, n = wr.heap.size := ⟨_, rfl⟩
                                  rw [← hyb] at t0 ⊢
                                  generalize wr.alloc (.cells #[.string y.peer, .int .i64 y.cost, .string y.imp, .string y.exp, .int .i64 y.at_] 50) = wy at *
                                  have BY := Lib.hid (gb_trans HBI.out hbq)
                                  clear hbq hyb
                                  obtain ⟨z0, z1, z2, z3, z4⟩ := gb_cells5 t0
                                  obtain ⟨y0, y1, y2, y3, y4⟩ := gb_cells5 (gb_blk BY.out RK.out (gb_lt RK.out))
                                  clear t0 e0 e1 e2 e3 e4
                                  cases sb with
                                  | true =>
                                    have HN := Lib.hid (take_any_next (x := y) HANY.out HY.out)
                                    go_wp2_with fail
                                    go_roundw
                                    case rel => exact ⟨i + 1, true, rfl, by go_num, by omega, Lib.hid (by rw [HN.out]; rfl), BY⟩
                                    case measure => simp [intOf] <;> omega
                                  | false =>
                                    have HN := Lib.hid (take_any_next (x := y) HANY.out HY.out)
                                    cases hq : y.peer.toList == r.name.toList with
                                    | true =>
                                      go_wp2_with fail
                                      go_roundw
                                      case rel => exact ⟨i + 1, true, rfl, by go_num, by omega, Lib.hid (by rw [HN.out, hq]; rfl), BY⟩
                                      case measure => simp [intOf] <;> omega
                                    | false =>
                                      go_wp2_with fail
                                      go_roundw
                                      case rel => exact ⟨i + 1, false, rfl, by go_num, by omega, Lib.hid (by rw [HN.out, hq]; rfl), BY⟩
                                      case measure => simp [intOf] <;> omega
                                · obtain rfl : p.links.l.length = i := by omega
                                  have HPB : Hid ((peerL p.links.l r.name).isSome = sb) := Lib.hid (by rw [peerL_some]; have := HANY.out; rwa [List.take_length] at this)
                                  have BY := Lib.hid (gb_trans BK.out HBI.out)
                                  obtain ⟨z0, z1, z2, z3, z4⟩ := gb_cells5 (gb_blk HBI.out XK.out (gb_lt XK.out))
                                  cases sb with
                                  | false =>
                                    have HF2 : Hid (cfgBad c = some (5, x.at_)) := Lib.hid (HK.out _ (by unfold rtBad; rw [HDP.out, show linkBad c.rts.l (c.maps.l.map (·.name)) r.name [] r.links.l = some (5, x.at_) from by rw [← HD.out, HLB.out, if_neg (by simp), if_neg (by rw [HSN.out]; simp), HRP.out]; simp only [HPB.out]; rfl]; rfl))
                                    go_upto_region 53 with fail
                                    go_quiet (fail)
                                    go_wp2_with fail
                                    go_ret2
                                    exact ⟨by unfold wrongV; rw [HF2.out]; rfl, gb_drewN BY.out _⟩
                                  | true =>
                                    have HN : Hid (linkBad c.rts.l (c.maps.l.map (·.name)) r.name ((r.links.l.take (k + 1)).map (·.peer)) (r.links.l.drop (k + 1)) = linkBad c.rts.l (c.maps.l.map (·.name)) r.name [] r.links.l) := Lib.hid (by
                                      rw [take_map_succ HX.out, ← HD.out, HLB.out, if_neg (by simp), if_neg (by rw [HSN.out]; simp), HRP.out]; simp only [HPB.out, if_true])
                                    have HBN := Lib.hid (gb_trans HBK.out HBI.out)
                                    go_wp2_with fail
                                    go_roundw
                                    case rel => exact ⟨k + 1, by go_num, by omega, HN, HBN⟩
                                    case measure => simp [intOf] <;> omega
                    · obtain rfl : r.links.l.length = k := by omega
                      have HL0 : Hid (linkBad c.rts.l (c.maps.l.map (·.name)) r.name [] r.links.l = none) := Lib.hid (by rw [← HD.out, List.drop_of_length_le (Nat.le_refl _)]; rfl)
                      have BF := Lib.hid (gb_trans BE.out HB.out)
                      have XF := Lib.hid (gb_blk HB.out XE.out (gb_lt XE.out))
                      have HBF := Lib.hid (gb_trans HBE.out HB.out)
                      obtain ⟨wf, hwf⟩ : ∃ W2, W2 = wr := ⟨_, rfl⟩
                      subst hwf
                      obtain ⟨q0, q1, q2, q3, q4⟩ := gb_cells5 XF.out
                      clear HD HB XE CE BE HBE
                      go_wp2_with fail
                      clear q0 q1 q2 q3 q4
                      go_loopw [198] (fun j wr => ∃ k : Nat, j = .int .i64 k ∧ k ≤ r.stats.l.length ∧ Hid (waysBad r.links.l ((r.stats.l.take k).map (·.px)) (r.stats.l.drop k) = waysBad r.links.l [] r.stats.l) ∧ Hid (Below wf.heap.size wf wr)) (fun j _ => r.stats.l.length - (intOf j).toNat)
                      case atStart => exact ⟨0, rfl, by omega, Lib.hid (by simp), Lib.hid (Below.refl _ _)⟩
                      case round =>
                        obtain ⟨k, rfl, hk, HD, HB⟩ := hrel
                        by_cases hlt : k < r.stats.l.length
                        · obtain ⟨x, hx⟩ : ∃ x, r.stats.l[k]? = some x := ⟨_, List.getElem?_eq_getElem hlt⟩
                          have HX := Lib.hid hx
                          have BW := Lib.hid (gb_trans BF.out HB.out)
                          obtain ⟨bl, ol, hAl, hbl, hcl⟩ := sli_at HR.out.stats.at_ (by omega)
                          have HCL := Lib.hid hcl
                          have HAL := Lib.hid hAl
                          obtain ⟨e0, e1, e2, e3⟩ := st_cells (hcl _ BW.out _ _ hx)
                          rw [hAl]
                          clear hx hcl hAl
                          go_upto_region 58 with fail
                          have t0 := gb_new wr (.cells #[.int .u32 x.px.addr, .int .i64 x.px.bits, .string x.via, .int .i64 x.at_] 70)
                          have hbq := gb_alloc (Below.refl wr.heap.size wr) (.cells #[.int .u32 x.px.addr, .int .i64 x.px.bits, .string x.via, .int .i64 x.at_] 70)
                          obtain ⟨xb, hxb⟩ : ∃ n, n = wr.heap.size := ⟨_, rfl⟩
                          rw [← hxb] at t0 ⊢
                          generalize wr.alloc (.cells #[.int .u32 x.px.addr, .int .i64 x.px.bits, .string x.via, .int .i64 x.at_] 70) = wb at *
                          have HB3 := Lib.hid (gb_trans HB.out hbq)
                          clear hbq hxb
                          have XB := Lib.hid t0
                          have BB := Lib.hid (gb_trans BF.out HB3.out)
                          have XR := Lib.hid (gb_blk HB3.out XF.out (gb_lt XF.out))

                          have i0 : (0 : Int) ≤ (k : Int) := by omega
                          have i1 : (k : Int) ≤ (r.stats.cap : Int) := by omega
                          clear t0 e0 e1 e2 e3
                          obtain ⟨q0, q1, q2, q3, q4⟩ := gb_cells5 XR.out
                          go_wp2_with fail
                          clear q0 q1 q2 q3 q4
                          go_loopw [29, 206] (fun s j wr => ∃ (i : Nat) (sb : Bool), s = .bool sb ∧ j = .int .i64 i ∧ i ≤ r.links.l.length ∧ Hid (((r.links.l.take i).any fun s => s.peer.toList == x.via.toList) = sb) ∧ Hid (Below wb.heap.size wb wr)) (fun _ j _ => r.links.l.length - (intOf j).toNat)
                          case atStart => exact ⟨0, false, rfl, rfl, by omega, Lib.hid rfl, Lib.hid (Below.refl _ _)⟩
                          case round =>
                            obtain ⟨i, sb, rfl, rfl, hi, HANY, HBI⟩ := hrel
                            have BW := Lib.hid (gb_trans BB.out HBI.out)
                            by_cases hlti : i < r.links.l.length
                            · obtain ⟨y, hy⟩ : ∃ y, r.links.l[i]? = some y := ⟨_, List.getElem?_eq_getElem hlti⟩
                              have HY := Lib.hid hy
                              obtain ⟨ba, oa, hAa, hba, hca⟩ := sli_at HR.out.links.at_ (by omega)
                              obtain ⟨e0, e1, e2, e3, e4⟩ := lk_cells (hca _ BW.out _ _ hy)
                              have HAA := Lib.hid hAa
                              rw [hAa]
                              clear hy hca hAa
                              go_upto_region 62 with fail
                              have t0 := gb_new wr (.cells #[.string y.peer, .int .i64 y.cost, .string y.imp, .string y.exp, .int .i64 y.at_] 50)
                              have hbq := gb_alloc (Below.refl wr.heap.size wr) (.cells #[.string y.peer, .int .i64 y.cost, .string y.imp, .string y.exp, .int .i64 y.at_] 50)
                              obtain ⟨yb, hyb⟩ : ∃ n, n = wr.heap.size := ⟨_, rfl⟩
                              rw [← hyb] at t0 ⊢
                              generalize wr.alloc (.cells #[.string y.peer, .int .i64 y.cost, .string y.imp, .string y.exp, .int .i64 y.at_] 50) = wy at *
                              have BY := Lib.hid (gb_trans HBI.out hbq)
                              clear hbq hyb
                              obtain ⟨z0, z1, z2, z3, z4⟩ := gb_cells5 t0
                              obtain ⟨y0, y1, y2, y3⟩ := gb_cells4 (gb_blk BY.out XB.out (gb_lt XB.out))
                              clear t0 e0 e1 e2 e3 e4
                              cases sb with
                              | true =>
                                have HN := Lib.hid (take_any_next (x := y) HANY.out HY.out)
                                go_wp2_with fail
                                go_roundw
                                case rel => exact ⟨i + 1, true, rfl, by go_num, by omega, Lib.hid (by rw [HN.out]; rfl), BY⟩
                                case measure => simp [intOf] <;> omega
                              | false =>
                                have HN := Lib.hid (take_any_next (x := y) HANY.out HY.out)
                                cases hq : y.peer.toList == x.via.toList with
                                | true =>
                                  go_wp2_with fail
                                  go_roundw
                                  case rel => exact ⟨i + 1, true, rfl, by go_num, by omega, Lib.hid (by rw [HN.out, hq]; rfl), BY⟩
                                  case measure => simp [intOf] <;> omega
                                | false =>
                                  go_wp2_with fail
                                  go_roundw
                                  case rel => exact ⟨i + 1, false, rfl, by go_num, by omega, Lib.hid (by rw [HN.out, hq]; rfl), BY⟩
                                  case measure => simp [intOf] <;> omega
                            · obtain rfl : r.links.l.length = i := by omega
                              have HPB : Hid ((peerL r.links.l x.via).isSome = sb) := Lib.hid (by rw [peerL_some]; have := HANY.out; rwa [List.take_length] at this)
                              have BK := Lib.hid (gb_trans BB.out HBI.out)
                              have HBK := Lib.hid (gb_trans HB3.out HBI.out)
                              have XK := Lib.hid (gb_blk HBI.out XB.out (gb_lt XB.out))
                              have RK := Lib.hid (gb_blk HBI.out XR.out (gb_lt XR.out))
                              obtain ⟨wk, hwk⟩ : ∃ W2, W2 = wr := ⟨_, rfl⟩
                              subst hwk
                              clear HBI HANY
                              cases sb with
                              | false =>
                                have HF2 : Hid (cfgBad c = some (3, x.at_)) := Lib.hid (HK.out _ (by unfold rtBad; rw [HDP.out, HL0.out, show waysBad r.links.l [] r.stats.l = some (3, x.at_) from by rw [← HD.out, waysBad_drop HX.out, if_neg (by rw [HPB.out]; simp)]]; rfl))
                                obtain ⟨z0, z1, z2, z3⟩ := gb_cells4 XK.out
                                go_upto_region 65 with fail
                                go_quiet (fail)
                                go_wp2_with fail
                                go_ret2
                                exact ⟨by unfold wrongV; rw [HF2.out]; rfl, gb_drewN BK.out _⟩
                              | true =>
                                obtain ⟨q0, q1, q2, q3, q4⟩ := gb_cells5 RK.out
                                rw [HAL.out] at q3
                                go_wp2_with fail
                                clear q0 q1 q2 q3 q4 i0 i1
                                go_loopw [228] (fun j wr => ∃ i : Nat, j = .int .i64 i ∧ i ≤ k ∧ Hid (((r.stats.l.take i).any fun s => decide (s.px = x.px)) = false) ∧ Hid (Below wk.heap.size wk wr)) (fun j _ => k - (intOf j).toNat)
                                case atStart => exact ⟨0, rfl, by omega, Lib.hid rfl, Lib.hid (Below.refl _ _)⟩
                                case round =>
                                  obtain ⟨i, rfl, hi, HANY, HBI⟩ := hrel
                                  have BW := Lib.hid (gb_trans BK.out HBI.out)
                                  by_cases hlti : i < k
                                  · obtain ⟨y, hy⟩ : ∃ y, r.stats.l[i]? = some y := ⟨_, List.getElem?_eq_getElem (by omega)⟩
                                    have HY := Lib.hid hy
                                    obtain ⟨e0, e1, e2, e3⟩ := st_cells (HCL.out _ BW.out _ _ hy)
                                    clear hy
                                    go_upto_region 69 with fail
                                    have t0 := gb_new wr (.cells #[.int .u32 y.px.addr, .int .i64 y.px.bits, .string y.via, .int .i64 y.at_] 70)
                                    have hbq := gb_alloc (Below.refl wr.heap.size wr) (.cells #[.int .u32 y.px.addr, .int .i64 y.px.bits, .string y.via, .int .i64 y.at_] 70)
                                    obtain ⟨yb, hyb⟩ : ∃ n, n = wr.heap.size := ⟨_, rfl⟩
                                    rw [← hyb] at t0 ⊢
                                    generalize wr.alloc (.cells #[.int .u32 y.px.addr, .int .i64 y.px.bits, .string y.via, .int .i64 y.at_] 70) = wy at *
                                    have BY := Lib.hid (gb_trans HBI.out hbq)
                                    clear hbq hyb
                                    obtain ⟨z0, z1, z2, z3⟩ := gb_cells4 t0
                                    obtain ⟨y0, y1, y2, y3⟩ := gb_cells4 (gb_blk BY.out XK.out (gb_lt XK.out))

                                    clear t0 e0 e1 e2 e3
                                    cases hq : decide (y.px = x.px) with
                                    | true =>
                                      have HF2 : Hid (cfgBad c = some (4, x.at_)) := Lib.hid (HK.out _ (by unfold rtBad; rw [HDP.out, HL0.out, show waysBad r.links.l [] r.stats.l = some (4, x.at_) from by rw [← HD.out, waysBad_drop HX.out, if_pos HPB.out, if_pos (by rw [List.any_map]; exact take_any_found HY.out hlti hq)]]; rfl))
                                      have HE := fun w d => eq_pxD w d y.px x.px
                                      rw [hq] at HE
                                      go_upto_region 70 with fail
                                      go_quiet (fail)
                                      go_wp2_with fail
                                      go_ret2
                                      exact ⟨by unfold wrongV; rw [HF2.out]; rfl, gb_drewN (gb_trans BK.out BY.out) _⟩
                                    | false =>
                                      have HN := Lib.hid (take_any_next (x := y) HANY.out HY.out)
                                      have HE := fun w d => eq_pxD w d y.px x.px
                                      rw [hq] at HE
                                      go_wp2_with fail
                                      go_roundw
                                      case rel => exact ⟨i + 1, by go_num, by omega, Lib.hid (by rw [HN.out, hq]; rfl), BY⟩
                                      case measure => simp [intOf] <;> omega
                                  · obtain rfl : k = i := by omega
                                    have HSN : Hid ((((r.stats.l.take k).map (·.px)).any fun s => decide (s = x.px)) = false) := Lib.hid (by rw [List.any_map]; exact HANY.out)
                                    have HN : Hid (waysBad r.links.l ((r.stats.l.take (k + 1)).map (·.px)) (r.stats.l.drop (k + 1)) = waysBad r.links.l [] r.stats.l) := Lib.hid (by
                                      rw [take_map_succ HX.out, ← HD.out, waysBad_drop HX.out, if_pos HPB.out, if_neg (by rw [HSN.out]; simp)])
                                    have HBN := Lib.hid (gb_trans HBK.out HBI.out)
                                    go_wp2_with fail
                                    go_roundw
                                    case rel => exact ⟨k + 1, by go_num, by omega, HN, HBN⟩
                                    case measure => simp [intOf] <;> omega
                        · obtain rfl : r.stats.l.length = k := by omega
                          have HW0 : Hid (waysBad r.links.l [] r.stats.l = none) := Lib.hid (by rw [← HD.out, List.drop_of_length_le (Nat.le_refl _)]; rfl)
                          have HN := Lib.hid (HK2.out (by unfold rtBad; rw [HDP.out, HL0.out, HW0.out]; rfl))
                          have HBN := Lib.hid (gb_trans HBF.out HB.out)
                          clear HD HB
                          go_wp2_with fail
                          go_roundw
                          case rel => exact ⟨n + 1, by go_num, by omega, HN, HBN⟩
                          case measure => simp [intOf] <;> omega
            · obtain rfl : c.rts.l.length = n := by omega
              have HF2 : Hid (cfgBad c = none) := Lib.hid (by rw [HF.out, ← HD.out, List.drop_of_length_le (Nat.le_refl _)]; rfl)
              go_wp2_with fail
              go_ret2
              exact ⟨by unfold wrongV; rw [HF2.out]; rfl, gb_trans B2.out HB.out⟩
end Go.Proofs.YteciceelinbfoaaDoor
