import Derived.Test.YteciceelinbfoaaDoorLk2
set_option linter.unusedVariables false
namespace Go.Proofs.YteciceelinbfoaaDoor
open Go.RowKit Mq

def errP : Option (Int × Int) → Value
  | none => .nilIface
  | some p => .iface 82 (.agg #[.int .i64 p.1, .int .i64 p.2])
set_option maxRecDepth 100000 in
set_option maxHeartbeats 2000000 in
theorem links_any (c : CfV) (r : RtV) (ms : List ByteArray) (bm bt : Nat) (w : World) (hr : SlOk lkc 5 (fun _ _ => True) w r.links) (hc : SlOk rtc 5 (fun w x => SlOk lkc 5 (fun _ _ => True) w x.links) w c.rts)
    (hbm : w.heap[bm]? = some (sbObj (ms.map fun n => (n, true)))) (hbt : w.heap[bt]? = some (siObj ((c.rts.l.map (·.name)).zipIdx.map fun p => (p.1, (p.2 : Int))))) :
    Calls Tryd.prog 19 #[.agg #[.slice c.maps.A c.maps.l.length c.maps.cap, .slice c.rts.A c.rts.l.length c.rts.cap], .agg #[.string r.name, .slice r.nets.A r.nets.l.length r.nets.cap, .slice r.links.A r.links.l.length r.links.cap, .slice r.stats.A r.stats.l.length r.stats.cap, .int .i64 r.at_], .map (some bm), .map (some bt)] w
      fun e w' => e = .returned (errP (linkBad c.rts.l ms r.name [] r.links.l)) ∧ Below w.heap.size w w' := by
  have HL := Lib.hid hr; have HC := Lib.hid hc; have HBM := Lib.hid hbm; have HBT := Lib.hid hbt
  have hle := hr.len_le
  have hmm := @run_makeMap Tryd.prog
  clear hr hc hbm hbt
  go_enter Tryd.func19, Tryd.ntmps19
  go_wp2_with fail
  have b0 := gb_old _ (.map #[] 0) (gb_old _ (.cells #[.string r.name, .slice r.nets.A r.nets.l.length r.nets.cap, .slice r.links.A r.links.l.length r.links.cap, .slice r.stats.A r.stats.l.length r.stats.cap, .int .i64 r.at_] 48) (gb_new w (.cells #[.slice c.maps.A c.maps.l.length c.maps.cap, .slice c.rts.A c.rts.l.length c.rts.cap] 33)))
  have b1 : (((w.alloc (.cells #[.slice c.maps.A c.maps.l.length c.maps.cap, .slice c.rts.A c.rts.l.length c.rts.cap] 33)).alloc (.cells #[.string r.name, .slice r.nets.A r.nets.l.length r.nets.cap, .slice r.links.A r.links.l.length r.links.cap, .slice r.stats.A r.stats.l.length r.stats.cap, .int .i64 r.at_] 48)).alloc (.map #[] 0)).heap[w.heap.size + 1]? = some (.cells #[.string r.name, .slice r.nets.A r.nets.l.length r.nets.cap, .slice r.links.A r.links.l.length r.links.cap, .slice r.stats.A r.stats.l.length r.stats.cap, .int .i64 r.at_] 48) := gb_old _ (.map #[] 0) (by have := gb_new (w.alloc (.cells #[.slice c.maps.A c.maps.l.length c.maps.cap, .slice c.rts.A c.rts.l.length c.rts.cap] 33)) (.cells #[.string r.name, .slice r.nets.A r.nets.l.length r.nets.cap, .slice r.links.A r.links.l.length r.links.cap, .slice r.stats.A r.stats.l.length r.stats.cap, .int .i64 r.at_] 48); simp only [World.size_alloc] at this; exact this)
  have b2 : (((w.alloc (.cells #[.slice c.maps.A c.maps.l.length c.maps.cap, .slice c.rts.A c.rts.l.length c.rts.cap] 33)).alloc (.cells #[.string r.name, .slice r.nets.A r.nets.l.length r.nets.cap, .slice r.links.A r.links.l.length r.links.cap, .slice r.stats.A r.stats.l.length r.stats.cap, .int .i64 r.at_] 48)).alloc (.map #[] 0)).heap[w.heap.size + 1 + 1]? = some (sbObj []) := (by have := gb_new ((w.alloc (.cells #[.slice c.maps.A c.maps.l.length c.maps.cap, .slice c.rts.A c.rts.l.length c.rts.cap] 33)).alloc (.cells #[.string r.name, .slice r.nets.A r.nets.l.length r.nets.cap, .slice r.links.A r.links.l.length r.links.cap, .slice r.stats.A r.stats.l.length r.stats.cap, .int .i64 r.at_] 48)) (.map #[] 0); simp only [World.size_alloc] at this; exact this)
  have hB := gb_alloc (gb_alloc (gb_alloc (Below.refl w.heap.size w) (.cells #[.slice c.maps.A c.maps.l.length c.maps.cap, .slice c.rts.A c.rts.l.length c.rts.cap] 33)) (.cells #[.string r.name, .slice r.nets.A r.nets.l.length r.nets.cap, .slice r.links.A r.links.l.length r.links.cap, .slice r.stats.A r.stats.l.length r.stats.cap, .int .i64 r.at_] 48)) (.map #[] 0)
  generalize ((w.alloc (.cells #[.slice c.maps.A c.maps.l.length c.maps.cap, .slice c.rts.A c.rts.l.length c.rts.cap] 33)).alloc (.cells #[.string r.name, .slice r.nets.A r.nets.l.length r.nets.cap, .slice r.links.A r.links.l.length r.links.cap, .slice r.stats.A r.stats.l.length r.stats.cap, .int .i64 r.at_] 48)).alloc (.map #[] 0) = W0 at *
  have C0 := Lib.hid b0; have C1 := Lib.hid b1; have C2 := Lib.hid b2; have B0 := Lib.hid hB
  clear b0 b1 b2 hB hmm
  go_loopw [20] (fun j wr => ∃ k : Nat, j = .int .i64 k ∧ k ≤ r.links.l.length ∧ Hid (linkBad c.rts.l ms r.name ((r.links.l.take k).map (·.peer)) (r.links.l.drop k) = linkBad c.rts.l ms r.name [] r.links.l) ∧ wr.heap[w.heap.size]? = some (.cells #[.slice c.maps.A c.maps.l.length c.maps.cap, .slice c.rts.A c.rts.l.length c.rts.cap] 33) ∧ wr.heap[w.heap.size + 1]? = some (.cells #[.string r.name, .slice r.nets.A r.nets.l.length r.nets.cap, .slice r.links.A r.links.l.length r.links.cap, .slice r.stats.A r.stats.l.length r.stats.cap, .int .i64 r.at_] 48) ∧ wr.heap[w.heap.size + 1 + 1]? = some (sbObj (((r.links.l.take k).map (·.peer)).map fun n => (n, true))) ∧ Below w.heap.size w wr) (fun j _ => r.links.l.length - (intOf j).toNat)
  case atStart => exact ⟨0, rfl, by omega, Lib.hid (by simp), C0.out, C1.out, C2.out, B0.out⟩
  case round =>
    obtain ⟨k, rfl, hk, HD, h0, h1, h2, hb⟩ := hrel
    have T0 := Lib.hid h0; have T1 := Lib.hid h1; have T2 := Lib.hid h2; have BQ := Lib.hid hb
    by_cases hlt : k < r.links.l.length
    · obtain ⟨x, hx⟩ : ∃ x, r.links.l[k]? = some x := ⟨_, List.getElem?_eq_getElem hlt⟩
      obtain ⟨b, off, hA, hbb, e0, e1, e2, e3, e4⟩ := lks_get (HL.out.at_.below hb) hx
      have HX := Lib.hid hx
      have q2 := gb_cell h1 2
      simp only [List.getElem?_toArray, List.getElem?_cons_zero, List.getElem?_cons_succ] at q2
      clear hx h0 h1 h2 q2
      have BM := Lib.hid (gb_blk hb HBM.out (gb_lt HBM.out))
      have BT := Lib.hid (gb_blk hb HBT.out (gb_lt HBT.out))
      clear hb
      rw [hA]
      go_upto_region 5 with fail
      have t0 := gb_new wr (.cells #[.string x.peer, .int .i64 x.cost, .string x.imp, .string x.exp, .int .i64 x.at_] 50)
      have hbq := gb_alloc (Below.refl wr.heap.size wr) (.cells #[.string x.peer, .int .i64 x.cost, .string x.imp, .string x.exp, .int .i64 x.at_] 50)
      obtain ⟨xb, hxb⟩ : ∃ n, n = wr.heap.size := ⟨_, rfl⟩
      rw [← hxb] at t0 ⊢
      generalize wr.alloc (.cells #[.string x.peer, .int .i64 x.cost, .string x.imp, .string x.exp, .int .i64 x.at_] 50) = wu at *
      have U0 := Lib.hid (gb_blk hbq T0.out (gb_lt T0.out))
      have U1 := Lib.hid (gb_blk hbq T1.out (gb_lt T1.out))
      have U2 := Lib.hid (gb_blk hbq T2.out (gb_lt T2.out))
      have UM := Lib.hid (gb_blk hbq BM.out (gb_lt BM.out))
      have UT := Lib.hid (gb_blk hbq BT.out (gb_lt BT.out))
      have BU := Lib.hid (gb_trans BQ.out hbq)
      have TX := Lib.hid t0
      obtain ⟨z0, z1, z2, z3, z4⟩ := gb_cells5 t0
      obtain ⟨y0, y1, y2, y3, y4⟩ := gb_cells5 U1.out
      clear t0 hbq e0 e1 e2 e3 e4 hxb
      have lk := si_look wu UT.out x.peer
      have hlk := look_idx x.peer (c.rts.l.map (·.name)) 0
      have HLF := Lib.hid (look_first x.peer c.rts.l 0)
      rw [hlk] at lk
      obtain ⟨gz, hgz⟩ : ∃ z, z = (Mq.look x.peer (((c.rts.l.map (·.name)).zipIdx).map fun p => (p.1, (p.2 : Int)))).getD 0 := ⟨_, rfl⟩
      rw [← hgz] at lk
      have HGZ := Lib.hid hgz
      have l1 := sb_look wu UM.out x.imp
      have l2 := sb_look wu UM.out x.exp
      have hm : ∀ nm, (Mq.look nm (ms.map fun n => (n, true))).getD false = ms.any (fun s => decide (s = nm)) := fun nm => by
        rw [look_names]; cases ms.any (fun s => decide (s = nm)) <;> rfl
      rw [hm] at l1 l2
      clear hlk hgz hm
      have HLB := Lib.hid (linkBad_drop (rts := c.rts.l) (maps := ms) (me := r.name) (seen := (r.links.l.take k).map (·.peer)) HX.out)
      generalize hb1 : (c.rts.l.map (·.name)).any (fun s => decide (s = x.peer)) = B1 at *
      generalize hb2 : ms.any (fun s => decide (s = x.imp)) = B2 at *
      generalize hb3 : ms.any (fun s => decide (s = x.exp)) = B3 at *
      have HB1 := Lib.hid hb1; have HB2 := Lib.hid hb2; have HB3 := Lib.hid hb3
      clear hb1 hb2 hb3
      go_upto_region 6 with fail
      go_cut [31] (fun s wx => s = .bool (!B1 || (x.peer.toList == r.name.toList) || (!x.imp.toList.isEmpty && !B2) || (!x.exp.toList.isEmpty && !B3)) ∧ wx = wu)
      case first =>
        cases B1
        · go_wp2_with fail
          go_meet
          exact ⟨by simp, rfl⟩
        · cases e1 : x.peer.toList == r.name.toList
          · cases i1 : x.imp.toList.isEmpty
            · cases B2
              · go_wp2_with fail
                go_meet
                exact ⟨by simp [*], rfl⟩
              · cases i2 : x.exp.toList.isEmpty <;> cases B3
                all_goals
                  go_wp2_with fail
                  go_meet
                  exact ⟨by simp [*], rfl⟩
            · cases i2 : x.exp.toList.isEmpty <;> cases B3
              all_goals
                go_wp2_with fail
                go_meet
                exact ⟨by simp [*], rfl⟩
          · go_wp2_with fail
            go_meet
            exact ⟨by simp [*], rfl⟩
      case rest =>
        obtain ⟨rfl, rfl⟩ := hcut
        have HBD : Hid ((!(c.rts.l.any fun r => decide (r.name = x.peer)) || (x.peer.toList == r.name.toList) || (!(x.imp.toList.isEmpty) && !(ms.any fun s => decide (s = x.imp))) || (!(x.exp.toList.isEmpty) && !(ms.any fun s => decide (s = x.exp)))) = (!B1 || (x.peer.toList == r.name.toList) || (!x.imp.toList.isEmpty && !B2) || (!x.exp.toList.isEmpty && !B3))) := Lib.hid (by
          rw [← HB1.out, ← HB2.out, ← HB3.out, List.any_map]; rfl)
        generalize hbd : (!B1 || (x.peer.toList == r.name.toList) || (!x.imp.toList.isEmpty && !B2) || (!x.exp.toList.isEmpty && !B3)) = bd at *
        cases bd with
        | true =>
          have HF : Hid (linkBad c.rts.l ms r.name [] r.links.l = some (3, x.at_)) := Lib.hid (by
            rw [← HD.out, HLB.out, linkBad, if_pos (by rw [HBD.out])])
          clear hbd
          go_wp2_with fail
          refine (wrap_any 3 x.at_ _).mono ?_
          rintro en w3 ⟨rfl, rfl⟩
          go_wp2_with fail
          go_ret
          exact ⟨by rw [HF.out]; rfl, BU.out⟩
        | false =>
          have ls := sb_look wc U2.out x.peer
          have hsn : (Mq.look x.peer (((r.links.l.take k).map (·.peer)).map fun n => (n, true))).getD false = ((r.links.l.take k).map (·.peer)).any (fun s => decide (s = x.peer)) := by
            rw [look_names]; cases ((r.links.l.take k).map (·.peer)).any (fun s => decide (s = x.peer)) <;> rfl
          rw [hsn] at ls
          clear hsn
          generalize hsd : ((r.links.l.take k).map (·.peer)).any (fun s => decide (s = x.peer)) = sd at *
          cases sd with
          | true =>
            have HF : Hid (linkBad c.rts.l ms r.name [] r.links.l = some (4, x.at_)) := Lib.hid (by
              rw [← HD.out, HLB.out, linkBad, if_neg (by rw [HBD.out]; simp), if_pos hsd])
            clear hbd hsd
            go_wp2_with fail
            refine (wrap_any 4 x.at_ _).mono ?_
            rintro en w3 ⟨rfl, rfl⟩
            go_wp2_with fail
            go_ret
            exact ⟨by rw [HF.out]; rfl, BU.out⟩
          | false =>
            go_upto_region 10 with fail
            have hB1 : B1 = true := by
              cases B1 with
              | false => simp at hbd
              | true => rfl
            obtain ⟨j, p, hj1, hj2, hj3⟩ := find_at (rts := c.rts.l) (nm := x.peer) (by have := HB1.out; rw [hB1, List.any_map] at this; exact this)
            have hg : gz = (j : Int) := by rw [HGZ.out, HLF.out, hj1]; simp
            subst hg
            have HJ3 := Lib.hid hj3
            have HP := Lib.hid (slok_below (HC.out.ok p (List.mem_of_getElem? hj2)) BU.out (fun _ h => h))
            obtain ⟨b2, off2, hA2, hb2, f0, f1, f2, f3, f4⟩ := rts_get (HC.out.at_.below BU.out) hj2
            have hjl := (List.getElem?_eq_some_iff.1 hj2).1
            have u0 := U0.out
            rw [hA2] at u0
            have hS : ∀ w', Below wc.heap.size wc w' → w'.cell? ⟨w.heap.size, 1, none⟩ = some (.slice (some ⟨b2, off2, none⟩) c.rts.l.length c.rts.cap) ∧ w'.cell? ⟨b2, off2 + j * 5, none⟩ = some (.string p.name) ∧ w'.cell? ⟨b2, off2 + j * 5 + 1, none⟩ = some (.slice p.nets.A p.nets.l.length p.nets.cap) ∧ w'.cell? ⟨b2, off2 + j * 5 + 2, none⟩ = some (.slice p.links.A p.links.l.length p.links.cap) ∧ w'.cell? ⟨b2, off2 + j * 5 + 3, none⟩ = some (.slice p.stats.A p.stats.l.length p.stats.cap) ∧ w'.cell? ⟨b2, off2 + j * 5 + 4, none⟩ = some (.int .i64 p.at_) ∧ w'.cell? ⟨w.heap.size + 1, 0, none⟩ = some (.string r.name) := fun w' hb => by
              have hbs := BU.out.size
              exact ⟨gb_cell (gb_blk hb u0 (gb_lt u0)) 1, (hb.cell (p := ⟨b2, _, none⟩) (by simp; omega)).trans f0, (hb.cell (p := ⟨b2, _, none⟩) (by simp; omega)).trans f1, (hb.cell (p := ⟨b2, _, none⟩) (by simp; omega)).trans f2, (hb.cell (p := ⟨b2, _, none⟩) (by simp; omega)).trans f3, (hb.cell (p := ⟨b2, _, none⟩) (by simp; omega)).trans f4, gb_cell (gb_blk hb U1.out (gb_lt U1.out)) 0⟩
            have HS := Lib.hid hS
            have HJ1 := Lib.hid hj1; have HJ2 := Lib.hid hj2; have HA2 := Lib.hid hA2; have HBD2 := Lib.hid hbd; have HSD := Lib.hid hsd
            have i0 : (0 : Int) ≤ (j : Int) := by omega
            have i1 : (j : Int) < (c.rts.l.length : Int) := by omega
            clear hS hj1 hj2 hj3 hA2 hbd hsd u0 f0 f1 f2 f3 f4 y0 y1 y2 y3 y4 lk l1 l2 ls hB1
            go_cut [15] (fun s wx => s = .bool (peerL p.links.l r.name).isSome ∧ Hid (Below wc.heap.size wc wx))
            case first =>
              have BD := Lib.hid ((Below.refl wc.heap.size wc).drew)
              obtain ⟨s0, s1, s2, s3, s4, s5, s6⟩ := HS.out _ BD.out
              go_region_held3 (fun w' => w'.cell? ⟨w.heap.size, 1, none⟩ = some (.slice (some ⟨b2, off2, none⟩) c.rts.l.length c.rts.cap) ∧ w'.cell? ⟨b2, off2 + j * 5, none⟩ = some (.string p.name) ∧ w'.cell? ⟨b2, off2 + j * 5 + 1, none⟩ = some (.slice p.nets.A p.nets.l.length p.nets.cap) ∧ w'.cell? ⟨b2, off2 + j * 5 + 2, none⟩ = some (.slice p.links.A p.links.l.length p.links.cap) ∧ w'.cell? ⟨b2, off2 + j * 5 + 3, none⟩ = some (.slice p.stats.A p.stats.l.length p.stats.cap) ∧ w'.cell? ⟨b2, off2 + j * 5 + 4, none⟩ = some (.int .i64 p.at_) ∧ w'.cell? ⟨w.heap.size + 1, 0, none⟩ = some (.string r.name))
                (first | exact HS.out _ (by repeat (with_reducible first | exact BD.out | exact B8.out | exact Below.refl _ _ | refine gb_alloc ?_ _ | refine Below.drew ?_ | refine Below.setCell ?_ (by simp <;> omega) _)))
                (first | (go_at_call 15; refine (peer_any2 p r.name _ (slok_below HP.out (by repeat (with_reducible first | exact BD.out | exact Below.refl _ _ | refine gb_alloc ?_ _ | refine Below.drew ?_)) (fun _ h => h))).mono ?_; rintro en w8 ⟨q, HQ, rfl, hb8⟩; have B8 := Lib.hid (gb_trans (show Below wc.heap.size wc _ by repeat (with_reducible first | exact BD.out | exact Below.refl _ _ | refine gb_alloc ?_ _ | refine Below.drew ?_)) hb8); clear HQ; (first | (have t8 := gb_blk hb8 (gb_new wc (.cells #[.string ⟨#[]⟩, .int .i64 0, .string ⟨#[]⟩, .string ⟨#[]⟩, .int .i64 0] 50)) (by simp <;> omega); obtain ⟨c0, c1, c2, c3, c4⟩ := gb_cells5 t8; have g0 := gb_free t8 0; have g1 := gb_free t8 1; have g2 := gb_free t8 2; have g3 := gb_free t8 3; have g4 := gb_free t8 4; have l8 := gb_lt t8; clear t8) | skip); have z8 := B8.out.size; clear hb8))
              all_goals (go_wp2_with fail; go_meet)

              all_goals (refine ⟨rfl, Lib.hid ?_⟩; repeat (with_reducible first | exact B8.out | refine gb_alloc ?_ _ | refine Below.setCell ?_ (by first | omega | (simp <;> omega)) _))
            case rest =>
              obtain ⟨rfl, HB8⟩ := hcut
              have V0 := Lib.hid (gb_blk HB8.out U0.out (gb_lt U0.out))
              have V1 := Lib.hid (gb_blk HB8.out U1.out (gb_lt U1.out))
              have V2 := Lib.hid (gb_blk HB8.out U2.out (gb_lt U2.out))
              have VX := Lib.hid (gb_blk HB8.out TX.out (gb_lt TX.out))
              have BV := Lib.hid (gb_trans BU.out HB8.out)
              clear z0 z1 z2 z3 z4 HS
              obtain ⟨z0, z1, z2, z3, z4⟩ := gb_cells5 VX.out
              cases hbk : (peerL p.links.l r.name).isSome with
              | false =>
                have HF : Hid (linkBad c.rts.l ms r.name [] r.links.l = some (5, x.at_)) := Lib.hid (by
                  rw [← HD.out, HLB.out, linkBad, if_neg (by rw [HBD.out]; simp), if_neg (by rw [HSD.out]; simp), HJ3.out]
                  simp only [hbk]; rfl)
                clear hbk
                go_wp2_with fail
                refine (wrap_any 5 x.at_ _).mono ?_
                rintro en w3 ⟨rfl, rfl⟩
                go_wp2_with fail
                go_ret
                exact ⟨by rw [HF.out]; rfl, BV.out⟩
              | true =>
                have hst := sb_store wc V2.out x.peer
                have hput : Mq.put x.peer true (((r.links.l.take k).map (·.peer)).map fun n => (n, true)) = ((r.links.l.take (k + 1)).map (·.peer)).map fun n => (n, true) := by
                  rw [put_new, List.take_add_one, HX.out]
                  · simp
                  · rw [look_names, HSD.out]; rfl
                rw [hput] at hst
                have HN : Hid (linkBad c.rts.l ms r.name ((r.links.l.take (k + 1)).map (·.peer)) (r.links.l.drop (k + 1)) = linkBad c.rts.l ms r.name [] r.links.l) := Lib.hid (by
                  rw [← HD.out, HLB.out, linkBad, if_neg (by rw [HBD.out]; simp), if_neg (by rw [HSD.out]; simp), HJ3.out]
                  simp only [hbk, if_true]
                  rw [List.take_add_one, HX.out]; simp)
                clear hput hbk
                go_wp2_with fail
                go_roundw
                case rel => exact ⟨k + 1, by go_num, by omega, HN, (setBlock_far (by omega) _).trans V0.out, by rw [← hA]; exact (setBlock_far (by omega) _).trans V1.out, by rw [List.map_map, List.map_take]; exact setBlock_same (gb_lt V2.out) _, gb_setBlock BV.out (by omega) _⟩
                case measure => simp [intOf] <;> omega
    · have hk' : k = r.links.l.length := by omega
      subst hk'
      have HF : Hid (linkBad c.rts.l ms r.name [] r.links.l = none) := Lib.hid (by rw [← HD.out, List.drop_of_length_le (Nat.le_refl _)]; rfl)
      clear hb h0 h1 h2
      go_wp2_with fail
      go_ret
      exact ⟨by rw [HF.out]; rfl, BQ.out⟩
end Go.Proofs.YteciceelinbfoaaDoor
