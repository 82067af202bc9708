import Derived.Test.YteciceelinbfoaaDoorPe
import Derived.Test.YteciceelinbfoaaDoorRdc
set_option linter.unusedVariables false
namespace Go.Proofs.YteciceelinbfoaaDoor
open Go.RowKit Mq

def optL (o : Option LkV) : LkV := o.getD noLk
set_option maxRecDepth 100000 in
set_option maxHeartbeats 8000000 in
theorem walk_CheckPeer (r : RtV) (nm : ByteArray) (s : ShV) (k8 : Nat) (w : World) (hr : RtOk w r) (hs : ShOk w s) (hk8 : k8 < 256) (hG : ErrG w) :
    Calls Tryd.prog 6 #[.agg (rtc r).toArray, .string nm, .agg (shc s).toArray, .int .u8 k8] w fun e w' => e = .returned (.bool true) ∧ Below w.heap.size w w' := by
  unfold rtc shc slv
  have HR := Lib.hid hr
  have HS := Lib.hid hs
  have HG := Lib.hid hG
  have hll := hr.links.len_le
  clear hr hs hG
  go_enter Tryd.func6, Tryd.ntmps6
  go_wp2_with fail
  have b0 := gb_old _ (.cells #[.int .u8 s.n, .slice s.links.A s.links.l.length s.links.cap, .slice s.maps.A s.maps.l.length s.maps.cap, .slice s.names.A s.names.l.length s.names.cap, .slice s.nets.A s.nets.l.length s.nets.cap, .slice s.ways.A s.ways.l.length s.ways.cap] 25) (gb_new w (.cells #[.string r.name, .slice r.nets.A r.nets.l.length r.nets.cap, .slice r.links.A r.links.l.length r.links.cap, .slice r.stats.A r.stats.l.length r.stats.cap, .int .i64 r.at_] 48))
  have b1 := gb_new (w.alloc (.cells #[.string r.name, .slice r.nets.A r.nets.l.length r.nets.cap, .slice r.links.A r.links.l.length r.links.cap, .slice r.stats.A r.stats.l.length r.stats.cap, .int .i64 r.at_] 48)) (.cells #[.int .u8 s.n, .slice s.links.A s.links.l.length s.links.cap, .slice s.maps.A s.maps.l.length s.maps.cap, .slice s.names.A s.names.l.length s.names.cap, .slice s.nets.A s.nets.l.length s.nets.cap, .slice s.ways.A s.ways.l.length s.ways.cap] 25)
  simp only [World.size_alloc] at b1
  have hb0 := gb_alloc (gb_alloc (Below.refl w.heap.size w) (.cells #[.string r.name, .slice r.nets.A r.nets.l.length r.nets.cap, .slice r.links.A r.links.l.length r.links.cap, .slice r.stats.A r.stats.l.length r.stats.cap, .int .i64 r.at_] 48)) (.cells #[.int .u8 s.n, .slice s.links.A s.links.l.length s.links.cap, .slice s.maps.A s.maps.l.length s.maps.cap, .slice s.names.A s.names.l.length s.names.cap, .slice s.nets.A s.nets.l.length s.nets.cap, .slice s.ways.A s.ways.l.length s.ways.cap] 25)
  generalize (w.alloc (.cells #[.string r.name, .slice r.nets.A r.nets.l.length r.nets.cap, .slice r.links.A r.links.l.length r.links.cap, .slice r.stats.A r.stats.l.length r.stats.cap, .int .i64 r.at_] 48)).alloc (.cells #[.int .u8 s.n, .slice s.links.A s.links.l.length s.links.cap, .slice s.maps.A s.maps.l.length s.maps.cap, .slice s.names.A s.names.l.length s.names.cap, .slice s.nets.A s.nets.l.length s.nets.cap, .slice s.ways.A s.ways.l.length s.ways.cap] 25) = W0 at *
  refine (awake09 _ (HG.out.below hb0)).mono ?_
  rintro en w1 ⟨rfl, hb⟩
  have T0 := Lib.hid (gb_blk hb b0 (gb_lt b0))
  have T1 := Lib.hid (gb_blk hb b1 (gb_lt b1))
  have B1 := Lib.hid (gb_trans hb0 hb)
  clear hb0 hb b0 b1
  go_upto_region 4 with fail
  have t0 := gb_new w1 (.cells #[.string ⟨#[]⟩, .int .i64 0, .string ⟨#[]⟩, .string ⟨#[]⟩, .int .i64 0] 50)
  have hbq := gb_alloc (Below.refl w1.heap.size w1) (.cells #[.string ⟨#[]⟩, .int .i64 0, .string ⟨#[]⟩, .string ⟨#[]⟩, .int .i64 0] 50)
  obtain ⟨qb, hqb⟩ : ∃ n, n = w1.heap.size := ⟨_, rfl⟩
  have hlq : w.heap.size + 1 < qb := by rw [hqb]; exact gb_lt T1.out
  rw [← hqb] at t0 ⊢
  generalize w1.alloc (.cells #[.string ⟨#[]⟩, .int .i64 0, .string ⟨#[]⟩, .string ⟨#[]⟩, .int .i64 0] 50) = w2 at *
  have X2 := Lib.hid t0
  have HQB := Lib.hid hqb
  have R2 := Lib.hid (gb_blk hbq T0.out (gb_lt T0.out))
  have S2 := Lib.hid (gb_blk hbq T1.out (gb_lt T1.out))
  have B2 := Lib.hid (gb_trans B1.out hbq)
  clear t0 hbq hqb
  obtain ⟨y0, y1, y2, y3, y4⟩ := gb_cells5 R2.out
  go_wp2_with fail
  clear y0 y1 y2 y3 y4
  go_loopw [10, 25] (fun f j wr => ∃ (i : Nat) (bb : Bool) (q : LkV), j = .int .i64 i ∧ i ≤ r.links.l.length ∧ f = .bool bb ∧ Hid (bb = (peerL (r.links.l.take i) nm).isSome) ∧ Hid (q = (peerL (r.links.l.take i) nm).getD noLk) ∧ Hid (wr.heap[qb]? = some (.cells #[.string q.peer, .int .i64 q.cost, .string q.imp, .string q.exp, .int .i64 q.at_] 50)) ∧ Hid (wr.heap[w.heap.size]? = some (.cells #[.string r.name, .slice r.nets.A r.nets.l.length r.nets.cap, .slice r.links.A r.links.l.length r.links.cap, .slice r.stats.A r.stats.l.length r.stats.cap, .int .i64 r.at_] 48)) ∧ Hid (wr.heap[w.heap.size + 1]? = some (.cells #[.int .u8 s.n, .slice s.links.A s.links.l.length s.links.cap, .slice s.maps.A s.maps.l.length s.maps.cap, .slice s.names.A s.names.l.length s.names.cap, .slice s.nets.A s.nets.l.length s.nets.cap, .slice s.ways.A s.ways.l.length s.ways.cap] 25)) ∧ Hid (Below w.heap.size w wr)) (fun _ j _ => r.links.l.length - (intOf j).toNat)
  case atStart => exact ⟨0, false, noLk, rfl, by omega, rfl, Lib.hid rfl, Lib.hid rfl, X2, R2, S2, B2⟩
  case round =>
    obtain ⟨i, bb, q, rfl, hi, rfl, HBB, HQ, X3, R3, S3, B3⟩ := hrel
    by_cases hlt : i < r.links.l.length
    · obtain ⟨x, hx⟩ : ∃ x, r.links.l[i]? = some x := ⟨_, List.getElem?_eq_getElem hlt⟩
      obtain ⟨b, off, hA, hbb, e0, e1, e2, e3, e4⟩ := lks_get (HR.out.below B3.out).links.at_ hx
      have HX := Lib.hid hx
      have HA := Lib.hid hA
      rw [hA]
      clear hx hA
      go_upto_region 7 with fail
      have t0 := gb_new wr (.cells #[.string x.peer, .int .i64 x.cost, .string x.imp, .string x.exp, .int .i64 x.at_] 50)
      have hbq := gb_alloc (Below.refl wr.heap.size wr) (.cells #[.string x.peer, .int .i64 x.cost, .string x.imp, .string x.exp, .int .i64 x.at_] 50)
      obtain ⟨xb, hxb⟩ : ∃ n, n = wr.heap.size := ⟨_, rfl⟩
      have hqx : qb < xb := by rw [hxb]; exact gb_lt X3.out
      rw [← hxb] at t0 ⊢
      generalize wr.alloc (.cells #[.string x.peer, .int .i64 x.cost, .string x.imp, .string x.exp, .int .i64 x.at_] 50) = wa at *
      have XA := Lib.hid t0
      have X4 := Lib.hid (gb_blk hbq X3.out (gb_lt X3.out))
      have R4 := Lib.hid (gb_blk hbq R3.out (gb_lt R3.out))
      have S4 := Lib.hid (gb_blk hbq S3.out (gb_lt S3.out))
      have B4 := Lib.hid (gb_trans B3.out hbq)
      obtain ⟨z0, z1, z2, z3, z4⟩ := gb_cells5 t0
      clear t0 hbq e0 e1 e2 e3 e4 hxb
      have HPT := Lib.hid (peer_take (nm := nm) HX.out)
      cases hq : x.peer.toList == nm.toList with
      | false =>
        have HN1 : Hid (bb = (peerL (r.links.l.take (i + 1)) nm).isSome) := Lib.hid (by rw [HPT.out, hq, HBB.out]; simp)
        have HN2 : Hid (q = (peerL (r.links.l.take (i + 1)) nm).getD noLk) := Lib.hid (by rw [HPT.out, hq, HQ.out]; simp)
        go_wp2_with fail
        go_roundw
        case rel => exact ⟨i + 1, bb, q, by go_num, by omega, rfl, HN1, HN2, X4, by rw [← HA.out]; exact R4, S4, B4⟩
        case measure => simp [intOf] <;> omega
      | true =>
        cases bb with
        | true =>
          have hso := HBB.out
          obtain ⟨y, hy⟩ := Option.isSome_iff_exists.1 hso.symm
          have HN1 : Hid (true = (peerL (r.links.l.take (i + 1)) nm).isSome) := Lib.hid (by rw [HPT.out, hy]; rfl)
          have HN2 : Hid (q = (peerL (r.links.l.take (i + 1)) nm).getD noLk) := Lib.hid (by rw [HPT.out, HQ.out, hy]; rfl)
          clear hso hy
          go_wp2_with fail
          go_roundw
          case rel => exact ⟨i + 1, true, q, by go_num, by omega, rfl, HN1, HN2, X4, by rw [← HA.out]; exact R4, S4, B4⟩
          case measure => simp [intOf] <;> omega
        | false =>
          have hno : peerL (r.links.l.take i) nm = none := by have := HBB.out; simpa using this.symm
          have HN1 : Hid (true = (peerL (r.links.l.take (i + 1)) nm).isSome) := Lib.hid (by rw [HPT.out, hno, hq]; rfl)
          have HN2 : Hid (x = (peerL (r.links.l.take (i + 1)) nm).getD noLk) := Lib.hid (by rw [HPT.out, hno, hq]; rfl)
          clear hno
          obtain ⟨c0, c1, c2, c3, c4⟩ := gb_cells5 X4.out
          have f0 := gb_free X4.out 0
          have f1 := gb_free X4.out 1
          have f2 := gb_free X4.out 2
          have f3 := gb_free X4.out 3
          have f4 := gb_free X4.out 4
          go_wp2_with fail
          have hE : (((((wa.setCell ⟨qb, 0, none⟩ (.string x.peer)).setCell ⟨qb, 1, none⟩ (.int .i64 x.cost)).setCell ⟨qb, 2, none⟩ (.string x.imp)).setCell ⟨qb, 3, none⟩ (.string x.exp)).setCell ⟨qb, 4, none⟩ (.int .i64 x.at_)).heap[qb]? = some (.cells #[.string x.peer, .int .i64 x.cost, .string x.imp, .string x.exp, .int .i64 x.at_] 50) := by
            simpa using gb_set (gb_set (gb_set (gb_set (gb_set X4.out 0 (.string x.peer)) 1 (.int .i64 x.cost)) 2 (.string x.imp)) 3 (.string x.exp)) 4 (.int .i64 x.at_)
          have hfar : ∀ (b : Nat) (o : Obj), b ≠ qb → wa.heap[b]? = some o → (((((wa.setCell ⟨qb, 0, none⟩ (.string x.peer)).setCell ⟨qb, 1, none⟩ (.int .i64 x.cost)).setCell ⟨qb, 2, none⟩ (.string x.imp)).setCell ⟨qb, 3, none⟩ (.string x.exp)).setCell ⟨qb, 4, none⟩ (.int .i64 x.at_)).heap[b]? = some o := fun b o hne h => gb_far (gb_far (gb_far (gb_far (gb_far h hne _) hne _) hne _) hne _) hne _
          have hr' := hfar _ _ (by omega) R4.out
          have hs' := hfar _ _ (by omega) S4.out
          have hb' : Below w.heap.size w (((((wa.setCell ⟨qb, 0, none⟩ (.string x.peer)).setCell ⟨qb, 1, none⟩ (.int .i64 x.cost)).setCell ⟨qb, 2, none⟩ (.string x.imp)).setCell ⟨qb, 3, none⟩ (.string x.exp)).setCell ⟨qb, 4, none⟩ (.int .i64 x.at_)) := by
            repeat (refine Below.setCell ?_ (by simp; omega) _)
            exact B4.out
          clear hfar c0 c1 c2 c3 c4 f0 f1 f2 f3 f4
          go_roundw
          case rel => exact ⟨i + 1, true, x, by go_num, by omega, rfl, HN1, HN2, Lib.hid hE, by rw [← HA.out]; exact Lib.hid hr', Lib.hid hs', Lib.hid hb'⟩
          case measure => simp [intOf] <;> omega
    · obtain rfl : r.links.l.length = i := by omega
      have HBF : Hid (bb = (peerL r.links.l nm).isSome) := Lib.hid (by have := HBB.out; rwa [List.take_length] at this)
      have HQF : Hid (q = (peerL r.links.l nm).getD noLk) := Lib.hid (by have := HQ.out; rwa [List.take_length] at this)
      obtain ⟨y0, y1, y2, y3, y4⟩ := gb_cells5 R3.out
      go_wp2_with fail
      refine (peer_any2 r nm wr (HR.out.below B3.out).links).mono ?_
      rintro en w5 ⟨q', hq', rfl, hb⟩
      obtain rfl : q = q' := HQF.out.trans hq'.symm
      rw [← HBF.out]
      have X5 := Lib.hid (gb_blk hb X3.out (gb_lt X3.out))
      have S5 := Lib.hid (gb_blk hb S3.out (gb_lt S3.out))
      have B5 := Lib.hid (gb_trans B3.out hb)
      clear hb hq' y0 y1 y2 y3 y4
      have HE := fun w d => eq_lk w d q
      unfold lkv at HE
      go_upto_region 11 with fail
      have t5 := gb_old w5 (.cells #[.string q.peer, .int .i64 q.cost, .string q.imp, .string q.exp, .int .i64 q.at_] 50) S5.out
      have t6 := gb_old w5 (.cells #[.string q.peer, .int .i64 q.cost, .string q.imp, .string q.exp, .int .i64 q.at_] 50) X5.out
      have t7 := gb_new w5 (.cells #[.string q.peer, .int .i64 q.cost, .string q.imp, .string q.exp, .int .i64 q.at_] 50)
      have hb5 := gb_trans B5.out (gb_alloc (Below.refl w5.heap.size w5) (.cells #[.string q.peer, .int .i64 q.cost, .string q.imp, .string q.exp, .int .i64 q.at_] 50))
      obtain ⟨zb, hzb⟩ : ∃ n, n = w5.heap.size := ⟨_, rfl⟩
      rw [← hzb] at t7 ⊢
      generalize w5.alloc (.cells #[.string q.peer, .int .i64 q.cost, .string q.imp, .string q.exp, .int .i64 q.at_] 50) = w6 at *
      obtain ⟨c0, c1, c2, c3, c4⟩ := gb_cells5 t6
      obtain ⟨d0, d1, d2, d3, d4⟩ := gb_cells5 t7
      have T5 := Lib.hid t5
      have HB5 := Lib.hid hb5
      clear t5 t6 t7 hb5 hzb
      go_upto_region 13 with fail
      have t5 := T5.out
      have hb5 := HB5.out
      clear HE c0 c1 c2 c3 c4 d0 d1 d2 d3 d4
      have S6 := Lib.hid t5
      have B6 := Lib.hid hb5
      clear t5 hb5
      obtain ⟨s0, s1, s2, s3, s4, s5⟩ := gb_cells6 S6.out
      go_wp2_with fail
      refine (shape_any s _ (HS.out.below B6.out)).mono ?_
      rintro en w7 ⟨c, rfl, hc, hsp, hb⟩
      have HC := Lib.hid hc
      have hcl := hc.rts.len_le
      have B7 := Lib.hid (gb_trans B6.out hb)
      clear hc hsp hb s0 s1 s2 s3 s4 s5
      obtain ⟨kk, hkk⟩ : ∃ kk, kk = k8 % 8 := ⟨_, rfl⟩
      have hkk8 : kk < 8 := by omega
      have ek1 : (k8 : Int) % 8 = (kk : Int) := by omega
      have ek2 : (k8 : Int).tmod 8 = (kk : Int) := by rw [Int.tmod_eq_emod_of_nonneg (by omega)]; omega
      have ek3 : IntKind.u8.wrap (kk : Int) = (kk : Int) := by simp [IntKind.wrap, IntKind.bits, IntKind.signed]; omega
      have ek4 : IntKind.i64.wrap (kk : Int) = (kk : Int) := by rw [IntKind.wrap_i64]; omega
      have EK1 := Lib.hid ek1; have EK2 := Lib.hid ek2; have EK3 := Lib.hid ek3; have EK4 := Lib.hid ek4
      have hnm : ∃ nm8, ∀ wx, Calls Tryd.prog 16 #[.int .i64 kk] wx fun e w' => e = .returned (.string nm8) ∧ w' = wx := ⟨_, fun wx => name_any kk hkk8 wx⟩
      obtain ⟨nm8, hnm⟩ := hnm
      have HNM := Lib.hid hnm
      have hfl := fun w => field_cfg w c.maps.A c.rts.A c.maps.l.length c.rts.l.length c.maps.cap c.rts.cap
      clear hkk ek1 ek2 ek3 ek4 hnm
      go_wp2_with fail
      clear hfl
      go_loopw [57] (fun j wr => ∃ i : Nat, j = .int .i64 i ∧ i ≤ c.rts.l.length ∧ Hid (Below w7.heap.size w7 wr)) (fun j _ => c.rts.l.length - (intOf j).toNat)
      case atStart => exact ⟨0, rfl, by omega, Lib.hid (Below.refl _ _)⟩
      case round =>
        obtain ⟨i, rfl, hi, HB⟩ := hrel
        by_cases hlt : i < c.rts.l.length
        · obtain ⟨u, hx⟩ : ∃ u, c.rts.l[i]? = some u := ⟨_, List.getElem?_eq_getElem hlt⟩
          have HC2 := Lib.hid (HC.out.below HB.out)
          have HU := Lib.hid (HC2.out.rts.ok u (List.mem_of_getElem? hx))
          obtain ⟨b, off, hA, hbb, e0, e1, e2, e3, e4⟩ := rts_get HC2.out.rts.at_ hx
          rw [hA]
          clear hx hA
          go_upto_region 16 with fail
          have t0 := gb_new wr (.cells #[.string u.name, .slice u.nets.A u.nets.l.length u.nets.cap, .slice u.links.A u.links.l.length u.links.cap, .slice u.stats.A u.stats.l.length u.stats.cap, .int .i64 u.at_] 48)
          have hbq := gb_alloc (Below.refl wr.heap.size wr) (.cells #[.string u.name, .slice u.nets.A u.nets.l.length u.nets.cap, .slice u.links.A u.links.l.length u.links.cap, .slice u.stats.A u.stats.l.length u.stats.cap, .int .i64 u.at_] 48)
          obtain ⟨ux, hux⟩ : ∃ n, n = wr.heap.size := ⟨_, rfl⟩
          rw [← hux] at t0 ⊢
          generalize wr.alloc (.cells #[.string u.name, .slice u.nets.A u.nets.l.length u.nets.cap, .slice u.links.A u.links.l.length u.links.cap, .slice u.stats.A u.stats.l.length u.stats.cap, .int .i64 u.at_] 48) = wa at *
          have XU := Lib.hid t0
          have HBA := Lib.hid (gb_trans HB.out hbq)
          have HL := Lib.hid (HU.out.below hbq).links
          clear t0 hbq hux e0 e1 e2 e3 e4
          go_cut [17, 18] (fun p g wx => ∃ (ub : Nat) (q2 : LkV), p = .pointer (some ⟨ub, 0, none⟩) ∧ g = .bool (peerL u.links.l nm8).isSome ∧ Hid (q2 = (peerL u.links.l nm8).getD noLk) ∧ Hid (wx.heap[ub]? = some (.cells #[.string q2.peer, .int .i64 q2.cost, .string q2.imp, .string q2.exp, .int .i64 q2.at_] 50)) ∧ Hid (Below wa.heap.size wa wx))
          case first =>
            have hS : ∀ w', Below wa.heap.size wa w' → w'.cell? ⟨ux, 0, none⟩ = some (.string u.name) ∧ w'.cell? ⟨ux, 1, none⟩ = some (.slice u.nets.A u.nets.l.length u.nets.cap) ∧ w'.cell? ⟨ux, 2, none⟩ = some (.slice u.links.A u.links.l.length u.links.cap) ∧ w'.cell? ⟨ux, 3, none⟩ = some (.slice u.stats.A u.stats.l.length u.stats.cap) ∧ w'.cell? ⟨ux, 4, none⟩ = some (.int .i64 u.at_) := fun w' hb => gb_cells5 (gb_blk hb XU.out (gb_lt XU.out))
            have HSS := Lib.hid hS
            clear hS
            have BD := Lib.hid ((Below.refl wa.heap.size wa).drew)
            obtain ⟨s0, s1, s2, s3, s4⟩ := HSS.out _ BD.out
            have ek1 := EK1.out; have ek2 := EK2.out; have ek3 := EK3.out; have ek4 := EK4.out
            go_region_held3 (fun w' => w'.cell? ⟨ux, 0, none⟩ = some (.string u.name) ∧ w'.cell? ⟨ux, 1, none⟩ = some (.slice u.nets.A u.nets.l.length u.nets.cap) ∧ w'.cell? ⟨ux, 2, none⟩ = some (.slice u.links.A u.links.l.length u.links.cap) ∧ w'.cell? ⟨ux, 3, none⟩ = some (.slice u.stats.A u.stats.l.length u.stats.cap) ∧ w'.cell? ⟨ux, 4, none⟩ = some (.int .i64 u.at_))
              (first | exact HSS.out _ (by repeat (with_reducible first | exact BD.out | exact B8.out | exact Below.refl _ _ | refine gb_alloc ?_ _ | refine Below.drew ?_ | refine Below.setCell ?_ (by simp <;> omega) _)) | fail)
              (first
                | (go_at_call 16; (with_reducible refine (HNM.out _).mono ?_); rintro en w8 ⟨rfl, hw8⟩; subst w8)
                | (go_at_call 15; refine (peer_any2 u nm8 _ (slok_below HL.out (by repeat (with_reducible first | exact BD.out | exact Below.refl _ _ | refine gb_alloc ?_ _ | refine Below.drew ?_)) (fun _ h => h))).mono ?_; rintro en w8 ⟨q2, hq2, rfl, hb8⟩; have HQ2 := Lib.hid hq2; have B8 := Lib.hid (gb_trans (show Below wa.heap.size wa _ by repeat (with_reducible first | exact BD.out | exact Below.refl _ _ | refine gb_alloc ?_ _ | refine Below.drew ?_)) hb8); (first | (have t8 := gb_blk hb8 (gb_new wa (.cells #[.string ⟨#[]⟩, .int .i64 0, .string ⟨#[]⟩, .string ⟨#[]⟩, .int .i64 0] 50)) (by simp <;> omega); have T8 := Lib.hid t8; obtain ⟨c0, c1, c2, c3, c4⟩ := gb_cells5 t8; have g0 := gb_free t8 0; have g1 := gb_free t8 1; have g2 := gb_free t8 2; have g3 := gb_free t8 3; have g4 := gb_free t8 4; have l8 := gb_lt t8; clear t8) | skip); have z8 := B8.out.size; clear hb8 hq2)
                | fail)
            all_goals (go_wp2_with fail; go_meet)
            all_goals (refine ⟨_, q2, rfl, rfl, HQ2, Lib.hid ?_, Lib.hid ?_⟩)
            all_goals (first | (with_reducible exact gb_new _ _) | ((repeat (with_reducible first | exact B8.out | refine gb_alloc ?_ _ | refine Below.setCell ?_ (by first | omega | (simp <;> omega)) _)); done) | (have t9 := gb_set (gb_set (gb_set (gb_set (gb_set T8.out 0 (.string q2.peer)) 1 (.int .i64 q2.cost)) 2 (.string q2.imp)) 3 (.string q2.exp)) 4 (.int .i64 q2.at_); simp at t9; exact t9) | fail)
          case rest =>
            obtain ⟨ub, q2, rfl, rfl, HQ2, XQ, HB8⟩ := hcut
            have HBN := Lib.hid (gb_trans HBA.out HB8.out)
            obtain ⟨c0, c1, c2, c3, c4⟩ := gb_cells5 XQ.out
            have ek1 := EK1.out; have ek2 := EK2.out; have ek3 := EK3.out; have ek4 := EK4.out
            cases hso : (peerL u.links.l nm8).isSome with
            | true =>
              obtain ⟨y, hy⟩ := Option.isSome_iff_exists.1 hso
              have hqy : q2 = y := by rw [HQ2.out, hy]; rfl
              have hpe : (q2.peer.toList == nm8.toList) = true := by rw [hqy]; unfold peerL at hy; exact List.find?_some (p := fun x : LkV => x.peer.toList == nm8.toList) hy
              have hpn : (q2.peer.toList != nm8.toList) = false := by rw [bne, hpe]; rfl
              clear hso hy hqy
              go_upto_region 17 with fail
              go_quiet ((go_at_call 16; exact Calls.quiet_of_same (HNM.out _)))
              go_wp2_with fail
              go_roundw
              case rel => exact ⟨i + 1, by go_num, by omega, Lib.hid (gb_drewN HBN.out _)⟩
              case measure => simp [intOf] <;> omega
            | false =>
              have hqy : q2 = noLk := by rw [HQ2.out]; cases hp : peerL u.links.l nm8 with | none => rfl | some y => rw [hp] at hso; cases hso
              have HE := fun w d => eq_lk w d q2
              unfold lkv at HE
              rw [hqy] at HE c0 c1 c2 c3 c4
              simp only [noLk] at HE c0 c1 c2 c3 c4
              clear hso hqy
              go_upto_region 17 with fail
              go_quiet ((go_at_call 16; exact Calls.quiet_of_same (HNM.out _)))
              go_wp2_with fail
              go_roundw
              case rel => exact ⟨i + 1, by go_num, by omega, Lib.hid (gb_drewN HBN.out _)⟩
              case measure => simp [intOf] <;> omega
        · obtain rfl : c.rts.l.length = i := by omega
          go_wp2_with fail
          go_ret
          exact ⟨rt_bool rfl, gb_trans B7.out HB.out⟩
end Go.Proofs.YteciceelinbfoaaDoor
