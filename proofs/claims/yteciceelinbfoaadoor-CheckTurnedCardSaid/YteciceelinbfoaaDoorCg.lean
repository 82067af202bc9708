import Derived.Test.YteciceelinbfoaaDoorCg0
set_option linter.unusedVariables false
namespace Go.Proofs.YteciceelinbfoaaDoor
open Go.RowKit Mq

theorem names_bad1 {c : CfV} {w w' : World} {v1 v2 v3 : Value} {p : Int} (h : NamesIs c w w' v1 v2 v3) (h1 : dupL [] (mapN c) = some p) : v1 = .map none ∧ v2 = .map none ∧ v3 = .iface 82 (.agg #[.int .i64 4, .int .i64 p]) := by
  unfold NamesIs at h; rw [h1] at h; exact h
theorem names_bad2 {c : CfV} {w w' : World} {v1 v2 v3 : Value} {p : Int} (h : NamesIs c w w' v1 v2 v3) (h1 : dupL [] (mapN c) = none) (h2 : dupL [] (rtN c) = some p) : v1 = .map none ∧ v2 = .map none ∧ v3 = .iface 82 (.agg #[.int .i64 4, .int .i64 p]) := by
  unfold NamesIs at h; rw [h1, h2] at h; exact h
theorem names_good {c : CfV} {w w' : World} {v1 v2 v3 : Value} (h : NamesIs c w w' v1 v2 v3) (h1 : dupL [] (mapN c) = none) (h2 : dupL [] (rtN c) = none) : ∃ bm bt, v1 = .map (some bm) ∧ v2 = .map (some bt) ∧ v3 = .nilIface ∧ w.heap.size ≤ bm ∧ w.heap.size ≤ bt ∧ w'.heap[bm]? = some (sbObj ((c.maps.l.map (·.name)).map fun n => (n, true))) ∧ w'.heap[bt]? = some (siObj ((c.rts.l.map (·.name)).zipIdx.map fun p => (p.1, (p.2 : Int)))) := by
  unfold NamesIs at h; rw [h1, h2] at h
  obtain ⟨bm, bt, e1, e2, e3, e4, e5, e6, e7⟩ := h
  exact ⟨bm, bt, e1, e2, e3, e4, e5, by rw [e6, List.map_map]; rfl, e7⟩
set_option maxRecDepth 100000 in
set_option maxHeartbeats 4000000 in
theorem config_any (c : CfV) (w : World) (hc : CfOk w c) :
    Calls Tryd.prog 9 #[.agg #[.slice c.maps.A c.maps.l.length c.maps.cap, .slice c.rts.A c.rts.l.length c.rts.cap]] w
      fun e w' => e = .returned (errP (cfgBad c)) ∧ Below w.heap.size w w' := by
  have HC := Lib.hid hc
  have hle := hc.rts.len_le
  have hmm := @run_makeMap Tryd.prog
  have HMM := Lib.hid hmm
  clear hc hmm
  cases h1 : dupL [] (mapN c) with
  | some p =>
    have H1 := Lib.hid h1
    have HF : Hid (cfgBad c = some (4, p)) := Lib.hid (by unfold cfgBad; rw [h1])
    clear h1
    go_enter Tryd.func9, Tryd.ntmps9
    go_wp2_with fail
    have hb0 := gb_alloc (Below.refl w.heap.size w) (.cells #[.slice c.maps.A c.maps.l.length c.maps.cap, .slice c.rts.A c.rts.l.length c.rts.cap] 33)
    refine (names_any c _ ((HC.out.below hb0).maps) (slok_weak (HC.out.below hb0).rts fun _ _ => trivial)).mono ?_
    rintro en w1 ⟨⟨v1, v2, v3, rfl, hN⟩, hb⟩
    obtain ⟨rfl, rfl, rfl⟩ := names_bad1 hN H1.out
    have BB := Lib.hid (gb_trans hb0 hb)
    clear hN hb hb0
    go_wp2_with fail
    go_ret
    exact ⟨by rw [HF.out]; rfl, BB.out⟩
  | none =>
    cases h2 : dupL [] (rtN c) with
    | some p =>
      have H1 := Lib.hid h1
      have H2 := Lib.hid h2
      have HF : Hid (cfgBad c = some (4, p)) := Lib.hid (by unfold cfgBad; rw [h1, h2])
      clear h1 h2
      go_enter Tryd.func9, Tryd.ntmps9
      go_wp2_with fail
      have hb0 := gb_alloc (Below.refl w.heap.size w) (.cells #[.slice c.maps.A c.maps.l.length c.maps.cap, .slice c.rts.A c.rts.l.length c.rts.cap] 33)
      refine (names_any c _ ((HC.out.below hb0).maps) (slok_weak (HC.out.below hb0).rts fun _ _ => trivial)).mono ?_
      rintro en w1 ⟨⟨v1, v2, v3, rfl, hN⟩, hb⟩
      obtain ⟨rfl, rfl, rfl⟩ := names_bad2 hN H1.out H2.out
      have BB := Lib.hid (gb_trans hb0 hb)
      clear hN hb hb0
      go_wp2_with fail
      go_ret
      exact ⟨by rw [HF.out]; rfl, BB.out⟩
    | none =>
      have H1 := Lib.hid h1
      have H2 := Lib.hid h2
      have HF : Hid (cfgBad c = rtsBad c.rts.l (c.maps.l.map (·.name)) c.rts.l) := Lib.hid (by unfold cfgBad; rw [h1, h2])
      clear h1 h2
      go_enter Tryd.func9, Tryd.ntmps9
      go_wp2_with fail
      have hb0 := gb_alloc (Below.refl w.heap.size w) (.cells #[.slice c.maps.A c.maps.l.length c.maps.cap, .slice c.rts.A c.rts.l.length c.rts.cap] 33)
      have t0 := gb_new w (.cells #[.slice c.maps.A c.maps.l.length c.maps.cap, .slice c.rts.A c.rts.l.length c.rts.cap] 33)
      refine (names_any c _ ((HC.out.below hb0).maps) (slok_weak (HC.out.below hb0).rts fun _ _ => trivial)).mono ?_
      rintro en w1 ⟨⟨v1, v2, v3, rfl, hN⟩, hb⟩
      obtain ⟨bm, bt, rfl, rfl, rfl, hbm, hbt, tm, tt⟩ := names_good hN H1.out H2.out
      have B1 := Lib.hid (gb_trans hb0 hb)
      have T0 := Lib.hid (gb_blk hb t0 (gb_lt t0))
      have TM := Lib.hid tm; have TT := Lib.hid tt
      have HM := Lib.hid hbm; have HT := Lib.hid hbt
      have HC1 := Lib.hid (HC.out.below B1.out)
      clear hN hb hb0 t0 tm tt hbm hbt
      obtain ⟨x0, x1⟩ := gb_cells2 T0.out
      go_wp2_with fail
      clear x0 x1
      go_loopw [29] (fun j wr => ∃ k : Nat, j = .int .i64 k ∧ k ≤ c.rts.l.length ∧ Hid (rtsBad c.rts.l (c.maps.l.map (·.name)) (c.rts.l.drop k) = rtsBad c.rts.l (c.maps.l.map (·.name)) c.rts.l) ∧ Hid (Below w1.heap.size w1 wr)) (fun j _ => c.rts.l.length - (intOf j).toNat)
      case atStart => exact ⟨0, rfl, by omega, Lib.hid rfl, Lib.hid (Below.refl _ _)⟩
      case round =>
        obtain ⟨k, rfl, hk, HD, HB⟩ := hrel
        by_cases hlt : k < c.rts.l.length
        · obtain ⟨r, hx⟩ : ∃ x, c.rts.l[k]? = some x := ⟨_, List.getElem?_eq_getElem hlt⟩
          have HC2 := Lib.hid (HC1.out.below HB.out)
          have HR := Lib.hid (HC2.out.rts.ok r (List.mem_of_getElem? hx))
          have HRD := Lib.hid (rtsBad_drop (rts := c.rts.l) (ms := c.maps.l.map (·.name)) hx)
          obtain ⟨b, off, hA, hbb, e0, e1, e2, e3, e4⟩ := rts_get HC2.out.rts.at_ hx
          have HX := Lib.hid hx
          have HA := Lib.hid hA
          have M0 := Lib.hid (gb_blk HB.out T0.out (gb_lt T0.out))
          have MM := Lib.hid (gb_blk HB.out TM.out (gb_lt TM.out))
          have MT := Lib.hid (gb_blk HB.out TT.out (gb_lt TT.out))
          rw [hA]
          have hmm := HMM.out
          clear hx hA
          go_upto_region 8 with fail
          clear hmm
          have t0 := gb_old _ (.map #[] 0) (gb_new wr (.cells #[.string r.name, .slice r.nets.A r.nets.l.length r.nets.cap, .slice r.links.A r.links.l.length r.links.cap, .slice r.stats.A r.stats.l.length r.stats.cap, .int .i64 r.at_] 48))
          have t1 : ((wr.alloc (.cells #[.string r.name, .slice r.nets.A r.nets.l.length r.nets.cap, .slice r.links.A r.links.l.length r.links.cap, .slice r.stats.A r.stats.l.length r.stats.cap, .int .i64 r.at_] 48)).alloc (.map #[] 0)).heap[wr.heap.size + 1]? = some (pbObj []) := by have := gb_new (wr.alloc (.cells #[.string r.name, .slice r.nets.A r.nets.l.length r.nets.cap, .slice r.links.A r.links.l.length r.links.cap, .slice r.stats.A r.stats.l.length r.stats.cap, .int .i64 r.at_] 48)) (.map #[] 0); simp only [World.size_alloc] at this; exact this
          have hb := gb_trans HB.out (gb_alloc (gb_alloc (Below.refl wr.heap.size wr) (.cells #[.string r.name, .slice r.nets.A r.nets.l.length r.nets.cap, .slice r.links.A r.links.l.length r.links.cap, .slice r.stats.A r.stats.l.length r.stats.cap, .int .i64 r.at_] 48)) (.map #[] 0))
          have HQ : ∀ q, rtBad c.rts.l (c.maps.l.map (·.name)) r = some q → cfgBad c = some q := fun q hq => by rw [HF.out, ← HD.out, HRD.out, hq]; rfl
          have HK := Lib.hid HQ
          have HQ2 : rtBad c.rts.l (c.maps.l.map (·.name)) r = none → rtsBad c.rts.l (c.maps.l.map (·.name)) (c.rts.l.drop (k + 1)) = rtsBad c.rts.l (c.maps.l.map (·.name)) c.rts.l := fun hq => by rw [← HD.out, HRD.out, hq]; rfl
          have HK2 := Lib.hid HQ2
          obtain ⟨rb, hrb⟩ : ∃ n, n = wr.heap.size := ⟨_, rfl⟩
          have hrl : w1.heap.size ≤ rb := by rw [hrb]; exact HB.out.size
          rw [← hrb] at t0 t1 ⊢
          generalize (wr.alloc (.cells #[.string r.name, .slice r.nets.A r.nets.l.length r.nets.cap, .slice r.links.A r.links.l.length r.links.cap, .slice r.stats.A r.stats.l.length r.stats.cap, .int .i64 r.at_] 48)).alloc (.map #[] 0) = wu at *
          have R0 := Lib.hid t0; have N0 := Lib.hid t1; have HBU := Lib.hid hb
          clear t0 t1 hb HQ HQ2 hrb HRD HD e0 e1 e2 e3 e4
          obtain ⟨y0, y1, y2, y3, y4⟩ := gb_cells5 R0.out
          go_wp2_with fail
          clear y0 y1 y2 y3 y4
          go_loopw [37] (fun j wx => ∃ i : Nat, j = .int .i64 i ∧ i ≤ r.nets.l.length ∧ Hid (dupP (r.nets.l.take i) (r.nets.l.drop i) = dupP [] r.nets.l) ∧ Hid (wx.heap[rb]? = some (.cells #[.string r.name, .slice r.nets.A r.nets.l.length r.nets.cap, .slice r.links.A r.links.l.length r.links.cap, .slice r.stats.A r.stats.l.length r.stats.cap, .int .i64 r.at_] 48)) ∧ Hid (wx.heap[rb + 1]? = some (pbObj ((r.nets.l.take i).map fun p => (p, true)))) ∧ Hid (Below w1.heap.size w1 wx)) (fun j _ => r.nets.l.length - (intOf j).toNat)
          case atStart => exact ⟨0, rfl, by omega, Lib.hid rfl, R0, Lib.hid (by rw [N0.out]; rfl), HBU⟩
          case round =>
            obtain ⟨i, rfl, hi, HD, HR0, HN0, HBX⟩ := hrel
            have HRX := Lib.hid ((HC1.out.below HBX.out).rts.ok r (List.mem_of_getElem? HX.out))
            have hlen := HRX.out.nets.len_le
            by_cases hlt2 : i < r.nets.l.length
            · obtain ⟨x, hx⟩ : ∃ x, r.nets.l[i]? = some x := ⟨_, List.getElem?_eq_getElem hlt2⟩
              obtain ⟨b3, off3, hA3, hb3, f0, f1⟩ := pfs_get HRX.out.nets.at_ hx
              have HXX := Lib.hid hx
              have HA3 := Lib.hid hA3
              rw [hA3]
              clear hx hA3
              go_upto_region 11 with fail
              have t0 := gb_new wr (.cells #[.int .u32 x.addr, .int .i64 x.bits] 66)
              have hbq := gb_alloc (Below.refl wr.heap.size wr) (.cells #[.int .u32 x.addr, .int .i64 x.bits] 66)
              obtain ⟨xb, hxb⟩ : ∃ n, n = wr.heap.size := ⟨_, rfl⟩
              rw [← hxb] at t0 ⊢
              generalize wr.alloc (.cells #[.int .u32 x.addr, .int .i64 x.bits] 66) = wv at *
              have S0 := Lib.hid (gb_blk hbq HR0.out (gb_lt HR0.out))
              have SN := Lib.hid (gb_blk hbq HN0.out (gb_lt HN0.out))
              have HBV := Lib.hid (gb_trans HBX.out hbq)
              obtain ⟨z0, z1⟩ := gb_cells2 t0
              obtain ⟨y0, y1, y2, y3, y4⟩ := gb_cells5 S0.out
              clear t0 hbq f0 f1 hxb
              have HS := Lib.hid (dupP_drop (seen := r.nets.l.take i) HXX.out)
              have lk := pb_look wv SN.out x
              rw [look_pfx] at lk
              unfold pxv at lk
              cases hd : (r.nets.l.take i).any (fun s => decide (s = x)) with
              | true =>
                rw [hd] at lk
                have HF2 : Hid (cfgBad c = some (4, r.at_)) := Lib.hid (HK.out _ (by unfold rtBad; rw [← HD.out, HS.out, hd]; rfl))
                clear hd
                go_wp2_with fail
                refine (wrap_any 4 r.at_ _).mono ?_
                rintro en w3 ⟨rfl, rfl⟩
                go_wp2_with fail
                go_ret
                exact ⟨by rw [HF2.out]; rfl, gb_trans B1.out HBV.out⟩
              | false =>
                rw [hd] at lk
                have hst := pb_store wv SN.out x
                have hput : Mq.put x true ((r.nets.l.take i).map fun p => (p, true)) = (r.nets.l.take (i + 1)).map fun p => (p, true) := by
                  rw [put_new (look_pfx_none hd), List.take_add_one, HXX.out]; simp
                rw [hput] at hst
                unfold pxv at hst
                have HN : Hid (dupP (r.nets.l.take (i + 1)) (r.nets.l.drop (i + 1)) = dupP [] r.nets.l) := Lib.hid (by
                  rw [← HD.out, HS.out, hd, List.take_add_one, HXX.out]; simp)
                clear hput hd
                go_wp2_with fail
                go_roundw
                case rel => exact ⟨i + 1, by go_num, by omega, HN, Lib.hid (by rw [← HA3.out]; exact (setBlock_far (by omega) _).trans S0.out), Lib.hid (by rw [List.map_take]; exact setBlock_same (gb_lt SN.out) _), Lib.hid (gb_setBlock HBV.out (by omega) _)⟩
                case measure => simp [intOf] <;> omega
            · have hi' : i = r.nets.l.length := by omega
              subst hi'
              have HDP : Hid (dupP [] r.nets.l = false) := Lib.hid (by rw [← HD.out, List.drop_of_length_le (Nat.le_refl _)]; rfl)
              have HCX := Lib.hid (HC1.out.below HBX.out)
              have X0 := Lib.hid (gb_blk HBX.out T0.out (gb_lt T0.out))
              have XM := gb_blk HBX.out TM.out (gb_lt TM.out)
              have XT := gb_blk HBX.out TT.out (gb_lt TT.out)
              have LC := links_any c r (c.maps.l.map (·.name)) bm bt wr HRX.out.links (slok_weak HCX.out.rts fun _ h => h.links) XM XT
              have HLC := Lib.hid LC
              clear LC XM XT HD HN0
              obtain ⟨x0, x1⟩ := gb_cells2 X0.out
              obtain ⟨y0, y1, y2, y3, y4⟩ := gb_cells5 HR0.out
              cases hlb : linkBad c.rts.l (c.maps.l.map (·.name)) r.name [] r.links.l with
              | some q =>
                have HF2 : Hid (cfgBad c = some q) := Lib.hid (HK.out _ (by unfold rtBad; rw [HDP.out, hlb]; rfl))
                rw [hlb] at HLC
                clear hlb
                unfold errP at HLC
                go_wp2_with fail
                refine HLC.out.mono ?_
                rintro en w3 ⟨rfl, hb3⟩
                have HB3 := Lib.hid (gb_trans HBX.out hb3)
                clear hb3
                go_wp2_with fail
                go_ret
                exact ⟨by rw [HF2.out]; rfl, gb_trans B1.out HB3.out⟩
              | none =>
                have HL0 := Lib.hid hlb
                rw [hlb] at HLC
                clear hlb
                unfold errP at HLC
                go_wp2_with fail
                refine HLC.out.mono ?_
                rintro en w3 ⟨rfl, hb3⟩
                have HB3 := Lib.hid (gb_trans HBX.out hb3)
                have K0 := Lib.hid (gb_blk hb3 HR0.out (gb_lt HR0.out))
                clear hb3 x0 x1 y0 y1 y2 y3 y4
                have hmm := HMM.out
                obtain ⟨y0, y1, y2, y3, y4⟩ := gb_cells5 K0.out
                go_upto_region 19 with fail
                clear hmm
                have t1 : (w3.alloc (.map #[] 0)).heap[w3.heap.size]? = some (pbObj []) := gb_new w3 (.map #[] 0)
                have k0 := gb_old w3 (.map #[] 0) K0.out
                have hb4 := gb_trans HB3.out (gb_alloc (Below.refl w3.heap.size w3) (.map #[] 0))
                obtain ⟨mb, hmb⟩ : ∃ n, n = w3.heap.size := ⟨_, rfl⟩
                have hml : w1.heap.size ≤ mb := by rw [hmb]; exact HB3.out.size
                have hmr : rb < mb := by rw [hmb]; exact gb_lt K0.out
                rw [← hmb] at t1 ⊢
                generalize w3.alloc (.map #[] 0) = w4 at *
                have K1 := Lib.hid k0; have N1 := Lib.hid t1; have HB4 := Lib.hid hb4
                clear t1 k0 hb4 hmb y0 y1 y2 y3 y4 hlen hlt2 hi
                obtain ⟨y0, y1, y2, y3, y4⟩ := gb_cells5 K1.out
                go_wp2_with fail
                clear y0 y1 y2 y3 y4
                go_loopw [62] (fun j wr => ∃ i : Nat, j = .int .i64 i ∧ i ≤ r.stats.l.length ∧ Hid (waysBad r.links.l ((r.stats.l.take i).map (·.px)) (r.stats.l.drop i) = waysBad r.links.l [] r.stats.l) ∧ Hid (wr.heap[rb]? = some (.cells #[.string r.name, .slice r.nets.A r.nets.l.length r.nets.cap, .slice r.links.A r.links.l.length r.links.cap, .slice r.stats.A r.stats.l.length r.stats.cap, .int .i64 r.at_] 48)) ∧ Hid (wr.heap[mb]? = some (pbObj (((r.stats.l.take i).map (·.px)).map fun p => (p, true)))) ∧ Hid (Below w1.heap.size w1 wr)) (fun j _ => r.stats.l.length - (intOf j).toNat)
                case atStart => exact ⟨0, rfl, by omega, Lib.hid rfl, K1, Lib.hid (by rw [N1.out]; rfl), HB4⟩
                case round =>
                  obtain ⟨i, rfl, hi, HD, HR0, HN0, HBX⟩ := hrel
                  have HRX := Lib.hid ((HC1.out.below HBX.out).rts.ok r (List.mem_of_getElem? HX.out))
                  have hlen := HRX.out.stats.len_le
                  by_cases hlt2 : i < r.stats.l.length
                  · obtain ⟨x, hx⟩ : ∃ x, r.stats.l[i]? = some x := ⟨_, List.getElem?_eq_getElem hlt2⟩
                    obtain ⟨b3, off3, hA3, hb3, f0, f1, f2, f3⟩ := sts_get HRX.out.stats.at_ hx
                    have HXX := Lib.hid hx
                    have HA3 := Lib.hid hA3
                    rw [hA3]
                    clear hx hA3
                    go_upto_region 22 with fail
                    have t0 := gb_new wr (.cells #[.int .u32 x.px.addr, .int .i64 x.px.bits, .string x.via, .int .i64 x.at_] 70)
                    have hbq := gb_alloc (Below.refl wr.heap.size wr) (.cells #[.int .u32 x.px.addr, .int .i64 x.px.bits, .string x.via, .int .i64 x.at_] 70)
                    obtain ⟨xb, hxb⟩ : ∃ n, n = wr.heap.size := ⟨_, rfl⟩
                    rw [← hxb] at t0 ⊢
                    generalize wr.alloc (.cells #[.int .u32 x.px.addr, .int .i64 x.px.bits, .string x.via, .int .i64 x.at_] 70) = wv at *
                    have S0 := Lib.hid (gb_blk hbq HR0.out (gb_lt HR0.out))
                    have SN := Lib.hid (gb_blk hbq HN0.out (gb_lt HN0.out))
                    have SX := Lib.hid t0
                    have HBV := Lib.hid (gb_trans HBX.out hbq)
                    have HP := Lib.hid (slok_below HRX.out.links hbq fun _ h => h)
                    clear t0 hbq f0 f1 f2 f3 hxb
                    have HWD := Lib.hid (waysBad_drop (ls := r.links.l) (seen := (r.stats.l.take i).map (·.px)) HXX.out)
                    have hS : ∀ w', Below wv.heap.size wv w' → w'.cell? ⟨rb, 0, none⟩ = some (.string r.name) ∧ w'.cell? ⟨rb, 1, none⟩ = some (.slice r.nets.A r.nets.l.length r.nets.cap) ∧ w'.cell? ⟨rb, 2, none⟩ = some (.slice r.links.A r.links.l.length r.links.cap) ∧ w'.cell? ⟨rb, 3, none⟩ = some (.slice r.stats.A r.stats.l.length r.stats.cap) ∧ w'.cell? ⟨rb, 4, none⟩ = some (.int .i64 r.at_) ∧ w'.cell? ⟨xb, 2, none⟩ = some (.string x.via) := fun w' hb => by
                      have h := gb_blk hb S0.out (gb_lt S0.out)
                      exact ⟨gb_cell h 0, gb_cell h 1, gb_cell h 2, gb_cell h 3, gb_cell h 4, gb_cell (gb_blk hb SX.out (gb_lt SX.out)) 2⟩
                    have HS := Lib.hid hS
                    clear hS
                    go_cut [16] (fun s wx => s = .bool (peerL r.links.l x.via).isSome ∧ Hid (Below wv.heap.size wv wx))
                    case first =>
                      obtain ⟨s0, s1, s2, s3, s4, s5⟩ := HS.out _ (Below.refl wv.heap.size wv)
                      go_wp2_with fail
                      refine (peer_any2 r x.via _ HP.out).mono ?_
                      rintro en w8 ⟨q, HQ, rfl, hb8⟩
                      have B8 := Lib.hid hb8
                      clear HQ hb8
                      go_wp2_with fail
                      go_meet
                      refine ⟨rfl, Lib.hid ?_⟩
                      repeat (with_reducible first | exact B8.out | refine gb_alloc ?_ _ | refine Below.setCell ?_ (by first | omega | (simp <;> omega)) _)
                    case rest =>
                      obtain ⟨rfl, HB8⟩ := hcut
                      have V0 := Lib.hid (gb_blk HB8.out S0.out (gb_lt S0.out))
                      have VN := Lib.hid (gb_blk HB8.out SN.out (gb_lt SN.out))
                      have VX := Lib.hid (gb_blk HB8.out SX.out (gb_lt SX.out))
                      have BV := Lib.hid (gb_trans HBV.out HB8.out)
                      clear HS
                      obtain ⟨z0, z1, z2, z3⟩ := gb_cells4 VX.out
                      cases hbk : (peerL r.links.l x.via).isSome with
                      | false =>
                        have HF2 : Hid (cfgBad c = some (3, x.at_)) := Lib.hid (HK.out _ (by unfold rtBad; rw [HDP.out, HL0.out, ← HD.out, HWD.out, hbk]; rfl))
                        clear hbk
                        go_wp2_with fail
                        refine (wrap_any 3 x.at_ _).mono ?_
                        rintro en w3 ⟨rfl, rfl⟩
                        go_wp2_with fail
                        go_ret
                        exact ⟨by rw [HF2.out]; rfl, gb_trans B1.out BV.out⟩
                      | true =>
                        have lk := pb_look wc VN.out x.px
                        rw [look_pfx] at lk
                        unfold pxv at lk
                        cases hd : ((r.stats.l.take i).map (·.px)).any (fun s => decide (s = x.px)) with
                        | true =>
                          rw [hd] at lk
                          have HF2 : Hid (cfgBad c = some (4, x.at_)) := Lib.hid (HK.out _ (by unfold rtBad; rw [HDP.out, HL0.out, ← HD.out, HWD.out, hbk, hd]; rfl))
                          clear hbk hd
                          go_wp2_with fail
                          refine (wrap_any 4 x.at_ _).mono ?_
                          rintro en w3 ⟨rfl, rfl⟩
                          go_wp2_with fail
                          go_ret
                          exact ⟨by rw [HF2.out]; rfl, gb_trans B1.out BV.out⟩
                        | false =>
                          rw [hd] at lk
                          have hst := pb_store wc VN.out x.px
                          have hput : Mq.put x.px true (((r.stats.l.take i).map (·.px)).map fun p => (p, true)) = ((r.stats.l.take (i + 1)).map (·.px)).map fun p => (p, true) := by
                            rw [put_new (look_pfx_none hd), List.take_add_one, HXX.out]; simp
                          rw [hput] at hst
                          unfold pxv at hst
                          have HN : Hid (waysBad r.links.l ((r.stats.l.take (i + 1)).map (·.px)) (r.stats.l.drop (i + 1)) = waysBad r.links.l [] r.stats.l) := Lib.hid (by
                            rw [← HD.out, HWD.out, hbk, hd, List.take_add_one, HXX.out]; simp)
                          clear hput hd hbk
                          go_wp2_with fail
                          go_roundw
                          case rel => exact ⟨i + 1, by go_num, by omega, HN, Lib.hid (by rw [← HA3.out]; exact (setBlock_far (by omega) _).trans V0.out), Lib.hid (by rw [List.map_map, List.map_take]; exact setBlock_same (gb_lt VN.out) _), Lib.hid (gb_setBlock BV.out (by omega) _)⟩
                          case measure => simp [intOf] <;> omega
                  · have hi' : i = r.stats.l.length := by omega
                    subst hi'
                    have HW0 : Hid (waysBad r.links.l [] r.stats.l = none) := Lib.hid (by rw [← HD.out, List.drop_of_length_le (Nat.le_refl _)]; rfl)
                    have HN := Lib.hid (HK2.out (by unfold rtBad; rw [HDP.out, HL0.out, HW0.out]; rfl))
                    clear HD HN0
                    go_wp2_with fail
                    go_roundw
                    case rel => exact ⟨k + 1, by go_num, by omega, HN, HBX⟩
                    case measure => simp [intOf] <;> omega
        · have hk' : k = c.rts.l.length := by omega
          subst hk'
          have HF2 : Hid (cfgBad c = none) := Lib.hid (by rw [HF.out, ← HD.out, List.drop_of_length_le (Nat.le_refl _)]; rfl)
          go_wp2_with fail
          go_ret
          exact ⟨by rw [HF2.out]; rfl, gb_trans B1.out HB.out⟩
end Go.Proofs.YteciceelinbfoaaDoor
