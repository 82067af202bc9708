import Derived.Test.YtbbgiockmblamaaEq
import Derived.Test.YtbbgiockmblamaaRdt
set_option linter.unusedVariables false
namespace Go.Proofs.Ytbbgiockmblamaa
open Go.RowKit Mq

attribute [local go_sem high] eq_att
set_option maxRecDepth 100000 in
set_option maxHeartbeats 4000000 in
theorem walk_ClauseFor (s1 : SlV Rul) (n : Nat) (a : Att) (o : Pfx) (w : World) (h1 : SlOk rulc 6 (fun _ r => r.Ok) w s1) (hn : n < 256) (ha : a.Ok) (ho : o.Ok) :
    Calls Try.prog 8 #[.slice s1.A s1.l.length s1.cap, .int .u8 n, .agg (attc a).toArray, .agg (pfxc o).toArray] w fun e w' => e = .returned (.bool true) ∧ Below w.heap.size w w' := by
  have S1 := Lib.hid h1
  clear h1
  unfold attc pfxc
  go_enter Try.func8, Try.ntmps8
  go_wp2_with fail
  have b7 := gb_old _ (.cells #[.int .u32 o.addr, .int .i64 o.bits] 28) (gb_new w (.cells #[.bool a.ok, .int .i64 a.pref, .int .i64 a.cost, .int .u8 a.tags] 24))
  have b9 := gb_new (w.alloc (.cells #[.bool a.ok, .int .i64 a.pref, .int .i64 a.cost, .int .u8 a.tags] 24)) (.cells #[.int .u32 o.addr, .int .i64 o.bits] 28)
  have hB := gb_alloc (gb_alloc (Below.refl w.heap.size w) (.cells #[.bool a.ok, .int .i64 a.pref, .int .i64 a.cost, .int .u8 a.tags] 24)) (.cells #[.int .u32 o.addr, .int .i64 o.bits] 28)
  simp only [World.size_alloc] at b9
  generalize (w.alloc (.cells #[.bool a.ok, .int .i64 a.pref, .int .i64 a.cost, .int .u8 a.tags] 24)).alloc (.cells #[.int .u32 o.addr, .int .i64 o.bits] 28) = W0 at *
  refine (awake11 W0).mono ?_
  rintro e w1 ⟨rfl, hb⟩
  have B7 := Lib.hid (gb_blk hb b7 (gb_lt b7)); have B9 := Lib.hid (gb_blk hb b9 (gb_lt b9)); have B1 := Lib.hid (gb_trans hB hb)
  clear b7 b9 hB hb
  go_wp2_with fail
  refine (clauses_any s1.A s1.cap s1.l S1.out.ok w1 ((S1.out.at_.below B1.out).more B1.out.size) S1.out.len_le).mono ?_
  rintro e w2 ⟨Ac, cc, rfl, hown, hb⟩
  have S3 := Lib.hid hown.at_
  have L3 := ruleCls_len s1.l
  have B2 := Lib.hid (gb_trans B1.out hb)
  have B72 := Lib.hid (gb_blk hb B7.out (gb_lt B7.out)); have B92 := Lib.hid (gb_blk hb B9.out (gb_lt B9.out))
  have HCO := Lib.hid (ruleCls_ok S1.out.ok)
  clear hown hb B7 B9
  generalize ruleCls s1.l = cs at *
  go_wp2_with fail
  refine (make_any n hn w2).mono ?_
  rintro e w3 ⟨rfl, hb⟩
  have HPO := Lib.hid (mkP_ok hn)
  generalize mkP n = t at *
  unfold pfxv
  have b73 := gb_old _ (.cells #[.int .u32 t.addr, .int .i64 t.bits] 28) (gb_blk hb B72.out (gb_lt B72.out)); have b93 := gb_old _ (.cells #[.int .u32 t.addr, .int .i64 t.bits] 28) (gb_blk hb B92.out (gb_lt B92.out))
  have bt := gb_new w3 (.cells #[.int .u32 t.addr, .int .i64 t.bits] 28)
  have hS4 := ((S3.out.below hb).more hb.size).below (gb_alloc (Below.refl w3.heap.size w3) (.cells #[.int .u32 t.addr, .int .i64 t.bits] 28))
  have hB3 := gb_trans B2.out (gb_trans hb (gb_alloc (Below.refl w3.heap.size w3) (.cells #[.int .u32 t.addr, .int .i64 t.bits] 28)))
  have hz3 : w3.heap.size ≤ (w3.alloc (.cells #[.int .u32 t.addr, .int .i64 t.bits] 28)).heap.size := by simp
  go_upto_region 5 with fail
  generalize w3.alloc (.cells #[.int .u32 t.addr, .int .i64 t.bits] 28) = W4 at *
  have B73 := Lib.hid b73; have B93 := Lib.hid b93; have BT := Lib.hid bt
  have S4 := Lib.hid (hS4.more hz3); have B3 := Lib.hid hB3
  clear hb B72 B92 S3 b73 b93 bt hS4 hB3 hz3
  go_wp2_with fail
  go_loopw [19] (fun i wr => ∃ k : Nat, i = .int .u8 k ∧ k ≤ 16 ∧ Below W4.heap.size W4 wr) (fun i _ => 16 - (intOf i).toNat)
  case atStart => exact ⟨0, rfl, by omega, Below.refl _ _⟩
  case round =>
    obtain ⟨k, rfl, hk, hb⟩ := hrel
    have B := Lib.hid hb
    by_cases hlt : k < 16
    · go_upto_region 9 with fail
      have c1 := gb_old _ (.cells #[.bool true, .int .i64 50, .int .i64 3, .int .u8 k] 24) (gb_blk hb BT.out (gb_lt BT.out))
      have c2 := gb_old _ (.cells #[.bool true, .int .i64 50, .int .i64 3, .int .u8 k] 24) (gb_blk hb B93.out (gb_lt B93.out))
      have c3 := gb_new wr (.cells #[.bool true, .int .i64 50, .int .i64 3, .int .u8 k] 24)
      have hSW := ((S4.out.below hb).more hb.size).below (gb_alloc (Below.refl wr.heap.size wr) (.cells #[.bool true, .int .i64 50, .int .i64 3, .int .u8 k] 24))
      have hzw : wr.heap.size ≤ (wr.alloc (.cells #[.bool true, .int .i64 50, .int .i64 3, .int .u8 k] 24)).heap.size := by simp
      have hBW := gb_trans B.out (gb_alloc (Below.refl wr.heap.size wr) (.cells #[.bool true, .int .i64 50, .int .i64 3, .int .u8 k] 24))
      generalize wr.alloc (.cells #[.bool true, .int .i64 50, .int .i64 3, .int .u8 k] 24) = W at *
      have SW := Lib.hid (hSW.more hzw)
      have BW := Lib.hid hBW
      clear hb hSW hzw hBW
      have hS : ∀ w', Below W.heap.size W w' → w'.cell? ⟨w3.heap.size, 0, none⟩ = some (.int .u32 t.addr) ∧ w'.cell? ⟨w3.heap.size, 1, none⟩ = some (.int .i64 t.bits) ∧ w'.cell? ⟨w.heap.size + 1, 0, none⟩ = some (.int .u32 o.addr) ∧ w'.cell? ⟨w.heap.size + 1, 1, none⟩ = some (.int .i64 o.bits) ∧ w'.cell? ⟨wr.heap.size, 0, none⟩ = some (.bool true) ∧ w'.cell? ⟨wr.heap.size, 1, none⟩ = some (.int .i64 50) ∧ w'.cell? ⟨wr.heap.size, 2, none⟩ = some (.int .i64 3) ∧ w'.cell? ⟨wr.heap.size, 3, none⟩ = some (.int .u8 k) := fun w' hb => by
        have h1 := gb_blk hb c1 (gb_lt c1)
        have h2 := gb_blk hb c2 (gb_lt c2)
        have h3 := gb_blk hb c3 (gb_lt c3)
        exact ⟨gb_cell h1 0, gb_cell h1 1, gb_cell h2 0, gb_cell h2 1, gb_cell h3 0, gb_cell h3 1, gb_cell h3 2, gb_cell h3 3⟩
      have HS := Lib.hid hS
      have B6 := Lib.hid ((Below.refl W.heap.size W).drew)
      clear hS c1 c2 c3
      have HD := Lib.hid (doL_for cs t o ⟨true, 50, 3, k⟩)
      have HB := Lib.hid (att_ok (b := true) (p := 50) (c := 3) (m := k) (by omega) (by omega) (by omega) (by omega) (by omega))
      go_region_held3 (fun w' => w'.cell? ⟨w3.heap.size, 0, none⟩ = some (.int .u32 t.addr) ∧ w'.cell? ⟨w3.heap.size, 1, none⟩ = some (.int .i64 t.bits) ∧ w'.cell? ⟨w.heap.size + 1, 0, none⟩ = some (.int .u32 o.addr) ∧ w'.cell? ⟨w.heap.size + 1, 1, none⟩ = some (.int .i64 o.bits) ∧ w'.cell? ⟨wr.heap.size, 0, none⟩ = some (.bool true) ∧ w'.cell? ⟨wr.heap.size, 1, none⟩ = some (.int .i64 50) ∧ w'.cell? ⟨wr.heap.size, 2, none⟩ = some (.int .i64 3) ∧ w'.cell? ⟨wr.heap.size, 3, none⟩ = some (.int .u8 k))
        (first | exact HS.out _ B6.out | exact HS.out _ B7.out | exact HS.out _ B8.out | exact HS.out _ B9.out | go_keep)
        (first
          | (go_at_call 26; refine (for_any Ac cc cs HCO.out t HPO.out _ ((SW.out.below B6.out).more B6.out.size) (by omega)).mono ?_; rintro e w7 ⟨Af, cf, rfl, hown, hb⟩; have B7 := Lib.hid (gb_trans B6.out hb); have S7 := Lib.hid hown.at_; clear hown hb)
          | (go_at_call_of 18 Af; refine (do_any Af cf (forL cs t) (forL_ok t HCO.out) o ho ⟨true, 50, 3, k⟩ HB.out _ S7.out (by have := forL_len cs t; omega)).mono ?_; rintro e w8 ⟨rfl, hb⟩; rw [HD.out]; unfold attv; have B8 := Lib.hid (gb_trans B7.out hb); clear hb)
          | (go_at_call 18; refine (do_any Ac cc cs HCO.out t HPO.out ⟨true, 50, 3, k⟩ HB.out _ ((SW.out.below B8.out).more B8.out.size) (by omega)).mono ?_; rintro e w9 ⟨rfl, hb⟩; unfold attv; have B9 := Lib.hid (gb_trans B8.out hb); clear hb))
      go_wp2_with fail
      go_roundw
      case rel => exact ⟨k + 1, by go_num, by omega, gb_trans BW.out B9.out⟩
      case measure => simp [intOf] <;> omega
    · have hk' : k = 16 := by omega
      subst hk'
      go_upto_region 12 with fail
      have c1 := gb_blk hb BT.out (gb_lt BT.out)
      have c2 := gb_blk hb B93.out (gb_lt B93.out)
      have c3 := gb_blk hb B73.out (gb_lt B73.out)
      have SW := Lib.hid ((S4.out.below hb).more hb.size)
      clear hb
      obtain ⟨W, hW⟩ : ∃ W : World, W = wr := ⟨_, rfl⟩
      subst hW
      have hS : ∀ w', Below W.heap.size W w' → w'.cell? ⟨w3.heap.size, 0, none⟩ = some (.int .u32 t.addr) ∧ w'.cell? ⟨w3.heap.size, 1, none⟩ = some (.int .i64 t.bits) ∧ w'.cell? ⟨w.heap.size + 1, 0, none⟩ = some (.int .u32 o.addr) ∧ w'.cell? ⟨w.heap.size + 1, 1, none⟩ = some (.int .i64 o.bits) ∧ w'.cell? ⟨w.heap.size, 0, none⟩ = some (.bool a.ok) ∧ w'.cell? ⟨w.heap.size, 1, none⟩ = some (.int .i64 a.pref) ∧ w'.cell? ⟨w.heap.size, 2, none⟩ = some (.int .i64 a.cost) ∧ w'.cell? ⟨w.heap.size, 3, none⟩ = some (.int .u8 a.tags) := fun w' hb => by
        have h1 := gb_blk hb c1 (gb_lt c1)
        have h2 := gb_blk hb c2 (gb_lt c2)
        have h3 := gb_blk hb c3 (gb_lt c3)
        exact ⟨gb_cell h1 0, gb_cell h1 1, gb_cell h2 0, gb_cell h2 1, gb_cell h3 0, gb_cell h3 1, gb_cell h3 2, gb_cell h3 3⟩
      have HS := Lib.hid hS
      have B6 := Lib.hid ((Below.refl W.heap.size W).drew)
      clear hS c1 c2 c3
      have HD := Lib.hid (doL_for cs t o a)
      have HB := Lib.hid ha
      go_region_held3 (fun w' => w'.cell? ⟨w3.heap.size, 0, none⟩ = some (.int .u32 t.addr) ∧ w'.cell? ⟨w3.heap.size, 1, none⟩ = some (.int .i64 t.bits) ∧ w'.cell? ⟨w.heap.size + 1, 0, none⟩ = some (.int .u32 o.addr) ∧ w'.cell? ⟨w.heap.size + 1, 1, none⟩ = some (.int .i64 o.bits) ∧ w'.cell? ⟨w.heap.size, 0, none⟩ = some (.bool a.ok) ∧ w'.cell? ⟨w.heap.size, 1, none⟩ = some (.int .i64 a.pref) ∧ w'.cell? ⟨w.heap.size, 2, none⟩ = some (.int .i64 a.cost) ∧ w'.cell? ⟨w.heap.size, 3, none⟩ = some (.int .u8 a.tags))
        (first | exact HS.out _ B6.out | exact HS.out _ B7.out | exact HS.out _ B8.out | exact HS.out _ B9.out | go_keep)
        (first
          | (go_at_call 26; refine (for_any Ac cc cs HCO.out t HPO.out _ ((SW.out.below B6.out).more B6.out.size) (by omega)).mono ?_; rintro e w7 ⟨Af, cf, rfl, hown, hb⟩; have B7 := Lib.hid (gb_trans B6.out hb); have S7 := Lib.hid hown.at_; clear hown hb)
          | (go_at_call_of 18 Af; refine (do_any Af cf (forL cs t) (forL_ok t HCO.out) o ho a HB.out _ S7.out (by have := forL_len cs t; omega)).mono ?_; rintro e w8 ⟨rfl, hb⟩; rw [HD.out]; unfold attv; have B8 := Lib.hid (gb_trans B7.out hb); clear hb)
          | (go_at_call 18; refine (do_any Ac cc cs HCO.out t HPO.out a HB.out _ ((SW.out.below B8.out).more B8.out.size) (by omega)).mono ?_; rintro e w9 ⟨rfl, hb⟩; unfold attv; have B9 := Lib.hid (gb_trans B8.out hb); clear hb))
      go_wp2_with fail
      go_ret
      exact ⟨rt_bool (by simp), gb_trans B3.out (gb_trans B.out B9.out)⟩
end Go.Proofs.Ytbbgiockmblamaa
