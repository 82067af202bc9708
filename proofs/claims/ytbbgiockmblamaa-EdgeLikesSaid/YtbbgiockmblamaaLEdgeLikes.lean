import Derived.Test.YtbbgiockmblamaaT12
import Derived.Test.YtbbgiockmblamaaEs
import Derived.Test.YtbbgiockmblamaaEl
set_option linter.unusedVariables false
namespace Go.Proofs.Ytbbgiockmblamaa
open Go.RowKit Mq

set_option maxRecDepth 100000 in
set_option maxHeartbeats 8000000 in
theorem walk_EdgeLikes (v : WiV) (e : EdV) (w : World) (hv : WiOk w v) (he : EdOk w e) :
    Calls Try.prog 13 #[.agg (wic v).toArray, .agg (edc e).toArray] w fun e w' => e = .returned (.bool true) ∧ Below w.heap.size w w' := by
  have V := Lib.hid hv; have E := Lib.hid he
  clear hv he
  unfold wic edc slv
  go_enter Try.func13, Try.ntmps13
  go_wp2_with fail
  have b2 := gb_old _ (.cells #[.int .i64 e.from_, .int .i64 e.cost, .slice e.ex.A e.ex.l.length e.ex.cap, .slice e.im.A e.im.l.length e.im.cap] 46) (gb_new w (.cells #[.int .u8 v.from_, .int .u8 v.cost, .slice v.ex.A v.ex.l.length v.ex.cap, .slice v.im.A v.im.l.length v.im.cap] 59))
  have b3 := gb_new (w.alloc (.cells #[.int .u8 v.from_, .int .u8 v.cost, .slice v.ex.A v.ex.l.length v.ex.cap, .slice v.im.A v.im.l.length v.im.cap] 59)) (.cells #[.int .i64 e.from_, .int .i64 e.cost, .slice e.ex.A e.ex.l.length e.ex.cap, .slice e.im.A e.im.l.length e.im.cap] 46)
  have hB := gb_alloc (gb_alloc (Below.refl w.heap.size w) (.cells #[.int .u8 v.from_, .int .u8 v.cost, .slice v.ex.A v.ex.l.length v.ex.cap, .slice v.im.A v.im.l.length v.im.cap] 59)) (.cells #[.int .i64 e.from_, .int .i64 e.cost, .slice e.ex.A e.ex.l.length e.ex.cap, .slice e.im.A e.im.l.length e.im.cap] 46)
  simp only [World.size_alloc] at b3
  generalize (w.alloc (.cells #[.int .u8 v.from_, .int .u8 v.cost, .slice v.ex.A v.ex.l.length v.ex.cap, .slice v.im.A v.im.l.length v.im.cap] 59)).alloc (.cells #[.int .i64 e.from_, .int .i64 e.cost, .slice e.ex.A e.ex.l.length e.ex.cap, .slice e.im.A e.im.l.length e.im.cap] 46) = W0 at *
  refine (awake12 W0).mono ?_
  rintro en w1 ⟨rfl, hb⟩
  have c2 := gb_blk hb b2 (gb_lt b2)
  have c3 := gb_blk hb b3 (gb_lt b3)
  have B1 := Lib.hid (gb_trans hB hb)
  have hS : ∀ w', Below w1.heap.size w1 w' → w'.cell? ⟨w.heap.size, 0, none⟩ = some (.int .u8 v.from_) ∧ w'.cell? ⟨w.heap.size, 1, none⟩ = some (.int .u8 v.cost) ∧ w'.cell? ⟨w.heap.size, 2, none⟩ = some (.slice v.ex.A v.ex.l.length v.ex.cap) ∧ w'.cell? ⟨w.heap.size, 3, none⟩ = some (.slice v.im.A v.im.l.length v.im.cap) ∧ w'.cell? ⟨w.heap.size + 1, 0, none⟩ = some (.int .i64 e.from_) ∧ w'.cell? ⟨w.heap.size + 1, 1, none⟩ = some (.int .i64 e.cost) ∧ w'.cell? ⟨w.heap.size + 1, 2, none⟩ = some (.slice e.ex.A e.ex.l.length e.ex.cap) ∧ w'.cell? ⟨w.heap.size + 1, 3, none⟩ = some (.slice e.im.A e.im.l.length e.im.cap) := fun w' hb => by
    have h := gb_blk hb c2 (gb_lt c2)
    have h' := gb_blk hb c3 (gb_lt c3)
    exact ⟨gb_cell h 0, gb_cell h 1, gb_cell h 2, gb_cell h 3, gb_cell h' 0, gb_cell h' 1, gb_cell h' 2, gb_cell h' 3⟩
  have HS := Lib.hid hS
  have BD := Lib.hid ((Below.refl w1.heap.size w1).drew)
  clear hS b2 b3 c2 c3 hB hb
  go_upto_region 3 with fail
  go_region_held3 (fun w' => w'.cell? ⟨w.heap.size, 0, none⟩ = some (.int .u8 v.from_) ∧ w'.cell? ⟨w.heap.size, 1, none⟩ = some (.int .u8 v.cost) ∧ w'.cell? ⟨w.heap.size, 2, none⟩ = some (.slice v.ex.A v.ex.l.length v.ex.cap) ∧ w'.cell? ⟨w.heap.size, 3, none⟩ = some (.slice v.im.A v.im.l.length v.im.cap) ∧ w'.cell? ⟨w.heap.size + 1, 0, none⟩ = some (.int .i64 e.from_) ∧ w'.cell? ⟨w.heap.size + 1, 1, none⟩ = some (.int .i64 e.cost) ∧ w'.cell? ⟨w.heap.size + 1, 2, none⟩ = some (.slice e.ex.A e.ex.l.length e.ex.cap) ∧ w'.cell? ⟨w.heap.size + 1, 3, none⟩ = some (.slice e.im.A e.im.l.length e.im.cap))
    (first | exact HS.out _ BD.out | exact HS.out _ B8.out | go_keep)
    (first | (go_at_call 28; refine (wire_any v _ ((V.out.below B1.out).below BD.out)).mono ?_; rintro en w8 ⟨f, rfl, hf, -, -, -, -, hb8⟩; unfold edv; have B8 := Lib.hid (gb_trans BD.out hb8); have HF8 := Lib.hid hf; clear hb8 hf))
  go_wp2_with fail
  have hcl : Sli edc 4 (w8.alloc (.cells #[.int .i64 f.from_, .int .i64 f.cost, .slice f.ex.A f.ex.l.length f.ex.cap, .slice f.im.A f.im.l.length f.im.cap, .int .i64 e.from_, .int .i64 e.cost, .slice e.ex.A e.ex.l.length e.ex.cap, .slice e.im.A e.im.l.length e.im.cap] 46)) (w8.alloc (.cells #[.int .i64 f.from_, .int .i64 f.cost, .slice f.ex.A f.ex.l.length f.ex.cap, .slice f.im.A f.im.l.length f.im.cap, .int .i64 e.from_, .int .i64 e.cost, .slice e.ex.A e.ex.l.length e.ex.cap, .slice e.im.A e.im.l.length e.im.cap] 46)).heap.size (some ⟨w8.heap.size, 0, none⟩) [f, e] := Sli.both (gb_new w8 (.cells #[.int .i64 f.from_, .int .i64 f.cost, .slice f.ex.A f.ex.l.length f.ex.cap, .slice f.im.A f.im.l.length f.im.cap, .int .i64 e.from_, .int .i64 e.cost, .slice e.ex.A e.ex.l.length e.ex.cap, .slice e.im.A e.im.l.length e.im.cap] 46)) (by simp) (fun _ => rfl)
  have hB := gb_trans (gb_trans B1.out B8.out) (gb_alloc (Below.refl w8.heap.size w8) (.cells #[.int .i64 f.from_, .int .i64 f.cost, .slice f.ex.A f.ex.l.length f.ex.cap, .slice f.im.A f.im.l.length f.im.cap, .int .i64 e.from_, .int .i64 e.cost, .slice e.ex.A e.ex.l.length e.ex.cap, .slice e.im.A e.im.l.length e.im.cap] 46))
  have hf := HF8.out.below (gb_alloc (Below.refl w8.heap.size w8) (.cells #[.int .i64 f.from_, .int .i64 f.cost, .slice f.ex.A f.ex.l.length f.ex.cap, .slice f.im.A f.im.l.length f.im.cap, .int .i64 e.from_, .int .i64 e.cost, .slice e.ex.A e.ex.l.length e.ex.cap, .slice e.im.A e.im.l.length e.im.cap] 46))
  generalize hWl : w8.alloc (.cells #[.int .i64 f.from_, .int .i64 f.cost, .slice f.ex.A f.ex.l.length f.ex.cap, .slice f.im.A f.im.l.length f.im.cap, .int .i64 e.from_, .int .i64 e.cost, .slice e.ex.A e.ex.l.length e.ex.cap, .slice e.im.A e.im.l.length e.im.cap] 46) = Wl at *
  have SL := Lib.hid hcl
  have BL := Lib.hid hB
  have HEf := Lib.hid hf
  have HEe := Lib.hid (E.out.below hB)
  clear hWl hcl hB hf
  go_loopw [17] (fun i wr => ∃ k : Nat, i = .int .i64 k ∧ k ≤ 2 ∧ Below Wl.heap.size Wl wr) (fun i _ => 2 - (intOf i).toNat)
  case atStart => exact ⟨0, rfl, by omega, Below.refl _ _⟩
  case round =>
    obtain ⟨k, rfl, hk, hb⟩ := hrel
    have B := Lib.hid hb
    by_cases hlt : k < 2
    · obtain ⟨x, hx⟩ : ∃ x, [f, e][k]? = some x := ⟨_, List.getElem?_eq_getElem (by simpa using hlt)⟩
      have hxok : EdOk Wl x := by
        have := List.mem_of_getElem? hx
        simp at this
        rcases this with rfl | rfl
        · exact HEf.out
        · exact HEe.out
      have HX := Lib.hid hxok
      obtain ⟨e0, e1, e2, e3⟩ := eds_get (SL.out.below hb) hx
      have hdk : decide ((k : Int) < 2) = true := by simp; omega
      clear hx hb hxok
      go_upto_region 6 with fail
      have t0 := gb_new wr (.cells #[.int .i64 x.from_, .int .i64 x.cost, .slice x.ex.A x.ex.l.length x.ex.cap, .slice x.im.A x.im.l.length x.im.cap] 46)
      have hbq := gb_trans B.out (gb_alloc (Below.refl wr.heap.size wr) (.cells #[.int .i64 x.from_, .int .i64 x.cost, .slice x.ex.A x.ex.l.length x.ex.cap, .slice x.im.A x.im.l.length x.im.cap] 46))
      clear e0 e1 e2 e3
      obtain ⟨wn, hwn⟩ : ∃ n, n = wr.heap.size := ⟨_, rfl⟩
      rw [← hwn] at t0 ⊢
      generalize wr.alloc (.cells #[.int .i64 x.from_, .int .i64 x.cost, .slice x.ex.A x.ex.l.length x.ex.cap, .slice x.im.A x.im.l.length x.im.cap] 46) = wu at *
      have T0 := Lib.hid t0
      have BU := Lib.hid hbq
      clear t0 hbq hwn
      go_wp2_with fail
      go_loopw [7, 8] (fun is j wr => ∃ m : Nat, j = .int .u8 m ∧ m ≤ 16 ∧ is = .bool (anyB (likesB x) m) ∧ Below wu.heap.size wu wr) (fun _ j _ => 16 - (intOf j).toNat)
      case atStart => exact ⟨0, rfl, by omega, rfl, Below.refl _ _⟩
      case round =>
        obtain ⟨m, rfl, hm, rfl, hb⟩ := hrel
        have BQ := Lib.hid hb
        have T1 := Lib.hid (gb_blk hb T0.out (gb_lt T0.out))
        obtain ⟨x0, x1, x2, x3⟩ := gb_cells4 T1.out
        by_cases hml : m < 16
        · clear hb
          have HN : Hid (anyB (likesB x) (m + 1) = (anyB (likesB x) m || likesB x m)) := Lib.hid rfl
          generalize anyB (likesB x) m = cur at *
          go_wp2_with fail
          refine (take12_any x ⟨true, 100, 0, m⟩ (att_ok (by omega) (by omega) (by omega) (by omega) (by omega)) wr (HX.out.below (gb_trans BU.out BQ.out))).mono ?_
          rintro en w4 ⟨rfl, hb⟩
          have HQ : Hid (edRow x m = edTake x ⟨true, 100, 0, m⟩) := Lib.hid (by unfold edRow; rw [and15_small hml])
          have HLk : Hid (likesB x m = ((edTake x ⟨true, 100, 0, m⟩).ok && decide (¬ (edTake x ⟨true, 100, 0, m⟩).pref = 100))) := Lib.hid (by unfold likesB; rw [HQ.out])
          generalize edTake x ⟨true, 100, 0, m⟩ = q at *
          unfold attv
          have T4 := Lib.hid (gb_new w4 (.cells #[.bool q.ok, .int .i64 q.pref, .int .i64 q.cost, .int .u8 q.tags] 24))
          have BY := Lib.hid (gb_alloc (gb_trans BQ.out hb) (.cells #[.bool q.ok, .int .i64 q.pref, .int .i64 q.cost, .int .u8 q.tags] 24))
          have HP := neq100 q.pref
          clear hb x0 x1 x2 x3
          go_upto_region 11 with fail
          generalize w4.alloc (.cells #[.bool q.ok, .int .i64 q.pref, .int .i64 q.cost, .int .u8 q.tags] 24) = w5 at *
          obtain ⟨y0, y1, y2, y3⟩ := gb_cells4 T4.out
          cases cur with
          | true =>
            clear HP
            go_wp2_with fail
            go_roundw
            case rel => exact ⟨m + 1, by go_num, by omega, by rw [HN.out]; rfl, BY.out⟩
            case measure => simp [intOf] <;> omega
          | false =>
            cases hok : q.ok with
            | false =>
              rw [hok] at y0
              have HS : Hid (anyB (likesB x) (m + 1) = false) := Lib.hid (by rw [HN.out, HLk.out, hok]; rfl)
              clear HP hok
              go_wp2_with fail
              go_roundw
              case rel => exact ⟨m + 1, by go_num, by omega, by rw [HS.out], BY.out⟩
              case measure => simp [intOf] <;> omega
            | true =>
              rw [hok] at y0
              by_cases hp : q.pref = 100
              · have hp' := HP.trans (decide_eq_false (fun h => h hp))
                have HS : Hid (anyB (likesB x) (m + 1) = false) := Lib.hid (by rw [HN.out, HLk.out]; simp [hp])
                clear HP hp hok
                go_wp2_with fail
                go_roundw
                case rel => exact ⟨m + 1, by go_num, by omega, by rw [HS.out], BY.out⟩
                case measure => simp [intOf] <;> omega
              · have hp' := HP.trans (decide_eq_true hp)
                have HS : Hid (anyB (likesB x) (m + 1) = true) := Lib.hid (by rw [HN.out, HLk.out, hok]; simp [hp])
                clear HP hp hok
                go_wp2_with fail
                go_roundw
                case rel => exact ⟨m + 1, by go_num, by omega, by rw [HS.out], BY.out⟩
                case measure => simp [intOf] <;> omega
        · have hm' : m = 16 := by omega
          subst hm'
          clear hb
          go_wp2_with fail
          refine (likes_any x wr (HX.out.below (gb_trans BU.out BQ.out))).mono ?_
          rintro en w6 ⟨rfl, hb⟩
          have BZ := Lib.hid (gb_trans (gb_trans BU.out BQ.out) hb)
          clear hb x0 x1 x2 x3
          generalize anyB (likesB x) 16 = cur at *
          cases cur
          all_goals
            go_wp2_with fail
            go_roundw
            case rel => exact ⟨k + 1, by go_num, by omega, BZ.out⟩
            case measure => simp [intOf] <;> omega
    · have hk' : k = 2 := by omega
      subst hk'
      go_wp2_with fail
      go_ret
      exact ⟨rfl, gb_trans BL.out B.out⟩
end Go.Proofs.Ytbbgiockmblamaa
