import Derived.Test.YteciceelinbfoaaDoorWr
import Derived.Test.YteciceelinbfoaaDoorNf
set_option linter.unusedVariables false
namespace Go.Proofs.YteciceelinbfoaaDoor
open Go.RowKit Mq

/-- A block that holds a list's cells. -/
theorem sli_blk {α : Type} {enc : α → List Value} {size B b : Nat} {w : World} {t : TypeId} {l : List α} {cs : Array Value} (h : w.heap[b]? = some (.cells cs t (0, 0))) (hc : cs = (l.flatMap enc).toArray) (hs : ∀ a, (enc a).length = size) (hB : b < B) : Sli enc size w B (some ⟨b, 0, none⟩) l := by
  subst hc
  intro hl
  refine ⟨b, 0, rfl, hB, fun k u hk j hj => ?_⟩
  rw [gb_cell h, ← flat_at hs l k j u hk hj]
  simp
theorem lkc_len (l : LkV) : (lkc l).length = 5 := rfl
theorem rtc_len (l : RtV) : (rtc l).length = 5 := rfl
theorem mpc_len (l : MpV) : (mpc l).length = 3 := rfl
theorem stc_len (l : StV) : (stc l).length = 4 := rfl
theorem pfc_len (l : Pfx) : (pfc l).length = 2 := rfl
theorem slok_nil {α : Type} {enc : α → List Value} {size : Nat} {Ok : World → α → Prop} {w : World} : SlOk enc size Ok w ⟨none, 0, []⟩ :=
  ⟨Sli.nil _ _ _, fun u hu => by simp at hu, by simp, by simp [maxLen]⟩
/-- The numbers that are told. -/
theorem linkBad_num {rts : List RtV} {ms : List ByteArray} {me : ByteArray} : ∀ {ls : List LkV} {seen : List ByteArray} {q : Int × Int}, linkBad rts ms me seen ls = some q → q.1 = 3 ∨ q.1 = 4 ∨ q.1 = 5
  | [], _, q, h => by cases h
  | l :: ls, seen, q, h => by
    rw [linkBad] at h
    split at h
    · cases h; exact .inl rfl
    · rename_i hc
      split at h
      · cases h; exact .inr (.inl rfl)
      · split at h
        · rename_i hf
          exfalso
          apply hc
          have : (rts.any fun r => decide (r.name = l.peer)) = false := by
            rw [← routerL_some, routerL_eq, hf]; rfl
          rw [this]; rfl
        · split at h
          · exact linkBad_num h
          · cases h; exact .inr (.inr rfl)
theorem waysBad_num {ls : List LkV} : ∀ {ss : List StV} {seen : List Pfx} {q : Int × Int}, waysBad ls seen ss = some q → q.1 = 3 ∨ q.1 = 4
  | [], _, q, h => by cases h
  | s :: ss, seen, q, h => by
    rw [waysBad] at h
    split at h
    · split at h
      · cases h; exact .inr rfl
      · exact waysBad_num h
    · cases h; exact .inl rfl
theorem rtBad_num {rts : List RtV} {ms : List ByteArray} {r : RtV} {q : Int × Int} (h : rtBad rts ms r = some q) : q.1 = 3 ∨ q.1 = 4 ∨ q.1 = 5 := by
  unfold rtBad at h
  split at h
  · cases h; exact .inr (.inl rfl)
  · cases hl : linkBad rts ms r.name [] r.links.l with
    | some p => rw [hl] at h; cases h; exact linkBad_num hl
    | none =>
      rw [hl] at h
      rcases waysBad_num h with h | h
      · exact .inl h
      · exact .inr (.inl h)
theorem rtsBad_num {rts : List RtV} {ms : List ByteArray} : ∀ {rs : List RtV} {q : Int × Int}, rtsBad rts ms rs = some q → q.1 = 3 ∨ q.1 = 4 ∨ q.1 = 5
  | [], q, h => by cases h
  | r :: rs, q, h => by
    rw [rtsBad] at h
    cases hr : rtBad rts ms r with
    | some p => rw [hr] at h; cases h; exact rtBad_num hr
    | none => rw [hr] at h; exact rtsBad_num h
theorem cfgBad_num {c : CfV} {q : Int × Int} (h : cfgBad c = some q) : q.1 = 3 ∨ q.1 = 4 ∨ q.1 = 5 := by
  unfold cfgBad at h
  split at h
  · cases h; exact .inr (.inl rfl)
  · split at h
    · cases h; exact .inr (.inl rfl)
    · exact rtsBad_num h
/-- The document's example. -/
def awA : ByteArray := ⟨#[97]⟩
def awB : ByteArray := ⟨#[98]⟩
def nilS : ByteArray := ⟨#[]⟩
def awCfg (b1 b2 : Nat) : CfV := ⟨⟨none, 0, []⟩, ⟨some ⟨b2, 0, none⟩, 2, [⟨awA, ⟨none, 0, []⟩, ⟨some ⟨b1, 0, none⟩, 1, [⟨awB, 1, nilS, nilS, 7⟩]⟩, ⟨none, 0, []⟩, 0⟩, ⟨awB, ⟨none, 0, []⟩, ⟨none, 0, []⟩, ⟨none, 0, []⟩, 0⟩]⟩⟩
theorem aw_bad (b1 b2 : Nat) : cfgBad (awCfg b1 b2) = some (5, 7) := by
  have e1 : ¬ awA = awB := by decide
  have e2 : ¬ awB = awA := by decide
  have e3 : nilS.toList = [] := by simp [nilS, ByteArray.toList_eq]
  simp [cfgBad, awCfg, dupL, mapN, rtN, rtsBad, rtBad, dupP, linkBad, peerL, ba_toList, e1, e2, e3]
theorem aw_ok {W : World} {b1 b2 : Nat} (h1 : W.heap[b1]? = some (.cells #[.string ⟨#[98]⟩, .int .i64 1, .string ⟨#[]⟩, .string ⟨#[]⟩, .int .i64 7] 50 (0, 0)))
    (h2 : W.heap[b2]? = some (.cells #[.string ⟨#[97]⟩, .slice none 0 0, .slice (some ⟨b1, 0, none⟩) 1 1, .slice none 0 0, .int .i64 0, .string ⟨#[98]⟩, .slice none 0 0, .slice none 0 0, .slice none 0 0, .int .i64 0] 48 (0, 0))) : CfOk W (awCfg b1 b2) := by
  refine ⟨slok_nil, ⟨sli_blk h2 (by rfl) rtc_len (gb_lt h2), ?_, by simp [awCfg], by simp [awCfg, maxLen]⟩⟩
  intro u hu
  simp only [awCfg, List.mem_cons, List.not_mem_nil, or_false] at hu
  rcases hu with rfl | rfl
  · exact ⟨slok_nil, ⟨sli_blk h1 (by rfl) lkc_len (gb_lt h1), fun _ _ => trivial, by simp, by simp [maxLen]⟩, slok_nil⟩
  · exact ⟨slok_nil, slok_nil, slok_nil⟩
theorem aw_config (b1 b2 : Nat) (w : World) (hc : CfOk w (awCfg b1 b2)) :
    Calls Tryd.prog 9 #[.agg #[.slice none 0 0, .slice (some ⟨b2, 0, none⟩) 2 2]] w
      fun e w' => e = .returned (.iface 82 (.agg #[.int .i64 5, .int .i64 7])) ∧ Below w.heap.size w w' :=
  (config_any (awCfg b1 b2) w hc).mono fun e w' h => ⟨by rw [h.1, aw_bad]; rfl, h.2⟩
set_option maxRecDepth 100000 in
set_option maxHeartbeats 4000000 in
theorem awake09 (w : World) (hg : ErrG w) : Calls Tryd.prog 8 #[] w fun e w' => e = .returned (.bool true) ∧ Below w.heap.size w w' := by
  have HG := Lib.hid hg
  clear hg
  go_enter Tryd.func8, Tryd.ntmps8
  go_wp2_with fail
  have t1 := gb_old _ (.cells #[.string ⟨#[97]⟩, .slice none 0 0, .slice (some ⟨w.heap.size, 0, none⟩) 1 1, .slice none 0 0, .int .i64 0, .string ⟨#[98]⟩, .slice none 0 0, .slice none 0 0, .slice none 0 0, .int .i64 0] 48) (gb_new w (.cells #[.string ⟨#[98]⟩, .int .i64 1, .string ⟨#[]⟩, .string ⟨#[]⟩, .int .i64 7] 50))
  have t2 := gb_new (w.alloc (.cells #[.string ⟨#[98]⟩, .int .i64 1, .string ⟨#[]⟩, .string ⟨#[]⟩, .int .i64 7] 50)) (.cells #[.string ⟨#[97]⟩, .slice none 0 0, .slice (some ⟨w.heap.size, 0, none⟩) 1 1, .slice none 0 0, .int .i64 0, .string ⟨#[98]⟩, .slice none 0 0, .slice none 0 0, .slice none 0 0, .int .i64 0] 48)
  simp only [World.size_alloc] at t2
  have hb0 := gb_alloc (gb_alloc (Below.refl w.heap.size w) (.cells #[.string ⟨#[98]⟩, .int .i64 1, .string ⟨#[]⟩, .string ⟨#[]⟩, .int .i64 7] 50)) (.cells #[.string ⟨#[97]⟩, .slice none 0 0, .slice (some ⟨w.heap.size, 0, none⟩) 1 1, .slice none 0 0, .int .i64 0, .string ⟨#[98]⟩, .slice none 0 0, .slice none 0 0, .slice none 0 0, .int .i64 0] 48)
  refine (aw_config _ _ _ (aw_ok t1 t2)).mono ?_
  rintro en w1 ⟨rfl, hb⟩
  have B1 := Lib.hid (gb_trans hb0 hb)
  clear hb0 hb t1 t2
  go_wp2_with fail
  refine (number_fault 5 7 _ (HG.out.below B1.out)).mono ?_
  rintro en w2 ⟨rfl, hb⟩
  have B2 := Lib.hid (gb_trans B1.out hb)
  clear hb
  go_wp2_with fail
  refine (place_fault 5 7 _ (HG.out.below B2.out)).mono ?_
  rintro en w3 ⟨rfl, hb⟩
  have B3 := Lib.hid (gb_trans B2.out hb)
  clear hb
  go_wp2_with fail
  go_ret
  exact ⟨rt_bool (by simp), B3.out⟩
end Go.Proofs.YteciceelinbfoaaDoor
