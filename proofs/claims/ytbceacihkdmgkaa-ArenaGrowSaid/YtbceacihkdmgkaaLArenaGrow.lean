import Derived.Test.YtbceacihkdmgkaaAwk1
import Derived.Test.YtbceacihkdmgkaaAlg
import Derived.Test.YtbceacihkdmgkaaSu2
import Derived.Test.YtbceacihkdmgkaaRdk
set_option linter.unusedVariables false
namespace Mq
/-- The nodes that were gone over. -/
def seenN (ns : List Nd) (k : Nat) : List (Nd × Bool) := ((ns.take k).drop 2).map fun n => (n, true)
theorem seenN_start (ns : List Nd) : seenN ns 2 = [] := by simp [seenN]
theorem seenN_next {ns : List Nd} {k : Nat} (h2 : 2 ≤ k) (hk : k < ns.length) : seenN ns (k + 1) = seenN ns k ++ [(nd ns k, true)] := by
  unfold seenN
  rw [List.take_succ_eq_append_getElem hk, List.drop_append_of_le_length (by simp; omega)]
  simp [nd, List.getD_eq_getElem?_getD, hk]
theorem look_notin {α β : Type} [DecidableEq α] {x : α} {L : List (α × β)} (h : ∀ p ∈ L, p.1 ≠ x) : look x L = none := by
  induction L with
  | nil => rfl
  | cons p l ih =>
    obtain ⟨y, b⟩ := p
    simp only [look]
    rw [if_neg (h (y, b) (by simp)), ih (fun p hp => h p (by simp [hp]))]
theorem seenN_look {ns : List Nd} (W : WF ns) {k : Nat} (h2 : 2 ≤ k) (hk : k < ns.length) : look (nd ns k) (seenN ns k) = none := by
  refine look_notin fun p hp e => ?_
  simp only [seenN, List.mem_map] at hp
  obtain ⟨n, hn, rfl⟩ := hp
  obtain ⟨j, hj⟩ := List.mem_iff_getElem?.1 hn
  rw [List.getElem?_drop, List.getElem?_take] at hj
  split at hj
  · rename_i hlt
    have hnd : nd ns (2 + j) = n := by simp [nd, List.getD_eq_getElem?_getD, hj]
    have := W.once (2 + j) k (by omega) (by omega) h2 hk (by rw [hnd]; exact e)
    omega
  · cases hj
end Mq
namespace Go.Proofs.Ytbceacihkdmgkaa
open Go.RowKit Mq

theorem calls_in2 {P : Program} {f : FuncId} {args : Array Value} {v : Value} {W : World} (h : ∀ w, Below W.heap.size W w → Calls P f args w fun e w' => e = .returned v ∧ Below w.heap.size w w') (x : InW (Below W.heap.size W)) :
    Calls P f args x.val fun e w' => e = .returned v ∧ ∃ y : InW (Below W.heap.size W), w' = y.val :=
  (h x.val x.prop).mono fun _ _ ⟨he, hb⟩ => ⟨he, in_after x hb⟩
/-- An arena over a row that grew. -/
theorem Ar.grown {w w' : World} {X : Nat → Prop} {a : Nat} {ns : List Nd} {most : Nat} {o : Option Nat} (h : Ar w X a ns most) (hg : w.grownBy w' o) (hx : ∀ k, o = some k → X k) :
    Ar w' (fun k => X k ∨ w.heap.size ≤ k ∧ k < w'.heap.size) a ns most := by
  obtain ⟨sb, g, cap, cur, h⟩ := h
  refine ⟨sb, g, cap, cur, h.moved (fun k hk hs => hg.block k hk fun e => ?_) (fun k hk => ?_) (fun k hk hs hY => ?_)⟩
  · exact h.not_x hs (hx k e.symm)
  · rcases hk with hk | hk
    · exact Nat.lt_of_lt_of_le (h.low k hk) hg.size
    · exact hk.2
  · rcases hY with hY | hY
    · exact h.not_x hs hY
    · omega
theorem run_nodes_look (w : World) {mb : Nat} {L : List (Nd × Bool)} (h : w.heap[mb]? = some (mapObj ndv boolv L)) (n : Nd) :
    (Instr.lookup 37 (.map (some mb)) (ndv n) false).run Try.prog w = .ok (.bool ((Mq.look n L).getD false)) w :=
  run_look node_key (e := 4) Try.underlying37 (z := false) (encv := boolv) (fun w => by kernel_rfl) w h n false
theorem run_nodes_store (w : World) {mb : Nat} {L : List (Nd × Bool)} (h : w.heap[mb]? = some (mapObj ndv boolv L)) (n : Nd) :
    (Instr.mapUpdate 37 (.map (some mb)) (ndv n) (.bool true)).run Try.prog w = .ok () (ChangeMaps.setBlock w mb (mapObj ndv boolv (Mq.put n true L))) :=
  Mq.run_store node_key Try.underlying37 (encv := boolv) w h n true

theorem below_trans' {w1 wr w5 : World} {X : Nat → Prop} (h : Below w1.heap.size w1 wr) (hk : Keep X wr w5) (hx : ∀ q, q < w1.heap.size → X q) : Below w1.heap.size w1 w5 :=
  ⟨hk.os.trans h.os, hk.tape.trans h.tape, hk.output.trans h.output, Nat.le_trans h.size hk.size, fun k hk1 => (hk.block k (hx k hk1) (Nat.lt_of_lt_of_le hk1 h.size)).trans (h.block k hk1)⟩
structure GrAr (bits : List Nat) (w1 wr : World) (a : Nat) (v : Value) (L : List Nat) (X : Nat → Prop) (ns : List Nd) : Prop where
  ar : Ar wr X a ns 4096
  old : ∀ q, q < w1.heap.size → X q
  own : ∀ q, v.ownBlock = some q → X q
  few : ns.length ≤ 2 + 15 * L.length
  tabs : ∀ j u b : Nat, L[j]? = some u → bits[j]? = some b → Tab ns u b
structure GrRel (bits : List Nat) (w1 wr : World) (a : Nat) (v : Value) (k : Nat) (L : List Nat) : Prop where
  ex : ∃ X ns, GrAr bits w1 wr a v L X ns
  len : L.length = min k 20
  below : Below w1.heap.size w1 wr
  owns : OwnsInts wr w1.heap.size v L

set_option maxRecDepth 100000 in
set_option maxHeartbeats 4000000 in
theorem walk_ArenaGrow (s : SlV Nat) (w : World) (hs : SlOk (fun b : Nat => [.int .u16 b]) 1 (fun _ b => b < 65536) w s) :
    Calls Try.prog 5 #[.slice s.A s.l.length s.cap] w fun e w' => e = .returned (.bool true) ∧ Below w.heap.size w w' := by
  have hl := hs.len_le
  have hmm := @run_makeMap Try.prog
  have HS := Lib.hid hs
  clear hs
  go_enter Try.func5, Try.ntmps5
  go_wp2_with fail
  refine (awake1 w).mono ?_
  rintro e w1 ⟨rfl, hb⟩
  have B1 := Lib.hid hb; clear hb
  go_wp2_with fail
  refine (of_any w1 4096 4096 (by decide)).mono ?_
  rintro e w2 ⟨a, rfl, hA, hk, hle⟩
  have A2 := Lib.hid hA; have K2 := Lib.hid hk; clear hA hk hle
  go_wp2_with fail
  go_loopw [16, 4] (fun j v wr => ∃ (k : Nat) (L : List Nat), j = .int .i64 k ∧ k ≤ s.l.length ∧ GrRel s.l w1 wr a v k L) (fun j _ _ => s.l.length - (intOf j).toNat)
  case atStart => exact ⟨0, [], rfl, by omega, ⟨_, _, A2.out, fun q hq => hq, fun q hq => by simp [Value.ownBlock] at hq, by simp, fun j u b h => by simp at h⟩, by simp, below_of_keep K2.out, rfl, .inl ⟨rfl, rfl⟩⟩
  case round =>
    obtain ⟨k, L, rfl, hk, hrel⟩ := hrel
    obtain ⟨Av, cv, rfl⟩ := hrel.owns.form
    have R := Lib.hid hrel
    have HLen := Lib.hid hrel.len
    have hle20 : L.length ≤ 20 := by have := hrel.len; omega
    clear hrel
    by_cases hlt : k < s.l.length
    · obtain ⟨b, hb⟩ : ∃ b, s.l[k]? = some b := ⟨_, List.getElem?_eq_getElem hlt⟩
      have hb16 := HS.out.ok b (List.mem_of_getElem? hb)
      obtain ⟨sb, so, hA, hBl, hc⟩ := HS.out.at_ (by omega)
      have c0 := hc k b hb 0 (by omega)
      rw [show so + k * 1 + 0 = so + k by omega] at c0
      simp only [List.getElem?_cons_zero] at c0
      have c1 := ((below_trans B1.out R.out.below).cell (p := ⟨sb, so + k, none⟩) hBl).trans c0
      have HB := Lib.hid hb
      have HA := Lib.hid hA
      rw [hA]
      clear hb c0 hc hA
      by_cases h20 : k < 20
      · obtain ⟨X, ns, G⟩ := R.out.ex
        have GG := Lib.hid G
        clear G
        have f0 := GG.out.few
        go_wp2_with fail
        refine (build_any GG.out.ar b hb16 (by omega)).mono ?_
        rintro e w5 ⟨ns5, u, rfl, hd, hA5, hk5⟩
        have T5 := Lib.hid (Tab.of_built hb16 hd)
        have X5 := Lib.hid hd.ext
        have f5 := hd.few
        have A5 := Lib.hid hA5
        have K5 := Lib.hid hk5
        have O5 : Hid (OwnsInts w5 w1.heap.size (.slice Av L.length cv) L) := Lib.hid (ow_move R.out.owns fun q h1 h2 h3 => hk5.block q (GG.out.own q h3) h1)
        have B5 : Hid (Below w1.heap.size w1 w5) := Lib.hid (below_trans' R.out.below hk5 GG.out.old)
        clear hd hA5 hk5 c1
        obtain ⟨i0, hi0, hz0, hz1, hz2⟩ := info_parts int_info
        have s5 := B5.out.size
        go_upto_region 10 with (at_builtin; refine wpList_append_lies _ rfl _ _ _ rfl w1.heap.size 3 i0 _ 1 8 Try.underlying36 hi0 hz0 hz1 hz2 rfl (by omega) _ L.length (L.map numv) rfl (ow_alloc O5.out _) ⟨w5.heap.size, 0, none⟩ 1 1 [.int .i64 u] rfl rfl (World.news_of_block (cs := #[.int .i64 u]) (heap_alloc_new w5 _)) (by intro q hq; simp at hq; subst hq; rfl) (by omega) (by unfold maxLen; omega) (by omega) (by simp; omega) _ rfl ?_; intro g cap' w7 hown7 hgrow hat hlt7)
        have B7 := Lib.hid (ow_grown (gb_alloc B5.out _) hgrow O5.out (by simp; omega))
        have O7 : Hid (OwnsInts w7 w1.heap.size (.slice (some ⟨g, 0, none⟩) (L.length + 1) cap') (L ++ [u])) := Lib.hid (by have := hown7; unfold OwnsInts; rw [List.length_append, List.map_append, List.length_singleton]; simpa [numv] using this)
        have A7 := Lib.hid ((A5.out.alloc (.cells #[.int .i64 u] 3)).grown hgrow fun q hq => .inl (GG.out.own q hq))
        have hat' : (Value.slice Av L.length cv).ownBlock = some g ∨ g = (w5.alloc (.cells #[.int .i64 u] 3)).heap.size := hat
        have HG : Hid (GrRel s.l w1 w7 a (.slice (some ⟨g, 0, none⟩) (L ++ [u]).length cap') (k + 1) (L ++ [u])) := Lib.hid ⟨⟨_, _, A7.out, fun q hq => .inl (.inl (GG.out.old q hq)), fun q hq => by
            simp [Value.ownBlock] at hq
            subst hq
            rcases hat' with h | h
            · exact .inl (.inl (GG.out.own _ h))
            · exact .inr ⟨by omega, hlt7⟩, by simp at f5 ⊢; omega, fun j u' b' h1 h2 => by
            by_cases hj : j < L.length
            · rw [List.getElem?_append_left hj] at h1
              exact (GG.out.tabs j u' b' h1 h2).ext GG.out.ar.wf X5.out
            · have hj2 : j = L.length := by have := (List.getElem?_eq_some_iff.1 h1).1; simp at this; omega
              subst hj2
              simp at h1
              subst h1
              have : L.length = k := by have := HLen.out; omega
              rw [this] at h2
              rw [HB.out] at h2
              injection h2 with h2
              subst h2
              exact T5.out⟩, by have := HLen.out; simp; omega, B7.out, by rw [List.length_append, List.length_singleton]; exact O7.out⟩
        clear hgrow hat hat' hown7 hi0 hz0 hz1 hz2
        go_wp2_with fail
        go_roundw
        case rel => exact ⟨k + 1, L ++ [u], by go_num, by omega, by have := HG.out; rw [List.length_append, List.length_singleton] at this; exact this⟩
        case measure => simp [intOf] <;> omega
      · have HG : Hid (GrRel s.l w1 wr a (.slice Av L.length cv) (k + 1) L) := Lib.hid ⟨R.out.ex, by have := HLen.out; omega, R.out.below, R.out.owns⟩
        go_wp2_with fail
        go_roundw
        case rel => exact ⟨k + 1, L, by go_num, by omega, HG.out⟩
        case measure => simp [intOf] <;> omega
    · have hk' : k = s.l.length := by omega
      subst hk'
      obtain ⟨X, ns, G⟩ := R.out.ex
      have GG := Lib.hid G
      clear G
      have f0 := GG.out.few
      have l0 := GG.out.ar.wf.two
      go_wp2_with fail
      have hAm := GG.out.ar.alloc (.map #[] 0)
      have hm := heap_alloc_new wr (.map #[] 0)
      have hBm := below_alloc (Below.refl wr.heap.size wr) (.map #[] 0)
      generalize wr.alloc (.map #[] 0) = Wm at *
      have hsz := R.out.below.size
      generalize hmb : wr.heap.size = mb at *
      have AM := Lib.hid hAm
      have HM := Lib.hid hm
      have HBM := Lib.hid hBm
      have HMB := Lib.hid hmb
      clear hAm hm hBm hmb hmm
      go_loopw [8] (fun j wi => ∃ k : Nat, j = .int .i64 k ∧ 2 ≤ k ∧ k ≤ ns.length ∧ Keep (SzY mb) Wm wi ∧ wi.heap[mb]? = some (mapObj ndv boolv (seenN ns k))) (fun j _ => ns.length - (intOf j).toNat)
      case atStart => exact ⟨2, rfl, by omega, by omega, Keep.refl _ _, by rw [seenN_start]; exact HM.out⟩
      case round =>
        obtain ⟨k, rfl, h2, hk, hK, hmk⟩ := hrel
        have AI := Lib.hid (AM.out.keepY (mb := mb) (.inr rfl) hK)
        have KI := Lib.hid hK
        have MI := Lib.hid hmk
        clear hK hmk
        go_wp2_with fail
        refine (len_any AI.out).mono ?_
        rintro e w6 ⟨rfl, rfl⟩
        by_cases hlt : k < ns.length
        · have hgi := Lib.hid (geti_nat ns k)
          have HN := Lib.hid (seenN_next h2 hlt)
          have HL := Lib.hid (seenN_look AI.out.wf h2 hlt)
          go_wp2_with fail
          refine (get_any AI.out k).mono ?_
          rintro e w7 ⟨rfl, hb7⟩
          rw [hgi.out]
          have A7 := Lib.hid (AI.out.below hb7)
          have lm := (Array.getElem?_eq_some_iff.1 MI.out).1
          have M7 := Lib.hid (blk_below hb7 MI.out lm)
          have B7 := Lib.hid hb7
          have hlk := run_nodes_look w7 M7.out (nd ns k)
          rw [HL.out] at hlk
          generalize nd ns k = q at *
          obtain ⟨qv, ql, qh⟩ := q
          unfold ndv at hlk ⊢
          simp only [Option.getD_none] at hlk ⊢
          clear hb7
          go_wp2_with fail
          refine (get_any A7.out k).mono ?_
          rintro e w8 ⟨rfl, hb8⟩
          rw [hgi.out]
          have M8 := Lib.hid (blk_below hb8 M7.out (Array.getElem?_eq_some_iff.1 M7.out).1)
          have hst := run_nodes_store w8 M8.out ⟨qv, ql, qh⟩
          rw [put_new HL.out, ← HN.out] at hst
          have HST := Lib.hid hst
          have B8 := Lib.hid (below_trans B7.out hb8)
          have lm8 := (Array.getElem?_eq_some_iff.1 M8.out).1
          have K9 := Lib.hid ((KI.out.trans (Keep.below B8.out)).trans (set_keepY w8 mb (mapObj ndv boolv (seenN ns (k + 1)))))
          have M9 := Lib.hid (set_new lm8 (mapObj ndv boolv (seenN ns (k + 1))))
          unfold ndv at HST ⊢
          rw [show (fun n : Nd => Value.agg #[.int .i64 n.v, .int .i64 n.lo, .int .i64 n.hi]) = ndv from rfl] at HST
          simp only at HST ⊢
          clear hlk hb8 hst
          go_wp2_with fail
          rw [HST.out]
          generalize ChangeMaps.setBlock w8 mb (mapObj ndv boolv (seenN ns (k + 1))) = w9 at *
          go_wp2_with fail
          go_roundw
          case rel => exact ⟨k + 1, by go_num, by omega, by omega, K9.out, M9.out⟩
          case measure => simp [intOf] <;> omega
        · have hk' : k = ns.length := by omega
          subst hk'
          have SF := R.out.owns.at_
          rw [HMB.out] at SF
          have BS := Lib.hid (gb_trans B1.out R.out.below)
          have BWm : Hid (Below w.heap.size w wr) := Lib.hid (below_of_keepY (below_trans BS.out (by rw [HMB.out]; exact HBM.out)) KI.out (by rw [← HMB.out]; exact (gb_trans B1.out R.out.below).size))
          have SFI : Hid (Sli (fun x : Nat => [numv x]) 1 wr mb Av L) := Lib.hid fun hpos => by
            obtain ⟨b, off, hA, hB, hc⟩ := SF hpos
            exact ⟨b, off, hA, hB, fun q u hu j hj => ((KI.out.cell (p := ⟨b, off + q * 1 + j, none⟩) (show b ≠ mb by omega) (by have := HBM.out.size; have := HMB.out; simp only; omega)).trans (HBM.out.cell (p := ⟨b, off + q * 1 + j, none⟩) hB)).trans (hc q u hu j hj)⟩
          clear SF
          go_wp2_with fail
          go_loopw [48] (fun j wi => ∃ k : Nat, j = .int .i64 k ∧ k ≤ L.length ∧ Below wr.heap.size wr wi) (fun j _ => L.length - (intOf j).toNat)
          case atStart => exact ⟨0, rfl, by omega, Below.refl _ _⟩
          case round =>
            obtain ⟨k, rfl, hk, hb⟩ := hrel
            have BI := Lib.hid hb
            clear hb
            by_cases hlt : k < L.length
            · obtain ⟨u, hu⟩ : ∃ u, L[k]? = some u := ⟨_, List.getElem?_eq_getElem hlt⟩
              have hks : k < s.l.length := by have := HLen.out; omega
              obtain ⟨b, hb⟩ : ∃ b, s.l[k]? = some b := ⟨_, List.getElem?_eq_getElem hks⟩
              have T := Lib.hid (GG.out.tabs k u b hu hb)
              obtain ⟨fb, fo, hfA, hfB, hfc⟩ := SFI.out (by omega)
              have c0 := hfc k u hu 0 (by omega)
              rw [show fo + k * 1 + 0 = fo + k by omega] at c0
              simp only [List.getElem?_cons_zero, numv] at c0
              have c1 := (BI.out.cell (p := ⟨fb, fo + k, none⟩) (Nat.lt_of_lt_of_le hfB (by have := (Array.getElem?_eq_some_iff.1 MI.out).1; omega))).trans c0
              obtain ⟨sb, so, hA, hBl, hc⟩ := HS.out.at_ (by omega)
              have d0 := hc k b hb 0 (by omega)
              rw [show so + k * 1 + 0 = so + k by omega] at d0
              simp only [List.getElem?_cons_zero] at d0
              have BWi := Lib.hid (below_trans BWm.out BI.out)
              have hd : ∀ x : InW (Below wr.heap.size wr), x.val.cell? ⟨sb, so + k, none⟩ = some (.int .u16 b) := fun x => ((below_trans BWi.out x.prop).cell (p := ⟨sb, so + k, none⟩) hBl).trans d0
              have AW := Lib.hid (AI.out.below BI.out)
              subst hfA
              rw [hA]
              have k1 := fun (x : InW (Below wr.heap.size wr)) => calls_in2 (fun w' hb => table_any (AW.out.below hb) u T.out.lt) x
              have k2 := fun (x : InW (Below wr.heap.size wr)) => calls_in2 (fun w' hb => bits_any w' (fun i => ev ns (row4 i) u)) x
              rw [T.out.num] at k2
              have Q1 := Lib.hid k1; have Q2 := Lib.hid k2
              clear c0 d0 hc hA hfc k1 k2
              go_wp2_with fail
              clear c1
              refine wp_region_in (Below wr.heap.size wr) (by kernel_rfl) (by kernel_rfl) (Below.refl _ _).drew ?_
              repeat (go_big_quiet_step (first | (with_reducible exact Q1.out _) | (with_reducible exact Q2.out _)))
              refine wpQuiet_nil ?_
              rintro _ ⟨⟨w9, hb9⟩, rfl⟩
              have B9 := Lib.hid (below_trans BI.out hb9)
              clear hb9 hd
              go_wp2_with fail
              go_roundw
              case rel => exact ⟨k + 1, by go_num, by omega, B9.out⟩
              case measure => simp [intOf] <;> omega
            · have hk' : k = L.length := by omega
              subst hk'
              go_wp2_with fail
              go_ret
              exact ⟨rfl, below_trans BWm.out BI.out⟩
end Go.Proofs.Ytbceacihkdmgkaa
