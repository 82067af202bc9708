import Derived.Test.YtbceacihkdmgkaaDoorAwk1
import Derived.Test.YtbceacihkdmgkaaDoorMkE
import Derived.Test.YtbceacihkdmgkaaDoorNum
import Derived.Test.YtbceacihkdmgkaaDoorRdk
import Derived.Test.YtbceacihkdmgkaaDoorAp
import Derived.Test.YtbceacihkdmgkaaDoorAg
set_option linter.unusedVariables false
namespace Mq
structure ActV where
  v : Int
  lo : Int
  hi : Int
structure ActV.Ok (a : ActV) : Prop where
  v : -128 ≤ a.v ∧ a.v ≤ 127
  lo : -128 ≤ a.lo ∧ a.lo ≤ 127
  hi : -128 ≤ a.hi ∧ a.hi ≤ 127
def eqI (n : Nd) (v lo hi : Int) : Bool := (n.v : Int) == v && ((n.lo : Int) == lo && (n.hi : Int) == hi)
/-- The last of the first i nodes that is this one; -1, if none is. -/
def atI (ns : List Nd) (v lo hi : Int) : Nat → Int
  | 0 => -1
  | i + 1 => if eqI (nd ns i) v lo hi then (i : Int) else atI ns v lo hi i
theorem atI_bd (ns : List Nd) (v lo hi : Int) (i : Nat) : -1 ≤ atI ns v lo hi i ∧ atI ns v lo hi i < i := by
  induction i with
  | zero => simp [atI]
  | succ i ih => simp only [atI]; split <;> omega
theorem eqI_iff {n q : Nd} : eqI n q.v q.lo q.hi = true ↔ n = q := by
  obtain ⟨a, b, c⟩ := n
  obtain ⟨d, e, f⟩ := q
  simp [eqI]
  omega
theorem atI_none {ns : List Nd} {n : Nd} (W : WF ns) (hv : n.v < 1024) (h : place ns n = none) : ∀ i, i ≤ ns.length → atI ns n.v n.lo n.hi i = -1 := by
  intro i
  induction i with
  | zero => intro _; rfl
  | succ i ih =>
    intro hi
    simp only [atI]
    rw [if_neg, ih (by omega)]
    intro e
    rw [eqI_iff] at e
    by_cases h2 : 2 ≤ i
    · exact place_none h i h2 (by omega) e
    · have : i = 0 ∨ i = 1 := by omega
      rcases this with rfl | rfl
      · rw [W.zero] at e; subst e; simp [no] at hv
      · rw [W.one] at e; subst e; simp [yes] at hv
theorem atI_some {ns : List Nd} {n : Nd} {k : Nat} (W : WF ns) (hv : n.v < 1024) (h : place ns n = some k) : ∀ i, i ≤ ns.length → atI ns n.v n.lo n.hi i = if k < i then (k : Int) else -1 := by
  obtain ⟨h2, hk, hn⟩ := place_some h
  intro i
  induction i with
  | zero => intro _; rfl
  | succ i ih =>
    intro hi
    simp only [atI]
    by_cases e : i = k
    · subst e; rw [if_pos (eqI_iff.2 hn), if_pos (by omega)]
    · rw [if_neg, ih (by omega)]
      · by_cases q : k < i
        · rw [if_pos q, if_pos (by omega)]
        · rw [if_neg q, if_neg (by omega)]
      · intro e'
        rw [eqI_iff] at e'
        by_cases h2' : 2 ≤ i
        · exact e (W.once i k h2' (by omega) h2 hk (e'.trans hn.symm))
        · have : i = 0 ∨ i = 1 := by omega
          rcases this with rfl | rfl
          · rw [W.zero] at e'; subst e'; simp [no] at hv
          · rw [W.one] at e'; subst e'; simp [yes] at hv
end Mq
namespace Go.Proofs.YtbceacihkdmgkaaDoor
open Go.RowKit Go.WideShapes Go.ChangeShapes Go.Deep Mq

def actc (a : ActV) : List Value := [.int .i8 a.v, .int .i8 a.lo, .int .i8 a.hi]
theorem rd_i8 {P : Program} {t : TypeId} (ht : P.underlying t = some (.int .i8)) : Rdr P t (fun b : Int => [.int .i8 b]) (fun _ b => -128 ≤ b ∧ b ≤ 127) := by
  intro H enc w base spare held n cs x h
  obtain ⟨b, hb, -, hw⟩ := DataW.trod_int ht h
  have := bounds_i8 hw
  exact ⟨b, hb, by omega⟩
set_option maxRecDepth 100000 in
theorem rd_act : Rdr Tryd.prog 31 actc (fun _ a => a.Ok) := by
  intro H enc w base spare held n cs x h
  obtain ⟨xs, m, -, -, hl, hxl, hf⟩ := DataW.trod_struct Tryd.underlying31 h
  have hl' : cs.length = 3 := hl.trans (by kernel_rfl)
  match cs, hl' with
  | [q0, q1, q2], _ =>
    obtain ⟨y0, g0⟩ := rd_at hxl hf (i := 0) rfl (k := 1) (by kernel_rfl)
    obtain ⟨v0, e0, w0⟩ := rd_i8 Tryd.underlying29 (cs := [q0]) g0
    obtain ⟨y1, g1⟩ := rd_at hxl hf (i := 1) rfl (k := 1) (by kernel_rfl)
    obtain ⟨v1, e1, w1⟩ := rd_i8 Tryd.underlying29 (cs := [q1]) g1
    obtain ⟨y2, g2⟩ := rd_at hxl hf (i := 2) rfl (k := 1) (by kernel_rfl)
    obtain ⟨v2, e2, w2⟩ := rd_i8 Tryd.underlying29 (cs := [q2]) g2
    simp only [List.cons.injEq, and_true] at e0 e1 e2
    subst e0
    subst e1
    subst e2
    exact ⟨⟨v0, v1, v2⟩, rfl, ⟨w0, w1, w2⟩⟩

instance (ns : List Nd) (v lo hi : Int) : Decidable (okZ ns v lo hi) := by unfold okZ; infer_instance
/-- Mk, of any numbers. -/
def mkI (m : Nat) (ns : List Nd) (v lo hi : Int) : List Nd × Nat × Nat := if okZ ns v lo hi then mk m ns ⟨v.toNat, lo.toNat, hi.toNat⟩ else (ns, 0, 10)
theorem mkI_bad {m : Nat} {ns : List Nd} {v lo hi : Int} (h : ¬ okZ ns v lo hi) : mkI m ns v lo hi = (ns, 0, 10) := if_neg h
theorem mkI_nd {m : Nat} {ns : List Nd} {n : Nd} (h : okNd ns n) : mkI m ns n.v n.lo n.hi = mk m ns n := by
  unfold mkI
  rw [if_pos (Go.Proofs.YtbceacihkdmgkaaDoor.okNd.z h)]
  simp
theorem mkI_any {w : World} {X : Nat → Prop} {a : Nat} {ns : List Nd} {most : Nat} (h : Ar w X a ns most) (v lo hi : Int) :
    Calls Tryd.prog 11 #[.pointer (some ⟨a, 0, none⟩), .int .i64 v, .int .i64 lo, .int .i64 hi] w (MkPost X a most w (mkI most ns v lo hi).1 (mkI most ns v lo hi).2.1 (mkI most ns v lo hi).2.2) := by
  by_cases ok : okZ ns v lo hi
  · obtain ⟨n, rfl, rfl, rfl, hok⟩ := ok.nd
    rw [mkI_nd hok]
    exact mk_any h n hok
  · rw [mkI_bad ok]
    exact mk_bad h v lo hi ok
/-- Nodes in a row of the call's own. -/
def OwnsNds (w : World) (base : Nat) (v : Value) (ns : List Nd) : Prop := w.ownsRow base 27 3 v ns.length (cellsOf ns)
theorem OwnsNds.form {w : World} {base : Nat} {v : Value} {ns : List Nd} (h : OwnsNds w base v ns) : ∃ A c, v = .slice A ns.length c := by
  rcases h.2 with ⟨rfl, hn⟩ | ⟨g, cap, cur, rfl, -⟩
  · exact ⟨none, 0, by rw [hn]⟩
  · exact ⟨_, _, rfl⟩
theorem OwnsNds.at_ {w : World} {base : Nat} {A : Option Addr} {n c : Nat} {ns : List Nd} (h : OwnsNds w base (.slice A n c) ns) : Sli ndc 3 w w.heap.size A ns := by
  obtain ⟨A', c', e⟩ := h.form
  injection e with e1 e2 e3
  subst e2
  exact Sli.of_own (fun a => rfl) (by omega) h
structure ScAr (w1 wr : World) (a m : Nat) (v : Value) (X : Nat → Prop) (ns : List Nd) : Prop where
  ar : Ar wr X a ns m
  old : ∀ q, q < w1.heap.size → X q
  own : ∀ q, v.ownBlock = some q → X q
structure ScRel (w1 wr : World) (a m : Nat) (v : Value) (ns : List Nd) : Prop where
  ex : ∃ X, ScAr w1 wr a m v X ns
  below : Below w1.heap.size w1 wr
  owns : OwnsNds wr w1.heap.size v ns
theorem below_trans3 {w1 wr w5 : World} {X : Nat → Prop} (h : Below w1.heap.size w1 wr) (hk : Keep X wr w5) (hx : ∀ q, q < w1.heap.size → X q) : Below w1.heap.size w1 w5 :=
  ⟨hk.os.trans h.os, hk.tape.trans h.tape, hk.output.trans h.output, Nat.le_trans h.size hk.size, fun k hk1 => (hk.block k (hx k hk1) (Nat.lt_of_lt_of_le hk1 h.size)).trans (h.block k hk1)⟩
attribute [local go_sem high] max2_ii
set_option maxRecDepth 100000 in
set_option maxHeartbeats 4000000 in
theorem walk_ArenaScript (most : Nat) (s : SlV ActV) (w : World) (hmost : most < 256) (hs : SlOk actc 3 (fun _ a => a.Ok) w s) (hg : ErrG w) :
    Calls Tryd.prog 3 #[.int .u8 most, .slice s.A s.l.length s.cap] w fun e w' => e = .returned (.bool true) ∧ Below w.heap.size w w' := by
  have G := Lib.hid hg; clear hg
  have hl := hs.len_le
  have HS := Lib.hid hs
  clear hs
  obtain ⟨m, hm⟩ : ∃ m : Nat, (m : Int) = max 2 (min (most : Int) 131072) := ⟨max 2 most, by omega⟩
  have HM := Lib.hid hm
  have hroom : max 2 (most : Int) = (m : Int) := by omega
  have hm256 : m < 256 := by omega
  have hm2 : 2 ≤ m := by omega
  clear hm
  go_enter Tryd.func3, Tryd.ntmps3
  go_wp2_with fail
  refine (awake1 w).mono ?_
  rintro e w1 ⟨rfl, hb⟩
  have B1 := Lib.hid hb; clear hb
  go_wp2_with fail
  refine (of_any w1 most m HM.out).mono ?_
  rintro e w2 ⟨a, rfl, hA, hk, hle⟩
  have A2 := Lib.hid hA; have K2 := Lib.hid hk; clear hA hk hle
  go_wp2_with fail
  have hA := A2.out.alloc (.cells #[.int .i64 1024, .int .i64 0, .int .i64 0, .int .i64 1024, .int .i64 1, .int .i64 1] 27)
  have hbx := heap_alloc_new w2 (.cells #[.int .i64 1024, .int .i64 0, .int .i64 0, .int .i64 1024, .int .i64 1, .int .i64 1] 27)
  have hK := K2.out.alloc (.cells #[.int .i64 1024, .int .i64 0, .int .i64 0, .int .i64 1024, .int .i64 1, .int .i64 1] 27)
  generalize w2.alloc (.cells #[.int .i64 1024, .int .i64 0, .int .i64 0, .int .i64 1024, .int .i64 1, .int .i64 1] 27) = W at *
  have hsz2 := K2.out.size
  have R0 : Hid (ScRel w1 W a m (.slice (some ⟨w2.heap.size, 0, none⟩) 2 2) [no, yes]) := Lib.hid ⟨⟨_, hA, fun q hq => .inl hq, fun q hq => .inr (by simp [Value.ownBlock] at hq; exact hq.symm)⟩, below_of_keep hK, rfl, .inr ⟨w2.heap.size, 2, _, rfl, hsz2, hbx, Nat.le_refl _, by unfold maxLen; omega, rfl, rfl⟩⟩
  clear hA hbx hK
  go_loopw [33, 7] (fun j v wr => ∃ (k : Nat) (ns : List Nd), j = .int .i64 k ∧ k ≤ s.l.length ∧ ScRel w1 wr a m v ns) (fun j _ _ => s.l.length - (intOf j).toNat)
  case atStart => exact ⟨0, [no, yes], rfl, by omega, R0.out⟩
  case round =>
    obtain ⟨k, ns, rfl, hk, hrel⟩ := hrel
    obtain ⟨Av, cv, rfl⟩ := hrel.owns.form
    have R := Lib.hid hrel
    clear hrel
    by_cases hlt : k < s.l.length
    · obtain ⟨u, hu⟩ : ∃ u, s.l[k]? = some u := ⟨_, List.getElem?_eq_getElem hlt⟩
      have hok := HS.out.ok u (List.mem_of_getElem? hu)
      obtain ⟨sb, so, hA, hBl, hc⟩ := HS.out.at_ (by omega)
      have hbw := below_trans B1.out R.out.below
      have c0 := (hbw.cell (p := ⟨sb, so + k * 3 + 0, none⟩) hBl).trans (hc k u hu 0 (by omega))
      have c1 := (hbw.cell (p := ⟨sb, so + k * 3 + 1, none⟩) hBl).trans (hc k u hu 1 (by omega))
      have c2 := (hbw.cell (p := ⟨sb, so + k * 3 + 2, none⟩) hBl).trans (hc k u hu 2 (by omega))
      rw [Nat.add_zero] at c0
      obtain ⟨uv, ul, uh⟩ := u
      simp only [actc, List.getElem?_cons_zero, List.getElem?_cons_succ] at c0 c1 c2
      have HU := Lib.hid hu
      obtain ⟨⟨o1, o2⟩, ⟨o3, o4⟩, ⟨o5, o6⟩⟩ := hok
      simp only at o1 o2 o3 o4 o5 o6
      rw [hA]
      clear hc hA hbw hu
      have hsr := R.out.below.size
      go_wp2_with fail
      obtain ⟨X, SA⟩ := R.out.ex
      have hA2 := (SA.ar.alloc (.cells #[.int .i8 uv, .int .i8 ul, .int .i8 uh] 31)).alloc (.cells #[.int .i64 uv, .int .i64 ul, .int .i64 uh] 27)
      have hb2 := gb_alloc (gb_alloc R.out.below (.cells #[.int .i8 uv, .int .i8 ul, .int .i8 uh] 31)) (.cells #[.int .i64 uv, .int .i64 ul, .int .i64 uh] 27)
      have ho2 : OwnsNds _ _ _ _ := ow_alloc (ow_alloc R.out.owns (.cells #[.int .i8 uv, .int .i8 ul, .int .i8 uh] 31)) (.cells #[.int .i64 uv, .int .i64 ul, .int .i64 uh] 27)
      have hx2 := gb_new (wr.alloc (.cells #[.int .i8 uv, .int .i8 ul, .int .i8 uh] 31)) (.cells #[.int .i64 uv, .int .i64 ul, .int .i64 uh] 27)
      have hsz1 : (wr.alloc (.cells #[.int .i8 uv, .int .i8 ul, .int .i8 uh] 31)).heap.size = wr.heap.size + 1 := by simp
      rw [hsz1] at hx2 hA2
      have OLD : Hid (∀ q, q < w1.heap.size → (X q ∨ q = wr.heap.size) ∨ q = wr.heap.size + 1) := Lib.hid fun q hq => .inl (.inl (SA.old q hq))
      have OWN : Hid (∀ q, (Value.slice Av ns.length cv).ownBlock = some q → (X q ∨ q = wr.heap.size) ∨ q = wr.heap.size + 1) := Lib.hid fun q hq => .inl (.inl (SA.own q hq))
      have XB : Hid ((X (wr.heap.size + 1) ∨ wr.heap.size + 1 = wr.heap.size) ∨ wr.heap.size + 1 = wr.heap.size + 1) := Lib.hid (.inr rfl)
      generalize (wr.alloc (.cells #[.int .i8 uv, .int .i8 ul, .int .i8 uh] 31)).alloc (.cells #[.int .i64 uv, .int .i64 ul, .int .i64 uh] 27) = W2 at *
      generalize wr.heap.size + 1 = nb at *
      generalize wr.heap.size = ob at *
      have AA2 := Lib.hid hA2
      have O2 := Lib.hid ho2
      have BB2 := Lib.hid hb2
      have HX2 := Lib.hid hx2
      clear SA hA2 hb2 ho2 hx2 hsz1 c0 c1 c2
      refine (mkI_any AA2.out uv ul uh).mono ?_
      generalize hmk : mkI m ns uv ul uh = r at *
      obtain ⟨ns', kk, er⟩ := r
      rintro e w3 ⟨rfl, hA3, hk3⟩
      simp only at hA3 hk3 ⊢
      have A3 := Lib.hid hA3
      have BX3 := Lib.hid ((hk3.block nb XB.out (gb_lt HX2.out)).trans HX2.out)
      have B3 := Lib.hid (below_trans3 BB2.out hk3 OLD.out)
      have O3 : Hid (OwnsNds w3 w1.heap.size (.slice Av ns.length cv) ns) := Lib.hid (ow_move O2.out fun q h1 h2 h3 => hk3.block q (OWN.out q h3) h1)
      have SL3 := Lib.hid O3.out.at_
      have HMK := Lib.hid hmk
      have WFN := Lib.hid AA2.out.wf
      have hlen := AA2.out.len_le
      generalize hev : errv er = ev at *
      have HEV := Lib.hid hev
      clear hA3 hk3 hmk hev
      have heq := eq_ints3
      obtain ⟨x0, x1, x2, -, -, -⟩ := cells3 BX3.out
      go_wp2_with fail
      go_loopw [60, 15] (fun j z wi => ∃ i : Nat, j = .int .i64 i ∧ z = .int .i64 (atI ns uv ul uh i) ∧ i ≤ ns.length ∧ Below w3.heap.size w3 wi) (fun j _ _ => ns.length - (intOf j).toNat)
      case atStart => exact ⟨0, rfl, rfl, by omega, Below.refl _ _⟩
      case round =>
        obtain ⟨i, rfl, rfl, hi, hb⟩ := hrel
        have BI := Lib.hid hb
        clear hb x0 x1 x2
        have BXI := Lib.hid (blk_below BI.out BX3.out (gb_lt BX3.out))
        obtain ⟨x0, x1, x2, -, -, -⟩ := cells3 BXI.out
        by_cases hli : i < ns.length
        · obtain ⟨rb, ro, hrA, hrB, hrc⟩ := SL3.out (by omega)
          have hin : ns[i]? = some (nd ns i) := by simp [nd, List.getD_eq_getElem?_getD, List.getElem?_eq_getElem hli]
          have d0 := (BI.out.cell (p := ⟨rb, ro + i * 3 + 0, none⟩) hrB).trans (hrc i _ hin 0 (by omega))
          have d1 := (BI.out.cell (p := ⟨rb, ro + i * 3 + 1, none⟩) hrB).trans (hrc i _ hin 1 (by omega))
          have d2 := (BI.out.cell (p := ⟨rb, ro + i * 3 + 2, none⟩) hrB).trans (hrc i _ hin 2 (by omega))
          rw [Nat.add_zero] at d0
          have HN : Hid (atI ns uv ul uh (i + 1) = if eqI (nd ns i) uv ul uh then (i : Int) else atI ns uv ul uh i) := Lib.hid rfl
          have HEQ : Hid (eqI (nd ns i) uv ul uh = (((nd ns i).v : Int) == uv && (((nd ns i).lo : Int) == ul && ((nd ns i).hi : Int) == uh))) := Lib.hid rfl
          generalize nd ns i = q at *
          obtain ⟨qv, ql, qh⟩ := q
          simp only [ndc, List.getElem?_cons_zero, List.getElem?_cons_succ] at d0 d1 d2
          simp only at HEQ
          have LX := Lib.hid (gb_lt BXI.out)
          subst hrA
          clear hrc hin
          go_upto_region 16 with fail
          have n0 := gb_new wr (.cells #[.int .i64 qv, .int .i64 ql, .int .i64 qh] 27)
          have n1 := gb_old wr (.cells #[.int .i64 qv, .int .i64 ql, .int .i64 qh] 27) BXI.out
          have B4 := Lib.hid (gb_alloc (Below.refl wr.heap.size wr) (.cells #[.int .i64 qv, .int .i64 ql, .int .i64 qh] 27))
          generalize wr.alloc (.cells #[.int .i64 qv, .int .i64 ql, .int .i64 qh] 27) = w4 at *
          have B5 := Lib.hid (gb_trans BI.out B4.out)
          clear x0 x1 x2 d0 d1 d2
          obtain ⟨x0, x1, x2, -, -, -⟩ := cells3 n1
          obtain ⟨y0, y1, y2, -, -, -⟩ := cells3 n0
          clear n0 n1
          cases hq : ((qv : Int) == uv && ((ql : Int) == ul && (qh : Int) == uh)) with
          | true =>
            have HN2 : Hid (atI ns uv ul uh (i + 1) = (i : Int)) := Lib.hid (by rw [HN.out, HEQ.out, hq]; rfl)
            go_wp2_with fail
            go_roundw
            case rel => exact ⟨i + 1, by go_num, by rw [HN2.out], by omega, B5.out⟩
            case measure => simp [intOf] <;> omega
          | false =>
            have HN2 : Hid (atI ns uv ul uh (i + 1) = atI ns uv ul uh i) := Lib.hid (by rw [HN.out, HEQ.out, hq]; rfl)
            go_wp2_with fail
            go_roundw
            case rel => exact ⟨i + 1, by go_num, by rw [HN2.out], by omega, B5.out⟩
            case measure => simp [intOf] <;> omega
        · have hi' : i = ns.length := by omega
          subst hi'
          have bd := atI_bd ns uv ul uh ns.length
          have AI := Lib.hid (A3.out.below BI.out)
          have OI : Hid (OwnsNds wr w1.heap.size (.slice Av ns.length cv) ns) := Lib.hid (ow_below O3.out BI.out)
          have SLI := Lib.hid OI.out.at_
          have BWI := Lib.hid (gb_trans B3.out BI.out)
          have GI := Lib.hid (G.out.below (gb_trans B1.out BWI.out))
          generalize hz : atI ns uv ul uh ns.length = z at *
          have HZ := Lib.hid hz
          clear hz
          by_cases b1 : uv < 0
          · have e := HMK.out.symm.trans (mkI_bad (show ¬ okZ ns uv ul uh by  unfold okZ; omega))
            simp only [Prod.mk.injEq] at e
            obtain ⟨e1, rfl, rfl⟩ := e
            have e2 := e1.symm
            subst e2
            rw [show ev = .iface 36 (.int .i64 10) from HEV.out.symm]
            go_wp2_with fail
            go_quiet (fail)
            generalize hwd : World.drewN _ _ = wd
            have AD := Lib.hid (show Ar wd _ a ns m by rw [← hwd]; exact AI.out.drewN _)
            have BD : Hid (Below w1.heap.size w1 wd) := Lib.hid (by rw [← hwd]; exact gb_drewN BWI.out _)
            have OD : Hid (OwnsNds wd w1.heap.size (.slice Av ns.length cv) ns) := Lib.hid (by rw [← hwd]; exact ow_move OI.out fun _ _ _ _ => rfl)
            have XD : Hid (wd.heap[nb]? = some (.cells #[.int .i64 uv, .int .i64 ul, .int .i64 uh] 27 (0, 0))) := Lib.hid (by rw [← hwd]; exact BXI.out)
            have GD := Lib.hid (G.out.below (gb_trans B1.out BD.out))
            clear hwd x0 x1 x2 
            obtain ⟨x0, x1, x2, -, -, -⟩ := cells3 XD.out
            go_wp2_with fail
            refine (number_hit 10 wd GD.out).mono ?_
            rintro e w5 ⟨rfl, hb5⟩
            have A5 := Lib.hid (AD.out.below hb5)
            have REL : Hid (ScRel w1 w5 a m (.slice Av ns.length cv) ns) := Lib.hid ⟨⟨_, A5.out, OLD.out, OWN.out⟩, gb_trans BD.out hb5, ow_below OD.out hb5⟩
            clear hb5 x0 x1 x2
            go_wp2_with fail
            refine (len_any A5.out).mono ?_
            rintro e w6 ⟨rfl, rfl⟩
            go_wp2_with fail
            go_roundw
            case rel => exact ⟨k + 1, ns, by go_num, by omega, REL.out⟩
            case measure => simp [intOf] <;> omega
          by_cases b2 : ul < 0
          · have c1 : decide (uv < 0) = false := decide_eq_false b1
            have e := HMK.out.symm.trans (mkI_bad (show ¬ okZ ns uv ul uh by  unfold okZ; omega))
            simp only [Prod.mk.injEq] at e
            obtain ⟨e1, rfl, rfl⟩ := e
            have e2 := e1.symm
            subst e2
            rw [show ev = .iface 36 (.int .i64 10) from HEV.out.symm]
            go_wp2_with fail
            go_quiet (fail)
            generalize hwd : World.drewN _ _ = wd
            have AD := Lib.hid (show Ar wd _ a ns m by rw [← hwd]; exact AI.out.drewN _)
            have BD : Hid (Below w1.heap.size w1 wd) := Lib.hid (by rw [← hwd]; exact gb_drewN BWI.out _)
            have OD : Hid (OwnsNds wd w1.heap.size (.slice Av ns.length cv) ns) := Lib.hid (by rw [← hwd]; exact ow_move OI.out fun _ _ _ _ => rfl)
            have XD : Hid (wd.heap[nb]? = some (.cells #[.int .i64 uv, .int .i64 ul, .int .i64 uh] 27 (0, 0))) := Lib.hid (by rw [← hwd]; exact BXI.out)
            have GD := Lib.hid (G.out.below (gb_trans B1.out BD.out))
            clear hwd x0 x1 x2 
            obtain ⟨x0, x1, x2, -, -, -⟩ := cells3 XD.out
            go_wp2_with fail
            refine (number_hit 10 wd GD.out).mono ?_
            rintro e w5 ⟨rfl, hb5⟩
            have A5 := Lib.hid (AD.out.below hb5)
            have REL : Hid (ScRel w1 w5 a m (.slice Av ns.length cv) ns) := Lib.hid ⟨⟨_, A5.out, OLD.out, OWN.out⟩, gb_trans BD.out hb5, ow_below OD.out hb5⟩
            clear hb5 x0 x1 x2
            go_wp2_with fail
            refine (len_any A5.out).mono ?_
            rintro e w6 ⟨rfl, rfl⟩
            go_wp2_with fail
            go_roundw
            case rel => exact ⟨k + 1, ns, by go_num, by omega, REL.out⟩
            case measure => simp [intOf] <;> omega
          by_cases b3 : (ns.length : Int) ≤ ul
          · have c1 : decide (uv < 0) = false := decide_eq_false b1
            have c2 : decide (ul < 0) = false := decide_eq_false b2
            have e := HMK.out.symm.trans (mkI_bad (show ¬ okZ ns uv ul uh by  unfold okZ; omega))
            simp only [Prod.mk.injEq] at e
            obtain ⟨e1, rfl, rfl⟩ := e
            have e2 := e1.symm
            subst e2
            rw [show ev = .iface 36 (.int .i64 10) from HEV.out.symm]
            go_wp2_with fail
            go_quiet (fail)
            generalize hwd : World.drewN _ _ = wd
            have AD := Lib.hid (show Ar wd _ a ns m by rw [← hwd]; exact AI.out.drewN _)
            have BD : Hid (Below w1.heap.size w1 wd) := Lib.hid (by rw [← hwd]; exact gb_drewN BWI.out _)
            have OD : Hid (OwnsNds wd w1.heap.size (.slice Av ns.length cv) ns) := Lib.hid (by rw [← hwd]; exact ow_move OI.out fun _ _ _ _ => rfl)
            have XD : Hid (wd.heap[nb]? = some (.cells #[.int .i64 uv, .int .i64 ul, .int .i64 uh] 27 (0, 0))) := Lib.hid (by rw [← hwd]; exact BXI.out)
            have GD := Lib.hid (G.out.below (gb_trans B1.out BD.out))
            clear hwd x0 x1 x2 
            obtain ⟨x0, x1, x2, -, -, -⟩ := cells3 XD.out
            go_wp2_with fail
            refine (number_hit 10 wd GD.out).mono ?_
            rintro e w5 ⟨rfl, hb5⟩
            have A5 := Lib.hid (AD.out.below hb5)
            have REL : Hid (ScRel w1 w5 a m (.slice Av ns.length cv) ns) := Lib.hid ⟨⟨_, A5.out, OLD.out, OWN.out⟩, gb_trans BD.out hb5, ow_below OD.out hb5⟩
            clear hb5 x0 x1 x2
            go_wp2_with fail
            refine (len_any A5.out).mono ?_
            rintro e w6 ⟨rfl, rfl⟩
            go_wp2_with fail
            go_roundw
            case rel => exact ⟨k + 1, ns, by go_num, by omega, REL.out⟩
            case measure => simp [intOf] <;> omega
          by_cases b4 : uh < 0
          · have c1 : decide (uv < 0) = false := decide_eq_false b1
            have c2 : decide (ul < 0) = false := decide_eq_false b2
            have c3 : decide ((ns.length : Int) ≤ ul) = false := decide_eq_false b3
            have e := HMK.out.symm.trans (mkI_bad (show ¬ okZ ns uv ul uh by  unfold okZ; omega))
            simp only [Prod.mk.injEq] at e
            obtain ⟨e1, rfl, rfl⟩ := e
            have e2 := e1.symm
            subst e2
            rw [show ev = .iface 36 (.int .i64 10) from HEV.out.symm]
            go_wp2_with fail
            go_quiet (fail)
            generalize hwd : World.drewN _ _ = wd
            have AD := Lib.hid (show Ar wd _ a ns m by rw [← hwd]; exact AI.out.drewN _)
            have BD : Hid (Below w1.heap.size w1 wd) := Lib.hid (by rw [← hwd]; exact gb_drewN BWI.out _)
            have OD : Hid (OwnsNds wd w1.heap.size (.slice Av ns.length cv) ns) := Lib.hid (by rw [← hwd]; exact ow_move OI.out fun _ _ _ _ => rfl)
            have XD : Hid (wd.heap[nb]? = some (.cells #[.int .i64 uv, .int .i64 ul, .int .i64 uh] 27 (0, 0))) := Lib.hid (by rw [← hwd]; exact BXI.out)
            have GD := Lib.hid (G.out.below (gb_trans B1.out BD.out))
            clear hwd x0 x1 x2 
            obtain ⟨x0, x1, x2, -, -, -⟩ := cells3 XD.out
            go_wp2_with fail
            refine (number_hit 10 wd GD.out).mono ?_
            rintro e w5 ⟨rfl, hb5⟩
            have A5 := Lib.hid (AD.out.below hb5)
            have REL : Hid (ScRel w1 w5 a m (.slice Av ns.length cv) ns) := Lib.hid ⟨⟨_, A5.out, OLD.out, OWN.out⟩, gb_trans BD.out hb5, ow_below OD.out hb5⟩
            clear hb5 x0 x1 x2
            go_wp2_with fail
            refine (len_any A5.out).mono ?_
            rintro e w6 ⟨rfl, rfl⟩
            go_wp2_with fail
            go_roundw
            case rel => exact ⟨k + 1, ns, by go_num, by omega, REL.out⟩
            case measure => simp [intOf] <;> omega
          by_cases b5 : (ns.length : Int) ≤ uh
          · have c1 : decide (uv < 0) = false := decide_eq_false b1
            have c2 : decide (ul < 0) = false := decide_eq_false b2
            have c3 : decide ((ns.length : Int) ≤ ul) = false := decide_eq_false b3
            have c4 : decide (uh < 0) = false := decide_eq_false b4
            have e := HMK.out.symm.trans (mkI_bad (show ¬ okZ ns uv ul uh by  unfold okZ; omega))
            simp only [Prod.mk.injEq] at e
            obtain ⟨e1, rfl, rfl⟩ := e
            have e2 := e1.symm
            subst e2
            rw [show ev = .iface 36 (.int .i64 10) from HEV.out.symm]
            go_wp2_with fail
            go_quiet (fail)
            generalize hwd : World.drewN _ _ = wd
            have AD := Lib.hid (show Ar wd _ a ns m by rw [← hwd]; exact AI.out.drewN _)
            have BD : Hid (Below w1.heap.size w1 wd) := Lib.hid (by rw [← hwd]; exact gb_drewN BWI.out _)
            have OD : Hid (OwnsNds wd w1.heap.size (.slice Av ns.length cv) ns) := Lib.hid (by rw [← hwd]; exact ow_move OI.out fun _ _ _ _ => rfl)
            have XD : Hid (wd.heap[nb]? = some (.cells #[.int .i64 uv, .int .i64 ul, .int .i64 uh] 27 (0, 0))) := Lib.hid (by rw [← hwd]; exact BXI.out)
            have GD := Lib.hid (G.out.below (gb_trans B1.out BD.out))
            clear hwd x0 x1 x2 
            obtain ⟨x0, x1, x2, -, -, -⟩ := cells3 XD.out
            go_wp2_with fail
            refine (number_hit 10 wd GD.out).mono ?_
            rintro e w5 ⟨rfl, hb5⟩
            have A5 := Lib.hid (AD.out.below hb5)
            have REL : Hid (ScRel w1 w5 a m (.slice Av ns.length cv) ns) := Lib.hid ⟨⟨_, A5.out, OLD.out, OWN.out⟩, gb_trans BD.out hb5, ow_below OD.out hb5⟩
            clear hb5 x0 x1 x2
            go_wp2_with fail
            refine (len_any A5.out).mono ?_
            rintro e w6 ⟨rfl, rfl⟩
            go_wp2_with fail
            go_roundw
            case rel => exact ⟨k + 1, ns, by go_num, by omega, REL.out⟩
            case measure => simp [intOf] <;> omega
          have g0 : (0 : Int) ≤ uv := by omega
          have g1 : (0 : Int) ≤ ul := by omega
          have g2 : ul < (ns.length : Int) := by omega
          have g3 : (0 : Int) ≤ uh := by omega
          have g4 : uh < (ns.length : Int) := by omega
          have hvl : ul.toNat < ns.length := by omega
          have hvh : uh.toNat < ns.length := by omega
          obtain ⟨rb, ro, hrA, hrB, hrc⟩ := SLI.out (by omega)
          have il : ns[ul.toNat]? = some (nd ns ul.toNat) := by simp [nd, List.getD_eq_getElem?_getD, List.getElem?_eq_getElem hvl]
          have ih : ns[uh.toNat]? = some (nd ns uh.toNat) := by simp [nd, List.getD_eq_getElem?_getD, List.getElem?_eq_getElem hvh]
          have d0 := hrc ul.toNat _ il 0 (by omega)
          have f0 := hrc uh.toNat _ ih 0 (by omega)
          rw [Nat.add_zero] at d0 f0
          simp only [ndc, List.getElem?_cons_zero] at d0 f0
          have HVL : Hid ((nd ns ul.toNat).v = var ns ul.toNat) := Lib.hid rfl
          have HVH : Hid ((nd ns uh.toNat).v = var ns uh.toNat) := Lib.hid rfl
          generalize (nd ns ul.toNat).v = yl at *
          generalize (nd ns uh.toNat).v = yh at *
          have hyl : yl ≤ 1024 := by rw [HVL.out]; exact var_le WFN.out _
          have hyh : yh ≤ 1024 := by rw [HVH.out]; exact var_le WFN.out _
          subst hrA
          clear hrc il ih
          by_cases b6 : (yl : Int) ≤ uv
          · have c1 : decide (uv < 0) = false := decide_eq_false b1
            have c2 : decide (ul < 0) = false := decide_eq_false b2
            have c3 : decide ((ns.length : Int) ≤ ul) = false := decide_eq_false b3
            have c4 : decide (uh < 0) = false := decide_eq_false b4
            have c5 : decide ((ns.length : Int) ≤ uh) = false := decide_eq_false b5
            have e := HMK.out.symm.trans (mkI_bad (show ¬ okZ ns uv ul uh by unfold okZ; rw [← HVL.out, ← HVH.out]; omega))
            simp only [Prod.mk.injEq] at e
            obtain ⟨e1, rfl, rfl⟩ := e
            have e2 := e1.symm
            subst e2
            rw [show ev = .iface 36 (.int .i64 10) from HEV.out.symm]
            go_wp2_with fail
            go_quiet (fail)
            generalize hwd : World.drewN _ _ = wd
            have AD := Lib.hid (show Ar wd _ a ns m by rw [← hwd]; exact AI.out.drewN _)
            have BD : Hid (Below w1.heap.size w1 wd) := Lib.hid (by rw [← hwd]; exact gb_drewN BWI.out _)
            have OD : Hid (OwnsNds wd w1.heap.size (.slice (some ⟨rb, ro, none⟩) ns.length cv) ns) := Lib.hid (by rw [← hwd]; exact ow_move OI.out fun _ _ _ _ => rfl)
            have XD : Hid (wd.heap[nb]? = some (.cells #[.int .i64 uv, .int .i64 ul, .int .i64 uh] 27 (0, 0))) := Lib.hid (by rw [← hwd]; exact BXI.out)
            have GD := Lib.hid (G.out.below (gb_trans B1.out BD.out))
            clear hwd x0 x1 x2 d0 f0
            obtain ⟨x0, x1, x2, -, -, -⟩ := cells3 XD.out
            go_wp2_with fail
            refine (number_hit 10 wd GD.out).mono ?_
            rintro e w5 ⟨rfl, hb5⟩
            have A5 := Lib.hid (AD.out.below hb5)
            have REL : Hid (ScRel w1 w5 a m (.slice (some ⟨rb, ro, none⟩) ns.length cv) ns) := Lib.hid ⟨⟨_, A5.out, OLD.out, OWN.out⟩, gb_trans BD.out hb5, ow_below OD.out hb5⟩
            clear hb5 x0 x1 x2
            go_wp2_with fail
            refine (len_any A5.out).mono ?_
            rintro e w6 ⟨rfl, rfl⟩
            go_wp2_with fail
            go_roundw
            case rel => exact ⟨k + 1, ns, by go_num, by omega, REL.out⟩
            case measure => simp [intOf] <;> omega
          by_cases b7 : (yh : Int) ≤ uv
          · have c1 : decide (uv < 0) = false := decide_eq_false b1
            have c2 : decide (ul < 0) = false := decide_eq_false b2
            have c3 : decide ((ns.length : Int) ≤ ul) = false := decide_eq_false b3
            have c4 : decide (uh < 0) = false := decide_eq_false b4
            have c5 : decide ((ns.length : Int) ≤ uh) = false := decide_eq_false b5
            have c6 : decide ((yl : Int) ≤ uv) = false := decide_eq_false b6
            have e := HMK.out.symm.trans (mkI_bad (show ¬ okZ ns uv ul uh by unfold okZ; rw [← HVL.out, ← HVH.out]; omega))
            simp only [Prod.mk.injEq] at e
            obtain ⟨e1, rfl, rfl⟩ := e
            have e2 := e1.symm
            subst e2
            rw [show ev = .iface 36 (.int .i64 10) from HEV.out.symm]
            go_wp2_with fail
            go_quiet (fail)
            generalize hwd : World.drewN _ _ = wd
            have AD := Lib.hid (show Ar wd _ a ns m by rw [← hwd]; exact AI.out.drewN _)
            have BD : Hid (Below w1.heap.size w1 wd) := Lib.hid (by rw [← hwd]; exact gb_drewN BWI.out _)
            have OD : Hid (OwnsNds wd w1.heap.size (.slice (some ⟨rb, ro, none⟩) ns.length cv) ns) := Lib.hid (by rw [← hwd]; exact ow_move OI.out fun _ _ _ _ => rfl)
            have XD : Hid (wd.heap[nb]? = some (.cells #[.int .i64 uv, .int .i64 ul, .int .i64 uh] 27 (0, 0))) := Lib.hid (by rw [← hwd]; exact BXI.out)
            have GD := Lib.hid (G.out.below (gb_trans B1.out BD.out))
            clear hwd x0 x1 x2 d0 f0
            obtain ⟨x0, x1, x2, -, -, -⟩ := cells3 XD.out
            go_wp2_with fail
            refine (number_hit 10 wd GD.out).mono ?_
            rintro e w5 ⟨rfl, hb5⟩
            have A5 := Lib.hid (AD.out.below hb5)
            have REL : Hid (ScRel w1 w5 a m (.slice (some ⟨rb, ro, none⟩) ns.length cv) ns) := Lib.hid ⟨⟨_, A5.out, OLD.out, OWN.out⟩, gb_trans BD.out hb5, ow_below OD.out hb5⟩
            clear hb5 x0 x1 x2
            go_wp2_with fail
            refine (len_any A5.out).mono ?_
            rintro e w6 ⟨rfl, rfl⟩
            go_wp2_with fail
            go_roundw
            case rel => exact ⟨k + 1, ns, by go_num, by omega, REL.out⟩
            case measure => simp [intOf] <;> omega
          have hok : okNd ns ⟨uv.toNat, ul.toNat, uh.toNat⟩ := ⟨by simp only; omega, hvl, hvh, by simp only; rw [← HVL.out]; omega, by simp only; rw [← HVH.out]; omega⟩
          have e0 := HMK.out.symm.trans (show mkI m ns uv ul uh = mk m ns ⟨uv.toNat, ul.toNat, uh.toNat⟩ from if_pos (by unfold okZ; rw [← HVL.out, ← HVH.out]; omega))
          have E0 := Lib.hid e0
          clear e0
          have c1 : decide (uv < 0) = false := decide_eq_false b1
          have c2 : decide (ul < 0) = false := decide_eq_false b2
          have c3 : decide ((ns.length : Int) ≤ ul) = false := decide_eq_false b3
          have c4 : decide (uh < 0) = false := decide_eq_false b4
          have c5 : decide ((ns.length : Int) ≤ uh) = false := decide_eq_false b5
          have c6 : decide ((yl : Int) ≤ uv) = false := decide_eq_false b6
          have c7 : decide ((yh : Int) ≤ uv) = false := decide_eq_false b7
          by_cases hsame : ul = uh
          · have e := E0.out
            have hne1 : (ul == uh) = true := by rw [beq_iff_eq]; omega
            unfold mk at e
            rw [if_pos (show ul.toNat = uh.toNat by rw [hsame])] at e
            clear hsame
            simp only [Prod.mk.injEq] at e
            obtain ⟨e1, rfl, rfl⟩ := e
            have e2 := e1.symm
            subst e2
            rw [show ev = .nilIface from HEV.out.symm]
            go_wp2_with fail
            go_quiet (fail)
            generalize hwd : World.drewN _ _ = wd
            have AD := Lib.hid (show Ar wd _ a ns m by rw [← hwd]; exact AI.out.drewN _)
            have BD : Hid (Below w1.heap.size w1 wd) := Lib.hid (by rw [← hwd]; exact gb_drewN BWI.out _)
            have OD : Hid (OwnsNds wd w1.heap.size (.slice (some ⟨rb, ro, none⟩) ns.length cv) ns) := Lib.hid (by rw [← hwd]; exact ow_move OI.out fun _ _ _ _ => rfl)
            have XD : Hid (wd.heap[nb]? = some (.cells #[.int .i64 uv, .int .i64 ul, .int .i64 uh] 27 (0, 0))) := Lib.hid (by rw [← hwd]; exact BXI.out)
            have GD := Lib.hid (G.out.below (gb_trans B1.out BD.out))
            clear hwd x0 x1 x2 d0 f0
            obtain ⟨x0, x1, x2, -, -, -⟩ := cells3 XD.out
            go_wp2_with fail
            refine (number_nil wd).mono ?_
            rintro e w5 ⟨rfl, hb5⟩
            have A5 := Lib.hid (AD.out.below hb5)
            have REL : Hid (ScRel w1 w5 a m (.slice (some ⟨rb, ro, none⟩) ns.length cv) ns) := Lib.hid ⟨⟨_, A5.out, OLD.out, OWN.out⟩, gb_trans BD.out hb5, ow_below OD.out hb5⟩
            clear hb5 x0 x1 x2
            go_wp2_with fail
            refine (len_any A5.out).mono ?_
            rintro e w6 ⟨rfl, rfl⟩
            go_wp2_with fail
            go_roundw
            case rel => exact ⟨k + 1, ns, by go_num, by omega, REL.out⟩
            case measure => simp [intOf] <;> omega
          have hne1 : (ul == uh) = false := by rw [beq_eq_false_iff_ne]; omega
          have hv1024 : (⟨uv.toNat, ul.toNat, uh.toNat⟩ : Nd).v < 1024 := hok.1
          cases hp : place ns ⟨uv.toNat, ul.toNat, uh.toNat⟩ with
          | some kp =>
             have hz0 := (atI_some WFN.out hv1024 hp ns.length (Nat.le_refl _)).trans (if_pos (place_some hp).2.1)
             simp only [Int.toNat_of_nonneg g1, Int.toNat_of_nonneg g3, Int.toNat_of_nonneg g0] at hz0
             have hz1 := HZ.out.symm.trans hz0
             have hkp := (place_some hp).2.1
             subst hz1
             have e := E0.out
             unfold mk at e
             rw [if_neg (show ¬ ul.toNat = uh.toNat by omega), hp] at e
             clear hsame hp
             simp only [Prod.mk.injEq] at e
             obtain ⟨e1, rfl, rfl⟩ := e
             have e2 := e1.symm
             subst e2
             rw [show ev = .nilIface from HEV.out.symm]
             go_wp2_with fail
             go_quiet (fail)
             generalize hwd : World.drewN _ _ = wd
             have AD := Lib.hid (show Ar wd _ a ns m by rw [← hwd]; exact AI.out.drewN _)
             have BD : Hid (Below w1.heap.size w1 wd) := Lib.hid (by rw [← hwd]; exact gb_drewN BWI.out _)
             have OD : Hid (OwnsNds wd w1.heap.size (.slice (some ⟨rb, ro, none⟩) ns.length cv) ns) := Lib.hid (by rw [← hwd]; exact ow_move OI.out fun _ _ _ _ => rfl)
             have XD : Hid (wd.heap[nb]? = some (.cells #[.int .i64 uv, .int .i64 ul, .int .i64 uh] 27 (0, 0))) := Lib.hid (by rw [← hwd]; exact BXI.out)
             have GD := Lib.hid (G.out.below (gb_trans B1.out BD.out))
             clear hwd x0 x1 x2 d0 f0
             obtain ⟨x0, x1, x2, -, -, -⟩ := cells3 XD.out
             go_wp2_with fail
             refine (number_nil wd).mono ?_
             rintro e w5 ⟨rfl, hb5⟩
             have A5 := Lib.hid (AD.out.below hb5)
             have REL : Hid (ScRel w1 w5 a m (.slice (some ⟨rb, ro, none⟩) ns.length cv) ns) := Lib.hid ⟨⟨_, A5.out, OLD.out, OWN.out⟩, gb_trans BD.out hb5, ow_below OD.out hb5⟩
             clear hb5 x0 x1 x2
             go_wp2_with fail
             refine (len_any A5.out).mono ?_
             rintro e w6 ⟨rfl, rfl⟩
             go_wp2_with fail
             go_roundw
             case rel => exact ⟨k + 1, ns, by go_num, by omega, REL.out⟩
             case measure => simp [intOf] <;> omega
          | none =>
             have hz0 := atI_none WFN.out hv1024 hp ns.length (Nat.le_refl _)
             simp only [Int.toNat_of_nonneg g1, Int.toNat_of_nonneg g3, Int.toNat_of_nonneg g0] at hz0
             have hz1 := HZ.out.symm.trans hz0
             subst hz1
             have e := E0.out
             unfold mk at e
             rw [if_neg (show ¬ ul.toNat = uh.toNat by omega), hp] at e
             clear hsame hp
             simp only at e
             by_cases hfull : ns.length = m
             · rw [if_pos hfull] at e
               have hmm1 : ((ns.length : Int) == (m : Int)) = true := by rw [beq_iff_eq]; omega
               clear hfull
               simp only [Prod.mk.injEq] at e
               obtain ⟨e1, rfl, rfl⟩ := e
               have e2 := e1.symm
               subst e2
               rw [show ev = .iface 36 (.int .i64 8) from HEV.out.symm]
               go_wp2_with fail
               go_quiet (fail)
               generalize hwd : World.drewN _ _ = wd
               have AD := Lib.hid (show Ar wd _ a ns m by rw [← hwd]; exact AI.out.drewN _)
               have BD : Hid (Below w1.heap.size w1 wd) := Lib.hid (by rw [← hwd]; exact gb_drewN BWI.out _)
               have OD : Hid (OwnsNds wd w1.heap.size (.slice (some ⟨rb, ro, none⟩) ns.length cv) ns) := Lib.hid (by rw [← hwd]; exact ow_move OI.out fun _ _ _ _ => rfl)
               have XD : Hid (wd.heap[nb]? = some (.cells #[.int .i64 uv, .int .i64 ul, .int .i64 uh] 27 (0, 0))) := Lib.hid (by rw [← hwd]; exact BXI.out)
               have GD := Lib.hid (G.out.below (gb_trans B1.out BD.out))
               clear hwd x0 x1 x2 d0 f0
               obtain ⟨x0, x1, x2, -, -, -⟩ := cells3 XD.out
               go_wp2_with fail
               refine (number_hit 8 wd GD.out).mono ?_
               rintro e w5 ⟨rfl, hb5⟩
               have A5 := Lib.hid (AD.out.below hb5)
               have REL : Hid (ScRel w1 w5 a m (.slice (some ⟨rb, ro, none⟩) ns.length cv) ns) := Lib.hid ⟨⟨_, A5.out, OLD.out, OWN.out⟩, gb_trans BD.out hb5, ow_below OD.out hb5⟩
               clear hb5 x0 x1 x2
               go_wp2_with fail
               refine (len_any A5.out).mono ?_
               rintro e w6 ⟨rfl, rfl⟩
               go_wp2_with fail
               go_roundw
               case rel => exact ⟨k + 1, ns, by go_num, by omega, REL.out⟩
               case measure => simp [intOf] <;> omega
             rw [if_neg hfull] at e
             have hmm1 : ((ns.length : Int) == (m : Int)) = false := by rw [beq_eq_false_iff_ne]; omega
             clear hfull
             simp only [Prod.mk.injEq] at e
             obtain ⟨e1, rfl, rfl⟩ := e
             subst e1
             rw [show ev = .nilIface from HEV.out.symm]
             go_wp2_with fail
             go_quiet (fail)
             generalize hwd : World.drewN _ _ = wd
             have AD := Lib.hid (show Ar wd _ a (ns ++ [⟨uv.toNat, ul.toNat, uh.toNat⟩]) m by rw [← hwd]; exact AI.out.drewN _)
             have BD : Hid (Below w1.heap.size w1 wd) := Lib.hid (by rw [← hwd]; exact gb_drewN BWI.out _)
             have OD : Hid (OwnsNds wd w1.heap.size (.slice (some ⟨rb, ro, none⟩) ns.length cv) ns) := Lib.hid (by rw [← hwd]; exact ow_move OI.out fun _ _ _ _ => rfl)
             have XD : Hid (wd.heap[nb]? = some (.cells #[.int .i64 uv, .int .i64 ul, .int .i64 uh] 27 (0, 0))) := Lib.hid (by rw [← hwd]; exact BXI.out)
             have GD := Lib.hid (G.out.below (gb_trans B1.out BD.out))
             clear hwd x0 x1 x2 d0 f0
             obtain ⟨x0, x1, x2, -, -, -⟩ := cells3 XD.out
             obtain ⟨i0, hi0, hz0, hz1, hz2⟩ := info_parts node_info
             have sD := BD.out.size
             go_upto_region 29 with (at_builtin; refine wpList_append_lies _ rfl _ _ _ rfl w1.heap.size 27 i0 _ 3 24 Tryd.underlying28 hi0 hz0 hz1 hz2 rfl (by omega) _ ns.length (cellsOf ns) rfl (ow_alloc OD.out _) ⟨wd.heap.size, 0, none⟩ 1 1 [.int .i64 uv, .int .i64 ul, .int .i64 uh] rfl rfl (World.news_of_block (cs := #[.int .i64 uv, .int .i64 ul, .int .i64 uh]) (heap_alloc_new wd _)) (by intro q hq; simp at hq; rcases hq with rfl | rfl | rfl <;> rfl) (by omega) (by unfold maxLen; omega) (by omega) (by simp; omega) _ rfl ?_; intro g cap' w7 hown7 hgrow hat hlt7)
             have B7 := Lib.hid (ow_grown (gb_alloc BD.out _) hgrow OD.out (by simp; omega))
             have O7 : Hid (OwnsNds w7 w1.heap.size (.slice (some ⟨g, 0, none⟩) (ns.length + 1) cap') (ns ++ [⟨uv.toNat, ul.toNat, uh.toNat⟩])) := Lib.hid (by have := hown7; unfold OwnsNds; rw [List.length_append, cellsOf_push, List.length_singleton, show ndc ⟨uv.toNat, ul.toNat, uh.toNat⟩ = [.int .i64 uv, .int .i64 ul, .int .i64 uh] by simp only [ndc, Int.toNat_of_nonneg g1, Int.toNat_of_nonneg g3, Int.toNat_of_nonneg g0]]; exact this)
             have A7 := Lib.hid ((AD.out.alloc (.cells #[.int .i64 uv, .int .i64 ul, .int .i64 uh] 27)).grown hgrow fun q hq => .inl (OWN.out q hq))
             have hat' : (Value.slice (some ⟨rb, ro, none⟩) ns.length cv).ownBlock = some g ∨ g = (wd.alloc (.cells #[.int .i64 uv, .int .i64 ul, .int .i64 uh] 27)).heap.size := hat
             have B5 := Lib.hid B7.out
             have GG7 := Lib.hid (G.out.below (gb_trans B1.out B7.out))
             have XO : Hid (∀ q, (Value.slice (some ⟨g, 0, none⟩) (ns.length + 1) cap').ownBlock = some q → ((((X q ∨ q = ob) ∨ q = nb) ∨ q = wd.heap.size) ∨ (wd.alloc (.cells #[.int .i64 uv, .int .i64 ul, .int .i64 uh] 27)).heap.size ≤ q ∧ q < w7.heap.size)) := Lib.hid fun q hq => by
               have hgq : g = q := by simpa [Value.ownBlock] using hq
               subst hgq
               rcases hat' with h | h
               · exact .inl (.inl (OWN.out _ h))
               · exact .inr ⟨by omega, hlt7⟩
             have OLD7 : Hid (∀ q, q < w1.heap.size → ((((X q ∨ q = ob) ∨ q = nb) ∨ q = wd.heap.size) ∨ (wd.alloc (.cells #[.int .i64 uv, .int .i64 ul, .int .i64 uh] 27)).heap.size ≤ q ∧ q < w7.heap.size)) := Lib.hid fun q hq => .inl (.inl (OLD.out q hq))
             clear hgrow hat hat' hown7 hi0 hz0 hz1 hz2
             go_wp2_with fail
             refine (number_nil w7).mono ?_
             rintro e w8 ⟨rfl, hb8⟩
             have A8 := Lib.hid (A7.out.below hb8)
             have REL : Hid (ScRel w1 w8 a m (.slice (some ⟨g, 0, none⟩) (ns.length + 1) cap') (ns ++ [⟨uv.toNat, ul.toNat, uh.toNat⟩])) := Lib.hid ⟨⟨_, A8.out, OLD7.out, XO.out⟩, gb_trans B7.out hb8, ow_below O7.out hb8⟩
             clear hb8
             go_wp2_with fail
             refine (len_any A8.out).mono ?_
             rintro e w9 ⟨rfl, rfl⟩
             rw [show (ns ++ [(⟨uv.toNat, ul.toNat, uh.toNat⟩ : Nd)]).length = ns.length + 1 by simp]
             go_wp2_with fail
             go_roundw
             case rel => exact ⟨k + 1, ns ++ [⟨uv.toNat, ul.toNat, uh.toNat⟩], by go_num, by omega, REL.out⟩
             case measure => simp [intOf] <;> omega
    · have hk' : k = s.l.length := by omega
      subst hk'
      obtain ⟨X, SA⟩ := R.out.ex
      have AF := Lib.hid SA.ar
      have BF := Lib.hid (gb_trans B1.out R.out.below)
      have SLF := Lib.hid R.out.owns.at_
      have hlen := SA.ar.len_le
      have htwo := SA.ar.wf.two
      have WZ := Lib.hid SA.ar.wf.zero
      have heq := eq_ints3
      obtain ⟨rb, ro, hrA, hrB, hrc⟩ := SLF.out (by omega)
      have CS : Hid (∀ i, i < ns.length → wr.cell? ⟨rb, ro + i * 3, none⟩ = some (.int .i64 (nd ns i).v) ∧ wr.cell? ⟨rb, ro + i * 3 + 1, none⟩ = some (.int .i64 (nd ns i).lo) ∧ wr.cell? ⟨rb, ro + i * 3 + 2, none⟩ = some (.int .i64 (nd ns i).hi)) := Lib.hid fun i hi => by
        have hin : ns[i]? = some (nd ns i) := by simp [nd, List.getD_eq_getElem?_getD, List.getElem?_eq_getElem hi]
        have q0 := hrc i _ hin 0 (by omega)
        rw [Nat.add_zero] at q0
        exact ⟨q0, hrc i _ hin 1 (by omega), hrc i _ hin 2 (by omega)⟩
      subst hrA
      clear SA hrc
      go_wp2_with fail
      go_loopw [169] (fun j wi => ∃ i : Nat, j = .int .i64 i ∧ i ≤ ns.length ∧ Below wr.heap.size wr wi) (fun j _ => ns.length - (intOf j).toNat)
      case atStart => exact ⟨0, rfl, by omega, Below.refl _ _⟩
      case round =>
        obtain ⟨i, rfl, hi, hb⟩ := hrel
        have BI := Lib.hid hb
        clear hb
        by_cases hli : i < ns.length
        · obtain ⟨e0, e1, e2⟩ := CS.out i hli
          have d0 := (BI.out.cell (p := ⟨rb, ro + i * 3, none⟩) hrB).trans e0
          have d1 := (BI.out.cell (p := ⟨rb, ro + i * 3 + 1, none⟩) hrB).trans e1
          have d2 := (BI.out.cell (p := ⟨rb, ro + i * 3 + 2, none⟩) hrB).trans e2
          have hgi := Lib.hid (geti_nat ns i)
          clear e0 e1 e2
          generalize nd ns i = q at *
          obtain ⟨qv, ql, qh⟩ := q
          simp only at d0 d1 d2
          go_upto_region 35 with fail
          have n0 := gb_new wr (.cells #[.int .i64 qv, .int .i64 ql, .int .i64 qh] 27)
          have B4 := Lib.hid (gb_alloc (Below.refl wr.heap.size wr) (.cells #[.int .i64 qv, .int .i64 ql, .int .i64 qh] 27))
          obtain ⟨bb, hbb⟩ : ∃ bb, bb = wr.heap.size := ⟨_, rfl⟩
          generalize hw4 : wr.alloc (.cells #[.int .i64 qv, .int .i64 ql, .int .i64 qh] 27) = w4 at *
          have B5 := Lib.hid (gb_trans BI.out B4.out)
          have A5 := Lib.hid (AF.out.below B5.out)
          have y : ∀ x : InW (Below w4.heap.size w4), x.val.cell? ⟨wr.heap.size, 0, none⟩ = some (.int .i64 qv) ∧ x.val.cell? ⟨wr.heap.size, 1, none⟩ = some (.int .i64 ql) ∧ x.val.cell? ⟨wr.heap.size, 2, none⟩ = some (.int .i64 qh) := fun x => ⟨in_cell n0 0 x, in_cell n0 1 x, in_cell n0 2 x⟩
          have y0 := fun x => (y x).1
          have y1 := fun x => (y x).2.1
          have y2 := fun x => (y x).2.2
          have k1 := fun (x : InW (Below w4.heap.size w4)) => calls_in2 (fun w' hb => get_any (A5.out.below hb) i) x
          rw [hgi.out] at k1
          unfold ndv at k1
          have Q1 := Lib.hid k1
          clear k1 y d0 d1 d2 n0 hw4 hbb
          refine wp_region_in (Below w4.heap.size w4) (by kernel_rfl) (by kernel_rfl) (Below.refl _ _).drew ?_
          repeat (go_big_quiet_step (first | (with_reducible exact Q1.out _)))
          refine wpQuiet_nil ?_
          rintro _ ⟨⟨w9, hb9⟩, rfl⟩
          have B9 := Lib.hid (gb_trans B5.out hb9)
          clear hb9 y0 y1 y2
          go_wp2_with fail
          go_roundw
          case rel => exact ⟨i + 1, by go_num, by omega, B9.out⟩
          case measure => simp [intOf] <;> omega
        · have hi' : i = ns.length := by omega
          subst hi'
          obtain ⟨e0, e1, e2⟩ := CS.out 0 (by omega)
          rw [WZ.out] at e0 e1 e2
          simp only [no, Nat.zero_mul, Nat.add_zero] at e0 e1 e2
          have AI := Lib.hid (AF.out.below BI.out)
          have hrB2 := Nat.lt_of_lt_of_le hrB BI.out.size
          have y0 : ∀ x : InW (Below wr.heap.size wr), x.val.cell? ⟨rb, ro, none⟩ = some (.int .i64 1024) := fun x => ((x.prop.cell (p := ⟨rb, ro, none⟩) hrB2).trans (BI.out.cell (p := ⟨rb, ro, none⟩) hrB)).trans e0
          have y1 : ∀ x : InW (Below wr.heap.size wr), x.val.cell? ⟨rb, ro + 1, none⟩ = some (.int .i64 0) := fun x => ((x.prop.cell (p := ⟨rb, ro + 1, none⟩) hrB2).trans (BI.out.cell (p := ⟨rb, ro + 1, none⟩) hrB)).trans e1
          have y2 : ∀ x : InW (Below wr.heap.size wr), x.val.cell? ⟨rb, ro + 2, none⟩ = some (.int .i64 0) := fun x => ((x.prop.cell (p := ⟨rb, ro + 2, none⟩) hrB2).trans (BI.out.cell (p := ⟨rb, ro + 2, none⟩) hrB)).trans e2
          have k1 := fun (x : InW (Below wr.heap.size wr)) => calls_in2 (fun w' hb => get_any (AI.out.below hb) (ns.length : Int)) x
          have k2 := fun (x : InW (Below wr.heap.size wr)) => calls_in2 (fun w' hb => get_any (AI.out.below hb) (-1 : Int)) x
          rw [show geti ns (ns.length : Int) = no by rw [geti_nat]; exact get_out (Nat.le_refl _)] at k1
          rw [show geti ns (-1 : Int) = no from rfl] at k2
          simp only [ndv, no] at k1 k2
          have Q1 := Lib.hid k1
          have Q2 := Lib.hid k2
          have hpos : (0 : Int) < (ns.length : Int) := by omega
          clear k1 k2 e0 e1 e2
          go_wp2_with fail
          refine wp_region_in (Below wr.heap.size wr) (by kernel_rfl) (by kernel_rfl) (Below.refl _ _).drew ?_
          repeat (go_big_quiet_step (first | (with_reducible exact Q1.out _) | (with_reducible exact Q2.out _)))
          refine wpQuiet_nil ?_
          rintro _ ⟨⟨w9, hb9⟩, rfl⟩
          have B9 := Lib.hid (gb_trans BF.out (gb_trans BI.out hb9))
          clear hb9 y0 y1 y2
          go_wp2_with fail
          go_ret
          exact ⟨ret_bool (by simp), B9.out⟩
end Go.Proofs.YtbceacihkdmgkaaDoor
