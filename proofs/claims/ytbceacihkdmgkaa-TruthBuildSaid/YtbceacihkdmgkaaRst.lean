import Derived.Test.YtbceacihkdmgkaaAlg
set_option linter.unusedVariables false
namespace Go.Proofs.Ytbceacihkdmgkaa
open Go.RowKit Mq

def RstIH (a most n lev v : Nat) (b : Bool) : Prop := ∀ (X : Nat → Prop) (W : World) (ns : List Nd) (f : Nat), Ar W X a ns most → f < ns.length → Dep 4 ns f → lev ≤ var ns f →
  Calls Try.prog 43 #[.pointer (some ⟨a, 0, none⟩), .int .i64 f, .int .i64 v, .bool b] W (OpPost X a most W ns n lev (fun r => ev ns (upd r v b) f))

section
variable {w : World} {X : Nat → Prop} {a : Nat} {ns : List Nd} {most : Nat}

set_option maxRecDepth 100000 in
/-- The diagram doesn't ask the variable. -/
theorem rst_past (h : Ar w X a ns most) (f v : Nat) (b : Bool) (hf : f < ns.length) (hv : var ns f = 1024 ∨ v < var ns f) :
    Calls Try.prog 43 #[.pointer (some ⟨a, 0, none⟩), .int .i64 f, .int .i64 v, .bool b] w fun e w' => e = .returned (.tuple #[.int .i64 f, errv 0]) ∧ Below w.heap.size w w' := by
  have H := Lib.hid h
  have hgi := Lib.hid (geti_nat ns f)
  have hle := h.len_le
  clear h
  unfold var at hv
  generalize nd ns f = n at *
  obtain ⟨nv, nl, nh⟩ := n
  simp only at hv
  go_enter Try.func43, Try.ntmps43
  go_wp2_with fail
  refine (get_any H.out f).mono ?_
  rintro e w1 ⟨rfl, hb1⟩
  rw [hgi.out]
  unfold ndv
  have B := Lib.hid hb1
  clear hb1
  go_wp2_with fail
  refine (len_any (H.out.below (below_alloc B.out _))).mono ?_
  rintro e w2 ⟨rfl, rfl⟩
  by_cases h1 : nv = 1024
  · subst h1
    clear hv
    go_wp2_with fail
    go_ret2
    exact ⟨rfl, below_alloc B.out _⟩
  · have h2 : v < nv := by omega
    have h3 : ((nv : Int) == 1024) = false := by rw [beq_eq_false_iff_ne]; omega
    clear hv
    go_wp2_with fail
    go_ret2
    exact ⟨rfl, below_alloc B.out _⟩

set_option maxRecDepth 100000 in
/-- Its first node asks the variable. -/
theorem rst_at (h : Ar w X a ns most) (f v : Nat) (b : Bool) (hf : f < ns.length) (hv : var ns f = v) (hl : v < 1024) :
    Calls Try.prog 43 #[.pointer (some ⟨a, 0, none⟩), .int .i64 f, .int .i64 v, .bool b] w fun e w' => e = .returned (.tuple #[.int .i64 ((if b then (nd ns f).hi else (nd ns f).lo : Nat) : Int), errv 0]) ∧ Below w.heap.size w w' := by
  have H := Lib.hid h
  have hgi := Lib.hid (geti_nat ns f)
  have hle := h.len_le
  clear h
  unfold var at hv
  generalize nd ns f = n at *
  obtain ⟨nv, nl, nh⟩ := n
  simp only at hv
  subst hv
  have h3 : ((nv : Int) == 1024) = false := by rw [beq_eq_false_iff_ne]; omega
  go_enter Try.func43, Try.ntmps43
  go_wp2_with fail
  refine (get_any H.out f).mono ?_
  rintro e w1 ⟨rfl, hb1⟩
  rw [hgi.out]
  unfold ndv
  have B := Lib.hid hb1
  clear hb1
  go_wp2_with fail
  refine (len_any (H.out.below (below_alloc B.out _))).mono ?_
  rintro e w2 ⟨rfl, rfl⟩
  cases b
  · go_wp2_with fail
    go_ret2
    exact ⟨rfl, below_alloc B.out _⟩
  · go_wp2_with fail
    go_ret2
    exact ⟨rfl, below_alloc B.out _⟩
end

/-- A restricted diagram in its halves. -/
theorem rst_split {ns : List Nd} (W : WF ns) {f v : Nat} (b : Bool) (h2 : 2 ≤ f) (hf : f < ns.length) (hv : var ns f < v) (r : Nat → Bool) :
    (if r (nd ns f).v then ev ns (upd r v b) (nd ns f).hi else ev ns (upd r v b) (nd ns f).lo) = ev ns (upd r v b) f := by
  rw [ev_node W (upd r v b) h2 hf, upd_other r b (show (nd ns f).v ≠ v by unfold var at hv; omega)]
theorem rst_free {ns : List Nd} (W : WF ns) {k u v : Nat} {b : Bool} (hk : k < ns.length) (hu : u < var ns k) (x : Nat) (hx : x < u + 1) (r : Nat → Bool) (c : Bool) : ev ns (upd (upd r x c) v b) k = ev ns (upd r v b) k := by
  refine ev_free W k hk fun y hy => ?_
  unfold upd
  split
  · rfl
  · rw [if_neg (by omega)]

set_option maxRecDepth 100000 in
set_option maxHeartbeats 1000000 in
theorem rst_go {a most : Nat} (n u v : Nat) (b : Bool) (hun : u + (n + 1) = 4) (ih : RstIH a most n (u + 1) v b) (huv : u < v)
    (X : Nat → Prop) (W : World) (ns : List Nd) (f : Nat) (hA : Ar W X a ns most) (hf : f < ns.length) (h2 : 2 ≤ f) (df : Dep 4 ns f) (hu : var ns f = u) :
    Calls Try.prog 43 #[.pointer (some ⟨a, 0, none⟩), .int .i64 f, .int .i64 v, .bool b] W (OpPost X a most W ns (n + 1) u (fun r => ev ns (upd r v b) f)) := by
  have hw := hA.wf
  have hin := hw.inner f h2 hf
  have hsp := fun r => rst_split hw b h2 hf (by rw [hu]; exact huv) r
  have hle := hA.len_le
  have hdlo : Dep 4 ns (nd ns f).lo := by
    have q := half_is hw hf (v := u) (by omega) (by omega) false
    have e : half ns f u false = (nd ns f).lo := by unfold half; rw [if_pos hu]; rfl
    rw [e] at q
    exact q.dep df
  have hdhi : Dep 4 ns (nd ns f).hi := by
    have q := half_is hw hf (v := u) (by omega) (by omega) true
    have e : half ns f u true = (nd ns f).hi := by unfold half; rw [if_pos hu]; rfl
    rw [e] at q
    exact q.dep df
  have DF0 := Lib.hid hdlo
  have DF1 := Lib.hid hdhi
  have HSP := Lib.hid hsp
  have H := Lib.hid hA
  have HW := Lib.hid hw
  have hgi := Lib.hid (geti_nat ns f)
  have IH := Lib.hid ih
  clear hdlo hdhi hsp hA hw ih df
  unfold var at hu
  generalize nd ns f = nn at *
  obtain ⟨nv, nl, nh⟩ := nn
  simp only at *
  subst hu
  obtain ⟨i1, i2, i3, -, i5, i6⟩ := hin
  have LO := Lib.hid (And.intro i2 i5)
  have HI := Lib.hid (And.intro i3 i6)
  clear i2 i3 i5 i6
  have h3 : ((nv : Int) == 1024) = false := by rw [beq_eq_false_iff_ne]; omega
  have h4 : ((nv : Int) == (v : Int)) = false := by rw [beq_eq_false_iff_ne]; omega
  go_enter Try.func43, Try.ntmps43
  go_wp2_with fail
  refine (get_any H.out f).mono ?_
  rintro e w1 ⟨rfl, hb1⟩
  rw [hgi.out]
  unfold ndv
  go_wp2_with fail
  have hbx := heap_alloc_new w1 (.cells #[.int .i64 nv, .int .i64 nl, .int .i64 nh] 33)
  have hB1 := below_alloc hb1 (.cells #[.int .i64 nv, .int .i64 nl, .int .i64 nh] 33)
  have hsz : w1.heap.size < (w1.alloc (.cells #[.int .i64 nv, .int .i64 nl, .int .i64 nh] 33)).heap.size := by simp
  have hs1 := hb1.size
  generalize w1.alloc (.cells #[.int .i64 nv, .int .i64 nl, .int .i64 nh] 33) = W1 at *
  generalize w1.heap.size = bx at *
  have hA1 := (H.out.below_more hB1).mono (Y := fun k => X k ∨ k = bx) fun k hk => by
    rcases hk with hk | hk
    · exact .inl hk
    · exact .inr ⟨by omega, by omega⟩
  have A1 := Lib.hid hA1
  have K1 := Lib.hid (Keep.below (X := X) hB1)
  have BX := Lib.hid hbx
  obtain ⟨c0, c1, c2, -, -, -⟩ := cells3 hbx
  clear hbx hB1 hA1 hb1
  refine (len_any A1.out).mono ?_
  rintro e w2 ⟨rfl, rfl⟩
  go_wp2_with fail
  refine (IH.out (fun k => X k ∨ k = bx) W1 ns nl A1.out (by have := LO.out.1; omega) DF0.out (by have := LO.out.2; omega)).mono ?_
  rintro e w3 ⟨ns1, lo, err, rfl, hA, hK, hX, hc⟩
  have BX3 := Lib.hid ((hK.block bx (.inr rfl) hsz).trans BX.out)
  obtain ⟨c0, c1, c2, -, -, -⟩ := cells3 BX3.out
  have A3 := Lib.hid hA; have K3 := Lib.hid (K1.out.trans (hK.mono fun _ q => .inl q)); have X3 := Lib.hid hX
  have s3 := hK.size
  clear hA hK hX
  have fr0 := Lib.hid (fun x hx r c => rst_free (u := nv) (v := v) (b := b) HW.out (k := nl) (by have := LO.out.1; omega) (by have := LO.out.2; omega) x hx r c)
  have fr1 := Lib.hid (fun x hx r c => rst_free (u := nv) (v := v) (b := b) HW.out (k := nh) (by have := HI.out.1; omega) (by have := HI.out.2; omega) x hx r c)
  rcases hc with ⟨rfl, hd⟩ | ⟨rfl, rfl, hf1⟩
  · have D1 := Lib.hid hd
    clear hd
    have he : errv 0 = .nilIface := rfl
    rw [he]
    clear he
    go_wp2_with fail
    refine (IH.out (fun k => X k ∨ k = bx) w3 ns1 nh A3.out (by have := X3.out.length; have := HI.out.1; omega) (DF1.out.ext HW.out (by have := HI.out.1; omega) X3.out) (by rw [X3.out.var (by have := HI.out.1; omega)]; have := HI.out.2; omega)).mono ?_
    rintro e w4 ⟨ns2, hi, err, rfl, hA, hK, hX, hc⟩
    have BX4 := Lib.hid ((hK.block bx (.inr rfl) (by omega)).trans BX3.out)
    obtain ⟨c0, c1, c2, -, -, -⟩ := cells3 BX4.out
    have A4 := Lib.hid hA; have K4 := Lib.hid (K3.out.trans (hK.mono fun _ q => .inl q)); have X4 := Lib.hid hX
    clear hA hK hX
    have EV := Lib.hid (fun r => X3.out.ev HW.out r nh (by have := HI.out.1; omega))
    rcases hc with ⟨rfl, hd⟩ | ⟨rfl, rfl, hf2⟩
    · have D2 := Lib.hid (hd.congr fun r => EV.out (upd r v b))
      clear hd
      have he : errv 0 = .nilIface := rfl
      rw [he]
      clear he
      go_wp2_with fail
      have hok := dia_ok (by omega) D1.out D2.out
      refine (mk_any A4.out ⟨nv, lo, hi⟩ hok).mono ?_
      rintro e w5 ⟨rfl, hA, hK⟩
      have M := Lib.hid (mk_made (most := most) A4.out.wf hok)
      generalize (mk most ns2 ⟨nv, lo, hi⟩).2.1 = k at *
      generalize (mk most ns2 ⟨nv, lo, hi⟩).2.2 = er at *
      generalize (mk most ns2 ⟨nv, lo, hi⟩).1 = ns3 at *
      have A5 := Lib.hid (hA.mono fun _ q => .inl q : Ar w5 X a ns3 most); have K5 := Lib.hid (K4.out.trans (hK.mono fun _ q => .inl q))
      clear hA hK hok
      go_wp2_with fail
      go_ret2
      refine ⟨ns3, k, er, rfl, A5.out, K5.out, (X3.out.trans X4.out).trans M.out.ext, ?_⟩
      rcases Nat.eq_zero_or_pos er with q | q
      · exact .inl ⟨q, (dia_node HW.out (by omega) D1.out D2.out M.out q).congr HSP.out⟩
      · have hfl := M.out.fail (by omega)
        exact .inr ⟨hfl.1, hfl.2.1, (lack_mk HW.out (by omega) D1.out D2.out M.out (by omega)).congr HSP.out⟩
    · have he : errv 8 = .iface 79 (.int .i64 8) := rfl
      rw [he]
      clear he
      have L2 := Lib.hid ((lack_hi HW.out (by omega) D1.out (fun x hx r c => fr1.out x hx r c) (hf2.congr fun r => EV.out (upd r v b))).congr HSP.out)
      go_wp2_with fail
      go_ret2
      exact ⟨ns2, 0, 8, rfl, A4.out.mono (fun _ q => .inl q), K4.out, X3.out.trans X4.out, .inr ⟨rfl, rfl, L2.out⟩⟩
  · have he : errv 8 = .iface 79 (.int .i64 8) := rfl
    rw [he]
    clear he
    have L1 := Lib.hid ((lack_lo HW.out (by omega) (fun x hx r c => fr0.out x hx r c) (fun x hx r c => fr1.out x hx r c) hf1).congr HSP.out)
    go_wp2_with fail
    go_ret2
    exact ⟨ns1, 0, 8, rfl, A3.out.mono (fun _ q => .inl q), K3.out, X3.out, .inr ⟨rfl, rfl, L1.out⟩⟩

theorem OpPost.mono {X : Nat → Prop} {a most : Nat} {W : World} {ns : List Nd} {n m v u : Nat} {F : (Nat → Bool) → Bool} {e : Ending} {W' : World} (hn : n ≤ m) (hu : u ≤ v) (h : OpPost X a most W ns n v F e W') : OpPost X a most W ns m u F e W' := by
  obtain ⟨ns', k, err, h1, h2, h3, h4, h5⟩ := h
  refine ⟨ns', k, err, h1, h2, h3, h4, ?_⟩
  rcases h5 with ⟨q1, q2⟩ | ⟨q1, q2, q3⟩
  · exact .inl ⟨q1, q2.mono hn hu⟩
  · exact .inr ⟨q1, q2, q3.mono hn⟩
theorem OpPost.old {X : Nat → Prop} {a most : Nat} {W W' : World} {ns : List Nd} {n v k : Nat} {F : (Nat → Bool) → Bool} (h : Ar W X a ns most) (hb : Below W.heap.size W W') (hk : k < ns.length) (hv : v ≤ var ns k) (he : ∀ r, ev ns r k = F r) :
    OpPost X a most W ns n v F (.returned (.tuple #[.int .i64 k, errv 0])) W' := ⟨ns, k, 0, rfl, h.below hb, Keep.below hb, Ext.refl _, .inl ⟨rfl, dia_old h.wf hk hv he⟩⟩

theorem rst_all {a most : Nat} (v : Nat) (hv4 : v < 1024) (b : Bool) (n : Nat) : ∀ lev, lev + n = 4 → RstIH a most n lev v b := by
  induction n using Nat.strongRecOn with
  | ind n ih =>
    intro lev hl X W ns f hA hf df hlev
    rcases Nat.lt_or_ge f 2 with h2 | h2
    · have hv := (var_last hA.wf hf).2 h2
      refine (rst_past hA f v b hf (.inl hv)).mono fun e W' ⟨he, hb⟩ => ?_
      subst he
      refine .old hA hb hf hlev fun r => ?_
      have : f = 0 ∨ f = 1 := by omega
      rcases this with rfl | rfl <;> simp [ev_zero, ev_one]
    · have hv := df.var hA.wf hf h2
      rcases Nat.lt_trichotomy (var ns f) v with h | h | h
      · obtain ⟨m, hm⟩ : ∃ m, var ns f + (m + 1) = 4 := ⟨3 - var ns f, by omega⟩
        exact (rst_go m (var ns f) v b hm (ih m (by omega) (var ns f + 1) (by omega)) h X W ns f hA hf h2 df rfl).mono fun e W' q => q.mono (by omega) hlev
      · refine (rst_at hA f v b hf h (by omega)).mono fun e W' ⟨he, hb⟩ => ?_
        subst he
        have q := half_is hA.wf hf (v := v) (by omega) (by omega) b
        have e : half ns f v b = if b then (nd ns f).hi else (nd ns f).lo := by unfold half; rw [if_pos h]
        rw [e] at q
        exact .old hA hb q.lt (by have := q.var; omega) q.ev
      · refine (rst_past hA f v b hf (.inr h)).mono fun e W' ⟨he, hb⟩ => ?_
        subst he
        exact .old hA hb hf hlev fun r => (ev_upd hA.wf hf h r b).symm
/-- Restrict, of a diagram of four variables. -/
theorem rst_any {w : World} {X : Nat → Prop} {a : Nat} {ns : List Nd} {most : Nat} (h : Ar w X a ns most) (f v : Nat) (hv : v < 1024) (b : Bool) (hf : f < ns.length) (df : Dep 4 ns f) :
    Calls Try.prog 43 #[.pointer (some ⟨a, 0, none⟩), .int .i64 f, .int .i64 v, .bool b] w (OpPost X a most w ns 4 0 (fun r => ev ns (upd r v b) f)) :=
  rst_all v hv b 4 0 rfl X w ns f h hf df (Nat.zero_le _)
end Go.Proofs.Ytbceacihkdmgkaa
