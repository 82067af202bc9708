import Derived.Test.YtbceacihkdmgkaaIteB
set_option linter.unusedVariables false
namespace Go.Proofs.Ytbceacihkdmgkaa
open Go.RowKit Mq

theorem IteOut.mono {X : Nat → Prop} {a most mb db : Nat} {W : World} {ns : List Nd} {n m v u : Nat} {F : (Nat → Bool) → Bool} {e : Ending} {W' : World} (hn : n ≤ m) (hu : u ≤ v)
    (h : IteOut X a most mb db W ns n v F e W') : IteOut X a most mb db W ns m u F e W' := by
  obtain ⟨ns', k, D', err, h1, h2, h3, h4, h5, h6⟩ := h
  refine ⟨ns', k, D', err, h1, h2, h3, h4, h5, ?_⟩
  rcases h6 with ⟨q1, q2, q3⟩ | ⟨q1, q2, q3⟩
  · exact .inl ⟨q1, q2, q3.mono hn hu⟩
  · exact .inr ⟨q1, q2, q3.mono hn⟩

/-- An answer that is there already. -/
theorem IteOut.old {X : Nat → Prop} {a most mb db : Nat} {W : World} {ns : List Nd} {D : List (Key × Nat)} {n v : Nat} {F : (Nat → Bool) → Bool} {W' : World} {k : Nat}
    (hA : Ar W (fun b => X b ∨ b = mb ∨ b = db) a ns most) (hM : MkBox W mb db a 0 D) (hD : Memo ns D) (hb : Below W.heap.size W W') (hk : k < ns.length) (hv : v ≤ var ns k) (he : ∀ r, ev ns r k = F r) :
    IteOut X a most mb db W ns n v F (.returned (.int .i64 k)) W' :=
  ⟨ns, k, D, 0, rfl, hA.below hb, Keep.below hb, hM.below hb, Ext.refl _, .inl ⟨rfl, hD, dia_old hA.wf hk hv he⟩⟩

theorem ite_all {a most mb db : Nat} (n : Nat) : ∀ v, v + n = 4 → IteIH a most mb db n v := by
  induction n using Nat.strongRecOn with
  | ind n ih =>
    intro v hvn X W ns D f g h hxm hxd hA hM hD hf hg hh df dg dh vf vg vh
    by_cases f1 : f = 1
    · subst f1
      exact (ite_one hM g h).mono fun e W' ⟨he, hw⟩ => by
        subst he; subst hw
        exact .old hA hM hD (Below.refl _ _) hg vg fun r => by simp [iteF, ev_one]
    · by_cases hgh : g = h
      · subst hgh
        exact (ite_same hM f g f1).mono fun e W' ⟨he, hw⟩ => by
          subst he; subst hw
          exact .old hA hM hD (Below.refl _ _) hg vg fun r => by simp [iteF]
      · by_cases f0 : f = 0
        · subst f0
          exact (ite_zero hM g h hgh).mono fun e W' ⟨he, hw⟩ => by
            subst he; subst hw
            exact .old hA hM hD (Below.refl _ _) hh vh fun r => by simp [iteF, ev_zero]
        · cases hl : Mq.look ⟨f, g, h⟩ D with
          | some r =>
            obtain ⟨_, _, _, q4, q5, q6⟩ := hD _ (look_mem hl)
            exact (ite_memo hM f g h r f0 f1 hgh hl).mono fun e W' ⟨he, hb⟩ => by
              subst he
              exact .old hA hM hD hb q4 (by simp only at q5; omega) q6
          | none =>
            have hvf : var ns f < 4 := df.var hA.wf hf (by omega)
            obtain ⟨u, hu⟩ : ∃ u, u = min (var ns f) (min (var ns g) (var ns h)) := ⟨_, rfl⟩
            obtain ⟨m, hm⟩ : ∃ m, u + (m + 1) = 4 := ⟨3 - u, by omega⟩
            exact (ite_go m u hm (ih m (by omega) (u + 1) (by omega)) X W ns D f g h hxm hxd hA hM hD hf hg hh df dg dh hu f0 f1 hgh hl).mono fun e W' q =>
              q.mono (by omega) (by omega)

/-- A number that fits, or that of no. -/
def fit (ns : List Nd) (f : Int) : Nat := if 0 ≤ f ∧ f < ns.length then f.toNat else 0
set_option maxRecDepth 100000 in
theorem fits_any {w : World} {X : Nat → Prop} {a : Nat} {ns : List Nd} {most : Nat} (h : Ar w X a ns most) (f : Int) :
    Calls Try.prog 56 #[.pointer (some ⟨a, 0, none⟩), .int .i64 f] w fun e w' => e = .returned (.int .i64 (fit ns f : Nat)) ∧ w = w' := by
  have H := Lib.hid h
  clear h
  by_cases h0 : f < 0
  · have hfit : Hid ((fit ns f : Int) = 0) := by show (fit ns f : Int) = 0; unfold fit; rw [if_neg (by omega)]; rfl
    go_enter Try.func56, Try.ntmps56
    go_wp2_with fail
    go_ret
    exact ⟨ret_int hfit.out.symm, rfl⟩
  · obtain ⟨m, rfl⟩ := Int.eq_ofNat_of_zero_le (show 0 ≤ f by omega)
    by_cases hm : m < ns.length
    · have hfit : Hid ((fit ns (m : Int) : Int) = m) := by show (fit ns (m : Int) : Int) = m; unfold fit; rw [if_pos (by omega)]; simp
      go_enter Try.func56, Try.ntmps56
      go_wp2_with fail
      refine (len_any H.out).mono ?_
      rintro e w1 ⟨rfl, rfl⟩
      go_wp2_with fail
      go_ret
      exact ⟨ret_int hfit.out.symm, rfl⟩
    · have hfit : Hid ((fit ns (m : Int) : Int) = 0) := by show (fit ns (m : Int) : Int) = 0; unfold fit; rw [if_neg (by omega)]; rfl
      go_enter Try.func56, Try.ntmps56
      go_wp2_with fail
      refine (len_any H.out).mono ?_
      rintro e w1 ⟨rfl, rfl⟩
      go_wp2_with fail
      go_ret
      exact ⟨ret_int hfit.out.symm, rfl⟩
theorem fit_nat (ns : List Nd) (f : Nat) (h : f < ns.length) : fit ns (f : Int) = f := by unfold fit; rw [if_pos (by omega)]; simp

/-- What Of leaves: the diagram, or the word that there is no room for it. -/
def OpPost (X : Nat → Prop) (a most : Nat) (W : World) (ns : List Nd) (n v : Nat) (F : (Nat → Bool) → Bool) (e : Ending) (W' : World) : Prop :=
  ∃ ns' k err, e = .returned (.tuple #[.int .i64 (k : Nat), errv err]) ∧ Ar W' X a ns' most ∧ Keep X W W' ∧ Ext ns ns' ∧
    ((err = 0 ∧ Dia ns n v F ns' k) ∨ (err = 8 ∧ k = 0 ∧ Lack most ns n F))

set_option maxRecDepth 100000 in
set_option maxHeartbeats 1000000 in
theorem iteOf_any {w : World} {X : Nat → Prop} {a : Nat} {ns : List Nd} {most : Nat} (h : Ar w X a ns most) (f g i : Int) (df : Dep 4 ns (fit ns f)) (dg : Dep 4 ns (fit ns g)) (di : Dep 4 ns (fit ns i))
    (n v : Nat) (hn : v + n = 4) (vf : v ≤ var ns (fit ns f)) (vg : v ≤ var ns (fit ns g)) (vi : v ≤ var ns (fit ns i)) :
    Calls Try.prog 35 #[.pointer (some ⟨a, 0, none⟩), .int .i64 f, .int .i64 g, .int .i64 i] w (OpPost X a most w ns n v (iteF ns (fit ns f) (fit ns g) (fit ns i))) := by
  have H := Lib.hid h
  have DF := Lib.hid df
  have DG := Lib.hid dg
  have DI := Lib.hid di
  have VF := Lib.hid vf
  have VG := Lib.hid vg
  have VI := Lib.hid vi
  clear h df dg di vf vg vi
  have hmm := @run_makeMap Try.prog
  go_enter Try.func35, Try.ntmps35
  go_wp2_with fail
  have hb2 := below_alloc (below_alloc (Below.refl w.heap.size w) (.map #[] 0)) (.cells #[.pointer (some ⟨a, 0, none⟩), .map (some w.heap.size), .nilIface] 78)
  have hd1 : ((w.alloc (.map #[] 0)).alloc (.cells #[.pointer (some ⟨a, 0, none⟩), .map (some w.heap.size), .nilIface] 78)).heap[w.heap.size]? = some (.map #[] 0) := by
    rw [Below.heap_alloc _ _ _ (by simp)]; exact heap_alloc_new w _
  have hd2 := heap_alloc_new (w.alloc (.map #[] 0)) (.cells #[.pointer (some ⟨a, 0, none⟩), .map (some w.heap.size), .nilIface] 78)
  have hsz : ((w.alloc (.map #[] 0)).alloc (.cells #[.pointer (some ⟨a, 0, none⟩), .map (some w.heap.size), .nilIface] 78)).heap.size = w.heap.size + 2 := by simp
  have hsz1 : (w.alloc (.map #[] 0)).heap.size = w.heap.size + 1 := by simp
  rw [hsz1] at hd2
  have hA := H.out.below_more hb2
  generalize ((w.alloc (.map #[] 0)).alloc (.cells #[.pointer (some ⟨a, 0, none⟩), .map (some w.heap.size), .nilIface] 78)) = W2 at *
  have hM : MkBox W2 (w.heap.size + 1) w.heap.size a 0 [] := ⟨hd2, hd1⟩
  have hA2 : Ar W2 (fun b => X b ∨ b = w.heap.size + 1 ∨ b = w.heap.size) a ns most := hA.mono fun b hb => by
    rcases hb with hb | hb | hb
    · exact .inl hb
    · exact .inr ⟨by omega, by omega⟩
    · exact .inr ⟨by omega, by omega⟩
  have A2 := Lib.hid hA2
  have M2 := Lib.hid hM
  have B2 := Lib.hid hb2
  clear hb2 hd1 hd2 hsz hsz1 hA hA2 hM hmm
  refine (fits_any A2.out f).mono ?_
  rintro e w3 ⟨rfl, rfl⟩
  go_wp2_with fail
  refine (fits_any A2.out g).mono ?_
  rintro e w3 ⟨rfl, rfl⟩
  go_wp2_with fail
  refine (fits_any A2.out i).mono ?_
  rintro e w3 ⟨rfl, rfl⟩
  go_wp2_with fail
  have hlo := H.out.low
  have hfl : ∀ x : Int, fit ns x < ns.length := fun x => by have := H.out.wf.two; unfold fit; split <;> omega
  refine (ite_all n v hn X W2 ns [] (fit ns f) (fit ns g) (fit ns i) (fun q => by have := hlo _ q; omega) (fun q => by have := hlo _ q; omega) A2.out M2.out (fun p hp => by cases hp) (hfl f) (hfl g) (hfl i)
    DF.out DG.out DI.out VF.out VG.out VI.out).mono ?_
  clear hlo hfl
  rintro e w4 ⟨ns', k, D', err, rfl, hA, hK, hM, hX, hcase⟩
  obtain ⟨-, -, c2, -, -, -⟩ := cells3 hM.head
  have A4 := Lib.hid (hA.mono (fun b q => .inl q) : Ar w4 X a ns' most)
  have K4 := Lib.hid ((Keep.below B2.out).trans hK)
  have X4 := Lib.hid hX
  clear hA hK hM hX
  rcases hcase with ⟨rfl, -, hd⟩ | ⟨rfl, rfl, hf⟩
  · have he : errv 0 = .nilIface := rfl
    rw [he] at c2
    clear he
    have HD := Lib.hid hd
    clear hd
    go_wp2_with fail
    go_ret2
    exact ⟨ns', k, 0, rfl, A4.out, K4.out, X4.out, .inl ⟨rfl, HD.out⟩⟩
  · have he : errv 8 = .iface 79 (.int .i64 8) := rfl
    rw [he] at c2
    clear he
    go_wp2_with fail
    go_quiet (fail)
    go_wp2_with fail
    go_ret2
    exact ⟨ns', 0, 8, rfl, A4.out.drewN _, K4.out.drewN _, X4.out, .inr ⟨rfl, rfl, hf⟩⟩
end Go.Proofs.Ytbceacihkdmgkaa
