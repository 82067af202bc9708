import Derived.Test.YtimlfmklbfgliaaDoorAr
import Derived.Deep.RegionLaw
import Derived.Deep.RegionLawGrows
import Derived.Deep.AppendLies
import Derived.Deep.DeepCutAuto
set_option linter.unusedVariables false
namespace Go.Proofs.YtimlfmklbfgliaaDoor
open Go.RowKit Mq

def errv (e : Nat) : Value := if e = 0 then .nilIface else .iface 38 (.int .i64 e)

theorem eqf_last {P : Program} {d : Nat} {xs ys : Array Value} {f : Field} {a b : Value} {r : Bool} {w : World} (hn : (f.name == "_") = false) (ha : (part f.type xs f.offset).run P w = .ok a w) (hb : (part f.type ys f.offset).run P w = .ok b w) (he : (Op.equalIn d f.type a b).run P w = .ok r w) : (Op.eqFields d xs ys [f]).run P w = .ok r w := by
  have hn' : f.name ≠ "_" := by simpa using hn
  simp only [Op.eqFields, if_pos hn', Sem.run_bind, ha, hb, he, Result.andThen_ok]
  cases r <;> simp
theorem eqf_cons {P : Program} {d : Nat} {xs ys : Array Value} {f : Field} {fs : List Field} {a b : Value} {r s : Bool} {w : World} (hn : (f.name == "_") = false) (ha : (part f.type xs f.offset).run P w = .ok a w) (hb : (part f.type ys f.offset).run P w = .ok b w) (he : (Op.equalIn d f.type a b).run P w = .ok r w) (hr : (Op.eqFields d xs ys fs).run P w = .ok s w) : (Op.eqFields d xs ys (f :: fs)).run P w = .ok (r && s) w := by
  have hn' : f.name ≠ "_" := by simpa using hn
  rw [Op.eqFields]
  simp only [if_pos hn', Sem.run_bind, ha, hb, he, Result.andThen_ok]
  cases r
  · simp
  · simpa using hr
theorem eqA_of {P : Program} {d : Nat} {xs ys : Array Value} {r : Bool} {w : World} {t : TypeId} {fs : Array Field} (hu : P.underlying t = some (.struct fs)) (hp : P.stoodInHeld t = false) (h : (Op.eqFields d xs ys fs.toList).run P w = .ok r w) : (Op.equalIn (d + 1) t (.agg xs) (.agg ys)).run P w = .ok r w := by
  have hf : P.fieldsOf t = fs := by simp [Program.fieldsOf, hu]
  rw [run_equalIn_struct (P := P) w d t xs ys (by rw [hf]; exact hu) hp, hf]
  exact h

theorem eq_ints3 (w : World) (d : Nat) (x0 x1 x2 y0 y1 y2 : Int) : (Op.equalIn (d + 2) 43 (.agg #[.int .i64 x0, .int .i64 x1, .int .i64 x2]) (.agg #[.int .i64 y0, .int .i64 y1, .int .i64 y2])).run Tryd.prog w = .ok (x0 == y0 && (x1 == y1 && (x2 == y2))) w := by
  refine eqA_of Tryd.underlying43 (by kernel_rfl) ?_
  refine eqf_cons (by rfl) (by go_simp; rfl) (by go_simp; rfl) (by go_simp) ?_
  refine eqf_cons (by rfl) (by go_simp; rfl) (by go_simp; rfl) (by go_simp) ?_
  exact eqf_last (by rfl) (by go_simp; rfl) (by go_simp; rfl) (by go_simp)
theorem node_key : KeyT ndv Tryd.prog 43 := by
  refine KeyT.of_equal (by rw [Tryd.underlying43]) ?_ ?_ ?_
  · intro w em x
    kernel_rfl
  · intro w x y
    have h := eq_ints3 w 9998 x.v x.lo x.hi y.v y.lo y.hi
    have e : decide (x = y) = ((x.v : Int) == y.v && ((x.lo : Int) == y.lo && ((x.hi : Int) == y.hi))) := by
      cases x; cases y; simp; rw [Bool.eq_iff_iff]; simp; omega
    rw [e]; exact h
  · intro x
    simp [ndv, Instr.sameBits]
theorem run_mk_look (w : World) {sb : Nat} {ns : List Nd} (h : w.heap[sb]? = some (mapObj ndv numv (seenL ns))) (n : Nd) :
    (Instr.lookup 45 (.map (some sb)) (ndv n) true).run Tryd.prog w = .ok (.tuple #[numv ((place ns n).getD 0), .bool (place ns n).isSome]) w := by
  have := run_look node_key (e := 3) Tryd.underlying45 (z := 0) (encv := numv) (fun w => by kernel_rfl) w h n true
  exact this

def MkPost (X : Nat → Prop) (a : Nat) (most : Nat) (w : World) (ns' : List Nd) (k e : Nat) (en : Ending) (w' : World) : Prop :=
  en = .returned (.tuple #[.int .i64 k, errv e]) ∧ Ar w' X a ns' most ∧ Keep X w w'
theorem MkPost.of {X : Nat → Prop} {a most : Nat} {w : World} {ns' : List Nd} {k e : Nat} {w' : World} {v1 v2 : Value} (h1 : v1 = .int .i64 k) (h2 : v2 = errv e) (h3 : Ar w' X a ns' most) (h4 : Keep X w w') : MkPost X a most w ns' k e (.returned (.tuple #[v1, v2])) w' := by
  subst h1; subst h2; exact ⟨rfl, h3, h4⟩

/-- What append leaves: all as it was but the nodes' array; with the new slice stored in the arena's struct it has one node more. -/
structure Pushed (W w' : World) (X : Nat → Prop) (a sb most : Nat) (ns : List Nd) (n : Nd) (L : List (Nd × Nat)) (v : Value) (g' cap' : Nat) : Prop where
  keep : Keep X W w'
  cell : w'.cell? ⟨a, 0, none⟩ = some v
  free : w'.frozen? ⟨a, 0, none⟩ = false
  arm : ∃ cur', ArM (w'.setCell ⟨a, 0, none⟩ (.slice (some ⟨g', 0, none⟩) (ns.length + 1) cap')) X a sb g' cap' cur' (ns ++ [n]) L most

theorem node_info : (Tryd.prog.info? 43).map (fun i => (i.zero, i.size, i.bytes)) = some (some (.agg #[.int .i64 0, .int .i64 0, .int .i64 0]), 3, 24) := by kernel_rfl

theorem step_push {ops : Array Oper} {o : Oper} {A : Act} {K : Act → World → Prop} {Q : Exit → Act → World → Prop} {E : Prop} {W : World} {X : Nat → Prop} {a sb g cap : Nat} {cur : Array Value} {ns : List Nd} {L : List (Nd × Nat)} {most : Nat}
    (hM : ArM W X a sb g cap cur ns L most) (hlen : ns.length ≤ 131072) (hgd : o.guard = none) (s x : Operand)
    (ho : o.op = .call { callee := .builtin .append, args := #[s, x], argTypes := #[44, 44] })
    (n : Nd) (b c : Nat) (hs : A.eval s = .slice (some ⟨g, 0, none⟩) ns.length cap) (hx : A.eval x = .slice (some ⟨b, 0, none⟩) 1 c) (hb : W.heap[b]? = some (.cells (ndc n).toArray 43 (0, 0)))
    (h : ∀ g' cap' w', Pushed W w' X a sb most ns n L (.slice (some ⟨g, 0, none⟩) ns.length cap) g' cap' → K (A.put o.dst (.slice (some ⟨g', 0, none⟩) (ns.length + 1) cap')) w') :
    if Region.wanted o (yielded ops A.tmps) = true then Oper.wp Tryd.prog o A W K Q else E := by
  obtain ⟨i0, hi, hz0, hz1, hz2⟩ := info_parts node_info
  have hown : W.ownsRow 0 43 3 (.slice (some ⟨g, 0, none⟩) ns.length cap) ns.length (cellsOf ns) :=
    ⟨cellsOf_length ns, .inr ⟨g, cap, cur, rfl, Nat.zero_le _, hM.row, hM.fits, hM.cap_le, hM.size, hM.cells⟩⟩
  refine step_append_lies _ hgd s x 44 ho 0 43 i0 _ 3 24 Tryd.underlying44 hi hz0 hz1 hz2 rfl (by decide) _ ns.length (cellsOf ns) hs hown ⟨b, 0, none⟩ 1 c (ndc n) hx rfl
    (World.news_of_block (cs := (ndc n).toArray) hb) (by intro u hu; simp [ndc] at hu; rcases hu with rfl | rfl | rfl <;> rfl) (by decide) (by unfold maxLen; omega) (by omega) (Nat.zero_le _) _ rfl ?_
  intro g' cap' w' hown' hgrow hat hlt
  refine h g' cap' w' ?_
  have hg := (Array.getElem?_eq_some_iff.1 hM.row).1
  have ha := (Array.getElem?_eq_some_iff.1 hM.head).1
  have hsb := (Array.getElem?_eq_some_iff.1 hM.seen).1
  have hga : a ≠ g := by rintro rfl; have := hM.head.symm.trans hM.row; simp at this
  have hgs : sb ≠ g := by rintro rfl; have := hM.seen.symm.trans hM.row; simp [mapObj] at this
  have old : ∀ k, k < W.heap.size → k ≠ g → w'.heap[k]? = W.heap[k]? := fun k hk hne => hgrow.block k hk (by simpa [Value.ownBlock] using hne)
  have hha := (old a ha hga).trans hM.head
  have hhs := (old sb hsb hgs).trans hM.seen
  have hg' : g' = g ∨ g' = W.heap.size := by simpa [Value.ownBlock, eq_comm] using hat
  have hga' : a ≠ g' := by rcases hg' with rfl | rfl <;> omega
  refine ⟨⟨hgrow.os, hgrow.tape, hgrow.output, hgrow.size, fun k hk hs => old k hs (by rintro rfl; exact hM.xg hk)⟩, ?_, ?_, ?_⟩
  · rw [cell_of_row w' a 0 _ _ (0, 0) hha]; rfl
  · simp [World.frozen?, hha]
  · obtain ⟨h1, h2⟩ := hown'
    rcases h2 with ⟨h2, _⟩ | ⟨g2, cap2, cur', h2, _, h3, h4, h5, h6, h7⟩
    · cases h2
    · injection h2 with e1 e2 e3
      injection e1 with e1
      injection e1 with e1
      subst e1; subst e3
      refine ⟨cur', ?_⟩
      have off : ∀ k, k ≠ a → (w'.setCell ⟨a, 0, none⟩ (.slice (some ⟨g', 0, none⟩) (ns.length + 1) cap')).heap[k]? = w'.heap[k]? := fun k hk => Below.heap_setCell _ _ _ _ hk
      refine ⟨fun k hk => ?_, ?_, ?_, by simpa using h4, h5, h6, ?_, ?_, hM.xa, ?_, hM.xs⟩
      · have := hM.low k hk; have := hgrow.size; simp [World.setCell]; omega
      · simp only [World.setCell, Array.getElem?_modify, hha]; simp
      · rw [off g' (Ne.symm hga')]; exact h3
      · rw [cellsOf_push, ← h7]; simp
      · rw [off sb (by rintro rfl; have := hM.seen.symm.trans hM.head; simp [mapObj] at this)]; exact hhs
      · rcases hg' with rfl | rfl
        · exact hM.xg
        · intro hk; exact absurd (hM.low _ hk) (Nat.lt_irrefl _)

/-- Behind the append and its store. -/
def AfterPush (w : World) (X : Nat → Prop) (a sb most : Nat) (ns : List Nd) (n : Nd) (L : List (Nd × Nat)) (w2 : World) : Prop :=
  ∃ g' cap' cur', ArM w2 (fun k => X k ∨ k = w.heap.size) a sb g' cap' cur' (ns ++ [n]) L most ∧ w2.heap[w.heap.size]? = some (.cells #[.int .i64 n.v, .int .i64 n.lo, .int .i64 n.hi] 43 (0, 0)) ∧ Keep X w w2
theorem AfterPush.of {w : World} {X : Nat → Prop} {a sb most : Nat} {ns : List Nd} {n : Nd} {L : List (Nd × Nat)} {v : Value} {g' cap' q : Nat} {w1 : World} (hl : ∀ k, X k → k < w.heap.size) (hx : ¬ X a) (ha : a < w.heap.size)
    (h : Pushed (((w.alloc (.cells #[.int .i64 n.v, .int .i64 n.lo, .int .i64 n.hi] 43)).drewN q).alloc (.cells #[.int .i64 n.v, .int .i64 n.lo, .int .i64 n.hi] 43)) w1 (fun k => X k ∨ k = w.heap.size) a sb most ns n L v g' cap') :
    AfterPush w X a sb most ns n L (w1.setCell ⟨a, 0, none⟩ (.slice (some ⟨g', 0, none⟩) (ns.length + 1) cap')) := by
  obtain ⟨cur', hM⟩ := h.arm
  have off : ∀ (v : Value) k, k ≠ a → (w1.setCell ⟨a, 0, none⟩ v).heap[k]? = w1.heap[k]? := fun v k hk => Below.heap_setCell _ _ _ _ hk
  refine ⟨g', cap', cur', hM, ?_, ?_⟩
  · rw [off _ _ (by omega), h.keep.block _ (.inr rfl) (by simp; omega), Below.heap_alloc _ _ _ (by simp), World.heap_drewN]
    exact heap_alloc_new w _
  · have k1 := (((Keep.refl X w).alloc (.cells #[.int .i64 n.v, .int .i64 n.lo, .int .i64 n.hi] 43)).drewN q).alloc (.cells #[.int .i64 n.v, .int .i64 n.lo, .int .i64 n.hi] 43)
    have k2 := k1.trans (h.keep.mono fun _ hk => .inl hk)
    exact k2.trans ⟨rfl, rfl, rfl, by simp [World.setCell], fun k hk _ => off _ _ (by rintro rfl; exact hx hk)⟩

theorem heap_new2 (w : World) (o o' : Obj) (q : Nat) : (((w.alloc o).drewN q).alloc o').heap[w.heap.size + 1]? = some o' := by
  have := heap_alloc_new ((w.alloc o).drewN q) o'
  simpa using this

theorem ArM.drewN {w : World} {X : Nat → Prop} {a sb g cap : Nat} {cur : Array Value} {ns : List Nd} {L : List (Nd × Nat)} {most : Nat} (h : ArM w X a sb g cap cur ns L most) (n : Nat) : ArM (w.drewN n) X a sb g cap cur ns L most :=
  h.moved (fun _ _ _ => rfl) h.low (fun k _ hk => h.not_x hk)
theorem ArM.mono' {w : World} {X Y : Nat → Prop} {a sb g cap : Nat} {cur : Array Value} {ns : List Nd} {L : List (Nd × Nat)} {most : Nat} (h : ArM w X a sb g cap cur ns L most) (hy : ∀ k, Y k → X k) : ArM w Y a sb g cap cur ns L most :=
  h.moved (fun _ _ _ => rfl) (fun k hk => h.low k (hy k hk)) (fun k _ hk hY => h.not_x hk (hy k hY))
/-- The map's store. -/
theorem ArM.stored {w : World} {X : Nat → Prop} {a sb g cap : Nat} {cur : Array Value} {ns : List Nd} {L L' : List (Nd × Nat)} {most : Nat} (h : ArM w X a sb g cap cur ns L most) :
    ArM (ChangeMaps.setBlock w sb (mapObj ndv numv L')) X a sb g cap cur ns L' most ∧ Keep X w (ChangeMaps.setBlock w sb (mapObj ndv numv L')) := by
  have hsb := (Array.getElem?_eq_some_iff.1 h.seen).1
  have off : ∀ k, k ≠ sb → (ChangeMaps.setBlock w sb (mapObj ndv numv L')).heap[k]? = w.heap[k]? := fun k hk => by
    simp only [ChangeMaps.setBlock]; rw [Array.getElem?_setIfInBounds_ne (Ne.symm hk)]
  refine ⟨⟨fun k hk => by simpa [ChangeMaps.setBlock] using h.low k hk, ?_, ?_, h.fits, h.cap_le, h.size, h.cells, ?_, h.xa, h.xg, h.xs⟩, ⟨rfl, rfl, rfl, by simp [ChangeMaps.setBlock], fun k hk _ => off k (by rintro rfl; exact h.xs hk)⟩⟩
  · rw [off a (by rintro rfl; have := h.seen.symm.trans h.head; simp [mapObj] at this)]; exact h.head
  · rw [off g (by rintro rfl; have := h.seen.symm.trans h.row; simp [mapObj] at this)]; exact h.row
  · simp [ChangeMaps.setBlock, hsb]
theorem run_mk_store (w : World) {sb : Nat} {L : List (Nd × Nat)} (h : w.heap[sb]? = some (mapObj ndv numv L)) (n : Nd) (k : Nat) :
    (Instr.mapUpdate 45 (.map (some sb)) (ndv n) (numv k)).run Tryd.prog w = .ok () (ChangeMaps.setBlock w sb (mapObj ndv numv (put n k L))) :=
  Mq.run_store node_key Tryd.underlying45 w h n k
end Go.Proofs.YtimlfmklbfgliaaDoor
