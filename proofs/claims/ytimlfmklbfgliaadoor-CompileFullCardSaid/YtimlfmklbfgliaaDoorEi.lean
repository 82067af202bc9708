import Derived.Test.YtimlfmklbfgliaaDoorVa
import Derived.Test.YtimlfmklbfgliaaDoorWi2
import Derived.Test.YtimlfmklbfgliaaDoorEs
import Derived.Test.YtimlfmklbfgliaaDoorRdt
import Derived.BigQuiet
import Derived.Maps.RangeWalk
set_option linter.unusedVariables false
namespace Go.Proofs.YtimlfmklbfgliaaDoor
open Go.RowKit Mq

/-- An edge's rows lie in such blocks. -/
structure EdIn (X : Nat → Prop) (x : EdV) : Prop where
  ex : ∀ b off, x.ex.A = some ⟨b, off, none⟩ → 0 < x.ex.l.length → X b
  im : ∀ b off, x.im.A = some ⟨b, off, none⟩ → 0 < x.im.l.length → X b
theorem EdIn.mono {X Y : Nat → Prop} {x : EdV} (h : EdIn X x) (hy : ∀ q, X q → Y q) : EdIn Y x := ⟨fun b o a l => hy _ (h.ex b o a l), fun b o a l => hy _ (h.im b o a l)⟩
theorem SlOk.keep {α : Type} {ec : α → List Value} {size : Nat} {Ok : World → α → Prop} {w w' : World} {X : Nat → Prop} {s : SlV α} (h : SlOk ec size Ok w s) (hx : ∀ b off, s.A = some ⟨b, off, none⟩ → 0 < s.l.length → X b) (hk : Keep X w w') (hok : ∀ u, Ok w u → Ok w' u) : SlOk ec size Ok w' s :=
  ⟨fun hl => by
    obtain ⟨b, off, e, hb, hc⟩ := h.at_ hl
    exact ⟨b, off, e, Nat.lt_of_lt_of_le hb hk.size, fun k u hu j hj => (hk.cell (p := ⟨b, off + k * size + j, none⟩) (hx b off e hl) hb).trans (hc k u hu j hj)⟩, fun u hu => hok u (h.ok u hu), h.fits, h.cap⟩
theorem EdOk.keep {w w' : World} {X : Nat → Prop} {x : EdV} (h : EdOk w x) (hx : EdIn X x) (hk : Keep X w w') : EdOk w' x := ⟨h.from_, h.cost, h.ex.keep hx.ex hk (fun _ h => h), h.im.keep hx.im hk (fun _ h => h)⟩
theorem SlOk.low {α : Type} {ec : α → List Value} {size : Nat} {Ok : World → α → Prop} {w : World} {s : SlV α} (h : SlOk ec size Ok w s) (b off : Nat) (e : s.A = some ⟨b, off, none⟩) (hl : 0 < s.l.length) : b < w.heap.size := by
  obtain ⟨b', off', e', hb, hc⟩ := h.at_ hl
  rw [e] at e'
  injection e' with e'
  injection e' with e1
  omega
theorem EdOk.low {w : World} {x : EdV} (h : EdOk w x) : EdIn (fun q => q < w.heap.size) x := ⟨fun b o e l => h.ex.low b o e l, fun b o e l => h.im.low b o e l⟩
theorem own_low {w : World} {B : Nat} {A : Option Addr} {c : Nat} {l : List Cl} (h : OwnsCls w B (.slice A l.length c) l) (b off : Nat) (e : A = some ⟨b, off, none⟩) (hl : 0 < l.length) : B ≤ b := by
  rcases h.2 with ⟨h1, h2⟩ | ⟨g, cap, cur, h1, h2, h3, h4, h5, h6⟩
  · omega
  · injection h1 with hA
    rw [e] at hA
    injection hA with hA
    injection hA with hA
    omega
/-- What a wire's edge is, and that its rows are new. -/
def WePostIn (w : World) (v : WiV) (e : Ending) (w' : World) : Prop :=
  ∃ E : EdV, e = .returned (edv E) ∧ EdOk w' E ∧ E.from_ = (v.from_ : Int) ∧ E.cost = 1 + (v.cost : Int) % 3 ∧ E.ex.l = plainL v.ex.l ∧ E.im.l = plainL v.im.l ∧ EdIn (fun q => w.heap.size ≤ q ∧ q < w'.heap.size) E ∧ Below w.heap.size w w'
theorem wireIn_any (v : WiV) (w : World) (hv : WiOk w v) :
    Calls Tryd.prog 7 #[.agg #[.int .u8 v.from_, .int .u8 v.cost, .slice v.ex.A v.ex.l.length v.ex.cap, .slice v.im.A v.im.l.length v.im.cap]] w (WePostIn w v) := by
  refine (wire2_any v w hv).mono ?_
  rintro e w' ⟨A8, c8, A9, c9, rfl, o8, o9, hb⟩
  have V := hv
  have hok : EdOk w' ⟨(v.from_ : Int), 1 + (v.cost : Int) % 3, ⟨A8, c8, plainL v.ex.l⟩, ⟨A9, c9, plainL v.im.l⟩⟩ := ⟨by have := hv.from_; simp only [is64]; omega, by have := hv.cost; simp only [is64]; omega, ForPost.sl (plainL_ok hv.ex.ok) (plainL_len _) o8, ForPost.sl (plainL_ok hv.im.ok) (plainL_len _) o9⟩
  exact ⟨_, rfl, hok, rfl, rfl, rfl, rfl, ⟨fun b o e l => ⟨own_low o8 b o e l, hok.ex.low b o e l⟩, fun b o e l => ⟨own_low o9 b o e l, hok.im.low b o e l⟩⟩, hb⟩
/-- A policy where there is room. -/
def CompAll (X : Nat → Prop) (a : Nat) (ns : List Nd) (w : World) (x : EdV) (e : Ending) (w' : World) : Prop :=
  ∃ ns' L, e = .returned (.tuple #[.agg (outC L), .nilIface]) ∧ Ar w' X a ns' 4096 ∧ Keep X w w' ∧ Ext ns ns' ∧ ns'.length ≤ ns.length + 360 ∧ PolOk ns' (edT x) L
theorem compAll_any {w : World} {X : Nat → Prop} {a : Nat} {ns : List Nd} (h : Ar w X a ns 4096) (hroom : ns.length + 360 ≤ 4096) (x : EdV) (hx : EdOk w x) :
    Calls Tryd.prog 6 #[.pointer (some ⟨a, 0, none⟩), .agg #[.int .i64 x.from_, .int .i64 x.cost, .slice x.ex.A x.ex.l.length x.ex.cap, .slice x.im.A x.im.l.length x.im.cap]] w (CompAll X a ns w x) := by
  refine (compOf_any h x hx).mono ?_
  rintro e w' ⟨rfl, hA, hk⟩
  obtain ⟨h1, h2, h3, h4, h5, h6⟩ := polP_all (T := edT x) h.wf hroom 24 (by omega)
  have ok := polP_ok (T := edT x) h.wf hroom
  rw [h1]
  exact ⟨_, _, rfl, hA, hk, h3, by omega, ok⟩
/-- What is learned by the policy is what is learned over the edge. -/
theorem comp_take {x : EdV} {y : Att} (h0 : 0 ≤ y.cost) (h1 : y.cost ≤ 9000000000) (ht : y.tags < 16) : compTake (edRow x (y.tags % 16)) y = edTake x y := by
  obtain ⟨ok, p, c, t⟩ := y
  simp only at h0 h1 ht ⊢
  cases ok with
  | false => simp [compTake, edTake, takeL, doL, noAtt]
  | true =>
    unfold edRow edTake
    rw [edRow_and x (t % 16) (by omega), Nat.mod_eq_of_lt ht, takeL_shape (by omega) (by omega), takeL_shape h0 h1]
    cases hs : edgeL x.cost x.ex.l x.im.l t with
    | none => simp [outL, compTake, noAtt]
    | some s =>
      have hk := edgeL_ok hs
      have := hk.lo; have := hk.hi
      obtain ⟨q, hq⟩ := Option.isSome_iff_exists.1 hk.some_
      simp only [outL, compTake, hq, Option.getD_some, Bool.and_self, if_true]
      rw [w64_id (x := 0 + s.more) (by unfold is64; omega), w64_id (by unfold is64; omega), Int.zero_add]
/-- 'Sli.both', 'eds_get' of two edges. -/
theorem Sli.both {α : Type} {enc : α → List Value} {size B b : Nat} {w : World} {u v : α} {t : TypeId} (h : w.heap[b]? = some (.cells ((enc u).toArray ++ (enc v).toArray) t (0, 0))) (hb : b < B) (hs : ∀ a, (enc a).length = size) : Sli enc size w B (some ⟨b, 0, none⟩) [u, v] :=
  fun _ => ⟨b, 0, rfl, hb, fun k x hk j hj => by
    rw [gb_cell h]
    match k, hk with
    | 0, hk =>
      simp at hk; subst hk
      simp only [List.append_toArray, List.getElem?_toArray, Nat.zero_mul, Nat.zero_add]
      rw [List.getElem?_append_left (by rw [hs]; exact hj)]
    | 1, hk =>
      simp at hk; subst hk
      simp only [List.append_toArray, List.getElem?_toArray, Nat.one_mul, Nat.zero_add]
      rw [List.getElem?_append_right (by rw [hs]; omega), hs]
      congr 1; omega
    | k + 2, hk => simp at hk⟩
theorem sli_at {α : Type} {enc : α → List Value} {w : World} {B b : Nat} {es : List α} (h : Sli enc 4 w B (some ⟨b, 0, none⟩) es) {k : Nat} {e : α} (hk : es[k]? = some e) : ∀ j, j < 4 → w.cell? ⟨b, k * 4 + j, none⟩ = (enc e)[j]? := by
  obtain ⟨b', off, hA, hB, hc⟩ := h (by have := (List.getElem?_eq_some_iff.1 hk).1; omega)
  injection hA with hA
  injection hA with h1 h2
  subst h1; subst h2
  have := hc k e hk
  simpa only [Nat.zero_add] using this
theorem eds_get {w : World} {B b : Nat} {es : List EdV} (h : Sli edc 4 w B (some ⟨b, 0, none⟩) es) {k : Nat} {e : EdV} (hk : es[k]? = some e) :
    w.cell? ⟨b, k * 4, none⟩ = some (.int .i64 e.from_) ∧ w.cell? ⟨b, k * 4 + 1, none⟩ = some (.int .i64 e.cost) ∧ w.cell? ⟨b, k * 4 + 2, none⟩ = some (.slice e.ex.A e.ex.l.length e.ex.cap) ∧ w.cell? ⟨b, k * 4 + 3, none⟩ = some (.slice e.im.A e.im.l.length e.im.cap) :=
  ⟨sli_at h hk 0 (by omega), sli_at h hk 1 (by omega), sli_at h hk 2 (by omega), sli_at h hk 3 (by omega)⟩
theorem ats_get {w : World} {B b : Nat} {es : List Att} (h : Sli attc 4 w B (some ⟨b, 0, none⟩) es) {k : Nat} {e : Att} (hk : es[k]? = some e) :
    w.cell? ⟨b, k * 4, none⟩ = some (.bool e.ok) ∧ w.cell? ⟨b, k * 4 + 1, none⟩ = some (.int .i64 e.pref) ∧ w.cell? ⟨b, k * 4 + 2, none⟩ = some (.int .i64 e.cost) ∧ w.cell? ⟨b, k * 4 + 3, none⟩ = some (.int .u8 e.tags) :=
  ⟨sli_at h hk 0 (by omega), sli_at h hk 1 (by omega), sli_at h hk 2 (by omega), sli_at h hk 3 (by omega)⟩
/-- A whole row is loaded, in a region that draws its order. -/
theorem quiet_load_row {P : Program} {C : World → Prop} {K : Act → Prop} {o : Oper} {a : Act} (ty : TypeId) (x : Operand) (ho : o.op = .load ty x)
    (g : Nat) (hx : a.eval x = .pointer (some ⟨g, 0, none⟩)) (t : TypeId) (cs : Array Value) (fr : Nat × Nat) (d : TypeDesc) (hg : ∀ w, C w → w.heap[g]? = some (.cells cs t fr))
    (hu : P.underlying ty = some d) (hd : (match d with | .struct _ | .array _ _ => true | _ => false) = true) (hi : (P.info? ty).map (·.size) = some cs.size)
    (h : K (a.put o.dst (.agg cs))) : o.quiet P a C K := by
  refine ⟨.agg cs, fun w hw => ?_, h⟩
  unfold Oper.quietAt execOp
  simp only [ho, hx, Instr.loadAt, Instr.sureAddr, Sem.run_bind, Sem.run_pure, Result.andThen_ok, run_loadVar_row w g t ty cs fr d (hg w hw) hu hd hi]
  exact ⟨rfl, rfl⟩
end Go.Proofs.YtimlfmklbfgliaaDoor
