import Derived.Test.YteciceelinbfoaaDoorLw
import Derived.Test.YteciceelinbfoaaDoorCp
set_option linter.unusedVariables false
namespace Go.Proofs.YteciceelinbfoaaDoor
open Go.RowKit Mq

def pfc (p : Pfx) : List Value := [.int .u32 p.addr, .int .i64 p.bits]
def stc (s : StV) : List Value := [.int .u32 s.px.addr, .int .i64 s.px.bits, .string s.via, .int .i64 s.at_]
structure RtOk (w : World) (r : RtV) : Prop where
  nets : SlOk pfc 2 (fun _ _ => True) w r.nets
  links : SlOk lkc 5 (fun _ _ => True) w r.links
  stats : SlOk stc 4 (fun _ _ => True) w r.stats
structure CfOk (w : World) (c : CfV) : Prop where
  maps : SlOk mpc 3 (fun _ _ => True) w c.maps
  rts : SlOk rtc 5 RtOk w c.rts
theorem RtOk.below {w w' : World} {r : RtV} (h : RtOk w r) (hb : Below w.heap.size w w') : RtOk w' r :=
  ⟨slok_below h.nets hb fun _ h => h, slok_below h.links hb fun _ h => h, slok_below h.stats hb fun _ h => h⟩
theorem CfOk.below {w w' : World} {c : CfV} (h : CfOk w c) (hb : Below w.heap.size w w') : CfOk w' c :=
  ⟨slok_below h.maps hb fun _ h => h, slok_below h.rts hb fun _ h => h.below hb⟩
theorem slok_weak {α : Type} {ec : α → List Value} {size : Nat} {Ok Ok' : World → α → Prop} {w : World} {s : SlV α} (h : SlOk ec size Ok w s) (hok : ∀ u, Ok w u → Ok' w u) : SlOk ec size Ok' w s :=
  ⟨h.at_, fun u hu => hok u (h.ok u hu), h.fits, h.cap⟩
/-- A prefix that is there twice. -/
def dupP (seen : List Pfx) : List Pfx → Bool
  | [] => false
  | p :: l => if seen.any (fun s => decide (s = p)) then true else dupP (seen ++ [p]) l
def waysBad (ls : List LkV) (seen : List Pfx) : List StV → Option (Int × Int)
  | [] => none
  | s :: ss => if (peerL ls s.via).isSome then (if seen.any (fun x => decide (x = s.px)) then some (4, s.at_) else waysBad ls (seen ++ [s.px]) ss) else some (3, s.at_)
def rtBad (rts : List RtV) (ms : List ByteArray) (r : RtV) : Option (Int × Int) :=
  if dupP [] r.nets.l then some (4, r.at_) else (linkBad rts ms r.name [] r.links.l).or (waysBad r.links.l [] r.stats.l)
def rtsBad (rts : List RtV) (ms : List ByteArray) : List RtV → Option (Int × Int)
  | [] => none
  | r :: rs => (rtBad rts ms r).or (rtsBad rts ms rs)
/-- What check.Config says. -/
def cfgBad (c : CfV) : Option (Int × Int) :=
  match dupL [] (mapN c) with
  | some p => some (4, p)
  | none => match dupL [] (rtN c) with
    | some p => some (4, p)
    | none => rtsBad c.rts.l (c.maps.l.map (·.name)) c.rts.l
theorem dupP_drop {seen l : List Pfx} {k : Nat} {p : Pfx} (hk : l[k]? = some p) : dupP seen (l.drop k) = if seen.any (fun s => decide (s = p)) then true else dupP (seen ++ [p]) (l.drop (k + 1)) := by
  have hlt := (List.getElem?_eq_some_iff.1 hk).1
  have he : l[k] = p := (List.getElem?_eq_some_iff.1 hk).2
  rw [List.drop_eq_getElem_cons hlt, he]; rfl
theorem waysBad_drop {ls : List LkV} {seen : List Pfx} {l : List StV} {k : Nat} {p : StV} (hk : l[k]? = some p) : waysBad ls seen (l.drop k) = if (peerL ls p.via).isSome then (if seen.any (fun x => decide (x = p.px)) then some (4, p.at_) else waysBad ls (seen ++ [p.px]) (l.drop (k + 1))) else some (3, p.at_) := by
  have hlt := (List.getElem?_eq_some_iff.1 hk).1
  have he : l[k] = p := (List.getElem?_eq_some_iff.1 hk).2
  rw [List.drop_eq_getElem_cons hlt, he]; rfl
theorem rtsBad_drop {rts : List RtV} {ms : List ByteArray} {l : List RtV} {k : Nat} {p : RtV} (hk : l[k]? = some p) : rtsBad rts ms (l.drop k) = (rtBad rts ms p).or (rtsBad rts ms (l.drop (k + 1))) := by
  have hlt := (List.getElem?_eq_some_iff.1 hk).1
  have he : l[k] = p := (List.getElem?_eq_some_iff.1 hk).2
  rw [List.drop_eq_getElem_cons hlt, he]; rfl
theorem pfs_get {w : World} {B : Nat} {A : Option Addr} {es : List Pfx} (h : Sli pfc 2 w B A es) {k : Nat} {e : Pfx} (hk : es[k]? = some e) :
    ∃ b off, A = some ⟨b, off, none⟩ ∧ b < B ∧ w.cell? ⟨b, off + k * 2, none⟩ = some (.int .u32 e.addr) ∧ w.cell? ⟨b, off + k * 2 + 1, none⟩ = some (.int .i64 e.bits) := by
  obtain ⟨b, off, hA, hB, hc⟩ := h (by have := (List.getElem?_eq_some_iff.1 hk).1; omega)
  exact ⟨b, off, hA, hB, hc k e hk 0 (by omega), hc k e hk 1 (by omega)⟩
theorem sts_get {w : World} {B : Nat} {A : Option Addr} {es : List StV} (h : Sli stc 4 w B A es) {k : Nat} {e : StV} (hk : es[k]? = some e) :
    ∃ b off, A = some ⟨b, off, none⟩ ∧ b < B ∧ w.cell? ⟨b, off + k * 4, none⟩ = some (.int .u32 e.px.addr) ∧ w.cell? ⟨b, off + k * 4 + 1, none⟩ = some (.int .i64 e.px.bits) ∧ w.cell? ⟨b, off + k * 4 + 2, none⟩ = some (.string e.via) ∧ w.cell? ⟨b, off + k * 4 + 3, none⟩ = some (.int .i64 e.at_) := by
  obtain ⟨b, off, hA, hB, hc⟩ := h (by have := (List.getElem?_eq_some_iff.1 hk).1; omega)
  exact ⟨b, off, hA, hB, hc k e hk 0 (by omega), hc k e hk 1 (by omega), hc k e hk 2 (by omega), hc k e hk 3 (by omega)⟩
theorem look_pfx (x : Pfx) : ∀ ns : List Pfx, (Mq.look x (ns.map fun n => (n, true))).getD false = ns.any fun s => decide (s = x)
  | [] => rfl
  | n :: ns => by
    have ih := look_pfx x ns
    simp only [List.map_cons, Mq.look, List.any_cons]
    by_cases h : n = x
    · subst h; simp
    · rw [if_neg h, decide_eq_false h, Bool.false_or, ih]
theorem look_pfx_none {x : Pfx} : ∀ {ns : List Pfx}, (ns.any fun s => decide (s = x)) = false → Mq.look x (ns.map fun n => (n, true)) = none
  | [], _ => rfl
  | n :: ns, h => by
    simp only [List.any_cons, Bool.or_eq_false_iff, decide_eq_false_iff_not] at h
    simp only [List.map_cons, Mq.look]
    rw [if_neg h.1]; exact look_pfx_none h.2
end Go.Proofs.YteciceelinbfoaaDoor
