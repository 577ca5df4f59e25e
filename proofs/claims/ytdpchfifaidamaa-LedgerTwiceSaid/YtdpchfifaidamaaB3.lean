/- How arguments that came in are read: numbers, texts, slices, structs. No condition. -/
import Derived.Test.YtdpchfifaidamaaB2
import Derived.Deep.Slices
namespace Go.Proofs.Ytdpchfifaidamaa.B
open Go.RowKit Go.Maps Go.Proofs.YtdpchfifaidamaaW.PrintWords
set_option linter.unusedVariables false
set_option linter.unusedSimpArgs false

abbrev Rd (α : Type) : Type := World → α → List Value → Prop
def RInt (k : IntKind) : Rd Int := fun _ a cs => cs = [.int k a] ∧ (Lit.int k a).wf = true
def RStr : Rd ByteArray := fun _ s cs => cs = [.string s] ∧ s.size ≤ maxLen
def RBool : Rd Bool := fun _ b cs => cs = [.bool b]
/-- a slice's elements, each of sz cells. -/
def SC {α : Type} (r : Rd α) (sz : Nat) (w : World) (A : Option Addr) (l : List α) : Prop :=
  ∀ j (h : j < l.length), ∃ ad cs, A = some ad ∧ cs.length = sz ∧ (∀ i u, cs[i]? = some u → w.cell? (ad.add (j * sz + i)) = some u) ∧ r w l[j] cs
def RSlice {α : Type} (r : Rd α) (sz : Nat) : Rd (List α) := fun w l cs => ∃ A c, cs = [.slice A l.length c] ∧ l.length ≤ c ∧ c ≤ maxLen ∧ SC r sz w A l
def Stable {α : Type} (r : Rd α) : Prop := ∀ w w' a cs, Below w.heap.size w w' → r w a cs → r w' a cs
theorem stable_int (k : IntKind) : Stable (RInt k) := fun _ _ _ _ _ h => h
theorem stable_str : Stable RStr := fun _ _ _ _ _ h => h
theorem stable_bool : Stable RBool := fun _ _ _ _ _ h => h
theorem SC.below {α : Type} {r : Rd α} (hr : Stable r) {sz : Nat} {w w' : World} {A : Option Addr} {l : List α} (h : SC r sz w A l) (hb : Below w.heap.size w w') : SC r sz w' A l := by
  intro j hj
  obtain ⟨ad, cs, e, hl, hc, hk⟩ := h j hj
  exact ⟨ad, cs, e, hl, fun i u hu => pw_cell_below hb (hc i u hu), hr _ _ _ _ hb hk⟩
theorem stable_slice {α : Type} {r : Rd α} (hr : Stable r) (sz : Nat) : Stable (RSlice r sz) := by
  rintro w w' l cs hb ⟨A, c, e, h1, h2, h3⟩
  exact ⟨A, c, e, h1, h2, h3.below hr hb⟩
theorem SC.strings {w : World} {A : Option Addr} {l : List ByteArray} (h : SC RStr 1 w A l) (hl : l.length ≤ 9223372036854775807) : Kd.C Kd.string w A l.length l ∧ ∀ s ∈ l, s.size ≤ maxLen := by
  constructor
  · refine Kd.C_of_reads (enc := Value.string) (h1 := fun _ => rfl) (d := ByteArray.empty) ⟨rfl, hl, fun h0 => ?_⟩
    obtain ⟨ad, _, e, _⟩ := h 0 h0
    refine ⟨ad, e, fun j hj => ?_⟩
    obtain ⟨ad', cs, e', _, hc, hk, _⟩ := h j hj
    rw [e] at e'
    cases e'
    have := hc 0 (.string l[j]) (by rw [hk]; rfl)
    simpa [List.getD_eq_getElem?_getD, List.getElem?_eq_getElem hj] using this
  · intro s hs
    obtain ⟨j, hj, rfl⟩ := List.getElem_of_mem hs
    obtain ⟨_, _, _, _, _, _, h⟩ := h j hj
    exact h

/-- Whatever of type t is read is so. -/
def Opens {α : Type} (r : Rd α) (t : TypeId) : Prop :=
  ∀ {H : Type} (enc : TypeId × Value → H) (w : World) (base : Nat) (spare : Nat → Bool) (held : Bool) (fuel : Nat) (cs : List Value) (x : DataW H × List MemPlace), DataW.trod enc Try.prog w base spare held fuel t cs = some x → ∃ a : α, r w a cs
theorem opens_int {t : TypeId} {k : IntKind} (ht : Try.prog.underlying t = some (.int k)) : Opens (RInt k) t := fun enc w base spare held fuel cs x h => by
  obtain ⟨n, e, _, hw⟩ := DataW.trod_int ht h
  exact ⟨n, e, hw⟩
theorem opens_str {t : TypeId} (ht : Try.prog.underlying t = some .string) : Opens RStr t := fun enc w base spare held fuel cs x h => by
  obtain ⟨s, e, _, hs⟩ := DataW.trod_string ht h
  exact ⟨s, e, hs⟩
theorem opens_bool {t : TypeId} (ht : Try.prog.underlying t = some .bool) : Opens RBool t := fun enc w base spare held fuel cs x h => by
  obtain ⟨b, e, _⟩ := DataW.trod_bool ht h
  exact ⟨b, e⟩
theorem opens_slice {α : Type} [Inhabited α] {r : Rd α} {t e : TypeId} {sz : Nat} (ht : Try.prog.underlying t = some (.slice e)) (hr : Opens r e) (hc : Try.prog.cellsOf e = sz) : Opens (RSlice r sz) t := fun enc w base spare held fuel cs x h => by
  rcases Deep.open_slice ht h with ⟨hcs, _⟩ | ⟨a, len, cap, m, n, D, Pl, hcs, _, hl, hm, hmm, _, hx⟩
  · exact ⟨[], none, 0, hcs, Nat.le_refl _, Nat.zero_le _, fun j hj => absurd hj (Nat.not_lt_zero _)⟩
  · have hle : len ≤ m := by rw [hmm]; split <;> omega
    obtain ⟨f, hf⟩ := Deep.choose_lt (α := α) (n := len) (p := fun j x => ∃ cs', w.cells? base (a.add (j * sz)) sz = some cs' ∧ r w x cs') (fun j hj => by
      obtain ⟨cs', h1, h2⟩ := hx j (by omega)
      rw [hc] at h1
      obtain ⟨x, hx⟩ := hr enc w base spare held n cs' _ h2
      exact ⟨x, cs', h1, hx⟩)
    refine ⟨(List.range len).map f, some a, cap, by simp [hcs], by simpa using hl, hm, fun j hj => ?_⟩
    have hj' : j < len := by simpa using hj
    obtain ⟨cs', h1, h2⟩ := hf j hj'
    obtain ⟨_, hlen, hcell⟩ := World.cells?_some h1
    refine ⟨a, cs', rfl, hlen, fun i u hu => ?_, by simpa using h2⟩
    have hi : i < sz := by
      rw [← hlen]
      rcases Nat.lt_or_ge i cs'.length with h | h
      · exact h
      · rw [List.getElem?_eq_none h] at hu; cases hu
    rw [← Deep.add_add, hcell i hi, hu]
/-- a field of a struct that is read. -/
theorem opens_field {H : Type} {enc : TypeId × Value → H} {w : World} {base : Nat} {spare : Nat → Bool} {held : Bool} {fuel : Nat} {t : TypeId} {fs : Array Field} {cs : List Value} {x : DataW H × List MemPlace}
    (ht : Try.prog.underlying t = some (.struct fs)) (h : DataW.trod enc Try.prog w base spare held fuel t cs = some x) {α : Type} {r : Rd α} (i : Nat) {ty : TypeId} (off sz : Nat) (hf : (fs[i]?).map (fun f => (f.type, f.offset)) = some (ty, off)) (hr : Opens r ty) (hc : Try.prog.cellsOf ty = sz) :
    ∃ a, r w a ((cs.drop off).take sz) := by
  obtain ⟨xs, n, _, _, _, hl, hx⟩ := DataW.trod_struct ht h
  obtain ⟨f, hf1, hf2⟩ := Option.map_eq_some_iff.1 hf
  cases hf2
  have hi : i < fs.size := by
    rcases Nat.lt_or_ge i fs.size with h | h
    · exact h
    · rw [Array.getElem?_eq_none h] at hf1; cases hf1
  have h1 := hx i f hf1
  rw [List.getElem?_eq_getElem (by omega), hc] at h1
  exact hr enc w base spare held n _ _ h1

/-! ### triremelaw27.Op -/
structure OpV where
  kind : Int
  names : List ByteArray
  now : Int
  long : Int
instance : Inhabited OpV := ⟨⟨0, [], 0, 0⟩⟩
def ROp : Rd OpV := fun w o cs => ∃ A c, cs = [.int .i64 o.kind, .slice A o.names.length c, .int .i64 o.now, .int .i64 o.long] ∧ (Lit.int .i64 o.kind).wf = true ∧ (Lit.int .i64 o.now).wf = true ∧ (Lit.int .i64 o.long).wf = true ∧ o.names.length ≤ c ∧ c ≤ maxLen ∧ SC RStr 1 w A o.names
theorem cells9 : Try.prog.cellsOf 9 = 1 := by kernel_rfl
theorem cells36 : Try.prog.cellsOf 36 = 4 := by kernel_rfl
theorem cells27 : Try.prog.cellsOf 27 = 1 := by kernel_rfl
theorem cells3 : Try.prog.cellsOf 3 = 1 := by kernel_rfl
set_option maxRecDepth 100000 in
theorem opens_op : Opens ROp 36 := fun enc w base spare held fuel cs x h => by
  obtain ⟨xs, n, _, _, hlen, _, _⟩ := DataW.trod_struct Try.underlying36 h
  rw [cells36] at hlen
  match cs, hlen with
  | [c0, c1, c2, c3], _ =>
    obtain ⟨k, hk, wk⟩ := opens_field Try.underlying36 h 0 0 1 rfl (opens_int Try.underlying3) cells3
    obtain ⟨l, A, c, hl, hc, hm, hs⟩ := opens_field Try.underlying36 h 1 1 1 rfl (opens_slice Try.underlying27 (opens_str Try.underlying9) cells9) cells27
    obtain ⟨m, hmn, wm⟩ := opens_field Try.underlying36 h 2 2 1 rfl (opens_int Try.underlying3) cells3
    obtain ⟨g, hg, wg⟩ := opens_field Try.underlying36 h 3 3 1 rfl (opens_int Try.underlying3) cells3
    simp only [List.drop_zero, List.drop_succ_cons, List.take_succ_cons, List.take_zero, List.cons.injEq, and_true] at hk hl hmn hg
    subst hk hl hmn hg
    exact ⟨⟨k, l, m, g⟩, A, c, rfl, wk, wm, wg, hc, hm, hs⟩
theorem stable_op : Stable ROp := by
  rintro w w' o cs hb ⟨A, c, e, h1, h2, h3, h4, h5, h6⟩
  exact ⟨A, c, e, h1, h2, h3, h4, h5, h6.below stable_str hb⟩

end Go.Proofs.Ytdpchfifaidamaa.B
