/- Lemmas on memory and on maps from strings to whole numbers, used by the proofs of this seat. No condition. -/
import Derived.Test.YtdpchfifaidamaaProg
import Derived.Test.YtdpchfifaidamaaWWords
import Derived.Maps.RangeWalk
import Derived.Maps.Ext
import Derived.Maps.StringElems
import Derived.WalkLawsBesides
import Derived.WalkSpells
namespace Go.Proofs.Ytdpchfifaidamaa.B
open Go.RowKit Go.Maps Go.Proofs.YtdpchfifaidamaaW.PrintWords
set_option linter.unusedVariables false
set_option linter.unusedSimpArgs false

/-- the end of a function without results, behind a 'return'. -/
theorem ret0 {P : Program} {fn : Func} {R : Ending → World → Prop} {a : Act} {w : World} (h : fn.results = #[]) (hd : a.defers = []) (hR : R (.returned (.tuple #[])) w) : bodyPost P fn R .ret a w := ⟨hd, _, results_none h _ _ _, hR⟩

/-! ### what a call keeps: all that was there but the blocks of S -/
structure Fr (S : Nat → Prop) (w w' : World) : Prop where
  os : w'.os = w.os
  tape : w'.tape = w.tape
  output : w'.output = w.output
  size : w.heap.size ≤ w'.heap.size
  block : ∀ i, i < w.heap.size → ¬ S i → w'.heap[i]? = w.heap[i]?

section
variable {S S2 S' : Nat → Prop} {w W W2 : World}
theorem Fr.refl (w : World) (S : Nat → Prop) : Fr S w w := ⟨rfl, rfl, rfl, Nat.le_refl _, fun _ _ _ => rfl⟩
theorem Fr.mono (h : Fr S w W) (hs : ∀ k, S k → S' k) : Fr S' w W := ⟨h.os, h.tape, h.output, h.size, fun i hi hn => h.block i hi (fun hk => hn (hs i hk))⟩
theorem Fr.then_ (h : Fr S w W) (k : Fr S2 W W2) (hs : ∀ k, S2 k → S k ∨ w.heap.size ≤ k) : Fr S w W2 :=
  ⟨k.os.trans h.os, k.tape.trans h.tape, k.output.trans h.output, Nat.le_trans h.size k.size, fun i hi hn =>
    (k.block i (Nat.lt_of_lt_of_le hi h.size) (fun h2 => (hs i h2).elim hn (fun h3 => by omega))).trans (h.block i hi hn)⟩
theorem Fr.of_below (h : Below w.heap.size w W) (S : Nat → Prop) : Fr S w W := ⟨h.os, h.tape, h.output, h.size, fun i hi _ => h.block i hi⟩
theorem Fr.of_drawn (h : Drawn0 w W) (S : Nat → Prop) : Fr S w W := .of_below h.below S
theorem Fr.of_grown {row : Option Nat} (h : w.grownBy W row) (hr : ∀ k, row = some k → S k) : Fr S w W :=
  ⟨h.os, h.tape, h.output, h.size, fun i hi hn => h.block i hi (fun e => hn (hr i e.symm))⟩
theorem Fr.alloc (h : Fr S w W) (o : Obj) : Fr S w (W.alloc o) :=
  h.then_ (S2 := fun _ => False) (.of_below ((Below.refl _ _).alloc (Nat.le_refl _) o) _) (fun _ hk => hk.elim)
theorem Fr.drew (h : Fr S w W) : Fr S w W.drew := ⟨h.os, h.tape, h.output, h.size, h.block⟩
theorem Fr.drewN (h : Fr S w W) (n : Nat) : Fr S w (W.drewN n) := ⟨h.os, h.tape, h.output, h.size, h.block⟩
theorem Fr.below (h : Fr S w W) (k : Below W.heap.size W W2) : Fr S w W2 := h.then_ (S2 := fun _ => False) (.of_below k _) (fun _ hk => hk.elim)
theorem Fr.grown {row : Option Nat} (h : Fr S w W) (k : W.grownBy W2 row) (hr : ∀ k, row = some k → S k ∨ w.heap.size ≤ k) : Fr S w W2 :=
  h.then_ (S2 := fun k => row = some k) (.of_grown k (fun _ e => e)) hr
theorem Fr.setCell (h : Fr S w W) {p : Addr} (hp : S p.block ∨ w.heap.size ≤ p.block) (u : Value) : Fr S w (W.setCell p u) :=
  h.then_ (S2 := fun k => k = p.block) ⟨rfl, rfl, rfl, by simp [World.setCell], fun i _ hn => Below.heap_setCell W p u i hn⟩ (fun k hk => by rw [hk]; exact hp)
theorem Fr.to_below (h : Fr S w W) (hn : ∀ k, S k → w.heap.size ≤ k) : Below w.heap.size w W :=
  ⟨h.os, h.tape, h.output, h.size, fun i hi => h.block i hi (fun hk => by have := hn i hk; omega)⟩
theorem below_fr {w0 : World} (h : Below w0.heap.size w0 w) (k : Fr S w W) (hn : ∀ k, S k → w0.heap.size ≤ k) : Below w0.heap.size w0 W :=
  ⟨k.os.trans h.os, k.tape.trans h.tape, k.output.trans h.output, Nat.le_trans h.size k.size, fun i hi =>
    (k.block i (Nat.lt_of_lt_of_le hi h.size) (fun h2 => by have := hn i h2; omega)).trans (h.block i hi)⟩
theorem blk_fr {g : Nat} {o : Obj} (hb : W.heap[g]? = some o) (hk : Fr S W W2) (hne : ¬ S g) : W2.heap[g]? = some o := (hk.block g (blk_lt hb) hne).trans hb
theorem cell_fr {a : Addr} {v : Value} (hc : W.cell? a = some v) (hk : Fr S W W2) (hne : ¬ S a.block) : W2.cell? a = some v :=
  (World.cell?_of_block (hk.block a.block (World.block_lt_of_cell? W a hc) hne)).trans hc
end
def no : Nat → Prop := fun _ => False
theorem Fr.no_below {w W : World} (h : Fr no w W) : Below w.heap.size w W := h.to_below (fun _ hk => hk.elim)

/-! ### strings as keys -/
instance lawfulBytes : LawfulBEq ByteArray where
  eq_of_beq {a b} h := by
    have h' : (a.data == b.data) = true := h
    exact ByteArray.ext (eq_of_beq h')
  rfl {a} := by
    show (a.data == a.data) = true
    exact beq_self_eq_true _
def litS (s : ByteArray) : Lit := .string s.data.toList
theorem litS_inj {s t : ByteArray} (h : litS s = litS t) : s = t := by
  unfold litS at h
  injection h with h
  exact ByteArray.ext (Array.ext' h)
theorem litS_ne {s t : ByteArray} (h : s ≠ t) : litS s ≠ litS t := fun e => h (litS_inj e)
theorem litS_key (s : ByteArray) : WideAt.IsKeyLit (litS s) := trivial
theorem sameKey_litS (s t : ByteArray) : (litS s).sameKey (litS t) = decide (s = t) := by
  by_cases h : s = t
  · subst h; simp [WideAt.sameKey_self (litS_key s)]
  · rw [sameKey_ne (litS_ne h)]; simp [h]

theorem atKey_of_has {D : DataW Unit} {k : Lit} (h : has D k = true) : ∃ y, ∀ z, D.atKey k z = y := by
  cases D <;> try (cases h; done)
  rename_i es
  obtain ⟨p, hp, hpk⟩ := List.any_eq_true.1 h
  have hs : (es.find? (fun p => p.1.sameKey k)).isSome = true := List.find?_isSome.2 ⟨p, hp, hpk⟩
  obtain ⟨x, hx⟩ := Option.isSome_iff_exists.1 hs
  exact ⟨x.2, fun z => by simp [DataW.atKey, hx]⟩

/-- What a datum says at a key. -/
def View (D : DataW Unit) (s : ByteArray) : Option Int → Prop
  | none => has D (litS s) = false
  | some c => has D (litS s) = true ∧ ∀ z, D.atKey (litS s) z = .lit (.int .i64 c)
theorem View.has_eq {D : DataW Unit} {s : ByteArray} {o : Option Int} (h : View D s o) : has D (litS s) = o.isSome := by
  cases o with
  | none => exact h
  | some c => exact h.1
theorem View.at_eq {D : DataW Unit} {s : ByteArray} {o : Option Int} (h : View D s o) : D.atKey (litS s) (.lit (.int .i64 0)) = .lit (.int .i64 (o.getD 0)) := by
  cases o with
  | none => exact atKey_of_not_has h _
  | some c => exact h.2 _

def upd (f : ByteArray → Option Int) (s : ByteArray) (c : Int) : ByteArray → Option Int := fun t => if t = s then some c else f t
def del (f : ByteArray → Option Int) (s : ByteArray) : ByteArray → Option Int := fun t => if t = s then none else f t

theorem View.put {D : DataW Unit} {f : ByteArray → Option Int} (hD : IsMap D) (h : ∀ s, s.size ≤ maxLen → View D s (f s)) (t : ByteArray) (c : Int) :
    ∀ s, s.size ≤ maxLen → View (D.put (litS t) (.lit (.int .i64 c))) s (upd f t c s) := by
  intro s hs
  unfold upd
  by_cases e : s = t
  · subst e
    rw [if_pos rfl]
    exact ⟨has_put_same hD (litS_key s) _, fun z => atKey_put_same hD (litS_key s) _ z⟩
  · rw [if_neg e]
    have h1 := h s hs
    have hne := litS_ne e
    cases hf : f s with
    | none => rw [hf] at h1; exact (has_put_other hne _).trans h1
    | some x => rw [hf] at h1; exact ⟨(has_put_other hne _).trans h1.1, fun z => (atKey_put_other hne _ z).trans (h1.2 z)⟩
theorem View.drop {D : DataW Unit} {f : ByteArray → Option Int} (h : ∀ s, s.size ≤ maxLen → View D s (f s)) (t : ByteArray) :
    ∀ s, s.size ≤ maxLen → View (D.del (litS t)) s (del f t s) := by
  intro s hs
  unfold del
  by_cases e : s = t
  · subst e
    rw [if_pos rfl]
    exact has_del_same
  · rw [if_neg e]
    have h1 := h s hs
    have hne := litS_ne e
    cases hf : f s with
    | none => rw [hf] at h1; exact (has_del_other hne).trans h1
    | some x => rw [hf] at h1; exact ⟨(has_del_other hne).trans h1.1, fun z => (atKey_del_other hne z).trans (h1.2 z)⟩

/-! ### a map[string]int in a block -/
theorem law9 : Keyed Try.prog 9 := string_keyed Try.underlying9
theorem zero3 (w : World) : (zeroValue 3).run Try.prog w = .ok (.int .i64 0) w := by kernel_rfl

def MapIs (w : World) (b n : Nat) (f : ByteArray → Option Int) : Prop :=
  ∃ D : DataW Unit, w.ownsMap Try.prog 9 (plainElem Try.prog 3) b n D ∧ ∀ s, s.size ≤ maxLen → View D s (f s)
section
variable {w w' : World} {b n : Nat} {f : ByteArray → Option Int}
theorem MapIs.lt (h : MapIs w b n f) : b < w.heap.size := by obtain ⟨D, h1, _⟩ := h; exact h1.lt
theorem MapIs.mono (h : MapIs w b n f) {n' : Nat} (hn : n ≤ n') : MapIs w b n' f := by obtain ⟨D, h1, h2⟩ := h; exact ⟨D, h1.mono hn, h2⟩
theorem MapIs.congr (h : MapIs w b n f) {f' : ByteArray → Option Int} (hf : ∀ s, s.size ≤ maxLen → f s = f' s) : MapIs w b n f' := by
  obtain ⟨D, h1, h2⟩ := h
  exact ⟨D, h1, fun s hs => by rw [← hf s hs]; exact h2 s hs⟩
theorem MapIs.fr {S : Nat → Prop} (h : MapIs w b n f) (hk : Fr S w w') (hne : ¬ S b) : MapIs w' b n f := by
  obtain ⟨D, ⟨es, clock, hb, r⟩, h2⟩ := h
  exact ⟨D, ⟨es, clock, blk_fr hb hk hne, r⟩, h2⟩
theorem MapIs.alloc (h : MapIs w b n f) (o : Obj) : MapIs (w.alloc o) b n f := h.fr (S := no) ((Fr.refl w no).alloc o) (fun h => h)
theorem MapIs.drewN (h : MapIs w b n f) (m : Nat) : MapIs (w.drewN m) b n f := h.fr (S := no) ((Fr.refl w no).drewN m) (fun h => h)
theorem MapIs.setCell (h : MapIs w b n f) {a : Addr} (ha : b ≠ a.block) (u : Value) : MapIs (w.setCell a u) b n f := by
  obtain ⟨D, h1, h2⟩ := h
  exact ⟨D, h1.setCell ha u, h2⟩
theorem MapIs.made (w : World) : MapIs (w.alloc (.map #[] 0)) w.heap.size 0 (fun _ => none) :=
  ⟨.map [], World.ownsMap_made w _ _ _, fun s _ => rfl⟩
/-- an entry's number is an int. -/
theorem MapIs.wf (h : MapIs w b n f) {s : ByteArray} (hs : s.size ≤ maxLen) {c : Int} (hc : f s = some c) : (Lit.int .i64 c).wf = true := by
  obtain ⟨D, h1, h2⟩ := h
  have hv := h2 s hs
  rw [hc] at hv
  obtain ⟨c', hrun, hat, hwc⟩ := h1.lookup_int (t := 65) law9 Try.underlying65 Try.underlying3 (zero3 w) (WideMaps.keyOf_string_mk Try.underlying9 hs)
  have := hv.2 (.lit (.int .i64 0))
  rw [show D.atKey (litS s) (.lit (.int .i64 0)) = _ from hat] at this
  cases this
  exact hwc
end

section
variable {w : World} {ops : Array Oper} {rest : List Oper} {o : Oper} {a : Act} {Q : Exit → Act → World → Prop} {b n : Nat} {f : ByteArray → Option Int}

theorem wpL_lookup (hg : o.guard = none) (m x : Operand) (hop : o.op = Op.lookup 65 m x false) (hm : a.eval m = .map (some b)) (H : MapIs w b n f) (s : ByteArray) (hx : a.eval x = .string s) (hs : s.size ≤ maxLen)
    (hK : wpList Try.prog ops Q rest (a.put o.dst (.int .i64 ((f s).getD 0))) w) : wpList Try.prog ops Q (o :: rest) a w := by
  obtain ⟨D, h1, h2⟩ := H
  refine wpList_lookup_own_int w hg m x 65 hop 9 3 .i64 law9 Try.underlying65 Try.underlying3 (zero3 w) b n D hm h1 _ _ hx (WideMaps.keyOf_string_mk Try.underlying9 hs) ?_
  intro c hat _
  have e := (h2 s hs).at_eq
  rw [show D.atKey (litS s) (.lit (.int .i64 0)) = _ from hat] at e
  cases e
  exact hK

theorem wpL_lookup_ok (hg : o.guard = none) (m x : Operand) (hop : o.op = Op.lookup 65 m x true) (hm : a.eval m = .map (some b)) (H : MapIs w b n f) (s : ByteArray) (hx : a.eval x = .string s) (hs : s.size ≤ maxLen)
    (hK : wpList Try.prog ops Q rest (a.put o.dst (.tuple #[.int .i64 ((f s).getD 0), .bool (f s).isSome])) w) : wpList Try.prog ops Q (o :: rest) a w := by
  obtain ⟨D, h1, h2⟩ := H
  refine wpList_lookup_own_ok_int w hg m x 65 hop 9 3 .i64 law9 Try.underlying65 Try.underlying3 (zero3 w) b n D hm h1 _ _ hx (WideMaps.keyOf_string_mk Try.underlying9 hs) ?_
  intro c hat _
  have e := (h2 s hs).at_eq
  rw [show D.atKey (litS s) (.lit (.int .i64 0)) = _ from hat] at e
  cases e
  rw [show Maps.has D (.string s.data.toList) = (f s).isSome from (h2 s hs).has_eq]
  exact hK

theorem wpL_update (hg : o.guard = none) (m x v : Operand) (hop : o.op = Op.mapUpdate 65 m x v) (hm : a.eval m = .map (some b)) (H : MapIs w b n f) (hn : n < maxLen) (s : ByteArray) (hx : a.eval x = .string s) (hs : s.size ≤ maxLen)
    (c : Int) (hv : a.eval v = .int .i64 c) (hc : (Lit.int .i64 c).wf = true)
    (hK : ∀ w', MapIs w' b (n + 1) (upd f s c) → Fr (fun k => k = b) w w' → w'.heap.size = w.heap.size → wpList Try.prog ops Q rest (a.put o.dst undef) w') : wpList Try.prog ops Q (o :: rest) a w := by
  obtain ⟨D, h1, h2⟩ := H
  refine wpList_mapUpdate_in w hg m x v 65 hop 9 3 law9 Try.underlying65 _ b n D hm h1 hn _ _ _ hx hv (WideMaps.keyOf_string_mk Try.underlying9 hs) _ [] (plainElem_int Try.underlying3 hc) ?_
  intro w' r1 r2
  have hsz : w'.heap.size = w.heap.size := by obtain ⟨_, _, _, _, _, rfl⟩ := r2; simp [ChangeMaps.setBlock]
  exact hK w' ⟨_, r1, View.put h1.isMap h2 s c⟩ (.of_grown r2.grown (fun k e => by cases e; rfl)) hsz

theorem wpL_delete (hg : o.guard = none) (m x : Operand) (hop : o.op = Op.call { callee := Callee.builtin Builtin.delete, args := #[m, x], argTypes := #[65, 9] }) (hm : a.eval m = .map (some b)) (H : MapIs w b n f) (s : ByteArray) (hx : a.eval x = .string s) (hs : s.size ≤ maxLen)
    (hK : ∀ w', MapIs w' b n (del f s) → Fr (fun k => k = b) w w' → w'.heap.size = w.heap.size → wpList Try.prog ops Q rest (a.put o.dst (.tuple #[])) w') : wpList Try.prog ops Q (o :: rest) a w := by
  obtain ⟨D, h1, h2⟩ := H
  refine wpList_delete_own w hg m x 65 9 hop 3 law9 Try.underlying65 _ b n D hm h1 _ _ hx (WideMaps.keyOf_string_mk Try.underlying9 hs) ?_
  intro w' r1 r2
  have hsz : w'.heap.size = w.heap.size := by obtain ⟨_, _, _, _, _, rfl⟩ := r2; simp [ChangeMaps.setBlock]
  exact hK w' ⟨_, r1, View.drop h2 s⟩ (.of_grown r2.grown (fun k e => by cases e; rfl)) hsz
end

theorem lookup_run {w : World} {b n : Nat} {f : ByteArray → Option Int} (H : MapIs w b n f) (s : ByteArray) (hs : s.size ≤ maxLen) : (Instr.lookup 65 (.map (some b)) (.string s) false).run Try.prog w = .ok (.int .i64 ((f s).getD 0)) w := by
  obtain ⟨D, h1, h2⟩ := H
  obtain ⟨c, hrun, hat, _⟩ := h1.lookup_int (t := 65) law9 Try.underlying65 Try.underlying3 (zero3 w) (WideMaps.keyOf_string_mk Try.underlying9 hs)
  have e := (h2 s hs).at_eq
  rw [show D.atKey (litS s) (.lit (.int .i64 0)) = _ from hat] at e
  cases e
  exact hrun

/-! ### range over a map[string]int -/
def RangeIs (w : World) (b r n : Nat) (f : ByteArray → Option Int) (left : ByteArray → Bool) (cnt : Nat) : Prop :=
  ∃ (D : DataW Unit) (lf : Lit → Bool), w.ranges Try.prog 9 (plainElem Try.prog 3) b r n D lf cnt ∧ (∀ s, s.size ≤ maxLen → View D s (f s)) ∧ ∀ s, s.size ≤ maxLen → lf (litS s) = left s
section
variable {w w' : World} {b r n cnt : Nat} {f : ByteArray → Option Int} {left : ByteArray → Bool}
theorem RangeIs.owns (h : RangeIs w b r n f left cnt) : MapIs w b n f := by obtain ⟨D, lf, h1, h2, _⟩ := h; exact ⟨D, h1.owns, h2⟩
theorem RangeIs.left_eq (h : RangeIs w b r n f left cnt) : w.rangeLeft b r = cnt := by obtain ⟨D, lf, h1, _⟩ := h; exact h1.left_eq
theorem RangeIs.ne (h : RangeIs w b r n f left cnt) : r ≠ b := by obtain ⟨D, lf, h1, _⟩ := h; exact h1.ne
theorem RangeIs.lt (h : RangeIs w b r n f left cnt) : r < w.heap.size := by obtain ⟨D, lf, h1, _⟩ := h; exact h1.lt
theorem RangeIs.fr {S : Nat → Prop} (h : RangeIs w b r n f left cnt) (hk : Fr S w w') (hb : ¬ S b) (hr : ¬ S r) : RangeIs w' b r n f left cnt := by
  obtain ⟨D, lf, ⟨es, clock, since, seen, c0, hb0, F, hs, hD, hr0, rest⟩, h2⟩ := h
  exact ⟨D, lf, ⟨es, clock, since, seen, c0, blk_fr hb0 hk hb, F, hs, hD, blk_fr hr0 hk hr, rest⟩, h2⟩
theorem RangeIs.left_some (h : RangeIs w b r n f left cnt) {s : ByteArray} (hs : s.size ≤ maxLen) (hl : left s = true) : (f s).isSome = true := by
  obtain ⟨D, lf, h1, h2, h3⟩ := h
  rw [← h3 s hs] at hl
  rw [← (h2 s hs).has_eq]
  obtain ⟨es, clock, since, seen, c0, hb0, F, hs', hD, hr0, _, _, _, hx, _⟩ := h1
  obtain ⟨x, hx1, hx2⟩ := hx _ hl
  rw [hD, has_eq, List.any_eq_true]
  exact ⟨WideElems.rg Try.prog 9 (plainElem Try.prog 3) x, mem_sorted.2 (List.mem_map_of_mem hx1), by rw [hx2]; exact WideAt.sameKey_self (litS_key s)⟩
end
section
variable {w : World} {ops : Array Oper} {rest : List Oper} {o : Oper} {a : Act} {Q : Exit → Act → World → Prop} {b r n cnt : Nat} {f : ByteArray → Option Int} {left : ByteArray → Bool}

theorem wpL_range (hg : o.guard = none) (m : Operand) (hop : o.op = Op.range 65 m) (hm : a.eval m = .map (some b)) (H : MapIs w b n f)
    (hK : ∀ w' cnt, RangeIs w' b w.heap.size n f (fun s => (f s).isSome) cnt → Fr no w w' → w'.heap.size = w.heap.size + 1 → cnt ≤ n → wpList Try.prog ops Q rest (a.put o.dst (.pointer (some ⟨w.heap.size, 0, none⟩))) w') : wpList Try.prog ops Q (o :: rest) a w := by
  obtain ⟨D, h1, h2⟩ := H
  refine wpList_range_own w hg m 65 hop 9 3 law9 Try.underlying65 _ b n D hm h1 ?_
  intro w' r1 r2 r3
  exact hK w' _ ⟨D, _, r1, h2, fun s hs => (h2 s hs).has_eq⟩ (.of_grown r2 (fun k e => by cases e)) r3 h1.size_le

theorem wpL_next (hg : o.guard = none) (it : Operand) (hop : o.op = Op.next it false) (hit : a.eval it = .pointer (some ⟨r, 0, none⟩)) (H : RangeIs w b r n f left cnt)
    (hDone : cnt = 0 → (∀ s, s.size ≤ maxLen → left s = false) → wpList Try.prog ops Q rest (a.put o.dst (.tuple #[.bool false])) w)
    (hMore : ∀ (s : ByteArray) (c : Int) (w' : World) (cnt' : Nat), s.size ≤ maxLen → (Lit.int .i64 c).wf = true → left s = true → f s = some c → RangeIs w' b r n f (fun z => left z && !decide (z = s)) cnt' → cnt' < cnt → Fr (fun k => k = r) w w' → w'.heap.size = w.heap.size →
      (Instr.entry (.pointer (some ⟨r, 0, none⟩))).run Try.prog w' = .ok (.tuple #[.string s, .int .i64 c]) w' → wpList Try.prog ops Q rest (a.put o.dst (.tuple #[.bool true, .string s, .int .i64 c])) w') :
    wpList Try.prog ops Q (o :: rest) a w := by
  obtain ⟨D, lf, h1, h2, h3⟩ := H
  refine wpList_next_ranges w hg it hop 9 law9 (plainElem Try.prog 3) Value.string (Value.int .i64) (fun key kl hkey => ?_) (fun v y hv => ?_) b r n D lf cnt hit h1 (fun hc hl => hDone hc (fun s hs => by rw [← h3 s hs]; exact hl _)) ?_
  · cases key <;> simp [keyOf, Try.underlying9, mapKey] at hkey
    exact ⟨_, rfl⟩
  · obtain ⟨c, rfl, _⟩ := plainElem_int_inv Try.underlying3 hv
    exact ⟨c, rfl⟩
  · intro s c kl y w' cnt' hkey hlk hv hat hrg hlt hgr hsz hen
    have hkey' : s.size ≤ maxLen ∧ kl = litS s := by
      simp [keyOf, Try.underlying9, mapKey] at hkey
      exact ⟨hkey.1, hkey.2.symm⟩
    obtain ⟨hs, rfl⟩ := hkey'
    obtain ⟨c', ec, rfl, hwc⟩ := plainElem_int_inv Try.underlying3 hv
    cases ec
    have hv := h2 s hs
    have hfs : f s = some c := by
      have hh := has_true_of_atKey hat
      cases hf : f s with
      | none => rw [hf] at hv; rw [show has D (litS s) = false from hv] at hh; cases hh
      | some x =>
        rw [hf] at hv
        have e := (hv.2 .nil).symm.trans (hat .nil)
        cases e
        rfl
    refine hMore s c w' cnt' hs hwc (by rw [← h3 s hs]; exact hlk) hfs ⟨D, _, hrg, h2, fun t ht => ?_⟩ hlt (.of_grown hgr (fun k e => by cases e; rfl)) hsz hen
    rw [h3 t ht, sameKey_litS]

theorem wpL_delete_range (hg : o.guard = none) (m x : Operand) (hop : o.op = Op.call { callee := Callee.builtin Builtin.delete, args := #[m, x], argTypes := #[65, 9] }) (hm : a.eval m = .map (some b)) (H : RangeIs w b r n f left cnt) (s : ByteArray) (hx : a.eval x = .string s) (hs : s.size ≤ maxLen)
    (hK : ∀ w' cnt', RangeIs w' b r n (del f s) (fun z => left z && !decide (z = s)) cnt' → cnt' ≤ cnt → Fr (fun k => k = b) w w' → w'.heap.size = w.heap.size → wpList Try.prog ops Q rest (a.put o.dst (.tuple #[])) w') : wpList Try.prog ops Q (o :: rest) a w := by
  obtain ⟨D, lf, h1, h2, h3⟩ := H
  refine wpList_delete_ranges w hg m x 65 9 hop 3 law9 Try.underlying65 _ b r n D lf cnt hm h1 _ _ hx (WideMaps.keyOf_string_mk Try.underlying9 hs) ?_
  intro w' cnt' r1 r2 r3
  have hsz : w'.heap.size = w.heap.size := by obtain ⟨_, _, _, _, _, rfl⟩ := r3; simp [ChangeMaps.setBlock]
  exact hK w' cnt' ⟨_, _, r1, View.drop h2 s, fun t ht => by show (lf (litS t) && !(litS t).sameKey (litS s)) = _; rw [h3 t ht, sameKey_litS]⟩ r2 (.of_grown r3.grown (fun k e => by cases e; rfl)) hsz
end

end Go.Proofs.Ytdpchfifaidamaa.B
