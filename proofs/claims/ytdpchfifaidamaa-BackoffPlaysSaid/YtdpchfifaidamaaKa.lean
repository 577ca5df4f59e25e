/- Lemmas on a map[string]struct{length, until int} of the call's own. No condition. -/
import Derived.Test.YtdpchfifaidamaaB4
namespace Go.Proofs.Ytdpchfifaidamaa.K
open Go.RowKit Go.Maps Go.Proofs.YtdpchfifaidamaaW.PrintWords Go.Proofs.Ytdpchfifaidamaa.B
set_option linter.unusedVariables false
set_option linter.unusedSimpArgs false

abbrev NP : Type := Int × Int
def e2 (c : NP) : DataW Unit := .agg [.lit (.int .i64 c.1), .lit (.int .i64 c.2)]
def v2 (c : NP) : Value := .agg #[.int .i64 c.1, .int .i64 c.2]
def R117 (v : Value) : Option (DataW Unit × List MemPlace) :=
  match v with
  | .agg ⟨[.int .i64 a, .int .i64 b]⟩ => some (e2 (a, b), [])
  | _ => none
theorem R117_mk (c : NP) : R117 (v2 c) = some (e2 c, []) := rfl
theorem e2_inj {c d : NP} (h : e2 c = e2 d) : c = d := by
  unfold e2 at h
  injection h with h
  simp at h
  exact Prod.ext h.1 h.2
theorem R117_inv {v : Value} {c : NP} {ps : List MemPlace} (h : R117 v = some (e2 c, ps)) : v = v2 c := by
  unfold R117 at h
  split at h
  · simp only [Option.some.injEq, Prod.mk.injEq] at h
    have := e2_inj h.1
    rw [← this]
    rfl
  · cases h

def View2 (D : DataW Unit) (s : ByteArray) : Option NP → Prop
  | none => has D (litS s) = false
  | some c => has D (litS s) = true ∧ ∀ z, D.atKey (litS s) z = e2 c
theorem View2.has_eq {D : DataW Unit} {s : ByteArray} {o : Option NP} (h : View2 D s o) : has D (litS s) = o.isSome := by
  cases o with
  | none => exact h
  | some c => exact h.1
theorem View2.at_eq {D : DataW Unit} {s : ByteArray} {o : Option NP} (h : View2 D s o) : D.atKey (litS s) (e2 (0, 0)) = e2 (o.getD (0, 0)) := by
  cases o with
  | none => exact atKey_of_not_has h _
  | some c => exact h.2 _
def upd2 (f : ByteArray → Option NP) (s : ByteArray) (c : NP) : ByteArray → Option NP := fun t => if t = s then some c else f t
def del2 (f : ByteArray → Option NP) (s : ByteArray) : ByteArray → Option NP := fun t => if t = s then none else f t
theorem View2.put {D : DataW Unit} {f : ByteArray → Option NP} (hD : IsMap D) (h : ∀ s, s.size ≤ maxLen → View2 D s (f s)) (t : ByteArray) (c : NP) :
    ∀ s, s.size ≤ maxLen → View2 (D.put (litS t) (e2 c)) s (upd2 f t c s) := by
  intro s hs
  unfold upd2
  by_cases e : s = t
  · subst e
    rw [if_pos rfl]
    exact ⟨has_put_same hD (litS_key s) _, fun z => atKey_put_same hD (litS_key s) _ z⟩
  · rw [if_neg e]
    have h1 := h s hs
    have hne := litS_ne e
    cases hf : f s with
    | none => rw [hf] at h1; exact (has_put_other hne _).trans h1
    | some x => rw [hf] at h1; exact ⟨(has_put_other hne _).trans h1.1, fun z => (atKey_put_other hne _ z).trans (h1.2 z)⟩
theorem View2.drop {D : DataW Unit} {f : ByteArray → Option NP} (h : ∀ s, s.size ≤ maxLen → View2 D s (f s)) (t : ByteArray) :
    ∀ s, s.size ≤ maxLen → View2 (D.del (litS t)) s (del2 f t s) := by
  intro s hs
  unfold del2
  by_cases e : s = t
  · subst e
    rw [if_pos rfl]
    exact has_del_same
  · rw [if_neg e]
    have h1 := h s hs
    have hne := litS_ne e
    cases hf : f s with
    | none => rw [hf] at h1; exact (has_del_other hne).trans h1
    | some x => rw [hf] at h1; exact ⟨(has_del_other hne).trans h1.1, fun z => (atKey_del_other hne z).trans (h1.2 z)⟩

theorem zero117 (w : World) : (zeroValue 117).run Try.prog w = .ok (v2 (0, 0)) w := by kernel_rfl
def MapIs2 (w : World) (b n : Nat) (f : ByteArray → Option NP) : Prop :=
  ∃ D : DataW Unit, w.ownsMap Try.prog 9 R117 b n D ∧ ∀ s, s.size ≤ maxLen → View2 D s (f s)
section
variable {w w' : World} {b n : Nat} {f : ByteArray → Option NP}
theorem MapIs2.lt (h : MapIs2 w b n f) : b < w.heap.size := by obtain ⟨D, h1, _⟩ := h; exact h1.lt
theorem MapIs2.blk (h : MapIs2 w b n f) : ∃ es clock, w.heap[b]? = some (.map es clock) := by obtain ⟨D, ⟨es, clock, hb, _⟩, _⟩ := h; exact ⟨es, clock, hb⟩
theorem MapIs2.mono (h : MapIs2 w b n f) {n' : Nat} (hn : n ≤ n') : MapIs2 w b n' f := by obtain ⟨D, h1, h2⟩ := h; exact ⟨D, h1.mono hn, h2⟩
theorem MapIs2.congr (h : MapIs2 w b n f) {f' : ByteArray → Option NP} (hf : ∀ s, s.size ≤ maxLen → f s = f' s) : MapIs2 w b n f' := by
  obtain ⟨D, h1, h2⟩ := h
  exact ⟨D, h1, fun s hs => by rw [← hf s hs]; exact h2 s hs⟩
theorem MapIs2.fr {S : Nat → Prop} (h : MapIs2 w b n f) (hk : Fr S w w') (hne : ¬ S b) : MapIs2 w' b n f := by
  obtain ⟨D, ⟨es, clock, hb, r⟩, h2⟩ := h
  exact ⟨D, ⟨es, clock, blk_fr hb hk hne, r⟩, h2⟩
theorem MapIs2.alloc (h : MapIs2 w b n f) (o : Obj) : MapIs2 (w.alloc o) b n f := h.fr (S := no) ((Fr.refl w no).alloc o) (fun h => h)
theorem MapIs2.drewN (h : MapIs2 w b n f) (m : Nat) : MapIs2 (w.drewN m) b n f := h.fr (S := no) ((Fr.refl w no).drewN m) (fun h => h)
theorem MapIs2.made (w : World) : MapIs2 (w.alloc (.map #[] 0)) w.heap.size 0 (fun _ => none) :=
  ⟨.map [], World.ownsMap_made w _ _ _, fun s _ => rfl⟩
theorem MapIs2.cell_ne (h : MapIs2 w b n f) {a : Addr} {v : Value} (hc : w.cell? a = some v) : a.block ≠ b := by
  intro e
  obtain ⟨es, clock, hb⟩ := h.blk
  unfold World.cell? at hc
  rw [e, hb] at hc
  cases hc
theorem MapIs2.cells_ne (h : MapIs2 w b n f) {g : Nat} {cs : Array Value} {t : TypeId} {x : Nat × Nat} (hc : w.heap[g]? = some (.cells cs t x)) : g ≠ b := by
  intro e
  obtain ⟨es, clock, hb⟩ := h.blk
  rw [e, hb] at hc
  cases hc
end

section
variable {w : World} {ops : Array Oper} {rest : List Oper} {o : Oper} {a : Act} {Q : Exit → Act → World → Prop} {b n : Nat} {f : ByteArray → Option NP}

theorem wpL2_lookup_ok (hg : o.guard = none) (m x : Operand) (hop : o.op = Op.lookup 113 m x true) (hm : a.eval m = .map (some b)) (H : MapIs2 w b n f) (s : ByteArray) (hx : a.eval x = .string s) (hs : s.size ≤ maxLen) (c1 c2 : Int) (ic : Bool) (hc : (f s).getD (0, 0) = (c1, c2)) (hi : (f s).isSome = ic)
    (hK : wpList Try.prog ops Q rest (a.put o.dst (.tuple #[.agg #[.int .i64 c1, .int .i64 c2], .bool ic])) w) : wpList Try.prog ops Q (o :: rest) a w := by
  obtain ⟨D, h1, h2⟩ := H
  have hK : wpList Try.prog ops Q rest (a.put o.dst (.tuple #[v2 ((f s).getD (0, 0)), .bool (f s).isSome])) w := by rw [hc, hi]; exact hK
  refine wpList_lookup_own_ok w hg m x 113 hop 9 117 law9 Try.underlying113 R117 (zero117 w) (e2 (0, 0)) [] (R117_mk _) b n D hm h1 _ _ hx (WideMaps.keyOf_string_mk Try.underlying9 hs) ?_
  intro v ps hv
  have e := (h2 s hs).at_eq
  rw [show D.atKey (Lit.string s.data.toList) (e2 (0, 0)) = _ from e] at hv
  obtain rfl := R117_inv hv
  rw [show Maps.has D (.string s.data.toList) = (f s).isSome from (h2 s hs).has_eq]
  exact hK

theorem lookup2_run {w : World} {b n : Nat} {f : ByteArray → Option NP} (H : MapIs2 w b n f) (s : ByteArray) (hs : s.size ≤ maxLen) (c1 c2 : Int) (hc : (f s).getD (0, 0) = (c1, c2)) : (Instr.lookup 113 (.map (some b)) (.string s) false).run Try.prog w = .ok (.agg #[.int .i64 c1, .int .i64 c2]) w := by
  suffices (Instr.lookup 113 (.map (some b)) (.string s) false).run Try.prog w = .ok (v2 ((f s).getD (0, 0))) w by rw [hc] at this; exact this
  obtain ⟨D, h1, h2⟩ := H
  obtain ⟨v, ps, hrun, hv⟩ := h1.lookup (t := 113) law9 Try.underlying113 (zero117 w) (R117_mk (0, 0)) (WideMaps.keyOf_string_mk Try.underlying9 hs)
  have e := (h2 s hs).at_eq
  rw [show D.atKey (Lit.string s.data.toList) (e2 (0, 0)) = _ from e] at hv
  obtain rfl := R117_inv hv
  exact hrun

theorem wpL2_lookup (hg : o.guard = none) (m x : Operand) (hop : o.op = Op.lookup 113 m x false) (hm : a.eval m = .map (some b)) (H : MapIs2 w b n f) (s : ByteArray) (hx : a.eval x = .string s) (hs : s.size ≤ maxLen) (c1 c2 : Int) (hc : (f s).getD (0, 0) = (c1, c2))
    (hK : wpList Try.prog ops Q rest (a.put o.dst (.agg #[.int .i64 c1, .int .i64 c2])) w) : wpList Try.prog ops Q (o :: rest) a w := by
  refine wpList_plain hg fun K' hK' => ?_
  unfold Oper.wp
  simp [execOp, hop, hm, hx, lookup2_run H s hs c1 c2 hc, Result.andThen]
  exact hK' _ _ hK

theorem wpL2_update (hg : o.guard = none) (m x v : Operand) (hop : o.op = Op.mapUpdate 113 m x v) (hm : a.eval m = .map (some b)) (H : MapIs2 w b n f) (hn : n < maxLen) (s : ByteArray) (hx : a.eval x = .string s) (hs : s.size ≤ maxLen)
    (c1 c2 : Int) (hv : a.eval v = .agg #[.int .i64 c1, .int .i64 c2])
    (hK : ∀ w', MapIs2 w' b (n + 1) (upd2 f s (c1, c2)) → Fr (fun k => k = b) w w' → w'.heap.size = w.heap.size → wpList Try.prog ops Q rest (a.put o.dst undef) w') : wpList Try.prog ops Q (o :: rest) a w := by
  obtain ⟨D, h1, h2⟩ := H
  refine wpList_mapUpdate_in w hg m x v 113 hop 9 117 law9 Try.underlying113 _ b n D hm h1 hn _ _ _ hx hv (WideMaps.keyOf_string_mk Try.underlying9 hs) _ [] (R117_mk (c1, c2)) ?_
  intro w' r1 r2
  have hsz : w'.heap.size = w.heap.size := by obtain ⟨_, _, _, _, _, rfl⟩ := r2; simp [ChangeMaps.setBlock]
  exact hK w' ⟨_, r1, View2.put h1.isMap h2 s (c1, c2)⟩ (.of_grown r2.grown (fun k e => by cases e; rfl)) hsz

theorem wpL2_delete (hg : o.guard = none) (m x : Operand) (hop : o.op = Op.call { callee := Callee.builtin Builtin.delete, args := #[m, x], argTypes := #[113, 9] }) (hm : a.eval m = .map (some b)) (H : MapIs2 w b n f) (s : ByteArray) (hx : a.eval x = .string s) (hs : s.size ≤ maxLen)
    (hK : ∀ w', MapIs2 w' b n (del2 f s) → Fr (fun k => k = b) w w' → w'.heap.size = w.heap.size → wpList Try.prog ops Q rest (a.put o.dst (.tuple #[])) w') : wpList Try.prog ops Q (o :: rest) a w := by
  obtain ⟨D, h1, h2⟩ := H
  refine wpList_delete_own w hg m x 113 9 hop 117 law9 Try.underlying113 _ b n D hm h1 _ _ hx (WideMaps.keyOf_string_mk Try.underlying9 hs) ?_
  intro w' r1 r2
  have hsz : w'.heap.size = w.heap.size := by obtain ⟨_, _, _, _, _, rfl⟩ := r2; simp [ChangeMaps.setBlock]
  exact hK w' ⟨_, r1, View2.drop h2 s⟩ (.of_grown r2.grown (fun k e => by cases e; rfl)) hsz

theorem wpL2_clear (hg : o.guard = none) (m : Operand) (hop : o.op = Op.call { callee := Callee.builtin Builtin.clear, args := #[m], argTypes := #[113] }) (hm : a.eval m = .map (some b)) (H : MapIs2 w b n f)
    (hK : ∀ w', MapIs2 w' b 0 (fun _ => none) → Fr (fun k => k = b) w w' → w'.heap.size = w.heap.size → wpList Try.prog ops Q rest (a.put o.dst (.tuple #[])) w') : wpList Try.prog ops Q (o :: rest) a w := by
  obtain ⟨D, ⟨es, clock, hb, F, _⟩, _⟩ := H
  have hlt := blk_lt hb
  refine wpList_plain hg fun K' hK' => ?_
  unfold Oper.wp
  simp [execOp, hop, resolve, invoke, builtin, hm, Builtin.clear_, run_underlying Try.underlying113, MapKept.run_getObj_map hb, MapKept.run_setObj_map _ hb, Result.andThen]
  refine hK' _ _ (hK _ ⟨.map [], ⟨#[], clock, ?_, ⟨by simp, ?_, by simp⟩, Nat.le_refl _, rfl⟩, fun s _ => rfl⟩ ⟨rfl, rfl, rfl, by simp, fun i hi hne => ?_⟩ (by simp))
  · simp [Array.getElem?_setIfInBounds, hlt]
  · exact MapKept.stamped_empty _
  · simp [Array.getElem?_setIfInBounds, show ¬ b = i from fun e => hne e.symm]
end
end Go.Proofs.Ytdpchfifaidamaa.K
