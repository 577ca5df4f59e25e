/- Lemmas on slices of structs: read, and of the call's own, appended to. No condition. -/
import Derived.Test.YtdpchfifaidamaaB3
namespace Go.Proofs.Ytdpchfifaidamaa.B
open Go.RowKit Go.Maps Go.Proofs.YtdpchfifaidamaaW.PrintWords
set_option linter.unusedVariables false
set_option linter.unusedSimpArgs false

/-- an element's type and cells. -/
structure ET (α : Type) where
  s : TypeId
  e : TypeId
  sz : Nat
  bytes : Nat
  zero : Value
  cells : α → List Value
  len : ∀ a, (cells a).length = sz
  one : ∀ a, ∀ u ∈ cells a, u.oneCell' = true
  under : Try.prog.underlying s = some (.slice e)
  info : (Try.prog.info? e).map (fun i => (i.zero, i.size, i.bytes)) = some (some zero, sz, bytes)
  zs : zero.cells.size = sz
  pos : 0 < sz
  bpos : 0 < bytes

section
variable {α : Type} (E : ET α)
/-- a slice of them is read. -/
def ER (w : World) (A : Option Addr) (l : List α) : Prop := ∀ j (h : j < l.length), ∃ ad, A = some ad ∧ ∀ i u, (E.cells l[j])[i]? = some u → w.cell? (ad.add (j * E.sz + i)) = some u
def EOwn (w : World) (base : Nat) (v : Value) (l : List α) : Prop := w.ownsRow base E.e E.sz v l.length (l.flatMap E.cells)
variable {E}
section
variable {w w' : World} {base : Nat} {v : Value} {l : List α} {A : Option Addr}
theorem ER.fr {S : Nat → Prop} (h : ER E w A l) (hk : Fr S w w') (hn : ∀ ad, A = some ad → 0 < l.length → ¬ S ad.block) : ER E w' A l := by
  intro j hj
  obtain ⟨ad, e, hc⟩ := h j hj
  exact ⟨ad, e, fun i u hu => cell_fr (hc i u hu) hk (by rw [add_block]; exact hn ad e (by omega))⟩
theorem ER.no (h : ER E w A l) (hk : Fr no w w') : ER E w' A l := h.fr hk (fun _ _ _ h => h)
theorem ER.drop (h : ER E w A l) (i c : Nat) (hi : i ≤ l.length) (hc : l.length ≤ c) : ER E w (if c = i then A else A.map (·.add (i * E.sz))) (l.drop i) := by
  intro j hj
  have hj' : i + j < l.length := by simp at hj; omega
  obtain ⟨ad, rfl, hcell⟩ := h (i + j) hj'
  rw [if_neg (by omega)]
  refine ⟨ad.add (i * E.sz), rfl, fun k u hu => ?_⟩
  rw [Deep.add_add, show i * E.sz + (j * E.sz + k) = (i + j) * E.sz + k by rw [Nat.add_mul]; omega]
  exact hcell k u (by simpa using hu)
theorem flat_len (l : List α) : (l.flatMap E.cells).length = l.length * E.sz := by
  induction l with
  | nil => simp
  | cons a r ih => rw [List.flatMap_cons, List.length_append, ih, E.len]; simp [Nat.add_mul]; omega
theorem flat_get (l : List α) (j i : Nat) (hj : j < l.length) (hi : i < E.sz) : (l.flatMap E.cells)[j * E.sz + i]? = (E.cells l[j])[i]? := by
  induction l generalizing j with
  | nil => simp at hj
  | cons a r ih =>
    rw [List.flatMap_cons]
    cases j with
    | zero =>
      rw [List.getElem?_append_left (by rw [E.len]; omega)]
      simp
    | succ j =>
      rw [List.getElem?_append_right (by rw [E.len, Nat.add_mul]; omega), E.len, show (j + 1) * E.sz + i - E.sz = j * E.sz + i by rw [Nat.add_mul]; omega, ih j (by simpa using hj)]
      simp
theorem EOwn.nil (w : World) (base : Nat) : EOwn E w base (.slice none 0 0) [] := own_nil w base _ _
theorem EOwn.base_le (h : EOwn E w base v l) {k : Nat} (hk : v.ownBlock = some k) : base ≤ k := own_base h k hk
theorem EOwn.lt (h : EOwn E w base v l) {k : Nat} (hk : v.ownBlock = some k) : k < w.heap.size := own_lt h k hk
theorem EOwn.fr {S : Nat → Prop} (h : EOwn E w base v l) (hk : Fr S w w') (hne : ∀ k, v.ownBlock = some k → ¬ S k) : EOwn E w' base v l :=
  own_move h (fun k ho => hk.block k (own_lt h k ho) (hne k ho))
theorem EOwn.alloc (h : EOwn E w base v l) (o : Obj) : EOwn E (w.alloc o) base v l := h.fr (S := B.no) ((Fr.refl w B.no).alloc o) (fun _ _ h => h)
theorem EOwn.drewN (h : EOwn E w base v l) (n : Nat) : EOwn E (w.drewN n) base v l := h
theorem EOwn.cells (h : EOwn E w base v l) {k : Nat} (hk : v.ownBlock = some k) : ∃ cs, w.heap[k]? = some (.cells cs E.e (0, 0)) := own_typed h k hk
theorem EOwn.form (h : EOwn E w base v l) : ∃ A c, v = .slice A l.length c ∧ l.length ≤ c ∧ c ≤ maxLen ∧ ER E w A l := by
  rcases h.2 with ⟨rfl, hn⟩ | ⟨g, cap, cur, rfl, hb, hh, hnc, hcm, hcs, htake⟩
  · refine ⟨none, 0, by rw [hn], by omega, Nat.zero_le _, fun j hj => by omega⟩
  · refine ⟨_, cap, rfl, hnc, hcm, fun j hj => ⟨_, rfl, fun i u hu => ?_⟩⟩
    have hi : i < E.sz := by
      rw [← E.len l[j]]
      rcases Nat.lt_or_ge i (E.cells l[j]).length with h | h
      · exact h
      · rw [List.getElem?_eq_none h] at hu; cases hu
    refine RowKit.Below.cell (w := w) (Below.refl (g + 1) w) (p := _) ?_ |>.symm ▸ ?_
    · rw [add_plain]; exact Nat.lt_succ_self _
    · rw [add_plain, cell_of_row w g _ cur E.e (0, 0) hh]
      rw [← flat_get l j i hj hi, ← htake] at hu
      have hlt : j * E.sz + i < l.length * E.sz := by
        have : (j + 1) * E.sz ≤ l.length * E.sz := Nat.mul_le_mul_right _ hj
        rw [Nat.add_mul] at this
        omega
      rw [List.getElem?_take_of_lt hlt] at hu
      simpa using hu
theorem EOwn.er {n c : Nat} (h : EOwn E w base (.slice A n c) l) : ER E w A l := by
  obtain ⟨A', c', e, _, _, hC⟩ := h.form
  cases e
  exact hC
theorem EOwn.less (h : EOwn E w base v l) {b : Nat} (hb : b ≤ base) : EOwn E w b v l := own_less h hb
/-- what is read does not lie in a block of one cell of another kind. -/
theorem ER.kd {k : Nat} {d : α → Value} (h : ER E w A l) (hd : ∀ a, (E.cells a)[k]? = some (d a)) : ∀ j (hj : j < l.length), ∃ ad, A = some ad ∧ w.cell? (ad.add (j * E.sz + k)) = some (d l[j]) := by
  intro j hj
  obtain ⟨ad, e, hc⟩ := h j hj
  exact ⟨ad, e, hc k _ (hd _)⟩
end

section
variable {ops : Array Oper} {rest : List Oper} {o : Oper} {a : Act} {Q : Exit → Act → World → Prop}
theorem wpL_append_el {W : World} (E : ET α) (base : Nat) (hgd : o.guard = none) (s x : Operand) (ho : o.op = .call { callee := .builtin .append, args := #[s, x], argTypes := #[E.s, E.s] })
    (v : Value) (l : List α) (y : α) (k : Nat) (hs : a.eval s = v) (hx : a.eval x = .slice (some ⟨k, 0, none⟩) 1 1) (hk : W.heap[k]? = some (.cells (E.cells y).toArray E.e (0, 0))) (HO : EOwn E W base v l) (hbase : base ≤ W.heap.size) (hl : (l.length + 1) * E.bytes ≤ 140737488355328)
    (h : ∀ g c w1, EOwn E w1 base (.slice (some ⟨g, 0, none⟩) (l.length + 1) c) (l ++ [y]) → Fr (fun k => v.ownBlock = some k) W w1 → base ≤ g → (v.ownBlock = some g ∨ g = W.heap.size) → l.length + 1 ≤ c → wpList Try.prog ops Q rest (a.put o.dst (.slice (some ⟨g, 0, none⟩) (l.length + 1) c)) w1) :
    wpList Try.prog ops Q (o :: rest) a W := by
  obtain ⟨i0, hi, hzz⟩ := Option.map_eq_some_iff.1 E.info
  simp only [Prod.mk.injEq] at hzz
  obtain ⟨hz0, hz1, hz2⟩ := hzz
  have hle : l.length + 1 ≤ 140737488355328 := Nat.le_trans (Nat.le_mul_of_pos_right _ E.bpos) hl
  refine wpList_append_own_at W hgd s x E.s ho base E.e i0 _ E.sz E.bytes E.under hi hz0 hz1 hz2 E.zs E.pos v l.length (l.flatMap E.cells) hs HO ⟨k, 0, none⟩ 1 1 (E.cells y) hx (by rw [E.len, Nat.one_mul]) (fun j u hu => World.news_of_block hk j u (by simpa using hu)) (E.one y)
    (by simp only [maxLen]; omega) hl hbase ?_
  intro v1 w1 hown hg _ hat
  have hlen : (l ++ [y]).length = l.length + 1 := by simp
  have hown' : EOwn E w1 base v1 (l ++ [y]) := by unfold EOwn; rw [hlen]; simpa using hown
  have hform : ∃ g c, v1 = .slice (some ⟨g, 0, none⟩) (l.length + 1) c ∧ base ≤ g ∧ l.length + 1 ≤ c := by
    rcases hown.2 with ⟨_, hn⟩ | ⟨g, cap, cur, rfl, hb, _, hnc, _⟩
    · omega
    · exact ⟨g, cap, rfl, hb, hnc⟩
  obtain ⟨g, c, rfl, hbg, hlc⟩ := hform
  refine h g c w1 hown' (.of_grown hg (fun k e => e.symm ▸ rfl)) hbg ?_ hlc
  rcases hat with hat | hat
  · exact .inl (by rw [← hat]; rfl)
  · exact .inr (by simpa [Value.ownBlock] using hat)
/-- append(v, ys...): ys a slice that is read. -/
theorem wpL_append_els {W : World} (E : ET α) (base : Nat) (hgd : o.guard = none) (s x : Operand) (ho : o.op = .call { callee := .builtin .append, args := #[s, x], argTypes := #[E.s, E.s] })
    (v : Value) (l ys : List α) (A : Option Addr) (c0 : Nat) (hs : a.eval s = v) (hx : a.eval x = .slice A ys.length c0) (hr : ER E W A ys) (HO : EOwn E W base v l) (hbase : base ≤ W.heap.size) (hl : (l.length + ys.length) * E.bytes ≤ 140737488355328)
    (h : ∀ v1 w1, EOwn E w1 base v1 (l ++ ys) → Fr (fun k => v.ownBlock = some k) W w1 → (v1.ownBlock = v.ownBlock ∨ v1.ownBlock = some W.heap.size) → wpList Try.prog ops Q rest (a.put o.dst v1) w1) :
    wpList Try.prog ops Q (o :: rest) a W := by
  obtain ⟨i0, hi, hzz⟩ := Option.map_eq_some_iff.1 E.info
  simp only [Prod.mk.injEq] at hzz
  obtain ⟨hz0, hz1, hz2⟩ := hzz
  have hle : l.length + ys.length ≤ 140737488355328 := Nat.le_trans (Nat.le_mul_of_pos_right _ E.bpos) hl
  cases A with
  | none =>
    have h0 : ys.length = 0 := by
      rcases Nat.eq_zero_or_pos ys.length with h0 | h0
      · exact h0
      · obtain ⟨ad, hA, _⟩ := hr 0 h0
        cases hA
    have hys : ys = [] := List.eq_nil_of_length_eq_zero h0
    subst hys
    have hrun : (Builtin.append_ #[E.s, E.s] o.type #[v, .slice none 0 c0]).run Try.prog W = .ok v W := by
      rcases HO.2 with ⟨rfl, hn⟩ | ⟨g, cap, cur, rfl, _, _, hnc, _⟩
      · simp [Builtin.append_, run_underlying E.under, sizeOf, typeInfo, hi, Builtin.lenOf, Builtin.firstCells]
      · simp [Builtin.append_, run_underlying E.under, sizeOf, typeInfo, hi, Builtin.lenOf, Builtin.firstCells, hnc, storeCells]
    refine wpList_plain hgd fun K hK => ?_
    unfold Oper.wp execOp
    simp only [ho, resolve, invoke, builtin, Sem.run_bind, Sem.run_pure, Result.andThen_ok, List.map_toArray, List.map_cons, List.map_nil, hs, hx, List.length_nil, hrun]
    exact hK _ _ (h v W (by simpa using HO) (Fr.refl W _) (.inl rfl))
  | some ad =>
    refine wpList_append_own_at W hgd s x E.s ho base E.e i0 _ E.sz E.bytes E.under hi hz0 hz1 hz2 E.zs E.pos v l.length (l.flatMap E.cells) hs HO ad ys.length c0 (ys.flatMap E.cells) hx (flat_len ys) ?_ ?_
      (by simp only [maxLen]; omega) hl hbase ?_
    · intro j u hu
      have hj : j < ys.length * E.sz := by
        rw [← flat_len (E := E)]
        rcases Nat.lt_or_ge j (ys.flatMap E.cells).length with h | h
        · exact h
        · rw [List.getElem?_eq_none h] at hu; cases hu
      have hq : j / E.sz < ys.length := Nat.div_lt_of_lt_mul (by rw [Nat.mul_comm]; exact hj)
      have hm : j % E.sz < E.sz := Nat.mod_lt _ E.pos
      have hjj : j / E.sz * E.sz + j % E.sz = j := by rw [Nat.mul_comm]; exact Nat.div_add_mod j E.sz
      rw [← hjj, flat_get ys _ _ hq hm] at hu
      obtain ⟨ad', e, hc⟩ := hr (j / E.sz) hq
      cases e
      rw [← hjj]
      exact hc _ u hu
    · intro u hu
      obtain ⟨y, _, hy⟩ := List.mem_flatMap.1 hu
      exact E.one y u hy
    · intro v1 w1 hown hg _ hat
      have hown' : EOwn E w1 base v1 (l ++ ys) := by unfold EOwn; simpa using hown
      exact h v1 w1 hown' (.of_grown hg (fun k e => e.symm ▸ rfl)) hat
end
end

theorem cut_el {α : Type} (E : ET α) (A : Option Addr) (n c m : Nat) (k : Int) (hk : k = m) (hm : m ≤ n) : ∃ A' : Option Addr,
    (∀ W : World, (Instr.slice E.s (.slice A n c) (some (.int .i64 k)) none none).run Try.prog W = .ok (.slice A' (n - m) (c - m)) W) ∧ A' = (if c = m then A else A.map (·.add (m * E.sz))) := by
  subst hk
  refine ⟨_, fun W => ?_, rfl⟩
  obtain ⟨i0, hi, hzz⟩ := Option.map_eq_some_iff.1 E.info
  simp only [Prod.mk.injEq] at hzz
  have hel : Try.prog.elem E.s = E.e := by simp [Program.elem, E.under]
  have hu : Try.prog.underlying E.s = some (.slice (Try.prog.elem E.s)) := by rw [hel]; exact E.under
  rw [run_slice_l W E.s A n c hu .i64 (m : Int) (Int.natCast_nonneg _) (by omega), hel]
  simp [sizeOf, typeInfo, hi, hzz.2.1, sliced, Result.andThen]

end Go.Proofs.Ytdpchfifaidamaa.B
