/- A row of strings whose capacity may end ahead of its block: read, appended to, cut. No condition. -/
import Derived.Test.YtdpchfifaidamaaKa
import Derived.ArgAppend
import Derived.Deep.AppendLies
namespace Go.Proofs.Ytdpchfifaidamaa.K
open Go.RowKit Go.Maps Go.Proofs.YtdpchfifaidamaaW.PrintWords Go.Proofs.Ytdpchfifaidamaa.B
set_option linter.unusedVariables false
set_option linter.unusedSimpArgs false

def E9 : ET ByteArray where
  s := 27
  e := 9
  sz := 1
  bytes := 16
  zero := .string ⟨#[]⟩
  cells := fun a => [.string a]
  len := fun _ => rfl
  one := fun a u hu => by simp at hu; rcases hu with rfl; rfl
  under := Try.underlying27
  info := by kernel_rfl
  zs := rfl
  pos := by decide
  bpos := by decide
theorem flat9 (l : List ByteArray) : l.flatMap E9.cells = strs l := by
  induction l with
  | nil => rfl
  | cons a r ih => rw [List.flatMap_cons, ih]; rfl
theorem own9 {w : World} {base : Nat} {v : Value} {l : List ByteArray} : EOwn E9 w base v l ↔ SOwn w base v l := by
  unfold EOwn SOwn
  rw [flat9]
  rfl

def SRow (w : World) (base : Nat) (v : Value) (l : List ByteArray) : Prop :=
  (v = .slice none 0 0 ∧ l = []) ∨ ∃ (g c : Nat) (cur : List Value), v = .slice (some ⟨g, 0, none⟩) l.length c ∧ base ≤ g ∧ w.heap[g]? = some (.cells cur.toArray 9 (0, 0)) ∧ l.length ≤ c ∧ c ≤ cur.length ∧ c ≤ maxLen ∧ cur.take l.length = strs l
section
variable {w w' : World} {base : Nat} {v : Value} {l : List ByteArray}
theorem SRow.nil (w : World) (base : Nat) : SRow w base (.slice none 0 0) [] := .inl ⟨rfl, rfl⟩
theorem SRow.of_own (h : SOwn w base v l) : SRow w base v l := by
  rcases h.2 with ⟨rfl, hn⟩ | ⟨g, cap, cur, rfl, hb, hh, hnc, hcm, hcs, htake⟩
  · exact .inl ⟨rfl, List.eq_nil_of_length_eq_zero hn⟩
  · exact .inr ⟨g, cap, cur.toList, rfl, hb, by simpa using hh, hnc, by simp at hcs; simp; omega, hcm, by simpa using htake⟩
theorem SRow.cells (h : SRow w base v l) {k : Nat} (hk : v.ownBlock = some k) : ∃ cs, w.heap[k]? = some (.cells cs 9 (0, 0)) := by
  rcases h with ⟨rfl, _⟩ | ⟨g, c, cur, rfl, _, hh, _⟩
  · cases hk
  · cases hk; exact ⟨_, hh⟩
theorem SRow.fr {S : Nat → Prop} (h : SRow w base v l) (hk : Fr S w w') (hne : ∀ k, v.ownBlock = some k → ¬ S k) : SRow w' base v l := by
  rcases h with ⟨rfl, h2⟩ | ⟨g, c, cur, rfl, hb, hh, r⟩
  · exact .inl ⟨rfl, h2⟩
  · exact .inr ⟨g, c, cur, rfl, hb, blk_fr hh hk (hne g rfl), r⟩
theorem SRow.alloc (h : SRow w base v l) (o : Obj) : SRow (w.alloc o) base v l := h.fr (S := no) ((Fr.refl w no).alloc o) (fun _ _ h => h)
theorem SRow.lt (h : SRow w base v l) {k : Nat} (hk : v.ownBlock = some k) : k < w.heap.size := by
  obtain ⟨cs, hc⟩ := h.cells hk
  exact blk_lt hc
theorem SRow.form (h : SRow w base v l) : ∃ A c, v = .slice A l.length c ∧ l.length ≤ c ∧ c ≤ maxLen ∧ ER E9 w A l := by
  rcases h with ⟨rfl, rfl⟩ | ⟨g, c, cur, rfl, hb, hh, hl, hc, hm, ht⟩
  · exact ⟨none, 0, rfl, Nat.le_refl _, Nat.zero_le _, fun j hj => absurd hj (by simp)⟩
  · refine ⟨_, c, rfl, hl, hm, fun j hj => ⟨_, rfl, fun i u hu => ?_⟩⟩
    have hi : i = 0 := by
      rcases Nat.eq_zero_or_pos i with h | h
      · exact h
      · have : (E9.cells l[j])[i]? = none := List.getElem?_eq_none (by show 1 ≤ i; omega)
        rw [this] at hu; cases hu
    subst hi
    rw [add_plain, cell_of_row w g _ cur.toArray 9 (0, 0) hh]
    have h1 : (cur.take l.length)[j]? = (strs l)[j]? := by rw [ht]
    rw [List.getElem?_take_of_lt hj] at h1
    have hz : E9.sz = 1 := rfl
    have h2 : (E9.cells l[j])[0]? = some (Value.string l[j]) := rfl
    rw [h2] at hu
    simp [strs, encs, List.getElem?_eq_getElem hj] at h1
    simp [hz, h1]
    exact Option.some.inj hu
theorem SRow.cut {g c : Nat} (h : SRow w base (.slice (some ⟨g, 0, none⟩) l.length c) l) (k : Nat) (hk : k ≤ l.length) : SRow w base (.slice (some ⟨g, 0, none⟩) k k) (l.take k) := by
  rcases h with ⟨h1, _⟩ | ⟨g', c', cur, he, hb, hh, hl, hc, hm, ht⟩
  · cases h1
  · injection he with e1 e2 e3
    injection e1 with e1
    injection e1 with e1
    subst e1 e3
    have hlen : (l.take k).length = k := by simp; omega
    refine .inr ⟨g, k, cur, by rw [hlen], hb, hh, by omega, by omega, by omega, ?_⟩
    rw [hlen]
    have := congrArg (List.take k) ht
    rw [List.take_take, Nat.min_eq_left hk] at this
    rw [this]
    simp [strs, encs]
end
section
variable {ops : Array Oper} {rest : List Oper} {o : Oper} {a : Act} {Q : Exit → Act → World → Prop}
theorem wpL_append_row {W : World} (base : Nat) (hgd : o.guard = none) (s x : Operand) (ho : o.op = .call { callee := .builtin .append, args := #[s, x], argTypes := #[27, 27] })
    (v : Value) (l : List ByteArray) (y : ByteArray) (k : Nat) (hs : a.eval s = v) (hx : a.eval x = .slice (some ⟨k, 0, none⟩) 1 1) (hk : W.heap[k]? = some (.cells #[.string y] 9 (0, 0))) (HO : SRow W base v l) (hbase : base ≤ W.heap.size) (hl : l.length < 1000000000000)
    (h : ∀ g c w1, SRow w1 base (.slice (some ⟨g, 0, none⟩) (l.length + 1) c) (l ++ [y]) → Fr (fun k => v.ownBlock = some k) W w1 → wpList Try.prog ops Q rest (a.put o.dst (.slice (some ⟨g, 0, none⟩) (l.length + 1) c)) w1) :
    wpList Try.prog ops Q (o :: rest) a W := by
  have hlen : (l ++ [y]).length = l.length + 1 := by simp
  rcases HO with ⟨rfl, rfl⟩ | ⟨g, c, cur, rfl, hb, hh, hlc, hcc, hcm, ht⟩
  · refine wpL_append_str base hgd s x ho _ [] y k hs hx hk (SOwn.nil _ _) hbase (by simp) ?_
    intro g c w1 h1 h2 _ _ _
    exact h g c w1 (SRow.of_own h1) h2
  · obtain ⟨i0, hi, hzz⟩ := Option.map_eq_some_iff.1 info9
    simp only [Prod.mk.injEq] at hzz
    obtain ⟨hz0, hz1, hz2⟩ := hzz
    have hget : ∀ j u, (strs l)[j]? = some u → W.cell? ⟨g, 0 + j, none⟩ = some u := by
      intro j u hu
      rw [Nat.zero_add, cell_of_row W g _ cur.toArray 9 (0, 0) hh]
      have hj : j < l.length := by
        rcases Nat.lt_or_ge j l.length with h | h
        · exact h
        · rw [List.getElem?_eq_none (by simp [strs, encs]; omega)] at hu; cases hu
      rw [← ht, List.getElem?_take_of_lt hj] at hu
      simpa using hu
    refine wpList_append_arg W hgd s x 27 ho 9 i0 _ 1 16 Try.underlying27 hi hz0 hz1 hz2 rfl (by decide) g 0 l.length c (strs l) hs (by simp [strs, encs]) hget ⟨k, 0, none⟩ 1 1 [.string y] hx rfl (World.news_of_block hk) (by intro u hu; simp at hu; subst hu; rfl) ?_ (by simp only [maxLen]; omega) (by omega) ?_ ?_
    · intro hroom j hj
      have hj0 : j = 0 := by simp at hj; omega
      subst hj0
      refine ⟨?_, blk_frozen hh _⟩
      rw [cell_of_row W g _ cur.toArray 9 (0, 0) hh]
      simp
      omega
    · intro hroom
      have e1 : W.setCells g (0 + l.length * 1) [.string y] = W.setCell ⟨g, l.length, none⟩ (.string y) := by simp [World.setCells]
      rw [e1]
      refine h g c _ (.inr ⟨g, c, cur.set l.length (.string y), by rw [hlen], hb, ?_, by omega, by simpa using hcc, hcm, ?_⟩) ((Fr.refl W (fun k => (Value.slice (some ⟨g, 0, none⟩) l.length c).ownBlock = some k)).setCell (p := ⟨g, l.length, none⟩) (.inl rfl) _)
      · have := blk_set hh l.length (.string y)
        simpa using this
      · rw [hlen]
        apply List.ext_getElem?
        intro j
        have h2 : (strs (l ++ [y]))[j]? = if j < l.length then (strs l)[j]? else if j = l.length then some (.string y) else none := by
          simp only [strs, encs, List.map_append, List.getElem?_append, List.length_map]
          split
          · rfl
          · split
            · rename_i h1 h3; subst h3; simp
            · rw [List.getElem?_eq_none (by simp; omega)]
        rw [h2, ← ht]
        by_cases h3 : j < l.length
        · rw [if_pos h3, List.getElem?_take_of_lt (by omega), List.getElem?_take_of_lt h3, List.getElem?_set, if_neg (by omega)]
        · rw [if_neg h3]
          by_cases h4 : j = l.length
          · subst h4
            rw [if_pos rfl, List.getElem?_take_of_lt (by omega), List.getElem?_set, if_pos rfl, if_pos (by omega)]
          · rw [if_neg h4, List.getElem?_eq_none (by simp; omega)]
    · intro hgrow v' w' hown hg
      have hown' : SOwn w' base v' (l ++ [y]) := by
        have h0 : SOwn w' W.heap.size v' (l ++ [y]) := by unfold SOwn; rw [hlen]; simpa [strs, encs] using hown
        exact own_less h0 hbase
      obtain ⟨g', c', rfl, _, _, _⟩ := hown'.slice (by omega)
      rw [hlen] at hown' ⊢
      exact h g' c' w' (SRow.of_own hown') (.of_grown hg (fun k e => by cases e))
end
end Go.Proofs.Ytdpchfifaidamaa.K
